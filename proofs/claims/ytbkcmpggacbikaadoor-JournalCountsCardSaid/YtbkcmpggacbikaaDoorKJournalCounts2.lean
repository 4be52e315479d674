/-
  Texts that the row of this claim stands on, one behind the other.
-/
import Derived.Laws.StructEq
import Derived.Deep.LoopGhost
import Derived.Laws.Sem
import Derived.RangeFuncLeaves
import Derived.RangeFuncRecord
import Derived.RangeFuncOwn
import Derived.Test.YtbkcmpggacbikaaDoorKJournalCounts1
section
/-
  A walk that reckons: copy, clear, texts made bytes, structs compared.
-/
set_option linter.unusedVariables false
set_option linter.unusedSimpArgs false
namespace Go.Proofs.YtbkcmpggacbikaaDoor
open Go.RowKit
section
variable {P : Program} {C : Ctx} {PL : Nat → Option Pl} {s : St} {Fr : Nat → Prop} {a : Act} {w : World} {o : Oper} {Q : Exit → Act → World → Prop}
theorem snd_same (h : Sat C PL s Fr a w) {id : Nat} {c0 c : Ck} (hc0 : hget s.hp id = some c0) (hok : Tr C PL s.hp w PL (hupd [(id, some c)] s.hp) w → CkOk PL w (Avo C PL (hupd [(id, some c)] s.hp)) id c) {y : Value} {v : SV}
  (hr : (execOp a.eval o).run P w = .ok (.value y) w) (hv : Den PL w (Avo C PL (hupd [(id, some c)] s.hp)) v y) {ob : List Prop} {rd wr : List Nat} :
  o.wp P a w (Eff.post ⟨ob, rd, wr, .one v [(id, some c)]⟩ C s o.dst Fr) Q := by
 have m := Mv.write h.toHSat id c0 c hc0 w rfl rfl rfl rfl (fun k hk => rfl)
 have t := h.toHSat.tr m
 have H := h.toHSat.mv m (fun i c' hu => by
  obtain ⟨rfl, hc⟩ := ulook_one hu
  injection hc with hc
  subst hc
  exact hok t)
 exact wp_val hr ⟨PL, h.mv H t o.dst _ _ fun u hu => by injection hu with hu; subst hu; exact hv⟩
theorem run_copy {t st ty e : TypeId} {i : TypeInfo} (ht : P.underlying t = some (.slice e)) (hi : P.info? e = some i) (A B : Option Addr) (n m c1 c2 : Nat) (news : List Value) (hnl : news.length = (min m n) * i.size) (hB : 0 < m → B.isSome = true)
  (hnews : ∀ ad, B = some ad → ∀ j u, news[j]? = some u → w.cell? (ad.add j) = some u) (w' : World) (hst : ∀ b, A = some b → (storeCells b news).run P w = .ok () w') (hnone : A = none → w' = w) :
  (Builtin.copy_ #[t, st] ty #[.slice A n c1, .slice B m c2]).run P w = .ok (.int .i64 ((min m n : Nat) : Int)) w' := by
 have hf : (Builtin.firstCells i.size (min m n) (.slice B m c2)).run P w = .ok news.toArray w := by
  cases B with
  | none =>
   have hm : m = 0 := by
    by_cases h : 0 < m
    ·simpa using hB h
    ·omega
   subst hm
   have : news = [] := List.eq_nil_of_length_eq_zero (by rw [hnl]; simp)
   subst this
   simp [Builtin.firstCells]
  | some ad =>
   have := run_loadCells_list (P := P) w ad news (hnews ad rfl)
   rw [hnl] at this
   simp [Builtin.firstCells, this]
 have hmin : Nat.min m n = min m n := rfl
 cases A with
 | none =>
  have := hnone rfl
  subst this
  simp [Builtin.copy_, run_underlying ht, Builtin.lenOf, run_sizeOf hi, hmin, hf, goInt]
 | some b =>
  have := hst b rfl
  simp [Builtin.copy_, run_underlying ht, Builtin.lenOf, run_sizeOf hi, hmin, hf, goInt, this]
structure Cpy (P : Program) (o : Oper) (e : TypeId) (x y : Operand) : Prop where
 c : ∃ c t, o.op = .call c ∧ c.callee = .builtin .copy ∧ c.args.toList = [x, y] ∧ c.argTypes[0]? = some t ∧ P.underlying t = some (.slice e)
theorem snd_copy0 (h : Sat C PL s Fr a w) {e : TypeId} {x y : Operand} (hC : Cpy P o e x y) (hz : P.cellsOf e ≠ 0) {x' y' : Opnd} (hx : cX x = some x') (hy : cX y = some y') {v : SV}
  (h1 : s.ev x' = some v) (hv : (∃ id, v = .wsl id) ∨ ∃ id lo n, v = .sl id lo n) (h2 : s.ev y' = some .nsl) {ob : List Prop} {rd : List Nat} :
  o.wp P a w (Eff.post ⟨ob, rd, [], .one (.v (.int .i64 0)) []⟩ C s o.dst Fr) Q := by
 have d1 := ev_den h hx h1
 have d2 := ev_den h hy h2
 obtain ⟨i, hi, hisz⟩ := info_of hz
 obtain ⟨c, t, ho, hc, ha, hat, ht⟩ := hC.c
 have hyv : a.eval y = .slice none 0 0 := by generalize a.eval y = yv at d2; cases d2; rfl
 obtain ⟨A, n, cap, hxv⟩ : ∃ A n cap, a.eval x = .slice A n cap := by
  rcases hv with ⟨id, rfl⟩ | ⟨id, lo, n, rfl⟩
  ·generalize a.eval x = xv at d1; cases d1; exact ⟨_, _, _, rfl⟩
  ·generalize a.eval x = xv at d1; cases d1; exact ⟨_, _, _, rfl⟩
 refine post_pure h (x := .int .i64 0) ?_ (.v _)
 rw [run_call_builtin ho hc ha _ rfl]
 let st : TypeId := 0
 have := run_copy (P := P) (w := w) (st := st) (ty := o.type) ht hi A none n 0 cap 0 [] (by simp) (fun h => absurd h (by simp)) (fun ad e => by cases e) w (fun b _ => by simp [storeCells]) (fun _ => rfl)
 have hat' : c.argTypes.toList[0]? = some t := by simpa using hat
 have e : Builtin.copy_ c.argTypes o.type #[.slice A n cap, .slice none 0 0] = Builtin.copy_ #[t, st] o.type #[.slice A n cap, .slice none 0 0] := by
  unfold Builtin.copy_
  rw [hat]
  rfl
 simp [builtin, hxv, hyv, e, this]
theorem snd_copy (h : Sat C PL s Fr a w) {e : TypeId} {x y : Operand} (hC : Cpy P o e x y) (hz : P.cellsOf e ≠ 0) {x' y' : Opnd} (hx : cX x = some x') (hy : cX y = some y') {v z : SV} {id lo n : Nat} {p q r : R}
  (h1 : s.ev x' = some v) (hv : (v = .wsl id ∧ lo = 0 ∧ n = rlen p) ∨ v = .sl id lo n) (hp : rowOf s.hp id = some p) (hps : p.sz = P.cellsOf e) (h2 : s.ev y' = some z) (hq : rowS s.hp z = some q)
  (hr : p.splice lo (q.sub 0 (min n (rlen q))) = some r) {ob : List Prop} {rd wr : List Nat} :
  o.wp P a w (Eff.post ⟨ob, rd, wr, .one (.v (.int .i64 ((min n (rlen q) : Nat) : Int))) [(id, some (.row r))]⟩ C s o.dst Fr) Q := by
 have d1 := ev_den h hx h1
 have d2 := ev_den h hy h2
 obtain ⟨i, hi, hisz⟩ := info_of hz
 obtain ⟨c, t, ho, hc, ha, hat, ht⟩ := hC.c
 let st : TypeId := 0
 obtain ⟨B, c2, hyv, hc2, hBs, hcells⟩ := row_cells h.toHSat hq d2
 have hm1 : min n (rlen q) ≤ rlen q := Nat.min_le_right _ _
 have hm2 : min n (rlen q) ≤ n := Nat.min_le_left _ _
 obtain ⟨news, hnl, hnc, hn1, hnd⟩ := hcells (min n (rlen q)) hm1
 generalize hmm : min n (rlen q) = m at *
 have hsl : rlen (q.sub 0 m) = m := R.sub_len q 0 m (by omega)
 obtain ⟨pl, hpl, l1, l2, l3, hrow⟩ := row_rp (h.ck id _ (rowOf_some hp))
 have hfit : lo + n ≤ rlen p := by
  rcases hv with ⟨_, rfl, rfl⟩ | rfl
  ·omega
  ·generalize a.eval x = xv at d1
   cases d1 with
   | sl _ _ _ p' A cap hp' hl hc' hn hA =>
    rw [hpl] at hp'; injection hp' with hp'; subst hp'
    omega
 obtain ⟨s1, s2, s3, s4, s5, s6⟩ := splice_spec hr (by omega)
 have hqsz : q.sz = p.sz := by rw [R.sub_sz] at s2; exact s2
 have hnl' : news.length = (min (rlen q) n) * i.size := by rw [hnl, Nat.min_comm, hmm, hqsz, hps, hisz]
 have hnrp : RP PL w (Avo C PL s.hp) (q.sub 0 m) news := fun k j hk hj => by
  have hk' : k < m := by omega
  have e := R.sub_elem q 0 m k hk'
  rw [Nat.zero_add] at e
  have hj2 : j < (q.elem k).length := by rw [← e]; exact hj
  obtain ⟨u, e1, e2⟩ := hnd k j hk' hj2
  exact ⟨u, by rw [R.sub_sz]; exact e1, den_eq e hj hj2 e2, hn1 u (List.mem_of_getElem? e1)⟩
 have hval : ((min (rlen q) n : Nat) : Int) = (m : Int) := by rw [Nat.min_comm, hmm]
 obtain ⟨A, cap, hxv, hAcase⟩ : ∃ A cap, a.eval x = .slice A n cap ∧ ((A = none ∧ pl.a = none) ∨ ∃ b, pl.a = some ⟨b, 0, none⟩ ∧ A.isSome = true ∧ (n ≠ 0 → A = some ⟨b, lo * p.sz, none⟩)) := by
  rcases hv with ⟨rfl, rfl, rfl⟩ | rfl
  ·generalize hxe : a.eval x = xv at d1
   cases d1 with
   | wsl _ p' hp' =>
    rw [hpl] at hp'; injection hp' with hp'; subst hp'
    refine ⟨pl.a, pl.cap, by rw [l1], ?_⟩
    rcases hrow with ⟨hn, _⟩ | ⟨b, cs, g1, _⟩
    ·exact .inl ⟨hn, hn⟩
    ·exact .inr ⟨b, g1, by simp [g1], fun _ => by rw [g1]; simp⟩
  ·generalize hxe : a.eval x = xv at d1
   cases d1 with
   | sl _ _ _ p' A cap hp' hl hc' hn hA =>
    rw [hpl] at hp'; injection hp' with hp'; subst hp'
    refine ⟨A, cap, rfl, ?_⟩
    rcases hrow with ⟨hn', _⟩ | ⟨b, cs, g1, _⟩
    ·exact .inl ⟨hn.2 hn', hn'⟩
    ·refine .inr ⟨b, g1, ?_, fun h0 => ?_⟩
     ·cases A with
      | none => have := hn.1 rfl; rw [g1] at this; cases this
      | some _ => rfl
     ·rw [hA h0, g1, ← l2]
      simp [add_lit']
 have hrun : ∀ w', (∀ b, A = some b → (storeCells b news).run P w = .ok () w') → (A = none → w' = w) → (execOp a.eval o).run P w = .ok (.value (.int .i64 (m : Int))) w' := by
  intro w' k1 k2
  rw [run_call_builtin ho hc ha _ rfl]
  have := run_copy (P := P) (w := w) (st := st) (ty := o.type) ht hi A B n (rlen q) cap c2 news hnl' hBs hnc w' k1 k2
  have hat' : c.argTypes.toList[0]? = some t := by simpa using hat
  rw [hval] at this
  have e : Builtin.copy_ c.argTypes o.type #[.slice A n cap, .slice B (rlen q) c2] = Builtin.copy_ #[t, st] o.type #[.slice A n cap, .slice B (rlen q) c2] := by
   unfold Builtin.copy_
   rw [hat]
   rfl
  simp [builtin, hxv, hyv, e, this]
 rcases hAcase with ⟨hA0, hpa⟩ | ⟨b, hpa, hAs, hAn⟩
 ·-- no memory
  rcases hrow with ⟨_, hc0, hl0⟩ | ⟨b, cs, g1, _⟩
  ·have run := hrun w (fun b e => by rw [hA0] at e; cases e) (fun _ => rfl)
   refine snd_same h (rowOf_some hp) (fun _ => rp_nil hpl (by omega) (by omega) (by omega) hpa hc0 (by omega)) run (.v _)
  ·rw [hpa] at g1; cases g1
 ·rcases hrow with ⟨hn', _⟩ | ⟨b', cs, g1, g2, g3, g4, g5, g6⟩
  ·rw [hn'] at hpa; cases hpa
  ·rw [hpa] at g1; injection g1 with g1; injection g1 with g1; subst g1
   have hnl2 : news.length = m * p.sz := by rw [hnl, hqsz]
   have hrange : lo * p.sz + news.length ≤ cs.size := by
    rw [hnl2, g5, ← Nat.add_mul]
    exact Nat.mul_le_mul_right _ (by omega)
   have hrlen : rlen p * p.sz ≤ cs.toList.length := by
    have : rlen p * p.sz ≤ pl.cap * p.sz := Nat.mul_le_mul_right _ g3
    simp; omega
   have hstore : ∀ ad, A = some ad → (storeCells ad news).run P w = .ok () (w.setRow b (cs.toList.take (lo * p.sz) ++ news ++ cs.toList.drop (lo * p.sz + news.length)).toArray) := by
    intro ad e
    by_cases h0 : n = 0
    ·have hm0 : m = 0 := by omega
     have : news = [] := List.eq_nil_of_length_eq_zero (by rw [hnl2, hm0]; simp)
     subst this
     have e2 : (cs.toList.take (lo * p.sz) ++ [] ++ cs.toList.drop (lo * p.sz + ([] : List Value).length)).toArray = cs := by simp
     rw [e2, setRow_self w b cs p.T (0, 0) g2]
     simp [storeCells]
    ·have := hAn h0
     rw [e] at this
     injection this with this
     subst this
     have := run_storeCells_at P b (lo * p.sz) p.T news 0 cs w g2 (by omega) hn1
     simpa using this
   have run := hrun _ hstore (fun e => by rw [e] at hAs; simp at hAs)
   refine snd_write h (rowOf_some hp) hpl hpa g2 (fun t => ?_) (.inr rfl) run (fun _ => .v _)
   have hmn : ∀ v x, Den PL w (Avo C PL s.hp) v x → Den PL (w.setRow b _) (Avo C PL (hupd [(id, some (.row r))] s.hp)) v x := fun v x d => d.tr t
   have key := (g6.mono hmn).splice (hnrp.mono hmn) (r := r) lo s2 s1 s4 (by omega) hrlen (by rw [hnl2, hsl]) (fun i hi => s5 i hi) (fun i hi hi2 => s6 i hi hi2)
   refine rp_row hpl (by omega) (by omega) (by omega) hpa (by rw [s3]; exact setRow_at _ _ _ _ _ _ g2) (by omega) g4 ?_ (by simpa using key)
   simp only [List.size_toArray, List.length_append, List.length_take, List.length_drop, Array.length_toList, s1]
   omega
theorem snd_clear_nil (h : Sat C PL s Fr a w) {c : Call} {t e : TypeId} {x : Operand} {x' : Opnd} (ho : o.op = .call c) (hc : c.callee = .builtin .clear) (ha : c.args.toList = [x]) (hat : c.argTypes[0]? = some t) (ht : P.underlying t = some (.slice e)) (hx : cX x = some x')
  (h1 : s.ev x' = some .nsl) : o.wp P a w (Eff.post (.pure (.tup [])) C s o.dst Fr) Q := by
 have d1 := ev_den h hx h1
 generalize hxe : a.eval x = xv at d1
 cases d1
 refine post_pure h (x := .tuple #[]) ?_ (.tup [] [] rfl (fun j h1 _ => absurd h1 (by simp)))
 rw [run_call_builtin ho hc ha _ rfl]
 simp [builtin, hxe, Builtin.clear_, hat, run_underlying ht]
theorem snd_clear (h : Sat C PL s Fr a w) {c : Call} {t e : TypeId} {x : Operand} {x' : Opnd} {rk : RK} {id : Nat} {r : R} (ho : o.op = .call c) (hc : c.callee = .builtin .clear) (ha : c.args.toList = [x]) (hat : c.argTypes[0]? = some t) (ht : P.underlying t = some (.slice e)) (hx : cX x = some x')
  (hrk : rkOf P e = some rk) (h1 : s.ev x' = some (.wsl id)) (hr : rowOf s.hp id = some r) (hrs : r.sz = rk.sz) (hrT : r.T = rk.T) {ob : List Prop} {rd wr : List Nat} :
  o.wp P a w (Eff.post ⟨ob, rd, wr, .one (.tup []) [(id, some (.row (rk.rep r.len)))]⟩ C s o.dst Fr) Q := by
 have d1 := ev_den h hx h1
 obtain ⟨i, z, hi, hz, hzv, hsz, h0, hT, hby⟩ := rkOf_spec hrk
 have hzs : z.cells.size = rk.sz := by have := zvals_len rk; rw [← hzv] at this; simpa using this
 generalize hxe : a.eval x = xv at d1
 cases d1 with
 | wsl _ p hp =>
  obtain ⟨p', hp', l1, l2, l3, hrow⟩ := row_rp (h.ck id _ (rowOf_some hr))
  rw [hp] at hp'; injection hp' with hp'; subst hp'
  rw [R.len_eq]
  have hden : ∀ w' Av, Den PL w' Av (.tup []) (.tuple #[]) := fun w' Av => .tup [] [] rfl (fun j h1 _ => absurd h1 (by simp))
  obtain ⟨z1, z2, z3, _⟩ := rep_spec (PL := PL) (w := w) (Av := Avo C PL s.hp) rk (rlen r)
  rcases hrow with ⟨hn, hc0, hl0⟩ | ⟨b, cs, g1, g2, g3, g4, g5, g6⟩
  ·refine snd_same h (rowOf_some hr) (fun _ => rp_nil hp (by omega) (by omega) (by omega) hn hc0 (by omega)) ?_ (hden _ _)
   rw [run_call_builtin ho hc ha _ rfl]
   simp [builtin, hxe, Builtin.clear_, hat, run_underlying ht, hn]
  ·by_cases hr0 : rlen r = 0
   ·refine snd_same h (rowOf_some hr) (fun _ => rp_row hp (by omega) (by omega) (by omega) g1 (by rw [z2, ← hrT]; exact g2) (by omega) g4 (by rw [g5, z1, hrs]) (RP.nil (by omega))) ?_ (hden _ _)
    rw [run_call_builtin ho hc ha _ rfl]
    have hl : p.len = 0 := by omega
    simp [builtin, hxe, Builtin.clear_, hat, run_underlying ht, g1, hl]
   ·have hzl : (Builtin.zeroCells z.cells (rlen r)).toList.length = rlen r * r.sz := by simp [size_zeroCells, hzs, hrs]
    have hrow1 : rlen r * r.sz ≤ p.cap * r.sz := Nat.mul_le_mul_right _ g3
    have hz1 : ∀ u ∈ (Builtin.zeroCells z.cells (rlen r)).toList, u.oneCell' = true := by
     intro u hu
     obtain ⟨k, hk, rfl⟩ := List.mem_iff_getElem.1 hu
     have hk' : k < rlen r * rk.sz := by rw [← hrs]; omega
     have hdiv : k / rk.sz < rlen r := by rw [Nat.div_lt_iff_lt_mul h0]; exact hk'
     have hmod : k % rk.sz < rk.sz := Nat.mod_lt _ h0
     have g := zero_get z.cells (rlen r) (k / rk.sz) (k % rk.sz) rk.sz hzs h0 hmod hdiv
     rw [Nat.mul_comm (k / rk.sz), Nat.div_add_mod, List.getElem?_eq_getElem hk] at g
     have hm1 : k % rk.sz < z.cells.toList.length := by simp; omega
     rw [List.getElem?_eq_getElem hm1] at g
     injection g with g
     rw [g]
     have hd := (rep_spec (PL := PL) (w := w) (Av := Avo C PL s.hp) rk 1).2.2.2 0 (by omega)
     have hm2 : k % rk.sz < rk.zvals.length := by rw [zvals_len]; exact hmod
     have := (hd.2 (k % rk.sz) (by rw [← hd.1]; exact hm2) hm2).2
     have e : z.cells.toList[k % rk.sz] = rk.zvals[k % rk.sz] := by congr 1
     rw [e]
     exact this
    have hst := run_storeCells_at P b 0 r.T (Builtin.zeroCells z.cells (rlen r)).toList 0 cs w g2 (by rw [hzl, g5]; omega) hz1
    refine snd_write h (rowOf_some hr) hp g1 g2 (cs := (cs.toList.take (0 + 0) ++ (Builtin.zeroCells z.cells (rlen r)).toList ++ cs.toList.drop (0 + 0 + (Builtin.zeroCells z.cells (rlen r)).toList.length)).toArray) (fun t' => ?_) (.inr rfl) ?_ (fun _ => hden _ _)
    ·refine rp_row hp (by omega) (by omega) (by omega) g1 (by rw [z2, ← hrT]; exact setRow_at _ _ _ _ _ _ g2) (by omega) g4 ?_ ?_
     ·simp only [List.size_toArray, List.length_append, List.length_take, List.length_drop, Array.length_toList, z1]
      have := hzl
      simp only [Array.length_toList] at this
      rw [hrs] at *
      omega
     ·obtain ⟨_, _, _, z4⟩ := rep_spec (PL := PL) (w := w.setRow b (cs.toList.take (0 + 0) ++ (Builtin.zeroCells z.cells (rlen r)).toList ++ cs.toList.drop (0 + 0 + (Builtin.zeroCells z.cells (rlen r)).toList.length)).toArray) (Av := Avo C PL (hupd [(id, some (.row (rk.rep (rlen r))))] s.hp)) rk (rlen r)
      have := (RP.reps (r := rk.rep (rlen r)) (zs := rk.zvals) (cs := (Builtin.zeroCells z.cells (rlen r)).toList) (by rw [zvals_len, z1]) (fun i hi => z4 i (by omega)) (fun i' j hi' hj => by
       rw [z1] at hj ⊢
       rw [← hzv]
       exact zero_get z.cells _ i' j rk.sz hzs h0 hj (by omega))).append (cs.toList.drop (0 + 0 + (Builtin.zeroCells z.cells (rlen r)).toList.length))
      simpa using this
    ·rw [run_call_builtin ho hc ha _ rfl]
     have hl : p.len ≠ 0 := by omega
     obtain ⟨n, hn⟩ : ∃ n, p.len = n + 1 := ⟨p.len - 1, by omega⟩
     rw [← l1, hn] at hst ⊢
     simp only [builtin, hxe, List.map_cons, List.map_nil, Builtin.clear_, hat]
     simp [run_underlying ht, g1, hn, run_zero hi hz, hst]
theorem run_sla {t e : TypeId} {n : Nat} (ht : P.underlying t = some (.array n e)) (hc : P.cellsOf e = 1) (hn : 1 ≤ n) (A : Addr) : (Instr.sliceAt t (.pointer (some A)) none none none).run P w = .ok (.slice (some A) n n) w := by
 obtain ⟨i, hi, he⟩ := info_of (show P.cellsOf e ≠ 0 by omega)
 have h0 : ¬ n = 0 := by omega
 simp [Instr.sliceAt, run_underlying ht, Instr.sureAddr, Instr.sliceBounds, run_sizeOf hi, h0, add_zero']
theorem snd_sla (h : Sat C PL s Fr a w) {f : Nat} (hf : Fr f) (hk : ¬ f < C.k) {t e : TypeId} {n : Nat} {x : Operand} {x' : Opnd} {id : Nat} {T : TypeId} {vs : List SV} {xs : List Int} (ho : o.op = .slice t x none none none) (ht : P.underlying t = some (.array n e)) (hc : P.cellsOf e = 1) (hn : 1 ≤ n) (hm : n ≤ 16777216) (hx : cX x = some x')
  (h1 : s.ev x' = some (.ptr id 0)) (hb : blkOf s.hp id = some (T, vs)) (hu : u8L vs = some xs) (hl : xs.length = n) (hob : allU8 xs) {ob : List Prop} {rd wr : List Nat} :
  o.wp P a w (Eff.post ⟨ob, rd, wr, .one (.wsl f) [(id, none), (f, some (.row (.bs T (bsL xs))))]⟩ C s o.dst (fun i => Fr i ∧ i ≠ f)) Q := by
 have d1 := ev_den h hx h1
 have hg := blkOf_some hb
 have hck := h.ck id _ hg
 obtain ⟨p, b, cs, hp, ha, hh, hd⟩ := blk_dens hck
 have hvs := u8L_spec hu
 have hidf : id ≠ f := fun e => by rw [e, h.fr f hf] at hp; cases hp
 have hcs : cs.size = n := by
  have := hd.1
  rw [hvs] at this
  simp only [List.length_map, Array.length_toList] at this
  omega
 generalize hq : a.eval x = q at d1
 cases d1 with
 | ptr _ _ b' p' hp' ha' =>
  rw [hp] at hp'; injection hp' with hp'; subst hp'
  rw [ha] at ha'
  injection ha' with ha'
  injection ha' with ha'
  subst ha'
  have hlu : ∀ i c, ulook [(id, (none : Option Ck)), (f, some (.row (.bs T (bsL xs))))] i = some (some c) → i = f ∧ c = .row (.bs T (bsL xs)) := by
   intro i c hi
   cases hb1 : Nat.beq i f with
   | true =>
    simp only [ulook, hb1] at hi
    injection hi with hi; injection hi with hi
    exact ⟨(nbeq _ _).1 hb1, hi.symm⟩
   | false =>
    simp only [ulook, hb1] at hi
    cases hb2 : Nat.beq i id <;> rw [hb2] at hi <;> cases hi
  have hid : ulook [(id, (none : Option Ck)), (f, some (.row (.bs T (bsL xs))))] id = some none := by
   simp only [ulook, (nbeq_false id f).2 hidf, (nbeq id id).2 rfl]
  have m : Mv C PL s.hp w [(id, none), (f, some (.row (.bs T (bsL xs))))] (padd PL f ⟨some ⟨b, 0, none⟩, n, n, 1⟩) (fun i => Fr i ∧ i ≠ f) w := by
   refine ⟨padd_ext _ (h.fr f hf), fun i hi => padd_ne _ _ _ _ (fun e => hk (e ▸ hi)), fun i hi => by rw [padd_ne _ _ _ _ hi.2]; exact h.fr i hi.1, rfl, rfl, rfl, Nat.le_refl _, fun _ _ _ => rfl, fun i c q b' hi hq' ha' => ?_, fun i j c d q q' b' hi hj _ _ _ _ => (hlu i c hi).1.trans (hlu j d hj).1.symm⟩
   obtain ⟨rfl, _⟩ := hlu i c hi
   rw [padd_eq] at hq'
   injection hq' with hq'
   subst hq'
   injection ha' with ha'
   injection ha' with ha'
   subst ha'
   exact .inr ⟨id, _, p, hg, hp, ha, .inr hid⟩
  have tr := h.toHSat.tr m
  have H := h.toHSat.mv m (fun i c hi => by
   obtain ⟨rfl, rfl⟩ := hlu i c hi
   refine rp_row (padd_eq _ _ _) (by show n = (bsL xs).length; rw [bsL_len]; omega) rfl (by show 0 < 1; omega) rfl hh (by show (bsL xs).length ≤ n; rw [bsL_len]; omega) (by show n ≤ maxLen; unfold maxLen; omega) (by rw [hcs]; exact (Nat.mul_one n).symm) ?_
   intro i j hi hj
   have hin : i < xs.length := by
    have : i < (bsL xs).length := hi
    rwa [bsL_len] at this
   simp only [R.elem, List.length_singleton] at hj
   obtain rfl : j = 0 := by omega
   refine ⟨.int .u8 xs[i], ?_, ?_, rfl⟩
   ·have h3 := (hd.2 i (by rw [hvs, List.length_map]; exact hin) (by simp only [Array.length_toList]; omega)).1
    have hlt : i < cs.toList.length := by simp only [Array.length_toList]; omega
    simp only [hvs, List.getElem_map] at h3
    generalize hc3 : cs.toList[i]'hlt = y at h3
    cases h3
    rw [List.getElem?_eq_getElem (by simp only [R.sz, Array.length_toList]; omega)]
    simp only [R.sz, Nat.mul_one, Nat.add_zero]
    rw [hc3]
   ·simp only [R.elem, List.getElem_cons_zero, lock_eq]
    rw [bsL_get i hob hin]
    exact .v _)
  refine wp_val (x := .slice (some ⟨b, 0, none⟩) n n) (w' := w) (by simp [execOp, ho, hq, run_sla ht hc hn]) ⟨_, h.mv H tr o.dst (some _) _ fun v hv => ?_⟩
  injection hv with hv
  subst hv
  exact .wsl f _ (padd_eq _ _ _)
theorem snd_esl (h : Sat C PL s Fr a w) {t e : TypeId} {n : Nat} {x : Operand} {x' : Opnd} {id i : Nat} {T : TypeId} {m : Nat} {l : List D} (ho : o.op = .slice t x none none none) (ht : P.underlying t = some (.array n e)) (hc : P.cellsOf e = 1) (hn : 1 ≤ n) (hx : cX x = some x')
  (h1 : s.ev x' = some (.ept id i 0)) (hb : rowOf s.hp id = some (.row T (.u8s m) l)) (hl : m = n) {ob : List Prop} {rd : List Nat} :
  o.wp P a w (Eff.post ⟨ob, rd, [], .one (.esl id i) []⟩ C s o.dst Fr) Q := by
 have d1 := ev_den h hx h1
 obtain ⟨p, hp, l1, l2, l3, hrow⟩ := row_rp (h.ck id _ (rowOf_some hb))
 have hsz : p.sz = n := by
  rw [l2]
  exact hl
 generalize hq : a.eval x = q at d1
 cases d1 with
 | ept _ _ _ b p' hp' ha' hlt =>
  rw [hp] at hp'; injection hp' with hp'; subst hp'
  refine post_pure h (x := .slice (some ⟨b, i * p.sz, none⟩) n n) ?_ ?_
  ·simp [execOp, ho, hq, run_sla ht hc hn]
  ·have := Den.esl (w := w) (Av := Avo C PL s.hp) id i b p hp ha' hlt
   rw [hsz] at this
   rw [hsz]
   exact this
theorem snd_copy_esl (h : Sat C PL s Fr a w) {e : TypeId} {x y : Operand} (hC : Cpy P o e x y) (hz : P.cellsOf e = 1) {x' y' : Opnd} (hx : cX x = some x') (hy : cX y = some y') {z : SV} {id i n : Nat} {T U : TypeId} {l : List D} {bl : List UInt8}
  (h1 : s.ev x' = some (.esl id i)) (hp : rowOf s.hp id = some (.row T (.u8s n) l)) (h2 : s.ev y' = some z) (hq : rowS s.hp z = some (.bs U bl)) {ob : List Prop} {rd wr : List Nat} :
  o.wp P a w (Eff.post ⟨ob, rd, wr, .one (.v (.int .i64 ((min n bl.length : Nat) : Int))) [(id, some (.row (.row T (.u8s n) (setD l i (cpA n (getD l i) bl)))))]⟩ C s o.dst Fr) Q := by
 have d1 := ev_den h hx h1
 have d2 := ev_den h hy h2
 obtain ⟨ti, hi, hisz⟩ := info_of (show P.cellsOf e ≠ 0 by omega)
 obtain ⟨c, t, ho, hc, ha, hat, ht⟩ := hC.c
 let st : TypeId := 0
 obtain ⟨B, c2, hyv, hc2, hBs, hcells⟩ := row_cells h.toHSat hq d2
 have hrq : rlen (.bs U bl) = bl.length := rfl
 have hm1 : min n bl.length ≤ bl.length := Nat.min_le_right _ _
 have hm2 : min n bl.length ≤ n := Nat.min_le_left _ _
 obtain ⟨news, hnl, hnc, hn1, hnd⟩ := hcells (min n bl.length) hm1
 rw [show (R.bs U bl).sz = 1 from rfl, Nat.mul_one] at hnl
 generalize hmm : min n bl.length = m at *
 obtain ⟨r, hr⟩ : ∃ r, r = R.row T (.u8s n) l := ⟨_, rfl⟩
 obtain ⟨r', hr'⟩ : ∃ r', r' = R.row T (.u8s n) (setD l i (cpA n (getD l i) bl)) := ⟨_, rfl⟩
 rw [← hr] at hp
 rw [← hr']
 have hsz : r.sz = n := by
  rw [hr]
  rfl
 have hsz' : r'.sz = r.sz := by rw [hr, hr']; rfl
 have hrl : rlen r' = rlen r := by rw [hr, hr']; simp [rlen, setD]
 have hTT : r'.T = r.T := by rw [hr, hr']; rfl
 obtain ⟨p, hpl, l1, l2, l3, hrow⟩ := row_rp (h.ck id _ (rowOf_some hp))
 generalize hxe : a.eval x = xv at d1
 cases d1 with
 | esl _ _ b p' hp' ha' hlt =>
  rw [hpl] at hp'; injection hp' with hp'; subst hp'
  rcases hrow with ⟨hna, _⟩ | ⟨b', cs, g1, g2, g3, g4, g5, g6⟩
  ·rw [hna] at ha'; cases ha'
  ·rw [ha'] at g1; injection g1 with g1; injection g1 with g1; subst g1
   have hir : i < rlen r := by omega
   have hir2 : i < l.length := by rw [hr] at hir; exact hir
   have hrow1 : (i + 1) * r.sz ≤ p.cap * r.sz := Nat.mul_le_mul_right _ (by omega)
   rw [Nat.add_mul] at hrow1
   have hrlen : rlen r * r.sz ≤ cs.toList.length := by
    have : rlen r * r.sz ≤ p.cap * r.sz := Nat.mul_le_mul_right _ g3
    simp; omega
   have hstore : (storeCells ⟨b, i * p.sz, none⟩ news).run P w = .ok () (w.setRow b (cs.toList.take (i * p.sz) ++ news ++ cs.toList.drop (i * p.sz + news.length)).toArray) := by
    have := run_storeCells_at P b (i * p.sz) r.T news 0 cs w g2 (by rw [hnl, l2, g5]; omega) hn1
    simpa using this
   have run : (execOp a.eval o).run P w = .ok (.value (.int .i64 (m : Int))) (w.setRow b (cs.toList.take (i * p.sz) ++ news ++ cs.toList.drop (i * p.sz + news.length)).toArray) := by
    rw [run_call_builtin ho hc ha _ rfl]
    have := run_copy (P := P) (w := w) (st := st) (ty := o.type) ht hi (some ⟨b, i * p.sz, none⟩) B p.sz bl.length p.sz c2 news (by rw [hnl, l2, hsz, Nat.min_comm bl.length n, hmm, hisz, hz, Nat.mul_one]) (by rw [← hrq]; exact hBs) hnc _ (fun ad e => by injection e with e; subst e; exact hstore) (fun e => by cases e)
    have hat' : c.argTypes.toList[0]? = some t := by simpa using hat
    rw [l2, hsz, Nat.min_comm, hmm] at this
    rw [l2, hsz]
    have e : Builtin.copy_ c.argTypes o.type #[.slice (some ⟨b, i * n, none⟩) n n, .slice B bl.length c2] = Builtin.copy_ #[t, st] o.type #[.slice (some ⟨b, i * n, none⟩) n n, .slice B bl.length c2] := by
     unfold Builtin.copy_
     rw [hat]
     rfl
    rw [hrq] at hyv
    rw [l2, hsz] at hxe
    simp [builtin, hxe, hyv, e, this]
   refine snd_write h (rowOf_some hp) hpl ha' g2 (fun tr => ?_) (.inr rfl) run (fun _ => .v _)
   have hmn : ∀ v x, Den PL w (Avo C PL s.hp) v x → Den PL (w.setRow b _) (Avo C PL (hupd [(id, some (.row r'))] s.hp)) v x := fun v x d => d.tr tr
   have hvs : Dens PL w (Avo C PL s.hp) ((List.range m).map fun j => SV.v (.int .u8 (getB bl j))) news := by
    refine ⟨by simp [hnl], fun j h1 h2 => ?_⟩
    have hjm : j < m := by simpa using h1
    obtain ⟨u, e1, e2⟩ := hnd j 0 hjm (by simp [R.elem])
    rw [show (R.bs U bl).sz = 1 from rfl, Nat.mul_one, Nat.add_zero] at e1
    have e3 := (List.getElem?_eq_some_iff.1 e1).2
    rw [e3]
    refine ⟨?_, hn1 u (List.mem_of_getElem? e1)⟩
    simp only [List.getElem_map, List.getElem_range]
    simpa only [R.elem, List.getElem_cons_zero, lock_eq] using e2
   have hel : r'.elem i = lspl (r.elem i) 0 ((List.range m).map fun j => SV.v (.int .u8 (getB bl j))) := by
    have e1 : ∀ d, (Ty.u8s n).leaves d = (List.range n).map fun i => SV.v (.int .u8 (lock D.toI (lock D.fld d (0 + i)))) := by
     intro d
     rw [← u8v_spec]
     rfl
    rw [hr, hr']
    simp only [R.elem, e1, lock_eq, lspl, List.take_zero, List.nil_append, List.length_map, List.length_range, Nat.zero_add]
    have e2 : getD (setD l i (cpA n (getD l i) bl)) i = cpA n (getD l i) bl := by simp [getD, setD, hir2]
    rw [e2]
    apply List.ext_getElem
    ·simp; omega
    ·intro j h1 h2
     have hjn : j < n := by simpa using h1
     simp only [List.getElem_map, List.getElem_range]
     have e3 : D.toI (D.fld (cpA n (getD l i) bl) j) = if j < bl.length then getB bl j else D.toI (D.fld (getD l i) j) := by
      unfold cpA
      simp only [D.fld, D.toL]
      rw [List.getD_eq_getElem?_getD, List.getElem?_eq_getElem (by simpa using hjn)]
      simp only [List.getElem_map, List.getElem_range, Option.getD_some]
      split
      ·rfl
      ·rfl
     rw [e3]
     by_cases hjm : j < m
     ·rw [if_pos (by omega), List.getElem_append_left (by simpa using hjm)]
      simp only [List.getElem_map, List.getElem_range]
     ·rw [if_neg (by omega), List.getElem_append_right (by simpa using hjm)]
      simp only [List.length_map, List.length_range, List.getElem_drop, List.getElem_map, List.getElem_range]
      congr 5
      omega
   have key := (g6.mono hmn).put (r' := r') (vs := (List.range m).map fun j => SV.v (.int .u8 (getB bl j))) i 0 hir hsz' hrl (by rw [hnl, hsz]; omega) hrlen (fun k hk => by rw [hr, hr']; simp only [R.elem, lock_eq, getD, setD, getD_set_ne' _ _ _ _ _ hk]) (fun ds hd => by rw [hel]; exact hd) ⟨hvs.1, fun j a b => ⟨hmn _ _ (hvs.2 j a b).1, (hvs.2 j a b).2⟩⟩
   refine rp_row hpl (by omega) (by omega) (by omega) ha' (by rw [hTT]; exact setRow_at _ _ _ _ _ _ g2) (by omega) g4 ?_ (by rw [← l2] at key; simpa using key)
   simp only [List.size_toArray, List.length_append, List.length_take, List.length_drop, Array.length_toList]
   rw [hnl, l2, hsz']
   omega
theorem freeze_at {w : World} {b : Nat} {cs : Array Value} {T : TypeId} (hb : w.heap[b]? = some (.cells cs T (0, 0))) (n : Nat) : (w.freeze ⟨b, n, none⟩ 1).heap[b]? = some (.cells cs T (n, n + 1)) := by
 simp [World.freeze, Array.getElem?_modify, hb]
theorem freeze_ne {w : World} {b k : Nat} (n : Nat) (h : k ≠ b) : (w.freeze ⟨b, n, none⟩ 1).heap[k]? = w.heap[k]? := by
 simp [World.freeze, Array.getElem?_modify, Ne.symm h]
theorem snd_cvs (h : Sat C PL s Fr a w) {t e : TypeId} {x : Operand} {x' : Opnd} {id : Nat} {T : TypeId} {l : List UInt8} (ho : o.op = .convert t t x) (ht : P.underlying t = some (.slice e)) (he : P.underlying e = some (.int .u8)) (hx : cX x = some x')
  (h1 : s.ev x' = some (.wsl id)) (hr : rowOf s.hp id = some (.bs T l)) (hob : 0 < lock ofN (lock (@xlen UInt8) l)) {ob : List Prop} {rd wr : List Nat} :
  o.wp P a w (Eff.post ⟨ob, rd, wr, .one (.rsl (.bs T l)) [(id, none)]⟩ C s o.dst Fr) Q := by
 have d1 := ev_den h hx h1
 have hl0 : 0 < l.length := by
  simp only [lock_eq, ofN, xlen] at hob
  omega
 generalize hxe : a.eval x = xv at d1
 cases d1 with
 | wsl _ p hp =>
  have hck := h.ck id _ (rowOf_some hr)
  obtain ⟨p', hp', l1, l2, l3, hrow⟩ := row_rp hck
  rw [hp] at hp'; injection hp' with hp'; subst hp'
  have hlen : rlen (.bs T l) = l.length := rfl
  rcases hrow with ⟨hn, hc0, hl0'⟩ | ⟨b, cs, g1, g2, g3, g4, g5, g6⟩
  ·omega
  ·have hown : Own PL s.hp b := ⟨id, _, p, rowOf_some hr, hp, g1⟩
   have hu : ∀ i c, ulook [(id, (none : Option Ck))] i = some (some c) → False := by
    intro i c hi
    simp only [ulook] at hi
    cases hb : Nat.beq i id <;> rw [hb] at hi <;> simp at hi
   have hbs : b < w.heap.size := (Array.getElem?_eq_some_iff.1 g2).1
   have m : Mv C PL s.hp w [(id, none)] PL Fr (w.freeze ⟨b, cs.size, none⟩ 1) := by
    refine ⟨fun _ _ h => h, fun _ _ => rfl, h.fr, rfl, rfl, rfl, by simp [World.freeze], fun k hk hne => freeze_ne _ (fun e => hne id _ p (rowOf_some hr) ?_ hp (by rw [g1, e])), fun i c q b' hi => (hu i c hi).elim, fun i j c d q q' b' hi => (hu i c hi).elim⟩
    simp only [ulook, (nbeq id id).2 rfl, Option.isSome_some]
   have H := h.toHSat.mv m (fun i c hi => (hu i c hi).elim)
   have tr := h.toHSat.tr m
   have hsh : (Go.shape b).run P w = .ok (some (T, cs.size)) w := by
    rw [run_shape]; simp only [World.shape?, g2]; rfl
   refine wp_val (x := .slice p.a p.len p.cap) (w' := w.freeze ⟨b, cs.size, none⟩ 1) ?_ ⟨PL, h.mv H tr o.dst (some _) _ fun v hv => ?_⟩
   ·simp [execOp, ho, hxe, convert, run_underlying ht, run_underlying he, g1, markStringish, hsh]
   ·injection hv with hv
    subst hv
    rw [l1]
    refine .rsl (.bs T l) _ _ (fun i j => .int .u8 (l.getD i 0).toNat) g3 (fun _ => ⟨_, g1, by simpa [World.freeze] using hbs, ?_⟩) ?_ ?_
    ·rintro (hz | ⟨i, c, q, e1, e2, e3⟩)
     ·exact (h.own b hown).1 hz
     ·rw [hget_hupd] at e1
      cases hui : ulook [(id, (none : Option Ck))] i with
      | some y => rw [hui] at e1; cases y with
       | none => simp at e1
       | some c' => exact hu i c' hui
      | none =>
       rw [hui] at e1
       have : i = id := h.dj i id _ _ q p b e1 (rowOf_some hr) e2 hp e3 g1
       subst this
       simp only [ulook, (nbeq i i).2 rfl] at hui
       cases hui
    ·intro i j ad e1 hi hj
     rw [g1] at e1
     injection e1 with e1
     subst e1
     simp only [R.sz] at hj ⊢
     obtain rfl : j = 0 := by omega
     obtain ⟨u, k1, k2, k3⟩ := g6 i 0 hi (by simp [R.elem])
     simp only [R.elem, List.getElem_cons_zero, lock_eq, getB] at k2
     cases k2
     refine ⟨?_, rfl⟩
     simp only [R.sz, Nat.mul_one, Nat.add_zero] at k1
     have k1' : cs[i]? = some (.int .u8 (l.getD i 0).toNat) := by simpa using k1
     simp only [Nat.mul_one, add_zero', add_lit', Nat.zero_add, World.cell?]
     rw [freeze_at g2]
     simpa using k1'
    ·intro i j hi hj
     simp only [R.elem, List.length_singleton] at hj
     obtain rfl : j = 0 := by omega
     simp only [R.elem, List.getElem_cons_zero, lock_eq, getB]
     exact .v _
theorem snd_s2b (h : Sat C PL s Fr a w) {t u e : TypeId} {x : Operand} {x' : Opnd} {l : List UInt8} (ho : o.op = .convert t u x) (ht : P.underlying t = some .string) (hu : P.underlying u = some (.slice e)) (he : P.underlying e = some (.int .u8)) (hx : cX x = some x') (h1 : s.ev x' = some (.str l)) {ob : List Prop} {rd wr : List Nat} :
  o.wp P a w (Eff.post ⟨ob, rd, wr, .one (.rsl (.bs e l)) []⟩ C s o.dst Fr) Q := by
 have d1 := ev_den h hx h1
 generalize hq : a.eval x = q at d1
 cases d1
 have run := Lib.run_convert_string_bytes (P := P) w t u e ⟨l.toArray⟩ ht hu he
 have hsz : (ByteArray.mk l.toArray).size = l.length := by simp [ByteArray.size]
 have tr : Tr C PL s.hp w PL s.hp (Lib.bytesWorld w e ⟨l.toArray⟩) := ⟨fun _ _ h => h, by rw [Lib.bytesWorld_size]; omega, fun b hb _ => Lib.bytesWorld_at_old w e _ b hb, fun _ _ h => h⟩
 have H : HSat C PL s.hp Fr (Lib.bytesWorld w e ⟨l.toArray⟩) :=
  ⟨fun id c hc => (h.ck id c hc).mono tr.P tr.s tr.wh tr.A (fun p b hp ha => Lib.bytesWorld_at_old w e _ b ((h.ck id c hc).lt hp ha)), h.dj, h.own, h.os, h.tape, h.output, by rw [Lib.bytesWorld_size]; have := h.size; omega, fun b hb ho => by rw [Lib.bytesWorld_at_old w e _ b (by have := h.size; omega)]; exact h.old b hb ho, h.zlt, h.fr, h.arg⟩
 refine wp_val (x := .slice (some ⟨w.heap.size, 0, none⟩) l.length (grownCap w l.length 0 e)) (w' := Lib.bytesWorld w e ⟨l.toArray⟩) ?_ ⟨PL, ?_⟩
 ·have := run
  rw [hsz] at this
  simp [execOp, ho, hq, this]
 ·refine h.mv (u := []) H tr o.dst (some _) _ fun v hv => ?_
  injection hv with hv
  subst hv
  refine .rsl (.bs e l) _ _ (fun i j => .int .u8 (l.getD i 0).toNat) (grownCap_ge w _ _ _) (fun _ => ⟨_, rfl, by rw [Lib.bytesWorld_size]; exact Nat.lt_succ_self _, ?_⟩) ?_ ?_
  ·rintro (hz | ho)
   ·have h1 : w.heap.size < C.w0.heap.size := h.zlt.1 _ hz
    have := h.size; omega
   ·have := h.toHSat.lt ho; simp at this
  ·intro i j ad e1 hi hj
   injection e1 with e1
   subst e1
   simp only [R.sz] at hj ⊢
   obtain rfl : j = 0 := by omega
   simp only [Nat.mul_one, add_zero', add_lit', Nat.zero_add]
   refine ⟨?_, rfl⟩
   have := Lib.bytesWorld_cell w e ⟨l.toArray⟩ i (by rw [hsz]; exact hi)
   simpa using this
  ·intro i j hi hj
   simp only [R.elem, List.length_singleton] at hj
   obtain rfl : j = 0 := by omega
   simp only [R.elem, List.getElem_cons_zero, lock_eq, getB]
   exact .v _
theorem eqF_nil {d : Nat} {xs ys : Array Value} : (Op.eqFields d xs ys []).run P w = .ok true w := by simp [Op.eqFields]
theorem eqF_cons {d : Nat} {xs ys : Array Value} {f : Field} {fs : List Field} {u v : Value} {r q : Bool} (hn : f.name ≠ "_") (ha : (part f.type xs f.offset).run P w = .ok u w) (hb : (part f.type ys f.offset).run P w = .ok v w) (he : (Op.equalIn d f.type u v).run P w = .ok r w)
  (hr : (Op.eqFields d xs ys fs).run P w = .ok q w) : (Op.eqFields d xs ys (f :: fs)).run P w = .ok (r && q) w := by
 rw [Op.eqFields]
 simp only [if_pos hn, Sem.run_bind, ha, hb, he, Result.andThen_ok]
 cases r
 ·simp
 ·simpa using hr
theorem eqs_den {d : Nat} {Av : Nat → Prop} {xs ys : Array Value} : ∀ (fs : List Field) (o : Nat) (ks : List Nat) (l m : List SV) (t : Bool), flatKs P fs o = some ks → eqs ks l m = some t → Dens PL w Av l (xs.toList.drop o) → Dens PL w Av m (ys.toList.drop o) →
  (Op.eqFields (d + 1) xs ys fs).run P w = .ok t w
 | [], o, ks, l, m, t, hf, he, _, _ => by
  simp only [flatKs] at hf
  injection hf with hf
  subst hf
  cases l <;> cases m <;> simp only [eqs] at he <;> try (cases he; done)
  injection he with he
  subst he
  exact eqF_nil
 | f :: fs, o, ks, l, m, t, hf, he, hdx, hdy => by
  unfold flatKs at hf
  split at hf
  ·rename_i hc
   simp only [Bool.and_eq_true] at hc
   have hn : f.name ≠ "_" := by simpa using hc.1
   have ho : f.offset = o := by simpa using hc.2
   have getc : ∀ (zs : Array Value) (n : SV) (r : List SV), Dens PL w Av (n :: r) (zs.toList.drop o) → ∃ c, zs[o]? = some c ∧ Den PL w Av n c ∧ Dens PL w Av r (zs.toList.drop (o + 1)) := by
    intro zs n r hd
    have h0 : 0 < (zs.toList.drop o).length := by rw [hd.1]; simp
    have := hd.2 0 (by simp) h0
    refine ⟨(zs.toList.drop o)[0], ?_, this.1, ?_⟩
    ·have : (zs.toList.drop o)[0]? = some (zs.toList.drop o)[0] := List.getElem?_eq_getElem h0
     rw [List.getElem?_drop] at this
     simp
    ·have := hd.drop 1
     simp only [List.drop_drop] at this
     exact this
   have fin : ∀ (x y : SV) (l' m' : List SV) (ks' : List Nat) (q t' : Bool), l = x :: l' → m = y :: m' → flatKs P fs (o + 1) = some ks' → eqs ks' l' m' = some t' → aggOf P f.type = some false →
     (∀ u v, Den PL w Av x u → Den PL w Av y v → (Op.equalIn (d + 1) f.type u v).run P w = .ok q w) → (Op.eqFields (d + 1) xs ys (f :: fs)).run P w = .ok (q && t') w := by
    rintro x y l' m' ks' q t' rfl rfl hf' he' hag hq
    obtain ⟨u, u1, u2, u3⟩ := getc xs x l' hdx
    obtain ⟨v, v1, v2, v3⟩ := getc ys y m' hdy
    have pu : (part f.type xs f.offset).run P w = .ok u w := by simp [part, run_isAgg hag, ho, u1]
    have pv : (part f.type ys f.offset).run P w = .ok v w := by simp [part, run_isAgg hag, ho, v1]
    exact eqF_cons hn pu pv (hq u v u2 v2) (eqs_den fs (o + 1) ks' l' m' t' hf' he' u3 v3)
   split at hf
   ·rename_i kk l0 hu hfs
    injection hf with hf
    subst hf
    have hag : aggOf P f.type = some false := by unfold aggOf; rw [hu]
    cases l with
    | nil => simp [eqs] at he
    | cons x l' => cases m with
     | nil => cases x with
      | v xv => cases xv <;> simp [eqs] at he
      | _ => simp [eqs] at he
     | cons y m' => cases x with
      | v xv => cases xv with
       | int k b => cases y with
        | v yv => cases yv with
         | int j c =>
          simp only [eqs] at he
          split at he
          ·rename_i hk
           have := LawfulBEq.eq_of_beq hk
           subst this
           split at he
           ·rename_i t' ht'
            injection he with he
            subst he
            rw [lock_eq, lock_eq]
            exact fin _ _ l' m' l0 (b == c) t' rfl rfl hfs ht' hag (fun u v h1 h2 => by cases h1; cases h2; exact run_equalIn_int (P := P) w d f.type k kk b c hu)
           ·cases he
          ·cases he
         | _ => simp [eqs] at he
        | _ => simp [eqs] at he
       | _ => simp [eqs] at he
      | _ => simp [eqs] at he
   ·rename_i l0 hu hfs
    injection hf with hf
    subst hf
    have hag : aggOf P f.type = some false := by unfold aggOf; rw [hu]
    cases l with
    | nil => simp [eqs] at he
    | cons x l' => cases m with
     | nil => cases x with
      | v xv => cases xv <;> simp [eqs] at he
      | _ => simp [eqs] at he
     | cons y m' => cases x with
      | v xv => cases xv with
       | bool b => cases y with
        | v yv => cases yv with
         | bool c =>
          simp only [eqs] at he
          split at he
          ·rename_i t' ht'
           injection he with he
           subst he
           rw [lock_eq, lock_eq]
           exact fin _ _ l' m' l0 (b == c) t' rfl rfl hfs ht' hag (fun u v h1 h2 => by cases h1; cases h2; exact run_equalIn_bool' (P := P) w d f.type b c hu)
          ·cases he
         | _ => simp [eqs] at he
        | _ => simp [eqs] at he
       | _ => simp [eqs] at he
      | _ => simp [eqs] at he
   ·rename_i l0 hu hfs
    injection hf with hf
    subst hf
    have hag : aggOf P f.type = some false := by unfold aggOf; rw [hu]
    cases l with
    | nil => simp [eqs] at he
    | cons x l' => cases m with
     | nil => cases x <;> simp [eqs] at he
     | cons y m' => cases x with
      | str b => cases y with
       | str c =>
        simp only [eqs] at he
        split at he
        ·rename_i t' ht'
         injection he with he
         subst he
         rw [lock_eq, lock_eq]
         refine fin _ _ l' m' l0 (b == c) t' rfl rfl hfs ht' hag (fun u v h1 h2 => ?_)
         cases h1; cases h2
         have := run_equalIn_string (P := P) w d f.type ⟨b.toArray⟩ ⟨c.toArray⟩ hu
         rw [str_data, str_data] at this
         exact this
        ·cases he
       | _ => simp [eqs] at he
      | _ => simp [eqs] at he
   ·cases hf
  ·cases hf
theorem snd_steq (h : Sat C PL s Fr a w) {t yt : TypeId} {x y : Operand} {x' y' : Opnd} {op : BinOp} {ne : Bool} {fs : Array Field} {ks : List Nat} {l m : List SV} {r : Bool} (ho : o.op = .binOp op t x y yt) (hb : neOf op = some ne) (ht : P.underlying t = some (.struct fs))
  (hst : P.stoodInHeld t = false) (hg : P.eqGuardType P.depth t = false) (hks : flatKs P fs.toList 0 = some ks) (hx : cX x = some x') (hy : cX y = some y') (h1 : s.ev x' = some (.agg l)) (h2 : s.ev y' = some (.agg m)) (he : eqs ks l m = some r) :
  o.wp P a w (Eff.post (.pure (.v (.bool (negIf ne r)))) C s o.dst Fr) Q := by
 have d1 := ev_den h hx h1
 have d2 := ev_den h hy h2
 obtain ⟨xs, hxs, dx⟩ := Dens.of_agg d1
 obtain ⟨ys, hys, dy⟩ := Dens.of_agg d2
 have hf : P.fieldsOf t = fs := by simp [Program.fieldsOf, ht]
 have key : (Op.equalIn 10000 t (.agg xs.toArray) (.agg ys.toArray)).run P w = .ok r w := by
  rw [run_equalIn_struct (P := P) w 9999 t _ _ (by rw [hf]; exact ht) hst, hf]
  exact eqs_den (d := 9998) fs.toList 0 ks l m r hks he (by simpa using dx) (by simpa using dy)
 refine post_pure h (run_eqx ho hb hxs hys (b := r) key rfl rfl (run_eqGuard_agg (P := P) w op t x y _ _ hg)) (.v _)
end
end Go.Proofs.YtbkcmpggacbikaaDoor
end
section
/-
  A walk that reckons: contracts, and what a call by contract does.
-/
set_option linter.unusedVariables false
set_option linter.unusedSimpArgs false
namespace Go.Proofs.YtbkcmpggacbikaaDoor
open Go.RowKit
def canon : Nat → List Ck → List (Nat × Ck)
 | _, [] => []
 | i, c :: cs => (i, c) :: canon (i + 1) cs
def pcan : Nat → List PostC → List (Nat × Option Ck)
 | _, [] => []
 | i, .same :: l => pcan (i + 1) l
 | i, .gone :: l => (i, none) :: pcan (i + 1) l
 | i, .to c :: l => (i, some c) :: pcan (i + 1) l
theorem hget_canon : ∀ (cks : List Ck) (i j : Nat), hget (canon i cks) j = if i ≤ j then cks[j - i]? else none
 | [], i, j => by simp [canon, hget]
 | c :: cs, i, j => by
  simp only [canon, hget]
  cases hb : Nat.beq j i with
  | true =>
   have := (nbeq j i).1 hb
   subst this
   simp
  | false =>
   have hne := (nbeq_false j i).1 hb
   simp only [hget_canon cs (i + 1) j]
   by_cases h : i ≤ j
   ·rw [if_pos (by omega), if_pos h]
    have : j - i = (j - (i + 1)) + 1 := by omega
    rw [this, List.getElem?_cons_succ]
   ·rw [if_neg (by omega), if_neg h]
def DensA (PL : Nat → Option Pl) (w : World) (Av : Nat → Prop) (l : List SV) (cs : List Value) : Prop :=
 cs.length = l.length ∧ ∀ (j : Nat) (h1 : j < l.length) (h2 : j < cs.length), Den PL w Av l[j] cs[j]
def COut.holds (o : COut) (Q : SV → List PostC → Prop) : Prop :=
 match o with
 | .one v post => Q v post
 | .many X P v post => ∃ x, P x ∧ Q (v x) (post x)
def ctxOf (w : World) (Z : Nat → Prop) (PL : Nat → Option Pl) (cks : List Ck) : Ctx := ⟨w, Z, Own PL (canon 0 cks), cks.length, PL, w.heap.size⟩
def FnOK (P : Program) (f : FuncId) (con : Con) : Prop :=
 ∀ cargs ccks ce, con.f cargs ccks = some ce → (∀ p ∈ ce.ob, p) → ∀ (Z : Nat → Prop) (PL : Nat → Option Pl) (w : World) (args : List Value),
  HSat (ctxOf w Z PL ccks) PL (canon 0 ccks) (fun i => ccks.length ≤ i) w → DensA PL w (Avo (ctxOf w Z PL ccks) PL (canon 0 ccks)) cargs args →
  Calls P f args.toArray w fun e w' => ∃ u PL', e = .returned u ∧ ce.out.holds fun v post =>
   HSat (ctxOf w Z PL ccks) PL' (hupd (pcan 0 post) (canon 0 ccks)) (fun _ => False) w' ∧ Den PL' w' (Avo (ctxOf w Z PL ccks) PL' (hupd (pcan 0 post) (canon 0 ccks))) v u
def TabOK (P : Program) (Γ : FuncId → Option Con) : Prop := ∀ f con, Γ f = some con → FnOK P f con
theorem nmem_iff : ∀ (l : List Nat) (i : Nat), nmem i l = true ↔ i ∈ l
 | [], i => by simp [nmem]
 | j :: l, i => by
  unfold nmem
  cases hb : Nat.beq i j with
  | true => simp [(nbeq i j).1 hb]
  | false => simp only [List.mem_cons, nmem_iff l i, or_iff_right ((nbeq_false i j).1 hb)]
theorem npos_spec : ∀ (l : List Nat) (i k n : Nat), npos i l k = some n → k ≤ n ∧ l[n - k]? = some i
 | [], i, k, n, h => by simp [npos] at h
 | j :: l, i, k, n, h => by
  unfold npos at h
  cases hb : Nat.beq i j with
  | true =>
   rw [hb] at h
   simp only [] at h
   injection h with h
   subst h
   exact ⟨Nat.le_refl _, by simp [(nbeq i j).1 hb]⟩
  | false =>
   rw [hb] at h
   simp only [] at h
   obtain ⟨h1, h2⟩ := npos_spec l i (k + 1) n h
   refine ⟨by omega, ?_⟩
   have : n - k = (n - (k + 1)) + 1 := by omega
   rw [this, List.getElem?_cons_succ]
   exact h2
theorem nnodup_spec : ∀ (l : List Nat), nnodup l = true → l.Nodup
 | [], _ => List.nodup_nil
 | i :: l, h => by
  unfold nnodup at h
  cases hm : nmem i l with
  | true => rw [hm] at h; cases h
  | false =>
   rw [hm] at h
   refine List.nodup_cons.2 ⟨fun hi => ?_, nnodup_spec l h⟩
   rw [(nmem_iff l i).2 hi] at hm
   cases hm
theorem ndisj_spec : ∀ (l m : List Nat), ndisj l m = true → ∀ i ∈ l, i ∉ m
 | [], m, _, i, hi => by simp at hi
 | j :: l, m, h, i, hi => by
  unfold ndisj at h
  cases hm : nmem j m with
  | true => rw [hm] at h; cases h
  | false =>
   rw [hm] at h
   rcases List.mem_cons.1 hi with rfl | hi
   ·intro hi
    rw [(nmem_iff m i).2 hi] at hm
    cases hm
   ·exact ndisj_spec l m h i hi
mutual
theorem ren_den {ρ : Nat → Option Nat} {PL PL' : Nat → Option Pl} {w : World} {Av Av' : Nat → Prop} (hρ : ∀ i j p, ρ i = some j → PL i = some p → PL' j = some p) :
  ∀ (v v' : SV) (x : Value), v.ren ρ = some v' → (∀ r A, Den PL w Av (.rsl r) A → Den PL' w Av' (.rsl r) A) → Den PL w Av v x → Den PL' w Av' v' x
 | .v y, v', x, h, hA, d => by simp only [SV.ren] at h; injection h with h; subst h; cases d; exact .v _
 | .str l, v', x, h, hA, d => by simp only [SV.ren] at h; injection h with h; subst h; cases d; exact .str _
 | .rpt r i o, v', x, h, hA, d => by
  simp only [SV.ren] at h; injection h with h; subst h
  cases d with
  | rpt _ _ _ A cap hd hi => exact .rpt r i o A cap (hA _ _ hd) hi
 | .rsl r, v', x, h, hA, d => by simp only [SV.ren] at h; injection h with h; subst h; exact hA _ _ d
 | .nsl, v', x, h, hA, d => by simp only [SV.ren] at h; injection h with h; subst h; cases d; exact .nsl
 | .ptr id o, v', x, h, hA, d => by
  simp only [SV.ren] at h
  cases hr : ρ id with
  | none => rw [hr] at h; cases h
  | some j =>
   rw [hr] at h; injection h with h; subst h
   cases d with
   | ptr _ _ b p hp ha => exact .ptr j o b p (hρ _ _ _ hr hp) ha
 | .esl id i, v', x, h, hA, d => by
  simp only [SV.ren] at h
  cases hr : ρ id with
  | none => rw [hr] at h; cases h
  | some j =>
   rw [hr] at h; injection h with h; subst h
   cases d with
   | esl _ _ b p hp ha hi => exact .esl j i b p (hρ _ _ _ hr hp) ha hi
 | .ept id i o, v', x, h, hA, d => by
  simp only [SV.ren] at h
  cases hr : ρ id with
  | none => rw [hr] at h; cases h
  | some j =>
   rw [hr] at h; injection h with h; subst h
   cases d with
   | ept _ _ _ b p hp ha hi => exact .ept j i o b p (hρ _ _ _ hr hp) ha hi
 | .sl id lo n, v', x, h, hA, d => by
  simp only [SV.ren] at h
  cases hr : ρ id with
  | none => rw [hr] at h; cases h
  | some j =>
   rw [hr] at h; injection h with h; subst h
   cases d with
   | sl _ _ _ p A cap hp h1 h2 h3 h4 => exact .sl j lo n p A cap (hρ _ _ _ hr hp) h1 h2 h3 h4
 | .wsl id, v', x, h, hA, d => by
  simp only [SV.ren] at h
  cases hr : ρ id with
  | none => rw [hr] at h; cases h
  | some j =>
   rw [hr] at h; injection h with h; subst h
   cases d with
   | wsl _ p hp => exact .wsl j p (hρ _ _ _ hr hp)
 | .agg l, v', x, h, hA, d => by
  simp only [SV.ren] at h
  cases hr : SV.renL ρ l with
  | none => rw [hr] at h; cases h
  | some l' =>
   rw [hr] at h; injection h with h; subst h
   cases d with
   | agg _ cs hl hd h1 =>
    obtain ⟨e1, e2⟩ := renL_den hρ l l' cs hr hA ⟨hl, hd⟩
    exact .agg l' cs e1 e2 h1
 | .tup l, v', x, h, hA, d => by
  simp only [SV.ren] at h
  cases hr : SV.renL ρ l with
  | none => rw [hr] at h; cases h
  | some l' =>
   rw [hr] at h; injection h with h; subst h
   cases d with
   | tup _ cs hl hd =>
    obtain ⟨e1, e2⟩ := renL_den hρ l l' cs hr hA ⟨hl, hd⟩
    exact .tup l' cs e1 e2
 | .fn f l, v', x, h, hA, d => by
  simp only [SV.ren] at h
  cases hr : SV.renL ρ l with
  | none => rw [hr] at h; cases h
  | some l' =>
   rw [hr] at h; injection h with h; subst h
   cases d with
   | fn _ _ cs hl hd =>
    obtain ⟨e1, e2⟩ := renL_den hρ l l' cs hr hA ⟨hl, hd⟩
    exact .fn f l' cs e1 e2
theorem renL_den {ρ : Nat → Option Nat} {PL PL' : Nat → Option Pl} {w : World} {Av Av' : Nat → Prop} (hρ : ∀ i j p, ρ i = some j → PL i = some p → PL' j = some p) :
  ∀ (l l' : List SV) (cs : List Value), SV.renL ρ l = some l' → (∀ r A, Den PL w Av (.rsl r) A → Den PL' w Av' (.rsl r) A) → DensA PL w Av l cs → DensA PL' w Av' l' cs
 | [], l', cs, h, hA, d => by simp only [SV.renL] at h; injection h with h; subst h; exact ⟨d.1, fun j h1 _ => absurd h1 (by simp)⟩
 | x :: xs, l', cs, h, hA, d => by
  unfold SV.renL at h
  cases h1 : x.ren ρ with
  | none => rw [h1] at h; cases h
  | some y =>
   rw [h1] at h
   simp only [] at h
   cases h2 : SV.renL ρ xs with
   | none => rw [h2] at h; cases h
   | some ys =>
    rw [h2] at h
    simp only [] at h
    injection h with h
    subst h
    obtain ⟨c, cs', rfl⟩ : ∃ c cs', cs = c :: cs' := by
     cases cs with
     | nil => have := d.1; simp at this
     | cons c cs' => exact ⟨c, cs', rfl⟩
    have d0 := ren_den hρ x y c h1 hA (d.2 0 (by simp) (by simp))
    have dr := renL_den hρ xs ys cs' h2 hA ⟨by have := d.1; simpa using this, fun j a b => d.2 (j + 1) (by simpa using a) (by simpa using b)⟩
    refine ⟨by simp [dr.1], fun j a b => ?_⟩
    cases j with
    | zero => exact d0
    | succ j => exact dr.2 j (by simpa using a) (by simpa using b)
end
theorem tyClean_den {PL : Nat → Option Pl} {w : World} {Av Av' : Nat → Prop} : ∀ (t : Ty), t.clean = true → ∀ d x, x ∈ t.leaves d → ∀ u, Den PL w Av x u → Den PL w Av' x u := by
 intro t
 apply Ty.rec (motive_1 := fun t => t.clean = true → ∀ d x, x ∈ t.leaves d → ∀ u, Den PL w Av x u → Den PL w Av' x u) (motive_2 := fun ts => Ty.cleanL ts = true → ∀ d j x, x ∈ Ty.leavesL ts d j → ∀ u, Den PL w Av x u → Den PL w Av' x u)
 ·intro k _ d x hx u h; simp only [Ty.leaves, List.mem_singleton] at hx; subst hx; cases h; exact .v _
 ·intro _ d x hx u h; simp only [Ty.leaves, List.mem_singleton] at hx; subst hx; cases h; exact .v _
 ·intro _ d x hx u h; simp only [Ty.leaves, List.mem_singleton] at hx; subst hx; cases h; exact .str _
 ·intro T h; simp [Ty.clean] at h
 ·intro T k h; simp [Ty.clean] at h
 ·intro T e _ h; simp [Ty.clean] at h
 ·intro fs ih h d x hx u hu; simp only [Ty.clean] at h; simp only [Ty.leaves] at hx; exact ih h d 0 x hx u hu
 ·intro T h; simp [Ty.clean] at h
 ·intro n _ d x hx u h; simp only [Ty.leaves] at hx; obtain ⟨y, rfl⟩ := u8v_mem hx; cases h; exact .v _
 ·intro _ d j x hx; simp [Ty.leavesL] at hx
 ·intro t ts ih1 ih2 h d j x hx u hu
  unfold Ty.cleanL at h
  cases hc : t.clean with
  | false => rw [hc] at h; cases h
  | true =>
   rw [hc] at h
   simp only [Ty.leavesL, List.mem_append] at hx
   rcases hx with hx | hx
   ·exact ih1 hc _ x hx u hu
   ·exact ih2 h _ _ x hx u hu
mutual
theorem clean_den {PL : Nat → Option Pl} {w : World} {Av Av' : Nat → Prop} : ∀ (v : SV) (x : Value), v.clean = true → Den PL w Av v x → Den PL w Av' v x
 | .v y, x, _, d => by cases d; exact .v _
 | .str l, x, _, d => by cases d; exact .str _
 | .rpt r i o, x, h, d => by simp [SV.clean] at h
 | .rsl r, x, h, d => by simp [SV.clean] at h
 | .nsl, x, _, d => by cases d; exact .nsl
 | .ptr id o, x, _, d => by cases d with | ptr _ _ b p hp ha => exact .ptr id o b p hp ha
 | .ept id i o, x, _, d => by cases d with | ept _ _ _ b p hp ha hi => exact .ept id i o b p hp ha hi
 | .esl id i, x, _, d => by cases d with | esl _ _ b p hp ha hi => exact .esl id i b p hp ha hi
 | .sl id lo n, x, _, d => by cases d with | sl _ _ _ p A cap hp h1 h2 h3 h4 => exact .sl id lo n p A cap hp h1 h2 h3 h4
 | .wsl id, x, _, d => by cases d with | wsl _ p hp => exact .wsl id p hp
 | .agg l, x, h, d => by
  simp only [SV.clean] at h
  cases d with | agg _ cs hl hd h1 => obtain ⟨e1, e2⟩ := cleanL_den l cs h ⟨hl, hd⟩; exact .agg l cs e1 e2 h1
 | .tup l, x, h, d => by
  simp only [SV.clean] at h
  cases d with | tup _ cs hl hd => obtain ⟨e1, e2⟩ := cleanL_den l cs h ⟨hl, hd⟩; exact .tup l cs e1 e2
 | .fn f l, x, h, d => by
  simp only [SV.clean] at h
  cases d with | fn _ _ cs hl hd => obtain ⟨e1, e2⟩ := cleanL_den l cs h ⟨hl, hd⟩; exact .fn f l cs e1 e2
theorem cleanL_den {PL : Nat → Option Pl} {w : World} {Av Av' : Nat → Prop} : ∀ (l : List SV) (cs : List Value), SV.cleanL l = true → DensA PL w Av l cs → DensA PL w Av' l cs
 | [], cs, _, d => ⟨d.1, fun j h1 _ => absurd h1 (by simp)⟩
 | x :: xs, cs, h, d => by
  unfold SV.cleanL at h
  cases hc : x.clean with
  | false => rw [hc] at h; cases h
  | true =>
   rw [hc] at h
   obtain ⟨c, cs', rfl⟩ : ∃ c cs', cs = c :: cs' := by
    cases cs with
    | nil => have := d.1; simp at this
    | cons c cs' => exact ⟨c, cs', rfl⟩
   have d0 := clean_den (Av' := Av') x c hc (d.2 0 (by simp) (by simp))
   have dr := cleanL_den (Av' := Av') xs cs' h ⟨by have := d.1; simpa using this, fun j a b => d.2 (j + 1) (by simpa using a) (by simpa using b)⟩
   refine ⟨by simp [dr.1], fun j a b => ?_⟩
   cases j with
   | zero => exact d0
   | succ j => exact dr.2 j (by simpa using a) (by simpa using b)
end
theorem cleanCk {PL : Nat → Option Pl} {w : World} {Av Av' : Nat → Prop} {id : Nat} {c : Ck} (h : c.clean = true) (d : CkOk PL w Av id c) : CkOk PL w Av' id c := by
 cases c with
 | blk T vs =>
  obtain ⟨p, b, cs, hp, ha, hh, hl, hd⟩ := d
  refine ⟨p, b, cs, hp, ha, hh, hl, fun j h1 h2 => ⟨?_, (hd j h1 h2).2⟩⟩
  have := cleanL_den (Av' := Av') vs cs.toList h ⟨by simpa using hl, fun j a b => by simpa using (hd j a (by simpa using b)).1⟩
  have := this.2 j h1 (by simpa using h2)
  simpa using this
 | row r =>
  obtain ⟨p, hp, l1, l2, l3, hrow⟩ := row_rp d
  rcases hrow with ⟨h1, h2, h3⟩ | ⟨b, cs, g1, g2, g3, g4, g5, g6⟩
  ·exact rp_nil hp l1 l2 l3 h1 h2 h3
  ·refine rp_row hp l1 l2 l3 g1 g2 g3 g4 g5 fun i j hi hj => ?_
   obtain ⟨u, e1, e2, e3⟩ := g6 i j hi hj
   refine ⟨u, e1, ?_, e3⟩
   cases r with
   | bs T l =>
    simp only [R.elem, List.length_singleton] at hj
    obtain rfl : j = 0 := by omega
    simp only [R.elem, List.getElem_cons_zero] at e2 ⊢
    cases e2
    exact .v _
   | ints T k l =>
    simp only [R.elem, List.length_singleton] at hj
    obtain rfl : j = 0 := by omega
    simp only [R.elem, List.getElem_cons_zero] at e2 ⊢
    cases e2
    exact .v _
   | row T e l => exact tyClean_den e h _ _ (List.getElem_mem hj) u e2
theorem ren_ck {ρ : Nat → Option Nat} {PL PL' : Nat → Option Pl} {w : World} {Av Av' : Nat → Prop} (hρ : ∀ i j p, ρ i = some j → PL i = some p → PL' j = some p) {i j : Nat} {c c' : Ck} (hij : ∀ p, PL i = some p → PL' j = some p) (h : c.ren ρ = some c')
  (hA : ∀ r A, Den PL w Av (.rsl r) A → Den PL' w Av' (.rsl r) A) (d : CkOk PL w Av i c) : CkOk PL' w Av' j c' := by
 cases c with
 | blk T vs =>
  simp only [Ck.ren] at h
  cases hr : SV.renL ρ vs with
  | none => rw [hr] at h; cases h
  | some vs' =>
   rw [hr] at h; injection h with h; subst h
   obtain ⟨p, b, cs, hp, ha, hh, hl, hd⟩ := d
   have := renL_den hρ vs vs' cs.toList hr hA ⟨by simpa using hl, fun j a b => by simpa using (hd j a (by simpa using b)).1⟩
   refine ⟨p, b, cs, hij _ hp, ha, hh, by have := this.1; simpa using this, fun k h1 h2 => ⟨by have := this.2 k h1 (by simpa using h2); simpa using this, ?_⟩⟩
   have hk : k < vs.length := by omega
   exact (hd k hk h2).2
 | row r =>
  simp only [Ck.ren] at h
  injection h with h; subst h
  obtain ⟨p, hp, l1, l2, l3, hrow⟩ := row_rp d
  rcases hrow with ⟨h1, h2, h3⟩ | ⟨b, cs, g1, g2, g3, g4, g5, g6⟩
  ·exact rp_nil (hij _ hp) l1 l2 l3 h1 h2 h3
  ·refine rp_row (hij _ hp) l1 l2 l3 g1 g2 g3 g4 g5 fun i j hi hj => ?_
   obtain ⟨u, e1, e2, e3⟩ := g6 i j hi hj
   refine ⟨u, e1, ?_, e3⟩
   have : ∀ (v : SV) (x : Value), v ∈ r.elem i → Den PL w Av v x → Den PL' w Av' v x := by
    cases r with
    | bs T l => intro v x hv hd; simp only [R.elem, List.mem_singleton] at hv; subst hv; cases hd; exact .v _
    | ints T k l => intro v x hv hd; simp only [R.elem, List.mem_singleton] at hv; subst hv; cases hd; exact .v _
    | row T e l =>
     intro v x hv hd
     have leaf : ∀ (t : Ty) (d : D) (v : SV), v ∈ t.leaves d → v.ren ρ = some v := by
      intro t
      apply Ty.rec (motive_1 := fun t => ∀ (d : D) (v : SV), v ∈ t.leaves d → v.ren ρ = some v) (motive_2 := fun ts => ∀ (d : D) (j : Nat) (v : SV), v ∈ Ty.leavesL ts d j → v.ren ρ = some v)
      ·intro k d v hx; simp only [Ty.leaves, List.mem_singleton] at hx; subst hx; rfl
      ·intro d v hx; simp only [Ty.leaves, List.mem_singleton] at hx; subst hx; rfl
      ·intro d v hx; simp only [Ty.leaves, List.mem_singleton] at hx; subst hx; rfl
      ·intro T d v hx; simp only [Ty.leaves, List.mem_singleton] at hx; subst hx; rfl
      ·intro T k d v hx; simp only [Ty.leaves, List.mem_singleton] at hx; subst hx; rfl
      ·intro T e _ d v hx; simp only [Ty.leaves, List.mem_singleton] at hx; subst hx; rfl
      ·intro fs ih d v hx; simp only [Ty.leaves] at hx; exact ih d 0 v hx
      ·intro T d v hx; simp only [Ty.leaves, List.mem_singleton] at hx; subst hx; rfl
      ·intro n d v hx; simp only [Ty.leaves] at hx; obtain ⟨y, rfl⟩ := u8v_mem hx; rfl
      ·intro d j v hx; simp [Ty.leavesL] at hx
      ·intro t ts ih1 ih2 d j v hx
       simp only [Ty.leavesL, List.mem_append] at hx
       rcases hx with hx | hx
       ·exact ih1 _ v hx
       ·exact ih2 _ _ v hx
     exact ren_den hρ v v x (leaf e _ v hv) hA hd
   exact this _ _ (List.getElem_mem hj) e2
end Go.Proofs.YtbkcmpggacbikaaDoor
end
section
/-
  A walk that reckons: a call by contract.
-/
set_option linter.unusedVariables false
set_option linter.unusedSimpArgs false
namespace Go.Proofs.YtbkcmpggacbikaaDoor
open Go.RowKit
def Bare (v : SV) : Prop := v.ren (fun _ => none) = some v
theorem bareL {ρ : Nat → Option Nat} : ∀ (l : List SV), SV.renL ρ l = some l → ∀ x ∈ l, x.ren ρ = some x
 | [], _, x, hx => by simp at hx
 | y :: ys, h, x, hx => by
  unfold SV.renL at h
  cases h1 : y.ren ρ with
  | none => rw [h1] at h; cases h
  | some z =>
   rw [h1] at h
   simp only [] at h
   cases h2 : SV.renL ρ ys with
   | none => rw [h2] at h; cases h
   | some zs =>
    rw [h2] at h
    simp only [] at h
    injection h with h
    injection h with e1 e2
    subst e1
    subst e2
    rcases List.mem_cons.1 hx with rfl | hx
    ·exact h1
    ·exact bareL _ h2 x hx
theorem leaves_bare (ρ : Nat → Option Nat) : ∀ (t : Ty) (d : D) (v : SV), v ∈ t.leaves d → v.ren ρ = some v := by
 intro t
 apply Ty.rec (motive_1 := fun t => ∀ (d : D) (v : SV), v ∈ t.leaves d → v.ren ρ = some v) (motive_2 := fun ts => ∀ (d : D) (j : Nat) (v : SV), v ∈ Ty.leavesL ts d j → v.ren ρ = some v)
 ·intro k d v hx; simp only [Ty.leaves, List.mem_singleton] at hx; subst hx; rfl
 ·intro d v hx; simp only [Ty.leaves, List.mem_singleton] at hx; subst hx; rfl
 ·intro d v hx; simp only [Ty.leaves, List.mem_singleton] at hx; subst hx; rfl
 ·intro T d v hx; simp only [Ty.leaves, List.mem_singleton] at hx; subst hx; rfl
 ·intro T k d v hx; simp only [Ty.leaves, List.mem_singleton] at hx; subst hx; rfl
 ·intro T e _ d v hx; simp only [Ty.leaves, List.mem_singleton] at hx; subst hx; rfl
 ·intro fs ih d v hx; simp only [Ty.leaves] at hx; exact ih d 0 v hx
 ·intro T d v hx; simp only [Ty.leaves, List.mem_singleton] at hx; subst hx; rfl
 ·intro n d v hx; simp only [Ty.leaves] at hx; obtain ⟨y, rfl⟩ := u8v_mem hx; rfl
 ·intro d j v hx; simp [Ty.leavesL] at hx
 ·intro t ts ih1 ih2 d j v hx
  simp only [Ty.leavesL, List.mem_append] at hx
  rcases hx with hx | hx
  ·exact ih1 _ v hx
  ·exact ih2 _ _ v hx
theorem elem_bare (ρ : Nat → Option Nat) (r : R) (i : Nat) : ∀ v ∈ r.elem i, v.ren ρ = some v := by
 cases r with
 | bs T l => intro v hv; simp only [R.elem, List.mem_singleton] at hv; subst hv; rfl
 | ints T k l => intro v hv; simp only [R.elem, List.mem_singleton] at hv; subst hv; rfl
 | row T e l => exact leaves_bare ρ e _
theorem bare_den {PL PL' : Nat → Option Pl} {w : World} {Av Av' : Nat → Prop} (hA : ∀ b, b < w.heap.size → Av' b → Av b) {v : SV} {x : Value} (h : Den PL w Av v x) : Bare v → Den PL' w Av' v x := by
 unfold Bare
 induction h with
 | v x => intro _; exact .v x
 | str l => intro _; exact .str l
 | nsl => intro _; exact .nsl
 | ptr => intro h; simp [SV.ren] at h
 | ept => intro h; simp [SV.ren] at h
 | esl => intro h; simp [SV.ren] at h
 | sl => intro h; simp [SV.ren] at h
 | wsl => intro h; simp [SV.ren] at h
 | rpt r i off A cap h hi ih => intro _; exact .rpt r i off A cap (ih rfl) hi
 | agg l cs hl h h1 ih =>
  intro hb
  simp only [SV.ren] at hb
  cases hr : SV.renL (fun _ => none) l with
  | none => rw [hr] at hb; cases hb
  | some l' =>
   rw [hr] at hb; injection hb with hb; injection hb with hb; subst hb
   exact .agg _ cs hl (fun j a b => ih j a b (bareL _ hr _ (List.getElem_mem a))) h1
 | tup l cs hl h ih =>
  intro hb
  simp only [SV.ren] at hb
  cases hr : SV.renL (fun _ => none) l with
  | none => rw [hr] at hb; cases hb
  | some l' =>
   rw [hr] at hb; injection hb with hb; injection hb with hb; subst hb
   exact .tup _ cs hl (fun j a b => ih j a b (bareL _ hr _ (List.getElem_mem a)))
 | fn f l cs hl h ih =>
  intro hb
  simp only [SV.ren] at hb
  cases hr : SV.renL (fun _ => none) l with
  | none => rw [hr] at hb; cases hb
  | some l' =>
   rw [hr] at hb; injection hb with hb; injection hb with _ hb; subst hb
   exact .fn f _ cs hl (fun j a b => ih j a b (bareL _ hr _ (List.getElem_mem a)))
 | rsl r A cap u hcap hsome hcell hden ih =>
  intro _
  refine .rsl r A cap u hcap (fun h0 => ?_) hcell (fun i j hi hj => ih i j hi hj (elem_bare _ r i _ (List.getElem_mem hj)))
  obtain ⟨ad, e, hl, hv⟩ := hsome h0
  exact ⟨ad, e, hl, fun hx => hv (hA _ hl hx)⟩
theorem rsl_any {PL PL' : Nat → Option Pl} {w : World} {Av Av' : Nat → Prop} (hA : ∀ b, b < w.heap.size → Av' b → Av b) (r : R) (A : Value) (h : Den PL w Av (.rsl r) A) : Den PL' w Av' (.rsl r) A := bare_den hA h rfl
mutual
theorem ren_ren {ρ σ : Nat → Option Nat} (h : ∀ a j, ρ a = some j → σ j = some a) : ∀ v v' : SV, v.ren ρ = some v' → v'.ren σ = some v
 | .v y, v', e => by simp only [SV.ren] at e; injection e with e; subst e; rfl
 | .str l, v', e => by simp only [SV.ren] at e; injection e with e; subst e; rfl
 | .rpt r i o, v', e => by simp only [SV.ren] at e; injection e with e; subst e; rfl
 | .rsl r, v', e => by simp only [SV.ren] at e; injection e with e; subst e; rfl
 | .nsl, v', e => by simp only [SV.ren] at e; injection e with e; subst e; rfl
 | .ptr id o, v', e => by
  simp only [SV.ren] at e
  cases hr : ρ id with
  | none => rw [hr] at e; cases e
  | some j => rw [hr] at e; injection e with e; subst e; simp only [SV.ren, h _ _ hr]
 | .esl id i, v', e => by
  simp only [SV.ren] at e
  cases hr : ρ id with
  | none => rw [hr] at e; cases e
  | some j => rw [hr] at e; injection e with e; subst e; simp only [SV.ren, h _ _ hr]
 | .ept id i o, v', e => by
  simp only [SV.ren] at e
  cases hr : ρ id with
  | none => rw [hr] at e; cases e
  | some j => rw [hr] at e; injection e with e; subst e; simp only [SV.ren, h _ _ hr]
 | .sl id lo n, v', e => by
  simp only [SV.ren] at e
  cases hr : ρ id with
  | none => rw [hr] at e; cases e
  | some j => rw [hr] at e; injection e with e; subst e; simp only [SV.ren, h _ _ hr]
 | .wsl id, v', e => by
  simp only [SV.ren] at e
  cases hr : ρ id with
  | none => rw [hr] at e; cases e
  | some j => rw [hr] at e; injection e with e; subst e; simp only [SV.ren, h _ _ hr]
 | .agg l, v', e => by
  simp only [SV.ren] at e
  cases hr : SV.renL ρ l with
  | none => rw [hr] at e; cases e
  | some j => rw [hr] at e; injection e with e; subst e; simp only [SV.ren, renL_ren h _ _ hr]
 | .tup l, v', e => by
  simp only [SV.ren] at e
  cases hr : SV.renL ρ l with
  | none => rw [hr] at e; cases e
  | some j => rw [hr] at e; injection e with e; subst e; simp only [SV.ren, renL_ren h _ _ hr]
 | .fn f l, v', e => by
  simp only [SV.ren] at e
  cases hr : SV.renL ρ l with
  | none => rw [hr] at e; cases e
  | some j => rw [hr] at e; injection e with e; subst e; simp only [SV.ren, renL_ren h _ _ hr]
theorem renL_ren {ρ σ : Nat → Option Nat} (h : ∀ a j, ρ a = some j → σ j = some a) : ∀ l l' : List SV, SV.renL ρ l = some l' → SV.renL σ l' = some l
 | [], l', e => by simp only [SV.renL] at e; injection e with e; subst e; rfl
 | x :: xs, l', e => by
  unfold SV.renL at e
  cases h1 : x.ren ρ with
  | none => rw [h1] at e; cases e
  | some y =>
   rw [h1] at e
   simp only [] at e
   cases h2 : SV.renL ρ xs with
   | none => rw [h2] at e; cases e
   | some ys =>
    rw [h2] at e
    simp only [] at e
    injection e with e
    subst e
    simp only [SV.renL, ren_ren h _ _ h1, renL_ren h _ _ h2]
end
theorem ck_ren_ren {ρ σ : Nat → Option Nat} (h : ∀ a j, ρ a = some j → σ j = some a) (c c' : Ck) (e : c.ren ρ = some c') : c'.ren σ = some c := by
 cases c with
 | blk T vs =>
  simp only [Ck.ren] at e
  cases hr : SV.renL ρ vs with
  | none => rw [hr] at e; cases e
  | some l => rw [hr] at e; injection e with e; subst e; simp only [Ck.ren, renL_ren h _ _ hr]
 | row r => simp only [Ck.ren] at e; injection e with e; subst e; rfl
theorem cksOf_spec (h : List (Nat × Ck)) : ∀ (ids : List Nat) (cks : List Ck), cksOf h ids = some cks → cks.length = ids.length ∧ ∀ (i : Nat) (a : i < ids.length) (b : i < cks.length), hget h ids[i] = some cks[i]
 | [], cks, e => by simp only [cksOf] at e; injection e with e; subst e; exact ⟨rfl, fun i a _ => absurd a (by simp)⟩
 | id :: ids, cks, e => by
  unfold cksOf at e
  cases h1 : hget h id with
  | none => rw [h1] at e; cases e
  | some c =>
   rw [h1] at e
   simp only [] at e
   cases h2 : cksOf h ids with
   | none => rw [h2] at e; cases e
   | some cs =>
    rw [h2] at e
    simp only [] at e
    injection e with e
    subst e
    obtain ⟨l, k⟩ := cksOf_spec h ids cs h2
    refine ⟨by simp [l], fun i a b => ?_⟩
    cases i with
    | zero => exact h1
    | succ i => exact k i (by simpa using a) (by simpa using b)
theorem renL_spec {ρ : Nat → Option Nat} : ∀ (cks ccks : List Ck), Ck.renL ρ cks = some ccks → ccks.length = cks.length ∧ ∀ (i : Nat) (a : i < cks.length) (b : i < ccks.length), cks[i].ren ρ = some ccks[i]
 | [], ccks, e => by simp only [Ck.renL] at e; injection e with e; subst e; exact ⟨rfl, fun i a _ => absurd a (by simp)⟩
 | c :: cs, ccks, e => by
  unfold Ck.renL at e
  cases h1 : c.ren ρ with
  | none => rw [h1] at e; cases e
  | some d =>
   rw [h1] at e
   simp only [] at e
   cases h2 : Ck.renL ρ cs with
   | none => rw [h2] at e; cases e
   | some ds =>
    rw [h2] at e
    simp only [] at e
    injection e with e
    subst e
    obtain ⟨l, k⟩ := renL_spec cs ds h2
    refine ⟨by simp [l], fun i a b => ?_⟩
    cases i with
    | zero => exact h1
    | succ i => exact k i (by simpa using a) (by simpa using b)
theorem pcan_low : ∀ (l : List PostC) (k i : Nat), i < k → ulook (pcan k l) i = none
 | [], k, i, h => rfl
 | .same :: l, k, i, h => pcan_low l (k + 1) i (by omega)
 | .gone :: l, k, i, h => by simp only [pcan, ulook, pcan_low l (k + 1) i (by omega), (nbeq_false i k).2 (by omega)]
 | .to c :: l, k, i, h => by simp only [pcan, ulook, pcan_low l (k + 1) i (by omega), (nbeq_false i k).2 (by omega)]
theorem postUpd_fwd {ids : List Nat} {fresh : Nat} : ∀ (l : List PostC) (k : Nat) (pu : List (Nat × Option Ck)), postUpd ids fresh k l = some pu → ∀ j x, ulook pu j = some x →
  ∃ i y, k ≤ i ∧ ulook (pcan k l) i = some y ∧ back ids fresh i = some j ∧ ((y = none ∧ x = none) ∨ ∃ c c', y = some c ∧ c.ren (back ids fresh) = some c' ∧ x = some c')
 | [], k, pu, h, j, x, hx => by simp only [postUpd] at h; injection h with h; subst h; simp [ulook] at hx
 | .same :: l, k, pu, h, j, x, hx => by
  obtain ⟨i, y, a, b⟩ := postUpd_fwd l (k + 1) pu h j x hx
  exact ⟨i, y, by omega, b⟩
 | .gone :: l, k, pu, h, j, x, hx => by
  unfold postUpd at h
  cases hb : back ids fresh k with
  | none => rw [hb] at h; cases h
  | some j0 =>
   rw [hb] at h
   cases hr : postUpd ids fresh (k + 1) l with
   | none => rw [hr] at h; cases h
   | some pu' =>
    rw [hr] at h
    simp only [] at h
    injection h with h
    subst h
    simp only [ulook] at hx
    cases hl : ulook pu' j with
    | some z =>
     rw [hl] at hx
     simp only [] at hx
     injection hx with hx
     subst hx
     obtain ⟨i, y, a, b, c⟩ := postUpd_fwd l (k + 1) pu' hr j z hl
     exact ⟨i, y, by omega, by simp only [pcan, ulook, b], c⟩
    | none =>
     rw [hl] at hx
     simp only [] at hx
     cases hn : Nat.beq j j0 with
     | false => rw [hn] at hx; cases hx
     | true =>
      rw [hn] at hx
      simp only [] at hx
      injection hx with hx
      subst hx
      have := (nbeq j j0).1 hn
      subst this
      exact ⟨k, none, Nat.le_refl _, by simp only [pcan, ulook, pcan_low l (k + 1) k (by omega), (nbeq k k).2 rfl], hb, .inl ⟨rfl, rfl⟩⟩
 | .to c :: l, k, pu, h, j, x, hx => by
  unfold postUpd at h
  cases hb : back ids fresh k with
  | none => rw [hb] at h; cases h
  | some j0 =>
   rw [hb] at h
   cases hc : c.ren (back ids fresh) with
   | none => rw [hc] at h; cases h
   | some c' =>
    rw [hc] at h
    cases hr : postUpd ids fresh (k + 1) l with
    | none => rw [hr] at h; cases h
    | some pu' =>
     rw [hr] at h
     simp only [] at h
     injection h with h
     subst h
     simp only [ulook] at hx
     cases hl : ulook pu' j with
     | some z =>
      rw [hl] at hx
      simp only [] at hx
      injection hx with hx
      subst hx
      obtain ⟨i, y, a, b, c⟩ := postUpd_fwd l (k + 1) pu' hr j z hl
      exact ⟨i, y, by omega, by simp only [pcan, ulook, b], c⟩
     | none =>
      rw [hl] at hx
      simp only [] at hx
      cases hn : Nat.beq j j0 with
      | false => rw [hn] at hx; cases hx
      | true =>
       rw [hn] at hx
       simp only [] at hx
       injection hx with hx
       subst hx
       have := (nbeq j j0).1 hn
       subst this
       exact ⟨k, some c, Nat.le_refl _, by simp only [pcan, ulook, pcan_low l (k + 1) k (by omega), (nbeq k k).2 rfl], hb, .inr ⟨c, c', rfl, hc, rfl⟩⟩
theorem postUpd_bwd {ids : List Nat} {fresh : Nat} (hinj : ∀ i i' j, back ids fresh i = some j → back ids fresh i' = some j → i = i') : ∀ (l : List PostC) (k : Nat) (pu : List (Nat × Option Ck)), postUpd ids fresh k l = some pu → ∀ i y, ulook (pcan k l) i = some y →
  ∃ j x, back ids fresh i = some j ∧ ulook pu j = some x ∧ ((y = none ∧ x = none) ∨ ∃ c c', y = some c ∧ c.ren (back ids fresh) = some c' ∧ x = some c')
 | [], k, pu, h, i, y, hy => by simp [pcan, ulook] at hy
 | .same :: l, k, pu, h, i, y, hy => postUpd_bwd hinj l (k + 1) pu h i y hy
 | .gone :: l, k, pu, h, i, y, hy => by
  unfold postUpd at h
  cases hb : back ids fresh k with
  | none => rw [hb] at h; cases h
  | some j0 =>
   rw [hb] at h
   cases hr : postUpd ids fresh (k + 1) l with
   | none => rw [hr] at h; cases h
   | some pu' =>
    rw [hr] at h
    simp only [] at h
    injection h with h
    subst h
    simp only [pcan, ulook] at hy
    cases hl : ulook (pcan (k + 1) l) i with
    | some z =>
     rw [hl] at hy
     simp only [] at hy
     injection hy with hy
     subst hy
     obtain ⟨j, x, a, b, c⟩ := postUpd_bwd hinj l (k + 1) pu' hr i z hl
     exact ⟨j, x, a, by simp only [ulook, b], c⟩
    | none =>
     rw [hl] at hy
     simp only [] at hy
     cases hn : Nat.beq i k with
     | false => rw [hn] at hy; cases hy
     | true =>
      rw [hn] at hy
      simp only [] at hy
      injection hy with hy
      subst hy
      have := (nbeq i k).1 hn
      subst this
      refine ⟨j0, none, hb, ?_, .inl ⟨rfl, rfl⟩⟩
      simp only [ulook]
      cases hq : ulook pu' j0 with
      | none => simp only [(nbeq j0 j0).2 rfl]
      | some z =>
       obtain ⟨i2, y2, a, b, c, d⟩ := postUpd_fwd l (i + 1) pu' hr j0 z hq
       have := hinj _ _ _ c hb
       omega
 | .to c :: l, k, pu, h, i, y, hy => by
  unfold postUpd at h
  cases hb : back ids fresh k with
  | none => rw [hb] at h; cases h
  | some j0 =>
   rw [hb] at h
   cases hc : c.ren (back ids fresh) with
   | none => rw [hc] at h; cases h
   | some c' =>
    rw [hc] at h
    cases hr : postUpd ids fresh (k + 1) l with
    | none => rw [hr] at h; cases h
    | some pu' =>
     rw [hr] at h
     simp only [] at h
     injection h with h
     subst h
     simp only [pcan, ulook] at hy
     cases hl : ulook (pcan (k + 1) l) i with
     | some z =>
      rw [hl] at hy
      simp only [] at hy
      injection hy with hy
      subst hy
      obtain ⟨j, x, a, b, c⟩ := postUpd_bwd hinj l (k + 1) pu' hr i z hl
      exact ⟨j, x, a, by simp only [ulook, b], c⟩
     | none =>
      rw [hl] at hy
      simp only [] at hy
      cases hn : Nat.beq i k with
      | false => rw [hn] at hy; cases hy
      | true =>
       rw [hn] at hy
       simp only [] at hy
       injection hy with hy
       subst hy
       have := (nbeq i k).1 hn
       subst this
       refine ⟨j0, some c', hb, ?_, .inr ⟨c, c', rfl, hc, rfl⟩⟩
       simp only [ulook]
       cases hq : ulook pu' j0 with
       | none => simp only [(nbeq j0 j0).2 rfl]
       | some z =>
        obtain ⟨i2, y2, a, b, e, d⟩ := postUpd_fwd l (i + 1) pu' hr j0 z hq
        have := hinj _ _ _ e hb
        omega
theorem ulook_app : ∀ (u v : List (Nat × Option Ck)) (i : Nat), ulook (u ++ v) i = match ulook v i with | some x => some x | none => ulook u i
 | [], v, i => by cases h : ulook v i <;> simp [ulook, h]
 | (j, c) :: u, v, i => by
  simp only [List.cons_append, ulook, ulook_app u v i]
  cases ulook v i <;> rfl
theorem sameU_look : ∀ (ids : List Nat) (cks : List Ck), ids.Nodup → ids.length = cks.length → (∀ id x, ulook (sameU ids cks) id = some x → ∃ (i : Nat) (a : i < ids.length) (b : i < cks.length), id = ids[i] ∧ x = some cks[i]) ∧
  ∀ (i : Nat) (a : i < ids.length) (b : i < cks.length), ulook (sameU ids cks) ids[i] = some (some cks[i])
 | [], [], _, _ => ⟨fun id x h => by simp [sameU, ulook] at h, fun i a _ => absurd a (by simp)⟩
 | [], c :: cs, _, h => by simp at h
 | i :: is, [], _, h => by simp at h
 | i :: is, c :: cs, hn, hl => by
  obtain ⟨h1, h2⟩ := List.nodup_cons.1 hn
  obtain ⟨p, q⟩ := sameU_look is cs h2 (by simpa using hl)
  refine ⟨fun id x h => ?_, fun j a b => ?_⟩
  ·simp only [sameU, ulook] at h
   cases hu : ulook (sameU is cs) id with
   | some z =>
    rw [hu] at h
    simp only [] at h
    injection h with h
    subst h
    obtain ⟨k, a, b, e1, e2⟩ := p id z hu
    exact ⟨k + 1, by simpa using a, by simpa using b, by simpa using e1, by simpa using e2⟩
   | none =>
    rw [hu] at h
    simp only [] at h
    cases hb : Nat.beq id i with
    | false => rw [hb] at h; cases h
    | true =>
     rw [hb] at h
     simp only [] at h
     injection h with h
     exact ⟨0, by simp, by simp, by simpa using (nbeq id i).1 hb, by simpa using h.symm⟩
  ·cases j with
   | zero =>
    simp only [List.getElem_cons_zero, sameU, ulook]
    cases hu : ulook (sameU is cs) i with
    | some z =>
     obtain ⟨k, a, b, e1, e2⟩ := p i z hu
     exact absurd (e1 ▸ List.getElem_mem a) h1
    | none => simp only [(nbeq i i).2 rfl]
   | succ j =>
    have := q j (by simpa using a) (by simpa using b)
    simp only [List.getElem_cons_succ, sameU, ulook, this]
section
variable {P : Program} {C : Ctx} {PL : Nat → Option Pl} {s : St} {Fr : Nat → Prop} {a : Act} {w : World} {o : Oper} {Q : Exit → Act → World → Prop}
theorem ulook_none : ∀ (u : List (Nat × Option Ck)) (j : Nat), j ∉ ukeys u → ulook u j = none
 | [], j, h => rfl
 | (i, c) :: l, j, h => by
  simp only [ukeys, List.mem_cons, not_or] at h
  simp only [ulook, ulook_none l j h.2, (nbeq_false _ _).2 h.1]
theorem ulook_append : ∀ (u v : List (Nat × Option Ck)) (j : Nat), ulook (u ++ v) j = match ulook v j with | some x => some x | none => ulook u j
 | [], v, j => by simp only [List.nil_append, ulook]; cases ulook v j <;> rfl
 | (i, c) :: l, v, j => by
  simp only [List.cons_append, ulook, ulook_append l v j]
  cases ulook v j <;> rfl
theorem ulook_dropU (keep : List Nat) : ∀ (u : List (Nat × Option Ck)) (j : Nat), ulook (dropU keep u) j = match nmem j keep with | true => none | false => ulook u j
 | [], j => by simp only [dropU, ulook]; split <;> rfl
 | (i, c) :: l, j => by
  simp only [dropU]
  cases hi : nmem i keep with
  | true =>
   simp only [ulook_dropU keep l j, ulook]
   cases hj : nmem j keep with
   | true => rfl
   | false =>
    have hne : j ≠ i := by intro e; subst e; rw [hi] at hj; cases hj
    simp only [(nbeq_false _ _).2 hne]
    cases ulook l j <;> rfl
  | false =>
   simp only [ulook, ulook_dropU keep l j]
   cases hj : nmem j keep with
   | true =>
    have hne : j ≠ i := by intro e; subst e; rw [hi] at hj; cases hj
    simp only [(nbeq_false _ _).2 hne]
   | false => rfl
theorem keepIds_mem : ∀ (ids : List Nat) (sm : List Bool) (i : Nat), i ∈ keepIds ids sm → i ∈ ids
 | [], sm, i, h => by cases sm <;> simp [keepIds] at h
 | j :: ids, [], i, h => by simp [keepIds] at h
 | j :: ids, true :: sm, i, h => by
  simp only [keepIds, List.mem_cons] at h ⊢
  rcases h with h | h
  ·exact .inl h
  ·exact .inr (keepIds_mem ids sm i h)
 | j :: ids, false :: sm, i, h => List.mem_cons_of_mem _ (keepIds_mem ids sm i (by simpa [keepIds] using h))
theorem HSat.ext {C : Ctx} {PL : Nat → Option Pl} {hp hp' : List (Nat × Ck)} {Fr : Nat → Prop} {w : World} (h : HSat C PL hp Fr w) (e : ∀ j, hget hp' j = hget hp j) : HSat C PL hp' Fr w := by
 have ho : ∀ b, Own PL hp' b ↔ Own PL hp b := fun b => by
  constructor
  ·rintro ⟨id, c, p, h1, h2, h3⟩; exact ⟨id, c, p, by rw [← e]; exact h1, h2, h3⟩
  ·rintro ⟨id, c, p, h1, h2, h3⟩; exact ⟨id, c, p, by rw [e]; exact h1, h2, h3⟩
 have hA : ∀ b, b < w.heap.size → (C.Z b ∨ Own PL hp' b) → (C.Z b ∨ Own PL hp b) := fun b _ hb => by rwa [ho] at hb
 exact ⟨fun id c hc => (h.ck id c (by rw [← e]; exact hc)).mono (fun _ _ h => h) (Nat.le_refl _) (fun _ _ _ => rfl) hA (fun _ _ _ _ => rfl), fun i j c d p q b h1 h2 => h.dj i j c d p q b (by rw [← e]; exact h1) (by rw [← e]; exact h2), fun b hb => h.own b ((ho b).1 hb), h.os, h.tape, h.output, h.size, h.old, h.zlt, h.fr, h.arg⟩
theorem Sat.ext {C : Ctx} {PL : Nat → Option Pl} {s t : St} {Fr : Nat → Prop} {a : Act} {w : World} (h : Sat C PL s Fr a w) (e1 : t.fr = s.fr) (e2 : t.nx = s.nx) (e : ∀ j, hget t.hp j = hget s.hp j) : Sat C PL t Fr a w := by
 have hA : ∀ b, b < w.heap.size → Avo C PL t.hp b → Avo C PL s.hp b := fun b _ hb => by
  rcases hb with hz | ⟨id, c, p, h1, h2, h3⟩
  ·exact .inl hz
  ·exact .inr ⟨id, c, p, by rw [← e]; exact h1, h2, h3⟩
 exact { h.toHSat.ext e with len := by rw [e1]; exact h.len, def_ := h.def_.mono (Nat.le_refl _) (fun _ _ _ => rfl) hA, slot := fun i v hv => (h.slot i v (by rw [← e1]; exact hv)).mono (fun _ _ h => h) (Nat.le_refl _) (fun _ _ _ => rfl) hA }
theorem lend_row {hp : List (Nat × Ck)} (h : HSat C PL hp Fr w) {v : SV} {id : Nat} {r : R} {x : Value} (hv : v = .wsl id ∨ ∃ lo n, v = .sl id lo n) (hr : rowS hp v = some r) (hd : Den PL w (Avo C PL hp) v x) {Av' : Nat → Prop} (hA : ∀ b, b < w.heap.size → Av' b → Avo C PL hp b)
  (hno : ∀ p b, PL id = some p → p.a = some ⟨b, 0, none⟩ → ¬ Av' b) : Den PL w Av' (.rsl r) x := by
 obtain ⟨A, cap, e, hcap, hsome, hcell⟩ := row_den h hr hd
 have hblk : ∀ ad, A = some ad → 0 < rlen r → ∃ p b, PL id = some p ∧ p.a = some ⟨b, 0, none⟩ ∧ ad.block = b := by
  intro ad hA0 h0
  subst e
  rcases hv with rfl | ⟨lo, n, rfl⟩
  ·generalize hrl : rlen r = rl at hd
   cases hd with
   | wsl _ p hp' =>
    obtain ⟨q, hq, l1, l2, l3, hrow⟩ := row_rp (h.ck id _ (rowOf_some hr))
    rw [hp'] at hq; injection hq with hq; subst hq
    rcases hrow with ⟨hn, _⟩ | ⟨b, cs, g1, _⟩
    ·rw [hn] at hA0; cases hA0
    ·rw [g1] at hA0; injection hA0 with hA0; subst hA0; exact ⟨p, b, hp', g1, rfl⟩
  ·have hr' := hr
   simp only [rowS] at hr'
   cases hro : rowOf hp id with
   | none => rw [hro] at hr'; cases hr'
   | some q0 =>
    generalize hrl : rlen r = rl at hd h0
    cases hd with
    | sl _ _ _ p _ _ hp' hl hc hn hAA =>
     obtain ⟨q, hq, l1, l2, l3, hrow⟩ := row_rp (h.ck id _ (rowOf_some hro))
     rw [hp'] at hq; injection hq with hq; subst hq
     rcases hrow with ⟨hn', _⟩ | ⟨b, cs, g1, _⟩
     ·rw [hn.2 hn'] at hA0; cases hA0
     ·have := hAA (by omega)
      rw [hA0, g1] at this
      simp only [Option.map_some] at this
      injection this with this
      subst this
      exact ⟨p, b, hp', g1, by rw [add_block]⟩
 subst e
 refine .rsl r A cap (fun i j => ((A.bind fun ad => w.cell? ((ad.add (i * r.sz)).add j))).getD undef) hcap (fun h0 => ?_) (fun i j ad hA0 hi hj => ?_) (fun i j hi hj => ?_)
 ·obtain ⟨ad, hA0⟩ := Option.isSome_iff_exists.1 (hsome h0)
  obtain ⟨p, b, h1, h2, h3⟩ := hblk ad hA0 h0
  refine ⟨ad, hA0, ?_, ?_⟩
  ·rcases hv with rfl | ⟨lo, n, rfl⟩
   ·exact h3 ▸ (h.ck id _ (rowOf_some hr)).lt h1 h2
   ·simp only [rowS] at hr
    cases hro : rowOf hp id with
    | none => rw [hro] at hr; cases hr
    | some q0 => exact h3 ▸ (h.ck id _ (rowOf_some hro)).lt h1 h2
  ·rw [h3]; exact hno p b h1 h2
 ·obtain ⟨u, e1, e2, e3⟩ := hcell ad hA0 i j hi (by rw [R.elem_len]; exact hj)
  simp only [hA0, Option.bind_some, e1, Option.getD_some]
  exact ⟨trivial, e3⟩
 ·obtain ⟨ad, hA0⟩ := Option.isSome_iff_exists.1 (hsome (by omega))
  obtain ⟨u, e1, e2, e3⟩ := hcell ad hA0 i j hi hj
  simp only [hA0, Option.bind_some, e1, Option.getD_some]
  exact e2.mono (fun _ _ h => h) (Nat.le_refl _) (fun _ _ _ => rfl) hA
theorem lends_den {hp : List (Nat × Ck)} (h : HSat C PL hp Fr w) {Av' : Nat → Prop} (hA : ∀ b, b < w.heap.size → Av' b → Avo C PL hp b) : ∀ (ro : List (Option RK)) (vs ws : List SV) (args : List Value) (lent : Bool),
  lends hp ro vs = some (ws, lent) → (∀ id ∈ lentIds ro vs, ∀ p b, PL id = some p → p.a = some ⟨b, 0, none⟩ → ¬ Av' b) → DensA PL w (Avo C PL hp) vs args → DensA PL w Av' ws args ∧ (lent = false → lentIds ro vs = [])
 | ro, [], ws, args, lent, hl, _, hd => by
  cases ro <;> (simp only [lends] at hl; injection hl with hl; injection hl with h1 h2; subst h1; subst h2; exact ⟨⟨hd.1, fun j a _ => absurd a (by simp)⟩, fun _ => by simp [lentIds]⟩)
 | [], x :: xs, ws, args, lent, hl, hn, hd => by
  simp only [lends] at hl
  cases h1 : lends hp [] xs with
  | none => rw [h1] at hl; cases hl
  | some q =>
   obtain ⟨ys, b⟩ := q
   rw [h1] at hl
   simp only [] at hl
   injection hl with hl; injection hl with e1 e2; subst e1; subst e2
   obtain ⟨c, cs', rfl⟩ : ∃ c cs', args = c :: cs' := by
    cases args with
    | nil => have := hd.1; simp at this
    | cons c cs' => exact ⟨c, cs', rfl⟩
   have d0 : Den PL w Av' x c := (hd.2 0 (by simp) (by simp)).mono (fun _ _ h => h) (Nat.le_refl _) (fun _ _ _ => rfl) hA
   obtain ⟨dr, dl⟩ := lends_den h hA [] xs ys cs' b h1 (fun id hid => by simp [lentIds] at hid) ⟨by have := hd.1; simpa using this, fun j a b => hd.2 (j + 1) (by simpa using a) (by simpa using b)⟩
   refine ⟨⟨by simp [dr.1], fun j a b => ?_⟩, fun _ => by simp [lentIds]⟩
   cases j with
   | zero => exact d0
   | succ j => exact dr.2 j (by simpa using a) (by simpa using b)
 | b0 :: ro, x :: xs, ws, args, lent, hl, hn, hd => by
  simp only [lends] at hl
  cases h0 : lend hp b0 x with
  | none => rw [h0] at hl; cases hl
  | some q0 =>
   obtain ⟨y, c0⟩ := q0
   rw [h0] at hl
   simp only [] at hl
   cases h1 : lends hp ro xs with
   | none => rw [h1] at hl; cases hl
   | some q =>
    obtain ⟨ys, b⟩ := q
    rw [h1] at hl
    simp only [] at hl
    injection hl with hl; injection hl with e1 e2; subst e1; subst e2
    obtain ⟨c, cs', rfl⟩ : ∃ c cs', args = c :: cs' := by
     cases args with
     | nil => have := hd.1; simp at this
     | cons c cs' => exact ⟨c, cs', rfl⟩
    have dx := hd.2 0 (by simp) (by simp)
    simp only [List.getElem_cons_zero] at dx
    have plain : Den PL w Av' x c := dx.mono (fun _ _ h => h) (Nat.le_refl _) (fun _ _ _ => rfl) hA
    have tailsub : ∀ id ∈ lentIds ro xs, id ∈ lentIds (b0 :: ro) (x :: xs) := by
     intro id hid
     cases b0 with
     | none => simpa [lentIds] using hid
     | some rk => cases x <;> simp [lentIds, hid]
    obtain ⟨dr, dl⟩ := lends_den h hA ro xs ys cs' b h1 (fun id hid => hn id (tailsub id hid)) ⟨by have := hd.1; simpa using this, fun j a b => hd.2 (j + 1) (by simpa using a) (by simpa using b)⟩
    have d0 : Den PL w Av' y c ∧ (c0 = false → lentIds (b0 :: ro) (x :: xs) = lentIds ro xs) := by
     cases b0 with
     | none =>
      simp only [lend] at h0
      injection h0 with h0; injection h0 with e1 e2; subst e1
      exact ⟨plain, fun _ => rfl⟩
     | some rk =>
      cases x with
      | wsl id =>
       simp only [lend] at h0
       split at h0
       ·rename_i r hr
        injection h0 with h0; injection h0 with e1 e2; subst e1; subst e2
        exact ⟨lend_row h (id := id) (.inl rfl) (by simp [rowS, rowOf, hr]) dx hA (hn id (by simp [lentIds])), fun h => by cases h⟩
       ·cases h0
      | sl id lo n =>
       simp only [lend] at h0
       split at h0
       ·rename_i r hr
        injection h0 with h0; injection h0 with e1 e2; subst e1; subst e2
        exact ⟨lend_row h (id := id) (.inr ⟨lo, n, rfl⟩) (by simp [rowS, rowOf, hr]) dx hA (hn id (by simp [lentIds])), fun h => by cases h⟩
       ·cases h0
      | nsl =>
       simp only [lend] at h0
       injection h0 with h0; injection h0 with e1 e2; subst e1
       exact ⟨nil_den (by cases rk <;> rfl) plain, fun _ => by simp [lentIds]⟩
      | _ =>
       simp only [lend] at h0
       injection h0 with h0; injection h0 with e1 e2; subst e1
       exact ⟨plain, fun _ => by simp [lentIds]⟩
    refine ⟨⟨by simp [dr.1], fun j a b => ?_⟩, fun hf => ?_⟩
    ·cases j with
     | zero => exact d0.1
     | succ j => exact dr.2 j (by simpa using a) (by simpa using b)
    ·cases c0 with
     | true => cases hf
     | false => rw [d0.2 rfl]; exact dl hf
end
end Go.Proofs.YtbkcmpggacbikaaDoor
end
section
/-
  A walk that reckons: a call by contract, in the caller's memory.
-/
set_option linter.unusedVariables false
set_option linter.unusedSimpArgs false
namespace Go.Proofs.YtbkcmpggacbikaaDoor
open Go.RowKit
theorem back_lt {ids : List Nat} {fresh i : Nat} (h : i < ids.length) : back ids fresh i = some ids[i] := by
 simp [back, nth, h]
theorem back_ge {ids : List Nat} {fresh i j : Nat} (h : ids.length ≤ i) (hb : back ids fresh i = some j) : i < ids.length + 8 ∧ j = fresh + (i - ids.length) := by
 have hn : ids[i]? = none := List.getElem?_eq_none h
 simp only [back, nth, hn] at hb
 cases hc : Nat.ble (i + 1) (ids.length + 8) with
 | false => rw [hc] at hb; cases hb
 | true =>
  rw [hc] at hb
  simp only [] at hb
  injection hb with hb
  exact ⟨by have := Nat.le_of_ble_eq_true hc; omega, hb.symm⟩
section
variable {P : Program} {C : Ctx} {PL : Nat → Option Pl} {s : St} {Fr : Nat → Prop} {a : Act} {w : World} {o : Oper} {Q : Exit → Act → World → Prop} {Γ : FuncId → Option Con}
theorem CkOk.weak {PL : Nat → Option Pl} {w : World} {Av Av' : Nat → Prop} {id : Nat} {c : Ck} (h : CkOk PL w Av id c) (hA : ∀ b, b < w.heap.size → Av' b → Av b) : CkOk PL w Av' id c :=
 h.mono (fun _ _ h => h) (Nat.le_refl _) (fun _ _ _ => rfl) hA (fun _ _ _ _ => rfl)
theorem snd_call (hΓ : TabOK P Γ) (h : Sat C PL s Fr a w) {fresh : Nat} (hfr : ∀ i, fresh ≤ i → i < fresh + 8 → Fr i) (hk : C.k ≤ fresh) {f : FuncId} {vs : List SV} {E : Eff} (hE : callS Γ f vs s fresh = some E) (hob : ∀ p ∈ E.ob, p) {args : List Value}
  (hargs : DensA PL w (Avo C PL s.hp) vs args) (hrun : (execOp a.eval o).run P w = .ok (.enter f args.toArray) w) :
  o.wp P a w (Eff.post E C s o.dst (fun i => Fr i ∧ ¬ (fresh ≤ i ∧ i < fresh + 8))) Q := by
 unfold callS at hE
 cases hcon : Γ f with
 | none => rw [hcon] at hE; cases hE
 | some con =>
 rw [hcon] at hE
 simp only [] at hE
 cases hlends : lends s.hp con.ro vs with
 | none => rw [hlends] at hE; cases hE
 | some q =>
 obtain ⟨ws, lent⟩ := q
 rw [hlends] at hE
 simp only [] at hE
 generalize reach s.hp 40 (SV.idsL ws) [] = ids at hE
 unfold callT at hE
 cases hra : SV.renL (fun i => npos i ids 0) ws with
 | none => rw [hra] at hE; cases hE
 | some cargs =>
 rw [hra] at hE
 simp only [] at hE
 cases hcks : cksOf s.hp ids with
 | none => rw [hcks] at hE; cases hE
 | some cks =>
 rw [hcks] at hE
 simp only [] at hE
 cases hcc : Ck.renL (fun i => npos i ids 0) cks with
 | none => rw [hcc] at hE; cases hE
 | some ccks =>
 rw [hcc] at hE
 simp only [] at hE
 cases hdj : ndisj (lentIds con.ro vs) ids with
 | false => rw [hdj] at hE; cases hE
 | true =>
 rw [hdj] at hE
 simp only [] at hE
 cases hnd : nnodup ids with
 | false => rw [hnd] at hE; cases hE
 | true =>
 rw [hnd] at hE
 simp only [] at hE
 cases hce : con.f cargs ccks with
 | none => rw [hce] at hE; cases hE
 | some ce =>
 rw [hce] at hE
 simp only [] at hE
 have hdis := ndisj_spec _ _ hdj
 have hnod := nnodup_spec _ hnd
 obtain ⟨lck, gck⟩ := cksOf_spec s.hp ids cks hcks
 obtain ⟨lcc, gcc⟩ := renL_spec cks ccks hcc
 have hkl : ccks.length = ids.length := by omega
 let PLc : Nat → Option Pl := fun i => (ids[i]?).bind PL
 have PLc_lt : ∀ (i : Nat) (hi : i < ids.length), PLc i = PL ids[i] := fun i hi => by simp [PLc, hi]
 have PLc_ge : ∀ i, ids.length ≤ i → PLc i = none := fun i hi => by simp [PLc, List.getElem?_eq_none hi]
 let Zc : Nat → Prop := fun b => C.Z b ∨ ∃ id c p, hget s.hp id = some c ∧ PL id = some p ∧ p.a = some ⟨b, 0, none⟩ ∧ id ∉ ids ∧ id ∉ lentIds con.ro vs
 have npos_id : ∀ x j, npos x ids 0 = some j → ∃ h : j < ids.length, ids[j] = x := fun x j e => by
  obtain ⟨_, h2⟩ := npos_spec ids x 0 j e
  obtain ⟨h3, h4⟩ := List.getElem?_eq_some_iff.1 (by simpa using h2 : ids[j]? = some x)
  exact ⟨h3, h4⟩
 have own_c : ∀ b, Own PLc (canon 0 ccks) b ↔ ∃ (i : Nat) (hi : i < ids.length) (p : Pl), PL ids[i] = some p ∧ p.a = some ⟨b, 0, none⟩ := fun b => by
  constructor
  ·rintro ⟨i, c, p, h1, h2, h3⟩
   rw [hget_canon, if_pos (Nat.zero_le _)] at h1
   have hi : i < ids.length := by have := (List.getElem?_eq_some_iff.1 h1).1; omega
   exact ⟨i, hi, p, by rw [← PLc_lt i hi]; exact h2, h3⟩
  ·rintro ⟨i, hi, p, h1, h2⟩
   refine ⟨i, ccks[i]'(by omega), p, ?_, by rw [PLc_lt i hi]; exact h1, h2⟩
   rw [hget_canon, if_pos (Nat.zero_le _)]
   simp [show i < ccks.length by omega]
 have avc : ∀ b, b < w.heap.size → Avo (ctxOf w Zc PLc ccks) PLc (canon 0 ccks) b → Avo C PL s.hp b := by
  rintro b hb (hz | ho)
  ·rcases hz with hz | ⟨id, c, p, h1, h2, h3, _⟩
   ·exact .inl hz
   ·exact .inr ⟨id, c, p, h1, h2, h3⟩
  ·obtain ⟨i, hi, p, h1, h2⟩ := (own_c b).1 ho
   exact .inr ⟨ids[i], _, p, gck i hi (by omega), h1, h2⟩
 have hρ : ∀ i j p, npos i ids 0 = some j → PL i = some p → PLc j = some p := fun i j p e hp => by
  obtain ⟨hj, e2⟩ := npos_id i j e
  rw [PLc_lt j hj, e2]; exact hp
 have HC : HSat (ctxOf w Zc PLc ccks) PLc (canon 0 ccks) (fun i => ccks.length ≤ i) w := by
  refine ⟨?_, ?_, ?_, rfl, rfl, rfl, Nat.le_refl _, fun _ _ _ => rfl, ?_, fun i hi => PLc_ge i (by omega), fun _ _ => rfl⟩
  ·intro i c hc
   rw [hget_canon, if_pos (Nat.zero_le _)] at hc
   obtain ⟨hi, hc⟩ := List.getElem?_eq_some_iff.1 hc
   simp only [Nat.sub_zero] at hi hc
   subst hc
   have hi' : i < ids.length := by omega
   exact ren_ck hρ (fun p hp => by rw [PLc_lt i hi']; exact hp) (gcc i (by omega) hi) (rsl_any avc) (h.ck ids[i] _ (gck i hi' (by omega)))
  ·intro i j c d p q b hi hj hp hq ha hb
   rw [hget_canon, if_pos (Nat.zero_le _)] at hi hj
   have hi' : i < ids.length := by have := (List.getElem?_eq_some_iff.1 hi).1; omega
   have hj' : j < ids.length := by have := (List.getElem?_eq_some_iff.1 hj).1; omega
   rw [PLc_lt i hi'] at hp
   rw [PLc_lt j hj'] at hq
   have := h.dj ids[i] ids[j] _ _ p q b (gck i hi' (by omega)) (gck j hj' (by omega)) hp hq ha hb
   exact (List.getElem_inj hnod).1 this
  ·intro b ho
   refine ⟨?_, .inl ho⟩
   obtain ⟨i, hi, p, h1, h2⟩ := (own_c b).1 ho
   rintro (hz | ⟨id, c, p', e1, e2, e3, e4, _⟩)
   ·exact (h.own b ⟨ids[i], _, p, gck i hi (by omega), h1, h2⟩).1 hz
   ·have := h.dj id ids[i] _ _ p' p b e1 (gck i hi (by omega)) e2 h1 e3 h2
    exact e4 (this ▸ List.getElem_mem hi)
  ·refine ⟨?_, fun g r hg => (h.glob hg).mono (fun _ _ h => by cases h) (Nat.le_refl _) (fun _ _ _ => rfl) avc⟩
   rintro b (hz | ⟨id, c, p, e1, e2, e3, _⟩)
   ·exact Nat.lt_of_lt_of_le (h.zlt.1 b hz) h.size
   ·exact (h.ck id c e1).lt e2 e3
 have hnolent : ∀ id ∈ lentIds con.ro vs, ∀ p b, PL id = some p → p.a = some ⟨b, 0, none⟩ → hget s.hp id ≠ none → ¬ Avo (ctxOf w Zc PLc ccks) PLc (canon 0 ccks) b := by
  intro id hid p b hp ha hlive hx
  obtain ⟨c, hc⟩ := Option.ne_none_iff_exists'.1 hlive
  rcases hx with hz | ho
  ·rcases hz with hz | ⟨id2, c2, p2, e1, e2, e3, e4, e5⟩
   ·exact (h.own b ⟨id, c, p, hc, hp, ha⟩).1 hz
   ·have := h.dj id id2 _ _ p p2 b hc e1 hp e2 ha e3
    exact e5 (this ▸ hid)
  ·obtain ⟨i, hi, p2, e1, e2⟩ := (own_c b).1 ho
   have := h.dj id ids[i] _ _ p p2 b hc (gck i hi (by omega)) hp e1 ha e2
   exact hdis id hid (this ▸ List.getElem_mem hi)
 have hlentlive : ∀ (ro : List (Option RK)) (vs ws : List SV) (l : Bool), lends s.hp ro vs = some (ws, l) → ∀ id ∈ lentIds ro vs, hget s.hp id ≠ none := by
  intro ro
  induction ro with
  | nil => intro vs ws l _ id hid; simp [lentIds] at hid
  | cons b ro ih =>
   intro vs ws l hl id hid
   cases vs with
   | nil => cases b <;> simp [lentIds] at hid
   | cons x xs =>
    simp only [lends] at hl
    cases h0 : lend s.hp b x with
    | none => rw [h0] at hl; cases hl
    | some q0 =>
     obtain ⟨y, c0⟩ := q0
     rw [h0] at hl
     simp only [] at hl
     cases h1 : lends s.hp ro xs with
     | none => rw [h1] at hl; cases hl
     | some q =>
      obtain ⟨ys, d0⟩ := q
      have tl := ih xs ys d0 h1
      cases b with
      | none => simp only [lentIds] at hid; exact tl id hid
      | some rk =>
       cases x with
       | wsl i0 =>
        simp only [lentIds, List.mem_cons] at hid
        rcases hid with rfl | hid
        ·simp only [lend] at h0
         split at h0
         ·rename_i r hr; rw [hr]; simp
         ·cases h0
        ·exact tl id hid
       | sl i0 lo n =>
        simp only [lentIds, List.mem_cons] at hid
        rcases hid with rfl | hid
        ·simp only [lend] at h0
         split at h0
         ·rename_i r hr; rw [hr]; simp
         ·cases h0
        ·exact tl id hid
       | _ => simp only [lentIds] at hid; exact tl id hid
 obtain ⟨hws, hlf⟩ := lends_den h.toHSat avc con.ro vs ws args lent hlends (fun id hid p b hp ha => hnolent id hid p b hp ha (hlentlive _ _ _ _ hlends id hid)) hargs
 have hcargs : DensA PLc w (Avo (ctxOf w Zc PLc ccks) PLc (canon 0 ccks)) cargs args := renL_den hρ ws cargs args hra (rsl_any (fun _ _ h => h)) hws
 have hobc : (∀ p ∈ ce.ob, p) ∧ (∀ X Pr v post, ce.out = .many X Pr v post → ∀ x, Pr x → resOk2 ids ccks fresh lent ce.sm (v x) (post x) = true) := by
  unfold effOf at hE
  cases hout : ce.out with
  | one v post =>
   rw [hout] at hE
   simp only [] at hE
   split at hE
   ·injection hE with hE
    subst hE
    exact ⟨hob, fun X Pr v post e => by cases e⟩
   ·cases hE
  | many X Pr v post =>
   rw [hout] at hE
   simp only [] at hE
   injection hE with hE
   subst hE
   refine ⟨fun p hp => hob p (List.mem_append_left _ hp), fun X' Pr' v' post' e => ?_⟩
   have := hob _ (List.mem_append_right _ (List.mem_singleton.2 rfl))
   cases e
   exact this
 have hcall := hΓ f con hcon cargs ccks ce hce hobc.1 Zc PLc w args HC hcargs
 have after : ∀ (w' : World) (u : Value) (PL' : Nat → Option Pl) (v : SV) (post : List PostC), resOk ids ccks fresh lent v post = true →
   HSat (ctxOf w Zc PLc ccks) PL' (hupd (pcan 0 post) (canon 0 ccks)) (fun _ => False) w' → Den PL' w' (Avo (ctxOf w Zc PLc ccks) PL' (hupd (pcan 0 post) (canon 0 ccks))) v u →
   ∃ PLn, Sat C PLn (s.put o.dst (some (valb ids fresh v)) (upds ids cks fresh post)) (fun i => Fr i ∧ ¬ (fresh ≤ i ∧ i < fresh + 8)) (a.put o.dst u) w' := by
  intro w' u PL' v post hres H' hden
  unfold resOk at hres
  split at hres
  ·rename_i hclean
   cases hpu : postUpd ids fresh 0 post with
   | none => rw [hpu] at hres; cases hres
   | some pu =>
   rw [hpu] at hres
   simp only [] at hres
   cases hvb : v.ren (back ids fresh) with
   | none => rw [hvb] at hres; cases hres
   | some vb =>
   have hvalb : valb ids fresh v = vb := by simp [valb, hvb]
   have hu : upds ids cks fresh post = sameU ids cks ++ pu := by simp [upds, hpu]
   rw [hvalb, hu]
   obtain ⟨sm1, sm2⟩ := sameU_look ids cks hnod lck.symm
   have livePL : ∀ (i : Nat) (hi : i < ids.length), ∃ p, PL ids[i] = some p := fun i hi => (h.ck ids[i] _ (gck i hi (by omega))).place
   have notfresh : ∀ (i : Nat) (hi : i < ids.length), ¬ (fresh ≤ ids[i] ∧ ids[i] < fresh + 8) := fun i hi hx => by
    obtain ⟨p, hp⟩ := livePL i hi
    rw [h.fr _ (hfr _ hx.1 hx.2)] at hp
    cases hp
   have hinj : ∀ i i' j, back ids fresh i = some j → back ids fresh i' = some j → i = i' := by
    intro i i' j h1 h2
    by_cases c1 : i < ids.length
    ·rw [back_lt c1] at h1
     injection h1 with h1
     by_cases c2 : i' < ids.length
     ·rw [back_lt c2] at h2
      injection h2 with h2
      exact (List.getElem_inj hnod).1 (h1.trans h2.symm)
     ·obtain ⟨g1, g2⟩ := back_ge (by omega) h2
      exact absurd (by omega) (notfresh i c1)
    ·obtain ⟨g1, g2⟩ := back_ge (by omega) h1
     by_cases c2 : i' < ids.length
     ·rw [back_lt c2] at h2
      injection h2 with h2
      exact absurd (by omega) (notfresh i' c2)
     ·obtain ⟨g3, g4⟩ := back_ge (by omega) h2
      omega
   let PLn : Nat → Option Pl := fun id => if fresh ≤ id ∧ id < fresh + 8 then PL' (ids.length + (id - fresh)) else PL id
   have hpcan : ∀ i c, hget (hupd (pcan 0 post) (canon 0 ccks)) i = some c → (ulook (pcan 0 post) i = some (some c)) ∨ (ulook (pcan 0 post) i = none ∧ ccks[i]? = some c) := by
    intro i c hc
    rw [hget_hupd] at hc
    cases hl : ulook (pcan 0 post) i with
    | some x => rw [hl] at hc; simp only [] at hc; rw [hc]; exact .inl rfl
    | none => rw [hl] at hc; simp only [] at hc; rw [hget_canon, if_pos (Nat.zero_le _)] at hc; exact .inr ⟨rfl, by simpa using hc⟩
   have σ : ∀ x j, npos x ids 0 = some j → back ids fresh j = some x := fun x j e => by
    obtain ⟨hj, e2⟩ := npos_id x j e
    rw [back_lt hj, e2]
   have U1 : ∀ id c, ulook (sameU ids cks ++ pu) id = some (some c) → ∃ i ci, back ids fresh i = some id ∧ hget (hupd (pcan 0 post) (canon 0 ccks)) i = some ci ∧ ci.ren (back ids fresh) = some c := by
    intro id c hc
    rw [ulook_app] at hc
    cases hp : ulook pu id with
    | some x =>
     rw [hp] at hc
     simp only [] at hc
     injection hc with hc
     subst hc
     obtain ⟨i, y, _, g1, g2, g3⟩ := postUpd_fwd post 0 pu hpu id _ hp
     rcases g3 with ⟨_, g3⟩ | ⟨c1, c2, g3, g4, g5⟩
     ·cases g3
     ·injection g5 with g5
      subst g5
      subst g3
      exact ⟨i, c1, g2, by rw [hget_hupd, g1], g4⟩
    | none =>
     rw [hp] at hc
     simp only [] at hc
     obtain ⟨i, hi, hi2, e1, e2⟩ := sm1 id _ hc
     injection e2 with e2
     subst e2
     subst e1
     refine ⟨i, ccks[i]'(by omega), back_lt hi, ?_, ck_ren_ren σ _ _ (gcc i hi2 (by omega))⟩
     rw [hget_hupd]
     cases hl : ulook (pcan 0 post) i with
     | some y =>
      obtain ⟨j, x, g1, g2, _⟩ := postUpd_bwd hinj post 0 pu hpu i y hl
      rw [back_lt hi] at g1
      injection g1 with g1
      subst g1
      rw [hp] at g2
      cases g2
     | none => simp only []; rw [hget_canon, if_pos (Nat.zero_le _)]; simp [show i < ccks.length by omega]
   have U3 : ∀ (i : Nat) (hi : i < ids.length), (ulook (sameU ids cks ++ pu) ids[i]).isSome = true := by
    intro i hi
    rw [ulook_app]
    cases hp : ulook pu ids[i] with
    | some x => rfl
    | none => simp only []; rw [sm2 i hi (by omega)]; rfl
   have U2 : ∀ (i : Nat) (hi : i < ids.length), hget (hupd (pcan 0 post) (canon 0 ccks)) i = none → ulook (sameU ids cks ++ pu) ids[i] = some none := by
    intro i hi hn
    rw [hget_hupd] at hn
    cases hl : ulook (pcan 0 post) i with
    | some y =>
     rw [hl] at hn
     simp only [] at hn
     subst hn
     obtain ⟨j, x, g1, g2, g3⟩ := postUpd_bwd hinj post 0 pu hpu i _ hl
     rw [back_lt hi] at g1
     injection g1 with g1
     subst g1
     rcases g3 with ⟨_, g3⟩ | ⟨c1, c2, g3, _⟩
     ·subst g3
      rw [ulook_app, g2]
     ·cases g3
    | none =>
     rw [hl] at hn
     simp only [] at hn
     rw [hget_canon, if_pos (Nat.zero_le _)] at hn
     simp only [Nat.sub_zero] at hn
     have := List.getElem?_eq_none_iff.1 hn
     omega
   have PL'_lt : ∀ (i : Nat) (hi : i < ids.length), PL' i = PL ids[i] := fun i hi => by
    have := H'.arg i (show i < ccks.length by omega)
    rw [this]
    exact PLc_lt i hi
   have PLback : ∀ i j p, back ids fresh i = some j → PL' i = some p → PLn j = some p := by
    intro i j p hb hp
    by_cases c1 : i < ids.length
    ·rw [back_lt c1] at hb
     injection hb with hb
     subst hb
     simp only [PLn]
     rw [if_neg (notfresh i c1), ← PL'_lt i c1]
     exact hp
    ·obtain ⟨g1, g2⟩ := back_ge (by omega) hb
     subst g2
     simp only [PLn]
     rw [if_pos (by omega)]
     have : ids.length + (fresh + (i - ids.length) - fresh) = i := by omega
     rw [this]
     exact hp
   have PLback2 : ∀ i j, back ids fresh i = some j → PLn j = PL' i := by
    intro i j hb
    by_cases c1 : i < ids.length
    ·rw [back_lt c1] at hb
     injection hb with hb
     subst hb
     simp only [PLn]
     rw [if_neg (notfresh i c1), ← PL'_lt i c1]
    ·obtain ⟨g1, g2⟩ := back_ge (by omega) hb
     subst g2
     simp only [PLn]
     rw [if_pos (by omega)]
     have : ids.length + (fresh + (i - ids.length) - fresh) = i := by omega
     rw [this]
   have mv : Mv C PL s.hp w (sameU ids cks ++ pu) PLn (fun i => Fr i ∧ ¬ (fresh ≤ i ∧ i < fresh + 8)) w' := by
    refine ⟨?_, ?_, ?_, H'.os, H'.tape, H'.output, H'.size, ?_, ?_, ?_⟩
    ·intro i p hp
     simp only [PLn]
     split
     ·rename_i hx
      rw [h.fr _ (hfr _ hx.1 hx.2)] at hp
      cases hp
     ·exact hp
    ·intro i hi
     simp only [PLn]
     rw [if_neg (by omega)]
    ·intro i hi
     simp only [PLn]
     rw [if_neg hi.2]
     exact h.fr i hi.1
    ·intro b hb hn
     refine H'.old b hb fun ho => ?_
     obtain ⟨i, hi, p, h1, h2⟩ := (own_c b).1 ho
     exact hn ids[i] _ p (gck i hi (by omega)) (U3 i hi) h1 h2
    ·intro id c p b hl hp ha
     obtain ⟨i, ci, g1, g2, g3⟩ := U1 id c hl
     have hp' : PL' i = some p := by rw [← PLback2 i id g1]; exact hp
     rcases (H'.own b ⟨i, ci, p, g2, hp', ha⟩).2 with ho | hge
     ·obtain ⟨i0, hi0, p0, e1, e2⟩ := (own_c b).1 ho
      refine .inr ⟨ids[i0], _, p0, gck i0 hi0 (by omega), e1, e2, ?_⟩
      cases hg : hget (hupd (pcan 0 post) (canon 0 ccks)) i0 with
      | some c0 =>
       have := H'.dj i i0 ci c0 p p0 b g2 hg hp' (by rw [PL'_lt i0 hi0]; exact e1) ha e2
       subst this
       rw [back_lt hi0] at g1
       injection g1 with g1
       exact .inl g1
      | none => exact .inr (U2 i0 hi0 hg)
     ·exact .inl hge
    ·intro i j c d p q b hi hj hp hq ha hb
     obtain ⟨i1, c1, g1, g2, g3⟩ := U1 i c hi
     obtain ⟨i2, c2, e1, e2, e3⟩ := U1 j d hj
     have := H'.dj i1 i2 c1 c2 p q b g2 e2 (by rw [← PLback2 i1 i g1]; exact hp) (by rw [← PLback2 i2 j e1]; exact hq) ha hb
     subst this
     rw [g1] at e1
     injection e1
   have t := h.toHSat.tr mv
   have avn : lent = false → ∀ b, b < w'.heap.size → Avo C PLn (hupd (sameU ids cks ++ pu) s.hp) b → Avo (ctxOf w Zc PLc ccks) PL' (hupd (pcan 0 post) (canon 0 ccks)) b := by
    rintro hlt b hb (hz | ⟨id, c, p, hc, hp, ha⟩)
    ·exact .inl (.inl hz)
    ·rw [hget_hupd] at hc
     cases hl : ulook (sameU ids cks ++ pu) id with
     | some x =>
      rw [hl] at hc
      simp only [] at hc
      subst hc
      obtain ⟨i, ci, g1, g2, g3⟩ := U1 id c hl
      exact .inr ⟨i, ci, p, g2, by rw [← PLback2 i id g1]; exact hp, ha⟩
     | none =>
      rw [hl] at hc
      simp only [] at hc
      have hnid : id ∉ ids := by
       intro hx
       obtain ⟨i, hi, rfl⟩ := List.mem_iff_getElem.1 hx
       have := U3 i hi
       rw [hl] at this
       cases this
      obtain ⟨p0, hp0⟩ := (h.ck id c hc).place
      have hpp := mv.P id p0 hp0
      rw [hp] at hpp
      injection hpp with hpp
      subst hpp
      exact .inl (.inr ⟨id, c, p, hc, hp0, ha, hnid, by rw [hlf hlt]; simp⟩)
   have key : ∀ i ci, hget (hupd (pcan 0 post) (canon 0 ccks)) i = some ci → CkOk PL' w' (Avo C PLn (hupd (sameU ids cks ++ pu) s.hp)) i ci := by
    intro i ci hg
    have h0 := H'.ck i ci hg
    cases lent with
    | false => exact h0.weak (avn rfl)
    | true =>
     simp only [] at hclean
     cases hvc : v.clean with
     | false => rw [hvc] at hclean; cases hclean
     | true =>
     rw [hvc] at hclean
     simp only [] at hclean
     cases hpc : cleanPost post with
     | false => rw [hpc] at hclean; cases hclean
     | true =>
     rw [hpc] at hclean
     simp only [] at hclean
     refine cleanCk ?_ h0
     have post_clean : ∀ (l : List PostC) (k i : Nat) (c : Ck), cleanPost l = true → ulook (pcan k l) i = some (some c) → c.clean = true := by
      intro l
      induction l with
      | nil => intro k i c _ hl; simp [pcan, ulook] at hl
      | cons x l ih =>
       intro k i c hcl hl
       cases x with
       | same => exact ih (k + 1) i c (by simpa [cleanPost] using hcl) hl
       | gone =>
        simp only [pcan, ulook] at hl
        cases hq : ulook (pcan (k + 1) l) i with
        | some z => rw [hq] at hl; simp only [] at hl; injection hl with hl; subst hl; exact ih (k + 1) i c (by simpa [cleanPost] using hcl) hq
        | none =>
         rw [hq] at hl
         simp only [] at hl
         split at hl
         ·cases hl
         ·cases hl
       | to d =>
        unfold cleanPost at hcl
        cases hd : d.clean with
        | false => rw [hd] at hcl; cases hcl
        | true =>
         rw [hd] at hcl
         simp only [pcan, ulook] at hl
         cases hq : ulook (pcan (k + 1) l) i with
         | some z => rw [hq] at hl; simp only [] at hl; injection hl with hl; subst hl; exact ih (k + 1) i c hcl hq
         | none =>
          rw [hq] at hl
          simp only [] at hl
          split at hl
          ·injection hl with hl; injection hl with hl; subst hl; exact hd
          ·cases hl
     have all_clean : ∀ (l : List Ck) (i : Nat) (c : Ck), Ck.cleanL l = true → l[i]? = some c → c.clean = true := by
      intro l
      induction l with
      | nil => intro i c _ hl; simp at hl
      | cons x l ih =>
       intro i c hcl hl
       unfold Ck.cleanL at hcl
       cases hx : x.clean with
       | false => rw [hx] at hcl; cases hcl
       | true =>
        rw [hx] at hcl
        cases i with
        | zero => simp at hl; subst hl; exact hx
        | succ i => exact ih i c hcl (by simpa using hl)
     rcases hpcan i ci hg with hg | ⟨_, hg⟩
     ·exact post_clean post 0 i ci hpc hg
     ·exact all_clean ccks i ci hclean hg
   have hvden : Den PL' w' (Avo C PLn (hupd (sameU ids cks ++ pu) s.hp)) v u := by
    cases lent with
    | false => exact hden.mono (fun _ _ h => h) (Nat.le_refl _) (fun _ _ _ => rfl) (avn rfl)
    | true =>
     simp only [] at hclean
     cases hvc : v.clean with
     | false => rw [hvc] at hclean; cases hclean
     | true => exact clean_den v u hvc hden
   have HN := h.toHSat.mv mv (fun id c hl => by
    obtain ⟨i, ci, g1, g2, g3⟩ := U1 id c hl
    exact ren_ck PLback (fun p hp => PLback i id p g1 hp) g3 (rsl_any (fun _ _ h => h)) (key i ci g2))
   exact ⟨PLn, h.mv HN t o.dst _ u fun x hx => by
    injection hx with hx
    subst hx
    exact ren_den PLback v vb u hvb (rsl_any (fun _ _ h => h)) hvden⟩
  ·cases hres
 have after2 : ∀ (w' : World) (u : Value) (PL' : Nat → Option Pl) (v : SV) (post : List PostC), resOk2 ids ccks fresh lent ce.sm v post = true →
   HSat (ctxOf w Zc PLc ccks) PL' (hupd (pcan 0 post) (canon 0 ccks)) (fun _ => False) w' → Den PL' w' (Avo (ctxOf w Zc PLc ccks) PL' (hupd (pcan 0 post) (canon 0 ccks))) v u →
   ∃ PLn, Sat C PLn (s.put o.dst (some (valb ids fresh v)) (dropU (keepIds ids ce.sm) (upds ids cks fresh post))) (fun i => Fr i ∧ ¬ (fresh ≤ i ∧ i < fresh + 8)) (a.put o.dst u) w' := by
  intro w' u PL' v post hres H' hden
  unfold resOk2 at hres
  split at hres
  ·rename_i hres1
   obtain ⟨PLn, hS⟩ := after w' u PL' v post hres1 H' hden
   refine ⟨PLn, hS.ext rfl rfl fun j => ?_⟩
   simp only [St.put]
   rw [hget_hupd, hget_hupd, ulook_dropU]
   cases hm : nmem j (keepIds ids ce.sm) with
   | false => rfl
   | true =>
    simp only []
    have hk := (nmem_iff _ _).1 hm
    obtain ⟨i, hi, rfl⟩ := List.mem_iff_getElem.1 (keepIds_mem _ _ _ hk)
    have hn := ulook_none _ _ (ndisj_spec _ _ hres _ hk)
    have hs := (sameU_look ids cks hnod lck.symm).2 i hi (by omega)
    unfold upds
    rw [ulook_append, hn, hs, gck i hi (by omega)]
  ·cases hres
 unfold Oper.wp
 rw [hrun, Oper.upon_enter]
 refine hcall.mono ?_
 rintro e w' ⟨u, PL', rfl, hout⟩
 unfold effOf at hE
 cases ho : ce.out with
 | one v post =>
  rw [ho] at hE hout
  simp only [] at hE
  simp only [COut.holds] at hout
  split at hE
  ·rename_i hres
   injection hE with hE
   subst hE
   exact after2 w' u PL' v post hres hout.1 hout.2
  ·cases hE
 | many X Pr v post =>
  rw [ho] at hE hout
  simp only [] at hE
  simp only [COut.holds] at hout
  injection hE with hE
  subst hE
  obtain ⟨x, hx, h1, h2⟩ := hout
  exact ⟨x, hx, after2 w' u PL' (v x) (post x) (hobc.2 X Pr v post ho x hx) h1 h2⟩
end
end Go.Proofs.YtbkcmpggacbikaaDoor
end
section
/-
  A walk that reckons: each step is right.
-/
set_option linter.unusedVariables false
set_option linter.unusedSimpArgs false
namespace Go.Proofs.YtbkcmpggacbikaaDoor
open Go.RowKit
section
variable {P : Program} {C : Ctx} {PL : Nat → Option Pl} {s : St} {Fr : Nat → Prop} {a : Act} {w : World} {o : Oper} {Q : Exit → Act → World → Prop} {Γ : FuncId → Option Con}
theorem post_fr {E : Eff} {dst : Option Nat} {Fr Fr' : Nat → Prop} (hf : ∀ i, Fr' i → Fr i) (h : o.wp P a w (Eff.post E C s dst Fr) Q) : o.wp P a w (Eff.post E C s dst Fr') Q := by
 refine Oper.wp_mono (fun a' w' hp => ?_) h
 unfold Eff.post at hp ⊢
 split at hp
 ·obtain ⟨PL, hs⟩ := hp
  exact ⟨PL, hs.fr_mono hf⟩
 ·obtain ⟨x, hx, PL, hs⟩ := hp
  exact ⟨x, hx, PL, hs.fr_mono hf⟩
def Snd (P : Program) (C : Ctx) (Γ : FuncId → Option Con) (o : Oper) (io : IOp) : Prop :=
 ∀ (PL : Nat → Option Pl) (s : St) (Fr : Nat → Prop) (a : Act) (w : World) (Q : Exit → Act → World → Prop) (fresh : Nat) (E : Eff), Sat C PL s Fr a w → (∀ i, fresh ≤ i → i < fresh + 8 → Fr i) → C.k ≤ fresh →
  step Γ io s fresh = some E → (∀ p ∈ E.ob, p) → o.wp P a w (Eff.post E C s o.dst (fun i => Fr i ∧ ¬ (fresh ≤ i ∧ i < fresh + 8))) Q
theorem bind3 {α β γ δ : Type} {x : Option α} {y : Option β} {z : Option γ} {f : α → β → γ → δ} {r : δ} (h : (do pure (f (← x) (← y) (← z))) = some r) : ∃ a b c, x = some a ∧ y = some b ∧ z = some c ∧ f a b c = r := by
 cases x <;> cases y <;> cases z <;> simp at h
 exact ⟨_, _, _, rfl, rfl, rfl, h⟩
theorem bind2 {α β δ : Type} {x : Option α} {y : Option β} {f : α → β → δ} {r : δ} (h : (do pure (f (← x) (← y))) = some r) : ∃ a b, x = some a ∧ y = some b ∧ f a b = r := by
 cases x <;> cases y <;> simp at h
 exact ⟨_, _, rfl, rfl, h⟩
theorem bind1 {α δ : Type} {x : Option α} {f : α → δ} {r : δ} (h : (do pure (f (← x))) = some r) : ∃ a, x = some a ∧ f a = r := by
 cases x <;> simp at h
 exact ⟨_, rfl, h⟩
theorem frw (fresh : Nat) (Fr : Nat → Prop) : ∀ i, (Fr i ∧ ¬ (fresh ≤ i ∧ i < fresh + 8)) → Fr i := fun i h => h.1
theorem frn (fresh : Nat) (Fr : Nat → Prop) : ∀ i, (Fr i ∧ ¬ (fresh ≤ i ∧ i < fresh + 8)) → (Fr i ∧ i ≠ fresh) := fun i h => ⟨h.1, fun e => h.2 (by omega)⟩
theorem S_mv {x : Operand} {y : Opnd} (ho : o.op = .move x ∨ o.op = .assign x) (hx : cX x = some y) : Snd P C Γ o (.mv y) := fun PL s Fr a w Q fresh E h hfr hk hs hob => by
 simp only [step] at hs
 split at hs
 ·rename_i v hv
  injection hs with hs
  subst hs
  exact post_fr (frw _ _) (snd_mv h ho hx hv)
 ·cases hs
theorem S_pick {c x y : Operand} {c' x' y' : Opnd} (ho : o.op = .pick c x y) (hc : cX c = some c') (hx : cX x = some x') (hy : cX y = some y') : Snd P C Γ o (.pick c' x' y') := fun PL s Fr a w Q fresh E h hfr hk hs hob => by
 simp only [step] at hs
 cases hpl : pickLit x' y' with
 | true =>
  rw [hpl] at hs
  obtain ⟨rfl, rfl⟩ := pickLit_spec hpl
  simp only [] at hs
  split at hs
  ·rename_i b hb
   injection hs with hs
   subst hs
   refine post_fr (frw _ _) (snd_pick h ho hc hx hy hb ?_)
   cases b <;> rfl
  ·cases hs
 | false =>
 rw [hpl] at hs
 simp only [] at hs
 split at hs
 ·rename_i hb
  split at hs
  ·rename_i v hv
   injection hs with hs
   subst hs
   exact post_fr (frw _ _) (snd_pick h ho hc hx hy hb (by simpa using hv))
  ·cases hs
 ·rename_i hb
  split at hs
  ·rename_i v hv
   injection hs with hs
   subst hs
   exact post_fr (frw _ _) (snd_pick h ho hc hx hy hb (by simpa using hv))
  ·cases hs
 ·cases hs
theorem S_ib {t yt : TypeId} {x y : Operand} {x' y' : Opnd} {op : BinOp} {bk : BK} {k : IntKind} (ho : o.op = .binOp op t x y yt) (hb : bkOf op = some bk) (hx : cX x = some x') (hy : cX y = some y') : Snd P C Γ o (.ib bk k x' y') := fun PL s Fr a w Q fresh E h hfr hk hs hob => by
 simp only [step] at hs
 split at hs
 ·rename_i j m j' n h1 h2
  split at hs
  ·rename_i hj
   rw [Bool.and_eq_true] at hj
   have e1 := LawfulBEq.eq_of_beq hj.1
   have e2 := LawfulBEq.eq_of_beq hj.2
   subst e1
   subst e2
   injection hs with hs
   subst hs
   exact post_fr (frw _ _) (snd_ib h ho hb hx hy h1 h2 hob)
  ·cases hs
 ·cases hs
theorem S_sh {t yt : TypeId} {x y : Operand} {x' y' : Opnd} {left : Bool} {k : IntKind} (ho : o.op = .binOp (if left then .shl else .shr) t x y yt) (hx : cX x = some x') (hy : cX y = some y') : Snd P C Γ o (.sh left k x' y') := fun PL s Fr a w Q fresh E h hfr hk hs hob => by
 simp only [step] at hs
 split at hs
 ·rename_i j m j' n h1 h2
  split at hs
  ·rename_i hj
   have e1 := LawfulBEq.eq_of_beq hj
   subst e1
   injection hs with hs
   subst hs
   exact post_fr (frw _ _) (snd_sh h ho hx hy h1 h2 (obl.1 (hob _ (List.mem_singleton.2 rfl))))
  ·cases hs
 ·cases hs
theorem S_sb {t yt : TypeId} {x y : Operand} {x' y' : Opnd} {op : BinOp} {sk : SK} (ho : o.op = .binOp op t x y yt) (hb : skOf op = some sk) (hx : cX x = some x') (hy : cX y = some y') : Snd P C Γ o (.sb sk x' y') := fun PL s Fr a w Q fresh E h hfr hk hs hob => by
 simp only [step] at hs
 split at hs
 ·rename_i m n h1 h2
  injection hs with hs
  subst hs
  exact post_fr (frw _ _) (snd_sb h ho hb hx hy h1 h2 hob)
 ·cases hs
theorem S_bb {t yt : TypeId} {x y : Operand} {x' y' : Opnd} {op : BinOp} {ne : Bool} (ho : o.op = .binOp op t x y yt) (hb : neOf op = some ne) (ht : P.underlying t = some .bool) (hx : cX x = some x') (hy : cX y = some y') : Snd P C Γ o (.bb ne x' y') := fun PL s Fr a w Q fresh E h hfr hk hs hob => by
 simp only [step] at hs
 split at hs
 ·rename_i m n h1 h2
  injection hs with hs
  subst hs
  exact post_fr (frw _ _) (snd_bb h ho hb ht hx hy h1 h2)
 ·cases hs
theorem S_steq {t yt : TypeId} {x y : Operand} {x' y' : Opnd} {op : BinOp} {ne : Bool} {fs : Array Field} {ks : List Nat} (ho : o.op = .binOp op t x y yt) (hb : neOf op = some ne) (ht : P.underlying t = some (.struct fs)) (hst : P.stoodInHeld t = false) (hg : P.eqGuardType P.depth t = false) (hks : flatKs P fs.toList 0 = some ks)
  (hx : cX x = some x') (hy : cX y = some y') : Snd P C Γ o (.steq ks ne x' y') := fun PL s Fr a w Q fresh E h hfr hk hs hob => by
 simp only [step] at hs
 split at hs
 ·rename_i m n h1 h2
  split at hs
  ·rename_i r hr
   injection hs with hs
   subst hs
   exact post_fr (frw _ _) (snd_steq h ho hb ht hst hg hks hx hy h1 h2 hr)
  ·cases hs
 ·cases hs
theorem S_bnot {t : TypeId} {x : Operand} {x' : Opnd} (ho : o.op = .unOp .not t x) (hx : cX x = some x') : Snd P C Γ o (.bnot x') := fun PL s Fr a w Q fresh E h hfr hk hs hob => by
 simp only [step] at hs
 split at hs
 ·rename_i b h1
  injection hs with hs
  subst hs
  exact post_fr (frw _ _) (snd_bnot h ho hx h1)
 ·cases hs
theorem S_ineg {t : TypeId} {x : Operand} {x' : Opnd} {k : IntKind} (ho : o.op = .unOp .neg t x) (hx : cX x = some x') : Snd P C Γ o (.ineg k x') := fun PL s Fr a w Q fresh E h hfr hk hs hob => by
 simp only [step] at hs
 split at hs
 ·rename_i j n h1
  split at hs
  ·rename_i hj
   have e1 := LawfulBEq.eq_of_beq hj
   subst e1
   injection hs with hs
   subst hs
   exact post_fr (frw _ _) (snd_ineg h ho hx h1)
  ·cases hs
 ·cases hs
theorem S_icom {t : TypeId} {x : Operand} {x' : Opnd} {k : IntKind} (ho : o.op = .unOp .xor t x) (hx : cX x = some x') : Snd P C Γ o (.icom k x') := fun PL s Fr a w Q fresh E h hfr hk hs hob => by
 simp only [step] at hs
 split at hs
 ·rename_i j n h1
  split at hs
  ·rename_i hj
   have e1 := LawfulBEq.eq_of_beq hj
   subst e1
   injection hs with hs
   subst hs
   exact post_fr (frw _ _) (snd_icom h ho hx h1)
  ·cases hs
 ·cases hs
theorem S_conv {t u : TypeId} {x : Operand} {x' : Opnd} {k kk : IntKind} (ho : o.op = .convert t u x) (ht : P.underlying t = some (.int kk)) (hu : P.underlying u = some (.int k)) (hx : cX x = some x') : Snd P C Γ o (.conv k x') := fun PL s Fr a w Q fresh E h hfr hk hs hob => by
 simp only [step] at hs
 split at hs
 ·rename_i j n h1
  injection hs with hs
  subst hs
  exact post_fr (frw _ _) (snd_conv h ho ht hu hx h1)
 ·cases hs
theorem S_smv {t u : TypeId} {x : Operand} {x' : Opnd} (ho : o.op = .convert t u x) (ht : P.underlying t = some .string) (hu : P.underlying u = some .string) (hx : cX x = some x') : Snd P C Γ o (.smv x') := fun PL s Fr a w Q fresh E h hfr hk hs hob => by
 simp only [step] at hs
 split at hs
 ·rename_i l h1
  injection hs with hs
  subst hs
  have d1 := ev_den h hx h1
  generalize hq : a.eval x = q at d1
  cases d1
  exact post_fr (frw _ _) (post_pure h (x := .string ⟨l.toArray⟩) (by simp [execOp, ho, hq, convert, run_underlying ht, run_underlying hu]) (.str l))
 ·cases hs
theorem S_fld {t : TypeId} {fs : Array Field} {f : Nat} {g : Field} {x : Operand} {x' : Opnd} (ho : o.op = .fieldAddr t x f) (ht : P.underlying t = some (.struct fs)) (hg : fs[f]? = some g) (hz : P.cellsOf g.type ≠ 0) (hx : cX x = some x') : Snd P C Γ o (.fld x' g.offset) := fun PL s Fr a w Q fresh E h hfr hk hs hob => by
 simp only [step] at hs
 split at hs
 ·rename_i id n h1
  injection hs with hs
  subst hs
  exact post_fr (frw _ _) (snd_fld h ho ht hg hz hx h1 (.inl ⟨id, n, rfl, rfl⟩))
 ·rename_i id i n h1
  injection hs with hs
  subst hs
  exact post_fr (frw _ _) (snd_fld h ho ht hg hz hx h1 (.inr (.inl ⟨id, i, n, rfl, rfl⟩)))
 ·rename_i r i n h1
  injection hs with hs
  subst hs
  exact post_fr (frw _ _) (snd_fld h ho ht hg hz hx h1 (.inr (.inr ⟨r, i, n, rfl, rfl⟩)))
 ·cases hs
theorem S_chk {x : Operand} {x' : Opnd} (ho : o.op = .nilCheck x) (hx : cX x = some x') : Snd P C Γ o (.chk x') := fun PL s Fr a w Q fresh E h hfr hk hs hob => by
 simp only [step] at hs
 split at hs
 ·rename_i id n h1
  injection hs with hs
  subst hs
  exact post_fr (frw _ _) (snd_chk h ho hx h1 (.inl ⟨id, n, rfl⟩))
 ·rename_i id i n h1
  injection hs with hs
  subst hs
  exact post_fr (frw _ _) (snd_chk h ho hx h1 (.inr (.inl ⟨id, i, n, rfl⟩)))
 ·rename_i r i n h1
  injection hs with hs
  subst hs
  exact post_fr (frw _ _) (snd_chk h ho hx h1 (.inr (.inr (.inl ⟨r, i, n, rfl⟩))))
 ·rename_i f l h1
  injection hs with hs
  subst hs
  exact post_fr (frw _ _) (snd_chk h ho hx h1 (.inr (.inr (.inr ⟨f, l, rfl⟩))))
 ·cases hs
theorem S_idx {t e : TypeId} {x i : Operand} {x' i' : Opnd} (ho : o.op = .indexAddr t x i) (ht : P.underlying t = some (.slice e)) (hz : P.cellsOf e ≠ 0) (hx : cX x = some x') (hi : cX i = some i') : Snd P C Γ o (.idx x' i' (P.cellsOf e)) := fun PL s Fr a w Q fresh E h hfr hk hs hob => by
 simp only [step] at hs
 split at hs
 ·rename_i id k n h1 h2
  split at hs
  ·rename_i r hr
   split at hs
   ·rename_i hb
    injection hs with hs
    subst hs
    exact post_fr (frw _ _) (snd_idx_wsl h ho ht hz hx hi h1 h2 hr ((nbeq _ _).1 hb) (obl.1 (hob _ (List.mem_singleton.2 rfl))))
   ·cases hs
  ·cases hs
 ·rename_i id lo len k n h1 h2
  split at hs
  ·rename_i r hr
   split at hs
   ·rename_i hb
    injection hs with hs
    subst hs
    exact post_fr (frw _ _) (snd_idx_sl h ho ht hz hx hi h1 h2 hr ((nbeq _ _).1 hb) (obl.1 (hob _ (List.mem_singleton.2 rfl))))
   ·cases hs
  ·cases hs
 ·rename_i r k n h1 h2
  split at hs
  ·rename_i hb
   injection hs with hs
   subst hs
   exact post_fr (frw _ _) (snd_idx_rsl h ho ht hz hx hi h1 h2 ((nbeq _ _).1 hb) (obl.1 (hob _ (List.mem_singleton.2 rfl))))
  ·cases hs
 ·cases hs
theorem S_sla {t e : TypeId} {n : Nat} {x : Operand} {x' : Opnd} (ho : o.op = .slice t x none none none) (ht : P.underlying t = some (.array n e)) (hc : P.cellsOf e = 1) (hn : 1 ≤ n) (hm : n ≤ 16777216) (hx : cX x = some x') : Snd P C Γ o (.sla n x') := fun PL s Fr a w Q fresh E h hfr hk hs hob => by
 simp only [step] at hs
 split at hs
 ·rename_i id h1
  split at hs
  ·rename_i T vs hb
   split at hs
   ·rename_i xs hu
    split at hs
    ·rename_i hl
     injection hs with hs
     subst hs
     rw [lock_eq bsL]
     exact post_fr (frn _ _) (snd_sla h (hfr fresh (Nat.le_refl _) (by omega)) (by omega) ho ht hc hn hm hx h1 hb hu ((nbeq _ _).1 hl) (obl.1 (hob _ (List.mem_singleton.2 rfl))))
    ·cases hs
   ·cases hs
  ·cases hs
 ·rename_i id i h1
  split at hs
  ·rename_i T m l hb
   split at hs
   ·rename_i hl
    injection hs with hs
    subst hs
    exact post_fr (frw _ _) (snd_esl h ho ht hc hn hx h1 hb ((nbeq _ _).1 hl))
   ·cases hs
  ·cases hs
 ·cases hs
theorem S_s2a {t e : TypeId} {n : Nat} {x : Operand} {x' : Opnd} (ho : o.op = .sliceToArrayPointer t x) (ht : P.underlying t = some (.array n e)) (hn : 1 ≤ n) (hx : cX x = some x') : Snd P C Γ o (.s2a t n x') := fun PL s Fr a w Q fresh E h hfr hk hs hob => by
 simp only [step] at hs
 split at hs
 ·rename_i T l h1
  injection hs with hs
  subst hs
  exact post_fr (frw _ _) (snd_s2a h ho ht hn hx h1 (obl.1 (hob _ (List.mem_singleton.2 rfl))))
 ·cases hs
theorem S_cvs {t e : TypeId} {x : Operand} {x' : Opnd} (ho : o.op = .convert t t x) (ht : P.underlying t = some (.slice e)) (he : P.underlying e = some (.int .u8)) (hx : cX x = some x') : Snd P C Γ o (.cvs x') := fun PL s Fr a w Q fresh E h hfr hk hs hob => by
 simp only [step] at hs
 split at hs
 ·rename_i id h1
  split at hs
  ·rename_i T l hr
   injection hs with hs
   subst hs
   exact post_fr (frw _ _) (snd_cvs h ho ht he hx h1 hr (obl.1 (hob _ (List.mem_singleton.2 rfl))))
  ·cases hs
 ·cases hs
theorem S_gix {t e : TypeId} {g len : Nat} {i : Operand} {i' : Opnd} {r : R} (ho : o.op = .indexAddr t (.global g) i) (ht : P.underlying t = some (.array len e)) (hz : P.cellsOf e ≠ 0) (hi : cX i = some i') (hg : gfind globs g = some r) (hs : r.sz = P.cellsOf e) (hl : r.glen = len) (hle : 2 ≤ len) : Snd P C Γ o (.gix g i') := fun PL s Fr a w Q fresh E h hfr hk hs' hob => by
 simp only [step] at hs'
 rw [hg] at hs'
 split at hs'
 ·rename_i q k n h0 h2
  injection h0 with h0
  subst h0
  injection hs' with hs'
  subst hs'
  exact post_fr (frw _ _) (snd_gix h ho ht hz hi (gfind_mem hg) h2 hs hl hle (obl.1 (hob _ (List.mem_singleton.2 rfl))))
 ·cases hs'
theorem S_sidx {t : TypeId} {x i : Operand} {x' i' : Opnd} (ho : o.op = .index t x i) (ht : P.underlying t = some .string) (hx : cX x = some x') (hi : cX i = some i') : Snd P C Γ o (.sidx x' i') := fun PL s Fr a w Q fresh E h hfr hk hs hob => by
 simp only [step] at hs
 split at hs
 ·rename_i l k n h1 h2
  injection hs with hs
  subst hs
  exact post_fr (frw _ _) (snd_sidx h ho ht hx hi h1 h2 (obl.1 (hob _ (List.mem_singleton.2 rfl))))
 ·cases hs
theorem S_ld {t : TypeId} {x : Operand} {x' : Opnd} (ho : o.op = .load t x) (ht : aggOf P t = some false) (hx : cX x = some x') : Snd P C Γ o (.ld x') := fun PL s Fr a w Q fresh E h hfr hk hs hob => by
 simp only [step] at hs
 split at hs
 ·rename_i p h1
  split at hs
  ·rename_i v hv
   injection hs with hs
   subst hs
   exact post_fr (frw _ _) (snd_ld h ho ht hx h1 hv)
  ·cases hs
 ·cases hs
theorem S_lda {t : TypeId} {x : Operand} {x' : Opnd} (ho : o.op = .load t x) (ht : aggOf P t = some true) (hx : cX x = some x') : Snd P C Γ o (.lda x' (P.cellsOf t)) := fun PL s Fr a w Q fresh E h hfr hk hs hob => by
 simp only [step] at hs
 split at hs
 ·rename_i p h1
  split at hs
  ·rename_i v hv
   injection hs with hs
   subst hs
   exact post_fr (frw _ _) (snd_lda h ho ht hx h1 hv)
  ·cases hs
 ·cases hs
theorem S_st {T : TypeId} {x y : Operand} {x' y' : Opnd} (ho : o.op = .store T x y) (hdst : o.dst = none) (hi : (P.info? T).isSome = true) (hx : cX x = some x') (hy : cX y = some y') : Snd P C Γ o (.st x' y' (P.cellsOf T)) := fun PL s Fr a w Q fresh E h hfr hk hs hob => by
 simp only [step] at hs
 split at hs
 ·rename_i id off v h1 h2
  split at hs
  ·rename_i U vs hb
   split at hs
   ·rename_i hc
    simp only [Bool.and_eq_true] at hc
    injection hs with hs
    subst hs
    exact post_fr (frw _ _) (snd_st_ptr h ho hdst hi hx hy h1 h2 hb ((nbeq _ _).1 hc.1.1) hc.1.2 (Nat.le_of_ble_eq_true hc.2))
   ·cases hs
  ·cases hs
 ·rename_i id i off v h1 h2
  split at hs
  ·rename_i r hb
   split at hs
   ·rename_i hc
    simp only [Bool.and_eq_true] at hc
    split at hs
    ·rename_i ps r' hput
     injection hs with hs
     subst hs
     exact post_fr (frw _ _) (snd_st_ept h ho hdst hi hx hy h1 h2 hb ((nbeq _ _).1 hc.1.1) hc.1.2 (Nat.le_of_ble_eq_true hc.2) hput hob)
    ·cases hs
   ·cases hs
  ·cases hs
 ·cases hs
theorem S_ext {x : Operand} {i : Nat} {x' : Opnd} (ho : o.op = .extract x i) (hx : cX x = some x') : Snd P C Γ o (.ext x' i) := fun PL s Fr a w Q fresh E h hfr hk hs hob => by
 simp only [step] at hs
 split at hs
 ·rename_i l h1
  split at hs
  ·rename_i v hv
   injection hs with hs
   subst hs
   exact post_fr (frw _ _) (snd_ext h ho hx h1 hv)
  ·cases hs
 ·cases hs
theorem S_part {t : TypeId} {fs : Array Field} {f : Nat} {g : Field} {x : Operand} {x' : Opnd} {b : Bool} (ho : o.op = .field t x f) (ht : P.underlying t = some (.struct fs)) (hg : fs[f]? = some g) (hb : aggOf P g.type = some b) (hx : cX x = some x') : Snd P C Γ o (.part x' g.offset (P.cellsOf g.type) b) := fun PL s Fr a w Q fresh E h hfr hk hs hob => by
 simp only [step] at hs
 split at hs
 ·rename_i l h1
  split at hs
  ·rename_i m hm
   cases b with
   | true =>
    injection hs with hs
    subst hs
    exact post_fr (frw _ _) (snd_part h ho ht hg hb hx h1 hm (.inl ⟨rfl, rfl⟩))
   | false =>
    cases m with
    | nil => cases hs
    | cons v m' => cases m' with
     | nil =>
      injection hs with hs
      subst hs
      exact post_fr (frw _ _) (snd_part h ho ht hg hb hx h1 hm (.inr ⟨rfl, rfl⟩))
     | cons _ _ => cases hs
  ·cases hs
 ·cases hs
theorem S_s2b {t u e : TypeId} {x : Operand} {x' : Opnd} (ho : o.op = .convert t u x) (ht : P.underlying t = some .string) (hu : P.underlying u = some (.slice e)) (he : P.underlying e = some (.int .u8)) (hx : cX x = some x') : Snd P C Γ o (.s2b e x') := fun PL s Fr a w Q fresh E h hfr hk hs hob => by
 simp only [step] at hs
 split at hs
 ·rename_i l h1
  injection hs with hs
  subst hs
  exact post_fr (frw _ _) (snd_s2b h ho ht hu he hx h1)
 ·cases hs
theorem S_b2s {t u e : TypeId} {x : Operand} {x' : Opnd} (ho : o.op = .convert t u x) (ht : P.underlying t = some (.slice e)) (he : P.underlying e = some (.int .u8)) (hu : P.underlying u = some .string) (hx : cX x = some x') : Snd P C Γ o (.b2s x') := fun PL s Fr a w Q fresh E h hfr hk hs hob => by
 simp only [step] at hs
 split at hs
 ·rename_i h1
  injection hs with hs
  subst hs
  exact post_fr (frw _ _) (snd_b2s (T := 0) h ho ht he hu hx h1 (.inl ⟨rfl, rfl⟩))
 ·rename_i v _ h1
  split at hs
  ·rename_i T l hr
   injection hs with hs
   subst hs
   exact post_fr (frw _ _) (snd_b2s h ho ht he hu hx h1 (.inr hr))
  ·cases hs
 ·cases hs
theorem S_box {T : TypeId} {x : Operand} {x' : Opnd} (ho : o.op = .box T x) (hx : cX x = some x') : Snd P C Γ o (.box T (P.cellsOf T) x') := fun PL s Fr a w Q fresh E h hfr hk hs hob => by
 simp only [step] at hs
 split at hs
 ·rename_i v h1
  split at hs
  ·rename_i hc
   simp only [Bool.and_eq_true] at hc
   injection hs with hs
   subst hs
   exact post_fr (frn _ _) (snd_box h (hfr fresh (Nat.le_refl _) (by omega)) (by omega) ho hx h1 hc.2)
  ·cases hs
 ·cases hs
theorem S_new {T : TypeId} {zs : List SV} (ho : o.op = .alloc T) (hz : zeroOf P T = some zs) : Snd P C Γ o (.new T zs) := fun PL s Fr a w Q fresh E h hfr hk hs hob => by
 simp only [step] at hs
 injection hs with hs
 subst hs
 exact post_fr (frn _ _) (snd_alloc h (hfr fresh (Nat.le_refl _) (by omega)) (by omega) ho hz)
theorem S_build {t : TypeId} {fs : Array Field} {ps : Array (Nat × Operand)} {zs : List SV} {ys : List (Nat × Nat × Opnd)} (ho : o.op = .build t ps) (ht : P.underlying t = some (.struct fs)) (hz : zeroOf P t = some zs) (hy : cPartsS P fs ps.toList = some ys) (hinfo : ∀ f ∈ fs.toList, (P.info? f.type).isSome = true) : Snd P C Γ o (.build zs ys) := fun PL s Fr a w Q fresh E h hfr hk hs hob => by
 simp only [step] at hs
 split at hs
 ·rename_i l hl
  split at hs
  ·rename_i m hm
   injection hs with hs
   subst hs
   exact post_fr (frw _ _) (snd_build h ho ht hz hy hl hm hinfo)
  ·cases hs
 ·cases hs
theorem gone_look : ∀ (ids : List Nat) (i : Nat) (c : Ck), ulook (gone ids []) i = some (some c) → False
 | [], i, c, h => by simp [gone, ulook] at h
 | k :: ids, i, c, h => by
  simp only [gone, ulook] at h
  cases hu : ulook (gone ids []) i with
  | some x =>
   rw [hu] at h
   simp only [Option.some.injEq] at h
   subst h
   exact gone_look ids i c hu
  | none =>
   rw [hu] at h
   simp only [] at h
   split at h <;> cases h
theorem gone_mem : ∀ (ids : List Nat) (i : Nat), i ∈ ids → ulook (gone ids []) i = some none
 | [], i, h => by simp at h
 | k :: ids, i, h => by
  simp only [gone, ulook]
  cases hu : ulook (gone ids []) i with
  | some x =>
   cases x with
   | none => rfl
   | some c => exact (gone_look ids i c hu).elim
  | none =>
   rcases List.mem_cons.1 h with e | h
   ·subst e; simp only [(nbeq i i).2 rfl]
   ·rw [gone_mem ids i h] at hu; cases hu
theorem hupd_gone : ∀ (ids : List Nat) (u : List (Nat × Option Ck)) (hp : List (Nat × Ck)), hupd (gone ids u) hp = hupd u (hupd (gone ids []) hp)
 | [], u, hp => rfl
 | i :: ids, u, hp => by simp only [gone, hupd]; exact hupd_gone ids u _
theorem gone_mv (h : Sat C PL s Fr a w) (ids : List Nat) : Mv C PL s.hp w (gone ids []) PL Fr w :=
 ⟨fun _ _ h => h, fun _ _ => rfl, h.fr, rfl, rfl, rfl, Nat.le_refl _, fun _ _ _ => rfl, fun i c _ _ hi => (gone_look ids i c hi).elim, fun i j c d p q b hi => (gone_look ids i c hi).elim⟩
theorem gone_sat (h : Sat C PL s Fr a w) (ids : List Nat) : Sat C PL ⟨s.fr, hupd (gone ids []) s.hp, s.nx⟩ Fr a w := by
 have m := gone_mv h ids
 have t := h.toHSat.tr m
 have H := h.toHSat.mv m (fun i c hi => (gone_look ids i c hi).elim)
 exact { H with len := h.len, def_ := h.def_.mono (Nat.le_refl _) (fun _ _ _ => rfl) t.A, slot := fun i v hi => (h.slot i v hi).tr t }
theorem partG_den (h : Sat C PL s Fr a w) {ids : List Nat} : ∀ (l : List (Nat × Nat × SV)), (∀ i ∈ partW l, i ∈ ids) → (partG s.hp l).length = l.length ∧ ∀ (j : Nat) (h1 : j < (partG s.hp l).length) (h2 : j < l.length), (partG s.hp l)[j].1 = l[j].1 ∧ (partG s.hp l)[j].2.1 = l[j].2.1 ∧
  ∀ x, Den PL w (Avo C PL s.hp) l[j].2.2 x → Den PL w (Avo C PL (hupd (gone ids []) s.hp)) (partG s.hp l)[j].2.2 x
 | [], _ => ⟨rfl, fun j h1 h2 => by simp at h2⟩
 | (o, n, v) :: l, hm => by
  obtain ⟨e1, k⟩ := partG_den h (ids := ids) l (fun i hi => hm i (by simp only [partW]; exact List.mem_append_right _ hi))
  have t := h.toHSat.tr (gone_mv h ids)
  refine ⟨by simp only [partG, List.length_cons, e1], fun j h1 h2 => ?_⟩
  cases j with
  | succ j => exact k j (by simpa [partG] using h1) (by simpa using h2)
  | zero =>
   refine ⟨rfl, rfl, fun x d => ?_⟩
   show Den PL w (Avo C PL (hupd (gone ids []) s.hp)) (v.giv s.hp) x
   have d : Den PL w (Avo C PL s.hp) v x := d
   cases v with
   | wsl id =>
    simp only [SV.giv]
    split
    ·rename_i r hr
     have hid : id ∈ ids := hm id (by simp [partW, SV.wid1])
     refine lend_row h.toHSat (.inl rfl) hr d t.A ?_
     rintro p b hp ha (hz | ⟨i, c, q, g1, g2, g3⟩)
     ·exact (h.own b ⟨id, _, p, rowOf_some hr, hp, ha⟩).1 hz
     ·rw [hget_hupd] at g1
      cases hu : ulook (gone ids []) i with
      | some y =>
       rw [hu] at g1
       cases y with
       | none => simp at g1
       | some c' => exact gone_look ids i c' hu
      | none =>
       rw [hu] at g1
       have := h.dj i id c _ q p b g1 (rowOf_some hr) g2 hp g3 ha
       subst this
       rw [gone_mem ids i hid] at hu
       cases hu
    ·exact d.tr t
   | _ => exact d.tr t
theorem S_bsl {t e : TypeId} {n : Nat} {ps : Array (Nat × Operand)} {rk : RK} {z0 : List SV} {ys : List (Nat × Nat × Opnd)} (ho : o.op = .buildSlice t n ps) (ht : P.underlying t = some (.slice e)) (hrk : rkOf P e = some rk) (hz : zeroOf P e = some z0) (hzl : z0.length = P.cellsOf e) (hnb : n * P.cellsOf e ≤ 16777216) (hy : cPartsA (P.cellsOf e) ps.toList = some ys) :
  Snd P C Γ o (.bsl rk n (reps n z0) ys) := fun PL s Fr a w Q fresh E h hfr hk hs hob => by
 simp only [step] at hs
 split at hs
 ·rename_i l hl
  split at hs
  ·rename_i m hm
   split at hs
   ·rename_i qs r hof
    injection hs with hs
    subst hs
    obtain ⟨e1, k1⟩ := partsA_den h hy hl
    obtain ⟨e2, k2⟩ := partG_den h (ids := partW l) l (fun _ h => h)
    have h' := gone_sat h (partW l)
    refine post_fr (frn _ _) (Oper.wp_mono (fun a' w' hp => ?_) (snd_bsl (ob := qs) (rd := []) (wr := []) h' (hfr fresh (Nat.le_refl _) (by omega)) (by omega) ho ht hrk hz hzl hnb (l := partG s.hp l) (by omega) (fun j h1 h2 => ?_) hm hof hob))
    ·obtain ⟨PL2, hp⟩ := hp
     refine ⟨PL2, ?_⟩
     have e3 : s.put o.dst (some (.wsl fresh)) (gone (partW l) [(fresh, some (.row r))]) = St.put ⟨s.fr, hupd (gone (partW l) []) s.hp, s.nx⟩ o.dst (some (.wsl fresh)) [(fresh, some (.row r))] := by
      unfold St.put
      simp only []
      rw [hupd_gone]
     rw [e3]
     exact hp
    ·obtain ⟨g1, g2, g3⟩ := k2 j h1 (by omega)
     obtain ⟨⟨f1, f2⟩, f3⟩ := k1 j (by omega) h2
     exact ⟨⟨g1.trans f1, g2.trans f2⟩, g3 _ f3⟩
   ·cases hs
  ·cases hs
 ·cases hs
theorem S_mks {t e : TypeId} {x y : Operand} {x' y' : Opnd} {rk : RK} (ho : o.op = .makeSlice t x y) (ht : P.underlying t = some (.slice e)) (hrk : rkOf P e = some rk) (hx : cX x = some x') (hy : cX y = some y') : Snd P C Γ o (.mks rk (P.bytesOf e) x' y') := fun PL s Fr a w Q fresh E h hfr hk hs hob => by
 simp only [step] at hs
 split at hs
 ·rename_i n c h1 h2
  injection hs with hs
  subst hs
  exact post_fr (frn _ _) (snd_mks h (hfr fresh (Nat.le_refl _) (by omega)) (by omega) ho ht hrk hx hy h1 h2 (obl.1 (hob _ (List.mem_singleton.2 rfl))))
 ·cases hs
theorem S_mx {c : Call} {x y : Operand} {x' y' : Opnd} (ho : o.op = .call c) (hc : c.callee = .builtin .max) (ha : c.args.toList = [x, y]) (hx : cX x = some x') (hy : cX y = some y') : Snd P C Γ o (.mx x' y') := fun PL s Fr a w Q fresh E h hfr hk hs hob => by
 simp only [step] at hs
 split at hs
 ·rename_i k m j n h1 h2
  split at hs
  ·rename_i hj
   have e1 := LawfulBEq.eq_of_beq hj
   subst e1
   injection hs with hs
   subst hs
   exact post_fr (frw _ _) (snd_mx h ho hc ha hx hy h1 h2)
  ·cases hs
 ·cases hs
theorem S_mn {c : Call} {x y : Operand} {x' y' : Opnd} (ho : o.op = .call c) (hc : c.callee = .builtin .min) (ha : c.args.toList = [x, y]) (hx : cX x = some x') (hy : cX y = some y') : Snd P C Γ o (.mn x' y') := fun PL s Fr a w Q fresh E h hfr hk hs hob => by
 simp only [step] at hs
 split at hs
 ·rename_i k m j n h1 h2
  split at hs
  ·rename_i hj
   have e1 := LawfulBEq.eq_of_beq hj
   subst e1
   injection hs with hs
   subst hs
   exact post_fr (frw _ _) (snd_mn h ho hc ha hx hy h1 h2)
  ·cases hs
 ·cases hs
theorem S_mkfn {f : FuncId} {first caps : Array Operand} {ys : List Opnd} (ho : o.op = .makeFunc (.func f) first caps) (hf : first.size = 0) (hx : cXs caps.toList = some ys) : Snd P C Γ o (.mkfn f ys) := fun PL s Fr a w Q fresh E h hfr hk hs hob => by
 simp only [step] at hs
 split at hs
 ·rename_i l h1
  injection hs with hs
  subst hs
  exact post_fr (frw _ _) (snd_mkfn h ho hf hx h1)
 ·cases hs
theorem S_len {c : Call} {t : TypeId} {x : Operand} {x' : Opnd} {b : Bool} (ho : o.op = .call c) (hc : c.callee = .builtin .len) (ha : c.args.toList = [x]) (ht : c.argTypes[0]? = some t) (hu : (b = false ∧ ∃ e, P.underlying t = some (.slice e)) ∨ (b = true ∧ P.underlying t = some .string)) (hx : cX x = some x') :
  Snd P C Γ o (.len b x') := fun PL s Fr a w Q fresh E h hfr hk hs hob => by
 simp only [step] at hs
 split at hs
 ·rename_i v h1
  split at hs
  ·rename_i n l e1
   injection hs with hs
   subst hs
   have hb : P.underlying t = some .string := by
    rcases hu with ⟨e, _⟩ | ⟨_, e⟩
    ·cases e
    ·exact e
   exact post_fr (frw _ _) (snd_len h ho hc ha ht (.inr hb) hx h1 e1 ⟨fun ⟨e, he⟩ => (by rw [hb] at he; cases he), fun hne => absurd rfl (hne l)⟩)
  ·cases hs
  ·cases hs
  ·rename_i n _ hne e1
   injection hs with hs
   subst hs
   have hb : ∃ e, P.underlying t = some (.slice e) := by
    rcases hu with ⟨_, e⟩ | ⟨e, _⟩
    ·exact e
    ·cases e
   exact post_fr (frw _ _) (snd_len h ho hc ha ht (.inl hb) hx h1 e1 ⟨fun _ l hl => hne l hl, fun _ => hb⟩)
  ·cases hs
 ·cases hs
theorem S_clear {c : Call} {t e : TypeId} {x : Operand} {x' : Opnd} {rk : RK} (ho : o.op = .call c) (hc : c.callee = .builtin .clear) (ha : c.args.toList = [x]) (hat : c.argTypes[0]? = some t) (ht : P.underlying t = some (.slice e)) (hrk : rkOf P e = some rk) (hx : cX x = some x') : Snd P C Γ o (.clear rk x') := fun PL s Fr a w Q fresh E h hfr hk hs hob => by
 simp only [step] at hs
 split at hs
 ·rename_i h1
  injection hs with hs
  subst hs
  exact post_fr (frw _ _) (snd_clear_nil h ho hc ha hat ht hx h1)
 ·rename_i id h1
  split at hs
  ·rename_i r hr
   split at hs
   ·rename_i hb
    rw [Bool.and_eq_true] at hb
    injection hs with hs
    subst hs
    exact post_fr (frw _ _) (snd_clear h ho hc ha hat ht hx hrk h1 hr ((nbeq _ _).1 hb.1) ((nbeq _ _).1 hb.2))
   ·cases hs
  ·cases hs
 ·cases hs
theorem S_copy {e : TypeId} {x y : Operand} (hC : Cpy P o e x y) (hz : P.cellsOf e ≠ 0) {x' y' : Opnd} (hx : cX x = some x') (hy : cX y = some y') : Snd P C Γ o (.copy x' y' (P.cellsOf e)) := fun PL s Fr a w Q fresh E h hfr hk hs hob => by
 simp only [step] at hs
 split at hs
 ·rename_i id h1 h2
  injection hs with hs
  subst hs
  exact post_fr (frw _ _) (snd_copy0 h hC hz hx hy h1 (.inl ⟨_, rfl⟩) h2)
 ·rename_i id lo n h1 h2
  injection hs with hs
  subst hs
  exact post_fr (frw _ _) (snd_copy0 h hC hz hx hy h1 (.inr ⟨_, _, _, rfl⟩) h2)
 ·rename_i id v hn h1 h2
  split at hs
  ·rename_i p q hp hq hm
   split at hs
   ·cases hs
   ·rename_i hb
    split at hs
    ·rename_i r hr
     injection hs with hs
     subst hs
     simp only [lock_eq, nmin, ofN, R.len_eq] at hr ⊢
     exact post_fr (frw _ _) (snd_copy h hC hz hx hy h1 (.inl ⟨rfl, rfl, rfl⟩) hp ((nbeq _ _).1 hb) h2 hq hr)
    ·cases hs
  ·cases hs
 ·rename_i id lo n v h1 h2
  split at hs
  ·rename_i p q hp hq hm
   split at hs
   ·cases hs
   ·rename_i hb
    split at hs
    ·rename_i r hr
     injection hs with hs
     subst hs
     simp only [lock_eq, nmin, ofN, R.len_eq] at hr ⊢
     exact post_fr (frw _ _) (snd_copy h hC hz hx hy h1 (.inr rfl) hp ((nbeq _ _).1 hb) h2 hq hr)
    ·cases hs
  ·cases hs
 ·rename_i id i v h1 h2
  split at hs
  ·rename_i T n l U bl hp hq hm
   split at hs
   ·rename_i hb
    injection hs with hs
    subst hs
    simp only [lock_eq, nmin, ofN, xlen]
    exact post_fr (frw _ _) (snd_copy_esl h hC ((nbeq _ _).1 hb) hx hy h1 hp h2 hq)
   ·cases hs
  ·cases hs
 ·cases hs
end
end Go.Proofs.YtbkcmpggacbikaaDoor
end
section
/-
  A walk that reckons: each operation that was made short does what its step says.
-/
set_option linter.unusedVariables false
set_option linter.unusedSimpArgs false
namespace Go.Proofs.YtbkcmpggacbikaaDoor
open Go.RowKit
section
variable {P : Program} {C : Ctx} {o : Oper} {Γ : FuncId → Option Con}
theorem ev_int {PL : Nat → Option Pl} {s : St} {Fr : Nat → Prop} {a : Act} {w : World} (h : Sat C PL s Fr a w) {x : Operand} {y : Opnd} {k : IntKind} {n : Int} (hx : cX x = some y) (hv : s.ev y = some (.v (.int k n))) : a.eval x = .int k n := by
 have d := ev_den h hx hv
 generalize a.eval x = q at d
 cases d
 rfl
theorem cO_some {lo : Option Operand} {lo' : Option Opnd} (h : cO lo = some lo') : (lo = none ∧ lo' = none) ∨ ∃ x y, lo = some x ∧ lo' = some y ∧ cX x = some y := by
 cases lo with
 | none => simp only [cO] at h; injection h with h; exact .inl ⟨rfl, h.symm⟩
 | some x =>
  simp only [cO, Option.map_eq_some_iff] at h
  obtain ⟨y, h1, h2⟩ := h
  exact .inr ⟨x, y, rfl, h2.symm, h1⟩
theorem S_ssl {t : TypeId} {x : Operand} {lo hi : Option Operand} {x' : Opnd} {lo' hi' : Option Opnd} (ho : o.op = .slice t x lo hi none) (ht : P.underlying t = some .string) (hx : cX x = some x') (hlo : cO lo = some lo') (hhi : cO hi = some hi') : Snd P C Γ o (.ssl x' lo' hi') := fun PL s Fr a w Q fresh E h hfr hk hs hob => by
 simp only [step] at hs
 split at hs
 ·rename_i l h1
  rcases cO_some hlo with ⟨rfl, rfl⟩ | ⟨x1, y1, rfl, rfl, e1⟩ <;> rcases cO_some hhi with ⟨rfl, rfl⟩ | ⟨x2, y2, rfl, rfl, e2⟩
  ·simp only [] at hs
   injection hs with hs
   subst hs
   exact post_fr (frw _ _) (snd_ssl h 0 l.length ho ht hx h1 (Nat.zero_le _) (Nat.le_refl _) (.inl ⟨rfl, rfl⟩) (.inl ⟨rfl, rfl⟩) (by simp [lsub]))
  ·simp only [] at hs
   split at hs
   ·rename_i k n hn
    injection hs with hs
    subst hs
    have ob := obl.1 (hob _ (List.mem_singleton.2 rfl))
    simp only [lock_eq, ofN, xlen] at ob
    have ev := ev_int h e2 hn
    exact post_fr (frw _ _) (snd_ssl h 0 n.toNat ho ht hx h1 (Nat.zero_le _) (by omega) (.inl ⟨rfl, rfl⟩) (.inr ⟨x2, k, rfl, by rw [ev, Int.toNat_of_nonneg ob.1]⟩) (by simp [lock_eq, toN]))
   ·cases hs
  ·simp only [] at hs
   split at hs
   ·rename_i k m hm
    injection hs with hs
    subst hs
    have ob := obl.1 (hob _ (List.mem_singleton.2 rfl))
    simp only [lock_eq, ofN, xlen] at ob
    have ev := ev_int h e1 hm
    exact post_fr (frw _ _) (snd_ssl h m.toNat l.length ho ht hx h1 (by omega) (Nat.le_refl _) (.inr ⟨x1, k, rfl, by rw [ev, Int.toNat_of_nonneg ob.1]⟩) (.inl ⟨rfl, rfl⟩) (by simp [lock_eq, toN, ndec, xlen]))
   ·cases hs
  ·simp only [] at hs
   split at hs
   ·rename_i k m k2 n hm hn
    injection hs with hs
    subst hs
    have ob := obl.1 (hob _ (List.mem_singleton.2 rfl))
    simp only [lock_eq, ofN, xlen] at ob
    have ev1 := ev_int h e1 hm
    have ev2 := ev_int h e2 hn
    exact post_fr (frw _ _) (snd_ssl h m.toNat n.toNat ho ht hx h1 (by omega) (by omega) (.inr ⟨x1, k, rfl, by rw [ev1, Int.toNat_of_nonneg ob.1]⟩) (.inr ⟨x2, k2, rfl, by rw [ev2, Int.toNat_of_nonneg (by omega)]⟩) (by simp [lock_eq, toN, ndec]))
   ·cases hs
 ·cases hs
theorem lenS_row {h : List (Nat × Ck)} {v : SV} {n : Nat} {r : R} (hn : lenS h v = some n) (hr : rowS h v = some r) : (∃ id lo, v = .sl id lo n) ∨ n = rlen r := by
 cases v with
 | wsl id =>
  simp only [lenS] at hn
  simp only [rowS] at hr
  rw [hr] at hn
  simp only [] at hn
  injection hn with hn
  exact .inr (by rw [← hn, R.len_eq])
 | sl id lo k =>
  simp only [lenS] at hn
  injection hn with hn
  subst hn
  exact .inl ⟨id, lo, rfl⟩
 | rsl q =>
  simp only [lenS] at hn
  simp only [rowS] at hr
  injection hr with hr
  injection hn with hn
  subst hr
  exact .inr (by rw [← hn, R.len_eq])
 | _ => simp [rowS] at hr
theorem snd_sls0 {PL : Nat → Option Pl} {s : St} {Fr : Nat → Prop} {a : Act} {w : World} {Q : Exit → Act → World → Prop} (h : Sat C PL s Fr a w) {t e : TypeId} {x : Operand} {lo hi : Option Operand} {x' : Opnd} (ho : o.op = .slice t x lo hi none) (ht : P.underlying t = some (.slice e)) (hz : P.cellsOf e ≠ 0) (hx : cX x = some x') (h1 : s.ev x' = some .nsl)
  (hlo : lo = none ∨ ∃ x k, lo = some x ∧ a.eval x = .int k 0) (hhi : hi = none ∨ ∃ x k, hi = some x ∧ a.eval x = .int k 0) {ob : List Prop} {rd : List Nat} :
  o.wp P a w (Eff.post ⟨ob, rd, [], .one .nsl []⟩ C s o.dst Fr) Q := by
 have d1 := ev_den h hx h1
 generalize hq : a.eval x = q at d1
 cases d1
 obtain ⟨i, hi', he⟩ := info_of hz
 have hb := run_bounds (P := P) (w := w) (a := a) true 0 0 lo hi 0 0 (Nat.le_refl _) (Nat.le_refl _) (by
  rcases hlo with h | ⟨x, k, h1, h2⟩
  ·exact .inl ⟨h, rfl⟩
  ·exact .inr ⟨x, k, h1, h2⟩) (by
  rcases hhi with h | ⟨x, k, h1, h2⟩
  ·exact .inl ⟨h, rfl⟩
  ·exact .inr ⟨x, k, h1, h2⟩)
 refine post_pure h (x := .slice none 0 0) ?_ .nsl
 simp [execOp, ho, Instr.sliceAt, run_underlying ht, Instr.slice, hq, hb, run_sizeOf hi']
theorem S_sls {t e : TypeId} {x : Operand} {lo hi : Option Operand} {x' : Opnd} {lo' hi' : Option Opnd} (ho : o.op = .slice t x lo hi none) (ht : P.underlying t = some (.slice e)) (hz : P.cellsOf e ≠ 0) (hx : cX x = some x') (hlo : cO lo = some lo') (hhi : cO hi = some hi') : Snd P C Γ o (.sls x' lo' hi' (P.cellsOf e)) := fun PL s Fr a w Q fresh E h hfr hk hs hob => by
 simp only [step] at hs
 split at hs
 ·rename_i h1
  rcases cO_some hlo with ⟨rfl, rfl⟩ | ⟨x1, y1, rfl, rfl, e1⟩ <;> rcases cO_some hhi with ⟨rfl, rfl⟩ | ⟨x2, y2, rfl, rfl, e2⟩
  ·simp only [] at hs
   injection hs with hs
   subst hs
   have d1 := ev_den h hx h1
   generalize hq : a.eval x = q at d1
   cases d1
   obtain ⟨i, hi', he⟩ := info_of hz
   refine post_fr (frw _ _) (post_pure h (x := .slice none 0 0) ?_ .nsl)
   simp [execOp, ho, Instr.sliceAt, run_underlying ht, Instr.slice, hq, Instr.sliceBounds, run_sizeOf hi']
  ·simp only [] at hs
   split at hs
   ·rename_i k n hn
    injection hs with hs
    subst hs
    have ob := obl.1 (hob _ (List.mem_singleton.2 rfl))
    subst ob
    exact post_fr (frw _ _) (snd_sls0 h ho ht hz hx h1 (.inl rfl) (.inr ⟨x2, k, rfl, ev_int h e2 hn⟩))
   ·cases hs
  ·simp only [] at hs
   split at hs
   ·rename_i k m hm
    injection hs with hs
    subst hs
    have ob := obl.1 (hob _ (List.mem_singleton.2 rfl))
    subst ob
    exact post_fr (frw _ _) (snd_sls0 h ho ht hz hx h1 (.inr ⟨x1, k, rfl, ev_int h e1 hm⟩) (.inl rfl))
   ·cases hs
  ·simp only [] at hs
   split at hs
   ·rename_i k m k2 n hm hn
    injection hs with hs
    subst hs
    have ob := obl.1 (hob _ (List.mem_singleton.2 rfl))
    obtain ⟨ob1, ob2⟩ := ob
    subst ob1; subst ob2
    exact post_fr (frw _ _) (snd_sls0 h ho ht hz hx h1 (.inr ⟨x1, k, rfl, ev_int h e1 hm⟩) (.inr ⟨x2, k2, rfl, ev_int h e2 hn⟩))
   ·cases hs
 ·rename_i v _ h1
  split at hs
  ·rename_i len r hlen hr
   split at hs
   ·rename_i hb
    have hsz := (nbeq _ _).1 hb
    have d1 := ev_den h hx h1
    have hrl : len = rlen r := by
     rcases lenS_row hlen hr with ⟨id, l0, rfl⟩ | hrl
     ·simp only [rowS] at hr
      cases hro : rowOf s.hp id with
      | none => rw [hro] at hr; cases hr
      | some q =>
       rw [hro] at hr
       simp only [] at hr
       injection hr with hr
       subst hr
       generalize a.eval x = xv at d1
       cases d1 with
       | sl _ _ _ p A cap hp hl hc hn hA =>
        obtain ⟨p', hp', l1, _⟩ := row_rp (h.ck id _ (rowOf_some hro))
        rw [hp] at hp'; injection hp' with hp'; subst hp'
        exact (R.sub_len q l0 len (by omega)).symm
     ·exact hrl
    subst hrl
    unfold slS at hs
    rcases cO_some hlo with ⟨rfl, rfl⟩ | ⟨x1, y1, rfl, rfl, e1⟩ <;> rcases cO_some hhi with ⟨rfl, rfl⟩ | ⟨x2, y2, rfl, rfl, e2⟩
    ·simp only [] at hs
     injection hs with hs
     subst hs
     refine post_fr (frw _ _) ?_
     obtain ⟨i, hi', he⟩ := info_of hz
     obtain ⟨A, cap, hq, hcap, hsome, _⟩ := row_den h.toHSat hr d1
     refine post_pure h (x := .slice A (rlen r) cap) ?_ (hq ▸ d1)
     have hb := run_bounds (P := P) (w := w) (a := a) true (rlen r) cap none none 0 (rlen r) (Nat.zero_le _) hcap (.inl ⟨rfl, rfl⟩) (.inl ⟨rfl, rfl⟩)
     simp only [Option.map_none] at hb
     have hA : (if cap = 0 then A else A.map (·.add (0 * i.size))) = A := by
      split
      ·rfl
      ·cases A <;> simp [add_zero']
     simp [execOp, ho, Instr.sliceAt, run_underlying ht, Instr.slice, hq, hb, run_sizeOf hi', add_zero']
    ·simp only [] at hs
     split at hs
     ·rename_i k n hn
      injection hs with hs
      subst hs
      have ob := obl.1 (hob _ (List.mem_singleton.2 rfl))
      simp only [lock_eq, ofN] at ob
      have ev := ev_int h e2 hn
      exact post_fr (frw _ _) (snd_sls h 0 n.toNat ho ht hz hx h1 hr hsz (Nat.zero_le _) (by omega) (.inl ⟨rfl, rfl⟩) (.inr ⟨x2, k, rfl, by rw [ev, Int.toNat_of_nonneg ob.1]⟩) (by simp [lock_eq, toN]))
     ·cases hs
    ·simp only [] at hs
     split at hs
     ·rename_i k m hm
      injection hs with hs
      subst hs
      have ob := obl.1 (hob _ (List.mem_singleton.2 rfl))
      simp only [lock_eq, ofN] at ob
      have ev := ev_int h e1 hm
      exact post_fr (frw _ _) (snd_sls h m.toNat (rlen r) ho ht hz hx h1 hr hsz (by omega) (Nat.le_refl _) (.inr ⟨x1, k, rfl, by rw [ev, Int.toNat_of_nonneg ob.1]⟩) (.inl ⟨rfl, rfl⟩) (by simp [lock_eq, toN, ndec]))
     ·cases hs
    ·simp only [] at hs
     split at hs
     ·rename_i k m k2 n hm hn
      injection hs with hs
      subst hs
      have ob := obl.1 (hob _ (List.mem_singleton.2 rfl))
      simp only [lock_eq, ofN] at ob
      have ev1 := ev_int h e1 hm
      have ev2 := ev_int h e2 hn
      exact post_fr (frw _ _) (snd_sls h m.toNat n.toNat ho ht hz hx h1 hr hsz (by omega) (by omega) (.inr ⟨x1, k, rfl, by rw [ev1, Int.toNat_of_nonneg ob.1]⟩) (.inr ⟨x2, k2, rfl, by rw [ev2, Int.toNat_of_nonneg (by omega)]⟩) (by simp [lock_eq, toN, ndec]))
     ·cases hs
   ·cases hs
  ·cases hs
 ·cases hs
theorem S_isn {t yt : TypeId} {x y : Operand} {x' : Opnd} {op : BinOp} {ne : Bool} {k : Nat} {d : TypeDesc} (ho : o.op = .binOp op t x y yt) (hb : neOf op = some ne) (ht : P.underlying t = some d)
  (hk3 : (k = 0 ∧ (∃ e, d = .pointer e) ∧ y = .const (.pointer none)) ∨ (k = 1 ∧ (∃ e, d = .slice e) ∧ y = .const (.slice none 0 0)) ∨ (k = 2 ∧ (∃ p r b, d = .func p r b) ∧ y = .const .nilFunc)) (hx : cX x = some x') : Snd P C Γ o (.isn k ne x') := fun PL s Fr a w Q fresh E h hfr hk hs hob => by
 have hnil : nilK y = true := by rcases hk3 with ⟨_, _, rfl⟩ | ⟨_, _, rfl⟩ | ⟨_, _, rfl⟩ <;> rfl
 have hd : (∃ e, d = .pointer e) ∨ (∃ e, d = .slice e) ∨ (∃ p r b, d = .func p r b) := by
  rcases hk3 with ⟨_, h1, _⟩ | ⟨_, h1, _⟩ | ⟨_, h1, _⟩
  ·exact .inl h1
  ·exact .inr (.inl h1)
  ·exact .inr (.inr h1)
 simp only [step] at hs
 split at hs
 ·rename_i v h1
  have d1 := ev_den h hx h1
  have run : ∀ b : Bool, ((b = true ∧ (a.eval x = .pointer none ∨ a.eval x = .nilFunc ∨ ∃ n c, a.eval x = .slice none n c)) ∨ (b = false ∧ ((∃ A, a.eval x = .pointer (some A)) ∨ (∃ A n c, a.eval x = .slice (some A) n c) ∨ ∃ f g c, a.eval x = .func f g c))) →
    (k = 0 → ∃ A, a.eval x = .pointer A) → (k = 1 → ∃ A n c, a.eval x = .slice A n c) → (k = 2 → a.eval x = .nilFunc ∨ ∃ f g c, a.eval x = .func f g c) → (execOp a.eval o).run P w = .ok (.value (.bool (negIf ne b))) w := by
   intro b hv c0 c1 c2
   have := snd_isn (w := w) h ho hb hnil ht hd hv ?_ ?_ ?_
   ·cases ne <;> exact this
   ·rintro ⟨e, rfl⟩
    rcases hk3 with ⟨h1, _, h2⟩ | ⟨_, ⟨_, h1⟩, _⟩ | ⟨_, ⟨_, _, _, h1⟩, _⟩
    ·exact ⟨c0 h1, h2⟩
    ·cases h1
    ·cases h1
   ·rintro ⟨e, rfl⟩
    rcases hk3 with ⟨_, ⟨_, h1⟩, _⟩ | ⟨h1, _, h2⟩ | ⟨_, ⟨_, _, _, h1⟩, _⟩
    ·cases h1
    ·exact ⟨c1 h1, h2⟩
    ·cases h1
   ·rintro ⟨p, r, b, rfl⟩
    rcases hk3 with ⟨_, ⟨_, h1⟩, _⟩ | ⟨_, ⟨_, h1⟩, _⟩ | ⟨h1, _, h2⟩
    ·cases h1
    ·cases h1
    ·exact ⟨c2 h1, h2⟩
  split at hs
  ·rename_i b hnb
   injection hs with hs
   subst hs
   refine post_fr (frw _ _) (post_pure h (run b ?_ ?_ ?_ ?_) (.v _))
   all_goals (generalize hq : a.eval x = q at d1; unfold nilS at hnb; split at hnb <;> first | (injection hnb with hnb; subst hnb; cases d1) | (cases hnb))
   all_goals first
    | exact .inl ⟨rfl, .inl rfl⟩
    | exact .inr ⟨rfl, .inl ⟨_, rfl⟩⟩
    | exact .inl ⟨rfl, .inr (.inr ⟨_, _, rfl⟩)⟩
    | exact .inl ⟨rfl, .inr (.inl rfl)⟩
    | exact .inr ⟨rfl, .inr (.inr ⟨_, _, _, rfl⟩)⟩
    | exact fun _ => ⟨_, rfl⟩
    | exact fun _ => ⟨_, _, _, rfl⟩
    | exact fun _ => .inl rfl
    | exact fun _ => .inr ⟨_, _, _, rfl⟩
    | (intro hc; cases hc)
  ·split at hs
   ·cases hs
   ·cases hs
   ·rename_i v _ _ _ n hns hns2 hl hnil0
    injection hs with hs
    subst hs
    rcases len_den h.toHSat hl d1 with ⟨A, c, e⟩ | ⟨l, e, _⟩
    ·have hnn : A = none → n = 0 := by
      intro hA
      subst hA
      cases v with
      | wsl id =>
       simp only [lenS] at hl
       cases hro : rowOf s.hp id with
       | none => rw [hro] at hl; cases hl
       | some r =>
        rw [hro] at hl
        simp only [] at hl
        injection hl with hl
        obtain ⟨A', cap, e', _, hsome, _⟩ := row_den (r := r) h.toHSat (by simpa [rowS] using hro) d1
        rw [e] at e'
        injection e' with e1 e2 e3
        subst e1
        rw [← hl, R.len_eq]
        by_cases h0 : 0 < rlen r
        ·simpa using hsome h0
        ·omega
      | sl id lo k' => exact absurd rfl (hns2 id lo k')
      | rsl r =>
       simp only [lenS] at hl
       injection hl with hl
       obtain ⟨A', cap, e', _, hsome, _⟩ := row_den (r := r) h.toHSat rfl d1
       rw [e] at e'
       injection e' with e1 e2 e3
       subst e1
       rw [← hl, R.len_eq]
       by_cases h0 : 0 < rlen r
       ·simpa using hsome h0
       ·omega
      | nsl => simp only [lenS] at hl; injection hl with hl; exact hl.symm
      | str l => exact absurd rfl (hns l)
      | _ => simp [lenS] at hl
     refine post_fr (frw _ _) (post_pure_many h A.isNone (fun hA => hnn (by cases A with | none => rfl | some _ => cases hA)) (run A.isNone ?_ (fun hc => by cases hc) (fun _ => ⟨A, n, c, e⟩) (fun hc => by cases hc)) (.v _))
     rw [e]
     cases A with
     | none => exact .inl ⟨rfl, .inr (.inr ⟨_, _, rfl⟩)⟩
     | some A => exact .inr ⟨rfl, .inr (.inl ⟨_, _, _, rfl⟩)⟩
    ·exact absurd e (hns l)
   ·cases hs
 ·cases hs
theorem S_app {e : TypeId} {x y : Operand} (hA : App P o e x y) {x' y' : Opnd} {rk : RK} (hrk : rkOf P e = some rk) (hb : 0 < P.bytesOf e) (hx : cX x = some x') (hy : cX y = some y') : Snd P C Γ o (.app rk (P.bytesOf e) x' y') := fun PL s Fr a w Q fresh E h hfr hk hs hob => by
 obtain ⟨ti, z0, hi, hz0, hzv, hsz, h0, hT, hby⟩ := rkOf_spec hrk
 simp only [step] at hs
 split at hs
 ·rename_i h1 h2
  injection hs with hs
  subst hs
  have d1 := ev_den h hx h1
  have d2 := ev_den h hy h2
  generalize hq : a.eval x = q at d1
  generalize hr : a.eval y = r at d2
  cases d1
  cases d2
  obtain ⟨t, ht, hrun⟩ := run_app (P := P) (w := w) hA hq hr
  rw [run_append_none ht hi none none 0 0 0 (Nat.le_refl _)] at hrun
  exact post_fr (frw _ _) (post_pure h hrun .nsl)
 ·rename_i id h1 h2
  split at hs
  ·rename_i r hro
   injection hs with hs
   subst hs
   have d1 := ev_den h hx h1
   have d2 := ev_den h hy h2
   generalize hr : a.eval y = r' at d2
   cases d2
   obtain ⟨A, cap, hq, hcap, _⟩ := row_den (v := .wsl id) h.toHSat (by simpa [rowS] using hro) d1
   obtain ⟨t, ht, hrun⟩ := run_app (P := P) (w := w) hA hq hr
   rw [run_append_none ht hi A none (rlen r) cap 0 hcap] at hrun
   exact post_fr (frw _ _) (post_pure h hrun (hq ▸ d1))
  ·cases hs
 ·rename_i w' _ h1 h2
  split at hs
  ·rename_i q hq
   split at hs
   ·rename_i r hr
    injection hs with hs
    subst hs
    have ob := obl.1 (hob _ (List.mem_singleton.2 rfl))
    rw [R.len_eq] at ob
    obtain ⟨f1, f2, f3, f4, f5⟩ := fit_spec hr
    have hemp : (rk.empty).app q = some r ∧ rlen rk.empty = 0 ∧ rk.empty.sz = rk.sz ∧ rk.empty.T = rk.T := by
     cases rk <;> cases q <;> simp only [RK.fit] at hr <;> try (cases hr; done)
     ·injection hr with hr; subst hr
      exact ⟨by simp [RK.empty, R.app, lock_eq, cat], rfl, rfl, rfl⟩
     ·split at hr
      ·rename_i hkk
       injection hr with hr; subst hr
       exact ⟨by simp [RK.empty, R.app, lock_eq, cat, hkk], rfl, rfl, rfl⟩
      ·cases hr
     ·split at hr
      ·rename_i hkk
       injection hr with hr; subst hr
       exact ⟨by simp [RK.empty, R.app, lock_eq, cat, hkk], rfl, rfl, rfl⟩
      ·cases hr
    exact post_fr (frn _ _) (snd_app h (hfr fresh (Nat.le_refl _) (by omega)) (by omega) hA hrk hb hx hy (p := rk.empty) _ h1 (.inl ⟨rfl, hemp.2.1, hemp.2.2.1, hemp.2.2.2, rfl⟩) h2 hq hemp.1 (by rw [hemp.2.1]; simpa using ob))
   ·cases hs
  ·cases hs
 ·rename_i id w' _ h1 h2
  split at hs
  ·rename_i p q hp hq
   split at hs
   ·rename_i r hr
    split at hs
    ·cases hs
    ·rename_i hc
     rw [Bool.and_eq_true] at hc
     injection hs with hs
     subst hs
     have ob := obl.1 (hob _ (List.mem_singleton.2 rfl))
     rw [R.len_eq, R.len_eq] at ob
     exact post_fr (frn _ _) (snd_app h (hfr fresh (Nat.le_refl _) (by omega)) (by omega) hA hrk hb hx hy _ h1 (.inr ⟨id, rfl, hp, rfl, (nbeq _ _).1 hc.1, (nbeq _ _).1 hc.2⟩) h2 hq hr ob)
   ·cases hs
  ·cases hs
 ·cases hs
theorem dens_args {PL : Nat → Option Pl} {s : St} {Fr : Nat → Prop} {a : Act} {w : World} (h : Sat C PL s Fr a w) {xs : List Operand} {ys : List Opnd} {vs : List SV} (hx : cXs xs = some ys) (hv : s.evs ys = some vs) : DensA PL w (Avo C PL s.hp) vs (xs.map a.eval) := by
 obtain ⟨l1, l2, l3⟩ := evs_den h hx hv
 exact ⟨by simp [l2], l3⟩
theorem run_callFunc {f : FuncId} {fn : Func} (hf : P.funcs[f]? = some fn) (hn : (fn.name != "runtime.NumGoroutine") = true) (hb : fn.body.isSome = true) (args : Array Value) (w : World) : (callFunc f args).run P w = .ok (.enter f args) w := by
 have hn' : ¬ fn.name = "runtime.NumGoroutine" := by simpa using hn
 have hb' : fn.body ≠ none := by intro e; rw [e] at hb; cases hb
 simp [callFunc, hf, hn', hb']
theorem S_call (hΓ : TabOK P Γ) {c : Call} {f : FuncId} {fn : Func} {ys : List Opnd} (ho : o.op = .call c) (hc : c.callee = .value (.func f)) (hf : P.funcs[f]? = some fn) (hn : (fn.name != "runtime.NumGoroutine") = true) (hb : fn.body.isSome = true) (hx : cXs c.args.toList = some ys) : Snd P C Γ o (.call f ys) := fun PL s Fr a w Q fresh E h hfr hk hs hob => by
 simp only [step] at hs
 split at hs
 ·rename_i vs hv
  refine snd_call hΓ h hfr hk hs hob (dens_args h hx hv) ?_
  have hargs : (c.args.toList.map a.eval).toArray = c.args.map a.eval := by rw [← Array.toList_map]
  rw [hargs]
  simp [execOp, ho, resolve, hc, Deferred.ofValue, Act.eval, invoke, run_callFunc hf hn hb]
 ·cases hs
theorem S_callv (hΓ : TabOK P Γ) (hall : ∀ f con, Γ f = some con → ∃ fn, P.funcs[f]? = some fn ∧ (fn.name != "runtime.NumGoroutine") = true ∧ fn.body.isSome = true) {c : Call} {t : Tmp} {ys : List Opnd} (ho : o.op = .call c) (hc : c.callee = .value (.tmp t)) (hx : cXs c.args.toList = some ys) : Snd P C Γ o (.callv (.t t) ys) := fun PL s Fr a w Q fresh E h hfr hk hs hob => by
 simp only [step] at hs
 split at hs
 ·rename_i f caps vs h1 hv
  have d1 := ev_den h (x := .tmp t) rfl h1
  have d2 := dens_args h hx hv
  generalize hq : a.eval (.tmp t) = q at d1
  cases d1 with
  | fn _ _ cs hl hd =>
   have hcon : ∃ con, Γ f = some con := by
    unfold callS at hs
    cases hg : Γ f with
    | none => rw [hg] at hs; cases hs
    | some con => exact ⟨con, rfl⟩
   obtain ⟨con, hcon⟩ := hcon
   obtain ⟨fn, hf, hn, hb⟩ := hall f con hcon
   refine snd_call hΓ h hfr hk hs hob (args := c.args.toList.map a.eval ++ cs) ?_ ?_
   ·refine ⟨by simp [d2.1, hl], fun j b1 b2 => ?_⟩
    by_cases hj : j < vs.length
    ·have hj2 : j < (c.args.toList.map a.eval).length := by rw [d2.1]; exact hj
     simp only [List.getElem_append_left hj, List.getElem_append_left hj2]
     exact d2.2 j hj hj2
    ·have e := d2.1
     have g1 : vs.length ≤ j := by omega
     have g2 : (c.args.toList.map a.eval).length ≤ j := by omega
     simp only [List.getElem_append_right g1, List.getElem_append_right g2]
     have := hd (j - vs.length) (by simp at b1; omega) (by simp at b1; omega)
     simpa [e] using this
   ·have hargs : (c.args.toList.map a.eval ++ cs).toArray = c.args.map a.eval ++ cs.toArray := by
     rw [← List.append_toArray, ← Array.toList_map]
    rw [hargs]
    simp [execOp, ho, resolve, hc, hq, Deferred.ofValue, invoke, run_callFunc hf hn hb]
 ·cases hs
end
end Go.Proofs.YtbkcmpggacbikaaDoor
end
section
/-
  A walk that reckons: what was made short is right.
-/
set_option linter.unusedVariables false
set_option linter.unusedSimpArgs false
namespace Go.Proofs.YtbkcmpggacbikaaDoor
open Go.RowKit
structure Tab (P : Program) (Γ : FuncId → Option Con) : Prop where
 ok : TabOK P Γ
 fn : ∀ f con, Γ f = some con → ∃ fn, P.funcs[f]? = some fn ∧ (fn.name != "runtime.NumGoroutine") = true ∧ fn.body.isSome = true
theorem cells_ne {P : Program} {t : TypeId} (h : (P.cellsOf t != 0) = true) : P.cellsOf t ≠ 0 := by simpa using h
theorem cOp_snd {P : Program} {C : Ctx} {Γ : FuncId → Option Con} (T : Tab P Γ) {o : Oper} {io : IOp} (h : cOp P o = some io) : Snd P C Γ o io := by
 unfold cOp at h
 cases ho : o.op with
 | move x =>
  simp only [ho, Option.map_eq_some_iff] at h
  obtain ⟨y, hy, rfl⟩ := h
  exact S_mv (.inl ho) hy
 | assign x =>
  simp only [ho, Option.map_eq_some_iff] at h
  obtain ⟨y, hy, rfl⟩ := h
  exact S_mv (.inr ho) hy
 | pick c x y =>
  simp only [ho] at h
  obtain ⟨c', x', y', hc, hx, hy, rfl⟩ := bind3 h
  exact S_pick ho hc hx hy
 | binOp op t x y yt =>
  simp only [ho] at h
  split at h
  ·rename_i k hu
   split at h
   ·obtain ⟨x', y', hx, hy, rfl⟩ := bind2 h
    exact S_sh (left := true) ho hx hy
   ·obtain ⟨x', y', hx, hy, rfl⟩ := bind2 h
    exact S_sh (left := false) ho hx hy
   ·obtain ⟨b, x', y', hb, hx, hy, rfl⟩ := bind3 (f := fun b x y => IOp.ib b k x y) h
    exact S_ib ho hb hx hy
  ·obtain ⟨b, x', y', hb, hx, hy, rfl⟩ := bind3 (f := fun b x y => IOp.sb b x y) h
   exact S_sb ho hb hx hy
  ·rename_i hu
   obtain ⟨b, x', y', hb, hx, hy, rfl⟩ := bind3 (f := fun b x y => IOp.bb b x y) h
   exact S_bb ho hb hu hx hy
  ·rename_i e hu
   split at h
   ·obtain ⟨b, x', hb, hx, rfl⟩ := bind2 (f := fun b x => IOp.isn 0 b x) h
    exact S_isn ho hb hu (.inl ⟨rfl, ⟨e, rfl⟩, rfl⟩) hx
   ·cases h
  ·rename_i e hu
   split at h
   ·obtain ⟨b, x', hb, hx, rfl⟩ := bind2 (f := fun b x => IOp.isn 1 b x) h
    exact S_isn ho hb hu (.inr (.inl ⟨rfl, ⟨e, rfl⟩, rfl⟩)) hx
   ·cases h
  ·rename_i p r v hu
   split at h
   ·obtain ⟨b, x', hb, hx, rfl⟩ := bind2 (f := fun b x => IOp.isn 2 b x) h
    exact S_isn ho hb hu (.inr (.inr ⟨rfl, ⟨p, r, v, rfl⟩, rfl⟩)) hx
   ·cases h
  ·rename_i fs hu
   split at h
   ·rename_i hc
    simp only [Bool.and_eq_true, Bool.not_eq_true'] at hc
    cases hks : flatKs P fs.toList 0 with
    | none => rw [hks] at h; simp at h
    | some ks =>
     rw [hks] at h
     obtain ⟨b, x', y', hb, hx, hy, rfl⟩ := bind3 (f := fun b x y => IOp.steq ks b x y) (by simpa using h)
     exact S_steq ho hb hu hc.1 hc.2 hks hx hy
   ·cases h
  ·cases h
 | unOp op t x =>
  simp only [ho] at h
  split at h
  ·simp only [Option.map_eq_some_iff] at h
   obtain ⟨y, hy, rfl⟩ := h
   exact S_bnot ho hy
  ·simp only [Option.map_eq_some_iff] at h
   obtain ⟨y, hy, rfl⟩ := h
   exact S_ineg ho hy
  ·simp only [Option.map_eq_some_iff] at h
   obtain ⟨y, hy, rfl⟩ := h
   exact S_icom ho hy
  ·cases h
 | load t x =>
  simp only [ho] at h
  split at h
  ·rename_i ha
   obtain ⟨x', hx, rfl⟩ := bind1 (f := fun x => IOp.lda x (P.cellsOf t)) h
   exact S_lda ho ha hx
  ·rename_i ha
   simp only [Option.map_eq_some_iff] at h
   obtain ⟨y, hy, rfl⟩ := h
   exact S_ld ho ha hy
  ·cases h
 | store t x v =>
  simp only [ho] at h
  split at h
  ·rename_i hc
   simp only [Bool.and_eq_true] at hc
   obtain ⟨x', y', hx, hy, rfl⟩ := bind2 (f := fun x y => IOp.st x y (P.cellsOf t)) h
   exact S_st ho (by simpa using hc.2) hc.1 hx hy
  ·cases h
 | nilCheck x =>
  simp only [ho, Option.map_eq_some_iff] at h
  obtain ⟨y, hy, rfl⟩ := h
  exact S_chk ho hy
 | fieldAddr t x f =>
  simp only [ho] at h
  split at h
  ·rename_i fs hu
   cases hg : fs[f]? with
   | none => rw [hg] at h; simp at h
   | some g =>
    rw [hg] at h
    simp only [Option.bind_eq_bind, Option.bind_some] at h
    split at h
    ·rename_i hz
     cases hx : cX x with
     | none => rw [hx] at h; simp at h
     | some x' =>
      rw [hx] at h
      simp at h
      subst h
      exact S_fld ho hu hg (cells_ne hz) hx
    ·cases h
  ·cases h
 | indexAddr t x i =>
  simp only [ho] at h
  split at h
  ·rename_i e hu
   split at h
   ·rename_i hz
    obtain ⟨x', i', hx, hi, rfl⟩ := bind2 (f := fun x i => IOp.idx x i (P.cellsOf e)) h
    exact S_idx ho hu (cells_ne hz) hx hi
   ·cases h
  ·rename_i len e hu
   split at h
   ·rename_i g
    split at h
    ·rename_i r hg
     split at h
     ·rename_i hc
      simp only [Bool.and_eq_true, bne_iff_ne, ne_eq, beq_iff_eq] at hc
      obtain ⟨⟨⟨hz, hs⟩, hl⟩, h2⟩ := hc
      cases hi : cX i with
      | none => rw [hi] at h; simp at h
      | some i' =>
       rw [hi] at h
       simp at h
       subst h
       exact S_gix ho hu hz hi hg hs hl (Nat.le_of_ble_eq_true h2)
     ·cases h
    ·cases h
   ·cases h
  ·cases h
 | index t x i =>
  simp only [ho] at h
  split at h
  ·rename_i hu
   obtain ⟨x', i', hx, hi, rfl⟩ := bind2 h
   exact S_sidx ho hu hx hi
  ·cases h
 | sliceToArrayPointer t x =>
  simp only [ho] at h
  split at h
  ·rename_i n e hu
   split at h
   ·split at h
    ·rename_i hc
     simp only [Bool.and_eq_true] at hc
     simp only [Option.map_eq_some_iff] at h
     obtain ⟨y, hy, rfl⟩ := h
     exact S_s2a ho hu (Nat.le_of_ble_eq_true hc.2) hy
    ·cases h
   ·cases h
  ·cases h
 | extract x i =>
  simp only [ho, Option.map_eq_some_iff] at h
  obtain ⟨y, hy, rfl⟩ := h
  exact S_ext ho hy
 | field t x f =>
  simp only [ho] at h
  split at h
  ·rename_i fs hu
   cases hg : fs[f]? with
   | none => rw [hg] at h; simp at h
   | some g =>
    rw [hg] at h
    obtain ⟨x', b, hx, hb, rfl⟩ := bind2 (f := fun x b => IOp.part x g.offset (P.cellsOf g.type) b) (by simpa using h)
    exact S_part ho hu hg hb hx
  ·cases h
 | convert s d x =>
  simp only [ho] at h
  split at h
  ·rename_i kk k hu hv
   simp only [Option.map_eq_some_iff] at h
   obtain ⟨y, hy, rfl⟩ := h
   exact S_conv ho hu hv hy
  ·rename_i hu hv
   simp only [Option.map_eq_some_iff] at h
   obtain ⟨y, hy, rfl⟩ := h
   exact S_smv ho hu hv hy
  ·rename_i e hu hv
   split at h
   ·rename_i he
    simp only [Option.map_eq_some_iff] at h
    obtain ⟨y, hy, rfl⟩ := h
    exact S_s2b ho hu hv he hy
   ·cases h
  ·rename_i e hu hv
   split at h
   ·rename_i he
    simp only [Option.map_eq_some_iff] at h
    obtain ⟨y, hy, rfl⟩ := h
    exact S_b2s ho hu he hv hy
   ·cases h
  ·rename_i e _ hu hv
   split at h
   ·rename_i hsd he
    simp only [Option.map_eq_some_iff] at h
    obtain ⟨y, hy, rfl⟩ := h
    obtain rfl := LawfulBEq.eq_of_beq hsd
    exact S_cvs ho hu he hy
   ·cases h
  ·cases h
 | alloc t =>
  simp only [ho, Option.map_eq_some_iff] at h
  obtain ⟨y, hy, rfl⟩ := h
  exact S_new ho hy
 | box t x =>
  simp only [ho] at h
  split at h
  ·simp only [Option.map_eq_some_iff] at h
   obtain ⟨y, hy, rfl⟩ := h
   exact S_box ho hy
  ·cases h
 | build t ps =>
  simp only [ho] at h
  split at h
  ·rename_i fs hu
   split at h
   ·rename_i hf
    obtain ⟨zs, ys, hz, hy, rfl⟩ := bind2 h
    exact S_build ho hu hz hy (List.all_eq_true.1 hf)
   ·cases h
  ·cases h
 | buildSlice t n ps =>
  simp only [ho] at h
  split at h
  ·rename_i e hu
   cases hz : zeroOf P e with
   | none => rw [hz] at h; simp at h
   | some z =>
    rw [hz] at h
    simp only [Option.bind_eq_bind, Option.bind_some] at h
    split at h
    ·rename_i hc
     simp only [Bool.and_eq_true, decide_eq_true_eq] at hc
     obtain ⟨rk, ys, hrk, hy, rfl⟩ := bind2 (f := fun rk ys => IOp.bsl rk n (reps n z) ys) (by simpa using h)
     exact S_bsl ho hu hrk hz (by simpa using hc.1.1) hc.2 hy
    ·cases h
  ·cases h
 | slice t x lo hi mx =>
  simp only [ho] at h
  split at h
  ·rename_i hu
   obtain ⟨x', lo', hi', hx, hlo, hhi, rfl⟩ := bind3 h
   exact S_ssl ho hu hx hlo hhi
  ·rename_i e hu
   split at h
   ·rename_i hz
    obtain ⟨x', lo', hi', hx, hlo, hhi, rfl⟩ := bind3 (f := fun x lo hi => IOp.sls x lo hi (P.cellsOf e)) h
    exact S_sls ho hu (cells_ne hz) hx hlo hhi
   ·cases h
  ·rename_i n e hu
   split at h
   ·split at h
    ·rename_i hc
     simp only [Bool.and_eq_true, beq_iff_eq] at hc
     simp only [Option.map_eq_some_iff] at h
     obtain ⟨y, hy, rfl⟩ := h
     exact S_sla ho hu hc.1.1 (Nat.le_of_ble_eq_true hc.1.2) (Nat.le_of_ble_eq_true hc.2) hy
    ·cases h
   ·cases h
  ·cases h
 | makeSlice t l c =>
  simp only [ho] at h
  split at h
  ·rename_i e hu
   obtain ⟨rk, x', y', hrk, hx, hy, rfl⟩ := bind3 (f := fun rk x y => IOp.mks rk (P.bytesOf e) x y) h
   exact S_mks ho hu hrk hx hy
  ·cases h
 | makeFunc fn first caps =>
  cases fn with
  | func f =>
   simp only [ho] at h
   split at h
   ·rename_i hf
    obtain ⟨ys, hy, rfl⟩ := bind1 (f := fun y => IOp.mkfn f y) h
    exact S_mkfn ho (by simpa using hf) hy
   ·cases h
  | _ => simp only [ho] at h; cases h
 | call c =>
  simp only [ho] at h
  split at h
  ·rename_i hc
   split at h
   ·rename_i x y e d ha ht hd
    split at h
    ·rename_i hcond
     simp only [Bool.and_eq_true] at hcond
     obtain ⟨rk, x', y', hrk, hx, hy, rfl⟩ := bind3 (f := fun rk x y => IOp.app rk (P.bytesOf e) x y) h
     obtain ⟨t, h0, hu⟩ := Option.bind_eq_some_iff.1 ht
     have hsz : c.argTypes.size = 2 := by simpa using hcond.1.1
     have h01 : c.argTypes[0]? = c.argTypes[1]? := LawfulBEq.eq_of_beq hcond.1.2
     have hat : c.argTypes = #[t, t] := by
      apply Array.ext'
      have e0 : c.argTypes.toList[0]? = some t := by simpa using h0
      have e1 : c.argTypes.toList[1]? = some t := by rw [h01] at h0; simpa using h0
      have hl : c.argTypes.toList.length = 2 := by simpa using hsz
      match hq : c.argTypes.toList, hl with
      | [p, q], _ => rw [hq] at e0 e1; simp at e0 e1; simp [e0, e1]
     have hbb : P.bytesOf e ≠ 0 := by simpa using hcond.2
     exact S_app ⟨c, t, ho, hc, ha, hat, hu⟩ hrk (by omega) hx hy
    ·cases h
   ·cases h
  ·rename_i hc
   split at h
   ·rename_i x y e ha ht
    split at h
    ·rename_i hz
     obtain ⟨x', y', hx, hy, rfl⟩ := bind2 (f := fun x y => IOp.copy x y (P.cellsOf e)) h
     obtain ⟨t, h0, hu⟩ := Option.bind_eq_some_iff.1 ht
     exact S_copy ⟨c, t, ho, hc, ha, h0, hu⟩ (cells_ne hz) hx hy
    ·cases h
   ·cases h
  ·rename_i hc
   split at h
   ·rename_i x e ha ht
    simp only [Option.map_eq_some_iff] at h
    obtain ⟨y, hy, rfl⟩ := h
    obtain ⟨t, h0, hu⟩ := Option.bind_eq_some_iff.1 ht
    exact S_len ho hc ha h0 (.inl ⟨rfl, e, hu⟩) hy
   ·rename_i x ha ht
    simp only [Option.map_eq_some_iff] at h
    obtain ⟨y, hy, rfl⟩ := h
    obtain ⟨t, h0, hu⟩ := Option.bind_eq_some_iff.1 ht
    exact S_len ho hc ha h0 (.inr ⟨rfl, hu⟩) hy
   ·cases h
  ·rename_i hc
   split at h
   ·rename_i x y ha
    obtain ⟨x', y', hx, hy, rfl⟩ := bind2 h
    exact S_mx ho hc ha hx hy
   ·cases h
  ·rename_i hc
   split at h
   ·rename_i x y ha
    obtain ⟨x', y', hx, hy, rfl⟩ := bind2 h
    exact S_mn ho hc ha hx hy
   ·cases h
  ·rename_i hc
   split at h
   ·rename_i x e ha ht
    obtain ⟨rk, x', hrk, hx, rfl⟩ := bind2 h
    obtain ⟨t, h0, hu⟩ := Option.bind_eq_some_iff.1 ht
    exact S_clear ho hc ha h0 hu hrk hx
   ·cases h
  ·rename_i f hc
   split at h
   ·rename_i fn hf
    split at h
    ·rename_i hcond
     simp only [Bool.and_eq_true] at hcond
     simp only [Option.map_eq_some_iff] at h
     obtain ⟨ys, hy, rfl⟩ := h
     exact S_call T.ok ho hc hf hcond.1 hcond.2 hy
    ·cases h
   ·cases h
  ·rename_i t hc
   simp only [Option.map_eq_some_iff] at h
   obtain ⟨ys, hy, rfl⟩ := h
   exact S_callv T.ok T.fn ho hc hy
  ·cases h
 | _ => simp only [ho] at h; cases h
end Go.Proofs.YtbkcmpggacbikaaDoor
end
section
/-
  A walk that reckons: rows that go into rows are from then on but read.
-/
set_option linter.unusedVariables false
set_option linter.unusedSimpArgs false
namespace Go.Proofs.YtbkcmpggacbikaaDoor
open Go.RowKit
section
variable {P : Program} {C : Ctx} {PL : Nat → Option Pl} {hp hp2 : List (Nat × Ck)} {Fr : Nat → Prop} {w : World} {id : Nat} {r : R}
theorem frzHp_get (id : Nat) (r : R) : ∀ (l : List (Nat × Ck)) (j : Nat), hget (frzHp id r l) j = match Nat.beq j id with | true => none | false => (hget l j).map (Ck.frz id r)
 | [], j => by simp only [frzHp, hget]; split <;> rfl
 | (i, c) :: l, j => by
  simp only [frzHp]
  cases hb : Nat.beq i id with
  | true =>
   have := (nbeq _ _).1 hb
   subst this
   simp only [hget, frzHp_get i r l j]
   split
   ·rename_i h; simp only [h]
   ·rename_i h; simp only [h]
  | false =>
   have hne := (nbeq_false _ _).1 hb
   simp only [hget, frzHp_get id r l j]
   by_cases hji : j = i
   ·subst hji
    simp only [(nbeq j j).2 rfl, hb]
    rfl
   ·simp only [(nbeq_false _ _).2 hji]
theorem frzFr_get (id : Nat) (r : R) : ∀ (l : List (Option SV)) (j : Nat), fget (frzFr id r l) j = (fget l j).map (SV.frz id r)
 | [], j => rfl
 | some x :: l, 0 => rfl
 | none :: l, 0 => rfl
 | some x :: l, j + 1 => by simp only [frzFr, fget]; exact frzFr_get id r l j
 | none :: l, j + 1 => by simp only [frzFr, fget]; exact frzFr_get id r l j
theorem frzFr_len (id : Nat) (r : R) : ∀ (l : List (Option SV)), (frzFr id r l).length = l.length
 | [] => rfl
 | some x :: l => by simp [frzFr, frzFr_len id r l]
 | none :: l => by simp [frzFr, frzFr_len id r l]
theorem frz_own (hb : ∀ b, Own PL hp b → Own PL hp b) {b : Nat} (h : Own PL (frzHp id r hp) b) : Own PL hp b := by
 obtain ⟨j, c, p, h1, h2, h3⟩ := h
 rw [frzHp_get] at h1
 split at h1
 ·cases h1
 ·obtain ⟨d, hd, _⟩ := Option.map_eq_some_iff.1 h1
  exact ⟨j, d, p, hd, h2, h3⟩
structure Frz (C : Ctx) (PL : Nat → Option Pl) (hp : List (Nat × Ck)) (Fr : Nat → Prop) (w : World) (id : Nat) (r : R) : Prop where
 H : HSat C PL hp Fr w
 row : rowOf hp id = some r
theorem Frz.A (F : Frz C PL hp Fr w id r) : ∀ b, b < w.heap.size → Avo C PL (frzHp id r hp) b → Avo C PL hp b := by
 rintro b _ (hz | ho)
 ·exact .inl hz
 ·exact .inr (frz_own (fun _ h => h) ho)
theorem Frz.no (F : Frz C PL hp Fr w id r) : ∀ p b, PL id = some p → p.a = some ⟨b, 0, none⟩ → ¬ Avo C PL (frzHp id r hp) b := by
 intro p b hp0 ha hx
 rcases hx with hz | ho
 ·exact (F.H.own b ⟨id, _, p, rowOf_some F.row, hp0, ha⟩).1 hz
 ·obtain ⟨j, c, q, h1, h2, h3⟩ := ho
  rw [frzHp_get] at h1
  split at h1
  ·cases h1
  ·rename_i hb
   obtain ⟨d, hd, _⟩ := Option.map_eq_some_iff.1 h1
   have := F.H.dj j id d _ q p b hd (rowOf_some F.row) h2 hp0 h3 ha
   exact (nbeq_false _ _).1 hb this
mutual
theorem frz_den (F : Frz C PL hp Fr w id r) : ∀ (v : SV) (x : Value), Den PL w (Avo C PL hp) v x → Den PL w (Avo C PL (frzHp id r hp)) (v.frz id r) x
 | .v u, x, d => by cases d; exact .v _
 | .str l, x, d => by cases d; exact .str _
 | .ptr i o, x, d => d.mono (fun _ _ h => h) (Nat.le_refl _) (fun _ _ _ => rfl) F.A
 | .ept i k o, x, d => d.mono (fun _ _ h => h) (Nat.le_refl _) (fun _ _ _ => rfl) F.A
 | .esl i k, x, d => d.mono (fun _ _ h => h) (Nat.le_refl _) (fun _ _ _ => rfl) F.A
 | .rpt q i o, x, d => d.mono (fun _ _ h => h) (Nat.le_refl _) (fun _ _ _ => rfl) F.A
 | .rsl q, x, d => d.mono (fun _ _ h => h) (Nat.le_refl _) (fun _ _ _ => rfl) F.A
 | .nsl, x, d => by cases d; exact .nsl
 | .wsl j, x, d => by
  simp only [SV.frz]
  split
  ·rename_i h
   have := (nbeq _ _).1 h
   subst this
   exact lend_row F.H (id := j) (.inl rfl) (by simpa [rowS] using F.row) d F.A F.no
  ·exact d.mono (fun _ _ h => h) (Nat.le_refl _) (fun _ _ _ => rfl) F.A
 | .sl j lo n, x, d => by
  simp only [SV.frz]
  split
  ·rename_i h
   have := (nbeq _ _).1 h
   subst this
   exact lend_row F.H (id := j) (.inr ⟨lo, n, rfl⟩) (by simp [rowS, F.row]) d F.A F.no
  ·exact d.mono (fun _ _ h => h) (Nat.le_refl _) (fun _ _ _ => rfl) F.A
 | .agg l, x, d => by
  cases d with
  | agg _ cs hl hd h1 => obtain ⟨e1, e2⟩ := frzL_den F l cs ⟨hl, hd⟩; exact .agg _ cs e1 e2 h1
 | .tup l, x, d => by
  cases d with
  | tup _ cs hl hd => obtain ⟨e1, e2⟩ := frzL_den F l cs ⟨hl, hd⟩; exact .tup _ cs e1 e2
 | .fn f l, x, d => by
  cases d with
  | fn _ _ cs hl hd => obtain ⟨e1, e2⟩ := frzL_den F l cs ⟨hl, hd⟩; exact .fn _ _ cs e1 e2
theorem frzL_den (F : Frz C PL hp Fr w id r) : ∀ (l : List SV) (cs : List Value), DensA PL w (Avo C PL hp) l cs → DensA PL w (Avo C PL (frzHp id r hp)) (SV.frzL id r l) cs
 | [], cs, d => ⟨d.1, fun j a _ => absurd a (by simp [SV.frzL])⟩
 | x :: l, [], d => by have := d.1; simp at this
 | x :: l, c :: cs, d => by
  have h0 := frz_den F x c (d.2 0 (by simp) (by simp))
  have hl := frzL_den F l cs ⟨by simpa using d.1, fun j a b => by have := d.2 (j + 1) (by simpa using a) (by simpa using b); simpa using this⟩
  refine ⟨by simp [SV.frzL, hl.1], fun j a b => ?_⟩
  cases j with
  | zero => exact h0
  | succ j => exact hl.2 j (by simpa [SV.frzL] using a) (by simpa using b)
end
theorem frzL_len (id : Nat) (r : R) : ∀ l : List SV, (SV.frzL id r l).length = l.length
 | [] => rfl
 | x :: l => by simp [SV.frzL, frzL_len id r l]
theorem Frz.hsat (F : Frz C PL hp Fr w id r) : HSat C PL (frzHp id r hp) Fr w := by
 have H := F.H
 have back : ∀ {j c}, hget (frzHp id r hp) j = some c → ∃ d, hget hp j = some d ∧ d.frz id r = c := by
  intro j c h
  rw [frzHp_get] at h
  split at h
  ·cases h
  ·exact Option.map_eq_some_iff.1 h
 refine ⟨?_, ?_, ?_, H.os, H.tape, H.output, H.size, H.old, H.zlt, H.fr, H.arg⟩
 ·intro j c hc
  obtain ⟨d, hd, rfl⟩ := back hc
  have hck := H.ck j d hd
  cases d with
  | blk T vs =>
   obtain ⟨p, b, cs, h1, h2, h3, h4, h5⟩ := hck
   have dd := frzL_den F vs cs.toList ⟨by simpa using h4, fun j a b => by have h0 : Den PL w (Avo C PL hp) vs[j] (cs[j]'(by simpa using b)) := (h5 j a (by simpa using b)).1; simpa using h0⟩
   refine ⟨p, b, cs, h1, h2, h3, by rw [frzL_len]; exact h4, fun k k1 k2 => ⟨?_, ?_⟩⟩
   ·have := dd.2 k k1 (by simpa using k2)
    show Den PL w (Avo C PL (frzHp id r hp)) _ _
    simpa using this
   ·exact (h5 k (by rw [frzL_len] at k1; exact k1) k2).2
  | row q => exact hck.mono (fun _ _ h => h) (Nat.le_refl _) (fun _ _ _ => rfl) F.A (fun _ _ _ _ => rfl)
 ·intro i j c d p q b h1 h2
  obtain ⟨c', h1', _⟩ := back h1
  obtain ⟨d', h2', _⟩ := back h2
  exact H.dj i j c' d' p q b h1' h2'
 ·intro b hb
  exact H.own b (frz_own (fun _ h => h) hb)
end
section
variable {P : Program} {C : Ctx} {PL : Nat → Option Pl} {s : St} {Fr : Nat → Prop} {a : Act} {w : World}
theorem sat_frz1 (h : Sat C PL s Fr a w) (id : Nat) : Sat C PL (s.frz1 id) Fr a w := by
 unfold St.frz1
 split
 ·rename_i r hr
  have F : Frz C PL s.hp Fr w id r := ⟨h.toHSat, by unfold rowOf; rw [hr]⟩
  refine { F.hsat with len := ?_, def_ := h.def_.mono (Nat.le_refl _) (fun _ _ _ => rfl) F.A, slot := ?_ }
  ·rw [frzFr_len]; exact h.len
  ·intro i v hi
   rw [frzFr_get] at hi
   obtain ⟨u, hu, rfl⟩ := Option.map_eq_some_iff.1 hi
   exact frz_den F u _ (h.slot i u hu)
 ·exact h
theorem frz1_nx (s : St) (id : Nat) : (s.frz1 id).nx = s.nx ∧ (s.frz1 id).fr.length = s.fr.length := by
 unfold St.frz1
 split
 ·exact ⟨rfl, frzFr_len _ _ _⟩
 ·exact ⟨rfl, rfl⟩
theorem sat_frz : ∀ (l : List Nat) {s : St}, Sat C PL s Fr a w → Sat C PL (s.frz l) Fr a w
 | [], s, h => h
 | i :: l, s, h => sat_frz l (sat_frz1 h i)
theorem frz_nx : ∀ (l : List Nat) (s : St), (s.frz l).nx = s.nx ∧ (s.frz l).fr.length = s.fr.length
 | [], s => ⟨rfl, rfl⟩
 | i :: l, s => by
  have h1 := frz_nx l (s.frz1 i)
  have h2 := frz1_nx s i
  exact ⟨h1.1.trans h2.1, h1.2.trans h2.2⟩
theorem pre_frz (Γ : FuncId → Option Con) (s : St) (op : IOp) : ∃ l, s.pre Γ op = s.frz l := by
 unfold St.pre
 split
 ·split
  ·split
   ·exact ⟨[], rfl⟩
   ·split
    ·exact ⟨_, rfl⟩
    ·exact ⟨[], rfl⟩
  ·exact ⟨[], rfl⟩
 ·split
  ·exact ⟨_, rfl⟩
  ·exact ⟨[], rfl⟩
 ·split
  ·split
   ·exact ⟨_, rfl⟩
   ·exact ⟨[], rfl⟩
  ·exact ⟨[], rfl⟩
 ·exact ⟨[], rfl⟩
theorem sat_pre (h : Sat C PL s Fr a w) (Γ : FuncId → Option Con) (op : IOp) : Sat C PL (s.pre Γ op) Fr a w := by
 obtain ⟨l, e⟩ := pre_frz Γ s op
 rw [e]
 exact sat_frz l h
theorem pre_nx (Γ : FuncId → Option Con) (s : St) (op : IOp) : (s.pre Γ op).nx = s.nx ∧ (s.pre Γ op).fr.length = s.fr.length := by
 obtain ⟨l, e⟩ := pre_frz Γ s op
 rw [e]
 exact frz_nx l s
end
end Go.Proofs.YtbkcmpggacbikaaDoor
end
section
/-
  A walk that reckons: regions, code, loops, functions.
-/
set_option linter.unusedVariables false
set_option linter.unusedSimpArgs false
namespace Go.Proofs.YtbkcmpggacbikaaDoor
open Go.RowKit
theorem runOb_spec : ∀ {ps : List Prop} {B : Prop}, runOb ps B → (∀ p ∈ ps, p) ∧ B
 | [], B, h => ⟨by simp, h⟩
 | p :: ps, B, h => by
  obtain ⟨h1, h2⟩ := h
  obtain ⟨h3, h4⟩ := runOb_spec h2
  refine ⟨fun q hq => ?_, h4⟩
  rcases List.mem_cons.1 hq with rfl | hq
  ·exact h1
  ·exact h3 q hq
section
variable {P : Program} {C : Ctx} {PL : Nat → Option Pl} {s : St} {Fr : Nat → Prop} {a : Act} {w : World} {o : Oper} {Q : Exit → Act → World → Prop} {Γ : FuncId → Option Con}
theorem exec_sound {io : Io} (hsnd : Snd P C Γ o io.op) (hdst : io.dst = o.dst) {K : St → Prop} {fresh : Nat} (h : Sat C PL s Fr a w) (hfr : ∀ i, fresh ≤ i → i < fresh + 8 → Fr i) (hk : C.k ≤ fresh) (hv : vcExec Γ io fresh s K) :
  o.wp P a w (fun a' w' => ∃ PL' s', K s' ∧ s'.nx = s.nx ∧ s'.fr.length = s.fr.length ∧ Sat C PL' s' (fun i => Fr i ∧ ¬ (fresh ≤ i ∧ i < fresh + 8)) a' w') Q := by
 unfold vcExec at hv
 obtain ⟨n1, n2⟩ := pre_nx Γ s io.op
 replace h := sat_pre h Γ io.op
 cases hst : step Γ io.op (s.pre Γ io.op) fresh with
 | none => rw [hst] at hv; exact hv.elim
 | some E =>
  rw [hst] at hv
  simp only [Eff.go] at hv
  obtain ⟨h1, h2⟩ := runOb_spec hv
  refine Oper.wp_mono (fun a' w' hp => ?_) (hsnd PL (s.pre Γ io.op) Fr a w Q fresh E h hfr hk hst h1)
  have hlen : ∀ v u, ((s.pre Γ io.op).put o.dst v u).fr.length = s.fr.length := fun v u => by cases ho : o.dst <;> simp [St.put, fput_length, n2]
  unfold Eff.post at hp
  rw [hdst] at h2
  split at hp
  ·rename_i v u hout
   rw [hout] at h2
   obtain ⟨PL', hs⟩ := hp
   exact ⟨PL', _, h2, n1, hlen _ _, hs⟩
  ·rename_i X Pr v u hout
   rw [hout] at h2
   obtain ⟨x, hx, PL', hs⟩ := hp
   exact ⟨PL', _, (h2 x hx).out, n1, hlen _ _, hs⟩
theorem sat_lit (h : Sat C PL s Fr a w) {g : Nat} {b : Bool} (hg : fget s.fr g = some (.v (.bool b))) : Sat C PL (s.put (some g) (some (.v (.bool b))) []) Fr a w := by
 refine { h.toHSat with len := ?_, def_ := h.def_, slot := ?_ }
 ·simp only [St.put, fput_length]; exact h.len
 ·intro i v hi
  simp only [St.put] at hi
  by_cases hig : g = i
  ·subst hig
   rw [fget_fput_eq _ _ _ (fget_lt _ _ _ hg)] at hi
   injection hi with hi
   subst hi
   exact h.slot g _ hg
  ·rw [fget_fput_ne _ _ _ _ hig] at hi
   exact h.slot i v hi
theorem slot_bool (h : Sat C PL s Fr a w) {g : Nat} {b : Bool} (hg : fget s.fr g = some (.v (.bool b))) : a.tmps[g]? = some (.bool b) := by
 have d := h.slot g _ hg
 have hl : g < a.tmps.size := by rw [h.len]; exact fget_lt _ _ _ hg
 generalize hq : a.tmps.getD g undef = q at d
 cases d
 simp only [Array.getD, hl, dif_pos] at hq
 rw [Array.getElem?_eq_getElem hl]
 exact congrArg some hq
theorem wanted_of {ops : Array Oper} {j g : Nat} {want b : Bool} {p : Oper} (hgd : o.guard = some (j, want)) (hp : ops[j]? = some p) (hd : p.dst = some g) (h : Sat C PL s Fr a w) (hg : fget s.fr g = some (.v (.bool b))) : Region.wanted o (yielded ops a.tmps) = (b == want) := by
 have hs := slot_bool h hg
 simp [Region.wanted, hgd, yielded, hp, hd, hs]
theorem undef_den {v : SV} (hv : (some (.tup []) : Option SV) = some v) : Den PL w (Avo C PL s.hp) v undef := by
 injection hv with hv
 subst hv
 exact Den.tup [] [] rfl (fun j h => absurd h (by simp))
theorem wanted_undef {ops : Array Oper} {j g : Nat} {want : Bool} {p : Oper} (hgd : o.guard = some (j, want)) (hp : ops[j]? = some p) (hd : p.dst = some g) (h : Sat C PL s Fr a w) (hg : fget s.fr g = some (.tup [])) : Region.wanted o (yielded ops a.tmps) = false := by
 have d := h.slot g _ hg
 have hl : g < a.tmps.size := by rw [h.len]; exact fget_lt _ _ _ hg
 have hs : a.tmps[g]? = some (.tuple #[]) := by
  generalize hq : a.tmps.getD g undef = q at d
  cases d
  rename_i cs hl2 hd2
  have : cs = [] := List.length_eq_zero_iff.1 (by simpa using hl2)
  subst this
  simp only [Array.getD, hl, dif_pos] at hq
  rw [Array.getElem?_eq_getElem hl]
  exact congrArg some hq
 simp [Region.wanted, hgd, yielded, hp, hd, hs]
theorem op_sound {ops : Array Oper} {rest : List Oper} {io : Io} (hsnd : Snd P C Γ o io.op) (hdst : io.dst = o.dst) (hg : (o.guard = none ∧ io.g = none) ∨ ∃ j want p g, o.guard = some (j, want) ∧ ops[j]? = some p ∧ p.dst = some g ∧ io.g = some (g, want))
  {K : St → Prop} {fresh : Nat} (h : Sat C PL s Fr a w) (hfr : ∀ i, fresh ≤ i → i < fresh + 8 → Fr i) (hk : C.k ≤ fresh) (hv : vcOp Γ io fresh s K)
  (next : ∀ PL' s' a' w', K s' → s'.nx = s.nx → Sat C PL' s' (fun i => Fr i ∧ ¬ (fresh ≤ i ∧ i < fresh + 8)) a' w' → wpList P ops Q rest a' w') : wpList P ops Q (o :: rest) a w := by
 unfold wpList
 have skip : ∀ s', Sat C PL s' Fr a w → s'.nx = s.nx → K (s'.put io.dst (some (.tup [])) []) → wpList P ops Q rest (a.put o.dst undef) w := by
  intro s' hs hn hK
  refine next PL _ _ _ hK hn ?_
  have := hs.pure o.dst (some (.tup [])) undef (fun v hv => undef_den hv)
  rw [hdst]
  exact this.fr_mono (fun i hi => hi.1)
 have exec : ∀ s', Sat C PL s' Fr a w → s'.nx = s.nx → vcExec Γ io fresh s' K → o.wp P a w (wpList P ops Q rest) Q := by
  intro s' hs hn hE
  refine Oper.wp_mono (fun a' w' hp => ?_) (exec_sound (Q := Q) hsnd hdst hs hfr hk hE)
  obtain ⟨PL', s'', hK, hn', _, hS⟩ := hp
  exact next PL' s'' a' w' hK (hn'.trans hn) hS
 rcases hg with ⟨h1, h2⟩ | ⟨j, want, p, g, h1, h2, h3, h4⟩
 ·rw [if_pos (by simp [Region.wanted, h1])]
  unfold vcOp at hv
  rw [h2] at hv
  exact .inl (exec s h rfl hv)
 ·unfold vcOp at hv
  rw [h4] at hv
  cases want with
  | true =>
   simp only [] at hv
   split at hv
   ·rename_i b hb
    rw [wanted_of h1 h2 h3 h hb]
    cases b with
    | true => exact .inl (exec _ (sat_lit h hb) rfl hv)
    | false => exact skip _ (sat_lit h hb) rfl hv
   ·rename_i hb
    rw [wanted_undef h1 h2 h3 h hb]
    exact skip _ h rfl hv
   ·exact hv.elim
  | false =>
   simp only [] at hv
   split at hv
   ·rename_i b hb
    rw [wanted_of h1 h2 h3 h hb]
    cases b with
    | true => exact skip _ (sat_lit h hb) rfl hv
    | false => exact .inl (exec _ (sat_lit h hb) rfl hv)
   ·rename_i hb
    rw [wanted_undef h1 h2 h3 h hb]
    exact skip _ h rfl hv
   ·exact hv.elim
theorem cOps_cons {all : Array Oper} {draw : Bool} {o : Oper} {pre : List Nat} {os : List (Oper × List Nat)} {ios : List Io} (h : cOps P all draw ((o, pre) :: os) = some ios) :
  ∃ x g ios', ios = ⟨o.dst, g, if draw then pre else [], x⟩ :: ios' ∧ cOp P o = some x ∧ cOps P all draw os = some ios' ∧ ((o.guard = none ∧ g = none) ∨ ∃ j want p d, o.guard = some (j, want) ∧ all[j]? = some p ∧ p.dst = some d ∧ g = some (d, want)) := by
 simp only [cOps, Option.bind_eq_bind, Option.bind_eq_some_iff, Option.pure_def] at h
 obtain ⟨x, hx, h⟩ := h
 cases hgd : o.guard with
 | none =>
  rw [hgd] at h
  simp only [Option.bind_some, Option.bind_eq_some_iff, Option.some.injEq] at h
  obtain ⟨l, hl, rfl⟩ := h
  exact ⟨x, none, l, rfl, hx, hl, .inl ⟨rfl, rfl⟩⟩
 | some q =>
  obtain ⟨j, want⟩ := q
  rw [hgd] at h
  simp only [Option.bind_some, Option.bind_eq_some_iff, Option.some.injEq] at h
  obtain ⟨p, hp, d, hd, l, hl, rfl⟩ := h
  exact ⟨x, some (d, want), l, rfl, hx, hl, .inr ⟨j, want, p, d, rfl, hp, hd, rfl⟩⟩
theorem ops_sound (T : Tab P Γ) {all : Array Oper} {K : St → Prop} : ∀ (os : List (Oper × List Nat)) (ios : List Io) (fresh : Nat) (PL : Nat → Option Pl) (s : St) (a : Act) (w : World), cOps P all false os = some ios → Sat C PL s (fun i => fresh ≤ i) a w → C.k ≤ fresh → vcOps Γ ios fresh s K →
  (∀ PL' s' a' w', K s' → s'.nx = s.nx → Sat C PL' s' (fun i => fresh + 8 * ios.length ≤ i) a' w' → Q .normal a' w') → wpList P all Q (os.map (·.1)) a w
 | [], ios, fresh, PL, s, a, w, hc, h, hk, hv, hQ => by
  simp only [cOps] at hc
  injection hc with hc
  subst hc
  exact hQ PL s a w hv rfl (by simpa using h)
 | (o, pre) :: os, ios, fresh, PL, s, a, w, hc, h, hk, hv, hQ => by
  obtain ⟨x, g, ios', rfl, hx, hl, hg⟩ := cOps_cons hc
  simp only [vcOps] at hv
  refine op_sound (io := ⟨o.dst, g, [], x⟩) (cOp_snd T hx) rfl (by
   rcases hg with ⟨h1, h2⟩ | ⟨j, want, p, d, h1, h2, h3, h4⟩
   ·exact .inl ⟨h1, h2⟩
   ·exact .inr ⟨j, want, p, d, h1, h2, h3, h4⟩) h (fun i h1 _ => h1) hk hv ?_
  intro PL' s' a' w' hK hn hS
  refine ops_sound T os ios' (fresh + 8) PL' s' a' w' hl (hS.fr_mono fun i hi => ⟨by omega, by omega⟩) (by omega) hK ?_
  intro PL2 s2 a2 w2 hK2 hn2 hS2
  refine hQ PL2 s2 a2 w2 hK2 (hn2.trans hn) ?_
  refine hS2.fr_mono fun i hi => ?_
  simp only [List.length_cons] at hi
  omega
theorem ancsL_len : ∀ (os : List Oper) (acc : List (List Nat)), (ancsL os acc).length = acc.length + os.length
 | [], acc => by simp [ancsL]
 | o :: os, acc => by simp only [ancsL, ancsL_len os, List.length_append, List.length_cons, List.length_nil]; omega
theorem cOps_len {all : Array Oper} {draw : Bool} : ∀ (os : List (Oper × List Nat)) (ios : List Io), cOps P all draw os = some ios → ios.length = os.length
 | [], ios, h => by simp only [cOps] at h; injection h with h; subst h; rfl
 | (o, pre) :: os, ios, h => by
  obtain ⟨x, g, ios', rfl, _, hl, _⟩ := cOps_cons h
  simp [cOps_len os ios' hl]
def exOf : Ex → Exit
 | .nxt => .normal
 | .ret => .ret
 | .exit id => .exit id
def SatN (C : Ctx) (PL : Nat → Option Pl) (s : St) (a : Act) (w : World) : Prop := Sat C PL s (fun i => s.nx ≤ i) a w ∧ C.k ≤ s.nx
def KQ (C : Ctx) (K : Ex → St → Prop) (Q : Exit → Act → World → Prop) : Prop := ∀ e s' PL' a' w', K e s' → SatN C PL' s' a' w' → Q (exOf e) a' w'
def DrawOK (P : Program) (C : Ctx) (Γ : FuncId → Option Con) : Prop := ∀ (id : Nat) (ops : Array Oper) (ios : List Io) (s : St) (K : Ex → St → Prop) (PL : Nat → Option Pl) (a : Act) (w : World) (Q : Exit → Act → World → Prop),
 comp P (.region id ops true) = some (.reg true ios) → vcOpsD Γ ios 0 s.nx [] ⟨s.fr, s.hp, s.nx + 8 * ios.length⟩ (K .nxt) → SatN C PL s a w → KQ C K Q → (Code.region id ops true).wp P Q a w
structure LoopOK (P : Program) (C : Ctx) (Γ : FuncId → Option Con) (c : IC) (s : St) (K : Ex → St → Prop) : Prop where
 out : ∀ (code : Code) (PL : Nat → Option Pl) (a : Act) (w : World) (Q : Exit → Act → World → Prop), comp P code = some c → SatN C PL s a w → KQ C K Q → code.wp P Q a w
theorem comp_loop {P : Program} {code : Code} {c : IC} (h : comp P code = some (.loop c)) : ∃ c', code = .loop c' ∧ comp P c' = some c := by
 cases code with
 | loop x =>
  simp only [comp, Option.map_eq_some_iff, IC.loop.injEq] at h
  obtain ⟨d, h1, rfl⟩ := h
  exact ⟨x, rfl, h1⟩
 | region id ops draw => cases draw <;> simp only [comp] at h <;> (repeat' split at h) <;> cases h
 | seq x y => simp only [comp, Option.bind_eq_bind, Option.bind_eq_some_iff, Option.pure_def, Option.some.injEq] at h; obtain ⟨_, _, _, _, h⟩ := h; cases h
 | cond g x y =>
  simp only [comp] at h
  split at h
  ·simp only [Option.bind_eq_bind, Option.bind_eq_some_iff, Option.pure_def, Option.some.injEq] at h; obtain ⟨_, _, _, _, h⟩ := h; cases h
  ·cases h
 | block id x => simp only [comp, Option.map_eq_some_iff] at h; obtain ⟨_, _, h⟩ := h; cases h
 | rangeFunc g ps x y =>
  simp only [comp] at h
  split at h
  ·simp only [Option.bind_eq_bind, Option.bind_eq_some_iff, Option.pure_def, Option.some.injEq] at h; obtain ⟨_, _, _, _, h⟩ := h; cases h
  ·cases h
 | _ => simp only [comp] at h; cases h
theorem comp_rfn {P : Program} {code : Code} {x : Opnd} {ps : List Nat} {asg body : IC} (h : comp P code = some (.rfn x ps asg body)) : ∃ g pa ca cb, code = .rangeFunc g pa ca cb ∧ cX g = some x ∧ pa.toList = ps ∧ comp P ca = some asg ∧ comp P cb = some body := by
 cases code with
 | loop x => simp only [comp, Option.map_eq_some_iff] at h; obtain ⟨_, _, h⟩ := h; cases h
 | region id ops draw => cases draw <;> simp only [comp] at h <;> (repeat' split at h) <;> cases h
 | seq x y => simp only [comp, Option.bind_eq_bind, Option.bind_eq_some_iff, Option.pure_def, Option.some.injEq] at h; obtain ⟨_, _, _, _, h⟩ := h; cases h
 | cond g x y =>
  simp only [comp] at h
  split at h
  ·simp only [Option.bind_eq_bind, Option.bind_eq_some_iff, Option.pure_def, Option.some.injEq] at h; obtain ⟨_, _, _, _, h⟩ := h; cases h
  ·cases h
 | block id x => simp only [comp, Option.map_eq_some_iff] at h; obtain ⟨_, _, h⟩ := h; cases h
 | rangeFunc g pa ca cb =>
  simp only [comp] at h
  split at h
  ·rename_i y hy
   simp only [Option.bind_eq_bind, Option.bind_eq_some_iff, Option.pure_def, Option.some.injEq] at h
   obtain ⟨a', h1, b', h2, h3⟩ := h
   injection h3 with e1 e2 e3 e4
   subst e1; subst e3; subst e4
   exact ⟨g, pa, ca, cb, rfl, hy, e2, h1, h2⟩
  ·cases h
 | _ => simp only [comp] at h; cases h
theorem vc_sound (T : Tab P Γ) (hD : DrawOK P C Γ) : ∀ (code : Code) (ic : IC) (s : St) (K : Ex → St → Prop) (PL : Nat → Option Pl) (a : Act) (w : World) (Q : Exit → Act → World → Prop), comp P code = some ic → vc Γ (LoopOK P C Γ) ic s K → SatN C PL s a w → KQ C K Q → code.wp P Q a w
 | .skip, ic, s, K, PL, a, w, Q, hc, hv, h, hQ => by
  simp only [comp] at hc; injection hc with hc; subst hc
  exact wp_skip (hQ .nxt s PL a w hv h)
 | .ret, ic, s, K, PL, a, w, Q, hc, hv, h, hQ => by
  simp only [comp] at hc; injection hc with hc; subst hc
  exact wp_ret (hQ .ret s PL a w hv h)
 | .exit id, ic, s, K, PL, a, w, Q, hc, hv, h, hQ => by
  simp only [comp] at hc; injection hc with hc; subst hc
  exact wp_exit (hQ (.exit id) s PL a w hv h)
 | .region id ops draw, ic, s, K, PL, a, w, Q, hc, hv, h, hQ => by
  cases draw with
  | true =>
   have hc0 := hc
   simp only [comp] at hc
   split at hc
   ·split at hc
    ·injection hc with hc; subst hc
     exact hD id ops _ s K PL a w Q hc0 hv h hQ
    ·injection hc with hc; subst hc; exact hv.elim
   ·injection hc with hc; subst hc; exact hv.elim
  | false =>
   simp only [comp] at hc
   cases hcc : cOps P ops false (ops.toList.zip (ancsL ops.toList [])) with
   | none => rw [hcc] at hc; injection hc with hc; subst hc; exact hv.elim
   | some ios =>
   have hios := hcc
   rw [hcc] at hc
   injection hc with hc
   subst hc
   simp only [vc] at hv
   refine wp_region_list ?_
   have hmap : (ops.toList.zip (ancsL ops.toList [])).map (·.1) = ops.toList := by
    rw [List.map_fst_zip]
    rw [ancsL_len]; simp
   rw [← hmap]
   have hS : Sat C PL (⟨s.fr, s.hp, s.nx + 8 * ios.length⟩ : St) (fun i => s.nx ≤ i) a w := { h.1.toHSat with len := h.1.len, def_ := h.1.def_, slot := h.1.slot }
   refine ops_sound T _ ios s.nx PL _ a w hios hS h.2 hv ?_
   intro PL' s' a' w' hK hn hS'
   refine hQ .nxt s' PL' a' w' hK ⟨?_, ?_⟩
   ·rw [hn]; exact hS'
   ·rw [hn]; have := h.2; simp only []; omega
 | .seq x y, ic, s, K, PL, a, w, Q, hc, hv, h, hQ => by
  simp only [comp, Option.bind_eq_bind, Option.bind_eq_some_iff, Option.pure_def, Option.some.injEq] at hc
  obtain ⟨x', hx, y', hy, rfl⟩ := hc
  simp only [vc] at hv
  refine wp_seq (vc_sound T hD x x' s _ PL a w _ hx hv h ?_)
  intro e s' PL' a' w' hK hS
  cases e with
  | nxt => exact vc_sound T hD y y' s' K PL' a' w' Q hy hK hS hQ
  | ret => exact hQ .ret s' PL' a' w' hK hS
  | exit id => exact hQ (.exit id) s' PL' a' w' hK hS
 | .cond c x y, ic, s, K, PL, a, w, Q, hc, hv, h, hQ => by
  simp only [comp] at hc
  cases hcc : cX c with
  | none => rw [hcc] at hc; injection hc with hc; subst hc; exact hv.elim
  | some c' =>
  rw [hcc] at hc
  simp only [Option.bind_eq_bind, Option.bind_eq_some_iff, Option.pure_def, Option.some.injEq] at hc
  obtain ⟨x', hx, y', hy, rfl⟩ := hc
  simp only [vc] at hv
  split at hv
  ·rename_i b hb
   have d := ev_den h.1 hcc hb
   generalize hq : a.eval c = q at d
   cases d
   refine wp_cond hq ?_
   cases b with
   | true => exact vc_sound T hD x x' s K PL a w Q hx hv h hQ
   | false => exact vc_sound T hD y y' s K PL a w Q hy hv h hQ
  ·exact hv.elim
 | .block id c, ic, s, K, PL, a, w, Q, hc, hv, h, hQ => by
  simp only [comp, Option.map_eq_some_iff] at hc
  obtain ⟨c', hcc, rfl⟩ := hc
  simp only [vc] at hv
  refine wp_block (vc_sound T hD c c' s _ PL a w _ hcc hv h ?_)
  intro e s' PL' a' w' hK hS
  cases e with
  | nxt => exact hQ .nxt s' PL' a' w' hK hS
  | ret => exact hQ .ret s' PL' a' w' hK hS
  | exit j =>
   simp only [] at hK
   simp only [exOf, Exit.inBlock]
   split at hK
   ·rename_i hj
    rw [if_pos ((nbeq j id).1 hj)]
    exact hQ .nxt s' PL' a' w' hK hS
   ·rename_i hj
    rw [if_neg ((nbeq_false j id).1 hj)]
    exact hQ (.exit j) s' PL' a' w' hK hS
 | .loop c, ic, s, K, PL, a, w, Q, hc, hv, h, hQ => by
  have hc0 := hc
  simp only [comp, Option.map_eq_some_iff] at hc
  obtain ⟨c', hcc, rfl⟩ := hc
  simp only [vc] at hv
  exact hv.out (.loop c) PL a w Q hc0 h hQ
 | .rangeFunc f ps x y, ic, s, K, PL, a, w, Q, hc, hv, h, hQ => by
  have hc0 := hc
  simp only [comp] at hc
  split at hc
  ·simp only [Option.bind_eq_bind, Option.bind_eq_some_iff, Option.pure_def, Option.some.injEq] at hc
   obtain ⟨a', h1, b', h2, rfl⟩ := hc
   simp only [vc] at hv
   exact hv.out _ PL a w Q hc0 h hQ
  ·injection hc with hc; subst hc; exact hv.elim
 | .scope c, ic, s, K, PL, a, w, Q, hc, hv, h, hQ => by simp only [comp] at hc; injection hc with hc; subst hc; exact hv.elim
 | .label l, ic, s, K, PL, a, w, Q, hc, hv, h, hQ => by simp only [comp] at hc; injection hc with hc; subst hc; exact hv.elim
 | .goto l, ic, s, K, PL, a, w, Q, hc, hv, h, hQ => by simp only [comp] at hc; injection hc with hc; subst hc; exact hv.elim
 | .refuse r, ic, s, K, PL, a, w, Q, hc, hv, h, hQ => by simp only [comp] at hc; injection hc with hc; subst hc; exact hv.elim
def Le (C : Ctx) (s t : St) : Prop := ∀ PL a w, SatN C PL s a w → ∃ PL', SatN C PL' t a w
theorem LoopOK.intro (T : Tab P Γ) (hD : DrawOK P C Γ) {c : IC} {s : St} {K : Ex → St → Prop} {X : Type} (inv : X → St) (μ : X → Nat) (x0 : X) (h0 : Le C s (inv x0))
  (hr : ∀ x, vc Γ (LoopOK P C Γ) c (inv x) (fun e s' => match e with | .nxt => ∃ x', Le C s' (inv x') ∧ μ x' < μ x | .ret => K .ret s' | .exit id => K (.exit id) s')) : LoopOK P C Γ (.loop c) s K where
 out := by
  intro code PL a w Q hc h hQ
  obtain ⟨code', e0, hc'⟩ := comp_loop hc
  subst e0
  clear hc
  have hc := hc'
  clear hc'
  obtain ⟨code, e0⟩ : ∃ code, code = code' := ⟨_, rfl⟩
  subst e0
  obtain ⟨PL0, h1⟩ := h0 PL a w h
  refine wp_loop_ghost (fun n a w => ∃ x PL, μ x = n ∧ SatN C PL (inv x) a w) (μ x0) ⟨x0, PL0, rfl, h1⟩ ?_
  rintro n a w ⟨x, PL, rfl, hx⟩
  refine vc_sound T hD code c (inv x) _ PL a w _ hc (hr x) hx ?_
  intro e s' PL' a' w' hK hS
  cases e with
  | nxt =>
   obtain ⟨x', hle, hlt⟩ := hK
   obtain ⟨PL2, h2⟩ := hle PL' a' w' hS
   exact ⟨μ x', hlt, x', PL2, rfl, h2⟩
  | ret => exact hQ .ret s' PL' a' w' hK hS
  | exit id => exact hQ (.exit id) s' PL' a' w' hK hS
end
end Go.Proofs.YtbkcmpggacbikaaDoor
end
section
/-
  A walk that reckons: states told otherwise; functions.
-/
set_option linter.unusedVariables false
set_option linter.unusedSimpArgs false
namespace Go.Proofs.YtbkcmpggacbikaaDoor
open Go.RowKit
def allOb : List Prop → Prop
 | [] => True
 | [p] => p
 | p :: ps => p ∧ allOb ps
theorem allOb_spec : ∀ {ps : List Prop}, allOb ps → ∀ p ∈ ps, p
 | [], _, p, hp => by simp at hp
 | [q], h, p, hp => by rcases List.mem_singleton.1 hp with rfl; exact h
 | q :: r :: ps, h, p, hp => by
  obtain ⟨h1, h2⟩ := h
  rcases List.mem_cons.1 hp with rfl | hp
  ·exact h1
  ·exact allOb_spec h2 p hp
def alook : List (Nat × Nat) → Nat → Option Nat
 | [], _ => none
 | (j, i) :: l, k => match Nat.beq k j with | true => some i | false => alook l k
def sig (σ : List (Nat × Nat)) (nils : List Nat) (nx j : Nat) : Option Nat :=
 match nmem j nils with
 | true => none
 | false => match Nat.ble (j + 1) nx with
  | true => match alook σ j with
   | some i => some i
   | none => some j
  | false => none
def idOk (g : Nat → Option Nat) (id j : Nat) : Bool := match g j with | some i => Nat.beq id i | none => false
def vcmp : Value → Value → Option (List Prop)
 | .int k x, .int j y => match k == j with | true => some [x = y] | false => none
 | .bool x, .bool y => some [x = y]
 | .pointer none, .pointer none => some []
 | .nilFunc, .nilFunc => some []
 | .func (.yield l) u v, .func (.yield m) p q => some [Value.func (.yield l) u v = Value.func (.yield m) p q]
 | _, _ => none
def R.cmp : R → R → Option (List Prop)
 | .bs T l, .bs U m => match Nat.beq T U with | true => some [l = m] | false => none
 | .ints T k l, .ints U j m => match Nat.beq T U && k == j with | true => some [l = m] | false => none
 | .row T e l, .row U f m => match Nat.beq T U && e.eq f with | true => some [l = m] | false => none
 | _, _ => none
def R.nilP : R → Prop
 | .bs _ l => l = []
 | .ints _ _ l => l = []
 | .row _ _ l => l = []
mutual
noncomputable def SV.cmp (h : List (Nat × Ck)) (g : Nat → Option Nat) (nl : List Nat) : SV → SV → Option (List Prop × List Nat)
 | .v x, .v y => match vcmp x y with | some ps => some (ps, []) | none => none
 | .str l, .str m => some ([l = m], [])
 | .ptr id o, .ptr j q => match idOk g id j && Nat.beq o q with | true => some ([], []) | false => none
 | .ept id i o, .ept j k q => match idOk g id j && Nat.beq o q with | true => some ([i = k], []) | false => none
 | .esl id i, .esl j k => match idOk g id j with | true => some ([i = k], []) | false => none
 | .rpt r i o, .rpt t k q => match Nat.beq o q, R.cmp r t with | true, some ps => some (ps ++ [i = k], []) | _, _ => none
 | .sl id lo n, .sl j lo' n' => match idOk g id j with | true => some ([lo = lo', n = n'], []) | false => none
 | .wsl id, .wsl j => match idOk g id j with | true => some ([], []) | false => none
 | .wsl id, .sl j lo n => match idOk g id j, rowOf h id with | true, some r => some ([lo = 0, n = r.len], []) | _, _ => none
 | .nsl, .sl j lo n => match nmem j nl with | true => some ([lo = 0, n = 0], []) | false => none
 | .nsl, .nsl => some ([], [])
 | .nsl, .wsl j => match nmem j nl with | true => some ([], []) | false => none
 | .nsl, .rsl r => some ([r.nilP], [])
 | .rsl r, .rsl t => match R.cmp r t with | some ps => some (ps, []) | none => none
 | .wsl id, .rsl t => match rowOf h id with
  | some r => match R.cmp r t with | some ps => some (ps, [id]) | none => none
  | none => none
 | .sl id lo n, .rsl t => match rowOf h id with
  | some r => match R.cmp (r.sub lo n) t with | some ps => some (ps, [id]) | none => none
  | none => none
 | .agg l, .agg m => SV.cmpL h g nl l m
 | .tup l, .tup m => SV.cmpL h g nl l m
 | .fn f l, .fn q m => match Nat.beq f q with | true => SV.cmpL h g nl l m | false => none
 | _, _ => none
noncomputable def SV.cmpL (h : List (Nat × Ck)) (g : Nat → Option Nat) (nl : List Nat) : List SV → List SV → Option (List Prop × List Nat)
 | [], [] => some ([], [])
 | x :: xs, y :: ys => match SV.cmp h g nl x y with
  | some (ps, fs) => match SV.cmpL h g nl xs ys with
   | some (qs, gs) => some (ps ++ qs, fs ++ gs)
   | none => none
  | none => none
 | _, _ => none
end
noncomputable def Ck.cmp (h : List (Nat × Ck)) (g : Nat → Option Nat) (nl : List Nat) : Ck → Ck → Option (List Prop × List Nat)
 | .blk T l, .blk U m => match Nat.beq T U with | true => SV.cmpL h g nl l m | false => none
 | .row r, .row t => match R.cmp r t with | some ps => some (ps, []) | none => none
 | _, _ => none
noncomputable def hpCmp (h : List (Nat × Ck)) (g : Nat → Option Nat) (nl : List Nat) : List (Nat × Ck) → Option (List Prop × List Nat)
 | [] => some ([], [])
 | (j, c) :: l => match nmem j nl with
  | true => (match c with
   | .row r => (match Nat.ble 1 r.sz with
    | true => (match hpCmp h g nl l with | some (qs, gs) => some (r.nilP :: qs, gs) | none => none)
    | false => none)
   | _ => none)
  | false => match g j with
   | some i => (match hget h i with
    | some d => (match Ck.cmp h g nl d c with
     | some (ps, fs) => (match hpCmp h g nl l with | some (qs, gs) => some (ps ++ qs, fs ++ gs) | none => none)
     | none => none)
    | none => none)
   | none => none
noncomputable def frCmp (h : List (Nat × Ck)) (g : Nat → Option Nat) (nl : List Nat) : List (Option SV) → List (Option SV) → Option (List Prop × List Nat)
 | [], [] => some ([], [])
 | _ :: xs, none :: ys => frCmp h g nl xs ys
 | some x :: xs, some y :: ys => match SV.cmp h g nl x y with
  | some (ps, fs) => (match frCmp h g nl xs ys with | some (qs, gs) => some (ps ++ qs, fs ++ gs) | none => none)
  | none => none
 | _, _ => none
def liveOf (g : Nat → Option Nat) : List (Nat × Ck) → List Nat
 | [] => []
 | (j, _) :: l => match g j with | some i => i :: liveOf g l | none => liveOf g l
def hnodup : List (Nat × Ck) → Bool
 | [] => true
 | (j, _) :: l => match hget l j with | some _ => false | none => hnodup l
def argsId (g : Nat → Option Nat) : Nat → Bool
 | 0 => true
 | n + 1 => match idOk g n n with | true => argsId g n | false => false
def nlts : List Nat → Nat → Bool
 | [], _ => true
 | i :: l, n => match Nat.ble (i + 1) n with | true => nlts l n | false => false
theorem nlts_spec : ∀ (l : List Nat) (n : Nat), nlts l n = true → ∀ i ∈ l, i < n
 | [], n, _, i, hi => by simp at hi
 | j :: l, n, h, i, hi => by
  unfold nlts at h
  cases hb : Nat.ble (j + 1) n with
  | false => rw [hb] at h; cases h
  | true =>
   rw [hb] at h
   rcases List.mem_cons.1 hi with rfl | hi
   ·have := Nat.le_of_ble_eq_true hb; omega
   ·exact nlts_spec l n h i hi
noncomputable def leP (k : Nat) (σ : List (Nat × Nat)) (nl : List Nat) (s t : St) : Prop :=
 match hpCmp s.hp (sig σ nl t.nx) nl t.hp, frCmp s.hp (sig σ nl t.nx) nl s.fr t.fr with
 | some (ps, fs), some (qs, gs) => match ndisj (fs ++ gs) (liveOf (sig σ nl t.nx) t.hp) && nnodup (liveOf (sig σ nl t.nx) t.hp) && hnodup t.hp && argsId (sig σ nl t.nx) k && Nat.ble k t.nx && nlts nl t.nx with
  | true => allOb (ps ++ qs)
  | false => False
 | _, _ => False
theorem nilP_len {r : R} (h : r.nilP) : rlen r = 0 := by cases r <;> simp only [R.nilP] at h <;> subst h <;> rfl
theorem vcmp_spec {x y : Value} {ps : List Prop} (h : vcmp x y = some ps) (hp : ∀ p ∈ ps, p) : x = y := by
 unfold vcmp at h
 split at h
 ·split at h
  ·rename_i hk
   injection h with h; subst h
   have := LawfulBEq.eq_of_beq hk
   subst this
   rw [hp _ (List.mem_singleton.2 rfl)]
  ·cases h
 ·injection h with h; subst h
  rw [hp _ (List.mem_singleton.2 rfl)]
 ·rfl
 ·rfl
 ·injection h with h; subst h
  exact hp _ (List.mem_singleton.2 rfl)
 ·cases h
theorem rcmp_spec {r t : R} {ps : List Prop} (h : R.cmp r t = some ps) (hp : ∀ p ∈ ps, p) : r = t := by
 cases r <;> cases t <;> simp only [R.cmp] at h <;> try (cases h; done)
 ·split at h
  ·rename_i hk
   injection h with h; subst h
   have := (nbeq _ _).1 hk
   subst this
   rw [hp _ (List.mem_singleton.2 rfl)]
  ·cases h
 ·split at h
  ·rename_i hk
   injection h with h; subst h
   rw [Bool.and_eq_true] at hk
   have e1 := (nbeq _ _).1 hk.1
   have e2 := LawfulBEq.eq_of_beq hk.2
   subst e1; subst e2
   rw [hp _ (List.mem_singleton.2 rfl)]
  ·cases h
 ·split at h
  ·rename_i hk
   injection h with h; subst h
   rw [Bool.and_eq_true] at hk
   have e1 := (nbeq _ _).1 hk.1
   have e2 := eq_of_tyeq _ _ hk.2
   subst e1; subst e2
   rw [hp _ (List.mem_singleton.2 rfl)]
  ·cases h
theorem idOk_spec {g : Nat → Option Nat} {id j : Nat} (h : idOk g id j = true) : g j = some id := by
 unfold idOk at h
 cases hg : g j with
 | none => rw [hg] at h; cases h
 | some i => rw [hg] at h; simp only [] at h; rw [(nbeq id i).1 h]
theorem row_live {h : List (Nat × Ck)} {id : Nat} {r : R} (e : rowOf h id = some r) : hget h id ≠ none := by
 intro hx
 unfold rowOf at e
 rw [hx] at e
 cases e
section
variable {C : Ctx} {PL PL' : Nat → Option Pl} {hp hp2 : List (Nat × Ck)} {Fr : Nat → Prop} {w : World} {Av' : Nat → Prop} {g : Nat → Option Nat} {nl : List Nat}
structure Tell (C : Ctx) (PL PL' : Nat → Option Pl) (hp : List (Nat × Ck)) (Fr : Nat → Prop) (w : World) (Av' : Nat → Prop) (g : Nat → Option Nat) (nl fz : List Nat) : Prop where
 H : HSat C PL hp Fr w
 A : ∀ b, b < w.heap.size → Av' b → Avo C PL hp b
 P : ∀ j i p, g j = some i → PL i = some p → PL' j = some p
 nil : ∀ j, j ∈ nl → ∃ sz, PL' j = some ⟨none, 0, 0, sz⟩
 fz : ∀ id ∈ fz, ∀ p b, PL id = some p → p.a = some ⟨b, 0, none⟩ → hget hp id ≠ none → ¬ Av' b
mutual
theorem cmp_den : ∀ (a b : SV) (ps : List Prop) (fs : List Nat) (x : Value), SV.cmp hp g nl a b = some (ps, fs) → (∀ p ∈ ps, p) → Tell C PL PL' hp Fr w Av' g nl fs → Den PL w (Avo C PL hp) a x → Den PL' w Av' b x
 | .v u, b, ps, fs, x, h, hps, T, d => by
  cases b <;> simp only [SV.cmp] at h <;> try (cases h; done)
  split at h
  ·rename_i qs hq
   injection h with h; injection h with h1 h2; subst h1
   have := vcmp_spec hq hps
   subst this
   cases d
   exact .v _
  ·cases h
 | .str l, b, ps, fs, x, h, hps, T, d => by
  cases b <;> simp only [SV.cmp] at h <;> try (cases h; done)
  injection h with h; injection h with h1 h2; subst h1
  have := hps _ (List.mem_singleton.2 rfl)
  subst this
  cases d
  exact .str _
 | .ptr id o, b, ps, fs, x, h, hps, T, d => by
  cases b <;> simp only [SV.cmp] at h <;> try (cases h; done)
  split at h
  ·rename_i hk
   rw [Bool.and_eq_true] at hk
   have e1 := idOk_spec hk.1
   have e2 := (nbeq _ _).1 hk.2
   subst e2
   cases d with
   | ptr _ _ bb p hp' ha => exact .ptr _ _ bb p (T.P _ _ _ e1 hp') ha
  ·cases h
 | .ept id i o, b, ps, fs, x, h, hps, T, d => by
  cases b <;> simp only [SV.cmp] at h <;> try (cases h; done)
  split at h
  ·rename_i hk
   injection h with h; injection h with h1 h2; subst h1
   have := hps _ (List.mem_singleton.2 rfl)
   subst this
   rw [Bool.and_eq_true] at hk
   have e1 := idOk_spec hk.1
   have e2 := (nbeq _ _).1 hk.2
   subst e2
   cases d with
   | ept _ _ _ bb p hp' ha hi => exact .ept _ _ _ bb p (T.P _ _ _ e1 hp') ha hi
  ·cases h
 | .esl id i, b, ps, fs, x, h, hps, T, d => by
  cases b <;> simp only [SV.cmp] at h <;> try (cases h; done)
  split at h
  ·rename_i hk
   injection h with h; injection h with h1 h2; subst h1
   have := hps _ (List.mem_singleton.2 rfl)
   subst this
   have e1 := idOk_spec hk
   cases d with
   | esl _ _ bb p hp' ha hi => exact .esl _ _ bb p (T.P _ _ _ e1 hp') ha hi
  ·cases h
 | .rpt r i o, b, ps, fs, x, h, hps, T, d => by
  cases b <;> simp only [SV.cmp] at h <;> try (cases h; done)
  split at h
  ·rename_i qs hk hq
   injection h with h; injection h with h1 h2; subst h1
   have e0 := rcmp_spec hq (fun p hp => hps p (List.mem_append_left _ hp))
   have e1 := hps _ (List.mem_append_right _ (List.mem_singleton.2 rfl))
   have e2 := (nbeq _ _).1 hk
   subst e0; subst e1; subst e2
   cases d with
   | rpt _ _ _ A cap hd hi => exact .rpt _ _ _ A cap (rsl_any T.A _ _ hd) hi
  ·cases h
 | .sl id lo n, b, ps, fs, x, h, hps, T, d => by
  cases b with
  | sl j lo' n' =>
   simp only [SV.cmp] at h
   split at h
   ·rename_i hk
    injection h with h; injection h with h1 h2; subst h1
    have e1 := idOk_spec hk
    have e2 := hps _ (List.mem_cons_self ..)
    have e3 := hps _ (List.mem_cons_of_mem _ (List.mem_singleton.2 rfl))
    subst e2; subst e3
    cases d with
    | sl _ _ _ p A cap hp' a1 a2 a3 a4 => exact .sl _ _ _ p A cap (T.P _ _ _ e1 hp') a1 a2 a3 a4
   ·cases h
  | rsl t =>
   simp only [SV.cmp] at h
   split at h
   ·rename_i r hr
    split at h
    ·rename_i qs hq
     injection h with h; injection h with h1 h2; subst h1; subst h2
     have e := rcmp_spec hq hps
     rw [← e]
     exact rsl_any (fun _ _ h => h) _ _ (lend_row T.H (id := id) (.inr ⟨lo, n, rfl⟩) (by simp [rowS, hr]) d T.A (fun p b a1 a2 => T.fz id (List.mem_singleton.2 rfl) p b a1 a2 (row_live hr)))
    ·cases h
   ·cases h
  | _ => simp only [SV.cmp] at h; cases h
 | .wsl id, b, ps, fs, x, h, hps, T, d => by
  cases b with
  | wsl j =>
   simp only [SV.cmp] at h
   split at h
   ·rename_i hk
    have e1 := idOk_spec hk
    cases d with
    | wsl _ p hp' => exact .wsl _ p (T.P _ _ _ e1 hp')
   ·cases h
  | sl j lo n =>
   simp only [SV.cmp] at h
   split at h
   ·rename_i r hk hr
    injection h with h; injection h with h1 h2; subst h1
    have e1 := idOk_spec hk
    have e2 := hps _ (List.mem_cons_self ..)
    have e3 := hps _ (List.mem_cons_of_mem _ (List.mem_singleton.2 rfl))
    subst e2
    rw [R.len_eq] at e3
    cases d with
    | wsl _ p hp' =>
     have hck : CkOk PL w (fun b => C.Z b ∨ Own PL hp b) id (.row r) := T.H.ck id _ (by
      unfold rowOf at hr
      split at hr
      ·rename_i q hq; injection hr with hr; subst hr; exact hq
      ·cases hr)
     obtain ⟨p2, g1, g2, g3, g4, g5⟩ := hck
     rw [hp'] at g1; injection g1 with g1; subst g1
     have e4 : n = p.len := by rw [e3, g2]
     subst e4
     refine .sl j 0 p.len p p.a p.cap (T.P _ _ _ e1 hp') (by omega) ?_ Iff.rfl ?_
     ·rcases g5 with ⟨_, k2, k3⟩ | ⟨_, _, _, _, k3, _⟩ <;> omega
     ·intro _
      rcases g5 with ⟨k1, _, _⟩ | ⟨b, _, k1, _⟩
      ·rw [k1]; rfl
      ·rw [k1, Nat.zero_mul]; rfl
   ·cases h
  | rsl t =>
   simp only [SV.cmp] at h
   split at h
   ·rename_i r hr
    split at h
    ·rename_i qs hq
     injection h with h; injection h with h1 h2; subst h1; subst h2
     have e := rcmp_spec hq hps
     rw [← e]
     exact rsl_any (fun _ _ h => h) _ _ (lend_row T.H (id := id) (.inl rfl) (by simpa [rowS] using hr) d T.A (fun p b a1 a2 => T.fz id (List.mem_singleton.2 rfl) p b a1 a2 (row_live hr)))
    ·cases h
   ·cases h
  | _ => simp only [SV.cmp] at h; cases h
 | .nsl, b, ps, fs, x, h, hps, T, d => by
  cases b with
  | nsl => cases d; exact .nsl
  | wsl j =>
   simp only [SV.cmp] at h
   split at h
   ·rename_i hk
    obtain ⟨sz, hsz⟩ := T.nil j ((nmem_iff _ _).1 hk)
    cases d
    exact .wsl j _ hsz
   ·cases h
  | sl j lo n =>
   simp only [SV.cmp] at h
   split at h
   ·rename_i hk
    injection h with h; injection h with h1 h2; subst h1
    have e2 := hps _ (List.mem_cons_self ..)
    have e3 := hps _ (List.mem_cons_of_mem _ (List.mem_singleton.2 rfl))
    subst e2; subst e3
    obtain ⟨sz, hsz⟩ := T.nil j ((nmem_iff _ _).1 hk)
    cases d
    exact .sl j 0 0 _ none 0 hsz (by simp) (Nat.le_refl _) (by simp) (fun h => absurd rfl h)
   ·cases h
  | rsl r =>
   simp only [SV.cmp] at h
   injection h with h; injection h with h1 h2; subst h1
   cases d
   exact nil_den (nilP_len (hps _ (List.mem_singleton.2 rfl))) .nsl
  | _ => simp only [SV.cmp] at h; cases h
 | .rsl r, b, ps, fs, x, h, hps, T, d => by
  cases b <;> simp only [SV.cmp] at h <;> try (cases h; done)
  split at h
  ·rename_i qs hq
   injection h with h; injection h with h1 h2; subst h1
   have e := rcmp_spec hq hps
   subst e
   exact rsl_any T.A _ _ d
  ·cases h
 | .agg l, b, ps, fs, x, h, hps, T, d => by
  cases b <;> simp only [SV.cmp] at h <;> try (cases h; done)
  cases d with
  | agg _ cs hl hd h1 => obtain ⟨e1, e2⟩ := cmpL_den l _ ps fs cs h hps T ⟨hl, hd⟩; exact .agg _ cs e1 e2 h1
 | .tup l, b, ps, fs, x, h, hps, T, d => by
  cases b <;> simp only [SV.cmp] at h <;> try (cases h; done)
  cases d with
  | tup _ cs hl hd => obtain ⟨e1, e2⟩ := cmpL_den l _ ps fs cs h hps T ⟨hl, hd⟩; exact .tup _ cs e1 e2
 | .fn f l, b, ps, fs, x, h, hps, T, d => by
  cases b <;> simp only [SV.cmp] at h <;> try (cases h; done)
  split at h
  ·rename_i hk
   have e := (nbeq _ _).1 hk
   subst e
   cases d with
   | fn _ _ cs hl hd => obtain ⟨e1, e2⟩ := cmpL_den l _ ps fs cs h hps T ⟨hl, hd⟩; exact .fn _ _ cs e1 e2
  ·cases h
theorem cmpL_den : ∀ (l m : List SV) (ps : List Prop) (fs : List Nat) (cs : List Value), SV.cmpL hp g nl l m = some (ps, fs) → (∀ p ∈ ps, p) → Tell C PL PL' hp Fr w Av' g nl fs → DensA PL w (Avo C PL hp) l cs → DensA PL' w Av' m cs
 | [], m, ps, fs, cs, h, hps, T, d => by
  cases m <;> simp only [SV.cmpL] at h <;> try (cases h; done)
  exact ⟨d.1, fun j a _ => absurd a (by simp)⟩
 | x :: xs, m, ps, fs, cs, h, hps, T, d => by
  cases m with
  | nil => simp only [SV.cmpL] at h; cases h
  | cons y ys =>
   simp only [SV.cmpL] at h
   split at h
   ·rename_i p1 f1 h1
    split at h
    ·rename_i p2 f2 h2
     injection h with h; injection h with e1 e2; subst e1; subst e2
     obtain ⟨c, cs', rfl⟩ : ∃ c cs', cs = c :: cs' := by
      cases cs with
      | nil => have := d.1; simp at this
      | cons c cs' => exact ⟨c, cs', rfl⟩
     have d0 := cmp_den x y p1 f1 c h1 (fun p hp => hps p (List.mem_append_left _ hp)) ⟨T.H, T.A, T.P, T.nil, fun id hid => T.fz id (List.mem_append_left _ hid)⟩ (d.2 0 (by simp) (by simp))
     have dr := cmpL_den xs ys p2 f2 cs' h2 (fun p hp => hps p (List.mem_append_right _ hp)) ⟨T.H, T.A, T.P, T.nil, fun id hid => T.fz id (List.mem_append_right _ hid)⟩ ⟨by have := d.1; simpa using this, fun j a b => d.2 (j + 1) (by simpa using a) (by simpa using b)⟩
     refine ⟨by simp [dr.1], fun j a b => ?_⟩
     cases j with
     | zero => exact d0
     | succ j => exact dr.2 j (by simpa using a) (by simpa using b)
    ·cases h
   ·cases h
end
theorem hget_none_of {l : List (Nat × Ck)} {j : Nat} (h : ∀ c, (j, c) ∉ l) : hget l j = none := by
 induction l with
 | nil => rfl
 | cons q l ih =>
  obtain ⟨i, c⟩ := q
  unfold hget
  cases hb : Nat.beq j i with
  | true => have := (nbeq j i).1 hb; subst this; exact absurd (List.mem_cons_self ..) (h c)
  | false => exact ih fun c hc => h c (List.mem_cons_of_mem _ hc)
theorem hget_mem : ∀ {l : List (Nat × Ck)} {j : Nat} {c : Ck}, hget l j = some c → (j, c) ∈ l
 | [], j, c, h => by simp [hget] at h
 | (i, d) :: l, j, c, h => by
  unfold hget at h
  cases hb : Nat.beq j i with
  | true =>
   rw [hb] at h
   simp only [] at h
   injection h with h
   have := (nbeq j i).1 hb
   subst this; subst h
   exact List.mem_cons_self ..
  | false => rw [hb] at h; exact List.mem_cons_of_mem _ (hget_mem h)
theorem hpCmp_parts : ∀ (l : List (Nat × Ck)) (ps : List Prop) (fs : List Nat), hpCmp hp g nl l = some (ps, fs) → (∀ p ∈ ps, p) → ∀ j c, (j, c) ∈ l →
  (j ∈ nl ∧ ∃ r, c = .row r ∧ r.nilP ∧ 0 < r.sz) ∨ (j ∉ nl ∧ ∃ i d qs gs, g j = some i ∧ hget hp i = some d ∧ Ck.cmp hp g nl d c = some (qs, gs) ∧ (∀ p ∈ qs, p) ∧ ∀ id ∈ gs, id ∈ fs)
 | [], ps, fs, h, hps, j, c, hm => by simp at hm
 | (j0, c0) :: l, ps, fs, h, hps, j, c, hm => by
  unfold hpCmp at h
  cases hn : nmem j0 nl with
  | true =>
   rw [hn] at h
   simp only [] at h
   split at h
   ·rename_i r
    split at h
    ·rename_i hz
     split at h
     ·rename_i qs gs hrec
      injection h with h; injection h with e1 e2; subst e1; subst e2
      rcases List.mem_cons.1 hm with e | hm
      ·injection e with e1 e2; subst e1; subst e2
       exact .inl ⟨(nmem_iff _ _).1 hn, r, rfl, hps _ (List.mem_cons_self ..), by have := Nat.le_of_ble_eq_true hz; omega⟩
      ·exact hpCmp_parts l qs gs hrec (fun p hp => hps p (List.mem_cons_of_mem _ hp)) j c hm
     ·cases h
    ·cases h
   ·cases h
  | false =>
   rw [hn] at h
   simp only [] at h
   split at h
   ·rename_i i hg
    split at h
    ·rename_i d hd
     split at h
     ·rename_i p1 f1 hc
      split at h
      ·rename_i qs gs hrec
       injection h with h; injection h with e1 e2; subst e1; subst e2
       rcases List.mem_cons.1 hm with e | hm
       ·injection e with e1 e2; subst e1; subst e2
        refine .inr ⟨(fun hx => by rw [(nmem_iff _ _).2 hx] at hn; cases hn), i, d, p1, f1, hg, hd, hc, fun p hp => hps p (List.mem_append_left _ hp), fun id hid => List.mem_append_left _ hid⟩
       ·rcases hpCmp_parts l qs gs hrec (fun p hp => hps p (List.mem_append_right _ hp)) j c hm with hq | ⟨a0, a1, a2, a3, a4, a5, a6, a7, a8, a9⟩
        ·exact .inl hq
        ·exact .inr ⟨a0, a1, a2, a3, a4, a5, a6, a7, a8, fun id hid => List.mem_append_right _ (a9 id hid)⟩
      ·cases h
     ·cases h
    ·cases h
   ·cases h
theorem live_mem : ∀ (l : List (Nat × Ck)) (j i : Nat) (c : Ck), (j, c) ∈ l → g j = some i → i ∈ liveOf g l
 | [], j, i, c, hm, _ => by simp at hm
 | (j0, c0) :: l, j, i, c, hm, hg => by
  unfold liveOf
  rcases List.mem_cons.1 hm with e | hm
  ·injection e with e1 e2; subst e1
   rw [hg]
   exact List.mem_cons_self ..
  ·cases hg0 : g j0 with
   | none => exact live_mem l j i c hm hg
   | some i0 => exact List.mem_cons_of_mem _ (live_mem l j i c hm hg)
theorem live_inj : ∀ (l : List (Nat × Ck)), hnodup l = true → (liveOf g l).Nodup → ∀ j j' i c c', (j, c) ∈ l → (j', c') ∈ l → g j = some i → g j' = some i → j = j'
 | [], _, _, j, j', i, c, c', hm, _, _, _ => by simp at hm
 | (j0, c0) :: l, hn, hd, j, j', i, c, c', hm, hm', hg, hg' => by
  unfold hnodup at hn
  cases h0 : hget l j0 with
  | some _ => rw [h0] at hn; cases hn
  | none =>
   rw [h0] at hn
   simp only [] at hn
   unfold liveOf at hd
   rcases List.mem_cons.1 hm with e | hmA <;> rcases List.mem_cons.1 hm' with e' | hmB
   ·injection e with e1 _; injection e' with e2 _; rw [e1, e2]
   ·injection e with e1 _; subst e1
    rw [hg] at hd
    exact absurd (live_mem l j' i c' hmB hg') (List.nodup_cons.1 hd).1
   ·injection e' with e1 _; subst e1
    rw [hg'] at hd
    exact absurd (live_mem l j i c hmA hg) (List.nodup_cons.1 hd).1
   ·refine live_inj l hn ?_ j j' i c c' hmA hmB hg hg'
    cases hgg : g j0 with
    | none => rw [hgg] at hd; exact hd
    | some i0 => rw [hgg] at hd; exact (List.nodup_cons.1 hd).2
end
theorem sig_spec {σ : List (Nat × Nat)} {nl : List Nat} {nx j i : Nat} (h : sig σ nl nx j = some i) : j ∉ nl ∧ j < nx := by
 unfold sig at h
 cases hn : nmem j nl with
 | true => rw [hn] at h; cases h
 | false =>
  rw [hn] at h
  simp only [] at h
  cases hb : Nat.ble (j + 1) nx with
  | true => exact ⟨(fun hx => by rw [(nmem_iff _ _).2 hx] at hn; cases hn), by have := Nat.le_of_ble_eq_true hb; omega⟩
  | false => rw [hb] at h; cases h
theorem argsId_spec {g : Nat → Option Nat} : ∀ (n : Nat), argsId g n = true → ∀ i, i < n → g i = some i
 | 0, _, i, hi => by omega
 | n + 1, h, i, hi => by
  unfold argsId at h
  cases h1 : idOk g n n with
  | false => rw [h1] at h; cases h
  | true =>
   rw [h1] at h
   by_cases e : i = n
   ·subst e; exact idOk_spec h1
   ·exact argsId_spec n h i (by omega)
section
variable {C : Ctx} {PL : Nat → Option Pl} {hp hp2 : List (Nat × Ck)} {Fr : Nat → Prop} {w : World}
open Classical in
theorem tell {hpA : List (Nat × Ck)} (hpe : hpA = hp) (H : HSat C PL hp Fr w) (k : Nat) (hk : C.k = k) (σ : List (Nat × Nat)) (nl : List Nat) (nx : Nat) {ps : List Prop} {fs : List Nat} (hc : hpCmp hp (sig σ nl nx) nl hp2 = some (ps, fs)) (hps : ∀ p ∈ ps, p) (gs : List Nat) (hfs : ∀ id ∈ fs, id ∈ gs)
  (hdj : ndisj gs (liveOf (sig σ nl nx) hp2) = true) (hnd : nnodup (liveOf (sig σ nl nx) hp2) = true) (hhn : hnodup hp2 = true) (hargs : argsId (sig σ nl nx) k = true) :
  ∃ PL', HSat C PL' hp2 (fun i => nx ≤ i ∧ i ∉ nl) w ∧ Tell C PL PL' hp Fr w (Avo C PL' hp2) (sig σ nl nx) nl gs := by
 let szOf : Nat → Nat := fun j => match hget hp2 j with | some (.row r) => r.sz | _ => 0
 let PL' : Nat → Option Pl := fun j => if j ∈ nl then some ⟨none, 0, 0, szOf j⟩ else (sig σ nl nx j).bind PL
 have hpt := hpCmp_parts (g := sig σ nl nx) hp2 ps fs hc hps
 have hPsig : ∀ j i, sig σ nl nx j = some i → PL' j = PL i := fun j i e => by simp [PL', (sig_spec e).1, e]
 have own2 : ∀ b, Own PL' hp2 b → ∃ j i c d p, hget hp2 j = some c ∧ sig σ nl nx j = some i ∧ hget hp i = some d ∧ PL i = some p ∧ p.a = some ⟨b, 0, none⟩ ∧ PL' j = some p := by
  rintro b ⟨j, c, p, h1, h2, h3⟩
  rcases hpt j c (hget_mem h1) with ⟨hj, _⟩ | ⟨hj, i, d, qs, gs', e1, e2, _⟩
  ·simp only [PL', if_pos hj] at h2
   injection h2 with h2
   subst h2
   cases h3
  ·exact ⟨j, i, c, d, p, h1, e1, e2, by rw [← hPsig j i e1]; exact h2, h3, h2⟩
 have hA : ∀ b, b < w.heap.size → Avo C PL' hp2 b → Avo C PL hp b := by
  rintro b hb (hz | ho)
  ·exact .inl hz
  ·obtain ⟨j, i, c, d, p, h1, h2, h3, h4, h5, h6⟩ := own2 b ho
   exact .inr ⟨i, d, p, h3, h4, h5⟩
 have hfz : ∀ id ∈ gs, ∀ p b, PL id = some p → p.a = some ⟨b, 0, none⟩ → hget hp id ≠ none → ¬ Avo C PL' hp2 b := by
  intro id hid p b hp0 ha hlive hx
  obtain ⟨c0, hc0⟩ := Option.ne_none_iff_exists'.1 hlive
  rcases hx with hz | ho
  ·exact (H.own b ⟨id, c0, p, hc0, hp0, ha⟩).1 hz
  ·obtain ⟨j, i, c, d, p', h1, h2, h3, h4, h5, h6⟩ := own2 b ho
   have := H.dj id i c0 d p p' b hc0 h3 hp0 h4 ha h5
   subst this
   exact ndisj_spec _ _ hdj id hid (live_mem hp2 j id c (hget_mem h1) h2)
 have hnil : ∀ j, j ∈ nl → ∃ sz, PL' j = some ⟨none, 0, 0, sz⟩ := fun j hj => ⟨szOf j, by simp [PL', hj]⟩
 have hT : ∀ fz : List Nat, (∀ id ∈ fz, id ∈ gs) → Tell C PL PL' hp Fr w (Avo C PL' hp2) (sig σ nl nx) nl fz := fun fz hz =>
  ⟨H, hA, fun j i p e hp => by rw [hPsig j i e]; exact hp, hnil, fun id hid => hfz id (hz id hid)⟩
 refine ⟨PL', ⟨?_, ?_, ?_, H.os, H.tape, H.output, H.size, H.old, H.zlt, ?_, ?_⟩, hT gs (fun _ h => h)⟩
 ·intro j c hj
  rcases hpt j c (hget_mem hj) with ⟨hn, r, rfl, hr, hz⟩ | ⟨hn, i, d, qs, gs', e1, e2, e3, e4, e5⟩
  ·refine rp_nil (p := ⟨none, 0, 0, r.sz⟩) ?_ ?_ rfl hz rfl rfl (nilP_len hr)
   ·simp only [PL', if_pos hn, szOf, hj]
   ·exact (nilP_len hr).symm
  ·have hck := H.ck i d e2
   have T := hT gs' (fun id hid => hfs id (e5 id hid))
   have hij : ∀ p, PL i = some p → PL' j = some p := fun p hp => by rw [hPsig j i e1]; exact hp
   subst hpe
   cases d with
   | blk T0 l =>
    cases c with
    | row r => simp only [Ck.cmp] at e3; cases e3
    | blk U m =>
     simp only [Ck.cmp] at e3
     split at e3
     ·rename_i hk
      have := (nbeq _ _).1 hk
      subst this
      obtain ⟨p, b, cs, hp, ha, hh, hl, hd⟩ := hck
      have := cmpL_den l m qs gs' cs.toList e3 e4 T ⟨by simpa using hl, fun j a b => by have h0 : Den PL w (Avo C PL hpA) l[j] (cs[j]'(by simpa using b)) := (hd j a (by simpa using b)).1; simpa using h0⟩
      refine ⟨p, b, cs, hij _ hp, ha, hh, by have := this.1; simpa using this, fun k h1 h2 => ⟨?_, ?_⟩⟩
      ·have h0 := this.2 k h1 (by simpa using h2)
       show Den PL' w (Avo C PL' hp2) m[k] cs[k]
       simpa using h0
      have hk : k < l.length := by omega
      exact (hd k hk h2).2
     ·cases e3
   | row r =>
    cases c with
    | blk U m => simp only [Ck.cmp] at e3; cases e3
    | row t =>
     simp only [Ck.cmp] at e3
     split at e3
     ·rename_i ps' hq
      injection e3 with e3; injection e3 with e31 e32; subst e31
      have := rcmp_spec hq e4
      subst this
      exact ren_ck (ρ := fun _ => none) (fun _ _ _ h => by cases h) hij rfl (fun r A d => rsl_any hA _ _ d) hck
     ·cases e3
 ·intro i j c d p q b h1 h2 h3 h4 h5 h6
  obtain ⟨i', hi'⟩ : ∃ i', sig σ nl nx i = some i' ∧ ∃ d, hget hp i' = some d := by
   rcases hpt i c (hget_mem h1) with ⟨hn, _⟩ | ⟨hn, i0, d0, qs, gs', e1, e2, _⟩
   ·simp only [PL', if_pos hn] at h3
    injection h3 with h3; subst h3; cases h5
   ·exact ⟨i0, e1, d0, e2⟩
  obtain ⟨j', hj'⟩ : ∃ j', sig σ nl nx j = some j' ∧ ∃ d, hget hp j' = some d := by
   rcases hpt j d (hget_mem h2) with ⟨hn, _⟩ | ⟨hn, i0, d0, qs, gs', e1, e2, _⟩
   ·simp only [PL', if_pos hn] at h4
    injection h4 with h4; subst h4; cases h6
   ·exact ⟨i0, e1, d0, e2⟩
  obtain ⟨e1, d1, hd1⟩ := hi'
  obtain ⟨e2, d2, hd2⟩ := hj'
  rw [hPsig i i' e1] at h3
  rw [hPsig j j' e2] at h4
  have := H.dj i' j' d1 d2 p q b hd1 hd2 h3 h4 h5 h6
  subst this
  exact live_inj hp2 hhn (nnodup_spec _ hnd) i j i' c d (hget_mem h1) (hget_mem h2) e1 e2
 ·intro b hb
  obtain ⟨j, i, c, d, p, h1, h2, h3, h4, h5, h6⟩ := own2 b hb
  exact H.own b ⟨i, d, p, h3, h4, h5⟩
 ·rintro id ⟨h1, h2⟩
  simp only [PL', if_neg h2]
  cases hs : sig σ nl nx id with
  | none => rfl
  | some i => have := (sig_spec hs).2; omega
 ·intro id hid
  have := argsId_spec k hargs id (by omega)
  rw [hPsig id id this]
  exact H.arg id hid
end
theorem frCmp_spec {h : List (Nat × Ck)} {g : Nat → Option Nat} {nl : List Nat} : ∀ (xs ys : List (Option SV)) (ps : List Prop) (fs : List Nat), frCmp h g nl xs ys = some (ps, fs) → (∀ p ∈ ps, p) →
  xs.length = ys.length ∧ ∀ i v, fget ys i = some v → ∃ u qs gs, fget xs i = some u ∧ SV.cmp h g nl u v = some (qs, gs) ∧ (∀ p ∈ qs, p) ∧ ∀ id ∈ gs, id ∈ fs
 | [], ys, ps, fs, hc, hps => by
  cases ys with
  | nil => exact ⟨rfl, fun i v h => by simp [fget] at h⟩
  | cons y ys => simp only [frCmp] at hc; cases hc
 | x :: xs, ys, ps, fs, hc, hps => by
  cases ys with
  | nil => simp only [frCmp] at hc; cases hc
  | cons y ys =>
   cases y with
   | none =>
    simp only [frCmp] at hc
    obtain ⟨h1, h2⟩ := frCmp_spec xs ys ps fs hc hps
    refine ⟨by simp [h1], fun i v hi => ?_⟩
    cases i with
    | zero => simp [fget] at hi
    | succ i => exact h2 i v hi
   | some y =>
    cases x with
    | none => simp only [frCmp] at hc; cases hc
    | some x =>
     simp only [frCmp] at hc
     split at hc
     ·rename_i p1 f1 h1
      split at hc
      ·rename_i p2 f2 h2
       injection hc with hc; injection hc with e1 e2; subst e1; subst e2
       obtain ⟨h3, h4⟩ := frCmp_spec xs ys p2 f2 h2 (fun p hp => hps p (List.mem_append_right _ hp))
       refine ⟨by simp [h3], fun i v hi => ?_⟩
       cases i with
       | zero =>
        simp only [fget] at hi
        injection hi with hi; subst hi
        exact ⟨x, p1, f1, rfl, h1, fun p hp => hps p (List.mem_append_left _ hp), fun id hid => List.mem_append_left _ hid⟩
       | succ i =>
        obtain ⟨u, qs, gs, a1, a2, a3, a4⟩ := h4 i v hi
        exact ⟨u, qs, gs, a1, a2, a3, fun id hid => List.mem_append_right _ (a4 id hid)⟩
      ·cases hc
     ·cases hc
theorem le_of {C : Ctx} {k : Nat} (hk : C.k = k) (σ : List (Nat × Nat)) (nl : List Nat) {s t : St} (h : leP k σ nl s t) : Le C s t := by
 intro PL a w hS
 unfold leP at h
 split at h
 ·rename_i ps fs qs gs h1 h2
  split at h
  ·rename_i hc
   simp only [Bool.and_eq_true] at hc
   obtain ⟨⟨⟨⟨⟨c1, c2⟩, c3⟩, c4⟩, c5⟩, c6⟩ := hc
   have hall := allOb_spec h
   obtain ⟨PL', H', T⟩ := tell rfl hS.1.toHSat k hk σ nl t.nx h1 (fun p hp => hall p (List.mem_append_left _ hp)) (fs ++ gs) (fun id hid => List.mem_append_left _ hid) c1 c2 c3 c4
   obtain ⟨hl, hslot⟩ := frCmp_spec s.fr t.fr qs gs h2 (fun p hp => hall p (List.mem_append_right _ hp))
   have hkt := Nat.le_of_ble_eq_true c5
   refine ⟨PL', ⟨{ ck := H'.ck, dj := H'.dj, own := H'.own, os := H'.os, tape := H'.tape, output := H'.output, size := H'.size, old := H'.old, zlt := H'.zlt, arg := H'.arg, fr := ?_, len := hS.1.len.trans hl, def_ := hS.1.def_.mono (Nat.le_refl _) (fun _ _ _ => rfl) T.A, slot := ?_ }, by omega⟩⟩
   ·intro i hi
    exact H'.fr i ⟨hi, fun hx => by have := nlts_spec _ _ c6 i hx; exact absurd hi (by show ¬ t.nx ≤ i; omega)⟩
   ·intro i v hi
    obtain ⟨u, qs', gs', a1, a2, a3, a4⟩ := hslot i v hi
    exact cmp_den u v qs' gs' _ a2 a3 ⟨T.H, T.A, T.P, T.nil, fun id hid => T.fz id (List.mem_append_right _ (a4 id hid))⟩ (hS.1.slot i u a1)
  ·exact h.elim
 ·exact h.elim
end Go.Proofs.YtbkcmpggacbikaaDoor
end
section
/-
  A walk that reckons: functions.
-/
set_option linter.unusedVariables false
set_option linter.unusedSimpArgs false
namespace Go.Proofs.YtbkcmpggacbikaaDoor
open Go.RowKit
inductive RV where
 | t (n : Nat)
 | c (n sz : Nat) (agg : Bool)
def cR (P : Program) : ResultVar → Option RV
 | .tmp t => some (.t t)
 | .cell a t => match aggOf P t with
  | some true => some (.c a (P.cellsOf t) true)
  | some false => some (.c a 1 false)
  | none => none
def cRs (P : Program) : List ResultVar → Option (List RV)
 | [] => some []
 | r :: rs => do pure ((← cR P r) :: (← cRs P rs))
noncomputable def resV (s : St) : RV → Option SV
 | .t n => fget s.fr n
 | .c n sz agg => match fget s.fr n with
  | some p => match cellS s.hp p sz with
   | some l => match agg, l with
    | true, l => some (.agg l)
    | false, [v] => some v
    | _, _ => none
   | none => none
  | none => none
noncomputable def resVs (s : St) : List RV → Option (List SV)
 | [] => some []
 | r :: rs => match resV s r with
  | some v => match resVs s rs with | some vs => some (v :: vs) | none => none
  | none => none
def tupOf : List SV → SV
 | [v] => v
 | l => .tup l
mutual
def mtV : SV → SV → List (Nat × Nat) × List Nat
 | .ptr i _, .ptr j _ => ([(j, i)], [])
 | .ept i _ _, .ept j _ _ => ([(j, i)], [])
 | .esl i _, .esl j _ => ([(j, i)], [])
 | .sl i _ _, .sl j _ _ => ([(j, i)], [])
 | .wsl i, .wsl j => ([(j, i)], [])
 | .nsl, .wsl j => ([], [j])
 | .wsl i, .sl j _ _ => ([(j, i)], [])
 | .nsl, .sl j _ _ => ([], [j])
 | .agg l, .agg m => mtL l m
 | .tup l, .tup m => mtL l m
 | .fn _ l, .fn _ m => mtL l m
 | _, _ => ([], [])
def mtL : List SV → List SV → List (Nat × Nat) × List Nat
 | x :: xs, y :: ys => match mtV x y, mtL xs ys with | (a, b), (c, d) => (a ++ c, b ++ d)
 | _, _ => ([], [])
end
def mtF : List (Option SV) → List (Option SV) → List (Nat × Nat) × List Nat
 | some x :: xs, some y :: ys => match mtV x y, mtF xs ys with | (a, b), (c, d) => (a ++ c, b ++ d)
 | _ :: xs, _ :: ys => mtF xs ys
 | _, _ => ([], [])
def mtC (h g : List (Nat × Ck)) (i j : Nat) : List (Nat × Nat) × List Nat :=
 match hget h i, hget g j with
 | some (.blk _ l), some (.blk _ m) => mtL l m
 | _, _ => ([], [])
def mtW (h g : List (Nat × Ck)) : Nat → List (Nat × Nat) → List (Nat × Nat) → List Nat → List (Nat × Nat) × List Nat
 | 0, _, σ, nl => (σ, nl)
 | _, [], σ, nl => (σ, nl)
 | n + 1, (j, i) :: todo, σ, nl => match alook σ j with
  | some _ => mtW h g n todo σ nl
  | none => match mtC h g i j with | (a, b) => mtW h g n (todo ++ a) (σ ++ [(j, i)]) (nl ++ b)
def idPairs : Nat → List (Nat × Nat)
 | 0 => []
 | n + 1 => idPairs n ++ [(n, n)]
noncomputable def leA (k : Nat) (s t : St) : Prop :=
 match mtF s.fr t.fr with
 | (a, b) => match mtW s.hp t.hp 200 (idPairs k ++ a) [] b with
  | (σ, nl) => leP k σ nl s t
theorem le_auto {C : Ctx} {k : Nat} (hk : C.k = k) {s t : St} (h : leA k s t) : Le C s t := by
 unfold leA at h
 split at h
 split at h
 exact le_of hk _ _ h
noncomputable def finP1 (k : Nat) (σ : List (Nat × Nat)) (nl : List Nat) (nx : Nat) (s : St) (v u : SV) (hp : List (Nat × Ck)) : Prop :=
 match hpCmp s.hp (sig σ nl nx) nl hp, SV.cmp s.hp (sig σ nl nx) nl v u with
 | some (ps, fs), some (qs, gs) => match ndisj (fs ++ gs) (liveOf (sig σ nl nx) hp) && nnodup (liveOf (sig σ nl nx) hp) && hnodup hp && argsId (sig σ nl nx) k with
  | true => allOb (ps ++ qs)
  | false => False
 | _, _ => False
noncomputable def finV (k : Nat) (c0 : List (Nat × Ck)) (s : St) (v u : SV) (post : List PostC) : Prop :=
 match mtV v u with
 | (a, b) => match mtW s.hp (hupd (pcan 0 post) c0) 200 (idPairs k ++ a) [] b with
  | (σ, nl) => finP1 k σ nl (k + post.length) s v u (hupd (pcan 0 post) c0)
noncomputable def finO (k : Nat) (c0 : List (Nat × Ck)) (s : St) (v : SV) : COut → Prop
 | .one u post => finV k c0 s v u post
 | .many X Pr u post => ∃ x : X, Pr x ∧ finV k c0 s v (u x) (post x)
noncomputable def fin (k : Nat) (c0 : List (Nat × Ck)) (rv : List RV) (o : COut) (s : St) : Prop :=
 match resVs s rv with
 | some l => finO k c0 s (tupOf l) o
 | none => False
section
variable {P : Program} {C : Ctx} {PL : Nat → Option Pl} {s : St} {Fr : Nat → Prop} {a : Act} {w : World}
theorem finV_spec {k : Nat} {c0 : List (Nat × Ck)} {v u : SV} {post : List PostC} {x : Value} (hk : C.k = k) (h : finV k c0 s v u post) (hS : HSat C PL s.hp Fr w) (d : Den PL w (Avo C PL s.hp) v x) :
  ∃ PL', HSat C PL' (hupd (pcan 0 post) c0) (fun _ => False) w ∧ Den PL' w (Avo C PL' (hupd (pcan 0 post) c0)) u x := by
 unfold finV at h
 split at h
 split at h
 rename_i σ nl _
 unfold finP1 at h
 split at h
 ·rename_i ps fs qs gs h1 h2
  split at h
  ·rename_i hc
   simp only [Bool.and_eq_true] at hc
   obtain ⟨⟨⟨c1, c2⟩, c3⟩, c4⟩ := hc
   have hall := allOb_spec h
   obtain ⟨PL', H', T⟩ := tell rfl hS k hk σ nl _ h1 (fun p hp => hall p (List.mem_append_left _ hp)) (fs ++ gs) (fun id hid => List.mem_append_left _ hid) c1 c2 c3 c4
   refine ⟨PL', { H' with fr := fun _ h => h.elim }, ?_⟩
   exact cmp_den v u qs gs x h2 (fun p hp => hall p (List.mem_append_right _ hp)) ⟨T.H, T.A, T.P, T.nil, fun id hid => T.fz id (List.mem_append_right _ hid)⟩ d
  ·exact h.elim
 ·exact h.elim
def resSem (tmps : Array Value) : ResultVar → Sem Value
 | .tmp t => pure (tmps.getD t undef)
 | .cell a t => do loadVar t (← asAddr (tmps.getD a undef))
theorem resSem_run (h : Sat C PL s Fr a w) {r : ResultVar} {q : RV} {v : SV} (hr : cR P r = some q) (hv : resV s q = some v) : ∃ x, (resSem a.tmps r).run P w = .ok x w ∧ Den PL w (Avo C PL s.hp) v x := by
 cases r with
 | tmp t =>
  simp only [cR] at hr; injection hr with hr; subst hr
  exact ⟨_, rfl, h.slot t v hv⟩
 | cell n t =>
  simp only [cR] at hr
  have hinfo : ∀ b, aggOf P t = some b → ∃ i, P.info? t = some i := by
   intro b ht
   unfold aggOf Program.underlying at ht
   cases hi : P.info? t with
   | none => simp [hi] at ht
   | some i => exact ⟨i, rfl⟩
  split at hr
  ·rename_i ht
   injection hr with hr; subst hr
   simp only [resV] at hv
   split at hv
   ·rename_i p hp
    split at hv
    ·rename_i l hl
     injection hv with hv; subst hv
     obtain ⟨ad, cs, e, hl1, hl2, hcell, hden, h1c⟩ := cell_den h hl (h.slot n p hp)
     obtain ⟨i, hi⟩ := hinfo _ ht
     have hsz : i.size = cs.length := by rw [hl1]; simp [Program.cellsOf, hi]
     have hload : (loadCells ad i.size).run P w = .ok cs.toArray w := by rw [hsz]; exact run_loadCells_list (P := P) w ad cs hcell
     refine ⟨.agg cs.toArray, ?_, .agg l cs (by omega) hden h1c⟩
     simp only [resSem]
     rw [e]
     simp [asAddr, loadVar, run_isAgg ht, run_sizeOf hi, hload]
    ·cases hv
   ·cases hv
  ·rename_i ht
   injection hr with hr; subst hr
   simp only [resV] at hv
   split at hv
   ·rename_i p hp
    split at hv
    ·rename_i l hl
     split at hv
     ·rename_i hx; exact Bool.noConfusion hx
     ·injection hv with hv; subst hv
      obtain ⟨ad, cs, e, hl1, _, hcell, hden, _⟩ := cell_den h hl (h.slot n p hp)
      obtain ⟨c, rfl⟩ : ∃ c, cs = [c] := List.length_eq_one_iff.1 hl1
      have h0 := hcell 0 c rfl
      rw [add_zero'] at h0
      refine ⟨c, ?_, hden 0 (by simp) (by simp)⟩
      simp only [resSem]
      rw [e]
      simp [asAddr, loadVar, run_isAgg ht, h0]
     ·cases hv
    ·cases hv
   ·cases hv
  ·cases hr
theorem resSems_run (h : Sat C PL s Fr a w) : ∀ (rs : List ResultVar) (qs : List RV) (vs : List SV), cRs P rs = some qs → resVs s qs = some vs →
  ∃ xs, (rs.mapM (resSem a.tmps)).run P w = .ok xs w ∧ DensA PL w (Avo C PL s.hp) vs xs
 | [], qs, vs, hr, hv => by
  simp only [cRs] at hr; injection hr with hr; subst hr
  simp only [resVs] at hv; injection hv with hv; subst hv
  exact ⟨[], by simp, rfl, fun j h1 _ => absurd h1 (by simp)⟩
 | r :: rs, qs, vs, hr, hv => by
  simp only [cRs, Option.bind_eq_bind, Option.bind_eq_some_iff, Option.pure_def, Option.some.injEq] at hr
  obtain ⟨q, hq, qs', hqs, rfl⟩ := hr
  unfold resVs at hv
  split at hv
  ·rename_i v h1
   split at hv
   ·rename_i vs' h2
    injection hv with hv; subst hv
    obtain ⟨x, e1, d1⟩ := resSem_run h hq h1
    obtain ⟨xs, e2, d2⟩ := resSems_run h rs qs' vs' hqs h2
    refine ⟨x :: xs, ?_, by simp [d2.1], ?_⟩
    ·simp [List.mapM_cons, e1, e2]
    ·intro j a b
     cases j with
     | zero => exact d1
     | succ j => exact d2.2 j (by simpa using a) (by simpa using b)
   ·cases hv
  ·cases hv
theorem results_run (h : Sat C PL s Fr a w) {fn : Func} {qs : List RV} {vs : List SV} (hr : cRs P fn.results.toList = some qs) (hv : resVs s qs = some vs) : ∃ x, (results fn a.tmps).run P w = .ok x w ∧ Den PL w (Avo C PL s.hp) (tupOf vs) x := by
 obtain ⟨xs, e, d⟩ := resSems_run (P := P) h fn.results.toList qs vs hr hv
 have e0 : (fn.results.mapM (resSem a.tmps)).run P w = .ok xs.toArray w := by
  rw [Array.mapM_eq_mapM_toList]
  simp [e]
 have e1 : results fn a.tmps = (do let vs ← fn.results.mapM (resSem a.tmps); pure (if h : vs.size = 1 then vs[0] else .tuple vs)) := rfl
 rw [e1]
 by_cases h1 : xs.length = 1
 ·obtain ⟨x, rfl⟩ := List.length_eq_one_iff.1 h1
  obtain ⟨v, rfl⟩ : ∃ v, vs = [v] := List.length_eq_one_iff.1 (by have := d.1; simpa using this.symm)
  exact ⟨x, by simp [e0], d.2 0 (by simp) (by simp)⟩
 ·refine ⟨.tuple xs.toArray, by simp [e0, h1], ?_⟩
  have : tupOf vs = .tup vs := by
   unfold tupOf
   split
   ·rename_i v
    exact absurd d.1 (by simp; omega)
   ·rfl
  rw [this]
  exact .tup vs xs d.1 d.2
end
def st0 (cargs : List SV) (ccks : List Ck) (n : Nat) : St := ⟨cargs.map some ++ List.replicate (n - cargs.length) none, canon 0 ccks, ccks.length⟩
def FnVC (P : Program) (Γ : FuncId → Option Con) (ic : IC) (rv : List RV) (n : Nat) (con : Con) : Prop :=
 ∀ cargs ccks ce, con.f cargs ccks = some ce → (∀ p ∈ ce.ob, p) → ∀ C : Ctx, C.k = ccks.length →
  vc Γ (LoopOK P C Γ) ic (st0 cargs ccks n) fun e s => match e with
   | .ret => fin ccks.length (canon 0 ccks) rv ce.out s
   | .nxt => fin ccks.length (canon 0 ccks) rv ce.out s
   | .exit _ => False
theorem fget_st0 {cargs : List SV} {ccks : List Ck} {n i : Nat} {v : SV} (h : fget (st0 cargs ccks n).fr i = some v) : ∃ hi : i < cargs.length, cargs[i] = v := by
 have key : ∀ (l : List SV) (m i : Nat), fget (l.map some ++ List.replicate m none) i = some v → ∃ hi : i < l.length, l[i] = v := by
  intro l
  induction l with
  | nil =>
   intro m
   induction m with
   | zero => intro i h; simp [fget] at h
   | succ m ih =>
    intro i h
    cases i with
    | zero => simp [List.replicate_succ, fget] at h
    | succ i =>
     have := ih i (by simpa [List.replicate_succ, fget] using h)
     obtain ⟨hi, _⟩ := this
     exact absurd hi (by simp)
  | cons x l ih =>
   intro m i h
   cases i with
   | zero => simp only [List.map_cons, List.cons_append, fget] at h; injection h with h; exact ⟨by simp, h⟩
   | succ i =>
    obtain ⟨hi, e⟩ := ih m i h
    exact ⟨by simpa using hi, by simpa using e⟩
 exact key cargs _ i h
def NC (o : Obj) : Prop := o.isCells = false
theorem putObj_get {w : World} {D b : Nat} {o : Obj} (h : b ≠ D) : (w.putObj D o).heap[b]? = w.heap[b]? := World.putObj_heap_other h
theorem cell_nc {w : World} {D : Nat} {o0 : Obj} (h : w.heap[D]? = some o0) (hc : o0.isCells = false) {ad : Addr} {v : Value} (hv : w.cell? ad = some v) : ad.block ≠ D := by
 intro e
 obtain ⟨o, h1, h2⟩ := cells_of_cell hv
 rw [e, h] at h1
 injection h1 with h1
 subst h1
 rw [hc] at h2
 cases h2
theorem Den.nc {PL : Nat → Option Pl} {w : World} {Av : Nat → Prop} {s : SV} {v : Value} (h : Den PL w Av s v) {D : Nat} {o0 o : Obj} (hD : w.heap[D]? = some o0) (hc : o0.isCells = false) : Den PL (w.putObj D o) Av s v := by
 have hsz : (w.putObj D o).heap.size = w.heap.size := by simp
 induction h with
 | v x => exact .v x
 | str l => exact .str l
 | ptr id off b p h ha => exact .ptr id off b p h ha
 | ept id i off b p h ha hi => exact .ept id i off b p h ha hi
 | esl id i b p h ha hi => exact .esl id i b p h ha hi
 | rpt r i off A cap h hi ih => exact .rpt r i off A cap ih hi
 | sl id lo len p A cap h hl hc hn hA => exact .sl id lo len p A cap h hl hc hn hA
 | wsl id p h => exact .wsl id p h
 | nsl => exact .nsl
 | agg l cs hl h h1 ih => exact .agg l cs hl (fun j a b => ih j a b) h1
 | tup l cs hl h ih => exact .tup l cs hl (fun j a b => ih j a b)
 | fn f l cs hl h ih => exact .fn f l cs hl (fun j a b => ih j a b)
 | rsl r A cap u hcap hsome hcell hden ih =>
  refine .rsl r A cap u hcap ?_ ?_ (fun i j hi hj => ih i j hi hj)
  ·intro h0
   obtain ⟨ad, e, hl, hv⟩ := hsome h0
   exact ⟨ad, e, by omega, hv⟩
  ·intro i j ad e hi hj
   obtain ⟨h1, h2⟩ := hcell i j ad e hi hj
   refine ⟨?_, h2⟩
   rw [← h1]
   exact World.cell?_of_block (putObj_get (cell_nc hD hc h1))
theorem CkOk.nc {PL : Nat → Option Pl} {w : World} {Av : Nat → Prop} {id : Nat} {c : Ck} (hck : CkOk PL w Av id c) {D : Nat} {o0 o : Obj} (hD : w.heap[D]? = some o0) (hc : o0.isCells = false) : CkOk PL (w.putObj D o) Av id c := by
 have hb : ∀ {b : Nat} {cs : Array Value} {T z}, w.heap[b]? = some (.cells cs T z) → (w.putObj D o).heap[b]? = some (.cells cs T z) := by
  intro b cs T z h
  rw [putObj_get]
  ·exact h
  ·intro e; subst e; rw [h] at hD; injection hD with hD; subst hD; cases hc
 cases c with
 | blk T vs =>
  obtain ⟨p, b, cs, h1, h2, h3, h4, h5⟩ := hck
  exact ⟨p, b, cs, h1, h2, hb h3, h4, fun j a1 a2 => ⟨(h5 j a1 a2).1.nc hD hc, (h5 j a1 a2).2⟩⟩
 | row r =>
  obtain ⟨p, h1, h2, h3, h4, h5⟩ := hck
  refine ⟨p, h1, h2, h3, h4, ?_⟩
  rcases h5 with h5 | ⟨b, cs, g1, g2, g3, g4, g5, g6⟩
  ·exact .inl h5
  ·exact .inr ⟨b, cs, g1, hb g2, g3, g4, g5, fun i j a1 a2 a3 => by
    obtain ⟨u, e, d, o⟩ := g6 i j a1 a2 a3
    exact ⟨u, e, d.nc hD hc, o⟩⟩
theorem HSat.nc {C : Ctx} {PL : Nat → Option Pl} {hp : List (Nat × Ck)} {Fr : Nat → Prop} {w : World} (H : HSat C PL hp Fr w) {D : Nat} {o0 o : Obj} (hD : w.heap[D]? = some o0) (hc : o0.isCells = false) (h0 : C.w0.heap.size ≤ D) : HSat C PL hp Fr (w.putObj D o) := by
 have hsz : (w.putObj D o).heap.size = w.heap.size := by simp
 refine ⟨fun id c hg => (H.ck id c hg).nc hD hc, H.dj, H.own, H.os, H.tape, H.output, by rw [hsz]; exact H.size, ?_, H.zlt, H.fr, H.arg⟩
 intro b hb' ho
 rw [putObj_get (by omega)]
 exact H.old b hb' ho
theorem leaves_marks {P : Program} {fn : Func} {R : Ending → World → Prop} {C : Ctx} {PL : Nat → Option Pl} {s : St} {tm : Array Value} (hC : C.w0.heap.size ≤ C.n0) (hend : ∀ (a' : Act) (w' : World), a'.tmps = tm → SatN C PL s a' w' → ∃ v, (results fn a'.tmps).run P w' = .ok v w' ∧ R (.returned v) w') :
  ∀ (ds : List Deferred) (a : Act) (w : World), a.tmps = tm → a.defers = ds → SatN C PL s a w → LeavesInM Fence.wide 0 P fn a.tmps R ds .returning w
 | [], a, w, ht, hd, hS => by
  obtain ⟨v, h1, h2⟩ := hend a w ht hS
  exact ⟨v, h1, h2⟩
 | d :: ds, a, w, ht, hd, hS => by
  obtain ⟨hn0, l, e, hn, hl⟩ := hS.1.def_
  rw [hd] at e
  cases l with
  | nil => cases e
  | cons D l =>
   simp only [List.map_cons, List.cons.injEq] at e
   obtain ⟨rfl, rfl⟩ := e
   obtain ⟨h1, h2, h3⟩ := hl D (List.mem_cons_self ..)
   refine ⟨by simp, .inl ⟨D, w.putObj D (.deferred none), rfl, run_takeDeferred h1, ?_⟩⟩
   have := leaves_marks hC hend (l.map Mark) { a with defers := l.map Mark } (w.putObj D (.deferred none)) ht rfl ⟨{ hS.1.toHSat.nc h1 rfl (Nat.le_trans hC h3) with len := hS.1.len, def_ := ⟨by rw [show (w.putObj D (.deferred none)).heap.size = w.heap.size by simp]; exact hn0, l, rfl, (List.nodup_cons.1 hn).2, fun D' hD' => ?_⟩, slot := fun i v hv => (hS.1.slot i v hv).nc h1 rfl }, hS.2⟩
   ·exact this
   ·obtain ⟨g1, g2, g3⟩ := hl D' (List.mem_cons_of_mem _ hD')
    refine ⟨?_, g2, g3⟩
    rw [putObj_get]
    ·exact g1
    ·intro e; subst e; exact (List.nodup_cons.1 hn).1 hD'
theorem FnOK.of_vc {P : Program} {Γ : FuncId → Option Con} (T : Tab P Γ) (hD : ∀ C, DrawOK P C Γ) {f : FuncId} {fn : Func} {code : Code} {ic : IC} {rv : List RV} {n : Nat} {con : Con} (hf : P.funcs[f]? = some fn) (hb : fn.body = some code) (hc : comp P code = some ic)
  (hr : cRs P fn.results.toList = some rv) (hn : fn.ntmps = n) (h : FnVC P Γ ic rv n con) : FnOK P f con := by
 intro cargs ccks ce hce hob Z PL w args H d
 subst hn
 have hal := d.1
 refine callsIn_wide.1 (callsIn_of_wp_marks (F := Fence.wide) (n := 0) hf hb trivial (wpIn_wide.2 ?_))
 have hS : SatN (ctxOf w Z PL ccks) PL (st0 cargs ccks fn.ntmps) { tmps := args.toArray ++ Array.replicate (fn.ntmps - args.toArray.size) undef, defers := [] } w := by
  refine ⟨{ ck := H.ck, dj := H.dj, own := H.own, os := H.os, tape := H.tape, output := H.output, size := H.size, old := H.old, zlt := H.zlt, arg := H.arg, fr := H.fr, len := ?_, def_ := .nil (Nat.le_refl _), slot := ?_ }, Nat.le_refl _⟩
  ·simp [st0, hal]
  ·intro i v hi
   obtain ⟨h1, rfl⟩ := fget_st0 hi
   have := d.2 i h1 (by omega)
   have h2 : i < args.length := by omega
   show Den PL w (Avo (ctxOf w Z PL ccks) PL (canon 0 ccks)) _ _
   have e : (args.toArray ++ Array.replicate (fn.ntmps - args.toArray.size) undef).getD i undef = args[i] := by
    simp [Array.getD, Array.getElem_append, h2]
    omega
   rw [e]
   exact this
 refine vc_sound T (hD _) code ic _ _ PL _ w _ hc (h cargs ccks ce hce hob (ctxOf w Z PL ccks) rfl) hS ?_
 have key : ∀ s' PL' a' w', fin ccks.length (canon 0 ccks) rv ce.out s' → SatN (ctxOf w Z PL ccks) PL' s' a' w' → ∃ v, (results fn a'.tmps).run P w' = .ok v w' ∧ ∃ u PL', Ending.returned v = .returned u ∧ ce.out.holds fun v post =>
   HSat (ctxOf w Z PL ccks) PL' (hupd (pcan 0 post) (canon 0 ccks)) (fun _ => False) w' ∧ Den PL' w' (Avo (ctxOf w Z PL ccks) PL' (hupd (pcan 0 post) (canon 0 ccks))) v u := by
  intro s' PL' a' w' hK hS'
  unfold fin at hK
  split at hK
  ·rename_i vs hvs
   obtain ⟨x, e, dx⟩ := results_run hS'.1 hr hvs
   refine ⟨x, e, ?_⟩
   revert hK
   generalize ce.out = co
   intro hK
   cases co
   ·simp only [finO] at hK
    simp only [COut.holds]
    obtain ⟨PL2, h1, h2⟩ := finV_spec (C := ctxOf w Z PL ccks) rfl hK hS'.1.toHSat dx
    exact ⟨x, PL2, rfl, h1, h2⟩
   ·simp only [finO] at hK
    simp only [COut.holds]
    obtain ⟨y, hy, hK⟩ := hK
    obtain ⟨PL2, h1, h2⟩ := finV_spec (C := ctxOf w Z PL ccks) rfl hK hS'.1.toHSat dx
    exact ⟨x, PL2, rfl, y, hy, h1, h2⟩
  ·exact hK.elim
 intro e s' PL' a' w' hK hS'
 cases e with
 | nxt => exact leaves_marks (tm := a'.tmps) (Nat.le_refl _) (fun a2 w2 e2 hS2 => key s' PL' a2 w2 hK hS2) _ a' w' rfl rfl hS'
 | ret => exact leaves_marks (tm := a'.tmps) (Nat.le_refl _) (fun a2 w2 e2 hS2 => key s' PL' a2 w2 hK hS2) _ a' w' rfl rfl hS'
 | exit _ => exact hK.elim
def compF (P : Program) (fn : Func) : Option (IC × List RV × Nat) := do
 let c ← fn.body
 let ic ← comp P c
 let rv ← cRs P fn.results.toList
 pure (ic, rv, fn.ntmps)
theorem FnOK.of_comp {P : Program} {Γ : FuncId → Option Con} (T : Tab P Γ) (hD : ∀ C, DrawOK P C Γ) {f : FuncId} {fn : Func} {ic : IC} {rv : List RV} {n : Nat} {con : Con} (hf : P.funcs[f]? = some fn) (hc : compF P fn = some (ic, rv, n))
  (h : FnVC P Γ ic rv n con) : FnOK P f con := by
 simp only [compF, Option.bind_eq_bind, Option.bind_eq_some_iff, Option.pure_def, Option.some.injEq, Prod.mk.injEq] at hc
 obtain ⟨c, h1, ic', h2, rv', h3, rfl, rfl, h4⟩ := hc
 exact FnOK.of_vc T hD hf h1 h2 h3 h4 h
end Go.Proofs.YtbkcmpggacbikaaDoor
end
