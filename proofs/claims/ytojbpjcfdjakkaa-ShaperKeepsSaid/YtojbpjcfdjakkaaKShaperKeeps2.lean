/-
  Texts that the row of this claim stands on, one behind the other.
-/
import Derived.Laws.StructEq
import Derived.MapKept
import Derived.Test.YtojbpjcfdjakkaaKShaperKeeps1
section
set_option linter.unusedVariables false
set_option linter.unusedSimpArgs false
namespace Go.Proofs.Ytojbpjcfdjakkaa
open Go.RowKit
section
variable {P : Program} {C : Ctx} {PL : Nat → Option Pl} {s : St} {Fr : Nat → Prop} {a : Act} {w : World} {o : Oper} {Q : Exit → Act → World → Prop}
theorem Zdm (h : Sat C PL s Fr a w) {id : Nat} {c0 c : Ck} (hc0 : hget s.hp id = some c0) (hcc : ∀ q b, c.has q b → c0.has q b) (hok : Tr C PL s.hp w PL (hupd [(id, some c)] s.hp) w → CkOk PL w (Avo C PL (hupd [(id, some c)] s.hp)) id c) {y : Value} {v : SV}
  (hr : (execOp a.eval o).run P w = .ok (.value y) w) (hv : Den PL w (Avo C PL (hupd [(id, some c)] s.hp)) v y) {ob : List Prop} {rd wr : List Nat} :
  o.wp P a w (Eff.post ⟨ob, rd, wr, .one v [(id, some c)]⟩ C s o.dst Fr) Q := by
 have m := Mv.write h.toHSat id c0 c hc0 hcc w rfl rfl rfl rfl (fun k hk => rfl)
 have t := h.toHSat.tr m
 have H := h.toHSat.mv m (fun i c' hu => by
  obtain ⟨rfl, hc⟩ := Zs hu
  injection hc with hc
  subst hc
  exact hok t)
 exact Zx hr ⟨PL, h.mv H t o.dst _ _ fun u hu => by injection hu with hu; subst hu; exact hv⟩
theorem Zdc {t st ty e : TypeId} {i : TypeInfo} (ht : P.underlying t = some (.slice e)) (hi : P.info? e = some i) (A B : Option Addr) (n m c1 c2 : Nat) (news : List Value) (hnl : news.length = (min m n) * i.size) (hB : 0 < m → B.isSome = true)
  (hnews : ∀ ad, B = some ad → ∀ j u, news[j]? = some u → w.cell? (ad.add j) = some u) (w' : World) (hst : ∀ b, A = some b → (storeCells b news).run P w = .ok () w') (hnone : A = none → w' = w) :
  (Builtin.copy_ #[t, st] ty #[.slice A n c1, .slice B m c2]).run P w = .ok (.int .i64 ((min m n : Nat) : Int)) w' := by
 have hf : (Builtin.firstCells i.size (min m n) (.slice B m c2)).run P w = .ok news.toArray w := by
  cases B with
  | none =>
   have hm : m = 0 := by
    by_cases h : 0 < m
    ·simpa using hB h
    omega
   subst hm
   have : news = [] := List.eq_nil_of_length_eq_zero (by rw [hnl]; simp)
   subst this
   simp [Builtin.firstCells]
  | some ad =>
   have := run_loadCells_list (P := P) w ad news (hnews ad rfl)
   rw [hnl] at this
   simp [Builtin.firstCells, this]
 have hmin : Nat.min m n = min m n := rfl
 cases A with
 | none =>
  have := hnone rfl
  subst this
  simp [Builtin.copy_, run_underlying ht, Builtin.lenOf, Zn hi, hmin, hf, goInt]
 | some b =>
  have := hst b rfl
  simp [Builtin.copy_, run_underlying ht, Builtin.lenOf, Zn hi, hmin, hf, goInt, this]
structure Cpy (P : Program) (o : Oper) (e : TypeId) (x y : Operand) : Prop where
 c : ∃ c t, o.op = .call c ∧ c.callee = .builtin .copy ∧ c.args.toList = [x, y] ∧ c.argTypes[0]? = some t ∧ P.underlying t = some (.slice e)
theorem Zls (h : Sat C PL s Fr a w) {e : TypeId} {x y : Operand} (hC : Cpy P o e x y) (hz : P.cellsOf e ≠ 0) {x' y' : Opnd} (hx : cX x = some x') (hy : cX y = some y') {v : SV}
  (h1 : s.ev x' = some v) (hv : (∃ id, v = .wsl id) ∨ ∃ id lo n, v = .sl id lo n) (h2 : s.ev y' = some .nsl) {ob : List Prop} {rd : List Nat} :
  o.wp P a w (Eff.post ⟨ob, rd, [], .one (.v (.int .i64 0)) []⟩ C s o.dst Fr) Q := by
 have d1 := Z4 h hx h1
 have d2 := Z4 h hy h2
 obtain ⟨i, hi, hisz⟩ := Z19 hz
 obtain ⟨c, t, ho, hc, ha, hat, ht⟩ := hC.c
 have hyv : a.eval y = .slice none 0 0 := by generalize a.eval y = yv at d2; cases d2; rfl
 obtain ⟨A, n, cap, hxv⟩ : ∃ A n cap, a.eval x = .slice A n cap := by
  rcases hv with ⟨id, rfl⟩ | ⟨id, lo, n, rfl⟩
  ·generalize a.eval x = xv at d1; cases d1; exact ⟨_, _, _, rfl⟩
  generalize a.eval x = xv at d1; cases d1; exact ⟨_, _, _, rfl⟩
 refine Z7 h (x := .int .i64 0) ?_ (.v _)
 rw [Z2r ho hc ha _ rfl]
 let st : TypeId := 0
 have := Zdc (P := P) (w := w) (st := st) (ty := o.type) ht hi A none n 0 cap 0 [] (by simp) (fun h => absurd h (by simp)) (fun ad e => by cases e) w (fun b _ => by simp [storeCells]) (fun _ => rfl)
 have hat' : c.argTypes.toList[0]? = some t := by simpa using hat
 have e : Builtin.copy_ c.argTypes o.type #[.slice A n cap, .slice none 0 0] = Builtin.copy_ #[t, st] o.type #[.slice A n cap, .slice none 0 0] := by
  unfold Builtin.copy_
  rw [hat]
  rfl
 simp [builtin, hxv, hyv, e, this]
theorem Zlr (h : Sat C PL s Fr a w) {e : TypeId} {x y : Operand} (hC : Cpy P o e x y) (hz : P.cellsOf e ≠ 0) {x' y' : Opnd} (hx : cX x = some x') (hy : cX y = some y') {v z : SV} {id lo n : Nat} {p q r : R}
  (h1 : s.ev x' = some v) (hv : (v = .wsl id ∧ lo = 0 ∧ n = rlen p) ∨ v = .sl id lo n) (hp : rowOf s.hp id = some p) (hps : p.sz = P.cellsOf e) (h2 : s.ev y' = some z) (hq : rowS s.hp z = some q)
  (hr : p.splice lo (q.sub 0 (min n (rlen q))) = some r) {ob : List Prop} {rd wr : List Nat} :
  o.wp P a w (Eff.post ⟨ob, rd, wr, .one (.v (.int .i64 ((min n (rlen q) : Nat) : Int))) [(id, some (.row r))]⟩ C s o.dst Fr) Q := by
 have d1 := Z4 h hx h1
 have d2 := Z4 h hy h2
 obtain ⟨i, hi, hisz⟩ := Z19 hz
 obtain ⟨c, t, ho, hc, ha, hat, ht⟩ := hC.c
 let st : TypeId := 0
 obtain ⟨B, c2, hyv, hc2, hBs, hcells⟩ := Zd9 h.toHSat hq d2
 have hm1 : min n (rlen q) ≤ rlen q := Nat.min_le_right _ _
 have hm2 : min n (rlen q) ≤ n := Nat.min_le_left _ _
 obtain ⟨news, hnl, hnc, hn1, hnd⟩ := hcells (min n (rlen q)) hm1
 generalize hmm : min n (rlen q) = m at *
 have hsl : rlen (q.sub 0 m) = m := R.sub_len q 0 m (by omega)
 obtain ⟨pl, hpl, l1, l2, l3, hrow⟩ := Z14 (h.ck id _ (Zf hp))
 have hfit : lo + n ≤ rlen p := by
  rcases hv with ⟨_, rfl, rfl⟩ | rfl
  ·omega
  generalize a.eval x = xv at d1
  cases d1 with
  | sl _ _ _ p' A cap hp' hl hc' hn hA =>
   rw [hpl] at hp'; injection hp' with hp'; subst hp'
   omega
 obtain ⟨s1, s2, s3, s4, s5, s6⟩ := Zwi hr (by omega)
 have hqsz : q.sz = p.sz := by rw [R.sub_sz] at s2; exact s2
 have hnl' : news.length = (min (rlen q) n) * i.size := by rw [hnl, Nat.min_comm, hmm, hqsz, hps, hisz]
 have hnrp : RP PL w (Avo C PL s.hp) (q.sub 0 m) news := fun k j hk hj => by
  have hk' : k < m := by omega
  have e := R.sub_elem q 0 m k hk'
  rw [Nat.zero_add] at e
  have hj2 : j < (q.elem k).length := by rw [← e]; exact hj
  obtain ⟨u, e1, e2⟩ := hnd k j hk' hj2
  exact ⟨u, by rw [R.sub_sz]; exact e1, Z1t e hj hj2 e2, hn1 u (List.mem_of_getElem? e1)⟩
 have hval : ((min (rlen q) n : Nat) : Int) = (m : Int) := by rw [Nat.min_comm, hmm]
 obtain ⟨A, cap, hxv, hAcase⟩ : ∃ A cap, a.eval x = .slice A n cap ∧ ((A = none ∧ pl.a = none) ∨ ∃ b, pl.a = some ⟨b, 0, none⟩ ∧ A.isSome = true ∧ (n ≠ 0 → A = some ⟨b, lo * p.sz, none⟩)) := by
  rcases hv with ⟨rfl, rfl, rfl⟩ | rfl
  ·generalize hxe : a.eval x = xv at d1
   cases d1 with
   | wsl _ p' hp' =>
    rw [hpl] at hp'; injection hp' with hp'; subst hp'
    refine ⟨pl.a, pl.cap, by rw [l1], ?_⟩
    rcases hrow with ⟨hn, _⟩ | ⟨b, cs, g1, _⟩
    ·exact .inl ⟨hn, hn⟩
    exact .inr ⟨b, g1, by simp [g1], fun _ => by rw [g1]; simp⟩
  generalize hxe : a.eval x = xv at d1
  cases d1 with
  | sl _ _ _ p' A cap hp' hl hc' hn hA =>
   rw [hpl] at hp'; injection hp' with hp'; subst hp'
   refine ⟨A, cap, rfl, ?_⟩
   rcases hrow with ⟨hn', _⟩ | ⟨b, cs, g1, _⟩
   ·exact .inl ⟨hn.2 hn', hn'⟩
   refine .inr ⟨b, g1, ?_, fun h0 => ?_⟩
   ·cases A with
    | none => have := hn.1 rfl; rw [g1] at this; cases this
    | some _ => rfl
   rw [hA h0, g1, ← l2]
   simp [Zo]
 have hrun : ∀ w', (∀ b, A = some b → (storeCells b news).run P w = .ok () w') → (A = none → w' = w) → (execOp a.eval o).run P w = .ok (.value (.int .i64 (m : Int))) w' := by
  intro w' k1 k2
  rw [Z2r ho hc ha _ rfl]
  have := Zdc (P := P) (w := w) (st := st) (ty := o.type) ht hi A B n (rlen q) cap c2 news hnl' hBs hnc w' k1 k2
  have hat' : c.argTypes.toList[0]? = some t := by simpa using hat
  rw [hval] at this
  have e : Builtin.copy_ c.argTypes o.type #[.slice A n cap, .slice B (rlen q) c2] = Builtin.copy_ #[t, st] o.type #[.slice A n cap, .slice B (rlen q) c2] := by
   unfold Builtin.copy_
   rw [hat]
   rfl
  simp [builtin, hxv, hyv, e, this]
 rcases hAcase with ⟨hA0, hpa⟩ | ⟨b, hpa, hAs, hAn⟩
 ·-- no memory
  rcases hrow with ⟨_, hc0, hl0⟩ | ⟨b, cs, g1, _⟩
  ·have run := hrun w (fun b e => by rw [hA0] at e; cases e) (fun _ => rfl)
   refine Zdm h (Zf hp) Z3v (fun _ => Z54 hpl (by omega) (by omega) (by omega) hpa hc0 (by omega)) run (.v _)
  rw [hpa] at g1; cases g1
 rcases hrow with ⟨hn', _⟩ | ⟨b', cs, g1, g2, g3, g4, g5, g6⟩
 ·rw [hn'] at hpa; cases hpa
 rw [hpa] at g1; injection g1 with g1; injection g1 with g1; subst g1
 have hnl2 : news.length = m * p.sz := by rw [hnl, hqsz]
 have hrange : lo * p.sz + news.length ≤ cs.size := by
  rw [hnl2, g5, ← Nat.add_mul]
  exact Nat.mul_le_mul_right _ (by omega)
 have hrlen : rlen p * p.sz ≤ cs.toList.length := by
  have : rlen p * p.sz ≤ pl.cap * p.sz := Nat.mul_le_mul_right _ g3
  simp; omega
 have hstore : ∀ ad, A = some ad → (storeCells ad news).run P w = .ok () (w.setRow b (cs.toList.take (lo * p.sz) ++ news ++ cs.toList.drop (lo * p.sz + news.length)).toArray) := by
  intro ad e
  by_cases h0 : n = 0
  ·have hm0 : m = 0 := by omega
   have : news = [] := List.eq_nil_of_length_eq_zero (by rw [hnl2, hm0]; simp)
   subst this
   have e2 : (cs.toList.take (lo * p.sz) ++ [] ++ cs.toList.drop (lo * p.sz + ([] : List Value).length)).toArray = cs := by simp
   rw [e2, setRow_self w b cs p.T (0, 0) g2]
   simp [storeCells]
  have := hAn h0
  rw [e] at this
  injection this with this
  subst this
  have := run_storeCells_at P b (lo * p.sz) p.T news 0 cs w g2 (by omega) hn1
  simpa using this
 have run := hrun _ hstore (fun e => by rw [e] at hAs; simp at hAs)
 refine Z6g h (Zf hp) Z3v (fun _ _ h => h) hpl hpa g2 (fun t => ?_) (.inr rfl) run (fun _ => .v _)
 have hmn : ∀ v x, Den PL w (Avo C PL s.hp) v x → Den PL (w.setRow b _) (Avo C PL (hupd [(id, some (.row r))] s.hp)) v x := fun v x d => d.tr t
 have key := (g6.mono hmn).splice (hnrp.mono hmn) (r := r) lo s2 s1 s4 (by omega) hrlen (by rw [hnl2, hsl]) (fun i hi => s5 i hi) (fun i hi hi2 => s6 i hi hi2)
 refine Z15 hpl (by omega) (by omega) (by omega) hpa (by rw [s3]; exact Z2s _ _ _ _ _ _ g2) (by omega) g4 ?_ (by simpa using key)
 simp only [List.size_toArray, List.length_append, List.length_take, List.length_drop, Array.length_toList, s1]
 omega
theorem Zvg (h : Sat C PL s Fr a w) {c : Call} {t e : TypeId} {x : Operand} {x' : Opnd} (ho : o.op = .call c) (hc : c.callee = .builtin .clear) (ha : c.args.toList = [x]) (hat : c.argTypes[0]? = some t) (ht : P.underlying t = some (.slice e)) (hx : cX x = some x')
  (h1 : s.ev x' = some .nsl) : o.wp P a w (Eff.post (.pure (.tup [])) C s o.dst Fr) Q := by
 have d1 := Z4 h hx h1
 generalize hxe : a.eval x = xv at d1
 cases d1
 refine Z7 h (x := .tuple #[]) ?_ (.tup [] [] rfl (fun j h1 _ => absurd h1 (by simp)))
 rw [Z2r ho hc ha _ rfl]
 simp [builtin, hxe, Builtin.clear_, hat, run_underlying ht]
theorem Zvf (h : Sat C PL s Fr a w) {c : Call} {t e : TypeId} {x : Operand} {x' : Opnd} {rk : RK} {id : Nat} {r : R} (ho : o.op = .call c) (hc : c.callee = .builtin .clear) (ha : c.args.toList = [x]) (hat : c.argTypes[0]? = some t) (ht : P.underlying t = some (.slice e)) (hx : cX x = some x')
  (hrk : rkOf P e = some rk) (h1 : s.ev x' = some (.wsl id)) (hr : rowOf s.hp id = some r) (hrs : r.sz = rk.sz) (hrT : r.T = rk.T) {ob : List Prop} {rd wr : List Nat} :
  o.wp P a w (Eff.post ⟨ob, rd, wr, .one (.tup []) [(id, some (.row (rk.rep r.len)))]⟩ C s o.dst Fr) Q := by
 have d1 := Z4 h hx h1
 obtain ⟨i, z, hi, hz, hzv, hsz, h0, hT, hby⟩ := Z6d hrk
 have hzs : z.cells.size = rk.sz := by have := Z47 rk; rw [← hzv] at this; simpa using this
 generalize hxe : a.eval x = xv at d1
 cases d1 with
 | wsl _ p hp =>
  obtain ⟨p', hp', l1, l2, l3, hrow⟩ := Z14 (h.ck id _ (Zf hr))
  rw [hp] at hp'; injection hp' with hp'; subst hp'
  rw [R.len_eq]
  have hden : ∀ w' Av, Den PL w' Av (.tup []) (.tuple #[]) := fun w' Av => .tup [] [] rfl (fun j h1 _ => absurd h1 (by simp))
  obtain ⟨z1, z2, z3, _⟩ := Z43 (PL := PL) (w := w) (Av := Avo C PL s.hp) rk (rlen r)
  rcases hrow with ⟨hn, hc0, hl0⟩ | ⟨b, cs, g1, g2, g3, g4, g5, g6⟩
  ·refine Zdm h (Zf hr) Z3v (fun _ => Z54 hp (by omega) (by omega) (by omega) hn hc0 (by omega)) ?_ (hden _ _)
   rw [Z2r ho hc ha _ rfl]
   simp [builtin, hxe, Builtin.clear_, hat, run_underlying ht, hn]
  by_cases hr0 : rlen r = 0
  ·refine Zdm h (Zf hr) Z3v (fun _ => Z15 hp (by omega) (by omega) (by omega) g1 (by rw [z2, ← hrT]; exact g2) (by omega) g4 (by rw [g5, z1, hrs]) (RP.nil (by omega))) ?_ (hden _ _)
   rw [Z2r ho hc ha _ rfl]
   have hl : p.len = 0 := by omega
   simp [builtin, hxe, Builtin.clear_, hat, run_underlying ht, g1, hl]
  have hzl : (Builtin.zeroCells z.cells (rlen r)).toList.length = rlen r * r.sz := by simp [size_zeroCells, hzs, hrs]
  have hrow1 : rlen r * r.sz ≤ p.cap * r.sz := Nat.mul_le_mul_right _ g3
  have hz1 : ∀ u ∈ (Builtin.zeroCells z.cells (rlen r)).toList, u.oneCell' = true := by
   intro u hu
   obtain ⟨k, hk, rfl⟩ := List.mem_iff_getElem.1 hu
   have hk' : k < rlen r * rk.sz := by rw [← hrs]; omega
   have hdiv : k / rk.sz < rlen r := by rw [Nat.div_lt_iff_lt_mul h0]; exact hk'
   have hmod : k % rk.sz < rk.sz := Nat.mod_lt _ h0
   have g := Zo0 z.cells (rlen r) (k / rk.sz) (k % rk.sz) rk.sz hzs h0 hmod hdiv
   rw [Nat.mul_comm (k / rk.sz), Nat.div_add_mod, List.getElem?_eq_getElem hk] at g
   have hm1 : k % rk.sz < z.cells.toList.length := by simp; omega
   rw [List.getElem?_eq_getElem hm1] at g
   injection g with g
   rw [g]
   have hd := (Z43 (PL := PL) (w := w) (Av := Avo C PL s.hp) rk 1).2.2.2 0 (by omega)
   have hm2 : k % rk.sz < rk.zvals.length := by rw [Z47]; exact hmod
   have := (hd.2 (k % rk.sz) (by rw [← hd.1]; exact hm2) hm2).2
   have e : z.cells.toList[k % rk.sz] = rk.zvals[k % rk.sz] := by congr 1
   rw [e]
   exact this
  have hst := run_storeCells_at P b 0 r.T (Builtin.zeroCells z.cells (rlen r)).toList 0 cs w g2 (by rw [hzl, g5]; omega) hz1
  refine Z6g h (Zf hr) Z3v (fun _ _ h => h) hp g1 g2 (cs := (cs.toList.take (0 + 0) ++ (Builtin.zeroCells z.cells (rlen r)).toList ++ cs.toList.drop (0 + 0 + (Builtin.zeroCells z.cells (rlen r)).toList.length)).toArray) (fun t' => ?_) (.inr rfl) ?_ (fun _ => hden _ _)
  ·refine Z15 hp (by omega) (by omega) (by omega) g1 (by rw [z2, ← hrT]; exact Z2s _ _ _ _ _ _ g2) (by omega) g4 ?_ ?_
   ·simp only [List.size_toArray, List.length_append, List.length_take, List.length_drop, Array.length_toList, z1]
    have := hzl
    simp only [Array.length_toList] at this
    rw [hrs] at *
    omega
   obtain ⟨_, _, _, z4⟩ := Z43 (PL := PL) (w := w.setRow b (cs.toList.take (0 + 0) ++ (Builtin.zeroCells z.cells (rlen r)).toList ++ cs.toList.drop (0 + 0 + (Builtin.zeroCells z.cells (rlen r)).toList.length)).toArray) (Av := Avo C PL (hupd [(id, some (.row (rk.rep (rlen r))))] s.hp)) rk (rlen r)
   have := (RP.reps (r := rk.rep (rlen r)) (zs := rk.zvals) (cs := (Builtin.zeroCells z.cells (rlen r)).toList) (by rw [Z47, z1]) (fun i hi => z4 i (by omega)) (fun i' j hi' hj => by
    rw [z1] at hj ⊢
    rw [← hzv]
    exact Zo0 z.cells _ i' j rk.sz hzs h0 hj (by omega))).append (cs.toList.drop (0 + 0 + (Builtin.zeroCells z.cells (rlen r)).toList.length))
   simpa using this
  rw [Z2r ho hc ha _ rfl]
  have hl : p.len ≠ 0 := by omega
  obtain ⟨n, hn⟩ : ∃ n, p.len = n + 1 := ⟨p.len - 1, by omega⟩
  rw [← l1, hn] at hst ⊢
  simp only [builtin, hxe, List.map_cons, List.map_nil, Builtin.clear_, hat]
  simp [run_underlying ht, g1, hn, Z6e hi hz, hst]
theorem Zlc {t e : TypeId} {n : Nat} (ht : P.underlying t = some (.array n e)) (hc : P.cellsOf e = 1) (hn : 1 ≤ n) (A : Addr) : (Instr.sliceAt t (.pointer (some A)) none none none).run P w = .ok (.slice (some A) n n) w := by
 obtain ⟨i, hi, he⟩ := Z19 (show P.cellsOf e ≠ 0 by omega)
 have h0 : ¬ n = 0 := by omega
 simp [Instr.sliceAt, run_underlying ht, Instr.sureAddr, Instr.sliceBounds, Zn hi, h0, Zu]
theorem Zwd (h : Sat C PL s Fr a w) {f : Nat} (hf : Fr f) (hk : ¬ f < C.k) {t e : TypeId} {n : Nat} {x : Operand} {x' : Opnd} {id : Nat} {T : TypeId} {vs : List SV} {xs : List Int} (ho : o.op = .slice t x none none none) (ht : P.underlying t = some (.array n e)) (hc : P.cellsOf e = 1) (hn : 1 ≤ n) (hm : n ≤ 16777216) (hx : cX x = some x')
  (h1 : s.ev x' = some (.ptr id 0)) (hb : blkOf s.hp id = some (T, vs)) (hu : u8L vs = some xs) (hl : xs.length = n) (hob : allU8 xs) {ob : List Prop} {rd wr : List Nat} :
  o.wp P a w (Eff.post ⟨ob, rd, wr, .one (.wsl f) [(id, none), (f, some (.row (.bs T (bsL xs))))]⟩ C s o.dst (fun i => Fr i ∧ i ≠ f)) Q := by
 have d1 := Z4 h hx h1
 have hg := Z8j hb
 have hck := h.ck id _ hg
 obtain ⟨p, b, cs, hp, ha, hh, hd⟩ := Zga hck
 have hvs := Znq hu
 have hidf : id ≠ f := fun e => by rw [e, h.fr f hf] at hp; cases hp
 have hcs : cs.size = n := by
  have := hd.1
  rw [hvs] at this
  simp only [List.length_map, Array.length_toList] at this
  omega
 generalize hq : a.eval x = q at d1
 cases d1 with
 | ptr _ _ b' p' hp' ha' =>
  rw [hp] at hp'; injection hp' with hp'; subst hp'
  rw [ha] at ha'
  injection ha' with ha'
  injection ha' with ha'
  subst ha'
  have hlu : ∀ i c, ulook [(id, (none : Option Ck)), (f, some (.row (.bs T (bsL xs))))] i = some (some c) → i = f ∧ c = .row (.bs T (bsL xs)) := by
   intro i c hi
   cases hb1 : Nat.beq i f with
   | true =>
    simp only [ulook, hb1] at hi
    injection hi with hi; injection hi with hi
    exact ⟨(nbeq _ _).1 hb1, hi.symm⟩
   | false =>
    simp only [ulook, hb1] at hi
    cases hb2 : Nat.beq i id <;> rw [hb2] at hi <;> cases hi
  have hid : ulook [(id, (none : Option Ck)), (f, some (.row (.bs T (bsL xs))))] id = some none := by
   simp only [ulook, (Zm id f).2 hidf, (nbeq id id).2 rfl]
  have m : Mv C PL s.hp w [(id, none), (f, some (.row (.bs T (bsL xs))))] (padd PL f ⟨some ⟨b, 0, none⟩, n, n, 1, []⟩) (fun i => Fr i ∧ i ≠ f) w := by
   refine ⟨Z2p _ (h.fr f hf), fun i hi => Zi _ _ _ _ (fun e => hk (e ▸ hi)), fun i hi => by rw [Zi _ _ _ _ hi.2]; exact h.fr i hi.1, rfl, rfl, rfl, Nat.le_refl _, fun _ _ _ => rfl, fun i c q b' hi hq' ha' => ?_, fun i j c d q q' b' hi hj _ _ _ _ => (hlu i c hi).1.trans (hlu j d hj).1.symm⟩
   obtain ⟨rfl, rfl⟩ := hlu i c hi
   rw [Zg] at hq'
   injection hq' with hq'
   subst hq'
   have ha' : some (⟨b, 0, none⟩ : Addr) = some ⟨b', 0, none⟩ := ha'
   injection ha' with ha'
   injection ha' with ha'
   subst ha'
   exact .inr ⟨id, _, p, hg, hp, ha, by rw [hid]; rfl⟩
  have tr := h.toHSat.tr m
  have H := h.toHSat.mv m (fun i c hi => by
   obtain ⟨rfl, rfl⟩ := hlu i c hi
   refine Z15 (Zg _ _ _) (by show n = (bsL xs).length; rw [Z6o]; omega) rfl (by show 0 < 1; omega) rfl hh (by show (bsL xs).length ≤ n; rw [Z6o]; omega) (by show n ≤ maxLen; unfold maxLen; omega) (by rw [hcs]; exact (Nat.mul_one n).symm) ?_
   intro i j hi hj
   have hin : i < xs.length := by
    have : i < (bsL xs).length := hi
    rwa [Z6o] at this
   simp only [R.elem, List.length_singleton] at hj
   obtain rfl : j = 0 := by omega
   refine ⟨.int .u8 xs[i], ?_, ?_, rfl⟩
   ·have h3 := (hd.2 i (by rw [hvs, List.length_map]; exact hin) (by simp only [Array.length_toList]; omega)).1
    have hlt : i < cs.toList.length := by simp only [Array.length_toList]; omega
    simp only [hvs, List.getElem_map] at h3
    generalize hc3 : cs.toList[i]'hlt = y at h3
    cases h3
    rw [List.getElem?_eq_getElem (by simp only [R.sz, Array.length_toList]; omega)]
    simp only [R.sz, Nat.mul_one, Nat.add_zero]
    rw [hc3]
   simp only [R.elem, List.getElem_cons_zero, lock_eq]
   rw [Zgb i hob hin]
   exact .v _)
  refine Zx (x := .slice (some ⟨b, 0, none⟩) n n) (w' := w) (by simp [execOp, ho, hq, Zlc ht hc hn]) ⟨_, h.mv H tr o.dst (some _) _ fun v hv => ?_⟩
  injection hv with hv
  subst hv
  exact .wsl f _ (Zg _ _ _)
theorem Zvk (h : Sat C PL s Fr a w) {t e : TypeId} {n : Nat} {x : Operand} {x' : Opnd} {id i : Nat} {T : TypeId} {m : Nat} {l : List D} (ho : o.op = .slice t x none none none) (ht : P.underlying t = some (.array n e)) (hc : P.cellsOf e = 1) (hn : 1 ≤ n) (hx : cX x = some x')
  (h1 : s.ev x' = some (.ept id i 0)) (hb : rowOf s.hp id = some (.row T (.u8s m) l)) (hl : m = n) {ob : List Prop} {rd : List Nat} :
  o.wp P a w (Eff.post ⟨ob, rd, [], .one (.esl id i) []⟩ C s o.dst Fr) Q := by
 have d1 := Z4 h hx h1
 obtain ⟨p, hp, l1, l2, l3, hrow⟩ := Z14 (h.ck id _ (Zf hb))
 have hsz : p.sz = n := by
  rw [l2]
  exact hl
 generalize hq : a.eval x = q at d1
 cases d1 with
 | ept _ _ _ b p' hp' ha' hlt =>
  rw [hp] at hp'; injection hp' with hp'; subst hp'
  refine Z7 h (x := .slice (some ⟨b, i * p.sz, none⟩) n n) ?_ ?_
  ·simp [execOp, ho, hq, Zlc ht hc hn]
  have := Den.esl (w := w) (Av := Avo C PL s.hp) id i b p hp ha' hlt
  rw [hsz] at this
  rw [hsz]
  exact this
theorem Zvi (h : Sat C PL s Fr a w) {e : TypeId} {x y : Operand} (hC : Cpy P o e x y) (hz : P.cellsOf e = 1) {x' y' : Opnd} (hx : cX x = some x') (hy : cX y = some y') {z : SV} {id i n : Nat} {T U : TypeId} {l : List D} {bl : List UInt8}
  (h1 : s.ev x' = some (.esl id i)) (hp : rowOf s.hp id = some (.row T (.u8s n) l)) (h2 : s.ev y' = some z) (hq : rowS s.hp z = some (.bs U bl)) {ob : List Prop} {rd wr : List Nat} :
  o.wp P a w (Eff.post ⟨ob, rd, wr, .one (.v (.int .i64 ((min n bl.length : Nat) : Int))) [(id, some (.row (.row T (.u8s n) (setD l i (cpA n (getD l i) bl)))))]⟩ C s o.dst Fr) Q := by
 have d1 := Z4 h hx h1
 have d2 := Z4 h hy h2
 obtain ⟨ti, hi, hisz⟩ := Z19 (show P.cellsOf e ≠ 0 by omega)
 obtain ⟨c, t, ho, hc, ha, hat, ht⟩ := hC.c
 let st : TypeId := 0
 obtain ⟨B, c2, hyv, hc2, hBs, hcells⟩ := Zd9 h.toHSat hq d2
 have hrq : rlen (.bs U bl) = bl.length := rfl
 have hm1 : min n bl.length ≤ bl.length := Nat.min_le_right _ _
 have hm2 : min n bl.length ≤ n := Nat.min_le_left _ _
 obtain ⟨news, hnl, hnc, hn1, hnd⟩ := hcells (min n bl.length) hm1
 rw [show (R.bs U bl).sz = 1 from rfl, Nat.mul_one] at hnl
 generalize hmm : min n bl.length = m at *
 obtain ⟨r, hr⟩ : ∃ r, r = R.row T (.u8s n) l := ⟨_, rfl⟩
 obtain ⟨r', hr'⟩ : ∃ r', r' = R.row T (.u8s n) (setD l i (cpA n (getD l i) bl)) := ⟨_, rfl⟩
 rw [← hr] at hp
 rw [← hr']
 have hsz : r.sz = n := by
  rw [hr]
  rfl
 have hsz' : r'.sz = r.sz := by rw [hr, hr']; rfl
 have hrl : rlen r' = rlen r := by rw [hr, hr']; simp [rlen, setD]
 have hTT : r'.T = r.T := by rw [hr, hr']; rfl
 obtain ⟨p, hpl, l1, l2, l3, hrow⟩ := Z14 (h.ck id _ (Zf hp))
 generalize hxe : a.eval x = xv at d1
 cases d1 with
 | esl _ _ b p' hp' ha' hlt =>
  rw [hpl] at hp'; injection hp' with hp'; subst hp'
  rcases hrow with ⟨hna, _⟩ | ⟨b', cs, g1, g2, g3, g4, g5, g6⟩
  ·rw [hna] at ha'; cases ha'
  rw [ha'] at g1; injection g1 with g1; injection g1 with g1; subst g1
  have hir : i < rlen r := by omega
  have hir2 : i < l.length := by rw [hr] at hir; exact hir
  have hrow1 : (i + 1) * r.sz ≤ p.cap * r.sz := Nat.mul_le_mul_right _ (by omega)
  rw [Nat.add_mul] at hrow1
  have hrlen : rlen r * r.sz ≤ cs.toList.length := by
   have : rlen r * r.sz ≤ p.cap * r.sz := Nat.mul_le_mul_right _ g3
   simp; omega
  have hstore : (storeCells ⟨b, i * p.sz, none⟩ news).run P w = .ok () (w.setRow b (cs.toList.take (i * p.sz) ++ news ++ cs.toList.drop (i * p.sz + news.length)).toArray) := by
   have := run_storeCells_at P b (i * p.sz) r.T news 0 cs w g2 (by rw [hnl, l2, g5]; omega) hn1
   simpa using this
  have run : (execOp a.eval o).run P w = .ok (.value (.int .i64 (m : Int))) (w.setRow b (cs.toList.take (i * p.sz) ++ news ++ cs.toList.drop (i * p.sz + news.length)).toArray) := by
   rw [Z2r ho hc ha _ rfl]
   have := Zdc (P := P) (w := w) (st := st) (ty := o.type) ht hi (some ⟨b, i * p.sz, none⟩) B p.sz bl.length p.sz c2 news (by rw [hnl, l2, hsz, Nat.min_comm bl.length n, hmm, hisz, hz, Nat.mul_one]) (by rw [← hrq]; exact hBs) hnc _ (fun ad e => by injection e with e; subst e; exact hstore) (fun e => by cases e)
   have hat' : c.argTypes.toList[0]? = some t := by simpa using hat
   rw [l2, hsz, Nat.min_comm, hmm] at this
   rw [l2, hsz]
   have e : Builtin.copy_ c.argTypes o.type #[.slice (some ⟨b, i * n, none⟩) n n, .slice B bl.length c2] = Builtin.copy_ #[t, st] o.type #[.slice (some ⟨b, i * n, none⟩) n n, .slice B bl.length c2] := by
    unfold Builtin.copy_
    rw [hat]
    rfl
   rw [hrq] at hyv
   rw [l2, hsz] at hxe
   simp [builtin, hxe, hyv, e, this]
  refine Z6g h (Zf hp) Z3v (fun _ _ h => h) hpl ha' g2 (fun tr => ?_) (.inr rfl) run (fun _ => .v _)
  have hmn : ∀ v x, Den PL w (Avo C PL s.hp) v x → Den PL (w.setRow b _) (Avo C PL (hupd [(id, some (.row r'))] s.hp)) v x := fun v x d => d.tr tr
  have hvs : Dens PL w (Avo C PL s.hp) ((List.range m).map fun j => SV.v (.int .u8 (getB bl j))) news := by
   refine ⟨by simp [hnl], fun j h1 h2 => ?_⟩
   have hjm : j < m := by simpa using h1
   obtain ⟨u, e1, e2⟩ := hnd j 0 hjm (by simp [R.elem])
   rw [show (R.bs U bl).sz = 1 from rfl, Nat.mul_one, Nat.add_zero] at e1
   have e3 := (List.getElem?_eq_some_iff.1 e1).2
   rw [e3]
   refine ⟨?_, hn1 u (List.mem_of_getElem? e1)⟩
   simp only [List.getElem_map, List.getElem_range]
   simpa only [R.elem, List.getElem_cons_zero, lock_eq] using e2
  have hel : r'.elem i = lspl (r.elem i) 0 ((List.range m).map fun j => SV.v (.int .u8 (getB bl j))) := by
   have e1 : ∀ d, (Ty.u8s n).leaves d = (List.range n).map fun i => SV.v (.int .u8 (lock D.toI (lock D.fld d (0 + i)))) := by
    intro d
    rw [← Z46]
    rfl
   rw [hr, hr']
   simp only [R.elem, e1, lock_eq, lspl, List.take_zero, List.nil_append, List.length_map, List.length_range, Nat.zero_add]
   have e2 : getD (setD l i (cpA n (getD l i) bl)) i = cpA n (getD l i) bl := by simp [getD, setD, hir2]
   rw [e2]
   apply List.ext_getElem
   ·simp; omega
   intro j h1 h2
   have hjn : j < n := by simpa using h1
   simp only [List.getElem_map, List.getElem_range]
   have e3 : D.toI (D.fld (cpA n (getD l i) bl) j) = if j < bl.length then getB bl j else D.toI (D.fld (getD l i) j) := by
    unfold cpA
    simp only [D.fld, D.toL]
    rw [List.getD_eq_getElem?_getD, List.getElem?_eq_getElem (by simpa using hjn)]
    simp only [List.getElem_map, List.getElem_range, Option.getD_some]
    split
    ·rfl
    rfl
   rw [e3]
   by_cases hjm : j < m
   ·rw [if_pos (by omega), List.getElem_append_left (by simpa using hjm)]
    simp only [List.getElem_map, List.getElem_range]
   rw [if_neg (by omega), List.getElem_append_right (by simpa using hjm)]
   simp only [List.length_map, List.length_range, List.getElem_drop, List.getElem_map, List.getElem_range]
   congr 5
   omega
  have key := (g6.mono hmn).put (r' := r') (vs := (List.range m).map fun j => SV.v (.int .u8 (getB bl j))) i 0 hir hsz' hrl (by rw [hnl, hsz]; omega) hrlen (fun k hk => by rw [hr, hr']; simp only [R.elem, lock_eq, getD, setD, Z7a _ _ _ _ _ hk]) (fun ds hd => by rw [hel]; exact hd) ⟨hvs.1, fun j a b => ⟨hmn _ _ (hvs.2 j a b).1, (hvs.2 j a b).2⟩⟩
  refine Z15 hpl (by omega) (by omega) (by omega) ha' (by rw [hTT]; exact Z2s _ _ _ _ _ _ g2) (by omega) g4 ?_ (by rw [← l2] at key; simpa using key)
  simp only [List.size_toArray, List.length_append, List.length_take, List.length_drop, Array.length_toList]
  rw [hnl, l2, hsz']
  omega
theorem Zri {w : World} {b : Nat} {cs : Array Value} {T : TypeId} (hb : w.heap[b]? = some (.cells cs T (0, 0))) (n : Nat) : (w.freeze ⟨b, n, none⟩ 1).heap[b]? = some (.cells cs T (n, n + 1)) := by
 simp [World.freeze, Array.getElem?_modify, hb]
theorem Zrj {w : World} {b k : Nat} (n : Nat) (h : k ≠ b) : (w.freeze ⟨b, n, none⟩ 1).heap[k]? = w.heap[k]? := by
 simp [World.freeze, Array.getElem?_modify, Ne.symm h]
theorem Zvj (h : Sat C PL s Fr a w) {t e : TypeId} {x : Operand} {x' : Opnd} {id : Nat} {T : TypeId} {l : List UInt8} (ho : o.op = .convert t t x) (ht : P.underlying t = some (.slice e)) (he : P.underlying e = some (.int .u8)) (hx : cX x = some x')
  (h1 : s.ev x' = some (.wsl id)) (hr : rowOf s.hp id = some (.bs T l)) (hob : 0 < lock ofN (lock (@xlen UInt8) l)) {ob : List Prop} {rd wr : List Nat} :
  o.wp P a w (Eff.post ⟨ob, rd, wr, .one (.rsl (.bs T l)) [(id, none)]⟩ C s o.dst Fr) Q := by
 have d1 := Z4 h hx h1
 have hl0 : 0 < l.length := by
  simp only [lock_eq, ofN, xlen] at hob
  omega
 generalize hxe : a.eval x = xv at d1
 cases d1 with
 | wsl _ p hp =>
  have hck := h.ck id _ (Zf hr)
  obtain ⟨p', hp', l1, l2, l3, hrow⟩ := Z14 hck
  rw [hp] at hp'; injection hp' with hp'; subst hp'
  have hlen : rlen (.bs T l) = l.length := rfl
  rcases hrow with ⟨hn, hc0, hl0'⟩ | ⟨b, cs, g1, g2, g3, g4, g5, g6⟩
  ·omega
  have hown : Own PL s.hp b := ⟨id, _, p, Zf hr, hp, g1⟩
  have hu : ∀ i c, ulook [(id, (none : Option Ck))] i = some (some c) → False := by
   intro i c hi
   simp only [ulook] at hi
   cases hb : Nat.beq i id <;> rw [hb] at hi <;> simp at hi
  have hbs : b < w.heap.size := (Array.getElem?_eq_some_iff.1 g2).1
  have m : Mv C PL s.hp w [(id, none)] PL Fr (w.freeze ⟨b, cs.size, none⟩ 1) := by
   refine ⟨fun _ _ h => h, fun _ _ => rfl, h.fr, rfl, rfl, rfl, by simp [World.freeze], fun k hk hne => Zrj _ (fun e => hne id _ p (Zf hr) ?_ hp (show p.a = _ by rw [g1, e])), fun i c q b' hi => (hu i c hi).elim, fun i j c d q q' b' hi => (hu i c hi).elim⟩
   simp only [ulook, (nbeq id id).2 rfl, Option.isSome_some]
  have H := h.toHSat.mv m (fun i c hi => (hu i c hi).elim)
  have tr := h.toHSat.tr m
  have hsh : (Go.shape b).run P w = .ok (some (T, cs.size)) w := by
   rw [run_shape]; simp only [World.shape?, g2]; rfl
  refine Zx (x := .slice p.a p.len p.cap) (w' := w.freeze ⟨b, cs.size, none⟩ 1) ?_ ⟨PL, h.mv H tr o.dst (some _) _ fun v hv => ?_⟩
  ·simp [execOp, ho, hxe, convert, run_underlying ht, run_underlying he, g1, markStringish, hsh]
  injection hv with hv
  subst hv
  rw [l1]
  refine .rsl (.bs T l) _ _ (fun i j => .int .u8 (l.getD i 0).toNat) g3 (fun _ => ⟨_, g1, by simpa [World.freeze] using hbs, ?_⟩) ?_ ?_
  ·rintro (hz | ⟨i, c, q, e1, e2, e3⟩)
   ·exact (h.own b hown).1 hz
   rw [Zp] at e1
   cases hui : ulook [(id, (none : Option Ck))] i with
   | some y => rw [hui] at e1; cases y with
    | none => simp at e1
    | some c' => exact hu i c' hui
   | none =>
    rw [hui] at e1
    have : i = id := h.dj i id _ _ q p b e1 (Zf hr) e2 hp e3 g1
    subst this
    simp only [ulook, (nbeq i i).2 rfl] at hui
    cases hui
  ·intro i j ad e1 hi hj
   rw [g1] at e1
   injection e1 with e1
   subst e1
   simp only [R.sz] at hj ⊢
   obtain rfl : j = 0 := by omega
   obtain ⟨u, k1, k2, k3⟩ := g6 i 0 hi (by simp [R.elem])
   simp only [R.elem, List.getElem_cons_zero, lock_eq, getB] at k2
   cases k2
   refine ⟨?_, rfl⟩
   simp only [R.sz, Nat.mul_one, Nat.add_zero] at k1
   have k1' : cs[i]? = some (.int .u8 (l.getD i 0).toNat) := by simpa using k1
   simp only [Nat.mul_one, Zu, Zo, Nat.zero_add, World.cell?]
   rw [Zri g2]
   simpa using k1'
  intro i j hi hj
  simp only [R.elem, List.length_singleton] at hj
  obtain rfl : j = 0 := by omega
  simp only [R.elem, List.getElem_cons_zero, lock_eq, getB]
  exact .v _
theorem Zw9 (h : Sat C PL s Fr a w) {t u e : TypeId} {x : Operand} {x' : Opnd} {l : List UInt8} (ho : o.op = .convert t u x) (ht : P.underlying t = some .string) (hu : P.underlying u = some (.slice e)) (he : P.underlying e = some (.int .u8)) (hx : cX x = some x') (h1 : s.ev x' = some (.str l)) {ob : List Prop} {rd wr : List Nat} :
  o.wp P a w (Eff.post ⟨ob, rd, wr, .one (.rsl (.bs e l)) []⟩ C s o.dst Fr) Q := by
 have d1 := Z4 h hx h1
 generalize hq : a.eval x = q at d1
 cases d1
 have run := Lib.run_convert_string_bytes (P := P) w t u e ⟨l.toArray⟩ ht hu he
 have hsz : (ByteArray.mk l.toArray).size = l.length := by simp [ByteArray.size]
 have tr : Tr C PL s.hp w PL s.hp (Lib.bytesWorld w e ⟨l.toArray⟩) := ⟨fun _ _ h => h, by rw [Lib.bytesWorld_size]; omega, fun b hb _ => Lib.bytesWorld_at_old w e _ b hb, fun _ _ h => h⟩
 have H : HSat C PL s.hp Fr (Lib.bytesWorld w e ⟨l.toArray⟩) :=
  ⟨fun id c hc => (h.ck id c hc).mono tr.P tr.s tr.wh tr.A (fun p b hp ha => Lib.bytesWorld_at_old w e _ b ((h.ck id c hc).lt hp ha)), h.dj, h.own, h.os, h.tape, h.output, by rw [Lib.bytesWorld_size]; have := h.size; omega, fun b hb ho => by rw [Lib.bytesWorld_at_old w e _ b (by have := h.size; omega)]; exact h.old b hb ho, h.zlt, h.fr, h.arg⟩
 refine Zx (x := .slice (some ⟨w.heap.size, 0, none⟩) l.length (grownCap w l.length 0 e)) (w' := Lib.bytesWorld w e ⟨l.toArray⟩) ?_ ⟨PL, ?_⟩
 ·have := run
  rw [hsz] at this
  simp [execOp, ho, hq, this]
 refine h.mv (u := []) H tr o.dst (some _) _ fun v hv => ?_
 injection hv with hv
 subst hv
 refine .rsl (.bs e l) _ _ (fun i j => .int .u8 (l.getD i 0).toNat) (grownCap_ge w _ _ _) (fun _ => ⟨_, rfl, by rw [Lib.bytesWorld_size]; exact Nat.lt_succ_self _, ?_⟩) ?_ ?_
 ·rintro (hz | ho)
  ·have h1 : w.heap.size < C.w0.heap.size := h.zlt.1 _ hz
   have := h.size; omega
  have := h.toHSat.lt ho; simp at this
 ·intro i j ad e1 hi hj
  injection e1 with e1
  subst e1
  simp only [R.sz] at hj ⊢
  obtain rfl : j = 0 := by omega
  simp only [Nat.mul_one, Zu, Zo, Nat.zero_add]
  refine ⟨?_, rfl⟩
  have := Lib.bytesWorld_cell w e ⟨l.toArray⟩ i (by rw [hsz]; exact hi)
  simpa using this
 intro i j hi hj
 simp only [R.elem, List.length_singleton] at hj
 obtain rfl : j = 0 := by omega
 simp only [R.elem, List.getElem_cons_zero, lock_eq, getB]
 exact .v _
theorem Zrc {d : Nat} {xs ys : Array Value} : (Op.eqFields d xs ys []).run P w = .ok true w := by simp [Op.eqFields]
theorem Zrb {d : Nat} {xs ys : Array Value} {f : Field} {fs : List Field} {u v : Value} {r q : Bool} (hn : f.name ≠ "_") (ha : (part f.type xs f.offset).run P w = .ok u w) (hb : (part f.type ys f.offset).run P w = .ok v w) (he : (Op.equalIn d f.type u v).run P w = .ok r w)
  (hr : (Op.eqFields d xs ys fs).run P w = .ok q w) : (Op.eqFields d xs ys (f :: fs)).run P w = .ok (r && q) w := by
 rw [Op.eqFields]
 simp only [if_pos hn, Sem.run_bind, ha, hb, he, Result.andThen_ok]
 cases r
 ·simp
 simpa using hr
theorem Zgx {d : Nat} {Av : Nat → Prop} {xs ys : Array Value} : ∀ (fs : List Field) (o : Nat) (ks : List Nat) (l m : List SV) (t : Bool), flatKs P fs o = some ks → eqs ks l m = some t → Dens PL w Av l (xs.toList.drop o) → Dens PL w Av m (ys.toList.drop o) →
  (Op.eqFields (d + 1) xs ys fs).run P w = .ok t w
 | [], o, ks, l, m, t, hf, he, _, _ => by
  simp only [flatKs] at hf
  injection hf with hf
  subst hf
  cases l <;> cases m <;> simp only [eqs] at he <;> try (cases he; done)
  injection he with he
  subst he
  exact Zrc
 | f :: fs, o, ks, l, m, t, hf, he, hdx, hdy => by
  unfold flatKs at hf
  split at hf
  ·rename_i hc
   simp only [Bool.and_eq_true] at hc
   have hn : f.name ≠ "_" := by simpa using hc.1
   have ho : f.offset = o := by simpa using hc.2
   have getc : ∀ (zs : Array Value) (n : SV) (r : List SV), Dens PL w Av (n :: r) (zs.toList.drop o) → ∃ c, zs[o]? = some c ∧ Den PL w Av n c ∧ Dens PL w Av r (zs.toList.drop (o + 1)) := by
    intro zs n r hd
    have h0 : 0 < (zs.toList.drop o).length := by rw [hd.1]; simp
    have := hd.2 0 (by simp) h0
    refine ⟨(zs.toList.drop o)[0], ?_, this.1, ?_⟩
    ·have : (zs.toList.drop o)[0]? = some (zs.toList.drop o)[0] := List.getElem?_eq_getElem h0
     rw [List.getElem?_drop] at this
     simp
    have := hd.drop 1
    simp only [List.drop_drop] at this
    exact this
   have fin : ∀ (x y : SV) (l' m' : List SV) (ks' : List Nat) (q t' : Bool), l = x :: l' → m = y :: m' → flatKs P fs (o + 1) = some ks' → eqs ks' l' m' = some t' → aggOf P f.type = some false →
     (∀ u v, Den PL w Av x u → Den PL w Av y v → (Op.equalIn (d + 1) f.type u v).run P w = .ok q w) → (Op.eqFields (d + 1) xs ys (f :: fs)).run P w = .ok (q && t') w := by
    rintro x y l' m' ks' q t' rfl rfl hf' he' hag hq
    obtain ⟨u, u1, u2, u3⟩ := getc xs x l' hdx
    obtain ⟨v, v1, v2, v3⟩ := getc ys y m' hdy
    have pu : (part f.type xs f.offset).run P w = .ok u w := by simp [part, Z1m hag, ho, u1]
    have pv : (part f.type ys f.offset).run P w = .ok v w := by simp [part, Z1m hag, ho, v1]
    exact Zrb hn pu pv (hq u v u2 v2) (Zgx fs (o + 1) ks' l' m' t' hf' he' u3 v3)
   split at hf
   ·rename_i kk l0 hu hfs
    injection hf with hf
    subst hf
    have hag : aggOf P f.type = some false := by unfold aggOf; rw [hu]
    cases l with
    | nil => simp [eqs] at he
    | cons x l' => cases m with
     | nil => cases x with
      | v xv => cases xv <;> simp [eqs] at he
      | _ => simp [eqs] at he
     | cons y m' => cases x with
      | v xv => cases xv with
       | int k b => cases y with
        | v yv => cases yv with
         | int j c =>
          simp only [eqs] at he
          split at he
          ·rename_i hk
           have := LawfulBEq.eq_of_beq hk
           subst this
           split at he
           ·rename_i t' ht'
            injection he with he
            subst he
            rw [lock_eq, lock_eq]
            exact fin _ _ l' m' l0 (b == c) t' rfl rfl hfs ht' hag (fun u v h1 h2 => by cases h1; cases h2; exact run_equalIn_int (P := P) w d f.type k kk b c hu)
           cases he
          cases he
         | _ => simp [eqs] at he
        | _ => simp [eqs] at he
       | _ => simp [eqs] at he
      | _ => simp [eqs] at he
   ·rename_i l0 hu hfs
    injection hf with hf
    subst hf
    have hag : aggOf P f.type = some false := by unfold aggOf; rw [hu]
    cases l with
    | nil => simp [eqs] at he
    | cons x l' => cases m with
     | nil => cases x with
      | v xv => cases xv <;> simp [eqs] at he
      | _ => simp [eqs] at he
     | cons y m' => cases x with
      | v xv => cases xv with
       | bool b => cases y with
        | v yv => cases yv with
         | bool c =>
          simp only [eqs] at he
          split at he
          ·rename_i t' ht'
           injection he with he
           subst he
           rw [lock_eq, lock_eq]
           exact fin _ _ l' m' l0 (b == c) t' rfl rfl hfs ht' hag (fun u v h1 h2 => by cases h1; cases h2; exact run_equalIn_bool' (P := P) w d f.type b c hu)
          cases he
         | _ => simp [eqs] at he
        | _ => simp [eqs] at he
       | _ => simp [eqs] at he
      | _ => simp [eqs] at he
   ·rename_i l0 hu hfs
    injection hf with hf
    subst hf
    have hag : aggOf P f.type = some false := by unfold aggOf; rw [hu]
    cases l with
    | nil => simp [eqs] at he
    | cons x l' => cases m with
     | nil => cases x <;> simp [eqs] at he
     | cons y m' => cases x with
      | str b => cases y with
       | str c =>
        simp only [eqs] at he
        split at he
        ·rename_i t' ht'
         injection he with he
         subst he
         rw [lock_eq, lock_eq]
         refine fin _ _ l' m' l0 (b == c) t' rfl rfl hfs ht' hag (fun u v h1 h2 => ?_)
         cases h1; cases h2
         have := run_equalIn_string (P := P) w d f.type ⟨b.toArray⟩ ⟨c.toArray⟩ hu
         rw [Z2t, Z2t] at this
         exact this
        cases he
       | _ => simp [eqs] at he
      | _ => simp [eqs] at he
   cases hf
  cases hf
theorem Zwh (h : Sat C PL s Fr a w) {t yt : TypeId} {x y : Operand} {x' y' : Opnd} {op : BinOp} {ne : Bool} {fs : Array Field} {ks : List Nat} {l m : List SV} {r : Bool} (ho : o.op = .binOp op t x y yt) (hb : neOf op = some ne) (ht : P.underlying t = some (.struct fs))
  (hst : P.stoodInHeld t = false) (hg : P.eqGuardType P.depth t = false) (hks : flatKs P fs.toList 0 = some ks) (hx : cX x = some x') (hy : cX y = some y') (h1 : s.ev x' = some (.agg l)) (h2 : s.ev y' = some (.agg m)) (he : eqs ks l m = some r) :
  o.wp P a w (Eff.post (.pure (.v (.bool (negIf ne r)))) C s o.dst Fr) Q := by
 have d1 := Z4 h hx h1
 have d2 := Z4 h hy h2
 obtain ⟨xs, hxs, dx⟩ := Dens.of_agg d1
 obtain ⟨ys, hys, dy⟩ := Dens.of_agg d2
 have hf : P.fieldsOf t = fs := by simp [Program.fieldsOf, ht]
 have key : (Op.equalIn 10000 t (.agg xs.toArray) (.agg ys.toArray)).run P w = .ok r w := by
  rw [run_equalIn_struct (P := P) w 9999 t _ _ (by rw [hf]; exact ht) hst, hf]
  exact Zgx (d := 9998) fs.toList 0 ks l m r hks he (by simpa using dx) (by simpa using dy)
 refine Z7 h (Zdd ho hb hxs hys (b := r) key rfl rfl (run_eqGuard_agg (P := P) w op t x y _ _ hg)) (.v _)
end
def canon : Nat → List Ck → List (Nat × Ck)
 | _, [] => []
 | i, c :: cs => (i, c) :: canon (i + 1) cs
def pcan : Nat → List PostC → List (Nat × Option Ck)
 | _, [] => []
 | i, .same :: l => pcan (i + 1) l
 | i, .gone :: l => (i, none) :: pcan (i + 1) l
 | i, .to c :: l => (i, some c) :: pcan (i + 1) l
theorem Z2l : ∀ (cks : List Ck) (i j : Nat), hget (canon i cks) j = if i ≤ j then cks[j - i]? else none
 | [], i, j => by simp [canon, hget]
 | c :: cs, i, j => by
  simp only [canon, hget]
  cases hb : Nat.beq j i with
  | true =>
   have := (nbeq j i).1 hb
   subst this
   simp
  | false =>
   have hne := (Zm j i).1 hb
   simp only [Z2l cs (i + 1) j]
   by_cases h : i ≤ j
   ·rw [if_pos (by omega), if_pos h]
    have : j - i = (j - (i + 1)) + 1 := by omega
    rw [this, List.getElem?_cons_succ]
   rw [if_neg (by omega), if_neg h]
def DensA (PL : Nat → Option Pl) (w : World) (Av : Nat → Prop) (l : List SV) (cs : List Value) : Prop :=
 cs.length = l.length ∧ ∀ (j : Nat) (h1 : j < l.length) (h2 : j < cs.length), Den PL w Av l[j] cs[j]
def COut.holds (o : COut) (Q : SV → List PostC → Prop) : Prop :=
 match o with
 | .one v post => Q v post
 | .many X P v post => ∃ x, P x ∧ Q (v x) (post x)
def ctxOf (w : World) (Z : Nat → Prop) (PL : Nat → Option Pl) (cks : List Ck) : Ctx := ⟨w, Z, Own PL (canon 0 cks), cks.length, PL, w.heap.size⟩
def FnOK (P : Program) (f : FuncId) (con : Con) : Prop :=
 ∀ cargs ccks ce, con.f cargs ccks = some ce → (∀ p ∈ ce.ob, p) → ∀ (Z : Nat → Prop) (PL : Nat → Option Pl) (w : World) (args : List Value),
  HSat (ctxOf w Z PL ccks) PL (canon 0 ccks) (fun i => ccks.length ≤ i) w → DensA PL w (Avo (ctxOf w Z PL ccks) PL (canon 0 ccks)) cargs args →
  Calls P f args.toArray w fun e w' => ∃ u PL', e = .returned u ∧ ce.out.holds fun v post =>
   HSat (ctxOf w Z PL ccks) PL' (hupd (pcan 0 post) (canon 0 ccks)) (fun _ => False) w' ∧ Den PL' w' (Avo (ctxOf w Z PL ccks) PL' (hupd (pcan 0 post) (canon 0 ccks))) v u
def TabOK (P : Program) (Γ : FuncId → Option Con) : Prop := ∀ f con, Γ f = some con → FnOK P f con
theorem Zk : ∀ (l : List Nat) (i : Nat), nmem i l = true ↔ i ∈ l
 | [], i => by simp [nmem]
 | j :: l, i => by
  unfold nmem
  cases hb : Nat.beq i j with
  | true => simp [(nbeq i j).1 hb]
  | false => simp only [List.mem_cons, Zk l i, or_iff_right ((Zm i j).1 hb)]
theorem Zjo : ∀ (l : List Nat) (i k n : Nat), npos i l k = some n → k ≤ n ∧ l[n - k]? = some i
 | [], i, k, n, h => by simp [npos] at h
 | j :: l, i, k, n, h => by
  unfold npos at h
  cases hb : Nat.beq i j with
  | true =>
   rw [hb] at h
   simp only [] at h
   injection h with h
   subst h
   exact ⟨Nat.le_refl _, by simp [(nbeq i j).1 hb]⟩
  | false =>
   rw [hb] at h
   simp only [] at h
   obtain ⟨h1, h2⟩ := Zjo l i (k + 1) n h
   refine ⟨by omega, ?_⟩
   have : n - k = (n - (k + 1)) + 1 := by omega
   rw [this, List.getElem?_cons_succ]
   exact h2
theorem Z50 : ∀ (l : List Nat), nnodup l = true → l.Nodup
 | [], _ => List.nodup_nil
 | i :: l, h => by
  unfold nnodup at h
  cases hm : nmem i l with
  | true => rw [hm] at h; cases h
  | false =>
   rw [hm] at h
   refine List.nodup_cons.2 ⟨fun hi => ?_, Z50 l h⟩
   rw [(Zk l i).2 hi] at hm
   cases hm
theorem Z2o : ∀ (l m : List Nat), ndisj l m = true → ∀ i ∈ l, i ∉ m
 | [], m, _, i, hi => by simp at hi
 | j :: l, m, h, i, hi => by
  unfold ndisj at h
  cases hm : nmem j m with
  | true => rw [hm] at h; cases h
  | false =>
   rw [hm] at h
   rcases List.mem_cons.1 hi with rfl | hi
   ·intro hi
    rw [(Zk m i).2 hi] at hm
    cases hm
   exact Z2o l m h i hi
mutual
theorem Z7o {ρ : Nat → Option Nat} {PL PL' : Nat → Option Pl} {w : World} {Av Av' : Nat → Prop} (hρ : ∀ i j p, ρ i = some j → PL i = some p → PL' j = some p) :
  ∀ (v v' : SV) (x : Value), v.ren ρ = some v' → (∀ r A, Den PL w Av (.rsl r) A → Den PL' w Av' (.rsl r) A) → Den PL w Av v x → Den PL' w Av' v' x
 | .v y, v', x, h, hA, d => by simp only [SV.ren] at h; injection h with h; subst h; cases d; exact .v _
 | .str l, v', x, h, hA, d => by simp only [SV.ren] at h; injection h with h; subst h; cases d; exact .str _
 | .rpt r i o, v', x, h, hA, d => by
  simp only [SV.ren] at h; injection h with h; subst h
  cases d with
  | rpt _ _ _ A cap hd hi => exact .rpt r i o A cap (hA _ _ hd) hi
 | .rsl r, v', x, h, hA, d => by simp only [SV.ren] at h; injection h with h; subst h; exact hA _ _ d
 | .nsl, v', x, h, hA, d => by simp only [SV.ren] at h; injection h with h; subst h; cases d; exact .nsl
 | .ptr id o, v', x, h, hA, d => by
  simp only [SV.ren] at h
  cases hr : ρ id with
  | none => rw [hr] at h; cases h
  | some j =>
   rw [hr] at h; injection h with h; subst h
   cases d with
   | ptr _ _ b p hp ha => exact .ptr j o b p (hρ _ _ _ hr hp) ha
 | .esl id i, v', x, h, hA, d => by
  simp only [SV.ren] at h
  cases hr : ρ id with
  | none => rw [hr] at h; cases h
  | some j =>
   rw [hr] at h; injection h with h; subst h
   cases d with
   | esl _ _ b p hp ha hi => exact .esl j i b p (hρ _ _ _ hr hp) ha hi
 | .ept id i o, v', x, h, hA, d => by
  simp only [SV.ren] at h
  cases hr : ρ id with
  | none => rw [hr] at h; cases h
  | some j =>
   rw [hr] at h; injection h with h; subst h
   cases d with
   | ept _ _ _ b p hp ha hi => exact .ept j i o b p (hρ _ _ _ hr hp) ha hi
 | .sl id lo n, v', x, h, hA, d => by
  simp only [SV.ren] at h
  cases hr : ρ id with
  | none => rw [hr] at h; cases h
  | some j =>
   rw [hr] at h; injection h with h; subst h
   cases d with
   | sl _ _ _ p A cap hp h1 h2 h3 h4 => exact .sl j lo n p A cap (hρ _ _ _ hr hp) h1 h2 h3 h4
 | .wsl id, v', x, h, hA, d => by
  simp only [SV.ren] at h
  cases hr : ρ id with
  | none => rw [hr] at h; cases h
  | some j =>
   rw [hr] at h; injection h with h; subst h
   cases d with
   | wsl _ p hp => exact .wsl j p (hρ _ _ _ hr hp)
 | .mpv id, v', x, h, hA, d => by
  simp only [SV.ren] at h
  cases hr : ρ id with
  | none => rw [hr] at h; cases h
  | some j =>
   rw [hr] at h; injection h with h; subst h
   cases d with
   | mpv _ b p hp ha => exact .mpv j b p (hρ _ _ _ hr hp) ha
 | .agg l, v', x, h, hA, d => by
  simp only [SV.ren] at h
  cases hr : SV.renL ρ l with
  | none => rw [hr] at h; cases h
  | some l' =>
   rw [hr] at h; injection h with h; subst h
   cases d with
   | agg _ cs hl hd h1 =>
    obtain ⟨e1, e2⟩ := Z42 hρ l l' cs hr hA ⟨hl, hd⟩
    exact .agg l' cs e1 e2 h1
 | .tup l, v', x, h, hA, d => by
  simp only [SV.ren] at h
  cases hr : SV.renL ρ l with
  | none => rw [hr] at h; cases h
  | some l' =>
   rw [hr] at h; injection h with h; subst h
   cases d with
   | tup _ cs hl hd =>
    obtain ⟨e1, e2⟩ := Z42 hρ l l' cs hr hA ⟨hl, hd⟩
    exact .tup l' cs e1 e2
 | .fn f l, v', x, h, hA, d => by
  simp only [SV.ren] at h
  cases hr : SV.renL ρ l with
  | none => rw [hr] at h; cases h
  | some l' =>
   rw [hr] at h; injection h with h; subst h
   cases d with
   | fn _ _ cs hl hd =>
    obtain ⟨e1, e2⟩ := Z42 hρ l l' cs hr hA ⟨hl, hd⟩
    exact .fn f l' cs e1 e2
theorem Z42 {ρ : Nat → Option Nat} {PL PL' : Nat → Option Pl} {w : World} {Av Av' : Nat → Prop} (hρ : ∀ i j p, ρ i = some j → PL i = some p → PL' j = some p) :
  ∀ (l l' : List SV) (cs : List Value), SV.renL ρ l = some l' → (∀ r A, Den PL w Av (.rsl r) A → Den PL' w Av' (.rsl r) A) → DensA PL w Av l cs → DensA PL' w Av' l' cs
 | [], l', cs, h, hA, d => by simp only [SV.renL] at h; injection h with h; subst h; exact ⟨d.1, fun j h1 _ => absurd h1 (by simp)⟩
 | x :: xs, l', cs, h, hA, d => by
  unfold SV.renL at h
  cases h1 : x.ren ρ with
  | none => rw [h1] at h; cases h
  | some y =>
   rw [h1] at h
   simp only [] at h
   cases h2 : SV.renL ρ xs with
   | none => rw [h2] at h; cases h
   | some ys =>
    rw [h2] at h
    simp only [] at h
    injection h with h
    subst h
    obtain ⟨c, cs', rfl⟩ : ∃ c cs', cs = c :: cs' := by
     cases cs with
     | nil => have := d.1; simp at this
     | cons c cs' => exact ⟨c, cs', rfl⟩
    have d0 := Z7o hρ x y c h1 hA (d.2 0 (by simp) (by simp))
    have dr := Z42 hρ xs ys cs' h2 hA ⟨by have := d.1; simpa using this, fun j a b => d.2 (j + 1) (by simpa using a) (by simpa using b)⟩
    refine ⟨by simp [dr.1], fun j a b => ?_⟩
    cases j with
    | zero => exact d0
    | succ j => exact dr.2 j (by simpa using a) (by simpa using b)
end
def Bare (v : SV) : Prop := v.ren (fun _ => none) = some v
theorem bareL {ρ : Nat → Option Nat} : ∀ (l : List SV), SV.renL ρ l = some l → ∀ x ∈ l, x.ren ρ = some x
 | [], _, x, hx => by simp at hx
 | y :: ys, h, x, hx => by
  unfold SV.renL at h
  cases h1 : y.ren ρ with
  | none => rw [h1] at h; cases h
  | some z =>
   rw [h1] at h
   simp only [] at h
   cases h2 : SV.renL ρ ys with
   | none => rw [h2] at h; cases h
   | some zs =>
    rw [h2] at h
    simp only [] at h
    injection h with h
    injection h with e1 e2
    subst e1
    subst e2
    rcases List.mem_cons.1 hx with rfl | hx
    ·exact h1
    exact bareL _ h2 x hx
theorem Z7c (ρ : Nat → Option Nat) : ∀ (t : Ty) (d : D) (v : SV), v ∈ t.leaves d → v.ren ρ = some v := by
 intro t
 apply Ty.rec (motive_1 := fun t => ∀ (d : D) (v : SV), v ∈ t.leaves d → v.ren ρ = some v) (motive_2 := fun ts => ∀ (d : D) (j : Nat) (v : SV), v ∈ Ty.leavesL ts d j → v.ren ρ = some v)
 ·intro k d v hx; simp only [Ty.leaves, List.mem_singleton] at hx; subst hx; rfl
 ·intro d v hx; simp only [Ty.leaves, List.mem_singleton] at hx; subst hx; rfl
 ·intro d v hx; simp only [Ty.leaves, List.mem_singleton] at hx; subst hx; rfl
 ·intro T d v hx; simp only [Ty.leaves, List.mem_singleton] at hx; subst hx; rfl
 ·intro T k d v hx; simp only [Ty.leaves, List.mem_singleton] at hx; subst hx; rfl
 ·intro T e _ d v hx; simp only [Ty.leaves, List.mem_singleton] at hx; subst hx; rfl
 ·intro fs ih d v hx; simp only [Ty.leaves] at hx; exact ih d 0 v hx
 ·intro T d v hx; simp only [Ty.leaves, List.mem_singleton] at hx; subst hx; rfl
 ·intro n d v hx; simp only [Ty.leaves] at hx; obtain ⟨y, rfl⟩ := Zfi hx; rfl
 ·intro d j v hx; simp [Ty.leavesL] at hx
 intro t ts ih1 ih2 d j v hx
 simp only [Ty.leavesL, List.mem_append] at hx
 rcases hx with hx | hx
 ·exact ih1 _ v hx
 exact ih2 _ _ v hx
theorem Zra (ρ : Nat → Option Nat) (r : R) (i : Nat) : ∀ v ∈ r.elem i, v.ren ρ = some v := by
 cases r with
 | bs T l => intro v hv; simp only [R.elem, List.mem_singleton] at hv; subst hv; rfl
 | ints T k l => intro v hv; simp only [R.elem, List.mem_singleton] at hv; subst hv; rfl
 | row T e l => exact Z7c ρ e _
theorem Z8f {PL PL' : Nat → Option Pl} {w : World} {Av Av' : Nat → Prop} (hA : ∀ b, b < w.heap.size → Av' b → Av b) {v : SV} {x : Value} (h : Den PL w Av v x) : Bare v → Den PL' w Av' v x := by
 unfold Bare
 induction h with
 | v x => intro _; exact .v x
 | str l => intro _; exact .str l
 | nsl => intro _; exact .nsl
 | ptr => intro h; simp [SV.ren] at h
 | ept => intro h; simp [SV.ren] at h
 | esl => intro h; simp [SV.ren] at h
 | sl => intro h; simp [SV.ren] at h
 | wsl => intro h; simp [SV.ren] at h
 | mpv => intro h; simp [SV.ren] at h
 | rpt r i off A cap h hi ih => intro _; exact .rpt r i off A cap (ih rfl) hi
 | agg l cs hl h h1 ih =>
  intro hb
  simp only [SV.ren] at hb
  cases hr : SV.renL (fun _ => none) l with
  | none => rw [hr] at hb; cases hb
  | some l' =>
   rw [hr] at hb; injection hb with hb; injection hb with hb; subst hb
   exact .agg _ cs hl (fun j a b => ih j a b (bareL _ hr _ (List.getElem_mem a))) h1
 | tup l cs hl h ih =>
  intro hb
  simp only [SV.ren] at hb
  cases hr : SV.renL (fun _ => none) l with
  | none => rw [hr] at hb; cases hb
  | some l' =>
   rw [hr] at hb; injection hb with hb; injection hb with hb; subst hb
   exact .tup _ cs hl (fun j a b => ih j a b (bareL _ hr _ (List.getElem_mem a)))
 | fn f l cs hl h ih =>
  intro hb
  simp only [SV.ren] at hb
  cases hr : SV.renL (fun _ => none) l with
  | none => rw [hr] at hb; cases hb
  | some l' =>
   rw [hr] at hb; injection hb with hb; injection hb with _ hb; subst hb
   exact .fn f _ cs hl (fun j a b => ih j a b (bareL _ hr _ (List.getElem_mem a)))
 | rsl r A cap u hcap hsome hcell hden ih =>
  intro _
  refine .rsl r A cap u hcap (fun h0 => ?_) hcell (fun i j hi hj => ih i j hi hj (Zra _ r i _ (List.getElem_mem hj)))
  obtain ⟨ad, e, hl, hv⟩ := hsome h0
  exact ⟨ad, e, hl, fun hx => hv (hA _ hl hx)⟩
theorem Zw {PL PL' : Nat → Option Pl} {w : World} {Av Av' : Nat → Prop} (hA : ∀ b, b < w.heap.size → Av' b → Av b) (r : R) (A : Value) (h : Den PL w Av (.rsl r) A) : Den PL' w Av' (.rsl r) A := Z8f hA h rfl
theorem Zs0 {w : World} {Av Av' : Nat → Prop} (hA : ∀ r A, Den (fun _ => none) w Av (.rsl r) A → Den (fun _ => none) w Av' (.rsl r) A) (t : Ty) (d : D) (v : SV) (hv : v ∈ t.leaves d) (x : Value) (h : Den (fun _ => none) w Av v x) : Den (fun _ => none) w Av' v x :=
 Z7o (ρ := fun _ => none) (fun _ _ _ h => by cases h) v v x (Z7c _ t d v hv) hA h
theorem Znp {PL : Nat → Option Pl} {w : World} {Av Av' : Nat → Prop} : ∀ (t : Ty), t.clean = true → ∀ d x, x ∈ t.leaves d → ∀ u, Den PL w Av x u → Den PL w Av' x u := by
 intro t
 apply Ty.rec (motive_1 := fun t => t.clean = true → ∀ d x, x ∈ t.leaves d → ∀ u, Den PL w Av x u → Den PL w Av' x u) (motive_2 := fun ts => Ty.cleanL ts = true → ∀ d j x, x ∈ Ty.leavesL ts d j → ∀ u, Den PL w Av x u → Den PL w Av' x u)
 ·intro k _ d x hx u h; simp only [Ty.leaves, List.mem_singleton] at hx; subst hx; cases h; exact .v _
 ·intro _ d x hx u h; simp only [Ty.leaves, List.mem_singleton] at hx; subst hx; cases h; exact .v _
 ·intro _ d x hx u h; simp only [Ty.leaves, List.mem_singleton] at hx; subst hx; cases h; exact .str _
 ·intro T h; simp [Ty.clean] at h
 ·intro T k h; simp [Ty.clean] at h
 ·intro T e _ h; simp [Ty.clean] at h
 ·intro fs ih h d x hx u hu; simp only [Ty.clean] at h; simp only [Ty.leaves] at hx; exact ih h d 0 x hx u hu
 ·intro T h; simp [Ty.clean] at h
 ·intro n _ d x hx u h; simp only [Ty.leaves] at hx; obtain ⟨y, rfl⟩ := Zfi hx; cases h; exact .v _
 ·intro _ d j x hx; simp [Ty.leavesL] at hx
 intro t ts ih1 ih2 h d j x hx u hu
 unfold Ty.cleanL at h
 cases hc : t.clean with
 | false => rw [hc] at h; cases h
 | true =>
  rw [hc] at h
  simp only [Ty.leavesL, List.mem_append] at hx
  rcases hx with hx | hx
  ·exact ih1 hc _ x hx u hu
  exact ih2 h _ _ x hx u hu
mutual
theorem Zgl {PL : Nat → Option Pl} {w : World} {Av Av' : Nat → Prop} : ∀ (v : SV) (x : Value), v.clean = true → Den PL w Av v x → Den PL w Av' v x
 | .v y, x, _, d => by cases d; exact .v _
 | .str l, x, _, d => by cases d; exact .str _
 | .rpt r i o, x, h, d => by simp [SV.clean] at h
 | .rsl r, x, h, d => by simp [SV.clean] at h
 | .nsl, x, _, d => by cases d; exact .nsl
 | .ptr id o, x, _, d => by cases d with | ptr _ _ b p hp ha => exact .ptr id o b p hp ha
 | .ept id i o, x, _, d => by cases d with | ept _ _ _ b p hp ha hi => exact .ept id i o b p hp ha hi
 | .esl id i, x, _, d => by cases d with | esl _ _ b p hp ha hi => exact .esl id i b p hp ha hi
 | .sl id lo n, x, _, d => by cases d with | sl _ _ _ p A cap hp h1 h2 h3 h4 => exact .sl id lo n p A cap hp h1 h2 h3 h4
 | .wsl id, x, _, d => by cases d with | wsl _ p hp => exact .wsl id p hp
 | .mpv id, x, _, d => by cases d with | mpv _ b p hp ha => exact .mpv id b p hp ha
 | .agg l, x, h, d => by
  simp only [SV.clean] at h
  cases d with | agg _ cs hl hd h1 => obtain ⟨e1, e2⟩ := Z4u l cs h ⟨hl, hd⟩; exact .agg l cs e1 e2 h1
 | .tup l, x, h, d => by
  simp only [SV.clean] at h
  cases d with | tup _ cs hl hd => obtain ⟨e1, e2⟩ := Z4u l cs h ⟨hl, hd⟩; exact .tup l cs e1 e2
 | .fn f l, x, h, d => by
  simp only [SV.clean] at h
  cases d with | fn _ _ cs hl hd => obtain ⟨e1, e2⟩ := Z4u l cs h ⟨hl, hd⟩; exact .fn f l cs e1 e2
theorem Z4u {PL : Nat → Option Pl} {w : World} {Av Av' : Nat → Prop} : ∀ (l : List SV) (cs : List Value), SV.cleanL l = true → DensA PL w Av l cs → DensA PL w Av' l cs
 | [], cs, _, d => ⟨d.1, fun j h1 _ => absurd h1 (by simp)⟩
 | x :: xs, cs, h, d => by
  unfold SV.cleanL at h
  cases hc : x.clean with
  | false => rw [hc] at h; cases h
  | true =>
   rw [hc] at h
   obtain ⟨c, cs', rfl⟩ : ∃ c cs', cs = c :: cs' := by
    cases cs with
    | nil => have := d.1; simp at this
    | cons c cs' => exact ⟨c, cs', rfl⟩
   have d0 := Zgl (Av' := Av') x c hc (d.2 0 (by simp) (by simp))
   have dr := Z4u (Av' := Av') xs cs' h ⟨by have := d.1; simpa using this, fun j a b => d.2 (j + 1) (by simpa using a) (by simpa using b)⟩
   refine ⟨by simp [dr.1], fun j a b => ?_⟩
   cases j with
   | zero => exact d0
   | succ j => exact dr.2 j (by simpa using a) (by simpa using b)
end
def AnyOr (w : World) (Av Av' : Nat → Prop) (c : Bool) : Prop := (∀ r A, Den (fun _ => none) w Av (.rsl r) A → Den (fun _ => none) w Av' (.rsl r) A) ∨ c = true
theorem AnyOr.leaf {w : World} {Av Av' : Nat → Prop} {t : Ty} (h : AnyOr w Av Av' t.clean) (d : D) (v : SV) (hv : v ∈ t.leaves d) (x : Value) (hd : Den (fun _ => none) w Av v x) : Den (fun _ => none) w Av' v x := by
 rcases h with h | h
 ·exact Zs0 h t d v hv x hd
 exact Znp t h d v hv x hd
mutual
theorem TmOk.any {w : World} {Av Av' : Nat → Prop} : ∀ (tm : Tm) (d : D) (us : List Value) (bl : List Nat), AnyOr w Av Av' tm.clean → TmOk w Av tm d us bl → TmOk w Av' tm d us bl
 | .v t, d, us, bl, hA, h => by
  simp only [TmOk] at h ⊢
  exact ⟨h.1, h.2.1, fun j h1 h2 => ⟨AnyOr.leaf (by simpa only [Tm.clean] using hA) d _ (List.getElem_mem h1) _ (h.2.2 j h1 h2).1, (h.2.2 j h1 h2).2⟩⟩
 | .p T fs, d, us, bl, hA, h => by
  simp only [TmOk] at h ⊢
  obtain ⟨b, cs, bl', h1, h2, h3, h4⟩ := h
  exact ⟨b, cs, bl', h1, h2, h3, TmsOk.any fs d 0 cs.toList bl' (by simpa only [Tm.clean] using hA) h4⟩
 | .w T e, d, us, bl, hA, h => by
  simp only [TmOk] at h ⊢
  obtain ⟨p, h1, h2, h3, h5, h6⟩ := h
  refine ⟨p, h1, h2, h3, h5, ?_⟩
  rcases h6 with h6 | ⟨b, cs, g1, g2, g3, g4, g5, g6, g7⟩
  ·exact .inl h6
  exact .inr ⟨b, cs, g1, g2, g3, g4, g5, g6, fun i j hi hj h1 => by
   obtain ⟨u, e1, e2, e3⟩ := g7 i j hi hj h1
   exact ⟨u, e1, AnyOr.leaf (by simpa only [Tm.clean] using hA) _ _ (List.getElem_mem h1) _ e2, e3⟩⟩
theorem TmsOk.any {w : World} {Av Av' : Nat → Prop} : ∀ (ts : List Tm) (d : D) (j : Nat) (us : List Value) (bl : List Nat), AnyOr w Av Av' (Tm.cleanL ts) → TmsOk w Av ts d j us bl → TmsOk w Av' ts d j us bl
 | [], d, j, us, bl, hA, h => by simpa only [TmsOk] using h
 | t :: ts, d, j, us, bl, hA, h => by
  simp only [TmsOk] at h ⊢
  obtain ⟨u1, u2, b1, b2, e1, e2, h1, h2⟩ := h
  have a1 : AnyOr w Av Av' t.clean := by
   rcases hA with hA | hA
   ·exact .inl hA
   refine .inr ?_
   unfold Tm.cleanL at hA
   cases hc : t.clean with
   | true => rfl
   | false => rw [hc] at hA; cases hA
  have a2 : AnyOr w Av Av' (Tm.cleanL ts) := by
   rcases hA with hA | hA
   ·exact .inl hA
   refine .inr ?_
   unfold Tm.cleanL at hA
   cases hc : t.clean with
   | true => rw [hc] at hA; exact hA
   | false => rw [hc] at hA; cases hA
  exact ⟨u1, u2, b1, b2, e1, e2, TmOk.any t _ u1 b1 a1 h1, TmsOk.any ts d (j + 1) u2 b2 a2 h2⟩
end
theorem MvOk.any {w : World} {Av Av' : Nat → Prop} {t : Ty} {d : D} {v : Value} (hA : AnyOr w Av Av' t.clean) (h : MvOk w Av t d v) : MvOk w Av' t d v := by
 obtain ⟨cs, h1, h2, h4, h3⟩ := h
 exact ⟨cs, h1, h2, h4, fun j a b => ⟨hA.leaf d _ (List.getElem_mem a) _ (h3 j a b).1, (h3 j a b).2⟩⟩
theorem cleanCk {PL : Nat → Option Pl} {w : World} {Av Av' : Nat → Prop} {id : Nat} {c : Ck} (h : c.clean = true) (d : CkOk PL w Av id c) : CkOk PL w Av' id c := by
 cases c with
 | prow T tm n g => exact d
 | gho tm l o =>
  obtain ⟨p, hp, h1, h2, h3⟩ := d
  refine ⟨p, hp, h1, h2, fun i e he => ?_⟩
  have := h3 i e he
  cases o with
  | none => exact TmOk.any _ _ _ _ (.inr h) this
  | some o =>
   obtain ⟨k, cs⟩ := o
   simp only [Ck.clean] at h
   cases hc : tm.clean with
   | false => rw [hc] at h; cases h
   | true =>
    rw [hc] at h
    refine ⟨fun hk => ?_, fun hk => TmOk.any _ _ _ _ (.inr hc) (this.2 hk)⟩
    obtain ⟨a1, a2, a3⟩ := this.1 hk
    have := Z4u (Av' := Av') cs e.1 h ⟨by omega, fun j x y => (a3 j x y).1⟩
    exact ⟨a1, a2, fun j x y => ⟨this.2 j x y, (a3 j x y).2⟩⟩
 | mp t l =>
  obtain ⟨p, b, es, c, hp, ha, hh, hl, hd⟩ := d
  exact ⟨p, b, es, c, hp, ha, hh, hl, fun i d e h1 h2 => ⟨(hd i d e h1 h2).1, (hd i d e h1 h2).2.any (.inr h)⟩⟩
 | blk T vs =>
  obtain ⟨p, b, cs, hp, ha, hh, hl, hd⟩ := d
  refine ⟨p, b, cs, hp, ha, hh, hl, fun j h1 h2 => ⟨?_, (hd j h1 h2).2⟩⟩
  have := Z4u (Av' := Av') vs cs.toList h ⟨by simpa using hl, fun j a b => by simpa using (hd j a (by simpa using b)).1⟩
  have := this.2 j h1 (by simpa using h2)
  simpa using this
 | row r =>
  obtain ⟨p, hp, l1, l2, l3, hrow⟩ := Z14 d
  rcases hrow with ⟨h1, h2, h3⟩ | ⟨b, cs, g1, g2, g3, g4, g5, g6⟩
  ·exact Z54 hp l1 l2 l3 h1 h2 h3
  refine Z15 hp l1 l2 l3 g1 g2 g3 g4 g5 fun i j hi hj => ?_
  obtain ⟨u, e1, e2, e3⟩ := g6 i j hi hj
  refine ⟨u, e1, ?_, e3⟩
  cases r with
  | bs T l =>
   simp only [R.elem, List.length_singleton] at hj
   obtain rfl : j = 0 := by omega
   simp only [R.elem, List.getElem_cons_zero] at e2 ⊢
   cases e2
   exact .v _
  | ints T k l =>
   simp only [R.elem, List.length_singleton] at hj
   obtain rfl : j = 0 := by omega
   simp only [R.elem, List.getElem_cons_zero] at e2 ⊢
   cases e2
   exact .v _
  | row T e l => exact Znp e h _ _ (List.getElem_mem hj) u e2
theorem Z6b {ρ : Nat → Option Nat} {PL PL' : Nat → Option Pl} {w : World} {Av Av' : Nat → Prop} (hρ : ∀ i j p, ρ i = some j → PL i = some p → PL' j = some p) {i j : Nat} {c c' : Ck} (hij : ∀ p, PL i = some p → PL' j = some p) (h : c.ren ρ = some c')
  (hA : ∀ r A, Den PL w Av (.rsl r) A → Den PL' w Av' (.rsl r) A) (d : CkOk PL w Av i c) : CkOk PL' w Av' j c' := by
 have hN : ∀ r A, Den (fun _ => none) w Av (.rsl r) A → Den (fun _ => none) w Av' (.rsl r) A := fun r A h =>
  Zw (fun _ _ h => h) r A (hA r A (Zw (fun _ _ h => h) r A h))
 cases c with
 | prow T tm n g =>
  simp only [Ck.ren] at h
  cases hr : ρ g with
  | none => rw [hr] at h; cases h
  | some g' =>
   rw [hr] at h; injection h with h; subst h
   obtain ⟨p, q, hp, hq, h1⟩ := d
   exact ⟨p, q, hij _ hp, hρ _ _ _ hr hq, h1⟩
 | gho tm l o =>
  obtain ⟨p, hp, h1, h2, h3⟩ := d
  cases o with
  | none =>
   simp only [Ck.ren] at h
   injection h with h; subst h
   exact ⟨p, hij _ hp, h1, h2, fun i e he => TmOk.any _ _ _ _ (.inl hN) (h3 i e he)⟩
  | some o =>
   obtain ⟨k, cs⟩ := o
   simp only [Ck.ren] at h
   cases hr : SV.renL ρ cs with
   | none => rw [hr] at h; cases h
   | some cs' =>
    rw [hr] at h; injection h with h; subst h
    refine ⟨p, hij _ hp, h1, h2, fun i e he => ⟨fun hk => ?_, fun hk => TmOk.any _ _ _ _ (.inl hN) ((h3 i e he).2 hk)⟩⟩
    obtain ⟨a1, a2, a3⟩ := (h3 i e he).1 hk
    have := Z42 hρ cs cs' e.1 hr hA ⟨by omega, fun j x y => (a3 j x y).1⟩
    exact ⟨by have := this.1; omega, a2, fun j x y => ⟨this.2 j x y, (a3 j (by omega) y).2⟩⟩
 | mp t l =>
  simp only [Ck.ren] at h
  injection h with h; subst h
  obtain ⟨p, b, es, c, hp, ha, hh, hl, hd⟩ := d
  exact ⟨p, b, es, c, hij _ hp, ha, hh, hl, fun i d e h1 h2 => ⟨(hd i d e h1 h2).1, (hd i d e h1 h2).2.any (.inl hN)⟩⟩
 | blk T vs =>
  simp only [Ck.ren] at h
  cases hr : SV.renL ρ vs with
  | none => rw [hr] at h; cases h
  | some vs' =>
   rw [hr] at h; injection h with h; subst h
   obtain ⟨p, b, cs, hp, ha, hh, hl, hd⟩ := d
   have := Z42 hρ vs vs' cs.toList hr hA ⟨by simpa using hl, fun j a b => by simpa using (hd j a (by simpa using b)).1⟩
   refine ⟨p, b, cs, hij _ hp, ha, hh, by have := this.1; simpa using this, fun k h1 h2 => ⟨by have := this.2 k h1 (by simpa using h2); simpa using this, ?_⟩⟩
   have hk : k < vs.length := by omega
   exact (hd k hk h2).2
 | row r =>
  simp only [Ck.ren] at h
  injection h with h; subst h
  obtain ⟨p, hp, l1, l2, l3, hrow⟩ := Z14 d
  rcases hrow with ⟨h1, h2, h3⟩ | ⟨b, cs, g1, g2, g3, g4, g5, g6⟩
  ·exact Z54 (hij _ hp) l1 l2 l3 h1 h2 h3
  refine Z15 (hij _ hp) l1 l2 l3 g1 g2 g3 g4 g5 fun i j hi hj => ?_
  obtain ⟨u, e1, e2, e3⟩ := g6 i j hi hj
  refine ⟨u, e1, ?_, e3⟩
  have : ∀ (v : SV) (x : Value), v ∈ r.elem i → Den PL w Av v x → Den PL' w Av' v x := by
   cases r with
   | bs T l => intro v x hv hd; simp only [R.elem, List.mem_singleton] at hv; subst hv; cases hd; exact .v _
   | ints T k l => intro v x hv hd; simp only [R.elem, List.mem_singleton] at hv; subst hv; cases hd; exact .v _
   | row T e l =>
    intro v x hv hd
    have leaf : ∀ (t : Ty) (d : D) (v : SV), v ∈ t.leaves d → v.ren ρ = some v := by
     intro t
     apply Ty.rec (motive_1 := fun t => ∀ (d : D) (v : SV), v ∈ t.leaves d → v.ren ρ = some v) (motive_2 := fun ts => ∀ (d : D) (j : Nat) (v : SV), v ∈ Ty.leavesL ts d j → v.ren ρ = some v)
     ·intro k d v hx; simp only [Ty.leaves, List.mem_singleton] at hx; subst hx; rfl
     ·intro d v hx; simp only [Ty.leaves, List.mem_singleton] at hx; subst hx; rfl
     ·intro d v hx; simp only [Ty.leaves, List.mem_singleton] at hx; subst hx; rfl
     ·intro T d v hx; simp only [Ty.leaves, List.mem_singleton] at hx; subst hx; rfl
     ·intro T k d v hx; simp only [Ty.leaves, List.mem_singleton] at hx; subst hx; rfl
     ·intro T e _ d v hx; simp only [Ty.leaves, List.mem_singleton] at hx; subst hx; rfl
     ·intro fs ih d v hx; simp only [Ty.leaves] at hx; exact ih d 0 v hx
     ·intro T d v hx; simp only [Ty.leaves, List.mem_singleton] at hx; subst hx; rfl
     ·intro n d v hx; simp only [Ty.leaves] at hx; obtain ⟨y, rfl⟩ := Zfi hx; rfl
     ·intro d j v hx; simp [Ty.leavesL] at hx
     intro t ts ih1 ih2 d j v hx
     simp only [Ty.leavesL, List.mem_append] at hx
     rcases hx with hx | hx
     ·exact ih1 _ v hx
     exact ih2 _ _ v hx
    exact Z7o hρ v v x (leaf e _ v hv) hA hd
  exact this _ _ (List.getElem_mem hj) e2
mutual
theorem Zuv {ρ σ : Nat → Option Nat} (h : ∀ a j, ρ a = some j → σ j = some a) : ∀ v v' : SV, v.ren ρ = some v' → v'.ren σ = some v
 | .v y, v', e => by simp only [SV.ren] at e; injection e with e; subst e; rfl
 | .str l, v', e => by simp only [SV.ren] at e; injection e with e; subst e; rfl
 | .rpt r i o, v', e => by simp only [SV.ren] at e; injection e with e; subst e; rfl
 | .rsl r, v', e => by simp only [SV.ren] at e; injection e with e; subst e; rfl
 | .nsl, v', e => by simp only [SV.ren] at e; injection e with e; subst e; rfl
 | .ptr id o, v', e => by
  simp only [SV.ren] at e
  cases hr : ρ id with
  | none => rw [hr] at e; cases e
  | some j => rw [hr] at e; injection e with e; subst e; simp only [SV.ren, h _ _ hr]
 | .esl id i, v', e => by
  simp only [SV.ren] at e
  cases hr : ρ id with
  | none => rw [hr] at e; cases e
  | some j => rw [hr] at e; injection e with e; subst e; simp only [SV.ren, h _ _ hr]
 | .ept id i o, v', e => by
  simp only [SV.ren] at e
  cases hr : ρ id with
  | none => rw [hr] at e; cases e
  | some j => rw [hr] at e; injection e with e; subst e; simp only [SV.ren, h _ _ hr]
 | .sl id lo n, v', e => by
  simp only [SV.ren] at e
  cases hr : ρ id with
  | none => rw [hr] at e; cases e
  | some j => rw [hr] at e; injection e with e; subst e; simp only [SV.ren, h _ _ hr]
 | .wsl id, v', e => by
  simp only [SV.ren] at e
  cases hr : ρ id with
  | none => rw [hr] at e; cases e
  | some j => rw [hr] at e; injection e with e; subst e; simp only [SV.ren, h _ _ hr]
 | .mpv id, v', e => by
  simp only [SV.ren] at e
  cases hr : ρ id with
  | none => rw [hr] at e; cases e
  | some j => rw [hr] at e; injection e with e; subst e; simp only [SV.ren, h _ _ hr]
 | .agg l, v', e => by
  simp only [SV.ren] at e
  cases hr : SV.renL ρ l with
  | none => rw [hr] at e; cases e
  | some j => rw [hr] at e; injection e with e; subst e; simp only [SV.ren, Z53 h _ _ hr]
 | .tup l, v', e => by
  simp only [SV.ren] at e
  cases hr : SV.renL ρ l with
  | none => rw [hr] at e; cases e
  | some j => rw [hr] at e; injection e with e; subst e; simp only [SV.ren, Z53 h _ _ hr]
 | .fn f l, v', e => by
  simp only [SV.ren] at e
  cases hr : SV.renL ρ l with
  | none => rw [hr] at e; cases e
  | some j => rw [hr] at e; injection e with e; subst e; simp only [SV.ren, Z53 h _ _ hr]
theorem Z53 {ρ σ : Nat → Option Nat} (h : ∀ a j, ρ a = some j → σ j = some a) : ∀ l l' : List SV, SV.renL ρ l = some l' → SV.renL σ l' = some l
 | [], l', e => by simp only [SV.renL] at e; injection e with e; subst e; rfl
 | x :: xs, l', e => by
  unfold SV.renL at e
  cases h1 : x.ren ρ with
  | none => rw [h1] at e; cases e
  | some y =>
   rw [h1] at e
   simp only [] at e
   cases h2 : SV.renL ρ xs with
   | none => rw [h2] at e; cases e
   | some ys =>
    rw [h2] at e
    simp only [] at e
    injection e with e
    subst e
    simp only [SV.renL, Zuv h _ _ h1, Z53 h _ _ h2]
end
theorem Zpf {ρ σ : Nat → Option Nat} (h : ∀ a j, ρ a = some j → σ j = some a) (c c' : Ck) (e : c.ren ρ = some c') : c'.ren σ = some c := by
 cases c with
 | blk T vs =>
  simp only [Ck.ren] at e
  cases hr : SV.renL ρ vs with
  | none => rw [hr] at e; cases e
  | some l => rw [hr] at e; injection e with e; subst e; simp only [Ck.ren, Z53 h _ _ hr]
 | row r => simp only [Ck.ren] at e; injection e with e; subst e; rfl
 | prow T tm n g =>
  simp only [Ck.ren] at e
  cases hr : ρ g with
  | none => rw [hr] at e; cases e
  | some j => rw [hr] at e; injection e with e; subst e; simp only [Ck.ren, h _ _ hr]
 | gho tm l o =>
  cases o with
  | none => simp only [Ck.ren] at e; injection e with e; subst e; rfl
  | some o =>
   obtain ⟨k, cs⟩ := o
   simp only [Ck.ren] at e
   cases hr : SV.renL ρ cs with
   | none => rw [hr] at e; cases e
   | some l => rw [hr] at e; injection e with e; subst e; simp only [Ck.ren, Z53 h _ _ hr]
 | mp t l => simp only [Ck.ren] at e; injection e with e; subst e; rfl
theorem Z2q {ρ : Nat → Option Nat} {c c' : Ck} (e : c.ren ρ = some c') (p : Pl) (b : Nat) : c'.has p b ↔ c.has p b := by
 cases c with
 | blk T vs =>
  simp only [Ck.ren] at e
  cases hr : SV.renL ρ vs with
  | none => rw [hr] at e; cases e
  | some l => rw [hr] at e; injection e with e; subst e; exact Iff.rfl
 | row r => simp only [Ck.ren] at e; injection e with e; subst e; exact Iff.rfl
 | prow T tm n g =>
  simp only [Ck.ren] at e
  cases hr : ρ g with
  | none => rw [hr] at e; cases e
  | some j => rw [hr] at e; injection e with e; subst e; exact Iff.rfl
 | gho tm l o =>
  cases o with
  | none => simp only [Ck.ren] at e; injection e with e; subst e; exact Iff.rfl
  | some o =>
   obtain ⟨k, cs⟩ := o
   simp only [Ck.ren] at e
   cases hr : SV.renL ρ cs with
   | none => rw [hr] at e; cases e
   | some l => rw [hr] at e; injection e with e; subst e; exact Iff.rfl
 | mp t l => simp only [Ck.ren] at e; injection e with e; subst e; exact Iff.rfl
theorem Zgk (h : List (Nat × Ck)) : ∀ (ids : List Nat) (cks : List Ck), cksOf h ids = some cks → cks.length = ids.length ∧ ∀ (i : Nat) (a : i < ids.length) (b : i < cks.length), hget h ids[i] = some cks[i]
 | [], cks, e => by simp only [cksOf] at e; injection e with e; subst e; exact ⟨rfl, fun i a _ => absurd a (by simp)⟩
 | id :: ids, cks, e => by
  unfold cksOf at e
  cases h1 : hget h id with
  | none => rw [h1] at e; cases e
  | some c =>
   rw [h1] at e
   simp only [] at e
   cases h2 : cksOf h ids with
   | none => rw [h2] at e; cases e
   | some cs =>
    rw [h2] at e
    simp only [] at e
    injection e with e
    subst e
    obtain ⟨l, k⟩ := Zgk h ids cs h2
    refine ⟨by simp [l], fun i a b => ?_⟩
    cases i with
    | zero => exact h1
    | succ i => exact k i (by simpa using a) (by simpa using b)
theorem Zl5 {ρ : Nat → Option Nat} : ∀ (cks ccks : List Ck), Ck.renL ρ cks = some ccks → ccks.length = cks.length ∧ ∀ (i : Nat) (a : i < cks.length) (b : i < ccks.length), cks[i].ren ρ = some ccks[i]
 | [], ccks, e => by simp only [Ck.renL] at e; injection e with e; subst e; exact ⟨rfl, fun i a _ => absurd a (by simp)⟩
 | c :: cs, ccks, e => by
  unfold Ck.renL at e
  cases h1 : c.ren ρ with
  | none => rw [h1] at e; cases e
  | some d =>
   rw [h1] at e
   simp only [] at e
   cases h2 : Ck.renL ρ cs with
   | none => rw [h2] at e; cases e
   | some ds =>
    rw [h2] at e
    simp only [] at e
    injection e with e
    subst e
    obtain ⟨l, k⟩ := Zl5 cs ds h2
    refine ⟨by simp [l], fun i a b => ?_⟩
    cases i with
    | zero => exact h1
    | succ i => exact k i (by simpa using a) (by simpa using b)
theorem Z68 : ∀ (l : List PostC) (k i : Nat), i < k → ulook (pcan k l) i = none
 | [], k, i, h => rfl
 | .same :: l, k, i, h => Z68 l (k + 1) i (by omega)
 | .gone :: l, k, i, h => by simp only [pcan, ulook, Z68 l (k + 1) i (by omega), (Zm i k).2 (by omega)]
 | .to c :: l, k, i, h => by simp only [pcan, ulook, Z68 l (k + 1) i (by omega), (Zm i k).2 (by omega)]
theorem Z51 {ids : List Nat} {fresh : Nat} : ∀ (l : List PostC) (k : Nat) (pu : List (Nat × Option Ck)), postUpd ids fresh k l = some pu → ∀ j x, ulook pu j = some x →
  ∃ i y, k ≤ i ∧ ulook (pcan k l) i = some y ∧ back ids fresh i = some j ∧ ((y = none ∧ x = none) ∨ ∃ c c', y = some c ∧ c.ren (back ids fresh) = some c' ∧ x = some c')
 | [], k, pu, h, j, x, hx => by simp only [postUpd] at h; injection h with h; subst h; simp [ulook] at hx
 | .same :: l, k, pu, h, j, x, hx => by
  obtain ⟨i, y, a, b⟩ := Z51 l (k + 1) pu h j x hx
  exact ⟨i, y, by omega, b⟩
 | .gone :: l, k, pu, h, j, x, hx => by
  unfold postUpd at h
  cases hb : back ids fresh k with
  | none => rw [hb] at h; cases h
  | some j0 =>
   rw [hb] at h
   cases hr : postUpd ids fresh (k + 1) l with
   | none => rw [hr] at h; cases h
   | some pu' =>
    rw [hr] at h
    simp only [] at h
    injection h with h
    subst h
    simp only [ulook] at hx
    cases hl : ulook pu' j with
    | some z =>
     rw [hl] at hx
     simp only [] at hx
     injection hx with hx
     subst hx
     obtain ⟨i, y, a, b, c⟩ := Z51 l (k + 1) pu' hr j z hl
     exact ⟨i, y, by omega, by simp only [pcan, ulook, b], c⟩
    | none =>
     rw [hl] at hx
     simp only [] at hx
     cases hn : Nat.beq j j0 with
     | false => rw [hn] at hx; cases hx
     | true =>
      rw [hn] at hx
      simp only [] at hx
      injection hx with hx
      subst hx
      have := (nbeq j j0).1 hn
      subst this
      exact ⟨k, none, Nat.le_refl _, by simp only [pcan, ulook, Z68 l (k + 1) k (by omega), (nbeq k k).2 rfl], hb, .inl ⟨rfl, rfl⟩⟩
 | .to c :: l, k, pu, h, j, x, hx => by
  unfold postUpd at h
  cases hb : back ids fresh k with
  | none => rw [hb] at h; cases h
  | some j0 =>
   rw [hb] at h
   cases hc : c.ren (back ids fresh) with
   | none => rw [hc] at h; cases h
   | some c' =>
    rw [hc] at h
    cases hr : postUpd ids fresh (k + 1) l with
    | none => rw [hr] at h; cases h
    | some pu' =>
     rw [hr] at h
     simp only [] at h
     injection h with h
     subst h
     simp only [ulook] at hx
     cases hl : ulook pu' j with
     | some z =>
      rw [hl] at hx
      simp only [] at hx
      injection hx with hx
      subst hx
      obtain ⟨i, y, a, b, c⟩ := Z51 l (k + 1) pu' hr j z hl
      exact ⟨i, y, by omega, by simp only [pcan, ulook, b], c⟩
     | none =>
      rw [hl] at hx
      simp only [] at hx
      cases hn : Nat.beq j j0 with
      | false => rw [hn] at hx; cases hx
      | true =>
       rw [hn] at hx
       simp only [] at hx
       injection hx with hx
       subst hx
       have := (nbeq j j0).1 hn
       subst this
       exact ⟨k, some c, Nat.le_refl _, by simp only [pcan, ulook, Z68 l (k + 1) k (by omega), (nbeq k k).2 rfl], hb, .inr ⟨c, c', rfl, hc, rfl⟩⟩
theorem Z69 {ids : List Nat} {fresh : Nat} (hinj : ∀ i i' j, back ids fresh i = some j → back ids fresh i' = some j → i = i') : ∀ (l : List PostC) (k : Nat) (pu : List (Nat × Option Ck)), postUpd ids fresh k l = some pu → ∀ i y, ulook (pcan k l) i = some y →
  ∃ j x, back ids fresh i = some j ∧ ulook pu j = some x ∧ ((y = none ∧ x = none) ∨ ∃ c c', y = some c ∧ c.ren (back ids fresh) = some c' ∧ x = some c')
 | [], k, pu, h, i, y, hy => by simp [pcan, ulook] at hy
 | .same :: l, k, pu, h, i, y, hy => Z69 hinj l (k + 1) pu h i y hy
 | .gone :: l, k, pu, h, i, y, hy => by
  unfold postUpd at h
  cases hb : back ids fresh k with
  | none => rw [hb] at h; cases h
  | some j0 =>
   rw [hb] at h
   cases hr : postUpd ids fresh (k + 1) l with
   | none => rw [hr] at h; cases h
   | some pu' =>
    rw [hr] at h
    simp only [] at h
    injection h with h
    subst h
    simp only [pcan, ulook] at hy
    cases hl : ulook (pcan (k + 1) l) i with
    | some z =>
     rw [hl] at hy
     simp only [] at hy
     injection hy with hy
     subst hy
     obtain ⟨j, x, a, b, c⟩ := Z69 hinj l (k + 1) pu' hr i z hl
     exact ⟨j, x, a, by simp only [ulook, b], c⟩
    | none =>
     rw [hl] at hy
     simp only [] at hy
     cases hn : Nat.beq i k with
     | false => rw [hn] at hy; cases hy
     | true =>
      rw [hn] at hy
      simp only [] at hy
      injection hy with hy
      subst hy
      have := (nbeq i k).1 hn
      subst this
      refine ⟨j0, none, hb, ?_, .inl ⟨rfl, rfl⟩⟩
      simp only [ulook]
      cases hq : ulook pu' j0 with
      | none => simp only [(nbeq j0 j0).2 rfl]
      | some z =>
       obtain ⟨i2, y2, a, b, c, d⟩ := Z51 l (i + 1) pu' hr j0 z hq
       have := hinj _ _ _ c hb
       omega
 | .to c :: l, k, pu, h, i, y, hy => by
  unfold postUpd at h
  cases hb : back ids fresh k with
  | none => rw [hb] at h; cases h
  | some j0 =>
   rw [hb] at h
   cases hc : c.ren (back ids fresh) with
   | none => rw [hc] at h; cases h
   | some c' =>
    rw [hc] at h
    cases hr : postUpd ids fresh (k + 1) l with
    | none => rw [hr] at h; cases h
    | some pu' =>
     rw [hr] at h
     simp only [] at h
     injection h with h
     subst h
     simp only [pcan, ulook] at hy
     cases hl : ulook (pcan (k + 1) l) i with
     | some z =>
      rw [hl] at hy
      simp only [] at hy
      injection hy with hy
      subst hy
      obtain ⟨j, x, a, b, c⟩ := Z69 hinj l (k + 1) pu' hr i z hl
      exact ⟨j, x, a, by simp only [ulook, b], c⟩
     | none =>
      rw [hl] at hy
      simp only [] at hy
      cases hn : Nat.beq i k with
      | false => rw [hn] at hy; cases hy
      | true =>
       rw [hn] at hy
       simp only [] at hy
       injection hy with hy
       subst hy
       have := (nbeq i k).1 hn
       subst this
       refine ⟨j0, some c', hb, ?_, .inr ⟨c, c', rfl, hc, rfl⟩⟩
       simp only [ulook]
       cases hq : ulook pu' j0 with
       | none => simp only [(nbeq j0 j0).2 rfl]
       | some z =>
        obtain ⟨i2, y2, a, b, e, d⟩ := Z51 l (i + 1) pu' hr j0 z hq
        have := hinj _ _ _ e hb
        omega
theorem Z80 : ∀ (u v : List (Nat × Option Ck)) (i : Nat), ulook (u ++ v) i = match ulook v i with | some x => some x | none => ulook u i
 | [], v, i => by cases h : ulook v i <;> simp [ulook, h]
 | (j, c) :: u, v, i => by
  simp only [List.cons_append, ulook, Z80 u v i]
  cases ulook v i <;> rfl
theorem Zdf : ∀ (ids : List Nat) (cks : List Ck), ids.Nodup → ids.length = cks.length → (∀ id x, ulook (sameU ids cks) id = some x → ∃ (i : Nat) (a : i < ids.length) (b : i < cks.length), id = ids[i] ∧ x = some cks[i]) ∧
  ∀ (i : Nat) (a : i < ids.length) (b : i < cks.length), ulook (sameU ids cks) ids[i] = some (some cks[i])
 | [], [], _, _ => ⟨fun id x h => by simp [sameU, ulook] at h, fun i a _ => absurd a (by simp)⟩
 | [], c :: cs, _, h => by simp at h
 | i :: is, [], _, h => by simp at h
 | i :: is, c :: cs, hn, hl => by
  obtain ⟨h1, h2⟩ := List.nodup_cons.1 hn
  obtain ⟨p, q⟩ := Zdf is cs h2 (by simpa using hl)
  refine ⟨fun id x h => ?_, fun j a b => ?_⟩
  ·simp only [sameU, ulook] at h
   cases hu : ulook (sameU is cs) id with
   | some z =>
    rw [hu] at h
    simp only [] at h
    injection h with h
    subst h
    obtain ⟨k, a, b, e1, e2⟩ := p id z hu
    exact ⟨k + 1, by simpa using a, by simpa using b, by simpa using e1, by simpa using e2⟩
   | none =>
    rw [hu] at h
    simp only [] at h
    cases hb : Nat.beq id i with
    | false => rw [hb] at h; cases h
    | true =>
     rw [hb] at h
     simp only [] at h
     injection h with h
     exact ⟨0, by simp, by simp, by simpa using (nbeq id i).1 hb, by simpa using h.symm⟩
  cases j with
  | zero =>
   simp only [List.getElem_cons_zero, sameU, ulook]
   cases hu : ulook (sameU is cs) i with
   | some z =>
    obtain ⟨k, a, b, e1, e2⟩ := p i z hu
    exact absurd (e1 ▸ List.getElem_mem a) h1
   | none => simp only [(nbeq i i).2 rfl]
  | succ j =>
   have := q j (by simpa using a) (by simpa using b)
   simp only [List.getElem_cons_succ, sameU, ulook, this]
section
variable {P : Program} {C : Ctx} {PL : Nat → Option Pl} {s : St} {Fr : Nat → Prop} {a : Act} {w : World} {o : Oper} {Q : Exit → Act → World → Prop}
theorem Znt : ∀ (u : List (Nat × Option Ck)) (j : Nat), j ∉ ukeys u → ulook u j = none
 | [], j, h => rfl
 | (i, c) :: l, j, h => by
  simp only [ukeys, List.mem_cons, not_or] at h
  simp only [ulook, Znt l j h.2, (Zm _ _).2 h.1]
theorem Zns : ∀ (u v : List (Nat × Option Ck)) (j : Nat), ulook (u ++ v) j = match ulook v j with | some x => some x | none => ulook u j
 | [], v, j => by simp only [List.nil_append, ulook]; cases ulook v j <;> rfl
 | (i, c) :: l, v, j => by
  simp only [List.cons_append, ulook, Zns l v j]
  cases ulook v j <;> rfl
theorem Zfj (keep : List Nat) : ∀ (u : List (Nat × Option Ck)) (j : Nat), ulook (dropU keep u) j = match nmem j keep with | true => none | false => ulook u j
 | [], j => by simp only [dropU, ulook]; split <;> rfl
 | (i, c) :: l, j => by
  simp only [dropU]
  cases hi : nmem i keep with
  | true =>
   simp only [Zfj keep l j, ulook]
   cases hj : nmem j keep with
   | true => rfl
   | false =>
    have hne : j ≠ i := by intro e; subst e; rw [hi] at hj; cases hj
    simp only [(Zm _ _).2 hne]
    cases ulook l j <;> rfl
  | false =>
   simp only [ulook, Zfj keep l j]
   cases hj : nmem j keep with
   | true =>
    have hne : j ≠ i := by intro e; subst e; rw [hi] at hj; cases hj
    simp only [(Zm _ _).2 hne]
   | false => rfl
theorem Zcl : ∀ (ids : List Nat) (sm : List Bool) (i : Nat), i ∈ keepIds ids sm → i ∈ ids
 | [], sm, i, h => by cases sm <;> simp [keepIds] at h
 | j :: ids, [], i, h => by simp [keepIds] at h
 | j :: ids, true :: sm, i, h => by
  simp only [keepIds, List.mem_cons] at h ⊢
  rcases h with h | h
  ·exact .inl h
  exact .inr (Zcl ids sm i h)
 | j :: ids, false :: sm, i, h => List.mem_cons_of_mem _ (Zcl ids sm i (by simpa [keepIds] using h))
theorem HSat.ext {C : Ctx} {PL : Nat → Option Pl} {hp hp' : List (Nat × Ck)} {Fr : Nat → Prop} {w : World} (h : HSat C PL hp Fr w) (e : ∀ j, hget hp' j = hget hp j) : HSat C PL hp' Fr w := by
 have ho : ∀ b, Own PL hp' b ↔ Own PL hp b := fun b => by
  constructor
  ·rintro ⟨id, c, p, h1, h2, h3⟩; exact ⟨id, c, p, by rw [← e]; exact h1, h2, h3⟩
  rintro ⟨id, c, p, h1, h2, h3⟩; exact ⟨id, c, p, by rw [e]; exact h1, h2, h3⟩
 have hA : ∀ b, b < w.heap.size → (C.Z b ∨ Own PL hp' b) → (C.Z b ∨ Own PL hp b) := fun b _ hb => by rwa [ho] at hb
 exact ⟨fun id c hc => (h.ck id c (by rw [← e]; exact hc)).mono (fun _ _ h => h) (Nat.le_refl _) (fun _ _ _ => rfl) hA (fun _ _ _ _ => rfl), fun i j c d p q b h1 h2 => h.dj i j c d p q b (by rw [← e]; exact h1) (by rw [← e]; exact h2), fun b hb => h.own b ((ho b).1 hb), h.os, h.tape, h.output, h.size, h.old, h.zlt, h.fr, h.arg⟩
theorem Sat.ext {C : Ctx} {PL : Nat → Option Pl} {s t : St} {Fr : Nat → Prop} {a : Act} {w : World} (h : Sat C PL s Fr a w) (e1 : t.fr = s.fr) (e2 : t.nx = s.nx) (e : ∀ j, hget t.hp j = hget s.hp j) : Sat C PL t Fr a w := by
 have hA : ∀ b, b < w.heap.size → Avo C PL t.hp b → Avo C PL s.hp b := fun b _ hb => by
  rcases hb with hz | ⟨id, c, p, h1, h2, h3⟩
  ·exact .inl hz
  exact .inr ⟨id, c, p, by rw [← e]; exact h1, h2, h3⟩
 exact { h.toHSat.ext e with len := by rw [e1]; exact h.len, def_ := h.def_.mono (Nat.le_refl _) (fun _ _ _ => rfl) hA, slot := fun i v hv => (h.slot i v (by rw [← e1]; exact hv)).mono (fun _ _ h => h) (Nat.le_refl _) (fun _ _ _ => rfl) hA }
theorem Z3w {hp : List (Nat × Ck)} (h : HSat C PL hp Fr w) {v : SV} {id : Nat} {r : R} {x : Value} (hv : v = .wsl id ∨ ∃ lo n, v = .sl id lo n) (hr : rowS hp v = some r) (hd : Den PL w (Avo C PL hp) v x) {Av' : Nat → Prop} (hA : ∀ b, b < w.heap.size → Av' b → Avo C PL hp b)
  (hno : ∀ p b, PL id = some p → p.a = some ⟨b, 0, none⟩ → ¬ Av' b) : Den PL w Av' (.rsl r) x := by
 obtain ⟨A, cap, e, hcap, hsome, hcell⟩ := Z1l h hr hd
 have hblk : ∀ ad, A = some ad → 0 < rlen r → ∃ p b, PL id = some p ∧ p.a = some ⟨b, 0, none⟩ ∧ ad.block = b := by
  intro ad hA0 h0
  subst e
  rcases hv with rfl | ⟨lo, n, rfl⟩
  ·generalize hrl : rlen r = rl at hd
   cases hd with
   | wsl _ p hp' =>
    obtain ⟨q, hq, l1, l2, l3, hrow⟩ := Z14 (h.ck id _ (Zf hr))
    rw [hp'] at hq; injection hq with hq; subst hq
    rcases hrow with ⟨hn, _⟩ | ⟨b, cs, g1, _⟩
    ·rw [hn] at hA0; cases hA0
    rw [g1] at hA0; injection hA0 with hA0; subst hA0; exact ⟨p, b, hp', g1, rfl⟩
  have hr' := hr
  simp only [rowS] at hr'
  cases hro : rowOf hp id with
  | none => rw [hro] at hr'; cases hr'
  | some q0 =>
   generalize hrl : rlen r = rl at hd h0
   cases hd with
   | sl _ _ _ p _ _ hp' hl hc hn hAA =>
    obtain ⟨q, hq, l1, l2, l3, hrow⟩ := Z14 (h.ck id _ (Zf hro))
    rw [hp'] at hq; injection hq with hq; subst hq
    rcases hrow with ⟨hn', _⟩ | ⟨b, cs, g1, _⟩
    ·rw [hn.2 hn'] at hA0; cases hA0
    have := hAA (by omega)
    rw [hA0, g1] at this
    simp only [Option.map_some] at this
    injection this with this
    subst this
    exact ⟨p, b, hp', g1, by rw [Z5m]⟩
 subst e
 refine .rsl r A cap (fun i j => ((A.bind fun ad => w.cell? ((ad.add (i * r.sz)).add j))).getD undef) hcap (fun h0 => ?_) (fun i j ad hA0 hi hj => ?_) (fun i j hi hj => ?_)
 ·obtain ⟨ad, hA0⟩ := Option.isSome_iff_exists.1 (hsome h0)
  obtain ⟨p, b, h1, h2, h3⟩ := hblk ad hA0 h0
  refine ⟨ad, hA0, ?_, ?_⟩
  ·rcases hv with rfl | ⟨lo, n, rfl⟩
   ·exact h3 ▸ (h.ck id _ (Zf hr)).lt h1 h2
   simp only [rowS] at hr
   cases hro : rowOf hp id with
   | none => rw [hro] at hr; cases hr
   | some q0 => exact h3 ▸ (h.ck id _ (Zf hro)).lt h1 h2
  rw [h3]; exact hno p b h1 h2
 ·obtain ⟨u, e1, e2, e3⟩ := hcell ad hA0 i j hi (by rw [R.elem_len]; exact hj)
  simp only [hA0, Option.bind_some, e1, Option.getD_some]
  exact ⟨trivial, e3⟩
 obtain ⟨ad, hA0⟩ := Option.isSome_iff_exists.1 (hsome (by omega))
 obtain ⟨u, e1, e2, e3⟩ := hcell ad hA0 i j hi hj
 simp only [hA0, Option.bind_some, e1, Option.getD_some]
 exact e2.mono (fun _ _ h => h) (Nat.le_refl _) (fun _ _ _ => rfl) hA
theorem Zco {hp : List (Nat × Ck)} (h : HSat C PL hp Fr w) {Av' : Nat → Prop} (hA : ∀ b, b < w.heap.size → Av' b → Avo C PL hp b) : ∀ (ro : List (Option RK)) (vs ws : List SV) (args : List Value) (lent : Bool),
  lends hp ro vs = some (ws, lent) → (∀ id ∈ lentIds ro vs, ∀ p b, PL id = some p → p.a = some ⟨b, 0, none⟩ → ¬ Av' b) → DensA PL w (Avo C PL hp) vs args → DensA PL w Av' ws args ∧ (lent = false → lentIds ro vs = [])
 | ro, [], ws, args, lent, hl, _, hd => by
  cases ro <;> (simp only [lends] at hl; injection hl with hl; injection hl with h1 h2; subst h1; subst h2; exact ⟨⟨hd.1, fun j a _ => absurd a (by simp)⟩, fun _ => by simp [lentIds]⟩)
 | [], x :: xs, ws, args, lent, hl, hn, hd => by
  simp only [lends] at hl
  cases h1 : lends hp [] xs with
  | none => rw [h1] at hl; cases hl
  | some q =>
   obtain ⟨ys, b⟩ := q
   rw [h1] at hl
   simp only [] at hl
   injection hl with hl; injection hl with e1 e2; subst e1; subst e2
   obtain ⟨c, cs', rfl⟩ : ∃ c cs', args = c :: cs' := by
    cases args with
    | nil => have := hd.1; simp at this
    | cons c cs' => exact ⟨c, cs', rfl⟩
   have d0 : Den PL w Av' x c := (hd.2 0 (by simp) (by simp)).mono (fun _ _ h => h) (Nat.le_refl _) (fun _ _ _ => rfl) hA
   obtain ⟨dr, dl⟩ := Zco h hA [] xs ys cs' b h1 (fun id hid => by simp [lentIds] at hid) ⟨by have := hd.1; simpa using this, fun j a b => hd.2 (j + 1) (by simpa using a) (by simpa using b)⟩
   refine ⟨⟨by simp [dr.1], fun j a b => ?_⟩, fun _ => by simp [lentIds]⟩
   cases j with
   | zero => exact d0
   | succ j => exact dr.2 j (by simpa using a) (by simpa using b)
 | b0 :: ro, x :: xs, ws, args, lent, hl, hn, hd => by
  simp only [lends] at hl
  cases h0 : lend hp b0 x with
  | none => rw [h0] at hl; cases hl
  | some q0 =>
   obtain ⟨y, c0⟩ := q0
   rw [h0] at hl
   simp only [] at hl
   cases h1 : lends hp ro xs with
   | none => rw [h1] at hl; cases hl
   | some q =>
    obtain ⟨ys, b⟩ := q
    rw [h1] at hl
    simp only [] at hl
    injection hl with hl; injection hl with e1 e2; subst e1; subst e2
    obtain ⟨c, cs', rfl⟩ : ∃ c cs', args = c :: cs' := by
     cases args with
     | nil => have := hd.1; simp at this
     | cons c cs' => exact ⟨c, cs', rfl⟩
    have dx := hd.2 0 (by simp) (by simp)
    simp only [List.getElem_cons_zero] at dx
    have plain : Den PL w Av' x c := dx.mono (fun _ _ h => h) (Nat.le_refl _) (fun _ _ _ => rfl) hA
    have tailsub : ∀ id ∈ lentIds ro xs, id ∈ lentIds (b0 :: ro) (x :: xs) := by
     intro id hid
     cases b0 with
     | none => simpa [lentIds] using hid
     | some rk => cases x <;> simp [lentIds, hid]
    obtain ⟨dr, dl⟩ := Zco h hA ro xs ys cs' b h1 (fun id hid => hn id (tailsub id hid)) ⟨by have := hd.1; simpa using this, fun j a b => hd.2 (j + 1) (by simpa using a) (by simpa using b)⟩
    have d0 : Den PL w Av' y c ∧ (c0 = false → lentIds (b0 :: ro) (x :: xs) = lentIds ro xs) := by
     cases b0 with
     | none =>
      simp only [lend] at h0
      injection h0 with h0; injection h0 with e1 e2; subst e1
      exact ⟨plain, fun _ => rfl⟩
     | some rk =>
      cases x with
      | wsl id =>
       simp only [lend] at h0
       split at h0
       ·rename_i r hr
        injection h0 with h0; injection h0 with e1 e2; subst e1; subst e2
        exact ⟨Z3w h (id := id) (.inl rfl) (by simp [rowS, rowOf, hr]) dx hA (hn id (by simp [lentIds])), fun h => by cases h⟩
       cases h0
      | sl id lo n =>
       simp only [lend] at h0
       split at h0
       ·rename_i r hr
        injection h0 with h0; injection h0 with e1 e2; subst e1; subst e2
        exact ⟨Z3w h (id := id) (.inr ⟨lo, n, rfl⟩) (by simp [rowS, rowOf, hr]) dx hA (hn id (by simp [lentIds])), fun h => by cases h⟩
       cases h0
      | nsl =>
       simp only [lend] at h0
       injection h0 with h0; injection h0 with e1 e2; subst e1
       exact ⟨Z1j (by cases rk <;> rfl) plain, fun _ => by simp [lentIds]⟩
      | _ =>
       simp only [lend] at h0
       injection h0 with h0; injection h0 with e1 e2; subst e1
       exact ⟨plain, fun _ => by simp [lentIds]⟩
    refine ⟨⟨by simp [dr.1], fun j a b => ?_⟩, fun hf => ?_⟩
    ·cases j with
     | zero => exact d0.1
     | succ j => exact dr.2 j (by simpa using a) (by simpa using b)
    cases c0 with
    | true => cases hf
    | false => rw [d0.2 rfl]; exact dl hf
end
theorem Z1s {ids : List Nat} {fresh i : Nat} (h : i < ids.length) : back ids fresh i = some ids[i] := by
 simp [back, nth, h]
theorem Z5n {ids : List Nat} {fresh i j : Nat} (h : ids.length ≤ i) (hb : back ids fresh i = some j) : i < ids.length + 8 ∧ j = fresh + (i - ids.length) := by
 have hn : ids[i]? = none := List.getElem?_eq_none h
 simp only [back, nth, hn] at hb
 cases hc : Nat.ble (i + 1) (ids.length + 8) with
 | false => rw [hc] at hb; cases hb
 | true =>
  rw [hc] at hb
  simp only [] at hb
  injection hb with hb
  exact ⟨by have := Nat.le_of_ble_eq_true hc; omega, hb.symm⟩
section
variable {P : Program} {C : Ctx} {PL : Nat → Option Pl} {s : St} {Fr : Nat → Prop} {a : Act} {w : World} {o : Oper} {Q : Exit → Act → World → Prop} {Γ : FuncId → Option Con}
theorem CkOk.weak {PL : Nat → Option Pl} {w : World} {Av Av' : Nat → Prop} {id : Nat} {c : Ck} (h : CkOk PL w Av id c) (hA : ∀ b, b < w.heap.size → Av' b → Av b) : CkOk PL w Av' id c :=
 h.mono (fun _ _ h => h) (Nat.le_refl _) (fun _ _ _ => rfl) hA (fun _ _ _ _ => rfl)
theorem Zlq (hΓ : TabOK P Γ) (h : Sat C PL s Fr a w) {fresh : Nat} (hfr : ∀ i, fresh ≤ i → i < fresh + 8 → Fr i) (hk : C.k ≤ fresh) {f : FuncId} {vs : List SV} {E : Eff} (hE : callS Γ f vs s fresh = some E) (hob : ∀ p ∈ E.ob, p) {args : List Value}
  (hargs : DensA PL w (Avo C PL s.hp) vs args) (hrun : (execOp a.eval o).run P w = .ok (.enter f args.toArray) w) :
  o.wp P a w (Eff.post E C s o.dst (fun i => Fr i ∧ ¬ (fresh ≤ i ∧ i < fresh + 8))) Q := by
 unfold callS at hE
 cases hcon : Γ f with
 | none => rw [hcon] at hE; cases hE
 | some con =>
 rw [hcon] at hE
 simp only [] at hE
 cases hlends : lends s.hp con.ro vs with
 | none => rw [hlends] at hE; cases hE
 | some q =>
 obtain ⟨ws, lent⟩ := q
 rw [hlends] at hE
 simp only [] at hE
 generalize reach s.hp 40 (SV.idsL ws) [] = ids at hE
 unfold callT at hE
 cases hra : SV.renL (fun i => npos i ids 0) ws with
 | none => rw [hra] at hE; cases hE
 | some cargs =>
 rw [hra] at hE
 simp only [] at hE
 cases hcks : cksOf s.hp ids with
 | none => rw [hcks] at hE; cases hE
 | some cks =>
 rw [hcks] at hE
 simp only [] at hE
 cases hcc : Ck.renL (fun i => npos i ids 0) cks with
 | none => rw [hcc] at hE; cases hE
 | some ccks =>
 rw [hcc] at hE
 simp only [] at hE
 cases hdj : ndisj (lentIds con.ro vs) ids with
 | false => rw [hdj] at hE; cases hE
 | true =>
 rw [hdj] at hE
 simp only [] at hE
 cases hnd : nnodup ids with
 | false => rw [hnd] at hE; cases hE
 | true =>
 rw [hnd] at hE
 simp only [] at hE
 cases hce : con.f cargs ccks with
 | none => rw [hce] at hE; cases hE
 | some ce =>
 rw [hce] at hE
 simp only [] at hE
 have hdis := Z2o _ _ hdj
 have hnod := Z50 _ hnd
 obtain ⟨lck, gck⟩ := Zgk s.hp ids cks hcks
 obtain ⟨lcc, gcc⟩ := Zl5 cks ccks hcc
 have hkl : ccks.length = ids.length := by omega
 let PLc : Nat → Option Pl := fun i => (ids[i]?).bind PL
 have PLc_lt : ∀ (i : Nat) (hi : i < ids.length), PLc i = PL ids[i] := fun i hi => by simp [PLc, hi]
 have PLc_ge : ∀ i, ids.length ≤ i → PLc i = none := fun i hi => by simp [PLc, List.getElem?_eq_none hi]
 let Zc : Nat → Prop := fun b => C.Z b ∨ ∃ id c p, hget s.hp id = some c ∧ PL id = some p ∧ c.has p b ∧ id ∉ ids ∧ id ∉ lentIds con.ro vs
 have npos_id : ∀ x j, npos x ids 0 = some j → ∃ h : j < ids.length, ids[j] = x := fun x j e => by
  obtain ⟨_, h2⟩ := Zjo ids x 0 j e
  obtain ⟨h3, h4⟩ := List.getElem?_eq_some_iff.1 (by simpa using h2 : ids[j]? = some x)
  exact ⟨h3, h4⟩
 have own_c : ∀ b, Own PLc (canon 0 ccks) b ↔ ∃ (i : Nat) (hi : i < ids.length) (p : Pl), PL ids[i] = some p ∧ (cks[i]'(by omega)).has p b := fun b => by
  constructor
  ·rintro ⟨i, c, p, h1, h2, h3⟩
   rw [Z2l, if_pos (Nat.zero_le _)] at h1
   have hi : i < ids.length := by have := (List.getElem?_eq_some_iff.1 h1).1; omega
   simp only [Nat.sub_zero] at h1
   obtain ⟨hi2, e1⟩ := List.getElem?_eq_some_iff.1 h1
   exact ⟨i, hi, p, by rw [← PLc_lt i hi]; exact h2, (Z2q (gcc i (by omega) hi2) p b).1 (by rw [e1]; exact h3)⟩
  rintro ⟨i, hi, p, h1, h2⟩
  refine ⟨i, ccks[i]'(by omega), p, ?_, by rw [PLc_lt i hi]; exact h1, (Z2q (gcc i (by omega) (by omega)) p b).2 h2⟩
  rw [Z2l, if_pos (Nat.zero_le _)]
  simp [show i < ccks.length by omega]
 have avc : ∀ b, b < w.heap.size → Avo (ctxOf w Zc PLc ccks) PLc (canon 0 ccks) b → Avo C PL s.hp b := by
  rintro b hb (hz | ho)
  ·rcases hz with hz | ⟨id, c, p, h1, h2, h3, _⟩
   ·exact .inl hz
   exact .inr ⟨id, c, p, h1, h2, h3⟩
  obtain ⟨i, hi, p, h1, h2⟩ := (own_c b).1 ho
  exact .inr ⟨ids[i], _, p, gck i hi (by omega), h1, h2⟩
 have hρ : ∀ i j p, npos i ids 0 = some j → PL i = some p → PLc j = some p := fun i j p e hp => by
  obtain ⟨hj, e2⟩ := npos_id i j e
  rw [PLc_lt j hj, e2]; exact hp
 have HC : HSat (ctxOf w Zc PLc ccks) PLc (canon 0 ccks) (fun i => ccks.length ≤ i) w := by
  refine ⟨?_, ?_, ?_, rfl, rfl, rfl, Nat.le_refl _, fun _ _ _ => rfl, ?_, fun i hi => PLc_ge i (by omega), fun _ _ => rfl⟩
  ·intro i c hc
   rw [Z2l, if_pos (Nat.zero_le _)] at hc
   obtain ⟨hi, hc⟩ := List.getElem?_eq_some_iff.1 hc
   simp only [Nat.sub_zero] at hi hc
   subst hc
   have hi' : i < ids.length := by omega
   exact Z6b hρ (fun p hp => by rw [PLc_lt i hi']; exact hp) (gcc i (by omega) hi) (Zw avc) (h.ck ids[i] _ (gck i hi' (by omega)))
  ·intro i j c d p q b hi hj hp hq ha hb
   rw [Z2l, if_pos (Nat.zero_le _)] at hi hj
   have hi' : i < ids.length := by have := (List.getElem?_eq_some_iff.1 hi).1; omega
   have hj' : j < ids.length := by have := (List.getElem?_eq_some_iff.1 hj).1; omega
   simp only [Nat.sub_zero] at hi hj
   obtain ⟨hi2, e1⟩ := List.getElem?_eq_some_iff.1 hi
   obtain ⟨hj2, e2⟩ := List.getElem?_eq_some_iff.1 hj
   rw [PLc_lt i hi'] at hp
   rw [PLc_lt j hj'] at hq
   have := h.dj ids[i] ids[j] _ _ p q b (gck i hi' (by omega)) (gck j hj' (by omega)) hp hq ((Z2q (gcc i (by omega) hi2) p b).1 (by rw [e1]; exact ha)) ((Z2q (gcc j (by omega) hj2) q b).1 (by rw [e2]; exact hb))
   exact (List.getElem_inj hnod).1 this
  ·intro b ho
   refine ⟨?_, .inl ho⟩
   obtain ⟨i, hi, p, h1, h2⟩ := (own_c b).1 ho
   rintro (hz | ⟨id, c, p', e1, e2, e3, e4, _⟩)
   ·exact (h.own b ⟨ids[i], _, p, gck i hi (by omega), h1, h2⟩).1 hz
   have := h.dj id ids[i] _ _ p' p b e1 (gck i hi (by omega)) e2 h1 e3 h2
   exact e4 (this ▸ List.getElem_mem hi)
  refine ⟨?_, fun g r hg => (h.glob hg).mono (fun _ _ h => by cases h) (Nat.le_refl _) (fun _ _ _ => rfl) avc⟩
  rintro b (hz | ⟨id, c, p, e1, e2, e3, _⟩)
  ·exact Nat.lt_of_lt_of_le (h.zlt.1 b hz) h.size
  exact (h.ck id c e1).lt e2 e3
 have hnolent : ∀ id ∈ lentIds con.ro vs, ∀ p b, PL id = some p → p.a = some ⟨b, 0, none⟩ → (∃ r, hget s.hp id = some (.row r)) → ¬ Avo (ctxOf w Zc PLc ccks) PLc (canon 0 ccks) b := by
  intro id hid p b hp ha hlive hx
  obtain ⟨r, hc⟩ := hlive
  rcases hx with hz | ho
  ·rcases hz with hz | ⟨id2, c2, p2, e1, e2, e3, e4, e5⟩
   ·exact (h.own b ⟨id, _, p, hc, hp, ha⟩).1 hz
   have := h.dj id id2 _ _ p p2 b hc e1 hp e2 ha e3
   exact e5 (this ▸ hid)
  obtain ⟨i, hi, p2, e1, e2⟩ := (own_c b).1 ho
  have := h.dj id ids[i] _ _ p p2 b hc (gck i hi (by omega)) hp e1 ha e2
  exact hdis id hid (this ▸ List.getElem_mem hi)
 have hlentlive : ∀ (ro : List (Option RK)) (vs ws : List SV) (l : Bool), lends s.hp ro vs = some (ws, l) → ∀ id ∈ lentIds ro vs, ∃ r, hget s.hp id = some (.row r) := by
  intro ro
  induction ro with
  | nil => intro vs ws l _ id hid; simp [lentIds] at hid
  | cons b ro ih =>
   intro vs ws l hl id hid
   cases vs with
   | nil => cases b <;> simp [lentIds] at hid
   | cons x xs =>
    simp only [lends] at hl
    cases h0 : lend s.hp b x with
    | none => rw [h0] at hl; cases hl
    | some q0 =>
     obtain ⟨y, c0⟩ := q0
     rw [h0] at hl
     simp only [] at hl
     cases h1 : lends s.hp ro xs with
     | none => rw [h1] at hl; cases hl
     | some q =>
      obtain ⟨ys, d0⟩ := q
      have tl := ih xs ys d0 h1
      cases b with
      | none => simp only [lentIds] at hid; exact tl id hid
      | some rk =>
       cases x with
       | wsl i0 =>
        simp only [lentIds, List.mem_cons] at hid
        rcases hid with rfl | hid
        ·simp only [lend] at h0
         split at h0
         ·rename_i r hr; exact ⟨r, hr⟩
         cases h0
        exact tl id hid
       | sl i0 lo n =>
        simp only [lentIds, List.mem_cons] at hid
        rcases hid with rfl | hid
        ·simp only [lend] at h0
         split at h0
         ·rename_i r hr; exact ⟨r, hr⟩
         cases h0
        exact tl id hid
       | _ => simp only [lentIds] at hid; exact tl id hid
 obtain ⟨hws, hlf⟩ := Zco h.toHSat avc con.ro vs ws args lent hlends (fun id hid p b hp ha => hnolent id hid p b hp ha (hlentlive _ _ _ _ hlends id hid)) hargs
 have hcargs : DensA PLc w (Avo (ctxOf w Zc PLc ccks) PLc (canon 0 ccks)) cargs args := Z42 hρ ws cargs args hra (Zw (fun _ _ h => h)) hws
 have hobc : (∀ p ∈ ce.ob, p) ∧ (∀ X Pr v post, ce.out = .many X Pr v post → ∀ x, Pr x → resOk2 ids ccks fresh lent ce.sm (v x) (post x) = true) := by
  unfold effOf at hE
  cases hout : ce.out with
  | one v post =>
   rw [hout] at hE
   simp only [] at hE
   split at hE
   ·injection hE with hE
    subst hE
    exact ⟨hob, fun X Pr v post e => by cases e⟩
   cases hE
  | many X Pr v post =>
   rw [hout] at hE
   simp only [] at hE
   injection hE with hE
   subst hE
   refine ⟨fun p hp => hob p (List.mem_append_left _ hp), fun X' Pr' v' post' e => ?_⟩
   have := hob _ (List.mem_append_right _ (List.mem_singleton.2 rfl))
   cases e
   exact this
 have hcall := hΓ f con hcon cargs ccks ce hce hobc.1 Zc PLc w args HC hcargs
 have after : ∀ (w' : World) (u : Value) (PL' : Nat → Option Pl) (v : SV) (post : List PostC), resOk ids ccks fresh lent v post = true →
   HSat (ctxOf w Zc PLc ccks) PL' (hupd (pcan 0 post) (canon 0 ccks)) (fun _ => False) w' → Den PL' w' (Avo (ctxOf w Zc PLc ccks) PL' (hupd (pcan 0 post) (canon 0 ccks))) v u →
   ∃ PLn, Sat C PLn (s.put o.dst (some (valb ids fresh v)) (upds ids cks fresh post)) (fun i => Fr i ∧ ¬ (fresh ≤ i ∧ i < fresh + 8)) (a.put o.dst u) w' := by
  intro w' u PL' v post hres H' hden
  unfold resOk at hres
  split at hres
  ·rename_i hclean
   cases hpu : postUpd ids fresh 0 post with
   | none => rw [hpu] at hres; cases hres
   | some pu =>
   rw [hpu] at hres
   simp only [] at hres
   cases hvb : v.ren (back ids fresh) with
   | none => rw [hvb] at hres; cases hres
   | some vb =>
   have hvalb : valb ids fresh v = vb := by simp [valb, hvb]
   have hu : upds ids cks fresh post = sameU ids cks ++ pu := by simp [upds, hpu]
   rw [hvalb, hu]
   obtain ⟨sm1, sm2⟩ := Zdf ids cks hnod lck.symm
   have livePL : ∀ (i : Nat) (hi : i < ids.length), ∃ p, PL ids[i] = some p := fun i hi => (h.ck ids[i] _ (gck i hi (by omega))).place
   have notfresh : ∀ (i : Nat) (hi : i < ids.length), ¬ (fresh ≤ ids[i] ∧ ids[i] < fresh + 8) := fun i hi hx => by
    obtain ⟨p, hp⟩ := livePL i hi
    rw [h.fr _ (hfr _ hx.1 hx.2)] at hp
    cases hp
   have hinj : ∀ i i' j, back ids fresh i = some j → back ids fresh i' = some j → i = i' := by
    intro i i' j h1 h2
    by_cases c1 : i < ids.length
    ·rw [Z1s c1] at h1
     injection h1 with h1
     by_cases c2 : i' < ids.length
     ·rw [Z1s c2] at h2
      injection h2 with h2
      exact (List.getElem_inj hnod).1 (h1.trans h2.symm)
     obtain ⟨g1, g2⟩ := Z5n (by omega) h2
     exact absurd (by omega) (notfresh i c1)
    obtain ⟨g1, g2⟩ := Z5n (by omega) h1
    by_cases c2 : i' < ids.length
    ·rw [Z1s c2] at h2
     injection h2 with h2
     exact absurd (by omega) (notfresh i' c2)
    obtain ⟨g3, g4⟩ := Z5n (by omega) h2
    omega
   let PLn : Nat → Option Pl := fun id => if fresh ≤ id ∧ id < fresh + 8 then PL' (ids.length + (id - fresh)) else PL id
   have hpcan : ∀ i c, hget (hupd (pcan 0 post) (canon 0 ccks)) i = some c → (ulook (pcan 0 post) i = some (some c)) ∨ (ulook (pcan 0 post) i = none ∧ ccks[i]? = some c) := by
    intro i c hc
    rw [Zp] at hc
    cases hl : ulook (pcan 0 post) i with
    | some x => rw [hl] at hc; simp only [] at hc; rw [hc]; exact .inl rfl
    | none => rw [hl] at hc; simp only [] at hc; rw [Z2l, if_pos (Nat.zero_le _)] at hc; exact .inr ⟨rfl, by simpa using hc⟩
   have σ : ∀ x j, npos x ids 0 = some j → back ids fresh j = some x := fun x j e => by
    obtain ⟨hj, e2⟩ := npos_id x j e
    rw [Z1s hj, e2]
   have U1 : ∀ id c, ulook (sameU ids cks ++ pu) id = some (some c) → ∃ i ci, back ids fresh i = some id ∧ hget (hupd (pcan 0 post) (canon 0 ccks)) i = some ci ∧ ci.ren (back ids fresh) = some c := by
    intro id c hc
    rw [Z80] at hc
    cases hp : ulook pu id with
    | some x =>
     rw [hp] at hc
     simp only [] at hc
     injection hc with hc
     subst hc
     obtain ⟨i, y, _, g1, g2, g3⟩ := Z51 post 0 pu hpu id _ hp
     rcases g3 with ⟨_, g3⟩ | ⟨c1, c2, g3, g4, g5⟩
     ·cases g3
     injection g5 with g5
     subst g5
     subst g3
     exact ⟨i, c1, g2, by rw [Zp, g1], g4⟩
    | none =>
     rw [hp] at hc
     simp only [] at hc
     obtain ⟨i, hi, hi2, e1, e2⟩ := sm1 id _ hc
     injection e2 with e2
     subst e2
     subst e1
     refine ⟨i, ccks[i]'(by omega), Z1s hi, ?_, Zpf σ _ _ (gcc i hi2 (by omega))⟩
     rw [Zp]
     cases hl : ulook (pcan 0 post) i with
     | some y =>
      obtain ⟨j, x, g1, g2, _⟩ := Z69 hinj post 0 pu hpu i y hl
      rw [Z1s hi] at g1
      injection g1 with g1
      subst g1
      rw [hp] at g2
      cases g2
     | none => simp only []; rw [Z2l, if_pos (Nat.zero_le _)]; simp [show i < ccks.length by omega]
   have U3 : ∀ (i : Nat) (hi : i < ids.length), (ulook (sameU ids cks ++ pu) ids[i]).isSome = true := by
    intro i hi
    rw [Z80]
    cases hp : ulook pu ids[i] with
    | some x => rfl
    | none => simp only []; rw [sm2 i hi (by omega)]; rfl
   have U2 : ∀ (i : Nat) (hi : i < ids.length), hget (hupd (pcan 0 post) (canon 0 ccks)) i = none → ulook (sameU ids cks ++ pu) ids[i] = some none := by
    intro i hi hn
    rw [Zp] at hn
    cases hl : ulook (pcan 0 post) i with
    | some y =>
     rw [hl] at hn
     simp only [] at hn
     subst hn
     obtain ⟨j, x, g1, g2, g3⟩ := Z69 hinj post 0 pu hpu i _ hl
     rw [Z1s hi] at g1
     injection g1 with g1
     subst g1
     rcases g3 with ⟨_, g3⟩ | ⟨c1, c2, g3, _⟩
     ·subst g3
      rw [Z80, g2]
     cases g3
    | none =>
     rw [hl] at hn
     simp only [] at hn
     rw [Z2l, if_pos (Nat.zero_le _)] at hn
     simp only [Nat.sub_zero] at hn
     have := List.getElem?_eq_none_iff.1 hn
     omega
   have PL'_lt : ∀ (i : Nat) (hi : i < ids.length), PL' i = PL ids[i] := fun i hi => by
    have := H'.arg i (show i < ccks.length by omega)
    rw [this]
    exact PLc_lt i hi
   have PLback : ∀ i j p, back ids fresh i = some j → PL' i = some p → PLn j = some p := by
    intro i j p hb hp
    by_cases c1 : i < ids.length
    ·rw [Z1s c1] at hb
     injection hb with hb
     subst hb
     simp only [PLn]
     rw [if_neg (notfresh i c1), ← PL'_lt i c1]
     exact hp
    obtain ⟨g1, g2⟩ := Z5n (by omega) hb
    subst g2
    simp only [PLn]
    rw [if_pos (by omega)]
    have : ids.length + (fresh + (i - ids.length) - fresh) = i := by omega
    rw [this]
    exact hp
   have PLback2 : ∀ i j, back ids fresh i = some j → PLn j = PL' i := by
    intro i j hb
    by_cases c1 : i < ids.length
    ·rw [Z1s c1] at hb
     injection hb with hb
     subst hb
     simp only [PLn]
     rw [if_neg (notfresh i c1), ← PL'_lt i c1]
    obtain ⟨g1, g2⟩ := Z5n (by omega) hb
    subst g2
    simp only [PLn]
    rw [if_pos (by omega)]
    have : ids.length + (fresh + (i - ids.length) - fresh) = i := by omega
    rw [this]
   have mv : Mv C PL s.hp w (sameU ids cks ++ pu) PLn (fun i => Fr i ∧ ¬ (fresh ≤ i ∧ i < fresh + 8)) w' := by
    refine ⟨?_, ?_, ?_, H'.os, H'.tape, H'.output, H'.size, ?_, ?_, ?_⟩
    ·intro i p hp
     simp only [PLn]
     split
     ·rename_i hx
      rw [h.fr _ (hfr _ hx.1 hx.2)] at hp
      cases hp
     exact hp
    ·intro i hi
     simp only [PLn]
     rw [if_neg (by omega)]
    ·intro i hi
     simp only [PLn]
     rw [if_neg hi.2]
     exact h.fr i hi.1
    ·intro b hb hn
     refine H'.old b hb fun ho => ?_
     obtain ⟨i, hi, p, h1, h2⟩ := (own_c b).1 ho
     exact hn ids[i] _ p (gck i hi (by omega)) (U3 i hi) h1 h2
    ·intro id c p b hl hp ha
     obtain ⟨i, ci, g1, g2, g3⟩ := U1 id c hl
     have ha := (Z2q g3 p b).1 ha
     have hp' : PL' i = some p := by rw [← PLback2 i id g1]; exact hp
     rcases (H'.own b ⟨i, ci, p, g2, hp', ha⟩).2 with ho | hge
     ·obtain ⟨i0, hi0, p0, e1, e2⟩ := (own_c b).1 ho
      exact .inr ⟨ids[i0], _, p0, gck i0 hi0 (by omega), e1, e2, U3 i0 hi0⟩
     exact .inl hge
    intro i j c d p q b hi hj hp hq ha hb
    obtain ⟨i1, c1, g1, g2, g3⟩ := U1 i c hi
    obtain ⟨i2, c2, e1, e2, e3⟩ := U1 j d hj
    have := H'.dj i1 i2 c1 c2 p q b g2 e2 (by rw [← PLback2 i1 i g1]; exact hp) (by rw [← PLback2 i2 j e1]; exact hq) ((Z2q g3 p b).1 ha) ((Z2q e3 q b).1 hb)
    subst this
    rw [g1] at e1
    injection e1
   have t := h.toHSat.tr mv
   have avn : lent = false → ∀ b, b < w'.heap.size → Avo C PLn (hupd (sameU ids cks ++ pu) s.hp) b → Avo (ctxOf w Zc PLc ccks) PL' (hupd (pcan 0 post) (canon 0 ccks)) b := by
    rintro hlt b hb (hz | ⟨id, c, p, hc, hp, ha⟩)
    ·exact .inl (.inl hz)
    rw [Zp] at hc
    cases hl : ulook (sameU ids cks ++ pu) id with
    | some x =>
     rw [hl] at hc
     simp only [] at hc
     subst hc
     obtain ⟨i, ci, g1, g2, g3⟩ := U1 id c hl
     exact .inr ⟨i, ci, p, g2, by rw [← PLback2 i id g1]; exact hp, (Z2q g3 p b).1 ha⟩
    | none =>
     rw [hl] at hc
     simp only [] at hc
     have hnid : id ∉ ids := by
      intro hx
      obtain ⟨i, hi, rfl⟩ := List.mem_iff_getElem.1 hx
      have := U3 i hi
      rw [hl] at this
      cases this
     obtain ⟨p0, hp0⟩ := (h.ck id c hc).place
     have hpp := mv.P id p0 hp0
     rw [hp] at hpp
     injection hpp with hpp
     subst hpp
     exact .inl (.inr ⟨id, c, p, hc, hp0, ha, hnid, by rw [hlf hlt]; simp⟩)
   have key : ∀ i ci, hget (hupd (pcan 0 post) (canon 0 ccks)) i = some ci → CkOk PL' w' (Avo C PLn (hupd (sameU ids cks ++ pu) s.hp)) i ci := by
    intro i ci hg
    have h0 := H'.ck i ci hg
    cases lent with
    | false => exact h0.weak (avn rfl)
    | true =>
     simp only [] at hclean
     cases hvc : v.clean with
     | false => rw [hvc] at hclean; cases hclean
     | true =>
     rw [hvc] at hclean
     simp only [] at hclean
     cases hpc : cleanPost post with
     | false => rw [hpc] at hclean; cases hclean
     | true =>
     rw [hpc] at hclean
     simp only [] at hclean
     refine cleanCk ?_ h0
     have post_clean : ∀ (l : List PostC) (k i : Nat) (c : Ck), cleanPost l = true → ulook (pcan k l) i = some (some c) → c.clean = true := by
      intro l
      induction l with
      | nil => intro k i c _ hl; simp [pcan, ulook] at hl
      | cons x l ih =>
       intro k i c hcl hl
       cases x with
       | same => exact ih (k + 1) i c (by simpa [cleanPost] using hcl) hl
       | gone =>
        simp only [pcan, ulook] at hl
        cases hq : ulook (pcan (k + 1) l) i with
        | some z => rw [hq] at hl; simp only [] at hl; injection hl with hl; subst hl; exact ih (k + 1) i c (by simpa [cleanPost] using hcl) hq
        | none =>
         rw [hq] at hl
         simp only [] at hl
         split at hl
         ·cases hl
         cases hl
       | to d =>
        unfold cleanPost at hcl
        cases hd : d.clean with
        | false => rw [hd] at hcl; cases hcl
        | true =>
         rw [hd] at hcl
         simp only [pcan, ulook] at hl
         cases hq : ulook (pcan (k + 1) l) i with
         | some z => rw [hq] at hl; simp only [] at hl; injection hl with hl; subst hl; exact ih (k + 1) i c hcl hq
         | none =>
          rw [hq] at hl
          simp only [] at hl
          split at hl
          ·injection hl with hl; injection hl with hl; subst hl; exact hd
          cases hl
     have all_clean : ∀ (l : List Ck) (i : Nat) (c : Ck), Ck.cleanL l = true → l[i]? = some c → c.clean = true := by
      intro l
      induction l with
      | nil => intro i c _ hl; simp at hl
      | cons x l ih =>
       intro i c hcl hl
       unfold Ck.cleanL at hcl
       cases hx : x.clean with
       | false => rw [hx] at hcl; cases hcl
       | true =>
        rw [hx] at hcl
        cases i with
        | zero => simp at hl; subst hl; exact hx
        | succ i => exact ih i c hcl (by simpa using hl)
     rcases hpcan i ci hg with hg | ⟨_, hg⟩
     ·exact post_clean post 0 i ci hpc hg
     exact all_clean ccks i ci hclean hg
   have hvden : Den PL' w' (Avo C PLn (hupd (sameU ids cks ++ pu) s.hp)) v u := by
    cases lent with
    | false => exact hden.mono (fun _ _ h => h) (Nat.le_refl _) (fun _ _ _ => rfl) (avn rfl)
    | true =>
     simp only [] at hclean
     cases hvc : v.clean with
     | false => rw [hvc] at hclean; cases hclean
     | true => exact Zgl v u hvc hden
   have HN := h.toHSat.mv mv (fun id c hl => by
    obtain ⟨i, ci, g1, g2, g3⟩ := U1 id c hl
    exact Z6b PLback (fun p hp => PLback i id p g1 hp) g3 (Zw (fun _ _ h => h)) (key i ci g2))
   exact ⟨PLn, h.mv HN t o.dst _ u fun x hx => by
    injection hx with hx
    subst hx
    exact Z7o PLback v vb u hvb (Zw (fun _ _ h => h)) hvden⟩
  cases hres
 have after2 : ∀ (w' : World) (u : Value) (PL' : Nat → Option Pl) (v : SV) (post : List PostC), resOk2 ids ccks fresh lent ce.sm v post = true →
   HSat (ctxOf w Zc PLc ccks) PL' (hupd (pcan 0 post) (canon 0 ccks)) (fun _ => False) w' → Den PL' w' (Avo (ctxOf w Zc PLc ccks) PL' (hupd (pcan 0 post) (canon 0 ccks))) v u →
   ∃ PLn, Sat C PLn (s.put o.dst (some (valb ids fresh v)) (dropU (keepIds ids ce.sm) (upds ids cks fresh post))) (fun i => Fr i ∧ ¬ (fresh ≤ i ∧ i < fresh + 8)) (a.put o.dst u) w' := by
  intro w' u PL' v post hres H' hden
  unfold resOk2 at hres
  split at hres
  ·rename_i hres1
   obtain ⟨PLn, hS⟩ := after w' u PL' v post hres1 H' hden
   refine ⟨PLn, hS.ext rfl rfl fun j => ?_⟩
   simp only [St.put]
   rw [Zp, Zp, Zfj]
   cases hm : nmem j (keepIds ids ce.sm) with
   | false => rfl
   | true =>
    simp only []
    have hk := (Zk _ _).1 hm
    obtain ⟨i, hi, rfl⟩ := List.mem_iff_getElem.1 (Zcl _ _ _ hk)
    have hn := Znt _ _ (Z2o _ _ hres _ hk)
    have hs := (Zdf ids cks hnod lck.symm).2 i hi (by omega)
    unfold upds
    rw [Zns, hn, hs, gck i hi (by omega)]
  cases hres
 unfold Oper.wp
 rw [hrun, Oper.upon_enter]
 refine hcall.mono ?_
 rintro e w' ⟨u, PL', rfl, hout⟩
 unfold effOf at hE
 cases ho : ce.out with
 | one v post =>
  rw [ho] at hE hout
  simp only [] at hE
  simp only [COut.holds] at hout
  split at hE
  ·rename_i hres
   injection hE with hE
   subst hE
   exact after2 w' u PL' v post hres hout.1 hout.2
  cases hE
 | many X Pr v post =>
  rw [ho] at hE hout
  simp only [] at hE
  simp only [COut.holds] at hout
  injection hE with hE
  subst hE
  obtain ⟨x, hx, h1, h2⟩ := hout
  exact ⟨x, hx, after2 w' u PL' (v x) (post x) (hobc.2 X Pr v post ho x hx) h1 h2⟩
end
theorem Z58 : ∀ {u : List (Nat × Option Ck)} {id : Nat} {x : Option Ck}, ulook u id = some x → (id, x) ∈ u
 | [], id, x, h => by cases h
 | (j, c) :: l, id, x, h => by
  simp only [ulook] at h
  cases hl : ulook l id with
  | some y => rw [hl] at h; injection h with h; subst h; exact List.mem_cons_of_mem _ (Z58 hl)
  | none =>
   rw [hl] at h
   simp only [] at h
   cases hb : Nat.beq id j with
   | false => rw [hb] at h; cases h
   | true => rw [hb] at h; injection h with h; subst h; rw [(nbeq id j).1 hb]; exact List.mem_cons_self
theorem Z59 : ∀ {u : List (Nat × Option Ck)} {id : Nat} {x : Option Ck}, (id, x) ∈ u → (ulook u id).isSome = true
 | [], id, x, h => by cases h
 | (j, c) :: l, id, x, h => by
  simp only [ulook]
  cases hl : ulook l id with
  | some y => rfl
  | none =>
   rcases List.mem_cons.1 h with h | h
   ·injection h with h1 h2
    subst h1
    rw [(nbeq id id).2 rfl]
    rfl
   have := Z59 h
   rw [hl] at this
   cases this
structure OpnOk (w : World) (Av : Nat → Prop) (us : List Value) (bl : List Nat) (n : Nat) (cs : List SV) (chs : List (Nat × Ck)) (m : Nat) (f : Nat → Option Pl) : Prop where
 nm : n ≤ m
 rng : ∀ i p, f i = some p → n ≤ i ∧ i < m
 key : ∀ x ∈ chs, ∃ p, f x.1 = some p ∧ ∀ b, x.2.has p b → b ∈ bl
 dj : ∀ x ∈ chs, ∀ y ∈ chs, ∀ p q b, f x.1 = some p → f y.1 = some q → x.2.has p b → y.2.has q b → x.1 = y.1
 dens : ∀ PL : Nat → Option Pl, (∀ i p, f i = some p → PL i = some p) → Dens PL w Av cs us
 ok : ∀ PL : Nat → Option Pl, (∀ i p, f i = some p → PL i = some p) → ∀ x ∈ chs, CkOk PL w Av x.1 x.2
theorem Dens.one {PL : Nat → Option Pl} {w : World} {Av : Nat → Prop} {x : SV} {c : Value} (h : Den PL w Av x c) (h1 : c.oneCell' = true) : Dens PL w Av [x] [c] := Dens.cons h h1 Dens.nil
theorem Z3x (T : TypeId) (fs : List Tm) (d : D) (n : Nat) : (Tm.p T fs).opn d n = ([.ptr n 0], (n, .blk T (Tm.opns fs d 0 (n + 1)).1) :: (Tm.opns fs d 0 (n + 1)).2.1, (Tm.opns fs d 0 (n + 1)).2.2) := rfl
theorem Z3y (T : TypeId) (e : Ty) (d : D) (n : Nat) : (Tm.w T e).opn d n = ([.wsl n], [(n, .row (.row T e (lock D.toL d)))], n + 1) := rfl
theorem Z3z (t : Tm) (ts : List Tm) (d : D) (j n : Nat) : Tm.opns (t :: ts) d j n = ((t.opn (lock D.fld d j) n).1 ++ (Tm.opns ts d (j + 1) (t.opn (lock D.fld d j) n).2.2).1, (t.opn (lock D.fld d j) n).2.1 ++ (Tm.opns ts d (j + 1) (t.opn (lock D.fld d j) n).2.2).2.1, (Tm.opns ts d (j + 1) (t.opn (lock D.fld d j) n).2.2).2.2) := rfl
mutual
theorem Zk8 {w : World} {Av : Nat → Prop} : ∀ (tm : Tm) (d : D) (us : List Value) (bl : List Nat) (n : Nat), TmOk w Av tm d us bl → bl.Nodup → ∃ f, OpnOk w Av us bl n (tm.opn d n).1 (tm.opn d n).2.1 (tm.opn d n).2.2 f
 | .v t, d, us, bl, n, h, hn => by
  simp only [TmOk] at h
  obtain ⟨h1, h2, h3⟩ := h
  refine ⟨fun _ => none, ⟨Nat.le_refl _, fun _ _ h => (by cases h), fun x hx => (by cases hx), fun x hx => (by cases hx), fun PL hP => ⟨?_, fun j a b => ⟨?_, (h3 j a b).2⟩⟩, fun PL hP x hx => (by cases hx)⟩⟩
  ·show us.length = (t.leaves d).length
   rw [Ty.leaves_len]; exact h2
  exact (h3 j a b).1.mono (fun _ _ h => (by cases h)) (Nat.le_refl _) (fun _ _ _ => rfl) (fun _ _ h => h)
 | .p T fs, d, us, bl, n, h, hn => by
  simp only [TmOk] at h
  obtain ⟨b, cs, bl', h1, h2, h3, h4⟩ := h
  subst h1
  subst h2
  obtain ⟨hb, hn'⟩ := List.nodup_cons.1 hn
  obtain ⟨f, F⟩ := Zka fs d 0 cs.toList bl' (n + 1) h4 hn'
  have hP' : ∀ PL : Nat → Option Pl, (∀ i p, (if i = n then some (⟨some ⟨b, 0, none⟩, 0, 0, 0, []⟩ : Pl) else f i) = some p → PL i = some p) → ∀ i p, f i = some p → PL i = some p := by
   intro PL hP i p hf
   have := F.rng i p hf
   exact hP i p (by rw [if_neg (by omega)]; exact hf)
  refine ⟨fun i => if i = n then some ⟨some ⟨b, 0, none⟩, 0, 0, 0, []⟩ else f i, ⟨?_, ?_, ?_, ?_, ?_, ?_⟩⟩
  ·have := F.nm
   simp only [Z3x]
   omega
  ·intro i p hi
   have hnm := F.nm
   simp only [Z3x]
   by_cases e : i = n
   ·omega
   rw [if_neg e] at hi
   have := F.rng i p hi
   omega
  ·intro x hx
   simp only [Z3x, List.mem_cons] at hx
   rcases hx with rfl | hx
   ·refine ⟨_, if_pos rfl, fun b' hb' => ?_⟩
    have hb' : some (⟨b, 0, none⟩ : Addr) = some ⟨b', 0, none⟩ := hb'
    injection hb' with hb'; injection hb' with hb'; subst hb'
    exact List.mem_cons_self
   obtain ⟨p, hp, hk⟩ := F.key x hx
   have := F.rng _ _ hp
   exact ⟨p, by rw [if_neg (by omega)]; exact hp, fun b' hb' => List.mem_cons_of_mem _ (hk b' hb')⟩
  ·intro x hx y hy p q b' hp hq hxp hyq
   simp only [Z3x, List.mem_cons] at hx hy
   have other : ∀ z ∈ (Tm.opns fs d 0 (n + 1)).2.1, ∀ r, (if z.1 = n then some (⟨some ⟨b, 0, none⟩, 0, 0, 0, []⟩ : Pl) else f z.1) = some r → z.2.has r b' → f z.1 = some r ∧ b' ∈ bl' := by
    intro z hz r hr hzr
    obtain ⟨p', hp', hk⟩ := F.key z hz
    have := F.rng _ _ hp'
    rw [if_neg (by omega), hp'] at hr
    injection hr with hr
    subst hr
    exact ⟨hp', hk b' hzr⟩
   have first : ∀ r, (if n = n then some (⟨some ⟨b, 0, none⟩, 0, 0, 0, []⟩ : Pl) else f n) = some r → (Ck.blk T (Tm.opns fs d 0 (n + 1)).1).has r b' → b' = b := by
    intro r hr hz
    rw [if_pos rfl] at hr
    injection hr with hr
    subst hr
    have hz : some (⟨b, 0, none⟩ : Addr) = some ⟨b', 0, none⟩ := hz
    injection hz with hz; injection hz with hz; exact hz.symm
   rcases hx with rfl | hx <;> rcases hy with rfl | hy
   ·rfl
   ·have e1 := first p hp hxp
    have e2 := (other y hy q hq hyq).2
    rw [e1] at e2
    exact absurd e2 hb
   ·have e1 := first q hq hyq
    have e2 := (other x hx p hp hxp).2
    rw [e1] at e2
    exact absurd e2 hb
   exact F.dj x hx y hy p q b' (other x hx p hp hxp).1 (other y hy q hq hyq).1 hxp hyq
  ·intro PL hP
   simp only [Z3x]
   exact Dens.one (.ptr n 0 b _ (hP n _ (if_pos rfl)) rfl) rfl
  intro PL hP x hx
  simp only [Z3x, List.mem_cons] at hx
  rcases hx with rfl | hx
  ·have hd := F.dens PL (hP' PL hP)
   exact ⟨_, b, cs, hP n _ (if_pos rfl), rfl, h3, by have := hd.1; simpa using this, fun j a b => by have := hd.2 j a (by simpa using b); simpa using this⟩
  exact F.ok PL (hP' PL hP) x hx
 | .w T e, d, us, bl, n, h, hn => by
  simp only [TmOk] at h
  obtain ⟨p, h1, h2, h3, h5, h6⟩ := h
  subst h1
  refine ⟨fun i => if i = n then some p else none, ⟨?_, ?_, ?_, ?_, ?_, ?_⟩⟩
  ·simp only [Z3y]; omega
  ·intro i q hi
   simp only [Z3y]
   by_cases e : i = n
   ·omega
   rw [if_neg e] at hi; cases hi
  ·intro x hx
   simp only [Z3y, List.mem_singleton] at hx
   subst hx
   refine ⟨p, if_pos rfl, fun b' hb' => ?_⟩
   have hb' : p.a = some ⟨b', 0, none⟩ := hb'
   rcases h6 with h6 | ⟨b, cs, g1, g2, _⟩
   ·rw [h6.1] at hb'; cases hb'
   rw [g1] at hb'; injection hb' with hb'; injection hb' with hb'; subst hb'
   rw [g2]; exact List.mem_singleton.2 rfl
  ·intro x hx y hy _ _ _ _ _ _ _
   simp only [Z3y, List.mem_singleton] at hx hy
   rw [hx, hy]
  ·intro PL hP
   simp only [Z3y]
   exact Dens.one (.wsl n p (hP n _ (if_pos rfl))) rfl
  intro PL hP x hx
  simp only [Z3y, List.mem_singleton] at hx
  subst hx
  refine ⟨p, hP n _ (if_pos rfl), by simp only [rlen, lock_eq]; exact h2, h3, h5, ?_⟩
  rcases h6 with h6 | ⟨b, cs, g1, g2, g3, g4, g5, g6, g7⟩
  ·exact .inl ⟨h6.1, h6.2.1, by simp only [rlen, lock_eq]; omega⟩
  refine .inr ⟨b, cs, g1, g3, by simp only [rlen, lock_eq]; omega, g5, g6, fun i j hi hj hj2 => ?_⟩
  simp only [rlen, lock_eq] at hi
  obtain ⟨u, e1, e2, e3⟩ := g7 i j (by omega) hj (by simp only [R.elem, lock_eq] at hj2 ⊢; exact hj2)
  refine ⟨u, e1, ?_, e3⟩
  have e2 := e2.mono (PL' := PL) (fun _ _ h => (by cases h)) (Nat.le_refl _) (fun _ _ _ => rfl) (fun _ _ h => h)
  simp only [R.elem, lock_eq] at e2 ⊢
  exact e2
theorem Zka {w : World} {Av : Nat → Prop} : ∀ (ts : List Tm) (d : D) (j : Nat) (us : List Value) (bl : List Nat) (n : Nat), TmsOk w Av ts d j us bl → bl.Nodup → ∃ f, OpnOk w Av us bl n (Tm.opns ts d j n).1 (Tm.opns ts d j n).2.1 (Tm.opns ts d j n).2.2 f
 | [], d, j, us, bl, n, h, hn => by
  simp only [TmsOk] at h
  obtain ⟨rfl, rfl⟩ := h
  exact ⟨fun _ => none, ⟨Nat.le_refl _, fun _ _ h => (by cases h), fun x hx => (by cases hx), fun x hx => (by cases hx), fun PL hP => Dens.nil, fun PL hP x hx => (by cases hx)⟩⟩
 | t :: ts, d, j, us, bl, n, h, hn => by
  simp only [TmsOk] at h
  obtain ⟨u1, u2, b1, b2, rfl, rfl, h1, h2⟩ := h
  obtain ⟨n1, n2, n3⟩ := List.nodup_append.1 hn
  obtain ⟨f, F⟩ := Zk8 t _ u1 b1 n h1 n1
  obtain ⟨g, G⟩ := Zka ts d (j + 1) u2 b2 (t.opn (lock D.fld d j) n).2.2 h2 n2
  have hF := F.nm
  have hG := G.nm
  have ffl : ∀ i p, f i = some p → (if i < (t.opn (lock D.fld d j) n).2.2 then f i else g i) = some p := fun i p hi => by
   have := F.rng i p hi
   rw [if_pos this.2]; exact hi
  have gfl : ∀ i p, g i = some p → (if i < (t.opn (lock D.fld d j) n).2.2 then f i else g i) = some p := fun i p hi => by
   have := G.rng i p hi
   rw [if_neg (by omega)]; exact hi
  refine ⟨fun i => if i < (t.opn (lock D.fld d j) n).2.2 then f i else g i, ⟨?_, ?_, ?_, ?_, ?_, ?_⟩⟩
  ·simp only [Z3z]; omega
  ·intro i p hi
   simp only [Z3z]
   split at hi
   ·have := F.rng i p hi; omega
   have := G.rng i p hi; omega
  ·intro x hx
   simp only [Z3z, List.mem_append] at hx
   rcases hx with hx | hx
   ·obtain ⟨p, hp, hk⟩ := F.key x hx
    exact ⟨p, ffl _ _ hp, fun b hb => List.mem_append_left _ (hk b hb)⟩
   obtain ⟨p, hp, hk⟩ := G.key x hx
   exact ⟨p, gfl _ _ hp, fun b hb => List.mem_append_right _ (hk b hb)⟩
  ·intro x hx y hy p q b hp hq hxp hyq
   simp only [Z3z, List.mem_append] at hx hy
   have inF : ∀ z ∈ (t.opn (lock D.fld d j) n).2.1, ∀ r, (if z.1 < (t.opn (lock D.fld d j) n).2.2 then f z.1 else g z.1) = some r → z.2.has r b → f z.1 = some r ∧ b ∈ b1 := by
    intro z hz r hr hzr
    obtain ⟨p', hp', hk⟩ := F.key z hz
    rw [ffl _ _ hp'] at hr
    injection hr with hr
    subst hr
    exact ⟨hp', hk b hzr⟩
   have inG : ∀ z ∈ (Tm.opns ts d (j + 1) (t.opn (lock D.fld d j) n).2.2).2.1, ∀ r, (if z.1 < (t.opn (lock D.fld d j) n).2.2 then f z.1 else g z.1) = some r → z.2.has r b → g z.1 = some r ∧ b ∈ b2 := by
    intro z hz r hr hzr
    obtain ⟨p', hp', hk⟩ := G.key z hz
    rw [gfl _ _ hp'] at hr
    injection hr with hr
    subst hr
    exact ⟨hp', hk b hzr⟩
   rcases hx with hx | hx <;> rcases hy with hy | hy
   ·exact F.dj x hx y hy p q b (inF x hx p hp hxp).1 (inF y hy q hq hyq).1 hxp hyq
   ·exact absurd rfl (n3 b (inF x hx p hp hxp).2 b (inG y hy q hq hyq).2)
   ·exact absurd rfl (n3 b (inF y hy q hq hyq).2 b (inG x hx p hp hxp).2)
   exact G.dj x hx y hy p q b (inG x hx p hp hxp).1 (inG y hy q hq hyq).1 hxp hyq
  ·intro PL hP
   simp only [Z3z]
   exact (F.dens PL fun i p hi => hP i p (ffl i p hi)).app (G.dens PL fun i p hi => hP i p (gfl i p hi))
  intro PL hP x hx
  simp only [Z3z, List.mem_append] at hx
  rcases hx with hx | hx
  ·exact F.ok PL (fun i p hi => hP i p (ffl i p hi)) x hx
  exact G.ok PL (fun i p hi => hP i p (gfl i p hi)) x hx
end
theorem Zgr {PL : Nat → Option Pl} {w : World} {Av : Nat → Prop} {t : Ty} {d : D} {us : List Value} (h : Dens PL w Av (t.leaves d) us) : Dens (fun _ => none) w Av (t.leaves d) us :=
 ⟨h.1, fun j a b => ⟨Z8f (fun _ _ h => h) (h.2 j a b).1 (Z7c _ t d _ (List.getElem_mem a)), (h.2 j a b).2⟩⟩
theorem Dens.split {PL : Nat → Option Pl} {w : World} {Av : Nat → Prop} {l m : List SV} {cs : List Value} (h : Dens PL w Av (l ++ m) cs) : ∃ c1 c2, cs = c1 ++ c2 ∧ Dens PL w Av l c1 ∧ Dens PL w Av m c2 := by
 refine ⟨cs.take l.length, cs.drop l.length, (List.take_append_drop _ _).symm, ?_, ?_⟩
 ·have := h.take l.length
  rwa [List.take_left] at this
 have := h.drop l.length
 rwa [List.drop_left] at this
theorem Dens.uncons {PL : Nat → Option Pl} {w : World} {Av : Nat → Prop} {x : SV} {l : List SV} {us : List Value} (h : Dens PL w Av (x :: l) us) : ∃ u us', us = u :: us' ∧ Den PL w Av x u ∧ Dens PL w Av l us' := by
 cases us with
 | nil => have := h.1; simp at this
 | cons u us' => exact ⟨u, us', rfl, (h.2 0 (by simp) (by simp)).1, by have := h.1; simpa using this, fun j a b => h.2 (j + 1) (by simpa using a) (by simpa using b)⟩
def InB (PL : Nat → Option Pl) (h : List (Nat × Ck)) (ids bl : List Nat) : Prop := ∀ b ∈ bl, ∃ id ∈ ids, ∃ c p, hget h id = some c ∧ PL id = some p ∧ c.has p b
def Dj (PL : Nat → Option Pl) (h : List (Nat × Ck)) : Prop := ∀ i j c d p q b, hget h i = some c → hget h j = some d → PL i = some p → PL j = some q → c.has p b → d.has q b → i = j
theorem InB.apart {PL : Nat → Option Pl} {h : List (Nat × Ck)} (dj : Dj PL h) {i1 i2 b1 b2 : List Nat} (h1 : InB PL h i1 b1) (h2 : InB PL h i2 b2) (hd : ∀ i ∈ i1, ∀ j ∈ i2, i ≠ j) : ∀ a ∈ b1, ∀ b ∈ b2, a ≠ b := by
 rintro a ha b hb rfl
 obtain ⟨i, hi, c, p, e1, e2, e3⟩ := h1 a ha
 obtain ⟨j, hj, d, q, f1, f2, f3⟩ := h2 a hb
 exact hd i hi j hj (dj i j c d p q a e1 f1 e2 f2 e3 f3)
mutual
theorem Zdi {PL : Nat → Option Pl} {w : World} {Av : Nat → Prop} {h : List (Nat × Ck)} (H : ∀ id c, hget h id = some c → CkOk PL w Av id c) (dj : Dj PL h) :
  ∀ (tm : Tm) (vs : List SV) (us : List Value) (d : D) (rest : List SV) (ids : List Nat), Tm.sht h tm vs = some (d, rest, ids) → Dens PL w Av vs us → ids.Nodup →
   ∃ u1 u2 bl, us = u1 ++ u2 ∧ u1.length = tm.size ∧ (∀ u ∈ u1, u.oneCell' = true) ∧ TmOk w Av tm d u1 bl ∧ Dens PL w Av rest u2 ∧ bl.Nodup ∧ InB PL h ids bl
 | .v t, vs, us, d, rest, ids, hs, hd, hn => by
  simp only [Tm.sht] at hs
  cases hm : t.mk vs with
  | none => rw [hm] at hs; cases hs
  | some x =>
   obtain ⟨d', r⟩ := x
   rw [hm] at hs
   injection hs with hs; injection hs with e1 hs; injection hs with e2 e3; subst e1; subst e2; subst e3
   obtain ⟨L1, rfl, hl, hk⟩ := Z66 (PL := PL) (w := w) (Av := Av) t vs d' r hm
   obtain ⟨c1, c2, rfl, h1, h2⟩ := hd.split
   have h3 := Zgr (hk c1 h1)
   refine ⟨c1, c2, [], rfl, by have := h1.1; simp only [Tm.size]; omega, fun u hu => ?_, ?_, h2, List.nodup_nil, fun b hb => (by cases hb)⟩
   ·obtain ⟨j, hj, rfl⟩ := List.mem_iff_getElem.1 hu
    exact (h1.2 j (by have := h1.1; omega) hj).2
   unfold TmOk
   exact ⟨rfl, by have := h1.1; omega, fun j a b => h3.2 j a b⟩
 | .p T fs, vs, us, d, rest, ids, hs, hd, hn => by
  unfold Tm.sht at hs
  split at hs
  ·rename_i e; cases e
  ·rename_i T0 fs0 id vs e1
   injection e1 with e1 e2
   subst e1; subst e2
   split at hs
   ·rename_i U cs hg
    split at hs
    ·rename_i hb
     have hTU := (nbeq _ _).1 hb
     subst hTU
     split at hs
     ·rename_i ds ids' hs2
      injection hs with hs; injection hs with e1 hs; injection hs with e2 e3; subst e1; subst e2; subst e3
      obtain ⟨u, us', rfl, hu, hd'⟩ := hd.uncons
      obtain ⟨p, b, arr, hp, ha, hh, hl, hcd⟩ := H id _ hg
      obtain ⟨hni, hn'⟩ := List.nodup_cons.1 hn
      have hD : Dens PL w Av cs arr.toList := ⟨by simpa using hl, fun j x y => by simpa using hcd j x (by simpa using y)⟩
      obtain ⟨u1, u2, bl, e, hok, hr, hnd, hin⟩ := Zlj H dj fs cs arr.toList ds [] ids' hs2 hD hn' []
      have : u2 = [] := by have := hr.1; exact List.eq_nil_of_length_eq_zero (by simpa using this)
      subst this
      rw [List.append_nil] at e
      subst e
      cases hu with
      | ptr _ _ b' p' hp' ha' =>
       rw [hp] at hp'; injection hp' with hp'; subst hp'
       rw [ha] at ha'; injection ha' with ha'; injection ha' with ha'; subst ha'
       refine ⟨[.pointer (some ⟨b, 0, none⟩)], us', b :: bl, rfl, rfl, fun u hu => by rw [List.mem_singleton.1 hu]; rfl, ?_, hd', ?_, ?_⟩
       ·unfold TmOk
        exact ⟨b, arr, bl, rfl, rfl, hh, hok⟩
       ·refine List.nodup_cons.2 ⟨fun hb => ?_, hnd⟩
        exact InB.apart dj (i1 := [id]) (b1 := [b]) (fun x hx => ⟨id, List.mem_singleton.2 rfl, _, p, hg, hp, by rw [List.mem_singleton.1 hx]; exact ha⟩) hin (fun i hi j hj => by rw [List.mem_singleton.1 hi]; exact fun e => hni (e ▸ hj)) b (List.mem_singleton.2 rfl) b hb rfl
       intro x hx
       rcases List.mem_cons.1 hx with rfl | hx
       ·exact ⟨id, List.mem_cons_self, _, p, hg, hp, ha⟩
       obtain ⟨i, hi, r⟩ := hin x hx
       exact ⟨i, List.mem_cons_of_mem _ hi, r⟩
     cases hs
    cases hs
   cases hs
  ·rename_i e; cases e
  ·rename_i e; cases e
  cases hs
 | .w T e, vs, us, d, rest, ids, hs, hd, hn => by
  unfold Tm.sht at hs
  split at hs
  ·rename_i e; cases e
  ·rename_i e; cases e
  ·rename_i T0 e0 id vs e1
   injection e1 with e1 e2
   subst e1; subst e2
   split at hs
   ·rename_i U f l hg
    split at hs
    ·rename_i hb
     rw [Bool.and_eq_true] at hb
     have hTU := (nbeq _ _).1 hb.1
     have hef := Zv _ _ hb.2
     subst hTU; subst hef
     injection hs with hs; injection hs with e1 hs; injection hs with e2 e3; subst e1; subst e2; subst e3
     obtain ⟨u, us', rfl, hu, hd'⟩ := hd.uncons
     obtain ⟨p, hp, l1, l2, l3, hrow⟩ := H id _ hg
     cases hu with
     | wsl _ p' hp' =>
      rw [hp] at hp'; injection hp' with hp'; subst hp'
      rcases hrow with ⟨g1, g2, g3⟩ | ⟨b, cs, g1, g2, g3, g4, g5, g6⟩
      ·refine ⟨[.slice p.a p.len p.cap], us', [], rfl, rfl, fun u hu => by rw [List.mem_singleton.1 hu]; rfl, ?_, hd', List.nodup_nil, fun b hb => (by cases hb)⟩
       unfold TmOk
       exact ⟨p, rfl, l1, l2, l3, .inl ⟨g1, g2, by rw [l1]; exact g3, rfl⟩⟩
      refine ⟨[.slice p.a p.len p.cap], us', [b], rfl, rfl, fun u hu => by rw [List.mem_singleton.1 hu]; rfl, ?_, hd', by simp, fun x hx => ⟨id, List.mem_singleton.2 rfl, _, p, hg, hp, by rw [List.mem_singleton.1 hx]; exact g1⟩⟩
      unfold TmOk
      refine ⟨p, rfl, l1, l2, l3, .inr ⟨b, cs, g1, rfl, g2, by rw [l1]; exact g3, g4, g5, fun i j hi hj h1 => ?_⟩⟩
      obtain ⟨u, e1, e2, e3⟩ := g6 i j (by rw [l1] at hi; exact hi) hj h1
      exact ⟨u, e1, Z8f (fun _ _ h => h) e2 (Z7c _ e _ _ (List.getElem_mem h1)), e3⟩
    cases hs
   cases hs
  ·rename_i T0 e0 vs e1
   injection e1 with e1 e2
   subst e1; subst e2
   split at hs
   ·rename_i hsz
    injection hs with hs; injection hs with e1 hs; injection hs with e2 e3; subst e1; subst e2; subst e3
    obtain ⟨u, us', rfl, hu, hd'⟩ := hd.uncons
    cases hu
    refine ⟨[.slice none 0 0], us', [], rfl, rfl, fun u hu => by rw [List.mem_singleton.1 hu]; rfl, ?_, hd', List.nodup_nil, fun b hb => (by cases hb)⟩
    unfold TmOk
    exact ⟨⟨none, 0, 0, e.size, []⟩, rfl, rfl, rfl, Nat.le_of_ble_eq_true hsz, .inl ⟨rfl, rfl, rfl, rfl⟩⟩
   cases hs
  cases hs
theorem Zlj {PL : Nat → Option Pl} {w : World} {Av : Nat → Prop} {h : List (Nat × Ck)} (H : ∀ id c, hget h id = some c → CkOk PL w Av id c) (dj : Dj PL h) :
  ∀ (ts : List Tm) (vs : List SV) (us : List Value) (ds : List D) (rest : List SV) (ids : List Nat), Tm.shts h ts vs = some (ds, rest, ids) → Dens PL w Av vs us → ids.Nodup → ∀ pre : List D,
   ∃ u1 u2 bl, us = u1 ++ u2 ∧ TmsOk w Av ts (.l (pre ++ ds)) pre.length u1 bl ∧ Dens PL w Av rest u2 ∧ bl.Nodup ∧ InB PL h ids bl
 | [], vs, us, ds, rest, ids, hs, hd, hn, pre => by
  simp only [Tm.shts] at hs
  injection hs with hs; injection hs with e1 hs; injection hs with e2 e3; subst e1; subst e2; subst e3
  exact ⟨[], us, [], rfl, by unfold TmsOk; exact ⟨rfl, rfl⟩, hd, List.nodup_nil, fun b hb => (by cases hb)⟩
 | t :: ts, vs, us, ds, rest, ids, hs, hd, hn, pre => by
  unfold Tm.shts at hs
  split at hs
  ·rename_i d r i1 h1
   split at hs
   ·rename_i ds' r2 i2 h2
    injection hs with hs; injection hs with e1 hs; injection hs with e2 e3; subst e1; subst e2; subst e3
    obtain ⟨n1, n2, n3⟩ := List.nodup_append.1 hn
    obtain ⟨u1, u2, b1, rfl, _, _, k1, k2, k3, k4⟩ := Zdi H dj t vs us d r i1 h1 hd n1
    obtain ⟨u3, u4, b2, rfl, m1, m2, m3, m4⟩ := Zlj H dj ts r u2 ds' r2 i2 h2 k2 n2 (pre ++ [d])
    refine ⟨u1 ++ u3, u4, b1 ++ b2, (List.append_assoc _ _ _).symm, ?_, m2, List.nodup_append.2 ⟨k3, m3, InB.apart dj k4 m4 fun i hi j hj => n3 i hi j hj⟩, ?_⟩
    ·unfold TmsOk
     refine ⟨u1, u3, b1, b2, rfl, rfl, ?_, ?_⟩
     ·have : lock D.fld (.l (pre ++ d :: ds')) pre.length = d := by
       rw [lock_eq]
       simp [D.fld, D.toL]
      rw [this]
      exact k1
     rw [List.append_assoc, List.length_append] at m1
     exact m1
    intro b hb
    rcases List.mem_append.1 hb with hb | hb
    ·obtain ⟨i, hi, r⟩ := k4 b hb
     exact ⟨i, List.mem_append_left _ hi, r⟩
    obtain ⟨i, hi, r⟩ := m4 b hb
    exact ⟨i, List.mem_append_right _ hi, r⟩
   cases hs
  cases hs
end
theorem Z1v {hp : List (Nat × Ck)} {id : Nat} {T : TypeId} {tm : Tm} {n g : Nat} (h : prowOf hp id = some (T, tm, n, g)) : hget hp id = some (.prow T tm n g) := by
 unfold prowOf at h
 split at h
 ·injection h with h; injection h with h1 h; injection h with h2 h; injection h with h3 h4; subst h1; subst h2; subst h3; subst h4; assumption
 cases h
theorem Z18 {hp : List (Nat × Ck)} {id : Nat} {tm : Tm} {l : List D} {o : Option (Nat × List SV)} (h : ghoOf hp id = some (tm, l, o)) : hget hp id = some (.gho tm l o) := by
 unfold ghoOf at h
 split at h
 ·injection h with h; injection h with h1 h; injection h with h2 h3; subst h1; subst h2; subst h3; assumption
 cases h
theorem Zji {hp : List (Nat × Ck)} {id : Nat} {t : Ty} {l : List D} (h : mpOf hp id = some (t, l)) : hget hp id = some (.mp t l) := by
 unfold mpOf at h
 split at h
 ·injection h with h; injection h with h1 h2; subst h1; subst h2; assumption
 cases h
theorem TmOk.len {w : World} {Av : Nat → Prop} : ∀ {tm : Tm} {d : D} {us : List Value} {bl : List Nat}, TmOk w Av tm d us bl → us.length = tm.size
 | .v t, d, us, bl, h => by unfold TmOk at h; exact h.2.1
 | .p T fs, d, us, bl, h => by unfold TmOk at h; obtain ⟨b, cs, bl', rfl, _⟩ := h; rfl
 | .w T e, d, us, bl, h => by unfold TmOk at h; obtain ⟨p, rfl, _⟩ := h; rfl
theorem Zjb : ∀ (l : List SV) (n : Nat) (x : SV) (j : Nat), (lput l n x)[j]? = if n = j ∧ j < l.length then some x else l[j]?
 | [], n, x, j => by simp [lput]
 | y :: l, 0, x, j => by cases j <;> simp [lput]
 | y :: l, n + 1, x, j => by
  cases j with
  | zero => simp [lput]
  | succ j => simp only [lput, List.getElem?_cons_succ, Zjb l n x j, List.length_cons]; simp
theorem Zjc : ∀ (l : List SV) (n : Nat) (x : SV), (lput l n x).length = l.length
 | [], n, x => rfl
 | y :: l, 0, x => rfl
 | y :: l, n + 1, x => by simp [lput, Zjc l n x]
section
variable {P : Program} {C : Ctx} {PL : Nat → Option Pl} {s : St} {Fr : Nat → Prop} {a : Act} {w : World} {o : Oper} {Q : Exit → Act → World → Prop}
theorem Zvp (h : Sat C PL s Fr a w) {t e : TypeId} {x i : Operand} {x' i' : Opnd} {id : Nat} {T : TypeId} {tm : Tm} {m g : Nat} {k : IntKind} {n : Int} (ho : o.op = .indexAddr t x i) (ht : P.underlying t = some (.slice e)) (hz : P.cellsOf e ≠ 0) (hx : cX x = some x') (hi : cX i = some i')
  (h1 : s.ev x' = some (.wsl id)) (h2 : s.ev i' = some (.v (.int k n))) (hr : prowOf s.hp id = some (T, tm, m, g)) (hs : tm.size = P.cellsOf e) (hob : 0 ≤ n ∧ n < lock ofN m) {ob : List Prop} {rd : List Nat} :
  o.wp P a w (Eff.post ⟨ob, rd, [], .one (.ept id (lock toN n) 0) []⟩ C s o.dst Fr) Q := by
 have d1 := Z4 h hx h1
 have d2 := Z4 h hi h2
 generalize hq : a.eval x = q at d1
 generalize hy : a.eval i = y at d2
 cases d2
 cases d1 with
 | wsl _ p hp =>
  obtain ⟨p', q', hp', hq', hl, hl2, hsz, h0, _, hrow⟩ := h.ck id _ (Z1v hr)
  rw [hp] at hp'; injection hp' with hp'; subst hp'
  simp only [lock_eq, ofN, toN] at hob ⊢
  rcases hrow with ⟨_, _, hn⟩ | ⟨b, cs, ha, _⟩
  ·omega
  have hd := Den.ept (w := w) (Av := Avo C PL s.hp) id n.toNat 0 b p hp ha (by omega)
  refine Z7 h (Z7t t e x i ho ht hz p.a p.len p.cap k n hq hy ⟨hob.1, by omega⟩ _ ha) ?_
  rw [Zo, ← hs, ← hsz]
  simpa using hd
theorem Zvz (h : Sat C PL s Fr a w) {c : Call} {t : TypeId} {x : Operand} {x' : Opnd} {id : Nat} {T : TypeId} {tm : Tm} {m g : Nat} (ho : o.op = .call c) (hc : c.callee = .builtin .len) (ha : c.args.toList = [x]) (ht : c.argTypes[0]? = some t)
  (hu : ∃ e, P.underlying t = some (.slice e)) (hx : cX x = some x') (h1 : s.ev x' = some (.wsl id)) (hr : prowOf s.hp id = some (T, tm, m, g)) {ob : List Prop} {rd : List Nat} :
  o.wp P a w (Eff.post ⟨ob, rd, [], .one (.v (.int .i64 (lock ofN m))) []⟩ C s o.dst Fr) Q := by
 have d1 := Z4 h hx h1
 have hargs : c.args = #[x] := by rw [← Array.toArray_toList (xs := c.args), ha]
 refine Z7 h (x := .int .i64 (lock ofN m)) ?_ (.v _)
 generalize hq : a.eval x = q at d1
 cases d1 with
 | wsl _ p hp =>
  obtain ⟨p', q', hp', hq', hl, _⟩ := h.ck id _ (Z1v hr)
  rw [hp] at hp'; injection hp' with hp'; subst hp'
  obtain ⟨el, hs⟩ := hu
  simp [execOp, ho, resolve, hc, hargs, invoke, builtin, hq, Builtin.len_, ht, run_underlying hs, goInt, lock_eq, ofN, hl]
theorem Zd5 (h : Sat C PL s Fr a w) {id i off : Nat} {T : TypeId} {tm : Tm} {n g : Nat} (hr : prowOf s.hp id = some (T, tm, n, g)) {x : Value} (hd : Den PL w (Avo C PL s.hp) (.ept id i off) x) :
  ∃ (p q : Pl) (b : Nat) (cs : Array Value) (e : List Value × List Nat), x = .pointer (some ⟨b, i * tm.size + off, none⟩) ∧ PL id = some p ∧ PL g = some q ∧ p.a = some ⟨b, 0, none⟩ ∧ p.len = n ∧ q.bl.length = n ∧ p.sz = tm.size ∧ 0 < tm.size ∧ i < n ∧ q.bl[i]? = some e ∧ e.1.length = tm.size ∧ (∀ u ∈ e.1, u.oneCell' = true) ∧
   w.heap[b]? = some (.cells cs T (0, 0)) ∧ n ≤ p.cap ∧ p.cap ≤ maxLen ∧ cs.size = p.cap * tm.size ∧ (∀ (i : Nat) (e : List Value × List Nat), q.bl[i]? = some e → e.1.length = tm.size ∧ ∀ u ∈ e.1, u.oneCell' = true) ∧
   ∀ (i j : Nat) (e : List Value × List Nat) (u : Value), q.bl[i]? = some e → e.1[j]? = some u → cs[i * tm.size + j]? = some u := by
 obtain ⟨p, q, hp, hq, hl, hl2, hsz, h0, he, hrow⟩ := h.ck id _ (Z1v hr)
 cases hd with
 | ept _ _ _ b p' hp' ha hi =>
  rw [hp] at hp'; injection hp' with hp'; subst hp'
  rcases hrow with ⟨hn, _⟩ | ⟨b', cs, ha', hh, h3, h4, h5, h6⟩
  ·rw [hn] at ha; cases ha
  rw [ha] at ha'; injection ha' with ha'; injection ha' with ha'; subst ha'
  have hin : i < q.bl.length := by omega
  exact ⟨p, q, b, cs, q.bl[i], by rw [hsz], hp, hq, ha, hl, hl2, hsz, h0, by omega, List.getElem?_eq_getElem hin, (he i _ (List.getElem?_eq_getElem hin)).1, (he i _ (List.getElem?_eq_getElem hin)).2, hh, h3, h4, h5, he, h6⟩
theorem Zvw (h : Sat C PL s Fr a w) {fresh : Nat} (hfr : ∀ i, fresh ≤ i → i < fresh + 8 → Fr i) (hk : C.k ≤ fresh) {t : TypeId} {x : Operand} {x' : Opnd} {id i off : Nat} {T : TypeId} {tm tm' : Tm} {n g m : Nat} {l : List D} {cs : List SV} {chs : List (Nat × Ck)} {v : SV}
  (ho : o.op = .load t x) (ht : aggOf P t = some false) (hx : cX x = some x') (h1 : s.ev x' = some (.ept id i off)) (hr : prowOf s.hp id = some (T, tm, n, g)) (hg : ghoOf s.hp g = some (tm', l, none)) (hopn : tm'.opn (lock getD l i) (fresh + 1) = (cs, chs, m)) (hv : cs[off]? = some v) (hm : m ≤ fresh + 8)
  {ob : List Prop} {rd wr : List Nat} :
  o.wp P a w (Eff.post ⟨ob, rd, wr, .one v ((g, some (.gho tm' l (some (i, cs)))) :: chs.map fun x => (x.1, some x.2))⟩ C s o.dst (fun i => Fr i ∧ ¬ (fresh ≤ i ∧ i < fresh + 8))) Q := by
 have d1 := Z4 h hx h1
 generalize hxe : a.eval x = xv at d1
 obtain ⟨p, q, b, arr, e, rfl, hp, hq, ha, hl, hl2, hsz, h0, hin, he, hel, he1, hh, hnc, hcm, hcs, hall, hcell⟩ := Zd5 h hr d1
 have hgc := Z18 hg
 obtain ⟨q', hq', hll, hnd, hgo⟩ := h.ck g _ hgc
 rw [hq] at hq'; injection hq' with hq'; subst hq'
 have hTm : TmOk w (Avo C PL s.hp) tm' (lock getD l i) e.1 e.2 := hgo i e he
 obtain ⟨f, F⟩ := Zk8 tm' _ _ _ (fresh + 1) hTm (hnd.1 i e he)
 rw [hopn] at F
 simp only [] at F
 have hPn : ∀ j p, f j = some p → PL j = none := fun j p hj => by
  have := F.rng j p hj
  exact h.fr j (hfr j (by omega) (by omega))
 have hP : ∀ j p, PL j = some p → (match f j with | some p => some p | none => PL j) = some p := fun j p hj => by
  cases hf : f j with
  | none => exact hj
  | some p' => rw [hPn j p' hf] at hj; cases hj
 have hPf : ∀ j p, f j = some p → (match f j with | some p => some p | none => PL j) = some p := fun j p hj => by rw [hj]
 have hfg : f g = none := by
  cases hf : f g with
  | none => rfl
  | some p' => rw [hPn g p' hf] at hq; cases hq
 have hmem : ∀ id c, ulook ((g, some (.gho tm' l (some (i, cs)))) :: chs.map fun x => (x.1, some x.2)) id = some (some c) → (id = g ∧ c = .gho tm' l (some (i, cs))) ∨ (id, c) ∈ chs := fun id c hu => by
  rcases List.mem_cons.1 (Z58 hu) with e | e
  ·injection e with e1 e2; injection e2 with e2; exact .inl ⟨e1, e2⟩
  obtain ⟨y, hy, e⟩ := List.mem_map.1 e
  injection e with e1 e2; injection e2 with e2
  subst e1; subst e2
  exact .inr hy
 have hgs : (ulook ((g, some (.gho tm' l (some (i, cs)))) :: chs.map fun x => (x.1, some x.2)) g).isSome = true := Z59 List.mem_cons_self
 have mv : Mv C PL s.hp w ((g, some (.gho tm' l (some (i, cs)))) :: chs.map fun x => (x.1, some x.2)) (fun j => match f j with | some p => some p | none => PL j) (fun i => Fr i ∧ ¬ (fresh ≤ i ∧ i < fresh + 8)) w := by
  refine ⟨hP, ?_, ?_, rfl, rfl, rfl, Nat.le_refl _, fun _ _ _ => rfl, ?_, ?_⟩
  ·intro j hj
   cases hf : f j with
   | none => rfl
   | some p' => have := F.rng j p' hf; omega
  ·intro j hj
   cases hf : f j with
   | none => exact h.fr j hj.1
   | some p' => have := F.rng j p' hf; exact absurd ⟨by omega, by omega⟩ hj.2
  ·intro id' c p' b' hu hp' hb'
   rcases hmem id' c hu with ⟨rfl, rfl⟩ | hc
   ·rw [hP _ _ hq] at hp'
    injection hp' with hp'
    subst hp'
    obtain ⟨i', e', h1', h2', _⟩ := hb'
    exact .inr ⟨id', _, q, hgc, hq, ⟨i', e', h1', h2'⟩, hgs⟩
   obtain ⟨p2, hp2, hk2⟩ := F.key _ hc
   have hp2 : f id' = some p2 := hp2
   rw [hPf _ _ hp2] at hp'
   injection hp' with hp'
   subst hp'
   exact .inr ⟨g, _, q, hgc, hq, ⟨i, e, he, hk2 b' hb'⟩, hgs⟩
  intro i1 i2 c d p1 p2 b' hi hj hp1 hp2 hb1 hb2
  have gside : ∀ (id' : Nat) (c : Ck) (p' : Pl), (id', c) ∈ chs → (match f id' with | some p => some p | none => PL id') = some p' → c.has p' b' → b' ∈ e.2 ∧ f id' = some p' := by
   intro id' c p' hc hp' hb'
   obtain ⟨p2, hp2, hk2⟩ := F.key _ hc
   have hp2 : f id' = some p2 := hp2
   rw [hPf _ _ hp2] at hp'
   injection hp' with hp'
   subst hp'
   exact ⟨hk2 b' hb', hp2⟩
  have hside : ∀ (p' : Pl), (match f g with | some p => some p | none => PL g) = some p' → (Ck.gho tm' l (some (i, cs))).has p' b' → ∃ i' e', q.bl[i']? = some e' ∧ b' ∈ e'.2 ∧ i' ≠ i := by
   intro p' hp' hb'
   rw [hP _ _ hq] at hp'
   injection hp' with hp'
   subst hp'
   exact hb'
  rcases hmem i1 c hi with ⟨rfl, rfl⟩ | hc <;> rcases hmem i2 d hj with ⟨rfl, rfl⟩ | hd
  ·rfl
  ·obtain ⟨i', e', f1, f2, f3⟩ := hside p1 hp1 hb1
   exact absurd (hnd.2 i' i e' e b' f1 he f2 (gside i2 d p2 hd hp2 hb2).1) f3
  ·obtain ⟨i', e', f1, f2, f3⟩ := hside p2 hp2 hb2
   exact absurd (hnd.2 i' i e' e b' f1 he f2 (gside i1 c p1 hc hp1 hb1).1) f3
  exact F.dj _ hc _ hd p1 p2 b' (gside i1 c p1 hc hp1 hb1).2 (gside i2 d p2 hd hp2 hb2).2 hb1 hb2
 have tr := h.toHSat.tr mv
 have hD := (F.dens _ hPf).mono (Av' := Avo C (fun j => match f j with | some p => some p | none => PL j) (hupd ((g, some (.gho tm' l (some (i, cs)))) :: chs.map fun x => (x.1, some x.2)) s.hp)) (PL' := fun j => match f j with | some p => some p | none => PL j) (w' := w) fun v x d => d.mono (fun _ _ h => h) (Nat.le_refl _) (fun _ _ _ => rfl) tr.A
 have H := h.toHSat.mv mv (fun id' c hu => by
  rcases hmem id' c hu with ⟨rfl, rfl⟩ | hc
  ·refine ⟨q, hP _ _ hq, hll, hnd, fun i' e' he' => ⟨fun hi' => ?_, fun hi' => TmOk.mono (Nat.le_refl _) (fun _ _ _ => rfl) tr.A _ _ _ _ (hgo i' e' he') fun _ _ => rfl⟩⟩
   subst hi'
   rw [he] at he'
   injection he' with he'
   subst he'
   have := hTm.len
   exact ⟨by have := hD.1; omega, this, fun j a b => hD.2 j a b⟩
  exact (F.ok _ hPf _ hc).mono (fun _ _ h => h) (Nat.le_refl _) (fun _ _ _ => rfl) tr.A (fun _ _ _ _ => rfl))
 obtain ⟨hoff, hv⟩ := List.getElem?_eq_some_iff.1 hv
 have hoff2 : off < e.1.length := by have := hD.1; omega
 have h9 : w.cell? ⟨b, i * tm.size + off, none⟩ = some e.1[off] := by
  rw [cell_of_row w b _ arr T (0, 0) hh]
  exact hcell i off e _ he (List.getElem?_eq_getElem hoff2)
 refine Zx (x := e.1[off]) (w' := w) ?_ ⟨_, h.mv H tr o.dst (some v) _ fun v' hv' => ?_⟩
 ·simp [execOp, ho, hxe, Instr.loadAt, Instr.sureAddr, loadVar, Z1m ht, h9]
 injection hv' with hv'
 subst hv'
 rw [← hv]
 exact (hD.2 off hoff hoff2).1
theorem Zvx (h : Sat C PL s Fr a w) {t : TypeId} {x : Operand} {x' : Opnd} {id i off k : Nat} {T : TypeId} {tm tm' : Tm} {n g : Nat} {l : List D} {cs : List SV} {v : SV}
  (ho : o.op = .load t x) (ht : aggOf P t = some false) (hx : cX x = some x') (h1 : s.ev x' = some (.ept id i off)) (hr : prowOf s.hp id = some (T, tm, n, g)) (hg : ghoOf s.hp g = some (tm', l, some (k, cs))) (hv : cs[off]? = some v) (hik : i = k)
  {ob : List Prop} {rd : List Nat} : o.wp P a w (Eff.post ⟨ob, rd, [], .one v []⟩ C s o.dst Fr) Q := by
 have d1 := Z4 h hx h1
 generalize hxe : a.eval x = xv at d1
 obtain ⟨p, q, b, arr, e, rfl, hp, hq, ha, hl, hl2, hsz, h0, hin, he, hel, he1, hh, hnc, hcm, hcs, hall, hcell⟩ := Zd5 h hr d1
 obtain ⟨q', hq', hll, hnd, hgo⟩ := h.ck g _ (Z18 hg)
 rw [hq] at hq'; injection hq' with hq'; subst hq'
 obtain ⟨g1, g2, g3⟩ := (hgo i e he).1 hik
 obtain ⟨hoff, hv⟩ := List.getElem?_eq_some_iff.1 hv
 have hoff2 : off < e.1.length := by omega
 have h9 : w.cell? ⟨b, i * tm.size + off, none⟩ = some e.1[off] := by
  rw [cell_of_row w b _ arr T (0, 0) hh]
  exact hcell i off e _ he (List.getElem?_eq_getElem hoff2)
 refine Z7 h (x := e.1[off]) ?_ (by rw [← hv]; exact (g3 off hoff hoff2).1)
 simp [execOp, ho, hxe, Instr.loadAt, Instr.sureAddr, loadVar, Z1m ht, h9]
theorem Zk4 {v : SV} (h : v.one = true) : v.flat = [v] := by
 cases v <;> first | rfl | (simp [SV.one] at h)
theorem Zwf (h : Sat C PL s Fr a w) {fresh : Nat} (hf : Fr fresh) (hk : ¬ fresh < C.k) {U : TypeId} {x y : Operand} {x' y' : Opnd} {id i off k : Nat} {T : TypeId} {tm tm' : Tm} {n g : Nat} {l : List D} {cs : List SV} {v : SV}
  (ho : o.op = .store U x y) (hdst : o.dst = none) (hi : (P.info? U).isSome = true) (hU : P.cellsOf U = 1) (hx : cX x = some x') (hy : cX y = some y') (h1 : s.ev x' = some (.ept id i off)) (h2 : s.ev y' = some v) (hr : prowOf s.hp id = some (T, tm, n, g)) (hg : ghoOf s.hp g = some (tm', l, some (k, cs)))
  (hv1 : v.one = true) (hoff : off + 1 ≤ cs.length) (hsz1 : tm.size = 1) (hik : i = k) {ob : List Prop} {rd wr : List Nat} {sv : SV} :
  o.wp P a w (Eff.post ⟨ob, rd, wr, .one sv [(g, none), (id, some (.prow T tm n fresh)), (fresh, some (.gho tm' l (some (k, lput cs off v))))]⟩ C s o.dst (fun i => Fr i ∧ i ≠ fresh)) Q := by
 subst hik
 have d1 := Z4 h hx h1
 have d2 := Z4 h hy h2
 generalize hxe : a.eval x = xv at d1
 obtain ⟨p, q, b, arr, e, rfl, hp, hq, ha, hl, hl2, hsz, h0, hin, he, hel, he1, hh, hnc, hcm, hcs, hall, hcell⟩ := Zd5 h hr d1
 have hrc := Z1v hr
 have hgc := Z18 hg
 obtain ⟨q', hq', hll, hnd, hgo⟩ := h.ck g _ hgc
 rw [hq] at hq'; injection hq' with hq'; subst hq'
 obtain ⟨g1, g2, g3⟩ := (hgo i e he).1 rfl
 have hoff0 : off = 0 := by omega
 subst hoff0
 have hff := Z4w d2 (by rw [Zk4 hv1]; simp [ones, hv1])
 rw [Zk4 hv1] at hff
 have hcl : (a.eval y).cells.toList.length = 1 := by have := hff.1; simpa using this
 obtain ⟨u0, hu0⟩ := List.length_eq_one_iff.1 hcl
 rw [hu0] at hff
 obtain ⟨hd0, ho0⟩ := hff.2 0 (by simp) (by simp)
 simp only [List.getElem_cons_zero] at hd0 ho0
 obtain ⟨ti, hti⟩ := Option.isSome_iff_exists.1 hi
 have hisz0 : P.cellsOf U = ti.size := by simp [Program.cellsOf, hti]
 have hisz : ti.size = 1 := by omega
 rw [hsz1] at hel
 simp only [Nat.mul_one, Nat.add_zero, hsz1] at hcs hxe hcell
 have hia : i < arr.size := by omega
 have run := Zde (P := P) hti x y ho b i hxe arr T hh (by rw [hisz]; simpa using hcl) (by omega) (fun u hu => by rw [hu0] at hu; rw [List.mem_singleton.1 hu]; exact ho0)
 rw [hu0, hisz] at run
 have hset : arr.toList.take i ++ [u0] ++ arr.toList.drop (i + 1) = arr.toList.set i u0 := by
  rw [List.set_eq_take_append_cons_drop, if_pos (by simpa using hia)]
  simp
 rw [hset] at run
 have hidg : id ≠ g := fun e => by rw [e, hgc] at hrc; cases hrc
 have hidf : id ≠ fresh := fun e => by have := h.fr fresh hf; rw [← e, hp] at this; cases this
 have hgf : g ≠ fresh := fun e => by have := h.fr fresh hf; rw [← e, hq] at this; cases this
 have hlu : ∀ id' c, ulook [(g, none), (id, some (Ck.prow T tm n fresh)), (fresh, some (.gho tm' l (some (i, lput cs 0 v))))] id' = some (some c) → (id' = id ∧ c = .prow T tm n fresh) ∨ (id' = fresh ∧ c = .gho tm' l (some (i, lput cs 0 v))) := fun id' c hu => by
  have := Z58 hu
  simp only [List.mem_cons, Prod.mk.injEq, List.not_mem_nil, or_false] at this
  rcases this with ⟨_, e⟩ | ⟨e1, e2⟩ | ⟨e1, e2⟩
  ·cases e
  ·injection e2 with e2; exact .inl ⟨e1, e2⟩
  injection e2 with e2; exact .inr ⟨e1, e2⟩
 have hus : ∀ j, j = g ∨ j = id → (ulook [(g, none), (id, some (Ck.prow T tm n fresh)), (fresh, some (.gho tm' l (some (i, lput cs 0 v))))] j).isSome = true := fun j hj => by
  rcases hj with rfl | rfl
  ·exact Z59 List.mem_cons_self
  exact Z59 (List.mem_cons_of_mem _ List.mem_cons_self)
 have hget' : ∀ j e', (q.bl.set i (e.1.set 0 u0, e.2))[j]? = some e' → (j = i ∧ e' = (e.1.set 0 u0, e.2)) ∨ (j ≠ i ∧ q.bl[j]? = some e') := fun j e' hj => by
  rw [List.getElem?_set] at hj
  by_cases hij : i = j
  ·rw [if_pos hij] at hj
   split at hj
   ·injection hj with hj; exact .inl ⟨hij.symm, hj.symm⟩
   cases hj
  rw [if_neg hij] at hj; exact .inr ⟨fun e => hij e.symm, hj⟩
 have hown : ∀ j e' b', q.bl[j]? = some e' → j ≠ i → b' ∈ e'.2 → b' ≠ b := fun j e' b' hj hji hb' hbb => by
  subst hbb
  exact hidg (h.dj id g _ _ p q b' hrc hgc hp hq ha ⟨j, e', hj, hb', hji⟩)
 have mv : Mv C PL s.hp w [(g, none), (id, some (.prow T tm n fresh)), (fresh, some (.gho tm' l (some (i, lput cs 0 v))))] (padd PL fresh ⟨none, 0, 0, 0, q.bl.set i (e.1.set 0 u0, e.2)⟩) (fun i => Fr i ∧ i ≠ fresh) (w.setRow b (arr.toList.set i u0).toArray) := by
  refine ⟨Z2p _ (h.fr fresh hf), fun i hi => Zi _ _ _ _ (fun e => hk (e ▸ hi)), fun i hi => by rw [Zi _ _ _ _ hi.2]; exact h.fr i hi.1, rfl, rfl, rfl, Nat.le_of_eq (Z7v _ _ _).symm, ?_, ?_, ?_⟩
  ·intro b' hb' hne
   exact Z55 _ _ _ _ fun e => hne id _ p hrc (hus id (.inr rfl)) hp (show p.a = _ by rw [ha, e])
  ·intro id' c p' b' hu hp' hb'
   rcases hlu id' c hu with ⟨rfl, rfl⟩ | ⟨rfl, rfl⟩
   ·rw [Zi _ _ _ _ hidf, hp] at hp'
    injection hp' with hp'; subst hp'
    exact .inr ⟨id', _, p, hrc, hp, hb', hus id' (.inr rfl)⟩
   rw [Zg] at hp'
   injection hp' with hp'; subst hp'
   obtain ⟨j, e', f1, f2, f3⟩ := hb'
   rcases hget' j e' f1 with ⟨f4, _⟩ | ⟨_, f5⟩
   ·exact absurd f4 f3
   exact .inr ⟨g, _, q, hgc, hq, ⟨j, e', f5, f2, f3⟩, hus g (.inl rfl)⟩
  intro i1 i2 c d p1 p2 b' hi1 hi2 hp1 hp2 hb1 hb2
  have key : ∀ (p1 p2 : Pl), padd PL fresh ⟨none, 0, 0, 0, q.bl.set i (e.1.set 0 u0, e.2)⟩ id = some p1 → padd PL fresh ⟨none, 0, 0, 0, q.bl.set i (e.1.set 0 u0, e.2)⟩ fresh = some p2 → (Ck.prow T tm n fresh).has p1 b' → (Ck.gho tm' l (some (i, lput cs 0 v))).has p2 b' → False := by
   intro p1 p2 hp1 hp2 hb1 hb2
   rw [Zi _ _ _ _ hidf, hp] at hp1
   injection hp1 with hp1; subst hp1
   rw [Zg] at hp2
   injection hp2 with hp2; subst hp2
   obtain ⟨j, e', f1, f2, f3⟩ := hb2
   have hb1 : p.a = some ⟨b', 0, none⟩ := hb1
   rw [ha] at hb1; injection hb1 with hb1; injection hb1 with hb1
   rcases hget' j e' f1 with ⟨f4, _⟩ | ⟨_, f5⟩
   ·exact f3 f4
   exact hown j e' b' f5 f3 f2 hb1.symm
  rcases hlu i1 c hi1 with ⟨rfl, rfl⟩ | ⟨rfl, rfl⟩ <;> rcases hlu i2 d hi2 with ⟨e5, rfl⟩ | ⟨e5, rfl⟩
  ·exact e5.symm
  ·subst e5; exact (key p1 p2 hp1 hp2 hb1 hb2).elim
  ·subst e5; exact (key p2 p1 hp2 hp1 hb2 hb1).elim
  exact e5.symm
 have tr := h.toHSat.tr mv
 have hat : (w.setRow b (arr.toList.set i u0).toArray).heap[b]? = some (.cells (arr.toList.set i u0).toArray T (0, 0)) := Z2s _ _ _ _ _ _ hh
 have H := h.toHSat.mv mv (fun id' c hu => by
  rcases hlu id' c hu with ⟨rfl, rfl⟩ | ⟨rfl, rfl⟩
  ·refine ⟨p, _, by rw [Zi _ _ _ _ hidf]; exact hp, Zg _ _ _, hl, by simp only [List.length_set]; exact hl2, hsz, h0, ?_, .inr ⟨b, _, ha, hat, hnc, hcm, by simp [hsz1, hcs], ?_⟩⟩
   ·intro j e' hj
    rcases hget' j e' hj with ⟨_, rfl⟩ | ⟨_, hj⟩
    ·refine ⟨by simp only [List.length_set, hsz1]; exact hel, fun u hu => ?_⟩
     rcases List.mem_or_eq_of_mem_set hu with hu | rfl
     ·exact he1 u hu
     exact ho0
    exact hall j e' hj
   intro j t e' u hj hu
   rw [hsz1, Nat.mul_one]
   rcases hget' j e' hj with ⟨rfl, rfl⟩ | ⟨hji, hj⟩
   ·have ht : t = 0 := by
     have := (List.getElem?_eq_some_iff.1 hu).1
     simp only [List.length_set] at this
     omega
    subst ht
    rw [List.getElem?_set_self (by omega)] at hu
    injection hu with hu; subst hu
    simp only [List.getElem?_toArray, Nat.add_zero]
    rw [List.getElem?_set_self (by simpa using hia)]
   have ht : t = 0 := by
    have := (List.getElem?_eq_some_iff.1 hu).1
    have := (hall j e' hj).1
    omega
   subst ht
   simp only [List.getElem?_toArray, Nat.add_zero]
   rw [List.getElem?_set_ne (fun e => hji e.symm)]
   have := hcell j 0 e' u hj hu
   simpa using this
  refine ⟨_, Zg _ _ _, by simp only [List.length_set]; exact hll, ⟨fun j e' hj => ?_, fun j1 j2 e1 e2 b' hj1 hj2 hb1 hb2 => ?_⟩, fun j e' hj => ⟨fun hji => ?_, fun hji => ?_⟩⟩
  ·rcases hget' j e' hj with ⟨_, rfl⟩ | ⟨_, hj⟩
   ·exact hnd.1 i e he
   exact hnd.1 j e' hj
  ·have old : ∀ (j : Nat) (e' : List Value × List Nat), (q.bl.set i (e.1.set 0 u0, e.2))[j]? = some e' → b' ∈ e'.2 → ∃ e'' : List Value × List Nat, q.bl[j]? = some e'' ∧ b' ∈ e''.2 := fun j e' hj hb => by
    rcases hget' j e' hj with ⟨rfl, rfl⟩ | ⟨_, hj⟩
    ·exact ⟨e, he, hb⟩
    exact ⟨e', hj, hb⟩
   obtain ⟨f1, k1, k2⟩ := old j1 e1 hj1 hb1
   obtain ⟨f2, k3, k4⟩ := old j2 e2 hj2 hb2
   exact hnd.2 j1 j2 f1 f2 b' k1 k3 k2 k4
  ·rcases hget' j e' hj with ⟨_, rfl⟩ | ⟨hn, _⟩
   ·refine ⟨by rw [Zjc]; exact g1, by simp only [List.length_set]; exact g2, fun t a1 a2 => ?_⟩
    have ht : t = 0 := by simp only [List.length_set] at a2; omega
    subst ht
    have e3 : (lput cs 0 v)[0] = v := by
     have := Zjb cs 0 v 0
     rw [if_pos ⟨rfl, by omega⟩, List.getElem?_eq_getElem a1] at this
     injection this
    rw [e3]
    simp only [List.getElem_set_self]
    exact ⟨hd0.tr tr, ho0⟩
   exact absurd hji hn
  rcases hget' j e' hj with ⟨hn, _⟩ | ⟨_, hj⟩
  ·exact absurd hn hji
  exact TmOk.mono tr.s tr.wh tr.A _ _ _ _ ((hgo j e' hj).2 hji) fun b' hb' => Z55 _ _ _ _ (fun e4 => hown j e' b' hj hji hb' e4))
 refine Zfn run ?_
 rw [hdst]
 exact ⟨_, h.mv H tr none none undef fun u hu => by cases hu⟩
end
section
variable {P : Program} {C : Ctx} {PL : Nat → Option Pl} {s : St} {Fr : Nat → Prop} {a : Act} {w : World} {o : Oper} {Q : Exit → Act → World → Prop}
def Gone (PL : Nat → Option Pl) (hp : List (Nat × Ck)) (ids : List Nat) (b : Nat) : Prop := ∃ id ∈ ids, ∃ c p, hget hp id = some c ∧ PL id = some p ∧ c.has p b
theorem Zcf : ∀ (ids : List Nat) (u : List (Nat × Option Ck)), gone ids u = ids.map (fun i => (i, none)) ++ u
 | [], u => rfl
 | i :: l, u => by simp only [gone, Zcf l u, List.map_cons, List.cons_append]
theorem Z7l (h : Sat C PL s Fr a w) {f : Nat} (hfr : ∀ i, f ≤ i → i < f + 8 → Fr i) (hk : C.k ≤ f) {T : TypeId} {tm : Tm} {n : Nat} {l : List D} (ids : List Nat)
  {w' : World} (hos : w'.os = w.os) (ht : w'.tape = w.tape) (hou : w'.output = w.output) (hsz : w.heap.size ≤ w'.heap.size) (pa : Option Addr) (cap : Nat) (bl : List (List Value × List Nat)) (hbl : bl.length = n) (hl : l.length = n) (hnd : BlND bl)
  (hold : ∀ b, b < w.heap.size → ¬ Gone PL s.hp ids b → w'.heap[b]? = w.heap[b]?) (hblk : ∀ e ∈ bl, ∀ b ∈ e.2, Gone PL s.hp ids b ∧ w'.heap[b]? = w.heap[b]?)
  (hpa : ∀ b, pa = some ⟨b, 0, none⟩ → (w.heap.size ≤ b ∨ Gone PL s.hp ids b) ∧ ∀ e ∈ bl, b ∉ e.2)
  (hTm : ∀ i e, bl[i]? = some e → TmOk w (Avo C PL s.hp) tm (lock getD l i) e.1 e.2) (he1 : ∀ e ∈ bl, ∀ u ∈ e.1, u.oneCell' = true) (hts : 0 < tm.size)
  (hrow : (pa = none ∧ cap = 0 ∧ n = 0) ∨ ∃ b cs, pa = some ⟨b, 0, none⟩ ∧ w'.heap[b]? = some (.cells cs T (0, 0)) ∧ n ≤ cap ∧ cap ≤ maxLen ∧ cs.size = cap * tm.size ∧
   ∀ (i j : Nat) (e : List Value × List Nat) (u : Value), bl[i]? = some e → e.1[j]? = some u → cs[i * tm.size + j]? = some u)
  (hr : (execOp a.eval o).run P w = .ok (.value (.slice pa n cap)) w') {ob : List Prop} {rd wr : List Nat} :
  o.wp P a w (Eff.post ⟨ob, rd, wr, .one (.wsl f) (ids.map (fun i => (i, none)) ++ [(f, some (.prow T tm n (f + 1))), (f + 1, some (.gho tm l none))])⟩ C s o.dst (fun i => Fr i ∧ ¬ (f ≤ i ∧ i < f + 8))) Q := by
 refine Zx hr ?_
 have hP0 : PL f = none := h.fr f (hfr f (Nat.le_refl _) (by omega))
 have hP1 : PL (f + 1) = none := h.fr (f + 1) (hfr (f + 1) (by omega) (by omega))
 have hlu : ∀ id' c, ulook (ids.map (fun i => (i, (none : Option Ck))) ++ [(f, some (.prow T tm n (f + 1))), (f + 1, some (.gho tm l none))]) id' = some (some c) → (id' = f ∧ c = .prow T tm n (f + 1)) ∨ (id' = f + 1 ∧ c = .gho tm l none) := fun id' c hu => by
  have := Z58 hu
  simp only [List.mem_append, List.mem_map, List.mem_cons, Prod.mk.injEq, List.not_mem_nil, or_false] at this
  rcases this with ⟨_, _, _, e⟩ | ⟨e1, e2⟩ | ⟨e1, e2⟩
  ·cases e
  ·injection e2 with e2; exact .inl ⟨e1, e2⟩
  injection e2 with e2; exact .inr ⟨e1, e2⟩
 have hus : ∀ j ∈ ids, (ulook (ids.map (fun i => (i, (none : Option Ck))) ++ [(f, some (.prow T tm n (f + 1))), (f + 1, some (.gho tm l none))]) j).isSome = true := fun j hj =>
  Z59 (List.mem_append_left _ (List.mem_map.2 ⟨j, hj, rfl⟩))
 have hq1 : padd (padd PL f ⟨pa, n, cap, tm.size, []⟩) (f + 1) ⟨none, 0, 0, 0, bl⟩ f = some ⟨pa, n, cap, tm.size, []⟩ := by rw [Zi _ _ _ _ (by omega), Zg]
 have hq2 : padd (padd PL f ⟨pa, n, cap, tm.size, []⟩) (f + 1) ⟨none, 0, 0, 0, bl⟩ (f + 1) = some ⟨none, 0, 0, 0, bl⟩ := Zg _ _ _
 have hgh : ∀ b, (Ck.gho tm l none).has ⟨none, 0, 0, 0, bl⟩ b → ∃ e ∈ bl, b ∈ e.2 := fun b ⟨i, e, h1, h2⟩ => ⟨e, List.mem_of_getElem? h1, h2⟩
 have mv : Mv C PL s.hp w (ids.map (fun i => (i, none)) ++ [(f, some (.prow T tm n (f + 1))), (f + 1, some (.gho tm l none))]) (padd (padd PL f ⟨pa, n, cap, tm.size, []⟩) (f + 1) ⟨none, 0, 0, 0, bl⟩) (fun i => Fr i ∧ ¬ (f ≤ i ∧ i < f + 8)) w' := by
  refine ⟨fun i q hq => ?_, fun i hi => ?_, fun i hi => ?_, hos, ht, hou, hsz, ?_, ?_, ?_⟩
  ·exact Z2p _ (by rw [Zi _ _ _ _ (by omega)]; exact hP1) i q (Z2p _ hP0 i q hq)
  ·rw [Zi _ _ _ _ (by omega), Zi _ _ _ _ (by omega)]
  ·rw [Zi _ _ _ _ (fun e => hi.2 (by omega)), Zi _ _ _ _ (fun e => hi.2 (by omega))]
   exact h.fr i hi.1
  ·intro b hb hne
   refine hold b hb fun ⟨id, hid, c, p, e1, e2, e3⟩ => hne id c p e1 (hus id hid) e2 e3
  ·intro id c p b hu hp hb
   have gn : Gone PL s.hp ids b → ∃ id0 c0 p0, hget s.hp id0 = some c0 ∧ PL id0 = some p0 ∧ c0.has p0 b ∧ (ulook (ids.map (fun i => (i, (none : Option Ck))) ++ [(f, some (.prow T tm n (f + 1))), (f + 1, some (.gho tm l none))]) id0).isSome = true :=
    fun ⟨id, hid, c, p, e1, e2, e3⟩ => ⟨id, c, p, e1, e2, e3, hus id hid⟩
   rcases hlu id c hu with ⟨rfl, rfl⟩ | ⟨rfl, rfl⟩
   ·rw [hq1] at hp
    injection hp with hp; subst hp
    rcases (hpa b hb).1 with h1 | h1
    ·exact .inl h1
    exact .inr (gn h1)
   rw [hq2] at hp
   injection hp with hp; subst hp
   obtain ⟨e, he, hb⟩ := hgh b hb
   exact .inr (gn (hblk e he b hb).1)
  intro i1 i2 c d p1 p2 b hi1 hi2 hp1 hp2 hb1 hb2
  have key : ∀ (p1 p2 : Pl), padd (padd PL f ⟨pa, n, cap, tm.size, []⟩) (f + 1) ⟨none, 0, 0, 0, bl⟩ f = some p1 → padd (padd PL f ⟨pa, n, cap, tm.size, []⟩) (f + 1) ⟨none, 0, 0, 0, bl⟩ (f + 1) = some p2 → (Ck.prow T tm n (f + 1)).has p1 b → (Ck.gho tm l none).has p2 b → False := by
   intro p1 p2 hp1 hp2 hb1 hb2
   rw [hq1] at hp1
   injection hp1 with hp1; subst hp1
   rw [hq2] at hp2
   injection hp2 with hp2; subst hp2
   obtain ⟨e, he, hb⟩ := hgh b hb2
   exact (hpa b hb1).2 e he hb
  rcases hlu i1 c hi1 with ⟨rfl, rfl⟩ | ⟨rfl, rfl⟩ <;> rcases hlu i2 d hi2 with ⟨e5, rfl⟩ | ⟨e5, rfl⟩
  ·exact e5.symm
  ·subst e5; exact (key p1 p2 hp1 hp2 hb1 hb2).elim
  ·subst e5; exact (key p2 p1 hp2 hp1 hb2 hb1).elim
  exact e5.symm
 have tr := h.toHSat.tr mv
 have H := h.toHSat.mv mv (fun id c hu => by
  rcases hlu id c hu with ⟨rfl, rfl⟩ | ⟨rfl, rfl⟩
  ·exact ⟨_, _, hq1, hq2, rfl, hbl, rfl, hts, fun i e he => ⟨(hTm i e he).len, he1 e (List.mem_of_getElem? he)⟩, hrow⟩
  exact ⟨_, hq2, by simp only []; omega, hnd, fun i e he => TmOk.mono tr.s tr.wh tr.A _ _ _ _ (hTm i e he) fun b hb => (hblk e (List.mem_of_getElem? he) b hb).2⟩)
 exact ⟨_, h.mv H tr o.dst (some _) _ fun v hv => by injection hv with hv; subst hv; exact .wsl f _ hq1⟩
theorem Zw3 (h : Sat C PL s Fr a w) {f : Nat} (hfr : ∀ i, f ≤ i → i < f + 8 → Fr i) (hk : C.k ≤ f) {t e : TypeId} {x y : Operand} {x' y' : Opnd} {U : TypeId} {u : Ty} {n c : Int} {i : TypeInfo} {z : Value} (ho : o.op = .makeSlice t x y) (ht : P.underlying t = some (.slice e)) (hi : P.info? e = some i) (hz : i.zero = some z) (hzc : z.cells.toList = [.slice none 0 0]) (his : i.size = 1) (hu : 0 < u.size) (hx : cX x = some x') (hy : cX y = some y')
  (h1 : s.ev x' = some (.v (.int .i64 n))) (h2 : s.ev y' = some (.v (.int .i64 c))) (hob : 0 ≤ n ∧ n ≤ c ∧ c * (P.bytesOf e : Int) ≤ 140737488355328 ∧ c ≤ 9223372036854775807) (hby : 0 < P.bytesOf e) {ob : List Prop} {rd wr : List Nat} :
  o.wp P a w (Eff.post ⟨ob, rd, wr, .one (.wsl f) [(f, some (.prow e (.w U u) (lock toN n) (f + 1))), (f + 1, some (.gho (.w U u) (lock (@lrep D) (lock toN n) (Tm.w U u).zero) none))]⟩ C s o.dst (fun i => Fr i ∧ ¬ (f ≤ i ∧ i < f + 8))) Q := by
 have d1 := Z4 h hx h1
 have d2 := Z4 h hy h2
 generalize hq : a.eval x = q at d1
 generalize hr : a.eval y = r at d2
 cases d1
 cases d2
 simp only [lock_eq, toN]
 have hibs : P.bytesOf e = i.bytes := by simp [Program.bytesOf, hi]
 have hbc : (i.bytes : Int) * c ≤ 281474976710656 := by rw [← hibs, Int.mul_comm]; omega
 have hcm : c.toNat ≤ 140737488355328 := by
  have : c * 1 ≤ c * (P.bytesOf e : Int) := Int.mul_le_mul_of_nonneg_left (by omega) (by omega)
  omega
 have run := run_make (P := P) w t e i z ht hi hz .i64 .i64 n c hob.1 hob.2.1 hbc hob.2.2.2
 have hzs : z.cells.size = 1 := by have := congrArg List.length hzc; simpa using this
 have hrep : ∀ i (e : List Value × List Nat), (List.replicate n.toNat ([Value.slice none 0 0], ([] : List Nat)))[i]? = some e → i < n.toNat ∧ e = ([.slice none 0 0], []) := fun i e he => by
  rw [List.getElem?_replicate] at he
  split at he
  ·injection he with he; exact ⟨by assumption, he.symm⟩
  cases he
 have hrm : ∀ e ∈ List.replicate n.toNat ([Value.slice none 0 0], ([] : List Nat)), e = ([.slice none 0 0], []) := fun e he => (List.mem_replicate.1 he).2
 refine Z7l h hfr hk (n := n.toNat) [] (w' := w.alloc (.cells (madeCells z.cells (c.toNat * i.size)) e)) rfl rfl rfl (by simp) (some ⟨w.heap.size, 0, none⟩) c.toNat (List.replicate n.toNat ([.slice none 0 0], [])) (by simp) (by simp [lrep]) ⟨fun i e he => ?_, fun i j e f b he hf hb => ?_⟩ (fun b hb _ => Below.heap_alloc _ _ _ hb) (fun e he b hb => ?_) (fun b hb => ⟨.inl ?_, fun e he hb => ?_⟩) (fun i e he => ?_) (fun e he v hv => ?_) (by show 0 < 1; omega) (.inr ⟨w.heap.size, _, rfl, heap_alloc_new w _, by omega, by unfold maxLen; omega, by rw [size_madeCells, his]; rfl, fun i' j e' v he hv => ?_⟩) ?_
 ·rw [(hrep i e he).2]; exact List.nodup_nil
 ·rw [(hrep i e he).2] at hb; cases hb
 ·rw [hrm e he] at hb; cases hb
 ·injection hb with hb; injection hb with hb; omega
 ·rw [hrm e he] at hb; cases hb
 ·obtain ⟨h3, rfl⟩ := hrep i e he
  unfold TmOk
  have hg : lock getD (lrep n.toNat (Tm.w U u).zero) i = .l [] := by
   rw [lock_eq]
   simp [getD, lrep, List.getD, List.getElem?_replicate, h3, Tm.zero]
  rw [hg]
  exact ⟨⟨none, 0, 0, u.size, []⟩, rfl, rfl, rfl, hu, .inl ⟨rfl, rfl, rfl, rfl⟩⟩
 ·rw [hrm e he] at hv; rw [List.mem_singleton.1 hv]; rfl
 ·obtain ⟨h3, rfl⟩ := hrep i' e' he
  have hj : j = 0 := by have := (List.getElem?_eq_some_iff.1 hv).1; simpa using this
  subst hj
  simp only [List.getElem?_cons_zero] at hv
  injection hv with hv; subst hv
  have := Zcq z.cells (c.toNat * i.size) i' 0 1 hzs (by omega) (by omega) (by rw [his]; omega)
  rw [hzc] at this
  simpa [Tm.size] using this
 simp [execOp, ho, hq, hr, run]
theorem Zl2 (h : Sat C PL s Fr a w) {id g n : Nat} {T : TypeId} {tm : Tm} {l : List D} (hr : prowOf s.hp id = some (T, tm, n, g)) (hg : ghoOf s.hp g = some (tm, l, none)) :
  ∃ p q : Pl, PL id = some p ∧ PL g = some q ∧ p.len = n ∧ q.bl.length = n ∧ l.length = n ∧ BlND q.bl ∧ (∀ i e, q.bl[i]? = some e → TmOk w (Avo C PL s.hp) tm (lock getD l i) e.1 e.2) ∧ (∀ e ∈ q.bl, ∀ u ∈ e.1, u.oneCell' = true) ∧ 0 < tm.size ∧
   ((p.a = none ∧ p.cap = 0 ∧ n = 0) ∨ ∃ b cs, p.a = some ⟨b, 0, none⟩ ∧ w.heap[b]? = some (.cells cs T (0, 0)) ∧ n ≤ p.cap ∧ p.cap ≤ maxLen ∧ cs.size = p.cap * tm.size ∧
    ∀ (i j : Nat) (e : List Value × List Nat) (u : Value), q.bl[i]? = some e → e.1[j]? = some u → cs[i * tm.size + j]? = some u) := by
 obtain ⟨p, q, hp, hq, hl, hl2, hsz, h0, he, hrow⟩ := h.ck id _ (Z1v hr)
 obtain ⟨q', hq', hll, hnd, hgo⟩ := h.ck g _ (Z18 hg)
 rw [hq] at hq'; injection hq' with hq'; subst hq'
 refine ⟨p, q, hp, hq, hl, hl2, by omega, hnd, fun i e he => hgo i e he, fun e hm => ?_, h0, hrow⟩
 obtain ⟨j, hj, rfl⟩ := List.mem_iff_getElem.1 hm
 exact (he j _ (List.getElem?_eq_getElem hj)).2
theorem Zvd (h : Sat C PL s Fr a w) {f : Nat} (hfr : ∀ i, f ≤ i → i < f + 8 → Fr i) (hk : C.k ≤ f) {t e : TypeId} {x : Operand} {x' : Opnd} {tm : Tm} {v : SV} {d : D} {ids : List Nat} {i : TypeInfo} {z : Value} (ho : o.op = .buildSlice t 1 #[(0, x)]) (ht : P.underlying t = some (.slice e)) (hi : P.info? e = some i) (hz : i.zero = some z) (his : i.size = 1) (hzs : z.cells.size = 1) (htm : tm.size = 1)
  (hx : cX x = some x') (h1 : s.ev x' = some v) (hv1 : v.one = true) (hs : tm.sht s.hp [v] = some (d, [], ids)) (hnd : ids.Nodup) {ob : List Prop} {rd wr : List Nat} :
  o.wp P a w (Eff.post ⟨ob, rd, wr, .one (.wsl f) (ids.map (fun i => (i, none)) ++ [(f, some (.prow e tm 1 (f + 1))), (f + 1, some (.gho tm [d] none))])⟩ C s o.dst (fun i => Fr i ∧ ¬ (f ≤ i ∧ i < f + 8))) Q := by
 have d1 := Z4 h hx h1
 have h1c : (a.eval x).oneCell' = true := d1.oneCell hv1
 obtain ⟨u1, u2, bl, e1, e2, e3, e4, e5, e6, e7⟩ := Zdi (fun id c hc => h.ck id c hc) (fun i j c d p q b => h.dj i j c d p q b) tm [v] [a.eval x] d [] ids hs (Dens.one d1 h1c) hnd
 have hu2 : u2 = [] := by have := e5.1; exact List.eq_nil_of_length_eq_zero (by simpa using this)
 subst hu2
 rw [List.append_nil] at e1
 subst e1
 have hcell : (a.eval x).cells = #[a.eval x] := by
  generalize a.eval x = y at h1c
  cases y <;> first | rfl | (simp [Value.oneCell'] at h1c)
 have hget : ∀ (i : Nat) (e : List Value × List Nat), ([([a.eval x], bl)] : List (List Value × List Nat))[i]? = some e → i = 0 ∧ e = ([a.eval x], bl) := fun i e he => by
  cases i with
  | zero => simp only [List.getElem?_cons_zero] at he; injection he with he; exact ⟨rfl, he.symm⟩
  | succ i => simp at he
 have gn : ∀ b ∈ bl, Gone PL s.hp ids b := fun b hb => e7 b hb
 have hlt : ∀ b ∈ bl, b < w.heap.size := fun b hb => TmOk.lt _ _ _ _ e4 b hb
 refine Z7l h hfr hk (n := 1) ids (w' := w.alloc (.cells #[a.eval x] e)) rfl rfl rfl (by simp) (some ⟨w.heap.size, 0, none⟩) 1 [([a.eval x], bl)] rfl rfl ⟨fun i e he => ?_, fun i j e f b he hf hb hc => ?_⟩ (fun b hb _ => Below.heap_alloc _ _ _ hb) (fun e he b hb => ?_) (fun b hb => ⟨.inl ?_, fun e he hb2 => ?_⟩) (fun i e he => ?_) (fun e he v hv => ?_) (by omega) (.inr ⟨w.heap.size, _, rfl, heap_alloc_new w _, by omega, by unfold maxLen; omega, by rw [htm]; rfl, fun i' j e' v he hv => ?_⟩) ?_
 ·rw [(hget i e he).2]; exact e6
 ·rw [(hget i e he).1, (hget j f hf).1]
 ·rw [List.mem_singleton.1 he] at hb
  exact ⟨gn b hb, Below.heap_alloc _ _ _ (hlt b hb)⟩
 ·injection hb with hb; injection hb with hb; omega
 ·rw [List.mem_singleton.1 he] at hb2
  have := hlt b hb2
  injection hb with hb; injection hb with hb; omega
 ·obtain ⟨rfl, rfl⟩ := hget i e he
  rw [lock_eq]
  exact e4
 ·rw [List.mem_singleton.1 he] at hv
  exact e3 v hv
 ·obtain ⟨rfl, rfl⟩ := hget i' e' he
  have hj : j = 0 := by have := (List.getElem?_eq_some_iff.1 hv).1; simpa using this
  subst hj
  simp only [List.getElem?_cons_zero] at hv
  injection hv with hv; subst hv
  simp
 obtain ⟨c0, hc0⟩ : ∃ c0, z.cells = #[c0] := Array.size_eq_one_iff.1 hzs
 have hr1 : (Array.range 1).map (z.cells[· % z.cells.size]!) = #[c0] := by
  rw [hc0]
  apply Array.ext
  ·simp
  intro i h1 h2
  have : i = 0 := by simpa using h2
  subst this
  simp
 have hfl : Instr.fill (fun i => some (i, 1)) #[c0] [(0, a.eval x)] = some #[a.eval x] := by
  simp [Instr.fill, hcell]
 simp [execOp, ho, Instr.buildSlice, run_underlying ht, Zn hi, his, Z6e hi hz, newRow, hr1, hfl]
theorem Zlo (h : Sat C PL s Fr a w) {f : Nat} (hfr : ∀ i, f ≤ i → i < f + 8 → Fr i) (hk : C.k ≤ f) {e : TypeId} {x y : Operand} (hA : App P o e x y) {x' y' : Opnd} {i : TypeInfo} {z : Value} (hi : P.info? e = some i) (hz : i.zero = some z) (his : i.size = 1) (hzs : z.cells.size = 1) (hby : 0 < P.bytesOf e) (hx : cX x = some x') (hy : cX y = some y')
  {tm : Tm} (htm : tm.size = 1) {id g : Nat} {l : List D} (h2 : s.ev y' = some (.wsl id)) (hr : prowOf s.hp id = some (e, tm, 1, g)) (hg : ghoOf s.hp g = some (tm, l, none)) {v : SV} (h1 : s.ev x' = some v) {ids : List Nat} {m : Nat} {l0 : List D}
  (hv : (v = .nsl ∧ m = 0 ∧ l0 = [] ∧ ids = [id, g]) ∨ ∃ i0 g0, v = .wsl i0 ∧ prowOf s.hp i0 = some (e, tm, m, g0) ∧ ghoOf s.hp g0 = some (tm, l0, none) ∧ ids = [i0, g0, id, g] ∧ g0 ≠ g) (hob : ((m : Int) + 1) * (P.bytesOf e : Int) ≤ 140737488355328) {ob : List Prop} {rd wr : List Nat} :
  o.wp P a w (Eff.post ⟨ob, rd, wr, .one (.wsl f) (ids.map (fun i => (i, none)) ++ [(f, some (.prow e tm (m + 1) (f + 1))), (f + 1, some (.gho tm (l0 ++ l) none))])⟩ C s o.dst (fun i => Fr i ∧ ¬ (f ≤ i ∧ i < f + 8))) Q := by
 have d1 := Z4 h hx h1
 have d2 := Z4 h hy h2
 obtain ⟨p1, q1, hp1, hq1, hl1, hb1, hll1, hnd1, hTm1, hone1, hts, hrow1⟩ := Zl2 h hr hg
 rcases hrow1 with ⟨_, _, h0⟩ | ⟨b1, arr1, ha1, hh1, hn1, hcm1, hcs1, hcell1⟩
 ·cases h0
 obtain ⟨e1, he1⟩ := List.length_eq_one_iff.1 hb1
 have hT1 := hTm1 0 e1 (by rw [he1]; rfl)
 obtain ⟨u1, hu1⟩ := List.length_eq_one_iff.1 (hT1.len.trans htm)
 have hu1c : u1.oneCell' = true := hone1 e1 (by rw [he1]; exact List.mem_singleton.2 rfl) u1 (by rw [hu1]; exact List.mem_singleton.2 rfl)
 generalize hyq : a.eval y = yv at d2
 cases d2 with
 | wsl _ p1' hp1' =>
 rw [hp1] at hp1'; injection hp1' with hp1'; subst hp1'
 rw [ha1, hl1] at hyq
 have hnews : ∀ j u, [u1][j]? = some u → w.cell? ((⟨b1, 0, none⟩ : Addr).add j) = some u := by
  intro j u hu
  have hj : j = 0 := by have := (List.getElem?_eq_some_iff.1 hu).1; simpa using this
  subst hj
  rw [Zu, cell_of_row w b1 0 arr1 e (0, 0) hh1, ← hu]
  have := hcell1 0 0 e1 u1 (by rw [he1]; rfl) (by rw [hu1]; rfl)
  simpa using this
 have hnl : [u1].length = 1 * i.size := by rw [his]; rfl
 have hbs : P.bytesOf e = i.bytes := by simp [Program.bytesOf, hi]
 have hm48 : (m + 1) * i.bytes ≤ 140737488355328 := by
  rw [← hbs]
  have : (((m + 1) * P.bytesOf e : Nat) : Int) ≤ 140737488355328 := by push_cast; exact hob
  omega
 have hm : m + 1 ≤ 140737488355328 := by
  have h1 : (m + 1) * 1 ≤ (m + 1) * i.bytes := Nat.mul_le_mul_left _ (by omega)
  omega
 have hGe : ∀ (e' : List Value × List Nat) (b : Nat), e' ∈ q1.bl → b ∈ e'.2 → g ∈ ids → Gone PL s.hp ids b := fun e' b he hb hg' => by
  obtain ⟨j, hj, rfl⟩ := List.mem_iff_getElem.1 he
  exact ⟨g, hg', _, q1, Z18 hg, hq1, ⟨j, _, List.getElem?_eq_getElem hj, hb⟩⟩
 obtain ⟨A, cap, arr, bl0, hxv, hcap, hcm, hbl0, hl0, hnd0, hTm0, hone0, hG0, hids, hcase⟩ : ∃ (A : Option Addr) (cap : Nat) (arr : Array Value) (bl0 : List (List Value × List Nat)), a.eval x = .slice A m cap ∧ m ≤ cap ∧ cap ≤ maxLen ∧ bl0.length = m ∧ l0.length = m ∧ BlND bl0 ∧
   (∀ i e, bl0[i]? = some e → TmOk w (Avo C PL s.hp) tm (lock getD l0 i) e.1 e.2) ∧ (∀ e ∈ bl0, ∀ u ∈ e.1, u.oneCell' = true) ∧ (∀ e' ∈ bl0, ∀ b ∈ e'.2, Gone PL s.hp ids b ∧ ∀ e2 ∈ q1.bl, b ∉ e2.2) ∧ g ∈ ids ∧
   ((A = none ∧ cap = 0 ∧ m = 0 ∧ bl0 = []) ∨ ∃ b, A = some ⟨b, 0, none⟩ ∧ w.heap[b]? = some (.cells arr e (0, 0)) ∧ arr.size = cap ∧ Gone PL s.hp ids b ∧ (∀ e' ∈ bl0 ++ q1.bl, b ∉ e'.2) ∧ ∀ (i : Nat) (e : List Value × List Nat) (u : Value), bl0[i]? = some e → e.1[0]? = some u → arr[i]? = some u) := by
  rcases hv with ⟨rfl, rfl, rfl, rfl⟩ | ⟨i0, g0, rfl, hr0, hg0, rfl, hgg⟩
  ·generalize hxe : a.eval x = xv at d1
   cases d1
   exact ⟨none, 0, #[], [], rfl, Nat.le_refl _, by unfold maxLen; omega, rfl, rfl, ⟨fun i e h => (by simp at h), fun i j e f b h => (by simp at h)⟩, fun i e h => (by simp at h), fun e h => (by cases h), fun e h => (by cases h), by simp, .inl ⟨rfl, rfl, rfl, rfl⟩⟩
  obtain ⟨p0, q0, hp0, hq0, hln0, hb0, hll0, hnd0, hTm0, hone0, _, hrow0⟩ := Zl2 h hr0 hg0
  generalize hxe : a.eval x = xv at d1
  cases d1 with
  | wsl _ p0' hp0' =>
  rw [hp0] at hp0'; injection hp0' with hp0'; subst hp0'
  have hG : ∀ e' ∈ q0.bl, ∀ b ∈ e'.2, Gone PL s.hp [i0, g0, id, g] b ∧ ∀ e2 ∈ q1.bl, b ∉ e2.2 := fun e' he b hb => by
   obtain ⟨j, hj, rfl⟩ := List.mem_iff_getElem.1 he
   refine ⟨⟨g0, by simp, _, q0, Z18 hg0, hq0, ⟨j, _, List.getElem?_eq_getElem hj, hb⟩⟩, fun e2 he2 hb2 => ?_⟩
   obtain ⟨j2, hj2, rfl⟩ := List.mem_iff_getElem.1 he2
   exact hgg (h.dj g0 g _ _ q0 q1 b (Z18 hg0) (Z18 hg) hq0 hq1 ⟨j, _, List.getElem?_eq_getElem hj, hb⟩ ⟨j2, _, List.getElem?_eq_getElem hj2, hb2⟩)
  rcases hrow0 with ⟨ha0, hc0, hm0⟩ | ⟨b0, arr0, ha0, hh0, hn0, hcm0, hcs0, hcell0⟩
  ·have : q0.bl = [] := List.eq_nil_of_length_eq_zero (by omega)
   exact ⟨none, 0, #[], q0.bl, by rw [ha0, hln0, hc0], by omega, by unfold maxLen; omega, hb0, hll0, hnd0, hTm0, hone0, hG, by simp, .inl ⟨rfl, rfl, hm0, this⟩⟩
  refine ⟨some ⟨b0, 0, none⟩, p0.cap, arr0, q0.bl, by rw [ha0, hln0], hn0, hcm0, hb0, hll0, hnd0, hTm0, hone0, hG, by simp, .inr ⟨b0, rfl, hh0, by rw [hcs0, htm, Nat.mul_one], ⟨i0, by simp, _, p0, Z1v hr0, hp0, ha0⟩, fun e' he hb => ?_, fun i e u he hu => ?_⟩⟩
  ·have one : ∀ (g' : Nat) (q' : Pl) (l' : List D), ghoOf s.hp g' = some (tm, l', none) → PL g' = some q' → e' ∈ q'.bl → False := fun g' q' l' hg' hq' he' => by
    obtain ⟨j, hj, rfl⟩ := List.mem_iff_getElem.1 he'
    have := h.dj i0 g' _ _ p0 q' b0 (Z1v hr0) (Z18 hg') hp0 hq' ha0 ⟨j, _, List.getElem?_eq_getElem hj, hb⟩
    subst this
    have e1 := Z1v hr0
    rw [Z18 hg'] at e1
    cases e1
   rcases List.mem_append.1 he with he | he
   ·exact one g0 q0 l0 hg0 hq0 he
   exact one g q1 l hg hq1 he
  have := hcell0 i 0 e u he hu
  rwa [htm, Nat.mul_one, Nat.add_zero] at this
 have hgetD : ∀ i, lock getD (l0 ++ l) i = if i < m then lock getD l0 i else lock getD l (i - m) := fun i => by
  simp only [lock_eq, getD, List.getD]
  by_cases hi : i < m
  ·rw [if_pos hi, List.getElem?_append_left (by omega)]
  rw [if_neg hi, List.getElem?_append_right (by omega), hl0]
 have hbget : ∀ i e', (bl0 ++ q1.bl)[i]? = some e' → (i < m ∧ bl0[i]? = some e') ∨ (i = m ∧ e' = e1) := fun i e' he => by
  by_cases hi : i < m
  ·rw [List.getElem?_append_left (by omega)] at he
   exact .inl ⟨hi, he⟩
  rw [List.getElem?_append_right (by omega), hbl0, he1] at he
  have hj : i - m = 0 := by have := (List.getElem?_eq_some_iff.1 he).1; simpa using this
  rw [hj] at he
  simp only [List.getElem?_cons_zero] at he
  injection he with he
  exact .inr ⟨by omega, he.symm⟩
 have hG1 : ∀ e' ∈ bl0 ++ q1.bl, ∀ b ∈ e'.2, Gone PL s.hp ids b := fun e' he b hb => by
  rcases List.mem_append.1 he with he | he
  ·exact (hG0 e' he b hb).1
  exact hGe e' b he hb hids
 have hND : BlND (bl0 ++ q1.bl) := by
  refine ⟨fun i e' he => ?_, fun i j e2 e3 b he hf hb hc => ?_⟩
  ·rcases hbget i e' he with ⟨_, h3⟩ | ⟨_, rfl⟩
   ·exact hnd0.1 i e' h3
   exact hnd1.1 0 e' (by rw [he1]; rfl)
  rcases hbget i e2 he with ⟨h3, h4⟩ | ⟨h3, rfl⟩ <;> rcases hbget j e3 hf with ⟨h5, h6⟩ | ⟨h5, rfl⟩
  ·exact hnd0.2 i j e2 e3 b h4 h6 hb hc
  ·exact absurd hc ((hG0 e2 (List.mem_of_getElem? h4) b hb).2 e3 (by rw [he1]; exact List.mem_singleton.2 rfl))
  ·exact absurd hb ((hG0 e3 (List.mem_of_getElem? h6) b hc).2 e2 (by rw [he1]; exact List.mem_singleton.2 rfl))
  omega
 have hTmA : ∀ i e', (bl0 ++ q1.bl)[i]? = some e' → TmOk w (Avo C PL s.hp) tm (lock getD (l0 ++ l) i) e'.1 e'.2 := fun i e' he => by
  rw [hgetD]
  rcases hbget i e' he with ⟨h3, h4⟩ | ⟨h3, rfl⟩
  ·rw [if_pos h3]; exact hTm0 i e' h4
  rw [if_neg (by omega), show i - m = 0 by omega]; exact hT1
 have hltb : ∀ e' ∈ bl0 ++ q1.bl, ∀ b ∈ e'.2, b < w.heap.size := fun e' he b hb => by
  obtain ⟨j, hj, rfl⟩ := List.mem_iff_getElem.1 he
  exact TmOk.lt _ _ _ _ (hTmA j _ (List.getElem?_eq_getElem hj)) b hb
 have honeA : ∀ e' ∈ bl0 ++ q1.bl, ∀ u ∈ e'.1, u.oneCell' = true := fun e' he u hu => by
  rcases List.mem_append.1 he with he | he
  ·exact hone0 e' he u hu
  exact hone1 e' he u hu
 have hlA : (bl0 ++ q1.bl).length = m + 1 := by simp [hbl0, hb1]
 have hllA : (l0 ++ l).length = m + 1 := by simp [hl0, hll1]
 obtain ⟨t, ht, hrun⟩ := Z7r (P := P) (w := w) hA hxv hyq
 have grown : ∀ (olds : List Value) (cap2 : Nat), olds.length = m → (∀ (i : Nat) (e : List Value × List Nat) (u : Value), bl0[i]? = some e → e.1[0]? = some u → olds[i]? = some u) → m + 1 ≤ cap2 →
   (olds.toArray ++ [u1].toArray ++ Builtin.zeroCells z.cells (cap2 - (m + 1))).size = cap2 * tm.size ∧
   ∀ (i j : Nat) (e' : List Value × List Nat) (u : Value), (bl0 ++ q1.bl)[i]? = some e' → e'.1[j]? = some u → (olds.toArray ++ [u1].toArray ++ Builtin.zeroCells z.cells (cap2 - (m + 1)))[i * tm.size + j]? = some u := by
  intro olds cap2 hol hold hc2
  refine ⟨by simp only [Array.size_append, List.size_toArray, size_zeroCells, hzs, hol, htm, List.length_singleton]; omega, fun i j e' u he hu => ?_⟩
  have hj : j = 0 := by
   have h3 := (List.getElem?_eq_some_iff.1 hu).1
   have h4 := (hTmA i e' he).len
   omega
  subst hj
  rw [htm, Nat.mul_one, Nat.add_zero]
  rcases hbget i e' he with ⟨h3, h4⟩ | ⟨h3, rfl⟩
  ·have := hold i e' u h4 hu
   rw [Array.getElem?_append_left (by simp; omega), Array.getElem?_append_left (by simp; omega)]
   simpa using this
  subst h3
  rw [hu1] at hu
  simp only [List.getElem?_cons_zero] at hu
  injection hu with hu
  subst hu
  rw [Array.getElem?_append_left (by simp; omega), Array.getElem?_append_right (by simp; omega)]
  simp [hol]
 have goes : ∀ (olds : List Value) (cap2 : Nat) (w' : World), olds.length = m → (∀ (i : Nat) (e : List Value × List Nat) (u : Value), bl0[i]? = some e → e.1[0]? = some u → olds[i]? = some u) → m + 1 ≤ cap2 → cap2 ≤ maxLen →
   w' = w.drew.alloc (.cells (olds.toArray ++ [u1].toArray ++ Builtin.zeroCells z.cells (cap2 - (m + 1))) e) → (execOp a.eval o).run P w = .ok (.value (.slice (some ⟨w.heap.size, 0, none⟩) (m + 1) cap2)) w' →
   o.wp P a w (Eff.post ⟨ob, rd, wr, .one (.wsl f) (ids.map (fun i => (i, none)) ++ [(f, some (.prow e tm (m + 1) (f + 1))), (f + 1, some (.gho tm (l0 ++ l) none))])⟩ C s o.dst (fun i => Fr i ∧ ¬ (f ≤ i ∧ i < f + 8))) Q := by
  intro olds cap2 w' hol hold hc2 hc3 hw' hr'
  subst hw'
  obtain ⟨g1, g2⟩ := grown olds cap2 hol hold hc2
  have same : ∀ b, b < w.heap.size → (w.drew.alloc (.cells (olds.toArray ++ [u1].toArray ++ Builtin.zeroCells z.cells (cap2 - (m + 1))) e)).heap[b]? = w.heap[b]? := fun b hb => Below.heap_alloc w.drew _ _ hb
  refine Z7l h hfr hk ids (w' := w.drew.alloc (.cells (olds.toArray ++ [u1].toArray ++ Builtin.zeroCells z.cells (cap2 - (m + 1))) e)) rfl rfl rfl (by show w.heap.size ≤ (w.drew.heap.push _).size; rw [Array.size_push]; exact Nat.le_succ _) (some ⟨w.heap.size, 0, none⟩) cap2 (bl0 ++ q1.bl) hlA hllA hND (fun b hb _ => same b hb) (fun e' he b hb => ⟨hG1 e' he b hb, same b (hltb e' he b hb)⟩) (fun b hb => ⟨.inl ?_, fun e' he hb2 => ?_⟩) hTmA honeA hts (.inr ⟨w.heap.size, _, rfl, heap_alloc_new w.drew _, hc2, hc3, g1, g2⟩) hr'
  ·injection hb with hb; injection hb with hb; omega
  have := hltb e' he b hb2
  injection hb with hb; injection hb with hb; omega
 by_cases hroom : m + 1 ≤ cap
 ·rcases hcase with ⟨_, hc0, _⟩ | ⟨b, rfl, hh, hcs, hGb, hbn, hold⟩
  ·omega
  have hr1 := run_append_room (P := P) w t o.type e i ht hi b m cap arr hh ⟨b1, 0, none⟩ 1 p1.cap [u1] hnl hnews (fun u hu => by rw [List.mem_singleton.1 hu]; exact hu1c) hroom (by rw [his, Nat.mul_one, hcs]; simpa using hroom)
  rw [hr1] at hrun
  simp only [his, Nat.mul_one, List.length_singleton] at hrun
  have hset : arr.toList.take m ++ [u1] ++ arr.toList.drop (m + 1) = arr.toList.set m u1 := by
   rw [List.set_eq_take_append_cons_drop, if_pos (by simp; omega)]
   simp
  rw [hset] at hrun
  refine Z7l h hfr hk ids (w' := w.setRow b (arr.toList.set m u1).toArray) rfl rfl rfl (Nat.le_of_eq (Z7v _ _ _).symm) (some ⟨b, 0, none⟩) cap (bl0 ++ q1.bl) hlA hllA hND (fun b' hb hng => Z55 _ _ _ _ fun e => hng (e ▸ hGb)) (fun e' he b' hb => ⟨hG1 e' he b' hb, Z55 _ _ _ _ fun e => hbn e' he (e ▸ hb)⟩)
   (fun b' hb => by injection hb with hb; injection hb with hb; subst hb; exact ⟨.inr hGb, hbn⟩) hTmA honeA hts (.inr ⟨b, _, rfl, Z2s _ _ _ _ _ _ hh, hroom, hcm, by simp [htm, hcs], fun i j e' u he hu => ?_⟩) hrun
  have hj : j = 0 := by
   have h3 := (List.getElem?_eq_some_iff.1 hu).1
   have h4 := (hTmA i e' he).len
   omega
  subst hj
  rw [htm, Nat.mul_one, Nat.add_zero, List.getElem?_toArray]
  rcases hbget i e' he with ⟨h3, h4⟩ | ⟨h3, rfl⟩
  ·rw [List.getElem?_set_ne (by omega)]
   simpa using hold i e' u h4 hu
  subst h3
  rw [hu1] at hu
  simp only [List.getElem?_cons_zero] at hu
  injection hu with hu
  subst hu
  rw [List.getElem?_set_self (by simp; omega)]
 have hge := grownCap_ge w (m + 1) cap e
 have hgm : grownCap w (m + 1) cap e ≤ maxLen := grownCap_le_maxLen w _ _ _ (by unfold maxLen; omega)
 rcases hcase with ⟨rfl, rfl, rfl, rfl⟩ | ⟨b, rfl, hh, hcs, hGb, hbn, hold⟩
 ·have hr1 := run_append_nil (P := P) w t o.type e i z ht hi hz ⟨b1, 0, none⟩ 1 p1.cap [u1] hnl hnews (by omega) (by omega) (by omega)
  rw [hr1] at hrun
  exact goes [] _ _ rfl (fun i e u h => (by simp at h)) hge hgm (by simp) hrun
 have hr1 := run_append_grow (P := P) w t o.type e i z ht hi hz ⟨b, 0, none⟩ m cap (arr.toList.take m) (by rw [his]; simp; omega) (fun j u hu => by
  rw [Zo, Nat.zero_add, cell_of_row w b j arr e (0, 0) hh]
  rw [List.getElem?_take] at hu
  split at hu
  ·simpa using hu
  cases hu) ⟨b1, 0, none⟩ 1 p1.cap [u1] hnl hnews (by omega) (by omega) (growslice_fits (by omega) (by omega))
 rw [hr1] at hrun
 refine goes (arr.toList.take m) _ _ (by simp; omega) (fun i e' u he hu => ?_) hge hgm rfl hrun
 have hi : i < m := by have := (List.getElem?_eq_some_iff.1 he).1; omega
 rw [List.getElem?_take, if_pos hi]
 simpa using hold i e' u he hu
end
theorem Zc8 (k : List UInt8) : ∀ (l : List D) (es : List MapEntry), es.length = l.length → (∀ (i : Nat) (d : D) (e : MapEntry), l[i]? = some d → es[i]? = some e → e.key = .string ⟨(d.fld 0).toS.toArray⟩) → ∀ i0 : Nat,
  (mfind k l = none ∧ Instr.findNow .string (.string ⟨k.toArray⟩) es i0 = some none ∧ ∀ x, mput l k x = l ++ [.l [.s k, x]]) ∨
  ∃ j d e, mfind k l = some (d.fld 1) ∧ l[j]? = some d ∧ es[j]? = some e ∧ Instr.findNow .string (.string ⟨k.toArray⟩) es i0 = some (some (i0 + j, e.val)) ∧ (d.fld 0).toS = k ∧ ∀ x, mput l k x = l.set j (.l [.s k, x])
 | [], es, hl, hk, i0 => by
  have : es = [] := List.eq_nil_of_length_eq_zero hl
  subst this
  exact .inl ⟨rfl, rfl, fun x => rfl⟩
 | d :: l, [], hl, hk, i0 => by simp at hl
 | d :: l, e :: es, hl, hk, i0 => by
  have h0 := hk 0 d e rfl rfl
  have hs : Instr.sameNow .string (.string ⟨k.toArray⟩) e.key = some ((⟨k.toArray⟩ : ByteArray) == ⟨(d.fld 0).toS.toArray⟩) := by rw [h0]; rfl
  by_cases he : (d.fld 0).toS = k
  ·have hb : ((⟨k.toArray⟩ : ByteArray) == ⟨(d.fld 0).toS.toArray⟩) = true := by rw [MapKept.bytes_beq, he]
   rw [hb] at hs
   refine .inr ⟨0, d, e, ?_, rfl, rfl, ?_, he, fun x => ?_⟩
   ·simp [mfind, he]
   ·simp [Instr.findNow, hs]
   simp [mput, he]
  have hb : ((⟨k.toArray⟩ : ByteArray) == ⟨(d.fld 0).toS.toArray⟩) = false := by
   cases hc : ((⟨k.toArray⟩ : ByteArray) == ⟨(d.fld 0).toS.toArray⟩) with
   | false => rfl
   | true =>
    have := (MapKept.bytes_beq _ _).1 hc
    injection this with this
    exact absurd (congrArg Array.toList this).symm (by simpa using he)
  rw [hb] at hs
  have hf : ((d.fld 0).toS == k) = false := by simpa using he
  rcases Zc8 k l es (by simpa using hl) (fun i d e h1 h2 => hk (i + 1) d e (by simpa using h1) (by simpa using h2)) (i0 + 1) with ⟨h1, h2, h3⟩ | ⟨j, d', e', h1, h2, h3, h4, h5, h6⟩
  ·refine .inl ⟨?_, ?_, fun x => ?_⟩
   ·simp [mfind, hf, h1]
   ·simp [Instr.findNow, hs, h2]
   simp [mput, hf, h3]
  refine .inr ⟨j + 1, d', e', ?_, by simpa using h2, by simpa using h3, ?_, h5, fun x => ?_⟩
  ·simp [mfind, hf, h1]
  ·simp [Instr.findNow, hs, h4]; omega
  simp [mput, hf, h6]
theorem ones1 {x : SV} (h : ones [x] = true) : x.one = true := by
 unfold ones at h
 cases hx : x.one with
 | true => rfl
 | false => rw [hx] at h; cases h
section
variable {P : Program} {C : Ctx} {PL : Nat → Option Pl} {s : St} {Fr : Nat → Prop} {a : Act} {w : World} {o : Oper} {Q : Exit → Act → World → Prop}
structure MpT (P : Program) (t : TypeId) (u : Ty) : Prop where
 ex : ∃ k v i z, P.underlying t = some (.map k v) ∧ P.underlying k = some .string ∧ P.info? v = some i ∧ i.zero = some z ∧ z.cells.toList = u.zvals ∧ u.isSt = true ∧ ∃ cs, z = .agg cs
 clean : u.clean = true
theorem Zjj {P : Program} {t : TypeId} {u : Ty} (h : mpTy P t = some u) : MpT P t u := by
 unfold mpTy at h
 split at h
 ·rename_i k v ht
  split at h
  ·rename_i u' z' hk hu hz
   split at h
   ·rename_i hc
    injection h with h
    subst h
    simp only [Bool.and_eq_true] at hc
    obtain ⟨⟨⟨⟨h1, h2⟩, h3⟩, h4⟩, h5⟩ := hc
    cases hi : P.info? v with
    | none => rw [hi] at h5; simp at h5
    | some i =>
     cases hzz : i.zero with
     | none => rw [hi] at h5; simp [hzz] at h5
     | some z =>
      rw [hi] at h1 h5
      simp only [Option.bind_some, hzz, Option.map_some, Option.getD_some, Option.any_some] at h1 h5
      cases z with
      | agg cs => exact ⟨⟨k, v, i, _, ht, hk, hi, hzz, Z82 h1, h5, cs, rfl⟩, h4⟩
      | _ => cases h5
   cases h
  cases h
 cases h
theorem Zw1 (h : Sat C PL s Fr a w) {f : Nat} (hf : Fr f) (hk : ¬ f < C.k) {t : TypeId} {u : Ty} (ho : o.op = .makeMap t none) {ob : List Prop} {rd wr : List Nat} :
  o.wp P a w (Eff.post ⟨ob, rd, wr, .one (.mpv f) [(f, some (.mp u []))]⟩ C s o.dst (fun i => Fr i ∧ i ≠ f)) Q := by
 refine Zx (x := .map (some w.heap.size)) (w' := w.alloc (.map #[] 0)) (by simp [execOp, ho, Instr.makeMap, Result.andThen]) ?_
 have m := Mv.new h.toHSat f hf hk ⟨some ⟨w.heap.size, 0, none⟩, 0, 0, 0, []⟩ (.map #[] 0) rfl (.mp u []) (w.alloc (.map #[] 0)) rfl rfl rfl rfl [(f, some (.mp u []))] (fun id x e => (Zs e).1) (fun id x e => by have := (Zs e).2; injection this with this; subst this; exact fun _ _ h => h)
 have t := h.toHSat.tr m
 have H := h.toHSat.mv m (fun id c hu => by
  obtain ⟨rfl, hc⟩ := Zs hu
  injection hc with hc
  subst hc
  exact ⟨_, w.heap.size, #[], 0, Zg _ _ _, rfl, heap_alloc_new w _, rfl, fun i d e h1 => (by simp at h1)⟩)
 exact ⟨_, h.mv H t o.dst _ _ fun v hv => by injection hv with hv; subst hv; exact .mpv f w.heap.size _ (Zg _ _ _) rfl⟩
theorem Zw5 (h : Sat C PL s Fr a w) {t : TypeId} {u : Ty} {x y z : Operand} {x' y' z' : Opnd} {id : Nat} {b : List UInt8} {v : SV} {l : List D} {d : D} (hT : MpT P t u) (ho : o.op = .mapUpdate t x y z) (hdst : o.dst = none) (hx : cX x = some x') (hy : cX y = some y') (hz : cX z = some z')
  (h1 : s.ev x' = some (.mpv id)) (h2 : s.ev y' = some (.str b)) (h3 : s.ev z' = some v) (hm : mpOf s.hp id = some (u, l)) (hone : ones v.flat = true) (hag : aggQ v = u.isSt) (hmk : u.mk v.flat = some (d, [])) {ob : List Prop} {rd wr : List Nat} {sv : SV} :
  o.wp P a w (Eff.post ⟨ob, rd, wr, .one sv [(id, some (.mp u (lock mput l b d)))]⟩ C s o.dst Fr) Q := by
 have d1 := Z4 h hx h1
 have d2 := Z4 h hy h2
 have d3 := Z4 h hz h3
 have hc := Zji hm
 obtain ⟨p, g, es, c, hp, ha, hh, hl, hd⟩ := h.ck id _ hc
 obtain ⟨kt, vt, i, z0, ht, hkt, hi, hz0, hzv, _, _, _⟩ := hT.ex
 generalize hxe : a.eval x = xv at d1
 generalize hye : a.eval y = yv at d2
 cases d2
 cases d1 with
 | mpv _ g' p' hp' ha' =>
 rw [hp] at hp'; injection hp' with hp'; subst hp'
 rw [ha] at ha'; injection ha' with ha'; injection ha' with ha'; subst ha'
 have hkey : MapKept.IsKey .string (.string (⟨b.toArray⟩ : ByteArray)) := trivial
 have hmv : MvOk w (Avo C PL s.hp) u d (a.eval z) := by
  have hf := Z4w d3 hone
  obtain ⟨L1, e1, e2, e3⟩ := Z66 (PL := PL) (w := w) (Av := Avo C PL s.hp) u v.flat d [] hmk
  rw [List.append_nil] at e1
  subst e1
  have hf2 := Zgr (e3 _ hf)
  refine ⟨(a.eval z).cells.toList, fun hs => ?_, fun hs => ?_, by have := hf.1; omega, fun j a1 a2 => hf2.2 j a1 a2⟩
  ·rw [hs] at hag
   cases v <;> simp [aggQ] at hag
   cases hze : a.eval z with
   | agg cs => rfl
   | _ => rw [hze] at d3; cases d3
  rw [hs] at hag
  generalize a.eval z = zv at d3 hf
  have hv1 : v.one = true := by
   cases v with
   | agg l => simp [aggQ] at hag
   | _ => exact ones1 hone
  have := d3.oneCell hv1
  cases zv <;> first | rfl | (simp [Value.oneCell'] at this)
 have hfind := Zc8 b l es.toList (by simpa using hl) (fun i d e a1 a2 => (hd i d e a1 (by simpa using a2)).1) 0
 have fin : ∀ (es' : Array MapEntry) (c' : Nat) (l' : List D), mput l b d = l' → es'.size = l'.length → (∀ (i : Nat) (d : D) (e : MapEntry), l'[i]? = some d → es'[i]? = some e → e.key = .string ⟨(d.fld 0).toS.toArray⟩ ∧ MvOk w (Avo C PL s.hp) u (d.fld 1) e.val) →
   (execOp a.eval o).run P w = .ok .skip { w with heap := w.heap.setIfInBounds g (.map es' c') } → o.wp P a w (Eff.post ⟨ob, rd, wr, .one sv [(id, some (.mp u (lock mput l b d)))]⟩ C s o.dst Fr) Q := by
  intro es' c' l' hpl hsz hev hrun
  rw [lock_eq, hpl]
  refine Zfn hrun ?_
  have mv := Mv.write h.toHSat id (.mp u l) (.mp u l') hc (fun _ _ h => h) { w with heap := w.heap.setIfInBounds g (.map es' c') } rfl rfl rfl (by simp) (fun b' hb' => (MapKept.heap_set hh).2 b' fun e => hb' p hp (by rw [e]; exact ha))
  have tr := h.toHSat.tr mv
  have H := h.toHSat.mv mv (fun i2 c2 hu => by
   obtain ⟨e1, e2⟩ := Zs hu
   injection e2 with e2
   subst e2
   subst e1
   exact ⟨p, g, es', c', hp, ha, (MapKept.heap_set hh).1, hsz, fun i d e a1 a2 => ⟨(hev i d e a1 a2).1, (hev i d e a1 a2).2.mono tr.s tr.wh tr.A⟩⟩)
  rw [hdst]
  exact ⟨_, h.mv H tr none none undef fun u hu => by cases hu⟩
 rcases hfind with ⟨_, hfn, hput⟩ | ⟨j, d0, e0, _, hj1, hj2, hfn, hk0, hput⟩
 ·refine fin (es.push ⟨.string ⟨b.toArray⟩, a.eval z, c⟩) (c + 1) _ (hput d) (by simp [hl]) (fun i d1 e a1 a2 => ?_) ?_
  ·rw [Array.getElem?_push] at a2
   by_cases hi : i < l.length
   ·rw [if_neg (by omega)] at a2
    rw [List.getElem?_append_left hi] at a1
    exact hd i d1 e a1 a2
   have hil : i = l.length := by
    have := (List.getElem?_eq_some_iff.1 a1).1
    simp at this
    omega
   rw [if_pos (by omega)] at a2
   injection a2 with a2
   subst a2
   rw [hil, List.getElem?_append_right (Nat.le_refl _)] at a1
   simp at a1
   subst a1
   exact ⟨rfl, hmv⟩
  simp [execOp, ho, hxe, hye, Instr.mapUpdate, run_underlying ht, MapKept.run_getObj_map hh, MapKept.run_checkKey hkt hkey, MapKept.run_findKey hkt hfn, MapKept.run_setObj_map _ hh, Result.andThen]
 have hj : es[j]? = some e0 := by simpa using hj2
 have he0 := (hd j d0 e0 hj1 hj).1
 rw [hk0] at he0
 refine fin (es.modify j fun e => { e with key := .string ⟨b.toArray⟩, val := a.eval z }) c _ (hput d) (by simp [hl]) (fun i d1 e a1 a2 => ?_) ?_
 ·rw [Array.getElem?_modify] at a2
  rw [List.getElem?_set] at a1
  by_cases hij : j = i
  ·subst hij
   rw [if_pos rfl, hj] at a2
   simp only [Option.map_some] at a2
   injection a2 with a2
   subst a2
   rw [if_pos rfl] at a1
   split at a1
   ·injection a1 with a1
    subst a1
    exact ⟨rfl, hmv⟩
   cases a1
  rw [if_neg hij] at a1 a2
  exact hd i d1 e a1 a2
 have hfn' : Instr.findNow .string (.string ⟨b.toArray⟩) es.toList 0 = some (some (j, e0.val)) := by rw [hfn, Nat.zero_add]
 simp [execOp, ho, hxe, hye, Instr.mapUpdate, run_underlying ht, MapKept.run_getObj_map hh, MapKept.run_checkKey hkt hkey, MapKept.run_findKey hkt hfn', hj, he0, MapKept.run_keyThatStays hkey, MapKept.run_setObj_map _ hh, Result.andThen]
theorem Zlu (h : Sat C PL s Fr a w) {t : TypeId} {u : Ty} {x y : Operand} {x' y' : Opnd} {ok : Bool} {id : Nat} {b : List UInt8} {l : List D} {v : SV} (hT : MpT P t u) (ho : o.op = .lookup t x y ok) (hx : cX x = some x') (hy : cX y = some y')
  (h1 : s.ev x' = some (.mpv id)) (h2 : s.ev y' = some (.str b)) (hm : mpOf s.hp id = some (u, l)) (hv : v = match ok with | true => SV.tup [.agg (u.leaves (lock mval u.zero l b)), .v (.bool (lock mhas l b))] | false => SV.agg (u.leaves (lock mval u.zero l b))) {ob : List Prop} {rd : List Nat} :
  o.wp P a w (Eff.post ⟨ob, rd, [], .one v []⟩ C s o.dst Fr) Q := by
 have d1 := Z4 h hx h1
 have d2 := Z4 h hy h2
 have hc := Zji hm
 obtain ⟨p, g, es, c, hp, ha, hh, hl, hd⟩ := h.ck id _ hc
 obtain ⟨kt, vt, i, z0, ht, hkt, hi, hz0, hzv, hst, zcs, hza⟩ := hT.ex
 generalize hxe : a.eval x = xv at d1
 generalize hye : a.eval y = yv at d2
 cases d2
 cases d1 with
 | mpv _ g' p' hp' ha' =>
 rw [hp] at hp'; injection hp' with hp'; subst hp'
 rw [ha] at ha'; injection ha' with ha'; injection ha' with ha'; subst ha'
 have hkey : MapKept.IsKey .string (.string (⟨b.toArray⟩ : ByteArray)) := trivial
 have hfind := Zc8 b l es.toList (by simpa using hl) (fun i d e a1 a2 => (hd i d e a1 (by simpa using a2)).1) 0
 have fin : ∀ y, MvOk w (Avo C PL s.hp) u (mval u.zero l b) y → (execOp a.eval o).run P w = .ok (.value (if ok then .tuple #[y, .bool (mhas l b)] else y)) w → o.wp P a w (Eff.post ⟨ob, rd, [], .one v []⟩ C s o.dst Fr) Q := by
  intro y ⟨cs, m1, m2, m3, m4⟩ hrun
  simp only [lock_eq] at hv
  have hD : Dens PL w (Avo C PL s.hp) (u.leaves (mval u.zero l b)) cs := ⟨by rw [Ty.leaves_len]; exact m3, fun j a1 a2 => ⟨(m4 j a1 a2).1.mono (fun _ _ h => (by cases h)) (Nat.le_refl _) (fun _ _ _ => rfl) (fun _ _ h => h), (m4 j a1 a2).2⟩⟩
  refine Z7 h hrun ?_
  subst hv
  have hy2 := m1 hst
  subst hy2
  cases ok with
  | false => exact hD.agg
  | true =>
   refine .tup _ [.agg cs.toArray, .bool (mhas l b)] rfl fun j a1 a2 => ?_
   match j, a1, a2 with
   | 0, _, _ => exact hD.agg
   | 1, _, _ => exact .v _
 rcases hfind with ⟨hmf, hfn, _⟩ | ⟨j, d0, e0, hmf, hj1, hj2, hfn, hk0, _⟩
 ·refine fin z0 ?_ ?_
  ·have e1 : mval u.zero l b = u.zero := by simp [mval, hmf]
   rw [e1]
   have hr := (Z43 (PL := fun _ => none) (w := w) (Av := Avo C PL s.hp) (.row 0 u) 1).2.2.2 0 (by omega)
   have e2 : (RK.rep (.row 0 u) 1).elem 0 = u.leaves u.zero := by
    simp only [RK.rep, R.elem, lock_eq, lrep, getD]
    rfl
   rw [e2] at hr
   have e3 : (RK.zvals (.row 0 u)) = z0.cells.toList := by rw [hzv]; rfl
   rw [e3] at hr
   refine ⟨z0.cells.toList, fun hs => ?_, fun hs => ?_, by have := hr.1; rw [Ty.leaves_len] at this; exact this, fun j a1 a2 => hr.2 j a1 a2⟩
   ·subst hza; rfl
   rw [hst] at hs; cases hs
  have e1 : mhas l b = false := by simp [mhas, hmf]
  rw [e1]
  cases ok <;> simp [execOp, ho, hxe, hye, Instr.lookup, run_underlying ht, MapKept.run_getObj_map hh, MapKept.run_checkKey hkt hkey, MapKept.run_findKey hkt hfn, Z6e hi hz0, Result.andThen]
 have hj : es[j]? = some e0 := by simpa using hj2
 have hfn' : Instr.findNow .string (.string ⟨b.toArray⟩) es.toList 0 = some (some (j, e0.val)) := by rw [hfn, Nat.zero_add]
 refine fin e0.val ?_ ?_
 ·have e1 : mval u.zero l b = d0.fld 1 := by simp [mval, hmf]
  rw [e1]
  exact (hd j d0 e0 hj1 hj).2
 have e1 : mhas l b = true := by simp [mhas, hmf]
 rw [e1]
 cases ok <;> simp [execOp, ho, hxe, hye, Instr.lookup, run_underlying ht, MapKept.run_getObj_map hh, MapKept.run_checkKey hkt hkey, MapKept.run_findKey hkt hfn', Result.andThen]
end
end Go.Proofs.Ytojbpjcfdjakkaa
end
section
set_option linter.unusedVariables false
set_option linter.unusedSimpArgs false
namespace Go.Proofs.Ytojbpjcfdjakkaa
open Go.RowKit
section
variable {P : Program} {C : Ctx} {PL : Nat → Option Pl} {s : St} {Fr : Nat → Prop} {a : Act} {w : World} {o : Oper} {Q : Exit → Act → World → Prop} {Γ : FuncId → Option Con}
theorem Z5 {E : Eff} {dst : Option Nat} {Fr Fr' : Nat → Prop} (hf : ∀ i, Fr' i → Fr i) (h : o.wp P a w (Eff.post E C s dst Fr) Q) : o.wp P a w (Eff.post E C s dst Fr') Q := by
 refine Oper.wp_mono (fun a' w' hp => ?_) h
 unfold Eff.post at hp ⊢
 split at hp
 ·obtain ⟨PL, hs⟩ := hp
  exact ⟨PL, hs.fr_mono hf⟩
 obtain ⟨x, hx, PL, hs⟩ := hp
 exact ⟨x, hx, PL, hs.fr_mono hf⟩
def Snd (P : Program) (C : Ctx) (Γ : FuncId → Option Con) (o : Oper) (io : IOp) : Prop :=
 ∀ (PL : Nat → Option Pl) (s : St) (Fr : Nat → Prop) (a : Act) (w : World) (Q : Exit → Act → World → Prop) (fresh : Nat) (E : Eff), Sat C PL s Fr a w → (∀ i, fresh ≤ i → i < fresh + 8 → Fr i) → C.k ≤ fresh →
  step Γ io s fresh = some E → (∀ p ∈ E.ob, p) → o.wp P a w (Eff.post E C s o.dst (fun i => Fr i ∧ ¬ (fresh ≤ i ∧ i < fresh + 8))) Q
theorem bind3 {α β γ δ : Type} {x : Option α} {y : Option β} {z : Option γ} {f : α → β → γ → δ} {r : δ} (h : (do pure (f (← x) (← y) (← z))) = some r) : ∃ a b c, x = some a ∧ y = some b ∧ z = some c ∧ f a b c = r := by
 cases x <;> cases y <;> cases z <;> simp at h
 exact ⟨_, _, _, rfl, rfl, rfl, h⟩
theorem bind2 {α β δ : Type} {x : Option α} {y : Option β} {f : α → β → δ} {r : δ} (h : (do pure (f (← x) (← y))) = some r) : ∃ a b, x = some a ∧ y = some b ∧ f a b = r := by
 cases x <;> cases y <;> simp at h
 exact ⟨_, _, rfl, rfl, h⟩
theorem bind1 {α δ : Type} {x : Option α} {f : α → δ} {r : δ} (h : (do pure (f (← x))) = some r) : ∃ a, x = some a ∧ f a = r := by
 cases x <;> simp at h
 exact ⟨_, rfl, h⟩
theorem frw (fresh : Nat) (Fr : Nat → Prop) : ∀ i, (Fr i ∧ ¬ (fresh ≤ i ∧ i < fresh + 8)) → Fr i := fun i h => h.1
theorem frn (fresh : Nat) (Fr : Nat → Prop) : ∀ i, (Fr i ∧ ¬ (fresh ≤ i ∧ i < fresh + 8)) → (Fr i ∧ i ≠ fresh) := fun i h => ⟨h.1, fun e => h.2 (by omega)⟩
theorem Zg2 {x : Operand} {y : Opnd} (ho : o.op = .move x ∨ o.op = .assign x) (hx : cX x = some y) : Snd P C Γ o (.mv y) := fun PL s Fr a w Q fresh E h hfr hk hs hob => by
 simp only [step] at hs
 split at hs
 ·rename_i v hv
  injection hs with hs
  subst hs
  exact Z5 (frw _ _) (Zw6 h ho hx hv)
 cases hs
theorem Zp0 {c x y : Operand} {c' x' y' : Opnd} (ho : o.op = .pick c x y) (hc : cX c = some c') (hx : cX x = some x') (hy : cX y = some y') : Snd P C Γ o (.pick c' x' y') := fun PL s Fr a w Q fresh E h hfr hk hs hob => by
 simp only [step] at hs
 cases hpl : pickLit x' y' with
 | true =>
  rw [hpl] at hs
  obtain ⟨rfl, rfl⟩ := Zuo hpl
  simp only [] at hs
  split at hs
  ·rename_i b hb
   injection hs with hs
   subst hs
   refine Z5 (frw _ _) (Zdk h ho hc hx hy hb ?_)
   cases b <;> rfl
  cases hs
 | false =>
 rw [hpl] at hs
 simp only [] at hs
 split at hs
 ·rename_i hb
  split at hs
  ·rename_i v hv
   injection hs with hs
   subst hs
   exact Z5 (frw _ _) (Zdk h ho hc hx hy hb (by simpa using hv))
  cases hs
 ·rename_i hb
  split at hs
  ·rename_i v hv
   injection hs with hs
   subst hs
   exact Z5 (frw _ _) (Zdk h ho hc hx hy hb (by simpa using hv))
  cases hs
 cases hs
theorem Zok {t yt : TypeId} {x y : Operand} {x' y' : Opnd} {op : BinOp} {bk : BK} {k : IntKind} (ho : o.op = .binOp op t x y yt) (hb : bkOf op = some bk) (hx : cX x = some x') (hy : cX y = some y') : Snd P C Γ o (.ib bk k x' y') := fun PL s Fr a w Q fresh E h hfr hk hs hob => by
 simp only [step] at hs
 split at hs
 ·rename_i j m j' n h1 h2
  split at hs
  ·rename_i hj
   rw [Bool.and_eq_true] at hj
   have e1 := LawfulBEq.eq_of_beq hj.1
   have e2 := LawfulBEq.eq_of_beq hj.2
   subst e1
   subst e2
   injection hs with hs
   subst hs
   exact Z5 (frw _ _) (Zvn h ho hb hx hy h1 h2 hob)
  cases hs
 cases hs
theorem Zg3 {t yt : TypeId} {x y : Operand} {x' y' : Opnd} {left : Bool} {k : IntKind} (ho : o.op = .binOp (if left then .shl else .shr) t x y yt) (hx : cX x = some x') (hy : cX y = some y') : Snd P C Γ o (.sh left k x' y') := fun PL s Fr a w Q fresh E h hfr hk hs hob => by
 simp only [step] at hs
 split at hs
 ·rename_i j m j' n h1 h2
  split at hs
  ·rename_i hj
   have e1 := LawfulBEq.eq_of_beq hj
   subst e1
   injection hs with hs
   subst hs
   exact Z5 (frw _ _) (Zwb h ho hx hy h1 h2 (obl.1 (hob _ (List.mem_singleton.2 rfl))))
  cases hs
 cases hs
theorem Zp3 {t yt : TypeId} {x y : Operand} {x' y' : Opnd} {op : BinOp} {sk : SK} (ho : o.op = .binOp op t x y yt) (hb : skOf op = some sk) (hx : cX x = some x') (hy : cX y = some y') : Snd P C Γ o (.sb sk x' y') := fun PL s Fr a w Q fresh E h hfr hk hs hob => by
 simp only [step] at hs
 split at hs
 ·rename_i m n h1 h2
  injection hs with hs
  subst hs
  exact Z5 (frw _ _) (Zwa h ho hb hx hy h1 h2 hob)
 cases hs
theorem Zo4 {t yt : TypeId} {x y : Operand} {x' y' : Opnd} {op : BinOp} {ne : Bool} (ho : o.op = .binOp op t x y yt) (hb : neOf op = some ne) (ht : P.underlying t = some .bool) (hx : cX x = some x') (hy : cX y = some y') : Snd P C Γ o (.bb ne x' y') := fun PL s Fr a w Q fresh E h hfr hk hs hob => by
 simp only [step] at hs
 split at hs
 ·rename_i m n h1 h2
  injection hs with hs
  subst hs
  exact Z5 (frw _ _) (Zv9 h ho hb ht hx hy h1 h2)
 cases hs
theorem Zpa {t yt : TypeId} {x y : Operand} {x' y' : Opnd} {op : BinOp} {ne : Bool} {fs : Array Field} {ks : List Nat} (ho : o.op = .binOp op t x y yt) (hb : neOf op = some ne) (ht : P.underlying t = some (.struct fs)) (hst : P.stoodInHeld t = false) (hg : P.eqGuardType P.depth t = false) (hks : flatKs P fs.toList 0 = some ks)
  (hx : cX x = some x') (hy : cX y = some y') : Snd P C Γ o (.steq ks ne x' y') := fun PL s Fr a w Q fresh E h hfr hk hs hob => by
 simp only [step] at hs
 split at hs
 ·rename_i m n h1 h2
  split at hs
  ·rename_i r hr
   injection hs with hs
   subst hs
   exact Z5 (frw _ _) (Zwh h ho hb ht hst hg hks hx hy h1 h2 hr)
  cases hs
 cases hs
theorem Zo5 {t : TypeId} {x : Operand} {x' : Opnd} (ho : o.op = .unOp .not t x) (hx : cX x = some x') : Snd P C Γ o (.bnot x') := fun PL s Fr a w Q fresh E h hfr hk hs hob => by
 simp only [step] at hs
 split at hs
 ·rename_i b h1
  injection hs with hs
  subst hs
  exact Z5 (frw _ _) (Zva h ho hx h1)
 cases hs
theorem Zon {t : TypeId} {x : Operand} {x' : Opnd} {k : IntKind} (ho : o.op = .unOp .neg t x) (hx : cX x = some x') : Snd P C Γ o (.ineg k x') := fun PL s Fr a w Q fresh E h hfr hk hs hob => by
 simp only [step] at hs
 split at hs
 ·rename_i j n h1
  split at hs
  ·rename_i hj
   have e1 := LawfulBEq.eq_of_beq hj
   subst e1
   injection hs with hs
   subst hs
   exact Z5 (frw _ _) (Zvt h ho hx h1)
  cases hs
 cases hs
theorem Zol {t : TypeId} {x : Operand} {x' : Opnd} {k : IntKind} (ho : o.op = .unOp .xor t x) (hx : cX x = some x') : Snd P C Γ o (.icom k x') := fun PL s Fr a w Q fresh E h hfr hk hs hob => by
 simp only [step] at hs
 split at hs
 ·rename_i j n h1
  split at hs
  ·rename_i hj
   have e1 := LawfulBEq.eq_of_beq hj
   subst e1
   injection hs with hs
   subst hs
   exact Z5 (frw _ _) (Zvo h ho hx h1)
  cases hs
 cases hs
theorem Zoe {t u : TypeId} {x : Operand} {x' : Opnd} {k kk : IntKind} (ho : o.op = .convert t u x) (ht : P.underlying t = some (.int kk)) (hu : P.underlying u = some (.int k)) (hx : cX x = some x') : Snd P C Γ o (.conv k x') := fun PL s Fr a w Q fresh E h hfr hk hs hob => by
 simp only [step] at hs
 split at hs
 ·rename_i j n h1
  injection hs with hs
  subst hs
  exact Z5 (frw _ _) (Zvh h ho ht hu hx h1)
 cases hs
theorem Zp7 {t u : TypeId} {x : Operand} {x' : Opnd} (ho : o.op = .convert t u x) (ht : P.underlying t = some .string) (hu : P.underlying u = some .string) (hx : cX x = some x') : Snd P C Γ o (.smv x') := fun PL s Fr a w Q fresh E h hfr hk hs hob => by
 simp only [step] at hs
 split at hs
 ·rename_i l h1
  injection hs with hs
  subst hs
  have d1 := Z4 h hx h1
  generalize hq : a.eval x = q at d1
  cases d1
  exact Z5 (frw _ _) (Z7 h (x := .string ⟨l.toArray⟩) (by simp [execOp, ho, hq, convert, run_underlying ht, run_underlying hu]) (.str l))
 cases hs
theorem Zoi {t : TypeId} {fs : Array Field} {f : Nat} {g : Field} {x : Operand} {x' : Opnd} (ho : o.op = .fieldAddr t x f) (ht : P.underlying t = some (.struct fs)) (hg : fs[f]? = some g) (hz : P.cellsOf g.type ≠ 0) (hx : cX x = some x') : Snd P C Γ o (.fld x' g.offset) := fun PL s Fr a w Q fresh E h hfr hk hs hob => by
 simp only [step] at hs
 split at hs
 ·rename_i id n h1
  injection hs with hs
  subst hs
  exact Z5 (frw _ _) (Zdj h ho ht hg hz hx h1 (.inl ⟨id, n, rfl, rfl⟩))
 ·rename_i id i n h1
  injection hs with hs
  subst hs
  exact Z5 (frw _ _) (Zdj h ho ht hg hz hx h1 (.inr (.inl ⟨id, i, n, rfl, rfl⟩)))
 ·rename_i r i n h1
  injection hs with hs
  subst hs
  exact Z5 (frw _ _) (Zdj h ho ht hg hz hx h1 (.inr (.inr ⟨r, i, n, rfl, rfl⟩)))
 cases hs
theorem Zoc {x : Operand} {x' : Opnd} (ho : o.op = .nilCheck x) (hx : cX x = some x') : Snd P C Γ o (.chk x') := fun PL s Fr a w Q fresh E h hfr hk hs hob => by
 simp only [step] at hs
 split at hs
 ·rename_i id n h1
  injection hs with hs
  subst hs
  exact Z5 (frw _ _) (Z7w h ho hx h1 (.inl ⟨id, n, rfl⟩))
 ·rename_i id i n h1
  injection hs with hs
  subst hs
  exact Z5 (frw _ _) (Z7w h ho hx h1 (.inr (.inl ⟨id, i, n, rfl⟩)))
 ·rename_i r i n h1
  injection hs with hs
  subst hs
  exact Z5 (frw _ _) (Z7w h ho hx h1 (.inr (.inr (.inl ⟨r, i, n, rfl⟩))))
 ·rename_i f l h1
  injection hs with hs
  subst hs
  exact Z5 (frw _ _) (Z7w h ho hx h1 (.inr (.inr (.inr ⟨f, l, rfl⟩))))
 cases hs
theorem Zom {t e : TypeId} {x i : Operand} {x' i' : Opnd} (ho : o.op = .indexAddr t x i) (ht : P.underlying t = some (.slice e)) (hz : P.cellsOf e ≠ 0) (hx : cX x = some x') (hi : cX i = some i') : Snd P C Γ o (.idx x' i' (P.cellsOf e)) := fun PL s Fr a w Q fresh E h hfr hk hs hob => by
 simp only [step] at hs
 split at hs
 ·rename_i id k n h1 h2
  split at hs
  ·rename_i r hr
   split at hs
   ·rename_i hb
    injection hs with hs
    subst hs
    exact Z5 (frw _ _) (Zvs h ho ht hz hx hi h1 h2 hr ((nbeq _ _).1 hb) (obl.1 (hob _ (List.mem_singleton.2 rfl))))
   cases hs
  split at hs
  ·rename_i T tm m g hr
   split at hs
   ·rename_i hb
    injection hs with hs
    subst hs
    exact Z5 (frw _ _) (Zvp h ho ht hz hx hi h1 h2 hr ((nbeq _ _).1 hb) (obl.1 (hob _ (List.mem_singleton.2 rfl))))
   cases hs
  cases hs
 ·rename_i id lo len k n h1 h2
  split at hs
  ·rename_i r hr
   split at hs
   ·rename_i hb
    injection hs with hs
    subst hs
    exact Z5 (frw _ _) (Zvr h ho ht hz hx hi h1 h2 hr ((nbeq _ _).1 hb) (obl.1 (hob _ (List.mem_singleton.2 rfl))))
   cases hs
  cases hs
 ·rename_i r k n h1 h2
  split at hs
  ·rename_i hb
   injection hs with hs
   subst hs
   exact Z5 (frw _ _) (Zvq h ho ht hz hx hi h1 h2 ((nbeq _ _).1 hb) (obl.1 (hob _ (List.mem_singleton.2 rfl))))
  cases hs
 cases hs
theorem Zp5 {t e : TypeId} {n : Nat} {x : Operand} {x' : Opnd} (ho : o.op = .slice t x none none none) (ht : P.underlying t = some (.array n e)) (hc : P.cellsOf e = 1) (hn : 1 ≤ n) (hm : n ≤ 16777216) (hx : cX x = some x') : Snd P C Γ o (.sla n x') := fun PL s Fr a w Q fresh E h hfr hk hs hob => by
 simp only [step] at hs
 split at hs
 ·rename_i id h1
  split at hs
  ·rename_i T vs hb
   split at hs
   ·rename_i xs hu
    split at hs
    ·rename_i hl
     injection hs with hs
     subst hs
     rw [lock_eq bsL]
     exact Z5 (frn _ _) (Zwd h (hfr fresh (Nat.le_refl _) (by omega)) (by omega) ho ht hc hn hm hx h1 hb hu ((nbeq _ _).1 hl) (obl.1 (hob _ (List.mem_singleton.2 rfl))))
    cases hs
   cases hs
  cases hs
 ·rename_i id i h1
  split at hs
  ·rename_i T m l hb
   split at hs
   ·rename_i hl
    injection hs with hs
    subst hs
    exact Z5 (frw _ _) (Zvk h ho ht hc hn hx h1 hb ((nbeq _ _).1 hl))
   cases hs
  cases hs
 cases hs
theorem Zp1 {t e : TypeId} {n : Nat} {x : Operand} {x' : Opnd} (ho : o.op = .sliceToArrayPointer t x) (ht : P.underlying t = some (.array n e)) (hn : 1 ≤ n) (hx : cX x = some x') : Snd P C Γ o (.s2a t n x') := fun PL s Fr a w Q fresh E h hfr hk hs hob => by
 simp only [step] at hs
 split at hs
 ·rename_i T l h1
  injection hs with hs
  subst hs
  exact Z5 (frw _ _) (Zw8 h ho ht hn hx h1 (obl.1 (hob _ (List.mem_singleton.2 rfl))))
 cases hs
theorem Zog {t e : TypeId} {x : Operand} {x' : Opnd} (ho : o.op = .convert t t x) (ht : P.underlying t = some (.slice e)) (he : P.underlying e = some (.int .u8)) (hx : cX x = some x') : Snd P C Γ o (.cvs x') := fun PL s Fr a w Q fresh E h hfr hk hs hob => by
 simp only [step] at hs
 split at hs
 ·rename_i id h1
  split at hs
  ·rename_i T l hr
   injection hs with hs
   subst hs
   exact Z5 (frw _ _) (Zvj h ho ht he hx h1 hr (obl.1 (hob _ (List.mem_singleton.2 rfl))))
  cases hs
 cases hs
theorem Zoj {t e : TypeId} {g len : Nat} {i : Operand} {i' : Opnd} {r : R} (ho : o.op = .indexAddr t (.global g) i) (ht : P.underlying t = some (.array len e)) (hz : P.cellsOf e ≠ 0) (hi : cX i = some i') (hg : gfind globs g = some r) (hs : r.sz = P.cellsOf e) (hl : r.glen = len) (hle : 2 ≤ len) : Snd P C Γ o (.gix g i') := fun PL s Fr a w Q fresh E h hfr hk hs' hob => by
 simp only [step] at hs'
 rw [hg] at hs'
 split at hs'
 ·rename_i q k n h0 h2
  injection h0 with h0
  subst h0
  injection hs' with hs'
  subst hs'
  exact Z5 (frw _ _) (Zvm h ho ht hz hi (Zh7 hg) h2 hs hl hle (obl.1 (hob _ (List.mem_singleton.2 rfl))))
 cases hs'
theorem Zp4 {t : TypeId} {x i : Operand} {x' i' : Opnd} (ho : o.op = .index t x i) (ht : P.underlying t = some .string) (hx : cX x = some x') (hi : cX i = some i') : Snd P C Γ o (.sidx x' i') := fun PL s Fr a w Q fresh E h hfr hk hs hob => by
 simp only [step] at hs
 split at hs
 ·rename_i l k n h1 h2
  injection hs with hs
  subst hs
  exact Z5 (frw _ _) (Zwc h ho ht hx hi h1 h2 (obl.1 (hob _ (List.mem_singleton.2 rfl))))
 cases hs
theorem Zoo {t : TypeId} {x : Operand} {x' : Opnd} (ho : o.op = .load t x) (ht : aggOf P t = some false) (hx : cX x = some x') : Snd P C Γ o (.ld x') := fun PL s Fr a w Q fresh E h hfr hk hs hob => by
 simp only [step] at hs
 split at hs
 ·rename_i p h1
  split at hs
  ·rename_i v hv
   injection hs with hs
   subst hs
   exact Z5 (frw _ _) (Zvv h ho ht hx h1 hv)
  split at hs
  ·rename_i id i off
   unfold ldP at hs
   split at hs
   ·rename_i T tm n g hr
    split at hs
    ·rename_i tm' l hg
     unfold opnS at hs
     split at hs
     rename_i cs chs m hopn
     split at hs
     ·rename_i v hv hm
      injection hs with hs
      subst hs
      exact Zvw h hfr hk ho ht hx h1 hr hg hopn hv (Nat.le_of_ble_eq_true hm)
     cases hs
    ·rename_i tm' l k cs hg
     split at hs
     ·rename_i v hv
      injection hs with hs
      subst hs
      exact Z5 (frw _ _) (Zvx h ho ht hx h1 hr hg hv (obl.1 (hob _ (List.mem_singleton.2 rfl))))
     cases hs
    cases hs
   cases hs
  cases hs
 cases hs
theorem Zop {t : TypeId} {x : Operand} {x' : Opnd} (ho : o.op = .load t x) (ht : aggOf P t = some true) (hx : cX x = some x') : Snd P C Γ o (.lda x' (P.cellsOf t)) := fun PL s Fr a w Q fresh E h hfr hk hs hob => by
 simp only [step] at hs
 split at hs
 ·rename_i p h1
  split at hs
  ·rename_i v hv
   injection hs with hs
   subst hs
   exact Z5 (frw _ _) (Zvy h ho ht hx h1 hv)
  cases hs
 cases hs
theorem Zp9 {T : TypeId} {x y : Operand} {x' y' : Opnd} (ho : o.op = .store T x y) (hdst : o.dst = none) (hi : (P.info? T).isSome = true) (hx : cX x = some x') (hy : cX y = some y') : Snd P C Γ o (.st x' y' (P.cellsOf T)) := fun PL s Fr a w Q fresh E h hfr hk hs hob => by
 simp only [step] at hs
 split at hs
 ·rename_i id off v h1 h2
  split at hs
  ·rename_i U vs hb
   split at hs
   ·rename_i hc
    simp only [Bool.and_eq_true] at hc
    injection hs with hs
    subst hs
    exact Z5 (frw _ _) (Zwg h ho hdst hi hx hy h1 h2 hb ((nbeq _ _).1 hc.1.1) hc.1.2 (Nat.le_of_ble_eq_true hc.2))
   cases hs
  cases hs
 ·rename_i id i off v h1 h2
  split at hs
  ·rename_i r hb
   split at hs
   ·rename_i hc
    simp only [Bool.and_eq_true] at hc
    split at hs
    ·rename_i ps r' hput
     injection hs with hs
     subst hs
     exact Z5 (frw _ _) (Zwe h ho hdst hi hx hy h1 h2 hb ((nbeq _ _).1 hc.1.1) hc.1.2 (Nat.le_of_ble_eq_true hc.2) hput hob)
    cases hs
   cases hs
  split at hs
  ·rename_i hU
   unfold stP at hs
   split at hs
   ·rename_i T tm n g hr
    split at hs
    ·rename_i tm' l k cs hg
     split at hs
     ·rename_i hc
      simp only [Bool.and_eq_true] at hc
      injection hs with hs
      subst hs
      exact Z5 (frn _ _) (Zwf h (hfr fresh (Nat.le_refl _) (by omega)) (by omega) ho hdst hi ((nbeq _ _).1 hU) hx hy h1 h2 hr hg hc.1.1 (Nat.le_of_ble_eq_true hc.1.2) ((nbeq _ _).1 hc.2) (obl.1 (hob _ (List.mem_singleton.2 rfl))))
     cases hs
    cases hs
   cases hs
  cases hs
 cases hs
theorem Zoh {x : Operand} {i : Nat} {x' : Opnd} (ho : o.op = .extract x i) (hx : cX x = some x') : Snd P C Γ o (.ext x' i) := fun PL s Fr a w Q fresh E h hfr hk hs hob => by
 simp only [step] at hs
 split at hs
 ·rename_i l h1
  split at hs
  ·rename_i v hv
   injection hs with hs
   subst hs
   exact Z5 (frw _ _) (Zvl h ho hx h1 hv)
  cases hs
 cases hs
theorem Zoz {t : TypeId} {fs : Array Field} {f : Nat} {g : Field} {x : Operand} {x' : Opnd} {b : Bool} (ho : o.op = .field t x f) (ht : P.underlying t = some (.struct fs)) (hg : fs[f]? = some g) (hb : aggOf P g.type = some b) (hx : cX x = some x') : Snd P C Γ o (.part x' g.offset (P.cellsOf g.type) b) := fun PL s Fr a w Q fresh E h hfr hk hs hob => by
 simp only [step] at hs
 split at hs
 ·rename_i l h1
  split at hs
  ·rename_i m hm
   cases b with
   | true =>
    injection hs with hs
    subst hs
    exact Z5 (frw _ _) (Zlw h ho ht hg hb hx h1 hm (.inl ⟨rfl, rfl⟩))
   | false =>
    cases m with
    | nil => cases hs
    | cons v m' => cases m' with
     | nil =>
      injection hs with hs
      subst hs
      exact Z5 (frw _ _) (Zlw h ho ht hg hb hx h1 hm (.inr ⟨rfl, rfl⟩))
     | cons _ _ => cases hs
  cases hs
 cases hs
theorem Zp2 {t u e : TypeId} {x : Operand} {x' : Opnd} (ho : o.op = .convert t u x) (ht : P.underlying t = some .string) (hu : P.underlying u = some (.slice e)) (he : P.underlying e = some (.int .u8)) (hx : cX x = some x') : Snd P C Γ o (.s2b e x') := fun PL s Fr a w Q fresh E h hfr hk hs hob => by
 simp only [step] at hs
 split at hs
 ·rename_i l h1
  injection hs with hs
  subst hs
  exact Z5 (frw _ _) (Zw9 h ho ht hu he hx h1)
 cases hs
theorem Zo3 {t u e : TypeId} {x : Operand} {x' : Opnd} (ho : o.op = .convert t u x) (ht : P.underlying t = some (.slice e)) (he : P.underlying e = some (.int .u8)) (hu : P.underlying u = some .string) (hx : cX x = some x') : Snd P C Γ o (.b2s x') := fun PL s Fr a w Q fresh E h hfr hk hs hob => by
 simp only [step] at hs
 split at hs
 ·rename_i h1
  injection hs with hs
  subst hs
  exact Z5 (frw _ _) (Zlp (T := 0) h ho ht he hu hx h1 (.inl ⟨rfl, rfl⟩))
 ·rename_i v _ h1
  split at hs
  ·rename_i T l hr
   injection hs with hs
   subst hs
   exact Z5 (frw _ _) (Zlp h ho ht he hu hx h1 (.inr hr))
  cases hs
 cases hs
theorem Zo6 {T : TypeId} {x : Operand} {x' : Opnd} (ho : o.op = .box T x) (hx : cX x = some x') : Snd P C Γ o (.box T (P.cellsOf T) x') := fun PL s Fr a w Q fresh E h hfr hk hs hob => by
 simp only [step] at hs
 split at hs
 ·rename_i v h1
  split at hs
  ·rename_i hc
   simp only [Bool.and_eq_true] at hc
   injection hs with hs
   subst hs
   exact Z5 (frn _ _) (Zvb h (hfr fresh (Nat.le_refl _) (by omega)) (by omega) ho hx h1 hc.2)
  cases hs
 cases hs
theorem Zoy {T : TypeId} {zs : List SV} (ho : o.op = .alloc T) (hz : zeroOf P T = some zs) : Snd P C Γ o (.new T zs) := fun PL s Fr a w Q fresh E h hfr hk hs hob => by
 simp only [step] at hs
 injection hs with hs
 subst hs
 exact Z5 (frn _ _) (Zv8 h (hfr fresh (Nat.le_refl _) (by omega)) (by omega) ho hz)
theorem Zo9 {t : TypeId} {fs : Array Field} {ps : Array (Nat × Operand)} {zs : List SV} {ys : List (Nat × Nat × Opnd)} (ho : o.op = .build t ps) (ht : P.underlying t = some (.struct fs)) (hz : zeroOf P t = some zs) (hy : cPartsS P fs ps.toList = some ys) (hinfo : ∀ f ∈ fs.toList, (P.info? f.type).isSome = true) : Snd P C Γ o (.build zs ys) := fun PL s Fr a w Q fresh E h hfr hk hs hob => by
 simp only [step] at hs
 split at hs
 ·rename_i l hl
  split at hs
  ·rename_i m hm
   injection hs with hs
   subst hs
   exact Z5 (frw _ _) (Zve h ho ht hz hy hl hm hinfo)
  cases hs
 cases hs
theorem Z4y : ∀ (ids : List Nat) (i : Nat) (c : Ck), ulook (gone ids []) i = some (some c) → False
 | [], i, c, h => by simp [gone, ulook] at h
 | k :: ids, i, c, h => by
  simp only [gone, ulook] at h
  cases hu : ulook (gone ids []) i with
  | some x =>
   rw [hu] at h
   simp only [Option.some.injEq] at h
   subst h
   exact Z4y ids i c hu
  | none =>
   rw [hu] at h
   simp only [] at h
   split at h <;> cases h
theorem Zh8 : ∀ (ids : List Nat) (i : Nat), i ∈ ids → ulook (gone ids []) i = some none
 | [], i, h => by simp at h
 | k :: ids, i, h => by
  simp only [gone, ulook]
  cases hu : ulook (gone ids []) i with
  | some x =>
   cases x with
   | none => rfl
   | some c => exact (Z4y ids i c hu).elim
  | none =>
   rcases List.mem_cons.1 h with e | h
   ·subst e; simp only [(nbeq i i).2 rfl]
   rw [Zh8 ids i h] at hu; cases hu
theorem Zhd : ∀ (ids : List Nat) (u : List (Nat × Option Ck)) (hp : List (Nat × Ck)), hupd (gone ids u) hp = hupd u (hupd (gone ids []) hp)
 | [], u, hp => rfl
 | i :: ids, u, hp => by simp only [gone, hupd]; exact Zhd ids u _
theorem Zh9 (h : Sat C PL s Fr a w) (ids : List Nat) : Mv C PL s.hp w (gone ids []) PL Fr w :=
 ⟨fun _ _ h => h, fun _ _ => rfl, h.fr, rfl, rfl, rfl, Nat.le_refl _, fun _ _ _ => rfl, fun i c _ _ hi => (Z4y ids i c hi).elim, fun i j c d p q b hi => (Z4y ids i c hi).elim⟩
theorem Zrl (h : Sat C PL s Fr a w) (ids : List Nat) : Sat C PL ⟨s.fr, hupd (gone ids []) s.hp, s.nx⟩ Fr a w := by
 have m := Zh9 h ids
 have t := h.toHSat.tr m
 have H := h.toHSat.mv m (fun i c hi => (Z4y ids i c hi).elim)
 exact { H with len := h.len, def_ := h.def_.mono (Nat.le_refl _) (fun _ _ _ => rfl) t.A, slot := fun i v hi => (h.slot i v hi).tr t }
theorem Zkw (h : Sat C PL s Fr a w) {ids : List Nat} : ∀ (l : List (Nat × Nat × SV)), (∀ i ∈ partW l, i ∈ ids) → (partG s.hp l).length = l.length ∧ ∀ (j : Nat) (h1 : j < (partG s.hp l).length) (h2 : j < l.length), (partG s.hp l)[j].1 = l[j].1 ∧ (partG s.hp l)[j].2.1 = l[j].2.1 ∧
  ∀ x, Den PL w (Avo C PL s.hp) l[j].2.2 x → Den PL w (Avo C PL (hupd (gone ids []) s.hp)) (partG s.hp l)[j].2.2 x
 | [], _ => ⟨rfl, fun j h1 h2 => by simp at h2⟩
 | (o, n, v) :: l, hm => by
  obtain ⟨e1, k⟩ := Zkw h (ids := ids) l (fun i hi => hm i (by simp only [partW]; exact List.mem_append_right _ hi))
  have t := h.toHSat.tr (Zh9 h ids)
  refine ⟨by simp only [partG, List.length_cons, e1], fun j h1 h2 => ?_⟩
  cases j with
  | succ j => exact k j (by simpa [partG] using h1) (by simpa using h2)
  | zero =>
   refine ⟨rfl, rfl, fun x d => ?_⟩
   show Den PL w (Avo C PL (hupd (gone ids []) s.hp)) (v.giv s.hp) x
   have d : Den PL w (Avo C PL s.hp) v x := d
   cases v with
   | wsl id =>
    simp only [SV.giv]
    split
    ·rename_i r hr
     have hid : id ∈ ids := hm id (by simp [partW, SV.wid1])
     refine Z3w h.toHSat (.inl rfl) hr d t.A ?_
     rintro p b hp ha (hz | ⟨i, c, q, g1, g2, g3⟩)
     ·exact (h.own b ⟨id, _, p, Zf hr, hp, ha⟩).1 hz
     rw [Zp] at g1
     cases hu : ulook (gone ids []) i with
     | some y =>
      rw [hu] at g1
      cases y with
      | none => simp at g1
      | some c' => exact Z4y ids i c' hu
     | none =>
      rw [hu] at g1
      have := h.dj i id c _ q p b g1 (Zf hr) g2 hp g3 ha
      subst this
      rw [Zh8 ids i hid] at hu
      cases hu
    exact d.tr t
   | _ => exact d.tr t
theorem Zo7 {t e : TypeId} {n : Nat} {ps : Array (Nat × Operand)} {rk : RK} {z0 : List SV} {ys : List (Nat × Nat × Opnd)} (ho : o.op = .buildSlice t n ps) (ht : P.underlying t = some (.slice e)) (hrk : rkOf P e = some rk) (hz : zeroOf P e = some z0) (hzl : z0.length = P.cellsOf e) (hnb : n * P.cellsOf e ≤ 16777216) (hy : cPartsA (P.cellsOf e) ps.toList = some ys) :
  Snd P C Γ o (.bsl rk n (reps n z0) ys) := fun PL s Fr a w Q fresh E h hfr hk hs hob => by
 simp only [step] at hs
 split at hs
 ·rename_i l hl
  split at hs
  ·rename_i m hm
   split at hs
   ·rename_i qs r hof
    injection hs with hs
    subst hs
    obtain ⟨e1, k1⟩ := Zky h hy hl
    obtain ⟨e2, k2⟩ := Zkw h (ids := partW l) l (fun _ h => h)
    have h' := Zrl h (partW l)
    refine Z5 (frn _ _) (Oper.wp_mono (fun a' w' hp => ?_) (Zvc (ob := qs) (rd := []) (wr := []) h' (hfr fresh (Nat.le_refl _) (by omega)) (by omega) ho ht hrk hz hzl hnb (l := partG s.hp l) (by omega) (fun j h1 h2 => ?_) hm hof hob))
    ·obtain ⟨PL2, hp⟩ := hp
     refine ⟨PL2, ?_⟩
     have e3 : s.put o.dst (some (.wsl fresh)) (gone (partW l) [(fresh, some (.row r))]) = St.put ⟨s.fr, hupd (gone (partW l) []) s.hp, s.nx⟩ o.dst (some (.wsl fresh)) [(fresh, some (.row r))] := by
      unfold St.put
      simp only []
      rw [Zhd]
     rw [e3]
     exact hp
    obtain ⟨g1, g2, g3⟩ := k2 j h1 (by omega)
    obtain ⟨⟨f1, f2⟩, f3⟩ := k1 j (by omega) h2
    exact ⟨⟨g1.trans f1, g2.trans f2⟩, g3 _ f3⟩
   cases hs
  cases hs
 cases hs
theorem Zos {t e : TypeId} {x y : Operand} {x' y' : Opnd} {rk : RK} (ho : o.op = .makeSlice t x y) (ht : P.underlying t = some (.slice e)) (hrk : rkOf P e = some rk) (hx : cX x = some x') (hy : cX y = some y') : Snd P C Γ o (.mks rk (P.bytesOf e) x' y') := fun PL s Fr a w Q fresh E h hfr hk hs hob => by
 simp only [step] at hs
 split at hs
 ·rename_i n c h1 h2
  injection hs with hs
  subst hs
  exact Z5 (frn _ _) (Zw2 h (hfr fresh (Nat.le_refl _) (by omega)) (by omega) ho ht hrk hx hy h1 h2 (obl.1 (hob _ (List.mem_singleton.2 rfl))))
 cases hs
mutual
theorem Zb : ∀ (a b : Tm), a.eq b = true → a = b
 | .v t, b, h => by cases b <;> simp [Tm.eq] at h ⊢; exact Zv _ _ h
 | .p T fs, b, h => by
  cases b with
  | p U gs => simp [Tm.eq] at h; rw [h.1, Zgw fs gs h.2]
  | _ => simp [Tm.eq] at h
 | .w T e, b, h => by
  cases b with
  | w U f => simp [Tm.eq] at h; rw [h.1, Zv _ _ h.2]
  | _ => simp [Tm.eq] at h
theorem Zgw : ∀ (a b : List Tm), Tm.eqL a b = true → a = b
 | [], [], _ => rfl
 | [], b :: bs, h => by simp [Tm.eqL] at h
 | a :: as, [], h => by simp [Tm.eqL] at h
 | a :: as, b :: bs, h => by
  simp only [Tm.eqL, Bool.and_eq_true] at h
  rw [Zb a b h.1, Zgw as bs h.2]
end
theorem Zot {t e : TypeId} {x y : Operand} {x' y' : Opnd} {tm : Tm} {i : TypeInfo} {z : Value} (ho : o.op = .makeSlice t x y) (ht : P.underlying t = some (.slice e)) (hi : P.info? e = some i) (hz : i.zero = some z) (hzc : z.cells.toList = [.slice none 0 0]) (his : P.cellsOf e = 1) (hts : ∀ U u, tm = .w U u → 0 < u.size) (hby : 0 < P.bytesOf e) (hx : cX x = some x') (hy : cX y = some y') : Snd P C Γ o (.mksd e tm (P.bytesOf e) x' y') := fun PL s Fr a w Q fresh E h hfr hk hs hob => by
 have his : i.size = 1 := by rw [← his]; simp [Program.cellsOf, hi]
 simp only [step] at hs
 split at hs
 ·rename_i n c h1 h2 hn
  injection hs with hs
  subst hs
  cases tm with
  | w U u => exact Zw3 h hfr hk ho ht hi hz hzc his (hts U u rfl) hx hy h1 h2 (obl.1 (hob _ (List.mem_singleton.2 rfl))) hby
  | _ => cases hn
 cases hs
theorem Zo8 {t e : TypeId} {x : Operand} {x' : Opnd} {tm : Tm} {i : TypeInfo} {z : Value} (ho : o.op = .buildSlice t 1 #[(0, x)]) (ht : P.underlying t = some (.slice e)) (hi : P.info? e = some i) (hz : i.zero = some z) (his : i.size = 1) (hzs : z.cells.size = 1) (hx : cX x = some x') : Snd P C Γ o (.bsld e tm x') := fun PL s Fr a w Q fresh E h hfr hk hs hob => by
 simp only [step] at hs
 split at hs
 ·rename_i v h1
  split at hs
  ·rename_i d ids hsh
   split at hs
   ·rename_i hc
    simp only [Bool.and_eq_true] at hc
    injection hs with hs
    subst hs
    rw [Zcf]
    exact Zvd h hfr hk ho ht hi hz his hzs ((nbeq _ _).1 hc.1.2) hx h1 hc.2 hsh (Z50 _ hc.1.1)
   cases hs
  cases hs
 cases hs
theorem Zo2 {e : TypeId} {x y : Operand} (hA : App P o e x y) {x' y' : Opnd} {tm : Tm} {i : TypeInfo} {z : Value} (hi : P.info? e = some i) (hz : i.zero = some z) (his : i.size = 1) (hzs : z.cells.size = 1) (hby : 0 < P.bytesOf e) (htm : tm.size = 1) (hx : cX x = some x') (hy : cX y = some y') : Snd P C Γ o (.appd e tm (P.bytesOf e) x' y') := fun PL s Fr a w Q fresh E h hfr hk hs hob => by
 simp only [step] at hs
 split at hs
 ·rename_i id h1 h2
  split at hs
  ·rename_i U tm' n g hr
   split at hs
   ·rename_i tm2 l hg
    split at hs
    ·rename_i hc
     simp only [Bool.and_eq_true] at hc
     obtain ⟨⟨⟨c1, c2⟩, c3⟩, c4⟩ := hc
     have c1 := Zb _ _ c1
     have c2 := Zb _ _ c2
     have c3 := (nbeq _ _).1 c3
     have c4 := (nbeq _ _).1 c4
     subst c1; subst c2; subst c3; subst c4
     injection hs with hs
     subst hs
     have ob := obl.1 (hob _ (List.mem_singleton.2 rfl))
     exact Zlo h hfr hk hA hi hz his hzs hby hx hy htm h2 hr hg h1 (ids := [id, g]) (m := 0) (l0 := []) (.inl ⟨rfl, rfl, rfl, rfl⟩) (by simpa using ob)
    cases hs
   cases hs
  cases hs
 ·rename_i i0 id h1 h2
  split at hs
  ·rename_i V tm0 m g0 U tm' n g hr0 hr
   split at hs
   ·rename_i tm3 l0 tm2 l hg0 hg
    split at hs
    ·rename_i hc
     simp only [Bool.and_eq_true] at hc
     obtain ⟨⟨⟨⟨⟨⟨⟨c1, c2⟩, c3⟩, c4⟩, c5⟩, c6⟩, c7⟩, c8⟩ := hc
     have c1 := Zb _ _ c1
     have c2 := Zb _ _ c2
     have c3 := Zb _ _ c3
     have c4 := Zb _ _ c4
     have c5 := (nbeq _ _).1 c5
     have c6 := (nbeq _ _).1 c6
     have c7 := (nbeq _ _).1 c7
     have c8 := Z50 _ c8
     subst c1; subst c2; subst c3; subst c4; subst c5; subst c6; subst c7
     injection hs with hs
     subst hs
     have hgg : g0 ≠ g := fun e => by subst e; simp at c8
     have e1 : lock nadd m 1 = m + 1 := by rw [lock_eq]; rfl
     have e2 : lock (@cat D) l0 l = l0 ++ l := by rw [lock_eq]; rfl
     rw [e1, e2]
     exact Zlo h hfr hk hA hi hz his hzs hby hx hy htm h2 hr hg h1 (ids := [i0, g0, id, g]) (.inr ⟨i0, g0, rfl, hr0, hg0, rfl, hgg⟩) (obl.1 (hob _ (List.mem_singleton.2 rfl)))
    cases hs
   cases hs
  cases hs
 cases hs
theorem Zor {t : TypeId} {u : Ty} (ho : o.op = .makeMap t none) : Snd P C Γ o (.mkm u) := fun PL s Fr a w Q fresh E h hfr hk hs hob => by
 simp only [step] at hs
 injection hs with hs
 subst hs
 exact Z5 (frn _ _) (Zw1 h (hfr fresh (Nat.le_refl _) (by omega)) (by omega) ho)
theorem Zow {t : TypeId} {u : Ty} {x y z : Operand} {x' y' z' : Opnd} (hT : MpT P t u) (ho : o.op = .mapUpdate t x y z) (hdst : o.dst = none) (hx : cX x = some x') (hy : cX y = some y') (hz : cX z = some z') : Snd P C Γ o (.mpu u x' y' z') := fun PL s Fr a w Q fresh E h hfr hk hs hob => by
 simp only [step] at hs
 split at hs
 ·rename_i id b v h1 h2 h3
  split at hs
  ·rename_i t' l hm
   split at hs
   ·rename_i hc
    simp only [Bool.and_eq_true] at hc
    have c1 := Zv _ _ hc.1.1.1
    subst c1
    split at hs
    ·rename_i d hmk
     injection hs with hs
     subst hs
     refine Z5 (frw _ _) (Zw5 h hT ho hdst hx hy hz h1 h2 h3 hm hc.1.2 ?_ hmk)
     have := hc.2
     cases h4 : aggQ v <;> cases h5 : u.isSt <;> rw [h4, h5] at this <;> first | rfl | cases this
    cases hs
   cases hs
  cases hs
 cases hs
theorem Zov {t : TypeId} {u : Ty} {x y : Operand} {x' y' : Opnd} {ok : Bool} (hT : MpT P t u) (ho : o.op = .lookup t x y ok) (hx : cX x = some x') (hy : cX y = some y') : Snd P C Γ o (.mpg u ok x' y') := fun PL s Fr a w Q fresh E h hfr hk hs hob => by
 simp only [step] at hs
 split at hs
 ·rename_i id b h1 h2
  split at hs
  ·rename_i t' l hm
   split at hs
   ·rename_i hc
    simp only [Bool.and_eq_true] at hc
    have c1 := Zv _ _ hc.1
    subst c1
    split at hs
    ·injection hs with hs
     subst hs
     exact Z5 (frw _ _) (Zlu h hT ho hx hy h1 h2 hm rfl)
    injection hs with hs
    subst hs
    exact Z5 (frw _ _) (Zlu h hT ho hx hy h1 h2 hm rfl)
   cases hs
  cases hs
 cases hs
theorem Zox {c : Call} {x y : Operand} {x' y' : Opnd} (ho : o.op = .call c) (hc : c.callee = .builtin .max) (ha : c.args.toList = [x, y]) (hx : cX x = some x') (hy : cX y = some y') : Snd P C Γ o (.mx x' y') := fun PL s Fr a w Q fresh E h hfr hk hs hob => by
 simp only [step] at hs
 split at hs
 ·rename_i k m j n h1 h2
  split at hs
  ·rename_i hj
   have e1 := LawfulBEq.eq_of_beq hj
   subst e1
   injection hs with hs
   subst hs
   exact Z5 (frw _ _) (Zw7 h ho hc ha hx hy h1 h2)
  cases hs
 cases hs
theorem Zou {c : Call} {x y : Operand} {x' y' : Opnd} (ho : o.op = .call c) (hc : c.callee = .builtin .min) (ha : c.args.toList = [x, y]) (hx : cX x = some x') (hy : cX y = some y') : Snd P C Γ o (.mn x' y') := fun PL s Fr a w Q fresh E h hfr hk hs hob => by
 simp only [step] at hs
 split at hs
 ·rename_i k m j n h1 h2
  split at hs
  ·rename_i hj
   have e1 := LawfulBEq.eq_of_beq hj
   subst e1
   injection hs with hs
   subst hs
   exact Z5 (frw _ _) (Zw4 h ho hc ha hx hy h1 h2)
  cases hs
 cases hs
theorem Zoq {f : FuncId} {first caps : Array Operand} {ys : List Opnd} (ho : o.op = .makeFunc (.func f) first caps) (hf : first.size = 0) (hx : cXs caps.toList = some ys) : Snd P C Γ o (.mkfn f ys) := fun PL s Fr a w Q fresh E h hfr hk hs hob => by
 simp only [step] at hs
 split at hs
 ·rename_i l h1
  injection hs with hs
  subst hs
  exact Z5 (frw _ _) (Zw0 h ho hf hx h1)
 cases hs
theorem Zg1 {c : Call} {t : TypeId} {x : Operand} {x' : Opnd} {b : Bool} (ho : o.op = .call c) (hc : c.callee = .builtin .len) (ha : c.args.toList = [x]) (ht : c.argTypes[0]? = some t) (hu : (b = false ∧ ∃ e, P.underlying t = some (.slice e)) ∨ (b = true ∧ P.underlying t = some .string)) (hx : cX x = some x') :
  Snd P C Γ o (.len b x') := fun PL s Fr a w Q fresh E h hfr hk hs hob => by
 simp only [step] at hs
 split at hs
 ·rename_i v h1
  split at hs
  ·rename_i n l e1
   injection hs with hs
   subst hs
   have hb : P.underlying t = some .string := by
    rcases hu with ⟨e, _⟩ | ⟨_, e⟩
    ·cases e
    exact e
   exact Z5 (frw _ _) (Zlt h ho hc ha ht (.inr hb) hx h1 e1 ⟨fun ⟨e, he⟩ => (by rw [hb] at he; cases he), fun hne => absurd rfl (hne l)⟩)
  ·cases hs
  ·cases hs
  ·rename_i n _ hne e1
   injection hs with hs
   subst hs
   have hb : ∃ e, P.underlying t = some (.slice e) := by
    rcases hu with ⟨_, e⟩ | ⟨e, _⟩
    ·exact e
    cases e
   exact Z5 (frw _ _) (Zlt h ho hc ha ht (.inl hb) hx h1 e1 ⟨fun _ l hl => hne l hl, fun _ => hb⟩)
  ·rename_i id e1
   split at hs
   ·rename_i T tm n g hr
    injection hs with hs
    subst hs
    have hb : ∃ e, P.underlying t = some (.slice e) := by
     rcases hu with ⟨_, e⟩ | ⟨e, _⟩
     ·exact e
     cases e
    exact Z5 (frw _ _) (Zvz h ho hc ha ht hb hx h1 hr)
   cases hs
  cases hs
 cases hs
theorem Zod {c : Call} {t e : TypeId} {x : Operand} {x' : Opnd} {rk : RK} (ho : o.op = .call c) (hc : c.callee = .builtin .clear) (ha : c.args.toList = [x]) (hat : c.argTypes[0]? = some t) (ht : P.underlying t = some (.slice e)) (hrk : rkOf P e = some rk) (hx : cX x = some x') : Snd P C Γ o (.clear rk x') := fun PL s Fr a w Q fresh E h hfr hk hs hob => by
 simp only [step] at hs
 split at hs
 ·rename_i h1
  injection hs with hs
  subst hs
  exact Z5 (frw _ _) (Zvg h ho hc ha hat ht hx h1)
 ·rename_i id h1
  split at hs
  ·rename_i r hr
   split at hs
   ·rename_i hb
    rw [Bool.and_eq_true] at hb
    injection hs with hs
    subst hs
    exact Z5 (frw _ _) (Zvf h ho hc ha hat ht hx hrk h1 hr ((nbeq _ _).1 hb.1) ((nbeq _ _).1 hb.2))
   cases hs
  cases hs
 cases hs
theorem Zof {e : TypeId} {x y : Operand} (hC : Cpy P o e x y) (hz : P.cellsOf e ≠ 0) {x' y' : Opnd} (hx : cX x = some x') (hy : cX y = some y') : Snd P C Γ o (.copy x' y' (P.cellsOf e)) := fun PL s Fr a w Q fresh E h hfr hk hs hob => by
 simp only [step] at hs
 split at hs
 ·rename_i id h1 h2
  injection hs with hs
  subst hs
  exact Z5 (frw _ _) (Zls h hC hz hx hy h1 (.inl ⟨_, rfl⟩) h2)
 ·rename_i id lo n h1 h2
  injection hs with hs
  subst hs
  exact Z5 (frw _ _) (Zls h hC hz hx hy h1 (.inr ⟨_, _, _, rfl⟩) h2)
 ·rename_i id v hn h1 h2
  split at hs
  ·rename_i p q hp hq hm
   split at hs
   ·cases hs
   rename_i hb
   split at hs
   ·rename_i r hr
    injection hs with hs
    subst hs
    simp only [lock_eq, nmin, ofN, R.len_eq] at hr ⊢
    exact Z5 (frw _ _) (Zlr h hC hz hx hy h1 (.inl ⟨rfl, rfl, rfl⟩) hp ((nbeq _ _).1 hb) h2 hq hr)
   cases hs
  cases hs
 ·rename_i id lo n v h1 h2
  split at hs
  ·rename_i p q hp hq hm
   split at hs
   ·cases hs
   rename_i hb
   split at hs
   ·rename_i r hr
    injection hs with hs
    subst hs
    simp only [lock_eq, nmin, ofN, R.len_eq] at hr ⊢
    exact Z5 (frw _ _) (Zlr h hC hz hx hy h1 (.inr rfl) hp ((nbeq _ _).1 hb) h2 hq hr)
   cases hs
  cases hs
 ·rename_i id i v h1 h2
  split at hs
  ·rename_i T n l U bl hp hq hm
   split at hs
   ·rename_i hb
    injection hs with hs
    subst hs
    simp only [lock_eq, nmin, ofN, xlen]
    exact Z5 (frw _ _) (Zvi h hC ((nbeq _ _).1 hb) hx hy h1 hp h2 hq)
   cases hs
  cases hs
 cases hs
end
end Go.Proofs.Ytojbpjcfdjakkaa
end
section
set_option linter.unusedVariables false
set_option linter.unusedSimpArgs false
namespace Go.Proofs.Ytojbpjcfdjakkaa
open Go.RowKit
section
variable {P : Program} {C : Ctx} {o : Oper} {Γ : FuncId → Option Con}
theorem Z13 {PL : Nat → Option Pl} {s : St} {Fr : Nat → Prop} {a : Act} {w : World} (h : Sat C PL s Fr a w) {x : Operand} {y : Opnd} {k : IntKind} {n : Int} (hx : cX x = some y) (hv : s.ev y = some (.v (.int k n))) : a.eval x = .int k n := by
 have d := Z4 h hx hv
 generalize a.eval x = q at d
 cases d
 rfl
theorem Z4t {lo : Option Operand} {lo' : Option Opnd} (h : cO lo = some lo') : (lo = none ∧ lo' = none) ∨ ∃ x y, lo = some x ∧ lo' = some y ∧ cX x = some y := by
 cases lo with
 | none => simp only [cO] at h; injection h with h; exact .inl ⟨rfl, h.symm⟩
 | some x =>
  simp only [cO, Option.map_eq_some_iff] at h
  obtain ⟨y, h1, h2⟩ := h
  exact .inr ⟨x, y, rfl, h2.symm, h1⟩
theorem Zp8 {t : TypeId} {x : Operand} {lo hi : Option Operand} {x' : Opnd} {lo' hi' : Option Opnd} (ho : o.op = .slice t x lo hi none) (ht : P.underlying t = some .string) (hx : cX x = some x') (hlo : cO lo = some lo') (hhi : cO hi = some hi') : Snd P C Γ o (.ssl x' lo' hi') := fun PL s Fr a w Q fresh E h hfr hk hs hob => by
 simp only [step] at hs
 split at hs
 ·rename_i l h1
  rcases Z4t hlo with ⟨rfl, rfl⟩ | ⟨x1, y1, rfl, rfl, e1⟩ <;> rcases Z4t hhi with ⟨rfl, rfl⟩ | ⟨x2, y2, rfl, rfl, e2⟩
  ·simp only [] at hs
   injection hs with hs
   subst hs
   exact Z5 (frw _ _) (Z7x h 0 l.length ho ht hx h1 (Nat.zero_le _) (Nat.le_refl _) (.inl ⟨rfl, rfl⟩) (.inl ⟨rfl, rfl⟩) (by simp [lsub]))
  ·simp only [] at hs
   split at hs
   ·rename_i k n hn
    injection hs with hs
    subst hs
    have ob := obl.1 (hob _ (List.mem_singleton.2 rfl))
    simp only [lock_eq, ofN, xlen] at ob
    have ev := Z13 h e2 hn
    exact Z5 (frw _ _) (Z7x h 0 n.toNat ho ht hx h1 (Nat.zero_le _) (by omega) (.inl ⟨rfl, rfl⟩) (.inr ⟨x2, k, rfl, by rw [ev, Int.toNat_of_nonneg ob.1]⟩) (by simp [lock_eq, toN]))
   cases hs
  ·simp only [] at hs
   split at hs
   ·rename_i k m hm
    injection hs with hs
    subst hs
    have ob := obl.1 (hob _ (List.mem_singleton.2 rfl))
    simp only [lock_eq, ofN, xlen] at ob
    have ev := Z13 h e1 hm
    exact Z5 (frw _ _) (Z7x h m.toNat l.length ho ht hx h1 (by omega) (Nat.le_refl _) (.inr ⟨x1, k, rfl, by rw [ev, Int.toNat_of_nonneg ob.1]⟩) (.inl ⟨rfl, rfl⟩) (by simp [lock_eq, toN, ndec, xlen]))
   cases hs
  simp only [] at hs
  split at hs
  ·rename_i k m k2 n hm hn
   injection hs with hs
   subst hs
   have ob := obl.1 (hob _ (List.mem_singleton.2 rfl))
   simp only [lock_eq, ofN, xlen] at ob
   have ev1 := Z13 h e1 hm
   have ev2 := Z13 h e2 hn
   exact Z5 (frw _ _) (Z7x h m.toNat n.toNat ho ht hx h1 (by omega) (by omega) (.inr ⟨x1, k, rfl, by rw [ev1, Int.toNat_of_nonneg ob.1]⟩) (.inr ⟨x2, k2, rfl, by rw [ev2, Int.toNat_of_nonneg (by omega)]⟩) (by simp [lock_eq, toN, ndec]))
  cases hs
 cases hs
theorem Zs1 {h : List (Nat × Ck)} {v : SV} {n : Nat} {r : R} (hn : lenS h v = some n) (hr : rowS h v = some r) : (∃ id lo, v = .sl id lo n) ∨ n = rlen r := by
 cases v with
 | wsl id =>
  simp only [lenS] at hn
  simp only [rowS] at hr
  rw [hr] at hn
  simp only [] at hn
  injection hn with hn
  exact .inr (by rw [← hn, R.len_eq])
 | sl id lo k =>
  simp only [lenS] at hn
  injection hn with hn
  subst hn
  exact .inl ⟨id, lo, rfl⟩
 | rsl q =>
  simp only [lenS] at hn
  simp only [rowS] at hr
  injection hr with hr
  injection hn with hn
  subst hr
  exact .inr (by rw [← hn, R.len_eq])
 | _ => simp [rowS] at hr
theorem Zdo {PL : Nat → Option Pl} {s : St} {Fr : Nat → Prop} {a : Act} {w : World} {Q : Exit → Act → World → Prop} (h : Sat C PL s Fr a w) {t e : TypeId} {x : Operand} {lo hi : Option Operand} {x' : Opnd} (ho : o.op = .slice t x lo hi none) (ht : P.underlying t = some (.slice e)) (hz : P.cellsOf e ≠ 0) (hx : cX x = some x') (h1 : s.ev x' = some .nsl)
  (hlo : lo = none ∨ ∃ x k, lo = some x ∧ a.eval x = .int k 0) (hhi : hi = none ∨ ∃ x k, hi = some x ∧ a.eval x = .int k 0) {ob : List Prop} {rd : List Nat} :
  o.wp P a w (Eff.post ⟨ob, rd, [], .one .nsl []⟩ C s o.dst Fr) Q := by
 have d1 := Z4 h hx h1
 generalize hq : a.eval x = q at d1
 cases d1
 obtain ⟨i, hi', he⟩ := Z19 hz
 have hb := Z7s (P := P) (w := w) (a := a) true 0 0 lo hi 0 0 (Nat.le_refl _) (Nat.le_refl _) (by
  rcases hlo with h | ⟨x, k, h1, h2⟩
  ·exact .inl ⟨h, rfl⟩
  ·exact .inr ⟨x, k, h1, h2⟩) (by
  rcases hhi with h | ⟨x, k, h1, h2⟩
  ·exact .inl ⟨h, rfl⟩
  exact .inr ⟨x, k, h1, h2⟩)
 refine Z7 h (x := .slice none 0 0) ?_ .nsl
 simp [execOp, ho, Instr.sliceAt, run_underlying ht, Instr.slice, hq, hb, Zn hi']
theorem Zp6 {t e : TypeId} {x : Operand} {lo hi : Option Operand} {x' : Opnd} {lo' hi' : Option Opnd} (ho : o.op = .slice t x lo hi none) (ht : P.underlying t = some (.slice e)) (hz : P.cellsOf e ≠ 0) (hx : cX x = some x') (hlo : cO lo = some lo') (hhi : cO hi = some hi') : Snd P C Γ o (.sls x' lo' hi' (P.cellsOf e)) := fun PL s Fr a w Q fresh E h hfr hk hs hob => by
 simp only [step] at hs
 split at hs
 ·rename_i h1
  rcases Z4t hlo with ⟨rfl, rfl⟩ | ⟨x1, y1, rfl, rfl, e1⟩ <;> rcases Z4t hhi with ⟨rfl, rfl⟩ | ⟨x2, y2, rfl, rfl, e2⟩
  ·simp only [] at hs
   injection hs with hs
   subst hs
   have d1 := Z4 h hx h1
   generalize hq : a.eval x = q at d1
   cases d1
   obtain ⟨i, hi', he⟩ := Z19 hz
   refine Z5 (frw _ _) (Z7 h (x := .slice none 0 0) ?_ .nsl)
   simp [execOp, ho, Instr.sliceAt, run_underlying ht, Instr.slice, hq, Instr.sliceBounds, Zn hi']
  ·simp only [] at hs
   split at hs
   ·rename_i k n hn
    injection hs with hs
    subst hs
    have ob := obl.1 (hob _ (List.mem_singleton.2 rfl))
    subst ob
    exact Z5 (frw _ _) (Zdo h ho ht hz hx h1 (.inl rfl) (.inr ⟨x2, k, rfl, Z13 h e2 hn⟩))
   cases hs
  ·simp only [] at hs
   split at hs
   ·rename_i k m hm
    injection hs with hs
    subst hs
    have ob := obl.1 (hob _ (List.mem_singleton.2 rfl))
    subst ob
    exact Z5 (frw _ _) (Zdo h ho ht hz hx h1 (.inr ⟨x1, k, rfl, Z13 h e1 hm⟩) (.inl rfl))
   cases hs
  simp only [] at hs
  split at hs
  ·rename_i k m k2 n hm hn
   injection hs with hs
   subst hs
   have ob := obl.1 (hob _ (List.mem_singleton.2 rfl))
   obtain ⟨ob1, ob2⟩ := ob
   subst ob1; subst ob2
   exact Z5 (frw _ _) (Zdo h ho ht hz hx h1 (.inr ⟨x1, k, rfl, Z13 h e1 hm⟩) (.inr ⟨x2, k2, rfl, Z13 h e2 hn⟩))
  cases hs
 ·rename_i v _ h1
  split at hs
  ·rename_i len r hlen hr
   split at hs
   ·rename_i hb
    have hsz := (nbeq _ _).1 hb
    have d1 := Z4 h hx h1
    have hrl : len = rlen r := by
     rcases Zs1 hlen hr with ⟨id, l0, rfl⟩ | hrl
     ·simp only [rowS] at hr
      cases hro : rowOf s.hp id with
      | none => rw [hro] at hr; cases hr
      | some q =>
       rw [hro] at hr
       simp only [] at hr
       injection hr with hr
       subst hr
       generalize a.eval x = xv at d1
       cases d1 with
       | sl _ _ _ p A cap hp hl hc hn hA =>
        obtain ⟨p', hp', l1, _⟩ := Z14 (h.ck id _ (Zf hro))
        rw [hp] at hp'; injection hp' with hp'; subst hp'
        exact (R.sub_len q l0 len (by omega)).symm
     exact hrl
    subst hrl
    unfold slS at hs
    rcases Z4t hlo with ⟨rfl, rfl⟩ | ⟨x1, y1, rfl, rfl, e1⟩ <;> rcases Z4t hhi with ⟨rfl, rfl⟩ | ⟨x2, y2, rfl, rfl, e2⟩
    ·simp only [] at hs
     injection hs with hs
     subst hs
     refine Z5 (frw _ _) ?_
     obtain ⟨i, hi', he⟩ := Z19 hz
     obtain ⟨A, cap, hq, hcap, hsome, _⟩ := Z1l h.toHSat hr d1
     refine Z7 h (x := .slice A (rlen r) cap) ?_ (hq ▸ d1)
     have hb := Z7s (P := P) (w := w) (a := a) true (rlen r) cap none none 0 (rlen r) (Nat.zero_le _) hcap (.inl ⟨rfl, rfl⟩) (.inl ⟨rfl, rfl⟩)
     simp only [Option.map_none] at hb
     have hA : (if cap = 0 then A else A.map (·.add (0 * i.size))) = A := by
      split
      ·rfl
      cases A <;> simp [Zu]
     simp [execOp, ho, Instr.sliceAt, run_underlying ht, Instr.slice, hq, hb, Zn hi', Zu]
    ·simp only [] at hs
     split at hs
     ·rename_i k n hn
      injection hs with hs
      subst hs
      have ob := obl.1 (hob _ (List.mem_singleton.2 rfl))
      simp only [lock_eq, ofN] at ob
      have ev := Z13 h e2 hn
      exact Z5 (frw _ _) (Zdn h 0 n.toNat ho ht hz hx h1 hr hsz (Nat.zero_le _) (by omega) (.inl ⟨rfl, rfl⟩) (.inr ⟨x2, k, rfl, by rw [ev, Int.toNat_of_nonneg ob.1]⟩) (by simp [lock_eq, toN]))
     cases hs
    ·simp only [] at hs
     split at hs
     ·rename_i k m hm
      injection hs with hs
      subst hs
      have ob := obl.1 (hob _ (List.mem_singleton.2 rfl))
      simp only [lock_eq, ofN] at ob
      have ev := Z13 h e1 hm
      exact Z5 (frw _ _) (Zdn h m.toNat (rlen r) ho ht hz hx h1 hr hsz (by omega) (Nat.le_refl _) (.inr ⟨x1, k, rfl, by rw [ev, Int.toNat_of_nonneg ob.1]⟩) (.inl ⟨rfl, rfl⟩) (by simp [lock_eq, toN, ndec]))
     cases hs
    simp only [] at hs
    split at hs
    ·rename_i k m k2 n hm hn
     injection hs with hs
     subst hs
     have ob := obl.1 (hob _ (List.mem_singleton.2 rfl))
     simp only [lock_eq, ofN] at ob
     have ev1 := Z13 h e1 hm
     have ev2 := Z13 h e2 hn
     exact Z5 (frw _ _) (Zdn h m.toNat n.toNat ho ht hz hx h1 hr hsz (by omega) (by omega) (.inr ⟨x1, k, rfl, by rw [ev1, Int.toNat_of_nonneg ob.1]⟩) (.inr ⟨x2, k2, rfl, by rw [ev2, Int.toNat_of_nonneg (by omega)]⟩) (by simp [lock_eq, toN, ndec]))
    cases hs
   cases hs
  cases hs
 cases hs
theorem Z8c {t yt : TypeId} {x y : Operand} {x' : Opnd} {op : BinOp} {ne : Bool} {k : Nat} {d : TypeDesc} (ho : o.op = .binOp op t x y yt) (hb : neOf op = some ne) (ht : P.underlying t = some d)
  (hk3 : (k = 0 ∧ (∃ e, d = .pointer e) ∧ y = .const (.pointer none)) ∨ (k = 1 ∧ (∃ e, d = .slice e) ∧ y = .const (.slice none 0 0)) ∨ (k = 2 ∧ (∃ p r b, d = .func p r b) ∧ y = .const .nilFunc)) (hx : cX x = some x') : Snd P C Γ o (.isn k ne x') := fun PL s Fr a w Q fresh E h hfr hk hs hob => by
 have hnil : nilK y = true := by rcases hk3 with ⟨_, _, rfl⟩ | ⟨_, _, rfl⟩ | ⟨_, _, rfl⟩ <;> rfl
 have hd : (∃ e, d = .pointer e) ∨ (∃ e, d = .slice e) ∨ (∃ p r b, d = .func p r b) := by
  rcases hk3 with ⟨_, h1, _⟩ | ⟨_, h1, _⟩ | ⟨_, h1, _⟩
  ·exact .inl h1
  ·exact .inr (.inl h1)
  exact .inr (.inr h1)
 simp only [step] at hs
 split at hs
 ·rename_i v h1
  have d1 := Z4 h hx h1
  have run : ∀ b : Bool, ((b = true ∧ (a.eval x = .pointer none ∨ a.eval x = .nilFunc ∨ ∃ n c, a.eval x = .slice none n c)) ∨ (b = false ∧ ((∃ A, a.eval x = .pointer (some A)) ∨ (∃ A n c, a.eval x = .slice (some A) n c) ∨ ∃ f g c, a.eval x = .func f g c))) →
    (k = 0 → ∃ A, a.eval x = .pointer A) → (k = 1 → ∃ A n c, a.eval x = .slice A n c) → (k = 2 → a.eval x = .nilFunc ∨ ∃ f g c, a.eval x = .func f g c) → (execOp a.eval o).run P w = .ok (.value (.bool (negIf ne b))) w := by
   intro b hv c0 c1 c2
   have := Zvu (w := w) h ho hb hnil ht hd hv ?_ ?_ ?_
   ·cases ne <;> exact this
   ·rintro ⟨e, rfl⟩
    rcases hk3 with ⟨h1, _, h2⟩ | ⟨_, ⟨_, h1⟩, _⟩ | ⟨_, ⟨_, _, _, h1⟩, _⟩
    ·exact ⟨c0 h1, h2⟩
    ·cases h1
    cases h1
   ·rintro ⟨e, rfl⟩
    rcases hk3 with ⟨_, ⟨_, h1⟩, _⟩ | ⟨h1, _, h2⟩ | ⟨_, ⟨_, _, _, h1⟩, _⟩
    ·cases h1
    ·exact ⟨c1 h1, h2⟩
    cases h1
   rintro ⟨p, r, b, rfl⟩
   rcases hk3 with ⟨_, ⟨_, h1⟩, _⟩ | ⟨_, ⟨_, h1⟩, _⟩ | ⟨h1, _, h2⟩
   ·cases h1
   ·cases h1
   exact ⟨c2 h1, h2⟩
  split at hs
  ·rename_i b hnb
   injection hs with hs
   subst hs
   refine Z5 (frw _ _) (Z7 h (run b ?_ ?_ ?_ ?_) (.v _))
   all_goals (generalize hq : a.eval x = q at d1; unfold nilS at hnb; split at hnb <;> first | (injection hnb with hnb; subst hnb; cases d1) | (cases hnb))
   all_goals first
    | exact .inl ⟨rfl, .inl rfl⟩
    | exact .inr ⟨rfl, .inl ⟨_, rfl⟩⟩
    | exact .inl ⟨rfl, .inr (.inr ⟨_, _, rfl⟩)⟩
    | exact .inl ⟨rfl, .inr (.inl rfl)⟩
    | exact .inr ⟨rfl, .inr (.inr ⟨_, _, _, rfl⟩)⟩
    | exact fun _ => ⟨_, rfl⟩
    | exact fun _ => ⟨_, _, _, rfl⟩
    | exact fun _ => .inl rfl
    | exact fun _ => .inr ⟨_, _, _, rfl⟩
    | (intro hc; cases hc)
  split at hs
  ·cases hs
  ·cases hs
  ·rename_i v _ _ _ n hns hns2 hl hnil0
   injection hs with hs
   subst hs
   rcases Zj8 h.toHSat hl d1 with ⟨A, c, e⟩ | ⟨l, e, _⟩
   ·have hnn : A = none → n = 0 := by
     intro hA
     subst hA
     cases v with
     | wsl id =>
      simp only [lenS] at hl
      cases hro : rowOf s.hp id with
      | none => rw [hro] at hl; cases hl
      | some r =>
       rw [hro] at hl
       simp only [] at hl
       injection hl with hl
       obtain ⟨A', cap, e', _, hsome, _⟩ := Z1l (r := r) h.toHSat (by simpa [rowS] using hro) d1
       rw [e] at e'
       injection e' with e1 e2 e3
       subst e1
       rw [← hl, R.len_eq]
       by_cases h0 : 0 < rlen r
       ·simpa using hsome h0
       omega
     | sl id lo k' => exact absurd rfl (hns2 id lo k')
     | rsl r =>
      simp only [lenS] at hl
      injection hl with hl
      obtain ⟨A', cap, e', _, hsome, _⟩ := Z1l (r := r) h.toHSat rfl d1
      rw [e] at e'
      injection e' with e1 e2 e3
      subst e1
      rw [← hl, R.len_eq]
      by_cases h0 : 0 < rlen r
      ·simpa using hsome h0
      omega
     | nsl => simp only [lenS] at hl; injection hl with hl; exact hl.symm
     | str l => exact absurd rfl (hns l)
     | _ => simp [lenS] at hl
    refine Z5 (frw _ _) (Zuq h A.isNone (fun hA => hnn (by cases A with | none => rfl | some _ => cases hA)) (run A.isNone ?_ (fun hc => by cases hc) (fun _ => ⟨A, n, c, e⟩) (fun hc => by cases hc)) (.v _))
    rw [e]
    cases A with
    | none => exact .inl ⟨rfl, .inr (.inr ⟨_, _, rfl⟩)⟩
    | some A => exact .inr ⟨rfl, .inr (.inl ⟨_, _, _, rfl⟩)⟩
   exact absurd e (hns l)
  cases hs
 cases hs
theorem Zo1 {e : TypeId} {x y : Operand} (hA : App P o e x y) {x' y' : Opnd} {rk : RK} (hrk : rkOf P e = some rk) (hb : 0 < P.bytesOf e) (hx : cX x = some x') (hy : cX y = some y') : Snd P C Γ o (.app rk (P.bytesOf e) x' y') := fun PL s Fr a w Q fresh E h hfr hk hs hob => by
 obtain ⟨ti, z0, hi, hz0, hzv, hsz, h0, hT, hby⟩ := Z6d hrk
 simp only [step] at hs
 split at hs
 ·rename_i h1 h2
  injection hs with hs
  subst hs
  have d1 := Z4 h hx h1
  have d2 := Z4 h hy h2
  generalize hq : a.eval x = q at d1
  generalize hr : a.eval y = r at d2
  cases d1
  cases d2
  obtain ⟨t, ht, hrun⟩ := Z7r (P := P) (w := w) hA hq hr
  rw [Zdb ht hi none none 0 0 0 (Nat.le_refl _)] at hrun
  exact Z5 (frw _ _) (Z7 h hrun .nsl)
 ·rename_i id h1 h2
  split at hs
  ·rename_i r hro
   injection hs with hs
   subst hs
   have d1 := Z4 h hx h1
   have d2 := Z4 h hy h2
   generalize hr : a.eval y = r' at d2
   cases d2
   obtain ⟨A, cap, hq, hcap, _⟩ := Z1l (v := .wsl id) h.toHSat (by simpa [rowS] using hro) d1
   obtain ⟨t, ht, hrun⟩ := Z7r (P := P) (w := w) hA hq hr
   rw [Zdb ht hi A none (rlen r) cap 0 hcap] at hrun
   exact Z5 (frw _ _) (Z7 h hrun (hq ▸ d1))
  cases hs
 ·rename_i w' _ h1 h2
  split at hs
  ·rename_i q hq
   split at hs
   ·rename_i r hr
    injection hs with hs
    subst hs
    have ob := obl.1 (hob _ (List.mem_singleton.2 rfl))
    rw [R.len_eq] at ob
    obtain ⟨f1, f2, f3, f4, f5⟩ := Zrh hr
    have hemp : (rk.empty).app q = some r ∧ rlen rk.empty = 0 ∧ rk.empty.sz = rk.sz ∧ rk.empty.T = rk.T := by
     cases rk <;> cases q <;> simp only [RK.fit] at hr <;> try (cases hr; done)
     ·injection hr with hr; subst hr
      exact ⟨by simp [RK.empty, R.app, lock_eq, cat], rfl, rfl, rfl⟩
     ·split at hr
      ·rename_i hkk
       injection hr with hr; subst hr
       exact ⟨by simp [RK.empty, R.app, lock_eq, cat, hkk], rfl, rfl, rfl⟩
      cases hr
     split at hr
     ·rename_i hkk
      injection hr with hr; subst hr
      exact ⟨by simp [RK.empty, R.app, lock_eq, cat, hkk], rfl, rfl, rfl⟩
     cases hr
    exact Z5 (frn _ _) (Zln h (hfr fresh (Nat.le_refl _) (by omega)) (by omega) hA hrk hb hx hy (p := rk.empty) _ h1 (.inl ⟨rfl, hemp.2.1, hemp.2.2.1, hemp.2.2.2, rfl⟩) h2 hq hemp.1 (by rw [hemp.2.1]; simpa using ob))
   cases hs
  cases hs
 ·rename_i id w' _ h1 h2
  split at hs
  ·rename_i p q hp hq
   split at hs
   ·rename_i r hr
    split at hs
    ·cases hs
    rename_i hc
    rw [Bool.and_eq_true] at hc
    injection hs with hs
    subst hs
    have ob := obl.1 (hob _ (List.mem_singleton.2 rfl))
    rw [R.len_eq, R.len_eq] at ob
    exact Z5 (frn _ _) (Zln h (hfr fresh (Nat.le_refl _) (by omega)) (by omega) hA hrk hb hx hy _ h1 (.inr ⟨id, rfl, hp, rfl, (nbeq _ _).1 hc.1, (nbeq _ _).1 hc.2⟩) h2 hq hr ob)
   cases hs
  cases hs
 cases hs
theorem Zgq {PL : Nat → Option Pl} {s : St} {Fr : Nat → Prop} {a : Act} {w : World} (h : Sat C PL s Fr a w) {xs : List Operand} {ys : List Opnd} {vs : List SV} (hx : cXs xs = some ys) (hv : s.evs ys = some vs) : DensA PL w (Avo C PL s.hp) vs (xs.map a.eval) := by
 obtain ⟨l1, l2, l3⟩ := Zc5 h hx hv
 exact ⟨by simp [l2], l3⟩
theorem Zlb {f : FuncId} {fn : Func} (hf : P.funcs[f]? = some fn) (hn : (fn.name != "runtime.NumGoroutine") = true) (hb : fn.body.isSome = true) (args : Array Value) (w : World) : (callFunc f args).run P w = .ok (.enter f args) w := by
 have hn' : ¬ fn.name = "runtime.NumGoroutine" := by simpa using hn
 have hb' : fn.body ≠ none := by intro e; rw [e] at hb; cases hb
 simp [callFunc, hf, hn', hb']
theorem Zoa (hΓ : TabOK P Γ) {c : Call} {f : FuncId} {fn : Func} {ys : List Opnd} (ho : o.op = .call c) (hc : c.callee = .value (.func f)) (hf : P.funcs[f]? = some fn) (hn : (fn.name != "runtime.NumGoroutine") = true) (hb : fn.body.isSome = true) (hx : cXs c.args.toList = some ys) : Snd P C Γ o (.call f ys) := fun PL s Fr a w Q fresh E h hfr hk hs hob => by
 simp only [step] at hs
 split at hs
 ·rename_i vs hv
  refine Zlq hΓ h hfr hk hs hob (Zgq h hx hv) ?_
  have hargs : (c.args.toList.map a.eval).toArray = c.args.map a.eval := by rw [← Array.toList_map]
  rw [hargs]
  simp [execOp, ho, resolve, hc, Deferred.ofValue, Act.eval, invoke, Zlb hf hn hb]
 cases hs
theorem Zob (hΓ : TabOK P Γ) (hall : ∀ f con, Γ f = some con → ∃ fn, P.funcs[f]? = some fn ∧ (fn.name != "runtime.NumGoroutine") = true ∧ fn.body.isSome = true) {c : Call} {t : Tmp} {ys : List Opnd} (ho : o.op = .call c) (hc : c.callee = .value (.tmp t)) (hx : cXs c.args.toList = some ys) : Snd P C Γ o (.callv (.t t) ys) := fun PL s Fr a w Q fresh E h hfr hk hs hob => by
 simp only [step] at hs
 split at hs
 ·rename_i f caps vs h1 hv
  have d1 := Z4 h (x := .tmp t) rfl h1
  have d2 := Zgq h hx hv
  generalize hq : a.eval (.tmp t) = q at d1
  cases d1 with
  | fn _ _ cs hl hd =>
   have hcon : ∃ con, Γ f = some con := by
    unfold callS at hs
    cases hg : Γ f with
    | none => rw [hg] at hs; cases hs
    | some con => exact ⟨con, rfl⟩
   obtain ⟨con, hcon⟩ := hcon
   obtain ⟨fn, hf, hn, hb⟩ := hall f con hcon
   refine Zlq hΓ h hfr hk hs hob (args := c.args.toList.map a.eval ++ cs) ?_ ?_
   ·refine ⟨by simp [d2.1, hl], fun j b1 b2 => ?_⟩
    by_cases hj : j < vs.length
    ·have hj2 : j < (c.args.toList.map a.eval).length := by rw [d2.1]; exact hj
     simp only [List.getElem_append_left hj, List.getElem_append_left hj2]
     exact d2.2 j hj hj2
    have e := d2.1
    have g1 : vs.length ≤ j := by omega
    have g2 : (c.args.toList.map a.eval).length ≤ j := by omega
    simp only [List.getElem_append_right g1, List.getElem_append_right g2]
    have := hd (j - vs.length) (by simp at b1; omega) (by simp at b1; omega)
    simpa [e] using this
   have hargs : (c.args.toList.map a.eval ++ cs).toArray = c.args.map a.eval ++ cs.toArray := by
    rw [← List.append_toArray, ← Array.toList_map]
   rw [hargs]
   simp [execOp, ho, resolve, hc, hq, Deferred.ofValue, invoke, Zlb hf hn hb]
 cases hs
end
structure Tab (P : Program) (Γ : FuncId → Option Con) : Prop where
 ok : TabOK P Γ
 fn : ∀ f con, Γ f = some con → ∃ fn, P.funcs[f]? = some fn ∧ (fn.name != "runtime.NumGoroutine") = true ∧ fn.body.isSome = true
theorem Z6q {P : Program} {t : TypeId} (h : (P.cellsOf t != 0) = true) : P.cellsOf t ≠ 0 := by simpa using h
theorem Zge {P : Program} {C : Ctx} {Γ : FuncId → Option Con} (T : Tab P Γ) {o : Oper} {io : IOp} (h : cOp P o = some io) : Snd P C Γ o io := by
 unfold cOp at h
 cases ho : o.op with
 | move x =>
  simp only [ho, Option.map_eq_some_iff] at h
  obtain ⟨y, hy, rfl⟩ := h
  exact Zg2 (.inl ho) hy
 | assign x =>
  simp only [ho, Option.map_eq_some_iff] at h
  obtain ⟨y, hy, rfl⟩ := h
  exact Zg2 (.inr ho) hy
 | pick c x y =>
  simp only [ho] at h
  obtain ⟨c', x', y', hc, hx, hy, rfl⟩ := bind3 h
  exact Zp0 ho hc hx hy
 | binOp op t x y yt =>
  simp only [ho] at h
  split at h
  ·rename_i k hu
   split at h
   ·obtain ⟨x', y', hx, hy, rfl⟩ := bind2 h
    exact Zg3 (left := true) ho hx hy
   ·obtain ⟨x', y', hx, hy, rfl⟩ := bind2 h
    exact Zg3 (left := false) ho hx hy
   obtain ⟨b, x', y', hb, hx, hy, rfl⟩ := bind3 (f := fun b x y => IOp.ib b k x y) h
   exact Zok ho hb hx hy
  ·obtain ⟨b, x', y', hb, hx, hy, rfl⟩ := bind3 (f := fun b x y => IOp.sb b x y) h
   exact Zp3 ho hb hx hy
  ·rename_i hu
   obtain ⟨b, x', y', hb, hx, hy, rfl⟩ := bind3 (f := fun b x y => IOp.bb b x y) h
   exact Zo4 ho hb hu hx hy
  ·rename_i e hu
   split at h
   ·obtain ⟨b, x', hb, hx, rfl⟩ := bind2 (f := fun b x => IOp.isn 0 b x) h
    exact Z8c ho hb hu (.inl ⟨rfl, ⟨e, rfl⟩, rfl⟩) hx
   cases h
  ·rename_i e hu
   split at h
   ·obtain ⟨b, x', hb, hx, rfl⟩ := bind2 (f := fun b x => IOp.isn 1 b x) h
    exact Z8c ho hb hu (.inr (.inl ⟨rfl, ⟨e, rfl⟩, rfl⟩)) hx
   cases h
  ·rename_i p r v hu
   split at h
   ·obtain ⟨b, x', hb, hx, rfl⟩ := bind2 (f := fun b x => IOp.isn 2 b x) h
    exact Z8c ho hb hu (.inr (.inr ⟨rfl, ⟨p, r, v, rfl⟩, rfl⟩)) hx
   cases h
  ·rename_i fs hu
   split at h
   ·rename_i hc
    simp only [Bool.and_eq_true, Bool.not_eq_true'] at hc
    cases hks : flatKs P fs.toList 0 with
    | none => rw [hks] at h; simp at h
    | some ks =>
     rw [hks] at h
     obtain ⟨b, x', y', hb, hx, hy, rfl⟩ := bind3 (f := fun b x y => IOp.steq ks b x y) (by simpa using h)
     exact Zpa ho hb hu hc.1 hc.2 hks hx hy
   cases h
  cases h
 | unOp op t x =>
  simp only [ho] at h
  split at h
  ·simp only [Option.map_eq_some_iff] at h
   obtain ⟨y, hy, rfl⟩ := h
   exact Zo5 ho hy
  ·simp only [Option.map_eq_some_iff] at h
   obtain ⟨y, hy, rfl⟩ := h
   exact Zon ho hy
  ·simp only [Option.map_eq_some_iff] at h
   obtain ⟨y, hy, rfl⟩ := h
   exact Zol ho hy
  cases h
 | load t x =>
  simp only [ho] at h
  split at h
  ·rename_i ha
   obtain ⟨x', hx, rfl⟩ := bind1 (f := fun x => IOp.lda x (P.cellsOf t)) h
   exact Zop ho ha hx
  ·rename_i ha
   simp only [Option.map_eq_some_iff] at h
   obtain ⟨y, hy, rfl⟩ := h
   exact Zoo ho ha hy
  cases h
 | store t x v =>
  simp only [ho] at h
  split at h
  ·rename_i hc
   simp only [Bool.and_eq_true] at hc
   obtain ⟨x', y', hx, hy, rfl⟩ := bind2 (f := fun x y => IOp.st x y (P.cellsOf t)) h
   exact Zp9 ho (by simpa using hc.2) hc.1 hx hy
  cases h
 | nilCheck x =>
  simp only [ho, Option.map_eq_some_iff] at h
  obtain ⟨y, hy, rfl⟩ := h
  exact Zoc ho hy
 | fieldAddr t x f =>
  simp only [ho] at h
  split at h
  ·rename_i fs hu
   cases hg : fs[f]? with
   | none => rw [hg] at h; simp at h
   | some g =>
    rw [hg] at h
    simp only [Option.bind_eq_bind, Option.bind_some] at h
    split at h
    ·rename_i hz
     cases hx : cX x with
     | none => rw [hx] at h; simp at h
     | some x' =>
      rw [hx] at h
      simp at h
      subst h
      exact Zoi ho hu hg (Z6q hz) hx
    cases h
  cases h
 | indexAddr t x i =>
  simp only [ho] at h
  split at h
  ·rename_i e hu
   split at h
   ·rename_i hz
    obtain ⟨x', i', hx, hi, rfl⟩ := bind2 (f := fun x i => IOp.idx x i (P.cellsOf e)) h
    exact Zom ho hu (Z6q hz) hx hi
   cases h
  ·rename_i len e hu
   split at h
   ·rename_i g
    split at h
    ·rename_i r hg
     split at h
     ·rename_i hc
      simp only [Bool.and_eq_true, bne_iff_ne, ne_eq, beq_iff_eq] at hc
      obtain ⟨⟨⟨hz, hs⟩, hl⟩, h2⟩ := hc
      cases hi : cX i with
      | none => rw [hi] at h; simp at h
      | some i' =>
       rw [hi] at h
       simp at h
       subst h
       exact Zoj ho hu hz hi hg hs hl (Nat.le_of_ble_eq_true h2)
     cases h
    cases h
   cases h
  cases h
 | index t x i =>
  simp only [ho] at h
  split at h
  ·rename_i hu
   obtain ⟨x', i', hx, hi, rfl⟩ := bind2 h
   exact Zp4 ho hu hx hi
  cases h
 | sliceToArrayPointer t x =>
  simp only [ho] at h
  split at h
  ·rename_i n e hu
   split at h
   ·split at h
    ·rename_i hc
     simp only [Bool.and_eq_true] at hc
     simp only [Option.map_eq_some_iff] at h
     obtain ⟨y, hy, rfl⟩ := h
     exact Zp1 ho hu (Nat.le_of_ble_eq_true hc.2) hy
    cases h
   cases h
  cases h
 | extract x i =>
  simp only [ho, Option.map_eq_some_iff] at h
  obtain ⟨y, hy, rfl⟩ := h
  exact Zoh ho hy
 | field t x f =>
  simp only [ho] at h
  split at h
  ·rename_i fs hu
   cases hg : fs[f]? with
   | none => rw [hg] at h; simp at h
   | some g =>
    rw [hg] at h
    obtain ⟨x', b, hx, hb, rfl⟩ := bind2 (f := fun x b => IOp.part x g.offset (P.cellsOf g.type) b) (by simpa using h)
    exact Zoz ho hu hg hb hx
  cases h
 | convert s d x =>
  simp only [ho] at h
  split at h
  ·rename_i kk k hu hv
   simp only [Option.map_eq_some_iff] at h
   obtain ⟨y, hy, rfl⟩ := h
   exact Zoe ho hu hv hy
  ·rename_i hu hv
   simp only [Option.map_eq_some_iff] at h
   obtain ⟨y, hy, rfl⟩ := h
   exact Zp7 ho hu hv hy
  ·rename_i e hu hv
   split at h
   ·rename_i he
    simp only [Option.map_eq_some_iff] at h
    obtain ⟨y, hy, rfl⟩ := h
    exact Zp2 ho hu hv he hy
   cases h
  ·rename_i e hu hv
   split at h
   ·rename_i he
    simp only [Option.map_eq_some_iff] at h
    obtain ⟨y, hy, rfl⟩ := h
    exact Zo3 ho hu he hv hy
   cases h
  ·rename_i e _ hu hv
   split at h
   ·rename_i hsd he
    simp only [Option.map_eq_some_iff] at h
    obtain ⟨y, hy, rfl⟩ := h
    obtain rfl := LawfulBEq.eq_of_beq hsd
    exact Zog ho hu he hy
   cases h
  cases h
 | alloc t =>
  simp only [ho, Option.map_eq_some_iff] at h
  obtain ⟨y, hy, rfl⟩ := h
  exact Zoy ho hy
 | box t x =>
  simp only [ho] at h
  split at h
  ·simp only [Option.map_eq_some_iff] at h
   obtain ⟨y, hy, rfl⟩ := h
   exact Zo6 ho hy
  cases h
 | build t ps =>
  simp only [ho] at h
  split at h
  ·rename_i fs hu
   split at h
   ·rename_i hf
    obtain ⟨zs, ys, hz, hy, rfl⟩ := bind2 h
    exact Zo9 ho hu hz hy (List.all_eq_true.1 hf)
   cases h
  cases h
 | buildSlice t n ps =>
  simp only [ho] at h
  split at h
  ·rename_i e hu
   split at h
   ·split at h
    ·rename_i tm htm _ _ _ x z hps hz
     split at h
     ·rename_i hc
      obtain ⟨y, hy, rfl⟩ := Option.map_eq_some_iff.1 h
      obtain ⟨i, z', hi, hz', hcz⟩ := Z6i hz
      have hsz : z'.cells.size = 1 := by
       have := (Z4s (PL := fun _ => none) (w := default) (Av := fun _ => False) hcz).1
       simpa using this
      have hps' : ps = #[(0, x)] := by rw [← Array.toArray_toList (xs := ps), hps]
      have his : i.size = 1 := by
       have : P.cellsOf e = 1 := by simpa using hc
       rw [← this]; simp [Program.cellsOf, hi]
      exact Zo8 (by rw [ho, hps']) hu hi hz' his hsz hy
     cases h
    cases h
   cases hz : zeroOf P e with
   | none => rw [hz] at h; simp at h
   | some z =>
    rw [hz] at h
    simp only [Option.bind_eq_bind, Option.bind_some] at h
    split at h
    ·rename_i hc
     simp only [Bool.and_eq_true, decide_eq_true_eq] at hc
     obtain ⟨rk, ys, hrk, hy, rfl⟩ := bind2 (f := fun rk ys => IOp.bsl rk n (reps n z) ys) (by simpa using h)
     exact Zo7 ho hu hrk hz (by simpa using hc.1.1) hc.2 hy
    cases h
  cases h
 | slice t x lo hi mx =>
  simp only [ho] at h
  split at h
  ·rename_i hu
   obtain ⟨x', lo', hi', hx, hlo, hhi, rfl⟩ := bind3 h
   exact Zp8 ho hu hx hlo hhi
  ·rename_i e hu
   split at h
   ·rename_i hz
    obtain ⟨x', lo', hi', hx, hlo, hhi, rfl⟩ := bind3 (f := fun x lo hi => IOp.sls x lo hi (P.cellsOf e)) h
    exact Zp6 ho hu (Z6q hz) hx hlo hhi
   cases h
  ·rename_i n e hu
   split at h
   ·split at h
    ·rename_i hc
     simp only [Bool.and_eq_true, beq_iff_eq] at hc
     simp only [Option.map_eq_some_iff] at h
     obtain ⟨y, hy, rfl⟩ := h
     exact Zp5 ho hu hc.1.1 (Nat.le_of_ble_eq_true hc.1.2) (Nat.le_of_ble_eq_true hc.2) hy
    cases h
   cases h
  cases h
 | makeSlice t l c =>
  simp only [ho] at h
  split at h
  ·rename_i e hu
   split at h
   ·rename_i tm htm
    split at h
    ·rename_i z hz
     split at h
     ·rename_i hc
      simp only [Bool.and_eq_true] at hc
      obtain ⟨i, hi, hz⟩ := Option.bind_eq_some_iff.1 hz
      obtain ⟨x', y', hx, hy, rfl⟩ := bind2 (f := fun x y => IOp.mksd e tm (P.bytesOf e) x y) h
      refine Zot ho hu hi hz (Z82 hc.1.2) (by simpa using hc.1.1.2) (fun U u e => ?_) (Nat.pos_of_ne_zero (by simpa using hc.2)) hx hy
      have := hc.1.1.1
      subst e
      exact Nat.pos_of_ne_zero (by simpa [Tm.wsz] using this)
     cases h
    cases h
   obtain ⟨rk, x', y', hrk, hx, hy, rfl⟩ := bind3 (f := fun rk x y => IOp.mks rk (P.bytesOf e) x y) h
   exact Zos ho hu hrk hx hy
  cases h
 | makeFunc fn first caps =>
  cases fn with
  | func f =>
   simp only [ho] at h
   split at h
   ·rename_i hf
    obtain ⟨ys, hy, rfl⟩ := bind1 (f := fun y => IOp.mkfn f y) h
    exact Zoq ho (by simpa using hf) hy
   cases h
  | _ => simp only [ho] at h; cases h
 | call c =>
  simp only [ho] at h
  split at h
  ·rename_i hc
   split at h
   ·rename_i x y e d ha ht hd
    split at h
    ·rename_i hcond
     simp only [Bool.and_eq_true] at hcond
     obtain ⟨t, h0, hu⟩ := Option.bind_eq_some_iff.1 ht
     have hsz : c.argTypes.size = 2 := by simpa using hcond.1.1
     have h01 : c.argTypes[0]? = c.argTypes[1]? := LawfulBEq.eq_of_beq hcond.1.2
     have hat : c.argTypes = #[t, t] := by
      apply Array.ext'
      have e0 : c.argTypes.toList[0]? = some t := by simpa using h0
      have e1 : c.argTypes.toList[1]? = some t := by rw [h01] at h0; simpa using h0
      have hl : c.argTypes.toList.length = 2 := by simpa using hsz
      match hq : c.argTypes.toList, hl with
      | [p, q], _ => rw [hq] at e0 e1; simp at e0 e1; simp [e0, e1]
     have hbb : P.bytesOf e ≠ 0 := by simpa using hcond.2
     split at h
     ·rename_i tm htm
      split at h
      ·rename_i z hz
       split at h
       ·rename_i hc2
        simp only [Bool.and_eq_true, beq_iff_eq] at hc2
        obtain ⟨x', y', hx, hy, rfl⟩ := bind2 (f := fun x y => IOp.appd e tm (P.bytesOf e) x y) h
        obtain ⟨i, z', hi, hz', hcz⟩ := Z6i hz
        have hsz : z'.cells.size = 1 := by
         have := (Z4s (PL := fun _ => none) (w := default) (Av := fun _ => False) hcz).1
         simpa using this
        have his : i.size = 1 := by
         rw [← hc2.1]; simp [Program.cellsOf, hi]
        exact Zo2 ⟨c, t, ho, hc, ha, hat, hu⟩ hi hz' his hsz (by omega) hc2.2 hx hy
       cases h
      cases h
     obtain ⟨rk, x', y', hrk, hx, hy, rfl⟩ := bind3 (f := fun rk x y => IOp.app rk (P.bytesOf e) x y) h
     exact Zo1 ⟨c, t, ho, hc, ha, hat, hu⟩ hrk (by omega) hx hy
    cases h
   cases h
  ·rename_i hc
   split at h
   ·rename_i x y e ha ht
    split at h
    ·rename_i hz
     obtain ⟨x', y', hx, hy, rfl⟩ := bind2 (f := fun x y => IOp.copy x y (P.cellsOf e)) h
     obtain ⟨t, h0, hu⟩ := Option.bind_eq_some_iff.1 ht
     exact Zof ⟨c, t, ho, hc, ha, h0, hu⟩ (Z6q hz) hx hy
    cases h
   cases h
  ·rename_i hc
   split at h
   ·rename_i x e ha ht
    simp only [Option.map_eq_some_iff] at h
    obtain ⟨y, hy, rfl⟩ := h
    obtain ⟨t, h0, hu⟩ := Option.bind_eq_some_iff.1 ht
    exact Zg1 ho hc ha h0 (.inl ⟨rfl, e, hu⟩) hy
   ·rename_i x ha ht
    simp only [Option.map_eq_some_iff] at h
    obtain ⟨y, hy, rfl⟩ := h
    obtain ⟨t, h0, hu⟩ := Option.bind_eq_some_iff.1 ht
    exact Zg1 ho hc ha h0 (.inr ⟨rfl, hu⟩) hy
   cases h
  ·rename_i hc
   split at h
   ·rename_i x y ha
    obtain ⟨x', y', hx, hy, rfl⟩ := bind2 h
    exact Zox ho hc ha hx hy
   cases h
  ·rename_i hc
   split at h
   ·rename_i x y ha
    obtain ⟨x', y', hx, hy, rfl⟩ := bind2 h
    exact Zou ho hc ha hx hy
   cases h
  ·rename_i hc
   split at h
   ·rename_i x e ha ht
    obtain ⟨rk, x', hrk, hx, rfl⟩ := bind2 h
    obtain ⟨t, h0, hu⟩ := Option.bind_eq_some_iff.1 ht
    exact Zod ho hc ha h0 hu hrk hx
   cases h
  ·rename_i f hc
   split at h
   ·rename_i fn hf
    split at h
    ·rename_i hcond
     simp only [Bool.and_eq_true] at hcond
     simp only [Option.map_eq_some_iff] at h
     obtain ⟨ys, hy, rfl⟩ := h
     exact Zoa T.ok ho hc hf hcond.1 hcond.2 hy
    cases h
   cases h
  ·rename_i t hc
   simp only [Option.map_eq_some_iff] at h
   obtain ⟨ys, hy, rfl⟩ := h
   exact Zob T.ok T.fn ho hc hy
  cases h
 | makeMap t r =>
  cases r with
  | none =>
   simp only [ho] at h
   obtain ⟨u, hu, rfl⟩ := Option.map_eq_some_iff.1 h
   exact Zor ho
  | some r => simp only [ho] at h; cases h
 | mapUpdate t m k v =>
  simp only [ho] at h
  split at h
  ·rename_i u hu
   split at h
   ·rename_i hd
    obtain ⟨x', y', z', hx, hy, hz, rfl⟩ := bind3 (f := fun x y z => IOp.mpu u x y z) h
    exact Zow (Zjj hu) ho (by simpa using hd) hx hy hz
   cases h
  cases h
 | lookup t m k ok =>
  simp only [ho] at h
  split at h
  ·rename_i u hu
   obtain ⟨x', y', hx, hy, rfl⟩ := bind2 (f := fun x y => IOp.mpg u ok x y) h
   exact Zov (Zjj hu) ho hx hy
  cases h
 | _ => simp only [ho] at h; cases h
end Go.Proofs.Ytojbpjcfdjakkaa
end
