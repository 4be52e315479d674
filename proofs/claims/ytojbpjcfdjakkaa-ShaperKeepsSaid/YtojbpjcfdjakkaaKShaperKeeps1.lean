/-
  Texts that the row of this claim stands on, one behind the other.
-/
import Derived.WalkKit
import Derived.Laws.CopyRow
import Derived.Laws.AppendOwn
import Derived.Below
import Derived.WalkLawsBesides
import Derived.Lib.ConvBytes
import Derived.Laws.BytesString
import Derived.Laws.MakeOwn
section
set_option linter.unusedVariables false
namespace Go.Proofs.Ytojbpjcfdjakkaa
theorem lk.{u} {α : Sort u} (a : α) : ∃ b, b = a := ⟨a, rfl⟩
noncomputable def lock.{u} {α : Sort u} (a : α) : α := Classical.choose (lk a)
theorem lock_eq.{u} {α : Sort u} (a : α) : lock a = a := Classical.choose_spec (lk a)
theorem choice_lk.{u} {α : Sort u} {a : α} (h : Nonempty {b // b = a}) : (Classical.choice h).1 = a := (Classical.choice h).2
def Obl (p : Unit → Prop) : Prop := p ()
theorem obl {p : Prop} : lock Obl (fun _ => p) ↔ p := by rw [lock_eq]; exact Iff.rfl
inductive D where
 | i (x : Int) | b (x : Bool) | s (x : List UInt8) | is (x : List Int) | l (x : List D)
 deriving Inhabited
def D.toI : D → Int | .i x => x | _ => 0
def D.toB : D → Bool | .b x => x | _ => false
def D.toS : D → List UInt8 | .s x => x | _ => []
def D.toIs : D → List Int | .is x => x | _ => []
def D.toL : D → List D | .l x => x | _ => []
def D.fld (d : D) (j : Nat) : D := d.toL.getD j (.i 0)
inductive Ty where
 | int (k : IntKind) | bool | str
 | bytes (T : TypeId)
 | ints (T : TypeId) (k : IntKind)
 | row (T : TypeId) (e : Ty)
 | st (fs : List Ty)
 | self (T : TypeId)
 | u8s (n : Nat)
def tyFind : List (Nat × Ty) → Nat → Option Ty
 | [], _ => none
 | (j, t) :: l, T => match Nat.beq T j with | true => some t | false => tyFind l T
def tyEnv (T : TypeId) : Ty := match tyFind [] T with | some t => t | none => .bool
def tySelf (T : TypeId) : Bool := match tyFind [] T with | some _ => true | none => false
mutual
def Ty.size : Ty → Nat
 | .st fs => Ty.sizes fs
 | .int _ => 1 | .bool => 1 | .str => 1 | .bytes _ => 1 | .ints _ _ => 1 | .row _ _ => 1 | .self _ => 1 | .u8s n => n
def Ty.sizes : List Ty → Nat
 | [] => 0
 | t :: ts => t.size + Ty.sizes ts
end
inductive R where
 | bs (T : TypeId) (l : List UInt8)
 | ints (T : TypeId) (k : IntKind) (l : List Int)
 | row (T : TypeId) (e : Ty) (l : List D)
inductive SV where
 | v (x : Value)
 | str (l : List UInt8)
 | ptr (id off : Nat)
 | ept (id i off : Nat)
 | esl (id i : Nat)
 | rpt (r : R) (i off : Nat)
 | sl (id lo len : Nat)
 | wsl (id : Nat)
 | rsl (r : R)
 | nsl
 | agg (l : List SV)
 | tup (l : List SV)
 | fn (f : FuncId) (caps : List SV)
 | mpv (id : Nat)
inductive Tm where
 | v (t : Ty)
 | p (T : TypeId) (fs : List Tm)
 | w (T : TypeId) (e : Ty)
def Tm.size : Tm → Nat
 | .v t => t.size | .p _ _ => 1 | .w _ _ => 1
inductive Ck where
 | blk (T : TypeId) (vs : List SV)
 | row (r : R)
 | prow (T : TypeId) (tm : Tm) (n : Nat) (g : Nat)
 | gho (tm : Tm) (l : List D) (o : Option (Nat × List SV))
 | mp (t : Ty) (l : List D)
def xlen {α : Type} (l : List α) : Nat := l.length
def ofN (n : Nat) : Int := n
def toN (x : Int) : Nat := x.toNat
def getB (l : List UInt8) (i : Nat) : Int := (l.getD i 0).toNat
def getI (l : List Int) (i : Nat) : Int := l.getD i 0
def getD (l : List D) (i : Nat) : D := l.getD i (.i 0)
def byteOf (x : Int) : UInt8 := UInt8.ofNat x.toNat
def setB (l : List UInt8) (i : Nat) (x : Int) : List UInt8 := l.set i (UInt8.ofNat x.toNat)
def setI (l : List Int) (i : Nat) (x : Int) : List Int := l.set i x
def setD (l : List D) (i : Nat) (x : D) : List D := l.set i x
def cat {α : Type} (a b : List α) : List α := a ++ b
def lsub {α : Type} (l : List α) (lo n : Nat) : List α := (l.drop lo).take n
def lspl {α : Type} (l : List α) (lo : Nat) (m : List α) : List α := l.take lo ++ m ++ l.drop (lo + m.length)
def lrep {α : Type} (n : Nat) (x : α) : List α := List.replicate n x
def iadd (k : IntKind) (a b : Int) : Int := k.wrap (a + b)
def isub (k : IntKind) (a b : Int) : Int := k.wrap (a - b)
def imul (k : IntKind) (a b : Int) : Int := k.wrap (a * b)
def iquo (k : IntKind) (a b : Int) : Int := k.wrap (a.tdiv b)
def irem (a b : Int) : Int := a.tmod b
def ishl (k : IntKind) (a b : Int) : Int := k.wrap (a * 2 ^ (min b.toNat k.bits))
def ishr (k : IntKind) (a b : Int) : Int := a.fdiv (2 ^ (min b.toNat k.bits))
def iand (k : IntKind) (a b : Int) : Int := k.wrap (BitVec.ofInt k.bits a &&& BitVec.ofInt k.bits b).toNat
def ior (k : IntKind) (a b : Int) : Int := k.wrap (BitVec.ofInt k.bits a ||| BitVec.ofInt k.bits b).toNat
def ixor (k : IntKind) (a b : Int) : Int := k.wrap (BitVec.ofInt k.bits a ^^^ BitVec.ofInt k.bits b).toNat
def iandn (k : IntKind) (a b : Int) : Int := k.wrap (BitVec.ofInt k.bits a &&& ~~~BitVec.ofInt k.bits b).toNat
def iconv (k : IntKind) (a : Int) : Int := k.wrap a
def ieq (a b : Int) : Bool := a == b
def ilt (a b : Int) : Bool := decide (a < b)
def ile (a b : Int) : Bool := decide (a ≤ b)
def imax (a b : Int) : Int := if b > a then b else a
def imin (a b : Int) : Int := if b < a then b else a
def cpA (n : Nat) (d : D) (l : List UInt8) : D := .l ((List.range n).map fun j => if j < l.length then .i (l.getD j 0).toNat else d.fld j)
def arrD (l : List UInt8) : D := .l (l.map fun b => .i b.toNat)
def seq (a b : List UInt8) : Bool := a == b
def slt (a b : List UInt8) : Bool := Op.bytesLess a b
def beq2 (a b : Bool) : Bool := a == b
def band (a b : Bool) : Bool := a && b
def mfind (k : List UInt8) : List D → Option D
 | [] => none
 | d :: l => match (d.fld 0).toS == k with | true => some (d.fld 1) | false => mfind k l
def mhas (l : List D) (k : List UInt8) : Bool := (mfind k l).isSome
def mval (z : D) (l : List D) (k : List UInt8) : D := (mfind k l).getD z
def mput (l : List D) (k : List UInt8) (x : D) : List D := match l with
 | [] => [.l [.s k, x]]
 | d :: l => match (d.fld 0).toS == k with | true => .l [.s k, x] :: l | false => d :: mput l k x
def ndec (n : Nat) (m : Nat) : Nat := n - m
def nadd (n : Nat) (m : Nat) : Nat := n + m
def nmin (n : Nat) (m : Nat) : Nat := min n m
def allU8 : List Int → Prop
 | [] => True
 | x :: l => (0 ≤ x ∧ x < 256) ∧ allU8 l
def allU8D : ∀ l : List Int, Decidable (allU8 l)
 | [] => .isTrue trivial
 | x :: l => match (inferInstance : Decidable (0 ≤ x ∧ x < 256)), allU8D l with
  | .isTrue h, .isTrue k => .isTrue ⟨h, k⟩
  | .isFalse h, _ => .isFalse fun k => h k.1
  | _, .isFalse h => .isFalse fun k => h k.2
instance (l : List Int) : Decidable (allU8 l) := allU8D l
def bsL : List Int → List UInt8
 | [] => []
 | x :: l => byteOf x :: bsL l
def bnot : Bool → Bool | true => false | false => true
def negIf : Bool → Bool → Bool | true, b => bnot b | false, b => b
noncomputable def shK : Bool → IntKind → Int → Int → Int | true, k, a, b => lock ishl k a b | false, k, a, b => lock ishr k a b
noncomputable def u8v : Nat → D → Nat → List SV
 | 0, _, _ => []
 | n + 1, d, j => .v (.int .u8 (lock D.toI (lock D.fld d j))) :: u8v n d (j + 1)
mutual
noncomputable def Ty.leaves : Ty → D → List SV
 | .int k, d => [.v (.int k (lock D.toI d))]
 | .bool, d => [.v (.bool (lock D.toB d))]
 | .str, d => [.str (lock D.toS d)]
 | .bytes T, d => [.rsl (.bs T (lock D.toS d))]
 | .ints T k, d => [.rsl (.ints T k (lock D.toIs d))]
 | .row T e, d => [.rsl (.row T e (lock D.toL d))]
 | .st fs, d => Ty.leavesL fs d 0
 | .self T, d => [.rsl (.row T (tyEnv T) (lock D.toL d))]
 | .u8s n, d => u8v n d 0
noncomputable def Ty.leavesL : List Ty → D → Nat → List SV
 | [], _, _ => []
 | t :: ts, d, j => t.leaves (lock D.fld d j) ++ Ty.leavesL ts d (j + 1)
end
def Ty.isSt : Ty → Bool
 | .st _ => true
 | _ => false
mutual
def Ty.eq : Ty → Ty → Bool
 | .int k, .int j => k == j
 | .bool, .bool => true
 | .str, .str => true
 | .bytes T, .bytes U => T == U
 | .ints T k, .ints U j => T == U && k == j
 | .row T e, .row U f => T == U && e.eq f
 | .st a, .st b => Ty.eqL a b
 | .self T, .self U => T == U
 | .u8s n, .u8s m => Nat.beq n m
 | _, _ => false
def Ty.eqL : List Ty → List Ty → Bool
 | [], [] => true
 | a :: as, b :: bs => a.eq b && Ty.eqL as bs
 | _, _ => false
end
def mkB : Nat → List SV → Option (List D × List SV)
 | 0, l => some ([], l)
 | n + 1, .v (.int .u8 x) :: l => match mkB n l with
  | some (ds, r) => some (.i x :: ds, r)
  | none => none
 | _ + 1, _ => none
mutual
def Ty.mk : Ty → List SV → Option (D × List SV)
 | .int k, .v (.int j x) :: t => match k == j with | true => some (.i x, t) | false => none
 | .bool, .v (.bool x) :: t => some (.b x, t)
 | .str, .str x :: t => some (.s x, t)
 | .bytes T, .rsl (.bs U x) :: t => match T == U with | true => some (.s x, t) | false => none
 | .bytes _, .nsl :: t => some (.s [], t)
 | .ints T k, .rsl (.ints U j x) :: t => match T == U && k == j with | true => some (.is x, t) | false => none
 | .ints _ _, .nsl :: t => some (.is [], t)
 | .row T e, .rsl (.row U f x) :: t => match T == U && e.eq f with | true => some (.l x, t) | false => none
 | .row _ _, .nsl :: t => some (.l [], t)
 | .st fs, l => match Ty.mkL fs l with | some (ds, t) => some (.l ds, t) | none => none
 | .self T, .rsl (.row U f x) :: t => match T == U && (tyEnv T).eq f with | true => some (.l x, t) | false => none
 | .self _, .nsl :: t => some (.l [], t)
 | .u8s n, l => match mkB n l with | some (ds, t) => some (.l ds, t) | none => none
 | _, _ => none
def Ty.mkL : List Ty → List SV → Option (List D × List SV)
 | [], l => some ([], l)
 | t :: ts, l => match t.mk l with
  | some (d, l') => match Ty.mkL ts l' with
   | some (ds, l'') => some (d :: ds, l'')
   | none => none
  | none => none
end
noncomputable def R.len : R → Nat
 | .bs _ l => lock (@xlen UInt8) l
 | .ints _ _ l => lock (@xlen Int) l
 | .row _ _ l => lock (@xlen D) l
def R.T : R → TypeId
 | .bs T _ => T
 | .ints T _ _ => T
 | .row T _ _ => T
def R.sz : R → Nat
 | .bs _ _ => 1
 | .ints _ _ _ => 1
 | .row _ e _ => e.size
noncomputable def R.elem : R → Nat → List SV
 | .bs _ l, i => [.v (.int .u8 (lock getB l i))]
 | .ints _ k l, i => [.v (.int k (lock getI l i))]
 | .row _ e l, i => e.leaves (lock getD l i)
noncomputable def R.sub : R → Nat → Nat → R
 | .bs T l, lo, n => .bs T (lock (@lsub UInt8) l lo n)
 | .ints T k l, lo, n => .ints T k (lock (@lsub Int) l lo n)
 | .row T e l, lo, n => .row T e (lock (@lsub D) l lo n)
noncomputable def R.app : R → R → Option R
 | .bs T a, .bs _ b => some (.bs T (lock (@cat UInt8) a b))
 | .ints T k a, .ints _ j b => match k == j with | true => some (.ints T k (lock (@cat Int) a b)) | false => none
 | .row T e a, .row _ f b => match e.eq f with | true => some (.row T e (lock (@cat D) a b)) | false => none
 | _, _ => none
noncomputable def R.splice : R → Nat → R → Option R
 | .bs T a, lo, .bs _ b => some (.bs T (lock (@lspl UInt8) a lo b))
 | .ints T k a, lo, .ints _ j b => match k == j with | true => some (.ints T k (lock (@lspl Int) a lo b)) | false => none
 | .row T e a, lo, .row _ f b => match e.eq f with | true => some (.row T e (lock (@lspl D) a lo b)) | false => none
 | _, _, _ => none
noncomputable def R.put : R → Nat → Nat → List SV → Option (List Prop × R)
 | .bs T l, i, 0, [.v (.int .u8 x)] => some ([lock Obl fun _ => 0 ≤ x ∧ x < 256], .bs T (lock setB l i x))
 | .ints T k l, i, 0, [.v (.int j x)] => match k == j with | true => some ([], .ints T k (lock setI l i x)) | false => none
 | .row T e l, i, off, vs => match e.mk (lspl (e.leaves (lock getD l i)) off vs) with
  | some (d, []) => some ([], .row T e (lock setD l i d))
  | _ => none
 | _, _, _, _ => none
inductive RK where
 | bs (T : TypeId) | ints (T : TypeId) (k : IntKind) | row (T : TypeId) (e : Ty)
def RK.T : RK → TypeId
 | .bs T => T | .ints T _ => T | .row T _ => T
def RK.sz : RK → Nat
 | .bs _ => 1 | .ints _ _ => 1 | .row _ e => e.size
mutual
def Ty.zero : Ty → D
 | .int _ => .i 0 | .bool => .b false | .str => .s [] | .bytes _ => .s [] | .ints _ _ => .is [] | .row _ _ => .l [] | .self _ => .l [] | .u8s n => .l (List.replicate n (.i 0))
 | .st fs => .l (Ty.zeros fs)
def Ty.zeros : List Ty → List D
 | [] => []
 | t :: ts => t.zero :: Ty.zeros ts
end
noncomputable def RK.rep : RK → Nat → R
 | .bs T, n => .bs T (lock (@lrep UInt8) n 0)
 | .ints T k, n => .ints T k (lock (@lrep Int) n 0)
 | .row T e, n => .row T e (lock (@lrep D) n e.zero)
mutual
def Tm.zero : Tm → D
 | .v t => t.zero | .p _ fs => .l (Tm.zeros fs) | .w _ _ => .l []
def Tm.zeros : List Tm → List D
 | [] => []
 | t :: ts => t.zero :: Tm.zeros ts
end
def Tm.nils : Tm → Bool
 | .w _ _ => true
 | _ => false
mutual
def Tm.eq : Tm → Tm → Bool
 | .v t, .v u => t.eq u
 | .p T fs, .p U gs => Nat.beq T U && Tm.eqL fs gs
 | .w T e, .w U f => Nat.beq T U && e.eq f
 | _, _ => false
def Tm.eqL : List Tm → List Tm → Bool
 | [], [] => true
 | a :: as, b :: bs => a.eq b && Tm.eqL as bs
 | _, _ => false
end
mutual
def Ty.zvals : Ty → List Value
 | .int k => [.int k 0] | .bool => [.bool false] | .str => [.string ⟨#[]⟩] | .bytes _ => [.slice none 0 0] | .ints _ _ => [.slice none 0 0] | .row _ _ => [.slice none 0 0] | .self _ => [.slice none 0 0] | .u8s n => List.replicate n (.int .u8 0)
 | .st fs => Ty.zvalsL fs
def Ty.zvalsL : List Ty → List Value
 | [] => []
 | t :: ts => t.zvals ++ Ty.zvalsL ts
end
def RK.zvals : RK → List Value
 | .bs _ => [.int .u8 0] | .ints _ k => [.int k 0] | .row _ e => e.zvals
def RK.empty : RK → R
 | .bs T => .bs T []
 | .ints T k => .ints T k []
 | .row T e => .row T e []
def RK.fit : RK → R → Option R
 | .bs T, .bs _ l => some (.bs T l)
 | .ints T k, .ints _ j l => match k == j with | true => some (.ints T k l) | false => none
 | .row T e, .row _ f l => match e.eq f with | true => some (.row T e l) | false => none
 | _, _ => none
noncomputable def RK.of : RK → Nat → List SV → Option (List Prop × R)
 | .bs T, 0, [] => some ([], .bs T [])
 | .bs T, n + 1, .v (.int .u8 x) :: t => match RK.of (.bs T) n t with
  | some (ps, .bs _ l) => some ((lock Obl fun _ => 0 ≤ x ∧ x < 256) :: ps, .bs T (lock byteOf x :: l))
  | _ => none
 | .ints T k, 0, [] => some ([], .ints T k [])
 | .ints T k, n + 1, .v (.int j x) :: t => match k == j with
  | true => match RK.of (.ints T k) n t with
   | some (ps, .ints _ _ l) => some (ps, .ints T k (x :: l))
   | _ => none
  | false => none
 | .row T e, 0, [] => some ([], .row T e [])
 | .row T e, n + 1, l => match e.mk l with
  | some (d, t) => match RK.of (.row T e) n t with
   | some (ps, .row _ _ ds) => some (ps, .row T e (d :: ds))
   | _ => none
  | none => none
 | _, _, _ => none
inductive Opnd where
 | t (n : Nat) | k (v : SV) | f (f : FuncId)
inductive BK where
 | add | sub | mul | quo | rem | and | or | xor | andn | eq | ne | lt | le | gt | ge
inductive SK where
 | add | eq | ne | lt | le | gt | ge
inductive IOp where
 | mv (x : Opnd)
 | pick (c a b : Opnd)
 | ib (op : BK) (k : IntKind) (x y : Opnd)
 | sh (left : Bool) (k : IntKind) (x y : Opnd)
 | sb (op : SK) (x y : Opnd)
 | bb (ne : Bool) (x y : Opnd)
 | isn (kind : Nat) (ne : Bool) (x : Opnd)
 | steq (ks : List Nat) (ne : Bool) (x y : Opnd)
 | bnot (x : Opnd)
 | ineg (k : IntKind) (x : Opnd)
 | icom (k : IntKind) (x : Opnd)
 | fld (x : Opnd) (off : Nat)
 | idx (x i : Opnd) (sz : Nat)
 | sidx (x i : Opnd)
 | ld (x : Opnd)
 | lda (x : Opnd) (n : Nat)
 | st (x v : Opnd) (n : Nat)
 | chk (x : Opnd)
 | ext (x : Opnd) (i : Nat)
 | part (x : Opnd) (off n : Nat) (agg : Bool)
 | conv (k : IntKind) (x : Opnd)
 | smv (x : Opnd)
 | gix (g : Nat) (x : Opnd)
 | cvs (x : Opnd)
 | s2a (T : TypeId) (n : Nat) (x : Opnd)
 | sla (n : Nat) (x : Opnd)
 | s2b (T : TypeId) (x : Opnd)
 | b2s (x : Opnd)
 | box (T : TypeId) (n : Nat) (x : Opnd)
 | new (T : TypeId) (zs : List SV)
 | build (zs : List SV) (parts : List (Nat × Nat × Opnd))
 | bsl (rk : RK) (n : Nat) (zs : List SV) (parts : List (Nat × Nat × Opnd))
 | ssl (x : Opnd) (lo hi : Option Opnd)
 | sls (x : Opnd) (lo hi : Option Opnd) (sz : Nat)
 | mks (rk : RK) (bytes : Nat) (len cap : Opnd)
 | app (rk : RK) (bytes : Nat) (s x : Opnd)
 | copy (s x : Opnd) (sz : Nat)
 | len (str : Bool) (x : Opnd)
 | mx (x y : Opnd)
 | mn (x y : Opnd)
 | clear (rk : RK) (x : Opnd)
 | mkfn (f : FuncId) (caps : List Opnd)
 | call (f : FuncId) (args : List Opnd)
 | callv (f : Opnd) (args : List Opnd)
 | mksd (T : TypeId) (tm : Tm) (bytes : Nat) (len cap : Opnd)
 | appd (T : TypeId) (tm : Tm) (bytes : Nat) (s x : Opnd)
 | bsld (T : TypeId) (tm : Tm) (x : Opnd)
 | mkm (t : Ty)
 | mpu (t : Ty) (m k v : Opnd)
 | mpg (t : Ty) (ok : Bool) (m k : Opnd)
structure Io where
 dst : Option Nat
 g : Option (Nat × Bool)
 pre : List Nat
 op : IOp
inductive IC where
 | skip | ret | bad
 | exit (id : Nat)
 | reg (draw : Bool) (ops : List Io)
 | seq (a b : IC)
 | cond (x : Opnd) (a b : IC)
 | block (id : Nat) (c : IC)
 | loop (c : IC)
 | rfn (x : Opnd) (ps : List Nat) (asg body : IC)
structure St where
 fr : List (Option SV)
 hp : List (Nat × Ck)
 nx : Nat
def fget : List (Option SV) → Nat → Option SV
 | [], _ => none
 | x :: _, 0 => x
 | _ :: l, n + 1 => fget l n
def fput : List (Option SV) → Nat → Option SV → List (Option SV)
 | [], _, _ => []
 | _ :: l, 0, a => a :: l
 | x :: l, n + 1, a => x :: fput l n a
def hget : List (Nat × Ck) → Nat → Option Ck
 | [], _ => none
 | (j, c) :: l, i => match Nat.beq i j with | true => some c | false => hget l i
def hdel : List (Nat × Ck) → Nat → List (Nat × Ck)
 | [], _ => []
 | (j, c) :: l, i => match Nat.beq i j with | true => hdel l i | false => (j, c) :: hdel l i
def hput : List (Nat × Ck) → Nat → Ck → List (Nat × Ck)
 | [], i, c => [(i, c)]
 | (j, d) :: l, i, c => match Nat.beq i j with | true => (j, c) :: l | false => (j, d) :: hput l i c
def hupd : List (Nat × Option Ck) → List (Nat × Ck) → List (Nat × Ck)
 | [], h => h
 | (i, some c) :: l, h => hupd l (hput h i c)
 | (i, none) :: l, h => hupd l (hdel h i)
mutual
noncomputable def Tm.opn : Tm → D → Nat → List SV × List (Nat × Ck) × Nat
 | .v t, d, n => (t.leaves d, [], n)
 | .p T fs, d, n => match Tm.opns fs d 0 (n + 1) with | (vs, cs, m) => ([.ptr n 0], (n, .blk T vs) :: cs, m)
 | .w T e, d, n => ([.wsl n], [(n, .row (.row T e (lock D.toL d)))], n + 1)
noncomputable def Tm.opns : List Tm → D → Nat → Nat → List SV × List (Nat × Ck) × Nat
 | [], _, _, n => ([], [], n)
 | t :: ts, d, j, n => match t.opn (lock D.fld d j) n with
  | (v1, c1, m1) => match Tm.opns ts d (j + 1) m1 with
   | (v2, c2, m2) => (v1 ++ v2, c1 ++ c2, m2)
end
mutual
noncomputable def Tm.sht (h : List (Nat × Ck)) : Tm → List SV → Option (D × List SV × List Nat)
 | .v t, vs => match t.mk vs with | some (d, r) => some (d, r, []) | none => none
 | .p T fs, .ptr id 0 :: vs => match hget h id with
  | some (.blk U cs) => match Nat.beq T U with
   | true => (match Tm.shts h fs cs with
    | some (ds, [], ids) => some (.l ds, vs, id :: ids)
    | _ => none)
   | false => none
  | _ => none
 | .w T e, .wsl id :: vs => match hget h id with
  | some (.row (.row U f l)) => match Nat.beq T U && e.eq f with
   | true => some (.l l, vs, [id])
   | false => none
  | _ => none
 | .w _ e, .nsl :: vs => match Nat.ble 1 e.size with | true => some (.l [], vs, []) | false => none
 | _, _ => none
noncomputable def Tm.shts (h : List (Nat × Ck)) : List Tm → List SV → Option (List D × List SV × List Nat)
 | [], vs => some ([], vs, [])
 | t :: ts, vs => match t.sht h vs with
  | some (d, r, i1) => match Tm.shts h ts r with
   | some (ds, r2, i2) => some (d :: ds, r2, i1 ++ i2)
   | none => none
  | none => none
end
def St.ev (s : St) : Opnd → Option SV
 | .t n => fget s.fr n
 | .k v => some v
 | .f f => some (.fn f [])
def St.evs (s : St) : List Opnd → Option (List SV)
 | [] => some []
 | x :: xs => match s.ev x with
  | some v => match s.evs xs with
   | some vs => some (v :: vs)
   | none => none
  | none => none
inductive Out : Type 1 where
 | one (v : SV) (upd : List (Nat × Option Ck))
 | many (X : Type) (P : X → Prop) (v : X → SV) (upd : X → List (Nat × Option Ck))
structure Eff : Type 1 where
 ob : List Prop
 rd : List Nat
 wr : List Nat
 out : Out
def Eff.pure (v : SV) : Eff := ⟨[], [], [], .one v []⟩
def Eff.pureOb (p : Prop) (v : SV) : Eff := ⟨[p], [], [], .one v []⟩
def globs : List (Nat × R) := []
def R.glen : R → Nat
 | .bs _ l => l.length
 | .ints _ _ l => l.length
 | .row _ _ l => l.length
def gfind : List (Nat × R) → Nat → Option R
 | [], _ => none
 | (j, r) :: l, g => match Nat.beq g j with | true => some r | false => gfind l g
theorem Zh7 : ∀ {l : List (Nat × R)} {g : Nat} {r : R}, gfind l g = some r → (g, r) ∈ l
 | (j, q) :: l, g, r, h => by
  unfold gfind at h
  cases hb : Nat.beq g j with
  | true => rw [hb] at h; injection h with h; rw [h, Nat.eq_of_beq_eq_true hb]; exact List.mem_cons_self
  | false => rw [hb] at h; exact List.mem_cons_of_mem _ (Zh7 h)
mutual
def SV.ids : SV → List Nat
 | .ptr id _ => [id]
 | .ept id _ _ => [id]
 | .esl id _ => [id]
 | .sl id _ _ => [id]
 | .wsl id => [id]
 | .mpv id => [id]
 | .agg l => SV.idsL l
 | .tup l => SV.idsL l
 | .fn _ l => SV.idsL l
 | .v _ => [] | .str _ => [] | .rpt _ _ _ => [] | .rsl _ => [] | .nsl => []
def SV.idsL : List SV → List Nat
 | [] => []
 | x :: xs => x.ids ++ SV.idsL xs
end
mutual
def SV.clean : SV → Bool
 | .rpt _ _ _ => false
 | .rsl _ => false
 | .agg l => SV.cleanL l
 | .tup l => SV.cleanL l
 | .fn _ l => SV.cleanL l
 | .v _ => true | .str _ => true | .ptr _ _ => true | .ept _ _ _ => true | .esl _ _ => true | .sl _ _ _ => true | .wsl _ => true | .nsl => true | .mpv _ => true
def SV.cleanL : List SV → Bool
 | [] => true
 | x :: xs => match x.clean with | true => SV.cleanL xs | false => false
end
mutual
def SV.ren (ρ : Nat → Option Nat) : SV → Option SV
 | .ptr id o => match ρ id with | some j => some (.ptr j o) | none => none
 | .ept id i o => match ρ id with | some j => some (.ept j i o) | none => none
 | .esl id i => match ρ id with | some j => some (.esl j i) | none => none
 | .sl id a b => match ρ id with | some j => some (.sl j a b) | none => none
 | .wsl id => match ρ id with | some j => some (.wsl j) | none => none
 | .mpv id => match ρ id with | some j => some (.mpv j) | none => none
 | .agg l => match SV.renL ρ l with | some l => some (.agg l) | none => none
 | .tup l => match SV.renL ρ l with | some l => some (.tup l) | none => none
 | .fn f l => match SV.renL ρ l with | some l => some (.fn f l) | none => none
 | .v x => some (.v x) | .str l => some (.str l) | .rpt r i o => some (.rpt r i o) | .rsl r => some (.rsl r) | .nsl => some .nsl
def SV.renL (ρ : Nat → Option Nat) : List SV → Option (List SV)
 | [] => some []
 | x :: xs => match x.ren ρ with
  | some y => match SV.renL ρ xs with | some ys => some (y :: ys) | none => none
  | none => none
end
def Ck.ren (ρ : Nat → Option Nat) : Ck → Option Ck
 | .blk T vs => match SV.renL ρ vs with | some vs => some (.blk T vs) | none => none
 | .row r => some (.row r)
 | .prow T tm n g => match ρ g with | some j => some (.prow T tm n j) | none => none
 | .gho tm l none => some (.gho tm l none)
 | .gho tm l (some (k, cs)) => match SV.renL ρ cs with | some cs => some (.gho tm l (some (k, cs))) | none => none
 | .mp t l => some (.mp t l)
def Ck.renL (ρ : Nat → Option Nat) : List Ck → Option (List Ck)
 | [] => some []
 | x :: xs => match x.ren ρ with
  | some y => match Ck.renL ρ xs with | some ys => some (y :: ys) | none => none
  | none => none
def nmem (i : Nat) : List Nat → Bool
 | [] => false
 | j :: l => match Nat.beq i j with | true => true | false => nmem i l
def npos (i : Nat) : List Nat → Nat → Option Nat
 | [], _ => none
 | j :: l, k => match Nat.beq i j with | true => some k | false => npos i l (k + 1)
def nth (l : List Nat) : Nat → Option Nat
 | i => l[i]?
def reach (h : List (Nat × Ck)) : Nat → List Nat → List Nat → List Nat
 | 0, _, done => done
 | _, [], done => done
 | n + 1, i :: rest, done => match nmem i done with
  | true => reach h n rest done
  | false => match hget h i with
   | some (.blk _ vs) => reach h n (rest ++ SV.idsL vs) (done ++ [i])
   | some (.row _) => reach h n rest (done ++ [i])
   | some (.prow _ _ _ g) => reach h n (rest ++ [g]) (done ++ [i])
   | some (.gho _ _ none) => reach h n rest (done ++ [i])
   | some (.gho _ _ (some (_, cs))) => reach h n (rest ++ SV.idsL cs) (done ++ [i])
   | some (.mp _ _) => reach h n rest (done ++ [i])
   | none => reach h n rest (done ++ [i])
def cksOf (h : List (Nat × Ck)) : List Nat → Option (List Ck)
 | [] => some []
 | i :: is => match hget h i with
  | some c => match cksOf h is with | some cs => some (c :: cs) | none => none
  | none => none
inductive PostC where
 | same | gone | to (c : Ck)
inductive COut : Type 1 where
 | one (v : SV) (post : List PostC)
 | many (X : Type) (P : X → Prop) (v : X → SV) (post : X → List PostC)
structure CEff : Type 1 where
 ob : List Prop
 out : COut
 sm : List Bool
structure Con : Type 1 where
 ro : List (Option RK)
 f : List SV → List Ck → Option CEff
 fz : List Bool
noncomputable def lend (h : List (Nat × Ck)) : Option RK → SV → Option (SV × Bool)
 | none, x => some (x, false)
 | some _, .wsl id => match hget h id with | some (.row r) => some (.rsl r, true) | _ => none
 | some _, .sl id lo n => match hget h id with | some (.row r) => some (.rsl (r.sub lo n), true) | _ => none
 | some rk, .nsl => some (.rsl rk.empty, false)
 | some _, x => some (x, false)
noncomputable def lends (h : List (Nat × Ck)) : List (Option RK) → List SV → Option (List SV × Bool)
 | _, [] => some ([], false)
 | [], x :: xs => match lends h [] xs with | some (ys, b) => some (x :: ys, b) | none => none
 | b :: bs, x :: xs => match lend h b x with
  | some (y, c) => match lends h bs xs with | some (ys, d) => some (y :: ys, match c with | true => true | false => d) | none => none
  | none => none
def lentIds : List (Option RK) → List SV → List Nat
 | some _ :: bs, .wsl id :: xs => id :: lentIds bs xs
 | some _ :: bs, .sl id _ _ :: xs => id :: lentIds bs xs
 | _ :: bs, _ :: xs => lentIds bs xs
 | _, _ => []
def back (ids : List Nat) (fresh : Nat) (i : Nat) : Option Nat :=
 match nth ids i with
 | some j => some j
 | none => match Nat.ble (i + 1) (ids.length + 8) with | true => some (fresh + (i - ids.length)) | false => none
mutual
def Ty.clean : Ty → Bool
 | .int _ => true | .bool => true | .str => true | .bytes _ => false | .ints _ _ => false | .row _ _ => false | .self _ => false | .u8s _ => true
 | .st fs => Ty.cleanL fs
def Ty.cleanL : List Ty → Bool
 | [] => true
 | t :: ts => match t.clean with | true => Ty.cleanL ts | false => false
end
mutual
def Tm.clean : Tm → Bool
 | .v t => t.clean | .p _ fs => Tm.cleanL fs | .w _ e => e.clean
def Tm.cleanL : List Tm → Bool
 | [] => true
 | t :: ts => match t.clean with | true => Tm.cleanL ts | false => false
end
def R.clean : R → Bool
 | .bs _ _ => true | .ints _ _ _ => true | .row _ e _ => e.clean
def Ck.clean : Ck → Bool
 | .blk _ vs => SV.cleanL vs
 | .row r => r.clean
 | .prow _ _ _ _ => true
 | .gho tm _ none => tm.clean
 | .gho tm _ (some (_, cs)) => match tm.clean with | true => SV.cleanL cs | false => false
 | .mp t _ => t.clean
def Ck.cleanL : List Ck → Bool
 | [] => true
 | c :: cs => match c.clean with | true => Ck.cleanL cs | false => false
def cleanPost : List PostC → Bool
 | [] => true
 | .to c :: l => match c.clean with | true => cleanPost l | false => false
 | _ :: l => cleanPost l
def postUpd (ids : List Nat) (fresh : Nat) : Nat → List PostC → Option (List (Nat × Option Ck))
 | _, [] => some []
 | i, .same :: l => postUpd ids fresh (i + 1) l
 | i, .gone :: l => match back ids fresh i, postUpd ids fresh (i + 1) l with
  | some j, some u => some ((j, none) :: u)
  | _, _ => none
 | i, .to c :: l => match back ids fresh i, c.ren (back ids fresh), postUpd ids fresh (i + 1) l with
  | some j, some c, some u => some ((j, some c) :: u)
  | _, _, _ => none
def sameU : List Nat → List Ck → List (Nat × Option Ck)
 | i :: is, c :: cs => (i, some c) :: sameU is cs
 | _, _ => []
def upds (ids : List Nat) (cks : List Ck) (fresh : Nat) (post : List PostC) : List (Nat × Option Ck) := sameU ids cks ++ (postUpd ids fresh 0 post).getD []
def valb (ids : List Nat) (fresh : Nat) (v : SV) : SV := (v.ren (back ids fresh)).getD .nsl
def ndisj : List Nat → List Nat → Bool
 | [], _ => true
 | i :: l, m => match nmem i m with | true => false | false => ndisj l m
def nnodup : List Nat → Bool
 | [] => true
 | i :: l => match nmem i l with | true => false | false => nnodup l
def below (fresh : Nat) : Nat → List Nat
 | 0 => []
 | n + 1 => fresh :: below (fresh + 1) n
def resOk (ids : List Nat) (ccks : List Ck) (fresh : Nat) (isLent : Bool) (v : SV) (post : List PostC) : Bool :=
 match (match isLent with | true => (match v.clean with | true => (match cleanPost post with | true => Ck.cleanL ccks | false => false) | false => false) | false => true) with
 | true => match postUpd ids fresh 0 post with
  | some _ => (match v.ren (back ids fresh) with | some _ => true | none => false)
  | none => false
 | false => false
def keepIds : List Nat → List Bool → List Nat
 | i :: is, true :: bs => i :: keepIds is bs
 | _ :: is, false :: bs => keepIds is bs
 | _, _ => []
def ukeys : List (Nat × Option Ck) → List Nat
 | [] => []
 | (i, _) :: l => i :: ukeys l
def dropU (keep : List Nat) : List (Nat × Option Ck) → List (Nat × Option Ck)
 | [] => []
 | (i, c) :: l => match nmem i keep with | true => dropU keep l | false => (i, c) :: dropU keep l
def dropN (keep : List Nat) : List Nat → List Nat
 | [] => []
 | i :: l => match nmem i keep with | true => dropN keep l | false => i :: dropN keep l
def resOk2 (ids : List Nat) (ccks : List Ck) (fresh : Nat) (isLent : Bool) (sm : List Bool) (v : SV) (post : List PostC) : Bool :=
 match resOk ids ccks fresh isLent v post with
 | true => ndisj (keepIds ids sm) (ukeys ((postUpd ids fresh 0 post).getD []))
 | false => false
def effOf (ids lent : List Nat) (cks ccks : List Ck) (fresh : Nat) (isLent : Bool) (ce : CEff) : Option Eff :=
 match ce.out with
 | .one v post => match resOk2 ids ccks fresh isLent ce.sm v post with
  | true => some ⟨ce.ob, ids ++ lent, dropN (keepIds ids ce.sm) ids ++ below fresh 8, .one (valb ids fresh v) (dropU (keepIds ids ce.sm) (upds ids cks fresh post))⟩
  | false => none
 | .many X P v post =>
  some ⟨ce.ob ++ [∀ x, P x → resOk2 ids ccks fresh isLent ce.sm (v x) (post x) = true], ids ++ lent, dropN (keepIds ids ce.sm) ids ++ below fresh 8, .many X P (fun x => valb ids fresh (v x)) (fun x => dropU (keepIds ids ce.sm) (upds ids cks fresh (post x)))⟩
noncomputable def callT (con : Con) (vs ws : List SV) (isLent : Bool) (s : St) (fresh : Nat) (ids : List Nat) : Option Eff :=
 match SV.renL (fun i => npos i ids 0) ws with
 | some cargs => match cksOf s.hp ids with
  | some cks => match Ck.renL (fun i => npos i ids 0) cks with
   | some ccks => match ndisj (lentIds con.ro vs) ids with
    | true => match nnodup ids with
     | true => match con.f cargs ccks with
      | some ce => effOf ids (lentIds con.ro vs) cks ccks fresh isLent ce
      | none => none
     | false => none
    | false => none
   | none => none
  | none => none
 | none => none
noncomputable def callS (Γ : FuncId → Option Con) (f : FuncId) (vs : List SV) (s : St) (fresh : Nat) : Option Eff :=
 match Γ f with
 | some con => match lends s.hp con.ro vs with
  | some (ws, isLent) => callT con vs ws isLent s fresh (reach s.hp 40 (SV.idsL ws) [])
  | none => none
 | none => none
def SV.flat : SV → List SV
 | .agg l => l
 | x => [x]
def SV.one : SV → Bool
 | .agg _ => false | .tup _ => false
 | .v (.agg _) => false | .v (.tuple _) => false
 | .v _ => true | .str _ => true | .ptr _ _ => true | .ept _ _ _ => true | .esl _ _ => true | .rpt _ _ _ => true | .sl _ _ _ => true | .wsl _ => true | .rsl _ => true | .nsl => true | .fn _ _ => true | .mpv _ => true
def ones : List SV → Bool
 | [] => true
 | x :: xs => match x.one with | true => ones xs | false => false
def take2 : Nat → List SV → Option (List SV)
 | 0, _ => some []
 | n + 1, x :: xs => match take2 n xs with | some l => some (x :: l) | none => none
 | _ + 1, [] => none
def drop2 : Nat → List SV → List SV
 | 0, l => l
 | n + 1, _ :: xs => drop2 n xs
 | _ + 1, [] => []
def rowOf (h : List (Nat × Ck)) (id : Nat) : Option R := match hget h id with | some (.row r) => some r | _ => none
def blkOf (h : List (Nat × Ck)) (id : Nat) : Option (TypeId × List SV) := match hget h id with | some (.blk T vs) => some (T, vs) | _ => none
def u8L : List SV → Option (List Int)
 | [] => some []
 | .v (.int .u8 x) :: l => match u8L l with | some xs => some (x :: xs) | none => none
 | _ => none
theorem Znq : ∀ {vs : List SV} {xs : List Int}, u8L vs = some xs → vs = xs.map fun x => SV.v (.int .u8 x)
 | [], xs, h => by simp only [u8L] at h; injection h with h; subst h; rfl
 | v :: vs, xs, h => by
  unfold u8L at h
  split at h
  ·cases ‹_ :: _ = []›
  ·rename_i x l e
   injection e with e1 e2
   subst e1; subst e2
   cases hl : u8L vs with
   | none => rw [hl] at h; cases h
   | some ys => rw [hl] at h; injection h with h; subst h; rw [Znq hl]; rfl
  cases h
theorem Zgb : ∀ {xs : List Int} (i : Nat), allU8 xs → (h : i < xs.length) → getB (bsL xs) i = xs[i]
 | x :: xs, 0, ha, h => by
  have h1 := ha.1
  show (((UInt8.ofNat x.toNat).toNat : Nat) : Int) = x
  rw [UInt8.toNat_ofNat', Nat.mod_eq_of_lt (by omega)]
  omega
 | x :: xs, i + 1, ha, h => Zgb i ha.2 (by simpa using h)
theorem Z6o : ∀ xs : List Int, (bsL xs).length = xs.length
 | [] => rfl
 | x :: xs => by simp only [bsL, List.length_cons, Z6o xs]
def fills (zs : List SV) : List (Nat × Nat × SV) → Option (List SV)
 | [] => some zs
 | (off, n, v) :: ps => match Nat.beq v.flat.length n && ones v.flat with
  | true => match Nat.ble (off + n) zs.length with
   | true => fills (zs.take off ++ v.flat ++ zs.drop (off + n)) ps
   | false => none
  | false => none
def St.parts (s : St) : List (Nat × Nat × Opnd) → Option (List (Nat × Nat × SV))
 | [] => some []
 | (o, n, x) :: ps => match s.ev x with
  | some v => match s.parts ps with | some l => some ((o, n, v) :: l) | none => none
  | none => none
def pickLit : Opnd → Opnd → Bool
 | .k (.v (.bool true)), .k (.v (.bool false)) => true
 | _, _ => false
theorem Zuo {a b : Opnd} (h : pickLit a b = true) : a = .k (.v (.bool true)) ∧ b = .k (.v (.bool false)) := by
 unfold pickLit at h
 split at h
 ·exact ⟨rfl, rfl⟩
 cases h
def SV.wid1 : SV → List Nat
 | .wsl id => [id]
 | _ => []
noncomputable def SV.giv (h : List (Nat × Ck)) : SV → SV
 | .wsl id => (match rowOf h id with | some r => .rsl r | none => .wsl id)
 | x => x
def partW : List (Nat × Nat × SV) → List Nat
 | [] => []
 | (_, _, v) :: l => v.wid1 ++ partW l
noncomputable def partG (h : List (Nat × Ck)) : List (Nat × Nat × SV) → List (Nat × Nat × SV)
 | [] => []
 | (o, n, v) :: l => (o, n, v.giv h) :: partG h l
def gone : List Nat → List (Nat × Option Ck) → List (Nat × Option Ck)
 | [], u => u
 | i :: l, u => (i, none) :: gone l u
noncomputable def ibin (op : BK) (k : IntKind) (a b : Int) : List Prop × SV :=
 match op with
 | .add => ([], .v (.int k (lock iadd k a b)))
 | .sub => ([], .v (.int k (lock isub k a b)))
 | .mul => ([], .v (.int k (lock imul k a b)))
 | .quo => ([b ≠ 0], .v (.int k (lock iquo k a b)))
 | .rem => ([b ≠ 0], .v (.int k (lock irem a b)))
 | .and => ([], .v (.int k (lock iand k a b)))
 | .or => ([], .v (.int k (lock ior k a b)))
 | .xor => ([], .v (.int k (lock ixor k a b)))
 | .andn => ([], .v (.int k (lock iandn k a b)))
 | .eq => ([], .v (.bool (lock ieq a b)))
 | .ne => ([], .v (.bool (bnot (lock ieq a b))))
 | .lt => ([], .v (.bool (lock ilt a b)))
 | .le => ([], .v (.bool (lock ile a b)))
 | .gt => ([], .v (.bool (lock ilt b a)))
 | .ge => ([], .v (.bool (lock ile b a)))
noncomputable def sbin (op : SK) (a b : List UInt8) : List Prop × SV :=
 match op with
 | .add => ([lock Obl fun _ => xlen a + xlen b ≤ 9223372036854775807], .str (lock (@cat UInt8) a b))
 | .eq => ([], .v (.bool (lock seq a b)))
 | .ne => ([], .v (.bool (bnot (lock seq a b))))
 | .lt => ([], .v (.bool (lock slt a b)))
 | .le => ([], .v (.bool (bnot (lock slt b a))))
 | .gt => ([], .v (.bool (lock slt b a)))
 | .ge => ([], .v (.bool (bnot (lock slt a b))))
noncomputable def eqs : List Nat → List SV → List SV → Option Bool
 | [], [], [] => some true
 | 0 :: ks, .v (.int k a) :: xs, .v (.int j b) :: ys => match k == j with | true => (match eqs ks xs ys with | some t => some (lock band (lock ieq a b) t) | none => none) | false => none
 | 1 :: ks, .v (.bool a) :: xs, .v (.bool b) :: ys => match eqs ks xs ys with | some t => some (lock band (lock beq2 a b) t) | none => none
 | 2 :: ks, .str a :: xs, .str b :: ys => match eqs ks xs ys with | some t => some (lock band (lock seq a b) t) | none => none
 | _, _, _ => none
def nilS : Nat → SV → Option Bool
 | 0, .v (.pointer none) => some true
 | 0, .ptr _ _ => some false
 | 0, .ept _ _ _ => some false
 | 0, .rpt _ _ _ => some false
 | 1, .nsl => some true
 | 2, .v .nilFunc => some true
 | 2, .fn _ _ => some false
 | _, _ => none
noncomputable def rowS (h : List (Nat × Ck)) : SV → Option R
 | .wsl id => rowOf h id
 | .sl id lo n => match rowOf h id with | some r => some (r.sub lo n) | none => none
 | .rsl r => some r
 | _ => none
def rdS : SV → List Nat
 | .wsl id => [id]
 | .sl id _ _ => [id]
 | .ptr id _ => [id]
 | .ept id _ _ => [id]
 | .esl id _ => [id]
 | .mpv id => [id]
 | _ => []
noncomputable def lenS (h : List (Nat × Ck)) : SV → Option Nat
 | .wsl id => match rowOf h id with | some r => some r.len | none => none
 | .sl _ _ n => some n
 | .rsl r => some r.len
 | .str l => some (lock (@xlen UInt8) l)
 | .nsl => some 0
 | _ => none
noncomputable def cellS (h : List (Nat × Ck)) : SV → Nat → Option (List SV)
 | .ptr id off, n => match blkOf h id with | some (_, vs) => take2 n (drop2 off vs) | none => none
 | .ept id i off, n => match rowOf h id with | some r => take2 n (drop2 off (r.elem i)) | none => none
 | .rpt r i off, n => take2 n (drop2 off (r.elem i))
 | _, _ => none
def prowOf (h : List (Nat × Ck)) (id : Nat) : Option (TypeId × Tm × Nat × Nat) := match hget h id with | some (.prow T tm n g) => some (T, tm, n, g) | _ => none
def ghoOf (h : List (Nat × Ck)) (id : Nat) : Option (Tm × List D × Option (Nat × List SV)) := match hget h id with | some (.gho tm l o) => some (tm, l, o) | _ => none
def mpOf (h : List (Nat × Ck)) (id : Nat) : Option (Ty × List D) := match hget h id with | some (.mp t l) => some (t, l) | _ => none
def aggQ : SV → Bool
 | .agg _ => true
 | _ => false
def beqB : Bool → Bool → Bool
 | true, true => true
 | false, false => true
 | _, _ => false
def lput : List SV → Nat → SV → List SV
 | [], _, _ => []
 | _ :: l, 0, x => x :: l
 | y :: l, n + 1, x => y :: lput l n x
noncomputable def opnS (id g : Nat) (tm : Tm) (l : List D) (i off fresh : Nat) : Option Eff :=
 match tm.opn (lock getD l i) (fresh + 1) with
 | (cs, chs, m) => match cs[off]?, Nat.ble m (fresh + 8) with
  | some v, true => some ⟨[], [id, g], g :: below fresh 8, .one v ((g, some (.gho tm l (some (i, cs)))) :: chs.map fun x => (x.1, some x.2))⟩
  | _, _ => none
noncomputable def ldP (h : List (Nat × Ck)) (id i off fresh : Nat) : Option Eff :=
 match prowOf h id with
 | some (T, tm, n, g) => match ghoOf h g with
  | some (tm', l, none) => opnS id g tm' l i off fresh
  | some (tm', l, some (k, cs)) => match cs[off]? with
   | some v => some ⟨[lock Obl fun _ => i = k], [id, g], [], .one v []⟩
   | none => none
  | none => none
 | none => none
noncomputable def stP (h : List (Nat × Ck)) (id i off : Nat) (v : SV) (fresh : Nat) : Option Eff :=
 match prowOf h id with
 | some (T, tm, n, g) => match ghoOf h g with
  | some (tm', l, some (k, cs)) => match v.one && Nat.ble (off + 1) cs.length && Nat.beq tm.size 1 with
   | true => some ⟨[lock Obl fun _ => i = k], [id, g], [id, g, fresh], .one .nsl [(g, none), (id, some (.prow T tm n fresh)), (fresh, some (.gho tm' l (some (k, lput cs off v))))]⟩
   | false => none
  | _ => none
 | none => none
noncomputable def partS (v : SV) (lo n : Nat) : SV := match v with
 | .wsl id => .sl id lo n
 | .sl id l0 _ => .sl id (lock nadd l0 lo) n
 | .rsl r => .rsl (r.sub lo n)
 | _ => .nsl
noncomputable def slS (s : St) (v : SV) (len : Nat) (lo hi : Option Opnd) : Option Eff :=
 match lo, hi with
 | none, none => some ⟨[], rdS v, [], .one v []⟩
 | some a, none => (match s.ev a with
  | some (.v (.int _ m)) => some ⟨[lock Obl fun _ => 0 ≤ m ∧ m ≤ lock ofN len], rdS v, [], .one (partS v (lock toN m) (lock ndec len (lock toN m))) []⟩
  | _ => none)
 | none, some b => (match s.ev b with
  | some (.v (.int _ n)) => some ⟨[lock Obl fun _ => 0 ≤ n ∧ n ≤ lock ofN len], rdS v, [], .one (partS v 0 (lock toN n)) []⟩
  | _ => none)
 | some a, some b => (match s.ev a, s.ev b with
  | some (.v (.int _ m)), some (.v (.int _ n)) => some ⟨[lock Obl fun _ => 0 ≤ m ∧ m ≤ n ∧ n ≤ lock ofN len], rdS v, [], .one (partS v (lock toN m) (lock ndec (lock toN n) (lock toN m))) []⟩
  | _, _ => none)
noncomputable def step (Γ : FuncId → Option Con) (op : IOp) (s : St) (fresh : Nat) : Option Eff :=
 match op with
 | .mv x => match s.ev x with | some v => some (.pure v) | none => none
 | .pick c a b => match pickLit a b with
  | true => (match s.ev c with
   | some (.v (.bool x)) => some (.pure (.v (.bool x)))
   | _ => none)
  | false => (match s.ev c with
   | some (.v (.bool true)) => (match s.ev a with | some v => some (.pure v) | none => none)
   | some (.v (.bool false)) => (match s.ev b with | some v => some (.pure v) | none => none)
   | _ => none)
 | .ib op k x y => match s.ev x, s.ev y with
  | some (.v (.int j a)), some (.v (.int j' b)) => (match j == k && j' == k with
   | true => some ⟨(ibin op k a b).1, [], [], .one (ibin op k a b).2 []⟩
   | false => none)
  | _, _ => none
 | .sh left k x y => match s.ev x, s.ev y with
  | some (.v (.int j a)), some (.v (.int _ b)) => (match j == k with
   | true => some (.pureOb (lock Obl fun _ => 0 ≤ b) (.v (.int k (shK left k a b))))
   | false => none)
  | _, _ => none
 | .sb op x y => match s.ev x, s.ev y with
  | some (.str a), some (.str b) => some ⟨(sbin op a b).1, [], [], .one (sbin op a b).2 []⟩
  | _, _ => none
 | .bb ne x y => match s.ev x, s.ev y with
  | some (.v (.bool a)), some (.v (.bool b)) => some (.pure (.v (.bool (negIf ne (lock beq2 a b)))))
  | _, _ => none
 | .isn kind ne x => match s.ev x with
  | some v => (match nilS kind v with
   | some b => some (.pure (.v (.bool (negIf ne b))))
   | none => match kind, lenS s.hp v, v with
    | 1, some n, .str _ => none
    | 1, some n, .sl _ _ _ => none
    | 1, some n, _ => some ⟨[], rdS v, [], .many Bool (fun b => b = true → n = 0) (fun b => .v (.bool (negIf ne b))) (fun _ => [])⟩
    | _, _, _ => none)
  | none => none
 | .steq ks ne x y => match s.ev x, s.ev y with
  | some (.agg a), some (.agg b) => (match eqs ks a b with
   | some t => some (.pure (.v (.bool (negIf ne t))))
   | none => none)
  | _, _ => none
 | .bnot x => match s.ev x with | some (.v (.bool b)) => some (.pure (.v (.bool (bnot b)))) | _ => none
 | .ineg k x => match s.ev x with | some (.v (.int j a)) => (match j == k with | true => some (.pure (.v (.int k (lock isub k 0 a)))) | false => none) | _ => none
 | .icom k x => match s.ev x with | some (.v (.int j a)) => (match j == k with | true => some (.pure (.v (.int k (lock ixor k (if k.signed then -1 else k.max) a)))) | false => none) | _ => none
 | .fld x off => match s.ev x with
  | some (.ptr id o) => some (.pure (.ptr id (o + off)))
  | some (.ept id i o) => some (.pure (.ept id i (o + off)))
  | some (.rpt r i o) => some (.pure (.rpt r i (o + off)))
  | _ => none
 | .idx x i sz => match s.ev x, s.ev i with
  | some (.wsl id), some (.v (.int _ n)) => (match rowOf s.hp id with
   | some r => (match Nat.beq r.sz sz with
    | true => some ⟨[lock Obl fun _ => 0 ≤ n ∧ n < lock ofN r.len], [id], [], .one (.ept id (lock toN n) 0) []⟩
    | false => none)
   | none => (match prowOf s.hp id with
    | some (T, tm, k, g) => (match Nat.beq tm.size sz with
     | true => some ⟨[lock Obl fun _ => 0 ≤ n ∧ n < lock ofN k], [id], [], .one (.ept id (lock toN n) 0) []⟩
     | false => none)
    | none => none))
  | some (.sl id lo len), some (.v (.int _ n)) => (match rowOf s.hp id with
   | some r => (match Nat.beq r.sz sz with
    | true => some ⟨[lock Obl fun _ => 0 ≤ n ∧ n < lock ofN len], [id], [], .one (.ept id (lock nadd lo (lock toN n)) 0) []⟩
    | false => none)
   | none => none)
  | some (.rsl r), some (.v (.int _ n)) => (match Nat.beq r.sz sz with
   | true => some (.pureOb (lock Obl fun _ => 0 ≤ n ∧ n < lock ofN r.len) (.rpt r (lock toN n) 0))
   | false => none)
  | _, _ => none
 | .sidx x i => match s.ev x, s.ev i with
  | some (.str l), some (.v (.int _ n)) => some (.pureOb (lock Obl fun _ => 0 ≤ n ∧ n < lock ofN (lock (@xlen UInt8) l)) (.v (.int .u8 (lock getB l (lock toN n)))))
  | _, _ => none
 | .ld x => match s.ev x with
  | some p => (match cellS s.hp p 1 with
   | some [v] => some ⟨[], rdS p, [], .one v []⟩
   | _ => (match p with
    | .ept id i off => ldP s.hp id i off fresh
    | _ => none))
  | none => none
 | .lda x n => match s.ev x with
  | some p => (match cellS s.hp p n with
   | some l => some ⟨[], rdS p, [], .one (.agg l) []⟩
   | none => none)
  | none => none
 | .st x v n => match s.ev x, s.ev v with
  | some (.ptr id off), some a => (match blkOf s.hp id with
   | some (T, vs) => (match Nat.beq a.flat.length n && ones a.flat && Nat.ble (off + n) vs.length with
    | true => some ⟨[], [id], [id], .one .nsl [(id, some (.blk T (vs.take off ++ a.flat ++ vs.drop (off + n))))]⟩
    | false => none)
   | none => none)
  | some (.ept id i off), some a => (match rowOf s.hp id with
   | some r => (match Nat.beq a.flat.length n && ones a.flat && Nat.ble (off + n) r.sz with
    | true => (match r.put i off a.flat with
     | some (ps, r') => some ⟨ps, [id], [id], .one .nsl [(id, some (.row r'))]⟩
     | none => none)
    | false => none)
   | none => (match Nat.beq n 1 with
    | true => stP s.hp id i off a fresh
    | false => none))
  | _, _ => none
 | .chk x => match s.ev x with
  | some (.ptr id o) => some (.pure (.ptr id o))
  | some (.ept id i o) => some (.pure (.ept id i o))
  | some (.rpt r i o) => some (.pure (.rpt r i o))
  | some (.fn f l) => some (.pure (.fn f l))
  | _ => none
 | .ext x i => match s.ev x with
  | some (.tup l) => (match l[i]? with | some v => some (.pure v) | none => none)
  | _ => none
 | .part x off n agg => match s.ev x with
  | some (.agg l) => (match take2 n (drop2 off l) with
   | some m => (match agg, m with
    | true, m => some (.pure (.agg m))
    | false, [v] => some (.pure v)
    | _, _ => none)
   | none => none)
  | _ => none
 | .conv k x => match s.ev x with | some (.v (.int _ a)) => some (.pure (.v (.int k (lock iconv k a)))) | _ => none
 | .smv x => match s.ev x with | some (.str l) => some (.pure (.str l)) | _ => none
 | .cvs x => match s.ev x with
  | some (.wsl id) => (match rowOf s.hp id with
   | some (.bs T l) => some ⟨[lock Obl fun _ => 0 < lock ofN (lock (@xlen UInt8) l)], [id], [id], .one (.rsl (.bs T l)) [(id, none)]⟩
   | _ => none)
  | _ => none
 | .sla n x => match s.ev x with
  | some (.ptr id 0) => (match blkOf s.hp id with
   | some (T, vs) => (match u8L vs with
    | some xs => (match Nat.beq xs.length n with
     | true => some ⟨[lock Obl fun _ => allU8 xs], [id], [id, fresh], .one (.wsl fresh) [(id, none), (fresh, some (.row (.bs T (lock bsL xs))))]⟩
     | false => none)
    | none => none)
   | none => none)
  | some (.ept id i 0) => (match rowOf s.hp id with
   | some (.row T (.u8s m) l) => (match Nat.beq m n with
    | true => some ⟨[], [id], [], .one (.esl id i) []⟩
    | false => none)
   | _ => none)
  | _ => none
 | .s2a T n x => match s.ev x with
  | some (.rsl (.bs _ l)) => some (.pureOb (lock Obl fun _ => n ≤ lock (@xlen UInt8) l) (.rpt (.row T (.u8s n) [lock arrD l]) 0 0))
  | _ => none
 | .gix g i => match gfind globs g, s.ev i with
  | some r, some (.v (.int _ n)) => some (.pureOb (lock Obl fun _ => 0 ≤ n ∧ n < lock ofN r.len) (.rpt r (lock toN n) 0))
  | _, _ => none
 | .s2b T x => match s.ev x with
  | some (.str l) => some (.pure (.rsl (.bs T l)))
  | _ => none
 | .b2s x => match s.ev x with
  | some .nsl => some (.pure (.str []))
  | some v => (match rowS s.hp v with
   | some (.bs _ l) => some ⟨[], rdS v, [], .one (.str l) []⟩
   | _ => none)
  | none => none
 | .box T n x => match s.ev x with
  | some v => (match Nat.beq v.flat.length n && ones v.flat with
   | true => some ⟨[], [], [fresh], .one (.ptr fresh 0) [(fresh, some (.blk T v.flat))]⟩
   | false => none)
  | none => none
 | .new T zs => some ⟨[], [], [fresh], .one (.ptr fresh 0) [(fresh, some (.blk T zs))]⟩
 | .build zs ps => match s.parts ps with
  | some l => (match fills zs l with | some m => some (.pure (.agg m)) | none => none)
  | none => none
 | .bsl rk n zs ps => match s.parts ps with
  | some l => (match fills zs (partG s.hp l) with
   | some m => (match rk.of n m with
    | some (qs, r) => some ⟨qs, partW l, partW l ++ [fresh], .one (.wsl fresh) (gone (partW l) [(fresh, some (.row r))])⟩
    | none => none)
   | none => none)
  | none => none
 | .ssl x lo hi => match s.ev x with
  | some (.str l) => (match lo, hi with
   | none, none => some (.pure (.str l))
   | some a, none => (match s.ev a with
    | some (.v (.int _ m)) => some (.pureOb (lock Obl fun _ => 0 ≤ m ∧ m ≤ lock ofN (lock (@xlen UInt8) l)) (.str (lock (@lsub UInt8) l (lock toN m) (lock ndec (lock (@xlen UInt8) l) (lock toN m)))))
    | _ => none)
   | none, some b => (match s.ev b with
    | some (.v (.int _ n)) => some (.pureOb (lock Obl fun _ => 0 ≤ n ∧ n ≤ lock ofN (lock (@xlen UInt8) l)) (.str (lock (@lsub UInt8) l 0 (lock toN n))))
    | _ => none)
   | some a, some b => (match s.ev a, s.ev b with
    | some (.v (.int _ m)), some (.v (.int _ n)) => some (.pureOb (lock Obl fun _ => 0 ≤ m ∧ m ≤ n ∧ n ≤ lock ofN (lock (@xlen UInt8) l)) (.str (lock (@lsub UInt8) l (lock toN m) (lock ndec (lock toN n) (lock toN m)))))
    | _, _ => none))
  | _ => none
 | .sls x lo hi sz => match s.ev x with
  | some .nsl => (match lo, hi with
   | none, none => some (.pure .nsl)
   | some a, none => (match s.ev a with
    | some (.v (.int _ m)) => some (.pureOb (lock Obl fun _ => m = 0) .nsl)
    | _ => none)
   | none, some b => (match s.ev b with
    | some (.v (.int _ n)) => some (.pureOb (lock Obl fun _ => n = 0) .nsl)
    | _ => none)
   | some a, some b => (match s.ev a, s.ev b with
    | some (.v (.int _ m)), some (.v (.int _ n)) => some (.pureOb (lock Obl fun _ => m = 0 ∧ n = 0) .nsl)
    | _, _ => none))
  | some v => (match lenS s.hp v, rowS s.hp v with
   | some len, some r => (match Nat.beq r.sz sz with
    | true => slS s v len lo hi
    | false => none)
   | _, _ => none)
  | none => none
 | .mks rk bytes len cap => match s.ev len, s.ev cap with
  | some (.v (.int .i64 n)), some (.v (.int .i64 c)) =>
   some ⟨[lock Obl fun _ => 0 ≤ n ∧ n ≤ c ∧ c * (bytes : Int) ≤ 140737488355328 ∧ c ≤ 9223372036854775807], [], [fresh], .one (.wsl fresh) [(fresh, some (.row (rk.rep (lock toN n))))]⟩
  | _, _ => none
 | .app rk bytes a x => match s.ev a, s.ev x with
  | some .nsl, some .nsl => some (.pure .nsl)
  | some (.wsl id), some .nsl => (match rowOf s.hp id with | some _ => some ⟨[], [id], [], .one (.wsl id) []⟩ | none => none)
  | some .nsl, some w => (match rowS s.hp w with
   | some q => (match rk.fit q with
    | some r => some ⟨[lock Obl fun _ => (q.len : Int) * (bytes : Int) ≤ 140737488355328], rdS w, [fresh], .one (.wsl fresh) [(fresh, some (.row r))]⟩
    | none => none)
   | none => none)
  | some (.wsl id), some w => (match rowOf s.hp id, rowS s.hp w with
   | some p, some q => (match p.app q with
    | some r => (match Nat.beq p.T rk.T && Nat.beq p.sz rk.sz with | false => none | true => some ⟨[lock Obl fun _ => ((p.len : Int) + (q.len : Int)) * (bytes : Int) ≤ 140737488355328], id :: rdS w, [id, fresh], .one (.wsl fresh) [(id, none), (fresh, some (.row r))]⟩)
    | none => none)
   | _, _ => none)
  | _, _ => none
 | .copy a x sz => match s.ev a, s.ev x with
  | some (.wsl id), some .nsl => some (.pure (.v (.int .i64 0)))
  | some (.sl id lo n), some .nsl => some (.pure (.v (.int .i64 0)))
  | some (.wsl id), some w => (match rowOf s.hp id, rowS s.hp w, nmem id (rdS w) with
   | some p, some q, false => (match Nat.beq p.sz sz with | false => none | true => match p.splice 0 (q.sub 0 (lock nmin p.len q.len)) with
    | some r => some ⟨[], id :: rdS w, [id], .one (.v (.int .i64 (lock ofN (lock nmin p.len q.len)))) [(id, some (.row r))]⟩
    | none => none)
   | _, _, _ => none)
  | some (.sl id lo n), some w => (match rowOf s.hp id, rowS s.hp w, nmem id (rdS w) with
   | some p, some q, false => (match Nat.beq p.sz sz with | false => none | true => match p.splice lo (q.sub 0 (lock nmin n q.len)) with
    | some r => some ⟨[], id :: rdS w, [id], .one (.v (.int .i64 (lock ofN (lock nmin n q.len)))) [(id, some (.row r))]⟩
    | none => none)
   | _, _, _ => none)
  | some (.esl id i), some w => (match rowOf s.hp id, rowS s.hp w, nmem id (rdS w) with
   | some (.row T (.u8s n) l), some (.bs U bl), false => (match Nat.beq sz 1 with
    | true => some ⟨[], id :: rdS w, [id], .one (.v (.int .i64 (lock ofN (lock nmin n (lock (@xlen UInt8) bl))))) [(id, some (.row (.row T (.u8s n) (lock setD l i (lock cpA n (lock getD l i) bl)))))]⟩
    | false => none)
   | _, _, _ => none)
  | _, _ => none
 | .len str x => match s.ev x with
  | some v => (match lenS s.hp v, str, v with
   | some n, true, .str _ => some ⟨[], [], [], .one (.v (.int .i64 (lock ofN n))) []⟩
   | some _, true, _ => none
   | some _, false, .str _ => none
   | some n, false, v => some ⟨[], rdS v, [], .one (.v (.int .i64 (lock ofN n))) []⟩
   | none, false, .wsl id => (match prowOf s.hp id with
    | some (_, _, n, _) => some ⟨[], [id], [], .one (.v (.int .i64 (lock ofN n))) []⟩
    | none => none)
   | none, _, _ => none)
  | none => none
 | .mx x y => match s.ev x, s.ev y with
  | some (.v (.int k a)), some (.v (.int j b)) => (match j == k with | true => some (.pure (.v (.int k (lock imax a b)))) | false => none)
  | _, _ => none
 | .mn x y => match s.ev x, s.ev y with
  | some (.v (.int k a)), some (.v (.int j b)) => (match j == k with | true => some (.pure (.v (.int k (lock imin a b)))) | false => none)
  | _, _ => none
 | .clear rk x => match s.ev x with
  | some .nsl => some (.pure (.tup []))
  | some (.wsl id) => (match rowOf s.hp id with
   | some r => (match Nat.beq r.sz rk.sz && Nat.beq r.T rk.T with
    | true => some ⟨[], [id], [id], .one (.tup []) [(id, some (.row (rk.rep r.len)))]⟩
    | false => none)
   | none => none)
  | _ => none
 | .mkfn f caps => match s.evs caps with | some l => some (.pure (.fn f l)) | none => none
 | .call f args => match s.evs args with
  | some vs => callS Γ f vs s fresh
  | none => none
 | .callv g args => match s.ev g, s.evs args with
  | some (.fn f caps), some vs => callS Γ f (vs ++ caps) s fresh
  | _, _ => none
 | .mksd T tm bytes len cap => match s.ev len, s.ev cap, tm.nils with
  | some (.v (.int .i64 n)), some (.v (.int .i64 c)), true =>
   some ⟨[lock Obl fun _ => 0 ≤ n ∧ n ≤ c ∧ c * (bytes : Int) ≤ 140737488355328 ∧ c ≤ 9223372036854775807], [], [fresh, fresh + 1], .one (.wsl fresh) [(fresh, some (.prow T tm (lock toN n) (fresh + 1))), (fresh + 1, some (.gho tm (lock (@lrep D) (lock toN n) tm.zero) none))]⟩
  | _, _, _ => none
 | .appd T tm bytes a x => match s.ev a, s.ev x with
  | some .nsl, some (.wsl id) => (match prowOf s.hp id with
   | some (U, tm', n, g) => (match ghoOf s.hp g with
    | some (tm2, l, none) => (match tm.eq tm' && tm'.eq tm2 && Nat.beq T U && Nat.beq n 1 with
     | true => some ⟨[lock Obl fun _ => (1 : Int) * (bytes : Int) ≤ 140737488355328], [id, g], [id, g, fresh, fresh + 1], .one (.wsl fresh) [(id, none), (g, none), (fresh, some (.prow T tm 1 (fresh + 1))), (fresh + 1, some (.gho tm l none))]⟩
     | false => none)
    | _ => none)
   | none => none)
  | some (.wsl i0), some (.wsl id) => (match prowOf s.hp i0, prowOf s.hp id with
   | some (V, tm0, m, g0), some (U, tm', n, g) => (match ghoOf s.hp g0, ghoOf s.hp g with
    | some (tm3, l0, none), some (tm2, l, none) => (match tm.eq tm' && tm'.eq tm2 && tm.eq tm0 && tm0.eq tm3 && Nat.beq T U && Nat.beq T V && Nat.beq n 1 && nnodup [i0, g0, id, g] with
     | true => some ⟨[lock Obl fun _ => ((m : Int) + 1) * (bytes : Int) ≤ 140737488355328], [i0, g0, id, g], [i0, g0, id, g, fresh, fresh + 1], .one (.wsl fresh) [(i0, none), (g0, none), (id, none), (g, none), (fresh, some (.prow T tm (lock nadd m 1) (fresh + 1))), (fresh + 1, some (.gho tm (lock (@cat D) l0 l) none))]⟩
     | false => none)
    | _, _ => none)
   | _, _ => none)
  | _, _ => none
 | .bsld T tm x => match s.ev x with
  | some v => (match tm.sht s.hp [v] with
   | some (d, [], ids) => (match nnodup ids && Nat.beq tm.size 1 && v.one with
    | true => some ⟨[], ids, ids ++ [fresh, fresh + 1], .one (.wsl fresh) (gone ids [(fresh, some (.prow T tm 1 (fresh + 1))), (fresh + 1, some (.gho tm [d] none))])⟩
    | false => none)
   | _ => none)
  | none => none
 | .mkm t => some ⟨[], [], [fresh], .one (.mpv fresh) [(fresh, some (.mp t []))]⟩
 | .mpu t m k v => match s.ev m, s.ev k, s.ev v with
  | some (.mpv id), some (.str b), some a => (match mpOf s.hp id with
   | some (t', l) => (match t.eq t' && t.clean && ones a.flat && beqB (aggQ a) t.isSt with
    | true => (match t.mk a.flat with
     | some (d, []) => some ⟨[], [id], [id], .one .nsl [(id, some (.mp t (lock mput l b d)))]⟩
     | _ => none)
    | false => none)
   | none => none)
  | _, _, _ => none
 | .mpg t ok m k => match s.ev m, s.ev k with
  | some (.mpv id), some (.str b) => (match mpOf s.hp id with
   | some (t', l) => (match t.eq t' && t.isSt with
    | true => (match ok with
     | true => some ⟨[], [id], [], .one (.tup [.agg (t.leaves (lock mval t.zero l b)), .v (.bool (lock mhas l b))]) []⟩
     | false => some ⟨[], [id], [], .one (.agg (t.leaves (lock mval t.zero l b))) []⟩)
    | false => none)
   | none => none)
  | _, _ => none
def runOb : List Prop → Prop → Prop
 | [], B => B
 | p :: ps, B => p ∧ runOb ps B
def sel (b : Bool) (A B : Unit → Prop) : Prop := match b with | true => A () | false => B ()
def St.put (s : St) (dst : Option Nat) (v : Option SV) (u : List (Nat × Option Ck)) : St :=
 ⟨match dst with | some d => fput s.fr d v | none => s.fr, hupd u s.hp, s.nx⟩
structure Hidden (p : Prop) : Prop where
 out : p
def Eff.go (E : Eff) (s : St) (dst : Option Nat) (K : St → Prop) : Prop :=
 runOb E.ob (match E.out with
  | .one v u => K (s.put dst (some v) u)
  | .many X P v u => ∀ x : X, P x → Hidden (K (s.put dst (some (v x)) (u x))))
mutual
noncomputable def SV.frz (id : Nat) (r : R) : SV → SV
 | .wsl j => match Nat.beq j id with | true => .rsl r | false => .wsl j
 | .sl j lo n => match Nat.beq j id with | true => .rsl (r.sub lo n) | false => .sl j lo n
 | .agg l => .agg (SV.frzL id r l)
 | .tup l => .tup (SV.frzL id r l)
 | .fn f l => .fn f (SV.frzL id r l)
 | .v x => .v x | .str l => .str l | .ptr i o => .ptr i o | .ept i k o => .ept i k o | .esl i k => .esl i k | .rpt q i o => .rpt q i o | .rsl q => .rsl q | .nsl => .nsl | .mpv i => .mpv i
noncomputable def SV.frzL (id : Nat) (r : R) : List SV → List SV
 | [] => []
 | x :: xs => x.frz id r :: SV.frzL id r xs
end
noncomputable def frzFr (id : Nat) (r : R) : List (Option SV) → List (Option SV)
 | [] => []
 | some x :: xs => some (x.frz id r) :: frzFr id r xs
 | none :: xs => none :: frzFr id r xs
noncomputable def Ck.frz (id : Nat) (r : R) : Ck → Ck
 | .blk T vs => .blk T (SV.frzL id r vs)
 | .row q => .row q
 | .prow T tm n g => .prow T tm n g
 | .gho tm l none => .gho tm l none
 | .gho tm l (some (k, cs)) => .gho tm l (some (k, SV.frzL id r cs))
 | .mp t l => .mp t l
noncomputable def frzHp (id : Nat) (r : R) : List (Nat × Ck) → List (Nat × Ck)
 | [] => []
 | (j, c) :: l => match Nat.beq j id with | true => frzHp id r l | false => (j, c.frz id r) :: frzHp id r l
noncomputable def St.frz1 (s : St) (id : Nat) : St := match hget s.hp id with
 | some (.row r) => ⟨frzFr id r s.fr, frzHp id r s.hp, s.nx⟩
 | _ => s
noncomputable def St.frz (s : St) : List Nat → St
 | [] => s
 | i :: l => St.frz (s.frz1 i) l
mutual
def SV.wids : SV → List Nat
 | .wsl id => [id]
 | .agg l => SV.widsL l
 | .sl id _ _ => [id]
 | .v _ => [] | .str _ => [] | .ptr _ _ => [] | .ept _ _ _ => [] | .esl _ _ => [] | .rpt _ _ _ => [] | .rsl _ => [] | .nsl => [] | .tup _ => [] | .fn _ _ => [] | .mpv _ => []
def SV.widsL : List SV → List Nat
 | [] => []
 | x :: xs => x.wids ++ SV.widsL xs
end
def partIds : List (Nat × Nat × SV) → List Nat
 | [] => []
 | (_, _, v) :: l => v.wids ++ partIds l
noncomputable def fzIds : List Bool → List SV → List Nat
 | true :: bs, x :: xs => x.wids ++ fzIds bs xs
 | false :: bs, _ :: xs => fzIds bs xs
 | _, _ => []
noncomputable def St.pre (Γ : FuncId → Option Con) (s : St) : IOp → St
 | .call f xs => match Γ f with
  | some con => (match con.fz with
   | [] => s
   | b :: bs => (match s.evs xs with | some vs => s.frz (fzIds (b :: bs) vs) | none => s))
  | none => s
 | .bsl _ _ _ ps => match s.parts ps with | some l => s.frz (partIds l) | none => s
 | .st x v _ => match s.ev x with
  | some (.ept _ _ _) => (match s.ev v with | some a => s.frz a.wids | none => s)
  | _ => s
 | _ => s
noncomputable def vcExec (Γ : FuncId → Option Con) (o : Io) (fresh : Nat) (s : St) (K : St → Prop) : Prop :=
 match step Γ o.op (s.pre Γ o.op) fresh with
 | some E => E.go (s.pre Γ o.op) o.dst K
 | none => False
noncomputable def vcOp (Γ : FuncId → Option Con) (o : Io) (fresh : Nat) (s : St) (K : St → Prop) : Prop :=
 match o.g with
 | none => vcExec Γ o fresh s K
 | some (g, true) => (match fget s.fr g with
  | some (.v (.bool b)) => sel b (fun _ => vcExec Γ o fresh (s.put (some g) (some (.v (.bool true))) []) K) (fun _ => K ((s.put (some g) (some (.v (.bool false))) []).put o.dst (some (.tup [])) []))
  | some (.tup []) => K (s.put o.dst (some (.tup [])) [])
  | _ => False)
 | some (g, false) => (match fget s.fr g with
  | some (.v (.bool b)) => sel b (fun _ => K ((s.put (some g) (some (.v (.bool true))) []).put o.dst (some (.tup [])) [])) (fun _ => vcExec Γ o fresh (s.put (some g) (some (.v (.bool false))) []) K)
  | some (.tup []) => K (s.put o.dst (some (.tup [])) [])
  | _ => False)
noncomputable def vcOps (Γ : FuncId → Option Con) : List Io → Nat → St → (St → Prop) → Prop
 | [], _, s, K => K s
 | o :: os, f, s, K => vcOp Γ o f s (fun s => vcOps Γ os (f + 8) s K)
def accOk (pre rd wr : List Nat) : List (Nat × List Nat × List Nat) → Bool
 | [] => true
 | (p, rdp, wrp) :: l => match nmem p pre with
  | true => accOk pre rd wr l
  | false => match ndisj wrp rd with
   | true => match ndisj wrp wr with
    | true => match ndisj wr rdp with
     | true => accOk pre rd wr l
     | false => false
    | false => false
   | false => false
def Out.obs : Out → List Prop
 | .one _ _ => []
 | .many X P _ _ => [∃ x : X, P x]
noncomputable def vcExecD (Γ : FuncId → Option Con) (o : Io) (j fresh : Nat) (acc : List (Nat × List Nat × List Nat)) (s : St) (K : List (Nat × List Nat × List Nat) → St → Prop) : Prop :=
 match step Γ o.op s fresh with
 | some E => match accOk o.pre E.rd E.wr acc with
  | true => runOb E.out.obs (E.go s o.dst (K ((j, E.rd, E.wr) :: acc)))
  | false => False
 | none => False
noncomputable def vcOpD (Γ : FuncId → Option Con) (o : Io) (j fresh : Nat) (acc : List (Nat × List Nat × List Nat)) (s : St) (K : List (Nat × List Nat × List Nat) → St → Prop) : Prop :=
 match o.g with
 | none => vcExecD Γ o j fresh acc s K
 | some (g, true) => (match fget s.fr g with
  | some (.v (.bool b)) => sel b (fun _ => vcExecD Γ o j fresh acc s K) (fun _ => K acc (s.put o.dst (some (.tup [])) []))
  | some (.tup []) => K acc (s.put o.dst (some (.tup [])) [])
  | _ => False)
 | some (g, false) => (match fget s.fr g with
  | some (.v (.bool b)) => sel b (fun _ => K acc (s.put o.dst (some (.tup [])) [])) (fun _ => vcExecD Γ o j fresh acc s K)
  | some (.tup []) => K acc (s.put o.dst (some (.tup [])) [])
  | _ => False)
noncomputable def vcOpsD (Γ : FuncId → Option Con) : List Io → Nat → Nat → List (Nat × List Nat × List Nat) → St → (St → Prop) → Prop
 | [], _, _, _, s, K => K s
 | o :: os, j, f, acc, s, K => vcOpD Γ o j f acc s (fun acc s => vcOpsD Γ os (j + 1) (f + 8) acc s K)
inductive Ex where
 | nxt | ret | exit (id : Nat)
noncomputable def vc (Γ : FuncId → Option Con) (L : IC → St → (Ex → St → Prop) → Prop) : IC → St → (Ex → St → Prop) → Prop
 | .skip, s, K => K .nxt s
 | .ret, s, K => K .ret s
 | .exit id, s, K => K (.exit id) s
 | .reg false ops, s, K => vcOps Γ ops s.nx ⟨s.fr, s.hp, s.nx + 8 * ops.length⟩ (K .nxt)
 | .reg true ops, s, K => vcOpsD Γ ops 0 s.nx [] ⟨s.fr, s.hp, s.nx + 8 * ops.length⟩ (K .nxt)
 | .seq a b, s, K => vc Γ L a s fun e s => match e with
  | .nxt => vc Γ L b s K
  | .ret => K .ret s
  | .exit id => K (.exit id) s
 | .cond x a b, s, K => match s.ev x with
  | some (.v (.bool c)) => sel c (fun _ => vc Γ L a s K) (fun _ => vc Γ L b s K)
  | _ => False
 | .block id c, s, K => vc Γ L c s fun e s => match e with
  | .nxt => K .nxt s
  | .ret => K .ret s
  | .exit j => match Nat.beq j id with | true => K .nxt s | false => K (.exit j) s
 | .loop c, s, K => L (.loop c) s K
 | .rfn x ps asg body, s, K => L (.rfn x ps asg body) s K
 | .bad, s, K => False
def left (n : Nat) : Bool := decide (1000000 ≤ n)
section
variable (ex : Io → Nat → St → (St → Prop) → Prop)
end
def cK : Value → Option SV
  | .int k x => some (.v (.int k x))
  | .bool b => some (.v (.bool b))
  | .pointer none => some (.v (.pointer none))
  | .nilFunc => some (.v .nilFunc)
  | .string s => some (.str s.data.toList)
  | .slice none 0 0 => some .nsl
  | _ => none
def cX : Operand → Option Opnd
  | .tmp t => some (.t t)
  | .const v => (cK v).map .k
  | .func f => some (.f f)
  | .global _ => none
def cXs : List Operand → Option (List Opnd)
  | [] => some []
  | x :: xs => do
    let a ← cX x
    let b ← cXs xs
    pure (a :: b)
def cKs : List Value → Option (List SV)
  | [] => some []
  | x :: xs => do
    let a ← cK x
    let b ← cKs xs
    pure (a :: b)
def bkOf : BinOp → Option BK
  | .add => some .add | .sub => some .sub | .mul => some .mul | .quo => some .quo | .rem => some .rem
  | .and => some .and | .or => some .or | .xor => some .xor | .andNot => some .andn
  | .eql => some .eq | .neq => some .ne | .lss => some .lt | .leq => some .le | .gtr => some .gt | .geq => some .ge
  | _ => none
def skOf : BinOp → Option SK
  | .add => some .add
  | .eql => some .eq | .neq => some .ne | .lss => some .lt | .leq => some .le | .gtr => some .gt | .geq => some .ge
  | _ => none
def neOf : BinOp → Option Bool
  | .eql => some false | .neq => some true | _ => none
def offsOk (P : Program) : List Field → Nat → Bool
  | [], _ => true
  | f :: fs, o => f.offset == o && P.cellsOf f.type != 0 && offsOk P fs (o + P.cellsOf f.type)
mutual
def tyOf (P : Program) : Nat → TypeId → Option Ty
  | 0, _ => none
  | n + 1, t => match P.underlying t with
    | some (.int k) => some (.int k)
    | some .bool => some .bool
    | some .string => some .str
    | some (.slice e) => match P.underlying e with
      | some (.int .u8) => some (.bytes e)
      | some (.int k) => some (.ints e k)
      | _ => if tySelf e then some (.self e) else (tyOf P n e).map (.row e)
    | some (.struct fs) => if offsOk P fs.toList 0 then (tysOf P n fs.toList).map .st else none
    | some (.array k e) => match P.underlying e with
      | some (.int .u8) => some (.u8s k)
      | _ => (tyOf P n e).map fun t => .st (List.replicate k t)
    | _ => none
def tysOf (P : Program) : Nat → List Field → Option (List Ty)
  | _, [] => some []
  | 0, _ => none
  | n + 1, f :: fs => do
    let a ← tyOf P n f.type
    let b ← tysOf P n fs
    pure (a :: b)
end
def vEq : Value → Value → Bool
  | .int k x, .int j y => k == j && x == y
  | .bool x, .bool y => x == y
  | .string x, .string y => x.data == y.data
  | .slice none 0 0, .slice none 0 0 => true
  | _, _ => false
def vEqs : List Value → List Value → Bool
  | [], [] => true
  | x :: xs, y :: ys => vEq x y && vEqs xs ys
  | _, _ => false
def rkOf0 (P : Program) (e : TypeId) : Option RK :=
  match P.underlying e with
  | some (.int .u8) => some (.bs e)
  | some (.int k) => some (.ints e k)
  | _ => match tyOf P 20 e with
    | some t => if t.size == P.cellsOf e && t.size != 0 then some (.row e t) else none
    | none => none
def rkOf (P : Program) (e : TypeId) : Option RK :=
  match rkOf0 P e, (P.info? e).bind (·.zero) with
  | some rk, some z => if vEqs z.cells.toList rk.zvals && P.cellsOf e == rk.sz && rk.sz != 0 then some rk else none
  | _, _ => none
def aggOf (P : Program) (t : TypeId) : Option Bool :=
  match P.underlying t with
  | some (.struct _) => some true
  | some (.array _ _) => some true
  | some _ => some false
  | none => none
def zeroOf (P : Program) (t : TypeId) : Option (List SV) := do
  let i ← P.info? t
  let z ← i.zero
  cKs z.cells.toList
def reps : Nat → List SV → List SV
  | 0, _ => []
  | n + 1, l => l ++ reps n l
def cPartsS (P : Program) (fs : Array Field) : List (Nat × Operand) → Option (List (Nat × Nat × Opnd))
  | [] => some []
  | (i, x) :: ps => do
    let f ← fs[i]?
    let a ← cX x
    let b ← cPartsS P fs ps
    pure ((f.offset, P.cellsOf f.type, a) :: b)
def cPartsA (sz : Nat) : List (Nat × Operand) → Option (List (Nat × Nat × Opnd))
  | [] => some []
  | (i, x) :: ps => do
    let a ← cX x
    let b ← cPartsA sz ps
    pure ((i * sz, sz, a) :: b)
def cO : Option Operand → Option (Option Opnd)
  | none => some none
  | some x => (cX x).map some
def nilK : Operand → Bool
  | .const (.pointer none) => true
  | .const (.slice none 0 0) => true
  | .const .nilFunc => true
  | _ => false

def tm98 : Tm := (.p 103 [(.v (.st [.str, (.int .u64), (.int .u64), (.int .u64), (.int .i64), .bool])), (.v (.st [(.int .u64), (.int .u64), (.int .u64)])), (.p 144 [(.v (.int .i64)), (.w 75 (.st [(.int .u64), (.int .i64), (.int .i64)])), (.v (.int .i64)), (.v (.int .i64))])])
def tm72 : Tm := (.w 75 (.st [(.int .u64), (.int .i64), (.int .i64)]))
def tmTab : List (Nat × Tm) := [(98, tm98)]
def ownTab : List (String × Tm) := [("plan.go:104", tm72)]
def tmFind : List (Nat × Tm) → Nat → Option Tm
  | [], _ => none
  | (j, t) :: l, T => match Nat.beq T j with | true => some t | false => tmFind l T
def Tm.wsz : Tm → Bool
  | .w _ u => u.size != 0
  | _ => false
def ownFind : List (String × Tm) → String → Option Tm
  | [], _ => none
  | (j, t) :: l, s => match s == j with | true => some t | false => ownFind l s
def mpTy (P : Program) (t : TypeId) : Option Ty :=
  match P.underlying t with
  | some (.map k v) => match P.underlying k, tyOf P 20 v, zeroOf P v with
    | some .string, some u, some z => if vEqs ((((P.info? v).bind (·.zero)).map (·.cells.toList)).getD []) u.zvals && u.size == P.cellsOf v && u.size != 0 && u.clean && ((P.info? v).bind (·.zero)).any (fun z => match z with | .agg _ => u.isSt | _ => false) then some u else none
    | _, _, _ => none
  | _ => none
def flatKs (P : Program) : List Field → Nat → Option (List Nat)
  | [], _ => some []
  | f :: fs, o => if f.name != "_" && f.offset == o then
      match P.underlying f.type, flatKs P fs (o + 1) with
      | some (.int _), some l => some (0 :: l)
      | some .bool, some l => some (1 :: l)
      | some .string, some l => some (2 :: l)
      | _, _ => none
    else none
def cOp (P : Program) (o : Oper) : Option IOp :=
  match o.op with
  | .move x => (cX x).map .mv
  | .assign x => (cX x).map .mv
  | .pick c a b => do pure (.pick (← cX c) (← cX a) (← cX b))
  | .binOp op t x y _ => match P.underlying t with
    | some (.int k) => match op with
      | .shl => do pure (.sh true k (← cX x) (← cX y))
      | .shr => do pure (.sh false k (← cX x) (← cX y))
      | _ => do pure (.ib (← bkOf op) k (← cX x) (← cX y))
    | some .string => do pure (.sb (← skOf op) (← cX x) (← cX y))
    | some .bool => do pure (.bb (← neOf op) (← cX x) (← cX y))
    | some (.pointer _) => if (y matches .const (.pointer none)) then do pure (.isn 0 (← neOf op) (← cX x)) else none
    | some (.slice _) => if (y matches .const (.slice none 0 0)) then do pure (.isn 1 (← neOf op) (← cX x)) else none
    | some (.func _ _ _) => if (y matches .const .nilFunc) then do pure (.isn 2 (← neOf op) (← cX x)) else none
    | some (.struct fs) => if !P.stoodInHeld t && !P.eqGuardType P.depth t then do pure (.steq (← flatKs P fs.toList 0) (← neOf op) (← cX x) (← cX y)) else none
    | _ => none
  | .unOp op t x => match op, P.underlying t with
    | .not, _ => (cX x).map .bnot
    | .neg, some (.int k) => (cX x).map (.ineg k)
    | .xor, some (.int k) => (cX x).map (.icom k)
    | _, _ => none
  | .load t x => match aggOf P t with
    | some true => do pure (.lda (← cX x) (P.cellsOf t))
    | some false => (cX x).map .ld
    | none => none
  | .store t x v => if (P.info? t).isSome && o.dst.isNone then do pure (.st (← cX x) (← cX v) (P.cellsOf t)) else none
  | .nilCheck x => (cX x).map .chk
  | .fieldAddr t x f => match P.underlying t with
    | some (.struct fs) => do
      let g ← fs[f]?
      if P.cellsOf g.type != 0 then pure (.fld (← cX x) g.offset) else none
    | _ => none
  | .indexAddr t x i => match P.underlying t with
    | some (.slice e) => if P.cellsOf e != 0 then do pure (.idx (← cX x) (← cX i) (P.cellsOf e)) else none
    | some (.array n e) => match x with
      | .global g => match gfind globs g with
        | some r => if P.cellsOf e != 0 && r.sz == P.cellsOf e && r.glen == n && Nat.ble 2 n then (cX i).map (.gix g) else none
        | none => none
      | _ => none
    | _ => none
  | .index t x i => match P.underlying t with
    | some .string => do pure (.sidx (← cX x) (← cX i))
    | _ => none
  | .sliceToArrayPointer t x => match P.underlying t with
    | some (.array n e) => match P.underlying e with
      | some (.int .u8) => if P.cellsOf e == 1 && Nat.ble 1 n then (cX x).map (.s2a t n) else none
      | _ => none
    | _ => none
  | .extract x i => (cX x).map (.ext · i)
  | .field t x f => match P.underlying t with
    | some (.struct fs) => do
      let g ← fs[f]?
      pure (.part (← cX x) g.offset (P.cellsOf g.type) (← aggOf P g.type))
    | _ => none
  | .convert s d x => match P.underlying s, P.underlying d with
    | some (.int _), some (.int k) => (cX x).map (.conv k)
    | some .string, some .string => (cX x).map .smv
    | some .string, some (.slice e) => match P.underlying e with
      | some (.int .u8) => (cX x).map (.s2b e)
      | _ => none
    | some (.slice e), some .string => match P.underlying e with
      | some (.int .u8) => (cX x).map .b2s
      | _ => none
    | some (.slice e), some (.slice _) => match s == d, P.underlying e with
      | true, some (.int .u8) => (cX x).map .cvs
      | _, _ => none
    | _, _ => none
  | .alloc t => (zeroOf P t).map (.new t)
  | .box t x => if (P.info? t).isSome then (cX x).map (.box t (P.cellsOf t)) else none
  | .build t ps => match P.underlying t with
    | some (.struct fs) => if fs.toList.all (fun f => (P.info? f.type).isSome) then do pure (.build (← zeroOf P t) (← cPartsS P fs ps.toList)) else none
    | _ => none
  | .buildSlice t n ps => match P.underlying t with
    | some (.slice e) => match tmFind tmTab e with
     | some tm => match n, ps.toList, zeroOf P e with
       | 1, [(0, x)], some [_] => if P.cellsOf e == 1 then (cX x).map (.bsld e tm) else none
       | _, _, _ => none
     | none => do
      let z ← zeroOf P e
      if z.length == P.cellsOf e && P.cellsOf e != 0 && n * P.cellsOf e ≤ 16777216 then
        pure (.bsl (← rkOf P e) n (reps n z) (← cPartsA (P.cellsOf e) ps.toList))
      else none
    | _ => none
  | .slice t x lo hi mx => match mx, P.underlying t with
    | none, some .string => do pure (.ssl (← cX x) (← cO lo) (← cO hi))
    | none, some (.slice e) => if P.cellsOf e != 0 then do pure (.sls (← cX x) (← cO lo) (← cO hi) (P.cellsOf e)) else none
    | none, some (.array n e) => match lo, hi, P.underlying e with
      | none, none, some (.int .u8) => if P.cellsOf e == 1 && Nat.ble 1 n && Nat.ble n 16777216 then (cX x).map (.sla n) else none
      | _, _, _ => none
    | _, _ => none
  | .makeSlice t l c => match P.underlying t with
    | some (.slice e) => match ownFind ownTab o.pos with
      | some tm => match (P.info? e).bind (·.zero) with
        | some z => if tm.wsz && P.cellsOf e == 1 && vEqs z.cells.toList [.slice none 0 0] && P.bytesOf e != 0 then do pure (.mksd e tm (P.bytesOf e) (← cX l) (← cX c)) else none
        | none => none
      | none => do pure (.mks (← rkOf P e) (P.bytesOf e) (← cX l) (← cX c))
    | _ => none
  | .makeMap t none => (mpTy P t).map .mkm
  | .mapUpdate t m k v => match mpTy P t with
    | some u => if o.dst.isNone then do pure (.mpu u (← cX m) (← cX k) (← cX v)) else none
    | none => none
  | .lookup t m k ok => match mpTy P t with
    | some u => do pure (.mpg u ok (← cX m) (← cX k))
    | none => none
  | .makeFunc (.func f) first caps => if first.size == 0 then do pure (.mkfn f (← cXs caps.toList)) else none
  | .call c => match c.callee with
    | .builtin .append => match c.args.toList, (c.argTypes[0]?).bind P.underlying, (c.argTypes[1]?).bind P.underlying with
      | [a, x], some (.slice e), some _ => if c.argTypes.size == 2 && c.argTypes[0]? == c.argTypes[1]? && P.bytesOf e != 0 then
          match tmFind tmTab e with
          | some tm => match zeroOf P e with
            | some [_] => if P.cellsOf e == 1 && tm.size == 1 then do pure (.appd e tm (P.bytesOf e) (← cX a) (← cX x)) else none
            | _ => none
          | none => do pure (.app (← rkOf P e) (P.bytesOf e) (← cX a) (← cX x)) else none
      | _, _, _ => none
    | .builtin .copy => match c.args.toList, (c.argTypes[0]?).bind P.underlying with
      | [a, x], some (.slice e) => if P.cellsOf e != 0 then do pure (.copy (← cX a) (← cX x) (P.cellsOf e)) else none
      | _, _ => none
    | .builtin .len => match c.args.toList, (c.argTypes[0]?).bind P.underlying with
      | [x], some (.slice _) => (cX x).map (.len false)
      | [x], some .string => (cX x).map (.len true)
      | _, _ => none
    | .builtin .max => match c.args.toList with
      | [x, y] => do pure (.mx (← cX x) (← cX y))
      | _ => none
    | .builtin .min => match c.args.toList with
      | [x, y] => do pure (.mn (← cX x) (← cX y))
      | _ => none
    | .builtin .clear => match c.args.toList, (c.argTypes[0]?).bind P.underlying with
      | [x], some (.slice e) => do pure (.clear (← rkOf P e) (← cX x))
      | _, _ => none
    | .value (.func f) => match P.funcs[f]? with
      | some fn => if fn.name != "runtime.NumGoroutine" && fn.body.isSome then (cXs c.args.toList).map (.call f) else none
      | none => none
    | .value (.tmp t) => (cXs c.args.toList).map (.callv (.t t))
    | _ => none
  | _ => none

def ancs (acc : List (List Nat)) (o : Oper) : List Nat :=
  o.after.toList.foldl (fun l e => if Region.binds .any e then l ++ (if nmem e.on l then [] else [e.on]) ++ ((acc.getD e.on []).filter fun i => !nmem i l && i != e.on) else l) []
def ancsL : List Oper → List (List Nat) → List (List Nat)
  | [], acc => acc
  | o :: os, acc => ancsL os (acc ++ [ancs acc o])
def cOps (P : Program) (all : Array Oper) (draw : Bool) : List (Oper × List Nat) → Option (List Io)
  | [] => some []
  | (o, pre) :: os => do
    let x ← cOp P o
    let g ← match o.guard with
      | none => some none
      | some (j, w) => do
        let p ← all[j]?
        let d ← p.dst
        pure (some (d, w))
    let l ← cOps P all draw os
    pure (⟨o.dst, g, if draw then pre else [], x⟩ :: l)
def Opnd.slots : Opnd → List Nat
  | .t n => [n]
  | _ => []
def Opnd.oslots : Option Opnd → List Nat
  | some x => x.slots
  | none => []
def Opnd.lslots : List Opnd → List Nat
  | [] => []
  | x :: xs => x.slots ++ Opnd.lslots xs
def Opnd.pslots : List (Nat × Nat × Opnd) → List Nat
  | [] => []
  | (_, _, x) :: xs => x.slots ++ Opnd.pslots xs
def IOp.slots : IOp → List Nat
  | .mv x => x.slots
  | .pick c a b => c.slots ++ a.slots ++ b.slots
  | .ib _ _ x y => x.slots ++ y.slots
  | .sh _ _ x y => x.slots ++ y.slots
  | .sb _ x y => x.slots ++ y.slots
  | .bb _ x y => x.slots ++ y.slots
  | .isn _ _ x => x.slots
  | .steq _ _ x y => x.slots ++ y.slots
  | .bnot x => x.slots
  | .ineg _ x => x.slots
  | .icom _ x => x.slots
  | .fld x _ => x.slots
  | .idx x i _ => x.slots ++ i.slots
  | .sidx x i => x.slots ++ i.slots
  | .ld x => x.slots
  | .lda x _ => x.slots
  | .st x v _ => x.slots ++ v.slots
  | .chk x => x.slots
  | .ext x _ => x.slots
  | .part x _ _ _ => x.slots
  | .conv _ x => x.slots
  | .smv x => x.slots
  | .gix _ x => x.slots
  | .cvs x => x.slots
  | .s2a _ _ x => x.slots
  | .sla _ x => x.slots
  | .s2b _ x => x.slots
  | .b2s x => x.slots
  | .box _ _ x => x.slots
  | .new _ _ => []
  | .build _ ps => Opnd.pslots ps
  | .bsl _ _ _ ps => Opnd.pslots ps
  | .ssl x lo hi => x.slots ++ Opnd.oslots lo ++ Opnd.oslots hi
  | .sls x lo hi _ => x.slots ++ Opnd.oslots lo ++ Opnd.oslots hi
  | .mks _ _ l c => l.slots ++ c.slots
  | .app _ _ x y => x.slots ++ y.slots
  | .copy x y _ => x.slots ++ y.slots
  | .len _ x => x.slots
  | .mx x y => x.slots ++ y.slots
  | .mn x y => x.slots ++ y.slots
  | .clear _ x => x.slots
  | .mkfn _ l => Opnd.lslots l
  | .call _ l => Opnd.lslots l
  | .callv g l => g.slots ++ Opnd.lslots l
  | .mksd _ _ _ l c => l.slots ++ c.slots
  | .appd _ _ _ x y => x.slots ++ y.slots
  | .bsld _ _ x => x.slots
  | .mkm _ => []
  | .mpu _ m k v => m.slots ++ k.slots ++ v.slots
  | .mpg _ _ m k => m.slots ++ k.slots
def Io.looks (io : Io) : List Nat := (match io.g with | some (g, _) => [g] | none => []) ++ io.op.slots
def apartIO (a b : Io) : Bool :=
  (match a.dst with
   | some d => !nmem d b.looks && (match b.dst with | some e => !Nat.beq d e | none => true)
   | none => true) &&
  (match b.dst with
   | some e => !nmem e a.looks
   | none => true)
def apartFrom (io : Io) : List Io → Nat → Bool
  | [], _ => true
  | a :: l, i => (nmem i io.pre || apartIO a io) && apartFrom io l (i + 1)
def edgesOf (o : Oper) : List Nat := o.after.toList.filterMap fun e => if Region.binds .any e then some e.on else none
def preOk (pres : List (List Nat)) (es pre : List Nat) (j : Nat) : Bool :=
  es.all (fun p => nmem p pre) && pre.all fun p => Nat.ble (p + 1) j && (nmem p es || es.any fun d => nmem p (pres.getD d []))
def drawChk (all : List Io) : List Oper → List Io → Nat → Bool
  | o :: os, io :: ios, j => preOk (all.map (·.pre)) (edgesOf o) io.pre j && apartFrom io (all.take j) 0 && drawChk all os ios (j + 1)
  | [], [], _ => true
  | _, _, _ => false
def comp (P : Program) : Code → Option IC
  | .skip => some .skip
  | .ret => some .ret
  | .exit id => some (.exit id)
  | .region _ ops false => match cOps P ops false (ops.toList.zip (ancsL ops.toList [])) with
    | some ios => some (.reg false ios)
    | none => some .bad
  | .region _ ops true => match cOps P ops true (ops.toList.zip (ancsL ops.toList [])) with
    | some ios => match drawChk ios ops.toList ios 0 with
      | true => some (.reg true ios)
      | false => some .bad
    | none => some .bad
  | .seq a b => do pure (.seq (← comp P a) (← comp P b))
  | .cond x a b => match cX x with
    | some y => do pure (.cond y (← comp P a) (← comp P b))
    | none => some .bad
  | .block id c => (comp P c).map (.block id)
  | .loop c => (comp P c).map .loop
  | .rangeFunc g ps asg body => match cX g with
    | some x => do pure (.rfn x ps.toList (← comp P asg) (← comp P body))
    | none => some .bad
  | _ => some .bad
end Go.Proofs.Ytojbpjcfdjakkaa
end
section
set_option linter.unusedVariables false
set_option linter.unusedSimpArgs false
namespace Go.Proofs.Ytojbpjcfdjakkaa
open Go.RowKit
structure Pl where
 a : Option Addr
 len : Nat
 cap : Nat
 sz : Nat
 bl : List (List Value × List Nat)
def Ck.has : Ck → Pl → Nat → Prop
 | .gho _ _ none, p, b => ∃ (i : Nat) (e : List Value × List Nat), p.bl[i]? = some e ∧ b ∈ e.2
 | .gho _ _ (some (k, _)), p, b => ∃ (i : Nat) (e : List Value × List Nat), p.bl[i]? = some e ∧ b ∈ e.2 ∧ i ≠ k
 | .blk _ _, p, b => p.a = some ⟨b, 0, none⟩
 | .row _, p, b => p.a = some ⟨b, 0, none⟩
 | .prow _ _ _ _, p, b => p.a = some ⟨b, 0, none⟩
 | .mp _ _, p, b => p.a = some ⟨b, 0, none⟩
def rlen : R → Nat
 | .bs _ l => l.length
 | .ints _ _ l => l.length
 | .row _ _ l => l.length
theorem R.len_eq (r : R) : r.len = rlen r := by cases r <;> simp [R.len, rlen, lock_eq, xlen]
inductive Den (PL : Nat → Option Pl) (w : World) (Av : Nat → Prop) : SV → Value → Prop
 | v (x : Value) : Den PL w Av (.v x) x
 | str (l : List UInt8) : Den PL w Av (.str l) (.string ⟨l.toArray⟩)
 | ptr (id off b : Nat) (p : Pl) (h : PL id = some p) (ha : p.a = some ⟨b, 0, none⟩) : Den PL w Av (.ptr id off) (.pointer (some ⟨b, off, none⟩))
 | ept (id i off b : Nat) (p : Pl) (h : PL id = some p) (ha : p.a = some ⟨b, 0, none⟩) (hi : i < p.len) : Den PL w Av (.ept id i off) (.pointer (some ⟨b, i * p.sz + off, none⟩))
 | esl (id i b : Nat) (p : Pl) (h : PL id = some p) (ha : p.a = some ⟨b, 0, none⟩) (hi : i < p.len) : Den PL w Av (.esl id i) (.slice (some ⟨b, i * p.sz, none⟩) p.sz p.sz)
 | rpt (r : R) (i off : Nat) (A : Addr) (cap : Nat) (h : Den PL w Av (.rsl r) (.slice (some A) (rlen r) cap)) (hi : i < rlen r) : Den PL w Av (.rpt r i off) (.pointer (some ((A.add (i * r.sz)).add off)))
 | sl (id lo len : Nat) (p : Pl) (A : Option Addr) (cap : Nat) (h : PL id = some p) (hl : lo + len ≤ p.len) (hc : len ≤ cap) (hn : A = none ↔ p.a = none) (hA : len ≠ 0 → A = p.a.map (·.add (lo * p.sz))) : Den PL w Av (.sl id lo len) (.slice A len cap)
 | wsl (id : Nat) (p : Pl) (h : PL id = some p) : Den PL w Av (.wsl id) (.slice p.a p.len p.cap)
 | mpv (id b : Nat) (p : Pl) (h : PL id = some p) (ha : p.a = some ⟨b, 0, none⟩) : Den PL w Av (.mpv id) (.map (some b))
 | nsl : Den PL w Av .nsl (.slice none 0 0)
 | agg (l : List SV) (cs : List Value) (hl : cs.length = l.length) (h : ∀ (j : Nat) (h1 : j < l.length) (h2 : j < cs.length), Den PL w Av l[j] cs[j]) (h1 : ∀ c ∈ cs, c.oneCell' = true) : Den PL w Av (.agg l) (.agg cs.toArray)
 | tup (l : List SV) (cs : List Value) (hl : cs.length = l.length) (h : ∀ (j : Nat) (h1 : j < l.length) (h2 : j < cs.length), Den PL w Av l[j] cs[j]) : Den PL w Av (.tup l) (.tuple cs.toArray)
 | fn (f : FuncId) (l : List SV) (cs : List Value) (hl : cs.length = l.length) (h : ∀ (j : Nat) (h1 : j < l.length) (h2 : j < cs.length), Den PL w Av l[j] cs[j]) : Den PL w Av (.fn f l) (.func (.func f) #[] cs.toArray)
 | rsl (r : R) (A : Option Addr) (cap : Nat) (u : Nat → Nat → Value) (hcap : rlen r ≤ cap) (hsome : 0 < rlen r → ∃ ad, A = some ad ∧ ad.block < w.heap.size ∧ ¬ Av ad.block)
   (hcell : ∀ i j ad, A = some ad → i < rlen r → j < r.sz → w.cell? ((ad.add (i * r.sz)).add j) = some (u i j) ∧ (u i j).oneCell' = true)
   (hden : ∀ (i j : Nat) (hi : i < rlen r) (hj : j < (r.elem i).length), Den PL w Av (r.elem i)[j] (u i j)) : Den PL w Av (.rsl r) (.slice A (rlen r) cap)
theorem Z5m (a : Addr) (n : Nat) : (a.add n).block = a.block := by unfold Addr.add; split <;> rfl
theorem Den.mono {PL PL' : Nat → Option Pl} {w w' : World} {Av Av' : Nat → Prop} {s : SV} {v : Value} (h : Den PL w Av s v)
  (hP : ∀ i p, PL i = some p → PL' i = some p) (hs : w.heap.size ≤ w'.heap.size) (hw : ∀ b, b < w.heap.size → ¬ Av b → w'.heap[b]? = w.heap[b]?) (hA : ∀ b, b < w.heap.size → Av' b → Av b) : Den PL' w' Av' s v := by
 induction h with
 | v x => exact .v x
 | str l => exact .str l
 | ptr id off b p h ha => exact .ptr id off b p (hP _ _ h) ha
 | ept id i off b p h ha hi => exact .ept id i off b p (hP _ _ h) ha hi
 | esl id i b p h ha hi => exact .esl id i b p (hP _ _ h) ha hi
 | rpt r i off A cap h hi ih => exact .rpt r i off A cap ih hi
 | sl id lo len p A cap h hl hc hn hA => exact .sl id lo len p A cap (hP _ _ h) hl hc hn hA
 | wsl id p h => exact .wsl id p (hP _ _ h)
 | mpv id b p h ha => exact .mpv id b p (hP _ _ h) ha
 | nsl => exact .nsl
 | agg l cs hl h h1 ih => exact .agg l cs hl (fun j a b => ih j a b) h1
 | tup l cs hl h ih => exact .tup l cs hl (fun j a b => ih j a b)
 | fn f l cs hl h ih => exact .fn f l cs hl (fun j a b => ih j a b)
 | rsl r A cap u hcap hsome hcell hden ih =>
  refine .rsl r A cap u hcap ?_ ?_ (fun i j hi hj => ih i j hi hj)
  ·intro h0
   obtain ⟨ad, e, hl, hv⟩ := hsome h0
   exact ⟨ad, e, by omega, fun hx => hv (hA _ hl hx)⟩
  intro i j ad e hi hj
  obtain ⟨ad', e', hl, hv⟩ := hsome (by omega)
  rw [e] at e'
  injection e' with e'
  subst e'
  obtain ⟨hc, h1⟩ := hcell i j ad e hi hj
  refine ⟨?_, h1⟩
  rw [← hc]
  exact World.cell?_of_block (w := w) (by simp only [Z5m]; exact hw _ hl hv)
theorem Z46 : ∀ (n : Nat) (d : D) (j : Nat), u8v n d j = (List.range n).map fun i => SV.v (.int .u8 (lock D.toI (lock D.fld d (j + i))))
 | 0, d, j => rfl
 | n + 1, d, j => by
  rw [u8v, Z46 n d (j + 1), List.range_succ_eq_map, List.map_cons, List.map_map]
  simp only [Nat.add_zero, List.cons.injEq, true_and]
  apply List.map_congr_left
  intro i _
  simp only [Function.comp, Nat.succ_eq_add_one]
  rw [Nat.add_assoc, Nat.add_comm 1 i]
theorem Zfi {n : Nat} {d : D} {j : Nat} {x : SV} (h : x ∈ u8v n d j) : ∃ y, x = .v (.int .u8 y) := by
 rw [Z46] at h
 obtain ⟨i, _, e⟩ := List.mem_map.1 h
 exact ⟨_, e.symm⟩
theorem Ty.leaves_len : ∀ (t : Ty) (d : D), (t.leaves d).length = t.size := by
 intro t
 apply Ty.rec (motive_1 := fun t => ∀ d, (t.leaves d).length = t.size) (motive_2 := fun ts => ∀ d j, (Ty.leavesL ts d j).length = Ty.sizes ts)
 ·intro k d; rfl
 ·intro d; rfl
 ·intro d; rfl
 ·intro T d; rfl
 ·intro T k d; rfl
 ·intro T e _ d; rfl
 ·intro fs ih d; simp only [Ty.leaves, Ty.size]; exact ih d 0
 ·intro T d; rfl
 ·intro n d; simp only [Ty.leaves, Ty.size, Z46]; simp
 ·intro d j; rfl
 intro t ts ih1 ih2 d j; simp only [Ty.leavesL, Ty.sizes, List.length_append, ih1, ih2]
theorem R.elem_len (r : R) (i : Nat) : (r.elem i).length = r.sz := by
 cases r with
 | bs => rfl
 | ints => rfl
 | row T e l => exact Ty.leaves_len _ _
theorem Den.oneCell {PL : Nat → Option Pl} {w : World} {Av : Nat → Prop} {s : SV} {v : Value} (h : Den PL w Av s v) (h1 : s.one = true) : v.oneCell' = true := by
 cases h <;> first | rfl | (simp [SV.one] at h1; done) | skip
 cases v <;> first | rfl | (simp [SV.one] at h1; done)
def Own (PL : Nat → Option Pl) (hp : List (Nat × Ck)) (b : Nat) : Prop := ∃ id c p, hget hp id = some c ∧ PL id = some p ∧ c.has p b
mutual
def TmOk (w : World) (Av : Nat → Prop) : Tm → D → List Value → List Nat → Prop
 | .v t, d, us, bl => bl = [] ∧ us.length = t.size ∧ ∀ (j : Nat) (h1 : j < (t.leaves d).length) (h2 : j < us.length), Den (fun _ => none) w Av (t.leaves d)[j] us[j] ∧ us[j].oneCell' = true
 | .p T fs, d, us, bl => ∃ b cs bl', us = [.pointer (some ⟨b, 0, none⟩)] ∧ bl = b :: bl' ∧ w.heap[b]? = some (.cells cs T (0, 0)) ∧ TmsOk w Av fs d 0 cs.toList bl'
 | .w T e, d, us, bl => ∃ p : Pl, us = [.slice p.a p.len p.cap] ∧ p.len = d.toL.length ∧ p.sz = e.size ∧ 0 < e.size ∧ ((p.a = none ∧ p.cap = 0 ∧ p.len = 0 ∧ bl = []) ∨
   ∃ b cs, p.a = some ⟨b, 0, none⟩ ∧ bl = [b] ∧ w.heap[b]? = some (.cells cs T (0, 0)) ∧ p.len ≤ p.cap ∧ p.cap ≤ maxLen ∧ cs.size = p.cap * e.size ∧
    ∀ (i j : Nat) (hi : i < p.len) (hj : j < e.size) (h1 : j < (e.leaves (lock getD d.toL i)).length), ∃ u, cs[i * e.size + j]? = some u ∧ Den (fun _ => none) w Av (e.leaves (lock getD d.toL i))[j] u ∧ u.oneCell' = true)
def TmsOk (w : World) (Av : Nat → Prop) : List Tm → D → Nat → List Value → List Nat → Prop
 | [], _, _, us, bl => us = [] ∧ bl = []
 | t :: ts, d, j, us, bl => ∃ u1 u2 b1 b2, us = u1 ++ u2 ∧ bl = b1 ++ b2 ∧ TmOk w Av t (lock D.fld d j) u1 b1 ∧ TmsOk w Av ts d (j + 1) u2 b2
end
mutual
theorem TmOk.mono {w w' : World} {Av Av' : Nat → Prop} (hs : w.heap.size ≤ w'.heap.size) (hw : ∀ b, b < w.heap.size → ¬ Av b → w'.heap[b]? = w.heap[b]?) (hA : ∀ b, b < w.heap.size → Av' b → Av b) :
  ∀ (tm : Tm) (d : D) (us : List Value) (bl : List Nat), TmOk w Av tm d us bl → (∀ b ∈ bl, w'.heap[b]? = w.heap[b]?) → TmOk w' Av' tm d us bl
 | .v t, d, us, bl, h, hb => by
  simp only [TmOk] at h ⊢
  exact ⟨h.1, h.2.1, fun j h1 h2 => ⟨(h.2.2 j h1 h2).1.mono (fun _ _ h => h) hs hw hA, (h.2.2 j h1 h2).2⟩⟩
 | .p T fs, d, us, bl, h, hb => by
  simp only [TmOk] at h ⊢
  obtain ⟨b, cs, bl', h1, h2, h3, h4⟩ := h
  exact ⟨b, cs, bl', h1, h2, (hb b (by rw [h2]; exact List.mem_cons_self)).trans h3, TmsOk.mono hs hw hA fs d 0 cs.toList bl' h4 fun b' hb' => hb b' (by rw [h2]; exact List.mem_cons_of_mem _ hb')⟩
 | .w T e, d, us, bl, h, hb => by
  simp only [TmOk] at h ⊢
  obtain ⟨p, h1, h2, h3, h5, h6⟩ := h
  refine ⟨p, h1, h2, h3, h5, ?_⟩
  rcases h6 with h6 | ⟨b, cs, g1, g2, g3, g4, g5, g6, g7⟩
  ·exact .inl h6
  exact .inr ⟨b, cs, g1, g2, (hb b (by rw [g2]; exact List.mem_singleton.2 rfl)).trans g3, g4, g5, g6, fun i j hi hj h1 => by
   obtain ⟨u, e1, e2, e3⟩ := g7 i j hi hj h1
   exact ⟨u, e1, e2.mono (fun _ _ h => h) hs hw hA, e3⟩⟩
theorem TmsOk.mono {w w' : World} {Av Av' : Nat → Prop} (hs : w.heap.size ≤ w'.heap.size) (hw : ∀ b, b < w.heap.size → ¬ Av b → w'.heap[b]? = w.heap[b]?) (hA : ∀ b, b < w.heap.size → Av' b → Av b) :
  ∀ (ts : List Tm) (d : D) (j : Nat) (us : List Value) (bl : List Nat), TmsOk w Av ts d j us bl → (∀ b ∈ bl, w'.heap[b]? = w.heap[b]?) → TmsOk w' Av' ts d j us bl
 | [], d, j, us, bl, h, hb => by simpa only [TmsOk] using h
 | t :: ts, d, j, us, bl, h, hb => by
  simp only [TmsOk] at h ⊢
  obtain ⟨u1, u2, b1, b2, e1, e2, h1, h2⟩ := h
  exact ⟨u1, u2, b1, b2, e1, e2, TmOk.mono hs hw hA t _ u1 b1 h1 fun b hb' => hb b (by rw [e2]; exact List.mem_append_left _ hb'), TmsOk.mono hs hw hA ts d (j + 1) u2 b2 h2 fun b hb' => hb b (by rw [e2]; exact List.mem_append_right _ hb')⟩
end
mutual
theorem TmOk.lt {w : World} {Av : Nat → Prop} : ∀ (tm : Tm) (d : D) (us : List Value) (bl : List Nat), TmOk w Av tm d us bl → ∀ b ∈ bl, b < w.heap.size
 | .v t, d, us, bl, h, b, hb => by
  simp only [TmOk] at h
  rw [h.1] at hb
  cases hb
 | .p T fs, d, us, bl, h, b, hb => by
  simp only [TmOk] at h
  obtain ⟨b0, cs, bl', h1, h2, h3, h4⟩ := h
  rw [h2] at hb
  rcases List.mem_cons.1 hb with rfl | hb
  ·exact (Array.getElem?_eq_some_iff.1 h3).1
  exact TmsOk.lt fs d 0 cs.toList bl' h4 b hb
 | .w T e, d, us, bl, h, b, hb => by
  simp only [TmOk] at h
  obtain ⟨p, _, _, _, _, h6⟩ := h
  rcases h6 with h6 | ⟨b0, cs, g1, g2, g3, _⟩
  ·rw [h6.2.2.2] at hb; cases hb
  rw [g2] at hb
  have := List.mem_singleton.1 hb
  subst this
  exact (Array.getElem?_eq_some_iff.1 g3).1
theorem TmsOk.lt {w : World} {Av : Nat → Prop} : ∀ (ts : List Tm) (d : D) (j : Nat) (us : List Value) (bl : List Nat), TmsOk w Av ts d j us bl → ∀ b ∈ bl, b < w.heap.size
 | [], d, j, us, bl, h, b, hb => by
  simp only [TmsOk] at h
  rw [h.2] at hb
  cases hb
 | t :: ts, d, j, us, bl, h, b, hb => by
  simp only [TmsOk] at h
  obtain ⟨u1, u2, b1, b2, e1, e2, h1, h2⟩ := h
  rw [e2] at hb
  rcases List.mem_append.1 hb with hb | hb
  ·exact TmOk.lt t _ u1 b1 h1 b hb
  exact TmsOk.lt ts d (j + 1) u2 b2 h2 b hb
end
def GhAt (PL : Nat → Option Pl) (w : World) (Av : Nat → Prop) (tm : Tm) : Option (Nat × List SV) → Nat → D → List Value × List Nat → Prop
 | none, _, d, e => TmOk w Av tm d e.1 e.2
 | some (k, cs), i, d, e => (i = k → cs.length = tm.size ∧ e.1.length = tm.size ∧ ∀ (j : Nat) (h1 : j < cs.length) (h2 : j < e.1.length), Den PL w Av cs[j] e.1[j] ∧ e.1[j].oneCell' = true) ∧ (i ≠ k → TmOk w Av tm d e.1 e.2)
def BlND (bl : List (List Value × List Nat)) : Prop := (∀ (i : Nat) (e : List Value × List Nat), bl[i]? = some e → e.2.Nodup) ∧ ∀ (i j : Nat) (e f : List Value × List Nat) (b : Nat), bl[i]? = some e → bl[j]? = some f → b ∈ e.2 → b ∈ f.2 → i = j
def MvOk (w : World) (Av : Nat → Prop) (t : Ty) (d : D) (v : Value) : Prop := ∃ cs : List Value, (t.isSt = true → v = .agg cs.toArray) ∧ (t.isSt = false → cs = [v]) ∧ cs.length = t.size ∧ ∀ (j : Nat) (h1 : j < (t.leaves d).length) (h2 : j < cs.length), Den (fun _ => none) w Av (t.leaves d)[j] cs[j] ∧ cs[j].oneCell' = true
theorem MvOk.mono {w w' : World} {Av Av' : Nat → Prop} {t : Ty} {d : D} {v : Value} (h : MvOk w Av t d v) (hs : w.heap.size ≤ w'.heap.size) (hw : ∀ b, b < w.heap.size → ¬ Av b → w'.heap[b]? = w.heap[b]?) (hA : ∀ b, b < w.heap.size → Av' b → Av b) : MvOk w' Av' t d v := by
 obtain ⟨cs, h1, h2, h4, h3⟩ := h
 exact ⟨cs, h1, h2, h4, fun j a b => ⟨(h3 j a b).1.mono (fun _ _ h => h) hs hw hA, (h3 j a b).2⟩⟩
def CkOk (PL : Nat → Option Pl) (w : World) (Av : Nat → Prop) (id : Nat) : Ck → Prop
 | .blk T vs => ∃ p b cs, PL id = some p ∧ p.a = some ⟨b, 0, none⟩ ∧ w.heap[b]? = some (.cells cs T (0, 0)) ∧ cs.size = vs.length ∧
   ∀ (j : Nat) (h1 : j < vs.length) (h2 : j < cs.size), Den PL w Av vs[j] cs[j] ∧ cs[j].oneCell' = true
 | .row r => ∃ p, PL id = some p ∧ p.len = rlen r ∧ p.sz = r.sz ∧ 0 < r.sz ∧ ((p.a = none ∧ p.cap = 0 ∧ rlen r = 0) ∨
   ∃ b cs, p.a = some ⟨b, 0, none⟩ ∧ w.heap[b]? = some (.cells cs r.T (0, 0)) ∧ rlen r ≤ p.cap ∧ p.cap ≤ maxLen ∧ cs.size = p.cap * r.sz ∧
    ∀ (i j : Nat) (hi : i < rlen r) (hj : j < r.sz) (h1 : j < (r.elem i).length), ∃ u, cs[i * r.sz + j]? = some u ∧ Den PL w Av (r.elem i)[j] u ∧ u.oneCell' = true)
 | .prow T tm n g => ∃ p q, PL id = some p ∧ PL g = some q ∧ p.len = n ∧ q.bl.length = n ∧ p.sz = tm.size ∧ 0 < tm.size ∧ (∀ (i : Nat) (e : List Value × List Nat), q.bl[i]? = some e → e.1.length = tm.size ∧ ∀ u ∈ e.1, u.oneCell' = true) ∧ ((p.a = none ∧ p.cap = 0 ∧ n = 0) ∨
   ∃ b cs, p.a = some ⟨b, 0, none⟩ ∧ w.heap[b]? = some (.cells cs T (0, 0)) ∧ n ≤ p.cap ∧ p.cap ≤ maxLen ∧ cs.size = p.cap * tm.size ∧
    ∀ (i j : Nat) (e : List Value × List Nat) (u : Value), q.bl[i]? = some e → e.1[j]? = some u → cs[i * tm.size + j]? = some u)
 | .gho tm l o => ∃ p, PL id = some p ∧ p.bl.length = l.length ∧ BlND p.bl ∧ ∀ (i : Nat) (e : List Value × List Nat), p.bl[i]? = some e → GhAt PL w Av tm o i (lock getD l i) e
 | .mp t l => ∃ p b es c, PL id = some p ∧ p.a = some ⟨b, 0, none⟩ ∧ w.heap[b]? = some (.map es c) ∧ es.size = l.length ∧
   ∀ (i : Nat) (d : D) (e : MapEntry), l[i]? = some d → es[i]? = some e → e.key = .string ⟨(d.fld 0).toS.toArray⟩ ∧ MvOk w Av t (d.fld 1) e.val
theorem CkOk.mono {PL PL' : Nat → Option Pl} {w w' : World} {Av Av' : Nat → Prop} {id : Nat} {c : Ck} (h : CkOk PL w Av id c)
  (hP : ∀ i p, PL i = some p → PL' i = some p) (hs : w.heap.size ≤ w'.heap.size) (hw : ∀ b, b < w.heap.size → ¬ Av b → w'.heap[b]? = w.heap[b]?) (hA : ∀ b, b < w.heap.size → Av' b → Av b)
  (hb : ∀ p b, PL id = some p → c.has p b → w'.heap[b]? = w.heap[b]?) : CkOk PL' w' Av' id c := by
 cases c with
 | prow T tm n g =>
  obtain ⟨p, q, hp, hq, h1, h2, h3, h4, h5, h6⟩ := h
  refine ⟨p, q, hP _ _ hp, hP _ _ hq, h1, h2, h3, h4, h5, ?_⟩
  rcases h6 with h6 | ⟨b, cs, g1, g2, g3⟩
  ·exact .inl h6
  exact .inr ⟨b, cs, g1, (hb p b hp g1).trans g2, g3⟩
 | gho tm l o =>
  obtain ⟨p, hp, h1, h2, h3⟩ := h
  refine ⟨p, hP _ _ hp, h1, h2, fun i e he => ?_⟩
  have := h3 i e he
  cases o with
  | none => exact TmOk.mono hs hw hA _ _ _ _ this fun b hb' => hb p b hp ⟨i, e, he, hb'⟩
  | some o =>
   obtain ⟨k, cs⟩ := o
   exact ⟨fun hk => ⟨(this.1 hk).1, (this.1 hk).2.1, fun j a b => ⟨((this.1 hk).2.2 j a b).1.mono hP hs hw hA, ((this.1 hk).2.2 j a b).2⟩⟩, fun hk => TmOk.mono hs hw hA _ _ _ _ (this.2 hk) fun b hb' => hb p b hp ⟨i, e, he, hb', hk⟩⟩
 | mp t l =>
  obtain ⟨p, b, es, c, hp, ha, hh, hl, hd⟩ := h
  exact ⟨p, b, es, c, hP _ _ hp, ha, (hb p b hp ha).trans hh, hl, fun i d e h1 h2 => ⟨(hd i d e h1 h2).1, (hd i d e h1 h2).2.mono hs hw hA⟩⟩
 | blk T vs =>
  obtain ⟨p, b, cs, hp, ha, hh, hl, hd⟩ := h
  exact ⟨p, b, cs, hP _ _ hp, ha, (hb p b hp ha).trans hh, hl, fun j h1 h2 => ⟨(hd j h1 h2).1.mono hP hs hw hA, (hd j h1 h2).2⟩⟩
 | row r =>
  obtain ⟨p, hp, hl, hz, h0, hr⟩ := h
  refine ⟨p, hP _ _ hp, hl, hz, h0, ?_⟩
  rcases hr with hn | ⟨b, cs, ha, hh, h1, h2, h3, hd⟩
  ·exact .inl hn
  exact .inr ⟨b, cs, ha, (hb p b hp ha).trans hh, h1, h2, h3, fun i j hi hj hl => by
   obtain ⟨u, e, d, o⟩ := hd i j hi hj hl
   exact ⟨u, e, d.mono hP hs hw hA, o⟩⟩
structure Ctx where
 w0 : World
 Z : Nat → Prop
 O0 : Nat → Prop
 k : Nat
 PL0 : Nat → Option Pl
 n0 : Nat
def GOK (w0 : World) (Z O0 : Nat → Prop) : Prop := ∀ g r, (g, r) ∈ globs → Den (fun _ => none) w0 (fun b => Z b ∨ O0 b) (.rsl r) (.slice (some ⟨g, 0, none⟩) (rlen r) (rlen r))
structure HSat (C : Ctx) (PL : Nat → Option Pl) (hp : List (Nat × Ck)) (Fr : Nat → Prop) (w : World) : Prop where
 ck : ∀ id c, hget hp id = some c → CkOk PL w (fun b => C.Z b ∨ Own PL hp b) id c
 dj : ∀ i j c d p q b, hget hp i = some c → hget hp j = some d → PL i = some p → PL j = some q → c.has p b → d.has q b → i = j
 own : ∀ b, Own PL hp b → ¬ C.Z b ∧ (C.O0 b ∨ C.w0.heap.size ≤ b)
 os : w.os = C.w0.os
 tape : w.tape = C.w0.tape
 output : w.output = C.w0.output
 size : C.w0.heap.size ≤ w.heap.size
 old : ∀ b, b < C.w0.heap.size → ¬ C.O0 b → w.heap[b]? = C.w0.heap[b]?
 zlt : (∀ b, C.Z b → b < C.w0.heap.size) ∧ GOK C.w0 C.Z C.O0
 fr : ∀ id, Fr id → PL id = none
 arg : ∀ id, id < C.k → PL id = C.PL0 id
theorem HSat.glob {C : Ctx} {PL : Nat → Option Pl} {hp : List (Nat × Ck)} {Fr : Nat → Prop} {w : World} (h : HSat C PL hp Fr w) {g : Nat} {r : R} (hg : (g, r) ∈ globs) :
  Den (fun _ => none) w (fun b => C.Z b ∨ Own PL hp b) (.rsl r) (.slice (some ⟨g, 0, none⟩) (rlen r) (rlen r)) :=
 (h.zlt.2 g r hg).mono (fun _ _ h => by cases h) h.size (fun b hb hn => h.old b hb (fun ho => hn (.inr ho))) (fun b hb hA => by
  rcases hA with hz | ho
  ·exact .inl hz
  rcases (h.own b ho).2 with h1 | h1
  ·exact .inr h1
  omega)
def Mark (D : Nat) : Deferred := { target := .collected D, args := #[] }
def DefOK (Av : Nat → Prop) (n0 : Nat) (w : World) (ds : List Deferred) : Prop := n0 ≤ w.heap.size ∧ ∃ l : List Nat, ds = l.map Mark ∧ l.Nodup ∧ ∀ D ∈ l, w.heap[D]? = some (.deferred (some [])) ∧ ¬ Av D ∧ n0 ≤ D
theorem DefOK.mono {Av Av' : Nat → Prop} {n0 : Nat} {w w' : World} {ds : List Deferred} (h : DefOK Av n0 w ds) (hs : w.heap.size ≤ w'.heap.size) (hw : ∀ b, b < w.heap.size → ¬ Av b → w'.heap[b]? = w.heap[b]?) (hA : ∀ b, b < w.heap.size → Av' b → Av b) : DefOK Av' n0 w' ds := by
 obtain ⟨h0, l, h1, h2, h3⟩ := h
 refine ⟨Nat.le_trans h0 hs, l, h1, h2, fun D hD => ?_⟩
 obtain ⟨a, b, c⟩ := h3 D hD
 have hlt : D < w.heap.size := (Array.getElem?_eq_some_iff.1 a).1
 exact ⟨(hw D hlt b).trans a, fun hx => b (hA D hlt hx), c⟩
theorem DefOK.nil {Av : Nat → Prop} {n0 : Nat} {w : World} (h : n0 ≤ w.heap.size) : DefOK Av n0 w [] := ⟨h, [], rfl, List.nodup_nil, fun D hD => absurd hD (by simp)⟩
structure Sat (C : Ctx) (PL : Nat → Option Pl) (s : St) (Fr : Nat → Prop) (a : Act) (w : World) : Prop extends HSat C PL s.hp Fr w where
 len : a.tmps.size = s.fr.length
 def_ : DefOK (fun b => C.Z b ∨ Own PL s.hp b) C.n0 w a.defers
 slot : ∀ i v, fget s.fr i = some v → Den PL w (fun b => C.Z b ∨ Own PL s.hp b) v (a.tmps.getD i undef)
def Avo (C : Ctx) (PL : Nat → Option Pl) (hp : List (Nat × Ck)) : Nat → Prop := fun b => C.Z b ∨ Own PL hp b
theorem CkOk.lt {PL : Nat → Option Pl} {w : World} {Av : Nat → Prop} {id : Nat} {c : Ck} (h : CkOk PL w Av id c) {p : Pl} {b : Nat} (hp : PL id = some p) (ha : c.has p b) : b < w.heap.size := by
 cases c with
 | prow T tm n g =>
  obtain ⟨p', q, hp', hq, h1, h2, h3, h4, h5, h6⟩ := h
  rw [hp] at hp'; injection hp' with hp'; subst hp'
  have ha : p.a = some ⟨b, 0, none⟩ := ha
  rcases h6 with h6 | ⟨b', cs, g1, g2, g3⟩
  ·rw [h6.1] at ha; cases ha
  rw [ha] at g1; injection g1 with g1; injection g1 with g1; subst g1
  exact (Array.getElem?_eq_some_iff.1 g2).1
 | gho tm l o =>
  obtain ⟨p', hp', h1, h2, h3⟩ := h
  rw [hp] at hp'; injection hp' with hp'; subst hp'
  cases o with
  | none =>
   obtain ⟨i, e, he, hb⟩ := ha
   exact TmOk.lt _ _ _ _ (h3 i e he) b hb
  | some o =>
   obtain ⟨k, cs⟩ := o
   obtain ⟨i, e, he, hb, hk⟩ := ha
   exact TmOk.lt _ _ _ _ ((h3 i e he).2 hk) b hb
 | mp t l =>
  obtain ⟨q, b', es, c, hq, hb, hh, _⟩ := h
  rw [hp] at hq; injection hq with hq; subst hq
  have ha : p.a = some ⟨b, 0, none⟩ := ha
  rw [ha] at hb; injection hb with hb; injection hb with hb; subst hb
  exact (Array.getElem?_eq_some_iff.1 hh).1
 | blk T vs =>
  obtain ⟨q, b', cs, hq, hb, hh, _⟩ := h
  rw [hp] at hq; injection hq with hq; subst hq
  have ha : p.a = some ⟨b, 0, none⟩ := ha
  rw [ha] at hb; injection hb with hb; injection hb with hb; subst hb
  exact (Array.getElem?_eq_some_iff.1 hh).1
 | row r =>
  obtain ⟨q, hq, _, _, _, hr⟩ := h
  rw [hp] at hq; injection hq with hq; subst hq
  have ha : p.a = some ⟨b, 0, none⟩ := ha
  rcases hr with hn | ⟨b', cs, hb, hh, _⟩
  ·rw [hn.1] at ha; cases ha
  rw [ha] at hb; injection hb with hb; injection hb with hb; subst hb
  exact (Array.getElem?_eq_some_iff.1 hh).1
theorem HSat.lt {C : Ctx} {PL : Nat → Option Pl} {hp : List (Nat × Ck)} {Fr : Nat → Prop} {w : World} (h : HSat C PL hp Fr w) {b : Nat} (ho : Own PL hp b) : b < w.heap.size := by
 obtain ⟨id, c, p, hc, hp, ha⟩ := ho
 exact (h.ck id c hc).lt hp ha
theorem Zc6 : ∀ (l : List (Option SV)) (i : Nat) (v : Option SV), i < l.length → fget (fput l i v) i = v
 | [], i, v, h => by simp at h
 | x :: l, 0, v, h => rfl
 | x :: l, i + 1, v, h => by simp only [fput, fget]; exact Zc6 l i v (by simpa using h)
theorem Z77 : ∀ (l : List (Option SV)) (i j : Nat) (v : Option SV), i ≠ j → fget (fput l i v) j = fget l j
 | [], i, j, v, h => rfl
 | x :: l, 0, 0, v, h => absurd rfl h
 | x :: l, 0, j + 1, v, h => rfl
 | x :: l, i + 1, 0, v, h => rfl
 | x :: l, i + 1, j + 1, v, h => by simp only [fput, fget]; exact Z77 l i j v (by omega)
theorem Z5t : ∀ (l : List (Option SV)) (i : Nat) (v : Option SV), (fput l i v).length = l.length
 | [], i, v => rfl
 | x :: l, 0, v => rfl
 | x :: l, i + 1, v => by simp only [fput, List.length_cons, Z5t l i v]
theorem Z5s : ∀ (l : List (Option SV)) (i : Nat) (v : SV), fget l i = some v → i < l.length
 | [], i, v, h => by simp [fget] at h
 | x :: l, 0, v, h => by simp
 | x :: l, i + 1, v, h => by simp only [fget] at h; have := Z5s l i v h; simp; exact this
theorem nbeq (i j : Nat) : Nat.beq i j = true ↔ i = j := by simp [Nat.beq_eq_true_eq]
theorem Zm (i j : Nat) : Nat.beq i j = false ↔ i ≠ j := by
 constructor
 ·intro h e; rw [(nbeq i j).2 e] at h; cases h
 intro h; cases hb : Nat.beq i j with
 | true => exact absurd ((nbeq i j).1 hb) h
 | false => rfl
theorem Zhb : ∀ (h : List (Nat × Ck)) (i : Nat) (c : Ck), hget (hput h i c) i = some c
 | [], i, c => by simp [hput, hget]
 | (j, d) :: l, i, c => by
  unfold hput
  cases hb : Nat.beq i j with
  | true => simp only [hget, hb]
  | false => simp only [hget, hb]; exact Zhb l i c
theorem Zhc : ∀ (h : List (Nat × Ck)) (i k : Nat) (c : Ck), i ≠ k → hget (hput h i c) k = hget h k
 | [], i, k, c, h => by simp [hput, hget, (Zm k i).2 (Ne.symm h)]
 | (j, d) :: l, i, k, c, h => by
  unfold hput
  cases hb : Nat.beq i j with
  | true =>
   have := (nbeq i j).1 hb
   subst this
   simp only [hget, (Zm k i).2 (Ne.symm h)]
  | false => simp only [hget]; cases Nat.beq k j <;> simp only [Zhc l i k c h]
theorem Zch : ∀ (h : List (Nat × Ck)) (i : Nat), hget (hdel h i) i = none
 | [], i => rfl
 | (j, d) :: l, i => by
  unfold hdel
  cases hb : Nat.beq i j with
  | true => exact Zch l i
  | false => simp only [hget, hb]; exact Zch l i
theorem Zci : ∀ (h : List (Nat × Ck)) (i k : Nat), i ≠ k → hget (hdel h i) k = hget h k
 | [], i, k, h => rfl
 | (j, d) :: l, i, k, h => by
  unfold hdel
  cases hb : Nat.beq i j with
  | true =>
   have := (nbeq i j).1 hb
   subst this
   simp only [hget, (Zm k i).2 (Ne.symm h), Zci l i k h]
  | false => simp only [hget]; cases Nat.beq k j <;> simp only [Zci l i k h]
def ulook : List (Nat × Option Ck) → Nat → Option (Option Ck)
 | [], _ => none
 | (j, c) :: l, i => match ulook l i with
  | some x => some x
  | none => match Nat.beq i j with | true => some c | false => none
theorem Zp : ∀ (u : List (Nat × Option Ck)) (h : List (Nat × Ck)) (i : Nat), hget (hupd u h) i = match ulook u i with | some x => x | none => hget h i
 | [], h, i => rfl
 | (j, some c) :: l, h, i => by
  simp only [hupd, ulook]
  rw [Zp l]
  cases hl : ulook l i with
  | some x => rfl
  | none =>
   simp only []
   cases hb : Nat.beq i j with
   | true => have := (nbeq i j).1 hb; subst this; exact Zhb _ _ _
   | false => exact Zhc _ _ _ _ (Ne.symm ((Zm i j).1 hb))
 | (j, none) :: l, h, i => by
  simp only [hupd, ulook]
  rw [Zp l]
  cases hl : ulook l i with
  | some x => rfl
  | none =>
   simp only []
   cases hb : Nat.beq i j with
   | true => have := (nbeq i j).1 hb; subst this; exact Zch _ _
   | false => exact Zci _ _ _ (Ne.symm ((Zm i j).1 hb))
structure Tr (C : Ctx) (PL : Nat → Option Pl) (hp : List (Nat × Ck)) (w : World) (PL' : Nat → Option Pl) (hp' : List (Nat × Ck)) (w' : World) : Prop where
 P : ∀ i p, PL i = some p → PL' i = some p
 s : w.heap.size ≤ w'.heap.size
 wh : ∀ b, b < w.heap.size → ¬ Avo C PL hp b → w'.heap[b]? = w.heap[b]?
 A : ∀ b, b < w.heap.size → Avo C PL' hp' b → Avo C PL hp b
theorem Den.tr {C : Ctx} {PL PL' : Nat → Option Pl} {hp hp' : List (Nat × Ck)} {w w' : World} {v : SV} {x : Value} (h : Den PL w (Avo C PL hp) v x) (t : Tr C PL hp w PL' hp' w') : Den PL' w' (Avo C PL' hp') v x :=
 h.mono t.P t.s t.wh t.A
structure Mv (C : Ctx) (PL : Nat → Option Pl) (hp : List (Nat × Ck)) (w : World) (u : List (Nat × Option Ck)) (PL' : Nat → Option Pl) (Fr' : Nat → Prop) (w' : World) : Prop where
 P : ∀ i p, PL i = some p → PL' i = some p
 k : ∀ i, i < C.k → PL' i = PL i
 fr : ∀ i, Fr' i → PL' i = none
 os : w'.os = w.os
 tape : w'.tape = w.tape
 output : w'.output = w.output
 size : w.heap.size ≤ w'.heap.size
 old : ∀ b, b < w.heap.size → (∀ id c p, hget hp id = some c → (ulook u id).isSome = true → PL id = some p → ¬ c.has p b) → w'.heap[b]? = w.heap[b]?
 blk : ∀ id c p b, ulook u id = some (some c) → PL' id = some p → c.has p b →
   w.heap.size ≤ b ∨ ∃ id0 c0 p0, hget hp id0 = some c0 ∧ PL id0 = some p0 ∧ c0.has p0 b ∧ (ulook u id0).isSome = true
 dj : ∀ i j c d p q b, ulook u i = some (some c) → ulook u j = some (some d) → PL' i = some p → PL' j = some q → c.has p b → d.has q b → i = j
theorem CkOk.place {PL : Nat → Option Pl} {w : World} {Av : Nat → Prop} {id : Nat} {c : Ck} (h : CkOk PL w Av id c) : ∃ q, PL id = some q := by
 cases c with
 | blk => obtain ⟨q, _, _, hq, _⟩ := h; exact ⟨q, hq⟩
 | row => obtain ⟨q, hq, _⟩ := h; exact ⟨q, hq⟩
 | prow => obtain ⟨q, _, hq, _⟩ := h; exact ⟨q, hq⟩
 | gho => obtain ⟨q, hq, _⟩ := h; exact ⟨q, hq⟩
 | mp => obtain ⟨q, _, _, _, hq, _⟩ := h; exact ⟨q, hq⟩
theorem HSat.tr {C : Ctx} {PL PL' : Nat → Option Pl} {hp : List (Nat × Ck)} {Fr Fr' : Nat → Prop} {w w' : World} {u : List (Nat × Option Ck)} (h : HSat C PL hp Fr w) (m : Mv C PL hp w u PL' Fr' w') :
  Tr C PL hp w PL' (hupd u hp) w' where
 P := m.P
 s := m.size
 wh := fun b hb hv => m.old b hb fun id c p hc _ hp ha => hv (.inr ⟨id, c, p, hc, hp, ha⟩)
 A := by
  rintro b hb (hz | ⟨id, c, p, hc, hp', ha⟩)
  ·exact .inl hz
  rw [Zp] at hc
  cases hu : ulook u id with
  | none =>
   rw [hu] at hc
   simp only [] at hc
   obtain ⟨q, hq⟩ := (h.ck id c hc).place
   have := m.P _ _ hq
   rw [hp'] at this
   injection this with this
   subst this
   exact .inr ⟨id, c, p, hc, hq, ha⟩
  | some x =>
   rw [hu] at hc
   simp only [] at hc
   subst hc
   rcases m.blk id c p b hu hp' ha with hge | ⟨id0, c0, p0, h0, h1, h2, _⟩
   ·omega
   exact .inr ⟨id0, c0, p0, h0, h1, h2⟩
theorem HSat.mv {C : Ctx} {PL PL' : Nat → Option Pl} {hp : List (Nat × Ck)} {Fr Fr' : Nat → Prop} {w w' : World} {u : List (Nat × Option Ck)} (h : HSat C PL hp Fr w) (m : Mv C PL hp w u PL' Fr' w')
  (hnew : ∀ id c, ulook u id = some (some c) → CkOk PL' w' (Avo C PL' (hupd u hp)) id c) : HSat C PL' (hupd u hp) Fr' w' := by
 have t := h.tr m
 have keepP : ∀ id c p, hget hp id = some c → PL' id = some p → PL id = some p := fun id c p hc hp' => by
  obtain ⟨q, hq⟩ := (h.ck id c hc).place
  have := m.P _ _ hq
  rw [hp'] at this
  rw [hq, this]
 have fromW : ∀ b, C.w0.heap.size ≤ b ∨ ¬ C.w0.heap.size ≤ b := fun b => by omega
 refine ⟨?_, ?_, ?_, m.os.trans h.os, m.tape.trans h.tape, m.output.trans h.output, Nat.le_trans h.size m.size, ?_, h.zlt, m.fr, fun i hi => (m.k i hi).trans (h.arg i hi)⟩
 ·intro id c hc
  have hc' := hc
  rw [Zp] at hc
  cases hu : ulook u id with
  | none =>
   rw [hu] at hc
   simp only [] at hc
   refine (h.ck id c hc).mono m.P m.size t.wh t.A ?_
   intro p b hp' ha
   refine m.old b ((h.ck id c hc).lt hp' ha) ?_
   intro id2 c2 p2 hc2 hu2 hp2 ha2
   have := h.dj id id2 c c2 p p2 b hc hc2 hp' hp2 ha ha2
   subst this
   rw [hu] at hu2
   cases hu2
  | some x =>
   rw [hu] at hc
   simp only [] at hc
   subst hc
   exact hnew id c hu
 ·intro i j c d p q b hi hj hp' hq' ha hb
  rw [Zp] at hi hj
  cases hui : ulook u i with
  | none =>
   rw [hui] at hi
   simp only [] at hi
   have hpi := keepP _ _ _ hi hp'
   cases huj : ulook u j with
   | none =>
    rw [huj] at hj
    exact h.dj i j c d p q b hi hj hpi (keepP _ _ _ hj hq') ha hb
   | some y =>
    rw [huj] at hj
    simp only [] at hj
    subst hj
    rcases m.blk j d q b huj hq' hb with hge | ⟨id0, c0, p0, h0, h1, h2, h3⟩
    ·have := (h.ck i c hi).lt hpi ha; omega
    have := h.dj i id0 c c0 p p0 b hi h0 hpi h1 ha h2
    subst this
    rw [hui] at h3; cases h3
  | some x =>
   rw [hui] at hi
   simp only [] at hi
   subst hi
   cases huj : ulook u j with
   | none =>
    rw [huj] at hj
    simp only [] at hj
    have hpj := keepP _ _ _ hj hq'
    rcases m.blk i c p b hui hp' ha with hge | ⟨id0, c0, p0, h0, h1, h2, h3⟩
    ·have := (h.ck j d hj).lt hpj hb; omega
    have := h.dj j id0 d c0 q p0 b hj h0 hpj h1 hb h2
    subst this
    rw [huj] at h3; cases h3
   | some y =>
    rw [huj] at hj
    simp only [] at hj
    subst hj
    exact m.dj i j c d p q b hui huj hp' hq' ha hb
 ·rintro b ⟨id, c, p, hc, hp', ha⟩
  rw [Zp] at hc
  cases hu : ulook u id with
  | none =>
   rw [hu] at hc
   simp only [] at hc
   exact h.own b ⟨id, c, p, hc, keepP _ _ _ hc hp', ha⟩
  | some x =>
   rw [hu] at hc
   simp only [] at hc
   subst hc
   rcases m.blk id c p b hu hp' ha with hge | ⟨id0, c0, p0, h0, h1, h2, _⟩
   ·have := h.size
    exact ⟨fun hz => by have := h.zlt.1 b hz; omega, .inr (by omega)⟩
   exact h.own b ⟨id0, c0, p0, h0, h1, h2⟩
 intro b hb ho
 have hbw : b < w.heap.size := Nat.lt_of_lt_of_le hb h.size
 rw [m.old b hbw, h.old b hb ho]
 intro id c p hc _ hp' ha
 rcases (h.own b ⟨id, c, p, hc, hp', ha⟩).2 with h' | h'
 ·exact ho h'
 omega
theorem Zut (a : Act) (d : Nat) (v : Value) (i : Nat) : (a.put (some d) v).tmps.getD i undef = if d = i ∧ i < a.tmps.size then v else a.tmps.getD i undef := by
 simp only [Act.put]
 by_cases h : d = i
 ·subst h
  by_cases hl : d < a.tmps.size
  ·simp [Array.getD, hl, Array.getElem_setIfInBounds]
  simp [Array.getD, hl]
 rw [if_neg (fun x => h x.1)]
 simp only [Array.getD_eq_getD_getElem?]
 rw [Array.getElem?_setIfInBounds_ne h]
theorem Sat.mv {C : Ctx} {PL PL' : Nat → Option Pl} {s : St} {Fr Fr' : Nat → Prop} {a : Act} {w w' : World} (h : Sat C PL s Fr a w) {u : List (Nat × Option Ck)}
  (H : HSat C PL' (hupd u s.hp) Fr' w') (t : Tr C PL s.hp w PL' (hupd u s.hp) w') (dst : Option Nat) (ov : Option SV) (x : Value) (hv : ∀ v, ov = some v → Den PL' w' (Avo C PL' (hupd u s.hp)) v x) :
  Sat C PL' (s.put dst ov u) Fr' (a.put dst x) w' := by
 refine { H with len := ?_, def_ := ?_, slot := ?_ }
 ·cases dst with
  | none => exact h.len
  | some d => simp only [St.put, Act.put, Array.size_setIfInBounds, Z5t]; exact h.len
 ·have hd : (a.put dst x).defers = a.defers := by cases dst <;> rfl
  rw [hd]
  exact h.def_.mono t.s t.wh t.A
 intro i v hi
 cases dst with
 | none => exact (h.slot i v hi).tr t
 | some d =>
  simp only [St.put] at hi
  rw [Zut]
  by_cases hd : d = i
  ·subst hd
   have hl := Z5s _ _ _ hi
   rw [Z5t] at hl
   rw [Zc6 _ _ _ hl] at hi
   rw [if_pos ⟨rfl, by rw [h.len]; exact hl⟩]
   exact hv v hi
  rw [Z77 _ _ _ _ hd] at hi
  rw [if_neg (fun x => hd x.1)]
  exact (h.slot i v hi).tr t
theorem Tr.refl (C : Ctx) (PL : Nat → Option Pl) (hp : List (Nat × Ck)) (w : World) : Tr C PL hp w PL hp w := ⟨fun _ _ h => h, Nat.le_refl _, fun _ _ _ => rfl, fun _ _ h => h⟩
theorem Sat.pure {C : Ctx} {PL : Nat → Option Pl} {s : St} {Fr : Nat → Prop} {a : Act} {w : World} (h : Sat C PL s Fr a w) (dst : Option Nat) (ov : Option SV) (x : Value)
  (hv : ∀ v, ov = some v → Den PL w (Avo C PL s.hp) v x) : Sat C PL (s.put dst ov []) Fr (a.put dst x) w :=
 h.mv (u := []) h.toHSat (Tr.refl _ _ _ _) dst ov x hv
theorem Sat.fr_mono {C : Ctx} {PL : Nat → Option Pl} {s : St} {Fr Fr' : Nat → Prop} {a : Act} {w : World} (h : Sat C PL s Fr a w) (hf : ∀ i, Fr' i → Fr i) : Sat C PL s Fr' a w :=
 { h with fr := fun i hi => h.fr i (hf i hi) }
theorem HSat.fr_mono {C : Ctx} {PL : Nat → Option Pl} {hp : List (Nat × Ck)} {Fr Fr' : Nat → Prop} {w : World} (h : HSat C PL hp Fr w) (hf : ∀ i, Fr' i → Fr i) : HSat C PL hp Fr' w :=
 { h with fr := fun i hi => h.fr i (hf i hi) }
def padd (PL : Nat → Option Pl) (f : Nat) (p : Pl) : Nat → Option Pl := fun i => if i = f then some p else PL i
theorem Zg (PL : Nat → Option Pl) (f : Nat) (p : Pl) : padd PL f p f = some p := by simp [padd]
theorem Zi (PL : Nat → Option Pl) (f : Nat) (p : Pl) (i : Nat) (h : i ≠ f) : padd PL f p i = PL i := by simp [padd, h]
theorem Z2p {PL : Nat → Option Pl} {f : Nat} (p : Pl) (h : PL f = none) (i : Nat) (q : Pl) (hq : PL i = some q) : padd PL f p i = some q := by
 rw [Zi]
 ·exact hq
 intro e; rw [e, h] at hq; cases hq
theorem Zro {T U : TypeId} {vs us : List SV} : ∀ (q : Pl) (b : Nat), (Ck.blk T vs).has q b → (Ck.blk U us).has q b := fun _ _ h => h
theorem Z3v {r r' : R} : ∀ (q : Pl) (b : Nat), (Ck.row r).has q b → (Ck.row r').has q b := fun _ _ h => h
theorem Mv.alloc {C : Ctx} {PL : Nat → Option Pl} {hp : List (Nat × Ck)} {Fr : Nat → Prop} {w : World} (h : HSat C PL hp Fr w) (f : Nat) (hf : Fr f) (hk : ¬ f < C.k) (p : Pl) (cs : Array Value) (T : TypeId) (hpa : p.a = some ⟨w.heap.size, 0, none⟩) (c : Ck) (hcb : ∀ q b, c.has q b → q.a = some ⟨b, 0, none⟩) :
  Mv C PL hp w [(f, some c)] (padd PL f p) (fun i => Fr i ∧ i ≠ f) (w.alloc (.cells cs T)) where
 P := Z2p p (h.fr f hf)
 k := fun i hi => Zi _ _ _ _ (fun e => hk (e ▸ hi))
 fr := fun i hi => by rw [Zi _ _ _ _ hi.2]; exact h.fr i hi.1
 os := rfl
 tape := rfl
 output := rfl
 size := by simp
 old := fun b hb _ => Below.heap_alloc _ _ _ hb
 blk := fun id c' q b hu hq ha => by
  simp only [ulook] at hu
  cases hb : Nat.beq id f with
  | false => rw [hb] at hu; cases hu
  | true =>
   have := (nbeq id f).1 hb
   subst this
   rw [Zg] at hq
   injection hq with hq
   subst hq
   rw [hb] at hu
   injection hu with hu
   injection hu with hu
   subst hu
   have ha := hcb _ _ ha
   rw [hpa] at ha
   injection ha with ha
   injection ha with ha
   exact .inl (by omega)
 dj := fun i j c d p q b hi hj _ _ _ _ => by
  simp only [ulook] at hi hj
  cases hb : Nat.beq i f with
  | false => rw [hb] at hi; cases hi
  | true => cases hb2 : Nat.beq j f with
   | false => rw [hb2] at hj; cases hj
   | true => rw [(nbeq i f).1 hb, (nbeq j f).1 hb2]
theorem Zs {f : Nat} {c : Option Ck} {id : Nat} {x : Option Ck} (h : ulook [(f, c)] id = some x) : id = f ∧ x = c := by
 simp only [ulook] at h
 cases hb : Nat.beq id f with
 | false => rw [hb] at h; cases h
 | true => rw [hb] at h; injection h with h; exact ⟨(nbeq id f).1 hb, h.symm⟩
theorem Mv.write {C : Ctx} {PL : Nat → Option Pl} {hp : List (Nat × Ck)} {Fr : Nat → Prop} {w : World} (h : HSat C PL hp Fr w) (id : Nat) (c0 c : Ck) (hc0 : hget hp id = some c0) (hcc : ∀ q b, c.has q b → c0.has q b) (w' : World)
  (hos : w'.os = w.os) (ht : w'.tape = w.tape) (ho : w'.output = w.output) (hs : w'.heap.size = w.heap.size) (hw : ∀ b, (∀ p, PL id = some p → ¬ c0.has p b) → w'.heap[b]? = w.heap[b]?) :
  Mv C PL hp w [(id, some c)] PL Fr w' where
 P := fun _ _ h => h
 k := fun _ _ => rfl
 fr := h.fr
 os := hos
 tape := ht
 output := ho
 size := by omega
 old := fun b hb hn => hw b fun p hp' => hn id c0 p hc0 (by simp [ulook, (nbeq id id).2 rfl]) hp'
 blk := fun i c' q b hu hq ha => by
  obtain ⟨rfl, e⟩ := Zs hu
  injection e with e
  subst e
  exact .inr ⟨i, c0, q, hc0, hq, hcc _ _ ha, by rw [hu]; rfl⟩
 dj := fun i j c d p q b hi hj _ _ _ _ => by rw [(Zs hi).1, (Zs hj).1]
def Eff.post (E : Eff) (C : Ctx) (s : St) (dst : Option Nat) (Fr : Nat → Prop) (a : Act) (w : World) : Prop :=
 match E.out with
 | .one v u => ∃ PL, Sat C PL (s.put dst (some v) u) Fr a w
 | .many X Pr v u => ∃ x, Pr x ∧ ∃ PL, Sat C PL (s.put dst (some (v x)) (u x)) Fr a w
theorem Zx {P : Program} {o : Oper} {a : Act} {w w' : World} {K : Act → World → Prop} {Q : Exit → Act → World → Prop} {x : Value} (h : (execOp a.eval o).run P w = .ok (.value x) w') (k : K (a.put o.dst x) w') : o.wp P a w K Q := by
 unfold Oper.wp
 rw [h]
 exact k
theorem Zfn {P : Program} {o : Oper} {a : Act} {w w' : World} {K : Act → World → Prop} {Q : Exit → Act → World → Prop} (h : (execOp a.eval o).run P w = .ok .skip w') (k : K (a.put o.dst undef) w') : o.wp P a w K Q := by
 unfold Oper.wp
 rw [h]
 exact k
theorem Zgd {PL : Nat → Option Pl} {w : World} {Av : Nat → Prop} : ∀ {x : Value} {v : SV}, cK x = some v → Den PL w Av v x := by
 intro x v h
 unfold cK at h
 split at h <;> first | (injection h with h; subst h; first | exact .v _ | exact .nsl | skip) | cases h
 have := Den.str (PL := PL) (w := w) (Av := Av) (ByteArray.data ‹_›).toList
 simpa using this
section
variable {C : Ctx} {PL : Nat → Option Pl} {s : St} {Fr : Nat → Prop} {a : Act} {w : World}
theorem Z4 (h : Sat C PL s Fr a w) {x : Operand} {y : Opnd} {v : SV} (hx : cX x = some y) (hv : s.ev y = some v) : Den PL w (Avo C PL s.hp) v (a.eval x) := by
 cases x with
 | tmp t =>
  simp only [cX] at hx; injection hx with hx; subst hx
  exact h.slot t v hv
 | const c =>
  simp only [cX, Option.map_eq_some_iff] at hx
  obtain ⟨z, hz, rfl⟩ := hx
  simp only [St.ev] at hv; injection hv with hv; subst hv
  exact Zgd hz
 | func f =>
  simp only [cX] at hx; injection hx with hx; subst hx
  simp only [St.ev] at hv; injection hv with hv; subst hv
  exact .fn f [] [] rfl (fun j h1 _ => absurd h1 (by simp))
 | global g => simp [cX] at hx
theorem Zc5 (h : Sat C PL s Fr a w) : ∀ {xs : List Operand} {ys : List Opnd} {vs : List SV}, cXs xs = some ys → s.evs ys = some vs →
  ys.length = xs.length ∧ vs.length = xs.length ∧ ∀ (j : Nat) (h1 : j < vs.length) (h2 : j < (xs.map a.eval).length), Den PL w (Avo C PL s.hp) vs[j] (xs.map a.eval)[j]
 | [], ys, vs, hx, hv => by
  simp only [cXs] at hx; injection hx with hx; subst hx
  simp only [St.evs] at hv; injection hv with hv; subst hv
  exact ⟨rfl, rfl, fun j h1 _ => absurd h1 (by simp)⟩
 | x :: xs, ys, vs, hx, hv => by
  simp only [cXs, Option.bind_eq_bind, Option.bind_eq_some_iff, Option.pure_def, Option.some.injEq] at hx
  obtain ⟨y, hy, ys', hys, rfl⟩ := hx
  unfold St.evs at hv
  cases hv1 : s.ev y with
  | none => rw [hv1] at hv; cases hv
  | some v =>
   rw [hv1] at hv
   simp only [] at hv
   cases hv2 : s.evs ys' with
   | none => rw [hv2] at hv; cases hv
   | some vs' =>
    rw [hv2] at hv
    simp only [] at hv
    injection hv with hv
    subst hv
    obtain ⟨l1, l2, l3⟩ := Zc5 h hys hv2
    refine ⟨by simp [l1], by simp [l2], fun j h1 h2 => ?_⟩
    cases j with
    | zero => exact Z4 h hy hv1
    | succ j => exact l3 j (by simpa using h1) (by simpa using h2)
end
section
variable {P : Program} {C : Ctx} {PL : Nat → Option Pl} {s : St} {Fr : Nat → Prop} {a : Act} {w : World} {o : Oper} {Q : Exit → Act → World → Prop}
theorem Z7 (h : Sat C PL s Fr a w) {x : Value} {v : SV} {ob : List Prop} {rd : List Nat} (hr : (execOp a.eval o).run P w = .ok (.value x) w) (hd : Den PL w (Avo C PL s.hp) v x) :
  o.wp P a w (Eff.post ⟨ob, rd, [], .one v []⟩ C s o.dst Fr) Q :=
 Zx hr ⟨PL, h.pure o.dst (some v) x fun u hu => by injection hu with hu; subst hu; exact hd⟩
theorem Zuq (h : Sat C PL s Fr a w) {X : Type} {Pr : X → Prop} {v : X → SV} {ob : List Prop} {rd : List Nat} {y : Value} (x : X) (hx : Pr x) (hr : (execOp a.eval o).run P w = .ok (.value y) w) (hd : Den PL w (Avo C PL s.hp) (v x) y) :
  o.wp P a w (Eff.post ⟨ob, rd, [], .many X Pr v fun _ => []⟩ C s o.dst Fr) Q :=
 Zx hr ⟨x, hx, PL, h.pure o.dst (some (v x)) y fun u hu => by injection hu with hu; subst hu; exact hd⟩
theorem Zw6 (h : Sat C PL s Fr a w) {x : Operand} {y : Opnd} {v : SV} (ho : o.op = .move x ∨ o.op = .assign x) (hx : cX x = some y) (hv : s.ev y = some v) : o.wp P a w (Eff.post (.pure v) C s o.dst Fr) Q := by
 refine Z7 h ?_ (Z4 h hx hv)
 rcases ho with ho | ho <;> simp [execOp, ho]
theorem Zdk (h : Sat C PL s Fr a w) {c x y : Operand} {c' x' y' : Opnd} {b : Bool} {v : SV} (ho : o.op = .pick c x y) (hc : cX c = some c') (hx : cX x = some x') (hy : cX y = some y')
  (hb : s.ev c' = some (.v (.bool b))) (hv : s.ev (if b then x' else y') = some v) : o.wp P a w (Eff.post (.pure v) C s o.dst Fr) Q := by
 have h1 := Z4 h hc hb
 generalize hq : a.eval c = q at h1
 cases h1
 cases b with
 | true => exact Z7 h (by simp [execOp, ho, hq, asBool]) (Z4 h hx hv)
 | false => exact Z7 h (by simp [execOp, ho, hq, asBool]) (Z4 h hy hv)
theorem Zv1 (t yt : TypeId) (x y : Operand) (op : BinOp) (bk : BK) (k : IntKind) (m n : Int) (ho : o.op = .binOp op t x y yt) (hb : bkOf op = some bk) (h1 : a.eval x = .int k m) (h2 : a.eval y = .int k n)
  (hob : ∀ p ∈ (ibin bk k m n).1, p) : ∃ u, (execOp a.eval o).run P w = .ok (.value u) w ∧ (ibin bk k m n).2 = .v u := by
 cases op <;> simp only [bkOf] at hb <;> first | (cases hb; done) | skip
 all_goals
  injection hb with hb
  subst hb
  simp only [ibin] at hob ⊢
  refine ⟨_, ?_, rfl⟩
  first
   | (have hz := hob _ (List.mem_singleton.2 rfl); simp [execOp, ho, h1, h2, eqGuard, binOp, Op.intArith, Op.intDiv, Op.intBits, Op.intCmp, lock_eq, iadd, isub, imul, iquo, irem, iand, ior, ixor, iandn, ieq, ilt, ile, bnot, hz]; done)
   | (simp [execOp, ho, h1, h2, eqGuard, binOp, Op.intArith, Op.intDiv, Op.intBits, Op.intCmp, lock_eq, iadd, isub, imul, iquo, irem, iand, ior, ixor, iandn, ieq, ilt, ile, bnot]; done)
   | (simp [execOp, ho, h1, h2, eqGuard, binOp, Op.intArith, Op.intDiv, Op.intBits, Op.intCmp, lock_eq, iadd, isub, imul, iquo, irem, iand, ior, ixor, iandn, ieq, ilt, ile, bnot]; cases hq : (m == n) <;> simp_all [bnot]; done)
   | (simp [execOp, ho, h1, h2, eqGuard, binOp, Op.intArith, Op.intDiv, Op.intBits, Op.intCmp, lock_eq, iadd, isub, imul, iquo, irem, iand, ior, ixor, iandn, ieq, ilt, ile, bnot]; by_cases hq : m = n <;> simp_all [bnot]; done)
theorem Zvn (h : Sat C PL s Fr a w) {t yt : TypeId} {x y : Operand} {x' y' : Opnd} {op : BinOp} {bk : BK} {k : IntKind} {m n : Int} (ho : o.op = .binOp op t x y yt) (hb : bkOf op = some bk)
  (hx : cX x = some x') (hy : cX y = some y') (h1 : s.ev x' = some (.v (.int k m))) (h2 : s.ev y' = some (.v (.int k n))) (hob : ∀ p ∈ (ibin bk k m n).1, p) :
  o.wp P a w (Eff.post ⟨(ibin bk k m n).1, [], [], .one (ibin bk k m n).2 []⟩ C s o.dst Fr) Q := by
 have d1 := Z4 h hx h1
 have d2 := Z4 h hy h2
 generalize hq : a.eval x = q at d1
 generalize hr : a.eval y = r at d2
 cases d1
 cases d2
 obtain ⟨u, hu, e⟩ := Zv1 (P := P) (a := a) (w := w) t yt x y op bk k m n ho hb hq hr hob
 exact Z7 h hu (e ▸ .v _)
theorem Zwb (h : Sat C PL s Fr a w) {t yt : TypeId} {x y : Operand} {x' y' : Opnd} {left : Bool} {k k2 : IntKind} {m n : Int} (ho : o.op = .binOp (if left then .shl else .shr) t x y yt)
  (hx : cX x = some x') (hy : cX y = some y') (h1 : s.ev x' = some (.v (.int k m))) (h2 : s.ev y' = some (.v (.int k2 n))) (hob : 0 ≤ n) :
  o.wp P a w (Eff.post (.pureOb (0 ≤ n) (.v (.int k (shK left k m n)))) C s o.dst Fr) Q := by
 have d1 := Z4 h hx h1
 have d2 := Z4 h hy h2
 generalize hq : a.eval x = q at d1
 generalize hr : a.eval y = r at d2
 cases d1
 cases d2
 have hn : ¬ n < 0 := by omega
 refine Z7 h (x := .int k (shK left k m n)) ?_ (.v _)
 cases left <;> simp [execOp, ho, hq, hr, eqGuard, binOp, Op.shift, hn, shK, lock_eq, ishl, ishr]
theorem Z4r (b : Bool) : bnot b = !b := by cases b <;> rfl
theorem Z2t (l : List UInt8) : (ByteArray.mk l.toArray).toList = l := by
 rw [ByteArray.toList_eq]
theorem Zj9 : ∀ a b : List UInt8, (Op.bytesLess a b || a == b) = !(Op.bytesLess b a) := by
 intro a
 induction a with
 | nil => intro b; cases b <;> simp [Op.bytesLess]
 | cons x a ih =>
  intro b
  cases b with
  | nil => simp [Op.bytesLess]
  | cons y b =>
   simp only [Op.bytesLess]
   have := ih b
   by_cases h1 : x < y
   ·have h2 : ¬ y < x := by simp only [UInt8.lt_iff_toNat_lt] at *; omega
    have h3 : ¬ y = x := by intro e; subst e; exact h2 h1
    have h4 : (y == x) = false := by simpa using h3
    simp [h1, h2, h4]
   by_cases h2 : y < x
   ·have h3 : ¬ x = y := by intro e; subst e; exact h1 h2
    have h4 : (x == y) = false := by simpa using h3
    simp [h1, h2, h4]
   have h3 : x = y := by
    apply UInt8.toNat_inj.1
    simp only [UInt8.lt_iff_toNat_lt] at *; omega
   subst h3
   simp [h1]
   simpa using this
theorem Zwa (h : Sat C PL s Fr a w) {t yt : TypeId} {x y : Operand} {x' y' : Opnd} {op : BinOp} {sk : SK} {m n : List UInt8} (ho : o.op = .binOp op t x y yt) (hb : skOf op = some sk)
  (hx : cX x = some x') (hy : cX y = some y') (h1 : s.ev x' = some (.str m)) (h2 : s.ev y' = some (.str n)) (hob : ∀ p ∈ (sbin sk m n).1, p) :
  o.wp P a w (Eff.post ⟨(sbin sk m n).1, [], [], .one (sbin sk m n).2 []⟩ C s o.dst Fr) Q := by
 have d1 := Z4 h hx h1
 have d2 := Z4 h hy h2
 generalize hq : a.eval x = q at d1
 generalize hr : a.eval y = r at d2
 cases d1
 cases d2
 cases op <;> simp only [skOf] at hb <;> first | (cases hb; done) | skip
 all_goals
  injection hb with hb
  subst hb
  simp only [sbin] at hob ⊢
 ·have hz := obl.1 (hob _ (List.mem_singleton.2 rfl))
  have hz' : ¬ ((9223372036854775807 : Int) < (m.length : Int) + (n.length : Int)) := by simp only [xlen] at hz; omega
  refine Z7 h (x := .string (⟨m.toArray⟩ ++ ⟨n.toArray⟩)) ?_ ?_
  ·simp [execOp, ho, hq, hr, eqGuard, binOp, Op.stringOp, IntKind.max, IntKind.signed, IntKind.bits, ByteArray.size, hz']
  have := Den.str (PL := PL) (w := w) (Av := Avo C PL s.hp) (m ++ n)
  simp only [lock_eq, cat]
  have e : (⟨m.toArray⟩ ++ ⟨n.toArray⟩ : ByteArray) = ⟨(m ++ n).toArray⟩ := by
   apply ByteArray.ext; simp
  rw [e]
  exact this
 ·refine Z7 h (x := .bool (lock seq m n)) ?_ (.v _)
  simp [execOp, ho, hq, hr, eqGuard, binOp, Op.stringOp, Z2t, lock_eq, seq]
 ·refine Z7 h (x := .bool (bnot (lock seq m n))) ?_ (.v _)
  simp [execOp, ho, hq, hr, eqGuard, binOp, Op.stringOp, Z2t, lock_eq, seq, Z4r]
 ·refine Z7 h (x := .bool (lock slt m n)) ?_ (.v _)
  simp [execOp, ho, hq, hr, eqGuard, binOp, Op.stringOp, Z2t, lock_eq, slt]
 ·refine Z7 h (x := .bool (bnot (lock slt n m))) ?_ (.v _)
  simp [execOp, ho, hq, hr, eqGuard, binOp, Op.stringOp, Z2t, lock_eq, slt, Z4r, Zj9]
 ·refine Z7 h (x := .bool (lock slt n m)) ?_ (.v _)
  simp [execOp, ho, hq, hr, eqGuard, binOp, Op.stringOp, Z2t, lock_eq, slt, Z4r, Zj9]
 refine Z7 h (x := .bool (bnot (lock slt m n))) ?_ (.v _)
 simp [execOp, ho, hq, hr, eqGuard, binOp, Op.stringOp, Z2t, lock_eq, slt]
 simp [Z4r]
end
theorem Zu (a : Addr) : a.add 0 = a := by simp [Addr.add]
theorem Z1i (a : Addr) (m n : Nat) : (a.add m).add n = a.add (m + n) := by
 unfold Addr.add
 by_cases h : m = 0
 ·subst h; simp
 by_cases h2 : n = 0
 ·subst h2; simp [h]
 have : ¬ (m + n = 0) := by omega
 simp [h, h2, this, Nat.add_assoc]
theorem Zo (b o n : Nat) : (⟨b, o, none⟩ : Addr).add n = ⟨b, o + n, none⟩ := Addr.add_lit ..
theorem Z57 : ∀ (n : Nat) (l m : List SV), take2 n l = some m → m.length = n ∧ n ≤ l.length ∧ ∀ (j : Nat) (h1 : j < m.length) (h2 : j < l.length), m[j] = l[j]
 | 0, l, m, h => by simp only [take2] at h; injection h with h; subst h; exact ⟨rfl, by simp, fun j h1 _ => absurd h1 (by simp)⟩
 | n + 1, [], m, h => by simp [take2] at h
 | n + 1, x :: xs, m, h => by
  unfold take2 at h
  cases h1 : take2 n xs with
  | none => rw [h1] at h; cases h
  | some l =>
   rw [h1] at h
   simp only [] at h
   injection h with h
   subst h
   obtain ⟨a, b, c⟩ := Z57 n xs l h1
   refine ⟨by simp [a], by simp; omega, fun j h1 h2 => ?_⟩
   cases j with
   | zero => rfl
   | succ j => exact c j (by simpa using h1) (by simpa using h2)
theorem Zc0 : ∀ (n : Nat) (l : List SV), drop2 n l = l.drop n
 | 0, l => rfl
 | n + 1, [] => rfl
 | n + 1, x :: xs => Zc0 n xs
theorem Z2j {off n : Nat} {l m : List SV} (h : take2 n (drop2 off l) = some m) (j : Nat) (h1 : j < m.length) : ∃ h2 : off + j < l.length, m[j] = l[off + j] := by
 rw [Zc0] at h
 obtain ⟨a, b, c⟩ := Z57 _ _ _ h
 have h2 : off + j < l.length := by simp at b; omega
 refine ⟨h2, ?_⟩
 rw [c j h1 (by simp; omega)]
 simp
section
variable {P : Program} {C : Ctx} {PL : Nat → Option Pl} {s : St} {Fr : Nat → Prop} {a : Act} {w : World} {o : Oper} {Q : Exit → Act → World → Prop}
theorem Zdd {t yt : TypeId} {x y : Operand} {op : BinOp} {ne : Bool} (ho : o.op = .binOp op t x y yt) (hb : neOf op = some ne) {u v : Value} (hx : a.eval x = u) (hy : a.eval y = v) {b : Bool}
  (h : (Op.equal t u v).run P w = .ok b w) (h1 : binOp .eql t u v = (do pure (.bool (← Op.equal t u v)))) (h2 : binOp .neq t u v = (do pure (.bool (!(← Op.equal t u v))))) (h3 : (eqGuard op t x y u v).run P w = .ok () w) :
  (execOp a.eval o).run P w = .ok (.value (.bool (negIf ne b))) w := by
 cases op <;> simp only [neOf] at hb <;> first | (cases hb; done) | skip
 all_goals
  injection hb with hb
  subst hb
  simp only [execOp, ho, hx, hy, Sem.run_bind, h3, Result.andThen_ok, h1, h2, h, Sem.run_pure, negIf, Z4r]
theorem Zha (op : BinOp) (t : TypeId) (x y : Operand) (u v : Value) (h1 : ∀ c, u ≠ .agg c) (h2 : u ≠ .nilIface) : (eqGuard op t x y u v).run P w = .ok () w := by
 unfold eqGuard
 cases op <;> first | rfl | (cases u <;> first | rfl | exact absurd rfl h2 | exact absurd rfl (h1 _) | (cases v <;> rfl))
theorem Zv9 (h : Sat C PL s Fr a w) {t yt : TypeId} {x y : Operand} {x' y' : Opnd} {op : BinOp} {ne : Bool} {m n : Bool} (ho : o.op = .binOp op t x y yt) (hb : neOf op = some ne) (ht : P.underlying t = some .bool)
  (hx : cX x = some x') (hy : cX y = some y') (h1 : s.ev x' = some (.v (.bool m))) (h2 : s.ev y' = some (.v (.bool n))) :
  o.wp P a w (Eff.post (.pure (.v (.bool (negIf ne (lock beq2 m n))))) C s o.dst Fr) Q := by
 have d1 := Z4 h hx h1
 have d2 := Z4 h hy h2
 generalize hq : a.eval x = q at d1
 generalize hr : a.eval y = r at d2
 cases d1
 cases d2
 refine Z7 h (Zdd ho hb hq hr (b := lock beq2 m n) ?_ rfl rfl (Zha _ _ _ _ _ _ (fun c e => by cases e) (fun e => by cases e))) (.v _)
 rw [lock_eq, beq2]
 exact run_equalIn_bool' (P := P) w 9999 t m n ht
theorem Zvu (h : Sat C PL s Fr a w) {t yt : TypeId} {x y : Operand} {op : BinOp} {ne : Bool} (ho : o.op = .binOp op t x y yt) (hb : neOf op = some ne) (hk : nilK y = true) {d : TypeDesc} (ht : P.underlying t = some d)
  (hd : (∃ e, d = .pointer e) ∨ (∃ e, d = .slice e) ∨ (∃ p r b, d = .func p r b)) {b : Bool}
  (hv : (b = true ∧ (a.eval x = .pointer none ∨ a.eval x = .nilFunc ∨ ∃ n c, a.eval x = .slice none n c)) ∨ (b = false ∧ ((∃ A, a.eval x = .pointer (some A)) ∨ (∃ A n c, a.eval x = .slice (some A) n c) ∨ ∃ f g c, a.eval x = .func f g c)))
  (hfit : (∃ e, d = .pointer e) → (∃ A, a.eval x = .pointer A) ∧ y = .const (.pointer none)) (hfit2 : (∃ e, d = .slice e) → (∃ A n c, a.eval x = .slice A n c) ∧ y = .const (.slice none 0 0)) (hfit3 : (∃ p r b, d = .func p r b) → (a.eval x = .nilFunc ∨ ∃ f g c, a.eval x = .func f g c) ∧ y = .const .nilFunc) :
  (execOp a.eval o).run P w = .ok (.value (.bool (negIf ne b))) w := by
 have key : ∀ D, (Op.equalIn (D + 1) t (a.eval x) (a.eval y)).run P w = .ok b w := by
  intro D
  rcases hd with ⟨e, rfl⟩ | ⟨e, rfl⟩ | ⟨p, r, vv, rfl⟩
  ·obtain ⟨⟨A, hA⟩, rfl⟩ := hfit ⟨e, rfl⟩
   rw [hA]
   rw [hA] at hv
   cases A with
   | none =>
    rcases hv with ⟨rfl, _⟩ | ⟨_, ⟨A, hA⟩ | ⟨A, n, c, hA⟩ | ⟨f, g, c, hA⟩⟩ <;> first | cases hA | skip
    simp [Op.equalIn, run_underlying ht, Act.eval]
   | some A =>
    rcases hv with ⟨_, hA | hA | ⟨n, c, hA⟩⟩ | ⟨rfl, _⟩ <;> first | cases hA | skip
    simp [Op.equalIn, run_underlying ht, Act.eval]
  ·obtain ⟨⟨A, n, c, hA⟩, rfl⟩ := hfit2 ⟨e, rfl⟩
   rw [hA]
   rw [hA] at hv
   cases A with
   | none =>
    rcases hv with ⟨rfl, _⟩ | ⟨_, ⟨A, hA⟩ | ⟨A, n, c, hA⟩ | ⟨f, g, c, hA⟩⟩ <;> first | cases hA | skip
    simp [Op.equalIn, run_underlying ht, Act.eval]
   | some A =>
    rcases hv with ⟨_, hA | hA | ⟨n, c, hA⟩⟩ | ⟨rfl, _⟩ <;> first | cases hA | skip
    simp [Op.equalIn, run_underlying ht, Act.eval]
  obtain ⟨hA, rfl⟩ := hfit3 ⟨p, r, vv, rfl⟩
  rcases hA with hA | ⟨f, g, c, hA⟩
  ·rw [hA]
   rw [hA] at hv
   rcases hv with ⟨rfl, _⟩ | ⟨_, ⟨A, hA⟩ | ⟨A, n, c, hA⟩ | ⟨f, g, c, hA⟩⟩ <;> first | cases hA | skip
   simp [Op.equalIn, run_underlying ht, Act.eval]
  rw [hA]
  rw [hA] at hv
  rcases hv with ⟨_, hA | hA | ⟨n, c, hA⟩⟩ | ⟨rfl, _⟩ <;> first | cases hA | skip
  simp [Op.equalIn, run_underlying ht, Act.eval]
 have hshape : (∃ A, a.eval x = .pointer A) ∨ (∃ A n c, a.eval x = .slice A n c) ∨ a.eval x = .nilFunc ∨ ∃ f g c, a.eval x = .func f g c := by
  rcases hd with ⟨e, rfl⟩ | ⟨e, rfl⟩ | ⟨p, r, vv, rfl⟩
  ·exact .inl (hfit ⟨e, rfl⟩).1
  ·exact .inr (.inl (hfit2 ⟨e, rfl⟩).1)
  exact .inr (.inr (hfit3 ⟨p, r, vv, rfl⟩).1)
 have hyc : a.eval y = .pointer none ∨ a.eval y = .slice none 0 0 ∨ a.eval y = .nilFunc := by
  unfold nilK at hk
  split at hk <;> simp [Act.eval] at hk ⊢
 refine Zdd ho hb rfl rfl (b := b) (key 9999) ?_ ?_ (Zha _ _ _ _ _ _ ?_ ?_)
 ·rcases hshape with ⟨A, e⟩ | ⟨A, n, c, e⟩ | e | ⟨f, g, c, e⟩ <;> rw [e] <;> rcases hyc with e2 | e2 | e2 <;> rw [e2] <;> rfl
 ·rcases hshape with ⟨A, e⟩ | ⟨A, n, c, e⟩ | e | ⟨f, g, c, e⟩ <;> rw [e] <;> rcases hyc with e2 | e2 | e2 <;> rw [e2] <;> rfl
 ·intro c e; rcases hshape with ⟨A, e'⟩ | ⟨A, n, c', e'⟩ | e' | ⟨f, g, c', e'⟩ <;> rw [e'] at e <;> cases e
 intro e; rcases hshape with ⟨A, e'⟩ | ⟨A, n, c', e'⟩ | e' | ⟨f, g, c', e'⟩ <;> rw [e'] at e <;> cases e
theorem Zva (h : Sat C PL s Fr a w) {t : TypeId} {x : Operand} {x' : Opnd} {b : Bool} (ho : o.op = .unOp .not t x) (hx : cX x = some x') (h1 : s.ev x' = some (.v (.bool b))) :
  o.wp P a w (Eff.post (.pure (.v (.bool (bnot b)))) C s o.dst Fr) Q := by
 have d1 := Z4 h hx h1
 generalize hq : a.eval x = q at d1
 cases d1
 exact Z7 h (by simp [execOp, ho, hq, Op.unary, Z4r]) (.v _)
theorem Zvt (h : Sat C PL s Fr a w) {t : TypeId} {x : Operand} {x' : Opnd} {k : IntKind} {n : Int} (ho : o.op = .unOp .neg t x) (hx : cX x = some x') (h1 : s.ev x' = some (.v (.int k n))) :
  o.wp P a w (Eff.post (.pure (.v (.int k (lock isub k 0 n)))) C s o.dst Fr) Q := by
 have d1 := Z4 h hx h1
 generalize hq : a.eval x = q at d1
 cases d1
 exact Z7 h (by simp [execOp, ho, hq, Op.unary, Op.intArith, lock_eq, isub]) (.v _)
theorem Zvo (h : Sat C PL s Fr a w) {t : TypeId} {x : Operand} {x' : Opnd} {k : IntKind} {n : Int} (ho : o.op = .unOp .xor t x) (hx : cX x = some x') (h1 : s.ev x' = some (.v (.int k n))) :
  o.wp P a w (Eff.post (.pure (.v (.int k (lock ixor k (if k.signed then -1 else k.max) n)))) C s o.dst Fr) Q := by
 have d1 := Z4 h hx h1
 generalize hq : a.eval x = q at d1
 cases d1
 exact Z7 h (by simp [execOp, ho, hq, Op.unary, Op.intBits, lock_eq, ixor]) (.v _)
theorem Zvh (h : Sat C PL s Fr a w) {t u : TypeId} {x : Operand} {x' : Opnd} {k j kk : IntKind} {n : Int} (ho : o.op = .convert t u x) (ht : P.underlying t = some (.int kk)) (hu : P.underlying u = some (.int k)) (hx : cX x = some x') (h1 : s.ev x' = some (.v (.int j n))) :
  o.wp P a w (Eff.post (.pure (.v (.int k (lock iconv k n)))) C s o.dst Fr) Q := by
 have d1 := Z4 h hx h1
 generalize hq : a.eval x = q at d1
 cases d1
 exact Z7 h (by simp [execOp, ho, hq, convert, run_underlying ht, run_underlying hu, Conv.intToInt, lock_eq, iconv]) (.v _)
theorem Zvl (h : Sat C PL s Fr a w) {x : Operand} {i : Nat} {x' : Opnd} {l : List SV} {v : SV} (ho : o.op = .extract x i) (hx : cX x = some x') (h1 : s.ev x' = some (.tup l)) (h2 : l[i]? = some v) :
  o.wp P a w (Eff.post (.pure v) C s o.dst Fr) Q := by
 have d1 := Z4 h hx h1
 generalize hq : a.eval x = q at d1
 cases d1 with
 | tup _ cs hl hd =>
  obtain ⟨hi, he⟩ := List.getElem?_eq_some_iff.1 h2
  have hc : i < cs.length := by omega
  have := hd i hi hc
  rw [he] at this
  exact Z7 h (by simp [execOp, ho, hq, Instr.extract, hc]) this
theorem Zw0 (h : Sat C PL s Fr a w) {f : FuncId} {first caps : Array Operand} {ys : List Opnd} {l : List SV} (ho : o.op = .makeFunc (.func f) first caps) (hf : first.size = 0) (hx : cXs caps.toList = some ys) (h1 : s.evs ys = some l) :
  o.wp P a w (Eff.post (.pure (.fn f l)) C s o.dst Fr) Q := by
 obtain ⟨l1, l2, l3⟩ := Zc5 h hx h1
 have hfe : first = #[] := Array.eq_empty_of_size_eq_zero hf
 subst hfe
 refine Z7 h (x := .func (.func f) #[] (caps.toList.map a.eval).toArray) ?_ ?_
 ·simp [execOp, ho, Instr.makeFunc]
  rw [← Array.toArray_toList (xs := Array.map a.eval caps), Array.toList_map]
 exact .fn f l _ (by simp [l2]) l3
theorem Z19 {t : TypeId} (h : P.cellsOf t ≠ 0) : ∃ i, P.info? t = some i ∧ i.size = P.cellsOf t := by
 unfold Program.cellsOf at *
 cases hi : P.info? t with
 | none => simp [hi] at h
 | some i => exact ⟨i, rfl, by simp⟩
theorem Zn {t : TypeId} {i : TypeInfo} (h : P.info? t = some i) : (sizeOf t).run P w = .ok i.size w := by
 simp [sizeOf, typeInfo, h]
theorem Z1m {t : TypeId} {b : Bool} (h : aggOf P t = some b) : (isAgg t).run P w = .ok b w := by
 unfold aggOf at h
 cases hd : P.underlying t with
 | none => simp [hd] at h
 | some d =>
  rw [hd] at h
  unfold isAgg
  rw [Sem.run_bind, run_underlying hd]
  cases d <;> simp_all
theorem Zuz (t : TypeId) (fs : Array Field) (f : Nat) (g : Field) (ht : P.underlying t = some (.struct fs)) (hg : fs[f]? = some g) (hz : P.cellsOf g.type ≠ 0) (A : Addr) :
  (Instr.fieldAt t (.pointer (some A)) f).run P w = .ok (.pointer (some (A.add g.offset))) w := by
 obtain ⟨i, hi, he⟩ := Z19 hz
 have : i.size ≠ 0 := by omega
 simp [Instr.fieldAt, run_underlying ht, hg, Instr.sureAddr, fieldPlace, Zn hi, this]
theorem Zdj (h : Sat C PL s Fr a w) {t : TypeId} {fs : Array Field} {f : Nat} {g : Field} {x : Operand} {x' : Opnd} {p v : SV} (ho : o.op = .fieldAddr t x f) (ht : P.underlying t = some (.struct fs)) (hg : fs[f]? = some g) (hz : P.cellsOf g.type ≠ 0)
  (hx : cX x = some x') (h1 : s.ev x' = some p) (hv : (∃ id n, p = .ptr id n ∧ v = .ptr id (n + g.offset)) ∨ (∃ id i n, p = .ept id i n ∧ v = .ept id i (n + g.offset)) ∨ (∃ r i n, p = .rpt r i n ∧ v = .rpt r i (n + g.offset))) :
  o.wp P a w (Eff.post (.pure v) C s o.dst Fr) Q := by
 have d1 := Z4 h hx h1
 generalize hq : a.eval x = q at d1
 have run : ∀ A, q = .pointer (some A) → (execOp a.eval o).run P w = .ok (.value (.pointer (some (A.add g.offset)))) w := fun A e => by
  simp [execOp, ho, hq, e, Zuz t fs f g ht hg hz A]
 rcases hv with ⟨id, n, rfl, rfl⟩ | ⟨id, i, n, rfl, rfl⟩ | ⟨r, i, n, rfl, rfl⟩
 ·cases d1 with
  | ptr _ _ b q hp ha => exact Z7 h (run _ rfl) (by rw [Zo]; exact .ptr id _ b q hp ha)
 ·cases d1 with
  | ept _ _ _ b q hp ha hi => exact Z7 h (run _ rfl) (by rw [Zo, Nat.add_assoc]; exact .ept id i _ b q hp ha hi)
 cases d1 with
 | rpt _ _ _ A cap hd hi => exact Z7 h (run _ rfl) (by rw [Z1i]; exact .rpt r i _ A cap hd hi)
theorem Z7w (h : Sat C PL s Fr a w) {x : Operand} {x' : Opnd} {p : SV} (ho : o.op = .nilCheck x) (hx : cX x = some x') (h1 : s.ev x' = some p)
  (hv : (∃ id n, p = .ptr id n) ∨ (∃ id i n, p = .ept id i n) ∨ (∃ r i n, p = .rpt r i n) ∨ (∃ f l, p = .fn f l)) :
  o.wp P a w (Eff.post (.pure p) C s o.dst Fr) Q := by
 have d1 := Z4 h hx h1
 refine Z7 h ?_ d1
 generalize hq : a.eval x = q at d1
 rcases hv with ⟨id, n, rfl⟩ | ⟨id, i, n, rfl⟩ | ⟨r, i, n, rfl⟩ | ⟨f, l, rfl⟩ <;> cases d1 <;> simp [execOp, ho, hq]
theorem Zf {hp : List (Nat × Ck)} {id : Nat} {r : R} (h : rowOf hp id = some r) : hget hp id = some (.row r) := by
 unfold rowOf at h
 split at h
 ·injection h with h; subst h; assumption
 cases h
theorem Z8j {hp : List (Nat × Ck)} {id : Nat} {T : TypeId} {vs : List SV} (h : blkOf hp id = some (T, vs)) : hget hp id = some (.blk T vs) := by
 unfold blkOf at h
 split at h
 ·injection h with h; injection h with h1 h2; subst h1; subst h2; assumption
 cases h
theorem Zv2 (t e : TypeId) (ht : P.underlying t = some (.slice e)) (hz : P.cellsOf e ≠ 0) (A : Option Addr) (len cap : Nat) (k : IntKind) (n : Int) (hn : 0 ≤ n ∧ n < len) (ad : Addr) (hA : A = some ad) :
  (Instr.indexAt t (.slice A len cap) (.int k n)).run P w = .ok (.pointer (some (ad.add (n.toNat * P.cellsOf e)))) w := by
 obtain ⟨i, hi, he⟩ := Z19 hz
 subst hA
 simp [Instr.indexAt, asIntOf, run_underlying ht, hn, Zn hi, he]
theorem Z7t (t e : TypeId) (x i : Operand) (ho : o.op = .indexAddr t x i) (ht : P.underlying t = some (.slice e)) (hz : P.cellsOf e ≠ 0) (A : Option Addr) (len cap : Nat) (k : IntKind) (n : Int) (h1 : a.eval x = .slice A len cap) (h2 : a.eval i = .int k n)
  (hn : 0 ≤ n ∧ n < len) (ad : Addr) (hA : A = some ad) : (execOp a.eval o).run P w = .ok (.value (.pointer (some (ad.add (n.toNat * P.cellsOf e))))) w := by
 simp [execOp, ho, h1, h2, Zv2 t e ht hz A len cap k n hn ad hA]
theorem Zvs (h : Sat C PL s Fr a w) {t e : TypeId} {x i : Operand} {x' i' : Opnd} {id : Nat} {r : R} {k : IntKind} {n : Int} (ho : o.op = .indexAddr t x i) (ht : P.underlying t = some (.slice e)) (hz : P.cellsOf e ≠ 0) (hx : cX x = some x') (hi : cX i = some i')
  (h1 : s.ev x' = some (.wsl id)) (h2 : s.ev i' = some (.v (.int k n))) (hr : rowOf s.hp id = some r) (hs : r.sz = P.cellsOf e) (hob : 0 ≤ n ∧ n < lock ofN r.len) {ob : List Prop} {rd : List Nat} :
  o.wp P a w (Eff.post ⟨ob, rd, [], .one (.ept id (lock toN n) 0) []⟩ C s o.dst Fr) Q := by
 have d1 := Z4 h hx h1
 have d2 := Z4 h hi h2
 generalize hq : a.eval x = q at d1
 generalize hy : a.eval i = y at d2
 cases d2
 cases d1 with
 | wsl _ p hp =>
  obtain ⟨p', hp', hl, hsz, h0, hrow⟩ := h.ck id _ (Zf hr)
  rw [hp] at hp'; injection hp' with hp'; subst hp'
  simp only [lock_eq, ofN, R.len_eq, toN] at hob ⊢
  rcases hrow with ⟨_, _, hn⟩ | ⟨b, cs, ha, _⟩
  ·omega
  have hd := Den.ept (w := w) (Av := Avo C PL s.hp) id n.toNat 0 b p hp ha (by omega)
  refine Z7 h (Z7t t e x i ho ht hz p.a p.len p.cap k n hq hy ⟨hob.1, by omega⟩ _ ha) ?_
  rw [Zo, ← hs, ← hsz]
  simpa using hd
theorem Zvr (h : Sat C PL s Fr a w) {t e : TypeId} {x i : Operand} {x' i' : Opnd} {id lo len : Nat} {r : R} {k : IntKind} {n : Int} (ho : o.op = .indexAddr t x i) (ht : P.underlying t = some (.slice e)) (hz : P.cellsOf e ≠ 0) (hx : cX x = some x') (hi : cX i = some i')
  (h1 : s.ev x' = some (.sl id lo len)) (h2 : s.ev i' = some (.v (.int k n))) (hr : rowOf s.hp id = some r) (hs : r.sz = P.cellsOf e) (hob : 0 ≤ n ∧ n < lock ofN len) {ob : List Prop} {rd : List Nat} :
  o.wp P a w (Eff.post ⟨ob, rd, [], .one (.ept id (lock nadd lo (lock toN n)) 0) []⟩ C s o.dst Fr) Q := by
 have d1 := Z4 h hx h1
 have d2 := Z4 h hi h2
 generalize hq : a.eval x = q at d1
 generalize hy : a.eval i = y at d2
 cases d2
 cases d1 with
 | sl _ _ _ p A cap hp hl hc hn hA =>
  obtain ⟨p', hp', hl', hsz, h0, hrow⟩ := h.ck id _ (Zf hr)
  rw [hp] at hp'; injection hp' with hp'; subst hp'
  simp only [lock_eq, ofN, toN, nadd] at hob ⊢
  rcases hrow with ⟨_, _, hn⟩ | ⟨b, cs, ha, _⟩
  ·omega
  have hd := Den.ept (w := w) (Av := Avo C PL s.hp) id (lo + n.toNat) 0 b p hp ha (by omega)
  have hA' := hA (by omega)
  rw [ha] at hA'
  simp only [Option.map_some, Zo] at hA'
  refine Z7 h (Z7t t e x i ho ht hz A len cap k n hq hy ⟨hob.1, by omega⟩ _ hA') ?_
  rw [Zo, ← hs, ← hsz]
  have : 0 + lo * p.sz + n.toNat * p.sz = (lo + n.toNat) * p.sz + 0 := by rw [Nat.add_mul]; omega
  rw [this]
  exact hd
theorem Zvq (h : Sat C PL s Fr a w) {t e : TypeId} {x i : Operand} {x' i' : Opnd} {r : R} {k : IntKind} {n : Int} (ho : o.op = .indexAddr t x i) (ht : P.underlying t = some (.slice e)) (hz : P.cellsOf e ≠ 0) (hx : cX x = some x') (hi : cX i = some i')
  (h1 : s.ev x' = some (.rsl r)) (h2 : s.ev i' = some (.v (.int k n))) (hs : r.sz = P.cellsOf e) (hob : 0 ≤ n ∧ n < lock ofN r.len) {ob : List Prop} {rd : List Nat} :
  o.wp P a w (Eff.post ⟨ob, rd, [], .one (.rpt r (lock toN n) 0) []⟩ C s o.dst Fr) Q := by
 have d1 := Z4 h hx h1
 have d2 := Z4 h hi h2
 generalize hq : a.eval x = q at d1
 generalize hy : a.eval i = y at d2
 cases d2
 simp only [lock_eq, ofN, R.len_eq, toN] at hob ⊢
 have d1' := d1
 cases d1 with
 | rsl _ A cap u hcap hsome hcell hden =>
  obtain ⟨ad, rfl, _⟩ := hsome (by omega)
  have hd := Den.rpt r n.toNat 0 ad cap d1' (by omega)
  refine Z7 h (Z7t t e x i ho ht hz _ _ cap k n hq hy ⟨hob.1, by omega⟩ _ rfl) ?_
  rw [Zu, hs] at hd
  exact hd
theorem Zw8 (h : Sat C PL s Fr a w) {t e T : TypeId} {n : Nat} {x : Operand} {x' : Opnd} {l : List UInt8} (ho : o.op = .sliceToArrayPointer t x) (ht : P.underlying t = some (.array n e)) (hn : 1 ≤ n) (hx : cX x = some x')
  (h1 : s.ev x' = some (.rsl (.bs T l))) (hob : n ≤ lock (@xlen UInt8) l) {ob : List Prop} {rd : List Nat} :
  o.wp P a w (Eff.post ⟨ob, rd, [], .one (.rpt (.row t (.u8s n) [lock arrD l]) 0 0) []⟩ C s o.dst Fr) Q := by
 have d1 := Z4 h hx h1
 simp only [lock_eq, xlen] at hob
 generalize hq : a.eval x = q at d1
 cases d1 with
 | rsl _ A cap u hcap hsome hcell hden =>
  have hlen : rlen (.bs T l) = l.length := rfl
  obtain ⟨ad, rfl, hlt, hav⟩ := hsome (by omega)
  have hd : Den PL w (Avo C PL s.hp) (.rsl (.row t (.u8s n) [lock arrD l])) (.slice (some ad) (rlen (.row t (.u8s n) [lock arrD l])) 1) := by
   have hcells : ∀ j, j < n → w.cell? (ad.add j) = some (.int .u8 ((l.getD j 0).toNat : Int)) := by
    intro j hj
    obtain ⟨c1, _⟩ := hcell j 0 ad rfl (by omega) (by simp [R.sz])
    have d2 := hden j 0 (by omega) (by simp [R.elem])
    simp only [R.elem, List.getElem_cons_zero, lock_eq, getB] at d2
    generalize u j 0 = y at c1 d2
    cases d2
    simpa [R.sz, Zu] using c1
   refine .rsl _ _ _ (fun i j => .int .u8 ((l.getD j 0).toNat : Int)) (Nat.le_refl _) (fun _ => ⟨ad, rfl, hlt, hav⟩) ?_ ?_
   ·intro i j ad' e1 hi hj
    injection e1 with e1
    subst e1
    have hi0 : i = 0 := by
     have : i < 1 := hi
     omega
    subst hi0
    have hjn : j < n := by
     exact hj
    rw [Nat.zero_mul, Zu]
    exact ⟨hcells j hjn, rfl⟩
   intro i j hi hj
   have hi0 : i = 0 := by
    have : i < 1 := hi
    omega
   subst hi0
   have el : (R.row t (.u8s n) [lock arrD l]).elem 0 = (List.range n).map fun i => SV.v (.int .u8 (lock D.toI (lock D.fld (lock arrD l) (0 + i)))) := by
    rw [← Z46]
    simp only [R.elem, lock_eq, getD]
    rfl
   have key : ∀ L : List SV, L = ((List.range n).map fun i => SV.v (.int .u8 (lock D.toI (lock D.fld (lock arrD l) (0 + i))))) → ∀ h : j < L.length, Den PL w (Avo C PL s.hp) L[j] (.int .u8 ((l.getD j 0).toNat : Int)) := by
    intro L e h
    subst e
    have hjn : j < n := by simpa using h
    simp only [List.getElem_map, List.getElem_range, Nat.zero_add, lock_eq]
    have : D.toI (D.fld (arrD l) j) = ((l.getD j 0).toNat : Int) := by
     have hjl : j < l.length := by omega
     have e : (D.l (l.map fun b => D.i b.toNat)).toL = l.map fun b => D.i b.toNat := by simp only [D.toL]
     simp [arrD, D.fld, e, hjl, D.toI]
    rw [this]
    exact .v _
   exact key _ el hj
  have hr := Den.rpt (PL := PL) (w := w) (Av := Avo C PL s.hp) _ 0 0 ad 1 hd (by show 0 < 1; omega)
  refine Z7 h ?_ hr
  have hnl : ¬ l.length < n := by omega
  simp [execOp, ho, hq, Instr.arrayAt, run_underlying ht, hlen, hnl, Zu]
theorem Zv0 (t e : TypeId) (len : Nat) (ht : P.underlying t = some (.array len e)) (hz : P.cellsOf e ≠ 0) (k : IntKind) (n : Int) (hn : 0 ≤ n ∧ n < len) (h2 : 2 ≤ len) (ad : Addr) :
  (Instr.indexAt t (.pointer (some ad)) (.int k n)).run P w = .ok (.pointer (some (ad.add (n.toNat * P.cellsOf e)))) w := by
 obtain ⟨i, hi, he⟩ := Z19 hz
 have h3 : ¬ len ≤ 1 := by omega
 simp [Instr.indexAt, asIntOf, run_underlying ht, hn, Zn hi, he, Instr.sureAddr, h3]
theorem Zvm (h : Sat C PL s Fr a w) {t e : TypeId} {g len : Nat} {i : Operand} {i' : Opnd} {r : R} {k : IntKind} {n : Int} (ho : o.op = .indexAddr t (.global g) i) (ht : P.underlying t = some (.array len e)) (hz : P.cellsOf e ≠ 0) (hi : cX i = some i')
  (hg : (g, r) ∈ globs) (h2 : s.ev i' = some (.v (.int k n))) (hs : r.sz = P.cellsOf e) (hl : r.glen = len) (hle : 2 ≤ len) (hob : 0 ≤ n ∧ n < lock ofN r.len) {ob : List Prop} {rd : List Nat} :
  o.wp P a w (Eff.post ⟨ob, rd, [], .one (.rpt r (lock toN n) 0) []⟩ C s o.dst Fr) Q := by
 have d1 : Den PL w (Avo C PL s.hp) (.rsl r) (.slice (some ⟨g, 0, none⟩) (rlen r) (rlen r)) := (h.toHSat.glob hg).mono (fun _ _ h => by cases h) (Nat.le_refl _) (fun _ _ _ => rfl) (fun _ _ h => h)
 have d2 := Z4 h hi h2
 generalize hy : a.eval i = y at d2
 cases d2
 have hl : rlen r = len := by rw [← hl]; cases r <;> rfl
 simp only [lock_eq, ofN, R.len_eq, toN] at hob ⊢
 have hd := Den.rpt r n.toNat 0 ⟨g, 0, none⟩ (rlen r) d1 (by omega)
 refine Z7 h ?_ hd
 rw [Zu, hs]
 have hv : a.eval (.global g) = .pointer (some ⟨g, 0, none⟩) := rfl
 simp [execOp, ho, hv, hy, Zv0 t e len ht hz k n ⟨hob.1, by omega⟩ hle]
theorem Zwc (h : Sat C PL s Fr a w) {t : TypeId} {x i : Operand} {x' i' : Opnd} {l : List UInt8} {k : IntKind} {n : Int} (ho : o.op = .index t x i) (ht : P.underlying t = some .string) (hx : cX x = some x') (hi : cX i = some i')
  (h1 : s.ev x' = some (.str l)) (h2 : s.ev i' = some (.v (.int k n))) (hob : 0 ≤ n ∧ n < lock ofN (lock (@xlen UInt8) l)) {ob : List Prop} {rd : List Nat} :
  o.wp P a w (Eff.post ⟨ob, rd, [], .one (.v (.int .u8 (lock getB l (lock toN n)))) []⟩ C s o.dst Fr) Q := by
 have d1 := Z4 h hx h1
 have d2 := Z4 h hi h2
 generalize hq : a.eval x = q at d1
 generalize hy : a.eval i = y at d2
 cases d2
 cases d1
 simp only [lock_eq, ofN, xlen, toN, getB] at hob ⊢
 have hl : n.toNat < l.length := by omega
 have hb : (ByteArray.mk l.toArray)[n.toNat]? = some l[n.toNat] := by
  have hl' : n.toNat < (ByteArray.mk l.toArray).size := by simpa [ByteArray.size] using hl
  rw [getElem?_pos (ByteArray.mk l.toArray) n.toNat hl']
  rfl
 refine Z7 h (x := .int .u8 l[n.toNat].toNat) ?_ ?_
 ·simp [execOp, ho, hq, hy, Instr.index, asIntOf, run_underlying ht, hob.1, hb]
 rw [List.getD_eq_getElem?_getD, List.getElem?_eq_getElem hl]
 exact .v _
theorem Z6p (h : Sat C PL s Fr a w) {p : SV} {n : Nat} {l : List SV} {x : Value} (hc : cellS s.hp p n = some l) (hd : Den PL w (Avo C PL s.hp) p x) :
  ∃ (ad : Addr) (cs : List Value), x = .pointer (some ad) ∧ cs.length = n ∧ l.length = n ∧ (∀ (j : Nat) (u : Value), cs[j]? = some u → w.cell? (ad.add j) = some u) ∧
   (∀ (j : Nat) (h1 : j < l.length) (h2 : j < cs.length), Den PL w (Avo C PL s.hp) l[j] cs[j]) ∧ ∀ c ∈ cs, c.oneCell' = true := by
 have build : ∀ (ad : Addr) (f : Nat → Value), x = .pointer (some ad) → l.length = n → (∀ j, j < n → w.cell? (ad.add j) = some (f j)) → (∀ (j : Nat) (h1 : j < l.length), Den PL w (Avo C PL s.hp) l[j] (f j)) → (∀ j, j < n → (f j).oneCell' = true) →
   ∃ (ad : Addr) (cs : List Value), x = .pointer (some ad) ∧ cs.length = n ∧ l.length = n ∧ (∀ (j : Nat) (u : Value), cs[j]? = some u → w.cell? (ad.add j) = some u) ∧
   (∀ (j : Nat) (h1 : j < l.length) (h2 : j < cs.length), Den PL w (Avo C PL s.hp) l[j] cs[j]) ∧ ∀ c ∈ cs, c.oneCell' = true := by
  intro ad f e hl h1 h2 h3
  refine ⟨ad, (List.range n).map f, e, by simp, hl, ?_, ?_, ?_⟩
  ·intro j u hu
   rw [List.getElem?_map] at hu
   obtain ⟨k, hk, rfl⟩ := Option.map_eq_some_iff.1 hu
   obtain ⟨hlt, hk⟩ := List.getElem?_eq_some_iff.1 hk
   simp at hlt hk
   subst hk
   exact h1 _ hlt
  ·intro j ha hb
   simp
   exact h2 j ha
  intro c hc
  obtain ⟨j, hj, rfl⟩ := List.mem_map.1 hc
  exact h3 j (by simpa using hj)
 cases p with
 | ptr id off =>
  simp only [cellS] at hc
  cases hb : blkOf s.hp id with
  | none => rw [hb] at hc; cases hc
  | some tv =>
   obtain ⟨T, vs⟩ := tv
   rw [hb] at hc
   simp only [] at hc
   obtain ⟨q, b, cs, hq, ha, hh, hl, hds⟩ := h.ck id _ (Z8j hb)
   cases hd with
   | ptr _ _ b' q' hq' ha' =>
    rw [hq] at hq'; injection hq' with hq'; subst hq'
    rw [ha] at ha'; injection ha' with ha'; injection ha' with ha'; subst ha'
    have hlen := (Z57 _ _ _ hc).1
    refine build ⟨b, off, none⟩ (fun j => cs.getD (off + j) undef) rfl hlen ?_ ?_ ?_
    ·intro j hj
     obtain ⟨h2, _⟩ := Z2j hc j (by omega)
     rw [Zo, cell_of_row w b _ cs T (0, 0) hh]
     simp [Array.getD, hl ▸ h2]
    ·intro j h1
     obtain ⟨h2, e⟩ := Z2j hc j h1
     rw [e]
     have := (hds (off + j) h2 (by omega)).1
     have h3 : off + j < cs.size := by omega
     simp only [Array.getD, h3, dif_pos]
     exact this
    intro j hj
    obtain ⟨h2, e⟩ := Z2j hc j (by omega)
    have := (hds (off + j) h2 (by omega)).2
    have h3 : off + j < cs.size := by omega
    simp only [Array.getD, h3, dif_pos]
    exact this
 | ept id i off =>
  simp only [cellS] at hc
  cases hb : rowOf s.hp id with
  | none => rw [hb] at hc; cases hc
  | some r =>
   rw [hb] at hc
   simp only [] at hc
   obtain ⟨q, hq, hl, hsz, h0, hrow⟩ := h.ck id _ (Zf hb)
   cases hd with
   | ept _ _ _ b' q' hq' ha' hi =>
    rw [hq] at hq'; injection hq' with hq'; subst hq'
    rcases hrow with ⟨hn, _⟩ | ⟨b, cs, ha, hh, hlc, hcm, hcs, hds⟩
    ·rw [hn] at ha'; cases ha'
    rw [ha] at ha'; injection ha' with ha'; injection ha' with ha'; subst ha'
    have hlen := (Z57 _ _ _ hc).1
    have key : ∀ j, j < n → ∃ (h2 : off + j < (r.elem i).length) (u : Value), cs[i * r.sz + (off + j)]? = some u ∧ Den PL w (Avo C PL s.hp) (r.elem i)[off + j] u ∧ u.oneCell' = true := by
     intro j hj
     obtain ⟨h2, e⟩ := Z2j hc j (by omega)
     exact ⟨h2, hds i (off + j) (by omega) (by rw [R.elem_len] at h2; exact h2) h2⟩
    refine build ⟨b, i * q.sz + off, none⟩ (fun j => (cs[i * r.sz + (off + j)]?).getD undef) rfl hlen ?_ ?_ ?_
    ·intro j hj
     obtain ⟨h2, u, e1, e2, e3⟩ := key j hj
     rw [Zo, cell_of_row w b _ cs r.T (0, 0) hh, hsz, Nat.add_assoc, e1]
     rfl
    ·intro j h1
     obtain ⟨h2, u, e1, e2, e3⟩ := key j (by omega)
     obtain ⟨h2', e⟩ := Z2j hc j h1
     rw [e, e1]
     exact e2
    intro j hj
    obtain ⟨h2, u, e1, e2, e3⟩ := key j hj
    rw [e1]
    exact e3
 | rpt r i off =>
  simp only [cellS] at hc
  cases hd with
  | rpt _ _ _ A cap hd hi =>
   cases hd with
   | rsl _ _ _ u hcap hsome hcell hden =>
    have hlen := (Z57 _ _ _ hc).1
    refine build ((A.add (i * r.sz)).add off) (fun j => u i (off + j)) rfl hlen ?_ ?_ ?_
    ·intro j hj
     obtain ⟨h2, e⟩ := Z2j hc j (by omega)
     rw [R.elem_len] at h2
     rw [Z1i]
     exact (hcell i (off + j) A rfl hi h2).1
    ·intro j h1
     obtain ⟨h2, e⟩ := Z2j hc j h1
     rw [e]
     exact hden i (off + j) hi h2
    intro j hj
    obtain ⟨h2, e⟩ := Z2j hc j (by omega)
    rw [R.elem_len] at h2
    exact (hcell i (off + j) A rfl hi h2).2
 | _ => simp [cellS] at hc
theorem Zvv (h : Sat C PL s Fr a w) {t : TypeId} {x : Operand} {x' : Opnd} {p v : SV} (ho : o.op = .load t x) (ht : aggOf P t = some false) (hx : cX x = some x') (h1 : s.ev x' = some p) (hc : cellS s.hp p 1 = some [v]) {ob : List Prop} {rd : List Nat} :
  o.wp P a w (Eff.post ⟨ob, rd, [], .one v []⟩ C s o.dst Fr) Q := by
 have d1 := Z4 h hx h1
 obtain ⟨ad, cs, e, hl, _, hcell, hden, _⟩ := Z6p h hc d1
 obtain ⟨c, rfl⟩ : ∃ c, cs = [c] := List.length_eq_one_iff.1 hl
 have h0 := hcell 0 c rfl
 rw [Zu] at h0
 refine Z7 h (x := c) ?_ (hden 0 (by simp) (by simp))
 simp [execOp, ho, e, Instr.loadAt, Instr.sureAddr, loadVar, Z1m ht, h0]
theorem Zvy (h : Sat C PL s Fr a w) {t : TypeId} {x : Operand} {x' : Opnd} {p : SV} {l : List SV} (ho : o.op = .load t x) (ht : aggOf P t = some true) (hx : cX x = some x') (h1 : s.ev x' = some p) (hc : cellS s.hp p (P.cellsOf t) = some l) {ob : List Prop} {rd : List Nat} :
  o.wp P a w (Eff.post ⟨ob, rd, [], .one (.agg l) []⟩ C s o.dst Fr) Q := by
 have d1 := Z4 h hx h1
 obtain ⟨ad, cs, e, hl, hl2, hcell, hden, h1c⟩ := Z6p h hc d1
 have hi : ∃ i, P.info? t = some i := by
  unfold aggOf Program.underlying at ht
  cases hi : P.info? t with
  | none => simp [hi] at ht
  | some i => exact ⟨i, rfl⟩
 obtain ⟨i, hi⟩ := hi
 have hsz : i.size = cs.length := by rw [hl]; simp [Program.cellsOf, hi]
 have hload : (loadCells ad i.size).run P w = .ok cs.toArray w := by rw [hsz]; exact run_loadCells_list (P := P) w ad cs hcell
 refine Z7 h (x := .agg cs.toArray) ?_ (.agg l cs (by omega) hden h1c)
 simp [execOp, ho, e, Instr.loadAt, Instr.sureAddr, loadVar, Z1m ht, Zn hi, hload]
end
theorem Zk5 : ∀ {l : List SV}, ones l = true → ∀ x ∈ l, x.one = true
 | [], _, x, hx => by simp at hx
 | y :: ys, h, x, hx => by
  unfold ones at h
  cases hy : y.one with
  | false => rw [hy] at h; cases h
  | true =>
   rw [hy] at h
   rcases List.mem_cons.1 hx with rfl | hx
   ·exact hy
   exact Zk5 h x hx
def Dens (PL : Nat → Option Pl) (w : World) (Av : Nat → Prop) (l : List SV) (cs : List Value) : Prop :=
 cs.length = l.length ∧ ∀ (j : Nat) (h1 : j < l.length) (h2 : j < cs.length), Den PL w Av l[j] cs[j] ∧ cs[j].oneCell' = true
theorem Dens.nil {PL : Nat → Option Pl} {w : World} {Av : Nat → Prop} : Dens PL w Av [] [] := ⟨rfl, fun j h1 _ => absurd h1 (by simp)⟩
theorem Dens.cons {PL : Nat → Option Pl} {w : World} {Av : Nat → Prop} {x : SV} {l : List SV} {c : Value} {cs : List Value} (h : Den PL w Av x c) (h1 : c.oneCell' = true) (k : Dens PL w Av l cs) : Dens PL w Av (x :: l) (c :: cs) :=
 ⟨by simp [k.1], fun j a b => by
  cases j with
  | zero => exact ⟨h, h1⟩
  | succ j => exact k.2 j (by simpa using a) (by simpa using b)⟩
theorem Dens.app {PL : Nat → Option Pl} {w : World} {Av : Nat → Prop} {l m : List SV} {cs ds : List Value} (h : Dens PL w Av l cs) (k : Dens PL w Av m ds) : Dens PL w Av (l ++ m) (cs ++ ds) := by
 refine ⟨by simp [h.1, k.1], fun j a b => ?_⟩
 by_cases hj : j < l.length
 ·have hj2 : j < cs.length := by have := h.1; omega
  simp only [List.getElem_append_left hj, List.getElem_append_left hj2]
  exact h.2 j hj hj2
 have e := h.1
 have h1 : l.length ≤ j := by omega
 have h2 : cs.length ≤ j := by omega
 simp only [List.getElem_append_right h1, List.getElem_append_right h2]
 have := k.2 (j - l.length) (by simp at a; omega) (by have := k.1; simp at a; omega)
 simpa [e] using this
theorem Dens.take {PL : Nat → Option Pl} {w : World} {Av : Nat → Prop} {l : List SV} {cs : List Value} (h : Dens PL w Av l cs) (n : Nat) : Dens PL w Av (l.take n) (cs.take n) := by
 refine ⟨by simp [h.1], fun j a b => ?_⟩
 simp only [List.getElem_take]
 exact h.2 j (by simp at a; omega) (by simp at b; omega)
theorem Dens.drop {PL : Nat → Option Pl} {w : World} {Av : Nat → Prop} {l : List SV} {cs : List Value} (h : Dens PL w Av l cs) (n : Nat) : Dens PL w Av (l.drop n) (cs.drop n) := by
 refine ⟨by simp [h.1], fun j a b => ?_⟩
 simp only [List.getElem_drop]
 exact h.2 (n + j) (by simp at a; omega) (by simp at b; omega)
theorem Dens.agg {PL : Nat → Option Pl} {w : World} {Av : Nat → Prop} {l : List SV} {cs : List Value} (h : Dens PL w Av l cs) : Den PL w Av (.agg l) (.agg cs.toArray) :=
 .agg l cs h.1 (fun j a b => (h.2 j a b).1) fun c hc => by
  obtain ⟨j, hj, rfl⟩ := List.mem_iff_getElem.1 hc
  exact (h.2 j (by have := h.1; omega) hj).2
theorem Dens.of_agg {PL : Nat → Option Pl} {w : World} {Av : Nat → Prop} {l : List SV} {x : Value} (h : Den PL w Av (.agg l) x) : ∃ cs : List Value, x = .agg cs.toArray ∧ Dens PL w Av l cs := by
 cases h with
 | agg _ cs hl hd h1 => exact ⟨cs, rfl, hl, fun j a b => ⟨hd j a b, h1 _ (List.getElem_mem b)⟩⟩
theorem Dens.mono {PL PL' : Nat → Option Pl} {w w' : World} {Av Av' : Nat → Prop} {l : List SV} {cs : List Value} (h : Dens PL w Av l cs) (hm : ∀ v x, Den PL w Av v x → Den PL' w' Av' v x) : Dens PL' w' Av' l cs :=
 ⟨h.1, fun j a b => ⟨hm _ _ (h.2 j a b).1, (h.2 j a b).2⟩⟩
theorem Z4w {PL : Nat → Option Pl} {w : World} {Av : Nat → Prop} {v : SV} {x : Value} (h : Den PL w Av v x) (h1 : ones v.flat = true) : Dens PL w Av v.flat x.cells.toList := by
 have single : v.flat = [v] → Dens PL w Av v.flat x.cells.toList := fun e => by
  rw [e] at h1 ⊢
  have hv := Zk5 h1 v (by simp)
  have hx := h.oneCell hv
  have : x.cells.toList = [x] := by cases x <;> first | rfl | (simp [Value.oneCell'] at hx)
  rw [this]
  exact Dens.cons h hx .nil
 cases v with
 | agg l =>
  obtain ⟨cs, rfl, hd⟩ := Dens.of_agg h
  simpa [SV.flat, Value.cells] using hd
 | _ => exact single rfl
section
variable {P : Program} {C : Ctx} {PL : Nat → Option Pl} {s : St} {Fr : Nat → Prop} {a : Act} {w : World} {o : Oper} {Q : Exit → Act → World → Prop}
theorem Zlw (h : Sat C PL s Fr a w) {t : TypeId} {fs : Array Field} {f : Nat} {g : Field} {x : Operand} {x' : Opnd} {l m : List SV} {b : Bool} {v : SV} (ho : o.op = .field t x f) (ht : P.underlying t = some (.struct fs)) (hg : fs[f]? = some g) (hb : aggOf P g.type = some b)
  (hx : cX x = some x') (h1 : s.ev x' = some (.agg l)) (hm : take2 (P.cellsOf g.type) (drop2 g.offset l) = some m) (hv : (b = true ∧ v = .agg m) ∨ (b = false ∧ m = [v])) :
  o.wp P a w (Eff.post (.pure v) C s o.dst Fr) Q := by
 have d1 := Z4 h hx h1
 obtain ⟨cs, hq, hd⟩ := Dens.of_agg d1
 have hi : ∃ i, P.info? g.type = some i := by
  unfold aggOf Program.underlying at hb
  cases hi : P.info? g.type with
  | none => simp [hi] at hb
  | some i => exact ⟨i, rfl⟩
 obtain ⟨i, hi⟩ := hi
 have hsz : P.cellsOf g.type = i.size := by simp [Program.cellsOf, hi]
 have hmeq : m = (l.drop g.offset).take (P.cellsOf g.type) := by
  rw [Zc0] at hm
  obtain ⟨a1, a2, a3⟩ := Z57 _ _ _ hm
  refine List.ext_getElem (by simp [a1]; simp at a2; omega) fun j u1 u2 => ?_
  rw [a3 j u1 (by omega)]
  simp
 have hdm : Dens PL w (Avo C PL s.hp) m ((cs.drop g.offset).take (P.cellsOf g.type)) := hmeq ▸ ((hd.drop g.offset).take _)
 rcases hv with ⟨rfl, rfl⟩ | ⟨rfl, rfl⟩
 ·refine Z7 h (x := .agg ((cs.drop g.offset).take (P.cellsOf g.type)).toArray) ?_ hdm.agg
  simp [execOp, ho, hq, Instr.field, run_underlying ht, hg, asAgg, part, Z1m hb, Zn hi, hsz]
 have hl := hdm.1
 obtain ⟨c, hc⟩ : ∃ c, (cs.drop g.offset).take (P.cellsOf g.type) = [c] := List.length_eq_one_iff.1 (by simpa using hl)
 have hc0 : cs[g.offset]? = some c := by
  have := congrArg (fun l => l[0]?) hc
  simp only [List.getElem?_take, List.getElem?_drop] at this
  split at this
  ·simpa using this
  simp at this
 rw [hc] at hdm
 refine Z7 h (x := c) ?_ ((hdm.2 0 (by simp) (by simp)).1)
 simp [execOp, ho, hq, Instr.field, run_underlying ht, hg, asAgg, part, Z1m hb, hc0]
theorem Zh0 (off : Nat) : ∀ (vs : List Value) (k : Nat) (cs : Array Value), off + k + vs.length ≤ cs.size →
  (((vs.zipIdx k).foldl (fun (cs : Array Value) (p : Value × Nat) => cs.setIfInBounds (off + p.2) p.1) cs)).toList = cs.toList.take (off + k) ++ vs ++ cs.toList.drop (off + k + vs.length)
 | [], k, cs, h => by simp
 | v :: vs, k, cs, h => by
  simp only [List.zipIdx_cons, List.foldl_cons]
  rw [Zh0 off vs (k + 1) _ (by simp at h ⊢; omega)]
  have e := list_seg_step cs.toList (off + k) v vs (by simp at h ⊢; omega)
  simpa [Array.toList_setIfInBounds, Nat.add_assoc] using e
theorem Zc7 {Av : Nat → Prop} : ∀ (ps : List (Nat × Nat × SV)) (qs : List (Nat × Value)) (place : Nat → Option (Nat × Nat)) (zs m : List SV) (cs : Array Value),
  qs.length = ps.length → (∀ (j : Nat) (h1 : j < ps.length) (h2 : j < qs.length), place qs[j].1 = some (ps[j].1, ps[j].2.1) ∧ Den PL w Av ps[j].2.2 qs[j].2) → Dens PL w Av zs cs.toList → fills zs ps = some m →
  ∃ ds : Array Value, Instr.fill place cs qs = some ds ∧ Dens PL w Av m ds.toList
 | [], qs, place, zs, m, cs, hl, _, hd, hf => by
  obtain rfl : qs = [] := List.eq_nil_of_length_eq_zero hl
  simp only [fills] at hf
  injection hf with hf
  subst hf
  exact ⟨cs, rfl, hd⟩
 | (off, n, v) :: ps, qs, place, zs, m, cs, hl, hp, hd, hf => by
  obtain ⟨q, qs', rfl⟩ : ∃ q qs', qs = q :: qs' := by
   cases qs with
   | nil => simp at hl
   | cons q qs' => exact ⟨q, qs', rfl⟩
  obtain ⟨i, x⟩ := q
  obtain ⟨hpl, hden⟩ := hp 0 (by simp) (by simp)
  simp only [List.getElem_cons_zero] at hpl hden
  unfold fills at hf
  cases hc : (Nat.beq v.flat.length n && ones v.flat) with
  | false => rw [hc] at hf; cases hf
  | true =>
   rw [hc] at hf
   simp only [] at hf
   rw [Bool.and_eq_true] at hc
   have hn := (nbeq _ _).1 hc.1
   cases hb : Nat.ble (off + n) zs.length with
   | false => rw [hb] at hf; cases hf
   | true =>
    rw [hb] at hf
    simp only [] at hf
    have hle : off + n ≤ zs.length := Nat.le_of_ble_eq_true hb
    have hfl := Z4w hden hc.2
    have hxs : x.cells.size = n := by have := hfl.1; simp at this; omega
    have hcs : cs.size = zs.length := by have := hd.1; simpa using this
    have hfold := Zh0 off x.cells.toList 0 cs (by simp; omega)
    have hnew : Dens PL w Av (zs.take off ++ v.flat ++ zs.drop (off + n)) ((x.cells.toList.zipIdx 0).foldl (fun (cs : Array Value) (p : Value × Nat) => cs.setIfInBounds (off + p.2) p.1) cs).toList := by
     rw [hfold]
     simp only [Nat.add_zero, Array.length_toList, hxs]
     exact ((hd.take off).app hfl).app (hd.drop (off + n))
    obtain ⟨ds, hds, hdd⟩ := Zc7 ps qs' place _ m _ (by simpa using hl) (fun j h1 h2 => hp (j + 1) (by simpa using h1) (by simpa using h2)) hnew hf
    refine ⟨ds, ?_, hdd⟩
    unfold Instr.fill
    rw [hpl]
    simp only []
    rw [if_neg (by simp [hxs, hcs]; omega)]
    rw [← hds]
    congr 1
    rw [← Array.foldl_toList, Array.toList_zipIdx]
theorem Z4s {Av : Nat → Prop} : ∀ {xs : List Value} {vs : List SV}, cKs xs = some vs → Dens PL w Av vs xs
 | [], vs, h => by simp only [cKs] at h; injection h with h; subst h; exact .nil
 | x :: xs, vs, h => by
  simp only [cKs, Option.bind_eq_bind, Option.bind_eq_some_iff, Option.pure_def, Option.some.injEq] at h
  obtain ⟨v, hv, vs', hvs, rfl⟩ := h
  have h1 : x.oneCell' = true := by
   unfold cK at hv
   split at hv <;> first | rfl | cases hv
  exact Dens.cons (Zgd hv) h1 (Z4s hvs)
theorem Z6i {t : TypeId} {zs : List SV} (h : zeroOf P t = some zs) : ∃ i z, P.info? t = some i ∧ i.zero = some z ∧ cKs z.cells.toList = some zs := by
 simp only [zeroOf, Option.bind_eq_bind, Option.bind_eq_some_iff] at h
 obtain ⟨i, hi, z, hz, hc⟩ := h
 exact ⟨i, z, hi, hz, hc⟩
theorem Z6e {t : TypeId} {i : TypeInfo} {z : Value} (hi : P.info? t = some i) (hz : i.zero = some z) : (zeroValue t).run P w = .ok z w := by
 simp [zeroValue, typeInfo, hi, hz]
theorem Zkz (h : Sat C PL s Fr a w) {fs : Array Field} : ∀ {qs : List (Nat × Operand)} {ys : List (Nat × Nat × Opnd)} {l : List (Nat × Nat × SV)}, cPartsS P fs qs = some ys → s.parts ys = some l →
  qs.length = l.length ∧ ∀ (j : Nat) (h1 : j < l.length) (h2 : j < qs.length), (∃ f, fs[qs[j].1]? = some f ∧ l[j].1 = f.offset ∧ l[j].2.1 = P.cellsOf f.type) ∧ Den PL w (Avo C PL s.hp) l[j].2.2 (a.eval qs[j].2)
 | [], ys, l, h1, h2 => by
  simp only [cPartsS] at h1; injection h1 with h1; subst h1
  simp only [St.parts] at h2; injection h2 with h2; subst h2
  exact ⟨rfl, fun j a _ => absurd a (by simp)⟩
 | (i, x) :: qs, ys, l, h1, h2 => by
  simp only [cPartsS, Option.bind_eq_bind, Option.bind_eq_some_iff, Option.pure_def, Option.some.injEq] at h1
  obtain ⟨f, hf, y, hy, ys', hys, rfl⟩ := h1
  unfold St.parts at h2
  cases hv : s.ev y with
  | none => rw [hv] at h2; cases h2
  | some v =>
   rw [hv] at h2
   simp only [] at h2
   cases hl : s.parts ys' with
   | none => rw [hl] at h2; cases h2
   | some l' =>
    rw [hl] at h2
    simp only [] at h2
    injection h2 with h2
    subst h2
    obtain ⟨e, k⟩ := Zkz h hys hl
    refine ⟨by simp [e], fun j b c => ?_⟩
    cases j with
    | zero => exact ⟨⟨f, hf, rfl, rfl⟩, Z4 h hy hv⟩
    | succ j => exact k j (by simpa using b) (by simpa using c)
theorem Zky (h : Sat C PL s Fr a w) {sz : Nat} : ∀ {qs : List (Nat × Operand)} {ys : List (Nat × Nat × Opnd)} {l : List (Nat × Nat × SV)}, cPartsA sz qs = some ys → s.parts ys = some l →
  qs.length = l.length ∧ ∀ (j : Nat) (h1 : j < l.length) (h2 : j < qs.length), (l[j].1 = qs[j].1 * sz ∧ l[j].2.1 = sz) ∧ Den PL w (Avo C PL s.hp) l[j].2.2 (a.eval qs[j].2)
 | [], ys, l, h1, h2 => by
  simp only [cPartsA] at h1; injection h1 with h1; subst h1
  simp only [St.parts] at h2; injection h2 with h2; subst h2
  exact ⟨rfl, fun j a _ => absurd a (by simp)⟩
 | (i, x) :: qs, ys, l, h1, h2 => by
  simp only [cPartsA, Option.bind_eq_bind, Option.bind_eq_some_iff, Option.pure_def, Option.some.injEq] at h1
  obtain ⟨y, hy, ys', hys, rfl⟩ := h1
  unfold St.parts at h2
  cases hv : s.ev y with
  | none => rw [hv] at h2; cases h2
  | some v =>
   rw [hv] at h2
   simp only [] at h2
   cases hl : s.parts ys' with
   | none => rw [hl] at h2; cases h2
   | some l' =>
    rw [hl] at h2
    simp only [] at h2
    injection h2 with h2
    subst h2
    obtain ⟨e, k⟩ := Zky h hys hl
    refine ⟨by simp [e], fun j b c => ?_⟩
    cases j with
    | zero => exact ⟨⟨rfl, rfl⟩, Z4 h hy hv⟩
    | succ j => exact k j (by simpa using b) (by simpa using c)
theorem Zve (h : Sat C PL s Fr a w) {t : TypeId} {fs : Array Field} {ps : Array (Nat × Operand)} {zs : List SV} {ys : List (Nat × Nat × Opnd)} {l : List (Nat × Nat × SV)} {m : List SV} (ho : o.op = .build t ps) (ht : P.underlying t = some (.struct fs))
  (hz : zeroOf P t = some zs) (hy : cPartsS P fs ps.toList = some ys) (hl : s.parts ys = some l) (hm : fills zs l = some m) (hinfo : ∀ f ∈ fs.toList, (P.info? f.type).isSome = true) :
  o.wp P a w (Eff.post (.pure (.agg m)) C s o.dst Fr) Q := by
 obtain ⟨i, z, hi, hzz, hzc⟩ := Z6i hz
 obtain ⟨e, k⟩ := Zkz h hy hl
 have hmap : ∀ (l : List Field), (∀ f ∈ l, (P.info? f.type).isSome = true) → l.mapM (fun f => (P.info? f.type).map fun i => (f.offset, i.size)) = some (l.map fun f => (f.offset, P.cellsOf f.type)) := by
  intro l
  induction l with
  | nil => intro _; simp
  | cons f l ih =>
   intro hf
   obtain ⟨j, hj⟩ := Option.isSome_iff_exists.1 (hf f (by simp))
   simp only [List.mapM_cons, ih (fun g hg => hf g (by simp [hg])), hj, Option.map_some, List.map_cons]
   simp [Program.cellsOf, hj]
 obtain ⟨ds, hds, hdd⟩ := Zc7 l (ps.toList.map fun q => (q.1, a.eval q.2)) (fun i => (fs.toList.map fun f => (f.offset, P.cellsOf f.type)).toArray[i]?) zs m z.cells (by simp [e]) (fun j h1 h2 => by
  obtain ⟨⟨f, hf, e1, e2⟩, d⟩ := k j h1 (by omega)
  simp only [List.getElem_map]
  refine ⟨?_, d⟩
  rw [e1, e2]
  simp only [List.getElem?_toArray, List.getElem?_map, Array.getElem?_toList, hf, Option.map_some]) (Z4s hzc) hm
 refine Z7 h (x := .agg ds) ?_ (by have := hdd.agg; simpa using this)
 have hb : P.built t (ps.map fun x => (x.1, a.eval x.2)).toList = some ds := by
  unfold Program.built
  simp only [hi, ht, hzz, hmap fs.toList hinfo, Array.toList_map]
  exact hds
 simp only [execOp, ho, Sem.run_bind, run_build w t _ ds hb, Result.andThen_ok, Sem.run_pure]
end
theorem sub_len {α : Type} (l : List α) (lo n : Nat) (h : lo + n ≤ l.length) : (lsub l lo n).length = n := by simp [lsub]; omega
theorem R.sub_len (r : R) (lo n : Nat) (h : lo + n ≤ rlen r) : rlen (r.sub lo n) = n := by
 cases r <;> simp only [R.sub, rlen, lock_eq] at * <;> exact Go.Proofs.Ytojbpjcfdjakkaa.sub_len _ _ _ h
theorem R.sub_sz (r : R) (lo n : Nat) : (r.sub lo n).sz = r.sz := by cases r <;> rfl
theorem Zwn {α : Type} (l : List α) (lo n i : Nat) (d : α) (hi : i < n) : (lsub l lo n).getD i d = l.getD (lo + i) d := by
 simp only [lsub, List.getD_eq_getElem?_getD, List.getElem?_take, List.getElem?_drop]
 rw [if_pos hi]
theorem R.sub_elem (r : R) (lo n i : Nat) (hi : i < n) : (r.sub lo n).elem i = r.elem (lo + i) := by
 cases r <;> simp only [R.sub, R.elem, lock_eq, getB, getI, getD, Zwn _ _ _ _ _ hi]
section
variable {P : Program} {C : Ctx} {PL : Nat → Option Pl} {s : St} {Fr : Nat → Prop} {a : Act} {w : World} {o : Oper} {Q : Exit → Act → World → Prop}
theorem Z1l {hp : List (Nat × Ck)} (h : HSat C PL hp Fr w) {v : SV} {r : R} {x : Value} (hr : rowS hp v = some r) (hd : Den PL w (Avo C PL hp) v x) :
  ∃ A cap, x = .slice A (rlen r) cap ∧ rlen r ≤ cap ∧ (0 < rlen r → A.isSome = true) ∧
   ∀ ad, A = some ad → ∀ (i j : Nat) (hi : i < rlen r) (hj : j < (r.elem i).length), ∃ u, w.cell? ((ad.add (i * r.sz)).add j) = some u ∧ Den PL w (Avo C PL hp) (r.elem i)[j] u ∧ u.oneCell' = true := by
 cases v with
 | wsl id =>
  have hg := Zf hr
  cases hd with
  | wsl _ p hp' =>
   obtain ⟨q, hq, hl, hsz, h0, hrow⟩ := h.ck id _ hg
   rw [hp'] at hq; injection hq with hq; subst hq
   refine ⟨p.a, p.cap, by rw [hl], ?_, ?_, ?_⟩
   ·rcases hrow with ⟨_, _, h1⟩ | ⟨b, cs, ha, hh, h1, _⟩ <;> omega
   ·intro h1
    rcases hrow with ⟨_, _, h2⟩ | ⟨b, cs, ha, _⟩
    ·omega
    simp [ha]
   intro ad e i j hi hj
   rcases hrow with ⟨hn, _⟩ | ⟨b, cs, ha, hh, h1, h2, h3, hds⟩
   ·rw [hn] at e; cases e
   rw [ha] at e; injection e with e; subst e
   obtain ⟨u, e1, e2, e3⟩ := hds i j hi (by rw [R.elem_len] at hj; exact hj) hj
   refine ⟨u, ?_, e2, e3⟩
   rw [Zo, Zo, cell_of_row w b _ cs r.T (0, 0) hh, Nat.zero_add]
   exact e1
 | sl id lo n =>
  simp only [rowS] at hr
  cases hro : rowOf hp id with
  | none => rw [hro] at hr; cases hr
  | some q =>
   rw [hro] at hr
   simp only [] at hr
   injection hr with hr
   subst hr
   have hg := Zf hro
   cases hd with
   | sl _ _ _ p A cap hp' hl hc hn hA =>
    obtain ⟨p', hq, hl', hsz, h0, hrow⟩ := h.ck id _ hg
    rw [hp'] at hq; injection hq with hq; subst hq
    have hlen := R.sub_len q lo n (by omega)
    refine ⟨A, cap, by rw [hlen], by omega, ?_, ?_⟩
    ·rw [hlen]
     intro h1
     rcases hrow with ⟨_, _, h2⟩ | ⟨b, cs, ha, _⟩
     ·omega
     rw [hA (by omega), ha]; rfl
    intro ad e i j hi hj
    rw [hlen] at hi
    rcases hrow with ⟨h1, _, h2⟩ | ⟨b, cs, ha, hh, h1, h2, h3, hds⟩
    ·omega
    have hA' := hA (by omega)
    rw [ha] at hA'
    simp only [Option.map_some, Zo] at hA'
    rw [hA'] at e; injection e with e; subst e
    have hel := R.sub_elem q lo n i hi
    have hj' : j < (q.elem (lo + i)).length := by rw [hel] at hj; exact hj
    obtain ⟨u, e1, e2, e3⟩ := hds (lo + i) j (by omega) (by rw [R.elem_len] at hj'; exact hj') hj'
    refine ⟨u, ?_, ?_, e3⟩
    ·rw [R.sub_sz, Zo, Zo, cell_of_row w b _ cs q.T (0, 0) hh, ← e1]
     congr 1
     rw [hsz, Nat.add_mul]
     omega
    have : ∀ (l : List SV) (h1 : j < l.length), l = q.elem (lo + i) → Den PL w (Avo C PL hp) l[j] u := fun l h1 e => by subst e; exact e2
    exact this _ hj hel
 | rsl q =>
  simp only [rowS] at hr
  injection hr with hr
  subst hr
  cases hd with
  | rsl _ A cap u hcap hsome hcell hden =>
   refine ⟨A, cap, rfl, hcap, ?_, ?_⟩
   ·intro h1
    obtain ⟨ad, rfl, _⟩ := hsome h1
    rfl
   intro ad e i j hi hj
   exact ⟨u i j, (hcell i j ad e hi (by rw [R.elem_len] at hj; exact hj)).1, hden i j hi hj, (hcell i j ad e hi (by rw [R.elem_len] at hj; exact hj)).2⟩
 | _ => simp [rowS] at hr
theorem Zd9 {hp : List (Nat × Ck)} (h : HSat C PL hp Fr w) {v : SV} {r : R} {x : Value} (hr : rowS hp v = some r) (hd : Den PL w (Avo C PL hp) v x) :
  ∃ A cap, x = .slice A (rlen r) cap ∧ rlen r ≤ cap ∧ (0 < rlen r → A.isSome = true) ∧ ∀ m, m ≤ rlen r → ∃ cs : List Value, cs.length = m * r.sz ∧ (∀ ad, A = some ad → ∀ j u, cs[j]? = some u → w.cell? (ad.add j) = some u) ∧ (∀ u ∈ cs, u.oneCell' = true) ∧
   ∀ (i j : Nat) (hi : i < m) (hj : j < (r.elem i).length), ∃ u, cs[i * r.sz + j]? = some u ∧ Den PL w (Avo C PL hp) (r.elem i)[j] u := by
 obtain ⟨A, cap, e, hcap, hsome, hcell⟩ := Z1l h hr hd
 refine ⟨A, cap, e, hcap, hsome, fun m hm => ?_⟩
 cases A with
 | none =>
  have h0 : ¬ 0 < rlen r := fun h1 => by simpa using hsome h1
  have hm0 : m = 0 := by omega
  subst hm0
  exact ⟨[], by simp, fun ad e => by (cases e), fun u hu => by simp at hu, fun i j hi _ => by omega⟩
 | some ad =>
  have hc := hcell ad rfl
  by_cases hz : r.sz = 0
  ·exact ⟨[], by simp [hz], fun ad e j u hu => by simp at hu, fun u hu => by simp at hu, fun i j hi hj => by rw [R.elem_len, hz] at hj; omega⟩
  have hz' : 0 < r.sz := by omega
  let f : Nat → Value := fun k => (w.cell? (ad.add k)).getD undef
  have key : ∀ k, k < m * r.sz → ∃ u, w.cell? (ad.add k) = some u ∧ f k = u ∧ u.oneCell' = true := by
   intro k hk
   have hi : k / r.sz < m := by rw [Nat.div_lt_iff_lt_mul hz']; exact hk
   have hj : k % r.sz < r.sz := Nat.mod_lt _ hz'
   obtain ⟨u, e1, _, e3⟩ := hc (k / r.sz) (k % r.sz) (by omega) (by rw [R.elem_len]; exact hj)
   rw [Z1i, Nat.mul_comm, Nat.div_add_mod] at e1
   exact ⟨u, e1, by simp [f, e1], e3⟩
  refine ⟨(List.range (m * r.sz)).map f, by simp, ?_, ?_, ?_⟩
  ·intro ad' e' j u hu
   injection e' with e'
   subst e'
   rw [List.getElem?_map] at hu
   obtain ⟨k, hk, rfl⟩ := Option.map_eq_some_iff.1 hu
   obtain ⟨hlt, hk⟩ := List.getElem?_eq_some_iff.1 hk
   simp at hlt hk
   subst hk
   obtain ⟨u, e1, e2, _⟩ := key j hlt
   rw [e1, e2]
  ·intro u hu
   obtain ⟨k, hk, rfl⟩ := List.mem_map.1 hu
   obtain ⟨u, e1, e2, e3⟩ := key k (by simpa using hk)
   rw [e2]; exact e3
  intro i j hi hj
  obtain ⟨u, e1, e2, e3⟩ := hc i j (by omega) hj
  have hj' : j < r.sz := by rw [R.elem_len] at hj; exact hj
  have hlt : i * r.sz + j < m * r.sz := by
   have : (i + 1) * r.sz ≤ m * r.sz := Nat.mul_le_mul_right _ hi
   rw [Nat.add_mul] at this
   omega
  refine ⟨f (i * r.sz + j), by simp [hlt], ?_⟩
  rw [Z1i] at e1
  have : f (i * r.sz + j) = u := by simp [f, e1]
  rw [this]
  exact e2
theorem Zj8 {hp : List (Nat × Ck)} (h : HSat C PL hp Fr w) {v : SV} {n : Nat} {x : Value} (hn : lenS hp v = some n) (hd : Den PL w (Avo C PL hp) v x) :
  (∃ A c, x = .slice A n c) ∨ ∃ l : List UInt8, v = .str l ∧ x = .string ⟨l.toArray⟩ ∧ l.length = n := by
 cases v with
 | wsl id =>
  simp only [lenS] at hn
  cases hro : rowOf hp id with
  | none => rw [hro] at hn; cases hn
  | some r =>
   rw [hro] at hn
   simp only [] at hn
   injection hn with hn
   obtain ⟨A, cap, e, _⟩ := Z1l (r := r) h (by simpa [rowS] using hro) hd
   rw [R.len_eq] at hn
   exact .inl ⟨A, cap, by rw [e, hn]⟩
 | sl id lo k =>
  simp only [lenS] at hn
  injection hn with hn
  subst hn
  cases hd with
  | sl _ _ _ p A cap => exact .inl ⟨A, cap, rfl⟩
 | rsl r =>
  simp only [lenS] at hn
  injection hn with hn
  obtain ⟨A, cap, e, _⟩ := Z1l (r := r) h rfl hd
  rw [R.len_eq] at hn
  exact .inl ⟨A, cap, by rw [e, hn]⟩
 | nsl =>
  simp only [lenS] at hn
  injection hn with hn
  subst hn
  cases hd
  exact .inl ⟨none, 0, rfl⟩
 | str l =>
  simp only [lenS, lock_eq, xlen] at hn
  injection hn with hn
  generalize x = y at hd
  cases hd
  exact .inr ⟨l, rfl, rfl, hn⟩
 | _ => simp [lenS] at hn
theorem Zlt (h : Sat C PL s Fr a w) {c : Call} {t : TypeId} {x : Operand} {x' : Opnd} {v : SV} {n : Nat} (ho : o.op = .call c) (hc : c.callee = .builtin .len) (ha : c.args.toList = [x]) (ht : c.argTypes[0]? = some t)
  (hu : (∃ e, P.underlying t = some (.slice e)) ∨ P.underlying t = some .string) (hx : cX x = some x') (h1 : s.ev x' = some v) (hn : lenS s.hp v = some n)
  (hfit : ((∃ e, P.underlying t = some (.slice e)) ↔ ∀ l, v ≠ .str l)) {ob : List Prop} {rd : List Nat} :
  o.wp P a w (Eff.post ⟨ob, rd, [], .one (.v (.int .i64 (lock ofN n))) []⟩ C s o.dst Fr) Q := by
 have d1 := Z4 h hx h1
 have hargs : c.args = #[x] := by rw [← Array.toArray_toList (xs := c.args), ha]
 refine Z7 h (x := .int .i64 (lock ofN n)) ?_ (.v _)
 rcases Zj8 h.toHSat hn d1 with ⟨A, cap, e⟩ | ⟨l, hvl, e, hl⟩
 ·have hs : ∃ e, P.underlying t = some (.slice e) := hfit.2 (by
   intro l hl
   subst hl
   rw [e] at d1
   cases d1)
  obtain ⟨el, hs⟩ := hs
  simp [execOp, ho, resolve, hc, hargs, invoke, builtin, e, Builtin.len_, ht, run_underlying hs, goInt, lock_eq, ofN]
 have hs : P.underlying t = some .string := by
  rcases hu with hu | hu
  ·exact absurd hvl (hfit.1 hu l)
  exact hu
 have hsz : (ByteArray.mk l.toArray).size = n := by rw [← hl]; rfl
 simp [execOp, ho, resolve, hc, hargs, invoke, builtin, e, Builtin.len_, ht, run_underlying hs, goInt, lock_eq, ofN, hsz]
theorem Zw7 (h : Sat C PL s Fr a w) {c : Call} {x y : Operand} {x' y' : Opnd} {k : IntKind} {m n : Int} (ho : o.op = .call c) (hc : c.callee = .builtin .max) (ha : c.args.toList = [x, y]) (hx : cX x = some x') (hy : cX y = some y')
  (h1 : s.ev x' = some (.v (.int k m))) (h2 : s.ev y' = some (.v (.int k n))) : o.wp P a w (Eff.post (.pure (.v (.int k (lock imax m n)))) C s o.dst Fr) Q := by
 have d1 := Z4 h hx h1
 have d2 := Z4 h hy h2
 generalize hq : a.eval x = q at d1
 generalize hr : a.eval y = r at d2
 cases d1
 cases d2
 have hargs : c.args = #[x, y] := by rw [← Array.toArray_toList (xs := c.args), ha]
 refine Z7 h (x := .int k (lock imax m n)) ?_ (.v _)
 simp [execOp, ho, resolve, hc, hargs, invoke, builtin, hq, hr, Builtin.max_, Builtin.max2, lock_eq, imax]
theorem Zw4 (h : Sat C PL s Fr a w) {c : Call} {x y : Operand} {x' y' : Opnd} {k : IntKind} {m n : Int} (ho : o.op = .call c) (hc : c.callee = .builtin .min) (ha : c.args.toList = [x, y]) (hx : cX x = some x') (hy : cX y = some y')
  (h1 : s.ev x' = some (.v (.int k m))) (h2 : s.ev y' = some (.v (.int k n))) : o.wp P a w (Eff.post (.pure (.v (.int k (lock imin m n)))) C s o.dst Fr) Q := by
 have d1 := Z4 h hx h1
 have d2 := Z4 h hy h2
 generalize hq : a.eval x = q at d1
 generalize hr : a.eval y = r at d2
 cases d1
 cases d2
 have hargs : c.args = #[x, y] := by rw [← Array.toArray_toList (xs := c.args), ha]
 refine Z7 h (x := .int k (lock imin m n)) ?_ (.v _)
 simp [execOp, ho, resolve, hc, hargs, invoke, builtin, hq, hr, Builtin.min_, Builtin.min2, lock_eq, imin]
theorem Z7s (b : Bool) (len cap : Nat) (lo hi : Option Operand) (m n : Nat) (hm : m ≤ n) (hn : n ≤ cap)
  (hlo : (lo = none ∧ m = 0) ∨ ∃ x k, lo = some x ∧ a.eval x = .int k m) (hhi : (hi = none ∧ n = len) ∨ ∃ x k, hi = some x ∧ a.eval x = .int k n) :
  (Instr.sliceBounds b len cap (lo.map a.eval) (hi.map a.eval) none).run P w = .ok (m, n, cap) w := by
 rcases hlo with ⟨rfl, rfl⟩ | ⟨x, k, rfl, hx⟩ <;> rcases hhi with ⟨rfl, rfl⟩ | ⟨y, k', rfl, hy⟩
 ·simp [Instr.sliceBounds]
 ·simp [Instr.sliceBounds, Instr.sliceBound, asIntOf, hy, hn]
 ·simp [Instr.sliceBounds, Instr.sliceBound, asIntOf, hx, hm]
 simp [Instr.sliceBounds, Instr.sliceBound, asIntOf, hx, hy, hm, hn]
theorem Z7x (h : Sat C PL s Fr a w) {t : TypeId} {x : Operand} {lo hi : Option Operand} {x' : Opnd} {l : List UInt8} (m n : Nat) (ho : o.op = .slice t x lo hi none) (ht : P.underlying t = some .string) (hx : cX x = some x') (h1 : s.ev x' = some (.str l))
  (hm : m ≤ n) (hn : n ≤ l.length) (hlo : (lo = none ∧ m = 0) ∨ ∃ x k, lo = some x ∧ a.eval x = .int k m) (hhi : (hi = none ∧ n = l.length) ∨ ∃ x k, hi = some x ∧ a.eval x = .int k n) {ob : List Prop} {rd : List Nat} {v : SV} (hv : v = .str (lsub l m (n - m))) :
  o.wp P a w (Eff.post ⟨ob, rd, [], .one v []⟩ C s o.dst Fr) Q := by
 have d1 := Z4 h hx h1
 generalize hq : a.eval x = q at d1
 cases d1
 subst hv
 have hb := Z7s (P := P) (w := w) (a := a) false l.length l.length lo hi m n hm hn hlo hhi
 have he : (ByteArray.mk l.toArray).extract m n = ⟨(lsub l m (n - m)).toArray⟩ := by
  apply ByteArray.ext
  simp [lsub, List.extract_eq_take_drop]
 refine Z7 h (x := .string ⟨(lsub l m (n - m)).toArray⟩) ?_ (.str _)
 rw [← he]
 have hsz : (ByteArray.mk l.toArray).size = l.length := by simp [ByteArray.size]
 simp [execOp, ho, Instr.sliceAt, run_underlying ht, Instr.slice, hq, hsz, hb]
theorem Zdn (h : Sat C PL s Fr a w) {t e : TypeId} {x : Operand} {lo hi : Option Operand} {x' : Opnd} {v u : SV} {r : R} (m n : Nat) (ho : o.op = .slice t x lo hi none) (ht : P.underlying t = some (.slice e)) (hz : P.cellsOf e ≠ 0) (hx : cX x = some x') (h1 : s.ev x' = some v)
  (hr : rowS s.hp v = some r) (hs : r.sz = P.cellsOf e) (hm : m ≤ n) (hn : n ≤ rlen r) (hlo : (lo = none ∧ m = 0) ∨ ∃ x k, lo = some x ∧ a.eval x = .int k m) (hhi : (hi = none ∧ n = rlen r) ∨ ∃ x k, hi = some x ∧ a.eval x = .int k n)
  {ob : List Prop} {rd : List Nat} (hu : u = partS v m (n - m)) :
  o.wp P a w (Eff.post ⟨ob, rd, [], .one u []⟩ C s o.dst Fr) Q := by
 have d1 := Z4 h hx h1
 obtain ⟨i, hi', he⟩ := Z19 hz
 obtain ⟨A, cap, hq, hcap, hsome, _⟩ := Z1l h.toHSat hr d1
 have hb := Z7s (P := P) (w := w) (a := a) true (rlen r) cap lo hi m n hm (by omega) hlo hhi
 rw [hq] at d1
 subst hu
 refine Z7 h (x := .slice (if cap = m then A else A.map (·.add (m * i.size))) (n - m) (cap - m)) ?_ ?_
 ·simp [execOp, ho, Instr.sliceAt, run_underlying ht, Instr.slice, hq, hb, Zn hi']
 have hisz : i.size = r.sz := by omega
 cases v with
 | wsl id =>
  generalize hrl : rlen r = rl at d1 hcap hn hhi
  cases d1 with
  | wsl _ p hp =>
   obtain ⟨q, hq', hl, hsz, h0, hrow⟩ := h.ck id _ (Zf hr)
   rw [hp] at hq'; injection hq' with hq'; subst hq'
   refine .sl id m (n - m) p _ _ hp (by omega) (by omega) ?_ ?_
   ·split
    ·exact Iff.rfl
    cases p.a <;> simp
   intro hne
   rw [if_neg (by omega), hisz, hsz]
 | sl id l0 k =>
  have hr' := hr
  simp only [rowS] at hr'
  cases hro : rowOf s.hp id with
  | none => rw [hro] at hr'; cases hr'
  | some q =>
   rw [hro] at hr'
   simp only [] at hr'
   injection hr' with hr'
   generalize hrl : rlen r = rl at d1 hcap hn hhi
   cases d1 with
   | sl _ _ _ p _ _ hp hl hc hnn hA =>
    obtain ⟨q', hq', hl', hsz, h0, hrow⟩ := h.ck id _ (Zf hro)
    rw [hp] at hq'; injection hq' with hq'; subst hq'
    have hrs : r.sz = q.sz := by rw [← hr', R.sub_sz]
    simp only [partS, lock_eq, nadd]
    refine .sl id (l0 + m) (n - m) p _ _ hp (by omega) (by omega) ?_ ?_
    ·split
     ·exact hnn
     rw [← hnn]; cases A <;> simp
    intro hne
    rw [if_neg (by omega), hA (by omega), Option.map_map, hisz, hsz, hrs]
    congr 1
    funext ad
    simp only [Function.comp, Z1i]
    rw [Nat.add_mul]
 | rsl q =>
  simp only [rowS] at hr
  injection hr with hr
  subst hr
  cases d1 with
  | rsl _ _ _ uu hcap' hsome' hcell hden =>
   have hlen := R.sub_len q m (n - m) (by omega)
   simp only [partS]
   have := Den.rsl (PL := PL) (w := w) (Av := Avo C PL s.hp) (q.sub m (n - m)) (if cap = m then A else A.map (·.add (m * i.size))) (cap - m) (fun i j => uu (m + i) j) (by rw [hlen]; omega) ?_ ?_ ?_
   ·rw [hlen] at this; exact this
   ·rw [hlen]
    intro hpos
    obtain ⟨ad, e1, e2, e3⟩ := hsome' (by omega)
    rw [if_neg (by omega), e1]
    exact ⟨_, rfl, by rw [Z5m]; exact e2, by rw [Z5m]; exact e3⟩
   ·rw [hlen, R.sub_sz]
    intro i' j ad e1 hi2 hj
    rw [if_neg (by omega)] at e1
    obtain ⟨ad0, e2, _⟩ := hsome' (by omega)
    rw [e2] at e1
    simp only [Option.map_some] at e1
    injection e1 with e1
    subst e1
    have := hcell (m + i') j ad0 e2 (by omega) hj
    rw [Z1i, Z1i]
    rw [Z1i] at this
    rw [hisz, ← Nat.add_assoc, ← Nat.add_mul]
    exact this
   intro i' j hi2 hj
   rw [hlen] at hi2
   have hel := R.sub_elem q m (n - m) i' hi2
   have hj' : j < (q.elem (m + i')).length := by rw [hel] at hj; exact hj
   have : ∀ (l : List SV) (h1 : j < l.length), l = q.elem (m + i') → Den PL w (Avo C PL s.hp) l[j] (uu (m + i') j) := fun l h1 e => by subst e; exact hden (m + i') j (by omega) hj'
   exact this _ hj hel
 | _ => simp [rowS] at hr
theorem Zgc : ∀ (l : List UInt8) (s : ByteArray), ((l.map fun b => (b.toNat : Int)).foldl (fun r n => r.push (UInt8.ofNat n.toNat)) s) = ⟨s.data ++ l.toArray⟩
 | [], s => by simp
 | b :: l, s => by
  simp only [List.map_cons, List.foldl_cons]
  rw [Zgc l]
  apply ByteArray.ext
  simp [ByteArray.push]
theorem Zlp (h : Sat C PL s Fr a w) {t u e : TypeId} {x : Operand} {x' : Opnd} {v : SV} {T : TypeId} {l : List UInt8} (ho : o.op = .convert t u x) (ht : P.underlying t = some (.slice e)) (he : P.underlying e = some (.int .u8)) (hu : P.underlying u = some .string) (hx : cX x = some x') (h1 : s.ev x' = some v)
  (hr : (v = .nsl ∧ l = []) ∨ rowS s.hp v = some (.bs T l)) {ob : List Prop} {rd : List Nat} : o.wp P a w (Eff.post ⟨ob, rd, [], .one (.str l) []⟩ C s o.dst Fr) Q := by
 have d1 := Z4 h hx h1
 refine Z7 h ?_ (.str l)
 have fin : ∀ A n c, a.eval x = .slice A n c → (Conv.bytesToString (.slice A n c)).run P w = .ok (.string ⟨l.toArray⟩) w → (execOp a.eval o).run P w = .ok (.value (.string ⟨l.toArray⟩)) w := fun A n c e1 e2 => by
  simp [execOp, ho, e1, run_convert_bytes_string w t u e A n c ht he hu, e2]
 rcases hr with ⟨rfl, rfl⟩ | hr
 ·generalize hq : a.eval x = q at d1
  cases d1
  exact fin none 0 0 hq (by simp [Conv.bytesToString]; rfl)
 obtain ⟨A, cap, hq, hcap, hsome, hcell⟩ := Z1l h.toHSat hr d1
 simp only [rlen, R.sz, R.elem] at hq hcap hsome hcell
 refine fin A l.length cap hq ?_
 cases A with
 | none =>
  have : l = [] := by
   cases l with
   | nil => rfl
   | cons b l => simp at hsome
  subst this
  simp [Conv.bytesToString]; rfl
 | some ad =>
  have hl := run_loadCells_list (P := P) w ad (l.map fun b => Value.int .u8 b.toNat) (by
   intro j u hu
   rw [List.getElem?_map] at hu
   obtain ⟨b, hb, rfl⟩ := Option.map_eq_some_iff.1 hu
   obtain ⟨hlt, hb'⟩ := List.getElem?_eq_some_iff.1 hb
   obtain ⟨u, e1, e2, _⟩ := hcell ad rfl j 0 hlt (by simp)
   simp only [List.getElem_cons_zero] at e2
   cases e2
   simp only [Nat.mul_one, Zu, lock_eq, getB, List.getD_eq_getElem?_getD, hb, Option.getD_some] at e1
   exact e1)
  rw [List.length_map] at hl
  have hr := run_bytesToString (P := P) w ad l.length cap (l.map fun b => (b.toNat : Int)) (by
   rw [hl, List.map_map]; rfl)
  rw [hr, Zgc]
  simp
end
end Go.Proofs.Ytojbpjcfdjakkaa
end
section
set_option linter.unusedVariables false
set_option linter.unusedSimpArgs false
namespace Go.Proofs.Ytojbpjcfdjakkaa
open Go.RowKit
section
variable {P : Program} {C : Ctx} {PL : Nat → Option Pl} {s : St} {Fr : Nat → Prop} {a : Act} {w : World} {o : Oper} {Q : Exit → Act → World → Prop}
theorem Mv.new {hp : List (Nat × Ck)} (h : HSat C PL hp Fr w) (f : Nat) (hf : Fr f) (hk : ¬ f < C.k) (p : Pl) (obj : Obj) (hpa : p.a = some ⟨w.heap.size, 0, none⟩) (c : Ck) (w' : World)
  (hh : w'.heap = w.heap.push obj) (hos : w'.os = w.os) (ht : w'.tape = w.tape) (hou : w'.output = w.output) (u : List (Nat × Option Ck)) (hu : ∀ id x, ulook u id = some (some x) → id = f) (hcb : ∀ id x, ulook u id = some (some x) → ∀ q b, x.has q b → q.a = some ⟨b, 0, none⟩) :
  Mv C PL hp w u (padd PL f p) (fun i => Fr i ∧ i ≠ f) w' where
 P := Z2p p (h.fr f hf)
 k := fun i hi => Zi _ _ _ _ (fun e => hk (e ▸ hi))
 fr := fun i hi => by rw [Zi _ _ _ _ hi.2]; exact h.fr i hi.1
 os := hos
 tape := ht
 output := hou
 size := by rw [hh]; simp
 old := fun b hb _ => by rw [hh, Array.getElem?_push, if_neg (by omega)]
 blk := fun id c' q b hu' hq ha => by
  have ha := hcb _ _ hu' _ _ ha
  have := hu id c' hu'
  subst this
  rw [Zg] at hq
  injection hq with hq
  subst hq
  rw [hpa] at ha
  injection ha with ha
  injection ha with ha
  exact .inl (by omega)
 dj := fun i j c d p q b hi hj _ _ _ _ => by rw [hu i c hi, hu j d hj]
theorem Zlv (h : Sat C PL s Fr a w) {f : Nat} (hf : Fr f) (hk : ¬ f < C.k) {T : TypeId} {vs : List SV} {cs : Array Value} (hd : Dens PL w (Avo C PL s.hp) vs cs.toList)
  (hr : (execOp a.eval o).run P w = .ok (.value (.pointer (some ⟨w.heap.size, 0, none⟩))) (w.alloc (.cells cs T))) {ob : List Prop} {rd wr : List Nat} :
  o.wp P a w (Eff.post ⟨ob, rd, wr, .one (.ptr f 0) [(f, some (.blk T vs))]⟩ C s o.dst (fun i => Fr i ∧ i ≠ f)) Q := by
 refine Zx hr ?_
 have m := Mv.new h.toHSat f hf hk ⟨some ⟨w.heap.size, 0, none⟩, 0, 0, 0, []⟩ (.cells cs T) rfl (.blk T vs) (w.alloc (.cells cs T)) rfl rfl rfl rfl [(f, some (.blk T vs))] (fun id x e => (Zs e).1) (fun id x e => by have := (Zs e).2; injection this with this; subst this; exact fun _ _ h => h)
 have t := h.toHSat.tr m
 have H := h.toHSat.mv m (fun id c hu => by
  obtain ⟨rfl, hc⟩ := Zs hu
  injection hc with hc
  subst hc
  refine ⟨_, w.heap.size, cs, Zg _ _ _, rfl, heap_alloc_new w _, by have := hd.1; simpa using this, fun j h1 h2 => ?_⟩
  have := hd.2 j h1 (by simpa using h2)
  exact ⟨(by simpa using this.1 : Den PL w (Avo C PL s.hp) vs[j] cs[j]).tr t, by simpa using this.2⟩)
 exact ⟨_, h.mv H t o.dst _ _ fun v hv => by injection hv with hv; subst hv; exact .ptr f 0 w.heap.size _ (Zg _ _ _) rfl⟩
theorem Zvb (h : Sat C PL s Fr a w) {f : Nat} (hf : Fr f) (hk : ¬ f < C.k) {T : TypeId} {x : Operand} {x' : Opnd} {v : SV} (ho : o.op = .box T x) (hx : cX x = some x') (h1 : s.ev x' = some v) (hn : ones v.flat = true) {ob : List Prop} {rd wr : List Nat} :
  o.wp P a w (Eff.post ⟨ob, rd, wr, .one (.ptr f 0) [(f, some (.blk T v.flat))]⟩ C s o.dst (fun i => Fr i ∧ i ≠ f)) Q := by
 have d1 := Z4 h hx h1
 refine Zlv h hf hk (Z4w d1 hn) ?_
 simp [execOp, ho, Instr.box, newVar, newRow]
theorem Zv8 (h : Sat C PL s Fr a w) {f : Nat} (hf : Fr f) (hk : ¬ f < C.k) {T : TypeId} {zs : List SV} (ho : o.op = .alloc T) (hz : zeroOf P T = some zs) {ob : List Prop} {rd wr : List Nat} :
  o.wp P a w (Eff.post ⟨ob, rd, wr, .one (.ptr f 0) [(f, some (.blk T zs))]⟩ C s o.dst (fun i => Fr i ∧ i ≠ f)) Q := by
 obtain ⟨i, z, hi, hzz, hzc⟩ := Z6i hz
 refine Zlv h hf hk (cs := z.cells) (Z4s hzc) ?_
 simp [execOp, ho, Instr.alloc, Z6e hi hzz, newVar, newRow]
theorem Z7v (w : World) (g : Nat) (cs : Array Value) : (w.setRow g cs).heap.size = w.heap.size := by simp [World.setRow]
theorem Z55 (w : World) (g k : Nat) (cs : Array Value) (h : k ≠ g) : (w.setRow g cs).heap[k]? = w.heap[k]? := by
 simp only [World.setRow, Array.getElem?_modify]
 rw [if_neg (by omega)]
theorem Z2s (w : World) (g : Nat) (cur cs : Array Value) (T : TypeId) (fr : Nat × Nat) (h : w.heap[g]? = some (.cells cur T fr)) : (w.setRow g cs).heap[g]? = some (.cells cs T fr) := by
 simp only [World.setRow, Array.getElem?_modify, h]
 simp
theorem Z6g (h : Sat C PL s Fr a w) {id : Nat} {c0 c : Ck} (hc0 : hget s.hp id = some c0) (hcc : ∀ q b, c.has q b → c0.has q b) (hca : ∀ q b, q.a = some ⟨b, 0, none⟩ → c0.has q b) {p : Pl} {b : Nat} (hp : PL id = some p) (ha : p.a = some ⟨b, 0, none⟩) {cur cs : Array Value} {T : TypeId} (hcur : w.heap[b]? = some (.cells cur T (0, 0)))
  (hok : Tr C PL s.hp w PL (hupd [(id, some c)] s.hp) (w.setRow b cs) → CkOk PL (w.setRow b cs) (Avo C PL (hupd [(id, some c)] s.hp)) id c) {nx : Next} {y : Value} {v : SV}
  (hnx : (nx = .skip ∧ y = undef) ∨ nx = .value y) (hr : (execOp a.eval o).run P w = .ok nx (w.setRow b cs)) (hv : o.dst ≠ none → Den PL (w.setRow b cs) (Avo C PL (hupd [(id, some c)] s.hp)) v y) {ob : List Prop} {rd wr : List Nat} :
  o.wp P a w (Eff.post ⟨ob, rd, wr, .one v [(id, some c)]⟩ C s o.dst Fr) Q := by
 have m := Mv.write h.toHSat id c0 c hc0 hcc (w.setRow b cs) rfl rfl rfl (Z7v _ _ _) (fun k hk => Z55 _ _ _ _ (fun e => hk p hp (hca _ _ (by rw [ha, e]))))
 have t := h.toHSat.tr m
 have H := h.toHSat.mv m (fun i c' hu => by
  obtain ⟨rfl, hc⟩ := Zs hu
  injection hc with hc
  subst hc
  exact hok t)
 have fin : Eff.post ⟨ob, rd, wr, .one v [(id, some c)]⟩ C s o.dst Fr (a.put o.dst y) (w.setRow b cs) := by
  cases hdst : o.dst with
  | none => exact ⟨PL, h.mv H t none none y (fun u hu => by cases hu)⟩
  | some d => exact ⟨PL, h.mv H t (some d) _ _ fun u hu => by injection hu with hu; subst hu; exact hv (by simp [hdst])⟩
 rcases hnx with ⟨rfl, rfl⟩ | rfl
 ·exact Zfn hr fin
 exact Zx hr fin
theorem Zfh {hp hp' : List (Nat × Ck)} {PL' : Nat → Option Pl} {w' : World} {l : List SV} {cs : List Value} (h : Dens PL w (Avo C PL hp) l cs) (t : Tr C PL hp w PL' hp' w') : Dens PL' w' (Avo C PL' hp') l cs :=
 h.mono fun _ _ d => d.tr t
theorem Zga {id : Nat} {T : TypeId} {vs : List SV} {hp : List (Nat × Ck)} (h : CkOk PL w (Avo C PL hp) id (.blk T vs)) : ∃ p b cs, PL id = some p ∧ p.a = some ⟨b, 0, none⟩ ∧ w.heap[b]? = some (.cells cs T (0, 0)) ∧ Dens PL w (Avo C PL hp) vs cs.toList := by
 obtain ⟨p, b, cs, hp', ha, hh, hl, hd⟩ := h
 refine ⟨p, b, cs, hp', ha, hh, by simpa using hl, fun j h1 h2 => ?_⟩
 have := hd j h1 (by simpa using h2)
 simpa using this
theorem Zr6 {id : Nat} {T : TypeId} {vs : List SV} {Av : Nat → Prop} {p : Pl} {b : Nat} {cs : Array Value} (hp : PL id = some p) (ha : p.a = some ⟨b, 0, none⟩) (hh : w.heap[b]? = some (.cells cs T (0, 0))) (hd : Dens PL w Av vs cs.toList) : CkOk PL w Av id (.blk T vs) :=
 ⟨p, b, cs, hp, ha, hh, by have := hd.1; simpa using this, fun j h1 h2 => by have := hd.2 j h1 (by simpa using h2); simpa using this⟩
theorem Zde {T : TypeId} {i : TypeInfo} (hi : P.info? T = some i) (x y : Operand) (ho : o.op = .store T x y) (b off : Nat) (hx : a.eval x = .pointer (some ⟨b, off, none⟩)) (cur : Array Value) (U : TypeId) (hh : w.heap[b]? = some (.cells cur U (0, 0)))
  (hsz : (a.eval y).cells.size = i.size) (hfit : off + i.size ≤ cur.size) (h1 : ∀ v ∈ (a.eval y).cells.toList, v.oneCell' = true) :
  (execOp a.eval o).run P w = .ok .skip (w.setRow b (cur.toList.take off ++ (a.eval y).cells.toList ++ cur.toList.drop (off + i.size)).toArray) := by
 have hst := run_storeCells_at P b off U (a.eval y).cells.toList 0 cur w hh (by simp; omega) h1
 simp only [Nat.add_zero, Array.length_toList, hsz] at hst
 simp [execOp, ho, hx, Instr.storeAt, Instr.sureAddr, storeVar, Zn hi, hsz, hst]
theorem Zwg (h : Sat C PL s Fr a w) {T : TypeId} {x y : Operand} {x' y' : Opnd} {id off : Nat} {v : SV} {U : TypeId} {vs : List SV} (ho : o.op = .store T x y) (hdst : o.dst = none) (hi : (P.info? T).isSome = true) (hx : cX x = some x') (hy : cX y = some y')
  (h1 : s.ev x' = some (.ptr id off)) (h2 : s.ev y' = some v) (hb : blkOf s.hp id = some (U, vs)) (hn : v.flat.length = P.cellsOf T) (hone : ones v.flat = true) (hfit : off + P.cellsOf T ≤ vs.length) {ob : List Prop} {rd wr : List Nat} {sv : SV} :
  o.wp P a w (Eff.post ⟨ob, rd, wr, .one sv [(id, some (.blk U (vs.take off ++ v.flat ++ vs.drop (off + P.cellsOf T))))]⟩ C s o.dst Fr) Q := by
 have d1 := Z4 h hx h1
 have d2 := Z4 h hy h2
 obtain ⟨i, hi⟩ := Option.isSome_iff_exists.1 hi
 have hisz : P.cellsOf T = i.size := by simp [Program.cellsOf, hi]
 have hg := Z8j hb
 obtain ⟨p, b, cs, hp, ha, hh, hd⟩ := Zga (h.ck id _ hg)
 generalize hq : a.eval x = q at d1
 cases d1 with
 | ptr _ _ b' p' hp' ha' =>
  rw [hp] at hp'; injection hp' with hp'; subst hp'
  rw [ha] at ha'; injection ha' with ha'; injection ha' with ha'; subst ha'
  have hf := Z4w d2 hone
  have hcs : cs.size = vs.length := by have := hd.1; simpa using this
  have hfl : (a.eval y).cells.size = i.size := by have := hf.1; simp at this; omega
  have run := Zde (P := P) hi x y ho b off hq cs U hh hfl (by omega) (fun u hu => by
   obtain ⟨j, hj, rfl⟩ := List.mem_iff_getElem.1 hu
   exact (hf.2 j (by have := hf.1; omega) hj).2)
  refine Z6g h hg Zro (fun _ _ h => h) hp ha hh (fun t => ?_) (.inl ⟨rfl, rfl⟩) run (fun hne => absurd hdst hne)
  refine Zr6 hp ha (Z2s _ _ _ _ _ _ hh) ?_
  rw [hisz] at t ⊢
  simp only [List.toList_toArray]
  exact (((Zfh hd t).take off).app (Zfh hf t)).app ((Zfh hd t).drop (off + i.size))
mutual
theorem Zv : ∀ (a b : Ty), a.eq b = true → a = b
 | .int k, b, h => by cases b <;> simp [Ty.eq] at h ⊢; exact h
 | .bool, b, h => by cases b <;> simp [Ty.eq] at h ⊢
 | .str, b, h => by cases b <;> simp [Ty.eq] at h ⊢
 | .bytes T, b, h => by cases b <;> simp [Ty.eq] at h ⊢; exact h
 | .ints T k, b, h => by cases b <;> simp [Ty.eq] at h ⊢; exact h
 | .row T e, b, h => by
  cases b <;> simp [Ty.eq] at h ⊢
  exact ⟨h.1, Zv _ _ h.2⟩
 | .st l, b, h => by
  cases b <;> simp [Ty.eq] at h ⊢
  exact Zgy _ _ h
 | .self T, b, h => by cases b <;> simp [Ty.eq] at h ⊢; exact h
 | .u8s n, b, h => by cases b <;> simp [Ty.eq] at h ⊢; exact h
theorem Zgy : ∀ (a b : List Ty), Ty.eqL a b = true → a = b
 | [], b, h => by cases b <;> simp [Ty.eqL] at h ⊢
 | x :: xs, b, h => by
  cases b with
  | nil => simp [Ty.eqL] at h
  | cons y ys =>
   simp [Ty.eqL] at h
   rw [Zv _ _ h.1, Zgy _ _ h.2]
end
theorem Z1j {Av : Nat → Prop} {r : R} (h0 : rlen r = 0) {x : Value} (h : Den PL w Av .nsl x) : Den PL w Av (.rsl r) x := by
 cases h
 have := Den.rsl (PL := PL) (w := w) (Av := Av) r none 0 (fun _ _ => undef) (by omega) (fun h => by omega) (fun i j ad e => by cases e) (fun i j hi => by omega)
 rw [h0] at this
 exact this
theorem Zje : ∀ (n : Nat) (L : List SV) (ds : List D) (rest : List SV), mkB n L = some (ds, rest) → ∃ xs : List Int, L = (xs.map fun x => SV.v (.int .u8 x)) ++ rest ∧ xs.length = n ∧ ds = xs.map .i
 | 0, L, ds, rest, h => by
  simp only [mkB] at h
  injection h with h; injection h with h1 h2; subst h1; subst h2
  exact ⟨[], rfl, rfl, rfl⟩
 | n + 1, [], ds, rest, h => by simp [mkB] at h
 | n + 1, x :: l, ds, rest, h => by
  cases x with
  | v u => cases u with
   | int k y =>
    cases k with
    | u8 =>
     simp only [mkB] at h
     cases hm : mkB n l with
     | none => rw [hm] at h; cases h
     | some q =>
      obtain ⟨ds', r⟩ := q
      rw [hm] at h
      injection h with h; injection h with h1 h2; subst h1; subst h2
      obtain ⟨xs, e, hl, hd⟩ := Zje n _ _ _ hm
      exact ⟨y :: xs, by rw [e]; rfl, by simp [hl], by rw [hd]; rfl⟩
    | _ => simp [mkB] at h
   | _ => simp [mkB] at h
  | _ => simp [mkB] at h
mutual
theorem Z66 {Av : Nat → Prop} : ∀ (t : Ty) (L : List SV) (d : D) (rest : List SV), t.mk L = some (d, rest) → ∃ L1, L = L1 ++ rest ∧ L1.length = t.size ∧ ∀ cs, Dens PL w Av L1 cs → Dens PL w Av (t.leaves d) cs
 | .int k, [], d, rest, h => by simp [Ty.mk] at h
 | .int k, x :: t, d, rest, h => by
  cases x with
  | v u => cases u with
   | int j n =>
    simp only [Ty.mk] at h
    split at h
    ·rename_i hk
     injection h with h; injection h with h1 h2; subst h1; subst h2
     have := LawfulBEq.eq_of_beq hk
     subst this
     exact ⟨[.v (.int k n)], rfl, rfl, fun cs hc => by simpa [Ty.leaves, lock_eq, D.toI] using hc⟩
    cases h
   | _ => simp [Ty.mk] at h
  | _ => simp [Ty.mk] at h
 | .bool, [], d, rest, h => by simp [Ty.mk] at h
 | .bool, x :: t, d, rest, h => by
  cases x with
  | v u => cases u with
   | bool n =>
    simp only [Ty.mk] at h
    injection h with h; injection h with h1 h2; subst h1; subst h2
    exact ⟨[.v (.bool n)], rfl, rfl, fun cs hc => by simpa [Ty.leaves, lock_eq, D.toB] using hc⟩
   | _ => simp [Ty.mk] at h
  | _ => simp [Ty.mk] at h
 | .str, [], d, rest, h => by simp [Ty.mk] at h
 | .str, x :: t, d, rest, h => by
  cases x with
  | str u =>
   simp only [Ty.mk] at h
   injection h with h; injection h with h1 h2; subst h1; subst h2
   exact ⟨[.str u], rfl, rfl, fun cs hc => by simpa [Ty.leaves, lock_eq, D.toS] using hc⟩
  | _ => simp [Ty.mk] at h
 | .bytes T, [], d, rest, h => by simp [Ty.mk] at h
 | .bytes T, x :: t, d, rest, h => by
  cases x with
  | nsl =>
   simp only [Ty.mk] at h
   injection h with h; injection h with h1 h2; subst h1; subst h2
   refine ⟨[.nsl], rfl, rfl, fun cs hc => ?_⟩
   obtain ⟨c, rfl⟩ : ∃ c, cs = [c] := List.length_eq_one_iff.1 hc.1
   have h0 := hc.2 0 (by simp) (by simp)
   simp only [Ty.leaves, lock_eq, D.toS]
   exact Dens.cons (Z1j rfl h0.1) h0.2 .nil
  | rsl r => cases r with
   | bs U l =>
    simp only [Ty.mk] at h
    split at h
    ·rename_i hk
     injection h with h; injection h with h1 h2; subst h1; subst h2
     have := LawfulBEq.eq_of_beq hk
     subst this
     exact ⟨[.rsl (.bs T l)], rfl, rfl, fun cs hc => by simpa [Ty.leaves, lock_eq, D.toS] using hc⟩
    cases h
   | _ => simp [Ty.mk] at h
  | _ => simp [Ty.mk] at h
 | .ints T k, [], d, rest, h => by simp [Ty.mk] at h
 | .ints T k, x :: t, d, rest, h => by
  cases x with
  | nsl =>
   simp only [Ty.mk] at h
   injection h with h; injection h with h1 h2; subst h1; subst h2
   refine ⟨[.nsl], rfl, rfl, fun cs hc => ?_⟩
   obtain ⟨c, rfl⟩ : ∃ c, cs = [c] := List.length_eq_one_iff.1 hc.1
   have h0 := hc.2 0 (by simp) (by simp)
   simp only [Ty.leaves, lock_eq, D.toIs]
   exact Dens.cons (Z1j rfl h0.1) h0.2 .nil
  | rsl r => cases r with
   | ints U j l =>
    simp only [Ty.mk] at h
    split at h
    ·rename_i hk
     injection h with h; injection h with h1 h2; subst h1; subst h2
     rw [Bool.and_eq_true] at hk
     have e1 := LawfulBEq.eq_of_beq hk.1
     have e2 := LawfulBEq.eq_of_beq hk.2
     subst e1; subst e2
     exact ⟨[.rsl (.ints T k l)], rfl, rfl, fun cs hc => by simpa [Ty.leaves, lock_eq, D.toIs] using hc⟩
    cases h
   | _ => simp [Ty.mk] at h
  | _ => simp [Ty.mk] at h
 | .row T e, [], d, rest, h => by simp [Ty.mk] at h
 | .row T e, x :: t, d, rest, h => by
  cases x with
  | nsl =>
   simp only [Ty.mk] at h
   injection h with h; injection h with h1 h2; subst h1; subst h2
   refine ⟨[.nsl], rfl, rfl, fun cs hc => ?_⟩
   obtain ⟨c, rfl⟩ : ∃ c, cs = [c] := List.length_eq_one_iff.1 hc.1
   have h0 := hc.2 0 (by simp) (by simp)
   simp only [Ty.leaves, lock_eq, D.toL]
   exact Dens.cons (Z1j rfl h0.1) h0.2 .nil
  | rsl r => cases r with
   | row U f l =>
    simp only [Ty.mk] at h
    split at h
    ·rename_i hk
     injection h with h; injection h with h1 h2; subst h1; subst h2
     rw [Bool.and_eq_true] at hk
     have e1 := LawfulBEq.eq_of_beq hk.1
     have e2 := Zv _ _ hk.2
     subst e1; subst e2
     exact ⟨[.rsl (.row T e l)], rfl, rfl, fun cs hc => by simpa [Ty.leaves, lock_eq, D.toL] using hc⟩
    cases h
   | _ => simp [Ty.mk] at h
  | _ => simp [Ty.mk] at h
 | .st fs, L, d, rest, h => by
  unfold Ty.mk at h
  cases hm : Ty.mkL fs L with
  | none => rw [hm] at h; cases h
  | some q =>
   obtain ⟨ds, t⟩ := q
   rw [hm] at h
   simp only [] at h
   injection h with h; injection h with h1 h2; subst h1; subst h2
   obtain ⟨L1, e, hl, hd⟩ := Zjf fs L ds t hm
   refine ⟨L1, e, hl, fun cs hc => ?_⟩
   simp only [Ty.leaves]
   exact hd cs hc [] ds rfl (by simp)
 | .self T, [], d, rest, h => by simp [Ty.mk] at h
 | .self T, x :: t, d, rest, h => by
  cases x with
  | nsl =>
   simp only [Ty.mk] at h
   injection h with h; injection h with h1 h2; subst h1; subst h2
   refine ⟨[.nsl], rfl, rfl, fun cs hc => ?_⟩
   obtain ⟨c, rfl⟩ : ∃ c, cs = [c] := List.length_eq_one_iff.1 hc.1
   have h0 := hc.2 0 (by simp) (by simp)
   simp only [Ty.leaves, lock_eq, D.toL]
   exact Dens.cons (Z1j rfl h0.1) h0.2 .nil
  | rsl r => cases r with
   | row U f l =>
    simp only [Ty.mk] at h
    split at h
    ·rename_i hk
     injection h with h; injection h with h1 h2; subst h1; subst h2
     rw [Bool.and_eq_true] at hk
     have e1 := LawfulBEq.eq_of_beq hk.1
     have e2 := Zv _ _ hk.2
     subst e1; subst e2
     exact ⟨[.rsl (.row T (tyEnv T) l)], rfl, rfl, fun cs hc => by simpa [Ty.leaves, lock_eq, D.toL] using hc⟩
    cases h
   | _ => simp [Ty.mk] at h
  | _ => simp [Ty.mk] at h
 | .u8s n, L, d, rest, h => by
  unfold Ty.mk at h
  cases hm : mkB n L with
  | none => rw [hm] at h; cases h
  | some q =>
   obtain ⟨ds, t⟩ := q
   rw [hm] at h
   simp only [] at h
   injection h with h; injection h with h1 h2; subst h1; subst h2
   obtain ⟨xs, e, hl, hd⟩ := Zje n L ds t hm
   refine ⟨_, e, by simp [Ty.size, hl], fun cs hc => ?_⟩
   have : (Ty.u8s n).leaves (.l ds) = xs.map fun x => SV.v (.int .u8 x) := by
    simp only [Ty.leaves, Z46, lock_eq, Nat.zero_add]
    apply List.ext_getElem
    ·simp [hl]
    intro j h1 h2
    have hj : j < xs.length := by simpa using h2
    simp only [List.getElem_map, List.getElem_range, D.fld, D.toL, hd]
    rw [List.getD_eq_getElem?_getD, List.getElem?_eq_getElem (by simpa using hj)]
    simp [D.toI]
   rw [this]
   exact hc
theorem Zjf {Av : Nat → Prop} : ∀ (fs : List Ty) (L : List SV) (ds : List D) (rest : List SV), Ty.mkL fs L = some (ds, rest) → ∃ L1, L = L1 ++ rest ∧ L1.length = Ty.sizes fs ∧
  ∀ cs, Dens PL w Av L1 cs → ∀ (pre all : List D), all = pre ++ ds → all.length = pre.length + ds.length → Dens PL w Av (Ty.leavesL fs (.l all) pre.length) cs
 | [], L, ds, rest, h => by
  simp only [Ty.mkL] at h
  injection h with h; injection h with h1 h2; subst h1; subst h2
  exact ⟨[], rfl, rfl, fun cs hc pre all _ _ => by simpa [Ty.leavesL] using hc⟩
 | t :: ts, L, ds, rest, h => by
  unfold Ty.mkL at h
  cases h1 : t.mk L with
  | none => rw [h1] at h; cases h
  | some q =>
   obtain ⟨d, L'⟩ := q
   rw [h1] at h
   simp only [] at h
   cases h2 : Ty.mkL ts L' with
   | none => rw [h2] at h; cases h
   | some q2 =>
    obtain ⟨ds', L''⟩ := q2
    rw [h2] at h
    simp only [] at h
    injection h with h; injection h with e1 e2; subst e1; subst e2
    obtain ⟨A1, f1, g1, k1⟩ := Z66 t L d L' h1
    obtain ⟨A2, f2, g2, k2⟩ := Zjf ts L' ds' L'' h2
    refine ⟨A1 ++ A2, by rw [f1, f2, List.append_assoc], by simp [g1, g2, Ty.sizes], ?_⟩
    intro cs hc pre all he hlen
    have c1 : Dens PL w Av A1 (cs.take A1.length) := by have := hc.take A1.length; simpa using this
    have c2 : Dens PL w Av A2 (cs.drop A1.length) := by have := hc.drop A1.length; simpa using this
    have r1 := k1 _ c1
    have r2 := k2 _ c2 (pre ++ [d]) all (by rw [he]; simp) (by rw [he]; simp; omega)
    simp only [Ty.leavesL]
    have hf : lock D.fld (.l all) pre.length = d := by
     rw [lock_eq, he]
     simp [D.fld, D.toL, List.getD_eq_getElem?_getD]
    rw [hf]
    have := r1.app r2
    rw [List.take_append_drop] at this
    simpa using this
end
theorem Zym {Av : Nat → Prop} : ∀ t : Ty, Dens PL w Av (t.leaves t.zero) t.zvals := by
 have nilOf : ∀ r : R, rlen r = 0 → Dens PL w Av [.rsl r] [.slice none 0 0] := fun r h0 => Dens.cons (Z1j h0 .nsl) rfl .nil
 intro t
 apply Ty.rec (motive_1 := fun t => Dens PL w Av (t.leaves t.zero) t.zvals) (motive_2 := fun ts => ∀ pre all : List D, all = pre ++ Ty.zeros ts → Dens PL w Av (Ty.leavesL ts (.l all) pre.length) (Ty.zvalsL ts))
 ·intro k; simp only [Ty.leaves, Ty.zero, lock_eq, D.toI, Ty.zvals]; exact Dens.cons (.v _) rfl .nil
 ·simp only [Ty.leaves, Ty.zero, lock_eq, D.toB, Ty.zvals]; exact Dens.cons (.v _) rfl .nil
 ·simp only [Ty.leaves, Ty.zero, lock_eq, D.toS, Ty.zvals]; exact Dens.cons (.str []) rfl .nil
 ·intro T; simp only [Ty.leaves, Ty.zero, lock_eq, D.toS, Ty.zvals]; exact nilOf _ rfl
 ·intro T k; simp only [Ty.leaves, Ty.zero, lock_eq, D.toIs, Ty.zvals]; exact nilOf _ rfl
 ·intro T e _; simp only [Ty.leaves, Ty.zero, lock_eq, D.toL, Ty.zvals]; exact nilOf _ rfl
 ·intro fs ih; simp only [Ty.leaves, Ty.zero, Ty.zvals]; exact ih [] _ rfl
 ·intro T; simp only [Ty.leaves, Ty.zero, lock_eq, D.toL, Ty.zvals]; exact nilOf _ rfl
 ·intro n
  have : (Ty.u8s n).leaves (Ty.u8s n).zero = List.replicate n (SV.v (.int .u8 0)) := by
   simp only [Ty.leaves, Ty.zero, Z46, lock_eq, Nat.zero_add]
   apply List.ext_getElem
   ·simp
   intro j h1 h2
   have hj : j < n := by simpa using h2
   simp only [List.getElem_map, List.getElem_range, D.fld, D.toL, List.getElem_replicate]
   rw [List.getD_eq_getElem?_getD, List.getElem?_eq_getElem (by simpa using hj)]
   simp [D.toI]
  rw [this]
  simp only [Ty.zvals]
  refine ⟨by simp, fun j h1 h2 => ?_⟩
  simp only [List.getElem_replicate]
  exact ⟨.v _, rfl⟩
 ·intro pre all _; exact .nil
 intro t ts ih1 ih2 pre all he
 simp only [Ty.leavesL, Ty.zvalsL]
 have hf : lock D.fld (.l all) pre.length = t.zero := by
  rw [lock_eq, he]
  simp [D.fld, D.toL, List.getD_eq_getElem?_getD, Ty.zeros]
 rw [hf]
 have := ih2 (pre ++ [t.zero]) all (by rw [he]; simp [Ty.zeros])
 exact ih1.app (by simpa using this)
end
end Go.Proofs.Ytojbpjcfdjakkaa
end
section
set_option linter.unusedVariables false
set_option linter.unusedSimpArgs false
namespace Go.Proofs.Ytojbpjcfdjakkaa
open Go.RowKit
def RP (PL : Nat → Option Pl) (w : World) (Av : Nat → Prop) (r : R) (cs : List Value) : Prop :=
 ∀ (i j : Nat) (hi : i < rlen r) (hj : j < (r.elem i).length), ∃ u, cs[i * r.sz + j]? = some u ∧ Den PL w Av (r.elem i)[j] u ∧ u.oneCell' = true
section
variable {PL PL' : Nat → Option Pl} {w w' : World} {Av Av' : Nat → Prop}
theorem RP.mono {r : R} {cs : List Value} (h : RP PL w Av r cs) (hm : ∀ v x, Den PL w Av v x → Den PL' w' Av' v x) : RP PL' w' Av' r cs := fun i j hi hj => by
 obtain ⟨u, e1, e2, e3⟩ := h i j hi hj
 exact ⟨u, e1, hm _ _ e2, e3⟩
theorem Z1t {l m : List SV} (e : l = m) {j : Nat} (h1 : j < l.length) (h2 : j < m.length) {u : Value} (h : Den PL w Av m[j] u) : Den PL w Av l[j] u := by subst e; exact h
theorem Z4z {i n sz j : Nat} (hi : i < n) (hj : j < sz) : i * sz + j < n * sz := by
 have : (i + 1) * sz ≤ n * sz := Nat.mul_le_mul_right _ hi
 rw [Nat.add_mul] at this
 omega
theorem RP.congr {r r' : R} {cs : List Value} (h : RP PL w Av r cs) (hl : rlen r' ≤ rlen r) (hz : r'.sz = r.sz) (he : ∀ i, i < rlen r' → r'.elem i = r.elem i) : RP PL w Av r' cs := fun i j hi hj => by
 have e := he i hi
 have hj' : j < (r.elem i).length := by rw [← e]; exact hj
 obtain ⟨u, e1, e2, e3⟩ := h i j (by omega) hj'
 exact ⟨u, by rw [hz]; exact e1, Z1t e hj hj' e2, e3⟩
theorem RP.append {r : R} {cs : List Value} (h : RP PL w Av r cs) (ds : List Value) : RP PL w Av r (cs ++ ds) := fun i j hi hj => by
 obtain ⟨u, e1, e2, e3⟩ := h i j hi hj
 exact ⟨u, by rw [List.getElem?_append_left (List.getElem?_eq_some_iff.1 e1).1]; exact e1, e2, e3⟩
theorem RP.take {r : R} {cs : List Value} (h : RP PL w Av r cs) : RP PL w Av r (cs.take (rlen r * r.sz)) := fun i j hi hj => by
 obtain ⟨u, e1, e2, e3⟩ := h i j hi hj
 refine ⟨u, ?_, e2, e3⟩
 rw [List.getElem?_take, if_pos (Z4z hi (by rw [R.elem_len] at hj; exact hj))]
 exact e1
theorem RP.splice {p q r : R} {cs ds : List Value} (h : RP PL w Av p cs) (k : RP PL w Av q ds) (lo : Nat) (hz : q.sz = p.sz) (hrz : r.sz = p.sz) (hrl : rlen r = rlen p) (hfit : lo + rlen q ≤ rlen p) (hcs : rlen p * p.sz ≤ cs.length) (hds : ds.length = rlen q * p.sz)
  (hin : ∀ i, i < rlen q → r.elem (lo + i) = q.elem i) (hout : ∀ i, i < lo ∨ lo + rlen q ≤ i → i < rlen p → r.elem i = p.elem i) :
  RP PL w Av r (cs.take (lo * p.sz) ++ ds ++ cs.drop (lo * p.sz + ds.length)) := by
 have hlo : (cs.take (lo * p.sz)).length = lo * p.sz := by
  have : lo * p.sz ≤ rlen p * p.sz := Nat.mul_le_mul_right _ (by omega)
  simp; omega
 intro i j hi hj
 have hj' : j < p.sz := by rw [R.elem_len, hrz] at hj; exact hj
 rw [hrz]
 by_cases h1 : i < lo
 ·have e := hout i (.inl h1) (by omega)
  have hj2 : j < (p.elem i).length := by rw [← e]; exact hj
  obtain ⟨u, e1, e2, e3⟩ := h i j (by omega) hj2
  refine ⟨u, ?_, Z1t e hj hj2 e2, e3⟩
  have hlt := Z4z h1 hj'
  rw [List.append_assoc, List.getElem?_append_left (by omega), List.getElem?_take, if_pos hlt]
  exact e1
 by_cases h2 : i < lo + rlen q
 ·obtain ⟨i', rfl⟩ : ∃ i', i = lo + i' := ⟨i - lo, by omega⟩
  have e := hin i' (by omega)
  have hj2 : j < (q.elem i').length := by rw [← e]; exact hj
  obtain ⟨u, e1, e2, e3⟩ := k i' j (by omega) hj2
  refine ⟨u, ?_, Z1t e hj hj2 e2, e3⟩
  have hlt : i' * p.sz + j < ds.length := by rw [hds]; exact Z4z (by omega) hj'
  rw [List.getElem?_append_left (by simp only [List.length_append, hlo, Nat.add_mul]; omega), List.getElem?_append_right (by rw [hlo, Nat.add_mul]; omega), hlo]
  have : (lo + i') * p.sz + j - lo * p.sz = i' * q.sz + j := by rw [hz, Nat.add_mul]; omega
  rw [this]
  exact e1
 have e := hout i (.inr (by omega)) (by omega)
 have hj2 : j < (p.elem i).length := by rw [← e]; exact hj
 obtain ⟨u, e1, e2, e3⟩ := h i j (by omega) hj2
 refine ⟨u, ?_, Z1t e hj hj2 e2, e3⟩
 have hge : (lo + rlen q) * p.sz ≤ i * p.sz := Nat.mul_le_mul_right _ (by omega)
 rw [Nat.add_mul] at hge
 rw [List.getElem?_append_right (by simp only [List.length_append, hlo]; omega), List.getElem?_drop]
 have : lo * p.sz + ds.length + (i * p.sz + j - (cs.take (lo * p.sz) ++ ds).length) = i * p.sz + j := by simp only [List.length_append, hlo]; omega
 rw [this]
 exact e1
theorem RP.put {r r' : R} {cs xs : List Value} {vs : List SV} (h : RP PL w Av r cs) (i off : Nat) (hi : i < rlen r) (hz : r'.sz = r.sz) (hl : rlen r' = rlen r) (hfit : off + xs.length ≤ r.sz) (hcs : rlen r * r.sz ≤ cs.length)
  (hout : ∀ k, k ≠ i → r'.elem k = r.elem k) (hin : ∀ ds, Dens PL w Av (lspl (r.elem i) off vs) ds → Dens PL w Av (r'.elem i) ds) (hvs : Dens PL w Av vs xs) :
  RP PL w Av r' (cs.take (i * r.sz + off) ++ xs ++ cs.drop (i * r.sz + off + xs.length)) := by
 have hfull : i * r.sz + off + xs.length ≤ cs.length := by
  have : (i + 1) * r.sz ≤ rlen r * r.sz := Nat.mul_le_mul_right _ hi
  rw [Nat.add_mul] at this
  omega
 have hpre : (cs.take (i * r.sz + off)).length = i * r.sz + off := by simp; omega
 have hold : Dens PL w Av (r.elem i) ((cs.drop (i * r.sz)).take r.sz) := by
  have hrow : (i + 1) * r.sz ≤ rlen r * r.sz := Nat.mul_le_mul_right _ hi
  rw [Nat.add_mul] at hrow
  refine ⟨by rw [R.elem_len]; simp; omega, fun j h1 h2 => ?_⟩
  obtain ⟨u, e1, e2, e3⟩ := h i j hi h1
  have : ((cs.drop (i * r.sz)).take r.sz)[j] = u := by
   rw [List.getElem_take, List.getElem_drop]
   exact (List.getElem?_eq_some_iff.1 e1).2
  rw [this]
  exact ⟨e2, e3⟩
 have hvl : xs.length = vs.length := hvs.1
 have hnew := hin _ (((hold.take off).app hvs).app (hold.drop (off + vs.length)))
 intro k j hk hj
 have hj' : j < r.sz := by rw [R.elem_len, hz] at hj; exact hj
 rw [hz]
 by_cases hki : k = i
 ·subst hki
  have hlen := hnew.1
  have hjl : j < (((cs.drop (k * r.sz)).take r.sz).take off ++ xs ++ ((cs.drop (k * r.sz)).take r.sz).drop (off + vs.length)).length := by rw [hlen]; exact hj
  have := hnew.2 j hj hjl
  refine ⟨_, ?_, this.1, this.2⟩
  rw [← List.getElem?_eq_getElem hjl]
  by_cases c1 : j < off
  ·rw [List.append_assoc, List.append_assoc, List.getElem?_append_left (by omega), List.getElem?_append_left (by simp; omega)]
   simp only [List.getElem?_take, List.getElem?_drop]
   rw [if_pos (by omega), if_pos c1, if_pos hj']
  by_cases c2 : j < off + xs.length
  ·rw [List.getElem?_append_left (by simp only [List.length_append, hpre]; omega), List.getElem?_append_right (by omega), hpre,
    List.getElem?_append_left (by simp only [List.length_append, List.length_take, List.length_drop]; omega), List.getElem?_append_right (by simp only [List.length_take, List.length_drop]; omega)]
   congr 1
   simp only [List.length_take, List.length_drop]
   omega
  rw [List.getElem?_append_right (by simp only [List.length_append, hpre]; omega), List.getElem?_append_right (by simp only [List.length_append, List.length_take, List.length_drop]; omega)]
  simp only [List.getElem?_drop, List.getElem?_take]
  rw [if_pos (by simp only [List.length_append, List.length_take, List.length_drop]; omega)]
  congr 1
  simp only [List.length_append, List.length_take, List.length_drop]
  omega
 have e := hout k hki
 have hj2 : j < (r.elem k).length := by rw [← e]; exact hj
 obtain ⟨u, e1, e2, e3⟩ := h k j (by omega) hj2
 refine ⟨u, ?_, Z1t e hj hj2 e2, e3⟩
 rcases Nat.lt_or_gt_of_ne hki with hlt | hgt
 ·have : (k + 1) * r.sz ≤ i * r.sz := Nat.mul_le_mul_right _ hlt
  rw [Nat.add_mul] at this
  rw [List.append_assoc, List.getElem?_append_left (by omega), List.getElem?_take, if_pos (by omega)]
  exact e1
 have : (i + 1) * r.sz ≤ k * r.sz := Nat.mul_le_mul_right _ hgt
 rw [Nat.add_mul] at this
 rw [List.getElem?_append_right (by simp only [List.length_append, hpre]; omega), List.getElem?_drop]
 have e4 : i * r.sz + off + xs.length + (k * r.sz + j - (cs.take (i * r.sz + off) ++ xs).length) = k * r.sz + j := by simp only [List.length_append, hpre]; omega
 rw [e4]
 exact e1
end
theorem Z7a {α : Type} (l : List α) (i k : Nat) (x d : α) (h : k ≠ i) : (l.set i x).getD k d = l.getD k d := by
 simp only [List.getD_eq_getElem?_getD]
 rw [List.getElem?_set_ne (by omega)]
theorem Zce {α : Type} (l : List α) (i : Nat) (x d : α) (h : i < l.length) : (l.set i x).getD i d = x := by
 simp only [List.getD_eq_getElem?_getD]
 rw [List.getElem?_set_self h]
 rfl
theorem Zuu {PL : Nat → Option Pl} {w : World} {Av : Nat → Prop} {r r' : R} {i off : Nat} {vs : List SV} {ps : List Prop} (h : r.put i off vs = some (ps, r')) (hps : ∀ p ∈ ps, p) (hi : i < rlen r) :
  r'.sz = r.sz ∧ rlen r' = rlen r ∧ r'.T = r.T ∧ (∀ k, k ≠ i → r'.elem k = r.elem k) ∧ ∀ ds, Dens PL w Av (lspl (r.elem i) off vs) ds → Dens PL w Av (r'.elem i) ds := by
 cases r with
 | bs T l =>
  cases off with
  | succ n => simp [R.put] at h
  | zero => cases vs with
   | nil => simp [R.put] at h
   | cons v t => cases t with
    | cons v2 t2 => simp [R.put] at h
    | nil => cases v with
     | v u => cases u with
      | int k x =>
       cases k <;> simp only [R.put] at h <;> try (cases h; done)
       injection h with h; injection h with h1 h2; subst h1; subst h2
       have hx := obl.1 (hps _ (List.mem_singleton.2 rfl))
       refine ⟨rfl, by simp [rlen, lock_eq, setB], rfl, fun k hk => by simp only [R.elem, lock_eq, getB, setB, Z7a _ _ _ _ _ hk], fun ds hd => ?_⟩
       simp only [R.elem, lock_eq, getB, setB, Zce _ _ _ _ hi, lspl, List.take_zero, List.nil_append, List.length_singleton, List.drop_succ_cons, List.drop_zero, List.append_nil, List.drop_nil] at hd ⊢
       have e : ((UInt8.ofNat x.toNat).toNat : Int) = x := by
        simp
        omega
       rw [e]
       exact hd
      | _ => simp [R.put] at h
     | _ => simp [R.put] at h
 | ints T k l =>
  cases off with
  | succ n => simp [R.put] at h
  | zero => cases vs with
   | nil => simp [R.put] at h
   | cons v t => cases t with
    | cons v2 t2 => simp [R.put] at h
    | nil => cases v with
     | v u => cases u with
      | int j x =>
       simp only [R.put] at h
       split at h
       ·rename_i hk
        injection h with h; injection h with h1 h2; subst h1; subst h2
        have := LawfulBEq.eq_of_beq hk
        subst this
        refine ⟨rfl, by simp [rlen, lock_eq, setI], rfl, fun k hk => by simp only [R.elem, lock_eq, getI, setI, Z7a _ _ _ _ _ hk], fun ds hd => ?_⟩
        simp only [R.elem, lock_eq, getI, setI, Zce _ _ _ _ hi, lspl, List.take_zero, List.nil_append, List.length_singleton, List.drop_succ_cons, List.drop_zero, List.append_nil, List.drop_nil] at hd ⊢
        exact hd
       cases h
      | _ => simp [R.put] at h
     | _ => simp [R.put] at h
 | row T e l =>
  simp only [R.put] at h
  split at h
  ·rename_i d hm
   injection h with h; injection h with h1 h2; subst h1; subst h2
   refine ⟨rfl, by simp [rlen, lock_eq, setD], rfl, fun k hk => by simp only [R.elem, lock_eq, getD, setD, Z7a _ _ _ _ _ hk], fun ds hd => ?_⟩
   obtain ⟨L1, e1, _, hk⟩ := Z66 (PL := PL) (w := w) (Av := Av) _ _ _ _ hm
   simp only [List.append_nil] at e1
   simp only [R.elem] at hd
   rw [e1] at hd
   have := hk ds hd
   simp only [R.elem, lock_eq, getD, setD, Zce _ _ _ _ hi]
   exact this
  cases h
theorem Zg6 {p q r : R} (h : p.app q = some r) : r.sz = p.sz ∧ q.sz = p.sz ∧ r.T = p.T ∧ rlen r = rlen p + rlen q ∧ (∀ i, i < rlen p → r.elem i = p.elem i) ∧ ∀ i, i < rlen q → r.elem (rlen p + i) = q.elem i := by
 have gl : ∀ {α : Type} (a b : List α) (d : α) (i : Nat), i < a.length → (a ++ b).getD i d = a.getD i d := fun a b d i hi => by simp only [List.getD_eq_getElem?_getD, List.getElem?_append_left hi]
 have gr : ∀ {α : Type} (a b : List α) (d : α) (i : Nat), (a ++ b).getD (a.length + i) d = b.getD i d := fun a b d i => by simp only [List.getD_eq_getElem?_getD]; rw [List.getElem?_append_right (by omega)]; simp
 cases p <;> cases q <;> simp only [R.app] at h <;> try (cases h; done)
 ·injection h with h; subst h
  refine ⟨rfl, rfl, rfl, by simp [rlen, lock_eq, cat], fun i hi => ?_, fun i hi => ?_⟩ <;> simp only [R.elem, lock_eq, getB, cat, rlen] at *
  ·rw [gl _ _ _ _ hi]
  rw [gr]
 ·split at h
  ·rename_i hk
   injection h with h; subst h
   have := LawfulBEq.eq_of_beq hk
   subst this
   refine ⟨rfl, rfl, rfl, by simp [rlen, lock_eq, cat], fun i hi => ?_, fun i hi => ?_⟩ <;> simp only [R.elem, lock_eq, getI, cat, rlen] at *
   ·rw [gl _ _ _ _ hi]
   rw [gr]
  cases h
 split at h
 ·rename_i hk
  injection h with h; subst h
  have := Zv _ _ hk
  subst this
  refine ⟨rfl, rfl, rfl, by simp [rlen, lock_eq, cat], fun i hi => ?_, fun i hi => ?_⟩ <;> simp only [R.elem, lock_eq, getD, cat, rlen] at *
  ·rw [gl _ _ _ _ hi]
  rw [gr]
 cases h
theorem Zwi {p q r : R} {lo : Nat} (h : p.splice lo q = some r) (hfit : lo + rlen q ≤ rlen p) : r.sz = p.sz ∧ q.sz = p.sz ∧ r.T = p.T ∧ rlen r = rlen p ∧ (∀ i, i < rlen q → r.elem (lo + i) = q.elem i) ∧
  ∀ i, i < lo ∨ lo + rlen q ≤ i → i < rlen p → r.elem i = p.elem i := by
 have gin : ∀ {α : Type} (a b : List α) (d : α) (i : Nat), lo + b.length ≤ a.length → i < b.length → (lspl a lo b).getD (lo + i) d = b.getD i d := fun a b d i h1 h2 => by
  simp only [lspl, List.getD_eq_getElem?_getD]
  rw [List.getElem?_append_left (by simp; omega), List.getElem?_append_right (by simp; omega)]
  congr 2
  simp; omega
 have gout : ∀ {α : Type} (a b : List α) (d : α) (i : Nat), lo + b.length ≤ a.length → (i < lo ∨ lo + b.length ≤ i) → (lspl a lo b).getD i d = a.getD i d := fun a b d i h1 h2 => by
  simp only [lspl, List.getD_eq_getElem?_getD]
  rcases h2 with h2 | h2
  ·rw [List.append_assoc, List.getElem?_append_left (by simp; omega), List.getElem?_take, if_pos h2]
  rw [List.getElem?_append_right (by simp; omega), List.getElem?_drop]
  congr 2
  simp; omega
 have ln : ∀ {α : Type} (a b : List α), lo + b.length ≤ a.length → (lspl a lo b).length = a.length := fun a b h1 => by simp [lspl]; omega
 cases p <;> cases q <;> simp only [R.splice] at h <;> try (cases h; done)
 ·injection h with h; subst h
  simp only [rlen] at hfit
  refine ⟨rfl, rfl, rfl, by simp only [rlen, lock_eq]; exact ln _ _ hfit, fun i hi => ?_, fun i hi _ => ?_⟩ <;> simp only [R.elem, lock_eq, getB, rlen] at *
  ·rw [gin _ _ _ _ hfit hi]
  rw [gout _ _ _ _ hfit hi]
 ·split at h
  ·rename_i hk
   injection h with h; subst h
   have := LawfulBEq.eq_of_beq hk
   subst this
   simp only [rlen] at hfit
   refine ⟨rfl, rfl, rfl, by simp only [rlen, lock_eq]; exact ln _ _ hfit, fun i hi => ?_, fun i hi _ => ?_⟩ <;> simp only [R.elem, lock_eq, getI, rlen] at *
   ·rw [gin _ _ _ _ hfit hi]
   rw [gout _ _ _ _ hfit hi]
  cases h
 split at h
 ·rename_i hk
  injection h with h; subst h
  have := Zv _ _ hk
  subst this
  simp only [rlen] at hfit
  refine ⟨rfl, rfl, rfl, by simp only [rlen, lock_eq]; exact ln _ _ hfit, fun i hi => ?_, fun i hi _ => ?_⟩ <;> simp only [R.elem, lock_eq, getD, rlen] at *
  ·rw [gin _ _ _ _ hfit hi]
  rw [gout _ _ _ _ hfit hi]
 cases h
theorem Zrh {rk : RK} {q r : R} (h : rk.fit q = some r) : r.sz = rk.sz ∧ q.sz = rk.sz ∧ r.T = rk.T ∧ rlen r = rlen q ∧ ∀ i, r.elem i = q.elem i := by
 cases rk <;> cases q <;> simp only [RK.fit] at h <;> try (cases h; done)
 ·injection h with h; subst h; exact ⟨rfl, rfl, rfl, rfl, fun i => rfl⟩
 ·split at h
  ·rename_i hk
   injection h with h; subst h
   have := LawfulBEq.eq_of_beq hk
   subst this
   exact ⟨rfl, rfl, rfl, rfl, fun i => rfl⟩
  cases h
 split at h
 ·rename_i hk
  injection h with h; subst h
  have := Zv _ _ hk
  subst this
  exact ⟨rfl, rfl, rfl, rfl, fun i => rfl⟩
 cases h
theorem Z43 {PL : Nat → Option Pl} {w : World} {Av : Nat → Prop} (rk : RK) (n : Nat) : (rk.rep n).sz = rk.sz ∧ (rk.rep n).T = rk.T ∧ rlen (rk.rep n) = n ∧ ∀ i, i < n → Dens PL w Av ((rk.rep n).elem i) rk.zvals := by
 have g : ∀ {α : Type} (x d : α) (i : Nat), i < n → (lrep n x).getD i d = x := fun x d i hi => by simp [lrep, List.getD_eq_getElem?_getD, List.getElem?_replicate, hi]
 cases rk with
 | bs T => exact ⟨rfl, rfl, by simp [RK.rep, rlen, lock_eq, lrep], fun i hi => by simp only [RK.rep, R.elem, lock_eq, getB, g _ _ _ hi, RK.zvals]; exact Dens.cons (.v _) rfl .nil⟩
 | ints T k => exact ⟨rfl, rfl, by simp [RK.rep, rlen, lock_eq, lrep], fun i hi => by simp only [RK.rep, R.elem, lock_eq, getI, g _ _ _ hi, RK.zvals]; exact Dens.cons (.v _) rfl .nil⟩
 | row T e => exact ⟨rfl, rfl, by simp [RK.rep, rlen, lock_eq, lrep], fun i hi => by simp only [RK.rep, R.elem, lock_eq, getD, g _ _ _ hi, RK.zvals]; exact Zym e⟩
theorem Zs9 {PL : Nat → Option Pl} {w : World} {Av : Nat → Prop} (rk : RK) : ∀ (n : Nat) (m : List SV) (ps : List Prop) (r : R), rk.of n m = some (ps, r) → (∀ p ∈ ps, p) → 0 < rk.sz →
  r.sz = rk.sz ∧ r.T = rk.T ∧ rlen r = n ∧ m.length = n * rk.sz ∧ ∀ cs, Dens PL w Av m cs → RP PL w Av r cs := by
 intro n
 induction n with
 | zero =>
  intro m ps r h hps hz
  cases rk <;> cases m <;> simp only [RK.of] at h <;> try (cases h; done)
  all_goals
   injection h with h; injection h with h1 h2; subst h1; subst h2
   exact ⟨rfl, rfl, rfl, by simp, fun cs _ i j hi => absurd hi (by simp [rlen])⟩
 | succ n ih =>
  intro m ps r h hps hz
  have step : ∀ (r0 r1 : R) (L1 L2 : List SV), r1.sz = rk.sz → r0.sz = rk.sz → rlen r1 = n + 1 → rlen r0 = n → m = L1 ++ L2 → L1.length = rk.sz → L2.length = n * rk.sz → (∀ i, r1.elem (i + 1) = r0.elem i) →
    (∀ cs, Dens PL w Av L1 cs → Dens PL w Av (r1.elem 0) cs) → (∀ cs, Dens PL w Av L2 cs → RP PL w Av r0 cs) → m.length = (n + 1) * rk.sz ∧ ∀ cs, Dens PL w Av m cs → RP PL w Av r1 cs := by
   intro r0 r1 L1 L2 z1 z0 l1 l0 e hl1 hl2 hs h0 hr
   refine ⟨by rw [e, List.length_append, hl1, hl2, Nat.add_mul]; omega, fun cs hc => ?_⟩
   have c1 : Dens PL w Av L1 (cs.take rk.sz) := by have := hc.take rk.sz; rw [e, ← hl1] at this; simpa [hl1] using this
   have c2 : Dens PL w Av L2 (cs.drop rk.sz) := by have := hc.drop rk.sz; rw [e, ← hl1] at this; simpa [hl1] using this
   have d0 := h0 _ c1
   have d1 := hr _ c2
   intro i j hi hj
   cases i with
   | zero =>
    have hlen := d0.1
    have := d0.2 j hj (by omega)
    refine ⟨_, ?_, this.1, this.2⟩
    rw [← List.getElem?_eq_getElem, Nat.zero_mul, Nat.zero_add, List.getElem?_take, if_pos (by rw [R.elem_len, z1] at hj; exact hj)]
   | succ i =>
    have e := hs i
    have hj2 : j < (r0.elem i).length := by rw [← e]; exact hj
    obtain ⟨u, e1, e2, e3⟩ := d1 i j (by omega) hj2
    refine ⟨u, ?_, Z1t e hj hj2 e2, e3⟩
    rw [List.getElem?_drop] at e1
    rw [← e1, z1, z0, Nat.add_mul]
    congr 1
    omega
  cases rk with
  | bs T =>
   cases m with
   | nil => simp [RK.of] at h
   | cons v t => cases v with
    | v u => cases u with
     | int k x =>
      cases k <;> simp only [RK.of] at h <;> try (cases h; done)
      cases ho : RK.of (.bs T) n t with
      | none => rw [ho] at h; cases h
      | some q =>
       obtain ⟨ps0, r0⟩ := q
       rw [ho] at h
       cases r0 with
       | bs T0 l =>
        simp only [] at h
        injection h with h; injection h with h1 h2; subst h1; subst h2
        rw [show lock byteOf x = UInt8.ofNat x.toNat by rw [lock_eq]; rfl]
        obtain ⟨a1, a2, a3, a4, a5⟩ := ih t ps0 _ ho (fun p hp => hps p (by simp [hp])) hz
        have hx := obl.1 (hps _ (List.mem_cons_self ..))
        have e : ((UInt8.ofNat x.toNat).toNat : Int) = x := by
         simp
         omega
        obtain ⟨b1, b2⟩ := step (.bs T0 l) (.bs T (UInt8.ofNat x.toNat :: l)) [.v (.int .u8 x)] t rfl rfl (by simpa [rlen] using a3) a3 rfl rfl a4 (fun i => by simp only [R.elem, lock_eq, getB]; rfl)
         (fun cs hc => by simp only [R.elem, lock_eq, getB, List.getD_cons_zero, e]; exact hc) a5
        exact ⟨rfl, rfl, by simpa [rlen] using a3, b1, b2⟩
       | _ => simp only [] at h; cases h
     | _ => simp [RK.of] at h
    | _ => simp [RK.of] at h
  | ints T k =>
   cases m with
   | nil => simp [RK.of] at h
   | cons v t => cases v with
    | v u => cases u with
     | int j x =>
      simp only [RK.of] at h
      split at h
      ·rename_i hk
       have := LawfulBEq.eq_of_beq hk
       subst this
       cases ho : RK.of (.ints T k) n t with
       | none => rw [ho] at h; cases h
       | some q =>
        obtain ⟨ps0, r0⟩ := q
        rw [ho] at h
        cases r0 with
        | ints T0 k0 l =>
         simp only [] at h
         injection h with h; injection h with h1 h2; subst h1; subst h2
         obtain ⟨a1, a2, a3, a4, a5⟩ := ih t ps0 _ ho hps hz
         have hkk : k0 = k := by
          cases n with
          | zero =>
           cases t <;> simp only [RK.of] at ho <;> try (cases ho; done)
           injection ho with ho; injection ho with _ ho; injection ho with _ ho _; exact ho.symm
          | succ n =>
           cases t with
           | nil => simp [RK.of] at ho
           | cons v t => cases v with
            | v u => cases u with
             | int j x =>
              simp only [RK.of] at ho
              split at ho
              ·split at ho
               ·injection ho with ho; injection ho with _ ho; injection ho with _ ho _; exact ho.symm
               cases ho
              cases ho
             | _ => simp [RK.of] at ho
            | _ => simp [RK.of] at ho
         subst hkk
         obtain ⟨b1, b2⟩ := step (.ints T0 k0 l) (.ints T k0 (x :: l)) [.v (.int k0 x)] t rfl rfl (by simpa [rlen] using a3) a3 rfl rfl a4 (fun i => by simp only [R.elem, lock_eq, getI]; rfl)
          (fun cs hc => by simp only [R.elem, lock_eq, getI, List.getD_cons_zero]; exact hc) a5
         exact ⟨rfl, rfl, by simpa [rlen] using a3, b1, b2⟩
        | _ => simp only [] at h; cases h
      cases h
     | _ => simp [RK.of] at h
    | _ => simp [RK.of] at h
  | row T e =>
   simp only [RK.of] at h
   cases hm : e.mk m with
   | none => rw [hm] at h; cases h
   | some q =>
    obtain ⟨d, t⟩ := q
    rw [hm] at h
    simp only [] at h
    cases ho : RK.of (.row T e) n t with
    | none => rw [ho] at h; cases h
    | some q =>
     obtain ⟨ps0, r0⟩ := q
     rw [ho] at h
     cases r0 with
     | row T0 e0 l =>
      simp only [] at h
      injection h with h; injection h with h1 h2; subst h1; subst h2
      obtain ⟨a1, a2, a3, a4, a5⟩ := ih t ps0 _ ho hps hz
      obtain ⟨L1, f1, f2, f3⟩ := Z66 (PL := PL) (w := w) (Av := Av) _ _ _ _ hm
      have hee : e0 = e := by
       cases n with
       | zero =>
        cases t <;> simp only [RK.of] at ho <;> try (cases ho; done)
        injection ho with ho; injection ho with _ ho; injection ho with _ ho _; exact ho.symm
       | succ n =>
        simp only [RK.of] at ho
        split at ho
        ·split at ho
         ·injection ho with ho; injection ho with _ ho; injection ho with _ ho _; exact ho.symm
         cases ho
        cases ho
      subst hee
      obtain ⟨b1, b2⟩ := step (.row T0 e0 l) (.row T e0 (d :: l)) L1 t rfl rfl (by simpa [rlen] using a3) a3 f1 f2 a4 (fun i => by simp only [R.elem, lock_eq, getD]; rfl)
       (fun cs hc => by simp only [R.elem, lock_eq, getD, List.getD_cons_zero]; exact f3 cs hc) a5
      exact ⟨rfl, rfl, by simpa [rlen] using a3, b1, b2⟩
     | _ => simp only [] at h; cases h
theorem Zws {x y : Value} (h : vEq x y = true) : x = y := by
 unfold vEq at h
 split at h
 ·rw [Bool.and_eq_true] at h
  rw [LawfulBEq.eq_of_beq h.1, LawfulBEq.eq_of_beq h.2]
 ·rw [LawfulBEq.eq_of_beq h]
 ·rename_i x y
  have := LawfulBEq.eq_of_beq h
  have : x = y := ByteArray.ext this
  rw [this]
 ·rfl
 cases h
theorem Z82 : ∀ {x y : List Value}, vEqs x y = true → x = y
 | [], [], _ => rfl
 | [], y :: ys, h => by simp [vEqs] at h
 | x :: xs, [], h => by simp [vEqs] at h
 | x :: xs, y :: ys, h => by
  simp only [vEqs, Bool.and_eq_true] at h
  rw [Zws h.1, Z82 h.2]
theorem Z6d {P : Program} {e : TypeId} {rk : RK} (h : rkOf P e = some rk) : ∃ i z, P.info? e = some i ∧ i.zero = some z ∧ z.cells.toList = rk.zvals ∧ i.size = rk.sz ∧ 0 < rk.sz ∧ rk.T = e ∧ i.bytes = P.bytesOf e := by
 unfold rkOf at h
 cases h0 : rkOf0 P e with
 | none => rw [h0] at h; cases h
 | some rk0 =>
  rw [h0] at h
  cases hi : P.info? e with
  | none => rw [hi] at h; cases h
  | some i =>
   rw [hi] at h
   simp only [Option.bind_some] at h
   cases hz : i.zero with
   | none => rw [hz] at h; cases h
   | some z =>
    rw [hz] at h
    simp only [] at h
    split at h
    ·rename_i hc
     injection h with h
     subst h
     simp only [Bool.and_eq_true] at hc
     refine ⟨i, z, rfl, hz, Z82 hc.1.1, ?_, ?_, ?_, ?_⟩
     ·have := LawfulBEq.eq_of_beq hc.1.2
      rw [← this]; simp [Program.cellsOf, hi]
     ·have := hc.2
      simp at this
      omega
     ·unfold rkOf0 at h0
      split at h0
      ·injection h0 with h0; subst h0; rfl
      ·injection h0 with h0; subst h0; rfl
      split at h0
      ·split at h0
       ·injection h0 with h0; subst h0; rfl
       cases h0
      cases h0
     simp [Program.bytesOf, hi]
    cases h
section
variable {PL PL' : Nat → Option Pl} {w w' : World} {Av Av' : Nat → Prop}
theorem RP.cat {p q r : R} {cs ds : List Value} (h : RP PL w Av p cs) (k : RP PL w Av q ds) (hcs : cs.length = rlen p * p.sz) (ha : p.app q = some r) : RP PL w Av r (cs ++ ds) := by
 obtain ⟨z1, z2, _, l1, e1, e2⟩ := Zg6 ha
 intro i j hi hj
 have hj' : j < p.sz := by rw [R.elem_len, z1] at hj; exact hj
 rw [z1]
 by_cases hlt : i < rlen p
 ·have e := e1 i hlt
  have hj2 : j < (p.elem i).length := by rw [← e]; exact hj
  obtain ⟨u, f1, f2, f3⟩ := h i j hlt hj2
  refine ⟨u, ?_, Z1t e hj hj2 f2, f3⟩
  rw [List.getElem?_append_left (by rw [hcs]; exact Z4z hlt hj')]
  exact f1
 obtain ⟨i', rfl⟩ : ∃ i', i = rlen p + i' := ⟨i - rlen p, by omega⟩
 have e := e2 i' (by omega)
 have hj2 : j < (q.elem i').length := by rw [← e]; exact hj
 obtain ⟨u, f1, f2, f3⟩ := k i' j (by omega) hj2
 refine ⟨u, ?_, Z1t e hj hj2 f2, f3⟩
 rw [List.getElem?_append_right (by rw [hcs, Nat.add_mul]; omega), hcs, ← f1, z2]
 congr 1
 rw [Nat.add_mul]
 omega
theorem Z14 {id : Nat} {r : R} (h : CkOk PL w Av id (.row r)) : ∃ p, PL id = some p ∧ p.len = rlen r ∧ p.sz = r.sz ∧ 0 < r.sz ∧ ((p.a = none ∧ p.cap = 0 ∧ rlen r = 0) ∨
   ∃ b cs, p.a = some ⟨b, 0, none⟩ ∧ w.heap[b]? = some (.cells cs r.T (0, 0)) ∧ rlen r ≤ p.cap ∧ p.cap ≤ maxLen ∧ cs.size = p.cap * r.sz ∧ RP PL w Av r cs.toList) := by
 obtain ⟨p, h1, h2, h3, h4, h5⟩ := h
 refine ⟨p, h1, h2, h3, h4, ?_⟩
 rcases h5 with h5 | ⟨b, cs, g1, g2, g3, g4, g5, g6⟩
 ·exact .inl h5
 refine .inr ⟨b, cs, g1, g2, g3, g4, g5, fun i j hi hj => ?_⟩
 obtain ⟨u, e1, e2, e3⟩ := g6 i j hi (by rw [R.elem_len] at hj; exact hj) hj
 exact ⟨u, by simpa using e1, e2, e3⟩
theorem Z15 {id : Nat} {r : R} {p : Pl} {b : Nat} {cs : Array Value} (h1 : PL id = some p) (h2 : p.len = rlen r) (h3 : p.sz = r.sz) (h4 : 0 < r.sz) (ha : p.a = some ⟨b, 0, none⟩) (hh : w.heap[b]? = some (.cells cs r.T (0, 0))) (hc : rlen r ≤ p.cap) (hm : p.cap ≤ maxLen)
  (hs : cs.size = p.cap * r.sz) (hr : RP PL w Av r cs.toList) : CkOk PL w Av id (.row r) :=
 ⟨p, h1, h2, h3, h4, .inr ⟨b, cs, ha, hh, hc, hm, hs, fun i j hi _ hj => by
  obtain ⟨u, e1, e2, e3⟩ := hr i j hi hj
  exact ⟨u, by simpa using e1, e2, e3⟩⟩⟩
theorem Z54 {id : Nat} {r : R} {p : Pl} (h1 : PL id = some p) (h2 : p.len = rlen r) (h3 : p.sz = r.sz) (h4 : 0 < r.sz) (ha : p.a = none) (hc : p.cap = 0) (h0 : rlen r = 0) : CkOk PL w Av id (.row r) :=
 ⟨p, h1, h2, h3, h4, .inl ⟨ha, hc, h0⟩⟩
theorem RP.nil {r : R} {cs : List Value} (h : rlen r = 0) : RP PL w Av r cs := fun i j hi => by omega
theorem RP.reps {r : R} {zs cs : List Value} (hz : zs.length = r.sz) (he : ∀ i, i < rlen r → Dens PL w Av (r.elem i) zs) (hc : ∀ i j, i < rlen r → j < r.sz → cs[i * r.sz + j]? = zs[j]?) : RP PL w Av r cs := fun i j hi hj => by
 have hj' : j < r.sz := by rw [R.elem_len] at hj; exact hj
 have := (he i hi).2 j hj (by omega)
 exact ⟨zs[j], by rw [hc i j hi hj', List.getElem?_eq_getElem], this.1, this.2⟩
end
theorem Z47 (rk : RK) : rk.zvals.length = rk.sz := by
 have := (Z43 (PL := fun _ => none) (w := default) (Av := fun _ => False) rk 1).2.2.2 0 (by omega)
 rw [this.1, R.elem_len, (Z43 (PL := fun _ => none) (w := default) (Av := fun _ => False) rk 1).1]
theorem Zcq (z : Array Value) (n i j sz : Nat) (hz : z.size = sz) (hsz : 0 < sz) (hj : j < sz) (h : i * sz + j < n) : (madeCells z n).toList[i * sz + j]? = z.toList[j]? := by
 have hm : (i * sz + j) % sz = j := by rw [Nat.mul_comm, Nat.mul_add_mod, Nat.mod_eq_of_lt hj]
 have hjz : j < z.size := by omega
 simp [madeCells, h, hz, hm]
 rw [getElem?_pos z j hjz, getElem!_pos z j hjz]
theorem Zo0 (z : Array Value) (n i j sz : Nat) (hz : z.size = sz) (hsz : 0 < sz) (hj : j < sz) (hi : i < n) : (Builtin.zeroCells z n).toList[i * sz + j]? = z.toList[j]? := by
 have h : i * sz + j < n * sz := Z4z hi hj
 have hm : (i * sz + j) % sz = j := by rw [Nat.mul_comm, Nat.mul_add_mod, Nat.mod_eq_of_lt hj]
 have hjz : j < z.size := by omega
 simp [Builtin.zeroCells, h, hz, hm]
 rw [getElem?_pos z j hjz, getElem!_pos z j hjz]
section
variable {P : Program} {C : Ctx} {PL : Nat → Option Pl} {s : St} {Fr : Nat → Prop} {a : Act} {w : World} {o : Oper} {Q : Exit → Act → World → Prop}
theorem Zwe (h : Sat C PL s Fr a w) {T : TypeId} {x y : Operand} {x' y' : Opnd} {id i off : Nat} {v : SV} {r r' : R} {ps : List Prop} (ho : o.op = .store T x y) (hdst : o.dst = none) (hi : (P.info? T).isSome = true) (hx : cX x = some x') (hy : cX y = some y')
  (h1 : s.ev x' = some (.ept id i off)) (h2 : s.ev y' = some v) (hb : rowOf s.hp id = some r) (hn : v.flat.length = P.cellsOf T) (hone : ones v.flat = true) (hfit : off + P.cellsOf T ≤ r.sz) (hput : r.put i off v.flat = some (ps, r')) (hps : ∀ p ∈ ps, p)
  {ob : List Prop} {rd wr : List Nat} {sv : SV} : o.wp P a w (Eff.post ⟨ob, rd, wr, .one sv [(id, some (.row r'))]⟩ C s o.dst Fr) Q := by
 have d1 := Z4 h hx h1
 have d2 := Z4 h hy h2
 obtain ⟨ti, hi⟩ := Option.isSome_iff_exists.1 hi
 have hisz : P.cellsOf T = ti.size := by simp [Program.cellsOf, hi]
 have hg := Zf hb
 generalize hq : a.eval x = q at d1
 cases d1 with
 | ept _ _ _ b' p' hp' ha' hlt =>
  obtain ⟨p, hp, hl, hsz, h0, hrow⟩ := Z14 (h.ck id _ hg)
  rw [hp] at hp'; injection hp' with hp'; subst hp'
  rcases hrow with ⟨hna, _⟩ | ⟨b, cs, ha, hh, hlc, hcm, hcs, hd⟩
  ·rw [hna] at ha'; cases ha'
  rw [ha] at ha'; injection ha' with ha'; injection ha' with ha'; subst ha'
  have hf := Z4w d2 hone
  have hfl : (a.eval y).cells.toList.length = ti.size := by have := hf.1; omega
  have hir : i < rlen r := by omega
  have hrow1 : (i + 1) * r.sz ≤ p.cap * r.sz := Nat.mul_le_mul_right _ (by omega)
  rw [Nat.add_mul] at hrow1
  have run := Zde (P := P) hi x y ho b (i * p.sz + off) hq cs r.T hh (by simpa using hfl) (by rw [hsz, hcs]; omega) (fun u hu => by
   obtain ⟨j, hj, rfl⟩ := List.mem_iff_getElem.1 hu
   exact (hf.2 j (by have := hf.1; omega) hj).2)
  refine Z6g h hg Z3v (fun _ _ h => h) hp ha hh (fun t => ?_) (.inl ⟨rfl, rfl⟩) run (fun hne => absurd hdst hne)
  have hm : ∀ v x, Den PL w (Avo C PL s.hp) v x → Den PL (w.setRow b _) (Avo C PL (hupd [(id, some (.row r'))] s.hp)) v x := fun v x d => d.tr t
  obtain ⟨z1, z2, z3, z4, z5⟩ := Zuu (PL := PL) (w := w.setRow b (cs.toList.take (i * p.sz + off) ++ (a.eval y).cells.toList ++ cs.toList.drop (i * p.sz + off + ti.size)).toArray) (Av := Avo C PL (hupd [(id, some (.row r'))] s.hp)) hput hps hir
  have hrlen : rlen r * r.sz ≤ cs.toList.length := by
   have : rlen r * r.sz ≤ p.cap * r.sz := Nat.mul_le_mul_right _ hlc
   simp; omega
  have key := (hd.mono hm).put i off hir z1 z2 (by omega) hrlen z4 z5 (hf.mono hm)
  refine Z15 hp (by omega) (by omega) (by omega) ha (by rw [z3]; exact Z2s _ _ _ _ _ _ hh) (by omega) hcm ?_ ?_
  ·simp only [List.size_toArray, List.length_append, List.length_take, List.length_drop, Array.length_toList, z1]
   have hfl' : (a.eval y).cells.size = ti.size := by simpa using hfl
   rw [hsz]
   omega
  rw [hsz] at key ⊢
  rw [hfl] at key
  simpa using key
theorem Zdl (h : Sat C PL s Fr a w) {f : Nat} (hf : Fr f) (hk : ¬ f < C.k) {r : R} {len cap : Nat} {cs : Array Value} {w' : World} (hl : rlen r = len) (hz : 0 < r.sz) (hlc : len ≤ cap) (hcm : cap ≤ maxLen) (hcs : cs.size = cap * r.sz)
  (hw : w'.heap = w.heap.push (.cells cs r.T)) (hos : w'.os = w.os) (ht : w'.tape = w.tape) (hou : w'.output = w.output) (u : List (Nat × Option Ck)) (hu : ∀ id x, ulook u id = some (some x) → id = f ∧ x = .row r)
  (hd : RP PL w (Avo C PL s.hp) r cs.toList)
  (hr : (execOp a.eval o).run P w = .ok (.value (.slice (some ⟨w.heap.size, 0, none⟩) len cap)) w') {ob : List Prop} {rd wr : List Nat} :
  o.wp P a w (Eff.post ⟨ob, rd, wr, .one (.wsl f) u⟩ C s o.dst (fun i => Fr i ∧ i ≠ f)) Q := by
 refine Zx hr ?_
 have m := Mv.new h.toHSat f hf hk ⟨some ⟨w.heap.size, 0, none⟩, len, cap, r.sz, []⟩ (.cells cs r.T) rfl (.row r) w' hw hos ht hou u (fun id x e => (hu id x e).1) (fun id x e => by rw [(hu id x e).2]; exact fun _ _ h => h)
 have t := h.toHSat.tr m
 have H := h.toHSat.mv m (fun id c hu' => by
  obtain ⟨rfl, rfl⟩ := hu id c hu'
  exact Z15 (Zg _ _ _) hl.symm rfl hz rfl (by rw [hw]; simp) (by simp only []; omega) hcm hcs (hd.mono fun _ _ d => d.tr t))
 exact ⟨_, h.mv H t o.dst _ _ fun v hv => by injection hv with hv; subst hv; exact .wsl f _ (Zg _ _ _)⟩
theorem Zw2 (h : Sat C PL s Fr a w) {f : Nat} (hf : Fr f) (hk : ¬ f < C.k) {t e : TypeId} {x y : Operand} {x' y' : Opnd} {rk : RK} {n c : Int} (ho : o.op = .makeSlice t x y) (ht : P.underlying t = some (.slice e)) (hrk : rkOf P e = some rk) (hx : cX x = some x') (hy : cX y = some y')
  (h1 : s.ev x' = some (.v (.int .i64 n))) (h2 : s.ev y' = some (.v (.int .i64 c))) (hob : 0 ≤ n ∧ n ≤ c ∧ c * (P.bytesOf e : Int) ≤ 140737488355328 ∧ c ≤ 9223372036854775807) {ob : List Prop} {rd wr : List Nat} :
  o.wp P a w (Eff.post ⟨ob, rd, wr, .one (.wsl f) [(f, some (.row (rk.rep (lock toN n))))]⟩ C s o.dst (fun i => Fr i ∧ i ≠ f)) Q := by
 have d1 := Z4 h hx h1
 have d2 := Z4 h hy h2
 generalize hq : a.eval x = q at d1
 generalize hr : a.eval y = r at d2
 cases d1
 cases d2
 obtain ⟨i, z, hi, hz, hzv, hsz, h0, hT, hby⟩ := Z6d hrk
 simp only [lock_eq, toN]
 obtain ⟨z1, z2, z3, z4⟩ := Z43 (PL := PL) (w := w) (Av := Avo C PL s.hp) rk n.toNat
 have hzl : z.cells.size = rk.sz := by have := Z47 rk; rw [← hzv] at this; simpa using this
 have hbc : (i.bytes : Int) * c ≤ 281474976710656 := by rw [hby, Int.mul_comm]; omega
 have run := run_make (P := P) w t e i z ht hi hz .i64 .i64 n c hob.1 hob.2.1 hbc hob.2.2.2
 refine Zdl h hf hk (cs := madeCells z.cells (c.toNat * i.size)) z3 (by omega) (cap := c.toNat) (by omega) (by unfold maxLen; omega) (by rw [size_madeCells, z1, hsz]) (w' := w.alloc (.cells (madeCells z.cells (c.toNat * i.size)) e)) (by rw [z2, hT]; rfl) rfl rfl rfl _
  (fun id x e => by obtain ⟨h1, h2⟩ := Zs e; injection h2 with h2; exact ⟨h1, h2⟩) ?_ ?_
 ·refine RP.reps (zs := rk.zvals) (by rw [Z47, z1]) (fun i hi => z4 i (by omega)) (fun i' j hi' hj => ?_)
  rw [z1] at hj ⊢
  rw [← hzv, Zcq z.cells _ i' j rk.sz hzl h0 hj]
  rw [hsz]
  exact Z4z (by omega) hj
 simp [execOp, ho, hq, hr, run]
theorem Zvc (h : Sat C PL s Fr a w) {f : Nat} (hf : Fr f) (hk : ¬ f < C.k) {t e : TypeId} {n : Nat} {ps : Array (Nat × Operand)} {rk : RK} {z0 : List SV} {l : List (Nat × Nat × SV)} {m : List SV} {qs : List Prop} {r : R}
  (ho : o.op = .buildSlice t n ps) (ht : P.underlying t = some (.slice e)) (hrk : rkOf P e = some rk) (hz : zeroOf P e = some z0) (hzl : z0.length = P.cellsOf e) (hnb : n * P.cellsOf e ≤ 16777216) (e1 : ps.toList.length = l.length) (k : ∀ (j : Nat) (h1 : j < l.length) (h2 : j < ps.toList.length), (l[j].1 = ps.toList[j].1 * P.cellsOf e ∧ l[j].2.1 = P.cellsOf e) ∧ Den PL w (Avo C PL s.hp) l[j].2.2 (a.eval ps.toList[j].2))
  (hm : fills (reps n z0) l = some m) (hof : rk.of n m = some (qs, r)) (hqs : ∀ p ∈ qs, p) {ob : List Prop} {rd wr : List Nat} :
  o.wp P a w (Eff.post ⟨ob, rd, wr, .one (.wsl f) [(f, some (.row r))]⟩ C s o.dst (fun i => Fr i ∧ i ≠ f)) Q := by
 obtain ⟨i, z, hi, hzz, hzv, hsz, h0, hT, hby⟩ := Z6d hrk
 obtain ⟨i', z', hi', hzz', hzc⟩ := Z6i hz
 rw [hi] at hi'; injection hi' with hi'; subst hi'
 rw [hzz] at hzz'; injection hzz' with hzz'; subst hzz'
 have hce : P.cellsOf e = rk.sz := by rw [← hsz]; simp [Program.cellsOf, hi]
 have hzs : z.cells.size = rk.sz := by have := Z47 rk; rw [← hzv] at this; simpa using this
 have hz0 : Dens PL w (Avo C PL s.hp) z0 z.cells.toList := Z4s hzc
 have hreps : ∀ n, Dens PL w (Avo C PL s.hp) (reps n z0) (madeCells z.cells (n * rk.sz)).toList := by
  intro n
  have hlen : ∀ n, (reps n z0).length = n * rk.sz := by
   intro n
   induction n with
   | zero => simp [reps]
   | succ n ih => simp only [reps, List.length_append, ih, hzl, hce, Nat.add_mul]; omega
  have hget : ∀ n i j, i < n → j < rk.sz → (reps n z0)[i * rk.sz + j]? = z0[j]? := by
   intro n
   induction n with
   | zero => intro i j hi; omega
   | succ n ih =>
    intro i j hi hj
    simp only [reps]
    cases i with
    | zero => rw [Nat.zero_mul, Nat.zero_add, List.getElem?_append_left (by omega)]
    | succ i =>
     rw [List.getElem?_append_right (by rw [hzl, hce, Nat.add_mul]; omega), hzl, hce]
     have : (i + 1) * rk.sz + j - rk.sz = i * rk.sz + j := by rw [Nat.add_mul]; omega
     rw [this]
     exact ih i j (by omega) hj
  refine ⟨by rw [hlen]; simp [size_madeCells], fun j h1 h2 => ?_⟩
  have hj : j < n * rk.sz := by rw [hlen] at h1; exact h1
  have hdiv : j / rk.sz < n := by rw [Nat.div_lt_iff_lt_mul h0]; exact hj
  have hmod : j % rk.sz < rk.sz := Nat.mod_lt _ h0
  have hj' : j = j / rk.sz * rk.sz + j % rk.sz := by rw [Nat.mul_comm]; exact (Nat.div_add_mod j rk.sz).symm
  have g1 := hget n (j / rk.sz) (j % rk.sz) hdiv hmod
  have g2 := Zcq z.cells (n * rk.sz) (j / rk.sz) (j % rk.sz) rk.sz hzs h0 hmod (by rw [← hj']; exact hj)
  rw [← hj'] at g1 g2
  have hm0 : j % rk.sz < z0.length := by omega
  have hm1 : j % rk.sz < z.cells.toList.length := by simp; omega
  rw [List.getElem?_eq_getElem h1, List.getElem?_eq_getElem hm0] at g1
  rw [List.getElem?_eq_getElem h2, List.getElem?_eq_getElem hm1] at g2
  injection g1 with g1
  injection g2 with g2
  rw [g1, g2]
  exact hz0.2 _ hm0 hm1
 obtain ⟨ds, hds, hdd⟩ := Zc7 l (ps.toList.map fun q => (q.1, a.eval q.2)) (fun i => some (i * rk.sz, rk.sz)) (reps n z0) m (madeCells z.cells (n * rk.sz)) (by simp [e1]) (fun j h1 h2 => by
  obtain ⟨⟨e1, e2⟩, d⟩ := k j h1 (by simpa using h2)
  simp only [List.getElem_map]
  refine ⟨?_, d⟩
  rw [e1, e2, hce]) (hreps n) hm
 obtain ⟨o1, o2, o3, o4, o5⟩ := Zs9 (PL := PL) (w := w) (Av := Avo C PL s.hp) rk n m qs r hof hqs h0
 have hdl : ds.size = n * r.sz := by have := hdd.1; rw [o4, ← o1] at this; simpa using this
 have hn63 : n ≤ 9223372036854775807 := by
  have : n * 1 ≤ n * P.cellsOf e := Nat.mul_le_mul_left _ (by omega)
  omega
 refine Zdl h hf hk (cs := ds) o3 (by omega) (cap := n) (Nat.le_refl _) (by unfold maxLen; omega) hdl (w' := w.alloc (.cells ds e)) (by rw [o2, hT]; rfl) rfl rfl rfl _
  (fun id x e => by obtain ⟨h1, h2⟩ := Zs e; injection h2 with h2; exact ⟨h1, h2⟩) (o5 _ hdd) ?_
 have hpl : (Array.map (fun x => (x.fst, a.eval x.snd)) ps).toList = ps.toList.map fun q => (q.1, a.eval q.2) := by simp
 have hnsz : ¬ (16777216 < n * i.size) := by rw [hsz, ← hce]; omega
 have hmade : (madeCells z.cells (n * rk.sz)) = (Array.range (n * i.size)).map (z.cells[· % z.cells.size]!) := by rw [hsz]; rfl
 rw [hmade, ← hsz] at hds
 by_cases hn0 : n * i.size = 0
 ·have hn' : n = 0 := by
   rcases Nat.mul_eq_zero.1 hn0 with h1 | h1
   ·exact h1
   omega
  subst hn'
  rw [hn0] at hds
  simp [execOp, ho, Instr.buildSlice, run_underlying ht, Zn hi, hpl, newRow] at hds ⊢
  simp [Array.range_zero'] at hds ⊢
  simp [hds]
 simp [execOp, ho, Instr.buildSlice, run_underlying ht, Zn hi, hnsz, hn0, Z6e hi hzz, hpl, hds, newRow]
end
section
variable {P : Program} {C : Ctx} {PL : Nat → Option Pl} {s : St} {Fr : Nat → Prop} {a : Act} {w : World} {o : Oper} {Q : Exit → Act → World → Prop}
theorem Mv.take {hp : List (Nat × Ck)} (h : HSat C PL hp Fr w) (f : Nat) (hf : Fr f) (hk : ¬ f < C.k) (p : Pl) (u : List (Nat × Option Ck)) (w' : World) (hos : w'.os = w.os) (ht : w'.tape = w.tape) (hou : w'.output = w.output) (hs : w'.heap.size = w.heap.size)
  (hu : ∀ id x, ulook u id = some (some x) → id = f) (hcb : ∀ id x, ulook u id = some (some x) → ∀ q b, x.has q b → q.a = some ⟨b, 0, none⟩)
  (hpa : p.a = none ∨ ∃ id0 c0 p0 b, hget hp id0 = some c0 ∧ ulook u id0 = some none ∧ PL id0 = some p0 ∧ c0.has p0 b ∧ p.a = some ⟨b, 0, none⟩)
  (hw : ∀ b, p.a ≠ some ⟨b, 0, none⟩ → w'.heap[b]? = w.heap[b]?) : Mv C PL hp w u (padd PL f p) (fun i => Fr i ∧ i ≠ f) w' where
 P := Z2p p (h.fr f hf)
 k := fun i hi => Zi _ _ _ _ (fun e => hk (e ▸ hi))
 fr := fun i hi => by rw [Zi _ _ _ _ hi.2]; exact h.fr i hi.1
 os := hos
 tape := ht
 output := hou
 size := by omega
 old := fun b hb hn => hw b fun e => by
  rcases hpa with hpa | ⟨id0, c0, p0, b0, h0, h1, h2, h3, h4⟩
  ·rw [hpa] at e; cases e
  rw [h4] at e; injection e with e; injection e with e; subst e
  exact hn id0 c0 p0 h0 (by rw [h1]; rfl) h2 h3
 blk := fun id c' q b hu' hq ha => by
  have ha := hcb _ _ hu' _ _ ha
  have := hu id c' hu'
  subst this
  rw [Zg] at hq
  injection hq with hq
  subst hq
  rcases hpa with hpa | ⟨id0, c0, p0, b0, h0, h1, h2, h3, h4⟩
  ·rw [hpa] at ha; cases ha
  rw [h4] at ha; injection ha with ha; injection ha with ha; subst ha
  exact .inr ⟨id0, c0, p0, h0, h2, h3, by rw [h1]; rfl⟩
 dj := fun i j c d p q b hi hj _ _ _ _ => by rw [hu i c hi, hu j d hj]
theorem Zfk {i f : Nat} (hne : i ≠ f) {c : Ck} : ulook [(i, none), (f, some c)] i = some none ∧ ∀ id x, ulook [(i, none), (f, some c)] id = some (some x) → id = f ∧ x = c := by
 constructor
 ·simp [ulook, (Zm i f).2 hne, (nbeq i i).2 rfl]
 intro id x h
 simp only [ulook] at h
 cases hb : Nat.beq id f with
 | true => rw [hb] at h; simp only [] at h; injection h with h; injection h with h; exact ⟨(nbeq id f).1 hb, h.symm⟩
 | false =>
  rw [hb] at h
  simp only [] at h
  cases hb2 : Nat.beq id i with
  | true => rw [hb2] at h; cases h
  | false => rw [hb2] at h; cases h
theorem Z2r {c : Call} {b : Builtin} (ho : o.op = .call c) (hc : c.callee = .builtin b) {args : List Operand} (ha : c.args.toList = args) (consts : Array Bool) (hcs : consts = c.args.map fun | .const _ => true | _ => false) :
  (execOp a.eval o).run P w = (builtin b c.argTypes o.type consts (args.map a.eval).toArray).run P w := by
 have hargs : c.args = args.toArray := by rw [← Array.toArray_toList (xs := c.args), ha]
 subst hcs
 simp [execOp, ho, resolve, hc, hargs, invoke]
 rfl
theorem Zdb {t e : TypeId} {ty : TypeId} (ht : P.underlying t = some (.slice e)) {i : TypeInfo} (hi : P.info? e = some i) (A B : Option Addr) (n cap c2 : Nat) (hcap : n ≤ cap) :
  (Builtin.append_ #[t, t] ty #[.slice A n cap, .slice B 0 c2]).run P w = .ok (.slice A n cap) w := by
 have hfc : (Builtin.firstCells i.size 0 (.slice B 0 c2)).run P w = .ok #[] w := by
  cases B <;> simp [Builtin.firstCells, loadCells, loadCellsFrom]
 cases A with
 | none => simp [Builtin.append_, run_underlying ht, Zn hi, Builtin.lenOf, hcap, hfc]
 | some A => simp [Builtin.append_, run_underlying ht, Zn hi, Builtin.lenOf, hcap, hfc, storeCells]
structure App (P : Program) (o : Oper) (e : TypeId) (x y : Operand) : Prop where
 c : ∃ c t, o.op = .call c ∧ c.callee = .builtin .append ∧ c.args.toList = [x, y] ∧ c.argTypes = #[t, t] ∧ P.underlying t = some (.slice e)
theorem Z7r {e : TypeId} {x y : Operand} (h : App P o e x y) {u v : Value} (hx : a.eval x = u) (hy : a.eval y = v) : ∃ t, P.underlying t = some (.slice e) ∧ (execOp a.eval o).run P w = ((Builtin.append_ #[t, t] o.type #[u, v]).run P w).andThen fun r w' => .ok (.value r) w' := by
 obtain ⟨c, t, ho, hc, ha, hat, ht⟩ := h.c
 refine ⟨t, ht, ?_⟩
 rw [Z2r ho hc ha _ rfl]
 simp [builtin, hat, hx, hy]
theorem Zln (h : Sat C PL s Fr a w) {f : Nat} (hf : Fr f) (hk : ¬ f < C.k) {e : TypeId} {x y : Operand} (hA : App P o e x y) {x' y' : Opnd} {rk : RK} (hrk : rkOf P e = some rk) (hb : 0 < P.bytesOf e) (hx : cX x = some x') (hy : cX y = some y') {v : SV} {p q r : R}
  (u : List (Nat × Option Ck)) (h1 : s.ev x' = some v) (hv : (v = .nsl ∧ rlen p = 0 ∧ p.sz = rk.sz ∧ p.T = rk.T ∧ u = [(f, some (.row r))]) ∨ ∃ id, v = .wsl id ∧ rowOf s.hp id = some p ∧ u = [(id, none), (f, some (.row r))] ∧ p.T = rk.T ∧ p.sz = rk.sz)
  {z : SV} (h2 : s.ev y' = some z) (hq : rowS s.hp z = some q) (hr : p.app q = some r) (hob : ((rlen p : Int) + (rlen q : Int)) * (P.bytesOf e : Int) ≤ 140737488355328) {ob : List Prop} {rd wr : List Nat} :
  o.wp P a w (Eff.post ⟨ob, rd, wr, .one (.wsl f) u⟩ C s o.dst (fun i => Fr i ∧ i ≠ f)) Q := by
 have d1 := Z4 h hx h1
 have d2 := Z4 h hy h2
 obtain ⟨i, z0, hi, hz0, hzv, hsz, h0, hT, hby⟩ := Z6d hrk
 obtain ⟨s1, s2, s3, s4, s5, s6⟩ := Zg6 hr
 obtain ⟨B, c2, hyv, hc2, hBs, hcells⟩ := Zd9 h.toHSat hq d2
 obtain ⟨news, hnl, hnc, hn1, hnd⟩ := hcells (rlen q) (Nat.le_refl _)
 have hnrp : RP PL w (Avo C PL s.hp) q news := fun i j hi hj => by
  obtain ⟨u, e1, e2⟩ := hnd i j hi hj
  exact ⟨u, e1, e2, hn1 u (List.mem_of_getElem? e1)⟩
 have hpsz : p.sz = rk.sz := by rcases hv with ⟨_, _, h3, _⟩ | ⟨_, _, _, _, _, h3⟩ <;> exact h3
 have hpT : p.T = rk.T := by rcases hv with ⟨_, _, _, h3, _⟩ | ⟨_, _, _, _, h3, _⟩ <;> exact h3
 have hisz : i.size = p.sz := by omega
 have hlen : rlen p + rlen q ≤ 140737488355328 := by
  have h1 : ((rlen p + rlen q : Nat) : Int) * 1 ≤ ((rlen p + rlen q : Nat) : Int) * (P.bytesOf e : Int) := Int.mul_le_mul_of_nonneg_left (by omega) (by omega)
  push_cast at h1
  omega
 have hbN : (rlen p + rlen q) * i.bytes ≤ 140737488355328 := by
  rw [hby]
  have : (((rlen p + rlen q) * P.bytesOf e : Nat) : Int) ≤ 140737488355328 := by push_cast; exact hob
  omega
 obtain ⟨A, cap, cs, p0, hxv, hcap, hcm, hcs, hprp, hcase⟩ : ∃ (A : Option Addr) (cap : Nat) (cs : Array Value) (p0 : Pl), a.eval x = .slice A (rlen p) cap ∧ rlen p ≤ cap ∧ cap ≤ maxLen ∧ cs.size = cap * p.sz ∧ RP PL w (Avo C PL s.hp) p cs.toList ∧
   ((A = none ∧ cap = 0) ∨ ∃ id b, A = some ⟨b, 0, none⟩ ∧ v = .wsl id ∧ rowOf s.hp id = some p ∧ PL id = some p0 ∧ p0.a = some ⟨b, 0, none⟩ ∧ p0.cap = cap ∧ p0.len = rlen p ∧ p0.sz = p.sz ∧ w.heap[b]? = some (.cells cs p.T (0, 0)) ∧ u = [(id, none), (f, some (.row r))]) := by
  rcases hv with ⟨rfl, hl0, _, _, _⟩ | ⟨id, rfl, hro, hu, _, _⟩
  ·generalize hxe : a.eval x = xv at d1
   cases d1
   exact ⟨none, 0, #[], ⟨none, 0, 0, 0, []⟩, by rw [hl0], by omega, by unfold maxLen; omega, by simp, RP.nil hl0, .inl ⟨rfl, rfl⟩⟩
  generalize hxe : a.eval x = xv at d1
  cases d1 with
  | wsl _ p0 hp0 =>
   obtain ⟨p', hp', l1, l2, l3, hrow⟩ := Z14 (h.ck id _ (Zf hro))
   rw [hp0] at hp'; injection hp' with hp'; subst hp'
   rcases hrow with ⟨n1, n2, n3⟩ | ⟨b, cs, g1, g2, g3, g4, g5, g6⟩
   ·exact ⟨none, 0, #[], p0, by rw [n1, n2, l1], by omega, by unfold maxLen; omega, by simp, RP.nil n3, .inl ⟨rfl, rfl⟩⟩
   exact ⟨some ⟨b, 0, none⟩, p0.cap, cs, p0, by rw [g1, l1], g3, g4, g5, g6, .inr ⟨id, b, rfl, rfl, hro, hp0, g1, rfl, l1, l2, g2, hu⟩⟩
 have hnewid : ∀ id x, ulook u id = some (some x) → id = f ∧ x = .row r := by
  intro id x e
  rcases hv with ⟨_, _, _, _, rfl⟩ | ⟨id0, _, hro, rfl, _, _⟩
  ·obtain ⟨e1, e2⟩ := Zs e
   injection e2 with e2
   exact ⟨e1, e2⟩
  have hne : id0 ≠ f := by
   intro e3
   subst e3
   obtain ⟨q, hq⟩ := (h.ck id0 _ (Zf hro)).place
   rw [h.fr id0 hf] at hq
   cases hq
  exact (Zfk hne).2 id x e
 obtain ⟨t, ht, hrun⟩ := Z7r (P := P) (w := w) hA hxv hyv
 by_cases hq0 : rlen q = 0
 ·-- nothing comes
  have hr0 : (Builtin.append_ #[t, t] o.type #[.slice A (rlen p) cap, .slice B (rlen q) c2]).run P w = .ok (.slice A (rlen p) cap) w := by
   rw [hq0]
   exact Zdb ht hi A B _ _ _ hcap
  rw [hr0] at hrun
  refine Zx hrun ?_
  have hrl : rlen r = rlen p := by omega
  have hrp : ∀ PL' w' Av', RP PL' w' Av' p cs.toList → RP PL' w' Av' r cs.toList := fun PL' w' Av' hh => hh.congr (by omega) s1 (fun i hi => s5 i (by omega))
  have m := Mv.take (PL := PL) h.toHSat f hf hk ⟨A, rlen p, cap, p.sz, []⟩ u w rfl rfl rfl rfl (fun id x e => (hnewid id x e).1) (fun id x e => by rw [(hnewid id x e).2]; exact fun _ _ h => h) (by
   rcases hcase with ⟨hn, _⟩ | ⟨id, b, g1, g2, g3, g4, g5, g6, g7, g8, g9, g10⟩
   ·exact .inl hn
   refine .inr ⟨id, _, p0, b, Zf g3, ?_, g4, g5, g1⟩
   rw [g10]
   refine (Zfk ?_).1
   intro e3
   subst e3
   rw [h.fr id hf] at g4
   cases g4) (fun b _ => rfl)
  have t' := h.toHSat.tr m
  have H := h.toHSat.mv m (fun id c hu' => by
   obtain ⟨rfl, rfl⟩ := hnewid id c hu'
   rcases hcase with ⟨hn, hc0⟩ | ⟨id', b, g1, g2, g3, g4, g5, g6, g7, g8, g9, g10⟩
   ·exact Z54 (Zg _ _ _) (by simp only []; omega) s1.symm (by omega) hn hc0 (by omega)
   exact Z15 (Zg _ _ _) (by simp only []; omega) s1.symm (by omega) g1 (by rw [s3]; exact g9) (by simp only []; omega) hcm (by rw [hcs, s1]) (hrp _ _ _ (hprp.mono fun _ _ d => d.tr t')))
  exact ⟨_, h.mv H t' o.dst _ _ fun v hv => by injection hv with hv; subst hv; exact .wsl f _ (Zg _ _ _)⟩
 -- something comes
 obtain ⟨ad, rfl⟩ := Option.isSome_iff_exists.1 (hBs (by omega))
 have hnews : ∀ j u, news[j]? = some u → w.cell? (ad.add j) = some u := hnc ad rfl
 have hnl' : news.length = rlen q * i.size := by rw [hnl, s2, hisz]
 by_cases hroom : rlen p + rlen q ≤ cap
 ·-- there is room
  rcases hcase with ⟨_, hc0⟩ | ⟨id, b, g1, g2, g3, g4, g5, g6, g7, g8, g9, g10⟩
  ·omega
  subst g1
  have hfit : rlen p * i.size + news.length ≤ cs.size := by rw [hnl', hcs, hisz, ← Nat.add_mul]; exact Nat.mul_le_mul_right _ hroom
  have hr1 := run_append_room (P := P) w t o.type e i ht hi b (rlen p) cap cs (by rw [← hT, ← hpT]; exact g9) ad (rlen q) c2 news hnl' hnews hn1 hroom hfit
  rw [hr1] at hrun
  refine Zx hrun ?_
  have hne : id ≠ f := by
   intro e3
   subst e3
   rw [h.fr id hf] at g4
   cases g4
  have m := Mv.take (PL := PL) h.toHSat f hf hk ⟨some ⟨b, 0, none⟩, rlen p + rlen q, cap, p.sz, []⟩ u (w.setRow b (cs.toList.take (rlen p * i.size) ++ news ++ cs.toList.drop (rlen p * i.size + news.length)).toArray) rfl rfl rfl (Z7v _ _ _) (fun id x e => (hnewid id x e).1) (fun id x e => by rw [(hnewid id x e).2]; exact fun _ _ h => h)
   (.inr ⟨id, _, p0, b, Zf g3, by rw [g10]; exact (Zfk hne).1, g4, g5, rfl⟩) (fun k hk2 => Z55 _ _ _ _ (fun e => hk2 (by rw [e])))
  have t' := h.toHSat.tr m
  have H := h.toHSat.mv m (fun id' c hu' => by
   obtain ⟨rfl, rfl⟩ := hnewid id' c hu'
   refine Z15 (Zg _ _ _) (by simp only []; omega) s1.symm (by omega) rfl (by rw [s3]; exact Z2s _ _ _ _ _ _ g9) (by simp only []; omega) hcm ?_ ?_
   ·have hA2 := hnl'
    simp only [List.size_toArray, List.length_append, List.length_take, List.length_drop, Array.length_toList, s1]
    rw [← hcs]
    omega
   have c1 := ((hprp.mono fun _ _ d => d.tr t').take).cat (hnrp.mono fun _ _ d => d.tr t') (by simp; rw [hcs]; exact Nat.min_eq_left (Nat.mul_le_mul_right _ hcap)) hr
   have := c1.append (cs.toList.drop (rlen p * i.size + news.length))
   rw [hisz] at this ⊢
   simpa using this)
  exact ⟨_, h.mv H t' o.dst _ _ fun v hv => by injection hv with hv; subst hv; exact .wsl f _ (Zg _ _ _)⟩
 -- it grows
 have hge := grownCap_ge w (rlen p + rlen q) cap e
 have hgm : grownCap w (rlen p + rlen q) cap e ≤ maxLen := grownCap_le_maxLen w _ _ _ (by unfold maxLen; omega)
 have holds : ∃ olds : List Value, olds.length = rlen p * i.size ∧ RP PL w (Avo C PL s.hp) p olds ∧ (Builtin.append_ #[t, t] o.type #[.slice A (rlen p) cap, .slice (some ad) (rlen q) c2]).run P w =
   .ok (.slice (some ⟨w.heap.size, 0, none⟩) (rlen p + rlen q) (grownCap w (rlen p + rlen q) cap e)) (w.drew.alloc (.cells (olds.toArray ++ news.toArray ++ Builtin.zeroCells z0.cells (grownCap w (rlen p + rlen q) cap e - (rlen p + rlen q))) e)) := by
  rcases hcase with ⟨rfl, hc0⟩ | ⟨id, b, g1, g2, g3, g4, g5, g6, g7, g8, g9, g10⟩
  ·have hp0 : rlen p = 0 := by omega
   refine ⟨[], by simp [hp0], RP.nil hp0, ?_⟩
   have := run_append_nil (P := P) w t o.type e i z0 ht hi hz0 ad (rlen q) c2 news hnl' hnews (by omega) (by omega) (by rw [hp0] at hbN; simp at hbN; omega)
   rw [hp0, hc0]
   simpa using this
  subst g1
  refine ⟨cs.toList.take (rlen p * p.sz), ?_, hprp.take, ?_⟩
  ·rw [hisz]
   simp
   rw [hcs]
   exact Nat.min_eq_left (Nat.mul_le_mul_right _ hcap)
  refine run_append_grow (P := P) w t o.type e i z0 ht hi hz0 ⟨b, 0, none⟩ (rlen p) cap (cs.toList.take (rlen p * p.sz)) ?_ ?_ ad (rlen q) c2 news hnl' hnews (by omega) (by omega) (growslice_fits (by omega) hbN)
  ·rw [hisz]
   simp
   rw [hcs]
   exact Nat.min_eq_left (Nat.mul_le_mul_right _ hcap)
  intro j u hu
  rw [Zo, Nat.zero_add, cell_of_row w b j cs p.T (0, 0) g9]
  rw [List.getElem?_take] at hu
  split at hu
  ·simpa using hu
  cases hu
 obtain ⟨olds, hol, horp, hr1⟩ := holds
 rw [hr1] at hrun
 refine Zdl h hf hk (r := r) (len := rlen p + rlen q) (cap := grownCap w (rlen p + rlen q) cap e) (cs := olds.toArray ++ news.toArray ++ Builtin.zeroCells z0.cells (grownCap w (rlen p + rlen q) cap e - (rlen p + rlen q))) (by omega) (by omega) hge hgm ?_
  (w' := w.drew.alloc (.cells (olds.toArray ++ news.toArray ++ Builtin.zeroCells z0.cells (grownCap w (rlen p + rlen q) cap e - (rlen p + rlen q))) e)) ?_ rfl rfl rfl u hnewid ?_ hrun
 ·have hzs : z0.cells.size = rk.sz := by have := Z47 rk; rw [← hzv] at this; simpa using this
  simp only [Array.size_append, List.size_toArray, size_zeroCells, hzs, hol, hnl', s1]
  rw [hisz, hpsz, ← Nat.add_mul, ← Nat.add_mul]
  congr 1
  omega
 ·rw [s3, hpT, hT]; rfl
 have := (horp.cat hnrp (by rw [hol, hisz]) hr).append (Builtin.zeroCells z0.cells (grownCap w (rlen p + rlen q) cap e - (rlen p + rlen q))).toList
 simpa using this
end
end Go.Proofs.Ytojbpjcfdjakkaa
end
