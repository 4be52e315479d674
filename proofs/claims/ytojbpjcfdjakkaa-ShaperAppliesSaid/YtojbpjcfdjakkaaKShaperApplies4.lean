/-
  Texts that the row of this claim stands on, one behind the other.
-/
import Derived.Test.YtojbpjcfdjakkaaProg
import Derived.Test.YtojbpjcfdjakkaaKShaperApplies1
import Derived.Test.YtojbpjcfdjakkaaKShaperApplies2
import Derived.Test.YtojbpjcfdjakkaaKShaperApplies3
section
set_option linter.unusedVariables false
set_option linter.unusedSimpArgs false
namespace Go.Proofs.Ytojbpjcfdjakkaa
open Go.RowKit
noncomputable def Zd6 (a : List SV) (c : List Ck) : Option CEff := match a, c with
 | [(.rsl (.row 83 (.st [.str, (.int .u64), (.int .u64), (.int .u64), (.int .i64), .bool]) r1))], [] => some ⟨[lock Obl fun _ => ∃ r, lock cloneC r1 = some r], .many ((List D)) (fun r => lock cloneC r1 = some r) (fun u0 => (.wsl 0)) (fun u0 => [.to (.row (.row 83 (.st [.str, (.int .u64), (.int .u64), (.int .u64), (.int .i64), .bool]) u0))]), []⟩
 | _, _ => none
noncomputable def Zde : Con := ⟨[(some (.row 83 (.st [.str, (.int .u64), (.int .u64), (.int .u64), (.int .i64), .bool])))], fun a c => Zd6 a c, []⟩
noncomputable def Z9o (a : List SV) (c : List Ck) : Option CEff := match a, c with
 | [(.rsl (.row 96 (.st [(.int .i64), (.int .i64), (.int .i64)]) r1))], [] => some ⟨[lock Obl fun _ => ∃ r, lock cloneR r1 = some r], .many ((List D)) (fun r => lock cloneR r1 = some r) (fun u0 => (.wsl 0)) (fun u0 => [.to (.row (.row 96 (.st [(.int .i64), (.int .i64), (.int .i64)]) u0))]), []⟩
 | _, _ => none
noncomputable def Zcc : Con := ⟨[(some (.row 96 (.st [(.int .i64), (.int .i64), (.int .i64)])))], fun a c => Z9o a c, []⟩
noncomputable def Zc4 (a : List SV) (c : List Ck) : Option CEff := match a, c with
 | [(.rsl (.ints 46 .u64 l1))], [] => some ⟨[lock Obl fun _ => ∃ r, lock cloneU64 l1 = some r], .many ((List Int)) (fun r => lock cloneU64 l1 = some r) (fun u0 => (.wsl 0)) (fun u0 => [.to (.row (.ints 46 .u64 u0))]), []⟩
 | _, _ => none
noncomputable def Z99 : Con := ⟨[(some (.ints 46 .u64))], fun a c => Zc4 a c, []⟩
noncomputable def Zeq (a : List SV) (c : List Ck) : Option CEff := match a, c with
 | [.nsl, (.v (.int .i64 x1))], [] => some ⟨[lock Obl fun _ => ∃ r, lock growP x1 = some r], .many ((Unit) ⊕ (Unit)) (fun r => lock growP x1 = some r) (fun | (.inl _) => .nsl | (.inr _) => (.wsl 0)) (fun | (.inl _) => [] | (.inr _) => [.to (.row (.row 75 (.st [(.int .u64), (.int .i64), (.int .i64)]) ([] : List D)))]), []⟩
 | _, _ => none
noncomputable def Zi0 : Con := ⟨[], fun a c => Zeq a c, []⟩
noncomputable def Zcj (a : List SV) (c : List Ck) : Option CEff := match a, c with
 | [(.v (.int .i64 x1)), (.ptr 0 0)], [.blk 3 [(.v (.int .i64 x2))]] => some ⟨[lock Obl fun _ => ∃ r, lock Z14 x1 x2 = some r], .many (Bool) (fun r => lock Z14 x1 x2 = some r) (fun u0 => (.v (.bool u0))) (fun u0 => [.same]), [true]⟩
 | _, _ => none
noncomputable def Z9m : Con := ⟨[none], fun a c => Zcj a c, []⟩
noncomputable def Z9x (a : List SV) (c : List Ck) : Option CEff := match a, c with
 | [(.agg [(.str s1), (.v (.bool b1)), (.wsl 0), .nsl, (.v (.int .i64 x1))])], [.row (.row 83 (.st [.str, (.int .u64), (.int .u64), (.int .u64), (.int .i64), .bool]) r1)] => some ⟨[lock Obl fun _ => ∃ r, lock Z1i s1 b1 x1 r1 = some r], .many (Bool) (fun r => lock Z1i s1 b1 x1 r1 = some r) (fun u0 => (.v (.bool u0))) (fun u0 => [.same]), [true]⟩
 | _, _ => none
noncomputable def Z92 (a : List SV) (c : List Ck) : Option CEff := match a, c with
 | [(.agg [(.str s1), (.v (.bool b1)), .nsl, .nsl, (.v (.int .i64 x1))])], [] => some ⟨[lock Obl fun _ => ∃ r, lock Z3l s1 b1 x1 = some r], .many (Bool) (fun r => lock Z3l s1 b1 x1 = some r) (fun u0 => (.v (.bool u0))) (fun u0 => []), []⟩
 | _, _ => none
noncomputable def Zd3 (a : List SV) (c : List Ck) : Option CEff := match a, c with
 | [(.agg [(.str s1), (.v (.bool b1)), (.rsl (.row 83 (.st [.str, (.int .u64), (.int .u64), (.int .u64), (.int .i64), .bool]) r1)), (.rsl (.row 96 (.st [(.int .i64), (.int .i64), (.int .i64)]) r2)), (.v (.int .i64 x1))])], [] => some ⟨[lock Obl fun _ => ∃ r, lock Zz s1 b1 r1 r2 x1 = some r], .many (Bool) (fun r => lock Zz s1 b1 r1 r2 x1 = some r) (fun u0 => (.v (.bool u0))) (fun u0 => []), []⟩
 | _, _ => none
noncomputable def Z50 : Con := ⟨[none], fun a c => altC (Z9x a c) (altC (Z92 a c) (Zd3 a c)), []⟩
noncomputable def Zd9 (a : List SV) (c : List Ck) : Option CEff := match a, c with
 | [(.agg [(.str s1), (.v (.bool b1)), (.wsl 0), .nsl, (.v (.int .i64 x1))])], [.row (.row 83 (.st [.str, (.int .u64), (.int .u64), (.int .u64), (.int .i64), .bool]) r1)] => some ⟨[lock Obl fun _ => ∃ r, lock Z5b s1 b1 x1 r1 = some r], .many ((List D) × (List D)) (fun r => lock Z5b s1 b1 x1 r1 = some r) (fun | (u0, u1) => (.agg [(.str s1), (.v (.bool b1)), (.wsl 1), (.wsl 2), (.v (.int .i64 x1))])) (fun | (u0, u1) => [.same, .to (.row (.row 83 (.st [.str, (.int .u64), (.int .u64), (.int .u64), (.int .i64), .bool]) u0)), .to (.row (.row 96 (.st [(.int .i64), (.int .i64), (.int .i64)]) u1))]), [true]⟩
 | _, _ => none
noncomputable def Zar (a : List SV) (c : List Ck) : Option CEff := match a, c with
 | [(.agg [(.str s1), (.v (.bool b1)), (.wsl 0), (.wsl 1), (.v (.int .i64 x1))])], [.row (.row 83 (.st [.str, (.int .u64), (.int .u64), (.int .u64), (.int .i64), .bool]) r1), .row (.row 96 (.st [(.int .i64), (.int .i64), (.int .i64)]) r2)] => some ⟨[lock Obl fun _ => ∃ r, lock Z4f s1 b1 x1 r1 r2 = some r], .many ((List D) × (List D)) (fun r => lock Z4f s1 b1 x1 r1 r2 = some r) (fun | (u0, u1) => (.agg [(.str s1), (.v (.bool b1)), (.wsl 2), (.wsl 3), (.v (.int .i64 x1))])) (fun | (u0, u1) => [.same, .same, .to (.row (.row 83 (.st [.str, (.int .u64), (.int .u64), (.int .u64), (.int .i64), .bool]) u0)), .to (.row (.row 96 (.st [(.int .i64), (.int .i64), (.int .i64)]) u1))]), [true, true]⟩
 | _, _ => none
noncomputable def Zex (a : List SV) (c : List Ck) : Option CEff := match a, c with
 | [(.agg [(.str s1), (.v (.bool b1)), (.rsl (.row 83 (.st [.str, (.int .u64), (.int .u64), (.int .u64), (.int .i64), .bool]) r1)), (.rsl (.row 96 (.st [(.int .i64), (.int .i64), (.int .i64)]) r2)), (.v (.int .i64 x1))])], [] => some ⟨[lock Obl fun _ => ∃ r, lock Z2m s1 b1 r1 r2 x1 = some r], .many ((List D) × (List D)) (fun r => lock Z2m s1 b1 r1 r2 x1 = some r) (fun | (u0, u1) => (.agg [(.str s1), (.v (.bool b1)), (.wsl 0), (.wsl 1), (.v (.int .i64 x1))])) (fun | (u0, u1) => [.to (.row (.row 83 (.st [.str, (.int .u64), (.int .u64), (.int .u64), (.int .i64), .bool]) u0)), .to (.row (.row 96 (.st [(.int .i64), (.int .i64), (.int .i64)]) u1))]), []⟩
 | _, _ => none
noncomputable def Z74 : Con := ⟨[none], fun a c => altC (Zd9 a c) (altC (Zar a c) (Zex a c)), []⟩
noncomputable def Z8p (a : List SV) (c : List Ck) : Option CEff := match a, c with
 | [(.v (.int .u64 x1)), (.v (.int .u64 x2))], [] => some ⟨[lock Obl fun _ => ∃ r, lock Z2h x1 x2 = some r], .many (Unit) (fun r => lock Z2h x1 x2 = some r) (fun _ => (.agg [(.v (.int .u64 x1)), (.v (.int .u64 x2)), (.v (.int .u64 x2))])) (fun _ => []), []⟩
 | _, _ => none
noncomputable def Zay : Con := ⟨[none, none], fun a c => Z8p a c, []⟩
noncomputable def Zgl (a : List SV) (c : List Ck) : Option CEff := match a, c with
 | [(.v (.int .i64 x1))], [] => some ⟨[lock Obl fun _ => ∃ r, lock Z2n x1 = some r], .many (Unit) (fun r => lock Z2n x1 = some r) (fun _ => (.ptr 0 0)) (fun _ => [.to (.blk 144 [(.v (.int .i64 x1)), .nsl, (.v (.int .i64 (0 : Int))), (.v (.int .i64 (0 : Int)))])]), []⟩
 | _, _ => none
noncomputable def Zfy : Con := ⟨[none], fun a c => Zgl a c, []⟩
noncomputable def Zbq (a : List SV) (c : List Ck) : Option CEff := match a, c with
 | [(.rsl (.ints 46 .u64 l1))], [] => some ⟨[lock Obl fun _ => ∃ r, lock Z1x l1 = some r], .many ((List Int) × (List Int)) (fun r => lock Z1x l1 = some r) (fun | (u0, u1) => (.ptr 0 0)) (fun | (u0, u1) => [.to (.blk 169 [(.wsl 1), (.v (.int .i64 (0 : Int))), (.v (.bool false)), (.wsl 2)]), .to (.row (.ints 46 .u64 u0)), .to (.row (.ints 46 .u64 u1))]), []⟩
 | _, _ => none
noncomputable def Zb9 : Con := ⟨[(some (.ints 46 .u64))], fun a c => Zbq a c, []⟩
noncomputable def Zak (a : List SV) (c : List Ck) : Option CEff := match a, c with
 | [(.ptr 0 0), (.agg [(.str s1), (.v (.bool b1)), (.wsl 1), .nsl, (.v (.int .i64 x1))])], [.blk 92 [(.str s2), (.v (.bool b2)), .nsl, .nsl, (.v (.int .i64 x2)), (.v (.int .u64 x3)), .nsl, (.v (.pointer none))], .row (.row 83 (.st [.str, (.int .u64), (.int .u64), (.int .u64), (.int .i64), .bool]) r1)] => some ⟨[lock Obl fun _ => ∃ r, lock Z4r s1 b1 x1 s2 b2 x2 x3 r1 = some r], .many ((List D) × (List D) × Nat × (List D) × (List Int) × (List Int)) (fun r => lock Z4r s1 b1 x1 s2 b2 x2 x3 r1 = some r) (fun | (u0, u1, u2, u3, u4, u5) => (.tup [])) (fun | (u0, u1, u2, u3, u4, u5) => [.to (.blk 92 [(.str s1), (.v (.bool b1)), (.wsl 2), (.wsl 3), (.v (.int .i64 x1)), (.v (.int .u64 x3)), (.wsl 4), (.ptr 5 0)]), .same, .to (.row (.row 83 (.st [.str, (.int .u64), (.int .u64), (.int .u64), (.int .i64), .bool]) u0)), .to (.row (.row 96 (.st [(.int .i64), (.int .i64), (.int .i64)]) u1)), .to (.prow 98 tm98 u2 6), .to (.blk 169 [(.wsl 7), (.v (.int .i64 (0 : Int))), (.v (.bool false)), (.wsl 8)]), .to (.gho tm98 u3 none), .to (.row (.ints 46 .u64 u4)), .to (.row (.ints 46 .u64 u5))]), [false, true]⟩
 | _, _ => none
noncomputable def Zdw (a : List SV) (c : List Ck) : Option CEff := match a, c with
 | [(.ptr 0 0), (.agg [(.str s1), (.v (.bool b1)), (.rsl (.row 83 (.st [.str, (.int .u64), (.int .u64), (.int .u64), (.int .i64), .bool]) r1)), (.rsl (.row 96 (.st [(.int .i64), (.int .i64), (.int .i64)]) r2)), (.v (.int .i64 x1))])], [.blk 92 [(.str s2), (.v (.bool b2)), .nsl, .nsl, (.v (.int .i64 x2)), (.v (.int .u64 x3)), .nsl, (.v (.pointer none))]] => some ⟨[lock Obl fun _ => ∃ r, lock Z49 s1 b1 r1 r2 x1 s2 b2 x2 x3 = some r], .many ((List D) × (List D) × Nat × (List D) × (List Int) × (List Int)) (fun r => lock Z49 s1 b1 r1 r2 x1 s2 b2 x2 x3 = some r) (fun | (u0, u1, u2, u3, u4, u5) => (.tup [])) (fun | (u0, u1, u2, u3, u4, u5) => [.to (.blk 92 [(.str s1), (.v (.bool b1)), (.wsl 1), (.wsl 2), (.v (.int .i64 x1)), (.v (.int .u64 x3)), (.wsl 3), (.ptr 4 0)]), .to (.row (.row 83 (.st [.str, (.int .u64), (.int .u64), (.int .u64), (.int .i64), .bool]) u0)), .to (.row (.row 96 (.st [(.int .i64), (.int .i64), (.int .i64)]) u1)), .to (.prow 98 tm98 u2 5), .to (.blk 169 [(.wsl 6), (.v (.int .i64 (0 : Int))), (.v (.bool false)), (.wsl 7)]), .to (.gho tm98 u3 none), .to (.row (.ints 46 .u64 u4)), .to (.row (.ints 46 .u64 u5))]), [false]⟩
 | _, _ => none
noncomputable def Ze8 (a : List SV) (c : List Ck) : Option CEff := match a with
 | [(.ptr 0 0), (.agg [(.str s1), (.v (.bool b1)), (.rsl (.row 83 (.st [.str, (.int .u64), (.int .u64), (.int .u64), (.int .i64), .bool]) r1)), (.rsl (.row 96 (.st [(.int .i64), (.int .i64), (.int .i64)]) r2)), (.v (.int .i64 x1))])] => (match c with | [g0, g1, g2, g3, g4, g5, g6, g7] => (match g0 with | .blk 92 [(.str s2), (.v (.bool b2)), (.wsl 1), (.wsl 2), (.v (.int .i64 x2)), (.v (.int .u64 x3)), (.wsl 3), (.ptr 4 0)] => (match g1 with | .row (.row 83 (.st [.str, (.int .u64), (.int .u64), (.int .u64), (.int .i64), .bool]) r3) => (match g2 with | .row (.row 96 (.st [(.int .i64), (.int .i64), (.int .i64)]) r4) => (match g3 with | .prow 98 w1 n1 5 => (match g4 with | .blk 169 [(.wsl 6), (.v (.int .i64 x4)), (.v (.bool b3)), (.wsl 7)] => (match g5 with | .gho w2 r5 none => (match g6 with | .row (.ints 46 .u64 l1) => (match g7 with | .row (.ints 46 .u64 l2) => (match Tm.eq tm98 w1 && Tm.eq tm98 w2 with | false => none | true => some ⟨[lock Obl fun _ => ∃ r, lock Z2w s1 b1 r1 r2 x1 s2 b2 x2 x3 r3 r4 n1 x4 b3 r5 l1 l2 = some r], .many ((List D) × (List D) × Nat × (List D) × (List Int) × (List Int)) (fun r => lock Z2w s1 b1 r1 r2 x1 s2 b2 x2 x3 r3 r4 n1 x4 b3 r5 l1 l2 = some r) (fun | (u0, u1, u2, u3, u4, u5) => (.tup [])) (fun | (u0, u1, u2, u3, u4, u5) => [.to (.blk 92 [(.str s1), (.v (.bool b1)), (.wsl 8), (.wsl 9), (.v (.int .i64 x1)), (.v (.int .u64 x3)), (.wsl 10), (.ptr 11 0)]), .same, .same, .same, .same, .same, .same, .same, .to (.row (.row 83 (.st [.str, (.int .u64), (.int .u64), (.int .u64), (.int .i64), .bool]) u0)), .to (.row (.row 96 (.st [(.int .i64), (.int .i64), (.int .i64)]) u1)), .to (.prow 98 tm98 u2 12), .to (.blk 169 [(.wsl 13), (.v (.int .i64 (0 : Int))), (.v (.bool false)), (.wsl 14)]), .to (.gho tm98 u3 none), .to (.row (.ints 46 .u64 u4)), .to (.row (.ints 46 .u64 u5))]), [false, true, true, true, true, true, true, true]⟩) | _ => none) | _ => none) | _ => none) | _ => none) | _ => none) | _ => none) | _ => none) | _ => none) | _ => none)
 | _ => none
noncomputable def Z77 : Con := ⟨[none, none], fun a c => altC (Zak a c) (altC (Zdw a c) (Ze8 a c)), []⟩
noncomputable def Z9c (a : List SV) (c : List Ck) : Option CEff := match a, c with
 | [(.agg [(.str s1), (.v (.bool b1)), (.wsl 0), .nsl, (.v (.int .i64 x1))])], [.row (.row 83 (.st [.str, (.int .u64), (.int .u64), (.int .u64), (.int .i64), .bool]) r1)] => some ⟨[lock Obl fun _ => ∃ r, lock Z3y s1 b1 x1 r1 = some r], .many ((Unit) ⊕ ((List D) × (List D) × Nat × (List D) × (List Int) × (List Int))) (fun r => lock Z3y s1 b1 x1 r1 = some r) (fun | (.inl _) => (.v (.pointer none)) | (.inr (u0, u1, u2, u3, u4, u5)) => (.ptr 1 0)) (fun | (.inl _) => [.same] | (.inr (u0, u1, u2, u3, u4, u5)) => [.same, .to (.blk 92 [(.str s1), (.v (.bool b1)), (.wsl 2), (.wsl 3), (.v (.int .i64 x1)), (.v (.int .u64 (0 : Int))), (.wsl 4), (.ptr 5 0)]), .to (.row (.row 83 (.st [.str, (.int .u64), (.int .u64), (.int .u64), (.int .i64), .bool]) u0)), .to (.row (.row 96 (.st [(.int .i64), (.int .i64), (.int .i64)]) u1)), .to (.prow 98 tm98 u2 6), .to (.blk 169 [(.wsl 7), (.v (.int .i64 (0 : Int))), (.v (.bool false)), (.wsl 8)]), .to (.gho tm98 u3 none), .to (.row (.ints 46 .u64 u4)), .to (.row (.ints 46 .u64 u5))]), [true]⟩
 | _, _ => none
noncomputable def Z9e (a : List SV) (c : List Ck) : Option CEff := match a, c with
 | [(.agg [(.str s1), (.v (.bool b1)), (.rsl (.row 83 (.st [.str, (.int .u64), (.int .u64), (.int .u64), (.int .i64), .bool]) r1)), (.rsl (.row 96 (.st [(.int .i64), (.int .i64), (.int .i64)]) r2)), (.v (.int .i64 x1))])], [] => some ⟨[lock Obl fun _ => ∃ r, lock Z2q s1 b1 r1 r2 x1 = some r], .many ((Unit) ⊕ ((List D) × (List D) × Nat × (List D) × (List Int) × (List Int))) (fun r => lock Z2q s1 b1 r1 r2 x1 = some r) (fun | (.inl _) => (.v (.pointer none)) | (.inr (u0, u1, u2, u3, u4, u5)) => (.ptr 0 0)) (fun | (.inl _) => [] | (.inr (u0, u1, u2, u3, u4, u5)) => [.to (.blk 92 [(.str s1), (.v (.bool b1)), (.wsl 1), (.wsl 2), (.v (.int .i64 x1)), (.v (.int .u64 (0 : Int))), (.wsl 3), (.ptr 4 0)]), .to (.row (.row 83 (.st [.str, (.int .u64), (.int .u64), (.int .u64), (.int .i64), .bool]) u0)), .to (.row (.row 96 (.st [(.int .i64), (.int .i64), (.int .i64)]) u1)), .to (.prow 98 tm98 u2 5), .to (.blk 169 [(.wsl 6), (.v (.int .i64 (0 : Int))), (.v (.bool false)), (.wsl 7)]), .to (.gho tm98 u3 none), .to (.row (.ints 46 .u64 u4)), .to (.row (.ints 46 .u64 u5))]), []⟩
 | _, _ => none
noncomputable def Z8h : Con := ⟨[none], fun a c => altC (Z9c a c) (Z9e a c), []⟩
noncomputable def Zfg (a : List SV) (c : List Ck) : Option CEff := match a, c with
 | [(.agg [(.v (.int .i64 x1)), (.v (.int .i64 x2)), (.v (.int .i64 x3))]), (.ptr 0 0)], [.blk 3 [(.v (.int .i64 x4))]] => some ⟨[lock Obl fun _ => ∃ r, lock Z3g x1 x2 x3 x4 = some r], .many (Bool) (fun r => lock Z3g x1 x2 x3 x4 = some r) (fun u0 => (.v (.bool u0))) (fun u0 => [.same]), [true]⟩
 | _, _ => none
noncomputable def Z8z : Con := ⟨[none], fun a c => Zfg a c, []⟩
noncomputable def Zfe (a : List SV) (c : List Ck) : Option CEff := match a, c with
 | [(.rsl (.row 96 (.st [(.int .i64), (.int .i64), (.int .i64)]) r1)), (.fn 81 [(.ptr 0 0)])], [.blk 3 [(.v (.int .i64 x1))]] => some ⟨[lock Obl fun _ => ∃ r, lock Z2i r1 x1 = some r], .many (Int) (fun r => lock Z2i r1 x1 = some r) (fun u0 => (.v (.int .i64 u0))) (fun u0 => [.same]), [true]⟩
 | _, _ => none
noncomputable def Z9p : Con := ⟨[(some (.row 96 (.st [(.int .i64), (.int .i64), (.int .i64)]))), none], fun a c => Zfe a c, []⟩
noncomputable def Z9j (a : List SV) (c : List Ck) : Option CEff := match a, c with
 | [(.agg [(.wsl 0), (.v (.int .i64 x1))]), (.v (.int .i64 x2))], [.row (.row 96 (.st [(.int .i64), (.int .i64), (.int .i64)]) r1)] => some ⟨[lock Obl fun _ => ∃ r, lock Z35 x1 x2 r1 = some r], .many (Int) (fun r => lock Z35 x1 x2 r1 = some r) (fun u0 => (.v (.int .i64 u0))) (fun u0 => [.same]), [true]⟩
 | _, _ => none
noncomputable def Zfc (a : List SV) (c : List Ck) : Option CEff := match a, c with
 | [(.agg [(.rsl (.row 96 (.st [(.int .i64), (.int .i64), (.int .i64)]) r1)), (.v (.int .i64 x1))]), (.v (.int .i64 x2))], [] => some ⟨[lock Obl fun _ => ∃ r, lock Z36 r1 x1 x2 = some r], .many (Int) (fun r => lock Z36 r1 x1 x2 = some r) (fun u0 => (.v (.int .i64 u0))) (fun u0 => []), []⟩
 | _, _ => none
noncomputable def Z7a : Con := ⟨[none, none], fun a c => altC (Z9j a c) (Zfc a c), []⟩
noncomputable def Zbn (a : List SV) (c : List Ck) : Option CEff := match a, c with
 | [(.ptr 0 0)], [.blk 144 [(.v (.int .i64 x1)), (.wsl 1), (.v (.int .i64 x2)), (.v (.int .i64 x3))], .row (.row 75 (.st [(.int .u64), (.int .i64), (.int .i64)]) r1)] => some ⟨[lock Obl fun _ => ∃ r, lock Z4g x1 x2 x3 r1 = some r], .many ((List D)) (fun r => lock Z4g x1 x2 x3 r1 = some r) (fun u0 => (.tup [])) (fun u0 => [.to (.blk 144 [(.v (.int .i64 x1)), (.wsl 2), (.v (.int .i64 (0 : Int))), (.v (.int .i64 x3))]), .same, .to (.row (.row 75 (.st [(.int .u64), (.int .i64), (.int .i64)]) u0))]), [false, true]⟩
 | _, _ => none
noncomputable def Zau : Con := ⟨[none], fun a c => Zbn a c, []⟩
noncomputable def Z94 (a : List SV) (c : List Ck) : Option CEff := match a, c with
 | [(.ptr 0 0), (.v (.int .i64 x1))], [.blk 144 [(.v (.int .i64 x2)), (.wsl 1), (.v (.int .i64 x3)), (.v (.int .i64 x4))], .row (.row 75 (.st [(.int .u64), (.int .i64), (.int .i64)]) r1)] => some ⟨[lock Obl fun _ => ∃ r, lock Z1m x1 x2 x3 x4 r1 = some r], .many (Int) (fun r => lock Z1m x1 x2 x3 x4 r1 = some r) (fun u0 => (.v (.int .i64 u0))) (fun u0 => [.same, .same]), [true, true]⟩
 | _, _ => none
noncomputable def Z5u : Con := ⟨[none, none], fun a c => Z94 a c, []⟩
noncomputable def Zg9 (a : List SV) (c : List Ck) : Option CEff := match a, c with
 | [(.ptr 0 0), (.agg [(.v (.int .u64 x1)), (.v (.int .i64 x2)), (.v (.int .i64 x3))])], [.blk 144 [(.v (.int .i64 x4)), (.wsl 1), (.v (.int .i64 x5)), (.v (.int .i64 x6))], .row (.row 75 (.st [(.int .u64), (.int .i64), (.int .i64)]) r1)] => some ⟨[lock Obl fun _ => ∃ r, lock Z2j x1 x2 x3 x4 x5 x6 r1 = some r], .many (Int × Int × (List D)) (fun r => lock Z2j x1 x2 x3 x4 x5 x6 r1 = some r) (fun | (u0, u1, u2) => (.tup [])) (fun | (u0, u1, u2) => [.to (.blk 144 [(.v (.int .i64 x4)), (.wsl 2), (.v (.int .i64 u0)), (.v (.int .i64 u1))]), .gone, .to (.row (.row 75 (.st [(.int .u64), (.int .i64), (.int .i64)]) u2))]), [false, false]⟩
 | _, _ => none
noncomputable def Z83 : Con := ⟨[none, none], fun a c => Zg9 a c, []⟩
noncomputable def Zbp (a : List SV) (c : List Ck) : Option CEff := match a, c with
 | [(.ptr 0 0), (.agg [(.v (.int .u64 x1)), (.v (.int .i64 x2)), (.v (.int .i64 x3))])], [.blk 144 [(.v (.int .i64 x4)), (.wsl 1), (.v (.int .i64 x5)), (.v (.int .i64 x6))], .row (.row 75 (.st [(.int .u64), (.int .i64), (.int .i64)]) r1)] => some ⟨[lock Obl fun _ => ∃ r, lock Z1j x1 x2 x3 x4 x5 x6 r1 = some r], .many (Bool × Int × Int × (List D)) (fun r => lock Z1j x1 x2 x3 x4 x5 x6 r1 = some r) (fun | (u0, u1, u2, u3) => (.v (.bool u0))) (fun | (u0, u1, u2, u3) => [.to (.blk 144 [(.v (.int .i64 x4)), (.wsl 2), (.v (.int .i64 u1)), (.v (.int .i64 u2))]), .gone, .to (.row (.row 75 (.st [(.int .u64), (.int .i64), (.int .i64)]) u3))]), [false, false]⟩
 | _, _ => none
noncomputable def Zc6 : Con := ⟨[none, none], fun a c => Zbp a c, []⟩
noncomputable def Zd4 (a : List SV) (c : List Ck) : Option CEff := match a with
 | [(.ptr 0 0), (.v (.int .i64 x1)), (.v (.int .i64 x2))] => (match c with | [g0, g1, g2, g3, g4, g5, g6, g7] => (match g0 with | .blk 92 [(.str s1), (.v (.bool b1)), (.wsl 1), (.wsl 2), (.v (.int .i64 x3)), (.v (.int .u64 x4)), (.wsl 3), (.ptr 4 0)] => (match g1 with | .row (.row 83 (.st [.str, (.int .u64), (.int .u64), (.int .u64), (.int .i64), .bool]) r1) => (match g2 with | .row (.row 96 (.st [(.int .i64), (.int .i64), (.int .i64)]) r2) => (match g3 with | .prow 98 w1 n1 5 => (match g4 with | .blk 169 [(.wsl 6), (.v (.int .i64 x5)), (.v (.bool b2)), (.wsl 7)] => (match g5 with | .gho w2 r3 none => (match g6 with | .row (.ints 46 .u64 l1) => (match g7 with | .row (.ints 46 .u64 l2) => (match Tm.eq tm98 w1 && Tm.eq tm98 w2 with | false => none | true => some ⟨[lock Obl fun _ => ∃ r, lock Z10 x1 x2 s1 b1 x3 x4 r1 r2 n1 x5 b2 r3 l1 l2 = some r], .many (Int × Int × Int × Int × Int × (List D)) (fun r => lock Z10 x1 x2 s1 b1 x3 x4 r1 r2 n1 x5 b2 r3 l1 l2 = some r) (fun | (u0, u1, u2, u3, u4, u5) => (.tup [(.agg [(.v (.int .u64 u0)), (.v (.int .i64 u1)), (.v (.int .i64 u2))]), (.v (.int .i64 u3))])) (fun | (u0, u1, u2, u3, u4, u5) => [.to (.blk 92 [(.str s1), (.v (.bool b1)), (.wsl 1), (.wsl 2), (.v (.int .i64 x3)), (.v (.int .u64 u4)), (.wsl 3), (.ptr 4 0)]), .same, .same, .to (.prow 98 tm98 n1 8), .same, .gone, .same, .same, .to (.gho tm98 u5 none)]), [false, true, true, false, true, false, true, true]⟩) | _ => none) | _ => none) | _ => none) | _ => none) | _ => none) | _ => none) | _ => none) | _ => none) | _ => none)
 | _ => none
noncomputable def Z81 : Con := ⟨[none, none, none], fun a c => Zd4 a c, []⟩
noncomputable def Z9b (a : List SV) (c : List Ck) : Option CEff := match a, c with
 | [(.ptr 0 0)], [.blk 144 [(.v (.int .i64 x1)), (.wsl 1), (.v (.int .i64 x2)), (.v (.int .i64 x3))], .row (.row 75 (.st [(.int .u64), (.int .i64), (.int .i64)]) r1)] => some ⟨[lock Obl fun _ => ∃ r, lock Z1g x1 x2 x3 r1 = some r], .many (Unit) (fun r => lock Z1g x1 x2 x3 r1 = some r) (fun _ => (.v (.int .i64 x3))) (fun _ => [.same, .same]), [true, true]⟩
 | _, _ => none
noncomputable def Z6i : Con := ⟨[none], fun a c => Z9b a c, []⟩
noncomputable def Zdz (a : List SV) (c : List Ck) : Option CEff := match a, c with
 | [(.ptr 0 0)], [.blk 144 [(.v (.int .i64 x1)), (.wsl 1), (.v (.int .i64 x2)), (.v (.int .i64 x3))], .row (.row 75 (.st [(.int .u64), (.int .i64), (.int .i64)]) r1)] => some ⟨[lock Obl fun _ => ∃ r, lock Z2a x1 x2 x3 r1 = some r], .many (Int × Int × Int × Bool) (fun r => lock Z2a x1 x2 x3 r1 = some r) (fun | (u0, u1, u2, u3) => (.tup [(.agg [(.v (.int .u64 u0)), (.v (.int .i64 u1)), (.v (.int .i64 u2))]), (.v (.bool u3))])) (fun | (u0, u1, u2, u3) => [.same, .same]), [true, true]⟩
 | _, _ => none
noncomputable def Z8b : Con := ⟨[none], fun a c => Zdz a c, []⟩
noncomputable def Zel (a : List SV) (c : List Ck) : Option CEff := match a with
 | [(.ptr 0 0), (.ptr 1 0)] => (match c with | [g0, g1, g2, g3, g4, g5, g6, g7, g8, g9, g10] => (match g0 with | .blk 92 [(.str s1), (.v (.bool b1)), (.wsl 2), (.wsl 3), (.v (.int .i64 x1)), (.v (.int .u64 x2)), (.wsl 4), (.ptr 5 0)] => (match g1 with | .blk 103 [(.str s2), (.v (.int .u64 x3)), (.v (.int .u64 x4)), (.v (.int .u64 x5)), (.v (.int .i64 x6)), (.v (.bool b2)), (.v (.int .u64 x7)), (.v (.int .u64 x8)), (.v (.int .u64 x9)), (.ptr 6 0)] => (match g2 with | .row (.row 83 (.st [.str, (.int .u64), (.int .u64), (.int .u64), (.int .i64), .bool]) r1) => (match g3 with | .row (.row 96 (.st [(.int .i64), (.int .i64), (.int .i64)]) r2) => (match g4 with | .prow 98 w1 n1 7 => (match g5 with | .blk 169 [(.wsl 8), (.v (.int .i64 x10)), (.v (.bool b3)), (.wsl 9)] => (match g6 with | .blk 144 [(.v (.int .i64 x11)), (.wsl 10), (.v (.int .i64 x12)), (.v (.int .i64 x13))] => (match g7 with | .gho w2 r3 (some (n2, [(.ptr 1 0)])) => (match g8 with | .row (.ints 46 .u64 l1) => (match g9 with | .row (.ints 46 .u64 l2) => (match g10 with | .row (.row 75 (.st [(.int .u64), (.int .i64), (.int .i64)]) r4) => (match Tm.eq tm98 w1 && Tm.eq tm98 w2 with | false => none | true => some ⟨[lock Obl fun _ => ∃ r, lock Z4c s1 b1 x1 x2 s2 x3 x4 x5 x6 b2 x7 x8 x9 r1 r2 n1 x10 b3 x11 x12 x13 r3 n2 l1 l2 r4 = some r], .many (Int × Bool) (fun r => lock Z4c s1 b1 x1 x2 s2 x3 x4 x5 x6 b2 x7 x8 x9 r1 r2 n1 x10 b3 x11 x12 x13 r3 n2 l1 l2 r4 = some r) (fun | (u0, u1) => (.agg [(.v (.int .u64 u0)), (.v (.bool u1))])) (fun | (u0, u1) => [.same, .same, .same, .same, .same, .same, .same, .same, .same, .same, .same]), [true, true, true, true, true, true, true, true, true, true, true]⟩) | _ => none) | _ => none) | _ => none) | _ => none) | _ => none) | _ => none) | _ => none) | _ => none) | _ => none) | _ => none) | _ => none) | _ => none)
 | _ => none
noncomputable def Zaq : Con := ⟨[none, none], fun a c => Zel a c, []⟩
noncomputable def Z9r (a : List SV) (c : List Ck) : Option CEff := match a, c with
 | [(.ptr 0 0)], [.blk 169 [(.wsl 1), (.v (.int .i64 x1)), (.v (.bool b1)), (.wsl 2)], .row (.ints 46 .u64 l1), .row (.ints 46 .u64 l2)] => some ⟨[lock Obl fun _ => ∃ r, lock Z1q x1 b1 l1 l2 = some r], .many (Int) (fun r => lock Z1q x1 b1 l1 l2 = some r) (fun u0 => (.tup [])) (fun u0 => [.to (.blk 169 [(.wsl 1), (.v (.int .i64 u0)), (.v (.bool false)), (.wsl 2)]), .same, .same]), [false, true, true]⟩
 | _, _ => none
noncomputable def Z9t : Con := ⟨[none], fun a c => Z9r a c, []⟩
noncomputable def Z8q (a : List SV) (c : List Ck) : Option CEff := match a, c with
 | [(.v (.int .u64 x1)), (.v (.int .u64 x2))], [] => some ⟨[lock Obl fun _ => ∃ r, lock Z1w x1 x2 = some r], .many (Int) (fun r => lock Z1w x1 x2 = some r) (fun u0 => (.v (.int .u64 u0))) (fun u0 => []), []⟩
 | _, _ => none
noncomputable def Z73 : Con := ⟨[none, none], fun a c => Z8q a c, []⟩
noncomputable def Zfm (a : List SV) (c : List Ck) : Option CEff := match a, c with
 | [(.ptr 0 0), (.agg [(.v (.int .u64 x1)), (.v (.bool b1))])], [.blk 169 [(.wsl 1), (.v (.int .i64 x2)), (.v (.bool b2)), (.wsl 2)], .row (.ints 46 .u64 l1), .row (.ints 46 .u64 l2)] => some ⟨[lock Obl fun _ => ∃ r, lock Z2x x1 b1 x2 b2 l1 l2 = some r], .many (Bool × Int × Bool × (List Int)) (fun r => lock Z2x x1 b1 x2 b2 l1 l2 = some r) (fun | (u0, u1, u2, u3) => (.v (.bool u0))) (fun | (u0, u1, u2, u3) => [.to (.blk 169 [(.wsl 1), (.v (.int .i64 u1)), (.v (.bool u2)), (.wsl 2)]), .same, .to (.row (.ints 46 .u64 u3))]), [false, true, false]⟩
 | _, _ => none
noncomputable def Zgo : Con := ⟨[none, none], fun a c => Zfm a c, []⟩
noncomputable def Zev (a : List SV) (c : List Ck) : Option CEff := match a, c with
 | [(.ptr 0 0), (.rsl (.row 133 (.st [(.int .u64), .bool]) r1))], [.blk 169 [(.wsl 1), (.v (.int .i64 x1)), (.v (.bool b1)), (.wsl 2)], .row (.ints 46 .u64 l1), .row (.ints 46 .u64 l2)] => some ⟨[lock Obl fun _ => ∃ r, lock Z32 r1 x1 b1 l1 l2 = some r], .many (Int × Int × Bool × (List Int)) (fun r => lock Z32 r1 x1 b1 l1 l2 = some r) (fun | (u0, u1, u2, u3) => (.v (.int .i64 u0))) (fun | (u0, u1, u2, u3) => [.to (.blk 169 [(.wsl 1), (.v (.int .i64 u1)), (.v (.bool u2)), (.wsl 2)]), .same, .to (.row (.ints 46 .u64 u3))]), [false, true, false]⟩
 | _, _ => none
noncomputable def Zet : Con := ⟨[none, (some (.row 133 (.st [(.int .u64), .bool])))], fun a c => Zev a c, []⟩
noncomputable def Zax (a : List SV) (c : List Ck) : Option CEff := match a, c with
 | [(.ptr 0 0)], [.blk 144 [(.v (.int .i64 x1)), (.wsl 1), (.v (.int .i64 x2)), (.v (.int .i64 x3))], .row (.row 75 (.st [(.int .u64), (.int .i64), (.int .i64)]) r1)] => some ⟨[lock Obl fun _ => ∃ r, lock Z1v x1 x2 x3 r1 = some r], .many (Int × Int × Int × Bool × Int × Int) (fun r => lock Z1v x1 x2 x3 r1 = some r) (fun | (u0, u1, u2, u3, u4, u5) => (.tup [(.agg [(.v (.int .u64 u0)), (.v (.int .i64 u1)), (.v (.int .i64 u2))]), (.v (.bool u3))])) (fun | (u0, u1, u2, u3, u4, u5) => [.to (.blk 144 [(.v (.int .i64 x1)), (.wsl 1), (.v (.int .i64 u4)), (.v (.int .i64 u5))]), .same]), [false, true]⟩
 | _, _ => none
noncomputable def Zfo : Con := ⟨[none], fun a c => Zax a c, []⟩
noncomputable def Zbu (a : List SV) (c : List Ck) : Option CEff := match a, c with
 | [(.agg [(.v (.int .u64 x1)), (.v (.int .u64 x2)), (.v (.int .u64 x3))]), (.v (.int .u64 x4))], [] => some ⟨[lock Obl fun _ => ∃ r, lock Z3x x1 x2 x3 x4 = some r], .many (Int × Bool) (fun r => lock Z3x x1 x2 x3 x4 = some r) (fun | (u0, u1) => (.tup [(.agg [(.v (.int .u64 x1)), (.v (.int .u64 x2)), (.v (.int .u64 u0))]), (.v (.bool u1))])) (fun | (u0, u1) => []), []⟩
 | _, _ => none
noncomputable def Ze1 : Con := ⟨[none, none], fun a c => Zbu a c, []⟩
noncomputable def Zbl (a : List SV) (c : List Ck) : Option CEff := match a with
 | [(.ptr 0 0)] => (match c with | [g0, g1, g2, g3, g4, g5, g6, g7] => (match g0 with | .blk 92 [(.str s1), (.v (.bool b1)), (.wsl 1), (.wsl 2), (.v (.int .i64 x1)), (.v (.int .u64 x2)), (.wsl 3), (.ptr 4 0)] => (match g1 with | .row (.row 83 (.st [.str, (.int .u64), (.int .u64), (.int .u64), (.int .i64), .bool]) r1) => (match g2 with | .row (.row 96 (.st [(.int .i64), (.int .i64), (.int .i64)]) r2) => (match g3 with | .prow 98 w1 n1 5 => (match g4 with | .blk 169 [(.wsl 6), (.v (.int .i64 x3)), (.v (.bool b2)), (.wsl 7)] => (match g5 with | .gho w2 r3 none => (match g6 with | .row (.ints 46 .u64 l1) => (match g7 with | .row (.ints 46 .u64 l2) => (match Tm.eq tm98 w1 && Tm.eq tm98 w2 with | false => none | true => some ⟨[lock Obl fun _ => ∃ r, lock Z13 s1 b1 x1 x2 r1 r2 n1 x3 b2 r3 l1 l2 = some r], .many (Int × Int × Int × (List UInt8) × Bool × Int × Bool × (List Int) × (List D)) (fun r => lock Z13 s1 b1 x1 x2 r1 r2 n1 x3 b2 r3 l1 l2 = some r) (fun | (u0, u1, u2, u3, u4, u5, u6, u7, u8) => (.tup [(.agg [(.v (.int .u64 u0)), (.v (.int .i64 u1)), (.v (.int .i64 u2))]), (.str u3), (.v (.bool u4))])) (fun | (u0, u1, u2, u3, u4, u5, u6, u7, u8) => [.same, .same, .same, .to (.prow 98 tm98 n1 8), .to (.blk 169 [(.wsl 6), (.v (.int .i64 u5)), (.v (.bool u6)), (.wsl 7)]), .gone, .same, .to (.row (.ints 46 .u64 u7)), .to (.gho tm98 u8 none)]), [true, true, true, false, false, false, true, false]⟩) | _ => none) | _ => none) | _ => none) | _ => none) | _ => none) | _ => none) | _ => none) | _ => none) | _ => none)
 | _ => none
noncomputable def Z7w : Con := ⟨[none], fun a c => Zbl a c, []⟩
noncomputable def Z9z (a : List SV) (c : List Ck) : Option CEff := match a, c with
 | [(.v (.int .u64 x1)), (.v (.int .u64 x2))], [] => some ⟨[lock Obl fun _ => ∃ r, lock Z4i x1 x2 = some r], .many (Int) (fun r => lock Z4i x1 x2 = some r) (fun u0 => (.v (.int .u64 u0))) (fun u0 => []), []⟩
 | _, _ => none
noncomputable def Zbg : Con := ⟨[none, none], fun a c => Z9z a c, []⟩
noncomputable def Z98 (a : List SV) (c : List Ck) : Option CEff := match a, c with
 | [(.v (.int .u64 x1)), (.v (.int .u64 x2)), (.v (.int .u64 x3)), (.v (.int .u64 x4))], [] => some ⟨[lock Obl fun _ => ∃ r, lock Z3j x1 x2 x3 x4 = some r], .many (Int) (fun r => lock Z3j x1 x2 x3 x4 = some r) (fun u0 => (.v (.int .u64 u0))) (fun u0 => []), []⟩
 | _, _ => none
noncomputable def Zc5 : Con := ⟨[none, none, none, none], fun a c => Z98 a c, []⟩
noncomputable def Zdv (a : List SV) (c : List Ck) : Option CEff := match a, c with
 | [(.agg [(.v (.int .u64 x1)), (.v (.int .u64 x2)), (.v (.int .u64 x3))]), (.v (.int .u64 x4))], [] => some ⟨[lock Obl fun _ => ∃ r, lock Z2r x1 x2 x3 x4 = some r], .many (Int) (fun r => lock Z2r x1 x2 x3 x4 = some r) (fun u0 => (.agg [(.v (.int .u64 x1)), (.v (.int .u64 x2)), (.v (.int .u64 u0))])) (fun u0 => []), []⟩
 | _, _ => none
noncomputable def Zgb : Con := ⟨[none, none], fun a c => Zdv a c, []⟩
noncomputable def Zb6 (a : List SV) (c : List Ck) : Option CEff := match a with
 | [(.ptr 0 0), (.v (.int .u64 x1))] => (match c with | [g0, g1, g2, g3, g4, g5, g6, g7] => (match g0 with | .blk 92 [(.str s1), (.v (.bool b1)), (.wsl 1), (.wsl 2), (.v (.int .i64 x2)), (.v (.int .u64 x3)), (.wsl 3), (.ptr 4 0)] => (match g1 with | .row (.row 83 (.st [.str, (.int .u64), (.int .u64), (.int .u64), (.int .i64), .bool]) r1) => (match g2 with | .row (.row 96 (.st [(.int .i64), (.int .i64), (.int .i64)]) r2) => (match g3 with | .prow 98 w1 n1 5 => (match g4 with | .blk 169 [(.wsl 6), (.v (.int .i64 x4)), (.v (.bool b2)), (.wsl 7)] => (match g5 with | .gho w2 r3 none => (match g6 with | .row (.ints 46 .u64 l1) => (match g7 with | .row (.ints 46 .u64 l2) => (match Tm.eq tm98 w1 && Tm.eq tm98 w2 with | false => none | true => some ⟨[lock Obl fun _ => ∃ r, lock Z2p x1 s1 b1 x2 x3 r1 r2 n1 x4 b2 r3 l1 l2 = some r], .many ((List D)) (fun r => lock Z2p x1 s1 b1 x2 x3 r1 r2 n1 x4 b2 r3 l1 l2 = some r) (fun u0 => (.tup [])) (fun u0 => [.same, .same, .same, .to (.prow 98 tm98 n1 8), .same, .gone, .same, .same, .to (.gho tm98 u0 none)]), [true, true, true, false, true, false, true, true]⟩) | _ => none) | _ => none) | _ => none) | _ => none) | _ => none) | _ => none) | _ => none) | _ => none) | _ => none)
 | _ => none
noncomputable def Z8d : Con := ⟨[none, none], fun a c => Zb6 a c, []⟩
noncomputable def Zf4 (a : List SV) (c : List Ck) : Option CEff := match a with
 | [(.ptr 0 0)] => (match c with | [g0, g1, g2, g3, g4, g5, g6, g7] => (match g0 with | .blk 92 [(.str s1), (.v (.bool b1)), (.wsl 1), (.wsl 2), (.v (.int .i64 x1)), (.v (.int .u64 x2)), (.wsl 3), (.ptr 4 0)] => (match g1 with | .row (.row 83 (.st [.str, (.int .u64), (.int .u64), (.int .u64), (.int .i64), .bool]) r1) => (match g2 with | .row (.row 96 (.st [(.int .i64), (.int .i64), (.int .i64)]) r2) => (match g3 with | .prow 98 w1 n1 5 => (match g4 with | .blk 169 [(.wsl 6), (.v (.int .i64 x3)), (.v (.bool b2)), (.wsl 7)] => (match g5 with | .gho w2 r3 none => (match g6 with | .row (.ints 46 .u64 l1) => (match g7 with | .row (.ints 46 .u64 l2) => (match Tm.eq tm98 w1 && Tm.eq tm98 w2 with | false => none | true => some ⟨[lock Obl fun _ => ∃ r, lock Z1o s1 b1 x1 x2 r1 r2 n1 x3 b2 r3 l1 l2 = some r], .many (Int × (List D)) (fun r => lock Z1o s1 b1 x1 x2 r1 r2 n1 x3 b2 r3 l1 l2 = some r) (fun | (u0, u1) => (.v (.int .i64 u0))) (fun | (u0, u1) => [.same, .same, .same, .to (.prow 98 tm98 n1 8), .same, .gone, .same, .same, .to (.gho tm98 u1 none)]), [true, true, true, false, true, false, true, true]⟩) | _ => none) | _ => none) | _ => none) | _ => none) | _ => none) | _ => none) | _ => none) | _ => none) | _ => none)
 | _ => none
noncomputable def Z76 : Con := ⟨[none], fun a c => Zf4 a c, []⟩
noncomputable def Zg6 (a : List SV) (c : List Ck) : Option CEff := match a, c with
 | [(.agg [(.v (.int .i64 x1)), (.v (.bool b1)), (.wsl 0)])], [.row (.ints 46 .u64 l1)] => some ⟨[lock Obl fun _ => ∃ r, lock Z2k x1 b1 l1 = some r], .many ((List Int)) (fun r => lock Z2k x1 b1 l1 = some r) (fun u0 => (.agg [(.v (.int .i64 x1)), (.v (.bool b1)), (.wsl 1)])) (fun u0 => [.same, .to (.row (.ints 46 .u64 u0))]), [true]⟩
 | _, _ => none
noncomputable def Zdy (a : List SV) (c : List Ck) : Option CEff := match a, c with
 | [(.agg [(.v (.int .i64 x1)), (.v (.bool b1)), .nsl])], [] => some ⟨[lock Obl fun _ => ∃ r, lock Z6o x1 b1 = some r], .many ((List Int)) (fun r => lock Z6o x1 b1 = some r) (fun u0 => (.agg [(.v (.int .i64 x1)), (.v (.bool b1)), (.wsl 0)])) (fun u0 => [.to (.row (.ints 46 .u64 u0))]), []⟩
 | _, _ => none
noncomputable def Zdt (a : List SV) (c : List Ck) : Option CEff := match a, c with
 | [(.agg [(.v (.int .i64 x1)), (.v (.bool b1)), (.rsl (.ints 46 .u64 l1))])], [] => some ⟨[lock Obl fun _ => ∃ r, lock Z47 x1 b1 l1 = some r], .many ((List Int)) (fun r => lock Z47 x1 b1 l1 = some r) (fun u0 => (.agg [(.v (.int .i64 x1)), (.v (.bool b1)), (.wsl 0)])) (fun u0 => [.to (.row (.ints 46 .u64 u0))]), []⟩
 | _, _ => none
noncomputable def Z7x : Con := ⟨[none], fun a c => altC (Zg6 a c) (altC (Zdy a c) (Zdt a c)), []⟩
noncomputable def Zce (a : List SV) (c : List Ck) : Option CEff := match a, c with
 | [(.ptr 0 0)], [.blk 169 [(.wsl 1), (.v (.int .i64 x1)), (.v (.bool b1)), (.wsl 2)], .row (.ints 46 .u64 l1), .row (.ints 46 .u64 l2)] => some ⟨[lock Obl fun _ => ∃ r, lock Z3b x1 b1 l1 l2 = some r], .many ((List Int)) (fun r => lock Z3b x1 b1 l1 l2 = some r) (fun u0 => (.agg [(.v (.int .i64 x1)), (.v (.bool b1)), (.wsl 3)])) (fun u0 => [.same, .same, .same, .to (.row (.ints 46 .u64 u0))]), [true, true, true]⟩
 | _, _ => none
noncomputable def Zct : Con := ⟨[none], fun a c => Zce a c, []⟩
noncomputable def Zfs (a : List SV) (c : List Ck) : Option CEff := match a, c with
 | [(.ptr 0 0)], [.blk 144 [(.v (.int .i64 x1)), (.wsl 1), (.v (.int .i64 x2)), (.v (.int .i64 x3))], .row (.row 75 (.st [(.int .u64), (.int .i64), (.int .i64)]) r1)] => some ⟨[lock Obl fun _ => ∃ r, lock Z4d x1 x2 x3 r1 = some r], .many ((List D)) (fun r => lock Z4d x1 x2 x3 r1 = some r) (fun u0 => (.wsl 2)) (fun u0 => [.same, .same, .to (.row (.row 75 (.st [(.int .u64), (.int .i64), (.int .i64)]) u0))]), [true, true]⟩
 | _, _ => none
noncomputable def Zeb : Con := ⟨[none], fun a c => Zfs a c, []⟩
noncomputable def Zbr (a : List SV) (c : List Ck) : Option CEff := match a with
 | [(.ptr 0 0)] => (match c with | [g0, g1, g2, g3, g4, g5, g6, g7] => (match g0 with | .blk 92 [(.str s1), (.v (.bool b1)), (.wsl 1), (.wsl 2), (.v (.int .i64 x1)), (.v (.int .u64 x2)), (.wsl 3), (.ptr 4 0)] => (match g1 with | .row (.row 83 (.st [.str, (.int .u64), (.int .u64), (.int .u64), (.int .i64), .bool]) r1) => (match g2 with | .row (.row 96 (.st [(.int .i64), (.int .i64), (.int .i64)]) r2) => (match g3 with | .prow 98 w1 n1 5 => (match g4 with | .blk 169 [(.wsl 6), (.v (.int .i64 x3)), (.v (.bool b2)), (.wsl 7)] => (match g5 with | .gho w2 r3 none => (match g6 with | .row (.ints 46 .u64 l1) => (match g7 with | .row (.ints 46 .u64 l2) => (match Tm.eq tm98 w1 && Tm.eq tm98 w2 with | false => none | true => some ⟨[lock Obl fun _ => ∃ r, lock Z33 s1 b1 x1 x2 r1 r2 n1 x3 b2 r3 l1 l2 = some r], .many ((List D) × (List D)) (fun r => lock Z33 s1 b1 x1 x2 r1 r2 n1 x3 b2 r3 l1 l2 = some r) (fun | (u0, u1) => (.wsl 8)) (fun | (u0, u1) => [.same, .same, .same, .to (.prow 98 tm98 n1 9), .same, .gone, .same, .same, .to (.row (.row 72 (.row 75 (.st [(.int .u64), (.int .i64), (.int .i64)])) u0)), .to (.gho tm98 u1 none)]), [true, true, true, false, true, false, true, true]⟩) | _ => none) | _ => none) | _ => none) | _ => none) | _ => none) | _ => none) | _ => none) | _ => none) | _ => none)
 | _ => none
noncomputable def Z7g : Con := ⟨[none], fun a c => Zbr a c, []⟩
noncomputable def Z91 (a : List SV) (c : List Ck) : Option CEff := match a with
 | [(.ptr 0 0)] => (match c with | [g0, g1, g2, g3, g4, g5, g6, g7] => (match g0 with | .blk 92 [(.str s1), (.v (.bool b1)), (.wsl 1), (.wsl 2), (.v (.int .i64 x1)), (.v (.int .u64 x2)), (.wsl 3), (.ptr 4 0)] => (match g1 with | .row (.row 83 (.st [.str, (.int .u64), (.int .u64), (.int .u64), (.int .i64), .bool]) r1) => (match g2 with | .row (.row 96 (.st [(.int .i64), (.int .i64), (.int .i64)]) r2) => (match g3 with | .prow 98 w1 n1 5 => (match g4 with | .blk 169 [(.wsl 6), (.v (.int .i64 x3)), (.v (.bool b2)), (.wsl 7)] => (match g5 with | .gho w2 r3 none => (match g6 with | .row (.ints 46 .u64 l1) => (match g7 with | .row (.ints 46 .u64 l2) => (match Tm.eq tm98 w1 && Tm.eq tm98 w2 with | false => none | true => some ⟨[lock Obl fun _ => ∃ r, lock Zr s1 b1 x1 x2 r1 r2 n1 x3 b2 r3 l1 l2 = some r], .many ((List Int) × (List Int) × (List D) × (List D)) (fun r => lock Zr s1 b1 x1 x2 r1 r2 n1 x3 b2 r3 l1 l2 = some r) (fun | (u0, u1, u2, u3) => (.agg [(.v (.int .u64 x2)), (.rsl (.ints 46 .u64 u0)), (.v (.int .i64 x3)), (.v (.bool b2)), (.rsl (.ints 46 .u64 u1)), (.rsl (.row 72 (.row 75 (.st [(.int .u64), (.int .i64), (.int .i64)])) u2))])) (fun | (u0, u1, u2, u3) => [.same, .same, .same, .to (.prow 98 tm98 n1 8), .same, .gone, .same, .same, .to (.gho tm98 u3 none)]), [true, true, true, false, true, false, true, true]⟩) | _ => none) | _ => none) | _ => none) | _ => none) | _ => none) | _ => none) | _ => none) | _ => none) | _ => none)
 | _ => none
noncomputable def Z5s : Con := ⟨[none], fun a c => Z91 a c, []⟩
noncomputable def Zca (a : List SV) (c : List Ck) : Option CEff := match a, c with
 | [(.rsl (.row 83 (.st [.str, (.int .u64), (.int .u64), (.int .u64), (.int .i64), .bool]) r1)), (.rsl (.row 83 (.st [.str, (.int .u64), (.int .u64), (.int .u64), (.int .i64), .bool]) r2))], [] => some ⟨[lock Obl fun _ => ∃ r, lock Z1t r1 r2 = some r], .many (Bool) (fun r => lock Z1t r1 r2 = some r) (fun u0 => (.v (.bool u0))) (fun u0 => []), []⟩
 | _, _ => none
noncomputable def Zcl : Con := ⟨[(some (.row 83 (.st [.str, (.int .u64), (.int .u64), (.int .u64), (.int .i64), .bool]))), (some (.row 83 (.st [.str, (.int .u64), (.int .u64), (.int .u64), (.int .i64), .bool])))], fun a c => Zca a c, []⟩
noncomputable def Zdm (a : List SV) (c : List Ck) : Option CEff := match a, c with
 | [(.rsl (.row 96 (.st [(.int .i64), (.int .i64), (.int .i64)]) r1)), (.rsl (.row 96 (.st [(.int .i64), (.int .i64), (.int .i64)]) r2))], [] => some ⟨[lock Obl fun _ => ∃ r, lock Z1r r1 r2 = some r], .many (Bool) (fun r => lock Z1r r1 r2 = some r) (fun u0 => (.v (.bool u0))) (fun u0 => []), []⟩
 | _, _ => none
noncomputable def Zfl : Con := ⟨[(some (.row 96 (.st [(.int .i64), (.int .i64), (.int .i64)]))), (some (.row 96 (.st [(.int .i64), (.int .i64), (.int .i64)])))], fun a c => Zdm a c, []⟩
noncomputable def Z9i (a : List SV) (c : List Ck) : Option CEff := match a, c with
 | [(.agg [(.str s1), (.v (.bool b1)), (.wsl 0), .nsl, (.v (.int .i64 x1))]), (.agg [(.str s2), (.v (.bool b2)), (.wsl 1), (.wsl 2), (.v (.int .i64 x2))])], [.row (.row 83 (.st [.str, (.int .u64), (.int .u64), (.int .u64), (.int .i64), .bool]) r1), .row (.row 83 (.st [.str, (.int .u64), (.int .u64), (.int .u64), (.int .i64), .bool]) r2), .row (.row 96 (.st [(.int .i64), (.int .i64), (.int .i64)]) r3)] => some ⟨[lock Obl fun _ => ∃ r, lock Z4k s1 b1 x1 s2 b2 x2 r1 r2 r3 = some r], .many (Bool) (fun r => lock Z4k s1 b1 x1 s2 b2 x2 r1 r2 r3 = some r) (fun u0 => (.v (.bool u0))) (fun u0 => [.same, .same, .same]), [true, true, true]⟩
 | _, _ => none
noncomputable def Zf6 (a : List SV) (c : List Ck) : Option CEff := match a, c with
 | [(.agg [(.str s1), (.v (.bool b1)), (.rsl (.row 83 (.st [.str, (.int .u64), (.int .u64), (.int .u64), (.int .i64), .bool]) r1)), (.rsl (.row 96 (.st [(.int .i64), (.int .i64), (.int .i64)]) r2)), (.v (.int .i64 x1))]), (.agg [(.str s2), (.v (.bool b2)), (.wsl 0), (.wsl 1), (.v (.int .i64 x2))])], [.row (.row 83 (.st [.str, (.int .u64), (.int .u64), (.int .u64), (.int .i64), .bool]) r3), .row (.row 96 (.st [(.int .i64), (.int .i64), (.int .i64)]) r4)] => some ⟨[lock Obl fun _ => ∃ r, lock Z37 s1 b1 r1 r2 x1 s2 b2 x2 r3 r4 = some r], .many (Bool) (fun r => lock Z37 s1 b1 r1 r2 x1 s2 b2 x2 r3 r4 = some r) (fun u0 => (.v (.bool u0))) (fun u0 => [.same, .same]), [true, true]⟩
 | _, _ => none
noncomputable def Zc7 : Con := ⟨[none, none], fun a c => altC (Z9i a c) (Zf6 a c), []⟩
noncomputable def Zeg (a : List SV) (c : List Ck) : Option CEff := match a, c with
 | [(.rsl (.row 72 (.row 75 (.st [(.int .u64), (.int .i64), (.int .i64)])) r1))], [] => some ⟨[lock Obl fun _ => ∃ r, lock Z2d r1 = some r], .many ((List D)) (fun r => lock Z2d r1 = some r) (fun u0 => (.wsl 0)) (fun u0 => [.to (.row (.row 75 (.st [(.int .u64), (.int .i64), (.int .i64)]) u0))]), []⟩
 | _, _ => none
noncomputable def Za6 : Con := ⟨[(some (.row 72 (.row 75 (.st [(.int .u64), (.int .i64), (.int .i64)]))))], fun a c => Zeg a c, []⟩
noncomputable def Zed (a : List SV) (c : List Ck) : Option CEff := match a, c with
 | [(.rsl (.row 75 (.st [(.int .u64), (.int .i64), (.int .i64)]) r1)), (.rsl (.row 75 (.st [(.int .u64), (.int .i64), (.int .i64)]) r2))], [] => some ⟨[lock Obl fun _ => ∃ r, lock Z4w r1 r2 = some r], .many ((List D)) (fun r => lock Z4w r1 r2 = some r) (fun u0 => (.wsl 0)) (fun u0 => [.to (.row (.row 75 (.st [(.int .u64), (.int .i64), (.int .i64)]) u0))]), []⟩
 | _, _ => none
noncomputable def Zez : Con := ⟨[(some (.row 75 (.st [(.int .u64), (.int .i64), (.int .i64)]))), (some (.row 75 (.st [(.int .u64), (.int .i64), (.int .i64)])))], fun a c => Zed a c, []⟩
noncomputable def Zer (a : List SV) (c : List Ck) : Option CEff := match a, c with
 | [(.agg [(.str s1), (.v (.bool b1)), (.wsl 0), (.wsl 1), (.v (.int .i64 x1))]), (.agg [(.str s2), (.v (.bool b2)), (.rsl (.row 83 (.st [.str, (.int .u64), (.int .u64), (.int .u64), (.int .i64), .bool]) r1)), (.rsl (.row 96 (.st [(.int .i64), (.int .i64), (.int .i64)]) r2)), (.v (.int .i64 x2))]), (.wsl 2)], [.row (.row 83 (.st [.str, (.int .u64), (.int .u64), (.int .u64), (.int .i64), .bool]) r3), .row (.row 96 (.st [(.int .i64), (.int .i64), (.int .i64)]) r4), .row (.row 72 (.row 75 (.st [(.int .u64), (.int .i64), (.int .i64)])) r5)] => some ⟨[lock Obl fun _ => ∃ r, lock Z3k s1 b1 x1 s2 b2 r1 r2 x2 r3 r4 r5 = some r], .many (Bool × (List D)) (fun r => lock Z3k s1 b1 x1 s2 b2 r1 r2 x2 r3 r4 r5 = some r) (fun | (u0, u1) => (.tup [(.wsl 3), (.v (.bool u0))])) (fun | (u0, u1) => [.same, .same, .same, .to (.row (.row 72 (.row 75 (.st [(.int .u64), (.int .i64), (.int .i64)])) u1))]), [true, true, true]⟩
 | _, _ => none
noncomputable def Zf7 : Con := ⟨[], fun a c => Zer a c, []⟩
noncomputable def Zcr (a : List SV) (c : List Ck) : Option CEff := match a, c with
 | [(.agg [(.v (.int .u64 x1)), (.v (.int .u64 x2)), (.v (.int .u64 x3))]), (.v (.int .u64 x4)), (.v (.int .u64 x5))], [] => some ⟨[lock Obl fun _ => ∃ r, lock Z2l x1 x2 x3 x4 x5 = some r], .many (Int) (fun r => lock Z2l x1 x2 x3 x4 x5 = some r) (fun u0 => (.agg [(.v (.int .u64 x4)), (.v (.int .u64 x5)), (.v (.int .u64 u0))])) (fun u0 => []), []⟩
 | _, _ => none
noncomputable def Zae : Con := ⟨[none, none, none], fun a c => Zcr a c, []⟩
noncomputable def Zcm (a : List SV) (c : List Ck) : Option CEff := match a, c with
 | [(.ptr 0 0), (.rsl (.row 75 (.st [(.int .u64), (.int .i64), (.int .i64)]) r1))], [.blk 144 [(.v (.int .i64 x1)), (.wsl 1), (.v (.int .i64 x2)), (.v (.int .i64 x3))], .row (.row 75 (.st [(.int .u64), (.int .i64), (.int .i64)]) r2)] => some ⟨[lock Obl fun _ => ∃ r, lock Z1d r1 x1 x2 x3 r2 = some r], .many (Int × Int × (List D)) (fun r => lock Z1d r1 x1 x2 x3 r2 = some r) (fun | (u0, u1, u2) => (.tup [])) (fun | (u0, u1, u2) => [.to (.blk 144 [(.v (.int .i64 x1)), (.wsl 2), (.v (.int .i64 u0)), (.v (.int .i64 u1))]), .gone, .to (.row (.row 75 (.st [(.int .u64), (.int .i64), (.int .i64)]) u2))]), [false, false]⟩
 | _, _ => none
noncomputable def Z8f : Con := ⟨[none, (some (.row 75 (.st [(.int .u64), (.int .i64), (.int .i64)])))], fun a c => Zcm a c, []⟩
noncomputable def Zf3 (a : List SV) (c : List Ck) : Option CEff := match a with
 | [(.ptr 0 0), (.agg [(.str s1), (.v (.bool b1)), (.wsl 1), .nsl, (.v (.int .i64 x1))]), (.v (.bool b2))] => (match c with | [g0, g1, g2, g3, g4, g5, g6, g7, g8] => (match g0 with | .blk 92 [(.str s2), (.v (.bool b3)), (.wsl 2), (.wsl 3), (.v (.int .i64 x2)), (.v (.int .u64 x3)), (.wsl 4), (.ptr 5 0)] => (match g1 with | .row (.row 83 (.st [.str, (.int .u64), (.int .u64), (.int .u64), (.int .i64), .bool]) r1) => (match g2 with | .row (.row 83 (.st [.str, (.int .u64), (.int .u64), (.int .u64), (.int .i64), .bool]) r2) => (match g3 with | .row (.row 96 (.st [(.int .i64), (.int .i64), (.int .i64)]) r3) => (match g4 with | .prow 98 w1 n1 6 => (match g5 with | .blk 169 [(.wsl 7), (.v (.int .i64 x4)), (.v (.bool b4)), (.wsl 8)] => (match g6 with | .gho w2 r4 none => (match g7 with | .row (.ints 46 .u64 l1) => (match g8 with | .row (.ints 46 .u64 l2) => (match Tm.eq tm98 w1 && Tm.eq tm98 w2 with | false => none | true => some ⟨[lock Obl fun _ => ∃ r, lock Z5k s1 b1 x1 b2 s2 b3 x2 x3 r1 r2 r3 n1 x4 b4 r4 l1 l2 = some r], .many (Int) (fun r => lock Z5k s1 b1 x1 b2 s2 b3 x2 x3 r1 r2 r3 n1 x4 b4 r4 l1 l2 = some r) (fun u0 => (.v (.int .i64 u0))) (fun u0 => [.same, .same, .same, .same, .same, .same, .same, .same, .same]), [true, true, true, true, true, true, true, true, true]⟩) | _ => none) | _ => none) | _ => none) | _ => none) | _ => none) | _ => none) | _ => none) | _ => none) | _ => none) | _ => none)
 | _ => none
noncomputable def Zff (a : List SV) (c : List Ck) : Option CEff := match a with
 | [(.ptr 0 0), (.agg [(.str s1), (.v (.bool b1)), (.rsl (.row 83 (.st [.str, (.int .u64), (.int .u64), (.int .u64), (.int .i64), .bool]) r1)), (.rsl (.row 96 (.st [(.int .i64), (.int .i64), (.int .i64)]) r2)), (.v (.int .i64 x1))]), (.v (.bool b2))] => (match c with | [g0, g1, g2, g3, g4, g5, g6, g7] => (match g0 with | .blk 92 [(.str s2), (.v (.bool b3)), (.wsl 1), (.wsl 2), (.v (.int .i64 x2)), (.v (.int .u64 x3)), (.wsl 3), (.ptr 4 0)] => (match g1 with | .row (.row 83 (.st [.str, (.int .u64), (.int .u64), (.int .u64), (.int .i64), .bool]) r3) => (match g2 with | .row (.row 96 (.st [(.int .i64), (.int .i64), (.int .i64)]) r4) => (match g3 with | .prow 98 w1 n1 5 => (match g4 with | .blk 169 [(.wsl 6), (.v (.int .i64 x4)), (.v (.bool b4)), (.wsl 7)] => (match g5 with | .gho w2 r5 none => (match g6 with | .row (.ints 46 .u64 l1) => (match g7 with | .row (.ints 46 .u64 l2) => (match Tm.eq tm98 w1 && Tm.eq tm98 w2 with | false => none | true => some ⟨[lock Obl fun _ => ∃ r, lock Zj s1 b1 r1 r2 x1 b2 s2 b3 x2 x3 r3 r4 n1 x4 b4 r5 l1 l2 = some r], .many (Int × (List UInt8) × Bool × Int × (List D) × (List D) × Nat × Int × Bool × (List D) × (List Int) × (List Int)) (fun r => lock Zj s1 b1 r1 r2 x1 b2 s2 b3 x2 x3 r3 r4 n1 x4 b4 r5 l1 l2 = some r) (fun | (u0, u1, u2, u3, u4, u5, u6, u7, u8, u9, u10, u11) => (.v (.int .i64 u0))) (fun | (u0, u1, u2, u3, u4, u5, u6, u7, u8, u9, u10, u11) => [.to (.blk 92 [(.str u1), (.v (.bool u2)), (.wsl 8), (.wsl 9), (.v (.int .i64 u3)), (.v (.int .u64 x3)), (.wsl 10), (.ptr 11 0)]), .gone, .gone, .gone, .gone, .gone, .gone, .gone, .to (.row (.row 83 (.st [.str, (.int .u64), (.int .u64), (.int .u64), (.int .i64), .bool]) u4)), .to (.row (.row 96 (.st [(.int .i64), (.int .i64), (.int .i64)]) u5)), .to (.prow 98 tm98 u6 12), .to (.blk 169 [(.wsl 13), (.v (.int .i64 u7)), (.v (.bool u8)), (.wsl 14)]), .to (.gho tm98 u9 none), .to (.row (.ints 46 .u64 u10)), .to (.row (.ints 46 .u64 u11))]), [false, false, false, false, false, false, false, false]⟩) | _ => none) | _ => none) | _ => none) | _ => none) | _ => none) | _ => none) | _ => none) | _ => none) | _ => none)
 | _ => none
noncomputable def Z6x : Con := ⟨[none, none, none], fun a c => altC (Zf3 a c) (Zff a c), []⟩
noncomputable def Za9 (a : List SV) (c : List Ck) : Option CEff := match a with
 | [(.ptr 0 0)] => (match c with | [g0, g1, g2, g3, g4, g5, g6, g7] => (match g0 with | .blk 92 [(.str s1), (.v (.bool b1)), (.wsl 1), (.wsl 2), (.v (.int .i64 x1)), (.v (.int .u64 x2)), (.wsl 3), (.ptr 4 0)] => (match g1 with | .row (.row 83 (.st [.str, (.int .u64), (.int .u64), (.int .u64), (.int .i64), .bool]) r1) => (match g2 with | .row (.row 96 (.st [(.int .i64), (.int .i64), (.int .i64)]) r2) => (match g3 with | .prow 98 w1 n1 5 => (match g4 with | .blk 169 [(.wsl 6), (.v (.int .i64 x3)), (.v (.bool b2)), (.wsl 7)] => (match g5 with | .gho w2 r3 none => (match g6 with | .row (.ints 46 .u64 l1) => (match g7 with | .row (.ints 46 .u64 l2) => (match Tm.eq tm98 w1 && Tm.eq tm98 w2 with | false => none | true => some ⟨[lock Obl fun _ => ∃ r, lock Z12 s1 b1 x1 x2 r1 r2 n1 x3 b2 r3 l1 l2 = some r], .many ((List D) × (List D)) (fun r => lock Z12 s1 b1 x1 x2 r1 r2 n1 x3 b2 r3 l1 l2 = some r) (fun | (u0, u1) => (.agg [(.str s1), (.v (.bool b1)), (.rsl (.row 83 (.st [.str, (.int .u64), (.int .u64), (.int .u64), (.int .i64), .bool]) u0)), (.rsl (.row 96 (.st [(.int .i64), (.int .i64), (.int .i64)]) u1)), (.v (.int .i64 x1))])) (fun | (u0, u1) => [.same, .same, .same, .same, .same, .same, .same, .same]), [true, true, true, true, true, true, true, true]⟩) | _ => none) | _ => none) | _ => none) | _ => none) | _ => none) | _ => none) | _ => none) | _ => none) | _ => none)
 | _ => none
noncomputable def Z8e : Con := ⟨[none], fun a c => Za9 a c, []⟩
noncomputable def Z97 (a : List SV) (c : List Ck) : Option CEff := match a, c with
 | [(.agg [(.v (.int .u64 x1)), .nsl, (.v (.int .i64 x2)), (.v (.bool b1)), .nsl, .nsl]), (.rsl (.row 75 (.st [(.int .u64), (.int .i64), (.int .i64)]) r1))], [] => some ⟨[lock Obl fun _ => ∃ r, lock Z5o x1 x2 b1 r1 = some r], .many (Bool) (fun r => lock Z5o x1 x2 b1 r1 = some r) (fun u0 => (.v (.bool u0))) (fun u0 => []), []⟩
 | _, _ => none
noncomputable def Ze0 (a : List SV) (c : List Ck) : Option CEff := match a, c with
 | [(.agg [(.v (.int .u64 x1)), (.rsl (.ints 46 .u64 l1)), (.v (.int .i64 x2)), (.v (.bool b1)), (.rsl (.ints 46 .u64 l2)), (.rsl (.row 72 (.row 75 (.st [(.int .u64), (.int .i64), (.int .i64)])) r1))]), (.rsl (.row 75 (.st [(.int .u64), (.int .i64), (.int .i64)]) r2))], [] => some ⟨[lock Obl fun _ => ∃ r, lock Z5j x1 l1 x2 b1 l2 r1 r2 = some r], .many (Bool) (fun r => lock Z5j x1 l1 x2 b1 l2 r1 r2 = some r) (fun u0 => (.v (.bool u0))) (fun u0 => []), []⟩
 | _, _ => none
noncomputable def Zcb : Con := ⟨[none, (some (.row 75 (.st [(.int .u64), (.int .i64), (.int .i64)])))], fun a c => altC (Z97 a c) (Ze0 a c), []⟩
noncomputable def Z8s (a : List SV) (c : List Ck) : Option CEff := match a, c with
 | [(.rsl (.row 75 (.st [(.int .u64), (.int .i64), (.int .i64)]) r1)), (.ptr 0 0)], [.blk 67 [(.v (.int .u64 x1)), .nsl, (.v (.int .i64 x2)), (.v (.bool b1)), .nsl, .nsl]] => some ⟨[lock Obl fun _ => ∃ r, lock Z6e r1 x1 x2 b1 = some r], .many (Bool) (fun r => lock Z6e r1 x1 x2 b1 = some r) (fun u0 => (.v (.bool u0))) (fun u0 => [.same]), [true]⟩
 | _, _ => none
noncomputable def Zag (a : List SV) (c : List Ck) : Option CEff := match a, c with
 | [(.rsl (.row 75 (.st [(.int .u64), (.int .i64), (.int .i64)]) r1)), (.ptr 0 0)], [.blk 67 [(.v (.int .u64 x1)), (.rsl (.ints 46 .u64 l1)), (.v (.int .i64 x2)), (.v (.bool b1)), (.rsl (.ints 46 .u64 l2)), (.rsl (.row 72 (.row 75 (.st [(.int .u64), (.int .i64), (.int .i64)])) r2))]] => some ⟨[lock Obl fun _ => ∃ r, lock Z3v r1 x1 l1 x2 b1 l2 r2 = some r], .many (Bool) (fun r => lock Z3v r1 x1 l1 x2 b1 l2 r2 = some r) (fun u0 => (.v (.bool u0))) (fun u0 => [.same]), [true]⟩
 | _, _ => none
noncomputable def Zb1 : Con := ⟨[(some (.row 75 (.st [(.int .u64), (.int .i64), (.int .i64)])))], fun a c => altC (Z8s a c) (Zag a c), []⟩
noncomputable def Z8n (a : List SV) (c : List Ck) : Option CEff := match a, c with
 | [(.rsl (.row 72 (.row 75 (.st [(.int .u64), (.int .i64), (.int .i64)])) r1)), (.fn 87 [(.ptr 0 0)])], [.blk 67 [(.v (.int .u64 x1)), .nsl, (.v (.int .i64 x2)), (.v (.bool b1)), .nsl, .nsl]] => some ⟨[lock Obl fun _ => ∃ r, lock Z3f r1 x1 x2 b1 = some r], .many (Int) (fun r => lock Z3f r1 x1 x2 b1 = some r) (fun u0 => (.v (.int .i64 u0))) (fun u0 => [.same]), [true]⟩
 | _, _ => none
noncomputable def Zey (a : List SV) (c : List Ck) : Option CEff := match a, c with
 | [(.rsl (.row 72 (.row 75 (.st [(.int .u64), (.int .i64), (.int .i64)])) r1)), (.fn 87 [(.ptr 0 0)])], [.blk 67 [(.v (.int .u64 x1)), (.rsl (.ints 46 .u64 l1)), (.v (.int .i64 x2)), (.v (.bool b1)), (.rsl (.ints 46 .u64 l2)), (.rsl (.row 72 (.row 75 (.st [(.int .u64), (.int .i64), (.int .i64)])) r2))]] => some ⟨[lock Obl fun _ => ∃ r, lock Z52 r1 x1 l1 x2 b1 l2 r2 = some r], .many (Int) (fun r => lock Z52 r1 x1 l1 x2 b1 l2 r2 = some r) (fun u0 => (.v (.int .i64 u0))) (fun u0 => [.same]), [true]⟩
 | _, _ => none
noncomputable def Zac : Con := ⟨[(some (.row 72 (.row 75 (.st [(.int .u64), (.int .i64), (.int .i64)])))), none], fun a c => altC (Z8n a c) (Zey a c), []⟩
noncomputable def Zal (a : List SV) (c : List Ck) : Option CEff := match a, c with
 | [(.rsl (.row 72 (.row 75 (.st [(.int .u64), (.int .i64), (.int .i64)])) r1)), (.fn 87 [(.ptr 0 0)])], [.blk 67 [(.v (.int .u64 x1)), .nsl, (.v (.int .i64 x2)), (.v (.bool b1)), .nsl, .nsl]] => some ⟨[lock Obl fun _ => ∃ r, lock Z5e r1 x1 x2 b1 = some r], .many (Bool) (fun r => lock Z5e r1 x1 x2 b1 = some r) (fun u0 => (.v (.bool u0))) (fun u0 => [.same]), [true]⟩
 | _, _ => none
noncomputable def Zgd (a : List SV) (c : List Ck) : Option CEff := match a, c with
 | [(.rsl (.row 72 (.row 75 (.st [(.int .u64), (.int .i64), (.int .i64)])) r1)), (.fn 87 [(.ptr 0 0)])], [.blk 67 [(.v (.int .u64 x1)), (.rsl (.ints 46 .u64 l1)), (.v (.int .i64 x2)), (.v (.bool b1)), (.rsl (.ints 46 .u64 l2)), (.rsl (.row 72 (.row 75 (.st [(.int .u64), (.int .i64), (.int .i64)])) r2))]] => some ⟨[lock Obl fun _ => ∃ r, lock Z3u r1 x1 l1 x2 b1 l2 r2 = some r], .many (Bool) (fun r => lock Z3u r1 x1 l1 x2 b1 l2 r2 = some r) (fun u0 => (.v (.bool u0))) (fun u0 => [.same]), [true]⟩
 | _, _ => none
noncomputable def Zej : Con := ⟨[(some (.row 72 (.row 75 (.st [(.int .u64), (.int .i64), (.int .i64)])))), none], fun a c => altC (Zal a c) (Zgd a c), []⟩
noncomputable def Zea (a : List SV) (c : List Ck) : Option CEff := match a, c with
 | [(.agg [(.v (.int .u64 x1)), .nsl, (.v (.int .i64 x2)), (.v (.bool b1)), .nsl, .nsl])], [] => some ⟨[lock Obl fun _ => ∃ r, lock Z3r x1 x2 b1 = some r], .many (Bool) (fun r => lock Z3r x1 x2 b1 = some r) (fun u0 => (.v (.bool u0))) (fun u0 => []), []⟩
 | _, _ => none
noncomputable def Zc8 (a : List SV) (c : List Ck) : Option CEff := match a, c with
 | [(.agg [(.v (.int .u64 x1)), (.rsl (.ints 46 .u64 l1)), (.v (.int .i64 x2)), (.v (.bool b1)), (.rsl (.ints 46 .u64 l2)), (.rsl (.row 72 (.row 75 (.st [(.int .u64), (.int .i64), (.int .i64)])) r1))])], [] => some ⟨[lock Obl fun _ => ∃ r, lock Z38 x1 l1 x2 b1 l2 r1 = some r], .many (Bool) (fun r => lock Z38 x1 l1 x2 b1 l2 r1 = some r) (fun u0 => (.v (.bool u0))) (fun u0 => []), []⟩
 | _, _ => none
noncomputable def Za3 : Con := ⟨[none], fun a c => altC (Zea a c) (Zc8 a c), []⟩
noncomputable def Zfj (a : List SV) (c : List Ck) : Option CEff := match a, c with
 | [(.ptr 0 0), (.agg [(.v (.int .i64 x1)), (.v (.bool b1)), .nsl])], [.blk 169 [(.wsl 1), (.v (.int .i64 x2)), (.v (.bool b2)), (.wsl 2)], .row (.ints 46 .u64 l1), .row (.ints 46 .u64 l2)] => some ⟨[lock Obl fun _ => ∃ r, lock Z5x x1 b1 x2 b2 l1 l2 = some r], .many (Bool × Int × Bool × (List Int)) (fun r => lock Z5x x1 b1 x2 b2 l1 l2 = some r) (fun | (u0, u1, u2, u3) => (.v (.bool u0))) (fun | (u0, u1, u2, u3) => [.to (.blk 169 [(.wsl 1), (.v (.int .i64 u1)), (.v (.bool u2)), (.wsl 3)]), .same, .gone, .to (.row (.ints 46 .u64 u3))]), [false, true, false]⟩
 | _, _ => none
noncomputable def Zdd (a : List SV) (c : List Ck) : Option CEff := match a, c with
 | [(.ptr 0 0), (.agg [(.v (.int .i64 x1)), (.v (.bool b1)), (.rsl (.ints 46 .u64 l1))])], [.blk 169 [(.wsl 1), (.v (.int .i64 x2)), (.v (.bool b2)), (.wsl 2)], .row (.ints 46 .u64 l2), .row (.ints 46 .u64 l3)] => some ⟨[lock Obl fun _ => ∃ r, lock Z4e x1 b1 l1 x2 b2 l2 l3 = some r], .many (Bool × Int × Bool × (List Int)) (fun r => lock Z4e x1 b1 l1 x2 b2 l2 l3 = some r) (fun | (u0, u1, u2, u3) => (.v (.bool u0))) (fun | (u0, u1, u2, u3) => [.to (.blk 169 [(.wsl 1), (.v (.int .i64 u1)), (.v (.bool u2)), (.wsl 3)]), .same, .gone, .to (.row (.ints 46 .u64 u3))]), [false, true, false]⟩
 | _, _ => none
noncomputable def Z9g : Con := ⟨[none, none], fun a c => altC (Zfj a c) (Zdd a c), []⟩
noncomputable def Zco (a : List SV) (c : List Ck) : Option CEff := match a with
 | [(.ptr 0 0), (.agg [(.v (.int .u64 x1)), .nsl, (.v (.int .i64 x2)), (.v (.bool b1)), .nsl, .nsl])] => (match c with | [g0, g1, g2, g3, g4, g5, g6, g7] => (match g0 with | .blk 92 [(.str s1), (.v (.bool b2)), (.wsl 1), (.wsl 2), (.v (.int .i64 x3)), (.v (.int .u64 x4)), (.wsl 3), (.ptr 4 0)] => (match g1 with | .row (.row 83 (.st [.str, (.int .u64), (.int .u64), (.int .u64), (.int .i64), .bool]) r1) => (match g2 with | .row (.row 96 (.st [(.int .i64), (.int .i64), (.int .i64)]) r2) => (match g3 with | .prow 98 w1 n1 5 => (match g4 with | .blk 169 [(.wsl 6), (.v (.int .i64 x5)), (.v (.bool b3)), (.wsl 7)] => (match g5 with | .gho w2 r3 none => (match g6 with | .row (.ints 46 .u64 l1) => (match g7 with | .row (.ints 46 .u64 l2) => (match Tm.eq tm98 w1 && Tm.eq tm98 w2 with | false => none | true => some ⟨[lock Obl fun _ => ∃ r, lock Z4p x1 x2 b1 s1 b2 x3 x4 r1 r2 n1 x5 b3 r3 l1 l2 = some r], .many (Int × Int × Int × Bool × (List Int)) (fun r => lock Z4p x1 x2 b1 s1 b2 x3 x4 r1 r2 n1 x5 b3 r3 l1 l2 = some r) (fun | (u0, u1, u2, u3, u4) => (.v (.int .i64 u0))) (fun | (u0, u1, u2, u3, u4) => [.to (.blk 92 [(.str s1), (.v (.bool b2)), (.wsl 1), (.wsl 2), (.v (.int .i64 x3)), (.v (.int .u64 u1)), (.wsl 3), (.ptr 4 0)]), .same, .same, .same, .to (.blk 169 [(.wsl 6), (.v (.int .i64 u2)), (.v (.bool u3)), (.wsl 8)]), .same, .same, .gone, .to (.row (.ints 46 .u64 u4))]), [false, true, true, true, false, true, true, false]⟩) | _ => none) | _ => none) | _ => none) | _ => none) | _ => none) | _ => none) | _ => none) | _ => none) | _ => none)
 | _ => none
noncomputable def Zd7 (a : List SV) (c : List Ck) : Option CEff := match a with
 | [(.ptr 0 0), (.agg [(.v (.int .u64 x1)), (.rsl (.ints 46 .u64 l1)), (.v (.int .i64 x2)), (.v (.bool b1)), (.rsl (.ints 46 .u64 l2)), (.rsl (.row 72 (.row 75 (.st [(.int .u64), (.int .i64), (.int .i64)])) r1))])] => (match c with | [g0, g1, g2, g3, g4, g5, g6, g7] => (match g0 with | .blk 92 [(.str s1), (.v (.bool b2)), (.wsl 1), (.wsl 2), (.v (.int .i64 x3)), (.v (.int .u64 x4)), (.wsl 3), (.ptr 4 0)] => (match g1 with | .row (.row 83 (.st [.str, (.int .u64), (.int .u64), (.int .u64), (.int .i64), .bool]) r2) => (match g2 with | .row (.row 96 (.st [(.int .i64), (.int .i64), (.int .i64)]) r3) => (match g3 with | .prow 98 w1 n1 5 => (match g4 with | .blk 169 [(.wsl 6), (.v (.int .i64 x5)), (.v (.bool b3)), (.wsl 7)] => (match g5 with | .gho w2 r4 none => (match g6 with | .row (.ints 46 .u64 l3) => (match g7 with | .row (.ints 46 .u64 l4) => (match Tm.eq tm98 w1 && Tm.eq tm98 w2 with | false => none | true => some ⟨[lock Obl fun _ => ∃ r, lock Z4a x1 l1 x2 b1 l2 r1 s1 b2 x3 x4 r2 r3 n1 x5 b3 r4 l3 l4 = some r], .many (Int × Int × Int × Bool × (List D) × (List Int)) (fun r => lock Z4a x1 l1 x2 b1 l2 r1 s1 b2 x3 x4 r2 r3 n1 x5 b3 r4 l3 l4 = some r) (fun | (u0, u1, u2, u3, u4, u5) => (.v (.int .i64 u0))) (fun | (u0, u1, u2, u3, u4, u5) => [.to (.blk 92 [(.str s1), (.v (.bool b2)), (.wsl 1), (.wsl 2), (.v (.int .i64 x3)), (.v (.int .u64 u1)), (.wsl 3), (.ptr 4 0)]), .same, .same, .to (.prow 98 tm98 n1 8), .to (.blk 169 [(.wsl 6), (.v (.int .i64 u2)), (.v (.bool u3)), (.wsl 9)]), .gone, .same, .gone, .to (.gho tm98 u4 none), .to (.row (.ints 46 .u64 u5))]), [false, true, true, false, false, false, true, false]⟩) | _ => none) | _ => none) | _ => none) | _ => none) | _ => none) | _ => none) | _ => none) | _ => none) | _ => none)
 | _ => none
noncomputable def Z8g : Con := ⟨[none, none], fun a c => altC (Zco a c) (Zd7 a c), []⟩
noncomputable def Z9h (a : List SV) (c : List Ck) : Option CEff := match a, c with
 | [], [] => some ⟨[lock Obl fun _ => ∃ r, lock Z3z = some r], .many (Bool) (fun r => lock Z3z = some r) (fun u0 => (.v (.bool u0))) (fun u0 => []), []⟩
 | _, _ => none
noncomputable def Zdb : Con := ⟨[], fun a c => Z9h a c, []⟩
noncomputable def Z90 (a : List SV) (c : List Ck) : Option CEff := match a, c with
 | [(.rsl (.row 33 (.st [.str, .bool, (.row 83 (.st [.str, (.int .u64), (.int .u64), (.int .u64), (.int .i64), .bool])), (.st [(.row 96 (.st [(.int .i64), (.int .i64), (.int .i64)])), (.int .i64)])]) r1)), (.rsl (.row 58 (.st [(.int .i64), (.int .i64), (.int .i64), (.int .u64), (.int .u8)]) r2))], [] => some ⟨[lock Obl fun _ => ∃ r, lock Z4h r1 r2 = some r], .many (Bool) (fun r => lock Z4h r1 r2 = some r) (fun u0 => (.v (.bool u0))) (fun u0 => []), []⟩
 | _, _ => none
noncomputable def Z8u : Con := ⟨[(some (.row 33 (.st [.str, .bool, (.row 83 (.st [.str, (.int .u64), (.int .u64), (.int .u64), (.int .i64), .bool])), (.st [(.row 96 (.st [(.int .i64), (.int .i64), (.int .i64)])), (.int .i64)])]))), (some (.row 58 (.st [(.int .i64), (.int .i64), (.int .i64), (.int .u64), (.int .u8)])))], fun a c => Z90 a c, []⟩
noncomputable def Zdr (a : List SV) (c : List Ck) : Option CEff := match a, c with
 | [(.agg [(.str s1), (.v (.bool b1)), (.rsl (.row 83 (.st [.str, (.int .u64), (.int .u64), (.int .u64), (.int .i64), .bool]) r1)), (.rsl (.row 96 (.st [(.int .i64), (.int .i64), (.int .i64)]) r2)), (.v (.int .i64 x1))])], [] => some ⟨[lock Obl fun _ => ∃ r, lock Zy s1 b1 r1 r2 x1 = some r], .many ((List D) × (List D)) (fun r => lock Zy s1 b1 r1 r2 x1 = some r) (fun | (u0, u1) => (.agg [(.str s1), (.v (.bool b1)), (.rsl (.row 82 (.st [.str, (.int .u64), (.int .u64), (.int .u64), (.int .i64), .bool]) u0)), (.rsl (.row 95 (.st [(.int .i64), (.int .i64), (.int .i64)]) u1)), (.v (.int .i64 x1))])) (fun | (u0, u1) => []), []⟩
 | _, _ => none
noncomputable def Za7 : Con := ⟨[none], fun a c => Zdr a c, []⟩
noncomputable def Zbk (a : List SV) (c : List Ck) : Option CEff := match a, c with
 | [(.agg [(.rsl (.row 95 (.st [(.int .i64), (.int .i64), (.int .i64)]) r1)), (.v (.int .i64 x1))]), (.v (.int .i64 x2))], [] => some ⟨[lock Obl fun _ => ∃ r, lock Z27 r1 x1 x2 = some r], .many (Int) (fun r => lock Z27 r1 x1 x2 = some r) (fun u0 => (.v (.int .i64 u0))) (fun u0 => []), []⟩
 | _, _ => none
noncomputable def Zg8 : Con := ⟨[none, none], fun a c => Zbk a c, []⟩
noncomputable def Zcz (a : List SV) (c : List Ck) : Option CEff := match a, c with
 | [(.agg [(.rsl (.row 95 (.st [(.int .i64), (.int .i64), (.int .i64)]) r1)), (.v (.int .i64 x1))]), (.agg [(.rsl (.row 95 (.st [(.int .i64), (.int .i64), (.int .i64)]) r2)), (.v (.int .i64 x2))])], [] => some ⟨[lock Obl fun _ => ∃ r, lock Z39 r1 x1 r2 x2 = some r], .many (Bool) (fun r => lock Z39 r1 x1 r2 x2 = some r) (fun u0 => (.v (.bool u0))) (fun u0 => []), []⟩
 | _, _ => none
noncomputable def Zgr : Con := ⟨[none, none], fun a c => Zcz a c, []⟩
noncomputable def Zdu (a : List SV) (c : List Ck) : Option CEff := match a, c with
 | [(.agg [(.str s1), (.v (.bool b1)), (.rsl (.row 82 (.st [.str, (.int .u64), (.int .u64), (.int .u64), (.int .i64), .bool]) r1)), (.rsl (.row 95 (.st [(.int .i64), (.int .i64), (.int .i64)]) r2)), (.v (.int .i64 x1))]), (.agg [(.str s2), (.v (.bool b2)), (.rsl (.row 82 (.st [.str, (.int .u64), (.int .u64), (.int .u64), (.int .i64), .bool]) r3)), (.rsl (.row 95 (.st [(.int .i64), (.int .i64), (.int .i64)]) r4)), (.v (.int .i64 x2))])], [] => some ⟨[lock Obl fun _ => ∃ r, lock Z1n s1 b1 r1 r2 x1 s2 b2 r3 r4 x2 = some r], .many (Bool) (fun r => lock Z1n s1 b1 r1 r2 x1 s2 b2 r3 r4 x2 = some r) (fun u0 => (.v (.bool u0))) (fun u0 => []), []⟩
 | _, _ => none
noncomputable def Zg1 : Con := ⟨[none, none], fun a c => Zdu a c, []⟩
noncomputable def Zfp (a : List SV) (c : List Ck) : Option CEff := match a, c with
 | [(.agg [(.v (.int .u64 x1)), (.rsl (.ints 46 .u64 l1)), (.v (.int .i64 x2)), (.v (.bool b1)), (.rsl (.ints 46 .u64 l2)), (.rsl (.row 72 (.row 75 (.st [(.int .u64), (.int .i64), (.int .i64)])) r1))])], [] => some ⟨[lock Obl fun _ => ∃ r, lock Z20 x1 l1 x2 b1 l2 r1 = some r], .many (Unit) (fun r => lock Z20 x1 l1 x2 b1 l2 r1 = some r) (fun _ => (.agg [(.v (.int .u64 x1)), (.rsl (.ints 46 .u64 l1)), (.v (.int .i64 x2)), (.v (.bool b1)), (.rsl (.ints 46 .u64 l2)), (.rsl (.row 72 (.row 75 (.st [(.int .u64), (.int .i64), (.int .i64)])) r1))])) (fun _ => []), []⟩
 | _, _ => none
noncomputable def Zbo : Con := ⟨[none], fun a c => Zfp a c, []⟩
noncomputable def Zfu (a : List SV) (c : List Ck) : Option CEff := match a, c with
 | [(.rsl (.ints 46 .u64 l1)), (.rsl (.ints 46 .u64 l2))], [] => some ⟨[lock Obl fun _ => ∃ r, lock Z1k l1 l2 = some r], .many (Bool) (fun r => lock Z1k l1 l2 = some r) (fun u0 => (.v (.bool u0))) (fun u0 => []), []⟩
 | _, _ => none
noncomputable def Z9l : Con := ⟨[(some (.ints 46 .u64)), (some (.ints 46 .u64))], fun a c => Zfu a c, []⟩
noncomputable def Zcg (a : List SV) (c : List Ck) : Option CEff := match a, c with
 | [(.rsl (.row 75 (.st [(.int .u64), (.int .i64), (.int .i64)]) r1)), (.rsl (.row 75 (.st [(.int .u64), (.int .i64), (.int .i64)]) r2))], [] => some ⟨[lock Obl fun _ => ∃ r, lock Z1y r1 r2 = some r], .many (Bool) (fun r => lock Z1y r1 r2 = some r) (fun u0 => (.v (.bool u0))) (fun u0 => []), []⟩
 | _, _ => none
noncomputable def Zaw : Con := ⟨[(some (.row 75 (.st [(.int .u64), (.int .i64), (.int .i64)]))), (some (.row 75 (.st [(.int .u64), (.int .i64), (.int .i64)])))], fun a c => Zcg a c, []⟩
noncomputable def Zbs (a : List SV) (c : List Ck) : Option CEff := match a, c with
 | [(.agg [(.v (.int .u64 x1)), (.rsl (.ints 46 .u64 l1)), (.v (.int .i64 x2)), (.v (.bool b1)), (.rsl (.ints 46 .u64 l2)), (.rsl (.row 72 (.row 75 (.st [(.int .u64), (.int .i64), (.int .i64)])) r1))]), (.agg [(.v (.int .u64 x3)), (.rsl (.ints 46 .u64 l3)), (.v (.int .i64 x4)), (.v (.bool b2)), (.rsl (.ints 46 .u64 l4)), (.rsl (.row 72 (.row 75 (.st [(.int .u64), (.int .i64), (.int .i64)])) r2))])], [] => some ⟨[lock Obl fun _ => ∃ r, lock Z18 x1 l1 x2 b1 l2 r1 x3 l3 x4 b2 l4 r2 = some r], .many (Bool) (fun r => lock Z18 x1 l1 x2 b1 l2 r1 x3 l3 x4 b2 l4 r2 = some r) (fun u0 => (.v (.bool u0))) (fun u0 => []), []⟩
 | _, _ => none
noncomputable def Z9w : Con := ⟨[none, none], fun a c => Zbs a c, []⟩
noncomputable def Zgh (a : List SV) (c : List Ck) : Option CEff := match a with
 | [(.ptr 0 0), (.rsl (.row 33 (.st [.str, .bool, (.row 83 (.st [.str, (.int .u64), (.int .u64), (.int .u64), (.int .i64), .bool])), (.st [(.row 96 (.st [(.int .i64), (.int .i64), (.int .i64)])), (.int .i64)])]) r1)), (.agg [(.v (.int .i64 x1)), (.v (.int .i64 x2)), (.v (.int .i64 x3)), (.v (.int .u64 x4)), (.v (.int .u8 x5))])] => (match c with | [g0, g1, g2, g3, g4, g5, g6, g7] => (match g0 with | .blk 92 [(.str s1), (.v (.bool b1)), (.wsl 1), (.wsl 2), (.v (.int .i64 x6)), (.v (.int .u64 x7)), (.wsl 3), (.ptr 4 0)] => (match g1 with | .row (.row 83 (.st [.str, (.int .u64), (.int .u64), (.int .u64), (.int .i64), .bool]) r2) => (match g2 with | .row (.row 96 (.st [(.int .i64), (.int .i64), (.int .i64)]) r3) => (match g3 with | .prow 98 w1 n1 5 => (match g4 with | .blk 169 [(.wsl 6), (.v (.int .i64 x8)), (.v (.bool b2)), (.wsl 7)] => (match g5 with | .gho w2 r4 none => (match g6 with | .row (.ints 46 .u64 l1) => (match g7 with | .row (.ints 46 .u64 l2) => (match Tm.eq tm98 w1 && Tm.eq tm98 w2 with | false => none | true => some ⟨[lock Obl fun _ => ∃ r, lock Z48 r1 x1 x2 x3 x4 x5 s1 b1 x6 x7 r2 r3 n1 x8 b2 r4 l1 l2 = some r], .many (Int × Int × Int × Int × Int × Int × (List UInt8) × Bool × Int × Int × (List D) × (List D) × Nat × Int × Bool × (List D) × (List Int) × (List Int)) (fun r => lock Z48 r1 x1 x2 x3 x4 x5 s1 b1 x6 x7 r2 r3 n1 x8 b2 r4 l1 l2 = some r) (fun | (u0, u1, u2, u3, u4, u5, u6, u7, u8, u9, u10, u11, u12, u13, u14, u15, u16, u17) => (.tup [(.agg [(.v (.int .u64 u0)), (.v (.int .i64 u1)), (.v (.int .i64 u2))]), (.agg [(.v (.int .u64 u3)), (.v (.int .i64 u4)), (.v (.int .i64 u5))])])) (fun | (u0, u1, u2, u3, u4, u5, u6, u7, u8, u9, u10, u11, u12, u13, u14, u15, u16, u17) => [.to (.blk 92 [(.str u6), (.v (.bool u7)), (.wsl 8), (.wsl 9), (.v (.int .i64 u8)), (.v (.int .u64 u9)), (.wsl 10), (.ptr 11 0)]), .gone, .gone, .gone, .gone, .gone, .gone, .gone, .to (.row (.row 83 (.st [.str, (.int .u64), (.int .u64), (.int .u64), (.int .i64), .bool]) u10)), .to (.row (.row 96 (.st [(.int .i64), (.int .i64), (.int .i64)]) u11)), .to (.prow 98 tm98 u12 12), .to (.blk 169 [(.wsl 13), (.v (.int .i64 u13)), (.v (.bool u14)), (.wsl 14)]), .to (.gho tm98 u15 none), .to (.row (.ints 46 .u64 u16)), .to (.row (.ints 46 .u64 u17))]), [false, false, false, false, false, false, false, false]⟩) | _ => none) | _ => none) | _ => none) | _ => none) | _ => none) | _ => none) | _ => none) | _ => none) | _ => none)
 | _ => none
noncomputable def Ze2 : Con := ⟨[none, (some (.row 33 (.st [.str, .bool, (.row 83 (.st [.str, (.int .u64), (.int .u64), (.int .u64), (.int .i64), .bool])), (.st [(.row 96 (.st [(.int .i64), (.int .i64), (.int .i64)])), (.int .i64)])]))), none], fun a c => Zgh a c, []⟩
noncomputable def Zg4 (a : List SV) (c : List Ck) : Option CEff := match a, c with
 | [(.rsl (.row 33 (.st [.str, .bool, (.row 83 (.st [.str, (.int .u64), (.int .u64), (.int .u64), (.int .i64), .bool])), (.st [(.row 96 (.st [(.int .i64), (.int .i64), (.int .i64)])), (.int .i64)])]) r1)), (.rsl (.row 58 (.st [(.int .i64), (.int .i64), (.int .i64), (.int .u64), (.int .u8)]) r2)), (.v (.int .u8 x1))], [] => some ⟨[lock Obl fun _ => ∃ r, lock Z3m r1 r2 x1 = some r], .many (Bool) (fun r => lock Z3m r1 r2 x1 = some r) (fun u0 => (.v (.bool u0))) (fun u0 => []), []⟩
 | _, _ => none
noncomputable def Zms : Con := ⟨[], fun a c => Zg4 a c, []⟩
end Go.Proofs.Ytojbpjcfdjakkaa
end
section
set_option linter.unusedVariables false
set_option maxRecDepth 20000
namespace Go.Proofs.Ytojbpjcfdjakkaa
open Go.RowKit
def r (d : Nat) (o : IOp) : Io := ⟨some d, none, [], o⟩
def r0 (o : IOp) : Io := ⟨none, none, [], o⟩
def Zjj : IC := (.seq (.reg false [r 6 (.mv (.k (.v (.bool false))))])
 (.seq (.reg false [r 23 (.call 8 []), r 7 (.mv (.t 23))])
 (.seq (.seq (.reg false [r 24 (.mv (.t 7)), r 25 (.bnot (.t 24))])
 (.cond (.t 25)
 (.seq (.reg false [r 6 (.mv (.k (.v (.bool false))))])
 .ret)
 .skip))
 (.seq (.reg false [r 26 (.mv (.t 0)), r 27 (.mv (.t 1)), r 28 (.call 9 [(.t 26), (.t 27)]), r 8 (.mv (.t 28))])
 (.seq (.seq (.reg false [r 29 (.mv (.t 8)), r 30 (.bnot (.t 29))])
 (.cond (.t 30)
 (.seq (.reg false [r 6 (.mv (.k (.v (.bool true))))])
 .ret)
 .skip))
 (.seq (.reg false [r 31 (.mv (.t 0)), r 32 (.idx (.t 31) (.k (.v (.int .i64 0))) 5), r 33 (.lda (.t 32) 5), r 34 (.call 10 [(.t 33)]), r 9 (.mv (.t 34))])
 (.seq (.seq (.reg false [r 35 (.mv (.t 9)), r 36 (.isn 0 false (.t 35))])
 (.cond (.t 36)
 (.seq (.reg false [r 6 (.mv (.k (.v (.bool true))))])
 .ret)
 .skip))
 (.seq (.seq (.reg false [r 10 (.mv (.k (.v (.int .i64 0))))])
 (.block 0
 (.loop
 (.seq (.seq (.reg false [r 37 (.mv (.t 10)), r 38 (.mv (.t 1)), r 39 (.len false (.t 38)), r 40 (.ib .lt .i64 (.t 37) (.t 39))])
 (.cond (.t 40)
 .skip
 (.exit 0)))
 (.seq (.block 1
 (.reg false [r 43 (.mv (.t 9)), r 44 (.mv (.t 0)), r 45 (.mv (.t 1)), r 46 (.mv (.t 10)), r 47 (.idx (.t 45) (.t 46) 5), r 48 (.lda (.t 47) 5), r 49 (.call 25 [(.t 43), (.t 44), (.t 48)])]))
 (.reg false [r 41 (.mv (.t 10)), r 42 (.ib .add .i64 (.t 41) (.k (.v (.int .i64 1)))), r 10 (.mv (.t 42))]))))))
 (.seq (.reg false [r 50 (.mv (.t 9)), r 51 (.call 21 [(.t 50)]), r 11 (.new 67 [(.v (.int .u64 0)), .nsl, (.v (.int .i64 0)), (.v (.bool false)), .nsl, .nsl]), r0 (.st (.t 11) (.t 51) 6)])
 (.seq (.reg false [r 52 (.mv (.t 9)), r 53 (.call 24 [(.t 52)]), r 12 (.new 33 [(.str []), (.v (.bool false)), .nsl, .nsl, (.v (.int .i64 0))]), r0 (.st (.t 12) (.t 53) 5)])
 (.seq (.reg false [r 54 (.mv (.t 0)), r 55 (.mv (.t 2)), r 56 (.conv .i64 (.t 55)), r 57 (.mv (.t 0)), r 58 (.len false (.t 57)), r 59 (.ib .rem .i64 (.t 56) (.t 58)), r 60 (.idx (.t 54) (.t 59) 5), r 61 (.lda (.t 60) 5), r 13 (.new 33 [(.str []), (.v (.bool false)), .nsl, .nsl, (.v (.int .i64 0))]), r0 (.st (.t 13) (.t 61) 5)])
 (.seq (.reg false [r 62 (.mv (.t 9)), r 63 (.lda (.t 13) 5), r 64 (.call 15 [(.t 62), (.t 63), (.k (.v (.bool false)))]), r 14 (.mv (.t 64))])
 (.seq (.reg false [r 65 (.mv (.t 9)), r 66 (.call 21 [(.t 65)]), r 15 (.new 67 [(.v (.int .u64 0)), .nsl, (.v (.int .i64 0)), (.v (.bool false)), .nsl, .nsl]), r0 (.st (.t 15) (.t 66) 6)])
 (.seq (.reg true [r 67 (.lda (.t 11) 6), ⟨some 68, none, [0], .call 20 [(.t 67)]⟩, r 69 (.lda (.t 15) 6), ⟨some 70, none, [2, 1, 0], .call 20 [(.t 69)]⟩, ⟨some 71, none, [1, 0, 3, 2], .call 19 [(.t 68), (.t 70)]⟩, ⟨some 16, none, [4, 1, 0, 3, 2], .mv (.t 71)⟩])
 (.seq (.seq (.reg true [r 72 (.mv (.t 14)), ⟨some 73, none, [0], .ib .ne .i64 (.t 72) (.k (.v (.int .i64 0)))⟩, ⟨some 74, none, [1, 0], .mv (.t 73)⟩, ⟨some 75, some (74, true), [2, 1, 0], .mv (.t 16)⟩, ⟨some 76, some (74, true), [3, 2, 1, 0], .bnot (.t 75)⟩, ⟨some 77, some (74, true), [4, 3, 2, 1, 0], .mv (.t 76)⟩, ⟨some 78, some (77, false), [5, 4, 3, 2, 1, 0], .mv (.t 9)⟩, ⟨some 79, some (77, false), [6, 5, 4, 3, 2, 1, 0], .call 24 [(.t 78)]⟩, ⟨some 80, some (77, false), [7, 6, 5, 4, 3, 2, 1, 0], .call 12 [(.t 79)]⟩, ⟨some 81, some (77, false), [5, 4, 3, 2, 1, 0], .lda (.t 12) 5⟩, ⟨some 82, some (77, false), [9, 5, 4, 3, 2, 1, 0, 8, 7, 6], .call 12 [(.t 81)]⟩, ⟨some 83, some (77, false), [8, 7, 6, 5, 4, 3, 2, 1, 0, 10, 9], .call 23 [(.t 80), (.t 82)]⟩, ⟨some 84, some (77, false), [11, 8, 7, 6, 5, 4, 3, 2, 1, 0, 10, 9], .bnot (.t 83)⟩, ⟨some 85, some (74, true), [5, 4, 3, 2, 1, 0, 12, 11, 8, 7, 6, 10, 9], .pick (.t 77) (.k (.v (.bool true))) (.t 84)⟩, ⟨some 86, none, [2, 1, 0, 13, 5, 4, 3, 12, 11, 8, 7, 6, 10, 9], .pick (.t 74) (.t 85) (.k (.v (.bool false)))⟩, ⟨some 87, none, [14, 2, 1, 0, 13, 5, 4, 3, 12, 11, 8, 7, 6, 10, 9], .mv (.t 86)⟩, ⟨some 88, some (87, false), [15, 14, 2, 1, 0, 13, 5, 4, 3, 12, 11, 8, 7, 6, 10, 9], .mv (.t 9)⟩, ⟨some 89, some (87, false), [15, 14, 2, 1, 0, 13, 5, 4, 3, 12, 11, 8, 7, 6, 10, 9], .mv (.t 9)⟩, ⟨some 90, some (87, false), [17, 15, 14, 2, 1, 0, 13, 5, 4, 3, 12, 11, 8, 7, 6, 10, 9], .call 24 [(.t 89)]⟩, ⟨some 91, some (87, false), [16, 15, 14, 2, 1, 0, 13, 5, 4, 3, 12, 11, 8, 7, 6, 10, 9, 18, 17], .call 15 [(.t 88), (.t 90), (.k (.v (.bool false)))]⟩, ⟨some 92, some (87, false), [19, 16, 15, 14, 2, 1, 0, 13, 5, 4, 3, 12, 11, 8, 7, 6, 10, 9, 18, 17], .ib .ne .i64 (.t 91) (.k (.v (.int .i64 0)))⟩, ⟨some 93, none, [15, 14, 2, 1, 0, 13, 5, 4, 3, 12, 11, 8, 7, 6, 10, 9, 20, 19, 16, 18, 17], .pick (.t 87) (.k (.v (.bool true))) (.t 92)⟩, ⟨some 94, none, [21, 15, 14, 2, 1, 0, 13, 5, 4, 3, 12, 11, 8, 7, 6, 10, 9, 20, 19, 16, 18, 17], .mv (.t 93)⟩, ⟨some 95, some (94, false), [22, 21, 15, 14, 2, 1, 0, 13, 5, 4, 3, 12, 11, 8, 7, 6, 10, 9, 20, 19, 16, 18, 17], .mv (.t 9)⟩, ⟨some 96, some (94, false), [23, 22, 21, 15, 14, 2, 1, 0, 13, 5, 4, 3, 12, 11, 8, 7, 6, 10, 9, 20, 19, 16, 18, 17], .call 21 [(.t 95)]⟩, ⟨some 97, some (94, false), [24, 23, 22, 21, 15, 14, 2, 1, 0, 13, 5, 4, 3, 12, 11, 8, 7, 6, 10, 9, 20, 19, 16, 18, 17], .call 20 [(.t 96)]⟩, ⟨some 98, some (94, false), [22, 21, 15, 14, 2, 1, 0, 13, 5, 4, 3, 12, 11, 8, 7, 6, 10, 9, 20, 19, 16, 18, 17], .lda (.t 15) 6⟩, ⟨some 99, some (94, false), [26, 22, 21, 15, 14, 2, 1, 0, 13, 5, 4, 3, 12, 11, 8, 7, 6, 10, 9, 20, 19, 16, 18, 17, 25, 24, 23], .call 20 [(.t 98)]⟩, ⟨some 100, some (94, false), [25, 24, 23, 22, 21, 15, 14, 2, 1, 0, 13, 5, 4, 3, 12, 11, 8, 7, 6, 10, 9, 20, 19, 16, 18, 17, 27, 26], .call 19 [(.t 97), (.t 99)]⟩, ⟨some 101, some (94, false), [28, 25, 24, 23, 22, 21, 15, 14, 2, 1, 0, 13, 5, 4, 3, 12, 11, 8, 7, 6, 10, 9, 20, 19, 16, 18, 17, 27, 26], .bnot (.t 100)⟩, ⟨some 102, none, [22, 21, 15, 14, 2, 1, 0, 13, 5, 4, 3, 12, 11, 8, 7, 6, 10, 9, 20, 19, 16, 18, 17, 29, 28, 25, 24, 23, 27, 26], .pick (.t 94) (.k (.v (.bool true))) (.t 101)⟩])
 (.cond (.t 102)
 (.seq (.reg false [r 6 (.mv (.k (.v (.bool false))))])
 .ret)
 .skip))
 (.seq (.seq (.reg false [r 103 (.lda (.t 13) 5), r 104 (.call 13 [(.t 103)]), r 105 (.bnot (.t 104))])
 (.cond (.t 105)
 (.seq (.reg false [r 106 (.mv (.t 14)), r 107 (.ib .eq .i64 (.t 106) (.k (.v (.int .i64 1)))), r 6 (.mv (.t 107))])
 .ret)
 .skip))
 (.seq (.reg false [r 108 (.mv (.t 9)), r 109 (.call 14 [(.t 108)]), r 17 (.mv (.t 109))])
 (.seq (.reg false [r 110 (.mv (.t 9)), r 111 (.lda (.t 13) 5), r 112 (.call 15 [(.t 110), (.t 111), (.k (.v (.bool true)))]), r 18 (.mv (.t 112))])
 (.seq (.reg false [r 113 (.mv (.t 9)), r 114 (.call 21 [(.t 113)]), r 115 (.part (.t 114) 5 1 false), r 19 (.mv (.t 115))])
 (.seq (.reg false [r 116 (.lda (.t 13) 5), r 117 (.call 12 [(.t 116)]), r 118 (.part (.t 117) 3 2 true), r 20 (.new 38 [.nsl, (.v (.int .i64 0))]), r0 (.st (.t 20) (.t 118) 2)])
 (.seq (.seq (.reg false [r 21 (.mv (.k (.v (.int .i64 0))))])
 (.block 2
 (.loop
 (.seq (.seq (.reg false [r 119 (.mv (.t 21)), r 120 (.mv (.t 19)), r 121 (.len false (.t 120)), r 122 (.ib .lt .i64 (.t 119) (.t 121))])
 (.cond (.t 122)
 .skip
 (.exit 2)))
 (.seq (.block 3
 (.seq (.reg false [r 125 (.mv (.t 17)), r 126 (.mv (.t 19)), r 127 (.mv (.t 21)), r 128 (.idx (.t 126) (.t 127) 1), r 129 (.ld (.t 128)), r 130 (.len false (.t 129)), r 131 (.ib .sub .i64 (.t 125) (.t 130)), r 17 (.mv (.t 131))])
 (.seq (.reg false [r 22 (.mv (.k (.v (.int .i64 0))))])
 (.block 4
 (.loop
 (.seq (.seq (.reg false [r 132 (.mv (.t 22)), r 133 (.mv (.t 19)), r 134 (.mv (.t 21)), r 135 (.idx (.t 133) (.t 134) 1), r 136 (.ld (.t 135)), r 137 (.len false (.t 136)), r 138 (.ib .lt .i64 (.t 132) (.t 137))])
 (.cond (.t 138)
 .skip
 (.exit 4)))
 (.seq (.block 5
 (.seq (.reg true [r 141 (.lda (.t 20) 2), r 142 (.mv (.t 19)), r 143 (.mv (.t 21)), ⟨some 144, none, [1, 2], .idx (.t 142) (.t 143) 1⟩, ⟨some 145, none, [3, 1, 2], .ld (.t 144)⟩, r 146 (.mv (.t 22)), ⟨some 147, none, [4, 3, 1, 2, 5], .idx (.t 145) (.t 146) 3⟩, ⟨some 148, none, [6, 4, 3, 1, 2, 5], .fld (.t 147) 1⟩, ⟨some 149, none, [7, 6, 4, 3, 1, 2, 5], .ld (.t 148)⟩, ⟨some 150, none, [0, 8, 7, 6, 4, 3, 1, 2, 5], .call 27 [(.t 141), (.t 149)]⟩, r 151 (.mv (.t 21)), ⟨some 152, none, [9, 0, 8, 7, 6, 4, 3, 1, 2, 5, 10], .ib .ne .i64 (.t 150) (.t 151)⟩])
 (.cond (.t 152)
 (.seq (.reg false [r 6 (.mv (.k (.v (.bool false))))])
 .ret)
 .skip)))
 (.reg false [r 139 (.mv (.t 22)), r 140 (.ib .add .i64 (.t 139) (.k (.v (.int .i64 1)))), r 22 (.mv (.t 140))]))))))))
 (.reg false [r 123 (.mv (.t 21)), r 124 (.ib .add .i64 (.t 123) (.k (.v (.int .i64 1)))), r 21 (.mv (.t 124))]))))))
 (.seq (.reg true [r 153 (.mv (.t 18)), ⟨some 154, none, [0], .ib .eq .i64 (.t 153) (.k (.v (.int .i64 0)))⟩, ⟨some 155, none, [1, 0], .mv (.t 154)⟩, ⟨some 156, some (155, true), [2, 1, 0], .mv (.t 17)⟩, ⟨some 157, some (155, true), [3, 2, 1, 0], .ib .eq .i64 (.t 156) (.k (.v (.int .i64 0)))⟩, ⟨some 158, none, [2, 1, 0, 4, 3], .pick (.t 155) (.t 157) (.k (.v (.bool false)))⟩, ⟨some 159, none, [5, 2, 1, 0, 4, 3], .mv (.t 158)⟩, ⟨some 160, some (159, true), [6, 5, 2, 1, 0, 4, 3], .mv (.t 9)⟩, ⟨some 161, some (159, true), [7, 6, 5, 2, 1, 0, 4, 3], .call 24 [(.t 160)]⟩, ⟨some 162, some (159, true), [8, 7, 6, 5, 2, 1, 0, 4, 3], .call 12 [(.t 161)]⟩, ⟨some 163, some (159, true), [6, 5, 2, 1, 0, 4, 3], .lda (.t 13) 5⟩, ⟨some 164, some (159, true), [10, 6, 5, 2, 1, 0, 4, 3, 9, 8, 7], .call 12 [(.t 163)]⟩, ⟨some 165, some (159, true), [9, 8, 7, 6, 5, 2, 1, 0, 4, 3, 11, 10], .call 23 [(.t 162), (.t 164)]⟩, ⟨some 166, none, [6, 5, 2, 1, 0, 4, 3, 12, 9, 8, 7, 11, 10], .pick (.t 159) (.t 165) (.k (.v (.bool false)))⟩, ⟨some 6, none, [13, 6, 5, 2, 1, 0, 4, 3, 12, 9, 8, 7, 11, 10], .mv (.t 166)⟩])
 .ret))))))))))))))))))))))
theorem Z10l : compF Try.prog Try.f7 = some (Zjj, [.t 6], 167) := by kernel_rfl
-- ros 7 [(some (.row 33 (.st [.str, .bool, (.row 83 (.st [.str, (.int .u64), (.int .u64), (.int .u64), (.int .i64), .bool])), (.st [(.row 96 (.st [(.int .i64), (.int .i64), (.int .i64)])), (.int .i64)])]))), (some (.row 58 (.st [(.int .i64), (.int .i64), (.int .i64), (.int .u64), (.int .u8)]))), none] TYS [(.row 33 (.st [.str, .bool, (.row 83 (.st [.str, (.int .u64), (.int .u64), (.int .u64), (.int .i64), .bool])), (.st [(.row 96 (.st [(.int .i64), (.int .i64), (.int .i64)])), (.int .i64)])])), (.row 58 (.st [(.int .i64), (.int .i64), (.int .i64), (.int .u64), (.int .u8)])), (.int .u8)]

def Zm4 : IC := (.seq (.reg false [r 0 (.mv (.k (.v (.bool false))))])
 (.seq (.reg false [r 18 (.build [(.str []), (.v (.int .u64 0)), (.v (.int .u64 0)), (.v (.int .u64 0)), (.v (.int .i64 0)), (.v (.bool false))] [(0, 1, (.k (.str [120]))), (1, 1, (.k (.v (.int .u64 1500)))), (2, 1, (.k (.v (.int .u64 10)))), (3, 1, (.k (.v (.int .u64 100)))), (4, 1, (.k (.v (.int .i64 2)))), (5, 1, (.k (.v (.bool true))))]), r 19 (.bsl (.row 83 (.st [.str, (.int .u64), (.int .u64), (.int .u64), (.int .i64), .bool])) 1 [(.str []), (.v (.int .u64 0)), (.v (.int .u64 0)), (.v (.int .u64 0)), (.v (.int .i64 0)), (.v (.bool false))] [(0, 6, (.t 18))]), r 20 (.build [(.str []), (.v (.bool false)), .nsl, .nsl, (.v (.int .i64 0))] [(0, 1, (.k (.str [112]))), (1, 1, (.k (.v (.bool true)))), (2, 1, (.t 19))]), r 1 (.new 33 [(.str []), (.v (.bool false)), .nsl, .nsl, (.v (.int .i64 0))]), r0 (.st (.t 1) (.t 20) 5)])
 (.seq (.reg false [r 21 (.lda (.t 1) 5), r 22 (.call 10 [(.t 21)]), r 2 (.mv (.t 22))])
 (.seq (.seq (.reg false [r 23 (.mv (.t 2)), r 24 (.isn 0 false (.t 23))])
 (.cond (.t 24)
 (.seq (.reg false [r 0 (.mv (.k (.v (.bool false))))])
 .ret)
 .skip))
 (.seq (.reg false [r 26 (.mv (.t 2)), r 27 (.call 26 [(.t 26), (.k (.v (.int .i64 1))), (.k (.v (.int .i64 60)))]), r 25 (.mv (.t 27)), r 28 (.ext (.t 25) 0), r 29 (.ext (.t 25) 1), r 3 (.new 75 [(.v (.int .u64 0)), (.v (.int .i64 0)), (.v (.int .i64 0))]), r0 (.st (.t 3) (.t 28) 3), r 4 (.mv (.t 29))])
 (.seq (.reg false [r 31 (.mv (.t 2)), r 32 (.call 26 [(.t 31), (.k (.v (.int .i64 2))), (.k (.v (.int .i64 70)))]), r 30 (.mv (.t 32)), r 33 (.ext (.t 30) 0), r 34 (.ext (.t 30) 1), r 5 (.new 75 [(.v (.int .u64 0)), (.v (.int .i64 0)), (.v (.int .i64 0))]), r0 (.st (.t 5) (.t 33) 3), r 6 (.mv (.t 34))])
 (.seq (.reg false [r 36 (.mv (.t 2)), r 37 (.call 26 [(.t 36), (.k (.v (.int .i64 1))), (.k (.v (.int .i64 5)))]), r 35 (.mv (.t 37)), r 38 (.ext (.t 35) 0), r 39 (.ext (.t 35) 1), r 7 (.new 75 [(.v (.int .u64 0)), (.v (.int .i64 0)), (.v (.int .i64 0))]), r0 (.st (.t 7) (.t 38) 3), r 8 (.mv (.t 39))])
 (.seq (.reg false [r 41 (.mv (.t 2)), r 42 (.call 29 [(.t 41)]), r 40 (.mv (.t 42)), r 43 (.ext (.t 40) 0), r 44 (.ext (.t 40) 1), r 45 (.ext (.t 40) 2), r 9 (.new 75 [(.v (.int .u64 0)), (.v (.int .i64 0)), (.v (.int .i64 0))]), r0 (.st (.t 9) (.t 43) 3), r 10 (.mv (.t 44)), r 11 (.mv (.t 45))])
 (.seq (.reg false [r 47 (.mv (.t 2)), r 48 (.call 29 [(.t 47)]), r 46 (.mv (.t 48)), r 49 (.ext (.t 46) 0), r 50 (.ext (.t 46) 1), r 51 (.ext (.t 46) 2), r 12 (.new 75 [(.v (.int .u64 0)), (.v (.int .i64 0)), (.v (.int .i64 0))]), r0 (.st (.t 12) (.t 49) 3), r 13 (.mv (.t 50)), r 14 (.mv (.t 51))])
 (.seq (.reg false [r 52 (.mv (.t 2)), r 53 (.call 28 [(.t 52), (.k (.v (.int .u64 3)))])])
 (.seq (.reg false [r 55 (.mv (.t 2)), r 56 (.call 29 [(.t 55)]), r 54 (.mv (.t 56)), r 57 (.ext (.t 54) 0), r 58 (.ext (.t 54) 1), r 59 (.ext (.t 54) 2), r 15 (.new 75 [(.v (.int .u64 0)), (.v (.int .i64 0)), (.v (.int .i64 0))]), r0 (.st (.t 15) (.t 57) 3), r 16 (.mv (.t 58)), r 17 (.mv (.t 59))])
 (.seq (.reg false [r 60 (.fld (.t 3) 0), r 61 (.ld (.t 60)), r 62 (.ib .eq .u64 (.t 61) (.k (.v (.int .u64 1)))), r 63 (.mv (.t 62)), ⟨some 64, some (63, true), [], .mv (.t 4)⟩, ⟨some 65, some (63, true), [], .ib .eq .i64 (.t 64) (.k (.v (.int .i64 0)))⟩, r 66 (.pick (.t 63) (.t 65) (.k (.v (.bool false)))), r 67 (.mv (.t 66)), ⟨some 68, some (67, true), [], .mv (.t 6)⟩, ⟨some 69, some (67, true), [], .ib .eq .i64 (.t 68) (.k (.v (.int .i64 0)))⟩, r 70 (.pick (.t 67) (.t 69) (.k (.v (.bool false)))), r 71 (.mv (.t 70)), ⟨some 72, some (71, true), [], .mv (.t 8)⟩, ⟨some 73, some (71, true), [], .ib .eq .i64 (.t 72) (.k (.v (.int .i64 35)))⟩, r 74 (.pick (.t 71) (.t 73) (.k (.v (.bool false)))), r 75 (.mv (.t 74)), ⟨some 76, some (75, true), [], .lda (.t 9) 3⟩, ⟨some 77, some (75, true), [], .lda (.t 3) 3⟩, ⟨some 78, some (75, true), [], .steq [0, 0, 0] false (.t 76) (.t 77)⟩, r 79 (.pick (.t 75) (.t 78) (.k (.v (.bool false)))), r 80 (.mv (.t 79)), ⟨some 81, some (80, true), [], .mv (.t 10)⟩, ⟨some 82, some (80, true), [], .sb .eq (.t 81) (.k (.str [120]))⟩, r 83 (.pick (.t 80) (.t 82) (.k (.v (.bool false)))), r 84 (.mv (.t 83)), ⟨some 85, some (84, true), [], .mv (.t 11)⟩, r 86 (.pick (.t 84) (.t 85) (.k (.v (.bool false)))), r 87 (.mv (.t 86)), ⟨some 88, some (87, true), [], .mv (.t 14)⟩, ⟨some 89, some (87, true), [], .bnot (.t 88)⟩, r 90 (.pick (.t 87) (.t 89) (.k (.v (.bool false)))), r 91 (.mv (.t 90)), ⟨some 92, some (91, true), [], .mv (.t 17)⟩, r 93 (.pick (.t 91) (.t 92) (.k (.v (.bool false)))), r 94 (.mv (.t 93)), ⟨some 95, some (94, true), [], .fld (.t 15) 1⟩, ⟨some 96, some (94, true), [], .ld (.t 95)⟩, ⟨some 97, some (94, true), [], .ib .eq .i64 (.t 96) (.k (.v (.int .i64 2)))⟩, r 98 (.pick (.t 94) (.t 97) (.k (.v (.bool false)))), r 99 (.mv (.t 98)), ⟨some 100, some (99, true), [], .mv (.t 2)⟩, ⟨some 101, some (99, true), [], .call 14 [(.t 100)]⟩, ⟨some 102, some (99, true), [], .ib .eq .i64 (.t 101) (.k (.v (.int .i64 0)))⟩, r 103 (.pick (.t 99) (.t 102) (.k (.v (.bool false)))), r 104 (.mv (.t 103)), ⟨some 105, some (104, true), [], .mv (.t 2)⟩, ⟨some 106, some (104, true), [], .call 21 [(.t 105)]⟩, ⟨some 107, some (104, true), [], .part (.t 106) 1 1 false⟩, ⟨some 108, some (104, true), [], .len false (.t 107)⟩, ⟨some 109, some (104, true), [], .ib .eq .i64 (.t 108) (.k (.v (.int .i64 1)))⟩, r 110 (.pick (.t 104) (.t 109) (.k (.v (.bool false)))), r 111 (.mv (.t 110)), ⟨some 112, some (111, true), [], .mv (.t 2)⟩, ⟨some 113, some (111, true), [], .lda (.t 1) 5⟩, ⟨some 114, some (111, true), [], .call 15 [(.t 112), (.t 113), (.k (.v (.bool false)))]⟩, ⟨some 115, some (111, true), [], .ib .eq .i64 (.t 114) (.k (.v (.int .i64 0)))⟩, r 116 (.pick (.t 111) (.t 115) (.k (.v (.bool false)))), r 117 (.mv (.t 116)), ⟨some 118, some (117, true), [], .mv (.t 2)⟩, ⟨some 119, some (117, true), [], .call 24 [(.t 118)]⟩, ⟨some 120, some (117, true), [], .part (.t 119) 0 1 false⟩, ⟨some 121, some (117, true), [], .sb .eq (.t 120) (.k (.str [112]))⟩, r 122 (.pick (.t 117) (.t 121) (.k (.v (.bool false)))), r 123 (.mv (.t 122)), ⟨some 124, some (123, true), [], .lda (.t 1) 5⟩, ⟨some 125, some (123, true), [], .call 13 [(.t 124)]⟩, r 126 (.pick (.t 123) (.t 125) (.k (.v (.bool false)))), r 127 (.mv (.t 126)), ⟨some 128, some (127, true), [], .build [(.str []), (.v (.bool false)), .nsl, .nsl, (.v (.int .i64 0))] []⟩, ⟨some 129, some (127, true), [], .call 13 [(.t 128)]⟩, ⟨some 130, some (127, true), [], .bnot (.t 129)⟩, r 131 (.pick (.t 127) (.t 130) (.k (.v (.bool false)))), r 132 (.mv (.t 131)), ⟨some 133, some (132, true), [], .mv (.t 2)⟩, ⟨some 134, some (132, true), [], .build [(.v (.int .u64 0)), .nsl, (.v (.int .i64 0)), (.v (.bool false)), .nsl, .nsl] []⟩, ⟨some 135, some (132, true), [], .call 30 [(.t 133), (.t 134)]⟩, ⟨some 136, some (132, true), [], .ib .eq .i64 (.t 135) (.k (.v (.int .i64 1)))⟩, r 137 (.pick (.t 132) (.t 136) (.k (.v (.bool false)))), r 0 (.mv (.t 137))])
 .ret))))))))))))
theorem Z10s : compF Try.prog Try.f8 = some (Zm4, [.t 0], 138) := by kernel_rfl
-- ros 8 [] TYS []

def Zoa : IC := (.seq (.reg false [r 4 (.mv (.k (.v (.bool false))))])
 (.seq (.seq (.reg false [r 5 (.mv (.k (.v (.int .i64 0))))])
 (.block 0
 (.loop
 (.seq (.seq (.reg false [r 6 (.mv (.t 5)), r 7 (.mv (.t 0)), r 8 (.len false (.t 7)), r 9 (.ib .lt .i64 (.t 6) (.t 8))])
 (.cond (.t 9)
 .skip
 (.exit 0)))
 (.seq (.block 1
 (.seq (.reg false [r 12 (.mv (.t 0)), r 13 (.mv (.t 5)), r 14 (.idx (.t 12) (.t 13) 5), r 15 (.fld (.t 14) 2), r 16 (.ld (.t 15)), r 17 (.len false (.t 16)), r 18 (.ib .gt .i64 (.t 17) (.k (.v (.int .i64 20)))), r 19 (.mv (.t 18)), ⟨some 20, some (19, false), [], .mv (.t 0)⟩, ⟨some 21, some (19, false), [], .mv (.t 5)⟩, ⟨some 22, some (19, false), [], .idx (.t 20) (.t 21) 5⟩, ⟨some 23, some (19, false), [], .fld (.t 22) 3⟩, ⟨some 24, some (19, false), [], .fld (.t 23) 0⟩, ⟨some 25, some (19, false), [], .ld (.t 24)⟩, ⟨some 26, some (19, false), [], .len false (.t 25)⟩, ⟨some 27, some (19, false), [], .ib .gt .i64 (.t 26) (.k (.v (.int .i64 40)))⟩, r 28 (.pick (.t 19) (.k (.v (.bool true))) (.t 27))])
 (.cond (.t 28)
 (.seq (.reg false [r 4 (.mv (.k (.v (.bool false))))])
 .ret)
 .skip)))
 (.reg false [r 10 (.mv (.t 5)), r 11 (.ib .add .i64 (.t 10) (.k (.v (.int .i64 1)))), r 5 (.mv (.t 11))]))))))
 (.seq (.reg false [r 29 (.mv (.t 0)), r 30 (.len false (.t 29)), r 31 (.ib .gt .i64 (.t 30) (.k (.v (.int .i64 0)))), r 32 (.mv (.t 31)), ⟨some 33, some (32, true), [], .mv (.t 0)⟩, ⟨some 34, some (32, true), [], .len false (.t 33)⟩, ⟨some 35, some (32, true), [], .ib .le .i64 (.t 34) (.k (.v (.int .i64 10)))⟩, r 36 (.pick (.t 32) (.t 35) (.k (.v (.bool false)))), r 37 (.mv (.t 36)), ⟨some 38, some (37, true), [], .mv (.t 1)⟩, ⟨some 39, some (37, true), [], .len false (.t 38)⟩, ⟨some 40, some (37, true), [], .ib .le .i64 (.t 39) (.k (.v (.int .i64 300)))⟩, r 41 (.pick (.t 37) (.t 40) (.k (.v (.bool false)))), r 4 (.mv (.t 41))])
 .ret)))
theorem Zyp : compF Try.prog Try.f9 = some (Zoa, [.t 4], 42) := by kernel_rfl
-- ros 9 [(some (.row 33 (.st [.str, .bool, (.row 83 (.st [.str, (.int .u64), (.int .u64), (.int .u64), (.int .i64), .bool])), (.st [(.row 96 (.st [(.int .i64), (.int .i64), (.int .i64)])), (.int .i64)])]))), (some (.row 58 (.st [(.int .i64), (.int .i64), (.int .i64), (.int .u64), (.int .u8)])))] TYS [(.row 33 (.st [.str, .bool, (.row 83 (.st [.str, (.int .u64), (.int .u64), (.int .u64), (.int .i64), .bool])), (.st [(.row 96 (.st [(.int .i64), (.int .i64), (.int .i64)])), (.int .i64)])])), (.row 58 (.st [(.int .i64), (.int .i64), (.int .i64), (.int .u64), (.int .u8)]))]

def Zjk : IC := (.seq (.reg false [r 1 (.box 33 5 (.t 0)), r 2 (.mv (.k (.v (.pointer none))))])
 (.seq (.seq (.reg false [r 4 (.lda (.t 1) 5), r 5 (.call 13 [(.t 4)]), r 6 (.bnot (.t 5))])
 (.cond (.t 6)
 (.seq (.reg false [r 2 (.mv (.k (.v (.pointer none))))])
 .ret)
 .skip))
 (.seq (.reg false [r 7 (.build [(.str []), (.v (.bool false)), .nsl, .nsl, (.v (.int .i64 0)), (.v (.int .u64 0)), .nsl, (.v (.pointer none))] []), r 8 (.box 92 8 (.t 7)), r 3 (.mv (.t 8))])
 (.seq (.reg false [r 9 (.mv (.t 3)), r 10 (.lda (.t 1) 5), r 11 (.call 31 [(.t 9), (.t 10)])])
 (.seq (.reg false [r 12 (.mv (.t 3)), r 2 (.mv (.t 12))])
 .ret)))))
theorem Zxf : compF Try.prog Try.f10 = some (Zjk, [.t 2], 13) := by kernel_rfl
-- ros 10 [none] TYS [(.st [.str, .bool, (.row 83 (.st [.str, (.int .u64), (.int .u64), (.int .u64), (.int .i64), .bool])), (.st [(.row 96 (.st [(.int .i64), (.int .i64), (.int .i64)])), (.int .i64)])])]

def Zhi : IC := (.seq (.reg false [r 1 (.box 33 5 (.t 0)), r 2 (.new 40 [(.str []), (.v (.bool false)), .nsl, .nsl, (.v (.int .i64 0))])])
 (.seq (.reg false [r 8 (.fld (.t 1) 0), r 9 (.ld (.t 8)), r 10 (.fld (.t 1) 1), r 11 (.ld (.t 10)), r 12 (.fld (.t 1) 3), r 13 (.fld (.t 12) 1), r 14 (.ld (.t 13)), r 15 (.build [.nsl, (.v (.int .i64 0))] [(1, 1, (.t 14))]), r 16 (.build [(.str []), (.v (.bool false)), .nsl, .nsl, (.v (.int .i64 0))] [(0, 1, (.t 9)), (1, 1, (.t 11)), (3, 2, (.t 15))]), r 3 (.new 40 [(.str []), (.v (.bool false)), .nsl, .nsl, (.v (.int .i64 0))]), r0 (.st (.t 3) (.t 16) 5)])
 (.seq (.seq (.reg false [r 4 (.mv (.k (.v (.int .i64 0))))])
 (.block 0
 (.loop
 (.seq (.seq (.reg false [r 17 (.mv (.t 4)), r 18 (.fld (.t 1) 3), r 19 (.fld (.t 18) 0), r 20 (.ld (.t 19)), r 21 (.len false (.t 20)), r 22 (.ib .lt .i64 (.t 17) (.t 21))])
 (.cond (.t 22)
 .skip
 (.exit 0)))
 (.seq (.block 1
 (.seq (.reg false [r 25 (.fld (.t 1) 3), r 26 (.fld (.t 25) 0), r 27 (.ld (.t 26)), r 28 (.mv (.t 4)), r 29 (.idx (.t 27) (.t 28) 3), r 30 (.lda (.t 29) 3), r 5 (.new 96 [(.v (.int .i64 0)), (.v (.int .i64 0)), (.v (.int .i64 0))]), r0 (.st (.t 5) (.t 30) 3)])
 (.reg false [r 31 (.fld (.t 3) 3), r 32 (.fld (.t 31) 0), r 33 (.ld (.t 32)), r 34 (.fld (.t 5) 0), r 35 (.ld (.t 34)), r 36 (.fld (.t 5) 1), r 37 (.ld (.t 36)), r 38 (.fld (.t 5) 2), r 39 (.ld (.t 38)), r 40 (.build [(.v (.int .i64 0)), (.v (.int .i64 0)), (.v (.int .i64 0))] [(0, 1, (.t 35)), (1, 1, (.t 37)), (2, 1, (.t 39))]), r 41 (.bsl (.row 95 (.st [(.int .i64), (.int .i64), (.int .i64)])) 1 [(.v (.int .i64 0)), (.v (.int .i64 0)), (.v (.int .i64 0))] [(0, 3, (.t 40))]), r 42 (.app (.row 95 (.st [(.int .i64), (.int .i64), (.int .i64)])) 24 (.t 33) (.t 41)), r 43 (.fld (.t 3) 3), r 44 (.fld (.t 43) 0), r0 (.st (.t 44) (.t 42) 1)])))
 (.reg false [r 23 (.mv (.t 4)), r 24 (.ib .add .i64 (.t 23) (.k (.v (.int .i64 1)))), r 4 (.mv (.t 24))]))))))
 (.seq (.seq (.reg false [r 6 (.mv (.k (.v (.int .i64 0))))])
 (.block 2
 (.loop
 (.seq (.seq (.reg false [r 45 (.mv (.t 6)), r 46 (.fld (.t 1) 2), r 47 (.ld (.t 46)), r 48 (.len false (.t 47)), r 49 (.ib .lt .i64 (.t 45) (.t 48))])
 (.cond (.t 49)
 .skip
 (.exit 2)))
 (.seq (.block 3
 (.seq (.reg false [r 52 (.fld (.t 1) 2), r 53 (.ld (.t 52)), r 54 (.mv (.t 6)), r 55 (.idx (.t 53) (.t 54) 6), r 56 (.lda (.t 55) 6), r 7 (.new 83 [(.str []), (.v (.int .u64 0)), (.v (.int .u64 0)), (.v (.int .u64 0)), (.v (.int .i64 0)), (.v (.bool false))]), r0 (.st (.t 7) (.t 56) 6)])
 (.reg false [r 57 (.fld (.t 3) 2), r 58 (.ld (.t 57)), r 59 (.fld (.t 7) 0), r 60 (.ld (.t 59)), r 61 (.fld (.t 7) 1), r 62 (.ld (.t 61)), r 63 (.fld (.t 7) 2), r 64 (.ld (.t 63)), r 65 (.fld (.t 7) 3), r 66 (.ld (.t 65)), r 67 (.fld (.t 7) 4), r 68 (.ld (.t 67)), r 69 (.fld (.t 7) 5), r 70 (.ld (.t 69)), r 71 (.build [(.str []), (.v (.int .u64 0)), (.v (.int .u64 0)), (.v (.int .u64 0)), (.v (.int .i64 0)), (.v (.bool false))] [(0, 1, (.t 60)), (1, 1, (.t 62)), (2, 1, (.t 64)), (3, 1, (.t 66)), (4, 1, (.t 68)), (5, 1, (.t 70))]), r 72 (.bsl (.row 82 (.st [.str, (.int .u64), (.int .u64), (.int .u64), (.int .i64), .bool])) 1 [(.str []), (.v (.int .u64 0)), (.v (.int .u64 0)), (.v (.int .u64 0)), (.v (.int .i64 0)), (.v (.bool false))] [(0, 6, (.t 71))]), r 73 (.app (.row 82 (.st [.str, (.int .u64), (.int .u64), (.int .u64), (.int .i64), .bool])) 56 (.t 58) (.t 72)), r 74 (.fld (.t 3) 2), r0 (.st (.t 74) (.t 73) 1)])))
 (.reg false [r 50 (.mv (.t 6)), r 51 (.ib .add .i64 (.t 50) (.k (.v (.int .i64 1)))), r 6 (.mv (.t 51))]))))))
 (.seq (.reg false [r 75 (.lda (.t 3) 5), r0 (.st (.t 2) (.t 75) 5)])
 .ret)))))
theorem Ztb : compF Try.prog Try.f12 = some (Zhi, [.c 2 5 true], 76) := by kernel_rfl
-- ros 12 [none] TYS [(.st [.str, .bool, (.row 83 (.st [.str, (.int .u64), (.int .u64), (.int .u64), (.int .i64), .bool])), (.st [(.row 96 (.st [(.int .i64), (.int .i64), (.int .i64)])), (.int .i64)])])]

def Zn2 : IC := (.seq (.reg false [r 1 (.box 33 5 (.t 0)), r 2 (.mv (.k (.v (.bool false))))])
 (.seq (.reg false [r 9 (.fld (.t 1) 2), r 10 (.ld (.t 9)), r 11 (.len false (.t 10)), r 3 (.new 3 [(.v (.int .i64 0))]), r0 (.st (.t 3) (.t 11) 1)])
 (.seq (.reg false [r 12 (.mkfn 32 [(.t 3)]), r 4 (.mv (.t 12))])
 (.seq (.seq (.reg false [r 13 (.ld (.t 3)), r 14 (.ib .lt .i64 (.t 13) (.k (.v (.int .i64 1)))), r 15 (.mv (.t 14)), ⟨some 16, some (15, false), [], .ld (.t 3)⟩, ⟨some 17, some (15, false), [], .ib .gt .i64 (.t 16) (.k (.v (.int .i64 8)))⟩, r 18 (.pick (.t 15) (.k (.v (.bool true))) (.t 17)), r 19 (.mv (.t 18)), ⟨some 20, some (19, false), [], .mv (.t 4)⟩, ⟨some 21, some (19, false), [], .fld (.t 1) 3⟩, ⟨some 22, some (19, false), [], .fld (.t 21) 1⟩, ⟨some 23, some (19, false), [], .ld (.t 22)⟩, ⟨some 24, some (19, false), [], .callv (.t 20) [(.t 23)]⟩, ⟨some 25, some (19, false), [], .bnot (.t 24)⟩, r 26 (.pick (.t 19) (.k (.v (.bool true))) (.t 25))])
 (.cond (.t 26)
 (.seq (.reg false [r 2 (.mv (.k (.v (.bool false))))])
 .ret)
 .skip))
 (.seq (.seq (.reg false [r 27 (.fld (.t 1) 2), r 28 (.ld (.t 27)), r 29 (.len false (.t 28)), r 30 (.mv (.k (.v (.int .i64 0))))])
 (.block 0
 (.loop
 (.seq (.reg false [r 31 (.ib .lt .i64 (.t 30) (.t 29))])
 (.seq (.cond (.t 31)
 .skip
 (.exit 0))
 (.seq (.block 1
 (.seq (.reg false [r 32 (.mv (.t 30)), r 33 (.idx (.t 28) (.t 30) 6), r 34 (.lda (.t 33) 6), r 6 (.new 83 [(.str []), (.v (.int .u64 0)), (.v (.int .u64 0)), (.v (.int .u64 0)), (.v (.int .i64 0)), (.v (.bool false))]), r 5 (.mv (.t 32)), r0 (.st (.t 6) (.t 34) 6)])
 (.seq (.reg true [r 35 (.fld (.t 6) 1), ⟨some 36, none, [0], .ld (.t 35)⟩, ⟨some 37, none, [1, 0], .ib .lt .u64 (.t 36) (.k (.v (.int .u64 1500)))⟩, ⟨some 38, none, [2, 1, 0], .mv (.t 37)⟩, ⟨some 39, some (38, false), [3, 2, 1, 0], .fld (.t 6) 4⟩, ⟨some 40, some (38, false), [4, 3, 2, 1, 0], .ld (.t 39)⟩, ⟨some 41, some (38, false), [5, 4, 3, 2, 1, 0], .ib .lt .i64 (.t 40) (.k (.v (.int .i64 1)))⟩, ⟨some 42, none, [3, 2, 1, 0, 6, 5, 4], .pick (.t 38) (.k (.v (.bool true))) (.t 41)⟩, ⟨some 43, none, [7, 3, 2, 1, 0, 6, 5, 4], .mv (.t 42)⟩, ⟨some 44, some (43, false), [8, 7, 3, 2, 1, 0, 6, 5, 4], .fld (.t 6) 4⟩, ⟨some 45, some (43, false), [9, 8, 7, 3, 2, 1, 0, 6, 5, 4], .ld (.t 44)⟩, ⟨some 46, some (43, false), [10, 9, 8, 7, 3, 2, 1, 0, 6, 5, 4], .ib .gt .i64 (.t 45) (.k (.v (.int .i64 64)))⟩, ⟨some 47, none, [8, 7, 3, 2, 1, 0, 6, 5, 4, 11, 10, 9], .pick (.t 43) (.k (.v (.bool true))) (.t 46)⟩, ⟨some 48, none, [12, 8, 7, 3, 2, 1, 0, 6, 5, 4, 11, 10, 9], .mv (.t 47)⟩, ⟨some 49, some (48, false), [13, 12, 8, 7, 3, 2, 1, 0, 6, 5, 4, 11, 10, 9], .mv (.t 5)⟩, ⟨some 50, some (48, false), [14, 13, 12, 8, 7, 3, 2, 1, 0, 6, 5, 4, 11, 10, 9], .ib .gt .i64 (.t 49) (.k (.v (.int .i64 0)))⟩, ⟨some 51, some (48, false), [15, 14, 13, 12, 8, 7, 3, 2, 1, 0, 6, 5, 4, 11, 10, 9], .mv (.t 50)⟩, ⟨some 52, some (51, true), [16, 15, 14, 13, 12, 8, 7, 3, 2, 1, 0, 6, 5, 4, 11, 10, 9], .fld (.t 6) 0⟩, ⟨some 53, some (51, true), [17, 16, 15, 14, 13, 12, 8, 7, 3, 2, 1, 0, 6, 5, 4, 11, 10, 9], .ld (.t 52)⟩, ⟨some 54, some (51, true), [16, 15, 14, 13, 12, 8, 7, 3, 2, 1, 0, 6, 5, 4, 11, 10, 9], .fld (.t 1) 2⟩, ⟨some 55, some (51, true), [19, 16, 15, 14, 13, 12, 8, 7, 3, 2, 1, 0, 6, 5, 4, 11, 10, 9], .ld (.t 54)⟩, ⟨some 56, some (51, true), [16, 15, 14, 13, 12, 8, 7, 3, 2, 1, 0, 6, 5, 4, 11, 10, 9], .mv (.t 5)⟩, ⟨some 57, some (51, true), [21, 16, 15, 14, 13, 12, 8, 7, 3, 2, 1, 0, 6, 5, 4, 11, 10, 9], .ib .sub .i64 (.t 56) (.k (.v (.int .i64 1)))⟩, ⟨some 58, some (51, true), [20, 19, 16, 15, 14, 13, 12, 8, 7, 3, 2, 1, 0, 6, 5, 4, 11, 10, 9, 22, 21], .idx (.t 55) (.t 57) 6⟩, ⟨some 59, some (51, true), [23, 20, 19, 16, 15, 14, 13, 12, 8, 7, 3, 2, 1, 0, 6, 5, 4, 11, 10, 9, 22, 21], .fld (.t 58) 0⟩, ⟨some 60, some (51, true), [24, 23, 20, 19, 16, 15, 14, 13, 12, 8, 7, 3, 2, 1, 0, 6, 5, 4, 11, 10, 9, 22, 21], .ld (.t 59)⟩, ⟨some 61, some (51, true), [18, 17, 16, 15, 14, 13, 12, 8, 7, 3, 2, 1, 0, 6, 5, 4, 11, 10, 9, 25, 24, 23, 20, 19, 22, 21], .sb .le (.t 53) (.t 60)⟩, ⟨some 62, some (48, false), [16, 15, 14, 13, 12, 8, 7, 3, 2, 1, 0, 6, 5, 4, 11, 10, 9, 26, 18, 17, 25, 24, 23, 20, 19, 22, 21], .pick (.t 51) (.t 61) (.k (.v (.bool false)))⟩, ⟨some 63, none, [13, 12, 8, 7, 3, 2, 1, 0, 6, 5, 4, 11, 10, 9, 27, 16, 15, 14, 26, 18, 17, 25, 24, 23, 20, 19, 22, 21], .pick (.t 48) (.k (.v (.bool true))) (.t 62)⟩])
 (.cond (.t 63)
 (.seq (.reg false [r 2 (.mv (.k (.v (.bool false))))])
 .ret)
 .skip))))
 (.reg false [r 64 (.ib .add .i64 (.t 30) (.k (.v (.int .i64 1)))), r 30 (.mv (.t 64))])))))))
 (.seq (.seq (.reg false [r 65 (.fld (.t 1) 3), r 66 (.fld (.t 65) 0), r 67 (.ld (.t 66)), r 68 (.len false (.t 67)), r 69 (.mv (.k (.v (.int .i64 0))))])
 (.block 2
 (.loop
 (.seq (.reg false [r 70 (.ib .lt .i64 (.t 69) (.t 68))])
 (.seq (.cond (.t 70)
 .skip
 (.exit 2))
 (.seq (.block 3
 (.seq (.reg false [r 71 (.idx (.t 67) (.t 69) 3), r 72 (.lda (.t 71) 3), r 8 (.new 96 [(.v (.int .i64 0)), (.v (.int .i64 0)), (.v (.int .i64 0))]), r0 (.st (.t 8) (.t 72) 3)])
 (.seq (.reg false [r 73 (.mv (.t 4)), r 74 (.fld (.t 8) 2), r 75 (.ld (.t 74)), r 76 (.callv (.t 73) [(.t 75)]), r 77 (.bnot (.t 76))])
 (.cond (.t 77)
 (.seq (.reg false [r 2 (.mv (.k (.v (.bool false))))])
 .ret)
 .skip))))
 (.reg false [r 78 (.ib .add .i64 (.t 69) (.k (.v (.int .i64 1)))), r 69 (.mv (.t 78))])))))))
 (.seq (.reg false [r 2 (.mv (.k (.v (.bool true))))])
 .ret)))))))
theorem Zrp : compF Try.prog Try.f13 = some (Zn2, [.t 2], 79) := by kernel_rfl
-- ros 13 [none] TYS [(.st [.str, .bool, (.row 83 (.st [.str, (.int .u64), (.int .u64), (.int .u64), (.int .i64), .bool])), (.st [(.row 96 (.st [(.int .i64), (.int .i64), (.int .i64)])), (.int .i64)])])]

def Zk1 : IC := (.seq (.reg false [r 2 (.mv (.k (.v (.int .i64 0))))])
 (.seq (.seq (.reg false [r 6 (.mv (.t 0)), r 7 (.isn 0 false (.t 6))])
 (.cond (.t 7)
 (.seq (.reg false [r 2 (.mv (.k (.v (.int .i64 0))))])
 .ret)
 .skip))
 (.seq (.reg false [r 3 (.mv (.k (.v (.int .i64 0))))])
 (.seq (.seq (.reg false [r 8 (.mv (.t 0)), r 9 (.chk (.t 8)), r 10 (.fld (.t 9) 6), r 11 (.ld (.t 10)), r 12 (.len false (.t 11)), r 13 (.mv (.k (.v (.int .i64 0))))])
 (.block 0
 (.loop
 (.seq (.reg false [r 14 (.ib .lt .i64 (.t 13) (.t 12))])
 (.seq (.cond (.t 14)
 .skip
 (.exit 0))
 (.seq (.block 1
 (.seq (.reg false [r 15 (.idx (.t 11) (.t 13) 1), r 16 (.ld (.t 15)), r 5 (.mv (.t 16))])
 (.reg false [r 17 (.mv (.t 3)), r 18 (.mv (.t 5)), r 19 (.chk (.t 18)), r 20 (.fld (.t 19) 9), r 21 (.ld (.t 20)), r 22 (.call 33 [(.t 21)]), r 23 (.ib .add .i64 (.t 17) (.t 22)), r 3 (.mv (.t 23))])))
 (.reg false [r 24 (.ib .add .i64 (.t 13) (.k (.v (.int .i64 1)))), r 13 (.mv (.t 24))])))))))
 (.seq (.reg false [r 25 (.mv (.t 3)), r 2 (.mv (.t 25))])
 .ret)))))
theorem Zue : compF Try.prog Try.f14 = some (Zk1, [.t 2], 26) := by kernel_rfl
-- ros 14 [none] TYS [none]

def Zla : IC := (.seq (.reg false [r 4 (.box 33 5 (.t 1)), r 6 (.mv (.k (.v (.int .i64 0))))])
 (.seq (.block 0
 (.seq (.reg false [r 17 (.mv (.t 0)), r 18 (.isn 0 false (.t 17)), r 19 (.mv (.t 18)), ⟨some 20, some (19, false), [], .lda (.t 4) 5⟩, ⟨some 21, some (19, false), [], .call 13 [(.t 20)]⟩, ⟨some 22, some (19, false), [], .bnot (.t 21)⟩, r 23 (.pick (.t 19) (.k (.v (.bool true))) (.t 22)), r 16 (.mv (.t 23))])
 (.cond (.t 16)
 (.seq (.reg false [r 6 (.mv (.k (.v (.int .i64 1))))])
 .ret)
 (.seq (.reg true [r 25 (.lda (.t 4) 5), r 26 (.mv (.t 0)), ⟨some 27, none, [1], .chk (.t 26)⟩, ⟨some 28, none, [2, 1], .fld (.t 27) 0⟩, ⟨some 29, none, [3, 2, 1], .lda (.t 28) 5⟩, ⟨some 30, none, [0, 4, 3, 2, 1], .call 34 [(.t 25), (.t 29)]⟩, ⟨some 24, none, [5, 0, 4, 3, 2, 1], .mv (.t 30)⟩])
 (.cond (.t 24)
 (.seq (.reg false [r 6 (.mv (.k (.v (.int .i64 0))))])
 .ret)
 .skip)))))
 (.seq (.reg true [r 32 (.mv (.t 0)), ⟨some 33, none, [0], .chk (.t 32)⟩, ⟨some 34, none, [1, 0], .fld (.t 33) 0⟩, ⟨some 35, none, [2, 1, 0], .lda (.t 34) 5⟩, r 36 (.lda (.t 4) 5), r 37 (.mv (.t 0)), ⟨some 38, none, [5], .call 36 [(.t 37)]⟩, ⟨some 39, none, [3, 2, 1, 0, 4, 6, 5], .call 35 [(.t 35), (.t 36), (.t 38)]⟩, ⟨some 31, none, [7, 3, 2, 1, 0, 4, 6, 5], .mv (.t 39)⟩, ⟨some 40, none, [8, 7, 3, 2, 1, 0, 4, 6, 5], .ext (.t 31) 0⟩, ⟨some 41, none, [8, 7, 3, 2, 1, 0, 4, 6, 5], .ext (.t 31) 1⟩, ⟨some 7, none, [9, 8, 7, 3, 2, 1, 0, 4, 6, 5], .mv (.t 40)⟩, ⟨some 8, none, [10, 8, 7, 3, 2, 1, 0, 4, 6, 5, 11, 9], .mv (.t 41)⟩])
 (.seq (.seq (.reg false [r 42 (.mv (.t 8)), r 43 (.bnot (.t 42)), r 44 (.mv (.t 43)), ⟨some 45, some (44, true), [], .mv (.t 2)⟩, ⟨some 46, some (44, true), [], .bnot (.t 45)⟩, r 47 (.pick (.t 44) (.t 46) (.k (.v (.bool false))))])
 (.cond (.t 47)
 (.seq (.reg false [r 6 (.mv (.k (.v (.int .i64 35))))])
 .ret)
 .skip))
 (.seq (.reg false [r 48 (.mkm (.st [(.int .u64), (.int .u64), (.int .u64)])), r 9 (.mv (.t 48))])
 (.seq (.seq (.reg false [r 49 (.mv (.t 0)), r 50 (.chk (.t 49)), r 51 (.fld (.t 50) 6), r 52 (.ld (.t 51)), r 53 (.len false (.t 52)), r 54 (.mv (.k (.v (.int .i64 0))))])
 (.block 1
 (.loop
 (.seq (.reg false [r 55 (.ib .lt .i64 (.t 54) (.t 53))])
 (.seq (.cond (.t 55)
 .skip
 (.exit 1))
 (.seq (.block 2
 (.seq (.reg false [r 56 (.idx (.t 52) (.t 54) 1), r 57 (.ld (.t 56)), r 11 (.mv (.t 57))])
 (.reg true [r 58 (.mv (.t 9)), r 59 (.mv (.t 11)), ⟨some 60, none, [1], .chk (.t 59)⟩, ⟨some 61, none, [2, 1], .fld (.t 60) 0⟩, ⟨some 62, none, [3, 2, 1], .fld (.t 61) 0⟩, ⟨some 63, none, [4, 3, 2, 1], .ld (.t 62)⟩, r 64 (.mv (.t 11)), ⟨some 65, none, [6], .chk (.t 64)⟩, ⟨some 66, none, [7, 6], .fld (.t 65) 6⟩, ⟨some 67, none, [8, 7, 6], .lda (.t 66) 3⟩, ⟨none, none, [0, 5, 4, 3, 2, 1, 9, 8, 7, 6], .mpu (.st [(.int .u64), (.int .u64), (.int .u64)]) (.t 58) (.t 63) (.t 67)⟩])))
 (.reg false [r 68 (.ib .add .i64 (.t 54) (.k (.v (.int .i64 1)))), r 54 (.mv (.t 68))])))))))
 (.seq (.reg false [r 69 (.mv (.t 0)), r 70 (.lda (.t 4) 5), r 71 (.call 31 [(.t 69), (.t 70)])])
 (.seq (.seq (.reg false [r 72 (.mv (.t 0)), r 73 (.chk (.t 72)), r 74 (.fld (.t 73) 6), r 75 (.ld (.t 74)), r 76 (.len false (.t 75)), r 77 (.mv (.k (.v (.int .i64 0))))])
 (.block 3
 (.loop
 (.seq (.reg false [r 78 (.ib .lt .i64 (.t 77) (.t 76))])
 (.seq (.cond (.t 78)
 .skip
 (.exit 3))
 (.seq (.block 4
 (.seq (.reg false [r 79 (.mv (.t 77)), r 80 (.idx (.t 75) (.t 77) 1), r 81 (.ld (.t 80)), r 12 (.mv (.t 79)), r 13 (.mv (.t 81))])
 (.seq (.seq (.reg false [r 83 (.mv (.t 9)), r 84 (.mv (.t 13)), r 85 (.chk (.t 84)), r 86 (.fld (.t 85) 0), r 87 (.fld (.t 86) 0), r 88 (.ld (.t 87)), r 89 (.mpg (.st [(.int .u64), (.int .u64), (.int .u64)]) true (.t 83) (.t 88)), r 82 (.mv (.t 89)), r 90 (.ext (.t 82) 0), r 91 (.ext (.t 82) 1), r 14 (.new 100 [(.v (.int .u64 0)), (.v (.int .u64 0)), (.v (.int .u64 0))]), r0 (.st (.t 14) (.t 90) 3), r 15 (.mv (.t 91))])
 (.seq (.reg false [r 92 (.mv (.t 15))])
 (.cond (.t 92)
 (.reg true [r 93 (.mv (.t 13)), r 94 (.lda (.t 14) 3), r 95 (.mv (.t 13)), ⟨some 96, none, [2], .chk (.t 95)⟩, ⟨some 97, none, [3, 2], .fld (.t 96) 0⟩, ⟨some 98, none, [4, 3, 2], .fld (.t 97) 2⟩, ⟨some 99, none, [5, 4, 3, 2], .ld (.t 98)⟩, r 100 (.mv (.t 13)), ⟨some 101, none, [7], .chk (.t 100)⟩, ⟨some 102, none, [8, 7], .fld (.t 101) 0⟩, ⟨some 103, none, [9, 8, 7], .fld (.t 102) 3⟩, ⟨some 104, none, [10, 9, 8, 7], .ld (.t 103)⟩, ⟨some 105, none, [1, 6, 5, 4, 3, 2, 11, 10, 9, 8, 7], .call 37 [(.t 94), (.t 99), (.t 104)]⟩, ⟨some 106, none, [0, 1, 2, 3, 4, 5, 6, 7, 8, 9, 10, 11, 12], .chk (.t 93)⟩, ⟨some 107, none, [13, 0, 1, 2, 3, 4, 5, 6, 7, 8, 9, 10, 11, 12], .fld (.t 106) 6⟩, ⟨none, none, [14, 13, 0, 1, 2, 3, 4, 5, 6, 7, 8, 9, 10, 11, 12], .st (.t 107) (.t 105) 3⟩])
 .skip)))
 (.reg true [r 108 (.mv (.t 13)), ⟨some 109, none, [0], .chk (.t 108)⟩, ⟨some 110, none, [1, 0], .fld (.t 109) 9⟩, ⟨some 111, none, [2, 1, 0], .ld (.t 110)⟩, r 112 (.mv (.t 7)), r 113 (.mv (.t 12)), ⟨some 114, none, [4, 5], .idx (.t 112) (.t 113) 1⟩, ⟨some 115, none, [6, 4, 5], .ld (.t 114)⟩, ⟨some 116, none, [3, 2, 1, 0, 7, 6, 4, 5], .call 38 [(.t 111), (.t 115)]⟩]))))
 (.reg false [r 117 (.ib .add .i64 (.t 77) (.k (.v (.int .i64 1)))), r 77 (.mv (.t 117))])))))))
 (.seq (.reg false [r 6 (.mv (.k (.v (.int .i64 0))))])
 .ret)))))))))
theorem Zsd : compF Try.prog Try.f15 = some (Zla, [.t 6], 118) := by kernel_rfl
-- ros 15 [none, none, none] TYS [none, (.st [.str, .bool, (.row 83 (.st [.str, (.int .u64), (.int .u64), (.int .u64), (.int .i64), .bool])), (.st [(.row 96 (.st [(.int .i64), (.int .i64), (.int .i64)])), (.int .i64)])]), .bool]

def Zkc : IC := (.seq (.reg false [r 2 (.box 62 6 (.t 0)), r 3 (.box 62 6 (.t 1)), r 4 (.mv (.k (.v (.bool false))))])
 (.seq (.seq (.reg false [r 6 (.fld (.t 2) 0), r 7 (.ld (.t 6)), r 8 (.fld (.t 3) 0), r 9 (.ld (.t 8)), r 10 (.ib .ne .u64 (.t 7) (.t 9)), r 11 (.mv (.t 10)), ⟨some 12, some (11, false), [], .fld (.t 2) 2⟩, ⟨some 13, some (11, false), [], .ld (.t 12)⟩, ⟨some 14, some (11, false), [], .fld (.t 3) 2⟩, ⟨some 15, some (11, false), [], .ld (.t 14)⟩, ⟨some 16, some (11, false), [], .ib .ne .i64 (.t 13) (.t 15)⟩, r 17 (.pick (.t 11) (.k (.v (.bool true))) (.t 16)), r 18 (.mv (.t 17)), ⟨some 19, some (18, false), [], .fld (.t 2) 3⟩, ⟨some 20, some (18, false), [], .ld (.t 19)⟩, ⟨some 21, some (18, false), [], .fld (.t 3) 3⟩, ⟨some 22, some (18, false), [], .ld (.t 21)⟩, ⟨some 23, some (18, false), [], .bb true (.t 20) (.t 22)⟩, r 24 (.pick (.t 18) (.k (.v (.bool true))) (.t 23)), r 25 (.mv (.t 24)), ⟨some 26, some (25, false), [], .fld (.t 2) 5⟩, ⟨some 27, some (25, false), [], .ld (.t 26)⟩, ⟨some 28, some (25, false), [], .len false (.t 27)⟩, ⟨some 29, some (25, false), [], .fld (.t 3) 5⟩, ⟨some 30, some (25, false), [], .ld (.t 29)⟩, ⟨some 31, some (25, false), [], .len false (.t 30)⟩, ⟨some 32, some (25, false), [], .ib .ne .i64 (.t 28) (.t 31)⟩, r 33 (.pick (.t 25) (.k (.v (.bool true))) (.t 32)), r 34 (.mv (.t 33)), ⟨some 35, some (34, false), [], .fld (.t 2) 1⟩, ⟨some 36, some (34, false), [], .ld (.t 35)⟩, ⟨some 37, some (34, false), [], .fld (.t 3) 1⟩, ⟨some 38, some (34, false), [], .ld (.t 37)⟩, ⟨some 39, some (34, false), [], .call 46 [(.t 36), (.t 38)]⟩, ⟨some 40, some (34, false), [], .bnot (.t 39)⟩, r 41 (.pick (.t 34) (.k (.v (.bool true))) (.t 40)), r 42 (.mv (.t 41)), ⟨some 43, some (42, false), [], .fld (.t 2) 4⟩, ⟨some 44, some (42, false), [], .ld (.t 43)⟩, ⟨some 45, some (42, false), [], .fld (.t 3) 4⟩, ⟨some 46, some (42, false), [], .ld (.t 45)⟩, ⟨some 47, some (42, false), [], .call 46 [(.t 44), (.t 46)]⟩, ⟨some 48, some (42, false), [], .bnot (.t 47)⟩, r 49 (.pick (.t 42) (.k (.v (.bool true))) (.t 48))])
 (.cond (.t 49)
 (.seq (.reg false [r 4 (.mv (.k (.v (.bool false))))])
 .ret)
 .skip))
 (.seq (.seq (.reg false [r 5 (.mv (.k (.v (.int .i64 0))))])
 (.block 0
 (.loop
 (.seq (.seq (.reg false [r 50 (.mv (.t 5)), r 51 (.fld (.t 2) 5), r 52 (.ld (.t 51)), r 53 (.len false (.t 52)), r 54 (.ib .lt .i64 (.t 50) (.t 53))])
 (.cond (.t 54)
 .skip
 (.exit 0)))
 (.seq (.block 1
 (.seq (.reg true [r 57 (.fld (.t 2) 5), ⟨some 58, none, [0], .ld (.t 57)⟩, r 59 (.mv (.t 5)), ⟨some 60, none, [1, 0, 2], .idx (.t 58) (.t 59) 1⟩, ⟨some 61, none, [3, 1, 0, 2], .ld (.t 60)⟩, r 62 (.fld (.t 3) 5), ⟨some 63, none, [5], .ld (.t 62)⟩, r 64 (.mv (.t 5)), ⟨some 65, none, [6, 5, 7], .idx (.t 63) (.t 64) 1⟩, ⟨some 66, none, [8, 6, 5, 7], .ld (.t 65)⟩, ⟨some 67, none, [4, 3, 1, 0, 2, 9, 8, 6, 5, 7], .call 47 [(.t 61), (.t 66)]⟩, ⟨some 68, none, [10, 4, 3, 1, 0, 2, 9, 8, 6, 5, 7], .bnot (.t 67)⟩])
 (.cond (.t 68)
 (.seq (.reg false [r 4 (.mv (.k (.v (.bool false))))])
 .ret)
 .skip)))
 (.reg false [r 55 (.mv (.t 5)), r 56 (.ib .add .i64 (.t 55) (.k (.v (.int .i64 1)))), r 5 (.mv (.t 56))]))))))
 (.seq (.reg false [r 4 (.mv (.k (.v (.bool true))))])
 .ret))))
theorem Zr6 : compF Try.prog Try.f19 = some (Zkc, [.t 4], 69) := by kernel_rfl
-- ros 19 [none, none] TYS [(.st [(.int .u64), (.ints 46 .u64), (.int .i64), .bool, (.ints 46 .u64), (.row 72 (.row 75 (.st [(.int .u64), (.int .i64), (.int .i64)])))]), (.st [(.int .u64), (.ints 46 .u64), (.int .i64), .bool, (.ints 46 .u64), (.row 72 (.row 75 (.st [(.int .u64), (.int .i64), (.int .i64)])))])]

def Zil : IC := (.seq (.reg false [r 1 (.box 67 6 (.t 0)), r 2 (.new 62 [(.v (.int .u64 0)), .nsl, (.v (.int .i64 0)), (.v (.bool false)), .nsl, .nsl])])
 (.seq (.reg false [r 3 (.fld (.t 1) 0), r 4 (.ld (.t 3)), r 5 (.fld (.t 1) 1), r 6 (.ld (.t 5)), r 7 (.fld (.t 1) 2), r 8 (.fld (.t 7) 0), r 9 (.ld (.t 8)), r 10 (.fld (.t 1) 2), r 11 (.fld (.t 10) 1), r 12 (.ld (.t 11)), r 13 (.fld (.t 1) 2), r 14 (.fld (.t 13) 2), r 15 (.ld (.t 14)), r 16 (.fld (.t 1) 5), r 17 (.ld (.t 16)), r 18 (.build [(.v (.int .u64 0)), .nsl, (.v (.int .i64 0)), (.v (.bool false)), .nsl, .nsl] [(0, 1, (.t 4)), (1, 1, (.t 6)), (2, 1, (.t 9)), (3, 1, (.t 12)), (4, 1, (.t 15)), (5, 1, (.t 17))]), r0 (.st (.t 2) (.t 18) 6)])
 .ret))
theorem Zya : compF Try.prog Try.f20 = some (Zil, [.c 2 6 true], 19) := by kernel_rfl
-- ros 20 [none] TYS [(.st [(.int .u64), (.ints 46 .u64), (.st [(.int .i64), .bool, (.ints 46 .u64)]), (.row 72 (.row 75 (.st [(.int .u64), (.int .i64), (.int .i64)])))])]

def Zmi : IC := (.seq (.reg false [r 2 (.new 67 [(.v (.int .u64 0)), .nsl, (.v (.int .i64 0)), (.v (.bool false)), .nsl, .nsl])])
 (.seq (.seq (.reg false [r 6 (.mv (.t 0)), r 7 (.isn 0 false (.t 6))])
 (.cond (.t 7)
 (.seq (.reg false [r 8 (.build [(.v (.int .u64 0)), .nsl, (.v (.int .i64 0)), (.v (.bool false)), .nsl, .nsl] []), r0 (.st (.t 2) (.t 8) 6)])
 .ret)
 .skip))
 (.seq (.reg true [r 9 (.mv (.t 0)), ⟨some 10, none, [0], .chk (.t 9)⟩, ⟨some 11, none, [1, 0], .fld (.t 10) 5⟩, ⟨some 12, none, [2, 1, 0], .ld (.t 11)⟩, r 13 (.mv (.t 0)), ⟨some 14, none, [4], .chk (.t 13)⟩, ⟨some 15, none, [5, 4], .fld (.t 14) 7⟩, ⟨some 16, none, [6, 5, 4], .ld (.t 15)⟩, ⟨some 17, none, [7, 6, 5, 4], .call 48 [(.t 16)]⟩, r 18 (.mv (.t 0)), ⟨some 19, none, [9, 8, 7, 6, 5, 4], .call 36 [(.t 18)]⟩, ⟨some 20, none, [3, 2, 1, 0, 8, 7, 6, 5, 4, 10, 9], .build [(.v (.int .u64 0)), .nsl, (.v (.int .i64 0)), (.v (.bool false)), .nsl, .nsl] [(0, 1, (.t 12)), (2, 3, (.t 17)), (5, 1, (.t 19))]⟩, r 3 (.new 67 [(.v (.int .u64 0)), .nsl, (.v (.int .i64 0)), (.v (.bool false)), .nsl, .nsl]), ⟨none, none, [12, 11, 3, 2, 1, 0, 8, 7, 6, 5, 4, 10, 9], .st (.t 3) (.t 20) 6⟩])
 (.seq (.seq (.reg false [r 21 (.mv (.t 0)), r 22 (.chk (.t 21)), r 23 (.fld (.t 22) 6), r 24 (.ld (.t 23)), r 25 (.len false (.t 24)), r 26 (.mv (.k (.v (.int .i64 0))))])
 (.block 0
 (.loop
 (.seq (.reg false [r 27 (.ib .lt .i64 (.t 26) (.t 25))])
 (.seq (.cond (.t 27)
 .skip
 (.exit 0))
 (.seq (.block 1
 (.seq (.reg false [r 28 (.idx (.t 24) (.t 26) 1), r 29 (.ld (.t 28)), r 5 (.mv (.t 29))])
 (.reg true [r 30 (.fld (.t 3) 1), ⟨some 31, none, [0], .ld (.t 30)⟩, r 32 (.mv (.t 5)), ⟨some 33, none, [2], .chk (.t 32)⟩, ⟨some 34, none, [3, 2], .fld (.t 33) 6⟩, ⟨some 35, none, [4, 3, 2], .fld (.t 34) 2⟩, ⟨some 36, none, [5, 4, 3, 2], .ld (.t 35)⟩, ⟨some 37, none, [6, 5, 4, 3, 2], .bsl (.ints 46 .u64) 1 [(.v (.int .u64 0))] [(0, 1, (.t 36))]⟩, ⟨some 38, none, [1, 0, 7, 6, 5, 4, 3, 2], .app (.ints 46 .u64) 8 (.t 31) (.t 37)⟩, ⟨some 39, none, [0, 1, 2, 3, 4, 5, 6, 7, 8], .fld (.t 3) 1⟩, ⟨none, none, [9, 0, 1, 2, 3, 4, 5, 6, 7, 8], .st (.t 39) (.t 38) 1⟩])))
 (.reg false [r 40 (.ib .add .i64 (.t 26) (.k (.v (.int .i64 1)))), r 26 (.mv (.t 40))])))))))
 (.seq (.reg false [r 41 (.lda (.t 3) 6), r0 (.st (.t 2) (.t 41) 6)])
 .ret)))))
theorem Zqs : compF Try.prog Try.f21 = some (Zmi, [.c 2 6 true], 42) := by kernel_rfl
-- ros 21 [none] TYS [none]

def Zkd : IC := (.seq (.reg false [r 2 (.box 40 5 (.t 0)), r 3 (.box 40 5 (.t 1)), r 4 (.mv (.k (.v (.bool false))))])
 (.seq (.seq (.reg false [r 6 (.fld (.t 2) 0), r 7 (.ld (.t 6)), r 8 (.fld (.t 3) 0), r 9 (.ld (.t 8)), r 10 (.sb .ne (.t 7) (.t 9)), r 11 (.mv (.t 10)), ⟨some 12, some (11, false), [], .fld (.t 2) 1⟩, ⟨some 13, some (11, false), [], .ld (.t 12)⟩, ⟨some 14, some (11, false), [], .fld (.t 3) 1⟩, ⟨some 15, some (11, false), [], .ld (.t 14)⟩, ⟨some 16, some (11, false), [], .bb true (.t 13) (.t 15)⟩, r 17 (.pick (.t 11) (.k (.v (.bool true))) (.t 16)), r 18 (.mv (.t 17)), ⟨some 19, some (18, false), [], .fld (.t 2) 2⟩, ⟨some 20, some (18, false), [], .ld (.t 19)⟩, ⟨some 21, some (18, false), [], .len false (.t 20)⟩, ⟨some 22, some (18, false), [], .fld (.t 3) 2⟩, ⟨some 23, some (18, false), [], .ld (.t 22)⟩, ⟨some 24, some (18, false), [], .len false (.t 23)⟩, ⟨some 25, some (18, false), [], .ib .ne .i64 (.t 21) (.t 24)⟩, r 26 (.pick (.t 18) (.k (.v (.bool true))) (.t 25))])
 (.cond (.t 26)
 (.seq (.reg false [r 4 (.mv (.k (.v (.bool false))))])
 .ret)
 .skip))
 (.seq (.seq (.reg false [r 5 (.mv (.k (.v (.int .i64 0))))])
 (.block 0
 (.loop
 (.seq (.seq (.reg false [r 27 (.mv (.t 5)), r 28 (.fld (.t 2) 2), r 29 (.ld (.t 28)), r 30 (.len false (.t 29)), r 31 (.ib .lt .i64 (.t 27) (.t 30))])
 (.cond (.t 31)
 .skip
 (.exit 0)))
 (.seq (.block 1
 (.seq (.reg true [r 34 (.fld (.t 2) 2), ⟨some 35, none, [0], .ld (.t 34)⟩, r 36 (.mv (.t 5)), ⟨some 37, none, [1, 0, 2], .idx (.t 35) (.t 36) 6⟩, ⟨some 38, none, [3, 1, 0, 2], .lda (.t 37) 6⟩, r 39 (.fld (.t 3) 2), ⟨some 40, none, [5], .ld (.t 39)⟩, r 41 (.mv (.t 5)), ⟨some 42, none, [6, 5, 7], .idx (.t 40) (.t 41) 6⟩, ⟨some 43, none, [8, 6, 5, 7], .lda (.t 42) 6⟩, ⟨some 44, none, [4, 3, 1, 0, 2, 9, 8, 6, 5, 7], .steq [2, 0, 0, 0, 0, 1] true (.t 38) (.t 43)⟩])
 (.cond (.t 44)
 (.seq (.reg false [r 4 (.mv (.k (.v (.bool false))))])
 .ret)
 .skip)))
 (.reg false [r 32 (.mv (.t 5)), r 33 (.ib .add .i64 (.t 32) (.k (.v (.int .i64 1)))), r 5 (.mv (.t 33))]))))))
 (.seq (.reg false [r 45 (.fld (.t 2) 3), r 46 (.lda (.t 45) 2), r 47 (.fld (.t 3) 3), r 48 (.lda (.t 47) 2), r 49 (.call 49 [(.t 46), (.t 48)]), r 4 (.mv (.t 49))])
 .ret))))
theorem Zvv : compF Try.prog Try.f23 = some (Zkd, [.t 4], 50) := by kernel_rfl
-- ros 23 [none, none] TYS [(.st [.str, .bool, (.row 82 (.st [.str, (.int .u64), (.int .u64), (.int .u64), (.int .i64), .bool])), (.st [(.row 95 (.st [(.int .i64), (.int .i64), (.int .i64)])), (.int .i64)])]), (.st [.str, .bool, (.row 82 (.st [.str, (.int .u64), (.int .u64), (.int .u64), (.int .i64), .bool])), (.st [(.row 95 (.st [(.int .i64), (.int .i64), (.int .i64)])), (.int .i64)])])]

def Zh8 : IC := (.seq (.reg false [r 2 (.new 33 [(.str []), (.v (.bool false)), .nsl, .nsl, (.v (.int .i64 0))])])
 (.seq (.seq (.reg false [r 3 (.mv (.t 0)), r 4 (.isn 0 false (.t 3))])
 (.cond (.t 4)
 (.seq (.reg false [r 5 (.build [(.str []), (.v (.bool false)), .nsl, .nsl, (.v (.int .i64 0))] []), r0 (.st (.t 2) (.t 5) 5)])
 .ret)
 .skip))
 (.seq (.reg false [r 6 (.mv (.t 0)), r 7 (.chk (.t 6)), r 8 (.fld (.t 7) 0), r 9 (.lda (.t 8) 5), r 10 (.call 50 [(.t 9)]), r0 (.st (.t 2) (.t 10) 5)])
 .ret)))
theorem Zpv : compF Try.prog Try.f24 = some (Zh8, [.c 2 5 true], 11) := by kernel_rfl
-- ros 24 [none] TYS [none]

def Zpi : IC := (.seq (.reg false [r 5 (.box 58 5 (.t 2)), r 6 (.new 75 [(.v (.int .u64 0)), (.v (.int .i64 0)), (.v (.int .i64 0))]), r 7 (.new 75 [(.v (.int .u64 0)), (.v (.int .i64 0)), (.v (.int .i64 0))])])
 (.seq (.seq (.reg false [r 13 (.fld (.t 5) 0), r 14 (.ld (.t 13))])
 (.block 0
 (.seq (.reg false [r 16 (.ib .eq .i64 (.t 14) (.k (.v (.int .i64 0)))), r 15 (.mv (.t 16))])
 (.cond (.t 15)
 (.seq (.reg false [r 18 (.mv (.t 0)), r 19 (.fld (.t 5) 1), r 20 (.ld (.t 19)), r 21 (.fld (.t 5) 2), r 22 (.ld (.t 21)), r 23 (.call 26 [(.t 18), (.t 20), (.t 22)]), r 17 (.mv (.t 23)), r 24 (.ext (.t 17) 0), r 25 (.ext (.t 17) 1), r 8 (.new 75 [(.v (.int .u64 0)), (.v (.int .i64 0)), (.v (.int .i64 0))]), r0 (.st (.t 8) (.t 24) 3), r 9 (.mv (.t 25))])
 (.seq (.reg false [r 26 (.lda (.t 8) 3), r 27 (.build [(.v (.int .u64 0)), (.v (.int .i64 0)), (.v (.int .i64 0))] []), r0 (.st (.t 6) (.t 26) 3), r0 (.st (.t 7) (.t 27) 3)])
 .ret))
 (.seq (.reg false [r 29 (.ib .eq .i64 (.t 14) (.k (.v (.int .i64 1)))), r 28 (.mv (.t 29))])
 (.cond (.t 28)
 (.reg false [r 30 (.mv (.t 0)), r 31 (.fld (.t 5) 3), r 32 (.ld (.t 31)), r 33 (.call 28 [(.t 30), (.t 32)])])
 (.seq (.reg false [r 35 (.ib .eq .i64 (.t 14) (.k (.v (.int .i64 2)))), r 34 (.mv (.t 35))])
 (.cond (.t 34)
 (.seq (.reg false [r 37 (.mv (.t 0)), r 38 (.call 29 [(.t 37)]), r 36 (.mv (.t 38)), r 39 (.ext (.t 36) 0), r 40 (.ext (.t 36) 1), r 41 (.ext (.t 36) 2), r 10 (.new 75 [(.v (.int .u64 0)), (.v (.int .i64 0)), (.v (.int .i64 0))]), r0 (.st (.t 10) (.t 39) 3), r 11 (.mv (.t 40)), r 12 (.mv (.t 41))])
 (.seq (.reg true [r 42 (.build [(.v (.int .u64 0)), (.v (.int .i64 0)), (.v (.int .i64 0))] []), r 43 (.lda (.t 10) 3), ⟨none, none, [0], .st (.t 6) (.t 42) 3⟩, ⟨none, none, [1, 2, 0], .st (.t 7) (.t 43) 3⟩])
 .ret))
 (.seq (.seq (.reg false [r 45 (.ib .eq .i64 (.t 14) (.k (.v (.int .i64 3)))), r 44 (.mv (.t 45))])
 (.cond (.t 44)
 .skip
 (.reg false [r 46 (.ib .eq .i64 (.t 14) (.k (.v (.int .i64 4)))), r 44 (.mv (.t 46))])))
 (.cond (.t 44)
 (.reg true [r 47 (.mv (.t 0)), r 48 (.mv (.t 1)), r 49 (.fld (.t 5) 4), ⟨some 50, none, [2], .ld (.t 49)⟩, ⟨some 51, none, [3, 2], .conv .i64 (.t 50)⟩, r 52 (.mv (.t 1)), ⟨some 53, none, [5], .len false (.t 52)⟩, ⟨some 54, none, [4, 3, 2, 6, 5], .ib .rem .i64 (.t 51) (.t 53)⟩, ⟨some 55, none, [1, 7, 4, 3, 2, 6, 5], .idx (.t 48) (.t 54) 5⟩, ⟨some 56, none, [8, 1, 7, 4, 3, 2, 6, 5], .lda (.t 55) 5⟩, r 57 (.fld (.t 5) 0), ⟨some 58, none, [10], .ld (.t 57)⟩, ⟨some 59, none, [11, 10], .ib .eq .i64 (.t 58) (.k (.v (.int .i64 4)))⟩, ⟨some 60, none, [0, 9, 8, 1, 7, 4, 3, 2, 6, 5, 12, 11, 10], .call 15 [(.t 47), (.t 56), (.t 59)]⟩])
 (.seq (.reg false [r 62 (.ib .eq .i64 (.t 14) (.k (.v (.int .i64 5)))), r 61 (.mv (.t 62))])
 (.cond (.t 61)
 (.reg false [r 63 (.mv (.t 0)), r 64 (.mv (.t 0)), r 65 (.call 21 [(.t 64)]), r 66 (.call 30 [(.t 63), (.t 65)])])
 .skip))))))))))))
 (.seq (.reg false [r 67 (.build [(.v (.int .u64 0)), (.v (.int .i64 0)), (.v (.int .i64 0))] []), r 68 (.build [(.v (.int .u64 0)), (.v (.int .i64 0)), (.v (.int .i64 0))] []), r0 (.st (.t 6) (.t 67) 3), r0 (.st (.t 7) (.t 68) 3)])
 .ret)))
theorem Zsa : compF Try.prog Try.f25 = some (Zpi, [.c 6 3 true, .c 7 3 true], 69) := by kernel_rfl
-- ros 25 [none, (some (.row 33 (.st [.str, .bool, (.row 83 (.st [.str, (.int .u64), (.int .u64), (.int .u64), (.int .i64), .bool])), (.st [(.row 96 (.st [(.int .i64), (.int .i64), (.int .i64)])), (.int .i64)])]))), none] TYS [none, (.row 33 (.st [.str, .bool, (.row 83 (.st [.str, (.int .u64), (.int .u64), (.int .u64), (.int .i64), .bool])), (.st [(.row 96 (.st [(.int .i64), (.int .i64), (.int .i64)])), (.int .i64)])])), (.st [(.int .i64), (.int .i64), (.int .i64), (.int .u64), (.int .u8)])]

def Zo8 : IC := (.seq (.reg false [r 6 (.new 75 [(.v (.int .u64 0)), (.v (.int .i64 0)), (.v (.int .i64 0))]), r 7 (.mv (.k (.v (.int .i64 0))))])
 (.seq (.seq (.reg false [r 9 (.mv (.t 0)), r 10 (.isn 0 false (.t 9)), r 11 (.mv (.t 10)), ⟨some 12, some (11, false), [], .mv (.t 1)⟩, ⟨some 13, some (11, false), [], .ib .lt .i64 (.t 12) (.k (.v (.int .i64 0)))⟩, r 14 (.pick (.t 11) (.k (.v (.bool true))) (.t 13)), r 15 (.mv (.t 14)), ⟨some 16, some (15, false), [], .mv (.t 1)⟩, ⟨some 17, some (15, false), [], .ib .gt .i64 (.t 16) (.k (.v (.int .i64 65535)))⟩, r 18 (.pick (.t 15) (.k (.v (.bool true))) (.t 17)), r 19 (.mv (.t 18)), ⟨some 20, some (19, false), [], .mv (.t 2)⟩, ⟨some 21, some (19, false), [], .ib .lt .i64 (.t 20) (.k (.v (.int .i64 1)))⟩, r 22 (.pick (.t 19) (.k (.v (.bool true))) (.t 21)), r 23 (.mv (.t 22)), ⟨some 24, some (23, false), [], .mv (.t 2)⟩, ⟨some 25, some (23, false), [], .ib .gt .i64 (.t 24) (.k (.v (.int .i64 1500)))⟩, r 26 (.pick (.t 23) (.k (.v (.bool true))) (.t 25))])
 (.cond (.t 26)
 (.seq (.reg false [r 27 (.build [(.v (.int .u64 0)), (.v (.int .i64 0)), (.v (.int .i64 0))] []), r0 (.st (.t 6) (.t 27) 3), r 7 (.mv (.k (.v (.int .i64 1))))])
 .ret)
 .skip))
 (.seq (.reg false [r 28 (.mv (.t 0)), r 29 (.chk (.t 28)), r 30 (.fld (.t 29) 5), r 31 (.ld (.t 30)), r 32 (.ib .add .u64 (.t 31) (.k (.v (.int .u64 1)))), r 33 (.mv (.t 1)), r 34 (.mv (.t 2)), r 35 (.build [(.v (.int .u64 0)), (.v (.int .i64 0)), (.v (.int .i64 0))] [(0, 1, (.t 32)), (1, 1, (.t 33)), (2, 1, (.t 34))]), r 8 (.new 75 [(.v (.int .u64 0)), (.v (.int .i64 0)), (.v (.int .i64 0))]), r0 (.st (.t 8) (.t 35) 3)])
 (.seq (.seq (.reg true [r 36 (.mv (.t 0)), ⟨some 37, none, [0], .chk (.t 36)⟩, ⟨some 38, none, [1, 0], .fld (.t 37) 6⟩, ⟨some 39, none, [2, 1, 0], .ld (.t 38)⟩, r 40 (.mv (.t 0)), ⟨some 41, none, [4], .chk (.t 40)⟩, ⟨some 42, none, [5, 4], .fld (.t 41) 0⟩, ⟨some 43, none, [6, 5, 4], .fld (.t 42) 3⟩, ⟨some 44, none, [7, 6, 5, 4], .lda (.t 43) 2⟩, r 45 (.mv (.t 1)), ⟨some 46, none, [8, 7, 6, 5, 4, 9], .call 51 [(.t 44), (.t 45)]⟩, ⟨some 47, none, [3, 2, 1, 0, 10, 8, 7, 6, 5, 4, 9], .idx (.t 39) (.t 46) 1⟩, ⟨some 48, none, [11, 3, 2, 1, 0, 10, 8, 7, 6, 5, 4, 9], .ld (.t 47)⟩, ⟨some 49, none, [12, 11, 3, 2, 1, 0, 10, 8, 7, 6, 5, 4, 9], .chk (.t 48)⟩, ⟨some 50, none, [13, 12, 11, 3, 2, 1, 0, 10, 8, 7, 6, 5, 4, 9], .fld (.t 49) 9⟩, ⟨some 51, none, [14, 13, 12, 11, 3, 2, 1, 0, 10, 8, 7, 6, 5, 4, 9], .ld (.t 50)⟩, r 52 (.lda (.t 8) 3), ⟨some 53, none, [15, 14, 13, 12, 11, 3, 2, 1, 0, 10, 8, 7, 6, 5, 4, 9, 16], .call 52 [(.t 51), (.t 52)]⟩, ⟨some 54, none, [17, 15, 14, 13, 12, 11, 3, 2, 1, 0, 10, 8, 7, 6, 5, 4, 9, 16], .bnot (.t 53)⟩])
 (.cond (.t 54)
 (.seq (.reg false [r 55 (.build [(.v (.int .u64 0)), (.v (.int .i64 0)), (.v (.int .i64 0))] []), r0 (.st (.t 6) (.t 55) 3), r 7 (.mv (.k (.v (.int .i64 35))))])
 .ret)
 .skip))
 (.seq (.reg false [r 56 (.mv (.t 0)), r 57 (.chk (.t 56)), r 58 (.fld (.t 57) 5), r 59 (.ld (.t 58)), r 60 (.ib .add .u64 (.t 59) (.k (.v (.int .u64 1)))), r 61 (.chk (.t 56)), r 62 (.fld (.t 61) 5), r0 (.st (.t 62) (.t 60) 1)])
 (.seq (.reg false [r 63 (.lda (.t 8) 3), r0 (.st (.t 6) (.t 63) 3), r 7 (.mv (.k (.v (.int .i64 0))))])
 .ret))))))
theorem Zst : compF Try.prog Try.f26 = some (Zo8, [.c 6 3 true, .t 7], 64) := by kernel_rfl
-- ros 26 [none, none, none] TYS [none, (.int .i64), (.int .i64)]

def Zif : IC := (.seq (.reg false [r 2 (.box 38 2 (.t 0)), r 4 (.mv (.k (.v (.int .i64 0))))])
 (.seq (.seq (.reg false [r 5 (.mv (.k (.v (.int .i64 0))))])
 (.block 0
 (.loop
 (.seq (.seq (.reg false [r 6 (.mv (.t 5)), r 7 (.fld (.t 2) 0), r 8 (.ld (.t 7)), r 9 (.len false (.t 8)), r 10 (.ib .lt .i64 (.t 6) (.t 9))])
 (.cond (.t 10)
 .skip
 (.exit 0)))
 (.seq (.block 1
 (.seq (.reg false [r 13 (.fld (.t 2) 0), r 14 (.ld (.t 13)), r 15 (.mv (.t 5)), r 16 (.idx (.t 14) (.t 15) 3), r 17 (.fld (.t 16) 0), r 18 (.ld (.t 17)), r 19 (.mv (.t 1)), r 20 (.ib .le .i64 (.t 18) (.t 19)), r 21 (.mv (.t 20)), ⟨some 22, some (21, true), [], .fld (.t 2) 0⟩, ⟨some 23, some (21, true), [], .ld (.t 22)⟩, ⟨some 24, some (21, true), [], .mv (.t 5)⟩, ⟨some 25, some (21, true), [], .idx (.t 23) (.t 24) 3⟩, ⟨some 26, some (21, true), [], .fld (.t 25) 1⟩, ⟨some 27, some (21, true), [], .ld (.t 26)⟩, ⟨some 28, some (21, true), [], .mv (.t 1)⟩, ⟨some 29, some (21, true), [], .ib .ge .i64 (.t 27) (.t 28)⟩, r 30 (.pick (.t 21) (.t 29) (.k (.v (.bool false))))])
 (.cond (.t 30)
 (.seq (.reg false [r 31 (.fld (.t 2) 0), r 32 (.ld (.t 31)), r 33 (.mv (.t 5)), r 34 (.idx (.t 32) (.t 33) 3), r 35 (.fld (.t 34) 2), r 36 (.ld (.t 35)), r 4 (.mv (.t 36))])
 .ret)
 .skip)))
 (.reg false [r 11 (.mv (.t 5)), r 12 (.ib .add .i64 (.t 11) (.k (.v (.int .i64 1)))), r 5 (.mv (.t 12))]))))))
 (.seq (.reg false [r 37 (.fld (.t 2) 1), r 38 (.ld (.t 37)), r 4 (.mv (.t 38))])
 .ret)))
theorem Zvp : compF Try.prog Try.f27 = some (Zif, [.t 4], 39) := by kernel_rfl
-- ros 27 [none, none] TYS [(.st [(.row 95 (.st [(.int .i64), (.int .i64), (.int .i64)])), (.int .i64)]), (.int .i64)]

def Zjf : IC := (.seq (.seq (.reg false [r 6 (.mv (.t 0)), r 7 (.isn 0 false (.t 6))])
 (.cond (.t 7)
 .ret
 .skip))
 (.seq (.reg false [r 8 (.mv (.t 0)), r 9 (.chk (.t 8)), r 10 (.fld (.t 9) 6), r 11 (.ld (.t 10)), r 12 (.len false (.t 11)), r 13 (.mv (.k (.v (.int .i64 0))))])
 (.block 0
 (.loop
 (.seq (.reg false [r 14 (.ib .lt .i64 (.t 13) (.t 12))])
 (.seq (.cond (.t 14)
 .skip
 (.exit 0))
 (.seq (.block 1
 (.seq (.reg false [r 15 (.idx (.t 11) (.t 13) 1), r 16 (.ld (.t 15)), r 5 (.mv (.t 16))])
 (.reg false [r 17 (.mv (.t 5)), r 18 (.mv (.t 5)), r 19 (.chk (.t 18)), r 20 (.fld (.t 19) 6), r 21 (.lda (.t 20) 3), r 22 (.mv (.t 1)), r 23 (.call 53 [(.t 21), (.t 22)]), r 24 (.chk (.t 17)), r 25 (.fld (.t 24) 6), r0 (.st (.t 25) (.t 23) 3)])))
 (.reg false [r 26 (.ib .add .i64 (.t 13) (.k (.v (.int .i64 1)))), r 13 (.mv (.t 26))]))))))))
theorem Zy8 : compF Try.prog Try.f28 = some (Zjf, [], 27) := by kernel_rfl
-- ros 28 [none, none] TYS [none, (.int .u64)]

def Zjb : IC := (.seq (.reg false [r 2 (.new 75 [(.v (.int .u64 0)), (.v (.int .i64 0)), (.v (.int .i64 0))]), r 3 (.mv (.k (.str []))), r 4 (.mv (.k (.v (.bool false))))])
 (.seq (.seq (.reg false [r 12 (.mv (.t 0)), r 13 (.isn 0 false (.t 12))])
 (.cond (.t 13)
 (.seq (.reg false [r 14 (.build [(.v (.int .u64 0)), (.v (.int .i64 0)), (.v (.int .i64 0))] []), r0 (.st (.t 2) (.t 14) 3), r 3 (.mv (.k (.str []))), r 4 (.mv (.k (.v (.bool false))))])
 .ret)
 .skip))
 (.seq (.reg false [r 5 (.mv (.k .nsl))])
 (.seq (.seq (.reg false [r 15 (.mv (.t 0)), r 16 (.chk (.t 15)), r 17 (.fld (.t 16) 6), r 18 (.ld (.t 17)), r 19 (.len false (.t 18)), r 20 (.mv (.k (.v (.int .i64 0))))])
 (.block 0
 (.loop
 (.seq (.reg false [r 21 (.ib .lt .i64 (.t 20) (.t 19))])
 (.seq (.cond (.t 21)
 .skip
 (.exit 0))
 (.seq (.block 1
 (.seq (.reg false [r 22 (.idx (.t 18) (.t 20) 1), r 23 (.ld (.t 22)), r 7 (.mv (.t 23))])
 (.reg false [r 24 (.mv (.t 5)), r 25 (.mv (.t 0)), r 26 (.mv (.t 7)), r 27 (.call 54 [(.t 25), (.t 26)]), r 28 (.bsl (.row 133 (.st [(.int .u64), .bool])) 1 [(.v (.int .u64 0)), (.v (.bool false))] [(0, 2, (.t 27))]), r 29 (.app (.row 133 (.st [(.int .u64), .bool])) 16 (.t 24) (.t 28)), r 5 (.mv (.t 29))])))
 (.reg false [r 30 (.ib .add .i64 (.t 20) (.k (.v (.int .i64 1)))), r 20 (.mv (.t 30))])))))))
 (.seq (.reg false [r 31 (.mv (.t 0)), r 32 (.chk (.t 31)), r 33 (.fld (.t 32) 7), r 34 (.ld (.t 33)), r 35 (.mv (.t 5)), r 36 (.call 55 [(.t 34), (.t 35)]), r 8 (.mv (.t 36))])
 (.seq (.seq (.reg false [r 37 (.mv (.t 8)), r 38 (.ib .lt .i64 (.t 37) (.k (.v (.int .i64 0))))])
 (.cond (.t 38)
 (.seq (.reg false [r 39 (.build [(.v (.int .u64 0)), (.v (.int .i64 0)), (.v (.int .i64 0))] []), r0 (.st (.t 2) (.t 39) 3), r 3 (.mv (.k (.str []))), r 4 (.mv (.k (.v (.bool false))))])
 .ret)
 .skip))
 (.seq (.reg false [r 40 (.mv (.t 0)), r 41 (.chk (.t 40)), r 42 (.fld (.t 41) 6), r 43 (.ld (.t 42)), r 44 (.mv (.t 8)), r 45 (.idx (.t 43) (.t 44) 1), r 46 (.ld (.t 45)), r 9 (.mv (.t 46))])
 (.seq (.reg false [r 48 (.mv (.t 9)), r 49 (.chk (.t 48)), r 50 (.fld (.t 49) 9), r 51 (.ld (.t 50)), r 52 (.call 56 [(.t 51)]), r 47 (.mv (.t 52)), r 53 (.ext (.t 47) 0), r 54 (.ext (.t 47) 1), r 10 (.new 75 [(.v (.int .u64 0)), (.v (.int .i64 0)), (.v (.int .i64 0))]), r0 (.st (.t 10) (.t 53) 3), r 11 (.mv (.t 54))])
 (.seq (.seq (.reg false [r 55 (.mv (.t 9)), r 56 (.chk (.t 55)), r 57 (.fld (.t 56) 0), r 58 (.fld (.t 57) 5), r 59 (.ld (.t 58))])
 (.cond (.t 59)
 (.reg true [r 61 (.mv (.t 9)), r 62 (.mv (.t 9)), ⟨some 63, none, [1], .chk (.t 62)⟩, ⟨some 64, none, [2, 1], .fld (.t 63) 6⟩, ⟨some 65, none, [3, 2, 1], .lda (.t 64) 3⟩, r 66 (.fld (.t 10) 2), ⟨some 67, none, [5], .ld (.t 66)⟩, ⟨some 68, none, [6, 5], .conv .u64 (.t 67)⟩, ⟨some 69, none, [4, 3, 2, 1, 7, 6, 5], .call 57 [(.t 65), (.t 68)]⟩, ⟨some 60, none, [8, 4, 3, 2, 1, 7, 6, 5], .mv (.t 69)⟩, ⟨some 70, none, [9, 8, 4, 3, 2, 1, 7, 6, 5], .ext (.t 60) 0⟩, ⟨some 71, none, [9, 8, 4, 3, 2, 1, 7, 6, 5], .ext (.t 60) 1⟩, ⟨some 72, none, [0, 1, 2, 3, 4, 5, 6, 7, 8, 9, 10], .chk (.t 61)⟩, ⟨some 73, none, [12, 0, 1, 2, 3, 4, 5, 6, 7, 8, 9, 10], .fld (.t 72) 6⟩, ⟨none, none, [13, 12, 0, 1, 2, 3, 4, 5, 6, 7, 8, 9, 10], .st (.t 73) (.t 70) 3⟩])
 .skip))
 (.seq (.reg true [r 74 (.lda (.t 10) 3), r 75 (.mv (.t 9)), ⟨some 76, none, [1], .chk (.t 75)⟩, ⟨some 77, none, [2, 1], .fld (.t 76) 0⟩, ⟨some 78, none, [3, 2, 1], .fld (.t 77) 0⟩, ⟨some 79, none, [4, 3, 2, 1], .ld (.t 78)⟩, ⟨none, none, [0], .st (.t 2) (.t 74) 3⟩, ⟨some 3, none, [5, 4, 3, 2, 1, 6, 0], .mv (.t 79)⟩, ⟨some 4, none, [7, 5, 4, 3, 2, 1, 6, 0], .mv (.k (.v (.bool true)))⟩])
 .ret))))))))))
theorem Z10m : compF Try.prog Try.f29 = some (Zjb, [.c 2 3 true, .t 3, .t 4], 80) := by kernel_rfl
-- ros 29 [none] TYS [none]

def Znt : IC := (.seq (.reg false [r 3 (.box 67 6 (.t 1)), r 4 (.mv (.k (.v (.int .i64 0))))])
 (.seq (.seq (.reg true [r 7 (.mv (.t 0)), ⟨some 8, none, [0], .isn 0 false (.t 7)⟩, ⟨some 9, none, [1, 0], .mv (.t 8)⟩, ⟨some 10, some (9, false), [2, 1, 0], .lda (.t 3) 6⟩, ⟨some 11, some (9, false), [3, 2, 1, 0], .call 58 [(.t 10)]⟩, ⟨some 12, some (9, false), [4, 3, 2, 1, 0], .bnot (.t 11)⟩, ⟨some 13, none, [2, 1, 0, 5, 4, 3], .pick (.t 9) (.k (.v (.bool true))) (.t 12)⟩, ⟨some 14, none, [6, 2, 1, 0, 5, 4, 3], .mv (.t 13)⟩, ⟨some 15, some (14, false), [7, 6, 2, 1, 0, 5, 4, 3], .fld (.t 3) 1⟩, ⟨some 16, some (14, false), [8, 7, 6, 2, 1, 0, 5, 4, 3], .ld (.t 15)⟩, ⟨some 17, some (14, false), [9, 8, 7, 6, 2, 1, 0, 5, 4, 3], .len false (.t 16)⟩, ⟨some 18, some (14, false), [7, 6, 2, 1, 0, 5, 4, 3], .mv (.t 0)⟩, ⟨some 19, some (14, false), [11, 7, 6, 2, 1, 0, 5, 4, 3], .chk (.t 18)⟩, ⟨some 20, some (14, false), [12, 11, 7, 6, 2, 1, 0, 5, 4, 3], .fld (.t 19) 6⟩, ⟨some 21, some (14, false), [13, 12, 11, 7, 6, 2, 1, 0, 5, 4, 3], .ld (.t 20)⟩, ⟨some 22, some (14, false), [14, 13, 12, 11, 7, 6, 2, 1, 0, 5, 4, 3], .len false (.t 21)⟩, ⟨some 23, some (14, false), [10, 9, 8, 7, 6, 2, 1, 0, 5, 4, 3, 15, 14, 13, 12, 11], .ib .ne .i64 (.t 17) (.t 22)⟩, ⟨some 24, none, [7, 6, 2, 1, 0, 5, 4, 3, 16, 10, 9, 8, 15, 14, 13, 12, 11], .pick (.t 14) (.k (.v (.bool true))) (.t 23)⟩])
 (.cond (.t 24)
 (.seq (.reg false [r 4 (.mv (.k (.v (.int .i64 1))))])
 .ret)
 .skip))
 (.seq (.reg false [r 25 (.mv (.t 0)), r 26 (.fld (.t 3) 0), r 27 (.ld (.t 26)), r 28 (.chk (.t 25)), r 29 (.fld (.t 28) 5), r0 (.st (.t 29) (.t 27) 1)])
 (.seq (.reg true [r 30 (.mv (.t 0)), ⟨some 31, none, [0], .chk (.t 30)⟩, ⟨some 32, none, [1, 0], .fld (.t 31) 7⟩, ⟨some 33, none, [2, 1, 0], .ld (.t 32)⟩, r 34 (.fld (.t 3) 2), ⟨some 35, none, [4], .lda (.t 34) 3⟩, ⟨some 36, none, [3, 2, 1, 0, 5, 4], .call 59 [(.t 33), (.t 35)]⟩])
 (.seq (.seq (.reg false [r 37 (.mv (.t 0)), r 38 (.chk (.t 37)), r 39 (.fld (.t 38) 6), r 40 (.ld (.t 39)), r 41 (.len false (.t 40)), r 42 (.mv (.k (.v (.int .i64 0))))])
 (.block 0
 (.loop
 (.seq (.reg false [r 43 (.ib .lt .i64 (.t 42) (.t 41))])
 (.seq (.cond (.t 43)
 .skip
 (.exit 0))
 (.seq (.block 1
 (.seq (.reg false [r 44 (.mv (.t 42)), r 45 (.idx (.t 40) (.t 42) 1), r 46 (.ld (.t 45)), r 5 (.mv (.t 44)), r 6 (.mv (.t 46))])
 (.seq (.reg false [r 47 (.mv (.t 6)), r 48 (.fld (.t 3) 1), r 49 (.ld (.t 48)), r 50 (.mv (.t 5)), r 51 (.idx (.t 49) (.t 50) 1), r 52 (.ld (.t 51)), r 53 (.chk (.t 47)), r 54 (.fld (.t 53) 6), r 55 (.fld (.t 54) 2), r0 (.st (.t 55) (.t 52) 1)])
 (.reg true [r 56 (.mv (.t 6)), ⟨some 57, none, [0], .chk (.t 56)⟩, ⟨some 58, none, [1, 0], .fld (.t 57) 9⟩, ⟨some 59, none, [2, 1, 0], .ld (.t 58)⟩, r 60 (.fld (.t 3) 5), ⟨some 61, none, [4], .ld (.t 60)⟩, r 62 (.mv (.t 5)), ⟨some 63, none, [5, 4, 6], .idx (.t 61) (.t 62) 1⟩, ⟨some 64, none, [7, 5, 4, 6], .ld (.t 63)⟩, ⟨some 65, none, [3, 2, 1, 0, 8, 7, 5, 4, 6], .call 38 [(.t 59), (.t 64)]⟩]))))
 (.reg false [r 66 (.ib .add .i64 (.t 42) (.k (.v (.int .i64 1)))), r 42 (.mv (.t 66))])))))))
 (.seq (.reg false [r 4 (.mv (.k (.v (.int .i64 0))))])
 .ret))))))
theorem Zw2 : compF Try.prog Try.f30 = some (Znt, [.t 4], 67) := by kernel_rfl
-- ros 30 [none, none] TYS [none, (.st [(.int .u64), (.ints 46 .u64), (.st [(.int .i64), .bool, (.ints 46 .u64)]), (.row 72 (.row 75 (.st [(.int .u64), (.int .i64), (.int .i64)])))])]

def Zm2 : IC := (.seq (.reg false [r 3 (.box 33 5 (.t 1))])
 (.seq (.reg false [r 7 (.mv (.t 0)), r 8 (.lda (.t 3) 5), r 9 (.call 50 [(.t 8)]), r 10 (.chk (.t 7)), r 11 (.fld (.t 10) 0), r0 (.st (.t 11) (.t 9) 5)])
 (.seq (.reg false [r 12 (.mv (.t 0)), r 13 (.chk (.t 12)), r 14 (.fld (.t 13) 6), r0 (.st (.t 14) (.k .nsl) 1)])
 (.seq (.reg false [r 4 (.mv (.k .nsl))])
 (.seq (.seq (.reg false [r 15 (.fld (.t 3) 2), r 16 (.ld (.t 15)), r 17 (.len false (.t 16)), r 18 (.mv (.k (.v (.int .i64 0))))])
 (.block 0
 (.loop
 (.seq (.reg false [r 19 (.ib .lt .i64 (.t 18) (.t 17))])
 (.seq (.cond (.t 19)
 .skip
 (.exit 0))
 (.seq (.block 1
 (.seq (.reg false [r 20 (.idx (.t 16) (.t 18) 6), r 21 (.lda (.t 20) 6), r 6 (.new 83 [(.str []), (.v (.int .u64 0)), (.v (.int .u64 0)), (.v (.int .u64 0)), (.v (.int .i64 0)), (.v (.bool false))]), r0 (.st (.t 6) (.t 21) 6)])
 (.seq (.reg true [r 22 (.mv (.t 0)), r 23 (.mv (.t 0)), ⟨some 24, none, [1], .chk (.t 23)⟩, ⟨some 25, none, [2, 1], .fld (.t 24) 6⟩, ⟨some 26, none, [3, 2, 1], .ld (.t 25)⟩, r 27 (.lda (.t 6) 6), r 28 (.fld (.t 6) 2), ⟨some 29, none, [6], .ld (.t 28)⟩, r 30 (.fld (.t 6) 3), ⟨some 31, none, [8], .ld (.t 30)⟩, ⟨some 32, none, [7, 6, 9, 8], .call 60 [(.t 29), (.t 31)]⟩, r 33 (.fld (.t 6) 4), ⟨some 34, none, [11], .ld (.t 33)⟩, ⟨some 35, none, [12, 11, 10, 7, 6, 9, 8], .call 61 [(.t 34)]⟩, ⟨some 36, none, [5, 10, 7, 6, 9, 8, 13, 12, 11], .build [(.str []), (.v (.int .u64 0)), (.v (.int .u64 0)), (.v (.int .u64 0)), (.v (.int .i64 0)), (.v (.bool false)), (.v (.int .u64 0)), (.v (.int .u64 0)), (.v (.int .u64 0)), (.v (.pointer none))] [(0, 6, (.t 27)), (6, 3, (.t 32)), (9, 1, (.t 35))]⟩, ⟨some 37, none, [14, 5, 10, 7, 6, 9, 8, 13, 12, 11], .box 103 10 (.t 36)⟩, ⟨some 38, none, [15, 14, 5, 10, 7, 6, 9, 8, 13, 12, 11], .bsld 98 tm98 (.t 37)⟩, ⟨some 39, none, [4, 3, 2, 1, 16, 15, 14, 5, 10, 7, 6, 9, 8, 13, 12, 11], .appd 98 tm98 8 (.t 26) (.t 38)⟩, ⟨some 40, none, [0, 1, 2, 3, 4, 5, 6, 7, 8, 9, 10, 11, 12, 13, 14, 15, 16, 17], .chk (.t 22)⟩, ⟨some 41, none, [18, 0, 1, 2, 3, 4, 5, 6, 7, 8, 9, 10, 11, 12, 13, 14, 15, 16, 17], .fld (.t 40) 6⟩, ⟨none, none, [19, 18, 0, 1, 2, 3, 4, 5, 6, 7, 8, 9, 10, 11, 12, 13, 14, 15, 16, 17], .st (.t 41) (.t 39) 1⟩])
 (.reg false [r 42 (.mv (.t 4)), r 43 (.fld (.t 6) 1), r 44 (.ld (.t 43)), r 45 (.bsl (.ints 46 .u64) 1 [(.v (.int .u64 0))] [(0, 1, (.t 44))]), r 46 (.app (.ints 46 .u64) 8 (.t 42) (.t 45)), r 4 (.mv (.t 46))]))))
 (.reg false [r 47 (.ib .add .i64 (.t 18) (.k (.v (.int .i64 1)))), r 18 (.mv (.t 47))])))))))
 (.reg false [r 48 (.mv (.t 0)), r 49 (.mv (.t 4)), r 50 (.call 62 [(.t 49)]), r 51 (.chk (.t 48)), r 52 (.fld (.t 51) 7), r0 (.st (.t 52) (.t 50) 1)]))))))
theorem Zum : compF Try.prog Try.f31 = some (Zm2, [], 53) := by kernel_rfl
-- ros 31 [none, none] TYS [none, (.st [.str, .bool, (.row 83 (.st [.str, (.int .u64), (.int .u64), (.int .u64), (.int .i64), .bool])), (.st [(.row 96 (.st [(.int .i64), (.int .i64), (.int .i64)])), (.int .i64)])])]

def Zkz : IC := (.seq (.reg false [r 3 (.mv (.k (.v (.bool false))))])
 (.seq (.reg false [r 4 (.mv (.t 0)), r 5 (.ib .ge .i64 (.t 4) (.k (.v (.int .i64 0)))), r 6 (.mv (.t 5)), ⟨some 7, some (6, true), [], .mv (.t 0)⟩, ⟨some 8, some (6, true), [], .ld (.t 1)⟩, ⟨some 9, some (6, true), [], .ib .lt .i64 (.t 7) (.t 8)⟩, r 10 (.pick (.t 6) (.t 9) (.k (.v (.bool false)))), r 3 (.mv (.t 10))])
 .ret))
theorem Zwq : compF Try.prog Try.f32 = some (Zkz, [.t 3], 11) := by kernel_rfl
-- ros 32 [none] TYS [(.int .i64)]

def Zio : IC := (.seq (.reg false [r 2 (.mv (.k (.v (.int .i64 0))))])
 (.seq (.seq (.reg false [r 3 (.mv (.t 0)), r 4 (.isn 0 false (.t 3))])
 (.cond (.t 4)
 (.seq (.reg false [r 2 (.mv (.k (.v (.int .i64 0))))])
 .ret)
 .skip))
 (.seq (.reg false [r 5 (.mv (.t 0)), r 6 (.chk (.t 5)), r 7 (.fld (.t 6) 3), r 8 (.ld (.t 7)), r 2 (.mv (.t 8))])
 .ret)))
theorem Zxt : compF Try.prog Try.f33 = some (Zio, [.t 2], 9) := by kernel_rfl
-- ros 33 [none] TYS [none]

def Zlx : IC := (.seq (.reg false [r 2 (.box 33 5 (.t 0)), r 3 (.box 33 5 (.t 1)), r 4 (.mv (.k (.v (.bool false))))])
 (.seq (.reg false [r 5 (.fld (.t 2) 0), r 6 (.ld (.t 5)), r 7 (.fld (.t 3) 0), r 8 (.ld (.t 7)), r 9 (.sb .eq (.t 6) (.t 8)), r 10 (.mv (.t 9)), ⟨some 11, some (10, true), [], .fld (.t 2) 1⟩, ⟨some 12, some (10, true), [], .ld (.t 11)⟩, ⟨some 13, some (10, true), [], .fld (.t 3) 1⟩, ⟨some 14, some (10, true), [], .ld (.t 13)⟩, ⟨some 15, some (10, true), [], .bb false (.t 12) (.t 14)⟩, r 16 (.pick (.t 10) (.t 15) (.k (.v (.bool false)))), r 17 (.mv (.t 16)), ⟨some 18, some (17, true), [], .fld (.t 2) 2⟩, ⟨some 19, some (17, true), [], .ld (.t 18)⟩, ⟨some 20, some (17, true), [], .fld (.t 3) 2⟩, ⟨some 21, some (17, true), [], .ld (.t 20)⟩, ⟨some 22, some (17, true), [], .call 63 [(.t 19), (.t 21)]⟩, r 23 (.pick (.t 17) (.t 22) (.k (.v (.bool false)))), r 24 (.mv (.t 23)), ⟨some 25, some (24, true), [], .fld (.t 2) 3⟩, ⟨some 26, some (24, true), [], .fld (.t 25) 0⟩, ⟨some 27, some (24, true), [], .ld (.t 26)⟩, ⟨some 28, some (24, true), [], .fld (.t 3) 3⟩, ⟨some 29, some (24, true), [], .fld (.t 28) 0⟩, ⟨some 30, some (24, true), [], .ld (.t 29)⟩, ⟨some 31, some (24, true), [], .call 64 [(.t 27), (.t 30)]⟩, r 32 (.pick (.t 24) (.t 31) (.k (.v (.bool false)))), r 33 (.mv (.t 32)), ⟨some 34, some (33, true), [], .fld (.t 2) 3⟩, ⟨some 35, some (33, true), [], .fld (.t 34) 1⟩, ⟨some 36, some (33, true), [], .ld (.t 35)⟩, ⟨some 37, some (33, true), [], .fld (.t 3) 3⟩, ⟨some 38, some (33, true), [], .fld (.t 37) 1⟩, ⟨some 39, some (33, true), [], .ld (.t 38)⟩, ⟨some 40, some (33, true), [], .ib .eq .i64 (.t 36) (.t 39)⟩, r 41 (.pick (.t 33) (.t 40) (.k (.v (.bool false)))), r 4 (.mv (.t 41))])
 .ret))
theorem Z10v : compF Try.prog Try.f34 = some (Zlx, [.t 4], 42) := by kernel_rfl
-- ros 34 [none, none] TYS [(.st [.str, .bool, (.row 83 (.st [.str, (.int .u64), (.int .u64), (.int .u64), (.int .i64), .bool])), (.st [(.row 96 (.st [(.int .i64), (.int .i64), (.int .i64)])), (.int .i64)])]), (.st [.str, .bool, (.row 83 (.st [.str, (.int .u64), (.int .u64), (.int .u64), (.int .i64), .bool])), (.st [(.row 96 (.st [(.int .i64), (.int .i64), (.int .i64)])), (.int .i64)])])]

def Zjm : IC := (.seq (.reg false [r 3 (.box 33 5 (.t 0)), r 4 (.box 33 5 (.t 1)), r 6 (.mv (.k .nsl)), r 7 (.mv (.k (.v (.bool false))))])
 (.seq (.seq (.reg false [r 20 (.mv (.t 2)), r 21 (.len false (.t 20)), r 22 (.fld (.t 3) 2), r 23 (.ld (.t 22)), r 24 (.len false (.t 23)), r 25 (.ib .ne .i64 (.t 21) (.t 24))])
 (.cond (.t 25)
 (.seq (.reg false [r 6 (.mv (.k .nsl)), r 7 (.mv (.k (.v (.bool false))))])
 .ret)
 .skip))
 (.seq (.reg false [r 26 (.fld (.t 4) 2), r 27 (.ld (.t 26)), r 28 (.len false (.t 27)), r 29 (.mks (.row 72 (.row 75 (.st [(.int .u64), (.int .i64), (.int .i64)]))) 24 (.t 28) (.t 28)), r 8 (.mv (.t 29))])
 (.seq (.reg false [r 30 (.fld (.t 4) 2), r 31 (.ld (.t 30)), r 32 (.len false (.t 31)), r 33 (.mks (.row 4 .bool) 1 (.t 32) (.t 32)), r 9 (.mv (.t 33))])
 (.seq (.seq (.reg false [r 34 (.mv (.t 2)), r 35 (.len false (.t 34)), r 36 (.mv (.k (.v (.int .i64 0))))])
 (.block 0
 (.loop
 (.seq (.reg false [r 37 (.ib .lt .i64 (.t 36) (.t 35))])
 (.seq (.cond (.t 37)
 .skip
 (.exit 0))
 (.seq (.block 1
 (.seq (.reg false [r 38 (.mv (.t 36)), r 39 (.idx (.t 34) (.t 36) 1), r 40 (.ld (.t 39)), r 10 (.mv (.t 38)), r 11 (.mv (.t 40))])
 (.seq (.reg false [r 41 (.fld (.t 4) 2), r 42 (.ld (.t 41)), r 43 (.len false (.t 42)), r 44 (.mksd 72 tm72 24 (.t 43) (.t 43)), r 12 (.mv (.t 44))])
 (.seq (.seq (.reg false [r 45 (.mv (.t 11)), r 46 (.len false (.t 45)), r 47 (.mv (.k (.v (.int .i64 0))))])
 (.block 2
 (.loop
 (.seq (.reg false [r 48 (.ib .lt .i64 (.t 47) (.t 46))])
 (.seq (.cond (.t 48)
 .skip
 (.exit 2))
 (.seq (.block 3
 (.seq (.reg false [r 49 (.idx (.t 45) (.t 47) 3), r 50 (.lda (.t 49) 3), r 14 (.new 75 [(.v (.int .u64 0)), (.v (.int .i64 0)), (.v (.int .i64 0))]), r0 (.st (.t 14) (.t 50) 3)])
 (.seq (.reg false [r 51 (.fld (.t 4) 3), r 52 (.lda (.t 51) 2), r 53 (.fld (.t 14) 1), r 54 (.ld (.t 53)), r 55 (.call 51 [(.t 52), (.t 54)]), r 15 (.mv (.t 55))])
 (.seq (.reg false [r 56 (.mv (.t 15)), r 57 (.ib .ge .i64 (.t 56) (.k (.v (.int .i64 0)))), r 58 (.mv (.t 57)), ⟨some 59, some (58, true), [], .mv (.t 15)⟩, ⟨some 60, some (58, true), [], .mv (.t 12)⟩, ⟨some 61, some (58, true), [], .len false (.t 60)⟩, ⟨some 62, some (58, true), [], .ib .lt .i64 (.t 59) (.t 61)⟩, r 63 (.pick (.t 58) (.t 62) (.k (.v (.bool false))))])
 (.cond (.t 63)
 (.reg true [r 64 (.mv (.t 12)), r 65 (.mv (.t 15)), r 66 (.mv (.t 12)), r 67 (.mv (.t 15)), ⟨some 68, none, [2, 3], .idx (.t 66) (.t 67) 1⟩, ⟨some 69, none, [4, 2, 3], .ld (.t 68)⟩, r 70 (.lda (.t 14) 3), ⟨some 71, none, [6], .bsl (.row 75 (.st [(.int .u64), (.int .i64), (.int .i64)])) 1 [(.v (.int .u64 0)), (.v (.int .i64 0)), (.v (.int .i64 0))] [(0, 3, (.t 70))]⟩, ⟨some 72, none, [5, 4, 2, 3, 7, 6], .app (.row 75 (.st [(.int .u64), (.int .i64), (.int .i64)])) 24 (.t 69) (.t 71)⟩, ⟨some 73, none, [0, 1, 2, 3, 4, 5, 6, 7, 8], .idx (.t 64) (.t 65) 1⟩, ⟨none, none, [9, 0, 1, 2, 3, 4, 5, 6, 7, 8], .st (.t 73) (.t 72) 1⟩])
 .skip)))))
 (.reg false [r 74 (.ib .add .i64 (.t 47) (.k (.v (.int .i64 1)))), r 47 (.mv (.t 74))])))))))
 (.seq (.reg false [r 75 (.mv (.t 12)), r 76 (.len false (.t 75)), r 77 (.mv (.k (.v (.int .i64 0))))])
 (.block 4
 (.loop
 (.seq (.reg false [r 78 (.ib .lt .i64 (.t 77) (.t 76))])
 (.seq (.cond (.t 78)
 .skip
 (.exit 4))
 (.seq (.block 5
 (.seq (.reg false [r 79 (.mv (.t 77)), r 80 (.idx (.t 75) (.t 77) 1), r 81 (.ld (.t 80)), r 16 (.mv (.t 79)), r 17 (.mv (.t 81))])
 (.seq (.reg false [r 82 (.mv (.t 8)), r 83 (.mv (.t 16)), r 84 (.mv (.t 8)), r 85 (.mv (.t 16)), r 86 (.idx (.t 84) (.t 85) 1), r 87 (.ld (.t 86)), r 88 (.mv (.t 17)), r 89 (.call 65 [(.t 87), (.t 88)]), r 90 (.idx (.t 82) (.t 83) 1), r0 (.st (.t 90) (.t 89) 1)])
 (.reg true [r 91 (.mv (.t 9)), r 92 (.mv (.t 16)), r 93 (.mv (.t 9)), r 94 (.mv (.t 16)), ⟨some 95, none, [2, 3], .idx (.t 93) (.t 94) 1⟩, ⟨some 96, none, [4, 2, 3], .ld (.t 95)⟩, ⟨some 97, none, [5, 4, 2, 3], .mv (.t 96)⟩, ⟨some 98, some (97, false), [6, 5, 4, 2, 3], .mv (.t 17)⟩, ⟨some 99, some (97, false), [7, 6, 5, 4, 2, 3], .len false (.t 98)⟩, ⟨some 100, some (97, false), [8, 7, 6, 5, 4, 2, 3], .ib .gt .i64 (.t 99) (.k (.v (.int .i64 0)))⟩, ⟨some 101, some (97, false), [9, 8, 7, 6, 5, 4, 2, 3], .mv (.t 100)⟩, ⟨some 102, some (101, true), [10, 9, 8, 7, 6, 5, 4, 2, 3], .fld (.t 3) 2⟩, ⟨some 103, some (101, true), [11, 10, 9, 8, 7, 6, 5, 4, 2, 3], .ld (.t 102)⟩, ⟨some 104, some (101, true), [10, 9, 8, 7, 6, 5, 4, 2, 3], .mv (.t 10)⟩, ⟨some 105, some (101, true), [12, 11, 10, 9, 8, 7, 6, 5, 4, 2, 3, 13], .idx (.t 103) (.t 104) 6⟩, ⟨some 106, some (101, true), [14, 12, 11, 10, 9, 8, 7, 6, 5, 4, 2, 3, 13], .fld (.t 105) 0⟩, ⟨some 107, some (101, true), [15, 14, 12, 11, 10, 9, 8, 7, 6, 5, 4, 2, 3, 13], .ld (.t 106)⟩, ⟨some 108, some (101, true), [10, 9, 8, 7, 6, 5, 4, 2, 3], .fld (.t 4) 2⟩, ⟨some 109, some (101, true), [17, 10, 9, 8, 7, 6, 5, 4, 2, 3], .ld (.t 108)⟩, ⟨some 110, some (101, true), [10, 9, 8, 7, 6, 5, 4, 2, 3], .mv (.t 16)⟩, ⟨some 111, some (101, true), [18, 17, 10, 9, 8, 7, 6, 5, 4, 2, 3, 19], .idx (.t 109) (.t 110) 6⟩, ⟨some 112, some (101, true), [20, 18, 17, 10, 9, 8, 7, 6, 5, 4, 2, 3, 19], .fld (.t 111) 0⟩, ⟨some 113, some (101, true), [21, 20, 18, 17, 10, 9, 8, 7, 6, 5, 4, 2, 3, 19], .ld (.t 112)⟩, ⟨some 114, some (101, true), [16, 15, 14, 12, 11, 10, 9, 8, 7, 6, 5, 4, 2, 3, 13, 22, 21, 20, 18, 17, 19], .sb .ne (.t 107) (.t 113)⟩, ⟨some 115, some (97, false), [10, 9, 8, 7, 6, 5, 4, 2, 3, 23, 16, 15, 14, 12, 11, 13, 22, 21, 20, 18, 17, 19], .pick (.t 101) (.t 114) (.k (.v (.bool false)))⟩, ⟨some 116, none, [6, 5, 4, 2, 3, 24, 10, 9, 8, 7, 23, 16, 15, 14, 12, 11, 13, 22, 21, 20, 18, 17, 19], .pick (.t 97) (.k (.v (.bool true))) (.t 115)⟩, ⟨some 117, none, [0, 1, 2, 3, 4, 5, 6, 7, 8, 9, 10, 11, 12, 13, 14, 15, 16, 17, 18, 19, 20, 21, 22, 23, 24, 25], .idx (.t 91) (.t 92) 1⟩, ⟨none, none, [26, 0, 1, 2, 3, 4, 5, 6, 7, 8, 9, 10, 11, 12, 13, 14, 15, 16, 17, 18, 19, 20, 21, 22, 23, 24, 25], .st (.t 117) (.t 116) 1⟩]))))
 (.reg false [r 118 (.ib .add .i64 (.t 77) (.k (.v (.int .i64 1)))), r 77 (.mv (.t 118))])))))))))))
 (.reg false [r 119 (.ib .add .i64 (.t 36) (.k (.v (.int .i64 1)))), r 36 (.mv (.t 119))])))))))
 (.seq (.seq (.reg false [r 120 (.mv (.t 9)), r 121 (.len false (.t 120)), r 122 (.mv (.k (.v (.int .i64 0))))])
 (.block 6
 (.loop
 (.seq (.reg false [r 123 (.ib .lt .i64 (.t 122) (.t 121))])
 (.seq (.cond (.t 123)
 .skip
 (.exit 6))
 (.seq (.block 7
 (.seq (.reg false [r 124 (.mv (.t 122)), r 125 (.idx (.t 120) (.t 122) 1), r 126 (.ld (.t 125)), r 18 (.mv (.t 124)), r 19 (.mv (.t 126))])
 (.seq (.reg true [r 127 (.mv (.t 19)), ⟨some 128, none, [0], .mv (.t 127)⟩, ⟨some 129, some (128, true), [1, 0], .mv (.t 8)⟩, ⟨some 130, some (128, true), [1, 0], .mv (.t 18)⟩, ⟨some 131, some (128, true), [2, 1, 0, 3], .idx (.t 129) (.t 130) 1⟩, ⟨some 132, some (128, true), [4, 2, 1, 0, 3], .ld (.t 131)⟩, ⟨some 133, some (128, true), [5, 4, 2, 1, 0, 3], .len false (.t 132)⟩, ⟨some 134, some (128, true), [1, 0], .fld (.t 4) 2⟩, ⟨some 135, some (128, true), [7, 1, 0], .ld (.t 134)⟩, ⟨some 136, some (128, true), [1, 0], .mv (.t 18)⟩, ⟨some 137, some (128, true), [8, 7, 1, 0, 9], .idx (.t 135) (.t 136) 6⟩, ⟨some 138, some (128, true), [10, 8, 7, 1, 0, 9], .fld (.t 137) 4⟩, ⟨some 139, some (128, true), [11, 10, 8, 7, 1, 0, 9], .ld (.t 138)⟩, ⟨some 140, some (128, true), [6, 5, 4, 2, 1, 0, 3, 12, 11, 10, 8, 7, 9], .ib .gt .i64 (.t 133) (.t 139)⟩, ⟨some 141, none, [1, 0, 13, 6, 5, 4, 2, 3, 12, 11, 10, 8, 7, 9], .pick (.t 128) (.t 140) (.k (.v (.bool false)))⟩])
 (.cond (.t 141)
 (.seq (.reg false [r 142 (.mv (.t 8)), r 6 (.mv (.t 142)), r 7 (.mv (.k (.v (.bool false))))])
 .ret)
 .skip))))
 (.reg false [r 143 (.ib .add .i64 (.t 122) (.k (.v (.int .i64 1)))), r 122 (.mv (.t 143))])))))))
 (.seq (.reg false [r 144 (.mv (.t 8)), r 6 (.mv (.t 144)), r 7 (.mv (.k (.v (.bool true))))])
 .ret)))))))
theorem Zuq : compF Try.prog Try.f35 = some (Zjm, [.t 6, .t 7], 145) := by kernel_rfl
-- ros 35 [none, none, (some (.row 72 (.row 75 (.st [(.int .u64), (.int .i64), (.int .i64)]))))] TYS [(.st [.str, .bool, (.row 83 (.st [.str, (.int .u64), (.int .u64), (.int .u64), (.int .i64), .bool])), (.st [(.row 96 (.st [(.int .i64), (.int .i64), (.int .i64)])), (.int .i64)])]), (.st [.str, .bool, (.row 83 (.st [.str, (.int .u64), (.int .u64), (.int .u64), (.int .i64), .bool])), (.st [(.row 96 (.st [(.int .i64), (.int .i64), (.int .i64)])), (.int .i64)])]), (.row 72 (.row 75 (.st [(.int .u64), (.int .i64), (.int .i64)])))]

def Zmx : IC := (.seq (.reg false [r 2 (.mv (.k .nsl))])
 (.seq (.reg false [r 3 (.mv (.k .nsl))])
 (.seq (.seq (.reg false [r 6 (.mv (.t 0)), r 7 (.chk (.t 6)), r 8 (.fld (.t 7) 6), r 9 (.ld (.t 8)), r 10 (.len false (.t 9)), r 11 (.mv (.k (.v (.int .i64 0))))])
 (.block 0
 (.loop
 (.seq (.reg false [r 12 (.ib .lt .i64 (.t 11) (.t 10))])
 (.seq (.cond (.t 12)
 .skip
 (.exit 0))
 (.seq (.block 1
 (.seq (.reg false [r 13 (.idx (.t 9) (.t 11) 1), r 14 (.ld (.t 13)), r 5 (.mv (.t 14))])
 (.reg false [r 15 (.mv (.t 3)), r 16 (.mv (.t 5)), r 17 (.chk (.t 16)), r 18 (.fld (.t 17) 9), r 19 (.ld (.t 18)), r 20 (.call 66 [(.t 19)]), r 21 (.bsl (.row 72 (.row 75 (.st [(.int .u64), (.int .i64), (.int .i64)]))) 1 [.nsl] [(0, 1, (.t 20))]), r 22 (.app (.row 72 (.row 75 (.st [(.int .u64), (.int .i64), (.int .i64)]))) 24 (.t 15) (.t 21)), r 3 (.mv (.t 22))])))
 (.reg false [r 23 (.ib .add .i64 (.t 11) (.k (.v (.int .i64 1)))), r 11 (.mv (.t 23))])))))))
 (.seq (.reg false [r 24 (.mv (.t 3)), r 2 (.mv (.t 24))])
 .ret))))
theorem Zsg : compF Try.prog Try.f36 = some (Zmx, [.t 2], 25) := by kernel_rfl
-- ros 36 [none] TYS [none]

def Zjr : IC := (.seq (.reg false [r 3 (.box 100 3 (.t 0)), r 6 (.new 100 [(.v (.int .u64 0)), (.v (.int .u64 0)), (.v (.int .u64 0))])])
 (.seq (.reg false [r 7 (.mv (.t 1)), r 8 (.mv (.t 2)), r 9 (.fld (.t 3) 2), r 10 (.ld (.t 9)), r 11 (.mv (.t 2)), r 12 (.mn (.t 10) (.t 11)), r 13 (.build [(.v (.int .u64 0)), (.v (.int .u64 0)), (.v (.int .u64 0))] [(0, 1, (.t 7)), (1, 1, (.t 8)), (2, 1, (.t 12))]), r0 (.st (.t 6) (.t 13) 3)])
 .ret))
theorem Zw1 : compF Try.prog Try.f37 = some (Zjr, [.c 6 3 true], 14) := by kernel_rfl
-- ros 37 [none, none, none] TYS [(.st [(.int .u64), (.int .u64), (.int .u64)]), (.int .u64), (.int .u64)]

def Zlt : IC := (.seq (.seq (.reg false [r 6 (.mv (.t 0)), r 7 (.isn 0 false (.t 6))])
 (.cond (.t 7)
 .ret
 .skip))
 (.seq (.reg false [r 8 (.mv (.t 0)), r 9 (.chk (.t 8)), r 10 (.fld (.t 9) 1), r 11 (.ld (.t 10)), r0 (.clear (.row 75 (.st [(.int .u64), (.int .i64), (.int .i64)])) (.t 11))])
 (.seq (.reg false [r 12 (.mv (.t 0)), r 13 (.mv (.t 0)), r 14 (.chk (.t 12)), r 15 (.fld (.t 14) 2), r0 (.st (.t 15) (.k (.v (.int .i64 0))) 1), r 16 (.chk (.t 13)), r 17 (.fld (.t 16) 3), r0 (.st (.t 17) (.k (.v (.int .i64 0))) 1)])
 (.seq (.reg false [r 18 (.mv (.t 1)), r 19 (.len false (.t 18)), r 20 (.mv (.k (.v (.int .i64 0))))])
 (.block 0
 (.loop
 (.seq (.reg false [r 21 (.ib .lt .i64 (.t 20) (.t 19))])
 (.seq (.cond (.t 21)
 .skip
 (.exit 0))
 (.seq (.block 1
 (.seq (.reg false [r 22 (.idx (.t 18) (.t 20) 3), r 23 (.lda (.t 22) 3), r 5 (.new 75 [(.v (.int .u64 0)), (.v (.int .i64 0)), (.v (.int .i64 0))]), r0 (.st (.t 5) (.t 23) 3)])
 (.reg false [r 24 (.mv (.t 0)), r 25 (.lda (.t 5) 3), r 26 (.call 67 [(.t 24), (.t 25)])])))
 (.reg false [r 27 (.ib .add .i64 (.t 20) (.k (.v (.int .i64 1)))), r 20 (.mv (.t 27))]))))))))))
theorem Zvg : compF Try.prog Try.f38 = some (Zlt, [], 28) := by kernel_rfl
-- ros 38 [none, (some (.row 75 (.st [(.int .u64), (.int .i64), (.int .i64)])))] TYS [none, (.row 75 (.st [(.int .u64), (.int .i64), (.int .i64)]))]

def Zof : IC := (.seq (.reg false [r 4 (.mv (.k (.v (.bool false))))])
 (.seq (.seq (.reg false [r 6 (.mv (.t 0)), r 7 (.len false (.t 6)), r 8 (.mv (.t 1)), r 9 (.len false (.t 8)), r 10 (.ib .ne .i64 (.t 7) (.t 9))])
 (.cond (.t 10)
 (.seq (.reg false [r 4 (.mv (.k (.v (.bool false))))])
 .ret)
 .skip))
 (.seq (.seq (.reg false [r 5 (.mv (.k (.v (.int .i64 0))))])
 (.block 0
 (.loop
 (.seq (.seq (.reg false [r 11 (.mv (.t 5)), r 12 (.mv (.t 0)), r 13 (.len false (.t 12)), r 14 (.ib .lt .i64 (.t 11) (.t 13))])
 (.cond (.t 14)
 .skip
 (.exit 0)))
 (.seq (.block 1
 (.seq (.reg true [r 17 (.mv (.t 0)), r 18 (.mv (.t 5)), ⟨some 19, none, [0, 1], .idx (.t 17) (.t 18) 1⟩, ⟨some 20, none, [2, 0, 1], .ld (.t 19)⟩, r 21 (.mv (.t 1)), r 22 (.mv (.t 5)), ⟨some 23, none, [4, 5], .idx (.t 21) (.t 22) 1⟩, ⟨some 24, none, [6, 4, 5], .ld (.t 23)⟩, ⟨some 25, none, [3, 2, 0, 1, 7, 6, 4, 5], .ib .ne .u64 (.t 20) (.t 24)⟩])
 (.cond (.t 25)
 (.seq (.reg false [r 4 (.mv (.k (.v (.bool false))))])
 .ret)
 .skip)))
 (.reg false [r 15 (.mv (.t 5)), r 16 (.ib .add .i64 (.t 15) (.k (.v (.int .i64 1)))), r 5 (.mv (.t 16))]))))))
 (.seq (.reg false [r 4 (.mv (.k (.v (.bool true))))])
 .ret))))
theorem Zz3 : compF Try.prog Try.f46 = some (Zof, [.t 4], 26) := by kernel_rfl
-- ros 46 [(some (.ints 46 .u64)), (some (.ints 46 .u64))] TYS [(.ints 46 .u64), (.ints 46 .u64)]

def Zml : IC := (.seq (.reg false [r 4 (.mv (.k (.v (.bool false))))])
 (.seq (.seq (.reg false [r 6 (.mv (.t 0)), r 7 (.len false (.t 6)), r 8 (.mv (.t 1)), r 9 (.len false (.t 8)), r 10 (.ib .ne .i64 (.t 7) (.t 9))])
 (.cond (.t 10)
 (.seq (.reg false [r 4 (.mv (.k (.v (.bool false))))])
 .ret)
 .skip))
 (.seq (.seq (.reg false [r 5 (.mv (.k (.v (.int .i64 0))))])
 (.block 0
 (.loop
 (.seq (.seq (.reg false [r 11 (.mv (.t 5)), r 12 (.mv (.t 0)), r 13 (.len false (.t 12)), r 14 (.ib .lt .i64 (.t 11) (.t 13))])
 (.cond (.t 14)
 .skip
 (.exit 0)))
 (.seq (.block 1
 (.seq (.reg true [r 17 (.mv (.t 0)), r 18 (.mv (.t 5)), ⟨some 19, none, [0, 1], .idx (.t 17) (.t 18) 3⟩, ⟨some 20, none, [2, 0, 1], .lda (.t 19) 3⟩, r 21 (.mv (.t 1)), r 22 (.mv (.t 5)), ⟨some 23, none, [4, 5], .idx (.t 21) (.t 22) 3⟩, ⟨some 24, none, [6, 4, 5], .lda (.t 23) 3⟩, ⟨some 25, none, [3, 2, 0, 1, 7, 6, 4, 5], .steq [0, 0, 0] true (.t 20) (.t 24)⟩])
 (.cond (.t 25)
 (.seq (.reg false [r 4 (.mv (.k (.v (.bool false))))])
 .ret)
 .skip)))
 (.reg false [r 15 (.mv (.t 5)), r 16 (.ib .add .i64 (.t 15) (.k (.v (.int .i64 1)))), r 5 (.mv (.t 16))]))))))
 (.seq (.reg false [r 4 (.mv (.k (.v (.bool true))))])
 .ret))))
theorem Zs0 : compF Try.prog Try.f47 = some (Zml, [.t 4], 26) := by kernel_rfl
-- ros 47 [(some (.row 75 (.st [(.int .u64), (.int .i64), (.int .i64)]))), (some (.row 75 (.st [(.int .u64), (.int .i64), (.int .i64)])))] TYS [(.row 75 (.st [(.int .u64), (.int .i64), (.int .i64)])), (.row 75 (.st [(.int .u64), (.int .i64), (.int .i64)]))]

def Zi5 : IC := (.seq (.reg false [r 2 (.new 65 [(.v (.int .i64 0)), (.v (.bool false)), .nsl])])
 (.seq (.seq (.reg false [r 3 (.mv (.t 0)), r 4 (.isn 0 false (.t 3))])
 (.cond (.t 4)
 (.seq (.reg false [r 5 (.build [(.v (.int .i64 0)), (.v (.bool false)), .nsl] []), r0 (.st (.t 2) (.t 5) 3)])
 .ret)
 .skip))
 (.seq (.reg false [r 6 (.mv (.t 0)), r 7 (.chk (.t 6)), r 8 (.fld (.t 7) 1), r 9 (.lda (.t 8) 3), r 10 (.call 77 [(.t 9)]), r0 (.st (.t 2) (.t 10) 3)])
 .ret)))
theorem Zqr : compF Try.prog Try.f48 = some (Zi5, [.c 2 3 true], 11) := by kernel_rfl
-- ros 48 [none] TYS [none]

def Zje : IC := (.seq (.reg false [r 2 (.box 38 2 (.t 0)), r 3 (.box 38 2 (.t 1)), r 4 (.mv (.k (.v (.bool false))))])
 (.seq (.seq (.reg false [r 6 (.fld (.t 2) 1), r 7 (.ld (.t 6)), r 8 (.fld (.t 3) 1), r 9 (.ld (.t 8)), r 10 (.ib .ne .i64 (.t 7) (.t 9)), r 11 (.mv (.t 10)), ⟨some 12, some (11, false), [], .fld (.t 2) 0⟩, ⟨some 13, some (11, false), [], .ld (.t 12)⟩, ⟨some 14, some (11, false), [], .len false (.t 13)⟩, ⟨some 15, some (11, false), [], .fld (.t 3) 0⟩, ⟨some 16, some (11, false), [], .ld (.t 15)⟩, ⟨some 17, some (11, false), [], .len false (.t 16)⟩, ⟨some 18, some (11, false), [], .ib .ne .i64 (.t 14) (.t 17)⟩, r 19 (.pick (.t 11) (.k (.v (.bool true))) (.t 18))])
 (.cond (.t 19)
 (.seq (.reg false [r 4 (.mv (.k (.v (.bool false))))])
 .ret)
 .skip))
 (.seq (.seq (.reg false [r 5 (.mv (.k (.v (.int .i64 0))))])
 (.block 0
 (.loop
 (.seq (.seq (.reg false [r 20 (.mv (.t 5)), r 21 (.fld (.t 2) 0), r 22 (.ld (.t 21)), r 23 (.len false (.t 22)), r 24 (.ib .lt .i64 (.t 20) (.t 23))])
 (.cond (.t 24)
 .skip
 (.exit 0)))
 (.seq (.block 1
 (.seq (.reg true [r 27 (.fld (.t 2) 0), ⟨some 28, none, [0], .ld (.t 27)⟩, r 29 (.mv (.t 5)), ⟨some 30, none, [1, 0, 2], .idx (.t 28) (.t 29) 3⟩, ⟨some 31, none, [3, 1, 0, 2], .lda (.t 30) 3⟩, r 32 (.fld (.t 3) 0), ⟨some 33, none, [5], .ld (.t 32)⟩, r 34 (.mv (.t 5)), ⟨some 35, none, [6, 5, 7], .idx (.t 33) (.t 34) 3⟩, ⟨some 36, none, [8, 6, 5, 7], .lda (.t 35) 3⟩, ⟨some 37, none, [4, 3, 1, 0, 2, 9, 8, 6, 5, 7], .steq [0, 0, 0] true (.t 31) (.t 36)⟩])
 (.cond (.t 37)
 (.seq (.reg false [r 4 (.mv (.k (.v (.bool false))))])
 .ret)
 .skip)))
 (.reg false [r 25 (.mv (.t 5)), r 26 (.ib .add .i64 (.t 25) (.k (.v (.int .i64 1)))), r 5 (.mv (.t 26))]))))))
 (.seq (.reg false [r 4 (.mv (.k (.v (.bool true))))])
 .ret))))
theorem Zt1 : compF Try.prog Try.f49 = some (Zje, [.t 4], 38) := by kernel_rfl
-- ros 49 [none, none] TYS [(.st [(.row 95 (.st [(.int .i64), (.int .i64), (.int .i64)])), (.int .i64)]), (.st [(.row 95 (.st [(.int .i64), (.int .i64), (.int .i64)])), (.int .i64)])]

def Zk0 : IC := (.seq (.reg false [r 1 (.box 33 5 (.t 0)), r 2 (.new 33 [(.str []), (.v (.bool false)), .nsl, .nsl, (.v (.int .i64 0))])])
 (.seq (.reg false [r 3 (.fld (.t 1) 2), r 4 (.ld (.t 3)), r 5 (.call 78 [(.t 4)]), r 6 (.fld (.t 1) 2), r0 (.st (.t 6) (.t 5) 1)])
 (.seq (.reg false [r 7 (.fld (.t 1) 3), r 8 (.fld (.t 7) 0), r 9 (.ld (.t 8)), r 10 (.call 79 [(.t 9)]), r 11 (.fld (.t 1) 3), r 12 (.fld (.t 11) 0), r0 (.st (.t 12) (.t 10) 1)])
 (.seq (.reg false [r 13 (.lda (.t 1) 5), r0 (.st (.t 2) (.t 13) 5)])
 .ret))))
theorem Ztw : compF Try.prog Try.f50 = some (Zk0, [.c 2 5 true], 14) := by kernel_rfl
-- ros 50 [none] TYS [(.st [.str, .bool, (.row 83 (.st [.str, (.int .u64), (.int .u64), (.int .u64), (.int .i64), .bool])), (.st [(.row 96 (.st [(.int .i64), (.int .i64), (.int .i64)])), (.int .i64)])])]

def Zp7 : IC := (.seq (.reg false [r 2 (.box 31 2 (.t 0)), r 3 (.box 3 1 (.t 1)), r 4 (.mv (.k (.v (.int .i64 0))))])
 (.seq (.reg false [r 6 (.fld (.t 2) 0), r 7 (.ld (.t 6)), r 8 (.mkfn 81 [(.t 3)]), r 9 (.call 80 [(.t 7), (.t 8)]), r 5 (.mv (.t 9))])
 (.seq (.seq (.reg false [r 10 (.mv (.t 5)), r 11 (.ib .lt .i64 (.t 10) (.k (.v (.int .i64 0))))])
 (.cond (.t 11)
 (.seq (.reg false [r 12 (.fld (.t 2) 1), r 13 (.ld (.t 12)), r 4 (.mv (.t 13))])
 .ret)
 .skip))
 (.seq (.reg false [r 14 (.fld (.t 2) 0), r 15 (.ld (.t 14)), r 16 (.mv (.t 5)), r 17 (.idx (.t 15) (.t 16) 3), r 18 (.fld (.t 17) 2), r 19 (.ld (.t 18)), r 4 (.mv (.t 19))])
 .ret))))
theorem Zss : compF Try.prog Try.f51 = some (Zp7, [.t 4], 20) := by kernel_rfl
-- ros 51 [none, none] TYS [(.st [(.row 96 (.st [(.int .i64), (.int .i64), (.int .i64)])), (.int .i64)]), (.int .i64)]

def Zib : IC := (.seq (.reg false [r 3 (.box 75 3 (.t 1)), r 4 (.mv (.k (.v (.bool false))))])
 (.seq (.seq (.reg true [r 5 (.mv (.t 0)), ⟨some 6, none, [0], .isn 0 false (.t 5)⟩, ⟨some 7, none, [1, 0], .mv (.t 6)⟩, ⟨some 8, some (7, false), [2, 1, 0], .mv (.t 0)⟩, ⟨some 9, some (7, false), [3, 2, 1, 0], .chk (.t 8)⟩, ⟨some 10, some (7, false), [4, 3, 2, 1, 0], .fld (.t 9) 3⟩, ⟨some 11, some (7, false), [5, 4, 3, 2, 1, 0], .ld (.t 10)⟩, ⟨some 12, some (7, false), [2, 1, 0], .mv (.t 0)⟩, ⟨some 13, some (7, false), [7, 2, 1, 0], .chk (.t 12)⟩, ⟨some 14, some (7, false), [8, 7, 2, 1, 0], .fld (.t 13) 0⟩, ⟨some 15, some (7, false), [9, 8, 7, 2, 1, 0], .ld (.t 14)⟩, ⟨some 16, some (7, false), [6, 5, 4, 3, 2, 1, 0, 10, 9, 8, 7], .ib .ge .i64 (.t 11) (.t 15)⟩, ⟨some 17, none, [2, 1, 0, 11, 6, 5, 4, 3, 10, 9, 8, 7], .pick (.t 7) (.k (.v (.bool true))) (.t 16)⟩])
 (.cond (.t 17)
 (.seq (.reg false [r 4 (.mv (.k (.v (.bool false))))])
 .ret)
 .skip))
 (.seq (.reg false [r 18 (.mv (.t 0)), r 19 (.lda (.t 3) 3), r 20 (.call 67 [(.t 18), (.t 19)])])
 (.seq (.reg false [r 4 (.mv (.k (.v (.bool true))))])
 .ret))))
theorem Zx2 : compF Try.prog Try.f52 = some (Zib, [.t 4], 21) := by kernel_rfl
-- ros 52 [none, none] TYS [none, (.st [(.int .u64), (.int .i64), (.int .i64)])]

def Zjh : IC := (.seq (.reg false [r 2 (.box 100 3 (.t 0)), r 4 (.new 100 [(.v (.int .u64 0)), (.v (.int .u64 0)), (.v (.int .u64 0))])])
 (.seq (.reg false [r 5 (.fld (.t 2) 2), r 6 (.ld (.t 5)), r 7 (.fld (.t 2) 0), r 8 (.ld (.t 7)), r 9 (.mv (.t 1)), r 10 (.fld (.t 2) 1), r 11 (.ld (.t 10)), r 12 (.call 82 [(.t 6), (.t 8), (.t 9), (.t 11)]), r 13 (.fld (.t 2) 2), r0 (.st (.t 13) (.t 12) 1)])
 (.seq (.reg false [r 14 (.lda (.t 2) 3), r0 (.st (.t 4) (.t 14) 3)])
 .ret)))
theorem Ztl : compF Try.prog Try.f53 = some (Zjh, [.c 4 3 true], 15) := by kernel_rfl
-- ros 53 [none, none] TYS [(.st [(.int .u64), (.int .u64), (.int .u64)]), (.int .u64)]

def Zn0 : IC := (.seq (.reg false [r 4 (.new 133 [(.v (.int .u64 0)), (.v (.bool false))])])
 (.seq (.reg false [r 9 (.mv (.t 1)), r 10 (.chk (.t 9)), r 11 (.fld (.t 10) 9), r 12 (.ld (.t 11)), r 13 (.call 83 [(.t 12)]), r 8 (.mv (.t 13)), r 14 (.ext (.t 8) 0), r 15 (.ext (.t 8) 1), r 5 (.new 75 [(.v (.int .u64 0)), (.v (.int .i64 0)), (.v (.int .i64 0))]), r0 (.st (.t 5) (.t 14) 3), r 6 (.mv (.t 15))])
 (.seq (.seq (.reg false [r 16 (.mv (.t 6)), r 17 (.bnot (.t 16))])
 (.cond (.t 17)
 (.seq (.reg false [r 18 (.build [(.v (.int .u64 0)), (.v (.bool false))] []), r0 (.st (.t 4) (.t 18) 2)])
 .ret)
 .skip))
 (.seq (.reg false [r 19 (.fld (.t 5) 2), r 20 (.ld (.t 19)), r 21 (.conv .u64 (.t 20)), r 7 (.mv (.t 21))])
 (.seq (.reg false [r 22 (.mv (.t 7)), r 23 (.mv (.t 0)), r 24 (.chk (.t 23)), r 25 (.fld (.t 24) 0), r 26 (.fld (.t 25) 1), r 27 (.ld (.t 26)), r 28 (.mv (.t 27)), ⟨some 29, some (28, true), [], .mv (.t 1)⟩, ⟨some 30, some (28, true), [], .chk (.t 29)⟩, ⟨some 31, some (28, true), [], .fld (.t 30) 0⟩, ⟨some 32, some (28, true), [], .fld (.t 31) 5⟩, ⟨some 33, some (28, true), [], .ld (.t 32)⟩, ⟨some 34, some (28, true), [], .bnot (.t 33)⟩, ⟨some 35, some (28, true), [], .mv (.t 34)⟩, ⟨some 36, some (35, false), [], .mv (.t 1)⟩, ⟨some 37, some (35, false), [], .chk (.t 36)⟩, ⟨some 38, some (35, false), [], .fld (.t 37) 6⟩, ⟨some 39, some (35, false), [], .fld (.t 38) 2⟩, ⟨some 40, some (35, false), [], .ld (.t 39)⟩, ⟨some 41, some (35, false), [], .mv (.t 7)⟩, ⟨some 42, some (35, false), [], .ib .ge .u64 (.t 40) (.t 41)⟩, ⟨some 43, some (28, true), [], .pick (.t 35) (.k (.v (.bool true))) (.t 42)⟩, r 44 (.pick (.t 28) (.t 43) (.k (.v (.bool false)))), r 45 (.build [(.v (.int .u64 0)), (.v (.bool false))] [(0, 1, (.t 22)), (1, 1, (.t 44))]), r0 (.st (.t 4) (.t 45) 2)])
 .ret)))))
theorem Z107 : compF Try.prog Try.f54 = some (Zn0, [.c 4 2 true], 46) := by kernel_rfl
-- ros 54 [none, none] TYS [none, none]

def Zol : IC := (.seq (.reg false [r 4 (.mv (.k (.v (.int .i64 0))))])
 (.seq (.seq (.reg false [r 5 (.mv (.t 0)), r 6 (.isn 0 false (.t 5)), r 7 (.mv (.t 6)), ⟨some 8, some (7, false), [], .mv (.t 1)⟩, ⟨some 9, some (7, false), [], .len false (.t 8)⟩, ⟨some 10, some (7, false), [], .mv (.t 0)⟩, ⟨some 11, some (7, false), [], .chk (.t 10)⟩, ⟨some 12, some (7, false), [], .fld (.t 11) 0⟩, ⟨some 13, some (7, false), [], .ld (.t 12)⟩, ⟨some 14, some (7, false), [], .len false (.t 13)⟩, ⟨some 15, some (7, false), [], .ib .ne .i64 (.t 9) (.t 14)⟩, r 16 (.pick (.t 7) (.k (.v (.bool true))) (.t 15)), r 17 (.mv (.t 16)), ⟨some 18, some (17, false), [], .mv (.t 1)⟩, ⟨some 19, some (17, false), [], .len false (.t 18)⟩, ⟨some 20, some (17, false), [], .ib .eq .i64 (.t 19) (.k (.v (.int .i64 0)))⟩, r 21 (.pick (.t 17) (.k (.v (.bool true))) (.t 20))])
 (.cond (.t 21)
 (.seq (.reg false [r 4 (.mv (.k (.v (.int .i64 (-1)))))])
 .ret)
 .skip))
 (.seq (.seq (.reg false [r 22 (.mv (.t 1)), r 23 (.len false (.t 22)), r 24 (.ib .add .i64 (.t 23) (.k (.v (.int .i64 1)))), r 25 (.mv (.k (.v (.int .i64 0))))])
 (.block 0
 (.loop
 (.seq (.reg false [r 26 (.ib .lt .i64 (.t 25) (.t 24))])
 (.seq (.cond (.t 26)
 .skip
 (.exit 0))
 (.seq (.block 1
 (.seq (.reg false [r 27 (.mv (.t 0)), r 28 (.mv (.t 1)), r 29 (.mv (.t 0)), r 30 (.chk (.t 29)), r 31 (.fld (.t 30) 1), r 32 (.fld (.t 31) 0), r 33 (.ld (.t 32)), r 34 (.idx (.t 28) (.t 33) 2), r 35 (.lda (.t 34) 2), r 36 (.call 84 [(.t 27), (.t 35)])])
 (.cond (.t 36)
 (.seq (.reg false [r 37 (.mv (.t 0)), r 38 (.chk (.t 37)), r 39 (.fld (.t 38) 1), r 40 (.fld (.t 39) 0), r 41 (.ld (.t 40)), r 4 (.mv (.t 41))])
 .ret)
 .skip)))
 (.reg false [r 42 (.ib .add .i64 (.t 25) (.k (.v (.int .i64 1)))), r 25 (.mv (.t 42))])))))))
 (.seq (.reg false [r 4 (.mv (.k (.v (.int .i64 (-1)))))])
 .ret))))
theorem Zrx : compF Try.prog Try.f55 = some (Zol, [.t 4], 43) := by kernel_rfl
-- ros 55 [none, (some (.row 133 (.st [(.int .u64), .bool])))] TYS [none, (.row 133 (.st [(.int .u64), .bool]))]

def Zkf : IC := (.seq (.reg false [r 2 (.new 75 [(.v (.int .u64 0)), (.v (.int .i64 0)), (.v (.int .i64 0))]), r 3 (.mv (.k (.v (.bool false))))])
 (.seq (.reg false [r 7 (.mv (.t 0)), r 8 (.call 83 [(.t 7)]), r 6 (.mv (.t 8)), r 9 (.ext (.t 6) 0), r 10 (.ext (.t 6) 1), r 4 (.new 75 [(.v (.int .u64 0)), (.v (.int .i64 0)), (.v (.int .i64 0))]), r0 (.st (.t 4) (.t 9) 3), r 5 (.mv (.t 10))])
 (.seq (.seq (.reg false [r 11 (.mv (.t 5))])
 (.cond (.t 11)
 (.seq (.reg false [r 12 (.mv (.t 0)), r 13 (.mv (.t 0)), r 14 (.call 85 [(.t 13), (.k (.v (.int .i64 1)))]), r 15 (.chk (.t 12)), r 16 (.fld (.t 15) 2), r0 (.st (.t 16) (.t 14) 1)])
 (.reg false [r 17 (.mv (.t 0)), r 18 (.chk (.t 17)), r 19 (.fld (.t 18) 3), r 20 (.ld (.t 19)), r 21 (.ib .sub .i64 (.t 20) (.k (.v (.int .i64 1)))), r 22 (.chk (.t 17)), r 23 (.fld (.t 22) 3), r0 (.st (.t 23) (.t 21) 1)]))
 .skip))
 (.seq (.reg false [r 24 (.lda (.t 4) 3), r 25 (.mv (.t 5)), r0 (.st (.t 2) (.t 24) 3), r 3 (.mv (.t 25))])
 .ret))))
theorem Zyw : compF Try.prog Try.f56 = some (Zkf, [.c 2 3 true, .t 3], 26) := by kernel_rfl
-- ros 56 [none] TYS [none]

def Zkh : IC := (.seq (.reg false [r 2 (.box 100 3 (.t 0)), r 4 (.new 100 [(.v (.int .u64 0)), (.v (.int .u64 0)), (.v (.int .u64 0))]), r 5 (.mv (.k (.v (.bool false))))])
 (.seq (.seq (.reg false [r 6 (.mv (.t 1)), r 7 (.fld (.t 2) 2), r 8 (.ld (.t 7)), r 9 (.ib .gt .u64 (.t 6) (.t 8))])
 (.cond (.t 9)
 (.seq (.reg false [r 10 (.lda (.t 2) 3), r0 (.st (.t 4) (.t 10) 3), r 5 (.mv (.k (.v (.bool false))))])
 .ret)
 .skip))
 (.seq (.reg false [r 11 (.fld (.t 2) 2), r 12 (.ld (.t 11)), r 13 (.mv (.t 1)), r 14 (.ib .sub .u64 (.t 12) (.t 13)), r 15 (.fld (.t 2) 2), r0 (.st (.t 15) (.t 14) 1)])
 (.seq (.reg false [r 16 (.lda (.t 2) 3), r0 (.st (.t 4) (.t 16) 3), r 5 (.mv (.k (.v (.bool true))))])
 .ret))))
theorem Zvw : compF Try.prog Try.f57 = some (Zkh, [.c 4 3 true, .t 5], 17) := by kernel_rfl
-- ros 57 [none, none] TYS [(.st [(.int .u64), (.int .u64), (.int .u64)]), (.int .u64)]

def Zka : IC := (.seq (.reg false [r 1 (.box 67 6 (.t 0)), r 2 (.mv (.k (.v (.bool false))))])
 (.seq (.reg false [r 4 (.fld (.t 1) 1), r 5 (.ld (.t 4)), r 6 (.len false (.t 5)), r 3 (.mv (.t 6))])
 (.seq (.seq (.reg false [r 7 (.mv (.t 3)), r 8 (.ib .gt .i64 (.t 7) (.k (.v (.int .i64 8)))), r 9 (.mv (.t 8)), ⟨some 10, some (9, false), [], .fld (.t 1) 5⟩, ⟨some 11, some (9, false), [], .ld (.t 10)⟩, ⟨some 12, some (9, false), [], .len false (.t 11)⟩, ⟨some 13, some (9, false), [], .mv (.t 3)⟩, ⟨some 14, some (9, false), [], .ib .ne .i64 (.t 12) (.t 13)⟩, r 15 (.pick (.t 9) (.k (.v (.bool true))) (.t 14)), r 16 (.mv (.t 15)), ⟨some 17, some (16, false), [], .fld (.t 1) 2⟩, ⟨some 18, some (16, false), [], .fld (.t 17) 2⟩, ⟨some 19, some (16, false), [], .ld (.t 18)⟩, ⟨some 20, some (16, false), [], .len false (.t 19)⟩, ⟨some 21, some (16, false), [], .mv (.t 3)⟩, ⟨some 22, some (16, false), [], .ib .ne .i64 (.t 20) (.t 21)⟩, r 23 (.pick (.t 16) (.k (.v (.bool true))) (.t 22)), r 24 (.mv (.t 23)), ⟨some 25, some (24, false), [], .fld (.t 1) 2⟩, ⟨some 26, some (24, false), [], .fld (.t 25) 0⟩, ⟨some 27, some (24, false), [], .ld (.t 26)⟩, ⟨some 28, some (24, false), [], .ib .lt .i64 (.t 27) (.k (.v (.int .i64 0)))⟩, r 29 (.pick (.t 24) (.k (.v (.bool true))) (.t 28)), r 30 (.mv (.t 29)), ⟨some 31, some (30, false), [], .fld (.t 1) 2⟩, ⟨some 32, some (30, false), [], .fld (.t 31) 0⟩, ⟨some 33, some (30, false), [], .ld (.t 32)⟩, ⟨some 34, some (30, false), [], .mv (.t 3)⟩, ⟨some 35, some (30, false), [], .mx (.t 34) (.k (.v (.int .i64 1)))⟩, ⟨some 36, some (30, false), [], .ib .ge .i64 (.t 33) (.t 35)⟩, r 37 (.pick (.t 30) (.k (.v (.bool true))) (.t 36))])
 (.cond (.t 37)
 (.seq (.reg false [r 2 (.mv (.k (.v (.bool false))))])
 .ret)
 .skip))
 (.seq (.reg false [r 38 (.fld (.t 1) 5), r 39 (.ld (.t 38)), r 40 (.mkfn 87 [(.t 1)]), r 41 (.call 86 [(.t 39), (.t 40)]), r 42 (.bnot (.t 41)), r 2 (.mv (.t 42))])
 .ret))))
theorem Zv8 : compF Try.prog Try.f58 = some (Zka, [.t 2], 43) := by kernel_rfl
-- ros 58 [none] TYS [(.st [(.int .u64), (.ints 46 .u64), (.st [(.int .i64), .bool, (.ints 46 .u64)]), (.row 72 (.row 75 (.st [(.int .u64), (.int .i64), (.int .i64)])))])]

def Zm8 : IC := (.seq (.reg false [r 3 (.box 65 3 (.t 1)), r 4 (.mv (.k (.v (.bool false))))])
 (.seq (.seq (.reg true [r 5 (.mv (.t 0)), ⟨some 6, none, [0], .isn 0 false (.t 5)⟩, ⟨some 7, none, [1, 0], .mv (.t 6)⟩, ⟨some 8, some (7, false), [2, 1, 0], .fld (.t 3) 2⟩, ⟨some 9, some (7, false), [3, 2, 1, 0], .ld (.t 8)⟩, ⟨some 10, some (7, false), [4, 3, 2, 1, 0], .len false (.t 9)⟩, ⟨some 11, some (7, false), [2, 1, 0], .mv (.t 0)⟩, ⟨some 12, some (7, false), [6, 2, 1, 0], .chk (.t 11)⟩, ⟨some 13, some (7, false), [7, 6, 2, 1, 0], .fld (.t 12) 0⟩, ⟨some 14, some (7, false), [8, 7, 6, 2, 1, 0], .ld (.t 13)⟩, ⟨some 15, some (7, false), [9, 8, 7, 6, 2, 1, 0], .len false (.t 14)⟩, ⟨some 16, some (7, false), [5, 4, 3, 2, 1, 0, 10, 9, 8, 7, 6], .ib .ne .i64 (.t 10) (.t 15)⟩, ⟨some 17, none, [2, 1, 0, 11, 5, 4, 3, 10, 9, 8, 7, 6], .pick (.t 7) (.k (.v (.bool true))) (.t 16)⟩, ⟨some 18, none, [12, 2, 1, 0, 11, 5, 4, 3, 10, 9, 8, 7, 6], .mv (.t 17)⟩, ⟨some 19, some (18, false), [13, 12, 2, 1, 0, 11, 5, 4, 3, 10, 9, 8, 7, 6], .fld (.t 3) 0⟩, ⟨some 20, some (18, false), [14, 13, 12, 2, 1, 0, 11, 5, 4, 3, 10, 9, 8, 7, 6], .ld (.t 19)⟩, ⟨some 21, some (18, false), [15, 14, 13, 12, 2, 1, 0, 11, 5, 4, 3, 10, 9, 8, 7, 6], .ib .lt .i64 (.t 20) (.k (.v (.int .i64 0)))⟩, ⟨some 22, none, [13, 12, 2, 1, 0, 11, 5, 4, 3, 10, 9, 8, 7, 6, 16, 15, 14], .pick (.t 18) (.k (.v (.bool true))) (.t 21)⟩, ⟨some 23, none, [17, 13, 12, 2, 1, 0, 11, 5, 4, 3, 10, 9, 8, 7, 6, 16, 15, 14], .mv (.t 22)⟩, ⟨some 24, some (23, false), [18, 17, 13, 12, 2, 1, 0, 11, 5, 4, 3, 10, 9, 8, 7, 6, 16, 15, 14], .fld (.t 3) 0⟩, ⟨some 25, some (23, false), [19, 18, 17, 13, 12, 2, 1, 0, 11, 5, 4, 3, 10, 9, 8, 7, 6, 16, 15, 14], .ld (.t 24)⟩, ⟨some 26, some (23, false), [18, 17, 13, 12, 2, 1, 0, 11, 5, 4, 3, 10, 9, 8, 7, 6, 16, 15, 14], .fld (.t 3) 2⟩, ⟨some 27, some (23, false), [21, 18, 17, 13, 12, 2, 1, 0, 11, 5, 4, 3, 10, 9, 8, 7, 6, 16, 15, 14], .ld (.t 26)⟩, ⟨some 28, some (23, false), [22, 21, 18, 17, 13, 12, 2, 1, 0, 11, 5, 4, 3, 10, 9, 8, 7, 6, 16, 15, 14], .len false (.t 27)⟩, ⟨some 29, some (23, false), [23, 22, 21, 18, 17, 13, 12, 2, 1, 0, 11, 5, 4, 3, 10, 9, 8, 7, 6, 16, 15, 14], .mx (.t 28) (.k (.v (.int .i64 1)))⟩, ⟨some 30, some (23, false), [20, 19, 18, 17, 13, 12, 2, 1, 0, 11, 5, 4, 3, 10, 9, 8, 7, 6, 16, 15, 14, 24, 23, 22, 21], .ib .ge .i64 (.t 25) (.t 29)⟩, ⟨some 31, none, [18, 17, 13, 12, 2, 1, 0, 11, 5, 4, 3, 10, 9, 8, 7, 6, 16, 15, 14, 25, 20, 19, 24, 23, 22, 21], .pick (.t 23) (.k (.v (.bool true))) (.t 30)⟩])
 (.cond (.t 31)
 (.seq (.reg false [r 4 (.mv (.k (.v (.bool false))))])
 .ret)
 .skip))
 (.seq (.reg false [r 32 (.mv (.t 0)), r 33 (.lda (.t 3) 3), r 34 (.call 77 [(.t 33)]), r 35 (.chk (.t 32)), r 36 (.fld (.t 35) 1), r0 (.st (.t 36) (.t 34) 3)])
 (.seq (.reg false [r 4 (.mv (.k (.v (.bool true))))])
 .ret))))
theorem Zwc : compF Try.prog Try.f59 = some (Zm8, [.t 4], 37) := by kernel_rfl
-- ros 59 [none, none] TYS [none, (.st [(.int .i64), .bool, (.ints 46 .u64)])]

def Zpf : IC := (.seq (.reg false [r 4 (.new 100 [(.v (.int .u64 0)), (.v (.int .u64 0)), (.v (.int .u64 0))])])
 (.seq (.reg false [r 5 (.mv (.t 0)), r 6 (.mv (.t 1)), r 7 (.mv (.t 1)), r 8 (.build [(.v (.int .u64 0)), (.v (.int .u64 0)), (.v (.int .u64 0))] [(0, 1, (.t 5)), (1, 1, (.t 6)), (2, 1, (.t 7))]), r0 (.st (.t 4) (.t 8) 3)])
 .ret))
theorem Zpw : compF Try.prog Try.f60 = some (Zpf, [.c 4 3 true], 9) := by kernel_rfl
-- ros 60 [none, none] TYS [(.int .u64), (.int .u64)]

def Zi2 : IC := (.seq (.reg false [r 2 (.mv (.k (.v (.pointer none))))])
 (.seq (.reg false [r 3 (.mv (.t 0)), r 4 (.build [(.v (.int .i64 0)), .nsl, (.v (.int .i64 0)), (.v (.int .i64 0))] [(0, 1, (.t 3))]), r 5 (.box 144 4 (.t 4)), r 2 (.mv (.t 5))])
 .ret))
theorem Zqf : compF Try.prog Try.f61 = some (Zi2, [.t 2], 6) := by kernel_rfl
-- ros 61 [none] TYS [(.int .i64)]

def Zii : IC := (.seq (.reg false [r 2 (.mv (.k (.v (.pointer none))))])
 (.seq (.reg true [r 3 (.mv (.t 0)), ⟨some 4, none, [0], .call 89 [(.t 3)]⟩, r 5 (.mv (.t 0)), ⟨some 6, none, [2], .len false (.t 5)⟩, ⟨some 7, none, [3, 2], .mks (.ints 46 .u64) 8 (.t 6) (.t 6)⟩, ⟨some 8, none, [4, 3, 2], .build [(.v (.int .i64 0)), (.v (.bool false)), .nsl] [(2, 1, (.t 7))]⟩, ⟨some 9, none, [1, 0, 5, 4, 3, 2], .build [.nsl, (.v (.int .i64 0)), (.v (.bool false)), .nsl] [(0, 1, (.t 4)), (1, 3, (.t 8))]⟩, ⟨some 10, none, [6, 1, 0, 5, 4, 3, 2], .box 169 4 (.t 9)⟩, ⟨some 2, none, [7, 6, 1, 0, 5, 4, 3, 2], .mv (.t 10)⟩])
 .ret))
theorem Zsp : compF Try.prog Try.f62 = some (Zii, [.t 2], 11) := by kernel_rfl
-- ros 62 [(some (.ints 46 .u64))] TYS [(.ints 46 .u64)]

def Zmc : IC := (.seq (.reg false [r 4 (.mv (.k (.v (.bool false))))])
 (.seq (.seq (.reg false [r 6 (.mv (.t 0)), r 7 (.len false (.t 6)), r 8 (.mv (.t 1)), r 9 (.len false (.t 8)), r 10 (.ib .ne .i64 (.t 7) (.t 9))])
 (.cond (.t 10)
 (.seq (.reg false [r 4 (.mv (.k (.v (.bool false))))])
 .ret)
 .skip))
 (.seq (.seq (.reg false [r 11 (.mv (.t 0)), r 12 (.len false (.t 11)), r 13 (.mv (.k (.v (.int .i64 0))))])
 (.block 0
 (.loop
 (.seq (.reg false [r 14 (.ib .lt .i64 (.t 13) (.t 12))])
 (.seq (.cond (.t 14)
 .skip
 (.exit 0))
 (.seq (.block 1
 (.seq (.reg false [r 15 (.mv (.t 13)), r 5 (.mv (.t 15))])
 (.seq (.reg true [r 16 (.mv (.t 0)), r 17 (.mv (.t 5)), ⟨some 18, none, [0, 1], .idx (.t 16) (.t 17) 6⟩, ⟨some 19, none, [2, 0, 1], .lda (.t 18) 6⟩, r 20 (.mv (.t 1)), r 21 (.mv (.t 5)), ⟨some 22, none, [4, 5], .idx (.t 20) (.t 21) 6⟩, ⟨some 23, none, [6, 4, 5], .lda (.t 22) 6⟩, ⟨some 24, none, [3, 2, 0, 1, 7, 6, 4, 5], .steq [2, 0, 0, 0, 0, 1] true (.t 19) (.t 23)⟩])
 (.cond (.t 24)
 (.seq (.reg false [r 4 (.mv (.k (.v (.bool false))))])
 .ret)
 .skip))))
 (.reg false [r 25 (.ib .add .i64 (.t 13) (.k (.v (.int .i64 1)))), r 13 (.mv (.t 25))])))))))
 (.seq (.reg false [r 4 (.mv (.k (.v (.bool true))))])
 .ret))))
theorem Zy5 : compF Try.prog Try.f63 = some (Zmc, [.t 4], 26) := by kernel_rfl
-- ros 63 [(some (.row 83 (.st [.str, (.int .u64), (.int .u64), (.int .u64), (.int .i64), .bool]))), (some (.row 83 (.st [.str, (.int .u64), (.int .u64), (.int .u64), (.int .i64), .bool])))] TYS [(.row 83 (.st [.str, (.int .u64), (.int .u64), (.int .u64), (.int .i64), .bool])), (.row 83 (.st [.str, (.int .u64), (.int .u64), (.int .u64), (.int .i64), .bool]))]

def Zj8 : IC := (.seq (.reg false [r 4 (.mv (.k (.v (.bool false))))])
 (.seq (.seq (.reg false [r 6 (.mv (.t 0)), r 7 (.len false (.t 6)), r 8 (.mv (.t 1)), r 9 (.len false (.t 8)), r 10 (.ib .ne .i64 (.t 7) (.t 9))])
 (.cond (.t 10)
 (.seq (.reg false [r 4 (.mv (.k (.v (.bool false))))])
 .ret)
 .skip))
 (.seq (.seq (.reg false [r 11 (.mv (.t 0)), r 12 (.len false (.t 11)), r 13 (.mv (.k (.v (.int .i64 0))))])
 (.block 0
 (.loop
 (.seq (.reg false [r 14 (.ib .lt .i64 (.t 13) (.t 12))])
 (.seq (.cond (.t 14)
 .skip
 (.exit 0))
 (.seq (.block 1
 (.seq (.reg false [r 15 (.mv (.t 13)), r 5 (.mv (.t 15))])
 (.seq (.reg true [r 16 (.mv (.t 0)), r 17 (.mv (.t 5)), ⟨some 18, none, [0, 1], .idx (.t 16) (.t 17) 3⟩, ⟨some 19, none, [2, 0, 1], .lda (.t 18) 3⟩, r 20 (.mv (.t 1)), r 21 (.mv (.t 5)), ⟨some 22, none, [4, 5], .idx (.t 20) (.t 21) 3⟩, ⟨some 23, none, [6, 4, 5], .lda (.t 22) 3⟩, ⟨some 24, none, [3, 2, 0, 1, 7, 6, 4, 5], .steq [0, 0, 0] true (.t 19) (.t 23)⟩])
 (.cond (.t 24)
 (.seq (.reg false [r 4 (.mv (.k (.v (.bool false))))])
 .ret)
 .skip))))
 (.reg false [r 25 (.ib .add .i64 (.t 13) (.k (.v (.int .i64 1)))), r 13 (.mv (.t 25))])))))))
 (.seq (.reg false [r 4 (.mv (.k (.v (.bool true))))])
 .ret))))
theorem Zre : compF Try.prog Try.f64 = some (Zj8, [.t 4], 26) := by kernel_rfl
-- ros 64 [(some (.row 96 (.st [(.int .i64), (.int .i64), (.int .i64)]))), (some (.row 96 (.st [(.int .i64), (.int .i64), (.int .i64)])))] TYS [(.row 96 (.st [(.int .i64), (.int .i64), (.int .i64)])), (.row 96 (.st [(.int .i64), (.int .i64), (.int .i64)]))]

def Zhq : IC := (.seq (.reg false [r 4 (.mv (.k .nsl))])
 (.seq (.reg false [r 5 (.mv (.k .nsl))])
 (.seq (.block 0
 (.loop
 (.seq (.seq (.reg false [r 6 (.mv (.t 0)), r 7 (.len false (.t 6)), r 8 (.ib .gt .i64 (.t 7) (.k (.v (.int .i64 0)))), r 9 (.mv (.t 8)), ⟨some 10, some (9, true), [], .mv (.t 1)⟩, ⟨some 11, some (9, true), [], .len false (.t 10)⟩, ⟨some 12, some (9, true), [], .ib .gt .i64 (.t 11) (.k (.v (.int .i64 0)))⟩, r 13 (.pick (.t 9) (.t 12) (.k (.v (.bool false))))])
 (.cond (.t 13)
 .skip
 (.exit 0)))
 (.block 1
 (.seq (.reg true [r 14 (.mv (.t 1)), ⟨some 15, none, [0], .idx (.t 14) (.k (.v (.int .i64 0))) 3⟩, ⟨some 16, none, [1, 0], .fld (.t 15) 0⟩, ⟨some 17, none, [2, 1, 0], .ld (.t 16)⟩, r 18 (.mv (.t 0)), ⟨some 19, none, [4], .idx (.t 18) (.k (.v (.int .i64 0))) 3⟩, ⟨some 20, none, [5, 4], .fld (.t 19) 0⟩, ⟨some 21, none, [6, 5, 4], .ld (.t 20)⟩, ⟨some 22, none, [3, 2, 1, 0, 7, 6, 5, 4], .ib .lt .u64 (.t 17) (.t 21)⟩])
 (.cond (.t 22)
 (.reg true [r 23 (.mv (.t 5)), r 24 (.mv (.t 1)), ⟨some 25, none, [1], .idx (.t 24) (.k (.v (.int .i64 0))) 3⟩, ⟨some 26, none, [2, 1], .lda (.t 25) 3⟩, ⟨some 27, none, [3, 2, 1], .bsl (.row 75 (.st [(.int .u64), (.int .i64), (.int .i64)])) 1 [(.v (.int .u64 0)), (.v (.int .i64 0)), (.v (.int .i64 0))] [(0, 3, (.t 26))]⟩, ⟨some 28, none, [0, 4, 3, 2, 1], .app (.row 75 (.st [(.int .u64), (.int .i64), (.int .i64)])) 24 (.t 23) (.t 27)⟩, r 29 (.mv (.t 1)), ⟨some 30, none, [6], .sls (.t 29) (some (.k (.v (.int .i64 1)))) none 3⟩, ⟨some 5, none, [5, 0, 4, 3, 2, 1], .mv (.t 28)⟩, ⟨some 1, none, [7, 6, 8, 5, 0, 4, 3, 2, 1], .mv (.t 30)⟩])
 (.reg true [r 31 (.mv (.t 5)), r 32 (.mv (.t 0)), ⟨some 33, none, [1], .idx (.t 32) (.k (.v (.int .i64 0))) 3⟩, ⟨some 34, none, [2, 1], .lda (.t 33) 3⟩, ⟨some 35, none, [3, 2, 1], .bsl (.row 75 (.st [(.int .u64), (.int .i64), (.int .i64)])) 1 [(.v (.int .u64 0)), (.v (.int .i64 0)), (.v (.int .i64 0))] [(0, 3, (.t 34))]⟩, ⟨some 36, none, [0, 4, 3, 2, 1], .app (.row 75 (.st [(.int .u64), (.int .i64), (.int .i64)])) 24 (.t 31) (.t 35)⟩, r 37 (.mv (.t 0)), ⟨some 38, none, [6], .sls (.t 37) (some (.k (.v (.int .i64 1)))) none 3⟩, ⟨some 5, none, [5, 0, 4, 3, 2, 1], .mv (.t 36)⟩, ⟨some 0, none, [7, 6, 8, 5, 0, 4, 3, 2, 1], .mv (.t 38)⟩])))))))
 (.seq (.reg false [r 39 (.mv (.t 5)), r 40 (.mv (.t 0)), r 41 (.mv (.t 1)), r 42 (.bsl (.row 72 (.row 75 (.st [(.int .u64), (.int .i64), (.int .i64)]))) 3 [.nsl, .nsl, .nsl] [(0, 1, (.t 39)), (1, 1, (.t 40)), (2, 1, (.t 41))]), r 43 (.call 90 [(.t 42)]), r 4 (.mv (.t 43))])
 .ret))))
theorem Zsu : compF Try.prog Try.f65 = some (Zhq, [.t 4], 44) := by kernel_rfl
-- ros 65 [(some (.row 75 (.st [(.int .u64), (.int .i64), (.int .i64)]))), (some (.row 75 (.st [(.int .u64), (.int .i64), (.int .i64)])))] TYS [(.row 75 (.st [(.int .u64), (.int .i64), (.int .i64)])), (.row 75 (.st [(.int .u64), (.int .i64), (.int .i64)]))]

def Zle : IC := (.seq (.reg false [r 2 (.mv (.k .nsl))])
 (.seq (.reg false [r 3 (.mv (.k .nsl))])
 (.seq (.seq (.reg false [r 5 (.mv (.t 0)), r 6 (.call 33 [(.t 5)]), r 7 (.mv (.k (.v (.int .i64 0))))])
 (.block 0
 (.loop
 (.seq (.reg false [r 8 (.ib .lt .i64 (.t 7) (.t 6))])
 (.seq (.cond (.t 8)
 .skip
 (.exit 0))
 (.seq (.block 1
 (.seq (.reg false [r 9 (.mv (.t 7)), r 4 (.mv (.t 9))])
 (.reg true [r 10 (.mv (.t 3)), r 11 (.mv (.t 0)), ⟨some 12, none, [1], .chk (.t 11)⟩, ⟨some 13, none, [2, 1], .fld (.t 12) 1⟩, ⟨some 14, none, [3, 2, 1], .ld (.t 13)⟩, r 15 (.mv (.t 0)), r 16 (.mv (.t 4)), ⟨some 17, none, [5, 6], .call 85 [(.t 15), (.t 16)]⟩, ⟨some 18, none, [4, 3, 2, 1, 7, 5, 6], .idx (.t 14) (.t 17) 3⟩, ⟨some 19, none, [8, 4, 3, 2, 1, 7, 5, 6], .lda (.t 18) 3⟩, ⟨some 20, none, [9, 8, 4, 3, 2, 1, 7, 5, 6], .bsl (.row 75 (.st [(.int .u64), (.int .i64), (.int .i64)])) 1 [(.v (.int .u64 0)), (.v (.int .i64 0)), (.v (.int .i64 0))] [(0, 3, (.t 19))]⟩, ⟨some 21, none, [0, 10, 9, 8, 4, 3, 2, 1, 7, 5, 6], .app (.row 75 (.st [(.int .u64), (.int .i64), (.int .i64)])) 24 (.t 10) (.t 20)⟩, ⟨some 3, none, [11, 0, 10, 9, 8, 4, 3, 2, 1, 7, 5, 6], .mv (.t 21)⟩])))
 (.reg false [r 22 (.ib .add .i64 (.t 7) (.k (.v (.int .i64 1)))), r 7 (.mv (.t 22))])))))))
 (.seq (.reg false [r 23 (.mv (.t 3)), r 2 (.mv (.t 23))])
 .ret))))
theorem Zw9 : compF Try.prog Try.f66 = some (Zle, [.t 2], 24) := by kernel_rfl
-- ros 66 [none] TYS [none]

def Zj6 : IC := (.seq (.reg false [r 3 (.box 75 3 (.t 1))])
 (.seq (.seq (.reg true [r 4 (.mv (.t 0)), ⟨some 5, none, [0], .chk (.t 4)⟩, ⟨some 6, none, [1, 0], .fld (.t 5) 3⟩, ⟨some 7, none, [2, 1, 0], .ld (.t 6)⟩, r 8 (.mv (.t 0)), ⟨some 9, none, [4], .chk (.t 8)⟩, ⟨some 10, none, [5, 4], .fld (.t 9) 1⟩, ⟨some 11, none, [6, 5, 4], .ld (.t 10)⟩, ⟨some 12, none, [7, 6, 5, 4], .len false (.t 11)⟩, ⟨some 13, none, [3, 2, 1, 0, 8, 7, 6, 5, 4], .ib .eq .i64 (.t 7) (.t 12)⟩])
 (.cond (.t 13)
 (.reg false [r 14 (.mv (.t 0)), r 15 (.call 91 [(.t 14)])])
 .skip))
 (.seq (.reg true [r 16 (.mv (.t 0)), ⟨some 17, none, [0], .chk (.t 16)⟩, ⟨some 18, none, [1, 0], .fld (.t 17) 1⟩, ⟨some 19, none, [2, 1, 0], .ld (.t 18)⟩, r 20 (.mv (.t 0)), r 21 (.mv (.t 0)), ⟨some 22, none, [5], .chk (.t 21)⟩, ⟨some 23, none, [6, 5], .fld (.t 22) 3⟩, ⟨some 24, none, [7, 6, 5], .ld (.t 23)⟩, ⟨some 25, none, [4, 8, 7, 6, 5], .call 85 [(.t 20), (.t 24)]⟩, r 26 (.lda (.t 3) 3), ⟨some 27, none, [3, 2, 1, 0, 9, 4, 8, 7, 6, 5, 10], .idx (.t 19) (.t 25) 3⟩, ⟨none, none, [11, 3, 2, 1, 0, 9, 4, 8, 7, 6, 5, 10], .st (.t 27) (.t 26) 3⟩])
 (.reg false [r 28 (.mv (.t 0)), r 29 (.chk (.t 28)), r 30 (.fld (.t 29) 3), r 31 (.ld (.t 30)), r 32 (.ib .add .i64 (.t 31) (.k (.v (.int .i64 1)))), r 33 (.chk (.t 28)), r 34 (.fld (.t 33) 3), r0 (.st (.t 34) (.t 32) 1)]))))
theorem Z109 : compF Try.prog Try.f67 = some (Zj6, [], 35) := by kernel_rfl
-- ros 67 [none, none] TYS [none, (.st [(.int .u64), (.int .i64), (.int .i64)])]

def Zo5 : IC := (.seq (.reg false [r 1 (.box 65 3 (.t 0)), r 2 (.new 65 [(.v (.int .i64 0)), (.v (.bool false)), .nsl])])
 (.seq (.reg false [r 4 (.fld (.t 1) 2), r 5 (.ld (.t 4)), r 6 (.len false (.t 5)), r 7 (.mks (.ints 46 .u64) 8 (.t 6) (.t 6)), r 3 (.mv (.t 7))])
 (.seq (.reg false [r 8 (.mv (.t 3)), r 9 (.fld (.t 1) 2), r 10 (.ld (.t 9)), r 11 (.copy (.t 8) (.t 10) 1)])
 (.seq (.reg false [r 12 (.fld (.t 1) 0), r 13 (.ld (.t 12)), r 14 (.fld (.t 1) 1), r 15 (.ld (.t 14)), r 16 (.mv (.t 3)), r 17 (.build [(.v (.int .i64 0)), (.v (.bool false)), .nsl] [(0, 1, (.t 13)), (1, 1, (.t 15)), (2, 1, (.t 16))]), r0 (.st (.t 2) (.t 17) 3)])
 .ret))))
theorem Zzv : compF Try.prog Try.f77 = some (Zo5, [.c 2 3 true], 18) := by kernel_rfl
-- ros 77 [none] TYS [(.st [(.int .i64), .bool, (.ints 46 .u64)])]

def Zho : IC := (.seq (.reg false [r 2 (.mv (.k .nsl))])
 (.seq (.seq (.reg false [r 3 (.mv (.t 0)), r 4 (.isn 1 false (.t 3))])
 (.cond (.t 4)
 (.seq (.reg false [r 2 (.mv (.k .nsl))])
 .ret)
 .skip))
 (.seq (.reg false [r 5 (.bsl (.row 83 (.st [.str, (.int .u64), (.int .u64), (.int .u64), (.int .i64), .bool])) 0 [] []), r 6 (.mv (.t 0)), r 7 (.app (.row 83 (.st [.str, (.int .u64), (.int .u64), (.int .u64), (.int .i64), .bool])) 56 (.t 5) (.t 6)), r 2 (.mv (.t 7))])
 .ret)))
theorem Zqx : compF Try.prog Try.f78 = some (Zho, [.t 2], 8) := by kernel_rfl
-- ros 78 [(some (.row 83 (.st [.str, (.int .u64), (.int .u64), (.int .u64), (.int .i64), .bool])))] TYS [(.row 83 (.st [.str, (.int .u64), (.int .u64), (.int .u64), (.int .i64), .bool]))]

def Zi6 : IC := (.seq (.reg false [r 2 (.mv (.k .nsl))])
 (.seq (.seq (.reg false [r 3 (.mv (.t 0)), r 4 (.isn 1 false (.t 3))])
 (.cond (.t 4)
 (.seq (.reg false [r 2 (.mv (.k .nsl))])
 .ret)
 .skip))
 (.seq (.reg false [r 5 (.bsl (.row 96 (.st [(.int .i64), (.int .i64), (.int .i64)])) 0 [] []), r 6 (.mv (.t 0)), r 7 (.app (.row 96 (.st [(.int .i64), (.int .i64), (.int .i64)])) 24 (.t 5) (.t 6)), r 2 (.mv (.t 7))])
 .ret)))
theorem Zyg : compF Try.prog Try.f79 = some (Zi6, [.t 2], 8) := by kernel_rfl
-- ros 79 [(some (.row 96 (.st [(.int .i64), (.int .i64), (.int .i64)])))] TYS [(.row 96 (.st [(.int .i64), (.int .i64), (.int .i64)]))]

def Zhx : IC := (.seq (.reg false [r 4 (.mv (.k (.v (.int .i64 0))))])
 (.seq (.seq (.reg false [r 6 (.mv (.t 0)), r 7 (.len false (.t 6)), r 8 (.mv (.k (.v (.int .i64 0))))])
 (.block 0
 (.loop
 (.seq (.reg false [r 9 (.ib .lt .i64 (.t 8) (.t 7))])
 (.seq (.cond (.t 9)
 .skip
 (.exit 0))
 (.seq (.block 1
 (.seq (.reg false [r 10 (.mv (.t 8)), r 5 (.mv (.t 10))])
 (.seq (.reg false [r 11 (.mv (.t 1)), r 12 (.mv (.t 0)), r 13 (.mv (.t 5)), r 14 (.idx (.t 12) (.t 13) 3), r 15 (.lda (.t 14) 3), r 16 (.callv (.t 11) [(.t 15)])])
 (.cond (.t 16)
 (.seq (.reg false [r 17 (.mv (.t 5)), r 4 (.mv (.t 17))])
 .ret)
 .skip))))
 (.reg false [r 18 (.ib .add .i64 (.t 8) (.k (.v (.int .i64 1)))), r 8 (.mv (.t 18))])))))))
 (.seq (.reg false [r 4 (.mv (.k (.v (.int .i64 (-1)))))])
 .ret)))
theorem Z10n : compF Try.prog Try.f80 = some (Zhx, [.t 4], 19) := by kernel_rfl
-- ros 80 [(some (.row 96 (.st [(.int .i64), (.int .i64), (.int .i64)]))), none] TYS [(.row 96 (.st [(.int .i64), (.int .i64), (.int .i64)])), none]

def Zp9 : IC := (.seq (.reg false [r 2 (.box 96 3 (.t 0)), r 3 (.mv (.k (.v (.bool false))))])
 (.seq (.reg false [r 4 (.fld (.t 2) 0), r 5 (.ld (.t 4)), r 6 (.ld (.t 1)), r 7 (.ib .le .i64 (.t 5) (.t 6)), r 8 (.mv (.t 7)), ⟨some 9, some (8, true), [], .ld (.t 1)⟩, ⟨some 10, some (8, true), [], .fld (.t 2) 1⟩, ⟨some 11, some (8, true), [], .ld (.t 10)⟩, ⟨some 12, some (8, true), [], .ib .le .i64 (.t 9) (.t 11)⟩, r 13 (.pick (.t 8) (.t 12) (.k (.v (.bool false)))), r 3 (.mv (.t 13))])
 .ret))
theorem Zrc : compF Try.prog Try.f81 = some (Zp9, [.t 3], 14) := by kernel_rfl
-- ros 81 [none] TYS [(.st [(.int .i64), (.int .i64), (.int .i64)])]

def Zhn : IC := (.seq (.reg false [r 8 (.mv (.k (.v (.int .u64 0))))])
 (.seq (.reg false [r 9 (.mv (.t 0)), r 10 (.mv (.t 3)), r 11 (.mv (.t 0)), r 12 (.mv (.t 1)), r 13 (.mv (.t 2)), r 14 (.call 98 [(.t 12), (.t 13)]), r 15 (.call 97 [(.t 11), (.t 14)]), r 16 (.mn (.t 10) (.t 15)), r 17 (.mx (.t 9) (.t 16)), r 8 (.mv (.t 17))])
 .ret))
theorem Zx5 : compF Try.prog Try.f82 = some (Zhn, [.t 8], 18) := by kernel_rfl
-- ros 82 [none, none, none, none] TYS [(.int .u64), (.int .u64), (.int .u64), (.int .u64)]

def Zlc : IC := (.seq (.reg false [r 2 (.new 75 [(.v (.int .u64 0)), (.v (.int .i64 0)), (.v (.int .i64 0))]), r 3 (.mv (.k (.v (.bool false))))])
 (.seq (.seq (.reg false [r 4 (.mv (.t 0)), r 5 (.call 33 [(.t 4)]), r 6 (.ib .eq .i64 (.t 5) (.k (.v (.int .i64 0))))])
 (.cond (.t 6)
 (.seq (.reg false [r 7 (.build [(.v (.int .u64 0)), (.v (.int .i64 0)), (.v (.int .i64 0))] []), r0 (.st (.t 2) (.t 7) 3), r 3 (.mv (.k (.v (.bool false))))])
 .ret)
 .skip))
 (.seq (.reg true [r 8 (.mv (.t 0)), ⟨some 9, none, [0], .chk (.t 8)⟩, ⟨some 10, none, [1, 0], .fld (.t 9) 1⟩, ⟨some 11, none, [2, 1, 0], .ld (.t 10)⟩, r 12 (.mv (.t 0)), ⟨some 13, none, [4], .chk (.t 12)⟩, ⟨some 14, none, [5, 4], .fld (.t 13) 2⟩, ⟨some 15, none, [6, 5, 4], .ld (.t 14)⟩, ⟨some 16, none, [3, 2, 1, 0, 7, 6, 5, 4], .idx (.t 11) (.t 15) 3⟩, ⟨some 17, none, [8, 3, 2, 1, 0, 7, 6, 5, 4], .lda (.t 16) 3⟩, ⟨none, none, [9, 8, 3, 2, 1, 0, 7, 6, 5, 4], .st (.t 2) (.t 17) 3⟩, ⟨some 3, none, [10, 9, 8, 3, 2, 1, 0, 7, 6, 5, 4], .mv (.k (.v (.bool true)))⟩])
 .ret)))
theorem Zux : compF Try.prog Try.f83 = some (Zlc, [.c 2 3 true, .t 3], 18) := by kernel_rfl
-- ros 83 [none] TYS [none]

def Zmb : IC := (.seq (.reg false [r 3 (.box 133 2 (.t 1)), r 4 (.mv (.k (.v (.bool false))))])
 (.seq (.reg true [r 6 (.mv (.t 0)), ⟨some 7, none, [0], .chk (.t 6)⟩, ⟨some 8, none, [1, 0], .fld (.t 7) 1⟩, ⟨some 9, none, [2, 1, 0], .fld (.t 8) 2⟩, ⟨some 10, none, [3, 2, 1, 0], .ld (.t 9)⟩, r 11 (.mv (.t 0)), ⟨some 12, none, [5], .chk (.t 11)⟩, ⟨some 13, none, [6, 5], .fld (.t 12) 1⟩, ⟨some 14, none, [7, 6, 5], .fld (.t 13) 0⟩, ⟨some 15, none, [8, 7, 6, 5], .ld (.t 14)⟩, ⟨some 16, none, [4, 3, 2, 1, 0, 9, 8, 7, 6, 5], .idx (.t 10) (.t 15) 1⟩, ⟨some 5, none, [10, 4, 3, 2, 1, 0, 9, 8, 7, 6, 5], .mv (.t 16)⟩])
 (.seq (.seq (.reg false [r 17 (.fld (.t 3) 0), r 18 (.ld (.t 17)), r 19 (.ib .eq .u64 (.t 18) (.k (.v (.int .u64 0)))), r 20 (.mv (.t 19)), ⟨some 21, some (20, false), [], .fld (.t 3) 1⟩, ⟨some 22, some (20, false), [], .ld (.t 21)⟩, ⟨some 23, some (20, false), [], .bnot (.t 22)⟩, r 24 (.pick (.t 20) (.k (.v (.bool true))) (.t 23))])
 (.cond (.t 24)
 (.seq (.reg false [r 25 (.mv (.t 5)), r 26 (.chk (.t 25)), r0 (.st (.t 26) (.k (.v (.int .u64 0))) 1)])
 (.seq (.reg false [r 27 (.mv (.t 0)), r 28 (.call 99 [(.t 27)])])
 (.seq (.reg false [r 4 (.mv (.k (.v (.bool false))))])
 .ret)))
 .skip))
 (.seq (.seq (.reg false [r 29 (.mv (.t 0)), r 30 (.chk (.t 29)), r 31 (.fld (.t 30) 1), r 32 (.fld (.t 31) 1), r 33 (.ld (.t 32)), r 34 (.bnot (.t 33))])
 (.cond (.t 34)
 (.reg true [r 35 (.mv (.t 5)), r 36 (.mv (.t 0)), r 37 (.mv (.t 5)), ⟨some 38, none, [2], .chk (.t 37)⟩, ⟨some 39, none, [3, 2], .ld (.t 38)⟩, r 40 (.mv (.t 0)), ⟨some 41, none, [5], .chk (.t 40)⟩, ⟨some 42, none, [6, 5], .fld (.t 41) 0⟩, ⟨some 43, none, [7, 6, 5], .ld (.t 42)⟩, r 44 (.mv (.t 0)), ⟨some 45, none, [9], .chk (.t 44)⟩, ⟨some 46, none, [10, 9], .fld (.t 45) 1⟩, ⟨some 47, none, [11, 10, 9], .fld (.t 46) 0⟩, ⟨some 48, none, [12, 11, 10, 9], .ld (.t 47)⟩, ⟨some 49, none, [8, 7, 6, 5, 13, 12, 11, 10, 9], .idx (.t 43) (.t 48) 1⟩, ⟨some 50, none, [14, 8, 7, 6, 5, 13, 12, 11, 10, 9], .ld (.t 49)⟩, ⟨some 51, none, [4, 3, 2, 15, 14, 8, 7, 6, 5, 13, 12, 11, 10, 9], .call 97 [(.t 39), (.t 50)]⟩, ⟨some 52, none, [0, 2, 3, 4, 5, 6, 7, 8, 9, 10, 11, 12, 13, 14, 15, 16], .chk (.t 35)⟩, ⟨none, none, [17, 0, 2, 3, 4, 5, 6, 7, 8, 9, 10, 11, 12, 13, 14, 15, 16], .st (.t 52) (.t 51) 1⟩, ⟨some 53, none, [1, 0, 2, 3, 4, 5, 6, 7, 8, 9, 10, 11, 12, 13, 14, 15, 16, 17, 18], .chk (.t 36)⟩, ⟨some 54, none, [19, 1, 0, 2, 3, 4, 5, 6, 7, 8, 9, 10, 11, 12, 13, 14, 15, 16, 17, 18], .fld (.t 53) 1⟩, ⟨some 55, none, [20, 19, 1, 0, 2, 3, 4, 5, 6, 7, 8, 9, 10, 11, 12, 13, 14, 15, 16, 17, 18], .fld (.t 54) 1⟩, ⟨none, none, [21, 20, 19, 1, 0, 2, 3, 4, 5, 6, 7, 8, 9, 10, 11, 12, 13, 14, 15, 16, 17, 18], .st (.t 55) (.k (.v (.bool true))) 1⟩])
 .skip))
 (.seq (.seq (.reg true [r 56 (.mv (.t 5)), ⟨some 57, none, [0], .chk (.t 56)⟩, ⟨some 58, none, [1, 0], .ld (.t 57)⟩, r 59 (.fld (.t 3) 0), ⟨some 60, none, [3], .ld (.t 59)⟩, ⟨some 61, none, [2, 1, 0, 4, 3], .ib .lt .u64 (.t 58) (.t 60)⟩])
 (.cond (.t 61)
 (.seq (.reg false [r 62 (.mv (.t 0)), r 63 (.call 99 [(.t 62)])])
 (.seq (.reg false [r 4 (.mv (.k (.v (.bool false))))])
 .ret))
 .skip))
 (.seq (.reg true [r 64 (.mv (.t 5)), ⟨some 65, none, [0], .chk (.t 64)⟩, ⟨some 66, none, [1, 0], .ld (.t 65)⟩, r 67 (.fld (.t 3) 0), ⟨some 68, none, [3], .ld (.t 67)⟩, ⟨some 69, none, [2, 1, 0, 4, 3], .ib .sub .u64 (.t 66) (.t 68)⟩, ⟨some 70, none, [0, 1, 2, 3, 4, 5], .chk (.t 64)⟩, ⟨none, none, [6, 0, 1, 2, 3, 4, 5], .st (.t 70) (.t 69) 1⟩])
 (.seq (.reg false [r 4 (.mv (.k (.v (.bool true))))])
 .ret)))))))
theorem Zsn : compF Try.prog Try.f84 = some (Zmb, [.t 4], 71) := by kernel_rfl
-- ros 84 [none, none] TYS [none, (.st [(.int .u64), .bool])]

def Zm9 : IC := (.seq (.reg false [r 4 (.mv (.k (.v (.int .i64 0))))])
 (.seq (.reg true [r 5 (.mv (.t 0)), ⟨some 6, none, [0], .chk (.t 5)⟩, ⟨some 7, none, [1, 0], .fld (.t 6) 2⟩, ⟨some 8, none, [2, 1, 0], .ld (.t 7)⟩, r 9 (.mv (.t 1)), ⟨some 10, none, [3, 2, 1, 0, 4], .ib .add .i64 (.t 8) (.t 9)⟩, r 11 (.mv (.t 0)), ⟨some 12, none, [6], .chk (.t 11)⟩, ⟨some 13, none, [7, 6], .fld (.t 12) 1⟩, ⟨some 14, none, [8, 7, 6], .ld (.t 13)⟩, ⟨some 15, none, [9, 8, 7, 6], .len false (.t 14)⟩, ⟨some 16, none, [5, 3, 2, 1, 0, 4, 10, 9, 8, 7, 6], .ib .rem .i64 (.t 10) (.t 15)⟩, ⟨some 4, none, [11, 5, 3, 2, 1, 0, 4, 10, 9, 8, 7, 6], .mv (.t 16)⟩])
 .ret))
theorem Zyn : compF Try.prog Try.f85 = some (Zm9, [.t 4], 17) := by kernel_rfl
-- ros 85 [none, none] TYS [none, (.int .i64)]

def Zm6 : IC := (.seq (.reg false [r 4 (.mv (.k (.v (.bool false))))])
 (.seq (.reg false [r 5 (.mv (.t 0)), r 6 (.mv (.t 1)), r 7 (.call 100 [(.t 5), (.t 6)]), r 8 (.ib .ge .i64 (.t 7) (.k (.v (.int .i64 0)))), r 4 (.mv (.t 8))])
 .ret))
theorem Zus : compF Try.prog Try.f86 = some (Zm6, [.t 4], 9) := by kernel_rfl
-- ros 86 [(some (.row 72 (.row 75 (.st [(.int .u64), (.int .i64), (.int .i64)])))), none] TYS [(.row 72 (.row 75 (.st [(.int .u64), (.int .i64), (.int .i64)]))), none]

def Zlg : IC := (.seq (.reg false [r 3 (.mv (.k (.v (.bool false))))])
 (.seq (.reg false [r 4 (.lda (.t 1) 6), r 5 (.mv (.t 0)), r 6 (.call 88 [(.t 4), (.t 5)]), r 7 (.bnot (.t 6)), r 3 (.mv (.t 7))])
 .ret))
theorem Zwk : compF Try.prog Try.f87 = some (Zlg, [.t 3], 8) := by kernel_rfl
-- ros 87 [(some (.row 75 (.st [(.int .u64), (.int .i64), (.int .i64)])))] TYS [(.row 75 (.st [(.int .u64), (.int .i64), (.int .i64)]))]

def Zjz : IC := (.seq (.reg false [r 2 (.box 67 6 (.t 0)), r 4 (.mv (.k (.v (.bool false))))])
 (.seq (.reg false [r 5 (.mv (.k (.v (.int .u64 0))))])
 (.seq (.seq (.reg false [r 8 (.mv (.t 1)), r 9 (.len false (.t 8)), r 10 (.mv (.k (.v (.int .i64 0))))])
 (.block 0
 (.loop
 (.seq (.reg false [r 11 (.ib .lt .i64 (.t 10) (.t 9))])
 (.seq (.cond (.t 11)
 .skip
 (.exit 0))
 (.seq (.block 1
 (.seq (.reg false [r 12 (.idx (.t 8) (.t 10) 3), r 13 (.lda (.t 12) 3), r 7 (.new 75 [(.v (.int .u64 0)), (.v (.int .i64 0)), (.v (.int .i64 0))]), r0 (.st (.t 7) (.t 13) 3)])
 (.seq (.seq (.reg false [r 14 (.fld (.t 7) 1), r 15 (.ld (.t 14)), r 16 (.ib .lt .i64 (.t 15) (.k (.v (.int .i64 0)))), r 17 (.mv (.t 16)), ⟨some 18, some (17, false), [], .fld (.t 7) 1⟩, ⟨some 19, some (17, false), [], .ld (.t 18)⟩, ⟨some 20, some (17, false), [], .ib .gt .i64 (.t 19) (.k (.v (.int .i64 65535)))⟩, r 21 (.pick (.t 17) (.k (.v (.bool true))) (.t 20)), r 22 (.mv (.t 21)), ⟨some 23, some (22, false), [], .fld (.t 7) 2⟩, ⟨some 24, some (22, false), [], .ld (.t 23)⟩, ⟨some 25, some (22, false), [], .ib .lt .i64 (.t 24) (.k (.v (.int .i64 1)))⟩, r 26 (.pick (.t 22) (.k (.v (.bool true))) (.t 25)), r 27 (.mv (.t 26)), ⟨some 28, some (27, false), [], .fld (.t 7) 2⟩, ⟨some 29, some (27, false), [], .ld (.t 28)⟩, ⟨some 30, some (27, false), [], .ib .gt .i64 (.t 29) (.k (.v (.int .i64 1500)))⟩, r 31 (.pick (.t 27) (.k (.v (.bool true))) (.t 30)), r 32 (.mv (.t 31)), ⟨some 33, some (32, false), [], .fld (.t 7) 0⟩, ⟨some 34, some (32, false), [], .ld (.t 33)⟩, ⟨some 35, some (32, false), [], .mv (.t 5)⟩, ⟨some 36, some (32, false), [], .ib .le .u64 (.t 34) (.t 35)⟩, r 37 (.pick (.t 32) (.k (.v (.bool true))) (.t 36)), r 38 (.mv (.t 37)), ⟨some 39, some (38, false), [], .fld (.t 7) 0⟩, ⟨some 40, some (38, false), [], .ld (.t 39)⟩, ⟨some 41, some (38, false), [], .fld (.t 2) 0⟩, ⟨some 42, some (38, false), [], .ld (.t 41)⟩, ⟨some 43, some (38, false), [], .ib .gt .u64 (.t 40) (.t 42)⟩, r 44 (.pick (.t 38) (.k (.v (.bool true))) (.t 43))])
 (.cond (.t 44)
 (.seq (.reg false [r 4 (.mv (.k (.v (.bool false))))])
 .ret)
 .skip))
 (.reg false [r 45 (.fld (.t 7) 0), r 46 (.ld (.t 45)), r 5 (.mv (.t 46))]))))
 (.reg false [r 47 (.ib .add .i64 (.t 10) (.k (.v (.int .i64 1)))), r 10 (.mv (.t 47))])))))))
 (.seq (.reg false [r 4 (.mv (.k (.v (.bool true))))])
 .ret))))
theorem Zyz : compF Try.prog Try.f88 = some (Zjz, [.t 4], 48) := by kernel_rfl
-- ros 88 [none, (some (.row 75 (.st [(.int .u64), (.int .i64), (.int .i64)])))] TYS [(.st [(.int .u64), (.ints 46 .u64), (.st [(.int .i64), .bool, (.ints 46 .u64)]), (.row 72 (.row 75 (.st [(.int .u64), (.int .i64), (.int .i64)])))]), (.row 75 (.st [(.int .u64), (.int .i64), (.int .i64)]))]

def Znr : IC := (.seq (.reg false [r 2 (.mv (.k .nsl))])
 (.seq (.seq (.reg false [r 3 (.mv (.t 0)), r 4 (.isn 1 false (.t 3))])
 (.cond (.t 4)
 (.seq (.reg false [r 2 (.mv (.k .nsl))])
 .ret)
 .skip))
 (.seq (.reg false [r 5 (.bsl (.ints 46 .u64) 0 [] []), r 6 (.mv (.t 0)), r 7 (.app (.ints 46 .u64) 8 (.t 5) (.t 6)), r 2 (.mv (.t 7))])
 .ret)))
theorem Zzy : compF Try.prog Try.f89 = some (Znr, [.t 2], 8) := by kernel_rfl
-- ros 89 [(some (.ints 46 .u64))] TYS [(.ints 46 .u64)]

def Zlz : IC := (.seq (.reg false [r 2 (.mv (.k .nsl))])
 (.seq (.reg false [r 3 (.mv (.k (.v (.int .i64 0))))])
 (.seq (.seq (.reg false [r 9 (.mv (.t 0)), r 10 (.len false (.t 9)), r 11 (.mv (.k (.v (.int .i64 0))))])
 (.block 0
 (.loop
 (.seq (.reg false [r 12 (.ib .lt .i64 (.t 11) (.t 10))])
 (.seq (.cond (.t 12)
 .skip
 (.exit 0))
 (.seq (.block 1
 (.seq (.reg false [r 13 (.idx (.t 9) (.t 11) 1), r 14 (.ld (.t 13)), r 5 (.mv (.t 14))])
 (.seq (.reg false [r 15 (.mv (.t 3)), r 16 (.mv (.t 5)), r 17 (.len false (.t 16)), r 18 (.ib .add .i64 (.t 15) (.t 17)), r 3 (.mv (.t 18))])
 (.seq (.reg false [r 19 (.mv (.t 3)), r 20 (.ib .lt .i64 (.t 19) (.k (.v (.int .i64 0))))])
 (.cond (.t 20)
 .bad
 .skip)))))
 (.reg false [r 22 (.ib .add .i64 (.t 11) (.k (.v (.int .i64 1)))), r 11 (.mv (.t 22))])))))))
 (.seq (.reg false [r 23 (.mv (.t 3)), r 24 (.call 101 [(.k .nsl), (.t 23)]), r 6 (.mv (.t 24))])
 (.seq (.seq (.reg false [r 25 (.mv (.t 0)), r 26 (.len false (.t 25)), r 27 (.mv (.k (.v (.int .i64 0))))])
 (.block 2
 (.loop
 (.seq (.reg false [r 28 (.ib .lt .i64 (.t 27) (.t 26))])
 (.seq (.cond (.t 28)
 .skip
 (.exit 2))
 (.seq (.block 3
 (.seq (.reg false [r 29 (.idx (.t 25) (.t 27) 1), r 30 (.ld (.t 29)), r 8 (.mv (.t 30))])
 (.reg false [r 31 (.mv (.t 6)), r 32 (.mv (.t 8)), r 33 (.app (.row 75 (.st [(.int .u64), (.int .i64), (.int .i64)])) 24 (.t 31) (.t 32)), r 6 (.mv (.t 33))])))
 (.reg false [r 34 (.ib .add .i64 (.t 27) (.k (.v (.int .i64 1)))), r 27 (.mv (.t 34))])))))))
 (.seq (.reg false [r 35 (.mv (.t 6)), r 2 (.mv (.t 35))])
 .ret))))))
theorem Zqv : compF Try.prog Try.f90 = some (Zlz, [.t 2], 36) := by kernel_rfl
-- ros 90 [(some (.row 72 (.row 75 (.st [(.int .u64), (.int .i64), (.int .i64)]))))] TYS [(.row 72 (.row 75 (.st [(.int .u64), (.int .i64), (.int .i64)])))]

def Zhm : IC := (.seq (.reg false [r 4 (.mv (.t 0)), r 5 (.chk (.t 4)), r 6 (.fld (.t 5) 1), r 7 (.ld (.t 6)), r 8 (.len false (.t 7)), r 9 (.ib .mul .i64 (.k (.v (.int .i64 2))) (.t 8)), r 10 (.mx (.k (.v (.int .i64 4))) (.t 9)), r 11 (.mks (.row 75 (.st [(.int .u64), (.int .i64), (.int .i64)])) 24 (.t 10) (.t 10)), r 2 (.mv (.t 11))])
 (.seq (.reg true [r 12 (.mv (.t 2)), r 13 (.mv (.t 0)), ⟨some 14, none, [1], .chk (.t 13)⟩, ⟨some 15, none, [2, 1], .fld (.t 14) 1⟩, ⟨some 16, none, [3, 2, 1], .ld (.t 15)⟩, r 17 (.mv (.t 0)), ⟨some 18, none, [5], .chk (.t 17)⟩, ⟨some 19, none, [6, 5], .fld (.t 18) 2⟩, ⟨some 20, none, [7, 6, 5], .ld (.t 19)⟩, ⟨some 21, none, [4, 3, 2, 1, 8, 7, 6, 5], .sls (.t 16) (some (.t 20)) none 3⟩, ⟨some 22, none, [0, 9, 4, 3, 2, 1, 8, 7, 6, 5], .copy (.t 12) (.t 21) 3⟩, ⟨some 3, none, [10, 0, 9, 4, 3, 2, 1, 8, 7, 6, 5], .mv (.t 22)⟩])
 (.seq (.reg true [r 23 (.mv (.t 2)), r 24 (.mv (.t 3)), ⟨some 25, none, [0, 1], .sls (.t 23) (some (.t 24)) none 3⟩, r 26 (.mv (.t 0)), ⟨some 27, none, [3], .chk (.t 26)⟩, ⟨some 28, none, [4, 3], .fld (.t 27) 1⟩, ⟨some 29, none, [5, 4, 3], .ld (.t 28)⟩, r 30 (.mv (.t 0)), ⟨some 31, none, [7], .chk (.t 30)⟩, ⟨some 32, none, [8, 7], .fld (.t 31) 2⟩, ⟨some 33, none, [9, 8, 7], .ld (.t 32)⟩, ⟨some 34, none, [6, 5, 4, 3, 10, 9, 8, 7], .sls (.t 29) none (some (.t 33)) 3⟩, ⟨some 35, none, [2, 0, 1, 11, 6, 5, 4, 3, 10, 9, 8, 7], .copy (.t 25) (.t 34) 3⟩])
 (.reg false [r 36 (.mv (.t 0)), r 37 (.mv (.t 0)), r 38 (.mv (.t 2)), r 39 (.chk (.t 36)), r 40 (.fld (.t 39) 1), r0 (.st (.t 40) (.t 38) 1), r 41 (.chk (.t 37)), r 42 (.fld (.t 41) 2), r0 (.st (.t 42) (.k (.v (.int .i64 0))) 1)]))))
theorem Zvo : compF Try.prog Try.f91 = some (Zhm, [], 43) := by kernel_rfl
-- ros 91 [none] TYS [none]

def Zi4 : IC := (.seq (.reg false [r 4 (.mv (.k (.v (.int .u64 0))))])
 (.seq (.seq (.reg false [r 6 (.mv (.t 0)), r 7 (.mv (.t 1)), r 8 (.ib .add .u64 (.t 6) (.t 7)), r 5 (.mv (.t 8))])
 (.seq (.reg false [r 9 (.mv (.t 5)), r 10 (.mv (.t 0)), r 11 (.ib .ge .u64 (.t 9) (.t 10))])
 (.cond (.t 11)
 (.seq (.reg false [r 12 (.mv (.t 5)), r 4 (.mv (.t 12))])
 .ret)
 .skip)))
 (.seq (.reg false [r 4 (.mv (.k (.v (.int .u64 18446744073709551615))))])
 .ret)))
theorem Zul : compF Try.prog Try.f97 = some (Zi4, [.t 4], 13) := by kernel_rfl
-- ros 97 [none, none] TYS [(.int .u64), (.int .u64)]

def Zni : IC := (.seq (.reg false [r 4 (.mv (.k (.v (.int .u64 0))))])
 (.seq (.seq (.reg false [r 5 (.mv (.t 0)), r 6 (.ib .gt .u64 (.t 5) (.k (.v (.int .u64 0)))), r 7 (.mv (.t 6)), ⟨some 8, some (7, true), [], .mv (.t 1)⟩, ⟨some 9, some (7, true), [], .mv (.t 0)⟩, ⟨some 10, some (7, true), [], .ib .quo .u64 (.k (.v (.int .u64 18446744073709551615))) (.t 9)⟩, ⟨some 11, some (7, true), [], .ib .gt .u64 (.t 8) (.t 10)⟩, r 12 (.pick (.t 7) (.t 11) (.k (.v (.bool false))))])
 (.cond (.t 12)
 (.seq (.reg false [r 4 (.mv (.k (.v (.int .u64 18446744073709551615))))])
 .ret)
 .skip))
 (.seq (.reg false [r 13 (.mv (.t 0)), r 14 (.mv (.t 1)), r 15 (.ib .mul .u64 (.t 13) (.t 14)), r 4 (.mv (.t 15))])
 .ret)))
theorem Zyc : compF Try.prog Try.f98 = some (Zni, [.t 4], 16) := by kernel_rfl
-- ros 98 [none, none] TYS [(.int .u64), (.int .u64)]

def Zld : IC := (.reg true [r 2 (.mv (.t 0)), r 3 (.mv (.t 0)), r 4 (.mv (.t 0)), ⟨some 5, none, [2], .chk (.t 4)⟩, ⟨some 6, none, [3, 2], .fld (.t 5) 1⟩, ⟨some 7, none, [4, 3, 2], .fld (.t 6) 0⟩, ⟨some 8, none, [5, 4, 3, 2], .ld (.t 7)⟩, ⟨some 9, none, [6, 5, 4, 3, 2], .ib .add .i64 (.t 8) (.k (.v (.int .i64 1)))⟩, r 10 (.mv (.t 0)), ⟨some 11, none, [8], .chk (.t 10)⟩, ⟨some 12, none, [9, 8], .fld (.t 11) 0⟩, ⟨some 13, none, [10, 9, 8], .ld (.t 12)⟩, ⟨some 14, none, [11, 10, 9, 8], .len false (.t 13)⟩, ⟨some 15, none, [7, 6, 5, 4, 3, 2, 12, 11, 10, 9, 8], .ib .rem .i64 (.t 9) (.t 14)⟩, ⟨some 16, none, [0, 2, 3, 4, 5, 6, 7, 8, 9, 10, 11, 12, 13], .chk (.t 2)⟩, ⟨some 17, none, [14, 0, 2, 3, 4, 5, 6, 7, 8, 9, 10, 11, 12, 13], .fld (.t 16) 1⟩, ⟨some 18, none, [15, 14, 0, 2, 3, 4, 5, 6, 7, 8, 9, 10, 11, 12, 13], .fld (.t 17) 0⟩, ⟨none, none, [16, 15, 14, 0, 2, 3, 4, 5, 6, 7, 8, 9, 10, 11, 12, 13], .st (.t 18) (.t 15) 1⟩, ⟨some 19, none, [1, 0, 2, 3, 4, 5, 6, 7, 8, 9, 10, 11, 12, 13, 14, 15, 16, 17], .chk (.t 3)⟩, ⟨some 20, none, [18, 1, 0, 2, 3, 4, 5, 6, 7, 8, 9, 10, 11, 12, 13, 14, 15, 16, 17], .fld (.t 19) 1⟩, ⟨some 21, none, [19, 18, 1, 0, 2, 3, 4, 5, 6, 7, 8, 9, 10, 11, 12, 13, 14, 15, 16, 17], .fld (.t 20) 1⟩, ⟨none, none, [20, 19, 18, 1, 0, 2, 3, 4, 5, 6, 7, 8, 9, 10, 11, 12, 13, 14, 15, 16, 17], .st (.t 21) (.k (.v (.bool false))) 1⟩])
theorem Zs7 : compF Try.prog Try.f99 = some (Zld, [], 22) := by kernel_rfl
-- ros 99 [none] TYS [none]

def Ziv : IC := (.seq (.reg false [r 4 (.mv (.k (.v (.int .i64 0))))])
 (.seq (.seq (.reg false [r 6 (.mv (.t 0)), r 7 (.len false (.t 6)), r 8 (.mv (.k (.v (.int .i64 0))))])
 (.block 0
 (.loop
 (.seq (.reg false [r 9 (.ib .lt .i64 (.t 8) (.t 7))])
 (.seq (.cond (.t 9)
 .skip
 (.exit 0))
 (.seq (.block 1
 (.seq (.reg false [r 10 (.mv (.t 8)), r 5 (.mv (.t 10))])
 (.seq (.reg false [r 11 (.mv (.t 1)), r 12 (.mv (.t 0)), r 13 (.mv (.t 5)), r 14 (.idx (.t 12) (.t 13) 1), r 15 (.ld (.t 14)), r 16 (.callv (.t 11) [(.t 15)])])
 (.cond (.t 16)
 (.seq (.reg false [r 17 (.mv (.t 5)), r 4 (.mv (.t 17))])
 .ret)
 .skip))))
 (.reg false [r 18 (.ib .add .i64 (.t 8) (.k (.v (.int .i64 1)))), r 8 (.mv (.t 18))])))))))
 (.seq (.reg false [r 4 (.mv (.k (.v (.int .i64 (-1)))))])
 .ret)))
theorem Z10o : compF Try.prog Try.f100 = some (Ziv, [.t 4], 19) := by kernel_rfl
-- ros 100 [(some (.row 72 (.row 75 (.st [(.int .u64), (.int .i64), (.int .i64)])))), none] TYS [(.row 72 (.row 75 (.st [(.int .u64), (.int .i64), (.int .i64)]))), none]
end Go.Proofs.Ytojbpjcfdjakkaa
end
section
set_option linter.unusedVariables false
set_option linter.unusedSimpArgs false
namespace Go.Proofs.Ytojbpjcfdjakkaa
open Go.RowKit
theorem clacd82 {p : Prop} (h : p := by
  have e := Option.some.inj hr
  constructor
  refine ⟨_, hF, ?_⟩
  (try cbv); (try simp only [K0, K1, and_self, and_true, true_and]); (try first | exact e | exact e.symm | (and_intros <;> first | assumption | rfl | exact Eq.symm (by assumption)))) : p := h
theorem cl2ec4c {p : Prop} (h : p := by
  rintro u0 e
  refine Z11 hk ?_
  (try cbv); (try simp only [K0, K1, and_self, and_true, true_and]); (try first | exact e | exact e.symm | (and_intros <;> first | assumption | rfl | exact Eq.symm (by assumption)))) : p := h
theorem clb5cb2 {p : Prop} (h : p := by
  obtain rfl := Option.some.inj hr
  have e := ht1 _ rfl
  constructor
  refine ⟨_, hF, ?_⟩
  (try cbv); (try simp only [K0, K1, and_self, and_true, true_and]); (try first | exact e | exact e.symm | (and_intros <;> first | assumption | rfl | exact Eq.symm (by assumption)))) : p := h
theorem clba30f {p : Prop} (h : p := by
  obtain rfl := Option.some.inj hr
  constructor
  refine ⟨⟨_, rfl⟩, ?_⟩
  rintro u0 e
  replace e := Sum.inl.inj e
  refine Z11 hk ?_
  (try cbv); (try simp only [K0, K1, and_self, and_true, true_and]); (try first | exact e | exact e.symm | (and_intros <;> first | assumption | rfl | exact Eq.symm (by assumption)))) : p := h
theorem cl9bcf9 {p : Prop} (h : p := by
  rintro _ e
  refine Z11 hk ?_
  (try cbv); (try simp only [K0, K1, and_self, and_true, true_and]); (try first | exact e | exact e.symm | (and_intros <;> first | assumption | rfl | exact Eq.symm (by assumption)))) : p := h
theorem clf1d56 {p : Prop} (h : p := by
  have e := Option.some.inj hr
  obtain ⟨u0, u1⟩ := r
  simp only [Prod.mk.injEq] at e
  obtain ⟨e0, e1⟩ := e
  constructor
  refine ⟨_, hF, ?_⟩
  (try cbv); (try simp only [K0, K1, and_self, and_true, true_and]); (try first | exact e | exact e.symm | (and_intros <;> first | assumption | rfl | exact Eq.symm (by assumption)))) : p := h
theorem clf6c1b {p : Prop} (h : p := by
  rintro ⟨u0, u1, u2, u3⟩ e
  simp only [Prod.mk.injEq] at e
  obtain ⟨e0, e1, e2, e3⟩ := e
  refine Z11 hk ?_
  (try cbv); (try simp only [K0, K1, and_self, and_true, true_and]); (try first | exact e | exact e.symm | (and_intros <;> first | assumption | rfl | exact Eq.symm (by assumption)))) : p := h
theorem cle9b97 {p : Prop} (h : p := by
  obtain rfl := Option.some.inj hr
  constructor
  refine ⟨⟨_, rfl⟩, ?_⟩
  rintro ⟨u0, u1, u2, u3⟩ e
  replace e := Sum.inl.inj e
  simp only [Prod.mk.injEq] at e
  obtain ⟨e0, e1, e2, e3⟩ := e
  refine Z11 hk ?_
  (try cbv); (try simp only [K0, K1, and_self, and_true, true_and]); (try first | exact e | exact e.symm | (and_intros <;> first | assumption | rfl | exact Eq.symm (by assumption)))) : p := h
theorem cle4224 {p : Prop} (h : p := by
  obtain rfl := Option.some.inj hr
  have e := ht1 _ rfl
  obtain ⟨u0, u1, u2, u3, u4, u5⟩ := r
  simp only [Prod.mk.injEq] at e
  obtain ⟨e0, e1, e2, e3, e4, e5⟩ := e
  constructor
  refine ⟨_, hF, ?_⟩
  (try cbv); (try simp only [K0, K1, and_self, and_true, true_and]); (try first | exact e | exact e.symm | (and_intros <;> first | assumption | rfl | exact Eq.symm (by assumption)))) : p := h
theorem cld41ea {p : Prop} (h : p := by
  replace e := Sum.inl.inj e
  constructor
  refine ⟨_, hF, ?_⟩
  (try cbv); (try simp only [K0, K1, and_self, and_true, true_and]); (try first | exact e | exact e.symm | (and_intros <;> first | assumption | rfl | exact Eq.symm (by assumption)))) : p := h
theorem cla03ba {p : Prop} (h : p := by
  replace e := Sum.inr.inj e
  simp only [Prod.mk.injEq] at e
  obtain ⟨e0, e1, e2, e3, e4, e5⟩ := e
  constructor
  refine ⟨_, hF, ?_⟩
  (try cbv); (try simp only [K0, K1, and_self, and_true, true_and]); (try first | exact e | exact e.symm | (and_intros <;> first | assumption | rfl | exact Eq.symm (by assumption)))) : p := h
theorem cldfed9 {p : Prop} (h : p := by
  have e := Option.some.inj hr
  obtain ⟨u0, u1, u2⟩ := r
  simp only [Prod.mk.injEq] at e
  obtain ⟨e0, e1, e2⟩ := e
  constructor
  refine ⟨_, hF, ?_⟩
  (try cbv); (try simp only [K0, K1, and_self, and_true, true_and]); (try first | exact e | exact e.symm | (and_intros <;> first | assumption | rfl | exact Eq.symm (by assumption)))) : p := h
theorem clbfd00 {p : Prop} (h : p := by
  have e := Option.some.inj hr
  obtain ⟨u0, u1, u2, u3⟩ := r
  simp only [Prod.mk.injEq] at e
  obtain ⟨e0, e1, e2, e3⟩ := e
  constructor
  refine ⟨_, hF, ?_⟩
  (try cbv); (try simp only [K0, K1, and_self, and_true, true_and]); (try first | exact e | exact e.symm | (and_intros <;> first | assumption | rfl | exact Eq.symm (by assumption)))) : p := h
theorem clc60e0 {p : Prop} (h : p := by
  have e := Option.some.inj hr
  obtain ⟨u0, u1, u2, u3, u4, u5⟩ := r
  simp only [Prod.mk.injEq] at e
  obtain ⟨e0, e1, e2, e3, e4, e5⟩ := e
  constructor
  refine ⟨_, hF, ?_⟩
  (try cbv); (try simp only [K0, K1, and_self, and_true, true_and]); (try first | exact e | exact e.symm | (and_intros <;> first | assumption | rfl | exact Eq.symm (by assumption)))) : p := h
theorem clfb273 {p : Prop} (h : p := by
  obtain rfl := Option.some.inj hr
  have e := ht1 _ rfl
  obtain ⟨u0, u1, u2, u3⟩ := r
  simp only [Prod.mk.injEq] at e
  obtain ⟨e0, e1, e2, e3⟩ := e
  constructor
  refine ⟨_, hF, ?_⟩
  (try cbv); (try simp only [K0, K1, and_self, and_true, true_and]); (try first | exact e | exact e.symm | (and_intros <;> first | assumption | rfl | exact Eq.symm (by assumption)))) : p := h
theorem cl63eab {p : Prop} (h : p := by
  rintro ⟨u0, u1, u2⟩ e
  simp only [Prod.mk.injEq] at e
  obtain ⟨e0, e1, e2⟩ := e
  refine Z11 hk ?_
  (try cbv); (try simp only [K0, K1, and_self, and_true, true_and]); (try first | exact e | exact e.symm | (and_intros <;> first | assumption | rfl | exact Eq.symm (by assumption)))) : p := h
theorem cl34131 {p : Prop} (h : p := by
  obtain rfl := Option.some.inj hr
  constructor
  refine ⟨⟨_, rfl⟩, ?_⟩
  rintro ⟨u0, u1, u2⟩ e
  replace e := Sum.inl.inj e
  simp only [Prod.mk.injEq] at e
  obtain ⟨e0, e1, e2⟩ := e
  refine Z11 hk ?_
  (try cbv); (try simp only [K0, K1, and_self, and_true, true_and]); (try first | exact e | exact e.symm | (and_intros <;> first | assumption | rfl | exact Eq.symm (by assumption)))) : p := h
theorem cl73344 {p : Prop} (h : p := by
  obtain rfl := Option.some.inj hr
  have e := ht1 _ rfl
  obtain ⟨u0, u1, u2, u3, u4, u5, u6, u7, u8⟩ := r
  simp only [Prod.mk.injEq] at e
  obtain ⟨e0, e1, e2, e3, e4, e5, e6, e7, e8⟩ := e
  constructor
  refine ⟨_, hF, ?_⟩
  (try cbv); (try simp only [K0, K1, and_self, and_true, true_and]); (try first | exact e | exact e.symm | (and_intros <;> first | assumption | rfl | exact Eq.symm (by assumption)))) : p := h
theorem cl1df3b {p : Prop} (h : p := by
  rintro ⟨u0, u1⟩ e
  simp only [Prod.mk.injEq] at e
  obtain ⟨e0, e1⟩ := e
  refine Z11 hk ?_
  (try cbv); (try simp only [K0, K1, and_self, and_true, true_and]); (try first | exact e | exact e.symm | (and_intros <;> first | assumption | rfl | exact Eq.symm (by assumption)))) : p := h
theorem cl81169 {p : Prop} (h : p := by
  obtain rfl := Option.some.inj hr
  constructor
  refine ⟨⟨_, rfl⟩, ?_⟩
  rintro ⟨u0, u1⟩ e
  replace e := Sum.inl.inj e
  simp only [Prod.mk.injEq] at e
  obtain ⟨e0, e1⟩ := e
  refine Z11 hk ?_
  (try cbv); (try simp only [K0, K1, and_self, and_true, true_and]); (try first | exact e | exact e.symm | (and_intros <;> first | assumption | rfl | exact Eq.symm (by assumption)))) : p := h
theorem cl1c5c3 {p : Prop} (h : p := by
  obtain rfl := Option.some.inj hr
  have e := ht1 _ rfl
  obtain ⟨u0, u1⟩ := r
  simp only [Prod.mk.injEq] at e
  obtain ⟨e0, e1⟩ := e
  constructor
  refine ⟨_, hF, ?_⟩
  (try cbv); (try simp only [K0, K1, and_self, and_true, true_and]); (try first | exact e | exact e.symm | (and_intros <;> first | assumption | rfl | exact Eq.symm (by assumption)))) : p := h
theorem clefba8 {p : Prop} (h : p := by
  obtain rfl := Option.some.inj hr
  have e := (ht2 _ rfl).symm
  subst e
  constructor
  refine ⟨⟨_, rfl⟩, ?_⟩
  rintro ⟨u0, u1, u2⟩ e
  replace e := Sum.inl.inj e
  simp only [Prod.mk.injEq] at e
  obtain ⟨e0, e1, e2⟩ := e
  refine Z11 hk ?_
  (try cbv); (try simp only [K0, K1, and_self, and_true, true_and]); (try first | exact e | exact e.symm | (and_intros <;> first | assumption | rfl | exact Eq.symm (by assumption)))) : p := h
theorem clbdc41 {p : Prop} (h : p := by
  obtain rfl := Option.some.inj hr
  have e := ht1 _ rfl
  obtain ⟨u0, u1, u2⟩ := r
  simp only [Prod.mk.injEq] at e
  obtain ⟨e0, e1, e2⟩ := e
  constructor
  refine ⟨_, hF, ?_⟩
  (try cbv); (try simp only [K0, K1, and_self, and_true, true_and]); (try first | exact e | exact e.symm | (and_intros <;> first | assumption | rfl | exact Eq.symm (by assumption)))) : p := h
theorem cl62e3a {p : Prop} (h : p := by
  have e := Option.some.inj hr
  obtain ⟨u0, u1, u2, u3, u4, u5, u6, u7, u8, u9, u10, u11⟩ := r
  simp only [Prod.mk.injEq] at e
  obtain ⟨e0, e1, e2, e3, e4, e5, e6, e7, e8, e9, e10, e11⟩ := e
  constructor
  refine ⟨_, hF, ?_⟩
  (try cbv); (try simp only [K0, K1, and_self, and_true, true_and]); (try first | exact e | exact e.symm | (and_intros <;> first | assumption | rfl | exact Eq.symm (by assumption)))) : p := h
theorem clfaf68 {p : Prop} (h : p := by
  obtain rfl := Option.some.inj hr
  have e := ht1 _ rfl
  obtain ⟨u0, u1, u2, u3, u4, u5, u6, u7, u8, u9, u10, u11⟩ := r
  simp only [Prod.mk.injEq] at e
  obtain ⟨e0, e1, e2, e3, e4, e5, e6, e7, e8, e9, e10, e11⟩ := e
  constructor
  refine ⟨_, hF, ?_⟩
  (try cbv); (try simp only [K0, K1, and_self, and_true, true_and]); (try first | exact e | exact e.symm | (and_intros <;> first | assumption | rfl | exact Eq.symm (by assumption)))) : p := h
theorem cl8eeb6 {p : Prop} (h : p := by
  have e := Option.some.inj hr
  obtain ⟨u0, u1, u2, u3, u4⟩ := r
  simp only [Prod.mk.injEq] at e
  obtain ⟨e0, e1, e2, e3, e4⟩ := e
  constructor
  refine ⟨_, hF, ?_⟩
  (try cbv); (try simp only [K0, K1, and_self, and_true, true_and]); (try first | exact e | exact e.symm | (and_intros <;> first | assumption | rfl | exact Eq.symm (by assumption)))) : p := h
theorem cl31adc {p : Prop} (h : p := by
  obtain rfl := Option.some.inj hr
  have e := ht1 _ rfl
  obtain ⟨u0, u1, u2, u3, u4⟩ := r
  simp only [Prod.mk.injEq] at e
  obtain ⟨e0, e1, e2, e3, e4⟩ := e
  constructor
  refine ⟨_, hF, ?_⟩
  (try cbv); (try simp only [K0, K1, and_self, and_true, true_and]); (try first | exact e | exact e.symm | (and_intros <;> first | assumption | rfl | exact Eq.symm (by assumption)))) : p := h
theorem clf9b33 {p : Prop} (h : p := by
  have e := Option.some.inj hr
  obtain ⟨u0, u1, u2, u3, u4, u5, u6, u7, u8, u9, u10, u11, u12, u13, u14, u15, u16, u17⟩ := r
  simp only [Prod.mk.injEq] at e
  obtain ⟨e0, e1, e2, e3, e4, e5, e6, e7, e8, e9, e10, e11, e12, e13, e14, e15, e16, e17⟩ := e
  constructor
  refine ⟨_, hF, ?_⟩
  (try cbv); (try simp only [K0, K1, and_self, and_true, true_and]); (try first | exact e | exact e.symm | (and_intros <;> first | assumption | rfl | exact Eq.symm (by assumption)))) : p := h
theorem cl68ede {p : Prop} (h : p := by
  rintro ⟨u0, u1, u2, u3, u4, u5, u6, u7, u8, u9, u10, u11, u12⟩ e
  simp only [Prod.mk.injEq] at e
  obtain ⟨e0, e1, e2, e3, e4, e5, e6, e7, e8, e9, e10, e11, e12⟩ := e
  refine Z11 hk ?_
  (try cbv); (try simp only [K0, K1, and_self, and_true, true_and]); (try first | exact e | exact e.symm | (and_intros <;> first | assumption | rfl | exact Eq.symm (by assumption)))) : p := h
theorem cl986f7 {p : Prop} (h : p := by
  obtain rfl := Option.some.inj hr
  constructor
  refine ⟨⟨_, rfl⟩, ?_⟩
  rintro ⟨u0, u1, u2, u3, u4, u5, u6, u7, u8, u9, u10, u11, u12⟩ e
  replace e := Sum.inl.inj e
  simp only [Prod.mk.injEq] at e
  obtain ⟨e0, e1, e2, e3, e4, e5, e6, e7, e8, e9, e10, e11, e12⟩ := e
  refine Z11 hk ?_
  (try cbv); (try simp only [K0, K1, and_self, and_true, true_and]); (try first | exact e | exact e.symm | (and_intros <;> first | assumption | rfl | exact Eq.symm (by assumption)))) : p := h
theorem cl5a7c6 {p : Prop} (h : p := by
  obtain rfl := Option.some.inj hr
  have e := (ht2 _ rfl).symm
  subst e
  have e := ht1 _ rfl
  constructor
  refine ⟨_, hF, ?_⟩
  (try cbv); (try simp only [K0, K1, and_self, and_true, true_and]); (try first | exact e | exact e.symm | (and_intros <;> first | assumption | rfl | exact Eq.symm (by assumption)))) : p := h
theorem cl6c4af {p : Prop} (h : p := by
  obtain rfl := Option.some.inj hr
  have e := (ht2 _ rfl).symm
  subst e
  constructor
  refine ⟨⟨_, rfl⟩, ?_⟩
  rintro ⟨u0, u1⟩ e
  replace e := Sum.inl.inj e
  simp only [Prod.mk.injEq] at e
  obtain ⟨e0, e1⟩ := e
  refine Z11 hk ?_
  (try cbv); (try simp only [K0, K1, and_self, and_true, true_and]); (try first | exact e | exact e.symm | (and_intros <;> first | assumption | rfl | exact Eq.symm (by assumption)))) : p := h
noncomputable def Zc9 : Nat → Option Con := look []
set_option maxHeartbeats 20000000 in
set_option maxRecDepth 100000 in
theorem Zt8 (P : Program) (T : Tab P Zc9) (hm : P.follows .mixedOrders = true) : FnVC P Zc9 Zkz [.t 3] 11 Z9m := by
 intro cargs ccks ce hce hob C hk
 apply Hidden.out
 replace hce : Zcj cargs ccks = some ce := hce
 unfold Zcj at hce
 split at hce; rotate_left; cases hce
 obtain rfl := Option.some.inj hce
 rename_i x1 x2
 refine obh hob fun r hF => ?_
 clear hob hce
 simp only [List.length_cons, List.length_nil, Nat.zero_add, Nat.reduceAdd] at hk
 have hr : Z14 x1 x2 = some r := by rw [lock_eq] at hF; exact hF
 unfold Z14 at hr
 constructor
 (try cbv)
 refine Z2 hr ?_ ?_ <;> intro h1 hr
 ·(try cbv)
  apply Hidden.out
  exact clacd82
 (try cbv)
 apply Hidden.out
 exact clacd82
noncomputable def Zdp : Nat → Option Con := look [(32, Z9m)]
set_option maxHeartbeats 20000000 in
set_option maxRecDepth 100000 in
theorem Ztv (P : Program) (T : Tab P Zdp) (hm : P.follows .mixedOrders = true) : FnVC P Zdp Zn2 [.t 2] 79 Z50 := by
 intro cargs ccks ce hce hob C hk
 apply Hidden.out
 replace hce : altC (Z9x cargs ccks) (altC (Z92 cargs ccks) (Zd3 cargs ccks)) = some ce := hce
 replace hce := Zn hce
 rcases hce with hce | hce
 ·unfold Z9x at hce
  split at hce; rotate_left; cases hce
  obtain rfl := Option.some.inj hce
  rename_i s1 b1 x1 r1
  refine obh hob fun r hF => ?_
  clear hob hce
  simp only [List.length_cons, List.length_nil, Nat.zero_add, Nat.reduceAdd] at hk
  have hr : Z1i s1 b1 x1 r1 = some r := by rw [lock_eq] at hF; exact hF
  unfold Z1i at hr
  constructor
  (try cbv)
  refine Z2 hr ?_ ?_ <;> intro h1 hr
  ·(try cbv)
   apply Hidden.out
   exact clacd82
  as_aux_lemma =>
  (try cbv)
  refine Z2 hr ?_ ?_ <;> intro h1 hr
  ·(try cbv)
   apply Hidden.out
   exact clacd82
  as_aux_lemma =>
  (try cbv)
  refine cal hr (by rintro (_) _ <;> cbv) ?_
  rintro c1 hx1 hr
  (try dsimp only at hr); constructor; (try cbv)
  refine Z9 hr ?_ ?_ <;> intro h1 hr
  ·(try cbv)
   apply Hidden.out
   exact clacd82
  as_aux_lemma =>
  (try cbv)
  refine LoopOK.iter T (drawOK T hm) hr (fun | i1 => ⟨mkFr [(1, (.ptr 1 0)), (4, (.fn 32 [(.ptr 2 0)])), (28, (.wsl 0)), (29, (.v (.int .i64 (lock ofN (lock (@xlen D) r1))))), (30, (.v (.int .i64 i1)))] 79 0, [(0, .row (.row 83 (.st [.str, (.int .u64), (.int .u64), (.int .u64), (.int .i64), .bool]) r1)), (1, .blk 33 [(.str s1), (.v (.bool b1)), (.wsl 0), .nsl, (.v (.int .i64 x1))]), (2, .blk 3 [(.v (.int .i64 (lock ofN (lock (@xlen D) r1))))])], 3⟩) ?_ ?_
  ·exact cl2ec4c
  clear hr
  intro x bb1 hr ht1
  obtain ⟨i1, hz⟩ : ∃ z, z = x := ⟨x, rfl⟩
  subst hz
  as_aux_lemma =>
  constructor
  unfold Z7i at hr
  (try dsimp only at hr)
  (try cbv)
  refine Z2 hr ?_ ?_ <;> intro h1 hr
  ·as_aux_lemma =>
   (try cbv)
   refine Z3 hr fun hr => ?_
   apply Hidden.out
   rcases Bool.eq_false_or_eq_true (ilt (D.toI (D.fld (getD r1 (toN i1)) 1)) (1500 : Int)) with h1 | h1
   ·constructor
    rw [if_pos h1] at hr
    have h2 : (lock ilt (lock D.toI (lock D.fld (lock getD r1 (lock toN i1)) 1)) (1500 : Int)) = true := by simp only [lock_eq]; exact h1
    simp only [relock, h2]
    (try cbv)
    apply Hidden.out
    exact clb5cb2
   constructor
   rw [if_neg (by rw [h1]; exact Bool.false_ne_true)] at hr
   have h2 : (lock ilt (lock D.toI (lock D.fld (lock getD r1 (lock toN i1)) 1)) (1500 : Int)) = false := by simp only [lock_eq]; exact h1
   simp only [relock, h2]
   (try cbv)
   apply Hidden.out
   rcases Bool.eq_false_or_eq_true (ilt (D.toI (D.fld (getD r1 (toN i1)) 4)) (1 : Int)) with h1 | h1
   ·constructor
    rw [if_pos h1] at hr
    have h2 : (lock ilt (lock D.toI (lock D.fld (lock getD r1 (lock toN i1)) 4)) (1 : Int)) = true := by simp only [lock_eq]; exact h1
    simp only [relock, h2]
    (try cbv)
    apply Hidden.out
    exact clb5cb2
   constructor
   rw [if_neg (by rw [h1]; exact Bool.false_ne_true)] at hr
   have h2 : (lock ilt (lock D.toI (lock D.fld (lock getD r1 (lock toN i1)) 4)) (1 : Int)) = false := by simp only [lock_eq]; exact h1
   simp only [relock, h2]
   (try cbv)
   apply Hidden.out
   rcases Bool.eq_false_or_eq_true (ilt (64 : Int) (D.toI (D.fld (getD r1 (toN i1)) 4))) with h1 | h1
   ·constructor
    rw [if_pos h1] at hr
    have h2 : (lock ilt (64 : Int) (lock D.toI (lock D.fld (lock getD r1 (lock toN i1)) 4))) = true := by simp only [lock_eq]; exact h1
    simp only [relock, h2]
    (try cbv)
    apply Hidden.out
    exact clb5cb2
   constructor
   rw [if_neg (by rw [h1]; exact Bool.false_ne_true)] at hr
   have h2 : (lock ilt (64 : Int) (lock D.toI (lock D.fld (lock getD r1 (lock toN i1)) 4))) = false := by simp only [lock_eq]; exact h1
   simp only [relock, h2]
   (try cbv)
   apply Hidden.out
   rcases Bool.eq_false_or_eq_true (ilt (0 : Int) i1) with h1 | h1
   ·constructor
    rw [if_pos h1] at hr
    have h2 : (lock ilt (0 : Int) i1) = true := by simp only [lock_eq]; exact h1
    simp only [relock, h2]
    (try cbv)
    refine Z3 hr fun hr => ?_
    refine Z9 hr ?_ ?_ <;> intro h1 hr
    ·(try cbv)
     apply Hidden.out
     exact clb5cb2
    (try cbv)
    apply Hidden.out
    exact clba30f
   constructor
   rw [if_neg (by rw [h1]; exact Bool.false_ne_true)] at hr
   have h2 : (lock ilt (0 : Int) i1) = false := by simp only [lock_eq]; exact h1
   simp only [relock, h2]
   (try cbv)
   apply Hidden.out
   exact clba30f
  (try cbv)
  apply Hidden.out
  obtain ⟨t, hr2, hw⟩ := Z16 hr
  clear hr
  subst hw
  have e := (ht1 _ rfl).symm
  subst e
  have hr := hr2
  clear hr2
  constructor
  refine LoopOK.iter T (drawOK T hm) hr (fun | _ => ⟨mkFr [(4, (.fn 32 [(.ptr 1 0)])), (67, .nsl), (68, (.v (.int .i64 (lock ofN 0)))), (69, (.v (.int .i64 (0 : Int))))] 79 0, [(0, .row (.row 83 (.st [.str, (.int .u64), (.int .u64), (.int .u64), (.int .i64), .bool]) r1)), (1, .blk 3 [(.v (.int .i64 (lock ofN (lock (@xlen D) r1))))])], 2⟩) ?_ ?_
  ·exact cl9bcf9
  clear hr
  intro x bb1 hr ht1
  as_aux_lemma =>
  constructor
  unfold Z7v at hr
  (try dsimp only at hr)
  (try cbv)
  refine Z2 hr ?_ ?_ <;> intro h1 hr
  ·(try cbv)
   cases hr
  (try cbv)
  apply Hidden.out
  exact clb5cb2
 replace hce := Zn hce
 rcases hce with hce | hce
 ·unfold Z92 at hce
  split at hce; rotate_left; cases hce
  obtain rfl := Option.some.inj hce
  rename_i s1 b1 x1
  refine obh hob fun r hF => ?_
  clear hob hce
  simp only [List.length_cons, List.length_nil, Nat.zero_add, Nat.reduceAdd] at hk
  have hr : Z3l s1 b1 x1 = some r := by rw [lock_eq] at hF; exact hF
  unfold Z3l at hr
  constructor
  (try cbv)
  refine Z2 hr ?_ ?_ <;> intro h1 hr
  ·(try cbv)
   apply Hidden.out
   exact clacd82
  as_aux_lemma =>
  (try cbv)
  refine Z2 hr ?_ ?_ <;> intro h1 hr
  ·(try cbv)
   apply Hidden.out
   exact clacd82
  (try cbv)
  refine cal hr (by rintro (_) _ <;> cbv) ?_
  rintro c1 hx1 hr
  (try dsimp only at hr); constructor; (try cbv)
  refine Z9 hr ?_ ?_ <;> intro h1 hr
  ·(try cbv)
   apply Hidden.out
   exact clacd82
  (try cbv)
  refine LoopOK.iter T (drawOK T hm) hr (fun | _ => ⟨mkFr [(1, (.ptr 0 0)), (4, (.fn 32 [(.ptr 1 0)])), (28, .nsl), (29, (.v (.int .i64 (lock ofN 0)))), (30, (.v (.int .i64 (0 : Int))))] 79 0, [(0, .blk 33 [(.str s1), (.v (.bool b1)), .nsl, .nsl, (.v (.int .i64 x1))]), (1, .blk 3 [(.v (.int .i64 (lock ofN 0)))])], 2⟩) ?_ ?_
  ·exact cl9bcf9
  clear hr
  intro x bb1 hr ht1
  as_aux_lemma =>
  constructor
  unfold Zir at hr
  (try dsimp only at hr)
  (try cbv)
  refine Z2 hr ?_ ?_ <;> intro h1 hr
  ·(try cbv)
   cases hr
  (try cbv)
  apply Hidden.out
  obtain ⟨t, hr2, hw⟩ := Z16 hr
  clear hr
  subst hw
  have e := (ht1 _ rfl).symm
  subst e
  have hr := hr2
  clear hr2
  constructor
  refine LoopOK.iter T (drawOK T hm) hr (fun | _ => ⟨mkFr [(4, (.fn 32 [(.ptr 0 0)])), (67, .nsl), (68, (.v (.int .i64 (lock ofN 0)))), (69, (.v (.int .i64 (0 : Int))))] 79 0, [(0, .blk 3 [(.v (.int .i64 (lock ofN 0)))])], 1⟩) ?_ ?_
  ·exact cl9bcf9
  clear hr
  intro x bb1 hr ht1
  as_aux_lemma =>
  constructor
  unfold Zi7 at hr
  (try dsimp only at hr)
  (try cbv)
  refine Z2 hr ?_ ?_ <;> intro h1 hr
  ·(try cbv)
   cases hr
  (try cbv)
  apply Hidden.out
  exact clb5cb2
 unfold Zd3 at hce
 split at hce; rotate_left; cases hce
 obtain rfl := Option.some.inj hce
 rename_i s1 b1 r1 r2 x1
 refine obh hob fun r hF => ?_
 clear hob hce
 simp only [List.length_cons, List.length_nil, Nat.zero_add, Nat.reduceAdd] at hk
 have hr : Zz s1 b1 r1 r2 x1 = some r := by rw [lock_eq] at hF; exact hF
 unfold Zz at hr
 constructor
 (try cbv)
 refine Z2 hr ?_ ?_ <;> intro h1 hr
 ·(try cbv)
  apply Hidden.out
  exact clacd82
 as_aux_lemma =>
 (try cbv)
 refine Z2 hr ?_ ?_ <;> intro h1 hr
 ·(try cbv)
  apply Hidden.out
  exact clacd82
 as_aux_lemma =>
 (try cbv)
 refine cal hr (by rintro (_) _ <;> cbv) ?_
 rintro c1 hx1 hr
 (try dsimp only at hr); constructor; (try cbv)
 refine Z9 hr ?_ ?_ <;> intro h1 hr
 ·(try cbv)
  apply Hidden.out
  exact clacd82
 as_aux_lemma =>
 (try cbv)
 refine LoopOK.iter T (drawOK T hm) hr (fun | i1 => ⟨mkFr [(1, (.ptr 0 0)), (4, (.fn 32 [(.ptr 1 0)])), (28, (.rsl (.row 83 (.st [.str, (.int .u64), (.int .u64), (.int .u64), (.int .i64), .bool]) r1))), (29, (.v (.int .i64 (lock ofN (lock (@xlen D) r1))))), (30, (.v (.int .i64 i1)))] 79 0, [(0, .blk 33 [(.str s1), (.v (.bool b1)), (.rsl (.row 83 (.st [.str, (.int .u64), (.int .u64), (.int .u64), (.int .i64), .bool]) r1)), (.rsl (.row 96 (.st [(.int .i64), (.int .i64), (.int .i64)]) r2)), (.v (.int .i64 x1))]), (1, .blk 3 [(.v (.int .i64 (lock ofN (lock (@xlen D) r1))))])], 2⟩) ?_ ?_
 ·exact cl2ec4c
 clear hr
 intro x bb1 hr ht1
 obtain ⟨i1, hz⟩ : ∃ z, z = x := ⟨x, rfl⟩
 subst hz
 as_aux_lemma =>
 constructor
 unfold Z45 at hr
 (try dsimp only at hr)
 (try cbv)
 refine Z2 hr ?_ ?_ <;> intro h1 hr
 ·as_aux_lemma =>
  (try cbv)
  refine Z3 hr fun hr => ?_
  apply Hidden.out
  rcases Bool.eq_false_or_eq_true (ilt (D.toI (D.fld (getD r1 (toN i1)) 1)) (1500 : Int)) with h1 | h1
  ·constructor
   rw [if_pos h1] at hr
   have h2 : (lock ilt (lock D.toI (lock D.fld (lock getD r1 (lock toN i1)) 1)) (1500 : Int)) = true := by simp only [lock_eq]; exact h1
   simp only [relock, h2]
   (try cbv)
   apply Hidden.out
   exact clb5cb2
  constructor
  rw [if_neg (by rw [h1]; exact Bool.false_ne_true)] at hr
  have h2 : (lock ilt (lock D.toI (lock D.fld (lock getD r1 (lock toN i1)) 1)) (1500 : Int)) = false := by simp only [lock_eq]; exact h1
  simp only [relock, h2]
  (try cbv)
  apply Hidden.out
  rcases Bool.eq_false_or_eq_true (ilt (D.toI (D.fld (getD r1 (toN i1)) 4)) (1 : Int)) with h1 | h1
  ·constructor
   rw [if_pos h1] at hr
   have h2 : (lock ilt (lock D.toI (lock D.fld (lock getD r1 (lock toN i1)) 4)) (1 : Int)) = true := by simp only [lock_eq]; exact h1
   simp only [relock, h2]
   (try cbv)
   apply Hidden.out
   exact clb5cb2
  constructor
  rw [if_neg (by rw [h1]; exact Bool.false_ne_true)] at hr
  have h2 : (lock ilt (lock D.toI (lock D.fld (lock getD r1 (lock toN i1)) 4)) (1 : Int)) = false := by simp only [lock_eq]; exact h1
  simp only [relock, h2]
  (try cbv)
  apply Hidden.out
  rcases Bool.eq_false_or_eq_true (ilt (64 : Int) (D.toI (D.fld (getD r1 (toN i1)) 4))) with h1 | h1
  ·constructor
   rw [if_pos h1] at hr
   have h2 : (lock ilt (64 : Int) (lock D.toI (lock D.fld (lock getD r1 (lock toN i1)) 4))) = true := by simp only [lock_eq]; exact h1
   simp only [relock, h2]
   (try cbv)
   apply Hidden.out
   exact clb5cb2
  constructor
  rw [if_neg (by rw [h1]; exact Bool.false_ne_true)] at hr
  have h2 : (lock ilt (64 : Int) (lock D.toI (lock D.fld (lock getD r1 (lock toN i1)) 4))) = false := by simp only [lock_eq]; exact h1
  simp only [relock, h2]
  (try cbv)
  apply Hidden.out
  rcases Bool.eq_false_or_eq_true (ilt (0 : Int) i1) with h1 | h1
  ·constructor
   rw [if_pos h1] at hr
   have h2 : (lock ilt (0 : Int) i1) = true := by simp only [lock_eq]; exact h1
   simp only [relock, h2]
   (try cbv)
   refine Z3 hr fun hr => ?_
   refine Z9 hr ?_ ?_ <;> intro h1 hr
   ·(try cbv)
    apply Hidden.out
    exact clb5cb2
   (try cbv)
   apply Hidden.out
   exact clba30f
  constructor
  rw [if_neg (by rw [h1]; exact Bool.false_ne_true)] at hr
  have h2 : (lock ilt (0 : Int) i1) = false := by simp only [lock_eq]; exact h1
  simp only [relock, h2]
  (try cbv)
  apply Hidden.out
  exact clba30f
 (try cbv)
 apply Hidden.out
 obtain ⟨t, hr2, hw⟩ := Z16 hr
 clear hr
 subst hw
 have e := (ht1 _ rfl).symm
 subst e
 have hr := hr2
 clear hr2
 constructor
 refine LoopOK.iter T (drawOK T hm) hr (fun | i2 => ⟨mkFr [(4, (.fn 32 [(.ptr 0 0)])), (67, (.rsl (.row 96 (.st [(.int .i64), (.int .i64), (.int .i64)]) r2))), (68, (.v (.int .i64 (lock ofN (lock (@xlen D) r2))))), (69, (.v (.int .i64 i2)))] 79 0, [(0, .blk 3 [(.v (.int .i64 (lock ofN (lock (@xlen D) r1))))])], 1⟩) ?_ ?_
 ·exact cl2ec4c
 clear hr
 intro x bb1 hr ht1
 obtain ⟨i2, hz⟩ : ∃ z, z = x := ⟨x, rfl⟩
 subst hz
 as_aux_lemma =>
 constructor
 unfold Z41 at hr
 (try dsimp only at hr)
 (try cbv)
 refine Z2 hr ?_ ?_ <;> intro h1 hr
 ·(try cbv)
  refine Z3 hr fun hr => ?_
  refine cal hr (by rintro (_) _ <;> cbv) ?_
  rintro c4 hx4 hr
  (try dsimp only at hr); constructor; (try cbv)
  refine Z9 hr ?_ ?_ <;> intro h1 hr
  ·(try cbv)
   apply Hidden.out
   exact clb5cb2
  (try cbv)
  apply Hidden.out
  exact clba30f
 (try cbv)
 apply Hidden.out
 exact clb5cb2
noncomputable def Z93 : Nat → Option Con := look []
set_option maxRecDepth 100000 in
theorem Zs6 (P : Program) (T : Tab P Z93) (hm : P.follows .mixedOrders = true) : FnVC P Z93 Zho [.t 2] 8 Zde := by
 intro cargs ccks ce hce hob C hk
 apply Hidden.out
 replace hce : Zd6 cargs ccks = some ce := hce
 unfold Zd6 at hce
 split at hce; rotate_left; cases hce
 obtain rfl := Option.some.inj hce
 rename_i r1
 refine obh hob fun r hF => ?_
 clear hob hce
 simp only [List.length_cons, List.length_nil, Nat.zero_add, Nat.reduceAdd] at hk
 have hr : cloneC r1 = some r := by rw [lock_eq] at hF; exact hF
 unfold cloneC at hr
 obtain ⟨g, hr⟩ := Z3e hr
 obtain rfl := Option.some.inj hr
 constructor
 cbv
 intro b hb
 cases b with
 | true =>
  constructor
  have hb : lock (@xlen D) r1 = 0 := hb rfl
  simp only [lock_eq, xlen] at hb
  have e : r1 = [] := List.length_eq_zero_iff.1 hb
  refine ⟨_, hF, ?_⟩
  cbv
  exact e
 | false =>
  constructor
  cbv
  refine ⟨obl.2 (by simp only [R.len, lock_eq, choice_lk, xlen, List.length_nil]; simp only [xlen] at g; simp at g ⊢; omega), ?_⟩
  refine ⟨_, hF, ?_⟩
  cbv
  (try simp only [choice_lk])
  rfl
noncomputable def Zf2 : Nat → Option Con := look []
set_option maxRecDepth 100000 in
theorem Zpy (P : Program) (T : Tab P Zf2) (hm : P.follows .mixedOrders = true) : FnVC P Zf2 Zi6 [.t 2] 8 Zcc := by
 intro cargs ccks ce hce hob C hk
 apply Hidden.out
 replace hce : Z9o cargs ccks = some ce := hce
 unfold Z9o at hce
 split at hce; rotate_left; cases hce
 obtain rfl := Option.some.inj hce
 rename_i r1
 refine obh hob fun r hF => ?_
 clear hob hce
 simp only [List.length_cons, List.length_nil, Nat.zero_add, Nat.reduceAdd] at hk
 have hr : cloneR r1 = some r := by rw [lock_eq] at hF; exact hF
 unfold cloneR at hr
 obtain ⟨g, hr⟩ := Z3e hr
 obtain rfl := Option.some.inj hr
 constructor
 cbv
 intro b hb
 cases b with
 | true =>
  constructor
  have hb : lock (@xlen D) r1 = 0 := hb rfl
  simp only [lock_eq, xlen] at hb
  have e : r1 = [] := List.length_eq_zero_iff.1 hb
  refine ⟨_, hF, ?_⟩
  cbv
  exact e
 | false =>
  constructor
  cbv
  refine ⟨obl.2 (by simp only [R.len, lock_eq, choice_lk, xlen, List.length_nil]; simp only [xlen] at g; simp at g ⊢; omega), ?_⟩
  refine ⟨_, hF, ?_⟩
  cbv
  (try simp only [choice_lk])
  rfl
noncomputable def Zab : Nat → Option Con := look [(78, Zde), (79, Zcc)]
set_option maxHeartbeats 20000000 in
set_option maxRecDepth 100000 in
theorem Zxg (P : Program) (T : Tab P Zab) (hm : P.follows .mixedOrders = true) : FnVC P Zab Zk0 [.c 2 5 true] 14 Z74 := by
 intro cargs ccks ce hce hob C hk
 apply Hidden.out
 replace hce : altC (Zd9 cargs ccks) (altC (Zar cargs ccks) (Zex cargs ccks)) = some ce := hce
 replace hce := Zn hce
 rcases hce with hce | hce
 ·unfold Zd9 at hce
  split at hce; rotate_left; cases hce
  obtain rfl := Option.some.inj hce
  rename_i s1 b1 x1 r1
  refine obh hob fun r hF => ?_
  clear hob hce
  simp only [List.length_cons, List.length_nil, Nat.zero_add, Nat.reduceAdd] at hk
  have hr : Z5b s1 b1 x1 r1 = some r := by rw [lock_eq] at hF; exact hF
  unfold Z5b at hr
  constructor
  (try cbv)
  refine cal hr (by rintro (_) _ <;> cbv) ?_
  rintro q1 hx1 hr
  (try dsimp only at hr); constructor; (try cbv)
  refine cal hr (by rintro (_) _ <;> cbv) ?_
  rintro q2 hx2 hr
  (try dsimp only at hr); constructor; (try cbv)
  apply Hidden.out
  exact clf1d56
 replace hce := Zn hce
 rcases hce with hce | hce
 ·unfold Zar at hce
  split at hce; rotate_left; cases hce
  obtain rfl := Option.some.inj hce
  rename_i s1 b1 x1 r1 r2
  refine obh hob fun r hF => ?_
  clear hob hce
  simp only [List.length_cons, List.length_nil, Nat.zero_add, Nat.reduceAdd] at hk
  have hr : Z4f s1 b1 x1 r1 r2 = some r := by rw [lock_eq] at hF; exact hF
  unfold Z4f at hr
  constructor
  (try cbv)
  refine cal hr (by rintro (_) _ <;> cbv) ?_
  rintro q1 hx1 hr
  (try dsimp only at hr); constructor; (try cbv)
  refine cal hr (by rintro (_) _ <;> cbv) ?_
  rintro q2 hx2 hr
  (try dsimp only at hr); constructor; (try cbv)
  apply Hidden.out
  exact clf1d56
 unfold Zex at hce
 split at hce; rotate_left; cases hce
 obtain rfl := Option.some.inj hce
 rename_i s1 b1 r1 r2 x1
 refine obh hob fun r hF => ?_
 clear hob hce
 simp only [List.length_cons, List.length_nil, Nat.zero_add, Nat.reduceAdd] at hk
 have hr : Z2m s1 b1 r1 r2 x1 = some r := by rw [lock_eq] at hF; exact hF
 unfold Z2m at hr
 constructor
 (try cbv)
 refine cal hr (by rintro (_) _ <;> cbv) ?_
 rintro q1 hx1 hr
 (try dsimp only at hr); constructor; (try cbv)
 refine cal hr (by rintro (_) _ <;> cbv) ?_
 rintro q2 hx2 hr
 (try dsimp only at hr); constructor; (try cbv)
 apply Hidden.out
 exact clf1d56
noncomputable def Z9s : Nat → Option Con := look []
set_option maxHeartbeats 20000000 in
set_option maxRecDepth 100000 in
theorem Zsm (P : Program) (T : Tab P Z9s) (hm : P.follows .mixedOrders = true) : FnVC P Z9s Zpf [.c 4 3 true] 9 Zay := by
 intro cargs ccks ce hce hob C hk
 apply Hidden.out
 replace hce : Z8p cargs ccks = some ce := hce
 unfold Z8p at hce
 split at hce; rotate_left; cases hce
 obtain rfl := Option.some.inj hce
 rename_i x1 x2
 refine obh hob fun r hF => ?_
 clear hob hce
 simp only [List.length_cons, List.length_nil, Nat.zero_add, Nat.reduceAdd] at hk
 have hr : Z2h x1 x2 = some r := by rw [lock_eq] at hF; exact hF
 unfold Z2h at hr
 constructor
 (try cbv)
 apply Hidden.out
 exact clacd82
noncomputable def Zfq : Nat → Option Con := look []
set_option maxHeartbeats 20000000 in
set_option maxRecDepth 100000 in
theorem Zsf (P : Program) (T : Tab P Zfq) (hm : P.follows .mixedOrders = true) : FnVC P Zfq Zi2 [.t 2] 6 Zfy := by
 intro cargs ccks ce hce hob C hk
 apply Hidden.out
 replace hce : Zgl cargs ccks = some ce := hce
 unfold Zgl at hce
 split at hce; rotate_left; cases hce
 obtain rfl := Option.some.inj hce
 rename_i x1
 refine obh hob fun r hF => ?_
 clear hob hce
 simp only [List.length_cons, List.length_nil, Nat.zero_add, Nat.reduceAdd] at hk
 have hr : Z2n x1 = some r := by rw [lock_eq] at hF; exact hF
 unfold Z2n at hr
 constructor
 (try cbv)
 apply Hidden.out
 exact clacd82
noncomputable def Zec : Nat → Option Con := look []
set_option maxRecDepth 100000 in
theorem Z100 (P : Program) (T : Tab P Zec) (hm : P.follows .mixedOrders = true) : FnVC P Zec Znr [.t 2] 8 Z99 := by
 intro cargs ccks ce hce hob C hk
 apply Hidden.out
 replace hce : Zc4 cargs ccks = some ce := hce
 unfold Zc4 at hce
 split at hce; rotate_left; cases hce
 obtain rfl := Option.some.inj hce
 rename_i l1
 refine obh hob fun r hF => ?_
 clear hob hce
 simp only [List.length_cons, List.length_nil, Nat.zero_add, Nat.reduceAdd] at hk
 have hr : cloneU64 l1 = some r := by rw [lock_eq] at hF; exact hF
 unfold cloneU64 at hr
 obtain ⟨g, hr⟩ := Z3e hr
 obtain rfl := Option.some.inj hr
 constructor
 cbv
 intro b hb
 cases b with
 | true =>
  constructor
  have hb : lock (@xlen Int) l1 = 0 := hb rfl
  simp only [lock_eq, xlen] at hb
  have e : l1 = [] := List.length_eq_zero_iff.1 hb
  refine ⟨_, hF, ?_⟩
  cbv
  exact e
 | false =>
  constructor
  cbv
  refine ⟨obl.2 (by simp only [R.len, lock_eq, choice_lk, xlen, List.length_nil]; simp only [xlen] at g; simp at g ⊢; omega), ?_⟩
  refine ⟨_, hF, ?_⟩
  cbv
  (try simp only [choice_lk])
  rfl
noncomputable def Zew : Nat → Option Con := look [(89, Z99)]
set_option maxHeartbeats 20000000 in
set_option maxRecDepth 100000 in
theorem Zxs (P : Program) (T : Tab P Zew) (hm : P.follows .mixedOrders = true) : FnVC P Zew Zii [.t 2] 11 Zb9 := by
 intro cargs ccks ce hce hob C hk
 apply Hidden.out
 replace hce : Zbq cargs ccks = some ce := hce
 unfold Zbq at hce
 split at hce; rotate_left; cases hce
 obtain rfl := Option.some.inj hce
 rename_i l1
 refine obh hob fun r hF => ?_
 clear hob hce
 simp only [List.length_cons, List.length_nil, Nat.zero_add, Nat.reduceAdd] at hk
 have hr : Z1x l1 = some r := by rw [lock_eq] at hF; exact hF
 unfold Z1x at hr
 constructor
 (try cbv)
 refine cald hr (by rintro (_) _ <;> cbv) ?_
 rintro m1 hx1 hr
 (try dsimp only at hr); constructor; (try cbv)
 refine Z3 hr fun hr => ?_
 apply Hidden.out
 exact clf1d56
noncomputable def Zek : Nat → Option Con := look [(50, Z74), (60, Zay), (61, Zfy), (62, Zb9)]
set_option maxHeartbeats 20000000 in
set_option maxRecDepth 100000 in
theorem Ztz (P : Program) (T : Tab P Zek) (hm : P.follows .mixedOrders = true) : FnVC P Zek Zm2 [] 53 Z77 := by
 intro cargs ccks ce hce hob C hk
 apply Hidden.out
 replace hce : altC (Zak cargs ccks) (altC (Zdw cargs ccks) (Ze8 cargs ccks)) = some ce := hce
 replace hce := Zn hce
 rcases hce with hce | hce
 ·unfold Zak at hce
  split at hce; rotate_left; cases hce
  obtain rfl := Option.some.inj hce
  rename_i s1 b1 x1 s2 b2 x2 x3 r1
  refine obh hob fun r hF => ?_
  clear hob hce
  simp only [List.length_cons, List.length_nil, Nat.zero_add, Nat.reduceAdd] at hk
  have hr : Z4r s1 b1 x1 s2 b2 x2 x3 r1 = some r := by rw [lock_eq] at hF; exact hF
  unfold Z4r at hr
  constructor
  (try cbv)
  refine cal hr (by rintro (⟨_, _⟩) _ <;> cbv) ?_
  rintro ⟨q1, q2⟩ hx1 hr
  (try dsimp only at hr); constructor; (try cbv)
  refine LoopOK.iter T (drawOK T hm) hr (fun | (i1, l1, n1, r2) => ⟨mkFr [(0, (.ptr 0 0)), (4, (.wsl 2)), (16, (.wsl 1)), (17, (.v (.int .i64 (lock ofN (lock (@xlen D) r1))))), (18, (.v (.int .i64 i1)))] 53 0, [(0, .blk 92 [(.str s1), (.v (.bool b1)), (.wsl 3), (.wsl 4), (.v (.int .i64 x1)), (.v (.int .u64 x3)), (.wsl 5), (.v (.pointer none))]), (1, .row (.row 83 (.st [.str, (.int .u64), (.int .u64), (.int .u64), (.int .i64), .bool]) r1)), (2, .row (.ints 46 .u64 l1)), (3, .row (.row 83 (.st [.str, (.int .u64), (.int .u64), (.int .u64), (.int .i64), .bool]) q1)), (4, .row (.row 96 (.st [(.int .i64), (.int .i64), (.int .i64)]) q2)), (5, .prow 98 tm98 n1 6), (6, .gho tm98 r2 none)], 7⟩) ?_ ?_
  ·exact clf6c1b
  clear hr
  intro x bb1 hr ht1
  obtain ⟨i1, l1, n1, r2⟩ := x
  as_aux_lemma =>
  constructor
  unfold Zf5 at hr
  (try dsimp only at hr)
  (try cbv)
  refine Z2 hr ?_ ?_ <;> intro h1 hr
  ·(try cbv)
   refine Z3 hr fun hr => ?_
   refine cald hr (by rintro (_) _ <;> cbv) ?_
   rintro _ hx8 hr
   (try dsimp only at hr); constructor; (try cbv)
   refine cald hr (by rintro (_) _ <;> cbv) ?_
   rintro _ hx9 hr
   (try dsimp only at hr); constructor; (try cbv)
   refine Z3 hr fun hr => ?_
   refine Z3 hr fun hr => ?_
   apply Hidden.out
   exact cle9b97
  (try cbv)
  refine cal hr (by rintro (⟨_, _⟩) _ <;> cbv) ?_
  rintro ⟨m1, m2⟩ hx10 hr
  (try dsimp only at hr); constructor; (try cbv)
  apply Hidden.out
  exact cle4224
 replace hce := Zn hce
 rcases hce with hce | hce
 ·unfold Zdw at hce
  split at hce; rotate_left; cases hce
  obtain rfl := Option.some.inj hce
  rename_i s1 b1 r1 r2 x1 s2 b2 x2 x3
  refine obh hob fun r hF => ?_
  clear hob hce
  simp only [List.length_cons, List.length_nil, Nat.zero_add, Nat.reduceAdd] at hk
  have hr : Z49 s1 b1 r1 r2 x1 s2 b2 x2 x3 = some r := by rw [lock_eq] at hF; exact hF
  unfold Z49 at hr
  constructor
  (try cbv)
  refine cal hr (by rintro (⟨_, _⟩) _ <;> cbv) ?_
  rintro ⟨q1, q2⟩ hx1 hr
  (try dsimp only at hr); constructor; (try cbv)
  refine LoopOK.iter T (drawOK T hm) hr (fun | (i1, l1, n1, r3) => ⟨mkFr [(0, (.ptr 0 0)), (4, (.wsl 1)), (16, (.rsl (.row 83 (.st [.str, (.int .u64), (.int .u64), (.int .u64), (.int .i64), .bool]) r1))), (17, (.v (.int .i64 (lock ofN (lock (@xlen D) r1))))), (18, (.v (.int .i64 i1)))] 53 0, [(0, .blk 92 [(.str s1), (.v (.bool b1)), (.wsl 2), (.wsl 3), (.v (.int .i64 x1)), (.v (.int .u64 x3)), (.wsl 4), (.v (.pointer none))]), (1, .row (.ints 46 .u64 l1)), (2, .row (.row 83 (.st [.str, (.int .u64), (.int .u64), (.int .u64), (.int .i64), .bool]) q1)), (3, .row (.row 96 (.st [(.int .i64), (.int .i64), (.int .i64)]) q2)), (4, .prow 98 tm98 n1 5), (5, .gho tm98 r3 none)], 6⟩) ?_ ?_
  ·exact clf6c1b
  clear hr
  intro x bb1 hr ht1
  obtain ⟨i1, l1, n1, r3⟩ := x
  as_aux_lemma =>
  constructor
  unfold Z2u at hr
  (try dsimp only at hr)
  (try cbv)
  refine Z2 hr ?_ ?_ <;> intro h1 hr
  ·(try cbv)
   refine Z3 hr fun hr => ?_
   refine cald hr (by rintro (_) _ <;> cbv) ?_
   rintro _ hx8 hr
   (try dsimp only at hr); constructor; (try cbv)
   refine cald hr (by rintro (_) _ <;> cbv) ?_
   rintro _ hx9 hr
   (try dsimp only at hr); constructor; (try cbv)
   refine Z3 hr fun hr => ?_
   refine Z3 hr fun hr => ?_
   apply Hidden.out
   exact cle9b97
  (try cbv)
  refine cal hr (by rintro (⟨_, _⟩) _ <;> cbv) ?_
  rintro ⟨m1, m2⟩ hx10 hr
  (try dsimp only at hr); constructor; (try cbv)
  apply Hidden.out
  exact cle4224
 unfold Ze8 at hce
 split at hce; rotate_left; cases hce; rename_i s1 b1 r1 r2 x1
 split at hce; rotate_left; cases hce
 split at hce; rotate_left; cases hce; rename_i s2 b2 x2 x3
 split at hce; rotate_left; cases hce; rename_i r3
 split at hce; rotate_left; cases hce; rename_i r4
 split at hce; rotate_left; cases hce; rename_i w1 n1
 split at hce; rotate_left; cases hce; rename_i x4 b3
 split at hce; rotate_left; cases hce; rename_i w2 r5
 split at hce; rotate_left; cases hce; rename_i l1
 split at hce; rotate_left; cases hce; rename_i l2
 split at hce
 ·cases hce
 obtain rfl := Option.some.inj hce
 rename_i _ htm
 simp only [Bool.and_eq_true] at htm
 obtain ⟨h1, h2⟩ := htm
 obtain rfl := Zd _ _ h1
 obtain rfl := Zd _ _ h2
 clear h1 h2
 refine obh hob fun r hF => ?_
 clear hob hce
 simp only [List.length_cons, List.length_nil, Nat.zero_add, Nat.reduceAdd] at hk
 have hr : Z2w s1 b1 r1 r2 x1 s2 b2 x2 x3 r3 r4 n1 x4 b3 r5 l1 l2 = some r := by rw [lock_eq] at hF; exact hF
 unfold Z2w at hr
 constructor
 (try cbv)
 refine cal hr (by rintro (⟨_, _⟩) _ <;> cbv) ?_
 rintro ⟨q1, q2⟩ hx1 hr
 (try dsimp only at hr); constructor; (try cbv)
 refine LoopOK.iter T (drawOK T hm) hr (fun | (i1, l3, n2, r6) => ⟨mkFr [(0, (.ptr 0 0)), (4, (.wsl 8)), (16, (.rsl (.row 83 (.st [.str, (.int .u64), (.int .u64), (.int .u64), (.int .i64), .bool]) r1))), (17, (.v (.int .i64 (lock ofN (lock (@xlen D) r1))))), (18, (.v (.int .i64 i1)))] 53 0, [(0, .blk 92 [(.str s1), (.v (.bool b1)), (.wsl 9), (.wsl 10), (.v (.int .i64 x1)), (.v (.int .u64 x3)), (.wsl 11), (.ptr 4 0)]), (1, .row (.row 83 (.st [.str, (.int .u64), (.int .u64), (.int .u64), (.int .i64), .bool]) r3)), (2, .row (.row 96 (.st [(.int .i64), (.int .i64), (.int .i64)]) r4)), (3, .prow 98 tm98 n1 5), (4, .blk 169 [(.wsl 6), (.v (.int .i64 x4)), (.v (.bool b3)), (.wsl 7)]), (5, .gho tm98 r5 none), (6, .row (.ints 46 .u64 l1)), (7, .row (.ints 46 .u64 l2)), (8, .row (.ints 46 .u64 l3)), (9, .row (.row 83 (.st [.str, (.int .u64), (.int .u64), (.int .u64), (.int .i64), .bool]) q1)), (10, .row (.row 96 (.st [(.int .i64), (.int .i64), (.int .i64)]) q2)), (11, .prow 98 tm98 n2 12), (12, .gho tm98 r6 none)], 13⟩) ?_ ?_
 ·exact clf6c1b
 clear hr
 intro x bb1 hr ht1
 obtain ⟨i1, l3, n2, r6⟩ := x
 as_aux_lemma =>
 constructor
 unfold Z70 at hr
 (try dsimp only at hr)
 (try cbv)
 refine Z2 hr ?_ ?_ <;> intro h1 hr
 ·(try cbv)
  refine Z3 hr fun hr => ?_
  refine cald hr (by rintro (_) _ <;> cbv) ?_
  rintro _ hx8 hr
  (try dsimp only at hr); constructor; (try cbv)
  refine cald hr (by rintro (_) _ <;> cbv) ?_
  rintro _ hx9 hr
  (try dsimp only at hr); constructor; (try cbv)
  refine Z3 hr fun hr => ?_
  refine Z3 hr fun hr => ?_
  apply Hidden.out
  exact cle9b97
 (try cbv)
 refine cal hr (by rintro (⟨_, _⟩) _ <;> cbv) ?_
 rintro ⟨m1, m2⟩ hx10 hr
 (try dsimp only at hr); constructor; (try cbv)
 apply Hidden.out
 exact cle4224
noncomputable def Zee : Nat → Option Con := look [(13, Z50), (31, Z77)]
set_option maxHeartbeats 20000000 in
set_option maxRecDepth 100000 in
theorem Zz7 (P : Program) (T : Tab P Zee) (hm : P.follows .mixedOrders = true) : FnVC P Zee Zjk [.t 2] 13 Z8h := by
 intro cargs ccks ce hce hob C hk
 apply Hidden.out
 replace hce : altC (Z9c cargs ccks) (Z9e cargs ccks) = some ce := hce
 replace hce := Zn hce
 rcases hce with hce | hce
 ·unfold Z9c at hce
  split at hce; rotate_left; cases hce
  obtain rfl := Option.some.inj hce
  rename_i s1 b1 x1 r1
  refine obh hob fun r hF => ?_
  clear hob hce
  simp only [List.length_cons, List.length_nil, Nat.zero_add, Nat.reduceAdd] at hk
  have hr : Z3y s1 b1 x1 r1 = some r := by rw [lock_eq] at hF; exact hF
  unfold Z3y at hr
  constructor
  (try cbv)
  refine cal hr (by rintro (_) _ <;> cbv) ?_
  rintro c1 hx1 hr
  (try dsimp only at hr); constructor; (try cbv)
  refine Z9 hr ?_ ?_ <;> intro h1 hr
  ·(try cbv)
   apply Hidden.out
   have e := Option.some.inj hr
   revert e
   rcases r with _ | _ <;> intro e
   ·exact cld41ea
   cases e
  (try cbv)
  refine cal hr (by rintro (⟨_, _, _, _, _, _⟩) _ <;> cbv) ?_
  rintro ⟨q1, q2, k1, q3, m1, m2⟩ hx2 hr
  (try dsimp only at hr); constructor; (try cbv)
  apply Hidden.out
  have e := Option.some.inj hr
  revert e
  rcases r with _ | ⟨u0, u1, u2, u3, u4, u5⟩ <;> intro e
  ·cases e
  exact cla03ba
 unfold Z9e at hce
 split at hce; rotate_left; cases hce
 obtain rfl := Option.some.inj hce
 rename_i s1 b1 r1 r2 x1
 refine obh hob fun r hF => ?_
 clear hob hce
 simp only [List.length_cons, List.length_nil, Nat.zero_add, Nat.reduceAdd] at hk
 have hr : Z2q s1 b1 r1 r2 x1 = some r := by rw [lock_eq] at hF; exact hF
 unfold Z2q at hr
 constructor
 (try cbv)
 refine cal hr (by rintro (_) _ <;> cbv) ?_
 rintro c1 hx1 hr
 (try dsimp only at hr); constructor; (try cbv)
 refine Z9 hr ?_ ?_ <;> intro h1 hr
 ·(try cbv)
  apply Hidden.out
  have e := Option.some.inj hr
  revert e
  rcases r with _ | _ <;> intro e
  ·exact cld41ea
  cases e
 (try cbv)
 refine cal hr (by rintro (⟨_, _, _, _, _, _⟩) _ <;> cbv) ?_
 rintro ⟨q1, q2, k1, q3, m1, m2⟩ hx2 hr
 (try dsimp only at hr); constructor; (try cbv)
 apply Hidden.out
 have e := Option.some.inj hr
 revert e
 rcases r with _ | ⟨u0, u1, u2, u3, u4, u5⟩ <;> intro e
 ·cases e
 exact cla03ba
noncomputable def Zbv : Nat → Option Con := look []
set_option maxHeartbeats 20000000 in
set_option maxRecDepth 100000 in
theorem Zyy (P : Program) (T : Tab P Zbv) (hm : P.follows .mixedOrders = true) : FnVC P Zbv Zp9 [.t 3] 14 Z8z := by
 intro cargs ccks ce hce hob C hk
 apply Hidden.out
 replace hce : Zfg cargs ccks = some ce := hce
 unfold Zfg at hce
 split at hce; rotate_left; cases hce
 obtain rfl := Option.some.inj hce
 rename_i x1 x2 x3 x4
 refine obh hob fun r hF => ?_
 clear hob hce
 simp only [List.length_cons, List.length_nil, Nat.zero_add, Nat.reduceAdd] at hk
 have hr : Z3g x1 x2 x3 x4 = some r := by rw [lock_eq] at hF; exact hF
 unfold Z3g at hr
 constructor
 (try cbv)
 refine Z2 hr ?_ ?_ <;> intro h1 hr
 ·(try cbv)
  apply Hidden.out
  exact clacd82
 (try cbv)
 apply Hidden.out
 exact clacd82
noncomputable def Zdx : Nat → Option Con := look [(81, Z8z)]
set_option maxHeartbeats 20000000 in
set_option maxRecDepth 100000 in
theorem Zuc (P : Program) (T : Tab P Zdx) (hm : P.follows .mixedOrders = true) : FnVC P Zdx Zhx [.t 4] 19 Z9p := by
 intro cargs ccks ce hce hob C hk
 apply Hidden.out
 replace hce : Zfe cargs ccks = some ce := hce
 unfold Zfe at hce
 split at hce; rotate_left; cases hce
 obtain rfl := Option.some.inj hce
 rename_i r1 x1
 refine obh hob fun r hF => ?_
 clear hob hce
 simp only [List.length_cons, List.length_nil, Nat.zero_add, Nat.reduceAdd] at hk
 have hr : Z2i r1 x1 = some r := by rw [lock_eq] at hF; exact hF
 unfold Z2i at hr
 constructor
 (try cbv)
 refine LoopOK.iter T (drawOK T hm) hr (fun | i1 => ⟨mkFr [(0, (.rsl (.row 96 (.st [(.int .i64), (.int .i64), (.int .i64)]) r1))), (1, (.fn 81 [(.ptr 0 0)])), (7, (.v (.int .i64 (lock ofN (lock (@xlen D) r1))))), (8, (.v (.int .i64 i1)))] 19 0, [(0, .blk 3 [(.v (.int .i64 x1))])], 1⟩) ?_ ?_
 ·exact cl2ec4c
 clear hr
 intro x bb1 hr ht1
 obtain ⟨i1, hz⟩ : ∃ z, z = x := ⟨x, rfl⟩
 subst hz
 as_aux_lemma =>
 constructor
 unfold Z5g at hr
 (try dsimp only at hr)
 (try cbv)
 refine Z2 hr ?_ ?_ <;> intro h1 hr
 ·(try cbv)
  refine Z3 hr fun hr => ?_
  refine cal hr (by rintro (_) _ <;> cbv) ?_
  rintro c3 hx3 hr
  (try dsimp only at hr); constructor; (try cbv)
  refine Z2 hr ?_ ?_ <;> intro h1 hr
  ·(try cbv)
   apply Hidden.out
   exact clb5cb2
  (try cbv)
  apply Hidden.out
  exact clba30f
 (try cbv)
 apply Hidden.out
 exact clb5cb2
noncomputable def Zck : Nat → Option Con := look [(80, Z9p)]
set_option maxHeartbeats 20000000 in
set_option maxRecDepth 100000 in
theorem Zx4 (P : Program) (T : Tab P Zck) (hm : P.follows .mixedOrders = true) : FnVC P Zck Zp7 [.t 4] 20 Z7a := by
 intro cargs ccks ce hce hob C hk
 apply Hidden.out
 replace hce : altC (Z9j cargs ccks) (Zfc cargs ccks) = some ce := hce
 replace hce := Zn hce
 rcases hce with hce | hce
 ·unfold Z9j at hce
  split at hce; rotate_left; cases hce
  obtain rfl := Option.some.inj hce
  rename_i x1 x2 r1
  refine obh hob fun r hF => ?_
  clear hob hce
  simp only [List.length_cons, List.length_nil, Nat.zero_add, Nat.reduceAdd] at hk
  have hr : Z35 x1 x2 r1 = some r := by rw [lock_eq] at hF; exact hF
  unfold Z35 at hr
  constructor
  (try cbv)
  refine cal hr (by rintro (_) _ <;> cbv) ?_
  rintro y1 hx1 hr
  (try dsimp only at hr); constructor; (try cbv)
  refine Z2 hr ?_ ?_ <;> intro h1 hr
  ·(try cbv)
   apply Hidden.out
   exact clacd82
  (try cbv)
  refine Z3 hr fun hr => ?_
  apply Hidden.out
  exact clacd82
 unfold Zfc at hce
 split at hce; rotate_left; cases hce
 obtain rfl := Option.some.inj hce
 rename_i r1 x1 x2
 refine obh hob fun r hF => ?_
 clear hob hce
 simp only [List.length_cons, List.length_nil, Nat.zero_add, Nat.reduceAdd] at hk
 have hr : Z36 r1 x1 x2 = some r := by rw [lock_eq] at hF; exact hF
 unfold Z36 at hr
 constructor
 (try cbv)
 refine cal hr (by rintro (_) _ <;> cbv) ?_
 rintro y1 hx1 hr
 (try dsimp only at hr); constructor; (try cbv)
 refine Z2 hr ?_ ?_ <;> intro h1 hr
 ·(try cbv)
  apply Hidden.out
  exact clacd82
 (try cbv)
 refine Z3 hr fun hr => ?_
 apply Hidden.out
 exact clacd82
noncomputable def Zf8 : Nat → Option Con := look []
set_option maxHeartbeats 20000000 in
set_option maxRecDepth 100000 in
theorem Z104 (P : Program) (T : Tab P Zf8) (hm : P.follows .mixedOrders = true) : FnVC P Zf8 Zhm [] 43 Zau := by
 intro cargs ccks ce hce hob C hk
 apply Hidden.out
 replace hce : Zbn cargs ccks = some ce := hce
 unfold Zbn at hce
 split at hce; rotate_left; cases hce
 obtain rfl := Option.some.inj hce
 rename_i x1 x2 x3 r1
 refine obh hob fun r hF => ?_
 clear hob hce
 simp only [List.length_cons, List.length_nil, Nat.zero_add, Nat.reduceAdd] at hk
 have hr : Z4g x1 x2 x3 r1 = some r := by rw [lock_eq] at hF; exact hF
 unfold Z4g at hr
 constructor
 (try cbv)
 refine Z3 hr fun hr => ?_
 refine Z3 hr fun hr => ?_
 refine Z3 hr fun hr => ?_
 refine Z3 hr fun hr => ?_
 apply Hidden.out
 exact clacd82
noncomputable def Zcy : Nat → Option Con := look []
set_option maxHeartbeats 20000000 in
set_option maxRecDepth 100000 in
theorem Zq8 (P : Program) (T : Tab P Zcy) (hm : P.follows .mixedOrders = true) : FnVC P Zcy Zm9 [.t 4] 17 Z5u := by
 intro cargs ccks ce hce hob C hk
 apply Hidden.out
 replace hce : Z94 cargs ccks = some ce := hce
 unfold Z94 at hce
 split at hce; rotate_left; cases hce
 obtain rfl := Option.some.inj hce
 rename_i x1 x2 x3 x4 r1
 refine obh hob fun r hF => ?_
 clear hob hce
 simp only [List.length_cons, List.length_nil, Nat.zero_add, Nat.reduceAdd] at hk
 have hr : Z1m x1 x2 x3 x4 r1 = some r := by rw [lock_eq] at hF; exact hF
 unfold Z1m at hr
 constructor
 (try cbv)
 refine Z54 hr fun hr => ?_
 apply Hidden.out
 exact clacd82
noncomputable def Zfx : Nat → Option Con := look [(91, Zau), (85, Z5u)]
set_option maxHeartbeats 20000000 in
set_option maxRecDepth 100000 in
theorem Z10g (P : Program) (T : Tab P Zfx) (hm : P.follows .mixedOrders = true) : FnVC P Zfx Zj6 [] 35 Z83 := by
 intro cargs ccks ce hce hob C hk
 apply Hidden.out
 replace hce : Zg9 cargs ccks = some ce := hce
 unfold Zg9 at hce
 split at hce; rotate_left; cases hce
 obtain rfl := Option.some.inj hce
 rename_i x1 x2 x3 x4 x5 x6 r1
 refine obh hob fun r hF => ?_
 clear hob hce
 simp only [List.length_cons, List.length_nil, Nat.zero_add, Nat.reduceAdd] at hk
 have hr : Z2j x1 x2 x3 x4 x5 x6 r1 = some r := by rw [lock_eq] at hF; exact hF
 unfold Z2j at hr
 constructor
 (try cbv)
 refine Z2 hr ?_ ?_ <;> intro h1 hr
 ·(try cbv)
  refine cal hr (by rintro (_) _ <;> cbv) ?_
  rintro q1 hx1 hr
  (try dsimp only at hr); constructor; (try cbv)
  refine cald hr (by rintro (_) _ <;> cbv) ?_
  rintro y1 hx2 hr
  (try dsimp only at hr); constructor; (try cbv)
  refine Z3 hr fun hr => ?_
  apply Hidden.out
  exact cldfed9
 (try cbv)
 refine cald hr (by rintro (_) _ <;> cbv) ?_
 rintro y2 hx3 hr
 (try dsimp only at hr); constructor; (try cbv)
 refine Z3 hr fun hr => ?_
 apply Hidden.out
 exact cldfed9
noncomputable def Zdn : Nat → Option Con := look [(67, Z83)]
set_option maxHeartbeats 20000000 in
set_option maxRecDepth 100000 in
theorem Zu0 (P : Program) (T : Tab P Zdn) (hm : P.follows .mixedOrders = true) : FnVC P Zdn Zib [.t 4] 21 Zc6 := by
 intro cargs ccks ce hce hob C hk
 apply Hidden.out
 replace hce : Zbp cargs ccks = some ce := hce
 unfold Zbp at hce
 split at hce; rotate_left; cases hce
 obtain rfl := Option.some.inj hce
 rename_i x1 x2 x3 x4 x5 x6 r1
 refine obh hob fun r hF => ?_
 clear hob hce
 simp only [List.length_cons, List.length_nil, Nat.zero_add, Nat.reduceAdd] at hk
 have hr : Z1j x1 x2 x3 x4 x5 x6 r1 = some r := by rw [lock_eq] at hF; exact hF
 unfold Z1j at hr
 constructor
 (try cbv)
 refine Z2 hr ?_ ?_ <;> intro h1 hr
 ·(try cbv)
  apply Hidden.out
  exact clbfd00
 (try cbv)
 refine cal hr (by rintro (⟨_, _, _⟩) _ <;> cbv) ?_
 rintro ⟨y1, y2, q1⟩ hx1 hr
 (try dsimp only at hr); constructor; (try cbv)
 apply Hidden.out
 exact clbfd00
noncomputable def Z95 : Nat → Option Con := look [(51, Z7a), (52, Zc6)]
set_option maxHeartbeats 20000000 in
set_option maxRecDepth 100000 in
theorem Zqc (P : Program) (T : Tab P Z95) (hm : P.follows .mixedOrders = true) : FnVC P Z95 Zo8 [.c 6 3 true, .t 7] 64 Z81 := by
 intro cargs ccks ce hce hob C hk
 apply Hidden.out
 replace hce : Zd4 cargs ccks = some ce := hce
 unfold Zd4 at hce
 split at hce; rotate_left; cases hce; rename_i x1 x2
 split at hce; rotate_left; cases hce
 split at hce; rotate_left; cases hce; rename_i s1 b1 x3 x4
 split at hce; rotate_left; cases hce; rename_i r1
 split at hce; rotate_left; cases hce; rename_i r2
 split at hce; rotate_left; cases hce; rename_i w1 n1
 split at hce; rotate_left; cases hce; rename_i x5 b2
 split at hce; rotate_left; cases hce; rename_i w2 r3
 split at hce; rotate_left; cases hce; rename_i l1
 split at hce; rotate_left; cases hce; rename_i l2
 split at hce
 ·cases hce
 obtain rfl := Option.some.inj hce
 rename_i _ htm
 simp only [Bool.and_eq_true] at htm
 obtain ⟨h1, h2⟩ := htm
 obtain rfl := Zd _ _ h1
 obtain rfl := Zd _ _ h2
 clear h1 h2
 refine obh hob fun r hF => ?_
 clear hob hce
 simp only [List.length_cons, List.length_nil, Nat.zero_add, Nat.reduceAdd] at hk
 have hr : Z10 x1 x2 s1 b1 x3 x4 r1 r2 n1 x5 b2 r3 l1 l2 = some r := by rw [lock_eq] at hF; exact hF
 unfold Z10 at hr
 constructor
 (try cbv)
 refine Z2 hr ?_ ?_ <;> intro h1 hr
 ·(try cbv)
  apply Hidden.out
  exact clc60e0
 (try cbv)
 refine Z2 hr ?_ ?_ <;> intro h1 hr
 ·(try cbv)
  apply Hidden.out
  exact clc60e0
 (try cbv)
 refine Z2 hr ?_ ?_ <;> intro h1 hr
 ·(try cbv)
  apply Hidden.out
  exact clc60e0
 (try cbv)
 refine Z2 hr ?_ ?_ <;> intro h1 hr
 ·(try cbv)
  apply Hidden.out
  exact clc60e0
 (try cbv)
 refine cald hr (by rintro (_) _ <;> cbv) ?_
 rintro y1 hx1 hr
 (try dsimp only at hr); constructor; (try cbv)
 refine Z3 hr fun hr => ?_
 refine cald hr (by rintro (⟨_, _, _, _⟩) _ <;> cbv) ?_
 rintro ⟨c1, y2, y3, q1⟩ hx2 hr
 (try dsimp only at hr); constructor; (try cbv)
 refine Z9 hr ?_ ?_ <;> intro h1 hr
 ·(try cbv)
  apply Hidden.out
  exact clc60e0
 (try cbv)
 apply Hidden.out
 exact clc60e0
noncomputable def Zfa : Nat → Option Con := look []
set_option maxHeartbeats 20000000 in
set_option maxRecDepth 100000 in
theorem Zqo (P : Program) (T : Tab P Zfa) (hm : P.follows .mixedOrders = true) : FnVC P Zfa Zio [.t 2] 9 Z6i := by
 intro cargs ccks ce hce hob C hk
 apply Hidden.out
 replace hce : Z9b cargs ccks = some ce := hce
 unfold Z9b at hce
 split at hce; rotate_left; cases hce
 obtain rfl := Option.some.inj hce
 rename_i x1 x2 x3 r1
 refine obh hob fun r hF => ?_
 clear hob hce
 simp only [List.length_cons, List.length_nil, Nat.zero_add, Nat.reduceAdd] at hk
 have hr : Z1g x1 x2 x3 r1 = some r := by rw [lock_eq] at hF; exact hF
 unfold Z1g at hr
 constructor
 (try cbv)
 apply Hidden.out
 exact clacd82
noncomputable def Z9y : Nat → Option Con := look [(33, Z6i)]
set_option maxHeartbeats 20000000 in
set_option maxRecDepth 100000 in
theorem Zvn (P : Program) (T : Tab P Z9y) (hm : P.follows .mixedOrders = true) : FnVC P Z9y Zlc [.c 2 3 true, .t 3] 18 Z8b := by
 intro cargs ccks ce hce hob C hk
 apply Hidden.out
 replace hce : Zdz cargs ccks = some ce := hce
 unfold Zdz at hce
 split at hce; rotate_left; cases hce
 obtain rfl := Option.some.inj hce
 rename_i x1 x2 x3 r1
 refine obh hob fun r hF => ?_
 clear hob hce
 simp only [List.length_cons, List.length_nil, Nat.zero_add, Nat.reduceAdd] at hk
 have hr : Z2a x1 x2 x3 r1 = some r := by rw [lock_eq] at hF; exact hF
 unfold Z2a at hr
 constructor
 (try cbv)
 refine cal hr (by rintro (_) _ <;> cbv) ?_
 rintro _ hx1 hr
 (try dsimp only at hr); constructor; (try cbv)
 refine Z2 hr ?_ ?_ <;> intro h1 hr
 ·(try cbv)
  apply Hidden.out
  exact clbfd00
 (try cbv)
 refine Z3 hr fun hr => ?_
 apply Hidden.out
 exact clbfd00
noncomputable def Zdq : Nat → Option Con := look [(83, Z8b)]
set_option maxHeartbeats 20000000 in
set_option maxRecDepth 100000 in
theorem Zzx (P : Program) (T : Tab P Zdq) (hm : P.follows .mixedOrders = true) : FnVC P Zdq Zn0 [.c 4 2 true] 46 Zaq := by
 intro cargs ccks ce hce hob C hk
 apply Hidden.out
 replace hce : Zel cargs ccks = some ce := hce
 unfold Zel at hce
 split at hce; rotate_left; cases hce
 split at hce; rotate_left; cases hce
 split at hce; rotate_left; cases hce; rename_i s1 b1 x1 x2
 split at hce; rotate_left; cases hce; rename_i s2 x3 x4 x5 x6 b2 x7 x8 x9
 split at hce; rotate_left; cases hce; rename_i r1
 split at hce; rotate_left; cases hce; rename_i r2
 split at hce; rotate_left; cases hce; rename_i w1 n1
 split at hce; rotate_left; cases hce; rename_i x10 b3
 split at hce; rotate_left; cases hce; rename_i x11 x12 x13
 split at hce; rotate_left; cases hce; rename_i w2 r3 n2
 split at hce; rotate_left; cases hce; rename_i l1
 split at hce; rotate_left; cases hce; rename_i l2
 split at hce; rotate_left; cases hce; rename_i r4
 split at hce
 ·cases hce
 obtain rfl := Option.some.inj hce
 rename_i _ htm
 simp only [Bool.and_eq_true] at htm
 obtain ⟨h1, h2⟩ := htm
 obtain rfl := Zd _ _ h1
 obtain rfl := Zd _ _ h2
 clear h1 h2
 refine obh hob fun r hF => ?_
 clear hob hce
 simp only [List.length_cons, List.length_nil, Nat.zero_add, Nat.reduceAdd] at hk
 have hr : Z4c s1 b1 x1 x2 s2 x3 x4 x5 x6 b2 x7 x8 x9 r1 r2 n1 x10 b3 x11 x12 x13 r3 n2 l1 l2 r4 = some r := by rw [lock_eq] at hF; exact hF
 unfold Z4c at hr
 constructor
 (try cbv)
 refine cal hr (by rintro (⟨_, _, _, _⟩) _ <;> cbv) ?_
 rintro ⟨y1, y2, y3, c1⟩ hx1 hr
 (try dsimp only at hr); constructor; (try cbv)
 refine Z9 hr ?_ ?_ <;> intro h1 hr
 ·(try cbv)
  apply Hidden.out
  exact clf1d56
 (try cbv)
 refine Z2 hr ?_ ?_ <;> intro h1 hr
 ·(try cbv)
  refine Z9 hr ?_ ?_ <;> intro h1 hr
  ·(try cbv)
   apply Hidden.out
   exact clf1d56
  (try cbv)
  apply Hidden.out
  exact clf1d56
 (try cbv)
 apply Hidden.out
 exact clf1d56
noncomputable def Zcv : Nat → Option Con := look []
set_option maxHeartbeats 20000000 in
set_option maxRecDepth 100000 in
theorem Zzn (P : Program) (T : Tab P Zcv) (hm : P.follows .mixedOrders = true) : FnVC P Zcv Zld [] 22 Z9t := by
 intro cargs ccks ce hce hob C hk
 apply Hidden.out
 replace hce : Z9r cargs ccks = some ce := hce
 unfold Z9r at hce
 split at hce; rotate_left; cases hce
 obtain rfl := Option.some.inj hce
 rename_i x1 b1 l1 l2
 refine obh hob fun r hF => ?_
 clear hob hce
 simp only [List.length_cons, List.length_nil, Nat.zero_add, Nat.reduceAdd] at hk
 have hr : Z1q x1 b1 l1 l2 = some r := by rw [lock_eq] at hF; exact hF
 unfold Z1q at hr
 constructor
 (try cbv)
 refine Z54 hr fun hr => ?_
 apply Hidden.out
 exact clacd82
noncomputable def Zdl : Nat → Option Con := look []
set_option maxHeartbeats 20000000 in
set_option maxRecDepth 100000 in
theorem Z10u (P : Program) (T : Tab P Zdl) (hm : P.follows .mixedOrders = true) : FnVC P Zdl Zi4 [.t 4] 13 Z73 := by
 intro cargs ccks ce hce hob C hk
 apply Hidden.out
 replace hce : Z8q cargs ccks = some ce := hce
 unfold Z8q at hce
 split at hce; rotate_left; cases hce
 obtain rfl := Option.some.inj hce
 rename_i x1 x2
 refine obh hob fun r hF => ?_
 clear hob hce
 simp only [List.length_cons, List.length_nil, Nat.zero_add, Nat.reduceAdd] at hk
 have hr : Z1w x1 x2 = some r := by rw [lock_eq] at hF; exact hF
 unfold Z1w at hr
 constructor
 (try cbv)
 refine Z2 hr ?_ ?_ <;> intro h1 hr
 ·(try cbv)
  apply Hidden.out
  exact clacd82
 (try cbv)
 apply Hidden.out
 exact clacd82
noncomputable def Zbw : Nat → Option Con := look [(99, Z9t), (97, Z73)]
set_option maxHeartbeats 20000000 in
set_option maxRecDepth 100000 in
theorem Ztf (P : Program) (T : Tab P Zbw) (hm : P.follows .mixedOrders = true) : FnVC P Zbw Zmb [.t 4] 71 Zgo := by
 intro cargs ccks ce hce hob C hk
 apply Hidden.out
 replace hce : Zfm cargs ccks = some ce := hce
 unfold Zfm at hce
 split at hce; rotate_left; cases hce
 obtain rfl := Option.some.inj hce
 rename_i x1 b1 x2 b2 l1 l2
 refine obh hob fun r hF => ?_
 clear hob hce
 simp only [List.length_cons, List.length_nil, Nat.zero_add, Nat.reduceAdd] at hk
 have hr : Z2x x1 b1 x2 b2 l1 l2 = some r := by rw [lock_eq] at hF; exact hF
 unfold Z2x at hr
 constructor
 (try cbv)
 refine Z3 hr fun hr => ?_
 refine Z2 hr ?_ ?_ <;> intro h1 hr
 ·(try cbv)
  refine cal hr (by rintro (_) _ <;> cbv) ?_
  rintro y1 hx1 hr
  (try dsimp only at hr); constructor; (try cbv)
  apply Hidden.out
  exact clbfd00
 as_aux_lemma =>
 (try cbv)
 refine Z9 hr ?_ ?_ <;> intro h1 hr
 ·(try cbv)
  refine cal hr (by rintro (_) _ <;> cbv) ?_
  rintro y2 hx2 hr
  (try dsimp only at hr); constructor; (try cbv)
  apply Hidden.out
  exact clbfd00
 (try cbv)
 refine Z9 hr ?_ ?_ <;> intro h1 hr
 ·(try cbv)
  refine Z3 hr fun hr => ?_
  refine cald hr (by rintro (_) _ <;> cbv) ?_
  rintro y3 hx3 hr
  (try dsimp only at hr); constructor; (try cbv)
  refine Z2 hr ?_ ?_ <;> intro h1 hr
  ·(try cbv)
   refine cal hr (by rintro (_) _ <;> cbv) ?_
   rintro y4 hx4 hr
   (try dsimp only at hr); constructor; (try cbv)
   apply Hidden.out
   exact clbfd00
  (try cbv)
  apply Hidden.out
  exact clbfd00
 (try cbv)
 refine Z2 hr ?_ ?_ <;> intro h1 hr
 ·(try cbv)
  refine cal hr (by rintro (_) _ <;> cbv) ?_
  rintro y5 hx5 hr
  (try dsimp only at hr); constructor; (try cbv)
  apply Hidden.out
  exact clbfd00
 (try cbv)
 apply Hidden.out
 exact clbfd00
noncomputable def Z9n : Nat → Option Con := look [(84, Zgo)]
set_option maxHeartbeats 20000000 in
set_option maxRecDepth 100000 in
theorem Zvt (P : Program) (T : Tab P Z9n) (hm : P.follows .mixedOrders = true) : FnVC P Z9n Zol [.t 4] 43 Zet := by
 intro cargs ccks ce hce hob C hk
 apply Hidden.out
 replace hce : Zev cargs ccks = some ce := hce
 unfold Zev at hce
 split at hce; rotate_left; cases hce
 obtain rfl := Option.some.inj hce
 rename_i r1 x1 b1 l1 l2
 refine obh hob fun r hF => ?_
 clear hob hce
 simp only [List.length_cons, List.length_nil, Nat.zero_add, Nat.reduceAdd] at hk
 have hr : Z32 r1 x1 b1 l1 l2 = some r := by rw [lock_eq] at hF; exact hF
 unfold Z32 at hr
 constructor
 (try cbv)
 refine Z9 hr ?_ ?_ <;> intro h1 hr
 ·(try cbv)
  apply Hidden.out
  exact clbfd00
 as_aux_lemma =>
 (try cbv)
 refine Z2 hr ?_ ?_ <;> intro h1 hr
 ·(try cbv)
  apply Hidden.out
  exact clbfd00
 (try cbv)
 refine LoopOK.iter T (drawOK T hm) hr (fun | (i1, i2, b2, l3) => ⟨mkFr [(0, (.ptr 0 0)), (1, (.rsl (.row 133 (.st [(.int .u64), .bool]) r1))), (24, (.v (.int .i64 (lock iadd .i64 (lock ofN (lock (@xlen D) r1)) (1 : Int))))), (25, (.v (.int .i64 i1)))] 43 0, [(0, .blk 169 [(.wsl 1), (.v (.int .i64 i2)), (.v (.bool b2)), (.wsl 2)]), (1, .row (.ints 46 .u64 l1)), (2, .row (.ints 46 .u64 l3))], 3⟩) ?_ ?_
 ·exact clf6c1b
 clear hr
 intro x bb1 hr ht1
 obtain ⟨i1, i2, b2, l3⟩ := x
 as_aux_lemma =>
 constructor
 unfold Z56 at hr
 (try dsimp only at hr)
 (try cbv)
 refine Z2 hr ?_ ?_ <;> intro h1 hr
 ·(try cbv)
  refine Z3 hr fun hr => ?_
  refine cal hr (by rintro (⟨_, _, _, _⟩) _ <;> cbv) ?_
  rintro ⟨c5, y3, c6, m3⟩ hx3 hr
  (try dsimp only at hr); constructor; (try cbv)
  refine Z2 hr ?_ ?_ <;> intro h1 hr
  ·(try cbv)
   apply Hidden.out
   exact clfb273
  (try cbv)
  apply Hidden.out
  exact cle9b97
 (try cbv)
 apply Hidden.out
 exact clfb273
end Go.Proofs.Ytojbpjcfdjakkaa
end
