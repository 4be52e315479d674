/-
  Texts that the row of this claim stands on, one behind the other.
-/
import Derived.Test.YtojbpjcfdjakkaaProg
import Derived.Below
import Derived.WalkLawsBesides
import Derived.WalkSpells
import Derived.Outline
import Derived.IntWalk
import Derived.Test.YtojbpjcfdjakkaaKShaperKeeps1
import Derived.Test.YtojbpjcfdjakkaaKShaperKeeps2
import Derived.Test.YtojbpjcfdjakkaaKShaperKeeps3
import Derived.Test.YtojbpjcfdjakkaaKShaperKeeps4
section
set_option linter.unusedVariables false
set_option maxRecDepth 20000
namespace Go.Proofs.Ytojbpjcfdjakkaa
open Go.RowKit
def r (d : Nat) (o : IOp) : Io := ⟨some d, none, [], o⟩
def r0 (o : IOp) : Io := ⟨none, none, [], o⟩
def Zhy : IC := (.seq (.reg false [r 4 (.mv (.k (.v (.bool false))))])
 (.seq (.reg false [r 20 (.call 8 []), r 5 (.mv (.t 20))])
 (.seq (.seq (.reg false [r 21 (.mv (.t 5)), r 22 (.bnot (.t 21))])
 (.cond (.t 22)
 (.seq (.reg false [r 4 (.mv (.k (.v (.bool false))))])
 .ret)
 .skip))
 (.seq (.reg false [r 23 (.mv (.t 0)), r 24 (.mv (.t 1)), r 25 (.call 9 [(.t 23), (.t 24)]), r 6 (.mv (.t 25))])
 (.seq (.seq (.reg false [r 26 (.mv (.t 6)), r 27 (.bnot (.t 26))])
 (.cond (.t 27)
 (.seq (.reg false [r 4 (.mv (.k (.v (.bool true))))])
 .ret)
 .skip))
 (.seq (.reg false [r 28 (.mv (.t 0)), r 29 (.idx (.t 28) (.k (.v (.int .i64 0))) 5), r 30 (.lda (.t 29) 5), r 31 (.call 10 [(.t 30)]), r 7 (.mv (.t 31))])
 (.seq (.seq (.reg false [r 32 (.mv (.t 7)), r 33 (.isn 0 false (.t 32))])
 (.cond (.t 33)
 (.seq (.reg false [r 4 (.mv (.k (.v (.bool true))))])
 .ret)
 .skip))
 (.seq (.reg false [r 8 (.mv (.k .nsl))])
 (.seq (.reg false [r 34 (.mv (.t 1)), r 35 (.len false (.t 34)), r 36 (.ib .add .i64 (.t 35) (.k (.v (.int .i64 2)))), r 37 (.mks (.ints 3 .i64) 8 (.t 36) (.t 36)), r 9 (.mv (.t 37))])
 (.seq (.seq (.reg false [r 10 (.mv (.k (.v (.int .i64 0))))])
 (.block 0
 (.loop
 (.seq (.seq (.reg false [r 38 (.mv (.t 10)), r 39 (.mv (.t 1)), r 40 (.len false (.t 39)), r 41 (.ib .lt .i64 (.t 38) (.t 40))])
 (.cond (.t 41)
 .skip
 (.exit 0)))
 (.seq (.block 1
 (.seq (.reg false [r 45 (.mv (.t 7)), r 46 (.mv (.t 0)), r 47 (.mv (.t 1)), r 48 (.mv (.t 10)), r 49 (.idx (.t 47) (.t 48) 5), r 50 (.lda (.t 49) 5), r 51 (.call 25 [(.t 45), (.t 46), (.t 50)]), r 44 (.mv (.t 51)), r 52 (.ext (.t 44) 0), r 53 (.ext (.t 44) 1), r 11 (.new 75 [(.v (.int .u64 0)), (.v (.int .i64 0)), (.v (.int .i64 0))]), r 12 (.new 75 [(.v (.int .u64 0)), (.v (.int .i64 0)), (.v (.int .i64 0))]), r0 (.st (.t 11) (.t 52) 3), r0 (.st (.t 12) (.t 53) 3)])
 (.seq (.seq (.reg false [r 54 (.fld (.t 11) 0), r 55 (.ld (.t 54)), r 56 (.ib .gt .u64 (.t 55) (.k (.v (.int .u64 0))))])
 (.cond (.t 56)
 (.seq (.reg false [r 57 (.mv (.t 8)), r 58 (.lda (.t 11) 3), r 59 (.bsl (.row 75 (.st [(.int .u64), (.int .i64), (.int .i64)])) 1 [(.v (.int .u64 0)), (.v (.int .i64 0)), (.v (.int .i64 0))] [(0, 3, (.t 58))]), r 60 (.app (.row 75 (.st [(.int .u64), (.int .i64), (.int .i64)])) 24 (.t 57) (.t 59)), r 8 (.mv (.t 60))])
 (.seq (.reg false [r 61 (.fld (.t 11) 0), r 62 (.ld (.t 61)), r 63 (.mv (.t 8)), r 64 (.len false (.t 63)), r 65 (.conv .u64 (.t 64)), r 66 (.ib .ne .u64 (.t 62) (.t 65))])
 (.cond (.t 66)
 (.seq (.reg false [r 4 (.mv (.k (.v (.bool false))))])
 .ret)
 .skip)))
 .skip))
 (.seq (.seq (.reg false [r 67 (.fld (.t 12) 0), r 68 (.ld (.t 67)), r 69 (.mv (.t 8)), r 70 (.len false (.t 69)), r 71 (.conv .u64 (.t 70)), r 72 (.ib .gt .u64 (.t 68) (.t 71))])
 (.cond (.t 72)
 (.seq (.reg false [r 4 (.mv (.k (.v (.bool false))))])
 .ret)
 .skip))
 (.seq (.seq (.reg false [r 73 (.fld (.t 12) 0), r 74 (.ld (.t 73)), r 75 (.ib .gt .u64 (.t 74) (.k (.v (.int .u64 0))))])
 (.cond (.t 75)
 (.seq (.reg false [r 76 (.mv (.t 9)), r 77 (.fld (.t 12) 0), r 78 (.ld (.t 77)), r 79 (.idx (.t 76) (.t 78) 1), r 80 (.ld (.t 79)), r 81 (.ib .add .i64 (.t 80) (.k (.v (.int .i64 1)))), r 82 (.idx (.t 76) (.t 78) 1), r0 (.st (.t 82) (.t 81) 1)])
 (.seq (.seq (.reg false [r 13 (.mv (.k (.v (.int .i64 0))))])
 (.block 2
 (.loop
 (.seq (.seq (.reg false [r 83 (.mv (.t 13)), r 84 (.fld (.t 12) 0), r 85 (.ld (.t 84)), r 86 (.conv .i64 (.t 85)), r 87 (.ib .sub .i64 (.t 86) (.k (.v (.int .i64 1)))), r 88 (.ib .lt .i64 (.t 83) (.t 87))])
 (.cond (.t 88)
 .skip
 (.exit 2)))
 (.seq (.block 3
 (.seq (.reg true [r 91 (.mv (.t 8)), r 92 (.mv (.t 13)), ⟨some 93, none, [0, 1], .idx (.t 91) (.t 92) 3⟩, ⟨some 94, none, [2, 0, 1], .fld (.t 93) 1⟩, ⟨some 95, none, [3, 2, 0, 1], .ld (.t 94)⟩, r 96 (.fld (.t 12) 1), ⟨some 97, none, [5], .ld (.t 96)⟩, ⟨some 98, none, [4, 3, 2, 0, 1, 6, 5], .ib .eq .i64 (.t 95) (.t 97)⟩, ⟨some 99, none, [7, 4, 3, 2, 0, 1, 6, 5], .mv (.t 98)⟩, ⟨some 100, some (99, true), [8, 7, 4, 3, 2, 0, 1, 6, 5], .mv (.t 9)⟩, ⟨some 101, some (99, true), [8, 7, 4, 3, 2, 0, 1, 6, 5], .mv (.t 13)⟩, ⟨some 102, some (99, true), [10, 8, 7, 4, 3, 2, 0, 1, 6, 5], .ib .add .i64 (.t 101) (.k (.v (.int .i64 1)))⟩, ⟨some 103, some (99, true), [9, 8, 7, 4, 3, 2, 0, 1, 6, 5, 11, 10], .idx (.t 100) (.t 102) 1⟩, ⟨some 104, some (99, true), [12, 9, 8, 7, 4, 3, 2, 0, 1, 6, 5, 11, 10], .ld (.t 103)⟩, ⟨some 105, some (99, true), [13, 12, 9, 8, 7, 4, 3, 2, 0, 1, 6, 5, 11, 10], .ib .eq .i64 (.t 104) (.k (.v (.int .i64 0)))⟩, ⟨some 106, none, [8, 7, 4, 3, 2, 0, 1, 6, 5, 14, 13, 12, 9, 11, 10], .pick (.t 99) (.t 105) (.k (.v (.bool false)))⟩])
 (.cond (.t 106)
 (.seq (.reg false [r 4 (.mv (.k (.v (.bool false))))])
 .ret)
 .skip)))
 (.reg false [r 89 (.mv (.t 13)), r 90 (.ib .add .i64 (.t 89) (.k (.v (.int .i64 1)))), r 13 (.mv (.t 90))]))))))
 (.seq (.reg true [r 107 (.mv (.t 8)), r 108 (.fld (.t 12) 0), ⟨some 109, none, [1], .ld (.t 108)⟩, ⟨some 110, none, [2, 1], .ib .sub .u64 (.t 109) (.k (.v (.int .u64 1)))⟩, ⟨some 111, none, [0, 3, 2, 1], .idx (.t 107) (.t 110) 3⟩, ⟨some 112, none, [4, 0, 3, 2, 1], .lda (.t 111) 3⟩, r 113 (.lda (.t 12) 3), ⟨some 114, none, [5, 4, 0, 3, 2, 1, 6], .steq [0, 0, 0] true (.t 112) (.t 113)⟩, ⟨some 115, none, [7, 5, 4, 0, 3, 2, 1, 6], .mv (.t 114)⟩, ⟨some 116, some (115, false), [8, 7, 5, 4, 0, 3, 2, 1, 6], .mv (.t 9)⟩, ⟨some 117, some (115, false), [8, 7, 5, 4, 0, 3, 2, 1, 6], .fld (.t 12) 0⟩, ⟨some 118, some (115, false), [10, 8, 7, 5, 4, 0, 3, 2, 1, 6], .ld (.t 117)⟩, ⟨some 119, some (115, false), [9, 8, 7, 5, 4, 0, 3, 2, 1, 6, 11, 10], .idx (.t 116) (.t 118) 1⟩, ⟨some 120, some (115, false), [12, 9, 8, 7, 5, 4, 0, 3, 2, 1, 6, 11, 10], .ld (.t 119)⟩, ⟨some 121, some (115, false), [13, 12, 9, 8, 7, 5, 4, 0, 3, 2, 1, 6, 11, 10], .ib .gt .i64 (.t 120) (.k (.v (.int .i64 1)))⟩, ⟨some 122, none, [8, 7, 5, 4, 0, 3, 2, 1, 6, 14, 13, 12, 9, 11, 10], .pick (.t 115) (.k (.v (.bool true))) (.t 121)⟩])
 (.cond (.t 122)
 (.seq (.reg false [r 4 (.mv (.k (.v (.bool false))))])
 .ret)
 .skip))))
 .skip))
 (.seq (.reg false [r 123 (.mv (.t 7)), r 124 (.call 21 [(.t 123)]), r 125 (.part (.t 124) 5 1 false), r 14 (.mv (.t 125))])
 (.seq (.reg false [r 15 (.mv (.k (.v (.int .i64 0))))])
 (.seq (.seq (.reg false [r 16 (.mv (.k (.v (.int .i64 0))))])
 (.block 4
 (.loop
 (.seq (.seq (.reg false [r 126 (.mv (.t 16)), r 127 (.mv (.t 14)), r 128 (.len false (.t 127)), r 129 (.ib .lt .i64 (.t 126) (.t 128))])
 (.cond (.t 129)
 .skip
 (.exit 4)))
 (.seq (.block 5
 (.seq (.reg false [r 17 (.mv (.k (.v (.int .i64 0))))])
 (.block 6
 (.loop
 (.seq (.seq (.reg false [r 132 (.mv (.t 17)), r 133 (.mv (.t 14)), r 134 (.mv (.t 16)), r 135 (.idx (.t 133) (.t 134) 1), r 136 (.ld (.t 135)), r 137 (.len false (.t 136)), r 138 (.ib .lt .i64 (.t 132) (.t 137))])
 (.cond (.t 138)
 .skip
 (.exit 6)))
 (.seq (.block 7
 (.seq (.reg false [r 141 (.mv (.t 14)), r 142 (.mv (.t 16)), r 143 (.idx (.t 141) (.t 142) 1), r 144 (.ld (.t 143)), r 145 (.mv (.t 17)), r 146 (.idx (.t 144) (.t 145) 3), r 147 (.lda (.t 146) 3), r 18 (.new 75 [(.v (.int .u64 0)), (.v (.int .i64 0)), (.v (.int .i64 0))]), r0 (.st (.t 18) (.t 147) 3)])
 (.seq (.reg false [r 148 (.mv (.t 15)), r 149 (.ib .add .i64 (.t 148) (.k (.v (.int .i64 1)))), r 15 (.mv (.t 149))])
 (.seq (.reg true [r 150 (.fld (.t 18) 0), ⟨some 151, none, [0], .ld (.t 150)⟩, ⟨some 152, none, [1, 0], .ib .lt .u64 (.t 151) (.k (.v (.int .u64 1)))⟩, ⟨some 153, none, [2, 1, 0], .mv (.t 152)⟩, ⟨some 154, some (153, false), [3, 2, 1, 0], .fld (.t 18) 0⟩, ⟨some 155, some (153, false), [4, 3, 2, 1, 0], .ld (.t 154)⟩, ⟨some 156, some (153, false), [3, 2, 1, 0], .mv (.t 8)⟩, ⟨some 157, some (153, false), [6, 3, 2, 1, 0], .len false (.t 156)⟩, ⟨some 158, some (153, false), [7, 6, 3, 2, 1, 0], .conv .u64 (.t 157)⟩, ⟨some 159, some (153, false), [5, 4, 3, 2, 1, 0, 8, 7, 6], .ib .gt .u64 (.t 155) (.t 158)⟩, ⟨some 160, none, [3, 2, 1, 0, 9, 5, 4, 8, 7, 6], .pick (.t 153) (.k (.v (.bool true))) (.t 159)⟩, ⟨some 161, none, [10, 3, 2, 1, 0, 9, 5, 4, 8, 7, 6], .mv (.t 160)⟩, ⟨some 162, some (161, false), [11, 10, 3, 2, 1, 0, 9, 5, 4, 8, 7, 6], .mv (.t 8)⟩, ⟨some 163, some (161, false), [11, 10, 3, 2, 1, 0, 9, 5, 4, 8, 7, 6], .fld (.t 18) 0⟩, ⟨some 164, some (161, false), [13, 11, 10, 3, 2, 1, 0, 9, 5, 4, 8, 7, 6], .ld (.t 163)⟩, ⟨some 165, some (161, false), [14, 13, 11, 10, 3, 2, 1, 0, 9, 5, 4, 8, 7, 6], .ib .sub .u64 (.t 164) (.k (.v (.int .u64 1)))⟩, ⟨some 166, some (161, false), [12, 11, 10, 3, 2, 1, 0, 9, 5, 4, 8, 7, 6, 15, 14, 13], .idx (.t 162) (.t 165) 3⟩, ⟨some 167, some (161, false), [16, 12, 11, 10, 3, 2, 1, 0, 9, 5, 4, 8, 7, 6, 15, 14, 13], .lda (.t 166) 3⟩, ⟨some 168, some (161, false), [11, 10, 3, 2, 1, 0, 9, 5, 4, 8, 7, 6], .lda (.t 18) 3⟩, ⟨some 169, some (161, false), [17, 16, 12, 11, 10, 3, 2, 1, 0, 9, 5, 4, 8, 7, 6, 15, 14, 13, 18], .steq [0, 0, 0] true (.t 167) (.t 168)⟩, ⟨some 170, none, [11, 10, 3, 2, 1, 0, 9, 5, 4, 8, 7, 6, 19, 17, 16, 12, 15, 14, 13, 18], .pick (.t 161) (.k (.v (.bool true))) (.t 169)⟩, ⟨some 171, none, [20, 11, 10, 3, 2, 1, 0, 9, 5, 4, 8, 7, 6, 19, 17, 16, 12, 15, 14, 13, 18], .mv (.t 170)⟩, ⟨some 172, some (171, false), [21, 20, 11, 10, 3, 2, 1, 0, 9, 5, 4, 8, 7, 6, 19, 17, 16, 12, 15, 14, 13, 18], .mv (.t 9)⟩, ⟨some 173, some (171, false), [21, 20, 11, 10, 3, 2, 1, 0, 9, 5, 4, 8, 7, 6, 19, 17, 16, 12, 15, 14, 13, 18], .fld (.t 18) 0⟩, ⟨some 174, some (171, false), [23, 21, 20, 11, 10, 3, 2, 1, 0, 9, 5, 4, 8, 7, 6, 19, 17, 16, 12, 15, 14, 13, 18], .ld (.t 173)⟩, ⟨some 175, some (171, false), [22, 21, 20, 11, 10, 3, 2, 1, 0, 9, 5, 4, 8, 7, 6, 19, 17, 16, 12, 15, 14, 13, 18, 24, 23], .idx (.t 172) (.t 174) 1⟩, ⟨some 176, some (171, false), [25, 22, 21, 20, 11, 10, 3, 2, 1, 0, 9, 5, 4, 8, 7, 6, 19, 17, 16, 12, 15, 14, 13, 18, 24, 23], .ld (.t 175)⟩, ⟨some 177, some (171, false), [26, 25, 22, 21, 20, 11, 10, 3, 2, 1, 0, 9, 5, 4, 8, 7, 6, 19, 17, 16, 12, 15, 14, 13, 18, 24, 23], .ib .gt .i64 (.t 176) (.k (.v (.int .i64 0)))⟩, ⟨some 178, none, [21, 20, 11, 10, 3, 2, 1, 0, 9, 5, 4, 8, 7, 6, 19, 17, 16, 12, 15, 14, 13, 18, 27, 26, 25, 22, 24, 23], .pick (.t 171) (.k (.v (.bool true))) (.t 177)⟩, ⟨some 179, none, [28, 21, 20, 11, 10, 3, 2, 1, 0, 9, 5, 4, 8, 7, 6, 19, 17, 16, 12, 15, 14, 13, 18, 27, 26, 25, 22, 24, 23], .mv (.t 178)⟩, ⟨some 180, some (179, false), [29, 28, 21, 20, 11, 10, 3, 2, 1, 0, 9, 5, 4, 8, 7, 6, 19, 17, 16, 12, 15, 14, 13, 18, 27, 26, 25, 22, 24, 23], .mv (.t 17)⟩, ⟨some 181, some (179, false), [30, 29, 28, 21, 20, 11, 10, 3, 2, 1, 0, 9, 5, 4, 8, 7, 6, 19, 17, 16, 12, 15, 14, 13, 18, 27, 26, 25, 22, 24, 23], .ib .gt .i64 (.t 180) (.k (.v (.int .i64 0)))⟩, ⟨some 182, some (179, false), [31, 30, 29, 28, 21, 20, 11, 10, 3, 2, 1, 0, 9, 5, 4, 8, 7, 6, 19, 17, 16, 12, 15, 14, 13, 18, 27, 26, 25, 22, 24, 23], .mv (.t 181)⟩, ⟨some 183, some (182, true), [32, 31, 30, 29, 28, 21, 20, 11, 10, 3, 2, 1, 0, 9, 5, 4, 8, 7, 6, 19, 17, 16, 12, 15, 14, 13, 18, 27, 26, 25, 22, 24, 23], .mv (.t 14)⟩, ⟨some 184, some (182, true), [32, 31, 30, 29, 28, 21, 20, 11, 10, 3, 2, 1, 0, 9, 5, 4, 8, 7, 6, 19, 17, 16, 12, 15, 14, 13, 18, 27, 26, 25, 22, 24, 23], .mv (.t 16)⟩, ⟨some 185, some (182, true), [33, 32, 31, 30, 29, 28, 21, 20, 11, 10, 3, 2, 1, 0, 9, 5, 4, 8, 7, 6, 19, 17, 16, 12, 15, 14, 13, 18, 27, 26, 25, 22, 24, 23, 34], .idx (.t 183) (.t 184) 1⟩, ⟨some 186, some (182, true), [35, 33, 32, 31, 30, 29, 28, 21, 20, 11, 10, 3, 2, 1, 0, 9, 5, 4, 8, 7, 6, 19, 17, 16, 12, 15, 14, 13, 18, 27, 26, 25, 22, 24, 23, 34], .ld (.t 185)⟩, ⟨some 187, some (182, true), [32, 31, 30, 29, 28, 21, 20, 11, 10, 3, 2, 1, 0, 9, 5, 4, 8, 7, 6, 19, 17, 16, 12, 15, 14, 13, 18, 27, 26, 25, 22, 24, 23], .mv (.t 17)⟩, ⟨some 188, some (182, true), [37, 32, 31, 30, 29, 28, 21, 20, 11, 10, 3, 2, 1, 0, 9, 5, 4, 8, 7, 6, 19, 17, 16, 12, 15, 14, 13, 18, 27, 26, 25, 22, 24, 23], .ib .sub .i64 (.t 187) (.k (.v (.int .i64 1)))⟩, ⟨some 189, some (182, true), [36, 35, 33, 32, 31, 30, 29, 28, 21, 20, 11, 10, 3, 2, 1, 0, 9, 5, 4, 8, 7, 6, 19, 17, 16, 12, 15, 14, 13, 18, 27, 26, 25, 22, 24, 23, 34, 38, 37], .idx (.t 186) (.t 188) 3⟩, ⟨some 190, some (182, true), [39, 36, 35, 33, 32, 31, 30, 29, 28, 21, 20, 11, 10, 3, 2, 1, 0, 9, 5, 4, 8, 7, 6, 19, 17, 16, 12, 15, 14, 13, 18, 27, 26, 25, 22, 24, 23, 34, 38, 37], .fld (.t 189) 0⟩, ⟨some 191, some (182, true), [40, 39, 36, 35, 33, 32, 31, 30, 29, 28, 21, 20, 11, 10, 3, 2, 1, 0, 9, 5, 4, 8, 7, 6, 19, 17, 16, 12, 15, 14, 13, 18, 27, 26, 25, 22, 24, 23, 34, 38, 37], .ld (.t 190)⟩, ⟨some 192, some (182, true), [32, 31, 30, 29, 28, 21, 20, 11, 10, 3, 2, 1, 0, 9, 5, 4, 8, 7, 6, 19, 17, 16, 12, 15, 14, 13, 18, 27, 26, 25, 22, 24, 23], .fld (.t 18) 0⟩, ⟨some 193, some (182, true), [42, 32, 31, 30, 29, 28, 21, 20, 11, 10, 3, 2, 1, 0, 9, 5, 4, 8, 7, 6, 19, 17, 16, 12, 15, 14, 13, 18, 27, 26, 25, 22, 24, 23], .ld (.t 192)⟩, ⟨some 194, some (182, true), [41, 40, 39, 36, 35, 33, 32, 31, 30, 29, 28, 21, 20, 11, 10, 3, 2, 1, 0, 9, 5, 4, 8, 7, 6, 19, 17, 16, 12, 15, 14, 13, 18, 27, 26, 25, 22, 24, 23, 34, 38, 37, 43, 42], .ib .ge .u64 (.t 191) (.t 193)⟩, ⟨some 195, some (179, false), [32, 31, 30, 29, 28, 21, 20, 11, 10, 3, 2, 1, 0, 9, 5, 4, 8, 7, 6, 19, 17, 16, 12, 15, 14, 13, 18, 27, 26, 25, 22, 24, 23, 44, 41, 40, 39, 36, 35, 33, 34, 38, 37, 43, 42], .pick (.t 182) (.t 194) (.k (.v (.bool false)))⟩, ⟨some 196, none, [29, 28, 21, 20, 11, 10, 3, 2, 1, 0, 9, 5, 4, 8, 7, 6, 19, 17, 16, 12, 15, 14, 13, 18, 27, 26, 25, 22, 24, 23, 45, 32, 31, 30, 44, 41, 40, 39, 36, 35, 33, 34, 38, 37, 43, 42], .pick (.t 179) (.k (.v (.bool true))) (.t 195)⟩])
 (.cond (.t 196)
 (.seq (.reg false [r 4 (.mv (.k (.v (.bool false))))])
 .ret)
 .skip)))))
 (.reg false [r 139 (.mv (.t 17)), r 140 (.ib .add .i64 (.t 139) (.k (.v (.int .i64 1)))), r 17 (.mv (.t 140))])))))))
 (.reg false [r 130 (.mv (.t 16)), r 131 (.ib .add .i64 (.t 130) (.k (.v (.int .i64 1)))), r 16 (.mv (.t 131))]))))))
 (.seq (.seq (.reg false [r 19 (.mv (.k (.v (.int .i64 0))))])
 (.block 8
 (.loop
 (.seq (.seq (.reg false [r 197 (.mv (.t 19)), r 198 (.mv (.t 8)), r 199 (.len false (.t 198)), r 200 (.ib .lt .i64 (.t 197) (.t 199))])
 (.cond (.t 200)
 .skip
 (.exit 8)))
 (.seq (.block 9
 (.reg false [r 203 (.mv (.t 15)), r 204 (.mv (.t 9)), r 205 (.mv (.t 19)), r 206 (.ib .add .i64 (.t 205) (.k (.v (.int .i64 1)))), r 207 (.idx (.t 204) (.t 206) 1), r 208 (.ld (.t 207)), r 209 (.ib .add .i64 (.t 203) (.t 208)), r 15 (.mv (.t 209))]))
 (.reg false [r 201 (.mv (.t 19)), r 202 (.ib .add .i64 (.t 201) (.k (.v (.int .i64 1)))), r 19 (.mv (.t 202))]))))))
 (.seq (.reg false [r 210 (.mv (.t 15)), r 211 (.mv (.t 8)), r 212 (.len false (.t 211)), r 213 (.ib .ne .i64 (.t 210) (.t 212))])
 (.cond (.t 213)
 (.seq (.reg false [r 4 (.mv (.k (.v (.bool false))))])
 .ret)
 .skip)))))))))))
 (.reg false [r 42 (.mv (.t 10)), r 43 (.ib .add .i64 (.t 42) (.k (.v (.int .i64 1)))), r 10 (.mv (.t 43))]))))))
 (.seq (.reg false [r 4 (.mv (.k (.v (.bool true))))])
 .ret)))))))))))
theorem Zq0 : compF Try.prog Try.f4 = some (Zhy, [.t 4], 214) := by kernel_rfl
-- ros 4 [(some (.row 33 (.st [.str, .bool, (.row 83 (.st [.str, (.int .u64), (.int .u64), (.int .u64), (.int .i64), .bool])), (.st [(.row 96 (.st [(.int .i64), (.int .i64), (.int .i64)])), (.int .i64)])]))), (some (.row 58 (.st [(.int .i64), (.int .i64), (.int .i64), (.int .u64), (.int .u8)])))] TYS [(.row 33 (.st [.str, .bool, (.row 83 (.st [.str, (.int .u64), (.int .u64), (.int .u64), (.int .i64), .bool])), (.st [(.row 96 (.st [(.int .i64), (.int .i64), (.int .i64)])), (.int .i64)])])), (.row 58 (.st [(.int .i64), (.int .i64), (.int .i64), (.int .u64), (.int .u8)]))]

def Zil : IC := (.seq (.reg false [r 0 (.mv (.k (.v (.bool false))))])
 (.seq (.reg false [r 18 (.build [(.str []), (.v (.int .u64 0)), (.v (.int .u64 0)), (.v (.int .u64 0)), (.v (.int .i64 0)), (.v (.bool false))] [(0, 1, (.k (.str [120]))), (1, 1, (.k (.v (.int .u64 1500)))), (2, 1, (.k (.v (.int .u64 10)))), (3, 1, (.k (.v (.int .u64 100)))), (4, 1, (.k (.v (.int .i64 2)))), (5, 1, (.k (.v (.bool true))))]), r 19 (.bsl (.row 83 (.st [.str, (.int .u64), (.int .u64), (.int .u64), (.int .i64), .bool])) 1 [(.str []), (.v (.int .u64 0)), (.v (.int .u64 0)), (.v (.int .u64 0)), (.v (.int .i64 0)), (.v (.bool false))] [(0, 6, (.t 18))]), r 20 (.build [(.str []), (.v (.bool false)), .nsl, .nsl, (.v (.int .i64 0))] [(0, 1, (.k (.str [112]))), (1, 1, (.k (.v (.bool true)))), (2, 1, (.t 19))]), r 1 (.new 33 [(.str []), (.v (.bool false)), .nsl, .nsl, (.v (.int .i64 0))]), r0 (.st (.t 1) (.t 20) 5)])
 (.seq (.reg false [r 21 (.lda (.t 1) 5), r 22 (.call 10 [(.t 21)]), r 2 (.mv (.t 22))])
 (.seq (.seq (.reg false [r 23 (.mv (.t 2)), r 24 (.isn 0 false (.t 23))])
 (.cond (.t 24)
 (.seq (.reg false [r 0 (.mv (.k (.v (.bool false))))])
 .ret)
 .skip))
 (.seq (.reg false [r 26 (.mv (.t 2)), r 27 (.call 26 [(.t 26), (.k (.v (.int .i64 1))), (.k (.v (.int .i64 60)))]), r 25 (.mv (.t 27)), r 28 (.ext (.t 25) 0), r 29 (.ext (.t 25) 1), r 3 (.new 75 [(.v (.int .u64 0)), (.v (.int .i64 0)), (.v (.int .i64 0))]), r0 (.st (.t 3) (.t 28) 3), r 4 (.mv (.t 29))])
 (.seq (.reg false [r 31 (.mv (.t 2)), r 32 (.call 26 [(.t 31), (.k (.v (.int .i64 2))), (.k (.v (.int .i64 70)))]), r 30 (.mv (.t 32)), r 33 (.ext (.t 30) 0), r 34 (.ext (.t 30) 1), r 5 (.new 75 [(.v (.int .u64 0)), (.v (.int .i64 0)), (.v (.int .i64 0))]), r0 (.st (.t 5) (.t 33) 3), r 6 (.mv (.t 34))])
 (.seq (.reg false [r 36 (.mv (.t 2)), r 37 (.call 26 [(.t 36), (.k (.v (.int .i64 1))), (.k (.v (.int .i64 5)))]), r 35 (.mv (.t 37)), r 38 (.ext (.t 35) 0), r 39 (.ext (.t 35) 1), r 7 (.new 75 [(.v (.int .u64 0)), (.v (.int .i64 0)), (.v (.int .i64 0))]), r0 (.st (.t 7) (.t 38) 3), r 8 (.mv (.t 39))])
 (.seq (.reg false [r 41 (.mv (.t 2)), r 42 (.call 29 [(.t 41)]), r 40 (.mv (.t 42)), r 43 (.ext (.t 40) 0), r 44 (.ext (.t 40) 1), r 45 (.ext (.t 40) 2), r 9 (.new 75 [(.v (.int .u64 0)), (.v (.int .i64 0)), (.v (.int .i64 0))]), r0 (.st (.t 9) (.t 43) 3), r 10 (.mv (.t 44)), r 11 (.mv (.t 45))])
 (.seq (.reg false [r 47 (.mv (.t 2)), r 48 (.call 29 [(.t 47)]), r 46 (.mv (.t 48)), r 49 (.ext (.t 46) 0), r 50 (.ext (.t 46) 1), r 51 (.ext (.t 46) 2), r 12 (.new 75 [(.v (.int .u64 0)), (.v (.int .i64 0)), (.v (.int .i64 0))]), r0 (.st (.t 12) (.t 49) 3), r 13 (.mv (.t 50)), r 14 (.mv (.t 51))])
 (.seq (.reg false [r 52 (.mv (.t 2)), r 53 (.call 28 [(.t 52), (.k (.v (.int .u64 3)))])])
 (.seq (.reg false [r 55 (.mv (.t 2)), r 56 (.call 29 [(.t 55)]), r 54 (.mv (.t 56)), r 57 (.ext (.t 54) 0), r 58 (.ext (.t 54) 1), r 59 (.ext (.t 54) 2), r 15 (.new 75 [(.v (.int .u64 0)), (.v (.int .i64 0)), (.v (.int .i64 0))]), r0 (.st (.t 15) (.t 57) 3), r 16 (.mv (.t 58)), r 17 (.mv (.t 59))])
 (.seq (.reg false [r 60 (.fld (.t 3) 0), r 61 (.ld (.t 60)), r 62 (.ib .eq .u64 (.t 61) (.k (.v (.int .u64 1)))), r 63 (.mv (.t 62)), ⟨some 64, some (63, true), [], .mv (.t 4)⟩, ⟨some 65, some (63, true), [], .ib .eq .i64 (.t 64) (.k (.v (.int .i64 0)))⟩, r 66 (.pick (.t 63) (.t 65) (.k (.v (.bool false)))), r 67 (.mv (.t 66)), ⟨some 68, some (67, true), [], .mv (.t 6)⟩, ⟨some 69, some (67, true), [], .ib .eq .i64 (.t 68) (.k (.v (.int .i64 0)))⟩, r 70 (.pick (.t 67) (.t 69) (.k (.v (.bool false)))), r 71 (.mv (.t 70)), ⟨some 72, some (71, true), [], .mv (.t 8)⟩, ⟨some 73, some (71, true), [], .ib .eq .i64 (.t 72) (.k (.v (.int .i64 35)))⟩, r 74 (.pick (.t 71) (.t 73) (.k (.v (.bool false)))), r 75 (.mv (.t 74)), ⟨some 76, some (75, true), [], .lda (.t 9) 3⟩, ⟨some 77, some (75, true), [], .lda (.t 3) 3⟩, ⟨some 78, some (75, true), [], .steq [0, 0, 0] false (.t 76) (.t 77)⟩, r 79 (.pick (.t 75) (.t 78) (.k (.v (.bool false)))), r 80 (.mv (.t 79)), ⟨some 81, some (80, true), [], .mv (.t 10)⟩, ⟨some 82, some (80, true), [], .sb .eq (.t 81) (.k (.str [120]))⟩, r 83 (.pick (.t 80) (.t 82) (.k (.v (.bool false)))), r 84 (.mv (.t 83)), ⟨some 85, some (84, true), [], .mv (.t 11)⟩, r 86 (.pick (.t 84) (.t 85) (.k (.v (.bool false)))), r 87 (.mv (.t 86)), ⟨some 88, some (87, true), [], .mv (.t 14)⟩, ⟨some 89, some (87, true), [], .bnot (.t 88)⟩, r 90 (.pick (.t 87) (.t 89) (.k (.v (.bool false)))), r 91 (.mv (.t 90)), ⟨some 92, some (91, true), [], .mv (.t 17)⟩, r 93 (.pick (.t 91) (.t 92) (.k (.v (.bool false)))), r 94 (.mv (.t 93)), ⟨some 95, some (94, true), [], .fld (.t 15) 1⟩, ⟨some 96, some (94, true), [], .ld (.t 95)⟩, ⟨some 97, some (94, true), [], .ib .eq .i64 (.t 96) (.k (.v (.int .i64 2)))⟩, r 98 (.pick (.t 94) (.t 97) (.k (.v (.bool false)))), r 99 (.mv (.t 98)), ⟨some 100, some (99, true), [], .mv (.t 2)⟩, ⟨some 101, some (99, true), [], .call 14 [(.t 100)]⟩, ⟨some 102, some (99, true), [], .ib .eq .i64 (.t 101) (.k (.v (.int .i64 0)))⟩, r 103 (.pick (.t 99) (.t 102) (.k (.v (.bool false)))), r 104 (.mv (.t 103)), ⟨some 105, some (104, true), [], .mv (.t 2)⟩, ⟨some 106, some (104, true), [], .call 21 [(.t 105)]⟩, ⟨some 107, some (104, true), [], .part (.t 106) 1 1 false⟩, ⟨some 108, some (104, true), [], .len false (.t 107)⟩, ⟨some 109, some (104, true), [], .ib .eq .i64 (.t 108) (.k (.v (.int .i64 1)))⟩, r 110 (.pick (.t 104) (.t 109) (.k (.v (.bool false)))), r 111 (.mv (.t 110)), ⟨some 112, some (111, true), [], .mv (.t 2)⟩, ⟨some 113, some (111, true), [], .lda (.t 1) 5⟩, ⟨some 114, some (111, true), [], .call 15 [(.t 112), (.t 113), (.k (.v (.bool false)))]⟩, ⟨some 115, some (111, true), [], .ib .eq .i64 (.t 114) (.k (.v (.int .i64 0)))⟩, r 116 (.pick (.t 111) (.t 115) (.k (.v (.bool false)))), r 117 (.mv (.t 116)), ⟨some 118, some (117, true), [], .mv (.t 2)⟩, ⟨some 119, some (117, true), [], .call 24 [(.t 118)]⟩, ⟨some 120, some (117, true), [], .part (.t 119) 0 1 false⟩, ⟨some 121, some (117, true), [], .sb .eq (.t 120) (.k (.str [112]))⟩, r 122 (.pick (.t 117) (.t 121) (.k (.v (.bool false)))), r 123 (.mv (.t 122)), ⟨some 124, some (123, true), [], .lda (.t 1) 5⟩, ⟨some 125, some (123, true), [], .call 13 [(.t 124)]⟩, r 126 (.pick (.t 123) (.t 125) (.k (.v (.bool false)))), r 127 (.mv (.t 126)), ⟨some 128, some (127, true), [], .build [(.str []), (.v (.bool false)), .nsl, .nsl, (.v (.int .i64 0))] []⟩, ⟨some 129, some (127, true), [], .call 13 [(.t 128)]⟩, ⟨some 130, some (127, true), [], .bnot (.t 129)⟩, r 131 (.pick (.t 127) (.t 130) (.k (.v (.bool false)))), r 132 (.mv (.t 131)), ⟨some 133, some (132, true), [], .mv (.t 2)⟩, ⟨some 134, some (132, true), [], .build [(.v (.int .u64 0)), .nsl, (.v (.int .i64 0)), (.v (.bool false)), .nsl, .nsl] []⟩, ⟨some 135, some (132, true), [], .call 30 [(.t 133), (.t 134)]⟩, ⟨some 136, some (132, true), [], .ib .eq .i64 (.t 135) (.k (.v (.int .i64 1)))⟩, r 137 (.pick (.t 132) (.t 136) (.k (.v (.bool false)))), r 0 (.mv (.t 137))])
 .ret))))))))))))
theorem Zqn : compF Try.prog Try.f8 = some (Zil, [.t 0], 138) := by kernel_rfl
-- ros 8 [] TYS []

def Ziw : IC := (.seq (.reg false [r 4 (.mv (.k (.v (.bool false))))])
 (.seq (.seq (.reg false [r 5 (.mv (.k (.v (.int .i64 0))))])
 (.block 0
 (.loop
 (.seq (.seq (.reg false [r 6 (.mv (.t 5)), r 7 (.mv (.t 0)), r 8 (.len false (.t 7)), r 9 (.ib .lt .i64 (.t 6) (.t 8))])
 (.cond (.t 9)
 .skip
 (.exit 0)))
 (.seq (.block 1
 (.seq (.reg false [r 12 (.mv (.t 0)), r 13 (.mv (.t 5)), r 14 (.idx (.t 12) (.t 13) 5), r 15 (.fld (.t 14) 2), r 16 (.ld (.t 15)), r 17 (.len false (.t 16)), r 18 (.ib .gt .i64 (.t 17) (.k (.v (.int .i64 20)))), r 19 (.mv (.t 18)), ⟨some 20, some (19, false), [], .mv (.t 0)⟩, ⟨some 21, some (19, false), [], .mv (.t 5)⟩, ⟨some 22, some (19, false), [], .idx (.t 20) (.t 21) 5⟩, ⟨some 23, some (19, false), [], .fld (.t 22) 3⟩, ⟨some 24, some (19, false), [], .fld (.t 23) 0⟩, ⟨some 25, some (19, false), [], .ld (.t 24)⟩, ⟨some 26, some (19, false), [], .len false (.t 25)⟩, ⟨some 27, some (19, false), [], .ib .gt .i64 (.t 26) (.k (.v (.int .i64 40)))⟩, r 28 (.pick (.t 19) (.k (.v (.bool true))) (.t 27))])
 (.cond (.t 28)
 (.seq (.reg false [r 4 (.mv (.k (.v (.bool false))))])
 .ret)
 .skip)))
 (.reg false [r 10 (.mv (.t 5)), r 11 (.ib .add .i64 (.t 10) (.k (.v (.int .i64 1)))), r 5 (.mv (.t 11))]))))))
 (.seq (.reg false [r 29 (.mv (.t 0)), r 30 (.len false (.t 29)), r 31 (.ib .gt .i64 (.t 30) (.k (.v (.int .i64 0)))), r 32 (.mv (.t 31)), ⟨some 33, some (32, true), [], .mv (.t 0)⟩, ⟨some 34, some (32, true), [], .len false (.t 33)⟩, ⟨some 35, some (32, true), [], .ib .le .i64 (.t 34) (.k (.v (.int .i64 10)))⟩, r 36 (.pick (.t 32) (.t 35) (.k (.v (.bool false)))), r 37 (.mv (.t 36)), ⟨some 38, some (37, true), [], .mv (.t 1)⟩, ⟨some 39, some (37, true), [], .len false (.t 38)⟩, ⟨some 40, some (37, true), [], .ib .le .i64 (.t 39) (.k (.v (.int .i64 300)))⟩, r 41 (.pick (.t 37) (.t 40) (.k (.v (.bool false)))), r 4 (.mv (.t 41))])
 .ret)))
theorem Zqy : compF Try.prog Try.f9 = some (Ziw, [.t 4], 42) := by kernel_rfl
-- ros 9 [(some (.row 33 (.st [.str, .bool, (.row 83 (.st [.str, (.int .u64), (.int .u64), (.int .u64), (.int .i64), .bool])), (.st [(.row 96 (.st [(.int .i64), (.int .i64), (.int .i64)])), (.int .i64)])]))), (some (.row 58 (.st [(.int .i64), (.int .i64), (.int .i64), (.int .u64), (.int .u8)])))] TYS [(.row 33 (.st [.str, .bool, (.row 83 (.st [.str, (.int .u64), (.int .u64), (.int .u64), (.int .i64), .bool])), (.st [(.row 96 (.st [(.int .i64), (.int .i64), (.int .i64)])), (.int .i64)])])), (.row 58 (.st [(.int .i64), (.int .i64), (.int .i64), (.int .u64), (.int .u8)]))]

def Zhe : IC := (.seq (.reg false [r 1 (.box 33 5 (.t 0)), r 2 (.mv (.k (.v (.pointer none))))])
 (.seq (.seq (.reg false [r 4 (.lda (.t 1) 5), r 5 (.call 13 [(.t 4)]), r 6 (.bnot (.t 5))])
 (.cond (.t 6)
 (.seq (.reg false [r 2 (.mv (.k (.v (.pointer none))))])
 .ret)
 .skip))
 (.seq (.reg false [r 7 (.build [(.str []), (.v (.bool false)), .nsl, .nsl, (.v (.int .i64 0)), (.v (.int .u64 0)), .nsl, (.v (.pointer none))] []), r 8 (.box 92 8 (.t 7)), r 3 (.mv (.t 8))])
 (.seq (.reg false [r 9 (.mv (.t 3)), r 10 (.lda (.t 1) 5), r 11 (.call 31 [(.t 9), (.t 10)])])
 (.seq (.reg false [r 12 (.mv (.t 3)), r 2 (.mv (.t 12))])
 .ret)))))
theorem Zpg : compF Try.prog Try.f10 = some (Zhe, [.t 2], 13) := by kernel_rfl
-- ros 10 [none] TYS [(.st [.str, .bool, (.row 83 (.st [.str, (.int .u64), (.int .u64), (.int .u64), (.int .i64), .bool])), (.st [(.row 96 (.st [(.int .i64), (.int .i64), (.int .i64)])), (.int .i64)])])]

def Zhg : IC := (.seq (.reg false [r 1 (.box 33 5 (.t 0)), r 2 (.mv (.k (.v (.bool false))))])
 (.seq (.reg false [r 9 (.fld (.t 1) 2), r 10 (.ld (.t 9)), r 11 (.len false (.t 10)), r 3 (.new 3 [(.v (.int .i64 0))]), r0 (.st (.t 3) (.t 11) 1)])
 (.seq (.reg false [r 12 (.mkfn 32 [(.t 3)]), r 4 (.mv (.t 12))])
 (.seq (.seq (.reg false [r 13 (.ld (.t 3)), r 14 (.ib .lt .i64 (.t 13) (.k (.v (.int .i64 1)))), r 15 (.mv (.t 14)), ⟨some 16, some (15, false), [], .ld (.t 3)⟩, ⟨some 17, some (15, false), [], .ib .gt .i64 (.t 16) (.k (.v (.int .i64 8)))⟩, r 18 (.pick (.t 15) (.k (.v (.bool true))) (.t 17)), r 19 (.mv (.t 18)), ⟨some 20, some (19, false), [], .mv (.t 4)⟩, ⟨some 21, some (19, false), [], .fld (.t 1) 3⟩, ⟨some 22, some (19, false), [], .fld (.t 21) 1⟩, ⟨some 23, some (19, false), [], .ld (.t 22)⟩, ⟨some 24, some (19, false), [], .callv (.t 20) [(.t 23)]⟩, ⟨some 25, some (19, false), [], .bnot (.t 24)⟩, r 26 (.pick (.t 19) (.k (.v (.bool true))) (.t 25))])
 (.cond (.t 26)
 (.seq (.reg false [r 2 (.mv (.k (.v (.bool false))))])
 .ret)
 .skip))
 (.seq (.seq (.reg false [r 27 (.fld (.t 1) 2), r 28 (.ld (.t 27)), r 29 (.len false (.t 28)), r 30 (.mv (.k (.v (.int .i64 0))))])
 (.block 0
 (.loop
 (.seq (.reg false [r 31 (.ib .lt .i64 (.t 30) (.t 29))])
 (.seq (.cond (.t 31)
 .skip
 (.exit 0))
 (.seq (.block 1
 (.seq (.reg false [r 32 (.mv (.t 30)), r 33 (.idx (.t 28) (.t 30) 6), r 34 (.lda (.t 33) 6), r 6 (.new 83 [(.str []), (.v (.int .u64 0)), (.v (.int .u64 0)), (.v (.int .u64 0)), (.v (.int .i64 0)), (.v (.bool false))]), r 5 (.mv (.t 32)), r0 (.st (.t 6) (.t 34) 6)])
 (.seq (.reg true [r 35 (.fld (.t 6) 1), ⟨some 36, none, [0], .ld (.t 35)⟩, ⟨some 37, none, [1, 0], .ib .lt .u64 (.t 36) (.k (.v (.int .u64 1500)))⟩, ⟨some 38, none, [2, 1, 0], .mv (.t 37)⟩, ⟨some 39, some (38, false), [3, 2, 1, 0], .fld (.t 6) 4⟩, ⟨some 40, some (38, false), [4, 3, 2, 1, 0], .ld (.t 39)⟩, ⟨some 41, some (38, false), [5, 4, 3, 2, 1, 0], .ib .lt .i64 (.t 40) (.k (.v (.int .i64 1)))⟩, ⟨some 42, none, [3, 2, 1, 0, 6, 5, 4], .pick (.t 38) (.k (.v (.bool true))) (.t 41)⟩, ⟨some 43, none, [7, 3, 2, 1, 0, 6, 5, 4], .mv (.t 42)⟩, ⟨some 44, some (43, false), [8, 7, 3, 2, 1, 0, 6, 5, 4], .fld (.t 6) 4⟩, ⟨some 45, some (43, false), [9, 8, 7, 3, 2, 1, 0, 6, 5, 4], .ld (.t 44)⟩, ⟨some 46, some (43, false), [10, 9, 8, 7, 3, 2, 1, 0, 6, 5, 4], .ib .gt .i64 (.t 45) (.k (.v (.int .i64 64)))⟩, ⟨some 47, none, [8, 7, 3, 2, 1, 0, 6, 5, 4, 11, 10, 9], .pick (.t 43) (.k (.v (.bool true))) (.t 46)⟩, ⟨some 48, none, [12, 8, 7, 3, 2, 1, 0, 6, 5, 4, 11, 10, 9], .mv (.t 47)⟩, ⟨some 49, some (48, false), [13, 12, 8, 7, 3, 2, 1, 0, 6, 5, 4, 11, 10, 9], .mv (.t 5)⟩, ⟨some 50, some (48, false), [14, 13, 12, 8, 7, 3, 2, 1, 0, 6, 5, 4, 11, 10, 9], .ib .gt .i64 (.t 49) (.k (.v (.int .i64 0)))⟩, ⟨some 51, some (48, false), [15, 14, 13, 12, 8, 7, 3, 2, 1, 0, 6, 5, 4, 11, 10, 9], .mv (.t 50)⟩, ⟨some 52, some (51, true), [16, 15, 14, 13, 12, 8, 7, 3, 2, 1, 0, 6, 5, 4, 11, 10, 9], .fld (.t 6) 0⟩, ⟨some 53, some (51, true), [17, 16, 15, 14, 13, 12, 8, 7, 3, 2, 1, 0, 6, 5, 4, 11, 10, 9], .ld (.t 52)⟩, ⟨some 54, some (51, true), [16, 15, 14, 13, 12, 8, 7, 3, 2, 1, 0, 6, 5, 4, 11, 10, 9], .fld (.t 1) 2⟩, ⟨some 55, some (51, true), [19, 16, 15, 14, 13, 12, 8, 7, 3, 2, 1, 0, 6, 5, 4, 11, 10, 9], .ld (.t 54)⟩, ⟨some 56, some (51, true), [16, 15, 14, 13, 12, 8, 7, 3, 2, 1, 0, 6, 5, 4, 11, 10, 9], .mv (.t 5)⟩, ⟨some 57, some (51, true), [21, 16, 15, 14, 13, 12, 8, 7, 3, 2, 1, 0, 6, 5, 4, 11, 10, 9], .ib .sub .i64 (.t 56) (.k (.v (.int .i64 1)))⟩, ⟨some 58, some (51, true), [20, 19, 16, 15, 14, 13, 12, 8, 7, 3, 2, 1, 0, 6, 5, 4, 11, 10, 9, 22, 21], .idx (.t 55) (.t 57) 6⟩, ⟨some 59, some (51, true), [23, 20, 19, 16, 15, 14, 13, 12, 8, 7, 3, 2, 1, 0, 6, 5, 4, 11, 10, 9, 22, 21], .fld (.t 58) 0⟩, ⟨some 60, some (51, true), [24, 23, 20, 19, 16, 15, 14, 13, 12, 8, 7, 3, 2, 1, 0, 6, 5, 4, 11, 10, 9, 22, 21], .ld (.t 59)⟩, ⟨some 61, some (51, true), [18, 17, 16, 15, 14, 13, 12, 8, 7, 3, 2, 1, 0, 6, 5, 4, 11, 10, 9, 25, 24, 23, 20, 19, 22, 21], .sb .le (.t 53) (.t 60)⟩, ⟨some 62, some (48, false), [16, 15, 14, 13, 12, 8, 7, 3, 2, 1, 0, 6, 5, 4, 11, 10, 9, 26, 18, 17, 25, 24, 23, 20, 19, 22, 21], .pick (.t 51) (.t 61) (.k (.v (.bool false)))⟩, ⟨some 63, none, [13, 12, 8, 7, 3, 2, 1, 0, 6, 5, 4, 11, 10, 9, 27, 16, 15, 14, 26, 18, 17, 25, 24, 23, 20, 19, 22, 21], .pick (.t 48) (.k (.v (.bool true))) (.t 62)⟩])
 (.cond (.t 63)
 (.seq (.reg false [r 2 (.mv (.k (.v (.bool false))))])
 .ret)
 .skip))))
 (.reg false [r 64 (.ib .add .i64 (.t 30) (.k (.v (.int .i64 1)))), r 30 (.mv (.t 64))])))))))
 (.seq (.seq (.reg false [r 65 (.fld (.t 1) 3), r 66 (.fld (.t 65) 0), r 67 (.ld (.t 66)), r 68 (.len false (.t 67)), r 69 (.mv (.k (.v (.int .i64 0))))])
 (.block 2
 (.loop
 (.seq (.reg false [r 70 (.ib .lt .i64 (.t 69) (.t 68))])
 (.seq (.cond (.t 70)
 .skip
 (.exit 2))
 (.seq (.block 3
 (.seq (.reg false [r 71 (.idx (.t 67) (.t 69) 3), r 72 (.lda (.t 71) 3), r 8 (.new 96 [(.v (.int .i64 0)), (.v (.int .i64 0)), (.v (.int .i64 0))]), r0 (.st (.t 8) (.t 72) 3)])
 (.seq (.reg false [r 73 (.mv (.t 4)), r 74 (.fld (.t 8) 2), r 75 (.ld (.t 74)), r 76 (.callv (.t 73) [(.t 75)]), r 77 (.bnot (.t 76))])
 (.cond (.t 77)
 (.seq (.reg false [r 2 (.mv (.k (.v (.bool false))))])
 .ret)
 .skip))))
 (.reg false [r 78 (.ib .add .i64 (.t 69) (.k (.v (.int .i64 1)))), r 69 (.mv (.t 78))])))))))
 (.seq (.reg false [r 2 (.mv (.k (.v (.bool true))))])
 .ret)))))))
theorem Zpi : compF Try.prog Try.f13 = some (Zhg, [.t 2], 79) := by kernel_rfl
-- ros 13 [none] TYS [(.st [.str, .bool, (.row 83 (.st [.str, (.int .u64), (.int .u64), (.int .u64), (.int .i64), .bool])), (.st [(.row 96 (.st [(.int .i64), (.int .i64), (.int .i64)])), (.int .i64)])])]

def Zhh : IC := (.seq (.reg false [r 2 (.mv (.k (.v (.int .i64 0))))])
 (.seq (.seq (.reg false [r 6 (.mv (.t 0)), r 7 (.isn 0 false (.t 6))])
 (.cond (.t 7)
 (.seq (.reg false [r 2 (.mv (.k (.v (.int .i64 0))))])
 .ret)
 .skip))
 (.seq (.reg false [r 3 (.mv (.k (.v (.int .i64 0))))])
 (.seq (.seq (.reg false [r 8 (.mv (.t 0)), r 9 (.chk (.t 8)), r 10 (.fld (.t 9) 6), r 11 (.ld (.t 10)), r 12 (.len false (.t 11)), r 13 (.mv (.k (.v (.int .i64 0))))])
 (.block 0
 (.loop
 (.seq (.reg false [r 14 (.ib .lt .i64 (.t 13) (.t 12))])
 (.seq (.cond (.t 14)
 .skip
 (.exit 0))
 (.seq (.block 1
 (.seq (.reg false [r 15 (.idx (.t 11) (.t 13) 1), r 16 (.ld (.t 15)), r 5 (.mv (.t 16))])
 (.reg false [r 17 (.mv (.t 3)), r 18 (.mv (.t 5)), r 19 (.chk (.t 18)), r 20 (.fld (.t 19) 9), r 21 (.ld (.t 20)), r 22 (.call 33 [(.t 21)]), r 23 (.ib .add .i64 (.t 17) (.t 22)), r 3 (.mv (.t 23))])))
 (.reg false [r 24 (.ib .add .i64 (.t 13) (.k (.v (.int .i64 1)))), r 13 (.mv (.t 24))])))))))
 (.seq (.reg false [r 25 (.mv (.t 3)), r 2 (.mv (.t 25))])
 .ret)))))
theorem Zpj : compF Try.prog Try.f14 = some (Zhh, [.t 2], 26) := by kernel_rfl
-- ros 14 [none] TYS [none]

def Zhi : IC := (.seq (.reg false [r 4 (.box 33 5 (.t 1)), r 6 (.mv (.k (.v (.int .i64 0))))])
 (.seq (.block 0
 (.seq (.reg false [r 17 (.mv (.t 0)), r 18 (.isn 0 false (.t 17)), r 19 (.mv (.t 18)), ⟨some 20, some (19, false), [], .lda (.t 4) 5⟩, ⟨some 21, some (19, false), [], .call 13 [(.t 20)]⟩, ⟨some 22, some (19, false), [], .bnot (.t 21)⟩, r 23 (.pick (.t 19) (.k (.v (.bool true))) (.t 22)), r 16 (.mv (.t 23))])
 (.cond (.t 16)
 (.seq (.reg false [r 6 (.mv (.k (.v (.int .i64 1))))])
 .ret)
 (.seq (.reg true [r 25 (.lda (.t 4) 5), r 26 (.mv (.t 0)), ⟨some 27, none, [1], .chk (.t 26)⟩, ⟨some 28, none, [2, 1], .fld (.t 27) 0⟩, ⟨some 29, none, [3, 2, 1], .lda (.t 28) 5⟩, ⟨some 30, none, [0, 4, 3, 2, 1], .call 34 [(.t 25), (.t 29)]⟩, ⟨some 24, none, [5, 0, 4, 3, 2, 1], .mv (.t 30)⟩])
 (.cond (.t 24)
 (.seq (.reg false [r 6 (.mv (.k (.v (.int .i64 0))))])
 .ret)
 .skip)))))
 (.seq (.reg true [r 32 (.mv (.t 0)), ⟨some 33, none, [0], .chk (.t 32)⟩, ⟨some 34, none, [1, 0], .fld (.t 33) 0⟩, ⟨some 35, none, [2, 1, 0], .lda (.t 34) 5⟩, r 36 (.lda (.t 4) 5), r 37 (.mv (.t 0)), ⟨some 38, none, [5], .call 36 [(.t 37)]⟩, ⟨some 39, none, [3, 2, 1, 0, 4, 6, 5], .call 35 [(.t 35), (.t 36), (.t 38)]⟩, ⟨some 31, none, [7, 3, 2, 1, 0, 4, 6, 5], .mv (.t 39)⟩, ⟨some 40, none, [8, 7, 3, 2, 1, 0, 4, 6, 5], .ext (.t 31) 0⟩, ⟨some 41, none, [8, 7, 3, 2, 1, 0, 4, 6, 5], .ext (.t 31) 1⟩, ⟨some 7, none, [9, 8, 7, 3, 2, 1, 0, 4, 6, 5], .mv (.t 40)⟩, ⟨some 8, none, [10, 8, 7, 3, 2, 1, 0, 4, 6, 5, 11, 9], .mv (.t 41)⟩])
 (.seq (.seq (.reg false [r 42 (.mv (.t 8)), r 43 (.bnot (.t 42)), r 44 (.mv (.t 43)), ⟨some 45, some (44, true), [], .mv (.t 2)⟩, ⟨some 46, some (44, true), [], .bnot (.t 45)⟩, r 47 (.pick (.t 44) (.t 46) (.k (.v (.bool false))))])
 (.cond (.t 47)
 (.seq (.reg false [r 6 (.mv (.k (.v (.int .i64 35))))])
 .ret)
 .skip))
 (.seq (.reg false [r 48 (.mkm (.st [(.int .u64), (.int .u64), (.int .u64)])), r 9 (.mv (.t 48))])
 (.seq (.seq (.reg false [r 49 (.mv (.t 0)), r 50 (.chk (.t 49)), r 51 (.fld (.t 50) 6), r 52 (.ld (.t 51)), r 53 (.len false (.t 52)), r 54 (.mv (.k (.v (.int .i64 0))))])
 (.block 1
 (.loop
 (.seq (.reg false [r 55 (.ib .lt .i64 (.t 54) (.t 53))])
 (.seq (.cond (.t 55)
 .skip
 (.exit 1))
 (.seq (.block 2
 (.seq (.reg false [r 56 (.idx (.t 52) (.t 54) 1), r 57 (.ld (.t 56)), r 11 (.mv (.t 57))])
 (.reg true [r 58 (.mv (.t 9)), r 59 (.mv (.t 11)), ⟨some 60, none, [1], .chk (.t 59)⟩, ⟨some 61, none, [2, 1], .fld (.t 60) 0⟩, ⟨some 62, none, [3, 2, 1], .fld (.t 61) 0⟩, ⟨some 63, none, [4, 3, 2, 1], .ld (.t 62)⟩, r 64 (.mv (.t 11)), ⟨some 65, none, [6], .chk (.t 64)⟩, ⟨some 66, none, [7, 6], .fld (.t 65) 6⟩, ⟨some 67, none, [8, 7, 6], .lda (.t 66) 3⟩, ⟨none, none, [0, 5, 4, 3, 2, 1, 9, 8, 7, 6], .mpu (.st [(.int .u64), (.int .u64), (.int .u64)]) (.t 58) (.t 63) (.t 67)⟩])))
 (.reg false [r 68 (.ib .add .i64 (.t 54) (.k (.v (.int .i64 1)))), r 54 (.mv (.t 68))])))))))
 (.seq (.reg false [r 69 (.mv (.t 0)), r 70 (.lda (.t 4) 5), r 71 (.call 31 [(.t 69), (.t 70)])])
 (.seq (.seq (.reg false [r 72 (.mv (.t 0)), r 73 (.chk (.t 72)), r 74 (.fld (.t 73) 6), r 75 (.ld (.t 74)), r 76 (.len false (.t 75)), r 77 (.mv (.k (.v (.int .i64 0))))])
 (.block 3
 (.loop
 (.seq (.reg false [r 78 (.ib .lt .i64 (.t 77) (.t 76))])
 (.seq (.cond (.t 78)
 .skip
 (.exit 3))
 (.seq (.block 4
 (.seq (.reg false [r 79 (.mv (.t 77)), r 80 (.idx (.t 75) (.t 77) 1), r 81 (.ld (.t 80)), r 12 (.mv (.t 79)), r 13 (.mv (.t 81))])
 (.seq (.seq (.reg false [r 83 (.mv (.t 9)), r 84 (.mv (.t 13)), r 85 (.chk (.t 84)), r 86 (.fld (.t 85) 0), r 87 (.fld (.t 86) 0), r 88 (.ld (.t 87)), r 89 (.mpg (.st [(.int .u64), (.int .u64), (.int .u64)]) true (.t 83) (.t 88)), r 82 (.mv (.t 89)), r 90 (.ext (.t 82) 0), r 91 (.ext (.t 82) 1), r 14 (.new 100 [(.v (.int .u64 0)), (.v (.int .u64 0)), (.v (.int .u64 0))]), r0 (.st (.t 14) (.t 90) 3), r 15 (.mv (.t 91))])
 (.seq (.reg false [r 92 (.mv (.t 15))])
 (.cond (.t 92)
 (.reg true [r 93 (.mv (.t 13)), r 94 (.lda (.t 14) 3), r 95 (.mv (.t 13)), ⟨some 96, none, [2], .chk (.t 95)⟩, ⟨some 97, none, [3, 2], .fld (.t 96) 0⟩, ⟨some 98, none, [4, 3, 2], .fld (.t 97) 2⟩, ⟨some 99, none, [5, 4, 3, 2], .ld (.t 98)⟩, r 100 (.mv (.t 13)), ⟨some 101, none, [7], .chk (.t 100)⟩, ⟨some 102, none, [8, 7], .fld (.t 101) 0⟩, ⟨some 103, none, [9, 8, 7], .fld (.t 102) 3⟩, ⟨some 104, none, [10, 9, 8, 7], .ld (.t 103)⟩, ⟨some 105, none, [1, 6, 5, 4, 3, 2, 11, 10, 9, 8, 7], .call 37 [(.t 94), (.t 99), (.t 104)]⟩, ⟨some 106, none, [0, 1, 2, 3, 4, 5, 6, 7, 8, 9, 10, 11, 12], .chk (.t 93)⟩, ⟨some 107, none, [13, 0, 1, 2, 3, 4, 5, 6, 7, 8, 9, 10, 11, 12], .fld (.t 106) 6⟩, ⟨none, none, [14, 13, 0, 1, 2, 3, 4, 5, 6, 7, 8, 9, 10, 11, 12], .st (.t 107) (.t 105) 3⟩])
 .skip)))
 (.reg true [r 108 (.mv (.t 13)), ⟨some 109, none, [0], .chk (.t 108)⟩, ⟨some 110, none, [1, 0], .fld (.t 109) 9⟩, ⟨some 111, none, [2, 1, 0], .ld (.t 110)⟩, r 112 (.mv (.t 7)), r 113 (.mv (.t 12)), ⟨some 114, none, [4, 5], .idx (.t 112) (.t 113) 1⟩, ⟨some 115, none, [6, 4, 5], .ld (.t 114)⟩, ⟨some 116, none, [3, 2, 1, 0, 7, 6, 4, 5], .call 38 [(.t 111), (.t 115)]⟩]))))
 (.reg false [r 117 (.ib .add .i64 (.t 77) (.k (.v (.int .i64 1)))), r 77 (.mv (.t 117))])))))))
 (.seq (.reg false [r 6 (.mv (.k (.v (.int .i64 0))))])
 .ret)))))))))
theorem Zpk : compF Try.prog Try.f15 = some (Zhi, [.t 6], 118) := by kernel_rfl
-- ros 15 [none, none, none] TYS [none, (.st [.str, .bool, (.row 83 (.st [.str, (.int .u64), (.int .u64), (.int .u64), (.int .i64), .bool])), (.st [(.row 96 (.st [(.int .i64), (.int .i64), (.int .i64)])), (.int .i64)])]), .bool]

def Zhj : IC := (.seq (.reg false [r 2 (.new 67 [(.v (.int .u64 0)), .nsl, (.v (.int .i64 0)), (.v (.bool false)), .nsl, .nsl])])
 (.seq (.seq (.reg false [r 6 (.mv (.t 0)), r 7 (.isn 0 false (.t 6))])
 (.cond (.t 7)
 (.seq (.reg false [r 8 (.build [(.v (.int .u64 0)), .nsl, (.v (.int .i64 0)), (.v (.bool false)), .nsl, .nsl] []), r0 (.st (.t 2) (.t 8) 6)])
 .ret)
 .skip))
 (.seq (.reg true [r 9 (.mv (.t 0)), ⟨some 10, none, [0], .chk (.t 9)⟩, ⟨some 11, none, [1, 0], .fld (.t 10) 5⟩, ⟨some 12, none, [2, 1, 0], .ld (.t 11)⟩, r 13 (.mv (.t 0)), ⟨some 14, none, [4], .chk (.t 13)⟩, ⟨some 15, none, [5, 4], .fld (.t 14) 7⟩, ⟨some 16, none, [6, 5, 4], .ld (.t 15)⟩, ⟨some 17, none, [7, 6, 5, 4], .call 48 [(.t 16)]⟩, r 18 (.mv (.t 0)), ⟨some 19, none, [9, 8, 7, 6, 5, 4], .call 36 [(.t 18)]⟩, ⟨some 20, none, [3, 2, 1, 0, 8, 7, 6, 5, 4, 10, 9], .build [(.v (.int .u64 0)), .nsl, (.v (.int .i64 0)), (.v (.bool false)), .nsl, .nsl] [(0, 1, (.t 12)), (2, 3, (.t 17)), (5, 1, (.t 19))]⟩, r 3 (.new 67 [(.v (.int .u64 0)), .nsl, (.v (.int .i64 0)), (.v (.bool false)), .nsl, .nsl]), ⟨none, none, [12, 11, 3, 2, 1, 0, 8, 7, 6, 5, 4, 10, 9], .st (.t 3) (.t 20) 6⟩])
 (.seq (.seq (.reg false [r 21 (.mv (.t 0)), r 22 (.chk (.t 21)), r 23 (.fld (.t 22) 6), r 24 (.ld (.t 23)), r 25 (.len false (.t 24)), r 26 (.mv (.k (.v (.int .i64 0))))])
 (.block 0
 (.loop
 (.seq (.reg false [r 27 (.ib .lt .i64 (.t 26) (.t 25))])
 (.seq (.cond (.t 27)
 .skip
 (.exit 0))
 (.seq (.block 1
 (.seq (.reg false [r 28 (.idx (.t 24) (.t 26) 1), r 29 (.ld (.t 28)), r 5 (.mv (.t 29))])
 (.reg true [r 30 (.fld (.t 3) 1), ⟨some 31, none, [0], .ld (.t 30)⟩, r 32 (.mv (.t 5)), ⟨some 33, none, [2], .chk (.t 32)⟩, ⟨some 34, none, [3, 2], .fld (.t 33) 6⟩, ⟨some 35, none, [4, 3, 2], .fld (.t 34) 2⟩, ⟨some 36, none, [5, 4, 3, 2], .ld (.t 35)⟩, ⟨some 37, none, [6, 5, 4, 3, 2], .bsl (.ints 46 .u64) 1 [(.v (.int .u64 0))] [(0, 1, (.t 36))]⟩, ⟨some 38, none, [1, 0, 7, 6, 5, 4, 3, 2], .app (.ints 46 .u64) 8 (.t 31) (.t 37)⟩, ⟨some 39, none, [0, 1, 2, 3, 4, 5, 6, 7, 8], .fld (.t 3) 1⟩, ⟨none, none, [9, 0, 1, 2, 3, 4, 5, 6, 7, 8], .st (.t 39) (.t 38) 1⟩])))
 (.reg false [r 40 (.ib .add .i64 (.t 26) (.k (.v (.int .i64 1)))), r 26 (.mv (.t 40))])))))))
 (.seq (.reg false [r 41 (.lda (.t 3) 6), r0 (.st (.t 2) (.t 41) 6)])
 .ret)))))
theorem Zpl : compF Try.prog Try.f21 = some (Zhj, [.c 2 6 true], 42) := by kernel_rfl
-- ros 21 [none] TYS [none]

def Zhk : IC := (.seq (.reg false [r 2 (.new 33 [(.str []), (.v (.bool false)), .nsl, .nsl, (.v (.int .i64 0))])])
 (.seq (.seq (.reg false [r 3 (.mv (.t 0)), r 4 (.isn 0 false (.t 3))])
 (.cond (.t 4)
 (.seq (.reg false [r 5 (.build [(.str []), (.v (.bool false)), .nsl, .nsl, (.v (.int .i64 0))] []), r0 (.st (.t 2) (.t 5) 5)])
 .ret)
 .skip))
 (.seq (.reg false [r 6 (.mv (.t 0)), r 7 (.chk (.t 6)), r 8 (.fld (.t 7) 0), r 9 (.lda (.t 8) 5), r 10 (.call 50 [(.t 9)]), r0 (.st (.t 2) (.t 10) 5)])
 .ret)))
theorem Zpm : compF Try.prog Try.f24 = some (Zhk, [.c 2 5 true], 11) := by kernel_rfl
-- ros 24 [none] TYS [none]

def Zhl : IC := (.seq (.reg false [r 5 (.box 58 5 (.t 2)), r 6 (.new 75 [(.v (.int .u64 0)), (.v (.int .i64 0)), (.v (.int .i64 0))]), r 7 (.new 75 [(.v (.int .u64 0)), (.v (.int .i64 0)), (.v (.int .i64 0))])])
 (.seq (.seq (.reg false [r 13 (.fld (.t 5) 0), r 14 (.ld (.t 13))])
 (.block 0
 (.seq (.reg false [r 16 (.ib .eq .i64 (.t 14) (.k (.v (.int .i64 0)))), r 15 (.mv (.t 16))])
 (.cond (.t 15)
 (.seq (.reg false [r 18 (.mv (.t 0)), r 19 (.fld (.t 5) 1), r 20 (.ld (.t 19)), r 21 (.fld (.t 5) 2), r 22 (.ld (.t 21)), r 23 (.call 26 [(.t 18), (.t 20), (.t 22)]), r 17 (.mv (.t 23)), r 24 (.ext (.t 17) 0), r 25 (.ext (.t 17) 1), r 8 (.new 75 [(.v (.int .u64 0)), (.v (.int .i64 0)), (.v (.int .i64 0))]), r0 (.st (.t 8) (.t 24) 3), r 9 (.mv (.t 25))])
 (.seq (.reg false [r 26 (.lda (.t 8) 3), r 27 (.build [(.v (.int .u64 0)), (.v (.int .i64 0)), (.v (.int .i64 0))] []), r0 (.st (.t 6) (.t 26) 3), r0 (.st (.t 7) (.t 27) 3)])
 .ret))
 (.seq (.reg false [r 29 (.ib .eq .i64 (.t 14) (.k (.v (.int .i64 1)))), r 28 (.mv (.t 29))])
 (.cond (.t 28)
 (.reg false [r 30 (.mv (.t 0)), r 31 (.fld (.t 5) 3), r 32 (.ld (.t 31)), r 33 (.call 28 [(.t 30), (.t 32)])])
 (.seq (.reg false [r 35 (.ib .eq .i64 (.t 14) (.k (.v (.int .i64 2)))), r 34 (.mv (.t 35))])
 (.cond (.t 34)
 (.seq (.reg false [r 37 (.mv (.t 0)), r 38 (.call 29 [(.t 37)]), r 36 (.mv (.t 38)), r 39 (.ext (.t 36) 0), r 40 (.ext (.t 36) 1), r 41 (.ext (.t 36) 2), r 10 (.new 75 [(.v (.int .u64 0)), (.v (.int .i64 0)), (.v (.int .i64 0))]), r0 (.st (.t 10) (.t 39) 3), r 11 (.mv (.t 40)), r 12 (.mv (.t 41))])
 (.seq (.reg true [r 42 (.build [(.v (.int .u64 0)), (.v (.int .i64 0)), (.v (.int .i64 0))] []), r 43 (.lda (.t 10) 3), ⟨none, none, [0], .st (.t 6) (.t 42) 3⟩, ⟨none, none, [1, 2, 0], .st (.t 7) (.t 43) 3⟩])
 .ret))
 (.seq (.seq (.reg false [r 45 (.ib .eq .i64 (.t 14) (.k (.v (.int .i64 3)))), r 44 (.mv (.t 45))])
 (.cond (.t 44)
 .skip
 (.reg false [r 46 (.ib .eq .i64 (.t 14) (.k (.v (.int .i64 4)))), r 44 (.mv (.t 46))])))
 (.cond (.t 44)
 (.reg true [r 47 (.mv (.t 0)), r 48 (.mv (.t 1)), r 49 (.fld (.t 5) 4), ⟨some 50, none, [2], .ld (.t 49)⟩, ⟨some 51, none, [3, 2], .conv .i64 (.t 50)⟩, r 52 (.mv (.t 1)), ⟨some 53, none, [5], .len false (.t 52)⟩, ⟨some 54, none, [4, 3, 2, 6, 5], .ib .rem .i64 (.t 51) (.t 53)⟩, ⟨some 55, none, [1, 7, 4, 3, 2, 6, 5], .idx (.t 48) (.t 54) 5⟩, ⟨some 56, none, [8, 1, 7, 4, 3, 2, 6, 5], .lda (.t 55) 5⟩, r 57 (.fld (.t 5) 0), ⟨some 58, none, [10], .ld (.t 57)⟩, ⟨some 59, none, [11, 10], .ib .eq .i64 (.t 58) (.k (.v (.int .i64 4)))⟩, ⟨some 60, none, [0, 9, 8, 1, 7, 4, 3, 2, 6, 5, 12, 11, 10], .call 15 [(.t 47), (.t 56), (.t 59)]⟩])
 (.seq (.reg false [r 62 (.ib .eq .i64 (.t 14) (.k (.v (.int .i64 5)))), r 61 (.mv (.t 62))])
 (.cond (.t 61)
 (.reg false [r 63 (.mv (.t 0)), r 64 (.mv (.t 0)), r 65 (.call 21 [(.t 64)]), r 66 (.call 30 [(.t 63), (.t 65)])])
 .skip))))))))))))
 (.seq (.reg false [r 67 (.build [(.v (.int .u64 0)), (.v (.int .i64 0)), (.v (.int .i64 0))] []), r 68 (.build [(.v (.int .u64 0)), (.v (.int .i64 0)), (.v (.int .i64 0))] []), r0 (.st (.t 6) (.t 67) 3), r0 (.st (.t 7) (.t 68) 3)])
 .ret)))
theorem Zpn : compF Try.prog Try.f25 = some (Zhl, [.c 6 3 true, .c 7 3 true], 69) := by kernel_rfl
-- ros 25 [none, (some (.row 33 (.st [.str, .bool, (.row 83 (.st [.str, (.int .u64), (.int .u64), (.int .u64), (.int .i64), .bool])), (.st [(.row 96 (.st [(.int .i64), (.int .i64), (.int .i64)])), (.int .i64)])]))), none] TYS [none, (.row 33 (.st [.str, .bool, (.row 83 (.st [.str, (.int .u64), (.int .u64), (.int .u64), (.int .i64), .bool])), (.st [(.row 96 (.st [(.int .i64), (.int .i64), (.int .i64)])), (.int .i64)])])), (.st [(.int .i64), (.int .i64), (.int .i64), (.int .u64), (.int .u8)])]

def Zhm : IC := (.seq (.reg false [r 6 (.new 75 [(.v (.int .u64 0)), (.v (.int .i64 0)), (.v (.int .i64 0))]), r 7 (.mv (.k (.v (.int .i64 0))))])
 (.seq (.seq (.reg false [r 9 (.mv (.t 0)), r 10 (.isn 0 false (.t 9)), r 11 (.mv (.t 10)), ⟨some 12, some (11, false), [], .mv (.t 1)⟩, ⟨some 13, some (11, false), [], .ib .lt .i64 (.t 12) (.k (.v (.int .i64 0)))⟩, r 14 (.pick (.t 11) (.k (.v (.bool true))) (.t 13)), r 15 (.mv (.t 14)), ⟨some 16, some (15, false), [], .mv (.t 1)⟩, ⟨some 17, some (15, false), [], .ib .gt .i64 (.t 16) (.k (.v (.int .i64 65535)))⟩, r 18 (.pick (.t 15) (.k (.v (.bool true))) (.t 17)), r 19 (.mv (.t 18)), ⟨some 20, some (19, false), [], .mv (.t 2)⟩, ⟨some 21, some (19, false), [], .ib .lt .i64 (.t 20) (.k (.v (.int .i64 1)))⟩, r 22 (.pick (.t 19) (.k (.v (.bool true))) (.t 21)), r 23 (.mv (.t 22)), ⟨some 24, some (23, false), [], .mv (.t 2)⟩, ⟨some 25, some (23, false), [], .ib .gt .i64 (.t 24) (.k (.v (.int .i64 1500)))⟩, r 26 (.pick (.t 23) (.k (.v (.bool true))) (.t 25))])
 (.cond (.t 26)
 (.seq (.reg false [r 27 (.build [(.v (.int .u64 0)), (.v (.int .i64 0)), (.v (.int .i64 0))] []), r0 (.st (.t 6) (.t 27) 3), r 7 (.mv (.k (.v (.int .i64 1))))])
 .ret)
 .skip))
 (.seq (.reg false [r 28 (.mv (.t 0)), r 29 (.chk (.t 28)), r 30 (.fld (.t 29) 5), r 31 (.ld (.t 30)), r 32 (.ib .add .u64 (.t 31) (.k (.v (.int .u64 1)))), r 33 (.mv (.t 1)), r 34 (.mv (.t 2)), r 35 (.build [(.v (.int .u64 0)), (.v (.int .i64 0)), (.v (.int .i64 0))] [(0, 1, (.t 32)), (1, 1, (.t 33)), (2, 1, (.t 34))]), r 8 (.new 75 [(.v (.int .u64 0)), (.v (.int .i64 0)), (.v (.int .i64 0))]), r0 (.st (.t 8) (.t 35) 3)])
 (.seq (.seq (.reg true [r 36 (.mv (.t 0)), ⟨some 37, none, [0], .chk (.t 36)⟩, ⟨some 38, none, [1, 0], .fld (.t 37) 6⟩, ⟨some 39, none, [2, 1, 0], .ld (.t 38)⟩, r 40 (.mv (.t 0)), ⟨some 41, none, [4], .chk (.t 40)⟩, ⟨some 42, none, [5, 4], .fld (.t 41) 0⟩, ⟨some 43, none, [6, 5, 4], .fld (.t 42) 3⟩, ⟨some 44, none, [7, 6, 5, 4], .lda (.t 43) 2⟩, r 45 (.mv (.t 1)), ⟨some 46, none, [8, 7, 6, 5, 4, 9], .call 51 [(.t 44), (.t 45)]⟩, ⟨some 47, none, [3, 2, 1, 0, 10, 8, 7, 6, 5, 4, 9], .idx (.t 39) (.t 46) 1⟩, ⟨some 48, none, [11, 3, 2, 1, 0, 10, 8, 7, 6, 5, 4, 9], .ld (.t 47)⟩, ⟨some 49, none, [12, 11, 3, 2, 1, 0, 10, 8, 7, 6, 5, 4, 9], .chk (.t 48)⟩, ⟨some 50, none, [13, 12, 11, 3, 2, 1, 0, 10, 8, 7, 6, 5, 4, 9], .fld (.t 49) 9⟩, ⟨some 51, none, [14, 13, 12, 11, 3, 2, 1, 0, 10, 8, 7, 6, 5, 4, 9], .ld (.t 50)⟩, r 52 (.lda (.t 8) 3), ⟨some 53, none, [15, 14, 13, 12, 11, 3, 2, 1, 0, 10, 8, 7, 6, 5, 4, 9, 16], .call 52 [(.t 51), (.t 52)]⟩, ⟨some 54, none, [17, 15, 14, 13, 12, 11, 3, 2, 1, 0, 10, 8, 7, 6, 5, 4, 9, 16], .bnot (.t 53)⟩])
 (.cond (.t 54)
 (.seq (.reg false [r 55 (.build [(.v (.int .u64 0)), (.v (.int .i64 0)), (.v (.int .i64 0))] []), r0 (.st (.t 6) (.t 55) 3), r 7 (.mv (.k (.v (.int .i64 35))))])
 .ret)
 .skip))
 (.seq (.reg false [r 56 (.mv (.t 0)), r 57 (.chk (.t 56)), r 58 (.fld (.t 57) 5), r 59 (.ld (.t 58)), r 60 (.ib .add .u64 (.t 59) (.k (.v (.int .u64 1)))), r 61 (.chk (.t 56)), r 62 (.fld (.t 61) 5), r0 (.st (.t 62) (.t 60) 1)])
 (.seq (.reg false [r 63 (.lda (.t 8) 3), r0 (.st (.t 6) (.t 63) 3), r 7 (.mv (.k (.v (.int .i64 0))))])
 .ret))))))
theorem Zpo : compF Try.prog Try.f26 = some (Zhm, [.c 6 3 true, .t 7], 64) := by kernel_rfl
-- ros 26 [none, none, none] TYS [none, (.int .i64), (.int .i64)]

def Zhn : IC := (.seq (.seq (.reg false [r 6 (.mv (.t 0)), r 7 (.isn 0 false (.t 6))])
 (.cond (.t 7)
 .ret
 .skip))
 (.seq (.reg false [r 8 (.mv (.t 0)), r 9 (.chk (.t 8)), r 10 (.fld (.t 9) 6), r 11 (.ld (.t 10)), r 12 (.len false (.t 11)), r 13 (.mv (.k (.v (.int .i64 0))))])
 (.block 0
 (.loop
 (.seq (.reg false [r 14 (.ib .lt .i64 (.t 13) (.t 12))])
 (.seq (.cond (.t 14)
 .skip
 (.exit 0))
 (.seq (.block 1
 (.seq (.reg false [r 15 (.idx (.t 11) (.t 13) 1), r 16 (.ld (.t 15)), r 5 (.mv (.t 16))])
 (.reg false [r 17 (.mv (.t 5)), r 18 (.mv (.t 5)), r 19 (.chk (.t 18)), r 20 (.fld (.t 19) 6), r 21 (.lda (.t 20) 3), r 22 (.mv (.t 1)), r 23 (.call 53 [(.t 21), (.t 22)]), r 24 (.chk (.t 17)), r 25 (.fld (.t 24) 6), r0 (.st (.t 25) (.t 23) 3)])))
 (.reg false [r 26 (.ib .add .i64 (.t 13) (.k (.v (.int .i64 1)))), r 13 (.mv (.t 26))]))))))))
theorem Zpp : compF Try.prog Try.f28 = some (Zhn, [], 27) := by kernel_rfl
-- ros 28 [none, none] TYS [none, (.int .u64)]

def Zho : IC := (.seq (.reg false [r 2 (.new 75 [(.v (.int .u64 0)), (.v (.int .i64 0)), (.v (.int .i64 0))]), r 3 (.mv (.k (.str []))), r 4 (.mv (.k (.v (.bool false))))])
 (.seq (.seq (.reg false [r 12 (.mv (.t 0)), r 13 (.isn 0 false (.t 12))])
 (.cond (.t 13)
 (.seq (.reg false [r 14 (.build [(.v (.int .u64 0)), (.v (.int .i64 0)), (.v (.int .i64 0))] []), r0 (.st (.t 2) (.t 14) 3), r 3 (.mv (.k (.str []))), r 4 (.mv (.k (.v (.bool false))))])
 .ret)
 .skip))
 (.seq (.reg false [r 5 (.mv (.k .nsl))])
 (.seq (.seq (.reg false [r 15 (.mv (.t 0)), r 16 (.chk (.t 15)), r 17 (.fld (.t 16) 6), r 18 (.ld (.t 17)), r 19 (.len false (.t 18)), r 20 (.mv (.k (.v (.int .i64 0))))])
 (.block 0
 (.loop
 (.seq (.reg false [r 21 (.ib .lt .i64 (.t 20) (.t 19))])
 (.seq (.cond (.t 21)
 .skip
 (.exit 0))
 (.seq (.block 1
 (.seq (.reg false [r 22 (.idx (.t 18) (.t 20) 1), r 23 (.ld (.t 22)), r 7 (.mv (.t 23))])
 (.reg false [r 24 (.mv (.t 5)), r 25 (.mv (.t 0)), r 26 (.mv (.t 7)), r 27 (.call 54 [(.t 25), (.t 26)]), r 28 (.bsl (.row 133 (.st [(.int .u64), .bool])) 1 [(.v (.int .u64 0)), (.v (.bool false))] [(0, 2, (.t 27))]), r 29 (.app (.row 133 (.st [(.int .u64), .bool])) 16 (.t 24) (.t 28)), r 5 (.mv (.t 29))])))
 (.reg false [r 30 (.ib .add .i64 (.t 20) (.k (.v (.int .i64 1)))), r 20 (.mv (.t 30))])))))))
 (.seq (.reg false [r 31 (.mv (.t 0)), r 32 (.chk (.t 31)), r 33 (.fld (.t 32) 7), r 34 (.ld (.t 33)), r 35 (.mv (.t 5)), r 36 (.call 55 [(.t 34), (.t 35)]), r 8 (.mv (.t 36))])
 (.seq (.seq (.reg false [r 37 (.mv (.t 8)), r 38 (.ib .lt .i64 (.t 37) (.k (.v (.int .i64 0))))])
 (.cond (.t 38)
 (.seq (.reg false [r 39 (.build [(.v (.int .u64 0)), (.v (.int .i64 0)), (.v (.int .i64 0))] []), r0 (.st (.t 2) (.t 39) 3), r 3 (.mv (.k (.str []))), r 4 (.mv (.k (.v (.bool false))))])
 .ret)
 .skip))
 (.seq (.reg false [r 40 (.mv (.t 0)), r 41 (.chk (.t 40)), r 42 (.fld (.t 41) 6), r 43 (.ld (.t 42)), r 44 (.mv (.t 8)), r 45 (.idx (.t 43) (.t 44) 1), r 46 (.ld (.t 45)), r 9 (.mv (.t 46))])
 (.seq (.reg false [r 48 (.mv (.t 9)), r 49 (.chk (.t 48)), r 50 (.fld (.t 49) 9), r 51 (.ld (.t 50)), r 52 (.call 56 [(.t 51)]), r 47 (.mv (.t 52)), r 53 (.ext (.t 47) 0), r 54 (.ext (.t 47) 1), r 10 (.new 75 [(.v (.int .u64 0)), (.v (.int .i64 0)), (.v (.int .i64 0))]), r0 (.st (.t 10) (.t 53) 3), r 11 (.mv (.t 54))])
 (.seq (.seq (.reg false [r 55 (.mv (.t 9)), r 56 (.chk (.t 55)), r 57 (.fld (.t 56) 0), r 58 (.fld (.t 57) 5), r 59 (.ld (.t 58))])
 (.cond (.t 59)
 (.reg true [r 61 (.mv (.t 9)), r 62 (.mv (.t 9)), ⟨some 63, none, [1], .chk (.t 62)⟩, ⟨some 64, none, [2, 1], .fld (.t 63) 6⟩, ⟨some 65, none, [3, 2, 1], .lda (.t 64) 3⟩, r 66 (.fld (.t 10) 2), ⟨some 67, none, [5], .ld (.t 66)⟩, ⟨some 68, none, [6, 5], .conv .u64 (.t 67)⟩, ⟨some 69, none, [4, 3, 2, 1, 7, 6, 5], .call 57 [(.t 65), (.t 68)]⟩, ⟨some 60, none, [8, 4, 3, 2, 1, 7, 6, 5], .mv (.t 69)⟩, ⟨some 70, none, [9, 8, 4, 3, 2, 1, 7, 6, 5], .ext (.t 60) 0⟩, ⟨some 71, none, [9, 8, 4, 3, 2, 1, 7, 6, 5], .ext (.t 60) 1⟩, ⟨some 72, none, [0, 1, 2, 3, 4, 5, 6, 7, 8, 9, 10], .chk (.t 61)⟩, ⟨some 73, none, [12, 0, 1, 2, 3, 4, 5, 6, 7, 8, 9, 10], .fld (.t 72) 6⟩, ⟨none, none, [13, 12, 0, 1, 2, 3, 4, 5, 6, 7, 8, 9, 10], .st (.t 73) (.t 70) 3⟩])
 .skip))
 (.seq (.reg true [r 74 (.lda (.t 10) 3), r 75 (.mv (.t 9)), ⟨some 76, none, [1], .chk (.t 75)⟩, ⟨some 77, none, [2, 1], .fld (.t 76) 0⟩, ⟨some 78, none, [3, 2, 1], .fld (.t 77) 0⟩, ⟨some 79, none, [4, 3, 2, 1], .ld (.t 78)⟩, ⟨none, none, [0], .st (.t 2) (.t 74) 3⟩, ⟨some 3, none, [5, 4, 3, 2, 1, 6, 0], .mv (.t 79)⟩, ⟨some 4, none, [7, 5, 4, 3, 2, 1, 6, 0], .mv (.k (.v (.bool true)))⟩])
 .ret))))))))))
theorem Zpq : compF Try.prog Try.f29 = some (Zho, [.c 2 3 true, .t 3, .t 4], 80) := by kernel_rfl
-- ros 29 [none] TYS [none]

def Zhp : IC := (.seq (.reg false [r 3 (.box 67 6 (.t 1)), r 4 (.mv (.k (.v (.int .i64 0))))])
 (.seq (.seq (.reg true [r 7 (.mv (.t 0)), ⟨some 8, none, [0], .isn 0 false (.t 7)⟩, ⟨some 9, none, [1, 0], .mv (.t 8)⟩, ⟨some 10, some (9, false), [2, 1, 0], .lda (.t 3) 6⟩, ⟨some 11, some (9, false), [3, 2, 1, 0], .call 58 [(.t 10)]⟩, ⟨some 12, some (9, false), [4, 3, 2, 1, 0], .bnot (.t 11)⟩, ⟨some 13, none, [2, 1, 0, 5, 4, 3], .pick (.t 9) (.k (.v (.bool true))) (.t 12)⟩, ⟨some 14, none, [6, 2, 1, 0, 5, 4, 3], .mv (.t 13)⟩, ⟨some 15, some (14, false), [7, 6, 2, 1, 0, 5, 4, 3], .fld (.t 3) 1⟩, ⟨some 16, some (14, false), [8, 7, 6, 2, 1, 0, 5, 4, 3], .ld (.t 15)⟩, ⟨some 17, some (14, false), [9, 8, 7, 6, 2, 1, 0, 5, 4, 3], .len false (.t 16)⟩, ⟨some 18, some (14, false), [7, 6, 2, 1, 0, 5, 4, 3], .mv (.t 0)⟩, ⟨some 19, some (14, false), [11, 7, 6, 2, 1, 0, 5, 4, 3], .chk (.t 18)⟩, ⟨some 20, some (14, false), [12, 11, 7, 6, 2, 1, 0, 5, 4, 3], .fld (.t 19) 6⟩, ⟨some 21, some (14, false), [13, 12, 11, 7, 6, 2, 1, 0, 5, 4, 3], .ld (.t 20)⟩, ⟨some 22, some (14, false), [14, 13, 12, 11, 7, 6, 2, 1, 0, 5, 4, 3], .len false (.t 21)⟩, ⟨some 23, some (14, false), [10, 9, 8, 7, 6, 2, 1, 0, 5, 4, 3, 15, 14, 13, 12, 11], .ib .ne .i64 (.t 17) (.t 22)⟩, ⟨some 24, none, [7, 6, 2, 1, 0, 5, 4, 3, 16, 10, 9, 8, 15, 14, 13, 12, 11], .pick (.t 14) (.k (.v (.bool true))) (.t 23)⟩])
 (.cond (.t 24)
 (.seq (.reg false [r 4 (.mv (.k (.v (.int .i64 1))))])
 .ret)
 .skip))
 (.seq (.reg false [r 25 (.mv (.t 0)), r 26 (.fld (.t 3) 0), r 27 (.ld (.t 26)), r 28 (.chk (.t 25)), r 29 (.fld (.t 28) 5), r0 (.st (.t 29) (.t 27) 1)])
 (.seq (.reg true [r 30 (.mv (.t 0)), ⟨some 31, none, [0], .chk (.t 30)⟩, ⟨some 32, none, [1, 0], .fld (.t 31) 7⟩, ⟨some 33, none, [2, 1, 0], .ld (.t 32)⟩, r 34 (.fld (.t 3) 2), ⟨some 35, none, [4], .lda (.t 34) 3⟩, ⟨some 36, none, [3, 2, 1, 0, 5, 4], .call 59 [(.t 33), (.t 35)]⟩])
 (.seq (.seq (.reg false [r 37 (.mv (.t 0)), r 38 (.chk (.t 37)), r 39 (.fld (.t 38) 6), r 40 (.ld (.t 39)), r 41 (.len false (.t 40)), r 42 (.mv (.k (.v (.int .i64 0))))])
 (.block 0
 (.loop
 (.seq (.reg false [r 43 (.ib .lt .i64 (.t 42) (.t 41))])
 (.seq (.cond (.t 43)
 .skip
 (.exit 0))
 (.seq (.block 1
 (.seq (.reg false [r 44 (.mv (.t 42)), r 45 (.idx (.t 40) (.t 42) 1), r 46 (.ld (.t 45)), r 5 (.mv (.t 44)), r 6 (.mv (.t 46))])
 (.seq (.reg false [r 47 (.mv (.t 6)), r 48 (.fld (.t 3) 1), r 49 (.ld (.t 48)), r 50 (.mv (.t 5)), r 51 (.idx (.t 49) (.t 50) 1), r 52 (.ld (.t 51)), r 53 (.chk (.t 47)), r 54 (.fld (.t 53) 6), r 55 (.fld (.t 54) 2), r0 (.st (.t 55) (.t 52) 1)])
 (.reg true [r 56 (.mv (.t 6)), ⟨some 57, none, [0], .chk (.t 56)⟩, ⟨some 58, none, [1, 0], .fld (.t 57) 9⟩, ⟨some 59, none, [2, 1, 0], .ld (.t 58)⟩, r 60 (.fld (.t 3) 5), ⟨some 61, none, [4], .ld (.t 60)⟩, r 62 (.mv (.t 5)), ⟨some 63, none, [5, 4, 6], .idx (.t 61) (.t 62) 1⟩, ⟨some 64, none, [7, 5, 4, 6], .ld (.t 63)⟩, ⟨some 65, none, [3, 2, 1, 0, 8, 7, 5, 4, 6], .call 38 [(.t 59), (.t 64)]⟩]))))
 (.reg false [r 66 (.ib .add .i64 (.t 42) (.k (.v (.int .i64 1)))), r 42 (.mv (.t 66))])))))))
 (.seq (.reg false [r 4 (.mv (.k (.v (.int .i64 0))))])
 .ret))))))
theorem Zpr : compF Try.prog Try.f30 = some (Zhp, [.t 4], 67) := by kernel_rfl
-- ros 30 [none, none] TYS [none, (.st [(.int .u64), (.ints 46 .u64), (.st [(.int .i64), .bool, (.ints 46 .u64)]), (.row 72 (.row 75 (.st [(.int .u64), (.int .i64), (.int .i64)])))])]

def Zhq : IC := (.seq (.reg false [r 3 (.box 33 5 (.t 1))])
 (.seq (.reg false [r 7 (.mv (.t 0)), r 8 (.lda (.t 3) 5), r 9 (.call 50 [(.t 8)]), r 10 (.chk (.t 7)), r 11 (.fld (.t 10) 0), r0 (.st (.t 11) (.t 9) 5)])
 (.seq (.reg false [r 12 (.mv (.t 0)), r 13 (.chk (.t 12)), r 14 (.fld (.t 13) 6), r0 (.st (.t 14) (.k .nsl) 1)])
 (.seq (.reg false [r 4 (.mv (.k .nsl))])
 (.seq (.seq (.reg false [r 15 (.fld (.t 3) 2), r 16 (.ld (.t 15)), r 17 (.len false (.t 16)), r 18 (.mv (.k (.v (.int .i64 0))))])
 (.block 0
 (.loop
 (.seq (.reg false [r 19 (.ib .lt .i64 (.t 18) (.t 17))])
 (.seq (.cond (.t 19)
 .skip
 (.exit 0))
 (.seq (.block 1
 (.seq (.reg false [r 20 (.idx (.t 16) (.t 18) 6), r 21 (.lda (.t 20) 6), r 6 (.new 83 [(.str []), (.v (.int .u64 0)), (.v (.int .u64 0)), (.v (.int .u64 0)), (.v (.int .i64 0)), (.v (.bool false))]), r0 (.st (.t 6) (.t 21) 6)])
 (.seq (.reg true [r 22 (.mv (.t 0)), r 23 (.mv (.t 0)), ⟨some 24, none, [1], .chk (.t 23)⟩, ⟨some 25, none, [2, 1], .fld (.t 24) 6⟩, ⟨some 26, none, [3, 2, 1], .ld (.t 25)⟩, r 27 (.lda (.t 6) 6), r 28 (.fld (.t 6) 2), ⟨some 29, none, [6], .ld (.t 28)⟩, r 30 (.fld (.t 6) 3), ⟨some 31, none, [8], .ld (.t 30)⟩, ⟨some 32, none, [7, 6, 9, 8], .call 60 [(.t 29), (.t 31)]⟩, r 33 (.fld (.t 6) 4), ⟨some 34, none, [11], .ld (.t 33)⟩, ⟨some 35, none, [12, 11, 10, 7, 6, 9, 8], .call 61 [(.t 34)]⟩, ⟨some 36, none, [5, 10, 7, 6, 9, 8, 13, 12, 11], .build [(.str []), (.v (.int .u64 0)), (.v (.int .u64 0)), (.v (.int .u64 0)), (.v (.int .i64 0)), (.v (.bool false)), (.v (.int .u64 0)), (.v (.int .u64 0)), (.v (.int .u64 0)), (.v (.pointer none))] [(0, 6, (.t 27)), (6, 3, (.t 32)), (9, 1, (.t 35))]⟩, ⟨some 37, none, [14, 5, 10, 7, 6, 9, 8, 13, 12, 11], .box 103 10 (.t 36)⟩, ⟨some 38, none, [15, 14, 5, 10, 7, 6, 9, 8, 13, 12, 11], .bsld 98 tm98 (.t 37)⟩, ⟨some 39, none, [4, 3, 2, 1, 16, 15, 14, 5, 10, 7, 6, 9, 8, 13, 12, 11], .appd 98 tm98 8 (.t 26) (.t 38)⟩, ⟨some 40, none, [0, 1, 2, 3, 4, 5, 6, 7, 8, 9, 10, 11, 12, 13, 14, 15, 16, 17], .chk (.t 22)⟩, ⟨some 41, none, [18, 0, 1, 2, 3, 4, 5, 6, 7, 8, 9, 10, 11, 12, 13, 14, 15, 16, 17], .fld (.t 40) 6⟩, ⟨none, none, [19, 18, 0, 1, 2, 3, 4, 5, 6, 7, 8, 9, 10, 11, 12, 13, 14, 15, 16, 17], .st (.t 41) (.t 39) 1⟩])
 (.reg false [r 42 (.mv (.t 4)), r 43 (.fld (.t 6) 1), r 44 (.ld (.t 43)), r 45 (.bsl (.ints 46 .u64) 1 [(.v (.int .u64 0))] [(0, 1, (.t 44))]), r 46 (.app (.ints 46 .u64) 8 (.t 42) (.t 45)), r 4 (.mv (.t 46))]))))
 (.reg false [r 47 (.ib .add .i64 (.t 18) (.k (.v (.int .i64 1)))), r 18 (.mv (.t 47))])))))))
 (.reg false [r 48 (.mv (.t 0)), r 49 (.mv (.t 4)), r 50 (.call 62 [(.t 49)]), r 51 (.chk (.t 48)), r 52 (.fld (.t 51) 7), r0 (.st (.t 52) (.t 50) 1)]))))))
theorem Zps : compF Try.prog Try.f31 = some (Zhq, [], 53) := by kernel_rfl
-- ros 31 [none, none] TYS [none, (.st [.str, .bool, (.row 83 (.st [.str, (.int .u64), (.int .u64), (.int .u64), (.int .i64), .bool])), (.st [(.row 96 (.st [(.int .i64), (.int .i64), (.int .i64)])), (.int .i64)])])]

def Zhr : IC := (.seq (.reg false [r 3 (.mv (.k (.v (.bool false))))])
 (.seq (.reg false [r 4 (.mv (.t 0)), r 5 (.ib .ge .i64 (.t 4) (.k (.v (.int .i64 0)))), r 6 (.mv (.t 5)), ⟨some 7, some (6, true), [], .mv (.t 0)⟩, ⟨some 8, some (6, true), [], .ld (.t 1)⟩, ⟨some 9, some (6, true), [], .ib .lt .i64 (.t 7) (.t 8)⟩, r 10 (.pick (.t 6) (.t 9) (.k (.v (.bool false)))), r 3 (.mv (.t 10))])
 .ret))
theorem Zpt : compF Try.prog Try.f32 = some (Zhr, [.t 3], 11) := by kernel_rfl
-- ros 32 [none] TYS [(.int .i64)]

def Zhs : IC := (.seq (.reg false [r 2 (.mv (.k (.v (.int .i64 0))))])
 (.seq (.seq (.reg false [r 3 (.mv (.t 0)), r 4 (.isn 0 false (.t 3))])
 (.cond (.t 4)
 (.seq (.reg false [r 2 (.mv (.k (.v (.int .i64 0))))])
 .ret)
 .skip))
 (.seq (.reg false [r 5 (.mv (.t 0)), r 6 (.chk (.t 5)), r 7 (.fld (.t 6) 3), r 8 (.ld (.t 7)), r 2 (.mv (.t 8))])
 .ret)))
theorem Zpu : compF Try.prog Try.f33 = some (Zhs, [.t 2], 9) := by kernel_rfl
-- ros 33 [none] TYS [none]

def Zht : IC := (.seq (.reg false [r 2 (.box 33 5 (.t 0)), r 3 (.box 33 5 (.t 1)), r 4 (.mv (.k (.v (.bool false))))])
 (.seq (.reg false [r 5 (.fld (.t 2) 0), r 6 (.ld (.t 5)), r 7 (.fld (.t 3) 0), r 8 (.ld (.t 7)), r 9 (.sb .eq (.t 6) (.t 8)), r 10 (.mv (.t 9)), ⟨some 11, some (10, true), [], .fld (.t 2) 1⟩, ⟨some 12, some (10, true), [], .ld (.t 11)⟩, ⟨some 13, some (10, true), [], .fld (.t 3) 1⟩, ⟨some 14, some (10, true), [], .ld (.t 13)⟩, ⟨some 15, some (10, true), [], .bb false (.t 12) (.t 14)⟩, r 16 (.pick (.t 10) (.t 15) (.k (.v (.bool false)))), r 17 (.mv (.t 16)), ⟨some 18, some (17, true), [], .fld (.t 2) 2⟩, ⟨some 19, some (17, true), [], .ld (.t 18)⟩, ⟨some 20, some (17, true), [], .fld (.t 3) 2⟩, ⟨some 21, some (17, true), [], .ld (.t 20)⟩, ⟨some 22, some (17, true), [], .call 63 [(.t 19), (.t 21)]⟩, r 23 (.pick (.t 17) (.t 22) (.k (.v (.bool false)))), r 24 (.mv (.t 23)), ⟨some 25, some (24, true), [], .fld (.t 2) 3⟩, ⟨some 26, some (24, true), [], .fld (.t 25) 0⟩, ⟨some 27, some (24, true), [], .ld (.t 26)⟩, ⟨some 28, some (24, true), [], .fld (.t 3) 3⟩, ⟨some 29, some (24, true), [], .fld (.t 28) 0⟩, ⟨some 30, some (24, true), [], .ld (.t 29)⟩, ⟨some 31, some (24, true), [], .call 64 [(.t 27), (.t 30)]⟩, r 32 (.pick (.t 24) (.t 31) (.k (.v (.bool false)))), r 33 (.mv (.t 32)), ⟨some 34, some (33, true), [], .fld (.t 2) 3⟩, ⟨some 35, some (33, true), [], .fld (.t 34) 1⟩, ⟨some 36, some (33, true), [], .ld (.t 35)⟩, ⟨some 37, some (33, true), [], .fld (.t 3) 3⟩, ⟨some 38, some (33, true), [], .fld (.t 37) 1⟩, ⟨some 39, some (33, true), [], .ld (.t 38)⟩, ⟨some 40, some (33, true), [], .ib .eq .i64 (.t 36) (.t 39)⟩, r 41 (.pick (.t 33) (.t 40) (.k (.v (.bool false)))), r 4 (.mv (.t 41))])
 .ret))
theorem Zpv : compF Try.prog Try.f34 = some (Zht, [.t 4], 42) := by kernel_rfl
-- ros 34 [none, none] TYS [(.st [.str, .bool, (.row 83 (.st [.str, (.int .u64), (.int .u64), (.int .u64), (.int .i64), .bool])), (.st [(.row 96 (.st [(.int .i64), (.int .i64), (.int .i64)])), (.int .i64)])]), (.st [.str, .bool, (.row 83 (.st [.str, (.int .u64), (.int .u64), (.int .u64), (.int .i64), .bool])), (.st [(.row 96 (.st [(.int .i64), (.int .i64), (.int .i64)])), (.int .i64)])])]

def Zhu : IC := (.seq (.reg false [r 3 (.box 33 5 (.t 0)), r 4 (.box 33 5 (.t 1)), r 6 (.mv (.k .nsl)), r 7 (.mv (.k (.v (.bool false))))])
 (.seq (.seq (.reg false [r 20 (.mv (.t 2)), r 21 (.len false (.t 20)), r 22 (.fld (.t 3) 2), r 23 (.ld (.t 22)), r 24 (.len false (.t 23)), r 25 (.ib .ne .i64 (.t 21) (.t 24))])
 (.cond (.t 25)
 (.seq (.reg false [r 6 (.mv (.k .nsl)), r 7 (.mv (.k (.v (.bool false))))])
 .ret)
 .skip))
 (.seq (.reg false [r 26 (.fld (.t 4) 2), r 27 (.ld (.t 26)), r 28 (.len false (.t 27)), r 29 (.mks (.row 72 (.row 75 (.st [(.int .u64), (.int .i64), (.int .i64)]))) 24 (.t 28) (.t 28)), r 8 (.mv (.t 29))])
 (.seq (.reg false [r 30 (.fld (.t 4) 2), r 31 (.ld (.t 30)), r 32 (.len false (.t 31)), r 33 (.mks (.row 4 .bool) 1 (.t 32) (.t 32)), r 9 (.mv (.t 33))])
 (.seq (.seq (.reg false [r 34 (.mv (.t 2)), r 35 (.len false (.t 34)), r 36 (.mv (.k (.v (.int .i64 0))))])
 (.block 0
 (.loop
 (.seq (.reg false [r 37 (.ib .lt .i64 (.t 36) (.t 35))])
 (.seq (.cond (.t 37)
 .skip
 (.exit 0))
 (.seq (.block 1
 (.seq (.reg false [r 38 (.mv (.t 36)), r 39 (.idx (.t 34) (.t 36) 1), r 40 (.ld (.t 39)), r 10 (.mv (.t 38)), r 11 (.mv (.t 40))])
 (.seq (.reg false [r 41 (.fld (.t 4) 2), r 42 (.ld (.t 41)), r 43 (.len false (.t 42)), r 44 (.mksd 72 tm72 24 (.t 43) (.t 43)), r 12 (.mv (.t 44))])
 (.seq (.seq (.reg false [r 45 (.mv (.t 11)), r 46 (.len false (.t 45)), r 47 (.mv (.k (.v (.int .i64 0))))])
 (.block 2
 (.loop
 (.seq (.reg false [r 48 (.ib .lt .i64 (.t 47) (.t 46))])
 (.seq (.cond (.t 48)
 .skip
 (.exit 2))
 (.seq (.block 3
 (.seq (.reg false [r 49 (.idx (.t 45) (.t 47) 3), r 50 (.lda (.t 49) 3), r 14 (.new 75 [(.v (.int .u64 0)), (.v (.int .i64 0)), (.v (.int .i64 0))]), r0 (.st (.t 14) (.t 50) 3)])
 (.seq (.reg false [r 51 (.fld (.t 4) 3), r 52 (.lda (.t 51) 2), r 53 (.fld (.t 14) 1), r 54 (.ld (.t 53)), r 55 (.call 51 [(.t 52), (.t 54)]), r 15 (.mv (.t 55))])
 (.seq (.reg false [r 56 (.mv (.t 15)), r 57 (.ib .ge .i64 (.t 56) (.k (.v (.int .i64 0)))), r 58 (.mv (.t 57)), ⟨some 59, some (58, true), [], .mv (.t 15)⟩, ⟨some 60, some (58, true), [], .mv (.t 12)⟩, ⟨some 61, some (58, true), [], .len false (.t 60)⟩, ⟨some 62, some (58, true), [], .ib .lt .i64 (.t 59) (.t 61)⟩, r 63 (.pick (.t 58) (.t 62) (.k (.v (.bool false))))])
 (.cond (.t 63)
 (.reg true [r 64 (.mv (.t 12)), r 65 (.mv (.t 15)), r 66 (.mv (.t 12)), r 67 (.mv (.t 15)), ⟨some 68, none, [2, 3], .idx (.t 66) (.t 67) 1⟩, ⟨some 69, none, [4, 2, 3], .ld (.t 68)⟩, r 70 (.lda (.t 14) 3), ⟨some 71, none, [6], .bsl (.row 75 (.st [(.int .u64), (.int .i64), (.int .i64)])) 1 [(.v (.int .u64 0)), (.v (.int .i64 0)), (.v (.int .i64 0))] [(0, 3, (.t 70))]⟩, ⟨some 72, none, [5, 4, 2, 3, 7, 6], .app (.row 75 (.st [(.int .u64), (.int .i64), (.int .i64)])) 24 (.t 69) (.t 71)⟩, ⟨some 73, none, [0, 1, 2, 3, 4, 5, 6, 7, 8], .idx (.t 64) (.t 65) 1⟩, ⟨none, none, [9, 0, 1, 2, 3, 4, 5, 6, 7, 8], .st (.t 73) (.t 72) 1⟩])
 .skip)))))
 (.reg false [r 74 (.ib .add .i64 (.t 47) (.k (.v (.int .i64 1)))), r 47 (.mv (.t 74))])))))))
 (.seq (.reg false [r 75 (.mv (.t 12)), r 76 (.len false (.t 75)), r 77 (.mv (.k (.v (.int .i64 0))))])
 (.block 4
 (.loop
 (.seq (.reg false [r 78 (.ib .lt .i64 (.t 77) (.t 76))])
 (.seq (.cond (.t 78)
 .skip
 (.exit 4))
 (.seq (.block 5
 (.seq (.reg false [r 79 (.mv (.t 77)), r 80 (.idx (.t 75) (.t 77) 1), r 81 (.ld (.t 80)), r 16 (.mv (.t 79)), r 17 (.mv (.t 81))])
 (.seq (.reg false [r 82 (.mv (.t 8)), r 83 (.mv (.t 16)), r 84 (.mv (.t 8)), r 85 (.mv (.t 16)), r 86 (.idx (.t 84) (.t 85) 1), r 87 (.ld (.t 86)), r 88 (.mv (.t 17)), r 89 (.call 65 [(.t 87), (.t 88)]), r 90 (.idx (.t 82) (.t 83) 1), r0 (.st (.t 90) (.t 89) 1)])
 (.reg true [r 91 (.mv (.t 9)), r 92 (.mv (.t 16)), r 93 (.mv (.t 9)), r 94 (.mv (.t 16)), ⟨some 95, none, [2, 3], .idx (.t 93) (.t 94) 1⟩, ⟨some 96, none, [4, 2, 3], .ld (.t 95)⟩, ⟨some 97, none, [5, 4, 2, 3], .mv (.t 96)⟩, ⟨some 98, some (97, false), [6, 5, 4, 2, 3], .mv (.t 17)⟩, ⟨some 99, some (97, false), [7, 6, 5, 4, 2, 3], .len false (.t 98)⟩, ⟨some 100, some (97, false), [8, 7, 6, 5, 4, 2, 3], .ib .gt .i64 (.t 99) (.k (.v (.int .i64 0)))⟩, ⟨some 101, some (97, false), [9, 8, 7, 6, 5, 4, 2, 3], .mv (.t 100)⟩, ⟨some 102, some (101, true), [10, 9, 8, 7, 6, 5, 4, 2, 3], .fld (.t 3) 2⟩, ⟨some 103, some (101, true), [11, 10, 9, 8, 7, 6, 5, 4, 2, 3], .ld (.t 102)⟩, ⟨some 104, some (101, true), [10, 9, 8, 7, 6, 5, 4, 2, 3], .mv (.t 10)⟩, ⟨some 105, some (101, true), [12, 11, 10, 9, 8, 7, 6, 5, 4, 2, 3, 13], .idx (.t 103) (.t 104) 6⟩, ⟨some 106, some (101, true), [14, 12, 11, 10, 9, 8, 7, 6, 5, 4, 2, 3, 13], .fld (.t 105) 0⟩, ⟨some 107, some (101, true), [15, 14, 12, 11, 10, 9, 8, 7, 6, 5, 4, 2, 3, 13], .ld (.t 106)⟩, ⟨some 108, some (101, true), [10, 9, 8, 7, 6, 5, 4, 2, 3], .fld (.t 4) 2⟩, ⟨some 109, some (101, true), [17, 10, 9, 8, 7, 6, 5, 4, 2, 3], .ld (.t 108)⟩, ⟨some 110, some (101, true), [10, 9, 8, 7, 6, 5, 4, 2, 3], .mv (.t 16)⟩, ⟨some 111, some (101, true), [18, 17, 10, 9, 8, 7, 6, 5, 4, 2, 3, 19], .idx (.t 109) (.t 110) 6⟩, ⟨some 112, some (101, true), [20, 18, 17, 10, 9, 8, 7, 6, 5, 4, 2, 3, 19], .fld (.t 111) 0⟩, ⟨some 113, some (101, true), [21, 20, 18, 17, 10, 9, 8, 7, 6, 5, 4, 2, 3, 19], .ld (.t 112)⟩, ⟨some 114, some (101, true), [16, 15, 14, 12, 11, 10, 9, 8, 7, 6, 5, 4, 2, 3, 13, 22, 21, 20, 18, 17, 19], .sb .ne (.t 107) (.t 113)⟩, ⟨some 115, some (97, false), [10, 9, 8, 7, 6, 5, 4, 2, 3, 23, 16, 15, 14, 12, 11, 13, 22, 21, 20, 18, 17, 19], .pick (.t 101) (.t 114) (.k (.v (.bool false)))⟩, ⟨some 116, none, [6, 5, 4, 2, 3, 24, 10, 9, 8, 7, 23, 16, 15, 14, 12, 11, 13, 22, 21, 20, 18, 17, 19], .pick (.t 97) (.k (.v (.bool true))) (.t 115)⟩, ⟨some 117, none, [0, 1, 2, 3, 4, 5, 6, 7, 8, 9, 10, 11, 12, 13, 14, 15, 16, 17, 18, 19, 20, 21, 22, 23, 24, 25], .idx (.t 91) (.t 92) 1⟩, ⟨none, none, [26, 0, 1, 2, 3, 4, 5, 6, 7, 8, 9, 10, 11, 12, 13, 14, 15, 16, 17, 18, 19, 20, 21, 22, 23, 24, 25], .st (.t 117) (.t 116) 1⟩]))))
 (.reg false [r 118 (.ib .add .i64 (.t 77) (.k (.v (.int .i64 1)))), r 77 (.mv (.t 118))])))))))))))
 (.reg false [r 119 (.ib .add .i64 (.t 36) (.k (.v (.int .i64 1)))), r 36 (.mv (.t 119))])))))))
 (.seq (.seq (.reg false [r 120 (.mv (.t 9)), r 121 (.len false (.t 120)), r 122 (.mv (.k (.v (.int .i64 0))))])
 (.block 6
 (.loop
 (.seq (.reg false [r 123 (.ib .lt .i64 (.t 122) (.t 121))])
 (.seq (.cond (.t 123)
 .skip
 (.exit 6))
 (.seq (.block 7
 (.seq (.reg false [r 124 (.mv (.t 122)), r 125 (.idx (.t 120) (.t 122) 1), r 126 (.ld (.t 125)), r 18 (.mv (.t 124)), r 19 (.mv (.t 126))])
 (.seq (.reg true [r 127 (.mv (.t 19)), ⟨some 128, none, [0], .mv (.t 127)⟩, ⟨some 129, some (128, true), [1, 0], .mv (.t 8)⟩, ⟨some 130, some (128, true), [1, 0], .mv (.t 18)⟩, ⟨some 131, some (128, true), [2, 1, 0, 3], .idx (.t 129) (.t 130) 1⟩, ⟨some 132, some (128, true), [4, 2, 1, 0, 3], .ld (.t 131)⟩, ⟨some 133, some (128, true), [5, 4, 2, 1, 0, 3], .len false (.t 132)⟩, ⟨some 134, some (128, true), [1, 0], .fld (.t 4) 2⟩, ⟨some 135, some (128, true), [7, 1, 0], .ld (.t 134)⟩, ⟨some 136, some (128, true), [1, 0], .mv (.t 18)⟩, ⟨some 137, some (128, true), [8, 7, 1, 0, 9], .idx (.t 135) (.t 136) 6⟩, ⟨some 138, some (128, true), [10, 8, 7, 1, 0, 9], .fld (.t 137) 4⟩, ⟨some 139, some (128, true), [11, 10, 8, 7, 1, 0, 9], .ld (.t 138)⟩, ⟨some 140, some (128, true), [6, 5, 4, 2, 1, 0, 3, 12, 11, 10, 8, 7, 9], .ib .gt .i64 (.t 133) (.t 139)⟩, ⟨some 141, none, [1, 0, 13, 6, 5, 4, 2, 3, 12, 11, 10, 8, 7, 9], .pick (.t 128) (.t 140) (.k (.v (.bool false)))⟩])
 (.cond (.t 141)
 (.seq (.reg false [r 142 (.mv (.t 8)), r 6 (.mv (.t 142)), r 7 (.mv (.k (.v (.bool false))))])
 .ret)
 .skip))))
 (.reg false [r 143 (.ib .add .i64 (.t 122) (.k (.v (.int .i64 1)))), r 122 (.mv (.t 143))])))))))
 (.seq (.reg false [r 144 (.mv (.t 8)), r 6 (.mv (.t 144)), r 7 (.mv (.k (.v (.bool true))))])
 .ret)))))))
theorem Zpw : compF Try.prog Try.f35 = some (Zhu, [.t 6, .t 7], 145) := by kernel_rfl
-- ros 35 [none, none, (some (.row 72 (.row 75 (.st [(.int .u64), (.int .i64), (.int .i64)]))))] TYS [(.st [.str, .bool, (.row 83 (.st [.str, (.int .u64), (.int .u64), (.int .u64), (.int .i64), .bool])), (.st [(.row 96 (.st [(.int .i64), (.int .i64), (.int .i64)])), (.int .i64)])]), (.st [.str, .bool, (.row 83 (.st [.str, (.int .u64), (.int .u64), (.int .u64), (.int .i64), .bool])), (.st [(.row 96 (.st [(.int .i64), (.int .i64), (.int .i64)])), (.int .i64)])]), (.row 72 (.row 75 (.st [(.int .u64), (.int .i64), (.int .i64)])))]

def Zhv : IC := (.seq (.reg false [r 2 (.mv (.k .nsl))])
 (.seq (.reg false [r 3 (.mv (.k .nsl))])
 (.seq (.seq (.reg false [r 6 (.mv (.t 0)), r 7 (.chk (.t 6)), r 8 (.fld (.t 7) 6), r 9 (.ld (.t 8)), r 10 (.len false (.t 9)), r 11 (.mv (.k (.v (.int .i64 0))))])
 (.block 0
 (.loop
 (.seq (.reg false [r 12 (.ib .lt .i64 (.t 11) (.t 10))])
 (.seq (.cond (.t 12)
 .skip
 (.exit 0))
 (.seq (.block 1
 (.seq (.reg false [r 13 (.idx (.t 9) (.t 11) 1), r 14 (.ld (.t 13)), r 5 (.mv (.t 14))])
 (.reg false [r 15 (.mv (.t 3)), r 16 (.mv (.t 5)), r 17 (.chk (.t 16)), r 18 (.fld (.t 17) 9), r 19 (.ld (.t 18)), r 20 (.call 66 [(.t 19)]), r 21 (.bsl (.row 72 (.row 75 (.st [(.int .u64), (.int .i64), (.int .i64)]))) 1 [.nsl] [(0, 1, (.t 20))]), r 22 (.app (.row 72 (.row 75 (.st [(.int .u64), (.int .i64), (.int .i64)]))) 24 (.t 15) (.t 21)), r 3 (.mv (.t 22))])))
 (.reg false [r 23 (.ib .add .i64 (.t 11) (.k (.v (.int .i64 1)))), r 11 (.mv (.t 23))])))))))
 (.seq (.reg false [r 24 (.mv (.t 3)), r 2 (.mv (.t 24))])
 .ret))))
theorem Zpx : compF Try.prog Try.f36 = some (Zhv, [.t 2], 25) := by kernel_rfl
-- ros 36 [none] TYS [none]

def Zhw : IC := (.seq (.reg false [r 3 (.box 100 3 (.t 0)), r 6 (.new 100 [(.v (.int .u64 0)), (.v (.int .u64 0)), (.v (.int .u64 0))])])
 (.seq (.reg false [r 7 (.mv (.t 1)), r 8 (.mv (.t 2)), r 9 (.fld (.t 3) 2), r 10 (.ld (.t 9)), r 11 (.mv (.t 2)), r 12 (.mn (.t 10) (.t 11)), r 13 (.build [(.v (.int .u64 0)), (.v (.int .u64 0)), (.v (.int .u64 0))] [(0, 1, (.t 7)), (1, 1, (.t 8)), (2, 1, (.t 12))]), r0 (.st (.t 6) (.t 13) 3)])
 .ret))
theorem Zpy : compF Try.prog Try.f37 = some (Zhw, [.c 6 3 true], 14) := by kernel_rfl
-- ros 37 [none, none, none] TYS [(.st [(.int .u64), (.int .u64), (.int .u64)]), (.int .u64), (.int .u64)]

def Zhx : IC := (.seq (.seq (.reg false [r 6 (.mv (.t 0)), r 7 (.isn 0 false (.t 6))])
 (.cond (.t 7)
 .ret
 .skip))
 (.seq (.reg false [r 8 (.mv (.t 0)), r 9 (.chk (.t 8)), r 10 (.fld (.t 9) 1), r 11 (.ld (.t 10)), r0 (.clear (.row 75 (.st [(.int .u64), (.int .i64), (.int .i64)])) (.t 11))])
 (.seq (.reg false [r 12 (.mv (.t 0)), r 13 (.mv (.t 0)), r 14 (.chk (.t 12)), r 15 (.fld (.t 14) 2), r0 (.st (.t 15) (.k (.v (.int .i64 0))) 1), r 16 (.chk (.t 13)), r 17 (.fld (.t 16) 3), r0 (.st (.t 17) (.k (.v (.int .i64 0))) 1)])
 (.seq (.reg false [r 18 (.mv (.t 1)), r 19 (.len false (.t 18)), r 20 (.mv (.k (.v (.int .i64 0))))])
 (.block 0
 (.loop
 (.seq (.reg false [r 21 (.ib .lt .i64 (.t 20) (.t 19))])
 (.seq (.cond (.t 21)
 .skip
 (.exit 0))
 (.seq (.block 1
 (.seq (.reg false [r 22 (.idx (.t 18) (.t 20) 3), r 23 (.lda (.t 22) 3), r 5 (.new 75 [(.v (.int .u64 0)), (.v (.int .i64 0)), (.v (.int .i64 0))]), r0 (.st (.t 5) (.t 23) 3)])
 (.reg false [r 24 (.mv (.t 0)), r 25 (.lda (.t 5) 3), r 26 (.call 67 [(.t 24), (.t 25)])])))
 (.reg false [r 27 (.ib .add .i64 (.t 20) (.k (.v (.int .i64 1)))), r 20 (.mv (.t 27))]))))))))))
theorem Zpz : compF Try.prog Try.f38 = some (Zhx, [], 28) := by kernel_rfl
-- ros 38 [none, (some (.row 75 (.st [(.int .u64), (.int .i64), (.int .i64)])))] TYS [none, (.row 75 (.st [(.int .u64), (.int .i64), (.int .i64)]))]

def Zhz : IC := (.seq (.reg false [r 2 (.new 65 [(.v (.int .i64 0)), (.v (.bool false)), .nsl])])
 (.seq (.seq (.reg false [r 3 (.mv (.t 0)), r 4 (.isn 0 false (.t 3))])
 (.cond (.t 4)
 (.seq (.reg false [r 5 (.build [(.v (.int .i64 0)), (.v (.bool false)), .nsl] []), r0 (.st (.t 2) (.t 5) 3)])
 .ret)
 .skip))
 (.seq (.reg false [r 6 (.mv (.t 0)), r 7 (.chk (.t 6)), r 8 (.fld (.t 7) 1), r 9 (.lda (.t 8) 3), r 10 (.call 77 [(.t 9)]), r0 (.st (.t 2) (.t 10) 3)])
 .ret)))
theorem Zq1 : compF Try.prog Try.f48 = some (Zhz, [.c 2 3 true], 11) := by kernel_rfl
-- ros 48 [none] TYS [none]

def Zi0 : IC := (.seq (.reg false [r 1 (.box 33 5 (.t 0)), r 2 (.new 33 [(.str []), (.v (.bool false)), .nsl, .nsl, (.v (.int .i64 0))])])
 (.seq (.reg false [r 3 (.fld (.t 1) 2), r 4 (.ld (.t 3)), r 5 (.call 78 [(.t 4)]), r 6 (.fld (.t 1) 2), r0 (.st (.t 6) (.t 5) 1)])
 (.seq (.reg false [r 7 (.fld (.t 1) 3), r 8 (.fld (.t 7) 0), r 9 (.ld (.t 8)), r 10 (.call 79 [(.t 9)]), r 11 (.fld (.t 1) 3), r 12 (.fld (.t 11) 0), r0 (.st (.t 12) (.t 10) 1)])
 (.seq (.reg false [r 13 (.lda (.t 1) 5), r0 (.st (.t 2) (.t 13) 5)])
 .ret))))
theorem Zq2 : compF Try.prog Try.f50 = some (Zi0, [.c 2 5 true], 14) := by kernel_rfl
-- ros 50 [none] TYS [(.st [.str, .bool, (.row 83 (.st [.str, (.int .u64), (.int .u64), (.int .u64), (.int .i64), .bool])), (.st [(.row 96 (.st [(.int .i64), (.int .i64), (.int .i64)])), (.int .i64)])])]

def Zi1 : IC := (.seq (.reg false [r 2 (.box 31 2 (.t 0)), r 3 (.box 3 1 (.t 1)), r 4 (.mv (.k (.v (.int .i64 0))))])
 (.seq (.reg false [r 6 (.fld (.t 2) 0), r 7 (.ld (.t 6)), r 8 (.mkfn 81 [(.t 3)]), r 9 (.call 80 [(.t 7), (.t 8)]), r 5 (.mv (.t 9))])
 (.seq (.seq (.reg false [r 10 (.mv (.t 5)), r 11 (.ib .lt .i64 (.t 10) (.k (.v (.int .i64 0))))])
 (.cond (.t 11)
 (.seq (.reg false [r 12 (.fld (.t 2) 1), r 13 (.ld (.t 12)), r 4 (.mv (.t 13))])
 .ret)
 .skip))
 (.seq (.reg false [r 14 (.fld (.t 2) 0), r 15 (.ld (.t 14)), r 16 (.mv (.t 5)), r 17 (.idx (.t 15) (.t 16) 3), r 18 (.fld (.t 17) 2), r 19 (.ld (.t 18)), r 4 (.mv (.t 19))])
 .ret))))
theorem Zq3 : compF Try.prog Try.f51 = some (Zi1, [.t 4], 20) := by kernel_rfl
-- ros 51 [none, none] TYS [(.st [(.row 96 (.st [(.int .i64), (.int .i64), (.int .i64)])), (.int .i64)]), (.int .i64)]

def Zi2 : IC := (.seq (.reg false [r 3 (.box 75 3 (.t 1)), r 4 (.mv (.k (.v (.bool false))))])
 (.seq (.seq (.reg true [r 5 (.mv (.t 0)), ⟨some 6, none, [0], .isn 0 false (.t 5)⟩, ⟨some 7, none, [1, 0], .mv (.t 6)⟩, ⟨some 8, some (7, false), [2, 1, 0], .mv (.t 0)⟩, ⟨some 9, some (7, false), [3, 2, 1, 0], .chk (.t 8)⟩, ⟨some 10, some (7, false), [4, 3, 2, 1, 0], .fld (.t 9) 3⟩, ⟨some 11, some (7, false), [5, 4, 3, 2, 1, 0], .ld (.t 10)⟩, ⟨some 12, some (7, false), [2, 1, 0], .mv (.t 0)⟩, ⟨some 13, some (7, false), [7, 2, 1, 0], .chk (.t 12)⟩, ⟨some 14, some (7, false), [8, 7, 2, 1, 0], .fld (.t 13) 0⟩, ⟨some 15, some (7, false), [9, 8, 7, 2, 1, 0], .ld (.t 14)⟩, ⟨some 16, some (7, false), [6, 5, 4, 3, 2, 1, 0, 10, 9, 8, 7], .ib .ge .i64 (.t 11) (.t 15)⟩, ⟨some 17, none, [2, 1, 0, 11, 6, 5, 4, 3, 10, 9, 8, 7], .pick (.t 7) (.k (.v (.bool true))) (.t 16)⟩])
 (.cond (.t 17)
 (.seq (.reg false [r 4 (.mv (.k (.v (.bool false))))])
 .ret)
 .skip))
 (.seq (.reg false [r 18 (.mv (.t 0)), r 19 (.lda (.t 3) 3), r 20 (.call 67 [(.t 18), (.t 19)])])
 (.seq (.reg false [r 4 (.mv (.k (.v (.bool true))))])
 .ret))))
theorem Zq4 : compF Try.prog Try.f52 = some (Zi2, [.t 4], 21) := by kernel_rfl
-- ros 52 [none, none] TYS [none, (.st [(.int .u64), (.int .i64), (.int .i64)])]

def Zi3 : IC := (.seq (.reg false [r 2 (.box 100 3 (.t 0)), r 4 (.new 100 [(.v (.int .u64 0)), (.v (.int .u64 0)), (.v (.int .u64 0))])])
 (.seq (.reg false [r 5 (.fld (.t 2) 2), r 6 (.ld (.t 5)), r 7 (.fld (.t 2) 0), r 8 (.ld (.t 7)), r 9 (.mv (.t 1)), r 10 (.fld (.t 2) 1), r 11 (.ld (.t 10)), r 12 (.call 82 [(.t 6), (.t 8), (.t 9), (.t 11)]), r 13 (.fld (.t 2) 2), r0 (.st (.t 13) (.t 12) 1)])
 (.seq (.reg false [r 14 (.lda (.t 2) 3), r0 (.st (.t 4) (.t 14) 3)])
 .ret)))
theorem Zq5 : compF Try.prog Try.f53 = some (Zi3, [.c 4 3 true], 15) := by kernel_rfl
-- ros 53 [none, none] TYS [(.st [(.int .u64), (.int .u64), (.int .u64)]), (.int .u64)]

def Zi4 : IC := (.seq (.reg false [r 4 (.new 133 [(.v (.int .u64 0)), (.v (.bool false))])])
 (.seq (.reg false [r 9 (.mv (.t 1)), r 10 (.chk (.t 9)), r 11 (.fld (.t 10) 9), r 12 (.ld (.t 11)), r 13 (.call 83 [(.t 12)]), r 8 (.mv (.t 13)), r 14 (.ext (.t 8) 0), r 15 (.ext (.t 8) 1), r 5 (.new 75 [(.v (.int .u64 0)), (.v (.int .i64 0)), (.v (.int .i64 0))]), r0 (.st (.t 5) (.t 14) 3), r 6 (.mv (.t 15))])
 (.seq (.seq (.reg false [r 16 (.mv (.t 6)), r 17 (.bnot (.t 16))])
 (.cond (.t 17)
 (.seq (.reg false [r 18 (.build [(.v (.int .u64 0)), (.v (.bool false))] []), r0 (.st (.t 4) (.t 18) 2)])
 .ret)
 .skip))
 (.seq (.reg false [r 19 (.fld (.t 5) 2), r 20 (.ld (.t 19)), r 21 (.conv .u64 (.t 20)), r 7 (.mv (.t 21))])
 (.seq (.reg false [r 22 (.mv (.t 7)), r 23 (.mv (.t 0)), r 24 (.chk (.t 23)), r 25 (.fld (.t 24) 0), r 26 (.fld (.t 25) 1), r 27 (.ld (.t 26)), r 28 (.mv (.t 27)), ⟨some 29, some (28, true), [], .mv (.t 1)⟩, ⟨some 30, some (28, true), [], .chk (.t 29)⟩, ⟨some 31, some (28, true), [], .fld (.t 30) 0⟩, ⟨some 32, some (28, true), [], .fld (.t 31) 5⟩, ⟨some 33, some (28, true), [], .ld (.t 32)⟩, ⟨some 34, some (28, true), [], .bnot (.t 33)⟩, ⟨some 35, some (28, true), [], .mv (.t 34)⟩, ⟨some 36, some (35, false), [], .mv (.t 1)⟩, ⟨some 37, some (35, false), [], .chk (.t 36)⟩, ⟨some 38, some (35, false), [], .fld (.t 37) 6⟩, ⟨some 39, some (35, false), [], .fld (.t 38) 2⟩, ⟨some 40, some (35, false), [], .ld (.t 39)⟩, ⟨some 41, some (35, false), [], .mv (.t 7)⟩, ⟨some 42, some (35, false), [], .ib .ge .u64 (.t 40) (.t 41)⟩, ⟨some 43, some (28, true), [], .pick (.t 35) (.k (.v (.bool true))) (.t 42)⟩, r 44 (.pick (.t 28) (.t 43) (.k (.v (.bool false)))), r 45 (.build [(.v (.int .u64 0)), (.v (.bool false))] [(0, 1, (.t 22)), (1, 1, (.t 44))]), r0 (.st (.t 4) (.t 45) 2)])
 .ret)))))
theorem Zq6 : compF Try.prog Try.f54 = some (Zi4, [.c 4 2 true], 46) := by kernel_rfl
-- ros 54 [none, none] TYS [none, none]

def Zi5 : IC := (.seq (.reg false [r 4 (.mv (.k (.v (.int .i64 0))))])
 (.seq (.seq (.reg false [r 5 (.mv (.t 0)), r 6 (.isn 0 false (.t 5)), r 7 (.mv (.t 6)), ⟨some 8, some (7, false), [], .mv (.t 1)⟩, ⟨some 9, some (7, false), [], .len false (.t 8)⟩, ⟨some 10, some (7, false), [], .mv (.t 0)⟩, ⟨some 11, some (7, false), [], .chk (.t 10)⟩, ⟨some 12, some (7, false), [], .fld (.t 11) 0⟩, ⟨some 13, some (7, false), [], .ld (.t 12)⟩, ⟨some 14, some (7, false), [], .len false (.t 13)⟩, ⟨some 15, some (7, false), [], .ib .ne .i64 (.t 9) (.t 14)⟩, r 16 (.pick (.t 7) (.k (.v (.bool true))) (.t 15)), r 17 (.mv (.t 16)), ⟨some 18, some (17, false), [], .mv (.t 1)⟩, ⟨some 19, some (17, false), [], .len false (.t 18)⟩, ⟨some 20, some (17, false), [], .ib .eq .i64 (.t 19) (.k (.v (.int .i64 0)))⟩, r 21 (.pick (.t 17) (.k (.v (.bool true))) (.t 20))])
 (.cond (.t 21)
 (.seq (.reg false [r 4 (.mv (.k (.v (.int .i64 (-1)))))])
 .ret)
 .skip))
 (.seq (.seq (.reg false [r 22 (.mv (.t 1)), r 23 (.len false (.t 22)), r 24 (.ib .add .i64 (.t 23) (.k (.v (.int .i64 1)))), r 25 (.mv (.k (.v (.int .i64 0))))])
 (.block 0
 (.loop
 (.seq (.reg false [r 26 (.ib .lt .i64 (.t 25) (.t 24))])
 (.seq (.cond (.t 26)
 .skip
 (.exit 0))
 (.seq (.block 1
 (.seq (.reg false [r 27 (.mv (.t 0)), r 28 (.mv (.t 1)), r 29 (.mv (.t 0)), r 30 (.chk (.t 29)), r 31 (.fld (.t 30) 1), r 32 (.fld (.t 31) 0), r 33 (.ld (.t 32)), r 34 (.idx (.t 28) (.t 33) 2), r 35 (.lda (.t 34) 2), r 36 (.call 84 [(.t 27), (.t 35)])])
 (.cond (.t 36)
 (.seq (.reg false [r 37 (.mv (.t 0)), r 38 (.chk (.t 37)), r 39 (.fld (.t 38) 1), r 40 (.fld (.t 39) 0), r 41 (.ld (.t 40)), r 4 (.mv (.t 41))])
 .ret)
 .skip)))
 (.reg false [r 42 (.ib .add .i64 (.t 25) (.k (.v (.int .i64 1)))), r 25 (.mv (.t 42))])))))))
 (.seq (.reg false [r 4 (.mv (.k (.v (.int .i64 (-1)))))])
 .ret))))
theorem Zq7 : compF Try.prog Try.f55 = some (Zi5, [.t 4], 43) := by kernel_rfl
-- ros 55 [none, (some (.row 133 (.st [(.int .u64), .bool])))] TYS [none, (.row 133 (.st [(.int .u64), .bool]))]

def Zi6 : IC := (.seq (.reg false [r 2 (.new 75 [(.v (.int .u64 0)), (.v (.int .i64 0)), (.v (.int .i64 0))]), r 3 (.mv (.k (.v (.bool false))))])
 (.seq (.reg false [r 7 (.mv (.t 0)), r 8 (.call 83 [(.t 7)]), r 6 (.mv (.t 8)), r 9 (.ext (.t 6) 0), r 10 (.ext (.t 6) 1), r 4 (.new 75 [(.v (.int .u64 0)), (.v (.int .i64 0)), (.v (.int .i64 0))]), r0 (.st (.t 4) (.t 9) 3), r 5 (.mv (.t 10))])
 (.seq (.seq (.reg false [r 11 (.mv (.t 5))])
 (.cond (.t 11)
 (.seq (.reg false [r 12 (.mv (.t 0)), r 13 (.mv (.t 0)), r 14 (.call 85 [(.t 13), (.k (.v (.int .i64 1)))]), r 15 (.chk (.t 12)), r 16 (.fld (.t 15) 2), r0 (.st (.t 16) (.t 14) 1)])
 (.reg false [r 17 (.mv (.t 0)), r 18 (.chk (.t 17)), r 19 (.fld (.t 18) 3), r 20 (.ld (.t 19)), r 21 (.ib .sub .i64 (.t 20) (.k (.v (.int .i64 1)))), r 22 (.chk (.t 17)), r 23 (.fld (.t 22) 3), r0 (.st (.t 23) (.t 21) 1)]))
 .skip))
 (.seq (.reg false [r 24 (.lda (.t 4) 3), r 25 (.mv (.t 5)), r0 (.st (.t 2) (.t 24) 3), r 3 (.mv (.t 25))])
 .ret))))
theorem Zq8 : compF Try.prog Try.f56 = some (Zi6, [.c 2 3 true, .t 3], 26) := by kernel_rfl
-- ros 56 [none] TYS [none]

def Zi7 : IC := (.seq (.reg false [r 2 (.box 100 3 (.t 0)), r 4 (.new 100 [(.v (.int .u64 0)), (.v (.int .u64 0)), (.v (.int .u64 0))]), r 5 (.mv (.k (.v (.bool false))))])
 (.seq (.seq (.reg false [r 6 (.mv (.t 1)), r 7 (.fld (.t 2) 2), r 8 (.ld (.t 7)), r 9 (.ib .gt .u64 (.t 6) (.t 8))])
 (.cond (.t 9)
 (.seq (.reg false [r 10 (.lda (.t 2) 3), r0 (.st (.t 4) (.t 10) 3), r 5 (.mv (.k (.v (.bool false))))])
 .ret)
 .skip))
 (.seq (.reg false [r 11 (.fld (.t 2) 2), r 12 (.ld (.t 11)), r 13 (.mv (.t 1)), r 14 (.ib .sub .u64 (.t 12) (.t 13)), r 15 (.fld (.t 2) 2), r0 (.st (.t 15) (.t 14) 1)])
 (.seq (.reg false [r 16 (.lda (.t 2) 3), r0 (.st (.t 4) (.t 16) 3), r 5 (.mv (.k (.v (.bool true))))])
 .ret))))
theorem Zq9 : compF Try.prog Try.f57 = some (Zi7, [.c 4 3 true, .t 5], 17) := by kernel_rfl
-- ros 57 [none, none] TYS [(.st [(.int .u64), (.int .u64), (.int .u64)]), (.int .u64)]

def Zi8 : IC := (.seq (.reg false [r 1 (.box 67 6 (.t 0)), r 2 (.mv (.k (.v (.bool false))))])
 (.seq (.reg false [r 4 (.fld (.t 1) 1), r 5 (.ld (.t 4)), r 6 (.len false (.t 5)), r 3 (.mv (.t 6))])
 (.seq (.seq (.reg false [r 7 (.mv (.t 3)), r 8 (.ib .gt .i64 (.t 7) (.k (.v (.int .i64 8)))), r 9 (.mv (.t 8)), ⟨some 10, some (9, false), [], .fld (.t 1) 5⟩, ⟨some 11, some (9, false), [], .ld (.t 10)⟩, ⟨some 12, some (9, false), [], .len false (.t 11)⟩, ⟨some 13, some (9, false), [], .mv (.t 3)⟩, ⟨some 14, some (9, false), [], .ib .ne .i64 (.t 12) (.t 13)⟩, r 15 (.pick (.t 9) (.k (.v (.bool true))) (.t 14)), r 16 (.mv (.t 15)), ⟨some 17, some (16, false), [], .fld (.t 1) 2⟩, ⟨some 18, some (16, false), [], .fld (.t 17) 2⟩, ⟨some 19, some (16, false), [], .ld (.t 18)⟩, ⟨some 20, some (16, false), [], .len false (.t 19)⟩, ⟨some 21, some (16, false), [], .mv (.t 3)⟩, ⟨some 22, some (16, false), [], .ib .ne .i64 (.t 20) (.t 21)⟩, r 23 (.pick (.t 16) (.k (.v (.bool true))) (.t 22)), r 24 (.mv (.t 23)), ⟨some 25, some (24, false), [], .fld (.t 1) 2⟩, ⟨some 26, some (24, false), [], .fld (.t 25) 0⟩, ⟨some 27, some (24, false), [], .ld (.t 26)⟩, ⟨some 28, some (24, false), [], .ib .lt .i64 (.t 27) (.k (.v (.int .i64 0)))⟩, r 29 (.pick (.t 24) (.k (.v (.bool true))) (.t 28)), r 30 (.mv (.t 29)), ⟨some 31, some (30, false), [], .fld (.t 1) 2⟩, ⟨some 32, some (30, false), [], .fld (.t 31) 0⟩, ⟨some 33, some (30, false), [], .ld (.t 32)⟩, ⟨some 34, some (30, false), [], .mv (.t 3)⟩, ⟨some 35, some (30, false), [], .mx (.t 34) (.k (.v (.int .i64 1)))⟩, ⟨some 36, some (30, false), [], .ib .ge .i64 (.t 33) (.t 35)⟩, r 37 (.pick (.t 30) (.k (.v (.bool true))) (.t 36))])
 (.cond (.t 37)
 (.seq (.reg false [r 2 (.mv (.k (.v (.bool false))))])
 .ret)
 .skip))
 (.seq (.reg false [r 38 (.fld (.t 1) 5), r 39 (.ld (.t 38)), r 40 (.mkfn 87 [(.t 1)]), r 41 (.call 86 [(.t 39), (.t 40)]), r 42 (.bnot (.t 41)), r 2 (.mv (.t 42))])
 .ret))))
theorem Zqa : compF Try.prog Try.f58 = some (Zi8, [.t 2], 43) := by kernel_rfl
-- ros 58 [none] TYS [(.st [(.int .u64), (.ints 46 .u64), (.st [(.int .i64), .bool, (.ints 46 .u64)]), (.row 72 (.row 75 (.st [(.int .u64), (.int .i64), (.int .i64)])))])]

def Zi9 : IC := (.seq (.reg false [r 3 (.box 65 3 (.t 1)), r 4 (.mv (.k (.v (.bool false))))])
 (.seq (.seq (.reg true [r 5 (.mv (.t 0)), ⟨some 6, none, [0], .isn 0 false (.t 5)⟩, ⟨some 7, none, [1, 0], .mv (.t 6)⟩, ⟨some 8, some (7, false), [2, 1, 0], .fld (.t 3) 2⟩, ⟨some 9, some (7, false), [3, 2, 1, 0], .ld (.t 8)⟩, ⟨some 10, some (7, false), [4, 3, 2, 1, 0], .len false (.t 9)⟩, ⟨some 11, some (7, false), [2, 1, 0], .mv (.t 0)⟩, ⟨some 12, some (7, false), [6, 2, 1, 0], .chk (.t 11)⟩, ⟨some 13, some (7, false), [7, 6, 2, 1, 0], .fld (.t 12) 0⟩, ⟨some 14, some (7, false), [8, 7, 6, 2, 1, 0], .ld (.t 13)⟩, ⟨some 15, some (7, false), [9, 8, 7, 6, 2, 1, 0], .len false (.t 14)⟩, ⟨some 16, some (7, false), [5, 4, 3, 2, 1, 0, 10, 9, 8, 7, 6], .ib .ne .i64 (.t 10) (.t 15)⟩, ⟨some 17, none, [2, 1, 0, 11, 5, 4, 3, 10, 9, 8, 7, 6], .pick (.t 7) (.k (.v (.bool true))) (.t 16)⟩, ⟨some 18, none, [12, 2, 1, 0, 11, 5, 4, 3, 10, 9, 8, 7, 6], .mv (.t 17)⟩, ⟨some 19, some (18, false), [13, 12, 2, 1, 0, 11, 5, 4, 3, 10, 9, 8, 7, 6], .fld (.t 3) 0⟩, ⟨some 20, some (18, false), [14, 13, 12, 2, 1, 0, 11, 5, 4, 3, 10, 9, 8, 7, 6], .ld (.t 19)⟩, ⟨some 21, some (18, false), [15, 14, 13, 12, 2, 1, 0, 11, 5, 4, 3, 10, 9, 8, 7, 6], .ib .lt .i64 (.t 20) (.k (.v (.int .i64 0)))⟩, ⟨some 22, none, [13, 12, 2, 1, 0, 11, 5, 4, 3, 10, 9, 8, 7, 6, 16, 15, 14], .pick (.t 18) (.k (.v (.bool true))) (.t 21)⟩, ⟨some 23, none, [17, 13, 12, 2, 1, 0, 11, 5, 4, 3, 10, 9, 8, 7, 6, 16, 15, 14], .mv (.t 22)⟩, ⟨some 24, some (23, false), [18, 17, 13, 12, 2, 1, 0, 11, 5, 4, 3, 10, 9, 8, 7, 6, 16, 15, 14], .fld (.t 3) 0⟩, ⟨some 25, some (23, false), [19, 18, 17, 13, 12, 2, 1, 0, 11, 5, 4, 3, 10, 9, 8, 7, 6, 16, 15, 14], .ld (.t 24)⟩, ⟨some 26, some (23, false), [18, 17, 13, 12, 2, 1, 0, 11, 5, 4, 3, 10, 9, 8, 7, 6, 16, 15, 14], .fld (.t 3) 2⟩, ⟨some 27, some (23, false), [21, 18, 17, 13, 12, 2, 1, 0, 11, 5, 4, 3, 10, 9, 8, 7, 6, 16, 15, 14], .ld (.t 26)⟩, ⟨some 28, some (23, false), [22, 21, 18, 17, 13, 12, 2, 1, 0, 11, 5, 4, 3, 10, 9, 8, 7, 6, 16, 15, 14], .len false (.t 27)⟩, ⟨some 29, some (23, false), [23, 22, 21, 18, 17, 13, 12, 2, 1, 0, 11, 5, 4, 3, 10, 9, 8, 7, 6, 16, 15, 14], .mx (.t 28) (.k (.v (.int .i64 1)))⟩, ⟨some 30, some (23, false), [20, 19, 18, 17, 13, 12, 2, 1, 0, 11, 5, 4, 3, 10, 9, 8, 7, 6, 16, 15, 14, 24, 23, 22, 21], .ib .ge .i64 (.t 25) (.t 29)⟩, ⟨some 31, none, [18, 17, 13, 12, 2, 1, 0, 11, 5, 4, 3, 10, 9, 8, 7, 6, 16, 15, 14, 25, 20, 19, 24, 23, 22, 21], .pick (.t 23) (.k (.v (.bool true))) (.t 30)⟩])
 (.cond (.t 31)
 (.seq (.reg false [r 4 (.mv (.k (.v (.bool false))))])
 .ret)
 .skip))
 (.seq (.reg false [r 32 (.mv (.t 0)), r 33 (.lda (.t 3) 3), r 34 (.call 77 [(.t 33)]), r 35 (.chk (.t 32)), r 36 (.fld (.t 35) 1), r0 (.st (.t 36) (.t 34) 3)])
 (.seq (.reg false [r 4 (.mv (.k (.v (.bool true))))])
 .ret))))
theorem Zqb : compF Try.prog Try.f59 = some (Zi9, [.t 4], 37) := by kernel_rfl
-- ros 59 [none, none] TYS [none, (.st [(.int .i64), .bool, (.ints 46 .u64)])]

def Zia : IC := (.seq (.reg false [r 4 (.new 100 [(.v (.int .u64 0)), (.v (.int .u64 0)), (.v (.int .u64 0))])])
 (.seq (.reg false [r 5 (.mv (.t 0)), r 6 (.mv (.t 1)), r 7 (.mv (.t 1)), r 8 (.build [(.v (.int .u64 0)), (.v (.int .u64 0)), (.v (.int .u64 0))] [(0, 1, (.t 5)), (1, 1, (.t 6)), (2, 1, (.t 7))]), r0 (.st (.t 4) (.t 8) 3)])
 .ret))
theorem Zqc : compF Try.prog Try.f60 = some (Zia, [.c 4 3 true], 9) := by kernel_rfl
-- ros 60 [none, none] TYS [(.int .u64), (.int .u64)]

def Zib : IC := (.seq (.reg false [r 2 (.mv (.k (.v (.pointer none))))])
 (.seq (.reg false [r 3 (.mv (.t 0)), r 4 (.build [(.v (.int .i64 0)), .nsl, (.v (.int .i64 0)), (.v (.int .i64 0))] [(0, 1, (.t 3))]), r 5 (.box 144 4 (.t 4)), r 2 (.mv (.t 5))])
 .ret))
theorem Zqd : compF Try.prog Try.f61 = some (Zib, [.t 2], 6) := by kernel_rfl
-- ros 61 [none] TYS [(.int .i64)]

def Zic : IC := (.seq (.reg false [r 2 (.mv (.k (.v (.pointer none))))])
 (.seq (.reg true [r 3 (.mv (.t 0)), ⟨some 4, none, [0], .call 89 [(.t 3)]⟩, r 5 (.mv (.t 0)), ⟨some 6, none, [2], .len false (.t 5)⟩, ⟨some 7, none, [3, 2], .mks (.ints 46 .u64) 8 (.t 6) (.t 6)⟩, ⟨some 8, none, [4, 3, 2], .build [(.v (.int .i64 0)), (.v (.bool false)), .nsl] [(2, 1, (.t 7))]⟩, ⟨some 9, none, [1, 0, 5, 4, 3, 2], .build [.nsl, (.v (.int .i64 0)), (.v (.bool false)), .nsl] [(0, 1, (.t 4)), (1, 3, (.t 8))]⟩, ⟨some 10, none, [6, 1, 0, 5, 4, 3, 2], .box 169 4 (.t 9)⟩, ⟨some 2, none, [7, 6, 1, 0, 5, 4, 3, 2], .mv (.t 10)⟩])
 .ret))
theorem Zqe : compF Try.prog Try.f62 = some (Zic, [.t 2], 11) := by kernel_rfl
-- ros 62 [(some (.ints 46 .u64))] TYS [(.ints 46 .u64)]

def Zid : IC := (.seq (.reg false [r 4 (.mv (.k (.v (.bool false))))])
 (.seq (.seq (.reg false [r 6 (.mv (.t 0)), r 7 (.len false (.t 6)), r 8 (.mv (.t 1)), r 9 (.len false (.t 8)), r 10 (.ib .ne .i64 (.t 7) (.t 9))])
 (.cond (.t 10)
 (.seq (.reg false [r 4 (.mv (.k (.v (.bool false))))])
 .ret)
 .skip))
 (.seq (.seq (.reg false [r 11 (.mv (.t 0)), r 12 (.len false (.t 11)), r 13 (.mv (.k (.v (.int .i64 0))))])
 (.block 0
 (.loop
 (.seq (.reg false [r 14 (.ib .lt .i64 (.t 13) (.t 12))])
 (.seq (.cond (.t 14)
 .skip
 (.exit 0))
 (.seq (.block 1
 (.seq (.reg false [r 15 (.mv (.t 13)), r 5 (.mv (.t 15))])
 (.seq (.reg true [r 16 (.mv (.t 0)), r 17 (.mv (.t 5)), ⟨some 18, none, [0, 1], .idx (.t 16) (.t 17) 6⟩, ⟨some 19, none, [2, 0, 1], .lda (.t 18) 6⟩, r 20 (.mv (.t 1)), r 21 (.mv (.t 5)), ⟨some 22, none, [4, 5], .idx (.t 20) (.t 21) 6⟩, ⟨some 23, none, [6, 4, 5], .lda (.t 22) 6⟩, ⟨some 24, none, [3, 2, 0, 1, 7, 6, 4, 5], .steq [2, 0, 0, 0, 0, 1] true (.t 19) (.t 23)⟩])
 (.cond (.t 24)
 (.seq (.reg false [r 4 (.mv (.k (.v (.bool false))))])
 .ret)
 .skip))))
 (.reg false [r 25 (.ib .add .i64 (.t 13) (.k (.v (.int .i64 1)))), r 13 (.mv (.t 25))])))))))
 (.seq (.reg false [r 4 (.mv (.k (.v (.bool true))))])
 .ret))))
theorem Zqf : compF Try.prog Try.f63 = some (Zid, [.t 4], 26) := by kernel_rfl
-- ros 63 [(some (.row 83 (.st [.str, (.int .u64), (.int .u64), (.int .u64), (.int .i64), .bool]))), (some (.row 83 (.st [.str, (.int .u64), (.int .u64), (.int .u64), (.int .i64), .bool])))] TYS [(.row 83 (.st [.str, (.int .u64), (.int .u64), (.int .u64), (.int .i64), .bool])), (.row 83 (.st [.str, (.int .u64), (.int .u64), (.int .u64), (.int .i64), .bool]))]

def Zie : IC := (.seq (.reg false [r 4 (.mv (.k (.v (.bool false))))])
 (.seq (.seq (.reg false [r 6 (.mv (.t 0)), r 7 (.len false (.t 6)), r 8 (.mv (.t 1)), r 9 (.len false (.t 8)), r 10 (.ib .ne .i64 (.t 7) (.t 9))])
 (.cond (.t 10)
 (.seq (.reg false [r 4 (.mv (.k (.v (.bool false))))])
 .ret)
 .skip))
 (.seq (.seq (.reg false [r 11 (.mv (.t 0)), r 12 (.len false (.t 11)), r 13 (.mv (.k (.v (.int .i64 0))))])
 (.block 0
 (.loop
 (.seq (.reg false [r 14 (.ib .lt .i64 (.t 13) (.t 12))])
 (.seq (.cond (.t 14)
 .skip
 (.exit 0))
 (.seq (.block 1
 (.seq (.reg false [r 15 (.mv (.t 13)), r 5 (.mv (.t 15))])
 (.seq (.reg true [r 16 (.mv (.t 0)), r 17 (.mv (.t 5)), ⟨some 18, none, [0, 1], .idx (.t 16) (.t 17) 3⟩, ⟨some 19, none, [2, 0, 1], .lda (.t 18) 3⟩, r 20 (.mv (.t 1)), r 21 (.mv (.t 5)), ⟨some 22, none, [4, 5], .idx (.t 20) (.t 21) 3⟩, ⟨some 23, none, [6, 4, 5], .lda (.t 22) 3⟩, ⟨some 24, none, [3, 2, 0, 1, 7, 6, 4, 5], .steq [0, 0, 0] true (.t 19) (.t 23)⟩])
 (.cond (.t 24)
 (.seq (.reg false [r 4 (.mv (.k (.v (.bool false))))])
 .ret)
 .skip))))
 (.reg false [r 25 (.ib .add .i64 (.t 13) (.k (.v (.int .i64 1)))), r 13 (.mv (.t 25))])))))))
 (.seq (.reg false [r 4 (.mv (.k (.v (.bool true))))])
 .ret))))
theorem Zqg : compF Try.prog Try.f64 = some (Zie, [.t 4], 26) := by kernel_rfl
-- ros 64 [(some (.row 96 (.st [(.int .i64), (.int .i64), (.int .i64)]))), (some (.row 96 (.st [(.int .i64), (.int .i64), (.int .i64)])))] TYS [(.row 96 (.st [(.int .i64), (.int .i64), (.int .i64)])), (.row 96 (.st [(.int .i64), (.int .i64), (.int .i64)]))]

def Zif : IC := (.seq (.reg false [r 4 (.mv (.k .nsl))])
 (.seq (.reg false [r 5 (.mv (.k .nsl))])
 (.seq (.block 0
 (.loop
 (.seq (.seq (.reg false [r 6 (.mv (.t 0)), r 7 (.len false (.t 6)), r 8 (.ib .gt .i64 (.t 7) (.k (.v (.int .i64 0)))), r 9 (.mv (.t 8)), ⟨some 10, some (9, true), [], .mv (.t 1)⟩, ⟨some 11, some (9, true), [], .len false (.t 10)⟩, ⟨some 12, some (9, true), [], .ib .gt .i64 (.t 11) (.k (.v (.int .i64 0)))⟩, r 13 (.pick (.t 9) (.t 12) (.k (.v (.bool false))))])
 (.cond (.t 13)
 .skip
 (.exit 0)))
 (.block 1
 (.seq (.reg true [r 14 (.mv (.t 1)), ⟨some 15, none, [0], .idx (.t 14) (.k (.v (.int .i64 0))) 3⟩, ⟨some 16, none, [1, 0], .fld (.t 15) 0⟩, ⟨some 17, none, [2, 1, 0], .ld (.t 16)⟩, r 18 (.mv (.t 0)), ⟨some 19, none, [4], .idx (.t 18) (.k (.v (.int .i64 0))) 3⟩, ⟨some 20, none, [5, 4], .fld (.t 19) 0⟩, ⟨some 21, none, [6, 5, 4], .ld (.t 20)⟩, ⟨some 22, none, [3, 2, 1, 0, 7, 6, 5, 4], .ib .lt .u64 (.t 17) (.t 21)⟩])
 (.cond (.t 22)
 (.reg true [r 23 (.mv (.t 5)), r 24 (.mv (.t 1)), ⟨some 25, none, [1], .idx (.t 24) (.k (.v (.int .i64 0))) 3⟩, ⟨some 26, none, [2, 1], .lda (.t 25) 3⟩, ⟨some 27, none, [3, 2, 1], .bsl (.row 75 (.st [(.int .u64), (.int .i64), (.int .i64)])) 1 [(.v (.int .u64 0)), (.v (.int .i64 0)), (.v (.int .i64 0))] [(0, 3, (.t 26))]⟩, ⟨some 28, none, [0, 4, 3, 2, 1], .app (.row 75 (.st [(.int .u64), (.int .i64), (.int .i64)])) 24 (.t 23) (.t 27)⟩, r 29 (.mv (.t 1)), ⟨some 30, none, [6], .sls (.t 29) (some (.k (.v (.int .i64 1)))) none 3⟩, ⟨some 5, none, [5, 0, 4, 3, 2, 1], .mv (.t 28)⟩, ⟨some 1, none, [7, 6, 8, 5, 0, 4, 3, 2, 1], .mv (.t 30)⟩])
 (.reg true [r 31 (.mv (.t 5)), r 32 (.mv (.t 0)), ⟨some 33, none, [1], .idx (.t 32) (.k (.v (.int .i64 0))) 3⟩, ⟨some 34, none, [2, 1], .lda (.t 33) 3⟩, ⟨some 35, none, [3, 2, 1], .bsl (.row 75 (.st [(.int .u64), (.int .i64), (.int .i64)])) 1 [(.v (.int .u64 0)), (.v (.int .i64 0)), (.v (.int .i64 0))] [(0, 3, (.t 34))]⟩, ⟨some 36, none, [0, 4, 3, 2, 1], .app (.row 75 (.st [(.int .u64), (.int .i64), (.int .i64)])) 24 (.t 31) (.t 35)⟩, r 37 (.mv (.t 0)), ⟨some 38, none, [6], .sls (.t 37) (some (.k (.v (.int .i64 1)))) none 3⟩, ⟨some 5, none, [5, 0, 4, 3, 2, 1], .mv (.t 36)⟩, ⟨some 0, none, [7, 6, 8, 5, 0, 4, 3, 2, 1], .mv (.t 38)⟩])))))))
 (.seq (.reg false [r 39 (.mv (.t 5)), r 40 (.mv (.t 0)), r 41 (.mv (.t 1)), r 42 (.bsl (.row 72 (.row 75 (.st [(.int .u64), (.int .i64), (.int .i64)]))) 3 [.nsl, .nsl, .nsl] [(0, 1, (.t 39)), (1, 1, (.t 40)), (2, 1, (.t 41))]), r 43 (.call 90 [(.t 42)]), r 4 (.mv (.t 43))])
 .ret))))
theorem Zqh : compF Try.prog Try.f65 = some (Zif, [.t 4], 44) := by kernel_rfl
-- ros 65 [(some (.row 75 (.st [(.int .u64), (.int .i64), (.int .i64)]))), (some (.row 75 (.st [(.int .u64), (.int .i64), (.int .i64)])))] TYS [(.row 75 (.st [(.int .u64), (.int .i64), (.int .i64)])), (.row 75 (.st [(.int .u64), (.int .i64), (.int .i64)]))]

def Zig : IC := (.seq (.reg false [r 2 (.mv (.k .nsl))])
 (.seq (.reg false [r 3 (.mv (.k .nsl))])
 (.seq (.seq (.reg false [r 5 (.mv (.t 0)), r 6 (.call 33 [(.t 5)]), r 7 (.mv (.k (.v (.int .i64 0))))])
 (.block 0
 (.loop
 (.seq (.reg false [r 8 (.ib .lt .i64 (.t 7) (.t 6))])
 (.seq (.cond (.t 8)
 .skip
 (.exit 0))
 (.seq (.block 1
 (.seq (.reg false [r 9 (.mv (.t 7)), r 4 (.mv (.t 9))])
 (.reg true [r 10 (.mv (.t 3)), r 11 (.mv (.t 0)), ⟨some 12, none, [1], .chk (.t 11)⟩, ⟨some 13, none, [2, 1], .fld (.t 12) 1⟩, ⟨some 14, none, [3, 2, 1], .ld (.t 13)⟩, r 15 (.mv (.t 0)), r 16 (.mv (.t 4)), ⟨some 17, none, [5, 6], .call 85 [(.t 15), (.t 16)]⟩, ⟨some 18, none, [4, 3, 2, 1, 7, 5, 6], .idx (.t 14) (.t 17) 3⟩, ⟨some 19, none, [8, 4, 3, 2, 1, 7, 5, 6], .lda (.t 18) 3⟩, ⟨some 20, none, [9, 8, 4, 3, 2, 1, 7, 5, 6], .bsl (.row 75 (.st [(.int .u64), (.int .i64), (.int .i64)])) 1 [(.v (.int .u64 0)), (.v (.int .i64 0)), (.v (.int .i64 0))] [(0, 3, (.t 19))]⟩, ⟨some 21, none, [0, 10, 9, 8, 4, 3, 2, 1, 7, 5, 6], .app (.row 75 (.st [(.int .u64), (.int .i64), (.int .i64)])) 24 (.t 10) (.t 20)⟩, ⟨some 3, none, [11, 0, 10, 9, 8, 4, 3, 2, 1, 7, 5, 6], .mv (.t 21)⟩])))
 (.reg false [r 22 (.ib .add .i64 (.t 7) (.k (.v (.int .i64 1)))), r 7 (.mv (.t 22))])))))))
 (.seq (.reg false [r 23 (.mv (.t 3)), r 2 (.mv (.t 23))])
 .ret))))
theorem Zqi : compF Try.prog Try.f66 = some (Zig, [.t 2], 24) := by kernel_rfl
-- ros 66 [none] TYS [none]

def Zih : IC := (.seq (.reg false [r 3 (.box 75 3 (.t 1))])
 (.seq (.seq (.reg true [r 4 (.mv (.t 0)), ⟨some 5, none, [0], .chk (.t 4)⟩, ⟨some 6, none, [1, 0], .fld (.t 5) 3⟩, ⟨some 7, none, [2, 1, 0], .ld (.t 6)⟩, r 8 (.mv (.t 0)), ⟨some 9, none, [4], .chk (.t 8)⟩, ⟨some 10, none, [5, 4], .fld (.t 9) 1⟩, ⟨some 11, none, [6, 5, 4], .ld (.t 10)⟩, ⟨some 12, none, [7, 6, 5, 4], .len false (.t 11)⟩, ⟨some 13, none, [3, 2, 1, 0, 8, 7, 6, 5, 4], .ib .eq .i64 (.t 7) (.t 12)⟩])
 (.cond (.t 13)
 (.reg false [r 14 (.mv (.t 0)), r 15 (.call 91 [(.t 14)])])
 .skip))
 (.seq (.reg true [r 16 (.mv (.t 0)), ⟨some 17, none, [0], .chk (.t 16)⟩, ⟨some 18, none, [1, 0], .fld (.t 17) 1⟩, ⟨some 19, none, [2, 1, 0], .ld (.t 18)⟩, r 20 (.mv (.t 0)), r 21 (.mv (.t 0)), ⟨some 22, none, [5], .chk (.t 21)⟩, ⟨some 23, none, [6, 5], .fld (.t 22) 3⟩, ⟨some 24, none, [7, 6, 5], .ld (.t 23)⟩, ⟨some 25, none, [4, 8, 7, 6, 5], .call 85 [(.t 20), (.t 24)]⟩, r 26 (.lda (.t 3) 3), ⟨some 27, none, [3, 2, 1, 0, 9, 4, 8, 7, 6, 5, 10], .idx (.t 19) (.t 25) 3⟩, ⟨none, none, [11, 3, 2, 1, 0, 9, 4, 8, 7, 6, 5, 10], .st (.t 27) (.t 26) 3⟩])
 (.reg false [r 28 (.mv (.t 0)), r 29 (.chk (.t 28)), r 30 (.fld (.t 29) 3), r 31 (.ld (.t 30)), r 32 (.ib .add .i64 (.t 31) (.k (.v (.int .i64 1)))), r 33 (.chk (.t 28)), r 34 (.fld (.t 33) 3), r0 (.st (.t 34) (.t 32) 1)]))))
theorem Zqj : compF Try.prog Try.f67 = some (Zih, [], 35) := by kernel_rfl
-- ros 67 [none, none] TYS [none, (.st [(.int .u64), (.int .i64), (.int .i64)])]

def Zii : IC := (.seq (.reg false [r 1 (.box 65 3 (.t 0)), r 2 (.new 65 [(.v (.int .i64 0)), (.v (.bool false)), .nsl])])
 (.seq (.reg false [r 4 (.fld (.t 1) 2), r 5 (.ld (.t 4)), r 6 (.len false (.t 5)), r 7 (.mks (.ints 46 .u64) 8 (.t 6) (.t 6)), r 3 (.mv (.t 7))])
 (.seq (.reg false [r 8 (.mv (.t 3)), r 9 (.fld (.t 1) 2), r 10 (.ld (.t 9)), r 11 (.copy (.t 8) (.t 10) 1)])
 (.seq (.reg false [r 12 (.fld (.t 1) 0), r 13 (.ld (.t 12)), r 14 (.fld (.t 1) 1), r 15 (.ld (.t 14)), r 16 (.mv (.t 3)), r 17 (.build [(.v (.int .i64 0)), (.v (.bool false)), .nsl] [(0, 1, (.t 13)), (1, 1, (.t 15)), (2, 1, (.t 16))]), r0 (.st (.t 2) (.t 17) 3)])
 .ret))))
theorem Zqk : compF Try.prog Try.f77 = some (Zii, [.c 2 3 true], 18) := by kernel_rfl
-- ros 77 [none] TYS [(.st [(.int .i64), .bool, (.ints 46 .u64)])]

def Zij : IC := (.seq (.reg false [r 2 (.mv (.k .nsl))])
 (.seq (.seq (.reg false [r 3 (.mv (.t 0)), r 4 (.isn 1 false (.t 3))])
 (.cond (.t 4)
 (.seq (.reg false [r 2 (.mv (.k .nsl))])
 .ret)
 .skip))
 (.seq (.reg false [r 5 (.bsl (.row 83 (.st [.str, (.int .u64), (.int .u64), (.int .u64), (.int .i64), .bool])) 0 [] []), r 6 (.mv (.t 0)), r 7 (.app (.row 83 (.st [.str, (.int .u64), (.int .u64), (.int .u64), (.int .i64), .bool])) 56 (.t 5) (.t 6)), r 2 (.mv (.t 7))])
 .ret)))
theorem Zql : compF Try.prog Try.f78 = some (Zij, [.t 2], 8) := by kernel_rfl
-- ros 78 [(some (.row 83 (.st [.str, (.int .u64), (.int .u64), (.int .u64), (.int .i64), .bool])))] TYS [(.row 83 (.st [.str, (.int .u64), (.int .u64), (.int .u64), (.int .i64), .bool]))]

def Zik : IC := (.seq (.reg false [r 2 (.mv (.k .nsl))])
 (.seq (.seq (.reg false [r 3 (.mv (.t 0)), r 4 (.isn 1 false (.t 3))])
 (.cond (.t 4)
 (.seq (.reg false [r 2 (.mv (.k .nsl))])
 .ret)
 .skip))
 (.seq (.reg false [r 5 (.bsl (.row 96 (.st [(.int .i64), (.int .i64), (.int .i64)])) 0 [] []), r 6 (.mv (.t 0)), r 7 (.app (.row 96 (.st [(.int .i64), (.int .i64), (.int .i64)])) 24 (.t 5) (.t 6)), r 2 (.mv (.t 7))])
 .ret)))
theorem Zqm : compF Try.prog Try.f79 = some (Zik, [.t 2], 8) := by kernel_rfl
-- ros 79 [(some (.row 96 (.st [(.int .i64), (.int .i64), (.int .i64)])))] TYS [(.row 96 (.st [(.int .i64), (.int .i64), (.int .i64)]))]

def Zim : IC := (.seq (.reg false [r 4 (.mv (.k (.v (.int .i64 0))))])
 (.seq (.seq (.reg false [r 6 (.mv (.t 0)), r 7 (.len false (.t 6)), r 8 (.mv (.k (.v (.int .i64 0))))])
 (.block 0
 (.loop
 (.seq (.reg false [r 9 (.ib .lt .i64 (.t 8) (.t 7))])
 (.seq (.cond (.t 9)
 .skip
 (.exit 0))
 (.seq (.block 1
 (.seq (.reg false [r 10 (.mv (.t 8)), r 5 (.mv (.t 10))])
 (.seq (.reg false [r 11 (.mv (.t 1)), r 12 (.mv (.t 0)), r 13 (.mv (.t 5)), r 14 (.idx (.t 12) (.t 13) 3), r 15 (.lda (.t 14) 3), r 16 (.callv (.t 11) [(.t 15)])])
 (.cond (.t 16)
 (.seq (.reg false [r 17 (.mv (.t 5)), r 4 (.mv (.t 17))])
 .ret)
 .skip))))
 (.reg false [r 18 (.ib .add .i64 (.t 8) (.k (.v (.int .i64 1)))), r 8 (.mv (.t 18))])))))))
 (.seq (.reg false [r 4 (.mv (.k (.v (.int .i64 (-1)))))])
 .ret)))
theorem Zqo : compF Try.prog Try.f80 = some (Zim, [.t 4], 19) := by kernel_rfl
-- ros 80 [(some (.row 96 (.st [(.int .i64), (.int .i64), (.int .i64)]))), none] TYS [(.row 96 (.st [(.int .i64), (.int .i64), (.int .i64)])), none]

def Zin : IC := (.seq (.reg false [r 2 (.box 96 3 (.t 0)), r 3 (.mv (.k (.v (.bool false))))])
 (.seq (.reg false [r 4 (.fld (.t 2) 0), r 5 (.ld (.t 4)), r 6 (.ld (.t 1)), r 7 (.ib .le .i64 (.t 5) (.t 6)), r 8 (.mv (.t 7)), ⟨some 9, some (8, true), [], .ld (.t 1)⟩, ⟨some 10, some (8, true), [], .fld (.t 2) 1⟩, ⟨some 11, some (8, true), [], .ld (.t 10)⟩, ⟨some 12, some (8, true), [], .ib .le .i64 (.t 9) (.t 11)⟩, r 13 (.pick (.t 8) (.t 12) (.k (.v (.bool false)))), r 3 (.mv (.t 13))])
 .ret))
theorem Zqp : compF Try.prog Try.f81 = some (Zin, [.t 3], 14) := by kernel_rfl
-- ros 81 [none] TYS [(.st [(.int .i64), (.int .i64), (.int .i64)])]

def Zio : IC := (.seq (.reg false [r 8 (.mv (.k (.v (.int .u64 0))))])
 (.seq (.reg false [r 9 (.mv (.t 0)), r 10 (.mv (.t 3)), r 11 (.mv (.t 0)), r 12 (.mv (.t 1)), r 13 (.mv (.t 2)), r 14 (.call 98 [(.t 12), (.t 13)]), r 15 (.call 97 [(.t 11), (.t 14)]), r 16 (.mn (.t 10) (.t 15)), r 17 (.mx (.t 9) (.t 16)), r 8 (.mv (.t 17))])
 .ret))
theorem Zqq : compF Try.prog Try.f82 = some (Zio, [.t 8], 18) := by kernel_rfl
-- ros 82 [none, none, none, none] TYS [(.int .u64), (.int .u64), (.int .u64), (.int .u64)]

def Zip : IC := (.seq (.reg false [r 2 (.new 75 [(.v (.int .u64 0)), (.v (.int .i64 0)), (.v (.int .i64 0))]), r 3 (.mv (.k (.v (.bool false))))])
 (.seq (.seq (.reg false [r 4 (.mv (.t 0)), r 5 (.call 33 [(.t 4)]), r 6 (.ib .eq .i64 (.t 5) (.k (.v (.int .i64 0))))])
 (.cond (.t 6)
 (.seq (.reg false [r 7 (.build [(.v (.int .u64 0)), (.v (.int .i64 0)), (.v (.int .i64 0))] []), r0 (.st (.t 2) (.t 7) 3), r 3 (.mv (.k (.v (.bool false))))])
 .ret)
 .skip))
 (.seq (.reg true [r 8 (.mv (.t 0)), ⟨some 9, none, [0], .chk (.t 8)⟩, ⟨some 10, none, [1, 0], .fld (.t 9) 1⟩, ⟨some 11, none, [2, 1, 0], .ld (.t 10)⟩, r 12 (.mv (.t 0)), ⟨some 13, none, [4], .chk (.t 12)⟩, ⟨some 14, none, [5, 4], .fld (.t 13) 2⟩, ⟨some 15, none, [6, 5, 4], .ld (.t 14)⟩, ⟨some 16, none, [3, 2, 1, 0, 7, 6, 5, 4], .idx (.t 11) (.t 15) 3⟩, ⟨some 17, none, [8, 3, 2, 1, 0, 7, 6, 5, 4], .lda (.t 16) 3⟩, ⟨none, none, [9, 8, 3, 2, 1, 0, 7, 6, 5, 4], .st (.t 2) (.t 17) 3⟩, ⟨some 3, none, [10, 9, 8, 3, 2, 1, 0, 7, 6, 5, 4], .mv (.k (.v (.bool true)))⟩])
 .ret)))
theorem Zqr : compF Try.prog Try.f83 = some (Zip, [.c 2 3 true, .t 3], 18) := by kernel_rfl
-- ros 83 [none] TYS [none]

def Ziq : IC := (.seq (.reg false [r 3 (.box 133 2 (.t 1)), r 4 (.mv (.k (.v (.bool false))))])
 (.seq (.reg true [r 6 (.mv (.t 0)), ⟨some 7, none, [0], .chk (.t 6)⟩, ⟨some 8, none, [1, 0], .fld (.t 7) 1⟩, ⟨some 9, none, [2, 1, 0], .fld (.t 8) 2⟩, ⟨some 10, none, [3, 2, 1, 0], .ld (.t 9)⟩, r 11 (.mv (.t 0)), ⟨some 12, none, [5], .chk (.t 11)⟩, ⟨some 13, none, [6, 5], .fld (.t 12) 1⟩, ⟨some 14, none, [7, 6, 5], .fld (.t 13) 0⟩, ⟨some 15, none, [8, 7, 6, 5], .ld (.t 14)⟩, ⟨some 16, none, [4, 3, 2, 1, 0, 9, 8, 7, 6, 5], .idx (.t 10) (.t 15) 1⟩, ⟨some 5, none, [10, 4, 3, 2, 1, 0, 9, 8, 7, 6, 5], .mv (.t 16)⟩])
 (.seq (.seq (.reg false [r 17 (.fld (.t 3) 0), r 18 (.ld (.t 17)), r 19 (.ib .eq .u64 (.t 18) (.k (.v (.int .u64 0)))), r 20 (.mv (.t 19)), ⟨some 21, some (20, false), [], .fld (.t 3) 1⟩, ⟨some 22, some (20, false), [], .ld (.t 21)⟩, ⟨some 23, some (20, false), [], .bnot (.t 22)⟩, r 24 (.pick (.t 20) (.k (.v (.bool true))) (.t 23))])
 (.cond (.t 24)
 (.seq (.reg false [r 25 (.mv (.t 5)), r 26 (.chk (.t 25)), r0 (.st (.t 26) (.k (.v (.int .u64 0))) 1)])
 (.seq (.reg false [r 27 (.mv (.t 0)), r 28 (.call 99 [(.t 27)])])
 (.seq (.reg false [r 4 (.mv (.k (.v (.bool false))))])
 .ret)))
 .skip))
 (.seq (.seq (.reg false [r 29 (.mv (.t 0)), r 30 (.chk (.t 29)), r 31 (.fld (.t 30) 1), r 32 (.fld (.t 31) 1), r 33 (.ld (.t 32)), r 34 (.bnot (.t 33))])
 (.cond (.t 34)
 (.reg true [r 35 (.mv (.t 5)), r 36 (.mv (.t 0)), r 37 (.mv (.t 5)), ⟨some 38, none, [2], .chk (.t 37)⟩, ⟨some 39, none, [3, 2], .ld (.t 38)⟩, r 40 (.mv (.t 0)), ⟨some 41, none, [5], .chk (.t 40)⟩, ⟨some 42, none, [6, 5], .fld (.t 41) 0⟩, ⟨some 43, none, [7, 6, 5], .ld (.t 42)⟩, r 44 (.mv (.t 0)), ⟨some 45, none, [9], .chk (.t 44)⟩, ⟨some 46, none, [10, 9], .fld (.t 45) 1⟩, ⟨some 47, none, [11, 10, 9], .fld (.t 46) 0⟩, ⟨some 48, none, [12, 11, 10, 9], .ld (.t 47)⟩, ⟨some 49, none, [8, 7, 6, 5, 13, 12, 11, 10, 9], .idx (.t 43) (.t 48) 1⟩, ⟨some 50, none, [14, 8, 7, 6, 5, 13, 12, 11, 10, 9], .ld (.t 49)⟩, ⟨some 51, none, [4, 3, 2, 15, 14, 8, 7, 6, 5, 13, 12, 11, 10, 9], .call 97 [(.t 39), (.t 50)]⟩, ⟨some 52, none, [0, 2, 3, 4, 5, 6, 7, 8, 9, 10, 11, 12, 13, 14, 15, 16], .chk (.t 35)⟩, ⟨none, none, [17, 0, 2, 3, 4, 5, 6, 7, 8, 9, 10, 11, 12, 13, 14, 15, 16], .st (.t 52) (.t 51) 1⟩, ⟨some 53, none, [1, 0, 2, 3, 4, 5, 6, 7, 8, 9, 10, 11, 12, 13, 14, 15, 16, 17, 18], .chk (.t 36)⟩, ⟨some 54, none, [19, 1, 0, 2, 3, 4, 5, 6, 7, 8, 9, 10, 11, 12, 13, 14, 15, 16, 17, 18], .fld (.t 53) 1⟩, ⟨some 55, none, [20, 19, 1, 0, 2, 3, 4, 5, 6, 7, 8, 9, 10, 11, 12, 13, 14, 15, 16, 17, 18], .fld (.t 54) 1⟩, ⟨none, none, [21, 20, 19, 1, 0, 2, 3, 4, 5, 6, 7, 8, 9, 10, 11, 12, 13, 14, 15, 16, 17, 18], .st (.t 55) (.k (.v (.bool true))) 1⟩])
 .skip))
 (.seq (.seq (.reg true [r 56 (.mv (.t 5)), ⟨some 57, none, [0], .chk (.t 56)⟩, ⟨some 58, none, [1, 0], .ld (.t 57)⟩, r 59 (.fld (.t 3) 0), ⟨some 60, none, [3], .ld (.t 59)⟩, ⟨some 61, none, [2, 1, 0, 4, 3], .ib .lt .u64 (.t 58) (.t 60)⟩])
 (.cond (.t 61)
 (.seq (.reg false [r 62 (.mv (.t 0)), r 63 (.call 99 [(.t 62)])])
 (.seq (.reg false [r 4 (.mv (.k (.v (.bool false))))])
 .ret))
 .skip))
 (.seq (.reg true [r 64 (.mv (.t 5)), ⟨some 65, none, [0], .chk (.t 64)⟩, ⟨some 66, none, [1, 0], .ld (.t 65)⟩, r 67 (.fld (.t 3) 0), ⟨some 68, none, [3], .ld (.t 67)⟩, ⟨some 69, none, [2, 1, 0, 4, 3], .ib .sub .u64 (.t 66) (.t 68)⟩, ⟨some 70, none, [0, 1, 2, 3, 4, 5], .chk (.t 64)⟩, ⟨none, none, [6, 0, 1, 2, 3, 4, 5], .st (.t 70) (.t 69) 1⟩])
 (.seq (.reg false [r 4 (.mv (.k (.v (.bool true))))])
 .ret)))))))
theorem Zqs : compF Try.prog Try.f84 = some (Ziq, [.t 4], 71) := by kernel_rfl
-- ros 84 [none, none] TYS [none, (.st [(.int .u64), .bool])]

def Zir : IC := (.seq (.reg false [r 4 (.mv (.k (.v (.int .i64 0))))])
 (.seq (.reg true [r 5 (.mv (.t 0)), ⟨some 6, none, [0], .chk (.t 5)⟩, ⟨some 7, none, [1, 0], .fld (.t 6) 2⟩, ⟨some 8, none, [2, 1, 0], .ld (.t 7)⟩, r 9 (.mv (.t 1)), ⟨some 10, none, [3, 2, 1, 0, 4], .ib .add .i64 (.t 8) (.t 9)⟩, r 11 (.mv (.t 0)), ⟨some 12, none, [6], .chk (.t 11)⟩, ⟨some 13, none, [7, 6], .fld (.t 12) 1⟩, ⟨some 14, none, [8, 7, 6], .ld (.t 13)⟩, ⟨some 15, none, [9, 8, 7, 6], .len false (.t 14)⟩, ⟨some 16, none, [5, 3, 2, 1, 0, 4, 10, 9, 8, 7, 6], .ib .rem .i64 (.t 10) (.t 15)⟩, ⟨some 4, none, [11, 5, 3, 2, 1, 0, 4, 10, 9, 8, 7, 6], .mv (.t 16)⟩])
 .ret))
theorem Zqt : compF Try.prog Try.f85 = some (Zir, [.t 4], 17) := by kernel_rfl
-- ros 85 [none, none] TYS [none, (.int .i64)]

def Zis : IC := (.seq (.reg false [r 4 (.mv (.k (.v (.bool false))))])
 (.seq (.reg false [r 5 (.mv (.t 0)), r 6 (.mv (.t 1)), r 7 (.call 100 [(.t 5), (.t 6)]), r 8 (.ib .ge .i64 (.t 7) (.k (.v (.int .i64 0)))), r 4 (.mv (.t 8))])
 .ret))
theorem Zqu : compF Try.prog Try.f86 = some (Zis, [.t 4], 9) := by kernel_rfl
-- ros 86 [(some (.row 72 (.row 75 (.st [(.int .u64), (.int .i64), (.int .i64)])))), none] TYS [(.row 72 (.row 75 (.st [(.int .u64), (.int .i64), (.int .i64)]))), none]

def Zit : IC := (.seq (.reg false [r 3 (.mv (.k (.v (.bool false))))])
 (.seq (.reg false [r 4 (.lda (.t 1) 6), r 5 (.mv (.t 0)), r 6 (.call 88 [(.t 4), (.t 5)]), r 7 (.bnot (.t 6)), r 3 (.mv (.t 7))])
 .ret))
theorem Zqv : compF Try.prog Try.f87 = some (Zit, [.t 3], 8) := by kernel_rfl
-- ros 87 [(some (.row 75 (.st [(.int .u64), (.int .i64), (.int .i64)])))] TYS [(.row 75 (.st [(.int .u64), (.int .i64), (.int .i64)]))]

def Ziu : IC := (.seq (.reg false [r 2 (.box 67 6 (.t 0)), r 4 (.mv (.k (.v (.bool false))))])
 (.seq (.reg false [r 5 (.mv (.k (.v (.int .u64 0))))])
 (.seq (.seq (.reg false [r 8 (.mv (.t 1)), r 9 (.len false (.t 8)), r 10 (.mv (.k (.v (.int .i64 0))))])
 (.block 0
 (.loop
 (.seq (.reg false [r 11 (.ib .lt .i64 (.t 10) (.t 9))])
 (.seq (.cond (.t 11)
 .skip
 (.exit 0))
 (.seq (.block 1
 (.seq (.reg false [r 12 (.idx (.t 8) (.t 10) 3), r 13 (.lda (.t 12) 3), r 7 (.new 75 [(.v (.int .u64 0)), (.v (.int .i64 0)), (.v (.int .i64 0))]), r0 (.st (.t 7) (.t 13) 3)])
 (.seq (.seq (.reg false [r 14 (.fld (.t 7) 1), r 15 (.ld (.t 14)), r 16 (.ib .lt .i64 (.t 15) (.k (.v (.int .i64 0)))), r 17 (.mv (.t 16)), ⟨some 18, some (17, false), [], .fld (.t 7) 1⟩, ⟨some 19, some (17, false), [], .ld (.t 18)⟩, ⟨some 20, some (17, false), [], .ib .gt .i64 (.t 19) (.k (.v (.int .i64 65535)))⟩, r 21 (.pick (.t 17) (.k (.v (.bool true))) (.t 20)), r 22 (.mv (.t 21)), ⟨some 23, some (22, false), [], .fld (.t 7) 2⟩, ⟨some 24, some (22, false), [], .ld (.t 23)⟩, ⟨some 25, some (22, false), [], .ib .lt .i64 (.t 24) (.k (.v (.int .i64 1)))⟩, r 26 (.pick (.t 22) (.k (.v (.bool true))) (.t 25)), r 27 (.mv (.t 26)), ⟨some 28, some (27, false), [], .fld (.t 7) 2⟩, ⟨some 29, some (27, false), [], .ld (.t 28)⟩, ⟨some 30, some (27, false), [], .ib .gt .i64 (.t 29) (.k (.v (.int .i64 1500)))⟩, r 31 (.pick (.t 27) (.k (.v (.bool true))) (.t 30)), r 32 (.mv (.t 31)), ⟨some 33, some (32, false), [], .fld (.t 7) 0⟩, ⟨some 34, some (32, false), [], .ld (.t 33)⟩, ⟨some 35, some (32, false), [], .mv (.t 5)⟩, ⟨some 36, some (32, false), [], .ib .le .u64 (.t 34) (.t 35)⟩, r 37 (.pick (.t 32) (.k (.v (.bool true))) (.t 36)), r 38 (.mv (.t 37)), ⟨some 39, some (38, false), [], .fld (.t 7) 0⟩, ⟨some 40, some (38, false), [], .ld (.t 39)⟩, ⟨some 41, some (38, false), [], .fld (.t 2) 0⟩, ⟨some 42, some (38, false), [], .ld (.t 41)⟩, ⟨some 43, some (38, false), [], .ib .gt .u64 (.t 40) (.t 42)⟩, r 44 (.pick (.t 38) (.k (.v (.bool true))) (.t 43))])
 (.cond (.t 44)
 (.seq (.reg false [r 4 (.mv (.k (.v (.bool false))))])
 .ret)
 .skip))
 (.reg false [r 45 (.fld (.t 7) 0), r 46 (.ld (.t 45)), r 5 (.mv (.t 46))]))))
 (.reg false [r 47 (.ib .add .i64 (.t 10) (.k (.v (.int .i64 1)))), r 10 (.mv (.t 47))])))))))
 (.seq (.reg false [r 4 (.mv (.k (.v (.bool true))))])
 .ret))))
theorem Zqw : compF Try.prog Try.f88 = some (Ziu, [.t 4], 48) := by kernel_rfl
-- ros 88 [none, (some (.row 75 (.st [(.int .u64), (.int .i64), (.int .i64)])))] TYS [(.st [(.int .u64), (.ints 46 .u64), (.st [(.int .i64), .bool, (.ints 46 .u64)]), (.row 72 (.row 75 (.st [(.int .u64), (.int .i64), (.int .i64)])))]), (.row 75 (.st [(.int .u64), (.int .i64), (.int .i64)]))]

def Ziv : IC := (.seq (.reg false [r 2 (.mv (.k .nsl))])
 (.seq (.seq (.reg false [r 3 (.mv (.t 0)), r 4 (.isn 1 false (.t 3))])
 (.cond (.t 4)
 (.seq (.reg false [r 2 (.mv (.k .nsl))])
 .ret)
 .skip))
 (.seq (.reg false [r 5 (.bsl (.ints 46 .u64) 0 [] []), r 6 (.mv (.t 0)), r 7 (.app (.ints 46 .u64) 8 (.t 5) (.t 6)), r 2 (.mv (.t 7))])
 .ret)))
theorem Zqx : compF Try.prog Try.f89 = some (Ziv, [.t 2], 8) := by kernel_rfl
-- ros 89 [(some (.ints 46 .u64))] TYS [(.ints 46 .u64)]

def Zix : IC := (.seq (.reg false [r 2 (.mv (.k .nsl))])
 (.seq (.reg false [r 3 (.mv (.k (.v (.int .i64 0))))])
 (.seq (.seq (.reg false [r 9 (.mv (.t 0)), r 10 (.len false (.t 9)), r 11 (.mv (.k (.v (.int .i64 0))))])
 (.block 0
 (.loop
 (.seq (.reg false [r 12 (.ib .lt .i64 (.t 11) (.t 10))])
 (.seq (.cond (.t 12)
 .skip
 (.exit 0))
 (.seq (.block 1
 (.seq (.reg false [r 13 (.idx (.t 9) (.t 11) 1), r 14 (.ld (.t 13)), r 5 (.mv (.t 14))])
 (.seq (.reg false [r 15 (.mv (.t 3)), r 16 (.mv (.t 5)), r 17 (.len false (.t 16)), r 18 (.ib .add .i64 (.t 15) (.t 17)), r 3 (.mv (.t 18))])
 (.seq (.reg false [r 19 (.mv (.t 3)), r 20 (.ib .lt .i64 (.t 19) (.k (.v (.int .i64 0))))])
 (.cond (.t 20)
 .bad
 .skip)))))
 (.reg false [r 22 (.ib .add .i64 (.t 11) (.k (.v (.int .i64 1)))), r 11 (.mv (.t 22))])))))))
 (.seq (.reg false [r 23 (.mv (.t 3)), r 24 (.call 101 [(.k .nsl), (.t 23)]), r 6 (.mv (.t 24))])
 (.seq (.seq (.reg false [r 25 (.mv (.t 0)), r 26 (.len false (.t 25)), r 27 (.mv (.k (.v (.int .i64 0))))])
 (.block 2
 (.loop
 (.seq (.reg false [r 28 (.ib .lt .i64 (.t 27) (.t 26))])
 (.seq (.cond (.t 28)
 .skip
 (.exit 2))
 (.seq (.block 3
 (.seq (.reg false [r 29 (.idx (.t 25) (.t 27) 1), r 30 (.ld (.t 29)), r 8 (.mv (.t 30))])
 (.reg false [r 31 (.mv (.t 6)), r 32 (.mv (.t 8)), r 33 (.app (.row 75 (.st [(.int .u64), (.int .i64), (.int .i64)])) 24 (.t 31) (.t 32)), r 6 (.mv (.t 33))])))
 (.reg false [r 34 (.ib .add .i64 (.t 27) (.k (.v (.int .i64 1)))), r 27 (.mv (.t 34))])))))))
 (.seq (.reg false [r 35 (.mv (.t 6)), r 2 (.mv (.t 35))])
 .ret))))))
theorem Zqz : compF Try.prog Try.f90 = some (Zix, [.t 2], 36) := by kernel_rfl
-- ros 90 [(some (.row 72 (.row 75 (.st [(.int .u64), (.int .i64), (.int .i64)]))))] TYS [(.row 72 (.row 75 (.st [(.int .u64), (.int .i64), (.int .i64)])))]

def Ziy : IC := (.seq (.reg false [r 4 (.mv (.t 0)), r 5 (.chk (.t 4)), r 6 (.fld (.t 5) 1), r 7 (.ld (.t 6)), r 8 (.len false (.t 7)), r 9 (.ib .mul .i64 (.k (.v (.int .i64 2))) (.t 8)), r 10 (.mx (.k (.v (.int .i64 4))) (.t 9)), r 11 (.mks (.row 75 (.st [(.int .u64), (.int .i64), (.int .i64)])) 24 (.t 10) (.t 10)), r 2 (.mv (.t 11))])
 (.seq (.reg true [r 12 (.mv (.t 2)), r 13 (.mv (.t 0)), ⟨some 14, none, [1], .chk (.t 13)⟩, ⟨some 15, none, [2, 1], .fld (.t 14) 1⟩, ⟨some 16, none, [3, 2, 1], .ld (.t 15)⟩, r 17 (.mv (.t 0)), ⟨some 18, none, [5], .chk (.t 17)⟩, ⟨some 19, none, [6, 5], .fld (.t 18) 2⟩, ⟨some 20, none, [7, 6, 5], .ld (.t 19)⟩, ⟨some 21, none, [4, 3, 2, 1, 8, 7, 6, 5], .sls (.t 16) (some (.t 20)) none 3⟩, ⟨some 22, none, [0, 9, 4, 3, 2, 1, 8, 7, 6, 5], .copy (.t 12) (.t 21) 3⟩, ⟨some 3, none, [10, 0, 9, 4, 3, 2, 1, 8, 7, 6, 5], .mv (.t 22)⟩])
 (.seq (.reg true [r 23 (.mv (.t 2)), r 24 (.mv (.t 3)), ⟨some 25, none, [0, 1], .sls (.t 23) (some (.t 24)) none 3⟩, r 26 (.mv (.t 0)), ⟨some 27, none, [3], .chk (.t 26)⟩, ⟨some 28, none, [4, 3], .fld (.t 27) 1⟩, ⟨some 29, none, [5, 4, 3], .ld (.t 28)⟩, r 30 (.mv (.t 0)), ⟨some 31, none, [7], .chk (.t 30)⟩, ⟨some 32, none, [8, 7], .fld (.t 31) 2⟩, ⟨some 33, none, [9, 8, 7], .ld (.t 32)⟩, ⟨some 34, none, [6, 5, 4, 3, 10, 9, 8, 7], .sls (.t 29) none (some (.t 33)) 3⟩, ⟨some 35, none, [2, 0, 1, 11, 6, 5, 4, 3, 10, 9, 8, 7], .copy (.t 25) (.t 34) 3⟩])
 (.reg false [r 36 (.mv (.t 0)), r 37 (.mv (.t 0)), r 38 (.mv (.t 2)), r 39 (.chk (.t 36)), r 40 (.fld (.t 39) 1), r0 (.st (.t 40) (.t 38) 1), r 41 (.chk (.t 37)), r 42 (.fld (.t 41) 2), r0 (.st (.t 42) (.k (.v (.int .i64 0))) 1)]))))
theorem Zr0 : compF Try.prog Try.f91 = some (Ziy, [], 43) := by kernel_rfl
-- ros 91 [none] TYS [none]

def Ziz : IC := (.seq (.reg false [r 4 (.mv (.k (.v (.int .u64 0))))])
 (.seq (.seq (.reg false [r 6 (.mv (.t 0)), r 7 (.mv (.t 1)), r 8 (.ib .add .u64 (.t 6) (.t 7)), r 5 (.mv (.t 8))])
 (.seq (.reg false [r 9 (.mv (.t 5)), r 10 (.mv (.t 0)), r 11 (.ib .ge .u64 (.t 9) (.t 10))])
 (.cond (.t 11)
 (.seq (.reg false [r 12 (.mv (.t 5)), r 4 (.mv (.t 12))])
 .ret)
 .skip)))
 (.seq (.reg false [r 4 (.mv (.k (.v (.int .u64 18446744073709551615))))])
 .ret)))
theorem Zr1 : compF Try.prog Try.f97 = some (Ziz, [.t 4], 13) := by kernel_rfl
-- ros 97 [none, none] TYS [(.int .u64), (.int .u64)]

def Zj0 : IC := (.seq (.reg false [r 4 (.mv (.k (.v (.int .u64 0))))])
 (.seq (.seq (.reg false [r 5 (.mv (.t 0)), r 6 (.ib .gt .u64 (.t 5) (.k (.v (.int .u64 0)))), r 7 (.mv (.t 6)), ⟨some 8, some (7, true), [], .mv (.t 1)⟩, ⟨some 9, some (7, true), [], .mv (.t 0)⟩, ⟨some 10, some (7, true), [], .ib .quo .u64 (.k (.v (.int .u64 18446744073709551615))) (.t 9)⟩, ⟨some 11, some (7, true), [], .ib .gt .u64 (.t 8) (.t 10)⟩, r 12 (.pick (.t 7) (.t 11) (.k (.v (.bool false))))])
 (.cond (.t 12)
 (.seq (.reg false [r 4 (.mv (.k (.v (.int .u64 18446744073709551615))))])
 .ret)
 .skip))
 (.seq (.reg false [r 13 (.mv (.t 0)), r 14 (.mv (.t 1)), r 15 (.ib .mul .u64 (.t 13) (.t 14)), r 4 (.mv (.t 15))])
 .ret)))
theorem Zr2 : compF Try.prog Try.f98 = some (Zj0, [.t 4], 16) := by kernel_rfl
-- ros 98 [none, none] TYS [(.int .u64), (.int .u64)]

def Zj1 : IC := (.reg true [r 2 (.mv (.t 0)), r 3 (.mv (.t 0)), r 4 (.mv (.t 0)), ⟨some 5, none, [2], .chk (.t 4)⟩, ⟨some 6, none, [3, 2], .fld (.t 5) 1⟩, ⟨some 7, none, [4, 3, 2], .fld (.t 6) 0⟩, ⟨some 8, none, [5, 4, 3, 2], .ld (.t 7)⟩, ⟨some 9, none, [6, 5, 4, 3, 2], .ib .add .i64 (.t 8) (.k (.v (.int .i64 1)))⟩, r 10 (.mv (.t 0)), ⟨some 11, none, [8], .chk (.t 10)⟩, ⟨some 12, none, [9, 8], .fld (.t 11) 0⟩, ⟨some 13, none, [10, 9, 8], .ld (.t 12)⟩, ⟨some 14, none, [11, 10, 9, 8], .len false (.t 13)⟩, ⟨some 15, none, [7, 6, 5, 4, 3, 2, 12, 11, 10, 9, 8], .ib .rem .i64 (.t 9) (.t 14)⟩, ⟨some 16, none, [0, 2, 3, 4, 5, 6, 7, 8, 9, 10, 11, 12, 13], .chk (.t 2)⟩, ⟨some 17, none, [14, 0, 2, 3, 4, 5, 6, 7, 8, 9, 10, 11, 12, 13], .fld (.t 16) 1⟩, ⟨some 18, none, [15, 14, 0, 2, 3, 4, 5, 6, 7, 8, 9, 10, 11, 12, 13], .fld (.t 17) 0⟩, ⟨none, none, [16, 15, 14, 0, 2, 3, 4, 5, 6, 7, 8, 9, 10, 11, 12, 13], .st (.t 18) (.t 15) 1⟩, ⟨some 19, none, [1, 0, 2, 3, 4, 5, 6, 7, 8, 9, 10, 11, 12, 13, 14, 15, 16, 17], .chk (.t 3)⟩, ⟨some 20, none, [18, 1, 0, 2, 3, 4, 5, 6, 7, 8, 9, 10, 11, 12, 13, 14, 15, 16, 17], .fld (.t 19) 1⟩, ⟨some 21, none, [19, 18, 1, 0, 2, 3, 4, 5, 6, 7, 8, 9, 10, 11, 12, 13, 14, 15, 16, 17], .fld (.t 20) 1⟩, ⟨none, none, [20, 19, 18, 1, 0, 2, 3, 4, 5, 6, 7, 8, 9, 10, 11, 12, 13, 14, 15, 16, 17], .st (.t 21) (.k (.v (.bool false))) 1⟩])
theorem Zr3 : compF Try.prog Try.f99 = some (Zj1, [], 22) := by kernel_rfl
-- ros 99 [none] TYS [none]

def Zhf : IC := (.seq (.reg false [r 4 (.mv (.k (.v (.int .i64 0))))])
 (.seq (.seq (.reg false [r 6 (.mv (.t 0)), r 7 (.len false (.t 6)), r 8 (.mv (.k (.v (.int .i64 0))))])
 (.block 0
 (.loop
 (.seq (.reg false [r 9 (.ib .lt .i64 (.t 8) (.t 7))])
 (.seq (.cond (.t 9)
 .skip
 (.exit 0))
 (.seq (.block 1
 (.seq (.reg false [r 10 (.mv (.t 8)), r 5 (.mv (.t 10))])
 (.seq (.reg false [r 11 (.mv (.t 1)), r 12 (.mv (.t 0)), r 13 (.mv (.t 5)), r 14 (.idx (.t 12) (.t 13) 1), r 15 (.ld (.t 14)), r 16 (.callv (.t 11) [(.t 15)])])
 (.cond (.t 16)
 (.seq (.reg false [r 17 (.mv (.t 5)), r 4 (.mv (.t 17))])
 .ret)
 .skip))))
 (.reg false [r 18 (.ib .add .i64 (.t 8) (.k (.v (.int .i64 1)))), r 8 (.mv (.t 18))])))))))
 (.seq (.reg false [r 4 (.mv (.k (.v (.int .i64 (-1)))))])
 .ret)))
theorem Zph : compF Try.prog Try.f100 = some (Zhf, [.t 4], 19) := by kernel_rfl
-- ros 100 [(some (.row 72 (.row 75 (.st [(.int .u64), (.int .i64), (.int .i64)])))), none] TYS [(.row 72 (.row 75 (.st [(.int .u64), (.int .i64), (.int .i64)]))), none]
end Go.Proofs.Ytojbpjcfdjakkaa
end
section
set_option linter.unusedVariables false
set_option linter.unusedSimpArgs false
namespace Go.Proofs.Ytojbpjcfdjakkaa
open Go.RowKit
theorem clacd82 {p : Prop} (h : p := by
  have e := Option.some.inj hr
  constructor
  refine ⟨_, hF, ?_⟩
  (try cbv); (try simp only [K0, K1, and_self, and_true, true_and]); (try first | exact e | exact e.symm | (and_intros <;> first | assumption | rfl | exact Eq.symm (by assumption)))) : p := h
theorem cl2ec4c {p : Prop} (h : p := by
  rintro u0 e
  refine Z11 hk ?_
  (try cbv); (try simp only [K0, K1, and_self, and_true, true_and]); (try first | exact e | exact e.symm | (and_intros <;> first | assumption | rfl | exact Eq.symm (by assumption)))) : p := h
theorem clb5cb2 {p : Prop} (h : p := by
  obtain rfl := Option.some.inj hr
  have e := ht1 _ rfl
  constructor
  refine ⟨_, hF, ?_⟩
  (try cbv); (try simp only [K0, K1, and_self, and_true, true_and]); (try first | exact e | exact e.symm | (and_intros <;> first | assumption | rfl | exact Eq.symm (by assumption)))) : p := h
theorem clba30f {p : Prop} (h : p := by
  obtain rfl := Option.some.inj hr
  constructor
  refine ⟨⟨_, rfl⟩, ?_⟩
  rintro u0 e
  replace e := Sum.inl.inj e
  refine Z11 hk ?_
  (try cbv); (try simp only [K0, K1, and_self, and_true, true_and]); (try first | exact e | exact e.symm | (and_intros <;> first | assumption | rfl | exact Eq.symm (by assumption)))) : p := h
theorem cl9bcf9 {p : Prop} (h : p := by
  rintro _ e
  refine Z11 hk ?_
  (try cbv); (try simp only [K0, K1, and_self, and_true, true_and]); (try first | exact e | exact e.symm | (and_intros <;> first | assumption | rfl | exact Eq.symm (by assumption)))) : p := h
theorem clf1d56 {p : Prop} (h : p := by
  have e := Option.some.inj hr
  obtain ⟨u0, u1⟩ := r
  simp only [Prod.mk.injEq] at e
  obtain ⟨e0, e1⟩ := e
  constructor
  refine ⟨_, hF, ?_⟩
  (try cbv); (try simp only [K0, K1, and_self, and_true, true_and]); (try first | exact e | exact e.symm | (and_intros <;> first | assumption | rfl | exact Eq.symm (by assumption)))) : p := h
theorem clf6c1b {p : Prop} (h : p := by
  rintro ⟨u0, u1, u2, u3⟩ e
  simp only [Prod.mk.injEq] at e
  obtain ⟨e0, e1, e2, e3⟩ := e
  refine Z11 hk ?_
  (try cbv); (try simp only [K0, K1, and_self, and_true, true_and]); (try first | exact e | exact e.symm | (and_intros <;> first | assumption | rfl | exact Eq.symm (by assumption)))) : p := h
theorem cle9b97 {p : Prop} (h : p := by
  obtain rfl := Option.some.inj hr
  constructor
  refine ⟨⟨_, rfl⟩, ?_⟩
  rintro ⟨u0, u1, u2, u3⟩ e
  replace e := Sum.inl.inj e
  simp only [Prod.mk.injEq] at e
  obtain ⟨e0, e1, e2, e3⟩ := e
  refine Z11 hk ?_
  (try cbv); (try simp only [K0, K1, and_self, and_true, true_and]); (try first | exact e | exact e.symm | (and_intros <;> first | assumption | rfl | exact Eq.symm (by assumption)))) : p := h
theorem cle4224 {p : Prop} (h : p := by
  obtain rfl := Option.some.inj hr
  have e := ht1 _ rfl
  obtain ⟨u0, u1, u2, u3, u4, u5⟩ := r
  simp only [Prod.mk.injEq] at e
  obtain ⟨e0, e1, e2, e3, e4, e5⟩ := e
  constructor
  refine ⟨_, hF, ?_⟩
  (try cbv); (try simp only [K0, K1, and_self, and_true, true_and]); (try first | exact e | exact e.symm | (and_intros <;> first | assumption | rfl | exact Eq.symm (by assumption)))) : p := h
theorem cld41ea {p : Prop} (h : p := by
  replace e := Sum.inl.inj e
  constructor
  refine ⟨_, hF, ?_⟩
  (try cbv); (try simp only [K0, K1, and_self, and_true, true_and]); (try first | exact e | exact e.symm | (and_intros <;> first | assumption | rfl | exact Eq.symm (by assumption)))) : p := h
theorem cla03ba {p : Prop} (h : p := by
  replace e := Sum.inr.inj e
  simp only [Prod.mk.injEq] at e
  obtain ⟨e0, e1, e2, e3, e4, e5⟩ := e
  constructor
  refine ⟨_, hF, ?_⟩
  (try cbv); (try simp only [K0, K1, and_self, and_true, true_and]); (try first | exact e | exact e.symm | (and_intros <;> first | assumption | rfl | exact Eq.symm (by assumption)))) : p := h
theorem cldfed9 {p : Prop} (h : p := by
  have e := Option.some.inj hr
  obtain ⟨u0, u1, u2⟩ := r
  simp only [Prod.mk.injEq] at e
  obtain ⟨e0, e1, e2⟩ := e
  constructor
  refine ⟨_, hF, ?_⟩
  (try cbv); (try simp only [K0, K1, and_self, and_true, true_and]); (try first | exact e | exact e.symm | (and_intros <;> first | assumption | rfl | exact Eq.symm (by assumption)))) : p := h
theorem clbfd00 {p : Prop} (h : p := by
  have e := Option.some.inj hr
  obtain ⟨u0, u1, u2, u3⟩ := r
  simp only [Prod.mk.injEq] at e
  obtain ⟨e0, e1, e2, e3⟩ := e
  constructor
  refine ⟨_, hF, ?_⟩
  (try cbv); (try simp only [K0, K1, and_self, and_true, true_and]); (try first | exact e | exact e.symm | (and_intros <;> first | assumption | rfl | exact Eq.symm (by assumption)))) : p := h
theorem clc60e0 {p : Prop} (h : p := by
  have e := Option.some.inj hr
  obtain ⟨u0, u1, u2, u3, u4, u5⟩ := r
  simp only [Prod.mk.injEq] at e
  obtain ⟨e0, e1, e2, e3, e4, e5⟩ := e
  constructor
  refine ⟨_, hF, ?_⟩
  (try cbv); (try simp only [K0, K1, and_self, and_true, true_and]); (try first | exact e | exact e.symm | (and_intros <;> first | assumption | rfl | exact Eq.symm (by assumption)))) : p := h
theorem clfb273 {p : Prop} (h : p := by
  obtain rfl := Option.some.inj hr
  have e := ht1 _ rfl
  obtain ⟨u0, u1, u2, u3⟩ := r
  simp only [Prod.mk.injEq] at e
  obtain ⟨e0, e1, e2, e3⟩ := e
  constructor
  refine ⟨_, hF, ?_⟩
  (try cbv); (try simp only [K0, K1, and_self, and_true, true_and]); (try first | exact e | exact e.symm | (and_intros <;> first | assumption | rfl | exact Eq.symm (by assumption)))) : p := h
theorem cl63eab {p : Prop} (h : p := by
  rintro ⟨u0, u1, u2⟩ e
  simp only [Prod.mk.injEq] at e
  obtain ⟨e0, e1, e2⟩ := e
  refine Z11 hk ?_
  (try cbv); (try simp only [K0, K1, and_self, and_true, true_and]); (try first | exact e | exact e.symm | (and_intros <;> first | assumption | rfl | exact Eq.symm (by assumption)))) : p := h
theorem cl34131 {p : Prop} (h : p := by
  obtain rfl := Option.some.inj hr
  constructor
  refine ⟨⟨_, rfl⟩, ?_⟩
  rintro ⟨u0, u1, u2⟩ e
  replace e := Sum.inl.inj e
  simp only [Prod.mk.injEq] at e
  obtain ⟨e0, e1, e2⟩ := e
  refine Z11 hk ?_
  (try cbv); (try simp only [K0, K1, and_self, and_true, true_and]); (try first | exact e | exact e.symm | (and_intros <;> first | assumption | rfl | exact Eq.symm (by assumption)))) : p := h
theorem cl73344 {p : Prop} (h : p := by
  obtain rfl := Option.some.inj hr
  have e := ht1 _ rfl
  obtain ⟨u0, u1, u2, u3, u4, u5, u6, u7, u8⟩ := r
  simp only [Prod.mk.injEq] at e
  obtain ⟨e0, e1, e2, e3, e4, e5, e6, e7, e8⟩ := e
  constructor
  refine ⟨_, hF, ?_⟩
  (try cbv); (try simp only [K0, K1, and_self, and_true, true_and]); (try first | exact e | exact e.symm | (and_intros <;> first | assumption | rfl | exact Eq.symm (by assumption)))) : p := h
theorem cl1df3b {p : Prop} (h : p := by
  rintro ⟨u0, u1⟩ e
  simp only [Prod.mk.injEq] at e
  obtain ⟨e0, e1⟩ := e
  refine Z11 hk ?_
  (try cbv); (try simp only [K0, K1, and_self, and_true, true_and]); (try first | exact e | exact e.symm | (and_intros <;> first | assumption | rfl | exact Eq.symm (by assumption)))) : p := h
theorem cl81169 {p : Prop} (h : p := by
  obtain rfl := Option.some.inj hr
  constructor
  refine ⟨⟨_, rfl⟩, ?_⟩
  rintro ⟨u0, u1⟩ e
  replace e := Sum.inl.inj e
  simp only [Prod.mk.injEq] at e
  obtain ⟨e0, e1⟩ := e
  refine Z11 hk ?_
  (try cbv); (try simp only [K0, K1, and_self, and_true, true_and]); (try first | exact e | exact e.symm | (and_intros <;> first | assumption | rfl | exact Eq.symm (by assumption)))) : p := h
theorem cl1c5c3 {p : Prop} (h : p := by
  obtain rfl := Option.some.inj hr
  have e := ht1 _ rfl
  obtain ⟨u0, u1⟩ := r
  simp only [Prod.mk.injEq] at e
  obtain ⟨e0, e1⟩ := e
  constructor
  refine ⟨_, hF, ?_⟩
  (try cbv); (try simp only [K0, K1, and_self, and_true, true_and]); (try first | exact e | exact e.symm | (and_intros <;> first | assumption | rfl | exact Eq.symm (by assumption)))) : p := h
theorem clefba8 {p : Prop} (h : p := by
  obtain rfl := Option.some.inj hr
  have e := (ht2 _ rfl).symm
  subst e
  constructor
  refine ⟨⟨_, rfl⟩, ?_⟩
  rintro ⟨u0, u1, u2⟩ e
  replace e := Sum.inl.inj e
  simp only [Prod.mk.injEq] at e
  obtain ⟨e0, e1, e2⟩ := e
  refine Z11 hk ?_
  (try cbv); (try simp only [K0, K1, and_self, and_true, true_and]); (try first | exact e | exact e.symm | (and_intros <;> first | assumption | rfl | exact Eq.symm (by assumption)))) : p := h
theorem clbdc41 {p : Prop} (h : p := by
  obtain rfl := Option.some.inj hr
  have e := ht1 _ rfl
  obtain ⟨u0, u1, u2⟩ := r
  simp only [Prod.mk.injEq] at e
  obtain ⟨e0, e1, e2⟩ := e
  constructor
  refine ⟨_, hF, ?_⟩
  (try cbv); (try simp only [K0, K1, and_self, and_true, true_and]); (try first | exact e | exact e.symm | (and_intros <;> first | assumption | rfl | exact Eq.symm (by assumption)))) : p := h
theorem cl62e3a {p : Prop} (h : p := by
  have e := Option.some.inj hr
  obtain ⟨u0, u1, u2, u3, u4, u5, u6, u7, u8, u9, u10, u11⟩ := r
  simp only [Prod.mk.injEq] at e
  obtain ⟨e0, e1, e2, e3, e4, e5, e6, e7, e8, e9, e10, e11⟩ := e
  constructor
  refine ⟨_, hF, ?_⟩
  (try cbv); (try simp only [K0, K1, and_self, and_true, true_and]); (try first | exact e | exact e.symm | (and_intros <;> first | assumption | rfl | exact Eq.symm (by assumption)))) : p := h
theorem clfaf68 {p : Prop} (h : p := by
  obtain rfl := Option.some.inj hr
  have e := ht1 _ rfl
  obtain ⟨u0, u1, u2, u3, u4, u5, u6, u7, u8, u9, u10, u11⟩ := r
  simp only [Prod.mk.injEq] at e
  obtain ⟨e0, e1, e2, e3, e4, e5, e6, e7, e8, e9, e10, e11⟩ := e
  constructor
  refine ⟨_, hF, ?_⟩
  (try cbv); (try simp only [K0, K1, and_self, and_true, true_and]); (try first | exact e | exact e.symm | (and_intros <;> first | assumption | rfl | exact Eq.symm (by assumption)))) : p := h
theorem cl8eeb6 {p : Prop} (h : p := by
  have e := Option.some.inj hr
  obtain ⟨u0, u1, u2, u3, u4⟩ := r
  simp only [Prod.mk.injEq] at e
  obtain ⟨e0, e1, e2, e3, e4⟩ := e
  constructor
  refine ⟨_, hF, ?_⟩
  (try cbv); (try simp only [K0, K1, and_self, and_true, true_and]); (try first | exact e | exact e.symm | (and_intros <;> first | assumption | rfl | exact Eq.symm (by assumption)))) : p := h
theorem cl31adc {p : Prop} (h : p := by
  obtain rfl := Option.some.inj hr
  have e := ht1 _ rfl
  obtain ⟨u0, u1, u2, u3, u4⟩ := r
  simp only [Prod.mk.injEq] at e
  obtain ⟨e0, e1, e2, e3, e4⟩ := e
  constructor
  refine ⟨_, hF, ?_⟩
  (try cbv); (try simp only [K0, K1, and_self, and_true, true_and]); (try first | exact e | exact e.symm | (and_intros <;> first | assumption | rfl | exact Eq.symm (by assumption)))) : p := h
theorem clf9b33 {p : Prop} (h : p := by
  have e := Option.some.inj hr
  obtain ⟨u0, u1, u2, u3, u4, u5, u6, u7, u8, u9, u10, u11, u12, u13, u14, u15, u16, u17⟩ := r
  simp only [Prod.mk.injEq] at e
  obtain ⟨e0, e1, e2, e3, e4, e5, e6, e7, e8, e9, e10, e11, e12, e13, e14, e15, e16, e17⟩ := e
  constructor
  refine ⟨_, hF, ?_⟩
  (try cbv); (try simp only [K0, K1, and_self, and_true, true_and]); (try first | exact e | exact e.symm | (and_intros <;> first | assumption | rfl | exact Eq.symm (by assumption)))) : p := h
theorem clbece1 {p : Prop} (h : p := by
  rintro ⟨u0, u1, u2, u3, u4, u5, u6, u7, u8, u9, u10, u11, u12, u13, u14⟩ e
  simp only [Prod.mk.injEq] at e
  obtain ⟨e0, e1, e2, e3, e4, e5, e6, e7, e8, e9, e10, e11, e12, e13, e14⟩ := e
  refine Z11 hk ?_
  (try cbv); (try simp only [K0, K1, and_self, and_true, true_and]); (try first | exact e | exact e.symm | (and_intros <;> first | assumption | rfl | exact Eq.symm (by assumption)))) : p := h
theorem cl5a7c6 {p : Prop} (h : p := by
  obtain rfl := Option.some.inj hr
  have e := (ht2 _ rfl).symm
  subst e
  have e := ht1 _ rfl
  constructor
  refine ⟨_, hF, ?_⟩
  (try cbv); (try simp only [K0, K1, and_self, and_true, true_and]); (try first | exact e | exact e.symm | (and_intros <;> first | assumption | rfl | exact Eq.symm (by assumption)))) : p := h
theorem cld39d7 {p : Prop} (h : p := by
  obtain rfl := Option.some.inj hr
  have e := (ht3 _ rfl).symm
  subst e
  have e := (ht2 _ rfl).symm
  subst e
  have e := ht1 _ rfl
  constructor
  refine ⟨_, hF, ?_⟩
  (try cbv); (try simp only [K0, K1, and_self, and_true, true_and]); (try first | exact e | exact e.symm | (and_intros <;> first | assumption | rfl | exact Eq.symm (by assumption)))) : p := h
theorem cld532a {p : Prop} (h : p := by
  obtain rfl := Option.some.inj hr
  have e := (ht3 _ rfl).symm
  subst e
  constructor
  refine ⟨⟨_, rfl⟩, ?_⟩
  rintro ⟨u0, u1⟩ e
  replace e := Sum.inl.inj e
  simp only [Prod.mk.injEq] at e
  obtain ⟨e0, e1⟩ := e
  refine Z11 hk ?_
  (try cbv); (try simp only [K0, K1, and_self, and_true, true_and]); (try first | exact e | exact e.symm | (and_intros <;> first | assumption | rfl | exact Eq.symm (by assumption)))) : p := h
theorem cl2576e {p : Prop} (h : p := by
  obtain rfl := Option.some.inj hr
  have e := (ht2 _ rfl).symm
  subst e
  constructor
  refine ⟨⟨_, rfl⟩, ?_⟩
  rintro ⟨u0, u1, u2, u3, u4, u5, u6, u7, u8, u9, u10, u11, u12, u13, u14⟩ e
  replace e := Sum.inl.inj e
  simp only [Prod.mk.injEq] at e
  obtain ⟨e0, e1, e2, e3, e4, e5, e6, e7, e8, e9, e10, e11, e12, e13, e14⟩ := e
  refine Z11 hk ?_
  (try cbv); (try simp only [K0, K1, and_self, and_true, true_and]); (try first | exact e | exact e.symm | (and_intros <;> first | assumption | rfl | exact Eq.symm (by assumption)))) : p := h
noncomputable def Zen : Nat → Option Con := look []
set_option maxHeartbeats 20000000 in
set_option maxRecDepth 100000 in
theorem Zxo (P : Program) (T : Tab P Zen) (hm : P.follows .mixedOrders = true) : FnVC P Zen Zhr [.t 3] 11 Za9 := by
 intro cargs ccks ce hce hob C hk
 apply Hidden.out
 replace hce : Zaa cargs ccks = some ce := hce
 unfold Zaa at hce
 split at hce; rotate_left; cases hce
 obtain rfl := Option.some.inj hce
 rename_i x1 x2
 refine obh hob fun r hF => ?_
 clear hob hce
 simp only [List.length_cons, List.length_nil, Nat.zero_add, Nat.reduceAdd] at hk
 have hr : Z12 x1 x2 = some r := by rw [lock_eq] at hF; exact hF
 unfold Z12 at hr
 constructor
 (try cbv)
 refine Z2 hr ?_ ?_ <;> intro h1 hr
 ·(try cbv)
  apply Hidden.out
  exact clacd82
 (try cbv)
 apply Hidden.out
 exact clacd82
noncomputable def Zem : Nat → Option Con := look [(32, Za9)]
set_option maxHeartbeats 20000000 in
set_option maxRecDepth 100000 in
theorem Zxn (P : Program) (T : Tab P Zem) (hm : P.follows .mixedOrders = true) : FnVC P Zem Zhg [.t 2] 79 Z5q := by
 intro cargs ccks ce hce hob C hk
 apply Hidden.out
 replace hce : altC (Zab cargs ccks) (altC (Zac cargs ccks) (Zad cargs ccks)) = some ce := hce
 replace hce := Zl hce
 rcases hce with hce | hce
 ·unfold Zab at hce
  split at hce; rotate_left; cases hce
  obtain rfl := Option.some.inj hce
  rename_i s1 b1 x1 r1
  refine obh hob fun r hF => ?_
  clear hob hce
  simp only [List.length_cons, List.length_nil, Nat.zero_add, Nat.reduceAdd] at hk
  have hr : Z1e s1 b1 x1 r1 = some r := by rw [lock_eq] at hF; exact hF
  unfold Z1e at hr
  constructor
  (try cbv)
  refine Z2 hr ?_ ?_ <;> intro h1 hr
  ·(try cbv)
   apply Hidden.out
   exact clacd82
  as_aux_lemma =>
  (try cbv)
  refine Z2 hr ?_ ?_ <;> intro h1 hr
  ·(try cbv)
   apply Hidden.out
   exact clacd82
  as_aux_lemma =>
  (try cbv)
  refine cal hr (by rintro (_) _ <;> cbv) ?_
  rintro c1 hx1 hr
  (try dsimp only at hr); constructor; (try cbv)
  refine Zd hr ?_ ?_ <;> intro h1 hr
  ·(try cbv)
   apply Hidden.out
   exact clacd82
  as_aux_lemma =>
  (try cbv)
  refine LoopOK.iter T (drawOK T hm) hr (fun | i1 => ⟨mkFr [(1, (.ptr 1 0)), (4, (.fn 32 [(.ptr 2 0)])), (28, (.wsl 0)), (29, (.v (.int .i64 (lock ofN (lock (@xlen D) r1))))), (30, (.v (.int .i64 i1)))] 79 0, [(0, .row (.row 83 (.st [.str, (.int .u64), (.int .u64), (.int .u64), (.int .i64), .bool]) r1)), (1, .blk 33 [(.str s1), (.v (.bool b1)), (.wsl 0), .nsl, (.v (.int .i64 x1))]), (2, .blk 3 [(.v (.int .i64 (lock ofN (lock (@xlen D) r1))))])], 3⟩) ?_ ?_
  ·exact cl2ec4c
  clear hr
  intro x bb1 hr ht1
  obtain ⟨i1, hz⟩ : ∃ z, z = x := ⟨x, rfl⟩
  subst hz
  as_aux_lemma =>
  constructor
  unfold Z6j at hr
  (try dsimp only at hr)
  (try cbv)
  refine Z2 hr ?_ ?_ <;> intro h1 hr
  ·as_aux_lemma =>
   (try cbv)
   refine Z3 hr fun hr => ?_
   apply Hidden.out
   refine Z9 hr ?_ ?_ <;> intro h1 hr
   ·constructor
    have h2 : (lock ilt (lock D.toI (lock D.fld (lock getD r1 (lock toN i1)) 1)) (1500 : Int)) = true := by simp only [lock_eq]; exact h1
    simp only [relock, h2]
    (try cbv)
    apply Hidden.out
    exact clb5cb2
   constructor
   have h2 : (lock ilt (lock D.toI (lock D.fld (lock getD r1 (lock toN i1)) 1)) (1500 : Int)) = false := by simp only [lock_eq]; exact h1
   simp only [relock, h2]
   (try cbv)
   apply Hidden.out
   refine Z9 hr ?_ ?_ <;> intro h1 hr
   ·constructor
    have h2 : (lock ilt (lock D.toI (lock D.fld (lock getD r1 (lock toN i1)) 4)) (1 : Int)) = true := by simp only [lock_eq]; exact h1
    simp only [relock, h2]
    (try cbv)
    apply Hidden.out
    exact clb5cb2
   constructor
   have h2 : (lock ilt (lock D.toI (lock D.fld (lock getD r1 (lock toN i1)) 4)) (1 : Int)) = false := by simp only [lock_eq]; exact h1
   simp only [relock, h2]
   (try cbv)
   apply Hidden.out
   refine Z9 hr ?_ ?_ <;> intro h1 hr
   ·constructor
    have h2 : (lock ilt (64 : Int) (lock D.toI (lock D.fld (lock getD r1 (lock toN i1)) 4))) = true := by simp only [lock_eq]; exact h1
    simp only [relock, h2]
    (try cbv)
    apply Hidden.out
    exact clb5cb2
   constructor
   have h2 : (lock ilt (64 : Int) (lock D.toI (lock D.fld (lock getD r1 (lock toN i1)) 4))) = false := by simp only [lock_eq]; exact h1
   simp only [relock, h2]
   (try cbv)
   apply Hidden.out
   refine Z9 hr ?_ ?_ <;> intro h1 hr
   ·constructor
    have h2 : (lock ilt (0 : Int) i1) = true := by simp only [lock_eq]; exact h1
    simp only [relock, h2]
    (try cbv)
    refine Z3 hr fun hr => ?_
    refine Zd hr ?_ ?_ <;> intro h1 hr
    ·(try cbv)
     apply Hidden.out
     exact clb5cb2
    (try cbv)
    apply Hidden.out
    exact clba30f
   constructor
   have h2 : (lock ilt (0 : Int) i1) = false := by simp only [lock_eq]; exact h1
   simp only [relock, h2]
   (try cbv)
   apply Hidden.out
   exact clba30f
  (try cbv)
  apply Hidden.out
  obtain ⟨t, hr2, hw⟩ := Zr hr
  clear hr
  subst hw
  have e := (ht1 _ rfl).symm
  subst e
  have hr := hr2
  clear hr2
  constructor
  refine LoopOK.iter T (drawOK T hm) hr (fun | _ => ⟨mkFr [(4, (.fn 32 [(.ptr 1 0)])), (67, .nsl), (68, (.v (.int .i64 (lock ofN 0)))), (69, (.v (.int .i64 (0 : Int))))] 79 0, [(0, .row (.row 83 (.st [.str, (.int .u64), (.int .u64), (.int .u64), (.int .i64), .bool]) r1)), (1, .blk 3 [(.v (.int .i64 (lock ofN (lock (@xlen D) r1))))])], 2⟩) ?_ ?_
  ·exact cl9bcf9
  clear hr
  intro x bb1 hr ht1
  as_aux_lemma =>
  constructor
  unfold Z6k at hr
  (try dsimp only at hr)
  (try cbv)
  refine Z2 hr ?_ ?_ <;> intro h1 hr
  ·(try cbv)
   cases hr
  (try cbv)
  apply Hidden.out
  exact clb5cb2
 replace hce := Zl hce
 rcases hce with hce | hce
 ·unfold Zac at hce
  split at hce; rotate_left; cases hce
  obtain rfl := Option.some.inj hce
  rename_i s1 b1 x1
  refine obh hob fun r hF => ?_
  clear hob hce
  simp only [List.length_cons, List.length_nil, Nat.zero_add, Nat.reduceAdd] at hk
  have hr : Z3a s1 b1 x1 = some r := by rw [lock_eq] at hF; exact hF
  unfold Z3a at hr
  constructor
  (try cbv)
  refine Z2 hr ?_ ?_ <;> intro h1 hr
  ·(try cbv)
   apply Hidden.out
   exact clacd82
  as_aux_lemma =>
  (try cbv)
  refine Z2 hr ?_ ?_ <;> intro h1 hr
  ·(try cbv)
   apply Hidden.out
   exact clacd82
  (try cbv)
  refine cal hr (by rintro (_) _ <;> cbv) ?_
  rintro c1 hx1 hr
  (try dsimp only at hr); constructor; (try cbv)
  refine Zd hr ?_ ?_ <;> intro h1 hr
  ·(try cbv)
   apply Hidden.out
   exact clacd82
  (try cbv)
  refine LoopOK.iter T (drawOK T hm) hr (fun | _ => ⟨mkFr [(1, (.ptr 0 0)), (4, (.fn 32 [(.ptr 1 0)])), (28, .nsl), (29, (.v (.int .i64 (lock ofN 0)))), (30, (.v (.int .i64 (0 : Int))))] 79 0, [(0, .blk 33 [(.str s1), (.v (.bool b1)), .nsl, .nsl, (.v (.int .i64 x1))]), (1, .blk 3 [(.v (.int .i64 (lock ofN 0)))])], 2⟩) ?_ ?_
  ·exact cl9bcf9
  clear hr
  intro x bb1 hr ht1
  as_aux_lemma =>
  constructor
  unfold Zfo at hr
  (try dsimp only at hr)
  (try cbv)
  refine Z2 hr ?_ ?_ <;> intro h1 hr
  ·(try cbv)
   cases hr
  (try cbv)
  apply Hidden.out
  obtain ⟨t, hr2, hw⟩ := Zr hr
  clear hr
  subst hw
  have e := (ht1 _ rfl).symm
  subst e
  have hr := hr2
  clear hr2
  constructor
  refine LoopOK.iter T (drawOK T hm) hr (fun | _ => ⟨mkFr [(4, (.fn 32 [(.ptr 0 0)])), (67, .nsl), (68, (.v (.int .i64 (lock ofN 0)))), (69, (.v (.int .i64 (0 : Int))))] 79 0, [(0, .blk 3 [(.v (.int .i64 (lock ofN 0)))])], 1⟩) ?_ ?_
  ·exact cl9bcf9
  clear hr
  intro x bb1 hr ht1
  as_aux_lemma =>
  constructor
  unfold Zfp at hr
  (try dsimp only at hr)
  (try cbv)
  refine Z2 hr ?_ ?_ <;> intro h1 hr
  ·(try cbv)
   cases hr
  (try cbv)
  apply Hidden.out
  exact clb5cb2
 unfold Zad at hce
 split at hce; rotate_left; cases hce
 obtain rfl := Option.some.inj hce
 rename_i s1 b1 r1 r2 x1
 refine obh hob fun r hF => ?_
 clear hob hce
 simp only [List.length_cons, List.length_nil, Nat.zero_add, Nat.reduceAdd] at hk
 have hr : Z1f s1 b1 r1 r2 x1 = some r := by rw [lock_eq] at hF; exact hF
 unfold Z1f at hr
 constructor
 (try cbv)
 refine Z2 hr ?_ ?_ <;> intro h1 hr
 ·(try cbv)
  apply Hidden.out
  exact clacd82
 as_aux_lemma =>
 (try cbv)
 refine Z2 hr ?_ ?_ <;> intro h1 hr
 ·(try cbv)
  apply Hidden.out
  exact clacd82
 as_aux_lemma =>
 (try cbv)
 refine cal hr (by rintro (_) _ <;> cbv) ?_
 rintro c1 hx1 hr
 (try dsimp only at hr); constructor; (try cbv)
 refine Zd hr ?_ ?_ <;> intro h1 hr
 ·(try cbv)
  apply Hidden.out
  exact clacd82
 as_aux_lemma =>
 (try cbv)
 refine LoopOK.iter T (drawOK T hm) hr (fun | i1 => ⟨mkFr [(1, (.ptr 0 0)), (4, (.fn 32 [(.ptr 1 0)])), (28, (.rsl (.row 83 (.st [.str, (.int .u64), (.int .u64), (.int .u64), (.int .i64), .bool]) r1))), (29, (.v (.int .i64 (lock ofN (lock (@xlen D) r1))))), (30, (.v (.int .i64 i1)))] 79 0, [(0, .blk 33 [(.str s1), (.v (.bool b1)), (.rsl (.row 83 (.st [.str, (.int .u64), (.int .u64), (.int .u64), (.int .i64), .bool]) r1)), (.rsl (.row 96 (.st [(.int .i64), (.int .i64), (.int .i64)]) r2)), (.v (.int .i64 x1))]), (1, .blk 3 [(.v (.int .i64 (lock ofN (lock (@xlen D) r1))))])], 2⟩) ?_ ?_
 ·exact cl2ec4c
 clear hr
 intro x bb1 hr ht1
 obtain ⟨i1, hz⟩ : ∃ z, z = x := ⟨x, rfl⟩
 subst hz
 as_aux_lemma =>
 constructor
 unfold Z3b at hr
 (try dsimp only at hr)
 (try cbv)
 refine Z2 hr ?_ ?_ <;> intro h1 hr
 ·as_aux_lemma =>
  (try cbv)
  refine Z3 hr fun hr => ?_
  apply Hidden.out
  refine Z9 hr ?_ ?_ <;> intro h1 hr
  ·constructor
   have h2 : (lock ilt (lock D.toI (lock D.fld (lock getD r1 (lock toN i1)) 1)) (1500 : Int)) = true := by simp only [lock_eq]; exact h1
   simp only [relock, h2]
   (try cbv)
   apply Hidden.out
   exact clb5cb2
  constructor
  have h2 : (lock ilt (lock D.toI (lock D.fld (lock getD r1 (lock toN i1)) 1)) (1500 : Int)) = false := by simp only [lock_eq]; exact h1
  simp only [relock, h2]
  (try cbv)
  apply Hidden.out
  refine Z9 hr ?_ ?_ <;> intro h1 hr
  ·constructor
   have h2 : (lock ilt (lock D.toI (lock D.fld (lock getD r1 (lock toN i1)) 4)) (1 : Int)) = true := by simp only [lock_eq]; exact h1
   simp only [relock, h2]
   (try cbv)
   apply Hidden.out
   exact clb5cb2
  constructor
  have h2 : (lock ilt (lock D.toI (lock D.fld (lock getD r1 (lock toN i1)) 4)) (1 : Int)) = false := by simp only [lock_eq]; exact h1
  simp only [relock, h2]
  (try cbv)
  apply Hidden.out
  refine Z9 hr ?_ ?_ <;> intro h1 hr
  ·constructor
   have h2 : (lock ilt (64 : Int) (lock D.toI (lock D.fld (lock getD r1 (lock toN i1)) 4))) = true := by simp only [lock_eq]; exact h1
   simp only [relock, h2]
   (try cbv)
   apply Hidden.out
   exact clb5cb2
  constructor
  have h2 : (lock ilt (64 : Int) (lock D.toI (lock D.fld (lock getD r1 (lock toN i1)) 4))) = false := by simp only [lock_eq]; exact h1
  simp only [relock, h2]
  (try cbv)
  apply Hidden.out
  refine Z9 hr ?_ ?_ <;> intro h1 hr
  ·constructor
   have h2 : (lock ilt (0 : Int) i1) = true := by simp only [lock_eq]; exact h1
   simp only [relock, h2]
   (try cbv)
   refine Z3 hr fun hr => ?_
   refine Zd hr ?_ ?_ <;> intro h1 hr
   ·(try cbv)
    apply Hidden.out
    exact clb5cb2
   (try cbv)
   apply Hidden.out
   exact clba30f
  constructor
  have h2 : (lock ilt (0 : Int) i1) = false := by simp only [lock_eq]; exact h1
  simp only [relock, h2]
  (try cbv)
  apply Hidden.out
  exact clba30f
 (try cbv)
 apply Hidden.out
 obtain ⟨t, hr2, hw⟩ := Zr hr
 clear hr
 subst hw
 have e := (ht1 _ rfl).symm
 subst e
 have hr := hr2
 clear hr2
 constructor
 refine LoopOK.iter T (drawOK T hm) hr (fun | i2 => ⟨mkFr [(4, (.fn 32 [(.ptr 0 0)])), (67, (.rsl (.row 96 (.st [(.int .i64), (.int .i64), (.int .i64)]) r2))), (68, (.v (.int .i64 (lock ofN (lock (@xlen D) r2))))), (69, (.v (.int .i64 i2)))] 79 0, [(0, .blk 3 [(.v (.int .i64 (lock ofN (lock (@xlen D) r1))))])], 1⟩) ?_ ?_
 ·exact cl2ec4c
 clear hr
 intro x bb1 hr ht1
 obtain ⟨i2, hz⟩ : ∃ z, z = x := ⟨x, rfl⟩
 subst hz
 as_aux_lemma =>
 constructor
 unfold Z3c at hr
 (try dsimp only at hr)
 (try cbv)
 refine Z2 hr ?_ ?_ <;> intro h1 hr
 ·(try cbv)
  refine Z3 hr fun hr => ?_
  refine cal hr (by rintro (_) _ <;> cbv) ?_
  rintro c4 hx4 hr
  (try dsimp only at hr); constructor; (try cbv)
  refine Zd hr ?_ ?_ <;> intro h1 hr
  ·(try cbv)
   apply Hidden.out
   exact clb5cb2
  (try cbv)
  apply Hidden.out
  exact clba30f
 (try cbv)
 apply Hidden.out
 exact clb5cb2
noncomputable def Zf1 : Nat → Option Con := look []
set_option maxRecDepth 100000 in
theorem Zy2 (P : Program) (T : Tab P Zf1) (hm : P.follows .mixedOrders = true) : FnVC P Zf1 Zij [.t 2] 8 Zb0 := by
 intro cargs ccks ce hce hob C hk
 apply Hidden.out
 replace hce : Zb1 cargs ccks = some ce := hce
 unfold Zb1 at hce
 split at hce; rotate_left; cases hce
 obtain rfl := Option.some.inj hce
 rename_i r1
 refine obh hob fun r hF => ?_
 clear hob hce
 simp only [List.length_cons, List.length_nil, Nat.zero_add, Nat.reduceAdd] at hk
 have hr : cloneC r1 = some r := by rw [lock_eq] at hF; exact hF
 unfold cloneC at hr
 obtain ⟨g, hr⟩ := Z3u hr
 obtain rfl := Option.some.inj hr
 constructor
 cbv
 intro b hb
 cases b with
 | true =>
  constructor
  have hb : lock (@xlen D) r1 = 0 := hb rfl
  simp only [lock_eq, xlen] at hb
  have e : r1 = [] := List.length_eq_zero_iff.1 hb
  refine ⟨_, hF, ?_⟩
  cbv
  exact e
 | false =>
  constructor
  cbv
  refine ⟨obl.2 (by simp only [R.len, lock_eq, choice_lk, xlen, List.length_nil]; simp only [xlen] at g; simp at g ⊢; omega), ?_⟩
  refine ⟨_, hF, ?_⟩
  cbv
  (try simp only [choice_lk])
  rfl
noncomputable def Zf2 : Nat → Option Con := look []
set_option maxRecDepth 100000 in
theorem Zy3 (P : Program) (T : Tab P Zf2) (hm : P.follows .mixedOrders = true) : FnVC P Zf2 Zik [.t 2] 8 Zb2 := by
 intro cargs ccks ce hce hob C hk
 apply Hidden.out
 replace hce : Zb3 cargs ccks = some ce := hce
 unfold Zb3 at hce
 split at hce; rotate_left; cases hce
 obtain rfl := Option.some.inj hce
 rename_i r1
 refine obh hob fun r hF => ?_
 clear hob hce
 simp only [List.length_cons, List.length_nil, Nat.zero_add, Nat.reduceAdd] at hk
 have hr : cloneR r1 = some r := by rw [lock_eq] at hF; exact hF
 unfold cloneR at hr
 obtain ⟨g, hr⟩ := Z3u hr
 obtain rfl := Option.some.inj hr
 constructor
 cbv
 intro b hb
 cases b with
 | true =>
  constructor
  have hb : lock (@xlen D) r1 = 0 := hb rfl
  simp only [lock_eq, xlen] at hb
  have e : r1 = [] := List.length_eq_zero_iff.1 hb
  refine ⟨_, hF, ?_⟩
  cbv
  exact e
 | false =>
  constructor
  cbv
  refine ⟨obl.2 (by simp only [R.len, lock_eq, choice_lk, xlen, List.length_nil]; simp only [xlen] at g; simp at g ⊢; omega), ?_⟩
  refine ⟨_, hF, ?_⟩
  cbv
  (try simp only [choice_lk])
  rfl
noncomputable def Zez : Nat → Option Con := look [(78, Zb0), (79, Zb2)]
set_option maxHeartbeats 20000000 in
set_option maxRecDepth 100000 in
theorem Zy0 (P : Program) (T : Tab P Zez) (hm : P.follows .mixedOrders = true) : FnVC P Zez Zi0 [.c 2 5 true] 14 Z75 := by
 intro cargs ccks ce hce hob C hk
 apply Hidden.out
 replace hce : altC (Zaw cargs ccks) (altC (Zax cargs ccks) (Zay cargs ccks)) = some ce := hce
 replace hce := Zl hce
 rcases hce with hce | hce
 ·unfold Zaw at hce
  split at hce; rotate_left; cases hce
  obtain rfl := Option.some.inj hce
  rename_i s1 b1 x1 r1
  refine obh hob fun r hF => ?_
  clear hob hce
  simp only [List.length_cons, List.length_nil, Nat.zero_add, Nat.reduceAdd] at hk
  have hr : Z4f s1 b1 x1 r1 = some r := by rw [lock_eq] at hF; exact hF
  unfold Z4f at hr
  constructor
  (try cbv)
  refine cal hr (by rintro (_) _ <;> cbv) ?_
  rintro q1 hx1 hr
  (try dsimp only at hr); constructor; (try cbv)
  refine cal hr (by rintro (_) _ <;> cbv) ?_
  rintro q2 hx2 hr
  (try dsimp only at hr); constructor; (try cbv)
  apply Hidden.out
  exact clf1d56
 replace hce := Zl hce
 rcases hce with hce | hce
 ·unfold Zax at hce
  split at hce; rotate_left; cases hce
  obtain rfl := Option.some.inj hce
  rename_i s1 b1 x1 r1 r2
  refine obh hob fun r hF => ?_
  clear hob hce
  simp only [List.length_cons, List.length_nil, Nat.zero_add, Nat.reduceAdd] at hk
  have hr : Z4g s1 b1 x1 r1 r2 = some r := by rw [lock_eq] at hF; exact hF
  unfold Z4g at hr
  constructor
  (try cbv)
  refine cal hr (by rintro (_) _ <;> cbv) ?_
  rintro q1 hx1 hr
  (try dsimp only at hr); constructor; (try cbv)
  refine cal hr (by rintro (_) _ <;> cbv) ?_
  rintro q2 hx2 hr
  (try dsimp only at hr); constructor; (try cbv)
  apply Hidden.out
  exact clf1d56
 unfold Zay at hce
 split at hce; rotate_left; cases hce
 obtain rfl := Option.some.inj hce
 rename_i s1 b1 r1 r2 x1
 refine obh hob fun r hF => ?_
 clear hob hce
 simp only [List.length_cons, List.length_nil, Nat.zero_add, Nat.reduceAdd] at hk
 have hr : Z2c s1 b1 r1 r2 x1 = some r := by rw [lock_eq] at hF; exact hF
 unfold Z2c at hr
 constructor
 (try cbv)
 refine cal hr (by rintro (_) _ <;> cbv) ?_
 rintro q1 hx1 hr
 (try dsimp only at hr); constructor; (try cbv)
 refine cal hr (by rintro (_) _ <;> cbv) ?_
 rintro q2 hx2 hr
 (try dsimp only at hr); constructor; (try cbv)
 apply Hidden.out
 exact clf1d56
noncomputable def Zdv : Nat → Option Con := look []
set_option maxHeartbeats 20000000 in
set_option maxRecDepth 100000 in
theorem Zww (P : Program) (T : Tab P Zdv) (hm : P.follows .mixedOrders = true) : FnVC P Zdv Zia [.c 4 3 true] 9 Z8u := by
 intro cargs ccks ce hce hob C hk
 apply Hidden.out
 replace hce : Z8v cargs ccks = some ce := hce
 unfold Z8v at hce
 split at hce; rotate_left; cases hce
 obtain rfl := Option.some.inj hce
 rename_i x1 x2
 refine obh hob fun r hF => ?_
 clear hob hce
 simp only [List.length_cons, List.length_nil, Nat.zero_add, Nat.reduceAdd] at hk
 have hr : Z1y x1 x2 = some r := by rw [lock_eq] at hF; exact hF
 unfold Z1y at hr
 constructor
 (try cbv)
 apply Hidden.out
 exact clacd82
noncomputable def Ze4 : Nat → Option Con := look []
set_option maxHeartbeats 20000000 in
set_option maxRecDepth 100000 in
theorem Zx5 (P : Program) (T : Tab P Ze4) (hm : P.follows .mixedOrders = true) : FnVC P Ze4 Zib [.t 2] 6 Z9e := by
 intro cargs ccks ce hce hob C hk
 apply Hidden.out
 replace hce : Z9f cargs ccks = some ce := hce
 unfold Z9f at hce
 split at hce; rotate_left; cases hce
 obtain rfl := Option.some.inj hce
 rename_i x1
 refine obh hob fun r hF => ?_
 clear hob hce
 simp only [List.length_cons, List.length_nil, Nat.zero_add, Nat.reduceAdd] at hk
 have hr : Z22 x1 = some r := by rw [lock_eq] at hF; exact hF
 unfold Z22 at hr
 constructor
 (try cbv)
 apply Hidden.out
 exact clacd82
noncomputable def Zf0 : Nat → Option Con := look []
set_option maxRecDepth 100000 in
theorem Zy1 (P : Program) (T : Tab P Zf0) (hm : P.follows .mixedOrders = true) : FnVC P Zf0 Ziv [.t 2] 8 Zaz := by
 intro cargs ccks ce hce hob C hk
 apply Hidden.out
 replace hce : Zb4 cargs ccks = some ce := hce
 unfold Zb4 at hce
 split at hce; rotate_left; cases hce
 obtain rfl := Option.some.inj hce
 rename_i l1
 refine obh hob fun r hF => ?_
 clear hob hce
 simp only [List.length_cons, List.length_nil, Nat.zero_add, Nat.reduceAdd] at hk
 have hr : cloneU64 l1 = some r := by rw [lock_eq] at hF; exact hF
 unfold cloneU64 at hr
 obtain ⟨g, hr⟩ := Z3u hr
 obtain rfl := Option.some.inj hr
 constructor
 cbv
 intro b hb
 cases b with
 | true =>
  constructor
  have hb : lock (@xlen Int) l1 = 0 := hb rfl
  simp only [lock_eq, xlen] at hb
  have e : l1 = [] := List.length_eq_zero_iff.1 hb
  refine ⟨_, hF, ?_⟩
  cbv
  exact e
 | false =>
  constructor
  cbv
  refine ⟨obl.2 (by simp only [R.len, lock_eq, choice_lk, xlen, List.length_nil]; simp only [xlen] at g; simp at g ⊢; omega), ?_⟩
  refine ⟨_, hF, ?_⟩
  cbv
  (try simp only [choice_lk])
  rfl
noncomputable def Zdw : Nat → Option Con := look [(89, Zaz)]
set_option maxHeartbeats 20000000 in
set_option maxRecDepth 100000 in
theorem Zwx (P : Program) (T : Tab P Zdw) (hm : P.follows .mixedOrders = true) : FnVC P Zdw Zic [.t 2] 11 Z8w := by
 intro cargs ccks ce hce hob C hk
 apply Hidden.out
 replace hce : Z8x cargs ccks = some ce := hce
 unfold Z8x at hce
 split at hce; rotate_left; cases hce
 obtain rfl := Option.some.inj hce
 rename_i l1
 refine obh hob fun r hF => ?_
 clear hob hce
 simp only [List.length_cons, List.length_nil, Nat.zero_add, Nat.reduceAdd] at hk
 have hr : Z1n l1 = some r := by rw [lock_eq] at hF; exact hF
 unfold Z1n at hr
 constructor
 (try cbv)
 refine cald hr (by rintro (_) _ <;> cbv) ?_
 rintro m1 hx1 hr
 (try dsimp only at hr); constructor; (try cbv)
 refine Z3 hr fun hr => ?_
 apply Hidden.out
 exact clf1d56
noncomputable def Zew : Nat → Option Con := look [(50, Z75), (60, Z8u), (61, Z9e), (62, Z8w)]
set_option maxHeartbeats 20000000 in
set_option maxRecDepth 100000 in
theorem Zxx (P : Program) (T : Tab P Zew) (hm : P.follows .mixedOrders = true) : FnVC P Zew Zhq [] 53 Z73 := by
 intro cargs ccks ce hce hob C hk
 apply Hidden.out
 replace hce : altC (Zaq cargs ccks) (altC (Zar cargs ccks) (Zas cargs ccks)) = some ce := hce
 replace hce := Zl hce
 rcases hce with hce | hce
 ·unfold Zaq at hce
  split at hce; rotate_left; cases hce
  obtain rfl := Option.some.inj hce
  rename_i s1 b1 x1 s2 b2 x2 x3 r1
  refine obh hob fun r hF => ?_
  clear hob hce
  simp only [List.length_cons, List.length_nil, Nat.zero_add, Nat.reduceAdd] at hk
  have hr : Z4e s1 b1 x1 s2 b2 x2 x3 r1 = some r := by rw [lock_eq] at hF; exact hF
  unfold Z4e at hr
  constructor
  (try cbv)
  refine cal hr (by rintro (⟨_, _⟩) _ <;> cbv) ?_
  rintro ⟨q1, q2⟩ hx1 hr
  (try dsimp only at hr); constructor; (try cbv)
  refine LoopOK.iter T (drawOK T hm) hr (fun | (i1, l1, n1, r2) => ⟨mkFr [(0, (.ptr 0 0)), (4, (.wsl 2)), (16, (.wsl 1)), (17, (.v (.int .i64 (lock ofN (lock (@xlen D) r1))))), (18, (.v (.int .i64 i1)))] 53 0, [(0, .blk 92 [(.str s1), (.v (.bool b1)), (.wsl 3), (.wsl 4), (.v (.int .i64 x1)), (.v (.int .u64 x3)), (.wsl 5), (.v (.pointer none))]), (1, .row (.row 83 (.st [.str, (.int .u64), (.int .u64), (.int .u64), (.int .i64), .bool]) r1)), (2, .row (.ints 46 .u64 l1)), (3, .row (.row 83 (.st [.str, (.int .u64), (.int .u64), (.int .u64), (.int .i64), .bool]) q1)), (4, .row (.row 96 (.st [(.int .i64), (.int .i64), (.int .i64)]) q2)), (5, .prow 98 tm98 n1 6), (6, .gho tm98 r2 none)], 7⟩) ?_ ?_
  ·exact clf6c1b
  clear hr
  intro x bb1 hr ht1
  obtain ⟨i1, l1, n1, r2⟩ := x
  as_aux_lemma =>
  constructor
  unfold Z87 at hr
  (try dsimp only at hr)
  (try cbv)
  refine Z2 hr ?_ ?_ <;> intro h1 hr
  ·(try cbv)
   refine Z3 hr fun hr => ?_
   refine cald hr (by rintro (_) _ <;> cbv) ?_
   rintro _ hx8 hr
   (try dsimp only at hr); constructor; (try cbv)
   refine cald hr (by rintro (_) _ <;> cbv) ?_
   rintro _ hx9 hr
   (try dsimp only at hr); constructor; (try cbv)
   refine Z3 hr fun hr => ?_
   refine Z3 hr fun hr => ?_
   apply Hidden.out
   exact cle9b97
  (try cbv)
  refine cal hr (by rintro (⟨_, _⟩) _ <;> cbv) ?_
  rintro ⟨m1, m2⟩ hx10 hr
  (try dsimp only at hr); constructor; (try cbv)
  apply Hidden.out
  exact cle4224
 replace hce := Zl hce
 rcases hce with hce | hce
 ·unfold Zar at hce
  split at hce; rotate_left; cases hce
  obtain rfl := Option.some.inj hce
  rename_i s1 b1 r1 r2 x1 s2 b2 x2 x3
  refine obh hob fun r hF => ?_
  clear hob hce
  simp only [List.length_cons, List.length_nil, Nat.zero_add, Nat.reduceAdd] at hk
  have hr : Z3g s1 b1 r1 r2 x1 s2 b2 x2 x3 = some r := by rw [lock_eq] at hF; exact hF
  unfold Z3g at hr
  constructor
  (try cbv)
  refine cal hr (by rintro (⟨_, _⟩) _ <;> cbv) ?_
  rintro ⟨q1, q2⟩ hx1 hr
  (try dsimp only at hr); constructor; (try cbv)
  refine LoopOK.iter T (drawOK T hm) hr (fun | (i1, l1, n1, r3) => ⟨mkFr [(0, (.ptr 0 0)), (4, (.wsl 1)), (16, (.rsl (.row 83 (.st [.str, (.int .u64), (.int .u64), (.int .u64), (.int .i64), .bool]) r1))), (17, (.v (.int .i64 (lock ofN (lock (@xlen D) r1))))), (18, (.v (.int .i64 i1)))] 53 0, [(0, .blk 92 [(.str s1), (.v (.bool b1)), (.wsl 2), (.wsl 3), (.v (.int .i64 x1)), (.v (.int .u64 x3)), (.wsl 4), (.v (.pointer none))]), (1, .row (.ints 46 .u64 l1)), (2, .row (.row 83 (.st [.str, (.int .u64), (.int .u64), (.int .u64), (.int .i64), .bool]) q1)), (3, .row (.row 96 (.st [(.int .i64), (.int .i64), (.int .i64)]) q2)), (4, .prow 98 tm98 n1 5), (5, .gho tm98 r3 none)], 6⟩) ?_ ?_
  ·exact clf6c1b
  clear hr
  intro x bb1 hr ht1
  obtain ⟨i1, l1, n1, r3⟩ := x
  as_aux_lemma =>
  constructor
  unfold Z29 at hr
  (try dsimp only at hr)
  (try cbv)
  refine Z2 hr ?_ ?_ <;> intro h1 hr
  ·(try cbv)
   refine Z3 hr fun hr => ?_
   refine cald hr (by rintro (_) _ <;> cbv) ?_
   rintro _ hx8 hr
   (try dsimp only at hr); constructor; (try cbv)
   refine cald hr (by rintro (_) _ <;> cbv) ?_
   rintro _ hx9 hr
   (try dsimp only at hr); constructor; (try cbv)
   refine Z3 hr fun hr => ?_
   refine Z3 hr fun hr => ?_
   apply Hidden.out
   exact cle9b97
  (try cbv)
  refine cal hr (by rintro (⟨_, _⟩) _ <;> cbv) ?_
  rintro ⟨m1, m2⟩ hx10 hr
  (try dsimp only at hr); constructor; (try cbv)
  apply Hidden.out
  exact cle4224
 unfold Zas at hce
 split at hce; rotate_left; cases hce; rename_i s1 b1 r1 r2 x1
 split at hce; rotate_left; cases hce
 split at hce; rotate_left; cases hce; rename_i s2 b2 x2 x3
 split at hce; rotate_left; cases hce; rename_i r3
 split at hce; rotate_left; cases hce; rename_i r4
 split at hce; rotate_left; cases hce; rename_i w1 n1
 split at hce; rotate_left; cases hce; rename_i x4 b3
 split at hce; rotate_left; cases hce; rename_i w2 r5
 split at hce; rotate_left; cases hce; rename_i l1
 split at hce; rotate_left; cases hce; rename_i l2
 split at hce
 ·cases hce
 obtain rfl := Option.some.inj hce
 rename_i _ htm
 simp only [Bool.and_eq_true] at htm
 obtain ⟨h1, h2⟩ := htm
 obtain rfl := Zb _ _ h1
 obtain rfl := Zb _ _ h2
 clear h1 h2
 refine obh hob fun r hF => ?_
 clear hob hce
 simp only [List.length_cons, List.length_nil, Nat.zero_add, Nat.reduceAdd] at hk
 have hr : Z2a s1 b1 r1 r2 x1 s2 b2 x2 x3 r3 r4 n1 x4 b3 r5 l1 l2 = some r := by rw [lock_eq] at hF; exact hF
 unfold Z2a at hr
 constructor
 (try cbv)
 refine cal hr (by rintro (⟨_, _⟩) _ <;> cbv) ?_
 rintro ⟨q1, q2⟩ hx1 hr
 (try dsimp only at hr); constructor; (try cbv)
 refine LoopOK.iter T (drawOK T hm) hr (fun | (i1, l3, n2, r6) => ⟨mkFr [(0, (.ptr 0 0)), (4, (.wsl 8)), (16, (.rsl (.row 83 (.st [.str, (.int .u64), (.int .u64), (.int .u64), (.int .i64), .bool]) r1))), (17, (.v (.int .i64 (lock ofN (lock (@xlen D) r1))))), (18, (.v (.int .i64 i1)))] 53 0, [(0, .blk 92 [(.str s1), (.v (.bool b1)), (.wsl 9), (.wsl 10), (.v (.int .i64 x1)), (.v (.int .u64 x3)), (.wsl 11), (.ptr 4 0)]), (1, .row (.row 83 (.st [.str, (.int .u64), (.int .u64), (.int .u64), (.int .i64), .bool]) r3)), (2, .row (.row 96 (.st [(.int .i64), (.int .i64), (.int .i64)]) r4)), (3, .prow 98 tm98 n1 5), (4, .blk 169 [(.wsl 6), (.v (.int .i64 x4)), (.v (.bool b3)), (.wsl 7)]), (5, .gho tm98 r5 none), (6, .row (.ints 46 .u64 l1)), (7, .row (.ints 46 .u64 l2)), (8, .row (.ints 46 .u64 l3)), (9, .row (.row 83 (.st [.str, (.int .u64), (.int .u64), (.int .u64), (.int .i64), .bool]) q1)), (10, .row (.row 96 (.st [(.int .i64), (.int .i64), (.int .i64)]) q2)), (11, .prow 98 tm98 n2 12), (12, .gho tm98 r6 none)], 13⟩) ?_ ?_
 ·exact clf6c1b
 clear hr
 intro x bb1 hr ht1
 obtain ⟨i1, l3, n2, r6⟩ := x
 as_aux_lemma =>
 constructor
 unfold Z6l at hr
 (try dsimp only at hr)
 (try cbv)
 refine Z2 hr ?_ ?_ <;> intro h1 hr
 ·(try cbv)
  refine Z3 hr fun hr => ?_
  refine cald hr (by rintro (_) _ <;> cbv) ?_
  rintro _ hx8 hr
  (try dsimp only at hr); constructor; (try cbv)
  refine cald hr (by rintro (_) _ <;> cbv) ?_
  rintro _ hx9 hr
  (try dsimp only at hr); constructor; (try cbv)
  refine Z3 hr fun hr => ?_
  refine Z3 hr fun hr => ?_
  apply Hidden.out
  exact cle9b97
 (try cbv)
 refine cal hr (by rintro (⟨_, _⟩) _ <;> cbv) ?_
 rintro ⟨m1, m2⟩ hx10 hr
 (try dsimp only at hr); constructor; (try cbv)
 apply Hidden.out
 exact cle4224
noncomputable def Zel : Nat → Option Con := look [(13, Z5q), (31, Z73)]
set_option maxHeartbeats 20000000 in
set_option maxRecDepth 100000 in
theorem Zxm (P : Program) (T : Tab P Zel) (hm : P.follows .mixedOrders = true) : FnVC P Zel Zhe [.t 2] 13 Z6x := by
 intro cargs ccks ce hce hob C hk
 apply Hidden.out
 replace hce : altC (Za7 cargs ccks) (Za8 cargs ccks) = some ce := hce
 replace hce := Zl hce
 rcases hce with hce | hce
 ·unfold Za7 at hce
  split at hce; rotate_left; cases hce
  obtain rfl := Option.some.inj hce
  rename_i s1 b1 x1 r1
  refine obh hob fun r hF => ?_
  clear hob hce
  simp only [List.length_cons, List.length_nil, Nat.zero_add, Nat.reduceAdd] at hk
  have hr : Z39 s1 b1 x1 r1 = some r := by rw [lock_eq] at hF; exact hF
  unfold Z39 at hr
  constructor
  (try cbv)
  refine cal hr (by rintro (_) _ <;> cbv) ?_
  rintro c1 hx1 hr
  (try dsimp only at hr); constructor; (try cbv)
  refine Zd hr ?_ ?_ <;> intro h1 hr
  ·(try cbv)
   apply Hidden.out
   have e := Option.some.inj hr
   revert e
   rcases r with _ | _ <;> intro e
   ·exact cld41ea
   cases e
  (try cbv)
  refine cal hr (by rintro (⟨_, _, _, _, _, _⟩) _ <;> cbv) ?_
  rintro ⟨q1, q2, k1, q3, m1, m2⟩ hx2 hr
  (try dsimp only at hr); constructor; (try cbv)
  apply Hidden.out
  have e := Option.some.inj hr
  revert e
  rcases r with _ | ⟨u0, u1, u2, u3, u4, u5⟩ <;> intro e
  ·cases e
  exact cla03ba
 unfold Za8 at hce
 split at hce; rotate_left; cases hce
 obtain rfl := Option.some.inj hce
 rename_i s1 b1 r1 r2 x1
 refine obh hob fun r hF => ?_
 clear hob hce
 simp only [List.length_cons, List.length_nil, Nat.zero_add, Nat.reduceAdd] at hk
 have hr : Z27 s1 b1 r1 r2 x1 = some r := by rw [lock_eq] at hF; exact hF
 unfold Z27 at hr
 constructor
 (try cbv)
 refine cal hr (by rintro (_) _ <;> cbv) ?_
 rintro c1 hx1 hr
 (try dsimp only at hr); constructor; (try cbv)
 refine Zd hr ?_ ?_ <;> intro h1 hr
 ·(try cbv)
  apply Hidden.out
  have e := Option.some.inj hr
  revert e
  rcases r with _ | _ <;> intro e
  ·exact cld41ea
  cases e
 (try cbv)
 refine cal hr (by rintro (⟨_, _, _, _, _, _⟩) _ <;> cbv) ?_
 rintro ⟨q1, q2, k1, q3, m1, m2⟩ hx2 hr
 (try dsimp only at hr); constructor; (try cbv)
 apply Hidden.out
 have e := Option.some.inj hr
 revert e
 rcases r with _ | ⟨u0, u1, u2, u3, u4, u5⟩ <;> intro e
 ·cases e
 exact cla03ba
noncomputable def Zee : Nat → Option Con := look []
set_option maxHeartbeats 20000000 in
set_option maxRecDepth 100000 in
theorem Zxf (P : Program) (T : Tab P Zee) (hm : P.follows .mixedOrders = true) : FnVC P Zee Zin [.t 3] 14 Z9t := by
 intro cargs ccks ce hce hob C hk
 apply Hidden.out
 replace hce : Z9u cargs ccks = some ce := hce
 unfold Z9u at hce
 split at hce; rotate_left; cases hce
 obtain rfl := Option.some.inj hce
 rename_i x1 x2 x3 x4
 refine obh hob fun r hF => ?_
 clear hob hce
 simp only [List.length_cons, List.length_nil, Nat.zero_add, Nat.reduceAdd] at hk
 have hr : Z32 x1 x2 x3 x4 = some r := by rw [lock_eq] at hF; exact hF
 unfold Z32 at hr
 constructor
 (try cbv)
 refine Z2 hr ?_ ?_ <;> intro h1 hr
 ·(try cbv)
  apply Hidden.out
  exact clacd82
 (try cbv)
 apply Hidden.out
 exact clacd82
noncomputable def Zf8 : Nat → Option Con := look [(81, Z9t)]
set_option maxHeartbeats 20000000 in
set_option maxRecDepth 100000 in
theorem Zy9 (P : Program) (T : Tab P Zf8) (hm : P.follows .mixedOrders = true) : FnVC P Zf8 Zim [.t 4] 19 Zbi := by
 intro cargs ccks ce hce hob C hk
 apply Hidden.out
 replace hce : Zbj cargs ccks = some ce := hce
 unfold Zbj at hce
 split at hce; rotate_left; cases hce
 obtain rfl := Option.some.inj hce
 rename_i r1 x1
 refine obh hob fun r hF => ?_
 clear hob hce
 simp only [List.length_cons, List.length_nil, Nat.zero_add, Nat.reduceAdd] at hk
 have hr : Z2g r1 x1 = some r := by rw [lock_eq] at hF; exact hF
 unfold Z2g at hr
 constructor
 (try cbv)
 refine LoopOK.iter T (drawOK T hm) hr (fun | i1 => ⟨mkFr [(0, (.rsl (.row 96 (.st [(.int .i64), (.int .i64), (.int .i64)]) r1))), (1, (.fn 81 [(.ptr 0 0)])), (7, (.v (.int .i64 (lock ofN (lock (@xlen D) r1))))), (8, (.v (.int .i64 i1)))] 19 0, [(0, .blk 3 [(.v (.int .i64 x1))])], 1⟩) ?_ ?_
 ·exact cl2ec4c
 clear hr
 intro x bb1 hr ht1
 obtain ⟨i1, hz⟩ : ∃ z, z = x := ⟨x, rfl⟩
 subst hz
 as_aux_lemma =>
 constructor
 unfold Z4l at hr
 (try dsimp only at hr)
 (try cbv)
 refine Z2 hr ?_ ?_ <;> intro h1 hr
 ·(try cbv)
  refine Z3 hr fun hr => ?_
  refine cal hr (by rintro (_) _ <;> cbv) ?_
  rintro c3 hx3 hr
  (try dsimp only at hr); constructor; (try cbv)
  refine Z2 hr ?_ ?_ <;> intro h1 hr
  ·(try cbv)
   apply Hidden.out
   exact clb5cb2
  (try cbv)
  apply Hidden.out
  exact clba30f
 (try cbv)
 apply Hidden.out
 exact clb5cb2
noncomputable def Zef : Nat → Option Con := look [(80, Zbi)]
set_option maxHeartbeats 20000000 in
set_option maxRecDepth 100000 in
theorem Zxg (P : Program) (T : Tab P Zef) (hm : P.follows .mixedOrders = true) : FnVC P Zef Zi1 [.t 4] 20 Z6v := by
 intro cargs ccks ce hce hob C hk
 apply Hidden.out
 replace hce : altC (Z9v cargs ccks) (Z9w cargs ccks) = some ce := hce
 replace hce := Zl hce
 rcases hce with hce | hce
 ·unfold Z9v at hce
  split at hce; rotate_left; cases hce
  obtain rfl := Option.some.inj hce
  rename_i x1 x2 r1
  refine obh hob fun r hF => ?_
  clear hob hce
  simp only [List.length_cons, List.length_nil, Nat.zero_add, Nat.reduceAdd] at hk
  have hr : Z25 x1 x2 r1 = some r := by rw [lock_eq] at hF; exact hF
  unfold Z25 at hr
  constructor
  (try cbv)
  refine cal hr (by rintro (_) _ <;> cbv) ?_
  rintro y1 hx1 hr
  (try dsimp only at hr); constructor; (try cbv)
  refine Z2 hr ?_ ?_ <;> intro h1 hr
  ·(try cbv)
   apply Hidden.out
   exact clacd82
  (try cbv)
  refine Z3 hr fun hr => ?_
  apply Hidden.out
  exact clacd82
 unfold Z9w at hce
 split at hce; rotate_left; cases hce
 obtain rfl := Option.some.inj hce
 rename_i r1 x1 x2
 refine obh hob fun r hF => ?_
 clear hob hce
 simp only [List.length_cons, List.length_nil, Nat.zero_add, Nat.reduceAdd] at hk
 have hr : Z26 r1 x1 x2 = some r := by rw [lock_eq] at hF; exact hF
 unfold Z26 at hr
 constructor
 (try cbv)
 refine cal hr (by rintro (_) _ <;> cbv) ?_
 rintro y1 hx1 hr
 (try dsimp only at hr); constructor; (try cbv)
 refine Z2 hr ?_ ?_ <;> intro h1 hr
 ·(try cbv)
  apply Hidden.out
  exact clacd82
 (try cbv)
 refine Z3 hr fun hr => ?_
 apply Hidden.out
 exact clacd82
noncomputable def Zec : Nat → Option Con := look []
set_option maxHeartbeats 20000000 in
set_option maxRecDepth 100000 in
theorem Zxd (P : Program) (T : Tab P Zec) (hm : P.follows .mixedOrders = true) : FnVC P Zec Ziy [] 43 Z9q := by
 intro cargs ccks ce hce hob C hk
 apply Hidden.out
 replace hce : Z9r cargs ccks = some ce := hce
 unfold Z9r at hce
 split at hce; rotate_left; cases hce
 obtain rfl := Option.some.inj hce
 rename_i x1 x2 x3 r1
 refine obh hob fun r hF => ?_
 clear hob hce
 simp only [List.length_cons, List.length_nil, Nat.zero_add, Nat.reduceAdd] at hk
 have hr : Z31 x1 x2 x3 r1 = some r := by rw [lock_eq] at hF; exact hF
 unfold Z31 at hr
 constructor
 (try cbv)
 refine Z3 hr fun hr => ?_
 refine Z3 hr fun hr => ?_
 refine Z3 hr fun hr => ?_
 refine Z3 hr fun hr => ?_
 apply Hidden.out
 exact clacd82
noncomputable def Zeb : Nat → Option Con := look []
set_option maxHeartbeats 20000000 in
set_option maxRecDepth 100000 in
theorem Zxc (P : Program) (T : Tab P Zeb) (hm : P.follows .mixedOrders = true) : FnVC P Zeb Zir [.t 4] 17 Z5p := by
 intro cargs ccks ce hce hob C hk
 apply Hidden.out
 replace hce : Z9p cargs ccks = some ce := hce
 unfold Z9p at hce
 split at hce; rotate_left; cases hce
 obtain rfl := Option.some.inj hce
 rename_i x1 x2 x3 x4 r1
 refine obh hob fun r hF => ?_
 clear hob hce
 simp only [List.length_cons, List.length_nil, Nat.zero_add, Nat.reduceAdd] at hk
 have hr : Z1d x1 x2 x3 x4 r1 = some r := by rw [lock_eq] at hF; exact hF
 unfold Z1d at hr
 constructor
 (try cbv)
 refine Z5z hr fun hr => ?_
 apply Hidden.out
 exact clacd82
noncomputable def Zed : Nat → Option Con := look [(91, Z9q), (85, Z5p)]
set_option maxHeartbeats 20000000 in
set_option maxRecDepth 100000 in
theorem Zxe (P : Program) (T : Tab P Zed) (hm : P.follows .mixedOrders = true) : FnVC P Zed Zih [] 35 Z6u := by
 intro cargs ccks ce hce hob C hk
 apply Hidden.out
 replace hce : Z9s cargs ccks = some ce := hce
 unfold Z9s at hce
 split at hce; rotate_left; cases hce
 obtain rfl := Option.some.inj hce
 rename_i x1 x2 x3 x4 x5 x6 r1
 refine obh hob fun r hF => ?_
 clear hob hce
 simp only [List.length_cons, List.length_nil, Nat.zero_add, Nat.reduceAdd] at hk
 have hr : Z24 x1 x2 x3 x4 x5 x6 r1 = some r := by rw [lock_eq] at hF; exact hF
 unfold Z24 at hr
 constructor
 (try cbv)
 refine Z2 hr ?_ ?_ <;> intro h1 hr
 ·(try cbv)
  refine cal hr (by rintro (_) _ <;> cbv) ?_
  rintro q1 hx1 hr
  (try dsimp only at hr); constructor; (try cbv)
  refine cald hr (by rintro (_) _ <;> cbv) ?_
  rintro y1 hx2 hr
  (try dsimp only at hr); constructor; (try cbv)
  refine Z3 hr fun hr => ?_
  apply Hidden.out
  exact cldfed9
 (try cbv)
 refine cald hr (by rintro (_) _ <;> cbv) ?_
 rintro y2 hx3 hr
 (try dsimp only at hr); constructor; (try cbv)
 refine Z3 hr fun hr => ?_
 apply Hidden.out
 exact cldfed9
noncomputable def Zea : Nat → Option Con := look [(67, Z6u)]
set_option maxHeartbeats 20000000 in
set_option maxRecDepth 100000 in
theorem Zxb (P : Program) (T : Tab P Zea) (hm : P.follows .mixedOrders = true) : FnVC P Zea Zi2 [.t 4] 21 Z9n := by
 intro cargs ccks ce hce hob C hk
 apply Hidden.out
 replace hce : Z9o cargs ccks = some ce := hce
 unfold Z9o at hce
 split at hce; rotate_left; cases hce
 obtain rfl := Option.some.inj hce
 rename_i x1 x2 x3 x4 x5 x6 r1
 refine obh hob fun r hF => ?_
 clear hob hce
 simp only [List.length_cons, List.length_nil, Nat.zero_add, Nat.reduceAdd] at hk
 have hr : Z1c x1 x2 x3 x4 x5 x6 r1 = some r := by rw [lock_eq] at hF; exact hF
 unfold Z1c at hr
 constructor
 (try cbv)
 refine Z2 hr ?_ ?_ <;> intro h1 hr
 ·(try cbv)
  apply Hidden.out
  exact clbfd00
 (try cbv)
 refine cal hr (by rintro (⟨_, _, _⟩) _ <;> cbv) ?_
 rintro ⟨y1, y2, q1⟩ hx1 hr
 (try dsimp only at hr); constructor; (try cbv)
 apply Hidden.out
 exact clbfd00
noncomputable def Zep : Nat → Option Con := look [(51, Z6v), (52, Z9n)]
set_option maxHeartbeats 20000000 in
set_option maxRecDepth 100000 in
theorem Zxq (P : Program) (T : Tab P Zep) (hm : P.follows .mixedOrders = true) : FnVC P Zep Zhm [.c 6 3 true, .t 7] 64 Z6z := by
 intro cargs ccks ce hce hob C hk
 apply Hidden.out
 replace hce : Zag cargs ccks = some ce := hce
 unfold Zag at hce
 split at hce; rotate_left; cases hce; rename_i x1 x2
 split at hce; rotate_left; cases hce
 split at hce; rotate_left; cases hce; rename_i s1 b1 x3 x4
 split at hce; rotate_left; cases hce; rename_i r1
 split at hce; rotate_left; cases hce; rename_i r2
 split at hce; rotate_left; cases hce; rename_i w1 n1
 split at hce; rotate_left; cases hce; rename_i x5 b2
 split at hce; rotate_left; cases hce; rename_i w2 r3
 split at hce; rotate_left; cases hce; rename_i l1
 split at hce; rotate_left; cases hce; rename_i l2
 split at hce
 ·cases hce
 obtain rfl := Option.some.inj hce
 rename_i _ htm
 simp only [Bool.and_eq_true] at htm
 obtain ⟨h1, h2⟩ := htm
 obtain rfl := Zb _ _ h1
 obtain rfl := Zb _ _ h2
 clear h1 h2
 refine obh hob fun r hF => ?_
 clear hob hce
 simp only [List.length_cons, List.length_nil, Nat.zero_add, Nat.reduceAdd] at hk
 have hr : Zy x1 x2 s1 b1 x3 x4 r1 r2 n1 x5 b2 r3 l1 l2 = some r := by rw [lock_eq] at hF; exact hF
 unfold Zy at hr
 constructor
 (try cbv)
 refine Z2 hr ?_ ?_ <;> intro h1 hr
 ·(try cbv)
  apply Hidden.out
  exact clc60e0
 (try cbv)
 refine Z2 hr ?_ ?_ <;> intro h1 hr
 ·(try cbv)
  apply Hidden.out
  exact clc60e0
 (try cbv)
 refine Z2 hr ?_ ?_ <;> intro h1 hr
 ·(try cbv)
  apply Hidden.out
  exact clc60e0
 (try cbv)
 refine Z2 hr ?_ ?_ <;> intro h1 hr
 ·(try cbv)
  apply Hidden.out
  exact clc60e0
 (try cbv)
 refine cald hr (by rintro (_) _ <;> cbv) ?_
 rintro y1 hx1 hr
 (try dsimp only at hr); constructor; (try cbv)
 refine Z3 hr fun hr => ?_
 refine cald hr (by rintro (⟨_, _, _, _⟩) _ <;> cbv) ?_
 rintro ⟨c1, y2, y3, q1⟩ hx2 hr
 (try dsimp only at hr); constructor; (try cbv)
 refine Zd hr ?_ ?_ <;> intro h1 hr
 ·(try cbv)
  apply Hidden.out
  exact clc60e0
 (try cbv)
 apply Hidden.out
 exact clc60e0
noncomputable def Ze7 : Nat → Option Con := look []
set_option maxHeartbeats 20000000 in
set_option maxRecDepth 100000 in
theorem Zx8 (P : Program) (T : Tab P Ze7) (hm : P.follows .mixedOrders = true) : FnVC P Ze7 Zhs [.t 2] 9 Z5o := by
 intro cargs ccks ce hce hob C hk
 apply Hidden.out
 replace hce : Z9j cargs ccks = some ce := hce
 unfold Z9j at hce
 split at hce; rotate_left; cases hce
 obtain rfl := Option.some.inj hce
 rename_i x1 x2 x3 r1
 refine obh hob fun r hF => ?_
 clear hob hce
 simp only [List.length_cons, List.length_nil, Nat.zero_add, Nat.reduceAdd] at hk
 have hr : Z1b x1 x2 x3 r1 = some r := by rw [lock_eq] at hF; exact hF
 unfold Z1b at hr
 constructor
 (try cbv)
 apply Hidden.out
 exact clacd82
noncomputable def Ze6 : Nat → Option Con := look [(33, Z5o)]
set_option maxHeartbeats 20000000 in
set_option maxRecDepth 100000 in
theorem Zx7 (P : Program) (T : Tab P Ze6) (hm : P.follows .mixedOrders = true) : FnVC P Ze6 Zip [.c 2 3 true, .t 3] 18 Z6s := by
 intro cargs ccks ce hce hob C hk
 apply Hidden.out
 replace hce : Z9i cargs ccks = some ce := hce
 unfold Z9i at hce
 split at hce; rotate_left; cases hce
 obtain rfl := Option.some.inj hce
 rename_i x1 x2 x3 r1
 refine obh hob fun r hF => ?_
 clear hob hce
 simp only [List.length_cons, List.length_nil, Nat.zero_add, Nat.reduceAdd] at hk
 have hr : Z23 x1 x2 x3 r1 = some r := by rw [lock_eq] at hF; exact hF
 unfold Z23 at hr
 constructor
 (try cbv)
 refine cal hr (by rintro (_) _ <;> cbv) ?_
 rintro _ hx1 hr
 (try dsimp only at hr); constructor; (try cbv)
 refine Z2 hr ?_ ?_ <;> intro h1 hr
 ·(try cbv)
  apply Hidden.out
  exact clbfd00
 (try cbv)
 refine Z3 hr fun hr => ?_
 apply Hidden.out
 exact clbfd00
noncomputable def Zey : Nat → Option Con := look [(83, Z6s)]
set_option maxHeartbeats 20000000 in
set_option maxRecDepth 100000 in
theorem Zxz (P : Program) (T : Tab P Zey) (hm : P.follows .mixedOrders = true) : FnVC P Zey Zi4 [.c 4 2 true] 46 Zau := by
 intro cargs ccks ce hce hob C hk
 apply Hidden.out
 replace hce : Zav cargs ccks = some ce := hce
 unfold Zav at hce
 split at hce; rotate_left; cases hce
 split at hce; rotate_left; cases hce
 split at hce; rotate_left; cases hce; rename_i s1 b1 x1 x2
 split at hce; rotate_left; cases hce; rename_i s2 x3 x4 x5 x6 b2 x7 x8 x9
 split at hce; rotate_left; cases hce; rename_i r1
 split at hce; rotate_left; cases hce; rename_i r2
 split at hce; rotate_left; cases hce; rename_i w1 n1
 split at hce; rotate_left; cases hce; rename_i x10 b3
 split at hce; rotate_left; cases hce; rename_i x11 x12 x13
 split at hce; rotate_left; cases hce; rename_i w2 r3 n2
 split at hce; rotate_left; cases hce; rename_i l1
 split at hce; rotate_left; cases hce; rename_i l2
 split at hce; rotate_left; cases hce; rename_i r4
 split at hce
 ·cases hce
 obtain rfl := Option.some.inj hce
 rename_i _ htm
 simp only [Bool.and_eq_true] at htm
 obtain ⟨h1, h2⟩ := htm
 obtain rfl := Zb _ _ h1
 obtain rfl := Zb _ _ h2
 clear h1 h2
 refine obh hob fun r hF => ?_
 clear hob hce
 simp only [List.length_cons, List.length_nil, Nat.zero_add, Nat.reduceAdd] at hk
 have hr : Z3h s1 b1 x1 x2 s2 x3 x4 x5 x6 b2 x7 x8 x9 r1 r2 n1 x10 b3 x11 x12 x13 r3 n2 l1 l2 r4 = some r := by rw [lock_eq] at hF; exact hF
 unfold Z3h at hr
 constructor
 (try cbv)
 refine cal hr (by rintro (⟨_, _, _, _⟩) _ <;> cbv) ?_
 rintro ⟨y1, y2, y3, c1⟩ hx1 hr
 (try dsimp only at hr); constructor; (try cbv)
 refine Zd hr ?_ ?_ <;> intro h1 hr
 ·(try cbv)
  apply Hidden.out
  exact clf1d56
 (try cbv)
 refine Z2 hr ?_ ?_ <;> intro h1 hr
 ·(try cbv)
  refine Zd hr ?_ ?_ <;> intro h1 hr
  ·(try cbv)
   apply Hidden.out
   exact clf1d56
  (try cbv)
  apply Hidden.out
  exact clf1d56
 (try cbv)
 apply Hidden.out
 exact clf1d56
noncomputable def Ze0 : Nat → Option Con := look []
set_option maxHeartbeats 20000000 in
set_option maxRecDepth 100000 in
theorem Zx1 (P : Program) (T : Tab P Ze0) (hm : P.follows .mixedOrders = true) : FnVC P Ze0 Zj1 [] 22 Z95 := by
 intro cargs ccks ce hce hob C hk
 apply Hidden.out
 replace hce : Z96 cargs ccks = some ce := hce
 unfold Z96 at hce
 split at hce; rotate_left; cases hce
 obtain rfl := Option.some.inj hce
 rename_i x1 b1 l1 l2
 refine obh hob fun r hF => ?_
 clear hob hce
 simp only [List.length_cons, List.length_nil, Nat.zero_add, Nat.reduceAdd] at hk
 have hr : Z1a x1 b1 l1 l2 = some r := by rw [lock_eq] at hF; exact hF
 unfold Z1a at hr
 constructor
 (try cbv)
 refine Z5z hr fun hr => ?_
 apply Hidden.out
 exact clacd82
noncomputable def Zei : Nat → Option Con := look []
set_option maxHeartbeats 20000000 in
set_option maxRecDepth 100000 in
theorem Zxj (P : Program) (T : Tab P Zei) (hm : P.follows .mixedOrders = true) : FnVC P Zei Ziz [.t 4] 13 Z6w := by
 intro cargs ccks ce hce hob C hk
 apply Hidden.out
 replace hce : Za2 cargs ccks = some ce := hce
 unfold Za2 at hce
 split at hce; rotate_left; cases hce
 obtain rfl := Option.some.inj hce
 rename_i x1 x2
 refine obh hob fun r hF => ?_
 clear hob hce
 simp only [List.length_cons, List.length_nil, Nat.zero_add, Nat.reduceAdd] at hk
 have hr : Z1p x1 x2 = some r := by rw [lock_eq] at hF; exact hF
 unfold Z1p at hr
 constructor
 (try cbv)
 refine Z2 hr ?_ ?_ <;> intro h1 hr
 ·(try cbv)
  apply Hidden.out
  exact clacd82
 (try cbv)
 apply Hidden.out
 exact clacd82
noncomputable def Ze1 : Nat → Option Con := look [(99, Z95), (97, Z6w)]
set_option maxHeartbeats 20000000 in
set_option maxRecDepth 100000 in
theorem Zx2 (P : Program) (T : Tab P Ze1) (hm : P.follows .mixedOrders = true) : FnVC P Ze1 Ziq [.t 4] 71 Z97 := by
 intro cargs ccks ce hce hob C hk
 apply Hidden.out
 replace hce : Z98 cargs ccks = some ce := hce
 unfold Z98 at hce
 split at hce; rotate_left; cases hce
 obtain rfl := Option.some.inj hce
 rename_i x1 b1 x2 b2 l1 l2
 refine obh hob fun r hF => ?_
 clear hob hce
 simp only [List.length_cons, List.length_nil, Nat.zero_add, Nat.reduceAdd] at hk
 have hr : Z20 x1 b1 x2 b2 l1 l2 = some r := by rw [lock_eq] at hF; exact hF
 unfold Z20 at hr
 constructor
 (try cbv)
 refine Z3 hr fun hr => ?_
 refine Z2 hr ?_ ?_ <;> intro h1 hr
 ·(try cbv)
  refine cal hr (by rintro (_) _ <;> cbv) ?_
  rintro y1 hx1 hr
  (try dsimp only at hr); constructor; (try cbv)
  apply Hidden.out
  exact clbfd00
 as_aux_lemma =>
 (try cbv)
 refine Zd hr ?_ ?_ <;> intro h1 hr
 ·(try cbv)
  refine cal hr (by rintro (_) _ <;> cbv) ?_
  rintro y2 hx2 hr
  (try dsimp only at hr); constructor; (try cbv)
  apply Hidden.out
  exact clbfd00
 (try cbv)
 refine Zd hr ?_ ?_ <;> intro h1 hr
 ·(try cbv)
  refine Z3 hr fun hr => ?_
  refine cald hr (by rintro (_) _ <;> cbv) ?_
  rintro y3 hx3 hr
  (try dsimp only at hr); constructor; (try cbv)
  refine Z2 hr ?_ ?_ <;> intro h1 hr
  ·(try cbv)
   refine cal hr (by rintro (_) _ <;> cbv) ?_
   rintro y4 hx4 hr
   (try dsimp only at hr); constructor; (try cbv)
   apply Hidden.out
   exact clbfd00
  (try cbv)
  apply Hidden.out
  exact clbfd00
 (try cbv)
 refine Z2 hr ?_ ?_ <;> intro h1 hr
 ·(try cbv)
  refine cal hr (by rintro (_) _ <;> cbv) ?_
  rintro y5 hx5 hr
  (try dsimp only at hr); constructor; (try cbv)
  apply Hidden.out
  exact clbfd00
 (try cbv)
 apply Hidden.out
 exact clbfd00
noncomputable def Zdx : Nat → Option Con := look [(84, Z97)]
set_option maxHeartbeats 20000000 in
set_option maxRecDepth 100000 in
theorem Zwy (P : Program) (T : Tab P Zdx) (hm : P.follows .mixedOrders = true) : FnVC P Zdx Zi5 [.t 4] 43 Z8y := by
 intro cargs ccks ce hce hob C hk
 apply Hidden.out
 replace hce : Z8z cargs ccks = some ce := hce
 unfold Z8z at hce
 split at hce; rotate_left; cases hce
 obtain rfl := Option.some.inj hce
 rename_i r1 x1 b1 l1 l2
 refine obh hob fun r hF => ?_
 clear hob hce
 simp only [List.length_cons, List.length_nil, Nat.zero_add, Nat.reduceAdd] at hk
 have hr : Z1z r1 x1 b1 l1 l2 = some r := by rw [lock_eq] at hF; exact hF
 unfold Z1z at hr
 constructor
 (try cbv)
 refine Zd hr ?_ ?_ <;> intro h1 hr
 ·(try cbv)
  apply Hidden.out
  exact clbfd00
 as_aux_lemma =>
 (try cbv)
 refine Z2 hr ?_ ?_ <;> intro h1 hr
 ·(try cbv)
  apply Hidden.out
  exact clbfd00
 (try cbv)
 refine LoopOK.iter T (drawOK T hm) hr (fun | (i1, i2, b2, l3) => ⟨mkFr [(0, (.ptr 0 0)), (1, (.rsl (.row 133 (.st [(.int .u64), .bool]) r1))), (24, (.v (.int .i64 (lock iadd .i64 (lock ofN (lock (@xlen D) r1)) (1 : Int))))), (25, (.v (.int .i64 i1)))] 43 0, [(0, .blk 169 [(.wsl 1), (.v (.int .i64 i2)), (.v (.bool b2)), (.wsl 2)]), (1, .row (.ints 46 .u64 l1)), (2, .row (.ints 46 .u64 l3))], 3⟩) ?_ ?_
 ·exact clf6c1b
 clear hr
 intro x bb1 hr ht1
 obtain ⟨i1, i2, b2, l3⟩ := x
 as_aux_lemma =>
 constructor
 unfold Z48 at hr
 (try dsimp only at hr)
 (try cbv)
 refine Z2 hr ?_ ?_ <;> intro h1 hr
 ·(try cbv)
  refine Z3 hr fun hr => ?_
  refine cal hr (by rintro (⟨_, _, _, _⟩) _ <;> cbv) ?_
  rintro ⟨c5, y3, c6, m3⟩ hx3 hr
  (try dsimp only at hr); constructor; (try cbv)
  refine Z2 hr ?_ ?_ <;> intro h1 hr
  ·(try cbv)
   apply Hidden.out
   exact clfb273
  (try cbv)
  apply Hidden.out
  exact cle9b97
 (try cbv)
 apply Hidden.out
 exact clfb273
noncomputable def Ze9 : Nat → Option Con := look [(83, Z6s), (85, Z5p)]
set_option maxHeartbeats 20000000 in
set_option maxRecDepth 100000 in
theorem Zxa (P : Program) (T : Tab P Ze9) (hm : P.follows .mixedOrders = true) : FnVC P Ze9 Zi6 [.c 2 3 true, .t 3] 26 Z9l := by
 intro cargs ccks ce hce hob C hk
 apply Hidden.out
 replace hce : Z9m cargs ccks = some ce := hce
 unfold Z9m at hce
 split at hce; rotate_left; cases hce
 obtain rfl := Option.some.inj hce
 rename_i x1 x2 x3 r1
 refine obh hob fun r hF => ?_
 clear hob hce
 simp only [List.length_cons, List.length_nil, Nat.zero_add, Nat.reduceAdd] at hk
 have hr : Z1o x1 x2 x3 r1 = some r := by rw [lock_eq] at hF; exact hF
 unfold Z1o at hr
 constructor
 (try cbv)
 refine cal hr (by rintro (⟨_, _, _, _⟩) _ <;> cbv) ?_
 rintro ⟨y1, y2, y3, c1⟩ hx1 hr
 (try dsimp only at hr); constructor; (try cbv)
 refine Z2 hr ?_ ?_ <;> intro h1 hr
 ·(try cbv)
  refine cal hr (by rintro (_) _ <;> cbv) ?_
  rintro y4 hx2 hr
  (try dsimp only at hr); constructor; (try cbv)
  apply Hidden.out
  exact clc60e0
 (try cbv)
 apply Hidden.out
 exact clc60e0
noncomputable def Zds : Nat → Option Con := look []
set_option maxHeartbeats 20000000 in
set_option maxRecDepth 100000 in
theorem Zwt (P : Program) (T : Tab P Zds) (hm : P.follows .mixedOrders = true) : FnVC P Zds Zi7 [.c 4 3 true, .t 5] 17 Z8o := by
 intro cargs ccks ce hce hob C hk
 apply Hidden.out
 replace hce : Z8p cargs ccks = some ce := hce
 unfold Z8p at hce
 split at hce; rotate_left; cases hce
 obtain rfl := Option.some.inj hce
 rename_i x1 x2 x3 x4
 refine obh hob fun r hF => ?_
 clear hob hce
 simp only [List.length_cons, List.length_nil, Nat.zero_add, Nat.reduceAdd] at hk
 have hr : Z2v x1 x2 x3 x4 = some r := by rw [lock_eq] at hF; exact hF
 unfold Z2v at hr
 constructor
 (try cbv)
 refine Z2 hr ?_ ?_ <;> intro h1 hr
 ·(try cbv)
  apply Hidden.out
  exact clf1d56
 (try cbv)
 apply Hidden.out
 exact clf1d56
noncomputable def Zer : Nat → Option Con := look [(54, Zau), (55, Z8y), (56, Z9l), (57, Z8o)]
set_option maxHeartbeats 20000000 in
set_option maxRecDepth 100000 in
theorem Zxs (P : Program) (T : Tab P Zer) (hm : P.follows .mixedOrders = true) : FnVC P Zer Zho [.c 2 3 true, .t 3, .t 4] 80 Z70 := by
 intro cargs ccks ce hce hob C hk
 apply Hidden.out
 replace hce : Zaj cargs ccks = some ce := hce
 unfold Zaj at hce
 split at hce; rotate_left; cases hce
 split at hce; rotate_left; cases hce
 split at hce; rotate_left; cases hce; rename_i s1 b1 x1 x2
 split at hce; rotate_left; cases hce; rename_i r1
 split at hce; rotate_left; cases hce; rename_i r2
 split at hce; rotate_left; cases hce; rename_i w1 n1
 split at hce; rotate_left; cases hce; rename_i x3 b2
 split at hce; rotate_left; cases hce; rename_i w2 r3
 split at hce; rotate_left; cases hce; rename_i l1
 split at hce; rotate_left; cases hce; rename_i l2
 split at hce
 ·cases hce
 obtain rfl := Option.some.inj hce
 rename_i _ htm
 simp only [Bool.and_eq_true] at htm
 obtain ⟨h1, h2⟩ := htm
 obtain rfl := Zb _ _ h1
 obtain rfl := Zb _ _ h2
 clear h1 h2
 refine obh hob fun r hF => ?_
 clear hob hce
 simp only [List.length_cons, List.length_nil, Nat.zero_add, Nat.reduceAdd] at hk
 have hr : Zz s1 b1 x1 x2 r1 r2 n1 x3 b2 r3 l1 l2 = some r := by rw [lock_eq] at hF; exact hF
 unfold Zz at hr
 constructor
 (try cbv)
 refine LoopOK.iter T (drawOK T hm) hr (fun | (i1, r4, r5) => ⟨mkFr [(0, (.ptr 0 0)), (2, (.ptr 8 0)), (5, (.wsl 9)), (18, (.wsl 3)), (19, (.v (.int .i64 (lock ofN n1)))), (20, (.v (.int .i64 i1)))] 80 0, [(0, .blk 92 [(.str s1), (.v (.bool b1)), (.wsl 1), (.wsl 2), (.v (.int .i64 x1)), (.v (.int .u64 x2)), (.wsl 3), (.ptr 4 0)]), (1, .row (.row 83 (.st [.str, (.int .u64), (.int .u64), (.int .u64), (.int .i64), .bool]) r1)), (2, .row (.row 96 (.st [(.int .i64), (.int .i64), (.int .i64)]) r2)), (3, .prow 98 tm98 n1 10), (4, .blk 169 [(.wsl 6), (.v (.int .i64 x3)), (.v (.bool b2)), (.wsl 7)]), (6, .row (.ints 46 .u64 l1)), (7, .row (.ints 46 .u64 l2)), (8, .blk 75 [(.v (.int .u64 (0 : Int))), (.v (.int .i64 (0 : Int))), (.v (.int .i64 (0 : Int)))]), (9, .row (.row 133 (.st [(.int .u64), .bool]) r4)), (10, .gho tm98 r5 none)], 11⟩) ?_ ?_
 ·exact cl63eab
 clear hr
 intro x bb1 hr ht1
 obtain ⟨i1, r4, r5⟩ := x
 as_aux_lemma =>
 constructor
 unfold Z1r at hr
 (try dsimp only at hr)
 (try cbv)
 refine Z2 hr ?_ ?_ <;> intro h1 hr
 ·(try cbv)
  refine Z3 hr fun hr => ?_
  refine cal hr (by rintro (⟨_, _⟩) _ <;> cbv) ?_
  rintro ⟨y4, c4⟩ hx4 hr
  (try dsimp only at hr); constructor; (try cbv)
  refine Z3 hr fun hr => ?_
  apply Hidden.out
  exact cl34131
 (try cbv)
 refine cal hr (by rintro (⟨_, _, _, _⟩) _ <;> cbv) ?_
 rintro ⟨y5, y6, c5, m1⟩ hx5 hr
 (try dsimp only at hr); constructor; (try cbv)
 refine Z2 hr ?_ ?_ <;> intro h1 hr
 ·(try cbv)
  apply Hidden.out
  exact cl73344
 (try cbv)
 refine Z3 hr fun hr => ?_
 refine cal hr (by rintro (⟨_, _, _, _, _, _⟩) _ <;> cbv) ?_
 rintro ⟨y7, y8, y9, c6, y10, y11⟩ hx6 hr
 (try dsimp only at hr); constructor; (try cbv)
 refine Z2 hr ?_ ?_ <;> intro h1 hr
 ·(try cbv)
  refine cald hr (by rintro (⟨_, _⟩) _ <;> cbv) ?_
  rintro ⟨y12, c7⟩ hx7 hr
  (try dsimp only at hr); constructor; (try cbv)
  apply Hidden.out
  exact cl73344
 (try cbv)
 apply Hidden.out
 exact cl73344
noncomputable def Zek : Nat → Option Con := look []
set_option maxHeartbeats 20000000 in
set_option maxRecDepth 100000 in
theorem Zxl (P : Program) (T : Tab P Zek) (hm : P.follows .mixedOrders = true) : FnVC P Zek Zj0 [.t 4] 16 Za5 := by
 intro cargs ccks ce hce hob C hk
 apply Hidden.out
 replace hce : Za6 cargs ccks = some ce := hce
 unfold Za6 at hce
 split at hce; rotate_left; cases hce
 obtain rfl := Option.some.inj hce
 rename_i x1 x2
 refine obh hob fun r hF => ?_
 clear hob hce
 simp only [List.length_cons, List.length_nil, Nat.zero_add, Nat.reduceAdd] at hk
 have hr : Z38 x1 x2 = some r := by rw [lock_eq] at hF; exact hF
 unfold Z38 at hr
 constructor
 (try cbv)
 refine Z2 hr ?_ ?_ <;> intro h1 hr
 ·(try cbv)
  refine Z5z hr fun hr => ?_
  refine Z2 hr ?_ ?_ <;> intro h1 hr
  ·(try cbv)
   apply Hidden.out
   exact clacd82
  (try cbv)
  apply Hidden.out
  exact clacd82
 (try cbv)
 apply Hidden.out
 exact clacd82
noncomputable def Zej : Nat → Option Con := look [(98, Za5), (97, Z6w)]
set_option maxHeartbeats 20000000 in
set_option maxRecDepth 100000 in
theorem Zxk (P : Program) (T : Tab P Zej) (hm : P.follows .mixedOrders = true) : FnVC P Zej Zio [.t 8] 18 Za3 := by
 intro cargs ccks ce hce hob C hk
 apply Hidden.out
 replace hce : Za4 cargs ccks = some ce := hce
 unfold Za4 at hce
 split at hce; rotate_left; cases hce
 obtain rfl := Option.some.inj hce
 rename_i x1 x2 x3 x4
 refine obh hob fun r hF => ?_
 clear hob hce
 simp only [List.length_cons, List.length_nil, Nat.zero_add, Nat.reduceAdd] at hk
 have hr : Z37 x1 x2 x3 x4 = some r := by rw [lock_eq] at hF; exact hF
 unfold Z37 at hr
 constructor
 (try cbv)
 refine cal hr (by rintro (_) _ <;> cbv) ?_
 rintro y1 hx1 hr
 (try dsimp only at hr); constructor; (try cbv)
 refine cal hr (by rintro (_) _ <;> cbv) ?_
 rintro y2 hx2 hr
 (try dsimp only at hr); constructor; (try cbv)
 apply Hidden.out
 exact clacd82
noncomputable def Zdt : Nat → Option Con := look [(82, Za3)]
set_option maxHeartbeats 20000000 in
set_option maxRecDepth 100000 in
theorem Zwu (P : Program) (T : Tab P Zdt) (hm : P.follows .mixedOrders = true) : FnVC P Zdt Zi3 [.c 4 3 true] 15 Z8q := by
 intro cargs ccks ce hce hob C hk
 apply Hidden.out
 replace hce : Z8r cargs ccks = some ce := hce
 unfold Z8r at hce
 split at hce; rotate_left; cases hce
 obtain rfl := Option.some.inj hce
 rename_i x1 x2 x3 x4
 refine obh hob fun r hF => ?_
 clear hob hce
 simp only [List.length_cons, List.length_nil, Nat.zero_add, Nat.reduceAdd] at hk
 have hr : Z1w x1 x2 x3 x4 = some r := by rw [lock_eq] at hF; exact hF
 unfold Z1w at hr
 constructor
 (try cbv)
 refine cal hr (by rintro (_) _ <;> cbv) ?_
 rintro y1 hx1 hr
 (try dsimp only at hr); constructor; (try cbv)
 apply Hidden.out
 exact clacd82
noncomputable def Zev : Nat → Option Con := look [(53, Z8q)]
set_option maxHeartbeats 20000000 in
set_option maxRecDepth 100000 in
theorem Zxw (P : Program) (T : Tab P Zev) (hm : P.follows .mixedOrders = true) : FnVC P Zev Zhn [] 27 Z72 := by
 intro cargs ccks ce hce hob C hk
 apply Hidden.out
 replace hce : Zap cargs ccks = some ce := hce
 unfold Zap at hce
 split at hce; rotate_left; cases hce; rename_i x1
 split at hce; rotate_left; cases hce
 split at hce; rotate_left; cases hce; rename_i s1 b1 x2 x3
 split at hce; rotate_left; cases hce; rename_i r1
 split at hce; rotate_left; cases hce; rename_i r2
 split at hce; rotate_left; cases hce; rename_i w1 n1
 split at hce; rotate_left; cases hce; rename_i x4 b2
 split at hce; rotate_left; cases hce; rename_i w2 r3
 split at hce; rotate_left; cases hce; rename_i l1
 split at hce; rotate_left; cases hce; rename_i l2
 split at hce
 ·cases hce
 obtain rfl := Option.some.inj hce
 rename_i _ htm
 simp only [Bool.and_eq_true] at htm
 obtain ⟨h1, h2⟩ := htm
 obtain rfl := Zb _ _ h1
 obtain rfl := Zb _ _ h2
 clear h1 h2
 refine obh hob fun r hF => ?_
 clear hob hce
 simp only [List.length_cons, List.length_nil, Nat.zero_add, Nat.reduceAdd] at hk
 have hr : Z28 x1 s1 b1 x2 x3 r1 r2 n1 x4 b2 r3 l1 l2 = some r := by rw [lock_eq] at hF; exact hF
 unfold Z28 at hr
 constructor
 (try cbv)
 refine LoopOK.iter T (drawOK T hm) hr (fun | (i1, r4) => ⟨mkFr [(1, (.v (.int .u64 x1))), (11, (.wsl 3)), (12, (.v (.int .i64 (lock ofN n1)))), (13, (.v (.int .i64 i1)))] 27 0, [(0, .blk 92 [(.str s1), (.v (.bool b1)), (.wsl 1), (.wsl 2), (.v (.int .i64 x2)), (.v (.int .u64 x3)), (.wsl 3), (.ptr 4 0)]), (1, .row (.row 83 (.st [.str, (.int .u64), (.int .u64), (.int .u64), (.int .i64), .bool]) r1)), (2, .row (.row 96 (.st [(.int .i64), (.int .i64), (.int .i64)]) r2)), (3, .prow 98 tm98 n1 8), (4, .blk 169 [(.wsl 6), (.v (.int .i64 x4)), (.v (.bool b2)), (.wsl 7)]), (6, .row (.ints 46 .u64 l1)), (7, .row (.ints 46 .u64 l2)), (8, .gho tm98 r4 none)], 9⟩) ?_ ?_
 ·exact cl1df3b
 clear hr
 intro x bb1 hr ht1
 obtain ⟨i1, r4⟩ := x
 as_aux_lemma =>
 constructor
 unfold Z5i at hr
 (try dsimp only at hr)
 (try cbv)
 refine Z2 hr ?_ ?_ <;> intro h1 hr
 ·(try cbv)
  refine Z3 hr fun hr => ?_
  refine cal hr (by rintro (_) _ <;> cbv) ?_
  rintro y4 hx4 hr
  (try dsimp only at hr); constructor; (try cbv)
  apply Hidden.out
  exact cl81169
 (try cbv)
 apply Hidden.out
 exact clb5cb2
noncomputable def Zeq : Nat → Option Con := look [(33, Z5o)]
set_option maxHeartbeats 20000000 in
set_option maxRecDepth 100000 in
theorem Zxr (P : Program) (T : Tab P Zeq) (hm : P.follows .mixedOrders = true) : FnVC P Zeq Zhh [.t 2] 26 Zah := by
 intro cargs ccks ce hce hob C hk
 apply Hidden.out
 replace hce : Zai cargs ccks = some ce := hce
 unfold Zai at hce
 split at hce; rotate_left; cases hce
 split at hce; rotate_left; cases hce
 split at hce; rotate_left; cases hce; rename_i s1 b1 x1 x2
 split at hce; rotate_left; cases hce; rename_i r1
 split at hce; rotate_left; cases hce; rename_i r2
 split at hce; rotate_left; cases hce; rename_i w1 n1
 split at hce; rotate_left; cases hce; rename_i x3 b2
 split at hce; rotate_left; cases hce; rename_i w2 r3
 split at hce; rotate_left; cases hce; rename_i l1
 split at hce; rotate_left; cases hce; rename_i l2
 split at hce
 ·cases hce
 obtain rfl := Option.some.inj hce
 rename_i _ htm
 simp only [Bool.and_eq_true] at htm
 obtain ⟨h1, h2⟩ := htm
 obtain rfl := Zb _ _ h1
 obtain rfl := Zb _ _ h2
 clear h1 h2
 refine obh hob fun r hF => ?_
 clear hob hce
 simp only [List.length_cons, List.length_nil, Nat.zero_add, Nat.reduceAdd] at hk
 have hr : Z3e s1 b1 x1 x2 r1 r2 n1 x3 b2 r3 l1 l2 = some r := by rw [lock_eq] at hF; exact hF
 unfold Z3e at hr
 constructor
 (try cbv)
 refine LoopOK.iter T (drawOK T hm) hr (fun | (i1, i2, r4) => ⟨mkFr [(3, (.v (.int .i64 i1))), (11, (.wsl 3)), (12, (.v (.int .i64 (lock ofN n1)))), (13, (.v (.int .i64 i2)))] 26 0, [(0, .blk 92 [(.str s1), (.v (.bool b1)), (.wsl 1), (.wsl 2), (.v (.int .i64 x1)), (.v (.int .u64 x2)), (.wsl 3), (.ptr 4 0)]), (1, .row (.row 83 (.st [.str, (.int .u64), (.int .u64), (.int .u64), (.int .i64), .bool]) r1)), (2, .row (.row 96 (.st [(.int .i64), (.int .i64), (.int .i64)]) r2)), (3, .prow 98 tm98 n1 8), (4, .blk 169 [(.wsl 6), (.v (.int .i64 x3)), (.v (.bool b2)), (.wsl 7)]), (6, .row (.ints 46 .u64 l1)), (7, .row (.ints 46 .u64 l2)), (8, .gho tm98 r4 none)], 9⟩) ?_ ?_
 ·exact cl63eab
 clear hr
 intro x bb1 hr ht1
 obtain ⟨i1, i2, r4⟩ := x
 as_aux_lemma =>
 constructor
 unfold Z5f at hr
 (try dsimp only at hr)
 (try cbv)
 refine Z2 hr ?_ ?_ <;> intro h1 hr
 ·(try cbv)
  refine Z3 hr fun hr => ?_
  refine cal hr (by rintro (_) _ <;> cbv) ?_
  rintro _ hx4 hr
  (try dsimp only at hr); constructor; (try cbv)
  apply Hidden.out
  exact cl34131
 (try cbv)
 apply Hidden.out
 exact cl1c5c3
noncomputable def Ze2 : Nat → Option Con := look []
set_option maxHeartbeats 20000000 in
set_option maxRecDepth 100000 in
theorem Zx3 (P : Program) (T : Tab P Ze2) (hm : P.follows .mixedOrders = true) : FnVC P Ze2 Zii [.c 2 3 true] 18 Z6r := by
 intro cargs ccks ce hce hob C hk
 apply Hidden.out
 replace hce : altC (Z99 cargs ccks) (altC (Z9a cargs ccks) (Z9b cargs ccks)) = some ce := hce
 replace hce := Zl hce
 rcases hce with hce | hce
 ·unfold Z99 at hce
  split at hce; rotate_left; cases hce
  obtain rfl := Option.some.inj hce
  rename_i x1 b1 l1
  refine obh hob fun r hF => ?_
  clear hob hce
  simp only [List.length_cons, List.length_nil, Nat.zero_add, Nat.reduceAdd] at hk
  have hr : Z21 x1 b1 l1 = some r := by rw [lock_eq] at hF; exact hF
  unfold Z21 at hr
  constructor
  (try cbv)
  refine Z3 hr fun hr => ?_
  apply Hidden.out
  exact clacd82
 replace hce := Zl hce
 rcases hce with hce | hce
 ·unfold Z9a at hce
  split at hce; rotate_left; cases hce
  obtain rfl := Option.some.inj hce
  rename_i x1 b1
  refine obh hob fun r hF => ?_
  clear hob hce
  simp only [List.length_cons, List.length_nil, Nat.zero_add, Nat.reduceAdd] at hk
  have hr : Z5b x1 b1 = some r := by rw [lock_eq] at hF; exact hF
  unfold Z5b at hr
  constructor
  (try cbv)
  refine Z3 hr fun hr => ?_
  apply Hidden.out
  exact clacd82
 unfold Z9b at hce
 split at hce; rotate_left; cases hce
 obtain rfl := Option.some.inj hce
 rename_i x1 b1 l1
 refine obh hob fun r hF => ?_
 clear hob hce
 simp only [List.length_cons, List.length_nil, Nat.zero_add, Nat.reduceAdd] at hk
 have hr : Z2y x1 b1 l1 = some r := by rw [lock_eq] at hF; exact hF
 unfold Z2y at hr
 constructor
 (try cbv)
 refine Z3 hr fun hr => ?_
 apply Hidden.out
 exact clacd82
noncomputable def Zdz : Nat → Option Con := look [(77, Z6r)]
set_option maxHeartbeats 20000000 in
set_option maxRecDepth 100000 in
theorem Zx0 (P : Program) (T : Tab P Zdz) (hm : P.follows .mixedOrders = true) : FnVC P Zdz Zhz [.c 2 3 true] 11 Z93 := by
 intro cargs ccks ce hce hob C hk
 apply Hidden.out
 replace hce : Z94 cargs ccks = some ce := hce
 unfold Z94 at hce
 split at hce; rotate_left; cases hce
 obtain rfl := Option.some.inj hce
 rename_i x1 b1 l1 l2
 refine obh hob fun r hF => ?_
 clear hob hce
 simp only [List.length_cons, List.length_nil, Nat.zero_add, Nat.reduceAdd] at hk
 have hr : Z2x x1 b1 l1 l2 = some r := by rw [lock_eq] at hF; exact hF
 unfold Z2x at hr
 constructor
 (try cbv)
 refine cal hr (by rintro (_) _ <;> cbv) ?_
 rintro m1 hx1 hr
 (try dsimp only at hr); constructor; (try cbv)
 apply Hidden.out
 exact clacd82
noncomputable def Ze5 : Nat → Option Con := look [(33, Z5o), (85, Z5p)]
set_option maxHeartbeats 20000000 in
set_option maxRecDepth 100000 in
theorem Zx6 (P : Program) (T : Tab P Ze5) (hm : P.follows .mixedOrders = true) : FnVC P Ze5 Zig [.t 2] 24 Z9g := by
 intro cargs ccks ce hce hob C hk
 apply Hidden.out
 replace hce : Z9h cargs ccks = some ce := hce
 unfold Z9h at hce
 split at hce; rotate_left; cases hce
 obtain rfl := Option.some.inj hce
 rename_i x1 x2 x3 r1
 refine obh hob fun r hF => ?_
 clear hob hce
 simp only [List.length_cons, List.length_nil, Nat.zero_add, Nat.reduceAdd] at hk
 have hr : Z30 x1 x2 x3 r1 = some r := by rw [lock_eq] at hF; exact hF
 unfold Z30 at hr
 constructor
 (try cbv)
 refine cal hr (by rintro (_) _ <;> cbv) ?_
 rintro _ hx1 hr
 (try dsimp only at hr); constructor; (try cbv)
 refine LoopOK.iter T (drawOK T hm) hr (fun | (i1, r2) => ⟨mkFr [(0, (.ptr 0 0)), (3, (.wsl 2)), (6, (.v (.int .i64 x3))), (7, (.v (.int .i64 i1)))] 24 0, [(0, .blk 144 [(.v (.int .i64 x1)), (.wsl 1), (.v (.int .i64 x2)), (.v (.int .i64 x3))]), (1, .row (.row 75 (.st [(.int .u64), (.int .i64), (.int .i64)]) r1)), (2, .row (.row 75 (.st [(.int .u64), (.int .i64), (.int .i64)]) r2))], 3⟩) ?_ ?_
 ·exact cl1df3b
 clear hr
 intro x bb1 hr ht1
 obtain ⟨i1, r2⟩ := x
 as_aux_lemma =>
 constructor
 unfold Z5c at hr
 (try dsimp only at hr)
 (try cbv)
 refine Z2 hr ?_ ?_ <;> intro h1 hr
 ·(try cbv)
  refine cald hr (by rintro (_) _ <;> cbv) ?_
  rintro y4 hx5 hr
  (try dsimp only at hr); constructor; (try cbv)
  refine Z3 hr fun hr => ?_
  refine Z3 hr fun hr => ?_
  apply Hidden.out
  exact cl81169
 (try cbv)
 apply Hidden.out
 exact clb5cb2
noncomputable def Zex : Nat → Option Con := look [(66, Z9g)]
set_option maxHeartbeats 20000000 in
set_option maxRecDepth 100000 in
theorem Zxy (P : Program) (T : Tab P Zex) (hm : P.follows .mixedOrders = true) : FnVC P Zex Zhv [.t 2] 25 Z74 := by
 intro cargs ccks ce hce hob C hk
 apply Hidden.out
 replace hce : Zat cargs ccks = some ce := hce
 unfold Zat at hce
 split at hce; rotate_left; cases hce
 split at hce; rotate_left; cases hce
 split at hce; rotate_left; cases hce; rename_i s1 b1 x1 x2
 split at hce; rotate_left; cases hce; rename_i r1
 split at hce; rotate_left; cases hce; rename_i r2
 split at hce; rotate_left; cases hce; rename_i w1 n1
 split at hce; rotate_left; cases hce; rename_i x3 b2
 split at hce; rotate_left; cases hce; rename_i w2 r3
 split at hce; rotate_left; cases hce; rename_i l1
 split at hce; rotate_left; cases hce; rename_i l2
 split at hce
 ·cases hce
 obtain rfl := Option.some.inj hce
 rename_i _ htm
 simp only [Bool.and_eq_true] at htm
 obtain ⟨h1, h2⟩ := htm
 obtain rfl := Zb _ _ h1
 obtain rfl := Zb _ _ h2
 clear h1 h2
 refine obh hob fun r hF => ?_
 clear hob hce
 simp only [List.length_cons, List.length_nil, Nat.zero_add, Nat.reduceAdd] at hk
 have hr : Z2b s1 b1 x1 x2 r1 r2 n1 x3 b2 r3 l1 l2 = some r := by rw [lock_eq] at hF; exact hF
 unfold Z2b at hr
 constructor
 (try cbv)
 refine LoopOK.iter T (drawOK T hm) hr (fun | (i1, r4, r5) => ⟨mkFr [(3, (.wsl 8)), (9, (.wsl 3)), (10, (.v (.int .i64 (lock ofN n1)))), (11, (.v (.int .i64 i1)))] 25 0, [(0, .blk 92 [(.str s1), (.v (.bool b1)), (.wsl 1), (.wsl 2), (.v (.int .i64 x1)), (.v (.int .u64 x2)), (.wsl 3), (.ptr 4 0)]), (1, .row (.row 83 (.st [.str, (.int .u64), (.int .u64), (.int .u64), (.int .i64), .bool]) r1)), (2, .row (.row 96 (.st [(.int .i64), (.int .i64), (.int .i64)]) r2)), (3, .prow 98 tm98 n1 9), (4, .blk 169 [(.wsl 6), (.v (.int .i64 x3)), (.v (.bool b2)), (.wsl 7)]), (6, .row (.ints 46 .u64 l1)), (7, .row (.ints 46 .u64 l2)), (8, .row (.row 72 (.row 75 (.st [(.int .u64), (.int .i64), (.int .i64)])) r4)), (9, .gho tm98 r5 none)], 10⟩) ?_ ?_
 ·exact cl63eab
 clear hr
 intro x bb1 hr ht1
 obtain ⟨i1, r4, r5⟩ := x
 as_aux_lemma =>
 constructor
 unfold Z5j at hr
 (try dsimp only at hr)
 (try cbv)
 refine Z2 hr ?_ ?_ <;> intro h1 hr
 ·(try cbv)
  refine Z3 hr fun hr => ?_
  refine cal hr (by rintro (_) _ <;> cbv) ?_
  rintro q4 hx4 hr
  (try dsimp only at hr); constructor; (try cbv)
  refine Z3 hr fun hr => ?_
  apply Hidden.out
  exact cl34131
 (try cbv)
 apply Hidden.out
 exact cl1c5c3
noncomputable def Zeu : Nat → Option Con := look [(48, Z93), (36, Z74)]
set_option maxHeartbeats 20000000 in
set_option maxRecDepth 100000 in
theorem Zxv (P : Program) (T : Tab P Zeu) (hm : P.follows .mixedOrders = true) : FnVC P Zeu Zhj [.c 2 6 true] 42 Z5r := by
 intro cargs ccks ce hce hob C hk
 apply Hidden.out
 replace hce : Zao cargs ccks = some ce := hce
 unfold Zao at hce
 split at hce; rotate_left; cases hce
 split at hce; rotate_left; cases hce
 split at hce; rotate_left; cases hce; rename_i s1 b1 x1 x2
 split at hce; rotate_left; cases hce; rename_i r1
 split at hce; rotate_left; cases hce; rename_i r2
 split at hce; rotate_left; cases hce; rename_i w1 n1
 split at hce; rotate_left; cases hce; rename_i x3 b2
 split at hce; rotate_left; cases hce; rename_i w2 r3
 split at hce; rotate_left; cases hce; rename_i l1
 split at hce; rotate_left; cases hce; rename_i l2
 split at hce
 ·cases hce
 obtain rfl := Option.some.inj hce
 rename_i _ htm
 simp only [Bool.and_eq_true] at htm
 obtain ⟨h1, h2⟩ := htm
 obtain rfl := Zb _ _ h1
 obtain rfl := Zb _ _ h2
 clear h1 h2
 refine obh hob fun r hF => ?_
 clear hob hce
 simp only [List.length_cons, List.length_nil, Nat.zero_add, Nat.reduceAdd] at hk
 have hr : Z10 s1 b1 x1 x2 r1 r2 n1 x3 b2 r3 l1 l2 = some r := by rw [lock_eq] at hF; exact hF
 unfold Z10 at hr
 constructor
 (try cbv)
 refine cald hr (by rintro (_) _ <;> cbv) ?_
 rintro m1 hx1 hr
 (try dsimp only at hr); constructor; (try cbv)
 refine cald hr (by rintro (⟨_, _⟩) _ <;> cbv) ?_
 rintro ⟨q1, q2⟩ hx2 hr
 (try dsimp only at hr); constructor; (try cbv)
 refine LoopOK.iter T (drawOK T hm) hr (fun | (i1, r4, l3) => ⟨mkFr [(2, (.ptr 8 0)), (3, (.ptr 9 0)), (24, (.wsl 3)), (25, (.v (.int .i64 (lock ofN n1)))), (26, (.v (.int .i64 i1)))] 42 0, [(0, .blk 92 [(.str s1), (.v (.bool b1)), (.wsl 1), (.wsl 2), (.v (.int .i64 x1)), (.v (.int .u64 x2)), (.wsl 3), (.ptr 4 0)]), (1, .row (.row 83 (.st [.str, (.int .u64), (.int .u64), (.int .u64), (.int .i64), .bool]) r1)), (2, .row (.row 96 (.st [(.int .i64), (.int .i64), (.int .i64)]) r2)), (3, .prow 98 tm98 n1 10), (4, .blk 169 [(.wsl 6), (.v (.int .i64 x3)), (.v (.bool b2)), (.wsl 7)]), (6, .row (.ints 46 .u64 l1)), (7, .row (.ints 46 .u64 l2)), (8, .blk 67 [(.v (.int .u64 (0 : Int))), .nsl, (.v (.int .i64 (0 : Int))), (.v (.bool false)), .nsl, .nsl]), (9, .blk 67 [(.v (.int .u64 x2)), (.wsl 11), (.v (.int .i64 x3)), (.v (.bool b2)), (.wsl 12), (.wsl 13)]), (10, .gho tm98 r4 none), (11, .row (.ints 46 .u64 l3)), (12, .row (.ints 46 .u64 m1)), (13, .row (.row 72 (.row 75 (.st [(.int .u64), (.int .i64), (.int .i64)])) q1))], 14⟩) ?_ ?_
 ·exact cl63eab
 clear hr
 intro x bb1 hr ht1
 obtain ⟨i1, r4, l3⟩ := x
 as_aux_lemma =>
 constructor
 unfold Z5h at hr
 (try dsimp only at hr)
 (try cbv)
 refine Z2 hr ?_ ?_ <;> intro h1 hr
 ·(try cbv)
  refine Z3 hr fun hr => ?_
  refine Z3 hr fun hr => ?_
  apply Hidden.out
  exact cl34131
 (try cbv)
 apply Hidden.out
 exact clfb273
noncomputable def Zf5 : Nat → Option Con := look []
set_option maxHeartbeats 20000000 in
set_option maxRecDepth 100000 in
theorem Zy6 (P : Program) (T : Tab P Zf5) (hm : P.follows .mixedOrders = true) : FnVC P Zf5 Zid [.t 4] 26 Zba := by
 intro cargs ccks ce hce hob C hk
 apply Hidden.out
 replace hce : Zbb cargs ccks = some ce := hce
 unfold Zbb at hce
 split at hce; rotate_left; cases hce
 obtain rfl := Option.some.inj hce
 rename_i r1 r2
 refine obh hob fun r hF => ?_
 clear hob hce
 simp only [List.length_cons, List.length_nil, Nat.zero_add, Nat.reduceAdd] at hk
 have hr : Z1g r1 r2 = some r := by rw [lock_eq] at hF; exact hF
 unfold Z1g at hr
 constructor
 (try cbv)
 refine Zd hr ?_ ?_ <;> intro h1 hr
 ·(try cbv)
  apply Hidden.out
  exact clacd82
 (try cbv)
 refine LoopOK.iter T (drawOK T hm) hr (fun | i1 => ⟨mkFr [(0, (.rsl (.row 83 (.st [.str, (.int .u64), (.int .u64), (.int .u64), (.int .i64), .bool]) r1))), (1, (.rsl (.row 83 (.st [.str, (.int .u64), (.int .u64), (.int .u64), (.int .i64), .bool]) r2))), (12, (.v (.int .i64 (lock ofN (lock (@xlen D) r1))))), (13, (.v (.int .i64 i1)))] 26 0, [], 0⟩) ?_ ?_
 ·exact cl2ec4c
 clear hr
 intro x bb1 hr ht1
 obtain ⟨i1, hz⟩ : ∃ z, z = x := ⟨x, rfl⟩
 subst hz
 as_aux_lemma =>
 constructor
 unfold Z3j at hr
 (try dsimp only at hr)
 (try cbv)
 refine Z2 hr ?_ ?_ <;> intro h1 hr
 ·(try cbv)
  refine Z3 hr fun hr => ?_
  refine Z3 hr fun hr => ?_
  refine Zd hr ?_ ?_ <;> intro h1 hr
  ·(try cbv)
   apply Hidden.out
   exact clb5cb2
  (try cbv)
  apply Hidden.out
  exact clba30f
 (try cbv)
 apply Hidden.out
 exact clb5cb2
noncomputable def Zf6 : Nat → Option Con := look []
set_option maxHeartbeats 20000000 in
set_option maxRecDepth 100000 in
theorem Zy7 (P : Program) (T : Tab P Zf6) (hm : P.follows .mixedOrders = true) : FnVC P Zf6 Zie [.t 4] 26 Zbc := by
 intro cargs ccks ce hce hob C hk
 apply Hidden.out
 replace hce : Zbd cargs ccks = some ce := hce
 unfold Zbd at hce
 split at hce; rotate_left; cases hce
 obtain rfl := Option.some.inj hce
 rename_i r1 r2
 refine obh hob fun r hF => ?_
 clear hob hce
 simp only [List.length_cons, List.length_nil, Nat.zero_add, Nat.reduceAdd] at hk
 have hr : Z1h r1 r2 = some r := by rw [lock_eq] at hF; exact hF
 unfold Z1h at hr
 constructor
 (try cbv)
 refine Zd hr ?_ ?_ <;> intro h1 hr
 ·(try cbv)
  apply Hidden.out
  exact clacd82
 (try cbv)
 refine LoopOK.iter T (drawOK T hm) hr (fun | i1 => ⟨mkFr [(0, (.rsl (.row 96 (.st [(.int .i64), (.int .i64), (.int .i64)]) r1))), (1, (.rsl (.row 96 (.st [(.int .i64), (.int .i64), (.int .i64)]) r2))), (12, (.v (.int .i64 (lock ofN (lock (@xlen D) r1))))), (13, (.v (.int .i64 i1)))] 26 0, [], 0⟩) ?_ ?_
 ·exact cl2ec4c
 clear hr
 intro x bb1 hr ht1
 obtain ⟨i1, hz⟩ : ∃ z, z = x := ⟨x, rfl⟩
 subst hz
 as_aux_lemma =>
 constructor
 unfold Z4j at hr
 (try dsimp only at hr)
 (try cbv)
 refine Z2 hr ?_ ?_ <;> intro h1 hr
 ·(try cbv)
  refine Z3 hr fun hr => ?_
  refine Z3 hr fun hr => ?_
  refine Zd hr ?_ ?_ <;> intro h1 hr
  ·(try cbv)
   apply Hidden.out
   exact clb5cb2
  (try cbv)
  apply Hidden.out
  exact clba30f
 (try cbv)
 apply Hidden.out
 exact clb5cb2
noncomputable def Zeh : Nat → Option Con := look [(63, Zba), (64, Zbc)]
set_option maxHeartbeats 20000000 in
set_option maxRecDepth 100000 in
theorem Zxi (P : Program) (T : Tab P Zeh) (hm : P.follows .mixedOrders = true) : FnVC P Zeh Zht [.t 4] 42 Z9z := by
 intro cargs ccks ce hce hob C hk
 apply Hidden.out
 replace hce : altC (Za0 cargs ccks) (Za1 cargs ccks) = some ce := hce
 replace hce := Zl hce
 rcases hce with hce | hce
 ·unfold Za0 at hce
  split at hce; rotate_left; cases hce
  obtain rfl := Option.some.inj hce
  rename_i s1 b1 x1 s2 b2 x2 r1 r2 r3
  refine obh hob fun r hF => ?_
  clear hob hce
  simp only [List.length_cons, List.length_nil, Nat.zero_add, Nat.reduceAdd] at hk
  have hr : Z35 s1 b1 x1 s2 b2 x2 r1 r2 r3 = some r := by rw [lock_eq] at hF; exact hF
  unfold Z35 at hr
  constructor
  (try cbv)
  refine Z2 hr ?_ ?_ <;> intro h1 hr
  ·(try cbv)
   refine Z2 hr ?_ ?_ <;> intro h1 hr
   ·(try cbv)
    refine cal hr (by rintro (_) _ <;> cbv) ?_
    rintro c1 hx1 hr
    (try dsimp only at hr); constructor; (try cbv)
    refine Z2 hr ?_ ?_ <;> intro h1 hr
    ·(try cbv)
     refine cal hr (by rintro (_) _ <;> cbv) ?_
     rintro c2 hx2 hr
     (try dsimp only at hr); constructor; (try cbv)
     refine Z2 hr ?_ ?_ <;> intro h1 hr
     ·(try cbv)
      apply Hidden.out
      exact clacd82
     (try cbv)
     apply Hidden.out
     exact clacd82
    (try cbv)
    apply Hidden.out
    exact clacd82
   (try cbv)
   apply Hidden.out
   exact clacd82
  (try cbv)
  apply Hidden.out
  exact clacd82
 unfold Za1 at hce
 split at hce; rotate_left; cases hce
 obtain rfl := Option.some.inj hce
 rename_i s1 b1 r1 r2 x1 s2 b2 x2 r3 r4
 refine obh hob fun r hF => ?_
 clear hob hce
 simp only [List.length_cons, List.length_nil, Nat.zero_add, Nat.reduceAdd] at hk
 have hr : Z36 s1 b1 r1 r2 x1 s2 b2 x2 r3 r4 = some r := by rw [lock_eq] at hF; exact hF
 unfold Z36 at hr
 constructor
 (try cbv)
 refine Z2 hr ?_ ?_ <;> intro h1 hr
 ·(try cbv)
  refine Z2 hr ?_ ?_ <;> intro h1 hr
  ·(try cbv)
   refine cal hr (by rintro (_) _ <;> cbv) ?_
   rintro c1 hx1 hr
   (try dsimp only at hr); constructor; (try cbv)
   refine Z2 hr ?_ ?_ <;> intro h1 hr
   ·(try cbv)
    refine cal hr (by rintro (_) _ <;> cbv) ?_
    rintro c2 hx2 hr
    (try dsimp only at hr); constructor; (try cbv)
    refine Z2 hr ?_ ?_ <;> intro h1 hr
    ·(try cbv)
     apply Hidden.out
     exact clacd82
    (try cbv)
    apply Hidden.out
    exact clacd82
   (try cbv)
   apply Hidden.out
   exact clacd82
  (try cbv)
  apply Hidden.out
  exact clacd82
 (try cbv)
 apply Hidden.out
 exact clacd82
theorem Zrw {P : Program} {f : FuncId} {con : Con} (h : FnOK P f con) {cargs : List SV} {obs : List Prop} {X : Type} {Pr : X → Prop} {v : X → SV} {post : X → List PostC} {sm : List Bool} (hc : con.f cargs [] = some ⟨obs, .many X Pr v post, sm⟩) (hob : ∀ p ∈ obs, p) (hv : ∀ x, Pr x → v x = .v (.bool true) ∧ post x = []) {W : World} {args : List Value} (hd : DensA (fun _ => none) W (fun _ => False) cargs args) (hG : ∀ g r, (g, r) ∈ globs → Den (fun _ => none) W (fun _ => False) (.rsl r) (.slice (some ⟨g, 0, none⟩) (rlen r) (rlen r)) := by intro g r h; simp [globs] at h) :
  Calls P f args.toArray W fun e W' => e = .returned (.bool true) ∧ Below W.heap.size W W' := by
 have hO : ∀ b, ¬ Own (fun _ => none) (canon 0 ([] : List Ck)) b := by
  rintro b ⟨id, c, p, h1, h2, h3⟩
  cases h2
 have hS : HSat (ctxOf W (fun _ => False) (fun _ => none) []) (fun _ => none) (canon 0 []) (fun i => ([] : List Ck).length ≤ i) W := by
  refine ⟨fun id c hc => by simp [canon, hget] at hc, fun i j c d p q b h1 => by simp [canon, hget] at h1, fun b hb => absurd hb (hO b), rfl, rfl, rfl, Nat.le_refl _, fun _ _ _ => rfl, ⟨fun b hb => hb.elim, fun g r hg => (hG g r hg).mono (fun _ _ h => h) (Nat.le_refl _) (fun _ _ _ => rfl) (fun b _ hb => by rcases hb with hz | ho; exact hz; exact hO b ho)⟩, fun _ _ => rfl, fun id hid => rfl⟩
 have hA : Avo (ctxOf W (fun _ => False) (fun _ => none) []) (fun _ => none) (canon 0 []) = fun _ => False := by
  funext b
  simp only [Avo, ctxOf, false_or, eq_iff_iff, iff_false]
  exact hO b
 have key := h cargs [] _ hc hob (fun _ => False) (fun _ => none) W args hS (by rw [hA]; exact hd)
 refine key.mono ?_
 rintro e W' ⟨u, PL', rfl, x, hx, H, D⟩
 obtain ⟨e1, e2⟩ := hv x hx
 rw [e1] at D
 cases D
 refine ⟨rfl, ?_⟩
 exact ⟨H.os, H.tape, H.output, H.size, fun k hk => H.old k hk (hO k)⟩
theorem Zr4 {PL : Nat → Option Pl} {w : World} {Av : Nat → Prop} : DensA PL w Av [] [] := ⟨rfl, fun j h1 _ => absurd h1 (by simp)⟩
theorem Zgp {PL : Nat → Option Pl} {w : World} {Av : Nat → Prop} {x : SV} {l : List SV} {c : Value} {cs : List Value} (h : Den PL w Av x c) (k : DensA PL w Av l cs) : DensA PL w Av (x :: l) (c :: cs) :=
 ⟨by simp [k.1], fun j h1 h2 => by
  cases j with
  | zero => exact h
  | succ j => exact k.2 j (by simpa using h1) (by simpa using h2)⟩
theorem Zpb (w : World) (o : Obj) : (w.alloc o).heap[w.heap.size]? = some o := by
 show (w.heap.push o)[w.heap.size]? = some o
 simp
section
variable {P : Program} {w w' : World} {Z : Nat → Prop} {PL : Nat → Option Pl}
theorem Zrr : hupd (pcan 0 []) (canon 0 ([] : List Ck)) = [] := rfl
theorem Zrs (r : R) : hupd (pcan 0 [.to (.row r)]) (canon 0 ([] : List Ck)) = [(0, .row r)] := rfl
theorem Zrp (HS : HSat (ctxOf w Z PL []) PL (canon 0 []) (fun i => ([] : List Ck).length ≤ i) w) (hB : Below w.heap.size w w') : HSat (ctxOf w Z PL []) PL (hupd (pcan 0 []) (canon 0 [])) (fun _ => False) w' := by
 rw [Zrr]
 have hO : ∀ b, ¬ Own PL ([] : List (Nat × Ck)) b := by rintro b ⟨id, c, p, h1, _⟩; simp [hget] at h1
 refine ⟨fun id c hc => by simp [hget] at hc, fun i j c d p q b h1 => by simp [hget] at h1, fun b hb => absurd hb (hO b), hB.os, hB.tape, hB.output, hB.size, fun b hb _ => hB.block b hb, HS.zlt, fun _ h => h.elim, fun id hid => absurd hid (Nat.not_lt_zero _)⟩
theorem Zrq (HS : HSat (ctxOf w Z PL []) PL (canon 0 []) (fun i => ([] : List Ck).length ≤ i) w) (hB : Below w.heap.size w w') (r : R) (b cap : Nat) (cs : Array Value) (hb : w.heap.size ≤ b)
  (hh : w'.heap[b]? = some (.cells cs r.T (0, 0))) (h0 : 0 < r.sz) (hc : rlen r ≤ cap) (hm : cap ≤ maxLen) (hs : cs.size = cap * r.sz) (hr : ∀ PL' Av', RP PL' w' Av' r cs.toList) :
  ∃ PL', HSat (ctxOf w Z PL []) PL' (hupd (pcan 0 [.to (.row r)]) (canon 0 [])) (fun _ => False) w' ∧ Den PL' w' (Avo (ctxOf w Z PL []) PL' (hupd (pcan 0 [.to (.row r)]) (canon 0 []))) (.wsl 0) (.slice (some ⟨b, 0, none⟩) (rlen r) cap) := by
 rw [Zrs]
 have hP : padd PL 0 ⟨some ⟨b, 0, none⟩, rlen r, cap, r.sz, []⟩ 0 = some ⟨some ⟨b, 0, none⟩, rlen r, cap, r.sz, []⟩ := Zg _ _ _
 have one : ∀ id c, hget [(0, Ck.row r)] id = some c → id = 0 ∧ c = .row r := by
  intro id c h
  simp only [hget] at h
  cases hi : Nat.beq id 0 with
  | true => rw [hi] at h; injection h with h; exact ⟨(nbeq _ _).1 hi, h.symm⟩
  | false => rw [hi] at h; cases h
 refine ⟨padd PL 0 ⟨some ⟨b, 0, none⟩, rlen r, cap, r.sz, []⟩, ⟨?_, ?_, ?_, hB.os, hB.tape, hB.output, hB.size, fun b hb _ => hB.block b hb, HS.zlt, fun _ h => h.elim, fun id hid => absurd hid (Nat.not_lt_zero _)⟩, ?_⟩
 ·intro id c hg
  obtain ⟨rfl, rfl⟩ := one id c hg
  exact Z15 hP rfl rfl h0 rfl hh hc hm hs (hr _ _)
 ·intro i j c d p q b' h1 h2 _ _ _ _
  rw [(one i c h1).1, (one j d h2).1]
 ·rintro b' ⟨id, c, p, h1, h2, h3⟩
  obtain ⟨rfl, rfl⟩ := one id c h1
  rw [hP] at h2
  injection h2 with h2
  subst h2
  injection h3 with h3
  injection h3 with h3
  subst h3
  exact ⟨fun hz => by have : b < w.heap.size := HS.zlt.1 b hz; omega, .inr hb⟩
 exact .wsl 0 _ hP
theorem densA2 {Av : Nat → Prop} {x y : SV} {args : List Value} (h : DensA PL w Av [x, y] args) : ∃ v u, args = [v, u] ∧ Den PL w Av x v ∧ Den PL w Av y u := by
 obtain ⟨h1, h2⟩ := h
 match args, h1 with
 | [v, u], _ => exact ⟨v, u, rfl, h2 0 (by simp) (by simp), h2 1 (by simp) (by simp)⟩
end
theorem Zrn (n : Int) (h0 : 0 < n) (hb : n * 24 ≤ 140737488355328) (w : World) :
  Calls Try.prog 101 #[.slice none 0 0, .int .i64 n] w fun e w' => ∃ (cap : Nat) (cs : Array Value), e = .returned (.slice (some ⟨w.heap.size, 0, none⟩) 0 cap) ∧ w' = w.drew.alloc (.cells cs 75 (0, 0)) ∧ cs.size = cap * 3 ∧ cap ≤ maxLen := by
 obtain ⟨m, rfl⟩ := Int.eq_ofNat_of_zero_le (Int.le_of_lt h0)
 go_enter Try.func101, Try.ntmps101
 have hA : ¬ (281474976710656 < (m : Int) * (Try.t28.bytes : Int)) := by show ¬ (281474976710656 < (m : Int) * 24); omega
 have hm : 0 < m := by omega
 have hB : ¬ (281474976710656 < Builtin.nextslicecap m 0 * Try.t28.bytes) := by rw [nextslicecap_zero hm]; show ¬ (281474976710656 < m * 24); omega
 have hw : IntKind.i64.wrap (m : Int) = (m : Int) := by simp only [IntKind.wrap, IntKind.signed, IntKind.bits]; simp; omega
 have h63 : ¬ (9223372036854775807 < (m : Int)) := by omega
 go_wp2
 go_ret
 have hge := grownCap_ge w m 0 75
 refine ⟨_, rfl, _, rfl, ?_, grownCap_le_maxLen w m 0 75 (by unfold maxLen; omega)⟩
 rw [Array.size_append, size_zeroCells, size_zeroCells]
 show m * 3 + (grownCap w m 0 75 - m) * 3 = grownCap w m 0 75 * 3
 rw [← Nat.add_mul]
 congr 1
 omega
theorem Zrm (w : World) : Calls Try.prog 101 #[.slice none 0 0, .int .i64 0] w fun e w' => e = .returned (.slice none 0 0) ∧ w' = w := by
 go_enter Try.func101, Try.ntmps101
 go_wp2
 go_ret
 exact ⟨rfl, rfl⟩
theorem Zt6 : FnOK Try.prog 101 Zgn := by
 intro cargs ccks ce hce hob Z PL w args HS HD
 replace hce : Zbe cargs ccks = some ce := hce
 unfold Zbe at hce
 split at hce
 ·rename_i x1
  obtain rfl := Option.some.inj hce
  obtain ⟨r, hr⟩ := obl.1 (hob _ (List.mem_singleton.2 rfl))
  rw [lock_eq] at hr
  have hg := hr
  unfold growP at hr
  split at hr
  ·cases hr
  rename_i h0
  obtain ⟨v, u, rfl, d1, d2⟩ := densA2 HD
  cases d1
  cases d2
  split at hr
  ·rename_i h1
   subst h1
   refine (Zrm w).mono ?_
   rintro e w' ⟨rfl, rfl⟩
   refine ⟨_, PL, rfl, r, by rw [lock_eq]; exact hg, ?_⟩
   obtain rfl := Option.some.inj hr
   exact ⟨Zrp HS (Below.refl _ _), .nsl⟩
  split at hr
  ·rename_i h1 h2
   refine (Zrn x1 (by omega) (by omega) w).mono ?_
   rintro e w' ⟨cap, cs, rfl, rfl, hs, hm⟩
   obtain ⟨PL', H, D⟩ := Zrq (w' := w.drew.alloc (.cells cs 75 (0, 0))) HS (((Below.refl _ w).drew).alloc (Nat.le_refl _) _) (.row 75 (.st [(.int .u64), (.int .i64), (.int .i64)]) []) w.heap.size cap cs (Nat.le_refl _)
    (Zpb w.drew _) (by decide) (Nat.zero_le _) hm hs (fun _ _ => RP.nil rfl)
   refine ⟨_, PL', rfl, r, by rw [lock_eq]; exact hg, ?_⟩
   obtain rfl := Option.some.inj hr
   exact ⟨H, D⟩
  cases hr
 cases hce
noncomputable def Zf3 : Nat → Option Con := look [(101, Zgn)]
set_option maxHeartbeats 20000000 in
set_option maxRecDepth 100000 in
theorem Zy4 (P : Program) (T : Tab P Zf3) (hm : P.follows .mixedOrders = true) : FnVC P Zf3 Zix [.t 2] 36 Zb5 := by
 intro cargs ccks ce hce hob C hk
 apply Hidden.out
 replace hce : Zb6 cargs ccks = some ce := hce
 unfold Zb6 at hce
 split at hce; rotate_left; cases hce
 obtain rfl := Option.some.inj hce
 rename_i r1
 refine obh hob fun r hF => ?_
 clear hob hce
 simp only [List.length_cons, List.length_nil, Nat.zero_add, Nat.reduceAdd] at hk
 have hr : Z2d r1 = some r := by rw [lock_eq] at hF; exact hF
 unfold Z2d at hr
 constructor
 (try cbv)
 refine LoopOK.iter T (drawOK T hm) hr (fun | (i1, i2) => ⟨mkFr [(0, (.rsl (.row 72 (.row 75 (.st [(.int .u64), (.int .i64), (.int .i64)])) r1))), (3, (.v (.int .i64 i1))), (9, (.rsl (.row 72 (.row 75 (.st [(.int .u64), (.int .i64), (.int .i64)])) r1))), (10, (.v (.int .i64 (lock ofN (lock (@xlen D) r1))))), (11, (.v (.int .i64 i2)))] 36 0, [], 0⟩) ?_ ?_
 ·exact cl1df3b
 clear hr
 intro x bb1 hr ht1
 obtain ⟨i1, i2⟩ := x
 as_aux_lemma =>
 constructor
 unfold Z4h at hr
 (try dsimp only at hr)
 (try cbv)
 refine Z2 hr ?_ ?_ <;> intro h1 hr
 ·(try cbv)
  refine Z3 hr fun hr => ?_
  refine Z2 hr ?_ ?_ <;> intro h1 hr
  ·(try cbv)
   cases hr
  (try cbv)
  apply Hidden.out
  exact cl81169
 as_aux_lemma =>
 (try cbv)
 refine cal hr (by rintro (_ | _) _ <;> cbv) ?_
 rintro (_ | _) hx1 hr
 all_goals ((try dsimp only at hr); constructor; (try cbv))
 ·apply Hidden.out
  obtain ⟨t, hr2, hw⟩ := Zr hr
  clear hr
  subst hw
  have e := (ht1 _ rfl).symm
  subst e
  have hr := hr2
  clear hr2
  constructor
  refine LoopOK.iter T (drawOK T hm) hr (fun | (i3, r2) => ⟨mkFr [(6, (.wsl 0)), (25, (.rsl (.row 72 (.row 75 (.st [(.int .u64), (.int .i64), (.int .i64)])) r1))), (26, (.v (.int .i64 (lock ofN (lock (@xlen D) r1))))), (27, (.v (.int .i64 i3)))] 36 0, [(0, .row (.row 75 (.st [(.int .u64), (.int .i64), (.int .i64)]) r2))], 1⟩) ?_ ?_
  ·exact cl1df3b
  clear hr
  intro x bb1 hr ht1
  obtain ⟨i3, r2⟩ := x
  as_aux_lemma =>
  constructor
  unfold Z2e at hr
  (try dsimp only at hr)
  (try cbv)
  refine Z2 hr ?_ ?_ <;> intro h1 hr
  ·(try cbv)
   refine Z3 hr fun hr => ?_
   refine Z3 hr fun hr => ?_
   apply Hidden.out
   exact cl81169
  (try cbv)
  apply Hidden.out
  exact clb5cb2
 apply Hidden.out
 obtain ⟨t, hr2, hw⟩ := Zr hr
 clear hr
 subst hw
 have e := (ht1 _ rfl).symm
 subst e
 have hr := hr2
 clear hr2
 constructor
 refine LoopOK.iter T (drawOK T hm) hr (fun | (i4, r3) => ⟨mkFr [(6, (.wsl 0)), (25, (.rsl (.row 72 (.row 75 (.st [(.int .u64), (.int .i64), (.int .i64)])) r1))), (26, (.v (.int .i64 (lock ofN (lock (@xlen D) r1))))), (27, (.v (.int .i64 i4)))] 36 0, [(0, .row (.row 75 (.st [(.int .u64), (.int .i64), (.int .i64)]) r3))], 1⟩) ?_ ?_
 ·exact cl1df3b
 clear hr
 intro x bb1 hr ht1
 obtain ⟨i4, r3⟩ := x
 as_aux_lemma =>
 constructor
 unfold Z88 at hr
 (try dsimp only at hr)
 (try cbv)
 refine Z2 hr ?_ ?_ <;> intro h1 hr
 ·(try cbv)
  refine Z3 hr fun hr => ?_
  refine Z3 hr fun hr => ?_
  apply Hidden.out
  exact cl81169
 (try cbv)
 apply Hidden.out
 exact clb5cb2
noncomputable def Ze3 : Nat → Option Con := look [(90, Zb5)]
set_option maxHeartbeats 20000000 in
set_option maxRecDepth 100000 in
theorem Zx4 (P : Program) (T : Tab P Ze3) (hm : P.follows .mixedOrders = true) : FnVC P Ze3 Zif [.t 4] 44 Z9c := by
 intro cargs ccks ce hce hob C hk
 apply Hidden.out
 replace hce : Z9d cargs ccks = some ce := hce
 unfold Z9d at hce
 split at hce; rotate_left; cases hce
 obtain rfl := Option.some.inj hce
 rename_i r1 r2
 refine obh hob fun r hF => ?_
 clear hob hce
 simp only [List.length_cons, List.length_nil, Nat.zero_add, Nat.reduceAdd] at hk
 have hr : Z49 r1 r2 = some r := by rw [lock_eq] at hF; exact hF
 unfold Z49 at hr
 constructor
 (try cbv)
 refine LoopOK.iter T (drawOK T hm) hr (fun | (r5, r3, r4) => ⟨mkFr [(0, (.rsl (.row 75 (.st [(.int .u64), (.int .i64), (.int .i64)]) r5))), (1, (.rsl (.row 75 (.st [(.int .u64), (.int .i64), (.int .i64)]) r3))), (5, (.wsl 0))] 44 0, [(0, .row (.row 75 (.st [(.int .u64), (.int .i64), (.int .i64)]) r4))], 1⟩) ?_ ?_
 ·exact cl63eab
 clear hr
 intro x bb1 hr ht1
 obtain ⟨r5, r3, r4⟩ := x
 as_aux_lemma =>
 constructor
 unfold Z2z at hr
 (try dsimp only at hr)
 (try cbv)
 refine Z2 hr ?_ ?_ <;> intro h1 hr
 ·(try cbv)
  refine Z2 hr ?_ ?_ <;> intro h1 hr
  ·(try cbv)
   refine Z3 hr fun hr => ?_
   refine Z3 hr fun hr => ?_
   refine Z2 hr ?_ ?_ <;> intro h1 hr
   ·(try cbv)
    refine Z3 hr fun hr => ?_
    refine Z3 hr fun hr => ?_
    refine Z3 hr fun hr => ?_
    apply Hidden.out
    exact cl34131
   (try cbv)
   refine Z3 hr fun hr => ?_
   refine Z3 hr fun hr => ?_
   refine Z3 hr fun hr => ?_
   apply Hidden.out
   exact cl34131
  (try cbv)
  refine cal hr (by rintro (_) _ <;> cbv) ?_
  rintro q1 hx1 hr
  (try dsimp only at hr); constructor; (try cbv)
  apply Hidden.out
  exact clb5cb2
 (try cbv)
 refine cal hr (by rintro (_) _ <;> cbv) ?_
 rintro q2 hx2 hr
 (try dsimp only at hr); constructor; (try cbv)
 apply Hidden.out
 exact clb5cb2
noncomputable def Zeg : Nat → Option Con := look [(51, Z6v), (65, Z9c)]
set_option maxHeartbeats 20000000 in
set_option maxRecDepth 100000 in
theorem Zxh (P : Program) (T : Tab P Zeg) (hm : P.follows .mixedOrders = true) : FnVC P Zeg Zhu [.t 6, .t 7] 145 Z9x := by
 intro cargs ccks ce hce hob C hk
 apply Hidden.out
 replace hce : Z9y cargs ccks = some ce := hce
 unfold Z9y at hce
 split at hce; rotate_left; cases hce
 obtain rfl := Option.some.inj hce
 rename_i s1 b1 x1 s2 b2 r1 r2 x2 r3 r4 r5
 refine obh hob fun r hF => ?_
 clear hob hce
 simp only [List.length_cons, List.length_nil, Nat.zero_add, Nat.reduceAdd] at hk
 have hr : Z33 s1 b1 x1 s2 b2 r1 r2 x2 r3 r4 r5 = some r := by rw [lock_eq] at hF; exact hF
 unfold Z33 at hr
 constructor
 (try cbv)
 refine Zd hr ?_ ?_ <;> intro h1 hr
 ·(try cbv)
  apply Hidden.out
  exact clf1d56
 as_aux_lemma =>
 (try cbv)
 refine Z3 hr fun hr => ?_
 refine Z3 hr fun hr => ?_
 refine LoopOK.iter T (drawOK T hm) hr (fun | (i3, r10, r11) => ⟨mkFr [(3, (.ptr 3 0)), (4, (.ptr 4 0)), (8, (.wsl 5)), (9, (.wsl 6)), (34, (.wsl 2)), (35, (.v (.int .i64 (lock ofN (lock (@xlen D) r5))))), (36, (.v (.int .i64 i3)))] 145 0, [(0, .row (.row 83 (.st [.str, (.int .u64), (.int .u64), (.int .u64), (.int .i64), .bool]) r3)), (1, .row (.row 96 (.st [(.int .i64), (.int .i64), (.int .i64)]) r4)), (2, .row (.row 72 (.row 75 (.st [(.int .u64), (.int .i64), (.int .i64)])) r5)), (3, .blk 33 [(.str s1), (.v (.bool b1)), (.wsl 0), (.wsl 1), (.v (.int .i64 x1))]), (4, .blk 33 [(.str s2), (.v (.bool b2)), (.rsl (.row 83 (.st [.str, (.int .u64), (.int .u64), (.int .u64), (.int .i64), .bool]) r1)), (.rsl (.row 96 (.st [(.int .i64), (.int .i64), (.int .i64)]) r2)), (.v (.int .i64 x2))]), (5, .row (.row 72 (.row 75 (.st [(.int .u64), (.int .i64), (.int .i64)])) r10)), (6, .row (.row 4 .bool r11))], 7⟩) ?_ ?_
 ·exact cl63eab
 clear hr
 intro x bb1 hr ht1
 obtain ⟨i3, r10, r11⟩ := x
 as_aux_lemma =>
 constructor
 unfold Z5e at hr
 (try dsimp only at hr)
 (try cbv)
 refine Z2 hr ?_ ?_ <;> intro h1 hr
 ·as_aux_lemma =>
  (try cbv)
  refine Z3 hr fun hr => ?_
  refine Z3 hr fun hr => ?_
  refine LoopOK.iter T (drawOK T hm) hr (fun | (i6, r16) => ⟨mkFr [(3, (.ptr 3 0)), (4, (.ptr 4 0)), (8, (.wsl 5)), (9, (.wsl 6)), (10, (.v (.int .i64 i3))), (12, (.wsl 7)), (34, (.wsl 2)), (35, (.v (.int .i64 (lock ofN (lock (@xlen D) r5))))), (36, (.v (.int .i64 i3))), (45, (.rsl (.row 75 (.st [(.int .u64), (.int .i64), (.int .i64)]) (lock D.toL (lock getD r5 (lock toN i3)))))), (46, (.v (.int .i64 (lock ofN (lock (@xlen D) (lock D.toL (lock getD r5 (lock toN i3)))))))), (47, (.v (.int .i64 i6)))] 145 0, [(0, .row (.row 83 (.st [.str, (.int .u64), (.int .u64), (.int .u64), (.int .i64), .bool]) r3)), (1, .row (.row 96 (.st [(.int .i64), (.int .i64), (.int .i64)]) r4)), (2, .row (.row 72 (.row 75 (.st [(.int .u64), (.int .i64), (.int .i64)])) r5)), (3, .blk 33 [(.str s1), (.v (.bool b1)), (.wsl 0), (.wsl 1), (.v (.int .i64 x1))]), (4, .blk 33 [(.str s2), (.v (.bool b2)), (.rsl (.row 83 (.st [.str, (.int .u64), (.int .u64), (.int .u64), (.int .i64), .bool]) r1)), (.rsl (.row 96 (.st [(.int .i64), (.int .i64), (.int .i64)]) r2)), (.v (.int .i64 x2))]), (5, .row (.row 72 (.row 75 (.st [(.int .u64), (.int .i64), (.int .i64)])) r10)), (6, .row (.row 4 .bool r11)), (7, .prow 72 tm72 (lock toN (lock ofN (lock (@xlen D) r1))) 8), (8, .gho tm72 r16 none)], 9⟩) ?_ ?_
  ·exact cl1df3b
  clear hr
  intro x bb2 hr ht2
  obtain ⟨i6, r16⟩ := x
  as_aux_lemma =>
  constructor
  unfold Z34 at hr
  (try dsimp only at hr)
  (try cbv)
  refine Z2 hr ?_ ?_ <;> intro h1 hr
  ·(try cbv)
   refine Z3 hr fun hr => ?_
   refine cal hr (by rintro (_) _ <;> cbv) ?_
   rintro y9 hx15 hr
   (try dsimp only at hr); constructor; (try cbv)
   refine Z2 hr ?_ ?_ <;> intro h1 hr
   ·(try cbv)
    refine Z2 hr ?_ ?_ <;> intro h1 hr
    ·(try cbv)
     refine Z3 hr fun hr => ?_
     refine Z3 hr fun hr => ?_
     refine Z3 hr fun hr => ?_
     refine ⟨obl.2 rfl, ?_⟩
     apply Hidden.out
     exact cl81169
    (try cbv)
    apply Hidden.out
    exact cl81169
   (try cbv)
   apply Hidden.out
   exact cl81169
  as_aux_lemma =>
  (try cbv)
  apply Hidden.out
  obtain ⟨t, hr2, hw⟩ := Zr hr
  clear hr
  subst hw
  have e := (ht2 _ rfl).symm
  subst e
  have hr := hr2
  clear hr2
  constructor
  refine LoopOK.iter T (drawOK T hm) hr (fun | (i7, r17, r18, r19) => ⟨mkFr [(3, (.ptr 3 0)), (4, (.ptr 4 0)), (8, (.wsl 5)), (9, (.wsl 6)), (10, (.v (.int .i64 i3))), (34, (.wsl 2)), (35, (.v (.int .i64 (lock ofN (lock (@xlen D) r5))))), (36, (.v (.int .i64 i3))), (75, (.wsl 7)), (76, (.v (.int .i64 (lock ofN (lock toN (lock ofN (lock (@xlen D) r1))))))), (77, (.v (.int .i64 i7)))] 145 0, [(0, .row (.row 83 (.st [.str, (.int .u64), (.int .u64), (.int .u64), (.int .i64), .bool]) r3)), (1, .row (.row 96 (.st [(.int .i64), (.int .i64), (.int .i64)]) r4)), (2, .row (.row 72 (.row 75 (.st [(.int .u64), (.int .i64), (.int .i64)])) r5)), (3, .blk 33 [(.str s1), (.v (.bool b1)), (.wsl 0), (.wsl 1), (.v (.int .i64 x1))]), (4, .blk 33 [(.str s2), (.v (.bool b2)), (.rsl (.row 83 (.st [.str, (.int .u64), (.int .u64), (.int .u64), (.int .i64), .bool]) r1)), (.rsl (.row 96 (.st [(.int .i64), (.int .i64), (.int .i64)]) r2)), (.v (.int .i64 x2))]), (5, .row (.row 72 (.row 75 (.st [(.int .u64), (.int .i64), (.int .i64)])) r17)), (6, .row (.row 4 .bool r18)), (7, .prow 72 tm72 (lock toN (lock ofN (lock (@xlen D) r1))) 8), (8, .gho tm72 r19 none)], 9⟩) ?_ ?_
  ·exact clf6c1b
  clear hr
  intro x bb2 hr ht2
  obtain ⟨i7, r17, r18, r19⟩ := x
  as_aux_lemma =>
  constructor
  unfold Z17 at hr
  (try dsimp only at hr)
  (try cbv)
  refine Z2 hr ?_ ?_ <;> intro h1 hr
  ·as_aux_lemma =>
   (try cbv)
   refine Z3 hr fun hr => ?_
   refine Z3 hr fun hr => ?_
   refine cal hr (by rintro (_) _ <;> cbv) ?_
   rintro q9 hx18 hr
   (try dsimp only at hr); constructor; (try cbv)
   refine Z3 hr fun hr => ?_
   refine Z3 hr fun hr => ?_
   apply Hidden.out
   refine Z9 hr ?_ ?_ <;> intro h1 hr
   ·constructor
    have h2 : (lock D.toB (lock getD r18 (lock toN i7))) = true := by simp only [lock_eq]; exact h1
    simp only [relock, h2]
    (try cbv)
    refine Z3 hr fun hr => ?_
    apply Hidden.out
    exact cle9b97
   constructor
   have h2 : (lock D.toB (lock getD r18 (lock toN i7))) = false := by simp only [lock_eq]; exact h1
   simp only [relock, h2]
   (try cbv)
   apply Hidden.out
   refine Z9 hr ?_ ?_ <;> intro h1 hr
   ·constructor
    have h2 : (lock ilt (0 : Int) (lock ofN (lock (@xlen D) (lock D.toL (lock getD r19 (lock toN i7)))))) = true := by simp only [lock_eq]; exact h1
    simp only [relock, h2]
    (try cbv)
    refine Z3 hr fun hr => ?_
    refine Z3 hr fun hr => ?_
    refine Z3 hr fun hr => ?_
    apply Hidden.out
    exact cle9b97
   constructor
   have h2 : (lock ilt (0 : Int) (lock ofN (lock (@xlen D) (lock D.toL (lock getD r19 (lock toN i7)))))) = false := by simp only [lock_eq]; exact h1
   simp only [relock, h2]
   (try cbv)
   refine Z3 hr fun hr => ?_
   apply Hidden.out
   exact cle9b97
  (try cbv)
  apply Hidden.out
  exact clefba8
 as_aux_lemma =>
 (try cbv)
 apply Hidden.out
 obtain ⟨t, hr2, hw⟩ := Zr hr
 clear hr
 subst hw
 have e := (ht1 _ rfl).symm
 subst e
 have hr := hr2
 clear hr2
 constructor
 refine LoopOK.iter T (drawOK T hm) hr (fun | i8 => ⟨mkFr [(4, (.ptr 3 0)), (8, (.wsl 4)), (120, (.wsl 5)), (121, (.v (.int .i64 (lock ofN (lock (@xlen D) r11))))), (122, (.v (.int .i64 i8)))] 145 0, [(0, .row (.row 83 (.st [.str, (.int .u64), (.int .u64), (.int .u64), (.int .i64), .bool]) r3)), (1, .row (.row 96 (.st [(.int .i64), (.int .i64), (.int .i64)]) r4)), (2, .row (.row 72 (.row 75 (.st [(.int .u64), (.int .i64), (.int .i64)])) r5)), (3, .blk 33 [(.str s2), (.v (.bool b2)), (.rsl (.row 83 (.st [.str, (.int .u64), (.int .u64), (.int .u64), (.int .i64), .bool]) r1)), (.rsl (.row 96 (.st [(.int .i64), (.int .i64), (.int .i64)]) r2)), (.v (.int .i64 x2))]), (4, .row (.row 72 (.row 75 (.st [(.int .u64), (.int .i64), (.int .i64)])) r10)), (5, .row (.row 4 .bool r11))], 6⟩) ?_ ?_
 ·exact cl2ec4c
 clear hr
 intro x bb1 hr ht1
 obtain ⟨i8, hz⟩ : ∃ z, z = x := ⟨x, rfl⟩
 subst hz
 as_aux_lemma =>
 constructor
 unfold Z4a at hr
 (try dsimp only at hr)
 (try cbv)
 refine Z2 hr ?_ ?_ <;> intro h1 hr
 ·(try cbv)
  refine Z3 hr fun hr => ?_
  apply Hidden.out
  refine Z9 hr ?_ ?_ <;> intro h1 hr
  ·constructor
   have h2 : (lock D.toB (lock getD r11 (lock toN i8))) = true := by simp only [lock_eq]; exact h1
   simp only [relock, h2]
   (try cbv)
   refine Z3 hr fun hr => ?_
   refine Z3 hr fun hr => ?_
   refine Z2 hr ?_ ?_ <;> intro h1 hr
   ·(try cbv)
    apply Hidden.out
    exact cl1c5c3
   (try cbv)
   apply Hidden.out
   exact clba30f
  constructor
  have h2 : (lock D.toB (lock getD r11 (lock toN i8))) = false := by simp only [lock_eq]; exact h1
  simp only [relock, h2]
  (try cbv)
  apply Hidden.out
  exact clba30f
 (try cbv)
 apply Hidden.out
 exact cl1c5c3
noncomputable def Zdu : Nat → Option Con := look []
set_option maxHeartbeats 20000000 in
set_option maxRecDepth 100000 in
theorem Zwv (P : Program) (T : Tab P Zdu) (hm : P.follows .mixedOrders = true) : FnVC P Zdu Zhw [.c 6 3 true] 14 Z8s := by
 intro cargs ccks ce hce hob C hk
 apply Hidden.out
 replace hce : Z8t cargs ccks = some ce := hce
 unfold Z8t at hce
 split at hce; rotate_left; cases hce
 obtain rfl := Option.some.inj hce
 rename_i x1 x2 x3 x4 x5
 refine obh hob fun r hF => ?_
 clear hob hce
 simp only [List.length_cons, List.length_nil, Nat.zero_add, Nat.reduceAdd] at hk
 have hr : Z1x x1 x2 x3 x4 x5 = some r := by rw [lock_eq] at hF; exact hF
 unfold Z1x at hr
 constructor
 (try cbv)
 apply Hidden.out
 exact clacd82
noncomputable def Ze8 : Nat → Option Con := look [(67, Z6u)]
set_option maxHeartbeats 20000000 in
set_option maxRecDepth 100000 in
theorem Zx9 (P : Program) (T : Tab P Ze8) (hm : P.follows .mixedOrders = true) : FnVC P Ze8 Zhx [] 28 Z6t := by
 intro cargs ccks ce hce hob C hk
 apply Hidden.out
 replace hce : Z9k cargs ccks = some ce := hce
 unfold Z9k at hce
 split at hce; rotate_left; cases hce
 obtain rfl := Option.some.inj hce
 rename_i r1 x1 x2 x3 r2
 refine obh hob fun r hF => ?_
 clear hob hce
 simp only [List.length_cons, List.length_nil, Nat.zero_add, Nat.reduceAdd] at hk
 have hr : Z16 r1 x1 x2 x3 r2 = some r := by rw [lock_eq] at hF; exact hF
 unfold Z16 at hr
 constructor
 (try cbv)
 refine LoopOK.iter T (drawOK T hm) hr (fun | (i1, i2, i3, r3) => ⟨mkFr [(0, (.ptr 0 0)), (18, (.rsl (.row 75 (.st [(.int .u64), (.int .i64), (.int .i64)]) r1))), (19, (.v (.int .i64 (lock ofN (lock (@xlen D) r1))))), (20, (.v (.int .i64 i1)))] 28 0, [(0, .blk 144 [(.v (.int .i64 x1)), (.wsl 2), (.v (.int .i64 i2)), (.v (.int .i64 i3))]), (2, .row (.row 75 (.st [(.int .u64), (.int .i64), (.int .i64)]) r3))], 3⟩) ?_ ?_
 ·exact clf6c1b
 clear hr
 intro x bb1 hr ht1
 obtain ⟨i1, i2, i3, r3⟩ := x
 as_aux_lemma =>
 constructor
 unfold Z5d at hr
 (try dsimp only at hr)
 (try cbv)
 refine Z2 hr ?_ ?_ <;> intro h1 hr
 ·(try cbv)
  refine Z3 hr fun hr => ?_
  refine cal hr (by rintro (⟨_, _, _⟩) _ <;> cbv) ?_
  rintro ⟨y7, y8, q4⟩ hx4 hr
  (try dsimp only at hr); constructor; (try cbv)
  apply Hidden.out
  exact cle9b97
 (try cbv)
 apply Hidden.out
 exact clbdc41
noncomputable def Zeo : Nat → Option Con := look [(13, Z5q), (34, Z9z), (36, Z74), (35, Z9x), (31, Z73), (37, Z8s), (38, Z6t)]
set_option maxHeartbeats 20000000 in
set_option maxRecDepth 100000 in
theorem Zxp (P : Program) (T : Tab P Zeo) (hm : P.follows .mixedOrders = true) : FnVC P Zeo Zhi [.t 6] 118 Z6y := by
 intro cargs ccks ce hce hob C hk
 apply Hidden.out
 replace hce : altC (Zae cargs ccks) (Zaf cargs ccks) = some ce := hce
 replace hce := Zl hce
 rcases hce with hce | hce
 ·unfold Zae at hce
  split at hce; rotate_left; cases hce; rename_i s1 b1 x1 b2
  split at hce; rotate_left; cases hce
  split at hce; rotate_left; cases hce; rename_i s2 b3 x2 x3
  split at hce; rotate_left; cases hce; rename_i r1
  split at hce; rotate_left; cases hce; rename_i r2
  split at hce; rotate_left; cases hce; rename_i r3
  split at hce; rotate_left; cases hce; rename_i w1 n1
  split at hce; rotate_left; cases hce; rename_i x4 b4
  split at hce; rotate_left; cases hce; rename_i w2 r4
  split at hce; rotate_left; cases hce; rename_i l1
  split at hce; rotate_left; cases hce; rename_i l2
  split at hce
  ·cases hce
  obtain rfl := Option.some.inj hce
  rename_i _ htm
  simp only [Bool.and_eq_true] at htm
  obtain ⟨h1, h2⟩ := htm
  obtain rfl := Zb _ _ h1
  obtain rfl := Zb _ _ h2
  clear h1 h2
  refine obh hob fun r hF => ?_
  clear hob hce
  simp only [List.length_cons, List.length_nil, Nat.zero_add, Nat.reduceAdd] at hk
  have hr : Z4b s1 b1 x1 b2 s2 b3 x2 x3 r1 r2 r3 n1 x4 b4 r4 l1 l2 = some r := by rw [lock_eq] at hF; exact hF
  unfold Z4b at hr
  constructor
  (try cbv)
  refine cal hr (by rintro (_) _ <;> cbv) ?_
  rintro c1 hx1 hr
  (try dsimp only at hr); constructor; (try cbv)
  refine Zd hr ?_ ?_ <;> intro h1 hr
  ·(try cbv)
   apply Hidden.out
   exact clacd82
  (try cbv)
  refine cald hr (by rintro (_) _ <;> cbv) ?_
  rintro c2 hx2 hr
  (try dsimp only at hr); constructor; (try cbv)
  refine Z2 hr ?_ ?_ <;> intro h1 hr
  ·(try cbv)
   apply Hidden.out
   exact clacd82
  (try cbv)
  cases hr
 unfold Zaf at hce
 split at hce; rotate_left; cases hce; rename_i s1 b1 r1 r2 x1 b2
 split at hce; rotate_left; cases hce
 split at hce; rotate_left; cases hce; rename_i s2 b3 x2 x3
 split at hce; rotate_left; cases hce; rename_i r3
 split at hce; rotate_left; cases hce; rename_i r4
 split at hce; rotate_left; cases hce; rename_i w1 n1
 split at hce; rotate_left; cases hce; rename_i x4 b4
 split at hce; rotate_left; cases hce; rename_i w2 r5
 split at hce; rotate_left; cases hce; rename_i l1
 split at hce; rotate_left; cases hce; rename_i l2
 split at hce
 ·cases hce
 obtain rfl := Option.some.inj hce
 rename_i _ htm
 simp only [Bool.and_eq_true] at htm
 obtain ⟨h1, h2⟩ := htm
 obtain rfl := Zb _ _ h1
 obtain rfl := Zb _ _ h2
 clear h1 h2
 refine obh hob fun r hF => ?_
 clear hob hce
 simp only [List.length_cons, List.length_nil, Nat.zero_add, Nat.reduceAdd] at hk
 have hr : Zt s1 b1 r1 r2 x1 b2 s2 b3 x2 x3 r3 r4 n1 x4 b4 r5 l1 l2 = some r := by rw [lock_eq] at hF; exact hF
 unfold Zt at hr
 constructor
 (try cbv)
 refine cal hr (by rintro (_) _ <;> cbv) ?_
 rintro c1 hx1 hr
 (try dsimp only at hr); constructor; (try cbv)
 refine Zd hr ?_ ?_ <;> intro h1 hr
 ·(try cbv)
  apply Hidden.out
  exact cl62e3a
 as_aux_lemma =>
 (try cbv)
 refine cald hr (by rintro (_) _ <;> cbv) ?_
 rintro c2 hx2 hr
 (try dsimp only at hr); constructor; (try cbv)
 refine Z2 hr ?_ ?_ <;> intro h1 hr
 ·(try cbv)
  apply Hidden.out
  exact cl62e3a
 as_aux_lemma =>
 (try cbv)
 refine cald hr (by rintro (⟨_, _⟩) _ <;> cbv) ?_
 rintro ⟨q1, q2⟩ hx3 hr
 (try dsimp only at hr); constructor; (try cbv)
 refine cald hr (by rintro (⟨_, _⟩) _ <;> cbv) ?_
 rintro ⟨c3, q3⟩ hx4 hr
 (try dsimp only at hr); constructor; (try cbv)
 refine Zd hr ?_ ?_ <;> intro h1 hr
 ·as_aux_lemma =>
  (try cbv)
  refine Zd hr ?_ ?_ <;> intro h1 hr
  ·(try cbv)
   apply Hidden.out
   exact cl62e3a
  as_aux_lemma =>
  (try cbv)
  refine LoopOK.iter T (drawOK T hm) hr (fun | (i1, r6, r7) => ⟨mkFr [(0, (.ptr 0 0)), (4, (.ptr 8 0)), (7, (.wsl 9)), (9, (.mpv 10)), (52, (.wsl 3)), (53, (.v (.int .i64 (lock ofN n1)))), (54, (.v (.int .i64 i1)))] 118 0, [(0, .blk 92 [(.str s2), (.v (.bool b3)), (.wsl 1), (.wsl 2), (.v (.int .i64 x2)), (.v (.int .u64 x3)), (.wsl 3), (.ptr 4 0)]), (1, .row (.row 83 (.st [.str, (.int .u64), (.int .u64), (.int .u64), (.int .i64), .bool]) r3)), (2, .row (.row 96 (.st [(.int .i64), (.int .i64), (.int .i64)]) r4)), (3, .prow 98 tm98 n1 11), (4, .blk 169 [(.wsl 6), (.v (.int .i64 x4)), (.v (.bool b4)), (.wsl 7)]), (6, .row (.ints 46 .u64 l1)), (7, .row (.ints 46 .u64 l2)), (8, .blk 33 [(.str s1), (.v (.bool b1)), (.rsl (.row 83 (.st [.str, (.int .u64), (.int .u64), (.int .u64), (.int .i64), .bool]) r1)), (.rsl (.row 96 (.st [(.int .i64), (.int .i64), (.int .i64)]) r2)), (.v (.int .i64 x1))]), (9, .row (.row 72 (.row 75 (.st [(.int .u64), (.int .i64), (.int .i64)])) q3)), (10, .mp (.st [(.int .u64), (.int .u64), (.int .u64)]) r6), (11, .gho tm98 r7 none)], 12⟩) ?_ ?_
  ·exact cl63eab
  clear hr
  intro x bb1 hr ht1
  obtain ⟨i1, r6, r7⟩ := x
  as_aux_lemma =>
  constructor
  unfold Z3d at hr
  (try dsimp only at hr)
  (try cbv)
  refine Z2 hr ?_ ?_ <;> intro h1 hr
  ·(try cbv)
   refine Z3 hr fun hr => ?_
   apply Hidden.out
   exact cl34131
  as_aux_lemma =>
  (try cbv)
  refine cal hr (by rintro (⟨_, _, _, _, _, _⟩) _ <;> cbv) ?_
  rintro ⟨q4, q5, k1, q6, m1, m2⟩ hx5 hr
  (try dsimp only at hr); constructor; (try cbv)
  apply Hidden.out
  obtain ⟨t, hr2, hw⟩ := Zr hr
  clear hr
  subst hw
  have e := (ht1 _ rfl).symm
  subst e
  have hr := hr2
  clear hr2
  constructor
  refine LoopOK.iter T (drawOK T hm) hr (fun | (i2, r8) => ⟨mkFr [(7, (.wsl 8)), (9, (.mpv 9)), (75, (.wsl 10)), (76, (.v (.int .i64 (lock ofN k1)))), (77, (.v (.int .i64 i2)))] 118 0, [(0, .blk 92 [(.str s1), (.v (.bool b1)), (.wsl 11), (.wsl 12), (.v (.int .i64 x1)), (.v (.int .u64 x3)), (.wsl 10), (.ptr 13 0)]), (1, .row (.row 83 (.st [.str, (.int .u64), (.int .u64), (.int .u64), (.int .i64), .bool]) r3)), (2, .row (.row 96 (.st [(.int .i64), (.int .i64), (.int .i64)]) r4)), (3, .prow 98 tm98 n1 14), (4, .blk 169 [(.wsl 6), (.v (.int .i64 x4)), (.v (.bool b4)), (.wsl 7)]), (6, .row (.ints 46 .u64 l1)), (7, .row (.ints 46 .u64 l2)), (8, .row (.row 72 (.row 75 (.st [(.int .u64), (.int .i64), (.int .i64)])) q3)), (9, .mp (.st [(.int .u64), (.int .u64), (.int .u64)]) r6), (10, .prow 98 tm98 k1 15), (11, .row (.row 83 (.st [.str, (.int .u64), (.int .u64), (.int .u64), (.int .i64), .bool]) q4)), (12, .row (.row 96 (.st [(.int .i64), (.int .i64), (.int .i64)]) q5)), (13, .blk 169 [(.wsl 16), (.v (.int .i64 (0 : Int))), (.v (.bool false)), (.wsl 17)]), (14, .gho tm98 r7 none), (15, .gho tm98 r8 none), (16, .row (.ints 46 .u64 m1)), (17, .row (.ints 46 .u64 m2))], 18⟩) ?_ ?_
  ·exact cl1df3b
  clear hr
  intro x bb1 hr ht1
  obtain ⟨i2, r8⟩ := x
  as_aux_lemma =>
  constructor
  unfold Z1q at hr
  (try dsimp only at hr)
  (try cbv)
  refine Z2 hr ?_ ?_ <;> intro h1 hr
  ·(try cbv)
   refine Z3 hr fun hr => ?_
   refine Z2 hr ?_ ?_ <;> intro h1 hr
   ·(try cbv)
    refine cald hr (by rintro (_) _ <;> cbv) ?_
    rintro y11 hx12 hr
    (try dsimp only at hr); constructor; (try cbv)
    refine Z3 hr fun hr => ?_
    refine cald hr (by rintro (⟨_, _, _⟩) _ <;> cbv) ?_
    rintro ⟨y12, y13, q11⟩ hx13 hr
    (try dsimp only at hr); constructor; (try cbv)
    apply Hidden.out
    exact cl81169
   (try cbv)
   refine Z3 hr fun hr => ?_
   refine cald hr (by rintro (⟨_, _, _⟩) _ <;> cbv) ?_
   rintro ⟨y14, y15, q12⟩ hx14 hr
   (try dsimp only at hr); constructor; (try cbv)
   apply Hidden.out
   exact cl81169
  (try cbv)
  apply Hidden.out
  exact clfaf68
 as_aux_lemma =>
 (try cbv)
 refine LoopOK.iter T (drawOK T hm) hr (fun | (i3, r9, r10) => ⟨mkFr [(0, (.ptr 0 0)), (4, (.ptr 8 0)), (7, (.wsl 9)), (9, (.mpv 10)), (52, (.wsl 3)), (53, (.v (.int .i64 (lock ofN n1)))), (54, (.v (.int .i64 i3)))] 118 0, [(0, .blk 92 [(.str s2), (.v (.bool b3)), (.wsl 1), (.wsl 2), (.v (.int .i64 x2)), (.v (.int .u64 x3)), (.wsl 3), (.ptr 4 0)]), (1, .row (.row 83 (.st [.str, (.int .u64), (.int .u64), (.int .u64), (.int .i64), .bool]) r3)), (2, .row (.row 96 (.st [(.int .i64), (.int .i64), (.int .i64)]) r4)), (3, .prow 98 tm98 n1 11), (4, .blk 169 [(.wsl 6), (.v (.int .i64 x4)), (.v (.bool b4)), (.wsl 7)]), (6, .row (.ints 46 .u64 l1)), (7, .row (.ints 46 .u64 l2)), (8, .blk 33 [(.str s1), (.v (.bool b1)), (.rsl (.row 83 (.st [.str, (.int .u64), (.int .u64), (.int .u64), (.int .i64), .bool]) r1)), (.rsl (.row 96 (.st [(.int .i64), (.int .i64), (.int .i64)]) r2)), (.v (.int .i64 x1))]), (9, .row (.row 72 (.row 75 (.st [(.int .u64), (.int .i64), (.int .i64)])) q3)), (10, .mp (.st [(.int .u64), (.int .u64), (.int .u64)]) r9), (11, .gho tm98 r10 none)], 12⟩) ?_ ?_
 ·exact cl63eab
 clear hr
 intro x bb1 hr ht1
 obtain ⟨i3, r9, r10⟩ := x
 as_aux_lemma =>
 constructor
 unfold Z86 at hr
 (try dsimp only at hr)
 (try cbv)
 refine Z2 hr ?_ ?_ <;> intro h1 hr
 ·(try cbv)
  refine Z3 hr fun hr => ?_
  apply Hidden.out
  exact cl34131
 as_aux_lemma =>
 (try cbv)
 refine cal hr (by rintro (⟨_, _, _, _, _, _⟩) _ <;> cbv) ?_
 rintro ⟨q13, q14, k2, q15, m3, m4⟩ hx15 hr
 (try dsimp only at hr); constructor; (try cbv)
 apply Hidden.out
 obtain ⟨t, hr2, hw⟩ := Zr hr
 clear hr
 subst hw
 have e := (ht1 _ rfl).symm
 subst e
 have hr := hr2
 clear hr2
 constructor
 refine LoopOK.iter T (drawOK T hm) hr (fun | (i4, r11) => ⟨mkFr [(7, (.wsl 8)), (9, (.mpv 9)), (75, (.wsl 10)), (76, (.v (.int .i64 (lock ofN k2)))), (77, (.v (.int .i64 i4)))] 118 0, [(0, .blk 92 [(.str s1), (.v (.bool b1)), (.wsl 11), (.wsl 12), (.v (.int .i64 x1)), (.v (.int .u64 x3)), (.wsl 10), (.ptr 13 0)]), (1, .row (.row 83 (.st [.str, (.int .u64), (.int .u64), (.int .u64), (.int .i64), .bool]) r3)), (2, .row (.row 96 (.st [(.int .i64), (.int .i64), (.int .i64)]) r4)), (3, .prow 98 tm98 n1 14), (4, .blk 169 [(.wsl 6), (.v (.int .i64 x4)), (.v (.bool b4)), (.wsl 7)]), (6, .row (.ints 46 .u64 l1)), (7, .row (.ints 46 .u64 l2)), (8, .row (.row 72 (.row 75 (.st [(.int .u64), (.int .i64), (.int .i64)])) q3)), (9, .mp (.st [(.int .u64), (.int .u64), (.int .u64)]) r9), (10, .prow 98 tm98 k2 15), (11, .row (.row 83 (.st [.str, (.int .u64), (.int .u64), (.int .u64), (.int .i64), .bool]) q13)), (12, .row (.row 96 (.st [(.int .i64), (.int .i64), (.int .i64)]) q14)), (13, .blk 169 [(.wsl 16), (.v (.int .i64 (0 : Int))), (.v (.bool false)), (.wsl 17)]), (14, .gho tm98 r10 none), (15, .gho tm98 r11 none), (16, .row (.ints 46 .u64 m3)), (17, .row (.ints 46 .u64 m4))], 18⟩) ?_ ?_
 ·exact cl1df3b
 clear hr
 intro x bb1 hr ht1
 obtain ⟨i4, r11⟩ := x
 as_aux_lemma =>
 constructor
 unfold Zfq at hr
 (try dsimp only at hr)
 (try cbv)
 refine Z2 hr ?_ ?_ <;> intro h1 hr
 ·(try cbv)
  refine Z3 hr fun hr => ?_
  refine Z2 hr ?_ ?_ <;> intro h1 hr
  ·(try cbv)
   refine cald hr (by rintro (_) _ <;> cbv) ?_
   rintro y26 hx22 hr
   (try dsimp only at hr); constructor; (try cbv)
   refine Z3 hr fun hr => ?_
   refine cald hr (by rintro (⟨_, _, _⟩) _ <;> cbv) ?_
   rintro ⟨y27, y28, q20⟩ hx23 hr
   (try dsimp only at hr); constructor; (try cbv)
   apply Hidden.out
   exact cl81169
  (try cbv)
  refine Z3 hr fun hr => ?_
  refine cald hr (by rintro (⟨_, _, _⟩) _ <;> cbv) ?_
  rintro ⟨y29, y30, q21⟩ hx24 hr
  (try dsimp only at hr); constructor; (try cbv)
  apply Hidden.out
  exact cl81169
 (try cbv)
 apply Hidden.out
 exact clfaf68
noncomputable def Zes : Nat → Option Con := look [(50, Z75)]
set_option maxHeartbeats 20000000 in
set_option maxRecDepth 100000 in
theorem Zxt (P : Program) (T : Tab P Zes) (hm : P.follows .mixedOrders = true) : FnVC P Zes Zhk [.c 2 5 true] 11 Zak := by
 intro cargs ccks ce hce hob C hk
 apply Hidden.out
 replace hce : Zal cargs ccks = some ce := hce
 unfold Zal at hce
 split at hce; rotate_left; cases hce
 split at hce; rotate_left; cases hce
 split at hce; rotate_left; cases hce; rename_i s1 b1 x1 x2
 split at hce; rotate_left; cases hce; rename_i r1
 split at hce; rotate_left; cases hce; rename_i r2
 split at hce; rotate_left; cases hce; rename_i w1 n1
 split at hce; rotate_left; cases hce; rename_i x3 b2
 split at hce; rotate_left; cases hce; rename_i w2 r3
 split at hce; rotate_left; cases hce; rename_i l1
 split at hce; rotate_left; cases hce; rename_i l2
 split at hce
 ·cases hce
 obtain rfl := Option.some.inj hce
 rename_i _ htm
 simp only [Bool.and_eq_true] at htm
 obtain ⟨h1, h2⟩ := htm
 obtain rfl := Zb _ _ h1
 obtain rfl := Zb _ _ h2
 clear h1 h2
 refine obh hob fun r hF => ?_
 clear hob hce
 simp only [List.length_cons, List.length_nil, Nat.zero_add, Nat.reduceAdd] at hk
 have hr : Z4c s1 b1 x1 x2 r1 r2 n1 x3 b2 r3 l1 l2 = some r := by rw [lock_eq] at hF; exact hF
 unfold Z4c at hr
 constructor
 (try cbv)
 refine cal hr (by rintro (⟨_, _⟩) _ <;> cbv) ?_
 rintro ⟨q1, q2⟩ hx1 hr
 (try dsimp only at hr); constructor; (try cbv)
 apply Hidden.out
 exact clf1d56
noncomputable def Zfb : Nat → Option Con := look []
set_option maxHeartbeats 20000000 in
set_option maxRecDepth 100000 in
theorem Zyc (P : Program) (T : Tab P Zfb) (hm : P.follows .mixedOrders = true) : FnVC P Zfb Ziu [.t 4] 48 Zbq := by
 intro cargs ccks ce hce hob C hk
 apply Hidden.out
 replace hce : altC (Zbr cargs ccks) (Zbs cargs ccks) = some ce := hce
 replace hce := Zl hce
 rcases hce with hce | hce
 ·unfold Zbr at hce
  split at hce; rotate_left; cases hce
  obtain rfl := Option.some.inj hce
  rename_i x1 x2 b1 r1
  refine obh hob fun r hF => ?_
  clear hob hce
  simp only [List.length_cons, List.length_nil, Nat.zero_add, Nat.reduceAdd] at hk
  have hr : Z5l x1 x2 b1 r1 = some r := by rw [lock_eq] at hF; exact hF
  unfold Z5l at hr
  constructor
  (try cbv)
  refine LoopOK.iter T (drawOK T hm) hr (fun | (i1, i2) => ⟨mkFr [(2, (.ptr 0 0)), (5, (.v (.int .u64 i1))), (8, (.rsl (.row 75 (.st [(.int .u64), (.int .i64), (.int .i64)]) r1))), (9, (.v (.int .i64 (lock ofN (lock (@xlen D) r1))))), (10, (.v (.int .i64 i2)))] 48 0, [(0, .blk 67 [(.v (.int .u64 x1)), .nsl, (.v (.int .i64 x2)), (.v (.bool b1)), .nsl, .nsl])], 1⟩) ?_ ?_
  ·exact cl1df3b
  clear hr
  intro x bb1 hr ht1
  obtain ⟨i1, i2⟩ := x
  as_aux_lemma =>
  constructor
  unfold Zfs at hr
  (try dsimp only at hr)
  (try cbv)
  refine Z2 hr ?_ ?_ <;> intro h1 hr
  ·as_aux_lemma =>
   (try cbv)
   refine Z3 hr fun hr => ?_
   refine Z2 hr ?_ ?_ <;> intro h1 hr
   ·(try cbv)
    apply Hidden.out
    exact clb5cb2
   (try cbv)
   refine Z2 hr ?_ ?_ <;> intro h1 hr
   ·(try cbv)
    apply Hidden.out
    exact clb5cb2
   (try cbv)
   refine Z2 hr ?_ ?_ <;> intro h1 hr
   ·(try cbv)
    apply Hidden.out
    exact clb5cb2
   (try cbv)
   refine Z2 hr ?_ ?_ <;> intro h1 hr
   ·(try cbv)
    apply Hidden.out
    exact clb5cb2
   (try cbv)
   refine Z2 hr ?_ ?_ <;> intro h1 hr
   ·(try cbv)
    apply Hidden.out
    exact clb5cb2
   (try cbv)
   refine Z2 hr ?_ ?_ <;> intro h1 hr
   ·(try cbv)
    apply Hidden.out
    exact clb5cb2
   (try cbv)
   apply Hidden.out
   exact cl81169
  (try cbv)
  apply Hidden.out
  exact clb5cb2
 unfold Zbs at hce
 split at hce; rotate_left; cases hce
 obtain rfl := Option.some.inj hce
 rename_i x1 l1 x2 b1 l2 r1 r2
 refine obh hob fun r hF => ?_
 clear hob hce
 simp only [List.length_cons, List.length_nil, Nat.zero_add, Nat.reduceAdd] at hk
 have hr : Z4m x1 l1 x2 b1 l2 r1 r2 = some r := by rw [lock_eq] at hF; exact hF
 unfold Z4m at hr
 constructor
 (try cbv)
 refine LoopOK.iter T (drawOK T hm) hr (fun | (i1, i2) => ⟨mkFr [(2, (.ptr 0 0)), (5, (.v (.int .u64 i1))), (8, (.rsl (.row 75 (.st [(.int .u64), (.int .i64), (.int .i64)]) r2))), (9, (.v (.int .i64 (lock ofN (lock (@xlen D) r2))))), (10, (.v (.int .i64 i2)))] 48 0, [(0, .blk 67 [(.v (.int .u64 x1)), (.rsl (.ints 46 .u64 l1)), (.v (.int .i64 x2)), (.v (.bool b1)), (.rsl (.ints 46 .u64 l2)), (.rsl (.row 72 (.row 75 (.st [(.int .u64), (.int .i64), (.int .i64)])) r1))])], 1⟩) ?_ ?_
 ·exact cl1df3b
 clear hr
 intro x bb1 hr ht1
 obtain ⟨i1, i2⟩ := x
 as_aux_lemma =>
 constructor
 unfold Z2h at hr
 (try dsimp only at hr)
 (try cbv)
 refine Z2 hr ?_ ?_ <;> intro h1 hr
 ·as_aux_lemma =>
  (try cbv)
  refine Z3 hr fun hr => ?_
  refine Z2 hr ?_ ?_ <;> intro h1 hr
  ·(try cbv)
   apply Hidden.out
   exact clb5cb2
  (try cbv)
  refine Z2 hr ?_ ?_ <;> intro h1 hr
  ·(try cbv)
   apply Hidden.out
   exact clb5cb2
  (try cbv)
  refine Z2 hr ?_ ?_ <;> intro h1 hr
  ·(try cbv)
   apply Hidden.out
   exact clb5cb2
  (try cbv)
  refine Z2 hr ?_ ?_ <;> intro h1 hr
  ·(try cbv)
   apply Hidden.out
   exact clb5cb2
  (try cbv)
  refine Z2 hr ?_ ?_ <;> intro h1 hr
  ·(try cbv)
   apply Hidden.out
   exact clb5cb2
  (try cbv)
  refine Z2 hr ?_ ?_ <;> intro h1 hr
  ·(try cbv)
   apply Hidden.out
   exact clb5cb2
  (try cbv)
  apply Hidden.out
  exact cl81169
 (try cbv)
 apply Hidden.out
 exact clb5cb2
noncomputable def Zfa : Nat → Option Con := look [(88, Zbq)]
set_option maxHeartbeats 20000000 in
set_option maxRecDepth 100000 in
theorem Zyb (P : Program) (T : Tab P Zfa) (hm : P.follows .mixedOrders = true) : FnVC P Zfa Zit [.t 3] 8 Zbl := by
 intro cargs ccks ce hce hob C hk
 apply Hidden.out
 replace hce : altC (Zbm cargs ccks) (Zbn cargs ccks) = some ce := hce
 replace hce := Zl hce
 rcases hce with hce | hce
 ·unfold Zbm at hce
  split at hce; rotate_left; cases hce
  obtain rfl := Option.some.inj hce
  rename_i r1 x1 x2 b1
  refine obh hob fun r hF => ?_
  clear hob hce
  simp only [List.length_cons, List.length_nil, Nat.zero_add, Nat.reduceAdd] at hk
  have hr : Z5k r1 x1 x2 b1 = some r := by rw [lock_eq] at hF; exact hF
  unfold Z5k at hr
  constructor
  (try cbv)
  refine cal hr (by rintro (_) _ <;> cbv) ?_
  rintro c1 hx1 hr
  (try dsimp only at hr); constructor; (try cbv)
  apply Hidden.out
  exact clacd82
 unfold Zbn at hce
 split at hce; rotate_left; cases hce
 obtain rfl := Option.some.inj hce
 rename_i r1 x1 l1 x2 b1 l2 r2
 refine obh hob fun r hF => ?_
 clear hob hce
 simp only [List.length_cons, List.length_nil, Nat.zero_add, Nat.reduceAdd] at hk
 have hr : Z3m r1 x1 l1 x2 b1 l2 r2 = some r := by rw [lock_eq] at hF; exact hF
 unfold Z3m at hr
 constructor
 (try cbv)
 refine cal hr (by rintro (_) _ <;> cbv) ?_
 rintro c1 hx1 hr
 (try dsimp only at hr); constructor; (try cbv)
 apply Hidden.out
 exact clacd82
noncomputable def Zf7 : Nat → Option Con := look [(87, Zbl)]
set_option maxHeartbeats 20000000 in
set_option maxRecDepth 100000 in
theorem Zy8 (P : Program) (T : Tab P Zf7) (hm : P.follows .mixedOrders = true) : FnVC P Zf7 Zhf [.t 4] 19 Zbf := by
 intro cargs ccks ce hce hob C hk
 apply Hidden.out
 replace hce : altC (Zbg cargs ccks) (Zbh cargs ccks) = some ce := hce
 replace hce := Zl hce
 rcases hce with hce | hce
 ·unfold Zbg at hce
  split at hce; rotate_left; cases hce
  obtain rfl := Option.some.inj hce
  rename_i r1 x1 x2 b1
  refine obh hob fun r hF => ?_
  clear hob hce
  simp only [List.length_cons, List.length_nil, Nat.zero_add, Nat.reduceAdd] at hk
  have hr : Z3k r1 x1 x2 b1 = some r := by rw [lock_eq] at hF; exact hF
  unfold Z3k at hr
  constructor
  (try cbv)
  refine LoopOK.iter T (drawOK T hm) hr (fun | i1 => ⟨mkFr [(0, (.rsl (.row 72 (.row 75 (.st [(.int .u64), (.int .i64), (.int .i64)])) r1))), (1, (.fn 87 [(.ptr 0 0)])), (7, (.v (.int .i64 (lock ofN (lock (@xlen D) r1))))), (8, (.v (.int .i64 i1)))] 19 0, [(0, .blk 67 [(.v (.int .u64 x1)), .nsl, (.v (.int .i64 x2)), (.v (.bool b1)), .nsl, .nsl])], 1⟩) ?_ ?_
  ·exact cl2ec4c
  clear hr
  intro x bb1 hr ht1
  obtain ⟨i1, hz⟩ : ∃ z, z = x := ⟨x, rfl⟩
  subst hz
  as_aux_lemma =>
  constructor
  unfold Z89 at hr
  (try dsimp only at hr)
  (try cbv)
  refine Z2 hr ?_ ?_ <;> intro h1 hr
  ·(try cbv)
   refine Z3 hr fun hr => ?_
   refine cal hr (by rintro (_) _ <;> cbv) ?_
   rintro c3 hx3 hr
   (try dsimp only at hr); constructor; (try cbv)
   refine Z2 hr ?_ ?_ <;> intro h1 hr
   ·(try cbv)
    apply Hidden.out
    exact clb5cb2
   (try cbv)
   apply Hidden.out
   exact clba30f
  (try cbv)
  apply Hidden.out
  exact clb5cb2
 unfold Zbh at hce
 split at hce; rotate_left; cases hce
 obtain rfl := Option.some.inj hce
 rename_i r1 x1 l1 x2 b1 l2 r2
 refine obh hob fun r hF => ?_
 clear hob hce
 simp only [List.length_cons, List.length_nil, Nat.zero_add, Nat.reduceAdd] at hk
 have hr : Z4k r1 x1 l1 x2 b1 l2 r2 = some r := by rw [lock_eq] at hF; exact hF
 unfold Z4k at hr
 constructor
 (try cbv)
 refine LoopOK.iter T (drawOK T hm) hr (fun | i1 => ⟨mkFr [(0, (.rsl (.row 72 (.row 75 (.st [(.int .u64), (.int .i64), (.int .i64)])) r1))), (1, (.fn 87 [(.ptr 0 0)])), (7, (.v (.int .i64 (lock ofN (lock (@xlen D) r1))))), (8, (.v (.int .i64 i1)))] 19 0, [(0, .blk 67 [(.v (.int .u64 x1)), (.rsl (.ints 46 .u64 l1)), (.v (.int .i64 x2)), (.v (.bool b1)), (.rsl (.ints 46 .u64 l2)), (.rsl (.row 72 (.row 75 (.st [(.int .u64), (.int .i64), (.int .i64)])) r2))])], 1⟩) ?_ ?_
 ·exact cl2ec4c
 clear hr
 intro x bb1 hr ht1
 obtain ⟨i1, hz⟩ : ∃ z, z = x := ⟨x, rfl⟩
 subst hz
 as_aux_lemma =>
 constructor
 unfold Z2f at hr
 (try dsimp only at hr)
 (try cbv)
 refine Z2 hr ?_ ?_ <;> intro h1 hr
 ·(try cbv)
  refine Z3 hr fun hr => ?_
  refine cal hr (by rintro (_) _ <;> cbv) ?_
  rintro c3 hx3 hr
  (try dsimp only at hr); constructor; (try cbv)
  refine Z2 hr ?_ ?_ <;> intro h1 hr
  ·(try cbv)
   apply Hidden.out
   exact clb5cb2
  (try cbv)
  apply Hidden.out
  exact clba30f
 (try cbv)
 apply Hidden.out
 exact clb5cb2
noncomputable def Zf4 : Nat → Option Con := look [(100, Zbf)]
set_option maxHeartbeats 20000000 in
set_option maxRecDepth 100000 in
theorem Zy5 (P : Program) (T : Tab P Zf4) (hm : P.follows .mixedOrders = true) : FnVC P Zf4 Zis [.t 4] 9 Zb7 := by
 intro cargs ccks ce hce hob C hk
 apply Hidden.out
 replace hce : altC (Zb8 cargs ccks) (Zb9 cargs ccks) = some ce := hce
 replace hce := Zl hce
 rcases hce with hce | hce
 ·unfold Zb8 at hce
  split at hce; rotate_left; cases hce
  obtain rfl := Option.some.inj hce
  rename_i r1 x1 x2 b1
  refine obh hob fun r hF => ?_
  clear hob hce
  simp only [List.length_cons, List.length_nil, Nat.zero_add, Nat.reduceAdd] at hk
  have hr : Z4i r1 x1 x2 b1 = some r := by rw [lock_eq] at hF; exact hF
  unfold Z4i at hr
  constructor
  (try cbv)
  refine cal hr (by rintro (_) _ <;> cbv) ?_
  rintro y1 hx1 hr
  (try dsimp only at hr); constructor; (try cbv)
  apply Hidden.out
  exact clacd82
 unfold Zb9 at hce
 split at hce; rotate_left; cases hce
 obtain rfl := Option.some.inj hce
 rename_i r1 x1 l1 x2 b1 l2 r2
 refine obh hob fun r hF => ?_
 clear hob hce
 simp only [List.length_cons, List.length_nil, Nat.zero_add, Nat.reduceAdd] at hk
 have hr : Z3i r1 x1 l1 x2 b1 l2 r2 = some r := by rw [lock_eq] at hF; exact hF
 unfold Z3i at hr
 constructor
 (try cbv)
 refine cal hr (by rintro (_) _ <;> cbv) ?_
 rintro y1 hx1 hr
 (try dsimp only at hr); constructor; (try cbv)
 apply Hidden.out
 exact clacd82
noncomputable def Zf9 : Nat → Option Con := look [(86, Zb7)]
set_option maxHeartbeats 20000000 in
set_option maxRecDepth 100000 in
theorem Zya (P : Program) (T : Tab P Zf9) (hm : P.follows .mixedOrders = true) : FnVC P Zf9 Zi8 [.t 2] 43 Zbk := by
 intro cargs ccks ce hce hob C hk
 apply Hidden.out
 replace hce : altC (Zbo cargs ccks) (Zbp cargs ccks) = some ce := hce
 replace hce := Zl hce
 rcases hce with hce | hce
 ·unfold Zbo at hce
  split at hce; rotate_left; cases hce
  obtain rfl := Option.some.inj hce
  rename_i x1 x2 b1
  refine obh hob fun r hF => ?_
  clear hob hce
  simp only [List.length_cons, List.length_nil, Nat.zero_add, Nat.reduceAdd] at hk
  have hr : Z3l x1 x2 b1 = some r := by rw [lock_eq] at hF; exact hF
  unfold Z3l at hr
  constructor
  (try cbv)
  refine Z2 hr ?_ ?_ <;> intro h1 hr
  ·(try cbv)
   apply Hidden.out
   exact clacd82
  (try cbv)
  refine Zd hr ?_ ?_ <;> intro h1 hr
  ·(try cbv)
   apply Hidden.out
   exact clacd82
  (try cbv)
  refine Zd hr ?_ ?_ <;> intro h1 hr
  ·(try cbv)
   cases hr
  (try cbv)
  refine Z2 hr ?_ ?_ <;> intro h1 hr
  ·(try cbv)
   apply Hidden.out
   exact clacd82
  (try cbv)
  refine Z2 hr ?_ ?_ <;> intro h1 hr
  ·(try cbv)
   apply Hidden.out
   exact clacd82
  (try cbv)
  refine cal hr (by rintro (_) _ <;> cbv) ?_
  rintro c1 hx1 hr
  (try dsimp only at hr); constructor; (try cbv)
  apply Hidden.out
  exact clacd82
 unfold Zbp at hce
 split at hce; rotate_left; cases hce
 obtain rfl := Option.some.inj hce
 rename_i x1 l1 x2 b1 l2 r1
 refine obh hob fun r hF => ?_
 clear hob hce
 simp only [List.length_cons, List.length_nil, Nat.zero_add, Nat.reduceAdd] at hk
 have hr : Z3n x1 l1 x2 b1 l2 r1 = some r := by rw [lock_eq] at hF; exact hF
 unfold Z3n at hr
 constructor
 (try cbv)
 refine Z2 hr ?_ ?_ <;> intro h1 hr
 ·(try cbv)
  apply Hidden.out
  exact clacd82
 (try cbv)
 refine Zd hr ?_ ?_ <;> intro h1 hr
 ·(try cbv)
  apply Hidden.out
  exact clacd82
 (try cbv)
 refine Zd hr ?_ ?_ <;> intro h1 hr
 ·(try cbv)
  apply Hidden.out
  exact clacd82
 (try cbv)
 refine Z2 hr ?_ ?_ <;> intro h1 hr
 ·(try cbv)
  apply Hidden.out
  exact clacd82
 (try cbv)
 refine Z2 hr ?_ ?_ <;> intro h1 hr
 ·(try cbv)
  apply Hidden.out
  exact clacd82
 (try cbv)
 refine cal hr (by rintro (_) _ <;> cbv) ?_
 rintro c1 hx1 hr
 (try dsimp only at hr); constructor; (try cbv)
 apply Hidden.out
 exact clacd82
end Go.Proofs.Ytojbpjcfdjakkaa
end
