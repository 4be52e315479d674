/-
  Texts that the row of this claim stands on, one behind the other.
-/
import Derived.Test.YtcdjpciocamkiaaProg
import Derived.Test.YtcdjpciocamkiaaKBlockTears1
import Derived.Test.YtcdjpciocamkiaaKBlockTears2
import Derived.Test.YtcdjpciocamkiaaKBlockTears3
section
/-
  The functions of this seat, made short (printed by a program of ours).
-/
set_option linter.unusedVariables false
set_option maxRecDepth 20000
namespace Go.Proofs.Ytcdjpciocamkiaa
open Go.RowKit

/-- tollbar/tollbarlaw31.BlockDoes -/
def ic_3 : IC := (.seq (.reg false [⟨some 4, none, [], .mv (.k (.v (.bool false)))⟩])
 (.seq (.reg false [⟨some 22, none, [], .call 6 []⟩,
  ⟨some 5, none, [], .mv (.t 22)⟩])
 (.seq (.seq (.reg false [⟨some 23, none, [], .mv (.t 5)⟩,
  ⟨some 24, none, [], .bnot (.t 23)⟩])
 (.cond (.t 24)
 (.seq (.reg false [⟨some 4, none, [], .mv (.k (.v (.bool false)))⟩])
 .ret)
 .skip))
 (.seq (.seq (.reg false [⟨some 25, none, [], .mv (.t 1)⟩,
  ⟨some 26, none, [], .len false (.t 25)⟩,
  ⟨some 27, none, [], .ib .gt .i64 (.t 26) (.k (.v (.int .i64 100)))⟩])
 (.cond (.t 27)
 (.seq (.reg false [⟨some 4, none, [], .mv (.k (.v (.bool true)))⟩])
 .ret)
 .skip))
 (.seq (.reg false [⟨some 28, none, [], .mv (.t 0)⟩,
  ⟨some 29, none, [], .conv .i64 (.t 28)⟩,
  ⟨some 6, none, [], .mv (.t 29)⟩])
 (.seq (.reg false [⟨some 30, none, [], .mv (.t 6)⟩,
  ⟨some 31, none, [], .call 7 [(.t 30)]⟩,
  ⟨some 7, none, [], .mv (.t 31)⟩])
 (.seq (.seq (.reg false [⟨some 32, none, [], .mv (.t 6)⟩,
  ⟨some 33, none, [], .ib .eq .i64 (.t 32) (.k (.v (.int .i64 0)))⟩])
 (.cond (.t 33)
 (.seq (.reg false [⟨some 34, none, [], .mv (.t 7)⟩,
  ⟨some 35, none, [], .isn 0 false (.t 34)⟩,
  ⟨some 36, none, [], .mv (.t 35)⟩,
  ⟨some 37, some (36, true), [], .mv (.t 7)⟩,
  ⟨some 38, some (36, true), [], .call 8 [(.t 37), (.k (.v (.int .i64 0))), (.k .nsl)]⟩,
  ⟨some 39, some (36, true), [], .ib .eq .i64 (.t 38) (.k (.v (.int .i64 1)))⟩,
  ⟨some 40, none, [], .pick (.t 36) (.t 39) (.k (.v (.bool false)))⟩,
  ⟨some 41, none, [], .mv (.t 40)⟩,
  ⟨some 42, some (41, true), [], .mv (.t 7)⟩,
  ⟨some 43, some (41, true), [], .call 9 [(.t 42), (.k (.v (.int .i64 0))), (.k (.v (.int .i64 0)))]⟩,
  ⟨some 44, some (41, true), [], .ib .eq .i64 (.t 43) (.k (.v (.int .i64 1)))⟩,
  ⟨some 45, none, [], .pick (.t 41) (.t 44) (.k (.v (.bool false)))⟩,
  ⟨some 46, none, [], .mv (.t 45)⟩,
  ⟨some 47, some (46, true), [], .mv (.t 7)⟩,
  ⟨some 48, some (46, true), [], .call 10 [(.t 47)]⟩,
  ⟨some 49, some (46, true), [], .bnot (.t 48)⟩,
  ⟨some 50, none, [], .pick (.t 46) (.t 49) (.k (.v (.bool false)))⟩,
  ⟨some 51, none, [], .mv (.t 50)⟩,
  ⟨some 52, some (51, true), [], .mv (.t 7)⟩,
  ⟨some 53, some (51, true), [], .call 11 [(.t 52)]⟩,
  ⟨some 54, some (51, true), [], .mv (.t 7)⟩,
  ⟨some 55, some (51, true), [], .call 12 [(.t 54)]⟩,
  ⟨some 56, some (51, true), [], .ib .add .i64 (.t 53) (.t 55)⟩,
  ⟨some 57, some (51, true), [], .ib .eq .i64 (.t 56) (.k (.v (.int .i64 0)))⟩,
  ⟨some 58, none, [], .pick (.t 51) (.t 57) (.k (.v (.bool false)))⟩,
  ⟨some 59, none, [], .mv (.t 58)⟩,
  ⟨some 60, some (59, true), [], .call 7 [(.k (.v (.int .i64 1025)))]⟩,
  ⟨some 61, some (59, true), [], .isn 0 false (.t 60)⟩,
  ⟨some 62, none, [], .pick (.t 59) (.t 61) (.k (.v (.bool false)))⟩,
  ⟨some 4, none, [], .mv (.t 62)⟩])
 .ret)
 .skip))
 (.seq (.reg false [⟨some 63, none, [], .mv (.t 6)⟩,
  ⟨some 64, none, [], .call 13 [(.t 63)]⟩,
  ⟨some 8, none, [], .new 32 [.nsl, (.v (.bool false)), (.v (.int .i64 0)), (.v (.int .i64 0)), (.v (.int .i64 0))]⟩,
  ⟨none, none, [], .st (.t 8) (.t 64) 5⟩])
 (.seq (.seq (.reg false [⟨some 9, none, [], .mv (.k (.v (.int .i64 0)))⟩])
 (.block 0
 (.loop
 (.seq (.seq (.reg false [⟨some 65, none, [], .mv (.t 9)⟩,
  ⟨some 66, none, [], .mv (.t 1)⟩,
  ⟨some 67, none, [], .len false (.t 66)⟩,
  ⟨some 68, none, [], .ib .lt .i64 (.t 65) (.t 67)⟩])
 (.cond (.t 68)
 .skip
 (.exit 0)))
 (.seq (.block 1
 (.seq (.reg false [⟨some 71, none, [], .mv (.t 1)⟩,
  ⟨some 72, none, [], .mv (.t 9)⟩,
  ⟨some 73, none, [], .idx (.t 71) (.t 72) 4⟩,
  ⟨some 74, none, [], .lda (.t 73) 4⟩,
  ⟨some 10, none, [], .new 35 [(.v (.int .i64 0)), (.v (.int .i64 0)), (.v (.int .i64 0)), (.str [])]⟩,
  ⟨none, none, [], .st (.t 10) (.t 74) 4⟩])
 (.seq (.seq (.reg false [⟨some 75, none, [], .fld (.t 10) 3⟩,
  ⟨some 76, none, [], .ld (.t 75)⟩,
  ⟨some 77, none, [], .len true (.t 76)⟩,
  ⟨some 78, none, [], .ib .gt .i64 (.t 77) (.k (.v (.int .i64 100)))⟩])
 (.cond (.t 78)
 (.seq (.reg false [⟨some 4, none, [], .mv (.k (.v (.bool true)))⟩])
 .ret)
 .skip))
 (.seq (.seq (.reg false [⟨some 79, none, [], .fld (.t 10) 0⟩,
  ⟨some 80, none, [], .ld (.t 79)⟩])
 (.block 2
 (.seq (.reg false [⟨some 82, none, [], .ib .eq .i64 (.t 80) (.k (.v (.int .i64 0)))⟩,
  ⟨some 81, none, [], .mv (.t 82)⟩])
 (.cond (.t 81)
 (.seq (.reg false [⟨some 84, none, [], .lda (.t 8) 5⟩,
  ⟨some 85, none, [], .fld (.t 10) 1⟩,
  ⟨some 86, none, [], .ld (.t 85)⟩,
  ⟨some 87, none, [], .fld (.t 10) 3⟩,
  ⟨some 88, none, [], .ld (.t 87)⟩,
  ⟨some 89, none, [], .call 14 [(.t 84), (.t 86), (.t 88)]⟩,
  ⟨some 83, none, [], .mv (.t 89)⟩,
  ⟨some 90, none, [], .ext (.t 83) 0⟩,
  ⟨some 91, none, [], .ext (.t 83) 1⟩,
  ⟨some 11, none, [], .new 32 [.nsl, (.v (.bool false)), (.v (.int .i64 0)), (.v (.int .i64 0)), (.v (.int .i64 0))]⟩,
  ⟨none, none, [], .st (.t 11) (.t 90) 5⟩,
  ⟨some 12, none, [], .mv (.t 91)⟩])
 (.seq (.seq (.reg false [⟨some 92, none, [], .mv (.t 7)⟩,
  ⟨some 93, none, [], .fld (.t 10) 1⟩,
  ⟨some 94, none, [], .ld (.t 93)⟩,
  ⟨some 95, none, [], .fld (.t 10) 3⟩,
  ⟨some 96, none, [], .ld (.t 95)⟩,
  ⟨some 97, none, [], .s2b 5 (.t 96)⟩,
  ⟨some 98, none, [], .call 8 [(.t 92), (.t 94), (.t 97)]⟩,
  ⟨some 99, none, [], .mv (.t 12)⟩,
  ⟨some 100, none, [], .ib .ne .i64 (.t 98) (.t 99)⟩])
 (.cond (.t 100)
 (.seq (.reg false [⟨some 4, none, [], .mv (.k (.v (.bool false)))⟩])
 .ret)
 .skip))
 (.reg false [⟨some 101, none, [], .lda (.t 11) 5⟩,
  ⟨none, none, [], .st (.t 8) (.t 101) 5⟩])))
 (.seq (.reg false [⟨some 103, none, [], .ib .eq .i64 (.t 80) (.k (.v (.int .i64 1)))⟩,
  ⟨some 102, none, [], .mv (.t 103)⟩])
 (.cond (.t 102)
 (.seq (.reg false [⟨some 105, none, [], .mv (.t 7)⟩,
  ⟨some 106, none, [], .fld (.t 10) 1⟩,
  ⟨some 107, none, [], .ld (.t 106)⟩,
  ⟨some 108, none, [], .call 15 [(.t 105), (.t 107)]⟩,
  ⟨some 104, none, [], .mv (.t 108)⟩,
  ⟨some 109, none, [], .ext (.t 104) 0⟩,
  ⟨some 110, none, [], .ext (.t 104) 1⟩,
  ⟨some 13, none, [], .mv (.t 109)⟩,
  ⟨some 14, none, [], .mv (.t 110)⟩])
 (.seq (.reg false [⟨some 112, none, [], .lda (.t 8) 5⟩,
  ⟨some 113, none, [], .fld (.t 10) 1⟩,
  ⟨some 114, none, [], .ld (.t 113)⟩,
  ⟨some 115, none, [], .call 16 [(.t 112), (.t 114)]⟩,
  ⟨some 111, none, [], .mv (.t 115)⟩,
  ⟨some 116, none, [], .ext (.t 111) 0⟩,
  ⟨some 117, none, [], .ext (.t 111) 1⟩,
  ⟨some 15, none, [], .mv (.t 116)⟩,
  ⟨some 16, none, [], .mv (.t 117)⟩])
 (.seq (.reg false [⟨some 118, none, [], .mv (.t 13)⟩,
  ⟨some 119, none, [], .b2s (.t 118)⟩,
  ⟨some 120, none, [], .mv (.t 15)⟩,
  ⟨some 121, none, [], .sb .ne (.t 119) (.t 120)⟩,
  ⟨some 122, none, [], .mv (.t 121)⟩,
  ⟨some 123, some (122, false), [], .mv (.t 14)⟩,
  ⟨some 124, some (122, false), [], .mv (.t 16)⟩,
  ⟨some 125, some (122, false), [], .ib .ne .i64 (.t 123) (.t 124)⟩,
  ⟨some 126, none, [], .pick (.t 122) (.k (.v (.bool true))) (.t 125)⟩])
 (.cond (.t 126)
 (.seq (.reg false [⟨some 4, none, [], .mv (.k (.v (.bool false)))⟩])
 .ret)
 .skip))))
 (.seq (.reg false [⟨some 128, none, [], .ib .eq .i64 (.t 80) (.k (.v (.int .i64 2)))⟩,
  ⟨some 127, none, [], .mv (.t 128)⟩])
 (.cond (.t 127)
 (.seq (.reg false [⟨some 130, none, [], .lda (.t 8) 5⟩,
  ⟨some 131, none, [], .fld (.t 10) 1⟩,
  ⟨some 132, none, [], .ld (.t 131)⟩,
  ⟨some 133, none, [], .fld (.t 10) 2⟩,
  ⟨some 134, none, [], .ld (.t 133)⟩,
  ⟨some 135, none, [], .call 17 [(.t 130), (.t 132), (.t 134)]⟩,
  ⟨some 129, none, [], .mv (.t 135)⟩,
  ⟨some 136, none, [], .ext (.t 129) 0⟩,
  ⟨some 137, none, [], .ext (.t 129) 1⟩,
  ⟨some 17, none, [], .new 32 [.nsl, (.v (.bool false)), (.v (.int .i64 0)), (.v (.int .i64 0)), (.v (.int .i64 0))]⟩,
  ⟨none, none, [], .st (.t 17) (.t 136) 5⟩,
  ⟨some 18, none, [], .mv (.t 137)⟩])
 (.seq (.seq (.reg false [⟨some 138, none, [], .mv (.t 7)⟩,
  ⟨some 139, none, [], .fld (.t 10) 1⟩,
  ⟨some 140, none, [], .ld (.t 139)⟩,
  ⟨some 141, none, [], .fld (.t 10) 2⟩,
  ⟨some 142, none, [], .ld (.t 141)⟩,
  ⟨some 143, none, [], .call 9 [(.t 138), (.t 140), (.t 142)]⟩,
  ⟨some 144, none, [], .mv (.t 18)⟩,
  ⟨some 145, none, [], .ib .ne .i64 (.t 143) (.t 144)⟩])
 (.cond (.t 145)
 (.seq (.reg false [⟨some 4, none, [], .mv (.k (.v (.bool false)))⟩])
 .ret)
 .skip))
 (.reg false [⟨some 146, none, [], .lda (.t 17) 5⟩,
  ⟨none, none, [], .st (.t 8) (.t 146) 5⟩])))
 (.seq (.reg false [⟨some 148, none, [], .ib .eq .i64 (.t 80) (.k (.v (.int .i64 3)))⟩,
  ⟨some 147, none, [], .mv (.t 148)⟩])
 (.cond (.t 147)
 (.seq (.reg false [⟨some 149, none, [], .mv (.t 7)⟩,
  ⟨some 150, none, [], .call 18 [(.t 149)]⟩])
 (.reg false [⟨some 151, none, [], .lda (.t 8) 5⟩,
  ⟨some 152, none, [], .call 19 [(.t 151)]⟩,
  ⟨none, none, [], .st (.t 8) (.t 152) 5⟩]))
 .skip))))))))))
 (.seq (.reg true [⟨some 153, none, [], .mv (.t 7)⟩,
  ⟨some 154, none, [0], .call 10 [(.t 153)]⟩,
  ⟨some 155, none, [], .fld (.t 8) 1⟩,
  ⟨some 156, none, [2], .ld (.t 155)⟩,
  ⟨some 157, none, [1, 0, 3, 2], .bb true (.t 154) (.t 156)⟩,
  ⟨some 158, none, [4, 1, 0, 3, 2], .mv (.t 157)⟩,
  ⟨some 159, some (158, false), [5, 4, 1, 0, 3, 2], .mv (.t 7)⟩,
  ⟨some 160, some (158, false), [6, 5, 4, 1, 0, 3, 2], .call 11 [(.t 159)]⟩,
  ⟨some 161, some (158, false), [5, 4, 1, 0, 3, 2], .fld (.t 8) 4⟩,
  ⟨some 162, some (158, false), [8, 5, 4, 1, 0, 3, 2], .ld (.t 161)⟩,
  ⟨some 163, some (158, false), [7, 6, 5, 4, 1, 0, 3, 2, 9, 8], .ib .ne .i64 (.t 160) (.t 162)⟩,
  ⟨some 164, none, [5, 4, 1, 0, 3, 2, 10, 7, 6, 9, 8], .pick (.t 158) (.k (.v (.bool true))) (.t 163)⟩])
 (.cond (.t 164)
 (.seq (.reg false [⟨some 4, none, [], .mv (.k (.v (.bool false)))⟩])
 .ret)
 .skip))))))
 (.reg false [⟨some 69, none, [], .mv (.t 9)⟩,
  ⟨some 70, none, [], .ib .add .i64 (.t 69) (.k (.v (.int .i64 1)))⟩,
  ⟨some 9, none, [], .mv (.t 70)⟩]))))))
 (.seq (.reg false [⟨some 165, none, [], .mv (.t 7)⟩,
  ⟨some 166, none, [], .call 18 [(.t 165)]⟩])
 (.seq (.seq (.reg false [⟨some 19, none, [], .mv (.k (.v (.int .i64 0)))⟩])
 (.block 3
 (.loop
 (.seq (.seq (.reg false [⟨some 167, none, [], .mv (.t 19)⟩,
  ⟨some 168, none, [], .mv (.t 6)⟩,
  ⟨some 169, none, [], .ib .lt .i64 (.t 167) (.t 168)⟩])
 (.cond (.t 169)
 .skip
 (.exit 3)))
 (.seq (.block 4
 (.seq (.reg false [⟨some 173, none, [], .mv (.t 7)⟩,
  ⟨some 174, none, [], .mv (.t 19)⟩,
  ⟨some 175, none, [], .call 15 [(.t 173), (.t 174)]⟩,
  ⟨some 172, none, [], .mv (.t 175)⟩,
  ⟨some 176, none, [], .ext (.t 172) 0⟩,
  ⟨some 177, none, [], .ext (.t 172) 1⟩,
  ⟨some 20, none, [], .mv (.t 176)⟩,
  ⟨some 21, none, [], .mv (.t 177)⟩])
 (.seq (.reg true [⟨some 178, none, [], .mv (.t 21)⟩,
  ⟨some 179, none, [0], .ib .ne .i64 (.t 178) (.k (.v (.int .i64 0)))⟩,
  ⟨some 180, none, [1, 0], .mv (.t 179)⟩,
  ⟨some 181, some (180, false), [2, 1, 0], .mv (.t 20)⟩,
  ⟨some 182, some (180, false), [3, 2, 1, 0], .b2s (.t 181)⟩,
  ⟨some 183, some (180, false), [2, 1, 0], .fld (.t 8) 0⟩,
  ⟨some 184, some (180, false), [5, 2, 1, 0], .ld (.t 183)⟩,
  ⟨some 185, some (180, false), [2, 1, 0], .mv (.t 19)⟩,
  ⟨some 186, some (180, false), [6, 5, 2, 1, 0, 7], .idx (.t 184) (.t 185) 1⟩,
  ⟨some 187, some (180, false), [8, 6, 5, 2, 1, 0, 7], .ld (.t 186)⟩,
  ⟨some 188, some (180, false), [4, 3, 2, 1, 0, 9, 8, 6, 5, 7], .sb .ne (.t 182) (.t 187)⟩,
  ⟨some 189, none, [2, 1, 0, 10, 4, 3, 9, 8, 6, 5, 7], .pick (.t 180) (.k (.v (.bool true))) (.t 188)⟩])
 (.cond (.t 189)
 (.seq (.reg false [⟨some 4, none, [], .mv (.k (.v (.bool false)))⟩])
 .ret)
 .skip))))
 (.reg false [⟨some 170, none, [], .mv (.t 19)⟩,
  ⟨some 171, none, [], .ib .add .i64 (.t 170) (.k (.v (.int .i64 1)))⟩,
  ⟨some 19, none, [], .mv (.t 171)⟩]))))))
 (.seq (.reg false [⟨some 4, none, [], .mv (.k (.v (.bool true)))⟩])
 .ret))))))))))))
theorem comp_3 : compF Try.prog Try.f3 = some (ic_3, [.t 4], 190) := by kernel_rfl
-- ros 3 [none, (some (.row 35 (.st [(.int .i64), (.int .i64), (.int .i64), .str])))] TYS [(.int .u8), (.row 35 (.st [(.int .i64), (.int .i64), (.int .i64), .str]))]

/-- tollbar/tollbarlaw31.BlockTears -/
def ic_4 : IC := (.seq (.reg false [⟨some 6, none, [], .mv (.k (.v (.bool false)))⟩])
 (.seq (.reg false [⟨some 21, none, [], .call 6 []⟩,
  ⟨some 7, none, [], .mv (.t 21)⟩])
 (.seq (.seq (.reg false [⟨some 22, none, [], .mv (.t 7)⟩,
  ⟨some 23, none, [], .bnot (.t 22)⟩])
 (.cond (.t 23)
 (.seq (.reg false [⟨some 6, none, [], .mv (.k (.v (.bool false)))⟩])
 .ret)
 .skip))
 (.seq (.seq (.reg false [⟨some 24, none, [], .mv (.t 0)⟩,
  ⟨some 25, none, [], .len false (.t 24)⟩,
  ⟨some 26, none, [], .ib .gt .i64 (.t 25) (.k (.v (.int .i64 40)))⟩,
  ⟨some 27, none, [], .mv (.t 26)⟩,
  ⟨some 28, some (27, false), [], .mv (.t 1)⟩,
  ⟨some 29, some (27, false), [], .len false (.t 28)⟩,
  ⟨some 30, some (27, false), [], .ib .gt .i64 (.t 29) (.k (.v (.int .i64 40)))⟩,
  ⟨some 31, none, [], .pick (.t 27) (.k (.v (.bool true))) (.t 30)⟩])
 (.cond (.t 31)
 (.seq (.reg false [⟨some 6, none, [], .mv (.k (.v (.bool true)))⟩])
 .ret)
 .skip))
 (.seq (.reg false [⟨some 32, none, [], .call 7 [(.k (.v (.int .i64 40)))]⟩,
  ⟨some 8, none, [], .mv (.t 32)⟩])
 (.seq (.seq (.reg false [⟨some 9, none, [], .mv (.k (.v (.int .i64 0)))⟩])
 (.block 0
 (.loop
 (.seq (.seq (.reg false [⟨some 33, none, [], .mv (.t 9)⟩,
  ⟨some 34, none, [], .mv (.t 0)⟩,
  ⟨some 35, none, [], .len false (.t 34)⟩,
  ⟨some 36, none, [], .ib .lt .i64 (.t 33) (.t 35)⟩])
 (.cond (.t 36)
 .skip
 (.exit 0)))
 (.seq (.block 1
 (.seq (.reg false [⟨some 39, none, [], .mv (.t 8)⟩,
  ⟨some 40, none, [], .mv (.t 9)⟩,
  ⟨some 41, none, [], .mv (.t 0)⟩,
  ⟨some 42, none, [], .mv (.t 9)⟩,
  ⟨some 43, none, [], .idx (.t 41) (.t 42) 1⟩,
  ⟨some 44, none, [], .ld (.t 43)⟩,
  ⟨some 45, none, [], .call 20 [(.t 44)]⟩,
  ⟨some 46, none, [], .call 8 [(.t 39), (.t 40), (.t 45)]⟩,
  ⟨some 47, none, [], .ib .ne .i64 (.t 46) (.k (.v (.int .i64 0)))⟩])
 (.cond (.t 47)
 (.seq (.reg false [⟨some 6, none, [], .mv (.k (.v (.bool false)))⟩])
 .ret)
 .skip)))
 (.reg false [⟨some 37, none, [], .mv (.t 9)⟩,
  ⟨some 38, none, [], .ib .add .i64 (.t 37) (.k (.v (.int .i64 1)))⟩,
  ⟨some 9, none, [], .mv (.t 38)⟩]))))))
 (.seq (.reg false [⟨some 48, none, [], .mv (.t 2)⟩,
  ⟨some 49, none, [], .ib .quo .u16 (.t 48) (.k (.v (.int .u16 256)))⟩,
  ⟨some 50, none, [], .conv .i64 (.t 49)⟩,
  ⟨some 51, none, [], .ib .rem .i64 (.t 50) (.k (.v (.int .i64 65)))⟩,
  ⟨some 10, none, [], .mv (.t 51)⟩])
 (.seq (.reg false [⟨some 52, none, [], .mv (.t 2)⟩,
  ⟨some 53, none, [], .ib .rem .u16 (.t 52) (.k (.v (.int .u16 256)))⟩,
  ⟨some 54, none, [], .conv .i64 (.t 53)⟩,
  ⟨some 11, none, [], .mv (.t 54)⟩])
 (.seq (.reg false [⟨some 55, none, [], .mv (.t 8)⟩,
  ⟨some 56, none, [], .mv (.t 11)⟩,
  ⟨some 57, none, [], .mv (.t 10)⟩,
  ⟨some 58, none, [], .call 9 [(.t 55), (.t 56), (.t 57)]⟩])
 (.seq (.seq (.reg false [⟨some 12, none, [], .mv (.k (.v (.int .i64 0)))⟩])
 (.block 2
 (.loop
 (.seq (.seq (.reg false [⟨some 59, none, [], .mv (.t 12)⟩,
  ⟨some 60, none, [], .mv (.t 1)⟩,
  ⟨some 61, none, [], .len false (.t 60)⟩,
  ⟨some 62, none, [], .ib .lt .i64 (.t 59) (.t 61)⟩])
 (.cond (.t 62)
 .skip
 (.exit 2)))
 (.seq (.block 3
 (.seq (.reg false [⟨some 65, none, [], .mv (.t 8)⟩,
  ⟨some 66, none, [], .mv (.t 12)⟩,
  ⟨some 67, none, [], .mv (.t 1)⟩,
  ⟨some 68, none, [], .mv (.t 12)⟩,
  ⟨some 69, none, [], .idx (.t 67) (.t 68) 1⟩,
  ⟨some 70, none, [], .ld (.t 69)⟩,
  ⟨some 71, none, [], .call 20 [(.t 70)]⟩,
  ⟨some 72, none, [], .call 8 [(.t 65), (.t 66), (.t 71)]⟩,
  ⟨some 13, none, [], .mv (.t 72)⟩])
 (.seq (.reg false [⟨some 73, none, [], .mv (.t 13)⟩,
  ⟨some 74, none, [], .ib .eq .i64 (.t 73) (.k (.v (.int .i64 0)))⟩,
  ⟨some 75, none, [], .mv (.t 12)⟩,
  ⟨some 76, none, [], .mv (.t 11)⟩,
  ⟨some 77, none, [], .ib .lt .i64 (.t 75) (.t 76)⟩,
  ⟨some 78, none, [], .bb true (.t 74) (.t 77)⟩,
  ⟨some 79, none, [], .mv (.t 78)⟩,
  ⟨some 80, some (79, false), [], .mv (.t 13)⟩,
  ⟨some 81, some (79, false), [], .ib .ne .i64 (.t 80) (.k (.v (.int .i64 0)))⟩,
  ⟨some 82, some (79, false), [], .mv (.t 81)⟩,
  ⟨some 83, some (82, true), [], .mv (.t 13)⟩,
  ⟨some 84, some (82, true), [], .ib .ne .i64 (.t 83) (.k (.v (.int .i64 3)))⟩,
  ⟨some 85, some (79, false), [], .pick (.t 82) (.t 84) (.k (.v (.bool false)))⟩,
  ⟨some 86, none, [], .pick (.t 79) (.k (.v (.bool true))) (.t 85)⟩])
 (.cond (.t 86)
 (.seq (.reg false [⟨some 6, none, [], .mv (.k (.v (.bool false)))⟩])
 .ret)
 .skip))))
 (.reg false [⟨some 63, none, [], .mv (.t 12)⟩,
  ⟨some 64, none, [], .ib .add .i64 (.t 63) (.k (.v (.int .i64 1)))⟩,
  ⟨some 12, none, [], .mv (.t 64)⟩]))))))
 (.seq (.seq (.reg false [⟨some 87, none, [], .mv (.t 8)⟩,
  ⟨some 88, none, [], .call 10 [(.t 87)]⟩,
  ⟨some 89, none, [], .mv (.t 11)⟩,
  ⟨some 90, none, [], .mv (.t 1)⟩,
  ⟨some 91, none, [], .len false (.t 90)⟩,
  ⟨some 92, none, [], .ib .lt .i64 (.t 89) (.t 91)⟩,
  ⟨some 93, none, [], .bb true (.t 88) (.t 92)⟩])
 (.cond (.t 93)
 (.seq (.reg false [⟨some 6, none, [], .mv (.k (.v (.bool false)))⟩])
 .ret)
 .skip))
 (.seq (.reg false [⟨some 94, none, [], .mv (.t 8)⟩,
  ⟨some 95, none, [], .call 18 [(.t 94)]⟩])
 (.seq (.seq (.reg false [⟨some 14, none, [], .mv (.k (.v (.int .i64 0)))⟩])
 (.block 4
 (.loop
 (.seq (.seq (.reg false [⟨some 96, none, [], .mv (.t 14)⟩,
  ⟨some 97, none, [], .ib .lt .i64 (.t 96) (.k (.v (.int .i64 40)))⟩])
 (.cond (.t 97)
 .skip
 (.exit 4)))
 (.seq (.block 5
 (.seq (.reg false [⟨some 101, none, [], .mv (.t 8)⟩,
  ⟨some 102, none, [], .mv (.t 14)⟩,
  ⟨some 103, none, [], .call 15 [(.t 101), (.t 102)]⟩,
  ⟨some 100, none, [], .mv (.t 103)⟩,
  ⟨some 104, none, [], .ext (.t 100) 0⟩,
  ⟨some 105, none, [], .ext (.t 100) 1⟩,
  ⟨some 15, none, [], .mv (.t 104)⟩,
  ⟨some 16, none, [], .mv (.t 105)⟩])
 (.seq (.seq (.reg false [⟨some 106, none, [], .mv (.t 16)⟩,
  ⟨some 107, none, [], .ib .ne .i64 (.t 106) (.k (.v (.int .i64 0)))⟩,
  ⟨some 108, none, [], .mv (.t 107)⟩,
  ⟨some 109, some (108, false), [], .mv (.t 15)⟩,
  ⟨some 110, some (108, false), [], .len false (.t 109)⟩,
  ⟨some 111, some (108, false), [], .ib .ne .i64 (.t 110) (.k (.v (.int .i64 64)))⟩,
  ⟨some 112, none, [], .pick (.t 108) (.k (.v (.bool true))) (.t 111)⟩])
 (.cond (.t 112)
 (.seq (.reg false [⟨some 6, none, [], .mv (.k (.v (.bool false)))⟩])
 .ret)
 .skip))
 (.seq (.seq (.reg false [⟨some 17, none, [], .mv (.k (.v (.int .i64 0)))⟩])
 (.block 6
 (.loop
 (.seq (.seq (.reg false [⟨some 113, none, [], .mv (.t 17)⟩,
  ⟨some 114, none, [], .ib .lt .i64 (.t 113) (.k (.v (.int .i64 64)))⟩])
 (.cond (.t 114)
 .skip
 (.exit 6)))
 (.seq (.block 7
 (.seq (.reg false [⟨some 18, none, [], .mv (.k (.v (.int .u8 0)))⟩])
 (.seq (.seq (.reg false [⟨some 117, none, [], .mv (.t 14)⟩,
  ⟨some 118, none, [], .mv (.t 0)⟩,
  ⟨some 119, none, [], .len false (.t 118)⟩,
  ⟨some 120, none, [], .ib .lt .i64 (.t 117) (.t 119)⟩])
 (.cond (.t 120)
 (.reg false [⟨some 121, none, [], .mv (.t 0)⟩,
  ⟨some 122, none, [], .mv (.t 14)⟩,
  ⟨some 123, none, [], .idx (.t 121) (.t 122) 1⟩,
  ⟨some 124, none, [], .ld (.t 123)⟩,
  ⟨some 18, none, [], .mv (.t 124)⟩])
 .skip))
 (.seq (.seq (.reg false [⟨some 125, none, [], .mv (.t 14)⟩,
  ⟨some 126, none, [], .mv (.t 1)⟩,
  ⟨some 127, none, [], .len false (.t 126)⟩,
  ⟨some 128, none, [], .ib .lt .i64 (.t 125) (.t 127)⟩,
  ⟨some 129, none, [], .mv (.t 128)⟩,
  ⟨some 130, some (129, true), [], .mv (.t 14)⟩,
  ⟨some 131, some (129, true), [], .mv (.t 11)⟩,
  ⟨some 132, some (129, true), [], .ib .lt .i64 (.t 130) (.t 131)⟩,
  ⟨some 133, some (129, true), [], .mv (.t 132)⟩,
  ⟨some 134, some (133, false), [], .mv (.t 14)⟩,
  ⟨some 135, some (133, false), [], .mv (.t 11)⟩,
  ⟨some 136, some (133, false), [], .ib .eq .i64 (.t 134) (.t 135)⟩,
  ⟨some 137, some (133, false), [], .mv (.t 136)⟩,
  ⟨some 138, some (137, true), [], .mv (.t 17)⟩,
  ⟨some 139, some (137, true), [], .mv (.t 10)⟩,
  ⟨some 140, some (137, true), [], .ib .lt .i64 (.t 138) (.t 139)⟩,
  ⟨some 141, some (133, false), [], .pick (.t 137) (.t 140) (.k (.v (.bool false)))⟩,
  ⟨some 142, some (129, true), [], .pick (.t 133) (.k (.v (.bool true))) (.t 141)⟩,
  ⟨some 143, none, [], .pick (.t 129) (.t 142) (.k (.v (.bool false)))⟩])
 (.cond (.t 143)
 (.reg false [⟨some 144, none, [], .mv (.t 1)⟩,
  ⟨some 145, none, [], .mv (.t 14)⟩,
  ⟨some 146, none, [], .idx (.t 144) (.t 145) 1⟩,
  ⟨some 147, none, [], .ld (.t 146)⟩,
  ⟨some 18, none, [], .mv (.t 147)⟩])
 .skip))
 (.seq (.seq (.reg false [⟨some 148, none, [], .mv (.t 15)⟩,
  ⟨some 149, none, [], .mv (.t 17)⟩,
  ⟨some 150, none, [], .idx (.t 148) (.t 149) 1⟩,
  ⟨some 151, none, [], .ld (.t 150)⟩,
  ⟨some 152, none, [], .mv (.t 18)⟩,
  ⟨some 153, none, [], .ib .ne .u8 (.t 151) (.t 152)⟩])
 (.cond (.t 153)
 (.seq (.reg false [⟨some 6, none, [], .mv (.k (.v (.bool false)))⟩])
 .ret)
 .skip))
 (.reg false [⟨some 154, none, [], .mv (.t 15)⟩,
  ⟨some 155, none, [], .mv (.t 17)⟩,
  ⟨some 156, none, [], .idx (.t 154) (.t 155) 1⟩,
  ⟨none, none, [], .st (.t 156) (.k (.v (.int .u8 77))) 1⟩]))))))
 (.reg false [⟨some 115, none, [], .mv (.t 17)⟩,
  ⟨some 116, none, [], .ib .add .i64 (.t 115) (.k (.v (.int .i64 1)))⟩,
  ⟨some 17, none, [], .mv (.t 116)⟩]))))))
 (.seq (.reg false [⟨some 158, none, [], .mv (.t 8)⟩,
  ⟨some 159, none, [], .mv (.t 14)⟩,
  ⟨some 160, none, [], .call 15 [(.t 158), (.t 159)]⟩,
  ⟨some 157, none, [], .mv (.t 160)⟩,
  ⟨some 161, none, [], .ext (.t 157) 0⟩,
  ⟨some 162, none, [], .ext (.t 157) 1⟩,
  ⟨some 19, none, [], .mv (.t 161)⟩,
  ⟨some 20, none, [], .mv (.t 162)⟩])
 (.seq (.reg false [⟨some 163, none, [], .mv (.t 19)⟩,
  ⟨some 164, none, [], .len false (.t 163)⟩,
  ⟨some 165, none, [], .ib .ne .i64 (.t 164) (.k (.v (.int .i64 64)))⟩,
  ⟨some 166, none, [], .mv (.t 165)⟩,
  ⟨some 167, some (166, false), [], .mv (.t 19)⟩,
  ⟨some 168, some (166, false), [], .idx (.t 167) (.k (.v (.int .i64 63))) 1⟩,
  ⟨some 169, some (166, false), [], .ld (.t 168)⟩,
  ⟨some 170, some (166, false), [], .ib .eq .u8 (.t 169) (.k (.v (.int .u8 77)))⟩,
  ⟨some 171, some (166, false), [], .mv (.t 170)⟩,
  ⟨some 172, some (171, true), [], .mv (.t 14)⟩,
  ⟨some 173, some (171, true), [], .mv (.t 0)⟩,
  ⟨some 174, some (171, true), [], .len false (.t 173)⟩,
  ⟨some 175, some (171, true), [], .ib .ge .i64 (.t 172) (.t 174)⟩,
  ⟨some 176, some (171, true), [], .mv (.t 175)⟩,
  ⟨some 177, some (176, false), [], .mv (.t 0)⟩,
  ⟨some 178, some (176, false), [], .mv (.t 14)⟩,
  ⟨some 179, some (176, false), [], .idx (.t 177) (.t 178) 1⟩,
  ⟨some 180, some (176, false), [], .ld (.t 179)⟩,
  ⟨some 181, some (176, false), [], .ib .ne .u8 (.t 180) (.k (.v (.int .u8 77)))⟩,
  ⟨some 182, some (171, true), [], .pick (.t 176) (.k (.v (.bool true))) (.t 181)⟩,
  ⟨some 183, some (166, false), [], .pick (.t 171) (.t 182) (.k (.v (.bool false)))⟩,
  ⟨some 184, some (166, false), [], .mv (.t 183)⟩,
  ⟨some 185, some (184, true), [], .mv (.t 14)⟩,
  ⟨some 186, some (184, true), [], .mv (.t 1)⟩,
  ⟨some 187, some (184, true), [], .len false (.t 186)⟩,
  ⟨some 188, some (184, true), [], .ib .ge .i64 (.t 185) (.t 187)⟩,
  ⟨some 189, some (184, true), [], .mv (.t 188)⟩,
  ⟨some 190, some (189, false), [], .mv (.t 1)⟩,
  ⟨some 191, some (189, false), [], .mv (.t 14)⟩,
  ⟨some 192, some (189, false), [], .idx (.t 190) (.t 191) 1⟩,
  ⟨some 193, some (189, false), [], .ld (.t 192)⟩,
  ⟨some 194, some (189, false), [], .ib .ne .u8 (.t 193) (.k (.v (.int .u8 77)))⟩,
  ⟨some 195, some (184, true), [], .pick (.t 189) (.k (.v (.bool true))) (.t 194)⟩,
  ⟨some 196, some (166, false), [], .pick (.t 184) (.t 195) (.k (.v (.bool false)))⟩,
  ⟨some 197, none, [], .pick (.t 166) (.k (.v (.bool true))) (.t 196)⟩])
 (.cond (.t 197)
 (.seq (.reg false [⟨some 6, none, [], .mv (.k (.v (.bool false)))⟩])
 .ret)
 .skip)))))))
 (.reg false [⟨some 98, none, [], .mv (.t 14)⟩,
  ⟨some 99, none, [], .ib .add .i64 (.t 98) (.k (.v (.int .i64 1)))⟩,
  ⟨some 14, none, [], .mv (.t 99)⟩]))))))
 (.seq (.reg false [⟨some 6, none, [], .mv (.k (.v (.bool true)))⟩])
 .ret))))))))))))))
theorem comp_4 : compF Try.prog Try.f4 = some (ic_4, [.t 6], 198) := by kernel_rfl
-- ros 4 [(some (.bs 5)), (some (.bs 5)), none] TYS [(.bytes 5), (.bytes 5), (.int .u16)]

/-- tollbar/tollbarlaw31.BlockOthers -/
def ic_5 : IC := (.seq (.reg false [⟨some 6, none, [], .mv (.k (.v (.bool false)))⟩])
 (.seq (.reg false [⟨some 21, none, [], .call 6 []⟩,
  ⟨some 7, none, [], .mv (.t 21)⟩])
 (.seq (.seq (.reg false [⟨some 22, none, [], .mv (.t 7)⟩,
  ⟨some 23, none, [], .bnot (.t 22)⟩])
 (.cond (.t 23)
 (.seq (.reg false [⟨some 6, none, [], .mv (.k (.v (.bool false)))⟩])
 .ret)
 .skip))
 (.seq (.reg false [⟨some 24, none, [], .mv (.t 0)⟩,
  ⟨some 25, none, [], .len false (.t 24)⟩,
  ⟨some 8, none, [], .mv (.t 25)⟩])
 (.seq (.seq (.reg false [⟨some 26, none, [], .mv (.t 8)⟩,
  ⟨some 27, none, [], .ib .lt .i64 (.t 26) (.k (.v (.int .i64 1)))⟩,
  ⟨some 28, none, [], .mv (.t 27)⟩,
  ⟨some 29, some (28, false), [], .mv (.t 8)⟩,
  ⟨some 30, some (28, false), [], .ib .gt .i64 (.t 29) (.k (.v (.int .i64 60)))⟩,
  ⟨some 31, none, [], .pick (.t 28) (.k (.v (.bool true))) (.t 30)⟩])
 (.cond (.t 31)
 (.seq (.reg false [⟨some 6, none, [], .mv (.k (.v (.bool true)))⟩])
 .ret)
 .skip))
 (.seq (.reg false [⟨some 32, none, [], .mv (.t 8)⟩,
  ⟨some 33, none, [], .call 7 [(.t 32)]⟩,
  ⟨some 9, none, [], .mv (.t 33)⟩])
 (.seq (.seq (.reg false [⟨some 10, none, [], .mv (.k (.v (.int .i64 0)))⟩])
 (.block 0
 (.loop
 (.seq (.seq (.reg false [⟨some 34, none, [], .mv (.t 10)⟩,
  ⟨some 35, none, [], .mv (.t 8)⟩,
  ⟨some 36, none, [], .ib .lt .i64 (.t 34) (.t 35)⟩])
 (.cond (.t 36)
 .skip
 (.exit 0)))
 (.seq (.block 1
 (.reg false [⟨some 39, none, [], .mv (.t 9)⟩,
  ⟨some 40, none, [], .mv (.t 10)⟩,
  ⟨some 41, none, [], .mv (.t 0)⟩,
  ⟨some 42, none, [], .mv (.t 10)⟩,
  ⟨some 43, none, [], .idx (.t 41) (.t 42) 1⟩,
  ⟨some 44, none, [], .ld (.t 43)⟩,
  ⟨some 45, none, [], .call 20 [(.t 44)]⟩,
  ⟨some 46, none, [], .call 8 [(.t 39), (.t 40), (.t 45)]⟩]))
 (.reg false [⟨some 37, none, [], .mv (.t 10)⟩,
  ⟨some 38, none, [], .ib .add .i64 (.t 37) (.k (.v (.int .i64 1)))⟩,
  ⟨some 10, none, [], .mv (.t 38)⟩]))))))
 (.seq (.reg false [⟨some 47, none, [], .mv (.t 1)⟩,
  ⟨some 48, none, [], .conv .i64 (.t 47)⟩,
  ⟨some 49, none, [], .mv (.t 8)⟩,
  ⟨some 50, none, [], .ib .rem .i64 (.t 48) (.t 49)⟩,
  ⟨some 11, none, [], .mv (.t 50)⟩])
 (.seq (.reg false [⟨some 51, none, [], .mv (.t 2)⟩,
  ⟨some 52, none, [], .ib .quo .u16 (.t 51) (.k (.v (.int .u16 256)))⟩,
  ⟨some 53, none, [], .conv .u8 (.t 52)⟩,
  ⟨some 12, none, [], .mv (.t 53)⟩])
 (.seq (.reg false [⟨some 54, none, [], .mv (.t 2)⟩,
  ⟨some 55, none, [], .ib .rem .u16 (.t 54) (.k (.v (.int .u16 256)))⟩,
  ⟨some 56, none, [], .ib .lt .u16 (.t 55) (.k (.v (.int .u16 65)))⟩,
  ⟨some 13, none, [], .mv (.t 56)⟩])
 (.seq (.seq (.reg false [⟨some 57, none, [], .mv (.t 13)⟩])
 (.cond (.t 57)
 (.reg false [⟨some 58, none, [], .mv (.t 9)⟩,
  ⟨some 59, none, [], .mv (.t 2)⟩,
  ⟨some 60, none, [], .ib .rem .u16 (.t 59) (.k (.v (.int .u16 256)))⟩,
  ⟨some 61, none, [], .conv .i64 (.t 60)⟩,
  ⟨some 62, none, [], .call 9 [(.t 58), (.k (.v (.int .i64 0))), (.t 61)]⟩])
 .skip))
 (.seq (.reg false [⟨some 63, none, [], .mv (.t 9)⟩,
  ⟨some 64, none, [], .mv (.t 11)⟩,
  ⟨some 65, none, [], .mv (.t 12)⟩,
  ⟨some 66, none, [], .call 20 [(.t 65)]⟩,
  ⟨some 67, none, [], .call 8 [(.t 63), (.t 64), (.t 66)]⟩,
  ⟨some 14, none, [], .mv (.t 67)⟩])
 (.seq (.seq (.reg false [⟨some 68, none, [], .mv (.t 14)⟩,
  ⟨some 69, none, [], .ib .eq .i64 (.t 68) (.k (.v (.int .i64 3)))⟩,
  ⟨some 70, none, [], .mv (.t 13)⟩,
  ⟨some 71, none, [], .bb true (.t 69) (.t 70)⟩,
  ⟨some 72, none, [], .mv (.t 71)⟩,
  ⟨some 73, some (72, false), [], .mv (.t 9)⟩,
  ⟨some 74, some (72, false), [], .call 10 [(.t 73)]⟩,
  ⟨some 75, some (72, false), [], .mv (.t 13)⟩,
  ⟨some 76, some (72, false), [], .bb true (.t 74) (.t 75)⟩,
  ⟨some 77, none, [], .pick (.t 72) (.k (.v (.bool true))) (.t 76)⟩])
 (.cond (.t 77)
 (.seq (.reg false [⟨some 6, none, [], .mv (.k (.v (.bool false)))⟩])
 .ret)
 .skip))
 (.seq (.reg false [⟨some 78, none, [], .mv (.t 9)⟩,
  ⟨some 79, none, [], .call 18 [(.t 78)]⟩])
 (.seq (.seq (.reg false [⟨some 15, none, [], .mv (.k (.v (.int .i64 0)))⟩])
 (.block 2
 (.loop
 (.seq (.seq (.reg false [⟨some 80, none, [], .mv (.t 15)⟩,
  ⟨some 81, none, [], .mv (.t 8)⟩,
  ⟨some 82, none, [], .ib .lt .i64 (.t 80) (.t 81)⟩])
 (.cond (.t 82)
 .skip
 (.exit 2)))
 (.seq (.block 3
 (.seq (.reg false [⟨some 86, none, [], .mv (.t 9)⟩,
  ⟨some 87, none, [], .mv (.t 15)⟩,
  ⟨some 88, none, [], .call 15 [(.t 86), (.t 87)]⟩,
  ⟨some 85, none, [], .mv (.t 88)⟩,
  ⟨some 89, none, [], .ext (.t 85) 0⟩,
  ⟨some 90, none, [], .ext (.t 85) 1⟩,
  ⟨some 16, none, [], .mv (.t 89)⟩,
  ⟨some 17, none, [], .mv (.t 90)⟩])
 (.seq (.reg true [⟨some 91, none, [], .mv (.t 17)⟩,
  ⟨some 92, none, [0], .ib .ne .i64 (.t 91) (.k (.v (.int .i64 0)))⟩,
  ⟨some 93, none, [1, 0], .mv (.t 92)⟩,
  ⟨some 94, some (93, false), [2, 1, 0], .mv (.t 15)⟩,
  ⟨some 95, some (93, false), [2, 1, 0], .mv (.t 11)⟩,
  ⟨some 96, some (93, false), [3, 2, 1, 0, 4], .ib .ne .i64 (.t 94) (.t 95)⟩,
  ⟨some 97, some (93, false), [5, 3, 2, 1, 0, 4], .mv (.t 96)⟩,
  ⟨some 98, some (97, true), [6, 5, 3, 2, 1, 0, 4], .mv (.t 16)⟩,
  ⟨some 99, some (97, true), [7, 6, 5, 3, 2, 1, 0, 4], .b2s (.t 98)⟩,
  ⟨some 100, some (97, true), [6, 5, 3, 2, 1, 0, 4], .mv (.t 0)⟩,
  ⟨some 101, some (97, true), [6, 5, 3, 2, 1, 0, 4], .mv (.t 15)⟩,
  ⟨some 102, some (97, true), [9, 6, 5, 3, 2, 1, 0, 4, 10], .idx (.t 100) (.t 101) 1⟩,
  ⟨some 103, some (97, true), [11, 9, 6, 5, 3, 2, 1, 0, 4, 10], .ld (.t 102)⟩,
  ⟨some 104, some (97, true), [12, 11, 9, 6, 5, 3, 2, 1, 0, 4, 10], .call 20 [(.t 103)]⟩,
  ⟨some 105, some (97, true), [13, 12, 11, 9, 6, 5, 3, 2, 1, 0, 4, 10], .b2s (.t 104)⟩,
  ⟨some 106, some (97, true), [8, 7, 6, 5, 3, 2, 1, 0, 4, 14, 13, 12, 11, 9, 10], .sb .ne (.t 99) (.t 105)⟩,
  ⟨some 107, some (93, false), [6, 5, 3, 2, 1, 0, 4, 15, 8, 7, 14, 13, 12, 11, 9, 10], .pick (.t 97) (.t 106) (.k (.v (.bool false)))⟩,
  ⟨some 108, none, [2, 1, 0, 16, 6, 5, 3, 4, 15, 8, 7, 14, 13, 12, 11, 9, 10], .pick (.t 93) (.k (.v (.bool true))) (.t 107)⟩])
 (.cond (.t 108)
 (.seq (.reg false [⟨some 6, none, [], .mv (.k (.v (.bool false)))⟩])
 .ret)
 .skip))))
 (.reg false [⟨some 83, none, [], .mv (.t 15)⟩,
  ⟨some 84, none, [], .ib .add .i64 (.t 83) (.k (.v (.int .i64 1)))⟩,
  ⟨some 15, none, [], .mv (.t 84)⟩]))))))
 (.seq (.reg false [⟨some 109, none, [], .mv (.t 9)⟩,
  ⟨some 110, none, [], .mv (.t 11)⟩,
  ⟨some 111, none, [], .mv (.t 12)⟩,
  ⟨some 112, none, [], .call 20 [(.t 111)]⟩,
  ⟨some 113, none, [], .call 8 [(.t 109), (.t 110), (.t 112)]⟩,
  ⟨some 18, none, [], .mv (.t 113)⟩])
 (.seq (.reg false [⟨some 115, none, [], .mv (.t 9)⟩,
  ⟨some 116, none, [], .mv (.t 11)⟩,
  ⟨some 117, none, [], .call 15 [(.t 115), (.t 116)]⟩,
  ⟨some 114, none, [], .mv (.t 117)⟩,
  ⟨some 118, none, [], .ext (.t 114) 0⟩,
  ⟨some 119, none, [], .ext (.t 114) 1⟩,
  ⟨some 19, none, [], .mv (.t 118)⟩,
  ⟨some 20, none, [], .mv (.t 119)⟩])
 (.seq (.reg true [⟨some 120, none, [], .mv (.t 18)⟩,
  ⟨some 121, none, [0], .ib .eq .i64 (.t 120) (.k (.v (.int .i64 0)))⟩,
  ⟨some 122, none, [1, 0], .mv (.t 121)⟩,
  ⟨some 123, some (122, true), [2, 1, 0], .mv (.t 19)⟩,
  ⟨some 124, some (122, true), [3, 2, 1, 0], .b2s (.t 123)⟩,
  ⟨some 125, some (122, true), [2, 1, 0], .mv (.t 12)⟩,
  ⟨some 126, some (122, true), [5, 2, 1, 0], .call 20 [(.t 125)]⟩,
  ⟨some 127, some (122, true), [6, 5, 2, 1, 0], .b2s (.t 126)⟩,
  ⟨some 128, some (122, true), [4, 3, 2, 1, 0, 7, 6, 5], .sb .eq (.t 124) (.t 127)⟩,
  ⟨some 129, none, [2, 1, 0, 8, 4, 3, 7, 6, 5], .pick (.t 122) (.t 128) (.k (.v (.bool false)))⟩,
  ⟨some 6, none, [9, 2, 1, 0, 8, 4, 3, 7, 6, 5], .mv (.t 129)⟩])
 .ret))))))))))))))))))
theorem comp_5 : compF Try.prog Try.f5 = some (ic_5, [.t 6], 130) := by kernel_rfl
-- ros 5 [(some (.bs 5)), none, none] TYS [(.bytes 5), (.int .u8), (.int .u16)]

/-- tollbar/tollbarlaw31.awake -/
def ic_6 : IC := (.seq (.reg false [⟨some 0, none, [], .mv (.k (.v (.bool false)))⟩])
 (.seq (.reg false [⟨some 9, none, [], .call 7 [(.k (.v (.int .i64 2)))]⟩,
  ⟨some 1, none, [], .mv (.t 9)⟩])
 (.seq (.seq (.reg false [⟨some 10, none, [], .mv (.t 1)⟩,
  ⟨some 11, none, [], .isn 0 false (.t 10)⟩])
 (.cond (.t 11)
 (.seq (.reg false [⟨some 0, none, [], .mv (.k (.v (.bool false)))⟩])
 .ret)
 .skip))
 (.seq (.reg false [⟨some 12, none, [], .mks (.bs 5) 1 (.k (.v (.int .i64 64))) (.k (.v (.int .i64 64)))⟩,
  ⟨some 2, none, [], .mv (.t 12)⟩])
 (.seq (.reg false [⟨some 13, none, [], .mv (.t 2)⟩,
  ⟨some 14, none, [], .idx (.t 13) (.k (.v (.int .i64 0))) 1⟩,
  ⟨none, none, [], .st (.t 14) (.k (.v (.int .u8 97))) 1⟩])
 (.seq (.reg false [⟨some 15, none, [], .mv (.t 2)⟩,
  ⟨some 16, none, [], .idx (.t 15) (.k (.v (.int .i64 5))) 1⟩,
  ⟨none, none, [], .st (.t 16) (.k (.v (.int .u8 98))) 1⟩])
 (.seq (.reg false [⟨some 17, none, [], .mv (.t 1)⟩,
  ⟨some 18, none, [], .call 9 [(.t 17), (.k (.v (.int .i64 0))), (.k (.v (.int .i64 3)))]⟩,
  ⟨some 3, none, [], .mv (.t 18)⟩])
 (.seq (.reg false [⟨some 19, none, [], .mv (.t 1)⟩,
  ⟨some 20, none, [], .mv (.t 2)⟩,
  ⟨some 21, none, [], .call 8 [(.t 19), (.k (.v (.int .i64 1))), (.t 20)]⟩,
  ⟨some 4, none, [], .mv (.t 21)⟩])
 (.seq (.reg false [⟨some 22, none, [], .mv (.t 1)⟩,
  ⟨some 23, none, [], .call 10 [(.t 22)]⟩,
  ⟨some 5, none, [], .mv (.t 23)⟩])
 (.seq (.reg false [⟨some 24, none, [], .mv (.t 1)⟩,
  ⟨some 25, none, [], .call 18 [(.t 24)]⟩])
 (.seq (.reg false [⟨some 27, none, [], .mv (.t 1)⟩,
  ⟨some 28, none, [], .call 15 [(.t 27), (.k (.v (.int .i64 1)))]⟩,
  ⟨some 26, none, [], .mv (.t 28)⟩,
  ⟨some 29, none, [], .ext (.t 26) 0⟩,
  ⟨some 30, none, [], .ext (.t 26) 1⟩,
  ⟨some 6, none, [], .mv (.t 29)⟩,
  ⟨some 7, none, [], .mv (.t 30)⟩])
 (.seq (.reg false [⟨some 31, none, [], .mv (.t 1)⟩,
  ⟨some 32, none, [], .mv (.t 2)⟩,
  ⟨some 33, none, [], .call 8 [(.t 31), (.k (.v (.int .i64 0))), (.t 32)]⟩,
  ⟨some 8, none, [], .mv (.t 33)⟩])
 (.seq (.reg false [⟨some 34, none, [], .mv (.t 3)⟩,
  ⟨some 35, none, [], .ib .eq .i64 (.t 34) (.k (.v (.int .i64 0)))⟩,
  ⟨some 36, none, [], .mv (.t 35)⟩,
  ⟨some 37, some (36, true), [], .mv (.t 4)⟩,
  ⟨some 38, some (36, true), [], .ib .eq .i64 (.t 37) (.k (.v (.int .i64 3)))⟩,
  ⟨some 39, none, [], .pick (.t 36) (.t 38) (.k (.v (.bool false)))⟩,
  ⟨some 40, none, [], .mv (.t 39)⟩,
  ⟨some 41, some (40, true), [], .mv (.t 5)⟩,
  ⟨some 42, none, [], .pick (.t 40) (.t 41) (.k (.v (.bool false)))⟩,
  ⟨some 43, none, [], .mv (.t 42)⟩,
  ⟨some 44, some (43, true), [], .mv (.t 1)⟩,
  ⟨some 45, some (43, true), [], .call 10 [(.t 44)]⟩,
  ⟨some 46, some (43, true), [], .bnot (.t 45)⟩,
  ⟨some 47, none, [], .pick (.t 43) (.t 46) (.k (.v (.bool false)))⟩,
  ⟨some 48, none, [], .mv (.t 47)⟩,
  ⟨some 49, some (48, true), [], .mv (.t 7)⟩,
  ⟨some 50, some (48, true), [], .ib .eq .i64 (.t 49) (.k (.v (.int .i64 0)))⟩,
  ⟨some 51, none, [], .pick (.t 48) (.t 50) (.k (.v (.bool false)))⟩,
  ⟨some 52, none, [], .mv (.t 51)⟩,
  ⟨some 53, some (52, true), [], .mv (.t 6)⟩,
  ⟨some 54, some (52, true), [], .len false (.t 53)⟩,
  ⟨some 55, some (52, true), [], .ib .eq .i64 (.t 54) (.k (.v (.int .i64 64)))⟩,
  ⟨some 56, none, [], .pick (.t 52) (.t 55) (.k (.v (.bool false)))⟩,
  ⟨some 57, none, [], .mv (.t 56)⟩,
  ⟨some 58, some (57, true), [], .mv (.t 6)⟩,
  ⟨some 59, some (57, true), [], .idx (.t 58) (.k (.v (.int .i64 0))) 1⟩,
  ⟨some 60, some (57, true), [], .ld (.t 59)⟩,
  ⟨some 61, some (57, true), [], .ib .eq .u8 (.t 60) (.k (.v (.int .u8 97)))⟩,
  ⟨some 62, none, [], .pick (.t 57) (.t 61) (.k (.v (.bool false)))⟩,
  ⟨some 63, none, [], .mv (.t 62)⟩,
  ⟨some 64, some (63, true), [], .mv (.t 6)⟩,
  ⟨some 65, some (63, true), [], .idx (.t 64) (.k (.v (.int .i64 5))) 1⟩,
  ⟨some 66, some (63, true), [], .ld (.t 65)⟩,
  ⟨some 67, some (63, true), [], .ib .eq .u8 (.t 66) (.k (.v (.int .u8 0)))⟩,
  ⟨some 68, none, [], .pick (.t 63) (.t 67) (.k (.v (.bool false)))⟩,
  ⟨some 69, none, [], .mv (.t 68)⟩,
  ⟨some 70, some (69, true), [], .mv (.t 8)⟩,
  ⟨some 71, some (69, true), [], .ib .eq .i64 (.t 70) (.k (.v (.int .i64 0)))⟩,
  ⟨some 72, none, [], .pick (.t 69) (.t 71) (.k (.v (.bool false)))⟩,
  ⟨some 73, none, [], .mv (.t 72)⟩,
  ⟨some 74, some (73, true), [], .mv (.t 1)⟩,
  ⟨some 75, some (73, true), [], .call 11 [(.t 74)]⟩,
  ⟨some 76, some (73, true), [], .ib .eq .i64 (.t 75) (.k (.v (.int .i64 1)))⟩,
  ⟨some 77, none, [], .pick (.t 73) (.t 76) (.k (.v (.bool false)))⟩,
  ⟨some 78, none, [], .mv (.t 77)⟩,
  ⟨some 79, some (78, true), [], .mv (.t 1)⟩,
  ⟨some 80, some (78, true), [], .call 12 [(.t 79)]⟩,
  ⟨some 81, some (78, true), [], .ib .eq .i64 (.t 80) (.k (.v (.int .i64 2)))⟩,
  ⟨some 82, none, [], .pick (.t 78) (.t 81) (.k (.v (.bool false)))⟩,
  ⟨some 0, none, [], .mv (.t 82)⟩])
 .ret)))))))))))))
theorem comp_6 : compF Try.prog Try.f6 = some (ic_6, [.t 0], 83) := by kernel_rfl
-- ros 6 [] TYS []

/-- tollbar/block.New -/
def ic_7 : IC := (.seq (.reg false [⟨some 2, none, [], .mv (.k (.v (.pointer none)))⟩])
 (.seq (.seq (.reg false [⟨some 3, none, [], .mv (.t 0)⟩,
  ⟨some 4, none, [], .ib .lt .i64 (.t 3) (.k (.v (.int .i64 1)))⟩,
  ⟨some 5, none, [], .mv (.t 4)⟩,
  ⟨some 6, some (5, false), [], .mv (.t 0)⟩,
  ⟨some 7, some (5, false), [], .ib .gt .i64 (.t 6) (.k (.v (.int .i64 1024)))⟩,
  ⟨some 8, none, [], .pick (.t 5) (.k (.v (.bool true))) (.t 7)⟩])
 (.cond (.t 8)
 (.seq (.reg false [⟨some 2, none, [], .mv (.k (.v (.pointer none)))⟩])
 .ret)
 .skip))
 (.seq (.reg false [⟨some 9, none, [], .mv (.t 0)⟩,
  ⟨some 10, none, [], .mks (.row 57 (.u8s 64)) 64 (.t 9) (.t 9)⟩,
  ⟨some 11, none, [], .build [.nsl, (.v (.bool false)), (.v (.pointer none)), (.v (.int .i64 0))] [(0, 1, (.t 10))]⟩,
  ⟨some 12, none, [], .box 53 4 (.t 11)⟩,
  ⟨some 2, none, [], .mv (.t 12)⟩])
 .ret)))
theorem comp_7 : compF Try.prog Try.f7 = some (ic_7, [.t 2], 13) := by kernel_rfl
-- ros 7 [none] TYS [(.int .i64)]

/-- (*tollbar/block.Device).Write -/
def ic_8 : IC := (.seq (.reg false [⟨some 6, none, [], .mv (.k (.v (.int .i64 0)))⟩])
 (.seq (.seq (.reg false [⟨some 8, none, [], .mv (.t 0)⟩,
  ⟨some 9, none, [], .mv (.t 1)⟩,
  ⟨some 10, none, [], .call 21 [(.t 8), (.t 9)]⟩,
  ⟨some 7, none, [], .mv (.t 10)⟩])
 (.seq (.reg false [⟨some 11, none, [], .mv (.t 7)⟩,
  ⟨some 12, none, [], .ib .ne .i64 (.t 11) (.k (.v (.int .i64 0)))⟩])
 (.cond (.t 12)
 (.seq (.reg false [⟨some 13, none, [], .mv (.t 7)⟩,
  ⟨some 6, none, [], .mv (.t 13)⟩])
 .ret)
 .skip)))
 (.seq (.seq (.reg false [⟨some 14, none, [], .mv (.t 2)⟩,
  ⟨some 15, none, [], .len false (.t 14)⟩,
  ⟨some 16, none, [], .ib .ne .i64 (.t 15) (.k (.v (.int .i64 64)))⟩])
 (.cond (.t 16)
 (.seq (.reg false [⟨some 6, none, [], .mv (.k (.v (.int .i64 1)))⟩])
 .ret)
 .skip))
 (.seq (.seq (.reg false [⟨some 17, none, [], .mv (.t 0)⟩,
  ⟨some 18, none, [], .chk (.t 17)⟩,
  ⟨some 19, none, [], .fld (.t 18) 2⟩,
  ⟨some 20, none, [], .ld (.t 19)⟩,
  ⟨some 21, none, [], .isn 0 true (.t 20)⟩,
  ⟨some 22, none, [], .mv (.t 21)⟩,
  ⟨some 23, some (22, true), [], .mv (.t 0)⟩,
  ⟨some 24, some (22, true), [], .chk (.t 23)⟩,
  ⟨some 25, some (22, true), [], .fld (.t 24) 2⟩,
  ⟨some 26, some (22, true), [], .ld (.t 25)⟩,
  ⟨some 27, some (22, true), [], .chk (.t 26)⟩,
  ⟨some 28, some (22, true), [], .fld (.t 27) 0⟩,
  ⟨some 29, some (22, true), [], .ld (.t 28)⟩,
  ⟨some 30, some (22, true), [], .ib .eq .i64 (.t 29) (.k (.v (.int .i64 0)))⟩,
  ⟨some 31, none, [], .pick (.t 22) (.t 30) (.k (.v (.bool false)))⟩])
 (.cond (.t 31)
 (.seq (.reg true [⟨some 32, none, [], .mv (.t 0)⟩,
  ⟨some 33, none, [0], .chk (.t 32)⟩,
  ⟨some 34, none, [1, 0], .fld (.t 33) 0⟩,
  ⟨some 35, none, [2, 1, 0], .ld (.t 34)⟩,
  ⟨some 36, none, [], .mv (.t 1)⟩,
  ⟨some 37, none, [3, 2, 1, 0, 4], .idx (.t 35) (.t 36) 64⟩,
  ⟨some 38, none, [5, 3, 2, 1, 0, 4], .sla 64 (.t 37)⟩,
  ⟨some 39, none, [], .mv (.t 2)⟩,
  ⟨some 40, none, [], .mv (.t 0)⟩,
  ⟨some 41, none, [8], .chk (.t 40)⟩,
  ⟨some 42, none, [9, 8], .fld (.t 41) 2⟩,
  ⟨some 43, none, [10, 9, 8], .ld (.t 42)⟩,
  ⟨some 44, none, [11, 10, 9, 8], .chk (.t 43)⟩,
  ⟨some 45, none, [12, 11, 10, 9, 8], .fld (.t 44) 1⟩,
  ⟨some 46, none, [13, 12, 11, 10, 9, 8], .ld (.t 45)⟩,
  ⟨some 47, none, [7, 14, 13, 12, 11, 10, 9, 8], .sls (.t 39) none (some (.t 46)) 1⟩,
  ⟨some 48, none, [6, 5, 3, 2, 1, 0, 4, 15, 7, 14, 13, 12, 11, 10, 9, 8], .copy (.t 38) (.t 47) 1⟩])
 (.seq (.reg false [⟨some 49, none, [], .mv (.t 0)⟩,
  ⟨some 50, none, [], .mv (.t 0)⟩,
  ⟨some 51, none, [], .chk (.t 49)⟩,
  ⟨some 52, none, [], .fld (.t 51) 1⟩,
  ⟨none, none, [], .st (.t 52) (.k (.v (.bool true))) 1⟩,
  ⟨some 53, none, [], .chk (.t 50)⟩,
  ⟨some 54, none, [], .fld (.t 53) 2⟩,
  ⟨none, none, [], .st (.t 54) (.k (.v (.pointer none))) 1⟩])
 (.seq (.reg false [⟨some 6, none, [], .mv (.k (.v (.int .i64 3)))⟩])
 .ret)))
 .skip))
 (.seq (.reg true [⟨some 55, none, [], .mv (.t 0)⟩,
  ⟨some 56, none, [0], .chk (.t 55)⟩,
  ⟨some 57, none, [1, 0], .fld (.t 56) 0⟩,
  ⟨some 58, none, [2, 1, 0], .ld (.t 57)⟩,
  ⟨some 59, none, [], .mv (.t 1)⟩,
  ⟨some 60, none, [], .mv (.t 2)⟩,
  ⟨some 61, none, [5], .s2a 57 64 (.t 60)⟩,
  ⟨some 62, none, [6, 5], .lda (.t 61) 64⟩,
  ⟨some 63, none, [3, 2, 1, 0, 4, 5, 6, 7], .idx (.t 58) (.t 59) 64⟩,
  ⟨none, none, [8, 3, 2, 1, 0, 4, 5, 6, 7], .st (.t 63) (.t 62) 64⟩])
 (.seq (.reg false [⟨some 64, none, [], .mv (.t 0)⟩,
  ⟨some 65, none, [], .chk (.t 64)⟩,
  ⟨some 66, none, [], .fld (.t 65) 3⟩,
  ⟨some 67, none, [], .ld (.t 66)⟩,
  ⟨some 68, none, [], .ib .add .i64 (.t 67) (.k (.v (.int .i64 1)))⟩,
  ⟨some 69, none, [], .chk (.t 64)⟩,
  ⟨some 70, none, [], .fld (.t 69) 3⟩,
  ⟨none, none, [], .st (.t 70) (.t 68) 1⟩])
 (.seq (.seq (.reg false [⟨some 71, none, [], .mv (.t 0)⟩,
  ⟨some 72, none, [], .chk (.t 71)⟩,
  ⟨some 73, none, [], .fld (.t 72) 2⟩,
  ⟨some 74, none, [], .ld (.t 73)⟩,
  ⟨some 75, none, [], .isn 0 true (.t 74)⟩])
 (.cond (.t 75)
 (.reg false [⟨some 76, none, [], .mv (.t 0)⟩,
  ⟨some 77, none, [], .chk (.t 76)⟩,
  ⟨some 78, none, [], .fld (.t 77) 2⟩,
  ⟨some 79, none, [], .ld (.t 78)⟩,
  ⟨some 80, none, [], .chk (.t 79)⟩,
  ⟨some 81, none, [], .fld (.t 80) 0⟩,
  ⟨some 82, none, [], .ld (.t 81)⟩,
  ⟨some 83, none, [], .ib .sub .i64 (.t 82) (.k (.v (.int .i64 1)))⟩,
  ⟨some 84, none, [], .chk (.t 79)⟩,
  ⟨some 85, none, [], .fld (.t 84) 0⟩,
  ⟨none, none, [], .st (.t 85) (.t 83) 1⟩])
 .skip))
 (.seq (.reg false [⟨some 6, none, [], .mv (.k (.v (.int .i64 0)))⟩])
 .ret))))))))
theorem comp_8 : compF Try.prog Try.f8 = some (ic_8, [.t 6], 86) := by kernel_rfl
-- ros 8 [none, none, (some (.bs 5))] TYS [none, (.int .i64), (.bytes 5)]

/-- (*tollbar/block.Device).Arm -/
def ic_9 : IC := (.seq (.reg false [⟨some 6, none, [], .mv (.k (.v (.int .i64 0)))⟩])
 (.seq (.seq (.reg false [⟨some 7, none, [], .mv (.t 0)⟩,
  ⟨some 8, none, [], .isn 0 false (.t 7)⟩,
  ⟨some 9, none, [], .mv (.t 8)⟩,
  ⟨some 10, some (9, false), [], .mv (.t 1)⟩,
  ⟨some 11, some (9, false), [], .ib .lt .i64 (.t 10) (.k (.v (.int .i64 0)))⟩,
  ⟨some 12, none, [], .pick (.t 9) (.k (.v (.bool true))) (.t 11)⟩,
  ⟨some 13, none, [], .mv (.t 12)⟩,
  ⟨some 14, some (13, false), [], .mv (.t 2)⟩,
  ⟨some 15, some (13, false), [], .ib .lt .i64 (.t 14) (.k (.v (.int .i64 0)))⟩,
  ⟨some 16, none, [], .pick (.t 13) (.k (.v (.bool true))) (.t 15)⟩,
  ⟨some 17, none, [], .mv (.t 16)⟩,
  ⟨some 18, some (17, false), [], .mv (.t 2)⟩,
  ⟨some 19, some (17, false), [], .ib .gt .i64 (.t 18) (.k (.v (.int .i64 64)))⟩,
  ⟨some 20, none, [], .pick (.t 17) (.k (.v (.bool true))) (.t 19)⟩])
 (.cond (.t 20)
 (.seq (.reg false [⟨some 6, none, [], .mv (.k (.v (.int .i64 1)))⟩])
 .ret)
 .skip))
 (.seq (.reg false [⟨some 21, none, [], .mv (.t 0)⟩,
  ⟨some 22, none, [], .mv (.t 1)⟩,
  ⟨some 23, none, [], .mv (.t 2)⟩,
  ⟨some 24, none, [], .build [(.v (.int .i64 0)), (.v (.int .i64 0))] [(0, 1, (.t 22)), (1, 1, (.t 23))]⟩,
  ⟨some 25, none, [], .box 56 2 (.t 24)⟩,
  ⟨some 26, none, [], .chk (.t 21)⟩,
  ⟨some 27, none, [], .fld (.t 26) 2⟩,
  ⟨none, none, [], .st (.t 27) (.t 25) 1⟩])
 (.seq (.reg false [⟨some 6, none, [], .mv (.k (.v (.int .i64 0)))⟩])
 .ret))))
theorem comp_9 : compF Try.prog Try.f9 = some (ic_9, [.t 6], 28) := by kernel_rfl
-- ros 9 [none, none, none] TYS [none, (.int .i64), (.int .i64)]

/-- (*tollbar/block.Device).Down -/
def ic_10 : IC := (.seq (.reg false [⟨some 2, none, [], .mv (.k (.v (.bool false)))⟩])
 (.seq (.reg false [⟨some 3, none, [], .mv (.t 0)⟩,
  ⟨some 4, none, [], .isn 0 true (.t 3)⟩,
  ⟨some 5, none, [], .mv (.t 4)⟩,
  ⟨some 6, some (5, true), [], .mv (.t 0)⟩,
  ⟨some 7, some (5, true), [], .chk (.t 6)⟩,
  ⟨some 8, some (5, true), [], .fld (.t 7) 1⟩,
  ⟨some 9, some (5, true), [], .ld (.t 8)⟩,
  ⟨some 10, none, [], .pick (.t 5) (.t 9) (.k (.v (.bool false)))⟩,
  ⟨some 2, none, [], .mv (.t 10)⟩])
 .ret))
theorem comp_10 : compF Try.prog Try.f10 = some (ic_10, [.t 2], 11) := by kernel_rfl
-- ros 10 [none] TYS [none]

/-- (*tollbar/block.Device).Writes -/
def ic_11 : IC := (.seq (.reg false [⟨some 2, none, [], .mv (.k (.v (.int .i64 0)))⟩])
 (.seq (.seq (.reg false [⟨some 3, none, [], .mv (.t 0)⟩,
  ⟨some 4, none, [], .isn 0 false (.t 3)⟩])
 (.cond (.t 4)
 (.seq (.reg false [⟨some 2, none, [], .mv (.k (.v (.int .i64 0)))⟩])
 .ret)
 .skip))
 (.seq (.reg false [⟨some 5, none, [], .mv (.t 0)⟩,
  ⟨some 6, none, [], .chk (.t 5)⟩,
  ⟨some 7, none, [], .fld (.t 6) 3⟩,
  ⟨some 8, none, [], .ld (.t 7)⟩,
  ⟨some 2, none, [], .mv (.t 8)⟩])
 .ret)))
theorem comp_11 : compF Try.prog Try.f11 = some (ic_11, [.t 2], 9) := by kernel_rfl
-- ros 11 [none] TYS [none]

/-- (*tollbar/block.Device).Blocks -/
def ic_12 : IC := (.seq (.reg false [⟨some 2, none, [], .mv (.k (.v (.int .i64 0)))⟩])
 (.seq (.seq (.reg false [⟨some 3, none, [], .mv (.t 0)⟩,
  ⟨some 4, none, [], .isn 0 false (.t 3)⟩])
 (.cond (.t 4)
 (.seq (.reg false [⟨some 2, none, [], .mv (.k (.v (.int .i64 0)))⟩])
 .ret)
 .skip))
 (.seq (.reg false [⟨some 5, none, [], .mv (.t 0)⟩,
  ⟨some 6, none, [], .chk (.t 5)⟩,
  ⟨some 7, none, [], .fld (.t 6) 0⟩,
  ⟨some 8, none, [], .ld (.t 7)⟩,
  ⟨some 9, none, [], .len false (.t 8)⟩,
  ⟨some 2, none, [], .mv (.t 9)⟩])
 .ret)))
theorem comp_12 : compF Try.prog Try.f12 = some (ic_12, [.t 2], 10) := by kernel_rfl
-- ros 12 [none] TYS [none]

/-- tollbar/tollbarref31.New -/
def ic_13 : IC := (.seq (.reg false [⟨some 2, none, [], .new 32 [.nsl, (.v (.bool false)), (.v (.int .i64 0)), (.v (.int .i64 0)), (.v (.int .i64 0))]⟩])
 (.seq (.reg false [⟨some 5, none, [], .build [.nsl, (.v (.bool false)), (.v (.int .i64 0)), (.v (.int .i64 0)), (.v (.int .i64 0))] [(2, 1, (.k (.v (.int .i64 (-1)))))]⟩,
  ⟨some 3, none, [], .new 32 [.nsl, (.v (.bool false)), (.v (.int .i64 0)), (.v (.int .i64 0)), (.v (.int .i64 0))]⟩,
  ⟨none, none, [], .st (.t 3) (.t 5) 5⟩])
 (.seq (.seq (.reg false [⟨some 4, none, [], .mv (.k (.v (.int .i64 0)))⟩])
 (.block 0
 (.loop
 (.seq (.seq (.reg false [⟨some 6, none, [], .mv (.t 4)⟩,
  ⟨some 7, none, [], .mv (.t 0)⟩,
  ⟨some 8, none, [], .ib .lt .i64 (.t 6) (.t 7)⟩])
 (.cond (.t 8)
 .skip
 (.exit 0)))
 (.seq (.block 1
 (.reg true [⟨some 11, none, [], .fld (.t 3) 0⟩,
  ⟨some 12, none, [0], .ld (.t 11)⟩,
  ⟨some 13, none, [], .call 22 []⟩,
  ⟨some 14, none, [2], .bsl (.row 9 .str) 1 [(.str [])] [(0, 1, (.t 13))]⟩,
  ⟨some 15, none, [1, 0, 3, 2], .app (.row 9 .str) 16 (.t 12) (.t 14)⟩,
  ⟨some 16, none, [0, 1, 2, 3, 4], .fld (.t 3) 0⟩,
  ⟨none, none, [5, 0, 1, 2, 3, 4], .st (.t 16) (.t 15) 1⟩]))
 (.reg false [⟨some 9, none, [], .mv (.t 4)⟩,
  ⟨some 10, none, [], .ib .add .i64 (.t 9) (.k (.v (.int .i64 1)))⟩,
  ⟨some 4, none, [], .mv (.t 10)⟩]))))))
 (.seq (.reg false [⟨some 17, none, [], .lda (.t 3) 5⟩,
  ⟨none, none, [], .st (.t 2) (.t 17) 5⟩])
 .ret))))
theorem comp_13 : compF Try.prog Try.f13 = some (ic_13, [.c 2 5 true], 18) := by kernel_rfl
-- ros 13 [none] TYS [(.int .i64)]

/-- tollbar/tollbarref31.Write -/
def ic_14 : IC := (.seq (.reg false [⟨some 3, none, [], .box 32 5 (.t 0)⟩,
  ⟨some 6, none, [], .new 32 [.nsl, (.v (.bool false)), (.v (.int .i64 0)), (.v (.int .i64 0)), (.v (.int .i64 0))]⟩,
  ⟨some 7, none, [], .mv (.k (.v (.int .i64 0)))⟩])
 (.seq (.reg false [⟨some 11, none, [], .lda (.t 3) 5⟩,
  ⟨some 12, none, [], .mv (.t 1)⟩,
  ⟨some 13, none, [], .call 16 [(.t 11), (.t 12)]⟩,
  ⟨some 10, none, [], .mv (.t 13)⟩,
  ⟨some 14, none, [], .ext (.t 10) 0⟩,
  ⟨some 15, none, [], .ext (.t 10) 1⟩,
  ⟨some 8, none, [], .mv (.t 14)⟩,
  ⟨some 9, none, [], .mv (.t 15)⟩])
 (.seq (.seq (.reg false [⟨some 16, none, [], .mv (.t 9)⟩,
  ⟨some 17, none, [], .ib .eq .i64 (.t 16) (.k (.v (.int .i64 0)))⟩,
  ⟨some 18, none, [], .mv (.t 17)⟩,
  ⟨some 19, some (18, true), [], .mv (.t 2)⟩,
  ⟨some 20, some (18, true), [], .len true (.t 19)⟩,
  ⟨some 21, some (18, true), [], .ib .ne .i64 (.t 20) (.k (.v (.int .i64 64)))⟩,
  ⟨some 22, none, [], .pick (.t 18) (.t 21) (.k (.v (.bool false)))⟩])
 (.cond (.t 22)
 (.reg false [⟨some 9, none, [], .mv (.k (.v (.int .i64 1)))⟩])
 .skip))
 (.seq (.seq (.reg false [⟨some 23, none, [], .mv (.t 9)⟩,
  ⟨some 24, none, [], .ib .ne .i64 (.t 23) (.k (.v (.int .i64 0)))⟩])
 (.cond (.t 24)
 (.seq (.reg false [⟨some 25, none, [], .lda (.t 3) 5⟩,
  ⟨some 26, none, [], .mv (.t 9)⟩,
  ⟨none, none, [], .st (.t 6) (.t 25) 5⟩,
  ⟨some 7, none, [], .mv (.t 26)⟩])
 .ret)
 .skip))
 (.seq (.seq (.reg false [⟨some 27, none, [], .fld (.t 3) 2⟩,
  ⟨some 28, none, [], .ld (.t 27)⟩,
  ⟨some 29, none, [], .ib .eq .i64 (.t 28) (.k (.v (.int .i64 0)))⟩])
 (.cond (.t 29)
 (.seq (.reg true [⟨some 30, none, [], .fld (.t 3) 0⟩,
  ⟨some 31, none, [0], .ld (.t 30)⟩,
  ⟨some 32, none, [], .mv (.t 1)⟩,
  ⟨some 33, none, [], .mv (.t 2)⟩,
  ⟨some 34, none, [], .fld (.t 3) 3⟩,
  ⟨some 35, none, [4], .ld (.t 34)⟩,
  ⟨some 36, none, [3, 5, 4], .ssl (.t 33) none (some (.t 35))⟩,
  ⟨some 37, none, [], .fld (.t 3) 0⟩,
  ⟨some 38, none, [7], .ld (.t 37)⟩,
  ⟨some 39, none, [], .mv (.t 1)⟩,
  ⟨some 40, none, [8, 7, 9], .idx (.t 38) (.t 39) 1⟩,
  ⟨some 41, none, [10, 8, 7, 9], .ld (.t 40)⟩,
  ⟨some 42, none, [], .fld (.t 3) 3⟩,
  ⟨some 43, none, [12], .ld (.t 42)⟩,
  ⟨some 44, none, [11, 10, 8, 7, 9, 13, 12], .ssl (.t 41) (some (.t 43)) none⟩,
  ⟨some 45, none, [6, 3, 5, 4, 14, 11, 10, 8, 7, 9, 13, 12], .sb .add (.t 36) (.t 44)⟩,
  ⟨some 46, none, [1, 0, 2, 15, 6, 3, 5, 4, 14, 11, 10, 8, 7, 9, 13, 12], .call 23 [(.t 31), (.t 32), (.t 45)]⟩,
  ⟨some 47, none, [0, 1, 2, 3, 4, 5, 6, 7, 8, 9, 10, 11, 12, 13, 14, 15, 16], .fld (.t 3) 0⟩,
  ⟨none, none, [17, 0, 1, 2, 3, 4, 5, 6, 7, 8, 9, 10, 11, 12, 13, 14, 15, 16], .st (.t 47) (.t 46) 1⟩])
 (.seq (.reg false [⟨some 48, none, [], .fld (.t 3) 1⟩,
  ⟨none, none, [], .st (.t 48) (.k (.v (.bool true))) 1⟩])
 (.seq (.reg false [⟨some 49, none, [], .fld (.t 3) 2⟩,
  ⟨none, none, [], .st (.t 49) (.k (.v (.int .i64 (-1)))) 1⟩])
 (.seq (.reg false [⟨some 50, none, [], .fld (.t 3) 3⟩,
  ⟨none, none, [], .st (.t 50) (.k (.v (.int .i64 0))) 1⟩])
 (.seq (.reg false [⟨some 51, none, [], .lda (.t 3) 5⟩,
  ⟨none, none, [], .st (.t 6) (.t 51) 5⟩,
  ⟨some 7, none, [], .mv (.k (.v (.int .i64 3)))⟩])
 .ret)))))
 .skip))
 (.seq (.reg false [⟨some 52, none, [], .fld (.t 3) 0⟩,
  ⟨some 53, none, [], .ld (.t 52)⟩,
  ⟨some 54, none, [], .mv (.t 1)⟩,
  ⟨some 55, none, [], .mv (.t 2)⟩,
  ⟨some 56, none, [], .call 23 [(.t 53), (.t 54), (.t 55)]⟩,
  ⟨some 57, none, [], .fld (.t 3) 0⟩,
  ⟨none, none, [], .st (.t 57) (.t 56) 1⟩])
 (.seq (.reg false [⟨some 58, none, [], .fld (.t 3) 4⟩,
  ⟨some 59, none, [], .ld (.t 58)⟩,
  ⟨some 60, none, [], .ib .add .i64 (.t 59) (.k (.v (.int .i64 1)))⟩,
  ⟨some 61, none, [], .fld (.t 3) 4⟩,
  ⟨none, none, [], .st (.t 61) (.t 60) 1⟩])
 (.seq (.seq (.reg false [⟨some 62, none, [], .fld (.t 3) 2⟩,
  ⟨some 63, none, [], .ld (.t 62)⟩,
  ⟨some 64, none, [], .ib .gt .i64 (.t 63) (.k (.v (.int .i64 0)))⟩])
 (.cond (.t 64)
 (.reg false [⟨some 65, none, [], .fld (.t 3) 2⟩,
  ⟨some 66, none, [], .ld (.t 65)⟩,
  ⟨some 67, none, [], .ib .sub .i64 (.t 66) (.k (.v (.int .i64 1)))⟩,
  ⟨some 68, none, [], .fld (.t 3) 2⟩,
  ⟨none, none, [], .st (.t 68) (.t 67) 1⟩])
 .skip))
 (.seq (.reg false [⟨some 69, none, [], .lda (.t 3) 5⟩,
  ⟨none, none, [], .st (.t 6) (.t 69) 5⟩,
  ⟨some 7, none, [], .mv (.k (.v (.int .i64 0)))⟩])
 .ret)))))))))
theorem comp_14 : compF Try.prog Try.f14 = some (ic_14, [.c 6 5 true, .t 7], 70) := by kernel_rfl
-- ros 14 [none, none, none] TYS [(.st [(.row 9 .str), .bool, (.int .i64), (.int .i64), (.int .i64)]), (.int .i64), .str]

/-- (*tollbar/block.Device).Read -/
def ic_15 : IC := (.seq (.reg false [⟨some 4, none, [], .mv (.k .nsl)⟩,
  ⟨some 5, none, [], .mv (.k (.v (.int .i64 0)))⟩])
 (.seq (.seq (.reg false [⟨some 8, none, [], .mv (.t 0)⟩,
  ⟨some 9, none, [], .mv (.t 1)⟩,
  ⟨some 10, none, [], .call 21 [(.t 8), (.t 9)]⟩,
  ⟨some 6, none, [], .mv (.t 10)⟩])
 (.seq (.reg false [⟨some 11, none, [], .mv (.t 6)⟩,
  ⟨some 12, none, [], .ib .ne .i64 (.t 11) (.k (.v (.int .i64 0)))⟩])
 (.cond (.t 12)
 (.seq (.reg false [⟨some 13, none, [], .mv (.t 6)⟩,
  ⟨some 4, none, [], .mv (.k .nsl)⟩,
  ⟨some 5, none, [], .mv (.t 13)⟩])
 .ret)
 .skip)))
 (.seq (.reg false [⟨some 14, none, [], .mv (.t 0)⟩,
  ⟨some 15, none, [], .chk (.t 14)⟩,
  ⟨some 16, none, [], .fld (.t 15) 0⟩,
  ⟨some 17, none, [], .ld (.t 16)⟩,
  ⟨some 18, none, [], .mv (.t 1)⟩,
  ⟨some 19, none, [], .idx (.t 17) (.t 18) 64⟩,
  ⟨some 20, none, [], .lda (.t 19) 64⟩,
  ⟨some 7, none, [], .new 57 [(.v (.int .u8 0)), (.v (.int .u8 0)), (.v (.int .u8 0)), (.v (.int .u8 0)), (.v (.int .u8 0)), (.v (.int .u8 0)), (.v (.int .u8 0)), (.v (.int .u8 0)), (.v (.int .u8 0)), (.v (.int .u8 0)), (.v (.int .u8 0)), (.v (.int .u8 0)), (.v (.int .u8 0)), (.v (.int .u8 0)), (.v (.int .u8 0)), (.v (.int .u8 0)), (.v (.int .u8 0)), (.v (.int .u8 0)), (.v (.int .u8 0)), (.v (.int .u8 0)), (.v (.int .u8 0)), (.v (.int .u8 0)), (.v (.int .u8 0)), (.v (.int .u8 0)), (.v (.int .u8 0)), (.v (.int .u8 0)), (.v (.int .u8 0)), (.v (.int .u8 0)), (.v (.int .u8 0)), (.v (.int .u8 0)), (.v (.int .u8 0)), (.v (.int .u8 0)), (.v (.int .u8 0)), (.v (.int .u8 0)), (.v (.int .u8 0)), (.v (.int .u8 0)), (.v (.int .u8 0)), (.v (.int .u8 0)), (.v (.int .u8 0)), (.v (.int .u8 0)), (.v (.int .u8 0)), (.v (.int .u8 0)), (.v (.int .u8 0)), (.v (.int .u8 0)), (.v (.int .u8 0)), (.v (.int .u8 0)), (.v (.int .u8 0)), (.v (.int .u8 0)), (.v (.int .u8 0)), (.v (.int .u8 0)), (.v (.int .u8 0)), (.v (.int .u8 0)), (.v (.int .u8 0)), (.v (.int .u8 0)), (.v (.int .u8 0)), (.v (.int .u8 0)), (.v (.int .u8 0)), (.v (.int .u8 0)), (.v (.int .u8 0)), (.v (.int .u8 0)), (.v (.int .u8 0)), (.v (.int .u8 0)), (.v (.int .u8 0)), (.v (.int .u8 0))]⟩,
  ⟨none, none, [], .st (.t 7) (.t 20) 64⟩])
 (.seq (.reg false [⟨some 21, none, [], .sla 64 (.t 7)⟩,
  ⟨some 4, none, [], .mv (.t 21)⟩,
  ⟨some 5, none, [], .mv (.k (.v (.int .i64 0)))⟩])
 .ret))))
theorem comp_15 : compF Try.prog Try.f15 = some (ic_15, [.t 4, .t 5], 22) := by kernel_rfl
-- ros 15 [none, none] TYS [none, (.int .i64)]

/-- tollbar/tollbarref31.Read -/
def ic_16 : IC := (.seq (.reg false [⟨some 2, none, [], .box 32 5 (.t 0)⟩,
  ⟨some 4, none, [], .mv (.k (.str []))⟩,
  ⟨some 5, none, [], .mv (.k (.v (.int .i64 0)))⟩])
 (.seq (.seq (.reg false [⟨some 6, none, [], .fld (.t 2) 1⟩,
  ⟨some 7, none, [], .ld (.t 6)⟩])
 (.cond (.t 7)
 (.seq (.reg false [⟨some 4, none, [], .mv (.k (.str []))⟩,
  ⟨some 5, none, [], .mv (.k (.v (.int .i64 3)))⟩])
 .ret)
 .skip))
 (.seq (.seq (.reg false [⟨some 8, none, [], .mv (.t 1)⟩,
  ⟨some 9, none, [], .ib .lt .i64 (.t 8) (.k (.v (.int .i64 0)))⟩,
  ⟨some 10, none, [], .mv (.t 9)⟩,
  ⟨some 11, some (10, false), [], .mv (.t 1)⟩,
  ⟨some 12, some (10, false), [], .fld (.t 2) 0⟩,
  ⟨some 13, some (10, false), [], .ld (.t 12)⟩,
  ⟨some 14, some (10, false), [], .len false (.t 13)⟩,
  ⟨some 15, some (10, false), [], .ib .ge .i64 (.t 11) (.t 14)⟩,
  ⟨some 16, none, [], .pick (.t 10) (.k (.v (.bool true))) (.t 15)⟩])
 (.cond (.t 16)
 (.seq (.reg false [⟨some 4, none, [], .mv (.k (.str []))⟩,
  ⟨some 5, none, [], .mv (.k (.v (.int .i64 2)))⟩])
 .ret)
 .skip))
 (.seq (.reg false [⟨some 17, none, [], .fld (.t 2) 0⟩,
  ⟨some 18, none, [], .ld (.t 17)⟩,
  ⟨some 19, none, [], .mv (.t 1)⟩,
  ⟨some 20, none, [], .idx (.t 18) (.t 19) 1⟩,
  ⟨some 21, none, [], .ld (.t 20)⟩,
  ⟨some 4, none, [], .mv (.t 21)⟩,
  ⟨some 5, none, [], .mv (.k (.v (.int .i64 0)))⟩])
 .ret))))
theorem comp_16 : compF Try.prog Try.f16 = some (ic_16, [.t 4, .t 5], 22) := by kernel_rfl
-- ros 16 [none, none] TYS [(.st [(.row 9 .str), .bool, (.int .i64), (.int .i64), (.int .i64)]), (.int .i64)]

/-- tollbar/tollbarref31.Arm -/
def ic_17 : IC := (.seq (.reg false [⟨some 3, none, [], .box 32 5 (.t 0)⟩,
  ⟨some 6, none, [], .new 32 [.nsl, (.v (.bool false)), (.v (.int .i64 0)), (.v (.int .i64 0)), (.v (.int .i64 0))]⟩,
  ⟨some 7, none, [], .mv (.k (.v (.int .i64 0)))⟩])
 (.seq (.seq (.reg false [⟨some 8, none, [], .mv (.t 1)⟩,
  ⟨some 9, none, [], .ib .lt .i64 (.t 8) (.k (.v (.int .i64 0)))⟩,
  ⟨some 10, none, [], .mv (.t 9)⟩,
  ⟨some 11, some (10, false), [], .mv (.t 2)⟩,
  ⟨some 12, some (10, false), [], .ib .lt .i64 (.t 11) (.k (.v (.int .i64 0)))⟩,
  ⟨some 13, none, [], .pick (.t 10) (.k (.v (.bool true))) (.t 12)⟩,
  ⟨some 14, none, [], .mv (.t 13)⟩,
  ⟨some 15, some (14, false), [], .mv (.t 2)⟩,
  ⟨some 16, some (14, false), [], .ib .gt .i64 (.t 15) (.k (.v (.int .i64 64)))⟩,
  ⟨some 17, none, [], .pick (.t 14) (.k (.v (.bool true))) (.t 16)⟩])
 (.cond (.t 17)
 (.seq (.reg false [⟨some 18, none, [], .lda (.t 3) 5⟩,
  ⟨none, none, [], .st (.t 6) (.t 18) 5⟩,
  ⟨some 7, none, [], .mv (.k (.v (.int .i64 1)))⟩])
 .ret)
 .skip))
 (.seq (.reg false [⟨some 19, none, [], .mv (.t 1)⟩,
  ⟨some 20, none, [], .fld (.t 3) 2⟩,
  ⟨none, none, [], .st (.t 20) (.t 19) 1⟩])
 (.seq (.reg false [⟨some 21, none, [], .mv (.t 2)⟩,
  ⟨some 22, none, [], .fld (.t 3) 3⟩,
  ⟨none, none, [], .st (.t 22) (.t 21) 1⟩])
 (.seq (.reg false [⟨some 23, none, [], .lda (.t 3) 5⟩,
  ⟨none, none, [], .st (.t 6) (.t 23) 5⟩,
  ⟨some 7, none, [], .mv (.k (.v (.int .i64 0)))⟩])
 .ret)))))
theorem comp_17 : compF Try.prog Try.f17 = some (ic_17, [.c 6 5 true, .t 7], 24) := by kernel_rfl
-- ros 17 [none, none, none] TYS [(.st [(.row 9 .str), .bool, (.int .i64), (.int .i64), (.int .i64)]), (.int .i64), (.int .i64)]

/-- (*tollbar/block.Device).Up -/
def ic_18 : IC := (.seq (.reg false [⟨some 2, none, [], .mv (.t 0)⟩,
  ⟨some 3, none, [], .isn 0 true (.t 2)⟩])
 (.cond (.t 3)
 (.reg false [⟨some 4, none, [], .mv (.t 0)⟩,
  ⟨some 5, none, [], .mv (.t 0)⟩,
  ⟨some 6, none, [], .chk (.t 4)⟩,
  ⟨some 7, none, [], .fld (.t 6) 1⟩,
  ⟨none, none, [], .st (.t 7) (.k (.v (.bool false))) 1⟩,
  ⟨some 8, none, [], .chk (.t 5)⟩,
  ⟨some 9, none, [], .fld (.t 8) 2⟩,
  ⟨none, none, [], .st (.t 9) (.k (.v (.pointer none))) 1⟩])
 .skip))
theorem comp_18 : compF Try.prog Try.f18 = some (ic_18, [], 10) := by kernel_rfl
-- ros 18 [none] TYS [none]

/-- tollbar/tollbarref31.Up -/
def ic_19 : IC := (.seq (.reg false [⟨some 1, none, [], .box 32 5 (.t 0)⟩,
  ⟨some 2, none, [], .new 32 [.nsl, (.v (.bool false)), (.v (.int .i64 0)), (.v (.int .i64 0)), (.v (.int .i64 0))]⟩])
 (.seq (.reg false [⟨some 3, none, [], .fld (.t 1) 1⟩,
  ⟨none, none, [], .st (.t 3) (.k (.v (.bool false))) 1⟩])
 (.seq (.reg false [⟨some 4, none, [], .fld (.t 1) 2⟩,
  ⟨none, none, [], .st (.t 4) (.k (.v (.int .i64 (-1)))) 1⟩])
 (.seq (.reg false [⟨some 5, none, [], .fld (.t 1) 3⟩,
  ⟨none, none, [], .st (.t 5) (.k (.v (.int .i64 0))) 1⟩])
 (.seq (.reg false [⟨some 6, none, [], .lda (.t 1) 5⟩,
  ⟨none, none, [], .st (.t 2) (.t 6) 5⟩])
 .ret)))))
theorem comp_19 : compF Try.prog Try.f19 = some (ic_19, [.c 2 5 true], 7) := by kernel_rfl
-- ros 19 [none] TYS [(.st [(.row 9 .str), .bool, (.int .i64), (.int .i64), (.int .i64)])]

/-- tollbar/tollbarlaw31.filled -/
def ic_20 : IC := (.seq (.reg false [⟨some 2, none, [], .mv (.k .nsl)⟩])
 (.seq (.reg false [⟨some 5, none, [], .mks (.bs 5) 1 (.k (.v (.int .i64 64))) (.k (.v (.int .i64 64)))⟩,
  ⟨some 3, none, [], .mv (.t 5)⟩])
 (.seq (.seq (.reg false [⟨some 4, none, [], .mv (.k (.v (.int .i64 0)))⟩])
 (.block 0
 (.loop
 (.seq (.seq (.reg false [⟨some 6, none, [], .mv (.t 4)⟩,
  ⟨some 7, none, [], .ib .lt .i64 (.t 6) (.k (.v (.int .i64 64)))⟩])
 (.cond (.t 7)
 .skip
 (.exit 0)))
 (.seq (.block 1
 (.reg false [⟨some 10, none, [], .mv (.t 3)⟩,
  ⟨some 11, none, [], .mv (.t 4)⟩,
  ⟨some 12, none, [], .mv (.t 0)⟩,
  ⟨some 13, none, [], .idx (.t 10) (.t 11) 1⟩,
  ⟨none, none, [], .st (.t 13) (.t 12) 1⟩]))
 (.reg false [⟨some 8, none, [], .mv (.t 4)⟩,
  ⟨some 9, none, [], .ib .add .i64 (.t 8) (.k (.v (.int .i64 1)))⟩,
  ⟨some 4, none, [], .mv (.t 9)⟩]))))))
 (.seq (.reg false [⟨some 14, none, [], .mv (.t 3)⟩,
  ⟨some 2, none, [], .mv (.t 14)⟩])
 .ret))))
theorem comp_20 : compF Try.prog Try.f20 = some (ic_20, [.t 2], 15) := by kernel_rfl
-- ros 20 [none] TYS [(.int .u8)]

/-- (*tollbar/block.Device).may -/
def ic_21 : IC := (.seq (.reg false [⟨some 4, none, [], .mv (.k (.v (.int .i64 0)))⟩])
 (.seq (.block 0
 (.seq (.reg false [⟨some 6, none, [], .mv (.t 0)⟩,
  ⟨some 7, none, [], .isn 0 false (.t 6)⟩,
  ⟨some 5, none, [], .mv (.t 7)⟩])
 (.cond (.t 5)
 (.seq (.reg false [⟨some 4, none, [], .mv (.k (.v (.int .i64 1)))⟩])
 .ret)
 (.seq (.reg false [⟨some 9, none, [], .mv (.t 0)⟩,
  ⟨some 10, none, [], .chk (.t 9)⟩,
  ⟨some 11, none, [], .fld (.t 10) 1⟩,
  ⟨some 12, none, [], .ld (.t 11)⟩,
  ⟨some 8, none, [], .mv (.t 12)⟩])
 (.cond (.t 8)
 (.seq (.reg false [⟨some 4, none, [], .mv (.k (.v (.int .i64 3)))⟩])
 .ret)
 (.seq (.reg false [⟨some 14, none, [], .mv (.t 1)⟩,
  ⟨some 15, none, [], .ib .lt .i64 (.t 14) (.k (.v (.int .i64 0)))⟩,
  ⟨some 16, none, [], .mv (.t 15)⟩,
  ⟨some 17, some (16, false), [], .mv (.t 1)⟩,
  ⟨some 18, some (16, false), [], .mv (.t 0)⟩,
  ⟨some 19, some (16, false), [], .chk (.t 18)⟩,
  ⟨some 20, some (16, false), [], .fld (.t 19) 0⟩,
  ⟨some 21, some (16, false), [], .ld (.t 20)⟩,
  ⟨some 22, some (16, false), [], .len false (.t 21)⟩,
  ⟨some 23, some (16, false), [], .ib .ge .i64 (.t 17) (.t 22)⟩,
  ⟨some 24, none, [], .pick (.t 16) (.k (.v (.bool true))) (.t 23)⟩,
  ⟨some 13, none, [], .mv (.t 24)⟩])
 (.cond (.t 13)
 (.seq (.reg false [⟨some 4, none, [], .mv (.k (.v (.int .i64 2)))⟩])
 .ret)
 .skip)))))))
 (.seq (.reg false [⟨some 4, none, [], .mv (.k (.v (.int .i64 0)))⟩])
 .ret)))
theorem comp_21 : compF Try.prog Try.f21 = some (ic_21, [.t 4], 25) := by kernel_rfl
-- ros 21 [none, none] TYS [none, (.int .i64)]

/-- tollbar/tollbarref31.noughts -/
def ic_22 : IC := (.seq (.reg false [⟨some 0, none, [], .mv (.k (.str []))⟩])
 (.seq (.reg false [⟨some 1, none, [], .mks (.bs 5) 1 (.k (.v (.int .i64 64))) (.k (.v (.int .i64 64)))⟩,
  ⟨some 2, none, [], .b2s (.t 1)⟩,
  ⟨some 0, none, [], .mv (.t 2)⟩])
 .ret))
theorem comp_22 : compF Try.prog Try.f22 = some (ic_22, [.t 0], 3) := by kernel_rfl
-- ros 22 [] TYS []

/-- tollbar/tollbarref31.with -/
def ic_23 : IC := (.seq (.reg false [⟨some 6, none, [], .mv (.k .nsl)⟩])
 (.seq (.reg false [⟨some 7, none, [], .mv (.k .nsl)⟩])
 (.seq (.reg false [⟨some 8, none, [], .mv (.t 7)⟩,
  ⟨some 9, none, [], .mv (.t 0)⟩,
  ⟨some 10, none, [], .app (.row 9 .str) 16 (.t 8) (.t 9)⟩,
  ⟨some 7, none, [], .mv (.t 10)⟩])
 (.seq (.reg false [⟨some 11, none, [], .mv (.t 7)⟩,
  ⟨some 12, none, [], .mv (.t 1)⟩,
  ⟨some 13, none, [], .mv (.t 2)⟩,
  ⟨some 14, none, [], .idx (.t 11) (.t 12) 1⟩,
  ⟨none, none, [], .st (.t 14) (.t 13) 1⟩])
 (.seq (.reg false [⟨some 15, none, [], .mv (.t 7)⟩,
  ⟨some 6, none, [], .mv (.t 15)⟩])
 .ret)))))
theorem comp_23 : compF Try.prog Try.f23 = some (ic_23, [.t 6], 16) := by kernel_rfl
-- ros 23 [(some (.row 9 .str)), none, none] TYS [(.row 9 .str), (.int .i64), .str]

end Go.Proofs.Ytcdjpciocamkiaa
end
section
/-
  The walk of tollbar/block.New (printed by a program of ours).
-/
set_option linter.unusedVariables false
set_option linter.unusedSimpArgs false
namespace Go.Proofs.Ytcdjpciocamkiaa
open Go.RowKit

noncomputable def tab_block_New : Nat → Option Con := look []
set_option maxHeartbeats 4000000 in
set_option maxRecDepth 100000 in
theorem vc_block_New (P : Program) (T : Tab P tab_block_New) (hm : P.follows .mixedOrders = true) : FnVC P tab_block_New ic_7 [.t 2] 13 con_block_New := by
  intro cargs ccks ce hce hob C hk
  apply Hidden.out
  replace hce : con_block_New_1 cargs ccks = some ce := hce
  · unfold con_block_New_1 at hce
    split at hce
    rotate_left
    · cases hce
    obtain rfl := Option.some.inj hce
    rename_i x1
    have hb1 := hob _ (List.mem_singleton.2 rfl)
    have hb2 := obl.1 hb1
    clear hb1 hob hce
    refine hb2.elim fun r hF => ?_
    clear hb2
    simp only [List.length_cons, List.length_nil, Nat.zero_add, Nat.reduceAdd] at hk
    have hr : F_block_New x1 = some r := by rw [lock_eq] at hF; exact hF
    unfold F_block_New at hr
    constructor
    (try cbv)
    refine sel_intro (fun h => ?_) (fun h => ?_)
    · have h1 : (ilt x1 (1 : Int)) = true := by first | exact h | (have h2 := h; simp only [choice_lk, lock_eq] at h2; exact h2) | (simp only [choice_lk, lock_eq] at h; exact h)
      rw [if_pos h1] at hr
      (try cbv)
      apply Hidden.out
      have e := Option.some.inj hr
      revert e
      rcases r with _ | _ <;> intro e
      · replace e := Sum.inl.inj e
        constructor
        refine ⟨_, hF, ?_⟩
        (try cbv); (try simp only [choice_lk, lock_eq, and_self, and_true, true_and]); (try first | exact e | exact e.symm | (and_intros <;> first | assumption | rfl | exact Eq.symm (by assumption)))
      · cases e
    · have h1 : (ilt x1 (1 : Int)) = false := by first | exact h | (have h2 := h; simp only [choice_lk, lock_eq] at h2; exact h2) | (simp only [choice_lk, lock_eq] at h; exact h)
      rw [if_neg (by rw [h1]; exact Bool.false_ne_true)] at hr
      (try cbv)
      refine sel_intro (fun h => ?_) (fun h => ?_)
      · have h1 : (ilt (1024 : Int) x1) = true := by first | exact h | (have h2 := h; simp only [choice_lk, lock_eq] at h2; exact h2) | (simp only [choice_lk, lock_eq] at h; exact h)
        rw [if_pos h1] at hr
        (try cbv)
        apply Hidden.out
        have e := Option.some.inj hr
        revert e
        rcases r with _ | _ <;> intro e
        · replace e := Sum.inl.inj e
          constructor
          refine ⟨_, hF, ?_⟩
          (try cbv); (try simp only [choice_lk, lock_eq, and_self, and_true, true_and]); (try first | exact e | exact e.symm | (and_intros <;> first | assumption | rfl | exact Eq.symm (by assumption)))
        · cases e
      · have h1 : (ilt (1024 : Int) x1) = false := by first | exact h | (have h2 := h; simp only [choice_lk, lock_eq] at h2; exact h2) | (simp only [choice_lk, lock_eq] at h; exact h)
        rw [if_neg (by rw [h1]; exact Bool.false_ne_true)] at hr
        (try cbv)
        have gg := guard_inv hr
        have g := gg.1
        replace hr := gg.2
        clear gg
        refine ⟨obl.2 (by first | (simp only [choice_lk, lock_eq, R.len, R.sub]; exact g) | exact g), ?_⟩
        apply Hidden.out
        have e := Option.some.inj hr
        revert e
        rcases r with _ | u0 <;> intro e
        · cases e
        · replace e := Sum.inr.inj e
          constructor
          refine ⟨_, hF, ?_⟩
          (try cbv); (try simp only [choice_lk, lock_eq, and_self, and_true, true_and]); (try first | exact e | exact e.symm | (and_intros <;> first | assumption | rfl | exact Eq.symm (by assumption)))
end Go.Proofs.Ytcdjpciocamkiaa
end
section
/-
  The walk of (*tollbar/block.Device).Arm (printed by a program of ours).
-/
set_option linter.unusedVariables false
set_option linter.unusedSimpArgs false
namespace Go.Proofs.Ytcdjpciocamkiaa
open Go.RowKit

noncomputable def tab_block_Device_Arm : Nat → Option Con := look []
set_option maxHeartbeats 4000000 in
set_option maxRecDepth 100000 in
theorem vc_block_Device_Arm (P : Program) (T : Tab P tab_block_Device_Arm) (hm : P.follows .mixedOrders = true) : FnVC P tab_block_Device_Arm ic_9 [.t 6] 28 con_block_Device_Arm := by
  intro cargs ccks ce hce hob C hk
  apply Hidden.out
  replace hce : altC (con_block_Device_Arm_1 cargs ccks) (altC (con_block_Device_Arm_2 cargs ccks) (con_block_Device_Arm_3 cargs ccks)) = some ce := hce
  replace hce := altC_inv hce
  rcases hce with hce | hce
  · unfold con_block_Device_Arm_1 at hce
    split at hce
    rotate_left
    · cases hce
    obtain rfl := Option.some.inj hce
    rename_i x1 x2 b1 x3 r1
    have hb1 := hob _ (List.mem_singleton.2 rfl)
    have hb2 := obl.1 hb1
    clear hb1 hob hce
    refine hb2.elim fun r hF => ?_
    clear hb2
    simp only [List.length_cons, List.length_nil, Nat.zero_add, Nat.reduceAdd] at hk
    have hr : F_block_Device_Arm x1 x2 b1 x3 r1 = some r := by rw [lock_eq] at hF; exact hF
    unfold F_block_Device_Arm at hr
    constructor
    (try cbv)
    refine sel_intro (fun h => ?_) (fun h => ?_)
    · have h1 : (ilt x1 (0 : Int)) = true := by first | exact h | (have h2 := h; simp only [choice_lk, lock_eq] at h2; exact h2) | (simp only [choice_lk, lock_eq] at h; exact h)
      rw [if_pos h1] at hr
      (try cbv)
      apply Hidden.out
      have e := Option.some.inj hr
      revert e
      rcases r with _ | _ <;> intro e
      · replace e := Sum.inl.inj e
        constructor
        refine ⟨_, hF, ?_⟩
        (try cbv); (try simp only [choice_lk, lock_eq, and_self, and_true, true_and]); (try first | exact e | exact e.symm | (and_intros <;> first | assumption | rfl | exact Eq.symm (by assumption)))
      · cases e
    · have h1 : (ilt x1 (0 : Int)) = false := by first | exact h | (have h2 := h; simp only [choice_lk, lock_eq] at h2; exact h2) | (simp only [choice_lk, lock_eq] at h; exact h)
      rw [if_neg (by rw [h1]; exact Bool.false_ne_true)] at hr
      (try cbv)
      refine sel_intro (fun h => ?_) (fun h => ?_)
      · have h1 : (ilt x2 (0 : Int)) = true := by first | exact h | (have h2 := h; simp only [choice_lk, lock_eq] at h2; exact h2) | (simp only [choice_lk, lock_eq] at h; exact h)
        rw [if_pos h1] at hr
        (try cbv)
        apply Hidden.out
        have e := Option.some.inj hr
        revert e
        rcases r with _ | _ <;> intro e
        · replace e := Sum.inl.inj e
          constructor
          refine ⟨_, hF, ?_⟩
          (try cbv); (try simp only [choice_lk, lock_eq, and_self, and_true, true_and]); (try first | exact e | exact e.symm | (and_intros <;> first | assumption | rfl | exact Eq.symm (by assumption)))
        · cases e
      · have h1 : (ilt x2 (0 : Int)) = false := by first | exact h | (have h2 := h; simp only [choice_lk, lock_eq] at h2; exact h2) | (simp only [choice_lk, lock_eq] at h; exact h)
        rw [if_neg (by rw [h1]; exact Bool.false_ne_true)] at hr
        (try cbv)
        refine sel_intro (fun h => ?_) (fun h => ?_)
        · have h1 : (ilt (64 : Int) x2) = true := by first | exact h | (have h2 := h; simp only [choice_lk, lock_eq] at h2; exact h2) | (simp only [choice_lk, lock_eq] at h; exact h)
          rw [if_pos h1] at hr
          (try cbv)
          apply Hidden.out
          have e := Option.some.inj hr
          revert e
          rcases r with _ | _ <;> intro e
          · replace e := Sum.inl.inj e
            constructor
            refine ⟨_, hF, ?_⟩
            (try cbv); (try simp only [choice_lk, lock_eq, and_self, and_true, true_and]); (try first | exact e | exact e.symm | (and_intros <;> first | assumption | rfl | exact Eq.symm (by assumption)))
          · cases e
        · have h1 : (ilt (64 : Int) x2) = false := by first | exact h | (have h2 := h; simp only [choice_lk, lock_eq] at h2; exact h2) | (simp only [choice_lk, lock_eq] at h; exact h)
          rw [if_neg (by rw [h1]; exact Bool.false_ne_true)] at hr
          (try cbv)
          apply Hidden.out
          have e := Option.some.inj hr
          revert e
          rcases r with _ | _ <;> intro e
          · cases e
          · replace e := Sum.inr.inj e
            constructor
            refine ⟨_, hF, ?_⟩
            (try cbv); (try simp only [choice_lk, lock_eq, and_self, and_true, true_and]); (try first | exact e | exact e.symm | (and_intros <;> first | assumption | rfl | exact Eq.symm (by assumption)))
  replace hce := altC_inv hce
  rcases hce with hce | hce
  · unfold con_block_Device_Arm_2 at hce
    split at hce
    rotate_left
    · cases hce
    obtain rfl := Option.some.inj hce
    rename_i x1 x2
    have hb1 := hob _ (List.mem_singleton.2 rfl)
    have hb2 := obl.1 hb1
    clear hb1 hob hce
    refine hb2.elim fun r hF => ?_
    clear hb2
    simp only [List.length_cons, List.length_nil, Nat.zero_add, Nat.reduceAdd] at hk
    have hr : F_block_Device_Arm_2 x1 x2 = some r := by rw [lock_eq] at hF; exact hF
    unfold F_block_Device_Arm_2 at hr
    constructor
    (try cbv)
    apply Hidden.out
    have e := Option.some.inj hr
    constructor
    refine ⟨_, hF, ?_⟩
    (try cbv); (try simp only [choice_lk, lock_eq, and_self, and_true, true_and]); (try first | exact e | exact e.symm | (and_intros <;> first | assumption | rfl | exact Eq.symm (by assumption)))
  · unfold con_block_Device_Arm_3 at hce
    split at hce
    rotate_left
    · cases hce
    obtain rfl := Option.some.inj hce
    rename_i x1 x2 b1 x3 r1 x4 x5
    have hb1 := hob _ (List.mem_singleton.2 rfl)
    have hb2 := obl.1 hb1
    clear hb1 hob hce
    refine hb2.elim fun r hF => ?_
    clear hb2
    simp only [List.length_cons, List.length_nil, Nat.zero_add, Nat.reduceAdd] at hk
    have hr : F_block_Device_Arm_3 x1 x2 b1 x3 r1 x4 x5 = some r := by rw [lock_eq] at hF; exact hF
    unfold F_block_Device_Arm_3 at hr
    constructor
    (try cbv)
    refine sel_intro (fun h => ?_) (fun h => ?_)
    · have h1 : (ilt x1 (0 : Int)) = true := by first | exact h | (have h2 := h; simp only [choice_lk, lock_eq] at h2; exact h2) | (simp only [choice_lk, lock_eq] at h; exact h)
      rw [if_pos h1] at hr
      (try cbv)
      apply Hidden.out
      have e := Option.some.inj hr
      obtain ⟨u0, u1, u2⟩ := r
      simp only [Prod.mk.injEq] at e
      obtain ⟨e0, e1, e2⟩ := e
      constructor
      refine ⟨_, hF, ?_⟩
      (try cbv); (try simp only [choice_lk, lock_eq, and_self, and_true, true_and]); (try first | exact e | exact e.symm | (and_intros <;> first | assumption | rfl | exact Eq.symm (by assumption)))
    · have h1 : (ilt x1 (0 : Int)) = false := by first | exact h | (have h2 := h; simp only [choice_lk, lock_eq] at h2; exact h2) | (simp only [choice_lk, lock_eq] at h; exact h)
      rw [if_neg (by rw [h1]; exact Bool.false_ne_true)] at hr
      (try cbv)
      refine sel_intro (fun h => ?_) (fun h => ?_)
      · have h1 : (ilt x2 (0 : Int)) = true := by first | exact h | (have h2 := h; simp only [choice_lk, lock_eq] at h2; exact h2) | (simp only [choice_lk, lock_eq] at h; exact h)
        rw [if_pos h1] at hr
        (try cbv)
        apply Hidden.out
        have e := Option.some.inj hr
        obtain ⟨u0, u1, u2⟩ := r
        simp only [Prod.mk.injEq] at e
        obtain ⟨e0, e1, e2⟩ := e
        constructor
        refine ⟨_, hF, ?_⟩
        (try cbv); (try simp only [choice_lk, lock_eq, and_self, and_true, true_and]); (try first | exact e | exact e.symm | (and_intros <;> first | assumption | rfl | exact Eq.symm (by assumption)))
      · have h1 : (ilt x2 (0 : Int)) = false := by first | exact h | (have h2 := h; simp only [choice_lk, lock_eq] at h2; exact h2) | (simp only [choice_lk, lock_eq] at h; exact h)
        rw [if_neg (by rw [h1]; exact Bool.false_ne_true)] at hr
        (try cbv)
        refine sel_intro (fun h => ?_) (fun h => ?_)
        · have h1 : (ilt (64 : Int) x2) = true := by first | exact h | (have h2 := h; simp only [choice_lk, lock_eq] at h2; exact h2) | (simp only [choice_lk, lock_eq] at h; exact h)
          rw [if_pos h1] at hr
          (try cbv)
          apply Hidden.out
          have e := Option.some.inj hr
          obtain ⟨u0, u1, u2⟩ := r
          simp only [Prod.mk.injEq] at e
          obtain ⟨e0, e1, e2⟩ := e
          constructor
          refine ⟨_, hF, ?_⟩
          (try cbv); (try simp only [choice_lk, lock_eq, and_self, and_true, true_and]); (try first | exact e | exact e.symm | (and_intros <;> first | assumption | rfl | exact Eq.symm (by assumption)))
        · have h1 : (ilt (64 : Int) x2) = false := by first | exact h | (have h2 := h; simp only [choice_lk, lock_eq] at h2; exact h2) | (simp only [choice_lk, lock_eq] at h; exact h)
          rw [if_neg (by rw [h1]; exact Bool.false_ne_true)] at hr
          (try cbv)
          apply Hidden.out
          have e := Option.some.inj hr
          obtain ⟨u0, u1, u2⟩ := r
          simp only [Prod.mk.injEq] at e
          obtain ⟨e0, e1, e2⟩ := e
          constructor
          refine ⟨_, hF, ?_⟩
          (try cbv); (try simp only [choice_lk, lock_eq, and_self, and_true, true_and]); (try first | exact e | exact e.symm | (and_intros <;> first | assumption | rfl | exact Eq.symm (by assumption)))
end Go.Proofs.Ytcdjpciocamkiaa
end
section
/-
  The walk of (*tollbar/block.Device).may (printed by a program of ours).
-/
set_option linter.unusedVariables false
set_option linter.unusedSimpArgs false
namespace Go.Proofs.Ytcdjpciocamkiaa
open Go.RowKit

noncomputable def tab_block_Device_may : Nat → Option Con := look []
set_option maxHeartbeats 4000000 in
set_option maxRecDepth 100000 in
theorem vc_block_Device_may (P : Program) (T : Tab P tab_block_Device_may) (hm : P.follows .mixedOrders = true) : FnVC P tab_block_Device_may ic_21 [.t 4] 25 con_block_Device_may := by
  intro cargs ccks ce hce hob C hk
  apply Hidden.out
  replace hce : altC (con_block_Device_may_1 cargs ccks) (altC (con_block_Device_may_2 cargs ccks) (con_block_Device_may_3 cargs ccks)) = some ce := hce
  replace hce := altC_inv hce
  rcases hce with hce | hce
  · unfold con_block_Device_may_1 at hce
    split at hce
    rotate_left
    · cases hce
    obtain rfl := Option.some.inj hce
    rename_i x1 b1 x2 r1
    have hb1 := hob _ (List.mem_singleton.2 rfl)
    have hb2 := obl.1 hb1
    clear hb1 hob hce
    refine hb2.elim fun r hF => ?_
    clear hb2
    simp only [List.length_cons, List.length_nil, Nat.zero_add, Nat.reduceAdd] at hk
    have hr : F_block_Device_may x1 b1 x2 r1 = some r := by rw [lock_eq] at hF; exact hF
    unfold F_block_Device_may at hr
    constructor
    (try cbv)
    refine sel_intro (fun h => ?_) (fun h => ?_)
    · have h1 : b1 = true := by first | exact h | (have h2 := h; simp only [choice_lk, lock_eq] at h2; exact h2) | (simp only [choice_lk, lock_eq] at h; exact h)
      rw [if_pos h1] at hr
      (try cbv)
      apply Hidden.out
      have e := Option.some.inj hr
      constructor
      refine ⟨_, hF, ?_⟩
      (try cbv); (try simp only [choice_lk, lock_eq, and_self, and_true, true_and]); (try first | exact e | exact e.symm | (and_intros <;> first | assumption | rfl | exact Eq.symm (by assumption)))
    · have h1 : b1 = false := by first | exact h | (have h2 := h; simp only [choice_lk, lock_eq] at h2; exact h2) | (simp only [choice_lk, lock_eq] at h; exact h)
      rw [if_neg (by rw [h1]; exact Bool.false_ne_true)] at hr
      (try cbv)
      refine sel_intro (fun h => ?_) (fun h => ?_)
      · have h1 : (ilt x1 (0 : Int)) = true := by first | exact h | (have h2 := h; simp only [choice_lk, lock_eq] at h2; exact h2) | (simp only [choice_lk, lock_eq] at h; exact h)
        rw [if_pos h1] at hr
        (try cbv)
        apply Hidden.out
        have e := Option.some.inj hr
        constructor
        refine ⟨_, hF, ?_⟩
        (try cbv); (try simp only [choice_lk, lock_eq, and_self, and_true, true_and]); (try first | exact e | exact e.symm | (and_intros <;> first | assumption | rfl | exact Eq.symm (by assumption)))
      · have h1 : (ilt x1 (0 : Int)) = false := by first | exact h | (have h2 := h; simp only [choice_lk, lock_eq] at h2; exact h2) | (simp only [choice_lk, lock_eq] at h; exact h)
        rw [if_neg (by rw [h1]; exact Bool.false_ne_true)] at hr
        (try cbv)
        refine sel_intro (fun h => ?_) (fun h => ?_)
        · have h1 : (ile (ofN (xlen r1)) x1) = true := by first | exact h | (have h2 := h; simp only [choice_lk, lock_eq] at h2; exact h2) | (simp only [choice_lk, lock_eq] at h; exact h)
          rw [if_pos h1] at hr
          (try cbv)
          apply Hidden.out
          have e := Option.some.inj hr
          constructor
          refine ⟨_, hF, ?_⟩
          (try cbv); (try simp only [choice_lk, lock_eq, and_self, and_true, true_and]); (try first | exact e | exact e.symm | (and_intros <;> first | assumption | rfl | exact Eq.symm (by assumption)))
        · have h1 : (ile (ofN (xlen r1)) x1) = false := by first | exact h | (have h2 := h; simp only [choice_lk, lock_eq] at h2; exact h2) | (simp only [choice_lk, lock_eq] at h; exact h)
          rw [if_neg (by rw [h1]; exact Bool.false_ne_true)] at hr
          (try cbv)
          apply Hidden.out
          have e := Option.some.inj hr
          constructor
          refine ⟨_, hF, ?_⟩
          (try cbv); (try simp only [choice_lk, lock_eq, and_self, and_true, true_and]); (try first | exact e | exact e.symm | (and_intros <;> first | assumption | rfl | exact Eq.symm (by assumption)))
  replace hce := altC_inv hce
  rcases hce with hce | hce
  · unfold con_block_Device_may_2 at hce
    split at hce
    rotate_left
    · cases hce
    obtain rfl := Option.some.inj hce
    rename_i x1 b1 x2 r1 x3 x4
    have hb1 := hob _ (List.mem_singleton.2 rfl)
    have hb2 := obl.1 hb1
    clear hb1 hob hce
    refine hb2.elim fun r hF => ?_
    clear hb2
    simp only [List.length_cons, List.length_nil, Nat.zero_add, Nat.reduceAdd] at hk
    have hr : F_block_Device_may_2 x1 b1 x2 r1 x3 x4 = some r := by rw [lock_eq] at hF; exact hF
    unfold F_block_Device_may_2 at hr
    constructor
    (try cbv)
    refine sel_intro (fun h => ?_) (fun h => ?_)
    · have h1 : b1 = true := by first | exact h | (have h2 := h; simp only [choice_lk, lock_eq] at h2; exact h2) | (simp only [choice_lk, lock_eq] at h; exact h)
      rw [if_pos h1] at hr
      (try cbv)
      apply Hidden.out
      have e := Option.some.inj hr
      constructor
      refine ⟨_, hF, ?_⟩
      (try cbv); (try simp only [choice_lk, lock_eq, and_self, and_true, true_and]); (try first | exact e | exact e.symm | (and_intros <;> first | assumption | rfl | exact Eq.symm (by assumption)))
    · have h1 : b1 = false := by first | exact h | (have h2 := h; simp only [choice_lk, lock_eq] at h2; exact h2) | (simp only [choice_lk, lock_eq] at h; exact h)
      rw [if_neg (by rw [h1]; exact Bool.false_ne_true)] at hr
      (try cbv)
      refine sel_intro (fun h => ?_) (fun h => ?_)
      · have h1 : (ilt x1 (0 : Int)) = true := by first | exact h | (have h2 := h; simp only [choice_lk, lock_eq] at h2; exact h2) | (simp only [choice_lk, lock_eq] at h; exact h)
        rw [if_pos h1] at hr
        (try cbv)
        apply Hidden.out
        have e := Option.some.inj hr
        constructor
        refine ⟨_, hF, ?_⟩
        (try cbv); (try simp only [choice_lk, lock_eq, and_self, and_true, true_and]); (try first | exact e | exact e.symm | (and_intros <;> first | assumption | rfl | exact Eq.symm (by assumption)))
      · have h1 : (ilt x1 (0 : Int)) = false := by first | exact h | (have h2 := h; simp only [choice_lk, lock_eq] at h2; exact h2) | (simp only [choice_lk, lock_eq] at h; exact h)
        rw [if_neg (by rw [h1]; exact Bool.false_ne_true)] at hr
        (try cbv)
        refine sel_intro (fun h => ?_) (fun h => ?_)
        · have h1 : (ile (ofN (xlen r1)) x1) = true := by first | exact h | (have h2 := h; simp only [choice_lk, lock_eq] at h2; exact h2) | (simp only [choice_lk, lock_eq] at h; exact h)
          rw [if_pos h1] at hr
          (try cbv)
          apply Hidden.out
          have e := Option.some.inj hr
          constructor
          refine ⟨_, hF, ?_⟩
          (try cbv); (try simp only [choice_lk, lock_eq, and_self, and_true, true_and]); (try first | exact e | exact e.symm | (and_intros <;> first | assumption | rfl | exact Eq.symm (by assumption)))
        · have h1 : (ile (ofN (xlen r1)) x1) = false := by first | exact h | (have h2 := h; simp only [choice_lk, lock_eq] at h2; exact h2) | (simp only [choice_lk, lock_eq] at h; exact h)
          rw [if_neg (by rw [h1]; exact Bool.false_ne_true)] at hr
          (try cbv)
          apply Hidden.out
          have e := Option.some.inj hr
          constructor
          refine ⟨_, hF, ?_⟩
          (try cbv); (try simp only [choice_lk, lock_eq, and_self, and_true, true_and]); (try first | exact e | exact e.symm | (and_intros <;> first | assumption | rfl | exact Eq.symm (by assumption)))
  · unfold con_block_Device_may_3 at hce
    split at hce
    rotate_left
    · cases hce
    obtain rfl := Option.some.inj hce
    rename_i x1
    have hb1 := hob _ (List.mem_singleton.2 rfl)
    have hb2 := obl.1 hb1
    clear hb1 hob hce
    refine hb2.elim fun r hF => ?_
    clear hb2
    simp only [List.length_cons, List.length_nil, Nat.zero_add, Nat.reduceAdd] at hk
    have hr : F_block_Device_may_3 x1 = some r := by rw [lock_eq] at hF; exact hF
    unfold F_block_Device_may_3 at hr
    constructor
    (try cbv)
    apply Hidden.out
    have e := Option.some.inj hr
    constructor
    refine ⟨_, hF, ?_⟩
    (try cbv); (try simp only [choice_lk, lock_eq, and_self, and_true, true_and]); (try first | exact e | exact e.symm | (and_intros <;> first | assumption | rfl | exact Eq.symm (by assumption)))
end Go.Proofs.Ytcdjpciocamkiaa
end
section
/-
  The walk of (*tollbar/block.Device).Write (printed by a program of ours).
-/
set_option linter.unusedVariables false
set_option linter.unusedSimpArgs false
namespace Go.Proofs.Ytcdjpciocamkiaa
open Go.RowKit

noncomputable def tab_block_Device_Write : Nat → Option Con := look [(21, con_block_Device_may)]
set_option maxHeartbeats 4000000 in
set_option maxRecDepth 100000 in
theorem vc_block_Device_Write (P : Program) (T : Tab P tab_block_Device_Write) (hm : P.follows .mixedOrders = true) : FnVC P tab_block_Device_Write ic_8 [.t 6] 86 con_block_Device_Write := by
  intro cargs ccks ce hce hob C hk
  apply Hidden.out
  replace hce : altC (con_block_Device_Write_1 cargs ccks) (altC (con_block_Device_Write_2 cargs ccks) (con_block_Device_Write_3 cargs ccks)) = some ce := hce
  replace hce := altC_inv hce
  rcases hce with hce | hce
  · unfold con_block_Device_Write_1 at hce
    split at hce
    rotate_left
    · cases hce
    obtain rfl := Option.some.inj hce
    rename_i x1 s1 b1 x2 r1
    have hb1 := hob _ (List.mem_singleton.2 rfl)
    have hb2 := obl.1 hb1
    clear hb1 hob hce
    refine hb2.elim fun r hF => ?_
    clear hb2
    simp only [List.length_cons, List.length_nil, Nat.zero_add, Nat.reduceAdd] at hk
    have hr : F_block_Device_Write x1 s1 b1 x2 r1 = some r := by rw [lock_eq] at hF; exact hF
    unfold F_block_Device_Write at hr
    constructor
    (try cbv)
    have hqe : ∃ qq, F_block_Device_may x1 b1 x2 r1 = some qq := by
      cases hq : F_block_Device_may x1 b1 x2 r1 with
      | none => rw [hq] at hr; cases hr
      | some qq => exact ⟨qq, rfl⟩
    refine ⟨obl.2 (by simp only [choice_lk, lock_eq]; exact hqe), (by rintro (_) _ <;> cbv), ?_⟩
    clear hqe
    intro y1 hx1
    simp only [choice_lk, lock_eq] at hx1
    all_goals (rw [hx1] at hr; dsimp only at hr; constructor; (try cbv))
    refine sel_intro (fun h => ?_) (fun h => ?_)
    · have h1 : (ieq y1 (0 : Int)) = false := by first | exact (bnot_t.1 h) | (have h2 := (bnot_t.1 h); simp only [choice_lk, lock_eq] at h2; exact h2) | (simp only [choice_lk, lock_eq] at h; exact (bnot_t.1 h))
      rw [if_neg (by rw [h1]; exact Bool.false_ne_true)] at hr
      (try cbv)
      apply Hidden.out
      have e := Option.some.inj hr
      obtain ⟨u0, u1, u2⟩ := r
      simp only [Prod.mk.injEq] at e
      obtain ⟨e0, e1, e2⟩ := e
      constructor
      refine ⟨_, hF, ?_⟩
      (try cbv); (try simp only [choice_lk, lock_eq, and_self, and_true, true_and]); (try first | exact e | exact e.symm | (and_intros <;> first | assumption | rfl | exact Eq.symm (by assumption)))
    · have h1 : (ieq y1 (0 : Int)) = true := by first | exact (bnot_f.1 h) | (have h2 := (bnot_f.1 h); simp only [choice_lk, lock_eq] at h2; exact h2) | (simp only [choice_lk, lock_eq] at h; exact (bnot_f.1 h))
      rw [if_pos h1] at hr
      (try cbv)
      refine sel_intro (fun h => ?_) (fun h => ?_)
      · have h1 : (ieq (ofN (xlen s1)) (64 : Int)) = false := by first | exact (bnot_t.1 h) | (have h2 := (bnot_t.1 h); simp only [choice_lk, lock_eq] at h2; exact h2) | (simp only [choice_lk, lock_eq] at h; exact (bnot_t.1 h))
        rw [if_neg (by rw [h1]; exact Bool.false_ne_true)] at hr
        (try cbv)
        apply Hidden.out
        have e := Option.some.inj hr
        obtain ⟨u0, u1, u2⟩ := r
        simp only [Prod.mk.injEq] at e
        obtain ⟨e0, e1, e2⟩ := e
        constructor
        refine ⟨_, hF, ?_⟩
        (try cbv); (try simp only [choice_lk, lock_eq, and_self, and_true, true_and]); (try first | exact e | exact e.symm | (and_intros <;> first | assumption | rfl | exact Eq.symm (by assumption)))
      · have h1 : (ieq (ofN (xlen s1)) (64 : Int)) = true := by first | exact (bnot_f.1 h) | (have h2 := (bnot_f.1 h); simp only [choice_lk, lock_eq] at h2; exact h2) | (simp only [choice_lk, lock_eq] at h; exact (bnot_f.1 h))
        rw [if_pos h1] at hr
        (try cbv)
        have gg := guard_inv hr
        have g := gg.1
        replace hr := gg.2
        clear gg
        refine ⟨obl.2 (by first | (simp only [choice_lk, lock_eq, R.len, R.sub]; exact g) | exact g), ?_⟩
        have gg := guard_inv hr
        have g := gg.1
        replace hr := gg.2
        clear gg
        refine ⟨obl.2 (by first | (simp only [choice_lk, lock_eq, R.len, R.sub]; exact g) | exact g), ?_⟩
        apply Hidden.out
        have e := Option.some.inj hr
        obtain ⟨u0, u1, u2⟩ := r
        simp only [Prod.mk.injEq] at e
        obtain ⟨e0, e1, e2⟩ := e
        constructor
        refine ⟨_, hF, ?_⟩
        (try cbv); (try simp only [choice_lk, lock_eq, and_self, and_true, true_and]); (try first | exact e | exact e.symm | (and_intros <;> first | assumption | rfl | exact Eq.symm (by assumption)))
  replace hce := altC_inv hce
  rcases hce with hce | hce
  · unfold con_block_Device_Write_2 at hce
    split at hce
    rotate_left
    · cases hce
    obtain rfl := Option.some.inj hce
    rename_i x1 s1 b1 x2 r1 x3 x4
    have hb1 := hob _ (List.mem_singleton.2 rfl)
    have hb2 := obl.1 hb1
    clear hb1 hob hce
    refine hb2.elim fun r hF => ?_
    clear hb2
    simp only [List.length_cons, List.length_nil, Nat.zero_add, Nat.reduceAdd] at hk
    have hr : F_block_Device_Write_2 x1 s1 b1 x2 r1 x3 x4 = some r := by rw [lock_eq] at hF; exact hF
    unfold F_block_Device_Write_2 at hr
    constructor
    (try cbv)
    have hqe : ∃ qq, F_block_Device_may_2 x1 b1 x2 r1 x3 x4 = some qq := by
      cases hq : F_block_Device_may_2 x1 b1 x2 r1 x3 x4 with
      | none => rw [hq] at hr; cases hr
      | some qq => exact ⟨qq, rfl⟩
    refine ⟨obl.2 (by simp only [choice_lk, lock_eq]; exact hqe), (by rintro (_) _ <;> cbv), ?_⟩
    clear hqe
    intro y1 hx1
    simp only [choice_lk, lock_eq] at hx1
    all_goals (rw [hx1] at hr; dsimp only at hr; constructor; (try cbv))
    refine sel_intro (fun h => ?_) (fun h => ?_)
    · have h1 : (ieq y1 (0 : Int)) = false := by first | exact (bnot_t.1 h) | (have h2 := (bnot_t.1 h); simp only [choice_lk, lock_eq] at h2; exact h2) | (simp only [choice_lk, lock_eq] at h; exact (bnot_t.1 h))
      rw [if_neg (by rw [h1]; exact Bool.false_ne_true)] at hr
      (try cbv)
      apply Hidden.out
      have e := Option.some.inj hr
      revert e
      rcases r with ⟨u0, u1, u2, u3⟩ | _ <;> intro e
      · replace e := Sum.inl.inj e
        simp only [Prod.mk.injEq] at e
        obtain ⟨e0, e1, e2, e3⟩ := e
        constructor
        refine ⟨_, hF, ?_⟩
        (try cbv); (try simp only [choice_lk, lock_eq, and_self, and_true, true_and]); (try first | exact e | exact e.symm | (and_intros <;> first | assumption | rfl | exact Eq.symm (by assumption)))
      · cases e
    · as_aux_lemma =>
      have h1 : (ieq y1 (0 : Int)) = true := by first | exact (bnot_f.1 h) | (have h2 := (bnot_f.1 h); simp only [choice_lk, lock_eq] at h2; exact h2) | (simp only [choice_lk, lock_eq] at h; exact (bnot_f.1 h))
      rw [if_pos h1] at hr
      (try cbv)
      refine sel_intro (fun h => ?_) (fun h => ?_)
      · have h1 : (ieq (ofN (xlen s1)) (64 : Int)) = false := by first | exact (bnot_t.1 h) | (have h2 := (bnot_t.1 h); simp only [choice_lk, lock_eq] at h2; exact h2) | (simp only [choice_lk, lock_eq] at h; exact (bnot_t.1 h))
        rw [if_neg (by rw [h1]; exact Bool.false_ne_true)] at hr
        (try cbv)
        apply Hidden.out
        have e := Option.some.inj hr
        revert e
        rcases r with ⟨u0, u1, u2, u3⟩ | _ <;> intro e
        · replace e := Sum.inl.inj e
          simp only [Prod.mk.injEq] at e
          obtain ⟨e0, e1, e2, e3⟩ := e
          constructor
          refine ⟨_, hF, ?_⟩
          (try cbv); (try simp only [choice_lk, lock_eq, and_self, and_true, true_and]); (try first | exact e | exact e.symm | (and_intros <;> first | assumption | rfl | exact Eq.symm (by assumption)))
        · cases e
      · have h1 : (ieq (ofN (xlen s1)) (64 : Int)) = true := by first | exact (bnot_f.1 h) | (have h2 := (bnot_f.1 h); simp only [choice_lk, lock_eq] at h2; exact h2) | (simp only [choice_lk, lock_eq] at h; exact (bnot_f.1 h))
        rw [if_pos h1] at hr
        (try cbv)
        refine sel_intro (fun h => ?_) (fun h => ?_)
        · have h1 : (ieq x3 (0 : Int)) = true := by first | exact h | (have h2 := h; simp only [choice_lk, lock_eq] at h2; exact h2) | (simp only [choice_lk, lock_eq] at h; exact h)
          rw [if_pos h1] at hr
          (try cbv)
          have gg := guard_inv hr
          have g := gg.1
          replace hr := gg.2
          clear gg
          refine ⟨obl.2 (by first | (simp only [choice_lk, lock_eq, R.len, R.sub]; exact g) | exact g), ?_⟩
          have gg := guard_inv hr
          have g := gg.1
          replace hr := gg.2
          clear gg
          refine ⟨obl.2 (by first | (simp only [choice_lk, lock_eq, R.len, R.sub]; exact g) | exact g), ?_⟩
          apply Hidden.out
          have e := Option.some.inj hr
          revert e
          rcases r with _ | u0 <;> intro e
          · cases e
          · replace e := Sum.inr.inj e
            constructor
            refine ⟨_, hF, ?_⟩
            (try cbv); (try simp only [choice_lk, lock_eq, and_self, and_true, true_and]); (try first | exact e | exact e.symm | (and_intros <;> first | assumption | rfl | exact Eq.symm (by assumption)))
        · have h1 : (ieq x3 (0 : Int)) = false := by first | exact h | (have h2 := h; simp only [choice_lk, lock_eq] at h2; exact h2) | (simp only [choice_lk, lock_eq] at h; exact h)
          rw [if_neg (by rw [h1]; exact Bool.false_ne_true)] at hr
          (try cbv)
          have gg := guard_inv hr
          have g := gg.1
          replace hr := gg.2
          clear gg
          refine ⟨obl.2 (by first | (simp only [choice_lk, lock_eq, R.len, R.sub]; exact g) | exact g), ?_⟩
          have gg := guard_inv hr
          have g := gg.1
          replace hr := gg.2
          clear gg
          refine ⟨obl.2 (by first | (simp only [choice_lk, lock_eq, R.len, R.sub]; exact g) | exact g), ?_⟩
          apply Hidden.out
          have e := Option.some.inj hr
          revert e
          rcases r with ⟨u0, u1, u2, u3⟩ | _ <;> intro e
          · replace e := Sum.inl.inj e
            simp only [Prod.mk.injEq] at e
            obtain ⟨e0, e1, e2, e3⟩ := e
            constructor
            refine ⟨_, hF, ?_⟩
            (try cbv); (try simp only [choice_lk, lock_eq, and_self, and_true, true_and]); (try first | exact e | exact e.symm | (and_intros <;> first | assumption | rfl | exact Eq.symm (by assumption)))
          · cases e
  · unfold con_block_Device_Write_3 at hce
    split at hce
    rotate_left
    · cases hce
    obtain rfl := Option.some.inj hce
    rename_i x1 s1
    have hb1 := hob _ (List.mem_singleton.2 rfl)
    have hb2 := obl.1 hb1
    clear hb1 hob hce
    refine hb2.elim fun r hF => ?_
    clear hb2
    simp only [List.length_cons, List.length_nil, Nat.zero_add, Nat.reduceAdd] at hk
    have hr : F_block_Device_Write_3 x1 s1 = some r := by rw [lock_eq] at hF; exact hF
    unfold F_block_Device_Write_3 at hr
    constructor
    (try cbv)
    have hqe : ∃ qq, F_block_Device_may_3 x1 = some qq := by
      cases hq : F_block_Device_may_3 x1 with
      | none => rw [hq] at hr; cases hr
      | some qq => exact ⟨qq, rfl⟩
    refine ⟨obl.2 (by simp only [choice_lk, lock_eq]; exact hqe), (by rintro (_) _ <;> cbv), ?_⟩
    clear hqe
    intro qq hx1
    simp only [choice_lk, lock_eq] at hx1
    rcases qq with _
    all_goals (rw [hx1] at hr; dsimp only at hr; constructor; (try cbv))
    refine sel_intro (fun h => ?_) (fun h => ?_)
    · have h1 : (ieq (1 : Int) (0 : Int)) = false := by first | exact (bnot_t.1 h) | (have h2 := (bnot_t.1 h); simp only [choice_lk, lock_eq] at h2; exact h2) | (simp only [choice_lk, lock_eq] at h; exact (bnot_t.1 h))
      rw [if_neg (by rw [h1]; exact Bool.false_ne_true)] at hr
      (try cbv)
      apply Hidden.out
      have e := Option.some.inj hr
      constructor
      refine ⟨_, hF, ?_⟩
      (try cbv); (try simp only [choice_lk, lock_eq, and_self, and_true, true_and]); (try first | exact e | exact e.symm | (and_intros <;> first | assumption | rfl | exact Eq.symm (by assumption)))
    · have h1 : (ieq (1 : Int) (0 : Int)) = true := by first | exact (bnot_f.1 h) | (have h2 := (bnot_f.1 h); simp only [choice_lk, lock_eq] at h2; exact h2) | (simp only [choice_lk, lock_eq] at h; exact (bnot_f.1 h))
      rw [if_pos h1] at hr
      (try cbv)
      refine sel_intro (fun h => ?_) (fun h => ?_)
      · have h1 : (ieq (ofN (xlen s1)) (64 : Int)) = false := by first | exact (bnot_t.1 h) | (have h2 := (bnot_t.1 h); simp only [choice_lk, lock_eq] at h2; exact h2) | (simp only [choice_lk, lock_eq] at h; exact (bnot_t.1 h))
        rw [if_neg (by rw [h1]; exact Bool.false_ne_true)] at hr
        (try cbv)
        apply Hidden.out
        have e := Option.some.inj hr
        constructor
        refine ⟨_, hF, ?_⟩
        (try cbv); (try simp only [choice_lk, lock_eq, and_self, and_true, true_and]); (try first | exact e | exact e.symm | (and_intros <;> first | assumption | rfl | exact Eq.symm (by assumption)))
      · have h1 : (ieq (ofN (xlen s1)) (64 : Int)) = true := by first | exact (bnot_f.1 h) | (have h2 := (bnot_f.1 h); simp only [choice_lk, lock_eq] at h2; exact h2) | (simp only [choice_lk, lock_eq] at h; exact (bnot_f.1 h))
        rw [if_pos h1] at hr
        (try cbv)
        cases hr
end Go.Proofs.Ytcdjpciocamkiaa
end
section
/-
  The walk of (*tollbar/block.Device).Down (printed by a program of ours).
-/
set_option linter.unusedVariables false
set_option linter.unusedSimpArgs false
namespace Go.Proofs.Ytcdjpciocamkiaa
open Go.RowKit

noncomputable def tab_block_Device_Down : Nat → Option Con := look []
set_option maxHeartbeats 4000000 in
set_option maxRecDepth 100000 in
theorem vc_block_Device_Down (P : Program) (T : Tab P tab_block_Device_Down) (hm : P.follows .mixedOrders = true) : FnVC P tab_block_Device_Down ic_10 [.t 2] 11 con_block_Device_Down := by
  intro cargs ccks ce hce hob C hk
  apply Hidden.out
  replace hce : altC (con_block_Device_Down_1 cargs ccks) (altC (con_block_Device_Down_2 cargs ccks) (con_block_Device_Down_3 cargs ccks)) = some ce := hce
  replace hce := altC_inv hce
  rcases hce with hce | hce
  · unfold con_block_Device_Down_1 at hce
    split at hce
    rotate_left
    · cases hce
    obtain rfl := Option.some.inj hce
    rename_i b1 x1 r1
    have hb1 := hob _ (List.mem_singleton.2 rfl)
    have hb2 := obl.1 hb1
    clear hb1 hob hce
    refine hb2.elim fun r hF => ?_
    clear hb2
    simp only [List.length_cons, List.length_nil, Nat.zero_add, Nat.reduceAdd] at hk
    have hr : F_block_Device_Down b1 x1 r1 = some r := by rw [lock_eq] at hF; exact hF
    unfold F_block_Device_Down at hr
    constructor
    (try cbv)
    apply Hidden.out
    have e := Option.some.inj hr
    constructor
    refine ⟨_, hF, ?_⟩
    (try cbv); (try simp only [choice_lk, lock_eq, and_self, and_true, true_and]); (try first | exact e | exact e.symm | (and_intros <;> first | assumption | rfl | exact Eq.symm (by assumption)))
  replace hce := altC_inv hce
  rcases hce with hce | hce
  · unfold con_block_Device_Down_2 at hce
    split at hce
    rotate_left
    · cases hce
    obtain rfl := Option.some.inj hce
    rename_i b1 x1 r1 x2 x3
    have hb1 := hob _ (List.mem_singleton.2 rfl)
    have hb2 := obl.1 hb1
    clear hb1 hob hce
    refine hb2.elim fun r hF => ?_
    clear hb2
    simp only [List.length_cons, List.length_nil, Nat.zero_add, Nat.reduceAdd] at hk
    have hr : F_block_Device_Down_2 b1 x1 r1 x2 x3 = some r := by rw [lock_eq] at hF; exact hF
    unfold F_block_Device_Down_2 at hr
    constructor
    (try cbv)
    apply Hidden.out
    have e := Option.some.inj hr
    constructor
    refine ⟨_, hF, ?_⟩
    (try cbv); (try simp only [choice_lk, lock_eq, and_self, and_true, true_and]); (try first | exact e | exact e.symm | (and_intros <;> first | assumption | rfl | exact Eq.symm (by assumption)))
  · unfold con_block_Device_Down_3 at hce
    split at hce
    rotate_left
    · cases hce
    obtain rfl := Option.some.inj hce
    have hb1 := hob _ (List.mem_singleton.2 rfl)
    have hb2 := obl.1 hb1
    clear hb1 hob hce
    refine hb2.elim fun r hF => ?_
    clear hb2
    simp only [List.length_cons, List.length_nil, Nat.zero_add, Nat.reduceAdd] at hk
    have hr : F_block_Device_Down_3 = some r := by rw [lock_eq] at hF; exact hF
    unfold F_block_Device_Down_3 at hr
    constructor
    (try cbv)
    apply Hidden.out
    have e := Option.some.inj hr
    constructor
    refine ⟨_, hF, ?_⟩
    (try cbv); (try simp only [choice_lk, lock_eq, and_self, and_true, true_and]); (try first | exact e | exact e.symm | (and_intros <;> first | assumption | rfl | exact Eq.symm (by assumption)))
end Go.Proofs.Ytcdjpciocamkiaa
end
section
/-
  The walk of (*tollbar/block.Device).Up (printed by a program of ours).
-/
set_option linter.unusedVariables false
set_option linter.unusedSimpArgs false
namespace Go.Proofs.Ytcdjpciocamkiaa
open Go.RowKit

noncomputable def tab_block_Device_Up : Nat → Option Con := look []
set_option maxHeartbeats 4000000 in
set_option maxRecDepth 100000 in
theorem vc_block_Device_Up (P : Program) (T : Tab P tab_block_Device_Up) (hm : P.follows .mixedOrders = true) : FnVC P tab_block_Device_Up ic_18 [] 10 con_block_Device_Up := by
  intro cargs ccks ce hce hob C hk
  apply Hidden.out
  replace hce : altC (con_block_Device_Up_1 cargs ccks) (altC (con_block_Device_Up_2 cargs ccks) (con_block_Device_Up_3 cargs ccks)) = some ce := hce
  replace hce := altC_inv hce
  rcases hce with hce | hce
  · unfold con_block_Device_Up_1 at hce
    split at hce
    rotate_left
    · cases hce
    obtain rfl := Option.some.inj hce
    rename_i b1 x1 r1
    have hb1 := hob _ (List.mem_singleton.2 rfl)
    have hb2 := obl.1 hb1
    clear hb1 hob hce
    refine hb2.elim fun r hF => ?_
    clear hb2
    simp only [List.length_cons, List.length_nil, Nat.zero_add, Nat.reduceAdd] at hk
    have hr : F_block_Device_Up b1 x1 r1 = some r := by rw [lock_eq] at hF; exact hF
    unfold F_block_Device_Up at hr
    constructor
    (try cbv)
    apply Hidden.out
    have e := Option.some.inj hr
    constructor
    refine ⟨_, hF, ?_⟩
    (try cbv); (try simp only [choice_lk, lock_eq, and_self, and_true, true_and]); (try first | exact e | exact e.symm | (and_intros <;> first | assumption | rfl | exact Eq.symm (by assumption)))
  replace hce := altC_inv hce
  rcases hce with hce | hce
  · unfold con_block_Device_Up_2 at hce
    split at hce
    rotate_left
    · cases hce
    obtain rfl := Option.some.inj hce
    rename_i b1 x1 r1 x2 x3
    have hb1 := hob _ (List.mem_singleton.2 rfl)
    have hb2 := obl.1 hb1
    clear hb1 hob hce
    refine hb2.elim fun r hF => ?_
    clear hb2
    simp only [List.length_cons, List.length_nil, Nat.zero_add, Nat.reduceAdd] at hk
    have hr : F_block_Device_Up_2 b1 x1 r1 x2 x3 = some r := by rw [lock_eq] at hF; exact hF
    unfold F_block_Device_Up_2 at hr
    constructor
    (try cbv)
    apply Hidden.out
    have e := Option.some.inj hr
    constructor
    refine ⟨_, hF, ?_⟩
    (try cbv); (try simp only [choice_lk, lock_eq, and_self, and_true, true_and]); (try first | exact e | exact e.symm | (and_intros <;> first | assumption | rfl | exact Eq.symm (by assumption)))
  · unfold con_block_Device_Up_3 at hce
    split at hce
    rotate_left
    · cases hce
    obtain rfl := Option.some.inj hce
    have hb1 := hob _ (List.mem_singleton.2 rfl)
    have hb2 := obl.1 hb1
    clear hb1 hob hce
    refine hb2.elim fun r hF => ?_
    clear hb2
    simp only [List.length_cons, List.length_nil, Nat.zero_add, Nat.reduceAdd] at hk
    have hr : F_block_Device_Up_3 = some r := by rw [lock_eq] at hF; exact hF
    unfold F_block_Device_Up_3 at hr
    constructor
    (try cbv)
    apply Hidden.out
    have e := Option.some.inj hr
    constructor
    refine ⟨_, hF, ?_⟩
    (try cbv); (try simp only [choice_lk, lock_eq, and_self, and_true, true_and]); (try first | exact e | exact e.symm | (and_intros <;> first | assumption | rfl | exact Eq.symm (by assumption)))
end Go.Proofs.Ytcdjpciocamkiaa
end
section
/-
  The walk of (*tollbar/block.Device).Read (printed by a program of ours).
-/
set_option linter.unusedVariables false
set_option linter.unusedSimpArgs false
namespace Go.Proofs.Ytcdjpciocamkiaa
open Go.RowKit

noncomputable def tab_block_Device_Read : Nat → Option Con := look [(21, con_block_Device_may)]
set_option maxHeartbeats 4000000 in
set_option maxRecDepth 100000 in
theorem vc_block_Device_Read (P : Program) (T : Tab P tab_block_Device_Read) (hm : P.follows .mixedOrders = true) : FnVC P tab_block_Device_Read ic_15 [.t 4, .t 5] 22 con_block_Device_Read := by
  intro cargs ccks ce hce hob C hk
  apply Hidden.out
  replace hce : altC (con_block_Device_Read_1 cargs ccks) (altC (con_block_Device_Read_2 cargs ccks) (con_block_Device_Read_3 cargs ccks)) = some ce := hce
  replace hce := altC_inv hce
  rcases hce with hce | hce
  · unfold con_block_Device_Read_1 at hce
    split at hce
    rotate_left
    · cases hce
    obtain rfl := Option.some.inj hce
    rename_i x1 b1 x2 r1
    have hb1 := hob _ (List.mem_singleton.2 rfl)
    have hb2 := obl.1 hb1
    clear hb1 hob hce
    refine hb2.elim fun r hF => ?_
    clear hb2
    simp only [List.length_cons, List.length_nil, Nat.zero_add, Nat.reduceAdd] at hk
    have hr : F_block_Device_Read x1 b1 x2 r1 = some r := by rw [lock_eq] at hF; exact hF
    unfold F_block_Device_Read at hr
    constructor
    (try cbv)
    have hqe : ∃ qq, F_block_Device_may x1 b1 x2 r1 = some qq := by
      cases hq : F_block_Device_may x1 b1 x2 r1 with
      | none => rw [hq] at hr; cases hr
      | some qq => exact ⟨qq, rfl⟩
    refine ⟨obl.2 (by simp only [choice_lk, lock_eq]; exact hqe), (by rintro (_) _ <;> cbv), ?_⟩
    clear hqe
    intro y1 hx1
    simp only [choice_lk, lock_eq] at hx1
    all_goals (rw [hx1] at hr; dsimp only at hr; constructor; (try cbv))
    refine sel_intro (fun h => ?_) (fun h => ?_)
    · have h1 : (ieq y1 (0 : Int)) = false := by first | exact (bnot_t.1 h) | (have h2 := (bnot_t.1 h); simp only [choice_lk, lock_eq] at h2; exact h2) | (simp only [choice_lk, lock_eq] at h; exact (bnot_t.1 h))
      rw [if_neg (by rw [h1]; exact Bool.false_ne_true)] at hr
      (try cbv)
      apply Hidden.out
      have e := Option.some.inj hr
      obtain ⟨u0, u1⟩ := r
      simp only [Prod.mk.injEq] at e
      obtain ⟨e0, e1⟩ := e
      constructor
      refine ⟨_, hF, ?_⟩
      (try cbv); (try simp only [choice_lk, lock_eq, and_self, and_true, true_and]); (try first | exact e | exact e.symm | (and_intros <;> first | assumption | rfl | exact Eq.symm (by assumption)))
    · have h1 : (ieq y1 (0 : Int)) = true := by first | exact (bnot_f.1 h) | (have h2 := (bnot_f.1 h); simp only [choice_lk, lock_eq] at h2; exact h2) | (simp only [choice_lk, lock_eq] at h; exact (bnot_f.1 h))
      rw [if_pos h1] at hr
      (try cbv)
      have gg := guard_inv hr
      have g := gg.1
      replace hr := gg.2
      clear gg
      refine ⟨obl.2 (by first | (simp only [choice_lk, lock_eq, R.len, R.sub]; exact g) | exact g), ?_⟩
      have gg := guard_inv hr
      have g := gg.1
      replace hr := gg.2
      clear gg
      refine ⟨obl.2 (by first | (simp only [choice_lk, lock_eq, R.len, R.sub]; exact g) | exact g), ?_⟩
      apply Hidden.out
      have e := Option.some.inj hr
      obtain ⟨u0, u1⟩ := r
      simp only [Prod.mk.injEq] at e
      obtain ⟨e0, e1⟩ := e
      constructor
      refine ⟨_, hF, ?_⟩
      (try cbv); (try simp only [choice_lk, lock_eq, and_self, and_true, true_and]); (try first | exact e | exact e.symm | (and_intros <;> first | assumption | rfl | exact Eq.symm (by assumption)))
  replace hce := altC_inv hce
  rcases hce with hce | hce
  · unfold con_block_Device_Read_2 at hce
    split at hce
    rotate_left
    · cases hce
    obtain rfl := Option.some.inj hce
    rename_i x1
    have hb1 := hob _ (List.mem_singleton.2 rfl)
    have hb2 := obl.1 hb1
    clear hb1 hob hce
    refine hb2.elim fun r hF => ?_
    clear hb2
    simp only [List.length_cons, List.length_nil, Nat.zero_add, Nat.reduceAdd] at hk
    have hr : F_block_Device_Read_2 x1 = some r := by rw [lock_eq] at hF; exact hF
    unfold F_block_Device_Read_2 at hr
    constructor
    (try cbv)
    have hqe : ∃ qq, F_block_Device_may_3 x1 = some qq := by
      cases hq : F_block_Device_may_3 x1 with
      | none => rw [hq] at hr; cases hr
      | some qq => exact ⟨qq, rfl⟩
    refine ⟨obl.2 (by simp only [choice_lk, lock_eq]; exact hqe), (by rintro (_) _ <;> cbv), ?_⟩
    clear hqe
    intro qq hx1
    simp only [choice_lk, lock_eq] at hx1
    rcases qq with _
    all_goals (rw [hx1] at hr; dsimp only at hr; constructor; (try cbv))
    refine sel_intro (fun h => ?_) (fun h => ?_)
    · have h1 : (ieq (1 : Int) (0 : Int)) = false := by first | exact (bnot_t.1 h) | (have h2 := (bnot_t.1 h); simp only [choice_lk, lock_eq] at h2; exact h2) | (simp only [choice_lk, lock_eq] at h; exact (bnot_t.1 h))
      rw [if_neg (by rw [h1]; exact Bool.false_ne_true)] at hr
      (try cbv)
      apply Hidden.out
      have e := Option.some.inj hr
      constructor
      refine ⟨_, hF, ?_⟩
      (try cbv); (try simp only [choice_lk, lock_eq, and_self, and_true, true_and]); (try first | exact e | exact e.symm | (and_intros <;> first | assumption | rfl | exact Eq.symm (by assumption)))
    · have h1 : (ieq (1 : Int) (0 : Int)) = true := by first | exact (bnot_f.1 h) | (have h2 := (bnot_f.1 h); simp only [choice_lk, lock_eq] at h2; exact h2) | (simp only [choice_lk, lock_eq] at h; exact (bnot_f.1 h))
      rw [if_pos h1] at hr
      (try cbv)
      cases hr
  · unfold con_block_Device_Read_3 at hce
    split at hce
    rotate_left
    · cases hce
    obtain rfl := Option.some.inj hce
    rename_i x1 b1 x2 r1 x3 x4
    have hb1 := hob _ (List.mem_singleton.2 rfl)
    have hb2 := obl.1 hb1
    clear hb1 hob hce
    refine hb2.elim fun r hF => ?_
    clear hb2
    simp only [List.length_cons, List.length_nil, Nat.zero_add, Nat.reduceAdd] at hk
    have hr : F_block_Device_Read_3 x1 b1 x2 r1 x3 x4 = some r := by rw [lock_eq] at hF; exact hF
    unfold F_block_Device_Read_3 at hr
    constructor
    (try cbv)
    have hqe : ∃ qq, F_block_Device_may_2 x1 b1 x2 r1 x3 x4 = some qq := by
      cases hq : F_block_Device_may_2 x1 b1 x2 r1 x3 x4 with
      | none => rw [hq] at hr; cases hr
      | some qq => exact ⟨qq, rfl⟩
    refine ⟨obl.2 (by simp only [choice_lk, lock_eq]; exact hqe), (by rintro (_) _ <;> cbv), ?_⟩
    clear hqe
    intro y1 hx1
    simp only [choice_lk, lock_eq] at hx1
    all_goals (rw [hx1] at hr; dsimp only at hr; constructor; (try cbv))
    refine sel_intro (fun h => ?_) (fun h => ?_)
    · have h1 : (ieq y1 (0 : Int)) = false := by first | exact (bnot_t.1 h) | (have h2 := (bnot_t.1 h); simp only [choice_lk, lock_eq] at h2; exact h2) | (simp only [choice_lk, lock_eq] at h; exact (bnot_t.1 h))
      rw [if_neg (by rw [h1]; exact Bool.false_ne_true)] at hr
      (try cbv)
      apply Hidden.out
      have e := Option.some.inj hr
      obtain ⟨u0, u1⟩ := r
      simp only [Prod.mk.injEq] at e
      obtain ⟨e0, e1⟩ := e
      constructor
      refine ⟨_, hF, ?_⟩
      (try cbv); (try simp only [choice_lk, lock_eq, and_self, and_true, true_and]); (try first | exact e | exact e.symm | (and_intros <;> first | assumption | rfl | exact Eq.symm (by assumption)))
    · have h1 : (ieq y1 (0 : Int)) = true := by first | exact (bnot_f.1 h) | (have h2 := (bnot_f.1 h); simp only [choice_lk, lock_eq] at h2; exact h2) | (simp only [choice_lk, lock_eq] at h; exact (bnot_f.1 h))
      rw [if_pos h1] at hr
      (try cbv)
      have gg := guard_inv hr
      have g := gg.1
      replace hr := gg.2
      clear gg
      refine ⟨obl.2 (by first | (simp only [choice_lk, lock_eq, R.len, R.sub]; exact g) | exact g), ?_⟩
      have gg := guard_inv hr
      have g := gg.1
      replace hr := gg.2
      clear gg
      refine ⟨obl.2 (by first | (simp only [choice_lk, lock_eq, R.len, R.sub]; exact g) | exact g), ?_⟩
      apply Hidden.out
      have e := Option.some.inj hr
      obtain ⟨u0, u1⟩ := r
      simp only [Prod.mk.injEq] at e
      obtain ⟨e0, e1⟩ := e
      constructor
      refine ⟨_, hF, ?_⟩
      (try cbv); (try simp only [choice_lk, lock_eq, and_self, and_true, true_and]); (try first | exact e | exact e.symm | (and_intros <;> first | assumption | rfl | exact Eq.symm (by assumption)))
end Go.Proofs.Ytcdjpciocamkiaa
end
section
/-
  The walk of (*tollbar/block.Device).Writes (printed by a program of ours).
-/
set_option linter.unusedVariables false
set_option linter.unusedSimpArgs false
namespace Go.Proofs.Ytcdjpciocamkiaa
open Go.RowKit

noncomputable def tab_block_Device_Writes : Nat → Option Con := look []
set_option maxHeartbeats 4000000 in
set_option maxRecDepth 100000 in
theorem vc_block_Device_Writes (P : Program) (T : Tab P tab_block_Device_Writes) (hm : P.follows .mixedOrders = true) : FnVC P tab_block_Device_Writes ic_11 [.t 2] 9 con_block_Device_Writes := by
  intro cargs ccks ce hce hob C hk
  apply Hidden.out
  replace hce : altC (con_block_Device_Writes_1 cargs ccks) (altC (con_block_Device_Writes_2 cargs ccks) (con_block_Device_Writes_3 cargs ccks)) = some ce := hce
  replace hce := altC_inv hce
  rcases hce with hce | hce
  · unfold con_block_Device_Writes_1 at hce
    split at hce
    rotate_left
    · cases hce
    obtain rfl := Option.some.inj hce
    rename_i b1 x1 r1
    have hb1 := hob _ (List.mem_singleton.2 rfl)
    have hb2 := obl.1 hb1
    clear hb1 hob hce
    refine hb2.elim fun r hF => ?_
    clear hb2
    simp only [List.length_cons, List.length_nil, Nat.zero_add, Nat.reduceAdd] at hk
    have hr : F_block_Device_Writes b1 x1 r1 = some r := by rw [lock_eq] at hF; exact hF
    unfold F_block_Device_Writes at hr
    constructor
    (try cbv)
    apply Hidden.out
    have e := Option.some.inj hr
    constructor
    refine ⟨_, hF, ?_⟩
    (try cbv); (try simp only [choice_lk, lock_eq, and_self, and_true, true_and]); (try first | exact e | exact e.symm | (and_intros <;> first | assumption | rfl | exact Eq.symm (by assumption)))
  replace hce := altC_inv hce
  rcases hce with hce | hce
  · unfold con_block_Device_Writes_2 at hce
    split at hce
    rotate_left
    · cases hce
    obtain rfl := Option.some.inj hce
    have hb1 := hob _ (List.mem_singleton.2 rfl)
    have hb2 := obl.1 hb1
    clear hb1 hob hce
    refine hb2.elim fun r hF => ?_
    clear hb2
    simp only [List.length_cons, List.length_nil, Nat.zero_add, Nat.reduceAdd] at hk
    have hr : F_block_Device_Writes_2 = some r := by rw [lock_eq] at hF; exact hF
    unfold F_block_Device_Writes_2 at hr
    constructor
    (try cbv)
    apply Hidden.out
    have e := Option.some.inj hr
    constructor
    refine ⟨_, hF, ?_⟩
    (try cbv); (try simp only [choice_lk, lock_eq, and_self, and_true, true_and]); (try first | exact e | exact e.symm | (and_intros <;> first | assumption | rfl | exact Eq.symm (by assumption)))
  · unfold con_block_Device_Writes_3 at hce
    split at hce
    rotate_left
    · cases hce
    obtain rfl := Option.some.inj hce
    rename_i b1 x1 r1 x2 x3
    have hb1 := hob _ (List.mem_singleton.2 rfl)
    have hb2 := obl.1 hb1
    clear hb1 hob hce
    refine hb2.elim fun r hF => ?_
    clear hb2
    simp only [List.length_cons, List.length_nil, Nat.zero_add, Nat.reduceAdd] at hk
    have hr : F_block_Device_Writes_3 b1 x1 r1 x2 x3 = some r := by rw [lock_eq] at hF; exact hF
    unfold F_block_Device_Writes_3 at hr
    constructor
    (try cbv)
    apply Hidden.out
    have e := Option.some.inj hr
    constructor
    refine ⟨_, hF, ?_⟩
    (try cbv); (try simp only [choice_lk, lock_eq, and_self, and_true, true_and]); (try first | exact e | exact e.symm | (and_intros <;> first | assumption | rfl | exact Eq.symm (by assumption)))
end Go.Proofs.Ytcdjpciocamkiaa
end
section
/-
  The walk of (*tollbar/block.Device).Blocks (printed by a program of ours).
-/
set_option linter.unusedVariables false
set_option linter.unusedSimpArgs false
namespace Go.Proofs.Ytcdjpciocamkiaa
open Go.RowKit

noncomputable def tab_block_Device_Blocks : Nat → Option Con := look []
set_option maxHeartbeats 4000000 in
set_option maxRecDepth 100000 in
theorem vc_block_Device_Blocks (P : Program) (T : Tab P tab_block_Device_Blocks) (hm : P.follows .mixedOrders = true) : FnVC P tab_block_Device_Blocks ic_12 [.t 2] 10 con_block_Device_Blocks := by
  intro cargs ccks ce hce hob C hk
  apply Hidden.out
  replace hce : altC (con_block_Device_Blocks_1 cargs ccks) (con_block_Device_Blocks_2 cargs ccks) = some ce := hce
  replace hce := altC_inv hce
  rcases hce with hce | hce
  · unfold con_block_Device_Blocks_1 at hce
    split at hce
    rotate_left
    · cases hce
    obtain rfl := Option.some.inj hce
    rename_i b1 x1 r1
    have hb1 := hob _ (List.mem_singleton.2 rfl)
    have hb2 := obl.1 hb1
    clear hb1 hob hce
    refine hb2.elim fun r hF => ?_
    clear hb2
    simp only [List.length_cons, List.length_nil, Nat.zero_add, Nat.reduceAdd] at hk
    have hr : F_block_Device_Blocks b1 x1 r1 = some r := by rw [lock_eq] at hF; exact hF
    unfold F_block_Device_Blocks at hr
    constructor
    (try cbv)
    apply Hidden.out
    have e := Option.some.inj hr
    constructor
    refine ⟨_, hF, ?_⟩
    (try cbv); (try simp only [choice_lk, lock_eq, and_self, and_true, true_and]); (try first | exact e | exact e.symm | (and_intros <;> first | assumption | rfl | exact Eq.symm (by assumption)))
  · unfold con_block_Device_Blocks_2 at hce
    split at hce
    rotate_left
    · cases hce
    obtain rfl := Option.some.inj hce
    have hb1 := hob _ (List.mem_singleton.2 rfl)
    have hb2 := obl.1 hb1
    clear hb1 hob hce
    refine hb2.elim fun r hF => ?_
    clear hb2
    simp only [List.length_cons, List.length_nil, Nat.zero_add, Nat.reduceAdd] at hk
    have hr : F_block_Device_Blocks_2 = some r := by rw [lock_eq] at hF; exact hF
    unfold F_block_Device_Blocks_2 at hr
    constructor
    (try cbv)
    apply Hidden.out
    have e := Option.some.inj hr
    constructor
    refine ⟨_, hF, ?_⟩
    (try cbv); (try simp only [choice_lk, lock_eq, and_self, and_true, true_and]); (try first | exact e | exact e.symm | (and_intros <;> first | assumption | rfl | exact Eq.symm (by assumption)))
end Go.Proofs.Ytcdjpciocamkiaa
end
section
/-
  The walk of tollbar/tollbarlaw31.awake (printed by a program of ours).
-/
set_option linter.unusedVariables false
set_option linter.unusedSimpArgs false
namespace Go.Proofs.Ytcdjpciocamkiaa
open Go.RowKit

noncomputable def tab_tollbarlaw31_awake : Nat → Option Con := look [(7, con_block_New), (9, con_block_Device_Arm), (8, con_block_Device_Write), (10, con_block_Device_Down), (18, con_block_Device_Up), (15, con_block_Device_Read), (11, con_block_Device_Writes), (12, con_block_Device_Blocks)]
set_option maxHeartbeats 4000000 in
set_option maxRecDepth 100000 in
theorem vc_tollbarlaw31_awake (P : Program) (T : Tab P tab_tollbarlaw31_awake) (hm : P.follows .mixedOrders = true) : FnVC P tab_tollbarlaw31_awake ic_6 [.t 0] 83 con_tollbarlaw31_awake := by
  intro cargs ccks ce hce hob C hk
  apply Hidden.out
  replace hce : con_tollbarlaw31_awake_1 cargs ccks = some ce := hce
  · unfold con_tollbarlaw31_awake_1 at hce
    split at hce
    rotate_left
    · cases hce
    obtain rfl := Option.some.inj hce
    have hb1 := hob _ (List.mem_singleton.2 rfl)
    have hb2 := obl.1 hb1
    clear hb1 hob hce
    refine hb2.elim fun r hF => ?_
    clear hb2
    simp only [List.length_cons, List.length_nil, Nat.zero_add, Nat.reduceAdd] at hk
    have hr : F_tollbarlaw31_awake = some r := by rw [lock_eq] at hF; exact hF
    unfold F_tollbarlaw31_awake at hr
    constructor
    (try cbv)
    have hqe : ∃ qq, F_block_New (2 : Int) = some qq := by
      cases hq : F_block_New (2 : Int) with
      | none => rw [hq] at hr; cases hr
      | some qq => exact ⟨qq, rfl⟩
    refine ⟨obl.2 (by simp only [choice_lk, lock_eq]; exact hqe), (by rintro (_ | _) _ <;> cbv), ?_⟩
    clear hqe
    intro qq hx1
    simp only [choice_lk, lock_eq] at hx1
    rcases qq with _ | q1
    all_goals (rw [hx1] at hr; dsimp only at hr; constructor; (try cbv))
    · apply Hidden.out
      have e := Option.some.inj hr
      constructor
      refine ⟨_, hF, ?_⟩
      (try cbv); (try simp only [choice_lk, lock_eq, and_self, and_true, true_and]); (try first | exact e | exact e.symm | (and_intros <;> first | assumption | rfl | exact Eq.symm (by assumption)))
    · have gg := guard_inv hr
      have g := gg.1
      replace hr := gg.2
      clear gg
      refine ⟨obl.2 (by first | (simp only [choice_lk, lock_eq, R.len, R.sub]; exact g) | exact g), ?_⟩
      have gg := guard_inv hr
      have g := gg.1
      replace hr := gg.2
      clear gg
      refine ⟨obl.2 (by first | (simp only [choice_lk, lock_eq, R.len, R.sub]; exact g) | exact g), ?_⟩
      have gg := guard_inv hr
      have g := gg.1
      replace hr := gg.2
      clear gg
      refine ⟨obl.2 (by first | (simp only [choice_lk, lock_eq, R.len, R.sub]; exact g) | exact g), ?_⟩
      have gg := guard_inv hr
      have g := gg.1
      replace hr := gg.2
      clear gg
      refine ⟨obl.2 (by first | (simp only [choice_lk, lock_eq, R.len, R.sub]; exact g) | exact g), ?_⟩
      have gg := guard_inv hr
      have g := gg.1
      replace hr := gg.2
      clear gg
      refine ⟨obl.2 (by first | (simp only [choice_lk, lock_eq, R.len, R.sub]; exact g) | exact g), ?_⟩
      have hqe : ∃ qq, F_block_Device_Arm (0 : Int) (3 : Int) false (0 : Int) q1 = some qq := by
        cases hq : F_block_Device_Arm (0 : Int) (3 : Int) false (0 : Int) q1 with
        | none => rw [hq] at hr; cases hr
        | some qq => exact ⟨qq, rfl⟩
      refine ⟨obl.2 (by simp only [choice_lk, lock_eq]; exact hqe), (by rintro (_ | _) _ <;> cbv), ?_⟩
      clear hqe
      intro qq hx2
      simp only [choice_lk, lock_eq] at hx2
      rcases qq with _ | _
      all_goals (rw [hx2] at hr; dsimp only at hr; constructor; (try cbv))
      · have hqe : ∃ qq, F_block_Device_Write (1 : Int) (setB (setB (@lrep UInt8 (toN (64 : Int)) (0 : UInt8)) (toN (0 : Int)) (97 : Int)) (toN (5 : Int)) (98 : Int)) false (0 : Int) q1 = some qq := by
          cases hq : F_block_Device_Write (1 : Int) (setB (setB (@lrep UInt8 (toN (64 : Int)) (0 : UInt8)) (toN (0 : Int)) (97 : Int)) (toN (5 : Int)) (98 : Int)) false (0 : Int) q1 with
          | none => rw [hq] at hr; cases hr
          | some qq => exact ⟨qq, rfl⟩
        refine ⟨obl.2 (by simp only [choice_lk, lock_eq]; exact hqe), (by rintro (⟨_, _, _⟩) _ <;> cbv), ?_⟩
        clear hqe
        intro qq hx3
        simp only [choice_lk, lock_eq] at hx3
        rcases qq with ⟨y1, y2, q2⟩
        all_goals (rw [hx3] at hr; dsimp only at hr; constructor; (try cbv))
        have hqe : ∃ qq, F_block_Device_Down false y2 q2 = some qq := by
          cases hq : F_block_Device_Down false y2 q2 with
          | none => rw [hq] at hr; cases hr
          | some qq => exact ⟨qq, rfl⟩
        refine ⟨obl.2 (by simp only [choice_lk, lock_eq]; exact hqe), (by rintro (_) _ <;> cbv), ?_⟩
        clear hqe
        intro qq hx4
        simp only [choice_lk, lock_eq] at hx4
        rcases qq with _
        all_goals (rw [hx4] at hr; dsimp only at hr; constructor; (try cbv))
        have hqe : ∃ qq, F_block_Device_Up false y2 q2 = some qq := by
          cases hq : F_block_Device_Up false y2 q2 with
          | none => rw [hq] at hr; cases hr
          | some qq => exact ⟨qq, rfl⟩
        refine ⟨obl.2 (by simp only [choice_lk, lock_eq]; exact hqe), (by rintro (_) _ <;> cbv), ?_⟩
        clear hqe
        intro qq hx5
        simp only [choice_lk, lock_eq] at hx5
        rcases qq with _
        all_goals (rw [hx5] at hr; dsimp only at hr; constructor; (try cbv))
        have hqe : ∃ qq, F_block_Device_Read (1 : Int) false y2 q2 = some qq := by
          cases hq : F_block_Device_Read (1 : Int) false y2 q2 with
          | none => rw [hq] at hr; cases hr
          | some qq => exact ⟨qq, rfl⟩
        refine ⟨obl.2 (by simp only [choice_lk, lock_eq]; exact hqe), (by rintro (⟨_, _⟩) _ <;> cbv), ?_⟩
        clear hqe
        intro qq hx6
        simp only [choice_lk, lock_eq] at hx6
        rcases qq with ⟨y3, t1⟩
        all_goals (rw [hx6] at hr; dsimp only at hr; constructor; (try cbv))
        have hqe : ∃ qq, F_block_Device_Write (0 : Int) (setB (setB (@lrep UInt8 (toN (64 : Int)) (0 : UInt8)) (toN (0 : Int)) (97 : Int)) (toN (5 : Int)) (98 : Int)) false y2 q2 = some qq := by
          cases hq : F_block_Device_Write (0 : Int) (setB (setB (@lrep UInt8 (toN (64 : Int)) (0 : UInt8)) (toN (0 : Int)) (97 : Int)) (toN (5 : Int)) (98 : Int)) false y2 q2 with
          | none => rw [hq] at hr; cases hr
          | some qq => exact ⟨qq, rfl⟩
        refine ⟨obl.2 (by simp only [choice_lk, lock_eq]; exact hqe), (by rintro (⟨_, _, _⟩) _ <;> cbv), ?_⟩
        clear hqe
        intro qq hx7
        simp only [choice_lk, lock_eq] at hx7
        rcases qq with ⟨y4, y5, q3⟩
        all_goals (rw [hx7] at hr; dsimp only at hr; constructor; (try cbv))
        refine sel_intro (fun h => ?_) (fun h => ?_)
        · have h1 : (ieq (1 : Int) (0 : Int)) = true := by first | exact h | (have h2 := h; simp only [choice_lk, lock_eq] at h2; exact h2) | (simp only [choice_lk, lock_eq] at h; exact h)
          rw [if_pos h1] at hr
          (try cbv)
          refine sel_intro (fun h => ?_) (fun h => ?_)
          · have h1 : (ieq y1 (3 : Int)) = true := by first | exact h | (have h2 := h; simp only [choice_lk, lock_eq] at h2; exact h2) | (simp only [choice_lk, lock_eq] at h; exact h)
            rw [if_pos h1] at hr
            (try cbv)
            apply Hidden.out
            have e := Option.some.inj hr
            constructor
            refine ⟨_, hF, ?_⟩
            (try cbv); (try simp only [choice_lk, lock_eq, and_self, and_true, true_and]); (try first | exact e | exact e.symm | (and_intros <;> first | assumption | rfl | exact Eq.symm (by assumption)))
          · have h1 : (ieq y1 (3 : Int)) = false := by first | exact h | (have h2 := h; simp only [choice_lk, lock_eq] at h2; exact h2) | (simp only [choice_lk, lock_eq] at h; exact h)
            rw [if_neg (by rw [h1]; exact Bool.false_ne_true)] at hr
            (try cbv)
            apply Hidden.out
            have e := Option.some.inj hr
            constructor
            refine ⟨_, hF, ?_⟩
            (try cbv); (try simp only [choice_lk, lock_eq, and_self, and_true, true_and]); (try first | exact e | exact e.symm | (and_intros <;> first | assumption | rfl | exact Eq.symm (by assumption)))
        · have h1 : (ieq (1 : Int) (0 : Int)) = false := by first | exact h | (have h2 := h; simp only [choice_lk, lock_eq] at h2; exact h2) | (simp only [choice_lk, lock_eq] at h; exact h)
          rw [if_neg (by rw [h1]; exact Bool.false_ne_true)] at hr
          (try cbv)
          apply Hidden.out
          have e := Option.some.inj hr
          constructor
          refine ⟨_, hF, ?_⟩
          (try cbv); (try simp only [choice_lk, lock_eq, and_self, and_true, true_and]); (try first | exact e | exact e.symm | (and_intros <;> first | assumption | rfl | exact Eq.symm (by assumption)))
      · have hqe : ∃ qq, F_block_Device_Write_2 (1 : Int) (setB (setB (@lrep UInt8 (toN (64 : Int)) (0 : UInt8)) (toN (0 : Int)) (97 : Int)) (toN (5 : Int)) (98 : Int)) false (0 : Int) q1 (0 : Int) (3 : Int) = some qq := by
          cases hq : F_block_Device_Write_2 (1 : Int) (setB (setB (@lrep UInt8 (toN (64 : Int)) (0 : UInt8)) (toN (0 : Int)) (97 : Int)) (toN (5 : Int)) (98 : Int)) false (0 : Int) q1 (0 : Int) (3 : Int) with
          | none => rw [hq] at hr; cases hr
          | some qq => exact ⟨qq, rfl⟩
        refine ⟨obl.2 (by simp only [choice_lk, lock_eq]; exact hqe), (by rintro (⟨_, _, _, _⟩ | _) _ <;> cbv), ?_⟩
        clear hqe
        intro qq hx8
        simp only [choice_lk, lock_eq] at hx8
        rcases qq with ⟨y6, y7, q4, y8⟩ | q5
        all_goals (rw [hx8] at hr; dsimp only at hr; constructor; (try cbv))
        · have hqe : ∃ qq, F_block_Device_Down_2 false y7 q4 y8 (3 : Int) = some qq := by
            cases hq : F_block_Device_Down_2 false y7 q4 y8 (3 : Int) with
            | none => rw [hq] at hr; cases hr
            | some qq => exact ⟨qq, rfl⟩
          refine ⟨obl.2 (by simp only [choice_lk, lock_eq]; exact hqe), (by rintro (_) _ <;> cbv), ?_⟩
          clear hqe
          intro qq hx9
          simp only [choice_lk, lock_eq] at hx9
          rcases qq with _
          all_goals (rw [hx9] at hr; dsimp only at hr; constructor; (try cbv))
          have hqe : ∃ qq, F_block_Device_Up_2 false y7 q4 y8 (3 : Int) = some qq := by
            cases hq : F_block_Device_Up_2 false y7 q4 y8 (3 : Int) with
            | none => rw [hq] at hr; cases hr
            | some qq => exact ⟨qq, rfl⟩
          refine ⟨obl.2 (by simp only [choice_lk, lock_eq]; exact hqe), (by rintro (_) _ <;> cbv), ?_⟩
          clear hqe
          intro qq hx10
          simp only [choice_lk, lock_eq] at hx10
          rcases qq with _
          all_goals (rw [hx10] at hr; dsimp only at hr; constructor; (try cbv))
          have hqe : ∃ qq, F_block_Device_Read (1 : Int) false y7 q4 = some qq := by
            cases hq : F_block_Device_Read (1 : Int) false y7 q4 with
            | none => rw [hq] at hr; cases hr
            | some qq => exact ⟨qq, rfl⟩
          refine ⟨obl.2 (by simp only [choice_lk, lock_eq]; exact hqe), (by rintro (⟨_, _⟩) _ <;> cbv), ?_⟩
          clear hqe
          intro qq hx11
          simp only [choice_lk, lock_eq] at hx11
          rcases qq with ⟨y9, t2⟩
          all_goals (rw [hx11] at hr; dsimp only at hr; constructor; (try cbv))
          have hqe : ∃ qq, F_block_Device_Write (0 : Int) (setB (setB (@lrep UInt8 (toN (64 : Int)) (0 : UInt8)) (toN (0 : Int)) (97 : Int)) (toN (5 : Int)) (98 : Int)) false y7 q4 = some qq := by
            cases hq : F_block_Device_Write (0 : Int) (setB (setB (@lrep UInt8 (toN (64 : Int)) (0 : UInt8)) (toN (0 : Int)) (97 : Int)) (toN (5 : Int)) (98 : Int)) false y7 q4 with
            | none => rw [hq] at hr; cases hr
            | some qq => exact ⟨qq, rfl⟩
          refine ⟨obl.2 (by simp only [choice_lk, lock_eq]; exact hqe), (by rintro (⟨_, _, _⟩) _ <;> cbv), ?_⟩
          clear hqe
          intro qq hx12
          simp only [choice_lk, lock_eq] at hx12
          rcases qq with ⟨y10, y11, q6⟩
          all_goals (rw [hx12] at hr; dsimp only at hr; constructor; (try cbv))
          refine sel_intro (fun h => ?_) (fun h => ?_)
          · have h1 : (ieq (0 : Int) (0 : Int)) = true := by first | exact h | (have h2 := h; simp only [choice_lk, lock_eq] at h2; exact h2) | (simp only [choice_lk, lock_eq] at h; exact h)
            rw [if_pos h1] at hr
            (try cbv)
            refine sel_intro (fun h => ?_) (fun h => ?_)
            · have h1 : (ieq y6 (3 : Int)) = true := by first | exact h | (have h2 := h; simp only [choice_lk, lock_eq] at h2; exact h2) | (simp only [choice_lk, lock_eq] at h; exact h)
              rw [if_pos h1] at hr
              (try cbv)
              apply Hidden.out
              have e := Option.some.inj hr
              constructor
              refine ⟨_, hF, ?_⟩
              (try cbv); (try simp only [choice_lk, lock_eq, and_self, and_true, true_and]); (try first | exact e | exact e.symm | (and_intros <;> first | assumption | rfl | exact Eq.symm (by assumption)))
            · have h1 : (ieq y6 (3 : Int)) = false := by first | exact h | (have h2 := h; simp only [choice_lk, lock_eq] at h2; exact h2) | (simp only [choice_lk, lock_eq] at h; exact h)
              rw [if_neg (by rw [h1]; exact Bool.false_ne_true)] at hr
              (try cbv)
              apply Hidden.out
              have e := Option.some.inj hr
              constructor
              refine ⟨_, hF, ?_⟩
              (try cbv); (try simp only [choice_lk, lock_eq, and_self, and_true, true_and]); (try first | exact e | exact e.symm | (and_intros <;> first | assumption | rfl | exact Eq.symm (by assumption)))
          · have h1 : (ieq (0 : Int) (0 : Int)) = false := by first | exact h | (have h2 := h; simp only [choice_lk, lock_eq] at h2; exact h2) | (simp only [choice_lk, lock_eq] at h; exact h)
            rw [if_neg (by rw [h1]; exact Bool.false_ne_true)] at hr
            (try cbv)
            apply Hidden.out
            have e := Option.some.inj hr
            constructor
            refine ⟨_, hF, ?_⟩
            (try cbv); (try simp only [choice_lk, lock_eq, and_self, and_true, true_and]); (try first | exact e | exact e.symm | (and_intros <;> first | assumption | rfl | exact Eq.symm (by assumption)))
        · have hqe : ∃ qq, F_block_Device_Down true (0 : Int) q5 = some qq := by
            cases hq : F_block_Device_Down true (0 : Int) q5 with
            | none => rw [hq] at hr; cases hr
            | some qq => exact ⟨qq, rfl⟩
          refine ⟨obl.2 (by simp only [choice_lk, lock_eq]; exact hqe), (by rintro (_) _ <;> cbv), ?_⟩
          clear hqe
          intro qq hx13
          simp only [choice_lk, lock_eq] at hx13
          rcases qq with _
          all_goals (rw [hx13] at hr; dsimp only at hr; constructor; (try cbv))
          have hqe : ∃ qq, F_block_Device_Up true (0 : Int) q5 = some qq := by
            cases hq : F_block_Device_Up true (0 : Int) q5 with
            | none => rw [hq] at hr; cases hr
            | some qq => exact ⟨qq, rfl⟩
          refine ⟨obl.2 (by simp only [choice_lk, lock_eq]; exact hqe), (by rintro (_) _ <;> cbv), ?_⟩
          clear hqe
          intro qq hx14
          simp only [choice_lk, lock_eq] at hx14
          rcases qq with _
          all_goals (rw [hx14] at hr; dsimp only at hr; constructor; (try cbv))
          have hqe : ∃ qq, F_block_Device_Read (1 : Int) false (0 : Int) q5 = some qq := by
            cases hq : F_block_Device_Read (1 : Int) false (0 : Int) q5 with
            | none => rw [hq] at hr; cases hr
            | some qq => exact ⟨qq, rfl⟩
          refine ⟨obl.2 (by simp only [choice_lk, lock_eq]; exact hqe), (by rintro (⟨_, _⟩) _ <;> cbv), ?_⟩
          clear hqe
          intro qq hx15
          simp only [choice_lk, lock_eq] at hx15
          rcases qq with ⟨y12, t3⟩
          all_goals (rw [hx15] at hr; dsimp only at hr; constructor; (try cbv))
          have hqe : ∃ qq, F_block_Device_Write (0 : Int) (setB (setB (@lrep UInt8 (toN (64 : Int)) (0 : UInt8)) (toN (0 : Int)) (97 : Int)) (toN (5 : Int)) (98 : Int)) false (0 : Int) q5 = some qq := by
            cases hq : F_block_Device_Write (0 : Int) (setB (setB (@lrep UInt8 (toN (64 : Int)) (0 : UInt8)) (toN (0 : Int)) (97 : Int)) (toN (5 : Int)) (98 : Int)) false (0 : Int) q5 with
            | none => rw [hq] at hr; cases hr
            | some qq => exact ⟨qq, rfl⟩
          refine ⟨obl.2 (by simp only [choice_lk, lock_eq]; exact hqe), (by rintro (⟨_, _, _⟩) _ <;> cbv), ?_⟩
          clear hqe
          intro qq hx16
          simp only [choice_lk, lock_eq] at hx16
          rcases qq with ⟨y13, y14, q7⟩
          all_goals (rw [hx16] at hr; dsimp only at hr; constructor; (try cbv))
          refine sel_intro (fun h => ?_) (fun h => ?_)
          · as_aux_lemma =>
            have h1 : (ieq (0 : Int) (0 : Int)) = true := by first | exact h | (have h2 := h; simp only [choice_lk, lock_eq] at h2; exact h2) | (simp only [choice_lk, lock_eq] at h; exact h)
            rw [if_pos h1] at hr
            (try cbv)
            refine sel_intro (fun h => ?_) (fun h => ?_)
            · as_aux_lemma =>
              have h1 : (ieq (3 : Int) (3 : Int)) = true := by first | exact h | (have h2 := h; simp only [choice_lk, lock_eq] at h2; exact h2) | (simp only [choice_lk, lock_eq] at h; exact h)
              rw [if_pos h1] at hr
              (try cbv)
              have hqe : ∃ qq, F_block_Device_Down false y14 q7 = some qq := by
                cases hq : F_block_Device_Down false y14 q7 with
                | none => rw [hq] at hr; cases hr
                | some qq => exact ⟨qq, rfl⟩
              refine ⟨obl.2 (by simp only [choice_lk, lock_eq]; exact hqe), (by rintro (_) _ <;> cbv), ?_⟩
              clear hqe
              intro qq hx17
              simp only [choice_lk, lock_eq] at hx17
              rcases qq with _
              all_goals (rw [hx17] at hr; dsimp only at hr; constructor; (try cbv))
              refine sel_intro (fun h => ?_) (fun h => ?_)
              · as_aux_lemma =>
                have h1 : (ieq y12 (0 : Int)) = true := by first | exact h | (have h2 := h; simp only [choice_lk, lock_eq] at h2; exact h2) | (simp only [choice_lk, lock_eq] at h; exact h)
                rw [if_pos h1] at hr
                (try cbv)
                refine sel_intro (fun h => ?_) (fun h => ?_)
                · as_aux_lemma =>
                  have h1 : (ieq (ofN (xlen t3)) (64 : Int)) = true := by first | exact h | (have h2 := h; simp only [choice_lk, lock_eq] at h2; exact h2) | (simp only [choice_lk, lock_eq] at h; exact h)
                  rw [if_pos h1] at hr
                  (try cbv)
                  have gg := guard_inv hr
                  have g := gg.1
                  replace hr := gg.2
                  clear gg
                  refine ⟨obl.2 (by first | (simp only [choice_lk, lock_eq, R.len, R.sub]; exact g) | exact g), ?_⟩
                  refine sel_intro (fun h => ?_) (fun h => ?_)
                  · as_aux_lemma =>
                    have h1 : (ieq (getB t3 (toN (0 : Int))) (97 : Int)) = true := by first | exact h | (have h2 := h; simp only [choice_lk, lock_eq] at h2; exact h2) | (simp only [choice_lk, lock_eq] at h; exact h)
                    rw [if_pos h1] at hr
                    (try cbv)
                    have gg := guard_inv hr
                    have g := gg.1
                    replace hr := gg.2
                    clear gg
                    refine ⟨obl.2 (by first | (simp only [choice_lk, lock_eq, R.len, R.sub]; exact g) | exact g), ?_⟩
                    refine sel_intro (fun h => ?_) (fun h => ?_)
                    · have h1 : (ieq (getB t3 (toN (5 : Int))) (0 : Int)) = true := by first | exact h | (have h2 := h; simp only [choice_lk, lock_eq] at h2; exact h2) | (simp only [choice_lk, lock_eq] at h; exact h)
                      rw [if_pos h1] at hr
                      (try cbv)
                      refine sel_intro (fun h => ?_) (fun h => ?_)
                      · have h1 : (ieq y13 (0 : Int)) = true := by first | exact h | (have h2 := h; simp only [choice_lk, lock_eq] at h2; exact h2) | (simp only [choice_lk, lock_eq] at h; exact h)
                        rw [if_pos h1] at hr
                        (try cbv)
                        have hqe : ∃ qq, F_block_Device_Writes false y14 q7 = some qq := by
                          cases hq : F_block_Device_Writes false y14 q7 with
                          | none => rw [hq] at hr; cases hr
                          | some qq => exact ⟨qq, rfl⟩
                        refine ⟨obl.2 (by simp only [choice_lk, lock_eq]; exact hqe), (by rintro (_) _ <;> cbv), ?_⟩
                        clear hqe
                        intro qq hx18
                        simp only [choice_lk, lock_eq] at hx18
                        rcases qq with _
                        all_goals (rw [hx18] at hr; dsimp only at hr; constructor; (try cbv))
                        refine sel_intro (fun h => ?_) (fun h => ?_)
                        · have h1 : (ieq y14 (1 : Int)) = true := by first | exact h | (have h2 := h; simp only [choice_lk, lock_eq] at h2; exact h2) | (simp only [choice_lk, lock_eq] at h; exact h)
                          rw [if_pos h1] at hr
                          (try cbv)
                          have hqe : ∃ qq, F_block_Device_Blocks false y14 q7 = some qq := by
                            cases hq : F_block_Device_Blocks false y14 q7 with
                            | none => rw [hq] at hr; cases hr
                            | some qq => exact ⟨qq, rfl⟩
                          refine ⟨obl.2 (by simp only [choice_lk, lock_eq]; exact hqe), (by rintro (_) _ <;> cbv), ?_⟩
                          clear hqe
                          intro y15 hx19
                          simp only [choice_lk, lock_eq] at hx19
                          all_goals (rw [hx19] at hr; dsimp only at hr; constructor; (try cbv))
                          apply Hidden.out
                          have e := Option.some.inj hr
                          constructor
                          refine ⟨_, hF, ?_⟩
                          (try cbv); (try simp only [choice_lk, lock_eq, and_self, and_true, true_and]); (try first | exact e | exact e.symm | (and_intros <;> first | assumption | rfl | exact Eq.symm (by assumption)))
                        · have h1 : (ieq y14 (1 : Int)) = false := by first | exact h | (have h2 := h; simp only [choice_lk, lock_eq] at h2; exact h2) | (simp only [choice_lk, lock_eq] at h; exact h)
                          rw [if_neg (by rw [h1]; exact Bool.false_ne_true)] at hr
                          (try cbv)
                          apply Hidden.out
                          have e := Option.some.inj hr
                          constructor
                          refine ⟨_, hF, ?_⟩
                          (try cbv); (try simp only [choice_lk, lock_eq, and_self, and_true, true_and]); (try first | exact e | exact e.symm | (and_intros <;> first | assumption | rfl | exact Eq.symm (by assumption)))
                      · have h1 : (ieq y13 (0 : Int)) = false := by first | exact h | (have h2 := h; simp only [choice_lk, lock_eq] at h2; exact h2) | (simp only [choice_lk, lock_eq] at h; exact h)
                        rw [if_neg (by rw [h1]; exact Bool.false_ne_true)] at hr
                        (try cbv)
                        apply Hidden.out
                        have e := Option.some.inj hr
                        constructor
                        refine ⟨_, hF, ?_⟩
                        (try cbv); (try simp only [choice_lk, lock_eq, and_self, and_true, true_and]); (try first | exact e | exact e.symm | (and_intros <;> first | assumption | rfl | exact Eq.symm (by assumption)))
                    · have h1 : (ieq (getB t3 (toN (5 : Int))) (0 : Int)) = false := by first | exact h | (have h2 := h; simp only [choice_lk, lock_eq] at h2; exact h2) | (simp only [choice_lk, lock_eq] at h; exact h)
                      rw [if_neg (by rw [h1]; exact Bool.false_ne_true)] at hr
                      (try cbv)
                      apply Hidden.out
                      have e := Option.some.inj hr
                      constructor
                      refine ⟨_, hF, ?_⟩
                      (try cbv); (try simp only [choice_lk, lock_eq, and_self, and_true, true_and]); (try first | exact e | exact e.symm | (and_intros <;> first | assumption | rfl | exact Eq.symm (by assumption)))
                  · have h1 : (ieq (getB t3 (toN (0 : Int))) (97 : Int)) = false := by first | exact h | (have h2 := h; simp only [choice_lk, lock_eq] at h2; exact h2) | (simp only [choice_lk, lock_eq] at h; exact h)
                    rw [if_neg (by rw [h1]; exact Bool.false_ne_true)] at hr
                    (try cbv)
                    apply Hidden.out
                    have e := Option.some.inj hr
                    constructor
                    refine ⟨_, hF, ?_⟩
                    (try cbv); (try simp only [choice_lk, lock_eq, and_self, and_true, true_and]); (try first | exact e | exact e.symm | (and_intros <;> first | assumption | rfl | exact Eq.symm (by assumption)))
                · have h1 : (ieq (ofN (xlen t3)) (64 : Int)) = false := by first | exact h | (have h2 := h; simp only [choice_lk, lock_eq] at h2; exact h2) | (simp only [choice_lk, lock_eq] at h; exact h)
                  rw [if_neg (by rw [h1]; exact Bool.false_ne_true)] at hr
                  (try cbv)
                  apply Hidden.out
                  have e := Option.some.inj hr
                  constructor
                  refine ⟨_, hF, ?_⟩
                  (try cbv); (try simp only [choice_lk, lock_eq, and_self, and_true, true_and]); (try first | exact e | exact e.symm | (and_intros <;> first | assumption | rfl | exact Eq.symm (by assumption)))
              · have h1 : (ieq y12 (0 : Int)) = false := by first | exact h | (have h2 := h; simp only [choice_lk, lock_eq] at h2; exact h2) | (simp only [choice_lk, lock_eq] at h; exact h)
                rw [if_neg (by rw [h1]; exact Bool.false_ne_true)] at hr
                (try cbv)
                apply Hidden.out
                have e := Option.some.inj hr
                constructor
                refine ⟨_, hF, ?_⟩
                (try cbv); (try simp only [choice_lk, lock_eq, and_self, and_true, true_and]); (try first | exact e | exact e.symm | (and_intros <;> first | assumption | rfl | exact Eq.symm (by assumption)))
            · have h1 : (ieq (3 : Int) (3 : Int)) = false := by first | exact h | (have h2 := h; simp only [choice_lk, lock_eq] at h2; exact h2) | (simp only [choice_lk, lock_eq] at h; exact h)
              rw [if_neg (by rw [h1]; exact Bool.false_ne_true)] at hr
              (try cbv)
              apply Hidden.out
              have e := Option.some.inj hr
              constructor
              refine ⟨_, hF, ?_⟩
              (try cbv); (try simp only [choice_lk, lock_eq, and_self, and_true, true_and]); (try first | exact e | exact e.symm | (and_intros <;> first | assumption | rfl | exact Eq.symm (by assumption)))
          · have h1 : (ieq (0 : Int) (0 : Int)) = false := by first | exact h | (have h2 := h; simp only [choice_lk, lock_eq] at h2; exact h2) | (simp only [choice_lk, lock_eq] at h; exact h)
            rw [if_neg (by rw [h1]; exact Bool.false_ne_true)] at hr
            (try cbv)
            apply Hidden.out
            have e := Option.some.inj hr
            constructor
            refine ⟨_, hF, ?_⟩
            (try cbv); (try simp only [choice_lk, lock_eq, and_self, and_true, true_and]); (try first | exact e | exact e.symm | (and_intros <;> first | assumption | rfl | exact Eq.symm (by assumption)))
end Go.Proofs.Ytcdjpciocamkiaa
end
section
/-
  The walk of tollbar/tollbarlaw31.filled (printed by a program of ours).
-/
set_option linter.unusedVariables false
set_option linter.unusedSimpArgs false
namespace Go.Proofs.Ytcdjpciocamkiaa
open Go.RowKit

noncomputable def tab_tollbarlaw31_filled : Nat → Option Con := look []
set_option maxHeartbeats 4000000 in
set_option maxRecDepth 100000 in
theorem vc_tollbarlaw31_filled (P : Program) (T : Tab P tab_tollbarlaw31_filled) (hm : P.follows .mixedOrders = true) : FnVC P tab_tollbarlaw31_filled ic_20 [.t 2] 15 con_tollbarlaw31_filled := by
  intro cargs ccks ce hce hob C hk
  apply Hidden.out
  replace hce : con_tollbarlaw31_filled_1 cargs ccks = some ce := hce
  · unfold con_tollbarlaw31_filled_1 at hce
    split at hce
    rotate_left
    · cases hce
    obtain rfl := Option.some.inj hce
    rename_i x1
    have hb1 := hob _ (List.mem_singleton.2 rfl)
    have hb2 := obl.1 hb1
    clear hb1 hob hce
    refine hb2.elim fun r hF => ?_
    clear hb2
    simp only [List.length_cons, List.length_nil, Nat.zero_add, Nat.reduceAdd] at hk
    have hr : F_tollbarlaw31_filled x1 = some r := by rw [lock_eq] at hF; exact hF
    unfold F_tollbarlaw31_filled at hr
    constructor
    (try cbv)
    have gg := guard_inv hr
    have g := gg.1
    replace hr := gg.2
    clear gg
    refine ⟨obl.2 (by first | (simp only [choice_lk, lock_eq, R.len, R.sub]; exact g) | exact g), ?_⟩
    refine LoopOK.iter T (drawOK T hm) (B := (F_tollbarlaw31_filled_L1 x1)) hr (fun | (i1, s1) => ⟨mkFr [(0, (.v (.int .u8 x1))), (3, (.wsl 0)), (4, (.v (.int .i64 i1)))] 15 0, [(0, .row (.bs 5 s1))], 1⟩) ?_ ?_
    · rintro ⟨u0, u1⟩ e
      simp only [Prod.mk.injEq] at e
      obtain ⟨e0, e1⟩ := e
      refine le_auto hk ?_
      (try cbv); (try simp only [choice_lk, lock_eq, and_self, and_true, true_and]); (try first | exact e | exact e.symm | (and_intros <;> first | assumption | rfl | exact Eq.symm (by assumption)))
    · clear hr
      intro x bb1 hr ht1
      obtain ⟨i1, s1⟩ := x
      as_aux_lemma =>
      constructor
      unfold F_tollbarlaw31_filled_L1 at hr
      (try dsimp only at hr)
      (try cbv)
      refine sel_intro (fun h => ?_) (fun h => ?_)
      · have h1 : (ilt i1 (64 : Int)) = true := by first | exact h | (have h2 := h; simp only [choice_lk, lock_eq] at h2; exact h2) | (simp only [choice_lk, lock_eq] at h; exact h)
        rw [if_pos h1] at hr
        (try cbv)
        have gg := guard_inv hr
        have g := gg.1
        replace hr := gg.2
        clear gg
        refine ⟨obl.2 (by first | (simp only [choice_lk, lock_eq, R.len, R.sub]; exact g) | exact g), ?_⟩
        have gg := guard_inv hr
        have g := gg.1
        replace hr := gg.2
        clear gg
        refine ⟨obl.2 (by first | (simp only [choice_lk, lock_eq, R.len, R.sub]; exact g) | exact g), ?_⟩
        apply Hidden.out
        obtain rfl := Option.some.inj hr
        constructor
        refine ⟨⟨_, rfl⟩, ?_⟩
        rintro ⟨u0, u1⟩ e
        replace e := Sum.inl.inj e
        simp only [Prod.mk.injEq] at e
        obtain ⟨e0, e1⟩ := e
        refine le_auto hk ?_
        (try cbv); (try simp only [choice_lk, lock_eq, and_self, and_true, true_and]); (try first | exact e | exact e.symm | (and_intros <;> first | assumption | rfl | exact Eq.symm (by assumption)))
      · have h1 : (ilt i1 (64 : Int)) = false := by first | exact h | (have h2 := h; simp only [choice_lk, lock_eq] at h2; exact h2) | (simp only [choice_lk, lock_eq] at h; exact h)
        rw [if_neg (by rw [h1]; exact Bool.false_ne_true)] at hr
        (try cbv)
        apply Hidden.out
        obtain rfl := Option.some.inj hr
        have e := ht1 _ rfl
        constructor
        refine ⟨_, hF, ?_⟩
        (try cbv); (try simp only [choice_lk, lock_eq, and_self, and_true, true_and]); (try first | exact e | exact e.symm | (and_intros <;> first | assumption | rfl | exact Eq.symm (by assumption)))
end Go.Proofs.Ytcdjpciocamkiaa
end
