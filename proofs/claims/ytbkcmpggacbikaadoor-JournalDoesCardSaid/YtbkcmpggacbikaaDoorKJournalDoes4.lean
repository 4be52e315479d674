/-
  Texts that the row of this claim stands on, one behind the other.
-/
import Derived.Test.YtbkcmpggacbikaaDoorProg
import Derived.Below
import Derived.Shelf.Bytes.SlJoin
import Derived.Test.YtbkcmpggacbikaaDoorKJournalDoes1
import Derived.Test.YtbkcmpggacbikaaDoorKJournalDoes2
import Derived.Test.YtbkcmpggacbikaaDoorKJournalDoes3
section
/-
  The functions of this seat, made short (printed by a program of ours).
-/
set_option linter.unusedVariables false
set_option maxRecDepth 20000
namespace Go.Proofs.YtbkcmpggacbikaaDoor
open Go.RowKit

def ic_4 : IC := (.seq (.reg false [⟨some 4, none, [], .mv (.k (.v (.bool false)))⟩])
 (.seq (.reg false [⟨some 29, none, [], .call 7 []⟩,
  ⟨some 5, none, [], .mv (.t 29)⟩])
 (.seq (.seq (.reg false [⟨some 30, none, [], .mv (.t 5)⟩,
  ⟨some 31, none, [], .bnot (.t 30)⟩])
 (.cond (.t 31)
 (.seq (.reg false [⟨some 4, none, [], .mv (.k (.v (.bool false)))⟩])
 .ret)
 .skip))
 (.seq (.seq (.reg false [⟨some 32, none, [], .mv (.t 0)⟩,
  ⟨some 33, none, [], .len false (.t 32)⟩,
  ⟨some 34, none, [], .ib .gt .i64 (.t 33) (.k (.v (.int .i64 12)))⟩,
  ⟨some 35, none, [], .mv (.t 34)⟩,
  ⟨some 36, some (35, false), [], .mv (.t 1)⟩,
  ⟨some 37, some (35, false), [], .len false (.t 36)⟩,
  ⟨some 38, some (35, false), [], .ib .gt .i64 (.t 37) (.k (.v (.int .i64 20)))⟩,
  ⟨some 39, none, [], .pick (.t 35) (.k (.v (.bool true))) (.t 38)⟩])
 (.cond (.t 39)
 (.seq (.reg false [⟨some 4, none, [], .mv (.k (.v (.bool true)))⟩])
 .ret)
 .skip))
 (.seq (.reg false [⟨some 40, none, [], .call 8 [(.k (.v (.int .i64 261)))]⟩,
  ⟨some 6, none, [], .mv (.t 40)⟩])
 (.seq (.reg false [⟨some 41, none, [], .call 13 [(.k (.v (.int .i64 261)))]⟩,
  ⟨some 7, none, [], .new 39 [.nsl, (.v (.bool false)), (.v (.int .i64 0)), (.v (.int .i64 0)), (.v (.int .i64 0))]⟩,
  ⟨none, none, [], .st (.t 7) (.t 41) 5⟩])
 (.seq (.seq (.reg false [⟨some 8, none, [], .mv (.k (.v (.int .i64 0)))⟩])
 (.block 0
 (.loop
 (.seq (.seq (.reg false [⟨some 42, none, [], .mv (.t 8)⟩,
  ⟨some 43, none, [], .mv (.t 1)⟩,
  ⟨some 44, none, [], .len false (.t 43)⟩,
  ⟨some 45, none, [], .ib .lt .i64 (.t 42) (.t 44)⟩])
 (.cond (.t 45)
 .skip
 (.exit 0)))
 (.seq (.block 1
 (.seq (.reg false [⟨some 48, none, [], .mv (.t 1)⟩,
  ⟨some 49, none, [], .mv (.t 8)⟩,
  ⟨some 50, none, [], .idx (.t 48) (.t 49) 2⟩,
  ⟨some 51, none, [], .fld (.t 50) 1⟩,
  ⟨some 52, none, [], .ld (.t 51)⟩,
  ⟨some 53, none, [], .len true (.t 52)⟩,
  ⟨some 54, none, [], .ib .eq .i64 (.t 53) (.k (.v (.int .i64 64)))⟩])
 (.cond (.t 54)
 (.seq (.reg true [⟨some 55, none, [], .mv (.t 6)⟩,
  ⟨some 56, none, [], .mv (.t 1)⟩,
  ⟨some 57, none, [], .mv (.t 8)⟩,
  ⟨some 58, none, [1, 2], .idx (.t 56) (.t 57) 2⟩,
  ⟨some 59, none, [3, 1, 2], .fld (.t 58) 0⟩,
  ⟨some 60, none, [4, 3, 1, 2], .ld (.t 59)⟩,
  ⟨some 61, none, [], .mv (.t 1)⟩,
  ⟨some 62, none, [], .mv (.t 8)⟩,
  ⟨some 63, none, [6, 7], .idx (.t 61) (.t 62) 2⟩,
  ⟨some 64, none, [8, 6, 7], .fld (.t 63) 1⟩,
  ⟨some 65, none, [9, 8, 6, 7], .ld (.t 64)⟩,
  ⟨some 66, none, [10, 9, 8, 6, 7], .s2b 5 (.t 65)⟩,
  ⟨some 67, none, [0, 5, 4, 3, 1, 2, 11, 10, 9, 8, 6, 7], .call 10 [(.t 55), (.t 60), (.t 66)]⟩])
 (.seq (.reg true [⟨some 69, none, [], .lda (.t 7) 5⟩,
  ⟨some 70, none, [], .mv (.t 1)⟩,
  ⟨some 71, none, [], .mv (.t 8)⟩,
  ⟨some 72, none, [1, 2], .idx (.t 70) (.t 71) 2⟩,
  ⟨some 73, none, [3, 1, 2], .fld (.t 72) 0⟩,
  ⟨some 74, none, [4, 3, 1, 2], .ld (.t 73)⟩,
  ⟨some 75, none, [], .mv (.t 1)⟩,
  ⟨some 76, none, [], .mv (.t 8)⟩,
  ⟨some 77, none, [6, 7], .idx (.t 75) (.t 76) 2⟩,
  ⟨some 78, none, [8, 6, 7], .fld (.t 77) 1⟩,
  ⟨some 79, none, [9, 8, 6, 7], .ld (.t 78)⟩,
  ⟨some 80, none, [0, 5, 4, 3, 1, 2, 10, 9, 8, 6, 7], .call 14 [(.t 69), (.t 74), (.t 79)]⟩,
  ⟨some 68, none, [11, 0, 5, 4, 3, 1, 2, 10, 9, 8, 6, 7], .mv (.t 80)⟩,
  ⟨some 81, none, [12, 11, 0, 5, 4, 3, 1, 2, 10, 9, 8, 6, 7], .ext (.t 68) 0⟩,
  ⟨some 82, none, [12, 11, 0, 5, 4, 3, 1, 2, 10, 9, 8, 6, 7], .ext (.t 68) 1⟩,
  ⟨some 9, none, [], .new 39 [.nsl, (.v (.bool false)), (.v (.int .i64 0)), (.v (.int .i64 0)), (.v (.int .i64 0))]⟩,
  ⟨none, none, [15, 13, 12, 11, 0, 5, 4, 3, 1, 2, 10, 9, 8, 6, 7], .st (.t 9) (.t 81) 5⟩,
  ⟨some 10, none, [14, 12, 11, 0, 5, 4, 3, 1, 2, 10, 9, 8, 6, 7, 16, 15, 13], .mv (.t 82)⟩])
 (.reg false [⟨some 83, none, [], .lda (.t 9) 5⟩,
  ⟨none, none, [], .st (.t 7) (.t 83) 5⟩])))
 .skip)))
 (.reg false [⟨some 46, none, [], .mv (.t 8)⟩,
  ⟨some 47, none, [], .ib .add .i64 (.t 46) (.k (.v (.int .i64 1)))⟩,
  ⟨some 8, none, [], .mv (.t 47)⟩]))))))
 (.seq (.seq (.reg false [⟨some 11, none, [], .mv (.k (.v (.int .i64 0)))⟩])
 (.block 2
 (.loop
 (.seq (.seq (.reg false [⟨some 84, none, [], .mv (.t 11)⟩,
  ⟨some 85, none, [], .mv (.t 0)⟩,
  ⟨some 86, none, [], .len false (.t 85)⟩,
  ⟨some 87, none, [], .ib .lt .i64 (.t 84) (.t 86)⟩])
 (.cond (.t 87)
 .skip
 (.exit 2)))
 (.seq (.block 3
 (.seq (.reg false [⟨some 90, none, [], .mv (.t 0)⟩,
  ⟨some 91, none, [], .mv (.t 11)⟩,
  ⟨some 92, none, [], .idx (.t 90) (.t 91) 4⟩,
  ⟨some 93, none, [], .lda (.t 92) 4⟩,
  ⟨some 12, none, [], .new 47 [(.v (.int .u16 0)), (.v (.int .u8 0)), (.v (.int .u8 0)), (.v (.int .u8 0))]⟩,
  ⟨none, none, [], .st (.t 12) (.t 93) 4⟩])
 (.seq (.seq (.reg false [⟨some 94, none, [], .fld (.t 12) 2⟩,
  ⟨some 95, none, [], .ld (.t 94)⟩,
  ⟨some 96, none, [], .ib .le .u8 (.t 95) (.k (.v (.int .u8 200)))⟩])
 (.cond (.t 96)
 (.seq (.reg false [⟨some 97, none, [], .mv (.t 6)⟩,
  ⟨some 98, none, [], .fld (.t 12) 2⟩,
  ⟨some 99, none, [], .ld (.t 98)⟩,
  ⟨some 100, none, [], .conv .i64 (.t 99)⟩,
  ⟨some 101, none, [], .fld (.t 12) 3⟩,
  ⟨some 102, none, [], .ld (.t 101)⟩,
  ⟨some 103, none, [], .ib .rem .u8 (.t 102) (.k (.v (.int .u8 65)))⟩,
  ⟨some 104, none, [], .conv .i64 (.t 103)⟩,
  ⟨some 105, none, [], .call 15 [(.t 97), (.t 100), (.t 104)]⟩])
 (.seq (.reg false [⟨some 107, none, [], .lda (.t 7) 5⟩,
  ⟨some 108, none, [], .fld (.t 12) 2⟩,
  ⟨some 109, none, [], .ld (.t 108)⟩,
  ⟨some 110, none, [], .conv .i64 (.t 109)⟩,
  ⟨some 111, none, [], .fld (.t 12) 3⟩,
  ⟨some 112, none, [], .ld (.t 111)⟩,
  ⟨some 113, none, [], .ib .rem .u8 (.t 112) (.k (.v (.int .u8 65)))⟩,
  ⟨some 114, none, [], .conv .i64 (.t 113)⟩,
  ⟨some 115, none, [], .call 16 [(.t 107), (.t 110), (.t 114)]⟩,
  ⟨some 106, none, [], .mv (.t 115)⟩,
  ⟨some 116, none, [], .ext (.t 106) 0⟩,
  ⟨some 117, none, [], .ext (.t 106) 1⟩,
  ⟨some 13, none, [], .new 39 [.nsl, (.v (.bool false)), (.v (.int .i64 0)), (.v (.int .i64 0)), (.v (.int .i64 0))]⟩,
  ⟨none, none, [], .st (.t 13) (.t 116) 5⟩,
  ⟨some 14, none, [], .mv (.t 117)⟩])
 (.reg false [⟨some 118, none, [], .lda (.t 13) 5⟩,
  ⟨none, none, [], .st (.t 7) (.t 118) 5⟩])))
 .skip))
 (.seq (.reg true [⟨some 120, none, [], .lda (.t 7) 5⟩,
  ⟨some 121, none, [], .lda (.t 12) 4⟩,
  ⟨some 122, none, [1], .call 18 [(.t 121)]⟩,
  ⟨some 123, none, [2, 1], .b2s (.t 122)⟩,
  ⟨some 124, none, [0, 3, 2, 1], .call 17 [(.t 120), (.t 123)]⟩,
  ⟨some 119, none, [4, 0, 3, 2, 1], .mv (.t 124)⟩,
  ⟨some 125, none, [5, 4, 0, 3, 2, 1], .ext (.t 119) 0⟩,
  ⟨some 126, none, [5, 4, 0, 3, 2, 1], .ext (.t 119) 1⟩,
  ⟨some 15, none, [], .new 39 [.nsl, (.v (.bool false)), (.v (.int .i64 0)), (.v (.int .i64 0)), (.v (.int .i64 0))]⟩,
  ⟨none, none, [8, 6, 5, 4, 0, 3, 2, 1], .st (.t 15) (.t 125) 5⟩,
  ⟨some 16, none, [7, 5, 4, 0, 3, 2, 1, 9, 8, 6], .mv (.t 126)⟩])
 (.seq (.reg false [⟨some 127, none, [], .lda (.t 15) 5⟩,
  ⟨none, none, [], .st (.t 7) (.t 127) 5⟩])
 (.seq (.seq (.reg false [⟨some 128, none, [], .mv (.t 6)⟩,
  ⟨some 129, none, [], .lda (.t 12) 4⟩,
  ⟨some 130, none, [], .call 18 [(.t 129)]⟩,
  ⟨some 131, none, [], .call 9 [(.t 128), (.t 130)]⟩,
  ⟨some 132, none, [], .mv (.t 16)⟩,
  ⟨some 133, none, [], .ib .ne .i64 (.t 131) (.t 132)⟩])
 (.cond (.t 133)
 (.seq (.reg false [⟨some 4, none, [], .mv (.k (.v (.bool false)))⟩])
 .ret)
 .skip))
 (.seq (.reg false [⟨some 135, none, [], .mv (.t 6)⟩,
  ⟨some 136, none, [], .call 11 [(.t 135)]⟩,
  ⟨some 134, none, [], .mv (.t 136)⟩,
  ⟨some 137, none, [], .ext (.t 134) 0⟩,
  ⟨some 138, none, [], .ext (.t 134) 1⟩,
  ⟨some 139, none, [], .ext (.t 134) 2⟩,
  ⟨some 17, none, [], .mv (.t 137)⟩,
  ⟨some 18, none, [], .mv (.t 138)⟩,
  ⟨some 19, none, [], .mv (.t 139)⟩])
 (.seq (.reg false [⟨some 141, none, [], .lda (.t 7) 5⟩,
  ⟨some 142, none, [], .call 19 [(.t 141)]⟩,
  ⟨some 140, none, [], .mv (.t 142)⟩,
  ⟨some 143, none, [], .ext (.t 140) 0⟩,
  ⟨some 144, none, [], .ext (.t 140) 1⟩,
  ⟨some 145, none, [], .ext (.t 140) 2⟩,
  ⟨some 20, none, [], .mv (.t 143)⟩,
  ⟨some 21, none, [], .mv (.t 144)⟩,
  ⟨some 22, none, [], .mv (.t 145)⟩])
 (.seq (.reg false [⟨some 146, none, [], .mv (.t 6)⟩,
  ⟨some 147, none, [], .call 20 [(.t 146)]⟩])
 (.seq (.reg false [⟨some 148, none, [], .lda (.t 7) 5⟩,
  ⟨some 149, none, [], .call 21 [(.t 148)]⟩,
  ⟨none, none, [], .st (.t 7) (.t 149) 5⟩])
 (.seq (.reg false [⟨some 151, none, [], .mv (.t 6)⟩,
  ⟨some 152, none, [], .call 11 [(.t 151)]⟩,
  ⟨some 150, none, [], .mv (.t 152)⟩,
  ⟨some 153, none, [], .ext (.t 150) 0⟩,
  ⟨some 154, none, [], .ext (.t 150) 1⟩,
  ⟨some 155, none, [], .ext (.t 150) 2⟩,
  ⟨some 23, none, [], .mv (.t 153)⟩,
  ⟨some 24, none, [], .mv (.t 154)⟩,
  ⟨some 25, none, [], .mv (.t 155)⟩])
 (.seq (.reg false [⟨some 157, none, [], .lda (.t 7) 5⟩,
  ⟨some 158, none, [], .call 19 [(.t 157)]⟩,
  ⟨some 156, none, [], .mv (.t 158)⟩,
  ⟨some 159, none, [], .ext (.t 156) 0⟩,
  ⟨some 160, none, [], .ext (.t 156) 1⟩,
  ⟨some 161, none, [], .ext (.t 156) 2⟩,
  ⟨some 26, none, [], .mv (.t 159)⟩,
  ⟨some 27, none, [], .mv (.t 160)⟩,
  ⟨some 28, none, [], .mv (.t 161)⟩])
 (.seq (.reg false [⟨some 162, none, [], .mv (.t 19)⟩,
  ⟨some 163, none, [], .mv (.t 22)⟩,
  ⟨some 164, none, [], .ib .ne .i64 (.t 162) (.t 163)⟩,
  ⟨some 165, none, [], .mv (.t 164)⟩,
  ⟨some 166, some (165, false), [], .mv (.t 23)⟩,
  ⟨some 167, some (165, false), [], .b2s (.t 166)⟩,
  ⟨some 168, some (165, false), [], .mv (.t 26)⟩,
  ⟨some 169, some (165, false), [], .sb .ne (.t 167) (.t 168)⟩,
  ⟨some 170, none, [], .pick (.t 165) (.k (.v (.bool true))) (.t 169)⟩,
  ⟨some 171, none, [], .mv (.t 170)⟩,
  ⟨some 172, some (171, false), [], .mv (.t 24)⟩,
  ⟨some 173, some (171, false), [], .mv (.t 27)⟩,
  ⟨some 174, some (171, false), [], .ib .ne .u64 (.t 172) (.t 173)⟩,
  ⟨some 175, none, [], .pick (.t 171) (.k (.v (.bool true))) (.t 174)⟩,
  ⟨some 176, none, [], .mv (.t 175)⟩,
  ⟨some 177, some (176, false), [], .mv (.t 25)⟩,
  ⟨some 178, some (176, false), [], .mv (.t 28)⟩,
  ⟨some 179, some (176, false), [], .ib .ne .i64 (.t 177) (.t 178)⟩,
  ⟨some 180, none, [], .pick (.t 176) (.k (.v (.bool true))) (.t 179)⟩])
 (.cond (.t 180)
 (.seq (.reg false [⟨some 4, none, [], .mv (.k (.v (.bool false)))⟩])
 .ret)
 .skip))))))))))))))
 (.reg false [⟨some 88, none, [], .mv (.t 11)⟩,
  ⟨some 89, none, [], .ib .add .i64 (.t 88) (.k (.v (.int .i64 1)))⟩,
  ⟨some 11, none, [], .mv (.t 89)⟩]))))))
 (.seq (.reg false [⟨some 4, none, [], .mv (.k (.v (.bool true)))⟩])
 .ret)))))))))
theorem comp_4 : compF Tryd.prog Tryd.f4 = some (ic_4, [.t 4], 181) := by kernel_rfl
-- ros 4 [(some (.row 47 (.st [(.int .u16), (.int .u8), (.int .u8), (.int .u8)]))), (some (.row 42 (.st [(.int .i64), .str])))] TYS [(.row 47 (.st [(.int .u16), (.int .u8), (.int .u8), (.int .u8)])), (.row 42 (.st [(.int .i64), .str]))]

def ic_7 : IC := (.seq (.reg false [⟨some 0, none, [], .mv (.k (.v (.bool false)))⟩])
 (.seq (.reg false [⟨some 9, none, [], .call 8 [(.k (.v (.int .i64 260)))]⟩,
  ⟨some 1, none, [], .mv (.t 9)⟩])
 (.seq (.seq (.reg false [⟨some 10, none, [], .mv (.t 1)⟩,
  ⟨some 11, none, [], .isn 0 false (.t 10)⟩])
 (.cond (.t 11)
 (.seq (.reg false [⟨some 0, none, [], .mv (.k (.v (.bool false)))⟩])
 .ret)
 .skip))
 (.seq (.reg false [⟨some 13, none, [], .mv (.t 1)⟩,
  ⟨some 14, none, [], .call 11 [(.t 13)]⟩,
  ⟨some 12, none, [], .mv (.t 14)⟩,
  ⟨some 15, none, [], .ext (.t 12) 0⟩,
  ⟨some 16, none, [], .ext (.t 12) 1⟩,
  ⟨some 17, none, [], .ext (.t 12) 2⟩,
  ⟨some 2, none, [], .mv (.t 15)⟩,
  ⟨some 3, none, [], .mv (.t 16)⟩,
  ⟨some 4, none, [], .mv (.t 17)⟩])
 (.seq (.reg false [⟨some 18, none, [], .mv (.t 1)⟩,
  ⟨some 19, none, [], .bsl (.bs 5) 1 [(.v (.int .u8 0))] [(0, 1, (.k (.v (.int .u8 97))))]⟩,
  ⟨some 20, none, [], .cvs (.t 19)⟩,
  ⟨some 21, none, [], .call 9 [(.t 18), (.t 20)]⟩,
  ⟨some 5, none, [], .mv (.t 21)⟩])
 (.seq (.reg false [⟨some 23, none, [], .mv (.t 1)⟩,
  ⟨some 24, none, [], .call 11 [(.t 23)]⟩,
  ⟨some 22, none, [], .mv (.t 24)⟩,
  ⟨some 25, none, [], .ext (.t 22) 0⟩,
  ⟨some 26, none, [], .ext (.t 22) 1⟩,
  ⟨some 27, none, [], .ext (.t 22) 2⟩,
  ⟨some 6, none, [], .mv (.t 25)⟩,
  ⟨some 7, none, [], .mv (.t 26)⟩,
  ⟨some 8, none, [], .mv (.t 27)⟩])
 (.seq (.reg false [⟨some 28, none, [], .mv (.t 4)⟩,
  ⟨some 29, none, [], .ib .eq .i64 (.t 28) (.k (.v (.int .i64 39)))⟩,
  ⟨some 30, none, [], .mv (.t 29)⟩,
  ⟨some 31, some (30, true), [], .mv (.t 5)⟩,
  ⟨some 32, some (30, true), [], .ib .eq .i64 (.t 31) (.k (.v (.int .i64 0)))⟩,
  ⟨some 33, none, [], .pick (.t 30) (.t 32) (.k (.v (.bool false)))⟩,
  ⟨some 34, none, [], .mv (.t 33)⟩,
  ⟨some 35, some (34, true), [], .mv (.t 6)⟩,
  ⟨some 36, some (34, true), [], .b2s (.t 35)⟩,
  ⟨some 37, some (34, true), [], .sb .eq (.t 36) (.k (.str [97]))⟩,
  ⟨some 38, none, [], .pick (.t 34) (.t 37) (.k (.v (.bool false)))⟩,
  ⟨some 39, none, [], .mv (.t 38)⟩,
  ⟨some 40, some (39, true), [], .mv (.t 7)⟩,
  ⟨some 41, some (39, true), [], .ib .eq .u64 (.t 40) (.k (.v (.int .u64 1)))⟩,
  ⟨some 42, none, [], .pick (.t 39) (.t 41) (.k (.v (.bool false)))⟩,
  ⟨some 43, none, [], .mv (.t 42)⟩,
  ⟨some 44, some (43, true), [], .mv (.t 8)⟩,
  ⟨some 45, some (43, true), [], .ib .eq .i64 (.t 44) (.k (.v (.int .i64 0)))⟩,
  ⟨some 46, none, [], .pick (.t 43) (.t 45) (.k (.v (.bool false)))⟩,
  ⟨some 47, none, [], .mv (.t 46)⟩,
  ⟨some 48, none, [], .pick (.t 47) (.k (.v (.bool true))) (.k (.v (.bool false)))⟩,
  ⟨some 49, none, [], .mv (.t 48)⟩,
  ⟨some 50, some (49, true), [], .call 9 [(.k (.v (.pointer none))), (.k .nsl)]⟩,
  ⟨some 51, some (49, true), [], .ib .eq .i64 (.t 50) (.k (.v (.int .i64 1)))⟩,
  ⟨some 52, none, [], .pick (.t 49) (.t 51) (.k (.v (.bool false)))⟩,
  ⟨some 0, none, [], .mv (.t 52)⟩])
 .ret)))))))
theorem comp_7 : compF Tryd.prog Tryd.f7 = some (ic_7, [.t 0], 53) := by kernel_rfl
-- ros 7 [] TYS []

def ic_8 : IC := (.seq (.reg false [⟨some 2, none, [], .mv (.k (.v (.pointer none)))⟩])
 (.seq (.seq (.reg false [⟨some 3, none, [], .mv (.t 0)⟩,
  ⟨some 4, none, [], .ib .lt .i64 (.t 3) (.k (.v (.int .i64 1)))⟩,
  ⟨some 5, none, [], .mv (.t 4)⟩,
  ⟨some 6, some (5, false), [], .mv (.t 0)⟩,
  ⟨some 7, some (5, false), [], .ib .gt .i64 (.t 6) (.k (.v (.int .i64 1024)))⟩,
  ⟨some 8, none, [], .pick (.t 5) (.k (.v (.bool true))) (.t 7)⟩])
 (.cond (.t 8)
 (.seq (.reg false [⟨some 2, none, [], .mv (.k (.v (.pointer none)))⟩])
 .ret)
 .skip))
 (.seq (.reg false [⟨some 9, none, [], .mv (.t 0)⟩,
  ⟨some 10, none, [], .mks (.row 68 (.u8s 64)) 64 (.t 9) (.t 9)⟩,
  ⟨some 11, none, [], .build [.nsl, (.v (.bool false)), (.v (.pointer none)), (.v (.int .i64 0))] [(0, 1, (.t 10))]⟩,
  ⟨some 12, none, [], .box 61 4 (.t 11)⟩,
  ⟨some 2, none, [], .mv (.t 12)⟩])
 .ret)))
theorem comp_8 : compF Tryd.prog Tryd.f8 = some (ic_8, [.t 2], 13) := by kernel_rfl
-- ros 8 [none] TYS [(.int .i64)]

def ic_9 : IC := (.seq (.reg false [⟨some 2, none, [], .box 24 1 (.t 0)⟩,
  ⟨some 4, none, [], .new 26 [(.v (.int .i64 0))]⟩])
 (.seq (.reg false [⟨some 12, none, [], .ld (.t 2)⟩,
  ⟨some 13, none, [], .call 11 [(.t 12)]⟩,
  ⟨some 11, none, [], .mv (.t 13)⟩,
  ⟨some 14, none, [], .ext (.t 11) 0⟩,
  ⟨some 15, none, [], .ext (.t 11) 1⟩,
  ⟨some 16, none, [], .ext (.t 11) 2⟩,
  ⟨some 5, none, [], .mv (.t 14)⟩,
  ⟨some 6, none, [], .mv (.t 15)⟩,
  ⟨some 7, none, [], .mv (.t 16)⟩])
 (.seq (.block 0
 (.seq (.reg false [⟨some 18, none, [], .mv (.t 7)⟩,
  ⟨some 19, none, [], .ib .eq .i64 (.t 18) (.k (.v (.int .i64 1)))⟩,
  ⟨some 17, none, [], .mv (.t 19)⟩])
 (.cond (.t 17)
 (.seq (.reg false [⟨some 20, none, [], .mv (.t 7)⟩,
  ⟨none, none, [], .st (.t 4) (.t 20) 1⟩])
 .ret)
 (.seq (.reg false [⟨some 22, none, [], .mv (.t 1)⟩,
  ⟨some 23, none, [], .len false (.t 22)⟩,
  ⟨some 24, none, [], .ib .gt .i64 (.t 23) (.k (.v (.int .i64 8192)))⟩,
  ⟨some 21, none, [], .mv (.t 24)⟩])
 (.cond (.t 21)
 (.seq (.reg false [⟨none, none, [], .st (.t 4) (.k (.v (.int .i64 14))) 1⟩])
 .ret)
 (.seq (.reg false [⟨some 26, none, [], .mv (.t 7)⟩,
  ⟨some 27, none, [], .ib .eq .i64 (.t 26) (.k (.v (.int .i64 3)))⟩,
  ⟨some 25, none, [], .mv (.t 27)⟩])
 (.cond (.t 25)
 (.seq (.reg false [⟨some 28, none, [], .mv (.t 7)⟩,
  ⟨none, none, [], .st (.t 4) (.t 28) 1⟩])
 .ret)
 .skip)))))))
 (.seq (.seq (.reg false [⟨some 29, none, [], .mv (.t 6)⟩,
  ⟨some 30, none, [], .ib .add .u64 (.t 29) (.k (.v (.int .u64 1)))⟩,
  ⟨some 31, none, [], .mv (.t 1)⟩,
  ⟨some 32, none, [], .call 23 [(.t 30), (.t 31)]⟩])
 (.block 1
 (.rfn (.t 32) [33, 34]
 (.seq (.reg false [⟨some 8, none, [], .mv (.t 33)⟩])
 (.reg false [⟨some 9, none, [], .mv (.t 34)⟩]))
 (.block 2
 (.seq (.reg false [⟨some 35, none, [], .ld (.t 2)⟩,
  ⟨some 36, none, [], .mv (.t 8)⟩,
  ⟨some 37, none, [], .mv (.t 9)⟩,
  ⟨some 38, none, [], .call 10 [(.t 35), (.t 36), (.t 37)]⟩,
  ⟨some 10, none, [], .mv (.t 38)⟩])
 (.seq (.reg false [⟨some 39, none, [], .mv (.t 10)⟩,
  ⟨some 40, none, [], .ib .ne .i64 (.t 39) (.k (.v (.int .i64 0)))⟩])
 (.cond (.t 40)
 (.seq (.reg false [⟨some 41, none, [], .mv (.t 10)⟩,
  ⟨none, none, [], .st (.t 4) (.t 41) 1⟩])
 .ret)
 .skip)))))))
 (.seq (.reg false [⟨none, none, [], .st (.t 4) (.k (.v (.int .i64 0))) 1⟩])
 .ret)))))
theorem comp_9 : compF Tryd.prog Tryd.f9 = some (ic_9, [.c 4 1 false], 42) := by kernel_rfl
-- ros 9 [none, (some (.bs 5))] TYS [none, (.bytes 5)]

def ic_10 : IC := (.seq (.reg false [⟨some 6, none, [], .mv (.k (.v (.int .i64 0)))⟩])
 (.seq (.seq (.reg false [⟨some 8, none, [], .mv (.t 0)⟩,
  ⟨some 9, none, [], .mv (.t 1)⟩,
  ⟨some 10, none, [], .call 24 [(.t 8), (.t 9)]⟩,
  ⟨some 7, none, [], .mv (.t 10)⟩])
 (.seq (.reg false [⟨some 11, none, [], .mv (.t 7)⟩,
  ⟨some 12, none, [], .ib .ne .i64 (.t 11) (.k (.v (.int .i64 0)))⟩])
 (.cond (.t 12)
 (.seq (.reg false [⟨some 13, none, [], .mv (.t 7)⟩,
  ⟨some 6, none, [], .mv (.t 13)⟩])
 .ret)
 .skip)))
 (.seq (.seq (.reg false [⟨some 14, none, [], .mv (.t 2)⟩,
  ⟨some 15, none, [], .len false (.t 14)⟩,
  ⟨some 16, none, [], .ib .ne .i64 (.t 15) (.k (.v (.int .i64 64)))⟩])
 (.cond (.t 16)
 (.seq (.reg false [⟨some 6, none, [], .mv (.k (.v (.int .i64 1)))⟩])
 .ret)
 .skip))
 (.seq (.seq (.reg false [⟨some 17, none, [], .mv (.t 0)⟩,
  ⟨some 18, none, [], .chk (.t 17)⟩,
  ⟨some 19, none, [], .fld (.t 18) 2⟩,
  ⟨some 20, none, [], .ld (.t 19)⟩,
  ⟨some 21, none, [], .isn 0 true (.t 20)⟩,
  ⟨some 22, none, [], .mv (.t 21)⟩,
  ⟨some 23, some (22, true), [], .mv (.t 0)⟩,
  ⟨some 24, some (22, true), [], .chk (.t 23)⟩,
  ⟨some 25, some (22, true), [], .fld (.t 24) 2⟩,
  ⟨some 26, some (22, true), [], .ld (.t 25)⟩,
  ⟨some 27, some (22, true), [], .chk (.t 26)⟩,
  ⟨some 28, some (22, true), [], .fld (.t 27) 0⟩,
  ⟨some 29, some (22, true), [], .ld (.t 28)⟩,
  ⟨some 30, some (22, true), [], .ib .eq .i64 (.t 29) (.k (.v (.int .i64 0)))⟩,
  ⟨some 31, none, [], .pick (.t 22) (.t 30) (.k (.v (.bool false)))⟩])
 (.cond (.t 31)
 (.seq (.reg true [⟨some 32, none, [], .mv (.t 0)⟩,
  ⟨some 33, none, [0], .chk (.t 32)⟩,
  ⟨some 34, none, [1, 0], .fld (.t 33) 0⟩,
  ⟨some 35, none, [2, 1, 0], .ld (.t 34)⟩,
  ⟨some 36, none, [], .mv (.t 1)⟩,
  ⟨some 37, none, [3, 2, 1, 0, 4], .idx (.t 35) (.t 36) 64⟩,
  ⟨some 38, none, [5, 3, 2, 1, 0, 4], .sla 64 (.t 37)⟩,
  ⟨some 39, none, [], .mv (.t 2)⟩,
  ⟨some 40, none, [], .mv (.t 0)⟩,
  ⟨some 41, none, [8], .chk (.t 40)⟩,
  ⟨some 42, none, [9, 8], .fld (.t 41) 2⟩,
  ⟨some 43, none, [10, 9, 8], .ld (.t 42)⟩,
  ⟨some 44, none, [11, 10, 9, 8], .chk (.t 43)⟩,
  ⟨some 45, none, [12, 11, 10, 9, 8], .fld (.t 44) 1⟩,
  ⟨some 46, none, [13, 12, 11, 10, 9, 8], .ld (.t 45)⟩,
  ⟨some 47, none, [7, 14, 13, 12, 11, 10, 9, 8], .sls (.t 39) none (some (.t 46)) 1⟩,
  ⟨some 48, none, [6, 5, 3, 2, 1, 0, 4, 15, 7, 14, 13, 12, 11, 10, 9, 8], .copy (.t 38) (.t 47) 1⟩])
 (.seq (.reg false [⟨some 49, none, [], .mv (.t 0)⟩,
  ⟨some 50, none, [], .mv (.t 0)⟩,
  ⟨some 51, none, [], .chk (.t 49)⟩,
  ⟨some 52, none, [], .fld (.t 51) 1⟩,
  ⟨none, none, [], .st (.t 52) (.k (.v (.bool true))) 1⟩,
  ⟨some 53, none, [], .chk (.t 50)⟩,
  ⟨some 54, none, [], .fld (.t 53) 2⟩,
  ⟨none, none, [], .st (.t 54) (.k (.v (.pointer none))) 1⟩])
 (.seq (.reg false [⟨some 6, none, [], .mv (.k (.v (.int .i64 3)))⟩])
 .ret)))
 .skip))
 (.seq (.reg true [⟨some 55, none, [], .mv (.t 0)⟩,
  ⟨some 56, none, [0], .chk (.t 55)⟩,
  ⟨some 57, none, [1, 0], .fld (.t 56) 0⟩,
  ⟨some 58, none, [2, 1, 0], .ld (.t 57)⟩,
  ⟨some 59, none, [], .mv (.t 1)⟩,
  ⟨some 60, none, [], .mv (.t 2)⟩,
  ⟨some 61, none, [5], .s2a 68 64 (.t 60)⟩,
  ⟨some 62, none, [6, 5], .lda (.t 61) 64⟩,
  ⟨some 63, none, [3, 2, 1, 0, 4, 5, 6, 7], .idx (.t 58) (.t 59) 64⟩,
  ⟨none, none, [8, 3, 2, 1, 0, 4, 5, 6, 7], .st (.t 63) (.t 62) 64⟩])
 (.seq (.reg false [⟨some 64, none, [], .mv (.t 0)⟩,
  ⟨some 65, none, [], .chk (.t 64)⟩,
  ⟨some 66, none, [], .fld (.t 65) 3⟩,
  ⟨some 67, none, [], .ld (.t 66)⟩,
  ⟨some 68, none, [], .ib .add .i64 (.t 67) (.k (.v (.int .i64 1)))⟩,
  ⟨some 69, none, [], .chk (.t 64)⟩,
  ⟨some 70, none, [], .fld (.t 69) 3⟩,
  ⟨none, none, [], .st (.t 70) (.t 68) 1⟩])
 (.seq (.seq (.reg false [⟨some 71, none, [], .mv (.t 0)⟩,
  ⟨some 72, none, [], .chk (.t 71)⟩,
  ⟨some 73, none, [], .fld (.t 72) 2⟩,
  ⟨some 74, none, [], .ld (.t 73)⟩,
  ⟨some 75, none, [], .isn 0 true (.t 74)⟩])
 (.cond (.t 75)
 (.reg false [⟨some 76, none, [], .mv (.t 0)⟩,
  ⟨some 77, none, [], .chk (.t 76)⟩,
  ⟨some 78, none, [], .fld (.t 77) 2⟩,
  ⟨some 79, none, [], .ld (.t 78)⟩,
  ⟨some 80, none, [], .chk (.t 79)⟩,
  ⟨some 81, none, [], .fld (.t 80) 0⟩,
  ⟨some 82, none, [], .ld (.t 81)⟩,
  ⟨some 83, none, [], .ib .sub .i64 (.t 82) (.k (.v (.int .i64 1)))⟩,
  ⟨some 84, none, [], .chk (.t 79)⟩,
  ⟨some 85, none, [], .fld (.t 84) 0⟩,
  ⟨none, none, [], .st (.t 85) (.t 83) 1⟩])
 .skip))
 (.seq (.reg false [⟨some 6, none, [], .mv (.k (.v (.int .i64 0)))⟩])
 .ret))))))))
theorem comp_10 : compF Tryd.prog Tryd.f10 = some (ic_10, [.t 6], 86) := by kernel_rfl
-- ros 10 [none, none, (some (.bs 5))] TYS [none, (.int .i64), (.bytes 5)]

def ic_11 : IC := (.seq (.reg false [⟨some 2, none, [], .mv (.k .nsl)⟩,
  ⟨some 3, none, [], .mv (.k (.v (.int .u64 0)))⟩,
  ⟨some 4, none, [], .mv (.k (.v (.int .i64 0)))⟩])
 (.seq (.seq (.reg false [⟨some 9, none, [], .mv (.t 0)⟩,
  ⟨some 10, none, [], .call 25 [(.t 9)]⟩,
  ⟨some 11, none, [], .ib .lt .i64 (.t 10) (.k (.v (.int .i64 260)))⟩])
 (.cond (.t 11)
 (.seq (.reg false [⟨some 2, none, [], .mv (.k .nsl)⟩,
  ⟨some 3, none, [], .mv (.k (.v (.int .u64 0)))⟩,
  ⟨some 4, none, [], .mv (.k (.v (.int .i64 1)))⟩])
 .ret)
 .skip))
 (.seq (.seq (.reg false [⟨some 12, none, [], .mv (.t 0)⟩,
  ⟨some 13, none, [], .call 26 [(.t 12)]⟩])
 (.cond (.t 13)
 (.seq (.reg false [⟨some 2, none, [], .mv (.k .nsl)⟩,
  ⟨some 3, none, [], .mv (.k (.v (.int .u64 0)))⟩,
  ⟨some 4, none, [], .mv (.k (.v (.int .i64 3)))⟩])
 .ret)
 .skip))
 (.seq (.reg false [⟨some 15, none, [], .mv (.t 0)⟩,
  ⟨some 16, none, [], .call 27 [(.t 15), (.k (.v (.int .u64 0)))]⟩,
  ⟨some 14, none, [], .mv (.t 16)⟩,
  ⟨some 17, none, [], .ext (.t 14) 0⟩,
  ⟨some 18, none, [], .ext (.t 14) 1⟩,
  ⟨some 5, none, [], .mv (.t 17)⟩,
  ⟨some 6, none, [], .mv (.t 18)⟩])
 (.seq (.reg false [⟨some 20, none, [], .mv (.t 0)⟩,
  ⟨some 21, none, [], .call 27 [(.t 20), (.k (.v (.int .u64 1)))]⟩,
  ⟨some 19, none, [], .mv (.t 21)⟩,
  ⟨some 22, none, [], .ext (.t 19) 0⟩,
  ⟨some 23, none, [], .ext (.t 19) 1⟩,
  ⟨some 7, none, [], .mv (.t 22)⟩,
  ⟨some 8, none, [], .mv (.t 23)⟩])
 (.seq (.block 0
 (.seq (.reg false [⟨some 25, none, [], .mv (.t 6)⟩,
  ⟨some 26, none, [], .ib .eq .u64 (.t 25) (.k (.v (.int .u64 0)))⟩,
  ⟨some 27, none, [], .mv (.t 26)⟩,
  ⟨some 28, some (27, true), [], .mv (.t 8)⟩,
  ⟨some 29, some (27, true), [], .ib .eq .u64 (.t 28) (.k (.v (.int .u64 0)))⟩,
  ⟨some 30, none, [], .pick (.t 27) (.t 29) (.k (.v (.bool false)))⟩,
  ⟨some 24, none, [], .mv (.t 30)⟩])
 (.cond (.t 24)
 (.seq (.reg false [⟨some 2, none, [], .mv (.k .nsl)⟩,
  ⟨some 3, none, [], .mv (.k (.v (.int .u64 0)))⟩,
  ⟨some 4, none, [], .mv (.k (.v (.int .i64 39)))⟩])
 .ret)
 (.seq (.reg false [⟨some 32, none, [], .mv (.t 6)⟩,
  ⟨some 33, none, [], .mv (.t 8)⟩,
  ⟨some 34, none, [], .ib .gt .u64 (.t 32) (.t 33)⟩,
  ⟨some 31, none, [], .mv (.t 34)⟩])
 (.cond (.t 31)
 (.seq (.reg false [⟨some 35, none, [], .mv (.t 5)⟩,
  ⟨some 36, none, [], .mv (.t 6)⟩,
  ⟨some 2, none, [], .mv (.t 35)⟩,
  ⟨some 3, none, [], .mv (.t 36)⟩,
  ⟨some 4, none, [], .mv (.k (.v (.int .i64 0)))⟩])
 .ret)
 .skip)))))
 (.seq (.reg false [⟨some 37, none, [], .mv (.t 7)⟩,
  ⟨some 38, none, [], .mv (.t 8)⟩,
  ⟨some 2, none, [], .mv (.t 37)⟩,
  ⟨some 3, none, [], .mv (.t 38)⟩,
  ⟨some 4, none, [], .mv (.k (.v (.int .i64 0)))⟩])
 .ret)))))))
theorem comp_11 : compF Tryd.prog Tryd.f11 = some (ic_11, [.t 2, .t 3, .t 4], 39) := by kernel_rfl
-- ros 11 [none] TYS [none]

def ic_12 : IC := (.seq (.reg false [⟨some 4, none, [], .mv (.k .nsl)⟩,
  ⟨some 5, none, [], .mv (.k (.v (.int .i64 0)))⟩])
 (.seq (.seq (.reg false [⟨some 8, none, [], .mv (.t 0)⟩,
  ⟨some 9, none, [], .mv (.t 1)⟩,
  ⟨some 10, none, [], .call 24 [(.t 8), (.t 9)]⟩,
  ⟨some 6, none, [], .mv (.t 10)⟩])
 (.seq (.reg false [⟨some 11, none, [], .mv (.t 6)⟩,
  ⟨some 12, none, [], .ib .ne .i64 (.t 11) (.k (.v (.int .i64 0)))⟩])
 (.cond (.t 12)
 (.seq (.reg false [⟨some 13, none, [], .mv (.t 6)⟩,
  ⟨some 4, none, [], .mv (.k .nsl)⟩,
  ⟨some 5, none, [], .mv (.t 13)⟩])
 .ret)
 .skip)))
 (.seq (.reg false [⟨some 14, none, [], .mv (.t 0)⟩,
  ⟨some 15, none, [], .chk (.t 14)⟩,
  ⟨some 16, none, [], .fld (.t 15) 0⟩,
  ⟨some 17, none, [], .ld (.t 16)⟩,
  ⟨some 18, none, [], .mv (.t 1)⟩,
  ⟨some 19, none, [], .idx (.t 17) (.t 18) 64⟩,
  ⟨some 20, none, [], .lda (.t 19) 64⟩,
  ⟨some 7, none, [], .new 68 [(.v (.int .u8 0)), (.v (.int .u8 0)), (.v (.int .u8 0)), (.v (.int .u8 0)), (.v (.int .u8 0)), (.v (.int .u8 0)), (.v (.int .u8 0)), (.v (.int .u8 0)), (.v (.int .u8 0)), (.v (.int .u8 0)), (.v (.int .u8 0)), (.v (.int .u8 0)), (.v (.int .u8 0)), (.v (.int .u8 0)), (.v (.int .u8 0)), (.v (.int .u8 0)), (.v (.int .u8 0)), (.v (.int .u8 0)), (.v (.int .u8 0)), (.v (.int .u8 0)), (.v (.int .u8 0)), (.v (.int .u8 0)), (.v (.int .u8 0)), (.v (.int .u8 0)), (.v (.int .u8 0)), (.v (.int .u8 0)), (.v (.int .u8 0)), (.v (.int .u8 0)), (.v (.int .u8 0)), (.v (.int .u8 0)), (.v (.int .u8 0)), (.v (.int .u8 0)), (.v (.int .u8 0)), (.v (.int .u8 0)), (.v (.int .u8 0)), (.v (.int .u8 0)), (.v (.int .u8 0)), (.v (.int .u8 0)), (.v (.int .u8 0)), (.v (.int .u8 0)), (.v (.int .u8 0)), (.v (.int .u8 0)), (.v (.int .u8 0)), (.v (.int .u8 0)), (.v (.int .u8 0)), (.v (.int .u8 0)), (.v (.int .u8 0)), (.v (.int .u8 0)), (.v (.int .u8 0)), (.v (.int .u8 0)), (.v (.int .u8 0)), (.v (.int .u8 0)), (.v (.int .u8 0)), (.v (.int .u8 0)), (.v (.int .u8 0)), (.v (.int .u8 0)), (.v (.int .u8 0)), (.v (.int .u8 0)), (.v (.int .u8 0)), (.v (.int .u8 0)), (.v (.int .u8 0)), (.v (.int .u8 0)), (.v (.int .u8 0)), (.v (.int .u8 0))]⟩,
  ⟨none, none, [], .st (.t 7) (.t 20) 64⟩])
 (.seq (.reg false [⟨some 21, none, [], .sla 64 (.t 7)⟩,
  ⟨some 4, none, [], .mv (.t 21)⟩,
  ⟨some 5, none, [], .mv (.k (.v (.int .i64 0)))⟩])
 .ret))))
theorem comp_12 : compF Tryd.prog Tryd.f12 = some (ic_12, [.t 4, .t 5], 22) := by kernel_rfl
-- ros 12 [none, none] TYS [none, (.int .i64)]

def ic_13 : IC := (.seq (.reg false [⟨some 2, none, [], .new 39 [.nsl, (.v (.bool false)), (.v (.int .i64 0)), (.v (.int .i64 0)), (.v (.int .i64 0))]⟩])
 (.seq (.reg false [⟨some 5, none, [], .build [.nsl, (.v (.bool false)), (.v (.int .i64 0)), (.v (.int .i64 0)), (.v (.int .i64 0))] [(2, 1, (.k (.v (.int .i64 (-1)))))]⟩,
  ⟨some 3, none, [], .new 39 [.nsl, (.v (.bool false)), (.v (.int .i64 0)), (.v (.int .i64 0)), (.v (.int .i64 0))]⟩,
  ⟨none, none, [], .st (.t 3) (.t 5) 5⟩])
 (.seq (.seq (.reg false [⟨some 4, none, [], .mv (.k (.v (.int .i64 0)))⟩])
 (.block 0
 (.loop
 (.seq (.seq (.reg false [⟨some 6, none, [], .mv (.t 4)⟩,
  ⟨some 7, none, [], .mv (.t 0)⟩,
  ⟨some 8, none, [], .ib .lt .i64 (.t 6) (.t 7)⟩])
 (.cond (.t 8)
 .skip
 (.exit 0)))
 (.seq (.block 1
 (.reg true [⟨some 11, none, [], .fld (.t 3) 0⟩,
  ⟨some 12, none, [0], .ld (.t 11)⟩,
  ⟨some 13, none, [], .call 28 []⟩,
  ⟨some 14, none, [2], .bsl (.row 9 .str) 1 [(.str [])] [(0, 1, (.t 13))]⟩,
  ⟨some 15, none, [1, 0, 3, 2], .app (.row 9 .str) 16 (.t 12) (.t 14)⟩,
  ⟨some 16, none, [0, 1, 2, 3, 4], .fld (.t 3) 0⟩,
  ⟨none, none, [5, 0, 1, 2, 3, 4], .st (.t 16) (.t 15) 1⟩]))
 (.reg false [⟨some 9, none, [], .mv (.t 4)⟩,
  ⟨some 10, none, [], .ib .add .i64 (.t 9) (.k (.v (.int .i64 1)))⟩,
  ⟨some 4, none, [], .mv (.t 10)⟩]))))))
 (.seq (.reg false [⟨some 17, none, [], .lda (.t 3) 5⟩,
  ⟨none, none, [], .st (.t 2) (.t 17) 5⟩])
 .ret))))
theorem comp_13 : compF Tryd.prog Tryd.f13 = some (ic_13, [.c 2 5 true], 18) := by kernel_rfl
-- ros 13 [none] TYS [(.int .i64)]

def ic_14 : IC := (.seq (.reg false [⟨some 3, none, [], .box 39 5 (.t 0)⟩,
  ⟨some 6, none, [], .new 39 [.nsl, (.v (.bool false)), (.v (.int .i64 0)), (.v (.int .i64 0)), (.v (.int .i64 0))]⟩,
  ⟨some 7, none, [], .mv (.k (.v (.int .i64 0)))⟩])
 (.seq (.reg false [⟨some 11, none, [], .lda (.t 3) 5⟩,
  ⟨some 12, none, [], .mv (.t 1)⟩,
  ⟨some 13, none, [], .call 29 [(.t 11), (.t 12)]⟩,
  ⟨some 10, none, [], .mv (.t 13)⟩,
  ⟨some 14, none, [], .ext (.t 10) 0⟩,
  ⟨some 15, none, [], .ext (.t 10) 1⟩,
  ⟨some 8, none, [], .mv (.t 14)⟩,
  ⟨some 9, none, [], .mv (.t 15)⟩])
 (.seq (.seq (.reg false [⟨some 16, none, [], .mv (.t 9)⟩,
  ⟨some 17, none, [], .ib .eq .i64 (.t 16) (.k (.v (.int .i64 0)))⟩,
  ⟨some 18, none, [], .mv (.t 17)⟩,
  ⟨some 19, some (18, true), [], .mv (.t 2)⟩,
  ⟨some 20, some (18, true), [], .len true (.t 19)⟩,
  ⟨some 21, some (18, true), [], .ib .ne .i64 (.t 20) (.k (.v (.int .i64 64)))⟩,
  ⟨some 22, none, [], .pick (.t 18) (.t 21) (.k (.v (.bool false)))⟩])
 (.cond (.t 22)
 (.reg false [⟨some 9, none, [], .mv (.k (.v (.int .i64 1)))⟩])
 .skip))
 (.seq (.seq (.reg false [⟨some 23, none, [], .mv (.t 9)⟩,
  ⟨some 24, none, [], .ib .ne .i64 (.t 23) (.k (.v (.int .i64 0)))⟩])
 (.cond (.t 24)
 (.seq (.reg false [⟨some 25, none, [], .lda (.t 3) 5⟩,
  ⟨some 26, none, [], .mv (.t 9)⟩,
  ⟨none, none, [], .st (.t 6) (.t 25) 5⟩,
  ⟨some 7, none, [], .mv (.t 26)⟩])
 .ret)
 .skip))
 (.seq (.seq (.reg false [⟨some 27, none, [], .fld (.t 3) 2⟩,
  ⟨some 28, none, [], .ld (.t 27)⟩,
  ⟨some 29, none, [], .ib .eq .i64 (.t 28) (.k (.v (.int .i64 0)))⟩])
 (.cond (.t 29)
 (.seq (.reg true [⟨some 30, none, [], .fld (.t 3) 0⟩,
  ⟨some 31, none, [0], .ld (.t 30)⟩,
  ⟨some 32, none, [], .mv (.t 1)⟩,
  ⟨some 33, none, [], .mv (.t 2)⟩,
  ⟨some 34, none, [], .fld (.t 3) 3⟩,
  ⟨some 35, none, [4], .ld (.t 34)⟩,
  ⟨some 36, none, [3, 5, 4], .ssl (.t 33) none (some (.t 35))⟩,
  ⟨some 37, none, [], .fld (.t 3) 0⟩,
  ⟨some 38, none, [7], .ld (.t 37)⟩,
  ⟨some 39, none, [], .mv (.t 1)⟩,
  ⟨some 40, none, [8, 7, 9], .idx (.t 38) (.t 39) 1⟩,
  ⟨some 41, none, [10, 8, 7, 9], .ld (.t 40)⟩,
  ⟨some 42, none, [], .fld (.t 3) 3⟩,
  ⟨some 43, none, [12], .ld (.t 42)⟩,
  ⟨some 44, none, [11, 10, 8, 7, 9, 13, 12], .ssl (.t 41) (some (.t 43)) none⟩,
  ⟨some 45, none, [6, 3, 5, 4, 14, 11, 10, 8, 7, 9, 13, 12], .sb .add (.t 36) (.t 44)⟩,
  ⟨some 46, none, [1, 0, 2, 15, 6, 3, 5, 4, 14, 11, 10, 8, 7, 9, 13, 12], .call 30 [(.t 31), (.t 32), (.t 45)]⟩,
  ⟨some 47, none, [0, 1, 2, 3, 4, 5, 6, 7, 8, 9, 10, 11, 12, 13, 14, 15, 16], .fld (.t 3) 0⟩,
  ⟨none, none, [17, 0, 1, 2, 3, 4, 5, 6, 7, 8, 9, 10, 11, 12, 13, 14, 15, 16], .st (.t 47) (.t 46) 1⟩])
 (.seq (.reg false [⟨some 48, none, [], .fld (.t 3) 1⟩,
  ⟨none, none, [], .st (.t 48) (.k (.v (.bool true))) 1⟩])
 (.seq (.reg false [⟨some 49, none, [], .fld (.t 3) 2⟩,
  ⟨none, none, [], .st (.t 49) (.k (.v (.int .i64 (-1)))) 1⟩])
 (.seq (.reg false [⟨some 50, none, [], .fld (.t 3) 3⟩,
  ⟨none, none, [], .st (.t 50) (.k (.v (.int .i64 0))) 1⟩])
 (.seq (.reg false [⟨some 51, none, [], .lda (.t 3) 5⟩,
  ⟨none, none, [], .st (.t 6) (.t 51) 5⟩,
  ⟨some 7, none, [], .mv (.k (.v (.int .i64 3)))⟩])
 .ret)))))
 .skip))
 (.seq (.reg false [⟨some 52, none, [], .fld (.t 3) 0⟩,
  ⟨some 53, none, [], .ld (.t 52)⟩,
  ⟨some 54, none, [], .mv (.t 1)⟩,
  ⟨some 55, none, [], .mv (.t 2)⟩,
  ⟨some 56, none, [], .call 30 [(.t 53), (.t 54), (.t 55)]⟩,
  ⟨some 57, none, [], .fld (.t 3) 0⟩,
  ⟨none, none, [], .st (.t 57) (.t 56) 1⟩])
 (.seq (.reg false [⟨some 58, none, [], .fld (.t 3) 4⟩,
  ⟨some 59, none, [], .ld (.t 58)⟩,
  ⟨some 60, none, [], .ib .add .i64 (.t 59) (.k (.v (.int .i64 1)))⟩,
  ⟨some 61, none, [], .fld (.t 3) 4⟩,
  ⟨none, none, [], .st (.t 61) (.t 60) 1⟩])
 (.seq (.seq (.reg false [⟨some 62, none, [], .fld (.t 3) 2⟩,
  ⟨some 63, none, [], .ld (.t 62)⟩,
  ⟨some 64, none, [], .ib .gt .i64 (.t 63) (.k (.v (.int .i64 0)))⟩])
 (.cond (.t 64)
 (.reg false [⟨some 65, none, [], .fld (.t 3) 2⟩,
  ⟨some 66, none, [], .ld (.t 65)⟩,
  ⟨some 67, none, [], .ib .sub .i64 (.t 66) (.k (.v (.int .i64 1)))⟩,
  ⟨some 68, none, [], .fld (.t 3) 2⟩,
  ⟨none, none, [], .st (.t 68) (.t 67) 1⟩])
 .skip))
 (.seq (.reg false [⟨some 69, none, [], .lda (.t 3) 5⟩,
  ⟨none, none, [], .st (.t 6) (.t 69) 5⟩,
  ⟨some 7, none, [], .mv (.k (.v (.int .i64 0)))⟩])
 .ret)))))))))
theorem comp_14 : compF Tryd.prog Tryd.f14 = some (ic_14, [.c 6 5 true, .t 7], 70) := by kernel_rfl
-- ros 14 [none, none, none] TYS [(.st [(.row 9 .str), .bool, (.int .i64), (.int .i64), (.int .i64)]), (.int .i64), .str]

def ic_15 : IC := (.seq (.reg false [⟨some 6, none, [], .mv (.k (.v (.int .i64 0)))⟩])
 (.seq (.seq (.reg false [⟨some 7, none, [], .mv (.t 0)⟩,
  ⟨some 8, none, [], .isn 0 false (.t 7)⟩,
  ⟨some 9, none, [], .mv (.t 8)⟩,
  ⟨some 10, some (9, false), [], .mv (.t 1)⟩,
  ⟨some 11, some (9, false), [], .ib .lt .i64 (.t 10) (.k (.v (.int .i64 0)))⟩,
  ⟨some 12, none, [], .pick (.t 9) (.k (.v (.bool true))) (.t 11)⟩,
  ⟨some 13, none, [], .mv (.t 12)⟩,
  ⟨some 14, some (13, false), [], .mv (.t 2)⟩,
  ⟨some 15, some (13, false), [], .ib .lt .i64 (.t 14) (.k (.v (.int .i64 0)))⟩,
  ⟨some 16, none, [], .pick (.t 13) (.k (.v (.bool true))) (.t 15)⟩,
  ⟨some 17, none, [], .mv (.t 16)⟩,
  ⟨some 18, some (17, false), [], .mv (.t 2)⟩,
  ⟨some 19, some (17, false), [], .ib .gt .i64 (.t 18) (.k (.v (.int .i64 64)))⟩,
  ⟨some 20, none, [], .pick (.t 17) (.k (.v (.bool true))) (.t 19)⟩])
 (.cond (.t 20)
 (.seq (.reg false [⟨some 6, none, [], .mv (.k (.v (.int .i64 1)))⟩])
 .ret)
 .skip))
 (.seq (.reg false [⟨some 21, none, [], .mv (.t 0)⟩,
  ⟨some 22, none, [], .mv (.t 1)⟩,
  ⟨some 23, none, [], .mv (.t 2)⟩,
  ⟨some 24, none, [], .build [(.v (.int .i64 0)), (.v (.int .i64 0))] [(0, 1, (.t 22)), (1, 1, (.t 23))]⟩,
  ⟨some 25, none, [], .box 67 2 (.t 24)⟩,
  ⟨some 26, none, [], .chk (.t 21)⟩,
  ⟨some 27, none, [], .fld (.t 26) 2⟩,
  ⟨none, none, [], .st (.t 27) (.t 25) 1⟩])
 (.seq (.reg false [⟨some 6, none, [], .mv (.k (.v (.int .i64 0)))⟩])
 .ret))))
theorem comp_15 : compF Tryd.prog Tryd.f15 = some (ic_15, [.t 6], 28) := by kernel_rfl
-- ros 15 [none, none, none] TYS [none, (.int .i64), (.int .i64)]

def ic_16 : IC := (.seq (.reg false [⟨some 3, none, [], .box 39 5 (.t 0)⟩,
  ⟨some 6, none, [], .new 39 [.nsl, (.v (.bool false)), (.v (.int .i64 0)), (.v (.int .i64 0)), (.v (.int .i64 0))]⟩,
  ⟨some 7, none, [], .mv (.k (.v (.int .i64 0)))⟩])
 (.seq (.seq (.reg false [⟨some 8, none, [], .mv (.t 1)⟩,
  ⟨some 9, none, [], .ib .lt .i64 (.t 8) (.k (.v (.int .i64 0)))⟩,
  ⟨some 10, none, [], .mv (.t 9)⟩,
  ⟨some 11, some (10, false), [], .mv (.t 2)⟩,
  ⟨some 12, some (10, false), [], .ib .lt .i64 (.t 11) (.k (.v (.int .i64 0)))⟩,
  ⟨some 13, none, [], .pick (.t 10) (.k (.v (.bool true))) (.t 12)⟩,
  ⟨some 14, none, [], .mv (.t 13)⟩,
  ⟨some 15, some (14, false), [], .mv (.t 2)⟩,
  ⟨some 16, some (14, false), [], .ib .gt .i64 (.t 15) (.k (.v (.int .i64 64)))⟩,
  ⟨some 17, none, [], .pick (.t 14) (.k (.v (.bool true))) (.t 16)⟩])
 (.cond (.t 17)
 (.seq (.reg false [⟨some 18, none, [], .lda (.t 3) 5⟩,
  ⟨none, none, [], .st (.t 6) (.t 18) 5⟩,
  ⟨some 7, none, [], .mv (.k (.v (.int .i64 1)))⟩])
 .ret)
 .skip))
 (.seq (.reg false [⟨some 19, none, [], .mv (.t 1)⟩,
  ⟨some 20, none, [], .fld (.t 3) 2⟩,
  ⟨none, none, [], .st (.t 20) (.t 19) 1⟩])
 (.seq (.reg false [⟨some 21, none, [], .mv (.t 2)⟩,
  ⟨some 22, none, [], .fld (.t 3) 3⟩,
  ⟨none, none, [], .st (.t 22) (.t 21) 1⟩])
 (.seq (.reg false [⟨some 23, none, [], .lda (.t 3) 5⟩,
  ⟨none, none, [], .st (.t 6) (.t 23) 5⟩,
  ⟨some 7, none, [], .mv (.k (.v (.int .i64 0)))⟩])
 .ret)))))
theorem comp_16 : compF Tryd.prog Tryd.f16 = some (ic_16, [.c 6 5 true, .t 7], 24) := by kernel_rfl
-- ros 16 [none, none, none] TYS [(.st [(.row 9 .str), .bool, (.int .i64), (.int .i64), (.int .i64)]), (.int .i64), (.int .i64)]

def ic_17 : IC := (.seq (.reg false [⟨some 2, none, [], .box 39 5 (.t 0)⟩,
  ⟨some 4, none, [], .new 39 [.nsl, (.v (.bool false)), (.v (.int .i64 0)), (.v (.int .i64 0)), (.v (.int .i64 0))]⟩,
  ⟨some 5, none, [], .mv (.k (.v (.int .i64 0)))⟩])
 (.seq (.reg false [⟨some 17, none, [], .lda (.t 2) 5⟩,
  ⟨some 18, none, [], .call 19 [(.t 17)]⟩,
  ⟨some 16, none, [], .mv (.t 18)⟩,
  ⟨some 19, none, [], .ext (.t 16) 0⟩,
  ⟨some 20, none, [], .ext (.t 16) 1⟩,
  ⟨some 21, none, [], .ext (.t 16) 2⟩,
  ⟨some 6, none, [], .mv (.t 19)⟩,
  ⟨some 7, none, [], .mv (.t 20)⟩,
  ⟨some 8, none, [], .mv (.t 21)⟩])
 (.seq (.seq (.reg false [⟨some 22, none, [], .mv (.t 8)⟩,
  ⟨some 23, none, [], .ib .eq .i64 (.t 22) (.k (.v (.int .i64 1)))⟩])
 (.cond (.t 23)
 (.seq (.reg false [⟨some 24, none, [], .lda (.t 2) 5⟩,
  ⟨some 25, none, [], .mv (.t 8)⟩,
  ⟨none, none, [], .st (.t 4) (.t 24) 5⟩,
  ⟨some 5, none, [], .mv (.t 25)⟩])
 .ret)
 .skip))
 (.seq (.seq (.reg false [⟨some 26, none, [], .mv (.t 1)⟩,
  ⟨some 27, none, [], .len true (.t 26)⟩,
  ⟨some 28, none, [], .ib .gt .i64 (.t 27) (.k (.v (.int .i64 8192)))⟩])
 (.cond (.t 28)
 (.seq (.reg false [⟨some 29, none, [], .lda (.t 2) 5⟩,
  ⟨none, none, [], .st (.t 4) (.t 29) 5⟩,
  ⟨some 5, none, [], .mv (.k (.v (.int .i64 14)))⟩])
 .ret)
 .skip))
 (.seq (.seq (.reg false [⟨some 30, none, [], .mv (.t 8)⟩,
  ⟨some 31, none, [], .ib .eq .i64 (.t 30) (.k (.v (.int .i64 3)))⟩])
 (.cond (.t 31)
 (.seq (.reg false [⟨some 32, none, [], .lda (.t 2) 5⟩,
  ⟨some 33, none, [], .mv (.t 8)⟩,
  ⟨none, none, [], .st (.t 4) (.t 32) 5⟩,
  ⟨some 5, none, [], .mv (.t 33)⟩])
 .ret)
 .skip))
 (.seq (.reg false [⟨some 34, none, [], .mv (.t 7)⟩,
  ⟨some 35, none, [], .ib .add .u64 (.t 34) (.k (.v (.int .u64 1)))⟩,
  ⟨some 7, none, [], .mv (.t 35)⟩])
 (.seq (.reg false [⟨some 36, none, [], .mv (.t 7)⟩,
  ⟨some 37, none, [], .ib .rem .u64 (.t 36) (.k (.v (.int .u64 2)))⟩,
  ⟨some 38, none, [], .conv .i64 (.t 37)⟩,
  ⟨some 39, none, [], .ib .mul .i64 (.k (.v (.int .i64 130))) (.t 38)⟩,
  ⟨some 9, none, [], .mv (.t 39)⟩])
 (.seq (.reg false [⟨some 40, none, [], .mv (.t 1)⟩,
  ⟨some 41, none, [], .call 31 [(.t 40)]⟩,
  ⟨some 42, none, [], .conv .u64 (.t 41)⟩,
  ⟨some 10, none, [], .mv (.t 42)⟩])
 (.seq (.reg true [⟨some 43, none, [], .mv (.t 7)⟩,
  ⟨some 44, none, [0], .call 32 [(.t 43), (.k (.v (.int .i64 8)))]⟩,
  ⟨some 45, none, [], .mv (.t 1)⟩,
  ⟨some 46, none, [2], .len true (.t 45)⟩,
  ⟨some 47, none, [3, 2], .conv .u64 (.t 46)⟩,
  ⟨some 48, none, [4, 3, 2, 1, 0], .call 32 [(.t 47), (.k (.v (.int .i64 4)))]⟩,
  ⟨some 49, none, [1, 0, 5, 4, 3, 2], .sb .add (.t 44) (.t 48)⟩,
  ⟨some 50, none, [], .mv (.t 10)⟩,
  ⟨some 51, none, [7, 5, 4, 3, 2, 1, 0], .call 32 [(.t 50), (.k (.v (.int .i64 4)))]⟩,
  ⟨some 52, none, [6, 1, 0, 5, 4, 3, 2, 8, 7], .sb .add (.t 49) (.t 51)⟩,
  ⟨some 53, none, [], .mks (.bs 5) 1 (.k (.v (.int .i64 40))) (.k (.v (.int .i64 40)))⟩,
  ⟨some 54, none, [10], .b2s (.t 53)⟩,
  ⟨some 55, none, [9, 6, 1, 0, 5, 4, 3, 2, 8, 7, 11, 10], .sb .add (.t 52) (.t 54)⟩,
  ⟨some 56, none, [], .mv (.t 7)⟩,
  ⟨some 57, none, [13, 8, 7, 5, 4, 3, 2, 1, 0], .call 32 [(.t 56), (.k (.v (.int .i64 8)))]⟩,
  ⟨some 58, none, [12, 9, 6, 1, 0, 5, 4, 3, 2, 8, 7, 11, 10, 14, 13], .sb .add (.t 55) (.t 57)⟩,
  ⟨some 11, none, [15, 12, 9, 6, 1, 0, 5, 4, 3, 2, 8, 7, 11, 10, 14, 13], .mv (.t 58)⟩])
 (.seq (.seq (.reg false [⟨some 12, none, [], .mv (.k (.v (.int .i64 0)))⟩])
 (.block 0
 (.loop
 (.seq (.seq (.reg false [⟨some 59, none, [], .mv (.t 12)⟩,
  ⟨some 60, none, [], .ib .mul .i64 (.k (.v (.int .i64 64))) (.t 59)⟩,
  ⟨some 61, none, [], .mv (.t 1)⟩,
  ⟨some 62, none, [], .len true (.t 61)⟩,
  ⟨some 63, none, [], .ib .lt .i64 (.t 60) (.t 62)⟩])
 (.cond (.t 63)
 .skip
 (.exit 0)))
 (.seq (.block 1
 (.seq (.reg false [⟨some 66, none, [], .mv (.t 1)⟩,
  ⟨some 67, none, [], .mv (.t 12)⟩,
  ⟨some 68, none, [], .ib .mul .i64 (.k (.v (.int .i64 64))) (.t 67)⟩,
  ⟨some 69, none, [], .ssl (.t 66) (some (.t 68)) none⟩,
  ⟨some 13, none, [], .mv (.t 69)⟩])
 (.seq (.seq (.reg false [⟨some 70, none, [], .mv (.t 13)⟩,
  ⟨some 71, none, [], .len true (.t 70)⟩,
  ⟨some 72, none, [], .ib .gt .i64 (.t 71) (.k (.v (.int .i64 64)))⟩])
 (.cond (.t 72)
 (.reg false [⟨some 73, none, [], .mv (.t 13)⟩,
  ⟨some 74, none, [], .ssl (.t 73) none (some (.k (.v (.int .i64 64))))⟩,
  ⟨some 13, none, [], .mv (.t 74)⟩])
 .skip))
 (.seq (.reg false [⟨some 75, none, [], .mv (.t 13)⟩,
  ⟨some 76, none, [], .mv (.t 13)⟩,
  ⟨some 77, none, [], .len true (.t 76)⟩,
  ⟨some 78, none, [], .ib .sub .i64 (.k (.v (.int .i64 64))) (.t 77)⟩,
  ⟨some 79, none, [], .mks (.bs 5) 1 (.t 78) (.t 78)⟩,
  ⟨some 80, none, [], .b2s (.t 79)⟩,
  ⟨some 81, none, [], .sb .add (.t 75) (.t 80)⟩,
  ⟨some 13, none, [], .mv (.t 81)⟩])
 (.seq (.reg false [⟨some 83, none, [], .lda (.t 2) 5⟩,
  ⟨some 84, none, [], .mv (.t 9)⟩,
  ⟨some 85, none, [], .ib .add .i64 (.t 84) (.k (.v (.int .i64 1)))⟩,
  ⟨some 86, none, [], .mv (.t 12)⟩,
  ⟨some 87, none, [], .ib .add .i64 (.t 85) (.t 86)⟩,
  ⟨some 88, none, [], .mv (.t 13)⟩,
  ⟨some 89, none, [], .call 14 [(.t 83), (.t 87), (.t 88)]⟩,
  ⟨some 82, none, [], .mv (.t 89)⟩,
  ⟨some 90, none, [], .ext (.t 82) 0⟩,
  ⟨some 91, none, [], .ext (.t 82) 1⟩,
  ⟨some 14, none, [], .new 39 [.nsl, (.v (.bool false)), (.v (.int .i64 0)), (.v (.int .i64 0)), (.v (.int .i64 0))]⟩,
  ⟨none, none, [], .st (.t 14) (.t 90) 5⟩,
  ⟨some 15, none, [], .mv (.t 91)⟩])
 (.seq (.reg false [⟨some 92, none, [], .lda (.t 14) 5⟩,
  ⟨none, none, [], .st (.t 2) (.t 92) 5⟩])
 (.seq (.reg false [⟨some 93, none, [], .mv (.t 15)⟩,
  ⟨some 94, none, [], .ib .ne .i64 (.t 93) (.k (.v (.int .i64 0)))⟩])
 (.cond (.t 94)
 (.seq (.reg false [⟨some 95, none, [], .lda (.t 2) 5⟩,
  ⟨some 96, none, [], .mv (.t 15)⟩,
  ⟨none, none, [], .st (.t 4) (.t 95) 5⟩,
  ⟨some 5, none, [], .mv (.t 96)⟩])
 .ret)
 .skip))))))))
 (.reg false [⟨some 64, none, [], .mv (.t 12)⟩,
  ⟨some 65, none, [], .ib .add .i64 (.t 64) (.k (.v (.int .i64 1)))⟩,
  ⟨some 12, none, [], .mv (.t 65)⟩]))))))
 (.seq (.reg false [⟨some 97, none, [], .lda (.t 2) 5⟩,
  ⟨some 98, none, [], .mv (.t 9)⟩,
  ⟨some 99, none, [], .mv (.t 11)⟩,
  ⟨some 100, none, [], .call 14 [(.t 97), (.t 98), (.t 99)]⟩,
  ⟨some 101, none, [], .ext (.t 100) 0⟩,
  ⟨some 102, none, [], .ext (.t 100) 1⟩,
  ⟨none, none, [], .st (.t 4) (.t 101) 5⟩,
  ⟨some 5, none, [], .mv (.t 102)⟩])
 .ret)))))))))))
theorem comp_17 : compF Tryd.prog Tryd.f17 = some (ic_17, [.c 4 5 true, .t 5], 103) := by kernel_rfl
-- ros 17 [none, none] TYS [(.st [(.row 9 .str), .bool, (.int .i64), (.int .i64), (.int .i64)]), .str]

def ic_18 : IC := (.seq (.reg false [⟨some 1, none, [], .box 47 4 (.t 0)⟩,
  ⟨some 2, none, [], .mv (.k .nsl)⟩])
 (.seq (.reg false [⟨some 5, none, [], .fld (.t 1) 0⟩,
  ⟨some 6, none, [], .ld (.t 5)⟩,
  ⟨some 7, none, [], .conv .i64 (.t 6)⟩,
  ⟨some 8, none, [], .ib .rem .i64 (.t 7) (.k (.v (.int .i64 8400)))⟩,
  ⟨some 9, none, [], .mks (.bs 5) 1 (.t 8) (.t 8)⟩,
  ⟨some 3, none, [], .mv (.t 9)⟩])
 (.seq (.seq (.reg false [⟨some 4, none, [], .mv (.k (.v (.int .i64 0)))⟩])
 (.block 0
 (.loop
 (.seq (.seq (.reg false [⟨some 10, none, [], .mv (.t 4)⟩,
  ⟨some 11, none, [], .mv (.t 3)⟩,
  ⟨some 12, none, [], .len false (.t 11)⟩,
  ⟨some 13, none, [], .ib .lt .i64 (.t 10) (.t 12)⟩])
 (.cond (.t 13)
 .skip
 (.exit 0)))
 (.seq (.block 1
 (.reg false [⟨some 16, none, [], .mv (.t 3)⟩,
  ⟨some 17, none, [], .mv (.t 4)⟩,
  ⟨some 18, none, [], .fld (.t 1) 1⟩,
  ⟨some 19, none, [], .ld (.t 18)⟩,
  ⟨some 20, none, [], .mv (.t 4)⟩,
  ⟨some 21, none, [], .ib .rem .i64 (.t 20) (.k (.v (.int .i64 7)))⟩,
  ⟨some 22, none, [], .conv .u8 (.t 21)⟩,
  ⟨some 23, none, [], .ib .add .u8 (.t 19) (.t 22)⟩,
  ⟨some 24, none, [], .idx (.t 16) (.t 17) 1⟩,
  ⟨none, none, [], .st (.t 24) (.t 23) 1⟩]))
 (.reg false [⟨some 14, none, [], .mv (.t 4)⟩,
  ⟨some 15, none, [], .ib .add .i64 (.t 14) (.k (.v (.int .i64 1)))⟩,
  ⟨some 4, none, [], .mv (.t 15)⟩]))))))
 (.seq (.reg false [⟨some 25, none, [], .mv (.t 3)⟩,
  ⟨some 2, none, [], .mv (.t 25)⟩])
 .ret))))
theorem comp_18 : compF Tryd.prog Tryd.f18 = some (ic_18, [.t 2], 26) := by kernel_rfl
-- ros 18 [none] TYS [(.st [(.int .u16), (.int .u8), (.int .u8), (.int .u8)])]

def ic_19 : IC := (.seq (.reg false [⟨some 1, none, [], .box 39 5 (.t 0)⟩,
  ⟨some 2, none, [], .mv (.k (.str []))⟩,
  ⟨some 3, none, [], .mv (.k (.v (.int .u64 0)))⟩,
  ⟨some 4, none, [], .mv (.k (.v (.int .i64 0)))⟩])
 (.seq (.seq (.reg false [⟨some 9, none, [], .fld (.t 1) 0⟩,
  ⟨some 10, none, [], .ld (.t 9)⟩,
  ⟨some 11, none, [], .len false (.t 10)⟩,
  ⟨some 12, none, [], .ib .lt .i64 (.t 11) (.k (.v (.int .i64 260)))⟩])
 (.cond (.t 12)
 (.seq (.reg false [⟨some 2, none, [], .mv (.k (.str []))⟩,
  ⟨some 3, none, [], .mv (.k (.v (.int .u64 0)))⟩,
  ⟨some 4, none, [], .mv (.k (.v (.int .i64 1)))⟩])
 .ret)
 .skip))
 (.seq (.seq (.reg false [⟨some 13, none, [], .fld (.t 1) 1⟩,
  ⟨some 14, none, [], .ld (.t 13)⟩])
 (.cond (.t 14)
 (.seq (.reg false [⟨some 2, none, [], .mv (.k (.str []))⟩,
  ⟨some 3, none, [], .mv (.k (.v (.int .u64 0)))⟩,
  ⟨some 4, none, [], .mv (.k (.v (.int .i64 3)))⟩])
 .ret)
 .skip))
 (.seq (.reg false [⟨some 16, none, [], .lda (.t 1) 5⟩,
  ⟨some 17, none, [], .call 33 [(.t 16), (.k (.v (.int .i64 0)))]⟩,
  ⟨some 15, none, [], .mv (.t 17)⟩,
  ⟨some 18, none, [], .ext (.t 15) 0⟩,
  ⟨some 19, none, [], .ext (.t 15) 1⟩,
  ⟨some 5, none, [], .mv (.t 18)⟩,
  ⟨some 6, none, [], .mv (.t 19)⟩])
 (.seq (.reg false [⟨some 21, none, [], .lda (.t 1) 5⟩,
  ⟨some 22, none, [], .call 33 [(.t 21), (.k (.v (.int .i64 1)))]⟩,
  ⟨some 20, none, [], .mv (.t 22)⟩,
  ⟨some 23, none, [], .ext (.t 20) 0⟩,
  ⟨some 24, none, [], .ext (.t 20) 1⟩,
  ⟨some 7, none, [], .mv (.t 23)⟩,
  ⟨some 8, none, [], .mv (.t 24)⟩])
 (.seq (.seq (.reg false [⟨some 25, none, [], .mv (.t 6)⟩,
  ⟨some 26, none, [], .mv (.t 8)⟩,
  ⟨some 27, none, [], .ib .add .u64 (.t 25) (.t 26)⟩,
  ⟨some 28, none, [], .ib .eq .u64 (.t 27) (.k (.v (.int .u64 0)))⟩])
 (.cond (.t 28)
 (.seq (.reg false [⟨some 2, none, [], .mv (.k (.str []))⟩,
  ⟨some 3, none, [], .mv (.k (.v (.int .u64 0)))⟩,
  ⟨some 4, none, [], .mv (.k (.v (.int .i64 39)))⟩])
 .ret)
 .skip))
 (.seq (.seq (.reg false [⟨some 29, none, [], .mv (.t 6)⟩,
  ⟨some 30, none, [], .mv (.t 8)⟩,
  ⟨some 31, none, [], .ib .gt .u64 (.t 29) (.t 30)⟩])
 (.cond (.t 31)
 (.seq (.reg false [⟨some 32, none, [], .mv (.t 5)⟩,
  ⟨some 33, none, [], .mv (.t 6)⟩,
  ⟨some 2, none, [], .mv (.t 32)⟩,
  ⟨some 3, none, [], .mv (.t 33)⟩,
  ⟨some 4, none, [], .mv (.k (.v (.int .i64 0)))⟩])
 .ret)
 .skip))
 (.seq (.reg false [⟨some 34, none, [], .mv (.t 7)⟩,
  ⟨some 35, none, [], .mv (.t 8)⟩,
  ⟨some 2, none, [], .mv (.t 34)⟩,
  ⟨some 3, none, [], .mv (.t 35)⟩,
  ⟨some 4, none, [], .mv (.k (.v (.int .i64 0)))⟩])
 .ret))))))))
theorem comp_19 : compF Tryd.prog Tryd.f19 = some (ic_19, [.t 2, .t 3, .t 4], 36) := by kernel_rfl
-- ros 19 [none] TYS [(.st [(.row 9 .str), .bool, (.int .i64), (.int .i64), (.int .i64)])]

def ic_20 : IC := (.seq (.reg false [⟨some 2, none, [], .mv (.t 0)⟩,
  ⟨some 3, none, [], .isn 0 true (.t 2)⟩])
 (.cond (.t 3)
 (.reg false [⟨some 4, none, [], .mv (.t 0)⟩,
  ⟨some 5, none, [], .mv (.t 0)⟩,
  ⟨some 6, none, [], .chk (.t 4)⟩,
  ⟨some 7, none, [], .fld (.t 6) 1⟩,
  ⟨none, none, [], .st (.t 7) (.k (.v (.bool false))) 1⟩,
  ⟨some 8, none, [], .chk (.t 5)⟩,
  ⟨some 9, none, [], .fld (.t 8) 2⟩,
  ⟨none, none, [], .st (.t 9) (.k (.v (.pointer none))) 1⟩])
 .skip))
theorem comp_20 : compF Tryd.prog Tryd.f20 = some (ic_20, [], 10) := by kernel_rfl
-- ros 20 [none] TYS [none]

def ic_21 : IC := (.seq (.reg false [⟨some 1, none, [], .box 39 5 (.t 0)⟩,
  ⟨some 2, none, [], .new 39 [.nsl, (.v (.bool false)), (.v (.int .i64 0)), (.v (.int .i64 0)), (.v (.int .i64 0))]⟩])
 (.seq (.reg false [⟨some 3, none, [], .fld (.t 1) 1⟩,
  ⟨none, none, [], .st (.t 3) (.k (.v (.bool false))) 1⟩])
 (.seq (.reg false [⟨some 4, none, [], .fld (.t 1) 2⟩,
  ⟨none, none, [], .st (.t 4) (.k (.v (.int .i64 (-1)))) 1⟩])
 (.seq (.reg false [⟨some 5, none, [], .fld (.t 1) 3⟩,
  ⟨none, none, [], .st (.t 5) (.k (.v (.int .i64 0))) 1⟩])
 (.seq (.reg false [⟨some 6, none, [], .lda (.t 1) 5⟩,
  ⟨none, none, [], .st (.t 2) (.t 6) 5⟩])
 .ret)))))
theorem comp_21 : compF Tryd.prog Tryd.f21 = some (ic_21, [.c 2 5 true], 7) := by kernel_rfl
-- ros 21 [none] TYS [(.st [(.row 9 .str), .bool, (.int .i64), (.int .i64), (.int .i64)])]

def ic_23 : IC := (.seq (.reg false [⟨some 2, none, [], .box 29 1 (.t 0)⟩,
  ⟨some 3, none, [], .box 22 1 (.t 1)⟩,
  ⟨some 4, none, [], .mv (.k (.v .nilFunc))⟩])
 (.seq (.reg false [⟨some 5, none, [], .mkfn 34 [(.t 2), (.t 3)]⟩,
  ⟨some 4, none, [], .mv (.t 5)⟩])
 .ret))
theorem comp_23 : compF Tryd.prog Tryd.f23 = some (ic_23, [.t 4], 6) := by kernel_rfl
-- ros 23 [none, (some (.bs 5))] TYS [(.int .u64), (.bytes 5)]

def ic_24 : IC := (.seq (.reg false [⟨some 4, none, [], .mv (.k (.v (.int .i64 0)))⟩])
 (.seq (.block 0
 (.seq (.reg false [⟨some 6, none, [], .mv (.t 0)⟩,
  ⟨some 7, none, [], .isn 0 false (.t 6)⟩,
  ⟨some 5, none, [], .mv (.t 7)⟩])
 (.cond (.t 5)
 (.seq (.reg false [⟨some 4, none, [], .mv (.k (.v (.int .i64 1)))⟩])
 .ret)
 (.seq (.reg false [⟨some 9, none, [], .mv (.t 0)⟩,
  ⟨some 10, none, [], .chk (.t 9)⟩,
  ⟨some 11, none, [], .fld (.t 10) 1⟩,
  ⟨some 12, none, [], .ld (.t 11)⟩,
  ⟨some 8, none, [], .mv (.t 12)⟩])
 (.cond (.t 8)
 (.seq (.reg false [⟨some 4, none, [], .mv (.k (.v (.int .i64 3)))⟩])
 .ret)
 (.seq (.reg false [⟨some 14, none, [], .mv (.t 1)⟩,
  ⟨some 15, none, [], .ib .lt .i64 (.t 14) (.k (.v (.int .i64 0)))⟩,
  ⟨some 16, none, [], .mv (.t 15)⟩,
  ⟨some 17, some (16, false), [], .mv (.t 1)⟩,
  ⟨some 18, some (16, false), [], .mv (.t 0)⟩,
  ⟨some 19, some (16, false), [], .chk (.t 18)⟩,
  ⟨some 20, some (16, false), [], .fld (.t 19) 0⟩,
  ⟨some 21, some (16, false), [], .ld (.t 20)⟩,
  ⟨some 22, some (16, false), [], .len false (.t 21)⟩,
  ⟨some 23, some (16, false), [], .ib .ge .i64 (.t 17) (.t 22)⟩,
  ⟨some 24, none, [], .pick (.t 16) (.k (.v (.bool true))) (.t 23)⟩,
  ⟨some 13, none, [], .mv (.t 24)⟩])
 (.cond (.t 13)
 (.seq (.reg false [⟨some 4, none, [], .mv (.k (.v (.int .i64 2)))⟩])
 .ret)
 .skip)))))))
 (.seq (.reg false [⟨some 4, none, [], .mv (.k (.v (.int .i64 0)))⟩])
 .ret)))
theorem comp_24 : compF Tryd.prog Tryd.f24 = some (ic_24, [.t 4], 25) := by kernel_rfl
-- ros 24 [none, none] TYS [none, (.int .i64)]

def ic_25 : IC := (.seq (.reg false [⟨some 2, none, [], .mv (.k (.v (.int .i64 0)))⟩])
 (.seq (.seq (.reg false [⟨some 3, none, [], .mv (.t 0)⟩,
  ⟨some 4, none, [], .isn 0 false (.t 3)⟩])
 (.cond (.t 4)
 (.seq (.reg false [⟨some 2, none, [], .mv (.k (.v (.int .i64 0)))⟩])
 .ret)
 .skip))
 (.seq (.reg false [⟨some 5, none, [], .mv (.t 0)⟩,
  ⟨some 6, none, [], .chk (.t 5)⟩,
  ⟨some 7, none, [], .fld (.t 6) 0⟩,
  ⟨some 8, none, [], .ld (.t 7)⟩,
  ⟨some 9, none, [], .len false (.t 8)⟩,
  ⟨some 2, none, [], .mv (.t 9)⟩])
 .ret)))
theorem comp_25 : compF Tryd.prog Tryd.f25 = some (ic_25, [.t 2], 10) := by kernel_rfl
-- ros 25 [none] TYS [none]

def ic_26 : IC := (.seq (.reg false [⟨some 2, none, [], .mv (.k (.v (.bool false)))⟩])
 (.seq (.reg false [⟨some 3, none, [], .mv (.t 0)⟩,
  ⟨some 4, none, [], .isn 0 true (.t 3)⟩,
  ⟨some 5, none, [], .mv (.t 4)⟩,
  ⟨some 6, some (5, true), [], .mv (.t 0)⟩,
  ⟨some 7, some (5, true), [], .chk (.t 6)⟩,
  ⟨some 8, some (5, true), [], .fld (.t 7) 1⟩,
  ⟨some 9, some (5, true), [], .ld (.t 8)⟩,
  ⟨some 10, none, [], .pick (.t 5) (.t 9) (.k (.v (.bool false)))⟩,
  ⟨some 2, none, [], .mv (.t 10)⟩])
 .ret))
theorem comp_26 : compF Tryd.prog Tryd.f26 = some (ic_26, [.t 2], 11) := by kernel_rfl
-- ros 26 [none] TYS [none]

def ic_27 : IC := (.seq (.reg false [⟨some 4, none, [], .mv (.k .nsl)⟩,
  ⟨some 5, none, [], .mv (.k (.v (.int .u64 0)))⟩])
 (.seq (.reg false [⟨some 13, none, [], .mv (.t 0)⟩,
  ⟨some 14, none, [], .mv (.t 1)⟩,
  ⟨some 15, none, [], .conv .i64 (.t 14)⟩,
  ⟨some 16, none, [], .ib .mul .i64 (.t 15) (.k (.v (.int .i64 130)))⟩,
  ⟨some 17, none, [], .call 12 [(.t 13), (.t 16)]⟩,
  ⟨some 12, none, [], .mv (.t 17)⟩,
  ⟨some 18, none, [], .ext (.t 12) 0⟩,
  ⟨some 19, none, [], .ext (.t 12) 1⟩,
  ⟨some 6, none, [], .mv (.t 18)⟩,
  ⟨some 7, none, [], .mv (.t 19)⟩])
 (.seq (.seq (.reg false [⟨some 20, none, [], .mv (.t 7)⟩,
  ⟨some 21, none, [], .ib .ne .i64 (.t 20) (.k (.v (.int .i64 0)))⟩])
 (.cond (.t 21)
 (.seq (.reg false [⟨some 4, none, [], .mv (.k .nsl)⟩,
  ⟨some 5, none, [], .mv (.k (.v (.int .u64 0)))⟩])
 .ret)
 .skip))
 (.seq (.reg false [⟨some 22, none, [], .mv (.t 6)⟩,
  ⟨some 23, none, [], .call 36 [(.t 22)]⟩,
  ⟨some 8, none, [], .mv (.t 23)⟩])
 (.seq (.reg false [⟨some 24, none, [], .mv (.t 8)⟩,
  ⟨some 25, none, [], .call 37 [(.t 24), (.k (.v (.int .i64 8)))]⟩,
  ⟨some 26, none, [], .mv (.t 8)⟩,
  ⟨some 27, none, [], .call 37 [(.t 26), (.k (.v (.int .i64 4)))]⟩,
  ⟨some 9, none, [], .mv (.t 25)⟩,
  ⟨some 10, none, [], .mv (.t 27)⟩])
 (.seq (.seq (.reg false [⟨some 28, none, [], .mv (.t 9)⟩,
  ⟨some 29, none, [], .ib .eq .u64 (.t 28) (.k (.v (.int .u64 0)))⟩,
  ⟨some 30, none, [], .mv (.t 29)⟩,
  ⟨some 31, some (30, false), [], .mv (.t 9)⟩,
  ⟨some 32, some (30, false), [], .ib .rem .u64 (.t 31) (.k (.v (.int .u64 2)))⟩,
  ⟨some 33, some (30, false), [], .mv (.t 1)⟩,
  ⟨some 34, some (30, false), [], .ib .ne .u64 (.t 32) (.t 33)⟩,
  ⟨some 35, none, [], .pick (.t 30) (.k (.v (.bool true))) (.t 34)⟩,
  ⟨some 36, none, [], .mv (.t 35)⟩,
  ⟨some 37, some (36, false), [], .mv (.t 10)⟩,
  ⟨some 38, some (36, false), [], .ib .gt .u64 (.t 37) (.k (.v (.int .u64 8192)))⟩,
  ⟨some 39, none, [], .pick (.t 36) (.k (.v (.bool true))) (.t 38)⟩])
 (.cond (.t 39)
 (.seq (.reg false [⟨some 4, none, [], .mv (.k .nsl)⟩,
  ⟨some 5, none, [], .mv (.k (.v (.int .u64 0)))⟩])
 .ret)
 .skip))
 (.seq (.reg false [⟨some 40, none, [], .mv (.t 0)⟩,
  ⟨some 41, none, [], .mv (.t 1)⟩,
  ⟨some 42, none, [], .mv (.t 10)⟩,
  ⟨some 43, none, [], .conv .i64 (.t 42)⟩,
  ⟨some 44, none, [], .call 38 [(.t 40), (.t 41), (.t 43)]⟩,
  ⟨some 11, none, [], .mv (.t 44)⟩])
 (.seq (.seq (.reg false [⟨some 45, none, [], .mv (.t 6)⟩,
  ⟨some 46, none, [], .mv (.t 9)⟩,
  ⟨some 47, none, [], .mv (.t 11)⟩,
  ⟨some 48, none, [], .call 35 [(.t 46), (.t 47)]⟩,
  ⟨some 49, none, [], .call 39 [(.t 45), (.t 48)]⟩,
  ⟨some 50, none, [], .bnot (.t 49)⟩])
 (.cond (.t 50)
 (.seq (.reg false [⟨some 4, none, [], .mv (.k .nsl)⟩,
  ⟨some 5, none, [], .mv (.k (.v (.int .u64 0)))⟩])
 .ret)
 .skip))
 (.seq (.reg false [⟨some 51, none, [], .mv (.t 11)⟩,
  ⟨some 52, none, [], .mv (.t 9)⟩,
  ⟨some 4, none, [], .mv (.t 51)⟩,
  ⟨some 5, none, [], .mv (.t 52)⟩])
 .ret)))))))))
theorem comp_27 : compF Tryd.prog Tryd.f27 = some (ic_27, [.t 4, .t 5], 53) := by kernel_rfl
-- ros 27 [none, none] TYS [none, (.int .u64)]

def ic_28 : IC := (.seq (.reg false [⟨some 0, none, [], .mv (.k (.str []))⟩])
 (.seq (.reg false [⟨some 1, none, [], .mks (.bs 5) 1 (.k (.v (.int .i64 64))) (.k (.v (.int .i64 64)))⟩,
  ⟨some 2, none, [], .b2s (.t 1)⟩,
  ⟨some 0, none, [], .mv (.t 2)⟩])
 .ret))
theorem comp_28 : compF Tryd.prog Tryd.f28 = some (ic_28, [.t 0], 3) := by kernel_rfl
-- ros 28 [] TYS []

def ic_29 : IC := (.seq (.reg false [⟨some 2, none, [], .box 39 5 (.t 0)⟩,
  ⟨some 4, none, [], .mv (.k (.str []))⟩,
  ⟨some 5, none, [], .mv (.k (.v (.int .i64 0)))⟩])
 (.seq (.seq (.reg false [⟨some 6, none, [], .fld (.t 2) 1⟩,
  ⟨some 7, none, [], .ld (.t 6)⟩])
 (.cond (.t 7)
 (.seq (.reg false [⟨some 4, none, [], .mv (.k (.str []))⟩,
  ⟨some 5, none, [], .mv (.k (.v (.int .i64 3)))⟩])
 .ret)
 .skip))
 (.seq (.seq (.reg false [⟨some 8, none, [], .mv (.t 1)⟩,
  ⟨some 9, none, [], .ib .lt .i64 (.t 8) (.k (.v (.int .i64 0)))⟩,
  ⟨some 10, none, [], .mv (.t 9)⟩,
  ⟨some 11, some (10, false), [], .mv (.t 1)⟩,
  ⟨some 12, some (10, false), [], .fld (.t 2) 0⟩,
  ⟨some 13, some (10, false), [], .ld (.t 12)⟩,
  ⟨some 14, some (10, false), [], .len false (.t 13)⟩,
  ⟨some 15, some (10, false), [], .ib .ge .i64 (.t 11) (.t 14)⟩,
  ⟨some 16, none, [], .pick (.t 10) (.k (.v (.bool true))) (.t 15)⟩])
 (.cond (.t 16)
 (.seq (.reg false [⟨some 4, none, [], .mv (.k (.str []))⟩,
  ⟨some 5, none, [], .mv (.k (.v (.int .i64 2)))⟩])
 .ret)
 .skip))
 (.seq (.reg false [⟨some 17, none, [], .fld (.t 2) 0⟩,
  ⟨some 18, none, [], .ld (.t 17)⟩,
  ⟨some 19, none, [], .mv (.t 1)⟩,
  ⟨some 20, none, [], .idx (.t 18) (.t 19) 1⟩,
  ⟨some 21, none, [], .ld (.t 20)⟩,
  ⟨some 4, none, [], .mv (.t 21)⟩,
  ⟨some 5, none, [], .mv (.k (.v (.int .i64 0)))⟩])
 .ret))))
theorem comp_29 : compF Tryd.prog Tryd.f29 = some (ic_29, [.t 4, .t 5], 22) := by kernel_rfl
-- ros 29 [none, none] TYS [(.st [(.row 9 .str), .bool, (.int .i64), (.int .i64), (.int .i64)]), (.int .i64)]

def ic_30 : IC := (.seq (.reg false [⟨some 6, none, [], .mv (.k .nsl)⟩])
 (.seq (.reg false [⟨some 7, none, [], .mv (.k .nsl)⟩])
 (.seq (.reg false [⟨some 8, none, [], .mv (.t 7)⟩,
  ⟨some 9, none, [], .mv (.t 0)⟩,
  ⟨some 10, none, [], .app (.row 9 .str) 16 (.t 8) (.t 9)⟩,
  ⟨some 7, none, [], .mv (.t 10)⟩])
 (.seq (.reg false [⟨some 11, none, [], .mv (.t 7)⟩,
  ⟨some 12, none, [], .mv (.t 1)⟩,
  ⟨some 13, none, [], .mv (.t 2)⟩,
  ⟨some 14, none, [], .idx (.t 11) (.t 12) 1⟩,
  ⟨none, none, [], .st (.t 14) (.t 13) 1⟩])
 (.seq (.reg false [⟨some 15, none, [], .mv (.t 7)⟩,
  ⟨some 6, none, [], .mv (.t 15)⟩])
 .ret)))))
theorem comp_30 : compF Tryd.prog Tryd.f30 = some (ic_30, [.t 6], 16) := by kernel_rfl
-- ros 30 [(some (.row 9 .str)), none, none] TYS [(.row 9 .str), (.int .i64), .str]

def ic_31 : IC := (.seq (.reg false [⟨some 2, none, [], .mv (.k (.v (.int .u32 0)))⟩])
 (.seq (.reg false [⟨some 3, none, [], .mv (.k (.v (.int .u32 4294967295)))⟩])
 (.seq (.seq (.reg false [⟨some 4, none, [], .mv (.k (.v (.int .i64 0)))⟩])
 (.block 0
 (.loop
 (.seq (.seq (.reg false [⟨some 7, none, [], .mv (.t 4)⟩,
  ⟨some 8, none, [], .mv (.t 0)⟩,
  ⟨some 9, none, [], .len true (.t 8)⟩,
  ⟨some 10, none, [], .ib .lt .i64 (.t 7) (.t 9)⟩])
 (.cond (.t 10)
 .skip
 (.exit 0)))
 (.seq (.block 1
 (.seq (.reg false [⟨some 13, none, [], .mv (.t 3)⟩,
  ⟨some 14, none, [], .mv (.t 0)⟩,
  ⟨some 15, none, [], .mv (.t 4)⟩,
  ⟨some 16, none, [], .sidx (.t 14) (.t 15)⟩,
  ⟨some 17, none, [], .conv .u32 (.t 16)⟩,
  ⟨some 18, none, [], .ib .xor .u32 (.t 13) (.t 17)⟩,
  ⟨some 3, none, [], .mv (.t 18)⟩])
 (.seq (.reg false [⟨some 5, none, [], .mv (.k (.v (.int .i64 0)))⟩])
 (.block 2
 (.loop
 (.seq (.seq (.reg false [⟨some 19, none, [], .mv (.t 5)⟩,
  ⟨some 20, none, [], .ib .lt .i64 (.t 19) (.k (.v (.int .i64 8)))⟩])
 (.cond (.t 20)
 .skip
 (.exit 2)))
 (.seq (.block 3
 (.seq (.reg false [⟨some 23, none, [], .mv (.t 3)⟩,
  ⟨some 24, none, [], .ib .rem .u32 (.t 23) (.k (.v (.int .u32 2)))⟩,
  ⟨some 25, none, [], .ib .eq .u32 (.t 24) (.k (.v (.int .u32 1)))⟩,
  ⟨some 6, none, [], .mv (.t 25)⟩])
 (.seq (.reg false [⟨some 26, none, [], .mv (.t 3)⟩,
  ⟨some 27, none, [], .ib .quo .u32 (.t 26) (.k (.v (.int .u32 2)))⟩,
  ⟨some 3, none, [], .mv (.t 27)⟩])
 (.seq (.reg false [⟨some 28, none, [], .mv (.t 6)⟩])
 (.cond (.t 28)
 (.reg false [⟨some 29, none, [], .mv (.t 3)⟩,
  ⟨some 30, none, [], .ib .xor .u32 (.t 29) (.k (.v (.int .u32 2197175160)))⟩,
  ⟨some 3, none, [], .mv (.t 30)⟩])
 .skip)))))
 (.reg false [⟨some 21, none, [], .mv (.t 5)⟩,
  ⟨some 22, none, [], .ib .add .i64 (.t 21) (.k (.v (.int .i64 1)))⟩,
  ⟨some 5, none, [], .mv (.t 22)⟩]))))))))
 (.reg false [⟨some 11, none, [], .mv (.t 4)⟩,
  ⟨some 12, none, [], .ib .add .i64 (.t 11) (.k (.v (.int .i64 1)))⟩,
  ⟨some 4, none, [], .mv (.t 12)⟩]))))))
 (.seq (.reg false [⟨some 31, none, [], .mv (.t 3)⟩,
  ⟨some 32, none, [], .ib .sub .u32 (.k (.v (.int .u32 4294967295))) (.t 31)⟩,
  ⟨some 2, none, [], .mv (.t 32)⟩])
 .ret))))
theorem comp_31 : compF Tryd.prog Tryd.f31 = some (ic_31, [.t 2], 33) := by kernel_rfl
-- ros 31 [none] TYS [.str]

def ic_32 : IC := (.seq (.reg false [⟨some 4, none, [], .mv (.k (.str []))⟩])
 (.seq (.reg false [⟨some 5, none, [], .mv (.k (.str []))⟩])
 (.seq (.seq (.reg false [⟨some 6, none, [], .mv (.k (.v (.int .i64 0)))⟩])
 (.block 0
 (.loop
 (.seq (.seq (.reg false [⟨some 7, none, [], .mv (.t 6)⟩,
  ⟨some 8, none, [], .mv (.t 1)⟩,
  ⟨some 9, none, [], .ib .lt .i64 (.t 7) (.t 8)⟩,
  ⟨some 10, none, [], .mv (.t 9)⟩,
  ⟨some 11, some (10, true), [], .mv (.t 1)⟩,
  ⟨some 12, some (10, true), [], .ib .le .i64 (.t 11) (.k (.v (.int .i64 8)))⟩,
  ⟨some 13, none, [], .pick (.t 10) (.t 12) (.k (.v (.bool false)))⟩])
 (.cond (.t 13)
 .skip
 (.exit 0)))
 (.seq (.block 1
 (.seq (.reg false [⟨some 16, none, [], .mv (.t 0)⟩,
  ⟨some 17, none, [], .call 40 [(.t 16)]⟩,
  ⟨some 18, none, [], .mv (.t 5)⟩,
  ⟨some 19, none, [], .sb .add (.t 17) (.t 18)⟩,
  ⟨some 5, none, [], .mv (.t 19)⟩])
 (.reg false [⟨some 20, none, [], .mv (.t 0)⟩,
  ⟨some 21, none, [], .ib .quo .u64 (.t 20) (.k (.v (.int .u64 256)))⟩,
  ⟨some 0, none, [], .mv (.t 21)⟩])))
 (.reg false [⟨some 14, none, [], .mv (.t 6)⟩,
  ⟨some 15, none, [], .ib .add .i64 (.t 14) (.k (.v (.int .i64 1)))⟩,
  ⟨some 6, none, [], .mv (.t 15)⟩]))))))
 (.seq (.reg false [⟨some 22, none, [], .mv (.t 5)⟩,
  ⟨some 4, none, [], .mv (.t 22)⟩])
 .ret))))
theorem comp_32 : compF Tryd.prog Tryd.f32 = some (ic_32, [.t 4], 23) := by kernel_rfl
-- ros 32 [none, none] TYS [(.int .u64), (.int .i64)]

def ic_33 : IC := (.seq (.reg false [⟨some 2, none, [], .box 39 5 (.t 0)⟩,
  ⟨some 4, none, [], .mv (.k (.str []))⟩,
  ⟨some 5, none, [], .mv (.k (.v (.int .u64 0)))⟩])
 (.seq (.reg false [⟨some 11, none, [], .fld (.t 2) 0⟩,
  ⟨some 12, none, [], .ld (.t 11)⟩,
  ⟨some 13, none, [], .mv (.t 1)⟩,
  ⟨some 14, none, [], .ib .mul .i64 (.k (.v (.int .i64 130))) (.t 13)⟩,
  ⟨some 15, none, [], .idx (.t 12) (.t 14) 1⟩,
  ⟨some 16, none, [], .ld (.t 15)⟩,
  ⟨some 6, none, [], .mv (.t 16)⟩])
 (.seq (.reg false [⟨some 17, none, [], .mv (.t 6)⟩,
  ⟨some 18, none, [], .call 41 [(.t 17), (.k (.v (.int .i64 0))), (.k (.v (.int .i64 8)))]⟩,
  ⟨some 7, none, [], .mv (.t 18)⟩])
 (.seq (.reg false [⟨some 19, none, [], .mv (.t 6)⟩,
  ⟨some 20, none, [], .call 41 [(.t 19), (.k (.v (.int .i64 8))), (.k (.v (.int .i64 12)))]⟩,
  ⟨some 8, none, [], .mv (.t 20)⟩])
 (.seq (.seq (.reg true [⟨some 21, none, [], .mv (.t 7)⟩,
  ⟨some 22, none, [0], .ib .eq .u64 (.t 21) (.k (.v (.int .u64 0)))⟩,
  ⟨some 23, none, [1, 0], .mv (.t 22)⟩,
  ⟨some 24, some (23, false), [2, 1, 0], .mv (.t 7)⟩,
  ⟨some 25, some (23, false), [2, 1, 0], .mv (.t 6)⟩,
  ⟨some 26, some (23, false), [4, 2, 1, 0], .call 41 [(.t 25), (.k (.v (.int .i64 56))), (.k (.v (.int .i64 64)))]⟩,
  ⟨some 27, some (23, false), [3, 2, 1, 0, 5, 4], .ib .ne .u64 (.t 24) (.t 26)⟩,
  ⟨some 28, none, [2, 1, 0, 6, 3, 5, 4], .pick (.t 23) (.k (.v (.bool true))) (.t 27)⟩,
  ⟨some 29, none, [7, 2, 1, 0, 6, 3, 5, 4], .mv (.t 28)⟩,
  ⟨some 30, some (29, false), [8, 7, 2, 1, 0, 6, 3, 5, 4], .mv (.t 7)⟩,
  ⟨some 31, some (29, false), [9, 8, 7, 2, 1, 0, 6, 3, 5, 4], .ib .rem .u64 (.t 30) (.k (.v (.int .u64 2)))⟩,
  ⟨some 32, some (29, false), [10, 9, 8, 7, 2, 1, 0, 6, 3, 5, 4], .conv .i64 (.t 31)⟩,
  ⟨some 33, some (29, false), [8, 7, 2, 1, 0, 6, 3, 5, 4], .mv (.t 1)⟩,
  ⟨some 34, some (29, false), [11, 10, 9, 8, 7, 2, 1, 0, 6, 3, 5, 4, 12], .ib .ne .i64 (.t 32) (.t 33)⟩,
  ⟨some 35, none, [8, 7, 2, 1, 0, 6, 3, 5, 4, 13, 11, 10, 9, 12], .pick (.t 29) (.k (.v (.bool true))) (.t 34)⟩,
  ⟨some 36, none, [14, 8, 7, 2, 1, 0, 6, 3, 5, 4, 13, 11, 10, 9, 12], .mv (.t 35)⟩,
  ⟨some 37, some (36, false), [15, 14, 8, 7, 2, 1, 0, 6, 3, 5, 4, 13, 11, 10, 9, 12], .mv (.t 8)⟩,
  ⟨some 38, some (36, false), [16, 15, 14, 8, 7, 2, 1, 0, 6, 3, 5, 4, 13, 11, 10, 9, 12], .ib .gt .u64 (.t 37) (.k (.v (.int .u64 8192)))⟩,
  ⟨some 39, none, [15, 14, 8, 7, 2, 1, 0, 6, 3, 5, 4, 13, 11, 10, 9, 12, 17, 16], .pick (.t 36) (.k (.v (.bool true))) (.t 38)⟩,
  ⟨some 40, none, [18, 15, 14, 8, 7, 2, 1, 0, 6, 3, 5, 4, 13, 11, 10, 9, 12, 17, 16], .mv (.t 39)⟩,
  ⟨some 41, some (40, false), [19, 18, 15, 14, 8, 7, 2, 1, 0, 6, 3, 5, 4, 13, 11, 10, 9, 12, 17, 16], .mv (.t 6)⟩,
  ⟨some 42, some (40, false), [20, 19, 18, 15, 14, 8, 7, 2, 1, 0, 6, 3, 5, 4, 13, 11, 10, 9, 12, 17, 16], .ssl (.t 41) (some (.k (.v (.int .i64 16)))) (some (.k (.v (.int .i64 56))))⟩,
  ⟨some 43, some (40, false), [19, 18, 15, 14, 8, 7, 2, 1, 0, 6, 3, 5, 4, 13, 11, 10, 9, 12, 17, 16], .mks (.bs 5) 1 (.k (.v (.int .i64 40))) (.k (.v (.int .i64 40)))⟩,
  ⟨some 44, some (40, false), [22, 19, 18, 15, 14, 8, 7, 2, 1, 0, 6, 3, 5, 4, 13, 11, 10, 9, 12, 17, 16], .b2s (.t 43)⟩,
  ⟨some 45, some (40, false), [21, 20, 19, 18, 15, 14, 8, 7, 2, 1, 0, 6, 3, 5, 4, 13, 11, 10, 9, 12, 17, 16, 23, 22], .sb .ne (.t 42) (.t 44)⟩,
  ⟨some 46, none, [19, 18, 15, 14, 8, 7, 2, 1, 0, 6, 3, 5, 4, 13, 11, 10, 9, 12, 17, 16, 24, 21, 20, 23, 22], .pick (.t 40) (.k (.v (.bool true))) (.t 45)⟩])
 (.cond (.t 46)
 (.seq (.reg false [⟨some 4, none, [], .mv (.k (.str []))⟩,
  ⟨some 5, none, [], .mv (.k (.v (.int .u64 0)))⟩])
 .ret)
 .skip))
 (.seq (.reg false [⟨some 9, none, [], .mv (.k (.str []))⟩])
 (.seq (.seq (.reg false [⟨some 10, none, [], .mv (.k (.v (.int .i64 0)))⟩])
 (.block 0
 (.loop
 (.seq (.seq (.reg false [⟨some 47, none, [], .mv (.t 10)⟩,
  ⟨some 48, none, [], .ib .lt .i64 (.t 47) (.k (.v (.int .i64 128)))⟩,
  ⟨some 49, none, [], .mv (.t 48)⟩,
  ⟨some 50, some (49, true), [], .mv (.t 10)⟩,
  ⟨some 51, some (49, true), [], .ib .mul .i64 (.k (.v (.int .i64 64))) (.t 50)⟩,
  ⟨some 52, some (49, true), [], .conv .u64 (.t 51)⟩,
  ⟨some 53, some (49, true), [], .mv (.t 8)⟩,
  ⟨some 54, some (49, true), [], .ib .lt .u64 (.t 52) (.t 53)⟩,
  ⟨some 55, none, [], .pick (.t 49) (.t 54) (.k (.v (.bool false)))⟩])
 (.cond (.t 55)
 .skip
 (.exit 0)))
 (.seq (.block 1
 (.reg false [⟨some 58, none, [], .mv (.t 9)⟩,
  ⟨some 59, none, [], .fld (.t 2) 0⟩,
  ⟨some 60, none, [], .ld (.t 59)⟩,
  ⟨some 61, none, [], .mv (.t 1)⟩,
  ⟨some 62, none, [], .ib .mul .i64 (.k (.v (.int .i64 130))) (.t 61)⟩,
  ⟨some 63, none, [], .ib .add .i64 (.t 62) (.k (.v (.int .i64 1)))⟩,
  ⟨some 64, none, [], .mv (.t 10)⟩,
  ⟨some 65, none, [], .ib .add .i64 (.t 63) (.t 64)⟩,
  ⟨some 66, none, [], .idx (.t 60) (.t 65) 1⟩,
  ⟨some 67, none, [], .ld (.t 66)⟩,
  ⟨some 68, none, [], .sb .add (.t 58) (.t 67)⟩,
  ⟨some 9, none, [], .mv (.t 68)⟩]))
 (.reg false [⟨some 56, none, [], .mv (.t 10)⟩,
  ⟨some 57, none, [], .ib .add .i64 (.t 56) (.k (.v (.int .i64 1)))⟩,
  ⟨some 10, none, [], .mv (.t 57)⟩]))))))
 (.seq (.reg false [⟨some 69, none, [], .mv (.t 9)⟩,
  ⟨some 70, none, [], .mv (.t 8)⟩,
  ⟨some 71, none, [], .ssl (.t 69) none (some (.t 70))⟩,
  ⟨some 9, none, [], .mv (.t 71)⟩])
 (.seq (.seq (.reg false [⟨some 72, none, [], .mv (.t 9)⟩,
  ⟨some 73, none, [], .call 31 [(.t 72)]⟩,
  ⟨some 74, none, [], .conv .u64 (.t 73)⟩,
  ⟨some 75, none, [], .mv (.t 6)⟩,
  ⟨some 76, none, [], .call 41 [(.t 75), (.k (.v (.int .i64 12))), (.k (.v (.int .i64 16)))]⟩,
  ⟨some 77, none, [], .ib .ne .u64 (.t 74) (.t 76)⟩])
 (.cond (.t 77)
 (.seq (.reg false [⟨some 4, none, [], .mv (.k (.str []))⟩,
  ⟨some 5, none, [], .mv (.k (.v (.int .u64 0)))⟩])
 .ret)
 .skip))
 (.seq (.reg false [⟨some 78, none, [], .mv (.t 9)⟩,
  ⟨some 79, none, [], .mv (.t 7)⟩,
  ⟨some 4, none, [], .mv (.t 78)⟩,
  ⟨some 5, none, [], .mv (.t 79)⟩])
 .ret))))))))))
theorem comp_33 : compF Tryd.prog Tryd.f33 = some (ic_33, [.t 4, .t 5], 80) := by kernel_rfl
-- ros 33 [none, none] TYS [(.st [(.row 9 .str), .bool, (.int .i64), (.int .i64), (.int .i64)]), (.int .i64)]

def ic_34 : IC := (.seq (.reg false [⟨some 7, none, [], .ld (.t 1)⟩,
  ⟨some 8, none, [], .ib .rem .u64 (.t 7) (.k (.v (.int .u64 2)))⟩,
  ⟨some 9, none, [], .conv .i64 (.t 8)⟩,
  ⟨some 10, none, [], .ib .mul .i64 (.t 9) (.k (.v (.int .i64 130)))⟩,
  ⟨some 4, none, [], .mv (.t 10)⟩])
 (.seq (.seq (.reg false [⟨some 5, none, [], .mv (.k (.v (.int .i64 0)))⟩])
 (.block 0
 (.loop
 (.seq (.seq (.reg false [⟨some 11, none, [], .mv (.t 5)⟩,
  ⟨some 12, none, [], .ld (.t 2)⟩,
  ⟨some 13, none, [], .len false (.t 12)⟩,
  ⟨some 14, none, [], .ib .lt .i64 (.t 11) (.t 13)⟩])
 (.cond (.t 14)
 .skip
 (.exit 0)))
 (.seq (.block 1
 (.seq (.reg false [⟨some 17, none, [], .mks (.bs 5) 1 (.k (.v (.int .i64 64))) (.k (.v (.int .i64 64)))⟩,
  ⟨some 6, none, [], .mv (.t 17)⟩])
 (.seq (.reg false [⟨some 18, none, [], .mv (.t 6)⟩,
  ⟨some 19, none, [], .ld (.t 2)⟩,
  ⟨some 20, none, [], .mv (.t 5)⟩,
  ⟨some 21, none, [], .sls (.t 19) (some (.t 20)) none 1⟩,
  ⟨some 22, none, [], .copy (.t 18) (.t 21) 1⟩])
 (.seq (.reg false [⟨some 23, none, [], .mv (.t 0)⟩,
  ⟨some 24, none, [], .mv (.t 4)⟩,
  ⟨some 25, none, [], .ib .add .i64 (.t 24) (.k (.v (.int .i64 1)))⟩,
  ⟨some 26, none, [], .mv (.t 5)⟩,
  ⟨some 27, none, [], .ib .quo .i64 (.t 26) (.k (.v (.int .i64 64)))⟩,
  ⟨some 28, none, [], .ib .add .i64 (.t 25) (.t 27)⟩,
  ⟨some 29, none, [], .mv (.t 6)⟩,
  ⟨some 30, none, [], .callv (.t 23) [(.t 28), (.t 29)]⟩,
  ⟨some 31, none, [], .bnot (.t 30)⟩])
 (.cond (.t 31)
 .ret
 .skip)))))
 (.reg false [⟨some 15, none, [], .mv (.t 5)⟩,
  ⟨some 16, none, [], .ib .add .i64 (.t 15) (.k (.v (.int .i64 64)))⟩,
  ⟨some 5, none, [], .mv (.t 16)⟩]))))))
 (.reg false [⟨some 32, none, [], .mv (.t 0)⟩,
  ⟨some 33, none, [], .mv (.t 4)⟩,
  ⟨some 34, none, [], .ld (.t 1)⟩,
  ⟨some 35, none, [], .ld (.t 2)⟩,
  ⟨some 36, none, [], .call 35 [(.t 34), (.t 35)]⟩,
  ⟨some 37, none, [], .callv (.t 32) [(.t 33), (.t 36)]⟩])))
theorem comp_34 : compF Tryd.prog Tryd.f34 = some (ic_34, [], 38) := by kernel_rfl
-- ros 34 [none] TYS [none]

def ic_35 : IC := (.seq (.reg false [⟨some 4, none, [], .mv (.k .nsl)⟩])
 (.seq (.reg true [⟨some 5, none, [], .mv (.t 0)⟩,
  ⟨some 6, none, [0], .call 43 [(.t 5), (.k (.v (.int .i64 8)))]⟩,
  ⟨some 7, none, [], .mv (.t 1)⟩,
  ⟨some 8, none, [2], .len false (.t 7)⟩,
  ⟨some 9, none, [3, 2], .conv .u64 (.t 8)⟩,
  ⟨some 10, none, [4, 3, 2, 1, 0], .call 43 [(.t 9), (.k (.v (.int .i64 4)))]⟩,
  ⟨some 11, none, [], .mv (.t 1)⟩,
  ⟨some 12, none, [6, 5, 4, 3, 2, 1, 0], .call 44 [(.t 11)]⟩,
  ⟨some 13, none, [7, 6, 5, 4, 3, 2, 1, 0], .conv .u64 (.t 12)⟩,
  ⟨some 14, none, [8, 7, 6, 5, 4, 3, 2, 1, 0], .call 43 [(.t 13), (.k (.v (.int .i64 4)))]⟩,
  ⟨some 15, none, [], .mks (.bs 5) 1 (.k (.v (.int .i64 40))) (.k (.v (.int .i64 40)))⟩,
  ⟨some 16, none, [], .mv (.t 0)⟩,
  ⟨some 17, none, [11, 9, 8, 7, 6, 5, 4, 3, 2, 1, 0], .call 43 [(.t 16), (.k (.v (.int .i64 8)))]⟩,
  ⟨some 18, none, [1, 0, 5, 4, 3, 2, 9, 8, 7, 6, 10, 12, 11], .bsl (.row 22 (.bytes 5)) 5 [.nsl, .nsl, .nsl, .nsl, .nsl] [(0, 1, (.t 6)), (1, 1, (.t 10)), (2, 1, (.t 14)), (3, 1, (.t 15)), (4, 1, (.t 17))]⟩,
  ⟨some 19, none, [13, 1, 0, 5, 4, 3, 2, 9, 8, 7, 6, 10, 12, 11], .call 42 [(.t 18), (.k .nsl)]⟩,
  ⟨some 4, none, [14, 13, 1, 0, 5, 4, 3, 2, 9, 8, 7, 6, 10, 12, 11], .mv (.t 19)⟩])
 .ret))
theorem comp_35 : compF Tryd.prog Tryd.f35 = some (ic_35, [.t 4], 20) := by kernel_rfl
-- ros 35 [none, (some (.bs 5))] TYS [(.int .u64), (.bytes 5)]

def ic_36 : IC := (.seq (.reg false [⟨some 2, none, [], .mv (.k (.v (.pointer none)))⟩])
 (.seq (.reg false [⟨some 3, none, [], .mv (.t 0)⟩,
  ⟨some 4, none, [], .call 45 [(.t 3)]⟩,
  ⟨some 5, none, [], .build [.nsl, (.v (.int .i64 0))] [(0, 1, (.t 4))]⟩,
  ⟨some 6, none, [], .box 95 2 (.t 5)⟩,
  ⟨some 2, none, [], .mv (.t 6)⟩])
 .ret))
theorem comp_36 : compF Tryd.prog Tryd.f36 = some (ic_36, [.t 2], 7) := by kernel_rfl
-- ros 36 [(some (.bs 5))] TYS [(.bytes 5)]

def ic_37 : IC := (.seq (.reg false [⟨some 4, none, [], .mv (.k (.v (.int .u64 0)))⟩])
 (.seq (.seq (.reg false [⟨some 7, none, [], .mv (.t 0)⟩,
  ⟨some 8, none, [], .isn 0 false (.t 7)⟩])
 (.cond (.t 8)
 (.seq (.reg false [⟨some 4, none, [], .mv (.k (.v (.int .u64 0)))⟩])
 .ret)
 .skip))
 (.seq (.seq (.reg false [⟨some 9, none, [], .mv (.t 1)⟩,
  ⟨some 10, none, [], .ib .lt .i64 (.t 9) (.k (.v (.int .i64 1)))⟩,
  ⟨some 11, none, [], .mv (.t 10)⟩,
  ⟨some 12, some (11, false), [], .mv (.t 1)⟩,
  ⟨some 13, some (11, false), [], .ib .gt .i64 (.t 12) (.k (.v (.int .i64 8)))⟩,
  ⟨some 14, none, [], .pick (.t 11) (.k (.v (.bool true))) (.t 13)⟩])
 (.cond (.t 14)
 (.seq (.reg false [⟨some 15, none, [], .mv (.t 0)⟩,
  ⟨some 16, none, [], .call 46 [(.t 15), (.k (.v (.int .i64 1)))]⟩])
 (.seq (.reg false [⟨some 4, none, [], .mv (.k (.v (.int .u64 0)))⟩])
 .ret))
 .skip))
 (.seq (.reg false [⟨some 18, none, [], .mv (.t 0)⟩,
  ⟨some 19, none, [], .mv (.t 1)⟩,
  ⟨some 20, none, [], .call 48 [(.t 18), (.t 19)]⟩,
  ⟨some 21, none, [], .call 47 [(.t 20)]⟩,
  ⟨some 17, none, [], .mv (.t 21)⟩,
  ⟨some 22, none, [], .ext (.t 17) 0⟩,
  ⟨some 23, none, [], .ext (.t 17) 1⟩,
  ⟨some 5, none, [], .mv (.t 22)⟩,
  ⟨some 6, none, [], .mv (.t 23)⟩])
 (.seq (.reg false [⟨some 24, none, [], .mv (.t 5)⟩,
  ⟨some 4, none, [], .mv (.t 24)⟩])
 .ret)))))
theorem comp_37 : compF Tryd.prog Tryd.f37 = some (ic_37, [.t 4], 25) := by kernel_rfl
-- ros 37 [none, none] TYS [none, (.int .i64)]

def ic_38 : IC := (.seq (.reg false [⟨some 6, none, [], .mv (.k .nsl)⟩])
 (.seq (.reg false [⟨some 7, none, [], .mv (.k .nsl)⟩])
 (.seq (.seq (.reg false [⟨some 11, none, [], .mv (.t 1)⟩,
  ⟨some 12, none, [], .conv .i64 (.t 11)⟩,
  ⟨some 13, none, [], .ib .mul .i64 (.t 12) (.k (.v (.int .i64 130)))⟩,
  ⟨some 14, none, [], .ib .add .i64 (.t 13) (.k (.v (.int .i64 1)))⟩,
  ⟨some 8, none, [], .mv (.t 14)⟩])
 (.block 0
 (.loop
 (.seq (.seq (.reg false [⟨some 15, none, [], .mv (.t 7)⟩,
  ⟨some 16, none, [], .len false (.t 15)⟩,
  ⟨some 17, none, [], .mv (.t 2)⟩,
  ⟨some 18, none, [], .ib .lt .i64 (.t 16) (.t 17)⟩])
 (.cond (.t 18)
 .skip
 (.exit 0)))
 (.seq (.block 1
 (.seq (.reg false [⟨some 22, none, [], .mv (.t 0)⟩,
  ⟨some 23, none, [], .mv (.t 8)⟩,
  ⟨some 24, none, [], .call 12 [(.t 22), (.t 23)]⟩,
  ⟨some 21, none, [], .mv (.t 24)⟩,
  ⟨some 25, none, [], .ext (.t 21) 0⟩,
  ⟨some 26, none, [], .ext (.t 21) 1⟩,
  ⟨some 9, none, [], .mv (.t 25)⟩,
  ⟨some 10, none, [], .mv (.t 26)⟩])
 (.seq (.seq (.reg false [⟨some 27, none, [], .mv (.t 10)⟩,
  ⟨some 28, none, [], .ib .ne .i64 (.t 27) (.k (.v (.int .i64 0)))⟩])
 (.cond (.t 28)
 (.seq (.reg false [⟨some 29, none, [], .mv (.t 7)⟩,
  ⟨some 6, none, [], .mv (.t 29)⟩])
 .ret)
 .skip))
 (.reg false [⟨some 30, none, [], .mv (.t 7)⟩,
  ⟨some 31, none, [], .mv (.t 9)⟩,
  ⟨some 32, none, [], .app (.bs 5) 1 (.t 30) (.t 31)⟩,
  ⟨some 7, none, [], .mv (.t 32)⟩]))))
 (.reg false [⟨some 19, none, [], .mv (.t 8)⟩,
  ⟨some 20, none, [], .ib .add .i64 (.t 19) (.k (.v (.int .i64 1)))⟩,
  ⟨some 8, none, [], .mv (.t 20)⟩]))))))
 (.seq (.reg false [⟨some 33, none, [], .mv (.t 7)⟩,
  ⟨some 34, none, [], .mv (.t 2)⟩,
  ⟨some 35, none, [], .sls (.t 33) none (some (.t 34)) 1⟩,
  ⟨some 6, none, [], .mv (.t 35)⟩])
 .ret))))
theorem comp_38 : compF Tryd.prog Tryd.f38 = some (ic_38, [.t 6], 36) := by kernel_rfl
-- ros 38 [none, none, none] TYS [none, (.int .u64), (.int .i64)]

def ic_39 : IC := (.seq (.reg false [⟨some 4, none, [], .mv (.k (.v (.bool false)))⟩])
 (.seq (.reg false [⟨some 5, none, [], .mv (.t 0)⟩,
  ⟨some 6, none, [], .b2s (.t 5)⟩,
  ⟨some 7, none, [], .mv (.t 1)⟩,
  ⟨some 8, none, [], .b2s (.t 7)⟩,
  ⟨some 9, none, [], .sb .eq (.t 6) (.t 8)⟩,
  ⟨some 4, none, [], .mv (.t 9)⟩])
 .ret))
theorem comp_39 : compF Tryd.prog Tryd.f39 = some (ic_39, [.t 4], 10) := by kernel_rfl
-- ros 39 [(some (.bs 5)), (some (.bs 5))] TYS [(.bytes 5), (.bytes 5)]

def ic_40 : IC := (.seq (.reg false [⟨some 2, none, [], .mv (.k (.str []))⟩])
 (.seq (.reg false [⟨some 3, none, [], .mv (.t 0)⟩,
  ⟨some 4, none, [], .ib .rem .u64 (.t 3) (.k (.v (.int .u64 256)))⟩,
  ⟨some 5, none, [], .conv .u8 (.t 4)⟩,
  ⟨some 6, none, [], .bsl (.bs 5) 1 [(.v (.int .u8 0))] [(0, 1, (.t 5))]⟩,
  ⟨some 7, none, [], .b2s (.t 6)⟩,
  ⟨some 2, none, [], .mv (.t 7)⟩])
 .ret))
theorem comp_40 : compF Tryd.prog Tryd.f40 = some (ic_40, [.t 2], 8) := by kernel_rfl
-- ros 40 [none] TYS [(.int .u64)]

def ic_41 : IC := (.seq (.reg false [⟨some 6, none, [], .mv (.k (.v (.int .u64 0)))⟩])
 (.seq (.reg false [⟨some 10, none, [], .mv (.t 0)⟩,
  ⟨some 11, none, [], .mv (.t 1)⟩,
  ⟨some 12, none, [], .mv (.t 2)⟩,
  ⟨some 13, none, [], .ssl (.t 10) (some (.t 11)) (some (.t 12))⟩,
  ⟨some 14, none, [], .call 49 [(.t 13)]⟩,
  ⟨some 9, none, [], .mv (.t 14)⟩,
  ⟨some 15, none, [], .ext (.t 9) 0⟩,
  ⟨some 16, none, [], .ext (.t 9) 1⟩,
  ⟨some 7, none, [], .mv (.t 15)⟩,
  ⟨some 8, none, [], .mv (.t 16)⟩])
 (.seq (.reg false [⟨some 17, none, [], .mv (.t 7)⟩,
  ⟨some 6, none, [], .mv (.t 17)⟩])
 .ret)))
theorem comp_41 : compF Tryd.prog Tryd.f41 = some (ic_41, [.t 6], 18) := by kernel_rfl
-- ros 41 [none, none, none] TYS [.str, (.int .i64), (.int .i64)]

def ic_43 : IC := (.seq (.reg false [⟨some 4, none, [], .mv (.k .nsl)⟩])
 (.seq (.reg false [⟨some 5, none, [], .mv (.k .nsl)⟩])
 (.seq (.seq (.reg false [⟨some 7, none, [], .mv (.t 1)⟩,
  ⟨some 8, none, [], .ib .lt .i64 (.t 7) (.k (.v (.int .i64 1)))⟩,
  ⟨some 9, none, [], .mv (.t 8)⟩,
  ⟨some 10, some (9, false), [], .mv (.t 1)⟩,
  ⟨some 11, some (9, false), [], .ib .gt .i64 (.t 10) (.k (.v (.int .i64 8)))⟩,
  ⟨some 12, none, [], .pick (.t 9) (.k (.v (.bool true))) (.t 11)⟩])
 (.cond (.t 12)
 (.seq (.reg false [⟨some 4, none, [], .mv (.k .nsl)⟩])
 .ret)
 .skip))
 (.seq (.seq (.reg false [⟨some 13, none, [], .mv (.t 1)⟩,
  ⟨some 14, none, [], .ib .sub .i64 (.t 13) (.k (.v (.int .i64 1)))⟩,
  ⟨some 6, none, [], .mv (.t 14)⟩])
 (.block 0
 (.loop
 (.seq (.seq (.reg false [⟨some 15, none, [], .mv (.t 6)⟩,
  ⟨some 16, none, [], .ib .ge .i64 (.t 15) (.k (.v (.int .i64 0)))⟩])
 (.cond (.t 16)
 .skip
 (.exit 0)))
 (.seq (.block 1
 (.reg false [⟨some 19, none, [], .mv (.t 5)⟩,
  ⟨some 20, none, [], .mv (.t 0)⟩,
  ⟨some 21, none, [], .mv (.t 6)⟩,
  ⟨some 22, none, [], .ib .mul .i64 (.k (.v (.int .i64 8))) (.t 21)⟩,
  ⟨some 23, none, [], .sh false .u64 (.t 20) (.t 22)⟩,
  ⟨some 24, none, [], .conv .u8 (.t 23)⟩,
  ⟨some 25, none, [], .bsl (.bs 5) 1 [(.v (.int .u8 0))] [(0, 1, (.t 24))]⟩,
  ⟨some 26, none, [], .app (.bs 5) 1 (.t 19) (.t 25)⟩,
  ⟨some 5, none, [], .mv (.t 26)⟩]))
 (.reg false [⟨some 17, none, [], .mv (.t 6)⟩,
  ⟨some 18, none, [], .ib .sub .i64 (.t 17) (.k (.v (.int .i64 1)))⟩,
  ⟨some 6, none, [], .mv (.t 18)⟩]))))))
 (.seq (.reg false [⟨some 27, none, [], .mv (.t 5)⟩,
  ⟨some 4, none, [], .mv (.t 27)⟩])
 .ret)))))
theorem comp_43 : compF Tryd.prog Tryd.f43 = some (ic_43, [.t 4], 28) := by kernel_rfl
-- ros 43 [none, none] TYS [(.int .u64), (.int .i64)]

def ic_44 : IC := (.seq (.reg false [⟨some 2, none, [], .mv (.k (.v (.int .u32 0)))⟩])
 (.seq (.reg false [⟨some 3, none, [], .mv (.k (.v (.int .u32 4294967295)))⟩])
 (.seq (.seq (.reg false [⟨some 6, none, [], .mv (.t 0)⟩,
  ⟨some 7, none, [], .len false (.t 6)⟩,
  ⟨some 8, none, [], .mv (.k (.v (.int .i64 0)))⟩])
 (.block 0
 (.loop
 (.seq (.reg false [⟨some 9, none, [], .ib .lt .i64 (.t 8) (.t 7)⟩])
 (.seq (.cond (.t 9)
 .skip
 (.exit 0))
 (.seq (.block 1
 (.seq (.reg false [⟨some 10, none, [], .idx (.t 6) (.t 8) 1⟩,
  ⟨some 11, none, [], .ld (.t 10)⟩,
  ⟨some 5, none, [], .mv (.t 11)⟩])
 (.seq (.reg false [⟨some 12, none, [], .mv (.t 3)⟩,
  ⟨some 13, none, [], .mv (.t 5)⟩,
  ⟨some 14, none, [], .conv .u32 (.t 13)⟩,
  ⟨some 15, none, [], .ib .xor .u32 (.t 12) (.t 14)⟩,
  ⟨some 3, none, [], .mv (.t 15)⟩])
 (.seq (.reg false [⟨some 16, none, [], .mv (.k (.v (.int .i64 0)))⟩])
 (.block 2
 (.loop
 (.seq (.reg false [⟨some 17, none, [], .ib .lt .i64 (.t 16) (.k (.v (.int .i64 2)))⟩])
 (.seq (.cond (.t 17)
 .skip
 (.exit 2))
 (.seq (.block 3
 (.reg false [⟨some 18, none, [], .mv (.t 3)⟩,
  ⟨some 19, none, [], .sh false .u32 (.t 18) (.k (.v (.int .u64 4)))⟩,
  ⟨some 20, none, [], .mv (.t 3)⟩,
  ⟨some 21, none, [], .ib .and .u32 (.t 20) (.k (.v (.int .u32 15)))⟩,
  ⟨some 22, none, [], .gix 0 (.t 21)⟩,
  ⟨some 23, none, [], .ld (.t 22)⟩,
  ⟨some 24, none, [], .ib .xor .u32 (.t 19) (.t 23)⟩,
  ⟨some 3, none, [], .mv (.t 24)⟩]))
 (.reg false [⟨some 25, none, [], .ib .add .i64 (.t 16) (.k (.v (.int .i64 1)))⟩,
  ⟨some 16, none, [], .mv (.t 25)⟩]))))))))))
 (.reg false [⟨some 26, none, [], .ib .add .i64 (.t 8) (.k (.v (.int .i64 1)))⟩,
  ⟨some 8, none, [], .mv (.t 26)⟩])))))))
 (.seq (.reg false [⟨some 27, none, [], .mv (.t 3)⟩,
  ⟨some 28, none, [], .icom .u32 (.t 27)⟩,
  ⟨some 2, none, [], .mv (.t 28)⟩])
 .ret))))
theorem comp_44 : compF Tryd.prog Tryd.f44 = some (ic_44, [.t 2], 29) := by kernel_rfl
-- ros 44 [(some (.bs 5))] TYS [(.bytes 5)]

def ic_45 : IC := (.seq (.reg false [⟨some 2, none, [], .mv (.k .nsl)⟩])
 (.seq (.seq (.reg false [⟨some 3, none, [], .mv (.t 0)⟩,
  ⟨some 4, none, [], .isn 1 false (.t 3)⟩])
 (.cond (.t 4)
 (.seq (.reg false [⟨some 2, none, [], .mv (.k .nsl)⟩])
 .ret)
 .skip))
 (.seq (.reg false [⟨some 5, none, [], .bsl (.bs 5) 0 [] []⟩,
  ⟨some 6, none, [], .mv (.t 0)⟩,
  ⟨some 7, none, [], .app (.bs 5) 1 (.t 5) (.t 6)⟩,
  ⟨some 2, none, [], .mv (.t 7)⟩])
 .ret)))
theorem comp_45 : compF Tryd.prog Tryd.f45 = some (ic_45, [.t 2], 8) := by kernel_rfl
-- ros 45 [(some (.bs 5))] TYS [(.bytes 5)]

def ic_46 : IC := (.seq (.reg false [⟨some 4, none, [], .mv (.t 0)⟩,
  ⟨some 5, none, [], .chk (.t 4)⟩,
  ⟨some 6, none, [], .fld (.t 5) 1⟩,
  ⟨some 7, none, [], .ld (.t 6)⟩,
  ⟨some 8, none, [], .ib .eq .i64 (.t 7) (.k (.v (.int .i64 0)))⟩])
 (.cond (.t 8)
 (.reg false [⟨some 9, none, [], .mv (.t 0)⟩,
  ⟨some 10, none, [], .mv (.t 1)⟩,
  ⟨some 11, none, [], .chk (.t 9)⟩,
  ⟨some 12, none, [], .fld (.t 11) 1⟩,
  ⟨none, none, [], .st (.t 12) (.t 10) 1⟩])
 .skip))
theorem comp_46 : compF Tryd.prog Tryd.f46 = some (ic_46, [], 13) := by kernel_rfl
-- ros 46 [none, none] TYS [none, (.int .i64)]

def ic_47 : IC := (.seq (.reg false [⟨some 2, none, [], .mv (.k (.v (.int .u64 0)))⟩,
  ⟨some 3, none, [], .mv (.k (.v (.bool false)))⟩])
 (.seq (.reg false [⟨some 4, none, [], .mv (.k (.v (.int .u64 0)))⟩])
 (.seq (.seq (.reg false [⟨some 7, none, [], .mv (.t 0)⟩,
  ⟨some 8, none, [], .len false (.t 7)⟩,
  ⟨some 9, none, [], .mv (.k (.v (.int .i64 0)))⟩])
 (.block 0
 (.loop
 (.seq (.reg false [⟨some 10, none, [], .ib .lt .i64 (.t 9) (.t 8)⟩])
 (.seq (.cond (.t 10)
 .skip
 (.exit 0))
 (.seq (.block 1
 (.seq (.reg false [⟨some 11, none, [], .idx (.t 7) (.t 9) 1⟩,
  ⟨some 12, none, [], .ld (.t 11)⟩,
  ⟨some 6, none, [], .mv (.t 12)⟩])
 (.seq (.seq (.reg false [⟨some 13, none, [], .mv (.t 4)⟩,
  ⟨some 14, none, [], .sh false .u64 (.t 13) (.k (.v (.int .u64 56)))⟩,
  ⟨some 15, none, [], .ib .gt .u64 (.t 14) (.k (.v (.int .u64 0)))⟩])
 (.cond (.t 15)
 (.seq (.reg false [⟨some 2, none, [], .mv (.k (.v (.int .u64 0)))⟩,
  ⟨some 3, none, [], .mv (.k (.v (.bool false)))⟩])
 .ret)
 .skip))
 (.reg false [⟨some 16, none, [], .mv (.t 4)⟩,
  ⟨some 17, none, [], .sh true .u64 (.t 16) (.k (.v (.int .u64 8)))⟩,
  ⟨some 18, none, [], .mv (.t 6)⟩,
  ⟨some 19, none, [], .conv .u64 (.t 18)⟩,
  ⟨some 20, none, [], .ib .or .u64 (.t 17) (.t 19)⟩,
  ⟨some 4, none, [], .mv (.t 20)⟩]))))
 (.reg false [⟨some 21, none, [], .ib .add .i64 (.t 9) (.k (.v (.int .i64 1)))⟩,
  ⟨some 9, none, [], .mv (.t 21)⟩])))))))
 (.seq (.reg false [⟨some 22, none, [], .mv (.t 4)⟩,
  ⟨some 2, none, [], .mv (.t 22)⟩,
  ⟨some 3, none, [], .mv (.k (.v (.bool true)))⟩])
 .ret))))
theorem comp_47 : compF Tryd.prog Tryd.f47 = some (ic_47, [.t 2, .t 3], 23) := by kernel_rfl
-- ros 47 [(some (.bs 5))] TYS [(.bytes 5)]

def ic_48 : IC := (.seq (.reg false [⟨some 4, none, [], .mv (.k .nsl)⟩])
 (.seq (.block 0
 (.seq (.reg false [⟨some 7, none, [], .mv (.t 0)⟩,
  ⟨some 8, none, [], .isn 0 false (.t 7)⟩,
  ⟨some 6, none, [], .mv (.t 8)⟩])
 (.cond (.t 6)
 (.seq (.reg false [⟨some 4, none, [], .mv (.k .nsl)⟩])
 .ret)
 (.seq (.reg false [⟨some 10, none, [], .mv (.t 1)⟩,
  ⟨some 11, none, [], .ib .lt .i64 (.t 10) (.k (.v (.int .i64 0)))⟩,
  ⟨some 9, none, [], .mv (.t 11)⟩])
 (.cond (.t 9)
 (.reg false [⟨some 12, none, [], .mv (.t 0)⟩,
  ⟨some 13, none, [], .call 46 [(.t 12), (.k (.v (.int .i64 1)))]⟩])
 (.seq (.reg false [⟨some 15, none, [], .mv (.t 1)⟩,
  ⟨some 16, none, [], .mv (.t 0)⟩,
  ⟨some 17, none, [], .chk (.t 16)⟩,
  ⟨some 18, none, [], .fld (.t 17) 0⟩,
  ⟨some 19, none, [], .ld (.t 18)⟩,
  ⟨some 20, none, [], .len false (.t 19)⟩,
  ⟨some 21, none, [], .ib .gt .i64 (.t 15) (.t 20)⟩,
  ⟨some 14, none, [], .mv (.t 21)⟩])
 (.cond (.t 14)
 (.reg false [⟨some 22, none, [], .mv (.t 0)⟩,
  ⟨some 23, none, [], .call 46 [(.t 22), (.k (.v (.int .i64 10)))]⟩])
 .skip)))))))
 (.seq (.seq (.reg false [⟨some 24, none, [], .mv (.t 0)⟩,
  ⟨some 25, none, [], .chk (.t 24)⟩,
  ⟨some 26, none, [], .fld (.t 25) 1⟩,
  ⟨some 27, none, [], .ld (.t 26)⟩,
  ⟨some 28, none, [], .ib .ne .i64 (.t 27) (.k (.v (.int .i64 0)))⟩])
 (.cond (.t 28)
 (.seq (.reg false [⟨some 4, none, [], .mv (.k .nsl)⟩])
 .ret)
 .skip))
 (.seq (.reg false [⟨some 29, none, [], .mv (.t 1)⟩,
  ⟨some 30, none, [], .mks (.bs 5) 1 (.t 29) (.t 29)⟩,
  ⟨some 5, none, [], .mv (.t 30)⟩])
 (.seq (.reg true [⟨some 31, none, [], .mv (.t 0)⟩,
  ⟨some 32, none, [], .mv (.t 0)⟩,
  ⟨some 33, none, [1], .chk (.t 32)⟩,
  ⟨some 34, none, [2, 1], .fld (.t 33) 0⟩,
  ⟨some 35, none, [3, 2, 1], .ld (.t 34)⟩,
  ⟨some 36, none, [], .mv (.t 5)⟩,
  ⟨some 37, none, [], .mv (.t 0)⟩,
  ⟨some 38, none, [6], .chk (.t 37)⟩,
  ⟨some 39, none, [7, 6], .fld (.t 38) 0⟩,
  ⟨some 40, none, [8, 7, 6], .ld (.t 39)⟩,
  ⟨some 41, none, [5, 9, 8, 7, 6], .copy (.t 36) (.t 40) 1⟩,
  ⟨some 42, none, [4, 3, 2, 1, 10, 5, 9, 8, 7, 6], .sls (.t 35) (some (.t 41)) none 1⟩,
  ⟨some 43, none, [0, 1, 2, 3, 4, 5, 6, 7, 8, 9, 10, 11], .chk (.t 31)⟩,
  ⟨some 44, none, [12, 0, 1, 2, 3, 4, 5, 6, 7, 8, 9, 10, 11], .fld (.t 43) 0⟩,
  ⟨none, none, [13, 12, 0, 1, 2, 3, 4, 5, 6, 7, 8, 9, 10, 11], .st (.t 44) (.t 42) 1⟩])
 (.seq (.reg false [⟨some 45, none, [], .mv (.t 5)⟩,
  ⟨some 4, none, [], .mv (.t 45)⟩])
 .ret))))))
theorem comp_48 : compF Tryd.prog Tryd.f48 = some (ic_48, [.t 4], 46) := by kernel_rfl
-- ros 48 [none, none] TYS [none, (.int .i64)]

def ic_49 : IC := (.seq (.reg false [⟨some 2, none, [], .mv (.k (.v (.int .u64 0)))⟩,
  ⟨some 3, none, [], .mv (.k (.v (.bool false)))⟩])
 (.seq (.block 0
 (.loop
 (.seq (.seq (.reg false [⟨some 6, none, [], .mv (.t 0)⟩,
  ⟨some 7, none, [], .sb .ne (.t 6) (.k (.str []))⟩,
  ⟨some 8, none, [], .mv (.t 7)⟩,
  ⟨some 9, some (8, true), [], .mv (.t 0)⟩,
  ⟨some 10, some (8, true), [], .sidx (.t 9) (.k (.v (.int .i64 0)))⟩,
  ⟨some 11, some (8, true), [], .ib .eq .u8 (.t 10) (.k (.v (.int .u8 0)))⟩,
  ⟨some 12, none, [], .pick (.t 8) (.t 11) (.k (.v (.bool false)))⟩])
 (.cond (.t 12)
 .skip
 (.exit 0)))
 (.block 1
 (.reg false [⟨some 13, none, [], .mv (.t 0)⟩,
  ⟨some 14, none, [], .ssl (.t 13) (some (.k (.v (.int .i64 1)))) none⟩,
  ⟨some 0, none, [], .mv (.t 14)⟩])))))
 (.seq (.seq (.reg false [⟨some 15, none, [], .mv (.t 0)⟩,
  ⟨some 16, none, [], .len true (.t 15)⟩,
  ⟨some 17, none, [], .ib .gt .i64 (.t 16) (.k (.v (.int .i64 8)))⟩])
 (.cond (.t 17)
 (.seq (.reg false [⟨some 2, none, [], .mv (.k (.v (.int .u64 0)))⟩,
  ⟨some 3, none, [], .mv (.k (.v (.bool false)))⟩])
 .ret)
 .skip))
 (.seq (.reg false [⟨some 4, none, [], .mv (.k (.v (.int .u64 0)))⟩])
 (.seq (.seq (.reg false [⟨some 5, none, [], .mv (.k (.v (.int .i64 0)))⟩])
 (.block 2
 (.loop
 (.seq (.seq (.reg false [⟨some 18, none, [], .mv (.t 5)⟩,
  ⟨some 19, none, [], .mv (.t 0)⟩,
  ⟨some 20, none, [], .len true (.t 19)⟩,
  ⟨some 21, none, [], .ib .lt .i64 (.t 18) (.t 20)⟩])
 (.cond (.t 21)
 .skip
 (.exit 2)))
 (.seq (.block 3
 (.reg false [⟨some 24, none, [], .mv (.t 4)⟩,
  ⟨some 25, none, [], .ib .mul .u64 (.k (.v (.int .u64 256))) (.t 24)⟩,
  ⟨some 26, none, [], .mv (.t 0)⟩,
  ⟨some 27, none, [], .mv (.t 5)⟩,
  ⟨some 28, none, [], .sidx (.t 26) (.t 27)⟩,
  ⟨some 29, none, [], .conv .u64 (.t 28)⟩,
  ⟨some 30, none, [], .ib .add .u64 (.t 25) (.t 29)⟩,
  ⟨some 4, none, [], .mv (.t 30)⟩]))
 (.reg false [⟨some 22, none, [], .mv (.t 5)⟩,
  ⟨some 23, none, [], .ib .add .i64 (.t 22) (.k (.v (.int .i64 1)))⟩,
  ⟨some 5, none, [], .mv (.t 23)⟩]))))))
 (.seq (.reg false [⟨some 31, none, [], .mv (.t 4)⟩,
  ⟨some 2, none, [], .mv (.t 31)⟩,
  ⟨some 3, none, [], .mv (.k (.v (.bool true)))⟩])
 .ret))))))
theorem comp_49 : compF Tryd.prog Tryd.f49 = some (ic_49, [.t 2, .t 3], 32) := by kernel_rfl
-- ros 49 [none] TYS [.str]

end Go.Proofs.YtbkcmpggacbikaaDoor
end
section
/-
  The walk of tollbar/block.New (printed by a program of ours).
-/
set_option linter.unusedVariables false
set_option linter.unusedSimpArgs false
namespace Go.Proofs.YtbkcmpggacbikaaDoor
open Go.RowKit
noncomputable def tab_block_New : Nat → Option Con := look []
set_option maxHeartbeats 20000000 in
set_option maxRecDepth 100000 in
theorem vc_block_New (P : Program) (T : Tab P tab_block_New) (hm : P.follows .mixedOrders = true) : FnVC P tab_block_New ic_8 [.t 2] 13 con_block_New := by
 intro cargs ccks ce hce hob C hk
 apply Hidden.out
 replace hce : con_block_New_1 cargs ccks = some ce := hce
 ·unfold con_block_New_1 at hce
  split at hce
  rotate_left
  ·cases hce
  obtain rfl := Option.some.inj hce
  rename_i x1
  have hb1 := hob _ (List.mem_singleton.2 rfl)
  have hb2 := obl.1 hb1
  clear hb1 hob hce
  refine hb2.elim fun r hF => ?_
  clear hb2
  simp only [List.length_cons, List.length_nil, Nat.zero_add, Nat.reduceAdd] at hk
  have hr : F_block_New x1 = some r := by rw [lock_eq] at hF; exact hF
  unfold F_block_New at hr
  constructor
  (try cbv)
  refine sel_intro (fun h => ?_) (fun h => ?_)
  ·have h1 : (ilt x1 (1 : Int)) = true := by first | exact h | (have h2 := h; simp only [choice_lk, lock_eq] at h2; exact h2) | (simp only [choice_lk, lock_eq] at h; exact h)
   rw [if_pos h1] at hr
   (try cbv)
   apply Hidden.out
   have e := Option.some.inj hr
   revert e
   rcases r with _ | _ <;> intro e
   ·replace e := Sum.inl.inj e
    constructor
    refine ⟨_, hF, ?_⟩
    (try cbv); (try simp only [choice_lk, lock_eq, and_self, and_true, true_and]); (try first | exact e | exact e.symm | (and_intros <;> first | assumption | rfl | exact Eq.symm (by assumption)))
   ·cases e
  ·have h1 : (ilt x1 (1 : Int)) = false := by first | exact h | (have h2 := h; simp only [choice_lk, lock_eq] at h2; exact h2) | (simp only [choice_lk, lock_eq] at h; exact h)
   rw [if_neg (by rw [h1]; exact Bool.false_ne_true)] at hr
   (try cbv)
   refine sel_intro (fun h => ?_) (fun h => ?_)
   ·have h1 : (ilt (1024 : Int) x1) = true := by first | exact h | (have h2 := h; simp only [choice_lk, lock_eq] at h2; exact h2) | (simp only [choice_lk, lock_eq] at h; exact h)
    rw [if_pos h1] at hr
    (try cbv)
    apply Hidden.out
    have e := Option.some.inj hr
    revert e
    rcases r with _ | _ <;> intro e
    ·replace e := Sum.inl.inj e
     constructor
     refine ⟨_, hF, ?_⟩
     (try cbv); (try simp only [choice_lk, lock_eq, and_self, and_true, true_and]); (try first | exact e | exact e.symm | (and_intros <;> first | assumption | rfl | exact Eq.symm (by assumption)))
    ·cases e
   ·have h1 : (ilt (1024 : Int) x1) = false := by first | exact h | (have h2 := h; simp only [choice_lk, lock_eq] at h2; exact h2) | (simp only [choice_lk, lock_eq] at h; exact h)
    rw [if_neg (by rw [h1]; exact Bool.false_ne_true)] at hr
    (try cbv)
    have gg := guard_inv hr
    have g := gg.1
    replace hr := gg.2
    clear gg
    refine ⟨obl.2 (by first | (simp only [choice_lk, lock_eq, R.len, R.sub]; exact g) | exact g), ?_⟩
    apply Hidden.out
    have e := Option.some.inj hr
    revert e
    rcases r with _ | u0 <;> intro e
    ·cases e
    ·replace e := Sum.inr.inj e
     constructor
     refine ⟨_, hF, ?_⟩
     (try cbv); (try simp only [choice_lk, lock_eq, and_self, and_true, true_and]); (try first | exact e | exact e.symm | (and_intros <;> first | assumption | rfl | exact Eq.symm (by assumption)))
end Go.Proofs.YtbkcmpggacbikaaDoor
end
section
/-
  The walk of (*tollbar/block.Device).Blocks (printed by a program of ours).
-/
set_option linter.unusedVariables false
set_option linter.unusedSimpArgs false
namespace Go.Proofs.YtbkcmpggacbikaaDoor
open Go.RowKit
noncomputable def tab_block_Device_Blocks : Nat → Option Con := look []
set_option maxHeartbeats 20000000 in
set_option maxRecDepth 100000 in
theorem vc_block_Device_Blocks (P : Program) (T : Tab P tab_block_Device_Blocks) (hm : P.follows .mixedOrders = true) : FnVC P tab_block_Device_Blocks ic_25 [.t 2] 10 con_block_Device_Blocks := by
 intro cargs ccks ce hce hob C hk
 apply Hidden.out
 replace hce : altC (con_block_Device_Blocks_1 cargs ccks) (altC (con_block_Device_Blocks_2 cargs ccks) (con_block_Device_Blocks_3 cargs ccks)) = some ce := hce
 replace hce := altC_inv hce
 rcases hce with hce | hce
 ·unfold con_block_Device_Blocks_1 at hce
  split at hce
  rotate_left
  ·cases hce
  obtain rfl := Option.some.inj hce
  rename_i b1 x1 r1
  have hb1 := hob _ (List.mem_singleton.2 rfl)
  have hb2 := obl.1 hb1
  clear hb1 hob hce
  refine hb2.elim fun r hF => ?_
  clear hb2
  simp only [List.length_cons, List.length_nil, Nat.zero_add, Nat.reduceAdd] at hk
  have hr : F_block_Device_Blocks b1 x1 r1 = some r := by rw [lock_eq] at hF; exact hF
  unfold F_block_Device_Blocks at hr
  constructor
  (try cbv)
  apply Hidden.out
  have e := Option.some.inj hr
  constructor
  refine ⟨_, hF, ?_⟩
  (try cbv); (try simp only [choice_lk, lock_eq, and_self, and_true, true_and]); (try first | exact e | exact e.symm | (and_intros <;> first | assumption | rfl | exact Eq.symm (by assumption)))
 replace hce := altC_inv hce
 rcases hce with hce | hce
 ·unfold con_block_Device_Blocks_2 at hce
  split at hce
  rotate_left
  ·cases hce
  obtain rfl := Option.some.inj hce
  have hb1 := hob _ (List.mem_singleton.2 rfl)
  have hb2 := obl.1 hb1
  clear hb1 hob hce
  refine hb2.elim fun r hF => ?_
  clear hb2
  simp only [List.length_cons, List.length_nil, Nat.zero_add, Nat.reduceAdd] at hk
  have hr : F_block_Device_Blocks_2 = some r := by rw [lock_eq] at hF; exact hF
  unfold F_block_Device_Blocks_2 at hr
  constructor
  (try cbv)
  apply Hidden.out
  have e := Option.some.inj hr
  constructor
  refine ⟨_, hF, ?_⟩
  (try cbv); (try simp only [choice_lk, lock_eq, and_self, and_true, true_and]); (try first | exact e | exact e.symm | (and_intros <;> first | assumption | rfl | exact Eq.symm (by assumption)))
 ·unfold con_block_Device_Blocks_3 at hce
  split at hce
  rotate_left
  ·cases hce
  obtain rfl := Option.some.inj hce
  rename_i b1 x1 r1 x2 x3
  have hb1 := hob _ (List.mem_singleton.2 rfl)
  have hb2 := obl.1 hb1
  clear hb1 hob hce
  refine hb2.elim fun r hF => ?_
  clear hb2
  simp only [List.length_cons, List.length_nil, Nat.zero_add, Nat.reduceAdd] at hk
  have hr : F_block_Device_Blocks_3 b1 x1 r1 x2 x3 = some r := by rw [lock_eq] at hF; exact hF
  unfold F_block_Device_Blocks_3 at hr
  constructor
  (try cbv)
  apply Hidden.out
  have e := Option.some.inj hr
  constructor
  refine ⟨_, hF, ?_⟩
  (try cbv); (try simp only [choice_lk, lock_eq, and_self, and_true, true_and]); (try first | exact e | exact e.symm | (and_intros <;> first | assumption | rfl | exact Eq.symm (by assumption)))
end Go.Proofs.YtbkcmpggacbikaaDoor
end
section
/-
  The walk of (*tollbar/block.Device).Down (printed by a program of ours).
-/
set_option linter.unusedVariables false
set_option linter.unusedSimpArgs false
namespace Go.Proofs.YtbkcmpggacbikaaDoor
open Go.RowKit
noncomputable def tab_block_Device_Down : Nat → Option Con := look []
set_option maxHeartbeats 20000000 in
set_option maxRecDepth 100000 in
theorem vc_block_Device_Down (P : Program) (T : Tab P tab_block_Device_Down) (hm : P.follows .mixedOrders = true) : FnVC P tab_block_Device_Down ic_26 [.t 2] 11 con_block_Device_Down := by
 intro cargs ccks ce hce hob C hk
 apply Hidden.out
 replace hce : altC (con_block_Device_Down_1 cargs ccks) (con_block_Device_Down_2 cargs ccks) = some ce := hce
 replace hce := altC_inv hce
 rcases hce with hce | hce
 ·unfold con_block_Device_Down_1 at hce
  split at hce
  rotate_left
  ·cases hce
  obtain rfl := Option.some.inj hce
  rename_i b1 x1 r1
  have hb1 := hob _ (List.mem_singleton.2 rfl)
  have hb2 := obl.1 hb1
  clear hb1 hob hce
  refine hb2.elim fun r hF => ?_
  clear hb2
  simp only [List.length_cons, List.length_nil, Nat.zero_add, Nat.reduceAdd] at hk
  have hr : F_block_Device_Down b1 x1 r1 = some r := by rw [lock_eq] at hF; exact hF
  unfold F_block_Device_Down at hr
  constructor
  (try cbv)
  apply Hidden.out
  have e := Option.some.inj hr
  constructor
  refine ⟨_, hF, ?_⟩
  (try cbv); (try simp only [choice_lk, lock_eq, and_self, and_true, true_and]); (try first | exact e | exact e.symm | (and_intros <;> first | assumption | rfl | exact Eq.symm (by assumption)))
 ·unfold con_block_Device_Down_2 at hce
  split at hce
  rotate_left
  ·cases hce
  obtain rfl := Option.some.inj hce
  rename_i b1 x1 r1 x2 x3
  have hb1 := hob _ (List.mem_singleton.2 rfl)
  have hb2 := obl.1 hb1
  clear hb1 hob hce
  refine hb2.elim fun r hF => ?_
  clear hb2
  simp only [List.length_cons, List.length_nil, Nat.zero_add, Nat.reduceAdd] at hk
  have hr : F_block_Device_Down_2 b1 x1 r1 x2 x3 = some r := by rw [lock_eq] at hF; exact hF
  unfold F_block_Device_Down_2 at hr
  constructor
  (try cbv)
  apply Hidden.out
  have e := Option.some.inj hr
  constructor
  refine ⟨_, hF, ?_⟩
  (try cbv); (try simp only [choice_lk, lock_eq, and_self, and_true, true_and]); (try first | exact e | exact e.symm | (and_intros <;> first | assumption | rfl | exact Eq.symm (by assumption)))
end Go.Proofs.YtbkcmpggacbikaaDoor
end
section
/-
  The walk of (*tollbar/block.Device).may (printed by a program of ours).
-/
set_option linter.unusedVariables false
set_option linter.unusedSimpArgs false
namespace Go.Proofs.YtbkcmpggacbikaaDoor
open Go.RowKit
noncomputable def tab_block_Device_may : Nat → Option Con := look []
set_option maxHeartbeats 20000000 in
set_option maxRecDepth 100000 in
theorem vc_block_Device_may (P : Program) (T : Tab P tab_block_Device_may) (hm : P.follows .mixedOrders = true) : FnVC P tab_block_Device_may ic_24 [.t 4] 25 con_block_Device_may := by
 intro cargs ccks ce hce hob C hk
 apply Hidden.out
 replace hce : altC (con_block_Device_may_1 cargs ccks) (altC (con_block_Device_may_2 cargs ccks) (con_block_Device_may_3 cargs ccks)) = some ce := hce
 replace hce := altC_inv hce
 rcases hce with hce | hce
 ·unfold con_block_Device_may_1 at hce
  split at hce
  rotate_left
  ·cases hce
  obtain rfl := Option.some.inj hce
  rename_i x1 b1 x2 r1
  have hb1 := hob _ (List.mem_singleton.2 rfl)
  have hb2 := obl.1 hb1
  clear hb1 hob hce
  refine hb2.elim fun r hF => ?_
  clear hb2
  simp only [List.length_cons, List.length_nil, Nat.zero_add, Nat.reduceAdd] at hk
  have hr : F_block_Device_may x1 b1 x2 r1 = some r := by rw [lock_eq] at hF; exact hF
  unfold F_block_Device_may at hr
  constructor
  (try cbv)
  refine sel_intro (fun h => ?_) (fun h => ?_)
  ·have h1 : b1 = true := by first | exact h | (have h2 := h; simp only [choice_lk, lock_eq] at h2; exact h2) | (simp only [choice_lk, lock_eq] at h; exact h)
   rw [if_pos h1] at hr
   (try cbv)
   apply Hidden.out
   have e := Option.some.inj hr
   constructor
   refine ⟨_, hF, ?_⟩
   (try cbv); (try simp only [choice_lk, lock_eq, and_self, and_true, true_and]); (try first | exact e | exact e.symm | (and_intros <;> first | assumption | rfl | exact Eq.symm (by assumption)))
  ·have h1 : b1 = false := by first | exact h | (have h2 := h; simp only [choice_lk, lock_eq] at h2; exact h2) | (simp only [choice_lk, lock_eq] at h; exact h)
   rw [if_neg (by rw [h1]; exact Bool.false_ne_true)] at hr
   (try cbv)
   refine sel_intro (fun h => ?_) (fun h => ?_)
   ·have h1 : (ilt x1 (0 : Int)) = true := by first | exact h | (have h2 := h; simp only [choice_lk, lock_eq] at h2; exact h2) | (simp only [choice_lk, lock_eq] at h; exact h)
    rw [if_pos h1] at hr
    (try cbv)
    apply Hidden.out
    have e := Option.some.inj hr
    constructor
    refine ⟨_, hF, ?_⟩
    (try cbv); (try simp only [choice_lk, lock_eq, and_self, and_true, true_and]); (try first | exact e | exact e.symm | (and_intros <;> first | assumption | rfl | exact Eq.symm (by assumption)))
   ·have h1 : (ilt x1 (0 : Int)) = false := by first | exact h | (have h2 := h; simp only [choice_lk, lock_eq] at h2; exact h2) | (simp only [choice_lk, lock_eq] at h; exact h)
    rw [if_neg (by rw [h1]; exact Bool.false_ne_true)] at hr
    (try cbv)
    refine sel_intro (fun h => ?_) (fun h => ?_)
    ·have h1 : (ile (ofN (xlen r1)) x1) = true := by first | exact h | (have h2 := h; simp only [choice_lk, lock_eq] at h2; exact h2) | (simp only [choice_lk, lock_eq] at h; exact h)
     rw [if_pos h1] at hr
     (try cbv)
     apply Hidden.out
     have e := Option.some.inj hr
     constructor
     refine ⟨_, hF, ?_⟩
     (try cbv); (try simp only [choice_lk, lock_eq, and_self, and_true, true_and]); (try first | exact e | exact e.symm | (and_intros <;> first | assumption | rfl | exact Eq.symm (by assumption)))
    ·have h1 : (ile (ofN (xlen r1)) x1) = false := by first | exact h | (have h2 := h; simp only [choice_lk, lock_eq] at h2; exact h2) | (simp only [choice_lk, lock_eq] at h; exact h)
     rw [if_neg (by rw [h1]; exact Bool.false_ne_true)] at hr
     (try cbv)
     apply Hidden.out
     have e := Option.some.inj hr
     constructor
     refine ⟨_, hF, ?_⟩
     (try cbv); (try simp only [choice_lk, lock_eq, and_self, and_true, true_and]); (try first | exact e | exact e.symm | (and_intros <;> first | assumption | rfl | exact Eq.symm (by assumption)))
 replace hce := altC_inv hce
 rcases hce with hce | hce
 ·unfold con_block_Device_may_2 at hce
  split at hce
  rotate_left
  ·cases hce
  obtain rfl := Option.some.inj hce
  rename_i x1
  have hb1 := hob _ (List.mem_singleton.2 rfl)
  have hb2 := obl.1 hb1
  clear hb1 hob hce
  refine hb2.elim fun r hF => ?_
  clear hb2
  simp only [List.length_cons, List.length_nil, Nat.zero_add, Nat.reduceAdd] at hk
  have hr : F_block_Device_may_2 x1 = some r := by rw [lock_eq] at hF; exact hF
  unfold F_block_Device_may_2 at hr
  constructor
  (try cbv)
  apply Hidden.out
  have e := Option.some.inj hr
  constructor
  refine ⟨_, hF, ?_⟩
  (try cbv); (try simp only [choice_lk, lock_eq, and_self, and_true, true_and]); (try first | exact e | exact e.symm | (and_intros <;> first | assumption | rfl | exact Eq.symm (by assumption)))
 ·unfold con_block_Device_may_3 at hce
  split at hce
  rotate_left
  ·cases hce
  obtain rfl := Option.some.inj hce
  rename_i x1 b1 x2 r1 x3 x4
  have hb1 := hob _ (List.mem_singleton.2 rfl)
  have hb2 := obl.1 hb1
  clear hb1 hob hce
  refine hb2.elim fun r hF => ?_
  clear hb2
  simp only [List.length_cons, List.length_nil, Nat.zero_add, Nat.reduceAdd] at hk
  have hr : F_block_Device_may_3 x1 b1 x2 r1 x3 x4 = some r := by rw [lock_eq] at hF; exact hF
  unfold F_block_Device_may_3 at hr
  constructor
  (try cbv)
  refine sel_intro (fun h => ?_) (fun h => ?_)
  ·have h1 : b1 = true := by first | exact h | (have h2 := h; simp only [choice_lk, lock_eq] at h2; exact h2) | (simp only [choice_lk, lock_eq] at h; exact h)
   rw [if_pos h1] at hr
   (try cbv)
   apply Hidden.out
   have e := Option.some.inj hr
   constructor
   refine ⟨_, hF, ?_⟩
   (try cbv); (try simp only [choice_lk, lock_eq, and_self, and_true, true_and]); (try first | exact e | exact e.symm | (and_intros <;> first | assumption | rfl | exact Eq.symm (by assumption)))
  ·have h1 : b1 = false := by first | exact h | (have h2 := h; simp only [choice_lk, lock_eq] at h2; exact h2) | (simp only [choice_lk, lock_eq] at h; exact h)
   rw [if_neg (by rw [h1]; exact Bool.false_ne_true)] at hr
   (try cbv)
   refine sel_intro (fun h => ?_) (fun h => ?_)
   ·have h1 : (ilt x1 (0 : Int)) = true := by first | exact h | (have h2 := h; simp only [choice_lk, lock_eq] at h2; exact h2) | (simp only [choice_lk, lock_eq] at h; exact h)
    rw [if_pos h1] at hr
    (try cbv)
    apply Hidden.out
    have e := Option.some.inj hr
    constructor
    refine ⟨_, hF, ?_⟩
    (try cbv); (try simp only [choice_lk, lock_eq, and_self, and_true, true_and]); (try first | exact e | exact e.symm | (and_intros <;> first | assumption | rfl | exact Eq.symm (by assumption)))
   ·have h1 : (ilt x1 (0 : Int)) = false := by first | exact h | (have h2 := h; simp only [choice_lk, lock_eq] at h2; exact h2) | (simp only [choice_lk, lock_eq] at h; exact h)
    rw [if_neg (by rw [h1]; exact Bool.false_ne_true)] at hr
    (try cbv)
    refine sel_intro (fun h => ?_) (fun h => ?_)
    ·have h1 : (ile (ofN (xlen r1)) x1) = true := by first | exact h | (have h2 := h; simp only [choice_lk, lock_eq] at h2; exact h2) | (simp only [choice_lk, lock_eq] at h; exact h)
     rw [if_pos h1] at hr
     (try cbv)
     apply Hidden.out
     have e := Option.some.inj hr
     constructor
     refine ⟨_, hF, ?_⟩
     (try cbv); (try simp only [choice_lk, lock_eq, and_self, and_true, true_and]); (try first | exact e | exact e.symm | (and_intros <;> first | assumption | rfl | exact Eq.symm (by assumption)))
    ·have h1 : (ile (ofN (xlen r1)) x1) = false := by first | exact h | (have h2 := h; simp only [choice_lk, lock_eq] at h2; exact h2) | (simp only [choice_lk, lock_eq] at h; exact h)
     rw [if_neg (by rw [h1]; exact Bool.false_ne_true)] at hr
     (try cbv)
     apply Hidden.out
     have e := Option.some.inj hr
     constructor
     refine ⟨_, hF, ?_⟩
     (try cbv); (try simp only [choice_lk, lock_eq, and_self, and_true, true_and]); (try first | exact e | exact e.symm | (and_intros <;> first | assumption | rfl | exact Eq.symm (by assumption)))
end Go.Proofs.YtbkcmpggacbikaaDoor
end
section
/-
  The walk of (*tollbar/block.Device).Read (printed by a program of ours).
-/
set_option linter.unusedVariables false
set_option linter.unusedSimpArgs false
namespace Go.Proofs.YtbkcmpggacbikaaDoor
open Go.RowKit
noncomputable def tab_block_Device_Read : Nat → Option Con := look [(24, con_block_Device_may)]
set_option maxHeartbeats 20000000 in
set_option maxRecDepth 100000 in
theorem vc_block_Device_Read (P : Program) (T : Tab P tab_block_Device_Read) (hm : P.follows .mixedOrders = true) : FnVC P tab_block_Device_Read ic_12 [.t 4, .t 5] 22 con_block_Device_Read := by
 intro cargs ccks ce hce hob C hk
 apply Hidden.out
 replace hce : altC (con_block_Device_Read_1 cargs ccks) (con_block_Device_Read_2 cargs ccks) = some ce := hce
 replace hce := altC_inv hce
 rcases hce with hce | hce
 ·unfold con_block_Device_Read_1 at hce
  split at hce
  rotate_left
  ·cases hce
  obtain rfl := Option.some.inj hce
  rename_i x1 b1 x2 r1
  have hb1 := hob _ (List.mem_singleton.2 rfl)
  have hb2 := obl.1 hb1
  clear hb1 hob hce
  refine hb2.elim fun r hF => ?_
  clear hb2
  simp only [List.length_cons, List.length_nil, Nat.zero_add, Nat.reduceAdd] at hk
  have hr : F_block_Device_Read x1 b1 x2 r1 = some r := by rw [lock_eq] at hF; exact hF
  unfold F_block_Device_Read at hr
  constructor
  (try cbv)
  have hqe : ∃ qq, F_block_Device_may x1 b1 x2 r1 = some qq := by
   cases hq : F_block_Device_may x1 b1 x2 r1 with
   | none => rw [hq] at hr; cases hr
   | some qq => exact ⟨qq, rfl⟩
  refine ⟨obl.2 (by simp only [choice_lk, lock_eq]; exact hqe), (by rintro (_) _ <;> cbv), ?_⟩
  clear hqe
  intro y1 hx1
  simp only [choice_lk, lock_eq] at hx1
  all_goals (rw [hx1] at hr; dsimp only at hr; constructor; (try cbv))
  refine sel_intro (fun h => ?_) (fun h => ?_)
  ·have h1 : (ieq y1 (0 : Int)) = false := by first | exact (bnot_t.1 h) | (have h2 := (bnot_t.1 h); simp only [choice_lk, lock_eq] at h2; exact h2) | (simp only [choice_lk, lock_eq] at h; exact (bnot_t.1 h))
   rw [if_neg (by rw [h1]; exact Bool.false_ne_true)] at hr
   (try cbv)
   apply Hidden.out
   have e := Option.some.inj hr
   obtain ⟨u0, u1⟩ := r
   simp only [Prod.mk.injEq] at e
   obtain ⟨e0, e1⟩ := e
   constructor
   refine ⟨_, hF, ?_⟩
   (try cbv); (try simp only [choice_lk, lock_eq, and_self, and_true, true_and]); (try first | exact e | exact e.symm | (and_intros <;> first | assumption | rfl | exact Eq.symm (by assumption)))
  ·have h1 : (ieq y1 (0 : Int)) = true := by first | exact (bnot_f.1 h) | (have h2 := (bnot_f.1 h); simp only [choice_lk, lock_eq] at h2; exact h2) | (simp only [choice_lk, lock_eq] at h; exact (bnot_f.1 h))
   rw [if_pos h1] at hr
   (try cbv)
   have gg := guard_inv hr
   have g := gg.1
   replace hr := gg.2
   clear gg
   refine ⟨obl.2 (by first | (simp only [choice_lk, lock_eq, R.len, R.sub]; exact g) | exact g), ?_⟩
   have gg := guard_inv hr
   have g := gg.1
   replace hr := gg.2
   clear gg
   refine ⟨obl.2 (by first | (simp only [choice_lk, lock_eq, R.len, R.sub]; exact g) | exact g), ?_⟩
   apply Hidden.out
   have e := Option.some.inj hr
   obtain ⟨u0, u1⟩ := r
   simp only [Prod.mk.injEq] at e
   obtain ⟨e0, e1⟩ := e
   constructor
   refine ⟨_, hF, ?_⟩
   (try cbv); (try simp only [choice_lk, lock_eq, and_self, and_true, true_and]); (try first | exact e | exact e.symm | (and_intros <;> first | assumption | rfl | exact Eq.symm (by assumption)))
 ·unfold con_block_Device_Read_2 at hce
  split at hce
  rotate_left
  ·cases hce
  obtain rfl := Option.some.inj hce
  rename_i x1 b1 x2 r1 x3 x4
  have hb1 := hob _ (List.mem_singleton.2 rfl)
  have hb2 := obl.1 hb1
  clear hb1 hob hce
  refine hb2.elim fun r hF => ?_
  clear hb2
  simp only [List.length_cons, List.length_nil, Nat.zero_add, Nat.reduceAdd] at hk
  have hr : F_block_Device_Read_2 x1 b1 x2 r1 x3 x4 = some r := by rw [lock_eq] at hF; exact hF
  unfold F_block_Device_Read_2 at hr
  constructor
  (try cbv)
  have hqe : ∃ qq, F_block_Device_may_3 x1 b1 x2 r1 x3 x4 = some qq := by
   cases hq : F_block_Device_may_3 x1 b1 x2 r1 x3 x4 with
   | none => rw [hq] at hr; cases hr
   | some qq => exact ⟨qq, rfl⟩
  refine ⟨obl.2 (by simp only [choice_lk, lock_eq]; exact hqe), (by rintro (_) _ <;> cbv), ?_⟩
  clear hqe
  intro y1 hx1
  simp only [choice_lk, lock_eq] at hx1
  all_goals (rw [hx1] at hr; dsimp only at hr; constructor; (try cbv))
  refine sel_intro (fun h => ?_) (fun h => ?_)
  ·have h1 : (ieq y1 (0 : Int)) = false := by first | exact (bnot_t.1 h) | (have h2 := (bnot_t.1 h); simp only [choice_lk, lock_eq] at h2; exact h2) | (simp only [choice_lk, lock_eq] at h; exact (bnot_t.1 h))
   rw [if_neg (by rw [h1]; exact Bool.false_ne_true)] at hr
   (try cbv)
   apply Hidden.out
   have e := Option.some.inj hr
   obtain ⟨u0, u1⟩ := r
   simp only [Prod.mk.injEq] at e
   obtain ⟨e0, e1⟩ := e
   constructor
   refine ⟨_, hF, ?_⟩
   (try cbv); (try simp only [choice_lk, lock_eq, and_self, and_true, true_and]); (try first | exact e | exact e.symm | (and_intros <;> first | assumption | rfl | exact Eq.symm (by assumption)))
  ·have h1 : (ieq y1 (0 : Int)) = true := by first | exact (bnot_f.1 h) | (have h2 := (bnot_f.1 h); simp only [choice_lk, lock_eq] at h2; exact h2) | (simp only [choice_lk, lock_eq] at h; exact (bnot_f.1 h))
   rw [if_pos h1] at hr
   (try cbv)
   have gg := guard_inv hr
   have g := gg.1
   replace hr := gg.2
   clear gg
   refine ⟨obl.2 (by first | (simp only [choice_lk, lock_eq, R.len, R.sub]; exact g) | exact g), ?_⟩
   have gg := guard_inv hr
   have g := gg.1
   replace hr := gg.2
   clear gg
   refine ⟨obl.2 (by first | (simp only [choice_lk, lock_eq, R.len, R.sub]; exact g) | exact g), ?_⟩
   apply Hidden.out
   have e := Option.some.inj hr
   obtain ⟨u0, u1⟩ := r
   simp only [Prod.mk.injEq] at e
   obtain ⟨e0, e1⟩ := e
   constructor
   refine ⟨_, hF, ?_⟩
   (try cbv); (try simp only [choice_lk, lock_eq, and_self, and_true, true_and]); (try first | exact e | exact e.symm | (and_intros <;> first | assumption | rfl | exact Eq.symm (by assumption)))
end Go.Proofs.YtbkcmpggacbikaaDoor
end
section
/-
  The walk of slices.Clone[[]byte,byte] (printed by a program of ours).
-/
set_option linter.unusedVariables false
set_option linter.unusedSimpArgs false
namespace Go.Proofs.YtbkcmpggacbikaaDoor
open Go.RowKit
noncomputable def tab_slices_Clone : Nat → Option Con := look []
set_option maxRecDepth 100000 in
theorem vc_slices_Clone (P : Program) (T : Tab P tab_slices_Clone) (hm : P.follows .mixedOrders = true) : FnVC P tab_slices_Clone ic_45 [.t 2] 8 con_slices_Clone := by
 intro cargs ccks ce hce hob C hk
 apply Hidden.out
 replace hce : con_slices_Clone_1 cargs ccks = some ce := hce
 ·unfold con_slices_Clone_1 at hce
  split at hce
  rotate_left
  ·cases hce
  obtain rfl := Option.some.inj hce
  rename_i s1
  have hb1 := hob _ (List.mem_singleton.2 rfl)
  have hb2 := obl.1 hb1
  clear hb1 hob hce
  refine hb2.elim fun r hF => ?_
  clear hb2
  simp only [List.length_cons, List.length_nil, Nat.zero_add, Nat.reduceAdd] at hk
  have hr : cloneB s1 = some r := by rw [lock_eq] at hF; exact hF
  unfold cloneB at hr
  obtain ⟨g, hr⟩ := guard_inv hr
  obtain rfl := Option.some.inj hr
  constructor
  cbv
  intro b hb
  cases b with
  | true =>
   constructor
   have hb : lock (@xlen UInt8) s1 = 0 := hb rfl
   simp only [lock_eq, xlen] at hb
   have e : s1 = [] := List.length_eq_zero_iff.1 hb
   refine ⟨_, hF, ?_⟩
   cbv
   exact e
  | false =>
   constructor
   cbv
   refine ⟨obl.2 (by simp only [R.len, lock_eq, choice_lk, xlen, List.length_nil]; simp only [xlen] at g; simp at g ⊢; omega), ?_⟩
   refine ⟨_, hF, ?_⟩
   cbv
   (try simp only [choice_lk])
   rfl
end Go.Proofs.YtbkcmpggacbikaaDoor
end
section
/-
  The walk of tollbar/octet.Open (printed by a program of ours).
-/
set_option linter.unusedVariables false
set_option linter.unusedSimpArgs false
namespace Go.Proofs.YtbkcmpggacbikaaDoor
open Go.RowKit
noncomputable def tab_octet_Open : Nat → Option Con := look [(45, con_slices_Clone)]
set_option maxHeartbeats 20000000 in
set_option maxRecDepth 100000 in
theorem vc_octet_Open (P : Program) (T : Tab P tab_octet_Open) (hm : P.follows .mixedOrders = true) : FnVC P tab_octet_Open ic_36 [.t 2] 7 con_octet_Open := by
 intro cargs ccks ce hce hob C hk
 apply Hidden.out
 replace hce : con_octet_Open_1 cargs ccks = some ce := hce
 ·unfold con_octet_Open_1 at hce
  split at hce
  rotate_left
  ·cases hce
  obtain rfl := Option.some.inj hce
  rename_i s1
  have hb1 := hob _ (List.mem_singleton.2 rfl)
  have hb2 := obl.1 hb1
  clear hb1 hob hce
  refine hb2.elim fun r hF => ?_
  clear hb2
  simp only [List.length_cons, List.length_nil, Nat.zero_add, Nat.reduceAdd] at hk
  have hr : F_octet_Open s1 = some r := by rw [lock_eq] at hF; exact hF
  unfold F_octet_Open at hr
  constructor
  (try cbv)
  have hqe : ∃ qq, cloneB s1 = some qq := by
   cases hq : cloneB s1 with
   | none => rw [hq] at hr; cases hr
   | some qq => exact ⟨qq, rfl⟩
  refine ⟨obl.2 (by simp only [choice_lk, lock_eq]; exact hqe), (by rintro (_) _ <;> cbv), ?_⟩
  clear hqe
  intro t1 hx1
  simp only [choice_lk, lock_eq] at hx1
  all_goals (rw [hx1] at hr; dsimp only at hr; constructor; (try cbv))
  apply Hidden.out
  have e := Option.some.inj hr
  constructor
  refine ⟨_, hF, ?_⟩
  (try cbv); (try simp only [choice_lk, lock_eq, and_self, and_true, true_and]); (try first | exact e | exact e.symm | (and_intros <;> first | assumption | rfl | exact Eq.symm (by assumption)))
end Go.Proofs.YtbkcmpggacbikaaDoor
end
section
/-
  The walk of (*tollbar/octet.Window).fail (printed by a program of ours).
-/
set_option linter.unusedVariables false
set_option linter.unusedSimpArgs false
namespace Go.Proofs.YtbkcmpggacbikaaDoor
open Go.RowKit
noncomputable def tab_octet_Window_fail : Nat → Option Con := look []
set_option maxHeartbeats 20000000 in
set_option maxRecDepth 100000 in
theorem vc_octet_Window_fail (P : Program) (T : Tab P tab_octet_Window_fail) (hm : P.follows .mixedOrders = true) : FnVC P tab_octet_Window_fail ic_46 [] 13 con_octet_Window_fail := by
 intro cargs ccks ce hce hob C hk
 apply Hidden.out
 replace hce : altC (con_octet_Window_fail_1 cargs ccks) (con_octet_Window_fail_2 cargs ccks) = some ce := hce
 replace hce := altC_inv hce
 rcases hce with hce | hce
 ·unfold con_octet_Window_fail_1 at hce
  split at hce
  rotate_left
  ·cases hce
  obtain rfl := Option.some.inj hce
  rename_i x1 x2 s1
  have hb1 := hob _ (List.mem_singleton.2 rfl)
  have hb2 := obl.1 hb1
  clear hb1 hob hce
  refine hb2.elim fun r hF => ?_
  clear hb2
  simp only [List.length_cons, List.length_nil, Nat.zero_add, Nat.reduceAdd] at hk
  have hr : F_octet_Window_fail x1 x2 s1 = some r := by rw [lock_eq] at hF; exact hF
  unfold F_octet_Window_fail at hr
  constructor
  (try cbv)
  refine sel_intro (fun h => ?_) (fun h => ?_)
  ·have h1 : (ieq x2 (0 : Int)) = true := by first | exact h | (have h2 := h; simp only [choice_lk, lock_eq] at h2; exact h2) | (simp only [choice_lk, lock_eq] at h; exact h)
   rw [if_pos h1] at hr
   (try cbv)
   apply Hidden.out
   have e := Option.some.inj hr
   constructor
   refine ⟨_, hF, ?_⟩
   (try cbv); (try simp only [choice_lk, lock_eq, and_self, and_true, true_and]); (try first | exact e | exact e.symm | (and_intros <;> first | assumption | rfl | exact Eq.symm (by assumption)))
  ·have h1 : (ieq x2 (0 : Int)) = false := by first | exact h | (have h2 := h; simp only [choice_lk, lock_eq] at h2; exact h2) | (simp only [choice_lk, lock_eq] at h; exact h)
   rw [if_neg (by rw [h1]; exact Bool.false_ne_true)] at hr
   (try cbv)
   apply Hidden.out
   have e := Option.some.inj hr
   constructor
   refine ⟨_, hF, ?_⟩
   (try cbv); (try simp only [choice_lk, lock_eq, and_self, and_true, true_and]); (try first | exact e | exact e.symm | (and_intros <;> first | assumption | rfl | exact Eq.symm (by assumption)))
 ·unfold con_octet_Window_fail_2 at hce
  split at hce
  rotate_left
  ·cases hce
  obtain rfl := Option.some.inj hce
  rename_i x1 n1 n2 x2 s1
  have hb1 := hob _ (List.mem_singleton.2 rfl)
  have hb2 := obl.1 hb1
  clear hb1 hob hce
  refine hb2.elim fun r hF => ?_
  clear hb2
  simp only [List.length_cons, List.length_nil, Nat.zero_add, Nat.reduceAdd] at hk
  have hr : F_octet_Window_fail_2 x1 n1 n2 x2 s1 = some r := by rw [lock_eq] at hF; exact hF
  unfold F_octet_Window_fail_2 at hr
  constructor
  (try cbv)
  refine sel_intro (fun h => ?_) (fun h => ?_)
  ·have h1 : (ieq x2 (0 : Int)) = true := by first | exact h | (have h2 := h; simp only [choice_lk, lock_eq] at h2; exact h2) | (simp only [choice_lk, lock_eq] at h; exact h)
   rw [if_pos h1] at hr
   (try cbv)
   apply Hidden.out
   have e := Option.some.inj hr
   constructor
   refine ⟨_, hF, ?_⟩
   (try cbv); (try simp only [choice_lk, lock_eq, and_self, and_true, true_and]); (try first | exact e | exact e.symm | (and_intros <;> first | assumption | rfl | exact Eq.symm (by assumption)))
  ·have h1 : (ieq x2 (0 : Int)) = false := by first | exact h | (have h2 := h; simp only [choice_lk, lock_eq] at h2; exact h2) | (simp only [choice_lk, lock_eq] at h; exact h)
   rw [if_neg (by rw [h1]; exact Bool.false_ne_true)] at hr
   (try cbv)
   apply Hidden.out
   have e := Option.some.inj hr
   constructor
   refine ⟨_, hF, ?_⟩
   (try cbv); (try simp only [choice_lk, lock_eq, and_self, and_true, true_and]); (try first | exact e | exact e.symm | (and_intros <;> first | assumption | rfl | exact Eq.symm (by assumption)))
end Go.Proofs.YtbkcmpggacbikaaDoor
end
section
/-
  The walk of (*tollbar/octet.Window).Bytes (printed by a program of ours).
-/
set_option linter.unusedVariables false
set_option linter.unusedSimpArgs false
namespace Go.Proofs.YtbkcmpggacbikaaDoor
open Go.RowKit
noncomputable def tab_octet_Window_Bytes : Nat → Option Con := look [(46, con_octet_Window_fail)]
set_option maxHeartbeats 20000000 in
set_option maxRecDepth 100000 in
theorem vc_octet_Window_Bytes (P : Program) (T : Tab P tab_octet_Window_Bytes) (hm : P.follows .mixedOrders = true) : FnVC P tab_octet_Window_Bytes ic_48 [.t 4] 46 con_octet_Window_Bytes := by
 intro cargs ccks ce hce hob C hk
 apply Hidden.out
 replace hce : altC (con_octet_Window_Bytes_1 cargs ccks) (con_octet_Window_Bytes_2 cargs ccks) = some ce := hce
 replace hce := altC_inv hce
 rcases hce with hce | hce
 ·unfold con_octet_Window_Bytes_1 at hce
  split at hce
  rotate_left
  ·cases hce
  obtain rfl := Option.some.inj hce
  rename_i x1 x2 s1
  have hb1 := hob _ (List.mem_singleton.2 rfl)
  have hb2 := obl.1 hb1
  clear hb1 hob hce
  refine hb2.elim fun r hF => ?_
  clear hb2
  simp only [List.length_cons, List.length_nil, Nat.zero_add, Nat.reduceAdd] at hk
  have hr : F_octet_Window_Bytes x1 x2 s1 = some r := by rw [lock_eq] at hF; exact hF
  unfold F_octet_Window_Bytes at hr
  constructor
  (try cbv)
  refine sel_intro (fun h => ?_) (fun h => ?_)
  ·have h1 : (ilt x1 (0 : Int)) = true := by first | exact h | (have h2 := h; simp only [choice_lk, lock_eq] at h2; exact h2) | (simp only [choice_lk, lock_eq] at h; exact h)
   rw [if_pos h1] at hr
   (try cbv)
   have hqe : ∃ qq, F_octet_Window_fail (1 : Int) x2 s1 = some qq := by
    cases hq : F_octet_Window_fail (1 : Int) x2 s1 with
    | none => rw [hq] at hr; cases hr
    | some qq => exact ⟨qq, rfl⟩
   refine ⟨obl.2 (by simp only [choice_lk, lock_eq]; exact hqe), (by rintro (_) _ <;> cbv), ?_⟩
   clear hqe
   intro y1 hx1
   simp only [choice_lk, lock_eq] at hx1
   all_goals (rw [hx1] at hr; dsimp only at hr; constructor; (try cbv))
   refine sel_intro (fun h => ?_) (fun h => ?_)
   ·have h1 : (ieq y1 (0 : Int)) = false := by first | exact (bnot_t.1 h) | (have h2 := (bnot_t.1 h); simp only [choice_lk, lock_eq] at h2; exact h2) | (simp only [choice_lk, lock_eq] at h; exact (bnot_t.1 h))
    rw [if_neg (by rw [h1]; exact Bool.false_ne_true)] at hr
    (try cbv)
    apply Hidden.out
    have e := Option.some.inj hr
    obtain ⟨u0, u1, u2, u3⟩ := r
    simp only [Prod.mk.injEq] at e
    obtain ⟨e0, e1, e2, e3⟩ := e
    constructor
    refine ⟨_, hF, ?_⟩
    (try cbv); (try simp only [choice_lk, lock_eq, and_self, and_true, true_and]); (try first | exact e | exact e.symm | (and_intros <;> first | assumption | rfl | exact Eq.symm (by assumption)))
   ·have h1 : (ieq y1 (0 : Int)) = true := by first | exact (bnot_f.1 h) | (have h2 := (bnot_f.1 h); simp only [choice_lk, lock_eq] at h2; exact h2) | (simp only [choice_lk, lock_eq] at h; exact (bnot_f.1 h))
    rw [if_pos h1] at hr
    (try cbv)
    have gg := guard_inv hr
    have g := gg.1
    replace hr := gg.2
    clear gg
    refine ⟨obl.2 (by first | (simp only [choice_lk, lock_eq, R.len, R.sub]; exact g) | exact g), ?_⟩
    have gg := guard_inv hr
    have g := gg.1
    replace hr := gg.2
    clear gg
    refine ⟨obl.2 (by first | (simp only [choice_lk, lock_eq, R.len, R.sub]; exact g) | exact g), ?_⟩
    apply Hidden.out
    have e := Option.some.inj hr
    obtain ⟨u0, u1, u2, u3⟩ := r
    simp only [Prod.mk.injEq] at e
    obtain ⟨e0, e1, e2, e3⟩ := e
    constructor
    refine ⟨_, hF, ?_⟩
    (try cbv); (try simp only [choice_lk, lock_eq, and_self, and_true, true_and]); (try first | exact e | exact e.symm | (and_intros <;> first | assumption | rfl | exact Eq.symm (by assumption)))
  ·as_aux_lemma =>
   have h1 : (ilt x1 (0 : Int)) = false := by first | exact h | (have h2 := h; simp only [choice_lk, lock_eq] at h2; exact h2) | (simp only [choice_lk, lock_eq] at h; exact h)
   rw [if_neg (by rw [h1]; exact Bool.false_ne_true)] at hr
   (try cbv)
   refine sel_intro (fun h => ?_) (fun h => ?_)
   ·have h1 : (ilt (ofN (xlen s1)) x1) = true := by first | exact h | (have h2 := h; simp only [choice_lk, lock_eq] at h2; exact h2) | (simp only [choice_lk, lock_eq] at h; exact h)
    rw [if_pos h1] at hr
    (try cbv)
    have hqe : ∃ qq, F_octet_Window_fail (10 : Int) x2 s1 = some qq := by
     cases hq : F_octet_Window_fail (10 : Int) x2 s1 with
     | none => rw [hq] at hr; cases hr
     | some qq => exact ⟨qq, rfl⟩
    refine ⟨obl.2 (by simp only [choice_lk, lock_eq]; exact hqe), (by rintro (_) _ <;> cbv), ?_⟩
    clear hqe
    intro y2 hx2
    simp only [choice_lk, lock_eq] at hx2
    all_goals (rw [hx2] at hr; dsimp only at hr; constructor; (try cbv))
    refine sel_intro (fun h => ?_) (fun h => ?_)
    ·have h1 : (ieq y2 (0 : Int)) = false := by first | exact (bnot_t.1 h) | (have h2 := (bnot_t.1 h); simp only [choice_lk, lock_eq] at h2; exact h2) | (simp only [choice_lk, lock_eq] at h; exact (bnot_t.1 h))
     rw [if_neg (by rw [h1]; exact Bool.false_ne_true)] at hr
     (try cbv)
     apply Hidden.out
     have e := Option.some.inj hr
     obtain ⟨u0, u1, u2, u3⟩ := r
     simp only [Prod.mk.injEq] at e
     obtain ⟨e0, e1, e2, e3⟩ := e
     constructor
     refine ⟨_, hF, ?_⟩
     (try cbv); (try simp only [choice_lk, lock_eq, and_self, and_true, true_and]); (try first | exact e | exact e.symm | (and_intros <;> first | assumption | rfl | exact Eq.symm (by assumption)))
    ·have h1 : (ieq y2 (0 : Int)) = true := by first | exact (bnot_f.1 h) | (have h2 := (bnot_f.1 h); simp only [choice_lk, lock_eq] at h2; exact h2) | (simp only [choice_lk, lock_eq] at h; exact (bnot_f.1 h))
     rw [if_pos h1] at hr
     (try cbv)
     have gg := guard_inv hr
     have g := gg.1
     replace hr := gg.2
     clear gg
     refine ⟨obl.2 (by first | (simp only [choice_lk, lock_eq, R.len, R.sub]; exact g) | exact g), ?_⟩
     have gg := guard_inv hr
     have g := gg.1
     replace hr := gg.2
     clear gg
     refine ⟨obl.2 (by first | (simp only [choice_lk, lock_eq, R.len, R.sub]; exact g) | exact g), ?_⟩
     apply Hidden.out
     have e := Option.some.inj hr
     obtain ⟨u0, u1, u2, u3⟩ := r
     simp only [Prod.mk.injEq] at e
     obtain ⟨e0, e1, e2, e3⟩ := e
     constructor
     refine ⟨_, hF, ?_⟩
     (try cbv); (try simp only [choice_lk, lock_eq, and_self, and_true, true_and]); (try first | exact e | exact e.symm | (and_intros <;> first | assumption | rfl | exact Eq.symm (by assumption)))
   ·have h1 : (ilt (ofN (xlen s1)) x1) = false := by first | exact h | (have h2 := h; simp only [choice_lk, lock_eq] at h2; exact h2) | (simp only [choice_lk, lock_eq] at h; exact h)
    rw [if_neg (by rw [h1]; exact Bool.false_ne_true)] at hr
    (try cbv)
    refine sel_intro (fun h => ?_) (fun h => ?_)
    ·have h1 : (ieq x2 (0 : Int)) = false := by first | exact (bnot_t.1 h) | (have h2 := (bnot_t.1 h); simp only [choice_lk, lock_eq] at h2; exact h2) | (simp only [choice_lk, lock_eq] at h; exact (bnot_t.1 h))
     rw [if_neg (by rw [h1]; exact Bool.false_ne_true)] at hr
     (try cbv)
     apply Hidden.out
     have e := Option.some.inj hr
     obtain ⟨u0, u1, u2, u3⟩ := r
     simp only [Prod.mk.injEq] at e
     obtain ⟨e0, e1, e2, e3⟩ := e
     constructor
     refine ⟨_, hF, ?_⟩
     (try cbv); (try simp only [choice_lk, lock_eq, and_self, and_true, true_and]); (try first | exact e | exact e.symm | (and_intros <;> first | assumption | rfl | exact Eq.symm (by assumption)))
    ·have h1 : (ieq x2 (0 : Int)) = true := by first | exact (bnot_f.1 h) | (have h2 := (bnot_f.1 h); simp only [choice_lk, lock_eq] at h2; exact h2) | (simp only [choice_lk, lock_eq] at h; exact (bnot_f.1 h))
     rw [if_pos h1] at hr
     (try cbv)
     have gg := guard_inv hr
     have g := gg.1
     replace hr := gg.2
     clear gg
     refine ⟨obl.2 (by first | (simp only [choice_lk, lock_eq, R.len, R.sub]; exact g) | exact g), ?_⟩
     have gg := guard_inv hr
     have g := gg.1
     replace hr := gg.2
     clear gg
     refine ⟨obl.2 (by first | (simp only [choice_lk, lock_eq, R.len, R.sub]; exact g) | exact g), ?_⟩
     apply Hidden.out
     have e := Option.some.inj hr
     obtain ⟨u0, u1, u2, u3⟩ := r
     simp only [Prod.mk.injEq] at e
     obtain ⟨e0, e1, e2, e3⟩ := e
     constructor
     refine ⟨_, hF, ?_⟩
     (try cbv); (try simp only [choice_lk, lock_eq, and_self, and_true, true_and]); (try first | exact e | exact e.symm | (and_intros <;> first | assumption | rfl | exact Eq.symm (by assumption)))
 ·unfold con_octet_Window_Bytes_2 at hce
  split at hce
  rotate_left
  ·cases hce
  obtain rfl := Option.some.inj hce
  rename_i x1 n1 n2 x2 s1
  have hb1 := hob _ (List.mem_singleton.2 rfl)
  have hb2 := obl.1 hb1
  clear hb1 hob hce
  refine hb2.elim fun r hF => ?_
  clear hb2
  simp only [List.length_cons, List.length_nil, Nat.zero_add, Nat.reduceAdd] at hk
  have hr : F_octet_Window_Bytes_2 x1 n1 n2 x2 s1 = some r := by rw [lock_eq] at hF; exact hF
  unfold F_octet_Window_Bytes_2 at hr
  constructor
  (try cbv)
  refine sel_intro (fun h => ?_) (fun h => ?_)
  ·have h1 : (ilt x1 (0 : Int)) = true := by first | exact h | (have h2 := h; simp only [choice_lk, lock_eq] at h2; exact h2) | (simp only [choice_lk, lock_eq] at h; exact h)
   rw [if_pos h1] at hr
   (try cbv)
   have hqe : ∃ qq, F_octet_Window_fail_2 (1 : Int) n1 n2 x2 s1 = some qq := by
    cases hq : F_octet_Window_fail_2 (1 : Int) n1 n2 x2 s1 with
    | none => rw [hq] at hr; cases hr
    | some qq => exact ⟨qq, rfl⟩
   refine ⟨obl.2 (by simp only [choice_lk, lock_eq]; exact hqe), (by rintro (_) _ <;> cbv), ?_⟩
   clear hqe
   intro y1 hx1
   simp only [choice_lk, lock_eq] at hx1
   all_goals (rw [hx1] at hr; dsimp only at hr; constructor; (try cbv))
   refine sel_intro (fun h => ?_) (fun h => ?_)
   ·have h1 : (ieq y1 (0 : Int)) = false := by first | exact (bnot_t.1 h) | (have h2 := (bnot_t.1 h); simp only [choice_lk, lock_eq] at h2; exact h2) | (simp only [choice_lk, lock_eq] at h; exact (bnot_t.1 h))
    rw [if_neg (by rw [h1]; exact Bool.false_ne_true)] at hr
    (try cbv)
    apply Hidden.out
    have e := Option.some.inj hr
    obtain ⟨u0, u1, u2, u3⟩ := r
    simp only [Prod.mk.injEq] at e
    obtain ⟨e0, e1, e2, e3⟩ := e
    constructor
    refine ⟨_, hF, ?_⟩
    (try cbv); (try simp only [choice_lk, lock_eq, and_self, and_true, true_and]); (try first | exact e | exact e.symm | (and_intros <;> first | assumption | rfl | exact Eq.symm (by assumption)))
   ·have h1 : (ieq y1 (0 : Int)) = true := by first | exact (bnot_f.1 h) | (have h2 := (bnot_f.1 h); simp only [choice_lk, lock_eq] at h2; exact h2) | (simp only [choice_lk, lock_eq] at h; exact (bnot_f.1 h))
    rw [if_pos h1] at hr
    (try cbv)
    have gg := guard_inv hr
    have g := gg.1
    replace hr := gg.2
    clear gg
    refine ⟨obl.2 (by first | (simp only [choice_lk, lock_eq, R.len, R.sub]; exact g) | exact g), ?_⟩
    have gg := guard_inv hr
    have g := gg.1
    replace hr := gg.2
    clear gg
    refine ⟨obl.2 (by first | (simp only [choice_lk, lock_eq, R.len, R.sub]; exact g) | exact g), ?_⟩
    apply Hidden.out
    have e := Option.some.inj hr
    obtain ⟨u0, u1, u2, u3⟩ := r
    simp only [Prod.mk.injEq] at e
    obtain ⟨e0, e1, e2, e3⟩ := e
    constructor
    refine ⟨_, hF, ?_⟩
    (try cbv); (try simp only [choice_lk, lock_eq, and_self, and_true, true_and]); (try first | exact e | exact e.symm | (and_intros <;> first | assumption | rfl | exact Eq.symm (by assumption)))
  ·as_aux_lemma =>
   have h1 : (ilt x1 (0 : Int)) = false := by first | exact h | (have h2 := h; simp only [choice_lk, lock_eq] at h2; exact h2) | (simp only [choice_lk, lock_eq] at h; exact h)
   rw [if_neg (by rw [h1]; exact Bool.false_ne_true)] at hr
   (try cbv)
   refine sel_intro (fun h => ?_) (fun h => ?_)
   ·have h1 : (ilt (ofN n2) x1) = true := by first | exact h | (have h2 := h; simp only [choice_lk, lock_eq] at h2; exact h2) | (simp only [choice_lk, lock_eq] at h; exact h)
    rw [if_pos h1] at hr
    (try cbv)
    have hqe : ∃ qq, F_octet_Window_fail_2 (10 : Int) n1 n2 x2 s1 = some qq := by
     cases hq : F_octet_Window_fail_2 (10 : Int) n1 n2 x2 s1 with
     | none => rw [hq] at hr; cases hr
     | some qq => exact ⟨qq, rfl⟩
    refine ⟨obl.2 (by simp only [choice_lk, lock_eq]; exact hqe), (by rintro (_) _ <;> cbv), ?_⟩
    clear hqe
    intro y2 hx2
    simp only [choice_lk, lock_eq] at hx2
    all_goals (rw [hx2] at hr; dsimp only at hr; constructor; (try cbv))
    refine sel_intro (fun h => ?_) (fun h => ?_)
    ·have h1 : (ieq y2 (0 : Int)) = false := by first | exact (bnot_t.1 h) | (have h2 := (bnot_t.1 h); simp only [choice_lk, lock_eq] at h2; exact h2) | (simp only [choice_lk, lock_eq] at h; exact (bnot_t.1 h))
     rw [if_neg (by rw [h1]; exact Bool.false_ne_true)] at hr
     (try cbv)
     apply Hidden.out
     have e := Option.some.inj hr
     obtain ⟨u0, u1, u2, u3⟩ := r
     simp only [Prod.mk.injEq] at e
     obtain ⟨e0, e1, e2, e3⟩ := e
     constructor
     refine ⟨_, hF, ?_⟩
     (try cbv); (try simp only [choice_lk, lock_eq, and_self, and_true, true_and]); (try first | exact e | exact e.symm | (and_intros <;> first | assumption | rfl | exact Eq.symm (by assumption)))
    ·have h1 : (ieq y2 (0 : Int)) = true := by first | exact (bnot_f.1 h) | (have h2 := (bnot_f.1 h); simp only [choice_lk, lock_eq] at h2; exact h2) | (simp only [choice_lk, lock_eq] at h; exact (bnot_f.1 h))
     rw [if_pos h1] at hr
     (try cbv)
     have gg := guard_inv hr
     have g := gg.1
     replace hr := gg.2
     clear gg
     refine ⟨obl.2 (by first | (simp only [choice_lk, lock_eq, R.len, R.sub]; exact g) | exact g), ?_⟩
     have gg := guard_inv hr
     have g := gg.1
     replace hr := gg.2
     clear gg
     refine ⟨obl.2 (by first | (simp only [choice_lk, lock_eq, R.len, R.sub]; exact g) | exact g), ?_⟩
     apply Hidden.out
     have e := Option.some.inj hr
     obtain ⟨u0, u1, u2, u3⟩ := r
     simp only [Prod.mk.injEq] at e
     obtain ⟨e0, e1, e2, e3⟩ := e
     constructor
     refine ⟨_, hF, ?_⟩
     (try cbv); (try simp only [choice_lk, lock_eq, and_self, and_true, true_and]); (try first | exact e | exact e.symm | (and_intros <;> first | assumption | rfl | exact Eq.symm (by assumption)))
   ·have h1 : (ilt (ofN n2) x1) = false := by first | exact h | (have h2 := h; simp only [choice_lk, lock_eq] at h2; exact h2) | (simp only [choice_lk, lock_eq] at h; exact h)
    rw [if_neg (by rw [h1]; exact Bool.false_ne_true)] at hr
    (try cbv)
    refine sel_intro (fun h => ?_) (fun h => ?_)
    ·have h1 : (ieq x2 (0 : Int)) = false := by first | exact (bnot_t.1 h) | (have h2 := (bnot_t.1 h); simp only [choice_lk, lock_eq] at h2; exact h2) | (simp only [choice_lk, lock_eq] at h; exact (bnot_t.1 h))
     rw [if_neg (by rw [h1]; exact Bool.false_ne_true)] at hr
     (try cbv)
     apply Hidden.out
     have e := Option.some.inj hr
     obtain ⟨u0, u1, u2, u3⟩ := r
     simp only [Prod.mk.injEq] at e
     obtain ⟨e0, e1, e2, e3⟩ := e
     constructor
     refine ⟨_, hF, ?_⟩
     (try cbv); (try simp only [choice_lk, lock_eq, and_self, and_true, true_and]); (try first | exact e | exact e.symm | (and_intros <;> first | assumption | rfl | exact Eq.symm (by assumption)))
    ·have h1 : (ieq x2 (0 : Int)) = true := by first | exact (bnot_f.1 h) | (have h2 := (bnot_f.1 h); simp only [choice_lk, lock_eq] at h2; exact h2) | (simp only [choice_lk, lock_eq] at h; exact (bnot_f.1 h))
     rw [if_pos h1] at hr
     (try cbv)
     have gg := guard_inv hr
     have g := gg.1
     replace hr := gg.2
     clear gg
     refine ⟨obl.2 (by first | (simp only [choice_lk, lock_eq, R.len, R.sub]; exact g) | exact g), ?_⟩
     have gg := guard_inv hr
     have g := gg.1
     replace hr := gg.2
     clear gg
     refine ⟨obl.2 (by first | (simp only [choice_lk, lock_eq, R.len, R.sub]; exact g) | exact g), ?_⟩
     apply Hidden.out
     have e := Option.some.inj hr
     obtain ⟨u0, u1, u2, u3⟩ := r
     simp only [Prod.mk.injEq] at e
     obtain ⟨e0, e1, e2, e3⟩ := e
     constructor
     refine ⟨_, hF, ?_⟩
     (try cbv); (try simp only [choice_lk, lock_eq, and_self, and_true, true_and]); (try first | exact e | exact e.symm | (and_intros <;> first | assumption | rfl | exact Eq.symm (by assumption)))
end Go.Proofs.YtbkcmpggacbikaaDoor
end
section
/-
  The walk of tollbar/octet.Value (printed by a program of ours).
-/
set_option linter.unusedVariables false
set_option linter.unusedSimpArgs false
namespace Go.Proofs.YtbkcmpggacbikaaDoor
open Go.RowKit
noncomputable def tab_octet_Value : Nat → Option Con := look []
set_option maxHeartbeats 20000000 in
set_option maxRecDepth 100000 in
theorem vc_octet_Value (P : Program) (T : Tab P tab_octet_Value) (hm : P.follows .mixedOrders = true) : FnVC P tab_octet_Value ic_47 [.t 2, .t 3] 23 con_octet_Value := by
 intro cargs ccks ce hce hob C hk
 apply Hidden.out
 replace hce : con_octet_Value_1 cargs ccks = some ce := hce
 ·unfold con_octet_Value_1 at hce
  split at hce
  rotate_left
  ·cases hce
  obtain rfl := Option.some.inj hce
  rename_i s1
  have hb1 := hob _ (List.mem_singleton.2 rfl)
  have hb2 := obl.1 hb1
  clear hb1 hob hce
  refine hb2.elim fun r hF => ?_
  clear hb2
  simp only [List.length_cons, List.length_nil, Nat.zero_add, Nat.reduceAdd] at hk
  have hr : F_octet_Value s1 = some r := by rw [lock_eq] at hF; exact hF
  unfold F_octet_Value at hr
  constructor
  (try cbv)
  refine LoopOK.iter T (drawOK T hm) (B := (F_octet_Value_L1 s1)) hr (fun | (i1, i2) => ⟨mkFr [(4, (.v (.int .u64 i1))), (7, (.rsl (.bs 5 s1))), (8, (.v (.int .i64 (lock ofN (lock (@xlen UInt8) s1))))), (9, (.v (.int .i64 i2)))] 23 0, [], 0⟩) ?_ ?_
  ·rintro ⟨u0, u1⟩ e
   simp only [Prod.mk.injEq] at e
   obtain ⟨e0, e1⟩ := e
   refine le_auto hk ?_
   (try cbv); (try simp only [choice_lk, lock_eq, and_self, and_true, true_and]); (try first | exact e | exact e.symm | (and_intros <;> first | assumption | rfl | exact Eq.symm (by assumption)))
  ·clear hr
   intro x bb1 hr ht1
   obtain ⟨i1, i2⟩ := x
   as_aux_lemma =>
   constructor
   unfold F_octet_Value_L1 at hr
   (try dsimp only at hr)
   (try cbv)
   refine sel_intro (fun h => ?_) (fun h => ?_)
   ·have h1 : (ilt i2 (ofN (xlen s1))) = true := by first | exact h | (have h2 := h; simp only [choice_lk, lock_eq] at h2; exact h2) | (simp only [choice_lk, lock_eq] at h; exact h)
    rw [if_pos h1] at hr
    (try cbv)
    have gg := guard_inv hr
    have g := gg.1
    replace hr := gg.2
    clear gg
    refine ⟨obl.2 (by first | (simp only [choice_lk, lock_eq, R.len, R.sub]; exact g) | exact g), ?_⟩
    have gg := guard_inv hr
    have g := gg.1
    replace hr := gg.2
    clear gg
    refine ⟨obl.2 (by first | (simp only [choice_lk, lock_eq, R.len, R.sub]; exact g) | exact g), ?_⟩
    refine sel_intro (fun h => ?_) (fun h => ?_)
    ·have h1 : (ilt (0 : Int) (ishr .u64 i1 (56 : Int))) = true := by first | exact h | (have h2 := h; simp only [choice_lk, lock_eq] at h2; exact h2) | (simp only [choice_lk, lock_eq] at h; exact h)
     rw [if_pos h1] at hr
     (try cbv)
     apply Hidden.out
     obtain rfl := Option.some.inj hr
     have e := ht1 _ rfl
     obtain ⟨u0, u1⟩ := r
     simp only [Prod.mk.injEq] at e
     obtain ⟨e0, e1⟩ := e
     constructor
     refine ⟨_, hF, ?_⟩
     (try cbv); (try simp only [choice_lk, lock_eq, and_self, and_true, true_and]); (try first | exact e | exact e.symm | (and_intros <;> first | assumption | rfl | exact Eq.symm (by assumption)))
    ·have h1 : (ilt (0 : Int) (ishr .u64 i1 (56 : Int))) = false := by first | exact h | (have h2 := h; simp only [choice_lk, lock_eq] at h2; exact h2) | (simp only [choice_lk, lock_eq] at h; exact h)
     rw [if_neg (by rw [h1]; exact Bool.false_ne_true)] at hr
     (try cbv)
     have gg := guard_inv hr
     have g := gg.1
     replace hr := gg.2
     clear gg
     refine ⟨obl.2 (by first | (simp only [choice_lk, lock_eq, R.len, R.sub]; exact g) | exact g), ?_⟩
     apply Hidden.out
     obtain rfl := Option.some.inj hr
     constructor
     refine ⟨⟨_, rfl⟩, ?_⟩
     rintro ⟨u0, u1⟩ e
     replace e := Sum.inl.inj e
     simp only [Prod.mk.injEq] at e
     obtain ⟨e0, e1⟩ := e
     refine le_auto hk ?_
     (try cbv); (try simp only [choice_lk, lock_eq, and_self, and_true, true_and]); (try first | exact e | exact e.symm | (and_intros <;> first | assumption | rfl | exact Eq.symm (by assumption)))
   ·have h1 : (ilt i2 (ofN (xlen s1))) = false := by first | exact h | (have h2 := h; simp only [choice_lk, lock_eq] at h2; exact h2) | (simp only [choice_lk, lock_eq] at h; exact h)
    rw [if_neg (by rw [h1]; exact Bool.false_ne_true)] at hr
    (try cbv)
    apply Hidden.out
    obtain rfl := Option.some.inj hr
    have e := ht1 _ rfl
    obtain ⟨u0, u1⟩ := r
    simp only [Prod.mk.injEq] at e
    obtain ⟨e0, e1⟩ := e
    constructor
    refine ⟨_, hF, ?_⟩
    (try cbv); (try simp only [choice_lk, lock_eq, and_self, and_true, true_and]); (try first | exact e | exact e.symm | (and_intros <;> first | assumption | rfl | exact Eq.symm (by assumption)))
end Go.Proofs.YtbkcmpggacbikaaDoor
end
section
/-
  The walk of (*tollbar/octet.Window).Num (printed by a program of ours).
-/
set_option linter.unusedVariables false
set_option linter.unusedSimpArgs false
namespace Go.Proofs.YtbkcmpggacbikaaDoor
open Go.RowKit
noncomputable def tab_octet_Window_Num : Nat → Option Con := look [(46, con_octet_Window_fail), (48, con_octet_Window_Bytes), (47, con_octet_Value)]
set_option maxHeartbeats 20000000 in
set_option maxRecDepth 100000 in
theorem vc_octet_Window_Num (P : Program) (T : Tab P tab_octet_Window_Num) (hm : P.follows .mixedOrders = true) : FnVC P tab_octet_Window_Num ic_37 [.t 4] 25 con_octet_Window_Num := by
 intro cargs ccks ce hce hob C hk
 apply Hidden.out
 replace hce : altC (con_octet_Window_Num_1 cargs ccks) (con_octet_Window_Num_2 cargs ccks) = some ce := hce
 replace hce := altC_inv hce
 rcases hce with hce | hce
 ·unfold con_octet_Window_Num_1 at hce
  split at hce
  rotate_left
  ·cases hce
  obtain rfl := Option.some.inj hce
  rename_i x1 x2 s1
  have hb1 := hob _ (List.mem_singleton.2 rfl)
  have hb2 := obl.1 hb1
  clear hb1 hob hce
  refine hb2.elim fun r hF => ?_
  clear hb2
  simp only [List.length_cons, List.length_nil, Nat.zero_add, Nat.reduceAdd] at hk
  have hr : F_octet_Window_Num x1 x2 s1 = some r := by rw [lock_eq] at hF; exact hF
  unfold F_octet_Window_Num at hr
  constructor
  (try cbv)
  refine sel_intro (fun h => ?_) (fun h => ?_)
  ·have h1 : (ilt x1 (1 : Int)) = true := by first | exact h | (have h2 := h; simp only [choice_lk, lock_eq] at h2; exact h2) | (simp only [choice_lk, lock_eq] at h; exact h)
   rw [if_pos h1] at hr
   (try cbv)
   have hqe : ∃ qq, F_octet_Window_fail (1 : Int) x2 s1 = some qq := by
    cases hq : F_octet_Window_fail (1 : Int) x2 s1 with
    | none => rw [hq] at hr; cases hr
    | some qq => exact ⟨qq, rfl⟩
   refine ⟨obl.2 (by simp only [choice_lk, lock_eq]; exact hqe), (by rintro (_) _ <;> cbv), ?_⟩
   clear hqe
   intro y1 hx1
   simp only [choice_lk, lock_eq] at hx1
   all_goals (rw [hx1] at hr; dsimp only at hr; constructor; (try cbv))
   apply Hidden.out
   have e := Option.some.inj hr
   obtain ⟨u0, u1, u2, u3⟩ := r
   simp only [Prod.mk.injEq] at e
   obtain ⟨e0, e1, e2, e3⟩ := e
   constructor
   refine ⟨_, hF, ?_⟩
   (try cbv); (try simp only [choice_lk, lock_eq, and_self, and_true, true_and]); (try first | exact e | exact e.symm | (and_intros <;> first | assumption | rfl | exact Eq.symm (by assumption)))
  ·have h1 : (ilt x1 (1 : Int)) = false := by first | exact h | (have h2 := h; simp only [choice_lk, lock_eq] at h2; exact h2) | (simp only [choice_lk, lock_eq] at h; exact h)
   rw [if_neg (by rw [h1]; exact Bool.false_ne_true)] at hr
   (try cbv)
   refine sel_intro (fun h => ?_) (fun h => ?_)
   ·have h1 : (ilt (8 : Int) x1) = true := by first | exact h | (have h2 := h; simp only [choice_lk, lock_eq] at h2; exact h2) | (simp only [choice_lk, lock_eq] at h; exact h)
    rw [if_pos h1] at hr
    (try cbv)
    have hqe : ∃ qq, F_octet_Window_fail (1 : Int) x2 s1 = some qq := by
     cases hq : F_octet_Window_fail (1 : Int) x2 s1 with
     | none => rw [hq] at hr; cases hr
     | some qq => exact ⟨qq, rfl⟩
    refine ⟨obl.2 (by simp only [choice_lk, lock_eq]; exact hqe), (by rintro (_) _ <;> cbv), ?_⟩
    clear hqe
    intro y2 hx2
    simp only [choice_lk, lock_eq] at hx2
    all_goals (rw [hx2] at hr; dsimp only at hr; constructor; (try cbv))
    apply Hidden.out
    have e := Option.some.inj hr
    obtain ⟨u0, u1, u2, u3⟩ := r
    simp only [Prod.mk.injEq] at e
    obtain ⟨e0, e1, e2, e3⟩ := e
    constructor
    refine ⟨_, hF, ?_⟩
    (try cbv); (try simp only [choice_lk, lock_eq, and_self, and_true, true_and]); (try first | exact e | exact e.symm | (and_intros <;> first | assumption | rfl | exact Eq.symm (by assumption)))
   ·have h1 : (ilt (8 : Int) x1) = false := by first | exact h | (have h2 := h; simp only [choice_lk, lock_eq] at h2; exact h2) | (simp only [choice_lk, lock_eq] at h; exact h)
    rw [if_neg (by rw [h1]; exact Bool.false_ne_true)] at hr
    (try cbv)
    have hqe : ∃ qq, F_octet_Window_Bytes x1 x2 s1 = some qq := by
     cases hq : F_octet_Window_Bytes x1 x2 s1 with
     | none => rw [hq] at hr; cases hr
     | some qq => exact ⟨qq, rfl⟩
    refine ⟨obl.2 (by simp only [choice_lk, lock_eq]; exact hqe), (by rintro (⟨_, _, _, _⟩) _ <;> cbv), ?_⟩
    clear hqe
    intro qq hx3
    simp only [choice_lk, lock_eq] at hx3
    rcases qq with ⟨k1, k2, y3, t1⟩
    all_goals (rw [hx3] at hr; dsimp only at hr; constructor; (try cbv))
    have hqe : ∃ qq, F_octet_Value t1 = some qq := by
     cases hq : F_octet_Value t1 with
     | none => rw [hq] at hr; cases hr
     | some qq => exact ⟨qq, rfl⟩
    refine ⟨obl.2 (by simp only [choice_lk, lock_eq]; exact hqe), (by rintro (⟨_, _⟩) _ <;> cbv), ?_⟩
    clear hqe
    intro qq hx4
    simp only [choice_lk, lock_eq] at hx4
    rcases qq with ⟨y4, c1⟩
    all_goals (rw [hx4] at hr; dsimp only at hr; constructor; (try cbv))
    apply Hidden.out
    have e := Option.some.inj hr
    obtain ⟨u0, u1, u2, u3⟩ := r
    simp only [Prod.mk.injEq] at e
    obtain ⟨e0, e1, e2, e3⟩ := e
    constructor
    refine ⟨_, hF, ?_⟩
    (try cbv); (try simp only [choice_lk, lock_eq, and_self, and_true, true_and]); (try first | exact e | exact e.symm | (and_intros <;> first | assumption | rfl | exact Eq.symm (by assumption)))
 ·unfold con_octet_Window_Num_2 at hce
  split at hce
  rotate_left
  ·cases hce
  obtain rfl := Option.some.inj hce
  rename_i x1 n1 n2 x2 s1
  have hb1 := hob _ (List.mem_singleton.2 rfl)
  have hb2 := obl.1 hb1
  clear hb1 hob hce
  refine hb2.elim fun r hF => ?_
  clear hb2
  simp only [List.length_cons, List.length_nil, Nat.zero_add, Nat.reduceAdd] at hk
  have hr : F_octet_Window_Num_2 x1 n1 n2 x2 s1 = some r := by rw [lock_eq] at hF; exact hF
  unfold F_octet_Window_Num_2 at hr
  constructor
  (try cbv)
  refine sel_intro (fun h => ?_) (fun h => ?_)
  ·have h1 : (ilt x1 (1 : Int)) = true := by first | exact h | (have h2 := h; simp only [choice_lk, lock_eq] at h2; exact h2) | (simp only [choice_lk, lock_eq] at h; exact h)
   rw [if_pos h1] at hr
   (try cbv)
   have hqe : ∃ qq, F_octet_Window_fail_2 (1 : Int) n1 n2 x2 s1 = some qq := by
    cases hq : F_octet_Window_fail_2 (1 : Int) n1 n2 x2 s1 with
    | none => rw [hq] at hr; cases hr
    | some qq => exact ⟨qq, rfl⟩
   refine ⟨obl.2 (by simp only [choice_lk, lock_eq]; exact hqe), (by rintro (_) _ <;> cbv), ?_⟩
   clear hqe
   intro y1 hx1
   simp only [choice_lk, lock_eq] at hx1
   all_goals (rw [hx1] at hr; dsimp only at hr; constructor; (try cbv))
   apply Hidden.out
   have e := Option.some.inj hr
   obtain ⟨u0, u1, u2, u3⟩ := r
   simp only [Prod.mk.injEq] at e
   obtain ⟨e0, e1, e2, e3⟩ := e
   constructor
   refine ⟨_, hF, ?_⟩
   (try cbv); (try simp only [choice_lk, lock_eq, and_self, and_true, true_and]); (try first | exact e | exact e.symm | (and_intros <;> first | assumption | rfl | exact Eq.symm (by assumption)))
  ·have h1 : (ilt x1 (1 : Int)) = false := by first | exact h | (have h2 := h; simp only [choice_lk, lock_eq] at h2; exact h2) | (simp only [choice_lk, lock_eq] at h; exact h)
   rw [if_neg (by rw [h1]; exact Bool.false_ne_true)] at hr
   (try cbv)
   refine sel_intro (fun h => ?_) (fun h => ?_)
   ·have h1 : (ilt (8 : Int) x1) = true := by first | exact h | (have h2 := h; simp only [choice_lk, lock_eq] at h2; exact h2) | (simp only [choice_lk, lock_eq] at h; exact h)
    rw [if_pos h1] at hr
    (try cbv)
    have hqe : ∃ qq, F_octet_Window_fail_2 (1 : Int) n1 n2 x2 s1 = some qq := by
     cases hq : F_octet_Window_fail_2 (1 : Int) n1 n2 x2 s1 with
     | none => rw [hq] at hr; cases hr
     | some qq => exact ⟨qq, rfl⟩
    refine ⟨obl.2 (by simp only [choice_lk, lock_eq]; exact hqe), (by rintro (_) _ <;> cbv), ?_⟩
    clear hqe
    intro y2 hx2
    simp only [choice_lk, lock_eq] at hx2
    all_goals (rw [hx2] at hr; dsimp only at hr; constructor; (try cbv))
    apply Hidden.out
    have e := Option.some.inj hr
    obtain ⟨u0, u1, u2, u3⟩ := r
    simp only [Prod.mk.injEq] at e
    obtain ⟨e0, e1, e2, e3⟩ := e
    constructor
    refine ⟨_, hF, ?_⟩
    (try cbv); (try simp only [choice_lk, lock_eq, and_self, and_true, true_and]); (try first | exact e | exact e.symm | (and_intros <;> first | assumption | rfl | exact Eq.symm (by assumption)))
   ·have h1 : (ilt (8 : Int) x1) = false := by first | exact h | (have h2 := h; simp only [choice_lk, lock_eq] at h2; exact h2) | (simp only [choice_lk, lock_eq] at h; exact h)
    rw [if_neg (by rw [h1]; exact Bool.false_ne_true)] at hr
    (try cbv)
    have hqe : ∃ qq, F_octet_Window_Bytes_2 x1 n1 n2 x2 s1 = some qq := by
     cases hq : F_octet_Window_Bytes_2 x1 n1 n2 x2 s1 with
     | none => rw [hq] at hr; cases hr
     | some qq => exact ⟨qq, rfl⟩
    refine ⟨obl.2 (by simp only [choice_lk, lock_eq]; exact hqe), (by rintro (⟨_, _, _, _⟩) _ <;> cbv), ?_⟩
    clear hqe
    intro qq hx3
    simp only [choice_lk, lock_eq] at hx3
    rcases qq with ⟨k1, k2, y3, t1⟩
    all_goals (rw [hx3] at hr; dsimp only at hr; constructor; (try cbv))
    have hqe : ∃ qq, F_octet_Value t1 = some qq := by
     cases hq : F_octet_Value t1 with
     | none => rw [hq] at hr; cases hr
     | some qq => exact ⟨qq, rfl⟩
    refine ⟨obl.2 (by simp only [choice_lk, lock_eq]; exact hqe), (by rintro (⟨_, _⟩) _ <;> cbv), ?_⟩
    clear hqe
    intro qq hx4
    simp only [choice_lk, lock_eq] at hx4
    rcases qq with ⟨y4, c1⟩
    all_goals (rw [hx4] at hr; dsimp only at hr; constructor; (try cbv))
    apply Hidden.out
    have e := Option.some.inj hr
    obtain ⟨u0, u1, u2, u3⟩ := r
    simp only [Prod.mk.injEq] at e
    obtain ⟨e0, e1, e2, e3⟩ := e
    constructor
    refine ⟨_, hF, ?_⟩
    (try cbv); (try simp only [choice_lk, lock_eq, and_self, and_true, true_and]); (try first | exact e | exact e.symm | (and_intros <;> first | assumption | rfl | exact Eq.symm (by assumption)))
end Go.Proofs.YtbkcmpggacbikaaDoor
end
section
/-
  The walk of tollbar/journal.read (printed by a program of ours).
-/
set_option linter.unusedVariables false
set_option linter.unusedSimpArgs false
namespace Go.Proofs.YtbkcmpggacbikaaDoor
open Go.RowKit
noncomputable def tab_journal_read : Nat → Option Con := look [(12, con_block_Device_Read)]
set_option maxHeartbeats 20000000 in
set_option maxRecDepth 100000 in
theorem vc_journal_read (P : Program) (T : Tab P tab_journal_read) (hm : P.follows .mixedOrders = true) : FnVC P tab_journal_read ic_38 [.t 6] 36 con_journal_read := by
 intro cargs ccks ce hce hob C hk
 apply Hidden.out
 replace hce : altC (con_journal_read_1 cargs ccks) (con_journal_read_2 cargs ccks) = some ce := hce
 replace hce := altC_inv hce
 rcases hce with hce | hce
 ·unfold con_journal_read_1 at hce
  split at hce
  rotate_left
  ·cases hce
  obtain rfl := Option.some.inj hce
  rename_i x1 x2 b1 x3 r1
  have hb1 := hob _ (List.mem_singleton.2 rfl)
  have hb2 := obl.1 hb1
  clear hb1 hob hce
  refine hb2.elim fun r hF => ?_
  clear hb2
  simp only [List.length_cons, List.length_nil, Nat.zero_add, Nat.reduceAdd] at hk
  have hr : F_journal_read x1 x2 b1 x3 r1 = some r := by rw [lock_eq] at hF; exact hF
  unfold F_journal_read at hr
  constructor
  (try cbv)
  refine LoopOK.iter T (drawOK T hm) (B := (F_journal_read_L1 x2 b1 x3 r1)) hr (fun | (i1, s1) => ⟨mkFr [(0, (.ptr 0 0)), (2, (.v (.int .i64 x2))), (7, (.wsl 2)), (8, (.v (.int .i64 i1)))] 36 0, [(0, .blk 61 [(.wsl 1), (.v (.bool b1)), (.v (.pointer none)), (.v (.int .i64 x3))]), (1, .row (.row 68 (.u8s 64) r1)), (2, .row (.bs 5 s1))], 3⟩) ?_ ?_
  ·rintro ⟨u0, u1⟩ e
   simp only [Prod.mk.injEq] at e
   obtain ⟨e0, e1⟩ := e
   refine le_auto hk ?_
   (try cbv); (try simp only [choice_lk, lock_eq, and_self, and_true, true_and]); (try first | exact e | exact e.symm | (and_intros <;> first | assumption | rfl | exact Eq.symm (by assumption)))
  ·clear hr
   intro x bb1 hr ht1
   obtain ⟨i1, s1⟩ := x
   as_aux_lemma =>
   constructor
   unfold F_journal_read_L1 at hr
   (try dsimp only at hr)
   (try cbv)
   refine sel_intro (fun h => ?_) (fun h => ?_)
   ·have h1 : (ilt (ofN (xlen s1)) x2) = true := by first | exact h | (have h2 := h; simp only [choice_lk, lock_eq] at h2; exact h2) | (simp only [choice_lk, lock_eq] at h; exact h)
    rw [if_pos h1] at hr
    (try cbv)
    have hqe : ∃ qq, F_block_Device_Read i1 b1 x3 r1 = some qq := by
     cases hq : F_block_Device_Read i1 b1 x3 r1 with
     | none => rw [hq] at hr; cases hr
     | some qq => exact ⟨qq, rfl⟩
    refine ⟨obl.2 (by simp only [choice_lk, lock_eq]; exact hqe), (by rintro (⟨_, _⟩) _ <;> cbv), ?_⟩
    clear hqe
    intro qq hx4
    simp only [choice_lk, lock_eq] at hx4
    rcases qq with ⟨y4, t4⟩
    all_goals (rw [hx4] at hr; dsimp only at hr; constructor; (try cbv))
    refine sel_intro (fun h => ?_) (fun h => ?_)
    ·have h1 : (ieq y4 (0 : Int)) = false := by first | exact (bnot_t.1 h) | (have h2 := (bnot_t.1 h); simp only [choice_lk, lock_eq] at h2; exact h2) | (simp only [choice_lk, lock_eq] at h; exact (bnot_t.1 h))
     rw [if_neg (by rw [h1]; exact Bool.false_ne_true)] at hr
     (try cbv)
     apply Hidden.out
     obtain rfl := Option.some.inj hr
     have e := ht1 _ rfl
     obtain ⟨u0, u1⟩ := r
     simp only [Prod.mk.injEq] at e
     obtain ⟨e0, e1⟩ := e
     constructor
     refine ⟨_, hF, ?_⟩
     (try cbv); (try simp only [choice_lk, lock_eq, and_self, and_true, true_and]); (try first | exact e | exact e.symm | (and_intros <;> first | assumption | rfl | exact Eq.symm (by assumption)))
    ·have h1 : (ieq y4 (0 : Int)) = true := by first | exact (bnot_f.1 h) | (have h2 := (bnot_f.1 h); simp only [choice_lk, lock_eq] at h2; exact h2) | (simp only [choice_lk, lock_eq] at h; exact (bnot_f.1 h))
     rw [if_pos h1] at hr
     (try cbv)
     have gg := guard_inv hr
     have g := gg.1
     replace hr := gg.2
     clear gg
     refine ⟨obl.2 (by first | (simp only [choice_lk, lock_eq, R.len, R.sub]; exact g) | exact g), ?_⟩
     apply Hidden.out
     obtain rfl := Option.some.inj hr
     constructor
     refine ⟨⟨_, rfl⟩, ?_⟩
     rintro ⟨u0, u1⟩ e
     replace e := Sum.inl.inj e
     simp only [Prod.mk.injEq] at e
     obtain ⟨e0, e1⟩ := e
     refine le_auto hk ?_
     (try cbv); (try simp only [choice_lk, lock_eq, and_self, and_true, true_and]); (try first | exact e | exact e.symm | (and_intros <;> first | assumption | rfl | exact Eq.symm (by assumption)))
   ·have h1 : (ilt (ofN (xlen s1)) x2) = false := by first | exact h | (have h2 := h; simp only [choice_lk, lock_eq] at h2; exact h2) | (simp only [choice_lk, lock_eq] at h; exact h)
    rw [if_neg (by rw [h1]; exact Bool.false_ne_true)] at hr
    (try cbv)
    have gg := guard_inv hr
    have g := gg.1
    replace hr := gg.2
    clear gg
    refine ⟨obl.2 (by first | (simp only [choice_lk, lock_eq, R.len, R.sub]; exact g) | exact g), ?_⟩
    apply Hidden.out
    obtain rfl := Option.some.inj hr
    have e := ht1 _ rfl
    obtain ⟨u0, u1⟩ := r
    simp only [Prod.mk.injEq] at e
    obtain ⟨e0, e1⟩ := e
    constructor
    refine ⟨_, hF, ?_⟩
    (try cbv); (try simp only [choice_lk, lock_eq, and_self, and_true, true_and]); (try first | exact e | exact e.symm | (and_intros <;> first | assumption | rfl | exact Eq.symm (by assumption)))
 ·unfold con_journal_read_2 at hce
  split at hce
  rotate_left
  ·cases hce
  obtain rfl := Option.some.inj hce
  rename_i x1 x2 b1 x3 r1 x4 x5
  have hb1 := hob _ (List.mem_singleton.2 rfl)
  have hb2 := obl.1 hb1
  clear hb1 hob hce
  refine hb2.elim fun r hF => ?_
  clear hb2
  simp only [List.length_cons, List.length_nil, Nat.zero_add, Nat.reduceAdd] at hk
  have hr : F_journal_read_2 x1 x2 b1 x3 r1 x4 x5 = some r := by rw [lock_eq] at hF; exact hF
  unfold F_journal_read_2 at hr
  constructor
  (try cbv)
  refine LoopOK.iter T (drawOK T hm) (B := (F_journal_read_2_L1 x2 b1 x3 r1 x4 x5)) hr (fun | (i1, s1) => ⟨mkFr [(0, (.ptr 0 0)), (2, (.v (.int .i64 x2))), (7, (.wsl 3)), (8, (.v (.int .i64 i1)))] 36 0, [(0, .blk 61 [(.wsl 1), (.v (.bool b1)), (.ptr 2 0), (.v (.int .i64 x3))]), (1, .row (.row 68 (.u8s 64) r1)), (2, .blk 67 [(.v (.int .i64 x4)), (.v (.int .i64 x5))]), (3, .row (.bs 5 s1))], 4⟩) ?_ ?_
  ·rintro ⟨u0, u1⟩ e
   simp only [Prod.mk.injEq] at e
   obtain ⟨e0, e1⟩ := e
   refine le_auto hk ?_
   (try cbv); (try simp only [choice_lk, lock_eq, and_self, and_true, true_and]); (try first | exact e | exact e.symm | (and_intros <;> first | assumption | rfl | exact Eq.symm (by assumption)))
  ·clear hr
   intro x bb1 hr ht1
   obtain ⟨i1, s1⟩ := x
   as_aux_lemma =>
   constructor
   unfold F_journal_read_2_L1 at hr
   (try dsimp only at hr)
   (try cbv)
   refine sel_intro (fun h => ?_) (fun h => ?_)
   ·have h1 : (ilt (ofN (xlen s1)) x2) = true := by first | exact h | (have h2 := h; simp only [choice_lk, lock_eq] at h2; exact h2) | (simp only [choice_lk, lock_eq] at h; exact h)
    rw [if_pos h1] at hr
    (try cbv)
    have hqe : ∃ qq, F_block_Device_Read_2 i1 b1 x3 r1 x4 x5 = some qq := by
     cases hq : F_block_Device_Read_2 i1 b1 x3 r1 x4 x5 with
     | none => rw [hq] at hr; cases hr
     | some qq => exact ⟨qq, rfl⟩
    refine ⟨obl.2 (by simp only [choice_lk, lock_eq]; exact hqe), (by rintro (⟨_, _⟩) _ <;> cbv), ?_⟩
    clear hqe
    intro qq hx4
    simp only [choice_lk, lock_eq] at hx4
    rcases qq with ⟨y4, t4⟩
    all_goals (rw [hx4] at hr; dsimp only at hr; constructor; (try cbv))
    refine sel_intro (fun h => ?_) (fun h => ?_)
    ·have h1 : (ieq y4 (0 : Int)) = false := by first | exact (bnot_t.1 h) | (have h2 := (bnot_t.1 h); simp only [choice_lk, lock_eq] at h2; exact h2) | (simp only [choice_lk, lock_eq] at h; exact (bnot_t.1 h))
     rw [if_neg (by rw [h1]; exact Bool.false_ne_true)] at hr
     (try cbv)
     apply Hidden.out
     obtain rfl := Option.some.inj hr
     have e := ht1 _ rfl
     obtain ⟨u0, u1⟩ := r
     simp only [Prod.mk.injEq] at e
     obtain ⟨e0, e1⟩ := e
     constructor
     refine ⟨_, hF, ?_⟩
     (try cbv); (try simp only [choice_lk, lock_eq, and_self, and_true, true_and]); (try first | exact e | exact e.symm | (and_intros <;> first | assumption | rfl | exact Eq.symm (by assumption)))
    ·have h1 : (ieq y4 (0 : Int)) = true := by first | exact (bnot_f.1 h) | (have h2 := (bnot_f.1 h); simp only [choice_lk, lock_eq] at h2; exact h2) | (simp only [choice_lk, lock_eq] at h; exact (bnot_f.1 h))
     rw [if_pos h1] at hr
     (try cbv)
     have gg := guard_inv hr
     have g := gg.1
     replace hr := gg.2
     clear gg
     refine ⟨obl.2 (by first | (simp only [choice_lk, lock_eq, R.len, R.sub]; exact g) | exact g), ?_⟩
     apply Hidden.out
     obtain rfl := Option.some.inj hr
     constructor
     refine ⟨⟨_, rfl⟩, ?_⟩
     rintro ⟨u0, u1⟩ e
     replace e := Sum.inl.inj e
     simp only [Prod.mk.injEq] at e
     obtain ⟨e0, e1⟩ := e
     refine le_auto hk ?_
     (try cbv); (try simp only [choice_lk, lock_eq, and_self, and_true, true_and]); (try first | exact e | exact e.symm | (and_intros <;> first | assumption | rfl | exact Eq.symm (by assumption)))
   ·have h1 : (ilt (ofN (xlen s1)) x2) = false := by first | exact h | (have h2 := h; simp only [choice_lk, lock_eq] at h2; exact h2) | (simp only [choice_lk, lock_eq] at h; exact h)
    rw [if_neg (by rw [h1]; exact Bool.false_ne_true)] at hr
    (try cbv)
    have gg := guard_inv hr
    have g := gg.1
    replace hr := gg.2
    clear gg
    refine ⟨obl.2 (by first | (simp only [choice_lk, lock_eq, R.len, R.sub]; exact g) | exact g), ?_⟩
    apply Hidden.out
    obtain rfl := Option.some.inj hr
    have e := ht1 _ rfl
    obtain ⟨u0, u1⟩ := r
    simp only [Prod.mk.injEq] at e
    obtain ⟨e0, e1⟩ := e
    constructor
    refine ⟨_, hF, ?_⟩
    (try cbv); (try simp only [choice_lk, lock_eq, and_self, and_true, true_and]); (try first | exact e | exact e.symm | (and_intros <;> first | assumption | rfl | exact Eq.symm (by assumption)))
end Go.Proofs.YtbkcmpggacbikaaDoor
end
section
/-
  The walk of tollbar/octet.Big (printed by a program of ours).
-/
set_option linter.unusedVariables false
set_option linter.unusedSimpArgs false
namespace Go.Proofs.YtbkcmpggacbikaaDoor
open Go.RowKit
noncomputable def tab_octet_Big : Nat → Option Con := look []
set_option maxHeartbeats 20000000 in
set_option maxRecDepth 100000 in
theorem vc_octet_Big (P : Program) (T : Tab P tab_octet_Big) (hm : P.follows .mixedOrders = true) : FnVC P tab_octet_Big ic_43 [.t 4] 28 con_octet_Big := by
 intro cargs ccks ce hce hob C hk
 apply Hidden.out
 replace hce : con_octet_Big_1 cargs ccks = some ce := hce
 ·unfold con_octet_Big_1 at hce
  split at hce
  rotate_left
  ·cases hce
  obtain rfl := Option.some.inj hce
  rename_i x1 x2
  have hb1 := hob _ (List.mem_singleton.2 rfl)
  have hb2 := obl.1 hb1
  clear hb1 hob hce
  refine hb2.elim fun r hF => ?_
  clear hb2
  simp only [List.length_cons, List.length_nil, Nat.zero_add, Nat.reduceAdd] at hk
  have hr : F_octet_Big x1 x2 = some r := by rw [lock_eq] at hF; exact hF
  unfold F_octet_Big at hr
  constructor
  (try cbv)
  refine sel_intro (fun h => ?_) (fun h => ?_)
  ·have h1 : (ilt x2 (1 : Int)) = true := by first | exact h | (have h2 := h; simp only [choice_lk, lock_eq] at h2; exact h2) | (simp only [choice_lk, lock_eq] at h; exact h)
   rw [if_pos h1] at hr
   (try cbv)
   apply Hidden.out
   have e := Option.some.inj hr
   constructor
   refine ⟨_, hF, ?_⟩
   (try cbv); (try simp only [choice_lk, lock_eq, and_self, and_true, true_and]); (try first | exact e | exact e.symm | (and_intros <;> first | assumption | rfl | exact Eq.symm (by assumption)))
  ·as_aux_lemma =>
   have h1 : (ilt x2 (1 : Int)) = false := by first | exact h | (have h2 := h; simp only [choice_lk, lock_eq] at h2; exact h2) | (simp only [choice_lk, lock_eq] at h; exact h)
   rw [if_neg (by rw [h1]; exact Bool.false_ne_true)] at hr
   (try cbv)
   refine sel_intro (fun h => ?_) (fun h => ?_)
   ·have h1 : (ilt (8 : Int) x2) = true := by first | exact h | (have h2 := h; simp only [choice_lk, lock_eq] at h2; exact h2) | (simp only [choice_lk, lock_eq] at h; exact h)
    rw [if_pos h1] at hr
    (try cbv)
    apply Hidden.out
    have e := Option.some.inj hr
    constructor
    refine ⟨_, hF, ?_⟩
    (try cbv); (try simp only [choice_lk, lock_eq, and_self, and_true, true_and]); (try first | exact e | exact e.symm | (and_intros <;> first | assumption | rfl | exact Eq.symm (by assumption)))
   ·have h1 : (ilt (8 : Int) x2) = false := by first | exact h | (have h2 := h; simp only [choice_lk, lock_eq] at h2; exact h2) | (simp only [choice_lk, lock_eq] at h; exact h)
    rw [if_neg (by rw [h1]; exact Bool.false_ne_true)] at hr
    (try cbv)
    refine LoopOK.iter T (drawOK T hm) (B := (F_octet_Big_L1 x1)) hr (fun | (i1, s1) => ⟨mkFr [(0, (.v (.int .u64 x1))), (5, (.wsl 0)), (6, (.v (.int .i64 i1)))] 28 0, [(0, .row (.bs 5 s1))], 1⟩) ?_ ?_
    ·rintro ⟨u0, u1⟩ e
     simp only [Prod.mk.injEq] at e
     obtain ⟨e0, e1⟩ := e
     refine le_auto hk ?_
     (try cbv); (try simp only [choice_lk, lock_eq, and_self, and_true, true_and]); (try first | exact e | exact e.symm | (and_intros <;> first | assumption | rfl | exact Eq.symm (by assumption)))
    ·clear hr
     intro x bb1 hr ht1
     obtain ⟨i1, s1⟩ := x
     as_aux_lemma =>
     constructor
     unfold F_octet_Big_L1 at hr
     (try dsimp only at hr)
     (try cbv)
     refine sel_intro (fun h => ?_) (fun h => ?_)
     ·have h1 : (ile (0 : Int) i1) = true := by first | exact h | (have h2 := h; simp only [choice_lk, lock_eq] at h2; exact h2) | (simp only [choice_lk, lock_eq] at h; exact h)
      rw [if_pos h1] at hr
      (try cbv)
      have gg := guard_inv hr
      have g := gg.1
      replace hr := gg.2
      clear gg
      refine ⟨obl.2 (by first | (simp only [choice_lk, lock_eq, R.len, R.sub]; exact g) | exact g), ?_⟩
      have gg := guard_inv hr
      have g := gg.1
      replace hr := gg.2
      clear gg
      refine ⟨obl.2 (by first | (simp only [choice_lk, lock_eq, R.len, R.sub]; exact g) | exact g), ?_⟩
      have gg := guard_inv hr
      have g := gg.1
      replace hr := gg.2
      clear gg
      refine ⟨obl.2 (by first | (simp only [choice_lk, lock_eq, R.len, R.sub]; exact g) | exact g), ?_⟩
      apply Hidden.out
      obtain rfl := Option.some.inj hr
      constructor
      refine ⟨⟨_, rfl⟩, ?_⟩
      rintro ⟨u0, u1⟩ e
      replace e := Sum.inl.inj e
      simp only [Prod.mk.injEq] at e
      obtain ⟨e0, e1⟩ := e
      refine le_auto hk ?_
      (try cbv); (try simp only [choice_lk, lock_eq, and_self, and_true, true_and]); (try first | exact e | exact e.symm | (and_intros <;> first | assumption | rfl | exact Eq.symm (by assumption)))
     ·have h1 : (ile (0 : Int) i1) = false := by first | exact h | (have h2 := h; simp only [choice_lk, lock_eq] at h2; exact h2) | (simp only [choice_lk, lock_eq] at h; exact h)
      rw [if_neg (by rw [h1]; exact Bool.false_ne_true)] at hr
      (try cbv)
      apply Hidden.out
      obtain rfl := Option.some.inj hr
      have e := ht1 _ rfl
      constructor
      refine ⟨_, hF, ?_⟩
      (try cbv); (try simp only [choice_lk, lock_eq, and_self, and_true, true_and]); (try first | exact e | exact e.symm | (and_intros <;> first | assumption | rfl | exact Eq.symm (by assumption)))
end Go.Proofs.YtbkcmpggacbikaaDoor
end
section
/-
  The walk of tollbar/frame.Sum (printed by a program of ours).
-/
set_option linter.unusedVariables false
set_option linter.unusedSimpArgs false
namespace Go.Proofs.YtbkcmpggacbikaaDoor
open Go.RowKit
noncomputable def tab_frame_Sum : Nat → Option Con := look []
set_option maxHeartbeats 20000000 in
set_option maxRecDepth 100000 in
theorem vc_frame_Sum (P : Program) (T : Tab P tab_frame_Sum) (hm : P.follows .mixedOrders = true) : FnVC P tab_frame_Sum ic_44 [.t 2] 29 con_frame_Sum := by
 intro cargs ccks ce hce hob C hk
 apply Hidden.out
 replace hce : con_frame_Sum_1 cargs ccks = some ce := hce
 ·unfold con_frame_Sum_1 at hce
  split at hce
  rotate_left
  ·cases hce
  obtain rfl := Option.some.inj hce
  rename_i s1
  have hb1 := hob _ (List.mem_singleton.2 rfl)
  have hb2 := obl.1 hb1
  clear hb1 hob hce
  refine hb2.elim fun r hF => ?_
  clear hb2
  simp only [List.length_cons, List.length_nil, Nat.zero_add, Nat.reduceAdd] at hk
  have hr : F_frame_Sum s1 = some r := by rw [lock_eq] at hF; exact hF
  unfold F_frame_Sum at hr
  constructor
  (try cbv)
  refine LoopOK.iter T (drawOK T hm) (B := (F_frame_Sum_L1 s1)) hr (fun | (i3, i4) => ⟨mkFr [(3, (.v (.int .u32 i3))), (6, (.rsl (.bs 5 s1))), (7, (.v (.int .i64 (lock ofN (lock (@xlen UInt8) s1))))), (8, (.v (.int .i64 i4)))] 29 0, [], 0⟩) ?_ ?_
  ·rintro ⟨u0, u1⟩ e
   simp only [Prod.mk.injEq] at e
   obtain ⟨e0, e1⟩ := e
   refine le_auto hk ?_
   (try cbv); (try simp only [choice_lk, lock_eq, and_self, and_true, true_and]); (try first | exact e | exact e.symm | (and_intros <;> first | assumption | rfl | exact Eq.symm (by assumption)))
  ·clear hr
   intro x bb1 hr ht1
   obtain ⟨i3, i4⟩ := x
   as_aux_lemma =>
   constructor
   unfold F_frame_Sum_L1 at hr
   (try dsimp only at hr)
   (try cbv)
   refine sel_intro (fun h => ?_) (fun h => ?_)
   ·have h1 : (ilt i4 (ofN (xlen s1))) = true := by first | exact h | (have h2 := h; simp only [choice_lk, lock_eq] at h2; exact h2) | (simp only [choice_lk, lock_eq] at h; exact h)
    rw [if_pos h1] at hr
    (try cbv)
    have gg := guard_inv hr
    have g := gg.1
    replace hr := gg.2
    clear gg
    refine ⟨obl.2 (by first | (simp only [choice_lk, lock_eq, R.len, R.sub]; exact g) | exact g), ?_⟩
    refine LoopOK.iter T (drawOK T hm) (B := (F_frame_Sum_L2 i4)) hr (fun | (i7, i8) => ⟨mkFr [(3, (.v (.int .u32 i7))), (6, (.rsl (.bs 5 s1))), (7, (.v (.int .i64 (lock ofN (lock (@xlen UInt8) s1))))), (8, (.v (.int .i64 i4))), (16, (.v (.int .i64 i8)))] 29 0, [], 0⟩) ?_ ?_
    ·rintro ⟨u0, u1⟩ e
     simp only [Prod.mk.injEq] at e
     obtain ⟨e0, e1⟩ := e
     refine le_auto hk ?_
     (try cbv); (try simp only [choice_lk, lock_eq, and_self, and_true, true_and]); (try first | exact e | exact e.symm | (and_intros <;> first | assumption | rfl | exact Eq.symm (by assumption)))
    ·clear hr
     intro x bb2 hr ht2
     obtain ⟨i7, i8⟩ := x
     as_aux_lemma =>
     constructor
     unfold F_frame_Sum_L2 at hr
     (try dsimp only at hr)
     (try cbv)
     refine sel_intro (fun h => ?_) (fun h => ?_)
     ·have h1 : (ilt i8 (2 : Int)) = true := by first | exact h | (have h2 := h; simp only [choice_lk, lock_eq] at h2; exact h2) | (simp only [choice_lk, lock_eq] at h; exact h)
      rw [if_pos h1] at hr
      (try cbv)
      have gg := guard_inv hr
      have g := gg.1
      replace hr := gg.2
      clear gg
      refine ⟨obl.2 (by first | (simp only [choice_lk, lock_eq, R.len, R.sub]; exact g) | exact g), ?_⟩
      have gg := guard_inv hr
      have g := gg.1
      replace hr := gg.2
      clear gg
      refine ⟨obl.2 (by first | (simp only [choice_lk, lock_eq, R.len, R.sub]; exact g) | exact g), ?_⟩
      apply Hidden.out
      obtain rfl := Option.some.inj hr
      constructor
      refine ⟨⟨_, rfl⟩, ?_⟩
      rintro ⟨u0, u1⟩ e
      replace e := Sum.inl.inj e
      simp only [Prod.mk.injEq] at e
      obtain ⟨e0, e1⟩ := e
      refine le_auto hk ?_
      (try cbv); (try simp only [choice_lk, lock_eq, and_self, and_true, true_and]); (try first | exact e | exact e.symm | (and_intros <;> first | assumption | rfl | exact Eq.symm (by assumption)))
     ·have h1 : (ilt i8 (2 : Int)) = false := by first | exact h | (have h2 := h; simp only [choice_lk, lock_eq] at h2; exact h2) | (simp only [choice_lk, lock_eq] at h; exact h)
      rw [if_neg (by rw [h1]; exact Bool.false_ne_true)] at hr
      (try cbv)
      apply Hidden.out
      obtain rfl := Option.some.inj hr
      have e := (ht2 _ rfl).symm
      subst e
      constructor
      refine ⟨⟨_, rfl⟩, ?_⟩
      rintro ⟨u0, u1⟩ e
      replace e := Sum.inl.inj e
      simp only [Prod.mk.injEq] at e
      obtain ⟨e0, e1⟩ := e
      refine le_auto hk ?_
      (try cbv); (try simp only [choice_lk, lock_eq, and_self, and_true, true_and]); (try first | exact e | exact e.symm | (and_intros <;> first | assumption | rfl | exact Eq.symm (by assumption)))
   ·have h1 : (ilt i4 (ofN (xlen s1))) = false := by first | exact h | (have h2 := h; simp only [choice_lk, lock_eq] at h2; exact h2) | (simp only [choice_lk, lock_eq] at h; exact h)
    rw [if_neg (by rw [h1]; exact Bool.false_ne_true)] at hr
    (try cbv)
    apply Hidden.out
    obtain rfl := Option.some.inj hr
    have e := ht1 _ rfl
    constructor
    refine ⟨_, hF, ?_⟩
    (try cbv); (try simp only [choice_lk, lock_eq, and_self, and_true, true_and]); (try first | exact e | exact e.symm | (and_intros <;> first | assumption | rfl | exact Eq.symm (by assumption)))
end Go.Proofs.YtbkcmpggacbikaaDoor
end
section
/-
  A walk that reckons: from a contract to what a row asks for.
-/
set_option linter.unusedVariables false
set_option linter.unusedSimpArgs false
namespace Go.Proofs.YtbkcmpggacbikaaDoor
open Go.RowKit
theorem law_calls {P : Program} {f : FuncId} {con : Con} (h : FnOK P f con) {cargs : List SV} {obs : List Prop} {sm : List Bool} (hc : con.f cargs [] = some ⟨obs, .one (.v (.bool true)) [], sm⟩) (hob : ∀ p ∈ obs, p) {W : World} {args : List Value} (hd : DensA (fun _ => none) W (fun _ => False) cargs args) (hG : ∀ g r, (g, r) ∈ globs → Den (fun _ => none) W (fun _ => False) (.rsl r) (.slice (some ⟨g, 0, none⟩) (rlen r) (rlen r)) := by intro g r h; simp [globs] at h) :
  Calls P f args.toArray W fun e W' => e = .returned (.bool true) ∧ Below W.heap.size W W' := by
 have hO : ∀ b, ¬ Own (fun _ => none) (canon 0 ([] : List Ck)) b := by
  rintro b ⟨id, c, p, h1, h2, h3⟩
  cases h2
 have hS : HSat (ctxOf W (fun _ => False) (fun _ => none) []) (fun _ => none) (canon 0 []) (fun i => ([] : List Ck).length ≤ i) W := by
  refine ⟨fun id c hc => by simp [canon, hget] at hc, fun i j c d p q b h1 => by simp [canon, hget] at h1, fun b hb => absurd hb (hO b), rfl, rfl, rfl, Nat.le_refl _, fun _ _ _ => rfl, ⟨fun b hb => hb.elim, fun g r hg => (hG g r hg).mono (fun _ _ h => h) (Nat.le_refl _) (fun _ _ _ => rfl) (fun b _ hb => by rcases hb with hz | ho; exact hz; exact hO b ho)⟩, fun _ _ => rfl, fun id hid => rfl⟩
 have hA : Avo (ctxOf W (fun _ => False) (fun _ => none) []) (fun _ => none) (canon 0 []) = fun _ => False := by
  funext b
  simp only [Avo, ctxOf, false_or, eq_iff_iff, iff_false]
  exact hO b
 have key := h cargs [] _ hc hob (fun _ => False) (fun _ => none) W args hS (by rw [hA]; exact hd)
 refine key.mono ?_
 rintro e W' ⟨u, PL', rfl, H, D⟩
 cases D
 refine ⟨rfl, ?_⟩
 exact ⟨H.os, H.tape, H.output, H.size, fun k hk => H.old k hk (hO k)⟩
theorem law_many {P : Program} {f : FuncId} {con : Con} (h : FnOK P f con) {cargs : List SV} {obs : List Prop} {X : Type} {Pr : X → Prop} {v : X → SV} {post : X → List PostC} {sm : List Bool} (hc : con.f cargs [] = some ⟨obs, .many X Pr v post, sm⟩) (hob : ∀ p ∈ obs, p) (hv : ∀ x, Pr x → v x = .v (.bool true) ∧ post x = []) {W : World} {args : List Value} (hd : DensA (fun _ => none) W (fun _ => False) cargs args) (hG : ∀ g r, (g, r) ∈ globs → Den (fun _ => none) W (fun _ => False) (.rsl r) (.slice (some ⟨g, 0, none⟩) (rlen r) (rlen r)) := by intro g r h; simp [globs] at h) :
  Calls P f args.toArray W fun e W' => e = .returned (.bool true) ∧ Below W.heap.size W W' := by
 have hO : ∀ b, ¬ Own (fun _ => none) (canon 0 ([] : List Ck)) b := by
  rintro b ⟨id, c, p, h1, h2, h3⟩
  cases h2
 have hS : HSat (ctxOf W (fun _ => False) (fun _ => none) []) (fun _ => none) (canon 0 []) (fun i => ([] : List Ck).length ≤ i) W := by
  refine ⟨fun id c hc => by simp [canon, hget] at hc, fun i j c d p q b h1 => by simp [canon, hget] at h1, fun b hb => absurd hb (hO b), rfl, rfl, rfl, Nat.le_refl _, fun _ _ _ => rfl, ⟨fun b hb => hb.elim, fun g r hg => (hG g r hg).mono (fun _ _ h => h) (Nat.le_refl _) (fun _ _ _ => rfl) (fun b _ hb => by rcases hb with hz | ho; exact hz; exact hO b ho)⟩, fun _ _ => rfl, fun id hid => rfl⟩
 have hA : Avo (ctxOf W (fun _ => False) (fun _ => none) []) (fun _ => none) (canon 0 []) = fun _ => False := by
  funext b
  simp only [Avo, ctxOf, false_or, eq_iff_iff, iff_false]
  exact hO b
 have key := h cargs [] _ hc hob (fun _ => False) (fun _ => none) W args hS (by rw [hA]; exact hd)
 refine key.mono ?_
 rintro e W' ⟨u, PL', rfl, x, hx, H, D⟩
 obtain ⟨e1, e2⟩ := hv x hx
 rw [e1] at D
 cases D
 refine ⟨rfl, ?_⟩
 exact ⟨H.os, H.tape, H.output, H.size, fun k hk => H.old k hk (hO k)⟩
theorem densA_nil {PL : Nat → Option Pl} {w : World} {Av : Nat → Prop} : DensA PL w Av [] [] := ⟨rfl, fun j h1 _ => absurd h1 (by simp)⟩
theorem densA_cons {PL : Nat → Option Pl} {w : World} {Av : Nat → Prop} {x : SV} {l : List SV} {c : Value} {cs : List Value} (h : Den PL w Av x c) (k : DensA PL w Av l cs) : DensA PL w Av (x :: l) (c :: cs) :=
 ⟨by simp [k.1], fun j h1 h2 => by
  cases j with
  | zero => exact h
  | succ j => exact k.2 j (by simpa using h1) (by simpa using h2)⟩
theorem den_str {PL : Nat → Option Pl} {w : World} {Av : Nat → Prop} (b : ByteArray) : Den PL w Av (.str b.data.toList) (.string b) := by
 have := Den.str (PL := PL) (w := w) (Av := Av) b.data.toList
 simpa using this
end Go.Proofs.YtbkcmpggacbikaaDoor
end
section
/-
  A walk that reckons: functions that are walked by hand, and fit in.
-/
set_option linter.unusedVariables false
set_option linter.unusedSimpArgs false
namespace Go.Proofs.YtbkcmpggacbikaaDoor
open Go.RowKit
theorem alloc_new (w : World) (o : Obj) : (w.alloc o).heap[w.heap.size]? = some o := by
 show (w.heap.push o)[w.heap.size]? = some o
 simp
section
variable {P : Program} {w w' : World} {Z : Nat → Prop} {PL : Nat → Option Pl}
theorem hupd_nil : hupd (pcan 0 []) (canon 0 ([] : List Ck)) = [] := rfl
theorem hupd_row (r : R) : hupd (pcan 0 [.to (.row r)]) (canon 0 ([] : List Ck)) = [(0, .row r)] := rfl
theorem hsat_plain (HS : HSat (ctxOf w Z PL []) PL (canon 0 []) (fun i => ([] : List Ck).length ≤ i) w) (hB : Below w.heap.size w w') : HSat (ctxOf w Z PL []) PL (hupd (pcan 0 []) (canon 0 [])) (fun _ => False) w' := by
 rw [hupd_nil]
 have hO : ∀ b, ¬ Own PL ([] : List (Nat × Ck)) b := by rintro b ⟨id, c, p, h1, _⟩; simp [hget] at h1
 refine ⟨fun id c hc => by simp [hget] at hc, fun i j c d p q b h1 => by simp [hget] at h1, fun b hb => absurd hb (hO b), hB.os, hB.tape, hB.output, hB.size, fun b hb _ => hB.block b hb, HS.zlt, fun _ h => h.elim, fun id hid => absurd hid (Nat.not_lt_zero _)⟩
theorem hsat_row (HS : HSat (ctxOf w Z PL []) PL (canon 0 []) (fun i => ([] : List Ck).length ≤ i) w) (hB : Below w.heap.size w w') (r : R) (b cap : Nat) (cs : Array Value) (hb : w.heap.size ≤ b)
  (hh : w'.heap[b]? = some (.cells cs r.T (0, 0))) (h0 : 0 < r.sz) (hc : rlen r ≤ cap) (hm : cap ≤ maxLen) (hs : cs.size = cap * r.sz) (hr : ∀ PL' Av', RP PL' w' Av' r cs.toList) :
  ∃ PL', HSat (ctxOf w Z PL []) PL' (hupd (pcan 0 [.to (.row r)]) (canon 0 [])) (fun _ => False) w' ∧ Den PL' w' (Avo (ctxOf w Z PL []) PL' (hupd (pcan 0 [.to (.row r)]) (canon 0 []))) (.wsl 0) (.slice (some ⟨b, 0, none⟩) (rlen r) cap) := by
 rw [hupd_row]
 have hP : padd PL 0 ⟨some ⟨b, 0, none⟩, rlen r, cap, r.sz⟩ 0 = some ⟨some ⟨b, 0, none⟩, rlen r, cap, r.sz⟩ := padd_eq _ _ _
 have one : ∀ id c, hget [(0, Ck.row r)] id = some c → id = 0 ∧ c = .row r := by
  intro id c h
  simp only [hget] at h
  cases hi : Nat.beq id 0 with
  | true => rw [hi] at h; injection h with h; exact ⟨(nbeq _ _).1 hi, h.symm⟩
  | false => rw [hi] at h; cases h
 refine ⟨padd PL 0 ⟨some ⟨b, 0, none⟩, rlen r, cap, r.sz⟩, ⟨?_, ?_, ?_, hB.os, hB.tape, hB.output, hB.size, fun b hb _ => hB.block b hb, HS.zlt, fun _ h => h.elim, fun id hid => absurd hid (Nat.not_lt_zero _)⟩, ?_⟩
 ·intro id c hg
  obtain ⟨rfl, rfl⟩ := one id c hg
  exact rp_row hP rfl rfl h0 rfl hh hc hm hs (hr _ _)
 ·intro i j c d p q b' h1 h2 _ _ _ _
  rw [(one i c h1).1, (one j d h2).1]
 ·rintro b' ⟨id, c, p, h1, h2, h3⟩
  obtain ⟨rfl, rfl⟩ := one id c h1
  rw [hP] at h2
  injection h2 with h2
  subst h2
  injection h3 with h3
  injection h3 with h3
  subst h3
  exact ⟨fun hz => by have : b < w.heap.size := HS.zlt.1 b hz; omega, .inr hb⟩
 ·exact .wsl 0 _ hP
theorem densA1 {Av : Nat → Prop} {x : SV} {args : List Value} (h : DensA PL w Av [x] args) : ∃ v, args = [v] ∧ Den PL w Av x v := by
 obtain ⟨h1, h2⟩ := h
 match args, h1 with
 | [v], _ => exact ⟨v, rfl, h2 0 (by simp) (by simp)⟩
theorem densA2 {Av : Nat → Prop} {x y : SV} {args : List Value} (h : DensA PL w Av [x, y] args) : ∃ v u, args = [v, u] ∧ Den PL w Av x v ∧ Den PL w Av y u := by
 obtain ⟨h1, h2⟩ := h
 match args, h1 with
 | [v, u], _ => exact ⟨v, u, rfl, h2 0 (by simp) (by simp), h2 1 (by simp) (by simp)⟩
end
end Go.Proofs.YtbkcmpggacbikaaDoor
end
section
/-
  bytes.Join of a row of one's own: what the kit proved of it, told as a contract.
-/
set_option linter.unusedVariables false
set_option linter.unusedSimpArgs false
namespace Go.Proofs.YtbkcmpggacbikaaDoor
open Go.RowKit
def renJ : Go.Shelf.Ren := ⟨fun | 14 => 42 | 15 => 50 | n => n, fun | 26 => 92 | n => n, fun n => n⟩
theorem laysJ : SlLaysJ.n14 Tryd.prog renJ where
 mixed := by kernel_rfl
 f14 := Tryd.func42.trans (congrArg some (by kernel_rfl))
 f15 := Tryd.func50.trans (congrArg some (by kernel_rfl))
 t0 := Tryd.underlying0
 a0 := Tryd.isAgg0
 z0 := Tryd.sizeOf0
 v0 := Tryd.zeroValue0
 t3 := Tryd.underlying3
 a3 := Tryd.isAgg3
 z3 := Tryd.sizeOf3
 v3 := Tryd.zeroValue3
 t4 := Tryd.underlying4
 a4 := Tryd.isAgg4
 z4 := Tryd.sizeOf4
 v4 := Tryd.zeroValue4
 t9 := Tryd.underlying9
 a9 := Tryd.isAgg9
 z9 := Tryd.sizeOf9
 v9 := Tryd.zeroValue9
 t20 := Tryd.underlying20
 a20 := Tryd.isAgg20
 z20 := Tryd.sizeOf20
 v20 := Tryd.zeroValue20
 t22 := Tryd.underlying22
 a22 := Tryd.isAgg22
 z22 := Tryd.sizeOf22
 v22 := Tryd.zeroValue22
 t26 := Tryd.underlying92
 a26 := Tryd.isAgg92
 z26 := Tryd.sizeOf92
 v26 := Tryd.zeroValue92
 t5 := Tryd.underlying5
 z5 := Tryd.sizeOf5
 i5 := by kernel_rfl
theorem bytesOf_get : ∀ (zs : List Int) (l : List UInt8), Lib.bytesOf zs = l → (∀ x ∈ zs, 0 ≤ x ∧ x < 256) → ∀ i, i < l.length → getB l i = zs.getD i 0 := by
 intro zs l h hz i hi
 subst h
 have hi' : i < zs.length := by simpa [Lib.bytesOf] using hi
 have := hz zs[i] (List.getElem_mem hi')
 simp only [getB, Lib.bytesOf, List.getD_eq_getElem?_getD, List.getElem?_map, List.getElem?_eq_getElem hi', Option.map_some, Option.getD_some]
 rw [UInt8.toNat_ofNat', Nat.mod_eq_of_lt (by omega)]
 omega
theorem block_lt_ {w : World} {a : Addr} {v : Value} (h : w.cell? a = some v) : a.block < w.heap.size := by
 by_cases hl : a.block < w.heap.size
 ·exact hl
 ·have : w.heap[a.block]? = none := Array.getElem?_eq_none (by omega)
  simp [World.cell?, this] at h
theorem fresh_den {PL : Nat → Option Pl} {B : Nat} {w' : World} {v : Value} {l : List UInt8} {T : TypeId} {Av : Nat → Prop} (h : Lib.FreshBytes B w' v l) (hA : ∀ b, B ≤ b → ¬ Av b) : Den PL w' Av (.rsl (.bs T l)) v := by
 obtain ⟨g, cap, zs, rfl, hg, hlc, _, hzl, hz, hb, hc, _⟩ := h
 have hcellat : ∀ i, i < l.length → w'.cell? ⟨g, i, none⟩ = some (.int .u8 (getB l i)) := by
  intro i hi
  rw [hc i (by omega), bytesOf_get _ l hb (fun x hx => hz x (List.mem_of_mem_take hx)) i hi]
  have : (zs.take l.length).getD i 0 = zs.getD i 0 := by
   simp only [List.getD_eq_getElem?_getD, List.getElem?_take, if_pos hi]
  rw [this]
 refine .rsl (.bs T l) (some ⟨g, 0, none⟩) cap (fun i _ => .int .u8 (getB l i)) hlc (fun h0 => ⟨_, rfl, ?_, hA g hg⟩) ?_ ?_
 ·have h1 := hcellat 0 h0
  exact block_lt_ h1
 ·intro i j ad had hi hj
  injection had with had
  subst had
  have hj0 : j = 0 := by have : j < 1 := hj; omega
  subst hj0
  refine ⟨?_, rfl⟩
  have e1 : ((⟨g, 0, none⟩ : Addr).add (i * R.sz (.bs T l))).add 0 = ⟨g, i, none⟩ := by
   simp [Addr.add, R.sz]
   omega
  rw [e1]
  exact hcellat i hi
 ·intro i j hi hj
  have hj0 : j = 0 := by have : j < 1 := hj; omega
  subst hj0
  show Den _ _ _ (.v (.int .u8 (lock getB l i))) _
  rw [lock_eq]
  exact .v _
theorem den_holds {PL : Nat → Option Pl} {w : World} {v : Value} {l : List UInt8} {T : TypeId} {Av : Nat → Prop} (h : Den PL w Av (.rsl (.bs T l)) v) : Lib.HoldsBytes w v l := by
 cases h with
 | rsl _ A cap u hcap hsome hcell hden =>
  refine ⟨A, cap, rfl, fun hn => ?_, fun a ha i x hx => ?_⟩
  ·subst hn
   by_cases h0 : 0 < l.length
   ·obtain ⟨ad, h1, _⟩ := hsome h0
    cases h1
   ·exact List.length_eq_zero_iff.1 (by omega)
  ·have hi : i < l.length := (List.getElem?_eq_some_iff.1 hx).1
   have h1 := (hcell i 0 a ha hi (by show 0 < 1; omega)).1
   have h2 := hden i 0 hi (by show 0 < 1; omega)
   have h3 : Den PL w Av (.v (.int .u8 (lock getB l i))) (u i 0) := h2
   have e1 : (a.add (i * R.sz (.bs T l))).add 0 = a.add i := by
    show (a.add (i * 1)).add 0 = a.add i
    rw [Nat.mul_one]
    exact add_zero' (a.add i)
   rw [e1] at h1
   rw [h1]
   generalize hu : u i 0 = y at h3
   cases h3
   rw [lock_eq]
   have : getB l i = (x.toNat : Int) := by
    simp [getB, List.getD_eq_getElem?_getD, hx]
   rw [this]
theorem ok_bytes_Join : FnOK Tryd.prog 42 con_bytes_Join := by
 intro cargs ccks ce hce hob Z PL w args HS HD
 replace hce : con_bytes_Join_1 cargs ccks = some ce := hce
 unfold con_bytes_Join_1 at hce
 split at hce
 ·rename_i r1
  obtain rfl := Option.some.inj hce
  obtain ⟨r, hr⟩ := obl.1 (hob _ (List.mem_singleton.2 rfl))
  rw [lock_eq] at hr
  have hg := hr
  unfold joinB at hr
  split at hr
  ·rename_i h0
   obtain ⟨h2, h1000, h47⟩ := h0
   simp only [xlen] at h2 h1000 h47
   obtain rfl := Option.some.inj hr
   obtain ⟨v, u, rfl, d1, d2⟩ := densA2 HD
   cases d2
   cases d1 with
   | wsl _ p hp =>
    obtain ⟨p', hp', l1, l2, l3, hrow⟩ := row_rp (HS.ck 0 (.row (.row 22 (.bytes 5) r1)) rfl)
    rw [hp] at hp'; injection hp' with hp'; subst hp'
    have hlen : rlen (.row 22 (.bytes 5) r1) = r1.length := rfl
    rcases hrow with ⟨hn, hc0, hl0⟩ | ⟨b, cs, g1, g2, g3, g4, g5, g6⟩
    ·omega
    ·have hcs : cs.size = p.cap := by rw [g5]; show p.cap * 1 = p.cap; omega
     have hat : ∀ i (hi : i < r1.length), ∃ y, cs.toList[i]? = some y ∧ Lib.HoldsBytes w y (r1[i]).toS := by
      intro i hi
      obtain ⟨y, e1, e2, e3⟩ := g6 i 0 hi (by show 0 < 1; omega)
      have e1 : cs.toList[i * 1 + 0]? = some y := e1
      rw [Nat.mul_one, Nat.add_zero] at e1
      refine ⟨y, e1, ?_⟩
      have e2 : Den PL w (Avo (ctxOf w Z PL [.row (.row 22 (.bytes 5) r1)]) PL (canon 0 [.row (.row 22 (.bytes 5) r1)])) (.rsl (.bs 5 (lock D.toS (lock getD r1 i)))) y := e2
      rw [lock_eq, lock_eq] at e2
      have e4 : getD r1 i = r1[i] := by simp [getD, List.getD_eq_getElem?_getD, List.getElem?_eq_getElem hi]
      rw [e4] at e2
      exact den_holds e2
     have hP : Lib.PartsAt w ⟨b, 0, none⟩ (cs.toList.take r1.length) (r1.map D.toS) := by
      have hl : (cs.toList.take r1.length).length = r1.length := by simp; omega
      refine ⟨by rw [hl]; simp, fun i y hy => ?_, fun i y l hy hl2 => ?_⟩
      ·have hi : i < r1.length := by have := (List.getElem?_eq_some_iff.1 hy).1; omega
       rw [List.getElem?_take, if_pos hi] at hy
       have e1 : (⟨b, 0, none⟩ : Addr).add i = ⟨b, i, none⟩ := by simp [Addr.add]; omega
       rw [e1]
       simp only [World.cell?, g2]
       simpa using hy
      ·have hi : i < r1.length := by have := (List.getElem?_eq_some_iff.1 hy).1; omega
       rw [List.getElem?_take, if_pos hi] at hy
       obtain ⟨y', k1, k2⟩ := hat i hi
       rw [hy] at k1
       injection k1 with k1
       subst k1
       rw [List.getElem?_map, List.getElem?_eq_getElem hi] at hl2
       injection hl2 with hl2
       rw [← hl2]
       exact k2
     have hjoin : Lib.join (r1.map D.toS) [] = joinL r1 := by
      unfold Lib.join joinL
      generalize r1.map D.toS = L
      induction L with
      | nil => rfl
      | cons x L ih =>
       cases L with
       | nil => simp [List.intercalate]
       | cons y L =>
        simp only [List.intercalate, List.intersperse, List.flatten_cons, List.nil_append] at ih ⊢
        rw [ih]
     have hlens : Lib.lens (r1.map D.toS) = (joinL r1).length := by
      unfold Lib.lens joinL
      rw [List.length_flatten]
     have hC := Any.bytes_Join_many laysJ b 0 r1.length p.cap (cs.toList.take r1.length) (r1.map D.toS) (.slice none 0 0) [] w (by simp) h2 hP (by omega) ⟨none, 0, rfl, fun _ => rfl, fun a ha => by cases ha⟩ (by omega) (by rw [hlens]; simp; omega)
     have eargs : (#[.slice p.a p.len p.cap, .slice none 0 0] : Array Value) = #[.slice (some ⟨b, 0, none⟩) r1.length p.cap, .slice none 0 0] := by rw [g1, l1, hlen]
     show Calls Tryd.prog 42 #[.slice p.a p.len p.cap, .slice none 0 0] w _
     rw [eargs]
     refine Calls.mono (show Calls Tryd.prog 42 #[.slice (some ⟨b, 0, none⟩) r1.length p.cap, .slice none 0 0] w _ from hC) ?_
     rintro e w' ⟨v', rfl, hF, hB⟩
     rw [hjoin] at hF
     refine ⟨v', PL, rfl, joinL r1, by rw [lock_eq]; exact hg, ?_⟩
     have hs := hB.size
     have ho : ∀ b, Own PL (canon 0 [.row (.row 22 (.bytes 5) r1)]) b → b < w.heap.size := fun b h => HS.lt h
     refine ⟨?_, fresh_den hF ?_⟩
     ·show HSat _ PL (canon 0 [.row (.row 22 (.bytes 5) r1)]) _ w'
      refine ⟨fun id c hc => (HS.ck id c hc).mono (fun _ _ h => h) hs (fun b hb _ => hB.block b hb) (fun _ _ h => h) (fun p b hp ha => hB.block b ((HS.ck id c hc).lt hp ha)), HS.dj, HS.own, hB.os, hB.tape, hB.output, hs, fun b hb _ => hB.block b hb, HS.zlt, fun _ h => h.elim, HS.arg⟩
     ·rintro b hb (hz | hown)
      ·have : b < w.heap.size := HS.zlt.1 b hz
       omega
      ·have := ho b hown
       omega
  ·cases hr
 ·cases hce
end Go.Proofs.YtbkcmpggacbikaaDoor
end
section
/-
  The walk of tollbar/journal.head (printed by a program of ours).
-/
set_option linter.unusedVariables false
set_option linter.unusedSimpArgs false
namespace Go.Proofs.YtbkcmpggacbikaaDoor
open Go.RowKit
noncomputable def tab_journal_head : Nat → Option Con := look [(43, con_octet_Big), (44, con_frame_Sum), (42, con_bytes_Join)]
set_option maxHeartbeats 20000000 in
set_option maxRecDepth 100000 in
theorem vc_journal_head (P : Program) (T : Tab P tab_journal_head) (hm : P.follows .mixedOrders = true) : FnVC P tab_journal_head ic_35 [.t 4] 20 con_journal_head := by
 intro cargs ccks ce hce hob C hk
 apply Hidden.out
 replace hce : altC (con_journal_head_1 cargs ccks) (con_journal_head_2 cargs ccks) = some ce := hce
 replace hce := altC_inv hce
 rcases hce with hce | hce
 ·unfold con_journal_head_1 at hce
  split at hce
  rotate_left
  ·cases hce
  obtain rfl := Option.some.inj hce
  rename_i x1 n1 n2 s1
  have hb1 := hob _ (List.mem_singleton.2 rfl)
  have hb2 := obl.1 hb1
  clear hb1 hob hce
  refine hb2.elim fun r hF => ?_
  clear hb2
  simp only [List.length_cons, List.length_nil, Nat.zero_add, Nat.reduceAdd] at hk
  have hr : F_journal_head x1 n1 n2 s1 = some r := by rw [lock_eq] at hF; exact hF
  unfold F_journal_head at hr
  constructor
  (try cbv)
  have hqe : ∃ qq, F_octet_Big x1 (8 : Int) = some qq := by
   cases hq : F_octet_Big x1 (8 : Int) with
   | none => rw [hq] at hr; cases hr
   | some qq => exact ⟨qq, rfl⟩
  refine ⟨(by simp only [choice_lk, lock_eq]; exact hqe), obl.2 (by simp only [choice_lk, lock_eq]; exact hqe), (by rintro (_) _ <;> cbv), ?_⟩
  clear hqe
  intro t1 hx1
  simp only [choice_lk, lock_eq] at hx1
  all_goals (rw [hx1] at hr; dsimp only at hr; constructor; (try cbv))
  have hqe : ∃ qq, F_octet_Big (iconv .u64 (ofN n2)) (4 : Int) = some qq := by
   cases hq : F_octet_Big (iconv .u64 (ofN n2)) (4 : Int) with
   | none => rw [hq] at hr; cases hr
   | some qq => exact ⟨qq, rfl⟩
  refine ⟨(by simp only [choice_lk, lock_eq]; exact hqe), obl.2 (by simp only [choice_lk, lock_eq]; exact hqe), (by rintro (_) _ <;> cbv), ?_⟩
  clear hqe
  intro t2 hx2
  simp only [choice_lk, lock_eq] at hx2
  all_goals (rw [hx2] at hr; dsimp only at hr; constructor; (try cbv))
  have hqe : ∃ qq, F_frame_Sum (lsub s1 n1 n2) = some qq := by
   cases hq : F_frame_Sum (lsub s1 n1 n2) with
   | none => rw [hq] at hr; cases hr
   | some qq => exact ⟨qq, rfl⟩
  refine ⟨(by simp only [choice_lk, lock_eq]; exact hqe), obl.2 (by simp only [choice_lk, lock_eq]; exact hqe), (by rintro (_) _ <;> cbv), ?_⟩
  clear hqe
  intro y1 hx3
  simp only [choice_lk, lock_eq] at hx3
  all_goals (rw [hx3] at hr; dsimp only at hr; constructor; (try cbv))
  have hqe : ∃ qq, F_octet_Big (iconv .u64 y1) (4 : Int) = some qq := by
   cases hq : F_octet_Big (iconv .u64 y1) (4 : Int) with
   | none => rw [hq] at hr; cases hr
   | some qq => exact ⟨qq, rfl⟩
  refine ⟨(by simp only [choice_lk, lock_eq]; exact hqe), obl.2 (by simp only [choice_lk, lock_eq]; exact hqe), (by rintro (_) _ <;> cbv), ?_⟩
  clear hqe
  intro t3 hx4
  simp only [choice_lk, lock_eq] at hx4
  all_goals (rw [hx4] at hr; dsimp only at hr; constructor; (try cbv))
  have gg := guard_inv hr
  have g := gg.1
  replace hr := gg.2
  clear gg
  refine ⟨obl.2 (by first | (simp only [choice_lk, lock_eq, R.len, R.sub]; exact g) | exact g), ?_⟩
  refine ⟨(by simp only [choice_lk, lock_eq]; exact ⟨_, hx1⟩), obl.2 (by simp only [choice_lk, lock_eq]; exact ⟨_, hx1⟩), (by rintro (_) _ <;> cbv), ?_⟩
  intro qq hx
  simp only [choice_lk, lock_eq] at hx
  obtain rfl := Option.some.inj (hx1.symm.trans hx)
  constructor
  (try cbv)
  have hqe : ∃ qq, joinB ([(D.s t1), (D.s t2), (D.s t3), (D.s (@lrep UInt8 (toN (40 : Int)) (0 : UInt8))), (D.s t1)] : List D) = some qq := by
   cases hq : joinB ([(D.s t1), (D.s t2), (D.s t3), (D.s (@lrep UInt8 (toN (40 : Int)) (0 : UInt8))), (D.s t1)] : List D) with
   | none => rw [hq] at hr; cases hr
   | some qq => exact ⟨qq, rfl⟩
  refine ⟨(by simp only [choice_lk, lock_eq]; exact hqe), obl.2 (by simp only [choice_lk, lock_eq]; exact hqe), (by rintro (_) _ <;> cbv), ?_⟩
  clear hqe
  intro t4 hx6
  simp only [choice_lk, lock_eq] at hx6
  all_goals (rw [hx6] at hr; dsimp only at hr; constructor; (try cbv))
  apply Hidden.out
  have e := Option.some.inj hr
  constructor
  refine ⟨_, hF, ?_⟩
  (try cbv); (try simp only [choice_lk, lock_eq, and_self, and_true, true_and]); (try first | exact e | exact e.symm | (and_intros <;> first | assumption | rfl | exact Eq.symm (by assumption)))
 ·unfold con_journal_head_2 at hce
  split at hce
  rotate_left
  ·cases hce
  obtain rfl := Option.some.inj hce
  rename_i x1 s1
  have hb1 := hob _ (List.mem_singleton.2 rfl)
  have hb2 := obl.1 hb1
  clear hb1 hob hce
  refine hb2.elim fun r hF => ?_
  clear hb2
  simp only [List.length_cons, List.length_nil, Nat.zero_add, Nat.reduceAdd] at hk
  have hr : F_journal_head_2 x1 s1 = some r := by rw [lock_eq] at hF; exact hF
  unfold F_journal_head_2 at hr
  constructor
  (try cbv)
  have hqe : ∃ qq, F_octet_Big x1 (8 : Int) = some qq := by
   cases hq : F_octet_Big x1 (8 : Int) with
   | none => rw [hq] at hr; cases hr
   | some qq => exact ⟨qq, rfl⟩
  refine ⟨(by simp only [choice_lk, lock_eq]; exact hqe), obl.2 (by simp only [choice_lk, lock_eq]; exact hqe), (by rintro (_) _ <;> cbv), ?_⟩
  clear hqe
  intro t1 hx1
  simp only [choice_lk, lock_eq] at hx1
  all_goals (rw [hx1] at hr; dsimp only at hr; constructor; (try cbv))
  have hqe : ∃ qq, F_octet_Big (iconv .u64 (ofN (xlen s1))) (4 : Int) = some qq := by
   cases hq : F_octet_Big (iconv .u64 (ofN (xlen s1))) (4 : Int) with
   | none => rw [hq] at hr; cases hr
   | some qq => exact ⟨qq, rfl⟩
  refine ⟨(by simp only [choice_lk, lock_eq]; exact hqe), obl.2 (by simp only [choice_lk, lock_eq]; exact hqe), (by rintro (_) _ <;> cbv), ?_⟩
  clear hqe
  intro t2 hx2
  simp only [choice_lk, lock_eq] at hx2
  all_goals (rw [hx2] at hr; dsimp only at hr; constructor; (try cbv))
  have hqe : ∃ qq, F_frame_Sum s1 = some qq := by
   cases hq : F_frame_Sum s1 with
   | none => rw [hq] at hr; cases hr
   | some qq => exact ⟨qq, rfl⟩
  refine ⟨(by simp only [choice_lk, lock_eq]; exact hqe), obl.2 (by simp only [choice_lk, lock_eq]; exact hqe), (by rintro (_) _ <;> cbv), ?_⟩
  clear hqe
  intro y1 hx3
  simp only [choice_lk, lock_eq] at hx3
  all_goals (rw [hx3] at hr; dsimp only at hr; constructor; (try cbv))
  have hqe : ∃ qq, F_octet_Big (iconv .u64 y1) (4 : Int) = some qq := by
   cases hq : F_octet_Big (iconv .u64 y1) (4 : Int) with
   | none => rw [hq] at hr; cases hr
   | some qq => exact ⟨qq, rfl⟩
  refine ⟨(by simp only [choice_lk, lock_eq]; exact hqe), obl.2 (by simp only [choice_lk, lock_eq]; exact hqe), (by rintro (_) _ <;> cbv), ?_⟩
  clear hqe
  intro t3 hx4
  simp only [choice_lk, lock_eq] at hx4
  all_goals (rw [hx4] at hr; dsimp only at hr; constructor; (try cbv))
  have gg := guard_inv hr
  have g := gg.1
  replace hr := gg.2
  clear gg
  refine ⟨obl.2 (by first | (simp only [choice_lk, lock_eq, R.len, R.sub]; exact g) | exact g), ?_⟩
  refine ⟨(by simp only [choice_lk, lock_eq]; exact ⟨_, hx1⟩), obl.2 (by simp only [choice_lk, lock_eq]; exact ⟨_, hx1⟩), (by rintro (_) _ <;> cbv), ?_⟩
  intro qq hx
  simp only [choice_lk, lock_eq] at hx
  obtain rfl := Option.some.inj (hx1.symm.trans hx)
  constructor
  (try cbv)
  have hqe : ∃ qq, joinB ([(D.s t1), (D.s t2), (D.s t3), (D.s (@lrep UInt8 (toN (40 : Int)) (0 : UInt8))), (D.s t1)] : List D) = some qq := by
   cases hq : joinB ([(D.s t1), (D.s t2), (D.s t3), (D.s (@lrep UInt8 (toN (40 : Int)) (0 : UInt8))), (D.s t1)] : List D) with
   | none => rw [hq] at hr; cases hr
   | some qq => exact ⟨qq, rfl⟩
  refine ⟨(by simp only [choice_lk, lock_eq]; exact hqe), obl.2 (by simp only [choice_lk, lock_eq]; exact hqe), (by rintro (_) _ <;> cbv), ?_⟩
  clear hqe
  intro t4 hx6
  simp only [choice_lk, lock_eq] at hx6
  all_goals (rw [hx6] at hr; dsimp only at hr; constructor; (try cbv))
  apply Hidden.out
  have e := Option.some.inj hr
  constructor
  refine ⟨_, hF, ?_⟩
  (try cbv); (try simp only [choice_lk, lock_eq, and_self, and_true, true_and]); (try first | exact e | exact e.symm | (and_intros <;> first | assumption | rfl | exact Eq.symm (by assumption)))
end Go.Proofs.YtbkcmpggacbikaaDoor
end
section
/-
  The walk of bytes.Equal (printed by a program of ours).
-/
set_option linter.unusedVariables false
set_option linter.unusedSimpArgs false
namespace Go.Proofs.YtbkcmpggacbikaaDoor
open Go.RowKit
noncomputable def tab_bytes_Equal : Nat → Option Con := look []
set_option maxHeartbeats 20000000 in
set_option maxRecDepth 100000 in
theorem vc_bytes_Equal (P : Program) (T : Tab P tab_bytes_Equal) (hm : P.follows .mixedOrders = true) : FnVC P tab_bytes_Equal ic_39 [.t 4] 10 con_bytes_Equal := by
 intro cargs ccks ce hce hob C hk
 apply Hidden.out
 replace hce : con_bytes_Equal_1 cargs ccks = some ce := hce
 ·unfold con_bytes_Equal_1 at hce
  split at hce
  rotate_left
  ·cases hce
  obtain rfl := Option.some.inj hce
  rename_i s1 s2
  have hb1 := hob _ (List.mem_singleton.2 rfl)
  have hb2 := obl.1 hb1
  clear hb1 hob hce
  refine hb2.elim fun r hF => ?_
  clear hb2
  simp only [List.length_cons, List.length_nil, Nat.zero_add, Nat.reduceAdd] at hk
  have hr : F_bytes_Equal s1 s2 = some r := by rw [lock_eq] at hF; exact hF
  unfold F_bytes_Equal at hr
  constructor
  (try cbv)
  apply Hidden.out
  have e := Option.some.inj hr
  constructor
  refine ⟨_, hF, ?_⟩
  (try cbv); (try simp only [choice_lk, lock_eq, and_self, and_true, true_and]); (try first | exact e | exact e.symm | (and_intros <;> first | assumption | rfl | exact Eq.symm (by assumption)))
end Go.Proofs.YtbkcmpggacbikaaDoor
end
section
/-
  The walk of tollbar/journal.whole (printed by a program of ours).
-/
set_option linter.unusedVariables false
set_option linter.unusedSimpArgs false
namespace Go.Proofs.YtbkcmpggacbikaaDoor
open Go.RowKit
noncomputable def tab_journal_whole : Nat → Option Con := look [(12, con_block_Device_Read), (36, con_octet_Open), (37, con_octet_Window_Num), (38, con_journal_read), (35, con_journal_head), (39, con_bytes_Equal)]
set_option maxHeartbeats 20000000 in
set_option maxRecDepth 100000 in
theorem vc_journal_whole (P : Program) (T : Tab P tab_journal_whole) (hm : P.follows .mixedOrders = true) : FnVC P tab_journal_whole ic_27 [.t 4, .t 5] 53 con_journal_whole := by
 intro cargs ccks ce hce hob C hk
 apply Hidden.out
 replace hce : altC (con_journal_whole_1 cargs ccks) (con_journal_whole_2 cargs ccks) = some ce := hce
 replace hce := altC_inv hce
 rcases hce with hce | hce
 ·unfold con_journal_whole_1 at hce
  split at hce
  rotate_left
  ·cases hce
  obtain rfl := Option.some.inj hce
  rename_i x1 b1 x2 r1
  have hb1 := hob _ (List.mem_singleton.2 rfl)
  have hb2 := obl.1 hb1
  clear hb1 hob hce
  refine hb2.elim fun r hF => ?_
  clear hb2
  simp only [List.length_cons, List.length_nil, Nat.zero_add, Nat.reduceAdd] at hk
  have hr : F_journal_whole x1 b1 x2 r1 = some r := by rw [lock_eq] at hF; exact hF
  unfold F_journal_whole at hr
  constructor
  (try cbv)
  have hqe : ∃ qq, F_block_Device_Read (imul .i64 (iconv .i64 x1) (130 : Int)) b1 x2 r1 = some qq := by
   cases hq : F_block_Device_Read (imul .i64 (iconv .i64 x1) (130 : Int)) b1 x2 r1 with
   | none => rw [hq] at hr; cases hr
   | some qq => exact ⟨qq, rfl⟩
  refine ⟨obl.2 (by simp only [choice_lk, lock_eq]; exact hqe), (by rintro (⟨_, _⟩) _ <;> cbv), ?_⟩
  clear hqe
  intro qq hx1
  simp only [choice_lk, lock_eq] at hx1
  rcases qq with ⟨y1, t1⟩
  all_goals (rw [hx1] at hr; dsimp only at hr; constructor; (try cbv))
  refine sel_intro (fun h => ?_) (fun h => ?_)
  ·have h1 : (ieq y1 (0 : Int)) = false := by first | exact (bnot_t.1 h) | (have h2 := (bnot_t.1 h); simp only [choice_lk, lock_eq] at h2; exact h2) | (simp only [choice_lk, lock_eq] at h; exact (bnot_t.1 h))
   rw [if_neg (by rw [h1]; exact Bool.false_ne_true)] at hr
   (try cbv)
   apply Hidden.out
   have e := Option.some.inj hr
   obtain ⟨u0, u1, u2⟩ := r
   simp only [Prod.mk.injEq] at e
   obtain ⟨e0, e1, e2⟩ := e
   constructor
   refine ⟨_, hF, ?_⟩
   (try cbv); (try simp only [choice_lk, lock_eq, and_self, and_true, true_and]); (try first | exact e | exact e.symm | (and_intros <;> first | assumption | rfl | exact Eq.symm (by assumption)))
  ·as_aux_lemma =>
   have h1 : (ieq y1 (0 : Int)) = true := by first | exact (bnot_f.1 h) | (have h2 := (bnot_f.1 h); simp only [choice_lk, lock_eq] at h2; exact h2) | (simp only [choice_lk, lock_eq] at h; exact (bnot_f.1 h))
   rw [if_pos h1] at hr
   (try cbv)
   have hqe : ∃ qq, F_octet_Open t1 = some qq := by
    cases hq : F_octet_Open t1 with
    | none => rw [hq] at hr; cases hr
    | some qq => exact ⟨qq, rfl⟩
   refine ⟨obl.2 (by simp only [choice_lk, lock_eq]; exact hqe), (by rintro (_) _ <;> cbv), ?_⟩
   clear hqe
   intro t2 hx2
   simp only [choice_lk, lock_eq] at hx2
   all_goals (rw [hx2] at hr; dsimp only at hr; constructor; (try cbv))
   have hqe : ∃ qq, F_octet_Window_Num (8 : Int) (0 : Int) t2 = some qq := by
    cases hq : F_octet_Window_Num (8 : Int) (0 : Int) t2 with
    | none => rw [hq] at hr; cases hr
    | some qq => exact ⟨qq, rfl⟩
   refine ⟨obl.2 (by simp only [choice_lk, lock_eq]; exact hqe), (by rintro (⟨_, _, _, _⟩) _ <;> cbv), ?_⟩
   clear hqe
   intro qq hx3
   simp only [choice_lk, lock_eq] at hx3
   rcases qq with ⟨y2, k1, k2, y3⟩
   all_goals (rw [hx3] at hr; dsimp only at hr; constructor; (try cbv))
   have hqe : ∃ qq, F_octet_Window_Num_2 (4 : Int) k1 k2 y3 t2 = some qq := by
    cases hq : F_octet_Window_Num_2 (4 : Int) k1 k2 y3 t2 with
    | none => rw [hq] at hr; cases hr
    | some qq => exact ⟨qq, rfl⟩
   refine ⟨obl.2 (by simp only [choice_lk, lock_eq]; exact hqe), (by rintro (⟨_, _, _, _⟩) _ <;> cbv), ?_⟩
   clear hqe
   intro qq hx4
   simp only [choice_lk, lock_eq] at hx4
   rcases qq with ⟨y4, k3, k4, y5⟩
   all_goals (rw [hx4] at hr; dsimp only at hr; constructor; (try cbv))
   refine sel_intro (fun h => ?_) (fun h => ?_)
   ·have h1 : (ieq y2 (0 : Int)) = true := by first | exact h | (have h2 := h; simp only [choice_lk, lock_eq] at h2; exact h2) | (simp only [choice_lk, lock_eq] at h; exact h)
    rw [if_pos h1] at hr
    (try cbv)
    apply Hidden.out
    have e := Option.some.inj hr
    obtain ⟨u0, u1, u2⟩ := r
    simp only [Prod.mk.injEq] at e
    obtain ⟨e0, e1, e2⟩ := e
    constructor
    refine ⟨_, hF, ?_⟩
    (try cbv); (try simp only [choice_lk, lock_eq, and_self, and_true, true_and]); (try first | exact e | exact e.symm | (and_intros <;> first | assumption | rfl | exact Eq.symm (by assumption)))
   ·as_aux_lemma =>
    have h1 : (ieq y2 (0 : Int)) = false := by first | exact h | (have h2 := h; simp only [choice_lk, lock_eq] at h2; exact h2) | (simp only [choice_lk, lock_eq] at h; exact h)
    rw [if_neg (by rw [h1]; exact Bool.false_ne_true)] at hr
    (try cbv)
    refine sel_intro (fun h => ?_) (fun h => ?_)
    ·have h1 : (ieq (irem y2 (2 : Int)) x1) = false := by first | exact (bnot_t.1 h) | (have h2 := (bnot_t.1 h); simp only [choice_lk, lock_eq] at h2; exact h2) | (simp only [choice_lk, lock_eq] at h; exact (bnot_t.1 h))
     rw [if_neg (by rw [h1]; exact Bool.false_ne_true)] at hr
     (try cbv)
     apply Hidden.out
     have e := Option.some.inj hr
     obtain ⟨u0, u1, u2⟩ := r
     simp only [Prod.mk.injEq] at e
     obtain ⟨e0, e1, e2⟩ := e
     constructor
     refine ⟨_, hF, ?_⟩
     (try cbv); (try simp only [choice_lk, lock_eq, and_self, and_true, true_and]); (try first | exact e | exact e.symm | (and_intros <;> first | assumption | rfl | exact Eq.symm (by assumption)))
    ·as_aux_lemma =>
     have h1 : (ieq (irem y2 (2 : Int)) x1) = true := by first | exact (bnot_f.1 h) | (have h2 := (bnot_f.1 h); simp only [choice_lk, lock_eq] at h2; exact h2) | (simp only [choice_lk, lock_eq] at h; exact (bnot_f.1 h))
     rw [if_pos h1] at hr
     (try cbv)
     refine sel_intro (fun h => ?_) (fun h => ?_)
     ·have h1 : (ilt (8192 : Int) y4) = true := by first | exact h | (have h2 := h; simp only [choice_lk, lock_eq] at h2; exact h2) | (simp only [choice_lk, lock_eq] at h; exact h)
      rw [if_pos h1] at hr
      (try cbv)
      apply Hidden.out
      have e := Option.some.inj hr
      obtain ⟨u0, u1, u2⟩ := r
      simp only [Prod.mk.injEq] at e
      obtain ⟨e0, e1, e2⟩ := e
      constructor
      refine ⟨_, hF, ?_⟩
      (try cbv); (try simp only [choice_lk, lock_eq, and_self, and_true, true_and]); (try first | exact e | exact e.symm | (and_intros <;> first | assumption | rfl | exact Eq.symm (by assumption)))
     ·have h1 : (ilt (8192 : Int) y4) = false := by first | exact h | (have h2 := h; simp only [choice_lk, lock_eq] at h2; exact h2) | (simp only [choice_lk, lock_eq] at h; exact h)
      rw [if_neg (by rw [h1]; exact Bool.false_ne_true)] at hr
      (try cbv)
      have hqe : ∃ qq, F_journal_read x1 (iconv .i64 y4) b1 x2 r1 = some qq := by
       cases hq : F_journal_read x1 (iconv .i64 y4) b1 x2 r1 with
       | none => rw [hq] at hr; cases hr
       | some qq => exact ⟨qq, rfl⟩
      refine ⟨obl.2 (by simp only [choice_lk, lock_eq]; exact hqe), (by rintro (⟨_, _⟩) _ <;> cbv), ?_⟩
      clear hqe
      intro qq hx5
      simp only [choice_lk, lock_eq] at hx5
      rcases qq with ⟨k5, t3⟩
      all_goals (rw [hx5] at hr; dsimp only at hr; constructor; (try cbv))
      have hqe : ∃ qq, F_journal_head y2 0 k5 t3 = some qq := by
       cases hq : F_journal_head y2 0 k5 t3 with
       | none => rw [hq] at hr; cases hr
       | some qq => exact ⟨qq, rfl⟩
      refine ⟨obl.2 (by simp only [choice_lk, lock_eq]; exact hqe), (by rintro (_) _ <;> cbv), ?_⟩
      clear hqe
      intro t4 hx6
      simp only [choice_lk, lock_eq] at hx6
      all_goals (rw [hx6] at hr; dsimp only at hr; constructor; (try cbv))
      have hqe : ∃ qq, F_bytes_Equal t1 t4 = some qq := by
       cases hq : F_bytes_Equal t1 t4 with
       | none => rw [hq] at hr; cases hr
       | some qq => exact ⟨qq, rfl⟩
      refine ⟨obl.2 (by simp only [choice_lk, lock_eq]; exact hqe), (by rintro (_) _ <;> cbv), ?_⟩
      clear hqe
      intro c1 hx7
      simp only [choice_lk, lock_eq] at hx7
      all_goals (rw [hx7] at hr; dsimp only at hr; constructor; (try cbv))
      refine sel_intro (fun h => ?_) (fun h => ?_)
      ·have h1 : c1 = false := by first | exact (bnot_t.1 h) | (have h2 := (bnot_t.1 h); simp only [choice_lk, lock_eq] at h2; exact h2) | (simp only [choice_lk, lock_eq] at h; exact (bnot_t.1 h))
       rw [if_neg (by rw [h1]; exact Bool.false_ne_true)] at hr
       (try cbv)
       apply Hidden.out
       have e := Option.some.inj hr
       obtain ⟨u0, u1, u2⟩ := r
       simp only [Prod.mk.injEq] at e
       obtain ⟨e0, e1, e2⟩ := e
       constructor
       refine ⟨_, hF, ?_⟩
       (try cbv); (try simp only [choice_lk, lock_eq, and_self, and_true, true_and]); (try first | exact e | exact e.symm | (and_intros <;> first | assumption | rfl | exact Eq.symm (by assumption)))
      ·have h1 : c1 = true := by first | exact (bnot_f.1 h) | (have h2 := (bnot_f.1 h); simp only [choice_lk, lock_eq] at h2; exact h2) | (simp only [choice_lk, lock_eq] at h; exact (bnot_f.1 h))
       rw [if_pos h1] at hr
       (try cbv)
       apply Hidden.out
       have e := Option.some.inj hr
       obtain ⟨u0, u1, u2⟩ := r
       simp only [Prod.mk.injEq] at e
       obtain ⟨e0, e1, e2⟩ := e
       constructor
       refine ⟨_, hF, ?_⟩
       (try cbv); (try simp only [choice_lk, lock_eq, and_self, and_true, true_and]); (try first | exact e | exact e.symm | (and_intros <;> first | assumption | rfl | exact Eq.symm (by assumption)))
 ·unfold con_journal_whole_2 at hce
  split at hce
  rotate_left
  ·cases hce
  obtain rfl := Option.some.inj hce
  rename_i x1 b1 x2 r1 x3 x4
  have hb1 := hob _ (List.mem_singleton.2 rfl)
  have hb2 := obl.1 hb1
  clear hb1 hob hce
  refine hb2.elim fun r hF => ?_
  clear hb2
  simp only [List.length_cons, List.length_nil, Nat.zero_add, Nat.reduceAdd] at hk
  have hr : F_journal_whole_2 x1 b1 x2 r1 x3 x4 = some r := by rw [lock_eq] at hF; exact hF
  unfold F_journal_whole_2 at hr
  constructor
  (try cbv)
  have hqe : ∃ qq, F_block_Device_Read_2 (imul .i64 (iconv .i64 x1) (130 : Int)) b1 x2 r1 x3 x4 = some qq := by
   cases hq : F_block_Device_Read_2 (imul .i64 (iconv .i64 x1) (130 : Int)) b1 x2 r1 x3 x4 with
   | none => rw [hq] at hr; cases hr
   | some qq => exact ⟨qq, rfl⟩
  refine ⟨obl.2 (by simp only [choice_lk, lock_eq]; exact hqe), (by rintro (⟨_, _⟩) _ <;> cbv), ?_⟩
  clear hqe
  intro qq hx1
  simp only [choice_lk, lock_eq] at hx1
  rcases qq with ⟨y1, t1⟩
  all_goals (rw [hx1] at hr; dsimp only at hr; constructor; (try cbv))
  refine sel_intro (fun h => ?_) (fun h => ?_)
  ·have h1 : (ieq y1 (0 : Int)) = false := by first | exact (bnot_t.1 h) | (have h2 := (bnot_t.1 h); simp only [choice_lk, lock_eq] at h2; exact h2) | (simp only [choice_lk, lock_eq] at h; exact (bnot_t.1 h))
   rw [if_neg (by rw [h1]; exact Bool.false_ne_true)] at hr
   (try cbv)
   apply Hidden.out
   have e := Option.some.inj hr
   obtain ⟨u0, u1, u2⟩ := r
   simp only [Prod.mk.injEq] at e
   obtain ⟨e0, e1, e2⟩ := e
   constructor
   refine ⟨_, hF, ?_⟩
   (try cbv); (try simp only [choice_lk, lock_eq, and_self, and_true, true_and]); (try first | exact e | exact e.symm | (and_intros <;> first | assumption | rfl | exact Eq.symm (by assumption)))
  ·as_aux_lemma =>
   have h1 : (ieq y1 (0 : Int)) = true := by first | exact (bnot_f.1 h) | (have h2 := (bnot_f.1 h); simp only [choice_lk, lock_eq] at h2; exact h2) | (simp only [choice_lk, lock_eq] at h; exact (bnot_f.1 h))
   rw [if_pos h1] at hr
   (try cbv)
   have hqe : ∃ qq, F_octet_Open t1 = some qq := by
    cases hq : F_octet_Open t1 with
    | none => rw [hq] at hr; cases hr
    | some qq => exact ⟨qq, rfl⟩
   refine ⟨obl.2 (by simp only [choice_lk, lock_eq]; exact hqe), (by rintro (_) _ <;> cbv), ?_⟩
   clear hqe
   intro t2 hx2
   simp only [choice_lk, lock_eq] at hx2
   all_goals (rw [hx2] at hr; dsimp only at hr; constructor; (try cbv))
   have hqe : ∃ qq, F_octet_Window_Num (8 : Int) (0 : Int) t2 = some qq := by
    cases hq : F_octet_Window_Num (8 : Int) (0 : Int) t2 with
    | none => rw [hq] at hr; cases hr
    | some qq => exact ⟨qq, rfl⟩
   refine ⟨obl.2 (by simp only [choice_lk, lock_eq]; exact hqe), (by rintro (⟨_, _, _, _⟩) _ <;> cbv), ?_⟩
   clear hqe
   intro qq hx3
   simp only [choice_lk, lock_eq] at hx3
   rcases qq with ⟨y2, k1, k2, y3⟩
   all_goals (rw [hx3] at hr; dsimp only at hr; constructor; (try cbv))
   have hqe : ∃ qq, F_octet_Window_Num_2 (4 : Int) k1 k2 y3 t2 = some qq := by
    cases hq : F_octet_Window_Num_2 (4 : Int) k1 k2 y3 t2 with
    | none => rw [hq] at hr; cases hr
    | some qq => exact ⟨qq, rfl⟩
   refine ⟨obl.2 (by simp only [choice_lk, lock_eq]; exact hqe), (by rintro (⟨_, _, _, _⟩) _ <;> cbv), ?_⟩
   clear hqe
   intro qq hx4
   simp only [choice_lk, lock_eq] at hx4
   rcases qq with ⟨y4, k3, k4, y5⟩
   all_goals (rw [hx4] at hr; dsimp only at hr; constructor; (try cbv))
   refine sel_intro (fun h => ?_) (fun h => ?_)
   ·have h1 : (ieq y2 (0 : Int)) = true := by first | exact h | (have h2 := h; simp only [choice_lk, lock_eq] at h2; exact h2) | (simp only [choice_lk, lock_eq] at h; exact h)
    rw [if_pos h1] at hr
    (try cbv)
    apply Hidden.out
    have e := Option.some.inj hr
    obtain ⟨u0, u1, u2⟩ := r
    simp only [Prod.mk.injEq] at e
    obtain ⟨e0, e1, e2⟩ := e
    constructor
    refine ⟨_, hF, ?_⟩
    (try cbv); (try simp only [choice_lk, lock_eq, and_self, and_true, true_and]); (try first | exact e | exact e.symm | (and_intros <;> first | assumption | rfl | exact Eq.symm (by assumption)))
   ·as_aux_lemma =>
    have h1 : (ieq y2 (0 : Int)) = false := by first | exact h | (have h2 := h; simp only [choice_lk, lock_eq] at h2; exact h2) | (simp only [choice_lk, lock_eq] at h; exact h)
    rw [if_neg (by rw [h1]; exact Bool.false_ne_true)] at hr
    (try cbv)
    refine sel_intro (fun h => ?_) (fun h => ?_)
    ·have h1 : (ieq (irem y2 (2 : Int)) x1) = false := by first | exact (bnot_t.1 h) | (have h2 := (bnot_t.1 h); simp only [choice_lk, lock_eq] at h2; exact h2) | (simp only [choice_lk, lock_eq] at h; exact (bnot_t.1 h))
     rw [if_neg (by rw [h1]; exact Bool.false_ne_true)] at hr
     (try cbv)
     apply Hidden.out
     have e := Option.some.inj hr
     obtain ⟨u0, u1, u2⟩ := r
     simp only [Prod.mk.injEq] at e
     obtain ⟨e0, e1, e2⟩ := e
     constructor
     refine ⟨_, hF, ?_⟩
     (try cbv); (try simp only [choice_lk, lock_eq, and_self, and_true, true_and]); (try first | exact e | exact e.symm | (and_intros <;> first | assumption | rfl | exact Eq.symm (by assumption)))
    ·as_aux_lemma =>
     have h1 : (ieq (irem y2 (2 : Int)) x1) = true := by first | exact (bnot_f.1 h) | (have h2 := (bnot_f.1 h); simp only [choice_lk, lock_eq] at h2; exact h2) | (simp only [choice_lk, lock_eq] at h; exact (bnot_f.1 h))
     rw [if_pos h1] at hr
     (try cbv)
     refine sel_intro (fun h => ?_) (fun h => ?_)
     ·have h1 : (ilt (8192 : Int) y4) = true := by first | exact h | (have h2 := h; simp only [choice_lk, lock_eq] at h2; exact h2) | (simp only [choice_lk, lock_eq] at h; exact h)
      rw [if_pos h1] at hr
      (try cbv)
      apply Hidden.out
      have e := Option.some.inj hr
      obtain ⟨u0, u1, u2⟩ := r
      simp only [Prod.mk.injEq] at e
      obtain ⟨e0, e1, e2⟩ := e
      constructor
      refine ⟨_, hF, ?_⟩
      (try cbv); (try simp only [choice_lk, lock_eq, and_self, and_true, true_and]); (try first | exact e | exact e.symm | (and_intros <;> first | assumption | rfl | exact Eq.symm (by assumption)))
     ·have h1 : (ilt (8192 : Int) y4) = false := by first | exact h | (have h2 := h; simp only [choice_lk, lock_eq] at h2; exact h2) | (simp only [choice_lk, lock_eq] at h; exact h)
      rw [if_neg (by rw [h1]; exact Bool.false_ne_true)] at hr
      (try cbv)
      have hqe : ∃ qq, F_journal_read_2 x1 (iconv .i64 y4) b1 x2 r1 x3 x4 = some qq := by
       cases hq : F_journal_read_2 x1 (iconv .i64 y4) b1 x2 r1 x3 x4 with
       | none => rw [hq] at hr; cases hr
       | some qq => exact ⟨qq, rfl⟩
      refine ⟨obl.2 (by simp only [choice_lk, lock_eq]; exact hqe), (by rintro (⟨_, _⟩) _ <;> cbv), ?_⟩
      clear hqe
      intro qq hx5
      simp only [choice_lk, lock_eq] at hx5
      rcases qq with ⟨k5, t3⟩
      all_goals (rw [hx5] at hr; dsimp only at hr; constructor; (try cbv))
      have hqe : ∃ qq, F_journal_head y2 0 k5 t3 = some qq := by
       cases hq : F_journal_head y2 0 k5 t3 with
       | none => rw [hq] at hr; cases hr
       | some qq => exact ⟨qq, rfl⟩
      refine ⟨obl.2 (by simp only [choice_lk, lock_eq]; exact hqe), (by rintro (_) _ <;> cbv), ?_⟩
      clear hqe
      intro t4 hx6
      simp only [choice_lk, lock_eq] at hx6
      all_goals (rw [hx6] at hr; dsimp only at hr; constructor; (try cbv))
      have hqe : ∃ qq, F_bytes_Equal t1 t4 = some qq := by
       cases hq : F_bytes_Equal t1 t4 with
       | none => rw [hq] at hr; cases hr
       | some qq => exact ⟨qq, rfl⟩
      refine ⟨obl.2 (by simp only [choice_lk, lock_eq]; exact hqe), (by rintro (_) _ <;> cbv), ?_⟩
      clear hqe
      intro c1 hx7
      simp only [choice_lk, lock_eq] at hx7
      all_goals (rw [hx7] at hr; dsimp only at hr; constructor; (try cbv))
      refine sel_intro (fun h => ?_) (fun h => ?_)
      ·have h1 : c1 = false := by first | exact (bnot_t.1 h) | (have h2 := (bnot_t.1 h); simp only [choice_lk, lock_eq] at h2; exact h2) | (simp only [choice_lk, lock_eq] at h; exact (bnot_t.1 h))
       rw [if_neg (by rw [h1]; exact Bool.false_ne_true)] at hr
       (try cbv)
       apply Hidden.out
       have e := Option.some.inj hr
       obtain ⟨u0, u1, u2⟩ := r
       simp only [Prod.mk.injEq] at e
       obtain ⟨e0, e1, e2⟩ := e
       constructor
       refine ⟨_, hF, ?_⟩
       (try cbv); (try simp only [choice_lk, lock_eq, and_self, and_true, true_and]); (try first | exact e | exact e.symm | (and_intros <;> first | assumption | rfl | exact Eq.symm (by assumption)))
      ·have h1 : c1 = true := by first | exact (bnot_f.1 h) | (have h2 := (bnot_f.1 h); simp only [choice_lk, lock_eq] at h2; exact h2) | (simp only [choice_lk, lock_eq] at h; exact (bnot_f.1 h))
       rw [if_pos h1] at hr
       (try cbv)
       apply Hidden.out
       have e := Option.some.inj hr
       obtain ⟨u0, u1, u2⟩ := r
       simp only [Prod.mk.injEq] at e
       obtain ⟨e0, e1, e2⟩ := e
       constructor
       refine ⟨_, hF, ?_⟩
       (try cbv); (try simp only [choice_lk, lock_eq, and_self, and_true, true_and]); (try first | exact e | exact e.symm | (and_intros <;> first | assumption | rfl | exact Eq.symm (by assumption)))
end Go.Proofs.YtbkcmpggacbikaaDoor
end
section
/-
  The walk of tollbar/journal.Load (printed by a program of ours).
-/
set_option linter.unusedVariables false
set_option linter.unusedSimpArgs false
namespace Go.Proofs.YtbkcmpggacbikaaDoor
open Go.RowKit
noncomputable def tab_journal_Load : Nat → Option Con := look [(25, con_block_Device_Blocks), (26, con_block_Device_Down), (27, con_journal_whole)]
set_option maxHeartbeats 20000000 in
set_option maxRecDepth 100000 in
theorem vc_journal_Load (P : Program) (T : Tab P tab_journal_Load) (hm : P.follows .mixedOrders = true) : FnVC P tab_journal_Load ic_11 [.t 2, .t 3, .t 4] 39 con_journal_Load := by
 intro cargs ccks ce hce hob C hk
 apply Hidden.out
 replace hce : altC (con_journal_Load_1 cargs ccks) (altC (con_journal_Load_2 cargs ccks) (con_journal_Load_3 cargs ccks)) = some ce := hce
 replace hce := altC_inv hce
 rcases hce with hce | hce
 ·unfold con_journal_Load_1 at hce
  split at hce
  rotate_left
  ·cases hce
  obtain rfl := Option.some.inj hce
  rename_i b1 x1 r1
  have hb1 := hob _ (List.mem_singleton.2 rfl)
  have hb2 := obl.1 hb1
  clear hb1 hob hce
  refine hb2.elim fun r hF => ?_
  clear hb2
  simp only [List.length_cons, List.length_nil, Nat.zero_add, Nat.reduceAdd] at hk
  have hr : F_journal_Load b1 x1 r1 = some r := by rw [lock_eq] at hF; exact hF
  unfold F_journal_Load at hr
  constructor
  (try cbv)
  have hqe : ∃ qq, F_block_Device_Blocks b1 x1 r1 = some qq := by
   cases hq : F_block_Device_Blocks b1 x1 r1 with
   | none => rw [hq] at hr; cases hr
   | some qq => exact ⟨qq, rfl⟩
  refine ⟨obl.2 (by simp only [choice_lk, lock_eq]; exact hqe), (by rintro (_) _ <;> cbv), ?_⟩
  clear hqe
  intro y1 hx1
  simp only [choice_lk, lock_eq] at hx1
  all_goals (rw [hx1] at hr; dsimp only at hr; constructor; (try cbv))
  refine sel_intro (fun h => ?_) (fun h => ?_)
  ·have h1 : (ilt y1 (260 : Int)) = true := by first | exact h | (have h2 := h; simp only [choice_lk, lock_eq] at h2; exact h2) | (simp only [choice_lk, lock_eq] at h; exact h)
   rw [if_pos h1] at hr
   (try cbv)
   apply Hidden.out
   have e := Option.some.inj hr
   obtain ⟨u0, u1, u2, u3⟩ := r
   simp only [Prod.mk.injEq] at e
   obtain ⟨e0, e1, e2, e3⟩ := e
   constructor
   refine ⟨_, hF, ?_⟩
   (try cbv); (try simp only [choice_lk, lock_eq, and_self, and_true, true_and]); (try first | exact e | exact e.symm | (and_intros <;> first | assumption | rfl | exact Eq.symm (by assumption)))
  ·as_aux_lemma =>
   have h1 : (ilt y1 (260 : Int)) = false := by first | exact h | (have h2 := h; simp only [choice_lk, lock_eq] at h2; exact h2) | (simp only [choice_lk, lock_eq] at h; exact h)
   rw [if_neg (by rw [h1]; exact Bool.false_ne_true)] at hr
   (try cbv)
   have hqe : ∃ qq, F_block_Device_Down b1 x1 r1 = some qq := by
    cases hq : F_block_Device_Down b1 x1 r1 with
    | none => rw [hq] at hr; cases hr
    | some qq => exact ⟨qq, rfl⟩
   refine ⟨obl.2 (by simp only [choice_lk, lock_eq]; exact hqe), (by rintro (_) _ <;> cbv), ?_⟩
   clear hqe
   intro qq hx2
   simp only [choice_lk, lock_eq] at hx2
   rcases qq with _
   all_goals (rw [hx2] at hr; dsimp only at hr; constructor; (try cbv))
   refine sel_intro (fun h => ?_) (fun h => ?_)
   ·have h1 : b1 = true := by first | exact h | (have h2 := h; simp only [choice_lk, lock_eq] at h2; exact h2) | (simp only [choice_lk, lock_eq] at h; exact h)
    rw [if_pos h1] at hr
    (try cbv)
    apply Hidden.out
    have e := Option.some.inj hr
    obtain ⟨u0, u1, u2, u3⟩ := r
    simp only [Prod.mk.injEq] at e
    obtain ⟨e0, e1, e2, e3⟩ := e
    constructor
    refine ⟨_, hF, ?_⟩
    (try cbv); (try simp only [choice_lk, lock_eq, and_self, and_true, true_and]); (try first | exact e | exact e.symm | (and_intros <;> first | assumption | rfl | exact Eq.symm (by assumption)))
   ·as_aux_lemma =>
    have h1 : b1 = false := by first | exact h | (have h2 := h; simp only [choice_lk, lock_eq] at h2; exact h2) | (simp only [choice_lk, lock_eq] at h; exact h)
    rw [if_neg (by rw [h1]; exact Bool.false_ne_true)] at hr
    (try cbv)
    have hqe : ∃ qq, F_journal_whole (0 : Int) b1 x1 r1 = some qq := by
     cases hq : F_journal_whole (0 : Int) b1 x1 r1 with
     | none => rw [hq] at hr; cases hr
     | some qq => exact ⟨qq, rfl⟩
    refine ⟨obl.2 (by simp only [choice_lk, lock_eq]; exact hqe), (by rintro (⟨_, _, _⟩) _ <;> cbv), ?_⟩
    clear hqe
    intro qq hx3
    simp only [choice_lk, lock_eq] at hx3
    rcases qq with ⟨k1, y2, t1⟩
    all_goals (rw [hx3] at hr; dsimp only at hr; constructor; (try cbv))
    have hqe : ∃ qq, F_journal_whole (1 : Int) b1 x1 r1 = some qq := by
     cases hq : F_journal_whole (1 : Int) b1 x1 r1 with
     | none => rw [hq] at hr; cases hr
     | some qq => exact ⟨qq, rfl⟩
    refine ⟨obl.2 (by simp only [choice_lk, lock_eq]; exact hqe), (by rintro (⟨_, _, _⟩) _ <;> cbv), ?_⟩
    clear hqe
    intro qq hx4
    simp only [choice_lk, lock_eq] at hx4
    rcases qq with ⟨k2, y3, t2⟩
    all_goals (rw [hx4] at hr; dsimp only at hr; constructor; (try cbv))
    refine sel_intro (fun h => ?_) (fun h => ?_)
    ·have h1 : (ieq y2 (0 : Int)) = true := by first | exact h | (have h2 := h; simp only [choice_lk, lock_eq] at h2; exact h2) | (simp only [choice_lk, lock_eq] at h; exact h)
     rw [if_pos h1] at hr
     (try cbv)
     refine sel_intro (fun h => ?_) (fun h => ?_)
     ·have h1 : (ieq y3 (0 : Int)) = true := by first | exact h | (have h2 := h; simp only [choice_lk, lock_eq] at h2; exact h2) | (simp only [choice_lk, lock_eq] at h; exact h)
      rw [if_pos h1] at hr
      (try cbv)
      apply Hidden.out
      have e := Option.some.inj hr
      obtain ⟨u0, u1, u2, u3⟩ := r
      simp only [Prod.mk.injEq] at e
      obtain ⟨e0, e1, e2, e3⟩ := e
      constructor
      refine ⟨_, hF, ?_⟩
      (try cbv); (try simp only [choice_lk, lock_eq, and_self, and_true, true_and]); (try first | exact e | exact e.symm | (and_intros <;> first | assumption | rfl | exact Eq.symm (by assumption)))
     ·have h1 : (ieq y3 (0 : Int)) = false := by first | exact h | (have h2 := h; simp only [choice_lk, lock_eq] at h2; exact h2) | (simp only [choice_lk, lock_eq] at h; exact h)
      rw [if_neg (by rw [h1]; exact Bool.false_ne_true)] at hr
      (try cbv)
      refine sel_intro (fun h => ?_) (fun h => ?_)
      ·have h1 : (ilt y3 y2) = true := by first | exact h | (have h2 := h; simp only [choice_lk, lock_eq] at h2; exact h2) | (simp only [choice_lk, lock_eq] at h; exact h)
       rw [if_pos h1] at hr
       (try cbv)
       apply Hidden.out
       have e := Option.some.inj hr
       obtain ⟨u0, u1, u2, u3⟩ := r
       simp only [Prod.mk.injEq] at e
       obtain ⟨e0, e1, e2, e3⟩ := e
       constructor
       refine ⟨_, hF, ?_⟩
       (try cbv); (try simp only [choice_lk, lock_eq, and_self, and_true, true_and]); (try first | exact e | exact e.symm | (and_intros <;> first | assumption | rfl | exact Eq.symm (by assumption)))
      ·have h1 : (ilt y3 y2) = false := by first | exact h | (have h2 := h; simp only [choice_lk, lock_eq] at h2; exact h2) | (simp only [choice_lk, lock_eq] at h; exact h)
       rw [if_neg (by rw [h1]; exact Bool.false_ne_true)] at hr
       (try cbv)
       apply Hidden.out
       have e := Option.some.inj hr
       obtain ⟨u0, u1, u2, u3⟩ := r
       simp only [Prod.mk.injEq] at e
       obtain ⟨e0, e1, e2, e3⟩ := e
       constructor
       refine ⟨_, hF, ?_⟩
       (try cbv); (try simp only [choice_lk, lock_eq, and_self, and_true, true_and]); (try first | exact e | exact e.symm | (and_intros <;> first | assumption | rfl | exact Eq.symm (by assumption)))
    ·have h1 : (ieq y2 (0 : Int)) = false := by first | exact h | (have h2 := h; simp only [choice_lk, lock_eq] at h2; exact h2) | (simp only [choice_lk, lock_eq] at h; exact h)
     rw [if_neg (by rw [h1]; exact Bool.false_ne_true)] at hr
     (try cbv)
     refine sel_intro (fun h => ?_) (fun h => ?_)
     ·have h1 : (ilt y3 y2) = true := by first | exact h | (have h2 := h; simp only [choice_lk, lock_eq] at h2; exact h2) | (simp only [choice_lk, lock_eq] at h; exact h)
      rw [if_pos h1] at hr
      (try cbv)
      apply Hidden.out
      have e := Option.some.inj hr
      obtain ⟨u0, u1, u2, u3⟩ := r
      simp only [Prod.mk.injEq] at e
      obtain ⟨e0, e1, e2, e3⟩ := e
      constructor
      refine ⟨_, hF, ?_⟩
      (try cbv); (try simp only [choice_lk, lock_eq, and_self, and_true, true_and]); (try first | exact e | exact e.symm | (and_intros <;> first | assumption | rfl | exact Eq.symm (by assumption)))
     ·have h1 : (ilt y3 y2) = false := by first | exact h | (have h2 := h; simp only [choice_lk, lock_eq] at h2; exact h2) | (simp only [choice_lk, lock_eq] at h; exact h)
      rw [if_neg (by rw [h1]; exact Bool.false_ne_true)] at hr
      (try cbv)
      apply Hidden.out
      have e := Option.some.inj hr
      obtain ⟨u0, u1, u2, u3⟩ := r
      simp only [Prod.mk.injEq] at e
      obtain ⟨e0, e1, e2, e3⟩ := e
      constructor
      refine ⟨_, hF, ?_⟩
      (try cbv); (try simp only [choice_lk, lock_eq, and_self, and_true, true_and]); (try first | exact e | exact e.symm | (and_intros <;> first | assumption | rfl | exact Eq.symm (by assumption)))
 replace hce := altC_inv hce
 rcases hce with hce | hce
 ·unfold con_journal_Load_2 at hce
  split at hce
  rotate_left
  ·cases hce
  obtain rfl := Option.some.inj hce
  have hb1 := hob _ (List.mem_singleton.2 rfl)
  have hb2 := obl.1 hb1
  clear hb1 hob hce
  refine hb2.elim fun r hF => ?_
  clear hb2
  simp only [List.length_cons, List.length_nil, Nat.zero_add, Nat.reduceAdd] at hk
  have hr : F_journal_Load_2 = some r := by rw [lock_eq] at hF; exact hF
  unfold F_journal_Load_2 at hr
  constructor
  (try cbv)
  have hqe : ∃ qq, F_block_Device_Blocks_2 = some qq := by
   cases hq : F_block_Device_Blocks_2 with
   | none => rw [hq] at hr; cases hr
   | some qq => exact ⟨qq, rfl⟩
  refine ⟨obl.2 (by simp only [choice_lk, lock_eq]; exact hqe), (by rintro (_) _ <;> cbv), ?_⟩
  clear hqe
  intro qq hx1
  simp only [choice_lk, lock_eq] at hx1
  rcases qq with _
  all_goals (rw [hx1] at hr; dsimp only at hr; constructor; (try cbv))
  refine sel_intro (fun h => ?_) (fun h => ?_)
  ·have h1 : (ilt (0 : Int) (260 : Int)) = true := by first | exact h | (have h2 := h; simp only [choice_lk, lock_eq] at h2; exact h2) | (simp only [choice_lk, lock_eq] at h; exact h)
   rw [if_pos h1] at hr
   (try cbv)
   apply Hidden.out
   have e := Option.some.inj hr
   constructor
   refine ⟨_, hF, ?_⟩
   (try cbv); (try simp only [choice_lk, lock_eq, and_self, and_true, true_and]); (try first | exact e | exact e.symm | (and_intros <;> first | assumption | rfl | exact Eq.symm (by assumption)))
  ·have h1 : (ilt (0 : Int) (260 : Int)) = false := by first | exact h | (have h2 := h; simp only [choice_lk, lock_eq] at h2; exact h2) | (simp only [choice_lk, lock_eq] at h; exact h)
   rw [if_neg (by rw [h1]; exact Bool.false_ne_true)] at hr
   (try cbv)
   cases hr
 ·unfold con_journal_Load_3 at hce
  split at hce
  rotate_left
  ·cases hce
  obtain rfl := Option.some.inj hce
  rename_i b1 x1 r1 x2 x3
  have hb1 := hob _ (List.mem_singleton.2 rfl)
  have hb2 := obl.1 hb1
  clear hb1 hob hce
  refine hb2.elim fun r hF => ?_
  clear hb2
  simp only [List.length_cons, List.length_nil, Nat.zero_add, Nat.reduceAdd] at hk
  have hr : F_journal_Load_3 b1 x1 r1 x2 x3 = some r := by rw [lock_eq] at hF; exact hF
  unfold F_journal_Load_3 at hr
  constructor
  (try cbv)
  have hqe : ∃ qq, F_block_Device_Blocks_3 b1 x1 r1 x2 x3 = some qq := by
   cases hq : F_block_Device_Blocks_3 b1 x1 r1 x2 x3 with
   | none => rw [hq] at hr; cases hr
   | some qq => exact ⟨qq, rfl⟩
  refine ⟨obl.2 (by simp only [choice_lk, lock_eq]; exact hqe), (by rintro (_) _ <;> cbv), ?_⟩
  clear hqe
  intro y1 hx1
  simp only [choice_lk, lock_eq] at hx1
  all_goals (rw [hx1] at hr; dsimp only at hr; constructor; (try cbv))
  refine sel_intro (fun h => ?_) (fun h => ?_)
  ·have h1 : (ilt y1 (260 : Int)) = true := by first | exact h | (have h2 := h; simp only [choice_lk, lock_eq] at h2; exact h2) | (simp only [choice_lk, lock_eq] at h; exact h)
   rw [if_pos h1] at hr
   (try cbv)
   apply Hidden.out
   have e := Option.some.inj hr
   obtain ⟨u0, u1, u2, u3⟩ := r
   simp only [Prod.mk.injEq] at e
   obtain ⟨e0, e1, e2, e3⟩ := e
   constructor
   refine ⟨_, hF, ?_⟩
   (try cbv); (try simp only [choice_lk, lock_eq, and_self, and_true, true_and]); (try first | exact e | exact e.symm | (and_intros <;> first | assumption | rfl | exact Eq.symm (by assumption)))
  ·as_aux_lemma =>
   have h1 : (ilt y1 (260 : Int)) = false := by first | exact h | (have h2 := h; simp only [choice_lk, lock_eq] at h2; exact h2) | (simp only [choice_lk, lock_eq] at h; exact h)
   rw [if_neg (by rw [h1]; exact Bool.false_ne_true)] at hr
   (try cbv)
   have hqe : ∃ qq, F_block_Device_Down_2 b1 x1 r1 x2 x3 = some qq := by
    cases hq : F_block_Device_Down_2 b1 x1 r1 x2 x3 with
    | none => rw [hq] at hr; cases hr
    | some qq => exact ⟨qq, rfl⟩
   refine ⟨obl.2 (by simp only [choice_lk, lock_eq]; exact hqe), (by rintro (_) _ <;> cbv), ?_⟩
   clear hqe
   intro qq hx2
   simp only [choice_lk, lock_eq] at hx2
   rcases qq with _
   all_goals (rw [hx2] at hr; dsimp only at hr; constructor; (try cbv))
   refine sel_intro (fun h => ?_) (fun h => ?_)
   ·have h1 : b1 = true := by first | exact h | (have h2 := h; simp only [choice_lk, lock_eq] at h2; exact h2) | (simp only [choice_lk, lock_eq] at h; exact h)
    rw [if_pos h1] at hr
    (try cbv)
    apply Hidden.out
    have e := Option.some.inj hr
    obtain ⟨u0, u1, u2, u3⟩ := r
    simp only [Prod.mk.injEq] at e
    obtain ⟨e0, e1, e2, e3⟩ := e
    constructor
    refine ⟨_, hF, ?_⟩
    (try cbv); (try simp only [choice_lk, lock_eq, and_self, and_true, true_and]); (try first | exact e | exact e.symm | (and_intros <;> first | assumption | rfl | exact Eq.symm (by assumption)))
   ·as_aux_lemma =>
    have h1 : b1 = false := by first | exact h | (have h2 := h; simp only [choice_lk, lock_eq] at h2; exact h2) | (simp only [choice_lk, lock_eq] at h; exact h)
    rw [if_neg (by rw [h1]; exact Bool.false_ne_true)] at hr
    (try cbv)
    have hqe : ∃ qq, F_journal_whole_2 (0 : Int) b1 x1 r1 x2 x3 = some qq := by
     cases hq : F_journal_whole_2 (0 : Int) b1 x1 r1 x2 x3 with
     | none => rw [hq] at hr; cases hr
     | some qq => exact ⟨qq, rfl⟩
    refine ⟨obl.2 (by simp only [choice_lk, lock_eq]; exact hqe), (by rintro (⟨_, _, _⟩) _ <;> cbv), ?_⟩
    clear hqe
    intro qq hx3
    simp only [choice_lk, lock_eq] at hx3
    rcases qq with ⟨k1, y2, t1⟩
    all_goals (rw [hx3] at hr; dsimp only at hr; constructor; (try cbv))
    have hqe : ∃ qq, F_journal_whole_2 (1 : Int) b1 x1 r1 x2 x3 = some qq := by
     cases hq : F_journal_whole_2 (1 : Int) b1 x1 r1 x2 x3 with
     | none => rw [hq] at hr; cases hr
     | some qq => exact ⟨qq, rfl⟩
    refine ⟨obl.2 (by simp only [choice_lk, lock_eq]; exact hqe), (by rintro (⟨_, _, _⟩) _ <;> cbv), ?_⟩
    clear hqe
    intro qq hx4
    simp only [choice_lk, lock_eq] at hx4
    rcases qq with ⟨k2, y3, t2⟩
    all_goals (rw [hx4] at hr; dsimp only at hr; constructor; (try cbv))
    refine sel_intro (fun h => ?_) (fun h => ?_)
    ·have h1 : (ieq y2 (0 : Int)) = true := by first | exact h | (have h2 := h; simp only [choice_lk, lock_eq] at h2; exact h2) | (simp only [choice_lk, lock_eq] at h; exact h)
     rw [if_pos h1] at hr
     (try cbv)
     refine sel_intro (fun h => ?_) (fun h => ?_)
     ·have h1 : (ieq y3 (0 : Int)) = true := by first | exact h | (have h2 := h; simp only [choice_lk, lock_eq] at h2; exact h2) | (simp only [choice_lk, lock_eq] at h; exact h)
      rw [if_pos h1] at hr
      (try cbv)
      apply Hidden.out
      have e := Option.some.inj hr
      obtain ⟨u0, u1, u2, u3⟩ := r
      simp only [Prod.mk.injEq] at e
      obtain ⟨e0, e1, e2, e3⟩ := e
      constructor
      refine ⟨_, hF, ?_⟩
      (try cbv); (try simp only [choice_lk, lock_eq, and_self, and_true, true_and]); (try first | exact e | exact e.symm | (and_intros <;> first | assumption | rfl | exact Eq.symm (by assumption)))
     ·have h1 : (ieq y3 (0 : Int)) = false := by first | exact h | (have h2 := h; simp only [choice_lk, lock_eq] at h2; exact h2) | (simp only [choice_lk, lock_eq] at h; exact h)
      rw [if_neg (by rw [h1]; exact Bool.false_ne_true)] at hr
      (try cbv)
      refine sel_intro (fun h => ?_) (fun h => ?_)
      ·have h1 : (ilt y3 y2) = true := by first | exact h | (have h2 := h; simp only [choice_lk, lock_eq] at h2; exact h2) | (simp only [choice_lk, lock_eq] at h; exact h)
       rw [if_pos h1] at hr
       (try cbv)
       apply Hidden.out
       have e := Option.some.inj hr
       obtain ⟨u0, u1, u2, u3⟩ := r
       simp only [Prod.mk.injEq] at e
       obtain ⟨e0, e1, e2, e3⟩ := e
       constructor
       refine ⟨_, hF, ?_⟩
       (try cbv); (try simp only [choice_lk, lock_eq, and_self, and_true, true_and]); (try first | exact e | exact e.symm | (and_intros <;> first | assumption | rfl | exact Eq.symm (by assumption)))
      ·have h1 : (ilt y3 y2) = false := by first | exact h | (have h2 := h; simp only [choice_lk, lock_eq] at h2; exact h2) | (simp only [choice_lk, lock_eq] at h; exact h)
       rw [if_neg (by rw [h1]; exact Bool.false_ne_true)] at hr
       (try cbv)
       apply Hidden.out
       have e := Option.some.inj hr
       obtain ⟨u0, u1, u2, u3⟩ := r
       simp only [Prod.mk.injEq] at e
       obtain ⟨e0, e1, e2, e3⟩ := e
       constructor
       refine ⟨_, hF, ?_⟩
       (try cbv); (try simp only [choice_lk, lock_eq, and_self, and_true, true_and]); (try first | exact e | exact e.symm | (and_intros <;> first | assumption | rfl | exact Eq.symm (by assumption)))
    ·have h1 : (ieq y2 (0 : Int)) = false := by first | exact h | (have h2 := h; simp only [choice_lk, lock_eq] at h2; exact h2) | (simp only [choice_lk, lock_eq] at h; exact h)
     rw [if_neg (by rw [h1]; exact Bool.false_ne_true)] at hr
     (try cbv)
     refine sel_intro (fun h => ?_) (fun h => ?_)
     ·have h1 : (ilt y3 y2) = true := by first | exact h | (have h2 := h; simp only [choice_lk, lock_eq] at h2; exact h2) | (simp only [choice_lk, lock_eq] at h; exact h)
      rw [if_pos h1] at hr
      (try cbv)
      apply Hidden.out
      have e := Option.some.inj hr
      obtain ⟨u0, u1, u2, u3⟩ := r
      simp only [Prod.mk.injEq] at e
      obtain ⟨e0, e1, e2, e3⟩ := e
      constructor
      refine ⟨_, hF, ?_⟩
      (try cbv); (try simp only [choice_lk, lock_eq, and_self, and_true, true_and]); (try first | exact e | exact e.symm | (and_intros <;> first | assumption | rfl | exact Eq.symm (by assumption)))
     ·have h1 : (ilt y3 y2) = false := by first | exact h | (have h2 := h; simp only [choice_lk, lock_eq] at h2; exact h2) | (simp only [choice_lk, lock_eq] at h; exact h)
      rw [if_neg (by rw [h1]; exact Bool.false_ne_true)] at hr
      (try cbv)
      apply Hidden.out
      have e := Option.some.inj hr
      obtain ⟨u0, u1, u2, u3⟩ := r
      simp only [Prod.mk.injEq] at e
      obtain ⟨e0, e1, e2, e3⟩ := e
      constructor
      refine ⟨_, hF, ?_⟩
      (try cbv); (try simp only [choice_lk, lock_eq, and_self, and_true, true_and]); (try first | exact e | exact e.symm | (and_intros <;> first | assumption | rfl | exact Eq.symm (by assumption)))
end Go.Proofs.YtbkcmpggacbikaaDoor
end
section
/-
  The walk of tollbar/journal.blocks (printed by a program of ours).
-/
set_option linter.unusedVariables false
set_option linter.unusedSimpArgs false
namespace Go.Proofs.YtbkcmpggacbikaaDoor
open Go.RowKit
noncomputable def tab_journal_blocks : Nat → Option Con := look []
set_option maxHeartbeats 20000000 in
set_option maxRecDepth 100000 in
theorem vc_journal_blocks (P : Program) (T : Tab P tab_journal_blocks) (hm : P.follows .mixedOrders = true) : FnVC P tab_journal_blocks ic_23 [.t 4] 6 con_journal_blocks := by
 intro cargs ccks ce hce hob C hk
 apply Hidden.out
 replace hce : con_journal_blocks_1 cargs ccks = some ce := hce
 ·unfold con_journal_blocks_1 at hce
  split at hce
  rotate_left
  ·cases hce
  obtain rfl := Option.some.inj hce
  rename_i x1 s1
  have hb1 := hob _ (List.mem_singleton.2 rfl)
  have hb2 := obl.1 hb1
  clear hb1 hob hce
  refine hb2.elim fun r hF => ?_
  clear hb2
  simp only [List.length_cons, List.length_nil, Nat.zero_add, Nat.reduceAdd] at hk
  have hr : F_journal_blocks x1 s1 = some r := by rw [lock_eq] at hF; exact hF
  unfold F_journal_blocks at hr
  constructor
  (try cbv)
  apply Hidden.out
  have e := Option.some.inj hr
  constructor
  refine ⟨_, hF, ?_⟩
  (try cbv); (try simp only [choice_lk, lock_eq, and_self, and_true, true_and]); (try first | exact e | exact e.symm | (and_intros <;> first | assumption | rfl | exact Eq.symm (by assumption)))
end Go.Proofs.YtbkcmpggacbikaaDoor
end
section
/-
  The walk of (*tollbar/block.Device).Write (printed by a program of ours).
-/
set_option linter.unusedVariables false
set_option linter.unusedSimpArgs false
namespace Go.Proofs.YtbkcmpggacbikaaDoor
open Go.RowKit
noncomputable def tab_block_Device_Write : Nat → Option Con := look [(24, con_block_Device_may)]
set_option maxHeartbeats 20000000 in
set_option maxRecDepth 100000 in
theorem vc_block_Device_Write (P : Program) (T : Tab P tab_block_Device_Write) (hm : P.follows .mixedOrders = true) : FnVC P tab_block_Device_Write ic_10 [.t 6] 86 con_block_Device_Write := by
 intro cargs ccks ce hce hob C hk
 apply Hidden.out
 replace hce : altC (con_block_Device_Write_1 cargs ccks) (altC (con_block_Device_Write_2 cargs ccks) (con_block_Device_Write_3 cargs ccks)) = some ce := hce
 replace hce := altC_inv hce
 rcases hce with hce | hce
 ·unfold con_block_Device_Write_1 at hce
  split at hce
  rotate_left
  ·cases hce
  obtain rfl := Option.some.inj hce
  rename_i x1 s1 b1 x2 r1
  have hb1 := hob _ (List.mem_singleton.2 rfl)
  have hb2 := obl.1 hb1
  clear hb1 hob hce
  refine hb2.elim fun r hF => ?_
  clear hb2
  simp only [List.length_cons, List.length_nil, Nat.zero_add, Nat.reduceAdd] at hk
  have hr : F_block_Device_Write x1 s1 b1 x2 r1 = some r := by rw [lock_eq] at hF; exact hF
  unfold F_block_Device_Write at hr
  constructor
  (try cbv)
  have hqe : ∃ qq, F_block_Device_may x1 b1 x2 r1 = some qq := by
   cases hq : F_block_Device_may x1 b1 x2 r1 with
   | none => rw [hq] at hr; cases hr
   | some qq => exact ⟨qq, rfl⟩
  refine ⟨obl.2 (by simp only [choice_lk, lock_eq]; exact hqe), (by rintro (_) _ <;> cbv), ?_⟩
  clear hqe
  intro y1 hx1
  simp only [choice_lk, lock_eq] at hx1
  all_goals (rw [hx1] at hr; dsimp only at hr; constructor; (try cbv))
  refine sel_intro (fun h => ?_) (fun h => ?_)
  ·have h1 : (ieq y1 (0 : Int)) = false := by first | exact (bnot_t.1 h) | (have h2 := (bnot_t.1 h); simp only [choice_lk, lock_eq] at h2; exact h2) | (simp only [choice_lk, lock_eq] at h; exact (bnot_t.1 h))
   rw [if_neg (by rw [h1]; exact Bool.false_ne_true)] at hr
   (try cbv)
   apply Hidden.out
   have e := Option.some.inj hr
   obtain ⟨u0, u1, u2⟩ := r
   simp only [Prod.mk.injEq] at e
   obtain ⟨e0, e1, e2⟩ := e
   constructor
   refine ⟨_, hF, ?_⟩
   (try cbv); (try simp only [choice_lk, lock_eq, and_self, and_true, true_and]); (try first | exact e | exact e.symm | (and_intros <;> first | assumption | rfl | exact Eq.symm (by assumption)))
  ·have h1 : (ieq y1 (0 : Int)) = true := by first | exact (bnot_f.1 h) | (have h2 := (bnot_f.1 h); simp only [choice_lk, lock_eq] at h2; exact h2) | (simp only [choice_lk, lock_eq] at h; exact (bnot_f.1 h))
   rw [if_pos h1] at hr
   (try cbv)
   refine sel_intro (fun h => ?_) (fun h => ?_)
   ·have h1 : (ieq (ofN (xlen s1)) (64 : Int)) = false := by first | exact (bnot_t.1 h) | (have h2 := (bnot_t.1 h); simp only [choice_lk, lock_eq] at h2; exact h2) | (simp only [choice_lk, lock_eq] at h; exact (bnot_t.1 h))
    rw [if_neg (by rw [h1]; exact Bool.false_ne_true)] at hr
    (try cbv)
    apply Hidden.out
    have e := Option.some.inj hr
    obtain ⟨u0, u1, u2⟩ := r
    simp only [Prod.mk.injEq] at e
    obtain ⟨e0, e1, e2⟩ := e
    constructor
    refine ⟨_, hF, ?_⟩
    (try cbv); (try simp only [choice_lk, lock_eq, and_self, and_true, true_and]); (try first | exact e | exact e.symm | (and_intros <;> first | assumption | rfl | exact Eq.symm (by assumption)))
   ·have h1 : (ieq (ofN (xlen s1)) (64 : Int)) = true := by first | exact (bnot_f.1 h) | (have h2 := (bnot_f.1 h); simp only [choice_lk, lock_eq] at h2; exact h2) | (simp only [choice_lk, lock_eq] at h; exact (bnot_f.1 h))
    rw [if_pos h1] at hr
    (try cbv)
    have gg := guard_inv hr
    have g := gg.1
    replace hr := gg.2
    clear gg
    refine ⟨obl.2 (by first | (simp only [choice_lk, lock_eq, R.len, R.sub]; exact g) | exact g), ?_⟩
    have gg := guard_inv hr
    have g := gg.1
    replace hr := gg.2
    clear gg
    refine ⟨obl.2 (by first | (simp only [choice_lk, lock_eq, R.len, R.sub]; exact g) | exact g), ?_⟩
    apply Hidden.out
    have e := Option.some.inj hr
    obtain ⟨u0, u1, u2⟩ := r
    simp only [Prod.mk.injEq] at e
    obtain ⟨e0, e1, e2⟩ := e
    constructor
    refine ⟨_, hF, ?_⟩
    (try cbv); (try simp only [choice_lk, lock_eq, and_self, and_true, true_and]); (try first | exact e | exact e.symm | (and_intros <;> first | assumption | rfl | exact Eq.symm (by assumption)))
 replace hce := altC_inv hce
 rcases hce with hce | hce
 ·unfold con_block_Device_Write_2 at hce
  split at hce
  rotate_left
  ·cases hce
  obtain rfl := Option.some.inj hce
  rename_i x1 s1
  have hb1 := hob _ (List.mem_singleton.2 rfl)
  have hb2 := obl.1 hb1
  clear hb1 hob hce
  refine hb2.elim fun r hF => ?_
  clear hb2
  simp only [List.length_cons, List.length_nil, Nat.zero_add, Nat.reduceAdd] at hk
  have hr : F_block_Device_Write_3 x1 s1 = some r := by rw [lock_eq] at hF; exact hF
  unfold F_block_Device_Write_3 at hr
  constructor
  (try cbv)
  have hqe : ∃ qq, F_block_Device_may_2 x1 = some qq := by
   cases hq : F_block_Device_may_2 x1 with
   | none => rw [hq] at hr; cases hr
   | some qq => exact ⟨qq, rfl⟩
  refine ⟨obl.2 (by simp only [choice_lk, lock_eq]; exact hqe), (by rintro (_) _ <;> cbv), ?_⟩
  clear hqe
  intro qq hx1
  simp only [choice_lk, lock_eq] at hx1
  rcases qq with _
  all_goals (rw [hx1] at hr; dsimp only at hr; constructor; (try cbv))
  refine sel_intro (fun h => ?_) (fun h => ?_)
  ·have h1 : (ieq (1 : Int) (0 : Int)) = false := by first | exact (bnot_t.1 h) | (have h2 := (bnot_t.1 h); simp only [choice_lk, lock_eq] at h2; exact h2) | (simp only [choice_lk, lock_eq] at h; exact (bnot_t.1 h))
   rw [if_neg (by rw [h1]; exact Bool.false_ne_true)] at hr
   (try cbv)
   apply Hidden.out
   have e := Option.some.inj hr
   constructor
   refine ⟨_, hF, ?_⟩
   (try cbv); (try simp only [choice_lk, lock_eq, and_self, and_true, true_and]); (try first | exact e | exact e.symm | (and_intros <;> first | assumption | rfl | exact Eq.symm (by assumption)))
  ·have h1 : (ieq (1 : Int) (0 : Int)) = true := by first | exact (bnot_f.1 h) | (have h2 := (bnot_f.1 h); simp only [choice_lk, lock_eq] at h2; exact h2) | (simp only [choice_lk, lock_eq] at h; exact (bnot_f.1 h))
   rw [if_pos h1] at hr
   (try cbv)
   cases hr
 ·unfold con_block_Device_Write_3 at hce
  split at hce
  rotate_left
  ·cases hce
  obtain rfl := Option.some.inj hce
  rename_i x1 s1 b1 x2 r1 x3 x4
  have hb1 := hob _ (List.mem_singleton.2 rfl)
  have hb2 := obl.1 hb1
  clear hb1 hob hce
  refine hb2.elim fun r hF => ?_
  clear hb2
  simp only [List.length_cons, List.length_nil, Nat.zero_add, Nat.reduceAdd] at hk
  have hr : F_block_Device_Write_4 x1 s1 b1 x2 r1 x3 x4 = some r := by rw [lock_eq] at hF; exact hF
  unfold F_block_Device_Write_4 at hr
  constructor
  (try cbv)
  have hqe : ∃ qq, F_block_Device_may_3 x1 b1 x2 r1 x3 x4 = some qq := by
   cases hq : F_block_Device_may_3 x1 b1 x2 r1 x3 x4 with
   | none => rw [hq] at hr; cases hr
   | some qq => exact ⟨qq, rfl⟩
  refine ⟨obl.2 (by simp only [choice_lk, lock_eq]; exact hqe), (by rintro (_) _ <;> cbv), ?_⟩
  clear hqe
  intro y1 hx1
  simp only [choice_lk, lock_eq] at hx1
  all_goals (rw [hx1] at hr; dsimp only at hr; constructor; (try cbv))
  refine sel_intro (fun h => ?_) (fun h => ?_)
  ·have h1 : (ieq y1 (0 : Int)) = false := by first | exact (bnot_t.1 h) | (have h2 := (bnot_t.1 h); simp only [choice_lk, lock_eq] at h2; exact h2) | (simp only [choice_lk, lock_eq] at h; exact (bnot_t.1 h))
   rw [if_neg (by rw [h1]; exact Bool.false_ne_true)] at hr
   (try cbv)
   apply Hidden.out
   have e := Option.some.inj hr
   revert e
   rcases r with ⟨u0, u1, u2, u3⟩ | _ <;> intro e
   ·replace e := Sum.inl.inj e
    simp only [Prod.mk.injEq] at e
    obtain ⟨e0, e1, e2, e3⟩ := e
    constructor
    refine ⟨_, hF, ?_⟩
    (try cbv); (try simp only [choice_lk, lock_eq, and_self, and_true, true_and]); (try first | exact e | exact e.symm | (and_intros <;> first | assumption | rfl | exact Eq.symm (by assumption)))
   ·cases e
  ·as_aux_lemma =>
   have h1 : (ieq y1 (0 : Int)) = true := by first | exact (bnot_f.1 h) | (have h2 := (bnot_f.1 h); simp only [choice_lk, lock_eq] at h2; exact h2) | (simp only [choice_lk, lock_eq] at h; exact (bnot_f.1 h))
   rw [if_pos h1] at hr
   (try cbv)
   refine sel_intro (fun h => ?_) (fun h => ?_)
   ·have h1 : (ieq (ofN (xlen s1)) (64 : Int)) = false := by first | exact (bnot_t.1 h) | (have h2 := (bnot_t.1 h); simp only [choice_lk, lock_eq] at h2; exact h2) | (simp only [choice_lk, lock_eq] at h; exact (bnot_t.1 h))
    rw [if_neg (by rw [h1]; exact Bool.false_ne_true)] at hr
    (try cbv)
    apply Hidden.out
    have e := Option.some.inj hr
    revert e
    rcases r with ⟨u0, u1, u2, u3⟩ | _ <;> intro e
    ·replace e := Sum.inl.inj e
     simp only [Prod.mk.injEq] at e
     obtain ⟨e0, e1, e2, e3⟩ := e
     constructor
     refine ⟨_, hF, ?_⟩
     (try cbv); (try simp only [choice_lk, lock_eq, and_self, and_true, true_and]); (try first | exact e | exact e.symm | (and_intros <;> first | assumption | rfl | exact Eq.symm (by assumption)))
    ·cases e
   ·have h1 : (ieq (ofN (xlen s1)) (64 : Int)) = true := by first | exact (bnot_f.1 h) | (have h2 := (bnot_f.1 h); simp only [choice_lk, lock_eq] at h2; exact h2) | (simp only [choice_lk, lock_eq] at h; exact (bnot_f.1 h))
    rw [if_pos h1] at hr
    (try cbv)
    refine sel_intro (fun h => ?_) (fun h => ?_)
    ·have h1 : (ieq x3 (0 : Int)) = true := by first | exact h | (have h2 := h; simp only [choice_lk, lock_eq] at h2; exact h2) | (simp only [choice_lk, lock_eq] at h; exact h)
     rw [if_pos h1] at hr
     (try cbv)
     have gg := guard_inv hr
     have g := gg.1
     replace hr := gg.2
     clear gg
     refine ⟨obl.2 (by first | (simp only [choice_lk, lock_eq, R.len, R.sub]; exact g) | exact g), ?_⟩
     have gg := guard_inv hr
     have g := gg.1
     replace hr := gg.2
     clear gg
     refine ⟨obl.2 (by first | (simp only [choice_lk, lock_eq, R.len, R.sub]; exact g) | exact g), ?_⟩
     apply Hidden.out
     have e := Option.some.inj hr
     revert e
     rcases r with _ | u0 <;> intro e
     ·cases e
     ·replace e := Sum.inr.inj e
      constructor
      refine ⟨_, hF, ?_⟩
      (try cbv); (try simp only [choice_lk, lock_eq, and_self, and_true, true_and]); (try first | exact e | exact e.symm | (and_intros <;> first | assumption | rfl | exact Eq.symm (by assumption)))
    ·have h1 : (ieq x3 (0 : Int)) = false := by first | exact h | (have h2 := h; simp only [choice_lk, lock_eq] at h2; exact h2) | (simp only [choice_lk, lock_eq] at h; exact h)
     rw [if_neg (by rw [h1]; exact Bool.false_ne_true)] at hr
     (try cbv)
     have gg := guard_inv hr
     have g := gg.1
     replace hr := gg.2
     clear gg
     refine ⟨obl.2 (by first | (simp only [choice_lk, lock_eq, R.len, R.sub]; exact g) | exact g), ?_⟩
     have gg := guard_inv hr
     have g := gg.1
     replace hr := gg.2
     clear gg
     refine ⟨obl.2 (by first | (simp only [choice_lk, lock_eq, R.len, R.sub]; exact g) | exact g), ?_⟩
     apply Hidden.out
     have e := Option.some.inj hr
     revert e
     rcases r with ⟨u0, u1, u2, u3⟩ | _ <;> intro e
     ·replace e := Sum.inl.inj e
      simp only [Prod.mk.injEq] at e
      obtain ⟨e0, e1, e2, e3⟩ := e
      constructor
      refine ⟨_, hF, ?_⟩
      (try cbv); (try simp only [choice_lk, lock_eq, and_self, and_true, true_and]); (try first | exact e | exact e.symm | (and_intros <;> first | assumption | rfl | exact Eq.symm (by assumption)))
     ·cases e
end Go.Proofs.YtbkcmpggacbikaaDoor
end
