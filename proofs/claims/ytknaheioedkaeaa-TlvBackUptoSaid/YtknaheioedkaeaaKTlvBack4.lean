/-
  Texts that the row of this claim stands on, one behind the other.
-/
import Derived.Test.YtknaheioedkaeaaProg
import Derived.Test.YtknaheioedkaeaaKTlvBack1
import Derived.Test.YtknaheioedkaeaaKTlvBack2
import Derived.Test.YtknaheioedkaeaaKTlvBack3
section
/-
  The functions of this seat, made short (printed by a program of ours).
-/
set_option linter.unusedVariables false
set_option maxRecDepth 20000
namespace Go.Proofs.Ytknaheioedkaeaa
open Go.RowKit

/-- tollbar/tollbarlaw03.TlvPuts -/
def ic_3 : IC := (.seq (.reg false [⟨some 2, none, [], .mv (.k (.v (.bool false)))⟩])
 (.seq (.reg false [⟨some 9, none, [], .call 8 []⟩,
  ⟨some 3, none, [], .mv (.t 9)⟩])
 (.seq (.seq (.reg false [⟨some 10, none, [], .mv (.t 3)⟩,
  ⟨some 11, none, [], .bnot (.t 10)⟩])
 (.cond (.t 11)
 (.seq (.reg false [⟨some 2, none, [], .mv (.k (.v (.bool false)))⟩])
 .ret)
 .skip))
 (.seq (.seq (.reg false [⟨some 12, none, [], .mv (.t 0)⟩,
  ⟨some 13, none, [], .call 9 [(.t 12)]⟩,
  ⟨some 14, none, [], .ib .gt .i64 (.t 13) (.k (.v (.int .i64 300)))⟩])
 (.cond (.t 14)
 (.seq (.reg false [⟨some 2, none, [], .mv (.k (.v (.bool true)))⟩])
 .ret)
 .skip))
 (.seq (.reg false [⟨some 15, none, [], .mv (.t 0)⟩,
  ⟨some 16, none, [], .call 10 [(.t 15)]⟩,
  ⟨some 4, none, [], .mv (.t 16)⟩])
 (.seq (.reg false [⟨some 18, none, [], .mv (.t 0)⟩,
  ⟨some 19, none, [], .call 11 [(.t 18)]⟩,
  ⟨some 17, none, [], .mv (.t 19)⟩,
  ⟨some 20, none, [], .ext (.t 17) 0⟩,
  ⟨some 21, none, [], .ext (.t 17) 1⟩,
  ⟨some 5, none, [], .mv (.t 20)⟩,
  ⟨some 6, none, [], .mv (.t 21)⟩])
 (.seq (.reg false [⟨some 23, none, [], .mv (.t 4)⟩,
  ⟨some 24, none, [], .call 12 [(.t 23)]⟩,
  ⟨some 22, none, [], .mv (.t 24)⟩,
  ⟨some 25, none, [], .ext (.t 22) 0⟩,
  ⟨some 26, none, [], .ext (.t 22) 1⟩,
  ⟨some 7, none, [], .mv (.t 25)⟩,
  ⟨some 8, none, [], .mv (.t 26)⟩])
 (.seq (.reg false [⟨some 27, none, [], .mv (.t 0)⟩,
  ⟨some 28, none, [], .call 13 [(.t 27)]⟩,
  ⟨some 29, none, [], .mv (.t 4)⟩,
  ⟨some 30, none, [], .call 14 [(.t 29)]⟩,
  ⟨some 31, none, [], .bb false (.t 28) (.t 30)⟩,
  ⟨some 32, none, [], .mv (.t 31)⟩,
  ⟨some 33, some (32, true), [], .mv (.t 0)⟩,
  ⟨some 34, some (32, true), [], .call 15 [(.t 33)]⟩,
  ⟨some 35, some (32, true), [], .mv (.t 4)⟩,
  ⟨some 36, some (32, true), [], .call 16 [(.t 35)]⟩,
  ⟨some 37, some (32, true), [], .len true (.t 36)⟩,
  ⟨some 38, some (32, true), [], .ib .eq .i64 (.t 34) (.t 37)⟩,
  ⟨some 39, none, [], .pick (.t 32) (.t 38) (.k (.v (.bool false)))⟩,
  ⟨some 40, none, [], .mv (.t 39)⟩,
  ⟨some 41, some (40, true), [], .mv (.t 5)⟩,
  ⟨some 42, some (40, true), [], .b2s (.t 41)⟩,
  ⟨some 43, some (40, true), [], .mv (.t 7)⟩,
  ⟨some 44, some (40, true), [], .sb .eq (.t 42) (.t 43)⟩,
  ⟨some 45, none, [], .pick (.t 40) (.t 44) (.k (.v (.bool false)))⟩,
  ⟨some 46, none, [], .mv (.t 45)⟩,
  ⟨some 47, some (46, true), [], .mv (.t 6)⟩,
  ⟨some 48, some (46, true), [], .mv (.t 8)⟩,
  ⟨some 49, some (46, true), [], .ib .eq .i64 (.t 47) (.t 48)⟩,
  ⟨some 50, none, [], .pick (.t 46) (.t 49) (.k (.v (.bool false)))⟩,
  ⟨some 2, none, [], .mv (.t 50)⟩])
 .ret))))))))
theorem comp_3 : compF Try.prog Try.f3 = some (ic_3, [.t 2], 51) := by kernel_rfl
-- ros 3 [(some (.row 46 (.st [(.int .u64), (.bytes 5), (.self 46)])))] TYS [(.self 46)]

/-- tollbar/tollbarlaw03.TlvGets -/
def ic_4 : IC := (.seq (.reg false [⟨some 2, none, [], .mv (.k (.v (.bool false)))⟩])
 (.seq (.reg false [⟨some 10, none, [], .call 8 []⟩,
  ⟨some 3, none, [], .mv (.t 10)⟩])
 (.seq (.seq (.reg false [⟨some 11, none, [], .mv (.t 3)⟩,
  ⟨some 12, none, [], .bnot (.t 11)⟩])
 (.cond (.t 12)
 (.seq (.reg false [⟨some 2, none, [], .mv (.k (.v (.bool false)))⟩])
 .ret)
 .skip))
 (.seq (.seq (.reg false [⟨some 13, none, [], .mv (.t 0)⟩,
  ⟨some 14, none, [], .len false (.t 13)⟩,
  ⟨some 15, none, [], .ib .gt .i64 (.t 14) (.k (.v (.int .i64 9000)))⟩])
 (.cond (.t 15)
 (.seq (.reg false [⟨some 2, none, [], .mv (.k (.v (.bool true)))⟩])
 .ret)
 .skip))
 (.seq (.reg false [⟨some 17, none, [], .mv (.t 0)⟩,
  ⟨some 18, none, [], .call 17 [(.t 17)]⟩,
  ⟨some 16, none, [], .mv (.t 18)⟩,
  ⟨some 19, none, [], .ext (.t 16) 0⟩,
  ⟨some 20, none, [], .ext (.t 16) 1⟩,
  ⟨some 21, none, [], .ext (.t 16) 2⟩,
  ⟨some 4, none, [], .mv (.t 19)⟩,
  ⟨some 5, none, [], .mv (.t 20)⟩,
  ⟨some 6, none, [], .mv (.t 21)⟩])
 (.seq (.reg false [⟨some 23, none, [], .mv (.t 0)⟩,
  ⟨some 24, none, [], .b2s (.t 23)⟩,
  ⟨some 25, none, [], .call 18 [(.t 24)]⟩,
  ⟨some 22, none, [], .mv (.t 25)⟩,
  ⟨some 26, none, [], .ext (.t 22) 0⟩,
  ⟨some 27, none, [], .ext (.t 22) 1⟩,
  ⟨some 28, none, [], .ext (.t 22) 2⟩,
  ⟨some 7, none, [], .mv (.t 26)⟩,
  ⟨some 8, none, [], .mv (.t 27)⟩,
  ⟨some 9, none, [], .mv (.t 28)⟩])
 (.seq (.reg false [⟨some 29, none, [], .mv (.t 4)⟩,
  ⟨some 30, none, [], .call 10 [(.t 29)]⟩,
  ⟨some 31, none, [], .mv (.t 7)⟩,
  ⟨some 32, none, [], .call 19 [(.t 30), (.t 31)]⟩,
  ⟨some 33, none, [], .mv (.t 32)⟩,
  ⟨some 34, some (33, true), [], .mv (.t 5)⟩,
  ⟨some 35, some (33, true), [], .mv (.t 8)⟩,
  ⟨some 36, some (33, true), [], .ib .eq .i64 (.t 34) (.t 35)⟩,
  ⟨some 37, none, [], .pick (.t 33) (.t 36) (.k (.v (.bool false)))⟩,
  ⟨some 38, none, [], .mv (.t 37)⟩,
  ⟨some 39, some (38, true), [], .mv (.t 6)⟩,
  ⟨some 40, some (38, true), [], .mv (.t 9)⟩,
  ⟨some 41, some (38, true), [], .ib .eq .i64 (.t 39) (.t 40)⟩,
  ⟨some 42, none, [], .pick (.t 38) (.t 41) (.k (.v (.bool false)))⟩,
  ⟨some 2, none, [], .mv (.t 42)⟩])
 .ret)))))))
theorem comp_4 : compF Try.prog Try.f4 = some (ic_4, [.t 2], 43) := by kernel_rfl
-- ros 4 [(some (.bs 5))] TYS [(.bytes 5)]

/-- tollbar/tollbarlaw03.TlvBack -/
def ic_5 : IC := (.seq (.reg false [⟨some 4, none, [], .mv (.k (.v (.bool false)))⟩])
 (.seq (.reg false [⟨some 19, none, [], .call 8 []⟩,
  ⟨some 5, none, [], .mv (.t 19)⟩])
 (.seq (.seq (.reg false [⟨some 20, none, [], .mv (.t 5)⟩,
  ⟨some 21, none, [], .bnot (.t 20)⟩])
 (.cond (.t 21)
 (.seq (.reg false [⟨some 4, none, [], .mv (.k (.v (.bool false)))⟩])
 .ret)
 .skip))
 (.seq (.seq (.reg false [⟨some 22, none, [], .mv (.t 0)⟩,
  ⟨some 23, none, [], .call 9 [(.t 22)]⟩,
  ⟨some 24, none, [], .ib .gt .i64 (.t 23) (.k (.v (.int .i64 200)))⟩,
  ⟨some 25, none, [], .mv (.t 24)⟩,
  ⟨some 26, some (25, false), [], .mv (.t 1)⟩,
  ⟨some 27, some (25, false), [], .call 9 [(.t 26)]⟩,
  ⟨some 28, some (25, false), [], .ib .gt .i64 (.t 27) (.k (.v (.int .i64 200)))⟩,
  ⟨some 29, none, [], .pick (.t 25) (.k (.v (.bool true))) (.t 28)⟩])
 (.cond (.t 29)
 (.seq (.reg false [⟨some 4, none, [], .mv (.k (.v (.bool true)))⟩])
 .ret)
 .skip))
 (.seq (.reg false [⟨some 31, none, [], .mv (.t 0)⟩,
  ⟨some 32, none, [], .call 11 [(.t 31)]⟩,
  ⟨some 30, none, [], .mv (.t 32)⟩,
  ⟨some 33, none, [], .ext (.t 30) 0⟩,
  ⟨some 34, none, [], .ext (.t 30) 1⟩,
  ⟨some 6, none, [], .mv (.t 33)⟩,
  ⟨some 7, none, [], .mv (.t 34)⟩])
 (.seq (.reg false [⟨some 36, none, [], .mv (.t 1)⟩,
  ⟨some 37, none, [], .call 11 [(.t 36)]⟩,
  ⟨some 35, none, [], .mv (.t 37)⟩,
  ⟨some 38, none, [], .ext (.t 35) 0⟩,
  ⟨some 39, none, [], .ext (.t 35) 1⟩,
  ⟨some 8, none, [], .mv (.t 38)⟩,
  ⟨some 9, none, [], .mv (.t 39)⟩])
 (.seq (.seq (.reg false [⟨some 40, none, [], .mv (.t 7)⟩,
  ⟨some 41, none, [], .ib .ne .i64 (.t 40) (.k (.v (.int .i64 0)))⟩,
  ⟨some 42, none, [], .mv (.t 41)⟩,
  ⟨some 43, some (42, false), [], .mv (.t 9)⟩,
  ⟨some 44, some (42, false), [], .ib .ne .i64 (.t 43) (.k (.v (.int .i64 0)))⟩,
  ⟨some 45, none, [], .pick (.t 42) (.k (.v (.bool true))) (.t 44)⟩])
 (.cond (.t 45)
 (.seq (.reg false [⟨some 4, none, [], .mv (.k (.v (.bool true)))⟩])
 .ret)
 .skip))
 (.seq (.reg false [⟨some 47, none, [], .mv (.t 6)⟩,
  ⟨some 48, none, [], .call 17 [(.t 47)]⟩,
  ⟨some 46, none, [], .mv (.t 48)⟩,
  ⟨some 49, none, [], .ext (.t 46) 0⟩,
  ⟨some 50, none, [], .ext (.t 46) 1⟩,
  ⟨some 51, none, [], .ext (.t 46) 2⟩,
  ⟨some 10, none, [], .mv (.t 49)⟩,
  ⟨some 11, none, [], .mv (.t 50)⟩,
  ⟨some 12, none, [], .mv (.t 51)⟩])
 (.seq (.seq (.reg false [⟨some 52, none, [], .mv (.t 11)⟩,
  ⟨some 53, none, [], .ib .ne .i64 (.t 52) (.k (.v (.int .i64 0)))⟩,
  ⟨some 54, none, [], .mv (.t 53)⟩,
  ⟨some 55, some (54, false), [], .mv (.t 12)⟩,
  ⟨some 56, some (54, false), [], .ib .ne .i64 (.t 55) (.k (.v (.int .i64 0)))⟩,
  ⟨some 57, none, [], .pick (.t 54) (.k (.v (.bool true))) (.t 56)⟩,
  ⟨some 58, none, [], .mv (.t 57)⟩,
  ⟨some 59, some (58, false), [], .mv (.t 10)⟩,
  ⟨some 60, some (58, false), [], .call 10 [(.t 59)]⟩,
  ⟨some 61, some (58, false), [], .mv (.t 0)⟩,
  ⟨some 62, some (58, false), [], .call 10 [(.t 61)]⟩,
  ⟨some 63, some (58, false), [], .call 19 [(.t 60), (.t 62)]⟩,
  ⟨some 64, some (58, false), [], .bnot (.t 63)⟩,
  ⟨some 65, none, [], .pick (.t 58) (.k (.v (.bool true))) (.t 64)⟩,
  ⟨some 66, none, [], .mv (.t 65)⟩,
  ⟨some 67, some (66, false), [], .mv (.t 0)⟩,
  ⟨some 68, some (66, false), [], .call 15 [(.t 67)]⟩,
  ⟨some 69, some (66, false), [], .mv (.t 6)⟩,
  ⟨some 70, some (66, false), [], .len false (.t 69)⟩,
  ⟨some 71, some (66, false), [], .ib .ne .i64 (.t 68) (.t 70)⟩,
  ⟨some 72, none, [], .pick (.t 66) (.k (.v (.bool true))) (.t 71)⟩])
 (.cond (.t 72)
 (.seq (.reg false [⟨some 4, none, [], .mv (.k (.v (.bool false)))⟩])
 .ret)
 .skip))
 (.seq (.seq (.reg false [⟨some 73, none, [], .mv (.t 6)⟩,
  ⟨some 74, none, [], .len false (.t 73)⟩,
  ⟨some 75, none, [], .mv (.t 8)⟩,
  ⟨some 76, none, [], .len false (.t 75)⟩,
  ⟨some 77, none, [], .ib .add .i64 (.t 74) (.t 76)⟩,
  ⟨some 78, none, [], .ib .le .i64 (.t 77) (.k (.v (.int .i64 8192)))⟩])
 (.cond (.t 78)
 (.seq (.reg false [⟨some 79, none, [], .mv (.t 6)⟩,
  ⟨some 80, none, [], .mv (.t 8)⟩,
  ⟨some 81, none, [], .app (.bs 5) 1 (.t 79) (.t 80)⟩,
  ⟨some 6, none, [], .mv (.t 81)⟩])
 (.seq (.reg false [⟨some 83, none, [], .mv (.t 6)⟩,
  ⟨some 84, none, [], .call 17 [(.t 83)]⟩,
  ⟨some 82, none, [], .mv (.t 84)⟩,
  ⟨some 85, none, [], .ext (.t 82) 0⟩,
  ⟨some 86, none, [], .ext (.t 82) 1⟩,
  ⟨some 87, none, [], .ext (.t 82) 2⟩,
  ⟨some 13, none, [], .mv (.t 85)⟩,
  ⟨some 14, none, [], .mv (.t 86)⟩,
  ⟨some 15, none, [], .mv (.t 87)⟩])
 (.seq (.reg false [⟨some 88, none, [], .mv (.t 14)⟩,
  ⟨some 89, none, [], .ib .ne .i64 (.t 88) (.k (.v (.int .i64 0)))⟩,
  ⟨some 90, none, [], .mv (.t 89)⟩,
  ⟨some 91, some (90, false), [], .mv (.t 13)⟩,
  ⟨some 92, some (90, false), [], .len false (.t 91)⟩,
  ⟨some 93, some (90, false), [], .mv (.t 0)⟩,
  ⟨some 94, some (90, false), [], .len false (.t 93)⟩,
  ⟨some 95, some (90, false), [], .mv (.t 1)⟩,
  ⟨some 96, some (90, false), [], .len false (.t 95)⟩,
  ⟨some 97, some (90, false), [], .ib .add .i64 (.t 94) (.t 96)⟩,
  ⟨some 98, some (90, false), [], .ib .ne .i64 (.t 92) (.t 97)⟩,
  ⟨some 99, none, [], .pick (.t 90) (.k (.v (.bool true))) (.t 98)⟩,
  ⟨some 100, none, [], .mv (.t 99)⟩,
  ⟨some 101, some (100, false), [], .mv (.t 13)⟩,
  ⟨some 102, some (100, false), [], .mv (.t 0)⟩,
  ⟨some 103, some (100, false), [], .len false (.t 102)⟩,
  ⟨some 104, some (100, false), [], .sls (.t 101) (some (.t 103)) none 3⟩,
  ⟨some 105, some (100, false), [], .call 10 [(.t 104)]⟩,
  ⟨some 106, some (100, false), [], .mv (.t 1)⟩,
  ⟨some 107, some (100, false), [], .call 10 [(.t 106)]⟩,
  ⟨some 108, some (100, false), [], .call 19 [(.t 105), (.t 107)]⟩,
  ⟨some 109, some (100, false), [], .bnot (.t 108)⟩,
  ⟨some 110, none, [], .pick (.t 100) (.k (.v (.bool true))) (.t 109)⟩])
 (.cond (.t 110)
 (.seq (.reg false [⟨some 4, none, [], .mv (.k (.v (.bool false)))⟩])
 .ret)
 .skip))))
 .skip))
 (.seq (.seq (.reg false [⟨some 111, none, [], .mv (.t 8)⟩,
  ⟨some 112, none, [], .len false (.t 111)⟩,
  ⟨some 113, none, [], .ib .eq .i64 (.t 112) (.k (.v (.int .i64 0)))⟩])
 (.cond (.t 113)
 (.seq (.reg false [⟨some 4, none, [], .mv (.k (.v (.bool true)))⟩])
 .ret)
 .skip))
 (.seq (.reg false [⟨some 115, none, [], .mv (.t 8)⟩,
  ⟨some 116, none, [], .mv (.t 8)⟩,
  ⟨some 117, none, [], .len false (.t 116)⟩,
  ⟨some 118, none, [], .ib .sub .i64 (.t 117) (.k (.v (.int .i64 1)))⟩,
  ⟨some 119, none, [], .sls (.t 115) none (some (.t 118)) 1⟩,
  ⟨some 120, none, [], .call 17 [(.t 119)]⟩,
  ⟨some 114, none, [], .mv (.t 120)⟩,
  ⟨some 121, none, [], .ext (.t 114) 0⟩,
  ⟨some 122, none, [], .ext (.t 114) 1⟩,
  ⟨some 123, none, [], .ext (.t 114) 2⟩,
  ⟨some 16, none, [], .mv (.t 121)⟩,
  ⟨some 17, none, [], .mv (.t 122)⟩,
  ⟨some 18, none, [], .mv (.t 123)⟩])
 (.seq (.reg false [⟨some 124, none, [], .mv (.t 17)⟩,
  ⟨some 125, none, [], .ib .eq .i64 (.t 124) (.k (.v (.int .i64 10)))⟩,
  ⟨some 126, none, [], .mv (.t 125)⟩,
  ⟨some 127, some (126, true), [], .mv (.t 18)⟩,
  ⟨some 128, some (126, true), [], .ib .ge .i64 (.t 127) (.k (.v (.int .i64 0)))⟩,
  ⟨some 129, none, [], .pick (.t 126) (.t 128) (.k (.v (.bool false)))⟩,
  ⟨some 130, none, [], .mv (.t 129)⟩,
  ⟨some 131, some (130, true), [], .mv (.t 18)⟩,
  ⟨some 132, some (130, true), [], .mv (.t 8)⟩,
  ⟨some 133, some (130, true), [], .len false (.t 132)⟩,
  ⟨some 134, some (130, true), [], .ib .le .i64 (.t 131) (.t 133)⟩,
  ⟨some 135, none, [], .pick (.t 130) (.t 134) (.k (.v (.bool false)))⟩,
  ⟨some 4, none, [], .mv (.t 135)⟩])
 .ret)))))))))))))
theorem comp_5 : compF Try.prog Try.f5 = some (ic_5, [.t 4], 136) := by kernel_rfl
-- ros 5 [(some (.row 46 (.st [(.int .u64), (.bytes 5), (.self 46)]))), (some (.row 46 (.st [(.int .u64), (.bytes 5), (.self 46)])))] TYS [(.self 46), (.self 46)]

/-- tollbar/tollbarlaw03.TlvOwn -/
def ic_6 : IC := (.seq (.reg false [⟨some 2, none, [], .mv (.k (.v (.bool false)))⟩])
 (.seq (.reg false [⟨some 9, none, [], .call 8 []⟩,
  ⟨some 3, none, [], .mv (.t 9)⟩])
 (.seq (.seq (.reg false [⟨some 10, none, [], .mv (.t 3)⟩,
  ⟨some 11, none, [], .bnot (.t 10)⟩])
 (.cond (.t 11)
 (.seq (.reg false [⟨some 2, none, [], .mv (.k (.v (.bool false)))⟩])
 .ret)
 .skip))
 (.seq (.seq (.reg false [⟨some 12, none, [], .mv (.t 0)⟩,
  ⟨some 13, none, [], .len false (.t 12)⟩,
  ⟨some 14, none, [], .ib .gt .i64 (.t 13) (.k (.v (.int .i64 9000)))⟩])
 (.cond (.t 14)
 (.seq (.reg false [⟨some 2, none, [], .mv (.k (.v (.bool true)))⟩])
 .ret)
 .skip))
 (.seq (.reg false [⟨some 16, none, [], .mv (.t 0)⟩,
  ⟨some 17, none, [], .call 17 [(.t 16)]⟩,
  ⟨some 15, none, [], .mv (.t 17)⟩,
  ⟨some 18, none, [], .ext (.t 15) 0⟩,
  ⟨some 19, none, [], .ext (.t 15) 1⟩,
  ⟨some 20, none, [], .ext (.t 15) 2⟩,
  ⟨some 4, none, [], .mv (.t 18)⟩,
  ⟨some 5, none, [], .mv (.t 19)⟩,
  ⟨some 6, none, [], .mv (.t 20)⟩])
 (.seq (.seq (.reg false [⟨some 21, none, [], .mv (.t 5)⟩,
  ⟨some 22, none, [], .ib .ne .i64 (.t 21) (.k (.v (.int .i64 0)))⟩])
 (.cond (.t 22)
 (.seq (.reg false [⟨some 23, none, [], .mv (.t 4)⟩,
  ⟨some 24, none, [], .len false (.t 23)⟩,
  ⟨some 25, none, [], .ib .eq .i64 (.t 24) (.k (.v (.int .i64 0)))⟩,
  ⟨some 26, none, [], .mv (.t 25)⟩,
  ⟨some 27, some (26, true), [], .mv (.t 6)⟩,
  ⟨some 28, some (26, true), [], .ib .ge .i64 (.t 27) (.k (.v (.int .i64 0)))⟩,
  ⟨some 29, none, [], .pick (.t 26) (.t 28) (.k (.v (.bool false)))⟩,
  ⟨some 30, none, [], .mv (.t 29)⟩,
  ⟨some 31, some (30, true), [], .mv (.t 6)⟩,
  ⟨some 32, some (30, true), [], .mv (.t 0)⟩,
  ⟨some 33, some (30, true), [], .len false (.t 32)⟩,
  ⟨some 34, some (30, true), [], .ib .le .i64 (.t 31) (.t 33)⟩,
  ⟨some 35, none, [], .pick (.t 30) (.t 34) (.k (.v (.bool false)))⟩,
  ⟨some 2, none, [], .mv (.t 35)⟩])
 .ret)
 .skip))
 (.seq (.reg false [⟨some 37, none, [], .mv (.t 4)⟩,
  ⟨some 38, none, [], .call 11 [(.t 37)]⟩,
  ⟨some 36, none, [], .mv (.t 38)⟩,
  ⟨some 39, none, [], .ext (.t 36) 0⟩,
  ⟨some 40, none, [], .ext (.t 36) 1⟩,
  ⟨some 7, none, [], .mv (.t 39)⟩,
  ⟨some 8, none, [], .mv (.t 40)⟩])
 (.seq (.reg false [⟨some 41, none, [], .mv (.t 8)⟩,
  ⟨some 42, none, [], .ib .eq .i64 (.t 41) (.k (.v (.int .i64 0)))⟩,
  ⟨some 43, none, [], .mv (.t 42)⟩,
  ⟨some 44, some (43, true), [], .mv (.t 7)⟩,
  ⟨some 45, some (43, true), [], .b2s (.t 44)⟩,
  ⟨some 46, some (43, true), [], .mv (.t 0)⟩,
  ⟨some 47, some (43, true), [], .b2s (.t 46)⟩,
  ⟨some 48, some (43, true), [], .sb .eq (.t 45) (.t 47)⟩,
  ⟨some 49, none, [], .pick (.t 43) (.t 48) (.k (.v (.bool false)))⟩,
  ⟨some 50, none, [], .mv (.t 49)⟩,
  ⟨some 51, some (50, true), [], .mv (.t 4)⟩,
  ⟨some 52, some (50, true), [], .call 13 [(.t 51)]⟩,
  ⟨some 53, none, [], .pick (.t 50) (.t 52) (.k (.v (.bool false)))⟩,
  ⟨some 54, none, [], .mv (.t 53)⟩,
  ⟨some 55, some (54, true), [], .mv (.t 6)⟩,
  ⟨some 56, some (54, true), [], .ib .eq .i64 (.t 55) (.k (.v (.int .i64 0)))⟩,
  ⟨some 57, none, [], .pick (.t 54) (.t 56) (.k (.v (.bool false)))⟩,
  ⟨some 2, none, [], .mv (.t 57)⟩])
 .ret))))))))
theorem comp_6 : compF Try.prog Try.f6 = some (ic_6, [.t 2], 58) := by kernel_rfl
-- ros 6 [(some (.bs 5))] TYS [(.bytes 5)]

/-- tollbar/tollbarlaw03.TlvDeep -/
def ic_7 : IC := (.seq (.reg false [⟨some 4, none, [], .mv (.k (.v (.bool false)))⟩])
 (.seq (.reg false [⟨some 14, none, [], .call 8 []⟩,
  ⟨some 5, none, [], .mv (.t 14)⟩])
 (.seq (.seq (.reg false [⟨some 15, none, [], .mv (.t 5)⟩,
  ⟨some 16, none, [], .bnot (.t 15)⟩])
 (.cond (.t 16)
 (.seq (.reg false [⟨some 4, none, [], .mv (.k (.v (.bool false)))⟩])
 .ret)
 .skip))
 (.seq (.seq (.reg false [⟨some 17, none, [], .mv (.t 0)⟩,
  ⟨some 18, none, [], .len false (.t 17)⟩,
  ⟨some 19, none, [], .ib .gt .i64 (.t 18) (.k (.v (.int .i64 12)))⟩,
  ⟨some 20, none, [], .mv (.t 19)⟩,
  ⟨some 21, some (20, false), [], .mv (.t 1)⟩,
  ⟨some 22, some (20, false), [], .len false (.t 21)⟩,
  ⟨some 23, some (20, false), [], .ib .gt .i64 (.t 22) (.k (.v (.int .i64 300)))⟩,
  ⟨some 24, none, [], .pick (.t 20) (.k (.v (.bool true))) (.t 23)⟩])
 (.cond (.t 24)
 (.seq (.reg false [⟨some 4, none, [], .mv (.k (.v (.bool true)))⟩])
 .ret)
 .skip))
 (.seq (.reg false [⟨some 25, none, [], .mv (.t 1)⟩,
  ⟨some 26, none, [], .build [(.v (.int .u64 0)), .nsl, .nsl] [(0, 1, (.k (.v (.int .u64 2)))), (1, 1, (.t 25))]⟩,
  ⟨some 27, none, [], .bsl (.row 46 (.st [(.int .u64), (.bytes 5), (.self 46)])) 1 [(.v (.int .u64 0)), .nsl, .nsl] [(0, 3, (.t 26))]⟩,
  ⟨some 6, none, [], .mv (.t 27)⟩])
 (.seq (.seq (.reg false [⟨some 7, none, [], .mv (.k (.v (.int .i64 0)))⟩])
 (.block 0
 (.loop
 (.seq (.seq (.reg false [⟨some 28, none, [], .mv (.t 7)⟩,
  ⟨some 29, none, [], .mv (.t 0)⟩,
  ⟨some 30, none, [], .len false (.t 29)⟩,
  ⟨some 31, none, [], .ib .lt .i64 (.t 28) (.t 30)⟩])
 (.cond (.t 31)
 .skip
 (.exit 0)))
 (.seq (.block 1
 (.reg false [⟨some 34, none, [], .mv (.t 0)⟩,
  ⟨some 35, none, [], .mv (.t 7)⟩,
  ⟨some 36, none, [], .idx (.t 34) (.t 35) 1⟩,
  ⟨some 37, none, [], .ld (.t 36)⟩,
  ⟨some 38, none, [], .ib .or .u64 (.t 37) (.k (.v (.int .u64 1)))⟩,
  ⟨some 39, none, [], .mv (.t 6)⟩,
  ⟨some 40, none, [], .build [(.v (.int .u64 0)), .nsl, .nsl] [(0, 1, (.t 38)), (2, 1, (.t 39))]⟩,
  ⟨some 41, none, [], .bsl (.row 46 (.st [(.int .u64), (.bytes 5), (.self 46)])) 1 [(.v (.int .u64 0)), .nsl, .nsl] [(0, 3, (.t 40))]⟩,
  ⟨some 6, none, [], .mv (.t 41)⟩]))
 (.reg false [⟨some 32, none, [], .mv (.t 7)⟩,
  ⟨some 33, none, [], .ib .add .i64 (.t 32) (.k (.v (.int .i64 1)))⟩,
  ⟨some 7, none, [], .mv (.t 33)⟩]))))))
 (.seq (.reg false [⟨some 43, none, [], .mv (.t 6)⟩,
  ⟨some 44, none, [], .call 11 [(.t 43)]⟩,
  ⟨some 42, none, [], .mv (.t 44)⟩,
  ⟨some 45, none, [], .ext (.t 42) 0⟩,
  ⟨some 46, none, [], .ext (.t 42) 1⟩,
  ⟨some 8, none, [], .mv (.t 45)⟩,
  ⟨some 9, none, [], .mv (.t 46)⟩])
 (.seq (.reg false [⟨some 47, none, [], .mv (.t 0)⟩,
  ⟨some 48, none, [], .len false (.t 47)⟩,
  ⟨some 49, none, [], .ib .lt .i64 (.t 48) (.k (.v (.int .i64 6)))⟩,
  ⟨some 10, none, [], .mv (.t 49)⟩])
 (.seq (.seq (.reg false [⟨some 50, none, [], .mv (.t 9)⟩,
  ⟨some 51, none, [], .ib .eq .i64 (.t 50) (.k (.v (.int .i64 0)))⟩,
  ⟨some 52, none, [], .mv (.t 10)⟩,
  ⟨some 53, none, [], .bb true (.t 51) (.t 52)⟩,
  ⟨some 54, none, [], .mv (.t 53)⟩,
  ⟨some 55, some (54, false), [], .mv (.t 6)⟩,
  ⟨some 56, some (54, false), [], .call 13 [(.t 55)]⟩,
  ⟨some 57, some (54, false), [], .mv (.t 10)⟩,
  ⟨some 58, some (54, false), [], .bb true (.t 56) (.t 57)⟩,
  ⟨some 59, none, [], .pick (.t 54) (.k (.v (.bool true))) (.t 58)⟩])
 (.cond (.t 59)
 (.seq (.reg false [⟨some 4, none, [], .mv (.k (.v (.bool false)))⟩])
 .ret)
 .skip))
 (.seq (.seq (.reg false [⟨some 60, none, [], .mv (.t 10)⟩,
  ⟨some 61, none, [], .bnot (.t 60)⟩])
 (.cond (.t 61)
 (.seq (.reg false [⟨some 62, none, [], .mv (.t 8)⟩,
  ⟨some 63, none, [], .len false (.t 62)⟩,
  ⟨some 64, none, [], .ib .eq .i64 (.t 63) (.k (.v (.int .i64 0)))⟩,
  ⟨some 4, none, [], .mv (.t 64)⟩])
 .ret)
 .skip))
 (.seq (.reg false [⟨some 66, none, [], .mv (.t 8)⟩,
  ⟨some 67, none, [], .call 17 [(.t 66)]⟩,
  ⟨some 65, none, [], .mv (.t 67)⟩,
  ⟨some 68, none, [], .ext (.t 65) 0⟩,
  ⟨some 69, none, [], .ext (.t 65) 1⟩,
  ⟨some 70, none, [], .ext (.t 65) 2⟩,
  ⟨some 11, none, [], .mv (.t 68)⟩,
  ⟨some 12, none, [], .mv (.t 69)⟩,
  ⟨some 13, none, [], .mv (.t 70)⟩])
 (.seq (.reg false [⟨some 71, none, [], .mv (.t 12)⟩,
  ⟨some 72, none, [], .ib .eq .i64 (.t 71) (.k (.v (.int .i64 0)))⟩,
  ⟨some 73, none, [], .mv (.t 72)⟩,
  ⟨some 74, some (73, true), [], .mv (.t 11)⟩,
  ⟨some 75, some (73, true), [], .call 10 [(.t 74)]⟩,
  ⟨some 76, some (73, true), [], .mv (.t 6)⟩,
  ⟨some 77, some (73, true), [], .call 10 [(.t 76)]⟩,
  ⟨some 78, some (73, true), [], .call 19 [(.t 75), (.t 77)]⟩,
  ⟨some 79, none, [], .pick (.t 73) (.t 78) (.k (.v (.bool false)))⟩,
  ⟨some 4, none, [], .mv (.t 79)⟩])
 .ret))))))))))))
theorem comp_7 : compF Try.prog Try.f7 = some (ic_7, [.t 4], 80) := by kernel_rfl
-- ros 7 [(some (.ints 44 .u64)), (some (.bs 5))] TYS [(.ints 44 .u64), (.bytes 5)]

/-- tollbar/tollbarlaw03.awake -/
def ic_8 : IC := (.seq (.reg false [⟨some 0, none, [], .mv (.k (.v (.bool false)))⟩])
 (.seq (.reg false [⟨some 10, none, [], .bsl (.bs 5) 1 [(.v (.int .u8 0))] [(0, 1, (.k (.v (.int .u8 97))))]⟩,
  ⟨some 11, none, [], .cvs (.t 10)⟩,
  ⟨some 12, none, [], .build [(.v (.int .u64 0)), .nsl, .nsl] [(0, 1, (.k (.v (.int .u64 2)))), (1, 1, (.t 11))]⟩,
  ⟨some 13, none, [], .bsl (.row 46 (.st [(.int .u64), (.bytes 5), (.self 46)])) 1 [(.v (.int .u64 0)), .nsl, .nsl] [(0, 3, (.t 12))]⟩,
  ⟨some 14, none, [], .build [(.v (.int .u64 0)), .nsl, .nsl] [(0, 1, (.k (.v (.int .u64 1)))), (2, 1, (.t 13))]⟩,
  ⟨some 15, none, [], .bsl (.row 46 (.st [(.int .u64), (.bytes 5), (.self 46)])) 1 [(.v (.int .u64 0)), .nsl, .nsl] [(0, 3, (.t 14))]⟩,
  ⟨some 1, none, [], .mv (.t 15)⟩])
 (.seq (.reg false [⟨some 17, none, [], .mv (.t 1)⟩,
  ⟨some 18, none, [], .call 11 [(.t 17)]⟩,
  ⟨some 16, none, [], .mv (.t 18)⟩,
  ⟨some 19, none, [], .ext (.t 16) 0⟩,
  ⟨some 20, none, [], .ext (.t 16) 1⟩,
  ⟨some 2, none, [], .mv (.t 19)⟩,
  ⟨some 3, none, [], .mv (.t 20)⟩])
 (.seq (.reg false [⟨some 22, none, [], .bsl (.bs 5) 5 [(.v (.int .u8 0)), (.v (.int .u8 0)), (.v (.int .u8 0)), (.v (.int .u8 0)), (.v (.int .u8 0))] [(0, 1, (.k (.v (.int .u8 1)))), (1, 1, (.k (.v (.int .u8 3)))), (2, 1, (.k (.v (.int .u8 2)))), (3, 1, (.k (.v (.int .u8 1)))), (4, 1, (.k (.v (.int .u8 97))))]⟩,
  ⟨some 23, none, [], .call 17 [(.t 22)]⟩,
  ⟨some 21, none, [], .mv (.t 23)⟩,
  ⟨some 24, none, [], .ext (.t 21) 0⟩,
  ⟨some 25, none, [], .ext (.t 21) 1⟩,
  ⟨some 26, none, [], .ext (.t 21) 2⟩,
  ⟨some 4, none, [], .mv (.t 24)⟩,
  ⟨some 5, none, [], .mv (.t 25)⟩,
  ⟨some 6, none, [], .mv (.t 26)⟩])
 (.seq (.reg false [⟨some 28, none, [], .bsl (.bs 5) 3 [(.v (.int .u8 0)), (.v (.int .u8 0)), (.v (.int .u8 0))] [(0, 1, (.k (.v (.int .u8 2)))), (1, 1, (.k (.v (.int .u8 5)))), (2, 1, (.k (.v (.int .u8 1))))]⟩,
  ⟨some 29, none, [], .call 17 [(.t 28)]⟩,
  ⟨some 27, none, [], .mv (.t 29)⟩,
  ⟨some 30, none, [], .ext (.t 27) 0⟩,
  ⟨some 31, none, [], .ext (.t 27) 1⟩,
  ⟨some 32, none, [], .ext (.t 27) 2⟩,
  ⟨some 7, none, [], .mv (.t 30)⟩,
  ⟨some 8, none, [], .mv (.t 31)⟩,
  ⟨some 9, none, [], .mv (.t 32)⟩])
 (.seq (.reg false [⟨some 33, none, [], .mv (.t 2)⟩,
  ⟨some 34, none, [], .b2s (.t 33)⟩,
  ⟨some 35, none, [], .sb .eq (.t 34) (.k (.str [1, 3, 2, 1, 97]))⟩,
  ⟨some 36, none, [], .mv (.t 35)⟩,
  ⟨some 37, some (36, true), [], .mv (.t 3)⟩,
  ⟨some 38, some (36, true), [], .ib .eq .i64 (.t 37) (.k (.v (.int .i64 0)))⟩,
  ⟨some 39, none, [], .pick (.t 36) (.t 38) (.k (.v (.bool false)))⟩,
  ⟨some 40, none, [], .mv (.t 39)⟩,
  ⟨some 41, some (40, true), [], .mv (.t 4)⟩,
  ⟨some 42, some (40, true), [], .len false (.t 41)⟩,
  ⟨some 43, some (40, true), [], .ib .eq .i64 (.t 42) (.k (.v (.int .i64 1)))⟩,
  ⟨some 44, none, [], .pick (.t 40) (.t 43) (.k (.v (.bool false)))⟩,
  ⟨some 45, none, [], .mv (.t 44)⟩,
  ⟨some 46, some (45, true), [], .mv (.t 4)⟩,
  ⟨some 47, some (45, true), [], .idx (.t 46) (.k (.v (.int .i64 0))) 3⟩,
  ⟨some 48, some (45, true), [], .fld (.t 47) 2⟩,
  ⟨some 49, some (45, true), [], .ld (.t 48)⟩,
  ⟨some 50, some (45, true), [], .len false (.t 49)⟩,
  ⟨some 51, some (45, true), [], .ib .eq .i64 (.t 50) (.k (.v (.int .i64 1)))⟩,
  ⟨some 52, none, [], .pick (.t 45) (.t 51) (.k (.v (.bool false)))⟩,
  ⟨some 53, none, [], .mv (.t 52)⟩,
  ⟨some 54, some (53, true), [], .mv (.t 5)⟩,
  ⟨some 55, some (53, true), [], .ib .eq .i64 (.t 54) (.k (.v (.int .i64 0)))⟩,
  ⟨some 56, none, [], .pick (.t 53) (.t 55) (.k (.v (.bool false)))⟩,
  ⟨some 57, none, [], .mv (.t 56)⟩,
  ⟨some 58, some (57, true), [], .mv (.t 8)⟩,
  ⟨some 59, some (57, true), [], .ib .eq .i64 (.t 58) (.k (.v (.int .i64 10)))⟩,
  ⟨some 60, none, [], .pick (.t 57) (.t 59) (.k (.v (.bool false)))⟩,
  ⟨some 61, none, [], .mv (.t 60)⟩,
  ⟨some 62, some (61, true), [], .mv (.t 9)⟩,
  ⟨some 63, some (61, true), [], .ib .eq .i64 (.t 62) (.k (.v (.int .i64 2)))⟩,
  ⟨some 64, none, [], .pick (.t 61) (.t 63) (.k (.v (.bool false)))⟩,
  ⟨some 65, none, [], .mv (.t 64)⟩,
  ⟨some 66, some (65, true), [], .mv (.t 1)⟩,
  ⟨some 67, some (65, true), [], .call 13 [(.t 66)]⟩,
  ⟨some 68, none, [], .pick (.t 65) (.t 67) (.k (.v (.bool false)))⟩,
  ⟨some 69, none, [], .mv (.t 68)⟩,
  ⟨some 70, some (69, true), [], .mv (.t 1)⟩,
  ⟨some 71, some (69, true), [], .call 15 [(.t 70)]⟩,
  ⟨some 72, some (69, true), [], .ib .eq .i64 (.t 71) (.k (.v (.int .i64 5)))⟩,
  ⟨some 73, none, [], .pick (.t 69) (.t 72) (.k (.v (.bool false)))⟩,
  ⟨some 74, none, [], .mv (.t 73)⟩,
  ⟨some 75, some (74, true), [], .bsl (.bs 5) 1 [(.v (.int .u8 0))] [(0, 1, (.k (.v (.int .u8 97))))]⟩,
  ⟨some 76, some (74, true), [], .cvs (.t 75)⟩,
  ⟨some 77, some (74, true), [], .build [(.v (.int .u64 0)), .nsl, .nsl] [(0, 1, (.k (.v (.int .u64 1)))), (1, 1, (.t 76))]⟩,
  ⟨some 78, some (74, true), [], .bsl (.row 46 (.st [(.int .u64), (.bytes 5), (.self 46)])) 1 [(.v (.int .u64 0)), .nsl, .nsl] [(0, 3, (.t 77))]⟩,
  ⟨some 79, some (74, true), [], .call 13 [(.t 78)]⟩,
  ⟨some 80, some (74, true), [], .bnot (.t 79)⟩,
  ⟨some 81, none, [], .pick (.t 74) (.t 80) (.k (.v (.bool false)))⟩,
  ⟨some 0, none, [], .mv (.t 81)⟩])
 .ret))))))
theorem comp_8 : compF Try.prog Try.f8 = some (ic_8, [.t 0], 82) := by kernel_rfl
-- ros 8 [] TYS []

/-- tollbar/tollbarlaw03.many -/
def ic_9 : IC := (.seq (.reg false [⟨some 2, none, [], .mv (.k (.v (.int .i64 0)))⟩])
 (.seq (.reg false [⟨some 5, none, [], .mv (.t 0)⟩,
  ⟨some 6, none, [], .len false (.t 5)⟩,
  ⟨some 3, none, [], .mv (.t 6)⟩])
 (.seq (.seq (.reg false [⟨some 4, none, [], .mv (.k (.v (.int .i64 0)))⟩])
 (.block 0
 (.loop
 (.seq (.seq (.reg false [⟨some 7, none, [], .mv (.t 4)⟩,
  ⟨some 8, none, [], .mv (.t 0)⟩,
  ⟨some 9, none, [], .len false (.t 8)⟩,
  ⟨some 10, none, [], .ib .lt .i64 (.t 7) (.t 9)⟩])
 (.cond (.t 10)
 .skip
 (.exit 0)))
 (.seq (.block 1
 (.reg true [⟨some 13, none, [], .mv (.t 3)⟩,
  ⟨some 14, none, [], .mv (.t 0)⟩,
  ⟨some 15, none, [], .mv (.t 4)⟩,
  ⟨some 16, none, [1, 2], .idx (.t 14) (.t 15) 3⟩,
  ⟨some 17, none, [3, 1, 2], .fld (.t 16) 2⟩,
  ⟨some 18, none, [4, 3, 1, 2], .ld (.t 17)⟩,
  ⟨some 19, none, [5, 4, 3, 1, 2], .call 9 [(.t 18)]⟩,
  ⟨some 20, none, [], .mv (.t 0)⟩,
  ⟨some 21, none, [], .mv (.t 4)⟩,
  ⟨some 22, none, [7, 8], .idx (.t 20) (.t 21) 3⟩,
  ⟨some 23, none, [9, 7, 8], .fld (.t 22) 1⟩,
  ⟨some 24, none, [10, 9, 7, 8], .ld (.t 23)⟩,
  ⟨some 25, none, [11, 10, 9, 7, 8], .len false (.t 24)⟩,
  ⟨some 26, none, [12, 11, 10, 9, 7, 8], .ib .quo .i64 (.t 25) (.k (.v (.int .i64 100)))⟩,
  ⟨some 27, none, [6, 5, 4, 3, 1, 2, 13, 12, 11, 10, 9, 7, 8], .ib .add .i64 (.t 19) (.t 26)⟩,
  ⟨some 28, none, [0, 14, 6, 5, 4, 3, 1, 2, 13, 12, 11, 10, 9, 7, 8], .ib .add .i64 (.t 13) (.t 27)⟩,
  ⟨some 3, none, [15, 0, 14, 6, 5, 4, 3, 1, 2, 13, 12, 11, 10, 9, 7, 8], .mv (.t 28)⟩]))
 (.reg false [⟨some 11, none, [], .mv (.t 4)⟩,
  ⟨some 12, none, [], .ib .add .i64 (.t 11) (.k (.v (.int .i64 1)))⟩,
  ⟨some 4, none, [], .mv (.t 12)⟩]))))))
 (.seq (.reg false [⟨some 29, none, [], .mv (.t 3)⟩,
  ⟨some 2, none, [], .mv (.t 29)⟩])
 .ret))))
theorem comp_9 : compF Try.prog Try.f9 = some (ic_9, [.t 2], 30) := by kernel_rfl
-- ros 9 [(some (.row 46 (.st [(.int .u64), (.bytes 5), (.self 46)])))] TYS [(.self 46)]

/-- tollbar/tollbarlaw03.plain -/
def ic_10 : IC := (.seq (.reg false [⟨some 2, none, [], .mv (.k .nsl)⟩])
 (.seq (.reg false [⟨some 3, none, [], .mv (.k .nsl)⟩])
 (.seq (.seq (.reg false [⟨some 4, none, [], .mv (.k (.v (.int .i64 0)))⟩])
 (.block 0
 (.loop
 (.seq (.seq (.reg false [⟨some 5, none, [], .mv (.t 4)⟩,
  ⟨some 6, none, [], .mv (.t 0)⟩,
  ⟨some 7, none, [], .len false (.t 6)⟩,
  ⟨some 8, none, [], .ib .lt .i64 (.t 5) (.t 7)⟩])
 (.cond (.t 8)
 .skip
 (.exit 0)))
 (.seq (.block 1
 (.reg true [⟨some 11, none, [], .mv (.t 3)⟩,
  ⟨some 12, none, [], .mv (.t 0)⟩,
  ⟨some 13, none, [], .mv (.t 4)⟩,
  ⟨some 14, none, [1, 2], .idx (.t 12) (.t 13) 3⟩,
  ⟨some 15, none, [3, 1, 2], .fld (.t 14) 0⟩,
  ⟨some 16, none, [4, 3, 1, 2], .ld (.t 15)⟩,
  ⟨some 17, none, [], .mv (.t 0)⟩,
  ⟨some 18, none, [], .mv (.t 4)⟩,
  ⟨some 19, none, [6, 7], .idx (.t 17) (.t 18) 3⟩,
  ⟨some 20, none, [8, 6, 7], .fld (.t 19) 1⟩,
  ⟨some 21, none, [9, 8, 6, 7], .ld (.t 20)⟩,
  ⟨some 22, none, [10, 9, 8, 6, 7], .b2s (.t 21)⟩,
  ⟨some 23, none, [], .mv (.t 0)⟩,
  ⟨some 24, none, [], .mv (.t 4)⟩,
  ⟨some 25, none, [12, 13], .idx (.t 23) (.t 24) 3⟩,
  ⟨some 26, none, [14, 12, 13], .fld (.t 25) 2⟩,
  ⟨some 27, none, [15, 14, 12, 13], .ld (.t 26)⟩,
  ⟨some 28, none, [16, 15, 14, 12, 13], .call 10 [(.t 27)]⟩,
  ⟨some 29, none, [5, 4, 3, 1, 2, 11, 10, 9, 8, 6, 7, 17, 16, 15, 14, 12, 13], .build [(.v (.int .u64 0)), (.str []), .nsl] [(0, 1, (.t 16)), (1, 1, (.t 22)), (2, 1, (.t 28))]⟩,
  ⟨some 30, none, [18, 5, 4, 3, 1, 2, 11, 10, 9, 8, 6, 7, 17, 16, 15, 14, 12, 13], .bsl (.row 49 (.st [(.int .u64), .str, (.self 49)])) 1 [(.v (.int .u64 0)), (.str []), .nsl] [(0, 3, (.t 29))]⟩,
  ⟨some 31, none, [0, 19, 18, 5, 4, 3, 1, 2, 11, 10, 9, 8, 6, 7, 17, 16, 15, 14, 12, 13], .app (.row 49 (.st [(.int .u64), .str, (.self 49)])) 48 (.t 11) (.t 30)⟩,
  ⟨some 3, none, [20, 0, 19, 18, 5, 4, 3, 1, 2, 11, 10, 9, 8, 6, 7, 17, 16, 15, 14, 12, 13], .mv (.t 31)⟩]))
 (.reg false [⟨some 9, none, [], .mv (.t 4)⟩,
  ⟨some 10, none, [], .ib .add .i64 (.t 9) (.k (.v (.int .i64 1)))⟩,
  ⟨some 4, none, [], .mv (.t 10)⟩]))))))
 (.seq (.reg false [⟨some 32, none, [], .mv (.t 3)⟩,
  ⟨some 2, none, [], .mv (.t 32)⟩])
 .ret))))
theorem comp_10 : compF Try.prog Try.f10 = some (ic_10, [.t 2], 33) := by kernel_rfl
-- ros 10 [(some (.row 46 (.st [(.int .u64), (.bytes 5), (.self 46)])))] TYS [(.self 46)]

/-- tollbar/tlv.Put -/
def ic_11 : IC := (.seq (.reg false [⟨some 2, none, [], .mv (.k .nsl)⟩,
  ⟨some 3, none, [], .mv (.k (.v (.int .i64 0)))⟩])
 (.seq (.seq (.reg false [⟨some 6, none, [], .mv (.t 0)⟩,
  ⟨some 7, none, [], .call 13 [(.t 6)]⟩,
  ⟨some 8, none, [], .bnot (.t 7)⟩])
 (.cond (.t 8)
 (.seq (.reg false [⟨some 2, none, [], .mv (.k .nsl)⟩,
  ⟨some 3, none, [], .mv (.k (.v (.int .i64 1)))⟩])
 .ret)
 .skip))
 (.seq (.reg false [⟨some 4, none, [], .new 27 [.nsl]⟩])
 (.seq (.reg false [⟨some 5, none, [], .new 50 [(.v .nilFunc)]⟩])
 (.seq (.reg false [⟨some 9, none, [], .mkfn 20 [(.t 4), (.t 5)]⟩,
  ⟨none, none, [], .st (.t 5) (.t 9) 1⟩])
 (.seq (.reg false [⟨some 10, none, [], .ld (.t 5)⟩,
  ⟨some 11, none, [], .mv (.t 0)⟩,
  ⟨some 12, none, [], .callv (.t 10) [(.t 11)]⟩])
 (.seq (.reg false [⟨some 13, none, [], .ld (.t 4)⟩,
  ⟨some 2, none, [], .mv (.t 13)⟩,
  ⟨some 3, none, [], .mv (.k (.v (.int .i64 0)))⟩])
 .ret)))))))
theorem comp_11 : compF Try.prog Try.f11 = some (ic_11, [.t 2, .t 3], 14) := by kernel_rfl
-- ros 11 [(some (.row 46 (.st [(.int .u64), (.bytes 5), (.self 46)])))] TYS [(.self 46)]

/-- tollbar/tollbarref03.Put -/
def ic_12 : IC := (.seq (.reg false [⟨some 2, none, [], .mv (.k (.str []))⟩,
  ⟨some 3, none, [], .mv (.k (.v (.int .i64 0)))⟩])
 (.seq (.reg false [⟨some 5, none, [], .mv (.t 0)⟩,
  ⟨some 6, none, [], .call 14 [(.t 5)]⟩,
  ⟨some 4, none, [], .mv (.t 6)⟩])
 (.seq (.seq (.reg false [⟨some 7, none, [], .mv (.t 4)⟩,
  ⟨some 8, none, [], .bnot (.t 7)⟩])
 (.cond (.t 8)
 (.seq (.reg false [⟨some 2, none, [], .mv (.k (.str []))⟩,
  ⟨some 3, none, [], .mv (.k (.v (.int .i64 1)))⟩])
 .ret)
 .skip))
 (.seq (.reg false [⟨some 9, none, [], .mv (.t 0)⟩,
  ⟨some 10, none, [], .call 16 [(.t 9)]⟩,
  ⟨some 2, none, [], .mv (.t 10)⟩,
  ⟨some 3, none, [], .mv (.k (.v (.int .i64 0)))⟩])
 .ret))))
theorem comp_12 : compF Try.prog Try.f12 = some (ic_12, [.t 2, .t 3], 11) := by kernel_rfl
-- ros 12 [(some (.row 49 (.st [(.int .u64), .str, (.self 49)])))] TYS [(.self 49)]

/-- tollbar/tlv.Check -/
def ic_13 : IC := (.seq (.reg false [⟨some 2, none, [], .mv (.k (.v (.bool false)))⟩])
 (.seq (.reg false [⟨some 3, none, [], .mv (.t 0)⟩,
  ⟨some 4, none, [], .call 23 [(.t 3), (.k (.v (.int .i64 1)))]⟩,
  ⟨some 5, none, [], .mv (.t 4)⟩,
  ⟨some 6, some (5, true), [], .mv (.t 0)⟩,
  ⟨some 7, some (5, true), [], .call 15 [(.t 6)]⟩,
  ⟨some 8, some (5, true), [], .ib .le .i64 (.t 7) (.k (.v (.int .i64 8192)))⟩,
  ⟨some 9, none, [], .pick (.t 5) (.t 8) (.k (.v (.bool false)))⟩,
  ⟨some 2, none, [], .mv (.t 9)⟩])
 .ret))
theorem comp_13 : compF Try.prog Try.f13 = some (ic_13, [.t 2], 10) := by kernel_rfl
-- ros 13 [(some (.row 46 (.st [(.int .u64), (.bytes 5), (.self 46)])))] TYS [(.self 46)]

/-- tollbar/tollbarref03.Check -/
def ic_14 : IC := (.seq (.reg false [⟨some 2, none, [], .mv (.k (.v (.bool false)))⟩])
 (.seq (.reg false [⟨some 3, none, [], .mv (.t 0)⟩,
  ⟨some 4, none, [], .call 24 [(.t 3), (.k (.v (.int .i64 1)))]⟩,
  ⟨some 5, none, [], .mv (.t 4)⟩,
  ⟨some 6, some (5, true), [], .mv (.t 0)⟩,
  ⟨some 7, some (5, true), [], .call 16 [(.t 6)]⟩,
  ⟨some 8, some (5, true), [], .len true (.t 7)⟩,
  ⟨some 9, some (5, true), [], .ib .le .i64 (.t 8) (.k (.v (.int .i64 8192)))⟩,
  ⟨some 10, none, [], .pick (.t 5) (.t 9) (.k (.v (.bool false)))⟩,
  ⟨some 2, none, [], .mv (.t 10)⟩])
 .ret))
theorem comp_14 : compF Try.prog Try.f14 = some (ic_14, [.t 2], 11) := by kernel_rfl
-- ros 14 [(some (.row 49 (.st [(.int .u64), .str, (.self 49)])))] TYS [(.self 49)]

/-- tollbar/tlv.Size -/
def ic_15 : IC := (.seq (.reg false [⟨some 2, none, [], .mv (.k (.v (.int .i64 0)))⟩])
 (.seq (.reg false [⟨some 3, none, [], .mv (.k (.v (.int .i64 0)))⟩])
 (.seq (.seq (.reg false [⟨some 7, none, [], .mv (.t 0)⟩,
  ⟨some 8, none, [], .len false (.t 7)⟩,
  ⟨some 9, none, [], .mv (.k (.v (.int .i64 0)))⟩])
 (.block 0
 (.loop
 (.seq (.reg false [⟨some 10, none, [], .ib .lt .i64 (.t 9) (.t 8)⟩])
 (.seq (.cond (.t 10)
 .skip
 (.exit 0))
 (.seq (.block 1
 (.seq (.reg false [⟨some 11, none, [], .idx (.t 7) (.t 9) 3⟩,
  ⟨some 12, none, [], .lda (.t 11) 3⟩,
  ⟨some 5, none, [], .new 46 [(.v (.int .u64 0)), .nsl, .nsl]⟩,
  ⟨none, none, [], .st (.t 5) (.t 12) 3⟩])
 (.seq (.reg false [⟨some 13, none, [], .lda (.t 5) 3⟩,
  ⟨some 14, none, [], .call 22 [(.t 13)]⟩,
  ⟨some 6, none, [], .mv (.t 14)⟩])
 (.reg false [⟨some 15, none, [], .mv (.t 3)⟩,
  ⟨some 16, none, [], .fld (.t 5) 0⟩,
  ⟨some 17, none, [], .ld (.t 16)⟩,
  ⟨some 18, none, [], .call 25 [(.t 17)]⟩,
  ⟨some 19, none, [], .mv (.t 6)⟩,
  ⟨some 20, none, [], .conv .u64 (.t 19)⟩,
  ⟨some 21, none, [], .call 25 [(.t 20)]⟩,
  ⟨some 22, none, [], .ib .add .i64 (.t 18) (.t 21)⟩,
  ⟨some 23, none, [], .mv (.t 6)⟩,
  ⟨some 24, none, [], .ib .add .i64 (.t 22) (.t 23)⟩,
  ⟨some 25, none, [], .ib .add .i64 (.t 15) (.t 24)⟩,
  ⟨some 3, none, [], .mv (.t 25)⟩]))))
 (.reg false [⟨some 26, none, [], .ib .add .i64 (.t 9) (.k (.v (.int .i64 1)))⟩,
  ⟨some 9, none, [], .mv (.t 26)⟩])))))))
 (.seq (.reg false [⟨some 27, none, [], .mv (.t 3)⟩,
  ⟨some 2, none, [], .mv (.t 27)⟩])
 .ret))))
theorem comp_15 : compF Try.prog Try.f15 = some (ic_15, [.t 2], 28) := by kernel_rfl
-- ros 15 [(some (.row 46 (.st [(.int .u64), (.bytes 5), (.self 46)])))] TYS [(.self 46)]

/-- tollbar/tollbarref03.All -/
def ic_16 : IC := (.seq (.reg false [⟨some 2, none, [], .mv (.k (.str []))⟩])
 (.seq (.reg false [⟨some 3, none, [], .mv (.k (.str []))⟩])
 (.seq (.seq (.reg false [⟨some 4, none, [], .mv (.k (.v (.int .i64 0)))⟩])
 (.block 0
 (.loop
 (.seq (.seq (.reg false [⟨some 6, none, [], .mv (.t 4)⟩,
  ⟨some 7, none, [], .mv (.t 0)⟩,
  ⟨some 8, none, [], .len false (.t 7)⟩,
  ⟨some 9, none, [], .ib .lt .i64 (.t 6) (.t 8)⟩])
 (.cond (.t 9)
 .skip
 (.exit 0)))
 (.seq (.block 1
 (.seq (.reg false [⟨some 12, none, [], .mv (.t 0)⟩,
  ⟨some 13, none, [], .mv (.t 4)⟩,
  ⟨some 14, none, [], .idx (.t 12) (.t 13) 3⟩,
  ⟨some 15, none, [], .fld (.t 14) 1⟩,
  ⟨some 16, none, [], .ld (.t 15)⟩,
  ⟨some 5, none, [], .mv (.t 16)⟩])
 (.seq (.seq (.reg false [⟨some 17, none, [], .mv (.t 0)⟩,
  ⟨some 18, none, [], .mv (.t 4)⟩,
  ⟨some 19, none, [], .idx (.t 17) (.t 18) 3⟩,
  ⟨some 20, none, [], .fld (.t 19) 0⟩,
  ⟨some 21, none, [], .ld (.t 20)⟩,
  ⟨some 22, none, [], .ib .rem .u64 (.t 21) (.k (.v (.int .u64 2)))⟩,
  ⟨some 23, none, [], .ib .eq .u64 (.t 22) (.k (.v (.int .u64 1)))⟩])
 (.cond (.t 23)
 (.reg false [⟨some 24, none, [], .mv (.t 0)⟩,
  ⟨some 25, none, [], .mv (.t 4)⟩,
  ⟨some 26, none, [], .idx (.t 24) (.t 25) 3⟩,
  ⟨some 27, none, [], .fld (.t 26) 2⟩,
  ⟨some 28, none, [], .ld (.t 27)⟩,
  ⟨some 29, none, [], .call 16 [(.t 28)]⟩,
  ⟨some 5, none, [], .mv (.t 29)⟩])
 .skip))
 (.reg false [⟨some 30, none, [], .mv (.t 3)⟩,
  ⟨some 31, none, [], .mv (.t 0)⟩,
  ⟨some 32, none, [], .mv (.t 4)⟩,
  ⟨some 33, none, [], .idx (.t 31) (.t 32) 3⟩,
  ⟨some 34, none, [], .fld (.t 33) 0⟩,
  ⟨some 35, none, [], .ld (.t 34)⟩,
  ⟨some 36, none, [], .call 26 [(.t 35)]⟩,
  ⟨some 37, none, [], .mv (.t 5)⟩,
  ⟨some 38, none, [], .len true (.t 37)⟩,
  ⟨some 39, none, [], .conv .u64 (.t 38)⟩,
  ⟨some 40, none, [], .call 26 [(.t 39)]⟩,
  ⟨some 41, none, [], .sb .add (.t 36) (.t 40)⟩,
  ⟨some 42, none, [], .mv (.t 5)⟩,
  ⟨some 43, none, [], .sb .add (.t 41) (.t 42)⟩,
  ⟨some 44, none, [], .sb .add (.t 30) (.t 43)⟩,
  ⟨some 3, none, [], .mv (.t 44)⟩]))))
 (.reg false [⟨some 10, none, [], .mv (.t 4)⟩,
  ⟨some 11, none, [], .ib .add .i64 (.t 10) (.k (.v (.int .i64 1)))⟩,
  ⟨some 4, none, [], .mv (.t 11)⟩]))))))
 (.seq (.reg false [⟨some 45, none, [], .mv (.t 3)⟩,
  ⟨some 2, none, [], .mv (.t 45)⟩])
 .ret))))
theorem comp_16 : compF Try.prog Try.f16 = some (ic_16, [.t 2], 46) := by kernel_rfl
-- ros 16 [(some (.row 49 (.st [(.int .u64), .str, (.self 49)])))] TYS [(.self 49)]

/-- tollbar/tlv.Get -/
def ic_17 : IC := (.seq (.reg false [⟨some 2, none, [], .mv (.k .nsl)⟩,
  ⟨some 3, none, [], .mv (.k (.v (.int .i64 0)))⟩,
  ⟨some 4, none, [], .mv (.k (.v (.int .i64 0)))⟩])
 (.seq (.seq (.reg false [⟨some 7, none, [], .mv (.t 0)⟩,
  ⟨some 8, none, [], .len false (.t 7)⟩,
  ⟨some 9, none, [], .ib .gt .i64 (.t 8) (.k (.v (.int .i64 8192)))⟩])
 (.cond (.t 9)
 (.seq (.reg false [⟨some 2, none, [], .mv (.k .nsl)⟩,
  ⟨some 3, none, [], .mv (.k (.v (.int .i64 14)))⟩,
  ⟨some 4, none, [], .mv (.k (.v (.int .i64 0)))⟩])
 .ret)
 .skip))
 (.seq (.reg false [⟨some 10, none, [], .build [(.v (.int .i64 0)), (.v (.int .i64 0))] []⟩,
  ⟨some 11, none, [], .box 59 2 (.t 10)⟩,
  ⟨some 5, none, [], .mv (.t 11)⟩])
 (.seq (.reg false [⟨some 12, none, [], .mv (.t 5)⟩,
  ⟨some 13, none, [], .mv (.t 0)⟩,
  ⟨some 14, none, [], .call 28 [(.t 13)]⟩,
  ⟨some 15, none, [], .mv (.t 0)⟩,
  ⟨some 16, none, [], .len false (.t 15)⟩,
  ⟨some 17, none, [], .call 27 [(.t 12), (.t 14), (.t 16), (.k (.v (.int .i64 1)))]⟩,
  ⟨some 6, none, [], .mv (.t 17)⟩])
 (.seq (.seq (.reg false [⟨some 18, none, [], .mv (.t 5)⟩,
  ⟨some 19, none, [], .chk (.t 18)⟩,
  ⟨some 20, none, [], .fld (.t 19) 0⟩,
  ⟨some 21, none, [], .ld (.t 20)⟩,
  ⟨some 22, none, [], .ib .ne .i64 (.t 21) (.k (.v (.int .i64 0)))⟩])
 (.cond (.t 22)
 (.seq (.reg true [⟨some 23, none, [], .mv (.t 5)⟩,
  ⟨some 24, none, [0], .chk (.t 23)⟩,
  ⟨some 25, none, [1, 0], .fld (.t 24) 0⟩,
  ⟨some 26, none, [2, 1, 0], .ld (.t 25)⟩,
  ⟨some 27, none, [], .mv (.t 5)⟩,
  ⟨some 28, none, [4], .chk (.t 27)⟩,
  ⟨some 29, none, [5, 4], .fld (.t 28) 1⟩,
  ⟨some 30, none, [6, 5, 4], .ld (.t 29)⟩,
  ⟨some 2, none, [], .mv (.k .nsl)⟩,
  ⟨some 3, none, [3, 2, 1, 0, 8], .mv (.t 26)⟩,
  ⟨some 4, none, [7, 6, 5, 4, 9, 3, 2, 1, 0, 8], .mv (.t 30)⟩])
 .ret)
 .skip))
 (.seq (.reg false [⟨some 31, none, [], .mv (.t 6)⟩,
  ⟨some 2, none, [], .mv (.t 31)⟩,
  ⟨some 3, none, [], .mv (.k (.v (.int .i64 0)))⟩,
  ⟨some 4, none, [], .mv (.k (.v (.int .i64 0)))⟩])
 .ret))))))
theorem comp_17 : compF Try.prog Try.f17 = some (ic_17, [.t 2, .t 3, .t 4], 32) := by kernel_rfl
-- ros 17 [(some (.bs 5))] TYS [(.bytes 5)]

/-- tollbar/tollbarref03.Get -/
def ic_18 : IC := (.seq (.reg false [⟨some 2, none, [], .mv (.k .nsl)⟩,
  ⟨some 3, none, [], .mv (.k (.v (.int .i64 0)))⟩,
  ⟨some 4, none, [], .mv (.k (.v (.int .i64 0)))⟩])
 (.seq (.seq (.reg false [⟨some 5, none, [], .mv (.t 0)⟩,
  ⟨some 6, none, [], .len true (.t 5)⟩,
  ⟨some 7, none, [], .ib .gt .i64 (.t 6) (.k (.v (.int .i64 8192)))⟩])
 (.cond (.t 7)
 (.seq (.reg false [⟨some 2, none, [], .mv (.k .nsl)⟩,
  ⟨some 3, none, [], .mv (.k (.v (.int .i64 14)))⟩,
  ⟨some 4, none, [], .mv (.k (.v (.int .i64 0)))⟩])
 .ret)
 .skip))
 (.seq (.reg false [⟨some 8, none, [], .mv (.t 0)⟩,
  ⟨some 9, none, [], .call 29 [(.t 8), (.k (.v (.int .i64 1))), (.k (.v (.int .i64 0)))]⟩,
  ⟨some 10, none, [], .ext (.t 9) 0⟩,
  ⟨some 11, none, [], .ext (.t 9) 1⟩,
  ⟨some 12, none, [], .ext (.t 9) 2⟩,
  ⟨some 2, none, [], .mv (.t 10)⟩,
  ⟨some 3, none, [], .mv (.t 11)⟩,
  ⟨some 4, none, [], .mv (.t 12)⟩])
 .ret)))
theorem comp_18 : compF Try.prog Try.f18 = some (ic_18, [.t 2, .t 3, .t 4], 13) := by kernel_rfl
-- ros 18 [none] TYS [.str]

/-- tollbar/tollbarref03.Same -/
def ic_19 : IC := (.seq (.reg false [⟨some 4, none, [], .mv (.k (.v (.bool false)))⟩])
 (.seq (.seq (.reg false [⟨some 7, none, [], .mv (.t 0)⟩,
  ⟨some 8, none, [], .len false (.t 7)⟩,
  ⟨some 9, none, [], .mv (.t 1)⟩,
  ⟨some 10, none, [], .len false (.t 9)⟩,
  ⟨some 11, none, [], .ib .ne .i64 (.t 8) (.t 10)⟩])
 (.cond (.t 11)
 (.seq (.reg false [⟨some 4, none, [], .mv (.k (.v (.bool false)))⟩])
 .ret)
 .skip))
 (.seq (.seq (.reg false [⟨some 5, none, [], .mv (.k (.v (.int .i64 0)))⟩])
 (.block 0
 (.loop
 (.seq (.seq (.reg false [⟨some 12, none, [], .mv (.t 5)⟩,
  ⟨some 13, none, [], .mv (.t 0)⟩,
  ⟨some 14, none, [], .len false (.t 13)⟩,
  ⟨some 15, none, [], .ib .lt .i64 (.t 12) (.t 14)⟩])
 (.cond (.t 15)
 .skip
 (.exit 0)))
 (.seq (.block 1
 (.seq (.reg true [⟨some 18, none, [], .mv (.t 0)⟩,
  ⟨some 19, none, [], .mv (.t 5)⟩,
  ⟨some 20, none, [0, 1], .idx (.t 18) (.t 19) 3⟩,
  ⟨some 21, none, [2, 0, 1], .fld (.t 20) 2⟩,
  ⟨some 22, none, [3, 2, 0, 1], .ld (.t 21)⟩,
  ⟨some 23, none, [], .mv (.t 1)⟩,
  ⟨some 24, none, [], .mv (.t 5)⟩,
  ⟨some 25, none, [5, 6], .idx (.t 23) (.t 24) 3⟩,
  ⟨some 26, none, [7, 5, 6], .fld (.t 25) 2⟩,
  ⟨some 27, none, [8, 7, 5, 6], .ld (.t 26)⟩,
  ⟨some 28, none, [4, 3, 2, 0, 1, 9, 8, 7, 5, 6], .call 19 [(.t 22), (.t 27)]⟩,
  ⟨some 6, none, [10, 4, 3, 2, 0, 1, 9, 8, 7, 5, 6], .mv (.t 28)⟩])
 (.seq (.reg true [⟨some 29, none, [], .mv (.t 0)⟩,
  ⟨some 30, none, [], .mv (.t 5)⟩,
  ⟨some 31, none, [0, 1], .idx (.t 29) (.t 30) 3⟩,
  ⟨some 32, none, [2, 0, 1], .fld (.t 31) 0⟩,
  ⟨some 33, none, [3, 2, 0, 1], .ld (.t 32)⟩,
  ⟨some 34, none, [], .mv (.t 1)⟩,
  ⟨some 35, none, [], .mv (.t 5)⟩,
  ⟨some 36, none, [5, 6], .idx (.t 34) (.t 35) 3⟩,
  ⟨some 37, none, [7, 5, 6], .fld (.t 36) 0⟩,
  ⟨some 38, none, [8, 7, 5, 6], .ld (.t 37)⟩,
  ⟨some 39, none, [4, 3, 2, 0, 1, 9, 8, 7, 5, 6], .ib .ne .u64 (.t 33) (.t 38)⟩,
  ⟨some 40, none, [10, 4, 3, 2, 0, 1, 9, 8, 7, 5, 6], .mv (.t 39)⟩,
  ⟨some 41, some (40, false), [11, 10, 4, 3, 2, 0, 1, 9, 8, 7, 5, 6], .mv (.t 0)⟩,
  ⟨some 42, some (40, false), [11, 10, 4, 3, 2, 0, 1, 9, 8, 7, 5, 6], .mv (.t 5)⟩,
  ⟨some 43, some (40, false), [12, 11, 10, 4, 3, 2, 0, 1, 9, 8, 7, 5, 6, 13], .idx (.t 41) (.t 42) 3⟩,
  ⟨some 44, some (40, false), [14, 12, 11, 10, 4, 3, 2, 0, 1, 9, 8, 7, 5, 6, 13], .fld (.t 43) 1⟩,
  ⟨some 45, some (40, false), [15, 14, 12, 11, 10, 4, 3, 2, 0, 1, 9, 8, 7, 5, 6, 13], .ld (.t 44)⟩,
  ⟨some 46, some (40, false), [11, 10, 4, 3, 2, 0, 1, 9, 8, 7, 5, 6], .mv (.t 1)⟩,
  ⟨some 47, some (40, false), [11, 10, 4, 3, 2, 0, 1, 9, 8, 7, 5, 6], .mv (.t 5)⟩,
  ⟨some 48, some (40, false), [17, 11, 10, 4, 3, 2, 0, 1, 9, 8, 7, 5, 6, 18], .idx (.t 46) (.t 47) 3⟩,
  ⟨some 49, some (40, false), [19, 17, 11, 10, 4, 3, 2, 0, 1, 9, 8, 7, 5, 6, 18], .fld (.t 48) 1⟩,
  ⟨some 50, some (40, false), [20, 19, 17, 11, 10, 4, 3, 2, 0, 1, 9, 8, 7, 5, 6, 18], .ld (.t 49)⟩,
  ⟨some 51, some (40, false), [16, 15, 14, 12, 11, 10, 4, 3, 2, 0, 1, 9, 8, 7, 5, 6, 13, 21, 20, 19, 17, 18], .sb .ne (.t 45) (.t 50)⟩,
  ⟨some 52, none, [11, 10, 4, 3, 2, 0, 1, 9, 8, 7, 5, 6, 22, 16, 15, 14, 12, 13, 21, 20, 19, 17, 18], .pick (.t 40) (.k (.v (.bool true))) (.t 51)⟩,
  ⟨some 53, none, [23, 11, 10, 4, 3, 2, 0, 1, 9, 8, 7, 5, 6, 22, 16, 15, 14, 12, 13, 21, 20, 19, 17, 18], .mv (.t 52)⟩,
  ⟨some 54, some (53, false), [24, 23, 11, 10, 4, 3, 2, 0, 1, 9, 8, 7, 5, 6, 22, 16, 15, 14, 12, 13, 21, 20, 19, 17, 18], .mv (.t 6)⟩,
  ⟨some 55, some (53, false), [25, 24, 23, 11, 10, 4, 3, 2, 0, 1, 9, 8, 7, 5, 6, 22, 16, 15, 14, 12, 13, 21, 20, 19, 17, 18], .bnot (.t 54)⟩,
  ⟨some 56, none, [24, 23, 11, 10, 4, 3, 2, 0, 1, 9, 8, 7, 5, 6, 22, 16, 15, 14, 12, 13, 21, 20, 19, 17, 18, 26, 25], .pick (.t 53) (.k (.v (.bool true))) (.t 55)⟩])
 (.cond (.t 56)
 (.seq (.reg false [⟨some 4, none, [], .mv (.k (.v (.bool false)))⟩])
 .ret)
 .skip))))
 (.reg false [⟨some 16, none, [], .mv (.t 5)⟩,
  ⟨some 17, none, [], .ib .add .i64 (.t 16) (.k (.v (.int .i64 1)))⟩,
  ⟨some 5, none, [], .mv (.t 17)⟩]))))))
 (.seq (.reg false [⟨some 4, none, [], .mv (.k (.v (.bool true)))⟩])
 .ret))))
theorem comp_19 : compF Try.prog Try.f19 = some (ic_19, [.t 4], 57) := by kernel_rfl
-- ros 19 [(some (.row 49 (.st [(.int .u64), .str, (.self 49)]))), (some (.row 49 (.st [(.int .u64), .str, (.self 49)])))] TYS [(.self 49), (.self 49)]

/-- tollbar/tlv.Put$1 -/
def ic_20 : IC := (.seq (.reg false [⟨some 6, none, [], .mv (.t 0)⟩,
  ⟨some 7, none, [], .len false (.t 6)⟩,
  ⟨some 8, none, [], .mv (.k (.v (.int .i64 0)))⟩])
 (.block 0
 (.loop
 (.seq (.reg false [⟨some 9, none, [], .ib .lt .i64 (.t 8) (.t 7)⟩])
 (.seq (.cond (.t 9)
 .skip
 (.exit 0))
 (.seq (.block 1
 (.seq (.reg false [⟨some 10, none, [], .idx (.t 6) (.t 8) 3⟩,
  ⟨some 11, none, [], .lda (.t 10) 3⟩,
  ⟨some 5, none, [], .new 46 [(.v (.int .u64 0)), .nsl, .nsl]⟩,
  ⟨none, none, [], .st (.t 5) (.t 11) 3⟩])
 (.seq (.reg true [⟨some 12, none, [], .ld (.t 1)⟩,
  ⟨some 13, none, [], .fld (.t 5) 0⟩,
  ⟨some 14, none, [1], .ld (.t 13)⟩,
  ⟨some 15, none, [2, 1], .call 21 [(.t 14)]⟩,
  ⟨some 16, none, [0, 3, 2, 1], .app (.bs 5) 1 (.t 12) (.t 15)⟩,
  ⟨none, none, [4, 0, 3, 2, 1], .st (.t 1) (.t 16) 1⟩])
 (.seq (.reg true [⟨some 17, none, [], .ld (.t 1)⟩,
  ⟨some 18, none, [], .lda (.t 5) 3⟩,
  ⟨some 19, none, [1], .call 22 [(.t 18)]⟩,
  ⟨some 20, none, [2, 1], .conv .u64 (.t 19)⟩,
  ⟨some 21, none, [3, 2, 1], .call 21 [(.t 20)]⟩,
  ⟨some 22, none, [0, 4, 3, 2, 1], .app (.bs 5) 1 (.t 17) (.t 21)⟩,
  ⟨none, none, [5, 0, 4, 3, 2, 1], .st (.t 1) (.t 22) 1⟩])
 (.seq (.reg false [⟨some 23, none, [], .ld (.t 1)⟩,
  ⟨some 24, none, [], .fld (.t 5) 1⟩,
  ⟨some 25, none, [], .ld (.t 24)⟩,
  ⟨some 26, none, [], .app (.bs 5) 1 (.t 23) (.t 25)⟩,
  ⟨none, none, [], .st (.t 1) (.t 26) 1⟩])
 (.reg false [⟨some 27, none, [], .ld (.t 2)⟩,
  ⟨some 28, none, [], .fld (.t 5) 2⟩,
  ⟨some 29, none, [], .ld (.t 28)⟩,
  ⟨some 30, none, [], .callv (.t 27) [(.t 29)]⟩]))))))
 (.reg false [⟨some 31, none, [], .ib .add .i64 (.t 8) (.k (.v (.int .i64 1)))⟩,
  ⟨some 8, none, [], .mv (.t 31)⟩])))))))
theorem comp_20 : compF Try.prog Try.f20 = some (ic_20, [], 32) := by kernel_rfl
-- ros 20 [(some (.row 46 (.st [(.int .u64), (.bytes 5), (.self 46)])))] TYS [(.self 46)]

/-- tollbar/varint.Put -/
def ic_21 : IC := (.seq (.reg false [⟨some 2, none, [], .mv (.k .nsl)⟩])
 (.seq (.reg false [⟨some 3, none, [], .new 27 [.nsl]⟩])
 (.seq (.seq (.reg false [⟨some 6, none, [], .mv (.t 0)⟩,
  ⟨some 7, none, [], .call 30 [(.t 6)]⟩])
 (.block 0
 (.rfn (.t 7) [8, 9]
 (.seq (.reg false [⟨some 4, none, [], .mv (.t 8)⟩])
 (.reg false [⟨some 5, none, [], .mv (.t 9)⟩]))
 (.block 1
 (.seq (.seq (.reg false [⟨some 10, none, [], .mv (.t 5)⟩])
 (.cond (.t 10)
 (.reg false [⟨some 11, none, [], .mv (.t 4)⟩,
  ⟨some 12, none, [], .ib .or .u8 (.t 11) (.k (.v (.int .u8 128)))⟩,
  ⟨some 4, none, [], .mv (.t 12)⟩])
 .skip))
 (.reg false [⟨some 13, none, [], .ld (.t 3)⟩,
  ⟨some 14, none, [], .mv (.t 4)⟩,
  ⟨some 15, none, [], .bsl (.bs 5) 1 [(.v (.int .u8 0))] [(0, 1, (.t 14))]⟩,
  ⟨some 16, none, [], .app (.bs 5) 1 (.t 13) (.t 15)⟩,
  ⟨none, none, [], .st (.t 3) (.t 16) 1⟩]))))))
 (.seq (.reg false [⟨some 17, none, [], .ld (.t 3)⟩,
  ⟨some 2, none, [], .mv (.t 17)⟩])
 .ret))))
theorem comp_21 : compF Try.prog Try.f21 = some (ic_21, [.t 2], 18) := by kernel_rfl
-- ros 21 [none] TYS [(.int .u64)]

/-- (tollbar/tlv.Item).inner -/
def ic_22 : IC := (.seq (.reg false [⟨some 1, none, [], .box 46 3 (.t 0)⟩,
  ⟨some 2, none, [], .mv (.k (.v (.int .i64 0)))⟩])
 (.seq (.seq (.reg false [⟨some 3, none, [], .lda (.t 1) 3⟩,
  ⟨some 4, none, [], .call 31 [(.t 3)]⟩])
 (.cond (.t 4)
 (.seq (.reg false [⟨some 5, none, [], .fld (.t 1) 2⟩,
  ⟨some 6, none, [], .ld (.t 5)⟩,
  ⟨some 7, none, [], .call 15 [(.t 6)]⟩,
  ⟨some 2, none, [], .mv (.t 7)⟩])
 .ret)
 .skip))
 (.seq (.reg false [⟨some 8, none, [], .fld (.t 1) 1⟩,
  ⟨some 9, none, [], .ld (.t 8)⟩,
  ⟨some 10, none, [], .len false (.t 9)⟩,
  ⟨some 2, none, [], .mv (.t 10)⟩])
 .ret)))
theorem comp_22 : compF Try.prog Try.f22 = some (ic_22, [.t 2], 11) := by kernel_rfl
-- ros 22 [none] TYS [(.st [(.int .u64), (.bytes 5), (.self 46)])]

/-- tollbar/tlv.right -/
def ic_23 : IC := (.seq (.reg false [⟨some 4, none, [], .mv (.k (.v (.bool false)))⟩])
 (.seq (.seq (.reg false [⟨some 8, none, [], .mv (.t 0)⟩,
  ⟨some 9, none, [], .len false (.t 8)⟩,
  ⟨some 10, none, [], .mv (.k (.v (.int .i64 0)))⟩])
 (.block 0
 (.loop
 (.seq (.reg false [⟨some 11, none, [], .ib .lt .i64 (.t 10) (.t 9)⟩])
 (.seq (.cond (.t 11)
 .skip
 (.exit 0))
 (.seq (.block 1
 (.seq (.reg false [⟨some 12, none, [], .idx (.t 8) (.t 10) 3⟩,
  ⟨some 13, none, [], .lda (.t 12) 3⟩,
  ⟨some 6, none, [], .new 46 [(.v (.int .u64 0)), .nsl, .nsl]⟩,
  ⟨none, none, [], .st (.t 6) (.t 13) 3⟩])
 (.seq (.reg false [⟨some 14, none, [], .lda (.t 6) 3⟩,
  ⟨some 15, none, [], .call 31 [(.t 14)]⟩,
  ⟨some 16, none, [], .mv (.t 15)⟩,
  ⟨some 17, some (16, true), [], .fld (.t 6) 1⟩,
  ⟨some 18, some (16, true), [], .ld (.t 17)⟩,
  ⟨some 19, some (16, true), [], .len false (.t 18)⟩,
  ⟨some 20, some (16, true), [], .ib .gt .i64 (.t 19) (.k (.v (.int .i64 0)))⟩,
  ⟨some 21, none, [], .pick (.t 16) (.t 20) (.k (.v (.bool false)))⟩,
  ⟨some 22, none, [], .mv (.t 21)⟩,
  ⟨some 23, some (22, false), [], .lda (.t 6) 3⟩,
  ⟨some 24, some (22, false), [], .call 31 [(.t 23)]⟩,
  ⟨some 25, some (22, false), [], .bnot (.t 24)⟩,
  ⟨some 26, some (22, false), [], .mv (.t 25)⟩,
  ⟨some 27, some (26, true), [], .fld (.t 6) 2⟩,
  ⟨some 28, some (26, true), [], .ld (.t 27)⟩,
  ⟨some 29, some (26, true), [], .len false (.t 28)⟩,
  ⟨some 30, some (26, true), [], .ib .gt .i64 (.t 29) (.k (.v (.int .i64 0)))⟩,
  ⟨some 31, some (22, false), [], .pick (.t 26) (.t 30) (.k (.v (.bool false)))⟩,
  ⟨some 32, none, [], .pick (.t 22) (.k (.v (.bool true))) (.t 31)⟩,
  ⟨some 7, none, [], .mv (.t 32)⟩])
 (.seq (.reg false [⟨some 33, none, [], .mv (.t 7)⟩,
  ⟨some 34, none, [], .mv (.t 33)⟩,
  ⟨some 35, some (34, false), [], .mv (.t 1)⟩,
  ⟨some 36, some (34, false), [], .ib .gt .i64 (.t 35) (.k (.v (.int .i64 6)))⟩,
  ⟨some 37, none, [], .pick (.t 34) (.k (.v (.bool true))) (.t 36)⟩,
  ⟨some 38, none, [], .mv (.t 37)⟩,
  ⟨some 39, some (38, false), [], .fld (.t 6) 2⟩,
  ⟨some 40, some (38, false), [], .ld (.t 39)⟩,
  ⟨some 41, some (38, false), [], .mv (.t 1)⟩,
  ⟨some 42, some (38, false), [], .ib .add .i64 (.t 41) (.k (.v (.int .i64 1)))⟩,
  ⟨some 43, some (38, false), [], .call 23 [(.t 40), (.t 42)]⟩,
  ⟨some 44, some (38, false), [], .bnot (.t 43)⟩,
  ⟨some 45, none, [], .pick (.t 38) (.k (.v (.bool true))) (.t 44)⟩])
 (.cond (.t 45)
 (.seq (.reg false [⟨some 4, none, [], .mv (.k (.v (.bool false)))⟩])
 .ret)
 .skip)))))
 (.reg false [⟨some 46, none, [], .ib .add .i64 (.t 10) (.k (.v (.int .i64 1)))⟩,
  ⟨some 10, none, [], .mv (.t 46)⟩])))))))
 (.seq (.reg false [⟨some 4, none, [], .mv (.k (.v (.bool true)))⟩])
 .ret)))
theorem comp_23 : compF Try.prog Try.f23 = some (ic_23, [.t 4], 47) := by kernel_rfl
-- ros 23 [(some (.row 46 (.st [(.int .u64), (.bytes 5), (.self 46)]))), none] TYS [(.self 46), (.int .i64)]

/-- tollbar/tollbarref03.right -/
def ic_24 : IC := (.seq (.reg false [⟨some 4, none, [], .mv (.k (.v (.bool false)))⟩])
 (.seq (.seq (.reg false [⟨some 8, none, [], .mv (.t 1)⟩,
  ⟨some 9, none, [], .ib .gt .i64 (.t 8) (.k (.v (.int .i64 6)))⟩,
  ⟨some 10, none, [], .mv (.t 9)⟩,
  ⟨some 11, some (10, true), [], .mv (.t 0)⟩,
  ⟨some 12, some (10, true), [], .len false (.t 11)⟩,
  ⟨some 13, some (10, true), [], .ib .gt .i64 (.t 12) (.k (.v (.int .i64 0)))⟩,
  ⟨some 14, none, [], .pick (.t 10) (.t 13) (.k (.v (.bool false)))⟩])
 (.cond (.t 14)
 (.seq (.reg false [⟨some 4, none, [], .mv (.k (.v (.bool false)))⟩])
 .ret)
 .skip))
 (.seq (.seq (.reg false [⟨some 5, none, [], .mv (.k (.v (.int .i64 0)))⟩])
 (.block 0
 (.loop
 (.seq (.seq (.reg false [⟨some 15, none, [], .mv (.t 5)⟩,
  ⟨some 16, none, [], .mv (.t 0)⟩,
  ⟨some 17, none, [], .len false (.t 16)⟩,
  ⟨some 18, none, [], .ib .lt .i64 (.t 15) (.t 17)⟩])
 (.cond (.t 18)
 .skip
 (.exit 0)))
 (.seq (.block 1
 (.seq (.reg false [⟨some 21, none, [], .mv (.t 0)⟩,
  ⟨some 22, none, [], .mv (.t 5)⟩,
  ⟨some 23, none, [], .idx (.t 21) (.t 22) 3⟩,
  ⟨some 24, none, [], .fld (.t 23) 0⟩,
  ⟨some 25, none, [], .ld (.t 24)⟩,
  ⟨some 26, none, [], .ib .rem .u64 (.t 25) (.k (.v (.int .u64 2)))⟩,
  ⟨some 27, none, [], .ib .eq .u64 (.t 26) (.k (.v (.int .u64 1)))⟩,
  ⟨some 6, none, [], .mv (.t 27)⟩])
 (.seq (.seq (.reg false [⟨some 28, none, [], .mv (.t 6)⟩,
  ⟨some 29, none, [], .mv (.t 28)⟩,
  ⟨some 30, some (29, true), [], .mv (.t 0)⟩,
  ⟨some 31, some (29, true), [], .mv (.t 5)⟩,
  ⟨some 32, some (29, true), [], .idx (.t 30) (.t 31) 3⟩,
  ⟨some 33, some (29, true), [], .fld (.t 32) 1⟩,
  ⟨some 34, some (29, true), [], .ld (.t 33)⟩,
  ⟨some 35, some (29, true), [], .sb .ne (.t 34) (.k (.str []))⟩,
  ⟨some 36, none, [], .pick (.t 29) (.t 35) (.k (.v (.bool false)))⟩,
  ⟨some 37, none, [], .mv (.t 36)⟩,
  ⟨some 38, some (37, false), [], .mv (.t 6)⟩,
  ⟨some 39, some (37, false), [], .bnot (.t 38)⟩,
  ⟨some 40, some (37, false), [], .mv (.t 39)⟩,
  ⟨some 41, some (40, true), [], .mv (.t 0)⟩,
  ⟨some 42, some (40, true), [], .mv (.t 5)⟩,
  ⟨some 43, some (40, true), [], .idx (.t 41) (.t 42) 3⟩,
  ⟨some 44, some (40, true), [], .fld (.t 43) 2⟩,
  ⟨some 45, some (40, true), [], .ld (.t 44)⟩,
  ⟨some 46, some (40, true), [], .len false (.t 45)⟩,
  ⟨some 47, some (40, true), [], .ib .gt .i64 (.t 46) (.k (.v (.int .i64 0)))⟩,
  ⟨some 48, some (37, false), [], .pick (.t 40) (.t 47) (.k (.v (.bool false)))⟩,
  ⟨some 49, none, [], .pick (.t 37) (.k (.v (.bool true))) (.t 48)⟩])
 (.cond (.t 49)
 (.seq (.reg false [⟨some 4, none, [], .mv (.k (.v (.bool false)))⟩])
 .ret)
 .skip))
 (.seq (.reg false [⟨some 50, none, [], .mv (.t 0)⟩,
  ⟨some 51, none, [], .mv (.t 5)⟩,
  ⟨some 52, none, [], .idx (.t 50) (.t 51) 3⟩,
  ⟨some 53, none, [], .fld (.t 52) 2⟩,
  ⟨some 54, none, [], .ld (.t 53)⟩,
  ⟨some 55, none, [], .mv (.t 1)⟩,
  ⟨some 56, none, [], .ib .add .i64 (.t 55) (.k (.v (.int .i64 1)))⟩,
  ⟨some 57, none, [], .call 24 [(.t 54), (.t 56)]⟩,
  ⟨some 7, none, [], .mv (.t 57)⟩])
 (.seq (.reg false [⟨some 58, none, [], .mv (.t 7)⟩,
  ⟨some 59, none, [], .bnot (.t 58)⟩])
 (.cond (.t 59)
 (.seq (.reg false [⟨some 4, none, [], .mv (.k (.v (.bool false)))⟩])
 .ret)
 .skip))))))
 (.reg false [⟨some 19, none, [], .mv (.t 5)⟩,
  ⟨some 20, none, [], .ib .add .i64 (.t 19) (.k (.v (.int .i64 1)))⟩,
  ⟨some 5, none, [], .mv (.t 20)⟩]))))))
 (.seq (.reg false [⟨some 4, none, [], .mv (.k (.v (.bool true)))⟩])
 .ret))))
theorem comp_24 : compF Try.prog Try.f24 = some (ic_24, [.t 4], 60) := by kernel_rfl
-- ros 24 [(some (.row 49 (.st [(.int .u64), .str, (.self 49)]))), none] TYS [(.self 49), (.int .i64)]

/-- tollbar/varint.Len -/
def ic_25 : IC := (.seq (.reg false [⟨some 2, none, [], .mv (.k (.v (.int .i64 0)))⟩])
 (.seq (.reg false [⟨some 3, none, [], .new 3 [(.v (.int .i64 0))]⟩,
  ⟨none, none, [], .st (.t 3) (.k (.v (.int .i64 0))) 1⟩])
 (.seq (.seq (.reg false [⟨some 4, none, [], .mv (.t 0)⟩,
  ⟨some 5, none, [], .call 30 [(.t 4)]⟩])
 (.block 0
 (.rfn (.t 5) [6, 7]
 .skip
 (.block 1
 (.reg false [⟨some 8, none, [], .ld (.t 3)⟩,
  ⟨some 9, none, [], .ib .add .i64 (.t 8) (.k (.v (.int .i64 1)))⟩,
  ⟨none, none, [], .st (.t 3) (.t 9) 1⟩])))))
 (.seq (.reg false [⟨some 10, none, [], .ld (.t 3)⟩,
  ⟨some 2, none, [], .mv (.t 10)⟩])
 .ret))))
theorem comp_25 : compF Try.prog Try.f25 = some (ic_25, [.t 2], 11) := by kernel_rfl
-- ros 25 [none] TYS [(.int .u64)]

/-- tollbar/tollbarref02.Put -/
def ic_26 : IC := (.seq (.reg false [⟨some 2, none, [], .mv (.k (.str []))⟩])
 (.seq (.seq (.reg false [⟨some 3, none, [], .mv (.t 0)⟩,
  ⟨some 4, none, [], .ib .lt .u64 (.t 3) (.k (.v (.int .u64 128)))⟩])
 (.cond (.t 4)
 (.seq (.reg false [⟨some 5, none, [], .mv (.t 0)⟩,
  ⟨some 6, none, [], .conv .u8 (.t 5)⟩,
  ⟨some 7, none, [], .bsl (.bs 5) 1 [(.v (.int .u8 0))] [(0, 1, (.t 6))]⟩,
  ⟨some 8, none, [], .b2s (.t 7)⟩,
  ⟨some 2, none, [], .mv (.t 8)⟩])
 .ret)
 .skip))
 (.seq (.reg true [⟨some 9, none, [], .mv (.t 0)⟩,
  ⟨some 10, none, [0], .ib .rem .u64 (.t 9) (.k (.v (.int .u64 128)))⟩,
  ⟨some 11, none, [1, 0], .conv .u8 (.t 10)⟩,
  ⟨some 12, none, [2, 1, 0], .ib .add .u8 (.t 11) (.k (.v (.int .u8 128)))⟩,
  ⟨some 13, none, [3, 2, 1, 0], .bsl (.bs 5) 1 [(.v (.int .u8 0))] [(0, 1, (.t 12))]⟩,
  ⟨some 14, none, [4, 3, 2, 1, 0], .b2s (.t 13)⟩,
  ⟨some 15, none, [], .mv (.t 0)⟩,
  ⟨some 16, none, [6], .ib .quo .u64 (.t 15) (.k (.v (.int .u64 128)))⟩,
  ⟨some 17, none, [7, 6], .call 26 [(.t 16)]⟩,
  ⟨some 18, none, [5, 4, 3, 2, 1, 0, 8, 7, 6], .sb .add (.t 14) (.t 17)⟩,
  ⟨some 2, none, [9, 5, 4, 3, 2, 1, 0, 8, 7, 6], .mv (.t 18)⟩])
 .ret)))
theorem comp_26 : compF Try.prog Try.f26 = some (ic_26, [.t 2], 19) := by kernel_rfl
-- ros 26 [none] TYS [(.int .u64)]

/-- (*tollbar/tlv.reader).items -/
def ic_27 : IC := (.seq (.reg false [⟨some 8, none, [], .mv (.k .nsl)⟩])
 (.seq (.reg false [⟨some 9, none, [], .mv (.k .nsl)⟩])
 (.seq (.block 0
 (.loop
 (.seq (.seq (.reg false [⟨some 18, none, [], .mv (.t 1)⟩,
  ⟨some 19, none, [], .call 32 [(.t 18)]⟩,
  ⟨some 20, none, [], .ib .gt .i64 (.t 19) (.k (.v (.int .i64 0)))⟩,
  ⟨some 21, none, [], .mv (.t 20)⟩,
  ⟨some 22, some (21, true), [], .mv (.t 0)⟩,
  ⟨some 23, some (21, true), [], .chk (.t 22)⟩,
  ⟨some 24, some (21, true), [], .fld (.t 23) 0⟩,
  ⟨some 25, some (21, true), [], .ld (.t 24)⟩,
  ⟨some 26, some (21, true), [], .ib .eq .i64 (.t 25) (.k (.v (.int .i64 0)))⟩,
  ⟨some 27, none, [], .pick (.t 21) (.t 26) (.k (.v (.bool false)))⟩])
 (.cond (.t 27)
 .skip
 (.exit 0)))
 (.block 1
 (.seq (.reg false [⟨some 28, none, [], .mv (.t 2)⟩,
  ⟨some 29, none, [], .mv (.t 1)⟩,
  ⟨some 30, none, [], .call 32 [(.t 29)]⟩,
  ⟨some 31, none, [], .ib .sub .i64 (.t 28) (.t 30)⟩,
  ⟨some 10, none, [], .mv (.t 31)⟩])
 (.seq (.reg false [⟨some 33, none, [], .mv (.t 1)⟩,
  ⟨some 34, none, [], .call 33 [(.t 33)]⟩,
  ⟨some 32, none, [], .mv (.t 34)⟩,
  ⟨some 35, none, [], .ext (.t 32) 0⟩,
  ⟨some 36, none, [], .ext (.t 32) 1⟩,
  ⟨some 11, none, [], .mv (.t 35)⟩,
  ⟨some 12, none, [], .mv (.t 36)⟩])
 (.seq (.reg false [⟨some 37, none, [], .mv (.t 0)⟩,
  ⟨some 38, none, [], .mv (.t 12)⟩,
  ⟨some 39, none, [], .mv (.t 10)⟩,
  ⟨some 40, none, [], .call 34 [(.t 37), (.t 38), (.t 39)]⟩])
 (.seq (.reg false [⟨some 41, none, [], .mv (.t 2)⟩,
  ⟨some 42, none, [], .mv (.t 1)⟩,
  ⟨some 43, none, [], .call 32 [(.t 42)]⟩,
  ⟨some 44, none, [], .ib .sub .i64 (.t 41) (.t 43)⟩,
  ⟨some 13, none, [], .mv (.t 44)⟩])
 (.seq (.reg false [⟨some 46, none, [], .mv (.t 1)⟩,
  ⟨some 47, none, [], .call 33 [(.t 46)]⟩,
  ⟨some 45, none, [], .mv (.t 47)⟩,
  ⟨some 48, none, [], .ext (.t 45) 0⟩,
  ⟨some 49, none, [], .ext (.t 45) 1⟩,
  ⟨some 14, none, [], .mv (.t 48)⟩,
  ⟨some 12, none, [], .mv (.t 49)⟩])
 (.seq (.reg false [⟨some 50, none, [], .mv (.t 0)⟩,
  ⟨some 51, none, [], .mv (.t 12)⟩,
  ⟨some 52, none, [], .mv (.t 13)⟩,
  ⟨some 53, none, [], .call 34 [(.t 50), (.t 51), (.t 52)]⟩])
 (.seq (.reg false [⟨some 54, none, [], .mv (.t 2)⟩,
  ⟨some 55, none, [], .mv (.t 1)⟩,
  ⟨some 56, none, [], .call 32 [(.t 55)]⟩,
  ⟨some 57, none, [], .ib .sub .i64 (.t 54) (.t 56)⟩,
  ⟨some 15, none, [], .mv (.t 57)⟩])
 (.seq (.seq (.reg false [⟨some 58, none, [], .mv (.t 14)⟩,
  ⟨some 59, none, [], .mv (.t 1)⟩,
  ⟨some 60, none, [], .call 32 [(.t 59)]⟩,
  ⟨some 61, none, [], .conv .u64 (.t 60)⟩,
  ⟨some 62, none, [], .ib .gt .u64 (.t 58) (.t 61)⟩])
 (.cond (.t 62)
 (.reg false [⟨some 63, none, [], .mv (.t 0)⟩,
  ⟨some 64, none, [], .mv (.t 15)⟩,
  ⟨some 65, none, [], .call 34 [(.t 63), (.k (.v (.int .i64 10))), (.t 64)]⟩])
 .skip))
 (.seq (.seq (.reg false [⟨some 66, none, [], .mv (.t 3)⟩,
  ⟨some 67, none, [], .ib .gt .i64 (.t 66) (.k (.v (.int .i64 6)))⟩])
 (.cond (.t 67)
 (.reg false [⟨some 68, none, [], .mv (.t 0)⟩,
  ⟨some 69, none, [], .mv (.t 10)⟩,
  ⟨some 70, none, [], .call 34 [(.t 68), (.k (.v (.int .i64 13))), (.t 69)]⟩])
 .skip))
 (.seq (.seq (.reg false [⟨some 71, none, [], .mv (.t 0)⟩,
  ⟨some 72, none, [], .chk (.t 71)⟩,
  ⟨some 73, none, [], .fld (.t 72) 0⟩,
  ⟨some 74, none, [], .ld (.t 73)⟩,
  ⟨some 75, none, [], .ib .ne .i64 (.t 74) (.k (.v (.int .i64 0)))⟩])
 (.cond (.t 75)
 (.seq (.reg false [⟨some 8, none, [], .mv (.k .nsl)⟩])
 .ret)
 .skip))
 (.seq (.reg false [⟨some 76, none, [], .mv (.t 11)⟩,
  ⟨some 77, none, [], .build [(.v (.int .u64 0)), .nsl, .nsl] [(0, 1, (.t 76))]⟩,
  ⟨some 16, none, [], .new 46 [(.v (.int .u64 0)), .nsl, .nsl]⟩,
  ⟨none, none, [], .st (.t 16) (.t 77) 3⟩])
 (.seq (.seq (.reg false [⟨some 78, none, [], .mv (.t 14)⟩,
  ⟨some 79, none, [], .conv .i64 (.t 78)⟩,
  ⟨some 17, none, [], .mv (.t 79)⟩])
 (.seq (.reg false [⟨some 80, none, [], .lda (.t 16) 3⟩,
  ⟨some 81, none, [], .call 31 [(.t 80)]⟩])
 (.cond (.t 81)
 (.reg false [⟨some 82, none, [], .mv (.t 0)⟩,
  ⟨some 83, none, [], .mv (.t 1)⟩,
  ⟨some 84, none, [], .mv (.t 17)⟩,
  ⟨some 85, none, [], .call 35 [(.t 83), (.t 84)]⟩,
  ⟨some 86, none, [], .mv (.t 15)⟩,
  ⟨some 87, none, [], .mv (.t 17)⟩,
  ⟨some 88, none, [], .ib .add .i64 (.t 86) (.t 87)⟩,
  ⟨some 89, none, [], .mv (.t 3)⟩,
  ⟨some 90, none, [], .ib .add .i64 (.t 89) (.k (.v (.int .i64 1)))⟩,
  ⟨some 91, none, [], .call 27 [(.t 82), (.t 85), (.t 88), (.t 90)]⟩,
  ⟨some 92, none, [], .fld (.t 16) 2⟩,
  ⟨none, none, [], .st (.t 92) (.t 91) 1⟩])
 (.reg false [⟨some 93, none, [], .mv (.t 1)⟩,
  ⟨some 94, none, [], .mv (.t 17)⟩,
  ⟨some 95, none, [], .call 36 [(.t 93), (.t 94)]⟩,
  ⟨some 96, none, [], .fld (.t 16) 1⟩,
  ⟨none, none, [], .st (.t 96) (.t 95) 1⟩]))))
 (.reg false [⟨some 97, none, [], .mv (.t 9)⟩,
  ⟨some 98, none, [], .lda (.t 16) 3⟩,
  ⟨some 99, none, [], .bsl (.row 46 (.st [(.int .u64), (.bytes 5), (.self 46)])) 1 [(.v (.int .u64 0)), .nsl, .nsl] [(0, 3, (.t 98))]⟩,
  ⟨some 100, none, [], .app (.row 46 (.st [(.int .u64), (.bytes 5), (.self 46)])) 56 (.t 97) (.t 99)⟩,
  ⟨some 9, none, [], .mv (.t 100)⟩])))))))))))))))))
 (.seq (.reg false [⟨some 101, none, [], .mv (.t 9)⟩,
  ⟨some 8, none, [], .mv (.t 101)⟩])
 .ret))))
theorem comp_27 : compF Try.prog Try.f27 = some (ic_27, [.t 8], 102) := by kernel_rfl
-- ros 27 [none, none, none, none] TYS [none, none, (.int .i64), (.int .i64)]

/-- tollbar/octet.Open -/
def ic_28 : IC := (.seq (.reg false [⟨some 2, none, [], .mv (.k (.v (.pointer none)))⟩])
 (.seq (.reg false [⟨some 3, none, [], .mv (.t 0)⟩,
  ⟨some 4, none, [], .call 37 [(.t 3)]⟩,
  ⟨some 5, none, [], .build [.nsl, (.v (.int .i64 0))] [(0, 1, (.t 4))]⟩,
  ⟨some 6, none, [], .box 74 2 (.t 5)⟩,
  ⟨some 2, none, [], .mv (.t 6)⟩])
 .ret))
theorem comp_28 : compF Try.prog Try.f28 = some (ic_28, [.t 2], 7) := by kernel_rfl
-- ros 28 [(some (.bs 5))] TYS [(.bytes 5)]

/-- tollbar/tollbarref03.get -/
def ic_29 : IC := (.seq (.reg false [⟨some 6, none, [], .mv (.k .nsl)⟩,
  ⟨some 7, none, [], .mv (.k (.v (.int .i64 0)))⟩,
  ⟨some 8, none, [], .mv (.k (.v (.int .i64 0)))⟩])
 (.seq (.reg false [⟨some 9, none, [], .mv (.k .nsl)⟩])
 (.seq (.block 0
 (.loop
 (.seq (.seq (.reg false [⟨some 21, none, [], .mv (.t 0)⟩,
  ⟨some 22, none, [], .sb .ne (.t 21) (.k (.str []))⟩])
 (.cond (.t 22)
 .skip
 (.exit 0)))
 (.block 1
 (.seq (.reg false [⟨some 24, none, [], .mv (.t 0)⟩,
  ⟨some 25, none, [], .call 38 [(.t 24)]⟩,
  ⟨some 23, none, [], .mv (.t 25)⟩,
  ⟨some 26, none, [], .ext (.t 23) 0⟩,
  ⟨some 27, none, [], .ext (.t 23) 1⟩,
  ⟨some 28, none, [], .ext (.t 23) 2⟩,
  ⟨some 10, none, [], .mv (.t 26)⟩,
  ⟨some 11, none, [], .mv (.t 27)⟩,
  ⟨some 12, none, [], .mv (.t 28)⟩])
 (.seq (.seq (.reg false [⟨some 29, none, [], .mv (.t 12)⟩,
  ⟨some 30, none, [], .ib .ne .i64 (.t 29) (.k (.v (.int .i64 0)))⟩])
 (.cond (.t 30)
 (.seq (.reg false [⟨some 31, none, [], .mv (.t 12)⟩,
  ⟨some 32, none, [], .mv (.t 2)⟩,
  ⟨some 6, none, [], .mv (.k .nsl)⟩,
  ⟨some 7, none, [], .mv (.t 31)⟩,
  ⟨some 8, none, [], .mv (.t 32)⟩])
 .ret)
 .skip))
 (.seq (.reg false [⟨some 34, none, [], .mv (.t 0)⟩,
  ⟨some 35, none, [], .mv (.t 11)⟩,
  ⟨some 36, none, [], .ssl (.t 34) (some (.t 35)) none⟩,
  ⟨some 37, none, [], .call 38 [(.t 36)]⟩,
  ⟨some 33, none, [], .mv (.t 37)⟩,
  ⟨some 38, none, [], .ext (.t 33) 0⟩,
  ⟨some 39, none, [], .ext (.t 33) 1⟩,
  ⟨some 40, none, [], .ext (.t 33) 2⟩,
  ⟨some 13, none, [], .mv (.t 38)⟩,
  ⟨some 14, none, [], .mv (.t 39)⟩,
  ⟨some 15, none, [], .mv (.t 40)⟩])
 (.seq (.seq (.reg false [⟨some 41, none, [], .mv (.t 15)⟩,
  ⟨some 42, none, [], .ib .ne .i64 (.t 41) (.k (.v (.int .i64 0)))⟩])
 (.cond (.t 42)
 (.seq (.reg false [⟨some 43, none, [], .mv (.t 15)⟩,
  ⟨some 44, none, [], .mv (.t 2)⟩,
  ⟨some 45, none, [], .mv (.t 11)⟩,
  ⟨some 46, none, [], .ib .add .i64 (.t 44) (.t 45)⟩,
  ⟨some 6, none, [], .mv (.k .nsl)⟩,
  ⟨some 7, none, [], .mv (.t 43)⟩,
  ⟨some 8, none, [], .mv (.t 46)⟩])
 .ret)
 .skip))
 (.seq (.seq (.reg false [⟨some 47, none, [], .mv (.t 13)⟩,
  ⟨some 48, none, [], .mv (.t 0)⟩,
  ⟨some 49, none, [], .len true (.t 48)⟩,
  ⟨some 50, none, [], .mv (.t 11)⟩,
  ⟨some 51, none, [], .ib .sub .i64 (.t 49) (.t 50)⟩,
  ⟨some 52, none, [], .mv (.t 14)⟩,
  ⟨some 53, none, [], .ib .sub .i64 (.t 51) (.t 52)⟩,
  ⟨some 54, none, [], .conv .u64 (.t 53)⟩,
  ⟨some 55, none, [], .ib .gt .u64 (.t 47) (.t 54)⟩])
 (.cond (.t 55)
 (.seq (.reg false [⟨some 56, none, [], .mv (.t 2)⟩,
  ⟨some 57, none, [], .mv (.t 11)⟩,
  ⟨some 58, none, [], .ib .add .i64 (.t 56) (.t 57)⟩,
  ⟨some 59, none, [], .mv (.t 14)⟩,
  ⟨some 60, none, [], .ib .add .i64 (.t 58) (.t 59)⟩,
  ⟨some 6, none, [], .mv (.k .nsl)⟩,
  ⟨some 7, none, [], .mv (.k (.v (.int .i64 10)))⟩,
  ⟨some 8, none, [], .mv (.t 60)⟩])
 .ret)
 .skip))
 (.seq (.seq (.reg false [⟨some 61, none, [], .mv (.t 1)⟩,
  ⟨some 62, none, [], .ib .gt .i64 (.t 61) (.k (.v (.int .i64 6)))⟩])
 (.cond (.t 62)
 (.seq (.reg false [⟨some 63, none, [], .mv (.t 2)⟩,
  ⟨some 6, none, [], .mv (.k .nsl)⟩,
  ⟨some 7, none, [], .mv (.k (.v (.int .i64 13)))⟩,
  ⟨some 8, none, [], .mv (.t 63)⟩])
 .ret)
 .skip))
 (.seq (.reg false [⟨some 64, none, [], .mv (.t 10)⟩,
  ⟨some 65, none, [], .build [(.v (.int .u64 0)), (.str []), .nsl] [(0, 1, (.t 64))]⟩,
  ⟨some 16, none, [], .new 49 [(.v (.int .u64 0)), (.str []), .nsl]⟩,
  ⟨none, none, [], .st (.t 16) (.t 65) 3⟩])
 (.seq (.reg false [⟨some 66, none, [], .mv (.t 0)⟩,
  ⟨some 67, none, [], .mv (.t 11)⟩,
  ⟨some 68, none, [], .mv (.t 14)⟩,
  ⟨some 69, none, [], .ib .add .i64 (.t 67) (.t 68)⟩,
  ⟨some 70, none, [], .mv (.t 11)⟩,
  ⟨some 71, none, [], .mv (.t 14)⟩,
  ⟨some 72, none, [], .ib .add .i64 (.t 70) (.t 71)⟩,
  ⟨some 73, none, [], .mv (.t 13)⟩,
  ⟨some 74, none, [], .conv .i64 (.t 73)⟩,
  ⟨some 75, none, [], .ib .add .i64 (.t 72) (.t 74)⟩,
  ⟨some 76, none, [], .ssl (.t 66) (some (.t 69)) (some (.t 75))⟩,
  ⟨some 17, none, [], .mv (.t 76)⟩])
 (.seq (.seq (.reg false [⟨some 77, none, [], .mv (.t 10)⟩,
  ⟨some 78, none, [], .ib .rem .u64 (.t 77) (.k (.v (.int .u64 2)))⟩,
  ⟨some 79, none, [], .ib .eq .u64 (.t 78) (.k (.v (.int .u64 0)))⟩])
 (.cond (.t 79)
 (.reg false [⟨some 80, none, [], .mv (.t 17)⟩,
  ⟨some 81, none, [], .fld (.t 16) 1⟩,
  ⟨none, none, [], .st (.t 81) (.t 80) 1⟩])
 (.seq (.reg false [⟨some 83, none, [], .mv (.t 17)⟩,
  ⟨some 84, none, [], .mv (.t 1)⟩,
  ⟨some 85, none, [], .ib .add .i64 (.t 84) (.k (.v (.int .i64 1)))⟩,
  ⟨some 86, none, [], .mv (.t 2)⟩,
  ⟨some 87, none, [], .mv (.t 11)⟩,
  ⟨some 88, none, [], .ib .add .i64 (.t 86) (.t 87)⟩,
  ⟨some 89, none, [], .mv (.t 14)⟩,
  ⟨some 90, none, [], .ib .add .i64 (.t 88) (.t 89)⟩,
  ⟨some 91, none, [], .call 29 [(.t 83), (.t 85), (.t 90)]⟩,
  ⟨some 82, none, [], .mv (.t 91)⟩,
  ⟨some 92, none, [], .ext (.t 82) 0⟩,
  ⟨some 93, none, [], .ext (.t 82) 1⟩,
  ⟨some 94, none, [], .ext (.t 82) 2⟩,
  ⟨some 18, none, [], .mv (.t 92)⟩,
  ⟨some 19, none, [], .mv (.t 93)⟩,
  ⟨some 20, none, [], .mv (.t 94)⟩])
 (.seq (.seq (.reg false [⟨some 95, none, [], .mv (.t 19)⟩,
  ⟨some 96, none, [], .ib .ne .i64 (.t 95) (.k (.v (.int .i64 0)))⟩])
 (.cond (.t 96)
 (.seq (.reg false [⟨some 97, none, [], .mv (.t 19)⟩,
  ⟨some 98, none, [], .mv (.t 20)⟩,
  ⟨some 6, none, [], .mv (.k .nsl)⟩,
  ⟨some 7, none, [], .mv (.t 97)⟩,
  ⟨some 8, none, [], .mv (.t 98)⟩])
 .ret)
 .skip))
 (.reg false [⟨some 99, none, [], .mv (.t 18)⟩,
  ⟨some 100, none, [], .fld (.t 16) 2⟩,
  ⟨none, none, [], .st (.t 100) (.t 99) 1⟩])))))
 (.seq (.reg false [⟨some 101, none, [], .mv (.t 9)⟩,
  ⟨some 102, none, [], .lda (.t 16) 3⟩,
  ⟨some 103, none, [], .bsl (.row 49 (.st [(.int .u64), .str, (.self 49)])) 1 [(.v (.int .u64 0)), (.str []), .nsl] [(0, 3, (.t 102))]⟩,
  ⟨some 104, none, [], .app (.row 49 (.st [(.int .u64), .str, (.self 49)])) 48 (.t 101) (.t 103)⟩,
  ⟨some 9, none, [], .mv (.t 104)⟩])
 (.seq (.reg false [⟨some 105, none, [], .mv (.t 2)⟩,
  ⟨some 106, none, [], .mv (.t 11)⟩,
  ⟨some 107, none, [], .mv (.t 14)⟩,
  ⟨some 108, none, [], .ib .add .i64 (.t 106) (.t 107)⟩,
  ⟨some 109, none, [], .mv (.t 13)⟩,
  ⟨some 110, none, [], .conv .i64 (.t 109)⟩,
  ⟨some 111, none, [], .ib .add .i64 (.t 108) (.t 110)⟩,
  ⟨some 112, none, [], .ib .add .i64 (.t 105) (.t 111)⟩,
  ⟨some 2, none, [], .mv (.t 112)⟩])
 (.reg false [⟨some 113, none, [], .mv (.t 0)⟩,
  ⟨some 114, none, [], .mv (.t 11)⟩,
  ⟨some 115, none, [], .mv (.t 14)⟩,
  ⟨some 116, none, [], .ib .add .i64 (.t 114) (.t 115)⟩,
  ⟨some 117, none, [], .mv (.t 13)⟩,
  ⟨some 118, none, [], .conv .i64 (.t 117)⟩,
  ⟨some 119, none, [], .ib .add .i64 (.t 116) (.t 118)⟩,
  ⟨some 120, none, [], .ssl (.t 113) (some (.t 119)) none⟩,
  ⟨some 0, none, [], .mv (.t 120)⟩]))))))))))))))))
 (.seq (.reg false [⟨some 121, none, [], .mv (.t 9)⟩,
  ⟨some 6, none, [], .mv (.t 121)⟩,
  ⟨some 7, none, [], .mv (.k (.v (.int .i64 0)))⟩,
  ⟨some 8, none, [], .mv (.k (.v (.int .i64 0)))⟩])
 .ret))))
theorem comp_29 : compF Try.prog Try.f29 = some (ic_29, [.t 6, .t 7, .t 8], 122) := by kernel_rfl
-- ros 29 [none, none, none] TYS [.str, (.int .i64), (.int .i64)]

/-- tollbar/varint.groups -/
def ic_30 : IC := (.seq (.reg false [⟨some 1, none, [], .box 44 1 (.t 0)⟩,
  ⟨some 2, none, [], .mv (.k (.v .nilFunc))⟩])
 (.seq (.reg false [⟨some 3, none, [], .mkfn 39 [(.t 1)]⟩,
  ⟨some 2, none, [], .mv (.t 3)⟩])
 .ret))
theorem comp_30 : compF Try.prog Try.f30 = some (ic_30, [.t 2], 4) := by kernel_rfl
-- ros 30 [none] TYS [(.int .u64)]

/-- (tollbar/tlv.Item).odd -/
def ic_31 : IC := (.seq (.reg false [⟨some 1, none, [], .box 46 3 (.t 0)⟩,
  ⟨some 2, none, [], .mv (.k (.v (.bool false)))⟩])
 (.seq (.reg false [⟨some 3, none, [], .fld (.t 1) 0⟩,
  ⟨some 4, none, [], .ld (.t 3)⟩,
  ⟨some 5, none, [], .ib .and .u64 (.t 4) (.k (.v (.int .u64 1)))⟩,
  ⟨some 6, none, [], .ib .eq .u64 (.t 5) (.k (.v (.int .u64 1)))⟩,
  ⟨some 2, none, [], .mv (.t 6)⟩])
 .ret))
theorem comp_31 : compF Try.prog Try.f31 = some (ic_31, [.t 2], 7) := by kernel_rfl
-- ros 31 [none] TYS [(.st [(.int .u64), (.bytes 5), (.self 46)])]

/-- (*tollbar/octet.Window).Left -/
def ic_32 : IC := (.seq (.reg false [⟨some 2, none, [], .mv (.k (.v (.int .i64 0)))⟩])
 (.seq (.seq (.reg false [⟨some 3, none, [], .mv (.t 0)⟩,
  ⟨some 4, none, [], .isn 0 false (.t 3)⟩])
 (.cond (.t 4)
 (.seq (.reg false [⟨some 2, none, [], .mv (.k (.v (.int .i64 0)))⟩])
 .ret)
 .skip))
 (.seq (.reg false [⟨some 5, none, [], .mv (.t 0)⟩,
  ⟨some 6, none, [], .chk (.t 5)⟩,
  ⟨some 7, none, [], .fld (.t 6) 0⟩,
  ⟨some 8, none, [], .ld (.t 7)⟩,
  ⟨some 9, none, [], .len false (.t 8)⟩,
  ⟨some 2, none, [], .mv (.t 9)⟩])
 .ret)))
theorem comp_32 : compF Try.prog Try.f32 = some (ic_32, [.t 2], 10) := by kernel_rfl
-- ros 32 [none] TYS [none]

/-- tollbar/varint.Take -/
def ic_33 : IC := (.seq (.reg false [⟨some 2, none, [], .mv (.k (.v (.int .u64 0)))⟩,
  ⟨some 3, none, [], .mv (.k (.v (.int .i64 0)))⟩])
 (.seq (.seq (.reg false [⟨some 10, none, [], .mv (.t 0)⟩,
  ⟨some 11, none, [], .call 40 [(.t 10)]⟩,
  ⟨some 4, none, [], .mv (.t 11)⟩])
 (.seq (.reg false [⟨some 12, none, [], .mv (.t 4)⟩,
  ⟨some 13, none, [], .ib .ne .i64 (.t 12) (.k (.v (.int .i64 0)))⟩])
 (.cond (.t 13)
 (.seq (.reg false [⟨some 14, none, [], .mv (.t 4)⟩,
  ⟨some 2, none, [], .mv (.k (.v (.int .u64 0)))⟩,
  ⟨some 3, none, [], .mv (.t 14)⟩])
 .ret)
 .skip)))
 (.seq (.reg false [⟨some 15, none, [], .mv (.t 0)⟩,
  ⟨some 16, none, [], .chk (.t 15)⟩,
  ⟨some 17, none, [], .lda (.t 16) 2⟩,
  ⟨some 5, none, [], .new 74 [.nsl, (.v (.int .i64 0))]⟩,
  ⟨none, none, [], .st (.t 5) (.t 17) 2⟩])
 (.seq (.reg false [⟨some 6, none, [], .mv (.k .nsl)⟩])
 (.seq (.block 0
 (.loop
 (.seq (.seq (.reg false [⟨some 18, none, [], .call 32 [(.t 5)]⟩,
  ⟨some 19, none, [], .ib .gt .i64 (.t 18) (.k (.v (.int .i64 0)))⟩,
  ⟨some 20, none, [], .mv (.t 19)⟩,
  ⟨some 21, some (20, true), [], .mv (.t 6)⟩,
  ⟨some 22, some (20, true), [], .len false (.t 21)⟩,
  ⟨some 23, some (20, true), [], .ib .lt .i64 (.t 22) (.k (.v (.int .i64 10)))⟩,
  ⟨some 24, none, [], .pick (.t 20) (.t 23) (.k (.v (.bool false)))⟩])
 (.cond (.t 24)
 .skip
 (.exit 0)))
 (.block 1
 (.reg false [⟨some 25, none, [], .mv (.t 6)⟩,
  ⟨some 26, none, [], .call 41 [(.t 5)]⟩,
  ⟨some 27, none, [], .bsl (.bs 5) 1 [(.v (.int .u8 0))] [(0, 1, (.t 26))]⟩,
  ⟨some 28, none, [], .app (.bs 5) 1 (.t 25) (.t 27)⟩,
  ⟨some 6, none, [], .mv (.t 28)⟩])))))
 (.seq (.reg false [⟨some 30, none, [], .mv (.t 6)⟩,
  ⟨some 31, none, [], .call 42 [(.t 30)]⟩,
  ⟨some 29, none, [], .mv (.t 31)⟩,
  ⟨some 32, none, [], .ext (.t 29) 0⟩,
  ⟨some 33, none, [], .ext (.t 29) 1⟩,
  ⟨some 34, none, [], .ext (.t 29) 2⟩,
  ⟨some 7, none, [], .mv (.t 32)⟩,
  ⟨some 8, none, [], .mv (.t 33)⟩,
  ⟨some 9, none, [], .mv (.t 34)⟩])
 (.seq (.reg false [⟨some 35, none, [], .mv (.t 0)⟩,
  ⟨some 36, none, [], .mv (.t 8)⟩,
  ⟨some 37, none, [], .call 36 [(.t 35), (.t 36)]⟩])
 (.seq (.reg false [⟨some 38, none, [], .mv (.t 7)⟩,
  ⟨some 39, none, [], .mv (.t 9)⟩,
  ⟨some 2, none, [], .mv (.t 38)⟩,
  ⟨some 3, none, [], .mv (.t 39)⟩])
 .ret))))))))
theorem comp_33 : compF Try.prog Try.f33 = some (ic_33, [.t 2, .t 3], 40) := by kernel_rfl
-- ros 33 [none] TYS [none]

/-- (*tollbar/tlv.reader).fail -/
def ic_34 : IC := (.seq (.reg false [⟨some 6, none, [], .mv (.t 0)⟩,
  ⟨some 7, none, [], .chk (.t 6)⟩,
  ⟨some 8, none, [], .fld (.t 7) 0⟩,
  ⟨some 9, none, [], .ld (.t 8)⟩,
  ⟨some 10, none, [], .ib .eq .i64 (.t 9) (.k (.v (.int .i64 0)))⟩,
  ⟨some 11, none, [], .mv (.t 10)⟩,
  ⟨some 12, some (11, true), [], .mv (.t 1)⟩,
  ⟨some 13, some (11, true), [], .ib .ne .i64 (.t 12) (.k (.v (.int .i64 0)))⟩,
  ⟨some 14, none, [], .pick (.t 11) (.t 13) (.k (.v (.bool false)))⟩])
 (.cond (.t 14)
 (.reg false [⟨some 15, none, [], .mv (.t 0)⟩,
  ⟨some 16, none, [], .mv (.t 0)⟩,
  ⟨some 17, none, [], .mv (.t 1)⟩,
  ⟨some 18, none, [], .mv (.t 2)⟩,
  ⟨some 19, none, [], .chk (.t 15)⟩,
  ⟨some 20, none, [], .fld (.t 19) 0⟩,
  ⟨none, none, [], .st (.t 20) (.t 17) 1⟩,
  ⟨some 21, none, [], .chk (.t 16)⟩,
  ⟨some 22, none, [], .fld (.t 21) 1⟩,
  ⟨none, none, [], .st (.t 22) (.t 18) 1⟩])
 .skip))
theorem comp_34 : compF Try.prog Try.f34 = some (ic_34, [], 23) := by kernel_rfl
-- ros 34 [none, none, none] TYS [none, (.int .i64), (.int .i64)]

/-- (*tollbar/octet.Window).Sub -/
def ic_35 : IC := (.seq (.reg false [⟨some 4, none, [], .mv (.k (.v (.pointer none)))⟩])
 (.seq (.reg false [⟨some 6, none, [], .mv (.t 0)⟩,
  ⟨some 7, none, [], .mv (.t 1)⟩,
  ⟨some 8, none, [], .call 36 [(.t 6), (.t 7)]⟩,
  ⟨some 5, none, [], .mv (.t 8)⟩])
 (.seq (.reg false [⟨some 9, none, [], .mv (.t 5)⟩,
  ⟨some 10, none, [], .mv (.t 0)⟩,
  ⟨some 11, none, [], .call 40 [(.t 10)]⟩,
  ⟨some 12, none, [], .build [.nsl, (.v (.int .i64 0))] [(0, 1, (.t 9)), (1, 1, (.t 11))]⟩,
  ⟨some 13, none, [], .box 74 2 (.t 12)⟩,
  ⟨some 4, none, [], .mv (.t 13)⟩])
 .ret)))
theorem comp_35 : compF Try.prog Try.f35 = some (ic_35, [.t 4], 14) := by kernel_rfl
-- ros 35 [none, none] TYS [none, (.int .i64)]

/-- (*tollbar/octet.Window).Bytes -/
def ic_36 : IC := (.seq (.reg false [⟨some 4, none, [], .mv (.k .nsl)⟩])
 (.seq (.block 0
 (.seq (.reg false [⟨some 7, none, [], .mv (.t 0)⟩,
  ⟨some 8, none, [], .isn 0 false (.t 7)⟩,
  ⟨some 6, none, [], .mv (.t 8)⟩])
 (.cond (.t 6)
 (.seq (.reg false [⟨some 4, none, [], .mv (.k .nsl)⟩])
 .ret)
 (.seq (.reg false [⟨some 10, none, [], .mv (.t 1)⟩,
  ⟨some 11, none, [], .ib .lt .i64 (.t 10) (.k (.v (.int .i64 0)))⟩,
  ⟨some 9, none, [], .mv (.t 11)⟩])
 (.cond (.t 9)
 (.reg false [⟨some 12, none, [], .mv (.t 0)⟩,
  ⟨some 13, none, [], .call 43 [(.t 12), (.k (.v (.int .i64 1)))]⟩])
 (.seq (.reg false [⟨some 15, none, [], .mv (.t 1)⟩,
  ⟨some 16, none, [], .mv (.t 0)⟩,
  ⟨some 17, none, [], .chk (.t 16)⟩,
  ⟨some 18, none, [], .fld (.t 17) 0⟩,
  ⟨some 19, none, [], .ld (.t 18)⟩,
  ⟨some 20, none, [], .len false (.t 19)⟩,
  ⟨some 21, none, [], .ib .gt .i64 (.t 15) (.t 20)⟩,
  ⟨some 14, none, [], .mv (.t 21)⟩])
 (.cond (.t 14)
 (.reg false [⟨some 22, none, [], .mv (.t 0)⟩,
  ⟨some 23, none, [], .call 43 [(.t 22), (.k (.v (.int .i64 10)))]⟩])
 .skip)))))))
 (.seq (.seq (.reg false [⟨some 24, none, [], .mv (.t 0)⟩,
  ⟨some 25, none, [], .chk (.t 24)⟩,
  ⟨some 26, none, [], .fld (.t 25) 1⟩,
  ⟨some 27, none, [], .ld (.t 26)⟩,
  ⟨some 28, none, [], .ib .ne .i64 (.t 27) (.k (.v (.int .i64 0)))⟩])
 (.cond (.t 28)
 (.seq (.reg false [⟨some 4, none, [], .mv (.k .nsl)⟩])
 .ret)
 .skip))
 (.seq (.reg false [⟨some 29, none, [], .mv (.t 1)⟩,
  ⟨some 30, none, [], .mks (.bs 5) 1 (.t 29) (.t 29)⟩,
  ⟨some 5, none, [], .mv (.t 30)⟩])
 (.seq (.reg true [⟨some 31, none, [], .mv (.t 0)⟩,
  ⟨some 32, none, [], .mv (.t 0)⟩,
  ⟨some 33, none, [1], .chk (.t 32)⟩,
  ⟨some 34, none, [2, 1], .fld (.t 33) 0⟩,
  ⟨some 35, none, [3, 2, 1], .ld (.t 34)⟩,
  ⟨some 36, none, [], .mv (.t 5)⟩,
  ⟨some 37, none, [], .mv (.t 0)⟩,
  ⟨some 38, none, [6], .chk (.t 37)⟩,
  ⟨some 39, none, [7, 6], .fld (.t 38) 0⟩,
  ⟨some 40, none, [8, 7, 6], .ld (.t 39)⟩,
  ⟨some 41, none, [5, 9, 8, 7, 6], .copy (.t 36) (.t 40) 1⟩,
  ⟨some 42, none, [4, 3, 2, 1, 10, 5, 9, 8, 7, 6], .sls (.t 35) (some (.t 41)) none 1⟩,
  ⟨some 43, none, [0, 1, 2, 3, 4, 5, 6, 7, 8, 9, 10, 11], .chk (.t 31)⟩,
  ⟨some 44, none, [12, 0, 1, 2, 3, 4, 5, 6, 7, 8, 9, 10, 11], .fld (.t 43) 0⟩,
  ⟨none, none, [13, 12, 0, 1, 2, 3, 4, 5, 6, 7, 8, 9, 10, 11], .st (.t 44) (.t 42) 1⟩])
 (.seq (.reg false [⟨some 45, none, [], .mv (.t 5)⟩,
  ⟨some 4, none, [], .mv (.t 45)⟩])
 .ret))))))
theorem comp_36 : compF Try.prog Try.f36 = some (ic_36, [.t 4], 46) := by kernel_rfl
-- ros 36 [none, none] TYS [none, (.int .i64)]

/-- slices.Clone[[]byte,byte] -/
def ic_37 : IC := (.seq (.reg false [⟨some 2, none, [], .mv (.k .nsl)⟩])
 (.seq (.seq (.reg false [⟨some 3, none, [], .mv (.t 0)⟩,
  ⟨some 4, none, [], .isn 1 false (.t 3)⟩])
 (.cond (.t 4)
 (.seq (.reg false [⟨some 2, none, [], .mv (.k .nsl)⟩])
 .ret)
 .skip))
 (.seq (.reg false [⟨some 5, none, [], .bsl (.bs 5) 0 [] []⟩,
  ⟨some 6, none, [], .mv (.t 0)⟩,
  ⟨some 7, none, [], .app (.bs 5) 1 (.t 5) (.t 6)⟩,
  ⟨some 2, none, [], .mv (.t 7)⟩])
 .ret)))
theorem comp_37 : compF Try.prog Try.f37 = some (ic_37, [.t 2], 8) := by kernel_rfl
-- ros 37 [(some (.bs 5))] TYS [(.bytes 5)]

/-- tollbar/tollbarref02.Get -/
def ic_38 : IC := (.seq (.reg false [⟨some 2, none, [], .mv (.k (.v (.int .u64 0)))⟩,
  ⟨some 3, none, [], .mv (.k (.v (.int .i64 0)))⟩,
  ⟨some 4, none, [], .mv (.k (.v (.int .i64 0)))⟩])
 (.seq (.reg false [⟨some 5, none, [], .mv (.k (.v (.int .i64 0)))⟩])
 (.seq (.block 0
 (.loop
 (.seq (.seq (.reg false [⟨some 9, none, [], .mv (.t 5)⟩,
  ⟨some 10, none, [], .mv (.t 0)⟩,
  ⟨some 11, none, [], .len true (.t 10)⟩,
  ⟨some 12, none, [], .ib .lt .i64 (.t 9) (.t 11)⟩,
  ⟨some 13, none, [], .mv (.t 12)⟩,
  ⟨some 14, some (13, true), [], .mv (.t 5)⟩,
  ⟨some 15, some (13, true), [], .ib .lt .i64 (.t 14) (.k (.v (.int .i64 10)))⟩,
  ⟨some 16, none, [], .pick (.t 13) (.t 15) (.k (.v (.bool false)))⟩,
  ⟨some 17, none, [], .mv (.t 16)⟩,
  ⟨some 18, some (17, true), [], .mv (.t 0)⟩,
  ⟨some 19, some (17, true), [], .mv (.t 5)⟩,
  ⟨some 20, some (17, true), [], .sidx (.t 18) (.t 19)⟩,
  ⟨some 21, some (17, true), [], .ib .gt .u8 (.t 20) (.k (.v (.int .u8 127)))⟩,
  ⟨some 22, none, [], .pick (.t 17) (.t 21) (.k (.v (.bool false)))⟩])
 (.cond (.t 22)
 .skip
 (.exit 0)))
 (.block 1
 (.reg false [⟨some 23, none, [], .mv (.t 5)⟩,
  ⟨some 24, none, [], .ib .add .i64 (.t 23) (.k (.v (.int .i64 1)))⟩,
  ⟨some 5, none, [], .mv (.t 24)⟩])))))
 (.seq (.seq (.reg false [⟨some 25, none, [], .mv (.t 5)⟩,
  ⟨some 26, none, [], .ib .eq .i64 (.t 25) (.k (.v (.int .i64 10)))⟩])
 (.cond (.t 26)
 (.seq (.reg false [⟨some 2, none, [], .mv (.k (.v (.int .u64 0)))⟩,
  ⟨some 3, none, [], .mv (.k (.v (.int .i64 0)))⟩,
  ⟨some 4, none, [], .mv (.k (.v (.int .i64 14)))⟩])
 .ret)
 .skip))
 (.seq (.seq (.reg false [⟨some 27, none, [], .mv (.t 5)⟩,
  ⟨some 28, none, [], .mv (.t 0)⟩,
  ⟨some 29, none, [], .len true (.t 28)⟩,
  ⟨some 30, none, [], .ib .eq .i64 (.t 27) (.t 29)⟩])
 (.cond (.t 30)
 (.seq (.reg false [⟨some 2, none, [], .mv (.k (.v (.int .u64 0)))⟩,
  ⟨some 3, none, [], .mv (.k (.v (.int .i64 0)))⟩,
  ⟨some 4, none, [], .mv (.k (.v (.int .i64 10)))⟩])
 .ret)
 .skip))
 (.seq (.reg false [⟨some 6, none, [], .mv (.k (.v (.int .u64 0)))⟩])
 (.seq (.seq (.reg false [⟨some 31, none, [], .mv (.t 5)⟩,
  ⟨some 7, none, [], .mv (.t 31)⟩])
 (.block 2
 (.loop
 (.seq (.seq (.reg false [⟨some 32, none, [], .mv (.t 7)⟩,
  ⟨some 33, none, [], .ib .ge .i64 (.t 32) (.k (.v (.int .i64 0)))⟩])
 (.cond (.t 33)
 .skip
 (.exit 2)))
 (.seq (.block 3
 (.seq (.reg false [⟨some 36, none, [], .mv (.t 0)⟩,
  ⟨some 37, none, [], .mv (.t 7)⟩,
  ⟨some 38, none, [], .sidx (.t 36) (.t 37)⟩,
  ⟨some 39, none, [], .ib .rem .u8 (.t 38) (.k (.v (.int .u8 128)))⟩,
  ⟨some 40, none, [], .conv .u64 (.t 39)⟩,
  ⟨some 8, none, [], .mv (.t 40)⟩])
 (.seq (.seq (.reg false [⟨some 41, none, [], .mv (.t 6)⟩,
  ⟨some 42, none, [], .ib .gt .u64 (.t 41) (.k (.v (.int .u64 144115188075855871)))⟩])
 (.cond (.t 42)
 (.seq (.reg false [⟨some 2, none, [], .mv (.k (.v (.int .u64 0)))⟩,
  ⟨some 3, none, [], .mv (.k (.v (.int .i64 0)))⟩,
  ⟨some 4, none, [], .mv (.k (.v (.int .i64 14)))⟩])
 .ret)
 .skip))
 (.reg false [⟨some 43, none, [], .mv (.t 6)⟩,
  ⟨some 44, none, [], .ib .mul .u64 (.k (.v (.int .u64 128))) (.t 43)⟩,
  ⟨some 45, none, [], .mv (.t 8)⟩,
  ⟨some 46, none, [], .ib .add .u64 (.t 44) (.t 45)⟩,
  ⟨some 6, none, [], .mv (.t 46)⟩]))))
 (.reg false [⟨some 34, none, [], .mv (.t 7)⟩,
  ⟨some 35, none, [], .ib .sub .i64 (.t 34) (.k (.v (.int .i64 1)))⟩,
  ⟨some 7, none, [], .mv (.t 35)⟩]))))))
 (.seq (.seq (.reg false [⟨some 47, none, [], .mv (.t 5)⟩,
  ⟨some 48, none, [], .ib .gt .i64 (.t 47) (.k (.v (.int .i64 0)))⟩,
  ⟨some 49, none, [], .mv (.t 48)⟩,
  ⟨some 50, some (49, true), [], .mv (.t 0)⟩,
  ⟨some 51, some (49, true), [], .mv (.t 5)⟩,
  ⟨some 52, some (49, true), [], .sidx (.t 50) (.t 51)⟩,
  ⟨some 53, some (49, true), [], .ib .eq .u8 (.t 52) (.k (.v (.int .u8 0)))⟩,
  ⟨some 54, none, [], .pick (.t 49) (.t 53) (.k (.v (.bool false)))⟩])
 (.cond (.t 54)
 (.seq (.reg false [⟨some 2, none, [], .mv (.k (.v (.int .u64 0)))⟩,
  ⟨some 3, none, [], .mv (.k (.v (.int .i64 0)))⟩,
  ⟨some 4, none, [], .mv (.k (.v (.int .i64 11)))⟩])
 .ret)
 .skip))
 (.seq (.reg false [⟨some 55, none, [], .mv (.t 6)⟩,
  ⟨some 56, none, [], .mv (.t 5)⟩,
  ⟨some 57, none, [], .ib .add .i64 (.t 56) (.k (.v (.int .i64 1)))⟩,
  ⟨some 2, none, [], .mv (.t 55)⟩,
  ⟨some 3, none, [], .mv (.t 57)⟩,
  ⟨some 4, none, [], .mv (.k (.v (.int .i64 0)))⟩])
 .ret)))))))))
theorem comp_38 : compF Try.prog Try.f38 = some (ic_38, [.t 2, .t 3, .t 4], 58) := by kernel_rfl
-- ros 38 [none] TYS [.str]

/-- tollbar/varint.groups$1 -/
def ic_39 : IC := (.block 0
 (.loop
 (.seq (.seq (.reg false [⟨some 3, none, [], .mv (.t 0)⟩,
  ⟨some 4, none, [], .ld (.t 1)⟩,
  ⟨some 5, none, [], .ib .rem .u64 (.t 4) (.k (.v (.int .u64 128)))⟩,
  ⟨some 6, none, [], .conv .u8 (.t 5)⟩,
  ⟨some 7, none, [], .ld (.t 1)⟩,
  ⟨some 8, none, [], .sh false .u64 (.t 7) (.k (.v (.int .u64 7)))⟩,
  ⟨some 9, none, [], .ib .gt .u64 (.t 8) (.k (.v (.int .u64 0)))⟩,
  ⟨some 10, none, [], .callv (.t 3) [(.t 6), (.t 9)]⟩,
  ⟨some 11, none, [], .mv (.t 10)⟩,
  ⟨some 12, some (11, true), [], .ld (.t 1)⟩,
  ⟨some 13, some (11, true), [], .sh false .u64 (.t 12) (.k (.v (.int .u64 7)))⟩,
  ⟨some 14, some (11, true), [], .ib .gt .u64 (.t 13) (.k (.v (.int .u64 0)))⟩,
  ⟨some 15, none, [], .pick (.t 11) (.t 14) (.k (.v (.bool false)))⟩])
 (.cond (.t 15)
 .skip
 (.exit 0)))
 (.block 1
 (.reg false [⟨some 16, none, [], .ld (.t 1)⟩,
  ⟨some 17, none, [], .sh false .u64 (.t 16) (.k (.v (.int .u64 7)))⟩,
  ⟨none, none, [], .st (.t 1) (.t 17) 1⟩])))))
theorem comp_39 : compF Try.prog Try.f39 = some (ic_39, [], 18) := by kernel_rfl
-- ros 39 [none] TYS [none]

/-- (*tollbar/octet.Window).Err -/
def ic_40 : IC := (.seq (.reg false [⟨some 2, none, [], .mv (.k (.v (.int .i64 0)))⟩])
 (.seq (.seq (.reg false [⟨some 3, none, [], .mv (.t 0)⟩,
  ⟨some 4, none, [], .isn 0 false (.t 3)⟩])
 (.cond (.t 4)
 (.seq (.reg false [⟨some 2, none, [], .mv (.k (.v (.int .i64 1)))⟩])
 .ret)
 .skip))
 (.seq (.reg false [⟨some 5, none, [], .mv (.t 0)⟩,
  ⟨some 6, none, [], .chk (.t 5)⟩,
  ⟨some 7, none, [], .fld (.t 6) 1⟩,
  ⟨some 8, none, [], .ld (.t 7)⟩,
  ⟨some 2, none, [], .mv (.t 8)⟩])
 .ret)))
theorem comp_40 : compF Try.prog Try.f40 = some (ic_40, [.t 2], 9) := by kernel_rfl
-- ros 40 [none] TYS [none]

/-- (*tollbar/octet.Window).Byte -/
def ic_41 : IC := (.seq (.reg false [⟨some 2, none, [], .mv (.k (.v (.int .u8 0)))⟩])
 (.seq (.reg false [⟨some 3, none, [], .mv (.t 0)⟩,
  ⟨some 4, none, [], .call 44 [(.t 3), (.k (.v (.int .i64 1)))]⟩,
  ⟨some 5, none, [], .conv .u8 (.t 4)⟩,
  ⟨some 2, none, [], .mv (.t 5)⟩])
 .ret))
theorem comp_41 : compF Try.prog Try.f41 = some (ic_41, [.t 2], 6) := by kernel_rfl
-- ros 41 [none] TYS [none]

/-- tollbar/varint.Get -/
def ic_42 : IC := (.seq (.reg false [⟨some 2, none, [], .mv (.k (.v (.int .u64 0)))⟩,
  ⟨some 3, none, [], .mv (.k (.v (.int .i64 0)))⟩,
  ⟨some 4, none, [], .mv (.k (.v (.int .i64 0)))⟩])
 (.seq (.reg false [⟨some 5, none, [], .mv (.k (.v (.int .u64 0)))⟩])
 (.seq (.seq (.reg false [⟨some 9, none, [], .mv (.t 0)⟩,
  ⟨some 10, none, [], .mv (.t 0)⟩,
  ⟨some 11, none, [], .len false (.t 10)⟩,
  ⟨some 12, none, [], .mn (.t 11) (.k (.v (.int .i64 10)))⟩,
  ⟨some 13, none, [], .sls (.t 9) none (some (.t 12)) 1⟩,
  ⟨some 14, none, [], .len false (.t 13)⟩,
  ⟨some 15, none, [], .mv (.k (.v (.int .i64 0)))⟩])
 (.block 0
 (.loop
 (.seq (.reg false [⟨some 16, none, [], .ib .lt .i64 (.t 15) (.t 14)⟩])
 (.seq (.cond (.t 16)
 .skip
 (.exit 0))
 (.seq (.block 1
 (.seq (.reg false [⟨some 17, none, [], .mv (.t 15)⟩,
  ⟨some 18, none, [], .idx (.t 13) (.t 15) 1⟩,
  ⟨some 19, none, [], .ld (.t 18)⟩,
  ⟨some 6, none, [], .mv (.t 17)⟩,
  ⟨some 7, none, [], .mv (.t 19)⟩])
 (.seq (.reg false [⟨some 20, none, [], .mv (.t 7)⟩,
  ⟨some 21, none, [], .ib .rem .u8 (.t 20) (.k (.v (.int .u8 128)))⟩,
  ⟨some 22, none, [], .conv .u64 (.t 21)⟩,
  ⟨some 8, none, [], .mv (.t 22)⟩])
 (.seq (.seq (.reg false [⟨some 23, none, [], .mv (.t 8)⟩,
  ⟨some 24, none, [], .mv (.t 6)⟩,
  ⟨some 25, none, [], .ib .mul .i64 (.k (.v (.int .i64 7))) (.t 24)⟩,
  ⟨some 26, none, [], .sh true .u64 (.t 23) (.t 25)⟩,
  ⟨some 27, none, [], .mv (.t 6)⟩,
  ⟨some 28, none, [], .ib .mul .i64 (.k (.v (.int .i64 7))) (.t 27)⟩,
  ⟨some 29, none, [], .sh false .u64 (.t 26) (.t 28)⟩,
  ⟨some 30, none, [], .mv (.t 8)⟩,
  ⟨some 31, none, [], .ib .ne .u64 (.t 29) (.t 30)⟩])
 (.cond (.t 31)
 (.seq (.reg false [⟨some 2, none, [], .mv (.k (.v (.int .u64 0)))⟩,
  ⟨some 3, none, [], .mv (.k (.v (.int .i64 0)))⟩,
  ⟨some 4, none, [], .mv (.k (.v (.int .i64 14)))⟩])
 .ret)
 .skip))
 (.seq (.reg false [⟨some 32, none, [], .mv (.t 5)⟩,
  ⟨some 33, none, [], .mv (.t 8)⟩,
  ⟨some 34, none, [], .mv (.t 6)⟩,
  ⟨some 35, none, [], .ib .mul .i64 (.k (.v (.int .i64 7))) (.t 34)⟩,
  ⟨some 36, none, [], .sh true .u64 (.t 33) (.t 35)⟩,
  ⟨some 37, none, [], .ib .or .u64 (.t 32) (.t 36)⟩,
  ⟨some 5, none, [], .mv (.t 37)⟩])
 (.block 2
 (.seq (.reg false [⟨some 42, none, [], .mv (.t 7)⟩,
  ⟨some 43, none, [], .ib .ge .u8 (.t 42) (.k (.v (.int .u8 128)))⟩,
  ⟨some 41, none, [], .mv (.t 43)⟩])
 (.cond (.t 41)
 .skip
 (.seq (.reg false [⟨some 45, none, [], .mv (.t 7)⟩,
  ⟨some 46, none, [], .ib .eq .u8 (.t 45) (.k (.v (.int .u8 0)))⟩,
  ⟨some 47, none, [], .mv (.t 46)⟩,
  ⟨some 48, some (47, true), [], .mv (.t 6)⟩,
  ⟨some 49, some (47, true), [], .ib .gt .i64 (.t 48) (.k (.v (.int .i64 0)))⟩,
  ⟨some 50, none, [], .pick (.t 47) (.t 49) (.k (.v (.bool false)))⟩,
  ⟨some 44, none, [], .mv (.t 50)⟩])
 (.cond (.t 44)
 (.seq (.reg false [⟨some 2, none, [], .mv (.k (.v (.int .u64 0)))⟩,
  ⟨some 3, none, [], .mv (.k (.v (.int .i64 0)))⟩,
  ⟨some 4, none, [], .mv (.k (.v (.int .i64 11)))⟩])
 .ret)
 (.seq (.reg false [⟨some 38, none, [], .mv (.t 5)⟩,
  ⟨some 39, none, [], .mv (.t 6)⟩,
  ⟨some 40, none, [], .ib .add .i64 (.t 39) (.k (.v (.int .i64 1)))⟩,
  ⟨some 2, none, [], .mv (.t 38)⟩,
  ⟨some 3, none, [], .mv (.t 40)⟩,
  ⟨some 4, none, [], .mv (.k (.v (.int .i64 0)))⟩])
 .ret)))))))))))
 (.reg false [⟨some 51, none, [], .ib .add .i64 (.t 15) (.k (.v (.int .i64 1)))⟩,
  ⟨some 15, none, [], .mv (.t 51)⟩])))))))
 (.seq (.seq (.reg false [⟨some 52, none, [], .mv (.t 0)⟩,
  ⟨some 53, none, [], .len false (.t 52)⟩,
  ⟨some 54, none, [], .ib .ge .i64 (.t 53) (.k (.v (.int .i64 10)))⟩])
 (.cond (.t 54)
 (.seq (.reg false [⟨some 2, none, [], .mv (.k (.v (.int .u64 0)))⟩,
  ⟨some 3, none, [], .mv (.k (.v (.int .i64 0)))⟩,
  ⟨some 4, none, [], .mv (.k (.v (.int .i64 14)))⟩])
 .ret)
 .skip))
 (.seq (.reg false [⟨some 2, none, [], .mv (.k (.v (.int .u64 0)))⟩,
  ⟨some 3, none, [], .mv (.k (.v (.int .i64 0)))⟩,
  ⟨some 4, none, [], .mv (.k (.v (.int .i64 10)))⟩])
 .ret)))))
theorem comp_42 : compF Try.prog Try.f42 = some (ic_42, [.t 2, .t 3, .t 4], 55) := by kernel_rfl
-- ros 42 [(some (.bs 5))] TYS [(.bytes 5)]

/-- (*tollbar/octet.Window).fail -/
def ic_43 : IC := (.seq (.reg false [⟨some 4, none, [], .mv (.t 0)⟩,
  ⟨some 5, none, [], .chk (.t 4)⟩,
  ⟨some 6, none, [], .fld (.t 5) 1⟩,
  ⟨some 7, none, [], .ld (.t 6)⟩,
  ⟨some 8, none, [], .ib .eq .i64 (.t 7) (.k (.v (.int .i64 0)))⟩])
 (.cond (.t 8)
 (.reg false [⟨some 9, none, [], .mv (.t 0)⟩,
  ⟨some 10, none, [], .mv (.t 1)⟩,
  ⟨some 11, none, [], .chk (.t 9)⟩,
  ⟨some 12, none, [], .fld (.t 11) 1⟩,
  ⟨none, none, [], .st (.t 12) (.t 10) 1⟩])
 .skip))
theorem comp_43 : compF Try.prog Try.f43 = some (ic_43, [], 13) := by kernel_rfl
-- ros 43 [none, none] TYS [none, (.int .i64)]

/-- (*tollbar/octet.Window).Num -/
def ic_44 : IC := (.seq (.reg false [⟨some 4, none, [], .mv (.k (.v (.int .u64 0)))⟩])
 (.seq (.seq (.reg false [⟨some 7, none, [], .mv (.t 0)⟩,
  ⟨some 8, none, [], .isn 0 false (.t 7)⟩])
 (.cond (.t 8)
 (.seq (.reg false [⟨some 4, none, [], .mv (.k (.v (.int .u64 0)))⟩])
 .ret)
 .skip))
 (.seq (.seq (.reg false [⟨some 9, none, [], .mv (.t 1)⟩,
  ⟨some 10, none, [], .ib .lt .i64 (.t 9) (.k (.v (.int .i64 1)))⟩,
  ⟨some 11, none, [], .mv (.t 10)⟩,
  ⟨some 12, some (11, false), [], .mv (.t 1)⟩,
  ⟨some 13, some (11, false), [], .ib .gt .i64 (.t 12) (.k (.v (.int .i64 8)))⟩,
  ⟨some 14, none, [], .pick (.t 11) (.k (.v (.bool true))) (.t 13)⟩])
 (.cond (.t 14)
 (.seq (.reg false [⟨some 15, none, [], .mv (.t 0)⟩,
  ⟨some 16, none, [], .call 43 [(.t 15), (.k (.v (.int .i64 1)))]⟩])
 (.seq (.reg false [⟨some 4, none, [], .mv (.k (.v (.int .u64 0)))⟩])
 .ret))
 .skip))
 (.seq (.reg false [⟨some 18, none, [], .mv (.t 0)⟩,
  ⟨some 19, none, [], .mv (.t 1)⟩,
  ⟨some 20, none, [], .call 36 [(.t 18), (.t 19)]⟩,
  ⟨some 21, none, [], .call 45 [(.t 20)]⟩,
  ⟨some 17, none, [], .mv (.t 21)⟩,
  ⟨some 22, none, [], .ext (.t 17) 0⟩,
  ⟨some 23, none, [], .ext (.t 17) 1⟩,
  ⟨some 5, none, [], .mv (.t 22)⟩,
  ⟨some 6, none, [], .mv (.t 23)⟩])
 (.seq (.reg false [⟨some 24, none, [], .mv (.t 5)⟩,
  ⟨some 4, none, [], .mv (.t 24)⟩])
 .ret)))))
theorem comp_44 : compF Try.prog Try.f44 = some (ic_44, [.t 4], 25) := by kernel_rfl
-- ros 44 [none, none] TYS [none, (.int .i64)]

/-- tollbar/octet.Value -/
def ic_45 : IC := (.seq (.reg false [⟨some 2, none, [], .mv (.k (.v (.int .u64 0)))⟩,
  ⟨some 3, none, [], .mv (.k (.v (.bool false)))⟩])
 (.seq (.reg false [⟨some 4, none, [], .mv (.k (.v (.int .u64 0)))⟩])
 (.seq (.seq (.reg false [⟨some 7, none, [], .mv (.t 0)⟩,
  ⟨some 8, none, [], .len false (.t 7)⟩,
  ⟨some 9, none, [], .mv (.k (.v (.int .i64 0)))⟩])
 (.block 0
 (.loop
 (.seq (.reg false [⟨some 10, none, [], .ib .lt .i64 (.t 9) (.t 8)⟩])
 (.seq (.cond (.t 10)
 .skip
 (.exit 0))
 (.seq (.block 1
 (.seq (.reg false [⟨some 11, none, [], .idx (.t 7) (.t 9) 1⟩,
  ⟨some 12, none, [], .ld (.t 11)⟩,
  ⟨some 6, none, [], .mv (.t 12)⟩])
 (.seq (.seq (.reg false [⟨some 13, none, [], .mv (.t 4)⟩,
  ⟨some 14, none, [], .sh false .u64 (.t 13) (.k (.v (.int .u64 56)))⟩,
  ⟨some 15, none, [], .ib .gt .u64 (.t 14) (.k (.v (.int .u64 0)))⟩])
 (.cond (.t 15)
 (.seq (.reg false [⟨some 2, none, [], .mv (.k (.v (.int .u64 0)))⟩,
  ⟨some 3, none, [], .mv (.k (.v (.bool false)))⟩])
 .ret)
 .skip))
 (.reg false [⟨some 16, none, [], .mv (.t 4)⟩,
  ⟨some 17, none, [], .sh true .u64 (.t 16) (.k (.v (.int .u64 8)))⟩,
  ⟨some 18, none, [], .mv (.t 6)⟩,
  ⟨some 19, none, [], .conv .u64 (.t 18)⟩,
  ⟨some 20, none, [], .ib .or .u64 (.t 17) (.t 19)⟩,
  ⟨some 4, none, [], .mv (.t 20)⟩]))))
 (.reg false [⟨some 21, none, [], .ib .add .i64 (.t 9) (.k (.v (.int .i64 1)))⟩,
  ⟨some 9, none, [], .mv (.t 21)⟩])))))))
 (.seq (.reg false [⟨some 22, none, [], .mv (.t 4)⟩,
  ⟨some 2, none, [], .mv (.t 22)⟩,
  ⟨some 3, none, [], .mv (.k (.v (.bool true)))⟩])
 .ret))))
theorem comp_45 : compF Try.prog Try.f45 = some (ic_45, [.t 2, .t 3], 23) := by kernel_rfl
-- ros 45 [(some (.bs 5))] TYS [(.bytes 5)]

end Go.Proofs.Ytknaheioedkaeaa
end
section
/-
  The walk of (tollbar/tlv.Item).odd (printed by a program of ours).
-/
set_option linter.unusedVariables false
set_option linter.unusedSimpArgs false
namespace Go.Proofs.Ytknaheioedkaeaa
open Go.RowKit

noncomputable def tab_tlv_Item_odd : Nat → Option Con := look []
set_option maxHeartbeats 4000000 in
set_option maxRecDepth 100000 in
theorem vc_tlv_Item_odd (P : Program) (T : Tab P tab_tlv_Item_odd) (hm : P.follows .mixedOrders = true) : FnVC P tab_tlv_Item_odd ic_31 [.t 2] 7 con_tlv_Item_odd := by
  intro cargs ccks ce hce hob C hk
  apply Hidden.out
  replace hce : altC (con_tlv_Item_odd_1 cargs ccks) (con_tlv_Item_odd_2 cargs ccks) = some ce := hce
  replace hce := altC_inv hce
  rcases hce with hce | hce
  · unfold con_tlv_Item_odd_1 at hce
    split at hce
    rotate_left
    · cases hce
    obtain rfl := Option.some.inj hce
    rename_i x1 s1 r1
    have hb1 := hob _ (List.mem_singleton.2 rfl)
    have hb2 := obl.1 hb1
    clear hb1 hob hce
    refine hb2.elim fun r hF => ?_
    clear hb2
    simp only [List.length_cons, List.length_nil, Nat.zero_add, Nat.reduceAdd] at hk
    have hr : F_tlv_Item_odd x1 s1 r1 = some r := by rw [lock_eq] at hF; exact hF
    unfold F_tlv_Item_odd at hr
    constructor
    (try cbv)
    apply Hidden.out
    have e := Option.some.inj hr
    constructor
    refine ⟨_, hF, ?_⟩
    (try cbv); (try simp only [choice_lk, lock_eq, and_self, and_true, true_and]); (try first | exact e | exact e.symm | (and_intros <;> first | assumption | rfl | exact Eq.symm (by assumption)))
  · unfold con_tlv_Item_odd_2 at hce
    split at hce
    rotate_left
    · cases hce
    obtain rfl := Option.some.inj hce
    rename_i x1
    have hb1 := hob _ (List.mem_singleton.2 rfl)
    have hb2 := obl.1 hb1
    clear hb1 hob hce
    refine hb2.elim fun r hF => ?_
    clear hb2
    simp only [List.length_cons, List.length_nil, Nat.zero_add, Nat.reduceAdd] at hk
    have hr : F_tlv_Item_odd_2 x1 = some r := by rw [lock_eq] at hF; exact hF
    unfold F_tlv_Item_odd_2 at hr
    constructor
    (try cbv)
    apply Hidden.out
    have e := Option.some.inj hr
    constructor
    refine ⟨_, hF, ?_⟩
    (try cbv); (try simp only [choice_lk, lock_eq, and_self, and_true, true_and]); (try first | exact e | exact e.symm | (and_intros <;> first | assumption | rfl | exact Eq.symm (by assumption)))
end Go.Proofs.Ytknaheioedkaeaa
end
section
/-
  The walk of tollbar/tlv.right (printed by a program of ours).
-/
set_option linter.unusedVariables false
set_option linter.unusedSimpArgs false
namespace Go.Proofs.Ytknaheioedkaeaa
open Go.RowKit

noncomputable def tab_tlv_rightG (gn : Nat) : Nat → Option Con := look [(23, con_tlv_rightG gn), (31, con_tlv_Item_odd)]
set_option maxHeartbeats 4000000 in
set_option maxRecDepth 100000 in
theorem vc_tlv_rightG (P : Program) (gn : Nat) (T : Tab P (tab_tlv_rightG gn)) (hm : P.follows .mixedOrders = true) : FnVC P (tab_tlv_rightG gn) ic_23 [.t 4] 47 (con_tlv_rightG (gn + 1)) := by
  intro cargs ccks ce hce hob C hk
  apply Hidden.out
  replace hce : con_tlv_rightG_1 (gn + 1) cargs ccks = some ce := hce
  · unfold con_tlv_rightG_1 at hce
    split at hce
    rotate_left
    · cases hce
    obtain rfl := Option.some.inj hce
    rename_i r1 x1
    have hb1 := hob _ (List.mem_singleton.2 rfl)
    have hb2 := obl.1 hb1
    clear hb1 hob hce
    refine hb2.elim fun r hF => ?_
    clear hb2
    simp only [List.length_cons, List.length_nil, Nat.zero_add, Nat.reduceAdd] at hk
    have hr : B_tlv_right (G_tlv_right gn) r1 x1 = some r := by rw [lock_eq] at hF; exact hF
    unfold B_tlv_right at hr
    constructor
    (try cbv)
    refine LoopOK.iter T (drawOK T hm) (B := (F_tlv_right_L1 (G_tlv_right gn) r1 x1)) hr (fun | i1 => ⟨mkFr [(1, (.v (.int .i64 x1))), (8, (.rsl (.row 46 (.st [(.int .u64), (.bytes 5), (.self 46)]) r1))), (9, (.v (.int .i64 (lock ofN (lock (@xlen D) r1))))), (10, (.v (.int .i64 i1)))] 47 0, [], 0⟩) ?_ ?_
    · rintro u0 e
      refine le_auto hk ?_
      (try cbv); (try simp only [choice_lk, lock_eq, and_self, and_true, true_and]); (try first | exact e | exact e.symm | (and_intros <;> first | assumption | rfl | exact Eq.symm (by assumption)))
    · clear hr
      intro x bb1 hr ht1
      obtain ⟨i1, hz⟩ : ∃ z, z = x := ⟨x, rfl⟩
      subst hz
      as_aux_lemma =>
      constructor
      unfold F_tlv_right_L1 at hr
      (try dsimp only at hr)
      (try cbv)
      refine sel_intro (fun h => ?_) (fun h => ?_)
      · as_aux_lemma =>
        have h1 : (ilt i1 (ofN (xlen r1))) = true := by first | exact h | (have h2 := h; simp only [choice_lk, lock_eq] at h2; exact h2) | (simp only [choice_lk, lock_eq] at h; exact h)
        rw [if_pos h1] at hr
        (try cbv)
        have gg := guard_inv hr
        have g := gg.1
        replace hr := gg.2
        clear gg
        refine ⟨obl.2 (by first | (simp only [choice_lk, lock_eq, R.len, R.sub]; exact g) | exact g), ?_⟩
        have hqe : ∃ qq, F_tlv_Item_odd (D.toI (D.fld (getD r1 (toN i1)) 0)) (D.toS (D.fld (getD r1 (toN i1)) 1)) (D.toL (D.fld (getD r1 (toN i1)) 2)) = some qq := by
          cases hq : F_tlv_Item_odd (D.toI (D.fld (getD r1 (toN i1)) 0)) (D.toS (D.fld (getD r1 (toN i1)) 1)) (D.toL (D.fld (getD r1 (toN i1)) 2)) with
          | none => rw [hq] at hr; cases hr
          | some qq => exact ⟨qq, rfl⟩
        refine ⟨obl.2 (by simp only [choice_lk, lock_eq]; exact hqe), (by rintro (_) _ <;> cbv), ?_⟩
        clear hqe
        intro c11 hx15
        simp only [choice_lk, lock_eq] at hx15
        all_goals (rw [hx15] at hr; dsimp only at hr; constructor; (try cbv))
        refine sel_intro (fun h => ?_) (fun h => ?_)
        · as_aux_lemma =>
          have h1 : c11 = true := by first | exact h | (have h2 := h; simp only [choice_lk, lock_eq] at h2; exact h2) | (simp only [choice_lk, lock_eq] at h; exact h)
          rw [if_pos h1] at hr
          (try cbv)
          refine sel_intro (fun h => ?_) (fun h => ?_)
          · have h1 : (ilt (0 : Int) (ofN (xlen (D.toS (D.fld (getD r1 (toN i1)) 1))))) = true := by first | exact h | (have h2 := h; simp only [choice_lk, lock_eq] at h2; exact h2) | (simp only [choice_lk, lock_eq] at h; exact h)
            rw [if_pos h1] at hr
            (try cbv)
            apply Hidden.out
            obtain rfl := Option.some.inj hr
            have e := ht1 _ rfl
            constructor
            refine ⟨_, hF, ?_⟩
            (try cbv); (try simp only [choice_lk, lock_eq, and_self, and_true, true_and]); (try first | exact e | exact e.symm | (and_intros <;> first | assumption | rfl | exact Eq.symm (by assumption)))
          · as_aux_lemma =>
            have h1 : (ilt (0 : Int) (ofN (xlen (D.toS (D.fld (getD r1 (toN i1)) 1))))) = false := by first | exact h | (have h2 := h; simp only [choice_lk, lock_eq] at h2; exact h2) | (simp only [choice_lk, lock_eq] at h; exact h)
            rw [if_neg (by rw [h1]; exact Bool.false_ne_true)] at hr
            (try cbv)
            refine ⟨obl.2 (by simp only [choice_lk, lock_eq]; exact ⟨_, hx15⟩), (by rintro (_) _ <;> cbv), ?_⟩
            intro qq hx
            simp only [choice_lk, lock_eq] at hx
            obtain rfl := Option.some.inj (hx15.symm.trans hx)
            constructor
            (try cbv)
            refine sel_intro (fun h => ?_) (fun h => ?_)
            · have h1 : c11 = false := by first | exact (bnot_t.1 h) | (have h2 := (bnot_t.1 h); simp only [choice_lk, lock_eq] at h2; exact h2) | (simp only [choice_lk, lock_eq] at h; exact (bnot_t.1 h))
              rw [if_neg (by rw [h1]; exact Bool.false_ne_true)] at hr
              (try cbv)
              refine sel_intro (fun h => ?_) (fun h => ?_)
              · have h1 : (ilt (0 : Int) (ofN (xlen (D.toL (D.fld (getD r1 (toN i1)) 2))))) = true := by first | exact h | (have h2 := h; simp only [choice_lk, lock_eq] at h2; exact h2) | (simp only [choice_lk, lock_eq] at h; exact h)
                rw [if_pos h1] at hr
                (try cbv)
                apply Hidden.out
                obtain rfl := Option.some.inj hr
                have e := ht1 _ rfl
                constructor
                refine ⟨_, hF, ?_⟩
                (try cbv); (try simp only [choice_lk, lock_eq, and_self, and_true, true_and]); (try first | exact e | exact e.symm | (and_intros <;> first | assumption | rfl | exact Eq.symm (by assumption)))
              · have h1 : (ilt (0 : Int) (ofN (xlen (D.toL (D.fld (getD r1 (toN i1)) 2))))) = false := by first | exact h | (have h2 := h; simp only [choice_lk, lock_eq] at h2; exact h2) | (simp only [choice_lk, lock_eq] at h; exact h)
                rw [if_neg (by rw [h1]; exact Bool.false_ne_true)] at hr
                (try cbv)
                refine sel_intro (fun h => ?_) (fun h => ?_)
                · have h1 : (ilt (6 : Int) x1) = true := by first | exact h | (have h2 := h; simp only [choice_lk, lock_eq] at h2; exact h2) | (simp only [choice_lk, lock_eq] at h; exact h)
                  rw [if_pos h1] at hr
                  (try cbv)
                  apply Hidden.out
                  obtain rfl := Option.some.inj hr
                  have e := ht1 _ rfl
                  constructor
                  refine ⟨_, hF, ?_⟩
                  (try cbv); (try simp only [choice_lk, lock_eq, and_self, and_true, true_and]); (try first | exact e | exact e.symm | (and_intros <;> first | assumption | rfl | exact Eq.symm (by assumption)))
                · have h1 : (ilt (6 : Int) x1) = false := by first | exact h | (have h2 := h; simp only [choice_lk, lock_eq] at h2; exact h2) | (simp only [choice_lk, lock_eq] at h; exact h)
                  rw [if_neg (by rw [h1]; exact Bool.false_ne_true)] at hr
                  (try cbv)
                  have hqe : ∃ qq, G_tlv_right gn (D.toL (D.fld (getD r1 (toN i1)) 2)) (iadd .i64 x1 (1 : Int)) = some qq := by
                    cases hq : G_tlv_right gn (D.toL (D.fld (getD r1 (toN i1)) 2)) (iadd .i64 x1 (1 : Int)) with
                    | none => rw [hq] at hr; cases hr
                    | some qq => exact ⟨qq, rfl⟩
                  refine ⟨obl.2 (by simp only [choice_lk, lock_eq]; exact hqe), (by rintro (_) _ <;> cbv), ?_⟩
                  clear hqe
                  intro c12 hx17
                  simp only [choice_lk, lock_eq] at hx17
                  all_goals (rw [hx17] at hr; dsimp only at hr; constructor; (try cbv))
                  refine sel_intro (fun h => ?_) (fun h => ?_)
                  · have h1 : c12 = false := by first | exact (bnot_t.1 h) | (have h2 := (bnot_t.1 h); simp only [choice_lk, lock_eq] at h2; exact h2) | (simp only [choice_lk, lock_eq] at h; exact (bnot_t.1 h))
                    rw [if_neg (by rw [h1]; exact Bool.false_ne_true)] at hr
                    (try cbv)
                    apply Hidden.out
                    obtain rfl := Option.some.inj hr
                    have e := ht1 _ rfl
                    constructor
                    refine ⟨_, hF, ?_⟩
                    (try cbv); (try simp only [choice_lk, lock_eq, and_self, and_true, true_and]); (try first | exact e | exact e.symm | (and_intros <;> first | assumption | rfl | exact Eq.symm (by assumption)))
                  · have h1 : c12 = true := by first | exact (bnot_f.1 h) | (have h2 := (bnot_f.1 h); simp only [choice_lk, lock_eq] at h2; exact h2) | (simp only [choice_lk, lock_eq] at h; exact (bnot_f.1 h))
                    rw [if_pos h1] at hr
                    (try cbv)
                    apply Hidden.out
                    obtain rfl := Option.some.inj hr
                    constructor
                    refine ⟨⟨_, rfl⟩, ?_⟩
                    rintro u0 e
                    replace e := Sum.inl.inj e
                    refine le_auto hk ?_
                    (try cbv); (try simp only [choice_lk, lock_eq, and_self, and_true, true_and]); (try first | exact e | exact e.symm | (and_intros <;> first | assumption | rfl | exact Eq.symm (by assumption)))
            · have h1 : c11 = true := by first | exact (bnot_f.1 h) | (have h2 := (bnot_f.1 h); simp only [choice_lk, lock_eq] at h2; exact h2) | (simp only [choice_lk, lock_eq] at h; exact (bnot_f.1 h))
              rw [if_pos h1] at hr
              (try cbv)
              refine sel_intro (fun h => ?_) (fun h => ?_)
              · have h1 : (ilt (6 : Int) x1) = true := by first | exact h | (have h2 := h; simp only [choice_lk, lock_eq] at h2; exact h2) | (simp only [choice_lk, lock_eq] at h; exact h)
                rw [if_pos h1] at hr
                (try cbv)
                apply Hidden.out
                obtain rfl := Option.some.inj hr
                have e := ht1 _ rfl
                constructor
                refine ⟨_, hF, ?_⟩
                (try cbv); (try simp only [choice_lk, lock_eq, and_self, and_true, true_and]); (try first | exact e | exact e.symm | (and_intros <;> first | assumption | rfl | exact Eq.symm (by assumption)))
              · have h1 : (ilt (6 : Int) x1) = false := by first | exact h | (have h2 := h; simp only [choice_lk, lock_eq] at h2; exact h2) | (simp only [choice_lk, lock_eq] at h; exact h)
                rw [if_neg (by rw [h1]; exact Bool.false_ne_true)] at hr
                (try cbv)
                have hqe : ∃ qq, G_tlv_right gn (D.toL (D.fld (getD r1 (toN i1)) 2)) (iadd .i64 x1 (1 : Int)) = some qq := by
                  cases hq : G_tlv_right gn (D.toL (D.fld (getD r1 (toN i1)) 2)) (iadd .i64 x1 (1 : Int)) with
                  | none => rw [hq] at hr; cases hr
                  | some qq => exact ⟨qq, rfl⟩
                refine ⟨obl.2 (by simp only [choice_lk, lock_eq]; exact hqe), (by rintro (_) _ <;> cbv), ?_⟩
                clear hqe
                intro c13 hx18
                simp only [choice_lk, lock_eq] at hx18
                all_goals (rw [hx18] at hr; dsimp only at hr; constructor; (try cbv))
                refine sel_intro (fun h => ?_) (fun h => ?_)
                · have h1 : c13 = false := by first | exact (bnot_t.1 h) | (have h2 := (bnot_t.1 h); simp only [choice_lk, lock_eq] at h2; exact h2) | (simp only [choice_lk, lock_eq] at h; exact (bnot_t.1 h))
                  rw [if_neg (by rw [h1]; exact Bool.false_ne_true)] at hr
                  (try cbv)
                  apply Hidden.out
                  obtain rfl := Option.some.inj hr
                  have e := ht1 _ rfl
                  constructor
                  refine ⟨_, hF, ?_⟩
                  (try cbv); (try simp only [choice_lk, lock_eq, and_self, and_true, true_and]); (try first | exact e | exact e.symm | (and_intros <;> first | assumption | rfl | exact Eq.symm (by assumption)))
                · have h1 : c13 = true := by first | exact (bnot_f.1 h) | (have h2 := (bnot_f.1 h); simp only [choice_lk, lock_eq] at h2; exact h2) | (simp only [choice_lk, lock_eq] at h; exact (bnot_f.1 h))
                  rw [if_pos h1] at hr
                  (try cbv)
                  apply Hidden.out
                  obtain rfl := Option.some.inj hr
                  constructor
                  refine ⟨⟨_, rfl⟩, ?_⟩
                  rintro u0 e
                  replace e := Sum.inl.inj e
                  refine le_auto hk ?_
                  (try cbv); (try simp only [choice_lk, lock_eq, and_self, and_true, true_and]); (try first | exact e | exact e.symm | (and_intros <;> first | assumption | rfl | exact Eq.symm (by assumption)))
        · as_aux_lemma =>
          have h1 : c11 = false := by first | exact h | (have h2 := h; simp only [choice_lk, lock_eq] at h2; exact h2) | (simp only [choice_lk, lock_eq] at h; exact h)
          rw [if_neg (by rw [h1]; exact Bool.false_ne_true)] at hr
          (try cbv)
          refine ⟨obl.2 (by simp only [choice_lk, lock_eq]; exact ⟨_, hx15⟩), (by rintro (_) _ <;> cbv), ?_⟩
          intro qq hx
          simp only [choice_lk, lock_eq] at hx
          obtain rfl := Option.some.inj (hx15.symm.trans hx)
          constructor
          (try cbv)
          refine sel_intro (fun h => ?_) (fun h => ?_)
          · have h1 : c11 = false := by first | exact (bnot_t.1 h) | (have h2 := (bnot_t.1 h); simp only [choice_lk, lock_eq] at h2; exact h2) | (simp only [choice_lk, lock_eq] at h; exact (bnot_t.1 h))
            rw [if_neg (by rw [h1]; exact Bool.false_ne_true)] at hr
            (try cbv)
            refine sel_intro (fun h => ?_) (fun h => ?_)
            · have h1 : (ilt (0 : Int) (ofN (xlen (D.toL (D.fld (getD r1 (toN i1)) 2))))) = true := by first | exact h | (have h2 := h; simp only [choice_lk, lock_eq] at h2; exact h2) | (simp only [choice_lk, lock_eq] at h; exact h)
              rw [if_pos h1] at hr
              (try cbv)
              apply Hidden.out
              obtain rfl := Option.some.inj hr
              have e := ht1 _ rfl
              constructor
              refine ⟨_, hF, ?_⟩
              (try cbv); (try simp only [choice_lk, lock_eq, and_self, and_true, true_and]); (try first | exact e | exact e.symm | (and_intros <;> first | assumption | rfl | exact Eq.symm (by assumption)))
            · have h1 : (ilt (0 : Int) (ofN (xlen (D.toL (D.fld (getD r1 (toN i1)) 2))))) = false := by first | exact h | (have h2 := h; simp only [choice_lk, lock_eq] at h2; exact h2) | (simp only [choice_lk, lock_eq] at h; exact h)
              rw [if_neg (by rw [h1]; exact Bool.false_ne_true)] at hr
              (try cbv)
              refine sel_intro (fun h => ?_) (fun h => ?_)
              · have h1 : (ilt (6 : Int) x1) = true := by first | exact h | (have h2 := h; simp only [choice_lk, lock_eq] at h2; exact h2) | (simp only [choice_lk, lock_eq] at h; exact h)
                rw [if_pos h1] at hr
                (try cbv)
                apply Hidden.out
                obtain rfl := Option.some.inj hr
                have e := ht1 _ rfl
                constructor
                refine ⟨_, hF, ?_⟩
                (try cbv); (try simp only [choice_lk, lock_eq, and_self, and_true, true_and]); (try first | exact e | exact e.symm | (and_intros <;> first | assumption | rfl | exact Eq.symm (by assumption)))
              · have h1 : (ilt (6 : Int) x1) = false := by first | exact h | (have h2 := h; simp only [choice_lk, lock_eq] at h2; exact h2) | (simp only [choice_lk, lock_eq] at h; exact h)
                rw [if_neg (by rw [h1]; exact Bool.false_ne_true)] at hr
                (try cbv)
                have hqe : ∃ qq, G_tlv_right gn (D.toL (D.fld (getD r1 (toN i1)) 2)) (iadd .i64 x1 (1 : Int)) = some qq := by
                  cases hq : G_tlv_right gn (D.toL (D.fld (getD r1 (toN i1)) 2)) (iadd .i64 x1 (1 : Int)) with
                  | none => rw [hq] at hr; cases hr
                  | some qq => exact ⟨qq, rfl⟩
                refine ⟨obl.2 (by simp only [choice_lk, lock_eq]; exact hqe), (by rintro (_) _ <;> cbv), ?_⟩
                clear hqe
                intro c14 hx20
                simp only [choice_lk, lock_eq] at hx20
                all_goals (rw [hx20] at hr; dsimp only at hr; constructor; (try cbv))
                refine sel_intro (fun h => ?_) (fun h => ?_)
                · have h1 : c14 = false := by first | exact (bnot_t.1 h) | (have h2 := (bnot_t.1 h); simp only [choice_lk, lock_eq] at h2; exact h2) | (simp only [choice_lk, lock_eq] at h; exact (bnot_t.1 h))
                  rw [if_neg (by rw [h1]; exact Bool.false_ne_true)] at hr
                  (try cbv)
                  apply Hidden.out
                  obtain rfl := Option.some.inj hr
                  have e := ht1 _ rfl
                  constructor
                  refine ⟨_, hF, ?_⟩
                  (try cbv); (try simp only [choice_lk, lock_eq, and_self, and_true, true_and]); (try first | exact e | exact e.symm | (and_intros <;> first | assumption | rfl | exact Eq.symm (by assumption)))
                · have h1 : c14 = true := by first | exact (bnot_f.1 h) | (have h2 := (bnot_f.1 h); simp only [choice_lk, lock_eq] at h2; exact h2) | (simp only [choice_lk, lock_eq] at h; exact (bnot_f.1 h))
                  rw [if_pos h1] at hr
                  (try cbv)
                  apply Hidden.out
                  obtain rfl := Option.some.inj hr
                  constructor
                  refine ⟨⟨_, rfl⟩, ?_⟩
                  rintro u0 e
                  replace e := Sum.inl.inj e
                  refine le_auto hk ?_
                  (try cbv); (try simp only [choice_lk, lock_eq, and_self, and_true, true_and]); (try first | exact e | exact e.symm | (and_intros <;> first | assumption | rfl | exact Eq.symm (by assumption)))
          · have h1 : c11 = true := by first | exact (bnot_f.1 h) | (have h2 := (bnot_f.1 h); simp only [choice_lk, lock_eq] at h2; exact h2) | (simp only [choice_lk, lock_eq] at h; exact (bnot_f.1 h))
            rw [if_pos h1] at hr
            (try cbv)
            refine sel_intro (fun h => ?_) (fun h => ?_)
            · have h1 : (ilt (6 : Int) x1) = true := by first | exact h | (have h2 := h; simp only [choice_lk, lock_eq] at h2; exact h2) | (simp only [choice_lk, lock_eq] at h; exact h)
              rw [if_pos h1] at hr
              (try cbv)
              apply Hidden.out
              obtain rfl := Option.some.inj hr
              have e := ht1 _ rfl
              constructor
              refine ⟨_, hF, ?_⟩
              (try cbv); (try simp only [choice_lk, lock_eq, and_self, and_true, true_and]); (try first | exact e | exact e.symm | (and_intros <;> first | assumption | rfl | exact Eq.symm (by assumption)))
            · have h1 : (ilt (6 : Int) x1) = false := by first | exact h | (have h2 := h; simp only [choice_lk, lock_eq] at h2; exact h2) | (simp only [choice_lk, lock_eq] at h; exact h)
              rw [if_neg (by rw [h1]; exact Bool.false_ne_true)] at hr
              (try cbv)
              have hqe : ∃ qq, G_tlv_right gn (D.toL (D.fld (getD r1 (toN i1)) 2)) (iadd .i64 x1 (1 : Int)) = some qq := by
                cases hq : G_tlv_right gn (D.toL (D.fld (getD r1 (toN i1)) 2)) (iadd .i64 x1 (1 : Int)) with
                | none => rw [hq] at hr; cases hr
                | some qq => exact ⟨qq, rfl⟩
              refine ⟨obl.2 (by simp only [choice_lk, lock_eq]; exact hqe), (by rintro (_) _ <;> cbv), ?_⟩
              clear hqe
              intro c15 hx21
              simp only [choice_lk, lock_eq] at hx21
              all_goals (rw [hx21] at hr; dsimp only at hr; constructor; (try cbv))
              refine sel_intro (fun h => ?_) (fun h => ?_)
              · have h1 : c15 = false := by first | exact (bnot_t.1 h) | (have h2 := (bnot_t.1 h); simp only [choice_lk, lock_eq] at h2; exact h2) | (simp only [choice_lk, lock_eq] at h; exact (bnot_t.1 h))
                rw [if_neg (by rw [h1]; exact Bool.false_ne_true)] at hr
                (try cbv)
                apply Hidden.out
                obtain rfl := Option.some.inj hr
                have e := ht1 _ rfl
                constructor
                refine ⟨_, hF, ?_⟩
                (try cbv); (try simp only [choice_lk, lock_eq, and_self, and_true, true_and]); (try first | exact e | exact e.symm | (and_intros <;> first | assumption | rfl | exact Eq.symm (by assumption)))
              · have h1 : c15 = true := by first | exact (bnot_f.1 h) | (have h2 := (bnot_f.1 h); simp only [choice_lk, lock_eq] at h2; exact h2) | (simp only [choice_lk, lock_eq] at h; exact (bnot_f.1 h))
                rw [if_pos h1] at hr
                (try cbv)
                apply Hidden.out
                obtain rfl := Option.some.inj hr
                constructor
                refine ⟨⟨_, rfl⟩, ?_⟩
                rintro u0 e
                replace e := Sum.inl.inj e
                refine le_auto hk ?_
                (try cbv); (try simp only [choice_lk, lock_eq, and_self, and_true, true_and]); (try first | exact e | exact e.symm | (and_intros <;> first | assumption | rfl | exact Eq.symm (by assumption)))
      · have h1 : (ilt i1 (ofN (xlen r1))) = false := by first | exact h | (have h2 := h; simp only [choice_lk, lock_eq] at h2; exact h2) | (simp only [choice_lk, lock_eq] at h; exact h)
        rw [if_neg (by rw [h1]; exact Bool.false_ne_true)] at hr
        (try cbv)
        apply Hidden.out
        obtain rfl := Option.some.inj hr
        have e := ht1 _ rfl
        constructor
        refine ⟨_, hF, ?_⟩
        (try cbv); (try simp only [choice_lk, lock_eq, and_self, and_true, true_and]); (try first | exact e | exact e.symm | (and_intros <;> first | assumption | rfl | exact Eq.symm (by assumption)))
end Go.Proofs.Ytknaheioedkaeaa
end
section
/-
  The walk of (tollbar/tlv.Item).inner (printed by a program of ours).
-/
set_option linter.unusedVariables false
set_option linter.unusedSimpArgs false
namespace Go.Proofs.Ytknaheioedkaeaa
open Go.RowKit

noncomputable def tab_tlv_Item_innerG (gn : Nat) : Nat → Option Con := look [(15, con_tlv_SizeG gn), (31, con_tlv_Item_odd)]
set_option maxHeartbeats 4000000 in
set_option maxRecDepth 100000 in
theorem vc_tlv_Item_innerG (P : Program) (gn : Nat) (T : Tab P (tab_tlv_Item_innerG gn)) (hm : P.follows .mixedOrders = true) : FnVC P (tab_tlv_Item_innerG gn) ic_22 [.t 2] 11 (con_tlv_Item_innerG gn) := by
  intro cargs ccks ce hce hob C hk
  apply Hidden.out
  replace hce : con_tlv_Item_innerG_1 gn cargs ccks = some ce := hce
  · unfold con_tlv_Item_innerG_1 at hce
    split at hce
    rotate_left
    · cases hce
    obtain rfl := Option.some.inj hce
    rename_i x1 s1 r1
    have hb1 := hob _ (List.mem_singleton.2 rfl)
    have hb2 := obl.1 hb1
    clear hb1 hob hce
    refine hb2.elim fun r hF => ?_
    clear hb2
    simp only [List.length_cons, List.length_nil, Nat.zero_add, Nat.reduceAdd] at hk
    have hr : B_tlv_Item_inner (G_tlv_Size gn) x1 s1 r1 = some r := by rw [lock_eq] at hF; exact hF
    unfold B_tlv_Item_inner at hr
    constructor
    (try cbv)
    have hqe : ∃ qq, F_tlv_Item_odd x1 s1 r1 = some qq := by
      cases hq : F_tlv_Item_odd x1 s1 r1 with
      | none => rw [hq] at hr; cases hr
      | some qq => exact ⟨qq, rfl⟩
    refine ⟨obl.2 (by simp only [choice_lk, lock_eq]; exact hqe), (by rintro (_) _ <;> cbv), ?_⟩
    clear hqe
    intro c1 hx1
    simp only [choice_lk, lock_eq] at hx1
    all_goals (rw [hx1] at hr; dsimp only at hr; constructor; (try cbv))
    refine sel_intro (fun h => ?_) (fun h => ?_)
    · have h1 : c1 = true := by first | exact h | (have h2 := h; simp only [choice_lk, lock_eq] at h2; exact h2) | (simp only [choice_lk, lock_eq] at h; exact h)
      rw [if_pos h1] at hr
      (try cbv)
      have hqe : ∃ qq, G_tlv_Size gn r1 = some qq := by
        cases hq : G_tlv_Size gn r1 with
        | none => rw [hq] at hr; cases hr
        | some qq => exact ⟨qq, rfl⟩
      refine ⟨obl.2 (by simp only [choice_lk, lock_eq]; exact hqe), (by rintro (_) _ <;> cbv), ?_⟩
      clear hqe
      intro y1 hx2
      simp only [choice_lk, lock_eq] at hx2
      all_goals (rw [hx2] at hr; dsimp only at hr; constructor; (try cbv))
      apply Hidden.out
      have e := Option.some.inj hr
      constructor
      refine ⟨_, hF, ?_⟩
      (try cbv); (try simp only [choice_lk, lock_eq, and_self, and_true, true_and]); (try first | exact e | exact e.symm | (and_intros <;> first | assumption | rfl | exact Eq.symm (by assumption)))
    · have h1 : c1 = false := by first | exact h | (have h2 := h; simp only [choice_lk, lock_eq] at h2; exact h2) | (simp only [choice_lk, lock_eq] at h; exact h)
      rw [if_neg (by rw [h1]; exact Bool.false_ne_true)] at hr
      (try cbv)
      apply Hidden.out
      have e := Option.some.inj hr
      constructor
      refine ⟨_, hF, ?_⟩
      (try cbv); (try simp only [choice_lk, lock_eq, and_self, and_true, true_and]); (try first | exact e | exact e.symm | (and_intros <;> first | assumption | rfl | exact Eq.symm (by assumption)))
end Go.Proofs.Ytknaheioedkaeaa
end
section
/-
  The walk of tollbar/varint.groups (printed by a program of ours).
-/
set_option linter.unusedVariables false
set_option linter.unusedSimpArgs false
namespace Go.Proofs.Ytknaheioedkaeaa
open Go.RowKit

noncomputable def tab_varint_groups : Nat → Option Con := look []
set_option maxHeartbeats 4000000 in
set_option maxRecDepth 100000 in
theorem vc_varint_groups (P : Program) (T : Tab P tab_varint_groups) (hm : P.follows .mixedOrders = true) : FnVC P tab_varint_groups ic_30 [.t 2] 4 con_varint_groups := by
  intro cargs ccks ce hce hob C hk
  apply Hidden.out
  replace hce : con_varint_groups_1 cargs ccks = some ce := hce
  · unfold con_varint_groups_1 at hce
    split at hce
    rotate_left
    · cases hce
    obtain rfl := Option.some.inj hce
    rename_i x1
    have hb1 := hob _ (List.mem_singleton.2 rfl)
    have hb2 := obl.1 hb1
    clear hb1 hob hce
    refine hb2.elim fun r hF => ?_
    clear hb2
    simp only [List.length_cons, List.length_nil, Nat.zero_add, Nat.reduceAdd] at hk
    have hr : F_varint_groups x1 = some r := by rw [lock_eq] at hF; exact hF
    unfold F_varint_groups at hr
    constructor
    (try cbv)
    apply Hidden.out
    have e := Option.some.inj hr
    constructor
    refine ⟨_, hF, ?_⟩
    (try cbv); (try simp only [choice_lk, lock_eq, and_self, and_true, true_and]); (try first | exact e | exact e.symm | (and_intros <;> first | assumption | rfl | exact Eq.symm (by assumption)))
end Go.Proofs.Ytknaheioedkaeaa
end
section
/-
  The walk of tollbar/varint.Len (printed by a program of ours).
-/
set_option linter.unusedVariables false
set_option linter.unusedSimpArgs false
namespace Go.Proofs.Ytknaheioedkaeaa
open Go.RowKit

noncomputable def tab_varint_Len : Nat → Option Con := look [(30, con_varint_groups)]
set_option maxHeartbeats 4000000 in
set_option maxRecDepth 100000 in
theorem vc_varint_Len (P : Program) (T : Tab P tab_varint_Len) (hm : P.follows .mixedOrders = true) (hI39 : ItOK P 39 ic_39 18) : FnVC P tab_varint_Len ic_25 [.t 2] 11 con_varint_Len := by
  intro cargs ccks ce hce hob C hk
  apply Hidden.out
  replace hce : con_varint_Len_1 cargs ccks = some ce := hce
  · unfold con_varint_Len_1 at hce
    split at hce
    rotate_left
    · cases hce
    obtain rfl := Option.some.inj hce
    rename_i x1
    have hb1 := hob _ (List.mem_singleton.2 rfl)
    have hb2 := obl.1 hb1
    clear hb1 hob hce
    refine hb2.elim fun r hF => ?_
    clear hb2
    simp only [List.length_cons, List.length_nil, Nat.zero_add, Nat.reduceAdd] at hk
    have hr : F_varint_Len x1 = some r := by rw [lock_eq] at hF; exact hF
    unfold F_varint_Len at hr
    constructor
    (try cbv)
    have hqe : ∃ qq, F_varint_groups x1 = some qq := by
      cases hq : F_varint_groups x1 with
      | none => rw [hq] at hr; cases hr
      | some qq => exact ⟨qq, rfl⟩
    refine ⟨obl.2 (by simp only [choice_lk, lock_eq]; exact hqe), (by rintro (_) _ <;> cbv), ?_⟩
    clear hqe
    intro qq hx1
    simp only [choice_lk, lock_eq] at hx1
    rcases qq with _
    all_goals (rw [hx1] at hr; dsimp only at hr; constructor; (try cbv))
    refine LoopOK.rfn T hI39 (s0 := ⟨mkFr [(3, (.ptr 0 0)), (5, (.fn 39 [(.ptr 1 0)]))] 11 0, [(0, .blk 3 [(.v (.int .i64 (0 : Int)))]), (1, .blk 44 [(.v (.int .u64 x1))])], 2⟩) (caps := [(.ptr 1 0)]) ?_ rfl ?_
    · refine le_auto hk ?_
      (try cbv); (try simp only [choice_lk, lock_eq, and_self, and_true, true_and]); (try first | exact e | exact e.symm | (and_intros <;> first | assumption | rfl | exact Eq.symm (by assumption)))
    · intro C1 yl hk1
      replace hk1 : C1.k = 2 := hk1
      constructor
      (try cbv)
      refine LoopI.iter (B := F_varint_Len_L1) hr (fun | (i1, i2) => ⟨mkFr [(0, (.v (.func (.yield yl) #[] #[]))), (1, (.ptr 1 0))] 18 0, [(0, .blk 3 [(.v (.int .i64 i1))]), (1, .blk 44 [(.v (.int .u64 i2))])], 2⟩) ?_ ?_
      · rintro ⟨u0, u1⟩ e
        simp only [Prod.mk.injEq] at e
        obtain ⟨e0, e1⟩ := e
        refine le_auto hk1 ?_
        (try cbv); (try simp only [choice_lk, lock_eq, and_self, and_true, true_and]); (try first | exact e | exact e.symm | (and_intros <;> first | assumption | rfl | exact Eq.symm (by assumption)))
      · clear hr
        intro x bb1 hr ht1
        obtain ⟨i1, i2⟩ := x
        as_aux_lemma =>
        constructor
        unfold F_varint_Len_L1 at hr
        (try dsimp only at hr)
        (try cbv)
        have gg := guard_inv hr
        have g := gg.1
        replace hr := gg.2
        clear gg
        refine ⟨obl.2 (by first | (simp only [choice_lk, lock_eq, R.len, R.sub]; exact g) | exact g), ?_⟩
        have gg := guard_inv hr
        have g := gg.1
        replace hr := gg.2
        clear gg
        refine ⟨obl.2 (by first | (simp only [choice_lk, lock_eq, R.len, R.sub]; exact g) | exact g), ?_⟩
        refine sel_intro (fun h => ?_) (fun h => ?_)
        · have h1 : (ilt (0 : Int) (ishr .u64 i2 (7 : Int))) = true := by first | exact h | (have h2 := h; simp only [choice_lk, lock_eq] at h2; exact h2) | (simp only [choice_lk, lock_eq] at h; exact h)
          rw [if_pos h1] at hr
          (try cbv)
          have gg := guard_inv hr
          have g := gg.1
          replace hr := gg.2
          clear gg
          refine ⟨obl.2 (by first | (simp only [choice_lk, lock_eq, R.len, R.sub]; exact g) | exact g), ?_⟩
          apply Hidden.out
          obtain rfl := Option.some.inj hr
          constructor
          refine ⟨⟨_, rfl⟩, ?_⟩
          rintro ⟨u0, u1⟩ e
          replace e := Sum.inl.inj e
          simp only [Prod.mk.injEq] at e
          obtain ⟨e0, e1⟩ := e
          refine le_auto hk1 ?_
          (try cbv); (try simp only [choice_lk, lock_eq, and_self, and_true, true_and]); (try first | exact e | exact e.symm | (and_intros <;> first | assumption | rfl | exact Eq.symm (by assumption)))
        · have h1 : (ilt (0 : Int) (ishr .u64 i2 (7 : Int))) = false := by first | exact h | (have h2 := h; simp only [choice_lk, lock_eq] at h2; exact h2) | (simp only [choice_lk, lock_eq] at h; exact h)
          rw [if_neg (by rw [h1]; exact Bool.false_ne_true)] at hr
          (try cbv)
          apply Hidden.out
          obtain rfl := Option.some.inj hr
          have e := ht1 _ rfl
          constructor
          refine ⟨_, hF, ?_⟩
          (try cbv); (try simp only [choice_lk, lock_eq, and_self, and_true, true_and]); (try first | exact e | exact e.symm | (and_intros <;> first | assumption | rfl | exact Eq.symm (by assumption)))
end Go.Proofs.Ytknaheioedkaeaa
end
section
/-
  The walk of tollbar/tlv.Size (printed by a program of ours).
-/
set_option linter.unusedVariables false
set_option linter.unusedSimpArgs false
namespace Go.Proofs.Ytknaheioedkaeaa
open Go.RowKit

noncomputable def tab_tlv_SizeG (gn : Nat) : Nat → Option Con := look [(15, con_tlv_SizeG gn), (22, con_tlv_Item_innerG gn), (25, con_varint_Len)]
set_option maxHeartbeats 4000000 in
set_option maxRecDepth 100000 in
theorem vc_tlv_SizeG (P : Program) (gn : Nat) (T : Tab P (tab_tlv_SizeG gn)) (hm : P.follows .mixedOrders = true) : FnVC P (tab_tlv_SizeG gn) ic_15 [.t 2] 28 (con_tlv_SizeG (gn + 1)) := by
  intro cargs ccks ce hce hob C hk
  apply Hidden.out
  replace hce : con_tlv_SizeG_1 (gn + 1) cargs ccks = some ce := hce
  · unfold con_tlv_SizeG_1 at hce
    split at hce
    rotate_left
    · cases hce
    obtain rfl := Option.some.inj hce
    rename_i r1
    have hb1 := hob _ (List.mem_singleton.2 rfl)
    have hb2 := obl.1 hb1
    clear hb1 hob hce
    refine hb2.elim fun r hF => ?_
    clear hb2
    simp only [List.length_cons, List.length_nil, Nat.zero_add, Nat.reduceAdd] at hk
    have hr : B_tlv_Size (G_tlv_Size gn) (G_tlv_Item_inner gn) r1 = some r := by rw [lock_eq] at hF; exact hF
    unfold B_tlv_Size at hr
    constructor
    (try cbv)
    refine LoopOK.iter T (drawOK T hm) (B := (F_tlv_Size_L1 (G_tlv_Item_inner gn) r1)) hr (fun | (i1, i2) => ⟨mkFr [(3, (.v (.int .i64 i1))), (7, (.rsl (.row 46 (.st [(.int .u64), (.bytes 5), (.self 46)]) r1))), (8, (.v (.int .i64 (lock ofN (lock (@xlen D) r1))))), (9, (.v (.int .i64 i2)))] 28 0, [], 0⟩) ?_ ?_
    · rintro ⟨u0, u1⟩ e
      simp only [Prod.mk.injEq] at e
      obtain ⟨e0, e1⟩ := e
      refine le_auto hk ?_
      (try cbv); (try simp only [choice_lk, lock_eq, and_self, and_true, true_and]); (try first | exact e | exact e.symm | (and_intros <;> first | assumption | rfl | exact Eq.symm (by assumption)))
    · clear hr
      intro x bb1 hr ht1
      obtain ⟨i1, i2⟩ := x
      as_aux_lemma =>
      constructor
      unfold F_tlv_Size_L1 at hr
      (try dsimp only at hr)
      (try cbv)
      refine sel_intro (fun h => ?_) (fun h => ?_)
      · have h1 : (ilt i2 (ofN (xlen r1))) = true := by first | exact h | (have h2 := h; simp only [choice_lk, lock_eq] at h2; exact h2) | (simp only [choice_lk, lock_eq] at h; exact h)
        rw [if_pos h1] at hr
        (try cbv)
        have gg := guard_inv hr
        have g := gg.1
        replace hr := gg.2
        clear gg
        refine ⟨obl.2 (by first | (simp only [choice_lk, lock_eq, R.len, R.sub]; exact g) | exact g), ?_⟩
        have hqe : ∃ qq, G_tlv_Item_inner gn (D.toI (D.fld (getD r1 (toN i2)) 0)) (D.toS (D.fld (getD r1 (toN i2)) 1)) (D.toL (D.fld (getD r1 (toN i2)) 2)) = some qq := by
          cases hq : G_tlv_Item_inner gn (D.toI (D.fld (getD r1 (toN i2)) 0)) (D.toS (D.fld (getD r1 (toN i2)) 1)) (D.toL (D.fld (getD r1 (toN i2)) 2)) with
          | none => rw [hq] at hr; cases hr
          | some qq => exact ⟨qq, rfl⟩
        refine ⟨obl.2 (by simp only [choice_lk, lock_eq]; exact hqe), (by rintro (_) _ <;> cbv), ?_⟩
        clear hqe
        intro y7 hx7
        simp only [choice_lk, lock_eq] at hx7
        all_goals (rw [hx7] at hr; dsimp only at hr; constructor; (try cbv))
        have hqe : ∃ qq, F_varint_Len (D.toI (D.fld (getD r1 (toN i2)) 0)) = some qq := by
          cases hq : F_varint_Len (D.toI (D.fld (getD r1 (toN i2)) 0)) with
          | none => rw [hq] at hr; cases hr
          | some qq => exact ⟨qq, rfl⟩
        refine ⟨obl.2 (by simp only [choice_lk, lock_eq]; exact hqe), (by rintro (_) _ <;> cbv), ?_⟩
        clear hqe
        intro y8 hx8
        simp only [choice_lk, lock_eq] at hx8
        all_goals (rw [hx8] at hr; dsimp only at hr; constructor; (try cbv))
        have hqe : ∃ qq, F_varint_Len (iconv .u64 y7) = some qq := by
          cases hq : F_varint_Len (iconv .u64 y7) with
          | none => rw [hq] at hr; cases hr
          | some qq => exact ⟨qq, rfl⟩
        refine ⟨obl.2 (by simp only [choice_lk, lock_eq]; exact hqe), (by rintro (_) _ <;> cbv), ?_⟩
        clear hqe
        intro y9 hx9
        simp only [choice_lk, lock_eq] at hx9
        all_goals (rw [hx9] at hr; dsimp only at hr; constructor; (try cbv))
        apply Hidden.out
        obtain rfl := Option.some.inj hr
        constructor
        refine ⟨⟨_, rfl⟩, ?_⟩
        rintro ⟨u0, u1⟩ e
        replace e := Sum.inl.inj e
        simp only [Prod.mk.injEq] at e
        obtain ⟨e0, e1⟩ := e
        refine le_auto hk ?_
        (try cbv); (try simp only [choice_lk, lock_eq, and_self, and_true, true_and]); (try first | exact e | exact e.symm | (and_intros <;> first | assumption | rfl | exact Eq.symm (by assumption)))
      · have h1 : (ilt i2 (ofN (xlen r1))) = false := by first | exact h | (have h2 := h; simp only [choice_lk, lock_eq] at h2; exact h2) | (simp only [choice_lk, lock_eq] at h; exact h)
        rw [if_neg (by rw [h1]; exact Bool.false_ne_true)] at hr
        (try cbv)
        apply Hidden.out
        obtain rfl := Option.some.inj hr
        have e := ht1 _ rfl
        constructor
        refine ⟨_, hF, ?_⟩
        (try cbv); (try simp only [choice_lk, lock_eq, and_self, and_true, true_and]); (try first | exact e | exact e.symm | (and_intros <;> first | assumption | rfl | exact Eq.symm (by assumption)))
end Go.Proofs.Ytknaheioedkaeaa
end
section
/-
  The walk of tollbar/tlv.Check (printed by a program of ours).
-/
set_option linter.unusedVariables false
set_option linter.unusedSimpArgs false
namespace Go.Proofs.Ytknaheioedkaeaa
open Go.RowKit

noncomputable def tab_tlv_Check : Nat → Option Con := look [(23, con_tlv_right), (15, con_tlv_Size)]
set_option maxHeartbeats 4000000 in
set_option maxRecDepth 100000 in
theorem vc_tlv_Check (P : Program) (T : Tab P tab_tlv_Check) (hm : P.follows .mixedOrders = true) : FnVC P tab_tlv_Check ic_13 [.t 2] 10 con_tlv_Check := by
  intro cargs ccks ce hce hob C hk
  apply Hidden.out
  replace hce : con_tlv_Check_1 cargs ccks = some ce := hce
  · unfold con_tlv_Check_1 at hce
    split at hce
    rotate_left
    · cases hce
    obtain rfl := Option.some.inj hce
    rename_i r1
    have hb1 := hob _ (List.mem_singleton.2 rfl)
    have hb2 := obl.1 hb1
    clear hb1 hob hce
    refine hb2.elim fun r hF => ?_
    clear hb2
    simp only [List.length_cons, List.length_nil, Nat.zero_add, Nat.reduceAdd] at hk
    have hr : F_tlv_Check r1 = some r := by rw [lock_eq] at hF; exact hF
    unfold F_tlv_Check at hr
    constructor
    (try cbv)
    have hqe : ∃ qq, F_tlv_right r1 (1 : Int) = some qq := by
      cases hq : F_tlv_right r1 (1 : Int) with
      | none => rw [hq] at hr; cases hr
      | some qq => exact ⟨qq, rfl⟩
    refine ⟨obl.2 (by simp only [choice_lk, lock_eq]; exact hqe), (by rintro (_) _ <;> cbv), ?_⟩
    clear hqe
    intro c1 hx1
    simp only [choice_lk, lock_eq] at hx1
    all_goals (rw [hx1] at hr; dsimp only at hr; constructor; (try cbv))
    refine sel_intro (fun h => ?_) (fun h => ?_)
    · have h1 : c1 = true := by first | exact h | (have h2 := h; simp only [choice_lk, lock_eq] at h2; exact h2) | (simp only [choice_lk, lock_eq] at h; exact h)
      rw [if_pos h1] at hr
      (try cbv)
      have hqe : ∃ qq, F_tlv_Size r1 = some qq := by
        cases hq : F_tlv_Size r1 with
        | none => rw [hq] at hr; cases hr
        | some qq => exact ⟨qq, rfl⟩
      refine ⟨obl.2 (by simp only [choice_lk, lock_eq]; exact hqe), (by rintro (_) _ <;> cbv), ?_⟩
      clear hqe
      intro y1 hx2
      simp only [choice_lk, lock_eq] at hx2
      all_goals (rw [hx2] at hr; dsimp only at hr; constructor; (try cbv))
      apply Hidden.out
      have e := Option.some.inj hr
      constructor
      refine ⟨_, hF, ?_⟩
      (try cbv); (try simp only [choice_lk, lock_eq, and_self, and_true, true_and]); (try first | exact e | exact e.symm | (and_intros <;> first | assumption | rfl | exact Eq.symm (by assumption)))
    · have h1 : c1 = false := by first | exact h | (have h2 := h; simp only [choice_lk, lock_eq] at h2; exact h2) | (simp only [choice_lk, lock_eq] at h; exact h)
      rw [if_neg (by rw [h1]; exact Bool.false_ne_true)] at hr
      (try cbv)
      apply Hidden.out
      have e := Option.some.inj hr
      constructor
      refine ⟨_, hF, ?_⟩
      (try cbv); (try simp only [choice_lk, lock_eq, and_self, and_true, true_and]); (try first | exact e | exact e.symm | (and_intros <;> first | assumption | rfl | exact Eq.symm (by assumption)))
end Go.Proofs.Ytknaheioedkaeaa
end
section
/-
  The walk of tollbar/varint.Put (printed by a program of ours).
-/
set_option linter.unusedVariables false
set_option linter.unusedSimpArgs false
namespace Go.Proofs.Ytknaheioedkaeaa
open Go.RowKit

noncomputable def tab_varint_Put : Nat → Option Con := look [(30, con_varint_groups)]
set_option maxHeartbeats 4000000 in
set_option maxRecDepth 100000 in
theorem vc_varint_Put (P : Program) (T : Tab P tab_varint_Put) (hm : P.follows .mixedOrders = true) (hI39 : ItOK P 39 ic_39 18) : FnVC P tab_varint_Put ic_21 [.t 2] 18 con_varint_Put := by
  intro cargs ccks ce hce hob C hk
  apply Hidden.out
  replace hce : con_varint_Put_1 cargs ccks = some ce := hce
  · unfold con_varint_Put_1 at hce
    split at hce
    rotate_left
    · cases hce
    obtain rfl := Option.some.inj hce
    rename_i x1
    have hb1 := hob _ (List.mem_singleton.2 rfl)
    have hb2 := obl.1 hb1
    clear hb1 hob hce
    refine hb2.elim fun r hF => ?_
    clear hb2
    simp only [List.length_cons, List.length_nil, Nat.zero_add, Nat.reduceAdd] at hk
    have hr : F_varint_Put x1 = some r := by rw [lock_eq] at hF; exact hF
    unfold F_varint_Put at hr
    constructor
    (try cbv)
    have hqe : ∃ qq, F_varint_groups x1 = some qq := by
      cases hq : F_varint_groups x1 with
      | none => rw [hq] at hr; cases hr
      | some qq => exact ⟨qq, rfl⟩
    refine ⟨obl.2 (by simp only [choice_lk, lock_eq]; exact hqe), (by rintro (_) _ <;> cbv), ?_⟩
    clear hqe
    intro qq hx1
    simp only [choice_lk, lock_eq] at hx1
    rcases qq with _
    all_goals (rw [hx1] at hr; dsimp only at hr; constructor; (try cbv))
    refine LoopOK.rfn T hI39 (s0 := ⟨mkFr [(3, (.ptr 0 0)), (7, (.fn 39 [(.ptr 1 0)]))] 18 0, [(0, .blk 27 [.nsl]), (1, .blk 44 [(.v (.int .u64 x1))])], 2⟩) (caps := [(.ptr 1 0)]) ?_ rfl ?_
    · refine le_auto hk ?_
      (try cbv); (try simp only [choice_lk, lock_eq, and_self, and_true, true_and]); (try first | exact e | exact e.symm | (and_intros <;> first | assumption | rfl | exact Eq.symm (by assumption)))
    · intro C1 yl hk1
      replace hk1 : C1.k = 2 := hk1
      constructor
      (try cbv)
      refine LoopI.iter (B := F_varint_Put_L1) hr (fun | (i1, s1) => ⟨mkFr [(0, (.v (.func (.yield yl) #[] #[]))), (1, (.ptr 1 0))] 18 0, [(0, .blk 27 [(.wsl 2)]), (1, .blk 44 [(.v (.int .u64 i1))]), (2, .row (.bs 5 s1))], 3⟩) ?_ ?_
      · rintro ⟨u0, u1⟩ e
        simp only [Prod.mk.injEq] at e
        obtain ⟨e0, e1⟩ := e
        refine le_auto hk1 ?_
        (try cbv); (try simp only [choice_lk, lock_eq, and_self, and_true, true_and]); (try first | exact e | exact e.symm | (and_intros <;> first | assumption | rfl | exact Eq.symm (by assumption)))
      · clear hr
        intro x bb1 hr ht1
        obtain ⟨i1, s1⟩ := x
        as_aux_lemma =>
        constructor
        unfold F_varint_Put_L1 at hr
        (try dsimp only at hr)
        (try cbv)
        have gg := guard_inv hr
        have g := gg.1
        replace hr := gg.2
        clear gg
        refine ⟨obl.2 (by first | (simp only [choice_lk, lock_eq, R.len, R.sub]; exact g) | exact g), ?_⟩
        refine sel_intro (fun h => ?_) (fun h => ?_)
        · have h1 : (ilt (0 : Int) (ishr .u64 i1 (7 : Int))) = true := by first | exact h | (have h2 := h; simp only [choice_lk, lock_eq] at h2; exact h2) | (simp only [choice_lk, lock_eq] at h; exact h)
          rw [if_pos h1] at hr
          (try cbv)
          have gg := guard_inv hr
          have g := gg.1
          replace hr := gg.2
          clear gg
          refine ⟨obl.2 (by first | (simp only [choice_lk, lock_eq, R.len, R.sub]; exact g) | exact g), ?_⟩
          have gg := guard_inv hr
          have g := gg.1
          replace hr := gg.2
          clear gg
          refine ⟨obl.2 (by first | (simp only [choice_lk, lock_eq, R.len, R.sub]; exact g) | exact g), ?_⟩
          have gg := guard_inv hr
          have g := gg.1
          replace hr := gg.2
          clear gg
          refine ⟨obl.2 (by first | (simp only [choice_lk, lock_eq, R.len, R.sub]; exact g) | exact g), ?_⟩
          refine sel_intro (fun h => ?_) (fun h => ?_)
          · have h1 : (ilt (0 : Int) (ishr .u64 i1 (7 : Int))) = true := by first | exact h | (have h2 := h; simp only [choice_lk, lock_eq] at h2; exact h2) | (simp only [choice_lk, lock_eq] at h; exact h)
            rw [if_pos h1] at hr
            (try cbv)
            have gg := guard_inv hr
            have g := gg.1
            replace hr := gg.2
            clear gg
            refine ⟨obl.2 (by first | (simp only [choice_lk, lock_eq, R.len, R.sub]; exact g) | exact g), ?_⟩
            apply Hidden.out
            obtain rfl := Option.some.inj hr
            constructor
            refine ⟨⟨_, rfl⟩, ?_⟩
            rintro ⟨u0, u1⟩ e
            replace e := Sum.inl.inj e
            simp only [Prod.mk.injEq] at e
            obtain ⟨e0, e1⟩ := e
            refine le_auto hk1 ?_
            (try cbv); (try simp only [choice_lk, lock_eq, and_self, and_true, true_and]); (try first | exact e | exact e.symm | (and_intros <;> first | assumption | rfl | exact Eq.symm (by assumption)))
          · have h1 : (ilt (0 : Int) (ishr .u64 i1 (7 : Int))) = false := by first | exact h | (have h2 := h; simp only [choice_lk, lock_eq] at h2; exact h2) | (simp only [choice_lk, lock_eq] at h; exact h)
            rw [if_neg (by rw [h1]; exact Bool.false_ne_true)] at hr
            (try cbv)
            apply Hidden.out
            obtain rfl := Option.some.inj hr
            have e := ht1 _ rfl
            constructor
            refine ⟨_, hF, ?_⟩
            (try cbv); (try simp only [choice_lk, lock_eq, and_self, and_true, true_and]); (try first | exact e | exact e.symm | (and_intros <;> first | assumption | rfl | exact Eq.symm (by assumption)))
        · have h1 : (ilt (0 : Int) (ishr .u64 i1 (7 : Int))) = false := by first | exact h | (have h2 := h; simp only [choice_lk, lock_eq] at h2; exact h2) | (simp only [choice_lk, lock_eq] at h; exact h)
          rw [if_neg (by rw [h1]; exact Bool.false_ne_true)] at hr
          (try cbv)
          have gg := guard_inv hr
          have g := gg.1
          replace hr := gg.2
          clear gg
          refine ⟨obl.2 (by first | (simp only [choice_lk, lock_eq, R.len, R.sub]; exact g) | exact g), ?_⟩
          have gg := guard_inv hr
          have g := gg.1
          replace hr := gg.2
          clear gg
          refine ⟨obl.2 (by first | (simp only [choice_lk, lock_eq, R.len, R.sub]; exact g) | exact g), ?_⟩
          have gg := guard_inv hr
          have g := gg.1
          replace hr := gg.2
          clear gg
          refine ⟨obl.2 (by first | (simp only [choice_lk, lock_eq, R.len, R.sub]; exact g) | exact g), ?_⟩
          refine sel_intro (fun h => ?_) (fun h => ?_)
          · have h1 : (ilt (0 : Int) (ishr .u64 i1 (7 : Int))) = true := by first | exact h | (have h2 := h; simp only [choice_lk, lock_eq] at h2; exact h2) | (simp only [choice_lk, lock_eq] at h; exact h)
            rw [if_pos h1] at hr
            (try cbv)
            have gg := guard_inv hr
            have g := gg.1
            replace hr := gg.2
            clear gg
            refine ⟨obl.2 (by first | (simp only [choice_lk, lock_eq, R.len, R.sub]; exact g) | exact g), ?_⟩
            apply Hidden.out
            obtain rfl := Option.some.inj hr
            constructor
            refine ⟨⟨_, rfl⟩, ?_⟩
            rintro ⟨u0, u1⟩ e
            replace e := Sum.inl.inj e
            simp only [Prod.mk.injEq] at e
            obtain ⟨e0, e1⟩ := e
            refine le_auto hk1 ?_
            (try cbv); (try simp only [choice_lk, lock_eq, and_self, and_true, true_and]); (try first | exact e | exact e.symm | (and_intros <;> first | assumption | rfl | exact Eq.symm (by assumption)))
          · have h1 : (ilt (0 : Int) (ishr .u64 i1 (7 : Int))) = false := by first | exact h | (have h2 := h; simp only [choice_lk, lock_eq] at h2; exact h2) | (simp only [choice_lk, lock_eq] at h; exact h)
            rw [if_neg (by rw [h1]; exact Bool.false_ne_true)] at hr
            (try cbv)
            apply Hidden.out
            obtain rfl := Option.some.inj hr
            have e := ht1 _ rfl
            constructor
            refine ⟨_, hF, ?_⟩
            (try cbv); (try simp only [choice_lk, lock_eq, and_self, and_true, true_and]); (try first | exact e | exact e.symm | (and_intros <;> first | assumption | rfl | exact Eq.symm (by assumption)))
end Go.Proofs.Ytknaheioedkaeaa
end
section
/-
  The walk of tollbar/tlv.Put$1 (printed by a program of ours).
-/
set_option linter.unusedVariables false
set_option linter.unusedSimpArgs false
namespace Go.Proofs.Ytknaheioedkaeaa
open Go.RowKit

noncomputable def tab_tlv_PutinG (gn : Nat) : Nat → Option Con := look [(20, con_tlv_PutinG gn), (21, con_varint_Put), (22, con_tlv_Item_inner)]
set_option maxHeartbeats 4000000 in
set_option maxRecDepth 100000 in
theorem vc_tlv_PutinG (P : Program) (gn : Nat) (T : Tab P (tab_tlv_PutinG gn)) (hm : P.follows .mixedOrders = true) : FnVC P (tab_tlv_PutinG gn) ic_20 [] 32 (con_tlv_PutinG (gn + 1)) := by
  intro cargs ccks ce hce hob C hk
  apply Hidden.out
  replace hce : con_tlv_PutinG_2 (gn + 1) cargs ccks = some ce := hce
  · unfold con_tlv_PutinG_2 at hce
    split at hce
    rotate_left
    · cases hce
    obtain rfl := Option.some.inj hce
    rename_i r1 s1
    have hb1 := hob _ (List.mem_singleton.2 rfl)
    have hb2 := obl.1 hb1
    clear hb1 hob hce
    refine hb2.elim fun r hF => ?_
    clear hb2
    simp only [List.length_cons, List.length_nil, Nat.zero_add, Nat.reduceAdd] at hk
    have hr : B_tlv_Putin (G_tlv_Putin gn) r1 s1 = some r := by rw [lock_eq] at hF; exact hF
    unfold B_tlv_Putin at hr
    constructor
    (try cbv)
    refine LoopOK.iter T (drawOK T hm) (B := (F_tlv_Putin_L1 (G_tlv_Putin gn) r1)) hr (fun | (i1, s2) => ⟨mkFr [(1, (.ptr 0 0)), (2, (.ptr 1 0)), (6, (.rsl (.row 46 (.st [(.int .u64), (.bytes 5), (.self 46)]) r1))), (7, (.v (.int .i64 (lock ofN (lock (@xlen D) r1))))), (8, (.v (.int .i64 i1)))] 32 0, [(0, .blk 27 [(.wsl 3)]), (1, .blk 50 [(.fn 20 [(.ptr 0 0), (.ptr 1 0)])]), (3, .row (.bs 5 s2))], 4⟩) ?_ ?_
    · rintro ⟨u0, u1⟩ e
      simp only [Prod.mk.injEq] at e
      obtain ⟨e0, e1⟩ := e
      refine le_auto hk ?_
      (try cbv); (try simp only [choice_lk, lock_eq, and_self, and_true, true_and]); (try first | exact e | exact e.symm | (and_intros <;> first | assumption | rfl | exact Eq.symm (by assumption)))
    · clear hr
      intro x bb1 hr ht1
      obtain ⟨i1, s2⟩ := x
      as_aux_lemma =>
      constructor
      unfold F_tlv_Putin_L1 at hr
      (try dsimp only at hr)
      (try cbv)
      refine sel_intro (fun h => ?_) (fun h => ?_)
      · as_aux_lemma =>
        have h1 : (ilt i1 (ofN (xlen r1))) = true := by first | exact h | (have h2 := h; simp only [choice_lk, lock_eq] at h2; exact h2) | (simp only [choice_lk, lock_eq] at h; exact h)
        rw [if_pos h1] at hr
        (try cbv)
        have gg := guard_inv hr
        have g := gg.1
        replace hr := gg.2
        clear gg
        refine ⟨obl.2 (by first | (simp only [choice_lk, lock_eq, R.len, R.sub]; exact g) | exact g), ?_⟩
        have hqe : ∃ qq, F_varint_Put (D.toI (D.fld (getD r1 (toN i1)) 0)) = some qq := by
          cases hq : F_varint_Put (D.toI (D.fld (getD r1 (toN i1)) 0)) with
          | none => rw [hq] at hr; cases hr
          | some qq => exact ⟨qq, rfl⟩
        refine ⟨(by simp only [choice_lk, lock_eq]; exact hqe), obl.2 (by simp only [choice_lk, lock_eq]; exact hqe), (by rintro (_) _ <;> cbv), ?_⟩
        clear hqe
        intro t10 hx13
        simp only [choice_lk, lock_eq] at hx13
        all_goals (rw [hx13] at hr; dsimp only at hr; constructor; (try cbv))
        have gg := guard_inv hr
        have g := gg.1
        replace hr := gg.2
        clear gg
        refine ⟨obl.2 (by first | (simp only [choice_lk, lock_eq, R.len, R.sub]; exact g) | exact g), ?_⟩
        have hqe : ∃ qq, F_tlv_Item_inner (D.toI (D.fld (getD r1 (toN i1)) 0)) (D.toS (D.fld (getD r1 (toN i1)) 1)) (D.toL (D.fld (getD r1 (toN i1)) 2)) = some qq := by
          cases hq : F_tlv_Item_inner (D.toI (D.fld (getD r1 (toN i1)) 0)) (D.toS (D.fld (getD r1 (toN i1)) 1)) (D.toL (D.fld (getD r1 (toN i1)) 2)) with
          | none => rw [hq] at hr; cases hr
          | some qq => exact ⟨qq, rfl⟩
        refine ⟨(by simp only [choice_lk, lock_eq]; exact hqe), obl.2 (by simp only [choice_lk, lock_eq]; exact hqe), (by rintro (_) _ <;> cbv), ?_⟩
        clear hqe
        intro y4 hx14
        simp only [choice_lk, lock_eq] at hx14
        all_goals (rw [hx14] at hr; dsimp only at hr; constructor; (try cbv))
        have hqe : ∃ qq, F_varint_Put (iconv .u64 y4) = some qq := by
          cases hq : F_varint_Put (iconv .u64 y4) with
          | none => rw [hq] at hr; cases hr
          | some qq => exact ⟨qq, rfl⟩
        refine ⟨(by simp only [choice_lk, lock_eq]; exact hqe), obl.2 (by simp only [choice_lk, lock_eq]; exact hqe), (by rintro (_) _ <;> cbv), ?_⟩
        clear hqe
        intro t11 hx15
        simp only [choice_lk, lock_eq] at hx15
        all_goals (rw [hx15] at hr; dsimp only at hr; constructor; (try cbv))
        have gg := guard_inv hr
        have g := gg.1
        replace hr := gg.2
        clear gg
        refine ⟨obl.2 (by first | (simp only [choice_lk, lock_eq, R.len, R.sub]; exact g) | exact g), ?_⟩
        have gg := guard_inv hr
        have g := gg.1
        replace hr := gg.2
        clear gg
        refine ⟨obl.2 (by first | (simp only [choice_lk, lock_eq, R.len, R.sub]; exact g) | exact g), ?_⟩
        have hqe : ∃ qq, G_tlv_Putin gn (D.toL (D.fld (getD r1 (toN i1)) 2)) (cat (cat (cat s2 t10) t11) (D.toS (D.fld (getD r1 (toN i1)) 1))) = some qq := by
          cases hq : G_tlv_Putin gn (D.toL (D.fld (getD r1 (toN i1)) 2)) (cat (cat (cat s2 t10) t11) (D.toS (D.fld (getD r1 (toN i1)) 1))) with
          | none => rw [hq] at hr; cases hr
          | some qq => exact ⟨qq, rfl⟩
        refine ⟨obl.2 (by simp only [choice_lk, lock_eq]; exact hqe), (by rintro (_) _ <;> cbv), ?_⟩
        clear hqe
        intro t12 hx16
        simp only [choice_lk, lock_eq] at hx16
        all_goals (rw [hx16] at hr; dsimp only at hr; constructor; (try cbv))
        apply Hidden.out
        obtain rfl := Option.some.inj hr
        constructor
        refine ⟨⟨_, rfl⟩, ?_⟩
        rintro ⟨u0, u1⟩ e
        replace e := Sum.inl.inj e
        simp only [Prod.mk.injEq] at e
        obtain ⟨e0, e1⟩ := e
        refine le_auto hk ?_
        (try cbv); (try simp only [choice_lk, lock_eq, and_self, and_true, true_and]); (try first | exact e | exact e.symm | (and_intros <;> first | assumption | rfl | exact Eq.symm (by assumption)))
      · have h1 : (ilt i1 (ofN (xlen r1))) = false := by first | exact h | (have h2 := h; simp only [choice_lk, lock_eq] at h2; exact h2) | (simp only [choice_lk, lock_eq] at h; exact h)
        rw [if_neg (by rw [h1]; exact Bool.false_ne_true)] at hr
        (try cbv)
        apply Hidden.out
        obtain rfl := Option.some.inj hr
        have e := ht1 _ rfl
        constructor
        refine ⟨_, hF, ?_⟩
        (try cbv); (try simp only [choice_lk, lock_eq, and_self, and_true, true_and]); (try first | exact e | exact e.symm | (and_intros <;> first | assumption | rfl | exact Eq.symm (by assumption)))
noncomputable def tab_tlv_PutinN : Nat → Option Con := look [(21, con_varint_Put), (22, con_tlv_Item_inner), (20, con_tlv_PutinR)]
set_option maxHeartbeats 4000000 in
set_option maxRecDepth 100000 in
theorem vc_tlv_PutinN (P : Program) (T : Tab P tab_tlv_PutinN) (hm : P.follows .mixedOrders = true) : FnVC P tab_tlv_PutinN ic_20 [] 32 con_tlv_PutinN := by
  intro cargs ccks ce hce hob C hk
  apply Hidden.out
  replace hce : con_tlv_Putin_1 cargs ccks = some ce := hce
  · unfold con_tlv_Putin_1 at hce
    split at hce
    rotate_left
    · cases hce
    obtain rfl := Option.some.inj hce
    rename_i r1
    have hb1 := hob _ (List.mem_singleton.2 rfl)
    have hb2 := obl.1 hb1
    clear hb1 hob hce
    refine hb2.elim fun r hF => ?_
    clear hb2
    simp only [List.length_cons, List.length_nil, Nat.zero_add, Nat.reduceAdd] at hk
    have hr : F_tlv_Putin_2 r1 = some r := by rw [lock_eq] at hF; exact hF
    unfold F_tlv_Putin_2 at hr
    constructor
    (try cbv)
    refine LoopOK.iter T (drawOK T hm) (B := (F_tlv_Putin_2_L1 r1)) hr (fun | (i1, s1) => ⟨mkFr [(1, (.ptr 0 0)), (2, (.ptr 1 0)), (6, (.rsl (.row 46 (.st [(.int .u64), (.bytes 5), (.self 46)]) r1))), (7, (.v (.int .i64 (lock ofN (lock (@xlen D) r1))))), (8, (.v (.int .i64 i1)))] 32 0, [(0, .blk 27 [(.wsl 2)]), (1, .blk 50 [(.fn 20 [(.ptr 0 0), (.ptr 1 0)])]), (2, .row (.bs 5 s1))], 3⟩) ?_ ?_
    · rintro ⟨u0, u1⟩ e
      simp only [Prod.mk.injEq] at e
      obtain ⟨e0, e1⟩ := e
      refine le_auto hk ?_
      (try cbv); (try simp only [choice_lk, lock_eq, and_self, and_true, true_and]); (try first | exact e | exact e.symm | (and_intros <;> first | assumption | rfl | exact Eq.symm (by assumption)))
    · clear hr
      intro x bb1 hr ht1
      obtain ⟨i1, s1⟩ := x
      as_aux_lemma =>
      constructor
      unfold F_tlv_Putin_2_L1 at hr
      (try dsimp only at hr)
      (try cbv)
      refine sel_intro (fun h => ?_) (fun h => ?_)
      · as_aux_lemma =>
        have h1 : (ilt i1 (ofN (xlen r1))) = true := by first | exact h | (have h2 := h; simp only [choice_lk, lock_eq] at h2; exact h2) | (simp only [choice_lk, lock_eq] at h; exact h)
        rw [if_pos h1] at hr
        (try cbv)
        have gg := guard_inv hr
        have g := gg.1
        replace hr := gg.2
        clear gg
        refine ⟨obl.2 (by first | (simp only [choice_lk, lock_eq, R.len, R.sub]; exact g) | exact g), ?_⟩
        have hqe : ∃ qq, F_varint_Put (D.toI (D.fld (getD r1 (toN i1)) 0)) = some qq := by
          cases hq : F_varint_Put (D.toI (D.fld (getD r1 (toN i1)) 0)) with
          | none => rw [hq] at hr; cases hr
          | some qq => exact ⟨qq, rfl⟩
        refine ⟨(by simp only [choice_lk, lock_eq]; exact hqe), obl.2 (by simp only [choice_lk, lock_eq]; exact hqe), (by rintro (_) _ <;> cbv), ?_⟩
        clear hqe
        intro t10 hx13
        simp only [choice_lk, lock_eq] at hx13
        all_goals (rw [hx13] at hr; dsimp only at hr; constructor; (try cbv))
        have gg := guard_inv hr
        have g := gg.1
        replace hr := gg.2
        clear gg
        refine ⟨obl.2 (by first | (simp only [choice_lk, lock_eq, R.len, R.sub]; exact g) | exact g), ?_⟩
        have hqe : ∃ qq, F_tlv_Item_inner (D.toI (D.fld (getD r1 (toN i1)) 0)) (D.toS (D.fld (getD r1 (toN i1)) 1)) (D.toL (D.fld (getD r1 (toN i1)) 2)) = some qq := by
          cases hq : F_tlv_Item_inner (D.toI (D.fld (getD r1 (toN i1)) 0)) (D.toS (D.fld (getD r1 (toN i1)) 1)) (D.toL (D.fld (getD r1 (toN i1)) 2)) with
          | none => rw [hq] at hr; cases hr
          | some qq => exact ⟨qq, rfl⟩
        refine ⟨(by simp only [choice_lk, lock_eq]; exact hqe), obl.2 (by simp only [choice_lk, lock_eq]; exact hqe), (by rintro (_) _ <;> cbv), ?_⟩
        clear hqe
        intro y4 hx14
        simp only [choice_lk, lock_eq] at hx14
        all_goals (rw [hx14] at hr; dsimp only at hr; constructor; (try cbv))
        have hqe : ∃ qq, F_varint_Put (iconv .u64 y4) = some qq := by
          cases hq : F_varint_Put (iconv .u64 y4) with
          | none => rw [hq] at hr; cases hr
          | some qq => exact ⟨qq, rfl⟩
        refine ⟨(by simp only [choice_lk, lock_eq]; exact hqe), obl.2 (by simp only [choice_lk, lock_eq]; exact hqe), (by rintro (_) _ <;> cbv), ?_⟩
        clear hqe
        intro t11 hx15
        simp only [choice_lk, lock_eq] at hx15
        all_goals (rw [hx15] at hr; dsimp only at hr; constructor; (try cbv))
        have gg := guard_inv hr
        have g := gg.1
        replace hr := gg.2
        clear gg
        refine ⟨obl.2 (by first | (simp only [choice_lk, lock_eq, R.len, R.sub]; exact g) | exact g), ?_⟩
        have gg := guard_inv hr
        have g := gg.1
        replace hr := gg.2
        clear gg
        refine ⟨obl.2 (by first | (simp only [choice_lk, lock_eq, R.len, R.sub]; exact g) | exact g), ?_⟩
        have hqe : ∃ qq, F_tlv_Putin (D.toL (D.fld (getD r1 (toN i1)) 2)) (cat (cat (cat s1 t10) t11) (D.toS (D.fld (getD r1 (toN i1)) 1))) = some qq := by
          cases hq : F_tlv_Putin (D.toL (D.fld (getD r1 (toN i1)) 2)) (cat (cat (cat s1 t10) t11) (D.toS (D.fld (getD r1 (toN i1)) 1))) with
          | none => rw [hq] at hr; cases hr
          | some qq => exact ⟨qq, rfl⟩
        refine ⟨obl.2 (by simp only [choice_lk, lock_eq]; exact hqe), (by rintro (_) _ <;> cbv), ?_⟩
        clear hqe
        intro t12 hx16
        simp only [choice_lk, lock_eq] at hx16
        all_goals (rw [hx16] at hr; dsimp only at hr; constructor; (try cbv))
        apply Hidden.out
        obtain rfl := Option.some.inj hr
        constructor
        refine ⟨⟨_, rfl⟩, ?_⟩
        rintro ⟨u0, u1⟩ e
        replace e := Sum.inl.inj e
        simp only [Prod.mk.injEq] at e
        obtain ⟨e0, e1⟩ := e
        refine le_auto hk ?_
        (try cbv); (try simp only [choice_lk, lock_eq, and_self, and_true, true_and]); (try first | exact e | exact e.symm | (and_intros <;> first | assumption | rfl | exact Eq.symm (by assumption)))
      · have h1 : (ilt i1 (ofN (xlen r1))) = false := by first | exact h | (have h2 := h; simp only [choice_lk, lock_eq] at h2; exact h2) | (simp only [choice_lk, lock_eq] at h; exact h)
        rw [if_neg (by rw [h1]; exact Bool.false_ne_true)] at hr
        (try cbv)
        apply Hidden.out
        obtain rfl := Option.some.inj hr
        have e := ht1 _ rfl
        constructor
        refine ⟨_, hF, ?_⟩
        (try cbv); (try simp only [choice_lk, lock_eq, and_self, and_true, true_and]); (try first | exact e | exact e.symm | (and_intros <;> first | assumption | rfl | exact Eq.symm (by assumption)))
end Go.Proofs.Ytknaheioedkaeaa
end
section
/-
  The walk of tollbar/tlv.Put (printed by a program of ours).
-/
set_option linter.unusedVariables false
set_option linter.unusedSimpArgs false
namespace Go.Proofs.Ytknaheioedkaeaa
open Go.RowKit

noncomputable def tab_tlv_Put : Nat → Option Con := look [(13, con_tlv_Check), (20, con_tlv_Putin)]
set_option maxHeartbeats 4000000 in
set_option maxRecDepth 100000 in
theorem vc_tlv_Put (P : Program) (T : Tab P tab_tlv_Put) (hm : P.follows .mixedOrders = true) : FnVC P tab_tlv_Put ic_11 [.t 2, .t 3] 14 con_tlv_Put := by
  intro cargs ccks ce hce hob C hk
  apply Hidden.out
  replace hce : con_tlv_Put_1 cargs ccks = some ce := hce
  · unfold con_tlv_Put_1 at hce
    split at hce
    rotate_left
    · cases hce
    obtain rfl := Option.some.inj hce
    rename_i r1
    have hb1 := hob _ (List.mem_singleton.2 rfl)
    have hb2 := obl.1 hb1
    clear hb1 hob hce
    refine hb2.elim fun r hF => ?_
    clear hb2
    simp only [List.length_cons, List.length_nil, Nat.zero_add, Nat.reduceAdd] at hk
    have hr : F_tlv_Put r1 = some r := by rw [lock_eq] at hF; exact hF
    unfold F_tlv_Put at hr
    constructor
    (try cbv)
    have hqe : ∃ qq, F_tlv_Check r1 = some qq := by
      cases hq : F_tlv_Check r1 with
      | none => rw [hq] at hr; cases hr
      | some qq => exact ⟨qq, rfl⟩
    refine ⟨obl.2 (by simp only [choice_lk, lock_eq]; exact hqe), (by rintro (_) _ <;> cbv), ?_⟩
    clear hqe
    intro c1 hx1
    simp only [choice_lk, lock_eq] at hx1
    all_goals (rw [hx1] at hr; dsimp only at hr; constructor; (try cbv))
    refine sel_intro (fun h => ?_) (fun h => ?_)
    · have h1 : c1 = false := by first | exact (bnot_t.1 h) | (have h2 := (bnot_t.1 h); simp only [choice_lk, lock_eq] at h2; exact h2) | (simp only [choice_lk, lock_eq] at h; exact (bnot_t.1 h))
      rw [if_neg (by rw [h1]; exact Bool.false_ne_true)] at hr
      (try cbv)
      apply Hidden.out
      have e := Option.some.inj hr
      obtain ⟨u0, u1⟩ := r
      simp only [Prod.mk.injEq] at e
      obtain ⟨e0, e1⟩ := e
      constructor
      refine ⟨_, hF, ?_⟩
      (try cbv); (try simp only [choice_lk, lock_eq, and_self, and_true, true_and]); (try first | exact e | exact e.symm | (and_intros <;> first | assumption | rfl | exact Eq.symm (by assumption)))
    · have h1 : c1 = true := by first | exact (bnot_f.1 h) | (have h2 := (bnot_f.1 h); simp only [choice_lk, lock_eq] at h2; exact h2) | (simp only [choice_lk, lock_eq] at h; exact (bnot_f.1 h))
      rw [if_pos h1] at hr
      (try cbv)
      have hqe : ∃ qq, F_tlv_Putin_2 r1 = some qq := by
        cases hq : F_tlv_Putin_2 r1 with
        | none => rw [hq] at hr; cases hr
        | some qq => exact ⟨qq, rfl⟩
      refine ⟨obl.2 (by simp only [choice_lk, lock_eq]; exact hqe), (by rintro (_) _ <;> cbv), ?_⟩
      clear hqe
      intro t1 hx2
      simp only [choice_lk, lock_eq] at hx2
      all_goals (rw [hx2] at hr; dsimp only at hr; constructor; (try cbv))
      apply Hidden.out
      have e := Option.some.inj hr
      obtain ⟨u0, u1⟩ := r
      simp only [Prod.mk.injEq] at e
      obtain ⟨e0, e1⟩ := e
      constructor
      refine ⟨_, hF, ?_⟩
      (try cbv); (try simp only [choice_lk, lock_eq, and_self, and_true, true_and]); (try first | exact e | exact e.symm | (and_intros <;> first | assumption | rfl | exact Eq.symm (by assumption)))
end Go.Proofs.Ytknaheioedkaeaa
end
section
/-
  The walk of slices.Clone[[]byte,byte] (printed by a program of ours).
-/
set_option linter.unusedVariables false
set_option linter.unusedSimpArgs false
namespace Go.Proofs.Ytknaheioedkaeaa
open Go.RowKit

noncomputable def tab_slices_Clone : Nat → Option Con := look []
set_option maxRecDepth 100000 in
theorem vc_slices_Clone (P : Program) (T : Tab P tab_slices_Clone) (hm : P.follows .mixedOrders = true) : FnVC P tab_slices_Clone ic_37 [.t 2] 8 con_slices_Clone := by
  intro cargs ccks ce hce hob C hk
  apply Hidden.out
  replace hce : con_slices_Clone_1 cargs ccks = some ce := hce
  · unfold con_slices_Clone_1 at hce
    split at hce
    rotate_left
    · cases hce
    obtain rfl := Option.some.inj hce
    rename_i s1
    have hb1 := hob _ (List.mem_singleton.2 rfl)
    have hb2 := obl.1 hb1
    clear hb1 hob hce
    refine hb2.elim fun r hF => ?_
    clear hb2
    simp only [List.length_cons, List.length_nil, Nat.zero_add, Nat.reduceAdd] at hk
    have hr : cloneB s1 = some r := by rw [lock_eq] at hF; exact hF
    unfold cloneB at hr
    obtain ⟨g, hr⟩ := guard_inv hr
    obtain rfl := Option.some.inj hr
    constructor
    cbv
    intro b hb
    cases b with
    | true =>
      constructor
      have hb : lock (@xlen UInt8) s1 = 0 := hb rfl
      simp only [lock_eq, xlen] at hb
      have e : s1 = [] := List.length_eq_zero_iff.1 hb
      refine ⟨_, hF, ?_⟩
      cbv
      exact e
    | false =>
      constructor
      cbv
      refine ⟨obl.2 (by simp only [R.len, lock_eq, choice_lk, xlen, List.length_nil]; simp only [xlen] at g; simp at g ⊢; omega), ?_⟩
      refine ⟨_, hF, ?_⟩
      cbv
      simp only [choice_lk]
      rfl
end Go.Proofs.Ytknaheioedkaeaa
end
section
/-
  The walk of tollbar/octet.Open (printed by a program of ours).
-/
set_option linter.unusedVariables false
set_option linter.unusedSimpArgs false
namespace Go.Proofs.Ytknaheioedkaeaa
open Go.RowKit

noncomputable def tab_octet_Open : Nat → Option Con := look [(37, con_slices_Clone)]
set_option maxHeartbeats 4000000 in
set_option maxRecDepth 100000 in
theorem vc_octet_Open (P : Program) (T : Tab P tab_octet_Open) (hm : P.follows .mixedOrders = true) : FnVC P tab_octet_Open ic_28 [.t 2] 7 con_octet_Open := by
  intro cargs ccks ce hce hob C hk
  apply Hidden.out
  replace hce : con_octet_Open_1 cargs ccks = some ce := hce
  · unfold con_octet_Open_1 at hce
    split at hce
    rotate_left
    · cases hce
    obtain rfl := Option.some.inj hce
    rename_i s1
    have hb1 := hob _ (List.mem_singleton.2 rfl)
    have hb2 := obl.1 hb1
    clear hb1 hob hce
    refine hb2.elim fun r hF => ?_
    clear hb2
    simp only [List.length_cons, List.length_nil, Nat.zero_add, Nat.reduceAdd] at hk
    have hr : F_octet_Open s1 = some r := by rw [lock_eq] at hF; exact hF
    unfold F_octet_Open at hr
    constructor
    (try cbv)
    have hqe : ∃ qq, cloneB s1 = some qq := by
      cases hq : cloneB s1 with
      | none => rw [hq] at hr; cases hr
      | some qq => exact ⟨qq, rfl⟩
    refine ⟨obl.2 (by simp only [choice_lk, lock_eq]; exact hqe), (by rintro (_) _ <;> cbv), ?_⟩
    clear hqe
    intro t1 hx1
    simp only [choice_lk, lock_eq] at hx1
    all_goals (rw [hx1] at hr; dsimp only at hr; constructor; (try cbv))
    apply Hidden.out
    have e := Option.some.inj hr
    constructor
    refine ⟨_, hF, ?_⟩
    (try cbv); (try simp only [choice_lk, lock_eq, and_self, and_true, true_and]); (try first | exact e | exact e.symm | (and_intros <;> first | assumption | rfl | exact Eq.symm (by assumption)))
end Go.Proofs.Ytknaheioedkaeaa
end
section
/-
  The walk of (*tollbar/octet.Window).Left (printed by a program of ours).
-/
set_option linter.unusedVariables false
set_option linter.unusedSimpArgs false
namespace Go.Proofs.Ytknaheioedkaeaa
open Go.RowKit

noncomputable def tab_octet_Window_Left : Nat → Option Con := look []
set_option maxHeartbeats 4000000 in
set_option maxRecDepth 100000 in
theorem vc_octet_Window_Left (P : Program) (T : Tab P tab_octet_Window_Left) (hm : P.follows .mixedOrders = true) : FnVC P tab_octet_Window_Left ic_32 [.t 2] 10 con_octet_Window_Left := by
  intro cargs ccks ce hce hob C hk
  apply Hidden.out
  replace hce : con_octet_Window_Left_1 cargs ccks = some ce := hce
  · unfold con_octet_Window_Left_1 at hce
    split at hce
    rotate_left
    · cases hce
    obtain rfl := Option.some.inj hce
    rename_i n1 n2 x1 s1
    have hb1 := hob _ (List.mem_singleton.2 rfl)
    have hb2 := obl.1 hb1
    clear hb1 hob hce
    refine hb2.elim fun r hF => ?_
    clear hb2
    simp only [List.length_cons, List.length_nil, Nat.zero_add, Nat.reduceAdd] at hk
    have hr : F_octet_Window_Left_2 n1 n2 x1 s1 = some r := by rw [lock_eq] at hF; exact hF
    unfold F_octet_Window_Left_2 at hr
    constructor
    (try cbv)
    apply Hidden.out
    have e := Option.some.inj hr
    constructor
    refine ⟨_, hF, ?_⟩
    (try cbv); (try simp only [choice_lk, lock_eq, and_self, and_true, true_and]); (try first | exact e | exact e.symm | (and_intros <;> first | assumption | rfl | exact Eq.symm (by assumption)))
end Go.Proofs.Ytknaheioedkaeaa
end
section
/-
  The walk of (*tollbar/octet.Window).Err (printed by a program of ours).
-/
set_option linter.unusedVariables false
set_option linter.unusedSimpArgs false
namespace Go.Proofs.Ytknaheioedkaeaa
open Go.RowKit

noncomputable def tab_octet_Window_Err : Nat → Option Con := look []
set_option maxHeartbeats 4000000 in
set_option maxRecDepth 100000 in
theorem vc_octet_Window_Err (P : Program) (T : Tab P tab_octet_Window_Err) (hm : P.follows .mixedOrders = true) : FnVC P tab_octet_Window_Err ic_40 [.t 2] 9 con_octet_Window_Err := by
  intro cargs ccks ce hce hob C hk
  apply Hidden.out
  replace hce : con_octet_Window_Err_1 cargs ccks = some ce := hce
  · unfold con_octet_Window_Err_1 at hce
    split at hce
    rotate_left
    · cases hce
    obtain rfl := Option.some.inj hce
    rename_i n1 n2 x1 s1
    have hb1 := hob _ (List.mem_singleton.2 rfl)
    have hb2 := obl.1 hb1
    clear hb1 hob hce
    refine hb2.elim fun r hF => ?_
    clear hb2
    simp only [List.length_cons, List.length_nil, Nat.zero_add, Nat.reduceAdd] at hk
    have hr : F_octet_Window_Err_2 n1 n2 x1 s1 = some r := by rw [lock_eq] at hF; exact hF
    unfold F_octet_Window_Err_2 at hr
    constructor
    (try cbv)
    apply Hidden.out
    have e := Option.some.inj hr
    constructor
    refine ⟨_, hF, ?_⟩
    (try cbv); (try simp only [choice_lk, lock_eq, and_self, and_true, true_and]); (try first | exact e | exact e.symm | (and_intros <;> first | assumption | rfl | exact Eq.symm (by assumption)))
end Go.Proofs.Ytknaheioedkaeaa
end
section
/-
  The walk of (*tollbar/octet.Window).fail (printed by a program of ours).
-/
set_option linter.unusedVariables false
set_option linter.unusedSimpArgs false
namespace Go.Proofs.Ytknaheioedkaeaa
open Go.RowKit

noncomputable def tab_octet_Window_fail : Nat → Option Con := look []
set_option maxHeartbeats 4000000 in
set_option maxRecDepth 100000 in
theorem vc_octet_Window_fail (P : Program) (T : Tab P tab_octet_Window_fail) (hm : P.follows .mixedOrders = true) : FnVC P tab_octet_Window_fail ic_43 [] 13 con_octet_Window_fail := by
  intro cargs ccks ce hce hob C hk
  apply Hidden.out
  replace hce : con_octet_Window_fail_1 cargs ccks = some ce := hce
  · unfold con_octet_Window_fail_1 at hce
    split at hce
    rotate_left
    · cases hce
    obtain rfl := Option.some.inj hce
    rename_i x1 n1 n2 x2 s1
    have hb1 := hob _ (List.mem_singleton.2 rfl)
    have hb2 := obl.1 hb1
    clear hb1 hob hce
    refine hb2.elim fun r hF => ?_
    clear hb2
    simp only [List.length_cons, List.length_nil, Nat.zero_add, Nat.reduceAdd] at hk
    have hr : F_octet_Window_fail_2 x1 n1 n2 x2 s1 = some r := by rw [lock_eq] at hF; exact hF
    unfold F_octet_Window_fail_2 at hr
    constructor
    (try cbv)
    refine sel_intro (fun h => ?_) (fun h => ?_)
    · have h1 : (ieq x2 (0 : Int)) = true := by first | exact h | (have h2 := h; simp only [choice_lk, lock_eq] at h2; exact h2) | (simp only [choice_lk, lock_eq] at h; exact h)
      rw [if_pos h1] at hr
      (try cbv)
      apply Hidden.out
      have e := Option.some.inj hr
      constructor
      refine ⟨_, hF, ?_⟩
      (try cbv); (try simp only [choice_lk, lock_eq, and_self, and_true, true_and]); (try first | exact e | exact e.symm | (and_intros <;> first | assumption | rfl | exact Eq.symm (by assumption)))
    · have h1 : (ieq x2 (0 : Int)) = false := by first | exact h | (have h2 := h; simp only [choice_lk, lock_eq] at h2; exact h2) | (simp only [choice_lk, lock_eq] at h; exact h)
      rw [if_neg (by rw [h1]; exact Bool.false_ne_true)] at hr
      (try cbv)
      apply Hidden.out
      have e := Option.some.inj hr
      constructor
      refine ⟨_, hF, ?_⟩
      (try cbv); (try simp only [choice_lk, lock_eq, and_self, and_true, true_and]); (try first | exact e | exact e.symm | (and_intros <;> first | assumption | rfl | exact Eq.symm (by assumption)))
end Go.Proofs.Ytknaheioedkaeaa
end
section
/-
  The walk of (*tollbar/octet.Window).Bytes (printed by a program of ours).
-/
set_option linter.unusedVariables false
set_option linter.unusedSimpArgs false
namespace Go.Proofs.Ytknaheioedkaeaa
open Go.RowKit

noncomputable def tab_octet_Window_Bytes : Nat → Option Con := look [(43, con_octet_Window_fail)]
set_option maxHeartbeats 4000000 in
set_option maxRecDepth 100000 in
theorem vc_octet_Window_Bytes (P : Program) (T : Tab P tab_octet_Window_Bytes) (hm : P.follows .mixedOrders = true) : FnVC P tab_octet_Window_Bytes ic_36 [.t 4] 46 con_octet_Window_Bytes := by
  intro cargs ccks ce hce hob C hk
  apply Hidden.out
  replace hce : con_octet_Window_Bytes_1 cargs ccks = some ce := hce
  · unfold con_octet_Window_Bytes_1 at hce
    split at hce
    rotate_left
    · cases hce
    obtain rfl := Option.some.inj hce
    rename_i x1 n1 n2 x2 s1
    have hb1 := hob _ (List.mem_singleton.2 rfl)
    have hb2 := obl.1 hb1
    clear hb1 hob hce
    refine hb2.elim fun r hF => ?_
    clear hb2
    simp only [List.length_cons, List.length_nil, Nat.zero_add, Nat.reduceAdd] at hk
    have hr : F_octet_Window_Bytes_2 x1 n1 n2 x2 s1 = some r := by rw [lock_eq] at hF; exact hF
    unfold F_octet_Window_Bytes_2 at hr
    constructor
    (try cbv)
    refine sel_intro (fun h => ?_) (fun h => ?_)
    · have h1 : (ilt x1 (0 : Int)) = true := by first | exact h | (have h2 := h; simp only [choice_lk, lock_eq] at h2; exact h2) | (simp only [choice_lk, lock_eq] at h; exact h)
      rw [if_pos h1] at hr
      (try cbv)
      have hqe : ∃ qq, F_octet_Window_fail_2 (1 : Int) n1 n2 x2 s1 = some qq := by
        cases hq : F_octet_Window_fail_2 (1 : Int) n1 n2 x2 s1 with
        | none => rw [hq] at hr; cases hr
        | some qq => exact ⟨qq, rfl⟩
      refine ⟨obl.2 (by simp only [choice_lk, lock_eq]; exact hqe), (by rintro (_) _ <;> cbv), ?_⟩
      clear hqe
      intro y1 hx1
      simp only [choice_lk, lock_eq] at hx1
      all_goals (rw [hx1] at hr; dsimp only at hr; constructor; (try cbv))
      refine sel_intro (fun h => ?_) (fun h => ?_)
      · have h1 : (ieq y1 (0 : Int)) = false := by first | exact (bnot_t.1 h) | (have h2 := (bnot_t.1 h); simp only [choice_lk, lock_eq] at h2; exact h2) | (simp only [choice_lk, lock_eq] at h; exact (bnot_t.1 h))
        rw [if_neg (by rw [h1]; exact Bool.false_ne_true)] at hr
        (try cbv)
        apply Hidden.out
        have e := Option.some.inj hr
        obtain ⟨u0, u1, u2, u3⟩ := r
        simp only [Prod.mk.injEq] at e
        obtain ⟨e0, e1, e2, e3⟩ := e
        constructor
        refine ⟨_, hF, ?_⟩
        (try cbv); (try simp only [choice_lk, lock_eq, and_self, and_true, true_and]); (try first | exact e | exact e.symm | (and_intros <;> first | assumption | rfl | exact Eq.symm (by assumption)))
      · have h1 : (ieq y1 (0 : Int)) = true := by first | exact (bnot_f.1 h) | (have h2 := (bnot_f.1 h); simp only [choice_lk, lock_eq] at h2; exact h2) | (simp only [choice_lk, lock_eq] at h; exact (bnot_f.1 h))
        rw [if_pos h1] at hr
        (try cbv)
        have gg := guard_inv hr
        have g := gg.1
        replace hr := gg.2
        clear gg
        refine ⟨obl.2 (by first | (simp only [choice_lk, lock_eq, R.len, R.sub]; exact g) | exact g), ?_⟩
        have gg := guard_inv hr
        have g := gg.1
        replace hr := gg.2
        clear gg
        refine ⟨obl.2 (by first | (simp only [choice_lk, lock_eq, R.len, R.sub]; exact g) | exact g), ?_⟩
        apply Hidden.out
        have e := Option.some.inj hr
        obtain ⟨u0, u1, u2, u3⟩ := r
        simp only [Prod.mk.injEq] at e
        obtain ⟨e0, e1, e2, e3⟩ := e
        constructor
        refine ⟨_, hF, ?_⟩
        (try cbv); (try simp only [choice_lk, lock_eq, and_self, and_true, true_and]); (try first | exact e | exact e.symm | (and_intros <;> first | assumption | rfl | exact Eq.symm (by assumption)))
    · as_aux_lemma =>
      have h1 : (ilt x1 (0 : Int)) = false := by first | exact h | (have h2 := h; simp only [choice_lk, lock_eq] at h2; exact h2) | (simp only [choice_lk, lock_eq] at h; exact h)
      rw [if_neg (by rw [h1]; exact Bool.false_ne_true)] at hr
      (try cbv)
      refine sel_intro (fun h => ?_) (fun h => ?_)
      · have h1 : (ilt (ofN n2) x1) = true := by first | exact h | (have h2 := h; simp only [choice_lk, lock_eq] at h2; exact h2) | (simp only [choice_lk, lock_eq] at h; exact h)
        rw [if_pos h1] at hr
        (try cbv)
        have hqe : ∃ qq, F_octet_Window_fail_2 (10 : Int) n1 n2 x2 s1 = some qq := by
          cases hq : F_octet_Window_fail_2 (10 : Int) n1 n2 x2 s1 with
          | none => rw [hq] at hr; cases hr
          | some qq => exact ⟨qq, rfl⟩
        refine ⟨obl.2 (by simp only [choice_lk, lock_eq]; exact hqe), (by rintro (_) _ <;> cbv), ?_⟩
        clear hqe
        intro y2 hx2
        simp only [choice_lk, lock_eq] at hx2
        all_goals (rw [hx2] at hr; dsimp only at hr; constructor; (try cbv))
        refine sel_intro (fun h => ?_) (fun h => ?_)
        · have h1 : (ieq y2 (0 : Int)) = false := by first | exact (bnot_t.1 h) | (have h2 := (bnot_t.1 h); simp only [choice_lk, lock_eq] at h2; exact h2) | (simp only [choice_lk, lock_eq] at h; exact (bnot_t.1 h))
          rw [if_neg (by rw [h1]; exact Bool.false_ne_true)] at hr
          (try cbv)
          apply Hidden.out
          have e := Option.some.inj hr
          obtain ⟨u0, u1, u2, u3⟩ := r
          simp only [Prod.mk.injEq] at e
          obtain ⟨e0, e1, e2, e3⟩ := e
          constructor
          refine ⟨_, hF, ?_⟩
          (try cbv); (try simp only [choice_lk, lock_eq, and_self, and_true, true_and]); (try first | exact e | exact e.symm | (and_intros <;> first | assumption | rfl | exact Eq.symm (by assumption)))
        · have h1 : (ieq y2 (0 : Int)) = true := by first | exact (bnot_f.1 h) | (have h2 := (bnot_f.1 h); simp only [choice_lk, lock_eq] at h2; exact h2) | (simp only [choice_lk, lock_eq] at h; exact (bnot_f.1 h))
          rw [if_pos h1] at hr
          (try cbv)
          have gg := guard_inv hr
          have g := gg.1
          replace hr := gg.2
          clear gg
          refine ⟨obl.2 (by first | (simp only [choice_lk, lock_eq, R.len, R.sub]; exact g) | exact g), ?_⟩
          have gg := guard_inv hr
          have g := gg.1
          replace hr := gg.2
          clear gg
          refine ⟨obl.2 (by first | (simp only [choice_lk, lock_eq, R.len, R.sub]; exact g) | exact g), ?_⟩
          apply Hidden.out
          have e := Option.some.inj hr
          obtain ⟨u0, u1, u2, u3⟩ := r
          simp only [Prod.mk.injEq] at e
          obtain ⟨e0, e1, e2, e3⟩ := e
          constructor
          refine ⟨_, hF, ?_⟩
          (try cbv); (try simp only [choice_lk, lock_eq, and_self, and_true, true_and]); (try first | exact e | exact e.symm | (and_intros <;> first | assumption | rfl | exact Eq.symm (by assumption)))
      · have h1 : (ilt (ofN n2) x1) = false := by first | exact h | (have h2 := h; simp only [choice_lk, lock_eq] at h2; exact h2) | (simp only [choice_lk, lock_eq] at h; exact h)
        rw [if_neg (by rw [h1]; exact Bool.false_ne_true)] at hr
        (try cbv)
        refine sel_intro (fun h => ?_) (fun h => ?_)
        · have h1 : (ieq x2 (0 : Int)) = false := by first | exact (bnot_t.1 h) | (have h2 := (bnot_t.1 h); simp only [choice_lk, lock_eq] at h2; exact h2) | (simp only [choice_lk, lock_eq] at h; exact (bnot_t.1 h))
          rw [if_neg (by rw [h1]; exact Bool.false_ne_true)] at hr
          (try cbv)
          apply Hidden.out
          have e := Option.some.inj hr
          obtain ⟨u0, u1, u2, u3⟩ := r
          simp only [Prod.mk.injEq] at e
          obtain ⟨e0, e1, e2, e3⟩ := e
          constructor
          refine ⟨_, hF, ?_⟩
          (try cbv); (try simp only [choice_lk, lock_eq, and_self, and_true, true_and]); (try first | exact e | exact e.symm | (and_intros <;> first | assumption | rfl | exact Eq.symm (by assumption)))
        · have h1 : (ieq x2 (0 : Int)) = true := by first | exact (bnot_f.1 h) | (have h2 := (bnot_f.1 h); simp only [choice_lk, lock_eq] at h2; exact h2) | (simp only [choice_lk, lock_eq] at h; exact (bnot_f.1 h))
          rw [if_pos h1] at hr
          (try cbv)
          have gg := guard_inv hr
          have g := gg.1
          replace hr := gg.2
          clear gg
          refine ⟨obl.2 (by first | (simp only [choice_lk, lock_eq, R.len, R.sub]; exact g) | exact g), ?_⟩
          have gg := guard_inv hr
          have g := gg.1
          replace hr := gg.2
          clear gg
          refine ⟨obl.2 (by first | (simp only [choice_lk, lock_eq, R.len, R.sub]; exact g) | exact g), ?_⟩
          apply Hidden.out
          have e := Option.some.inj hr
          obtain ⟨u0, u1, u2, u3⟩ := r
          simp only [Prod.mk.injEq] at e
          obtain ⟨e0, e1, e2, e3⟩ := e
          constructor
          refine ⟨_, hF, ?_⟩
          (try cbv); (try simp only [choice_lk, lock_eq, and_self, and_true, true_and]); (try first | exact e | exact e.symm | (and_intros <;> first | assumption | rfl | exact Eq.symm (by assumption)))
end Go.Proofs.Ytknaheioedkaeaa
end
section
/-
  The walk of tollbar/octet.Value (printed by a program of ours).
-/
set_option linter.unusedVariables false
set_option linter.unusedSimpArgs false
namespace Go.Proofs.Ytknaheioedkaeaa
open Go.RowKit

noncomputable def tab_octet_Value : Nat → Option Con := look []
set_option maxHeartbeats 4000000 in
set_option maxRecDepth 100000 in
theorem vc_octet_Value (P : Program) (T : Tab P tab_octet_Value) (hm : P.follows .mixedOrders = true) : FnVC P tab_octet_Value ic_45 [.t 2, .t 3] 23 con_octet_Value := by
  intro cargs ccks ce hce hob C hk
  apply Hidden.out
  replace hce : con_octet_Value_1 cargs ccks = some ce := hce
  · unfold con_octet_Value_1 at hce
    split at hce
    rotate_left
    · cases hce
    obtain rfl := Option.some.inj hce
    rename_i s1
    have hb1 := hob _ (List.mem_singleton.2 rfl)
    have hb2 := obl.1 hb1
    clear hb1 hob hce
    refine hb2.elim fun r hF => ?_
    clear hb2
    simp only [List.length_cons, List.length_nil, Nat.zero_add, Nat.reduceAdd] at hk
    have hr : F_octet_Value s1 = some r := by rw [lock_eq] at hF; exact hF
    unfold F_octet_Value at hr
    constructor
    (try cbv)
    refine LoopOK.iter T (drawOK T hm) (B := (F_octet_Value_L1 s1)) hr (fun | (i1, i2) => ⟨mkFr [(4, (.v (.int .u64 i1))), (7, (.rsl (.bs 5 s1))), (8, (.v (.int .i64 (lock ofN (lock (@xlen UInt8) s1))))), (9, (.v (.int .i64 i2)))] 23 0, [], 0⟩) ?_ ?_
    · rintro ⟨u0, u1⟩ e
      simp only [Prod.mk.injEq] at e
      obtain ⟨e0, e1⟩ := e
      refine le_auto hk ?_
      (try cbv); (try simp only [choice_lk, lock_eq, and_self, and_true, true_and]); (try first | exact e | exact e.symm | (and_intros <;> first | assumption | rfl | exact Eq.symm (by assumption)))
    · clear hr
      intro x bb1 hr ht1
      obtain ⟨i1, i2⟩ := x
      as_aux_lemma =>
      constructor
      unfold F_octet_Value_L1 at hr
      (try dsimp only at hr)
      (try cbv)
      refine sel_intro (fun h => ?_) (fun h => ?_)
      · have h1 : (ilt i2 (ofN (xlen s1))) = true := by first | exact h | (have h2 := h; simp only [choice_lk, lock_eq] at h2; exact h2) | (simp only [choice_lk, lock_eq] at h; exact h)
        rw [if_pos h1] at hr
        (try cbv)
        have gg := guard_inv hr
        have g := gg.1
        replace hr := gg.2
        clear gg
        refine ⟨obl.2 (by first | (simp only [choice_lk, lock_eq, R.len, R.sub]; exact g) | exact g), ?_⟩
        have gg := guard_inv hr
        have g := gg.1
        replace hr := gg.2
        clear gg
        refine ⟨obl.2 (by first | (simp only [choice_lk, lock_eq, R.len, R.sub]; exact g) | exact g), ?_⟩
        refine sel_intro (fun h => ?_) (fun h => ?_)
        · have h1 : (ilt (0 : Int) (ishr .u64 i1 (56 : Int))) = true := by first | exact h | (have h2 := h; simp only [choice_lk, lock_eq] at h2; exact h2) | (simp only [choice_lk, lock_eq] at h; exact h)
          rw [if_pos h1] at hr
          (try cbv)
          apply Hidden.out
          obtain rfl := Option.some.inj hr
          have e := ht1 _ rfl
          obtain ⟨u0, u1⟩ := r
          simp only [Prod.mk.injEq] at e
          obtain ⟨e0, e1⟩ := e
          constructor
          refine ⟨_, hF, ?_⟩
          (try cbv); (try simp only [choice_lk, lock_eq, and_self, and_true, true_and]); (try first | exact e | exact e.symm | (and_intros <;> first | assumption | rfl | exact Eq.symm (by assumption)))
        · have h1 : (ilt (0 : Int) (ishr .u64 i1 (56 : Int))) = false := by first | exact h | (have h2 := h; simp only [choice_lk, lock_eq] at h2; exact h2) | (simp only [choice_lk, lock_eq] at h; exact h)
          rw [if_neg (by rw [h1]; exact Bool.false_ne_true)] at hr
          (try cbv)
          have gg := guard_inv hr
          have g := gg.1
          replace hr := gg.2
          clear gg
          refine ⟨obl.2 (by first | (simp only [choice_lk, lock_eq, R.len, R.sub]; exact g) | exact g), ?_⟩
          apply Hidden.out
          obtain rfl := Option.some.inj hr
          constructor
          refine ⟨⟨_, rfl⟩, ?_⟩
          rintro ⟨u0, u1⟩ e
          replace e := Sum.inl.inj e
          simp only [Prod.mk.injEq] at e
          obtain ⟨e0, e1⟩ := e
          refine le_auto hk ?_
          (try cbv); (try simp only [choice_lk, lock_eq, and_self, and_true, true_and]); (try first | exact e | exact e.symm | (and_intros <;> first | assumption | rfl | exact Eq.symm (by assumption)))
      · have h1 : (ilt i2 (ofN (xlen s1))) = false := by first | exact h | (have h2 := h; simp only [choice_lk, lock_eq] at h2; exact h2) | (simp only [choice_lk, lock_eq] at h; exact h)
        rw [if_neg (by rw [h1]; exact Bool.false_ne_true)] at hr
        (try cbv)
        apply Hidden.out
        obtain rfl := Option.some.inj hr
        have e := ht1 _ rfl
        obtain ⟨u0, u1⟩ := r
        simp only [Prod.mk.injEq] at e
        obtain ⟨e0, e1⟩ := e
        constructor
        refine ⟨_, hF, ?_⟩
        (try cbv); (try simp only [choice_lk, lock_eq, and_self, and_true, true_and]); (try first | exact e | exact e.symm | (and_intros <;> first | assumption | rfl | exact Eq.symm (by assumption)))
end Go.Proofs.Ytknaheioedkaeaa
end
section
/-
  The walk of (*tollbar/octet.Window).Num (printed by a program of ours).
-/
set_option linter.unusedVariables false
set_option linter.unusedSimpArgs false
namespace Go.Proofs.Ytknaheioedkaeaa
open Go.RowKit

noncomputable def tab_octet_Window_Num : Nat → Option Con := look [(43, con_octet_Window_fail), (36, con_octet_Window_Bytes), (45, con_octet_Value)]
set_option maxHeartbeats 4000000 in
set_option maxRecDepth 100000 in
theorem vc_octet_Window_Num (P : Program) (T : Tab P tab_octet_Window_Num) (hm : P.follows .mixedOrders = true) : FnVC P tab_octet_Window_Num ic_44 [.t 4] 25 con_octet_Window_Num := by
  intro cargs ccks ce hce hob C hk
  apply Hidden.out
  replace hce : con_octet_Window_Num_1 cargs ccks = some ce := hce
  · unfold con_octet_Window_Num_1 at hce
    split at hce
    rotate_left
    · cases hce
    obtain rfl := Option.some.inj hce
    rename_i x1 n1 n2 x2 s1
    have hb1 := hob _ (List.mem_singleton.2 rfl)
    have hb2 := obl.1 hb1
    clear hb1 hob hce
    refine hb2.elim fun r hF => ?_
    clear hb2
    simp only [List.length_cons, List.length_nil, Nat.zero_add, Nat.reduceAdd] at hk
    have hr : F_octet_Window_Num_2 x1 n1 n2 x2 s1 = some r := by rw [lock_eq] at hF; exact hF
    unfold F_octet_Window_Num_2 at hr
    constructor
    (try cbv)
    refine sel_intro (fun h => ?_) (fun h => ?_)
    · have h1 : (ilt x1 (1 : Int)) = true := by first | exact h | (have h2 := h; simp only [choice_lk, lock_eq] at h2; exact h2) | (simp only [choice_lk, lock_eq] at h; exact h)
      rw [if_pos h1] at hr
      (try cbv)
      have hqe : ∃ qq, F_octet_Window_fail_2 (1 : Int) n1 n2 x2 s1 = some qq := by
        cases hq : F_octet_Window_fail_2 (1 : Int) n1 n2 x2 s1 with
        | none => rw [hq] at hr; cases hr
        | some qq => exact ⟨qq, rfl⟩
      refine ⟨obl.2 (by simp only [choice_lk, lock_eq]; exact hqe), (by rintro (_) _ <;> cbv), ?_⟩
      clear hqe
      intro y1 hx1
      simp only [choice_lk, lock_eq] at hx1
      all_goals (rw [hx1] at hr; dsimp only at hr; constructor; (try cbv))
      apply Hidden.out
      have e := Option.some.inj hr
      obtain ⟨u0, u1, u2, u3⟩ := r
      simp only [Prod.mk.injEq] at e
      obtain ⟨e0, e1, e2, e3⟩ := e
      constructor
      refine ⟨_, hF, ?_⟩
      (try cbv); (try simp only [choice_lk, lock_eq, and_self, and_true, true_and]); (try first | exact e | exact e.symm | (and_intros <;> first | assumption | rfl | exact Eq.symm (by assumption)))
    · have h1 : (ilt x1 (1 : Int)) = false := by first | exact h | (have h2 := h; simp only [choice_lk, lock_eq] at h2; exact h2) | (simp only [choice_lk, lock_eq] at h; exact h)
      rw [if_neg (by rw [h1]; exact Bool.false_ne_true)] at hr
      (try cbv)
      refine sel_intro (fun h => ?_) (fun h => ?_)
      · have h1 : (ilt (8 : Int) x1) = true := by first | exact h | (have h2 := h; simp only [choice_lk, lock_eq] at h2; exact h2) | (simp only [choice_lk, lock_eq] at h; exact h)
        rw [if_pos h1] at hr
        (try cbv)
        have hqe : ∃ qq, F_octet_Window_fail_2 (1 : Int) n1 n2 x2 s1 = some qq := by
          cases hq : F_octet_Window_fail_2 (1 : Int) n1 n2 x2 s1 with
          | none => rw [hq] at hr; cases hr
          | some qq => exact ⟨qq, rfl⟩
        refine ⟨obl.2 (by simp only [choice_lk, lock_eq]; exact hqe), (by rintro (_) _ <;> cbv), ?_⟩
        clear hqe
        intro y2 hx2
        simp only [choice_lk, lock_eq] at hx2
        all_goals (rw [hx2] at hr; dsimp only at hr; constructor; (try cbv))
        apply Hidden.out
        have e := Option.some.inj hr
        obtain ⟨u0, u1, u2, u3⟩ := r
        simp only [Prod.mk.injEq] at e
        obtain ⟨e0, e1, e2, e3⟩ := e
        constructor
        refine ⟨_, hF, ?_⟩
        (try cbv); (try simp only [choice_lk, lock_eq, and_self, and_true, true_and]); (try first | exact e | exact e.symm | (and_intros <;> first | assumption | rfl | exact Eq.symm (by assumption)))
      · have h1 : (ilt (8 : Int) x1) = false := by first | exact h | (have h2 := h; simp only [choice_lk, lock_eq] at h2; exact h2) | (simp only [choice_lk, lock_eq] at h; exact h)
        rw [if_neg (by rw [h1]; exact Bool.false_ne_true)] at hr
        (try cbv)
        have hqe : ∃ qq, F_octet_Window_Bytes_2 x1 n1 n2 x2 s1 = some qq := by
          cases hq : F_octet_Window_Bytes_2 x1 n1 n2 x2 s1 with
          | none => rw [hq] at hr; cases hr
          | some qq => exact ⟨qq, rfl⟩
        refine ⟨obl.2 (by simp only [choice_lk, lock_eq]; exact hqe), (by rintro (⟨_, _, _, _⟩) _ <;> cbv), ?_⟩
        clear hqe
        intro qq hx3
        simp only [choice_lk, lock_eq] at hx3
        rcases qq with ⟨k1, k2, y3, t1⟩
        all_goals (rw [hx3] at hr; dsimp only at hr; constructor; (try cbv))
        have hqe : ∃ qq, F_octet_Value t1 = some qq := by
          cases hq : F_octet_Value t1 with
          | none => rw [hq] at hr; cases hr
          | some qq => exact ⟨qq, rfl⟩
        refine ⟨obl.2 (by simp only [choice_lk, lock_eq]; exact hqe), (by rintro (⟨_, _⟩) _ <;> cbv), ?_⟩
        clear hqe
        intro qq hx4
        simp only [choice_lk, lock_eq] at hx4
        rcases qq with ⟨y4, c1⟩
        all_goals (rw [hx4] at hr; dsimp only at hr; constructor; (try cbv))
        apply Hidden.out
        have e := Option.some.inj hr
        obtain ⟨u0, u1, u2, u3⟩ := r
        simp only [Prod.mk.injEq] at e
        obtain ⟨e0, e1, e2, e3⟩ := e
        constructor
        refine ⟨_, hF, ?_⟩
        (try cbv); (try simp only [choice_lk, lock_eq, and_self, and_true, true_and]); (try first | exact e | exact e.symm | (and_intros <;> first | assumption | rfl | exact Eq.symm (by assumption)))
end Go.Proofs.Ytknaheioedkaeaa
end
section
/-
  The walk of (*tollbar/octet.Window).Byte (printed by a program of ours).
-/
set_option linter.unusedVariables false
set_option linter.unusedSimpArgs false
namespace Go.Proofs.Ytknaheioedkaeaa
open Go.RowKit

noncomputable def tab_octet_Window_Byte : Nat → Option Con := look [(44, con_octet_Window_Num)]
set_option maxHeartbeats 4000000 in
set_option maxRecDepth 100000 in
theorem vc_octet_Window_Byte (P : Program) (T : Tab P tab_octet_Window_Byte) (hm : P.follows .mixedOrders = true) : FnVC P tab_octet_Window_Byte ic_41 [.t 2] 6 con_octet_Window_Byte := by
  intro cargs ccks ce hce hob C hk
  apply Hidden.out
  replace hce : con_octet_Window_Byte_1 cargs ccks = some ce := hce
  · unfold con_octet_Window_Byte_1 at hce
    split at hce
    rotate_left
    · cases hce
    obtain rfl := Option.some.inj hce
    rename_i n1 n2 x1 s1
    have hb1 := hob _ (List.mem_singleton.2 rfl)
    have hb2 := obl.1 hb1
    clear hb1 hob hce
    refine hb2.elim fun r hF => ?_
    clear hb2
    simp only [List.length_cons, List.length_nil, Nat.zero_add, Nat.reduceAdd] at hk
    have hr : F_octet_Window_Byte_2 n1 n2 x1 s1 = some r := by rw [lock_eq] at hF; exact hF
    unfold F_octet_Window_Byte_2 at hr
    constructor
    (try cbv)
    have hqe : ∃ qq, F_octet_Window_Num_2 (1 : Int) n1 n2 x1 s1 = some qq := by
      cases hq : F_octet_Window_Num_2 (1 : Int) n1 n2 x1 s1 with
      | none => rw [hq] at hr; cases hr
      | some qq => exact ⟨qq, rfl⟩
    refine ⟨obl.2 (by simp only [choice_lk, lock_eq]; exact hqe), (by rintro (⟨_, _, _, _⟩) _ <;> cbv), ?_⟩
    clear hqe
    intro qq hx1
    simp only [choice_lk, lock_eq] at hx1
    rcases qq with ⟨y1, k1, k2, y2⟩
    all_goals (rw [hx1] at hr; dsimp only at hr; constructor; (try cbv))
    apply Hidden.out
    have e := Option.some.inj hr
    obtain ⟨u0, u1, u2, u3⟩ := r
    simp only [Prod.mk.injEq] at e
    obtain ⟨e0, e1, e2, e3⟩ := e
    constructor
    refine ⟨_, hF, ?_⟩
    (try cbv); (try simp only [choice_lk, lock_eq, and_self, and_true, true_and]); (try first | exact e | exact e.symm | (and_intros <;> first | assumption | rfl | exact Eq.symm (by assumption)))
end Go.Proofs.Ytknaheioedkaeaa
end
section
/-
  The walk of tollbar/varint.Get (printed by a program of ours).
-/
set_option linter.unusedVariables false
set_option linter.unusedSimpArgs false
namespace Go.Proofs.Ytknaheioedkaeaa
open Go.RowKit

noncomputable def tab_varint_Get : Nat → Option Con := look []
set_option maxHeartbeats 4000000 in
set_option maxRecDepth 100000 in
theorem vc_varint_Get (P : Program) (T : Tab P tab_varint_Get) (hm : P.follows .mixedOrders = true) : FnVC P tab_varint_Get ic_42 [.t 2, .t 3, .t 4] 55 con_varint_Get := by
  intro cargs ccks ce hce hob C hk
  apply Hidden.out
  replace hce : con_varint_Get_1 cargs ccks = some ce := hce
  · unfold con_varint_Get_1 at hce
    split at hce
    rotate_left
    · cases hce
    obtain rfl := Option.some.inj hce
    rename_i s1
    have hb1 := hob _ (List.mem_singleton.2 rfl)
    have hb2 := obl.1 hb1
    clear hb1 hob hce
    refine hb2.elim fun r hF => ?_
    clear hb2
    simp only [List.length_cons, List.length_nil, Nat.zero_add, Nat.reduceAdd] at hk
    have hr : F_varint_Get s1 = some r := by rw [lock_eq] at hF; exact hF
    unfold F_varint_Get at hr
    constructor
    (try cbv)
    have gg := guard_inv hr
    have g := gg.1
    replace hr := gg.2
    clear gg
    refine ⟨obl.2 (by first | (simp only [choice_lk, lock_eq, R.len, R.sub]; exact g) | exact g), ?_⟩
    refine LoopOK.iter T (drawOK T hm) (B := (F_varint_Get_L1 s1)) hr (fun | (i1, i2) => ⟨mkFr [(0, (.rsl (.bs 5 s1))), (5, (.v (.int .u64 i1))), (13, (.rsl (.bs 5 (lock (@lsub UInt8) s1 0 (lock toN (lock imin (lock ofN (lock (@xlen UInt8) s1)) (10 : Int))))))), (14, (.v (.int .i64 (lock ofN (lock (@xlen UInt8) (lock (@lsub UInt8) s1 0 (lock toN (lock imin (lock ofN (lock (@xlen UInt8) s1)) (10 : Int))))))))), (15, (.v (.int .i64 i2)))] 55 0, [], 0⟩) ?_ ?_
    · rintro ⟨u0, u1⟩ e
      simp only [Prod.mk.injEq] at e
      obtain ⟨e0, e1⟩ := e
      refine le_auto hk ?_
      (try cbv); (try simp only [choice_lk, lock_eq, and_self, and_true, true_and]); (try first | exact e | exact e.symm | (and_intros <;> first | assumption | rfl | exact Eq.symm (by assumption)))
    · clear hr
      intro x bb1 hr ht1
      obtain ⟨i1, i2⟩ := x
      as_aux_lemma =>
      constructor
      unfold F_varint_Get_L1 at hr
      (try dsimp only at hr)
      (try cbv)
      refine sel_intro (fun h => ?_) (fun h => ?_)
      · as_aux_lemma =>
        have h1 : (ilt i2 (ofN (xlen (lsub s1 0 (toN (imin (ofN (xlen s1)) (10 : Int))))))) = true := by first | exact h | (have h2 := h; simp only [choice_lk, lock_eq] at h2; exact h2) | (simp only [choice_lk, lock_eq] at h; exact h)
        rw [if_pos h1] at hr
        (try cbv)
        have gg := guard_inv hr
        have g := gg.1
        replace hr := gg.2
        clear gg
        refine ⟨obl.2 (by first | (simp only [choice_lk, lock_eq, R.len, R.sub]; exact g) | exact g), ?_⟩
        have gg := guard_inv hr
        have g := gg.1
        replace hr := gg.2
        clear gg
        refine ⟨obl.2 (by first | (simp only [choice_lk, lock_eq, R.len, R.sub]; exact g) | exact g), ?_⟩
        have gg := guard_inv hr
        have g := gg.1
        replace hr := gg.2
        clear gg
        refine ⟨obl.2 (by first | (simp only [choice_lk, lock_eq, R.len, R.sub]; exact g) | exact g), ?_⟩
        refine sel_intro (fun h => ?_) (fun h => ?_)
        · have h1 : (ieq (ishr .u64 (ishl .u64 (iconv .u64 (irem (getB (lsub s1 0 (toN (imin (ofN (xlen s1)) (10 : Int)))) (toN i2)) (128 : Int))) (imul .i64 (7 : Int) i2)) (imul .i64 (7 : Int) i2)) (iconv .u64 (irem (getB (lsub s1 0 (toN (imin (ofN (xlen s1)) (10 : Int)))) (toN i2)) (128 : Int)))) = false := by first | exact (bnot_t.1 h) | (have h2 := (bnot_t.1 h); simp only [choice_lk, lock_eq] at h2; exact h2) | (simp only [choice_lk, lock_eq] at h; exact (bnot_t.1 h))
          rw [if_neg (by rw [h1]; exact Bool.false_ne_true)] at hr
          (try cbv)
          apply Hidden.out
          obtain rfl := Option.some.inj hr
          have e := ht1 _ rfl
          obtain ⟨u0, u1, u2⟩ := r
          simp only [Prod.mk.injEq] at e
          obtain ⟨e0, e1, e2⟩ := e
          constructor
          refine ⟨_, hF, ?_⟩
          (try cbv); (try simp only [choice_lk, lock_eq, and_self, and_true, true_and]); (try first | exact e | exact e.symm | (and_intros <;> first | assumption | rfl | exact Eq.symm (by assumption)))
        · as_aux_lemma =>
          have h1 : (ieq (ishr .u64 (ishl .u64 (iconv .u64 (irem (getB (lsub s1 0 (toN (imin (ofN (xlen s1)) (10 : Int)))) (toN i2)) (128 : Int))) (imul .i64 (7 : Int) i2)) (imul .i64 (7 : Int) i2)) (iconv .u64 (irem (getB (lsub s1 0 (toN (imin (ofN (xlen s1)) (10 : Int)))) (toN i2)) (128 : Int)))) = true := by first | exact (bnot_f.1 h) | (have h2 := (bnot_f.1 h); simp only [choice_lk, lock_eq] at h2; exact h2) | (simp only [choice_lk, lock_eq] at h; exact (bnot_f.1 h))
          rw [if_pos h1] at hr
          (try cbv)
          have gg := guard_inv hr
          have g := gg.1
          replace hr := gg.2
          clear gg
          refine ⟨obl.2 (by first | (simp only [choice_lk, lock_eq, R.len, R.sub]; exact g) | exact g), ?_⟩
          refine sel_intro (fun h => ?_) (fun h => ?_)
          · have h1 : (ile (128 : Int) (getB (lsub s1 0 (toN (imin (ofN (xlen s1)) (10 : Int)))) (toN i2))) = true := by first | exact h | (have h2 := h; simp only [choice_lk, lock_eq] at h2; exact h2) | (simp only [choice_lk, lock_eq] at h; exact h)
            rw [if_pos h1] at hr
            (try cbv)
            apply Hidden.out
            obtain rfl := Option.some.inj hr
            constructor
            refine ⟨⟨_, rfl⟩, ?_⟩
            rintro ⟨u0, u1⟩ e
            replace e := Sum.inl.inj e
            simp only [Prod.mk.injEq] at e
            obtain ⟨e0, e1⟩ := e
            refine le_auto hk ?_
            (try cbv); (try simp only [choice_lk, lock_eq, and_self, and_true, true_and]); (try first | exact e | exact e.symm | (and_intros <;> first | assumption | rfl | exact Eq.symm (by assumption)))
          · have h1 : (ile (128 : Int) (getB (lsub s1 0 (toN (imin (ofN (xlen s1)) (10 : Int)))) (toN i2))) = false := by first | exact h | (have h2 := h; simp only [choice_lk, lock_eq] at h2; exact h2) | (simp only [choice_lk, lock_eq] at h; exact h)
            rw [if_neg (by rw [h1]; exact Bool.false_ne_true)] at hr
            (try cbv)
            refine sel_intro (fun h => ?_) (fun h => ?_)
            · have h1 : (ieq (getB (lsub s1 0 (toN (imin (ofN (xlen s1)) (10 : Int)))) (toN i2)) (0 : Int)) = true := by first | exact h | (have h2 := h; simp only [choice_lk, lock_eq] at h2; exact h2) | (simp only [choice_lk, lock_eq] at h; exact h)
              rw [if_pos h1] at hr
              (try cbv)
              refine sel_intro (fun h => ?_) (fun h => ?_)
              · have h1 : (ilt (0 : Int) i2) = true := by first | exact h | (have h2 := h; simp only [choice_lk, lock_eq] at h2; exact h2) | (simp only [choice_lk, lock_eq] at h; exact h)
                rw [if_pos h1] at hr
                (try cbv)
                apply Hidden.out
                obtain rfl := Option.some.inj hr
                have e := ht1 _ rfl
                obtain ⟨u0, u1, u2⟩ := r
                simp only [Prod.mk.injEq] at e
                obtain ⟨e0, e1, e2⟩ := e
                constructor
                refine ⟨_, hF, ?_⟩
                (try cbv); (try simp only [choice_lk, lock_eq, and_self, and_true, true_and]); (try first | exact e | exact e.symm | (and_intros <;> first | assumption | rfl | exact Eq.symm (by assumption)))
              · have h1 : (ilt (0 : Int) i2) = false := by first | exact h | (have h2 := h; simp only [choice_lk, lock_eq] at h2; exact h2) | (simp only [choice_lk, lock_eq] at h; exact h)
                rw [if_neg (by rw [h1]; exact Bool.false_ne_true)] at hr
                (try cbv)
                apply Hidden.out
                obtain rfl := Option.some.inj hr
                have e := ht1 _ rfl
                obtain ⟨u0, u1, u2⟩ := r
                simp only [Prod.mk.injEq] at e
                obtain ⟨e0, e1, e2⟩ := e
                constructor
                refine ⟨_, hF, ?_⟩
                (try cbv); (try simp only [choice_lk, lock_eq, and_self, and_true, true_and]); (try first | exact e | exact e.symm | (and_intros <;> first | assumption | rfl | exact Eq.symm (by assumption)))
            · have h1 : (ieq (getB (lsub s1 0 (toN (imin (ofN (xlen s1)) (10 : Int)))) (toN i2)) (0 : Int)) = false := by first | exact h | (have h2 := h; simp only [choice_lk, lock_eq] at h2; exact h2) | (simp only [choice_lk, lock_eq] at h; exact h)
              rw [if_neg (by rw [h1]; exact Bool.false_ne_true)] at hr
              (try cbv)
              apply Hidden.out
              obtain rfl := Option.some.inj hr
              have e := ht1 _ rfl
              obtain ⟨u0, u1, u2⟩ := r
              simp only [Prod.mk.injEq] at e
              obtain ⟨e0, e1, e2⟩ := e
              constructor
              refine ⟨_, hF, ?_⟩
              (try cbv); (try simp only [choice_lk, lock_eq, and_self, and_true, true_and]); (try first | exact e | exact e.symm | (and_intros <;> first | assumption | rfl | exact Eq.symm (by assumption)))
      · have h1 : (ilt i2 (ofN (xlen (lsub s1 0 (toN (imin (ofN (xlen s1)) (10 : Int))))))) = false := by first | exact h | (have h2 := h; simp only [choice_lk, lock_eq] at h2; exact h2) | (simp only [choice_lk, lock_eq] at h; exact h)
        rw [if_neg (by rw [h1]; exact Bool.false_ne_true)] at hr
        (try cbv)
        refine sel_intro (fun h => ?_) (fun h => ?_)
        · have h1 : (ile (10 : Int) (ofN (xlen s1))) = true := by first | exact h | (have h2 := h; simp only [choice_lk, lock_eq] at h2; exact h2) | (simp only [choice_lk, lock_eq] at h; exact h)
          rw [if_pos h1] at hr
          (try cbv)
          apply Hidden.out
          obtain rfl := Option.some.inj hr
          have e := ht1 _ rfl
          obtain ⟨u0, u1, u2⟩ := r
          simp only [Prod.mk.injEq] at e
          obtain ⟨e0, e1, e2⟩ := e
          constructor
          refine ⟨_, hF, ?_⟩
          (try cbv); (try simp only [choice_lk, lock_eq, and_self, and_true, true_and]); (try first | exact e | exact e.symm | (and_intros <;> first | assumption | rfl | exact Eq.symm (by assumption)))
        · have h1 : (ile (10 : Int) (ofN (xlen s1))) = false := by first | exact h | (have h2 := h; simp only [choice_lk, lock_eq] at h2; exact h2) | (simp only [choice_lk, lock_eq] at h; exact h)
          rw [if_neg (by rw [h1]; exact Bool.false_ne_true)] at hr
          (try cbv)
          apply Hidden.out
          obtain rfl := Option.some.inj hr
          have e := ht1 _ rfl
          obtain ⟨u0, u1, u2⟩ := r
          simp only [Prod.mk.injEq] at e
          obtain ⟨e0, e1, e2⟩ := e
          constructor
          refine ⟨_, hF, ?_⟩
          (try cbv); (try simp only [choice_lk, lock_eq, and_self, and_true, true_and]); (try first | exact e | exact e.symm | (and_intros <;> first | assumption | rfl | exact Eq.symm (by assumption)))
end Go.Proofs.Ytknaheioedkaeaa
end
section
/-
  The walk of tollbar/varint.Take (printed by a program of ours).
-/
set_option linter.unusedVariables false
set_option linter.unusedSimpArgs false
namespace Go.Proofs.Ytknaheioedkaeaa
open Go.RowKit

noncomputable def tab_varint_Take : Nat → Option Con := look [(40, con_octet_Window_Err), (32, con_octet_Window_Left), (41, con_octet_Window_Byte), (42, con_varint_Get), (36, con_octet_Window_Bytes)]
set_option maxHeartbeats 4000000 in
set_option maxRecDepth 100000 in
theorem vc_varint_Take (P : Program) (T : Tab P tab_varint_Take) (hm : P.follows .mixedOrders = true) : FnVC P tab_varint_Take ic_33 [.t 2, .t 3] 40 con_varint_Take := by
  intro cargs ccks ce hce hob C hk
  apply Hidden.out
  replace hce : con_varint_Take_1 cargs ccks = some ce := hce
  · unfold con_varint_Take_1 at hce
    split at hce
    rotate_left
    · cases hce
    obtain rfl := Option.some.inj hce
    rename_i n1 n2 x1 s1
    have hb1 := hob _ (List.mem_singleton.2 rfl)
    have hb2 := obl.1 hb1
    clear hb1 hob hce
    refine hb2.elim fun r hF => ?_
    clear hb2
    simp only [List.length_cons, List.length_nil, Nat.zero_add, Nat.reduceAdd] at hk
    have hr : F_varint_Take_2 n1 n2 x1 s1 = some r := by rw [lock_eq] at hF; exact hF
    unfold F_varint_Take_2 at hr
    constructor
    (try cbv)
    have hqe : ∃ qq, F_octet_Window_Err_2 n1 n2 x1 s1 = some qq := by
      cases hq : F_octet_Window_Err_2 n1 n2 x1 s1 with
      | none => rw [hq] at hr; cases hr
      | some qq => exact ⟨qq, rfl⟩
    refine ⟨obl.2 (by simp only [choice_lk, lock_eq]; exact hqe), (by rintro (_) _ <;> cbv), ?_⟩
    clear hqe
    intro qq hx1
    simp only [choice_lk, lock_eq] at hx1
    rcases qq with _
    all_goals (rw [hx1] at hr; dsimp only at hr; constructor; (try cbv))
    refine sel_intro (fun h => ?_) (fun h => ?_)
    · have h1 : (ieq x1 (0 : Int)) = false := by first | exact (bnot_t.1 h) | (have h2 := (bnot_t.1 h); simp only [choice_lk, lock_eq] at h2; exact h2) | (simp only [choice_lk, lock_eq] at h; exact (bnot_t.1 h))
      rw [if_neg (by rw [h1]; exact Bool.false_ne_true)] at hr
      (try cbv)
      apply Hidden.out
      have e := Option.some.inj hr
      obtain ⟨u0, u1, u2, u3, u4⟩ := r
      simp only [Prod.mk.injEq] at e
      obtain ⟨e0, e1, e2, e3, e4⟩ := e
      constructor
      refine ⟨_, hF, ?_⟩
      (try cbv); (try simp only [choice_lk, lock_eq, and_self, and_true, true_and]); (try first | exact e | exact e.symm | (and_intros <;> first | assumption | rfl | exact Eq.symm (by assumption)))
    · as_aux_lemma =>
      have h1 : (ieq x1 (0 : Int)) = true := by first | exact (bnot_f.1 h) | (have h2 := (bnot_f.1 h); simp only [choice_lk, lock_eq] at h2; exact h2) | (simp only [choice_lk, lock_eq] at h; exact (bnot_f.1 h))
      rw [if_pos h1] at hr
      (try cbv)
      refine LoopOK.iter T (drawOK T hm) (B := (F_varint_Take_2_L1 s1 n1 n2 x1)) hr (fun | (n3, n4, i1, s2) => ⟨mkFr [(0, (.ptr 0 0)), (5, (.ptr 2 0)), (6, (.wsl 3))] 40 0, [(0, .blk 74 [(.sl 1 n1 n2), (.v (.int .i64 x1))]), (1, .row (.bs 5 s1)), (2, .blk 74 [(.sl 1 n3 n4), (.v (.int .i64 i1))]), (3, .row (.bs 5 s2))], 4⟩) ?_ ?_
      · rintro ⟨u0, u1, u2, u3⟩ e
        simp only [Prod.mk.injEq] at e
        obtain ⟨e0, e1, e2, e3⟩ := e
        refine le_auto hk ?_
        (try cbv); (try simp only [choice_lk, lock_eq, and_self, and_true, true_and]); (try first | exact e | exact e.symm | (and_intros <;> first | assumption | rfl | exact Eq.symm (by assumption)))
      · clear hr
        intro x bb1 hr ht1
        obtain ⟨n3, n4, i1, s2⟩ := x
        as_aux_lemma =>
        constructor
        unfold F_varint_Take_2_L1 at hr
        (try dsimp only at hr)
        (try cbv)
        have hqe : ∃ qq, F_octet_Window_Left_2 n3 n4 i1 s1 = some qq := by
          cases hq : F_octet_Window_Left_2 n3 n4 i1 s1 with
          | none => rw [hq] at hr; cases hr
          | some qq => exact ⟨qq, rfl⟩
        refine ⟨obl.2 (by simp only [choice_lk, lock_eq]; exact hqe), (by rintro (_) _ <;> cbv), ?_⟩
        clear hqe
        intro y10 hx8
        simp only [choice_lk, lock_eq] at hx8
        all_goals (rw [hx8] at hr; dsimp only at hr; constructor; (try cbv))
        refine sel_intro (fun h => ?_) (fun h => ?_)
        · as_aux_lemma =>
          have h1 : (ilt (0 : Int) y10) = true := by first | exact h | (have h2 := h; simp only [choice_lk, lock_eq] at h2; exact h2) | (simp only [choice_lk, lock_eq] at h; exact h)
          rw [if_pos h1] at hr
          (try cbv)
          refine sel_intro (fun h => ?_) (fun h => ?_)
          · have h1 : (ilt (ofN (xlen s2)) (10 : Int)) = true := by first | exact h | (have h2 := h; simp only [choice_lk, lock_eq] at h2; exact h2) | (simp only [choice_lk, lock_eq] at h; exact h)
            rw [if_pos h1] at hr
            (try cbv)
            have hqe : ∃ qq, F_octet_Window_Byte_2 n3 n4 i1 s1 = some qq := by
              cases hq : F_octet_Window_Byte_2 n3 n4 i1 s1 with
              | none => rw [hq] at hr; cases hr
              | some qq => exact ⟨qq, rfl⟩
            refine ⟨obl.2 (by simp only [choice_lk, lock_eq]; exact hqe), (by rintro (⟨_, _, _, _⟩) _ <;> cbv), ?_⟩
            clear hqe
            intro qq hx9
            simp only [choice_lk, lock_eq] at hx9
            rcases qq with ⟨y11, k7, k8, y12⟩
            all_goals (rw [hx9] at hr; dsimp only at hr; constructor; (try cbv))
            have gg := guard_inv hr
            have g := gg.1
            replace hr := gg.2
            clear gg
            refine ⟨obl.2 (by first | (simp only [choice_lk, lock_eq, R.len, R.sub]; exact g) | exact g), ?_⟩
            have gg := guard_inv hr
            have g := gg.1
            replace hr := gg.2
            clear gg
            refine ⟨obl.2 (by first | (simp only [choice_lk, lock_eq, R.len, R.sub]; exact g) | exact g), ?_⟩
            apply Hidden.out
            obtain rfl := Option.some.inj hr
            constructor
            refine ⟨⟨_, rfl⟩, ?_⟩
            rintro ⟨u0, u1, u2, u3⟩ e
            replace e := Sum.inl.inj e
            simp only [Prod.mk.injEq] at e
            obtain ⟨e0, e1, e2, e3⟩ := e
            refine le_auto hk ?_
            (try cbv); (try simp only [choice_lk, lock_eq, and_self, and_true, true_and]); (try first | exact e | exact e.symm | (and_intros <;> first | assumption | rfl | exact Eq.symm (by assumption)))
          · have h1 : (ilt (ofN (xlen s2)) (10 : Int)) = false := by first | exact h | (have h2 := h; simp only [choice_lk, lock_eq] at h2; exact h2) | (simp only [choice_lk, lock_eq] at h; exact h)
            rw [if_neg (by rw [h1]; exact Bool.false_ne_true)] at hr
            (try cbv)
            have hqe : ∃ qq, F_varint_Get s2 = some qq := by
              cases hq : F_varint_Get s2 with
              | none => rw [hq] at hr; cases hr
              | some qq => exact ⟨qq, rfl⟩
            refine ⟨obl.2 (by simp only [choice_lk, lock_eq]; exact hqe), (by rintro (⟨_, _, _⟩) _ <;> cbv), ?_⟩
            clear hqe
            intro qq hx10
            simp only [choice_lk, lock_eq] at hx10
            rcases qq with ⟨y13, y14, y15⟩
            all_goals (rw [hx10] at hr; dsimp only at hr; constructor; (try cbv))
            have hqe : ∃ qq, F_octet_Window_Bytes_2 y14 n1 n2 x1 s1 = some qq := by
              cases hq : F_octet_Window_Bytes_2 y14 n1 n2 x1 s1 with
              | none => rw [hq] at hr; cases hr
              | some qq => exact ⟨qq, rfl⟩
            refine ⟨obl.2 (by simp only [choice_lk, lock_eq]; exact hqe), (by rintro (⟨_, _, _, _⟩) _ <;> cbv), ?_⟩
            clear hqe
            intro qq hx11
            simp only [choice_lk, lock_eq] at hx11
            rcases qq with ⟨k9, k10, y16, t1⟩
            all_goals (rw [hx11] at hr; dsimp only at hr; constructor; (try cbv))
            apply Hidden.out
            obtain rfl := Option.some.inj hr
            have e := ht1 _ rfl
            obtain ⟨u0, u1, u2, u3, u4⟩ := r
            simp only [Prod.mk.injEq] at e
            obtain ⟨e0, e1, e2, e3, e4⟩ := e
            constructor
            refine ⟨_, hF, ?_⟩
            (try cbv); (try simp only [choice_lk, lock_eq, and_self, and_true, true_and]); (try first | exact e | exact e.symm | (and_intros <;> first | assumption | rfl | exact Eq.symm (by assumption)))
        · have h1 : (ilt (0 : Int) y10) = false := by first | exact h | (have h2 := h; simp only [choice_lk, lock_eq] at h2; exact h2) | (simp only [choice_lk, lock_eq] at h; exact h)
          rw [if_neg (by rw [h1]; exact Bool.false_ne_true)] at hr
          (try cbv)
          have hqe : ∃ qq, F_varint_Get s2 = some qq := by
            cases hq : F_varint_Get s2 with
            | none => rw [hq] at hr; cases hr
            | some qq => exact ⟨qq, rfl⟩
          refine ⟨obl.2 (by simp only [choice_lk, lock_eq]; exact hqe), (by rintro (⟨_, _, _⟩) _ <;> cbv), ?_⟩
          clear hqe
          intro qq hx12
          simp only [choice_lk, lock_eq] at hx12
          rcases qq with ⟨y17, y18, y19⟩
          all_goals (rw [hx12] at hr; dsimp only at hr; constructor; (try cbv))
          have hqe : ∃ qq, F_octet_Window_Bytes_2 y18 n1 n2 x1 s1 = some qq := by
            cases hq : F_octet_Window_Bytes_2 y18 n1 n2 x1 s1 with
            | none => rw [hq] at hr; cases hr
            | some qq => exact ⟨qq, rfl⟩
          refine ⟨obl.2 (by simp only [choice_lk, lock_eq]; exact hqe), (by rintro (⟨_, _, _, _⟩) _ <;> cbv), ?_⟩
          clear hqe
          intro qq hx13
          simp only [choice_lk, lock_eq] at hx13
          rcases qq with ⟨k11, k12, y20, t2⟩
          all_goals (rw [hx13] at hr; dsimp only at hr; constructor; (try cbv))
          apply Hidden.out
          obtain rfl := Option.some.inj hr
          have e := ht1 _ rfl
          obtain ⟨u0, u1, u2, u3, u4⟩ := r
          simp only [Prod.mk.injEq] at e
          obtain ⟨e0, e1, e2, e3, e4⟩ := e
          constructor
          refine ⟨_, hF, ?_⟩
          (try cbv); (try simp only [choice_lk, lock_eq, and_self, and_true, true_and]); (try first | exact e | exact e.symm | (and_intros <;> first | assumption | rfl | exact Eq.symm (by assumption)))
end Go.Proofs.Ytknaheioedkaeaa
end
section
/-
  The walk of (*tollbar/tlv.reader).fail (printed by a program of ours).
-/
set_option linter.unusedVariables false
set_option linter.unusedSimpArgs false
namespace Go.Proofs.Ytknaheioedkaeaa
open Go.RowKit

noncomputable def tab_tlv_reader_fail : Nat → Option Con := look []
set_option maxHeartbeats 4000000 in
set_option maxRecDepth 100000 in
theorem vc_tlv_reader_fail (P : Program) (T : Tab P tab_tlv_reader_fail) (hm : P.follows .mixedOrders = true) : FnVC P tab_tlv_reader_fail ic_34 [] 23 con_tlv_reader_fail := by
  intro cargs ccks ce hce hob C hk
  apply Hidden.out
  replace hce : con_tlv_reader_fail_1 cargs ccks = some ce := hce
  · unfold con_tlv_reader_fail_1 at hce
    split at hce
    rotate_left
    · cases hce
    obtain rfl := Option.some.inj hce
    rename_i x1 x2 x3 x4
    have hb1 := hob _ (List.mem_singleton.2 rfl)
    have hb2 := obl.1 hb1
    clear hb1 hob hce
    refine hb2.elim fun r hF => ?_
    clear hb2
    simp only [List.length_cons, List.length_nil, Nat.zero_add, Nat.reduceAdd] at hk
    have hr : F_tlv_reader_fail x1 x2 x3 x4 = some r := by rw [lock_eq] at hF; exact hF
    unfold F_tlv_reader_fail at hr
    constructor
    (try cbv)
    refine sel_intro (fun h => ?_) (fun h => ?_)
    · have h1 : (ieq x3 (0 : Int)) = true := by first | exact h | (have h2 := h; simp only [choice_lk, lock_eq] at h2; exact h2) | (simp only [choice_lk, lock_eq] at h; exact h)
      rw [if_pos h1] at hr
      (try cbv)
      refine sel_intro (fun h => ?_) (fun h => ?_)
      · have h1 : (ieq x1 (0 : Int)) = false := by first | exact (bnot_t.1 h) | (have h2 := (bnot_t.1 h); simp only [choice_lk, lock_eq] at h2; exact h2) | (simp only [choice_lk, lock_eq] at h; exact (bnot_t.1 h))
        rw [if_neg (by rw [h1]; exact Bool.false_ne_true)] at hr
        (try cbv)
        apply Hidden.out
        have e := Option.some.inj hr
        obtain ⟨u0, u1⟩ := r
        simp only [Prod.mk.injEq] at e
        obtain ⟨e0, e1⟩ := e
        constructor
        refine ⟨_, hF, ?_⟩
        (try cbv); (try simp only [choice_lk, lock_eq, and_self, and_true, true_and]); (try first | exact e | exact e.symm | (and_intros <;> first | assumption | rfl | exact Eq.symm (by assumption)))
      · have h1 : (ieq x1 (0 : Int)) = true := by first | exact (bnot_f.1 h) | (have h2 := (bnot_f.1 h); simp only [choice_lk, lock_eq] at h2; exact h2) | (simp only [choice_lk, lock_eq] at h; exact (bnot_f.1 h))
        rw [if_pos h1] at hr
        (try cbv)
        apply Hidden.out
        have e := Option.some.inj hr
        obtain ⟨u0, u1⟩ := r
        simp only [Prod.mk.injEq] at e
        obtain ⟨e0, e1⟩ := e
        constructor
        refine ⟨_, hF, ?_⟩
        (try cbv); (try simp only [choice_lk, lock_eq, and_self, and_true, true_and]); (try first | exact e | exact e.symm | (and_intros <;> first | assumption | rfl | exact Eq.symm (by assumption)))
    · have h1 : (ieq x3 (0 : Int)) = false := by first | exact h | (have h2 := h; simp only [choice_lk, lock_eq] at h2; exact h2) | (simp only [choice_lk, lock_eq] at h; exact h)
      rw [if_neg (by rw [h1]; exact Bool.false_ne_true)] at hr
      (try cbv)
      apply Hidden.out
      have e := Option.some.inj hr
      obtain ⟨u0, u1⟩ := r
      simp only [Prod.mk.injEq] at e
      obtain ⟨e0, e1⟩ := e
      constructor
      refine ⟨_, hF, ?_⟩
      (try cbv); (try simp only [choice_lk, lock_eq, and_self, and_true, true_and]); (try first | exact e | exact e.symm | (and_intros <;> first | assumption | rfl | exact Eq.symm (by assumption)))
end Go.Proofs.Ytknaheioedkaeaa
end
section
/-
  The walk of (*tollbar/octet.Window).Sub (printed by a program of ours).
-/
set_option linter.unusedVariables false
set_option linter.unusedSimpArgs false
namespace Go.Proofs.Ytknaheioedkaeaa
open Go.RowKit

noncomputable def tab_octet_Window_Sub : Nat → Option Con := look [(36, con_octet_Window_Bytes), (40, con_octet_Window_Err)]
set_option maxHeartbeats 4000000 in
set_option maxRecDepth 100000 in
theorem vc_octet_Window_Sub (P : Program) (T : Tab P tab_octet_Window_Sub) (hm : P.follows .mixedOrders = true) : FnVC P tab_octet_Window_Sub ic_35 [.t 4] 14 con_octet_Window_Sub := by
  intro cargs ccks ce hce hob C hk
  apply Hidden.out
  replace hce : con_octet_Window_Sub_1 cargs ccks = some ce := hce
  · unfold con_octet_Window_Sub_1 at hce
    split at hce
    rotate_left
    · cases hce
    obtain rfl := Option.some.inj hce
    rename_i x1 n1 n2 x2 s1
    have hb1 := hob _ (List.mem_singleton.2 rfl)
    have hb2 := obl.1 hb1
    clear hb1 hob hce
    refine hb2.elim fun r hF => ?_
    clear hb2
    simp only [List.length_cons, List.length_nil, Nat.zero_add, Nat.reduceAdd] at hk
    have hr : F_octet_Window_Sub x1 n1 n2 x2 s1 = some r := by rw [lock_eq] at hF; exact hF
    unfold F_octet_Window_Sub at hr
    constructor
    (try cbv)
    have hqe : ∃ qq, F_octet_Window_Bytes_2 x1 n1 n2 x2 s1 = some qq := by
      cases hq : F_octet_Window_Bytes_2 x1 n1 n2 x2 s1 with
      | none => rw [hq] at hr; cases hr
      | some qq => exact ⟨qq, rfl⟩
    refine ⟨obl.2 (by simp only [choice_lk, lock_eq]; exact hqe), (by rintro (⟨_, _, _, _⟩) _ <;> cbv), ?_⟩
    clear hqe
    intro qq hx1
    simp only [choice_lk, lock_eq] at hx1
    rcases qq with ⟨k1, k2, y1, t1⟩
    all_goals (rw [hx1] at hr; dsimp only at hr; constructor; (try cbv))
    have hqe : ∃ qq, F_octet_Window_Err_2 k1 k2 y1 s1 = some qq := by
      cases hq : F_octet_Window_Err_2 k1 k2 y1 s1 with
      | none => rw [hq] at hr; cases hr
      | some qq => exact ⟨qq, rfl⟩
    refine ⟨obl.2 (by simp only [choice_lk, lock_eq]; exact hqe), (by rintro (_) _ <;> cbv), ?_⟩
    clear hqe
    intro qq hx2
    simp only [choice_lk, lock_eq] at hx2
    rcases qq with _
    all_goals (rw [hx2] at hr; dsimp only at hr; constructor; (try cbv))
    apply Hidden.out
    have e := Option.some.inj hr
    obtain ⟨u0, u1, u2, u3, u4⟩ := r
    simp only [Prod.mk.injEq] at e
    obtain ⟨e0, e1, e2, e3, e4⟩ := e
    constructor
    refine ⟨_, hF, ?_⟩
    (try cbv); (try simp only [choice_lk, lock_eq, and_self, and_true, true_and]); (try first | exact e | exact e.symm | (and_intros <;> first | assumption | rfl | exact Eq.symm (by assumption)))
end Go.Proofs.Ytknaheioedkaeaa
end
section
/-
  The walk of (*tollbar/tlv.reader).items (printed by a program of ours).
-/
set_option linter.unusedVariables false
set_option linter.unusedSimpArgs false
namespace Go.Proofs.Ytknaheioedkaeaa
open Go.RowKit

noncomputable def tab_tlv_reader_itemsG (gn : Nat) : Nat → Option Con := look [(27, con_tlv_reader_itemsG gn), (32, con_octet_Window_Left), (33, con_varint_Take), (34, con_tlv_reader_fail), (31, con_tlv_Item_odd), (35, con_octet_Window_Sub), (36, con_octet_Window_Bytes)]
set_option maxHeartbeats 4000000 in
set_option maxRecDepth 100000 in
theorem vc_tlv_reader_itemsG (P : Program) (gn : Nat) (T : Tab P (tab_tlv_reader_itemsG gn)) (hm : P.follows .mixedOrders = true) : FnVC P (tab_tlv_reader_itemsG gn) ic_27 [.t 8] 102 (con_tlv_reader_itemsG (gn + 1)) := by
  intro cargs ccks ce hce hob C hk
  apply Hidden.out
  replace hce : con_tlv_reader_itemsG_1 (gn + 1) cargs ccks = some ce := hce
  · unfold con_tlv_reader_itemsG_1 at hce
    split at hce
    rotate_left
    · cases hce
    obtain rfl := Option.some.inj hce
    rename_i x1 x2 x3 x4 x5 s1
    have hb1 := hob _ (List.mem_singleton.2 rfl)
    have hb2 := obl.1 hb1
    clear hb1 hob hce
    refine hb2.elim fun r hF => ?_
    clear hb2
    simp only [List.length_cons, List.length_nil, Nat.zero_add, Nat.reduceAdd] at hk
    have hr : B_tlv_reader_items (G_tlv_reader_items gn) x1 x2 x3 x4 x5 s1 = some r := by rw [lock_eq] at hF; exact hF
    unfold B_tlv_reader_items at hr
    constructor
    (try cbv)
    refine LoopOK.iter T (drawOK T hm) (B := (F_tlv_reader_items_L1 (G_tlv_reader_items gn) s1 x1 x2)) hr (fun | (i1, i2, n1, n2, i3, r1) => ⟨mkFr [(0, (.ptr 0 0)), (1, (.ptr 1 0)), (2, (.v (.int .i64 x1))), (3, (.v (.int .i64 x2))), (9, (.wsl 3))] 102 0, [(0, .blk 59 [(.v (.int .i64 i1)), (.v (.int .i64 i2))]), (1, .blk 74 [(.sl 2 n1 n2), (.v (.int .i64 i3))]), (2, .row (.bs 5 s1)), (3, .row (.row 46 (.st [(.int .u64), (.bytes 5), (.self 46)]) r1))], 4⟩) ?_ ?_
    · rintro ⟨u0, u1, u2, u3, u4, u5⟩ e
      simp only [Prod.mk.injEq] at e
      obtain ⟨e0, e1, e2, e3, e4, e5⟩ := e
      refine le_auto hk ?_
      (try cbv); (try simp only [choice_lk, lock_eq, and_self, and_true, true_and]); (try first | exact e | exact e.symm | (and_intros <;> first | assumption | rfl | exact Eq.symm (by assumption)))
    · clear hr
      intro x bb1 hr ht1
      obtain ⟨i1, i2, n1, n2, i3, r1⟩ := x
      as_aux_lemma =>
      constructor
      unfold F_tlv_reader_items_L1 at hr
      (try dsimp only at hr)
      (try cbv)
      have hqe : ∃ qq, F_octet_Window_Left_2 n1 n2 i3 s1 = some qq := by
        cases hq : F_octet_Window_Left_2 n1 n2 i3 s1 with
        | none => rw [hq] at hr; cases hr
        | some qq => exact ⟨qq, rfl⟩
      refine ⟨obl.2 (by simp only [choice_lk, lock_eq]; exact hqe), (by rintro (_) _ <;> cbv), ?_⟩
      clear hqe
      intro y130 hx85
      simp only [choice_lk, lock_eq] at hx85
      all_goals (rw [hx85] at hr; dsimp only at hr; constructor; (try cbv))
      refine sel_intro (fun h => ?_) (fun h => ?_)
      · as_aux_lemma =>
        have h1 : (ilt (0 : Int) y130) = true := by first | exact h | (have h2 := h; simp only [choice_lk, lock_eq] at h2; exact h2) | (simp only [choice_lk, lock_eq] at h; exact h)
        rw [if_pos h1] at hr
        (try cbv)
        refine sel_intro (fun h => ?_) (fun h => ?_)
        · as_aux_lemma =>
          have h1 : (ieq i1 (0 : Int)) = true := by first | exact h | (have h2 := h; simp only [choice_lk, lock_eq] at h2; exact h2) | (simp only [choice_lk, lock_eq] at h; exact h)
          rw [if_pos h1] at hr
          (try cbv)
          refine ⟨obl.2 (by simp only [choice_lk, lock_eq]; exact ⟨_, hx85⟩), (by rintro (_) _ <;> cbv), ?_⟩
          intro qq hx
          simp only [choice_lk, lock_eq] at hx
          obtain rfl := Option.some.inj (hx85.symm.trans hx)
          constructor
          (try cbv)
          have hqe : ∃ qq, F_varint_Take_2 n1 n2 i3 s1 = some qq := by
            cases hq : F_varint_Take_2 n1 n2 i3 s1 with
            | none => rw [hq] at hr; cases hr
            | some qq => exact ⟨qq, rfl⟩
          refine ⟨obl.2 (by simp only [choice_lk, lock_eq]; exact hqe), (by rintro (⟨_, _, _, _, _⟩) _ <;> cbv), ?_⟩
          clear hqe
          intro qq hx87
          simp only [choice_lk, lock_eq] at hx87
          rcases qq with ⟨y131, y132, k85, k86, y133⟩
          all_goals (rw [hx87] at hr; dsimp only at hr; constructor; (try cbv))
          have hqe : ∃ qq, F_tlv_reader_fail y132 (isub .i64 x1 y130) i1 i2 = some qq := by
            cases hq : F_tlv_reader_fail y132 (isub .i64 x1 y130) i1 i2 with
            | none => rw [hq] at hr; cases hr
            | some qq => exact ⟨qq, rfl⟩
          refine ⟨obl.2 (by simp only [choice_lk, lock_eq]; exact hqe), (by rintro (⟨_, _⟩) _ <;> cbv), ?_⟩
          clear hqe
          intro qq hx88
          simp only [choice_lk, lock_eq] at hx88
          rcases qq with ⟨y134, y135⟩
          all_goals (rw [hx88] at hr; dsimp only at hr; constructor; (try cbv))
          have hqe : ∃ qq, F_octet_Window_Left_2 k85 k86 y133 s1 = some qq := by
            cases hq : F_octet_Window_Left_2 k85 k86 y133 s1 with
            | none => rw [hq] at hr; cases hr
            | some qq => exact ⟨qq, rfl⟩
          refine ⟨obl.2 (by simp only [choice_lk, lock_eq]; exact hqe), (by rintro (_) _ <;> cbv), ?_⟩
          clear hqe
          intro y136 hx89
          simp only [choice_lk, lock_eq] at hx89
          all_goals (rw [hx89] at hr; dsimp only at hr; constructor; (try cbv))
          have hqe : ∃ qq, F_varint_Take_2 k85 k86 y133 s1 = some qq := by
            cases hq : F_varint_Take_2 k85 k86 y133 s1 with
            | none => rw [hq] at hr; cases hr
            | some qq => exact ⟨qq, rfl⟩
          refine ⟨obl.2 (by simp only [choice_lk, lock_eq]; exact hqe), (by rintro (⟨_, _, _, _, _⟩) _ <;> cbv), ?_⟩
          clear hqe
          intro qq hx90
          simp only [choice_lk, lock_eq] at hx90
          rcases qq with ⟨y137, y138, k87, k88, y139⟩
          all_goals (rw [hx90] at hr; dsimp only at hr; constructor; (try cbv))
          have hqe : ∃ qq, F_tlv_reader_fail y138 (isub .i64 x1 y136) y134 y135 = some qq := by
            cases hq : F_tlv_reader_fail y138 (isub .i64 x1 y136) y134 y135 with
            | none => rw [hq] at hr; cases hr
            | some qq => exact ⟨qq, rfl⟩
          refine ⟨obl.2 (by simp only [choice_lk, lock_eq]; exact hqe), (by rintro (⟨_, _⟩) _ <;> cbv), ?_⟩
          clear hqe
          intro qq hx91
          simp only [choice_lk, lock_eq] at hx91
          rcases qq with ⟨y140, y141⟩
          all_goals (rw [hx91] at hr; dsimp only at hr; constructor; (try cbv))
          have hqe : ∃ qq, F_octet_Window_Left_2 k87 k88 y139 s1 = some qq := by
            cases hq : F_octet_Window_Left_2 k87 k88 y139 s1 with
            | none => rw [hq] at hr; cases hr
            | some qq => exact ⟨qq, rfl⟩
          refine ⟨obl.2 (by simp only [choice_lk, lock_eq]; exact hqe), (by rintro (_) _ <;> cbv), ?_⟩
          clear hqe
          intro y142 hx92
          simp only [choice_lk, lock_eq] at hx92
          all_goals (rw [hx92] at hr; dsimp only at hr; constructor; (try cbv))
          refine ⟨obl.2 (by simp only [choice_lk, lock_eq]; exact ⟨_, hx92⟩), (by rintro (_) _ <;> cbv), ?_⟩
          intro qq hx
          simp only [choice_lk, lock_eq] at hx
          obtain rfl := Option.some.inj (hx92.symm.trans hx)
          constructor
          (try cbv)
          refine sel_intro (fun h => ?_) (fun h => ?_)
          · as_aux_lemma =>
            have h1 : (ilt (iconv .u64 y142) y137) = true := by first | exact h | (have h2 := h; simp only [choice_lk, lock_eq] at h2; exact h2) | (simp only [choice_lk, lock_eq] at h; exact h)
            rw [if_pos h1] at hr
            (try cbv)
            have hqe : ∃ qq, F_tlv_reader_fail (10 : Int) (isub .i64 x1 y142) y140 y141 = some qq := by
              cases hq : F_tlv_reader_fail (10 : Int) (isub .i64 x1 y142) y140 y141 with
              | none => rw [hq] at hr; cases hr
              | some qq => exact ⟨qq, rfl⟩
            refine ⟨obl.2 (by simp only [choice_lk, lock_eq]; exact hqe), (by rintro (⟨_, _⟩) _ <;> cbv), ?_⟩
            clear hqe
            intro qq hx94
            simp only [choice_lk, lock_eq] at hx94
            rcases qq with ⟨y143, y144⟩
            all_goals (rw [hx94] at hr; dsimp only at hr; constructor; (try cbv))
            refine sel_intro (fun h => ?_) (fun h => ?_)
            · as_aux_lemma =>
              have h1 : (ilt (6 : Int) x2) = true := by first | exact h | (have h2 := h; simp only [choice_lk, lock_eq] at h2; exact h2) | (simp only [choice_lk, lock_eq] at h; exact h)
              rw [if_pos h1] at hr
              (try cbv)
              have hqe : ∃ qq, F_tlv_reader_fail (13 : Int) (isub .i64 x1 y130) y143 y144 = some qq := by
                cases hq : F_tlv_reader_fail (13 : Int) (isub .i64 x1 y130) y143 y144 with
                | none => rw [hq] at hr; cases hr
                | some qq => exact ⟨qq, rfl⟩
              refine ⟨obl.2 (by simp only [choice_lk, lock_eq]; exact hqe), (by rintro (⟨_, _⟩) _ <;> cbv), ?_⟩
              clear hqe
              intro qq hx95
              simp only [choice_lk, lock_eq] at hx95
              rcases qq with ⟨y145, y146⟩
              all_goals (rw [hx95] at hr; dsimp only at hr; constructor; (try cbv))
              refine sel_intro (fun h => ?_) (fun h => ?_)
              · have h1 : (ieq y145 (0 : Int)) = false := by first | exact (bnot_t.1 h) | (have h2 := (bnot_t.1 h); simp only [choice_lk, lock_eq] at h2; exact h2) | (simp only [choice_lk, lock_eq] at h; exact (bnot_t.1 h))
                rw [if_neg (by rw [h1]; exact Bool.false_ne_true)] at hr
                (try cbv)
                apply Hidden.out
                obtain rfl := Option.some.inj hr
                have e := ht1 _ rfl
                obtain ⟨u0, u1, u2, u3, u4, u5⟩ := r
                simp only [Prod.mk.injEq] at e
                obtain ⟨e0, e1, e2, e3, e4, e5⟩ := e
                constructor
                refine ⟨_, hF, ?_⟩
                (try cbv); (try simp only [choice_lk, lock_eq, and_self, and_true, true_and]); (try first | exact e | exact e.symm | (and_intros <;> first | assumption | rfl | exact Eq.symm (by assumption)))
              · as_aux_lemma =>
                have h1 : (ieq y145 (0 : Int)) = true := by first | exact (bnot_f.1 h) | (have h2 := (bnot_f.1 h); simp only [choice_lk, lock_eq] at h2; exact h2) | (simp only [choice_lk, lock_eq] at h; exact (bnot_f.1 h))
                rw [if_pos h1] at hr
                (try cbv)
                have hqe : ∃ qq, F_tlv_Item_odd_2 y131 = some qq := by
                  cases hq : F_tlv_Item_odd_2 y131 with
                  | none => rw [hq] at hr; cases hr
                  | some qq => exact ⟨qq, rfl⟩
                refine ⟨obl.2 (by simp only [choice_lk, lock_eq]; exact hqe), (by rintro (_) _ <;> cbv), ?_⟩
                clear hqe
                intro c13 hx96
                simp only [choice_lk, lock_eq] at hx96
                all_goals (rw [hx96] at hr; dsimp only at hr; constructor; (try cbv))
                refine sel_intro (fun h => ?_) (fun h => ?_)
                · have h1 : c13 = true := by first | exact h | (have h2 := h; simp only [choice_lk, lock_eq] at h2; exact h2) | (simp only [choice_lk, lock_eq] at h; exact h)
                  rw [if_pos h1] at hr
                  (try cbv)
                  have hqe : ∃ qq, F_octet_Window_Sub (iconv .i64 y137) k87 k88 y139 s1 = some qq := by
                    cases hq : F_octet_Window_Sub (iconv .i64 y137) k87 k88 y139 s1 with
                    | none => rw [hq] at hr; cases hr
                    | some qq => exact ⟨qq, rfl⟩
                  refine ⟨obl.2 (by simp only [choice_lk, lock_eq]; exact hqe), (by rintro (⟨_, _, _, _, _⟩) _ <;> cbv), ?_⟩
                  clear hqe
                  intro qq hx97
                  simp only [choice_lk, lock_eq] at hx97
                  rcases qq with ⟨k89, k90, y147, y148, t25⟩
                  all_goals (rw [hx97] at hr; dsimp only at hr; constructor; (try cbv))
                  have hqe : ∃ qq, G_tlv_reader_items gn (iadd .i64 (isub .i64 x1 y142) (iconv .i64 y137)) (iadd .i64 x2 (1 : Int)) y145 y146 y148 t25 = some qq := by
                    cases hq : G_tlv_reader_items gn (iadd .i64 (isub .i64 x1 y142) (iconv .i64 y137)) (iadd .i64 x2 (1 : Int)) y145 y146 y148 t25 with
                    | none => rw [hq] at hr; cases hr
                    | some qq => exact ⟨qq, rfl⟩
                  refine ⟨obl.2 (by simp only [choice_lk, lock_eq]; exact hqe), (by rintro (⟨_, _, _, _, _, _⟩) _ <;> cbv), ?_⟩
                  clear hqe
                  intro qq hx98
                  simp only [choice_lk, lock_eq] at hx98
                  rcases qq with ⟨q13, y149, y150, k91, k92, y151⟩
                  all_goals (rw [hx98] at hr; dsimp only at hr; constructor; (try cbv))
                  have gg := guard_inv hr
                  have g := gg.1
                  replace hr := gg.2
                  clear gg
                  refine ⟨obl.2 (by first | (simp only [choice_lk, lock_eq, R.len, R.sub]; exact g) | exact g), ?_⟩
                  apply Hidden.out
                  obtain rfl := Option.some.inj hr
                  constructor
                  refine ⟨⟨_, rfl⟩, ?_⟩
                  rintro ⟨u0, u1, u2, u3, u4, u5⟩ e
                  replace e := Sum.inl.inj e
                  simp only [Prod.mk.injEq] at e
                  obtain ⟨e0, e1, e2, e3, e4, e5⟩ := e
                  refine le_auto hk ?_
                  (try cbv); (try simp only [choice_lk, lock_eq, and_self, and_true, true_and]); (try first | exact e | exact e.symm | (and_intros <;> first | assumption | rfl | exact Eq.symm (by assumption)))
                · have h1 : c13 = false := by first | exact h | (have h2 := h; simp only [choice_lk, lock_eq] at h2; exact h2) | (simp only [choice_lk, lock_eq] at h; exact h)
                  rw [if_neg (by rw [h1]; exact Bool.false_ne_true)] at hr
                  (try cbv)
                  have hqe : ∃ qq, F_octet_Window_Bytes_2 (iconv .i64 y137) k87 k88 y139 s1 = some qq := by
                    cases hq : F_octet_Window_Bytes_2 (iconv .i64 y137) k87 k88 y139 s1 with
                    | none => rw [hq] at hr; cases hr
                    | some qq => exact ⟨qq, rfl⟩
                  refine ⟨obl.2 (by simp only [choice_lk, lock_eq]; exact hqe), (by rintro (⟨_, _, _, _⟩) _ <;> cbv), ?_⟩
                  clear hqe
                  intro qq hx99
                  simp only [choice_lk, lock_eq] at hx99
                  rcases qq with ⟨k93, k94, y152, t26⟩
                  all_goals (rw [hx99] at hr; dsimp only at hr; constructor; (try cbv))
                  have gg := guard_inv hr
                  have g := gg.1
                  replace hr := gg.2
                  clear gg
                  refine ⟨obl.2 (by first | (simp only [choice_lk, lock_eq, R.len, R.sub]; exact g) | exact g), ?_⟩
                  apply Hidden.out
                  obtain rfl := Option.some.inj hr
                  constructor
                  refine ⟨⟨_, rfl⟩, ?_⟩
                  rintro ⟨u0, u1, u2, u3, u4, u5⟩ e
                  replace e := Sum.inl.inj e
                  simp only [Prod.mk.injEq] at e
                  obtain ⟨e0, e1, e2, e3, e4, e5⟩ := e
                  refine le_auto hk ?_
                  (try cbv); (try simp only [choice_lk, lock_eq, and_self, and_true, true_and]); (try first | exact e | exact e.symm | (and_intros <;> first | assumption | rfl | exact Eq.symm (by assumption)))
            · as_aux_lemma =>
              have h1 : (ilt (6 : Int) x2) = false := by first | exact h | (have h2 := h; simp only [choice_lk, lock_eq] at h2; exact h2) | (simp only [choice_lk, lock_eq] at h; exact h)
              rw [if_neg (by rw [h1]; exact Bool.false_ne_true)] at hr
              (try cbv)
              refine sel_intro (fun h => ?_) (fun h => ?_)
              · have h1 : (ieq y143 (0 : Int)) = false := by first | exact (bnot_t.1 h) | (have h2 := (bnot_t.1 h); simp only [choice_lk, lock_eq] at h2; exact h2) | (simp only [choice_lk, lock_eq] at h; exact (bnot_t.1 h))
                rw [if_neg (by rw [h1]; exact Bool.false_ne_true)] at hr
                (try cbv)
                apply Hidden.out
                obtain rfl := Option.some.inj hr
                have e := ht1 _ rfl
                obtain ⟨u0, u1, u2, u3, u4, u5⟩ := r
                simp only [Prod.mk.injEq] at e
                obtain ⟨e0, e1, e2, e3, e4, e5⟩ := e
                constructor
                refine ⟨_, hF, ?_⟩
                (try cbv); (try simp only [choice_lk, lock_eq, and_self, and_true, true_and]); (try first | exact e | exact e.symm | (and_intros <;> first | assumption | rfl | exact Eq.symm (by assumption)))
              · as_aux_lemma =>
                have h1 : (ieq y143 (0 : Int)) = true := by first | exact (bnot_f.1 h) | (have h2 := (bnot_f.1 h); simp only [choice_lk, lock_eq] at h2; exact h2) | (simp only [choice_lk, lock_eq] at h; exact (bnot_f.1 h))
                rw [if_pos h1] at hr
                (try cbv)
                have hqe : ∃ qq, F_tlv_Item_odd_2 y131 = some qq := by
                  cases hq : F_tlv_Item_odd_2 y131 with
                  | none => rw [hq] at hr; cases hr
                  | some qq => exact ⟨qq, rfl⟩
                refine ⟨obl.2 (by simp only [choice_lk, lock_eq]; exact hqe), (by rintro (_) _ <;> cbv), ?_⟩
                clear hqe
                intro c14 hx100
                simp only [choice_lk, lock_eq] at hx100
                all_goals (rw [hx100] at hr; dsimp only at hr; constructor; (try cbv))
                refine sel_intro (fun h => ?_) (fun h => ?_)
                · have h1 : c14 = true := by first | exact h | (have h2 := h; simp only [choice_lk, lock_eq] at h2; exact h2) | (simp only [choice_lk, lock_eq] at h; exact h)
                  rw [if_pos h1] at hr
                  (try cbv)
                  have hqe : ∃ qq, F_octet_Window_Sub (iconv .i64 y137) k87 k88 y139 s1 = some qq := by
                    cases hq : F_octet_Window_Sub (iconv .i64 y137) k87 k88 y139 s1 with
                    | none => rw [hq] at hr; cases hr
                    | some qq => exact ⟨qq, rfl⟩
                  refine ⟨obl.2 (by simp only [choice_lk, lock_eq]; exact hqe), (by rintro (⟨_, _, _, _, _⟩) _ <;> cbv), ?_⟩
                  clear hqe
                  intro qq hx101
                  simp only [choice_lk, lock_eq] at hx101
                  rcases qq with ⟨k95, k96, y153, y154, t27⟩
                  all_goals (rw [hx101] at hr; dsimp only at hr; constructor; (try cbv))
                  have hqe : ∃ qq, G_tlv_reader_items gn (iadd .i64 (isub .i64 x1 y142) (iconv .i64 y137)) (iadd .i64 x2 (1 : Int)) y143 y144 y154 t27 = some qq := by
                    cases hq : G_tlv_reader_items gn (iadd .i64 (isub .i64 x1 y142) (iconv .i64 y137)) (iadd .i64 x2 (1 : Int)) y143 y144 y154 t27 with
                    | none => rw [hq] at hr; cases hr
                    | some qq => exact ⟨qq, rfl⟩
                  refine ⟨obl.2 (by simp only [choice_lk, lock_eq]; exact hqe), (by rintro (⟨_, _, _, _, _, _⟩) _ <;> cbv), ?_⟩
                  clear hqe
                  intro qq hx102
                  simp only [choice_lk, lock_eq] at hx102
                  rcases qq with ⟨q14, y155, y156, k97, k98, y157⟩
                  all_goals (rw [hx102] at hr; dsimp only at hr; constructor; (try cbv))
                  have gg := guard_inv hr
                  have g := gg.1
                  replace hr := gg.2
                  clear gg
                  refine ⟨obl.2 (by first | (simp only [choice_lk, lock_eq, R.len, R.sub]; exact g) | exact g), ?_⟩
                  apply Hidden.out
                  obtain rfl := Option.some.inj hr
                  constructor
                  refine ⟨⟨_, rfl⟩, ?_⟩
                  rintro ⟨u0, u1, u2, u3, u4, u5⟩ e
                  replace e := Sum.inl.inj e
                  simp only [Prod.mk.injEq] at e
                  obtain ⟨e0, e1, e2, e3, e4, e5⟩ := e
                  refine le_auto hk ?_
                  (try cbv); (try simp only [choice_lk, lock_eq, and_self, and_true, true_and]); (try first | exact e | exact e.symm | (and_intros <;> first | assumption | rfl | exact Eq.symm (by assumption)))
                · have h1 : c14 = false := by first | exact h | (have h2 := h; simp only [choice_lk, lock_eq] at h2; exact h2) | (simp only [choice_lk, lock_eq] at h; exact h)
                  rw [if_neg (by rw [h1]; exact Bool.false_ne_true)] at hr
                  (try cbv)
                  have hqe : ∃ qq, F_octet_Window_Bytes_2 (iconv .i64 y137) k87 k88 y139 s1 = some qq := by
                    cases hq : F_octet_Window_Bytes_2 (iconv .i64 y137) k87 k88 y139 s1 with
                    | none => rw [hq] at hr; cases hr
                    | some qq => exact ⟨qq, rfl⟩
                  refine ⟨obl.2 (by simp only [choice_lk, lock_eq]; exact hqe), (by rintro (⟨_, _, _, _⟩) _ <;> cbv), ?_⟩
                  clear hqe
                  intro qq hx103
                  simp only [choice_lk, lock_eq] at hx103
                  rcases qq with ⟨k99, k100, y158, t28⟩
                  all_goals (rw [hx103] at hr; dsimp only at hr; constructor; (try cbv))
                  have gg := guard_inv hr
                  have g := gg.1
                  replace hr := gg.2
                  clear gg
                  refine ⟨obl.2 (by first | (simp only [choice_lk, lock_eq, R.len, R.sub]; exact g) | exact g), ?_⟩
                  apply Hidden.out
                  obtain rfl := Option.some.inj hr
                  constructor
                  refine ⟨⟨_, rfl⟩, ?_⟩
                  rintro ⟨u0, u1, u2, u3, u4, u5⟩ e
                  replace e := Sum.inl.inj e
                  simp only [Prod.mk.injEq] at e
                  obtain ⟨e0, e1, e2, e3, e4, e5⟩ := e
                  refine le_auto hk ?_
                  (try cbv); (try simp only [choice_lk, lock_eq, and_self, and_true, true_and]); (try first | exact e | exact e.symm | (and_intros <;> first | assumption | rfl | exact Eq.symm (by assumption)))
          · as_aux_lemma =>
            have h1 : (ilt (iconv .u64 y142) y137) = false := by first | exact h | (have h2 := h; simp only [choice_lk, lock_eq] at h2; exact h2) | (simp only [choice_lk, lock_eq] at h; exact h)
            rw [if_neg (by rw [h1]; exact Bool.false_ne_true)] at hr
            (try cbv)
            refine sel_intro (fun h => ?_) (fun h => ?_)
            · as_aux_lemma =>
              have h1 : (ilt (6 : Int) x2) = true := by first | exact h | (have h2 := h; simp only [choice_lk, lock_eq] at h2; exact h2) | (simp only [choice_lk, lock_eq] at h; exact h)
              rw [if_pos h1] at hr
              (try cbv)
              have hqe : ∃ qq, F_tlv_reader_fail (13 : Int) (isub .i64 x1 y130) y140 y141 = some qq := by
                cases hq : F_tlv_reader_fail (13 : Int) (isub .i64 x1 y130) y140 y141 with
                | none => rw [hq] at hr; cases hr
                | some qq => exact ⟨qq, rfl⟩
              refine ⟨obl.2 (by simp only [choice_lk, lock_eq]; exact hqe), (by rintro (⟨_, _⟩) _ <;> cbv), ?_⟩
              clear hqe
              intro qq hx104
              simp only [choice_lk, lock_eq] at hx104
              rcases qq with ⟨y159, y160⟩
              all_goals (rw [hx104] at hr; dsimp only at hr; constructor; (try cbv))
              refine sel_intro (fun h => ?_) (fun h => ?_)
              · have h1 : (ieq y159 (0 : Int)) = false := by first | exact (bnot_t.1 h) | (have h2 := (bnot_t.1 h); simp only [choice_lk, lock_eq] at h2; exact h2) | (simp only [choice_lk, lock_eq] at h; exact (bnot_t.1 h))
                rw [if_neg (by rw [h1]; exact Bool.false_ne_true)] at hr
                (try cbv)
                apply Hidden.out
                obtain rfl := Option.some.inj hr
                have e := ht1 _ rfl
                obtain ⟨u0, u1, u2, u3, u4, u5⟩ := r
                simp only [Prod.mk.injEq] at e
                obtain ⟨e0, e1, e2, e3, e4, e5⟩ := e
                constructor
                refine ⟨_, hF, ?_⟩
                (try cbv); (try simp only [choice_lk, lock_eq, and_self, and_true, true_and]); (try first | exact e | exact e.symm | (and_intros <;> first | assumption | rfl | exact Eq.symm (by assumption)))
              · as_aux_lemma =>
                have h1 : (ieq y159 (0 : Int)) = true := by first | exact (bnot_f.1 h) | (have h2 := (bnot_f.1 h); simp only [choice_lk, lock_eq] at h2; exact h2) | (simp only [choice_lk, lock_eq] at h; exact (bnot_f.1 h))
                rw [if_pos h1] at hr
                (try cbv)
                have hqe : ∃ qq, F_tlv_Item_odd_2 y131 = some qq := by
                  cases hq : F_tlv_Item_odd_2 y131 with
                  | none => rw [hq] at hr; cases hr
                  | some qq => exact ⟨qq, rfl⟩
                refine ⟨obl.2 (by simp only [choice_lk, lock_eq]; exact hqe), (by rintro (_) _ <;> cbv), ?_⟩
                clear hqe
                intro c15 hx105
                simp only [choice_lk, lock_eq] at hx105
                all_goals (rw [hx105] at hr; dsimp only at hr; constructor; (try cbv))
                refine sel_intro (fun h => ?_) (fun h => ?_)
                · have h1 : c15 = true := by first | exact h | (have h2 := h; simp only [choice_lk, lock_eq] at h2; exact h2) | (simp only [choice_lk, lock_eq] at h; exact h)
                  rw [if_pos h1] at hr
                  (try cbv)
                  have hqe : ∃ qq, F_octet_Window_Sub (iconv .i64 y137) k87 k88 y139 s1 = some qq := by
                    cases hq : F_octet_Window_Sub (iconv .i64 y137) k87 k88 y139 s1 with
                    | none => rw [hq] at hr; cases hr
                    | some qq => exact ⟨qq, rfl⟩
                  refine ⟨obl.2 (by simp only [choice_lk, lock_eq]; exact hqe), (by rintro (⟨_, _, _, _, _⟩) _ <;> cbv), ?_⟩
                  clear hqe
                  intro qq hx106
                  simp only [choice_lk, lock_eq] at hx106
                  rcases qq with ⟨k101, k102, y161, y162, t29⟩
                  all_goals (rw [hx106] at hr; dsimp only at hr; constructor; (try cbv))
                  have hqe : ∃ qq, G_tlv_reader_items gn (iadd .i64 (isub .i64 x1 y142) (iconv .i64 y137)) (iadd .i64 x2 (1 : Int)) y159 y160 y162 t29 = some qq := by
                    cases hq : G_tlv_reader_items gn (iadd .i64 (isub .i64 x1 y142) (iconv .i64 y137)) (iadd .i64 x2 (1 : Int)) y159 y160 y162 t29 with
                    | none => rw [hq] at hr; cases hr
                    | some qq => exact ⟨qq, rfl⟩
                  refine ⟨obl.2 (by simp only [choice_lk, lock_eq]; exact hqe), (by rintro (⟨_, _, _, _, _, _⟩) _ <;> cbv), ?_⟩
                  clear hqe
                  intro qq hx107
                  simp only [choice_lk, lock_eq] at hx107
                  rcases qq with ⟨q15, y163, y164, k103, k104, y165⟩
                  all_goals (rw [hx107] at hr; dsimp only at hr; constructor; (try cbv))
                  have gg := guard_inv hr
                  have g := gg.1
                  replace hr := gg.2
                  clear gg
                  refine ⟨obl.2 (by first | (simp only [choice_lk, lock_eq, R.len, R.sub]; exact g) | exact g), ?_⟩
                  apply Hidden.out
                  obtain rfl := Option.some.inj hr
                  constructor
                  refine ⟨⟨_, rfl⟩, ?_⟩
                  rintro ⟨u0, u1, u2, u3, u4, u5⟩ e
                  replace e := Sum.inl.inj e
                  simp only [Prod.mk.injEq] at e
                  obtain ⟨e0, e1, e2, e3, e4, e5⟩ := e
                  refine le_auto hk ?_
                  (try cbv); (try simp only [choice_lk, lock_eq, and_self, and_true, true_and]); (try first | exact e | exact e.symm | (and_intros <;> first | assumption | rfl | exact Eq.symm (by assumption)))
                · have h1 : c15 = false := by first | exact h | (have h2 := h; simp only [choice_lk, lock_eq] at h2; exact h2) | (simp only [choice_lk, lock_eq] at h; exact h)
                  rw [if_neg (by rw [h1]; exact Bool.false_ne_true)] at hr
                  (try cbv)
                  have hqe : ∃ qq, F_octet_Window_Bytes_2 (iconv .i64 y137) k87 k88 y139 s1 = some qq := by
                    cases hq : F_octet_Window_Bytes_2 (iconv .i64 y137) k87 k88 y139 s1 with
                    | none => rw [hq] at hr; cases hr
                    | some qq => exact ⟨qq, rfl⟩
                  refine ⟨obl.2 (by simp only [choice_lk, lock_eq]; exact hqe), (by rintro (⟨_, _, _, _⟩) _ <;> cbv), ?_⟩
                  clear hqe
                  intro qq hx108
                  simp only [choice_lk, lock_eq] at hx108
                  rcases qq with ⟨k105, k106, y166, t30⟩
                  all_goals (rw [hx108] at hr; dsimp only at hr; constructor; (try cbv))
                  have gg := guard_inv hr
                  have g := gg.1
                  replace hr := gg.2
                  clear gg
                  refine ⟨obl.2 (by first | (simp only [choice_lk, lock_eq, R.len, R.sub]; exact g) | exact g), ?_⟩
                  apply Hidden.out
                  obtain rfl := Option.some.inj hr
                  constructor
                  refine ⟨⟨_, rfl⟩, ?_⟩
                  rintro ⟨u0, u1, u2, u3, u4, u5⟩ e
                  replace e := Sum.inl.inj e
                  simp only [Prod.mk.injEq] at e
                  obtain ⟨e0, e1, e2, e3, e4, e5⟩ := e
                  refine le_auto hk ?_
                  (try cbv); (try simp only [choice_lk, lock_eq, and_self, and_true, true_and]); (try first | exact e | exact e.symm | (and_intros <;> first | assumption | rfl | exact Eq.symm (by assumption)))
            · as_aux_lemma =>
              have h1 : (ilt (6 : Int) x2) = false := by first | exact h | (have h2 := h; simp only [choice_lk, lock_eq] at h2; exact h2) | (simp only [choice_lk, lock_eq] at h; exact h)
              rw [if_neg (by rw [h1]; exact Bool.false_ne_true)] at hr
              (try cbv)
              refine sel_intro (fun h => ?_) (fun h => ?_)
              · have h1 : (ieq y140 (0 : Int)) = false := by first | exact (bnot_t.1 h) | (have h2 := (bnot_t.1 h); simp only [choice_lk, lock_eq] at h2; exact h2) | (simp only [choice_lk, lock_eq] at h; exact (bnot_t.1 h))
                rw [if_neg (by rw [h1]; exact Bool.false_ne_true)] at hr
                (try cbv)
                apply Hidden.out
                obtain rfl := Option.some.inj hr
                have e := ht1 _ rfl
                obtain ⟨u0, u1, u2, u3, u4, u5⟩ := r
                simp only [Prod.mk.injEq] at e
                obtain ⟨e0, e1, e2, e3, e4, e5⟩ := e
                constructor
                refine ⟨_, hF, ?_⟩
                (try cbv); (try simp only [choice_lk, lock_eq, and_self, and_true, true_and]); (try first | exact e | exact e.symm | (and_intros <;> first | assumption | rfl | exact Eq.symm (by assumption)))
              · as_aux_lemma =>
                have h1 : (ieq y140 (0 : Int)) = true := by first | exact (bnot_f.1 h) | (have h2 := (bnot_f.1 h); simp only [choice_lk, lock_eq] at h2; exact h2) | (simp only [choice_lk, lock_eq] at h; exact (bnot_f.1 h))
                rw [if_pos h1] at hr
                (try cbv)
                have hqe : ∃ qq, F_tlv_Item_odd_2 y131 = some qq := by
                  cases hq : F_tlv_Item_odd_2 y131 with
                  | none => rw [hq] at hr; cases hr
                  | some qq => exact ⟨qq, rfl⟩
                refine ⟨obl.2 (by simp only [choice_lk, lock_eq]; exact hqe), (by rintro (_) _ <;> cbv), ?_⟩
                clear hqe
                intro c16 hx109
                simp only [choice_lk, lock_eq] at hx109
                all_goals (rw [hx109] at hr; dsimp only at hr; constructor; (try cbv))
                refine sel_intro (fun h => ?_) (fun h => ?_)
                · have h1 : c16 = true := by first | exact h | (have h2 := h; simp only [choice_lk, lock_eq] at h2; exact h2) | (simp only [choice_lk, lock_eq] at h; exact h)
                  rw [if_pos h1] at hr
                  (try cbv)
                  have hqe : ∃ qq, F_octet_Window_Sub (iconv .i64 y137) k87 k88 y139 s1 = some qq := by
                    cases hq : F_octet_Window_Sub (iconv .i64 y137) k87 k88 y139 s1 with
                    | none => rw [hq] at hr; cases hr
                    | some qq => exact ⟨qq, rfl⟩
                  refine ⟨obl.2 (by simp only [choice_lk, lock_eq]; exact hqe), (by rintro (⟨_, _, _, _, _⟩) _ <;> cbv), ?_⟩
                  clear hqe
                  intro qq hx110
                  simp only [choice_lk, lock_eq] at hx110
                  rcases qq with ⟨k107, k108, y167, y168, t31⟩
                  all_goals (rw [hx110] at hr; dsimp only at hr; constructor; (try cbv))
                  have hqe : ∃ qq, G_tlv_reader_items gn (iadd .i64 (isub .i64 x1 y142) (iconv .i64 y137)) (iadd .i64 x2 (1 : Int)) y140 y141 y168 t31 = some qq := by
                    cases hq : G_tlv_reader_items gn (iadd .i64 (isub .i64 x1 y142) (iconv .i64 y137)) (iadd .i64 x2 (1 : Int)) y140 y141 y168 t31 with
                    | none => rw [hq] at hr; cases hr
                    | some qq => exact ⟨qq, rfl⟩
                  refine ⟨obl.2 (by simp only [choice_lk, lock_eq]; exact hqe), (by rintro (⟨_, _, _, _, _, _⟩) _ <;> cbv), ?_⟩
                  clear hqe
                  intro qq hx111
                  simp only [choice_lk, lock_eq] at hx111
                  rcases qq with ⟨q16, y169, y170, k109, k110, y171⟩
                  all_goals (rw [hx111] at hr; dsimp only at hr; constructor; (try cbv))
                  have gg := guard_inv hr
                  have g := gg.1
                  replace hr := gg.2
                  clear gg
                  refine ⟨obl.2 (by first | (simp only [choice_lk, lock_eq, R.len, R.sub]; exact g) | exact g), ?_⟩
                  apply Hidden.out
                  obtain rfl := Option.some.inj hr
                  constructor
                  refine ⟨⟨_, rfl⟩, ?_⟩
                  rintro ⟨u0, u1, u2, u3, u4, u5⟩ e
                  replace e := Sum.inl.inj e
                  simp only [Prod.mk.injEq] at e
                  obtain ⟨e0, e1, e2, e3, e4, e5⟩ := e
                  refine le_auto hk ?_
                  (try cbv); (try simp only [choice_lk, lock_eq, and_self, and_true, true_and]); (try first | exact e | exact e.symm | (and_intros <;> first | assumption | rfl | exact Eq.symm (by assumption)))
                · have h1 : c16 = false := by first | exact h | (have h2 := h; simp only [choice_lk, lock_eq] at h2; exact h2) | (simp only [choice_lk, lock_eq] at h; exact h)
                  rw [if_neg (by rw [h1]; exact Bool.false_ne_true)] at hr
                  (try cbv)
                  have hqe : ∃ qq, F_octet_Window_Bytes_2 (iconv .i64 y137) k87 k88 y139 s1 = some qq := by
                    cases hq : F_octet_Window_Bytes_2 (iconv .i64 y137) k87 k88 y139 s1 with
                    | none => rw [hq] at hr; cases hr
                    | some qq => exact ⟨qq, rfl⟩
                  refine ⟨obl.2 (by simp only [choice_lk, lock_eq]; exact hqe), (by rintro (⟨_, _, _, _⟩) _ <;> cbv), ?_⟩
                  clear hqe
                  intro qq hx112
                  simp only [choice_lk, lock_eq] at hx112
                  rcases qq with ⟨k111, k112, y172, t32⟩
                  all_goals (rw [hx112] at hr; dsimp only at hr; constructor; (try cbv))
                  have gg := guard_inv hr
                  have g := gg.1
                  replace hr := gg.2
                  clear gg
                  refine ⟨obl.2 (by first | (simp only [choice_lk, lock_eq, R.len, R.sub]; exact g) | exact g), ?_⟩
                  apply Hidden.out
                  obtain rfl := Option.some.inj hr
                  constructor
                  refine ⟨⟨_, rfl⟩, ?_⟩
                  rintro ⟨u0, u1, u2, u3, u4, u5⟩ e
                  replace e := Sum.inl.inj e
                  simp only [Prod.mk.injEq] at e
                  obtain ⟨e0, e1, e2, e3, e4, e5⟩ := e
                  refine le_auto hk ?_
                  (try cbv); (try simp only [choice_lk, lock_eq, and_self, and_true, true_and]); (try first | exact e | exact e.symm | (and_intros <;> first | assumption | rfl | exact Eq.symm (by assumption)))
        · have h1 : (ieq i1 (0 : Int)) = false := by first | exact h | (have h2 := h; simp only [choice_lk, lock_eq] at h2; exact h2) | (simp only [choice_lk, lock_eq] at h; exact h)
          rw [if_neg (by rw [h1]; exact Bool.false_ne_true)] at hr
          (try cbv)
          apply Hidden.out
          obtain rfl := Option.some.inj hr
          have e := ht1 _ rfl
          obtain ⟨u0, u1, u2, u3, u4, u5⟩ := r
          simp only [Prod.mk.injEq] at e
          obtain ⟨e0, e1, e2, e3, e4, e5⟩ := e
          constructor
          refine ⟨_, hF, ?_⟩
          (try cbv); (try simp only [choice_lk, lock_eq, and_self, and_true, true_and]); (try first | exact e | exact e.symm | (and_intros <;> first | assumption | rfl | exact Eq.symm (by assumption)))
      · have h1 : (ilt (0 : Int) y130) = false := by first | exact h | (have h2 := h; simp only [choice_lk, lock_eq] at h2; exact h2) | (simp only [choice_lk, lock_eq] at h; exact h)
        rw [if_neg (by rw [h1]; exact Bool.false_ne_true)] at hr
        (try cbv)
        apply Hidden.out
        obtain rfl := Option.some.inj hr
        have e := ht1 _ rfl
        obtain ⟨u0, u1, u2, u3, u4, u5⟩ := r
        simp only [Prod.mk.injEq] at e
        obtain ⟨e0, e1, e2, e3, e4, e5⟩ := e
        constructor
        refine ⟨_, hF, ?_⟩
        (try cbv); (try simp only [choice_lk, lock_eq, and_self, and_true, true_and]); (try first | exact e | exact e.symm | (and_intros <;> first | assumption | rfl | exact Eq.symm (by assumption)))
end Go.Proofs.Ytknaheioedkaeaa
end
