/- Merged by program from smaller texts; what is proved stands in the last text of the claim. -/
import Derived.Test.YtnnjjmiahcnbaaaGreatProg
import Derived.Test.YtnnjjmiahcnbaaaGreatMB
import Derived.KernelRfl
set_option linter.all false
set_option maxRecDepth 100000
namespace Go.Proofs.YtnnjjmiahcnbaaaGreat
open Go Go.Av

theorem hm : Tryz.prog.follows .mixedOrders = true := by kernel_rfl

-- indenture/indenturelaw29.ExtractPairs
def F3 : AFunc where
  ntmps := 87
  nparams := 2
  results := [(4, none)]
  code :=
(.seq
(.plain (
⟨(some 4), .mv (.const (.bool false)), none⟩ ::
[]))
(.seq
(.seq
(.plain (
⟨(some 13), .callF 5 [], none⟩ ::
⟨(some 14), .un .not (.tmp 13), none⟩ ::
[]))
(.cond (.tmp 14)
(.seq
(.plain (
⟨(some 4), .mv (.const (.bool false)), none⟩ ::
[]))
.ret)
.skip))
(.seq
(.seq
(.plain (
⟨(some 15), .mv (.tmp 0), none⟩ ::
⟨(some 16), .len (.tmp 15), none⟩ ::
⟨(some 17), .bin .gtr (.tmp 16) (.const (.int .i64 12)), none⟩ ::
⟨(some 18), .mv (.tmp 17), none⟩ ::
⟨(some 19), .mv (.tmp 1), (some (18, false))⟩ ::
⟨(some 20), .len (.tmp 19), (some (18, false))⟩ ::
⟨(some 21), .bin .gtr (.tmp 20) (.const (.int .i64 12)), (some (18, false))⟩ ::
⟨(some 22), .pick (.tmp 18) (.const (.bool true)) (.tmp 21), none⟩ ::
[]))
(.cond (.tmp 22)
(.seq
(.plain (
⟨(some 4), .mv (.const (.bool true)), none⟩ ::
[]))
.ret)
.skip))
(.seq
(.seq
(.plain (
⟨(some 5), .mv (.const (.int .i64 0)), none⟩ ::
[]))
(.block 0
(.loop
(.seq
(.seq
(.plain (
⟨(some 23), .mv (.tmp 5), none⟩ ::
⟨(some 24), .mv (.tmp 0), none⟩ ::
⟨(some 25), .len (.tmp 24), none⟩ ::
⟨(some 26), .bin .lss (.tmp 23) (.tmp 25), none⟩ ::
[]))
(.cond (.tmp 26)
.skip
(.exit 0)))
(.seq
(.block 1
(.seq
(.plain (
⟨(some 29), .mv (.tmp 0), none⟩ ::
⟨(some 30), .mv (.tmp 5), none⟩ ::
⟨(some 31), .iaS 1 (.tmp 29) (.tmp 30), none⟩ ::
⟨(some 32), .load false 1 (.tmp 31), none⟩ ::
⟨(some 33), .len (.tmp 32), none⟩ ::
⟨(some 34), .bin .gtr (.tmp 33) (.const (.int .i64 200)), none⟩ ::
[]))
(.cond (.tmp 34)
(.seq
(.plain (
⟨(some 4), .mv (.const (.bool true)), none⟩ ::
[]))
.ret)
.skip)))
(.plain (
⟨(some 27), .mv (.tmp 5), none⟩ ::
⟨(some 28), .bin .add (.tmp 27) (.const (.int .i64 1)), none⟩ ::
⟨(some 5), .mv (.tmp 28), none⟩ ::
[])))))))
(.seq
(.seq
(.plain (
⟨(some 6), .mv (.const (.int .i64 0)), none⟩ ::
[]))
(.block 2
(.loop
(.seq
(.seq
(.plain (
⟨(some 35), .mv (.tmp 6), none⟩ ::
⟨(some 36), .mv (.tmp 1), none⟩ ::
⟨(some 37), .len (.tmp 36), none⟩ ::
⟨(some 38), .bin .lss (.tmp 35) (.tmp 37), none⟩ ::
[]))
(.cond (.tmp 38)
.skip
(.exit 2)))
(.seq
(.block 3
(.seq
(.plain (
⟨(some 41), .mv (.tmp 1), none⟩ ::
⟨(some 42), .mv (.tmp 6), none⟩ ::
⟨(some 43), .iaS 1 (.tmp 41) (.tmp 42), none⟩ ::
⟨(some 44), .load false 1 (.tmp 43), none⟩ ::
⟨(some 45), .len (.tmp 44), none⟩ ::
⟨(some 46), .bin .gtr (.tmp 45) (.const (.int .i64 200)), none⟩ ::
[]))
(.cond (.tmp 46)
(.seq
(.plain (
⟨(some 4), .mv (.const (.bool true)), none⟩ ::
[]))
.ret)
.skip)))
(.plain (
⟨(some 39), .mv (.tmp 6), none⟩ ::
⟨(some 40), .bin .add (.tmp 39) (.const (.int .i64 1)), none⟩ ::
⟨(some 6), .mv (.tmp 40), none⟩ ::
[])))))))
(.seq
(.plain (
⟨(some 48), .mv (.tmp 0), none⟩ ::
⟨(some 49), .mv (.tmp 1), none⟩ ::
⟨(some 50), .callF 6 [(.tmp 48), (.tmp 49)], none⟩ ::
⟨(some 47), .mv (.tmp 50), none⟩ ::
⟨(some 51), .ext (.tmp 47) 0, none⟩ ::
⟨(some 52), .ext (.tmp 47) 1, none⟩ ::
⟨(some 53), .ext (.tmp 47) 2, none⟩ ::
⟨(some 7), .mv (.tmp 51), none⟩ ::
⟨(some 8), .mv (.tmp 52), none⟩ ::
⟨(some 9), .mv (.tmp 53), none⟩ ::
[]))
(.seq
(.plain (
⟨(some 55), .mv (.tmp 0), none⟩ ::
⟨(some 56), .mv (.tmp 1), none⟩ ::
⟨(some 57), .callF 7 [(.tmp 55), (.tmp 56)], none⟩ ::
⟨(some 54), .mv (.tmp 57), none⟩ ::
⟨(some 58), .ext (.tmp 54) 0, none⟩ ::
⟨(some 59), .ext (.tmp 54) 1, none⟩ ::
⟨(some 60), .ext (.tmp 54) 2, none⟩ ::
⟨(some 10), .mv (.tmp 58), none⟩ ::
⟨(some 11), .mv (.tmp 59), none⟩ ::
⟨(some 12), .mv (.tmp 60), none⟩ ::
[]))
(.seq
(.plain (
⟨(some 61), .mv (.tmp 9), none⟩ ::
⟨(some 62), .mv (.tmp 12), none⟩ ::
⟨(some 63), .eqb false (.tmp 61) (.tmp 62), none⟩ ::
⟨(some 64), .mv (.tmp 63), none⟩ ::
⟨(some 65), .mv (.tmp 7), (some (64, true))⟩ ::
⟨(some 66), .b2s (.tmp 65), (some (64, true))⟩ ::
⟨(some 67), .mv (.tmp 10), (some (64, true))⟩ ::
⟨(some 68), .b2s (.tmp 67), (some (64, true))⟩ ::
⟨(some 69), .bin .eql (.tmp 66) (.tmp 68), (some (64, true))⟩ ::
⟨(some 70), .pick (.tmp 64) (.tmp 69) (.const (.bool false)), none⟩ ::
⟨(some 71), .mv (.tmp 70), none⟩ ::
⟨(some 72), .mv (.tmp 8), (some (71, true))⟩ ::
⟨(some 73), .b2s (.tmp 72), (some (71, true))⟩ ::
⟨(some 74), .mv (.tmp 11), (some (71, true))⟩ ::
⟨(some 75), .b2s (.tmp 74), (some (71, true))⟩ ::
⟨(some 76), .bin .eql (.tmp 73) (.tmp 75), (some (71, true))⟩ ::
⟨(some 77), .pick (.tmp 71) (.tmp 76) (.const (.bool false)), none⟩ ::
⟨(some 78), .mv (.tmp 77), none⟩ ::
⟨(some 79), .mv (.tmp 9), (some (78, true))⟩ ::
⟨(some 80), .un .not (.tmp 79), (some (78, true))⟩ ::
⟨(some 81), .mv (.tmp 80), (some (78, true))⟩ ::
⟨(some 82), .mv (.tmp 7), (some (81, false))⟩ ::
⟨(some 83), .mv (.tmp 8), (some (81, false))⟩ ::
⟨(some 84), .callF 8 [(.tmp 82), (.tmp 83)], (some (81, false))⟩ ::
⟨(some 85), .pick (.tmp 81) (.const (.bool true)) (.tmp 84), (some (78, true))⟩ ::
⟨(some 86), .pick (.tmp 78) (.tmp 85) (.const (.bool false)), none⟩ ::
⟨(some 4), .mv (.tmp 86), none⟩ ::
[]))
.ret))))))))
theorem prep3 : prepFunc Tryz.prog 0 3 = some F3 := by kernel_rfl

-- indenture/indenturelaw29.ExtractMembers
def F4 : AFunc where
  ntmps := 134
  nparams := 9
  results := [(18, none)]
  code :=
(.seq
(.plain (
⟨(some 9), .box 30 (.tmp 0), none⟩ ::
⟨(some 10), .box 30 (.tmp 1), none⟩ ::
⟨(some 11), .box 32 (.tmp 2), none⟩ ::
⟨(some 12), .box 32 (.tmp 3), none⟩ ::
⟨(some 14), .box 37 (.tmp 5), none⟩ ::
⟨(some 15), .box 37 (.tmp 6), none⟩ ::
⟨(some 18), .mv (.const (.bool false)), none⟩ ::
[]))
(.seq
(.seq
(.plain (
⟨(some 28), .callF 5 [], none⟩ ::
⟨(some 29), .un .not (.tmp 28), none⟩ ::
[]))
(.cond (.tmp 29)
(.seq
(.plain (
⟨(some 18), .mv (.const (.bool false)), none⟩ ::
[]))
.ret)
.skip))
(.seq
(.seq
(.plain (
⟨(some 30), .fa 162 (.tmp 14), none⟩ ::
⟨(some 31), .load false 1 (.tmp 30), none⟩ ::
⟨(some 32), .len (.tmp 31), none⟩ ::
⟨(some 33), .bin .gtr (.tmp 32) (.const (.int .i64 100)), none⟩ ::
⟨(some 34), .mv (.tmp 33), none⟩ ::
⟨(some 35), .fa 162 (.tmp 15), (some (34, false))⟩ ::
⟨(some 36), .load false 1 (.tmp 35), (some (34, false))⟩ ::
⟨(some 37), .len (.tmp 36), (some (34, false))⟩ ::
⟨(some 38), .bin .gtr (.tmp 37) (.const (.int .i64 100)), (some (34, false))⟩ ::
⟨(some 39), .pick (.tmp 34) (.const (.bool true)) (.tmp 38), none⟩ ::
⟨(some 40), .mv (.tmp 39), none⟩ ::
⟨(some 41), .fa 163 (.tmp 14), (some (40, false))⟩ ::
⟨(some 42), .load false 1 (.tmp 41), (some (40, false))⟩ ::
⟨(some 43), .len (.tmp 42), (some (40, false))⟩ ::
⟨(some 44), .bin .gtr (.tmp 43) (.const (.int .i64 1000)), (some (40, false))⟩ ::
⟨(some 45), .pick (.tmp 40) (.const (.bool true)) (.tmp 44), none⟩ ::
⟨(some 46), .mv (.tmp 45), none⟩ ::
⟨(some 47), .fa 163 (.tmp 15), (some (46, false))⟩ ::
⟨(some 48), .load false 1 (.tmp 47), (some (46, false))⟩ ::
⟨(some 49), .len (.tmp 48), (some (46, false))⟩ ::
⟨(some 50), .bin .gtr (.tmp 49) (.const (.int .i64 1000)), (some (46, false))⟩ ::
⟨(some 51), .pick (.tmp 46) (.const (.bool true)) (.tmp 50), none⟩ ::
⟨(some 52), .mv (.tmp 51), none⟩ ::
⟨(some 53), .mv (.tmp 4), (some (52, false))⟩ ::
⟨(some 54), .len (.tmp 53), (some (52, false))⟩ ::
⟨(some 55), .bin .gtr (.tmp 54) (.const (.int .i64 100)), (some (52, false))⟩ ::
⟨(some 56), .pick (.tmp 52) (.const (.bool true)) (.tmp 55), none⟩ ::
⟨(some 57), .mv (.tmp 56), none⟩ ::
⟨(some 58), .mv (.tmp 7), (some (57, false))⟩ ::
⟨(some 59), .len (.tmp 58), (some (57, false))⟩ ::
⟨(some 60), .bin .gtr (.tmp 59) (.const (.int .i64 2000)), (some (57, false))⟩ ::
⟨(some 61), .pick (.tmp 57) (.const (.bool true)) (.tmp 60), none⟩ ::
⟨(some 62), .mv (.tmp 61), none⟩ ::
⟨(some 63), .mv (.tmp 8), (some (62, false))⟩ ::
⟨(some 64), .len (.tmp 63), (some (62, false))⟩ ::
⟨(some 65), .bin .gtr (.tmp 64) (.const (.int .i64 2000)), (some (62, false))⟩ ::
⟨(some 66), .pick (.tmp 62) (.const (.bool true)) (.tmp 65), none⟩ ::
[]))
(.cond (.tmp 66)
(.seq
(.plain (
⟨(some 18), .mv (.const (.bool true)), none⟩ ::
[]))
.ret)
.skip))
(.seq
(.plain (
⟨(some 68), .load true 32 (.tmp 9), none⟩ ::
⟨(some 69), .load true 65 (.tmp 11), none⟩ ::
⟨(some 70), .load true 32 (.tmp 10), none⟩ ::
⟨(some 71), .load true 65 (.tmp 12), none⟩ ::
⟨(some 72), .mv (.tmp 4), none⟩ ::
⟨(some 73), .load true 166 (.tmp 14), none⟩ ::
⟨(some 74), .load true 166 (.tmp 15), none⟩ ::
⟨(some 75), .mv (.tmp 7), none⟩ ::
⟨(some 76), .mv (.tmp 8), none⟩ ::
⟨(some 77), .callF 9 [(.tmp 68), (.tmp 69), (.tmp 70), (.tmp 71), (.tmp 72), (.tmp 73), (.tmp 74), (.tmp 75), (.tmp 76)], none⟩ ::
⟨(some 67), .mv (.tmp 77), none⟩ ::
⟨(some 78), .ext (.tmp 67) 0, none⟩ ::
⟨(some 79), .ext (.tmp 67) 1, none⟩ ::
⟨(some 80), .ext (.tmp 67) 2, none⟩ ::
⟨(some 19), .mv (.tmp 78), none⟩ ::
⟨(some 20), .mv (.tmp 79), none⟩ ::
⟨(some 21), .mv (.tmp 80), none⟩ ::
[]))
(.seq
(.seq
(.plain (
⟨(some 81), .mv (.tmp 21), none⟩ ::
⟨(some 82), .mv (.tmp 81), none⟩ ::
⟨(some 83), .mv (.tmp 19), (some (82, true))⟩ ::
⟨(some 84), .mv (.tmp 20), (some (82, true))⟩ ::
⟨(some 85), .callF 8 [(.tmp 83), (.tmp 84)], (some (82, true))⟩ ::
⟨(some 86), .un .not (.tmp 85), (some (82, true))⟩ ::
⟨(some 87), .pick (.tmp 82) (.tmp 86) (.const (.bool false)), none⟩ ::
[]))
(.cond (.tmp 87)
(.seq
(.plain (
⟨(some 18), .mv (.const (.bool false)), none⟩ ::
[]))
.ret)
.skip))
(.seq
(.plain (
⟨(some 89), .load true 32 (.tmp 9), none⟩ ::
⟨(some 90), .load true 166 (.tmp 14), none⟩ ::
⟨(some 91), .mv (.tmp 7), none⟩ ::
⟨(some 92), .callF 10 [(.tmp 89), (.tmp 90), (.tmp 91)], none⟩ ::
⟨(some 88), .mv (.tmp 92), none⟩ ::
⟨(some 93), .ext (.tmp 88) 0, none⟩ ::
⟨(some 94), .ext (.tmp 88) 1, none⟩ ::
⟨(some 95), .ext (.tmp 88) 2, none⟩ ::
⟨(some 22), .alloc 35 (List.replicate 32 (.v (.int .u8 0)) ++ [(.v (.int .i64 0))] ++ List.replicate 64 (.v (.int .u8 0))), none⟩ ::
⟨none, .store 97 (.tmp 22) (.tmp 93), none⟩ ::
⟨(some 23), .mv (.tmp 94), none⟩ ::
⟨(some 24), .mv (.tmp 95), none⟩ ::
[]))
(.seq
(.plain (
⟨(some 97), .load true 32 (.tmp 10), none⟩ ::
⟨(some 98), .load true 166 (.tmp 15), none⟩ ::
⟨(some 99), .mv (.tmp 8), none⟩ ::
⟨(some 100), .callF 10 [(.tmp 97), (.tmp 98), (.tmp 99)], none⟩ ::
⟨(some 96), .mv (.tmp 100), none⟩ ::
⟨(some 101), .ext (.tmp 96) 0, none⟩ ::
⟨(some 102), .ext (.tmp 96) 1, none⟩ ::
⟨(some 103), .ext (.tmp 96) 2, none⟩ ::
⟨(some 25), .alloc 35 (List.replicate 32 (.v (.int .u8 0)) ++ [(.v (.int .i64 0))] ++ List.replicate 64 (.v (.int .u8 0))), none⟩ ::
⟨none, .store 97 (.tmp 25) (.tmp 101), none⟩ ::
⟨(some 26), .mv (.tmp 102), none⟩ ::
⟨(some 27), .mv (.tmp 103), none⟩ ::
[]))
(.seq
(.seq
(.plain (
⟨(some 104), .mv (.tmp 24), none⟩ ::
⟨(some 105), .bin .neq (.tmp 104) (.const (.int .i64 0)), none⟩ ::
⟨(some 106), .mv (.tmp 105), none⟩ ::
⟨(some 107), .mv (.tmp 27), (some (106, false))⟩ ::
⟨(some 108), .bin .neq (.tmp 107) (.const (.int .i64 0)), (some (106, false))⟩ ::
⟨(some 109), .pick (.tmp 106) (.const (.bool true)) (.tmp 108), none⟩ ::
⟨(some 110), .mv (.tmp 109), none⟩ ::
⟨(some 111), .fa 32 (.tmp 22), (some (110, false))⟩ ::
⟨(some 112), .load false 1 (.tmp 111), (some (110, false))⟩ ::
⟨(some 113), .fa 32 (.tmp 25), (some (110, false))⟩ ::
⟨(some 114), .load false 1 (.tmp 113), (some (110, false))⟩ ::
⟨(some 115), .bin .neq (.tmp 112) (.tmp 114), (some (110, false))⟩ ::
⟨(some 116), .pick (.tmp 110) (.const (.bool true)) (.tmp 115), none⟩ ::
⟨(some 117), .mv (.tmp 116), none⟩ ::
⟨(some 118), .load true 32 (.tmp 9), (some (117, false))⟩ ::
⟨(some 119), .load true 65 (.tmp 11), (some (117, false))⟩ ::
⟨(some 120), .load true 32 (.tmp 10), (some (117, false))⟩ ::
⟨(some 121), .load true 65 (.tmp 12), (some (117, false))⟩ ::
⟨(some 122), .mv (.tmp 4), (some (117, false))⟩ ::
⟨(some 123), .callF 11 [(.tmp 118), (.tmp 119), (.tmp 120), (.tmp 121), (.tmp 122)], (some (117, false))⟩ ::
⟨(some 124), .un .not (.tmp 123), (some (117, false))⟩ ::
⟨(some 125), .pick (.tmp 117) (.const (.bool true)) (.tmp 124), none⟩ ::
[]))
(.cond (.tmp 125)
(.seq
(.plain (
⟨(some 18), .mv (.const (.bool true)), none⟩ ::
[]))
.ret)
.skip))
(.seq
(.plain (
⟨(some 126), .mv (.tmp 7), none⟩ ::
⟨(some 127), .b2s (.tmp 126), none⟩ ::
⟨(some 128), .mv (.tmp 8), none⟩ ::
⟨(some 129), .b2s (.tmp 128), none⟩ ::
⟨(some 130), .bin .eql (.tmp 127) (.tmp 129), none⟩ ::
⟨(some 131), .mv (.tmp 130), none⟩ ::
⟨(some 132), .mv (.tmp 21), (some (131, false))⟩ ::
⟨(some 133), .pick (.tmp 131) (.const (.bool true)) (.tmp 132), none⟩ ::
⟨(some 18), .mv (.tmp 133), none⟩ ::
[]))
.ret)))))))))
theorem prep4 : prepFunc Tryz.prog 0 4 = some F4 := by kernel_rfl

-- indenture/indenturelaw29.alive
def F5 : AFunc where
  ntmps := 29
  nparams := 0
  results := [(0, none)]
  code :=
(.seq
(.plain (
⟨(some 0), .mv (.const (.bool false)), none⟩ ::
[]))
(.seq
(.plain (
⟨(some 6), .bsl 1 [(.const (.int .u8 1))], none⟩ ::
⟨(some 7), .bsl 1 [(.const (.int .u8 2))], none⟩ ::
⟨(some 8), .bsl 1 [(.tmp 6), (.tmp 7)], none⟩ ::
⟨(some 9), .bsl 1 [(.const (.int .u8 1))], none⟩ ::
⟨(some 10), .bsl 1 [(.const (.int .u8 3))], none⟩ ::
⟨(some 11), .bsl 1 [(.tmp 9), (.tmp 10)], none⟩ ::
⟨(some 12), .callF 6 [(.tmp 8), (.tmp 11)], none⟩ ::
⟨(some 5), .mv (.tmp 12), none⟩ ::
⟨(some 13), .ext (.tmp 5) 0, none⟩ ::
⟨(some 14), .ext (.tmp 5) 1, none⟩ ::
⟨(some 15), .ext (.tmp 5) 2, none⟩ ::
⟨(some 1), .mv (.tmp 13), none⟩ ::
⟨(some 2), .mv (.tmp 14), none⟩ ::
⟨(some 3), .mv (.tmp 15), none⟩ ::
[]))
(.seq
(.plain (
⟨(some 16), .callF 12 [(.const (.int .u8 1)), (.const (.slice none 0 0))], none⟩ ::
⟨(some 4), .mv (.tmp 16), none⟩ ::
[]))
(.seq
(.plain (
⟨(some 17), .mv (.tmp 3), none⟩ ::
⟨(some 18), .un .not (.tmp 17), none⟩ ::
⟨(some 19), .mv (.tmp 18), none⟩ ::
⟨(some 20), .callF 13 [(.const (.pointer none))], (some (19, true))⟩ ::
⟨(some 21), .len (.tmp 20), (some (19, true))⟩ ::
⟨(some 22), .bin .eql (.tmp 21) (.const (.int .i64 0)), (some (19, true))⟩ ::
⟨(some 23), .pick (.tmp 19) (.tmp 22) (.const (.bool false)), none⟩ ::
⟨(some 24), .mv (.tmp 23), none⟩ ::
⟨(some 25), .mv (.tmp 4), (some (24, true))⟩ ::
⟨(some 26), .b2s (.tmp 25), (some (24, true))⟩ ::
⟨(some 27), .bin .eql (.tmp 26) (.const (.string ⟨#[1]⟩)), (some (24, true))⟩ ::
⟨(some 28), .pick (.tmp 24) (.tmp 27) (.const (.bool false)), none⟩ ::
⟨(some 0), .mv (.tmp 28), none⟩ ::
[]))
.ret))))
theorem prep5 : prepFunc Tryz.prog 0 5 = some F5 := by kernel_rfl

-- indenture/extract.Pair
def F6 : AFunc where
  ntmps := 65
  nparams := 2
  results := [(4, none), (5, none), (6, none)]
  code :=
(.seq
(.plain (
⟨(some 4), .mv (.const (.slice none 0 0)), none⟩ ::
⟨(some 5), .mv (.const (.slice none 0 0)), none⟩ ::
⟨(some 6), .mv (.const (.bool false)), none⟩ ::
[]))
(.seq
(.plain (
⟨(some 15), .mkM, none⟩ ::
⟨(some 7), .mv (.tmp 15), none⟩ ::
[]))
(.seq
(.seq
(.plain (
⟨(some 16), .mv (.tmp 1), none⟩ ::
⟨(some 17), .len (.tmp 16), none⟩ ::
⟨(some 18), .mv (.const (.int .i64 0)), none⟩ ::
[]))
(.block 0
(.loop
(.seq
(.plain (
⟨(some 19), .bin .lss (.tmp 18) (.tmp 17), none⟩ ::
[]))
(.seq
(.cond (.tmp 19)
.skip
(.exit 0))
(.seq
(.block 1
(.seq
(.plain (
⟨(some 20), .mv (.tmp 18), none⟩ ::
⟨(some 21), .iaS 1 (.tmp 16) (.tmp 18), none⟩ ::
⟨(some 22), .load false 1 (.tmp 21), none⟩ ::
⟨(some 8), .mv (.tmp 20), none⟩ ::
⟨(some 9), .mv (.tmp 22), none⟩ ::
[]))
(.seq
(.plain (
⟨(some 23), .mv (.tmp 9), none⟩ ::
⟨(some 24), .callF 14 [(.tmp 23)], none⟩ ::
⟨(some 10), .alloc 30 (List.replicate 32 (.v (.int .u8 0))), none⟩ ::
⟨none, .store 32 (.tmp 10) (.tmp 24), none⟩ ::
[]))
(.plain (
⟨(some 25), .mv (.tmp 7), none⟩ ::
⟨(some 26), .load true 32 (.tmp 10), none⟩ ::
⟨(some 28), .mv (.tmp 8), none⟩ ::
⟨(some 29), .bsl 1 [(.tmp 28)], none⟩ ::
⟨(some 30), .ment [(32, .int .u8)] (.sl [] .nil) (.tmp 25) (.tmp 26), none⟩ ::
⟨(some 27), .ext (.tmp 30) 0, none⟩ ::
⟨(some 31), .app 1 8 (.tmp 27) (.tmp 29), none⟩ ::
⟨(some 32), .ext (.tmp 30) 1, none⟩ ::
⟨none, .mst (.tmp 25) (.tmp 32) (.tmp 31), none⟩ ::
[])))))
(.plain (
⟨(some 33), .bin .add (.tmp 18) (.const (.int .i64 1)), none⟩ ::
⟨(some 18), .mv (.tmp 33), none⟩ ::
[]))))))))
(.seq
(.seq
(.plain (
⟨(some 34), .mv (.tmp 0), none⟩ ::
⟨(some 35), .len (.tmp 34), none⟩ ::
⟨(some 36), .mv (.const (.int .i64 0)), none⟩ ::
[]))
(.block 2
(.loop
(.seq
(.plain (
⟨(some 37), .bin .lss (.tmp 36) (.tmp 35), none⟩ ::
[]))
(.seq
(.cond (.tmp 37)
.skip
(.exit 2))
(.seq
(.block 3
(.seq
(.plain (
⟨(some 38), .iaS 1 (.tmp 34) (.tmp 36), none⟩ ::
⟨(some 39), .load false 1 (.tmp 38), none⟩ ::
⟨(some 12), .mv (.tmp 39), none⟩ ::
[]))
(.seq
(.plain (
⟨(some 40), .mv (.tmp 7), none⟩ ::
⟨(some 41), .mv (.tmp 12), none⟩ ::
⟨(some 42), .callF 14 [(.tmp 41)], none⟩ ::
⟨(some 43), .lkp false [(32, .int .u8)] (.sl [] .nil) (.tmp 40) (.tmp 42), none⟩ ::
⟨(some 44), .len (.tmp 43), none⟩ ::
⟨(some 45), .mv (.const (.int .i64 0)), none⟩ ::
[]))
(.block 4
(.loop
(.seq
(.plain (
⟨(some 46), .bin .lss (.tmp 45) (.tmp 44), none⟩ ::
[]))
(.seq
(.cond (.tmp 46)
.skip
(.exit 4))
(.seq
(.block 5
(.seq
(.plain (
⟨(some 47), .iaS 1 (.tmp 43) (.tmp 45), none⟩ ::
⟨(some 48), .load false 1 (.tmp 47), none⟩ ::
⟨(some 14), .mv (.tmp 48), none⟩ ::
[]))
(.seq
(.plain (
⟨(some 49), .mv (.tmp 12), none⟩ ::
⟨(some 50), .mv (.tmp 1), none⟩ ::
⟨(some 51), .mv (.tmp 14), none⟩ ::
⟨(some 52), .iaS 1 (.tmp 50) (.tmp 51), none⟩ ::
⟨(some 53), .load false 1 (.tmp 52), none⟩ ::
⟨(some 54), .callF 15 [(.tmp 49), (.tmp 53)], none⟩ ::
⟨(some 55), .un .not (.tmp 54), none⟩ ::
[]))
(.cond (.tmp 55)
(.seq
(.draw (
⟨(some 56), .mv (.tmp 12), none⟩ ::
⟨(some 57), .callF 16 [(.tmp 56)], none⟩ ::
⟨(some 58), .mv (.tmp 1), none⟩ ::
⟨(some 59), .mv (.tmp 14), none⟩ ::
⟨(some 60), .iaS 1 (.tmp 58) (.tmp 59), none⟩ ::
⟨(some 61), .load false 1 (.tmp 60), none⟩ ::
⟨(some 62), .callF 16 [(.tmp 61)], none⟩ ::
⟨(some 4), .mv (.tmp 57), none⟩ ::
⟨(some 5), .mv (.tmp 62), none⟩ ::
⟨(some 6), .mv (.const (.bool true)), none⟩ ::
[])
(⟨0, [], []⟩ :: ⟨2, [], []⟩ :: ⟨3, [], []⟩ :: ⟨4, [], []⟩ :: ⟨5, [], []⟩ :: ⟨1, [], [5]⟩ :: ⟨6, [], []⟩ :: ⟨7, [], []⟩ :: ⟨8, [], []⟩ :: ⟨9, [], []⟩ :: []))
.ret)
.skip))))
(.plain (
⟨(some 63), .bin .add (.tmp 45) (.const (.int .i64 1)), none⟩ ::
⟨(some 45), .mv (.tmp 63), none⟩ ::
[]))))))))))
(.plain (
⟨(some 64), .bin .add (.tmp 36) (.const (.int .i64 1)), none⟩ ::
⟨(some 36), .mv (.tmp 64), none⟩ ::
[]))))))))
(.seq
(.plain (
⟨(some 4), .mv (.const (.slice none 0 0)), none⟩ ::
⟨(some 5), .mv (.const (.slice none 0 0)), none⟩ ::
⟨(some 6), .mv (.const (.bool false)), none⟩ ::
[]))
.ret)))))
theorem prep6 : prepFunc Tryz.prog 0 6 = some F6 := by kernel_rfl

-- indenture/indentureref29.Pair
def F7 : AFunc where
  ntmps := 55
  nparams := 2
  results := [(4, none), (5, none), (6, none)]
  code :=
(.seq
(.plain (
⟨(some 4), .mv (.const (.slice none 0 0)), none⟩ ::
⟨(some 5), .mv (.const (.slice none 0 0)), none⟩ ::
⟨(some 6), .mv (.const (.bool false)), none⟩ ::
[]))
(.seq
(.seq
(.plain (
⟨(some 7), .mv (.const (.int .i64 0)), none⟩ ::
[]))
(.block 0
(.loop
(.seq
(.seq
(.plain (
⟨(some 10), .mv (.tmp 7), none⟩ ::
⟨(some 11), .mv (.tmp 0), none⟩ ::
⟨(some 12), .len (.tmp 11), none⟩ ::
⟨(some 13), .bin .lss (.tmp 10) (.tmp 12), none⟩ ::
[]))
(.cond (.tmp 13)
.skip
(.exit 0)))
(.seq
(.block 1
(.seq
(.plain (
⟨(some 16), .mv (.tmp 0), none⟩ ::
⟨(some 17), .mv (.tmp 7), none⟩ ::
⟨(some 18), .iaS 1 (.tmp 16) (.tmp 17), none⟩ ::
⟨(some 19), .load false 1 (.tmp 18), none⟩ ::
⟨(some 20), .callF 17 [(.tmp 19)], none⟩ ::
⟨(some 8), .alloc 30 (List.replicate 32 (.v (.int .u8 0))), none⟩ ::
⟨none, .store 32 (.tmp 8) (.tmp 20), none⟩ ::
[]))
(.seq
(.plain (
⟨(some 9), .mv (.const (.int .i64 0)), none⟩ ::
[]))
(.block 2
(.loop
(.seq
(.seq
(.plain (
⟨(some 21), .mv (.tmp 9), none⟩ ::
⟨(some 22), .mv (.tmp 1), none⟩ ::
⟨(some 23), .len (.tmp 22), none⟩ ::
⟨(some 24), .bin .lss (.tmp 21) (.tmp 23), none⟩ ::
[]))
(.cond (.tmp 24)
.skip
(.exit 2)))
(.seq
(.block 3
(.seq
(.draw (
⟨(some 27), .mv (.tmp 0), none⟩ ::
⟨(some 28), .mv (.tmp 7), none⟩ ::
⟨(some 29), .iaS 1 (.tmp 27) (.tmp 28), none⟩ ::
⟨(some 30), .load false 1 (.tmp 29), none⟩ ::
⟨(some 31), .b2sM (.tmp 30), none⟩ ::
⟨(some 32), .mv (.tmp 1), none⟩ ::
⟨(some 33), .mv (.tmp 9), none⟩ ::
⟨(some 34), .iaS 1 (.tmp 32) (.tmp 33), none⟩ ::
⟨(some 35), .load false 1 (.tmp 34), none⟩ ::
⟨(some 36), .b2sM (.tmp 35), none⟩ ::
⟨(some 37), .bin .neq (.tmp 31) (.tmp 36), none⟩ ::
⟨(some 38), .mv (.tmp 37), none⟩ ::
⟨(some 39), .load true 32 (.tmp 8), (some (38, true))⟩ ::
⟨(some 40), .mv (.tmp 1), (some (38, true))⟩ ::
⟨(some 41), .mv (.tmp 9), (some (38, true))⟩ ::
⟨(some 42), .iaS 1 (.tmp 40) (.tmp 41), (some (38, true))⟩ ::
⟨(some 43), .load false 1 (.tmp 42), (some (38, true))⟩ ::
⟨(some 44), .callF 17 [(.tmp 43)], (some (38, true))⟩ ::
⟨(some 45), .eqv false [(32, .int .u8)] (.tmp 39) (.tmp 44), (some (38, true))⟩ ::
⟨(some 46), .pick (.tmp 38) (.tmp 45) (.const (.bool false)), none⟩ ::
[])
(⟨0, [], []⟩ :: ⟨1, [], []⟩ :: ⟨2, [], []⟩ :: ⟨3, [], []⟩ :: ⟨4, [], []⟩ :: ⟨5, [], []⟩ :: ⟨6, [], []⟩ :: ⟨7, [], []⟩ :: ⟨8, [], []⟩ :: ⟨9, [], []⟩ :: ⟨10, [], []⟩ :: ⟨11, [], []⟩ :: ⟨12, [], []⟩ :: ⟨13, [], []⟩ :: ⟨14, [], []⟩ :: ⟨15, [], []⟩ :: ⟨16, [], []⟩ :: ⟨17, [], [12]⟩ :: ⟨18, [], []⟩ :: ⟨19, [], []⟩ :: []))
(.cond (.tmp 46)
(.seq
(.draw (
⟨(some 47), .mv (.tmp 0), none⟩ ::
⟨(some 48), .mv (.tmp 7), none⟩ ::
⟨(some 49), .iaS 1 (.tmp 47) (.tmp 48), none⟩ ::
⟨(some 50), .load false 1 (.tmp 49), none⟩ ::
⟨(some 51), .mv (.tmp 1), none⟩ ::
⟨(some 52), .mv (.tmp 9), none⟩ ::
⟨(some 53), .iaS 1 (.tmp 51) (.tmp 52), none⟩ ::
⟨(some 54), .load false 1 (.tmp 53), none⟩ ::
⟨(some 4), .mv (.tmp 50), none⟩ ::
⟨(some 5), .mv (.tmp 54), none⟩ ::
⟨(some 6), .mv (.const (.bool true)), none⟩ ::
[])
(⟨0, [], []⟩ :: ⟨1, [], []⟩ :: ⟨2, [], []⟩ :: ⟨3, [], []⟩ :: ⟨4, [], []⟩ :: ⟨5, [], []⟩ :: ⟨6, [], []⟩ :: ⟨7, [], []⟩ :: ⟨8, [], []⟩ :: ⟨9, [], []⟩ :: ⟨10, [], []⟩ :: []))
.ret)
.skip)))
(.plain (
⟨(some 25), .mv (.tmp 9), none⟩ ::
⟨(some 26), .bin .add (.tmp 25) (.const (.int .i64 1)), none⟩ ::
⟨(some 9), .mv (.tmp 26), none⟩ ::
[])))))))))
(.plain (
⟨(some 14), .mv (.tmp 7), none⟩ ::
⟨(some 15), .bin .add (.tmp 14) (.const (.int .i64 1)), none⟩ ::
⟨(some 7), .mv (.tmp 15), none⟩ ::
[])))))))
(.seq
(.plain (
⟨(some 4), .mv (.const (.slice none 0 0)), none⟩ ::
⟨(some 5), .mv (.const (.slice none 0 0)), none⟩ ::
⟨(some 6), .mv (.const (.bool false)), none⟩ ::
[]))
.ret)))
theorem prep7 : prepFunc Tryz.prog 1 7 = some F7 := by kernel_rfl

-- indenture/sha.Clash
def F8 : AFunc where
  ntmps := 17
  nparams := 2
  results := [(4, none)]
  code :=
(.seq
(.plain (
⟨(some 4), .mv (.const (.bool false)), none⟩ ::
[]))
(.seq
(.plain (
⟨(some 5), .mv (.tmp 0), none⟩ ::
⟨(some 6), .b2s (.tmp 5), none⟩ ::
⟨(some 7), .mv (.tmp 1), none⟩ ::
⟨(some 8), .b2s (.tmp 7), none⟩ ::
⟨(some 9), .bin .neq (.tmp 6) (.tmp 8), none⟩ ::
⟨(some 10), .mv (.tmp 9), none⟩ ::
⟨(some 11), .mv (.tmp 0), (some (10, true))⟩ ::
⟨(some 12), .callF 14 [(.tmp 11)], (some (10, true))⟩ ::
⟨(some 13), .mv (.tmp 1), (some (10, true))⟩ ::
⟨(some 14), .callF 14 [(.tmp 13)], (some (10, true))⟩ ::
⟨(some 15), .eqv false [(32, .int .u8)] (.tmp 12) (.tmp 14), (some (10, true))⟩ ::
⟨(some 16), .pick (.tmp 10) (.tmp 15) (.const (.bool false)), none⟩ ::
⟨(some 4), .mv (.tmp 16), none⟩ ::
[]))
.ret))
theorem prep8 : prepFunc Tryz.prog 0 8 = some F8 := by kernel_rfl

-- indenture/extract.Members
def F9 : AFunc where
  ntmps := 51
  nparams := 9
  results := [(18, none), (19, none), (20, none)]
  code :=
(.seq
(.plain (
⟨(some 9), .box 30 (.tmp 0), none⟩ ::
⟨(some 10), .box 32 (.tmp 1), none⟩ ::
⟨(some 11), .box 30 (.tmp 2), none⟩ ::
⟨(some 12), .box 32 (.tmp 3), none⟩ ::
⟨(some 14), .box 37 (.tmp 5), none⟩ ::
⟨(some 15), .box 37 (.tmp 6), none⟩ ::
⟨(some 18), .mv (.const (.slice none 0 0)), none⟩ ::
⟨(some 19), .mv (.const (.slice none 0 0)), none⟩ ::
⟨(some 20), .mv (.const (.bool false)), none⟩ ::
[]))
(.seq
(.draw (
⟨(some 22), .load true 166 (.tmp 14), none⟩ ::
⟨(some 23), .callF 19 [(.tmp 22)], none⟩ ::
⟨(some 24), .load true 166 (.tmp 15), none⟩ ::
⟨(some 25), .callF 19 [(.tmp 24)], none⟩ ::
⟨(some 26), .load true 65 (.tmp 10), none⟩ ::
⟨(some 27), .callF 20 [(.tmp 26)], none⟩ ::
⟨(some 28), .load true 65 (.tmp 12), none⟩ ::
⟨(some 29), .callF 20 [(.tmp 28)], none⟩ ::
⟨(some 30), .bsl 1 [(.tmp 27), (.tmp 29)], none⟩ ::
⟨(some 31), .fa 1 (.tmp 10), none⟩ ::
⟨(some 32), .load true 32 (.tmp 31), none⟩ ::
⟨(some 33), .fa 0 (.tmp 10), none⟩ ::
⟨(some 34), .load false 1 (.tmp 33), none⟩ ::
⟨(some 35), .fa 0 (.tmp 12), none⟩ ::
⟨(some 36), .load false 1 (.tmp 35), none⟩ ::
⟨(some 37), .mv (.tmp 4), none⟩ ::
⟨(some 38), .callF 21 [(.tmp 32), (.tmp 34), (.tmp 36), (.tmp 37)], none⟩ ::
⟨(some 39), .mv (.tmp 7), none⟩ ::
⟨(some 40), .callF 22 [(.tmp 39)], none⟩ ::
⟨(some 41), .mv (.tmp 8), none⟩ ::
⟨(some 42), .callF 22 [(.tmp 41)], none⟩ ::
⟨(some 43), .bsl 1 [(.tmp 23), (.tmp 25), (.tmp 30), (.tmp 38), (.tmp 40), (.tmp 42)], none⟩ ::
⟨(some 44), .callF 18 [(.tmp 43)], none⟩ ::
⟨(some 21), .mv (.tmp 44), none⟩ ::
[])
(⟨0, [], []⟩ :: ⟨2, [], []⟩ :: ⟨4, [], []⟩ :: ⟨6, [], []⟩ :: ⟨9, [], []⟩ :: ⟨10, [], []⟩ :: ⟨11, [], []⟩ :: ⟨12, [], []⟩ :: ⟨13, [], []⟩ :: ⟨14, [], []⟩ :: ⟨15, [], []⟩ :: ⟨17, [], []⟩ :: ⟨19, [], []⟩ :: ⟨1, [], [2, 4, 6, 10, 12, 14]⟩ :: ⟨3, [], [4, 6, 10, 12, 14]⟩ :: ⟨5, [], [6, 10, 12, 14]⟩ :: ⟨7, [], [10, 12, 14]⟩ :: ⟨16, [8], []⟩ :: ⟨18, [8], []⟩ :: ⟨20, [8], []⟩ :: ⟨8, [], []⟩ :: ⟨21, [], []⟩ :: ⟨22, [], []⟩ :: ⟨23, [], []⟩ :: []))
(.seq
(.plain (
⟨(some 45), .mv (.tmp 21), none⟩ ::
⟨(some 46), .mv (.tmp 21), none⟩ ::
⟨(some 47), .callF 6 [(.tmp 45), (.tmp 46)], none⟩ ::
⟨(some 48), .ext (.tmp 47) 0, none⟩ ::
⟨(some 49), .ext (.tmp 47) 1, none⟩ ::
⟨(some 50), .ext (.tmp 47) 2, none⟩ ::
⟨(some 18), .mv (.tmp 48), none⟩ ::
⟨(some 19), .mv (.tmp 49), none⟩ ::
⟨(some 20), .mv (.tmp 50), none⟩ ::
[]))
.ret)))
theorem prep9 : prepFunc Tryz.prog 0 9 = some F9 := by kernel_rfl

-- indenture/proof.Member
def F10 : AFunc where
  ntmps := 39
  nparams := 3
  results := [(6, (some (true, 97))), (7, none), (8, none)]
  code :=
(.seq
(.plain (
⟨(some 3), .box 30 (.tmp 0), none⟩ ::
⟨(some 4), .box 37 (.tmp 1), none⟩ ::
⟨(some 6), .alloc 35 (List.replicate 32 (.v (.int .u8 0)) ++ [(.v (.int .i64 0))] ++ List.replicate 64 (.v (.int .u8 0))), none⟩ ::
⟨(some 7), .mv (.const (.slice none 0 0)), none⟩ ::
⟨(some 8), .mv (.const (.int .i64 0)), none⟩ ::
[]))
(.seq
(.plain (
⟨(some 14), .mv (.tmp 2), none⟩ ::
⟨(some 15), .callF 23 [(.tmp 14)], none⟩ ::
⟨(some 13), .mv (.tmp 15), none⟩ ::
⟨(some 16), .ext (.tmp 13) 0, none⟩ ::
⟨(some 17), .ext (.tmp 13) 1, none⟩ ::
⟨(some 18), .ext (.tmp 13) 2, none⟩ ::
⟨(some 9), .alloc 35 (List.replicate 32 (.v (.int .u8 0)) ++ [(.v (.int .i64 0))] ++ List.replicate 64 (.v (.int .u8 0))), none⟩ ::
⟨none, .store 97 (.tmp 9) (.tmp 16), none⟩ ::
⟨(some 10), .mv (.tmp 17), none⟩ ::
⟨(some 11), .mv (.tmp 18), none⟩ ::
[]))
(.seq
(.seq
(.plain (
⟨(some 19), .mv (.tmp 11), none⟩ ::
⟨(some 20), .bin .neq (.tmp 19) (.const (.int .i64 0)), none⟩ ::
[]))
(.cond (.tmp 20)
(.seq
(.plain (
⟨(some 21), .bld (List.replicate 32 (.v (.int .u8 0)) ++ [(.v (.int .i64 0))] ++ List.replicate 64 (.v (.int .u8 0))) [], none⟩ ::
⟨(some 22), .mv (.tmp 11), none⟩ ::
⟨none, .store 97 (.tmp 6) (.tmp 21), none⟩ ::
⟨(some 7), .mv (.const (.slice none 0 0)), none⟩ ::
⟨(some 8), .mv (.tmp 22), none⟩ ::
[]))
.ret)
.skip))
(.seq
(.seq
(.plain (
⟨(some 23), .load true 166 (.tmp 4), none⟩ ::
⟨(some 24), .load true 32 (.tmp 3), none⟩ ::
⟨(some 25), .fa 32 (.tmp 9), none⟩ ::
⟨(some 26), .load false 1 (.tmp 25), none⟩ ::
⟨(some 27), .callF 24 [(.tmp 23), (.tmp 24), (.tmp 26)], none⟩ ::
⟨(some 12), .mv (.tmp 27), none⟩ ::
[]))
(.seq
(.plain (
⟨(some 28), .mv (.tmp 12), none⟩ ::
⟨(some 29), .bin .neq (.tmp 28) (.const (.int .i64 0)), none⟩ ::
[]))
(.cond (.tmp 29)
(.seq
(.plain (
⟨(some 30), .bld (List.replicate 32 (.v (.int .u8 0)) ++ [(.v (.int .i64 0))] ++ List.replicate 64 (.v (.int .u8 0))) [], none⟩ ::
⟨(some 31), .mv (.tmp 12), none⟩ ::
⟨none, .store 97 (.tmp 6) (.tmp 30), none⟩ ::
⟨(some 7), .mv (.const (.slice none 0 0)), none⟩ ::
⟨(some 8), .mv (.tmp 31), none⟩ ::
[]))
.ret)
.skip)))
(.seq
(.seq
(.plain (
⟨(some 32), .load true 97 (.tmp 9), none⟩ ::
⟨(some 33), .fa 65 (.tmp 4), none⟩ ::
⟨(some 34), .load true 97 (.tmp 33), none⟩ ::
⟨(some 35), .eqv true [(32, .int .u8), (1, .int .i64), (64, .int .u8)] (.tmp 32) (.tmp 34), none⟩ ::
[]))
(.cond (.tmp 35)
(.seq
(.plain (
⟨(some 36), .bld (List.replicate 32 (.v (.int .u8 0)) ++ [(.v (.int .i64 0))] ++ List.replicate 64 (.v (.int .u8 0))) [], none⟩ ::
⟨none, .store 97 (.tmp 6) (.tmp 36), none⟩ ::
⟨(some 7), .mv (.const (.slice none 0 0)), none⟩ ::
⟨(some 8), .mv (.const (.int .i64 42)), none⟩ ::
[]))
.ret)
.skip))
(.seq
(.plain (
⟨(some 37), .load true 97 (.tmp 9), none⟩ ::
⟨(some 38), .mv (.tmp 10), none⟩ ::
⟨none, .store 97 (.tmp 6) (.tmp 37), none⟩ ::
⟨(some 7), .mv (.tmp 38), none⟩ ::
⟨(some 8), .mv (.const (.int .i64 0)), none⟩ ::
[]))
.ret))))))
theorem prep10 : prepFunc Tryz.prog 0 10 = some F10 := by kernel_rfl

-- indenture/proof.Grows
def F11 : AFunc where
  ntmps := 33
  nparams := 5
  results := [(10, none)]
  code :=
(.seq
(.plain (
⟨(some 5), .box 30 (.tmp 0), none⟩ ::
⟨(some 6), .box 32 (.tmp 1), none⟩ ::
⟨(some 7), .box 30 (.tmp 2), none⟩ ::
⟨(some 8), .box 32 (.tmp 3), none⟩ ::
⟨(some 10), .mv (.const (.bool false)), none⟩ ::
[]))
(.seq
(.draw (
⟨(some 11), .load true 65 (.tmp 6), none⟩ ::
⟨(some 12), .callF 25 [(.tmp 11)], none⟩ ::
⟨(some 13), .load true 32 (.tmp 5), none⟩ ::
⟨(some 14), .eqv false [(32, .int .u8)] (.tmp 12) (.tmp 13), none⟩ ::
⟨(some 15), .mv (.tmp 14), none⟩ ::
⟨(some 16), .load true 65 (.tmp 8), (some (15, true))⟩ ::
⟨(some 17), .callF 25 [(.tmp 16)], (some (15, true))⟩ ::
⟨(some 18), .load true 32 (.tmp 7), (some (15, true))⟩ ::
⟨(some 19), .eqv false [(32, .int .u8)] (.tmp 17) (.tmp 18), (some (15, true))⟩ ::
⟨(some 20), .pick (.tmp 15) (.tmp 19) (.const (.bool false)), none⟩ ::
⟨(some 21), .mv (.tmp 20), none⟩ ::
⟨(some 22), .fa 1 (.tmp 6), (some (21, true))⟩ ::
⟨(some 23), .load true 32 (.tmp 22), (some (21, true))⟩ ::
⟨(some 24), .fa 0 (.tmp 6), (some (21, true))⟩ ::
⟨(some 25), .load false 1 (.tmp 24), (some (21, true))⟩ ::
⟨(some 26), .fa 1 (.tmp 8), (some (21, true))⟩ ::
⟨(some 27), .load true 32 (.tmp 26), (some (21, true))⟩ ::
⟨(some 28), .fa 0 (.tmp 8), (some (21, true))⟩ ::
⟨(some 29), .load false 1 (.tmp 28), (some (21, true))⟩ ::
⟨(some 30), .mv (.tmp 4), (some (21, true))⟩ ::
⟨(some 31), .callF 26 [(.tmp 23), (.tmp 25), (.tmp 27), (.tmp 29), (.tmp 30)], (some (21, true))⟩ ::
⟨(some 32), .pick (.tmp 21) (.tmp 31) (.const (.bool false)), none⟩ ::
⟨(some 10), .mv (.tmp 32), none⟩ ::
[])
(⟨0, [], []⟩ :: ⟨2, [], []⟩ :: ⟨1, [], [2]⟩ :: ⟨3, [], []⟩ :: ⟨4, [], []⟩ :: ⟨5, [], []⟩ :: ⟨7, [], []⟩ :: ⟨6, [], [7]⟩ :: ⟨8, [], []⟩ :: ⟨9, [], []⟩ :: ⟨10, [], []⟩ :: ⟨11, [], []⟩ :: ⟨12, [], []⟩ :: ⟨13, [], []⟩ :: ⟨14, [], []⟩ :: ⟨15, [], []⟩ :: ⟨16, [], []⟩ :: ⟨17, [], []⟩ :: ⟨18, [], []⟩ :: ⟨19, [], []⟩ :: ⟨20, [], []⟩ :: ⟨21, [], []⟩ :: ⟨22, [], []⟩ :: []))
.ret))
theorem prep11 : prepFunc Tryz.prog 0 11 = some F11 := by kernel_rfl

-- indenture/sha.Preimage
def F12 : AFunc where
  ntmps := 26
  nparams := 2
  results := [(4, none)]
  code :=
(.seq
(.plain (
⟨(some 4), .mv (.const (.slice none 0 0)), none⟩ ::
[]))
(.seq
(.plain (
⟨(some 8), .mv (.tmp 0), none⟩ ::
⟨(some 9), .bsl 1 [(.tmp 8)], none⟩ ::
⟨(some 5), .mv (.tmp 9), none⟩ ::
[]))
(.seq
(.seq
(.plain (
⟨(some 10), .mv (.tmp 1), none⟩ ::
⟨(some 11), .len (.tmp 10), none⟩ ::
⟨(some 12), .mv (.const (.int .i64 0)), none⟩ ::
[]))
(.block 0
(.loop
(.seq
(.plain (
⟨(some 13), .bin .lss (.tmp 12) (.tmp 11), none⟩ ::
[]))
(.seq
(.cond (.tmp 13)
.skip
(.exit 0))
(.seq
(.block 1
(.seq
(.plain (
⟨(some 14), .iaS 1 (.tmp 10) (.tmp 12), none⟩ ::
⟨(some 15), .load false 1 (.tmp 14), none⟩ ::
⟨(some 7), .mv (.tmp 15), none⟩ ::
[]))
(.plain (
⟨(some 16), .mv (.tmp 5), none⟩ ::
⟨(some 17), .mv (.tmp 7), none⟩ ::
⟨(some 18), .len (.tmp 17), none⟩ ::
⟨(some 19), .cvt .u64 (.tmp 18), none⟩ ::
⟨(some 20), .callF 27 [(.tmp 19)], none⟩ ::
⟨(some 21), .app 1 1 (.tmp 16) (.tmp 20), none⟩ ::
⟨(some 22), .mv (.tmp 7), none⟩ ::
⟨(some 23), .app 1 1 (.tmp 21) (.tmp 22), none⟩ ::
⟨(some 5), .mv (.tmp 23), none⟩ ::
[]))))
(.plain (
⟨(some 24), .bin .add (.tmp 12) (.const (.int .i64 1)), none⟩ ::
⟨(some 12), .mv (.tmp 24), none⟩ ::
[]))))))))
(.seq
(.plain (
⟨(some 25), .mv (.tmp 5), none⟩ ::
⟨(some 4), .mv (.tmp 25), none⟩ ::
[]))
.ret))))
theorem prep12 : prepFunc Tryz.prog 0 12 = some F12 := by kernel_rfl

-- indenture/extract.Own
def F13 : AFunc where
  ntmps := 92
  nparams := 1
  results := [(2, none)]
  code :=
(.seq
(.plain (
⟨(some 2), .mv (.const (.slice none 0 0)), none⟩ ::
[]))
(.seq
(.seq
(.plain (
⟨(some 18), .mv (.tmp 0), none⟩ ::
⟨(some 19), .eqp false (.tmp 18) (.const (.pointer none)), none⟩ ::
[]))
(.cond (.tmp 19)
(.seq
(.plain (
⟨(some 2), .mv (.const (.slice none 0 0)), none⟩ ::
[]))
.ret)
.skip))
(.seq
(.plain (
⟨(some 20), .mv (.tmp 0), none⟩ ::
⟨(some 21), .callF 28 [(.tmp 20)], none⟩ ::
⟨(some 22), .callF 20 [(.tmp 21)], none⟩ ::
⟨(some 23), .bsl 1 [(.tmp 22)], none⟩ ::
⟨(some 3), .mv (.tmp 23), none⟩ ::
[]))
(.seq
(.plain (
⟨(some 24), .mv (.tmp 0), none⟩ ::
⟨(some 25), .callF 29 [(.tmp 24)], none⟩ ::
⟨(some 4), .mv (.tmp 25), none⟩ ::
[]))
(.seq
(.seq
(.plain (
⟨(some 26), .mv (.tmp 4), none⟩ ::
⟨(some 27), .len (.tmp 26), none⟩ ::
⟨(some 28), .mv (.const (.int .i64 0)), none⟩ ::
[]))
(.block 0
(.loop
(.seq
(.plain (
⟨(some 29), .bin .lss (.tmp 28) (.tmp 27), none⟩ ::
[]))
(.seq
(.cond (.tmp 29)
.skip
(.exit 0))
(.seq
(.block 1
(.seq
(.plain (
⟨(some 30), .mv (.tmp 28), none⟩ ::
⟨(some 31), .iaS 32 (.tmp 26) (.tmp 28), none⟩ ::
⟨(some 32), .load true 32 (.tmp 31), none⟩ ::
⟨(some 6), .alloc 30 (List.replicate 32 (.v (.int .u8 0))), none⟩ ::
⟨(some 5), .mv (.tmp 30), none⟩ ::
⟨none, .store 32 (.tmp 6) (.tmp 32), none⟩ ::
[]))
(.seq
(.plain (
⟨(some 34), .mv (.tmp 0), none⟩ ::
⟨(some 35), .mv (.tmp 5), none⟩ ::
⟨(some 36), .callF 30 [(.tmp 34), (.tmp 35)], none⟩ ::
⟨(some 33), .mv (.tmp 36), none⟩ ::
⟨(some 37), .ext (.tmp 33) 0, none⟩ ::
⟨(some 38), .ext (.tmp 33) 1, none⟩ ::
⟨(some 7), .alloc 35 (List.replicate 32 (.v (.int .u8 0)) ++ [(.v (.int .i64 0))] ++ List.replicate 64 (.v (.int .u8 0))), none⟩ ::
⟨none, .store 97 (.tmp 7) (.tmp 37), none⟩ ::
⟨(some 8), .mv (.tmp 38), none⟩ ::
[]))
(.seq
(.plain (
⟨(some 40), .mv (.tmp 0), none⟩ ::
⟨(some 41), .mv (.tmp 5), none⟩ ::
⟨(some 42), .callF 31 [(.tmp 40), (.tmp 41)], none⟩ ::
⟨(some 39), .mv (.tmp 42), none⟩ ::
⟨(some 43), .ext (.tmp 39) 0, none⟩ ::
⟨(some 44), .ext (.tmp 39) 1, none⟩ ::
⟨(some 9), .mv (.tmp 43), none⟩ ::
⟨(some 10), .mv (.tmp 44), none⟩ ::
[]))
(.seq
(.plain (
⟨(some 46), .mv (.tmp 0), none⟩ ::
⟨(some 47), .mv (.tmp 5), none⟩ ::
⟨(some 48), .bin .add (.tmp 47) (.const (.int .i64 1)), none⟩ ::
⟨(some 49), .callF 32 [(.tmp 46), (.tmp 48)], none⟩ ::
⟨(some 45), .mv (.tmp 49), none⟩ ::
⟨(some 50), .ext (.tmp 45) 0, none⟩ ::
⟨(some 51), .ext (.tmp 45) 1, none⟩ ::
⟨(some 11), .mv (.tmp 50), none⟩ ::
⟨(some 12), .mv (.tmp 51), none⟩ ::
[]))
(.draw (
⟨(some 52), .mv (.tmp 3), none⟩ ::
⟨(some 53), .load true 97 (.tmp 7), none⟩ ::
⟨(some 54), .callF 33 [(.tmp 53)], none⟩ ::
⟨(some 55), .bsl 1 [(.tmp 54)], none⟩ ::
⟨(some 56), .mv (.tmp 4), none⟩ ::
⟨(some 57), .len (.tmp 56), none⟩ ::
⟨(some 58), .mv (.tmp 5), none⟩ ::
⟨(some 59), .load true 32 (.tmp 6), none⟩ ::
⟨(some 60), .mv (.tmp 9), none⟩ ::
⟨(some 61), .callF 34 [(.tmp 57), (.tmp 58), (.tmp 59), (.tmp 60)], none⟩ ::
⟨(some 62), .mv (.tmp 11), none⟩ ::
⟨(some 63), .callF 36 [(.tmp 62)], none⟩ ::
⟨(some 64), .callF 35 [(.tmp 63)], none⟩ ::
⟨(some 65), .bsl 1 [(.tmp 64)], none⟩ ::
⟨(some 66), .bsl 1 [(.tmp 52), (.tmp 55), (.tmp 61), (.tmp 65)], none⟩ ::
⟨(some 67), .callF 18 [(.tmp 66)], none⟩ ::
⟨(some 3), .mv (.tmp 67), none⟩ ::
[])
(⟨0, [], []⟩ :: ⟨1, [], []⟩ :: ⟨4, [], []⟩ :: ⟨5, [], []⟩ :: ⟨6, [], []⟩ :: ⟨7, [], []⟩ :: ⟨8, [], []⟩ :: ⟨10, [], []⟩ :: ⟨2, [], [7]⟩ :: ⟨9, [3], []⟩ :: ⟨11, [3], []⟩ :: ⟨12, [3], []⟩ :: ⟨3, [13], []⟩ :: ⟨13, [], []⟩ :: ⟨14, [], []⟩ :: ⟨15, [], []⟩ :: ⟨16, [], []⟩ :: [])))))))
(.plain (
⟨(some 68), .bin .add (.tmp 28) (.const (.int .i64 1)), none⟩ ::
⟨(some 28), .mv (.tmp 68), none⟩ ::
[]))))))))
(.seq
(.plain (
⟨(some 69), .mv (.tmp 0), none⟩ ::
⟨(some 70), .callF 37 [(.tmp 69)], none⟩ ::
⟨(some 71), .callF 38 [(.tmp 70)], none⟩ ::
⟨(some 13), .mv (.tmp 71), none⟩ ::
[]))
(.seq
(.seq
(.plain (
⟨(some 72), .mv (.tmp 13), none⟩ ::
⟨(some 73), .callF 39 [(.tmp 72)], none⟩ ::
⟨(some 74), .len (.tmp 73), none⟩ ::
⟨(some 75), .mv (.const (.int .i64 0)), none⟩ ::
[]))
(.block 2
(.loop
(.seq
(.plain (
⟨(some 76), .bin .lss (.tmp 75) (.tmp 74), none⟩ ::
[]))
(.seq
(.cond (.tmp 76)
.skip
(.exit 2))
(.seq
(.block 3
(.seq
(.plain (
⟨(some 77), .iaS 32 (.tmp 73) (.tmp 75), none⟩ ::
⟨(some 78), .load true 32 (.tmp 77), none⟩ ::
⟨(some 15), .alloc 30 (List.replicate 32 (.v (.int .u8 0))), none⟩ ::
⟨none, .store 32 (.tmp 15) (.tmp 78), none⟩ ::
[]))
(.seq
(.plain (
⟨(some 80), .mv (.tmp 13), none⟩ ::
⟨(some 81), .load true 32 (.tmp 15), none⟩ ::
⟨(some 82), .callF 40 [(.tmp 80), (.tmp 81)], none⟩ ::
⟨(some 79), .mv (.tmp 82), none⟩ ::
⟨(some 83), .ext (.tmp 79) 0, none⟩ ::
⟨(some 84), .ext (.tmp 79) 1, none⟩ ::
⟨(some 16), .mv (.tmp 83), none⟩ ::
⟨(some 17), .mv (.tmp 84), none⟩ ::
[]))
(.plain (
⟨(some 85), .mv (.tmp 3), none⟩ ::
⟨(some 86), .mv (.tmp 16), none⟩ ::
⟨(some 87), .callF 41 [(.tmp 86)], none⟩ ::
⟨(some 88), .bsl 1 [(.tmp 87)], none⟩ ::
⟨(some 89), .app 1 24 (.tmp 85) (.tmp 88), none⟩ ::
⟨(some 3), .mv (.tmp 89), none⟩ ::
[])))))
(.plain (
⟨(some 90), .bin .add (.tmp 75) (.const (.int .i64 1)), none⟩ ::
⟨(some 75), .mv (.tmp 90), none⟩ ::
[]))))))))
(.seq
(.plain (
⟨(some 91), .mv (.tmp 3), none⟩ ::
⟨(some 2), .mv (.tmp 91), none⟩ ::
[]))
.ret))))))))
theorem prep13 : prepFunc Tryz.prog 0 13 = some F13 := by kernel_rfl

-- indenture/sha.Sum
def F14 : AFunc where
  ntmps := 10
  nparams := 1
  results := [(2, (some (true, 32)))]
  code :=
(.seq
(.plain (
⟨(some 2), .alloc 30 (List.replicate 32 (.v (.int .u8 0))), none⟩ ::
[]))
(.seq
(.plain (
⟨(some 4), .callF 42 [], none⟩ ::
⟨(some 3), .mv (.tmp 4), none⟩ ::
[]))
(.seq
(.plain (
⟨(some 5), .mv (.tmp 3), none⟩ ::
⟨(some 6), .mv (.tmp 0), none⟩ ::
⟨(some 7), .callF 43 [(.tmp 5), (.tmp 6)], none⟩ ::
[]))
(.seq
(.plain (
⟨(some 8), .mv (.tmp 3), none⟩ ::
⟨(some 9), .callF 44 [(.tmp 8)], none⟩ ::
⟨none, .store 32 (.tmp 2) (.tmp 9), none⟩ ::
[]))
.ret))))
theorem prep14 : prepFunc Tryz.prog 0 14 = some F14 := by kernel_rfl

-- slices.Equal[[]byte,byte]
def F15 : AFunc where
  ntmps := 26
  nparams := 2
  results := [(4, none)]
  code :=
(.seq
(.plain (
⟨(some 4), .mv (.const (.bool false)), none⟩ ::
[]))
(.seq
(.seq
(.plain (
⟨(some 6), .mv (.tmp 0), none⟩ ::
⟨(some 7), .len (.tmp 6), none⟩ ::
⟨(some 8), .mv (.tmp 1), none⟩ ::
⟨(some 9), .len (.tmp 8), none⟩ ::
⟨(some 10), .bin .neq (.tmp 7) (.tmp 9), none⟩ ::
[]))
(.cond (.tmp 10)
(.seq
(.plain (
⟨(some 4), .mv (.const (.bool false)), none⟩ ::
[]))
.ret)
.skip))
(.seq
(.seq
(.plain (
⟨(some 11), .mv (.tmp 0), none⟩ ::
⟨(some 12), .len (.tmp 11), none⟩ ::
⟨(some 13), .mv (.const (.int .i64 0)), none⟩ ::
[]))
(.block 0
(.loop
(.seq
(.plain (
⟨(some 14), .bin .lss (.tmp 13) (.tmp 12), none⟩ ::
[]))
(.seq
(.cond (.tmp 14)
.skip
(.exit 0))
(.seq
(.block 1
(.seq
(.plain (
⟨(some 15), .mv (.tmp 13), none⟩ ::
⟨(some 5), .mv (.tmp 15), none⟩ ::
[]))
(.seq
(.draw (
⟨(some 16), .mv (.tmp 0), none⟩ ::
⟨(some 17), .mv (.tmp 5), none⟩ ::
⟨(some 18), .iaS 1 (.tmp 16) (.tmp 17), none⟩ ::
⟨(some 19), .load false 1 (.tmp 18), none⟩ ::
⟨(some 20), .mv (.tmp 1), none⟩ ::
⟨(some 21), .mv (.tmp 5), none⟩ ::
⟨(some 22), .iaS 1 (.tmp 20) (.tmp 21), none⟩ ::
⟨(some 23), .load false 1 (.tmp 22), none⟩ ::
⟨(some 24), .bin .neq (.tmp 19) (.tmp 23), none⟩ ::
[])
(⟨0, [], []⟩ :: ⟨1, [], []⟩ :: ⟨2, [], []⟩ :: ⟨3, [], []⟩ :: ⟨4, [], []⟩ :: ⟨5, [], []⟩ :: ⟨6, [], []⟩ :: ⟨7, [], []⟩ :: ⟨8, [], []⟩ :: []))
(.cond (.tmp 24)
(.seq
(.plain (
⟨(some 4), .mv (.const (.bool false)), none⟩ ::
[]))
.ret)
.skip))))
(.plain (
⟨(some 25), .bin .add (.tmp 13) (.const (.int .i64 1)), none⟩ ::
⟨(some 13), .mv (.tmp 25), none⟩ ::
[]))))))))
(.seq
(.plain (
⟨(some 4), .mv (.const (.bool true)), none⟩ ::
[]))
.ret))))
theorem prep15 : prepFunc Tryz.prog 0 15 = some F15 := by kernel_rfl

-- slices.Clone[[]byte,byte]
def F16 : AFunc where
  ntmps := 8
  nparams := 1
  results := [(2, none)]
  code :=
(.seq
(.plain (
⟨(some 2), .mv (.const (.slice none 0 0)), none⟩ ::
[]))
(.seq
(.seq
(.plain (
⟨(some 3), .mv (.tmp 0), none⟩ ::
⟨(some 4), .eqn false (.tmp 3), none⟩ ::
[]))
(.cond (.tmp 4)
(.seq
(.plain (
⟨(some 2), .mv (.const (.slice none 0 0)), none⟩ ::
[]))
.ret)
.skip))
(.seq
(.plain (
⟨(some 5), .bsl 1 [], none⟩ ::
⟨(some 6), .mv (.tmp 0), none⟩ ::
⟨(some 7), .app 1 1 (.tmp 5) (.tmp 6), none⟩ ::
⟨(some 2), .mv (.tmp 7), none⟩ ::
[]))
.ret)))
theorem prep16 : prepFunc Tryz.prog 0 16 = some F16 := by kernel_rfl

-- indenture/indentureref01.Sum
def F17 : AFunc where
  ntmps := 6
  nparams := 1
  results := [(2, (some (true, 32)))]
  code :=
(.seq
(.plain (
⟨(some 2), .alloc 30 (List.replicate 32 (.v (.int .u8 0))), none⟩ ::
[]))
(.seq
(.plain (
⟨(some 3), .mv (.tmp 0), none⟩ ::
⟨(some 4), .callF 46 [], none⟩ ::
⟨(some 5), .callF 45 [(.tmp 3), (.tmp 4)], none⟩ ::
⟨none, .store 32 (.tmp 2) (.tmp 5), none⟩ ::
[]))
.ret))
theorem prep17 : prepFunc Tryz.prog 1 17 = some F17 := by kernel_rfl

-- indenture/extract.all
def F18 : AFunc where
  ntmps := 5
  nparams := 1
  results := [(2, none)]
  code :=
(.seq
(.plain (
⟨(some 2), .mv (.const (.slice none 0 0)), none⟩ ::
[]))
(.seq
(.plain (
⟨(some 3), .mv (.tmp 0), none⟩ ::
⟨(some 4), .callF 47 [(.tmp 3)], none⟩ ::
⟨(some 2), .mv (.tmp 4), none⟩ ::
[]))
.ret))
theorem prep18 : prepFunc Tryz.prog 0 18 = some F18 := by kernel_rfl

-- indenture/proof.Preimages
def F19 : AFunc where
  ntmps := 31
  nparams := 1
  results := [(2, none)]
  code :=
(.seq
(.plain (
⟨(some 1), .box 37 (.tmp 0), none⟩ ::
⟨(some 2), .mv (.const (.slice none 0 0)), none⟩ ::
[]))
(.seq
(.draw (
⟨(some 4), .fa 0 (.tmp 1), none⟩ ::
⟨(some 5), .load true 65 (.tmp 4), none⟩ ::
⟨(some 6), .callF 48 [(.tmp 5)], none⟩ ::
⟨(some 7), .fa 65 (.tmp 1), none⟩ ::
⟨(some 8), .load true 97 (.tmp 7), none⟩ ::
⟨(some 9), .callF 33 [(.tmp 8)], none⟩ ::
⟨(some 10), .bsl 1 [(.tmp 6), (.tmp 9)], none⟩ ::
⟨(some 3), .mv (.tmp 10), none⟩ ::
[])
(⟨0, [], []⟩ :: ⟨1, [], []⟩ :: ⟨3, [], []⟩ :: ⟨4, [], []⟩ :: ⟨2, [], [4]⟩ :: ⟨5, [], []⟩ :: ⟨6, [], []⟩ :: ⟨7, [], []⟩ :: []))
(.seq
(.draw (
⟨(some 11), .mv (.tmp 3), none⟩ ::
⟨(some 12), .fa 0 (.tmp 1), none⟩ ::
⟨(some 13), .fa 0 (.tmp 12), none⟩ ::
⟨(some 14), .load false 1 (.tmp 13), none⟩ ::
⟨(some 15), .fa 65 (.tmp 1), none⟩ ::
⟨(some 16), .fa 32 (.tmp 15), none⟩ ::
⟨(some 17), .load false 1 (.tmp 16), none⟩ ::
⟨(some 18), .fa 65 (.tmp 1), none⟩ ::
⟨(some 19), .load true 97 (.tmp 18), none⟩ ::
⟨(some 20), .callF 49 [(.tmp 19)], none⟩ ::
⟨(some 21), .fa 162 (.tmp 1), none⟩ ::
⟨(some 22), .load false 1 (.tmp 21), none⟩ ::
⟨(some 23), .callF 34 [(.tmp 14), (.tmp 17), (.tmp 20), (.tmp 22)], none⟩ ::
⟨(some 24), .app 1 24 (.tmp 11) (.tmp 23), none⟩ ::
⟨(some 3), .mv (.tmp 24), none⟩ ::
[])
(⟨0, [], []⟩ :: ⟨1, [], []⟩ :: ⟨2, [], []⟩ :: ⟨3, [], []⟩ :: ⟨4, [], []⟩ :: ⟨5, [], []⟩ :: ⟨6, [], []⟩ :: ⟨7, [], []⟩ :: ⟨8, [], []⟩ :: ⟨10, [], []⟩ :: ⟨11, [], []⟩ :: ⟨9, [], [3, 6, 11]⟩ :: ⟨12, [], []⟩ :: ⟨13, [], []⟩ :: ⟨14, [], []⟩ :: []))
(.seq
(.plain (
⟨(some 25), .mv (.tmp 3), none⟩ ::
⟨(some 26), .fa 163 (.tmp 1), none⟩ ::
⟨(some 27), .load false 1 (.tmp 26), none⟩ ::
⟨(some 28), .callF 35 [(.tmp 27)], none⟩ ::
⟨(some 29), .bsl 1 [(.tmp 28)], none⟩ ::
⟨(some 30), .app 1 24 (.tmp 25) (.tmp 29), none⟩ ::
⟨(some 2), .mv (.tmp 30), none⟩ ::
[]))
.ret))))
theorem prep19 : prepFunc Tryz.prog 0 19 = some F19 := by kernel_rfl

-- indenture/ledger.Preimage
def F20 : AFunc where
  ntmps := 5
  nparams := 1
  results := [(2, none)]
  code :=
(.seq
(.plain (
⟨(some 1), .box 32 (.tmp 0), none⟩ ::
⟨(some 2), .mv (.const (.slice none 0 0)), none⟩ ::
[]))
(.seq
(.plain (
⟨(some 3), .load true 65 (.tmp 1), none⟩ ::
⟨(some 4), .callF 48 [(.tmp 3)], none⟩ ::
⟨(some 2), .mv (.tmp 4), none⟩ ::
[]))
.ret))
theorem prep20 : prepFunc Tryz.prog 0 20 = some F20 := by kernel_rfl

-- indenture/history.GrowthPreimages
def F21 : AFunc where
  ntmps := 33
  nparams := 4
  results := [(8, none)]
  code :=
(.seq
(.plain (
⟨(some 4), .box 30 (.tmp 0), none⟩ ::
⟨(some 8), .mv (.const (.slice none 0 0)), none⟩ ::
[]))
(.seq
(.seq
(.plain (
⟨(some 10), .mv (.tmp 1), none⟩ ::
⟨(some 11), .bin .lss (.tmp 10) (.const (.int .i64 1)), none⟩ ::
⟨(some 12), .mv (.tmp 11), none⟩ ::
⟨(some 13), .mv (.tmp 1), (some (12, false))⟩ ::
⟨(some 14), .mv (.tmp 2), (some (12, false))⟩ ::
⟨(some 15), .bin .gtr (.tmp 13) (.tmp 14), (some (12, false))⟩ ::
⟨(some 16), .pick (.tmp 12) (.const (.bool true)) (.tmp 15), none⟩ ::
⟨(some 17), .mv (.tmp 16), none⟩ ::
⟨(some 18), .mv (.tmp 2), (some (17, false))⟩ ::
⟨(some 19), .bin .gtr (.tmp 18) (.const (.int .i64 1099511627776)), (some (17, false))⟩ ::
⟨(some 20), .pick (.tmp 17) (.const (.bool true)) (.tmp 19), none⟩ ::
[]))
(.cond (.tmp 20)
(.seq
(.plain (
⟨(some 8), .mv (.const (.slice none 0 0)), none⟩ ::
[]))
.ret)
.skip))
(.seq
(.plain (
⟨(some 21), .mv (.tmp 3), none⟩ ::
⟨(some 22), .bld [(.sl [] .nil), (.sl [] .nil), (.v (.bool false))] [(0, 1, (.tmp 21))], none⟩ ::
⟨(some 23), .box 91 (.tmp 22), none⟩ ::
⟨(some 9), .mv (.tmp 23), none⟩ ::
[]))
(.seq
(.plain (
⟨(some 24), .mv (.tmp 9), none⟩ ::
⟨(some 25), .load true 32 (.tmp 4), none⟩ ::
⟨(some 26), .mv (.tmp 1), none⟩ ::
⟨(some 27), .mv (.tmp 2), none⟩ ::
⟨(some 28), .callF 50 [(.tmp 24), (.tmp 25), (.tmp 26), (.tmp 27), (.const (.bool true))], none⟩ ::
[]))
(.seq
(.plain (
⟨(some 29), .mv (.tmp 9), none⟩ ::
⟨(some 30), .nilc (.tmp 29), none⟩ ::
⟨(some 31), .fa 1 (.tmp 30), none⟩ ::
⟨(some 32), .load false 1 (.tmp 31), none⟩ ::
⟨(some 8), .mv (.tmp 32), none⟩ ::
[]))
.ret)))))
theorem prep21 : prepFunc Tryz.prog 0 21 = some F21 := by kernel_rfl

-- indenture/extract.changes
def F22 : AFunc where
  ntmps := 26
  nparams := 1
  results := [(2, none)]
  code :=
(.seq
(.plain (
⟨(some 2), .mv (.const (.slice none 0 0)), none⟩ ::
[]))
(.seq
(.plain (
⟨(some 8), .mv (.tmp 0), none⟩ ::
⟨(some 9), .callF 23 [(.tmp 8)], none⟩ ::
⟨(some 7), .mv (.tmp 9), none⟩ ::
⟨(some 10), .ext (.tmp 7) 0, none⟩ ::
⟨(some 11), .ext (.tmp 7) 1, none⟩ ::
⟨(some 12), .ext (.tmp 7) 2, none⟩ ::
⟨(some 3), .alloc 35 (List.replicate 32 (.v (.int .u8 0)) ++ [(.v (.int .i64 0))] ++ List.replicate 64 (.v (.int .u8 0))), none⟩ ::
⟨none, .store 97 (.tmp 3) (.tmp 10), none⟩ ::
⟨(some 4), .mv (.tmp 11), none⟩ ::
⟨(some 5), .mv (.tmp 12), none⟩ ::
[]))
(.seq
(.seq
(.plain (
⟨(some 13), .mv (.tmp 5), none⟩ ::
⟨(some 14), .bin .neq (.tmp 13) (.const (.int .i64 0)), none⟩ ::
[]))
(.cond (.tmp 14)
(.seq
(.plain (
⟨(some 2), .mv (.const (.slice none 0 0)), none⟩ ::
[]))
.ret)
.skip))
(.seq
(.plain (
⟨(some 16), .mv (.tmp 4), none⟩ ::
⟨(some 17), .callF 51 [(.tmp 16)], none⟩ ::
⟨(some 15), .mv (.tmp 17), none⟩ ::
⟨(some 18), .ext (.tmp 15) 0, none⟩ ::
⟨(some 19), .ext (.tmp 15) 1, none⟩ ::
⟨(some 6), .mv (.tmp 18), none⟩ ::
⟨(some 5), .mv (.tmp 19), none⟩ ::
[]))
(.seq
(.seq
(.plain (
⟨(some 20), .mv (.tmp 5), none⟩ ::
⟨(some 21), .bin .neq (.tmp 20) (.const (.int .i64 0)), none⟩ ::
[]))
(.cond (.tmp 21)
(.seq
(.plain (
⟨(some 2), .mv (.const (.slice none 0 0)), none⟩ ::
[]))
.ret)
.skip))
(.seq
(.plain (
⟨(some 22), .mv (.tmp 6), none⟩ ::
⟨(some 23), .bsl 1 [(.tmp 22)], none⟩ ::
⟨(some 24), .callF 12 [(.const (.int .u8 79)), (.tmp 23)], none⟩ ::
⟨(some 25), .bsl 1 [(.tmp 24)], none⟩ ::
⟨(some 2), .mv (.tmp 25), none⟩ ::
[]))
.ret))))))
theorem prep22 : prepFunc Tryz.prog 0 22 = some F22 := by kernel_rfl

-- indenture/block.ReadBlock
def F23 : AFunc where
  ntmps := 48
  nparams := 1
  results := [(2, (some (true, 97))), (3, none), (4, none)]
  code :=
(.seq
(.plain (
⟨(some 2), .alloc 35 (List.replicate 32 (.v (.int .u8 0)) ++ [(.v (.int .i64 0))] ++ List.replicate 64 (.v (.int .u8 0))), none⟩ ::
⟨(some 3), .mv (.const (.slice none 0 0)), none⟩ ::
⟨(some 4), .mv (.const (.int .i64 0)), none⟩ ::
[]))
(.seq
(.plain (
⟨(some 12), .mv (.tmp 0), none⟩ ::
⟨(some 13), .callF 52 [(.tmp 12)], none⟩ ::
⟨(some 5), .mv (.tmp 13), none⟩ ::
[]))
(.seq
(.plain (
⟨(some 14), .mv (.tmp 5), none⟩ ::
⟨(some 15), .callF 53 [(.tmp 14), (.const (.int .i64 1048576))], none⟩ ::
⟨(some 16), .mv (.tmp 5), none⟩ ::
⟨(some 17), .callF 53 [(.tmp 16), (.const (.int .i64 1048576))], none⟩ ::
⟨(some 6), .mv (.tmp 15), none⟩ ::
⟨(some 7), .mv (.tmp 17), none⟩ ::
[]))
(.seq
(.seq
(.plain (
⟨(some 18), .mv (.tmp 5), none⟩ ::
⟨(some 19), .callF 54 [(.tmp 18)], none⟩ ::
⟨(some 20), .bin .neq (.tmp 19) (.const (.int .i64 0)), none⟩ ::
[]))
(.cond (.tmp 20)
(.seq
(.plain (
⟨(some 21), .bld (List.replicate 32 (.v (.int .u8 0)) ++ [(.v (.int .i64 0))] ++ List.replicate 64 (.v (.int .u8 0))) [], none⟩ ::
⟨none, .store 97 (.tmp 2) (.tmp 21), none⟩ ::
⟨(some 3), .mv (.const (.slice none 0 0)), none⟩ ::
⟨(some 4), .mv (.const (.int .i64 21)), none⟩ ::
[]))
.ret)
.skip))
(.seq
(.plain (
⟨(some 23), .mv (.tmp 6), none⟩ ::
⟨(some 24), .callF 55 [(.tmp 23)], none⟩ ::
⟨(some 22), .mv (.tmp 24), none⟩ ::
⟨(some 25), .ext (.tmp 22) 0, none⟩ ::
⟨(some 26), .ext (.tmp 22) 1, none⟩ ::
⟨(some 8), .alloc 35 (List.replicate 32 (.v (.int .u8 0)) ++ [(.v (.int .i64 0))] ++ List.replicate 64 (.v (.int .u8 0))), none⟩ ::
⟨none, .store 97 (.tmp 8) (.tmp 25), none⟩ ::
⟨(some 9), .mv (.tmp 26), none⟩ ::
[]))
(.seq
(.plain (
⟨(some 28), .mv (.tmp 7), none⟩ ::
⟨(some 29), .callF 56 [(.tmp 28)], none⟩ ::
⟨(some 27), .mv (.tmp 29), none⟩ ::
⟨(some 30), .ext (.tmp 27) 0, none⟩ ::
⟨(some 31), .ext (.tmp 27) 1, none⟩ ::
⟨(some 10), .mv (.tmp 30), none⟩ ::
⟨(some 11), .mv (.tmp 31), none⟩ ::
[]))
(.seq
(.seq
(.draw (
⟨(some 32), .mv (.tmp 9), none⟩ ::
⟨(some 33), .bin .neq (.tmp 32) (.const (.int .i64 0)), none⟩ ::
⟨(some 34), .mv (.tmp 33), none⟩ ::
⟨(some 35), .mv (.tmp 11), (some (34, false))⟩ ::
⟨(some 36), .bin .neq (.tmp 35) (.const (.int .i64 0)), (some (34, false))⟩ ::
⟨(some 37), .pick (.tmp 34) (.const (.bool true)) (.tmp 36), none⟩ ::
⟨(some 38), .mv (.tmp 37), none⟩ ::
⟨(some 39), .mv (.tmp 7), (some (38, false))⟩ ::
⟨(some 40), .callF 57 [(.tmp 39)], (some (38, false))⟩ ::
⟨(some 41), .fa 33 (.tmp 8), (some (38, false))⟩ ::
⟨(some 42), .load true 32 (.tmp 41), (some (38, false))⟩ ::
⟨(some 43), .eqv true [(32, .int .u8)] (.tmp 40) (.tmp 42), (some (38, false))⟩ ::
⟨(some 44), .pick (.tmp 38) (.const (.bool true)) (.tmp 43), none⟩ ::
[])
(⟨0, [], []⟩ :: ⟨1, [], []⟩ :: ⟨2, [], []⟩ :: ⟨3, [], []⟩ :: ⟨4, [], []⟩ :: ⟨5, [], []⟩ :: ⟨6, [], []⟩ :: ⟨7, [], []⟩ :: ⟨9, [], []⟩ :: ⟨10, [], []⟩ :: ⟨8, [], [10]⟩ :: ⟨11, [], []⟩ :: ⟨12, [], []⟩ :: []))
(.cond (.tmp 44)
(.seq
(.plain (
⟨(some 45), .bld (List.replicate 32 (.v (.int .u8 0)) ++ [(.v (.int .i64 0))] ++ List.replicate 64 (.v (.int .u8 0))) [], none⟩ ::
⟨none, .store 97 (.tmp 2) (.tmp 45), none⟩ ::
⟨(some 3), .mv (.const (.slice none 0 0)), none⟩ ::
⟨(some 4), .mv (.const (.int .i64 21)), none⟩ ::
[]))
.ret)
.skip))
(.seq
(.plain (
⟨(some 46), .load true 97 (.tmp 8), none⟩ ::
⟨(some 47), .mv (.tmp 10), none⟩ ::
⟨none, .store 97 (.tmp 2) (.tmp 46), none⟩ ::
⟨(some 3), .mv (.tmp 47), none⟩ ::
⟨(some 4), .mv (.const (.int .i64 0)), none⟩ ::
[]))
.ret))))))))
theorem prep23 : prepFunc Tryz.prog 0 23 = some F23 := by kernel_rfl

-- indenture/proof.holds
def F24 : AFunc where
  ntmps := 45
  nparams := 3
  results := [(6, none)]
  code :=
(.seq
(.plain (
⟨(some 3), .box 37 (.tmp 0), none⟩ ::
⟨(some 4), .box 30 (.tmp 1), none⟩ ::
⟨(some 6), .mv (.const (.int .i64 0)), none⟩ ::
[]))
(.seq
(.block 0
(.seq
(.draw (
⟨(some 8), .fa 0 (.tmp 3), none⟩ ::
⟨(some 9), .load true 65 (.tmp 8), none⟩ ::
⟨(some 10), .callF 25 [(.tmp 9)], none⟩ ::
⟨(some 11), .load true 32 (.tmp 4), none⟩ ::
⟨(some 12), .eqv true [(32, .int .u8)] (.tmp 10) (.tmp 11), none⟩ ::
⟨(some 7), .mv (.tmp 12), none⟩ ::
[])
(⟨0, [], []⟩ :: ⟨1, [], []⟩ :: ⟨3, [], []⟩ :: ⟨2, [], [3]⟩ :: ⟨4, [], []⟩ :: ⟨5, [], []⟩ :: []))
(.cond (.tmp 7)
(.seq
(.plain (
⟨(some 6), .mv (.const (.int .i64 41)), none⟩ ::
[]))
.ret)
(.seq
(.plain (
⟨(some 14), .mv (.tmp 2), none⟩ ::
⟨(some 15), .bin .lss (.tmp 14) (.const (.int .i64 0)), none⟩ ::
⟨(some 16), .mv (.tmp 15), none⟩ ::
⟨(some 17), .mv (.tmp 2), (some (16, false))⟩ ::
⟨(some 18), .fa 0 (.tmp 3), (some (16, false))⟩ ::
⟨(some 19), .fa 0 (.tmp 18), (some (16, false))⟩ ::
⟨(some 20), .load false 1 (.tmp 19), (some (16, false))⟩ ::
⟨(some 21), .bin .geq (.tmp 17) (.tmp 20), (some (16, false))⟩ ::
⟨(some 22), .pick (.tmp 16) (.const (.bool true)) (.tmp 21), none⟩ ::
⟨(some 23), .mv (.tmp 22), none⟩ ::
⟨(some 24), .fa 65 (.tmp 3), (some (23, false))⟩ ::
⟨(some 25), .fa 32 (.tmp 24), (some (23, false))⟩ ::
⟨(some 26), .load false 1 (.tmp 25), (some (23, false))⟩ ::
⟨(some 27), .mv (.tmp 2), (some (23, false))⟩ ::
⟨(some 28), .bin .neq (.tmp 26) (.tmp 27), (some (23, false))⟩ ::
⟨(some 29), .pick (.tmp 23) (.const (.bool true)) (.tmp 28), none⟩ ::
⟨(some 13), .mv (.tmp 29), none⟩ ::
[]))
(.cond (.tmp 13)
(.seq
(.plain (
⟨(some 6), .mv (.const (.int .i64 42)), none⟩ ::
[]))
.ret)
(.seq
(.draw (
⟨(some 31), .fa 0 (.tmp 3), none⟩ ::
⟨(some 32), .fa 1 (.tmp 31), none⟩ ::
⟨(some 33), .load true 32 (.tmp 32), none⟩ ::
⟨(some 34), .fa 0 (.tmp 3), none⟩ ::
⟨(some 35), .fa 0 (.tmp 34), none⟩ ::
⟨(some 36), .load false 1 (.tmp 35), none⟩ ::
⟨(some 37), .mv (.tmp 2), none⟩ ::
⟨(some 38), .fa 65 (.tmp 3), none⟩ ::
⟨(some 39), .load true 97 (.tmp 38), none⟩ ::
⟨(some 40), .callF 49 [(.tmp 39)], none⟩ ::
⟨(some 41), .fa 162 (.tmp 3), none⟩ ::
⟨(some 42), .load false 1 (.tmp 41), none⟩ ::
⟨(some 43), .callF 58 [(.tmp 33), (.tmp 36), (.tmp 37), (.tmp 40), (.tmp 42)], none⟩ ::
⟨(some 44), .un .not (.tmp 43), none⟩ ::
⟨(some 30), .mv (.tmp 44), none⟩ ::
[])
(⟨0, [], []⟩ :: ⟨1, [], []⟩ :: ⟨2, [], []⟩ :: ⟨3, [], []⟩ :: ⟨4, [], []⟩ :: ⟨5, [], []⟩ :: ⟨6, [], []⟩ :: ⟨7, [], []⟩ :: ⟨8, [], []⟩ :: ⟨10, [], []⟩ :: ⟨11, [], []⟩ :: ⟨9, [], [2, 5, 11]⟩ :: ⟨12, [], []⟩ :: ⟨13, [], []⟩ :: ⟨14, [], []⟩ :: []))
(.cond (.tmp 30)
(.seq
(.plain (
⟨(some 6), .mv (.const (.int .i64 42)), none⟩ ::
[]))
.ret)
.skip)))))))
(.seq
(.plain (
⟨(some 6), .mv (.const (.int .i64 0)), none⟩ ::
[]))
.ret)))
theorem prep24 : prepFunc Tryz.prog 0 24 = some F24 := by kernel_rfl

-- indenture/block.Digest
def F25 : AFunc where
  ntmps := 6
  nparams := 1
  results := [(2, (some (true, 32)))]
  code :=
(.seq
(.plain (
⟨(some 1), .box 32 (.tmp 0), none⟩ ::
⟨(some 2), .alloc 30 (List.replicate 32 (.v (.int .u8 0))), none⟩ ::
[]))
(.seq
(.plain (
⟨(some 3), .load true 65 (.tmp 1), none⟩ ::
⟨(some 4), .callF 48 [(.tmp 3)], none⟩ ::
⟨(some 5), .callF 14 [(.tmp 4)], none⟩ ::
⟨none, .store 32 (.tmp 2) (.tmp 5), none⟩ ::
[]))
.ret))
theorem prep25 : prepFunc Tryz.prog 0 25 = some F25 := by kernel_rfl

-- indenture/history.Grows
def F26 : AFunc where
  ntmps := 60
  nparams := 5
  results := [(10, none)]
  code :=
(.seq
(.plain (
⟨(some 5), .box 30 (.tmp 0), none⟩ ::
⟨(some 7), .box 30 (.tmp 2), none⟩ ::
⟨(some 10), .mv (.const (.bool false)), none⟩ ::
[]))
(.seq
(.block 0
(.seq
(.plain (
⟨(some 15), .mv (.tmp 1), none⟩ ::
⟨(some 16), .bin .lss (.tmp 15) (.const (.int .i64 0)), none⟩ ::
⟨(some 17), .mv (.tmp 16), none⟩ ::
⟨(some 18), .mv (.tmp 1), (some (17, false))⟩ ::
⟨(some 19), .mv (.tmp 3), (some (17, false))⟩ ::
⟨(some 20), .bin .gtr (.tmp 18) (.tmp 19), (some (17, false))⟩ ::
⟨(some 21), .pick (.tmp 17) (.const (.bool true)) (.tmp 20), none⟩ ::
⟨(some 22), .mv (.tmp 21), none⟩ ::
⟨(some 23), .mv (.tmp 3), (some (22, false))⟩ ::
⟨(some 24), .bin .gtr (.tmp 23) (.const (.int .i64 1099511627776)), (some (22, false))⟩ ::
⟨(some 25), .pick (.tmp 22) (.const (.bool true)) (.tmp 24), none⟩ ::
⟨(some 14), .mv (.tmp 25), none⟩ ::
[]))
(.cond (.tmp 14)
(.seq
(.plain (
⟨(some 10), .mv (.const (.bool false)), none⟩ ::
[]))
.ret)
(.seq
(.plain (
⟨(some 27), .mv (.tmp 1), none⟩ ::
⟨(some 28), .bin .eql (.tmp 27) (.const (.int .i64 0)), none⟩ ::
⟨(some 26), .mv (.tmp 28), none⟩ ::
[]))
(.cond (.tmp 26)
(.seq
(.draw (
⟨(some 29), .load true 32 (.tmp 5), none⟩ ::
⟨(some 30), .callF 59 [(.const (.int .u8 72)), (.const (.slice none 0 0))], none⟩ ::
⟨(some 31), .eqv false [(32, .int .u8)] (.tmp 29) (.tmp 30), none⟩ ::
⟨(some 32), .mv (.tmp 31), none⟩ ::
⟨(some 33), .mv (.tmp 4), (some (32, true))⟩ ::
⟨(some 34), .len (.tmp 33), (some (32, true))⟩ ::
⟨(some 35), .bin .eql (.tmp 34) (.const (.int .i64 0)), (some (32, true))⟩ ::
⟨(some 36), .pick (.tmp 32) (.tmp 35) (.const (.bool false)), none⟩ ::
⟨(some 10), .mv (.tmp 36), none⟩ ::
[])
(⟨0, [], []⟩ :: ⟨1, [], [0]⟩ :: ⟨2, [], []⟩ :: ⟨3, [], []⟩ :: ⟨4, [], []⟩ :: ⟨5, [], []⟩ :: ⟨6, [], []⟩ :: ⟨7, [], []⟩ :: ⟨8, [], []⟩ :: []))
.ret)
.skip)))))
(.seq
(.plain (
⟨(some 37), .mv (.tmp 4), none⟩ ::
⟨(some 38), .bld [(.sl [] .nil), (.sl [] .nil), (.v (.bool false))] [(0, 1, (.tmp 37))], none⟩ ::
⟨(some 39), .box 91 (.tmp 38), none⟩ ::
⟨(some 11), .mv (.tmp 39), none⟩ ::
[]))
(.seq
(.plain (
⟨(some 41), .mv (.tmp 11), none⟩ ::
⟨(some 42), .load true 32 (.tmp 5), none⟩ ::
⟨(some 43), .mv (.tmp 1), none⟩ ::
⟨(some 44), .mv (.tmp 3), none⟩ ::
⟨(some 45), .callF 50 [(.tmp 41), (.tmp 42), (.tmp 43), (.tmp 44), (.const (.bool true))], none⟩ ::
⟨(some 40), .mv (.tmp 45), none⟩ ::
⟨(some 46), .ext (.tmp 40) 0, none⟩ ::
⟨(some 47), .ext (.tmp 40) 1, none⟩ ::
⟨(some 12), .alloc 30 (List.replicate 32 (.v (.int .u8 0))), none⟩ ::
⟨(some 13), .alloc 30 (List.replicate 32 (.v (.int .u8 0))), none⟩ ::
⟨none, .store 32 (.tmp 12) (.tmp 46), none⟩ ::
⟨none, .store 32 (.tmp 13) (.tmp 47), none⟩ ::
[]))
(.seq
(.plain (
⟨(some 48), .mv (.tmp 11), none⟩ ::
⟨(some 49), .callF 60 [(.tmp 48)], none⟩ ::
⟨(some 50), .mv (.tmp 49), none⟩ ::
⟨(some 51), .load true 32 (.tmp 12), (some (50, true))⟩ ::
⟨(some 52), .load true 32 (.tmp 5), (some (50, true))⟩ ::
⟨(some 53), .eqv false [(32, .int .u8)] (.tmp 51) (.tmp 52), (some (50, true))⟩ ::
⟨(some 54), .pick (.tmp 50) (.tmp 53) (.const (.bool false)), none⟩ ::
⟨(some 55), .mv (.tmp 54), none⟩ ::
⟨(some 56), .load true 32 (.tmp 13), (some (55, true))⟩ ::
⟨(some 57), .load true 32 (.tmp 7), (some (55, true))⟩ ::
⟨(some 58), .eqv false [(32, .int .u8)] (.tmp 56) (.tmp 57), (some (55, true))⟩ ::
⟨(some 59), .pick (.tmp 55) (.tmp 58) (.const (.bool false)), none⟩ ::
⟨(some 10), .mv (.tmp 59), none⟩ ::
[]))
.ret)))))
theorem prep26 : prepFunc Tryz.prog 0 26 = some F26 := by kernel_rfl

-- indenture/sha.eight
def F27 : AFunc where
  ntmps := 17
  nparams := 1
  results := [(2, none)]
  code :=
(.seq
(.plain (
⟨(some 2), .mv (.const (.slice none 0 0)), none⟩ ::
[]))
(.seq
(.plain (
⟨(some 3), .mv (.const (.slice none 0 0)), none⟩ ::
[]))
(.seq
(.seq
(.plain (
⟨(some 4), .mv (.const (.int .i64 56)), none⟩ ::
[]))
(.block 0
(.loop
(.seq
(.seq
(.plain (
⟨(some 5), .mv (.tmp 4), none⟩ ::
⟨(some 6), .bin .geq (.tmp 5) (.const (.int .i64 0)), none⟩ ::
[]))
(.cond (.tmp 6)
.skip
(.exit 0)))
(.seq
(.block 1
(.plain (
⟨(some 9), .mv (.tmp 3), none⟩ ::
⟨(some 10), .mv (.tmp 0), none⟩ ::
⟨(some 11), .mv (.tmp 4), none⟩ ::
⟨(some 12), .bin .shr (.tmp 10) (.tmp 11), none⟩ ::
⟨(some 13), .cvt .u8 (.tmp 12), none⟩ ::
⟨(some 14), .bsl 1 [(.tmp 13)], none⟩ ::
⟨(some 15), .app 1 1 (.tmp 9) (.tmp 14), none⟩ ::
⟨(some 3), .mv (.tmp 15), none⟩ ::
[])))
(.plain (
⟨(some 7), .mv (.tmp 4), none⟩ ::
⟨(some 8), .bin .sub (.tmp 7) (.const (.int .i64 8)), none⟩ ::
⟨(some 4), .mv (.tmp 8), none⟩ ::
[])))))))
(.seq
(.plain (
⟨(some 16), .mv (.tmp 3), none⟩ ::
⟨(some 2), .mv (.tmp 16), none⟩ ::
[]))
.ret))))
theorem prep27 : prepFunc Tryz.prog 0 27 = some F27 := by kernel_rfl

-- (*indenture/ledger.Ledger).Opening
def F28 : AFunc where
  ntmps := 14
  nparams := 1
  results := [(2, (some (true, 65)))]
  code :=
(.seq
(.plain (
⟨(some 2), .alloc 32 ([(.v (.int .i64 0))] ++ List.replicate 64 (.v (.int .u8 0))), none⟩ ::
[]))
(.seq
(.draw (
⟨(some 3), .mv (.tmp 0), none⟩ ::
⟨(some 4), .nilc (.tmp 3), none⟩ ::
⟨(some 5), .fa 1 (.tmp 4), none⟩ ::
⟨(some 6), .load false 1 (.tmp 5), none⟩ ::
⟨(some 7), .len (.tmp 6), none⟩ ::
⟨(some 8), .mv (.tmp 0), none⟩ ::
⟨(some 9), .callF 29 [(.tmp 8)], none⟩ ::
⟨(some 10), .callF 61 [(.tmp 9)], none⟩ ::
⟨(some 11), .mv (.tmp 0), none⟩ ::
⟨(some 12), .callF 62 [(.tmp 11)], none⟩ ::
⟨(some 13), .bld ([(.v (.int .i64 0))] ++ List.replicate 64 (.v (.int .u8 0))) [(0, 1, (.tmp 7)), (1, 32, (.tmp 10)), (33, 32, (.tmp 12))], none⟩ ::
⟨none, .store 65 (.tmp 2) (.tmp 13), none⟩ ::
[])
(⟨0, [], []⟩ :: ⟨1, [], []⟩ :: ⟨2, [], []⟩ :: ⟨3, [], []⟩ :: ⟨4, [], []⟩ :: ⟨5, [], []⟩ :: ⟨8, [], []⟩ :: ⟨6, [], [3]⟩ :: ⟨7, [], [3]⟩ :: ⟨9, [], [3]⟩ :: ⟨10, [], []⟩ :: ⟨11, [], []⟩ :: []))
.ret))
theorem prep28 : prepFunc Tryz.prog 0 28 = some F28 := by kernel_rfl

-- (*indenture/ledger.Ledger).Heads
def F29 : AFunc where
  ntmps := 22
  nparams := 1
  results := [(2, none)]
  code :=
(.seq
(.plain (
⟨(some 2), .mv (.const (.slice none 0 0)), none⟩ ::
[]))
(.seq
(.plain (
⟨(some 3), .mv (.const (.slice none 0 0)), none⟩ ::
[]))
(.seq
(.seq
(.plain (
⟨(some 6), .mv (.tmp 0), none⟩ ::
⟨(some 7), .nilc (.tmp 6), none⟩ ::
⟨(some 8), .fa 1 (.tmp 7), none⟩ ::
⟨(some 9), .load false 1 (.tmp 8), none⟩ ::
⟨(some 10), .len (.tmp 9), none⟩ ::
⟨(some 11), .mv (.const (.int .i64 0)), none⟩ ::
[]))
(.block 0
(.loop
(.seq
(.plain (
⟨(some 12), .bin .lss (.tmp 11) (.tmp 10), none⟩ ::
[]))
(.seq
(.cond (.tmp 12)
.skip
(.exit 0))
(.seq
(.block 1
(.seq
(.plain (
⟨(some 13), .iaS 97 (.tmp 9) (.tmp 11), none⟩ ::
⟨(some 14), .load true 97 (.tmp 13), none⟩ ::
⟨(some 5), .alloc 35 (List.replicate 32 (.v (.int .u8 0)) ++ [(.v (.int .i64 0))] ++ List.replicate 64 (.v (.int .u8 0))), none⟩ ::
⟨none, .store 97 (.tmp 5) (.tmp 14), none⟩ ::
[]))
(.plain (
⟨(some 15), .mv (.tmp 3), none⟩ ::
⟨(some 16), .load true 97 (.tmp 5), none⟩ ::
⟨(some 17), .callF 49 [(.tmp 16)], none⟩ ::
⟨(some 18), .bsl 32 [(.tmp 17)], none⟩ ::
⟨(some 19), .app 32 32 (.tmp 15) (.tmp 18), none⟩ ::
⟨(some 3), .mv (.tmp 19), none⟩ ::
[]))))
(.plain (
⟨(some 20), .bin .add (.tmp 11) (.const (.int .i64 1)), none⟩ ::
⟨(some 11), .mv (.tmp 20), none⟩ ::
[]))))))))
(.seq
(.plain (
⟨(some 21), .mv (.tmp 3), none⟩ ::
⟨(some 2), .mv (.tmp 21), none⟩ ::
[]))
.ret))))
theorem prep29 : prepFunc Tryz.prog 0 29 = some F29 := by kernel_rfl

-- (*indenture/ledger.Ledger).Head
def F30 : AFunc where
  ntmps := 25
  nparams := 2
  results := [(4, (some (true, 97))), (5, none)]
  code :=
(.seq
(.plain (
⟨(some 4), .alloc 35 (List.replicate 32 (.v (.int .u8 0)) ++ [(.v (.int .i64 0))] ++ List.replicate 64 (.v (.int .u8 0))), none⟩ ::
⟨(some 5), .mv (.const (.bool false)), none⟩ ::
[]))
(.seq
(.seq
(.plain (
⟨(some 6), .mv (.tmp 1), none⟩ ::
⟨(some 7), .bin .lss (.tmp 6) (.const (.int .i64 0)), none⟩ ::
⟨(some 8), .mv (.tmp 7), none⟩ ::
⟨(some 9), .mv (.tmp 1), (some (8, false))⟩ ::
⟨(some 10), .mv (.tmp 0), (some (8, false))⟩ ::
⟨(some 11), .nilc (.tmp 10), (some (8, false))⟩ ::
⟨(some 12), .fa 1 (.tmp 11), (some (8, false))⟩ ::
⟨(some 13), .load false 1 (.tmp 12), (some (8, false))⟩ ::
⟨(some 14), .len (.tmp 13), (some (8, false))⟩ ::
⟨(some 15), .bin .geq (.tmp 9) (.tmp 14), (some (8, false))⟩ ::
⟨(some 16), .pick (.tmp 8) (.const (.bool true)) (.tmp 15), none⟩ ::
[]))
(.cond (.tmp 16)
(.seq
(.plain (
⟨(some 17), .bld (List.replicate 32 (.v (.int .u8 0)) ++ [(.v (.int .i64 0))] ++ List.replicate 64 (.v (.int .u8 0))) [], none⟩ ::
⟨none, .store 97 (.tmp 4) (.tmp 17), none⟩ ::
⟨(some 5), .mv (.const (.bool false)), none⟩ ::
[]))
.ret)
.skip))
(.seq
(.plain (
⟨(some 18), .mv (.tmp 0), none⟩ ::
⟨(some 19), .nilc (.tmp 18), none⟩ ::
⟨(some 20), .fa 1 (.tmp 19), none⟩ ::
⟨(some 21), .load false 1 (.tmp 20), none⟩ ::
⟨(some 22), .mv (.tmp 1), none⟩ ::
⟨(some 23), .iaS 97 (.tmp 21) (.tmp 22), none⟩ ::
⟨(some 24), .load true 97 (.tmp 23), none⟩ ::
⟨none, .store 97 (.tmp 4) (.tmp 24), none⟩ ::
⟨(some 5), .mv (.const (.bool true)), none⟩ ::
[]))
.ret)))
theorem prep30 : prepFunc Tryz.prog 0 30 = some F30 := by kernel_rfl

-- (*indenture/ledger.Ledger).Member
def F31 : AFunc where
  ntmps := 12
  nparams := 2
  results := [(4, none), (5, none)]
  code :=
(.seq
(.plain (
⟨(some 4), .mv (.const (.slice none 0 0)), none⟩ ::
⟨(some 5), .mv (.const (.int .i64 0)), none⟩ ::
[]))
(.seq
(.plain (
⟨(some 6), .mv (.tmp 0), none⟩ ::
⟨(some 7), .callF 29 [(.tmp 6)], none⟩ ::
⟨(some 8), .mv (.tmp 1), none⟩ ::
⟨(some 9), .callF 63 [(.tmp 7), (.tmp 8)], none⟩ ::
⟨(some 10), .ext (.tmp 9) 0, none⟩ ::
⟨(some 11), .ext (.tmp 9) 1, none⟩ ::
⟨(some 4), .mv (.tmp 10), none⟩ ::
⟨(some 5), .mv (.tmp 11), none⟩ ::
[]))
.ret))
theorem prep31 : prepFunc Tryz.prog 0 31 = some F31 := by kernel_rfl

-- (*indenture/ledger.Ledger).At
def F32 : AFunc where
  ntmps := 25
  nparams := 2
  results := [(4, none), (5, none)]
  code :=
(.seq
(.plain (
⟨(some 4), .mv (.const (.pointer none)), none⟩ ::
⟨(some 5), .mv (.const (.bool false)), none⟩ ::
[]))
(.seq
(.seq
(.plain (
⟨(some 6), .mv (.tmp 1), none⟩ ::
⟨(some 7), .bin .lss (.tmp 6) (.const (.int .i64 0)), none⟩ ::
⟨(some 8), .mv (.tmp 7), none⟩ ::
⟨(some 9), .mv (.tmp 1), (some (8, false))⟩ ::
⟨(some 10), .mv (.tmp 0), (some (8, false))⟩ ::
⟨(some 11), .nilc (.tmp 10), (some (8, false))⟩ ::
⟨(some 12), .fa 3 (.tmp 11), (some (8, false))⟩ ::
⟨(some 13), .load false 1 (.tmp 12), (some (8, false))⟩ ::
⟨(some 14), .len (.tmp 13), (some (8, false))⟩ ::
⟨(some 15), .bin .geq (.tmp 9) (.tmp 14), (some (8, false))⟩ ::
⟨(some 16), .pick (.tmp 8) (.const (.bool true)) (.tmp 15), none⟩ ::
[]))
(.cond (.tmp 16)
(.seq
(.plain (
⟨(some 4), .mv (.const (.pointer none)), none⟩ ::
⟨(some 5), .mv (.const (.bool false)), none⟩ ::
[]))
.ret)
.skip))
(.seq
(.plain (
⟨(some 17), .mv (.tmp 0), none⟩ ::
⟨(some 18), .nilc (.tmp 17), none⟩ ::
⟨(some 19), .fa 3 (.tmp 18), none⟩ ::
⟨(some 20), .load false 1 (.tmp 19), none⟩ ::
⟨(some 21), .mv (.tmp 1), none⟩ ::
⟨(some 22), .iaS 1 (.tmp 20) (.tmp 21), none⟩ ::
⟨(some 23), .load false 1 (.tmp 22), none⟩ ::
⟨(some 24), .callF 64 [(.tmp 23)], none⟩ ::
⟨(some 4), .mv (.tmp 24), none⟩ ::
⟨(some 5), .mv (.const (.bool true)), none⟩ ::
[]))
.ret)))
theorem prep32 : prepFunc Tryz.prog 0 32 = some F32 := by kernel_rfl

-- indenture/block.Preimage
def F33 : AFunc where
  ntmps := 15
  nparams := 1
  results := [(2, none)]
  code :=
(.seq
(.plain (
⟨(some 1), .box 35 (.tmp 0), none⟩ ::
⟨(some 2), .mv (.const (.slice none 0 0)), none⟩ ::
[]))
(.seq
(.plain (
⟨(some 6), .load true 97 (.tmp 1), none⟩ ::
⟨(some 7), .callF 65 [(.tmp 6)], none⟩ ::
⟨(some 5), .mv (.tmp 7), none⟩ ::
⟨(some 8), .ext (.tmp 5) 0, none⟩ ::
⟨(some 9), .ext (.tmp 5) 1, none⟩ ::
⟨(some 3), .mv (.tmp 8), none⟩ ::
⟨(some 4), .mv (.tmp 9), none⟩ ::
[]))
(.seq
(.seq
(.plain (
⟨(some 10), .mv (.tmp 4), none⟩ ::
⟨(some 11), .bin .neq (.tmp 10) (.const (.int .i64 0)), none⟩ ::
[]))
(.cond (.tmp 11)
(.seq
(.plain (
⟨(some 2), .mv (.const (.slice none 0 0)), none⟩ ::
[]))
.ret)
.skip))
(.seq
(.plain (
⟨(some 12), .mv (.tmp 3), none⟩ ::
⟨(some 13), .bsl 1 [(.tmp 12)], none⟩ ::
⟨(some 14), .callF 12 [(.const (.int .u8 66)), (.tmp 13)], none⟩ ::
⟨(some 2), .mv (.tmp 14), none⟩ ::
[]))
.ret))))
theorem prep33 : prepFunc Tryz.prog 0 33 = some F33 := by kernel_rfl

-- indenture/history.PathPreimages
def F34 : AFunc where
  ntmps := 25
  nparams := 4
  results := [(8, none)]
  code :=
(.seq
(.plain (
⟨(some 6), .box 30 (.tmp 2), none⟩ ::
⟨(some 8), .mv (.const (.slice none 0 0)), none⟩ ::
[]))
(.seq
(.plain (
⟨(some 12), .mv (.tmp 0), none⟩ ::
⟨(some 13), .mv (.tmp 1), none⟩ ::
⟨(some 14), .load true 32 (.tmp 6), none⟩ ::
⟨(some 15), .mv (.tmp 3), none⟩ ::
⟨(some 16), .callF 66 [(.tmp 12), (.tmp 13), (.tmp 14), (.tmp 15)], none⟩ ::
⟨(some 11), .mv (.tmp 16), none⟩ ::
⟨(some 17), .ext (.tmp 11) 0, none⟩ ::
⟨(some 18), .ext (.tmp 11) 1, none⟩ ::
⟨(some 10), .alloc 30 (List.replicate 32 (.v (.int .u8 0))), none⟩ ::
⟨(some 9), .mv (.tmp 17), none⟩ ::
⟨none, .store 32 (.tmp 10) (.tmp 18), none⟩ ::
[]))
(.seq
(.seq
(.plain (
⟨(some 19), .mv (.tmp 9), none⟩ ::
⟨(some 20), .eqp false (.tmp 19) (.const (.pointer none)), none⟩ ::
[]))
(.cond (.tmp 20)
(.seq
(.plain (
⟨(some 8), .mv (.const (.slice none 0 0)), none⟩ ::
[]))
.ret)
.skip))
(.seq
(.plain (
⟨(some 21), .mv (.tmp 9), none⟩ ::
⟨(some 22), .nilc (.tmp 21), none⟩ ::
⟨(some 23), .fa 1 (.tmp 22), none⟩ ::
⟨(some 24), .load false 1 (.tmp 23), none⟩ ::
⟨(some 8), .mv (.tmp 24), none⟩ ::
[]))
.ret))))
theorem prep34 : prepFunc Tryz.prog 0 34 = some F34 := by kernel_rfl

-- indenture/catalog.Preimage
def F35 : AFunc where
  ntmps := 6
  nparams := 1
  results := [(2, none)]
  code :=
(.seq
(.plain (
⟨(some 2), .mv (.const (.slice none 0 0)), none⟩ ::
[]))
(.seq
(.plain (
⟨(some 3), .mv (.tmp 0), none⟩ ::
⟨(some 4), .bsl 1 [(.tmp 3)], none⟩ ::
⟨(some 5), .callF 12 [(.const (.int .u8 67)), (.tmp 4)], none⟩ ::
⟨(some 2), .mv (.tmp 5), none⟩ ::
[]))
.ret))
theorem prep35 : prepFunc Tryz.prog 0 35 = some F35 := by kernel_rfl

-- (*indenture/state.State).Bytes
def F36 : AFunc where
  ntmps := 14
  nparams := 1
  results := [(2, none)]
  code :=
(.seq
(.plain (
⟨(some 2), .mv (.const (.slice none 0 0)), none⟩ ::
[]))
(.seq
(.plain (
⟨(some 6), .mv (.tmp 0), none⟩ ::
⟨(some 7), .nilc (.tmp 6), none⟩ ::
⟨(some 8), .fa 1 (.tmp 7), none⟩ ::
⟨(some 9), .load false 1 (.tmp 8), none⟩ ::
⟨(some 10), .callF 67 [(.tmp 9)], none⟩ ::
⟨(some 5), .mv (.tmp 10), none⟩ ::
⟨(some 11), .ext (.tmp 5) 0, none⟩ ::
⟨(some 12), .ext (.tmp 5) 1, none⟩ ::
⟨(some 3), .mv (.tmp 11), none⟩ ::
⟨(some 4), .mv (.tmp 12), none⟩ ::
[]))
(.seq
(.plain (
⟨(some 13), .mv (.tmp 3), none⟩ ::
⟨(some 2), .mv (.tmp 13), none⟩ ::
[]))
.ret)))
theorem prep36 : prepFunc Tryz.prog 0 36 = some F36 := by kernel_rfl

-- (*indenture/ledger.Ledger).State
def F37 : AFunc where
  ntmps := 6
  nparams := 1
  results := [(2, none)]
  code :=
(.seq
(.plain (
⟨(some 2), .mv (.const (.pointer none)), none⟩ ::
[]))
(.seq
(.plain (
⟨(some 3), .mv (.tmp 0), none⟩ ::
⟨(some 4), .callF 68 [(.tmp 3)], none⟩ ::
⟨(some 5), .callF 64 [(.tmp 4)], none⟩ ::
⟨(some 2), .mv (.tmp 5), none⟩ ::
[]))
.ret))
theorem prep37 : prepFunc Tryz.prog 0 37 = some F37 := by kernel_rfl

-- (*indenture/state.State).Store
def F38 : AFunc where
  ntmps := 7
  nparams := 1
  results := [(2, none)]
  code :=
(.seq
(.plain (
⟨(some 2), .mv (.const (.pointer none)), none⟩ ::
[]))
(.seq
(.plain (
⟨(some 3), .mv (.tmp 0), none⟩ ::
⟨(some 4), .nilc (.tmp 3), none⟩ ::
⟨(some 5), .fa 0 (.tmp 4), none⟩ ::
⟨(some 6), .load false 1 (.tmp 5), none⟩ ::
⟨(some 2), .mv (.tmp 6), none⟩ ::
[]))
.ret))
theorem prep38 : prepFunc Tryz.prog 0 38 = some F38 := by kernel_rfl

-- (*indenture/page.Store).Get
def F40 : AFunc where
  ntmps := 21
  nparams := 2
  results := [(4, none), (5, none)]
  code :=
(.seq
(.plain (
⟨(some 3), .box 30 (.tmp 1), none⟩ ::
⟨(some 4), .mv (.const (.slice none 0 0)), none⟩ ::
⟨(some 5), .mv (.const (.int .i64 0)), none⟩ ::
[]))
(.seq
(.draw (
⟨(some 9), .mv (.tmp 0), none⟩ ::
⟨(some 10), .nilc (.tmp 9), none⟩ ::
⟨(some 11), .fa 0 (.tmp 10), none⟩ ::
⟨(some 12), .load false 1 (.tmp 11), none⟩ ::
⟨(some 13), .load true 32 (.tmp 3), none⟩ ::
⟨(some 14), .lkp true [(32, .int .u8)] (.sl [] .nil) (.tmp 12) (.tmp 13), none⟩ ::
⟨(some 8), .mv (.tmp 14), none⟩ ::
⟨(some 15), .ext (.tmp 8) 0, none⟩ ::
⟨(some 16), .ext (.tmp 8) 1, none⟩ ::
⟨(some 6), .mv (.tmp 15), none⟩ ::
⟨(some 7), .mv (.tmp 16), none⟩ ::
[])
(⟨0, [], []⟩ :: ⟨1, [], []⟩ :: ⟨2, [], []⟩ :: ⟨3, [], []⟩ :: ⟨4, [], []⟩ :: ⟨5, [], []⟩ :: ⟨6, [], []⟩ :: ⟨7, [], []⟩ :: ⟨8, [], []⟩ :: ⟨9, [], []⟩ :: ⟨10, [], []⟩ :: []))
(.seq
(.seq
(.plain (
⟨(some 17), .mv (.tmp 7), none⟩ ::
⟨(some 18), .un .not (.tmp 17), none⟩ ::
[]))
(.cond (.tmp 18)
(.seq
(.plain (
⟨(some 4), .mv (.const (.slice none 0 0)), none⟩ ::
⟨(some 5), .mv (.const (.int .i64 9)), none⟩ ::
[]))
.ret)
.skip))
(.seq
(.plain (
⟨(some 19), .mv (.tmp 6), none⟩ ::
⟨(some 20), .callF 72 [(.tmp 19)], none⟩ ::
⟨(some 4), .mv (.tmp 20), none⟩ ::
⟨(some 5), .mv (.const (.int .i64 0)), none⟩ ::
[]))
.ret))))
theorem prep40 : prepFunc Tryz.prog 0 40 = some F40 := by kernel_rfl

-- indenture/page.Preimage
def F41 : AFunc where
  ntmps := 6
  nparams := 1
  results := [(2, none)]
  code :=
(.seq
(.plain (
⟨(some 2), .mv (.const (.slice none 0 0)), none⟩ ::
[]))
(.seq
(.plain (
⟨(some 3), .mv (.tmp 0), none⟩ ::
⟨(some 4), .bsl 1 [(.tmp 3)], none⟩ ::
⟨(some 5), .callF 12 [(.const (.int .u8 80)), (.tmp 4)], none⟩ ::
⟨(some 2), .mv (.tmp 5), none⟩ ::
[]))
.ret))
theorem prep41 : prepFunc Tryz.prog 0 41 = some F41 := by kernel_rfl

-- indenture/sha.New
def F42 : AFunc where
  ntmps := 4
  nparams := 0
  results := [(0, none)]
  code :=
(.seq
(.plain (
⟨(some 0), .mv (.const (.pointer none)), none⟩ ::
[]))
(.seq
(.plain (
⟨(some 1), .callF 73 [], none⟩ ::
⟨(some 2), .bld (List.replicate 8 (.v (.int .u32 0)) ++ [(.sl [] .nil)] ++ [(.v (.int .u64 0))]) [(0, 8, (.tmp 1))], none⟩ ::
⟨(some 3), .box 131 (.tmp 2), none⟩ ::
⟨(some 0), .mv (.tmp 3), none⟩ ::
[]))
.ret))
theorem prep42 : prepFunc Tryz.prog 0 42 = some F42 := by kernel_rfl

-- (*indenture/sha.State).Write
def F43 : AFunc where
  ntmps := 51
  nparams := 2
  results := []
  code :=
(.seq
(.seq
(.plain (
⟨(some 5), .mv (.tmp 0), none⟩ ::
⟨(some 6), .nilc (.tmp 5), none⟩ ::
⟨(some 7), .fa 9 (.tmp 6), none⟩ ::
⟨(some 8), .load false 1 (.tmp 7), none⟩ ::
⟨(some 9), .bin .eql (.tmp 8) (.const (.int .u64 0)), none⟩ ::
[]))
(.cond (.tmp 9)
(.plain (
⟨(some 10), .mv (.tmp 0), none⟩ ::
⟨(some 11), .callF 73 [], none⟩ ::
⟨(some 12), .nilc (.tmp 10), none⟩ ::
⟨(some 13), .fa 0 (.tmp 12), none⟩ ::
⟨none, .store 8 (.tmp 13) (.tmp 11), none⟩ ::
[]))
.skip))
(.seq
(.plain (
⟨(some 14), .mv (.tmp 0), none⟩ ::
⟨(some 15), .nilc (.tmp 14), none⟩ ::
⟨(some 16), .fa 9 (.tmp 15), none⟩ ::
⟨(some 17), .load false 1 (.tmp 16), none⟩ ::
⟨(some 18), .mv (.tmp 1), none⟩ ::
⟨(some 19), .len (.tmp 18), none⟩ ::
⟨(some 20), .cvt .u64 (.tmp 19), none⟩ ::
⟨(some 21), .bin .add (.tmp 17) (.tmp 20), none⟩ ::
⟨(some 22), .nilc (.tmp 14), none⟩ ::
⟨(some 23), .fa 9 (.tmp 22), none⟩ ::
⟨none, .store 1 (.tmp 23) (.tmp 21), none⟩ ::
[]))
(.seq
(.plain (
⟨(some 24), .bsl 1 [], none⟩ ::
⟨(some 25), .mv (.tmp 0), none⟩ ::
⟨(some 26), .nilc (.tmp 25), none⟩ ::
⟨(some 27), .fa 8 (.tmp 26), none⟩ ::
⟨(some 28), .load false 1 (.tmp 27), none⟩ ::
⟨(some 29), .app 1 1 (.tmp 24) (.tmp 28), none⟩ ::
⟨(some 30), .mv (.tmp 1), none⟩ ::
⟨(some 31), .app 1 1 (.tmp 29) (.tmp 30), none⟩ ::
⟨(some 4), .mv (.tmp 31), none⟩ ::
[]))
(.seq
(.block 0
(.loop
(.seq
(.seq
(.plain (
⟨(some 32), .mv (.tmp 4), none⟩ ::
⟨(some 33), .len (.tmp 32), none⟩ ::
⟨(some 34), .bin .geq (.tmp 33) (.const (.int .i64 64)), none⟩ ::
[]))
(.cond (.tmp 34)
.skip
(.exit 0)))
(.block 1
(.seq
(.draw (
⟨(some 35), .mv (.tmp 0), none⟩ ::
⟨(some 36), .mv (.tmp 0), none⟩ ::
⟨(some 37), .nilc (.tmp 36), none⟩ ::
⟨(some 38), .fa 0 (.tmp 37), none⟩ ::
⟨(some 39), .load true 8 (.tmp 38), none⟩ ::
⟨(some 40), .mv (.tmp 4), none⟩ ::
⟨(some 41), .slc 1 (.tmp 40) none (some (.const (.int .i64 64))), none⟩ ::
⟨(some 42), .callF 74 [(.tmp 39), (.tmp 41)], none⟩ ::
⟨(some 43), .nilc (.tmp 35), none⟩ ::
⟨(some 44), .fa 0 (.tmp 43), none⟩ ::
⟨none, .store 8 (.tmp 44) (.tmp 42), none⟩ ::
[])
(⟨0, [], []⟩ :: ⟨1, [], []⟩ :: ⟨2, [], []⟩ :: ⟨3, [], []⟩ :: ⟨4, [], []⟩ :: ⟨5, [], []⟩ :: ⟨6, [], []⟩ :: ⟨7, [], []⟩ :: ⟨8, [], []⟩ :: ⟨9, [], []⟩ :: ⟨10, [], []⟩ :: []))
(.plain (
⟨(some 45), .mv (.tmp 4), none⟩ ::
⟨(some 46), .slc 1 (.tmp 45) (some (.const (.int .i64 64))) none, none⟩ ::
⟨(some 4), .mv (.tmp 46), none⟩ ::
[])))))))
(.plain (
⟨(some 47), .mv (.tmp 0), none⟩ ::
⟨(some 48), .mv (.tmp 4), none⟩ ::
⟨(some 49), .nilc (.tmp 47), none⟩ ::
⟨(some 50), .fa 8 (.tmp 49), none⟩ ::
⟨none, .store 1 (.tmp 50) (.tmp 48), none⟩ ::
[]))))))
theorem prep43 : prepFunc Tryz.prog 0 43 = some F43 := by kernel_rfl

-- (*indenture/sha.State).Done
def F44 : AFunc where
  ntmps := 83
  nparams := 1
  results := [(2, (some (true, 32)))]
  code :=
(.seq
(.plain (
⟨(some 2), .alloc 30 (List.replicate 32 (.v (.int .u8 0))), none⟩ ::
[]))
(.seq
(.plain (
⟨(some 8), .mv (.tmp 0), none⟩ ::
⟨(some 9), .nilc (.tmp 8), none⟩ ::
⟨(some 10), .fa 0 (.tmp 9), none⟩ ::
⟨(some 11), .load true 8 (.tmp 10), none⟩ ::
⟨(some 3), .alloc 128 (List.replicate 8 (.v (.int .u32 0))), none⟩ ::
⟨none, .store 8 (.tmp 3) (.tmp 11), none⟩ ::
[]))
(.seq
(.seq
(.plain (
⟨(some 12), .mv (.tmp 0), none⟩ ::
⟨(some 13), .nilc (.tmp 12), none⟩ ::
⟨(some 14), .fa 9 (.tmp 13), none⟩ ::
⟨(some 15), .load false 1 (.tmp 14), none⟩ ::
⟨(some 16), .bin .eql (.tmp 15) (.const (.int .u64 0)), none⟩ ::
[]))
(.cond (.tmp 16)
(.plain (
⟨(some 17), .callF 73 [], none⟩ ::
⟨none, .store 8 (.tmp 3) (.tmp 17), none⟩ ::
[]))
.skip))
(.seq
(.plain (
⟨(some 18), .bsl 1 [], none⟩ ::
⟨(some 19), .mv (.tmp 0), none⟩ ::
⟨(some 20), .nilc (.tmp 19), none⟩ ::
⟨(some 21), .fa 8 (.tmp 20), none⟩ ::
⟨(some 22), .load false 1 (.tmp 21), none⟩ ::
⟨(some 23), .app 1 1 (.tmp 18) (.tmp 22), none⟩ ::
⟨(some 24), .bsl 1 [(.const (.int .u8 128))], none⟩ ::
⟨(some 25), .app 1 1 (.tmp 23) (.tmp 24), none⟩ ::
⟨(some 4), .mv (.tmp 25), none⟩ ::
[]))
(.seq
(.block 0
(.loop
(.seq
(.seq
(.plain (
⟨(some 26), .mv (.tmp 4), none⟩ ::
⟨(some 27), .len (.tmp 26), none⟩ ::
⟨(some 28), .bin .rem (.tmp 27) (.const (.int .i64 64)), none⟩ ::
⟨(some 29), .bin .neq (.tmp 28) (.const (.int .i64 56)), none⟩ ::
[]))
(.cond (.tmp 29)
.skip
(.exit 0)))
(.block 1
(.plain (
⟨(some 30), .mv (.tmp 4), none⟩ ::
⟨(some 31), .bsl 1 [(.const (.int .u8 0))], none⟩ ::
⟨(some 32), .app 1 1 (.tmp 30) (.tmp 31), none⟩ ::
⟨(some 4), .mv (.tmp 32), none⟩ ::
[]))))))
(.seq
(.plain (
⟨(some 33), .mv (.tmp 4), none⟩ ::
⟨(some 34), .mv (.tmp 0), none⟩ ::
⟨(some 35), .nilc (.tmp 34), none⟩ ::
⟨(some 36), .fa 9 (.tmp 35), none⟩ ::
⟨(some 37), .load false 1 (.tmp 36), none⟩ ::
⟨(some 38), .bin .mul (.const (.int .u64 8)) (.tmp 37), none⟩ ::
⟨(some 39), .callF 27 [(.tmp 38)], none⟩ ::
⟨(some 40), .app 1 1 (.tmp 33) (.tmp 39), none⟩ ::
⟨(some 4), .mv (.tmp 40), none⟩ ::
[]))
(.seq
(.block 2
(.loop
(.seq
(.seq
(.plain (
⟨(some 41), .mv (.tmp 4), none⟩ ::
⟨(some 42), .len (.tmp 41), none⟩ ::
⟨(some 43), .bin .gtr (.tmp 42) (.const (.int .i64 0)), none⟩ ::
[]))
(.cond (.tmp 43)
.skip
(.exit 2)))
(.seq
(.block 3
(.draw (
⟨(some 46), .load true 8 (.tmp 3), none⟩ ::
⟨(some 47), .mv (.tmp 4), none⟩ ::
⟨(some 48), .slc 1 (.tmp 47) none (some (.const (.int .i64 64))), none⟩ ::
⟨(some 49), .callF 74 [(.tmp 46), (.tmp 48)], none⟩ ::
⟨none, .store 8 (.tmp 3) (.tmp 49), none⟩ ::
[])
(⟨0, [], []⟩ :: ⟨1, [], []⟩ :: ⟨2, [], []⟩ :: ⟨3, [], []⟩ :: ⟨4, [], []⟩ :: [])))
(.plain (
⟨(some 44), .mv (.tmp 4), none⟩ ::
⟨(some 45), .slc 1 (.tmp 44) (some (.const (.int .i64 64))) none, none⟩ ::
⟨(some 4), .mv (.tmp 45), none⟩ ::
[]))))))
(.seq
(.plain (
⟨(some 5), .alloc 30 (List.replicate 32 (.v (.int .u8 0))), none⟩ ::
[]))
(.seq
(.seq
(.plain (
⟨(some 50), .load true 8 (.tmp 3), none⟩ ::
⟨(some 51), .mv (.const (.int .i64 0)), none⟩ ::
[]))
(.block 4
(.loop
(.seq
(.plain (
⟨(some 52), .bin .lss (.tmp 51) (.const (.int .i64 8)), none⟩ ::
[]))
(.seq
(.cond (.tmp 52)
.skip
(.exit 4))
(.seq
(.block 5
(.seq
(.plain (
⟨(some 53), .mv (.tmp 51), none⟩ ::
⟨(some 54), .idxA false 1 8 (.tmp 50) (.tmp 51), none⟩ ::
⟨(some 6), .mv (.tmp 53), none⟩ ::
⟨(some 7), .mv (.tmp 54), none⟩ ::
[]))
(.plain (
⟨(some 55), .mv (.tmp 6), none⟩ ::
⟨(some 56), .bin .mul (.const (.int .i64 4)) (.tmp 55), none⟩ ::
⟨(some 57), .mv (.tmp 6), none⟩ ::
⟨(some 58), .bin .mul (.const (.int .i64 4)) (.tmp 57), none⟩ ::
⟨(some 59), .bin .add (.tmp 58) (.const (.int .i64 1)), none⟩ ::
⟨(some 60), .mv (.tmp 6), none⟩ ::
⟨(some 61), .bin .mul (.const (.int .i64 4)) (.tmp 60), none⟩ ::
⟨(some 62), .bin .add (.tmp 61) (.const (.int .i64 2)), none⟩ ::
⟨(some 63), .mv (.tmp 6), none⟩ ::
⟨(some 64), .bin .mul (.const (.int .i64 4)) (.tmp 63), none⟩ ::
⟨(some 65), .bin .add (.tmp 64) (.const (.int .i64 3)), none⟩ ::
⟨(some 66), .mv (.tmp 7), none⟩ ::
⟨(some 67), .bin .shr (.tmp 66) (.const (.int .u64 24)), none⟩ ::
⟨(some 68), .cvt .u8 (.tmp 67), none⟩ ::
⟨(some 69), .mv (.tmp 7), none⟩ ::
⟨(some 70), .bin .shr (.tmp 69) (.const (.int .u64 16)), none⟩ ::
⟨(some 71), .cvt .u8 (.tmp 70), none⟩ ::
⟨(some 72), .mv (.tmp 7), none⟩ ::
⟨(some 73), .bin .shr (.tmp 72) (.const (.int .u64 8)), none⟩ ::
⟨(some 74), .cvt .u8 (.tmp 73), none⟩ ::
⟨(some 75), .mv (.tmp 7), none⟩ ::
⟨(some 76), .cvt .u8 (.tmp 75), none⟩ ::
⟨(some 77), .iaA 1 32 (.tmp 5) (.tmp 56), none⟩ ::
⟨none, .store 1 (.tmp 77) (.tmp 68), none⟩ ::
⟨(some 78), .iaA 1 32 (.tmp 5) (.tmp 59), none⟩ ::
⟨none, .store 1 (.tmp 78) (.tmp 71), none⟩ ::
⟨(some 79), .iaA 1 32 (.tmp 5) (.tmp 62), none⟩ ::
⟨none, .store 1 (.tmp 79) (.tmp 74), none⟩ ::
⟨(some 80), .iaA 1 32 (.tmp 5) (.tmp 65), none⟩ ::
⟨none, .store 1 (.tmp 80) (.tmp 76), none⟩ ::
[]))))
(.plain (
⟨(some 81), .bin .add (.tmp 51) (.const (.int .i64 1)), none⟩ ::
⟨(some 51), .mv (.tmp 81), none⟩ ::
[]))))))))
(.seq
(.plain (
⟨(some 82), .load true 32 (.tmp 5), none⟩ ::
⟨none, .store 32 (.tmp 2) (.tmp 82), none⟩ ::
[]))
.ret))))))))))
theorem prep44 : prepFunc Tryz.prog 0 44 = some F44 := by kernel_rfl

-- indenture/indentureref01.With
def F45 : AFunc where
  ntmps := 78
  nparams := 2
  results := [(4, (some (true, 32)))]
  code :=
(.seq
(.plain (
⟨(some 4), .alloc 30 (List.replicate 32 (.v (.int .u8 0))), none⟩ ::
[]))
(.seq
(.plain (
⟨(some 12), .bslM 1 [], none⟩ ::
⟨(some 13), .mv (.tmp 0), none⟩ ::
⟨(some 14), .appM 1 1 (.tmp 12) (.tmp 13), none⟩ ::
⟨(some 15), .bslM 1 [(.const (.int .u8 128))], none⟩ ::
⟨(some 16), .appM 1 1 (.tmp 14) (.tmp 15), none⟩ ::
⟨(some 5), .mv (.tmp 16), none⟩ ::
[]))
(.seq
(.block 0
(.loop
(.seq
(.seq
(.plain (
⟨(some 17), .mv (.tmp 5), none⟩ ::
⟨(some 18), .len (.tmp 17), none⟩ ::
⟨(some 19), .bin .rem (.tmp 18) (.const (.int .i64 64)), none⟩ ::
⟨(some 20), .bin .neq (.tmp 19) (.const (.int .i64 56)), none⟩ ::
[]))
(.cond (.tmp 20)
.skip
(.exit 0)))
(.block 1
(.plain (
⟨(some 21), .mv (.tmp 5), none⟩ ::
⟨(some 22), .bslM 1 [(.const (.int .u8 0))], none⟩ ::
⟨(some 23), .appM 1 1 (.tmp 21) (.tmp 22), none⟩ ::
⟨(some 5), .mv (.tmp 23), none⟩ ::
[]))))))
(.seq
(.plain (
⟨(some 24), .mv (.tmp 0), none⟩ ::
⟨(some 25), .len (.tmp 24), none⟩ ::
⟨(some 26), .cvt .u64 (.tmp 25), none⟩ ::
⟨(some 27), .bin .mul (.const (.int .u64 8)) (.tmp 26), none⟩ ::
⟨(some 6), .mv (.tmp 27), none⟩ ::
[]))
(.seq
(.seq
(.plain (
⟨(some 7), .mv (.const (.int .i64 0)), none⟩ ::
[]))
(.block 2
(.loop
(.seq
(.seq
(.plain (
⟨(some 28), .mv (.tmp 7), none⟩ ::
⟨(some 29), .bin .lss (.tmp 28) (.const (.int .i64 8)), none⟩ ::
[]))
(.cond (.tmp 29)
.skip
(.exit 2)))
(.seq
(.block 3
(.plain (
⟨(some 32), .mv (.tmp 5), none⟩ ::
⟨(some 33), .mv (.tmp 6), none⟩ ::
⟨(some 34), .mv (.tmp 7), none⟩ ::
⟨(some 35), .bin .mul (.const (.int .i64 8)) (.tmp 34), none⟩ ::
⟨(some 36), .bin .sub (.const (.int .i64 56)) (.tmp 35), none⟩ ::
⟨(some 37), .cvt .u64 (.tmp 36), none⟩ ::
⟨(some 38), .bin .shr (.tmp 33) (.tmp 37), none⟩ ::
⟨(some 39), .bin .rem (.tmp 38) (.const (.int .u64 256)), none⟩ ::
⟨(some 40), .cvt .u8 (.tmp 39), none⟩ ::
⟨(some 41), .bslM 1 [(.tmp 40)], none⟩ ::
⟨(some 42), .appM 1 1 (.tmp 32) (.tmp 41), none⟩ ::
⟨(some 5), .mv (.tmp 42), none⟩ ::
[])))
(.plain (
⟨(some 30), .mv (.tmp 7), none⟩ ::
⟨(some 31), .bin .add (.tmp 30) (.const (.int .i64 1)), none⟩ ::
⟨(some 7), .mv (.tmp 31), none⟩ ::
[])))))))
(.seq
(.plain (
⟨(some 43), .bslM 1 [(.const (.int .u32 1779033703)), (.const (.int .u32 3144134277)), (.const (.int .u32 1013904242)), (.const (.int .u32 2773480762)), (.const (.int .u32 1359893119)), (.const (.int .u32 2600822924)), (.const (.int .u32 528734635)), (.const (.int .u32 1541459225))], none⟩ ::
⟨(some 8), .mv (.tmp 43), none⟩ ::
[]))
(.seq
(.seq
(.plain (
⟨(some 9), .mv (.const (.int .i64 0)), none⟩ ::
[]))
(.block 4
(.loop
(.seq
(.seq
(.plain (
⟨(some 44), .mv (.tmp 9), none⟩ ::
⟨(some 45), .mv (.tmp 5), none⟩ ::
⟨(some 46), .len (.tmp 45), none⟩ ::
⟨(some 47), .bin .lss (.tmp 44) (.tmp 46), none⟩ ::
[]))
(.cond (.tmp 47)
.skip
(.exit 4)))
(.seq
(.block 5
(.plain (
⟨(some 50), .mv (.tmp 8), none⟩ ::
⟨(some 51), .mv (.tmp 5), none⟩ ::
⟨(some 52), .mv (.tmp 9), none⟩ ::
⟨(some 53), .mv (.tmp 9), none⟩ ::
⟨(some 54), .bin .add (.tmp 53) (.const (.int .i64 64)), none⟩ ::
⟨(some 55), .slc 1 (.tmp 51) (some (.tmp 52)) (some (.tmp 54)), none⟩ ::
⟨(some 56), .mv (.tmp 1), none⟩ ::
⟨(some 57), .callF 75 [(.tmp 50), (.tmp 55), (.tmp 56)], none⟩ ::
⟨(some 8), .mv (.tmp 57), none⟩ ::
[])))
(.plain (
⟨(some 48), .mv (.tmp 9), none⟩ ::
⟨(some 49), .bin .add (.tmp 48) (.const (.int .i64 64)), none⟩ ::
⟨(some 9), .mv (.tmp 49), none⟩ ::
[])))))))
(.seq
(.plain (
⟨(some 10), .alloc 30 (List.replicate 32 (.v (.int .u8 0))), none⟩ ::
[]))
(.seq
(.seq
(.plain (
⟨(some 11), .mv (.const (.int .i64 0)), none⟩ ::
[]))
(.block 6
(.loop
(.seq
(.seq
(.plain (
⟨(some 58), .mv (.tmp 11), none⟩ ::
⟨(some 59), .bin .lss (.tmp 58) (.const (.int .i64 32)), none⟩ ::
[]))
(.cond (.tmp 59)
.skip
(.exit 6)))
(.seq
(.block 7
(.plain (
⟨(some 62), .mv (.tmp 11), none⟩ ::
⟨(some 63), .mv (.tmp 8), none⟩ ::
⟨(some 64), .mv (.tmp 11), none⟩ ::
⟨(some 65), .bin .quo (.tmp 64) (.const (.int .i64 4)), none⟩ ::
⟨(some 66), .iaS 1 (.tmp 63) (.tmp 65), none⟩ ::
⟨(some 67), .load false 1 (.tmp 66), none⟩ ::
⟨(some 68), .mv (.tmp 11), none⟩ ::
⟨(some 69), .bin .rem (.tmp 68) (.const (.int .i64 4)), none⟩ ::
⟨(some 70), .bin .mul (.const (.int .i64 8)) (.tmp 69), none⟩ ::
⟨(some 71), .bin .sub (.const (.int .i64 24)) (.tmp 70), none⟩ ::
⟨(some 72), .cvt .u64 (.tmp 71), none⟩ ::
⟨(some 73), .bin .shr (.tmp 67) (.tmp 72), none⟩ ::
⟨(some 74), .bin .rem (.tmp 73) (.const (.int .u32 256)), none⟩ ::
⟨(some 75), .cvt .u8 (.tmp 74), none⟩ ::
⟨(some 76), .iaA 1 32 (.tmp 10) (.tmp 62), none⟩ ::
⟨none, .store 1 (.tmp 76) (.tmp 75), none⟩ ::
[])))
(.plain (
⟨(some 60), .mv (.tmp 11), none⟩ ::
⟨(some 61), .bin .add (.tmp 60) (.const (.int .i64 1)), none⟩ ::
⟨(some 11), .mv (.tmp 61), none⟩ ::
[])))))))
(.seq
(.plain (
⟨(some 77), .load true 32 (.tmp 10), none⟩ ::
⟨none, .store 32 (.tmp 4) (.tmp 77), none⟩ ::
[]))
.ret))))))))))
theorem prep45 : prepFunc Tryz.prog 1 45 = some F45 := by kernel_rfl

-- indenture/indentureref01.Words
def F46 : AFunc where
  ntmps := 2
  nparams := 0
  results := [(0, none)]
  code :=
(.seq
(.plain (
⟨(some 0), .mv (.const (.slice none 0 0)), none⟩ ::
[]))
(.seq
(.plain (
⟨(some 1), .bslM 1 [(.const (.int .u32 1116352408)), (.const (.int .u32 1899447441)), (.const (.int .u32 3049323471)), (.const (.int .u32 3921009573)), (.const (.int .u32 961987163)), (.const (.int .u32 1508970993)), (.const (.int .u32 2453635748)), (.const (.int .u32 2870763221)), (.const (.int .u32 3624381080)), (.const (.int .u32 310598401)), (.const (.int .u32 607225278)), (.const (.int .u32 1426881987)), (.const (.int .u32 1925078388)), (.const (.int .u32 2162078206)), (.const (.int .u32 2614888103)), (.const (.int .u32 3248222580)), (.const (.int .u32 3835390401)), (.const (.int .u32 4022224774)), (.const (.int .u32 264347078)), (.const (.int .u32 604807628)), (.const (.int .u32 770255983)), (.const (.int .u32 1249150122)), (.const (.int .u32 1555081692)), (.const (.int .u32 1996064986)), (.const (.int .u32 2554220882)), (.const (.int .u32 2821834349)), (.const (.int .u32 2952996808)), (.const (.int .u32 3210313671)), (.const (.int .u32 3336571891)), (.const (.int .u32 3584528711)), (.const (.int .u32 113926993)), (.const (.int .u32 338241895)), (.const (.int .u32 666307205)), (.const (.int .u32 773529912)), (.const (.int .u32 1294757372)), (.const (.int .u32 1396182291)), (.const (.int .u32 1695183700)), (.const (.int .u32 1986661051)), (.const (.int .u32 2177026350)), (.const (.int .u32 2456956037)), (.const (.int .u32 2730485921)), (.const (.int .u32 2820302411)), (.const (.int .u32 3259730800)), (.const (.int .u32 3345764771)), (.const (.int .u32 3516065817)), (.const (.int .u32 3600352804)), (.const (.int .u32 4094571909)), (.const (.int .u32 275423344)), (.const (.int .u32 430227734)), (.const (.int .u32 506948616)), (.const (.int .u32 659060556)), (.const (.int .u32 883997877)), (.const (.int .u32 958139571)), (.const (.int .u32 1322822218)), (.const (.int .u32 1537002063)), (.const (.int .u32 1747873779)), (.const (.int .u32 1955562222)), (.const (.int .u32 2024104815)), (.const (.int .u32 2227730452)), (.const (.int .u32 2361852424)), (.const (.int .u32 2428436474)), (.const (.int .u32 2756734187)), (.const (.int .u32 3204031479)), (.const (.int .u32 3329325298))], none⟩ ::
⟨(some 0), .mv (.tmp 1), none⟩ ::
[]))
.ret))
theorem prep46 : prepFunc Tryz.prog 1 46 = some F46 := by kernel_rfl

-- slices.Concat[[][]byte,[]byte]
def F47 : AFunc where
  ntmps := 36
  nparams := 1
  results := [(2, none)]
  code :=
(.seq
(.plain (
⟨(some 2), .mv (.const (.slice none 0 0)), none⟩ ::
[]))
(.seq
(.plain (
⟨(some 3), .mv (.const (.int .i64 0)), none⟩ ::
[]))
(.seq
(.seq
(.plain (
⟨(some 9), .mv (.tmp 0), none⟩ ::
⟨(some 10), .len (.tmp 9), none⟩ ::
⟨(some 11), .mv (.const (.int .i64 0)), none⟩ ::
[]))
(.block 0
(.loop
(.seq
(.plain (
⟨(some 12), .bin .lss (.tmp 11) (.tmp 10), none⟩ ::
[]))
(.seq
(.cond (.tmp 12)
.skip
(.exit 0))
(.seq
(.block 1
(.seq
(.plain (
⟨(some 13), .iaS 1 (.tmp 9) (.tmp 11), none⟩ ::
⟨(some 14), .load false 1 (.tmp 13), none⟩ ::
⟨(some 5), .mv (.tmp 14), none⟩ ::
[]))
(.seq
(.plain (
⟨(some 15), .mv (.tmp 3), none⟩ ::
⟨(some 16), .mv (.tmp 5), none⟩ ::
⟨(some 17), .len (.tmp 16), none⟩ ::
⟨(some 18), .bin .add (.tmp 15) (.tmp 17), none⟩ ::
⟨(some 3), .mv (.tmp 18), none⟩ ::
[]))
(.seq
(.plain (
⟨(some 19), .mv (.tmp 3), none⟩ ::
⟨(some 20), .bin .lss (.tmp 19) (.const (.int .i64 0)), none⟩ ::
[]))
(.cond (.tmp 20)
(.plain (
⟨(some 21), .mki 9 (.const (.string ⟨#[108, 101, 110, 32, 111, 117, 116, 32, 111, 102, 32, 114, 97, 110, 103, 101]⟩)), none⟩ ::
⟨none, .pan (.tmp 21), none⟩ ::
[]))
.skip)))))
(.plain (
⟨(some 22), .bin .add (.tmp 11) (.const (.int .i64 1)), none⟩ ::
⟨(some 11), .mv (.tmp 22), none⟩ ::
[]))))))))
(.seq
(.plain (
⟨(some 23), .mv (.tmp 3), none⟩ ::
⟨(some 24), .callF 76 [(.const (.slice none 0 0)), (.tmp 23)], none⟩ ::
⟨(some 6), .mv (.tmp 24), none⟩ ::
[]))
(.seq
(.seq
(.plain (
⟨(some 25), .mv (.tmp 0), none⟩ ::
⟨(some 26), .len (.tmp 25), none⟩ ::
⟨(some 27), .mv (.const (.int .i64 0)), none⟩ ::
[]))
(.block 2
(.loop
(.seq
(.plain (
⟨(some 28), .bin .lss (.tmp 27) (.tmp 26), none⟩ ::
[]))
(.seq
(.cond (.tmp 28)
.skip
(.exit 2))
(.seq
(.block 3
(.seq
(.plain (
⟨(some 29), .iaS 1 (.tmp 25) (.tmp 27), none⟩ ::
⟨(some 30), .load false 1 (.tmp 29), none⟩ ::
⟨(some 8), .mv (.tmp 30), none⟩ ::
[]))
(.plain (
⟨(some 31), .mv (.tmp 6), none⟩ ::
⟨(some 32), .mv (.tmp 8), none⟩ ::
⟨(some 33), .app 1 24 (.tmp 31) (.tmp 32), none⟩ ::
⟨(some 6), .mv (.tmp 33), none⟩ ::
[]))))
(.plain (
⟨(some 34), .bin .add (.tmp 27) (.const (.int .i64 1)), none⟩ ::
⟨(some 27), .mv (.tmp 34), none⟩ ::
[]))))))))
(.seq
(.plain (
⟨(some 35), .mv (.tmp 6), none⟩ ::
⟨(some 2), .mv (.tmp 35), none⟩ ::
[]))
.ret))))))
theorem prep47 : prepFunc Tryz.prog 0 47 = some F47 := by kernel_rfl

-- indenture/block.DigestPreimage
def F48 : AFunc where
  ntmps := 18
  nparams := 1
  results := [(2, none)]
  code :=
(.seq
(.plain (
⟨(some 1), .boxR 32 (.tmp 0), none⟩ ::
⟨(some 2), .mv (.const (.slice none 0 0)), none⟩ ::
[]))
(.seq
(.plain (
⟨(some 4), .bld [(.sl [] .nil), (.v (.int .i64 0))] [], none⟩ ::
⟨(some 5), .box 138 (.tmp 4), none⟩ ::
⟨(some 3), .mv (.tmp 5), none⟩ ::
[]))
(.seq
(.plain (
⟨(some 6), .mv (.tmp 3), none⟩ ::
⟨(some 7), .fa 0 (.tmp 1), none⟩ ::
⟨(some 8), .load false 1 (.tmp 7), none⟩ ::
⟨(some 9), .callF 77 [(.tmp 6), (.tmp 8)], none⟩ ::
[]))
(.seq
(.draw (
⟨(some 10), .mv (.tmp 3), none⟩ ::
⟨(some 11), .callF 78 [(.tmp 10)], none⟩ ::
⟨(some 12), .fa 1 (.tmp 1), none⟩ ::
⟨(some 13), .slcR 1 32 (.tmp 12) none none, none⟩ ::
⟨(some 14), .fa 33 (.tmp 1), none⟩ ::
⟨(some 15), .slcR 1 32 (.tmp 14) none none, none⟩ ::
⟨(some 16), .bsl 1 [(.tmp 11), (.tmp 13), (.tmp 15)], none⟩ ::
⟨(some 17), .callF 12 [(.const (.int .u8 68)), (.tmp 16)], none⟩ ::
⟨(some 2), .mv (.tmp 17), none⟩ ::
[])
(⟨0, [], []⟩ :: ⟨2, [], []⟩ :: ⟨3, [], []⟩ :: ⟨4, [], []⟩ :: ⟨5, [], []⟩ :: ⟨1, [], [3, 5]⟩ :: ⟨6, [], []⟩ :: ⟨7, [], []⟩ :: ⟨8, [], []⟩ :: []))
.ret))))
theorem prep48 : prepFunc Tryz.prog 0 48 = some F48 := by kernel_rfl

-- indenture/block.Sum
def F49 : AFunc where
  ntmps := 12
  nparams := 1
  results := [(2, (some (true, 32)))]
  code :=
(.seq
(.plain (
⟨(some 1), .box 35 (.tmp 0), none⟩ ::
⟨(some 2), .alloc 30 (List.replicate 32 (.v (.int .u8 0))), none⟩ ::
[]))
(.seq
(.plain (
⟨(some 4), .load true 97 (.tmp 1), none⟩ ::
⟨(some 5), .callF 33 [(.tmp 4)], none⟩ ::
⟨(some 3), .mv (.tmp 5), none⟩ ::
[]))
(.seq
(.seq
(.plain (
⟨(some 6), .mv (.tmp 3), none⟩ ::
⟨(some 7), .len (.tmp 6), none⟩ ::
⟨(some 8), .bin .eql (.tmp 7) (.const (.int .i64 0)), none⟩ ::
[]))
(.cond (.tmp 8)
(.seq
(.plain (
⟨(some 9), .bld (List.replicate 32 (.v (.int .u8 0))) [], none⟩ ::
⟨none, .store 32 (.tmp 2) (.tmp 9), none⟩ ::
[]))
.ret)
.skip))
(.seq
(.plain (
⟨(some 10), .mv (.tmp 3), none⟩ ::
⟨(some 11), .callF 14 [(.tmp 10)], none⟩ ::
⟨none, .store 32 (.tmp 2) (.tmp 11), none⟩ ::
[]))
.ret))))
theorem prep49 : prepFunc Tryz.prog 0 49 = some F49 := by kernel_rfl

-- (*indenture/history.proof).both
def F50 : AFunc where
  ntmps := 81
  nparams := 5
  results := [(10, (some (true, 32))), (11, (some (true, 32)))]
  code :=
(.seq
(.plain (
⟨(some 6), .box 30 (.tmp 1), none⟩ ::
⟨(some 10), .alloc 30 (List.replicate 32 (.v (.int .u8 0))), none⟩ ::
⟨(some 11), .alloc 30 (List.replicate 32 (.v (.int .u8 0))), none⟩ ::
[]))
(.seq
(.seq
(.plain (
⟨(some 18), .mv (.tmp 2), none⟩ ::
⟨(some 19), .mv (.tmp 3), none⟩ ::
⟨(some 20), .bin .eql (.tmp 18) (.tmp 19), none⟩ ::
⟨(some 21), .mv (.tmp 20), none⟩ ::
⟨(some 22), .mv (.tmp 4), (some (21, true))⟩ ::
⟨(some 23), .pick (.tmp 21) (.tmp 22) (.const (.bool false)), none⟩ ::
[]))
(.cond (.tmp 23)
(.seq
(.draw (
⟨(some 24), .load true 32 (.tmp 6), none⟩ ::
⟨(some 25), .load true 32 (.tmp 6), none⟩ ::
⟨none, .store 32 (.tmp 10) (.tmp 24), none⟩ ::
⟨none, .store 32 (.tmp 11) (.tmp 25), none⟩ ::
[])
(⟨0, [], []⟩ :: ⟨1, [], []⟩ :: ⟨2, [], [1]⟩ :: ⟨3, [], []⟩ :: []))
.ret)
.skip))
(.seq
(.plain (
⟨(some 26), .mv (.tmp 0), none⟩ ::
⟨(some 27), .callF 79 [(.tmp 26)], none⟩ ::
⟨(some 12), .alloc 30 (List.replicate 32 (.v (.int .u8 0))), none⟩ ::
⟨none, .store 32 (.tmp 12) (.tmp 27), none⟩ ::
[]))
(.seq
(.seq
(.plain (
⟨(some 28), .mv (.tmp 0), none⟩ ::
⟨(some 29), .nilc (.tmp 28), none⟩ ::
⟨(some 30), .fa 2 (.tmp 29), none⟩ ::
⟨(some 31), .load false 1 (.tmp 30), none⟩ ::
⟨(some 32), .mv (.tmp 31), none⟩ ::
⟨(some 33), .mv (.tmp 2), (some (32, false))⟩ ::
⟨(some 34), .mv (.tmp 3), (some (32, false))⟩ ::
⟨(some 35), .bin .eql (.tmp 33) (.tmp 34), (some (32, false))⟩ ::
⟨(some 36), .pick (.tmp 32) (.const (.bool true)) (.tmp 35), none⟩ ::
[]))
(.cond (.tmp 36)
(.seq
(.draw (
⟨(some 37), .load true 32 (.tmp 12), none⟩ ::
⟨(some 38), .load true 32 (.tmp 12), none⟩ ::
⟨none, .store 32 (.tmp 10) (.tmp 37), none⟩ ::
⟨none, .store 32 (.tmp 11) (.tmp 38), none⟩ ::
[])
(⟨0, [], []⟩ :: ⟨1, [], []⟩ :: ⟨2, [], [1]⟩ :: ⟨3, [], []⟩ :: []))
.ret)
.skip))
(.seq
(.plain (
⟨(some 39), .mv (.tmp 3), none⟩ ::
⟨(some 40), .callF 80 [(.tmp 39)], none⟩ ::
⟨(some 13), .mv (.tmp 40), none⟩ ::
[]))
(.seq
(.seq
(.plain (
⟨(some 41), .mv (.tmp 2), none⟩ ::
⟨(some 42), .mv (.tmp 13), none⟩ ::
⟨(some 43), .bin .leq (.tmp 41) (.tmp 42), none⟩ ::
[]))
(.cond (.tmp 43)
(.seq
(.plain (
⟨(some 45), .mv (.tmp 0), none⟩ ::
⟨(some 46), .load true 32 (.tmp 6), none⟩ ::
⟨(some 47), .mv (.tmp 2), none⟩ ::
⟨(some 48), .mv (.tmp 13), none⟩ ::
⟨(some 49), .mv (.tmp 4), none⟩ ::
⟨(some 50), .callF 50 [(.tmp 45), (.tmp 46), (.tmp 47), (.tmp 48), (.tmp 49)], none⟩ ::
⟨(some 44), .mv (.tmp 50), none⟩ ::
⟨(some 51), .ext (.tmp 44) 0, none⟩ ::
⟨(some 52), .ext (.tmp 44) 1, none⟩ ::
⟨(some 14), .alloc 30 (List.replicate 32 (.v (.int .u8 0))), none⟩ ::
⟨(some 15), .alloc 30 (List.replicate 32 (.v (.int .u8 0))), none⟩ ::
⟨none, .store 32 (.tmp 14) (.tmp 51), none⟩ ::
⟨none, .store 32 (.tmp 15) (.tmp 52), none⟩ ::
[]))
(.seq
(.draw (
⟨(some 53), .load true 32 (.tmp 14), none⟩ ::
⟨(some 54), .mv (.tmp 0), none⟩ ::
⟨(some 55), .load true 32 (.tmp 15), none⟩ ::
⟨(some 56), .load true 32 (.tmp 12), none⟩ ::
⟨(some 57), .callF 82 [(.tmp 55), (.tmp 56)], none⟩ ::
⟨(some 58), .callF 81 [(.tmp 54), (.tmp 57)], none⟩ ::
⟨none, .store 32 (.tmp 10) (.tmp 53), none⟩ ::
⟨none, .store 32 (.tmp 11) (.tmp 58), none⟩ ::
[])
(⟨0, [], []⟩ :: ⟨1, [], []⟩ :: ⟨2, [], []⟩ :: ⟨3, [], []⟩ :: ⟨4, [], [0]⟩ :: ⟨5, [], [0]⟩ :: ⟨6, [], []⟩ :: ⟨7, [], []⟩ :: []))
.ret))
.skip))
(.seq
(.plain (
⟨(some 60), .mv (.tmp 0), none⟩ ::
⟨(some 61), .load true 32 (.tmp 6), none⟩ ::
⟨(some 62), .mv (.tmp 2), none⟩ ::
⟨(some 63), .mv (.tmp 13), none⟩ ::
⟨(some 64), .bin .sub (.tmp 62) (.tmp 63), none⟩ ::
⟨(some 65), .mv (.tmp 3), none⟩ ::
⟨(some 66), .mv (.tmp 13), none⟩ ::
⟨(some 67), .bin .sub (.tmp 65) (.tmp 66), none⟩ ::
⟨(some 68), .callF 50 [(.tmp 60), (.tmp 61), (.tmp 64), (.tmp 67), (.const (.bool false))], none⟩ ::
⟨(some 59), .mv (.tmp 68), none⟩ ::
⟨(some 69), .ext (.tmp 59) 0, none⟩ ::
⟨(some 70), .ext (.tmp 59) 1, none⟩ ::
⟨(some 16), .alloc 30 (List.replicate 32 (.v (.int .u8 0))), none⟩ ::
⟨(some 17), .alloc 30 (List.replicate 32 (.v (.int .u8 0))), none⟩ ::
⟨none, .store 32 (.tmp 16) (.tmp 69), none⟩ ::
⟨none, .store 32 (.tmp 17) (.tmp 70), none⟩ ::
[]))
(.seq
(.draw (
⟨(some 71), .mv (.tmp 0), none⟩ ::
⟨(some 72), .load true 32 (.tmp 12), none⟩ ::
⟨(some 73), .load true 32 (.tmp 16), none⟩ ::
⟨(some 74), .callF 82 [(.tmp 72), (.tmp 73)], none⟩ ::
⟨(some 75), .callF 81 [(.tmp 71), (.tmp 74)], none⟩ ::
⟨(some 76), .mv (.tmp 0), none⟩ ::
⟨(some 77), .load true 32 (.tmp 12), none⟩ ::
⟨(some 78), .load true 32 (.tmp 17), none⟩ ::
⟨(some 79), .callF 82 [(.tmp 77), (.tmp 78)], none⟩ ::
⟨(some 80), .callF 81 [(.tmp 76), (.tmp 79)], none⟩ ::
⟨none, .store 32 (.tmp 10) (.tmp 75), none⟩ ::
⟨none, .store 32 (.tmp 11) (.tmp 80), none⟩ ::
[])
(⟨0, [], []⟩ :: ⟨1, [], []⟩ :: ⟨2, [], []⟩ :: ⟨5, [], []⟩ :: ⟨6, [], []⟩ :: ⟨7, [], []⟩ :: ⟨3, [], [6, 7]⟩ :: ⟨4, [], [6, 7]⟩ :: ⟨8, [], []⟩ :: ⟨9, [], []⟩ :: ⟨10, [], []⟩ :: ⟨11, [], []⟩ :: []))
.ret))))))))
theorem prep50 : prepFunc Tryz.prog 0 50 = some F50 := by kernel_rfl

end Go.Proofs.YtnnjjmiahcnbaaaGreat
set_option maxRecDepth 100000
namespace Go.Proofs.YtnnjjmiahcnbaaaGreat
open Go Go.Av

theorem hm_1 : Tryz.prog.follows .mixedOrders = true := by kernel_rfl

-- indenture/block.Ops
def F51 : AFunc where
  ntmps := 34
  nparams := 1
  results := [(2, none), (3, none)]
  code :=
(.seq
(.plain (
⟨(some 2), .mv (.const (.slice none 0 0)), none⟩ ::
⟨(some 3), .mv (.const (.int .i64 0)), none⟩ ::
[]))
(.seq
(.seq
(.plain (
⟨(some 7), .mv (.tmp 0), none⟩ ::
⟨(some 8), .len (.tmp 7), none⟩ ::
⟨(some 9), .bin .gtr (.tmp 8) (.const (.int .i64 256)), none⟩ ::
⟨(some 10), .mv (.tmp 9), none⟩ ::
⟨(some 11), .mv (.tmp 0), (some (10, false))⟩ ::
⟨(some 12), .callF 83 [(.tmp 11), (.func 84)], (some (10, false))⟩ ::
⟨(some 13), .pick (.tmp 10) (.const (.bool true)) (.tmp 12), none⟩ ::
[]))
(.cond (.tmp 13)
(.seq
(.plain (
⟨(some 2), .mv (.const (.slice none 0 0)), none⟩ ::
⟨(some 3), .mv (.const (.int .i64 1)), none⟩ ::
[]))
.ret)
.skip))
(.seq
(.plain (
⟨(some 14), .bld [(.sl [] .nil), (.v (.int .i64 0))] [], none⟩ ::
⟨(some 15), .box 138 (.tmp 14), none⟩ ::
⟨(some 4), .mv (.tmp 15), none⟩ ::
[]))
(.seq
(.plain (
⟨(some 16), .mv (.tmp 4), none⟩ ::
⟨(some 17), .mv (.tmp 0), none⟩ ::
⟨(some 18), .len (.tmp 17), none⟩ ::
⟨(some 19), .callF 86 [(.tmp 16), (.tmp 18)], none⟩ ::
[]))
(.seq
(.seq
(.plain (
⟨(some 20), .mv (.tmp 0), none⟩ ::
⟨(some 21), .len (.tmp 20), none⟩ ::
⟨(some 22), .mv (.const (.int .i64 0)), none⟩ ::
[]))
(.block 0
(.loop
(.seq
(.plain (
⟨(some 23), .bin .lss (.tmp 22) (.tmp 21), none⟩ ::
[]))
(.seq
(.cond (.tmp 23)
.skip
(.exit 0))
(.seq
(.block 1
(.seq
(.plain (
⟨(some 24), .iaS 4 (.tmp 20) (.tmp 22), none⟩ ::
⟨(some 25), .load true 4 (.tmp 24), none⟩ ::
⟨(some 6), .alloc 147 [(.v (.int .u8 0)), (.v (.string ⟨#[]⟩)), (.sl [] .nil), (.sl [] .nil)], none⟩ ::
⟨none, .store 4 (.tmp 6) (.tmp 25), none⟩ ::
[]))
(.plain (
⟨(some 26), .mv (.tmp 4), none⟩ ::
⟨(some 27), .load true 4 (.tmp 6), none⟩ ::
⟨(some 28), .callF 87 [(.tmp 26), (.tmp 27)], none⟩ ::
[]))))
(.plain (
⟨(some 29), .bin .add (.tmp 22) (.const (.int .i64 1)), none⟩ ::
⟨(some 22), .mv (.tmp 29), none⟩ ::
[]))))))))
(.seq
(.plain (
⟨(some 30), .mv (.tmp 4), none⟩ ::
⟨(some 31), .callF 78 [(.tmp 30)], none⟩ ::
⟨(some 32), .mv (.tmp 4), none⟩ ::
⟨(some 33), .callF 88 [(.tmp 32)], none⟩ ::
⟨(some 2), .mv (.tmp 31), none⟩ ::
⟨(some 3), .mv (.tmp 33), none⟩ ::
[]))
.ret))))))
theorem prep51 : prepFunc Tryz.prog 0 51 = some F51 := by kernel_rfl

-- indenture/codec.New
def F52 : AFunc where
  ntmps := 7
  nparams := 1
  results := [(2, none)]
  code :=
(.seq
(.plain (
⟨(some 2), .mv (.const (.pointer none)), none⟩ ::
[]))
(.seq
(.plain (
⟨(some 3), .mv (.tmp 0), none⟩ ::
⟨(some 4), .callF 16 [(.tmp 3)], none⟩ ::
⟨(some 5), .bld [(.sl [] .nil), (.v (.int .i64 0))] [(0, 1, (.tmp 4))], none⟩ ::
⟨(some 6), .box 151 (.tmp 5), none⟩ ::
⟨(some 2), .mv (.tmp 6), none⟩ ::
[]))
.ret))
theorem prep52 : prepFunc Tryz.prog 0 52 = some F52 := by kernel_rfl

-- (*indenture/codec.Reader).Text
def F53 : AFunc where
  ntmps := 17
  nparams := 2
  results := [(4, none)]
  code :=
(.seq
(.plain (
⟨(some 4), .mv (.const (.slice none 0 0)), none⟩ ::
[]))
(.seq
(.plain (
⟨(some 8), .mv (.tmp 0), none⟩ ::
⟨(some 9), .mv (.tmp 0), none⟩ ::
⟨(some 10), .mv (.tmp 1), none⟩ ::
⟨(some 11), .callF 90 [(.tmp 9), (.tmp 10)], none⟩ ::
⟨(some 12), .callF 89 [(.tmp 8), (.tmp 11)], none⟩ ::
⟨(some 7), .mv (.tmp 12), none⟩ ::
⟨(some 13), .ext (.tmp 7) 0, none⟩ ::
⟨(some 14), .ext (.tmp 7) 1, none⟩ ::
⟨(some 5), .mv (.tmp 13), none⟩ ::
⟨(some 6), .mv (.tmp 14), none⟩ ::
[]))
(.seq
(.plain (
⟨(some 15), .mv (.tmp 5), none⟩ ::
⟨(some 16), .callF 16 [(.tmp 15)], none⟩ ::
⟨(some 4), .mv (.tmp 16), none⟩ ::
[]))
.ret)))
theorem prep53 : prepFunc Tryz.prog 0 53 = some F53 := by kernel_rfl

-- (*indenture/codec.Reader).End
def F54 : AFunc where
  ntmps := 15
  nparams := 1
  results := [(2, none)]
  code :=
(.seq
(.plain (
⟨(some 2), .mv (.const (.int .i64 0)), none⟩ ::
[]))
(.seq
(.seq
(.plain (
⟨(some 3), .mv (.tmp 0), none⟩ ::
⟨(some 4), .nilc (.tmp 3), none⟩ ::
⟨(some 5), .fa 0 (.tmp 4), none⟩ ::
⟨(some 6), .load false 1 (.tmp 5), none⟩ ::
⟨(some 7), .len (.tmp 6), none⟩ ::
⟨(some 8), .bin .gtr (.tmp 7) (.const (.int .i64 0)), none⟩ ::
[]))
(.cond (.tmp 8)
(.plain (
⟨(some 9), .mv (.tmp 0), none⟩ ::
⟨(some 10), .callF 91 [(.tmp 9), (.const (.int .i64 22))], none⟩ ::
[]))
.skip))
(.seq
(.plain (
⟨(some 11), .mv (.tmp 0), none⟩ ::
⟨(some 12), .nilc (.tmp 11), none⟩ ::
⟨(some 13), .fa 1 (.tmp 12), none⟩ ::
⟨(some 14), .load false 1 (.tmp 13), none⟩ ::
⟨(some 2), .mv (.tmp 14), none⟩ ::
[]))
.ret)))
theorem prep54 : prepFunc Tryz.prog 0 54 = some F54 := by kernel_rfl

-- indenture/block.ReadHead
def F55 : AFunc where
  ntmps := 35
  nparams := 1
  results := [(2, (some (true, 97))), (3, none)]
  code :=
(.seq
(.plain (
⟨(some 2), .alloc 35 (List.replicate 32 (.v (.int .u8 0)) ++ [(.v (.int .i64 0))] ++ List.replicate 64 (.v (.int .u8 0))), none⟩ ::
⟨(some 3), .mv (.const (.int .i64 0)), none⟩ ::
[]))
(.seq
(.plain (
⟨(some 7), .mv (.tmp 0), none⟩ ::
⟨(some 8), .callF 52 [(.tmp 7)], none⟩ ::
⟨(some 4), .mv (.tmp 8), none⟩ ::
[]))
(.seq
(.plain (
⟨(some 9), .mv (.tmp 4), none⟩ ::
⟨(some 10), .callF 92 [(.tmp 9)], none⟩ ::
⟨(some 11), .bld (List.replicate 32 (.v (.int .u8 0)) ++ [(.v (.int .i64 0))] ++ List.replicate 64 (.v (.int .u8 0))) [(0, 32, (.tmp 10))], none⟩ ::
⟨(some 5), .alloc 35 (List.replicate 32 (.v (.int .u8 0)) ++ [(.v (.int .i64 0))] ++ List.replicate 64 (.v (.int .u8 0))), none⟩ ::
⟨none, .store 97 (.tmp 5) (.tmp 11), none⟩ ::
[]))
(.seq
(.plain (
⟨(some 12), .mv (.tmp 4), none⟩ ::
⟨(some 13), .callF 93 [(.tmp 12)], none⟩ ::
⟨(some 6), .mv (.tmp 13), none⟩ ::
[]))
(.seq
(.plain (
⟨(some 14), .mv (.tmp 4), none⟩ ::
⟨(some 15), .callF 92 [(.tmp 14)], none⟩ ::
⟨(some 16), .fa 33 (.tmp 5), none⟩ ::
⟨none, .store 32 (.tmp 16) (.tmp 15), none⟩ ::
[]))
(.seq
(.plain (
⟨(some 17), .mv (.tmp 4), none⟩ ::
⟨(some 18), .callF 92 [(.tmp 17)], none⟩ ::
⟨(some 19), .fa 65 (.tmp 5), none⟩ ::
⟨none, .store 32 (.tmp 19) (.tmp 18), none⟩ ::
[]))
(.seq
(.seq
(.plain (
⟨(some 20), .mv (.tmp 4), none⟩ ::
⟨(some 21), .callF 54 [(.tmp 20)], none⟩ ::
⟨(some 22), .bin .neq (.tmp 21) (.const (.int .i64 0)), none⟩ ::
⟨(some 23), .mv (.tmp 22), none⟩ ::
⟨(some 24), .mv (.tmp 6), (some (23, false))⟩ ::
⟨(some 25), .bin .lss (.tmp 24) (.const (.int .i64 0)), (some (23, false))⟩ ::
⟨(some 26), .pick (.tmp 23) (.const (.bool true)) (.tmp 25), none⟩ ::
⟨(some 27), .mv (.tmp 26), none⟩ ::
⟨(some 28), .mv (.tmp 6), (some (27, false))⟩ ::
⟨(some 29), .bin .gtr (.tmp 28) (.const (.int .i64 1099511627776)), (some (27, false))⟩ ::
⟨(some 30), .pick (.tmp 27) (.const (.bool true)) (.tmp 29), none⟩ ::
[]))
(.cond (.tmp 30)
(.seq
(.plain (
⟨(some 31), .bld (List.replicate 32 (.v (.int .u8 0)) ++ [(.v (.int .i64 0))] ++ List.replicate 64 (.v (.int .u8 0))) [], none⟩ ::
⟨none, .store 97 (.tmp 2) (.tmp 31), none⟩ ::
⟨(some 3), .mv (.const (.int .i64 21)), none⟩ ::
[]))
.ret)
.skip))
(.seq
(.plain (
⟨(some 32), .mv (.tmp 6), none⟩ ::
⟨(some 33), .fa 32 (.tmp 5), none⟩ ::
⟨none, .store 1 (.tmp 33) (.tmp 32), none⟩ ::
[]))
(.seq
(.plain (
⟨(some 34), .load true 97 (.tmp 5), none⟩ ::
⟨none, .store 97 (.tmp 2) (.tmp 34), none⟩ ::
⟨(some 3), .mv (.const (.int .i64 0)), none⟩ ::
[]))
.ret)))))))))
theorem prep55 : prepFunc Tryz.prog 0 55 = some F55 := by kernel_rfl

-- indenture/block.ReadOps
def F56 : AFunc where
  ntmps := 42
  nparams := 1
  results := [(2, none), (3, none)]
  code :=
(.seq
(.plain (
⟨(some 2), .mv (.const (.slice none 0 0)), none⟩ ::
⟨(some 3), .mv (.const (.int .i64 0)), none⟩ ::
[]))
(.seq
(.plain (
⟨(some 9), .mv (.tmp 0), none⟩ ::
⟨(some 10), .callF 52 [(.tmp 9)], none⟩ ::
⟨(some 4), .mv (.tmp 10), none⟩ ::
[]))
(.seq
(.plain (
⟨(some 5), .mv (.const (.slice none 0 0)), none⟩ ::
[]))
(.seq
(.seq
(.plain (
⟨(some 11), .mv (.tmp 4), none⟩ ::
⟨(some 12), .callF 90 [(.tmp 11), (.const (.int .i64 256))], none⟩ ::
⟨(some 13), .mv (.const (.int .i64 0)), none⟩ ::
[]))
(.block 0
(.loop
(.seq
(.plain (
⟨(some 14), .bin .lss (.tmp 13) (.tmp 12), none⟩ ::
[]))
(.seq
(.cond (.tmp 14)
.skip
(.exit 0))
(.seq
(.block 1
(.seq
(.plain (
⟨(some 15), .mv (.tmp 4), none⟩ ::
⟨(some 16), .callF 94 [(.tmp 15)], none⟩ ::
⟨(some 6), .alloc 147 [(.v (.int .u8 0)), (.v (.string ⟨#[]⟩)), (.sl [] .nil), (.sl [] .nil)], none⟩ ::
⟨none, .store 4 (.tmp 6) (.tmp 16), none⟩ ::
[]))
(.seq
(.seq
(.plain (
⟨(some 17), .mv (.tmp 4), none⟩ ::
⟨(some 18), .callF 95 [(.tmp 17)], none⟩ ::
⟨(some 19), .bin .neq (.tmp 18) (.const (.int .i64 0)), none⟩ ::
[]))
(.cond (.tmp 19)
(.seq
(.plain (
⟨(some 2), .mv (.const (.slice none 0 0)), none⟩ ::
⟨(some 3), .mv (.const (.int .i64 21)), none⟩ ::
[]))
.ret)
.skip))
(.plain (
⟨(some 20), .mv (.tmp 5), none⟩ ::
⟨(some 21), .load true 4 (.tmp 6), none⟩ ::
⟨(some 22), .bsl 4 [(.tmp 21)], none⟩ ::
⟨(some 23), .app 4 72 (.tmp 20) (.tmp 22), none⟩ ::
⟨(some 5), .mv (.tmp 23), none⟩ ::
[])))))
(.plain (
⟨(some 24), .bin .add (.tmp 13) (.const (.int .i64 1)), none⟩ ::
⟨(some 13), .mv (.tmp 24), none⟩ ::
[]))))))))
(.seq
(.seq
(.plain (
⟨(some 25), .mv (.tmp 4), none⟩ ::
⟨(some 26), .callF 54 [(.tmp 25)], none⟩ ::
⟨(some 27), .bin .neq (.tmp 26) (.const (.int .i64 0)), none⟩ ::
[]))
(.cond (.tmp 27)
(.seq
(.plain (
⟨(some 2), .mv (.const (.slice none 0 0)), none⟩ ::
⟨(some 3), .mv (.const (.int .i64 21)), none⟩ ::
[]))
.ret)
.skip))
(.seq
(.seq
(.plain (
⟨(some 29), .mv (.tmp 5), none⟩ ::
⟨(some 30), .callF 51 [(.tmp 29)], none⟩ ::
⟨(some 28), .mv (.tmp 30), none⟩ ::
⟨(some 31), .ext (.tmp 28) 0, none⟩ ::
⟨(some 32), .ext (.tmp 28) 1, none⟩ ::
⟨(some 7), .mv (.tmp 31), none⟩ ::
⟨(some 8), .mv (.tmp 32), none⟩ ::
[]))
(.seq
(.plain (
⟨(some 33), .mv (.tmp 8), none⟩ ::
⟨(some 34), .bin .neq (.tmp 33) (.const (.int .i64 0)), none⟩ ::
⟨(some 35), .mv (.tmp 34), none⟩ ::
⟨(some 36), .mv (.tmp 7), (some (35, false))⟩ ::
⟨(some 37), .mv (.tmp 0), (some (35, false))⟩ ::
⟨(some 38), .callF 15 [(.tmp 36), (.tmp 37)], (some (35, false))⟩ ::
⟨(some 39), .un .not (.tmp 38), (some (35, false))⟩ ::
⟨(some 40), .pick (.tmp 35) (.const (.bool true)) (.tmp 39), none⟩ ::
[]))
(.cond (.tmp 40)
(.seq
(.plain (
⟨(some 2), .mv (.const (.slice none 0 0)), none⟩ ::
⟨(some 3), .mv (.const (.int .i64 21)), none⟩ ::
[]))
.ret)
.skip)))
(.seq
(.plain (
⟨(some 41), .mv (.tmp 5), none⟩ ::
⟨(some 2), .mv (.tmp 41), none⟩ ::
⟨(some 3), .mv (.const (.int .i64 0)), none⟩ ::
[]))
.ret)))))))
theorem prep56 : prepFunc Tryz.prog 0 56 = some F56 := by kernel_rfl

-- indenture/block.OpsSum
def F57 : AFunc where
  ntmps := 6
  nparams := 1
  results := [(2, (some (true, 32)))]
  code :=
(.seq
(.plain (
⟨(some 2), .alloc 30 (List.replicate 32 (.v (.int .u8 0))), none⟩ ::
[]))
(.seq
(.plain (
⟨(some 3), .mv (.tmp 0), none⟩ ::
⟨(some 4), .bsl 1 [(.tmp 3)], none⟩ ::
⟨(some 5), .callF 59 [(.const (.int .u8 79)), (.tmp 4)], none⟩ ::
⟨none, .store 32 (.tmp 2) (.tmp 5), none⟩ ::
[]))
.ret))
theorem prep57 : prepFunc Tryz.prog 0 57 = some F57 := by kernel_rfl

-- indenture/history.InPath
def F58 : AFunc where
  ntmps := 32
  nparams := 5
  results := [(10, none)]
  code :=
(.seq
(.plain (
⟨(some 5), .box 30 (.tmp 0), none⟩ ::
⟨(some 8), .box 30 (.tmp 3), none⟩ ::
⟨(some 10), .mv (.const (.bool false)), none⟩ ::
[]))
(.seq
(.plain (
⟨(some 14), .mv (.tmp 1), none⟩ ::
⟨(some 15), .mv (.tmp 2), none⟩ ::
⟨(some 16), .load true 32 (.tmp 8), none⟩ ::
⟨(some 17), .mv (.tmp 4), none⟩ ::
⟨(some 18), .callF 66 [(.tmp 14), (.tmp 15), (.tmp 16), (.tmp 17)], none⟩ ::
⟨(some 13), .mv (.tmp 18), none⟩ ::
⟨(some 19), .ext (.tmp 13) 0, none⟩ ::
⟨(some 20), .ext (.tmp 13) 1, none⟩ ::
⟨(some 12), .alloc 30 (List.replicate 32 (.v (.int .u8 0))), none⟩ ::
⟨(some 11), .mv (.tmp 19), none⟩ ::
⟨none, .store 32 (.tmp 12) (.tmp 20), none⟩ ::
[]))
(.seq
(.plain (
⟨(some 21), .mv (.tmp 11), none⟩ ::
⟨(some 22), .eqp true (.tmp 21) (.const (.pointer none)), none⟩ ::
⟨(some 23), .mv (.tmp 22), none⟩ ::
⟨(some 24), .mv (.tmp 11), (some (23, true))⟩ ::
⟨(some 25), .callF 60 [(.tmp 24)], (some (23, true))⟩ ::
⟨(some 26), .pick (.tmp 23) (.tmp 25) (.const (.bool false)), none⟩ ::
⟨(some 27), .mv (.tmp 26), none⟩ ::
⟨(some 28), .load true 32 (.tmp 12), (some (27, true))⟩ ::
⟨(some 29), .load true 32 (.tmp 5), (some (27, true))⟩ ::
⟨(some 30), .eqv false [(32, .int .u8)] (.tmp 28) (.tmp 29), (some (27, true))⟩ ::
⟨(some 31), .pick (.tmp 27) (.tmp 30) (.const (.bool false)), none⟩ ::
⟨(some 10), .mv (.tmp 31), none⟩ ::
[]))
.ret)))
theorem prep58 : prepFunc Tryz.prog 0 58 = some F58 := by kernel_rfl

-- indenture/sha.Hash
def F59 : AFunc where
  ntmps := 9
  nparams := 2
  results := [(4, (some (true, 32)))]
  code :=
(.seq
(.plain (
⟨(some 4), .alloc 30 (List.replicate 32 (.v (.int .u8 0))), none⟩ ::
[]))
(.seq
(.plain (
⟨(some 5), .mv (.tmp 0), none⟩ ::
⟨(some 6), .mv (.tmp 1), none⟩ ::
⟨(some 7), .callF 12 [(.tmp 5), (.tmp 6)], none⟩ ::
⟨(some 8), .callF 14 [(.tmp 7)], none⟩ ::
⟨none, .store 32 (.tmp 4) (.tmp 8), none⟩ ::
[]))
.ret))
theorem prep59 : prepFunc Tryz.prog 0 59 = some F59 := by kernel_rfl

-- (*indenture/history.proof).good
def F60 : AFunc where
  ntmps := 16
  nparams := 1
  results := [(2, none)]
  code :=
(.seq
(.plain (
⟨(some 2), .mv (.const (.bool false)), none⟩ ::
[]))
(.seq
(.plain (
⟨(some 3), .mv (.tmp 0), none⟩ ::
⟨(some 4), .nilc (.tmp 3), none⟩ ::
⟨(some 5), .fa 2 (.tmp 4), none⟩ ::
⟨(some 6), .load false 1 (.tmp 5), none⟩ ::
⟨(some 7), .un .not (.tmp 6), none⟩ ::
⟨(some 8), .mv (.tmp 7), none⟩ ::
⟨(some 9), .mv (.tmp 0), (some (8, true))⟩ ::
⟨(some 10), .nilc (.tmp 9), (some (8, true))⟩ ::
⟨(some 11), .fa 0 (.tmp 10), (some (8, true))⟩ ::
⟨(some 12), .load false 1 (.tmp 11), (some (8, true))⟩ ::
⟨(some 13), .len (.tmp 12), (some (8, true))⟩ ::
⟨(some 14), .bin .eql (.tmp 13) (.const (.int .i64 0)), (some (8, true))⟩ ::
⟨(some 15), .pick (.tmp 8) (.tmp 14) (.const (.bool false)), none⟩ ::
⟨(some 2), .mv (.tmp 15), none⟩ ::
[]))
.ret))
theorem prep60 : prepFunc Tryz.prog 0 60 = some F60 := by kernel_rfl

-- indenture/history.Root
def F61 : AFunc where
  ntmps := 30
  nparams := 1
  results := [(2, (some (true, 32)))]
  code :=
(.seq
(.plain (
⟨(some 2), .alloc 30 (List.replicate 32 (.v (.int .u8 0))), none⟩ ::
[]))
(.seq
(.plain (
⟨(some 5), .mv (.tmp 0), none⟩ ::
⟨(some 6), .len (.tmp 5), none⟩ ::
⟨(some 3), .mv (.tmp 6), none⟩ ::
[]))
(.seq
(.plain (
⟨(some 7), .mv (.tmp 3), none⟩ ::
[]))
(.block 0
(.seq
(.plain (
⟨(some 21), .bin .eql (.tmp 7) (.const (.int .i64 0)), none⟩ ::
⟨(some 20), .mv (.tmp 21), none⟩ ::
[]))
(.cond (.tmp 20)
(.seq
(.plain (
⟨(some 22), .callF 59 [(.const (.int .u8 72)), (.const (.slice none 0 0))], none⟩ ::
⟨none, .store 32 (.tmp 2) (.tmp 22), none⟩ ::
[]))
.ret)
(.seq
(.plain (
⟨(some 24), .bin .eql (.tmp 7) (.const (.int .i64 1)), none⟩ ::
⟨(some 23), .mv (.tmp 24), none⟩ ::
[]))
(.cond (.tmp 23)
(.seq
(.plain (
⟨(some 25), .mv (.tmp 0), none⟩ ::
⟨(some 26), .iaS 32 (.tmp 25) (.const (.int .i64 0)), none⟩ ::
⟨(some 27), .load true 32 (.tmp 26), none⟩ ::
⟨(some 28), .callF 96 [(.tmp 27)], none⟩ ::
⟨(some 29), .callF 14 [(.tmp 28)], none⟩ ::
⟨none, .store 32 (.tmp 2) (.tmp 29), none⟩ ::
[]))
.ret)
(.seq
(.plain (
⟨(some 8), .mv (.tmp 3), none⟩ ::
⟨(some 9), .callF 80 [(.tmp 8)], none⟩ ::
⟨(some 4), .mv (.tmp 9), none⟩ ::
[]))
(.seq
(.draw (
⟨(some 10), .mv (.tmp 0), none⟩ ::
⟨(some 11), .mv (.tmp 4), none⟩ ::
⟨(some 12), .slc 32 (.tmp 10) none (some (.tmp 11)), none⟩ ::
⟨(some 13), .callF 61 [(.tmp 12)], none⟩ ::
⟨(some 14), .mv (.tmp 0), none⟩ ::
⟨(some 15), .mv (.tmp 4), none⟩ ::
⟨(some 16), .slc 32 (.tmp 14) (some (.tmp 15)) none, none⟩ ::
⟨(some 17), .callF 61 [(.tmp 16)], none⟩ ::
⟨(some 18), .callF 82 [(.tmp 13), (.tmp 17)], none⟩ ::
⟨(some 19), .callF 14 [(.tmp 18)], none⟩ ::
⟨none, .store 32 (.tmp 2) (.tmp 19), none⟩ ::
[])
(⟨0, [], []⟩ :: ⟨1, [], []⟩ :: ⟨2, [], []⟩ :: ⟨4, [], []⟩ :: ⟨5, [], []⟩ :: ⟨6, [], []⟩ :: ⟨3, [], []⟩ :: ⟨7, [], []⟩ :: ⟨8, [], []⟩ :: ⟨9, [], []⟩ :: ⟨10, [], []⟩ :: []))
.ret))))))))))
theorem prep61 : prepFunc Tryz.prog 0 61 = some F61 := by kernel_rfl

-- (*indenture/ledger.Ledger).last
def F62 : AFunc where
  ntmps := 23
  nparams := 1
  results := [(2, (some (true, 32)))]
  code :=
(.seq
(.plain (
⟨(some 2), .alloc 30 (List.replicate 32 (.v (.int .u8 0))), none⟩ ::
[]))
(.seq
(.seq
(.plain (
⟨(some 3), .mv (.tmp 0), none⟩ ::
⟨(some 4), .nilc (.tmp 3), none⟩ ::
⟨(some 5), .fa 1 (.tmp 4), none⟩ ::
⟨(some 6), .load false 1 (.tmp 5), none⟩ ::
⟨(some 7), .len (.tmp 6), none⟩ ::
⟨(some 8), .bin .eql (.tmp 7) (.const (.int .i64 0)), none⟩ ::
[]))
(.cond (.tmp 8)
(.seq
(.plain (
⟨(some 9), .bld (List.replicate 32 (.v (.int .u8 0))) [], none⟩ ::
⟨none, .store 32 (.tmp 2) (.tmp 9), none⟩ ::
[]))
.ret)
.skip))
(.seq
(.draw (
⟨(some 10), .mv (.tmp 0), none⟩ ::
⟨(some 11), .nilc (.tmp 10), none⟩ ::
⟨(some 12), .fa 1 (.tmp 11), none⟩ ::
⟨(some 13), .load false 1 (.tmp 12), none⟩ ::
⟨(some 14), .mv (.tmp 0), none⟩ ::
⟨(some 15), .nilc (.tmp 14), none⟩ ::
⟨(some 16), .fa 1 (.tmp 15), none⟩ ::
⟨(some 17), .load false 1 (.tmp 16), none⟩ ::
⟨(some 18), .len (.tmp 17), none⟩ ::
⟨(some 19), .bin .sub (.tmp 18) (.const (.int .i64 1)), none⟩ ::
⟨(some 20), .iaS 97 (.tmp 13) (.tmp 19), none⟩ ::
⟨(some 21), .load true 97 (.tmp 20), none⟩ ::
⟨(some 22), .callF 49 [(.tmp 21)], none⟩ ::
⟨none, .store 32 (.tmp 2) (.tmp 22), none⟩ ::
[])
(⟨0, [], []⟩ :: ⟨1, [], []⟩ :: ⟨2, [], []⟩ :: ⟨3, [], []⟩ :: ⟨4, [], []⟩ :: ⟨5, [], []⟩ :: ⟨6, [], []⟩ :: ⟨7, [], []⟩ :: ⟨8, [], []⟩ :: ⟨9, [], []⟩ :: ⟨10, [], []⟩ :: ⟨11, [], []⟩ :: ⟨12, [], []⟩ :: ⟨13, [], []⟩ :: []))
.ret)))
theorem prep62 : prepFunc Tryz.prog 0 62 = some F62 := by kernel_rfl

-- indenture/history.Path
def F63 : AFunc where
  ntmps := 17
  nparams := 2
  results := [(4, none), (5, none)]
  code :=
(.seq
(.plain (
⟨(some 4), .mv (.const (.slice none 0 0)), none⟩ ::
⟨(some 5), .mv (.const (.int .i64 0)), none⟩ ::
[]))
(.seq
(.seq
(.plain (
⟨(some 6), .mv (.tmp 1), none⟩ ::
⟨(some 7), .bin .lss (.tmp 6) (.const (.int .i64 0)), none⟩ ::
⟨(some 8), .mv (.tmp 7), none⟩ ::
⟨(some 9), .mv (.tmp 1), (some (8, false))⟩ ::
⟨(some 10), .mv (.tmp 0), (some (8, false))⟩ ::
⟨(some 11), .len (.tmp 10), (some (8, false))⟩ ::
⟨(some 12), .bin .geq (.tmp 9) (.tmp 11), (some (8, false))⟩ ::
⟨(some 13), .pick (.tmp 8) (.const (.bool true)) (.tmp 12), none⟩ ::
[]))
(.cond (.tmp 13)
(.seq
(.plain (
⟨(some 4), .mv (.const (.slice none 0 0)), none⟩ ::
⟨(some 5), .mv (.const (.int .i64 1)), none⟩ ::
[]))
.ret)
.skip))
(.seq
(.plain (
⟨(some 14), .mv (.tmp 0), none⟩ ::
⟨(some 15), .mv (.tmp 1), none⟩ ::
⟨(some 16), .callF 97 [(.tmp 14), (.tmp 15)], none⟩ ::
⟨(some 4), .mv (.tmp 16), none⟩ ::
⟨(some 5), .mv (.const (.int .i64 0)), none⟩ ::
[]))
.ret)))
theorem prep63 : prepFunc Tryz.prog 0 63 = some F63 := by kernel_rfl

-- (*indenture/state.State).Copy
def F64 : AFunc where
  ntmps := 14
  nparams := 1
  results := [(2, none)]
  code :=
(.seq
(.plain (
⟨(some 2), .mv (.const (.pointer none)), none⟩ ::
[]))
(.seq
(.draw (
⟨(some 3), .mv (.tmp 0), none⟩ ::
⟨(some 4), .nilc (.tmp 3), none⟩ ::
⟨(some 5), .fa 0 (.tmp 4), none⟩ ::
⟨(some 6), .load false 1 (.tmp 5), none⟩ ::
⟨(some 7), .mv (.tmp 0), none⟩ ::
⟨(some 8), .nilc (.tmp 7), none⟩ ::
⟨(some 9), .fa 1 (.tmp 8), none⟩ ::
⟨(some 10), .load false 1 (.tmp 9), none⟩ ::
⟨(some 11), .callF 98 [(.tmp 10)], none⟩ ::
⟨(some 12), .bld [(.v (.pointer none)), (.sl [] .nil)] [(0, 1, (.tmp 6)), (1, 1, (.tmp 11))], none⟩ ::
⟨(some 13), .box 119 (.tmp 12), none⟩ ::
⟨(some 2), .mv (.tmp 13), none⟩ ::
[])
(⟨0, [], []⟩ :: ⟨1, [], []⟩ :: ⟨2, [], []⟩ :: ⟨3, [], []⟩ :: ⟨4, [], []⟩ :: ⟨5, [], []⟩ :: ⟨6, [], []⟩ :: ⟨7, [], []⟩ :: ⟨8, [], [3]⟩ :: ⟨9, [], []⟩ :: ⟨10, [], []⟩ :: ⟨11, [], []⟩ :: []))
.ret))
theorem prep64 : prepFunc Tryz.prog 0 64 = some F64 := by kernel_rfl

-- indenture/block.Head
def F65 : AFunc where
  ntmps := 35
  nparams := 1
  results := [(2, none), (3, none)]
  code :=
(.seq
(.plain (
⟨(some 1), .box 35 (.tmp 0), none⟩ ::
⟨(some 2), .mv (.const (.slice none 0 0)), none⟩ ::
⟨(some 3), .mv (.const (.int .i64 0)), none⟩ ::
[]))
(.seq
(.seq
(.plain (
⟨(some 5), .fa 32 (.tmp 1), none⟩ ::
⟨(some 6), .load false 1 (.tmp 5), none⟩ ::
⟨(some 7), .bin .lss (.tmp 6) (.const (.int .i64 0)), none⟩ ::
⟨(some 8), .mv (.tmp 7), none⟩ ::
⟨(some 9), .fa 32 (.tmp 1), (some (8, false))⟩ ::
⟨(some 10), .load false 1 (.tmp 9), (some (8, false))⟩ ::
⟨(some 11), .bin .gtr (.tmp 10) (.const (.int .i64 1099511627776)), (some (8, false))⟩ ::
⟨(some 12), .pick (.tmp 8) (.const (.bool true)) (.tmp 11), none⟩ ::
[]))
(.cond (.tmp 12)
(.seq
(.plain (
⟨(some 2), .mv (.const (.slice none 0 0)), none⟩ ::
⟨(some 3), .mv (.const (.int .i64 1)), none⟩ ::
[]))
.ret)
.skip))
(.seq
(.plain (
⟨(some 13), .bld [(.sl [] .nil), (.v (.int .i64 0))] [], none⟩ ::
⟨(some 14), .box 138 (.tmp 13), none⟩ ::
⟨(some 4), .mv (.tmp 14), none⟩ ::
[]))
(.seq
(.plain (
⟨(some 15), .mv (.tmp 4), none⟩ ::
⟨(some 16), .fa 0 (.tmp 1), none⟩ ::
⟨(some 17), .load true 32 (.tmp 16), none⟩ ::
⟨(some 18), .callF 99 [(.tmp 15), (.tmp 17)], none⟩ ::
[]))
(.seq
(.plain (
⟨(some 19), .mv (.tmp 4), none⟩ ::
⟨(some 20), .fa 32 (.tmp 1), none⟩ ::
⟨(some 21), .load false 1 (.tmp 20), none⟩ ::
⟨(some 22), .callF 77 [(.tmp 19), (.tmp 21)], none⟩ ::
[]))
(.seq
(.plain (
⟨(some 23), .mv (.tmp 4), none⟩ ::
⟨(some 24), .fa 33 (.tmp 1), none⟩ ::
⟨(some 25), .load true 32 (.tmp 24), none⟩ ::
⟨(some 26), .callF 99 [(.tmp 23), (.tmp 25)], none⟩ ::
[]))
(.seq
(.plain (
⟨(some 27), .mv (.tmp 4), none⟩ ::
⟨(some 28), .fa 65 (.tmp 1), none⟩ ::
⟨(some 29), .load true 32 (.tmp 28), none⟩ ::
⟨(some 30), .callF 99 [(.tmp 27), (.tmp 29)], none⟩ ::
[]))
(.seq
(.plain (
⟨(some 31), .mv (.tmp 4), none⟩ ::
⟨(some 32), .callF 78 [(.tmp 31)], none⟩ ::
⟨(some 33), .mv (.tmp 4), none⟩ ::
⟨(some 34), .callF 88 [(.tmp 33)], none⟩ ::
⟨(some 2), .mv (.tmp 32), none⟩ ::
⟨(some 3), .mv (.tmp 34), none⟩ ::
[]))
.ret))))))))
theorem prep65 : prepFunc Tryz.prog 0 65 = some F65 := by kernel_rfl

-- indenture/history.inPath
def F66 : AFunc where
  ntmps := 36
  nparams := 4
  results := [(8, none), (9, (some (true, 32)))]
  code :=
(.seq
(.plain (
⟨(some 6), .box 30 (.tmp 2), none⟩ ::
⟨(some 8), .mv (.const (.pointer none)), none⟩ ::
⟨(some 9), .alloc 30 (List.replicate 32 (.v (.int .u8 0))), none⟩ ::
[]))
(.seq
(.seq
(.plain (
⟨(some 11), .mv (.tmp 0), none⟩ ::
⟨(some 12), .bin .lss (.tmp 11) (.const (.int .i64 1)), none⟩ ::
⟨(some 13), .mv (.tmp 12), none⟩ ::
⟨(some 14), .mv (.tmp 0), (some (13, false))⟩ ::
⟨(some 15), .bin .gtr (.tmp 14) (.const (.int .i64 1099511627776)), (some (13, false))⟩ ::
⟨(some 16), .pick (.tmp 13) (.const (.bool true)) (.tmp 15), none⟩ ::
⟨(some 17), .mv (.tmp 16), none⟩ ::
⟨(some 18), .mv (.tmp 1), (some (17, false))⟩ ::
⟨(some 19), .bin .lss (.tmp 18) (.const (.int .i64 0)), (some (17, false))⟩ ::
⟨(some 20), .pick (.tmp 17) (.const (.bool true)) (.tmp 19), none⟩ ::
⟨(some 21), .mv (.tmp 20), none⟩ ::
⟨(some 22), .mv (.tmp 1), (some (21, false))⟩ ::
⟨(some 23), .mv (.tmp 0), (some (21, false))⟩ ::
⟨(some 24), .bin .geq (.tmp 22) (.tmp 23), (some (21, false))⟩ ::
⟨(some 25), .pick (.tmp 21) (.const (.bool true)) (.tmp 24), none⟩ ::
[]))
(.cond (.tmp 25)
(.seq
(.plain (
⟨(some 26), .bld (List.replicate 32 (.v (.int .u8 0))) [], none⟩ ::
⟨(some 8), .mv (.const (.pointer none)), none⟩ ::
⟨none, .store 32 (.tmp 9) (.tmp 26), none⟩ ::
[]))
.ret)
.skip))
(.seq
(.plain (
⟨(some 27), .mv (.tmp 3), none⟩ ::
⟨(some 28), .bld [(.sl [] .nil), (.sl [] .nil), (.v (.bool false))] [(0, 1, (.tmp 27))], none⟩ ::
⟨(some 29), .box 91 (.tmp 28), none⟩ ::
⟨(some 10), .mv (.tmp 29), none⟩ ::
[]))
(.seq
(.plain (
⟨(some 30), .mv (.tmp 10), none⟩ ::
⟨(some 31), .mv (.tmp 10), none⟩ ::
⟨(some 32), .mv (.tmp 0), none⟩ ::
⟨(some 33), .mv (.tmp 1), none⟩ ::
⟨(some 34), .load true 32 (.tmp 6), none⟩ ::
⟨(some 35), .callF 100 [(.tmp 31), (.tmp 32), (.tmp 33), (.tmp 34)], none⟩ ::
⟨(some 8), .mv (.tmp 30), none⟩ ::
⟨none, .store 32 (.tmp 9) (.tmp 35), none⟩ ::
[]))
.ret))))
theorem prep66 : prepFunc Tryz.prog 0 66 = some F66 := by kernel_rfl

-- indenture/catalog.Encode
def F67 : AFunc where
  ntmps := 61
  nparams := 1
  results := [(2, none), (3, none)]
  code :=
(.seq
(.plain (
⟨(some 2), .mv (.const (.slice none 0 0)), none⟩ ::
⟨(some 3), .mv (.const (.int .i64 0)), none⟩ ::
[]))
(.seq
(.seq
(.plain (
⟨(some 9), .mv (.tmp 0), none⟩ ::
⟨(some 10), .callF 101 [(.tmp 9)], none⟩ ::
⟨(some 11), .un .not (.tmp 10), none⟩ ::
[]))
(.cond (.tmp 11)
(.seq
(.plain (
⟨(some 2), .mv (.const (.slice none 0 0)), none⟩ ::
⟨(some 3), .mv (.const (.int .i64 1)), none⟩ ::
[]))
.ret)
.skip))
(.seq
(.plain (
⟨(some 12), .bld [(.sl [] .nil), (.v (.int .i64 0))] [], none⟩ ::
⟨(some 13), .box 138 (.tmp 12), none⟩ ::
⟨(some 4), .mv (.tmp 13), none⟩ ::
[]))
(.seq
(.plain (
⟨(some 14), .mv (.tmp 4), none⟩ ::
⟨(some 15), .mv (.tmp 0), none⟩ ::
⟨(some 16), .len (.tmp 15), none⟩ ::
⟨(some 17), .cvt .u8 (.tmp 16), none⟩ ::
⟨(some 18), .callF 102 [(.tmp 14), (.tmp 17)], none⟩ ::
[]))
(.seq
(.seq
(.plain (
⟨(some 19), .mv (.tmp 0), none⟩ ::
⟨(some 20), .len (.tmp 19), none⟩ ::
⟨(some 21), .mv (.const (.int .i64 0)), none⟩ ::
[]))
(.block 0
(.loop
(.seq
(.plain (
⟨(some 22), .bin .lss (.tmp 21) (.tmp 20), none⟩ ::
[]))
(.seq
(.cond (.tmp 22)
.skip
(.exit 0))
(.seq
(.block 1
(.seq
(.plain (
⟨(some 23), .iaS 76 (.tmp 19) (.tmp 21), none⟩ ::
⟨(some 24), .load true 76 (.tmp 23), none⟩ ::
⟨(some 6), .alloc 164 ([(.v (.string ⟨#[]⟩))] ++ [(.sl [] .nil)] ++ List.replicate 32 (.v (.int .u8 0)) ++ [(.sl [] .nil), (.sl [] .nil)] ++ [(.v (.int .i64 0)), (.v (.int .i64 0))] ++ [(.sl [] .nil)] ++ List.replicate 32 (.v (.int .u8 0)) ++ [(.sl [] .nil), (.sl [] .nil)] ++ [(.v (.int .i64 0)), (.v (.int .i64 0))] ++ [(.sl [] .nil)]), none⟩ ::
⟨none, .store 76 (.tmp 6) (.tmp 24), none⟩ ::
[]))
(.seq
(.plain (
⟨(some 25), .mv (.tmp 4), none⟩ ::
⟨(some 26), .fa 0 (.tmp 6), none⟩ ::
⟨(some 27), .load false 1 (.tmp 26), none⟩ ::
⟨(some 28), .s2b (.tmp 27), none⟩ ::
⟨(some 29), .callF 103 [(.tmp 25), (.tmp 28)], none⟩ ::
[]))
(.seq
(.plain (
⟨(some 30), .mv (.tmp 4), none⟩ ::
⟨(some 31), .fa 1 (.tmp 6), none⟩ ::
⟨(some 32), .load false 1 (.tmp 31), none⟩ ::
⟨(some 33), .len (.tmp 32), none⟩ ::
⟨(some 34), .cvt .u8 (.tmp 33), none⟩ ::
⟨(some 35), .callF 102 [(.tmp 30), (.tmp 34)], none⟩ ::
[]))
(.seq
(.seq
(.plain (
⟨(some 36), .fa 1 (.tmp 6), none⟩ ::
⟨(some 37), .load false 1 (.tmp 36), none⟩ ::
⟨(some 38), .len (.tmp 37), none⟩ ::
⟨(some 39), .mv (.const (.int .i64 0)), none⟩ ::
[]))
(.block 2
(.loop
(.seq
(.plain (
⟨(some 40), .bin .lss (.tmp 39) (.tmp 38), none⟩ ::
[]))
(.seq
(.cond (.tmp 40)
.skip
(.exit 2))
(.seq
(.block 3
(.seq
(.plain (
⟨(some 41), .iaS 1 (.tmp 37) (.tmp 39), none⟩ ::
⟨(some 42), .load false 1 (.tmp 41), none⟩ ::
⟨(some 8), .mv (.tmp 42), none⟩ ::
[]))
(.plain (
⟨(some 43), .mv (.tmp 4), none⟩ ::
⟨(some 44), .mv (.tmp 8), none⟩ ::
⟨(some 45), .s2b (.tmp 44), none⟩ ::
⟨(some 46), .callF 103 [(.tmp 43), (.tmp 45)], none⟩ ::
[]))))
(.plain (
⟨(some 47), .bin .add (.tmp 39) (.const (.int .i64 1)), none⟩ ::
⟨(some 39), .mv (.tmp 47), none⟩ ::
[]))))))))
(.seq
(.plain (
⟨(some 48), .mv (.tmp 4), none⟩ ::
⟨(some 49), .fa 2 (.tmp 6), none⟩ ::
⟨(some 50), .load true 37 (.tmp 49), none⟩ ::
⟨(some 51), .callF 104 [(.tmp 48), (.tmp 50)], none⟩ ::
[]))
(.plain (
⟨(some 52), .mv (.tmp 4), none⟩ ::
⟨(some 53), .fa 39 (.tmp 6), none⟩ ::
⟨(some 54), .load true 37 (.tmp 53), none⟩ ::
⟨(some 55), .callF 104 [(.tmp 52), (.tmp 54)], none⟩ ::
[]))))))))
(.plain (
⟨(some 56), .bin .add (.tmp 21) (.const (.int .i64 1)), none⟩ ::
⟨(some 21), .mv (.tmp 56), none⟩ ::
[]))))))))
(.seq
(.plain (
⟨(some 57), .mv (.tmp 4), none⟩ ::
⟨(some 58), .callF 78 [(.tmp 57)], none⟩ ::
⟨(some 59), .mv (.tmp 4), none⟩ ::
⟨(some 60), .callF 88 [(.tmp 59)], none⟩ ::
⟨(some 2), .mv (.tmp 58), none⟩ ::
⟨(some 3), .mv (.tmp 60), none⟩ ::
[]))
.ret))))))
theorem prep67 : prepFunc Tryz.prog 0 67 = some F67 := by kernel_rfl

-- (*indenture/ledger.Ledger).now
def F68 : AFunc where
  ntmps := 15
  nparams := 1
  results := [(2, none)]
  code :=
(.seq
(.plain (
⟨(some 2), .mv (.const (.pointer none)), none⟩ ::
[]))
(.seq
(.draw (
⟨(some 3), .mv (.tmp 0), none⟩ ::
⟨(some 4), .nilc (.tmp 3), none⟩ ::
⟨(some 5), .fa 3 (.tmp 4), none⟩ ::
⟨(some 6), .load false 1 (.tmp 5), none⟩ ::
⟨(some 7), .mv (.tmp 0), none⟩ ::
⟨(some 8), .nilc (.tmp 7), none⟩ ::
⟨(some 9), .fa 3 (.tmp 8), none⟩ ::
⟨(some 10), .load false 1 (.tmp 9), none⟩ ::
⟨(some 11), .len (.tmp 10), none⟩ ::
⟨(some 12), .bin .sub (.tmp 11) (.const (.int .i64 1)), none⟩ ::
⟨(some 13), .iaS 1 (.tmp 6) (.tmp 12), none⟩ ::
⟨(some 14), .load false 1 (.tmp 13), none⟩ ::
⟨(some 2), .mv (.tmp 14), none⟩ ::
[])
(⟨0, [], []⟩ :: ⟨1, [], []⟩ :: ⟨2, [], []⟩ :: ⟨3, [], []⟩ :: ⟨4, [], []⟩ :: ⟨5, [], []⟩ :: ⟨6, [], []⟩ :: ⟨7, [], []⟩ :: ⟨8, [], []⟩ :: ⟨9, [], []⟩ :: ⟨10, [], []⟩ :: ⟨11, [], []⟩ :: ⟨12, [], []⟩ :: []))
.ret))
theorem prep68 : prepFunc Tryz.prog 0 68 = some F68 := by kernel_rfl

-- slices.SortFunc[[]indenture/api.Digest,indenture/api.Digest]
def F69 : AFunc where
  ntmps := 14
  nparams := 2
  results := []
  code :=
(.seq
(.plain (
⟨(some 5), .mv (.tmp 0), none⟩ ::
⟨(some 6), .len (.tmp 5), none⟩ ::
⟨(some 4), .mv (.tmp 6), none⟩ ::
[]))
(.plain (
⟨(some 7), .mv (.tmp 0), none⟩ ::
⟨(some 8), .mv (.tmp 4), none⟩ ::
⟨(some 9), .mv (.tmp 4), none⟩ ::
⟨(some 10), .cvt .u64 (.tmp 9), none⟩ ::
⟨(some 11), .callF 106 [(.tmp 10)], none⟩ ::
⟨(some 12), .mv (.tmp 1), none⟩ ::
⟨(some 13), .callF 105 [(.tmp 7), (.const (.int .i64 0)), (.tmp 8), (.tmp 11), (.tmp 12)], none⟩ ::
[])))
theorem prep69 : prepFunc Tryz.prog 0 69 = some F69 := by kernel_rfl

-- (*indenture/page.Store).Sums$1
def F70 : AFunc where
  ntmps := 8
  nparams := 2
  results := [(4, none)]
  code :=
(.seq
(.plain (
⟨(some 2), .boxR 30 (.tmp 0), none⟩ ::
⟨(some 3), .boxR 30 (.tmp 1), none⟩ ::
⟨(some 4), .mv (.const (.int .i64 0)), none⟩ ::
[]))
(.seq
(.draw (
⟨(some 5), .slcR 1 32 (.tmp 2) none none, none⟩ ::
⟨(some 6), .slcR 1 32 (.tmp 3) none none, none⟩ ::
⟨(some 7), .callF 71 [(.tmp 5), (.tmp 6)], none⟩ ::
⟨(some 4), .mv (.tmp 7), none⟩ ::
[])
(⟨0, [], []⟩ :: ⟨1, [], []⟩ :: ⟨2, [], []⟩ :: ⟨3, [], []⟩ :: []))
.ret))
theorem prep70 : prepFunc Tryz.prog 0 70 = some F70 := by kernel_rfl

-- bytes.Clone
def F72 : AFunc where
  ntmps := 8
  nparams := 1
  results := [(2, none)]
  code :=
(.seq
(.plain (
⟨(some 2), .mv (.const (.slice none 0 0)), none⟩ ::
[]))
(.seq
(.seq
(.plain (
⟨(some 3), .mv (.tmp 0), none⟩ ::
⟨(some 4), .eqn false (.tmp 3), none⟩ ::
[]))
(.cond (.tmp 4)
(.seq
(.plain (
⟨(some 2), .mv (.const (.slice none 0 0)), none⟩ ::
[]))
.ret)
.skip))
(.seq
(.plain (
⟨(some 5), .bsl 1 [], none⟩ ::
⟨(some 6), .mv (.tmp 0), none⟩ ::
⟨(some 7), .app 1 1 (.tmp 5) (.tmp 6), none⟩ ::
⟨(some 2), .mv (.tmp 7), none⟩ ::
[]))
.ret)))
theorem prep72 : prepFunc Tryz.prog 0 72 = some F72 := by kernel_rfl

-- indenture/sha.begin
def F73 : AFunc where
  ntmps := 2
  nparams := 0
  results := [(0, (some (true, 8)))]
  code :=
(.seq
(.plain (
⟨(some 0), .alloc 128 (List.replicate 8 (.v (.int .u32 0))), none⟩ ::
[]))
(.seq
(.plain (
⟨(some 1), .bld (List.replicate 8 (.v (.int .u32 0))) [(0, 1, (.const (.int .u32 1779033703))), (1, 1, (.const (.int .u32 3144134277))), (2, 1, (.const (.int .u32 1013904242))), (3, 1, (.const (.int .u32 2773480762))), (4, 1, (.const (.int .u32 1359893119))), (5, 1, (.const (.int .u32 2600822924))), (6, 1, (.const (.int .u32 528734635))), (7, 1, (.const (.int .u32 1541459225)))], none⟩ ::
⟨none, .store 8 (.tmp 0) (.tmp 1), none⟩ ::
[]))
.ret))
theorem prep73 : prepFunc Tryz.prog 0 73 = some F73 := by kernel_rfl

-- indenture/sha.turn
def F74 : AFunc where
  ntmps := 121
  nparams := 2
  results := [(4, (some (true, 8)))]
  code :=
(.seq
(.plain (
⟨(some 2), .box 128 (.tmp 0), none⟩ ::
⟨(some 4), .alloc 128 (List.replicate 8 (.v (.int .u32 0))), none⟩ ::
[]))
(.seq
(.draw (
⟨(some 14), .mv (.tmp 1), none⟩ ::
⟨(some 15), .callF 108 [(.tmp 14)], none⟩ ::
⟨(some 16), .callF 109 [], none⟩ ::
⟨(some 17), .load true 8 (.tmp 2), none⟩ ::
⟨(some 5), .alloc 172 (List.replicate 64 (.v (.int .u32 0))), none⟩ ::
⟨(some 6), .alloc 172 (List.replicate 64 (.v (.int .u32 0))), none⟩ ::
⟨(some 7), .alloc 128 (List.replicate 8 (.v (.int .u32 0))), none⟩ ::
⟨none, .store 64 (.tmp 5) (.tmp 15), none⟩ ::
⟨none, .store 64 (.tmp 6) (.tmp 16), none⟩ ::
⟨none, .store 8 (.tmp 7) (.tmp 17), none⟩ ::
[])
(⟨0, [], []⟩ :: ⟨3, [], []⟩ :: ⟨1, [4, 5, 6], [3]⟩ :: ⟨2, [4, 5, 6], [3]⟩ :: ⟨4, [5, 6], []⟩ :: ⟨5, [6], []⟩ :: ⟨6, [], []⟩ :: ⟨7, [], [3]⟩ :: ⟨8, [], [3]⟩ :: ⟨9, [], []⟩ :: []))
(.seq
(.seq
(.plain (
⟨(some 18), .mv (.const (.int .i64 0)), none⟩ ::
[]))
(.block 0
(.loop
(.seq
(.plain (
⟨(some 19), .bin .lss (.tmp 18) (.const (.int .i64 64)), none⟩ ::
[]))
(.seq
(.cond (.tmp 19)
.skip
(.exit 0))
(.seq
(.block 1
(.seq
(.plain (
⟨(some 20), .mv (.tmp 18), none⟩ ::
⟨(some 8), .mv (.tmp 20), none⟩ ::
[]))
(.seq
(.draw (
⟨(some 21), .iaA 1 8 (.tmp 7) (.const (.int .i64 4)), none⟩ ::
⟨(some 22), .load false 1 (.tmp 21), none⟩ ::
⟨(some 23), .callF 110 [(.tmp 22), (.const (.int .i64 (-6)))], none⟩ ::
⟨(some 24), .iaA 1 8 (.tmp 7) (.const (.int .i64 4)), none⟩ ::
⟨(some 25), .load false 1 (.tmp 24), none⟩ ::
⟨(some 26), .callF 110 [(.tmp 25), (.const (.int .i64 (-11)))], none⟩ ::
⟨(some 27), .bin .xor (.tmp 23) (.tmp 26), none⟩ ::
⟨(some 28), .iaA 1 8 (.tmp 7) (.const (.int .i64 4)), none⟩ ::
⟨(some 29), .load false 1 (.tmp 28), none⟩ ::
⟨(some 30), .callF 110 [(.tmp 29), (.const (.int .i64 (-25)))], none⟩ ::
⟨(some 31), .bin .xor (.tmp 27) (.tmp 30), none⟩ ::
⟨(some 9), .mv (.tmp 31), none⟩ ::
[])
(⟨0, [], []⟩ :: ⟨1, [], []⟩ :: ⟨3, [], []⟩ :: ⟨4, [], []⟩ :: ⟨7, [], []⟩ :: ⟨8, [], []⟩ :: ⟨2, [], [4, 8]⟩ :: ⟨5, [], [8]⟩ :: ⟨6, [], []⟩ :: ⟨9, [], []⟩ :: ⟨10, [], []⟩ :: ⟨11, [], []⟩ :: []))
(.seq
(.draw (
⟨(some 32), .iaA 1 8 (.tmp 7) (.const (.int .i64 7)), none⟩ ::
⟨(some 33), .load false 1 (.tmp 32), none⟩ ::
⟨(some 34), .mv (.tmp 9), none⟩ ::
⟨(some 35), .bin .add (.tmp 33) (.tmp 34), none⟩ ::
⟨(some 36), .iaA 1 8 (.tmp 7) (.const (.int .i64 4)), none⟩ ::
⟨(some 37), .load false 1 (.tmp 36), none⟩ ::
⟨(some 38), .iaA 1 8 (.tmp 7) (.const (.int .i64 5)), none⟩ ::
⟨(some 39), .load false 1 (.tmp 38), none⟩ ::
⟨(some 40), .bin .and (.tmp 37) (.tmp 39), none⟩ ::
⟨(some 41), .iaA 1 8 (.tmp 7) (.const (.int .i64 4)), none⟩ ::
⟨(some 42), .load false 1 (.tmp 41), none⟩ ::
⟨(some 43), .un .xor (.tmp 42), none⟩ ::
⟨(some 44), .iaA 1 8 (.tmp 7) (.const (.int .i64 6)), none⟩ ::
⟨(some 45), .load false 1 (.tmp 44), none⟩ ::
⟨(some 46), .bin .and (.tmp 43) (.tmp 45), none⟩ ::
⟨(some 47), .bin .xor (.tmp 40) (.tmp 46), none⟩ ::
⟨(some 48), .bin .add (.tmp 35) (.tmp 47), none⟩ ::
⟨(some 49), .mv (.tmp 8), none⟩ ::
⟨(some 50), .iaA 1 64 (.tmp 6) (.tmp 49), none⟩ ::
⟨(some 51), .load false 1 (.tmp 50), none⟩ ::
⟨(some 52), .bin .add (.tmp 48) (.tmp 51), none⟩ ::
⟨(some 53), .mv (.tmp 8), none⟩ ::
⟨(some 54), .iaA 1 64 (.tmp 5) (.tmp 53), none⟩ ::
⟨(some 55), .load false 1 (.tmp 54), none⟩ ::
⟨(some 56), .bin .add (.tmp 52) (.tmp 55), none⟩ ::
⟨(some 10), .mv (.tmp 56), none⟩ ::
[])
(⟨0, [], []⟩ :: ⟨1, [], []⟩ :: ⟨2, [], []⟩ :: ⟨3, [], []⟩ :: ⟨4, [], []⟩ :: ⟨5, [], []⟩ :: ⟨6, [], []⟩ :: ⟨7, [], []⟩ :: ⟨8, [], []⟩ :: ⟨9, [], []⟩ :: ⟨10, [], []⟩ :: ⟨11, [], []⟩ :: ⟨12, [], []⟩ :: ⟨13, [], []⟩ :: ⟨14, [], []⟩ :: ⟨15, [], []⟩ :: ⟨16, [], []⟩ :: ⟨17, [], []⟩ :: ⟨18, [], []⟩ :: ⟨19, [], []⟩ :: ⟨20, [], []⟩ :: ⟨21, [], []⟩ :: ⟨22, [], []⟩ :: ⟨23, [], []⟩ :: ⟨24, [], []⟩ :: ⟨25, [], []⟩ :: []))
(.seq
(.draw (
⟨(some 57), .iaA 1 8 (.tmp 7) (.const (.int .i64 0)), none⟩ ::
⟨(some 58), .load false 1 (.tmp 57), none⟩ ::
⟨(some 59), .callF 110 [(.tmp 58), (.const (.int .i64 (-2)))], none⟩ ::
⟨(some 60), .iaA 1 8 (.tmp 7) (.const (.int .i64 0)), none⟩ ::
⟨(some 61), .load false 1 (.tmp 60), none⟩ ::
⟨(some 62), .callF 110 [(.tmp 61), (.const (.int .i64 (-13)))], none⟩ ::
⟨(some 63), .bin .xor (.tmp 59) (.tmp 62), none⟩ ::
⟨(some 64), .iaA 1 8 (.tmp 7) (.const (.int .i64 0)), none⟩ ::
⟨(some 65), .load false 1 (.tmp 64), none⟩ ::
⟨(some 66), .callF 110 [(.tmp 65), (.const (.int .i64 (-22)))], none⟩ ::
⟨(some 67), .bin .xor (.tmp 63) (.tmp 66), none⟩ ::
⟨(some 11), .mv (.tmp 67), none⟩ ::
[])
(⟨0, [], []⟩ :: ⟨1, [], []⟩ :: ⟨3, [], []⟩ :: ⟨4, [], []⟩ :: ⟨7, [], []⟩ :: ⟨8, [], []⟩ :: ⟨2, [], [4, 8]⟩ :: ⟨5, [], [8]⟩ :: ⟨6, [], []⟩ :: ⟨9, [], []⟩ :: ⟨10, [], []⟩ :: ⟨11, [], []⟩ :: []))
(.seq
(.plain (
⟨(some 68), .mv (.tmp 11), none⟩ ::
⟨(some 69), .iaA 1 8 (.tmp 7) (.const (.int .i64 0)), none⟩ ::
⟨(some 70), .load false 1 (.tmp 69), none⟩ ::
⟨(some 71), .iaA 1 8 (.tmp 7) (.const (.int .i64 1)), none⟩ ::
⟨(some 72), .load false 1 (.tmp 71), none⟩ ::
⟨(some 73), .bin .and (.tmp 70) (.tmp 72), none⟩ ::
⟨(some 74), .iaA 1 8 (.tmp 7) (.const (.int .i64 0)), none⟩ ::
⟨(some 75), .load false 1 (.tmp 74), none⟩ ::
⟨(some 76), .iaA 1 8 (.tmp 7) (.const (.int .i64 2)), none⟩ ::
⟨(some 77), .load false 1 (.tmp 76), none⟩ ::
⟨(some 78), .bin .and (.tmp 75) (.tmp 77), none⟩ ::
⟨(some 79), .bin .xor (.tmp 73) (.tmp 78), none⟩ ::
⟨(some 80), .iaA 1 8 (.tmp 7) (.const (.int .i64 1)), none⟩ ::
⟨(some 81), .load false 1 (.tmp 80), none⟩ ::
⟨(some 82), .iaA 1 8 (.tmp 7) (.const (.int .i64 2)), none⟩ ::
⟨(some 83), .load false 1 (.tmp 82), none⟩ ::
⟨(some 84), .bin .and (.tmp 81) (.tmp 83), none⟩ ::
⟨(some 85), .bin .xor (.tmp 79) (.tmp 84), none⟩ ::
⟨(some 86), .bin .add (.tmp 68) (.tmp 85), none⟩ ::
⟨(some 12), .mv (.tmp 86), none⟩ ::
[]))
(.plain (
⟨(some 87), .mv (.tmp 10), none⟩ ::
⟨(some 88), .mv (.tmp 12), none⟩ ::
⟨(some 89), .bin .add (.tmp 87) (.tmp 88), none⟩ ::
⟨(some 90), .iaA 1 8 (.tmp 7) (.const (.int .i64 0)), none⟩ ::
⟨(some 91), .load false 1 (.tmp 90), none⟩ ::
⟨(some 92), .iaA 1 8 (.tmp 7) (.const (.int .i64 1)), none⟩ ::
⟨(some 93), .load false 1 (.tmp 92), none⟩ ::
⟨(some 94), .iaA 1 8 (.tmp 7) (.const (.int .i64 2)), none⟩ ::
⟨(some 95), .load false 1 (.tmp 94), none⟩ ::
⟨(some 96), .iaA 1 8 (.tmp 7) (.const (.int .i64 3)), none⟩ ::
⟨(some 97), .load false 1 (.tmp 96), none⟩ ::
⟨(some 98), .mv (.tmp 10), none⟩ ::
⟨(some 99), .bin .add (.tmp 97) (.tmp 98), none⟩ ::
⟨(some 100), .iaA 1 8 (.tmp 7) (.const (.int .i64 4)), none⟩ ::
⟨(some 101), .load false 1 (.tmp 100), none⟩ ::
⟨(some 102), .iaA 1 8 (.tmp 7) (.const (.int .i64 5)), none⟩ ::
⟨(some 103), .load false 1 (.tmp 102), none⟩ ::
⟨(some 104), .iaA 1 8 (.tmp 7) (.const (.int .i64 6)), none⟩ ::
⟨(some 105), .load false 1 (.tmp 104), none⟩ ::
⟨(some 106), .bld (List.replicate 8 (.v (.int .u32 0))) [(0, 1, (.tmp 89)), (1, 1, (.tmp 91)), (2, 1, (.tmp 93)), (3, 1, (.tmp 95)), (4, 1, (.tmp 99)), (5, 1, (.tmp 101)), (6, 1, (.tmp 103)), (7, 1, (.tmp 105))], none⟩ ::
⟨none, .store 8 (.tmp 7) (.tmp 106), none⟩ ::
[]))))))))
(.plain (
⟨(some 107), .bin .add (.tmp 18) (.const (.int .i64 1)), none⟩ ::
⟨(some 18), .mv (.tmp 107), none⟩ ::
[]))))))))
(.seq
(.seq
(.plain (
⟨(some 108), .mv (.const (.int .i64 0)), none⟩ ::
[]))
(.block 2
(.loop
(.seq
(.plain (
⟨(some 109), .bin .lss (.tmp 108) (.const (.int .i64 8)), none⟩ ::
[]))
(.seq
(.cond (.tmp 109)
.skip
(.exit 2))
(.seq
(.block 3
(.seq
(.plain (
⟨(some 110), .mv (.tmp 108), none⟩ ::
⟨(some 13), .mv (.tmp 110), none⟩ ::
[]))
(.draw (
⟨(some 111), .mv (.tmp 13), none⟩ ::
⟨(some 112), .iaA 1 8 (.tmp 7) (.tmp 111), none⟩ ::
⟨(some 113), .load false 1 (.tmp 112), none⟩ ::
⟨(some 114), .mv (.tmp 13), none⟩ ::
⟨(some 115), .iaA 1 8 (.tmp 2) (.tmp 114), none⟩ ::
⟨(some 116), .load false 1 (.tmp 115), none⟩ ::
⟨(some 117), .bin .add (.tmp 113) (.tmp 116), none⟩ ::
⟨(some 118), .iaA 1 8 (.tmp 7) (.tmp 111), none⟩ ::
⟨none, .store 1 (.tmp 118) (.tmp 117), none⟩ ::
[])
(⟨0, [], []⟩ :: ⟨1, [], []⟩ :: ⟨2, [], []⟩ :: ⟨3, [], []⟩ :: ⟨4, [], []⟩ :: ⟨5, [], []⟩ :: ⟨6, [], []⟩ :: ⟨7, [], []⟩ :: ⟨8, [], []⟩ :: []))))
(.plain (
⟨(some 119), .bin .add (.tmp 108) (.const (.int .i64 1)), none⟩ ::
⟨(some 108), .mv (.tmp 119), none⟩ ::
[]))))))))
(.seq
(.plain (
⟨(some 120), .load true 8 (.tmp 7), none⟩ ::
⟨none, .store 8 (.tmp 4) (.tmp 120), none⟩ ::
[]))
.ret)))))
theorem prep74 : prepFunc Tryz.prog 0 74 = some F74 := by kernel_rfl

-- indenture/indentureref01.turn
def F75 : AFunc where
  ntmps := 228
  nparams := 3
  results := [(6, none)]
  code :=
(.seq
(.plain (
⟨(some 6), .mv (.const (.slice none 0 0)), none⟩ ::
[]))
(.seq
(.plain (
⟨(some 20), .mks 1 4 [(.v (.int .u32 0))] (.const (.int .i64 64)) (.const (.int .i64 64)), none⟩ ::
⟨(some 7), .mv (.tmp 20), none⟩ ::
[]))
(.seq
(.seq
(.plain (
⟨(some 8), .mv (.const (.int .i64 0)), none⟩ ::
[]))
(.block 0
(.loop
(.seq
(.seq
(.plain (
⟨(some 21), .mv (.tmp 8), none⟩ ::
⟨(some 22), .bin .lss (.tmp 21) (.const (.int .i64 16)), none⟩ ::
[]))
(.cond (.tmp 22)
.skip
(.exit 0)))
(.seq
(.block 1
(.seq
(.plain (
⟨(some 9), .mv (.const (.int .i64 0)), none⟩ ::
[]))
(.block 2
(.loop
(.seq
(.seq
(.plain (
⟨(some 25), .mv (.tmp 9), none⟩ ::
⟨(some 26), .bin .lss (.tmp 25) (.const (.int .i64 4)), none⟩ ::
[]))
(.cond (.tmp 26)
.skip
(.exit 2)))
(.seq
(.block 3
(.draw (
⟨(some 29), .mv (.tmp 7), none⟩ ::
⟨(some 30), .mv (.tmp 8), none⟩ ::
⟨(some 31), .mv (.tmp 7), none⟩ ::
⟨(some 32), .mv (.tmp 8), none⟩ ::
⟨(some 33), .iaS 1 (.tmp 31) (.tmp 32), none⟩ ::
⟨(some 34), .load false 1 (.tmp 33), none⟩ ::
⟨(some 35), .bin .mul (.const (.int .u32 256)) (.tmp 34), none⟩ ::
⟨(some 36), .mv (.tmp 1), none⟩ ::
⟨(some 37), .mv (.tmp 8), none⟩ ::
⟨(some 38), .bin .mul (.const (.int .i64 4)) (.tmp 37), none⟩ ::
⟨(some 39), .mv (.tmp 9), none⟩ ::
⟨(some 40), .bin .add (.tmp 38) (.tmp 39), none⟩ ::
⟨(some 41), .iaS 1 (.tmp 36) (.tmp 40), none⟩ ::
⟨(some 42), .load false 1 (.tmp 41), none⟩ ::
⟨(some 43), .cvt .u32 (.tmp 42), none⟩ ::
⟨(some 44), .bin .add (.tmp 35) (.tmp 43), none⟩ ::
⟨(some 45), .iaS 1 (.tmp 29) (.tmp 30), none⟩ ::
⟨none, .store 1 (.tmp 45) (.tmp 44), none⟩ ::
[])
(⟨0, [], []⟩ :: ⟨1, [], []⟩ :: ⟨2, [], []⟩ :: ⟨3, [], []⟩ :: ⟨4, [], []⟩ :: ⟨5, [], []⟩ :: ⟨6, [], []⟩ :: ⟨7, [], []⟩ :: ⟨8, [], []⟩ :: ⟨9, [], []⟩ :: ⟨10, [], []⟩ :: ⟨11, [], []⟩ :: ⟨12, [], []⟩ :: ⟨13, [], []⟩ :: ⟨14, [], []⟩ :: ⟨15, [], []⟩ :: ⟨16, [], []⟩ :: ⟨17, [], []⟩ :: [])))
(.plain (
⟨(some 27), .mv (.tmp 9), none⟩ ::
⟨(some 28), .bin .add (.tmp 27) (.const (.int .i64 1)), none⟩ ::
⟨(some 9), .mv (.tmp 28), none⟩ ::
[]))))))))
(.plain (
⟨(some 23), .mv (.tmp 8), none⟩ ::
⟨(some 24), .bin .add (.tmp 23) (.const (.int .i64 1)), none⟩ ::
⟨(some 8), .mv (.tmp 24), none⟩ ::
[])))))))
(.seq
(.seq
(.plain (
⟨(some 10), .mv (.const (.int .i64 16)), none⟩ ::
[]))
(.block 4
(.loop
(.seq
(.seq
(.plain (
⟨(some 46), .mv (.tmp 10), none⟩ ::
⟨(some 47), .bin .lss (.tmp 46) (.const (.int .i64 64)), none⟩ ::
[]))
(.cond (.tmp 47)
.skip
(.exit 4)))
(.seq
(.block 5
(.seq
(.draw (
⟨(some 50), .mv (.tmp 7), none⟩ ::
⟨(some 51), .mv (.tmp 10), none⟩ ::
⟨(some 52), .bin .sub (.tmp 51) (.const (.int .i64 15)), none⟩ ::
⟨(some 53), .iaS 1 (.tmp 50) (.tmp 52), none⟩ ::
⟨(some 54), .load false 1 (.tmp 53), none⟩ ::
⟨(some 55), .mv (.tmp 7), none⟩ ::
⟨(some 56), .mv (.tmp 10), none⟩ ::
⟨(some 57), .bin .sub (.tmp 56) (.const (.int .i64 2)), none⟩ ::
⟨(some 58), .iaS 1 (.tmp 55) (.tmp 57), none⟩ ::
⟨(some 59), .load false 1 (.tmp 58), none⟩ ::
⟨(some 11), .mv (.tmp 54), none⟩ ::
⟨(some 12), .mv (.tmp 59), none⟩ ::
[])
(⟨0, [], []⟩ :: ⟨1, [], []⟩ :: ⟨2, [], []⟩ :: ⟨3, [], []⟩ :: ⟨4, [], []⟩ :: ⟨5, [], []⟩ :: ⟨6, [], []⟩ :: ⟨7, [], []⟩ :: ⟨8, [], []⟩ :: ⟨9, [], []⟩ :: ⟨10, [], []⟩ :: ⟨11, [], []⟩ :: []))
(.draw (
⟨(some 60), .mv (.tmp 7), none⟩ ::
⟨(some 61), .mv (.tmp 10), none⟩ ::
⟨(some 62), .mv (.tmp 7), none⟩ ::
⟨(some 63), .mv (.tmp 10), none⟩ ::
⟨(some 64), .bin .sub (.tmp 63) (.const (.int .i64 16)), none⟩ ::
⟨(some 65), .iaS 1 (.tmp 62) (.tmp 64), none⟩ ::
⟨(some 66), .load false 1 (.tmp 65), none⟩ ::
⟨(some 67), .mv (.tmp 11), none⟩ ::
⟨(some 68), .callF 111 [(.tmp 67), (.const (.int .u64 7))], none⟩ ::
⟨(some 69), .mv (.tmp 11), none⟩ ::
⟨(some 70), .callF 111 [(.tmp 69), (.const (.int .u64 18))], none⟩ ::
⟨(some 71), .bin .xor (.tmp 68) (.tmp 70), none⟩ ::
⟨(some 72), .mv (.tmp 11), none⟩ ::
⟨(some 73), .bin .quo (.tmp 72) (.const (.int .u32 8)), none⟩ ::
⟨(some 74), .bin .xor (.tmp 71) (.tmp 73), none⟩ ::
⟨(some 75), .bin .add (.tmp 66) (.tmp 74), none⟩ ::
⟨(some 76), .mv (.tmp 7), none⟩ ::
⟨(some 77), .mv (.tmp 10), none⟩ ::
⟨(some 78), .bin .sub (.tmp 77) (.const (.int .i64 7)), none⟩ ::
⟨(some 79), .iaS 1 (.tmp 76) (.tmp 78), none⟩ ::
⟨(some 80), .load false 1 (.tmp 79), none⟩ ::
⟨(some 81), .bin .add (.tmp 75) (.tmp 80), none⟩ ::
⟨(some 82), .mv (.tmp 12), none⟩ ::
⟨(some 83), .callF 111 [(.tmp 82), (.const (.int .u64 17))], none⟩ ::
⟨(some 84), .mv (.tmp 12), none⟩ ::
⟨(some 85), .callF 111 [(.tmp 84), (.const (.int .u64 19))], none⟩ ::
⟨(some 86), .bin .xor (.tmp 83) (.tmp 85), none⟩ ::
⟨(some 87), .mv (.tmp 12), none⟩ ::
⟨(some 88), .bin .quo (.tmp 87) (.const (.int .u32 1024)), none⟩ ::
⟨(some 89), .bin .xor (.tmp 86) (.tmp 88), none⟩ ::
⟨(some 90), .bin .add (.tmp 81) (.tmp 89), none⟩ ::
⟨(some 91), .iaS 1 (.tmp 60) (.tmp 61), none⟩ ::
⟨none, .store 1 (.tmp 91) (.tmp 90), none⟩ ::
[])
(⟨0, [], []⟩ :: ⟨1, [], []⟩ :: ⟨2, [], []⟩ :: ⟨3, [], []⟩ :: ⟨4, [], []⟩ :: ⟨5, [], []⟩ :: ⟨6, [], []⟩ :: ⟨7, [], []⟩ :: ⟨9, [], []⟩ :: ⟨12, [], []⟩ :: ⟨13, [], []⟩ :: ⟨16, [], []⟩ :: ⟨17, [], []⟩ :: ⟨18, [], []⟩ :: ⟨19, [], []⟩ :: ⟨20, [], []⟩ :: ⟨22, [], []⟩ :: ⟨24, [], []⟩ :: ⟨27, [], []⟩ :: ⟨28, [], []⟩ :: ⟨8, [], [6, 20]⟩ :: ⟨10, [], [6, 20]⟩ :: ⟨11, [], []⟩ :: ⟨14, [], []⟩ :: ⟨15, [], []⟩ :: ⟨21, [], []⟩ :: ⟨23, [], [6, 20]⟩ :: ⟨25, [], [6, 20]⟩ :: ⟨26, [], []⟩ :: ⟨29, [], []⟩ :: ⟨30, [], []⟩ :: ⟨31, [], []⟩ :: ⟨32, [], []⟩ :: []))))
(.plain (
⟨(some 48), .mv (.tmp 10), none⟩ ::
⟨(some 49), .bin .add (.tmp 48) (.const (.int .i64 1)), none⟩ ::
⟨(some 10), .mv (.tmp 49), none⟩ ::
[])))))))
(.seq
(.plain (
⟨(some 92), .bslM 1 [], none⟩ ::
⟨(some 93), .mv (.tmp 0), none⟩ ::
⟨(some 94), .appM 1 4 (.tmp 92) (.tmp 93), none⟩ ::
⟨(some 13), .mv (.tmp 94), none⟩ ::
[]))
(.seq
(.seq
(.plain (
⟨(some 14), .mv (.const (.int .i64 0)), none⟩ ::
[]))
(.block 6
(.loop
(.seq
(.seq
(.plain (
⟨(some 95), .mv (.tmp 14), none⟩ ::
⟨(some 96), .bin .lss (.tmp 95) (.const (.int .i64 64)), none⟩ ::
[]))
(.cond (.tmp 96)
.skip
(.exit 6)))
(.seq
(.block 7
(.seq
(.draw (
⟨(some 99), .mv (.tmp 13), none⟩ ::
⟨(some 100), .iaS 1 (.tmp 99) (.const (.int .i64 4)), none⟩ ::
⟨(some 101), .load false 1 (.tmp 100), none⟩ ::
⟨(some 102), .mv (.tmp 13), none⟩ ::
⟨(some 103), .iaS 1 (.tmp 102) (.const (.int .i64 5)), none⟩ ::
⟨(some 104), .load false 1 (.tmp 103), none⟩ ::
⟨(some 105), .bin .and (.tmp 101) (.tmp 104), none⟩ ::
⟨(some 106), .mv (.tmp 13), none⟩ ::
⟨(some 107), .iaS 1 (.tmp 106) (.const (.int .i64 4)), none⟩ ::
⟨(some 108), .load false 1 (.tmp 107), none⟩ ::
⟨(some 109), .bin .sub (.const (.int .u32 4294967295)) (.tmp 108), none⟩ ::
⟨(some 110), .mv (.tmp 13), none⟩ ::
⟨(some 111), .iaS 1 (.tmp 110) (.const (.int .i64 6)), none⟩ ::
⟨(some 112), .load false 1 (.tmp 111), none⟩ ::
⟨(some 113), .bin .and (.tmp 109) (.tmp 112), none⟩ ::
⟨(some 114), .bin .xor (.tmp 105) (.tmp 113), none⟩ ::
⟨(some 15), .mv (.tmp 114), none⟩ ::
[])
(⟨0, [], []⟩ :: ⟨1, [], []⟩ :: ⟨2, [], []⟩ :: ⟨3, [], []⟩ :: ⟨4, [], []⟩ :: ⟨5, [], []⟩ :: ⟨6, [], []⟩ :: ⟨7, [], []⟩ :: ⟨8, [], []⟩ :: ⟨9, [], []⟩ :: ⟨10, [], []⟩ :: ⟨11, [], []⟩ :: ⟨12, [], []⟩ :: ⟨13, [], []⟩ :: ⟨14, [], []⟩ :: ⟨15, [], []⟩ :: ⟨16, [], []⟩ :: []))
(.seq
(.draw (
⟨(some 115), .mv (.tmp 13), none⟩ ::
⟨(some 116), .iaS 1 (.tmp 115) (.const (.int .i64 7)), none⟩ ::
⟨(some 117), .load false 1 (.tmp 116), none⟩ ::
⟨(some 118), .mv (.tmp 13), none⟩ ::
⟨(some 119), .iaS 1 (.tmp 118) (.const (.int .i64 4)), none⟩ ::
⟨(some 120), .load false 1 (.tmp 119), none⟩ ::
⟨(some 121), .callF 111 [(.tmp 120), (.const (.int .u64 6))], none⟩ ::
⟨(some 122), .mv (.tmp 13), none⟩ ::
⟨(some 123), .iaS 1 (.tmp 122) (.const (.int .i64 4)), none⟩ ::
⟨(some 124), .load false 1 (.tmp 123), none⟩ ::
⟨(some 125), .callF 111 [(.tmp 124), (.const (.int .u64 11))], none⟩ ::
⟨(some 126), .bin .xor (.tmp 121) (.tmp 125), none⟩ ::
⟨(some 127), .mv (.tmp 13), none⟩ ::
⟨(some 128), .iaS 1 (.tmp 127) (.const (.int .i64 4)), none⟩ ::
⟨(some 129), .load false 1 (.tmp 128), none⟩ ::
⟨(some 130), .callF 111 [(.tmp 129), (.const (.int .u64 25))], none⟩ ::
⟨(some 131), .bin .xor (.tmp 126) (.tmp 130), none⟩ ::
⟨(some 132), .bin .add (.tmp 117) (.tmp 131), none⟩ ::
⟨(some 133), .mv (.tmp 15), none⟩ ::
⟨(some 134), .bin .add (.tmp 132) (.tmp 133), none⟩ ::
⟨(some 135), .mv (.tmp 2), none⟩ ::
⟨(some 136), .mv (.tmp 14), none⟩ ::
⟨(some 137), .iaS 1 (.tmp 135) (.tmp 136), none⟩ ::
⟨(some 138), .load false 1 (.tmp 137), none⟩ ::
⟨(some 139), .bin .add (.tmp 134) (.tmp 138), none⟩ ::
⟨(some 140), .mv (.tmp 7), none⟩ ::
⟨(some 141), .mv (.tmp 14), none⟩ ::
⟨(some 142), .iaS 1 (.tmp 140) (.tmp 141), none⟩ ::
⟨(some 143), .load false 1 (.tmp 142), none⟩ ::
⟨(some 144), .bin .add (.tmp 139) (.tmp 143), none⟩ ::
⟨(some 16), .mv (.tmp 144), none⟩ ::
[])
(⟨0, [], []⟩ :: ⟨1, [], []⟩ :: ⟨2, [], []⟩ :: ⟨3, [], []⟩ :: ⟨4, [], []⟩ :: ⟨5, [], []⟩ :: ⟨7, [], []⟩ :: ⟨8, [], []⟩ :: ⟨9, [], []⟩ :: ⟨12, [], []⟩ :: ⟨13, [], []⟩ :: ⟨14, [], []⟩ :: ⟨18, [], []⟩ :: ⟨20, [], []⟩ :: ⟨21, [], []⟩ :: ⟨22, [], []⟩ :: ⟨23, [], []⟩ :: ⟨25, [], []⟩ :: ⟨26, [], []⟩ :: ⟨27, [], []⟩ :: ⟨28, [], []⟩ :: ⟨6, [], [2, 9, 14, 23, 28]⟩ :: ⟨10, [], [2, 14, 23, 28]⟩ :: ⟨11, [], []⟩ :: ⟨15, [], [2, 23, 28]⟩ :: ⟨16, [], []⟩ :: ⟨17, [], []⟩ :: ⟨19, [], []⟩ :: ⟨24, [], []⟩ :: ⟨29, [], []⟩ :: ⟨30, [], []⟩ :: []))
(.seq
(.draw (
⟨(some 145), .mv (.tmp 13), none⟩ ::
⟨(some 146), .iaS 1 (.tmp 145) (.const (.int .i64 0)), none⟩ ::
⟨(some 147), .load false 1 (.tmp 146), none⟩ ::
⟨(some 148), .mv (.tmp 13), none⟩ ::
⟨(some 149), .iaS 1 (.tmp 148) (.const (.int .i64 1)), none⟩ ::
⟨(some 150), .load false 1 (.tmp 149), none⟩ ::
⟨(some 151), .bin .and (.tmp 147) (.tmp 150), none⟩ ::
⟨(some 152), .mv (.tmp 13), none⟩ ::
⟨(some 153), .iaS 1 (.tmp 152) (.const (.int .i64 0)), none⟩ ::
⟨(some 154), .load false 1 (.tmp 153), none⟩ ::
⟨(some 155), .mv (.tmp 13), none⟩ ::
⟨(some 156), .iaS 1 (.tmp 155) (.const (.int .i64 2)), none⟩ ::
⟨(some 157), .load false 1 (.tmp 156), none⟩ ::
⟨(some 158), .bin .and (.tmp 154) (.tmp 157), none⟩ ::
⟨(some 159), .bin .xor (.tmp 151) (.tmp 158), none⟩ ::
⟨(some 160), .mv (.tmp 13), none⟩ ::
⟨(some 161), .iaS 1 (.tmp 160) (.const (.int .i64 1)), none⟩ ::
⟨(some 162), .load false 1 (.tmp 161), none⟩ ::
⟨(some 163), .mv (.tmp 13), none⟩ ::
⟨(some 164), .iaS 1 (.tmp 163) (.const (.int .i64 2)), none⟩ ::
⟨(some 165), .load false 1 (.tmp 164), none⟩ ::
⟨(some 166), .bin .and (.tmp 162) (.tmp 165), none⟩ ::
⟨(some 167), .bin .xor (.tmp 159) (.tmp 166), none⟩ ::
⟨(some 17), .mv (.tmp 167), none⟩ ::
[])
(⟨0, [], []⟩ :: ⟨1, [], []⟩ :: ⟨2, [], []⟩ :: ⟨3, [], []⟩ :: ⟨4, [], []⟩ :: ⟨5, [], []⟩ :: ⟨6, [], []⟩ :: ⟨7, [], []⟩ :: ⟨8, [], []⟩ :: ⟨9, [], []⟩ :: ⟨10, [], []⟩ :: ⟨11, [], []⟩ :: ⟨12, [], []⟩ :: ⟨13, [], []⟩ :: ⟨14, [], []⟩ :: ⟨15, [], []⟩ :: ⟨16, [], []⟩ :: ⟨17, [], []⟩ :: ⟨18, [], []⟩ :: ⟨19, [], []⟩ :: ⟨20, [], []⟩ :: ⟨21, [], []⟩ :: ⟨22, [], []⟩ :: ⟨23, [], []⟩ :: []))
(.seq
(.draw (
⟨(some 168), .mv (.tmp 13), none⟩ ::
⟨(some 169), .iaS 1 (.tmp 168) (.const (.int .i64 0)), none⟩ ::
⟨(some 170), .load false 1 (.tmp 169), none⟩ ::
⟨(some 171), .callF 111 [(.tmp 170), (.const (.int .u64 2))], none⟩ ::
⟨(some 172), .mv (.tmp 13), none⟩ ::
⟨(some 173), .iaS 1 (.tmp 172) (.const (.int .i64 0)), none⟩ ::
⟨(some 174), .load false 1 (.tmp 173), none⟩ ::
⟨(some 175), .callF 111 [(.tmp 174), (.const (.int .u64 13))], none⟩ ::
⟨(some 176), .bin .xor (.tmp 171) (.tmp 175), none⟩ ::
⟨(some 177), .mv (.tmp 13), none⟩ ::
⟨(some 178), .iaS 1 (.tmp 177) (.const (.int .i64 0)), none⟩ ::
⟨(some 179), .load false 1 (.tmp 178), none⟩ ::
⟨(some 180), .callF 111 [(.tmp 179), (.const (.int .u64 22))], none⟩ ::
⟨(some 181), .bin .xor (.tmp 176) (.tmp 180), none⟩ ::
⟨(some 182), .mv (.tmp 17), none⟩ ::
⟨(some 183), .bin .add (.tmp 181) (.tmp 182), none⟩ ::
⟨(some 18), .mv (.tmp 183), none⟩ ::
[])
(⟨0, [], []⟩ :: ⟨1, [], []⟩ :: ⟨2, [], []⟩ :: ⟨4, [], []⟩ :: ⟨5, [], []⟩ :: ⟨6, [], []⟩ :: ⟨9, [], []⟩ :: ⟨10, [], []⟩ :: ⟨11, [], []⟩ :: ⟨14, [], []⟩ :: ⟨3, [], [6, 11]⟩ :: ⟨7, [], [11]⟩ :: ⟨8, [], []⟩ :: ⟨12, [], []⟩ :: ⟨13, [], []⟩ :: ⟨15, [], []⟩ :: ⟨16, [], []⟩ :: []))
(.draw (
⟨(some 184), .mv (.tmp 16), none⟩ ::
⟨(some 185), .mv (.tmp 18), none⟩ ::
⟨(some 186), .bin .add (.tmp 184) (.tmp 185), none⟩ ::
⟨(some 187), .mv (.tmp 13), none⟩ ::
⟨(some 188), .iaS 1 (.tmp 187) (.const (.int .i64 0)), none⟩ ::
⟨(some 189), .load false 1 (.tmp 188), none⟩ ::
⟨(some 190), .mv (.tmp 13), none⟩ ::
⟨(some 191), .iaS 1 (.tmp 190) (.const (.int .i64 1)), none⟩ ::
⟨(some 192), .load false 1 (.tmp 191), none⟩ ::
⟨(some 193), .mv (.tmp 13), none⟩ ::
⟨(some 194), .iaS 1 (.tmp 193) (.const (.int .i64 2)), none⟩ ::
⟨(some 195), .load false 1 (.tmp 194), none⟩ ::
⟨(some 196), .mv (.tmp 13), none⟩ ::
⟨(some 197), .iaS 1 (.tmp 196) (.const (.int .i64 3)), none⟩ ::
⟨(some 198), .load false 1 (.tmp 197), none⟩ ::
⟨(some 199), .mv (.tmp 16), none⟩ ::
⟨(some 200), .bin .add (.tmp 198) (.tmp 199), none⟩ ::
⟨(some 201), .mv (.tmp 13), none⟩ ::
⟨(some 202), .iaS 1 (.tmp 201) (.const (.int .i64 4)), none⟩ ::
⟨(some 203), .load false 1 (.tmp 202), none⟩ ::
⟨(some 204), .mv (.tmp 13), none⟩ ::
⟨(some 205), .iaS 1 (.tmp 204) (.const (.int .i64 5)), none⟩ ::
⟨(some 206), .load false 1 (.tmp 205), none⟩ ::
⟨(some 207), .mv (.tmp 13), none⟩ ::
⟨(some 208), .iaS 1 (.tmp 207) (.const (.int .i64 6)), none⟩ ::
⟨(some 209), .load false 1 (.tmp 208), none⟩ ::
⟨(some 210), .bslM 1 [(.tmp 186), (.tmp 189), (.tmp 192), (.tmp 195), (.tmp 200), (.tmp 203), (.tmp 206), (.tmp 209)], none⟩ ::
⟨(some 13), .mv (.tmp 210), none⟩ ::
[])
(⟨0, [], []⟩ :: ⟨1, [], []⟩ :: ⟨2, [], []⟩ :: ⟨3, [], []⟩ :: ⟨4, [], []⟩ :: ⟨5, [], []⟩ :: ⟨6, [], []⟩ :: ⟨7, [], []⟩ :: ⟨8, [], []⟩ :: ⟨9, [], []⟩ :: ⟨10, [], []⟩ :: ⟨11, [], []⟩ :: ⟨12, [], []⟩ :: ⟨13, [], []⟩ :: ⟨14, [], []⟩ :: ⟨15, [], []⟩ :: ⟨16, [], []⟩ :: ⟨17, [], []⟩ :: ⟨18, [], []⟩ :: ⟨19, [], []⟩ :: ⟨20, [], []⟩ :: ⟨21, [], []⟩ :: ⟨22, [], []⟩ :: ⟨23, [], []⟩ :: ⟨24, [], []⟩ :: ⟨25, [], []⟩ :: ⟨26, [], []⟩ :: ⟨27, [], []⟩ :: [])))))))
(.plain (
⟨(some 97), .mv (.tmp 14), none⟩ ::
⟨(some 98), .bin .add (.tmp 97) (.const (.int .i64 1)), none⟩ ::
⟨(some 14), .mv (.tmp 98), none⟩ ::
[])))))))
(.seq
(.seq
(.plain (
⟨(some 19), .mv (.const (.int .i64 0)), none⟩ ::
[]))
(.block 8
(.loop
(.seq
(.seq
(.plain (
⟨(some 211), .mv (.tmp 19), none⟩ ::
⟨(some 212), .bin .lss (.tmp 211) (.const (.int .i64 8)), none⟩ ::
[]))
(.cond (.tmp 212)
.skip
(.exit 8)))
(.seq
(.block 9
(.draw (
⟨(some 215), .mv (.tmp 13), none⟩ ::
⟨(some 216), .mv (.tmp 19), none⟩ ::
⟨(some 217), .mv (.tmp 13), none⟩ ::
⟨(some 218), .mv (.tmp 19), none⟩ ::
⟨(some 219), .iaS 1 (.tmp 217) (.tmp 218), none⟩ ::
⟨(some 220), .load false 1 (.tmp 219), none⟩ ::
⟨(some 221), .mv (.tmp 0), none⟩ ::
⟨(some 222), .mv (.tmp 19), none⟩ ::
⟨(some 223), .iaS 1 (.tmp 221) (.tmp 222), none⟩ ::
⟨(some 224), .load false 1 (.tmp 223), none⟩ ::
⟨(some 225), .bin .add (.tmp 220) (.tmp 224), none⟩ ::
⟨(some 226), .iaS 1 (.tmp 215) (.tmp 216), none⟩ ::
⟨none, .store 1 (.tmp 226) (.tmp 225), none⟩ ::
[])
(⟨0, [], []⟩ :: ⟨1, [], []⟩ :: ⟨2, [], []⟩ :: ⟨3, [], []⟩ :: ⟨4, [], []⟩ :: ⟨5, [], []⟩ :: ⟨6, [], []⟩ :: ⟨7, [], []⟩ :: ⟨8, [], []⟩ :: ⟨9, [], []⟩ :: ⟨10, [], []⟩ :: ⟨11, [], []⟩ :: ⟨12, [], []⟩ :: [])))
(.plain (
⟨(some 213), .mv (.tmp 19), none⟩ ::
⟨(some 214), .bin .add (.tmp 213) (.const (.int .i64 1)), none⟩ ::
⟨(some 19), .mv (.tmp 214), none⟩ ::
[])))))))
(.seq
(.plain (
⟨(some 227), .mv (.tmp 13), none⟩ ::
⟨(some 6), .mv (.tmp 227), none⟩ ::
[]))
.ret))))))))
theorem prep75 : prepFunc Tryz.prog 1 75 = some F75 := by kernel_rfl

-- (*indenture/codec.Writer).Num
def F77 : AFunc where
  ntmps := 19
  nparams := 2
  results := []
  code :=
(.seq
(.plain (
⟨(some 6), .mv (.tmp 1), none⟩ ::
⟨(some 7), .cvt .u64 (.tmp 6), none⟩ ::
⟨(some 8), .bin .xor (.tmp 7) (.const (.int .u64 9223372036854775808)), none⟩ ::
⟨(some 4), .mv (.tmp 8), none⟩ ::
[]))
(.seq
(.plain (
⟨(some 5), .mv (.const (.int .i64 56)), none⟩ ::
[]))
(.block 0
(.loop
(.seq
(.seq
(.plain (
⟨(some 9), .mv (.tmp 5), none⟩ ::
⟨(some 10), .bin .geq (.tmp 9) (.const (.int .i64 0)), none⟩ ::
[]))
(.cond (.tmp 10)
.skip
(.exit 0)))
(.seq
(.block 1
(.plain (
⟨(some 13), .mv (.tmp 0), none⟩ ::
⟨(some 14), .mv (.tmp 4), none⟩ ::
⟨(some 15), .mv (.tmp 5), none⟩ ::
⟨(some 16), .bin .shr (.tmp 14) (.tmp 15), none⟩ ::
⟨(some 17), .cvt .u8 (.tmp 16), none⟩ ::
⟨(some 18), .callF 102 [(.tmp 13), (.tmp 17)], none⟩ ::
[])))
(.plain (
⟨(some 11), .mv (.tmp 5), none⟩ ::
⟨(some 12), .bin .sub (.tmp 11) (.const (.int .i64 8)), none⟩ ::
⟨(some 5), .mv (.tmp 12), none⟩ ::
[]))))))))
theorem prep77 : prepFunc Tryz.prog 0 77 = some F77 := by kernel_rfl

-- (*indenture/codec.Writer).Bytes
def F78 : AFunc where
  ntmps := 13
  nparams := 1
  results := [(2, none)]
  code :=
(.seq
(.plain (
⟨(some 2), .mv (.const (.slice none 0 0)), none⟩ ::
[]))
(.seq
(.seq
(.plain (
⟨(some 3), .mv (.tmp 0), none⟩ ::
⟨(some 4), .nilc (.tmp 3), none⟩ ::
⟨(some 5), .fa 1 (.tmp 4), none⟩ ::
⟨(some 6), .load false 1 (.tmp 5), none⟩ ::
⟨(some 7), .bin .neq (.tmp 6) (.const (.int .i64 0)), none⟩ ::
[]))
(.cond (.tmp 7)
(.seq
(.plain (
⟨(some 2), .mv (.const (.slice none 0 0)), none⟩ ::
[]))
.ret)
.skip))
(.seq
(.plain (
⟨(some 8), .mv (.tmp 0), none⟩ ::
⟨(some 9), .nilc (.tmp 8), none⟩ ::
⟨(some 10), .fa 0 (.tmp 9), none⟩ ::
⟨(some 11), .load false 1 (.tmp 10), none⟩ ::
⟨(some 12), .callF 16 [(.tmp 11)], none⟩ ::
⟨(some 2), .mv (.tmp 12), none⟩ ::
[]))
.ret)))
theorem prep78 : prepFunc Tryz.prog 0 78 = some F78 := by kernel_rfl

-- (*indenture/history.proof).take
def F79 : AFunc where
  ntmps := 41
  nparams := 1
  results := [(2, (some (true, 32)))]
  code :=
(.seq
(.plain (
⟨(some 2), .alloc 30 (List.replicate 32 (.v (.int .u8 0))), none⟩ ::
[]))
(.seq
(.seq
(.plain (
⟨(some 4), .mv (.tmp 0), none⟩ ::
⟨(some 5), .nilc (.tmp 4), none⟩ ::
⟨(some 6), .fa 0 (.tmp 5), none⟩ ::
⟨(some 7), .load false 1 (.tmp 6), none⟩ ::
⟨(some 8), .len (.tmp 7), none⟩ ::
⟨(some 9), .bin .eql (.tmp 8) (.const (.int .i64 0)), none⟩ ::
[]))
(.cond (.tmp 9)
(.seq
(.plain (
⟨(some 10), .mv (.tmp 0), none⟩ ::
⟨(some 11), .nilc (.tmp 10), none⟩ ::
⟨(some 12), .fa 2 (.tmp 11), none⟩ ::
⟨none, .store 1 (.tmp 12) (.const (.bool true)), none⟩ ::
[]))
(.seq
(.plain (
⟨(some 13), .bld (List.replicate 32 (.v (.int .u8 0))) [], none⟩ ::
⟨none, .store 32 (.tmp 2) (.tmp 13), none⟩ ::
[]))
.ret))
.skip))
(.seq
(.draw (
⟨(some 14), .mv (.tmp 0), none⟩ ::
⟨(some 15), .nilc (.tmp 14), none⟩ ::
⟨(some 16), .fa 0 (.tmp 15), none⟩ ::
⟨(some 17), .load false 1 (.tmp 16), none⟩ ::
⟨(some 18), .mv (.tmp 0), none⟩ ::
⟨(some 19), .nilc (.tmp 18), none⟩ ::
⟨(some 20), .fa 0 (.tmp 19), none⟩ ::
⟨(some 21), .load false 1 (.tmp 20), none⟩ ::
⟨(some 22), .len (.tmp 21), none⟩ ::
⟨(some 23), .bin .sub (.tmp 22) (.const (.int .i64 1)), none⟩ ::
⟨(some 24), .iaS 32 (.tmp 17) (.tmp 23), none⟩ ::
⟨(some 25), .load true 32 (.tmp 24), none⟩ ::
⟨(some 3), .alloc 30 (List.replicate 32 (.v (.int .u8 0))), none⟩ ::
⟨none, .store 32 (.tmp 3) (.tmp 25), none⟩ ::
[])
(⟨0, [], []⟩ :: ⟨1, [], []⟩ :: ⟨2, [], []⟩ :: ⟨3, [], []⟩ :: ⟨4, [], []⟩ :: ⟨5, [], []⟩ :: ⟨6, [], []⟩ :: ⟨7, [], []⟩ :: ⟨8, [], []⟩ :: ⟨9, [], []⟩ :: ⟨10, [], []⟩ :: ⟨11, [], []⟩ :: ⟨12, [], []⟩ :: ⟨13, [], []⟩ :: []))
(.seq
(.draw (
⟨(some 26), .mv (.tmp 0), none⟩ ::
⟨(some 27), .mv (.tmp 0), none⟩ ::
⟨(some 28), .nilc (.tmp 27), none⟩ ::
⟨(some 29), .fa 0 (.tmp 28), none⟩ ::
⟨(some 30), .load false 1 (.tmp 29), none⟩ ::
⟨(some 31), .mv (.tmp 0), none⟩ ::
⟨(some 32), .nilc (.tmp 31), none⟩ ::
⟨(some 33), .fa 0 (.tmp 32), none⟩ ::
⟨(some 34), .load false 1 (.tmp 33), none⟩ ::
⟨(some 35), .len (.tmp 34), none⟩ ::
⟨(some 36), .bin .sub (.tmp 35) (.const (.int .i64 1)), none⟩ ::
⟨(some 37), .slc 32 (.tmp 30) none (some (.tmp 36)), none⟩ ::
⟨(some 38), .nilc (.tmp 26), none⟩ ::
⟨(some 39), .fa 0 (.tmp 38), none⟩ ::
⟨none, .store 1 (.tmp 39) (.tmp 37), none⟩ ::
[])
(⟨0, [], []⟩ :: ⟨1, [], []⟩ :: ⟨2, [], []⟩ :: ⟨3, [], []⟩ :: ⟨4, [], []⟩ :: ⟨5, [], []⟩ :: ⟨6, [], []⟩ :: ⟨7, [], []⟩ :: ⟨8, [], []⟩ :: ⟨9, [], []⟩ :: ⟨10, [], []⟩ :: ⟨11, [], []⟩ :: ⟨12, [], []⟩ :: ⟨13, [], []⟩ :: ⟨14, [], []⟩ :: []))
(.seq
(.plain (
⟨(some 40), .load true 32 (.tmp 3), none⟩ ::
⟨none, .store 32 (.tmp 2) (.tmp 40), none⟩ ::
[]))
.ret)))))
theorem prep79 : prepFunc Tryz.prog 0 79 = some F79 := by kernel_rfl

-- indenture/history.half
def F80 : AFunc where
  ntmps := 9
  nparams := 1
  results := [(2, none)]
  code :=
(.seq
(.plain (
⟨(some 2), .mv (.const (.int .i64 0)), none⟩ ::
[]))
(.seq
(.plain (
⟨(some 3), .mv (.tmp 0), none⟩ ::
⟨(some 4), .bin .sub (.tmp 3) (.const (.int .i64 1)), none⟩ ::
⟨(some 5), .cvt .u64 (.tmp 4), none⟩ ::
⟨(some 6), .callF 106 [(.tmp 5)], none⟩ ::
⟨(some 7), .bin .sub (.tmp 6) (.const (.int .i64 1)), none⟩ ::
⟨(some 8), .bin .shl (.const (.int .i64 1)) (.tmp 7), none⟩ ::
⟨(some 2), .mv (.tmp 8), none⟩ ::
[]))
.ret))
theorem prep80 : prepFunc Tryz.prog 0 80 = some F80 := by kernel_rfl

-- (*indenture/history.proof).hash
def F81 : AFunc where
  ntmps := 17
  nparams := 2
  results := [(4, (some (true, 32)))]
  code :=
(.seq
(.plain (
⟨(some 4), .alloc 30 (List.replicate 32 (.v (.int .u8 0))), none⟩ ::
[]))
(.seq
(.plain (
⟨(some 5), .mv (.tmp 0), none⟩ ::
⟨(some 6), .mv (.tmp 0), none⟩ ::
⟨(some 7), .nilc (.tmp 6), none⟩ ::
⟨(some 8), .fa 1 (.tmp 7), none⟩ ::
⟨(some 9), .load false 1 (.tmp 8), none⟩ ::
⟨(some 10), .mv (.tmp 1), none⟩ ::
⟨(some 11), .bsl 1 [(.tmp 10)], none⟩ ::
⟨(some 12), .app 1 24 (.tmp 9) (.tmp 11), none⟩ ::
⟨(some 13), .nilc (.tmp 5), none⟩ ::
⟨(some 14), .fa 1 (.tmp 13), none⟩ ::
⟨none, .store 1 (.tmp 14) (.tmp 12), none⟩ ::
[]))
(.seq
(.plain (
⟨(some 15), .mv (.tmp 1), none⟩ ::
⟨(some 16), .callF 14 [(.tmp 15)], none⟩ ::
⟨none, .store 32 (.tmp 4) (.tmp 16), none⟩ ::
[]))
.ret)))
theorem prep81 : prepFunc Tryz.prog 0 81 = some F81 := by kernel_rfl

-- indenture/history.nodeText
def F82 : AFunc where
  ntmps := 9
  nparams := 2
  results := [(4, none)]
  code :=
(.seq
(.plain (
⟨(some 2), .boxR 30 (.tmp 0), none⟩ ::
⟨(some 3), .boxR 30 (.tmp 1), none⟩ ::
⟨(some 4), .mv (.const (.slice none 0 0)), none⟩ ::
[]))
(.seq
(.draw (
⟨(some 5), .slcR 1 32 (.tmp 2) none none, none⟩ ::
⟨(some 6), .slcR 1 32 (.tmp 3) none none, none⟩ ::
⟨(some 7), .bsl 1 [(.tmp 5), (.tmp 6)], none⟩ ::
⟨(some 8), .callF 12 [(.const (.int .u8 78)), (.tmp 7)], none⟩ ::
⟨(some 4), .mv (.tmp 8), none⟩ ::
[])
(⟨0, [], []⟩ :: ⟨1, [], []⟩ :: ⟨2, [], []⟩ :: ⟨3, [], []⟩ :: ⟨4, [], []⟩ :: []))
.ret))
theorem prep82 : prepFunc Tryz.prog 0 82 = some F82 := by kernel_rfl

-- slices.ContainsFunc[[]indenture/api.Op,indenture/api.Op]
def F83 : AFunc where
  ntmps := 9
  nparams := 2
  results := [(4, none)]
  code :=
(.seq
(.plain (
⟨(some 4), .mv (.const (.bool false)), none⟩ ::
[]))
(.seq
(.plain (
⟨(some 5), .mv (.tmp 0), none⟩ ::
⟨(some 6), .mv (.tmp 1), none⟩ ::
⟨(some 7), .callF 112 [(.tmp 5), (.tmp 6)], none⟩ ::
⟨(some 8), .bin .geq (.tmp 7) (.const (.int .i64 0)), none⟩ ::
⟨(some 4), .mv (.tmp 8), none⟩ ::
[]))
.ret))
theorem prep83 : prepFunc Tryz.prog 0 83 = some F83 := by kernel_rfl

-- indenture/block.Ops$1
def F84 : AFunc where
  ntmps := 6
  nparams := 1
  results := [(2, none)]
  code :=
(.seq
(.plain (
⟨(some 1), .box 147 (.tmp 0), none⟩ ::
⟨(some 2), .mv (.const (.bool false)), none⟩ ::
[]))
(.seq
(.plain (
⟨(some 3), .load true 4 (.tmp 1), none⟩ ::
⟨(some 4), .callF 85 [(.tmp 3)], none⟩ ::
⟨(some 5), .un .not (.tmp 4), none⟩ ::
⟨(some 2), .mv (.tmp 5), none⟩ ::
[]))
.ret))
theorem prep84 : prepFunc Tryz.prog 0 84 = some F84 := by kernel_rfl

-- indenture/block.Right
def F85 : AFunc where
  ntmps := 51
  nparams := 1
  results := [(2, none)]
  code :=
(.seq
(.plain (
⟨(some 1), .box 147 (.tmp 0), none⟩ ::
⟨(some 2), .mv (.const (.bool false)), none⟩ ::
[]))
(.seq
(.seq
(.plain (
⟨(some 3), .fa 1 (.tmp 1), none⟩ ::
⟨(some 4), .load false 1 (.tmp 3), none⟩ ::
⟨(some 5), .callF 113 [(.tmp 4)], none⟩ ::
⟨(some 6), .un .not (.tmp 5), none⟩ ::
[]))
(.cond (.tmp 6)
(.seq
(.plain (
⟨(some 2), .mv (.const (.bool false)), none⟩ ::
[]))
.ret)
.skip))
(.seq
(.seq
(.plain (
⟨(some 7), .fa 0 (.tmp 1), none⟩ ::
⟨(some 8), .load false 1 (.tmp 7), none⟩ ::
[]))
(.block 0
(.seq
(.plain (
⟨(some 10), .bin .eql (.tmp 8) (.const (.int .u8 1)), none⟩ ::
⟨(some 9), .mv (.tmp 10), none⟩ ::
[]))
(.cond (.tmp 9)
(.seq
(.plain (
⟨(some 11), .fa 2 (.tmp 1), none⟩ ::
⟨(some 12), .load false 1 (.tmp 11), none⟩ ::
⟨(some 13), .callF 114 [(.tmp 12)], none⟩ ::
⟨(some 14), .mv (.tmp 13), none⟩ ::
⟨(some 15), .fa 3 (.tmp 1), (some (14, true))⟩ ::
⟨(some 16), .load false 1 (.tmp 15), (some (14, true))⟩ ::
⟨(some 17), .len (.tmp 16), (some (14, true))⟩ ::
⟨(some 18), .bin .eql (.tmp 17) (.const (.int .i64 0)), (some (14, true))⟩ ::
⟨(some 19), .pick (.tmp 14) (.tmp 18) (.const (.bool false)), none⟩ ::
⟨(some 2), .mv (.tmp 19), none⟩ ::
[]))
.ret)
(.seq
(.plain (
⟨(some 21), .bin .eql (.tmp 8) (.const (.int .u8 2)), none⟩ ::
⟨(some 20), .mv (.tmp 21), none⟩ ::
[]))
(.cond (.tmp 20)
(.seq
(.plain (
⟨(some 22), .fa 2 (.tmp 1), none⟩ ::
⟨(some 23), .load false 1 (.tmp 22), none⟩ ::
⟨(some 24), .len (.tmp 23), none⟩ ::
⟨(some 25), .bin .eql (.tmp 24) (.const (.int .i64 0)), none⟩ ::
⟨(some 26), .mv (.tmp 25), none⟩ ::
⟨(some 27), .fa 3 (.tmp 1), (some (26, true))⟩ ::
⟨(some 28), .load false 1 (.tmp 27), (some (26, true))⟩ ::
⟨(some 29), .len (.tmp 28), (some (26, true))⟩ ::
⟨(some 30), .bin .eql (.tmp 29) (.const (.int .i64 0)), (some (26, true))⟩ ::
⟨(some 31), .pick (.tmp 26) (.tmp 30) (.const (.bool false)), none⟩ ::
⟨(some 2), .mv (.tmp 31), none⟩ ::
[]))
.ret)
(.seq
(.seq
(.plain (
⟨(some 33), .bin .eql (.tmp 8) (.const (.int .u8 3)), none⟩ ::
⟨(some 32), .mv (.tmp 33), none⟩ ::
[]))
(.cond (.tmp 32)
.skip
(.plain (
⟨(some 34), .bin .eql (.tmp 8) (.const (.int .u8 4)), none⟩ ::
⟨(some 32), .mv (.tmp 34), none⟩ ::
[]))))
(.cond (.tmp 32)
(.seq
(.plain (
⟨(some 35), .fa 2 (.tmp 1), none⟩ ::
⟨(some 36), .load false 1 (.tmp 35), none⟩ ::
⟨(some 37), .len (.tmp 36), none⟩ ::
⟨(some 38), .bin .eql (.tmp 37) (.const (.int .i64 0)), none⟩ ::
⟨(some 39), .mv (.tmp 38), none⟩ ::
⟨(some 40), .fa 3 (.tmp 1), (some (39, true))⟩ ::
⟨(some 41), .load false 1 (.tmp 40), (some (39, true))⟩ ::
⟨(some 42), .len (.tmp 41), (some (39, true))⟩ ::
⟨(some 43), .bin .geq (.tmp 42) (.const (.int .i64 2)), (some (39, true))⟩ ::
⟨(some 44), .pick (.tmp 39) (.tmp 43) (.const (.bool false)), none⟩ ::
⟨(some 45), .mv (.tmp 44), none⟩ ::
⟨(some 46), .fa 3 (.tmp 1), (some (45, true))⟩ ::
⟨(some 47), .load false 1 (.tmp 46), (some (45, true))⟩ ::
⟨(some 48), .len (.tmp 47), (some (45, true))⟩ ::
⟨(some 49), .bin .leq (.tmp 48) (.const (.int .i64 8)), (some (45, true))⟩ ::
⟨(some 50), .pick (.tmp 45) (.tmp 49) (.const (.bool false)), none⟩ ::
⟨(some 2), .mv (.tmp 50), none⟩ ::
[]))
.ret)
.skip))))))))
(.seq
(.plain (
⟨(some 2), .mv (.const (.bool false)), none⟩ ::
[]))
.ret))))
theorem prep85 : prepFunc Tryz.prog 0 85 = some F85 := by kernel_rfl

-- (*indenture/codec.Writer).Count
def F86 : AFunc where
  ntmps := 21
  nparams := 2
  results := []
  code :=
(.plain (
⟨(some 4), .mv (.tmp 0), none⟩ ::
⟨(some 5), .mv (.tmp 1), none⟩ ::
⟨(some 6), .bin .geq (.tmp 5) (.const (.int .i64 0)), none⟩ ::
⟨(some 7), .mv (.tmp 6), none⟩ ::
⟨(some 8), .mv (.tmp 1), (some (7, true))⟩ ::
⟨(some 9), .bin .leq (.tmp 8) (.const (.int .i64 1048576)), (some (7, true))⟩ ::
⟨(some 10), .pick (.tmp 7) (.tmp 9) (.const (.bool false)), none⟩ ::
⟨(some 11), .mv (.tmp 1), none⟩ ::
⟨(some 12), .bin .shr (.tmp 11) (.const (.int .u64 16)), none⟩ ::
⟨(some 13), .cvt .u8 (.tmp 12), none⟩ ::
⟨(some 14), .mv (.tmp 1), none⟩ ::
⟨(some 15), .bin .shr (.tmp 14) (.const (.int .u64 8)), none⟩ ::
⟨(some 16), .cvt .u8 (.tmp 15), none⟩ ::
⟨(some 17), .mv (.tmp 1), none⟩ ::
⟨(some 18), .cvt .u8 (.tmp 17), none⟩ ::
⟨(some 19), .bsl 1 [(.tmp 13), (.tmp 16), (.tmp 18)], none⟩ ::
⟨(some 20), .callF 115 [(.tmp 4), (.tmp 10), (.tmp 19)], none⟩ ::
[]))
theorem prep86 : prepFunc Tryz.prog 0 86 = some F86 := by kernel_rfl

-- indenture/block.op
def F87 : AFunc where
  ntmps := 44
  nparams := 2
  results := []
  code :=
(.seq
(.plain (
⟨(some 3), .box 147 (.tmp 1), none⟩ ::
[]))
(.seq
(.plain (
⟨(some 6), .mv (.tmp 0), none⟩ ::
⟨(some 7), .fa 0 (.tmp 3), none⟩ ::
⟨(some 8), .load false 1 (.tmp 7), none⟩ ::
⟨(some 9), .callF 102 [(.tmp 6), (.tmp 8)], none⟩ ::
[]))
(.seq
(.plain (
⟨(some 10), .mv (.tmp 0), none⟩ ::
⟨(some 11), .fa 1 (.tmp 3), none⟩ ::
⟨(some 12), .load false 1 (.tmp 11), none⟩ ::
⟨(some 13), .s2b (.tmp 12), none⟩ ::
⟨(some 14), .callF 103 [(.tmp 10), (.tmp 13)], none⟩ ::
[]))
(.seq
(.plain (
⟨(some 15), .fa 0 (.tmp 3), none⟩ ::
⟨(some 16), .load false 1 (.tmp 15), none⟩ ::
[]))
(.block 0
(.seq
(.plain (
⟨(some 18), .bin .eql (.tmp 16) (.const (.int .u8 1)), none⟩ ::
⟨(some 17), .mv (.tmp 18), none⟩ ::
[]))
(.cond (.tmp 17)
(.seq
(.plain (
⟨(some 19), .mv (.tmp 0), none⟩ ::
⟨(some 20), .fa 2 (.tmp 3), none⟩ ::
⟨(some 21), .load false 1 (.tmp 20), none⟩ ::
⟨(some 22), .len (.tmp 21), none⟩ ::
⟨(some 23), .cvt .u8 (.tmp 22), none⟩ ::
⟨(some 24), .callF 102 [(.tmp 19), (.tmp 23)], none⟩ ::
[]))
(.seq
(.plain (
⟨(some 25), .fa 2 (.tmp 3), none⟩ ::
⟨(some 26), .load false 1 (.tmp 25), none⟩ ::
⟨(some 27), .len (.tmp 26), none⟩ ::
⟨(some 28), .mv (.const (.int .i64 0)), none⟩ ::
[]))
(.block 1
(.loop
(.seq
(.plain (
⟨(some 29), .bin .lss (.tmp 28) (.tmp 27), none⟩ ::
[]))
(.seq
(.cond (.tmp 29)
.skip
(.exit 1))
(.seq
(.block 2
(.seq
(.plain (
⟨(some 30), .iaS 1 (.tmp 26) (.tmp 28), none⟩ ::
⟨(some 31), .load false 1 (.tmp 30), none⟩ ::
⟨(some 5), .mv (.tmp 31), none⟩ ::
[]))
(.plain (
⟨(some 32), .mv (.tmp 0), none⟩ ::
⟨(some 33), .mv (.tmp 5), none⟩ ::
⟨(some 34), .s2b (.tmp 33), none⟩ ::
⟨(some 35), .callF 103 [(.tmp 32), (.tmp 34)], none⟩ ::
[]))))
(.plain (
⟨(some 36), .bin .add (.tmp 28) (.const (.int .i64 1)), none⟩ ::
⟨(some 28), .mv (.tmp 36), none⟩ ::
[])))))))))
(.seq
(.seq
(.plain (
⟨(some 38), .bin .eql (.tmp 16) (.const (.int .u8 3)), none⟩ ::
⟨(some 37), .mv (.tmp 38), none⟩ ::
[]))
(.cond (.tmp 37)
.skip
(.plain (
⟨(some 39), .bin .eql (.tmp 16) (.const (.int .u8 4)), none⟩ ::
⟨(some 37), .mv (.tmp 39), none⟩ ::
[]))))
(.cond (.tmp 37)
(.plain (
⟨(some 40), .mv (.tmp 0), none⟩ ::
⟨(some 41), .fa 3 (.tmp 3), none⟩ ::
⟨(some 42), .load false 1 (.tmp 41), none⟩ ::
⟨(some 43), .callF 116 [(.tmp 40), (.tmp 42)], none⟩ ::
[]))
.skip)))))))))
theorem prep87 : prepFunc Tryz.prog 0 87 = some F87 := by kernel_rfl

-- (*indenture/codec.Writer).Err
def F88 : AFunc where
  ntmps := 7
  nparams := 1
  results := [(2, none)]
  code :=
(.seq
(.plain (
⟨(some 2), .mv (.const (.int .i64 0)), none⟩ ::
[]))
(.seq
(.plain (
⟨(some 3), .mv (.tmp 0), none⟩ ::
⟨(some 4), .nilc (.tmp 3), none⟩ ::
⟨(some 5), .fa 1 (.tmp 4), none⟩ ::
⟨(some 6), .load false 1 (.tmp 5), none⟩ ::
⟨(some 2), .mv (.tmp 6), none⟩ ::
[]))
.ret))
theorem prep88 : prepFunc Tryz.prog 0 88 = some F88 := by kernel_rfl

-- (*indenture/codec.Reader).take
def F89 : AFunc where
  ntmps := 44
  nparams := 2
  results := [(4, none), (5, none)]
  code :=
(.seq
(.plain (
⟨(some 4), .mv (.const (.slice none 0 0)), none⟩ ::
⟨(some 5), .mv (.const (.bool false)), none⟩ ::
[]))
(.seq
(.seq
(.plain (
⟨(some 7), .mv (.tmp 0), none⟩ ::
⟨(some 8), .nilc (.tmp 7), none⟩ ::
⟨(some 9), .fa 1 (.tmp 8), none⟩ ::
⟨(some 10), .load false 1 (.tmp 9), none⟩ ::
⟨(some 11), .bin .eql (.tmp 10) (.const (.int .i64 0)), none⟩ ::
⟨(some 12), .mv (.tmp 11), none⟩ ::
⟨(some 13), .mv (.tmp 1), (some (12, true))⟩ ::
⟨(some 14), .mv (.tmp 0), (some (12, true))⟩ ::
⟨(some 15), .nilc (.tmp 14), (some (12, true))⟩ ::
⟨(some 16), .fa 0 (.tmp 15), (some (12, true))⟩ ::
⟨(some 17), .load false 1 (.tmp 16), (some (12, true))⟩ ::
⟨(some 18), .len (.tmp 17), (some (12, true))⟩ ::
⟨(some 19), .bin .gtr (.tmp 13) (.tmp 18), (some (12, true))⟩ ::
⟨(some 20), .pick (.tmp 12) (.tmp 19) (.const (.bool false)), none⟩ ::
[]))
(.cond (.tmp 20)
(.plain (
⟨(some 21), .mv (.tmp 0), none⟩ ::
⟨(some 22), .callF 91 [(.tmp 21), (.const (.int .i64 20))], none⟩ ::
[]))
.skip))
(.seq
(.seq
(.plain (
⟨(some 23), .mv (.tmp 0), none⟩ ::
⟨(some 24), .nilc (.tmp 23), none⟩ ::
⟨(some 25), .fa 1 (.tmp 24), none⟩ ::
⟨(some 26), .load false 1 (.tmp 25), none⟩ ::
⟨(some 27), .bin .neq (.tmp 26) (.const (.int .i64 0)), none⟩ ::
[]))
(.cond (.tmp 27)
(.seq
(.plain (
⟨(some 4), .mv (.const (.slice none 0 0)), none⟩ ::
⟨(some 5), .mv (.const (.bool false)), none⟩ ::
[]))
.ret)
.skip))
(.seq
(.plain (
⟨(some 28), .mv (.tmp 0), none⟩ ::
⟨(some 29), .nilc (.tmp 28), none⟩ ::
⟨(some 30), .fa 0 (.tmp 29), none⟩ ::
⟨(some 31), .load false 1 (.tmp 30), none⟩ ::
⟨(some 32), .mv (.tmp 1), none⟩ ::
⟨(some 33), .slc 1 (.tmp 31) none (some (.tmp 32)), none⟩ ::
⟨(some 6), .mv (.tmp 33), none⟩ ::
[]))
(.seq
(.plain (
⟨(some 34), .mv (.tmp 0), none⟩ ::
⟨(some 35), .mv (.tmp 0), none⟩ ::
⟨(some 36), .nilc (.tmp 35), none⟩ ::
⟨(some 37), .fa 0 (.tmp 36), none⟩ ::
⟨(some 38), .load false 1 (.tmp 37), none⟩ ::
⟨(some 39), .mv (.tmp 1), none⟩ ::
⟨(some 40), .slc 1 (.tmp 38) (some (.tmp 39)) none, none⟩ ::
⟨(some 41), .nilc (.tmp 34), none⟩ ::
⟨(some 42), .fa 0 (.tmp 41), none⟩ ::
⟨none, .store 1 (.tmp 42) (.tmp 40), none⟩ ::
[]))
(.seq
(.plain (
⟨(some 43), .mv (.tmp 6), none⟩ ::
⟨(some 4), .mv (.tmp 43), none⟩ ::
⟨(some 5), .mv (.const (.bool true)), none⟩ ::
[]))
.ret))))))
theorem prep89 : prepFunc Tryz.prog 0 89 = some F89 := by kernel_rfl

-- (*indenture/codec.Reader).Count
def F90 : AFunc where
  ntmps := 38
  nparams := 2
  results := [(4, none)]
  code :=
(.seq
(.plain (
⟨(some 4), .mv (.const (.int .i64 0)), none⟩ ::
[]))
(.seq
(.plain (
⟨(some 9), .mv (.tmp 0), none⟩ ::
⟨(some 10), .callF 89 [(.tmp 9), (.const (.int .i64 3))], none⟩ ::
⟨(some 8), .mv (.tmp 10), none⟩ ::
⟨(some 11), .ext (.tmp 8) 0, none⟩ ::
⟨(some 12), .ext (.tmp 8) 1, none⟩ ::
⟨(some 5), .mv (.tmp 11), none⟩ ::
⟨(some 6), .mv (.tmp 12), none⟩ ::
[]))
(.seq
(.seq
(.plain (
⟨(some 13), .mv (.tmp 6), none⟩ ::
⟨(some 14), .un .not (.tmp 13), none⟩ ::
[]))
(.cond (.tmp 14)
(.seq
(.plain (
⟨(some 4), .mv (.const (.int .i64 0)), none⟩ ::
[]))
.ret)
.skip))
(.seq
(.draw (
⟨(some 15), .mv (.tmp 5), none⟩ ::
⟨(some 16), .iaS 1 (.tmp 15) (.const (.int .i64 0)), none⟩ ::
⟨(some 17), .load false 1 (.tmp 16), none⟩ ::
⟨(some 18), .cvt .i64 (.tmp 17), none⟩ ::
⟨(some 19), .bin .shl (.tmp 18) (.const (.int .u64 16)), none⟩ ::
⟨(some 20), .mv (.tmp 5), none⟩ ::
⟨(some 21), .iaS 1 (.tmp 20) (.const (.int .i64 1)), none⟩ ::
⟨(some 22), .load false 1 (.tmp 21), none⟩ ::
⟨(some 23), .cvt .i64 (.tmp 22), none⟩ ::
⟨(some 24), .bin .shl (.tmp 23) (.const (.int .u64 8)), none⟩ ::
⟨(some 25), .bin .or (.tmp 19) (.tmp 24), none⟩ ::
⟨(some 26), .mv (.tmp 5), none⟩ ::
⟨(some 27), .iaS 1 (.tmp 26) (.const (.int .i64 2)), none⟩ ::
⟨(some 28), .load false 1 (.tmp 27), none⟩ ::
⟨(some 29), .cvt .i64 (.tmp 28), none⟩ ::
⟨(some 30), .bin .or (.tmp 25) (.tmp 29), none⟩ ::
⟨(some 7), .mv (.tmp 30), none⟩ ::
[])
(⟨0, [], []⟩ :: ⟨1, [], []⟩ :: ⟨2, [], []⟩ :: ⟨3, [], []⟩ :: ⟨4, [], []⟩ :: ⟨5, [], []⟩ :: ⟨6, [], []⟩ :: ⟨7, [], []⟩ :: ⟨8, [], []⟩ :: ⟨9, [], []⟩ :: ⟨10, [], []⟩ :: ⟨11, [], []⟩ :: ⟨12, [], []⟩ :: ⟨13, [], []⟩ :: ⟨14, [], []⟩ :: ⟨15, [], []⟩ :: ⟨16, [], []⟩ :: []))
(.seq
(.seq
(.plain (
⟨(some 31), .mv (.tmp 7), none⟩ ::
⟨(some 32), .mv (.tmp 1), none⟩ ::
⟨(some 33), .mm false .i64 (.tmp 32) (.const (.int .i64 1048576)), none⟩ ::
⟨(some 34), .bin .gtr (.tmp 31) (.tmp 33), none⟩ ::
[]))
(.cond (.tmp 34)
(.seq
(.plain (
⟨(some 35), .mv (.tmp 0), none⟩ ::
⟨(some 36), .callF 91 [(.tmp 35), (.const (.int .i64 10))], none⟩ ::
[]))
(.seq
(.plain (
⟨(some 4), .mv (.const (.int .i64 0)), none⟩ ::
[]))
.ret))
.skip))
(.seq
(.plain (
⟨(some 37), .mv (.tmp 7), none⟩ ::
⟨(some 4), .mv (.tmp 37), none⟩ ::
[]))
.ret))))))
theorem prep90 : prepFunc Tryz.prog 0 90 = some F90 := by kernel_rfl

-- (*indenture/codec.Reader).fail
def F91 : AFunc where
  ntmps := 13
  nparams := 2
  results := []
  code :=
(.seq
(.plain (
⟨(some 4), .mv (.tmp 0), none⟩ ::
⟨(some 5), .nilc (.tmp 4), none⟩ ::
⟨(some 6), .fa 1 (.tmp 5), none⟩ ::
⟨(some 7), .load false 1 (.tmp 6), none⟩ ::
⟨(some 8), .bin .eql (.tmp 7) (.const (.int .i64 0)), none⟩ ::
[]))
(.cond (.tmp 8)
(.plain (
⟨(some 9), .mv (.tmp 0), none⟩ ::
⟨(some 10), .mv (.tmp 1), none⟩ ::
⟨(some 11), .nilc (.tmp 9), none⟩ ::
⟨(some 12), .fa 1 (.tmp 11), none⟩ ::
⟨none, .store 1 (.tmp 12) (.tmp 10), none⟩ ::
[]))
.skip))
theorem prep91 : prepFunc Tryz.prog 0 91 = some F91 := by kernel_rfl

-- (*indenture/codec.Reader).Digest
def F92 : AFunc where
  ntmps := 15
  nparams := 1
  results := [(2, (some (true, 32)))]
  code :=
(.seq
(.plain (
⟨(some 2), .alloc 30 (List.replicate 32 (.v (.int .u8 0))), none⟩ ::
[]))
(.seq
(.plain (
⟨(some 3), .alloc 30 (List.replicate 32 (.v (.int .u8 0))), none⟩ ::
[]))
(.seq
(.plain (
⟨(some 7), .mv (.tmp 0), none⟩ ::
⟨(some 8), .callF 89 [(.tmp 7), (.const (.int .i64 32))], none⟩ ::
⟨(some 6), .mv (.tmp 8), none⟩ ::
⟨(some 9), .ext (.tmp 6) 0, none⟩ ::
⟨(some 10), .ext (.tmp 6) 1, none⟩ ::
⟨(some 4), .mv (.tmp 9), none⟩ ::
⟨(some 5), .mv (.tmp 10), none⟩ ::
[]))
(.seq
(.plain (
⟨(some 11), .slcA 1 32 (.tmp 3) none none false, none⟩ ::
⟨(some 12), .mv (.tmp 4), none⟩ ::
⟨(some 13), .cpy 1 (.tmp 11) (.tmp 12), none⟩ ::
[]))
(.seq
(.plain (
⟨(some 14), .load true 32 (.tmp 3), none⟩ ::
⟨none, .store 32 (.tmp 2) (.tmp 14), none⟩ ::
[]))
.ret)))))
theorem prep92 : prepFunc Tryz.prog 0 92 = some F92 := by kernel_rfl

-- (*indenture/codec.Reader).Num
def F93 : AFunc where
  ntmps := 30
  nparams := 1
  results := [(2, none)]
  code :=
(.seq
(.plain (
⟨(some 2), .mv (.const (.int .i64 0)), none⟩ ::
[]))
(.seq
(.plain (
⟨(some 9), .mv (.tmp 0), none⟩ ::
⟨(some 10), .callF 89 [(.tmp 9), (.const (.int .i64 8))], none⟩ ::
⟨(some 8), .mv (.tmp 10), none⟩ ::
⟨(some 11), .ext (.tmp 8) 0, none⟩ ::
⟨(some 12), .ext (.tmp 8) 1, none⟩ ::
⟨(some 3), .mv (.tmp 11), none⟩ ::
⟨(some 4), .mv (.tmp 12), none⟩ ::
[]))
(.seq
(.seq
(.plain (
⟨(some 13), .mv (.tmp 4), none⟩ ::
⟨(some 14), .un .not (.tmp 13), none⟩ ::
[]))
(.cond (.tmp 14)
(.seq
(.plain (
⟨(some 2), .mv (.const (.int .i64 0)), none⟩ ::
[]))
.ret)
.skip))
(.seq
(.plain (
⟨(some 5), .mv (.const (.int .u64 0)), none⟩ ::
[]))
(.seq
(.seq
(.plain (
⟨(some 15), .mv (.tmp 3), none⟩ ::
⟨(some 16), .len (.tmp 15), none⟩ ::
⟨(some 17), .mv (.const (.int .i64 0)), none⟩ ::
[]))
(.block 0
(.loop
(.seq
(.plain (
⟨(some 18), .bin .lss (.tmp 17) (.tmp 16), none⟩ ::
[]))
(.seq
(.cond (.tmp 18)
.skip
(.exit 0))
(.seq
(.block 1
(.seq
(.plain (
⟨(some 19), .iaS 1 (.tmp 15) (.tmp 17), none⟩ ::
⟨(some 20), .load false 1 (.tmp 19), none⟩ ::
⟨(some 7), .mv (.tmp 20), none⟩ ::
[]))
(.plain (
⟨(some 21), .mv (.tmp 5), none⟩ ::
⟨(some 22), .bin .shl (.tmp 21) (.const (.int .u64 8)), none⟩ ::
⟨(some 23), .mv (.tmp 7), none⟩ ::
⟨(some 24), .cvt .u64 (.tmp 23), none⟩ ::
⟨(some 25), .bin .or (.tmp 22) (.tmp 24), none⟩ ::
⟨(some 5), .mv (.tmp 25), none⟩ ::
[]))))
(.plain (
⟨(some 26), .bin .add (.tmp 17) (.const (.int .i64 1)), none⟩ ::
⟨(some 17), .mv (.tmp 26), none⟩ ::
[]))))))))
(.seq
(.plain (
⟨(some 27), .mv (.tmp 5), none⟩ ::
⟨(some 28), .bin .xor (.tmp 27) (.const (.int .u64 9223372036854775808)), none⟩ ::
⟨(some 29), .cvt .i64 (.tmp 28), none⟩ ::
⟨(some 2), .mv (.tmp 29), none⟩ ::
[]))
.ret))))))
theorem prep93 : prepFunc Tryz.prog 0 93 = some F93 := by kernel_rfl

-- indenture/block.readOp
def F94 : AFunc where
  ntmps := 37
  nparams := 1
  results := [(2, (some (true, 4)))]
  code :=
(.seq
(.plain (
⟨(some 2), .alloc 147 [(.v (.int .u8 0)), (.v (.string ⟨#[]⟩)), (.sl [] .nil), (.sl [] .nil)], none⟩ ::
[]))
(.seq
(.plain (
⟨(some 4), .mv (.tmp 0), none⟩ ::
⟨(some 5), .callF 117 [(.tmp 4)], none⟩ ::
⟨(some 6), .bld [(.v (.int .u8 0)), (.v (.string ⟨#[]⟩)), (.sl [] .nil), (.sl [] .nil)] [(0, 1, (.tmp 5))], none⟩ ::
⟨(some 3), .alloc 147 [(.v (.int .u8 0)), (.v (.string ⟨#[]⟩)), (.sl [] .nil), (.sl [] .nil)], none⟩ ::
⟨none, .store 4 (.tmp 3) (.tmp 6), none⟩ ::
[]))
(.seq
(.plain (
⟨(some 7), .mv (.tmp 0), none⟩ ::
⟨(some 8), .callF 53 [(.tmp 7), (.const (.int .i64 16))], none⟩ ::
⟨(some 9), .b2s (.tmp 8), none⟩ ::
⟨(some 10), .fa 1 (.tmp 3), none⟩ ::
⟨none, .store 1 (.tmp 10) (.tmp 9), none⟩ ::
[]))
(.seq
(.seq
(.plain (
⟨(some 11), .fa 0 (.tmp 3), none⟩ ::
⟨(some 12), .load false 1 (.tmp 11), none⟩ ::
[]))
(.block 0
(.seq
(.plain (
⟨(some 14), .bin .eql (.tmp 12) (.const (.int .u8 1)), none⟩ ::
⟨(some 13), .mv (.tmp 14), none⟩ ::
[]))
(.cond (.tmp 13)
(.seq
(.plain (
⟨(some 15), .mv (.tmp 0), none⟩ ::
⟨(some 16), .callF 117 [(.tmp 15)], none⟩ ::
⟨(some 17), .cvt .i64 (.tmp 16), none⟩ ::
⟨(some 18), .mm false .i64 (.tmp 17) (.const (.int .i64 8)), none⟩ ::
⟨(some 19), .mv (.const (.int .i64 0)), none⟩ ::
[]))
(.block 1
(.loop
(.seq
(.plain (
⟨(some 20), .bin .lss (.tmp 19) (.tmp 18), none⟩ ::
[]))
(.seq
(.cond (.tmp 20)
.skip
(.exit 1))
(.seq
(.block 2
(.draw (
⟨(some 21), .fa 2 (.tmp 3), none⟩ ::
⟨(some 22), .load false 1 (.tmp 21), none⟩ ::
⟨(some 23), .mv (.tmp 0), none⟩ ::
⟨(some 24), .callF 53 [(.tmp 23), (.const (.int .i64 16))], none⟩ ::
⟨(some 25), .b2s (.tmp 24), none⟩ ::
⟨(some 26), .bsl 1 [(.tmp 25)], none⟩ ::
⟨(some 27), .app 1 16 (.tmp 22) (.tmp 26), none⟩ ::
⟨(some 28), .fa 2 (.tmp 3), none⟩ ::
⟨none, .store 1 (.tmp 28) (.tmp 27), none⟩ ::
[])
(⟨0, [], []⟩ :: ⟨1, [], []⟩ :: ⟨2, [], []⟩ :: ⟨3, [], [1]⟩ :: ⟨4, [], []⟩ :: ⟨5, [], []⟩ :: ⟨6, [], []⟩ :: ⟨7, [], []⟩ :: ⟨8, [], []⟩ :: [])))
(.plain (
⟨(some 29), .bin .add (.tmp 19) (.const (.int .i64 1)), none⟩ ::
⟨(some 19), .mv (.tmp 29), none⟩ ::
[]))))))))
(.seq
(.seq
(.plain (
⟨(some 31), .bin .eql (.tmp 12) (.const (.int .u8 3)), none⟩ ::
⟨(some 30), .mv (.tmp 31), none⟩ ::
[]))
(.cond (.tmp 30)
.skip
(.plain (
⟨(some 32), .bin .eql (.tmp 12) (.const (.int .u8 4)), none⟩ ::
⟨(some 30), .mv (.tmp 32), none⟩ ::
[]))))
(.cond (.tmp 30)
(.plain (
⟨(some 33), .mv (.tmp 0), none⟩ ::
⟨(some 34), .callF 118 [(.tmp 33), (.const (.int .i64 8))], none⟩ ::
⟨(some 35), .fa 3 (.tmp 3), none⟩ ::
⟨none, .store 1 (.tmp 35) (.tmp 34), none⟩ ::
[]))
.skip))))))
(.seq
(.plain (
⟨(some 36), .load true 4 (.tmp 3), none⟩ ::
⟨none, .store 4 (.tmp 2) (.tmp 36), none⟩ ::
[]))
.ret)))))
theorem prep94 : prepFunc Tryz.prog 0 94 = some F94 := by kernel_rfl

-- (*indenture/codec.Reader).Err
def F95 : AFunc where
  ntmps := 7
  nparams := 1
  results := [(2, none)]
  code :=
(.seq
(.plain (
⟨(some 2), .mv (.const (.int .i64 0)), none⟩ ::
[]))
(.seq
(.plain (
⟨(some 3), .mv (.tmp 0), none⟩ ::
⟨(some 4), .nilc (.tmp 3), none⟩ ::
⟨(some 5), .fa 1 (.tmp 4), none⟩ ::
⟨(some 6), .load false 1 (.tmp 5), none⟩ ::
⟨(some 2), .mv (.tmp 6), none⟩ ::
[]))
.ret))
theorem prep95 : prepFunc Tryz.prog 0 95 = some F95 := by kernel_rfl

-- indenture/history.leafText
def F96 : AFunc where
  ntmps := 6
  nparams := 1
  results := [(2, none)]
  code :=
(.seq
(.plain (
⟨(some 1), .boxR 30 (.tmp 0), none⟩ ::
⟨(some 2), .mv (.const (.slice none 0 0)), none⟩ ::
[]))
(.seq
(.plain (
⟨(some 3), .slcR 1 32 (.tmp 1) none none, none⟩ ::
⟨(some 4), .bsl 1 [(.tmp 3)], none⟩ ::
⟨(some 5), .callF 12 [(.const (.int .u8 76)), (.tmp 4)], none⟩ ::
⟨(some 2), .mv (.tmp 5), none⟩ ::
[]))
.ret))
theorem prep96 : prepFunc Tryz.prog 0 96 = some F96 := by kernel_rfl

-- indenture/history.path
def F97 : AFunc where
  ntmps := 39
  nparams := 2
  results := [(4, none)]
  code :=
(.seq
(.plain (
⟨(some 4), .mv (.const (.slice none 0 0)), none⟩ ::
[]))
(.seq
(.seq
(.plain (
⟨(some 6), .mv (.tmp 0), none⟩ ::
⟨(some 7), .len (.tmp 6), none⟩ ::
⟨(some 8), .bin .eql (.tmp 7) (.const (.int .i64 1)), none⟩ ::
[]))
(.cond (.tmp 8)
(.seq
(.plain (
⟨(some 4), .mv (.const (.slice none 0 0)), none⟩ ::
[]))
.ret)
.skip))
(.seq
(.plain (
⟨(some 9), .mv (.tmp 0), none⟩ ::
⟨(some 10), .len (.tmp 9), none⟩ ::
⟨(some 11), .callF 80 [(.tmp 10)], none⟩ ::
⟨(some 5), .mv (.tmp 11), none⟩ ::
[]))
(.seq
(.seq
(.plain (
⟨(some 12), .mv (.tmp 1), none⟩ ::
⟨(some 13), .mv (.tmp 5), none⟩ ::
⟨(some 14), .bin .lss (.tmp 12) (.tmp 13), none⟩ ::
[]))
(.cond (.tmp 14)
(.seq
(.draw (
⟨(some 15), .mv (.tmp 0), none⟩ ::
⟨(some 16), .mv (.tmp 5), none⟩ ::
⟨(some 17), .slc 32 (.tmp 15) none (some (.tmp 16)), none⟩ ::
⟨(some 18), .mv (.tmp 1), none⟩ ::
⟨(some 19), .callF 97 [(.tmp 17), (.tmp 18)], none⟩ ::
⟨(some 20), .mv (.tmp 0), none⟩ ::
⟨(some 21), .mv (.tmp 5), none⟩ ::
⟨(some 22), .slc 32 (.tmp 20) (some (.tmp 21)) none, none⟩ ::
⟨(some 23), .callF 61 [(.tmp 22)], none⟩ ::
⟨(some 24), .bsl 32 [(.tmp 23)], none⟩ ::
⟨(some 25), .app 32 32 (.tmp 19) (.tmp 24), none⟩ ::
⟨(some 4), .mv (.tmp 25), none⟩ ::
[])
(⟨0, [], []⟩ :: ⟨1, [], []⟩ :: ⟨2, [], []⟩ :: ⟨3, [], []⟩ :: ⟨5, [], []⟩ :: ⟨6, [], []⟩ :: ⟨7, [], []⟩ :: ⟨4, [], []⟩ :: ⟨8, [], []⟩ :: ⟨9, [], []⟩ :: ⟨10, [], []⟩ :: ⟨11, [], []⟩ :: []))
.ret)
.skip))
(.seq
(.draw (
⟨(some 26), .mv (.tmp 0), none⟩ ::
⟨(some 27), .mv (.tmp 5), none⟩ ::
⟨(some 28), .slc 32 (.tmp 26) (some (.tmp 27)) none, none⟩ ::
⟨(some 29), .mv (.tmp 1), none⟩ ::
⟨(some 30), .mv (.tmp 5), none⟩ ::
⟨(some 31), .bin .sub (.tmp 29) (.tmp 30), none⟩ ::
⟨(some 32), .callF 97 [(.tmp 28), (.tmp 31)], none⟩ ::
⟨(some 33), .mv (.tmp 0), none⟩ ::
⟨(some 34), .mv (.tmp 5), none⟩ ::
⟨(some 35), .slc 32 (.tmp 33) none (some (.tmp 34)), none⟩ ::
⟨(some 36), .callF 61 [(.tmp 35)], none⟩ ::
⟨(some 37), .bsl 32 [(.tmp 36)], none⟩ ::
⟨(some 38), .app 32 32 (.tmp 32) (.tmp 37), none⟩ ::
⟨(some 4), .mv (.tmp 38), none⟩ ::
[])
(⟨0, [], []⟩ :: ⟨1, [], []⟩ :: ⟨2, [], []⟩ :: ⟨3, [], []⟩ :: ⟨4, [], []⟩ :: ⟨5, [], []⟩ :: ⟨7, [], []⟩ :: ⟨8, [], []⟩ :: ⟨9, [], []⟩ :: ⟨6, [], []⟩ :: ⟨10, [], []⟩ :: ⟨11, [], []⟩ :: ⟨12, [], []⟩ :: ⟨13, [], []⟩ :: []))
.ret)))))
theorem prep97 : prepFunc Tryz.prog 0 97 = some F97 := by kernel_rfl

-- slices.Clone[[]indenture/api.Table,indenture/api.Table]
def F98 : AFunc where
  ntmps := 8
  nparams := 1
  results := [(2, none)]
  code :=
(.seq
(.plain (
⟨(some 2), .mv (.const (.slice none 0 0)), none⟩ ::
[]))
(.seq
(.seq
(.plain (
⟨(some 3), .mv (.tmp 0), none⟩ ::
⟨(some 4), .eqn false (.tmp 3), none⟩ ::
[]))
(.cond (.tmp 4)
(.seq
(.plain (
⟨(some 2), .mv (.const (.slice none 0 0)), none⟩ ::
[]))
.ret)
.skip))
(.seq
(.plain (
⟨(some 5), .bsl 76 [], none⟩ ::
⟨(some 6), .mv (.tmp 0), none⟩ ::
⟨(some 7), .app 76 280 (.tmp 5) (.tmp 6), none⟩ ::
⟨(some 2), .mv (.tmp 7), none⟩ ::
[]))
.ret)))
theorem prep98 : prepFunc Tryz.prog 0 98 = some F98 := by kernel_rfl

-- (*indenture/codec.Writer).Digest
def F99 : AFunc where
  ntmps := 7
  nparams := 2
  results := []
  code :=
(.seq
(.plain (
⟨(some 3), .boxR 30 (.tmp 1), none⟩ ::
[]))
(.plain (
⟨(some 4), .mv (.tmp 0), none⟩ ::
⟨(some 5), .slcR 1 32 (.tmp 3) none none, none⟩ ::
⟨(some 6), .callF 115 [(.tmp 4), (.const (.bool true)), (.tmp 5)], none⟩ ::
[])))
theorem prep99 : prepFunc Tryz.prog 0 99 = some F99 := by kernel_rfl

-- (*indenture/history.proof).up
def F100 : AFunc where
  ntmps := 55
  nparams := 4
  results := [(8, (some (true, 32)))]
  code :=
(.seq
(.plain (
⟨(some 7), .box 30 (.tmp 3), none⟩ ::
⟨(some 8), .alloc 30 (List.replicate 32 (.v (.int .u8 0))), none⟩ ::
[]))
(.seq
(.seq
(.plain (
⟨(some 13), .mv (.tmp 1), none⟩ ::
⟨(some 14), .bin .eql (.tmp 13) (.const (.int .i64 1)), none⟩ ::
[]))
(.cond (.tmp 14)
(.seq
(.plain (
⟨(some 15), .mv (.tmp 0), none⟩ ::
⟨(some 16), .load true 32 (.tmp 7), none⟩ ::
⟨(some 17), .callF 96 [(.tmp 16)], none⟩ ::
⟨(some 18), .callF 81 [(.tmp 15), (.tmp 17)], none⟩ ::
⟨none, .store 32 (.tmp 8) (.tmp 18), none⟩ ::
[]))
.ret)
.skip))
(.seq
(.plain (
⟨(some 19), .mv (.tmp 1), none⟩ ::
⟨(some 20), .callF 80 [(.tmp 19)], none⟩ ::
⟨(some 9), .mv (.tmp 20), none⟩ ::
[]))
(.seq
(.plain (
⟨(some 21), .mv (.tmp 0), none⟩ ::
⟨(some 22), .callF 79 [(.tmp 21)], none⟩ ::
⟨(some 10), .alloc 30 (List.replicate 32 (.v (.int .u8 0))), none⟩ ::
⟨none, .store 32 (.tmp 10) (.tmp 22), none⟩ ::
[]))
(.seq
(.seq
(.plain (
⟨(some 23), .mv (.tmp 0), none⟩ ::
⟨(some 24), .nilc (.tmp 23), none⟩ ::
⟨(some 25), .fa 2 (.tmp 24), none⟩ ::
⟨(some 26), .load false 1 (.tmp 25), none⟩ ::
[]))
(.cond (.tmp 26)
(.seq
(.plain (
⟨(some 27), .bld (List.replicate 32 (.v (.int .u8 0))) [], none⟩ ::
⟨none, .store 32 (.tmp 8) (.tmp 27), none⟩ ::
[]))
.ret)
.skip))
(.seq
(.seq
(.plain (
⟨(some 28), .mv (.tmp 2), none⟩ ::
⟨(some 29), .mv (.tmp 9), none⟩ ::
⟨(some 30), .bin .lss (.tmp 28) (.tmp 29), none⟩ ::
[]))
(.cond (.tmp 30)
(.seq
(.plain (
⟨(some 31), .mv (.tmp 0), none⟩ ::
⟨(some 32), .mv (.tmp 9), none⟩ ::
⟨(some 33), .mv (.tmp 2), none⟩ ::
⟨(some 34), .load true 32 (.tmp 7), none⟩ ::
⟨(some 35), .callF 100 [(.tmp 31), (.tmp 32), (.tmp 33), (.tmp 34)], none⟩ ::
⟨(some 11), .alloc 30 (List.replicate 32 (.v (.int .u8 0))), none⟩ ::
⟨none, .store 32 (.tmp 11) (.tmp 35), none⟩ ::
[]))
(.seq
(.plain (
⟨(some 36), .mv (.tmp 0), none⟩ ::
⟨(some 37), .load true 32 (.tmp 11), none⟩ ::
⟨(some 38), .load true 32 (.tmp 10), none⟩ ::
⟨(some 39), .callF 82 [(.tmp 37), (.tmp 38)], none⟩ ::
⟨(some 40), .callF 81 [(.tmp 36), (.tmp 39)], none⟩ ::
⟨none, .store 32 (.tmp 8) (.tmp 40), none⟩ ::
[]))
.ret))
.skip))
(.seq
(.plain (
⟨(some 41), .mv (.tmp 0), none⟩ ::
⟨(some 42), .mv (.tmp 1), none⟩ ::
⟨(some 43), .mv (.tmp 9), none⟩ ::
⟨(some 44), .bin .sub (.tmp 42) (.tmp 43), none⟩ ::
⟨(some 45), .mv (.tmp 2), none⟩ ::
⟨(some 46), .mv (.tmp 9), none⟩ ::
⟨(some 47), .bin .sub (.tmp 45) (.tmp 46), none⟩ ::
⟨(some 48), .load true 32 (.tmp 7), none⟩ ::
⟨(some 49), .callF 100 [(.tmp 41), (.tmp 44), (.tmp 47), (.tmp 48)], none⟩ ::
⟨(some 12), .alloc 30 (List.replicate 32 (.v (.int .u8 0))), none⟩ ::
⟨none, .store 32 (.tmp 12) (.tmp 49), none⟩ ::
[]))
(.seq
(.plain (
⟨(some 50), .mv (.tmp 0), none⟩ ::
⟨(some 51), .load true 32 (.tmp 10), none⟩ ::
⟨(some 52), .load true 32 (.tmp 12), none⟩ ::
⟨(some 53), .callF 82 [(.tmp 51), (.tmp 52)], none⟩ ::
⟨(some 54), .callF 81 [(.tmp 50), (.tmp 53)], none⟩ ::
⟨none, .store 32 (.tmp 8) (.tmp 54), none⟩ ::
[]))
.ret))))))))
theorem prep100 : prepFunc Tryz.prog 0 100 = some F100 := by kernel_rfl

-- indenture/catalog.Right
def F101 : AFunc where
  ntmps := 34
  nparams := 1
  results := [(2, none)]
  code :=
(.seq
(.plain (
⟨(some 2), .mv (.const (.bool false)), none⟩ ::
[]))
(.seq
(.seq
(.plain (
⟨(some 5), .mv (.tmp 0), none⟩ ::
⟨(some 6), .len (.tmp 5), none⟩ ::
⟨(some 7), .mv (.const (.int .i64 0)), none⟩ ::
[]))
(.block 0
(.loop
(.seq
(.plain (
⟨(some 8), .bin .lss (.tmp 7) (.tmp 6), none⟩ ::
[]))
(.seq
(.cond (.tmp 8)
.skip
(.exit 0))
(.seq
(.block 1
(.seq
(.plain (
⟨(some 9), .mv (.tmp 7), none⟩ ::
⟨(some 10), .iaS 76 (.tmp 5) (.tmp 7), none⟩ ::
⟨(some 11), .load true 76 (.tmp 10), none⟩ ::
⟨(some 4), .alloc 164 ([(.v (.string ⟨#[]⟩))] ++ [(.sl [] .nil)] ++ List.replicate 32 (.v (.int .u8 0)) ++ [(.sl [] .nil), (.sl [] .nil)] ++ [(.v (.int .i64 0)), (.v (.int .i64 0))] ++ [(.sl [] .nil)] ++ List.replicate 32 (.v (.int .u8 0)) ++ [(.sl [] .nil), (.sl [] .nil)] ++ [(.v (.int .i64 0)), (.v (.int .i64 0))] ++ [(.sl [] .nil)]), none⟩ ::
⟨(some 3), .mv (.tmp 9), none⟩ ::
⟨none, .store 76 (.tmp 4) (.tmp 11), none⟩ ::
[]))
(.seq
(.draw (
⟨(some 12), .load true 76 (.tmp 4), none⟩ ::
⟨(some 13), .callF 119 [(.tmp 12)], none⟩ ::
⟨(some 14), .un .not (.tmp 13), none⟩ ::
⟨(some 15), .mv (.tmp 14), none⟩ ::
⟨(some 16), .mv (.tmp 3), (some (15, false))⟩ ::
⟨(some 17), .bin .gtr (.tmp 16) (.const (.int .i64 0)), (some (15, false))⟩ ::
⟨(some 18), .mv (.tmp 17), (some (15, false))⟩ ::
⟨(some 19), .mv (.tmp 0), (some (18, true))⟩ ::
⟨(some 20), .mv (.tmp 3), (some (18, true))⟩ ::
⟨(some 21), .bin .sub (.tmp 20) (.const (.int .i64 1)), (some (18, true))⟩ ::
⟨(some 22), .iaS 76 (.tmp 19) (.tmp 21), (some (18, true))⟩ ::
⟨(some 23), .fa 0 (.tmp 22), (some (18, true))⟩ ::
⟨(some 24), .load false 1 (.tmp 23), (some (18, true))⟩ ::
⟨(some 25), .fa 0 (.tmp 4), (some (18, true))⟩ ::
⟨(some 26), .load false 1 (.tmp 25), (some (18, true))⟩ ::
⟨(some 27), .bin .geq (.tmp 24) (.tmp 26), (some (18, true))⟩ ::
⟨(some 28), .pick (.tmp 18) (.tmp 27) (.const (.bool false)), (some (15, false))⟩ ::
⟨(some 29), .pick (.tmp 15) (.const (.bool true)) (.tmp 28), none⟩ ::
[])
(⟨0, [], []⟩ :: ⟨1, [], []⟩ :: ⟨2, [], []⟩ :: ⟨3, [], []⟩ :: ⟨4, [], []⟩ :: ⟨5, [], []⟩ :: ⟨6, [], []⟩ :: ⟨7, [], []⟩ :: ⟨8, [], []⟩ :: ⟨9, [], []⟩ :: ⟨10, [], []⟩ :: ⟨11, [], []⟩ :: ⟨12, [], []⟩ :: ⟨13, [], []⟩ :: ⟨14, [], []⟩ :: ⟨15, [], []⟩ :: ⟨16, [], []⟩ :: ⟨17, [], []⟩ :: []))
(.cond (.tmp 29)
(.seq
(.plain (
⟨(some 2), .mv (.const (.bool false)), none⟩ ::
[]))
.ret)
.skip))))
(.plain (
⟨(some 30), .bin .add (.tmp 7) (.const (.int .i64 1)), none⟩ ::
⟨(some 7), .mv (.tmp 30), none⟩ ::
[]))))))))
(.seq
(.plain (
⟨(some 31), .mv (.tmp 0), none⟩ ::
⟨(some 32), .len (.tmp 31), none⟩ ::
⟨(some 33), .bin .leq (.tmp 32) (.const (.int .i64 8)), none⟩ ::
⟨(some 2), .mv (.tmp 33), none⟩ ::
[]))
.ret)))
theorem prep101 : prepFunc Tryz.prog 0 101 = some F101 := by kernel_rfl

-- (*indenture/codec.Writer).Byte
def F102 : AFunc where
  ntmps := 8
  nparams := 2
  results := []
  code :=
(.plain (
⟨(some 4), .mv (.tmp 0), none⟩ ::
⟨(some 5), .mv (.tmp 1), none⟩ ::
⟨(some 6), .bsl 1 [(.tmp 5)], none⟩ ::
⟨(some 7), .callF 115 [(.tmp 4), (.const (.bool true)), (.tmp 6)], none⟩ ::
[]))
theorem prep102 : prepFunc Tryz.prog 0 102 = some F102 := by kernel_rfl

-- (*indenture/codec.Writer).Text
def F103 : AFunc where
  ntmps := 17
  nparams := 2
  results := []
  code :=
(.seq
(.seq
(.plain (
⟨(some 4), .mv (.tmp 1), none⟩ ::
⟨(some 5), .len (.tmp 4), none⟩ ::
⟨(some 6), .bin .gtr (.tmp 5) (.const (.int .i64 1048576)), none⟩ ::
[]))
(.cond (.tmp 6)
(.seq
(.plain (
⟨(some 7), .mv (.tmp 0), none⟩ ::
⟨(some 8), .nilc (.tmp 7), none⟩ ::
⟨(some 9), .fa 1 (.tmp 8), none⟩ ::
⟨none, .store 1 (.tmp 9) (.const (.int .i64 10)), none⟩ ::
[]))
.ret)
.skip))
(.seq
(.plain (
⟨(some 10), .mv (.tmp 0), none⟩ ::
⟨(some 11), .mv (.tmp 1), none⟩ ::
⟨(some 12), .len (.tmp 11), none⟩ ::
⟨(some 13), .callF 86 [(.tmp 10), (.tmp 12)], none⟩ ::
[]))
(.plain (
⟨(some 14), .mv (.tmp 0), none⟩ ::
⟨(some 15), .mv (.tmp 1), none⟩ ::
⟨(some 16), .callF 115 [(.tmp 14), (.const (.bool true)), (.tmp 15)], none⟩ ::
[]))))
theorem prep103 : prepFunc Tryz.prog 0 103 = some F103 := by kernel_rfl

-- indenture/catalog.kid
def F104 : AFunc where
  ntmps := 36
  nparams := 2
  results := []
  code :=
(.seq
(.plain (
⟨(some 3), .box 162 (.tmp 1), none⟩ ::
[]))
(.seq
(.plain (
⟨(some 6), .mv (.tmp 0), none⟩ ::
⟨(some 7), .fa 0 (.tmp 3), none⟩ ::
⟨(some 8), .load true 32 (.tmp 7), none⟩ ::
⟨(some 9), .callF 99 [(.tmp 6), (.tmp 8)], none⟩ ::
[]))
(.seq
(.plain (
⟨(some 10), .mv (.tmp 0), none⟩ ::
⟨(some 11), .fa 34 (.tmp 3), none⟩ ::
⟨(some 12), .load false 1 (.tmp 11), none⟩ ::
⟨(some 13), .callF 86 [(.tmp 10), (.tmp 12)], none⟩ ::
[]))
(.seq
(.plain (
⟨(some 14), .mv (.tmp 0), none⟩ ::
⟨(some 15), .fa 35 (.tmp 3), none⟩ ::
⟨(some 16), .load false 1 (.tmp 15), none⟩ ::
⟨(some 17), .callF 86 [(.tmp 14), (.tmp 16)], none⟩ ::
[]))
(.seq
(.plain (
⟨(some 18), .fa 32 (.tmp 3), none⟩ ::
⟨(some 19), .fa 0 (.tmp 18), none⟩ ::
⟨(some 20), .load false 1 (.tmp 19), none⟩ ::
⟨(some 21), .fa 32 (.tmp 3), none⟩ ::
⟨(some 22), .fa 1 (.tmp 21), none⟩ ::
⟨(some 23), .load false 1 (.tmp 22), none⟩ ::
⟨(some 24), .fa 36 (.tmp 3), none⟩ ::
⟨(some 25), .load false 1 (.tmp 24), none⟩ ::
⟨(some 26), .bsl 1 [(.tmp 20), (.tmp 23), (.tmp 25)], none⟩ ::
⟨(some 27), .len (.tmp 26), none⟩ ::
⟨(some 28), .mv (.const (.int .i64 0)), none⟩ ::
[]))
(.block 0
(.loop
(.seq
(.plain (
⟨(some 29), .bin .lss (.tmp 28) (.tmp 27), none⟩ ::
[]))
(.seq
(.cond (.tmp 29)
.skip
(.exit 0))
(.seq
(.block 1
(.seq
(.plain (
⟨(some 30), .iaS 1 (.tmp 26) (.tmp 28), none⟩ ::
⟨(some 31), .load false 1 (.tmp 30), none⟩ ::
⟨(some 5), .mv (.tmp 31), none⟩ ::
[]))
(.plain (
⟨(some 32), .mv (.tmp 0), none⟩ ::
⟨(some 33), .mv (.tmp 5), none⟩ ::
⟨(some 34), .callF 116 [(.tmp 32), (.tmp 33)], none⟩ ::
[]))))
(.plain (
⟨(some 35), .bin .add (.tmp 28) (.const (.int .i64 1)), none⟩ ::
⟨(some 28), .mv (.tmp 35), none⟩ ::
[]))))))))))))
theorem prep104 : prepFunc Tryz.prog 0 104 = some F104 := by kernel_rfl

end Go.Proofs.YtnnjjmiahcnbaaaGreat
