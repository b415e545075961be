/- Merged by program from smaller texts; what is proved stands in the last text of the claim. -/
import Derived.Test.YtnnjjmiahcnbaaaGreatProg
import Derived.Test.YtnnjjmiahcnbaaaGreatMB
import Derived.KernelRfl
set_option linter.all false
set_option maxRecDepth 100000
namespace Go.Proofs.YtnnjjmiahcnbaaaGreat
open Go Go.Av
theorem hm : Tryz.prog.follows .mixedOrders = true := by kernel_rfl
def F4 : AFunc where
  ntmps := 134
  nparams := 9
  results := [(18, none)]
  code :=
(.seq
(.plain (
⟨(some 9), .box 30 (.tmp 0), none⟩ ::
⟨(some 10), .box 30 (.tmp 1), none⟩ ::
⟨(some 11), .box 32 (.tmp 2), none⟩ ::
⟨(some 12), .box 32 (.tmp 3), none⟩ ::
⟨(some 14), .box 37 (.tmp 5), none⟩ ::
⟨(some 15), .box 37 (.tmp 6), none⟩ ::
⟨(some 18), .mv (.const (.bool false)), none⟩ ::
[]))
(.seq
(.seq
(.plain (
⟨(some 28), .callF 5 [], none⟩ ::
⟨(some 29), .un .not (.tmp 28), none⟩ ::
[]))
(.cond (.tmp 29)
(.seq
(.plain (
⟨(some 18), .mv (.const (.bool false)), none⟩ ::
[]))
.ret)
.skip))
(.seq
(.seq
(.plain (
⟨(some 30), .fa 162 (.tmp 14), none⟩ ::
⟨(some 31), .load false 1 (.tmp 30), none⟩ ::
⟨(some 32), .len (.tmp 31), none⟩ ::
⟨(some 33), .bin .gtr (.tmp 32) (.const (.int .i64 100)), none⟩ ::
⟨(some 34), .mv (.tmp 33), none⟩ ::
⟨(some 35), .fa 162 (.tmp 15), (some (34, false))⟩ ::
⟨(some 36), .load false 1 (.tmp 35), (some (34, false))⟩ ::
⟨(some 37), .len (.tmp 36), (some (34, false))⟩ ::
⟨(some 38), .bin .gtr (.tmp 37) (.const (.int .i64 100)), (some (34, false))⟩ ::
⟨(some 39), .pick (.tmp 34) (.const (.bool true)) (.tmp 38), none⟩ ::
⟨(some 40), .mv (.tmp 39), none⟩ ::
⟨(some 41), .fa 163 (.tmp 14), (some (40, false))⟩ ::
⟨(some 42), .load false 1 (.tmp 41), (some (40, false))⟩ ::
⟨(some 43), .len (.tmp 42), (some (40, false))⟩ ::
⟨(some 44), .bin .gtr (.tmp 43) (.const (.int .i64 1000)), (some (40, false))⟩ ::
⟨(some 45), .pick (.tmp 40) (.const (.bool true)) (.tmp 44), none⟩ ::
⟨(some 46), .mv (.tmp 45), none⟩ ::
⟨(some 47), .fa 163 (.tmp 15), (some (46, false))⟩ ::
⟨(some 48), .load false 1 (.tmp 47), (some (46, false))⟩ ::
⟨(some 49), .len (.tmp 48), (some (46, false))⟩ ::
⟨(some 50), .bin .gtr (.tmp 49) (.const (.int .i64 1000)), (some (46, false))⟩ ::
⟨(some 51), .pick (.tmp 46) (.const (.bool true)) (.tmp 50), none⟩ ::
⟨(some 52), .mv (.tmp 51), none⟩ ::
⟨(some 53), .mv (.tmp 4), (some (52, false))⟩ ::
⟨(some 54), .len (.tmp 53), (some (52, false))⟩ ::
⟨(some 55), .bin .gtr (.tmp 54) (.const (.int .i64 100)), (some (52, false))⟩ ::
⟨(some 56), .pick (.tmp 52) (.const (.bool true)) (.tmp 55), none⟩ ::
⟨(some 57), .mv (.tmp 56), none⟩ ::
⟨(some 58), .mv (.tmp 7), (some (57, false))⟩ ::
⟨(some 59), .len (.tmp 58), (some (57, false))⟩ ::
⟨(some 60), .bin .gtr (.tmp 59) (.const (.int .i64 2000)), (some (57, false))⟩ ::
⟨(some 61), .pick (.tmp 57) (.const (.bool true)) (.tmp 60), none⟩ ::
⟨(some 62), .mv (.tmp 61), none⟩ ::
⟨(some 63), .mv (.tmp 8), (some (62, false))⟩ ::
⟨(some 64), .len (.tmp 63), (some (62, false))⟩ ::
⟨(some 65), .bin .gtr (.tmp 64) (.const (.int .i64 2000)), (some (62, false))⟩ ::
⟨(some 66), .pick (.tmp 62) (.const (.bool true)) (.tmp 65), none⟩ ::
[]))
(.cond (.tmp 66)
(.seq
(.plain (
⟨(some 18), .mv (.const (.bool true)), none⟩ ::
[]))
.ret)
.skip))
(.seq
(.plain (
⟨(some 68), .load true 32 (.tmp 9), none⟩ ::
⟨(some 69), .load true 65 (.tmp 11), none⟩ ::
⟨(some 70), .load true 32 (.tmp 10), none⟩ ::
⟨(some 71), .load true 65 (.tmp 12), none⟩ ::
⟨(some 72), .mv (.tmp 4), none⟩ ::
⟨(some 73), .load true 166 (.tmp 14), none⟩ ::
⟨(some 74), .load true 166 (.tmp 15), none⟩ ::
⟨(some 75), .mv (.tmp 7), none⟩ ::
⟨(some 76), .mv (.tmp 8), none⟩ ::
⟨(some 77), .callF 9 [(.tmp 68), (.tmp 69), (.tmp 70), (.tmp 71), (.tmp 72), (.tmp 73), (.tmp 74), (.tmp 75), (.tmp 76)], none⟩ ::
⟨(some 67), .mv (.tmp 77), none⟩ ::
⟨(some 78), .ext (.tmp 67) 0, none⟩ ::
⟨(some 79), .ext (.tmp 67) 1, none⟩ ::
⟨(some 80), .ext (.tmp 67) 2, none⟩ ::
⟨(some 19), .mv (.tmp 78), none⟩ ::
⟨(some 20), .mv (.tmp 79), none⟩ ::
⟨(some 21), .mv (.tmp 80), none⟩ ::
[]))
(.seq
(.seq
(.plain (
⟨(some 81), .mv (.tmp 21), none⟩ ::
⟨(some 82), .mv (.tmp 81), none⟩ ::
⟨(some 83), .mv (.tmp 19), (some (82, true))⟩ ::
⟨(some 84), .mv (.tmp 20), (some (82, true))⟩ ::
⟨(some 85), .callF 8 [(.tmp 83), (.tmp 84)], (some (82, true))⟩ ::
⟨(some 86), .un .not (.tmp 85), (some (82, true))⟩ ::
⟨(some 87), .pick (.tmp 82) (.tmp 86) (.const (.bool false)), none⟩ ::
[]))
(.cond (.tmp 87)
(.seq
(.plain (
⟨(some 18), .mv (.const (.bool false)), none⟩ ::
[]))
.ret)
.skip))
(.seq
(.plain (
⟨(some 89), .load true 32 (.tmp 9), none⟩ ::
⟨(some 90), .load true 166 (.tmp 14), none⟩ ::
⟨(some 91), .mv (.tmp 7), none⟩ ::
⟨(some 92), .callF 10 [(.tmp 89), (.tmp 90), (.tmp 91)], none⟩ ::
⟨(some 88), .mv (.tmp 92), none⟩ ::
⟨(some 93), .ext (.tmp 88) 0, none⟩ ::
⟨(some 94), .ext (.tmp 88) 1, none⟩ ::
⟨(some 95), .ext (.tmp 88) 2, none⟩ ::
⟨(some 22), .alloc 35 (List.replicate 32 (.v (.int .u8 0)) ++ [(.v (.int .i64 0))] ++ List.replicate 64 (.v (.int .u8 0))), none⟩ ::
⟨none, .store 97 (.tmp 22) (.tmp 93), none⟩ ::
⟨(some 23), .mv (.tmp 94), none⟩ ::
⟨(some 24), .mv (.tmp 95), none⟩ ::
[]))
(.seq
(.plain (
⟨(some 97), .load true 32 (.tmp 10), none⟩ ::
⟨(some 98), .load true 166 (.tmp 15), none⟩ ::
⟨(some 99), .mv (.tmp 8), none⟩ ::
⟨(some 100), .callF 10 [(.tmp 97), (.tmp 98), (.tmp 99)], none⟩ ::
⟨(some 96), .mv (.tmp 100), none⟩ ::
⟨(some 101), .ext (.tmp 96) 0, none⟩ ::
⟨(some 102), .ext (.tmp 96) 1, none⟩ ::
⟨(some 103), .ext (.tmp 96) 2, none⟩ ::
⟨(some 25), .alloc 35 (List.replicate 32 (.v (.int .u8 0)) ++ [(.v (.int .i64 0))] ++ List.replicate 64 (.v (.int .u8 0))), none⟩ ::
⟨none, .store 97 (.tmp 25) (.tmp 101), none⟩ ::
⟨(some 26), .mv (.tmp 102), none⟩ ::
⟨(some 27), .mv (.tmp 103), none⟩ ::
[]))
(.seq
(.seq
(.plain (
⟨(some 104), .mv (.tmp 24), none⟩ ::
⟨(some 105), .bin .neq (.tmp 104) (.const (.int .i64 0)), none⟩ ::
⟨(some 106), .mv (.tmp 105), none⟩ ::
⟨(some 107), .mv (.tmp 27), (some (106, false))⟩ ::
⟨(some 108), .bin .neq (.tmp 107) (.const (.int .i64 0)), (some (106, false))⟩ ::
⟨(some 109), .pick (.tmp 106) (.const (.bool true)) (.tmp 108), none⟩ ::
⟨(some 110), .mv (.tmp 109), none⟩ ::
⟨(some 111), .fa 32 (.tmp 22), (some (110, false))⟩ ::
⟨(some 112), .load false 1 (.tmp 111), (some (110, false))⟩ ::
⟨(some 113), .fa 32 (.tmp 25), (some (110, false))⟩ ::
⟨(some 114), .load false 1 (.tmp 113), (some (110, false))⟩ ::
⟨(some 115), .bin .neq (.tmp 112) (.tmp 114), (some (110, false))⟩ ::
⟨(some 116), .pick (.tmp 110) (.const (.bool true)) (.tmp 115), none⟩ ::
⟨(some 117), .mv (.tmp 116), none⟩ ::
⟨(some 118), .load true 32 (.tmp 9), (some (117, false))⟩ ::
⟨(some 119), .load true 65 (.tmp 11), (some (117, false))⟩ ::
⟨(some 120), .load true 32 (.tmp 10), (some (117, false))⟩ ::
⟨(some 121), .load true 65 (.tmp 12), (some (117, false))⟩ ::
⟨(some 122), .mv (.tmp 4), (some (117, false))⟩ ::
⟨(some 123), .callF 11 [(.tmp 118), (.tmp 119), (.tmp 120), (.tmp 121), (.tmp 122)], (some (117, false))⟩ ::
⟨(some 124), .un .not (.tmp 123), (some (117, false))⟩ ::
⟨(some 125), .pick (.tmp 117) (.const (.bool true)) (.tmp 124), none⟩ ::
[]))
(.cond (.tmp 125)
(.seq
(.plain (
⟨(some 18), .mv (.const (.bool true)), none⟩ ::
[]))
.ret)
.skip))
(.seq
(.plain (
⟨(some 126), .mv (.tmp 7), none⟩ ::
⟨(some 127), .b2s (.tmp 126), none⟩ ::
⟨(some 128), .mv (.tmp 8), none⟩ ::
⟨(some 129), .b2s (.tmp 128), none⟩ ::
⟨(some 130), .bin .eql (.tmp 127) (.tmp 129), none⟩ ::
⟨(some 131), .mv (.tmp 130), none⟩ ::
⟨(some 132), .mv (.tmp 21), (some (131, false))⟩ ::
⟨(some 133), .pick (.tmp 131) (.const (.bool true)) (.tmp 132), none⟩ ::
⟨(some 18), .mv (.tmp 133), none⟩ ::
[]))
.ret)))))))))
theorem prep4 : prepFunc Tryz.prog 0 4 = some F4 := by kernel_rfl
def F5 : AFunc where
  ntmps := 29
  nparams := 0
  results := [(0, none)]
  code :=
(.seq
(.plain (
⟨(some 0), .mv (.const (.bool false)), none⟩ ::
[]))
(.seq
(.plain (
⟨(some 6), .bsl 1 [(.const (.int .u8 1))], none⟩ ::
⟨(some 7), .bsl 1 [(.const (.int .u8 2))], none⟩ ::
⟨(some 8), .bsl 1 [(.tmp 6), (.tmp 7)], none⟩ ::
⟨(some 9), .bsl 1 [(.const (.int .u8 1))], none⟩ ::
⟨(some 10), .bsl 1 [(.const (.int .u8 3))], none⟩ ::
⟨(some 11), .bsl 1 [(.tmp 9), (.tmp 10)], none⟩ ::
⟨(some 12), .callF 6 [(.tmp 8), (.tmp 11)], none⟩ ::
⟨(some 5), .mv (.tmp 12), none⟩ ::
⟨(some 13), .ext (.tmp 5) 0, none⟩ ::
⟨(some 14), .ext (.tmp 5) 1, none⟩ ::
⟨(some 15), .ext (.tmp 5) 2, none⟩ ::
⟨(some 1), .mv (.tmp 13), none⟩ ::
⟨(some 2), .mv (.tmp 14), none⟩ ::
⟨(some 3), .mv (.tmp 15), none⟩ ::
[]))
(.seq
(.plain (
⟨(some 16), .callF 12 [(.const (.int .u8 1)), (.const (.slice none 0 0))], none⟩ ::
⟨(some 4), .mv (.tmp 16), none⟩ ::
[]))
(.seq
(.plain (
⟨(some 17), .mv (.tmp 3), none⟩ ::
⟨(some 18), .un .not (.tmp 17), none⟩ ::
⟨(some 19), .mv (.tmp 18), none⟩ ::
⟨(some 20), .callF 13 [(.const (.pointer none))], (some (19, true))⟩ ::
⟨(some 21), .len (.tmp 20), (some (19, true))⟩ ::
⟨(some 22), .bin .eql (.tmp 21) (.const (.int .i64 0)), (some (19, true))⟩ ::
⟨(some 23), .pick (.tmp 19) (.tmp 22) (.const (.bool false)), none⟩ ::
⟨(some 24), .mv (.tmp 23), none⟩ ::
⟨(some 25), .mv (.tmp 4), (some (24, true))⟩ ::
⟨(some 26), .b2s (.tmp 25), (some (24, true))⟩ ::
⟨(some 27), .bin .eql (.tmp 26) (.const (.string ⟨#[1]⟩)), (some (24, true))⟩ ::
⟨(some 28), .pick (.tmp 24) (.tmp 27) (.const (.bool false)), none⟩ ::
⟨(some 0), .mv (.tmp 28), none⟩ ::
[]))
.ret))))
theorem prep5 : prepFunc Tryz.prog 0 5 = some F5 := by kernel_rfl
def F6 : AFunc where
  ntmps := 65
  nparams := 2
  results := [(4, none), (5, none), (6, none)]
  code :=
(.seq
(.plain (
⟨(some 4), .mv (.const (.slice none 0 0)), none⟩ ::
⟨(some 5), .mv (.const (.slice none 0 0)), none⟩ ::
⟨(some 6), .mv (.const (.bool false)), none⟩ ::
[]))
(.seq
(.plain (
⟨(some 15), .mkM, none⟩ ::
⟨(some 7), .mv (.tmp 15), none⟩ ::
[]))
(.seq
(.seq
(.plain (
⟨(some 16), .mv (.tmp 1), none⟩ ::
⟨(some 17), .len (.tmp 16), none⟩ ::
⟨(some 18), .mv (.const (.int .i64 0)), none⟩ ::
[]))
(.block 0
(.loop
(.seq
(.plain (
⟨(some 19), .bin .lss (.tmp 18) (.tmp 17), none⟩ ::
[]))
(.seq
(.cond (.tmp 19)
.skip
(.exit 0))
(.seq
(.block 1
(.seq
(.plain (
⟨(some 20), .mv (.tmp 18), none⟩ ::
⟨(some 21), .iaS 1 (.tmp 16) (.tmp 18), none⟩ ::
⟨(some 22), .load false 1 (.tmp 21), none⟩ ::
⟨(some 8), .mv (.tmp 20), none⟩ ::
⟨(some 9), .mv (.tmp 22), none⟩ ::
[]))
(.seq
(.plain (
⟨(some 23), .mv (.tmp 9), none⟩ ::
⟨(some 24), .callF 14 [(.tmp 23)], none⟩ ::
⟨(some 10), .alloc 30 (List.replicate 32 (.v (.int .u8 0))), none⟩ ::
⟨none, .store 32 (.tmp 10) (.tmp 24), none⟩ ::
[]))
(.plain (
⟨(some 25), .mv (.tmp 7), none⟩ ::
⟨(some 26), .load true 32 (.tmp 10), none⟩ ::
⟨(some 28), .mv (.tmp 8), none⟩ ::
⟨(some 29), .bsl 1 [(.tmp 28)], none⟩ ::
⟨(some 30), .ment [(32, .int .u8)] (.sl [] .nil) (.tmp 25) (.tmp 26), none⟩ ::
⟨(some 27), .ext (.tmp 30) 0, none⟩ ::
⟨(some 31), .app 1 8 (.tmp 27) (.tmp 29), none⟩ ::
⟨(some 32), .ext (.tmp 30) 1, none⟩ ::
⟨none, .mst (.tmp 25) (.tmp 32) (.tmp 31), none⟩ ::
[])))))
(.plain (
⟨(some 33), .bin .add (.tmp 18) (.const (.int .i64 1)), none⟩ ::
⟨(some 18), .mv (.tmp 33), none⟩ ::
[]))))))))
(.seq
(.seq
(.plain (
⟨(some 34), .mv (.tmp 0), none⟩ ::
⟨(some 35), .len (.tmp 34), none⟩ ::
⟨(some 36), .mv (.const (.int .i64 0)), none⟩ ::
[]))
(.block 2
(.loop
(.seq
(.plain (
⟨(some 37), .bin .lss (.tmp 36) (.tmp 35), none⟩ ::
[]))
(.seq
(.cond (.tmp 37)
.skip
(.exit 2))
(.seq
(.block 3
(.seq
(.plain (
⟨(some 38), .iaS 1 (.tmp 34) (.tmp 36), none⟩ ::
⟨(some 39), .load false 1 (.tmp 38), none⟩ ::
⟨(some 12), .mv (.tmp 39), none⟩ ::
[]))
(.seq
(.plain (
⟨(some 40), .mv (.tmp 7), none⟩ ::
⟨(some 41), .mv (.tmp 12), none⟩ ::
⟨(some 42), .callF 14 [(.tmp 41)], none⟩ ::
⟨(some 43), .lkp false [(32, .int .u8)] (.sl [] .nil) (.tmp 40) (.tmp 42), none⟩ ::
⟨(some 44), .len (.tmp 43), none⟩ ::
⟨(some 45), .mv (.const (.int .i64 0)), none⟩ ::
[]))
(.block 4
(.loop
(.seq
(.plain (
⟨(some 46), .bin .lss (.tmp 45) (.tmp 44), none⟩ ::
[]))
(.seq
(.cond (.tmp 46)
.skip
(.exit 4))
(.seq
(.block 5
(.seq
(.plain (
⟨(some 47), .iaS 1 (.tmp 43) (.tmp 45), none⟩ ::
⟨(some 48), .load false 1 (.tmp 47), none⟩ ::
⟨(some 14), .mv (.tmp 48), none⟩ ::
[]))
(.seq
(.plain (
⟨(some 49), .mv (.tmp 12), none⟩ ::
⟨(some 50), .mv (.tmp 1), none⟩ ::
⟨(some 51), .mv (.tmp 14), none⟩ ::
⟨(some 52), .iaS 1 (.tmp 50) (.tmp 51), none⟩ ::
⟨(some 53), .load false 1 (.tmp 52), none⟩ ::
⟨(some 54), .callF 15 [(.tmp 49), (.tmp 53)], none⟩ ::
⟨(some 55), .un .not (.tmp 54), none⟩ ::
[]))
(.cond (.tmp 55)
(.seq
(.draw (
⟨(some 56), .mv (.tmp 12), none⟩ ::
⟨(some 57), .callF 16 [(.tmp 56)], none⟩ ::
⟨(some 58), .mv (.tmp 1), none⟩ ::
⟨(some 59), .mv (.tmp 14), none⟩ ::
⟨(some 60), .iaS 1 (.tmp 58) (.tmp 59), none⟩ ::
⟨(some 61), .load false 1 (.tmp 60), none⟩ ::
⟨(some 62), .callF 16 [(.tmp 61)], none⟩ ::
⟨(some 4), .mv (.tmp 57), none⟩ ::
⟨(some 5), .mv (.tmp 62), none⟩ ::
⟨(some 6), .mv (.const (.bool true)), none⟩ ::
[])
(⟨0, [], []⟩ :: ⟨2, [], []⟩ :: ⟨3, [], []⟩ :: ⟨4, [], []⟩ :: ⟨5, [], []⟩ :: ⟨1, [], [5]⟩ :: ⟨6, [], []⟩ :: ⟨7, [], []⟩ :: ⟨8, [], []⟩ :: ⟨9, [], []⟩ :: []))
.ret)
.skip))))
(.plain (
⟨(some 63), .bin .add (.tmp 45) (.const (.int .i64 1)), none⟩ ::
⟨(some 45), .mv (.tmp 63), none⟩ ::
[]))))))))))
(.plain (
⟨(some 64), .bin .add (.tmp 36) (.const (.int .i64 1)), none⟩ ::
⟨(some 36), .mv (.tmp 64), none⟩ ::
[]))))))))
(.seq
(.plain (
⟨(some 4), .mv (.const (.slice none 0 0)), none⟩ ::
⟨(some 5), .mv (.const (.slice none 0 0)), none⟩ ::
⟨(some 6), .mv (.const (.bool false)), none⟩ ::
[]))
.ret)))))
theorem prep6 : prepFunc Tryz.prog 0 6 = some F6 := by kernel_rfl
def F8 : AFunc where
  ntmps := 17
  nparams := 2
  results := [(4, none)]
  code :=
(.seq
(.plain (
⟨(some 4), .mv (.const (.bool false)), none⟩ ::
[]))
(.seq
(.plain (
⟨(some 5), .mv (.tmp 0), none⟩ ::
⟨(some 6), .b2s (.tmp 5), none⟩ ::
⟨(some 7), .mv (.tmp 1), none⟩ ::
⟨(some 8), .b2s (.tmp 7), none⟩ ::
⟨(some 9), .bin .neq (.tmp 6) (.tmp 8), none⟩ ::
⟨(some 10), .mv (.tmp 9), none⟩ ::
⟨(some 11), .mv (.tmp 0), (some (10, true))⟩ ::
⟨(some 12), .callF 14 [(.tmp 11)], (some (10, true))⟩ ::
⟨(some 13), .mv (.tmp 1), (some (10, true))⟩ ::
⟨(some 14), .callF 14 [(.tmp 13)], (some (10, true))⟩ ::
⟨(some 15), .eqv false [(32, .int .u8)] (.tmp 12) (.tmp 14), (some (10, true))⟩ ::
⟨(some 16), .pick (.tmp 10) (.tmp 15) (.const (.bool false)), none⟩ ::
⟨(some 4), .mv (.tmp 16), none⟩ ::
[]))
.ret))
theorem prep8 : prepFunc Tryz.prog 0 8 = some F8 := by kernel_rfl
def F9 : AFunc where
  ntmps := 51
  nparams := 9
  results := [(18, none), (19, none), (20, none)]
  code :=
(.seq
(.plain (
⟨(some 9), .box 30 (.tmp 0), none⟩ ::
⟨(some 10), .box 32 (.tmp 1), none⟩ ::
⟨(some 11), .box 30 (.tmp 2), none⟩ ::
⟨(some 12), .box 32 (.tmp 3), none⟩ ::
⟨(some 14), .box 37 (.tmp 5), none⟩ ::
⟨(some 15), .box 37 (.tmp 6), none⟩ ::
⟨(some 18), .mv (.const (.slice none 0 0)), none⟩ ::
⟨(some 19), .mv (.const (.slice none 0 0)), none⟩ ::
⟨(some 20), .mv (.const (.bool false)), none⟩ ::
[]))
(.seq
(.draw (
⟨(some 22), .load true 166 (.tmp 14), none⟩ ::
⟨(some 23), .callF 19 [(.tmp 22)], none⟩ ::
⟨(some 24), .load true 166 (.tmp 15), none⟩ ::
⟨(some 25), .callF 19 [(.tmp 24)], none⟩ ::
⟨(some 26), .load true 65 (.tmp 10), none⟩ ::
⟨(some 27), .callF 20 [(.tmp 26)], none⟩ ::
⟨(some 28), .load true 65 (.tmp 12), none⟩ ::
⟨(some 29), .callF 20 [(.tmp 28)], none⟩ ::
⟨(some 30), .bsl 1 [(.tmp 27), (.tmp 29)], none⟩ ::
⟨(some 31), .fa 1 (.tmp 10), none⟩ ::
⟨(some 32), .load true 32 (.tmp 31), none⟩ ::
⟨(some 33), .fa 0 (.tmp 10), none⟩ ::
⟨(some 34), .load false 1 (.tmp 33), none⟩ ::
⟨(some 35), .fa 0 (.tmp 12), none⟩ ::
⟨(some 36), .load false 1 (.tmp 35), none⟩ ::
⟨(some 37), .mv (.tmp 4), none⟩ ::
⟨(some 38), .callF 21 [(.tmp 32), (.tmp 34), (.tmp 36), (.tmp 37)], none⟩ ::
⟨(some 39), .mv (.tmp 7), none⟩ ::
⟨(some 40), .callF 22 [(.tmp 39)], none⟩ ::
⟨(some 41), .mv (.tmp 8), none⟩ ::
⟨(some 42), .callF 22 [(.tmp 41)], none⟩ ::
⟨(some 43), .bsl 1 [(.tmp 23), (.tmp 25), (.tmp 30), (.tmp 38), (.tmp 40), (.tmp 42)], none⟩ ::
⟨(some 44), .callF 18 [(.tmp 43)], none⟩ ::
⟨(some 21), .mv (.tmp 44), none⟩ ::
[])
(⟨0, [], []⟩ :: ⟨2, [], []⟩ :: ⟨4, [], []⟩ :: ⟨6, [], []⟩ :: ⟨9, [], []⟩ :: ⟨10, [], []⟩ :: ⟨11, [], []⟩ :: ⟨12, [], []⟩ :: ⟨13, [], []⟩ :: ⟨14, [], []⟩ :: ⟨15, [], []⟩ :: ⟨17, [], []⟩ :: ⟨19, [], []⟩ :: ⟨1, [], [2, 4, 6, 10, 12, 14]⟩ :: ⟨3, [], [4, 6, 10, 12, 14]⟩ :: ⟨5, [], [6, 10, 12, 14]⟩ :: ⟨7, [], [10, 12, 14]⟩ :: ⟨16, [8], []⟩ :: ⟨18, [8], []⟩ :: ⟨20, [8], []⟩ :: ⟨8, [], []⟩ :: ⟨21, [], []⟩ :: ⟨22, [], []⟩ :: ⟨23, [], []⟩ :: []))
(.seq
(.plain (
⟨(some 45), .mv (.tmp 21), none⟩ ::
⟨(some 46), .mv (.tmp 21), none⟩ ::
⟨(some 47), .callF 6 [(.tmp 45), (.tmp 46)], none⟩ ::
⟨(some 48), .ext (.tmp 47) 0, none⟩ ::
⟨(some 49), .ext (.tmp 47) 1, none⟩ ::
⟨(some 50), .ext (.tmp 47) 2, none⟩ ::
⟨(some 18), .mv (.tmp 48), none⟩ ::
⟨(some 19), .mv (.tmp 49), none⟩ ::
⟨(some 20), .mv (.tmp 50), none⟩ ::
[]))
.ret)))
theorem prep9 : prepFunc Tryz.prog 0 9 = some F9 := by kernel_rfl
def F10 : AFunc where
  ntmps := 39
  nparams := 3
  results := [(6, (some (true, 97))), (7, none), (8, none)]
  code :=
(.seq
(.plain (
⟨(some 3), .box 30 (.tmp 0), none⟩ ::
⟨(some 4), .box 37 (.tmp 1), none⟩ ::
⟨(some 6), .alloc 35 (List.replicate 32 (.v (.int .u8 0)) ++ [(.v (.int .i64 0))] ++ List.replicate 64 (.v (.int .u8 0))), none⟩ ::
⟨(some 7), .mv (.const (.slice none 0 0)), none⟩ ::
⟨(some 8), .mv (.const (.int .i64 0)), none⟩ ::
[]))
(.seq
(.plain (
⟨(some 14), .mv (.tmp 2), none⟩ ::
⟨(some 15), .callF 23 [(.tmp 14)], none⟩ ::
⟨(some 13), .mv (.tmp 15), none⟩ ::
⟨(some 16), .ext (.tmp 13) 0, none⟩ ::
⟨(some 17), .ext (.tmp 13) 1, none⟩ ::
⟨(some 18), .ext (.tmp 13) 2, none⟩ ::
⟨(some 9), .alloc 35 (List.replicate 32 (.v (.int .u8 0)) ++ [(.v (.int .i64 0))] ++ List.replicate 64 (.v (.int .u8 0))), none⟩ ::
⟨none, .store 97 (.tmp 9) (.tmp 16), none⟩ ::
⟨(some 10), .mv (.tmp 17), none⟩ ::
⟨(some 11), .mv (.tmp 18), none⟩ ::
[]))
(.seq
(.seq
(.plain (
⟨(some 19), .mv (.tmp 11), none⟩ ::
⟨(some 20), .bin .neq (.tmp 19) (.const (.int .i64 0)), none⟩ ::
[]))
(.cond (.tmp 20)
(.seq
(.plain (
⟨(some 21), .bld (List.replicate 32 (.v (.int .u8 0)) ++ [(.v (.int .i64 0))] ++ List.replicate 64 (.v (.int .u8 0))) [], none⟩ ::
⟨(some 22), .mv (.tmp 11), none⟩ ::
⟨none, .store 97 (.tmp 6) (.tmp 21), none⟩ ::
⟨(some 7), .mv (.const (.slice none 0 0)), none⟩ ::
⟨(some 8), .mv (.tmp 22), none⟩ ::
[]))
.ret)
.skip))
(.seq
(.seq
(.plain (
⟨(some 23), .load true 166 (.tmp 4), none⟩ ::
⟨(some 24), .load true 32 (.tmp 3), none⟩ ::
⟨(some 25), .fa 32 (.tmp 9), none⟩ ::
⟨(some 26), .load false 1 (.tmp 25), none⟩ ::
⟨(some 27), .callF 24 [(.tmp 23), (.tmp 24), (.tmp 26)], none⟩ ::
⟨(some 12), .mv (.tmp 27), none⟩ ::
[]))
(.seq
(.plain (
⟨(some 28), .mv (.tmp 12), none⟩ ::
⟨(some 29), .bin .neq (.tmp 28) (.const (.int .i64 0)), none⟩ ::
[]))
(.cond (.tmp 29)
(.seq
(.plain (
⟨(some 30), .bld (List.replicate 32 (.v (.int .u8 0)) ++ [(.v (.int .i64 0))] ++ List.replicate 64 (.v (.int .u8 0))) [], none⟩ ::
⟨(some 31), .mv (.tmp 12), none⟩ ::
⟨none, .store 97 (.tmp 6) (.tmp 30), none⟩ ::
⟨(some 7), .mv (.const (.slice none 0 0)), none⟩ ::
⟨(some 8), .mv (.tmp 31), none⟩ ::
[]))
.ret)
.skip)))
(.seq
(.seq
(.plain (
⟨(some 32), .load true 97 (.tmp 9), none⟩ ::
⟨(some 33), .fa 65 (.tmp 4), none⟩ ::
⟨(some 34), .load true 97 (.tmp 33), none⟩ ::
⟨(some 35), .eqv true [(32, .int .u8), (1, .int .i64), (64, .int .u8)] (.tmp 32) (.tmp 34), none⟩ ::
[]))
(.cond (.tmp 35)
(.seq
(.plain (
⟨(some 36), .bld (List.replicate 32 (.v (.int .u8 0)) ++ [(.v (.int .i64 0))] ++ List.replicate 64 (.v (.int .u8 0))) [], none⟩ ::
⟨none, .store 97 (.tmp 6) (.tmp 36), none⟩ ::
⟨(some 7), .mv (.const (.slice none 0 0)), none⟩ ::
⟨(some 8), .mv (.const (.int .i64 42)), none⟩ ::
[]))
.ret)
.skip))
(.seq
(.plain (
⟨(some 37), .load true 97 (.tmp 9), none⟩ ::
⟨(some 38), .mv (.tmp 10), none⟩ ::
⟨none, .store 97 (.tmp 6) (.tmp 37), none⟩ ::
⟨(some 7), .mv (.tmp 38), none⟩ ::
⟨(some 8), .mv (.const (.int .i64 0)), none⟩ ::
[]))
.ret))))))
theorem prep10 : prepFunc Tryz.prog 0 10 = some F10 := by kernel_rfl
def F11 : AFunc where
  ntmps := 33
  nparams := 5
  results := [(10, none)]
  code :=
(.seq
(.plain (
⟨(some 5), .box 30 (.tmp 0), none⟩ ::
⟨(some 6), .box 32 (.tmp 1), none⟩ ::
⟨(some 7), .box 30 (.tmp 2), none⟩ ::
⟨(some 8), .box 32 (.tmp 3), none⟩ ::
⟨(some 10), .mv (.const (.bool false)), none⟩ ::
[]))
(.seq
(.draw (
⟨(some 11), .load true 65 (.tmp 6), none⟩ ::
⟨(some 12), .callF 25 [(.tmp 11)], none⟩ ::
⟨(some 13), .load true 32 (.tmp 5), none⟩ ::
⟨(some 14), .eqv false [(32, .int .u8)] (.tmp 12) (.tmp 13), none⟩ ::
⟨(some 15), .mv (.tmp 14), none⟩ ::
⟨(some 16), .load true 65 (.tmp 8), (some (15, true))⟩ ::
⟨(some 17), .callF 25 [(.tmp 16)], (some (15, true))⟩ ::
⟨(some 18), .load true 32 (.tmp 7), (some (15, true))⟩ ::
⟨(some 19), .eqv false [(32, .int .u8)] (.tmp 17) (.tmp 18), (some (15, true))⟩ ::
⟨(some 20), .pick (.tmp 15) (.tmp 19) (.const (.bool false)), none⟩ ::
⟨(some 21), .mv (.tmp 20), none⟩ ::
⟨(some 22), .fa 1 (.tmp 6), (some (21, true))⟩ ::
⟨(some 23), .load true 32 (.tmp 22), (some (21, true))⟩ ::
⟨(some 24), .fa 0 (.tmp 6), (some (21, true))⟩ ::
⟨(some 25), .load false 1 (.tmp 24), (some (21, true))⟩ ::
⟨(some 26), .fa 1 (.tmp 8), (some (21, true))⟩ ::
⟨(some 27), .load true 32 (.tmp 26), (some (21, true))⟩ ::
⟨(some 28), .fa 0 (.tmp 8), (some (21, true))⟩ ::
⟨(some 29), .load false 1 (.tmp 28), (some (21, true))⟩ ::
⟨(some 30), .mv (.tmp 4), (some (21, true))⟩ ::
⟨(some 31), .callF 26 [(.tmp 23), (.tmp 25), (.tmp 27), (.tmp 29), (.tmp 30)], (some (21, true))⟩ ::
⟨(some 32), .pick (.tmp 21) (.tmp 31) (.const (.bool false)), none⟩ ::
⟨(some 10), .mv (.tmp 32), none⟩ ::
[])
(⟨0, [], []⟩ :: ⟨2, [], []⟩ :: ⟨1, [], [2]⟩ :: ⟨3, [], []⟩ :: ⟨4, [], []⟩ :: ⟨5, [], []⟩ :: ⟨7, [], []⟩ :: ⟨6, [], [7]⟩ :: ⟨8, [], []⟩ :: ⟨9, [], []⟩ :: ⟨10, [], []⟩ :: ⟨11, [], []⟩ :: ⟨12, [], []⟩ :: ⟨13, [], []⟩ :: ⟨14, [], []⟩ :: ⟨15, [], []⟩ :: ⟨16, [], []⟩ :: ⟨17, [], []⟩ :: ⟨18, [], []⟩ :: ⟨19, [], []⟩ :: ⟨20, [], []⟩ :: ⟨21, [], []⟩ :: ⟨22, [], []⟩ :: []))
.ret))
theorem prep11 : prepFunc Tryz.prog 0 11 = some F11 := by kernel_rfl
def F12 : AFunc where
  ntmps := 26
  nparams := 2
  results := [(4, none)]
  code :=
(.seq
(.plain (
⟨(some 4), .mv (.const (.slice none 0 0)), none⟩ ::
[]))
(.seq
(.plain (
⟨(some 8), .mv (.tmp 0), none⟩ ::
⟨(some 9), .bsl 1 [(.tmp 8)], none⟩ ::
⟨(some 5), .mv (.tmp 9), none⟩ ::
[]))
(.seq
(.seq
(.plain (
⟨(some 10), .mv (.tmp 1), none⟩ ::
⟨(some 11), .len (.tmp 10), none⟩ ::
⟨(some 12), .mv (.const (.int .i64 0)), none⟩ ::
[]))
(.block 0
(.loop
(.seq
(.plain (
⟨(some 13), .bin .lss (.tmp 12) (.tmp 11), none⟩ ::
[]))
(.seq
(.cond (.tmp 13)
.skip
(.exit 0))
(.seq
(.block 1
(.seq
(.plain (
⟨(some 14), .iaS 1 (.tmp 10) (.tmp 12), none⟩ ::
⟨(some 15), .load false 1 (.tmp 14), none⟩ ::
⟨(some 7), .mv (.tmp 15), none⟩ ::
[]))
(.plain (
⟨(some 16), .mv (.tmp 5), none⟩ ::
⟨(some 17), .mv (.tmp 7), none⟩ ::
⟨(some 18), .len (.tmp 17), none⟩ ::
⟨(some 19), .cvt .u64 (.tmp 18), none⟩ ::
⟨(some 20), .callF 27 [(.tmp 19)], none⟩ ::
⟨(some 21), .app 1 1 (.tmp 16) (.tmp 20), none⟩ ::
⟨(some 22), .mv (.tmp 7), none⟩ ::
⟨(some 23), .app 1 1 (.tmp 21) (.tmp 22), none⟩ ::
⟨(some 5), .mv (.tmp 23), none⟩ ::
[]))))
(.plain (
⟨(some 24), .bin .add (.tmp 12) (.const (.int .i64 1)), none⟩ ::
⟨(some 12), .mv (.tmp 24), none⟩ ::
[]))))))))
(.seq
(.plain (
⟨(some 25), .mv (.tmp 5), none⟩ ::
⟨(some 4), .mv (.tmp 25), none⟩ ::
[]))
.ret))))
theorem prep12 : prepFunc Tryz.prog 0 12 = some F12 := by kernel_rfl
def F13 : AFunc where
  ntmps := 92
  nparams := 1
  results := [(2, none)]
  code :=
(.seq
(.plain (
⟨(some 2), .mv (.const (.slice none 0 0)), none⟩ ::
[]))
(.seq
(.seq
(.plain (
⟨(some 18), .mv (.tmp 0), none⟩ ::
⟨(some 19), .eqp false (.tmp 18) (.const (.pointer none)), none⟩ ::
[]))
(.cond (.tmp 19)
(.seq
(.plain (
⟨(some 2), .mv (.const (.slice none 0 0)), none⟩ ::
[]))
.ret)
.skip))
(.seq
(.plain (
⟨(some 20), .mv (.tmp 0), none⟩ ::
⟨(some 21), .callF 28 [(.tmp 20)], none⟩ ::
⟨(some 22), .callF 20 [(.tmp 21)], none⟩ ::
⟨(some 23), .bsl 1 [(.tmp 22)], none⟩ ::
⟨(some 3), .mv (.tmp 23), none⟩ ::
[]))
(.seq
(.plain (
⟨(some 24), .mv (.tmp 0), none⟩ ::
⟨(some 25), .callF 29 [(.tmp 24)], none⟩ ::
⟨(some 4), .mv (.tmp 25), none⟩ ::
[]))
(.seq
(.seq
(.plain (
⟨(some 26), .mv (.tmp 4), none⟩ ::
⟨(some 27), .len (.tmp 26), none⟩ ::
⟨(some 28), .mv (.const (.int .i64 0)), none⟩ ::
[]))
(.block 0
(.loop
(.seq
(.plain (
⟨(some 29), .bin .lss (.tmp 28) (.tmp 27), none⟩ ::
[]))
(.seq
(.cond (.tmp 29)
.skip
(.exit 0))
(.seq
(.block 1
(.seq
(.plain (
⟨(some 30), .mv (.tmp 28), none⟩ ::
⟨(some 31), .iaS 32 (.tmp 26) (.tmp 28), none⟩ ::
⟨(some 32), .load true 32 (.tmp 31), none⟩ ::
⟨(some 6), .alloc 30 (List.replicate 32 (.v (.int .u8 0))), none⟩ ::
⟨(some 5), .mv (.tmp 30), none⟩ ::
⟨none, .store 32 (.tmp 6) (.tmp 32), none⟩ ::
[]))
(.seq
(.plain (
⟨(some 34), .mv (.tmp 0), none⟩ ::
⟨(some 35), .mv (.tmp 5), none⟩ ::
⟨(some 36), .callF 30 [(.tmp 34), (.tmp 35)], none⟩ ::
⟨(some 33), .mv (.tmp 36), none⟩ ::
⟨(some 37), .ext (.tmp 33) 0, none⟩ ::
⟨(some 38), .ext (.tmp 33) 1, none⟩ ::
⟨(some 7), .alloc 35 (List.replicate 32 (.v (.int .u8 0)) ++ [(.v (.int .i64 0))] ++ List.replicate 64 (.v (.int .u8 0))), none⟩ ::
⟨none, .store 97 (.tmp 7) (.tmp 37), none⟩ ::
⟨(some 8), .mv (.tmp 38), none⟩ ::
[]))
(.seq
(.plain (
⟨(some 40), .mv (.tmp 0), none⟩ ::
⟨(some 41), .mv (.tmp 5), none⟩ ::
⟨(some 42), .callF 31 [(.tmp 40), (.tmp 41)], none⟩ ::
⟨(some 39), .mv (.tmp 42), none⟩ ::
⟨(some 43), .ext (.tmp 39) 0, none⟩ ::
⟨(some 44), .ext (.tmp 39) 1, none⟩ ::
⟨(some 9), .mv (.tmp 43), none⟩ ::
⟨(some 10), .mv (.tmp 44), none⟩ ::
[]))
(.seq
(.plain (
⟨(some 46), .mv (.tmp 0), none⟩ ::
⟨(some 47), .mv (.tmp 5), none⟩ ::
⟨(some 48), .bin .add (.tmp 47) (.const (.int .i64 1)), none⟩ ::
⟨(some 49), .callF 32 [(.tmp 46), (.tmp 48)], none⟩ ::
⟨(some 45), .mv (.tmp 49), none⟩ ::
⟨(some 50), .ext (.tmp 45) 0, none⟩ ::
⟨(some 51), .ext (.tmp 45) 1, none⟩ ::
⟨(some 11), .mv (.tmp 50), none⟩ ::
⟨(some 12), .mv (.tmp 51), none⟩ ::
[]))
(.draw (
⟨(some 52), .mv (.tmp 3), none⟩ ::
⟨(some 53), .load true 97 (.tmp 7), none⟩ ::
⟨(some 54), .callF 33 [(.tmp 53)], none⟩ ::
⟨(some 55), .bsl 1 [(.tmp 54)], none⟩ ::
⟨(some 56), .mv (.tmp 4), none⟩ ::
⟨(some 57), .len (.tmp 56), none⟩ ::
⟨(some 58), .mv (.tmp 5), none⟩ ::
⟨(some 59), .load true 32 (.tmp 6), none⟩ ::
⟨(some 60), .mv (.tmp 9), none⟩ ::
⟨(some 61), .callF 34 [(.tmp 57), (.tmp 58), (.tmp 59), (.tmp 60)], none⟩ ::
⟨(some 62), .mv (.tmp 11), none⟩ ::
⟨(some 63), .callF 36 [(.tmp 62)], none⟩ ::
⟨(some 64), .callF 35 [(.tmp 63)], none⟩ ::
⟨(some 65), .bsl 1 [(.tmp 64)], none⟩ ::
⟨(some 66), .bsl 1 [(.tmp 52), (.tmp 55), (.tmp 61), (.tmp 65)], none⟩ ::
⟨(some 67), .callF 18 [(.tmp 66)], none⟩ ::
⟨(some 3), .mv (.tmp 67), none⟩ ::
[])
(⟨0, [], []⟩ :: ⟨1, [], []⟩ :: ⟨4, [], []⟩ :: ⟨5, [], []⟩ :: ⟨6, [], []⟩ :: ⟨7, [], []⟩ :: ⟨8, [], []⟩ :: ⟨10, [], []⟩ :: ⟨2, [], [7]⟩ :: ⟨9, [3], []⟩ :: ⟨11, [3], []⟩ :: ⟨12, [3], []⟩ :: ⟨3, [13], []⟩ :: ⟨13, [], []⟩ :: ⟨14, [], []⟩ :: ⟨15, [], []⟩ :: ⟨16, [], []⟩ :: [])))))))
(.plain (
⟨(some 68), .bin .add (.tmp 28) (.const (.int .i64 1)), none⟩ ::
⟨(some 28), .mv (.tmp 68), none⟩ ::
[]))))))))
(.seq
(.plain (
⟨(some 69), .mv (.tmp 0), none⟩ ::
⟨(some 70), .callF 37 [(.tmp 69)], none⟩ ::
⟨(some 71), .callF 38 [(.tmp 70)], none⟩ ::
⟨(some 13), .mv (.tmp 71), none⟩ ::
[]))
(.seq
(.seq
(.plain (
⟨(some 72), .mv (.tmp 13), none⟩ ::
⟨(some 73), .callF 39 [(.tmp 72)], none⟩ ::
⟨(some 74), .len (.tmp 73), none⟩ ::
⟨(some 75), .mv (.const (.int .i64 0)), none⟩ ::
[]))
(.block 2
(.loop
(.seq
(.plain (
⟨(some 76), .bin .lss (.tmp 75) (.tmp 74), none⟩ ::
[]))
(.seq
(.cond (.tmp 76)
.skip
(.exit 2))
(.seq
(.block 3
(.seq
(.plain (
⟨(some 77), .iaS 32 (.tmp 73) (.tmp 75), none⟩ ::
⟨(some 78), .load true 32 (.tmp 77), none⟩ ::
⟨(some 15), .alloc 30 (List.replicate 32 (.v (.int .u8 0))), none⟩ ::
⟨none, .store 32 (.tmp 15) (.tmp 78), none⟩ ::
[]))
(.seq
(.plain (
⟨(some 80), .mv (.tmp 13), none⟩ ::
⟨(some 81), .load true 32 (.tmp 15), none⟩ ::
⟨(some 82), .callF 40 [(.tmp 80), (.tmp 81)], none⟩ ::
⟨(some 79), .mv (.tmp 82), none⟩ ::
⟨(some 83), .ext (.tmp 79) 0, none⟩ ::
⟨(some 84), .ext (.tmp 79) 1, none⟩ ::
⟨(some 16), .mv (.tmp 83), none⟩ ::
⟨(some 17), .mv (.tmp 84), none⟩ ::
[]))
(.plain (
⟨(some 85), .mv (.tmp 3), none⟩ ::
⟨(some 86), .mv (.tmp 16), none⟩ ::
⟨(some 87), .callF 41 [(.tmp 86)], none⟩ ::
⟨(some 88), .bsl 1 [(.tmp 87)], none⟩ ::
⟨(some 89), .app 1 24 (.tmp 85) (.tmp 88), none⟩ ::
⟨(some 3), .mv (.tmp 89), none⟩ ::
[])))))
(.plain (
⟨(some 90), .bin .add (.tmp 75) (.const (.int .i64 1)), none⟩ ::
⟨(some 75), .mv (.tmp 90), none⟩ ::
[]))))))))
(.seq
(.plain (
⟨(some 91), .mv (.tmp 3), none⟩ ::
⟨(some 2), .mv (.tmp 91), none⟩ ::
[]))
.ret))))))))
theorem prep13 : prepFunc Tryz.prog 0 13 = some F13 := by kernel_rfl
def F14 : AFunc where
  ntmps := 10
  nparams := 1
  results := [(2, (some (true, 32)))]
  code :=
(.seq
(.plain (
⟨(some 2), .alloc 30 (List.replicate 32 (.v (.int .u8 0))), none⟩ ::
[]))
(.seq
(.plain (
⟨(some 4), .callF 42 [], none⟩ ::
⟨(some 3), .mv (.tmp 4), none⟩ ::
[]))
(.seq
(.plain (
⟨(some 5), .mv (.tmp 3), none⟩ ::
⟨(some 6), .mv (.tmp 0), none⟩ ::
⟨(some 7), .callF 43 [(.tmp 5), (.tmp 6)], none⟩ ::
[]))
(.seq
(.plain (
⟨(some 8), .mv (.tmp 3), none⟩ ::
⟨(some 9), .callF 44 [(.tmp 8)], none⟩ ::
⟨none, .store 32 (.tmp 2) (.tmp 9), none⟩ ::
[]))
.ret))))
theorem prep14 : prepFunc Tryz.prog 0 14 = some F14 := by kernel_rfl
def F15 : AFunc where
  ntmps := 26
  nparams := 2
  results := [(4, none)]
  code :=
(.seq
(.plain (
⟨(some 4), .mv (.const (.bool false)), none⟩ ::
[]))
(.seq
(.seq
(.plain (
⟨(some 6), .mv (.tmp 0), none⟩ ::
⟨(some 7), .len (.tmp 6), none⟩ ::
⟨(some 8), .mv (.tmp 1), none⟩ ::
⟨(some 9), .len (.tmp 8), none⟩ ::
⟨(some 10), .bin .neq (.tmp 7) (.tmp 9), none⟩ ::
[]))
(.cond (.tmp 10)
(.seq
(.plain (
⟨(some 4), .mv (.const (.bool false)), none⟩ ::
[]))
.ret)
.skip))
(.seq
(.seq
(.plain (
⟨(some 11), .mv (.tmp 0), none⟩ ::
⟨(some 12), .len (.tmp 11), none⟩ ::
⟨(some 13), .mv (.const (.int .i64 0)), none⟩ ::
[]))
(.block 0
(.loop
(.seq
(.plain (
⟨(some 14), .bin .lss (.tmp 13) (.tmp 12), none⟩ ::
[]))
(.seq
(.cond (.tmp 14)
.skip
(.exit 0))
(.seq
(.block 1
(.seq
(.plain (
⟨(some 15), .mv (.tmp 13), none⟩ ::
⟨(some 5), .mv (.tmp 15), none⟩ ::
[]))
(.seq
(.draw (
⟨(some 16), .mv (.tmp 0), none⟩ ::
⟨(some 17), .mv (.tmp 5), none⟩ ::
⟨(some 18), .iaS 1 (.tmp 16) (.tmp 17), none⟩ ::
⟨(some 19), .load false 1 (.tmp 18), none⟩ ::
⟨(some 20), .mv (.tmp 1), none⟩ ::
⟨(some 21), .mv (.tmp 5), none⟩ ::
⟨(some 22), .iaS 1 (.tmp 20) (.tmp 21), none⟩ ::
⟨(some 23), .load false 1 (.tmp 22), none⟩ ::
⟨(some 24), .bin .neq (.tmp 19) (.tmp 23), none⟩ ::
[])
(⟨0, [], []⟩ :: ⟨1, [], []⟩ :: ⟨2, [], []⟩ :: ⟨3, [], []⟩ :: ⟨4, [], []⟩ :: ⟨5, [], []⟩ :: ⟨6, [], []⟩ :: ⟨7, [], []⟩ :: ⟨8, [], []⟩ :: []))
(.cond (.tmp 24)
(.seq
(.plain (
⟨(some 4), .mv (.const (.bool false)), none⟩ ::
[]))
.ret)
.skip))))
(.plain (
⟨(some 25), .bin .add (.tmp 13) (.const (.int .i64 1)), none⟩ ::
⟨(some 13), .mv (.tmp 25), none⟩ ::
[]))))))))
(.seq
(.plain (
⟨(some 4), .mv (.const (.bool true)), none⟩ ::
[]))
.ret))))
theorem prep15 : prepFunc Tryz.prog 0 15 = some F15 := by kernel_rfl
def F16 : AFunc where
  ntmps := 8
  nparams := 1
  results := [(2, none)]
  code :=
(.seq
(.plain (
⟨(some 2), .mv (.const (.slice none 0 0)), none⟩ ::
[]))
(.seq
(.seq
(.plain (
⟨(some 3), .mv (.tmp 0), none⟩ ::
⟨(some 4), .eqn false (.tmp 3), none⟩ ::
[]))
(.cond (.tmp 4)
(.seq
(.plain (
⟨(some 2), .mv (.const (.slice none 0 0)), none⟩ ::
[]))
.ret)
.skip))
(.seq
(.plain (
⟨(some 5), .bsl 1 [], none⟩ ::
⟨(some 6), .mv (.tmp 0), none⟩ ::
⟨(some 7), .app 1 1 (.tmp 5) (.tmp 6), none⟩ ::
⟨(some 2), .mv (.tmp 7), none⟩ ::
[]))
.ret)))
theorem prep16 : prepFunc Tryz.prog 0 16 = some F16 := by kernel_rfl
def F18 : AFunc where
  ntmps := 5
  nparams := 1
  results := [(2, none)]
  code :=
(.seq
(.plain (
⟨(some 2), .mv (.const (.slice none 0 0)), none⟩ ::
[]))
(.seq
(.plain (
⟨(some 3), .mv (.tmp 0), none⟩ ::
⟨(some 4), .callF 47 [(.tmp 3)], none⟩ ::
⟨(some 2), .mv (.tmp 4), none⟩ ::
[]))
.ret))
theorem prep18 : prepFunc Tryz.prog 0 18 = some F18 := by kernel_rfl
def F19 : AFunc where
  ntmps := 31
  nparams := 1
  results := [(2, none)]
  code :=
(.seq
(.plain (
⟨(some 1), .box 37 (.tmp 0), none⟩ ::
⟨(some 2), .mv (.const (.slice none 0 0)), none⟩ ::
[]))
(.seq
(.draw (
⟨(some 4), .fa 0 (.tmp 1), none⟩ ::
⟨(some 5), .load true 65 (.tmp 4), none⟩ ::
⟨(some 6), .callF 48 [(.tmp 5)], none⟩ ::
⟨(some 7), .fa 65 (.tmp 1), none⟩ ::
⟨(some 8), .load true 97 (.tmp 7), none⟩ ::
⟨(some 9), .callF 33 [(.tmp 8)], none⟩ ::
⟨(some 10), .bsl 1 [(.tmp 6), (.tmp 9)], none⟩ ::
⟨(some 3), .mv (.tmp 10), none⟩ ::
[])
(⟨0, [], []⟩ :: ⟨1, [], []⟩ :: ⟨3, [], []⟩ :: ⟨4, [], []⟩ :: ⟨2, [], [4]⟩ :: ⟨5, [], []⟩ :: ⟨6, [], []⟩ :: ⟨7, [], []⟩ :: []))
(.seq
(.draw (
⟨(some 11), .mv (.tmp 3), none⟩ ::
⟨(some 12), .fa 0 (.tmp 1), none⟩ ::
⟨(some 13), .fa 0 (.tmp 12), none⟩ ::
⟨(some 14), .load false 1 (.tmp 13), none⟩ ::
⟨(some 15), .fa 65 (.tmp 1), none⟩ ::
⟨(some 16), .fa 32 (.tmp 15), none⟩ ::
⟨(some 17), .load false 1 (.tmp 16), none⟩ ::
⟨(some 18), .fa 65 (.tmp 1), none⟩ ::
⟨(some 19), .load true 97 (.tmp 18), none⟩ ::
⟨(some 20), .callF 49 [(.tmp 19)], none⟩ ::
⟨(some 21), .fa 162 (.tmp 1), none⟩ ::
⟨(some 22), .load false 1 (.tmp 21), none⟩ ::
⟨(some 23), .callF 34 [(.tmp 14), (.tmp 17), (.tmp 20), (.tmp 22)], none⟩ ::
⟨(some 24), .app 1 24 (.tmp 11) (.tmp 23), none⟩ ::
⟨(some 3), .mv (.tmp 24), none⟩ ::
[])
(⟨0, [], []⟩ :: ⟨1, [], []⟩ :: ⟨2, [], []⟩ :: ⟨3, [], []⟩ :: ⟨4, [], []⟩ :: ⟨5, [], []⟩ :: ⟨6, [], []⟩ :: ⟨7, [], []⟩ :: ⟨8, [], []⟩ :: ⟨10, [], []⟩ :: ⟨11, [], []⟩ :: ⟨9, [], [3, 6, 11]⟩ :: ⟨12, [], []⟩ :: ⟨13, [], []⟩ :: ⟨14, [], []⟩ :: []))
(.seq
(.plain (
⟨(some 25), .mv (.tmp 3), none⟩ ::
⟨(some 26), .fa 163 (.tmp 1), none⟩ ::
⟨(some 27), .load false 1 (.tmp 26), none⟩ ::
⟨(some 28), .callF 35 [(.tmp 27)], none⟩ ::
⟨(some 29), .bsl 1 [(.tmp 28)], none⟩ ::
⟨(some 30), .app 1 24 (.tmp 25) (.tmp 29), none⟩ ::
⟨(some 2), .mv (.tmp 30), none⟩ ::
[]))
.ret))))
theorem prep19 : prepFunc Tryz.prog 0 19 = some F19 := by kernel_rfl
def F20 : AFunc where
  ntmps := 5
  nparams := 1
  results := [(2, none)]
  code :=
(.seq
(.plain (
⟨(some 1), .box 32 (.tmp 0), none⟩ ::
⟨(some 2), .mv (.const (.slice none 0 0)), none⟩ ::
[]))
(.seq
(.plain (
⟨(some 3), .load true 65 (.tmp 1), none⟩ ::
⟨(some 4), .callF 48 [(.tmp 3)], none⟩ ::
⟨(some 2), .mv (.tmp 4), none⟩ ::
[]))
.ret))
theorem prep20 : prepFunc Tryz.prog 0 20 = some F20 := by kernel_rfl
def F21 : AFunc where
  ntmps := 33
  nparams := 4
  results := [(8, none)]
  code :=
(.seq
(.plain (
⟨(some 4), .box 30 (.tmp 0), none⟩ ::
⟨(some 8), .mv (.const (.slice none 0 0)), none⟩ ::
[]))
(.seq
(.seq
(.plain (
⟨(some 10), .mv (.tmp 1), none⟩ ::
⟨(some 11), .bin .lss (.tmp 10) (.const (.int .i64 1)), none⟩ ::
⟨(some 12), .mv (.tmp 11), none⟩ ::
⟨(some 13), .mv (.tmp 1), (some (12, false))⟩ ::
⟨(some 14), .mv (.tmp 2), (some (12, false))⟩ ::
⟨(some 15), .bin .gtr (.tmp 13) (.tmp 14), (some (12, false))⟩ ::
⟨(some 16), .pick (.tmp 12) (.const (.bool true)) (.tmp 15), none⟩ ::
⟨(some 17), .mv (.tmp 16), none⟩ ::
⟨(some 18), .mv (.tmp 2), (some (17, false))⟩ ::
⟨(some 19), .bin .gtr (.tmp 18) (.const (.int .i64 1099511627776)), (some (17, false))⟩ ::
⟨(some 20), .pick (.tmp 17) (.const (.bool true)) (.tmp 19), none⟩ ::
[]))
(.cond (.tmp 20)
(.seq
(.plain (
⟨(some 8), .mv (.const (.slice none 0 0)), none⟩ ::
[]))
.ret)
.skip))
(.seq
(.plain (
⟨(some 21), .mv (.tmp 3), none⟩ ::
⟨(some 22), .bld [(.sl [] .nil), (.sl [] .nil), (.v (.bool false))] [(0, 1, (.tmp 21))], none⟩ ::
⟨(some 23), .box 91 (.tmp 22), none⟩ ::
⟨(some 9), .mv (.tmp 23), none⟩ ::
[]))
(.seq
(.plain (
⟨(some 24), .mv (.tmp 9), none⟩ ::
⟨(some 25), .load true 32 (.tmp 4), none⟩ ::
⟨(some 26), .mv (.tmp 1), none⟩ ::
⟨(some 27), .mv (.tmp 2), none⟩ ::
⟨(some 28), .callF 50 [(.tmp 24), (.tmp 25), (.tmp 26), (.tmp 27), (.const (.bool true))], none⟩ ::
[]))
(.seq
(.plain (
⟨(some 29), .mv (.tmp 9), none⟩ ::
⟨(some 30), .nilc (.tmp 29), none⟩ ::
⟨(some 31), .fa 1 (.tmp 30), none⟩ ::
⟨(some 32), .load false 1 (.tmp 31), none⟩ ::
⟨(some 8), .mv (.tmp 32), none⟩ ::
[]))
.ret)))))
theorem prep21 : prepFunc Tryz.prog 0 21 = some F21 := by kernel_rfl
def F22 : AFunc where
  ntmps := 26
  nparams := 1
  results := [(2, none)]
  code :=
(.seq
(.plain (
⟨(some 2), .mv (.const (.slice none 0 0)), none⟩ ::
[]))
(.seq
(.plain (
⟨(some 8), .mv (.tmp 0), none⟩ ::
⟨(some 9), .callF 23 [(.tmp 8)], none⟩ ::
⟨(some 7), .mv (.tmp 9), none⟩ ::
⟨(some 10), .ext (.tmp 7) 0, none⟩ ::
⟨(some 11), .ext (.tmp 7) 1, none⟩ ::
⟨(some 12), .ext (.tmp 7) 2, none⟩ ::
⟨(some 3), .alloc 35 (List.replicate 32 (.v (.int .u8 0)) ++ [(.v (.int .i64 0))] ++ List.replicate 64 (.v (.int .u8 0))), none⟩ ::
⟨none, .store 97 (.tmp 3) (.tmp 10), none⟩ ::
⟨(some 4), .mv (.tmp 11), none⟩ ::
⟨(some 5), .mv (.tmp 12), none⟩ ::
[]))
(.seq
(.seq
(.plain (
⟨(some 13), .mv (.tmp 5), none⟩ ::
⟨(some 14), .bin .neq (.tmp 13) (.const (.int .i64 0)), none⟩ ::
[]))
(.cond (.tmp 14)
(.seq
(.plain (
⟨(some 2), .mv (.const (.slice none 0 0)), none⟩ ::
[]))
.ret)
.skip))
(.seq
(.plain (
⟨(some 16), .mv (.tmp 4), none⟩ ::
⟨(some 17), .callF 51 [(.tmp 16)], none⟩ ::
⟨(some 15), .mv (.tmp 17), none⟩ ::
⟨(some 18), .ext (.tmp 15) 0, none⟩ ::
⟨(some 19), .ext (.tmp 15) 1, none⟩ ::
⟨(some 6), .mv (.tmp 18), none⟩ ::
⟨(some 5), .mv (.tmp 19), none⟩ ::
[]))
(.seq
(.seq
(.plain (
⟨(some 20), .mv (.tmp 5), none⟩ ::
⟨(some 21), .bin .neq (.tmp 20) (.const (.int .i64 0)), none⟩ ::
[]))
(.cond (.tmp 21)
(.seq
(.plain (
⟨(some 2), .mv (.const (.slice none 0 0)), none⟩ ::
[]))
.ret)
.skip))
(.seq
(.plain (
⟨(some 22), .mv (.tmp 6), none⟩ ::
⟨(some 23), .bsl 1 [(.tmp 22)], none⟩ ::
⟨(some 24), .callF 12 [(.const (.int .u8 79)), (.tmp 23)], none⟩ ::
⟨(some 25), .bsl 1 [(.tmp 24)], none⟩ ::
⟨(some 2), .mv (.tmp 25), none⟩ ::
[]))
.ret))))))
theorem prep22 : prepFunc Tryz.prog 0 22 = some F22 := by kernel_rfl
def F23 : AFunc where
  ntmps := 48
  nparams := 1
  results := [(2, (some (true, 97))), (3, none), (4, none)]
  code :=
(.seq
(.plain (
⟨(some 2), .alloc 35 (List.replicate 32 (.v (.int .u8 0)) ++ [(.v (.int .i64 0))] ++ List.replicate 64 (.v (.int .u8 0))), none⟩ ::
⟨(some 3), .mv (.const (.slice none 0 0)), none⟩ ::
⟨(some 4), .mv (.const (.int .i64 0)), none⟩ ::
[]))
(.seq
(.plain (
⟨(some 12), .mv (.tmp 0), none⟩ ::
⟨(some 13), .callF 52 [(.tmp 12)], none⟩ ::
⟨(some 5), .mv (.tmp 13), none⟩ ::
[]))
(.seq
(.plain (
⟨(some 14), .mv (.tmp 5), none⟩ ::
⟨(some 15), .callF 53 [(.tmp 14), (.const (.int .i64 1048576))], none⟩ ::
⟨(some 16), .mv (.tmp 5), none⟩ ::
⟨(some 17), .callF 53 [(.tmp 16), (.const (.int .i64 1048576))], none⟩ ::
⟨(some 6), .mv (.tmp 15), none⟩ ::
⟨(some 7), .mv (.tmp 17), none⟩ ::
[]))
(.seq
(.seq
(.plain (
⟨(some 18), .mv (.tmp 5), none⟩ ::
⟨(some 19), .callF 54 [(.tmp 18)], none⟩ ::
⟨(some 20), .bin .neq (.tmp 19) (.const (.int .i64 0)), none⟩ ::
[]))
(.cond (.tmp 20)
(.seq
(.plain (
⟨(some 21), .bld (List.replicate 32 (.v (.int .u8 0)) ++ [(.v (.int .i64 0))] ++ List.replicate 64 (.v (.int .u8 0))) [], none⟩ ::
⟨none, .store 97 (.tmp 2) (.tmp 21), none⟩ ::
⟨(some 3), .mv (.const (.slice none 0 0)), none⟩ ::
⟨(some 4), .mv (.const (.int .i64 21)), none⟩ ::
[]))
.ret)
.skip))
(.seq
(.plain (
⟨(some 23), .mv (.tmp 6), none⟩ ::
⟨(some 24), .callF 55 [(.tmp 23)], none⟩ ::
⟨(some 22), .mv (.tmp 24), none⟩ ::
⟨(some 25), .ext (.tmp 22) 0, none⟩ ::
⟨(some 26), .ext (.tmp 22) 1, none⟩ ::
⟨(some 8), .alloc 35 (List.replicate 32 (.v (.int .u8 0)) ++ [(.v (.int .i64 0))] ++ List.replicate 64 (.v (.int .u8 0))), none⟩ ::
⟨none, .store 97 (.tmp 8) (.tmp 25), none⟩ ::
⟨(some 9), .mv (.tmp 26), none⟩ ::
[]))
(.seq
(.plain (
⟨(some 28), .mv (.tmp 7), none⟩ ::
⟨(some 29), .callF 56 [(.tmp 28)], none⟩ ::
⟨(some 27), .mv (.tmp 29), none⟩ ::
⟨(some 30), .ext (.tmp 27) 0, none⟩ ::
⟨(some 31), .ext (.tmp 27) 1, none⟩ ::
⟨(some 10), .mv (.tmp 30), none⟩ ::
⟨(some 11), .mv (.tmp 31), none⟩ ::
[]))
(.seq
(.seq
(.draw (
⟨(some 32), .mv (.tmp 9), none⟩ ::
⟨(some 33), .bin .neq (.tmp 32) (.const (.int .i64 0)), none⟩ ::
⟨(some 34), .mv (.tmp 33), none⟩ ::
⟨(some 35), .mv (.tmp 11), (some (34, false))⟩ ::
⟨(some 36), .bin .neq (.tmp 35) (.const (.int .i64 0)), (some (34, false))⟩ ::
⟨(some 37), .pick (.tmp 34) (.const (.bool true)) (.tmp 36), none⟩ ::
⟨(some 38), .mv (.tmp 37), none⟩ ::
⟨(some 39), .mv (.tmp 7), (some (38, false))⟩ ::
⟨(some 40), .callF 57 [(.tmp 39)], (some (38, false))⟩ ::
⟨(some 41), .fa 33 (.tmp 8), (some (38, false))⟩ ::
⟨(some 42), .load true 32 (.tmp 41), (some (38, false))⟩ ::
⟨(some 43), .eqv true [(32, .int .u8)] (.tmp 40) (.tmp 42), (some (38, false))⟩ ::
⟨(some 44), .pick (.tmp 38) (.const (.bool true)) (.tmp 43), none⟩ ::
[])
(⟨0, [], []⟩ :: ⟨1, [], []⟩ :: ⟨2, [], []⟩ :: ⟨3, [], []⟩ :: ⟨4, [], []⟩ :: ⟨5, [], []⟩ :: ⟨6, [], []⟩ :: ⟨7, [], []⟩ :: ⟨9, [], []⟩ :: ⟨10, [], []⟩ :: ⟨8, [], [10]⟩ :: ⟨11, [], []⟩ :: ⟨12, [], []⟩ :: []))
(.cond (.tmp 44)
(.seq
(.plain (
⟨(some 45), .bld (List.replicate 32 (.v (.int .u8 0)) ++ [(.v (.int .i64 0))] ++ List.replicate 64 (.v (.int .u8 0))) [], none⟩ ::
⟨none, .store 97 (.tmp 2) (.tmp 45), none⟩ ::
⟨(some 3), .mv (.const (.slice none 0 0)), none⟩ ::
⟨(some 4), .mv (.const (.int .i64 21)), none⟩ ::
[]))
.ret)
.skip))
(.seq
(.plain (
⟨(some 46), .load true 97 (.tmp 8), none⟩ ::
⟨(some 47), .mv (.tmp 10), none⟩ ::
⟨none, .store 97 (.tmp 2) (.tmp 46), none⟩ ::
⟨(some 3), .mv (.tmp 47), none⟩ ::
⟨(some 4), .mv (.const (.int .i64 0)), none⟩ ::
[]))
.ret))))))))
theorem prep23 : prepFunc Tryz.prog 0 23 = some F23 := by kernel_rfl
def F24 : AFunc where
  ntmps := 45
  nparams := 3
  results := [(6, none)]
  code :=
(.seq
(.plain (
⟨(some 3), .box 37 (.tmp 0), none⟩ ::
⟨(some 4), .box 30 (.tmp 1), none⟩ ::
⟨(some 6), .mv (.const (.int .i64 0)), none⟩ ::
[]))
(.seq
(.block 0
(.seq
(.draw (
⟨(some 8), .fa 0 (.tmp 3), none⟩ ::
⟨(some 9), .load true 65 (.tmp 8), none⟩ ::
⟨(some 10), .callF 25 [(.tmp 9)], none⟩ ::
⟨(some 11), .load true 32 (.tmp 4), none⟩ ::
⟨(some 12), .eqv true [(32, .int .u8)] (.tmp 10) (.tmp 11), none⟩ ::
⟨(some 7), .mv (.tmp 12), none⟩ ::
[])
(⟨0, [], []⟩ :: ⟨1, [], []⟩ :: ⟨3, [], []⟩ :: ⟨2, [], [3]⟩ :: ⟨4, [], []⟩ :: ⟨5, [], []⟩ :: []))
(.cond (.tmp 7)
(.seq
(.plain (
⟨(some 6), .mv (.const (.int .i64 41)), none⟩ ::
[]))
.ret)
(.seq
(.plain (
⟨(some 14), .mv (.tmp 2), none⟩ ::
⟨(some 15), .bin .lss (.tmp 14) (.const (.int .i64 0)), none⟩ ::
⟨(some 16), .mv (.tmp 15), none⟩ ::
⟨(some 17), .mv (.tmp 2), (some (16, false))⟩ ::
⟨(some 18), .fa 0 (.tmp 3), (some (16, false))⟩ ::
⟨(some 19), .fa 0 (.tmp 18), (some (16, false))⟩ ::
⟨(some 20), .load false 1 (.tmp 19), (some (16, false))⟩ ::
⟨(some 21), .bin .geq (.tmp 17) (.tmp 20), (some (16, false))⟩ ::
⟨(some 22), .pick (.tmp 16) (.const (.bool true)) (.tmp 21), none⟩ ::
⟨(some 23), .mv (.tmp 22), none⟩ ::
⟨(some 24), .fa 65 (.tmp 3), (some (23, false))⟩ ::
⟨(some 25), .fa 32 (.tmp 24), (some (23, false))⟩ ::
⟨(some 26), .load false 1 (.tmp 25), (some (23, false))⟩ ::
⟨(some 27), .mv (.tmp 2), (some (23, false))⟩ ::
⟨(some 28), .bin .neq (.tmp 26) (.tmp 27), (some (23, false))⟩ ::
⟨(some 29), .pick (.tmp 23) (.const (.bool true)) (.tmp 28), none⟩ ::
⟨(some 13), .mv (.tmp 29), none⟩ ::
[]))
(.cond (.tmp 13)
(.seq
(.plain (
⟨(some 6), .mv (.const (.int .i64 42)), none⟩ ::
[]))
.ret)
(.seq
(.draw (
⟨(some 31), .fa 0 (.tmp 3), none⟩ ::
⟨(some 32), .fa 1 (.tmp 31), none⟩ ::
⟨(some 33), .load true 32 (.tmp 32), none⟩ ::
⟨(some 34), .fa 0 (.tmp 3), none⟩ ::
⟨(some 35), .fa 0 (.tmp 34), none⟩ ::
⟨(some 36), .load false 1 (.tmp 35), none⟩ ::
⟨(some 37), .mv (.tmp 2), none⟩ ::
⟨(some 38), .fa 65 (.tmp 3), none⟩ ::
⟨(some 39), .load true 97 (.tmp 38), none⟩ ::
⟨(some 40), .callF 49 [(.tmp 39)], none⟩ ::
⟨(some 41), .fa 162 (.tmp 3), none⟩ ::
⟨(some 42), .load false 1 (.tmp 41), none⟩ ::
⟨(some 43), .callF 58 [(.tmp 33), (.tmp 36), (.tmp 37), (.tmp 40), (.tmp 42)], none⟩ ::
⟨(some 44), .un .not (.tmp 43), none⟩ ::
⟨(some 30), .mv (.tmp 44), none⟩ ::
[])
(⟨0, [], []⟩ :: ⟨1, [], []⟩ :: ⟨2, [], []⟩ :: ⟨3, [], []⟩ :: ⟨4, [], []⟩ :: ⟨5, [], []⟩ :: ⟨6, [], []⟩ :: ⟨7, [], []⟩ :: ⟨8, [], []⟩ :: ⟨10, [], []⟩ :: ⟨11, [], []⟩ :: ⟨9, [], [2, 5, 11]⟩ :: ⟨12, [], []⟩ :: ⟨13, [], []⟩ :: ⟨14, [], []⟩ :: []))
(.cond (.tmp 30)
(.seq
(.plain (
⟨(some 6), .mv (.const (.int .i64 42)), none⟩ ::
[]))
.ret)
.skip)))))))
(.seq
(.plain (
⟨(some 6), .mv (.const (.int .i64 0)), none⟩ ::
[]))
.ret)))
theorem prep24 : prepFunc Tryz.prog 0 24 = some F24 := by kernel_rfl
def F25 : AFunc where
  ntmps := 6
  nparams := 1
  results := [(2, (some (true, 32)))]
  code :=
(.seq
(.plain (
⟨(some 1), .box 32 (.tmp 0), none⟩ ::
⟨(some 2), .alloc 30 (List.replicate 32 (.v (.int .u8 0))), none⟩ ::
[]))
(.seq
(.plain (
⟨(some 3), .load true 65 (.tmp 1), none⟩ ::
⟨(some 4), .callF 48 [(.tmp 3)], none⟩ ::
⟨(some 5), .callF 14 [(.tmp 4)], none⟩ ::
⟨none, .store 32 (.tmp 2) (.tmp 5), none⟩ ::
[]))
.ret))
theorem prep25 : prepFunc Tryz.prog 0 25 = some F25 := by kernel_rfl
def F26 : AFunc where
  ntmps := 60
  nparams := 5
  results := [(10, none)]
  code :=
(.seq
(.plain (
⟨(some 5), .box 30 (.tmp 0), none⟩ ::
⟨(some 7), .box 30 (.tmp 2), none⟩ ::
⟨(some 10), .mv (.const (.bool false)), none⟩ ::
[]))
(.seq
(.block 0
(.seq
(.plain (
⟨(some 15), .mv (.tmp 1), none⟩ ::
⟨(some 16), .bin .lss (.tmp 15) (.const (.int .i64 0)), none⟩ ::
⟨(some 17), .mv (.tmp 16), none⟩ ::
⟨(some 18), .mv (.tmp 1), (some (17, false))⟩ ::
⟨(some 19), .mv (.tmp 3), (some (17, false))⟩ ::
⟨(some 20), .bin .gtr (.tmp 18) (.tmp 19), (some (17, false))⟩ ::
⟨(some 21), .pick (.tmp 17) (.const (.bool true)) (.tmp 20), none⟩ ::
⟨(some 22), .mv (.tmp 21), none⟩ ::
⟨(some 23), .mv (.tmp 3), (some (22, false))⟩ ::
⟨(some 24), .bin .gtr (.tmp 23) (.const (.int .i64 1099511627776)), (some (22, false))⟩ ::
⟨(some 25), .pick (.tmp 22) (.const (.bool true)) (.tmp 24), none⟩ ::
⟨(some 14), .mv (.tmp 25), none⟩ ::
[]))
(.cond (.tmp 14)
(.seq
(.plain (
⟨(some 10), .mv (.const (.bool false)), none⟩ ::
[]))
.ret)
(.seq
(.plain (
⟨(some 27), .mv (.tmp 1), none⟩ ::
⟨(some 28), .bin .eql (.tmp 27) (.const (.int .i64 0)), none⟩ ::
⟨(some 26), .mv (.tmp 28), none⟩ ::
[]))
(.cond (.tmp 26)
(.seq
(.draw (
⟨(some 29), .load true 32 (.tmp 5), none⟩ ::
⟨(some 30), .callF 59 [(.const (.int .u8 72)), (.const (.slice none 0 0))], none⟩ ::
⟨(some 31), .eqv false [(32, .int .u8)] (.tmp 29) (.tmp 30), none⟩ ::
⟨(some 32), .mv (.tmp 31), none⟩ ::
⟨(some 33), .mv (.tmp 4), (some (32, true))⟩ ::
⟨(some 34), .len (.tmp 33), (some (32, true))⟩ ::
⟨(some 35), .bin .eql (.tmp 34) (.const (.int .i64 0)), (some (32, true))⟩ ::
⟨(some 36), .pick (.tmp 32) (.tmp 35) (.const (.bool false)), none⟩ ::
⟨(some 10), .mv (.tmp 36), none⟩ ::
[])
(⟨0, [], []⟩ :: ⟨1, [], [0]⟩ :: ⟨2, [], []⟩ :: ⟨3, [], []⟩ :: ⟨4, [], []⟩ :: ⟨5, [], []⟩ :: ⟨6, [], []⟩ :: ⟨7, [], []⟩ :: ⟨8, [], []⟩ :: []))
.ret)
.skip)))))
(.seq
(.plain (
⟨(some 37), .mv (.tmp 4), none⟩ ::
⟨(some 38), .bld [(.sl [] .nil), (.sl [] .nil), (.v (.bool false))] [(0, 1, (.tmp 37))], none⟩ ::
⟨(some 39), .box 91 (.tmp 38), none⟩ ::
⟨(some 11), .mv (.tmp 39), none⟩ ::
[]))
(.seq
(.plain (
⟨(some 41), .mv (.tmp 11), none⟩ ::
⟨(some 42), .load true 32 (.tmp 5), none⟩ ::
⟨(some 43), .mv (.tmp 1), none⟩ ::
⟨(some 44), .mv (.tmp 3), none⟩ ::
⟨(some 45), .callF 50 [(.tmp 41), (.tmp 42), (.tmp 43), (.tmp 44), (.const (.bool true))], none⟩ ::
⟨(some 40), .mv (.tmp 45), none⟩ ::
⟨(some 46), .ext (.tmp 40) 0, none⟩ ::
⟨(some 47), .ext (.tmp 40) 1, none⟩ ::
⟨(some 12), .alloc 30 (List.replicate 32 (.v (.int .u8 0))), none⟩ ::
⟨(some 13), .alloc 30 (List.replicate 32 (.v (.int .u8 0))), none⟩ ::
⟨none, .store 32 (.tmp 12) (.tmp 46), none⟩ ::
⟨none, .store 32 (.tmp 13) (.tmp 47), none⟩ ::
[]))
(.seq
(.plain (
⟨(some 48), .mv (.tmp 11), none⟩ ::
⟨(some 49), .callF 60 [(.tmp 48)], none⟩ ::
⟨(some 50), .mv (.tmp 49), none⟩ ::
⟨(some 51), .load true 32 (.tmp 12), (some (50, true))⟩ ::
⟨(some 52), .load true 32 (.tmp 5), (some (50, true))⟩ ::
⟨(some 53), .eqv false [(32, .int .u8)] (.tmp 51) (.tmp 52), (some (50, true))⟩ ::
⟨(some 54), .pick (.tmp 50) (.tmp 53) (.const (.bool false)), none⟩ ::
⟨(some 55), .mv (.tmp 54), none⟩ ::
⟨(some 56), .load true 32 (.tmp 13), (some (55, true))⟩ ::
⟨(some 57), .load true 32 (.tmp 7), (some (55, true))⟩ ::
⟨(some 58), .eqv false [(32, .int .u8)] (.tmp 56) (.tmp 57), (some (55, true))⟩ ::
⟨(some 59), .pick (.tmp 55) (.tmp 58) (.const (.bool false)), none⟩ ::
⟨(some 10), .mv (.tmp 59), none⟩ ::
[]))
.ret)))))
theorem prep26 : prepFunc Tryz.prog 0 26 = some F26 := by kernel_rfl
def F27 : AFunc where
  ntmps := 17
  nparams := 1
  results := [(2, none)]
  code :=
(.seq
(.plain (
⟨(some 2), .mv (.const (.slice none 0 0)), none⟩ ::
[]))
(.seq
(.plain (
⟨(some 3), .mv (.const (.slice none 0 0)), none⟩ ::
[]))
(.seq
(.seq
(.plain (
⟨(some 4), .mv (.const (.int .i64 56)), none⟩ ::
[]))
(.block 0
(.loop
(.seq
(.seq
(.plain (
⟨(some 5), .mv (.tmp 4), none⟩ ::
⟨(some 6), .bin .geq (.tmp 5) (.const (.int .i64 0)), none⟩ ::
[]))
(.cond (.tmp 6)
.skip
(.exit 0)))
(.seq
(.block 1
(.plain (
⟨(some 9), .mv (.tmp 3), none⟩ ::
⟨(some 10), .mv (.tmp 0), none⟩ ::
⟨(some 11), .mv (.tmp 4), none⟩ ::
⟨(some 12), .bin .shr (.tmp 10) (.tmp 11), none⟩ ::
⟨(some 13), .cvt .u8 (.tmp 12), none⟩ ::
⟨(some 14), .bsl 1 [(.tmp 13)], none⟩ ::
⟨(some 15), .app 1 1 (.tmp 9) (.tmp 14), none⟩ ::
⟨(some 3), .mv (.tmp 15), none⟩ ::
[])))
(.plain (
⟨(some 7), .mv (.tmp 4), none⟩ ::
⟨(some 8), .bin .sub (.tmp 7) (.const (.int .i64 8)), none⟩ ::
⟨(some 4), .mv (.tmp 8), none⟩ ::
[])))))))
(.seq
(.plain (
⟨(some 16), .mv (.tmp 3), none⟩ ::
⟨(some 2), .mv (.tmp 16), none⟩ ::
[]))
.ret))))
theorem prep27 : prepFunc Tryz.prog 0 27 = some F27 := by kernel_rfl
def F33 : AFunc where
  ntmps := 15
  nparams := 1
  results := [(2, none)]
  code :=
(.seq
(.plain (
⟨(some 1), .box 35 (.tmp 0), none⟩ ::
⟨(some 2), .mv (.const (.slice none 0 0)), none⟩ ::
[]))
(.seq
(.plain (
⟨(some 6), .load true 97 (.tmp 1), none⟩ ::
⟨(some 7), .callF 65 [(.tmp 6)], none⟩ ::
⟨(some 5), .mv (.tmp 7), none⟩ ::
⟨(some 8), .ext (.tmp 5) 0, none⟩ ::
⟨(some 9), .ext (.tmp 5) 1, none⟩ ::
⟨(some 3), .mv (.tmp 8), none⟩ ::
⟨(some 4), .mv (.tmp 9), none⟩ ::
[]))
(.seq
(.seq
(.plain (
⟨(some 10), .mv (.tmp 4), none⟩ ::
⟨(some 11), .bin .neq (.tmp 10) (.const (.int .i64 0)), none⟩ ::
[]))
(.cond (.tmp 11)
(.seq
(.plain (
⟨(some 2), .mv (.const (.slice none 0 0)), none⟩ ::
[]))
.ret)
.skip))
(.seq
(.plain (
⟨(some 12), .mv (.tmp 3), none⟩ ::
⟨(some 13), .bsl 1 [(.tmp 12)], none⟩ ::
⟨(some 14), .callF 12 [(.const (.int .u8 66)), (.tmp 13)], none⟩ ::
⟨(some 2), .mv (.tmp 14), none⟩ ::
[]))
.ret))))
theorem prep33 : prepFunc Tryz.prog 0 33 = some F33 := by kernel_rfl
def F34 : AFunc where
  ntmps := 25
  nparams := 4
  results := [(8, none)]
  code :=
(.seq
(.plain (
⟨(some 6), .box 30 (.tmp 2), none⟩ ::
⟨(some 8), .mv (.const (.slice none 0 0)), none⟩ ::
[]))
(.seq
(.plain (
⟨(some 12), .mv (.tmp 0), none⟩ ::
⟨(some 13), .mv (.tmp 1), none⟩ ::
⟨(some 14), .load true 32 (.tmp 6), none⟩ ::
⟨(some 15), .mv (.tmp 3), none⟩ ::
⟨(some 16), .callF 66 [(.tmp 12), (.tmp 13), (.tmp 14), (.tmp 15)], none⟩ ::
⟨(some 11), .mv (.tmp 16), none⟩ ::
⟨(some 17), .ext (.tmp 11) 0, none⟩ ::
⟨(some 18), .ext (.tmp 11) 1, none⟩ ::
⟨(some 10), .alloc 30 (List.replicate 32 (.v (.int .u8 0))), none⟩ ::
⟨(some 9), .mv (.tmp 17), none⟩ ::
⟨none, .store 32 (.tmp 10) (.tmp 18), none⟩ ::
[]))
(.seq
(.seq
(.plain (
⟨(some 19), .mv (.tmp 9), none⟩ ::
⟨(some 20), .eqp false (.tmp 19) (.const (.pointer none)), none⟩ ::
[]))
(.cond (.tmp 20)
(.seq
(.plain (
⟨(some 8), .mv (.const (.slice none 0 0)), none⟩ ::
[]))
.ret)
.skip))
(.seq
(.plain (
⟨(some 21), .mv (.tmp 9), none⟩ ::
⟨(some 22), .nilc (.tmp 21), none⟩ ::
⟨(some 23), .fa 1 (.tmp 22), none⟩ ::
⟨(some 24), .load false 1 (.tmp 23), none⟩ ::
⟨(some 8), .mv (.tmp 24), none⟩ ::
[]))
.ret))))
theorem prep34 : prepFunc Tryz.prog 0 34 = some F34 := by kernel_rfl
def F35 : AFunc where
  ntmps := 6
  nparams := 1
  results := [(2, none)]
  code :=
(.seq
(.plain (
⟨(some 2), .mv (.const (.slice none 0 0)), none⟩ ::
[]))
(.seq
(.plain (
⟨(some 3), .mv (.tmp 0), none⟩ ::
⟨(some 4), .bsl 1 [(.tmp 3)], none⟩ ::
⟨(some 5), .callF 12 [(.const (.int .u8 67)), (.tmp 4)], none⟩ ::
⟨(some 2), .mv (.tmp 5), none⟩ ::
[]))
.ret))
theorem prep35 : prepFunc Tryz.prog 0 35 = some F35 := by kernel_rfl
def F42 : AFunc where
  ntmps := 4
  nparams := 0
  results := [(0, none)]
  code :=
(.seq
(.plain (
⟨(some 0), .mv (.const (.pointer none)), none⟩ ::
[]))
(.seq
(.plain (
⟨(some 1), .callF 73 [], none⟩ ::
⟨(some 2), .bld (List.replicate 8 (.v (.int .u32 0)) ++ [(.sl [] .nil)] ++ [(.v (.int .u64 0))]) [(0, 8, (.tmp 1))], none⟩ ::
⟨(some 3), .box 131 (.tmp 2), none⟩ ::
⟨(some 0), .mv (.tmp 3), none⟩ ::
[]))
.ret))
theorem prep42 : prepFunc Tryz.prog 0 42 = some F42 := by kernel_rfl
def F43 : AFunc where
  ntmps := 51
  nparams := 2
  results := []
  code :=
(.seq
(.seq
(.plain (
⟨(some 5), .mv (.tmp 0), none⟩ ::
⟨(some 6), .nilc (.tmp 5), none⟩ ::
⟨(some 7), .fa 9 (.tmp 6), none⟩ ::
⟨(some 8), .load false 1 (.tmp 7), none⟩ ::
⟨(some 9), .bin .eql (.tmp 8) (.const (.int .u64 0)), none⟩ ::
[]))
(.cond (.tmp 9)
(.plain (
⟨(some 10), .mv (.tmp 0), none⟩ ::
⟨(some 11), .callF 73 [], none⟩ ::
⟨(some 12), .nilc (.tmp 10), none⟩ ::
⟨(some 13), .fa 0 (.tmp 12), none⟩ ::
⟨none, .store 8 (.tmp 13) (.tmp 11), none⟩ ::
[]))
.skip))
(.seq
(.plain (
⟨(some 14), .mv (.tmp 0), none⟩ ::
⟨(some 15), .nilc (.tmp 14), none⟩ ::
⟨(some 16), .fa 9 (.tmp 15), none⟩ ::
⟨(some 17), .load false 1 (.tmp 16), none⟩ ::
⟨(some 18), .mv (.tmp 1), none⟩ ::
⟨(some 19), .len (.tmp 18), none⟩ ::
⟨(some 20), .cvt .u64 (.tmp 19), none⟩ ::
⟨(some 21), .bin .add (.tmp 17) (.tmp 20), none⟩ ::
⟨(some 22), .nilc (.tmp 14), none⟩ ::
⟨(some 23), .fa 9 (.tmp 22), none⟩ ::
⟨none, .store 1 (.tmp 23) (.tmp 21), none⟩ ::
[]))
(.seq
(.plain (
⟨(some 24), .bsl 1 [], none⟩ ::
⟨(some 25), .mv (.tmp 0), none⟩ ::
⟨(some 26), .nilc (.tmp 25), none⟩ ::
⟨(some 27), .fa 8 (.tmp 26), none⟩ ::
⟨(some 28), .load false 1 (.tmp 27), none⟩ ::
⟨(some 29), .app 1 1 (.tmp 24) (.tmp 28), none⟩ ::
⟨(some 30), .mv (.tmp 1), none⟩ ::
⟨(some 31), .app 1 1 (.tmp 29) (.tmp 30), none⟩ ::
⟨(some 4), .mv (.tmp 31), none⟩ ::
[]))
(.seq
(.block 0
(.loop
(.seq
(.seq
(.plain (
⟨(some 32), .mv (.tmp 4), none⟩ ::
⟨(some 33), .len (.tmp 32), none⟩ ::
⟨(some 34), .bin .geq (.tmp 33) (.const (.int .i64 64)), none⟩ ::
[]))
(.cond (.tmp 34)
.skip
(.exit 0)))
(.block 1
(.seq
(.draw (
⟨(some 35), .mv (.tmp 0), none⟩ ::
⟨(some 36), .mv (.tmp 0), none⟩ ::
⟨(some 37), .nilc (.tmp 36), none⟩ ::
⟨(some 38), .fa 0 (.tmp 37), none⟩ ::
⟨(some 39), .load true 8 (.tmp 38), none⟩ ::
⟨(some 40), .mv (.tmp 4), none⟩ ::
⟨(some 41), .slc 1 (.tmp 40) none (some (.const (.int .i64 64))), none⟩ ::
⟨(some 42), .callF 74 [(.tmp 39), (.tmp 41)], none⟩ ::
⟨(some 43), .nilc (.tmp 35), none⟩ ::
⟨(some 44), .fa 0 (.tmp 43), none⟩ ::
⟨none, .store 8 (.tmp 44) (.tmp 42), none⟩ ::
[])
(⟨0, [], []⟩ :: ⟨1, [], []⟩ :: ⟨2, [], []⟩ :: ⟨3, [], []⟩ :: ⟨4, [], []⟩ :: ⟨5, [], []⟩ :: ⟨6, [], []⟩ :: ⟨7, [], []⟩ :: ⟨8, [], []⟩ :: ⟨9, [], []⟩ :: ⟨10, [], []⟩ :: []))
(.plain (
⟨(some 45), .mv (.tmp 4), none⟩ ::
⟨(some 46), .slc 1 (.tmp 45) (some (.const (.int .i64 64))) none, none⟩ ::
⟨(some 4), .mv (.tmp 46), none⟩ ::
[])))))))
(.plain (
⟨(some 47), .mv (.tmp 0), none⟩ ::
⟨(some 48), .mv (.tmp 4), none⟩ ::
⟨(some 49), .nilc (.tmp 47), none⟩ ::
⟨(some 50), .fa 8 (.tmp 49), none⟩ ::
⟨none, .store 1 (.tmp 50) (.tmp 48), none⟩ ::
[]))))))
theorem prep43 : prepFunc Tryz.prog 0 43 = some F43 := by kernel_rfl
def F44 : AFunc where
  ntmps := 83
  nparams := 1
  results := [(2, (some (true, 32)))]
  code :=
(.seq
(.plain (
⟨(some 2), .alloc 30 (List.replicate 32 (.v (.int .u8 0))), none⟩ ::
[]))
(.seq
(.plain (
⟨(some 8), .mv (.tmp 0), none⟩ ::
⟨(some 9), .nilc (.tmp 8), none⟩ ::
⟨(some 10), .fa 0 (.tmp 9), none⟩ ::
⟨(some 11), .load true 8 (.tmp 10), none⟩ ::
⟨(some 3), .alloc 128 (List.replicate 8 (.v (.int .u32 0))), none⟩ ::
⟨none, .store 8 (.tmp 3) (.tmp 11), none⟩ ::
[]))
(.seq
(.seq
(.plain (
⟨(some 12), .mv (.tmp 0), none⟩ ::
⟨(some 13), .nilc (.tmp 12), none⟩ ::
⟨(some 14), .fa 9 (.tmp 13), none⟩ ::
⟨(some 15), .load false 1 (.tmp 14), none⟩ ::
⟨(some 16), .bin .eql (.tmp 15) (.const (.int .u64 0)), none⟩ ::
[]))
(.cond (.tmp 16)
(.plain (
⟨(some 17), .callF 73 [], none⟩ ::
⟨none, .store 8 (.tmp 3) (.tmp 17), none⟩ ::
[]))
.skip))
(.seq
(.plain (
⟨(some 18), .bsl 1 [], none⟩ ::
⟨(some 19), .mv (.tmp 0), none⟩ ::
⟨(some 20), .nilc (.tmp 19), none⟩ ::
⟨(some 21), .fa 8 (.tmp 20), none⟩ ::
⟨(some 22), .load false 1 (.tmp 21), none⟩ ::
⟨(some 23), .app 1 1 (.tmp 18) (.tmp 22), none⟩ ::
⟨(some 24), .bsl 1 [(.const (.int .u8 128))], none⟩ ::
⟨(some 25), .app 1 1 (.tmp 23) (.tmp 24), none⟩ ::
⟨(some 4), .mv (.tmp 25), none⟩ ::
[]))
(.seq
(.block 0
(.loop
(.seq
(.seq
(.plain (
⟨(some 26), .mv (.tmp 4), none⟩ ::
⟨(some 27), .len (.tmp 26), none⟩ ::
⟨(some 28), .bin .rem (.tmp 27) (.const (.int .i64 64)), none⟩ ::
⟨(some 29), .bin .neq (.tmp 28) (.const (.int .i64 56)), none⟩ ::
[]))
(.cond (.tmp 29)
.skip
(.exit 0)))
(.block 1
(.plain (
⟨(some 30), .mv (.tmp 4), none⟩ ::
⟨(some 31), .bsl 1 [(.const (.int .u8 0))], none⟩ ::
⟨(some 32), .app 1 1 (.tmp 30) (.tmp 31), none⟩ ::
⟨(some 4), .mv (.tmp 32), none⟩ ::
[]))))))
(.seq
(.plain (
⟨(some 33), .mv (.tmp 4), none⟩ ::
⟨(some 34), .mv (.tmp 0), none⟩ ::
⟨(some 35), .nilc (.tmp 34), none⟩ ::
⟨(some 36), .fa 9 (.tmp 35), none⟩ ::
⟨(some 37), .load false 1 (.tmp 36), none⟩ ::
⟨(some 38), .bin .mul (.const (.int .u64 8)) (.tmp 37), none⟩ ::
⟨(some 39), .callF 27 [(.tmp 38)], none⟩ ::
⟨(some 40), .app 1 1 (.tmp 33) (.tmp 39), none⟩ ::
⟨(some 4), .mv (.tmp 40), none⟩ ::
[]))
(.seq
(.block 2
(.loop
(.seq
(.seq
(.plain (
⟨(some 41), .mv (.tmp 4), none⟩ ::
⟨(some 42), .len (.tmp 41), none⟩ ::
⟨(some 43), .bin .gtr (.tmp 42) (.const (.int .i64 0)), none⟩ ::
[]))
(.cond (.tmp 43)
.skip
(.exit 2)))
(.seq
(.block 3
(.draw (
⟨(some 46), .load true 8 (.tmp 3), none⟩ ::
⟨(some 47), .mv (.tmp 4), none⟩ ::
⟨(some 48), .slc 1 (.tmp 47) none (some (.const (.int .i64 64))), none⟩ ::
⟨(some 49), .callF 74 [(.tmp 46), (.tmp 48)], none⟩ ::
⟨none, .store 8 (.tmp 3) (.tmp 49), none⟩ ::
[])
(⟨0, [], []⟩ :: ⟨1, [], []⟩ :: ⟨2, [], []⟩ :: ⟨3, [], []⟩ :: ⟨4, [], []⟩ :: [])))
(.plain (
⟨(some 44), .mv (.tmp 4), none⟩ ::
⟨(some 45), .slc 1 (.tmp 44) (some (.const (.int .i64 64))) none, none⟩ ::
⟨(some 4), .mv (.tmp 45), none⟩ ::
[]))))))
(.seq
(.plain (
⟨(some 5), .alloc 30 (List.replicate 32 (.v (.int .u8 0))), none⟩ ::
[]))
(.seq
(.seq
(.plain (
⟨(some 50), .load true 8 (.tmp 3), none⟩ ::
⟨(some 51), .mv (.const (.int .i64 0)), none⟩ ::
[]))
(.block 4
(.loop
(.seq
(.plain (
⟨(some 52), .bin .lss (.tmp 51) (.const (.int .i64 8)), none⟩ ::
[]))
(.seq
(.cond (.tmp 52)
.skip
(.exit 4))
(.seq
(.block 5
(.seq
(.plain (
⟨(some 53), .mv (.tmp 51), none⟩ ::
⟨(some 54), .idxA false 1 8 (.tmp 50) (.tmp 51), none⟩ ::
⟨(some 6), .mv (.tmp 53), none⟩ ::
⟨(some 7), .mv (.tmp 54), none⟩ ::
[]))
(.plain (
⟨(some 55), .mv (.tmp 6), none⟩ ::
⟨(some 56), .bin .mul (.const (.int .i64 4)) (.tmp 55), none⟩ ::
⟨(some 57), .mv (.tmp 6), none⟩ ::
⟨(some 58), .bin .mul (.const (.int .i64 4)) (.tmp 57), none⟩ ::
⟨(some 59), .bin .add (.tmp 58) (.const (.int .i64 1)), none⟩ ::
⟨(some 60), .mv (.tmp 6), none⟩ ::
⟨(some 61), .bin .mul (.const (.int .i64 4)) (.tmp 60), none⟩ ::
⟨(some 62), .bin .add (.tmp 61) (.const (.int .i64 2)), none⟩ ::
⟨(some 63), .mv (.tmp 6), none⟩ ::
⟨(some 64), .bin .mul (.const (.int .i64 4)) (.tmp 63), none⟩ ::
⟨(some 65), .bin .add (.tmp 64) (.const (.int .i64 3)), none⟩ ::
⟨(some 66), .mv (.tmp 7), none⟩ ::
⟨(some 67), .bin .shr (.tmp 66) (.const (.int .u64 24)), none⟩ ::
⟨(some 68), .cvt .u8 (.tmp 67), none⟩ ::
⟨(some 69), .mv (.tmp 7), none⟩ ::
⟨(some 70), .bin .shr (.tmp 69) (.const (.int .u64 16)), none⟩ ::
⟨(some 71), .cvt .u8 (.tmp 70), none⟩ ::
⟨(some 72), .mv (.tmp 7), none⟩ ::
⟨(some 73), .bin .shr (.tmp 72) (.const (.int .u64 8)), none⟩ ::
⟨(some 74), .cvt .u8 (.tmp 73), none⟩ ::
⟨(some 75), .mv (.tmp 7), none⟩ ::
⟨(some 76), .cvt .u8 (.tmp 75), none⟩ ::
⟨(some 77), .iaA 1 32 (.tmp 5) (.tmp 56), none⟩ ::
⟨none, .store 1 (.tmp 77) (.tmp 68), none⟩ ::
⟨(some 78), .iaA 1 32 (.tmp 5) (.tmp 59), none⟩ ::
⟨none, .store 1 (.tmp 78) (.tmp 71), none⟩ ::
⟨(some 79), .iaA 1 32 (.tmp 5) (.tmp 62), none⟩ ::
⟨none, .store 1 (.tmp 79) (.tmp 74), none⟩ ::
⟨(some 80), .iaA 1 32 (.tmp 5) (.tmp 65), none⟩ ::
⟨none, .store 1 (.tmp 80) (.tmp 76), none⟩ ::
[]))))
(.plain (
⟨(some 81), .bin .add (.tmp 51) (.const (.int .i64 1)), none⟩ ::
⟨(some 51), .mv (.tmp 81), none⟩ ::
[]))))))))
(.seq
(.plain (
⟨(some 82), .load true 32 (.tmp 5), none⟩ ::
⟨none, .store 32 (.tmp 2) (.tmp 82), none⟩ ::
[]))
.ret))))))))))
theorem prep44 : prepFunc Tryz.prog 0 44 = some F44 := by kernel_rfl
def F47 : AFunc where
  ntmps := 36
  nparams := 1
  results := [(2, none)]
  code :=
(.seq
(.plain (
⟨(some 2), .mv (.const (.slice none 0 0)), none⟩ ::
[]))
(.seq
(.plain (
⟨(some 3), .mv (.const (.int .i64 0)), none⟩ ::
[]))
(.seq
(.seq
(.plain (
⟨(some 9), .mv (.tmp 0), none⟩ ::
⟨(some 10), .len (.tmp 9), none⟩ ::
⟨(some 11), .mv (.const (.int .i64 0)), none⟩ ::
[]))
(.block 0
(.loop
(.seq
(.plain (
⟨(some 12), .bin .lss (.tmp 11) (.tmp 10), none⟩ ::
[]))
(.seq
(.cond (.tmp 12)
.skip
(.exit 0))
(.seq
(.block 1
(.seq
(.plain (
⟨(some 13), .iaS 1 (.tmp 9) (.tmp 11), none⟩ ::
⟨(some 14), .load false 1 (.tmp 13), none⟩ ::
⟨(some 5), .mv (.tmp 14), none⟩ ::
[]))
(.seq
(.plain (
⟨(some 15), .mv (.tmp 3), none⟩ ::
⟨(some 16), .mv (.tmp 5), none⟩ ::
⟨(some 17), .len (.tmp 16), none⟩ ::
⟨(some 18), .bin .add (.tmp 15) (.tmp 17), none⟩ ::
⟨(some 3), .mv (.tmp 18), none⟩ ::
[]))
(.seq
(.plain (
⟨(some 19), .mv (.tmp 3), none⟩ ::
⟨(some 20), .bin .lss (.tmp 19) (.const (.int .i64 0)), none⟩ ::
[]))
(.cond (.tmp 20)
(.plain (
⟨(some 21), .mki 9 (.const (.string ⟨#[108, 101, 110, 32, 111, 117, 116, 32, 111, 102, 32, 114, 97, 110, 103, 101]⟩)), none⟩ ::
⟨none, .pan (.tmp 21), none⟩ ::
[]))
.skip)))))
(.plain (
⟨(some 22), .bin .add (.tmp 11) (.const (.int .i64 1)), none⟩ ::
⟨(some 11), .mv (.tmp 22), none⟩ ::
[]))))))))
(.seq
(.plain (
⟨(some 23), .mv (.tmp 3), none⟩ ::
⟨(some 24), .callF 76 [(.const (.slice none 0 0)), (.tmp 23)], none⟩ ::
⟨(some 6), .mv (.tmp 24), none⟩ ::
[]))
(.seq
(.seq
(.plain (
⟨(some 25), .mv (.tmp 0), none⟩ ::
⟨(some 26), .len (.tmp 25), none⟩ ::
⟨(some 27), .mv (.const (.int .i64 0)), none⟩ ::
[]))
(.block 2
(.loop
(.seq
(.plain (
⟨(some 28), .bin .lss (.tmp 27) (.tmp 26), none⟩ ::
[]))
(.seq
(.cond (.tmp 28)
.skip
(.exit 2))
(.seq
(.block 3
(.seq
(.plain (
⟨(some 29), .iaS 1 (.tmp 25) (.tmp 27), none⟩ ::
⟨(some 30), .load false 1 (.tmp 29), none⟩ ::
⟨(some 8), .mv (.tmp 30), none⟩ ::
[]))
(.plain (
⟨(some 31), .mv (.tmp 6), none⟩ ::
⟨(some 32), .mv (.tmp 8), none⟩ ::
⟨(some 33), .app 1 24 (.tmp 31) (.tmp 32), none⟩ ::
⟨(some 6), .mv (.tmp 33), none⟩ ::
[]))))
(.plain (
⟨(some 34), .bin .add (.tmp 27) (.const (.int .i64 1)), none⟩ ::
⟨(some 27), .mv (.tmp 34), none⟩ ::
[]))))))))
(.seq
(.plain (
⟨(some 35), .mv (.tmp 6), none⟩ ::
⟨(some 2), .mv (.tmp 35), none⟩ ::
[]))
.ret))))))
theorem prep47 : prepFunc Tryz.prog 0 47 = some F47 := by kernel_rfl
def F48 : AFunc where
  ntmps := 18
  nparams := 1
  results := [(2, none)]
  code :=
(.seq
(.plain (
⟨(some 1), .boxR 32 (.tmp 0), none⟩ ::
⟨(some 2), .mv (.const (.slice none 0 0)), none⟩ ::
[]))
(.seq
(.plain (
⟨(some 4), .bld [(.sl [] .nil), (.v (.int .i64 0))] [], none⟩ ::
⟨(some 5), .box 138 (.tmp 4), none⟩ ::
⟨(some 3), .mv (.tmp 5), none⟩ ::
[]))
(.seq
(.plain (
⟨(some 6), .mv (.tmp 3), none⟩ ::
⟨(some 7), .fa 0 (.tmp 1), none⟩ ::
⟨(some 8), .load false 1 (.tmp 7), none⟩ ::
⟨(some 9), .callF 77 [(.tmp 6), (.tmp 8)], none⟩ ::
[]))
(.seq
(.draw (
⟨(some 10), .mv (.tmp 3), none⟩ ::
⟨(some 11), .callF 78 [(.tmp 10)], none⟩ ::
⟨(some 12), .fa 1 (.tmp 1), none⟩ ::
⟨(some 13), .slcR 1 32 (.tmp 12) none none, none⟩ ::
⟨(some 14), .fa 33 (.tmp 1), none⟩ ::
⟨(some 15), .slcR 1 32 (.tmp 14) none none, none⟩ ::
⟨(some 16), .bsl 1 [(.tmp 11), (.tmp 13), (.tmp 15)], none⟩ ::
⟨(some 17), .callF 12 [(.const (.int .u8 68)), (.tmp 16)], none⟩ ::
⟨(some 2), .mv (.tmp 17), none⟩ ::
[])
(⟨0, [], []⟩ :: ⟨2, [], []⟩ :: ⟨3, [], []⟩ :: ⟨4, [], []⟩ :: ⟨5, [], []⟩ :: ⟨1, [], [3, 5]⟩ :: ⟨6, [], []⟩ :: ⟨7, [], []⟩ :: ⟨8, [], []⟩ :: []))
.ret))))
theorem prep48 : prepFunc Tryz.prog 0 48 = some F48 := by kernel_rfl
def F49 : AFunc where
  ntmps := 12
  nparams := 1
  results := [(2, (some (true, 32)))]
  code :=
(.seq
(.plain (
⟨(some 1), .box 35 (.tmp 0), none⟩ ::
⟨(some 2), .alloc 30 (List.replicate 32 (.v (.int .u8 0))), none⟩ ::
[]))
(.seq
(.plain (
⟨(some 4), .load true 97 (.tmp 1), none⟩ ::
⟨(some 5), .callF 33 [(.tmp 4)], none⟩ ::
⟨(some 3), .mv (.tmp 5), none⟩ ::
[]))
(.seq
(.seq
(.plain (
⟨(some 6), .mv (.tmp 3), none⟩ ::
⟨(some 7), .len (.tmp 6), none⟩ ::
⟨(some 8), .bin .eql (.tmp 7) (.const (.int .i64 0)), none⟩ ::
[]))
(.cond (.tmp 8)
(.seq
(.plain (
⟨(some 9), .bld (List.replicate 32 (.v (.int .u8 0))) [], none⟩ ::
⟨none, .store 32 (.tmp 2) (.tmp 9), none⟩ ::
[]))
.ret)
.skip))
(.seq
(.plain (
⟨(some 10), .mv (.tmp 3), none⟩ ::
⟨(some 11), .callF 14 [(.tmp 10)], none⟩ ::
⟨none, .store 32 (.tmp 2) (.tmp 11), none⟩ ::
[]))
.ret))))
theorem prep49 : prepFunc Tryz.prog 0 49 = some F49 := by kernel_rfl
def F50 : AFunc where
  ntmps := 81
  nparams := 5
  results := [(10, (some (true, 32))), (11, (some (true, 32)))]
  code :=
(.seq
(.plain (
⟨(some 6), .box 30 (.tmp 1), none⟩ ::
⟨(some 10), .alloc 30 (List.replicate 32 (.v (.int .u8 0))), none⟩ ::
⟨(some 11), .alloc 30 (List.replicate 32 (.v (.int .u8 0))), none⟩ ::
[]))
(.seq
(.seq
(.plain (
⟨(some 18), .mv (.tmp 2), none⟩ ::
⟨(some 19), .mv (.tmp 3), none⟩ ::
⟨(some 20), .bin .eql (.tmp 18) (.tmp 19), none⟩ ::
⟨(some 21), .mv (.tmp 20), none⟩ ::
⟨(some 22), .mv (.tmp 4), (some (21, true))⟩ ::
⟨(some 23), .pick (.tmp 21) (.tmp 22) (.const (.bool false)), none⟩ ::
[]))
(.cond (.tmp 23)
(.seq
(.draw (
⟨(some 24), .load true 32 (.tmp 6), none⟩ ::
⟨(some 25), .load true 32 (.tmp 6), none⟩ ::
⟨none, .store 32 (.tmp 10) (.tmp 24), none⟩ ::
⟨none, .store 32 (.tmp 11) (.tmp 25), none⟩ ::
[])
(⟨0, [], []⟩ :: ⟨1, [], []⟩ :: ⟨2, [], [1]⟩ :: ⟨3, [], []⟩ :: []))
.ret)
.skip))
(.seq
(.plain (
⟨(some 26), .mv (.tmp 0), none⟩ ::
⟨(some 27), .callF 79 [(.tmp 26)], none⟩ ::
⟨(some 12), .alloc 30 (List.replicate 32 (.v (.int .u8 0))), none⟩ ::
⟨none, .store 32 (.tmp 12) (.tmp 27), none⟩ ::
[]))
(.seq
(.seq
(.plain (
⟨(some 28), .mv (.tmp 0), none⟩ ::
⟨(some 29), .nilc (.tmp 28), none⟩ ::
⟨(some 30), .fa 2 (.tmp 29), none⟩ ::
⟨(some 31), .load false 1 (.tmp 30), none⟩ ::
⟨(some 32), .mv (.tmp 31), none⟩ ::
⟨(some 33), .mv (.tmp 2), (some (32, false))⟩ ::
⟨(some 34), .mv (.tmp 3), (some (32, false))⟩ ::
⟨(some 35), .bin .eql (.tmp 33) (.tmp 34), (some (32, false))⟩ ::
⟨(some 36), .pick (.tmp 32) (.const (.bool true)) (.tmp 35), none⟩ ::
[]))
(.cond (.tmp 36)
(.seq
(.draw (
⟨(some 37), .load true 32 (.tmp 12), none⟩ ::
⟨(some 38), .load true 32 (.tmp 12), none⟩ ::
⟨none, .store 32 (.tmp 10) (.tmp 37), none⟩ ::
⟨none, .store 32 (.tmp 11) (.tmp 38), none⟩ ::
[])
(⟨0, [], []⟩ :: ⟨1, [], []⟩ :: ⟨2, [], [1]⟩ :: ⟨3, [], []⟩ :: []))
.ret)
.skip))
(.seq
(.plain (
⟨(some 39), .mv (.tmp 3), none⟩ ::
⟨(some 40), .callF 80 [(.tmp 39)], none⟩ ::
⟨(some 13), .mv (.tmp 40), none⟩ ::
[]))
(.seq
(.seq
(.plain (
⟨(some 41), .mv (.tmp 2), none⟩ ::
⟨(some 42), .mv (.tmp 13), none⟩ ::
⟨(some 43), .bin .leq (.tmp 41) (.tmp 42), none⟩ ::
[]))
(.cond (.tmp 43)
(.seq
(.plain (
⟨(some 45), .mv (.tmp 0), none⟩ ::
⟨(some 46), .load true 32 (.tmp 6), none⟩ ::
⟨(some 47), .mv (.tmp 2), none⟩ ::
⟨(some 48), .mv (.tmp 13), none⟩ ::
⟨(some 49), .mv (.tmp 4), none⟩ ::
⟨(some 50), .callF 50 [(.tmp 45), (.tmp 46), (.tmp 47), (.tmp 48), (.tmp 49)], none⟩ ::
⟨(some 44), .mv (.tmp 50), none⟩ ::
⟨(some 51), .ext (.tmp 44) 0, none⟩ ::
⟨(some 52), .ext (.tmp 44) 1, none⟩ ::
⟨(some 14), .alloc 30 (List.replicate 32 (.v (.int .u8 0))), none⟩ ::
⟨(some 15), .alloc 30 (List.replicate 32 (.v (.int .u8 0))), none⟩ ::
⟨none, .store 32 (.tmp 14) (.tmp 51), none⟩ ::
⟨none, .store 32 (.tmp 15) (.tmp 52), none⟩ ::
[]))
(.seq
(.draw (
⟨(some 53), .load true 32 (.tmp 14), none⟩ ::
⟨(some 54), .mv (.tmp 0), none⟩ ::
⟨(some 55), .load true 32 (.tmp 15), none⟩ ::
⟨(some 56), .load true 32 (.tmp 12), none⟩ ::
⟨(some 57), .callF 82 [(.tmp 55), (.tmp 56)], none⟩ ::
⟨(some 58), .callF 81 [(.tmp 54), (.tmp 57)], none⟩ ::
⟨none, .store 32 (.tmp 10) (.tmp 53), none⟩ ::
⟨none, .store 32 (.tmp 11) (.tmp 58), none⟩ ::
[])
(⟨0, [], []⟩ :: ⟨1, [], []⟩ :: ⟨2, [], []⟩ :: ⟨3, [], []⟩ :: ⟨4, [], [0]⟩ :: ⟨5, [], [0]⟩ :: ⟨6, [], []⟩ :: ⟨7, [], []⟩ :: []))
.ret))
.skip))
(.seq
(.plain (
⟨(some 60), .mv (.tmp 0), none⟩ ::
⟨(some 61), .load true 32 (.tmp 6), none⟩ ::
⟨(some 62), .mv (.tmp 2), none⟩ ::
⟨(some 63), .mv (.tmp 13), none⟩ ::
⟨(some 64), .bin .sub (.tmp 62) (.tmp 63), none⟩ ::
⟨(some 65), .mv (.tmp 3), none⟩ ::
⟨(some 66), .mv (.tmp 13), none⟩ ::
⟨(some 67), .bin .sub (.tmp 65) (.tmp 66), none⟩ ::
⟨(some 68), .callF 50 [(.tmp 60), (.tmp 61), (.tmp 64), (.tmp 67), (.const (.bool false))], none⟩ ::
⟨(some 59), .mv (.tmp 68), none⟩ ::
⟨(some 69), .ext (.tmp 59) 0, none⟩ ::
⟨(some 70), .ext (.tmp 59) 1, none⟩ ::
⟨(some 16), .alloc 30 (List.replicate 32 (.v (.int .u8 0))), none⟩ ::
⟨(some 17), .alloc 30 (List.replicate 32 (.v (.int .u8 0))), none⟩ ::
⟨none, .store 32 (.tmp 16) (.tmp 69), none⟩ ::
⟨none, .store 32 (.tmp 17) (.tmp 70), none⟩ ::
[]))
(.seq
(.draw (
⟨(some 71), .mv (.tmp 0), none⟩ ::
⟨(some 72), .load true 32 (.tmp 12), none⟩ ::
⟨(some 73), .load true 32 (.tmp 16), none⟩ ::
⟨(some 74), .callF 82 [(.tmp 72), (.tmp 73)], none⟩ ::
⟨(some 75), .callF 81 [(.tmp 71), (.tmp 74)], none⟩ ::
⟨(some 76), .mv (.tmp 0), none⟩ ::
⟨(some 77), .load true 32 (.tmp 12), none⟩ ::
⟨(some 78), .load true 32 (.tmp 17), none⟩ ::
⟨(some 79), .callF 82 [(.tmp 77), (.tmp 78)], none⟩ ::
⟨(some 80), .callF 81 [(.tmp 76), (.tmp 79)], none⟩ ::
⟨none, .store 32 (.tmp 10) (.tmp 75), none⟩ ::
⟨none, .store 32 (.tmp 11) (.tmp 80), none⟩ ::
[])
(⟨0, [], []⟩ :: ⟨1, [], []⟩ :: ⟨2, [], []⟩ :: ⟨5, [], []⟩ :: ⟨6, [], []⟩ :: ⟨7, [], []⟩ :: ⟨3, [], [6, 7]⟩ :: ⟨4, [], [6, 7]⟩ :: ⟨8, [], []⟩ :: ⟨9, [], []⟩ :: ⟨10, [], []⟩ :: ⟨11, [], []⟩ :: []))
.ret))))))))
theorem prep50 : prepFunc Tryz.prog 0 50 = some F50 := by kernel_rfl
end Go.Proofs.YtnnjjmiahcnbaaaGreat
set_option maxRecDepth 100000
namespace Go.Proofs.YtnnjjmiahcnbaaaGreat
open Go Go.Av
theorem hm_1 : Tryz.prog.follows .mixedOrders = true := by kernel_rfl
def F51 : AFunc where
  ntmps := 34
  nparams := 1
  results := [(2, none), (3, none)]
  code :=
(.seq
(.plain (
⟨(some 2), .mv (.const (.slice none 0 0)), none⟩ ::
⟨(some 3), .mv (.const (.int .i64 0)), none⟩ ::
[]))
(.seq
(.seq
(.plain (
⟨(some 7), .mv (.tmp 0), none⟩ ::
⟨(some 8), .len (.tmp 7), none⟩ ::
⟨(some 9), .bin .gtr (.tmp 8) (.const (.int .i64 256)), none⟩ ::
⟨(some 10), .mv (.tmp 9), none⟩ ::
⟨(some 11), .mv (.tmp 0), (some (10, false))⟩ ::
⟨(some 12), .callF 83 [(.tmp 11), (.func 84)], (some (10, false))⟩ ::
⟨(some 13), .pick (.tmp 10) (.const (.bool true)) (.tmp 12), none⟩ ::
[]))
(.cond (.tmp 13)
(.seq
(.plain (
⟨(some 2), .mv (.const (.slice none 0 0)), none⟩ ::
⟨(some 3), .mv (.const (.int .i64 1)), none⟩ ::
[]))
.ret)
.skip))
(.seq
(.plain (
⟨(some 14), .bld [(.sl [] .nil), (.v (.int .i64 0))] [], none⟩ ::
⟨(some 15), .box 138 (.tmp 14), none⟩ ::
⟨(some 4), .mv (.tmp 15), none⟩ ::
[]))
(.seq
(.plain (
⟨(some 16), .mv (.tmp 4), none⟩ ::
⟨(some 17), .mv (.tmp 0), none⟩ ::
⟨(some 18), .len (.tmp 17), none⟩ ::
⟨(some 19), .callF 86 [(.tmp 16), (.tmp 18)], none⟩ ::
[]))
(.seq
(.seq
(.plain (
⟨(some 20), .mv (.tmp 0), none⟩ ::
⟨(some 21), .len (.tmp 20), none⟩ ::
⟨(some 22), .mv (.const (.int .i64 0)), none⟩ ::
[]))
(.block 0
(.loop
(.seq
(.plain (
⟨(some 23), .bin .lss (.tmp 22) (.tmp 21), none⟩ ::
[]))
(.seq
(.cond (.tmp 23)
.skip
(.exit 0))
(.seq
(.block 1
(.seq
(.plain (
⟨(some 24), .iaS 4 (.tmp 20) (.tmp 22), none⟩ ::
⟨(some 25), .load true 4 (.tmp 24), none⟩ ::
⟨(some 6), .alloc 147 [(.v (.int .u8 0)), (.v (.string ⟨#[]⟩)), (.sl [] .nil), (.sl [] .nil)], none⟩ ::
⟨none, .store 4 (.tmp 6) (.tmp 25), none⟩ ::
[]))
(.plain (
⟨(some 26), .mv (.tmp 4), none⟩ ::
⟨(some 27), .load true 4 (.tmp 6), none⟩ ::
⟨(some 28), .callF 87 [(.tmp 26), (.tmp 27)], none⟩ ::
[]))))
(.plain (
⟨(some 29), .bin .add (.tmp 22) (.const (.int .i64 1)), none⟩ ::
⟨(some 22), .mv (.tmp 29), none⟩ ::
[]))))))))
(.seq
(.plain (
⟨(some 30), .mv (.tmp 4), none⟩ ::
⟨(some 31), .callF 78 [(.tmp 30)], none⟩ ::
⟨(some 32), .mv (.tmp 4), none⟩ ::
⟨(some 33), .callF 88 [(.tmp 32)], none⟩ ::
⟨(some 2), .mv (.tmp 31), none⟩ ::
⟨(some 3), .mv (.tmp 33), none⟩ ::
[]))
.ret))))))
theorem prep51 : prepFunc Tryz.prog 0 51 = some F51 := by kernel_rfl
def F52 : AFunc where
  ntmps := 7
  nparams := 1
  results := [(2, none)]
  code :=
(.seq
(.plain (
⟨(some 2), .mv (.const (.pointer none)), none⟩ ::
[]))
(.seq
(.plain (
⟨(some 3), .mv (.tmp 0), none⟩ ::
⟨(some 4), .callF 16 [(.tmp 3)], none⟩ ::
⟨(some 5), .bld [(.sl [] .nil), (.v (.int .i64 0))] [(0, 1, (.tmp 4))], none⟩ ::
⟨(some 6), .box 151 (.tmp 5), none⟩ ::
⟨(some 2), .mv (.tmp 6), none⟩ ::
[]))
.ret))
theorem prep52 : prepFunc Tryz.prog 0 52 = some F52 := by kernel_rfl
def F53 : AFunc where
  ntmps := 17
  nparams := 2
  results := [(4, none)]
  code :=
(.seq
(.plain (
⟨(some 4), .mv (.const (.slice none 0 0)), none⟩ ::
[]))
(.seq
(.plain (
⟨(some 8), .mv (.tmp 0), none⟩ ::
⟨(some 9), .mv (.tmp 0), none⟩ ::
⟨(some 10), .mv (.tmp 1), none⟩ ::
⟨(some 11), .callF 90 [(.tmp 9), (.tmp 10)], none⟩ ::
⟨(some 12), .callF 89 [(.tmp 8), (.tmp 11)], none⟩ ::
⟨(some 7), .mv (.tmp 12), none⟩ ::
⟨(some 13), .ext (.tmp 7) 0, none⟩ ::
⟨(some 14), .ext (.tmp 7) 1, none⟩ ::
⟨(some 5), .mv (.tmp 13), none⟩ ::
⟨(some 6), .mv (.tmp 14), none⟩ ::
[]))
(.seq
(.plain (
⟨(some 15), .mv (.tmp 5), none⟩ ::
⟨(some 16), .callF 16 [(.tmp 15)], none⟩ ::
⟨(some 4), .mv (.tmp 16), none⟩ ::
[]))
.ret)))
theorem prep53 : prepFunc Tryz.prog 0 53 = some F53 := by kernel_rfl
def F54 : AFunc where
  ntmps := 15
  nparams := 1
  results := [(2, none)]
  code :=
(.seq
(.plain (
⟨(some 2), .mv (.const (.int .i64 0)), none⟩ ::
[]))
(.seq
(.seq
(.plain (
⟨(some 3), .mv (.tmp 0), none⟩ ::
⟨(some 4), .nilc (.tmp 3), none⟩ ::
⟨(some 5), .fa 0 (.tmp 4), none⟩ ::
⟨(some 6), .load false 1 (.tmp 5), none⟩ ::
⟨(some 7), .len (.tmp 6), none⟩ ::
⟨(some 8), .bin .gtr (.tmp 7) (.const (.int .i64 0)), none⟩ ::
[]))
(.cond (.tmp 8)
(.plain (
⟨(some 9), .mv (.tmp 0), none⟩ ::
⟨(some 10), .callF 91 [(.tmp 9), (.const (.int .i64 22))], none⟩ ::
[]))
.skip))
(.seq
(.plain (
⟨(some 11), .mv (.tmp 0), none⟩ ::
⟨(some 12), .nilc (.tmp 11), none⟩ ::
⟨(some 13), .fa 1 (.tmp 12), none⟩ ::
⟨(some 14), .load false 1 (.tmp 13), none⟩ ::
⟨(some 2), .mv (.tmp 14), none⟩ ::
[]))
.ret)))
theorem prep54 : prepFunc Tryz.prog 0 54 = some F54 := by kernel_rfl
def F55 : AFunc where
  ntmps := 35
  nparams := 1
  results := [(2, (some (true, 97))), (3, none)]
  code :=
(.seq
(.plain (
⟨(some 2), .alloc 35 (List.replicate 32 (.v (.int .u8 0)) ++ [(.v (.int .i64 0))] ++ List.replicate 64 (.v (.int .u8 0))), none⟩ ::
⟨(some 3), .mv (.const (.int .i64 0)), none⟩ ::
[]))
(.seq
(.plain (
⟨(some 7), .mv (.tmp 0), none⟩ ::
⟨(some 8), .callF 52 [(.tmp 7)], none⟩ ::
⟨(some 4), .mv (.tmp 8), none⟩ ::
[]))
(.seq
(.plain (
⟨(some 9), .mv (.tmp 4), none⟩ ::
⟨(some 10), .callF 92 [(.tmp 9)], none⟩ ::
⟨(some 11), .bld (List.replicate 32 (.v (.int .u8 0)) ++ [(.v (.int .i64 0))] ++ List.replicate 64 (.v (.int .u8 0))) [(0, 32, (.tmp 10))], none⟩ ::
⟨(some 5), .alloc 35 (List.replicate 32 (.v (.int .u8 0)) ++ [(.v (.int .i64 0))] ++ List.replicate 64 (.v (.int .u8 0))), none⟩ ::
⟨none, .store 97 (.tmp 5) (.tmp 11), none⟩ ::
[]))
(.seq
(.plain (
⟨(some 12), .mv (.tmp 4), none⟩ ::
⟨(some 13), .callF 93 [(.tmp 12)], none⟩ ::
⟨(some 6), .mv (.tmp 13), none⟩ ::
[]))
(.seq
(.plain (
⟨(some 14), .mv (.tmp 4), none⟩ ::
⟨(some 15), .callF 92 [(.tmp 14)], none⟩ ::
⟨(some 16), .fa 33 (.tmp 5), none⟩ ::
⟨none, .store 32 (.tmp 16) (.tmp 15), none⟩ ::
[]))
(.seq
(.plain (
⟨(some 17), .mv (.tmp 4), none⟩ ::
⟨(some 18), .callF 92 [(.tmp 17)], none⟩ ::
⟨(some 19), .fa 65 (.tmp 5), none⟩ ::
⟨none, .store 32 (.tmp 19) (.tmp 18), none⟩ ::
[]))
(.seq
(.seq
(.plain (
⟨(some 20), .mv (.tmp 4), none⟩ ::
⟨(some 21), .callF 54 [(.tmp 20)], none⟩ ::
⟨(some 22), .bin .neq (.tmp 21) (.const (.int .i64 0)), none⟩ ::
⟨(some 23), .mv (.tmp 22), none⟩ ::
⟨(some 24), .mv (.tmp 6), (some (23, false))⟩ ::
⟨(some 25), .bin .lss (.tmp 24) (.const (.int .i64 0)), (some (23, false))⟩ ::
⟨(some 26), .pick (.tmp 23) (.const (.bool true)) (.tmp 25), none⟩ ::
⟨(some 27), .mv (.tmp 26), none⟩ ::
⟨(some 28), .mv (.tmp 6), (some (27, false))⟩ ::
⟨(some 29), .bin .gtr (.tmp 28) (.const (.int .i64 1099511627776)), (some (27, false))⟩ ::
⟨(some 30), .pick (.tmp 27) (.const (.bool true)) (.tmp 29), none⟩ ::
[]))
(.cond (.tmp 30)
(.seq
(.plain (
⟨(some 31), .bld (List.replicate 32 (.v (.int .u8 0)) ++ [(.v (.int .i64 0))] ++ List.replicate 64 (.v (.int .u8 0))) [], none⟩ ::
⟨none, .store 97 (.tmp 2) (.tmp 31), none⟩ ::
⟨(some 3), .mv (.const (.int .i64 21)), none⟩ ::
[]))
.ret)
.skip))
(.seq
(.plain (
⟨(some 32), .mv (.tmp 6), none⟩ ::
⟨(some 33), .fa 32 (.tmp 5), none⟩ ::
⟨none, .store 1 (.tmp 33) (.tmp 32), none⟩ ::
[]))
(.seq
(.plain (
⟨(some 34), .load true 97 (.tmp 5), none⟩ ::
⟨none, .store 97 (.tmp 2) (.tmp 34), none⟩ ::
⟨(some 3), .mv (.const (.int .i64 0)), none⟩ ::
[]))
.ret)))))))))
theorem prep55 : prepFunc Tryz.prog 0 55 = some F55 := by kernel_rfl
def F56 : AFunc where
  ntmps := 42
  nparams := 1
  results := [(2, none), (3, none)]
  code :=
(.seq
(.plain (
⟨(some 2), .mv (.const (.slice none 0 0)), none⟩ ::
⟨(some 3), .mv (.const (.int .i64 0)), none⟩ ::
[]))
(.seq
(.plain (
⟨(some 9), .mv (.tmp 0), none⟩ ::
⟨(some 10), .callF 52 [(.tmp 9)], none⟩ ::
⟨(some 4), .mv (.tmp 10), none⟩ ::
[]))
(.seq
(.plain (
⟨(some 5), .mv (.const (.slice none 0 0)), none⟩ ::
[]))
(.seq
(.seq
(.plain (
⟨(some 11), .mv (.tmp 4), none⟩ ::
⟨(some 12), .callF 90 [(.tmp 11), (.const (.int .i64 256))], none⟩ ::
⟨(some 13), .mv (.const (.int .i64 0)), none⟩ ::
[]))
(.block 0
(.loop
(.seq
(.plain (
⟨(some 14), .bin .lss (.tmp 13) (.tmp 12), none⟩ ::
[]))
(.seq
(.cond (.tmp 14)
.skip
(.exit 0))
(.seq
(.block 1
(.seq
(.plain (
⟨(some 15), .mv (.tmp 4), none⟩ ::
⟨(some 16), .callF 94 [(.tmp 15)], none⟩ ::
⟨(some 6), .alloc 147 [(.v (.int .u8 0)), (.v (.string ⟨#[]⟩)), (.sl [] .nil), (.sl [] .nil)], none⟩ ::
⟨none, .store 4 (.tmp 6) (.tmp 16), none⟩ ::
[]))
(.seq
(.seq
(.plain (
⟨(some 17), .mv (.tmp 4), none⟩ ::
⟨(some 18), .callF 95 [(.tmp 17)], none⟩ ::
⟨(some 19), .bin .neq (.tmp 18) (.const (.int .i64 0)), none⟩ ::
[]))
(.cond (.tmp 19)
(.seq
(.plain (
⟨(some 2), .mv (.const (.slice none 0 0)), none⟩ ::
⟨(some 3), .mv (.const (.int .i64 21)), none⟩ ::
[]))
.ret)
.skip))
(.plain (
⟨(some 20), .mv (.tmp 5), none⟩ ::
⟨(some 21), .load true 4 (.tmp 6), none⟩ ::
⟨(some 22), .bsl 4 [(.tmp 21)], none⟩ ::
⟨(some 23), .app 4 72 (.tmp 20) (.tmp 22), none⟩ ::
⟨(some 5), .mv (.tmp 23), none⟩ ::
[])))))
(.plain (
⟨(some 24), .bin .add (.tmp 13) (.const (.int .i64 1)), none⟩ ::
⟨(some 13), .mv (.tmp 24), none⟩ ::
[]))))))))
(.seq
(.seq
(.plain (
⟨(some 25), .mv (.tmp 4), none⟩ ::
⟨(some 26), .callF 54 [(.tmp 25)], none⟩ ::
⟨(some 27), .bin .neq (.tmp 26) (.const (.int .i64 0)), none⟩ ::
[]))
(.cond (.tmp 27)
(.seq
(.plain (
⟨(some 2), .mv (.const (.slice none 0 0)), none⟩ ::
⟨(some 3), .mv (.const (.int .i64 21)), none⟩ ::
[]))
.ret)
.skip))
(.seq
(.seq
(.plain (
⟨(some 29), .mv (.tmp 5), none⟩ ::
⟨(some 30), .callF 51 [(.tmp 29)], none⟩ ::
⟨(some 28), .mv (.tmp 30), none⟩ ::
⟨(some 31), .ext (.tmp 28) 0, none⟩ ::
⟨(some 32), .ext (.tmp 28) 1, none⟩ ::
⟨(some 7), .mv (.tmp 31), none⟩ ::
⟨(some 8), .mv (.tmp 32), none⟩ ::
[]))
(.seq
(.plain (
⟨(some 33), .mv (.tmp 8), none⟩ ::
⟨(some 34), .bin .neq (.tmp 33) (.const (.int .i64 0)), none⟩ ::
⟨(some 35), .mv (.tmp 34), none⟩ ::
⟨(some 36), .mv (.tmp 7), (some (35, false))⟩ ::
⟨(some 37), .mv (.tmp 0), (some (35, false))⟩ ::
⟨(some 38), .callF 15 [(.tmp 36), (.tmp 37)], (some (35, false))⟩ ::
⟨(some 39), .un .not (.tmp 38), (some (35, false))⟩ ::
⟨(some 40), .pick (.tmp 35) (.const (.bool true)) (.tmp 39), none⟩ ::
[]))
(.cond (.tmp 40)
(.seq
(.plain (
⟨(some 2), .mv (.const (.slice none 0 0)), none⟩ ::
⟨(some 3), .mv (.const (.int .i64 21)), none⟩ ::
[]))
.ret)
.skip)))
(.seq
(.plain (
⟨(some 41), .mv (.tmp 5), none⟩ ::
⟨(some 2), .mv (.tmp 41), none⟩ ::
⟨(some 3), .mv (.const (.int .i64 0)), none⟩ ::
[]))
.ret)))))))
theorem prep56 : prepFunc Tryz.prog 0 56 = some F56 := by kernel_rfl
def F57 : AFunc where
  ntmps := 6
  nparams := 1
  results := [(2, (some (true, 32)))]
  code :=
(.seq
(.plain (
⟨(some 2), .alloc 30 (List.replicate 32 (.v (.int .u8 0))), none⟩ ::
[]))
(.seq
(.plain (
⟨(some 3), .mv (.tmp 0), none⟩ ::
⟨(some 4), .bsl 1 [(.tmp 3)], none⟩ ::
⟨(some 5), .callF 59 [(.const (.int .u8 79)), (.tmp 4)], none⟩ ::
⟨none, .store 32 (.tmp 2) (.tmp 5), none⟩ ::
[]))
.ret))
theorem prep57 : prepFunc Tryz.prog 0 57 = some F57 := by kernel_rfl
def F58 : AFunc where
  ntmps := 32
  nparams := 5
  results := [(10, none)]
  code :=
(.seq
(.plain (
⟨(some 5), .box 30 (.tmp 0), none⟩ ::
⟨(some 8), .box 30 (.tmp 3), none⟩ ::
⟨(some 10), .mv (.const (.bool false)), none⟩ ::
[]))
(.seq
(.plain (
⟨(some 14), .mv (.tmp 1), none⟩ ::
⟨(some 15), .mv (.tmp 2), none⟩ ::
⟨(some 16), .load true 32 (.tmp 8), none⟩ ::
⟨(some 17), .mv (.tmp 4), none⟩ ::
⟨(some 18), .callF 66 [(.tmp 14), (.tmp 15), (.tmp 16), (.tmp 17)], none⟩ ::
⟨(some 13), .mv (.tmp 18), none⟩ ::
⟨(some 19), .ext (.tmp 13) 0, none⟩ ::
⟨(some 20), .ext (.tmp 13) 1, none⟩ ::
⟨(some 12), .alloc 30 (List.replicate 32 (.v (.int .u8 0))), none⟩ ::
⟨(some 11), .mv (.tmp 19), none⟩ ::
⟨none, .store 32 (.tmp 12) (.tmp 20), none⟩ ::
[]))
(.seq
(.plain (
⟨(some 21), .mv (.tmp 11), none⟩ ::
⟨(some 22), .eqp true (.tmp 21) (.const (.pointer none)), none⟩ ::
⟨(some 23), .mv (.tmp 22), none⟩ ::
⟨(some 24), .mv (.tmp 11), (some (23, true))⟩ ::
⟨(some 25), .callF 60 [(.tmp 24)], (some (23, true))⟩ ::
⟨(some 26), .pick (.tmp 23) (.tmp 25) (.const (.bool false)), none⟩ ::
⟨(some 27), .mv (.tmp 26), none⟩ ::
⟨(some 28), .load true 32 (.tmp 12), (some (27, true))⟩ ::
⟨(some 29), .load true 32 (.tmp 5), (some (27, true))⟩ ::
⟨(some 30), .eqv false [(32, .int .u8)] (.tmp 28) (.tmp 29), (some (27, true))⟩ ::
⟨(some 31), .pick (.tmp 27) (.tmp 30) (.const (.bool false)), none⟩ ::
⟨(some 10), .mv (.tmp 31), none⟩ ::
[]))
.ret)))
theorem prep58 : prepFunc Tryz.prog 0 58 = some F58 := by kernel_rfl
def F59 : AFunc where
  ntmps := 9
  nparams := 2
  results := [(4, (some (true, 32)))]
  code :=
(.seq
(.plain (
⟨(some 4), .alloc 30 (List.replicate 32 (.v (.int .u8 0))), none⟩ ::
[]))
(.seq
(.plain (
⟨(some 5), .mv (.tmp 0), none⟩ ::
⟨(some 6), .mv (.tmp 1), none⟩ ::
⟨(some 7), .callF 12 [(.tmp 5), (.tmp 6)], none⟩ ::
⟨(some 8), .callF 14 [(.tmp 7)], none⟩ ::
⟨none, .store 32 (.tmp 4) (.tmp 8), none⟩ ::
[]))
.ret))
theorem prep59 : prepFunc Tryz.prog 0 59 = some F59 := by kernel_rfl
def F60 : AFunc where
  ntmps := 16
  nparams := 1
  results := [(2, none)]
  code :=
(.seq
(.plain (
⟨(some 2), .mv (.const (.bool false)), none⟩ ::
[]))
(.seq
(.plain (
⟨(some 3), .mv (.tmp 0), none⟩ ::
⟨(some 4), .nilc (.tmp 3), none⟩ ::
⟨(some 5), .fa 2 (.tmp 4), none⟩ ::
⟨(some 6), .load false 1 (.tmp 5), none⟩ ::
⟨(some 7), .un .not (.tmp 6), none⟩ ::
⟨(some 8), .mv (.tmp 7), none⟩ ::
⟨(some 9), .mv (.tmp 0), (some (8, true))⟩ ::
⟨(some 10), .nilc (.tmp 9), (some (8, true))⟩ ::
⟨(some 11), .fa 0 (.tmp 10), (some (8, true))⟩ ::
⟨(some 12), .load false 1 (.tmp 11), (some (8, true))⟩ ::
⟨(some 13), .len (.tmp 12), (some (8, true))⟩ ::
⟨(some 14), .bin .eql (.tmp 13) (.const (.int .i64 0)), (some (8, true))⟩ ::
⟨(some 15), .pick (.tmp 8) (.tmp 14) (.const (.bool false)), none⟩ ::
⟨(some 2), .mv (.tmp 15), none⟩ ::
[]))
.ret))
theorem prep60 : prepFunc Tryz.prog 0 60 = some F60 := by kernel_rfl
def F61 : AFunc where
  ntmps := 30
  nparams := 1
  results := [(2, (some (true, 32)))]
  code :=
(.seq
(.plain (
⟨(some 2), .alloc 30 (List.replicate 32 (.v (.int .u8 0))), none⟩ ::
[]))
(.seq
(.plain (
⟨(some 5), .mv (.tmp 0), none⟩ ::
⟨(some 6), .len (.tmp 5), none⟩ ::
⟨(some 3), .mv (.tmp 6), none⟩ ::
[]))
(.seq
(.plain (
⟨(some 7), .mv (.tmp 3), none⟩ ::
[]))
(.block 0
(.seq
(.plain (
⟨(some 21), .bin .eql (.tmp 7) (.const (.int .i64 0)), none⟩ ::
⟨(some 20), .mv (.tmp 21), none⟩ ::
[]))
(.cond (.tmp 20)
(.seq
(.plain (
⟨(some 22), .callF 59 [(.const (.int .u8 72)), (.const (.slice none 0 0))], none⟩ ::
⟨none, .store 32 (.tmp 2) (.tmp 22), none⟩ ::
[]))
.ret)
(.seq
(.plain (
⟨(some 24), .bin .eql (.tmp 7) (.const (.int .i64 1)), none⟩ ::
⟨(some 23), .mv (.tmp 24), none⟩ ::
[]))
(.cond (.tmp 23)
(.seq
(.plain (
⟨(some 25), .mv (.tmp 0), none⟩ ::
⟨(some 26), .iaS 32 (.tmp 25) (.const (.int .i64 0)), none⟩ ::
⟨(some 27), .load true 32 (.tmp 26), none⟩ ::
⟨(some 28), .callF 96 [(.tmp 27)], none⟩ ::
⟨(some 29), .callF 14 [(.tmp 28)], none⟩ ::
⟨none, .store 32 (.tmp 2) (.tmp 29), none⟩ ::
[]))
.ret)
(.seq
(.plain (
⟨(some 8), .mv (.tmp 3), none⟩ ::
⟨(some 9), .callF 80 [(.tmp 8)], none⟩ ::
⟨(some 4), .mv (.tmp 9), none⟩ ::
[]))
(.seq
(.draw (
⟨(some 10), .mv (.tmp 0), none⟩ ::
⟨(some 11), .mv (.tmp 4), none⟩ ::
⟨(some 12), .slc 32 (.tmp 10) none (some (.tmp 11)), none⟩ ::
⟨(some 13), .callF 61 [(.tmp 12)], none⟩ ::
⟨(some 14), .mv (.tmp 0), none⟩ ::
⟨(some 15), .mv (.tmp 4), none⟩ ::
⟨(some 16), .slc 32 (.tmp 14) (some (.tmp 15)) none, none⟩ ::
⟨(some 17), .callF 61 [(.tmp 16)], none⟩ ::
⟨(some 18), .callF 82 [(.tmp 13), (.tmp 17)], none⟩ ::
⟨(some 19), .callF 14 [(.tmp 18)], none⟩ ::
⟨none, .store 32 (.tmp 2) (.tmp 19), none⟩ ::
[])
(⟨0, [], []⟩ :: ⟨1, [], []⟩ :: ⟨2, [], []⟩ :: ⟨4, [], []⟩ :: ⟨5, [], []⟩ :: ⟨6, [], []⟩ :: ⟨3, [], []⟩ :: ⟨7, [], []⟩ :: ⟨8, [], []⟩ :: ⟨9, [], []⟩ :: ⟨10, [], []⟩ :: []))
.ret))))))))))
theorem prep61 : prepFunc Tryz.prog 0 61 = some F61 := by kernel_rfl
def F65 : AFunc where
  ntmps := 35
  nparams := 1
  results := [(2, none), (3, none)]
  code :=
(.seq
(.plain (
⟨(some 1), .box 35 (.tmp 0), none⟩ ::
⟨(some 2), .mv (.const (.slice none 0 0)), none⟩ ::
⟨(some 3), .mv (.const (.int .i64 0)), none⟩ ::
[]))
(.seq
(.seq
(.plain (
⟨(some 5), .fa 32 (.tmp 1), none⟩ ::
⟨(some 6), .load false 1 (.tmp 5), none⟩ ::
⟨(some 7), .bin .lss (.tmp 6) (.const (.int .i64 0)), none⟩ ::
⟨(some 8), .mv (.tmp 7), none⟩ ::
⟨(some 9), .fa 32 (.tmp 1), (some (8, false))⟩ ::
⟨(some 10), .load false 1 (.tmp 9), (some (8, false))⟩ ::
⟨(some 11), .bin .gtr (.tmp 10) (.const (.int .i64 1099511627776)), (some (8, false))⟩ ::
⟨(some 12), .pick (.tmp 8) (.const (.bool true)) (.tmp 11), none⟩ ::
[]))
(.cond (.tmp 12)
(.seq
(.plain (
⟨(some 2), .mv (.const (.slice none 0 0)), none⟩ ::
⟨(some 3), .mv (.const (.int .i64 1)), none⟩ ::
[]))
.ret)
.skip))
(.seq
(.plain (
⟨(some 13), .bld [(.sl [] .nil), (.v (.int .i64 0))] [], none⟩ ::
⟨(some 14), .box 138 (.tmp 13), none⟩ ::
⟨(some 4), .mv (.tmp 14), none⟩ ::
[]))
(.seq
(.plain (
⟨(some 15), .mv (.tmp 4), none⟩ ::
⟨(some 16), .fa 0 (.tmp 1), none⟩ ::
⟨(some 17), .load true 32 (.tmp 16), none⟩ ::
⟨(some 18), .callF 99 [(.tmp 15), (.tmp 17)], none⟩ ::
[]))
(.seq
(.plain (
⟨(some 19), .mv (.tmp 4), none⟩ ::
⟨(some 20), .fa 32 (.tmp 1), none⟩ ::
⟨(some 21), .load false 1 (.tmp 20), none⟩ ::
⟨(some 22), .callF 77 [(.tmp 19), (.tmp 21)], none⟩ ::
[]))
(.seq
(.plain (
⟨(some 23), .mv (.tmp 4), none⟩ ::
⟨(some 24), .fa 33 (.tmp 1), none⟩ ::
⟨(some 25), .load true 32 (.tmp 24), none⟩ ::
⟨(some 26), .callF 99 [(.tmp 23), (.tmp 25)], none⟩ ::
[]))
(.seq
(.plain (
⟨(some 27), .mv (.tmp 4), none⟩ ::
⟨(some 28), .fa 65 (.tmp 1), none⟩ ::
⟨(some 29), .load true 32 (.tmp 28), none⟩ ::
⟨(some 30), .callF 99 [(.tmp 27), (.tmp 29)], none⟩ ::
[]))
(.seq
(.plain (
⟨(some 31), .mv (.tmp 4), none⟩ ::
⟨(some 32), .callF 78 [(.tmp 31)], none⟩ ::
⟨(some 33), .mv (.tmp 4), none⟩ ::
⟨(some 34), .callF 88 [(.tmp 33)], none⟩ ::
⟨(some 2), .mv (.tmp 32), none⟩ ::
⟨(some 3), .mv (.tmp 34), none⟩ ::
[]))
.ret))))))))
theorem prep65 : prepFunc Tryz.prog 0 65 = some F65 := by kernel_rfl
def F66 : AFunc where
  ntmps := 36
  nparams := 4
  results := [(8, none), (9, (some (true, 32)))]
  code :=
(.seq
(.plain (
⟨(some 6), .box 30 (.tmp 2), none⟩ ::
⟨(some 8), .mv (.const (.pointer none)), none⟩ ::
⟨(some 9), .alloc 30 (List.replicate 32 (.v (.int .u8 0))), none⟩ ::
[]))
(.seq
(.seq
(.plain (
⟨(some 11), .mv (.tmp 0), none⟩ ::
⟨(some 12), .bin .lss (.tmp 11) (.const (.int .i64 1)), none⟩ ::
⟨(some 13), .mv (.tmp 12), none⟩ ::
⟨(some 14), .mv (.tmp 0), (some (13, false))⟩ ::
⟨(some 15), .bin .gtr (.tmp 14) (.const (.int .i64 1099511627776)), (some (13, false))⟩ ::
⟨(some 16), .pick (.tmp 13) (.const (.bool true)) (.tmp 15), none⟩ ::
⟨(some 17), .mv (.tmp 16), none⟩ ::
⟨(some 18), .mv (.tmp 1), (some (17, false))⟩ ::
⟨(some 19), .bin .lss (.tmp 18) (.const (.int .i64 0)), (some (17, false))⟩ ::
⟨(some 20), .pick (.tmp 17) (.const (.bool true)) (.tmp 19), none⟩ ::
⟨(some 21), .mv (.tmp 20), none⟩ ::
⟨(some 22), .mv (.tmp 1), (some (21, false))⟩ ::
⟨(some 23), .mv (.tmp 0), (some (21, false))⟩ ::
⟨(some 24), .bin .geq (.tmp 22) (.tmp 23), (some (21, false))⟩ ::
⟨(some 25), .pick (.tmp 21) (.const (.bool true)) (.tmp 24), none⟩ ::
[]))
(.cond (.tmp 25)
(.seq
(.plain (
⟨(some 26), .bld (List.replicate 32 (.v (.int .u8 0))) [], none⟩ ::
⟨(some 8), .mv (.const (.pointer none)), none⟩ ::
⟨none, .store 32 (.tmp 9) (.tmp 26), none⟩ ::
[]))
.ret)
.skip))
(.seq
(.plain (
⟨(some 27), .mv (.tmp 3), none⟩ ::
⟨(some 28), .bld [(.sl [] .nil), (.sl [] .nil), (.v (.bool false))] [(0, 1, (.tmp 27))], none⟩ ::
⟨(some 29), .box 91 (.tmp 28), none⟩ ::
⟨(some 10), .mv (.tmp 29), none⟩ ::
[]))
(.seq
(.plain (
⟨(some 30), .mv (.tmp 10), none⟩ ::
⟨(some 31), .mv (.tmp 10), none⟩ ::
⟨(some 32), .mv (.tmp 0), none⟩ ::
⟨(some 33), .mv (.tmp 1), none⟩ ::
⟨(some 34), .load true 32 (.tmp 6), none⟩ ::
⟨(some 35), .callF 100 [(.tmp 31), (.tmp 32), (.tmp 33), (.tmp 34)], none⟩ ::
⟨(some 8), .mv (.tmp 30), none⟩ ::
⟨none, .store 32 (.tmp 9) (.tmp 35), none⟩ ::
[]))
.ret))))
theorem prep66 : prepFunc Tryz.prog 0 66 = some F66 := by kernel_rfl
def F73 : AFunc where
  ntmps := 2
  nparams := 0
  results := [(0, (some (true, 8)))]
  code :=
(.seq
(.plain (
⟨(some 0), .alloc 128 (List.replicate 8 (.v (.int .u32 0))), none⟩ ::
[]))
(.seq
(.plain (
⟨(some 1), .bld (List.replicate 8 (.v (.int .u32 0))) [(0, 1, (.const (.int .u32 1779033703))), (1, 1, (.const (.int .u32 3144134277))), (2, 1, (.const (.int .u32 1013904242))), (3, 1, (.const (.int .u32 2773480762))), (4, 1, (.const (.int .u32 1359893119))), (5, 1, (.const (.int .u32 2600822924))), (6, 1, (.const (.int .u32 528734635))), (7, 1, (.const (.int .u32 1541459225)))], none⟩ ::
⟨none, .store 8 (.tmp 0) (.tmp 1), none⟩ ::
[]))
.ret))
theorem prep73 : prepFunc Tryz.prog 0 73 = some F73 := by kernel_rfl
def F74 : AFunc where
  ntmps := 121
  nparams := 2
  results := [(4, (some (true, 8)))]
  code :=
(.seq
(.plain (
⟨(some 2), .box 128 (.tmp 0), none⟩ ::
⟨(some 4), .alloc 128 (List.replicate 8 (.v (.int .u32 0))), none⟩ ::
[]))
(.seq
(.draw (
⟨(some 14), .mv (.tmp 1), none⟩ ::
⟨(some 15), .callF 108 [(.tmp 14)], none⟩ ::
⟨(some 16), .callF 109 [], none⟩ ::
⟨(some 17), .load true 8 (.tmp 2), none⟩ ::
⟨(some 5), .alloc 172 (List.replicate 64 (.v (.int .u32 0))), none⟩ ::
⟨(some 6), .alloc 172 (List.replicate 64 (.v (.int .u32 0))), none⟩ ::
⟨(some 7), .alloc 128 (List.replicate 8 (.v (.int .u32 0))), none⟩ ::
⟨none, .store 64 (.tmp 5) (.tmp 15), none⟩ ::
⟨none, .store 64 (.tmp 6) (.tmp 16), none⟩ ::
⟨none, .store 8 (.tmp 7) (.tmp 17), none⟩ ::
[])
(⟨0, [], []⟩ :: ⟨3, [], []⟩ :: ⟨1, [4, 5, 6], [3]⟩ :: ⟨2, [4, 5, 6], [3]⟩ :: ⟨4, [5, 6], []⟩ :: ⟨5, [6], []⟩ :: ⟨6, [], []⟩ :: ⟨7, [], [3]⟩ :: ⟨8, [], [3]⟩ :: ⟨9, [], []⟩ :: []))
(.seq
(.seq
(.plain (
⟨(some 18), .mv (.const (.int .i64 0)), none⟩ ::
[]))
(.block 0
(.loop
(.seq
(.plain (
⟨(some 19), .bin .lss (.tmp 18) (.const (.int .i64 64)), none⟩ ::
[]))
(.seq
(.cond (.tmp 19)
.skip
(.exit 0))
(.seq
(.block 1
(.seq
(.plain (
⟨(some 20), .mv (.tmp 18), none⟩ ::
⟨(some 8), .mv (.tmp 20), none⟩ ::
[]))
(.seq
(.draw (
⟨(some 21), .iaA 1 8 (.tmp 7) (.const (.int .i64 4)), none⟩ ::
⟨(some 22), .load false 1 (.tmp 21), none⟩ ::
⟨(some 23), .callF 110 [(.tmp 22), (.const (.int .i64 (-6)))], none⟩ ::
⟨(some 24), .iaA 1 8 (.tmp 7) (.const (.int .i64 4)), none⟩ ::
⟨(some 25), .load false 1 (.tmp 24), none⟩ ::
⟨(some 26), .callF 110 [(.tmp 25), (.const (.int .i64 (-11)))], none⟩ ::
⟨(some 27), .bin .xor (.tmp 23) (.tmp 26), none⟩ ::
⟨(some 28), .iaA 1 8 (.tmp 7) (.const (.int .i64 4)), none⟩ ::
⟨(some 29), .load false 1 (.tmp 28), none⟩ ::
⟨(some 30), .callF 110 [(.tmp 29), (.const (.int .i64 (-25)))], none⟩ ::
⟨(some 31), .bin .xor (.tmp 27) (.tmp 30), none⟩ ::
⟨(some 9), .mv (.tmp 31), none⟩ ::
[])
(⟨0, [], []⟩ :: ⟨1, [], []⟩ :: ⟨3, [], []⟩ :: ⟨4, [], []⟩ :: ⟨7, [], []⟩ :: ⟨8, [], []⟩ :: ⟨2, [], [4, 8]⟩ :: ⟨5, [], [8]⟩ :: ⟨6, [], []⟩ :: ⟨9, [], []⟩ :: ⟨10, [], []⟩ :: ⟨11, [], []⟩ :: []))
(.seq
(.draw (
⟨(some 32), .iaA 1 8 (.tmp 7) (.const (.int .i64 7)), none⟩ ::
⟨(some 33), .load false 1 (.tmp 32), none⟩ ::
⟨(some 34), .mv (.tmp 9), none⟩ ::
⟨(some 35), .bin .add (.tmp 33) (.tmp 34), none⟩ ::
⟨(some 36), .iaA 1 8 (.tmp 7) (.const (.int .i64 4)), none⟩ ::
⟨(some 37), .load false 1 (.tmp 36), none⟩ ::
⟨(some 38), .iaA 1 8 (.tmp 7) (.const (.int .i64 5)), none⟩ ::
⟨(some 39), .load false 1 (.tmp 38), none⟩ ::
⟨(some 40), .bin .and (.tmp 37) (.tmp 39), none⟩ ::
⟨(some 41), .iaA 1 8 (.tmp 7) (.const (.int .i64 4)), none⟩ ::
⟨(some 42), .load false 1 (.tmp 41), none⟩ ::
⟨(some 43), .un .xor (.tmp 42), none⟩ ::
⟨(some 44), .iaA 1 8 (.tmp 7) (.const (.int .i64 6)), none⟩ ::
⟨(some 45), .load false 1 (.tmp 44), none⟩ ::
⟨(some 46), .bin .and (.tmp 43) (.tmp 45), none⟩ ::
⟨(some 47), .bin .xor (.tmp 40) (.tmp 46), none⟩ ::
⟨(some 48), .bin .add (.tmp 35) (.tmp 47), none⟩ ::
⟨(some 49), .mv (.tmp 8), none⟩ ::
⟨(some 50), .iaA 1 64 (.tmp 6) (.tmp 49), none⟩ ::
⟨(some 51), .load false 1 (.tmp 50), none⟩ ::
⟨(some 52), .bin .add (.tmp 48) (.tmp 51), none⟩ ::
⟨(some 53), .mv (.tmp 8), none⟩ ::
⟨(some 54), .iaA 1 64 (.tmp 5) (.tmp 53), none⟩ ::
⟨(some 55), .load false 1 (.tmp 54), none⟩ ::
⟨(some 56), .bin .add (.tmp 52) (.tmp 55), none⟩ ::
⟨(some 10), .mv (.tmp 56), none⟩ ::
[])
(⟨0, [], []⟩ :: ⟨1, [], []⟩ :: ⟨2, [], []⟩ :: ⟨3, [], []⟩ :: ⟨4, [], []⟩ :: ⟨5, [], []⟩ :: ⟨6, [], []⟩ :: ⟨7, [], []⟩ :: ⟨8, [], []⟩ :: ⟨9, [], []⟩ :: ⟨10, [], []⟩ :: ⟨11, [], []⟩ :: ⟨12, [], []⟩ :: ⟨13, [], []⟩ :: ⟨14, [], []⟩ :: ⟨15, [], []⟩ :: ⟨16, [], []⟩ :: ⟨17, [], []⟩ :: ⟨18, [], []⟩ :: ⟨19, [], []⟩ :: ⟨20, [], []⟩ :: ⟨21, [], []⟩ :: ⟨22, [], []⟩ :: ⟨23, [], []⟩ :: ⟨24, [], []⟩ :: ⟨25, [], []⟩ :: []))
(.seq
(.draw (
⟨(some 57), .iaA 1 8 (.tmp 7) (.const (.int .i64 0)), none⟩ ::
⟨(some 58), .load false 1 (.tmp 57), none⟩ ::
⟨(some 59), .callF 110 [(.tmp 58), (.const (.int .i64 (-2)))], none⟩ ::
⟨(some 60), .iaA 1 8 (.tmp 7) (.const (.int .i64 0)), none⟩ ::
⟨(some 61), .load false 1 (.tmp 60), none⟩ ::
⟨(some 62), .callF 110 [(.tmp 61), (.const (.int .i64 (-13)))], none⟩ ::
⟨(some 63), .bin .xor (.tmp 59) (.tmp 62), none⟩ ::
⟨(some 64), .iaA 1 8 (.tmp 7) (.const (.int .i64 0)), none⟩ ::
⟨(some 65), .load false 1 (.tmp 64), none⟩ ::
⟨(some 66), .callF 110 [(.tmp 65), (.const (.int .i64 (-22)))], none⟩ ::
⟨(some 67), .bin .xor (.tmp 63) (.tmp 66), none⟩ ::
⟨(some 11), .mv (.tmp 67), none⟩ ::
[])
(⟨0, [], []⟩ :: ⟨1, [], []⟩ :: ⟨3, [], []⟩ :: ⟨4, [], []⟩ :: ⟨7, [], []⟩ :: ⟨8, [], []⟩ :: ⟨2, [], [4, 8]⟩ :: ⟨5, [], [8]⟩ :: ⟨6, [], []⟩ :: ⟨9, [], []⟩ :: ⟨10, [], []⟩ :: ⟨11, [], []⟩ :: []))
(.seq
(.plain (
⟨(some 68), .mv (.tmp 11), none⟩ ::
⟨(some 69), .iaA 1 8 (.tmp 7) (.const (.int .i64 0)), none⟩ ::
⟨(some 70), .load false 1 (.tmp 69), none⟩ ::
⟨(some 71), .iaA 1 8 (.tmp 7) (.const (.int .i64 1)), none⟩ ::
⟨(some 72), .load false 1 (.tmp 71), none⟩ ::
⟨(some 73), .bin .and (.tmp 70) (.tmp 72), none⟩ ::
⟨(some 74), .iaA 1 8 (.tmp 7) (.const (.int .i64 0)), none⟩ ::
⟨(some 75), .load false 1 (.tmp 74), none⟩ ::
⟨(some 76), .iaA 1 8 (.tmp 7) (.const (.int .i64 2)), none⟩ ::
⟨(some 77), .load false 1 (.tmp 76), none⟩ ::
⟨(some 78), .bin .and (.tmp 75) (.tmp 77), none⟩ ::
⟨(some 79), .bin .xor (.tmp 73) (.tmp 78), none⟩ ::
⟨(some 80), .iaA 1 8 (.tmp 7) (.const (.int .i64 1)), none⟩ ::
⟨(some 81), .load false 1 (.tmp 80), none⟩ ::
⟨(some 82), .iaA 1 8 (.tmp 7) (.const (.int .i64 2)), none⟩ ::
⟨(some 83), .load false 1 (.tmp 82), none⟩ ::
⟨(some 84), .bin .and (.tmp 81) (.tmp 83), none⟩ ::
⟨(some 85), .bin .xor (.tmp 79) (.tmp 84), none⟩ ::
⟨(some 86), .bin .add (.tmp 68) (.tmp 85), none⟩ ::
⟨(some 12), .mv (.tmp 86), none⟩ ::
[]))
(.plain (
⟨(some 87), .mv (.tmp 10), none⟩ ::
⟨(some 88), .mv (.tmp 12), none⟩ ::
⟨(some 89), .bin .add (.tmp 87) (.tmp 88), none⟩ ::
⟨(some 90), .iaA 1 8 (.tmp 7) (.const (.int .i64 0)), none⟩ ::
⟨(some 91), .load false 1 (.tmp 90), none⟩ ::
⟨(some 92), .iaA 1 8 (.tmp 7) (.const (.int .i64 1)), none⟩ ::
⟨(some 93), .load false 1 (.tmp 92), none⟩ ::
⟨(some 94), .iaA 1 8 (.tmp 7) (.const (.int .i64 2)), none⟩ ::
⟨(some 95), .load false 1 (.tmp 94), none⟩ ::
⟨(some 96), .iaA 1 8 (.tmp 7) (.const (.int .i64 3)), none⟩ ::
⟨(some 97), .load false 1 (.tmp 96), none⟩ ::
⟨(some 98), .mv (.tmp 10), none⟩ ::
⟨(some 99), .bin .add (.tmp 97) (.tmp 98), none⟩ ::
⟨(some 100), .iaA 1 8 (.tmp 7) (.const (.int .i64 4)), none⟩ ::
⟨(some 101), .load false 1 (.tmp 100), none⟩ ::
⟨(some 102), .iaA 1 8 (.tmp 7) (.const (.int .i64 5)), none⟩ ::
⟨(some 103), .load false 1 (.tmp 102), none⟩ ::
⟨(some 104), .iaA 1 8 (.tmp 7) (.const (.int .i64 6)), none⟩ ::
⟨(some 105), .load false 1 (.tmp 104), none⟩ ::
⟨(some 106), .bld (List.replicate 8 (.v (.int .u32 0))) [(0, 1, (.tmp 89)), (1, 1, (.tmp 91)), (2, 1, (.tmp 93)), (3, 1, (.tmp 95)), (4, 1, (.tmp 99)), (5, 1, (.tmp 101)), (6, 1, (.tmp 103)), (7, 1, (.tmp 105))], none⟩ ::
⟨none, .store 8 (.tmp 7) (.tmp 106), none⟩ ::
[]))))))))
(.plain (
⟨(some 107), .bin .add (.tmp 18) (.const (.int .i64 1)), none⟩ ::
⟨(some 18), .mv (.tmp 107), none⟩ ::
[]))))))))
(.seq
(.seq
(.plain (
⟨(some 108), .mv (.const (.int .i64 0)), none⟩ ::
[]))
(.block 2
(.loop
(.seq
(.plain (
⟨(some 109), .bin .lss (.tmp 108) (.const (.int .i64 8)), none⟩ ::
[]))
(.seq
(.cond (.tmp 109)
.skip
(.exit 2))
(.seq
(.block 3
(.seq
(.plain (
⟨(some 110), .mv (.tmp 108), none⟩ ::
⟨(some 13), .mv (.tmp 110), none⟩ ::
[]))
(.draw (
⟨(some 111), .mv (.tmp 13), none⟩ ::
⟨(some 112), .iaA 1 8 (.tmp 7) (.tmp 111), none⟩ ::
⟨(some 113), .load false 1 (.tmp 112), none⟩ ::
⟨(some 114), .mv (.tmp 13), none⟩ ::
⟨(some 115), .iaA 1 8 (.tmp 2) (.tmp 114), none⟩ ::
⟨(some 116), .load false 1 (.tmp 115), none⟩ ::
⟨(some 117), .bin .add (.tmp 113) (.tmp 116), none⟩ ::
⟨(some 118), .iaA 1 8 (.tmp 7) (.tmp 111), none⟩ ::
⟨none, .store 1 (.tmp 118) (.tmp 117), none⟩ ::
[])
(⟨0, [], []⟩ :: ⟨1, [], []⟩ :: ⟨2, [], []⟩ :: ⟨3, [], []⟩ :: ⟨4, [], []⟩ :: ⟨5, [], []⟩ :: ⟨6, [], []⟩ :: ⟨7, [], []⟩ :: ⟨8, [], []⟩ :: []))))
(.plain (
⟨(some 119), .bin .add (.tmp 108) (.const (.int .i64 1)), none⟩ ::
⟨(some 108), .mv (.tmp 119), none⟩ ::
[]))))))))
(.seq
(.plain (
⟨(some 120), .load true 8 (.tmp 7), none⟩ ::
⟨none, .store 8 (.tmp 4) (.tmp 120), none⟩ ::
[]))
.ret)))))
theorem prep74 : prepFunc Tryz.prog 0 74 = some F74 := by kernel_rfl
def F77 : AFunc where
  ntmps := 19
  nparams := 2
  results := []
  code :=
(.seq
(.plain (
⟨(some 6), .mv (.tmp 1), none⟩ ::
⟨(some 7), .cvt .u64 (.tmp 6), none⟩ ::
⟨(some 8), .bin .xor (.tmp 7) (.const (.int .u64 9223372036854775808)), none⟩ ::
⟨(some 4), .mv (.tmp 8), none⟩ ::
[]))
(.seq
(.plain (
⟨(some 5), .mv (.const (.int .i64 56)), none⟩ ::
[]))
(.block 0
(.loop
(.seq
(.seq
(.plain (
⟨(some 9), .mv (.tmp 5), none⟩ ::
⟨(some 10), .bin .geq (.tmp 9) (.const (.int .i64 0)), none⟩ ::
[]))
(.cond (.tmp 10)
.skip
(.exit 0)))
(.seq
(.block 1
(.plain (
⟨(some 13), .mv (.tmp 0), none⟩ ::
⟨(some 14), .mv (.tmp 4), none⟩ ::
⟨(some 15), .mv (.tmp 5), none⟩ ::
⟨(some 16), .bin .shr (.tmp 14) (.tmp 15), none⟩ ::
⟨(some 17), .cvt .u8 (.tmp 16), none⟩ ::
⟨(some 18), .callF 102 [(.tmp 13), (.tmp 17)], none⟩ ::
[])))
(.plain (
⟨(some 11), .mv (.tmp 5), none⟩ ::
⟨(some 12), .bin .sub (.tmp 11) (.const (.int .i64 8)), none⟩ ::
⟨(some 5), .mv (.tmp 12), none⟩ ::
[]))))))))
theorem prep77 : prepFunc Tryz.prog 0 77 = some F77 := by kernel_rfl
def F78 : AFunc where
  ntmps := 13
  nparams := 1
  results := [(2, none)]
  code :=
(.seq
(.plain (
⟨(some 2), .mv (.const (.slice none 0 0)), none⟩ ::
[]))
(.seq
(.seq
(.plain (
⟨(some 3), .mv (.tmp 0), none⟩ ::
⟨(some 4), .nilc (.tmp 3), none⟩ ::
⟨(some 5), .fa 1 (.tmp 4), none⟩ ::
⟨(some 6), .load false 1 (.tmp 5), none⟩ ::
⟨(some 7), .bin .neq (.tmp 6) (.const (.int .i64 0)), none⟩ ::
[]))
(.cond (.tmp 7)
(.seq
(.plain (
⟨(some 2), .mv (.const (.slice none 0 0)), none⟩ ::
[]))
.ret)
.skip))
(.seq
(.plain (
⟨(some 8), .mv (.tmp 0), none⟩ ::
⟨(some 9), .nilc (.tmp 8), none⟩ ::
⟨(some 10), .fa 0 (.tmp 9), none⟩ ::
⟨(some 11), .load false 1 (.tmp 10), none⟩ ::
⟨(some 12), .callF 16 [(.tmp 11)], none⟩ ::
⟨(some 2), .mv (.tmp 12), none⟩ ::
[]))
.ret)))
theorem prep78 : prepFunc Tryz.prog 0 78 = some F78 := by kernel_rfl
def F79 : AFunc where
  ntmps := 41
  nparams := 1
  results := [(2, (some (true, 32)))]
  code :=
(.seq
(.plain (
⟨(some 2), .alloc 30 (List.replicate 32 (.v (.int .u8 0))), none⟩ ::
[]))
(.seq
(.seq
(.plain (
⟨(some 4), .mv (.tmp 0), none⟩ ::
⟨(some 5), .nilc (.tmp 4), none⟩ ::
⟨(some 6), .fa 0 (.tmp 5), none⟩ ::
⟨(some 7), .load false 1 (.tmp 6), none⟩ ::
⟨(some 8), .len (.tmp 7), none⟩ ::
⟨(some 9), .bin .eql (.tmp 8) (.const (.int .i64 0)), none⟩ ::
[]))
(.cond (.tmp 9)
(.seq
(.plain (
⟨(some 10), .mv (.tmp 0), none⟩ ::
⟨(some 11), .nilc (.tmp 10), none⟩ ::
⟨(some 12), .fa 2 (.tmp 11), none⟩ ::
⟨none, .store 1 (.tmp 12) (.const (.bool true)), none⟩ ::
[]))
(.seq
(.plain (
⟨(some 13), .bld (List.replicate 32 (.v (.int .u8 0))) [], none⟩ ::
⟨none, .store 32 (.tmp 2) (.tmp 13), none⟩ ::
[]))
.ret))
.skip))
(.seq
(.draw (
⟨(some 14), .mv (.tmp 0), none⟩ ::
⟨(some 15), .nilc (.tmp 14), none⟩ ::
⟨(some 16), .fa 0 (.tmp 15), none⟩ ::
⟨(some 17), .load false 1 (.tmp 16), none⟩ ::
⟨(some 18), .mv (.tmp 0), none⟩ ::
⟨(some 19), .nilc (.tmp 18), none⟩ ::
⟨(some 20), .fa 0 (.tmp 19), none⟩ ::
⟨(some 21), .load false 1 (.tmp 20), none⟩ ::
⟨(some 22), .len (.tmp 21), none⟩ ::
⟨(some 23), .bin .sub (.tmp 22) (.const (.int .i64 1)), none⟩ ::
⟨(some 24), .iaS 32 (.tmp 17) (.tmp 23), none⟩ ::
⟨(some 25), .load true 32 (.tmp 24), none⟩ ::
⟨(some 3), .alloc 30 (List.replicate 32 (.v (.int .u8 0))), none⟩ ::
⟨none, .store 32 (.tmp 3) (.tmp 25), none⟩ ::
[])
(⟨0, [], []⟩ :: ⟨1, [], []⟩ :: ⟨2, [], []⟩ :: ⟨3, [], []⟩ :: ⟨4, [], []⟩ :: ⟨5, [], []⟩ :: ⟨6, [], []⟩ :: ⟨7, [], []⟩ :: ⟨8, [], []⟩ :: ⟨9, [], []⟩ :: ⟨10, [], []⟩ :: ⟨11, [], []⟩ :: ⟨12, [], []⟩ :: ⟨13, [], []⟩ :: []))
(.seq
(.draw (
⟨(some 26), .mv (.tmp 0), none⟩ ::
⟨(some 27), .mv (.tmp 0), none⟩ ::
⟨(some 28), .nilc (.tmp 27), none⟩ ::
⟨(some 29), .fa 0 (.tmp 28), none⟩ ::
⟨(some 30), .load false 1 (.tmp 29), none⟩ ::
⟨(some 31), .mv (.tmp 0), none⟩ ::
⟨(some 32), .nilc (.tmp 31), none⟩ ::
⟨(some 33), .fa 0 (.tmp 32), none⟩ ::
⟨(some 34), .load false 1 (.tmp 33), none⟩ ::
⟨(some 35), .len (.tmp 34), none⟩ ::
⟨(some 36), .bin .sub (.tmp 35) (.const (.int .i64 1)), none⟩ ::
⟨(some 37), .slc 32 (.tmp 30) none (some (.tmp 36)), none⟩ ::
⟨(some 38), .nilc (.tmp 26), none⟩ ::
⟨(some 39), .fa 0 (.tmp 38), none⟩ ::
⟨none, .store 1 (.tmp 39) (.tmp 37), none⟩ ::
[])
(⟨0, [], []⟩ :: ⟨1, [], []⟩ :: ⟨2, [], []⟩ :: ⟨3, [], []⟩ :: ⟨4, [], []⟩ :: ⟨5, [], []⟩ :: ⟨6, [], []⟩ :: ⟨7, [], []⟩ :: ⟨8, [], []⟩ :: ⟨9, [], []⟩ :: ⟨10, [], []⟩ :: ⟨11, [], []⟩ :: ⟨12, [], []⟩ :: ⟨13, [], []⟩ :: ⟨14, [], []⟩ :: []))
(.seq
(.plain (
⟨(some 40), .load true 32 (.tmp 3), none⟩ ::
⟨none, .store 32 (.tmp 2) (.tmp 40), none⟩ ::
[]))
.ret)))))
theorem prep79 : prepFunc Tryz.prog 0 79 = some F79 := by kernel_rfl
def F80 : AFunc where
  ntmps := 9
  nparams := 1
  results := [(2, none)]
  code :=
(.seq
(.plain (
⟨(some 2), .mv (.const (.int .i64 0)), none⟩ ::
[]))
(.seq
(.plain (
⟨(some 3), .mv (.tmp 0), none⟩ ::
⟨(some 4), .bin .sub (.tmp 3) (.const (.int .i64 1)), none⟩ ::
⟨(some 5), .cvt .u64 (.tmp 4), none⟩ ::
⟨(some 6), .callF 106 [(.tmp 5)], none⟩ ::
⟨(some 7), .bin .sub (.tmp 6) (.const (.int .i64 1)), none⟩ ::
⟨(some 8), .bin .shl (.const (.int .i64 1)) (.tmp 7), none⟩ ::
⟨(some 2), .mv (.tmp 8), none⟩ ::
[]))
.ret))
theorem prep80 : prepFunc Tryz.prog 0 80 = some F80 := by kernel_rfl
def F81 : AFunc where
  ntmps := 17
  nparams := 2
  results := [(4, (some (true, 32)))]
  code :=
(.seq
(.plain (
⟨(some 4), .alloc 30 (List.replicate 32 (.v (.int .u8 0))), none⟩ ::
[]))
(.seq
(.plain (
⟨(some 5), .mv (.tmp 0), none⟩ ::
⟨(some 6), .mv (.tmp 0), none⟩ ::
⟨(some 7), .nilc (.tmp 6), none⟩ ::
⟨(some 8), .fa 1 (.tmp 7), none⟩ ::
⟨(some 9), .load false 1 (.tmp 8), none⟩ ::
⟨(some 10), .mv (.tmp 1), none⟩ ::
⟨(some 11), .bsl 1 [(.tmp 10)], none⟩ ::
⟨(some 12), .app 1 24 (.tmp 9) (.tmp 11), none⟩ ::
⟨(some 13), .nilc (.tmp 5), none⟩ ::
⟨(some 14), .fa 1 (.tmp 13), none⟩ ::
⟨none, .store 1 (.tmp 14) (.tmp 12), none⟩ ::
[]))
(.seq
(.plain (
⟨(some 15), .mv (.tmp 1), none⟩ ::
⟨(some 16), .callF 14 [(.tmp 15)], none⟩ ::
⟨none, .store 32 (.tmp 4) (.tmp 16), none⟩ ::
[]))
.ret)))
theorem prep81 : prepFunc Tryz.prog 0 81 = some F81 := by kernel_rfl
def F82 : AFunc where
  ntmps := 9
  nparams := 2
  results := [(4, none)]
  code :=
(.seq
(.plain (
⟨(some 2), .boxR 30 (.tmp 0), none⟩ ::
⟨(some 3), .boxR 30 (.tmp 1), none⟩ ::
⟨(some 4), .mv (.const (.slice none 0 0)), none⟩ ::
[]))
(.seq
(.draw (
⟨(some 5), .slcR 1 32 (.tmp 2) none none, none⟩ ::
⟨(some 6), .slcR 1 32 (.tmp 3) none none, none⟩ ::
⟨(some 7), .bsl 1 [(.tmp 5), (.tmp 6)], none⟩ ::
⟨(some 8), .callF 12 [(.const (.int .u8 78)), (.tmp 7)], none⟩ ::
⟨(some 4), .mv (.tmp 8), none⟩ ::
[])
(⟨0, [], []⟩ :: ⟨1, [], []⟩ :: ⟨2, [], []⟩ :: ⟨3, [], []⟩ :: ⟨4, [], []⟩ :: []))
.ret))
theorem prep82 : prepFunc Tryz.prog 0 82 = some F82 := by kernel_rfl
def F83 : AFunc where
  ntmps := 9
  nparams := 2
  results := [(4, none)]
  code :=
(.seq
(.plain (
⟨(some 4), .mv (.const (.bool false)), none⟩ ::
[]))
(.seq
(.plain (
⟨(some 5), .mv (.tmp 0), none⟩ ::
⟨(some 6), .mv (.tmp 1), none⟩ ::
⟨(some 7), .callF 112 [(.tmp 5), (.tmp 6)], none⟩ ::
⟨(some 8), .bin .geq (.tmp 7) (.const (.int .i64 0)), none⟩ ::
⟨(some 4), .mv (.tmp 8), none⟩ ::
[]))
.ret))
theorem prep83 : prepFunc Tryz.prog 0 83 = some F83 := by kernel_rfl
def F84 : AFunc where
  ntmps := 6
  nparams := 1
  results := [(2, none)]
  code :=
(.seq
(.plain (
⟨(some 1), .box 147 (.tmp 0), none⟩ ::
⟨(some 2), .mv (.const (.bool false)), none⟩ ::
[]))
(.seq
(.plain (
⟨(some 3), .load true 4 (.tmp 1), none⟩ ::
⟨(some 4), .callF 85 [(.tmp 3)], none⟩ ::
⟨(some 5), .un .not (.tmp 4), none⟩ ::
⟨(some 2), .mv (.tmp 5), none⟩ ::
[]))
.ret))
theorem prep84 : prepFunc Tryz.prog 0 84 = some F84 := by kernel_rfl
def F85 : AFunc where
  ntmps := 51
  nparams := 1
  results := [(2, none)]
  code :=
(.seq
(.plain (
⟨(some 1), .box 147 (.tmp 0), none⟩ ::
⟨(some 2), .mv (.const (.bool false)), none⟩ ::
[]))
(.seq
(.seq
(.plain (
⟨(some 3), .fa 1 (.tmp 1), none⟩ ::
⟨(some 4), .load false 1 (.tmp 3), none⟩ ::
⟨(some 5), .callF 113 [(.tmp 4)], none⟩ ::
⟨(some 6), .un .not (.tmp 5), none⟩ ::
[]))
(.cond (.tmp 6)
(.seq
(.plain (
⟨(some 2), .mv (.const (.bool false)), none⟩ ::
[]))
.ret)
.skip))
(.seq
(.seq
(.plain (
⟨(some 7), .fa 0 (.tmp 1), none⟩ ::
⟨(some 8), .load false 1 (.tmp 7), none⟩ ::
[]))
(.block 0
(.seq
(.plain (
⟨(some 10), .bin .eql (.tmp 8) (.const (.int .u8 1)), none⟩ ::
⟨(some 9), .mv (.tmp 10), none⟩ ::
[]))
(.cond (.tmp 9)
(.seq
(.plain (
⟨(some 11), .fa 2 (.tmp 1), none⟩ ::
⟨(some 12), .load false 1 (.tmp 11), none⟩ ::
⟨(some 13), .callF 114 [(.tmp 12)], none⟩ ::
⟨(some 14), .mv (.tmp 13), none⟩ ::
⟨(some 15), .fa 3 (.tmp 1), (some (14, true))⟩ ::
⟨(some 16), .load false 1 (.tmp 15), (some (14, true))⟩ ::
⟨(some 17), .len (.tmp 16), (some (14, true))⟩ ::
⟨(some 18), .bin .eql (.tmp 17) (.const (.int .i64 0)), (some (14, true))⟩ ::
⟨(some 19), .pick (.tmp 14) (.tmp 18) (.const (.bool false)), none⟩ ::
⟨(some 2), .mv (.tmp 19), none⟩ ::
[]))
.ret)
(.seq
(.plain (
⟨(some 21), .bin .eql (.tmp 8) (.const (.int .u8 2)), none⟩ ::
⟨(some 20), .mv (.tmp 21), none⟩ ::
[]))
(.cond (.tmp 20)
(.seq
(.plain (
⟨(some 22), .fa 2 (.tmp 1), none⟩ ::
⟨(some 23), .load false 1 (.tmp 22), none⟩ ::
⟨(some 24), .len (.tmp 23), none⟩ ::
⟨(some 25), .bin .eql (.tmp 24) (.const (.int .i64 0)), none⟩ ::
⟨(some 26), .mv (.tmp 25), none⟩ ::
⟨(some 27), .fa 3 (.tmp 1), (some (26, true))⟩ ::
⟨(some 28), .load false 1 (.tmp 27), (some (26, true))⟩ ::
⟨(some 29), .len (.tmp 28), (some (26, true))⟩ ::
⟨(some 30), .bin .eql (.tmp 29) (.const (.int .i64 0)), (some (26, true))⟩ ::
⟨(some 31), .pick (.tmp 26) (.tmp 30) (.const (.bool false)), none⟩ ::
⟨(some 2), .mv (.tmp 31), none⟩ ::
[]))
.ret)
(.seq
(.seq
(.plain (
⟨(some 33), .bin .eql (.tmp 8) (.const (.int .u8 3)), none⟩ ::
⟨(some 32), .mv (.tmp 33), none⟩ ::
[]))
(.cond (.tmp 32)
.skip
(.plain (
⟨(some 34), .bin .eql (.tmp 8) (.const (.int .u8 4)), none⟩ ::
⟨(some 32), .mv (.tmp 34), none⟩ ::
[]))))
(.cond (.tmp 32)
(.seq
(.plain (
⟨(some 35), .fa 2 (.tmp 1), none⟩ ::
⟨(some 36), .load false 1 (.tmp 35), none⟩ ::
⟨(some 37), .len (.tmp 36), none⟩ ::
⟨(some 38), .bin .eql (.tmp 37) (.const (.int .i64 0)), none⟩ ::
⟨(some 39), .mv (.tmp 38), none⟩ ::
⟨(some 40), .fa 3 (.tmp 1), (some (39, true))⟩ ::
⟨(some 41), .load false 1 (.tmp 40), (some (39, true))⟩ ::
⟨(some 42), .len (.tmp 41), (some (39, true))⟩ ::
⟨(some 43), .bin .geq (.tmp 42) (.const (.int .i64 2)), (some (39, true))⟩ ::
⟨(some 44), .pick (.tmp 39) (.tmp 43) (.const (.bool false)), none⟩ ::
⟨(some 45), .mv (.tmp 44), none⟩ ::
⟨(some 46), .fa 3 (.tmp 1), (some (45, true))⟩ ::
⟨(some 47), .load false 1 (.tmp 46), (some (45, true))⟩ ::
⟨(some 48), .len (.tmp 47), (some (45, true))⟩ ::
⟨(some 49), .bin .leq (.tmp 48) (.const (.int .i64 8)), (some (45, true))⟩ ::
⟨(some 50), .pick (.tmp 45) (.tmp 49) (.const (.bool false)), none⟩ ::
⟨(some 2), .mv (.tmp 50), none⟩ ::
[]))
.ret)
.skip))))))))
(.seq
(.plain (
⟨(some 2), .mv (.const (.bool false)), none⟩ ::
[]))
.ret))))
theorem prep85 : prepFunc Tryz.prog 0 85 = some F85 := by kernel_rfl
def F86 : AFunc where
  ntmps := 21
  nparams := 2
  results := []
  code :=
(.plain (
⟨(some 4), .mv (.tmp 0), none⟩ ::
⟨(some 5), .mv (.tmp 1), none⟩ ::
⟨(some 6), .bin .geq (.tmp 5) (.const (.int .i64 0)), none⟩ ::
⟨(some 7), .mv (.tmp 6), none⟩ ::
⟨(some 8), .mv (.tmp 1), (some (7, true))⟩ ::
⟨(some 9), .bin .leq (.tmp 8) (.const (.int .i64 1048576)), (some (7, true))⟩ ::
⟨(some 10), .pick (.tmp 7) (.tmp 9) (.const (.bool false)), none⟩ ::
⟨(some 11), .mv (.tmp 1), none⟩ ::
⟨(some 12), .bin .shr (.tmp 11) (.const (.int .u64 16)), none⟩ ::
⟨(some 13), .cvt .u8 (.tmp 12), none⟩ ::
⟨(some 14), .mv (.tmp 1), none⟩ ::
⟨(some 15), .bin .shr (.tmp 14) (.const (.int .u64 8)), none⟩ ::
⟨(some 16), .cvt .u8 (.tmp 15), none⟩ ::
⟨(some 17), .mv (.tmp 1), none⟩ ::
⟨(some 18), .cvt .u8 (.tmp 17), none⟩ ::
⟨(some 19), .bsl 1 [(.tmp 13), (.tmp 16), (.tmp 18)], none⟩ ::
⟨(some 20), .callF 115 [(.tmp 4), (.tmp 10), (.tmp 19)], none⟩ ::
[]))
theorem prep86 : prepFunc Tryz.prog 0 86 = some F86 := by kernel_rfl
def F87 : AFunc where
  ntmps := 44
  nparams := 2
  results := []
  code :=
(.seq
(.plain (
⟨(some 3), .box 147 (.tmp 1), none⟩ ::
[]))
(.seq
(.plain (
⟨(some 6), .mv (.tmp 0), none⟩ ::
⟨(some 7), .fa 0 (.tmp 3), none⟩ ::
⟨(some 8), .load false 1 (.tmp 7), none⟩ ::
⟨(some 9), .callF 102 [(.tmp 6), (.tmp 8)], none⟩ ::
[]))
(.seq
(.plain (
⟨(some 10), .mv (.tmp 0), none⟩ ::
⟨(some 11), .fa 1 (.tmp 3), none⟩ ::
⟨(some 12), .load false 1 (.tmp 11), none⟩ ::
⟨(some 13), .s2b (.tmp 12), none⟩ ::
⟨(some 14), .callF 103 [(.tmp 10), (.tmp 13)], none⟩ ::
[]))
(.seq
(.plain (
⟨(some 15), .fa 0 (.tmp 3), none⟩ ::
⟨(some 16), .load false 1 (.tmp 15), none⟩ ::
[]))
(.block 0
(.seq
(.plain (
⟨(some 18), .bin .eql (.tmp 16) (.const (.int .u8 1)), none⟩ ::
⟨(some 17), .mv (.tmp 18), none⟩ ::
[]))
(.cond (.tmp 17)
(.seq
(.plain (
⟨(some 19), .mv (.tmp 0), none⟩ ::
⟨(some 20), .fa 2 (.tmp 3), none⟩ ::
⟨(some 21), .load false 1 (.tmp 20), none⟩ ::
⟨(some 22), .len (.tmp 21), none⟩ ::
⟨(some 23), .cvt .u8 (.tmp 22), none⟩ ::
⟨(some 24), .callF 102 [(.tmp 19), (.tmp 23)], none⟩ ::
[]))
(.seq
(.plain (
⟨(some 25), .fa 2 (.tmp 3), none⟩ ::
⟨(some 26), .load false 1 (.tmp 25), none⟩ ::
⟨(some 27), .len (.tmp 26), none⟩ ::
⟨(some 28), .mv (.const (.int .i64 0)), none⟩ ::
[]))
(.block 1
(.loop
(.seq
(.plain (
⟨(some 29), .bin .lss (.tmp 28) (.tmp 27), none⟩ ::
[]))
(.seq
(.cond (.tmp 29)
.skip
(.exit 1))
(.seq
(.block 2
(.seq
(.plain (
⟨(some 30), .iaS 1 (.tmp 26) (.tmp 28), none⟩ ::
⟨(some 31), .load false 1 (.tmp 30), none⟩ ::
⟨(some 5), .mv (.tmp 31), none⟩ ::
[]))
(.plain (
⟨(some 32), .mv (.tmp 0), none⟩ ::
⟨(some 33), .mv (.tmp 5), none⟩ ::
⟨(some 34), .s2b (.tmp 33), none⟩ ::
⟨(some 35), .callF 103 [(.tmp 32), (.tmp 34)], none⟩ ::
[]))))
(.plain (
⟨(some 36), .bin .add (.tmp 28) (.const (.int .i64 1)), none⟩ ::
⟨(some 28), .mv (.tmp 36), none⟩ ::
[])))))))))
(.seq
(.seq
(.plain (
⟨(some 38), .bin .eql (.tmp 16) (.const (.int .u8 3)), none⟩ ::
⟨(some 37), .mv (.tmp 38), none⟩ ::
[]))
(.cond (.tmp 37)
.skip
(.plain (
⟨(some 39), .bin .eql (.tmp 16) (.const (.int .u8 4)), none⟩ ::
⟨(some 37), .mv (.tmp 39), none⟩ ::
[]))))
(.cond (.tmp 37)
(.plain (
⟨(some 40), .mv (.tmp 0), none⟩ ::
⟨(some 41), .fa 3 (.tmp 3), none⟩ ::
⟨(some 42), .load false 1 (.tmp 41), none⟩ ::
⟨(some 43), .callF 116 [(.tmp 40), (.tmp 42)], none⟩ ::
[]))
.skip)))))))))
theorem prep87 : prepFunc Tryz.prog 0 87 = some F87 := by kernel_rfl
def F88 : AFunc where
  ntmps := 7
  nparams := 1
  results := [(2, none)]
  code :=
(.seq
(.plain (
⟨(some 2), .mv (.const (.int .i64 0)), none⟩ ::
[]))
(.seq
(.plain (
⟨(some 3), .mv (.tmp 0), none⟩ ::
⟨(some 4), .nilc (.tmp 3), none⟩ ::
⟨(some 5), .fa 1 (.tmp 4), none⟩ ::
⟨(some 6), .load false 1 (.tmp 5), none⟩ ::
⟨(some 2), .mv (.tmp 6), none⟩ ::
[]))
.ret))
theorem prep88 : prepFunc Tryz.prog 0 88 = some F88 := by kernel_rfl
def F89 : AFunc where
  ntmps := 44
  nparams := 2
  results := [(4, none), (5, none)]
  code :=
(.seq
(.plain (
⟨(some 4), .mv (.const (.slice none 0 0)), none⟩ ::
⟨(some 5), .mv (.const (.bool false)), none⟩ ::
[]))
(.seq
(.seq
(.plain (
⟨(some 7), .mv (.tmp 0), none⟩ ::
⟨(some 8), .nilc (.tmp 7), none⟩ ::
⟨(some 9), .fa 1 (.tmp 8), none⟩ ::
⟨(some 10), .load false 1 (.tmp 9), none⟩ ::
⟨(some 11), .bin .eql (.tmp 10) (.const (.int .i64 0)), none⟩ ::
⟨(some 12), .mv (.tmp 11), none⟩ ::
⟨(some 13), .mv (.tmp 1), (some (12, true))⟩ ::
⟨(some 14), .mv (.tmp 0), (some (12, true))⟩ ::
⟨(some 15), .nilc (.tmp 14), (some (12, true))⟩ ::
⟨(some 16), .fa 0 (.tmp 15), (some (12, true))⟩ ::
⟨(some 17), .load false 1 (.tmp 16), (some (12, true))⟩ ::
⟨(some 18), .len (.tmp 17), (some (12, true))⟩ ::
⟨(some 19), .bin .gtr (.tmp 13) (.tmp 18), (some (12, true))⟩ ::
⟨(some 20), .pick (.tmp 12) (.tmp 19) (.const (.bool false)), none⟩ ::
[]))
(.cond (.tmp 20)
(.plain (
⟨(some 21), .mv (.tmp 0), none⟩ ::
⟨(some 22), .callF 91 [(.tmp 21), (.const (.int .i64 20))], none⟩ ::
[]))
.skip))
(.seq
(.seq
(.plain (
⟨(some 23), .mv (.tmp 0), none⟩ ::
⟨(some 24), .nilc (.tmp 23), none⟩ ::
⟨(some 25), .fa 1 (.tmp 24), none⟩ ::
⟨(some 26), .load false 1 (.tmp 25), none⟩ ::
⟨(some 27), .bin .neq (.tmp 26) (.const (.int .i64 0)), none⟩ ::
[]))
(.cond (.tmp 27)
(.seq
(.plain (
⟨(some 4), .mv (.const (.slice none 0 0)), none⟩ ::
⟨(some 5), .mv (.const (.bool false)), none⟩ ::
[]))
.ret)
.skip))
(.seq
(.plain (
⟨(some 28), .mv (.tmp 0), none⟩ ::
⟨(some 29), .nilc (.tmp 28), none⟩ ::
⟨(some 30), .fa 0 (.tmp 29), none⟩ ::
⟨(some 31), .load false 1 (.tmp 30), none⟩ ::
⟨(some 32), .mv (.tmp 1), none⟩ ::
⟨(some 33), .slc 1 (.tmp 31) none (some (.tmp 32)), none⟩ ::
⟨(some 6), .mv (.tmp 33), none⟩ ::
[]))
(.seq
(.plain (
⟨(some 34), .mv (.tmp 0), none⟩ ::
⟨(some 35), .mv (.tmp 0), none⟩ ::
⟨(some 36), .nilc (.tmp 35), none⟩ ::
⟨(some 37), .fa 0 (.tmp 36), none⟩ ::
⟨(some 38), .load false 1 (.tmp 37), none⟩ ::
⟨(some 39), .mv (.tmp 1), none⟩ ::
⟨(some 40), .slc 1 (.tmp 38) (some (.tmp 39)) none, none⟩ ::
⟨(some 41), .nilc (.tmp 34), none⟩ ::
⟨(some 42), .fa 0 (.tmp 41), none⟩ ::
⟨none, .store 1 (.tmp 42) (.tmp 40), none⟩ ::
[]))
(.seq
(.plain (
⟨(some 43), .mv (.tmp 6), none⟩ ::
⟨(some 4), .mv (.tmp 43), none⟩ ::
⟨(some 5), .mv (.const (.bool true)), none⟩ ::
[]))
.ret))))))
theorem prep89 : prepFunc Tryz.prog 0 89 = some F89 := by kernel_rfl
def F90 : AFunc where
  ntmps := 38
  nparams := 2
  results := [(4, none)]
  code :=
(.seq
(.plain (
⟨(some 4), .mv (.const (.int .i64 0)), none⟩ ::
[]))
(.seq
(.plain (
⟨(some 9), .mv (.tmp 0), none⟩ ::
⟨(some 10), .callF 89 [(.tmp 9), (.const (.int .i64 3))], none⟩ ::
⟨(some 8), .mv (.tmp 10), none⟩ ::
⟨(some 11), .ext (.tmp 8) 0, none⟩ ::
⟨(some 12), .ext (.tmp 8) 1, none⟩ ::
⟨(some 5), .mv (.tmp 11), none⟩ ::
⟨(some 6), .mv (.tmp 12), none⟩ ::
[]))
(.seq
(.seq
(.plain (
⟨(some 13), .mv (.tmp 6), none⟩ ::
⟨(some 14), .un .not (.tmp 13), none⟩ ::
[]))
(.cond (.tmp 14)
(.seq
(.plain (
⟨(some 4), .mv (.const (.int .i64 0)), none⟩ ::
[]))
.ret)
.skip))
(.seq
(.draw (
⟨(some 15), .mv (.tmp 5), none⟩ ::
⟨(some 16), .iaS 1 (.tmp 15) (.const (.int .i64 0)), none⟩ ::
⟨(some 17), .load false 1 (.tmp 16), none⟩ ::
⟨(some 18), .cvt .i64 (.tmp 17), none⟩ ::
⟨(some 19), .bin .shl (.tmp 18) (.const (.int .u64 16)), none⟩ ::
⟨(some 20), .mv (.tmp 5), none⟩ ::
⟨(some 21), .iaS 1 (.tmp 20) (.const (.int .i64 1)), none⟩ ::
⟨(some 22), .load false 1 (.tmp 21), none⟩ ::
⟨(some 23), .cvt .i64 (.tmp 22), none⟩ ::
⟨(some 24), .bin .shl (.tmp 23) (.const (.int .u64 8)), none⟩ ::
⟨(some 25), .bin .or (.tmp 19) (.tmp 24), none⟩ ::
⟨(some 26), .mv (.tmp 5), none⟩ ::
⟨(some 27), .iaS 1 (.tmp 26) (.const (.int .i64 2)), none⟩ ::
⟨(some 28), .load false 1 (.tmp 27), none⟩ ::
⟨(some 29), .cvt .i64 (.tmp 28), none⟩ ::
⟨(some 30), .bin .or (.tmp 25) (.tmp 29), none⟩ ::
⟨(some 7), .mv (.tmp 30), none⟩ ::
[])
(⟨0, [], []⟩ :: ⟨1, [], []⟩ :: ⟨2, [], []⟩ :: ⟨3, [], []⟩ :: ⟨4, [], []⟩ :: ⟨5, [], []⟩ :: ⟨6, [], []⟩ :: ⟨7, [], []⟩ :: ⟨8, [], []⟩ :: ⟨9, [], []⟩ :: ⟨10, [], []⟩ :: ⟨11, [], []⟩ :: ⟨12, [], []⟩ :: ⟨13, [], []⟩ :: ⟨14, [], []⟩ :: ⟨15, [], []⟩ :: ⟨16, [], []⟩ :: []))
(.seq
(.seq
(.plain (
⟨(some 31), .mv (.tmp 7), none⟩ ::
⟨(some 32), .mv (.tmp 1), none⟩ ::
⟨(some 33), .mm false .i64 (.tmp 32) (.const (.int .i64 1048576)), none⟩ ::
⟨(some 34), .bin .gtr (.tmp 31) (.tmp 33), none⟩ ::
[]))
(.cond (.tmp 34)
(.seq
(.plain (
⟨(some 35), .mv (.tmp 0), none⟩ ::
⟨(some 36), .callF 91 [(.tmp 35), (.const (.int .i64 10))], none⟩ ::
[]))
(.seq
(.plain (
⟨(some 4), .mv (.const (.int .i64 0)), none⟩ ::
[]))
.ret))
.skip))
(.seq
(.plain (
⟨(some 37), .mv (.tmp 7), none⟩ ::
⟨(some 4), .mv (.tmp 37), none⟩ ::
[]))
.ret))))))
theorem prep90 : prepFunc Tryz.prog 0 90 = some F90 := by kernel_rfl
def F91 : AFunc where
  ntmps := 13
  nparams := 2
  results := []
  code :=
(.seq
(.plain (
⟨(some 4), .mv (.tmp 0), none⟩ ::
⟨(some 5), .nilc (.tmp 4), none⟩ ::
⟨(some 6), .fa 1 (.tmp 5), none⟩ ::
⟨(some 7), .load false 1 (.tmp 6), none⟩ ::
⟨(some 8), .bin .eql (.tmp 7) (.const (.int .i64 0)), none⟩ ::
[]))
(.cond (.tmp 8)
(.plain (
⟨(some 9), .mv (.tmp 0), none⟩ ::
⟨(some 10), .mv (.tmp 1), none⟩ ::
⟨(some 11), .nilc (.tmp 9), none⟩ ::
⟨(some 12), .fa 1 (.tmp 11), none⟩ ::
⟨none, .store 1 (.tmp 12) (.tmp 10), none⟩ ::
[]))
.skip))
theorem prep91 : prepFunc Tryz.prog 0 91 = some F91 := by kernel_rfl
def F92 : AFunc where
  ntmps := 15
  nparams := 1
  results := [(2, (some (true, 32)))]
  code :=
(.seq
(.plain (
⟨(some 2), .alloc 30 (List.replicate 32 (.v (.int .u8 0))), none⟩ ::
[]))
(.seq
(.plain (
⟨(some 3), .alloc 30 (List.replicate 32 (.v (.int .u8 0))), none⟩ ::
[]))
(.seq
(.plain (
⟨(some 7), .mv (.tmp 0), none⟩ ::
⟨(some 8), .callF 89 [(.tmp 7), (.const (.int .i64 32))], none⟩ ::
⟨(some 6), .mv (.tmp 8), none⟩ ::
⟨(some 9), .ext (.tmp 6) 0, none⟩ ::
⟨(some 10), .ext (.tmp 6) 1, none⟩ ::
⟨(some 4), .mv (.tmp 9), none⟩ ::
⟨(some 5), .mv (.tmp 10), none⟩ ::
[]))
(.seq
(.plain (
⟨(some 11), .slcA 1 32 (.tmp 3) none none false, none⟩ ::
⟨(some 12), .mv (.tmp 4), none⟩ ::
⟨(some 13), .cpy 1 (.tmp 11) (.tmp 12), none⟩ ::
[]))
(.seq
(.plain (
⟨(some 14), .load true 32 (.tmp 3), none⟩ ::
⟨none, .store 32 (.tmp 2) (.tmp 14), none⟩ ::
[]))
.ret)))))
theorem prep92 : prepFunc Tryz.prog 0 92 = some F92 := by kernel_rfl
def F93 : AFunc where
  ntmps := 30
  nparams := 1
  results := [(2, none)]
  code :=
(.seq
(.plain (
⟨(some 2), .mv (.const (.int .i64 0)), none⟩ ::
[]))
(.seq
(.plain (
⟨(some 9), .mv (.tmp 0), none⟩ ::
⟨(some 10), .callF 89 [(.tmp 9), (.const (.int .i64 8))], none⟩ ::
⟨(some 8), .mv (.tmp 10), none⟩ ::
⟨(some 11), .ext (.tmp 8) 0, none⟩ ::
⟨(some 12), .ext (.tmp 8) 1, none⟩ ::
⟨(some 3), .mv (.tmp 11), none⟩ ::
⟨(some 4), .mv (.tmp 12), none⟩ ::
[]))
(.seq
(.seq
(.plain (
⟨(some 13), .mv (.tmp 4), none⟩ ::
⟨(some 14), .un .not (.tmp 13), none⟩ ::
[]))
(.cond (.tmp 14)
(.seq
(.plain (
⟨(some 2), .mv (.const (.int .i64 0)), none⟩ ::
[]))
.ret)
.skip))
(.seq
(.plain (
⟨(some 5), .mv (.const (.int .u64 0)), none⟩ ::
[]))
(.seq
(.seq
(.plain (
⟨(some 15), .mv (.tmp 3), none⟩ ::
⟨(some 16), .len (.tmp 15), none⟩ ::
⟨(some 17), .mv (.const (.int .i64 0)), none⟩ ::
[]))
(.block 0
(.loop
(.seq
(.plain (
⟨(some 18), .bin .lss (.tmp 17) (.tmp 16), none⟩ ::
[]))
(.seq
(.cond (.tmp 18)
.skip
(.exit 0))
(.seq
(.block 1
(.seq
(.plain (
⟨(some 19), .iaS 1 (.tmp 15) (.tmp 17), none⟩ ::
⟨(some 20), .load false 1 (.tmp 19), none⟩ ::
⟨(some 7), .mv (.tmp 20), none⟩ ::
[]))
(.plain (
⟨(some 21), .mv (.tmp 5), none⟩ ::
⟨(some 22), .bin .shl (.tmp 21) (.const (.int .u64 8)), none⟩ ::
⟨(some 23), .mv (.tmp 7), none⟩ ::
⟨(some 24), .cvt .u64 (.tmp 23), none⟩ ::
⟨(some 25), .bin .or (.tmp 22) (.tmp 24), none⟩ ::
⟨(some 5), .mv (.tmp 25), none⟩ ::
[]))))
(.plain (
⟨(some 26), .bin .add (.tmp 17) (.const (.int .i64 1)), none⟩ ::
⟨(some 17), .mv (.tmp 26), none⟩ ::
[]))))))))
(.seq
(.plain (
⟨(some 27), .mv (.tmp 5), none⟩ ::
⟨(some 28), .bin .xor (.tmp 27) (.const (.int .u64 9223372036854775808)), none⟩ ::
⟨(some 29), .cvt .i64 (.tmp 28), none⟩ ::
⟨(some 2), .mv (.tmp 29), none⟩ ::
[]))
.ret))))))
theorem prep93 : prepFunc Tryz.prog 0 93 = some F93 := by kernel_rfl
def F94 : AFunc where
  ntmps := 37
  nparams := 1
  results := [(2, (some (true, 4)))]
  code :=
(.seq
(.plain (
⟨(some 2), .alloc 147 [(.v (.int .u8 0)), (.v (.string ⟨#[]⟩)), (.sl [] .nil), (.sl [] .nil)], none⟩ ::
[]))
(.seq
(.plain (
⟨(some 4), .mv (.tmp 0), none⟩ ::
⟨(some 5), .callF 117 [(.tmp 4)], none⟩ ::
⟨(some 6), .bld [(.v (.int .u8 0)), (.v (.string ⟨#[]⟩)), (.sl [] .nil), (.sl [] .nil)] [(0, 1, (.tmp 5))], none⟩ ::
⟨(some 3), .alloc 147 [(.v (.int .u8 0)), (.v (.string ⟨#[]⟩)), (.sl [] .nil), (.sl [] .nil)], none⟩ ::
⟨none, .store 4 (.tmp 3) (.tmp 6), none⟩ ::
[]))
(.seq
(.plain (
⟨(some 7), .mv (.tmp 0), none⟩ ::
⟨(some 8), .callF 53 [(.tmp 7), (.const (.int .i64 16))], none⟩ ::
⟨(some 9), .b2s (.tmp 8), none⟩ ::
⟨(some 10), .fa 1 (.tmp 3), none⟩ ::
⟨none, .store 1 (.tmp 10) (.tmp 9), none⟩ ::
[]))
(.seq
(.seq
(.plain (
⟨(some 11), .fa 0 (.tmp 3), none⟩ ::
⟨(some 12), .load false 1 (.tmp 11), none⟩ ::
[]))
(.block 0
(.seq
(.plain (
⟨(some 14), .bin .eql (.tmp 12) (.const (.int .u8 1)), none⟩ ::
⟨(some 13), .mv (.tmp 14), none⟩ ::
[]))
(.cond (.tmp 13)
(.seq
(.plain (
⟨(some 15), .mv (.tmp 0), none⟩ ::
⟨(some 16), .callF 117 [(.tmp 15)], none⟩ ::
⟨(some 17), .cvt .i64 (.tmp 16), none⟩ ::
⟨(some 18), .mm false .i64 (.tmp 17) (.const (.int .i64 8)), none⟩ ::
⟨(some 19), .mv (.const (.int .i64 0)), none⟩ ::
[]))
(.block 1
(.loop
(.seq
(.plain (
⟨(some 20), .bin .lss (.tmp 19) (.tmp 18), none⟩ ::
[]))
(.seq
(.cond (.tmp 20)
.skip
(.exit 1))
(.seq
(.block 2
(.draw (
⟨(some 21), .fa 2 (.tmp 3), none⟩ ::
⟨(some 22), .load false 1 (.tmp 21), none⟩ ::
⟨(some 23), .mv (.tmp 0), none⟩ ::
⟨(some 24), .callF 53 [(.tmp 23), (.const (.int .i64 16))], none⟩ ::
⟨(some 25), .b2s (.tmp 24), none⟩ ::
⟨(some 26), .bsl 1 [(.tmp 25)], none⟩ ::
⟨(some 27), .app 1 16 (.tmp 22) (.tmp 26), none⟩ ::
⟨(some 28), .fa 2 (.tmp 3), none⟩ ::
⟨none, .store 1 (.tmp 28) (.tmp 27), none⟩ ::
[])
(⟨0, [], []⟩ :: ⟨1, [], []⟩ :: ⟨2, [], []⟩ :: ⟨3, [], [1]⟩ :: ⟨4, [], []⟩ :: ⟨5, [], []⟩ :: ⟨6, [], []⟩ :: ⟨7, [], []⟩ :: ⟨8, [], []⟩ :: [])))
(.plain (
⟨(some 29), .bin .add (.tmp 19) (.const (.int .i64 1)), none⟩ ::
⟨(some 19), .mv (.tmp 29), none⟩ ::
[]))))))))
(.seq
(.seq
(.plain (
⟨(some 31), .bin .eql (.tmp 12) (.const (.int .u8 3)), none⟩ ::
⟨(some 30), .mv (.tmp 31), none⟩ ::
[]))
(.cond (.tmp 30)
.skip
(.plain (
⟨(some 32), .bin .eql (.tmp 12) (.const (.int .u8 4)), none⟩ ::
⟨(some 30), .mv (.tmp 32), none⟩ ::
[]))))
(.cond (.tmp 30)
(.plain (
⟨(some 33), .mv (.tmp 0), none⟩ ::
⟨(some 34), .callF 118 [(.tmp 33), (.const (.int .i64 8))], none⟩ ::
⟨(some 35), .fa 3 (.tmp 3), none⟩ ::
⟨none, .store 1 (.tmp 35) (.tmp 34), none⟩ ::
[]))
.skip))))))
(.seq
(.plain (
⟨(some 36), .load true 4 (.tmp 3), none⟩ ::
⟨none, .store 4 (.tmp 2) (.tmp 36), none⟩ ::
[]))
.ret)))))
theorem prep94 : prepFunc Tryz.prog 0 94 = some F94 := by kernel_rfl
def F95 : AFunc where
  ntmps := 7
  nparams := 1
  results := [(2, none)]
  code :=
(.seq
(.plain (
⟨(some 2), .mv (.const (.int .i64 0)), none⟩ ::
[]))
(.seq
(.plain (
⟨(some 3), .mv (.tmp 0), none⟩ ::
⟨(some 4), .nilc (.tmp 3), none⟩ ::
⟨(some 5), .fa 1 (.tmp 4), none⟩ ::
⟨(some 6), .load false 1 (.tmp 5), none⟩ ::
⟨(some 2), .mv (.tmp 6), none⟩ ::
[]))
.ret))
theorem prep95 : prepFunc Tryz.prog 0 95 = some F95 := by kernel_rfl
def F96 : AFunc where
  ntmps := 6
  nparams := 1
  results := [(2, none)]
  code :=
(.seq
(.plain (
⟨(some 1), .boxR 30 (.tmp 0), none⟩ ::
⟨(some 2), .mv (.const (.slice none 0 0)), none⟩ ::
[]))
(.seq
(.plain (
⟨(some 3), .slcR 1 32 (.tmp 1) none none, none⟩ ::
⟨(some 4), .bsl 1 [(.tmp 3)], none⟩ ::
⟨(some 5), .callF 12 [(.const (.int .u8 76)), (.tmp 4)], none⟩ ::
⟨(some 2), .mv (.tmp 5), none⟩ ::
[]))
.ret))
theorem prep96 : prepFunc Tryz.prog 0 96 = some F96 := by kernel_rfl
def F99 : AFunc where
  ntmps := 7
  nparams := 2
  results := []
  code :=
(.seq
(.plain (
⟨(some 3), .boxR 30 (.tmp 1), none⟩ ::
[]))
(.plain (
⟨(some 4), .mv (.tmp 0), none⟩ ::
⟨(some 5), .slcR 1 32 (.tmp 3) none none, none⟩ ::
⟨(some 6), .callF 115 [(.tmp 4), (.const (.bool true)), (.tmp 5)], none⟩ ::
[])))
theorem prep99 : prepFunc Tryz.prog 0 99 = some F99 := by kernel_rfl
def F100 : AFunc where
  ntmps := 55
  nparams := 4
  results := [(8, (some (true, 32)))]
  code :=
(.seq
(.plain (
⟨(some 7), .box 30 (.tmp 3), none⟩ ::
⟨(some 8), .alloc 30 (List.replicate 32 (.v (.int .u8 0))), none⟩ ::
[]))
(.seq
(.seq
(.plain (
⟨(some 13), .mv (.tmp 1), none⟩ ::
⟨(some 14), .bin .eql (.tmp 13) (.const (.int .i64 1)), none⟩ ::
[]))
(.cond (.tmp 14)
(.seq
(.plain (
⟨(some 15), .mv (.tmp 0), none⟩ ::
⟨(some 16), .load true 32 (.tmp 7), none⟩ ::
⟨(some 17), .callF 96 [(.tmp 16)], none⟩ ::
⟨(some 18), .callF 81 [(.tmp 15), (.tmp 17)], none⟩ ::
⟨none, .store 32 (.tmp 8) (.tmp 18), none⟩ ::
[]))
.ret)
.skip))
(.seq
(.plain (
⟨(some 19), .mv (.tmp 1), none⟩ ::
⟨(some 20), .callF 80 [(.tmp 19)], none⟩ ::
⟨(some 9), .mv (.tmp 20), none⟩ ::
[]))
(.seq
(.plain (
⟨(some 21), .mv (.tmp 0), none⟩ ::
⟨(some 22), .callF 79 [(.tmp 21)], none⟩ ::
⟨(some 10), .alloc 30 (List.replicate 32 (.v (.int .u8 0))), none⟩ ::
⟨none, .store 32 (.tmp 10) (.tmp 22), none⟩ ::
[]))
(.seq
(.seq
(.plain (
⟨(some 23), .mv (.tmp 0), none⟩ ::
⟨(some 24), .nilc (.tmp 23), none⟩ ::
⟨(some 25), .fa 2 (.tmp 24), none⟩ ::
⟨(some 26), .load false 1 (.tmp 25), none⟩ ::
[]))
(.cond (.tmp 26)
(.seq
(.plain (
⟨(some 27), .bld (List.replicate 32 (.v (.int .u8 0))) [], none⟩ ::
⟨none, .store 32 (.tmp 8) (.tmp 27), none⟩ ::
[]))
.ret)
.skip))
(.seq
(.seq
(.plain (
⟨(some 28), .mv (.tmp 2), none⟩ ::
⟨(some 29), .mv (.tmp 9), none⟩ ::
⟨(some 30), .bin .lss (.tmp 28) (.tmp 29), none⟩ ::
[]))
(.cond (.tmp 30)
(.seq
(.plain (
⟨(some 31), .mv (.tmp 0), none⟩ ::
⟨(some 32), .mv (.tmp 9), none⟩ ::
⟨(some 33), .mv (.tmp 2), none⟩ ::
⟨(some 34), .load true 32 (.tmp 7), none⟩ ::
⟨(some 35), .callF 100 [(.tmp 31), (.tmp 32), (.tmp 33), (.tmp 34)], none⟩ ::
⟨(some 11), .alloc 30 (List.replicate 32 (.v (.int .u8 0))), none⟩ ::
⟨none, .store 32 (.tmp 11) (.tmp 35), none⟩ ::
[]))
(.seq
(.plain (
⟨(some 36), .mv (.tmp 0), none⟩ ::
⟨(some 37), .load true 32 (.tmp 11), none⟩ ::
⟨(some 38), .load true 32 (.tmp 10), none⟩ ::
⟨(some 39), .callF 82 [(.tmp 37), (.tmp 38)], none⟩ ::
⟨(some 40), .callF 81 [(.tmp 36), (.tmp 39)], none⟩ ::
⟨none, .store 32 (.tmp 8) (.tmp 40), none⟩ ::
[]))
.ret))
.skip))
(.seq
(.plain (
⟨(some 41), .mv (.tmp 0), none⟩ ::
⟨(some 42), .mv (.tmp 1), none⟩ ::
⟨(some 43), .mv (.tmp 9), none⟩ ::
⟨(some 44), .bin .sub (.tmp 42) (.tmp 43), none⟩ ::
⟨(some 45), .mv (.tmp 2), none⟩ ::
⟨(some 46), .mv (.tmp 9), none⟩ ::
⟨(some 47), .bin .sub (.tmp 45) (.tmp 46), none⟩ ::
⟨(some 48), .load true 32 (.tmp 7), none⟩ ::
⟨(some 49), .callF 100 [(.tmp 41), (.tmp 44), (.tmp 47), (.tmp 48)], none⟩ ::
⟨(some 12), .alloc 30 (List.replicate 32 (.v (.int .u8 0))), none⟩ ::
⟨none, .store 32 (.tmp 12) (.tmp 49), none⟩ ::
[]))
(.seq
(.plain (
⟨(some 50), .mv (.tmp 0), none⟩ ::
⟨(some 51), .load true 32 (.tmp 10), none⟩ ::
⟨(some 52), .load true 32 (.tmp 12), none⟩ ::
⟨(some 53), .callF 82 [(.tmp 51), (.tmp 52)], none⟩ ::
⟨(some 54), .callF 81 [(.tmp 50), (.tmp 53)], none⟩ ::
⟨none, .store 32 (.tmp 8) (.tmp 54), none⟩ ::
[]))
.ret))))))))
theorem prep100 : prepFunc Tryz.prog 0 100 = some F100 := by kernel_rfl
def F102 : AFunc where
  ntmps := 8
  nparams := 2
  results := []
  code :=
(.plain (
⟨(some 4), .mv (.tmp 0), none⟩ ::
⟨(some 5), .mv (.tmp 1), none⟩ ::
⟨(some 6), .bsl 1 [(.tmp 5)], none⟩ ::
⟨(some 7), .callF 115 [(.tmp 4), (.const (.bool true)), (.tmp 6)], none⟩ ::
[]))
theorem prep102 : prepFunc Tryz.prog 0 102 = some F102 := by kernel_rfl
def F103 : AFunc where
  ntmps := 17
  nparams := 2
  results := []
  code :=
(.seq
(.seq
(.plain (
⟨(some 4), .mv (.tmp 1), none⟩ ::
⟨(some 5), .len (.tmp 4), none⟩ ::
⟨(some 6), .bin .gtr (.tmp 5) (.const (.int .i64 1048576)), none⟩ ::
[]))
(.cond (.tmp 6)
(.seq
(.plain (
⟨(some 7), .mv (.tmp 0), none⟩ ::
⟨(some 8), .nilc (.tmp 7), none⟩ ::
⟨(some 9), .fa 1 (.tmp 8), none⟩ ::
⟨none, .store 1 (.tmp 9) (.const (.int .i64 10)), none⟩ ::
[]))
.ret)
.skip))
(.seq
(.plain (
⟨(some 10), .mv (.tmp 0), none⟩ ::
⟨(some 11), .mv (.tmp 1), none⟩ ::
⟨(some 12), .len (.tmp 11), none⟩ ::
⟨(some 13), .callF 86 [(.tmp 10), (.tmp 12)], none⟩ ::
[]))
(.plain (
⟨(some 14), .mv (.tmp 0), none⟩ ::
⟨(some 15), .mv (.tmp 1), none⟩ ::
⟨(some 16), .callF 115 [(.tmp 14), (.const (.bool true)), (.tmp 15)], none⟩ ::
[]))))
theorem prep103 : prepFunc Tryz.prog 0 103 = some F103 := by kernel_rfl
end Go.Proofs.YtnnjjmiahcnbaaaGreat
set_option maxRecDepth 100000
namespace Go.Proofs.YtnnjjmiahcnbaaaGreat
open Go Go.Av
theorem hm_2 : Tryz.prog.follows .mixedOrders = true := by kernel_rfl
def F106 : AFunc where
  ntmps := 8
  nparams := 1
  results := [(2, none)]
  code :=
(.seq
(.plain (
⟨(some 2), .mv (.const (.int .i64 0)), none⟩ ::
[]))
(.seq
(.cond (.const (.bool false))
(.seq
(.plain (
⟨(some 3), .mv (.tmp 0), none⟩ ::
⟨(some 4), .cvt .u32 (.tmp 3), none⟩ ::
⟨(some 5), .callF 128 [(.tmp 4)], none⟩ ::
⟨(some 2), .mv (.tmp 5), none⟩ ::
[]))
.ret)
.skip)
(.seq
(.plain (
⟨(some 6), .mv (.tmp 0), none⟩ ::
⟨(some 7), .callF 129 [(.tmp 6)], none⟩ ::
⟨(some 2), .mv (.tmp 7), none⟩ ::
[]))
.ret)))
theorem prep106 : prepFunc Tryz.prog 0 106 = some F106 := by kernel_rfl
def F108 : AFunc where
  ntmps := 93
  nparams := 1
  results := [(2, (some (true, 64)))]
  code :=
(.seq
(.plain (
⟨(some 2), .alloc 172 (List.replicate 64 (.v (.int .u32 0))), none⟩ ::
[]))
(.seq
(.plain (
⟨(some 3), .alloc 172 (List.replicate 64 (.v (.int .u32 0))), none⟩ ::
[]))
(.seq
(.seq
(.plain (
⟨(some 10), .mv (.const (.int .i64 0)), none⟩ ::
[]))
(.block 0
(.loop
(.seq
(.plain (
⟨(some 11), .bin .lss (.tmp 10) (.const (.int .i64 16)), none⟩ ::
[]))
(.seq
(.cond (.tmp 11)
.skip
(.exit 0))
(.seq
(.block 1
(.seq
(.plain (
⟨(some 12), .mv (.tmp 10), none⟩ ::
⟨(some 4), .mv (.tmp 12), none⟩ ::
[]))
(.draw (
⟨(some 13), .mv (.tmp 4), none⟩ ::
⟨(some 14), .mv (.tmp 0), none⟩ ::
⟨(some 15), .mv (.tmp 4), none⟩ ::
⟨(some 16), .bin .mul (.const (.int .i64 4)) (.tmp 15), none⟩ ::
⟨(some 17), .iaS 1 (.tmp 14) (.tmp 16), none⟩ ::
⟨(some 18), .load false 1 (.tmp 17), none⟩ ::
⟨(some 19), .cvt .u32 (.tmp 18), none⟩ ::
⟨(some 20), .bin .shl (.tmp 19) (.const (.int .u64 24)), none⟩ ::
⟨(some 21), .mv (.tmp 0), none⟩ ::
⟨(some 22), .mv (.tmp 4), none⟩ ::
⟨(some 23), .bin .mul (.const (.int .i64 4)) (.tmp 22), none⟩ ::
⟨(some 24), .bin .add (.tmp 23) (.const (.int .i64 1)), none⟩ ::
⟨(some 25), .iaS 1 (.tmp 21) (.tmp 24), none⟩ ::
⟨(some 26), .load false 1 (.tmp 25), none⟩ ::
⟨(some 27), .cvt .u32 (.tmp 26), none⟩ ::
⟨(some 28), .bin .shl (.tmp 27) (.const (.int .u64 16)), none⟩ ::
⟨(some 29), .bin .or (.tmp 20) (.tmp 28), none⟩ ::
⟨(some 30), .mv (.tmp 0), none⟩ ::
⟨(some 31), .mv (.tmp 4), none⟩ ::
⟨(some 32), .bin .mul (.const (.int .i64 4)) (.tmp 31), none⟩ ::
⟨(some 33), .bin .add (.tmp 32) (.const (.int .i64 2)), none⟩ ::
⟨(some 34), .iaS 1 (.tmp 30) (.tmp 33), none⟩ ::
⟨(some 35), .load false 1 (.tmp 34), none⟩ ::
⟨(some 36), .cvt .u32 (.tmp 35), none⟩ ::
⟨(some 37), .bin .shl (.tmp 36) (.const (.int .u64 8)), none⟩ ::
⟨(some 38), .bin .or (.tmp 29) (.tmp 37), none⟩ ::
⟨(some 39), .mv (.tmp 0), none⟩ ::
⟨(some 40), .mv (.tmp 4), none⟩ ::
⟨(some 41), .bin .mul (.const (.int .i64 4)) (.tmp 40), none⟩ ::
⟨(some 42), .bin .add (.tmp 41) (.const (.int .i64 3)), none⟩ ::
⟨(some 43), .iaS 1 (.tmp 39) (.tmp 42), none⟩ ::
⟨(some 44), .load false 1 (.tmp 43), none⟩ ::
⟨(some 45), .cvt .u32 (.tmp 44), none⟩ ::
⟨(some 46), .bin .or (.tmp 38) (.tmp 45), none⟩ ::
⟨(some 47), .iaA 1 64 (.tmp 3) (.tmp 13), none⟩ ::
⟨none, .store 1 (.tmp 47) (.tmp 46), none⟩ ::
[])
(⟨0, [], []⟩ :: ⟨1, [], []⟩ :: ⟨2, [], []⟩ :: ⟨3, [], []⟩ :: ⟨4, [], []⟩ :: ⟨5, [], []⟩ :: ⟨6, [], []⟩ :: ⟨7, [], []⟩ :: ⟨8, [], []⟩ :: ⟨9, [], []⟩ :: ⟨10, [], []⟩ :: ⟨11, [], []⟩ :: ⟨12, [], []⟩ :: ⟨13, [], []⟩ :: ⟨14, [], []⟩ :: ⟨15, [], []⟩ :: ⟨16, [], []⟩ :: ⟨17, [], []⟩ :: ⟨18, [], []⟩ :: ⟨19, [], []⟩ :: ⟨20, [], []⟩ :: ⟨21, [], []⟩ :: ⟨22, [], []⟩ :: ⟨23, [], []⟩ :: ⟨24, [], []⟩ :: ⟨25, [], []⟩ :: ⟨26, [], []⟩ :: ⟨27, [], []⟩ :: ⟨28, [], []⟩ :: ⟨29, [], []⟩ :: ⟨30, [], []⟩ :: ⟨31, [], []⟩ :: ⟨32, [], []⟩ :: ⟨33, [], []⟩ :: ⟨34, [], []⟩ :: ⟨35, [], []⟩ :: []))))
(.plain (
⟨(some 48), .bin .add (.tmp 10) (.const (.int .i64 1)), none⟩ ::
⟨(some 10), .mv (.tmp 48), none⟩ ::
[]))))))))
(.seq
(.seq
(.plain (
⟨(some 5), .mv (.const (.int .i64 16)), none⟩ ::
[]))
(.block 2
(.loop
(.seq
(.seq
(.plain (
⟨(some 49), .mv (.tmp 5), none⟩ ::
⟨(some 50), .bin .lss (.tmp 49) (.const (.int .i64 64)), none⟩ ::
[]))
(.cond (.tmp 50)
.skip
(.exit 2)))
(.seq
(.block 3
(.seq
(.draw (
⟨(some 53), .mv (.tmp 5), none⟩ ::
⟨(some 54), .bin .sub (.tmp 53) (.const (.int .i64 15)), none⟩ ::
⟨(some 55), .iaA 1 64 (.tmp 3) (.tmp 54), none⟩ ::
⟨(some 56), .load false 1 (.tmp 55), none⟩ ::
⟨(some 57), .mv (.tmp 5), none⟩ ::
⟨(some 58), .bin .sub (.tmp 57) (.const (.int .i64 2)), none⟩ ::
⟨(some 59), .iaA 1 64 (.tmp 3) (.tmp 58), none⟩ ::
⟨(some 60), .load false 1 (.tmp 59), none⟩ ::
⟨(some 6), .mv (.tmp 56), none⟩ ::
⟨(some 7), .mv (.tmp 60), none⟩ ::
[])
(⟨0, [], []⟩ :: ⟨1, [], []⟩ :: ⟨2, [], []⟩ :: ⟨3, [], []⟩ :: ⟨4, [], []⟩ :: ⟨5, [], []⟩ :: ⟨6, [], []⟩ :: ⟨7, [], []⟩ :: ⟨8, [], []⟩ :: ⟨9, [], []⟩ :: []))
(.seq
(.plain (
⟨(some 61), .mv (.tmp 6), none⟩ ::
⟨(some 62), .callF 110 [(.tmp 61), (.const (.int .i64 (-7)))], none⟩ ::
⟨(some 63), .mv (.tmp 6), none⟩ ::
⟨(some 64), .callF 110 [(.tmp 63), (.const (.int .i64 (-18)))], none⟩ ::
⟨(some 65), .bin .xor (.tmp 62) (.tmp 64), none⟩ ::
⟨(some 66), .mv (.tmp 6), none⟩ ::
⟨(some 67), .bin .shr (.tmp 66) (.const (.int .u64 3)), none⟩ ::
⟨(some 68), .bin .xor (.tmp 65) (.tmp 67), none⟩ ::
⟨(some 8), .mv (.tmp 68), none⟩ ::
[]))
(.seq
(.plain (
⟨(some 69), .mv (.tmp 7), none⟩ ::
⟨(some 70), .callF 110 [(.tmp 69), (.const (.int .i64 (-17)))], none⟩ ::
⟨(some 71), .mv (.tmp 7), none⟩ ::
⟨(some 72), .callF 110 [(.tmp 71), (.const (.int .i64 (-19)))], none⟩ ::
⟨(some 73), .bin .xor (.tmp 70) (.tmp 72), none⟩ ::
⟨(some 74), .mv (.tmp 7), none⟩ ::
⟨(some 75), .bin .shr (.tmp 74) (.const (.int .u64 10)), none⟩ ::
⟨(some 76), .bin .xor (.tmp 73) (.tmp 75), none⟩ ::
⟨(some 9), .mv (.tmp 76), none⟩ ::
[]))
(.draw (
⟨(some 77), .mv (.tmp 5), none⟩ ::
⟨(some 78), .mv (.tmp 5), none⟩ ::
⟨(some 79), .bin .sub (.tmp 78) (.const (.int .i64 16)), none⟩ ::
⟨(some 80), .iaA 1 64 (.tmp 3) (.tmp 79), none⟩ ::
⟨(some 81), .load false 1 (.tmp 80), none⟩ ::
⟨(some 82), .mv (.tmp 8), none⟩ ::
⟨(some 83), .bin .add (.tmp 81) (.tmp 82), none⟩ ::
⟨(some 84), .mv (.tmp 5), none⟩ ::
⟨(some 85), .bin .sub (.tmp 84) (.const (.int .i64 7)), none⟩ ::
⟨(some 86), .iaA 1 64 (.tmp 3) (.tmp 85), none⟩ ::
⟨(some 87), .load false 1 (.tmp 86), none⟩ ::
⟨(some 88), .bin .add (.tmp 83) (.tmp 87), none⟩ ::
⟨(some 89), .mv (.tmp 9), none⟩ ::
⟨(some 90), .bin .add (.tmp 88) (.tmp 89), none⟩ ::
⟨(some 91), .iaA 1 64 (.tmp 3) (.tmp 77), none⟩ ::
⟨none, .store 1 (.tmp 91) (.tmp 90), none⟩ ::
[])
(⟨0, [], []⟩ :: ⟨1, [], []⟩ :: ⟨2, [], []⟩ :: ⟨3, [], []⟩ :: ⟨4, [], []⟩ :: ⟨5, [], []⟩ :: ⟨6, [], []⟩ :: ⟨7, [], []⟩ :: ⟨8, [], []⟩ :: ⟨9, [], []⟩ :: ⟨10, [], []⟩ :: ⟨11, [], []⟩ :: ⟨12, [], []⟩ :: ⟨13, [], []⟩ :: ⟨14, [], []⟩ :: ⟨15, [], []⟩ :: []))))))
(.plain (
⟨(some 51), .mv (.tmp 5), none⟩ ::
⟨(some 52), .bin .add (.tmp 51) (.const (.int .i64 1)), none⟩ ::
⟨(some 5), .mv (.tmp 52), none⟩ ::
[])))))))
(.seq
(.plain (
⟨(some 92), .load true 64 (.tmp 3), none⟩ ::
⟨none, .store 64 (.tmp 2) (.tmp 92), none⟩ ::
[]))
.ret)))))
theorem prep108 : prepFunc Tryz.prog 0 108 = some F108 := by kernel_rfl
def F109 : AFunc where
  ntmps := 2
  nparams := 0
  results := [(0, (some (true, 64)))]
  code :=
(.seq
(.plain (
⟨(some 0), .alloc 172 (List.replicate 64 (.v (.int .u32 0))), none⟩ ::
[]))
(.seq
(.plain (
⟨(some 1), .bld (List.replicate 64 (.v (.int .u32 0))) [(0, 1, (.const (.int .u32 1116352408))), (1, 1, (.const (.int .u32 1899447441))), (2, 1, (.const (.int .u32 3049323471))), (3, 1, (.const (.int .u32 3921009573))), (4, 1, (.const (.int .u32 961987163))), (5, 1, (.const (.int .u32 1508970993))), (6, 1, (.const (.int .u32 2453635748))), (7, 1, (.const (.int .u32 2870763221))), (8, 1, (.const (.int .u32 3624381080))), (9, 1, (.const (.int .u32 310598401))), (10, 1, (.const (.int .u32 607225278))), (11, 1, (.const (.int .u32 1426881987))), (12, 1, (.const (.int .u32 1925078388))), (13, 1, (.const (.int .u32 2162078206))), (14, 1, (.const (.int .u32 2614888103))), (15, 1, (.const (.int .u32 3248222580))), (16, 1, (.const (.int .u32 3835390401))), (17, 1, (.const (.int .u32 4022224774))), (18, 1, (.const (.int .u32 264347078))), (19, 1, (.const (.int .u32 604807628))), (20, 1, (.const (.int .u32 770255983))), (21, 1, (.const (.int .u32 1249150122))), (22, 1, (.const (.int .u32 1555081692))), (23, 1, (.const (.int .u32 1996064986))), (24, 1, (.const (.int .u32 2554220882))), (25, 1, (.const (.int .u32 2821834349))), (26, 1, (.const (.int .u32 2952996808))), (27, 1, (.const (.int .u32 3210313671))), (28, 1, (.const (.int .u32 3336571891))), (29, 1, (.const (.int .u32 3584528711))), (30, 1, (.const (.int .u32 113926993))), (31, 1, (.const (.int .u32 338241895))), (32, 1, (.const (.int .u32 666307205))), (33, 1, (.const (.int .u32 773529912))), (34, 1, (.const (.int .u32 1294757372))), (35, 1, (.const (.int .u32 1396182291))), (36, 1, (.const (.int .u32 1695183700))), (37, 1, (.const (.int .u32 1986661051))), (38, 1, (.const (.int .u32 2177026350))), (39, 1, (.const (.int .u32 2456956037))), (40, 1, (.const (.int .u32 2730485921))), (41, 1, (.const (.int .u32 2820302411))), (42, 1, (.const (.int .u32 3259730800))), (43, 1, (.const (.int .u32 3345764771))), (44, 1, (.const (.int .u32 3516065817))), (45, 1, (.const (.int .u32 3600352804))), (46, 1, (.const (.int .u32 4094571909))), (47, 1, (.const (.int .u32 275423344))), (48, 1, (.const (.int .u32 430227734))), (49, 1, (.const (.int .u32 506948616))), (50, 1, (.const (.int .u32 659060556))), (51, 1, (.const (.int .u32 883997877))), (52, 1, (.const (.int .u32 958139571))), (53, 1, (.const (.int .u32 1322822218))), (54, 1, (.const (.int .u32 1537002063))), (55, 1, (.const (.int .u32 1747873779))), (56, 1, (.const (.int .u32 1955562222))), (57, 1, (.const (.int .u32 2024104815))), (58, 1, (.const (.int .u32 2227730452))), (59, 1, (.const (.int .u32 2361852424))), (60, 1, (.const (.int .u32 2428436474))), (61, 1, (.const (.int .u32 2756734187))), (62, 1, (.const (.int .u32 3204031479))), (63, 1, (.const (.int .u32 3329325298)))], none⟩ ::
⟨none, .store 64 (.tmp 0) (.tmp 1), none⟩ ::
[]))
.ret))
theorem prep109 : prepFunc Tryz.prog 0 109 = some F109 := by kernel_rfl
def F110 : AFunc where
  ntmps := 17
  nparams := 2
  results := [(4, none)]
  code :=
(.seq
(.plain (
⟨(some 4), .mv (.const (.int .u32 0)), none⟩ ::
[]))
(.seq
(.plain (
⟨(some 6), .mv (.tmp 1), none⟩ ::
⟨(some 7), .cvt .u64 (.tmp 6), none⟩ ::
⟨(some 8), .bin .and (.tmp 7) (.const (.int .u64 31)), none⟩ ::
⟨(some 5), .mv (.tmp 8), none⟩ ::
[]))
(.seq
(.plain (
⟨(some 9), .mv (.tmp 0), none⟩ ::
⟨(some 10), .mv (.tmp 5), none⟩ ::
⟨(some 11), .bin .shl (.tmp 9) (.tmp 10), none⟩ ::
⟨(some 12), .mv (.tmp 0), none⟩ ::
⟨(some 13), .mv (.tmp 5), none⟩ ::
⟨(some 14), .bin .sub (.const (.int .u64 32)) (.tmp 13), none⟩ ::
⟨(some 15), .bin .shr (.tmp 12) (.tmp 14), none⟩ ::
⟨(some 16), .bin .or (.tmp 11) (.tmp 15), none⟩ ::
⟨(some 4), .mv (.tmp 16), none⟩ ::
[]))
.ret)))
theorem prep110 : prepFunc Tryz.prog 0 110 = some F110 := by kernel_rfl
def F112 : AFunc where
  ntmps := 19
  nparams := 2
  results := [(4, none)]
  code :=
(.seq
(.plain (
⟨(some 4), .mv (.const (.int .i64 0)), none⟩ ::
[]))
(.seq
(.seq
(.plain (
⟨(some 6), .mv (.tmp 0), none⟩ ::
⟨(some 7), .len (.tmp 6), none⟩ ::
⟨(some 8), .mv (.const (.int .i64 0)), none⟩ ::
[]))
(.block 0
(.loop
(.seq
(.plain (
⟨(some 9), .bin .lss (.tmp 8) (.tmp 7), none⟩ ::
[]))
(.seq
(.cond (.tmp 9)
.skip
(.exit 0))
(.seq
(.block 1
(.seq
(.plain (
⟨(some 10), .mv (.tmp 8), none⟩ ::
⟨(some 5), .mv (.tmp 10), none⟩ ::
[]))
(.seq
(.plain (
⟨(some 11), .mv (.tmp 1), none⟩ ::
⟨(some 12), .mv (.tmp 0), none⟩ ::
⟨(some 13), .mv (.tmp 5), none⟩ ::
⟨(some 14), .iaS 4 (.tmp 12) (.tmp 13), none⟩ ::
⟨(some 15), .load true 4 (.tmp 14), none⟩ ::
⟨(some 16), .callV (.tmp 11) [(.tmp 15)], none⟩ ::
[]))
(.cond (.tmp 16)
(.seq
(.plain (
⟨(some 17), .mv (.tmp 5), none⟩ ::
⟨(some 4), .mv (.tmp 17), none⟩ ::
[]))
.ret)
.skip))))
(.plain (
⟨(some 18), .bin .add (.tmp 8) (.const (.int .i64 1)), none⟩ ::
⟨(some 8), .mv (.tmp 18), none⟩ ::
[]))))))))
(.seq
(.plain (
⟨(some 4), .mv (.const (.int .i64 (-1))), none⟩ ::
[]))
.ret)))
theorem prep112 : prepFunc Tryz.prog 0 112 = some F112 := by kernel_rfl
def F113 : AFunc where
  ntmps := 44
  nparams := 1
  results := [(2, none)]
  code :=
(.seq
(.plain (
⟨(some 2), .mv (.const (.bool false)), none⟩ ::
[]))
(.seq
(.seq
(.plain (
⟨(some 6), .mv (.tmp 0), none⟩ ::
⟨(some 7), .rngS (.tmp 6), none⟩ ::
[]))
(.block 0
(.loop
(.seq
(.plain (
⟨(some 8), .nxtS (.tmp 7), none⟩ ::
⟨(some 9), .ext (.tmp 8) 0, none⟩ ::
[]))
(.seq
(.cond (.tmp 9)
.skip
(.exit 0))
(.block 1
(.seq
(.plain (
⟨(some 10), .ext (.tmp 8) 1, none⟩ ::
⟨(some 11), .ext (.tmp 8) 2, none⟩ ::
⟨(some 3), .mv (.tmp 10), none⟩ ::
⟨(some 4), .mv (.tmp 11), none⟩ ::
[]))
(.seq
(.plain (
⟨(some 12), .mv (.tmp 4), none⟩ ::
⟨(some 13), .bin .geq (.tmp 12) (.const (.int .i32 97)), none⟩ ::
⟨(some 14), .mv (.tmp 13), none⟩ ::
⟨(some 15), .mv (.tmp 4), (some (14, true))⟩ ::
⟨(some 16), .bin .leq (.tmp 15) (.const (.int .i32 122)), (some (14, true))⟩ ::
⟨(some 17), .pick (.tmp 14) (.tmp 16) (.const (.bool false)), none⟩ ::
⟨(some 5), .mv (.tmp 17), none⟩ ::
[]))
(.seq
(.plain (
⟨(some 18), .mv (.tmp 5), none⟩ ::
⟨(some 19), .un .not (.tmp 18), none⟩ ::
⟨(some 20), .mv (.tmp 19), none⟩ ::
⟨(some 21), .mv (.tmp 3), (some (20, true))⟩ ::
⟨(some 22), .bin .eql (.tmp 21) (.const (.int .i64 0)), (some (20, true))⟩ ::
⟨(some 23), .mv (.tmp 22), (some (20, true))⟩ ::
⟨(some 24), .mv (.tmp 4), (some (23, false))⟩ ::
⟨(some 25), .bin .lss (.tmp 24) (.const (.int .i32 48)), (some (23, false))⟩ ::
⟨(some 26), .mv (.tmp 25), (some (23, false))⟩ ::
⟨(some 27), .mv (.tmp 4), (some (26, false))⟩ ::
⟨(some 28), .bin .gtr (.tmp 27) (.const (.int .i32 57)), (some (26, false))⟩ ::
⟨(some 29), .pick (.tmp 26) (.const (.bool true)) (.tmp 28), (some (23, false))⟩ ::
⟨(some 30), .mv (.tmp 29), (some (23, false))⟩ ::
⟨(some 31), .mv (.tmp 4), (some (30, true))⟩ ::
⟨(some 32), .bin .neq (.tmp 31) (.const (.int .i32 95)), (some (30, true))⟩ ::
⟨(some 33), .pick (.tmp 30) (.tmp 32) (.const (.bool false)), (some (23, false))⟩ ::
⟨(some 34), .pick (.tmp 23) (.const (.bool true)) (.tmp 33), (some (20, true))⟩ ::
⟨(some 35), .pick (.tmp 20) (.tmp 34) (.const (.bool false)), none⟩ ::
[]))
(.cond (.tmp 35)
(.seq
(.plain (
⟨(some 2), .mv (.const (.bool false)), none⟩ ::
[]))
.ret)
.skip))))))))))
(.seq
(.plain (
⟨(some 36), .mv (.tmp 0), none⟩ ::
⟨(some 37), .lenT (.tmp 36), none⟩ ::
⟨(some 38), .bin .geq (.tmp 37) (.const (.int .i64 1)), none⟩ ::
⟨(some 39), .mv (.tmp 38), none⟩ ::
⟨(some 40), .mv (.tmp 0), (some (39, true))⟩ ::
⟨(some 41), .lenT (.tmp 40), (some (39, true))⟩ ::
⟨(some 42), .bin .leq (.tmp 41) (.const (.int .i64 16)), (some (39, true))⟩ ::
⟨(some 43), .pick (.tmp 39) (.tmp 42) (.const (.bool false)), none⟩ ::
⟨(some 2), .mv (.tmp 43), none⟩ ::
[]))
.ret)))
theorem prep113 : prepFunc Tryz.prog 0 113 = some F113 := by kernel_rfl
def F114 : AFunc where
  ntmps := 35
  nparams := 1
  results := [(2, none)]
  code :=
(.seq
(.plain (
⟨(some 2), .mv (.const (.bool false)), none⟩ ::
[]))
(.seq
(.seq
(.plain (
⟨(some 5), .mv (.tmp 0), none⟩ ::
⟨(some 6), .len (.tmp 5), none⟩ ::
⟨(some 7), .mv (.const (.int .i64 0)), none⟩ ::
[]))
(.block 0
(.loop
(.seq
(.plain (
⟨(some 8), .bin .lss (.tmp 7) (.tmp 6), none⟩ ::
[]))
(.seq
(.cond (.tmp 8)
.skip
(.exit 0))
(.seq
(.block 1
(.seq
(.plain (
⟨(some 9), .mv (.tmp 7), none⟩ ::
⟨(some 10), .iaS 1 (.tmp 5) (.tmp 7), none⟩ ::
⟨(some 11), .load false 1 (.tmp 10), none⟩ ::
⟨(some 3), .mv (.tmp 9), none⟩ ::
⟨(some 4), .mv (.tmp 11), none⟩ ::
[]))
(.seq
(.plain (
⟨(some 12), .mv (.tmp 4), none⟩ ::
⟨(some 13), .callF 113 [(.tmp 12)], none⟩ ::
⟨(some 14), .un .not (.tmp 13), none⟩ ::
⟨(some 15), .mv (.tmp 14), none⟩ ::
⟨(some 16), .mv (.tmp 4), (some (15, false))⟩ ::
⟨(some 17), .bin .eql (.tmp 16) (.const (.string ⟨#[105, 100]⟩)), (some (15, false))⟩ ::
⟨(some 18), .pick (.tmp 15) (.const (.bool true)) (.tmp 17), none⟩ ::
⟨(some 19), .mv (.tmp 18), none⟩ ::
⟨(some 20), .mv (.tmp 0), (some (19, false))⟩ ::
⟨(some 21), .mv (.tmp 3), (some (19, false))⟩ ::
⟨(some 22), .slc 1 (.tmp 20) none (some (.tmp 21)), (some (19, false))⟩ ::
⟨(some 23), .mv (.tmp 4), (some (19, false))⟩ ::
⟨(some 24), .callF 130 [(.tmp 22), (.tmp 23)], (some (19, false))⟩ ::
⟨(some 25), .pick (.tmp 19) (.const (.bool true)) (.tmp 24), none⟩ ::
[]))
(.cond (.tmp 25)
(.seq
(.plain (
⟨(some 2), .mv (.const (.bool false)), none⟩ ::
[]))
.ret)
.skip))))
(.plain (
⟨(some 26), .bin .add (.tmp 7) (.const (.int .i64 1)), none⟩ ::
⟨(some 7), .mv (.tmp 26), none⟩ ::
[]))))))))
(.seq
(.plain (
⟨(some 27), .mv (.tmp 0), none⟩ ::
⟨(some 28), .len (.tmp 27), none⟩ ::
⟨(some 29), .bin .geq (.tmp 28) (.const (.int .i64 1)), none⟩ ::
⟨(some 30), .mv (.tmp 29), none⟩ ::
⟨(some 31), .mv (.tmp 0), (some (30, true))⟩ ::
⟨(some 32), .len (.tmp 31), (some (30, true))⟩ ::
⟨(some 33), .bin .leq (.tmp 32) (.const (.int .i64 7)), (some (30, true))⟩ ::
⟨(some 34), .pick (.tmp 30) (.tmp 33) (.const (.bool false)), none⟩ ::
⟨(some 2), .mv (.tmp 34), none⟩ ::
[]))
.ret)))
theorem prep114 : prepFunc Tryz.prog 0 114 = some F114 := by kernel_rfl
def F115 : AFunc where
  ntmps := 20
  nparams := 3
  results := []
  code :=
(.seq
(.seq
(.plain (
⟨(some 6), .mv (.tmp 1), none⟩ ::
⟨(some 7), .un .not (.tmp 6), none⟩ ::
[]))
(.cond (.tmp 7)
(.seq
(.plain (
⟨(some 8), .mv (.tmp 0), none⟩ ::
⟨(some 9), .nilc (.tmp 8), none⟩ ::
⟨(some 10), .fa 1 (.tmp 9), none⟩ ::
⟨none, .store 1 (.tmp 10) (.const (.int .i64 10)), none⟩ ::
[]))
.ret)
.skip))
(.plain (
⟨(some 11), .mv (.tmp 0), none⟩ ::
⟨(some 12), .mv (.tmp 0), none⟩ ::
⟨(some 13), .nilc (.tmp 12), none⟩ ::
⟨(some 14), .fa 0 (.tmp 13), none⟩ ::
⟨(some 15), .load false 1 (.tmp 14), none⟩ ::
⟨(some 16), .mv (.tmp 2), none⟩ ::
⟨(some 17), .app 1 1 (.tmp 15) (.tmp 16), none⟩ ::
⟨(some 18), .nilc (.tmp 11), none⟩ ::
⟨(some 19), .fa 0 (.tmp 18), none⟩ ::
⟨none, .store 1 (.tmp 19) (.tmp 17), none⟩ ::
[])))
theorem prep115 : prepFunc Tryz.prog 0 115 = some F115 := by kernel_rfl
def F116 : AFunc where
  ntmps := 27
  nparams := 2
  results := []
  code :=
(.seq
(.seq
(.plain (
⟨(some 6), .mv (.tmp 1), none⟩ ::
⟨(some 7), .len (.tmp 6), none⟩ ::
⟨(some 8), .bin .gtr (.tmp 7) (.const (.int .i64 255)), none⟩ ::
[]))
(.cond (.tmp 8)
(.seq
(.plain (
⟨(some 9), .mv (.tmp 0), none⟩ ::
⟨(some 10), .nilc (.tmp 9), none⟩ ::
⟨(some 11), .fa 1 (.tmp 10), none⟩ ::
⟨none, .store 1 (.tmp 11) (.const (.int .i64 10)), none⟩ ::
[]))
.ret)
.skip))
(.seq
(.plain (
⟨(some 12), .mv (.tmp 0), none⟩ ::
⟨(some 13), .mv (.tmp 1), none⟩ ::
⟨(some 14), .len (.tmp 13), none⟩ ::
⟨(some 15), .cvt .u8 (.tmp 14), none⟩ ::
⟨(some 16), .callF 102 [(.tmp 12), (.tmp 15)], none⟩ ::
[]))
(.seq
(.plain (
⟨(some 17), .mv (.tmp 1), none⟩ ::
⟨(some 18), .len (.tmp 17), none⟩ ::
⟨(some 19), .mv (.const (.int .i64 0)), none⟩ ::
[]))
(.block 0
(.loop
(.seq
(.plain (
⟨(some 20), .bin .lss (.tmp 19) (.tmp 18), none⟩ ::
[]))
(.seq
(.cond (.tmp 20)
.skip
(.exit 0))
(.seq
(.block 1
(.seq
(.plain (
⟨(some 21), .iaS 1 (.tmp 17) (.tmp 19), none⟩ ::
⟨(some 22), .load false 1 (.tmp 21), none⟩ ::
⟨(some 5), .mv (.tmp 22), none⟩ ::
[]))
(.plain (
⟨(some 23), .mv (.tmp 0), none⟩ ::
⟨(some 24), .mv (.tmp 5), none⟩ ::
⟨(some 25), .callF 77 [(.tmp 23), (.tmp 24)], none⟩ ::
[]))))
(.plain (
⟨(some 26), .bin .add (.tmp 19) (.const (.int .i64 1)), none⟩ ::
⟨(some 19), .mv (.tmp 26), none⟩ ::
[]))))))))))
theorem prep116 : prepFunc Tryz.prog 0 116 = some F116 := by kernel_rfl
def F117 : AFunc where
  ntmps := 15
  nparams := 1
  results := [(2, none)]
  code :=
(.seq
(.plain (
⟨(some 2), .mv (.const (.int .u8 0)), none⟩ ::
[]))
(.seq
(.plain (
⟨(some 6), .mv (.tmp 0), none⟩ ::
⟨(some 7), .callF 89 [(.tmp 6), (.const (.int .i64 1))], none⟩ ::
⟨(some 5), .mv (.tmp 7), none⟩ ::
⟨(some 8), .ext (.tmp 5) 0, none⟩ ::
⟨(some 9), .ext (.tmp 5) 1, none⟩ ::
⟨(some 3), .mv (.tmp 8), none⟩ ::
⟨(some 4), .mv (.tmp 9), none⟩ ::
[]))
(.seq
(.seq
(.plain (
⟨(some 10), .mv (.tmp 4), none⟩ ::
⟨(some 11), .un .not (.tmp 10), none⟩ ::
[]))
(.cond (.tmp 11)
(.seq
(.plain (
⟨(some 2), .mv (.const (.int .u8 0)), none⟩ ::
[]))
.ret)
.skip))
(.seq
(.plain (
⟨(some 12), .mv (.tmp 3), none⟩ ::
⟨(some 13), .iaS 1 (.tmp 12) (.const (.int .i64 0)), none⟩ ::
⟨(some 14), .load false 1 (.tmp 13), none⟩ ::
⟨(some 2), .mv (.tmp 14), none⟩ ::
[]))
.ret))))
theorem prep117 : prepFunc Tryz.prog 0 117 = some F117 := by kernel_rfl
def F118 : AFunc where
  ntmps := 37
  nparams := 2
  results := [(4, none)]
  code :=
(.seq
(.plain (
⟨(some 4), .mv (.const (.slice none 0 0)), none⟩ ::
[]))
(.seq
(.plain (
⟨(some 8), .mv (.tmp 0), none⟩ ::
⟨(some 9), .callF 117 [(.tmp 8)], none⟩ ::
⟨(some 10), .cvt .i64 (.tmp 9), none⟩ ::
⟨(some 5), .mv (.tmp 10), none⟩ ::
[]))
(.seq
(.seq
(.plain (
⟨(some 11), .mv (.tmp 5), none⟩ ::
⟨(some 12), .mv (.tmp 1), none⟩ ::
⟨(some 13), .bin .gtr (.tmp 11) (.tmp 12), none⟩ ::
[]))
(.cond (.tmp 13)
(.plain (
⟨(some 14), .mv (.tmp 0), none⟩ ::
⟨(some 15), .callF 91 [(.tmp 14), (.const (.int .i64 10))], none⟩ ::
[]))
.skip))
(.seq
(.plain (
⟨(some 6), .mv (.const (.slice none 0 0)), none⟩ ::
[]))
(.seq
(.seq
(.plain (
⟨(some 16), .mv (.tmp 5), none⟩ ::
⟨(some 17), .mv (.const (.int .i64 0)), none⟩ ::
[]))
(.block 0
(.loop
(.seq
(.plain (
⟨(some 18), .bin .lss (.tmp 17) (.tmp 16), none⟩ ::
[]))
(.seq
(.cond (.tmp 18)
.skip
(.exit 0))
(.seq
(.block 1
(.seq
(.plain (
⟨(some 19), .mv (.tmp 0), none⟩ ::
⟨(some 20), .callF 93 [(.tmp 19)], none⟩ ::
⟨(some 7), .mv (.tmp 20), none⟩ ::
[]))
(.seq
(.plain (
⟨(some 21), .mv (.tmp 0), none⟩ ::
⟨(some 22), .nilc (.tmp 21), none⟩ ::
⟨(some 23), .fa 1 (.tmp 22), none⟩ ::
⟨(some 24), .load false 1 (.tmp 23), none⟩ ::
⟨(some 25), .bin .eql (.tmp 24) (.const (.int .i64 0)), none⟩ ::
[]))
(.cond (.tmp 25)
(.plain (
⟨(some 26), .mv (.tmp 6), none⟩ ::
⟨(some 27), .mv (.tmp 7), none⟩ ::
⟨(some 28), .bsl 1 [(.tmp 27)], none⟩ ::
⟨(some 29), .app 1 8 (.tmp 26) (.tmp 28), none⟩ ::
⟨(some 6), .mv (.tmp 29), none⟩ ::
[]))
.skip))))
(.plain (
⟨(some 30), .bin .add (.tmp 17) (.const (.int .i64 1)), none⟩ ::
⟨(some 17), .mv (.tmp 30), none⟩ ::
[]))))))))
(.seq
(.seq
(.plain (
⟨(some 31), .mv (.tmp 0), none⟩ ::
⟨(some 32), .nilc (.tmp 31), none⟩ ::
⟨(some 33), .fa 1 (.tmp 32), none⟩ ::
⟨(some 34), .load false 1 (.tmp 33), none⟩ ::
⟨(some 35), .bin .neq (.tmp 34) (.const (.int .i64 0)), none⟩ ::
[]))
(.cond (.tmp 35)
(.seq
(.plain (
⟨(some 4), .mv (.const (.slice none 0 0)), none⟩ ::
[]))
.ret)
.skip))
(.seq
(.plain (
⟨(some 36), .mv (.tmp 6), none⟩ ::
⟨(some 4), .mv (.tmp 36), none⟩ ::
[]))
.ret)))))))
theorem prep118 : prepFunc Tryz.prog 0 118 = some F118 := by kernel_rfl
def F129 : AFunc where
  ntmps := 25
  nparams := 1
  results := [(2, none)]
  code :=
(.seq
(.plain (
⟨(some 2), .mv (.const (.int .i64 0)), none⟩ ::
[]))
(.seq
(.seq
(.plain (
⟨(some 3), .mv (.tmp 0), none⟩ ::
⟨(some 4), .bin .geq (.tmp 3) (.const (.int .u64 4294967296)), none⟩ ::
[]))
(.cond (.tmp 4)
(.seq
(.plain (
⟨(some 5), .mv (.tmp 0), none⟩ ::
⟨(some 6), .bin .shr (.tmp 5) (.const (.int .u64 32)), none⟩ ::
⟨(some 0), .mv (.tmp 6), none⟩ ::
[]))
(.plain (
⟨(some 2), .mv (.const (.int .i64 32)), none⟩ ::
[])))
.skip))
(.seq
(.seq
(.plain (
⟨(some 7), .mv (.tmp 0), none⟩ ::
⟨(some 8), .bin .geq (.tmp 7) (.const (.int .u64 65536)), none⟩ ::
[]))
(.cond (.tmp 8)
(.seq
(.plain (
⟨(some 9), .mv (.tmp 0), none⟩ ::
⟨(some 10), .bin .shr (.tmp 9) (.const (.int .u64 16)), none⟩ ::
⟨(some 0), .mv (.tmp 10), none⟩ ::
[]))
(.plain (
⟨(some 11), .mv (.tmp 2), none⟩ ::
⟨(some 12), .bin .add (.tmp 11) (.const (.int .i64 16)), none⟩ ::
⟨(some 2), .mv (.tmp 12), none⟩ ::
[])))
.skip))
(.seq
(.seq
(.plain (
⟨(some 13), .mv (.tmp 0), none⟩ ::
⟨(some 14), .bin .geq (.tmp 13) (.const (.int .u64 256)), none⟩ ::
[]))
(.cond (.tmp 14)
(.seq
(.plain (
⟨(some 15), .mv (.tmp 0), none⟩ ::
⟨(some 16), .bin .shr (.tmp 15) (.const (.int .u64 8)), none⟩ ::
⟨(some 0), .mv (.tmp 16), none⟩ ::
[]))
(.plain (
⟨(some 17), .mv (.tmp 2), none⟩ ::
⟨(some 18), .bin .add (.tmp 17) (.const (.int .i64 8)), none⟩ ::
⟨(some 2), .mv (.tmp 18), none⟩ ::
[])))
.skip))
(.seq
(.plain (
⟨(some 19), .mv (.tmp 2), none⟩ ::
⟨(some 20), .mv (.tmp 0), none⟩ ::
⟨(some 21), .cvt .u8 (.tmp 20), none⟩ ::
⟨(some 22), .idxS (.const (.string ⟨#[0, 1, 2, 2, 3, 3, 3, 3, 4, 4, 4, 4, 4, 4, 4, 4, 5, 5, 5, 5, 5, 5, 5, 5, 5, 5, 5, 5, 5, 5, 5, 5, 6, 6, 6, 6, 6, 6, 6, 6, 6, 6, 6, 6, 6, 6, 6, 6, 6, 6, 6, 6, 6, 6, 6, 6, 6, 6, 6, 6, 6, 6, 6, 6, 7, 7, 7, 7, 7, 7, 7, 7, 7, 7, 7, 7, 7, 7, 7, 7, 7, 7, 7, 7, 7, 7, 7, 7, 7, 7, 7, 7, 7, 7, 7, 7, 7, 7, 7, 7, 7, 7, 7, 7, 7, 7, 7, 7, 7, 7, 7, 7, 7, 7, 7, 7, 7, 7, 7, 7, 7, 7, 7, 7, 7, 7, 7, 7, 8, 8, 8, 8, 8, 8, 8, 8, 8, 8, 8, 8, 8, 8, 8, 8, 8, 8, 8, 8, 8, 8, 8, 8, 8, 8, 8, 8, 8, 8, 8, 8, 8, 8, 8, 8, 8, 8, 8, 8, 8, 8, 8, 8, 8, 8, 8, 8, 8, 8, 8, 8, 8, 8, 8, 8, 8, 8, 8, 8, 8, 8, 8, 8, 8, 8, 8, 8, 8, 8, 8, 8, 8, 8, 8, 8, 8, 8, 8, 8, 8, 8, 8, 8, 8, 8, 8, 8, 8, 8, 8, 8, 8, 8, 8, 8, 8, 8, 8, 8, 8, 8, 8, 8, 8, 8, 8, 8, 8, 8, 8, 8, 8, 8, 8, 8, 8, 8, 8, 8, 8, 8, 8, 8, 8, 8, 8, 8]⟩)) (.tmp 21), none⟩ ::
⟨(some 23), .cvt .i64 (.tmp 22), none⟩ ::
⟨(some 24), .bin .add (.tmp 19) (.tmp 23), none⟩ ::
⟨(some 2), .mv (.tmp 24), none⟩ ::
[]))
.ret)))))
theorem prep129 : prepFunc Tryz.prog 0 129 = some F129 := by kernel_rfl
def F130 : AFunc where
  ntmps := 9
  nparams := 2
  results := [(4, none)]
  code :=
(.seq
(.plain (
⟨(some 4), .mv (.const (.bool false)), none⟩ ::
[]))
(.seq
(.plain (
⟨(some 5), .mv (.tmp 0), none⟩ ::
⟨(some 6), .mv (.tmp 1), none⟩ ::
⟨(some 7), .callF 139 [(.tmp 5), (.tmp 6)], none⟩ ::
⟨(some 8), .bin .geq (.tmp 7) (.const (.int .i64 0)), none⟩ ::
⟨(some 4), .mv (.tmp 8), none⟩ ::
[]))
.ret))
theorem prep130 : prepFunc Tryz.prog 0 130 = some F130 := by kernel_rfl
end Go.Proofs.YtnnjjmiahcnbaaaGreat
/-
  Running abstract code by 'simp': equations that unfold one step, and the arithmetic of words.
-/
namespace Go.Av
open Go
/-! 'simp' does not look into an argument that another argument's type depends on: so continuations are put away -/
abbrev Dep.{u} {α : Sort u} (_ : α) : Type := Unit
def hid1 {α : Type} (C : α → Prop) (_ : Dep C) (a : α) : Prop := C a
def hid2 {α β : Type} (C : α → β → Prop) (_ : Dep C) (a : α) (b : β) : Prop := C a b
def hidP (p : Prop) (_ : Dep p) : Prop := p
theorem hid1_eq {α : Type} {C : α → Prop} {d : Dep C} {a : α} : hid1 C d a = C a := rfl
theorem hid2_eq {α β : Type} {C : α → β → Prop} {d : Dep C} {a : α} {b : β} : hid2 C d a b = C a b := rfl
theorem hidP_eq {p : Prop} {d : Dep p} : hidP p d = p := rfl
def newK (s : Hp) (C : Nat → Prop) : Prop := ∀ l, s l = none → C l
def andK (A B : Prop) : Prop := A ∧ B
theorem andK_ok {p B : Prop} {d : Dep B} (h : p) : andK p (hidP B d) = B := by simp [andK, hidP, h]
theorem andK_true {B : Prop} {d : Dep B} : andK True (hidP B d) = B := by simp [andK, hidP]
section
variable {P : Ctx} {K : Ex → Fr → Hp → Prop} {f : Fr} {s : Hp}
theorem awp_skip : awp P .skip K f s = K .norm f s := rfl
theorem awp_ret : awp P .ret K f s = K .ret f s := rfl
theorem awp_exit {i : Nat} : awp P (.exit i) K f s = K (.exit i) f s := rfl
theorem awp_seq {a b : ACode} : awp P (.seq a b) K f s = awp P a (seqK (awp P b K) K) f s := rfl
theorem awp_block {i : Nat} {a : ACode} : awp P (.block i a) K f s = awp P a (blockK i K) f s := rfl
theorem awp_plain {ops : List AOper} : awp P (.plain ops) K f s = runL P ops (K .norm) f s := rfl
theorem awp_draw {ops : List AOper} {l : List CO} : awp P (.draw ops l) K f s = can P (nth ops) (K .norm) l f s := rfl
def condK (c : AV) (A B : Prop) : Prop :=
  match c with
  | .v (.bool t) => (t = true → A) ∧ (t = false → B)
  | _ => False
theorem awp_cond {c : Operand} {a b : ACode} : awp P (.cond c a b) K f s = condK (ev f c) (hidP (awp P a K f s) ()) (hidP (awp P b K f s) ()) := rfl
theorem condK_true {A B : Prop} {d : Dep A} : condK (.v (.bool true)) (hidP A d) B = A := by simp [condK, hidP]
theorem condK_false {A B : Prop} {d : Dep B} : condK (.v (.bool false)) A (hidP B d) = B := by simp [condK, hidP]
theorem condK_bool {t : Bool} {A B : Prop} : condK (.v (.bool t)) A B = ((t = true → A) ∧ (t = false → B)) := rfl
theorem awp_loopK {a : ACode} : awp P (.loop a) K f s = hidP (awp P (.loop a) K f s) () := rfl
theorem awp_loop {a : ACode} (I : Fr → Hp → Prop) (m : Fr → Hp → Nat) (h0 : I f s) (h : ∀ f s, I f s → awp P a (seqK (fun f' s' => I f' s' ∧ m f' s' < m f s) K) f s) : awp P (.loop a) K f s := ⟨I, m, h0, h⟩
theorem seqK_norm {n : Fr → Hp → Prop} : seqK n K .norm f s = n f s := rfl
theorem seqK_ret {n : Fr → Hp → Prop} : seqK n K .ret f s = K .ret f s := rfl
theorem seqK_exit {n : Fr → Hp → Prop} {i : Nat} : seqK n K (.exit i) f s = K (.exit i) f s := rfl
theorem blockK_norm {i : Nat} : blockK i K .norm f s = K .norm f s := rfl
theorem blockK_ret {i : Nat} : blockK i K .ret f s = K .ret f s := rfl
theorem blockK_exit {i j : Nat} : blockK i K (.exit j) f s = (if j = i then K .norm f s else K (.exit j) f s) := by
  simp only [blockK]; split <;> rfl
theorem blockK_same {i : Nat} : blockK i K (.exit i) f s = K .norm f s := by simp [blockK]
theorem runL_nil {Kf : Fr → Hp → Prop} : runL P [] Kf f s = Kf f s := rfl
theorem runL_cons {Kf : Fr → Hp → Prop} {d : Option Nat} {op : AOp} {r : List AOper} : runL P (⟨d, op, none⟩ :: r) Kf f s = G P op f s (fun x s' => runL P r Kf (putF f d x) s') := rfl
def guardK (c : AV) (want : Bool) (A B : Prop) : Prop :=
  match c with
  | .v (.bool b) => if b = want then A else B
  | .tup [] => B
  | _ => False
theorem runL_guard {Kf : Fr → Hp → Prop} {d : Option Nat} {op : AOp} {g : Nat} {want : Bool} {r : List AOper} :
    runL P (⟨d, op, some (g, want)⟩ :: r) Kf f s = guardK (f g) want (hidP (G P op f s (fun x s' => runL P r Kf (putF f d x) s')) ()) (hidP (runL P r Kf (putF f d (.tup [])) s) ()) := rfl
theorem guardK_tt {A B : Prop} {d : Dep A} : guardK (.v (.bool true)) true (hidP A d) B = A := by simp [guardK, hidP]
theorem guardK_ff {A B : Prop} {d : Dep A} : guardK (.v (.bool false)) false (hidP A d) B = A := by simp [guardK, hidP]
theorem guardK_tf {A B : Prop} {d : Dep B} : guardK (.v (.bool true)) false A (hidP B d) = B := by simp [guardK, hidP]
theorem guardK_ft {A B : Prop} {d : Dep B} : guardK (.v (.bool false)) true A (hidP B d) = B := by simp [guardK, hidP]
theorem guardK_no {w : Bool} {A B : Prop} {d : Dep B} : guardK (.tup []) w A (hidP B d) = B := rfl
theorem guardK_bool {b w : Bool} {A B : Prop} : guardK (.v (.bool b)) w A B = ((b = w → A) ∧ (b = (!w) → B)) := by
  cases b <;> cases w <;> simp [guardK]
theorem can_nil {xs : Nat → AOper} {Kf : Fr → Hp → Prop} : can P xs Kf [] f s = Kf f s := rfl
def tK (x : AOper) (C : AOper → Prop) : Prop := C x
theorem tK_eq {d : Option Nat} {op : AOp} {g : Option (Nat × Bool)} {C : AOper → Prop} : tK ⟨d, op, g⟩ C = C ⟨d, op, g⟩ := rfl
theorem can_cons {xs : Nat → AOper} {Kf : Fr → Hp → Prop} {i : Nat} {r : List CO} : can P xs Kf (⟨i, [], []⟩ :: r) f s = tK (xs i) (hid1 (fun x => T P x (fun f' s' => can P xs Kf r f' s') f s) ()) := by
  simp only [can, List.not_mem_nil, false_implies, implies_true, true_and, tK, hid1]
theorem can_pre {xs : Nat → AOper} {Kf : Fr → Hp → Prop} {i j : Nat} {pre chk : List Nat} {r : List CO} : can P xs Kf (⟨i, j :: pre, chk⟩ :: r) f s = andK (tK (xs j) (hid1 (fun x => Def P x f) ())) (hidP (can P xs Kf (⟨i, pre, chk⟩ :: r) f s) ()) := by
  simp only [can, List.mem_cons, forall_eq_or_imp, andK, tK, hid1, hidP]; exact propext and_assoc
def chkT (P : Ctx) (x : AOper) (f : Fr) (s : Hp) : Prop :=
  match x.dst with
  | some d => E P x f s fun r _ => r = f d
  | none => True
def chkL (P : Ctx) (xs : Nat → AOper) (f : Fr) (s : Hp) : List Nat → Prop → Prop
  | [], A => A
  | j :: r, A => andK (tK (xs j) (hid1 (fun x => chkT P x f s) ())) (hidP (chkL P xs f s r A) ())
theorem chkL_nil {xs : Nat → AOper} {A : Prop} : chkL P xs f s [] A = A := rfl
theorem chkL_cons {xs : Nat → AOper} {j : Nat} {r : List Nat} {A : Prop} : chkL P xs f s (j :: r) A = andK (tK (xs j) (hid1 (fun x => chkT P x f s) ())) (hidP (chkL P xs f s r A) ()) := rfl
theorem chkL_eq {xs : Nat → AOper} {A : Prop} : ∀ l, chkL P xs f s l A = ((∀ j ∈ l, Chk P xs j f s) ∧ A)
  | [] => by simp [chkL]
  | j :: r => by simp only [chkL, chkL_eq r, andK, tK, hid1, hidP, List.mem_cons, forall_eq_or_imp, Chk, chkT]; exact propext and_assoc.symm
theorem can_chk {xs : Nat → AOper} {Kf : Fr → Hp → Prop} {i j : Nat} {chk : List Nat} {r : List CO} : can P xs Kf (⟨i, [], j :: chk⟩ :: r) f s = tK (xs i) (hid1 (fun x => T P x (fun f' s' => chkL P xs f' s' (j :: chk) (can P xs Kf r f' s')) f s) ()) := by
  simp only [can, List.not_mem_nil, false_implies, implies_true, true_and, tK, hid1, chkL_eq]
theorem Def_none {d : Option Nat} {op : AOp} : Def P ⟨d, op, none⟩ f = G P op f Hp.emp (fun _ _ => True) := rfl
theorem chkT_none {d : Nat} {op : AOp} : chkT P ⟨some d, op, none⟩ f s = G P op f s (fun r _ => r = f d) := rfl
theorem newK_true {d : Dep (fun _ : Nat => True)} : newK s (hid1 (fun _ => True) d) = True := by simp [newK, hid1]
theorem can_cons' {xs : Nat → AOper} {Kf : Fr → Hp → Prop} {i : Nat} {pre chk : List Nat} {r : List CO} :
    can P xs Kf (⟨i, pre, chk⟩ :: r) f s = ((∀ j ∈ pre, Def P (xs j) f) ∧ T P (xs i) (fun f' s' => (∀ j ∈ chk, Chk P xs j f' s') ∧ can P xs Kf r f' s') f s) := rfl
theorem nth_zero {x : AOper} {r : List AOper} : nth (x :: r) 0 = x := rfl
theorem nth_succ {x : AOper} {r : List AOper} {i : Nat} : nth (x :: r) (i + 1) = nth r i := rfl
theorem T_none {Kf : Fr → Hp → Prop} {d : Option Nat} {op : AOp} : T P ⟨d, op, none⟩ Kf f s = G P op f s (fun x s' => Kf (putF f d x) s') := rfl
theorem T_guard {Kf : Fr → Hp → Prop} {d : Option Nat} {op : AOp} {g : Nat} {want : Bool} : T P ⟨d, op, some (g, want)⟩ Kf f s = guardK (f g) want (hidP (G P op f s (fun x s' => Kf (putF f d x) s')) ()) (hidP (Kf (putF f d (.tup [])) s) ()) := rfl
theorem putF_get {d t : Nat} {a : AV} : putF f (some d) a t = if t = d then a else f t := rfl
theorem putF_none {t : Nat} {a : AV} : putF f none a t = f t := rfl
theorem upd_get {d t : Nat} {a : AV} : upd f d a t = if t = d then a else f t := rfl
def valK (r : Option AV) (C : AV → Prop) : Prop :=
  match r with
  | some r => C r
  | none => False
theorem valK_ite {c : Prop} [Decidable c] {r : AV} {C : AV → Prop} : valK (if c then some r else none) C = (c ∧ C r) := by
  split <;> simp [valK, *]
theorem valK_some {r : AV} {C : AV → Prop} : valK (some r) C = C r := rfl
def letK (r : AV) (C : AV → Prop) : Prop := C r
theorem letK_eq {r : AV} {C : AV → Prop} : letK r C = C r := rfl
def cellK (r : Option (List AV)) (C : List AV → Prop) : Prop :=
  match r with
  | some r => C r
  | none => False
theorem cellK_some {r : List AV} {C : List AV → Prop} : cellK (some r) C = C r := rfl
section
variable {Kv : AV → Hp → Prop}
theorem G_mv {x : Operand} : G P (.mv x) f s Kv = letK (ev f x) (hid1 (fun r => Kv r s) ()) := rfl
def pickA (c a b : AV) : Option AV :=
  match c with
  | .v (.bool t) => some (if t then a else b)
  | _ => none
theorem pickA_true {a b : AV} : pickA (.v (.bool true)) a b = some a := rfl
theorem pickA_false {a b : AV} : pickA (.v (.bool false)) a b = some b := rfl
theorem G_pick {c a b : Operand} : G P (.pick c a b) f s Kv = valK (pickA (ev f c) (ev f a) (ev f b)) (hid1 (fun r => Kv r s) ()) := by
  simp only [G, pickA]; generalize ev f c = a
  cases a <;> first | rfl | (rename_i v; cases v <;> rfl)
theorem G_alloc {T : TypeId} {z : List AV} : G P (.alloc T z) f s Kv = newK s (hid1 (fun l => Kv (.ptr l 0) (s.set l (.cells z))) ()) := rfl
theorem G_box {T : TypeId} {x : Operand} : G P (.box T x) f s Kv = letK (ev f x) (hid1 (fun a => andK (0 < a.cells.length) (hidP (newK s (hid1 (fun l => Kv (.ptr l 0) (s.set l (.cells a.cells))) ())) ())) ()) := rfl
theorem G_boxR {T : TypeId} {x : Operand} : G P (.boxR T x) f s Kv = letK (ev f x) (hid1 (fun a => andK (0 < a.cells.length) (hidP (newK s (hid1 (fun l => Kv (.ptr l 0) (s.set l (.ro a.cells))) ())) ())) ()) := rfl
def loadA (agg : Bool) (n : Nat) (s : Hp) (a : AV) : Option AV :=
  match a with
  | .ptr l off => match s.read l with
    | some cs => if off + n ≤ cs.length then some (mkv agg n (cs.drop off)) else none
    | none => none
  | .rptr cs => if n ≤ cs.length then some (mkv agg n cs) else none
  | _ => none
def rdA (agg : Bool) (n off : Nat) (cs : Option (List AV)) : Option AV :=
  match cs with
  | some cs => if off + n ≤ cs.length then some (mkv agg n (cs.drop off)) else none
  | none => none
theorem loadA_ptr {agg : Bool} {n l off : Nat} : loadA agg n s (.ptr l off) = rdA agg n off (s.read l) := rfl
theorem rdA_some {agg : Bool} {n off : Nat} {cs : List AV} (h : off + n ≤ cs.length) : rdA agg n off (some cs) = some (mkv agg n (cs.drop off)) := by simp [rdA, h]
theorem loadA_rptr {agg : Bool} {n : Nat} {cs : List AV} (h : n ≤ cs.length) : loadA agg n s (.rptr cs) = some (mkv agg n cs) := by simp [loadA, h]
theorem G_load {agg : Bool} {n : Nat} {x : Operand} : G P (.load agg n x) f s Kv = valK (loadA agg n s (ev f x)) (hid1 (fun r => Kv r s) ()) := by
  simp only [G, loadA]; generalize ev f x = a
  cases a <;> first
    | rfl
    | (simp only [valK_ite, hid1_eq]; done)
    | (rename_i l off; simp only []; generalize s.read l = c; cases c <;> first | rfl | (simp only [valK_ite, hid1_eq]))
def stA (s : Hp) (l : Nat) : Option (List AV) :=
  match s l with
  | some (.cells cs) => some cs
  | _ => none
def storeK (s : Hp) (n : Nat) (p : AV) (ys : List AV) (C : Hp → Prop) : Prop :=
  match p with
  | .ptr l off => cellK (stA s l) fun cs => andK (ys.length = n ∧ off + n ≤ cs.length) (C (s.set l (.cells (putAt cs off ys))))
  | _ => False
theorem storeK_ptr {n l off : Nat} {ys : List AV} {C : Hp → Prop} : storeK s n (.ptr l off) ys C = cellK (stA s l) (hid1 (fun cs => andK (ys.length = n ∧ off + n ≤ cs.length) (hidP (cellK (some (putAt cs off ys)) (hid1 (fun zs => C (s.set l (.cells zs))) ())) ())) ()) := rfl
theorem G_store {n : Nat} {x y : Operand} : G P (.store n x y) f s Kv = storeK s n (ev f x) (ev f y).cells (hid1 (fun s' => Kv (.tup []) s') ()) := by
  simp only [G, storeK]; generalize ev f x = a
  cases a <;> first
    | rfl
    | (rename_i l off
       simp only [stA]
       cases s l with
       | none => rfl
       | some o => cases o with
         | cells cs => exact propext and_assoc.symm
         | _ => rfl)
def nilcA (a : AV) : Option AV :=
  match a with
  | .ptr l off => some (.ptr l off)
  | .rptr cs => some (.rptr cs)
  | .clo n ds cs => some (.clo n ds cs)
  | _ => none
theorem nilcA_ptr {l off : Nat} : nilcA (.ptr l off) = some (.ptr l off) := rfl
theorem nilcA_rptr {cs : List AV} : nilcA (.rptr cs) = some (.rptr cs) := rfl
theorem G_nilc {x : Operand} : G P (.nilc x) f s Kv = valK (nilcA (ev f x)) (hid1 (fun r => Kv r s) ()) := by
  simp only [G, nilcA]; generalize ev f x = a
  cases a <;> first | rfl | (rename_i v; cases v <;> rfl)
def faA (off : Nat) (a : AV) : Option AV :=
  match a with
  | .ptr l o => some (.ptr l (o + off))
  | .rptr cs => some (.rptr (cs.drop off))
  | _ => none
theorem faA_ptr {off l o : Nat} : faA off (.ptr l o) = some (.ptr l (o + off)) := rfl
theorem faA_rptr {off : Nat} {cs : List AV} : faA off (.rptr cs) = some (.rptr (cs.drop off)) := rfl
theorem G_fa {off : Nat} {x : Operand} : G P (.fa off x) f s Kv = valK (faA off (ev f x)) (hid1 (fun r => Kv r s) ()) := by
  simp only [G, faA]; generalize ev f x = a
  cases a <;> first | rfl | (rename_i v; cases v <;> rfl)
def iaAA (k len : Nat) (a i : AV) : Option AV :=
  match a, i with
  | .ptr l o, .v (.int _ n) => if 0 ≤ n ∧ n < len then some (.ptr l (o + n.toNat * k)) else none
  | .rptr cs, .v (.int _ n) => if 0 ≤ n ∧ n < len then some (.rptr (cs.drop (n.toNat * k))) else none
  | _, _ => none
theorem iaAA_ptr {k len l o : Nat} {kd : IntKind} {n : Int} (h : 0 ≤ n) (h2 : n < len) : iaAA k len (.ptr l o) (.v (.int kd n)) = some (.ptr l (o + n.toNat * k)) := by simp [iaAA, h, h2]
theorem iaAA_rptr {k len : Nat} {cs : List AV} {kd : IntKind} {n : Int} (h : 0 ≤ n) (h2 : n < len) : iaAA k len (.rptr cs) (.v (.int kd n)) = some (.rptr (cs.drop (n.toNat * k))) := by simp [iaAA, h, h2]
theorem G_iaA {k len : Nat} {x i : Operand} : G P (.iaA k len x i) f s Kv = valK (iaAA k len (ev f x) (ev f i)) (hid1 (fun r => Kv r s) ()) := by
  simp only [G, iaAA]; generalize ev f x = a; generalize ev f i = b
  cases a <;> first
    | rfl
    | (cases b <;> first
        | rfl
        | (rename_i w; cases w <;> first
            | rfl
            | (simp only [valK_ite, hid1_eq]; exact propext and_assoc.symm)))
def elA (k : Nat) (e : Option AV) : Option AV :=
  match e with
  | some e => if e.cells.length = k then some (.rptr e.cells) else none
  | none => none
theorem elA_some {k : Nat} {e : AV} (h : e.cells.length = k) : elA k (some e) = some (.rptr e.cells) := by simp [elA, h]
def iaSA (k : Nat) (a i : AV) : Option AV :=
  match a, i with
  | .sl xs _, .v (.int _ n) => if 0 ≤ n then elA k xs[n.toNat]? else none
  | .msl l off len k', .v (.int _ n) => if k' = k ∧ 0 ≤ n ∧ n < len then some (.ptr l (off + n.toNat * k)) else none
  | .mb l len _ k', .v (.int _ n) => if k' = k ∧ 0 ≤ n ∧ n < len then some (.ptr l (n.toNat * k)) else none
  | _, _ => none
theorem iaSA_sl {k : Nat} {xs : List AV} {o : Own} {kd : IntKind} {n : Int} (h : 0 ≤ n) : iaSA k (.sl xs o) (.v (.int kd n)) = elA k xs[n.toNat]? := by simp [iaSA, h]
theorem iaSA_mb {k l len cap : Nat} {kd : IntKind} {n : Int} (h : 0 ≤ n) (h2 : n < len) : iaSA k (.mb l len cap k) (.v (.int kd n)) = some (.ptr l (n.toNat * k)) := by simp [iaSA, h, h2]
theorem iaSA_msl {k l off len : Nat} {kd : IntKind} {n : Int} (h : 0 ≤ n) (h2 : n < len) : iaSA k (.msl l off len k) (.v (.int kd n)) = some (.ptr l (off + n.toNat * k)) := by simp [iaSA, h, h2]
theorem G_iaS {k : Nat} {x i : Operand} : G P (.iaS k x i) f s Kv = valK (iaSA k (ev f x) (ev f i)) (hid1 (fun r => Kv r s) ()) := by
  simp only [G, iaSA]; generalize ev f x = a; generalize ev f i = b
  cases a <;> first
    | rfl
    | (cases b <;> first
        | rfl
        | (rename_i w; cases w <;> first
            | rfl
            | (simp only [valK_ite, hid1_eq]; apply propext; constructor
               · rintro ⟨h1, h2, h3, h4⟩; exact ⟨⟨h1, h2, h3⟩, h4⟩
               · rintro ⟨⟨h1, h2, h3⟩, h4⟩; exact ⟨h1, h2, h3, h4⟩)
            | (rename_i xs o kd n
               by_cases h : 0 ≤ n
               · simp only [h, true_and, if_true, elA]
                 generalize xs[n.toNat]? = c
                 cases c <;> first | rfl | (simp only [valK_ite, hid1_eq])
               · simp [h, valK])))
def fldA (agg : Bool) (off n : Nat) (a : AV) : Option AV :=
  match a with
  | .agg cs => if off + n ≤ cs.length then some (mkv agg n (cs.drop off)) else none
  | _ => none
theorem fldA_agg {agg : Bool} {off n : Nat} {cs : List AV} (h : off + n ≤ cs.length) : fldA agg off n (.agg cs) = some (mkv agg n (cs.drop off)) := by simp [fldA, h]
theorem G_fld {agg : Bool} {off n : Nat} {x : Operand} : G P (.fld agg off n x) f s Kv = valK (fldA agg off n (ev f x)) (hid1 (fun r => Kv r s) ()) := by
  simp only [G, fldA]; generalize ev f x = a
  cases a <;> first | rfl | (simp only [valK_ite, hid1_eq])
def idxAA (agg : Bool) (k len : Nat) (a i : AV) : Option AV :=
  match a, i with
  | .agg cs, .v (.int _ n) => if 0 ≤ n ∧ n < len ∧ n.toNat * k + k ≤ cs.length then some (mkv agg k (cs.drop (n.toNat * k))) else none
  | _, _ => none
theorem idxAA_agg {agg : Bool} {k len : Nat} {cs : List AV} {kd : IntKind} {n : Int} (h : 0 ≤ n) (h2 : n < len) (h3 : n.toNat * k + k ≤ cs.length) : idxAA agg k len (.agg cs) (.v (.int kd n)) = some (mkv agg k (cs.drop (n.toNat * k))) := by simp [idxAA, h, h2, h3]
theorem G_idxA {agg : Bool} {k len : Nat} {x i : Operand} : G P (.idxA agg k len x i) f s Kv = valK (idxAA agg k len (ev f x) (ev f i)) (hid1 (fun r => Kv r s) ()) := by
  simp only [G, idxAA]; generalize ev f x = a; generalize ev f i = b
  cases a <;> first
    | rfl
    | (cases b <;> first
        | rfl
        | (rename_i w; cases w <;> first
            | rfl
            | (simp only [valK_ite, hid1_eq]; apply propext; constructor
               · rintro ⟨h1, h2, h3, h4⟩; exact ⟨⟨h1, h2, h3⟩, h4⟩
               · rintro ⟨⟨h1, h2, h3⟩, h4⟩; exact ⟨h1, h2, h3, h4⟩)))
def bldK (f : Fr) (cells : List AV) : List (Nat × Nat × Operand) → (List AV → Prop) → Prop
  | [], C => C cells
  | (off, sz, x) :: r, C => letK (ev f x) fun a => andK (a.cells.length = sz ∧ off + sz ≤ cells.length) (cellK (some (putAt cells off a.cells)) fun zs => bldK f zs r C)
theorem bldK_nil {cells : List AV} {C : List AV → Prop} : bldK f cells [] C = C cells := rfl
theorem bldK_cons {cells : List AV} {off sz : Nat} {x : Operand} {r : List (Nat × Nat × Operand)} {C : List AV → Prop} : bldK f cells ((off, sz, x) :: r) C = letK (ev f x) (hid1 (fun a => andK (a.cells.length = sz ∧ off + sz ≤ cells.length) (hidP (cellK (some (putAt cells off a.cells)) (hid1 (fun zs => bldK f zs r C) ())) ())) ()) := rfl
theorem bldK_eq {C : List AV → Prop} : ∀ (parts : List (Nat × Nat × Operand)) (cells : List AV), fillG f cells parts C = bldK f cells parts C
  | [], _ => rfl
  | (off, sz, x) :: r, cells => by
    simp only [fillG, bldK, letK, andK, cellK, bldK_eq r]
    exact propext and_assoc.symm
theorem G_bld {z : List AV} {parts : List (Nat × Nat × Operand)} : G P (.bld z parts) f s Kv = bldK f z parts fun cs => Kv (.agg cs) s := bldK_eq parts z
def lenAA (a : AV) : Option AV :=
  match a with
  | .sl xs _ => some (.v (.int .i64 xs.length))
  | .msl _ _ n _ => some (.v (.int .i64 n))
  | .mb _ n _ _ => some (.v (.int .i64 n))
  | _ => none
theorem lenAA_mb {l n cap k : Nat} : lenAA (.mb l n cap k) = some (.v (.int .i64 n)) := rfl
theorem lenAA_sl {xs : List AV} {o : Own} : lenAA (.sl xs o) = some (.v (.int .i64 xs.length)) := rfl
theorem lenAA_msl {l off n k : Nat} : lenAA (.msl l off n k) = some (.v (.int .i64 n)) := rfl
theorem G_len {x : Operand} : G P (.len x) f s Kv = valK (lenAA (ev f x)) (hid1 (fun r => Kv r s) ()) := by
  simp only [G, lenAA]; generalize ev f x = a
  cases a <;> rfl
theorem G_lenA {n : Nat} : G P (.lenA n) f s Kv = Kv (.v (.int .i64 n)) s := rfl
def binA (op : BinOp) (a b : AV) : Option AV :=
  match a, b with
  | .v a, .v b => (binV op a b).map .v
  | _, _ => none
theorem binA_v {op : BinOp} {a b : Value} : binA op (.v a) (.v b) = (binV op a b).map .v := rfl
theorem G_bin {op : BinOp} {x y : Operand} : G P (.bin op x y) f s Kv = valK (binA op (ev f x) (ev f y)) (hid1 (fun r => Kv r s) ()) := by
  simp only [G, binA]; generalize ev f x = a; generalize ev f y = b
  cases a <;> first
    | rfl
    | (cases b <;> first
        | rfl
        | (rename_i v w; simp only []; generalize binV op v w = c; cases c <;> rfl))
def unA (op : UnOp) (a : AV) : Option AV :=
  match a with
  | .v a => (unV op a).map .v
  | _ => none
theorem unA_v {op : UnOp} {a : Value} : unA op (.v a) = (unV op a).map .v := rfl
theorem G_un {op : UnOp} {x : Operand} : G P (.un op x) f s Kv = valK (unA op (ev f x)) (hid1 (fun r => Kv r s) ()) := by
  simp only [G, unA]; generalize ev f x = a
  cases a <;> first | rfl | (rename_i v; simp only []; generalize unV op v = c; cases c <;> rfl)
def cvtA (k : IntKind) (a : AV) : Option AV :=
  match a with
  | .v (.int _ n) => some (.v (.int k (k.wrap n)))
  | _ => none
theorem cvtA_int {k k' : IntKind} {n : Int} : cvtA k (.v (.int k' n)) = some (.v (.int k (k.wrap n))) := rfl
theorem G_cvt {k : IntKind} {x : Operand} : G P (.cvt k x) f s Kv = valK (cvtA k (ev f x)) (hid1 (fun r => Kv r s) ()) := by
  simp only [G, cvtA]; generalize ev f x = a
  cases a <;> first | rfl | (rename_i v; cases v <;> rfl)
def callK (P : Ctx) (g : FuncId) (args : List AV) (s : Hp) (C : AV → Hp → Prop) : Prop := ACp P.p g args s C (up P.k)
theorem G_callF {g : FuncId} {args : List Operand} : G P (.callF g args) f s Kv = callK P g (args.map (ev f)) s (hid2 Kv ()) := rfl
def extA (i : Nat) (a : AV) : Option AV :=
  match a with
  | .tup vs => vs[i]?
  | _ => none
theorem extA_tup {i : Nat} {vs : List AV} : extA i (.tup vs) = vs[i]? := rfl
theorem G_ext {x : Operand} {i : Nat} : G P (.ext x i) f s Kv = valK (extA i (ev f x)) (hid1 (fun r => Kv r s) ()) := by
  simp only [G, extA]; generalize ev f x = a
  cases a <;> first | rfl | (rename_i vs; cases vs[i]? <;> rfl)
theorem G_eqv {neg : Bool} {ks : List (Nat × CK)} {x y : Operand} {cs ds : List AV} (hx : ev f x = .agg cs) (hy : ev f y = .agg ds) :
    G P (.eqv neg ks x y) f s Kv = andK (fitR ks cs ∧ fitR ks ds) (hidP (Kv (.v (.bool (xor neg (peq (.agg cs) (.agg ds))))) s) ()) := by
  simp only [G, hx, hy, andK]; exact propext and_assoc.symm
def eqbA (neg : Bool) (a b : AV) : Option AV :=
  match a, b with
  | .v (.bool a), .v (.bool b) => some (.v (.bool (xor neg (a == b))))
  | _, _ => none
theorem eqbA_b {neg a b : Bool} : eqbA neg (.v (.bool a)) (.v (.bool b)) = some (.v (.bool (xor neg (a == b)))) := rfl
theorem G_eqb {neg : Bool} {x y : Operand} : G P (.eqb neg x y) f s Kv = valK (eqbA neg (ev f x) (ev f y)) (hid1 (fun r => Kv r s) ()) := by
  simp only [G, eqbA]; generalize ev f x = a; generalize ev f y = b
  cases a <;> first
    | rfl
    | (rename_i v; cases v <;> first
        | rfl
        | (cases b <;> first | rfl | (rename_i w; cases w <;> first | rfl | (rename_i q; cases q <;> rfl)))
        | (rename_i q; cases q <;> first | rfl | (cases b <;> first | rfl | (rename_i w; cases w <;> first | rfl | (rename_i q; cases q <;> rfl)))))
    | (cases b <;> first | rfl | (rename_i w; cases w <;> first | rfl | (rename_i q; cases q <;> rfl)))
def eqpA (neg : Bool) (a b : AV) : Option AV :=
  match a, b with
  | .ptr _ _, .v (.pointer none) => some (.v (.bool neg))
  | .rptr _, .v (.pointer none) => some (.v (.bool neg))
  | .v (.pointer none), .v (.pointer none) => some (.v (.bool (!neg)))
  | _, _ => none
theorem eqpA_ptr {neg : Bool} {l o : Nat} : eqpA neg (.ptr l o) (.v (.pointer none)) = some (.v (.bool neg)) := rfl
theorem eqpA_rptr {neg : Bool} {cs : List AV} : eqpA neg (.rptr cs) (.v (.pointer none)) = some (.v (.bool neg)) := rfl
theorem eqpA_nil {neg : Bool} : eqpA neg (.v (.pointer none)) (.v (.pointer none)) = some (.v (.bool (!neg))) := rfl
theorem G_eqp {neg : Bool} {x y : Operand} : G P (.eqp neg x y) f s Kv = valK (eqpA neg (ev f x) (ev f y)) (hid1 (fun r => Kv r s) ()) := by
  simp only [G, eqpA]; generalize ev f x = a; generalize ev f y = b
  cases a <;> first
    | rfl
    | (rename_i v; cases v <;> first
        | rfl
        | (cases b <;> first | rfl | (rename_i w; cases w <;> first | rfl | (rename_i q; cases q <;> rfl)))
        | (rename_i q; cases q <;> first | rfl | (cases b <;> first | rfl | (rename_i w; cases w <;> first | rfl | (rename_i q; cases q <;> rfl)))))
    | (cases b <;> first | rfl | (rename_i w; cases w <;> first | rfl | (rename_i q; cases q <;> rfl)))
def slcSl (k : Nat) (lo hi : Option Operand) (xs : List AV) (o : Own) (a b : Option Int) : Option AV :=
  match a, b with
  | some a, some b => if 0 ≤ a ∧ a ≤ b ∧ b ≤ xs.length ∧ xs.all (fun e => decide (e.cells.length = k)) then some (.sl ((xs.take b.toNat).drop a.toNat) (SlKeep o lo hi)) else none
  | _, _ => none
theorem slcSl_some {k : Nat} {lo hi : Option Operand} {xs : List AV} {o : Own} {a b : Int} (h1 : 0 ≤ a) (h2 : a ≤ b) (h3 : b ≤ xs.length) (h4 : ∀ e ∈ xs, e.cells.length = k) :
    slcSl k lo hi xs o (some a) (some b) = some (.sl ((xs.take b.toNat).drop a.toNat) (SlKeep o lo hi)) := by
  simp [slcSl, h1, h2, h3]; exact h4
theorem G_slc {k : Nat} {x : Operand} {lo hi : Option Operand} {xs : List AV} {o : Own} (hx : ev f x = .sl xs o) : G P (.slc k x lo hi) f s Kv = valK (slcSl k lo hi xs o (bnd f lo 0) (bnd f hi xs.length)) (hid1 (fun r => Kv r s) ()) := by
  simp only [G, hx, slcSl]
  generalize bnd f lo 0 = a; generalize bnd f hi xs.length = b
  cases a <;> cases b <;> first
    | rfl
    | (simp only [valK_ite, hid1_eq]; apply propext; simp only [List.all_eq_true, decide_eq_true_eq]; constructor
       · rintro ⟨h1, h2, h3, h4, h5⟩; exact ⟨⟨h1, h2, h3, h4⟩, h5⟩
       · rintro ⟨⟨h1, h2, h3, h4⟩, h5⟩; exact ⟨h1, h2, h3, h4, h5⟩)
theorem bnd_none {d : Nat} : bnd f none d = some (d : Int) := rfl
def intOf (a : AV) : Option Int :=
  match a with
  | .v (.int _ n) => some n
  | _ => none
theorem intOf_int {k : IntKind} {n : Int} : intOf (.v (.int k n)) = some n := rfl
theorem bnd_some {x : Operand} {d : Nat} : bnd f (some x) d = intOf (ev f x) := by
  simp only [bnd, intOf]; generalize ev f x = a
  cases a <;> first | rfl | (rename_i v; cases v <;> rfl)
end
def postR (rs : List (Nat × Option (Bool × Nat))) (R : AV → Hp → Prop) : Ex → Fr → Hp → Prop := postF ⟨0, 0, .skip, rs⟩ R
theorem AC_run {P : Program} (hm : P.follows .mixedOrders = true) {m : Nat} {g n np : Nat} {c : ACode} {rs : List (Nat × Option (Bool × Nat))} (hF : prepFunc P m g = some ⟨n, np, c, rs⟩) {args : List AV} {R : AV → Hp → Prop} (hlen : args.length ≤ n)
    (h : awp (Ctx.of P) c (postR rs R) (initF args) s) : AC P g args s R := by
  refine AC_of hm hF hlen ?_
  have e : postF ⟨n, np, c, rs⟩ R = postR rs R := by
    funext e f s; cases e <;> rfl
  rw [e]; exact h
theorem ACp_run {P : Program} (hm : P.follows .mixedOrders = true) {m : Nat} {g n np : Nat} {c : ACode} {rs : List (Nat × Option (Bool × Nat))} (hF : prepFunc P m g = some ⟨n, np, c, rs⟩) {args : List AV} {R Rp : AV → Hp → Prop} (hlen : args.length ≤ n)
    (h : awp ⟨P, Rp⟩ c (postR rs R) (initF args) s) : ACp P g args s R (up Rp) := by
  refine ACp_of hm hF hlen ?_
  have e : postF ⟨n, np, c, rs⟩ R = postR rs R := by
    funext e f s; cases e <;> rfl
  rw [e]; exact h
theorem initF_get {args : List AV} {t : Nat} : initF args t = args.getD t (.tup []) := rfl
theorem postF_ret {F : AFunc} {R : AV → Hp → Prop} : postF F R .ret f s = valK (resAll f s F.results) fun r => ∃ s', s'.sub s ∧ R r s' := by
  apply propext
  simp only [postF]
  constructor
  · rintro ⟨r, s', h, h2, h3⟩; rw [h]; exact ⟨s', h2, h3⟩
  · intro h
    cases hr : resAll f s F.results with
    | none => rw [hr] at h; exact h.elim
    | some r => rw [hr] at h; obtain ⟨s', h2, h3⟩ := h; exact ⟨r, s', rfl, h2, h3⟩
theorem postF_norm {F : AFunc} {R : AV → Hp → Prop} : postF F R .norm f s = postF F R .ret f s := rfl
theorem postR_ret {rs : List (Nat × Option (Bool × Nat))} {R : AV → Hp → Prop} : postR rs R .ret f s = valK (resAll f s rs) (hid1 (fun r => ∃ s', s'.sub s ∧ R r s') ()) := postF_ret
theorem postR_norm {rs : List (Nat × Option (Bool × Nat))} {R : AV → Hp → Prop} : postR rs R .norm f s = postR rs R .ret f s := rfl
theorem resAll_two {p q : Nat × Option (Bool × Nat)} {r u : AV} (h : resG f s p = some r) (h2 : resG f s q = some u) : resAll f s [p, q] = some (.tup [r, u]) := by
  simp only [resAll, mapAll, h, h2]
theorem resAll_three {p q p3 : Nat × Option (Bool × Nat)} {r u v : AV} (h : resG f s p = some r) (h2 : resG f s q = some u) (h3 : resG f s p3 = some v) : resAll f s [p, q, p3] = some (.tup [r, u, v]) := by
  simp only [resAll, mapAll, h, h2, h3]
theorem resAll_none : resAll f s [] = some (.tup []) := rfl
theorem resAll_one {p : Nat × Option (Bool × Nat)} : resAll f s [p] = resG f s p := by
  simp only [resAll, mapAll]; cases resG f s p <;> rfl
theorem resG_tmp {t : Nat} : resG f s (t, none) = some (f t) := rfl
theorem resG_cell {t n : Nat} {agg : Bool} {l off : Nat} (h : f t = .ptr l off) : resG f s (t, some (agg, n)) = rdA agg n off (s.read l) := by
  simp only [resG, h, rdA]; rfl
def resP (agg : Bool) (n : Nat) (s : Hp) (a : AV) : Option AV :=
  match a with
  | .ptr l off => rdA agg n off (s.read l)
  | _ => none
theorem resP_ptr {agg : Bool} {n l off : Nat} : resP agg n s (.ptr l off) = rdA agg n off (s.read l) := rfl
theorem resG_ptr {t n : Nat} {agg : Bool} : resG f s (t, some (agg, n)) = resP agg n s (f t) := by
  simp only [resG, resP]; generalize f t = a
  cases a <;> first | rfl | (simp only [rdA])
theorem Hp.read_eq {l : Nat} : s.read l = match s l with | some (.cells cs) => some cs | some (.ro cs) => some cs | some (.tc _ cs) => some cs | some (.sc cs) => some cs | _ => none := rfl
theorem Hp.set_get {l l' : Nat} {o : Ob} : (s.set l o) l' = if l' = l then some o else s l' := rfl
theorem Hp.read_set_same {l : Nat} {cs : List AV} : (s.set l (.cells cs)).read l = some cs := by simp [Hp.read, Hp.set]
theorem Hp.read_set_ro {l : Nat} {cs : List AV} : (s.set l (.ro cs)).read l = some cs := by simp [Hp.read, Hp.set]
theorem Hp.read_set_ne {l l' : Nat} {o : Ob} (h : l' ≠ l) : (s.set l o).read l' = s.read l' := by simp [Hp.read, Hp.set, h]
theorem Hp.stA_set_same {l : Nat} {cs : List AV} : stA (s.set l (.cells cs)) l = some cs := by simp [stA, Hp.set]
theorem Hp.stA_set_ne {l l' : Nat} {o : Ob} (h : l' ≠ l) : stA (s.set l o) l' = stA s l' := by simp [stA, Hp.set, h]
theorem Hp.read_of {l : Nat} {cs : List AV} (h : s l = some (.cells cs)) : s.read l = some cs := by simp [Hp.read, h]
theorem Hp.read_ofR {l : Nat} {cs : List AV} (h : s l = some (.ro cs)) : s.read l = some cs := by simp [Hp.read, h]
theorem Hp.stA_of {l : Nat} {cs : List AV} (h : s l = some (.cells cs)) : stA s l = some cs := by simp [stA, h]
theorem Hp.set_none {l l' : Nat} {o : Ob} (h : (s.set l o) l' = none) : l' ≠ l ∧ s l' = none := by
  simp only [Hp.set] at h; split at h <;> simp_all
theorem Hp.set_in1 {a b0 : Nat} {oa oc o0 : Ob} (h0 : b0 ≠ a) : ((s.set a oa).set b0 o0).set a oc = ((s.set a oc).set b0 o0) := by rw [Hp.set_set_comm _ h0, Hp.set_set]
theorem Hp.set_in2 {a b0 b1 : Nat} {oa oc o0 o1 : Ob} (h0 : b0 ≠ a) (h1 : b1 ≠ a) : (((s.set a oa).set b0 o0).set b1 o1).set a oc = (((s.set a oc).set b0 o0).set b1 o1) := by rw [Hp.set_set_comm _ h1, set_in1 h0]
theorem Hp.set_in3 {a b0 b1 b2 : Nat} {oa oc o0 o1 o2 : Ob} (h0 : b0 ≠ a) (h1 : b1 ≠ a) (h2 : b2 ≠ a) : ((((s.set a oa).set b0 o0).set b1 o1).set b2 o2).set a oc = ((((s.set a oc).set b0 o0).set b1 o1).set b2 o2) := by rw [Hp.set_set_comm _ h2, set_in2 h0 h1]
theorem Hp.set_in4 {a b0 b1 b2 b3 : Nat} {oa oc o0 o1 o2 o3 : Ob} (h0 : b0 ≠ a) (h1 : b1 ≠ a) (h2 : b2 ≠ a) (h3 : b3 ≠ a) : (((((s.set a oa).set b0 o0).set b1 o1).set b2 o2).set b3 o3).set a oc = (((((s.set a oc).set b0 o0).set b1 o1).set b2 o2).set b3 o3) := by rw [Hp.set_set_comm _ h3, set_in3 h0 h1 h2]
theorem Hp.set_in5 {a b0 b1 b2 b3 b4 : Nat} {oa oc o0 o1 o2 o3 o4 : Ob} (h0 : b0 ≠ a) (h1 : b1 ≠ a) (h2 : b2 ≠ a) (h3 : b3 ≠ a) (h4 : b4 ≠ a) : ((((((s.set a oa).set b0 o0).set b1 o1).set b2 o2).set b3 o3).set b4 o4).set a oc = ((((((s.set a oc).set b0 o0).set b1 o1).set b2 o2).set b3 o3).set b4 o4) := by rw [Hp.set_set_comm _ h4, set_in4 h0 h1 h2 h3]
theorem Hp.set_in6 {a b0 b1 b2 b3 b4 b5 : Nat} {oa oc o0 o1 o2 o3 o4 o5 : Ob} (h0 : b0 ≠ a) (h1 : b1 ≠ a) (h2 : b2 ≠ a) (h3 : b3 ≠ a) (h4 : b4 ≠ a) (h5 : b5 ≠ a) : (((((((s.set a oa).set b0 o0).set b1 o1).set b2 o2).set b3 o3).set b4 o4).set b5 o5).set a oc = (((((((s.set a oc).set b0 o0).set b1 o1).set b2 o2).set b3 o3).set b4 o4).set b5 o5) := by rw [Hp.set_set_comm _ h5, set_in5 h0 h1 h2 h3 h4]
theorem Hp.set_in7 {a b0 b1 b2 b3 b4 b5 b6 : Nat} {oa oc o0 o1 o2 o3 o4 o5 o6 : Ob} (h0 : b0 ≠ a) (h1 : b1 ≠ a) (h2 : b2 ≠ a) (h3 : b3 ≠ a) (h4 : b4 ≠ a) (h5 : b5 ≠ a) (h6 : b6 ≠ a) : ((((((((s.set a oa).set b0 o0).set b1 o1).set b2 o2).set b3 o3).set b4 o4).set b5 o5).set b6 o6).set a oc = ((((((((s.set a oc).set b0 o0).set b1 o1).set b2 o2).set b3 o3).set b4 o4).set b5 o5).set b6 o6) := by rw [Hp.set_set_comm _ h6, set_in6 h0 h1 h2 h3 h4 h5]
theorem Hp.set_in8 {a b0 b1 b2 b3 b4 b5 b6 b7 : Nat} {oa oc o0 o1 o2 o3 o4 o5 o6 o7 : Ob} (h0 : b0 ≠ a) (h1 : b1 ≠ a) (h2 : b2 ≠ a) (h3 : b3 ≠ a) (h4 : b4 ≠ a) (h5 : b5 ≠ a) (h6 : b6 ≠ a) (h7 : b7 ≠ a) : (((((((((s.set a oa).set b0 o0).set b1 o1).set b2 o2).set b3 o3).set b4 o4).set b5 o5).set b6 o6).set b7 o7).set a oc = (((((((((s.set a oc).set b0 o0).set b1 o1).set b2 o2).set b3 o3).set b4 o4).set b5 o5).set b6 o6).set b7 o7) := by rw [Hp.set_set_comm _ h7, set_in7 h0 h1 h2 h3 h4 h5 h6]
theorem newK_intro {C : Nat → Prop} {d : Dep C} (h : ∀ l, s l = none → C l) : newK s (hid1 C d) := h
theorem hidP_intro {p : Prop} {d : Dep p} (h : p) : hidP p d := h
theorem loop_intro {P : Ctx} {K : Ex → Fr → Hp → Prop} {a : ACode} {d : Dep (awp P (.loop a) K f s)} (I : Fr → Hp → Prop) (m : Fr → Hp → Nat) (h0 : I f s) (h : ∀ f s, I f s → awp P a (seqK (fun f' s' => I f' s' ∧ m f' s' < m f s) K) f s) :
    hidP (awp P (.loop a) K f s) d := ⟨I, m, h0, h⟩
theorem call_intro {P : Ctx} {g : FuncId} {args : List AV} {C R : AV → Hp → Prop} {d : Dep C} (h : AC P.p g args s R) (hr : ∀ r s', R r s' → C r s') : callK P g args s (hid2 C d) := (h.mono hr).p
theorem up_up {k : AV → Hp → Prop} {v : AV} {s : Hp} (h : up (up k) v s) : up k v s := by
  obtain ⟨s2, h1, s3, h2, h3⟩ := h
  exact ⟨s3, fun l o ho => h1 l o (h2 l o ho), h3⟩
theorem callp_intro {P : Ctx} {g : FuncId} {args : List AV} {C R Rp : AV → Hp → Prop} {d : Dep C} (h : ACp P.p g args s R (up Rp)) (hr : ∀ r s', R r s' → C r s') (hp : ∀ r s', Rp r s' → P.k r s') : callK P g args s (hid2 C d) := h.mono hr (fun _ _ => up_mono hp)
theorem Hp.sub_refl : s.sub s := fun _ _ h => h
theorem Hp.sub_new {t : Hp} {l : Nat} {o : Ob} (h : t.sub s) (hl : t l = none) : t.sub (s.set l o) := fun l' o' ho => by
  rw [Hp.set_get]; split
  · rename_i e; subst e; rw [hl] at ho; cases ho
  · exact h _ _ ho
theorem Hp.sub_set_new {t : Hp} {l : Nat} {o : Ob} (h : t.sub s) (hl : t l = none) : t.sub (s.set l o) := Hp.sub_new h hl
theorem Hp.sub_set {t : Hp} {l : Nat} {o : Ob} (h : t.sub s) : (t.set l o).sub (s.set l o) := fun l' o' ho => by
  rw [Hp.set_get] at ho ⊢; split
  · rename_i e; rw [if_pos e] at ho; exact ho
  · rename_i e; rw [if_neg e] at ho; exact h _ _ ho
end
/-! ### words -/
theorem wrap_i64 {n : Int} (h : -9223372036854775808 ≤ n) (h2 : n < 9223372036854775808) : IntKind.i64.wrap n = n := by
  have e1 : ((2 : Int) ^ IntKind.i64.bits) = 18446744073709551616 := rfl
  have e2 : ((2 : Int) ^ (IntKind.i64.bits - 1)) = 9223372036854775808 := rfl
  simp only [IntKind.wrap, e1, e2, IntKind.signed, Bool.true_and, decide_eq_true_eq]
  split <;> omega
theorem wrap_u64_mod {n : Int} : IntKind.u64.wrap n = n % 18446744073709551616 := by
  have e1 : ((2 : Int) ^ IntKind.u64.bits) = 18446744073709551616 := rfl
  simp [IntKind.wrap, e1, IntKind.signed]
theorem wrap_u32_mod {n : Int} : IntKind.u32.wrap n = n % 4294967296 := by
  have e1 : ((2 : Int) ^ IntKind.u32.bits) = 4294967296 := rfl
  simp [IntKind.wrap, e1, IntKind.signed]
theorem wrap_u8_mod {n : Int} : IntKind.u8.wrap n = n % 256 := by
  have e1 : ((2 : Int) ^ IntKind.u8.bits) = 256 := rfl
  simp [IntKind.wrap, e1, IntKind.signed]
theorem wrap_u64 {n : Int} (h : 0 ≤ n) (h2 : n < 18446744073709551616) : IntKind.u64.wrap n = n := by rw [wrap_u64_mod]; omega
theorem wrap_u32 {n : Int} (h : 0 ≤ n) (h2 : n < 4294967296) : IntKind.u32.wrap n = n := by rw [wrap_u32_mod]; omega
theorem wrap_u8 {n : Int} (h : 0 ≤ n) (h2 : n < 256) : IntKind.u8.wrap n = n := by rw [wrap_u8_mod]; omega
theorem wrap_u32_8 (b : UInt8) : IntKind.u32.wrap (b.toNat : Int) = (b.toUInt32.toNat : Int) := by
  have := b.toNat_lt
  rw [wrap_u32 (by omega) (by omega)]; simp
theorem wrap_u64_8 (b : UInt8) : IntKind.u64.wrap (b.toNat : Int) = (b.toUInt64.toNat : Int) := by
  have := b.toNat_lt
  rw [wrap_u64 (by omega) (by omega)]; simp
theorem wrap_u8_32 (x : UInt32) : IntKind.u8.wrap (x.toNat : Int) = (x.toUInt8.toNat : Int) := by
  rw [wrap_u8_mod]; simp
theorem wrap_u8_64 (x : UInt64) : IntKind.u8.wrap (x.toNat : Int) = (x.toUInt8.toNat : Int) := by
  rw [wrap_u8_mod]; simp
section
variable (a b : Int)
theorem add_i64 : binV .add (.int .i64 a) (.int .i64 b) = some (.int .i64 (IntKind.i64.wrap (a + b))) := rfl
theorem sub_i64 : binV .sub (.int .i64 a) (.int .i64 b) = some (.int .i64 (IntKind.i64.wrap (a - b))) := rfl
theorem mul_i64 : binV .mul (.int .i64 a) (.int .i64 b) = some (.int .i64 (IntKind.i64.wrap (a * b))) := rfl
theorem quo_i64 (h : b ≠ 0) : binV .quo (.int .i64 a) (.int .i64 b) = some (.int .i64 (IntKind.i64.wrap (a.tdiv b))) := by simp [binV, isShift, binInt, h]
theorem rem_i64 (h : b ≠ 0) : binV .rem (.int .i64 a) (.int .i64 b) = some (.int .i64 (a.tmod b)) := by simp [binV, isShift, binInt, h]
variable (k : IntKind)
theorem eql_int : binV .eql (.int k a) (.int k b) = some (.bool (decide (a = b))) := by simp [binV, isShift, binInt]
theorem neq_int : binV .neq (.int k a) (.int k b) = some (.bool (decide (a ≠ b))) := by simp [binV, isShift, binInt]
theorem lss_int : binV .lss (.int k a) (.int k b) = some (.bool (decide (a < b))) := by simp [binV, isShift, binInt]
theorem leq_int : binV .leq (.int k a) (.int k b) = some (.bool (decide (a ≤ b))) := by simp [binV, isShift, binInt]
theorem gtr_int : binV .gtr (.int k a) (.int k b) = some (.bool (decide (b < a))) := by simp [binV, isShift, binInt]
theorem geq_int : binV .geq (.int k a) (.int k b) = some (.bool (decide (b ≤ a))) := by simp [binV, isShift, binInt]
theorem not_bool (t : Bool) : unV .not (.bool t) = some (.bool !t) := rfl
end
theorem add_u64 (a b : Int) : binV .add (.int .u64 a) (.int .u64 b) = some (.int .u64 (IntKind.u64.wrap (a + b))) := rfl
theorem sub_u64 (a b : Int) : binV .sub (.int .u64 a) (.int .u64 b) = some (.int .u64 (IntKind.u64.wrap (a - b))) := rfl
theorem mul_u64 (a b : Int) : binV .mul (.int .u64 a) (.int .u64 b) = some (.int .u64 (IntKind.u64.wrap (a * b))) := rfl
theorem shr_u64 (m : Nat) (k : IntKind) (n : Int) (h : 0 ≤ n) (h2 : n < 64) : binV .shr (.int .u64 m) (.int k n) = some (.int .u64 (m >>> n.toNat : Nat)) := by
  obtain ⟨q, rfl⟩ : ∃ q : Nat, n = q := ⟨n.toNat, by omega⟩
  have e : min q IntKind.u64.bits = q := by simp [IntKind.bits]; omega
  have hp : (2 : Int) ^ q = ((2 ^ q : Nat) : Int) := by simp
  simp only [binV, isShift, if_true, shiftInt, if_neg (show ¬ (q : Int) < 0 by omega), Int.toNat_natCast, e, Nat.shiftRight_eq_div_pow]
  rw [hp, Int.fdiv_eq_ediv_of_nonneg _ (Int.natCast_nonneg _), ← Int.natCast_ediv]
theorem wrap_u8_nat (m : Nat) : IntKind.u8.wrap (m : Int) = ((UInt8.ofNat m).toNat : Int) := by rw [wrap_u8_mod]; simp
theorem iaSA_bytes {bs : List UInt8} {o : Own} {kd : IntKind} {n : Int} (h : 0 ≤ n) (h2 : n.toNat < bs.length) : iaSA 1 (.sl (bs.map byteAV) o) (.v (.int kd n)) = some (.rptr [.v (.int .u8 (bs.getD n.toNat 0).toNat)]) := by
  rw [iaSA_sl h, List.getElem?_map, List.getElem?_eq_getElem h2]
  have : bs.getD n.toNat 0 = bs[n.toNat] := by simp [List.getD, h2]
  rw [this]; rfl
theorem dec_t (h : Decidable True) : @decide True h = true := by simp
theorem dec_f (h : Decidable False) : @decide False h = false := by simp
theorem mkv_agg {n : Nat} {cs : List AV} : mkv true n cs = .agg (cs.take n) := rfl
theorem cells_sl {xs : List AV} {o : Own} : AV.cells (.sl xs o) = [.sl xs o] := rfl
theorem cells_v {x : Value} : AV.cells (.v x) = [.v x] := rfl
theorem cells_ptr {l o : Nat} : AV.cells (.ptr l o) = [.ptr l o] := rfl
theorem cells_rptr {cs : List AV} : AV.cells (.rptr cs) = [.rptr cs] := rfl
theorem cells_iface {t : TypeId} {x : AV} : AV.cells (.iface t x) = [.iface t x] := rfl
theorem cells_agg {cs : List AV} : AV.cells (.agg cs) = cs := rfl
theorem putAt_all {cs ys : List AV} (h : ys.length = cs.length) : putAt cs 0 ys = ys := by simp [putAt, h]
theorem mkv_one {x : AV} {r : List AV} : mkv false 1 (x :: r) = x := rfl
section
variable (x y : UInt32)
theorem add_u32 : binV .add (.int .u32 x.toNat) (.int .u32 y.toNat) = some (.int .u32 (x + y).toNat) := by
  simp [binV, isShift, binInt, wrap_u32_mod, UInt32.toNat_add]
theorem sub_u32 : binV .sub (.int .u32 x.toNat) (.int .u32 y.toNat) = some (.int .u32 (x - y).toNat) := by
  have := x.toNat_lt; have := y.toNat_lt
  simp only [binV, isShift, binInt, wrap_u32_mod, UInt32.toNat_sub]
  simp; omega
theorem mul_u32 : binV .mul (.int .u32 x.toNat) (.int .u32 y.toNat) = some (.int .u32 (x * y).toNat) := by
  simp [binV, isShift, binInt, wrap_u32_mod, UInt32.toNat_mul]
theorem wrap_u32_nat (n : Nat) (h : n < 4294967296) : IntKind.u32.wrap (n : Int) = n := wrap_u32 (by omega) (by omega)
theorem ofInt_u32 : BitVec.ofInt 32 (x.toNat : Int) = x.toBitVec := by
  rw [BitVec.ofInt_natCast]; exact BitVec.eq_of_toNat_eq (by simp)
theorem and_u32 : binV .and (.int .u32 x.toNat) (.int .u32 y.toNat) = some (.int .u32 (x &&& y).toNat) := by
  have h : binV .and (.int .u32 x.toNat) (.int .u32 y.toNat) = some (.int .u32 (IntKind.u32.wrap (BitVec.ofInt 32 (x.toNat : Int) &&& BitVec.ofInt 32 (y.toNat : Int)).toNat)) := rfl
  rw [h, ofInt_u32, ofInt_u32, wrap_u32_nat _ (BitVec.isLt _)]; rfl
theorem or_u32 : binV .or (.int .u32 x.toNat) (.int .u32 y.toNat) = some (.int .u32 (x ||| y).toNat) := by
  have h : binV .or (.int .u32 x.toNat) (.int .u32 y.toNat) = some (.int .u32 (IntKind.u32.wrap (BitVec.ofInt 32 (x.toNat : Int) ||| BitVec.ofInt 32 (y.toNat : Int)).toNat)) := rfl
  rw [h, ofInt_u32, ofInt_u32, wrap_u32_nat _ (BitVec.isLt _)]; rfl
theorem xor_u32 : binV .xor (.int .u32 x.toNat) (.int .u32 y.toNat) = some (.int .u32 (x ^^^ y).toNat) := by
  have h : binV .xor (.int .u32 x.toNat) (.int .u32 y.toNat) = some (.int .u32 (IntKind.u32.wrap (BitVec.ofInt 32 (x.toNat : Int) ^^^ BitVec.ofInt 32 (y.toNat : Int)).toNat)) := rfl
  rw [h, ofInt_u32, ofInt_u32, wrap_u32_nat _ (BitVec.isLt _)]; rfl
theorem com_u32 : unV .xor (.int .u32 x.toNat) = some (.int .u32 (~~~x).toNat) := by
  have h : unV .xor (.int .u32 x.toNat) = some (.int .u32 (IntKind.u32.wrap (BitVec.ofInt 32 4294967295 ^^^ BitVec.ofInt 32 (x.toNat : Int)).toNat)) := rfl
  rw [h, ofInt_u32, wrap_u32_nat _ (BitVec.isLt _)]
  have : (BitVec.ofInt 32 4294967295 ^^^ x.toBitVec) = ~~~x.toBitVec := by rw [BitVec.not_def]; rfl
  rw [this]; rfl
theorem shl_u32 (k : IntKind) (n : Int) (h : 0 ≤ n) (h2 : n < 32) : binV .shl (.int .u32 x.toNat) (.int k n) = some (.int .u32 (x <<< UInt32.ofNat n.toNat).toNat) := by
  obtain ⟨m, rfl⟩ : ∃ m : Nat, n = m := ⟨n.toNat, by omega⟩
  have hm : m < 32 := by omega
  have e : min m IntKind.u32.bits = m := by simp [IntKind.bits]; omega
  simp only [binV, isShift, if_true, shiftInt, if_neg (show ¬ (m : Int) < 0 by omega), Int.toNat_natCast, e, wrap_u32_mod, UInt32.toNat_shiftLeft, UInt32.toNat_ofNat', Nat.shiftLeft_eq]
  have e2 : m % 2 ^ 32 % 32 = m := by omega
  rw [e2]; simp
theorem shr_u32 (k : IntKind) (n : Int) (h : 0 ≤ n) (h2 : n < 32) : binV .shr (.int .u32 x.toNat) (.int k n) = some (.int .u32 (x >>> UInt32.ofNat n.toNat).toNat) := by
  obtain ⟨m, rfl⟩ : ∃ m : Nat, n = m := ⟨n.toNat, by omega⟩
  have hm : m < 32 := by omega
  have e : min m IntKind.u32.bits = m := by simp [IntKind.bits]; omega
  simp only [binV, isShift, if_true, shiftInt, if_neg (show ¬ (m : Int) < 0 by omega), Int.toNat_natCast, e, UInt32.toNat_shiftRight, UInt32.toNat_ofNat', Nat.shiftRight_eq_div_pow]
  have e2 : m % 2 ^ 32 % 32 = m := by omega
  have hp : (2 : Int) ^ m = ((2 ^ m : Nat) : Int) := by simp
  rw [e2, hp, Int.fdiv_eq_ediv_of_nonneg _ (Int.natCast_nonneg _), ← Int.natCast_ediv]
end
end Go.Av
