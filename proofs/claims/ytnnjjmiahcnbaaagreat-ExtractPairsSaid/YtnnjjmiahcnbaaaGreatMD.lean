/- Merged by program from smaller texts; what is proved stands in the last text of the claim. -/
import Derived.Test.YtnnjjmiahcnbaaaGreatProg
import Derived.Test.YtnnjjmiahcnbaaaGreatMB
import Derived.KernelRfl
import Derived.Test.YtnnjjmiahcnbaaaGreatMC
set_option linter.all false
set_option maxRecDepth 100000
namespace Go.Proofs.YtnnjjmiahcnbaaaGreat
open Go Go.Av

theorem hm_2 : Tryz.prog.follows .mixedOrders = true := by kernel_rfl

-- slices.pdqsortCmpFunc[indenture/api.Digest]
def F105 : AFunc where
  ntmps := 148
  nparams := 5
  results := []
  code :=
(.seq
(.plain (
⟨(some 10), .mv (.const (.bool true)), none⟩ ::
[]))
(.seq
(.plain (
⟨(some 11), .mv (.const (.bool true)), none⟩ ::
[]))
(.block 0
(.loop
(.block 1
(.seq
(.plain (
⟨(some 21), .mv (.tmp 2), none⟩ ::
⟨(some 22), .mv (.tmp 1), none⟩ ::
⟨(some 23), .bin .sub (.tmp 21) (.tmp 22), none⟩ ::
⟨(some 12), .mv (.tmp 23), none⟩ ::
[]))
(.seq
(.seq
(.plain (
⟨(some 24), .mv (.tmp 12), none⟩ ::
⟨(some 25), .bin .leq (.tmp 24) (.const (.int .i64 12)), none⟩ ::
[]))
(.cond (.tmp 25)
(.seq
(.plain (
⟨(some 26), .mv (.tmp 0), none⟩ ::
⟨(some 27), .mv (.tmp 1), none⟩ ::
⟨(some 28), .mv (.tmp 2), none⟩ ::
⟨(some 29), .mv (.tmp 4), none⟩ ::
⟨(some 30), .callF 120 [(.tmp 26), (.tmp 27), (.tmp 28), (.tmp 29)], none⟩ ::
[]))
.ret)
.skip))
(.seq
(.seq
(.plain (
⟨(some 31), .mv (.tmp 3), none⟩ ::
⟨(some 32), .bin .eql (.tmp 31) (.const (.int .i64 0)), none⟩ ::
[]))
(.cond (.tmp 32)
(.seq
(.plain (
⟨(some 33), .mv (.tmp 0), none⟩ ::
⟨(some 34), .mv (.tmp 1), none⟩ ::
⟨(some 35), .mv (.tmp 2), none⟩ ::
⟨(some 36), .mv (.tmp 4), none⟩ ::
⟨(some 37), .callF 121 [(.tmp 33), (.tmp 34), (.tmp 35), (.tmp 36)], none⟩ ::
[]))
.ret)
.skip))
(.seq
(.seq
(.plain (
⟨(some 38), .mv (.tmp 10), none⟩ ::
⟨(some 39), .un .not (.tmp 38), none⟩ ::
[]))
(.cond (.tmp 39)
(.seq
(.plain (
⟨(some 40), .mv (.tmp 0), none⟩ ::
⟨(some 41), .mv (.tmp 1), none⟩ ::
⟨(some 42), .mv (.tmp 2), none⟩ ::
⟨(some 43), .mv (.tmp 4), none⟩ ::
⟨(some 44), .callF 122 [(.tmp 40), (.tmp 41), (.tmp 42), (.tmp 43)], none⟩ ::
[]))
(.plain (
⟨(some 45), .mv (.tmp 3), none⟩ ::
⟨(some 46), .bin .sub (.tmp 45) (.const (.int .i64 1)), none⟩ ::
⟨(some 3), .mv (.tmp 46), none⟩ ::
[])))
.skip))
(.seq
(.plain (
⟨(some 48), .mv (.tmp 0), none⟩ ::
⟨(some 49), .mv (.tmp 1), none⟩ ::
⟨(some 50), .mv (.tmp 2), none⟩ ::
⟨(some 51), .mv (.tmp 4), none⟩ ::
⟨(some 52), .callF 123 [(.tmp 48), (.tmp 49), (.tmp 50), (.tmp 51)], none⟩ ::
⟨(some 47), .mv (.tmp 52), none⟩ ::
⟨(some 53), .ext (.tmp 47) 0, none⟩ ::
⟨(some 54), .ext (.tmp 47) 1, none⟩ ::
⟨(some 13), .mv (.tmp 53), none⟩ ::
⟨(some 14), .mv (.tmp 54), none⟩ ::
[]))
(.seq
(.seq
(.plain (
⟨(some 55), .mv (.tmp 14), none⟩ ::
⟨(some 56), .bin .eql (.tmp 55) (.const (.int .i64 2)), none⟩ ::
[]))
(.cond (.tmp 56)
(.seq
(.plain (
⟨(some 57), .mv (.tmp 0), none⟩ ::
⟨(some 58), .mv (.tmp 1), none⟩ ::
⟨(some 59), .mv (.tmp 2), none⟩ ::
⟨(some 60), .mv (.tmp 4), none⟩ ::
⟨(some 61), .callF 124 [(.tmp 57), (.tmp 58), (.tmp 59), (.tmp 60)], none⟩ ::
[]))
(.seq
(.plain (
⟨(some 62), .mv (.tmp 2), none⟩ ::
⟨(some 63), .bin .sub (.tmp 62) (.const (.int .i64 1)), none⟩ ::
⟨(some 64), .mv (.tmp 13), none⟩ ::
⟨(some 65), .mv (.tmp 1), none⟩ ::
⟨(some 66), .bin .sub (.tmp 64) (.tmp 65), none⟩ ::
⟨(some 67), .bin .sub (.tmp 63) (.tmp 66), none⟩ ::
⟨(some 13), .mv (.tmp 67), none⟩ ::
[]))
(.plain (
⟨(some 14), .mv (.const (.int .i64 1)), none⟩ ::
[]))))
.skip))
(.seq
(.seq
(.plain (
⟨(some 68), .mv (.tmp 10), none⟩ ::
⟨(some 69), .mv (.tmp 68), none⟩ ::
⟨(some 70), .mv (.tmp 11), (some (69, true))⟩ ::
⟨(some 71), .pick (.tmp 69) (.tmp 70) (.const (.bool false)), none⟩ ::
⟨(some 72), .mv (.tmp 71), none⟩ ::
⟨(some 73), .mv (.tmp 14), (some (72, true))⟩ ::
⟨(some 74), .bin .eql (.tmp 73) (.const (.int .i64 1)), (some (72, true))⟩ ::
⟨(some 75), .pick (.tmp 72) (.tmp 74) (.const (.bool false)), none⟩ ::
[]))
(.cond (.tmp 75)
(.seq
(.plain (
⟨(some 76), .mv (.tmp 0), none⟩ ::
⟨(some 77), .mv (.tmp 1), none⟩ ::
⟨(some 78), .mv (.tmp 2), none⟩ ::
⟨(some 79), .mv (.tmp 4), none⟩ ::
⟨(some 80), .callF 125 [(.tmp 76), (.tmp 77), (.tmp 78), (.tmp 79)], none⟩ ::
[]))
(.cond (.tmp 80)
.ret
.skip))
.skip))
(.seq
(.seq
(.draw (
⟨(some 81), .mv (.tmp 1), none⟩ ::
⟨(some 82), .bin .gtr (.tmp 81) (.const (.int .i64 0)), none⟩ ::
⟨(some 83), .mv (.tmp 82), none⟩ ::
⟨(some 84), .mv (.tmp 4), (some (83, true))⟩ ::
⟨(some 85), .mv (.tmp 0), (some (83, true))⟩ ::
⟨(some 86), .mv (.tmp 1), (some (83, true))⟩ ::
⟨(some 87), .bin .sub (.tmp 86) (.const (.int .i64 1)), (some (83, true))⟩ ::
⟨(some 88), .iaS 32 (.tmp 85) (.tmp 87), (some (83, true))⟩ ::
⟨(some 89), .load true 32 (.tmp 88), (some (83, true))⟩ ::
⟨(some 90), .mv (.tmp 0), (some (83, true))⟩ ::
⟨(some 91), .mv (.tmp 13), (some (83, true))⟩ ::
⟨(some 92), .iaS 32 (.tmp 90) (.tmp 91), (some (83, true))⟩ ::
⟨(some 93), .load true 32 (.tmp 92), (some (83, true))⟩ ::
⟨(some 94), .callV (.tmp 84) [(.tmp 89), (.tmp 93)], (some (83, true))⟩ ::
⟨(some 95), .bin .lss (.tmp 94) (.const (.int .i64 0)), (some (83, true))⟩ ::
⟨(some 96), .un .not (.tmp 95), (some (83, true))⟩ ::
⟨(some 97), .pick (.tmp 83) (.tmp 96) (.const (.bool false)), none⟩ ::
[])
(⟨0, [], []⟩ :: ⟨1, [], []⟩ :: ⟨2, [], []⟩ :: ⟨3, [], []⟩ :: ⟨4, [], []⟩ :: ⟨5, [], []⟩ :: ⟨6, [], []⟩ :: ⟨7, [], []⟩ :: ⟨8, [], []⟩ :: ⟨9, [], []⟩ :: ⟨10, [], []⟩ :: ⟨11, [], []⟩ :: ⟨12, [], []⟩ :: ⟨13, [], []⟩ :: ⟨14, [], []⟩ :: ⟨15, [], []⟩ :: ⟨16, [], []⟩ :: []))
(.cond (.tmp 97)
(.seq
(.plain (
⟨(some 98), .mv (.tmp 0), none⟩ ::
⟨(some 99), .mv (.tmp 1), none⟩ ::
⟨(some 100), .mv (.tmp 2), none⟩ ::
⟨(some 101), .mv (.tmp 13), none⟩ ::
⟨(some 102), .mv (.tmp 4), none⟩ ::
⟨(some 103), .callF 126 [(.tmp 98), (.tmp 99), (.tmp 100), (.tmp 101), (.tmp 102)], none⟩ ::
⟨(some 15), .mv (.tmp 103), none⟩ ::
[]))
(.seq
(.plain (
⟨(some 104), .mv (.tmp 15), none⟩ ::
⟨(some 1), .mv (.tmp 104), none⟩ ::
[]))
(.exit 1)))
.skip))
(.seq
(.plain (
⟨(some 106), .mv (.tmp 0), none⟩ ::
⟨(some 107), .mv (.tmp 1), none⟩ ::
⟨(some 108), .mv (.tmp 2), none⟩ ::
⟨(some 109), .mv (.tmp 13), none⟩ ::
⟨(some 110), .mv (.tmp 4), none⟩ ::
⟨(some 111), .callF 127 [(.tmp 106), (.tmp 107), (.tmp 108), (.tmp 109), (.tmp 110)], none⟩ ::
⟨(some 105), .mv (.tmp 111), none⟩ ::
⟨(some 112), .ext (.tmp 105) 0, none⟩ ::
⟨(some 113), .ext (.tmp 105) 1, none⟩ ::
⟨(some 16), .mv (.tmp 112), none⟩ ::
⟨(some 17), .mv (.tmp 113), none⟩ ::
[]))
(.seq
(.plain (
⟨(some 114), .mv (.tmp 17), none⟩ ::
⟨(some 11), .mv (.tmp 114), none⟩ ::
[]))
(.seq
(.plain (
⟨(some 115), .mv (.tmp 16), none⟩ ::
⟨(some 116), .mv (.tmp 1), none⟩ ::
⟨(some 117), .bin .sub (.tmp 115) (.tmp 116), none⟩ ::
⟨(some 118), .mv (.tmp 2), none⟩ ::
⟨(some 119), .mv (.tmp 16), none⟩ ::
⟨(some 120), .bin .sub (.tmp 118) (.tmp 119), none⟩ ::
⟨(some 18), .mv (.tmp 117), none⟩ ::
⟨(some 19), .mv (.tmp 120), none⟩ ::
[]))
(.seq
(.plain (
⟨(some 121), .mv (.tmp 12), none⟩ ::
⟨(some 122), .bin .quo (.tmp 121) (.const (.int .i64 8)), none⟩ ::
⟨(some 20), .mv (.tmp 122), none⟩ ::
[]))
(.seq
(.plain (
⟨(some 123), .mv (.tmp 18), none⟩ ::
⟨(some 124), .mv (.tmp 19), none⟩ ::
⟨(some 125), .bin .lss (.tmp 123) (.tmp 124), none⟩ ::
[]))
(.cond (.tmp 125)
(.seq
(.plain (
⟨(some 126), .mv (.tmp 18), none⟩ ::
⟨(some 127), .mv (.tmp 20), none⟩ ::
⟨(some 128), .bin .geq (.tmp 126) (.tmp 127), none⟩ ::
⟨(some 10), .mv (.tmp 128), none⟩ ::
[]))
(.seq
(.plain (
⟨(some 129), .mv (.tmp 0), none⟩ ::
⟨(some 130), .mv (.tmp 1), none⟩ ::
⟨(some 131), .mv (.tmp 16), none⟩ ::
⟨(some 132), .mv (.tmp 3), none⟩ ::
⟨(some 133), .mv (.tmp 4), none⟩ ::
⟨(some 134), .callF 105 [(.tmp 129), (.tmp 130), (.tmp 131), (.tmp 132), (.tmp 133)], none⟩ ::
[]))
(.plain (
⟨(some 135), .mv (.tmp 16), none⟩ ::
⟨(some 136), .bin .add (.tmp 135) (.const (.int .i64 1)), none⟩ ::
⟨(some 1), .mv (.tmp 136), none⟩ ::
[]))))
(.seq
(.plain (
⟨(some 137), .mv (.tmp 19), none⟩ ::
⟨(some 138), .mv (.tmp 20), none⟩ ::
⟨(some 139), .bin .geq (.tmp 137) (.tmp 138), none⟩ ::
⟨(some 10), .mv (.tmp 139), none⟩ ::
[]))
(.seq
(.plain (
⟨(some 140), .mv (.tmp 0), none⟩ ::
⟨(some 141), .mv (.tmp 16), none⟩ ::
⟨(some 142), .bin .add (.tmp 141) (.const (.int .i64 1)), none⟩ ::
⟨(some 143), .mv (.tmp 2), none⟩ ::
⟨(some 144), .mv (.tmp 3), none⟩ ::
⟨(some 145), .mv (.tmp 4), none⟩ ::
⟨(some 146), .callF 105 [(.tmp 140), (.tmp 142), (.tmp 143), (.tmp 144), (.tmp 145)], none⟩ ::
[]))
(.plain (
⟨(some 147), .mv (.tmp 16), none⟩ ::
⟨(some 2), .mv (.tmp 147), none⟩ ::
[])))))))))))))))))))))))
theorem prep105 : prepFunc Tryz.prog 0 105 = some F105 := by kernel_rfl

-- math/bits.Len
def F106 : AFunc where
  ntmps := 8
  nparams := 1
  results := [(2, none)]
  code :=
(.seq
(.plain (
⟨(some 2), .mv (.const (.int .i64 0)), none⟩ ::
[]))
(.seq
(.cond (.const (.bool false))
(.seq
(.plain (
⟨(some 3), .mv (.tmp 0), none⟩ ::
⟨(some 4), .cvt .u32 (.tmp 3), none⟩ ::
⟨(some 5), .callF 128 [(.tmp 4)], none⟩ ::
⟨(some 2), .mv (.tmp 5), none⟩ ::
[]))
.ret)
.skip)
(.seq
(.plain (
⟨(some 6), .mv (.tmp 0), none⟩ ::
⟨(some 7), .callF 129 [(.tmp 6)], none⟩ ::
⟨(some 2), .mv (.tmp 7), none⟩ ::
[]))
.ret)))
theorem prep106 : prepFunc Tryz.prog 0 106 = some F106 := by kernel_rfl

-- indenture/sha.schedule
def F108 : AFunc where
  ntmps := 93
  nparams := 1
  results := [(2, (some (true, 64)))]
  code :=
(.seq
(.plain (
⟨(some 2), .alloc 172 (List.replicate 64 (.v (.int .u32 0))), none⟩ ::
[]))
(.seq
(.plain (
⟨(some 3), .alloc 172 (List.replicate 64 (.v (.int .u32 0))), none⟩ ::
[]))
(.seq
(.seq
(.plain (
⟨(some 10), .mv (.const (.int .i64 0)), none⟩ ::
[]))
(.block 0
(.loop
(.seq
(.plain (
⟨(some 11), .bin .lss (.tmp 10) (.const (.int .i64 16)), none⟩ ::
[]))
(.seq
(.cond (.tmp 11)
.skip
(.exit 0))
(.seq
(.block 1
(.seq
(.plain (
⟨(some 12), .mv (.tmp 10), none⟩ ::
⟨(some 4), .mv (.tmp 12), none⟩ ::
[]))
(.draw (
⟨(some 13), .mv (.tmp 4), none⟩ ::
⟨(some 14), .mv (.tmp 0), none⟩ ::
⟨(some 15), .mv (.tmp 4), none⟩ ::
⟨(some 16), .bin .mul (.const (.int .i64 4)) (.tmp 15), none⟩ ::
⟨(some 17), .iaS 1 (.tmp 14) (.tmp 16), none⟩ ::
⟨(some 18), .load false 1 (.tmp 17), none⟩ ::
⟨(some 19), .cvt .u32 (.tmp 18), none⟩ ::
⟨(some 20), .bin .shl (.tmp 19) (.const (.int .u64 24)), none⟩ ::
⟨(some 21), .mv (.tmp 0), none⟩ ::
⟨(some 22), .mv (.tmp 4), none⟩ ::
⟨(some 23), .bin .mul (.const (.int .i64 4)) (.tmp 22), none⟩ ::
⟨(some 24), .bin .add (.tmp 23) (.const (.int .i64 1)), none⟩ ::
⟨(some 25), .iaS 1 (.tmp 21) (.tmp 24), none⟩ ::
⟨(some 26), .load false 1 (.tmp 25), none⟩ ::
⟨(some 27), .cvt .u32 (.tmp 26), none⟩ ::
⟨(some 28), .bin .shl (.tmp 27) (.const (.int .u64 16)), none⟩ ::
⟨(some 29), .bin .or (.tmp 20) (.tmp 28), none⟩ ::
⟨(some 30), .mv (.tmp 0), none⟩ ::
⟨(some 31), .mv (.tmp 4), none⟩ ::
⟨(some 32), .bin .mul (.const (.int .i64 4)) (.tmp 31), none⟩ ::
⟨(some 33), .bin .add (.tmp 32) (.const (.int .i64 2)), none⟩ ::
⟨(some 34), .iaS 1 (.tmp 30) (.tmp 33), none⟩ ::
⟨(some 35), .load false 1 (.tmp 34), none⟩ ::
⟨(some 36), .cvt .u32 (.tmp 35), none⟩ ::
⟨(some 37), .bin .shl (.tmp 36) (.const (.int .u64 8)), none⟩ ::
⟨(some 38), .bin .or (.tmp 29) (.tmp 37), none⟩ ::
⟨(some 39), .mv (.tmp 0), none⟩ ::
⟨(some 40), .mv (.tmp 4), none⟩ ::
⟨(some 41), .bin .mul (.const (.int .i64 4)) (.tmp 40), none⟩ ::
⟨(some 42), .bin .add (.tmp 41) (.const (.int .i64 3)), none⟩ ::
⟨(some 43), .iaS 1 (.tmp 39) (.tmp 42), none⟩ ::
⟨(some 44), .load false 1 (.tmp 43), none⟩ ::
⟨(some 45), .cvt .u32 (.tmp 44), none⟩ ::
⟨(some 46), .bin .or (.tmp 38) (.tmp 45), none⟩ ::
⟨(some 47), .iaA 1 64 (.tmp 3) (.tmp 13), none⟩ ::
⟨none, .store 1 (.tmp 47) (.tmp 46), none⟩ ::
[])
(⟨0, [], []⟩ :: ⟨1, [], []⟩ :: ⟨2, [], []⟩ :: ⟨3, [], []⟩ :: ⟨4, [], []⟩ :: ⟨5, [], []⟩ :: ⟨6, [], []⟩ :: ⟨7, [], []⟩ :: ⟨8, [], []⟩ :: ⟨9, [], []⟩ :: ⟨10, [], []⟩ :: ⟨11, [], []⟩ :: ⟨12, [], []⟩ :: ⟨13, [], []⟩ :: ⟨14, [], []⟩ :: ⟨15, [], []⟩ :: ⟨16, [], []⟩ :: ⟨17, [], []⟩ :: ⟨18, [], []⟩ :: ⟨19, [], []⟩ :: ⟨20, [], []⟩ :: ⟨21, [], []⟩ :: ⟨22, [], []⟩ :: ⟨23, [], []⟩ :: ⟨24, [], []⟩ :: ⟨25, [], []⟩ :: ⟨26, [], []⟩ :: ⟨27, [], []⟩ :: ⟨28, [], []⟩ :: ⟨29, [], []⟩ :: ⟨30, [], []⟩ :: ⟨31, [], []⟩ :: ⟨32, [], []⟩ :: ⟨33, [], []⟩ :: ⟨34, [], []⟩ :: ⟨35, [], []⟩ :: []))))
(.plain (
⟨(some 48), .bin .add (.tmp 10) (.const (.int .i64 1)), none⟩ ::
⟨(some 10), .mv (.tmp 48), none⟩ ::
[]))))))))
(.seq
(.seq
(.plain (
⟨(some 5), .mv (.const (.int .i64 16)), none⟩ ::
[]))
(.block 2
(.loop
(.seq
(.seq
(.plain (
⟨(some 49), .mv (.tmp 5), none⟩ ::
⟨(some 50), .bin .lss (.tmp 49) (.const (.int .i64 64)), none⟩ ::
[]))
(.cond (.tmp 50)
.skip
(.exit 2)))
(.seq
(.block 3
(.seq
(.draw (
⟨(some 53), .mv (.tmp 5), none⟩ ::
⟨(some 54), .bin .sub (.tmp 53) (.const (.int .i64 15)), none⟩ ::
⟨(some 55), .iaA 1 64 (.tmp 3) (.tmp 54), none⟩ ::
⟨(some 56), .load false 1 (.tmp 55), none⟩ ::
⟨(some 57), .mv (.tmp 5), none⟩ ::
⟨(some 58), .bin .sub (.tmp 57) (.const (.int .i64 2)), none⟩ ::
⟨(some 59), .iaA 1 64 (.tmp 3) (.tmp 58), none⟩ ::
⟨(some 60), .load false 1 (.tmp 59), none⟩ ::
⟨(some 6), .mv (.tmp 56), none⟩ ::
⟨(some 7), .mv (.tmp 60), none⟩ ::
[])
(⟨0, [], []⟩ :: ⟨1, [], []⟩ :: ⟨2, [], []⟩ :: ⟨3, [], []⟩ :: ⟨4, [], []⟩ :: ⟨5, [], []⟩ :: ⟨6, [], []⟩ :: ⟨7, [], []⟩ :: ⟨8, [], []⟩ :: ⟨9, [], []⟩ :: []))
(.seq
(.plain (
⟨(some 61), .mv (.tmp 6), none⟩ ::
⟨(some 62), .callF 110 [(.tmp 61), (.const (.int .i64 (-7)))], none⟩ ::
⟨(some 63), .mv (.tmp 6), none⟩ ::
⟨(some 64), .callF 110 [(.tmp 63), (.const (.int .i64 (-18)))], none⟩ ::
⟨(some 65), .bin .xor (.tmp 62) (.tmp 64), none⟩ ::
⟨(some 66), .mv (.tmp 6), none⟩ ::
⟨(some 67), .bin .shr (.tmp 66) (.const (.int .u64 3)), none⟩ ::
⟨(some 68), .bin .xor (.tmp 65) (.tmp 67), none⟩ ::
⟨(some 8), .mv (.tmp 68), none⟩ ::
[]))
(.seq
(.plain (
⟨(some 69), .mv (.tmp 7), none⟩ ::
⟨(some 70), .callF 110 [(.tmp 69), (.const (.int .i64 (-17)))], none⟩ ::
⟨(some 71), .mv (.tmp 7), none⟩ ::
⟨(some 72), .callF 110 [(.tmp 71), (.const (.int .i64 (-19)))], none⟩ ::
⟨(some 73), .bin .xor (.tmp 70) (.tmp 72), none⟩ ::
⟨(some 74), .mv (.tmp 7), none⟩ ::
⟨(some 75), .bin .shr (.tmp 74) (.const (.int .u64 10)), none⟩ ::
⟨(some 76), .bin .xor (.tmp 73) (.tmp 75), none⟩ ::
⟨(some 9), .mv (.tmp 76), none⟩ ::
[]))
(.draw (
⟨(some 77), .mv (.tmp 5), none⟩ ::
⟨(some 78), .mv (.tmp 5), none⟩ ::
⟨(some 79), .bin .sub (.tmp 78) (.const (.int .i64 16)), none⟩ ::
⟨(some 80), .iaA 1 64 (.tmp 3) (.tmp 79), none⟩ ::
⟨(some 81), .load false 1 (.tmp 80), none⟩ ::
⟨(some 82), .mv (.tmp 8), none⟩ ::
⟨(some 83), .bin .add (.tmp 81) (.tmp 82), none⟩ ::
⟨(some 84), .mv (.tmp 5), none⟩ ::
⟨(some 85), .bin .sub (.tmp 84) (.const (.int .i64 7)), none⟩ ::
⟨(some 86), .iaA 1 64 (.tmp 3) (.tmp 85), none⟩ ::
⟨(some 87), .load false 1 (.tmp 86), none⟩ ::
⟨(some 88), .bin .add (.tmp 83) (.tmp 87), none⟩ ::
⟨(some 89), .mv (.tmp 9), none⟩ ::
⟨(some 90), .bin .add (.tmp 88) (.tmp 89), none⟩ ::
⟨(some 91), .iaA 1 64 (.tmp 3) (.tmp 77), none⟩ ::
⟨none, .store 1 (.tmp 91) (.tmp 90), none⟩ ::
[])
(⟨0, [], []⟩ :: ⟨1, [], []⟩ :: ⟨2, [], []⟩ :: ⟨3, [], []⟩ :: ⟨4, [], []⟩ :: ⟨5, [], []⟩ :: ⟨6, [], []⟩ :: ⟨7, [], []⟩ :: ⟨8, [], []⟩ :: ⟨9, [], []⟩ :: ⟨10, [], []⟩ :: ⟨11, [], []⟩ :: ⟨12, [], []⟩ :: ⟨13, [], []⟩ :: ⟨14, [], []⟩ :: ⟨15, [], []⟩ :: []))))))
(.plain (
⟨(some 51), .mv (.tmp 5), none⟩ ::
⟨(some 52), .bin .add (.tmp 51) (.const (.int .i64 1)), none⟩ ::
⟨(some 5), .mv (.tmp 52), none⟩ ::
[])))))))
(.seq
(.plain (
⟨(some 92), .load true 64 (.tmp 3), none⟩ ::
⟨none, .store 64 (.tmp 2) (.tmp 92), none⟩ ::
[]))
.ret)))))
theorem prep108 : prepFunc Tryz.prog 0 108 = some F108 := by kernel_rfl

-- indenture/sha.rounds
def F109 : AFunc where
  ntmps := 2
  nparams := 0
  results := [(0, (some (true, 64)))]
  code :=
(.seq
(.plain (
⟨(some 0), .alloc 172 (List.replicate 64 (.v (.int .u32 0))), none⟩ ::
[]))
(.seq
(.plain (
⟨(some 1), .bld (List.replicate 64 (.v (.int .u32 0))) [(0, 1, (.const (.int .u32 1116352408))), (1, 1, (.const (.int .u32 1899447441))), (2, 1, (.const (.int .u32 3049323471))), (3, 1, (.const (.int .u32 3921009573))), (4, 1, (.const (.int .u32 961987163))), (5, 1, (.const (.int .u32 1508970993))), (6, 1, (.const (.int .u32 2453635748))), (7, 1, (.const (.int .u32 2870763221))), (8, 1, (.const (.int .u32 3624381080))), (9, 1, (.const (.int .u32 310598401))), (10, 1, (.const (.int .u32 607225278))), (11, 1, (.const (.int .u32 1426881987))), (12, 1, (.const (.int .u32 1925078388))), (13, 1, (.const (.int .u32 2162078206))), (14, 1, (.const (.int .u32 2614888103))), (15, 1, (.const (.int .u32 3248222580))), (16, 1, (.const (.int .u32 3835390401))), (17, 1, (.const (.int .u32 4022224774))), (18, 1, (.const (.int .u32 264347078))), (19, 1, (.const (.int .u32 604807628))), (20, 1, (.const (.int .u32 770255983))), (21, 1, (.const (.int .u32 1249150122))), (22, 1, (.const (.int .u32 1555081692))), (23, 1, (.const (.int .u32 1996064986))), (24, 1, (.const (.int .u32 2554220882))), (25, 1, (.const (.int .u32 2821834349))), (26, 1, (.const (.int .u32 2952996808))), (27, 1, (.const (.int .u32 3210313671))), (28, 1, (.const (.int .u32 3336571891))), (29, 1, (.const (.int .u32 3584528711))), (30, 1, (.const (.int .u32 113926993))), (31, 1, (.const (.int .u32 338241895))), (32, 1, (.const (.int .u32 666307205))), (33, 1, (.const (.int .u32 773529912))), (34, 1, (.const (.int .u32 1294757372))), (35, 1, (.const (.int .u32 1396182291))), (36, 1, (.const (.int .u32 1695183700))), (37, 1, (.const (.int .u32 1986661051))), (38, 1, (.const (.int .u32 2177026350))), (39, 1, (.const (.int .u32 2456956037))), (40, 1, (.const (.int .u32 2730485921))), (41, 1, (.const (.int .u32 2820302411))), (42, 1, (.const (.int .u32 3259730800))), (43, 1, (.const (.int .u32 3345764771))), (44, 1, (.const (.int .u32 3516065817))), (45, 1, (.const (.int .u32 3600352804))), (46, 1, (.const (.int .u32 4094571909))), (47, 1, (.const (.int .u32 275423344))), (48, 1, (.const (.int .u32 430227734))), (49, 1, (.const (.int .u32 506948616))), (50, 1, (.const (.int .u32 659060556))), (51, 1, (.const (.int .u32 883997877))), (52, 1, (.const (.int .u32 958139571))), (53, 1, (.const (.int .u32 1322822218))), (54, 1, (.const (.int .u32 1537002063))), (55, 1, (.const (.int .u32 1747873779))), (56, 1, (.const (.int .u32 1955562222))), (57, 1, (.const (.int .u32 2024104815))), (58, 1, (.const (.int .u32 2227730452))), (59, 1, (.const (.int .u32 2361852424))), (60, 1, (.const (.int .u32 2428436474))), (61, 1, (.const (.int .u32 2756734187))), (62, 1, (.const (.int .u32 3204031479))), (63, 1, (.const (.int .u32 3329325298)))], none⟩ ::
⟨none, .store 64 (.tmp 0) (.tmp 1), none⟩ ::
[]))
.ret))
theorem prep109 : prepFunc Tryz.prog 0 109 = some F109 := by kernel_rfl

-- math/bits.RotateLeft32
def F110 : AFunc where
  ntmps := 17
  nparams := 2
  results := [(4, none)]
  code :=
(.seq
(.plain (
⟨(some 4), .mv (.const (.int .u32 0)), none⟩ ::
[]))
(.seq
(.plain (
⟨(some 6), .mv (.tmp 1), none⟩ ::
⟨(some 7), .cvt .u64 (.tmp 6), none⟩ ::
⟨(some 8), .bin .and (.tmp 7) (.const (.int .u64 31)), none⟩ ::
⟨(some 5), .mv (.tmp 8), none⟩ ::
[]))
(.seq
(.plain (
⟨(some 9), .mv (.tmp 0), none⟩ ::
⟨(some 10), .mv (.tmp 5), none⟩ ::
⟨(some 11), .bin .shl (.tmp 9) (.tmp 10), none⟩ ::
⟨(some 12), .mv (.tmp 0), none⟩ ::
⟨(some 13), .mv (.tmp 5), none⟩ ::
⟨(some 14), .bin .sub (.const (.int .u64 32)) (.tmp 13), none⟩ ::
⟨(some 15), .bin .shr (.tmp 12) (.tmp 14), none⟩ ::
⟨(some 16), .bin .or (.tmp 11) (.tmp 15), none⟩ ::
⟨(some 4), .mv (.tmp 16), none⟩ ::
[]))
.ret)))
theorem prep110 : prepFunc Tryz.prog 0 110 = some F110 := by kernel_rfl

-- indenture/indentureref01.turned
def F111 : AFunc where
  ntmps := 13
  nparams := 2
  results := [(4, none)]
  code :=
(.seq
(.plain (
⟨(some 4), .mv (.const (.int .u32 0)), none⟩ ::
[]))
(.seq
(.plain (
⟨(some 5), .mv (.tmp 0), none⟩ ::
⟨(some 6), .mv (.tmp 1), none⟩ ::
⟨(some 7), .bin .shr (.tmp 5) (.tmp 6), none⟩ ::
⟨(some 8), .mv (.tmp 0), none⟩ ::
⟨(some 9), .mv (.tmp 1), none⟩ ::
⟨(some 10), .bin .sub (.const (.int .u64 32)) (.tmp 9), none⟩ ::
⟨(some 11), .bin .shl (.tmp 8) (.tmp 10), none⟩ ::
⟨(some 12), .bin .or (.tmp 7) (.tmp 11), none⟩ ::
⟨(some 4), .mv (.tmp 12), none⟩ ::
[]))
.ret))
theorem prep111 : prepFunc Tryz.prog 1 111 = some F111 := by kernel_rfl

-- slices.IndexFunc[[]indenture/api.Op,indenture/api.Op]
def F112 : AFunc where
  ntmps := 19
  nparams := 2
  results := [(4, none)]
  code :=
(.seq
(.plain (
⟨(some 4), .mv (.const (.int .i64 0)), none⟩ ::
[]))
(.seq
(.seq
(.plain (
⟨(some 6), .mv (.tmp 0), none⟩ ::
⟨(some 7), .len (.tmp 6), none⟩ ::
⟨(some 8), .mv (.const (.int .i64 0)), none⟩ ::
[]))
(.block 0
(.loop
(.seq
(.plain (
⟨(some 9), .bin .lss (.tmp 8) (.tmp 7), none⟩ ::
[]))
(.seq
(.cond (.tmp 9)
.skip
(.exit 0))
(.seq
(.block 1
(.seq
(.plain (
⟨(some 10), .mv (.tmp 8), none⟩ ::
⟨(some 5), .mv (.tmp 10), none⟩ ::
[]))
(.seq
(.plain (
⟨(some 11), .mv (.tmp 1), none⟩ ::
⟨(some 12), .mv (.tmp 0), none⟩ ::
⟨(some 13), .mv (.tmp 5), none⟩ ::
⟨(some 14), .iaS 4 (.tmp 12) (.tmp 13), none⟩ ::
⟨(some 15), .load true 4 (.tmp 14), none⟩ ::
⟨(some 16), .callV (.tmp 11) [(.tmp 15)], none⟩ ::
[]))
(.cond (.tmp 16)
(.seq
(.plain (
⟨(some 17), .mv (.tmp 5), none⟩ ::
⟨(some 4), .mv (.tmp 17), none⟩ ::
[]))
.ret)
.skip))))
(.plain (
⟨(some 18), .bin .add (.tmp 8) (.const (.int .i64 1)), none⟩ ::
⟨(some 8), .mv (.tmp 18), none⟩ ::
[]))))))))
(.seq
(.plain (
⟨(some 4), .mv (.const (.int .i64 (-1))), none⟩ ::
[]))
.ret)))
theorem prep112 : prepFunc Tryz.prog 0 112 = some F112 := by kernel_rfl

-- indenture/block.IsName
def F113 : AFunc where
  ntmps := 44
  nparams := 1
  results := [(2, none)]
  code :=
(.seq
(.plain (
⟨(some 2), .mv (.const (.bool false)), none⟩ ::
[]))
(.seq
(.seq
(.plain (
⟨(some 6), .mv (.tmp 0), none⟩ ::
⟨(some 7), .rngS (.tmp 6), none⟩ ::
[]))
(.block 0
(.loop
(.seq
(.plain (
⟨(some 8), .nxtS (.tmp 7), none⟩ ::
⟨(some 9), .ext (.tmp 8) 0, none⟩ ::
[]))
(.seq
(.cond (.tmp 9)
.skip
(.exit 0))
(.block 1
(.seq
(.plain (
⟨(some 10), .ext (.tmp 8) 1, none⟩ ::
⟨(some 11), .ext (.tmp 8) 2, none⟩ ::
⟨(some 3), .mv (.tmp 10), none⟩ ::
⟨(some 4), .mv (.tmp 11), none⟩ ::
[]))
(.seq
(.plain (
⟨(some 12), .mv (.tmp 4), none⟩ ::
⟨(some 13), .bin .geq (.tmp 12) (.const (.int .i32 97)), none⟩ ::
⟨(some 14), .mv (.tmp 13), none⟩ ::
⟨(some 15), .mv (.tmp 4), (some (14, true))⟩ ::
⟨(some 16), .bin .leq (.tmp 15) (.const (.int .i32 122)), (some (14, true))⟩ ::
⟨(some 17), .pick (.tmp 14) (.tmp 16) (.const (.bool false)), none⟩ ::
⟨(some 5), .mv (.tmp 17), none⟩ ::
[]))
(.seq
(.plain (
⟨(some 18), .mv (.tmp 5), none⟩ ::
⟨(some 19), .un .not (.tmp 18), none⟩ ::
⟨(some 20), .mv (.tmp 19), none⟩ ::
⟨(some 21), .mv (.tmp 3), (some (20, true))⟩ ::
⟨(some 22), .bin .eql (.tmp 21) (.const (.int .i64 0)), (some (20, true))⟩ ::
⟨(some 23), .mv (.tmp 22), (some (20, true))⟩ ::
⟨(some 24), .mv (.tmp 4), (some (23, false))⟩ ::
⟨(some 25), .bin .lss (.tmp 24) (.const (.int .i32 48)), (some (23, false))⟩ ::
⟨(some 26), .mv (.tmp 25), (some (23, false))⟩ ::
⟨(some 27), .mv (.tmp 4), (some (26, false))⟩ ::
⟨(some 28), .bin .gtr (.tmp 27) (.const (.int .i32 57)), (some (26, false))⟩ ::
⟨(some 29), .pick (.tmp 26) (.const (.bool true)) (.tmp 28), (some (23, false))⟩ ::
⟨(some 30), .mv (.tmp 29), (some (23, false))⟩ ::
⟨(some 31), .mv (.tmp 4), (some (30, true))⟩ ::
⟨(some 32), .bin .neq (.tmp 31) (.const (.int .i32 95)), (some (30, true))⟩ ::
⟨(some 33), .pick (.tmp 30) (.tmp 32) (.const (.bool false)), (some (23, false))⟩ ::
⟨(some 34), .pick (.tmp 23) (.const (.bool true)) (.tmp 33), (some (20, true))⟩ ::
⟨(some 35), .pick (.tmp 20) (.tmp 34) (.const (.bool false)), none⟩ ::
[]))
(.cond (.tmp 35)
(.seq
(.plain (
⟨(some 2), .mv (.const (.bool false)), none⟩ ::
[]))
.ret)
.skip))))))))))
(.seq
(.plain (
⟨(some 36), .mv (.tmp 0), none⟩ ::
⟨(some 37), .lenT (.tmp 36), none⟩ ::
⟨(some 38), .bin .geq (.tmp 37) (.const (.int .i64 1)), none⟩ ::
⟨(some 39), .mv (.tmp 38), none⟩ ::
⟨(some 40), .mv (.tmp 0), (some (39, true))⟩ ::
⟨(some 41), .lenT (.tmp 40), (some (39, true))⟩ ::
⟨(some 42), .bin .leq (.tmp 41) (.const (.int .i64 16)), (some (39, true))⟩ ::
⟨(some 43), .pick (.tmp 39) (.tmp 42) (.const (.bool false)), none⟩ ::
⟨(some 2), .mv (.tmp 43), none⟩ ::
[]))
.ret)))
theorem prep113 : prepFunc Tryz.prog 0 113 = some F113 := by kernel_rfl

-- indenture/block.areCols
def F114 : AFunc where
  ntmps := 35
  nparams := 1
  results := [(2, none)]
  code :=
(.seq
(.plain (
⟨(some 2), .mv (.const (.bool false)), none⟩ ::
[]))
(.seq
(.seq
(.plain (
⟨(some 5), .mv (.tmp 0), none⟩ ::
⟨(some 6), .len (.tmp 5), none⟩ ::
⟨(some 7), .mv (.const (.int .i64 0)), none⟩ ::
[]))
(.block 0
(.loop
(.seq
(.plain (
⟨(some 8), .bin .lss (.tmp 7) (.tmp 6), none⟩ ::
[]))
(.seq
(.cond (.tmp 8)
.skip
(.exit 0))
(.seq
(.block 1
(.seq
(.plain (
⟨(some 9), .mv (.tmp 7), none⟩ ::
⟨(some 10), .iaS 1 (.tmp 5) (.tmp 7), none⟩ ::
⟨(some 11), .load false 1 (.tmp 10), none⟩ ::
⟨(some 3), .mv (.tmp 9), none⟩ ::
⟨(some 4), .mv (.tmp 11), none⟩ ::
[]))
(.seq
(.plain (
⟨(some 12), .mv (.tmp 4), none⟩ ::
⟨(some 13), .callF 113 [(.tmp 12)], none⟩ ::
⟨(some 14), .un .not (.tmp 13), none⟩ ::
⟨(some 15), .mv (.tmp 14), none⟩ ::
⟨(some 16), .mv (.tmp 4), (some (15, false))⟩ ::
⟨(some 17), .bin .eql (.tmp 16) (.const (.string ⟨#[105, 100]⟩)), (some (15, false))⟩ ::
⟨(some 18), .pick (.tmp 15) (.const (.bool true)) (.tmp 17), none⟩ ::
⟨(some 19), .mv (.tmp 18), none⟩ ::
⟨(some 20), .mv (.tmp 0), (some (19, false))⟩ ::
⟨(some 21), .mv (.tmp 3), (some (19, false))⟩ ::
⟨(some 22), .slc 1 (.tmp 20) none (some (.tmp 21)), (some (19, false))⟩ ::
⟨(some 23), .mv (.tmp 4), (some (19, false))⟩ ::
⟨(some 24), .callF 130 [(.tmp 22), (.tmp 23)], (some (19, false))⟩ ::
⟨(some 25), .pick (.tmp 19) (.const (.bool true)) (.tmp 24), none⟩ ::
[]))
(.cond (.tmp 25)
(.seq
(.plain (
⟨(some 2), .mv (.const (.bool false)), none⟩ ::
[]))
.ret)
.skip))))
(.plain (
⟨(some 26), .bin .add (.tmp 7) (.const (.int .i64 1)), none⟩ ::
⟨(some 7), .mv (.tmp 26), none⟩ ::
[]))))))))
(.seq
(.plain (
⟨(some 27), .mv (.tmp 0), none⟩ ::
⟨(some 28), .len (.tmp 27), none⟩ ::
⟨(some 29), .bin .geq (.tmp 28) (.const (.int .i64 1)), none⟩ ::
⟨(some 30), .mv (.tmp 29), none⟩ ::
⟨(some 31), .mv (.tmp 0), (some (30, true))⟩ ::
⟨(some 32), .len (.tmp 31), (some (30, true))⟩ ::
⟨(some 33), .bin .leq (.tmp 32) (.const (.int .i64 7)), (some (30, true))⟩ ::
⟨(some 34), .pick (.tmp 30) (.tmp 33) (.const (.bool false)), none⟩ ::
⟨(some 2), .mv (.tmp 34), none⟩ ::
[]))
.ret)))
theorem prep114 : prepFunc Tryz.prog 0 114 = some F114 := by kernel_rfl

-- (*indenture/codec.Writer).put
def F115 : AFunc where
  ntmps := 20
  nparams := 3
  results := []
  code :=
(.seq
(.seq
(.plain (
⟨(some 6), .mv (.tmp 1), none⟩ ::
⟨(some 7), .un .not (.tmp 6), none⟩ ::
[]))
(.cond (.tmp 7)
(.seq
(.plain (
⟨(some 8), .mv (.tmp 0), none⟩ ::
⟨(some 9), .nilc (.tmp 8), none⟩ ::
⟨(some 10), .fa 1 (.tmp 9), none⟩ ::
⟨none, .store 1 (.tmp 10) (.const (.int .i64 10)), none⟩ ::
[]))
.ret)
.skip))
(.plain (
⟨(some 11), .mv (.tmp 0), none⟩ ::
⟨(some 12), .mv (.tmp 0), none⟩ ::
⟨(some 13), .nilc (.tmp 12), none⟩ ::
⟨(some 14), .fa 0 (.tmp 13), none⟩ ::
⟨(some 15), .load false 1 (.tmp 14), none⟩ ::
⟨(some 16), .mv (.tmp 2), none⟩ ::
⟨(some 17), .app 1 1 (.tmp 15) (.tmp 16), none⟩ ::
⟨(some 18), .nilc (.tmp 11), none⟩ ::
⟨(some 19), .fa 0 (.tmp 18), none⟩ ::
⟨none, .store 1 (.tmp 19) (.tmp 17), none⟩ ::
[])))
theorem prep115 : prepFunc Tryz.prog 0 115 = some F115 := by kernel_rfl

-- (*indenture/codec.Writer).Row
def F116 : AFunc where
  ntmps := 27
  nparams := 2
  results := []
  code :=
(.seq
(.seq
(.plain (
⟨(some 6), .mv (.tmp 1), none⟩ ::
⟨(some 7), .len (.tmp 6), none⟩ ::
⟨(some 8), .bin .gtr (.tmp 7) (.const (.int .i64 255)), none⟩ ::
[]))
(.cond (.tmp 8)
(.seq
(.plain (
⟨(some 9), .mv (.tmp 0), none⟩ ::
⟨(some 10), .nilc (.tmp 9), none⟩ ::
⟨(some 11), .fa 1 (.tmp 10), none⟩ ::
⟨none, .store 1 (.tmp 11) (.const (.int .i64 10)), none⟩ ::
[]))
.ret)
.skip))
(.seq
(.plain (
⟨(some 12), .mv (.tmp 0), none⟩ ::
⟨(some 13), .mv (.tmp 1), none⟩ ::
⟨(some 14), .len (.tmp 13), none⟩ ::
⟨(some 15), .cvt .u8 (.tmp 14), none⟩ ::
⟨(some 16), .callF 102 [(.tmp 12), (.tmp 15)], none⟩ ::
[]))
(.seq
(.plain (
⟨(some 17), .mv (.tmp 1), none⟩ ::
⟨(some 18), .len (.tmp 17), none⟩ ::
⟨(some 19), .mv (.const (.int .i64 0)), none⟩ ::
[]))
(.block 0
(.loop
(.seq
(.plain (
⟨(some 20), .bin .lss (.tmp 19) (.tmp 18), none⟩ ::
[]))
(.seq
(.cond (.tmp 20)
.skip
(.exit 0))
(.seq
(.block 1
(.seq
(.plain (
⟨(some 21), .iaS 1 (.tmp 17) (.tmp 19), none⟩ ::
⟨(some 22), .load false 1 (.tmp 21), none⟩ ::
⟨(some 5), .mv (.tmp 22), none⟩ ::
[]))
(.plain (
⟨(some 23), .mv (.tmp 0), none⟩ ::
⟨(some 24), .mv (.tmp 5), none⟩ ::
⟨(some 25), .callF 77 [(.tmp 23), (.tmp 24)], none⟩ ::
[]))))
(.plain (
⟨(some 26), .bin .add (.tmp 19) (.const (.int .i64 1)), none⟩ ::
⟨(some 19), .mv (.tmp 26), none⟩ ::
[]))))))))))
theorem prep116 : prepFunc Tryz.prog 0 116 = some F116 := by kernel_rfl

-- (*indenture/codec.Reader).Byte
def F117 : AFunc where
  ntmps := 15
  nparams := 1
  results := [(2, none)]
  code :=
(.seq
(.plain (
⟨(some 2), .mv (.const (.int .u8 0)), none⟩ ::
[]))
(.seq
(.plain (
⟨(some 6), .mv (.tmp 0), none⟩ ::
⟨(some 7), .callF 89 [(.tmp 6), (.const (.int .i64 1))], none⟩ ::
⟨(some 5), .mv (.tmp 7), none⟩ ::
⟨(some 8), .ext (.tmp 5) 0, none⟩ ::
⟨(some 9), .ext (.tmp 5) 1, none⟩ ::
⟨(some 3), .mv (.tmp 8), none⟩ ::
⟨(some 4), .mv (.tmp 9), none⟩ ::
[]))
(.seq
(.seq
(.plain (
⟨(some 10), .mv (.tmp 4), none⟩ ::
⟨(some 11), .un .not (.tmp 10), none⟩ ::
[]))
(.cond (.tmp 11)
(.seq
(.plain (
⟨(some 2), .mv (.const (.int .u8 0)), none⟩ ::
[]))
.ret)
.skip))
(.seq
(.plain (
⟨(some 12), .mv (.tmp 3), none⟩ ::
⟨(some 13), .iaS 1 (.tmp 12) (.const (.int .i64 0)), none⟩ ::
⟨(some 14), .load false 1 (.tmp 13), none⟩ ::
⟨(some 2), .mv (.tmp 14), none⟩ ::
[]))
.ret))))
theorem prep117 : prepFunc Tryz.prog 0 117 = some F117 := by kernel_rfl

-- (*indenture/codec.Reader).Row
def F118 : AFunc where
  ntmps := 37
  nparams := 2
  results := [(4, none)]
  code :=
(.seq
(.plain (
⟨(some 4), .mv (.const (.slice none 0 0)), none⟩ ::
[]))
(.seq
(.plain (
⟨(some 8), .mv (.tmp 0), none⟩ ::
⟨(some 9), .callF 117 [(.tmp 8)], none⟩ ::
⟨(some 10), .cvt .i64 (.tmp 9), none⟩ ::
⟨(some 5), .mv (.tmp 10), none⟩ ::
[]))
(.seq
(.seq
(.plain (
⟨(some 11), .mv (.tmp 5), none⟩ ::
⟨(some 12), .mv (.tmp 1), none⟩ ::
⟨(some 13), .bin .gtr (.tmp 11) (.tmp 12), none⟩ ::
[]))
(.cond (.tmp 13)
(.plain (
⟨(some 14), .mv (.tmp 0), none⟩ ::
⟨(some 15), .callF 91 [(.tmp 14), (.const (.int .i64 10))], none⟩ ::
[]))
.skip))
(.seq
(.plain (
⟨(some 6), .mv (.const (.slice none 0 0)), none⟩ ::
[]))
(.seq
(.seq
(.plain (
⟨(some 16), .mv (.tmp 5), none⟩ ::
⟨(some 17), .mv (.const (.int .i64 0)), none⟩ ::
[]))
(.block 0
(.loop
(.seq
(.plain (
⟨(some 18), .bin .lss (.tmp 17) (.tmp 16), none⟩ ::
[]))
(.seq
(.cond (.tmp 18)
.skip
(.exit 0))
(.seq
(.block 1
(.seq
(.plain (
⟨(some 19), .mv (.tmp 0), none⟩ ::
⟨(some 20), .callF 93 [(.tmp 19)], none⟩ ::
⟨(some 7), .mv (.tmp 20), none⟩ ::
[]))
(.seq
(.plain (
⟨(some 21), .mv (.tmp 0), none⟩ ::
⟨(some 22), .nilc (.tmp 21), none⟩ ::
⟨(some 23), .fa 1 (.tmp 22), none⟩ ::
⟨(some 24), .load false 1 (.tmp 23), none⟩ ::
⟨(some 25), .bin .eql (.tmp 24) (.const (.int .i64 0)), none⟩ ::
[]))
(.cond (.tmp 25)
(.plain (
⟨(some 26), .mv (.tmp 6), none⟩ ::
⟨(some 27), .mv (.tmp 7), none⟩ ::
⟨(some 28), .bsl 1 [(.tmp 27)], none⟩ ::
⟨(some 29), .app 1 8 (.tmp 26) (.tmp 28), none⟩ ::
⟨(some 6), .mv (.tmp 29), none⟩ ::
[]))
.skip))))
(.plain (
⟨(some 30), .bin .add (.tmp 17) (.const (.int .i64 1)), none⟩ ::
⟨(some 17), .mv (.tmp 30), none⟩ ::
[]))))))))
(.seq
(.seq
(.plain (
⟨(some 31), .mv (.tmp 0), none⟩ ::
⟨(some 32), .nilc (.tmp 31), none⟩ ::
⟨(some 33), .fa 1 (.tmp 32), none⟩ ::
⟨(some 34), .load false 1 (.tmp 33), none⟩ ::
⟨(some 35), .bin .neq (.tmp 34) (.const (.int .i64 0)), none⟩ ::
[]))
(.cond (.tmp 35)
(.seq
(.plain (
⟨(some 4), .mv (.const (.slice none 0 0)), none⟩ ::
[]))
.ret)
.skip))
(.seq
(.plain (
⟨(some 36), .mv (.tmp 6), none⟩ ::
⟨(some 4), .mv (.tmp 36), none⟩ ::
[]))
.ret)))))))
theorem prep118 : prepFunc Tryz.prog 0 118 = some F118 := by kernel_rfl

-- indenture/catalog.right
def F119 : AFunc where
  ntmps := 63
  nparams := 1
  results := [(2, none)]
  code :=
(.seq
(.plain (
⟨(some 1), .box 164 (.tmp 0), none⟩ ::
⟨(some 2), .mv (.const (.bool false)), none⟩ ::
[]))
(.seq
(.plain (
⟨(some 4), .load true 76 (.tmp 1), none⟩ ::
⟨(some 5), .callF 131 [(.tmp 4)], none⟩ ::
⟨(some 3), .mv (.tmp 5), none⟩ ::
[]))
(.seq
(.block 0
(.seq
(.plain (
⟨(some 7), .fa 0 (.tmp 1), none⟩ ::
⟨(some 8), .load false 1 (.tmp 7), none⟩ ::
⟨(some 9), .fa 1 (.tmp 1), none⟩ ::
⟨(some 10), .load false 1 (.tmp 9), none⟩ ::
⟨(some 11), .bld [(.v (.int .u8 0)), (.v (.string ⟨#[]⟩)), (.sl [] .nil), (.sl [] .nil)] [(0, 1, (.const (.int .u8 1))), (1, 1, (.tmp 8)), (2, 1, (.tmp 10))], none⟩ ::
⟨(some 12), .callF 85 [(.tmp 11)], none⟩ ::
⟨(some 13), .un .not (.tmp 12), none⟩ ::
⟨(some 6), .mv (.tmp 13), none⟩ ::
[]))
(.cond (.tmp 6)
(.seq
(.plain (
⟨(some 2), .mv (.const (.bool false)), none⟩ ::
[]))
.ret)
(.seq
(.plain (
⟨(some 15), .fa 2 (.tmp 1), none⟩ ::
⟨(some 16), .load true 37 (.tmp 15), none⟩ ::
⟨(some 17), .mv (.tmp 3), none⟩ ::
⟨(some 18), .callF 132 [(.tmp 16), (.tmp 17)], none⟩ ::
⟨(some 19), .un .not (.tmp 18), none⟩ ::
⟨(some 20), .mv (.tmp 19), none⟩ ::
⟨(some 21), .fa 39 (.tmp 1), (some (20, false))⟩ ::
⟨(some 22), .load true 37 (.tmp 21), (some (20, false))⟩ ::
⟨(some 23), .mv (.tmp 3), (some (20, false))⟩ ::
⟨(some 24), .callF 132 [(.tmp 22), (.tmp 23)], (some (20, false))⟩ ::
⟨(some 25), .un .not (.tmp 24), (some (20, false))⟩ ::
⟨(some 26), .pick (.tmp 20) (.const (.bool true)) (.tmp 25), none⟩ ::
⟨(some 27), .mv (.tmp 26), none⟩ ::
⟨(some 28), .fa 2 (.tmp 1), (some (27, false))⟩ ::
⟨(some 29), .fa 34 (.tmp 28), (some (27, false))⟩ ::
⟨(some 30), .load false 1 (.tmp 29), (some (27, false))⟩ ::
⟨(some 31), .fa 39 (.tmp 1), (some (27, false))⟩ ::
⟨(some 32), .fa 34 (.tmp 31), (some (27, false))⟩ ::
⟨(some 33), .load false 1 (.tmp 32), (some (27, false))⟩ ::
⟨(some 34), .bin .neq (.tmp 30) (.tmp 33), (some (27, false))⟩ ::
⟨(some 35), .pick (.tmp 27) (.const (.bool true)) (.tmp 34), none⟩ ::
⟨(some 36), .mv (.tmp 35), none⟩ ::
⟨(some 37), .fa 2 (.tmp 1), (some (36, false))⟩ ::
⟨(some 38), .fa 36 (.tmp 37), (some (36, false))⟩ ::
⟨(some 39), .load false 1 (.tmp 38), (some (36, false))⟩ ::
⟨(some 40), .len (.tmp 39), (some (36, false))⟩ ::
⟨(some 41), .bin .gtr (.tmp 40) (.const (.int .i64 0)), (some (36, false))⟩ ::
⟨(some 42), .pick (.tmp 36) (.const (.bool true)) (.tmp 41), none⟩ ::
⟨(some 14), .mv (.tmp 42), none⟩ ::
[]))
(.cond (.tmp 14)
(.seq
(.plain (
⟨(some 2), .mv (.const (.bool false)), none⟩ ::
[]))
.ret)
.skip)))))
(.seq
(.plain (
⟨(some 43), .fa 39 (.tmp 1), none⟩ ::
⟨(some 44), .load true 37 (.tmp 43), none⟩ ::
⟨(some 45), .callF 133 [(.tmp 44)], none⟩ ::
⟨(some 46), .mv (.tmp 45), none⟩ ::
⟨(some 47), .fa 39 (.tmp 1), (some (46, false))⟩ ::
⟨(some 48), .fa 36 (.tmp 47), (some (46, false))⟩ ::
⟨(some 49), .load false 1 (.tmp 48), (some (46, false))⟩ ::
⟨(some 50), .len (.tmp 49), (some (46, false))⟩ ::
⟨(some 51), .mv (.tmp 3), (some (46, false))⟩ ::
⟨(some 52), .bin .eql (.tmp 50) (.tmp 51), (some (46, false))⟩ ::
⟨(some 53), .mv (.tmp 52), (some (46, false))⟩ ::
⟨(some 54), .fa 39 (.tmp 1), (some (53, true))⟩ ::
⟨(some 55), .fa 35 (.tmp 54), (some (53, true))⟩ ::
⟨(some 56), .load false 1 (.tmp 55), (some (53, true))⟩ ::
⟨(some 57), .fa 39 (.tmp 1), (some (53, true))⟩ ::
⟨(some 58), .fa 34 (.tmp 57), (some (53, true))⟩ ::
⟨(some 59), .load false 1 (.tmp 58), (some (53, true))⟩ ::
⟨(some 60), .bin .eql (.tmp 56) (.tmp 59), (some (53, true))⟩ ::
⟨(some 61), .pick (.tmp 53) (.tmp 60) (.const (.bool false)), (some (46, false))⟩ ::
⟨(some 62), .pick (.tmp 46) (.const (.bool true)) (.tmp 61), none⟩ ::
⟨(some 2), .mv (.tmp 62), none⟩ ::
[]))
.ret))))
theorem prep119 : prepFunc Tryz.prog 0 119 = some F119 := by kernel_rfl

-- slices.insertionSortCmpFunc[indenture/api.Digest]
def F120 : AFunc where
  ntmps := 53
  nparams := 4
  results := []
  code :=
(.seq
(.plain (
⟨(some 10), .mv (.tmp 1), none⟩ ::
⟨(some 11), .bin .add (.tmp 10) (.const (.int .i64 1)), none⟩ ::
⟨(some 8), .mv (.tmp 11), none⟩ ::
[]))
(.block 0
(.loop
(.seq
(.seq
(.plain (
⟨(some 12), .mv (.tmp 8), none⟩ ::
⟨(some 13), .mv (.tmp 2), none⟩ ::
⟨(some 14), .bin .lss (.tmp 12) (.tmp 13), none⟩ ::
[]))
(.cond (.tmp 14)
.skip
(.exit 0)))
(.seq
(.block 1
(.seq
(.plain (
⟨(some 17), .mv (.tmp 8), none⟩ ::
⟨(some 9), .mv (.tmp 17), none⟩ ::
[]))
(.block 2
(.loop
(.seq
(.seq
(.draw (
⟨(some 18), .mv (.tmp 9), none⟩ ::
⟨(some 19), .mv (.tmp 1), none⟩ ::
⟨(some 20), .bin .gtr (.tmp 18) (.tmp 19), none⟩ ::
⟨(some 21), .mv (.tmp 20), none⟩ ::
⟨(some 22), .mv (.tmp 3), (some (21, true))⟩ ::
⟨(some 23), .mv (.tmp 0), (some (21, true))⟩ ::
⟨(some 24), .mv (.tmp 9), (some (21, true))⟩ ::
⟨(some 25), .iaS 32 (.tmp 23) (.tmp 24), (some (21, true))⟩ ::
⟨(some 26), .load true 32 (.tmp 25), (some (21, true))⟩ ::
⟨(some 27), .mv (.tmp 0), (some (21, true))⟩ ::
⟨(some 28), .mv (.tmp 9), (some (21, true))⟩ ::
⟨(some 29), .bin .sub (.tmp 28) (.const (.int .i64 1)), (some (21, true))⟩ ::
⟨(some 30), .iaS 32 (.tmp 27) (.tmp 29), (some (21, true))⟩ ::
⟨(some 31), .load true 32 (.tmp 30), (some (21, true))⟩ ::
⟨(some 32), .callV (.tmp 22) [(.tmp 26), (.tmp 31)], (some (21, true))⟩ ::
⟨(some 33), .bin .lss (.tmp 32) (.const (.int .i64 0)), (some (21, true))⟩ ::
⟨(some 34), .pick (.tmp 21) (.tmp 33) (.const (.bool false)), none⟩ ::
[])
(⟨0, [], []⟩ :: ⟨1, [], []⟩ :: ⟨2, [], []⟩ :: ⟨3, [], []⟩ :: ⟨4, [], []⟩ :: ⟨5, [], []⟩ :: ⟨6, [], []⟩ :: ⟨7, [], []⟩ :: ⟨8, [], []⟩ :: ⟨9, [], []⟩ :: ⟨10, [], []⟩ :: ⟨11, [], []⟩ :: ⟨12, [], []⟩ :: ⟨13, [], []⟩ :: ⟨14, [], []⟩ :: ⟨15, [], []⟩ :: ⟨16, [], []⟩ :: []))
(.cond (.tmp 34)
.skip
(.exit 2)))
(.seq
(.block 3
(.draw (
⟨(some 37), .mv (.tmp 0), none⟩ ::
⟨(some 38), .mv (.tmp 9), none⟩ ::
⟨(some 39), .mv (.tmp 0), none⟩ ::
⟨(some 40), .mv (.tmp 9), none⟩ ::
⟨(some 41), .bin .sub (.tmp 40) (.const (.int .i64 1)), none⟩ ::
⟨(some 42), .mv (.tmp 0), none⟩ ::
⟨(some 43), .mv (.tmp 9), none⟩ ::
⟨(some 44), .bin .sub (.tmp 43) (.const (.int .i64 1)), none⟩ ::
⟨(some 45), .iaS 32 (.tmp 42) (.tmp 44), none⟩ ::
⟨(some 46), .load true 32 (.tmp 45), none⟩ ::
⟨(some 47), .mv (.tmp 0), none⟩ ::
⟨(some 48), .mv (.tmp 9), none⟩ ::
⟨(some 49), .iaS 32 (.tmp 47) (.tmp 48), none⟩ ::
⟨(some 50), .load true 32 (.tmp 49), none⟩ ::
⟨(some 51), .iaS 32 (.tmp 37) (.tmp 38), none⟩ ::
⟨none, .store 32 (.tmp 51) (.tmp 46), none⟩ ::
⟨(some 52), .iaS 32 (.tmp 39) (.tmp 41), none⟩ ::
⟨none, .store 32 (.tmp 52) (.tmp 50), none⟩ ::
[])
(⟨0, [], []⟩ :: ⟨1, [], []⟩ :: ⟨2, [], []⟩ :: ⟨3, [], []⟩ :: ⟨4, [], []⟩ :: ⟨5, [], []⟩ :: ⟨6, [], []⟩ :: ⟨7, [], []⟩ :: ⟨8, [], []⟩ :: ⟨9, [], []⟩ :: ⟨10, [], []⟩ :: ⟨11, [], []⟩ :: ⟨12, [], []⟩ :: ⟨13, [], []⟩ :: ⟨14, [], []⟩ :: ⟨15, [], []⟩ :: ⟨16, [], []⟩ :: ⟨17, [], []⟩ :: [])))
(.plain (
⟨(some 35), .mv (.tmp 9), none⟩ ::
⟨(some 36), .bin .sub (.tmp 35) (.const (.int .i64 1)), none⟩ ::
⟨(some 9), .mv (.tmp 36), none⟩ ::
[]))))))))
(.plain (
⟨(some 15), .mv (.tmp 8), none⟩ ::
⟨(some 16), .bin .add (.tmp 15) (.const (.int .i64 1)), none⟩ ::
⟨(some 8), .mv (.tmp 16), none⟩ ::
[])))))))
theorem prep120 : prepFunc Tryz.prog 0 120 = some F120 := by kernel_rfl

-- slices.heapSortCmpFunc[indenture/api.Digest]
def F121 : AFunc where
  ntmps := 60
  nparams := 4
  results := []
  code :=
(.seq
(.plain (
⟨(some 13), .mv (.tmp 1), none⟩ ::
⟨(some 8), .mv (.tmp 13), none⟩ ::
[]))
(.seq
(.plain (
⟨(some 9), .mv (.const (.int .i64 0)), none⟩ ::
[]))
(.seq
(.plain (
⟨(some 14), .mv (.tmp 2), none⟩ ::
⟨(some 15), .mv (.tmp 1), none⟩ ::
⟨(some 16), .bin .sub (.tmp 14) (.tmp 15), none⟩ ::
⟨(some 10), .mv (.tmp 16), none⟩ ::
[]))
(.seq
(.seq
(.plain (
⟨(some 17), .mv (.tmp 10), none⟩ ::
⟨(some 18), .bin .sub (.tmp 17) (.const (.int .i64 1)), none⟩ ::
⟨(some 19), .bin .quo (.tmp 18) (.const (.int .i64 2)), none⟩ ::
⟨(some 11), .mv (.tmp 19), none⟩ ::
[]))
(.block 0
(.loop
(.seq
(.seq
(.plain (
⟨(some 20), .mv (.tmp 11), none⟩ ::
⟨(some 21), .bin .geq (.tmp 20) (.const (.int .i64 0)), none⟩ ::
[]))
(.cond (.tmp 21)
.skip
(.exit 0)))
(.seq
(.block 1
(.plain (
⟨(some 24), .mv (.tmp 0), none⟩ ::
⟨(some 25), .mv (.tmp 11), none⟩ ::
⟨(some 26), .mv (.tmp 10), none⟩ ::
⟨(some 27), .mv (.tmp 8), none⟩ ::
⟨(some 28), .mv (.tmp 3), none⟩ ::
⟨(some 29), .callF 134 [(.tmp 24), (.tmp 25), (.tmp 26), (.tmp 27), (.tmp 28)], none⟩ ::
[])))
(.plain (
⟨(some 22), .mv (.tmp 11), none⟩ ::
⟨(some 23), .bin .sub (.tmp 22) (.const (.int .i64 1)), none⟩ ::
⟨(some 11), .mv (.tmp 23), none⟩ ::
[])))))))
(.seq
(.plain (
⟨(some 30), .mv (.tmp 10), none⟩ ::
⟨(some 31), .bin .sub (.tmp 30) (.const (.int .i64 1)), none⟩ ::
⟨(some 12), .mv (.tmp 31), none⟩ ::
[]))
(.block 2
(.loop
(.seq
(.seq
(.plain (
⟨(some 32), .mv (.tmp 12), none⟩ ::
⟨(some 33), .bin .geq (.tmp 32) (.const (.int .i64 0)), none⟩ ::
[]))
(.cond (.tmp 33)
.skip
(.exit 2)))
(.seq
(.block 3
(.seq
(.draw (
⟨(some 36), .mv (.tmp 0), none⟩ ::
⟨(some 37), .mv (.tmp 8), none⟩ ::
⟨(some 38), .mv (.tmp 0), none⟩ ::
⟨(some 39), .mv (.tmp 8), none⟩ ::
⟨(some 40), .mv (.tmp 12), none⟩ ::
⟨(some 41), .bin .add (.tmp 39) (.tmp 40), none⟩ ::
⟨(some 42), .mv (.tmp 0), none⟩ ::
⟨(some 43), .mv (.tmp 8), none⟩ ::
⟨(some 44), .mv (.tmp 12), none⟩ ::
⟨(some 45), .bin .add (.tmp 43) (.tmp 44), none⟩ ::
⟨(some 46), .iaS 32 (.tmp 42) (.tmp 45), none⟩ ::
⟨(some 47), .load true 32 (.tmp 46), none⟩ ::
⟨(some 48), .mv (.tmp 0), none⟩ ::
⟨(some 49), .mv (.tmp 8), none⟩ ::
⟨(some 50), .iaS 32 (.tmp 48) (.tmp 49), none⟩ ::
⟨(some 51), .load true 32 (.tmp 50), none⟩ ::
⟨(some 52), .iaS 32 (.tmp 36) (.tmp 37), none⟩ ::
⟨none, .store 32 (.tmp 52) (.tmp 47), none⟩ ::
⟨(some 53), .iaS 32 (.tmp 38) (.tmp 41), none⟩ ::
⟨none, .store 32 (.tmp 53) (.tmp 51), none⟩ ::
[])
(⟨0, [], []⟩ :: ⟨1, [], []⟩ :: ⟨2, [], []⟩ :: ⟨3, [], []⟩ :: ⟨4, [], []⟩ :: ⟨5, [], []⟩ :: ⟨6, [], []⟩ :: ⟨7, [], []⟩ :: ⟨8, [], []⟩ :: ⟨9, [], []⟩ :: ⟨10, [], []⟩ :: ⟨11, [], []⟩ :: ⟨12, [], []⟩ :: ⟨13, [], []⟩ :: ⟨14, [], []⟩ :: ⟨15, [], []⟩ :: ⟨16, [], []⟩ :: ⟨17, [], []⟩ :: ⟨18, [], []⟩ :: ⟨19, [], []⟩ :: []))
(.plain (
⟨(some 54), .mv (.tmp 0), none⟩ ::
⟨(some 55), .mv (.tmp 9), none⟩ ::
⟨(some 56), .mv (.tmp 12), none⟩ ::
⟨(some 57), .mv (.tmp 8), none⟩ ::
⟨(some 58), .mv (.tmp 3), none⟩ ::
⟨(some 59), .callF 134 [(.tmp 54), (.tmp 55), (.tmp 56), (.tmp 57), (.tmp 58)], none⟩ ::
[]))))
(.plain (
⟨(some 34), .mv (.tmp 12), none⟩ ::
⟨(some 35), .bin .sub (.tmp 34) (.const (.int .i64 1)), none⟩ ::
⟨(some 12), .mv (.tmp 35), none⟩ ::
[])))))))))))
theorem prep121 : prepFunc Tryz.prog 0 121 = some F121 := by kernel_rfl

-- slices.breakPatternsCmpFunc[indenture/api.Digest]
def F122 : AFunc where
  ntmps := 67
  nparams := 4
  results := []
  code :=
(.seq
(.plain (
⟨(some 13), .mv (.tmp 2), none⟩ ::
⟨(some 14), .mv (.tmp 1), none⟩ ::
⟨(some 15), .bin .sub (.tmp 13) (.tmp 14), none⟩ ::
⟨(some 8), .mv (.tmp 15), none⟩ ::
[]))
(.seq
(.plain (
⟨(some 16), .mv (.tmp 8), none⟩ ::
⟨(some 17), .bin .geq (.tmp 16) (.const (.int .i64 8)), none⟩ ::
[]))
(.cond (.tmp 17)
(.seq
(.plain (
⟨(some 18), .mv (.tmp 8), none⟩ ::
⟨(some 19), .cvt .u64 (.tmp 18), none⟩ ::
⟨(some 9), .alloc 200 [(.v (.int .u64 0))], none⟩ ::
⟨none, .store 1 (.tmp 9) (.tmp 19), none⟩ ::
[]))
(.seq
(.plain (
⟨(some 20), .mv (.tmp 8), none⟩ ::
⟨(some 21), .callF 135 [(.tmp 20)], none⟩ ::
⟨(some 10), .mv (.tmp 21), none⟩ ::
[]))
(.seq
(.plain (
⟨(some 22), .mv (.tmp 1), none⟩ ::
⟨(some 23), .mv (.tmp 8), none⟩ ::
⟨(some 24), .bin .quo (.tmp 23) (.const (.int .i64 4)), none⟩ ::
⟨(some 25), .bin .mul (.tmp 24) (.const (.int .i64 2)), none⟩ ::
⟨(some 26), .bin .add (.tmp 22) (.tmp 25), none⟩ ::
⟨(some 27), .bin .sub (.tmp 26) (.const (.int .i64 1)), none⟩ ::
⟨(some 11), .mv (.tmp 27), none⟩ ::
[]))
(.block 0
(.loop
(.seq
(.seq
(.plain (
⟨(some 28), .mv (.tmp 11), none⟩ ::
⟨(some 29), .mv (.tmp 1), none⟩ ::
⟨(some 30), .mv (.tmp 8), none⟩ ::
⟨(some 31), .bin .quo (.tmp 30) (.const (.int .i64 4)), none⟩ ::
⟨(some 32), .bin .mul (.tmp 31) (.const (.int .i64 2)), none⟩ ::
⟨(some 33), .bin .add (.tmp 29) (.tmp 32), none⟩ ::
⟨(some 34), .bin .add (.tmp 33) (.const (.int .i64 1)), none⟩ ::
⟨(some 35), .bin .leq (.tmp 28) (.tmp 34), none⟩ ::
[]))
(.cond (.tmp 35)
.skip
(.exit 0)))
(.seq
(.block 1
(.seq
(.plain (
⟨(some 38), .callF 136 [(.tmp 9)], none⟩ ::
⟨(some 39), .mv (.tmp 10), none⟩ ::
⟨(some 40), .bin .sub (.tmp 39) (.const (.int .u64 1)), none⟩ ::
⟨(some 41), .bin .and (.tmp 38) (.tmp 40), none⟩ ::
⟨(some 42), .cvt .i64 (.tmp 41), none⟩ ::
⟨(some 12), .mv (.tmp 42), none⟩ ::
[]))
(.seq
(.seq
(.plain (
⟨(some 43), .mv (.tmp 12), none⟩ ::
⟨(some 44), .mv (.tmp 8), none⟩ ::
⟨(some 45), .bin .geq (.tmp 43) (.tmp 44), none⟩ ::
[]))
(.cond (.tmp 45)
(.plain (
⟨(some 46), .mv (.tmp 12), none⟩ ::
⟨(some 47), .mv (.tmp 8), none⟩ ::
⟨(some 48), .bin .sub (.tmp 46) (.tmp 47), none⟩ ::
⟨(some 12), .mv (.tmp 48), none⟩ ::
[]))
.skip))
(.draw (
⟨(some 49), .mv (.tmp 0), none⟩ ::
⟨(some 50), .mv (.tmp 11), none⟩ ::
⟨(some 51), .mv (.tmp 0), none⟩ ::
⟨(some 52), .mv (.tmp 1), none⟩ ::
⟨(some 53), .mv (.tmp 12), none⟩ ::
⟨(some 54), .bin .add (.tmp 52) (.tmp 53), none⟩ ::
⟨(some 55), .mv (.tmp 0), none⟩ ::
⟨(some 56), .mv (.tmp 1), none⟩ ::
⟨(some 57), .mv (.tmp 12), none⟩ ::
⟨(some 58), .bin .add (.tmp 56) (.tmp 57), none⟩ ::
⟨(some 59), .iaS 32 (.tmp 55) (.tmp 58), none⟩ ::
⟨(some 60), .load true 32 (.tmp 59), none⟩ ::
⟨(some 61), .mv (.tmp 0), none⟩ ::
⟨(some 62), .mv (.tmp 11), none⟩ ::
⟨(some 63), .iaS 32 (.tmp 61) (.tmp 62), none⟩ ::
⟨(some 64), .load true 32 (.tmp 63), none⟩ ::
⟨(some 65), .iaS 32 (.tmp 49) (.tmp 50), none⟩ ::
⟨none, .store 32 (.tmp 65) (.tmp 60), none⟩ ::
⟨(some 66), .iaS 32 (.tmp 51) (.tmp 54), none⟩ ::
⟨none, .store 32 (.tmp 66) (.tmp 64), none⟩ ::
[])
(⟨0, [], []⟩ :: ⟨1, [], []⟩ :: ⟨2, [], []⟩ :: ⟨3, [], []⟩ :: ⟨4, [], []⟩ :: ⟨5, [], []⟩ :: ⟨6, [], []⟩ :: ⟨7, [], []⟩ :: ⟨8, [], []⟩ :: ⟨9, [], []⟩ :: ⟨10, [], []⟩ :: ⟨11, [], []⟩ :: ⟨12, [], []⟩ :: ⟨13, [], []⟩ :: ⟨14, [], []⟩ :: ⟨15, [], []⟩ :: ⟨16, [], []⟩ :: ⟨17, [], []⟩ :: ⟨18, [], []⟩ :: ⟨19, [], []⟩ :: [])))))
(.plain (
⟨(some 36), .mv (.tmp 11), none⟩ ::
⟨(some 37), .bin .add (.tmp 36) (.const (.int .i64 1)), none⟩ ::
⟨(some 11), .mv (.tmp 37), none⟩ ::
[])))))))))
.skip)))
theorem prep122 : prepFunc Tryz.prog 0 122 = some F122 := by kernel_rfl

-- slices.choosePivotCmpFunc[indenture/api.Digest]
def F123 : AFunc where
  ntmps := 63
  nparams := 4
  results := [(8, none), (9, none)]
  code :=
(.seq
(.plain (
⟨(some 8), .mv (.const (.int .i64 0)), none⟩ ::
⟨(some 9), .mv (.const (.int .i64 0)), none⟩ ::
[]))
(.seq
(.plain (
⟨(some 15), .mv (.tmp 2), none⟩ ::
⟨(some 16), .mv (.tmp 1), none⟩ ::
⟨(some 17), .bin .sub (.tmp 15) (.tmp 16), none⟩ ::
⟨(some 10), .mv (.tmp 17), none⟩ ::
[]))
(.seq
(.plain (
⟨(some 11), .alloc 3 [(.v (.int .i64 0))], none⟩ ::
[]))
(.seq
(.plain (
⟨(some 18), .mv (.tmp 1), none⟩ ::
⟨(some 19), .mv (.tmp 10), none⟩ ::
⟨(some 20), .bin .quo (.tmp 19) (.const (.int .i64 4)), none⟩ ::
⟨(some 21), .bin .mul (.tmp 20) (.const (.int .i64 1)), none⟩ ::
⟨(some 22), .bin .add (.tmp 18) (.tmp 21), none⟩ ::
⟨(some 12), .mv (.tmp 22), none⟩ ::
[]))
(.seq
(.plain (
⟨(some 23), .mv (.tmp 1), none⟩ ::
⟨(some 24), .mv (.tmp 10), none⟩ ::
⟨(some 25), .bin .quo (.tmp 24) (.const (.int .i64 4)), none⟩ ::
⟨(some 26), .bin .mul (.tmp 25) (.const (.int .i64 2)), none⟩ ::
⟨(some 27), .bin .add (.tmp 23) (.tmp 26), none⟩ ::
⟨(some 13), .mv (.tmp 27), none⟩ ::
[]))
(.seq
(.plain (
⟨(some 28), .mv (.tmp 1), none⟩ ::
⟨(some 29), .mv (.tmp 10), none⟩ ::
⟨(some 30), .bin .quo (.tmp 29) (.const (.int .i64 4)), none⟩ ::
⟨(some 31), .bin .mul (.tmp 30) (.const (.int .i64 3)), none⟩ ::
⟨(some 32), .bin .add (.tmp 28) (.tmp 31), none⟩ ::
⟨(some 14), .mv (.tmp 32), none⟩ ::
[]))
(.seq
(.seq
(.plain (
⟨(some 33), .mv (.tmp 10), none⟩ ::
⟨(some 34), .bin .geq (.tmp 33) (.const (.int .i64 8)), none⟩ ::
[]))
(.cond (.tmp 34)
(.seq
(.seq
(.plain (
⟨(some 35), .mv (.tmp 10), none⟩ ::
⟨(some 36), .bin .geq (.tmp 35) (.const (.int .i64 50)), none⟩ ::
[]))
(.cond (.tmp 36)
(.seq
(.plain (
⟨(some 37), .mv (.tmp 0), none⟩ ::
⟨(some 38), .mv (.tmp 12), none⟩ ::
⟨(some 39), .mv (.tmp 3), none⟩ ::
⟨(some 40), .callF 137 [(.tmp 37), (.tmp 38), (.tmp 11), (.tmp 39)], none⟩ ::
⟨(some 12), .mv (.tmp 40), none⟩ ::
[]))
(.seq
(.plain (
⟨(some 41), .mv (.tmp 0), none⟩ ::
⟨(some 42), .mv (.tmp 13), none⟩ ::
⟨(some 43), .mv (.tmp 3), none⟩ ::
⟨(some 44), .callF 137 [(.tmp 41), (.tmp 42), (.tmp 11), (.tmp 43)], none⟩ ::
⟨(some 13), .mv (.tmp 44), none⟩ ::
[]))
(.plain (
⟨(some 45), .mv (.tmp 0), none⟩ ::
⟨(some 46), .mv (.tmp 14), none⟩ ::
⟨(some 47), .mv (.tmp 3), none⟩ ::
⟨(some 48), .callF 137 [(.tmp 45), (.tmp 46), (.tmp 11), (.tmp 47)], none⟩ ::
⟨(some 14), .mv (.tmp 48), none⟩ ::
[]))))
.skip))
(.plain (
⟨(some 49), .mv (.tmp 0), none⟩ ::
⟨(some 50), .mv (.tmp 12), none⟩ ::
⟨(some 51), .mv (.tmp 13), none⟩ ::
⟨(some 52), .mv (.tmp 14), none⟩ ::
⟨(some 53), .mv (.tmp 3), none⟩ ::
⟨(some 54), .callF 138 [(.tmp 49), (.tmp 50), (.tmp 51), (.tmp 52), (.tmp 11), (.tmp 53)], none⟩ ::
⟨(some 13), .mv (.tmp 54), none⟩ ::
[])))
.skip))
(.seq
(.plain (
⟨(some 55), .load false 1 (.tmp 11), none⟩ ::
[]))
(.block 0
(.seq
(.plain (
⟨(some 58), .bin .eql (.tmp 55) (.const (.int .i64 0)), none⟩ ::
⟨(some 57), .mv (.tmp 58), none⟩ ::
[]))
(.cond (.tmp 57)
(.seq
(.plain (
⟨(some 59), .mv (.tmp 13), none⟩ ::
⟨(some 8), .mv (.tmp 59), none⟩ ::
⟨(some 9), .mv (.const (.int .i64 1)), none⟩ ::
[]))
.ret)
(.seq
(.plain (
⟨(some 61), .bin .eql (.tmp 55) (.const (.int .i64 12)), none⟩ ::
⟨(some 60), .mv (.tmp 61), none⟩ ::
[]))
(.cond (.tmp 60)
(.seq
(.plain (
⟨(some 62), .mv (.tmp 13), none⟩ ::
⟨(some 8), .mv (.tmp 62), none⟩ ::
⟨(some 9), .mv (.const (.int .i64 2)), none⟩ ::
[]))
.ret)
(.seq
(.plain (
⟨(some 56), .mv (.tmp 13), none⟩ ::
⟨(some 8), .mv (.tmp 56), none⟩ ::
⟨(some 9), .mv (.const (.int .i64 0)), none⟩ ::
[]))
.ret))))))))))))))
theorem prep123 : prepFunc Tryz.prog 0 123 = some F123 := by kernel_rfl

-- slices.reverseRangeCmpFunc[indenture/api.Digest]
def F124 : AFunc where
  ntmps := 34
  nparams := 4
  results := []
  code :=
(.seq
(.plain (
⟨(some 10), .mv (.tmp 1), none⟩ ::
⟨(some 8), .mv (.tmp 10), none⟩ ::
[]))
(.seq
(.plain (
⟨(some 11), .mv (.tmp 2), none⟩ ::
⟨(some 12), .bin .sub (.tmp 11) (.const (.int .i64 1)), none⟩ ::
⟨(some 9), .mv (.tmp 12), none⟩ ::
[]))
(.block 0
(.loop
(.seq
(.seq
(.plain (
⟨(some 13), .mv (.tmp 8), none⟩ ::
⟨(some 14), .mv (.tmp 9), none⟩ ::
⟨(some 15), .bin .lss (.tmp 13) (.tmp 14), none⟩ ::
[]))
(.cond (.tmp 15)
.skip
(.exit 0)))
(.block 1
(.seq
(.draw (
⟨(some 16), .mv (.tmp 0), none⟩ ::
⟨(some 17), .mv (.tmp 8), none⟩ ::
⟨(some 18), .mv (.tmp 0), none⟩ ::
⟨(some 19), .mv (.tmp 9), none⟩ ::
⟨(some 20), .mv (.tmp 0), none⟩ ::
⟨(some 21), .mv (.tmp 9), none⟩ ::
⟨(some 22), .iaS 32 (.tmp 20) (.tmp 21), none⟩ ::
⟨(some 23), .load true 32 (.tmp 22), none⟩ ::
⟨(some 24), .mv (.tmp 0), none⟩ ::
⟨(some 25), .mv (.tmp 8), none⟩ ::
⟨(some 26), .iaS 32 (.tmp 24) (.tmp 25), none⟩ ::
⟨(some 27), .load true 32 (.tmp 26), none⟩ ::
⟨(some 28), .iaS 32 (.tmp 16) (.tmp 17), none⟩ ::
⟨none, .store 32 (.tmp 28) (.tmp 23), none⟩ ::
⟨(some 29), .iaS 32 (.tmp 18) (.tmp 19), none⟩ ::
⟨none, .store 32 (.tmp 29) (.tmp 27), none⟩ ::
[])
(⟨0, [], []⟩ :: ⟨1, [], []⟩ :: ⟨2, [], []⟩ :: ⟨3, [], []⟩ :: ⟨4, [], []⟩ :: ⟨5, [], []⟩ :: ⟨6, [], []⟩ :: ⟨7, [], []⟩ :: ⟨8, [], []⟩ :: ⟨9, [], []⟩ :: ⟨10, [], []⟩ :: ⟨11, [], []⟩ :: ⟨12, [], []⟩ :: ⟨13, [], []⟩ :: ⟨14, [], []⟩ :: ⟨15, [], []⟩ :: []))
(.seq
(.plain (
⟨(some 30), .mv (.tmp 8), none⟩ ::
⟨(some 31), .bin .add (.tmp 30) (.const (.int .i64 1)), none⟩ ::
⟨(some 8), .mv (.tmp 31), none⟩ ::
[]))
(.plain (
⟨(some 32), .mv (.tmp 9), none⟩ ::
⟨(some 33), .bin .sub (.tmp 32) (.const (.int .i64 1)), none⟩ ::
⟨(some 9), .mv (.tmp 33), none⟩ ::
[]))))))))))
theorem prep124 : prepFunc Tryz.prog 0 124 = some F124 := by kernel_rfl

-- slices.partialInsertionSortCmpFunc[indenture/api.Digest]
def F125 : AFunc where
  ntmps := 141
  nparams := 4
  results := [(8, none)]
  code :=
(.seq
(.plain (
⟨(some 8), .mv (.const (.bool false)), none⟩ ::
[]))
(.seq
(.plain (
⟨(some 13), .mv (.tmp 1), none⟩ ::
⟨(some 14), .bin .add (.tmp 13) (.const (.int .i64 1)), none⟩ ::
⟨(some 9), .mv (.tmp 14), none⟩ ::
[]))
(.seq
(.seq
(.plain (
⟨(some 10), .mv (.const (.int .i64 0)), none⟩ ::
[]))
(.block 0
(.loop
(.seq
(.seq
(.plain (
⟨(some 15), .mv (.tmp 10), none⟩ ::
⟨(some 16), .bin .lss (.tmp 15) (.const (.int .i64 5)), none⟩ ::
[]))
(.cond (.tmp 16)
.skip
(.exit 0)))
(.seq
(.block 1
(.seq
(.block 2
(.loop
(.seq
(.seq
(.draw (
⟨(some 19), .mv (.tmp 9), none⟩ ::
⟨(some 20), .mv (.tmp 2), none⟩ ::
⟨(some 21), .bin .lss (.tmp 19) (.tmp 20), none⟩ ::
⟨(some 22), .mv (.tmp 21), none⟩ ::
⟨(some 23), .mv (.tmp 3), (some (22, true))⟩ ::
⟨(some 24), .mv (.tmp 0), (some (22, true))⟩ ::
⟨(some 25), .mv (.tmp 9), (some (22, true))⟩ ::
⟨(some 26), .iaS 32 (.tmp 24) (.tmp 25), (some (22, true))⟩ ::
⟨(some 27), .load true 32 (.tmp 26), (some (22, true))⟩ ::
⟨(some 28), .mv (.tmp 0), (some (22, true))⟩ ::
⟨(some 29), .mv (.tmp 9), (some (22, true))⟩ ::
⟨(some 30), .bin .sub (.tmp 29) (.const (.int .i64 1)), (some (22, true))⟩ ::
⟨(some 31), .iaS 32 (.tmp 28) (.tmp 30), (some (22, true))⟩ ::
⟨(some 32), .load true 32 (.tmp 31), (some (22, true))⟩ ::
⟨(some 33), .callV (.tmp 23) [(.tmp 27), (.tmp 32)], (some (22, true))⟩ ::
⟨(some 34), .bin .lss (.tmp 33) (.const (.int .i64 0)), (some (22, true))⟩ ::
⟨(some 35), .un .not (.tmp 34), (some (22, true))⟩ ::
⟨(some 36), .pick (.tmp 22) (.tmp 35) (.const (.bool false)), none⟩ ::
[])
(⟨0, [], []⟩ :: ⟨1, [], []⟩ :: ⟨2, [], []⟩ :: ⟨3, [], []⟩ :: ⟨4, [], []⟩ :: ⟨5, [], []⟩ :: ⟨6, [], []⟩ :: ⟨7, [], []⟩ :: ⟨8, [], []⟩ :: ⟨9, [], []⟩ :: ⟨10, [], []⟩ :: ⟨11, [], []⟩ :: ⟨12, [], []⟩ :: ⟨13, [], []⟩ :: ⟨14, [], []⟩ :: ⟨15, [], []⟩ :: ⟨16, [], []⟩ :: ⟨17, [], []⟩ :: []))
(.cond (.tmp 36)
.skip
(.exit 2)))
(.block 3
(.plain (
⟨(some 37), .mv (.tmp 9), none⟩ ::
⟨(some 38), .bin .add (.tmp 37) (.const (.int .i64 1)), none⟩ ::
⟨(some 9), .mv (.tmp 38), none⟩ ::
[]))))))
(.seq
(.seq
(.plain (
⟨(some 39), .mv (.tmp 9), none⟩ ::
⟨(some 40), .mv (.tmp 2), none⟩ ::
⟨(some 41), .bin .eql (.tmp 39) (.tmp 40), none⟩ ::
[]))
(.cond (.tmp 41)
(.seq
(.plain (
⟨(some 8), .mv (.const (.bool true)), none⟩ ::
[]))
.ret)
.skip))
(.seq
(.seq
(.plain (
⟨(some 42), .mv (.tmp 2), none⟩ ::
⟨(some 43), .mv (.tmp 1), none⟩ ::
⟨(some 44), .bin .sub (.tmp 42) (.tmp 43), none⟩ ::
⟨(some 45), .bin .lss (.tmp 44) (.const (.int .i64 50)), none⟩ ::
[]))
(.cond (.tmp 45)
(.seq
(.plain (
⟨(some 8), .mv (.const (.bool false)), none⟩ ::
[]))
.ret)
.skip))
(.seq
(.draw (
⟨(some 46), .mv (.tmp 0), none⟩ ::
⟨(some 47), .mv (.tmp 9), none⟩ ::
⟨(some 48), .mv (.tmp 0), none⟩ ::
⟨(some 49), .mv (.tmp 9), none⟩ ::
⟨(some 50), .bin .sub (.tmp 49) (.const (.int .i64 1)), none⟩ ::
⟨(some 51), .mv (.tmp 0), none⟩ ::
⟨(some 52), .mv (.tmp 9), none⟩ ::
⟨(some 53), .bin .sub (.tmp 52) (.const (.int .i64 1)), none⟩ ::
⟨(some 54), .iaS 32 (.tmp 51) (.tmp 53), none⟩ ::
⟨(some 55), .load true 32 (.tmp 54), none⟩ ::
⟨(some 56), .mv (.tmp 0), none⟩ ::
⟨(some 57), .mv (.tmp 9), none⟩ ::
⟨(some 58), .iaS 32 (.tmp 56) (.tmp 57), none⟩ ::
⟨(some 59), .load true 32 (.tmp 58), none⟩ ::
⟨(some 60), .iaS 32 (.tmp 46) (.tmp 47), none⟩ ::
⟨none, .store 32 (.tmp 60) (.tmp 55), none⟩ ::
⟨(some 61), .iaS 32 (.tmp 48) (.tmp 50), none⟩ ::
⟨none, .store 32 (.tmp 61) (.tmp 59), none⟩ ::
[])
(⟨0, [], []⟩ :: ⟨1, [], []⟩ :: ⟨2, [], []⟩ :: ⟨3, [], []⟩ :: ⟨4, [], []⟩ :: ⟨5, [], []⟩ :: ⟨6, [], []⟩ :: ⟨7, [], []⟩ :: ⟨8, [], []⟩ :: ⟨9, [], []⟩ :: ⟨10, [], []⟩ :: ⟨11, [], []⟩ :: ⟨12, [], []⟩ :: ⟨13, [], []⟩ :: ⟨14, [], []⟩ :: ⟨15, [], []⟩ :: ⟨16, [], []⟩ :: ⟨17, [], []⟩ :: []))
(.seq
(.seq
(.plain (
⟨(some 62), .mv (.tmp 9), none⟩ ::
⟨(some 63), .mv (.tmp 1), none⟩ ::
⟨(some 64), .bin .sub (.tmp 62) (.tmp 63), none⟩ ::
⟨(some 65), .bin .geq (.tmp 64) (.const (.int .i64 2)), none⟩ ::
[]))
(.cond (.tmp 65)
(.seq
(.plain (
⟨(some 66), .mv (.tmp 9), none⟩ ::
⟨(some 67), .bin .sub (.tmp 66) (.const (.int .i64 1)), none⟩ ::
⟨(some 11), .mv (.tmp 67), none⟩ ::
[]))
(.block 4
(.loop
(.seq
(.seq
(.plain (
⟨(some 68), .mv (.tmp 11), none⟩ ::
⟨(some 69), .bin .geq (.tmp 68) (.const (.int .i64 1)), none⟩ ::
[]))
(.cond (.tmp 69)
.skip
(.exit 4)))
(.seq
(.block 5
(.seq
(.seq
(.draw (
⟨(some 72), .mv (.tmp 3), none⟩ ::
⟨(some 73), .mv (.tmp 0), none⟩ ::
⟨(some 74), .mv (.tmp 11), none⟩ ::
⟨(some 75), .iaS 32 (.tmp 73) (.tmp 74), none⟩ ::
⟨(some 76), .load true 32 (.tmp 75), none⟩ ::
⟨(some 77), .mv (.tmp 0), none⟩ ::
⟨(some 78), .mv (.tmp 11), none⟩ ::
⟨(some 79), .bin .sub (.tmp 78) (.const (.int .i64 1)), none⟩ ::
⟨(some 80), .iaS 32 (.tmp 77) (.tmp 79), none⟩ ::
⟨(some 81), .load true 32 (.tmp 80), none⟩ ::
⟨(some 82), .callV (.tmp 72) [(.tmp 76), (.tmp 81)], none⟩ ::
⟨(some 83), .bin .lss (.tmp 82) (.const (.int .i64 0)), none⟩ ::
⟨(some 84), .un .not (.tmp 83), none⟩ ::
[])
(⟨0, [], []⟩ :: ⟨1, [], []⟩ :: ⟨2, [], []⟩ :: ⟨3, [], []⟩ :: ⟨4, [], []⟩ :: ⟨5, [], []⟩ :: ⟨6, [], []⟩ :: ⟨7, [], []⟩ :: ⟨8, [], []⟩ :: ⟨9, [], []⟩ :: ⟨10, [], []⟩ :: ⟨11, [], []⟩ :: ⟨12, [], []⟩ :: []))
(.cond (.tmp 84)
(.exit 4)
.skip))
(.draw (
⟨(some 85), .mv (.tmp 0), none⟩ ::
⟨(some 86), .mv (.tmp 11), none⟩ ::
⟨(some 87), .mv (.tmp 0), none⟩ ::
⟨(some 88), .mv (.tmp 11), none⟩ ::
⟨(some 89), .bin .sub (.tmp 88) (.const (.int .i64 1)), none⟩ ::
⟨(some 90), .mv (.tmp 0), none⟩ ::
⟨(some 91), .mv (.tmp 11), none⟩ ::
⟨(some 92), .bin .sub (.tmp 91) (.const (.int .i64 1)), none⟩ ::
⟨(some 93), .iaS 32 (.tmp 90) (.tmp 92), none⟩ ::
⟨(some 94), .load true 32 (.tmp 93), none⟩ ::
⟨(some 95), .mv (.tmp 0), none⟩ ::
⟨(some 96), .mv (.tmp 11), none⟩ ::
⟨(some 97), .iaS 32 (.tmp 95) (.tmp 96), none⟩ ::
⟨(some 98), .load true 32 (.tmp 97), none⟩ ::
⟨(some 99), .iaS 32 (.tmp 85) (.tmp 86), none⟩ ::
⟨none, .store 32 (.tmp 99) (.tmp 94), none⟩ ::
⟨(some 100), .iaS 32 (.tmp 87) (.tmp 89), none⟩ ::
⟨none, .store 32 (.tmp 100) (.tmp 98), none⟩ ::
[])
(⟨0, [], []⟩ :: ⟨1, [], []⟩ :: ⟨2, [], []⟩ :: ⟨3, [], []⟩ :: ⟨4, [], []⟩ :: ⟨5, [], []⟩ :: ⟨6, [], []⟩ :: ⟨7, [], []⟩ :: ⟨8, [], []⟩ :: ⟨9, [], []⟩ :: ⟨10, [], []⟩ :: ⟨11, [], []⟩ :: ⟨12, [], []⟩ :: ⟨13, [], []⟩ :: ⟨14, [], []⟩ :: ⟨15, [], []⟩ :: ⟨16, [], []⟩ :: ⟨17, [], []⟩ :: []))))
(.plain (
⟨(some 70), .mv (.tmp 11), none⟩ ::
⟨(some 71), .bin .sub (.tmp 70) (.const (.int .i64 1)), none⟩ ::
⟨(some 11), .mv (.tmp 71), none⟩ ::
[])))))))
.skip))
(.seq
(.plain (
⟨(some 101), .mv (.tmp 2), none⟩ ::
⟨(some 102), .mv (.tmp 9), none⟩ ::
⟨(some 103), .bin .sub (.tmp 101) (.tmp 102), none⟩ ::
⟨(some 104), .bin .geq (.tmp 103) (.const (.int .i64 2)), none⟩ ::
[]))
(.cond (.tmp 104)
(.seq
(.plain (
⟨(some 105), .mv (.tmp 9), none⟩ ::
⟨(some 106), .bin .add (.tmp 105) (.const (.int .i64 1)), none⟩ ::
⟨(some 12), .mv (.tmp 106), none⟩ ::
[]))
(.block 6
(.loop
(.seq
(.seq
(.plain (
⟨(some 107), .mv (.tmp 12), none⟩ ::
⟨(some 108), .mv (.tmp 2), none⟩ ::
⟨(some 109), .bin .lss (.tmp 107) (.tmp 108), none⟩ ::
[]))
(.cond (.tmp 109)
.skip
(.exit 6)))
(.seq
(.block 7
(.seq
(.seq
(.draw (
⟨(some 112), .mv (.tmp 3), none⟩ ::
⟨(some 113), .mv (.tmp 0), none⟩ ::
⟨(some 114), .mv (.tmp 12), none⟩ ::
⟨(some 115), .iaS 32 (.tmp 113) (.tmp 114), none⟩ ::
⟨(some 116), .load true 32 (.tmp 115), none⟩ ::
⟨(some 117), .mv (.tmp 0), none⟩ ::
⟨(some 118), .mv (.tmp 12), none⟩ ::
⟨(some 119), .bin .sub (.tmp 118) (.const (.int .i64 1)), none⟩ ::
⟨(some 120), .iaS 32 (.tmp 117) (.tmp 119), none⟩ ::
⟨(some 121), .load true 32 (.tmp 120), none⟩ ::
⟨(some 122), .callV (.tmp 112) [(.tmp 116), (.tmp 121)], none⟩ ::
⟨(some 123), .bin .lss (.tmp 122) (.const (.int .i64 0)), none⟩ ::
⟨(some 124), .un .not (.tmp 123), none⟩ ::
[])
(⟨0, [], []⟩ :: ⟨1, [], []⟩ :: ⟨2, [], []⟩ :: ⟨3, [], []⟩ :: ⟨4, [], []⟩ :: ⟨5, [], []⟩ :: ⟨6, [], []⟩ :: ⟨7, [], []⟩ :: ⟨8, [], []⟩ :: ⟨9, [], []⟩ :: ⟨10, [], []⟩ :: ⟨11, [], []⟩ :: ⟨12, [], []⟩ :: []))
(.cond (.tmp 124)
(.exit 6)
.skip))
(.draw (
⟨(some 125), .mv (.tmp 0), none⟩ ::
⟨(some 126), .mv (.tmp 12), none⟩ ::
⟨(some 127), .mv (.tmp 0), none⟩ ::
⟨(some 128), .mv (.tmp 12), none⟩ ::
⟨(some 129), .bin .sub (.tmp 128) (.const (.int .i64 1)), none⟩ ::
⟨(some 130), .mv (.tmp 0), none⟩ ::
⟨(some 131), .mv (.tmp 12), none⟩ ::
⟨(some 132), .bin .sub (.tmp 131) (.const (.int .i64 1)), none⟩ ::
⟨(some 133), .iaS 32 (.tmp 130) (.tmp 132), none⟩ ::
⟨(some 134), .load true 32 (.tmp 133), none⟩ ::
⟨(some 135), .mv (.tmp 0), none⟩ ::
⟨(some 136), .mv (.tmp 12), none⟩ ::
⟨(some 137), .iaS 32 (.tmp 135) (.tmp 136), none⟩ ::
⟨(some 138), .load true 32 (.tmp 137), none⟩ ::
⟨(some 139), .iaS 32 (.tmp 125) (.tmp 126), none⟩ ::
⟨none, .store 32 (.tmp 139) (.tmp 134), none⟩ ::
⟨(some 140), .iaS 32 (.tmp 127) (.tmp 129), none⟩ ::
⟨none, .store 32 (.tmp 140) (.tmp 138), none⟩ ::
[])
(⟨0, [], []⟩ :: ⟨1, [], []⟩ :: ⟨2, [], []⟩ :: ⟨3, [], []⟩ :: ⟨4, [], []⟩ :: ⟨5, [], []⟩ :: ⟨6, [], []⟩ :: ⟨7, [], []⟩ :: ⟨8, [], []⟩ :: ⟨9, [], []⟩ :: ⟨10, [], []⟩ :: ⟨11, [], []⟩ :: ⟨12, [], []⟩ :: ⟨13, [], []⟩ :: ⟨14, [], []⟩ :: ⟨15, [], []⟩ :: ⟨16, [], []⟩ :: ⟨17, [], []⟩ :: []))))
(.plain (
⟨(some 110), .mv (.tmp 12), none⟩ ::
⟨(some 111), .bin .add (.tmp 110) (.const (.int .i64 1)), none⟩ ::
⟨(some 12), .mv (.tmp 111), none⟩ ::
[])))))))
.skip))))))))
(.plain (
⟨(some 17), .mv (.tmp 10), none⟩ ::
⟨(some 18), .bin .add (.tmp 17) (.const (.int .i64 1)), none⟩ ::
⟨(some 10), .mv (.tmp 18), none⟩ ::
[])))))))
(.seq
(.plain (
⟨(some 8), .mv (.const (.bool false)), none⟩ ::
[]))
.ret))))
theorem prep125 : prepFunc Tryz.prog 0 125 = some F125 := by kernel_rfl

-- slices.partitionEqualCmpFunc[indenture/api.Digest]
def F126 : AFunc where
  ntmps := 90
  nparams := 5
  results := [(10, none)]
  code :=
(.seq
(.plain (
⟨(some 10), .mv (.const (.int .i64 0)), none⟩ ::
[]))
(.seq
(.draw (
⟨(some 13), .mv (.tmp 0), none⟩ ::
⟨(some 14), .mv (.tmp 1), none⟩ ::
⟨(some 15), .mv (.tmp 0), none⟩ ::
⟨(some 16), .mv (.tmp 3), none⟩ ::
⟨(some 17), .mv (.tmp 0), none⟩ ::
⟨(some 18), .mv (.tmp 3), none⟩ ::
⟨(some 19), .iaS 32 (.tmp 17) (.tmp 18), none⟩ ::
⟨(some 20), .load true 32 (.tmp 19), none⟩ ::
⟨(some 21), .mv (.tmp 0), none⟩ ::
⟨(some 22), .mv (.tmp 1), none⟩ ::
⟨(some 23), .iaS 32 (.tmp 21) (.tmp 22), none⟩ ::
⟨(some 24), .load true 32 (.tmp 23), none⟩ ::
⟨(some 25), .iaS 32 (.tmp 13) (.tmp 14), none⟩ ::
⟨none, .store 32 (.tmp 25) (.tmp 20), none⟩ ::
⟨(some 26), .iaS 32 (.tmp 15) (.tmp 16), none⟩ ::
⟨none, .store 32 (.tmp 26) (.tmp 24), none⟩ ::
[])
(⟨0, [], []⟩ :: ⟨1, [], []⟩ :: ⟨2, [], []⟩ :: ⟨3, [], []⟩ :: ⟨4, [], []⟩ :: ⟨5, [], []⟩ :: ⟨6, [], []⟩ :: ⟨7, [], []⟩ :: ⟨8, [], []⟩ :: ⟨9, [], []⟩ :: ⟨10, [], []⟩ :: ⟨11, [], []⟩ :: ⟨12, [], []⟩ :: ⟨13, [], []⟩ :: ⟨14, [], []⟩ :: ⟨15, [], []⟩ :: []))
(.seq
(.plain (
⟨(some 27), .mv (.tmp 1), none⟩ ::
⟨(some 28), .bin .add (.tmp 27) (.const (.int .i64 1)), none⟩ ::
⟨(some 29), .mv (.tmp 2), none⟩ ::
⟨(some 30), .bin .sub (.tmp 29) (.const (.int .i64 1)), none⟩ ::
⟨(some 11), .mv (.tmp 28), none⟩ ::
⟨(some 12), .mv (.tmp 30), none⟩ ::
[]))
(.seq
(.block 0
(.loop
(.block 1
(.seq
(.block 2
(.loop
(.seq
(.seq
(.draw (
⟨(some 31), .mv (.tmp 11), none⟩ ::
⟨(some 32), .mv (.tmp 12), none⟩ ::
⟨(some 33), .bin .leq (.tmp 31) (.tmp 32), none⟩ ::
⟨(some 34), .mv (.tmp 33), none⟩ ::
⟨(some 35), .mv (.tmp 4), (some (34, true))⟩ ::
⟨(some 36), .mv (.tmp 0), (some (34, true))⟩ ::
⟨(some 37), .mv (.tmp 1), (some (34, true))⟩ ::
⟨(some 38), .iaS 32 (.tmp 36) (.tmp 37), (some (34, true))⟩ ::
⟨(some 39), .load true 32 (.tmp 38), (some (34, true))⟩ ::
⟨(some 40), .mv (.tmp 0), (some (34, true))⟩ ::
⟨(some 41), .mv (.tmp 11), (some (34, true))⟩ ::
⟨(some 42), .iaS 32 (.tmp 40) (.tmp 41), (some (34, true))⟩ ::
⟨(some 43), .load true 32 (.tmp 42), (some (34, true))⟩ ::
⟨(some 44), .callV (.tmp 35) [(.tmp 39), (.tmp 43)], (some (34, true))⟩ ::
⟨(some 45), .bin .lss (.tmp 44) (.const (.int .i64 0)), (some (34, true))⟩ ::
⟨(some 46), .un .not (.tmp 45), (some (34, true))⟩ ::
⟨(some 47), .pick (.tmp 34) (.tmp 46) (.const (.bool false)), none⟩ ::
[])
(⟨0, [], []⟩ :: ⟨1, [], []⟩ :: ⟨2, [], []⟩ :: ⟨3, [], []⟩ :: ⟨4, [], []⟩ :: ⟨5, [], []⟩ :: ⟨6, [], []⟩ :: ⟨7, [], []⟩ :: ⟨8, [], []⟩ :: ⟨9, [], []⟩ :: ⟨10, [], []⟩ :: ⟨11, [], []⟩ :: ⟨12, [], []⟩ :: ⟨13, [], []⟩ :: ⟨14, [], []⟩ :: ⟨15, [], []⟩ :: ⟨16, [], []⟩ :: []))
(.cond (.tmp 47)
.skip
(.exit 2)))
(.block 3
(.plain (
⟨(some 48), .mv (.tmp 11), none⟩ ::
⟨(some 49), .bin .add (.tmp 48) (.const (.int .i64 1)), none⟩ ::
⟨(some 11), .mv (.tmp 49), none⟩ ::
[]))))))
(.seq
(.block 4
(.loop
(.seq
(.seq
(.draw (
⟨(some 50), .mv (.tmp 11), none⟩ ::
⟨(some 51), .mv (.tmp 12), none⟩ ::
⟨(some 52), .bin .leq (.tmp 50) (.tmp 51), none⟩ ::
⟨(some 53), .mv (.tmp 52), none⟩ ::
⟨(some 54), .mv (.tmp 4), (some (53, true))⟩ ::
⟨(some 55), .mv (.tmp 0), (some (53, true))⟩ ::
⟨(some 56), .mv (.tmp 1), (some (53, true))⟩ ::
⟨(some 57), .iaS 32 (.tmp 55) (.tmp 56), (some (53, true))⟩ ::
⟨(some 58), .load true 32 (.tmp 57), (some (53, true))⟩ ::
⟨(some 59), .mv (.tmp 0), (some (53, true))⟩ ::
⟨(some 60), .mv (.tmp 12), (some (53, true))⟩ ::
⟨(some 61), .iaS 32 (.tmp 59) (.tmp 60), (some (53, true))⟩ ::
⟨(some 62), .load true 32 (.tmp 61), (some (53, true))⟩ ::
⟨(some 63), .callV (.tmp 54) [(.tmp 58), (.tmp 62)], (some (53, true))⟩ ::
⟨(some 64), .bin .lss (.tmp 63) (.const (.int .i64 0)), (some (53, true))⟩ ::
⟨(some 65), .pick (.tmp 53) (.tmp 64) (.const (.bool false)), none⟩ ::
[])
(⟨0, [], []⟩ :: ⟨1, [], []⟩ :: ⟨2, [], []⟩ :: ⟨3, [], []⟩ :: ⟨4, [], []⟩ :: ⟨5, [], []⟩ :: ⟨6, [], []⟩ :: ⟨7, [], []⟩ :: ⟨8, [], []⟩ :: ⟨9, [], []⟩ :: ⟨10, [], []⟩ :: ⟨11, [], []⟩ :: ⟨12, [], []⟩ :: ⟨13, [], []⟩ :: ⟨14, [], []⟩ :: ⟨15, [], []⟩ :: []))
(.cond (.tmp 65)
.skip
(.exit 4)))
(.block 5
(.plain (
⟨(some 66), .mv (.tmp 12), none⟩ ::
⟨(some 67), .bin .sub (.tmp 66) (.const (.int .i64 1)), none⟩ ::
⟨(some 12), .mv (.tmp 67), none⟩ ::
[]))))))
(.seq
(.seq
(.plain (
⟨(some 68), .mv (.tmp 11), none⟩ ::
⟨(some 69), .mv (.tmp 12), none⟩ ::
⟨(some 70), .bin .gtr (.tmp 68) (.tmp 69), none⟩ ::
[]))
(.cond (.tmp 70)
(.exit 0)
.skip))
(.seq
(.draw (
⟨(some 71), .mv (.tmp 0), none⟩ ::
⟨(some 72), .mv (.tmp 11), none⟩ ::
⟨(some 73), .mv (.tmp 0), none⟩ ::
⟨(some 74), .mv (.tmp 12), none⟩ ::
⟨(some 75), .mv (.tmp 0), none⟩ ::
⟨(some 76), .mv (.tmp 12), none⟩ ::
⟨(some 77), .iaS 32 (.tmp 75) (.tmp 76), none⟩ ::
⟨(some 78), .load true 32 (.tmp 77), none⟩ ::
⟨(some 79), .mv (.tmp 0), none⟩ ::
⟨(some 80), .mv (.tmp 11), none⟩ ::
⟨(some 81), .iaS 32 (.tmp 79) (.tmp 80), none⟩ ::
⟨(some 82), .load true 32 (.tmp 81), none⟩ ::
⟨(some 83), .iaS 32 (.tmp 71) (.tmp 72), none⟩ ::
⟨none, .store 32 (.tmp 83) (.tmp 78), none⟩ ::
⟨(some 84), .iaS 32 (.tmp 73) (.tmp 74), none⟩ ::
⟨none, .store 32 (.tmp 84) (.tmp 82), none⟩ ::
[])
(⟨0, [], []⟩ :: ⟨1, [], []⟩ :: ⟨2, [], []⟩ :: ⟨3, [], []⟩ :: ⟨4, [], []⟩ :: ⟨5, [], []⟩ :: ⟨6, [], []⟩ :: ⟨7, [], []⟩ :: ⟨8, [], []⟩ :: ⟨9, [], []⟩ :: ⟨10, [], []⟩ :: ⟨11, [], []⟩ :: ⟨12, [], []⟩ :: ⟨13, [], []⟩ :: ⟨14, [], []⟩ :: ⟨15, [], []⟩ :: []))
(.seq
(.plain (
⟨(some 85), .mv (.tmp 11), none⟩ ::
⟨(some 86), .bin .add (.tmp 85) (.const (.int .i64 1)), none⟩ ::
⟨(some 11), .mv (.tmp 86), none⟩ ::
[]))
(.plain (
⟨(some 87), .mv (.tmp 12), none⟩ ::
⟨(some 88), .bin .sub (.tmp 87) (.const (.int .i64 1)), none⟩ ::
⟨(some 12), .mv (.tmp 88), none⟩ ::
[]))))))))))
(.seq
(.plain (
⟨(some 89), .mv (.tmp 11), none⟩ ::
⟨(some 10), .mv (.tmp 89), none⟩ ::
[]))
.ret)))))
theorem prep126 : prepFunc Tryz.prog 0 126 = some F126 := by kernel_rfl

-- slices.partitionCmpFunc[indenture/api.Digest]
def F127 : AFunc where
  ntmps := 178
  nparams := 5
  results := [(10, none), (11, none)]
  code :=
(.seq
(.plain (
⟨(some 10), .mv (.const (.int .i64 0)), none⟩ ::
⟨(some 11), .mv (.const (.bool false)), none⟩ ::
[]))
(.seq
(.draw (
⟨(some 14), .mv (.tmp 0), none⟩ ::
⟨(some 15), .mv (.tmp 1), none⟩ ::
⟨(some 16), .mv (.tmp 0), none⟩ ::
⟨(some 17), .mv (.tmp 3), none⟩ ::
⟨(some 18), .mv (.tmp 0), none⟩ ::
⟨(some 19), .mv (.tmp 3), none⟩ ::
⟨(some 20), .iaS 32 (.tmp 18) (.tmp 19), none⟩ ::
⟨(some 21), .load true 32 (.tmp 20), none⟩ ::
⟨(some 22), .mv (.tmp 0), none⟩ ::
⟨(some 23), .mv (.tmp 1), none⟩ ::
⟨(some 24), .iaS 32 (.tmp 22) (.tmp 23), none⟩ ::
⟨(some 25), .load true 32 (.tmp 24), none⟩ ::
⟨(some 26), .iaS 32 (.tmp 14) (.tmp 15), none⟩ ::
⟨none, .store 32 (.tmp 26) (.tmp 21), none⟩ ::
⟨(some 27), .iaS 32 (.tmp 16) (.tmp 17), none⟩ ::
⟨none, .store 32 (.tmp 27) (.tmp 25), none⟩ ::
[])
(⟨0, [], []⟩ :: ⟨1, [], []⟩ :: ⟨2, [], []⟩ :: ⟨3, [], []⟩ :: ⟨4, [], []⟩ :: ⟨5, [], []⟩ :: ⟨6, [], []⟩ :: ⟨7, [], []⟩ :: ⟨8, [], []⟩ :: ⟨9, [], []⟩ :: ⟨10, [], []⟩ :: ⟨11, [], []⟩ :: ⟨12, [], []⟩ :: ⟨13, [], []⟩ :: ⟨14, [], []⟩ :: ⟨15, [], []⟩ :: []))
(.seq
(.plain (
⟨(some 28), .mv (.tmp 1), none⟩ ::
⟨(some 29), .bin .add (.tmp 28) (.const (.int .i64 1)), none⟩ ::
⟨(some 30), .mv (.tmp 2), none⟩ ::
⟨(some 31), .bin .sub (.tmp 30) (.const (.int .i64 1)), none⟩ ::
⟨(some 12), .mv (.tmp 29), none⟩ ::
⟨(some 13), .mv (.tmp 31), none⟩ ::
[]))
(.seq
(.block 0
(.loop
(.seq
(.seq
(.draw (
⟨(some 32), .mv (.tmp 12), none⟩ ::
⟨(some 33), .mv (.tmp 13), none⟩ ::
⟨(some 34), .bin .leq (.tmp 32) (.tmp 33), none⟩ ::
⟨(some 35), .mv (.tmp 34), none⟩ ::
⟨(some 36), .mv (.tmp 4), (some (35, true))⟩ ::
⟨(some 37), .mv (.tmp 0), (some (35, true))⟩ ::
⟨(some 38), .mv (.tmp 12), (some (35, true))⟩ ::
⟨(some 39), .iaS 32 (.tmp 37) (.tmp 38), (some (35, true))⟩ ::
⟨(some 40), .load true 32 (.tmp 39), (some (35, true))⟩ ::
⟨(some 41), .mv (.tmp 0), (some (35, true))⟩ ::
⟨(some 42), .mv (.tmp 1), (some (35, true))⟩ ::
⟨(some 43), .iaS 32 (.tmp 41) (.tmp 42), (some (35, true))⟩ ::
⟨(some 44), .load true 32 (.tmp 43), (some (35, true))⟩ ::
⟨(some 45), .callV (.tmp 36) [(.tmp 40), (.tmp 44)], (some (35, true))⟩ ::
⟨(some 46), .bin .lss (.tmp 45) (.const (.int .i64 0)), (some (35, true))⟩ ::
⟨(some 47), .pick (.tmp 35) (.tmp 46) (.const (.bool false)), none⟩ ::
[])
(⟨0, [], []⟩ :: ⟨1, [], []⟩ :: ⟨2, [], []⟩ :: ⟨3, [], []⟩ :: ⟨4, [], []⟩ :: ⟨5, [], []⟩ :: ⟨6, [], []⟩ :: ⟨7, [], []⟩ :: ⟨8, [], []⟩ :: ⟨9, [], []⟩ :: ⟨10, [], []⟩ :: ⟨11, [], []⟩ :: ⟨12, [], []⟩ :: ⟨13, [], []⟩ :: ⟨14, [], []⟩ :: ⟨15, [], []⟩ :: []))
(.cond (.tmp 47)
.skip
(.exit 0)))
(.block 1
(.plain (
⟨(some 48), .mv (.tmp 12), none⟩ ::
⟨(some 49), .bin .add (.tmp 48) (.const (.int .i64 1)), none⟩ ::
⟨(some 12), .mv (.tmp 49), none⟩ ::
[]))))))
(.seq
(.block 2
(.loop
(.seq
(.seq
(.draw (
⟨(some 50), .mv (.tmp 12), none⟩ ::
⟨(some 51), .mv (.tmp 13), none⟩ ::
⟨(some 52), .bin .leq (.tmp 50) (.tmp 51), none⟩ ::
⟨(some 53), .mv (.tmp 52), none⟩ ::
⟨(some 54), .mv (.tmp 4), (some (53, true))⟩ ::
⟨(some 55), .mv (.tmp 0), (some (53, true))⟩ ::
⟨(some 56), .mv (.tmp 13), (some (53, true))⟩ ::
⟨(some 57), .iaS 32 (.tmp 55) (.tmp 56), (some (53, true))⟩ ::
⟨(some 58), .load true 32 (.tmp 57), (some (53, true))⟩ ::
⟨(some 59), .mv (.tmp 0), (some (53, true))⟩ ::
⟨(some 60), .mv (.tmp 1), (some (53, true))⟩ ::
⟨(some 61), .iaS 32 (.tmp 59) (.tmp 60), (some (53, true))⟩ ::
⟨(some 62), .load true 32 (.tmp 61), (some (53, true))⟩ ::
⟨(some 63), .callV (.tmp 54) [(.tmp 58), (.tmp 62)], (some (53, true))⟩ ::
⟨(some 64), .bin .lss (.tmp 63) (.const (.int .i64 0)), (some (53, true))⟩ ::
⟨(some 65), .un .not (.tmp 64), (some (53, true))⟩ ::
⟨(some 66), .pick (.tmp 53) (.tmp 65) (.const (.bool false)), none⟩ ::
[])
(⟨0, [], []⟩ :: ⟨1, [], []⟩ :: ⟨2, [], []⟩ :: ⟨3, [], []⟩ :: ⟨4, [], []⟩ :: ⟨5, [], []⟩ :: ⟨6, [], []⟩ :: ⟨7, [], []⟩ :: ⟨8, [], []⟩ :: ⟨9, [], []⟩ :: ⟨10, [], []⟩ :: ⟨11, [], []⟩ :: ⟨12, [], []⟩ :: ⟨13, [], []⟩ :: ⟨14, [], []⟩ :: ⟨15, [], []⟩ :: ⟨16, [], []⟩ :: []))
(.cond (.tmp 66)
.skip
(.exit 2)))
(.block 3
(.plain (
⟨(some 67), .mv (.tmp 13), none⟩ ::
⟨(some 68), .bin .sub (.tmp 67) (.const (.int .i64 1)), none⟩ ::
⟨(some 13), .mv (.tmp 68), none⟩ ::
[]))))))
(.seq
(.seq
(.plain (
⟨(some 69), .mv (.tmp 12), none⟩ ::
⟨(some 70), .mv (.tmp 13), none⟩ ::
⟨(some 71), .bin .gtr (.tmp 69) (.tmp 70), none⟩ ::
[]))
(.cond (.tmp 71)
(.seq
(.draw (
⟨(some 72), .mv (.tmp 0), none⟩ ::
⟨(some 73), .mv (.tmp 13), none⟩ ::
⟨(some 74), .mv (.tmp 0), none⟩ ::
⟨(some 75), .mv (.tmp 1), none⟩ ::
⟨(some 76), .mv (.tmp 0), none⟩ ::
⟨(some 77), .mv (.tmp 1), none⟩ ::
⟨(some 78), .iaS 32 (.tmp 76) (.tmp 77), none⟩ ::
⟨(some 79), .load true 32 (.tmp 78), none⟩ ::
⟨(some 80), .mv (.tmp 0), none⟩ ::
⟨(some 81), .mv (.tmp 13), none⟩ ::
⟨(some 82), .iaS 32 (.tmp 80) (.tmp 81), none⟩ ::
⟨(some 83), .load true 32 (.tmp 82), none⟩ ::
⟨(some 84), .iaS 32 (.tmp 72) (.tmp 73), none⟩ ::
⟨none, .store 32 (.tmp 84) (.tmp 79), none⟩ ::
⟨(some 85), .iaS 32 (.tmp 74) (.tmp 75), none⟩ ::
⟨none, .store 32 (.tmp 85) (.tmp 83), none⟩ ::
[])
(⟨0, [], []⟩ :: ⟨1, [], []⟩ :: ⟨2, [], []⟩ :: ⟨3, [], []⟩ :: ⟨4, [], []⟩ :: ⟨5, [], []⟩ :: ⟨6, [], []⟩ :: ⟨7, [], []⟩ :: ⟨8, [], []⟩ :: ⟨9, [], []⟩ :: ⟨10, [], []⟩ :: ⟨11, [], []⟩ :: ⟨12, [], []⟩ :: ⟨13, [], []⟩ :: ⟨14, [], []⟩ :: ⟨15, [], []⟩ :: []))
(.seq
(.plain (
⟨(some 86), .mv (.tmp 13), none⟩ ::
⟨(some 10), .mv (.tmp 86), none⟩ ::
⟨(some 11), .mv (.const (.bool true)), none⟩ ::
[]))
.ret))
.skip))
(.seq
(.draw (
⟨(some 87), .mv (.tmp 0), none⟩ ::
⟨(some 88), .mv (.tmp 12), none⟩ ::
⟨(some 89), .mv (.tmp 0), none⟩ ::
⟨(some 90), .mv (.tmp 13), none⟩ ::
⟨(some 91), .mv (.tmp 0), none⟩ ::
⟨(some 92), .mv (.tmp 13), none⟩ ::
⟨(some 93), .iaS 32 (.tmp 91) (.tmp 92), none⟩ ::
⟨(some 94), .load true 32 (.tmp 93), none⟩ ::
⟨(some 95), .mv (.tmp 0), none⟩ ::
⟨(some 96), .mv (.tmp 12), none⟩ ::
⟨(some 97), .iaS 32 (.tmp 95) (.tmp 96), none⟩ ::
⟨(some 98), .load true 32 (.tmp 97), none⟩ ::
⟨(some 99), .iaS 32 (.tmp 87) (.tmp 88), none⟩ ::
⟨none, .store 32 (.tmp 99) (.tmp 94), none⟩ ::
⟨(some 100), .iaS 32 (.tmp 89) (.tmp 90), none⟩ ::
⟨none, .store 32 (.tmp 100) (.tmp 98), none⟩ ::
[])
(⟨0, [], []⟩ :: ⟨1, [], []⟩ :: ⟨2, [], []⟩ :: ⟨3, [], []⟩ :: ⟨4, [], []⟩ :: ⟨5, [], []⟩ :: ⟨6, [], []⟩ :: ⟨7, [], []⟩ :: ⟨8, [], []⟩ :: ⟨9, [], []⟩ :: ⟨10, [], []⟩ :: ⟨11, [], []⟩ :: ⟨12, [], []⟩ :: ⟨13, [], []⟩ :: ⟨14, [], []⟩ :: ⟨15, [], []⟩ :: []))
(.seq
(.plain (
⟨(some 101), .mv (.tmp 12), none⟩ ::
⟨(some 102), .bin .add (.tmp 101) (.const (.int .i64 1)), none⟩ ::
⟨(some 12), .mv (.tmp 102), none⟩ ::
[]))
(.seq
(.plain (
⟨(some 103), .mv (.tmp 13), none⟩ ::
⟨(some 104), .bin .sub (.tmp 103) (.const (.int .i64 1)), none⟩ ::
⟨(some 13), .mv (.tmp 104), none⟩ ::
[]))
(.seq
(.block 4
(.loop
(.block 5
(.seq
(.block 6
(.loop
(.seq
(.seq
(.draw (
⟨(some 105), .mv (.tmp 12), none⟩ ::
⟨(some 106), .mv (.tmp 13), none⟩ ::
⟨(some 107), .bin .leq (.tmp 105) (.tmp 106), none⟩ ::
⟨(some 108), .mv (.tmp 107), none⟩ ::
⟨(some 109), .mv (.tmp 4), (some (108, true))⟩ ::
⟨(some 110), .mv (.tmp 0), (some (108, true))⟩ ::
⟨(some 111), .mv (.tmp 12), (some (108, true))⟩ ::
⟨(some 112), .iaS 32 (.tmp 110) (.tmp 111), (some (108, true))⟩ ::
⟨(some 113), .load true 32 (.tmp 112), (some (108, true))⟩ ::
⟨(some 114), .mv (.tmp 0), (some (108, true))⟩ ::
⟨(some 115), .mv (.tmp 1), (some (108, true))⟩ ::
⟨(some 116), .iaS 32 (.tmp 114) (.tmp 115), (some (108, true))⟩ ::
⟨(some 117), .load true 32 (.tmp 116), (some (108, true))⟩ ::
⟨(some 118), .callV (.tmp 109) [(.tmp 113), (.tmp 117)], (some (108, true))⟩ ::
⟨(some 119), .bin .lss (.tmp 118) (.const (.int .i64 0)), (some (108, true))⟩ ::
⟨(some 120), .pick (.tmp 108) (.tmp 119) (.const (.bool false)), none⟩ ::
[])
(⟨0, [], []⟩ :: ⟨1, [], []⟩ :: ⟨2, [], []⟩ :: ⟨3, [], []⟩ :: ⟨4, [], []⟩ :: ⟨5, [], []⟩ :: ⟨6, [], []⟩ :: ⟨7, [], []⟩ :: ⟨8, [], []⟩ :: ⟨9, [], []⟩ :: ⟨10, [], []⟩ :: ⟨11, [], []⟩ :: ⟨12, [], []⟩ :: ⟨13, [], []⟩ :: ⟨14, [], []⟩ :: ⟨15, [], []⟩ :: []))
(.cond (.tmp 120)
.skip
(.exit 6)))
(.block 7
(.plain (
⟨(some 121), .mv (.tmp 12), none⟩ ::
⟨(some 122), .bin .add (.tmp 121) (.const (.int .i64 1)), none⟩ ::
⟨(some 12), .mv (.tmp 122), none⟩ ::
[]))))))
(.seq
(.block 8
(.loop
(.seq
(.seq
(.draw (
⟨(some 123), .mv (.tmp 12), none⟩ ::
⟨(some 124), .mv (.tmp 13), none⟩ ::
⟨(some 125), .bin .leq (.tmp 123) (.tmp 124), none⟩ ::
⟨(some 126), .mv (.tmp 125), none⟩ ::
⟨(some 127), .mv (.tmp 4), (some (126, true))⟩ ::
⟨(some 128), .mv (.tmp 0), (some (126, true))⟩ ::
⟨(some 129), .mv (.tmp 13), (some (126, true))⟩ ::
⟨(some 130), .iaS 32 (.tmp 128) (.tmp 129), (some (126, true))⟩ ::
⟨(some 131), .load true 32 (.tmp 130), (some (126, true))⟩ ::
⟨(some 132), .mv (.tmp 0), (some (126, true))⟩ ::
⟨(some 133), .mv (.tmp 1), (some (126, true))⟩ ::
⟨(some 134), .iaS 32 (.tmp 132) (.tmp 133), (some (126, true))⟩ ::
⟨(some 135), .load true 32 (.tmp 134), (some (126, true))⟩ ::
⟨(some 136), .callV (.tmp 127) [(.tmp 131), (.tmp 135)], (some (126, true))⟩ ::
⟨(some 137), .bin .lss (.tmp 136) (.const (.int .i64 0)), (some (126, true))⟩ ::
⟨(some 138), .un .not (.tmp 137), (some (126, true))⟩ ::
⟨(some 139), .pick (.tmp 126) (.tmp 138) (.const (.bool false)), none⟩ ::
[])
(⟨0, [], []⟩ :: ⟨1, [], []⟩ :: ⟨2, [], []⟩ :: ⟨3, [], []⟩ :: ⟨4, [], []⟩ :: ⟨5, [], []⟩ :: ⟨6, [], []⟩ :: ⟨7, [], []⟩ :: ⟨8, [], []⟩ :: ⟨9, [], []⟩ :: ⟨10, [], []⟩ :: ⟨11, [], []⟩ :: ⟨12, [], []⟩ :: ⟨13, [], []⟩ :: ⟨14, [], []⟩ :: ⟨15, [], []⟩ :: ⟨16, [], []⟩ :: []))
(.cond (.tmp 139)
.skip
(.exit 8)))
(.block 9
(.plain (
⟨(some 140), .mv (.tmp 13), none⟩ ::
⟨(some 141), .bin .sub (.tmp 140) (.const (.int .i64 1)), none⟩ ::
⟨(some 13), .mv (.tmp 141), none⟩ ::
[]))))))
(.seq
(.seq
(.plain (
⟨(some 142), .mv (.tmp 12), none⟩ ::
⟨(some 143), .mv (.tmp 13), none⟩ ::
⟨(some 144), .bin .gtr (.tmp 142) (.tmp 143), none⟩ ::
[]))
(.cond (.tmp 144)
(.exit 4)
.skip))
(.seq
(.draw (
⟨(some 145), .mv (.tmp 0), none⟩ ::
⟨(some 146), .mv (.tmp 12), none⟩ ::
⟨(some 147), .mv (.tmp 0), none⟩ ::
⟨(some 148), .mv (.tmp 13), none⟩ ::
⟨(some 149), .mv (.tmp 0), none⟩ ::
⟨(some 150), .mv (.tmp 13), none⟩ ::
⟨(some 151), .iaS 32 (.tmp 149) (.tmp 150), none⟩ ::
⟨(some 152), .load true 32 (.tmp 151), none⟩ ::
⟨(some 153), .mv (.tmp 0), none⟩ ::
⟨(some 154), .mv (.tmp 12), none⟩ ::
⟨(some 155), .iaS 32 (.tmp 153) (.tmp 154), none⟩ ::
⟨(some 156), .load true 32 (.tmp 155), none⟩ ::
⟨(some 157), .iaS 32 (.tmp 145) (.tmp 146), none⟩ ::
⟨none, .store 32 (.tmp 157) (.tmp 152), none⟩ ::
⟨(some 158), .iaS 32 (.tmp 147) (.tmp 148), none⟩ ::
⟨none, .store 32 (.tmp 158) (.tmp 156), none⟩ ::
[])
(⟨0, [], []⟩ :: ⟨1, [], []⟩ :: ⟨2, [], []⟩ :: ⟨3, [], []⟩ :: ⟨4, [], []⟩ :: ⟨5, [], []⟩ :: ⟨6, [], []⟩ :: ⟨7, [], []⟩ :: ⟨8, [], []⟩ :: ⟨9, [], []⟩ :: ⟨10, [], []⟩ :: ⟨11, [], []⟩ :: ⟨12, [], []⟩ :: ⟨13, [], []⟩ :: ⟨14, [], []⟩ :: ⟨15, [], []⟩ :: []))
(.seq
(.plain (
⟨(some 159), .mv (.tmp 12), none⟩ ::
⟨(some 160), .bin .add (.tmp 159) (.const (.int .i64 1)), none⟩ ::
⟨(some 12), .mv (.tmp 160), none⟩ ::
[]))
(.plain (
⟨(some 161), .mv (.tmp 13), none⟩ ::
⟨(some 162), .bin .sub (.tmp 161) (.const (.int .i64 1)), none⟩ ::
⟨(some 13), .mv (.tmp 162), none⟩ ::
[]))))))))))
(.seq
(.draw (
⟨(some 163), .mv (.tmp 0), none⟩ ::
⟨(some 164), .mv (.tmp 13), none⟩ ::
⟨(some 165), .mv (.tmp 0), none⟩ ::
⟨(some 166), .mv (.tmp 1), none⟩ ::
⟨(some 167), .mv (.tmp 0), none⟩ ::
⟨(some 168), .mv (.tmp 1), none⟩ ::
⟨(some 169), .iaS 32 (.tmp 167) (.tmp 168), none⟩ ::
⟨(some 170), .load true 32 (.tmp 169), none⟩ ::
⟨(some 171), .mv (.tmp 0), none⟩ ::
⟨(some 172), .mv (.tmp 13), none⟩ ::
⟨(some 173), .iaS 32 (.tmp 171) (.tmp 172), none⟩ ::
⟨(some 174), .load true 32 (.tmp 173), none⟩ ::
⟨(some 175), .iaS 32 (.tmp 163) (.tmp 164), none⟩ ::
⟨none, .store 32 (.tmp 175) (.tmp 170), none⟩ ::
⟨(some 176), .iaS 32 (.tmp 165) (.tmp 166), none⟩ ::
⟨none, .store 32 (.tmp 176) (.tmp 174), none⟩ ::
[])
(⟨0, [], []⟩ :: ⟨1, [], []⟩ :: ⟨2, [], []⟩ :: ⟨3, [], []⟩ :: ⟨4, [], []⟩ :: ⟨5, [], []⟩ :: ⟨6, [], []⟩ :: ⟨7, [], []⟩ :: ⟨8, [], []⟩ :: ⟨9, [], []⟩ :: ⟨10, [], []⟩ :: ⟨11, [], []⟩ :: ⟨12, [], []⟩ :: ⟨13, [], []⟩ :: ⟨14, [], []⟩ :: ⟨15, [], []⟩ :: []))
(.seq
(.plain (
⟨(some 177), .mv (.tmp 13), none⟩ ::
⟨(some 10), .mv (.tmp 177), none⟩ ::
⟨(some 11), .mv (.const (.bool false)), none⟩ ::
[]))
.ret))))))))))))
theorem prep127 : prepFunc Tryz.prog 0 127 = some F127 := by kernel_rfl

-- math/bits.Len32
def F128 : AFunc where
  ntmps := 19
  nparams := 1
  results := [(2, none)]
  code :=
(.seq
(.plain (
⟨(some 2), .mv (.const (.int .i64 0)), none⟩ ::
[]))
(.seq
(.seq
(.plain (
⟨(some 3), .mv (.tmp 0), none⟩ ::
⟨(some 4), .bin .geq (.tmp 3) (.const (.int .u32 65536)), none⟩ ::
[]))
(.cond (.tmp 4)
(.seq
(.plain (
⟨(some 5), .mv (.tmp 0), none⟩ ::
⟨(some 6), .bin .shr (.tmp 5) (.const (.int .u64 16)), none⟩ ::
⟨(some 0), .mv (.tmp 6), none⟩ ::
[]))
(.plain (
⟨(some 2), .mv (.const (.int .i64 16)), none⟩ ::
[])))
.skip))
(.seq
(.seq
(.plain (
⟨(some 7), .mv (.tmp 0), none⟩ ::
⟨(some 8), .bin .geq (.tmp 7) (.const (.int .u32 256)), none⟩ ::
[]))
(.cond (.tmp 8)
(.seq
(.plain (
⟨(some 9), .mv (.tmp 0), none⟩ ::
⟨(some 10), .bin .shr (.tmp 9) (.const (.int .u64 8)), none⟩ ::
⟨(some 0), .mv (.tmp 10), none⟩ ::
[]))
(.plain (
⟨(some 11), .mv (.tmp 2), none⟩ ::
⟨(some 12), .bin .add (.tmp 11) (.const (.int .i64 8)), none⟩ ::
⟨(some 2), .mv (.tmp 12), none⟩ ::
[])))
.skip))
(.seq
(.plain (
⟨(some 13), .mv (.tmp 2), none⟩ ::
⟨(some 14), .mv (.tmp 0), none⟩ ::
⟨(some 15), .cvt .u8 (.tmp 14), none⟩ ::
⟨(some 16), .idxS (.const (.string ⟨#[0, 1, 2, 2, 3, 3, 3, 3, 4, 4, 4, 4, 4, 4, 4, 4, 5, 5, 5, 5, 5, 5, 5, 5, 5, 5, 5, 5, 5, 5, 5, 5, 6, 6, 6, 6, 6, 6, 6, 6, 6, 6, 6, 6, 6, 6, 6, 6, 6, 6, 6, 6, 6, 6, 6, 6, 6, 6, 6, 6, 6, 6, 6, 6, 7, 7, 7, 7, 7, 7, 7, 7, 7, 7, 7, 7, 7, 7, 7, 7, 7, 7, 7, 7, 7, 7, 7, 7, 7, 7, 7, 7, 7, 7, 7, 7, 7, 7, 7, 7, 7, 7, 7, 7, 7, 7, 7, 7, 7, 7, 7, 7, 7, 7, 7, 7, 7, 7, 7, 7, 7, 7, 7, 7, 7, 7, 7, 7, 8, 8, 8, 8, 8, 8, 8, 8, 8, 8, 8, 8, 8, 8, 8, 8, 8, 8, 8, 8, 8, 8, 8, 8, 8, 8, 8, 8, 8, 8, 8, 8, 8, 8, 8, 8, 8, 8, 8, 8, 8, 8, 8, 8, 8, 8, 8, 8, 8, 8, 8, 8, 8, 8, 8, 8, 8, 8, 8, 8, 8, 8, 8, 8, 8, 8, 8, 8, 8, 8, 8, 8, 8, 8, 8, 8, 8, 8, 8, 8, 8, 8, 8, 8, 8, 8, 8, 8, 8, 8, 8, 8, 8, 8, 8, 8, 8, 8, 8, 8, 8, 8, 8, 8, 8, 8, 8, 8, 8, 8, 8, 8, 8, 8, 8, 8, 8, 8, 8, 8, 8, 8, 8, 8, 8, 8, 8, 8]⟩)) (.tmp 15), none⟩ ::
⟨(some 17), .cvt .i64 (.tmp 16), none⟩ ::
⟨(some 18), .bin .add (.tmp 13) (.tmp 17), none⟩ ::
⟨(some 2), .mv (.tmp 18), none⟩ ::
[]))
.ret))))
theorem prep128 : prepFunc Tryz.prog 0 128 = some F128 := by kernel_rfl

-- math/bits.Len64
def F129 : AFunc where
  ntmps := 25
  nparams := 1
  results := [(2, none)]
  code :=
(.seq
(.plain (
⟨(some 2), .mv (.const (.int .i64 0)), none⟩ ::
[]))
(.seq
(.seq
(.plain (
⟨(some 3), .mv (.tmp 0), none⟩ ::
⟨(some 4), .bin .geq (.tmp 3) (.const (.int .u64 4294967296)), none⟩ ::
[]))
(.cond (.tmp 4)
(.seq
(.plain (
⟨(some 5), .mv (.tmp 0), none⟩ ::
⟨(some 6), .bin .shr (.tmp 5) (.const (.int .u64 32)), none⟩ ::
⟨(some 0), .mv (.tmp 6), none⟩ ::
[]))
(.plain (
⟨(some 2), .mv (.const (.int .i64 32)), none⟩ ::
[])))
.skip))
(.seq
(.seq
(.plain (
⟨(some 7), .mv (.tmp 0), none⟩ ::
⟨(some 8), .bin .geq (.tmp 7) (.const (.int .u64 65536)), none⟩ ::
[]))
(.cond (.tmp 8)
(.seq
(.plain (
⟨(some 9), .mv (.tmp 0), none⟩ ::
⟨(some 10), .bin .shr (.tmp 9) (.const (.int .u64 16)), none⟩ ::
⟨(some 0), .mv (.tmp 10), none⟩ ::
[]))
(.plain (
⟨(some 11), .mv (.tmp 2), none⟩ ::
⟨(some 12), .bin .add (.tmp 11) (.const (.int .i64 16)), none⟩ ::
⟨(some 2), .mv (.tmp 12), none⟩ ::
[])))
.skip))
(.seq
(.seq
(.plain (
⟨(some 13), .mv (.tmp 0), none⟩ ::
⟨(some 14), .bin .geq (.tmp 13) (.const (.int .u64 256)), none⟩ ::
[]))
(.cond (.tmp 14)
(.seq
(.plain (
⟨(some 15), .mv (.tmp 0), none⟩ ::
⟨(some 16), .bin .shr (.tmp 15) (.const (.int .u64 8)), none⟩ ::
⟨(some 0), .mv (.tmp 16), none⟩ ::
[]))
(.plain (
⟨(some 17), .mv (.tmp 2), none⟩ ::
⟨(some 18), .bin .add (.tmp 17) (.const (.int .i64 8)), none⟩ ::
⟨(some 2), .mv (.tmp 18), none⟩ ::
[])))
.skip))
(.seq
(.plain (
⟨(some 19), .mv (.tmp 2), none⟩ ::
⟨(some 20), .mv (.tmp 0), none⟩ ::
⟨(some 21), .cvt .u8 (.tmp 20), none⟩ ::
⟨(some 22), .idxS (.const (.string ⟨#[0, 1, 2, 2, 3, 3, 3, 3, 4, 4, 4, 4, 4, 4, 4, 4, 5, 5, 5, 5, 5, 5, 5, 5, 5, 5, 5, 5, 5, 5, 5, 5, 6, 6, 6, 6, 6, 6, 6, 6, 6, 6, 6, 6, 6, 6, 6, 6, 6, 6, 6, 6, 6, 6, 6, 6, 6, 6, 6, 6, 6, 6, 6, 6, 7, 7, 7, 7, 7, 7, 7, 7, 7, 7, 7, 7, 7, 7, 7, 7, 7, 7, 7, 7, 7, 7, 7, 7, 7, 7, 7, 7, 7, 7, 7, 7, 7, 7, 7, 7, 7, 7, 7, 7, 7, 7, 7, 7, 7, 7, 7, 7, 7, 7, 7, 7, 7, 7, 7, 7, 7, 7, 7, 7, 7, 7, 7, 7, 8, 8, 8, 8, 8, 8, 8, 8, 8, 8, 8, 8, 8, 8, 8, 8, 8, 8, 8, 8, 8, 8, 8, 8, 8, 8, 8, 8, 8, 8, 8, 8, 8, 8, 8, 8, 8, 8, 8, 8, 8, 8, 8, 8, 8, 8, 8, 8, 8, 8, 8, 8, 8, 8, 8, 8, 8, 8, 8, 8, 8, 8, 8, 8, 8, 8, 8, 8, 8, 8, 8, 8, 8, 8, 8, 8, 8, 8, 8, 8, 8, 8, 8, 8, 8, 8, 8, 8, 8, 8, 8, 8, 8, 8, 8, 8, 8, 8, 8, 8, 8, 8, 8, 8, 8, 8, 8, 8, 8, 8, 8, 8, 8, 8, 8, 8, 8, 8, 8, 8, 8, 8, 8, 8, 8, 8, 8, 8]⟩)) (.tmp 21), none⟩ ::
⟨(some 23), .cvt .i64 (.tmp 22), none⟩ ::
⟨(some 24), .bin .add (.tmp 19) (.tmp 23), none⟩ ::
⟨(some 2), .mv (.tmp 24), none⟩ ::
[]))
.ret)))))
theorem prep129 : prepFunc Tryz.prog 0 129 = some F129 := by kernel_rfl

-- slices.Contains[[]string,string]
def F130 : AFunc where
  ntmps := 9
  nparams := 2
  results := [(4, none)]
  code :=
(.seq
(.plain (
⟨(some 4), .mv (.const (.bool false)), none⟩ ::
[]))
(.seq
(.plain (
⟨(some 5), .mv (.tmp 0), none⟩ ::
⟨(some 6), .mv (.tmp 1), none⟩ ::
⟨(some 7), .callF 139 [(.tmp 5), (.tmp 6)], none⟩ ::
⟨(some 8), .bin .geq (.tmp 7) (.const (.int .i64 0)), none⟩ ::
⟨(some 4), .mv (.tmp 8), none⟩ ::
[]))
.ret))
theorem prep130 : prepFunc Tryz.prog 0 130 = some F130 := by kernel_rfl

-- indenture/catalog.Dims
def F131 : AFunc where
  ntmps := 7
  nparams := 1
  results := [(2, none)]
  code :=
(.seq
(.plain (
⟨(some 1), .box 164 (.tmp 0), none⟩ ::
⟨(some 2), .mv (.const (.int .i64 0)), none⟩ ::
[]))
(.seq
(.plain (
⟨(some 3), .fa 1 (.tmp 1), none⟩ ::
⟨(some 4), .load false 1 (.tmp 3), none⟩ ::
⟨(some 5), .len (.tmp 4), none⟩ ::
⟨(some 6), .bin .add (.tmp 5) (.const (.int .i64 1)), none⟩ ::
⟨(some 2), .mv (.tmp 6), none⟩ ::
[]))
.ret))
theorem prep131 : prepFunc Tryz.prog 0 131 = some F131 := by kernel_rfl

-- indenture/node.KidRight
def F132 : AFunc where
  ntmps := 49
  nparams := 2
  results := [(4, none)]
  code :=
(.seq
(.plain (
⟨(some 2), .box 162 (.tmp 0), none⟩ ::
⟨(some 4), .mv (.const (.bool false)), none⟩ ::
[]))
(.seq
(.block 0
(.seq
(.plain (
⟨(some 6), .load true 37 (.tmp 2), none⟩ ::
⟨(some 7), .callF 133 [(.tmp 6)], none⟩ ::
⟨(some 5), .mv (.tmp 7), none⟩ ::
[]))
(.cond (.tmp 5)
(.seq
(.plain (
⟨(some 4), .mv (.const (.bool true)), none⟩ ::
[]))
.ret)
(.seq
(.plain (
⟨(some 9), .fa 35 (.tmp 2), none⟩ ::
⟨(some 10), .load false 1 (.tmp 9), none⟩ ::
⟨(some 11), .bin .lss (.tmp 10) (.const (.int .i64 1)), none⟩ ::
⟨(some 12), .mv (.tmp 11), none⟩ ::
⟨(some 13), .fa 35 (.tmp 2), (some (12, false))⟩ ::
⟨(some 14), .load false 1 (.tmp 13), (some (12, false))⟩ ::
⟨(some 15), .bin .gtr (.tmp 14) (.const (.int .i64 1048576)), (some (12, false))⟩ ::
⟨(some 16), .pick (.tmp 12) (.const (.bool true)) (.tmp 15), none⟩ ::
⟨(some 17), .mv (.tmp 16), none⟩ ::
⟨(some 18), .fa 34 (.tmp 2), (some (17, false))⟩ ::
⟨(some 19), .load false 1 (.tmp 18), (some (17, false))⟩ ::
⟨(some 20), .bin .lss (.tmp 19) (.const (.int .i64 0)), (some (17, false))⟩ ::
⟨(some 21), .pick (.tmp 17) (.const (.bool true)) (.tmp 20), none⟩ ::
⟨(some 22), .mv (.tmp 21), none⟩ ::
⟨(some 23), .fa 34 (.tmp 2), (some (22, false))⟩ ::
⟨(some 24), .load false 1 (.tmp 23), (some (22, false))⟩ ::
⟨(some 25), .fa 35 (.tmp 2), (some (22, false))⟩ ::
⟨(some 26), .load false 1 (.tmp 25), (some (22, false))⟩ ::
⟨(some 27), .bin .gtr (.tmp 24) (.tmp 26), (some (22, false))⟩ ::
⟨(some 28), .pick (.tmp 22) (.const (.bool true)) (.tmp 27), none⟩ ::
⟨(some 8), .mv (.tmp 28), none⟩ ::
[]))
(.cond (.tmp 8)
(.seq
(.plain (
⟨(some 4), .mv (.const (.bool false)), none⟩ ::
[]))
.ret)
(.seq
(.plain (
⟨(some 30), .fa 34 (.tmp 2), none⟩ ::
⟨(some 31), .load false 1 (.tmp 30), none⟩ ::
⟨(some 32), .bin .eql (.tmp 31) (.const (.int .i64 0)), none⟩ ::
⟨(some 29), .mv (.tmp 32), none⟩ ::
[]))
(.cond (.tmp 29)
(.seq
(.plain (
⟨(some 33), .fa 32 (.tmp 2), none⟩ ::
⟨(some 34), .fa 0 (.tmp 33), none⟩ ::
⟨(some 35), .load false 1 (.tmp 34), none⟩ ::
⟨(some 36), .len (.tmp 35), none⟩ ::
⟨(some 37), .bin .eql (.tmp 36) (.const (.int .i64 0)), none⟩ ::
⟨(some 38), .mv (.tmp 37), none⟩ ::
⟨(some 39), .fa 32 (.tmp 2), (some (38, true))⟩ ::
⟨(some 40), .fa 1 (.tmp 39), (some (38, true))⟩ ::
⟨(some 41), .load false 1 (.tmp 40), (some (38, true))⟩ ::
⟨(some 42), .len (.tmp 41), (some (38, true))⟩ ::
⟨(some 43), .bin .eql (.tmp 42) (.const (.int .i64 0)), (some (38, true))⟩ ::
⟨(some 44), .pick (.tmp 38) (.tmp 43) (.const (.bool false)), none⟩ ::
⟨(some 4), .mv (.tmp 44), none⟩ ::
[]))
.ret)
.skip)))))))
(.seq
(.plain (
⟨(some 45), .fa 32 (.tmp 2), none⟩ ::
⟨(some 46), .load true 2 (.tmp 45), none⟩ ::
⟨(some 47), .mv (.tmp 1), none⟩ ::
⟨(some 48), .callF 140 [(.tmp 46), (.tmp 47)], none⟩ ::
⟨(some 4), .mv (.tmp 48), none⟩ ::
[]))
.ret)))
theorem prep132 : prepFunc Tryz.prog 0 132 = some F132 := by kernel_rfl

-- indenture/node.Empty
def F133 : AFunc where
  ntmps := 6
  nparams := 1
  results := [(2, none)]
  code :=
(.seq
(.plain (
⟨(some 1), .box 162 (.tmp 0), none⟩ ::
⟨(some 2), .mv (.const (.bool false)), none⟩ ::
[]))
(.seq
(.plain (
⟨(some 3), .load true 37 (.tmp 1), none⟩ ::
⟨(some 4), .bld (List.replicate 32 (.v (.int .u8 0)) ++ [(.sl [] .nil), (.sl [] .nil)] ++ [(.v (.int .i64 0)), (.v (.int .i64 0))] ++ [(.sl [] .nil)]) [], none⟩ ::
⟨(some 5), .callF 141 [(.tmp 3), (.tmp 4)], none⟩ ::
⟨(some 2), .mv (.tmp 5), none⟩ ::
[]))
.ret))
theorem prep133 : prepFunc Tryz.prog 0 133 = some F133 := by kernel_rfl

-- slices.siftDownCmpFunc[indenture/api.Digest]
def F134 : AFunc where
  ntmps := 82
  nparams := 5
  results := []
  code :=
(.seq
(.plain (
⟨(some 12), .mv (.tmp 1), none⟩ ::
⟨(some 10), .mv (.tmp 12), none⟩ ::
[]))
(.block 0
(.loop
(.block 1
(.seq
(.plain (
⟨(some 13), .mv (.tmp 10), none⟩ ::
⟨(some 14), .bin .mul (.const (.int .i64 2)) (.tmp 13), none⟩ ::
⟨(some 15), .bin .add (.tmp 14) (.const (.int .i64 1)), none⟩ ::
⟨(some 11), .mv (.tmp 15), none⟩ ::
[]))
(.seq
(.seq
(.plain (
⟨(some 16), .mv (.tmp 11), none⟩ ::
⟨(some 17), .mv (.tmp 2), none⟩ ::
⟨(some 18), .bin .geq (.tmp 16) (.tmp 17), none⟩ ::
[]))
(.cond (.tmp 18)
(.exit 0)
.skip))
(.seq
(.seq
(.draw (
⟨(some 19), .mv (.tmp 11), none⟩ ::
⟨(some 20), .bin .add (.tmp 19) (.const (.int .i64 1)), none⟩ ::
⟨(some 21), .mv (.tmp 2), none⟩ ::
⟨(some 22), .bin .lss (.tmp 20) (.tmp 21), none⟩ ::
⟨(some 23), .mv (.tmp 22), none⟩ ::
⟨(some 24), .mv (.tmp 4), (some (23, true))⟩ ::
⟨(some 25), .mv (.tmp 0), (some (23, true))⟩ ::
⟨(some 26), .mv (.tmp 3), (some (23, true))⟩ ::
⟨(some 27), .mv (.tmp 11), (some (23, true))⟩ ::
⟨(some 28), .bin .add (.tmp 26) (.tmp 27), (some (23, true))⟩ ::
⟨(some 29), .iaS 32 (.tmp 25) (.tmp 28), (some (23, true))⟩ ::
⟨(some 30), .load true 32 (.tmp 29), (some (23, true))⟩ ::
⟨(some 31), .mv (.tmp 0), (some (23, true))⟩ ::
⟨(some 32), .mv (.tmp 3), (some (23, true))⟩ ::
⟨(some 33), .mv (.tmp 11), (some (23, true))⟩ ::
⟨(some 34), .bin .add (.tmp 32) (.tmp 33), (some (23, true))⟩ ::
⟨(some 35), .bin .add (.tmp 34) (.const (.int .i64 1)), (some (23, true))⟩ ::
⟨(some 36), .iaS 32 (.tmp 31) (.tmp 35), (some (23, true))⟩ ::
⟨(some 37), .load true 32 (.tmp 36), (some (23, true))⟩ ::
⟨(some 38), .callV (.tmp 24) [(.tmp 30), (.tmp 37)], (some (23, true))⟩ ::
⟨(some 39), .bin .lss (.tmp 38) (.const (.int .i64 0)), (some (23, true))⟩ ::
⟨(some 40), .pick (.tmp 23) (.tmp 39) (.const (.bool false)), none⟩ ::
[])
(⟨0, [], []⟩ :: ⟨1, [], []⟩ :: ⟨2, [], []⟩ :: ⟨3, [], []⟩ :: ⟨4, [], []⟩ :: ⟨5, [], []⟩ :: ⟨6, [], []⟩ :: ⟨7, [], []⟩ :: ⟨8, [], []⟩ :: ⟨9, [], []⟩ :: ⟨10, [], []⟩ :: ⟨11, [], []⟩ :: ⟨12, [], []⟩ :: ⟨13, [], []⟩ :: ⟨14, [], []⟩ :: ⟨15, [], []⟩ :: ⟨16, [], []⟩ :: ⟨17, [], []⟩ :: ⟨18, [], []⟩ :: ⟨19, [], []⟩ :: ⟨20, [], []⟩ :: ⟨21, [], []⟩ :: []))
(.cond (.tmp 40)
(.plain (
⟨(some 41), .mv (.tmp 11), none⟩ ::
⟨(some 42), .bin .add (.tmp 41) (.const (.int .i64 1)), none⟩ ::
⟨(some 11), .mv (.tmp 42), none⟩ ::
[]))
.skip))
(.seq
(.seq
(.draw (
⟨(some 43), .mv (.tmp 4), none⟩ ::
⟨(some 44), .mv (.tmp 0), none⟩ ::
⟨(some 45), .mv (.tmp 3), none⟩ ::
⟨(some 46), .mv (.tmp 10), none⟩ ::
⟨(some 47), .bin .add (.tmp 45) (.tmp 46), none⟩ ::
⟨(some 48), .iaS 32 (.tmp 44) (.tmp 47), none⟩ ::
⟨(some 49), .load true 32 (.tmp 48), none⟩ ::
⟨(some 50), .mv (.tmp 0), none⟩ ::
⟨(some 51), .mv (.tmp 3), none⟩ ::
⟨(some 52), .mv (.tmp 11), none⟩ ::
⟨(some 53), .bin .add (.tmp 51) (.tmp 52), none⟩ ::
⟨(some 54), .iaS 32 (.tmp 50) (.tmp 53), none⟩ ::
⟨(some 55), .load true 32 (.tmp 54), none⟩ ::
⟨(some 56), .callV (.tmp 43) [(.tmp 49), (.tmp 55)], none⟩ ::
⟨(some 57), .bin .lss (.tmp 56) (.const (.int .i64 0)), none⟩ ::
⟨(some 58), .un .not (.tmp 57), none⟩ ::
[])
(⟨0, [], []⟩ :: ⟨1, [], []⟩ :: ⟨2, [], []⟩ :: ⟨3, [], []⟩ :: ⟨4, [], []⟩ :: ⟨5, [], []⟩ :: ⟨6, [], []⟩ :: ⟨7, [], []⟩ :: ⟨8, [], []⟩ :: ⟨9, [], []⟩ :: ⟨10, [], []⟩ :: ⟨11, [], []⟩ :: ⟨12, [], []⟩ :: ⟨13, [], []⟩ :: ⟨14, [], []⟩ :: ⟨15, [], []⟩ :: []))
(.cond (.tmp 58)
.ret
.skip))
(.seq
(.draw (
⟨(some 59), .mv (.tmp 0), none⟩ ::
⟨(some 60), .mv (.tmp 3), none⟩ ::
⟨(some 61), .mv (.tmp 10), none⟩ ::
⟨(some 62), .bin .add (.tmp 60) (.tmp 61), none⟩ ::
⟨(some 63), .mv (.tmp 0), none⟩ ::
⟨(some 64), .mv (.tmp 3), none⟩ ::
⟨(some 65), .mv (.tmp 11), none⟩ ::
⟨(some 66), .bin .add (.tmp 64) (.tmp 65), none⟩ ::
⟨(some 67), .mv (.tmp 0), none⟩ ::
⟨(some 68), .mv (.tmp 3), none⟩ ::
⟨(some 69), .mv (.tmp 11), none⟩ ::
⟨(some 70), .bin .add (.tmp 68) (.tmp 69), none⟩ ::
⟨(some 71), .iaS 32 (.tmp 67) (.tmp 70), none⟩ ::
⟨(some 72), .load true 32 (.tmp 71), none⟩ ::
⟨(some 73), .mv (.tmp 0), none⟩ ::
⟨(some 74), .mv (.tmp 3), none⟩ ::
⟨(some 75), .mv (.tmp 10), none⟩ ::
⟨(some 76), .bin .add (.tmp 74) (.tmp 75), none⟩ ::
⟨(some 77), .iaS 32 (.tmp 73) (.tmp 76), none⟩ ::
⟨(some 78), .load true 32 (.tmp 77), none⟩ ::
⟨(some 79), .iaS 32 (.tmp 59) (.tmp 62), none⟩ ::
⟨none, .store 32 (.tmp 79) (.tmp 72), none⟩ ::
⟨(some 80), .iaS 32 (.tmp 63) (.tmp 66), none⟩ ::
⟨none, .store 32 (.tmp 80) (.tmp 78), none⟩ ::
[])
(⟨0, [], []⟩ :: ⟨1, [], []⟩ :: ⟨2, [], []⟩ :: ⟨3, [], []⟩ :: ⟨4, [], []⟩ :: ⟨5, [], []⟩ :: ⟨6, [], []⟩ :: ⟨7, [], []⟩ :: ⟨8, [], []⟩ :: ⟨9, [], []⟩ :: ⟨10, [], []⟩ :: ⟨11, [], []⟩ :: ⟨12, [], []⟩ :: ⟨13, [], []⟩ :: ⟨14, [], []⟩ :: ⟨15, [], []⟩ :: ⟨16, [], []⟩ :: ⟨17, [], []⟩ :: ⟨18, [], []⟩ :: ⟨19, [], []⟩ :: ⟨20, [], []⟩ :: ⟨21, [], []⟩ :: ⟨22, [], []⟩ :: ⟨23, [], []⟩ :: []))
(.plain (
⟨(some 81), .mv (.tmp 11), none⟩ ::
⟨(some 10), .mv (.tmp 81), none⟩ ::
[])))))))))))
theorem prep134 : prepFunc Tryz.prog 0 134 = some F134 := by kernel_rfl

-- slices.nextPowerOfTwo
def F135 : AFunc where
  ntmps := 7
  nparams := 1
  results := [(2, none)]
  code :=
(.seq
(.plain (
⟨(some 2), .mv (.const (.int .u64 0)), none⟩ ::
[]))
(.seq
(.plain (
⟨(some 3), .mv (.tmp 0), none⟩ ::
⟨(some 4), .cvt .u64 (.tmp 3), none⟩ ::
⟨(some 5), .callF 106 [(.tmp 4)], none⟩ ::
⟨(some 6), .bin .shl (.const (.int .u64 1)) (.tmp 5), none⟩ ::
⟨(some 2), .mv (.tmp 6), none⟩ ::
[]))
.ret))
theorem prep135 : prepFunc Tryz.prog 0 135 = some F135 := by kernel_rfl

-- (*slices.xorshift).Next
def F136 : AFunc where
  ntmps := 33
  nparams := 1
  results := [(2, none)]
  code :=
(.seq
(.plain (
⟨(some 2), .mv (.const (.int .u64 0)), none⟩ ::
[]))
(.seq
(.draw (
⟨(some 3), .mv (.tmp 0), none⟩ ::
⟨(some 4), .nilc (.tmp 3), none⟩ ::
⟨(some 5), .load false 1 (.tmp 4), none⟩ ::
⟨(some 6), .mv (.tmp 0), none⟩ ::
⟨(some 7), .nilc (.tmp 6), none⟩ ::
⟨(some 8), .load false 1 (.tmp 7), none⟩ ::
⟨(some 9), .bin .shl (.tmp 8) (.const (.int .u64 13)), none⟩ ::
⟨(some 10), .bin .xor (.tmp 5) (.tmp 9), none⟩ ::
⟨(some 11), .nilc (.tmp 3), none⟩ ::
⟨none, .store 1 (.tmp 11) (.tmp 10), none⟩ ::
[])
(⟨0, [], []⟩ :: ⟨1, [], []⟩ :: ⟨2, [], []⟩ :: ⟨3, [], []⟩ :: ⟨4, [], []⟩ :: ⟨5, [], []⟩ :: ⟨6, [], []⟩ :: ⟨7, [], []⟩ :: ⟨8, [], []⟩ :: ⟨9, [], []⟩ :: []))
(.seq
(.draw (
⟨(some 12), .mv (.tmp 0), none⟩ ::
⟨(some 13), .nilc (.tmp 12), none⟩ ::
⟨(some 14), .load false 1 (.tmp 13), none⟩ ::
⟨(some 15), .mv (.tmp 0), none⟩ ::
⟨(some 16), .nilc (.tmp 15), none⟩ ::
⟨(some 17), .load false 1 (.tmp 16), none⟩ ::
⟨(some 18), .bin .shr (.tmp 17) (.const (.int .u64 7)), none⟩ ::
⟨(some 19), .bin .xor (.tmp 14) (.tmp 18), none⟩ ::
⟨(some 20), .nilc (.tmp 12), none⟩ ::
⟨none, .store 1 (.tmp 20) (.tmp 19), none⟩ ::
[])
(⟨0, [], []⟩ :: ⟨1, [], []⟩ :: ⟨2, [], []⟩ :: ⟨3, [], []⟩ :: ⟨4, [], []⟩ :: ⟨5, [], []⟩ :: ⟨6, [], []⟩ :: ⟨7, [], []⟩ :: ⟨8, [], []⟩ :: ⟨9, [], []⟩ :: []))
(.seq
(.draw (
⟨(some 21), .mv (.tmp 0), none⟩ ::
⟨(some 22), .nilc (.tmp 21), none⟩ ::
⟨(some 23), .load false 1 (.tmp 22), none⟩ ::
⟨(some 24), .mv (.tmp 0), none⟩ ::
⟨(some 25), .nilc (.tmp 24), none⟩ ::
⟨(some 26), .load false 1 (.tmp 25), none⟩ ::
⟨(some 27), .bin .shl (.tmp 26) (.const (.int .u64 17)), none⟩ ::
⟨(some 28), .bin .xor (.tmp 23) (.tmp 27), none⟩ ::
⟨(some 29), .nilc (.tmp 21), none⟩ ::
⟨none, .store 1 (.tmp 29) (.tmp 28), none⟩ ::
[])
(⟨0, [], []⟩ :: ⟨1, [], []⟩ :: ⟨2, [], []⟩ :: ⟨3, [], []⟩ :: ⟨4, [], []⟩ :: ⟨5, [], []⟩ :: ⟨6, [], []⟩ :: ⟨7, [], []⟩ :: ⟨8, [], []⟩ :: ⟨9, [], []⟩ :: []))
(.seq
(.plain (
⟨(some 30), .mv (.tmp 0), none⟩ ::
⟨(some 31), .nilc (.tmp 30), none⟩ ::
⟨(some 32), .load false 1 (.tmp 31), none⟩ ::
⟨(some 2), .mv (.tmp 32), none⟩ ::
[]))
.ret)))))
theorem prep136 : prepFunc Tryz.prog 0 136 = some F136 := by kernel_rfl

-- slices.medianAdjacentCmpFunc[indenture/api.Digest]
def F137 : AFunc where
  ntmps := 18
  nparams := 4
  results := [(8, none)]
  code :=
(.seq
(.plain (
⟨(some 8), .mv (.const (.int .i64 0)), none⟩ ::
[]))
(.seq
(.plain (
⟨(some 9), .mv (.tmp 0), none⟩ ::
⟨(some 10), .mv (.tmp 1), none⟩ ::
⟨(some 11), .bin .sub (.tmp 10) (.const (.int .i64 1)), none⟩ ::
⟨(some 12), .mv (.tmp 1), none⟩ ::
⟨(some 13), .mv (.tmp 1), none⟩ ::
⟨(some 14), .bin .add (.tmp 13) (.const (.int .i64 1)), none⟩ ::
⟨(some 15), .mv (.tmp 2), none⟩ ::
⟨(some 16), .mv (.tmp 3), none⟩ ::
⟨(some 17), .callF 138 [(.tmp 9), (.tmp 11), (.tmp 12), (.tmp 14), (.tmp 15), (.tmp 16)], none⟩ ::
⟨(some 8), .mv (.tmp 17), none⟩ ::
[]))
.ret))
theorem prep137 : prepFunc Tryz.prog 0 137 = some F137 := by kernel_rfl

-- slices.medianCmpFunc[indenture/api.Digest]
def F138 : AFunc where
  ntmps := 41
  nparams := 6
  results := [(12, none)]
  code :=
(.seq
(.plain (
⟨(some 12), .mv (.const (.int .i64 0)), none⟩ ::
[]))
(.seq
(.plain (
⟨(some 14), .mv (.tmp 0), none⟩ ::
⟨(some 15), .mv (.tmp 1), none⟩ ::
⟨(some 16), .mv (.tmp 2), none⟩ ::
⟨(some 17), .mv (.tmp 4), none⟩ ::
⟨(some 18), .mv (.tmp 5), none⟩ ::
⟨(some 19), .callF 142 [(.tmp 14), (.tmp 15), (.tmp 16), (.tmp 17), (.tmp 18)], none⟩ ::
⟨(some 13), .mv (.tmp 19), none⟩ ::
⟨(some 20), .ext (.tmp 13) 0, none⟩ ::
⟨(some 21), .ext (.tmp 13) 1, none⟩ ::
⟨(some 1), .mv (.tmp 20), none⟩ ::
⟨(some 2), .mv (.tmp 21), none⟩ ::
[]))
(.seq
(.plain (
⟨(some 23), .mv (.tmp 0), none⟩ ::
⟨(some 24), .mv (.tmp 2), none⟩ ::
⟨(some 25), .mv (.tmp 3), none⟩ ::
⟨(some 26), .mv (.tmp 4), none⟩ ::
⟨(some 27), .mv (.tmp 5), none⟩ ::
⟨(some 28), .callF 142 [(.tmp 23), (.tmp 24), (.tmp 25), (.tmp 26), (.tmp 27)], none⟩ ::
⟨(some 22), .mv (.tmp 28), none⟩ ::
⟨(some 29), .ext (.tmp 22) 0, none⟩ ::
⟨(some 30), .ext (.tmp 22) 1, none⟩ ::
⟨(some 2), .mv (.tmp 29), none⟩ ::
⟨(some 3), .mv (.tmp 30), none⟩ ::
[]))
(.seq
(.plain (
⟨(some 32), .mv (.tmp 0), none⟩ ::
⟨(some 33), .mv (.tmp 1), none⟩ ::
⟨(some 34), .mv (.tmp 2), none⟩ ::
⟨(some 35), .mv (.tmp 4), none⟩ ::
⟨(some 36), .mv (.tmp 5), none⟩ ::
⟨(some 37), .callF 142 [(.tmp 32), (.tmp 33), (.tmp 34), (.tmp 35), (.tmp 36)], none⟩ ::
⟨(some 31), .mv (.tmp 37), none⟩ ::
⟨(some 38), .ext (.tmp 31) 0, none⟩ ::
⟨(some 39), .ext (.tmp 31) 1, none⟩ ::
⟨(some 1), .mv (.tmp 38), none⟩ ::
⟨(some 2), .mv (.tmp 39), none⟩ ::
[]))
(.seq
(.plain (
⟨(some 40), .mv (.tmp 2), none⟩ ::
⟨(some 12), .mv (.tmp 40), none⟩ ::
[]))
.ret)))))
theorem prep138 : prepFunc Tryz.prog 0 138 = some F138 := by kernel_rfl

end Go.Proofs.YtnnjjmiahcnbaaaGreat
/-
  Running abstract code by 'simp': equations that unfold one step, and the arithmetic of words.
-/
namespace Go.Av
open Go

/-! 'simp' does not look into an argument that another argument's type depends on: so continuations are put away -/
abbrev Dep.{u} {α : Sort u} (_ : α) : Type := Unit
def hid1 {α : Type} (C : α → Prop) (_ : Dep C) (a : α) : Prop := C a
def hid2 {α β : Type} (C : α → β → Prop) (_ : Dep C) (a : α) (b : β) : Prop := C a b
def hidP (p : Prop) (_ : Dep p) : Prop := p
theorem hid1_eq {α : Type} {C : α → Prop} {d : Dep C} {a : α} : hid1 C d a = C a := rfl
theorem hid2_eq {α β : Type} {C : α → β → Prop} {d : Dep C} {a : α} {b : β} : hid2 C d a b = C a b := rfl
theorem hidP_eq {p : Prop} {d : Dep p} : hidP p d = p := rfl

def newK (s : Hp) (C : Nat → Prop) : Prop := ∀ l, s l = none → C l
def andK (A B : Prop) : Prop := A ∧ B
theorem andK_ok {p B : Prop} {d : Dep B} (h : p) : andK p (hidP B d) = B := by simp [andK, hidP, h]
theorem andK_true {B : Prop} {d : Dep B} : andK True (hidP B d) = B := by simp [andK, hidP]

section
variable {P : Ctx} {K : Ex → Fr → Hp → Prop} {f : Fr} {s : Hp}

theorem awp_skip : awp P .skip K f s = K .norm f s := rfl
theorem awp_ret : awp P .ret K f s = K .ret f s := rfl
theorem awp_exit {i : Nat} : awp P (.exit i) K f s = K (.exit i) f s := rfl
theorem awp_seq {a b : ACode} : awp P (.seq a b) K f s = awp P a (seqK (awp P b K) K) f s := rfl
theorem awp_block {i : Nat} {a : ACode} : awp P (.block i a) K f s = awp P a (blockK i K) f s := rfl
theorem awp_plain {ops : List AOper} : awp P (.plain ops) K f s = runL P ops (K .norm) f s := rfl
theorem awp_draw {ops : List AOper} {l : List CO} : awp P (.draw ops l) K f s = can P (nth ops) (K .norm) l f s := rfl

def condK (c : AV) (A B : Prop) : Prop :=
  match c with
  | .v (.bool t) => (t = true → A) ∧ (t = false → B)
  | _ => False
theorem awp_cond {c : Operand} {a b : ACode} : awp P (.cond c a b) K f s = condK (ev f c) (hidP (awp P a K f s) ()) (hidP (awp P b K f s) ()) := rfl
theorem condK_true {A B : Prop} {d : Dep A} : condK (.v (.bool true)) (hidP A d) B = A := by simp [condK, hidP]
theorem condK_false {A B : Prop} {d : Dep B} : condK (.v (.bool false)) A (hidP B d) = B := by simp [condK, hidP]
theorem condK_bool {t : Bool} {A B : Prop} : condK (.v (.bool t)) A B = ((t = true → A) ∧ (t = false → B)) := rfl

theorem awp_loopK {a : ACode} : awp P (.loop a) K f s = hidP (awp P (.loop a) K f s) () := rfl
theorem awp_loop {a : ACode} (I : Fr → Hp → Prop) (m : Fr → Hp → Nat) (h0 : I f s) (h : ∀ f s, I f s → awp P a (seqK (fun f' s' => I f' s' ∧ m f' s' < m f s) K) f s) : awp P (.loop a) K f s := ⟨I, m, h0, h⟩

theorem seqK_norm {n : Fr → Hp → Prop} : seqK n K .norm f s = n f s := rfl
theorem seqK_ret {n : Fr → Hp → Prop} : seqK n K .ret f s = K .ret f s := rfl
theorem seqK_exit {n : Fr → Hp → Prop} {i : Nat} : seqK n K (.exit i) f s = K (.exit i) f s := rfl
theorem blockK_norm {i : Nat} : blockK i K .norm f s = K .norm f s := rfl
theorem blockK_ret {i : Nat} : blockK i K .ret f s = K .ret f s := rfl
theorem blockK_exit {i j : Nat} : blockK i K (.exit j) f s = (if j = i then K .norm f s else K (.exit j) f s) := by
  simp only [blockK]; split <;> rfl
theorem blockK_same {i : Nat} : blockK i K (.exit i) f s = K .norm f s := by simp [blockK]

theorem runL_nil {Kf : Fr → Hp → Prop} : runL P [] Kf f s = Kf f s := rfl
theorem runL_cons {Kf : Fr → Hp → Prop} {d : Option Nat} {op : AOp} {r : List AOper} : runL P (⟨d, op, none⟩ :: r) Kf f s = G P op f s (fun x s' => runL P r Kf (putF f d x) s') := rfl
def guardK (c : AV) (want : Bool) (A B : Prop) : Prop :=
  match c with
  | .v (.bool b) => if b = want then A else B
  | .tup [] => B
  | _ => False
theorem runL_guard {Kf : Fr → Hp → Prop} {d : Option Nat} {op : AOp} {g : Nat} {want : Bool} {r : List AOper} :
    runL P (⟨d, op, some (g, want)⟩ :: r) Kf f s = guardK (f g) want (hidP (G P op f s (fun x s' => runL P r Kf (putF f d x) s')) ()) (hidP (runL P r Kf (putF f d (.tup [])) s) ()) := rfl
theorem guardK_tt {A B : Prop} {d : Dep A} : guardK (.v (.bool true)) true (hidP A d) B = A := by simp [guardK, hidP]
theorem guardK_ff {A B : Prop} {d : Dep A} : guardK (.v (.bool false)) false (hidP A d) B = A := by simp [guardK, hidP]
theorem guardK_tf {A B : Prop} {d : Dep B} : guardK (.v (.bool true)) false A (hidP B d) = B := by simp [guardK, hidP]
theorem guardK_ft {A B : Prop} {d : Dep B} : guardK (.v (.bool false)) true A (hidP B d) = B := by simp [guardK, hidP]
theorem guardK_no {w : Bool} {A B : Prop} {d : Dep B} : guardK (.tup []) w A (hidP B d) = B := rfl
theorem guardK_bool {b w : Bool} {A B : Prop} : guardK (.v (.bool b)) w A B = ((b = w → A) ∧ (b = (!w) → B)) := by
  cases b <;> cases w <;> simp [guardK]

theorem can_nil {xs : Nat → AOper} {Kf : Fr → Hp → Prop} : can P xs Kf [] f s = Kf f s := rfl
def tK (x : AOper) (C : AOper → Prop) : Prop := C x
theorem tK_eq {d : Option Nat} {op : AOp} {g : Option (Nat × Bool)} {C : AOper → Prop} : tK ⟨d, op, g⟩ C = C ⟨d, op, g⟩ := rfl
theorem can_cons {xs : Nat → AOper} {Kf : Fr → Hp → Prop} {i : Nat} {r : List CO} : can P xs Kf (⟨i, [], []⟩ :: r) f s = tK (xs i) (hid1 (fun x => T P x (fun f' s' => can P xs Kf r f' s') f s) ()) := by
  simp only [can, List.not_mem_nil, false_implies, implies_true, true_and, tK, hid1]
theorem can_pre {xs : Nat → AOper} {Kf : Fr → Hp → Prop} {i j : Nat} {pre chk : List Nat} {r : List CO} : can P xs Kf (⟨i, j :: pre, chk⟩ :: r) f s = andK (tK (xs j) (hid1 (fun x => Def P x f) ())) (hidP (can P xs Kf (⟨i, pre, chk⟩ :: r) f s) ()) := by
  simp only [can, List.mem_cons, forall_eq_or_imp, andK, tK, hid1, hidP]; exact propext and_assoc
def chkT (P : Ctx) (x : AOper) (f : Fr) (s : Hp) : Prop :=
  match x.dst with
  | some d => E P x f s fun r _ => r = f d
  | none => True
def chkL (P : Ctx) (xs : Nat → AOper) (f : Fr) (s : Hp) : List Nat → Prop → Prop
  | [], A => A
  | j :: r, A => andK (tK (xs j) (hid1 (fun x => chkT P x f s) ())) (hidP (chkL P xs f s r A) ())
theorem chkL_nil {xs : Nat → AOper} {A : Prop} : chkL P xs f s [] A = A := rfl
theorem chkL_cons {xs : Nat → AOper} {j : Nat} {r : List Nat} {A : Prop} : chkL P xs f s (j :: r) A = andK (tK (xs j) (hid1 (fun x => chkT P x f s) ())) (hidP (chkL P xs f s r A) ()) := rfl
theorem chkL_eq {xs : Nat → AOper} {A : Prop} : ∀ l, chkL P xs f s l A = ((∀ j ∈ l, Chk P xs j f s) ∧ A)
  | [] => by simp [chkL]
  | j :: r => by simp only [chkL, chkL_eq r, andK, tK, hid1, hidP, List.mem_cons, forall_eq_or_imp, Chk, chkT]; exact propext and_assoc.symm
theorem can_chk {xs : Nat → AOper} {Kf : Fr → Hp → Prop} {i j : Nat} {chk : List Nat} {r : List CO} : can P xs Kf (⟨i, [], j :: chk⟩ :: r) f s = tK (xs i) (hid1 (fun x => T P x (fun f' s' => chkL P xs f' s' (j :: chk) (can P xs Kf r f' s')) f s) ()) := by
  simp only [can, List.not_mem_nil, false_implies, implies_true, true_and, tK, hid1, chkL_eq]
theorem Def_none {d : Option Nat} {op : AOp} : Def P ⟨d, op, none⟩ f = G P op f Hp.emp (fun _ _ => True) := rfl
theorem chkT_none {d : Nat} {op : AOp} : chkT P ⟨some d, op, none⟩ f s = G P op f s (fun r _ => r = f d) := rfl
theorem newK_true {d : Dep (fun _ : Nat => True)} : newK s (hid1 (fun _ => True) d) = True := by simp [newK, hid1]
theorem can_cons' {xs : Nat → AOper} {Kf : Fr → Hp → Prop} {i : Nat} {pre chk : List Nat} {r : List CO} :
    can P xs Kf (⟨i, pre, chk⟩ :: r) f s = ((∀ j ∈ pre, Def P (xs j) f) ∧ T P (xs i) (fun f' s' => (∀ j ∈ chk, Chk P xs j f' s') ∧ can P xs Kf r f' s') f s) := rfl
theorem nth_zero {x : AOper} {r : List AOper} : nth (x :: r) 0 = x := rfl
theorem nth_succ {x : AOper} {r : List AOper} {i : Nat} : nth (x :: r) (i + 1) = nth r i := rfl
theorem T_none {Kf : Fr → Hp → Prop} {d : Option Nat} {op : AOp} : T P ⟨d, op, none⟩ Kf f s = G P op f s (fun x s' => Kf (putF f d x) s') := rfl
theorem T_guard {Kf : Fr → Hp → Prop} {d : Option Nat} {op : AOp} {g : Nat} {want : Bool} : T P ⟨d, op, some (g, want)⟩ Kf f s = guardK (f g) want (hidP (G P op f s (fun x s' => Kf (putF f d x) s')) ()) (hidP (Kf (putF f d (.tup [])) s) ()) := rfl


theorem putF_get {d t : Nat} {a : AV} : putF f (some d) a t = if t = d then a else f t := rfl
theorem putF_none {t : Nat} {a : AV} : putF f none a t = f t := rfl
theorem upd_get {d t : Nat} {a : AV} : upd f d a t = if t = d then a else f t := rfl

def valK (r : Option AV) (C : AV → Prop) : Prop :=
  match r with
  | some r => C r
  | none => False
theorem valK_ite {c : Prop} [Decidable c] {r : AV} {C : AV → Prop} : valK (if c then some r else none) C = (c ∧ C r) := by
  split <;> simp [valK, *]
theorem valK_some {r : AV} {C : AV → Prop} : valK (some r) C = C r := rfl
def letK (r : AV) (C : AV → Prop) : Prop := C r
theorem letK_eq {r : AV} {C : AV → Prop} : letK r C = C r := rfl
def cellK (r : Option (List AV)) (C : List AV → Prop) : Prop :=
  match r with
  | some r => C r
  | none => False
theorem cellK_some {r : List AV} {C : List AV → Prop} : cellK (some r) C = C r := rfl
section
variable {Kv : AV → Hp → Prop}
theorem G_mv {x : Operand} : G P (.mv x) f s Kv = letK (ev f x) (hid1 (fun r => Kv r s) ()) := rfl
def pickA (c a b : AV) : Option AV :=
  match c with
  | .v (.bool t) => some (if t then a else b)
  | _ => none
theorem pickA_true {a b : AV} : pickA (.v (.bool true)) a b = some a := rfl
theorem pickA_false {a b : AV} : pickA (.v (.bool false)) a b = some b := rfl
theorem G_pick {c a b : Operand} : G P (.pick c a b) f s Kv = valK (pickA (ev f c) (ev f a) (ev f b)) (hid1 (fun r => Kv r s) ()) := by
  simp only [G, pickA]; generalize ev f c = a
  cases a <;> first | rfl | (rename_i v; cases v <;> rfl)
theorem G_alloc {T : TypeId} {z : List AV} : G P (.alloc T z) f s Kv = newK s (hid1 (fun l => Kv (.ptr l 0) (s.set l (.cells z))) ()) := rfl
theorem G_box {T : TypeId} {x : Operand} : G P (.box T x) f s Kv = letK (ev f x) (hid1 (fun a => andK (0 < a.cells.length) (hidP (newK s (hid1 (fun l => Kv (.ptr l 0) (s.set l (.cells a.cells))) ())) ())) ()) := rfl
theorem G_boxR {T : TypeId} {x : Operand} : G P (.boxR T x) f s Kv = letK (ev f x) (hid1 (fun a => andK (0 < a.cells.length) (hidP (newK s (hid1 (fun l => Kv (.ptr l 0) (s.set l (.ro a.cells))) ())) ())) ()) := rfl

def loadA (agg : Bool) (n : Nat) (s : Hp) (a : AV) : Option AV :=
  match a with
  | .ptr l off => match s.read l with
    | some cs => if off + n ≤ cs.length then some (mkv agg n (cs.drop off)) else none
    | none => none
  | .rptr cs => if n ≤ cs.length then some (mkv agg n cs) else none
  | _ => none
def rdA (agg : Bool) (n off : Nat) (cs : Option (List AV)) : Option AV :=
  match cs with
  | some cs => if off + n ≤ cs.length then some (mkv agg n (cs.drop off)) else none
  | none => none
theorem loadA_ptr {agg : Bool} {n l off : Nat} : loadA agg n s (.ptr l off) = rdA agg n off (s.read l) := rfl
theorem rdA_some {agg : Bool} {n off : Nat} {cs : List AV} (h : off + n ≤ cs.length) : rdA agg n off (some cs) = some (mkv agg n (cs.drop off)) := by simp [rdA, h]
theorem loadA_rptr {agg : Bool} {n : Nat} {cs : List AV} (h : n ≤ cs.length) : loadA agg n s (.rptr cs) = some (mkv agg n cs) := by simp [loadA, h]
theorem G_load {agg : Bool} {n : Nat} {x : Operand} : G P (.load agg n x) f s Kv = valK (loadA agg n s (ev f x)) (hid1 (fun r => Kv r s) ()) := by
  simp only [G, loadA]; generalize ev f x = a
  cases a <;> first
    | rfl
    | (simp only [valK_ite, hid1_eq]; done)
    | (rename_i l off; simp only []; generalize s.read l = c; cases c <;> first | rfl | (simp only [valK_ite, hid1_eq]))
def stA (s : Hp) (l : Nat) : Option (List AV) :=
  match s l with
  | some (.cells cs) => some cs
  | _ => none
def storeK (s : Hp) (n : Nat) (p : AV) (ys : List AV) (C : Hp → Prop) : Prop :=
  match p with
  | .ptr l off => cellK (stA s l) fun cs => andK (ys.length = n ∧ off + n ≤ cs.length) (C (s.set l (.cells (putAt cs off ys))))
  | _ => False
theorem storeK_ptr {n l off : Nat} {ys : List AV} {C : Hp → Prop} : storeK s n (.ptr l off) ys C = cellK (stA s l) (hid1 (fun cs => andK (ys.length = n ∧ off + n ≤ cs.length) (hidP (cellK (some (putAt cs off ys)) (hid1 (fun zs => C (s.set l (.cells zs))) ())) ())) ()) := rfl
theorem G_store {n : Nat} {x y : Operand} : G P (.store n x y) f s Kv = storeK s n (ev f x) (ev f y).cells (hid1 (fun s' => Kv (.tup []) s') ()) := by
  simp only [G, storeK]; generalize ev f x = a
  cases a <;> first
    | rfl
    | (rename_i l off
       simp only [stA]
       cases s l with
       | none => rfl
       | some o => cases o with
         | cells cs => exact propext and_assoc.symm
         | _ => rfl)
def nilcA (a : AV) : Option AV :=
  match a with
  | .ptr l off => some (.ptr l off)
  | .rptr cs => some (.rptr cs)
  | .clo n ds cs => some (.clo n ds cs)
  | _ => none
theorem nilcA_ptr {l off : Nat} : nilcA (.ptr l off) = some (.ptr l off) := rfl
theorem nilcA_rptr {cs : List AV} : nilcA (.rptr cs) = some (.rptr cs) := rfl
theorem G_nilc {x : Operand} : G P (.nilc x) f s Kv = valK (nilcA (ev f x)) (hid1 (fun r => Kv r s) ()) := by
  simp only [G, nilcA]; generalize ev f x = a
  cases a <;> first | rfl | (rename_i v; cases v <;> rfl)
def faA (off : Nat) (a : AV) : Option AV :=
  match a with
  | .ptr l o => some (.ptr l (o + off))
  | .rptr cs => some (.rptr (cs.drop off))
  | _ => none
theorem faA_ptr {off l o : Nat} : faA off (.ptr l o) = some (.ptr l (o + off)) := rfl
theorem faA_rptr {off : Nat} {cs : List AV} : faA off (.rptr cs) = some (.rptr (cs.drop off)) := rfl
theorem G_fa {off : Nat} {x : Operand} : G P (.fa off x) f s Kv = valK (faA off (ev f x)) (hid1 (fun r => Kv r s) ()) := by
  simp only [G, faA]; generalize ev f x = a
  cases a <;> first | rfl | (rename_i v; cases v <;> rfl)
def iaAA (k len : Nat) (a i : AV) : Option AV :=
  match a, i with
  | .ptr l o, .v (.int _ n) => if 0 ≤ n ∧ n < len then some (.ptr l (o + n.toNat * k)) else none
  | .rptr cs, .v (.int _ n) => if 0 ≤ n ∧ n < len then some (.rptr (cs.drop (n.toNat * k))) else none
  | _, _ => none
theorem iaAA_ptr {k len l o : Nat} {kd : IntKind} {n : Int} (h : 0 ≤ n) (h2 : n < len) : iaAA k len (.ptr l o) (.v (.int kd n)) = some (.ptr l (o + n.toNat * k)) := by simp [iaAA, h, h2]
theorem iaAA_rptr {k len : Nat} {cs : List AV} {kd : IntKind} {n : Int} (h : 0 ≤ n) (h2 : n < len) : iaAA k len (.rptr cs) (.v (.int kd n)) = some (.rptr (cs.drop (n.toNat * k))) := by simp [iaAA, h, h2]
theorem G_iaA {k len : Nat} {x i : Operand} : G P (.iaA k len x i) f s Kv = valK (iaAA k len (ev f x) (ev f i)) (hid1 (fun r => Kv r s) ()) := by
  simp only [G, iaAA]; generalize ev f x = a; generalize ev f i = b
  cases a <;> first
    | rfl
    | (cases b <;> first
        | rfl
        | (rename_i w; cases w <;> first
            | rfl
            | (simp only [valK_ite, hid1_eq]; exact propext and_assoc.symm)))
/-- the element at a place, as read-only cells -/
def elA (k : Nat) (e : Option AV) : Option AV :=
  match e with
  | some e => if e.cells.length = k then some (.rptr e.cells) else none
  | none => none
theorem elA_some {k : Nat} {e : AV} (h : e.cells.length = k) : elA k (some e) = some (.rptr e.cells) := by simp [elA, h]
def iaSA (k : Nat) (a i : AV) : Option AV :=
  match a, i with
  | .sl xs _, .v (.int _ n) => if 0 ≤ n then elA k xs[n.toNat]? else none
  | .msl l off len k', .v (.int _ n) => if k' = k ∧ 0 ≤ n ∧ n < len then some (.ptr l (off + n.toNat * k)) else none
  | .mb l len _ k', .v (.int _ n) => if k' = k ∧ 0 ≤ n ∧ n < len then some (.ptr l (n.toNat * k)) else none
  | _, _ => none
theorem iaSA_sl {k : Nat} {xs : List AV} {o : Own} {kd : IntKind} {n : Int} (h : 0 ≤ n) : iaSA k (.sl xs o) (.v (.int kd n)) = elA k xs[n.toNat]? := by simp [iaSA, h]
theorem iaSA_mb {k l len cap : Nat} {kd : IntKind} {n : Int} (h : 0 ≤ n) (h2 : n < len) : iaSA k (.mb l len cap k) (.v (.int kd n)) = some (.ptr l (n.toNat * k)) := by simp [iaSA, h, h2]
theorem iaSA_msl {k l off len : Nat} {kd : IntKind} {n : Int} (h : 0 ≤ n) (h2 : n < len) : iaSA k (.msl l off len k) (.v (.int kd n)) = some (.ptr l (off + n.toNat * k)) := by simp [iaSA, h, h2]
theorem G_iaS {k : Nat} {x i : Operand} : G P (.iaS k x i) f s Kv = valK (iaSA k (ev f x) (ev f i)) (hid1 (fun r => Kv r s) ()) := by
  simp only [G, iaSA]; generalize ev f x = a; generalize ev f i = b
  cases a <;> first
    | rfl
    | (cases b <;> first
        | rfl
        | (rename_i w; cases w <;> first
            | rfl
            | (simp only [valK_ite, hid1_eq]; apply propext; constructor
               · rintro ⟨h1, h2, h3, h4⟩; exact ⟨⟨h1, h2, h3⟩, h4⟩
               · rintro ⟨⟨h1, h2, h3⟩, h4⟩; exact ⟨h1, h2, h3, h4⟩)
            | (rename_i xs o kd n
               by_cases h : 0 ≤ n
               · simp only [h, true_and, if_true, elA]
                 generalize xs[n.toNat]? = c
                 cases c <;> first | rfl | (simp only [valK_ite, hid1_eq])
               · simp [h, valK])))
def fldA (agg : Bool) (off n : Nat) (a : AV) : Option AV :=
  match a with
  | .agg cs => if off + n ≤ cs.length then some (mkv agg n (cs.drop off)) else none
  | _ => none
theorem fldA_agg {agg : Bool} {off n : Nat} {cs : List AV} (h : off + n ≤ cs.length) : fldA agg off n (.agg cs) = some (mkv agg n (cs.drop off)) := by simp [fldA, h]
theorem G_fld {agg : Bool} {off n : Nat} {x : Operand} : G P (.fld agg off n x) f s Kv = valK (fldA agg off n (ev f x)) (hid1 (fun r => Kv r s) ()) := by
  simp only [G, fldA]; generalize ev f x = a
  cases a <;> first | rfl | (simp only [valK_ite, hid1_eq])
def idxAA (agg : Bool) (k len : Nat) (a i : AV) : Option AV :=
  match a, i with
  | .agg cs, .v (.int _ n) => if 0 ≤ n ∧ n < len ∧ n.toNat * k + k ≤ cs.length then some (mkv agg k (cs.drop (n.toNat * k))) else none
  | _, _ => none
theorem idxAA_agg {agg : Bool} {k len : Nat} {cs : List AV} {kd : IntKind} {n : Int} (h : 0 ≤ n) (h2 : n < len) (h3 : n.toNat * k + k ≤ cs.length) : idxAA agg k len (.agg cs) (.v (.int kd n)) = some (mkv agg k (cs.drop (n.toNat * k))) := by simp [idxAA, h, h2, h3]
theorem G_idxA {agg : Bool} {k len : Nat} {x i : Operand} : G P (.idxA agg k len x i) f s Kv = valK (idxAA agg k len (ev f x) (ev f i)) (hid1 (fun r => Kv r s) ()) := by
  simp only [G, idxAA]; generalize ev f x = a; generalize ev f i = b
  cases a <;> first
    | rfl
    | (cases b <;> first
        | rfl
        | (rename_i w; cases w <;> first
            | rfl
            | (simp only [valK_ite, hid1_eq]; apply propext; constructor
               · rintro ⟨h1, h2, h3, h4⟩; exact ⟨⟨h1, h2, h3⟩, h4⟩
               · rintro ⟨⟨h1, h2, h3⟩, h4⟩; exact ⟨h1, h2, h3, h4⟩)))
def bldK (f : Fr) (cells : List AV) : List (Nat × Nat × Operand) → (List AV → Prop) → Prop
  | [], C => C cells
  | (off, sz, x) :: r, C => letK (ev f x) fun a => andK (a.cells.length = sz ∧ off + sz ≤ cells.length) (cellK (some (putAt cells off a.cells)) fun zs => bldK f zs r C)
theorem bldK_nil {cells : List AV} {C : List AV → Prop} : bldK f cells [] C = C cells := rfl
theorem bldK_cons {cells : List AV} {off sz : Nat} {x : Operand} {r : List (Nat × Nat × Operand)} {C : List AV → Prop} : bldK f cells ((off, sz, x) :: r) C = letK (ev f x) (hid1 (fun a => andK (a.cells.length = sz ∧ off + sz ≤ cells.length) (hidP (cellK (some (putAt cells off a.cells)) (hid1 (fun zs => bldK f zs r C) ())) ())) ()) := rfl
theorem bldK_eq {C : List AV → Prop} : ∀ (parts : List (Nat × Nat × Operand)) (cells : List AV), fillG f cells parts C = bldK f cells parts C
  | [], _ => rfl
  | (off, sz, x) :: r, cells => by
    simp only [fillG, bldK, letK, andK, cellK, bldK_eq r]
    exact propext and_assoc.symm
theorem G_bld {z : List AV} {parts : List (Nat × Nat × Operand)} : G P (.bld z parts) f s Kv = bldK f z parts fun cs => Kv (.agg cs) s := bldK_eq parts z
def lenAA (a : AV) : Option AV :=
  match a with
  | .sl xs _ => some (.v (.int .i64 xs.length))
  | .msl _ _ n _ => some (.v (.int .i64 n))
  | .mb _ n _ _ => some (.v (.int .i64 n))
  | _ => none
theorem lenAA_mb {l n cap k : Nat} : lenAA (.mb l n cap k) = some (.v (.int .i64 n)) := rfl
theorem lenAA_sl {xs : List AV} {o : Own} : lenAA (.sl xs o) = some (.v (.int .i64 xs.length)) := rfl
theorem lenAA_msl {l off n k : Nat} : lenAA (.msl l off n k) = some (.v (.int .i64 n)) := rfl
theorem G_len {x : Operand} : G P (.len x) f s Kv = valK (lenAA (ev f x)) (hid1 (fun r => Kv r s) ()) := by
  simp only [G, lenAA]; generalize ev f x = a
  cases a <;> rfl
theorem G_lenA {n : Nat} : G P (.lenA n) f s Kv = Kv (.v (.int .i64 n)) s := rfl
def binA (op : BinOp) (a b : AV) : Option AV :=
  match a, b with
  | .v a, .v b => (binV op a b).map .v
  | _, _ => none
theorem binA_v {op : BinOp} {a b : Value} : binA op (.v a) (.v b) = (binV op a b).map .v := rfl
theorem G_bin {op : BinOp} {x y : Operand} : G P (.bin op x y) f s Kv = valK (binA op (ev f x) (ev f y)) (hid1 (fun r => Kv r s) ()) := by
  simp only [G, binA]; generalize ev f x = a; generalize ev f y = b
  cases a <;> first
    | rfl
    | (cases b <;> first
        | rfl
        | (rename_i v w; simp only []; generalize binV op v w = c; cases c <;> rfl))
def unA (op : UnOp) (a : AV) : Option AV :=
  match a with
  | .v a => (unV op a).map .v
  | _ => none
theorem unA_v {op : UnOp} {a : Value} : unA op (.v a) = (unV op a).map .v := rfl
theorem G_un {op : UnOp} {x : Operand} : G P (.un op x) f s Kv = valK (unA op (ev f x)) (hid1 (fun r => Kv r s) ()) := by
  simp only [G, unA]; generalize ev f x = a
  cases a <;> first | rfl | (rename_i v; simp only []; generalize unV op v = c; cases c <;> rfl)
def cvtA (k : IntKind) (a : AV) : Option AV :=
  match a with
  | .v (.int _ n) => some (.v (.int k (k.wrap n)))
  | _ => none
theorem cvtA_int {k k' : IntKind} {n : Int} : cvtA k (.v (.int k' n)) = some (.v (.int k (k.wrap n))) := rfl
theorem G_cvt {k : IntKind} {x : Operand} : G P (.cvt k x) f s Kv = valK (cvtA k (ev f x)) (hid1 (fun r => Kv r s) ()) := by
  simp only [G, cvtA]; generalize ev f x = a
  cases a <;> first | rfl | (rename_i v; cases v <;> rfl)
def callK (P : Ctx) (g : FuncId) (args : List AV) (s : Hp) (C : AV → Hp → Prop) : Prop := ACp P.p g args s C (up P.k)
theorem G_callF {g : FuncId} {args : List Operand} : G P (.callF g args) f s Kv = callK P g (args.map (ev f)) s (hid2 Kv ()) := rfl
def extA (i : Nat) (a : AV) : Option AV :=
  match a with
  | .tup vs => vs[i]?
  | _ => none
theorem extA_tup {i : Nat} {vs : List AV} : extA i (.tup vs) = vs[i]? := rfl
theorem G_ext {x : Operand} {i : Nat} : G P (.ext x i) f s Kv = valK (extA i (ev f x)) (hid1 (fun r => Kv r s) ()) := by
  simp only [G, extA]; generalize ev f x = a
  cases a <;> first | rfl | (rename_i vs; cases vs[i]? <;> rfl)
theorem G_eqv {neg : Bool} {ks : List (Nat × CK)} {x y : Operand} {cs ds : List AV} (hx : ev f x = .agg cs) (hy : ev f y = .agg ds) :
    G P (.eqv neg ks x y) f s Kv = andK (fitR ks cs ∧ fitR ks ds) (hidP (Kv (.v (.bool (xor neg (peq (.agg cs) (.agg ds))))) s) ()) := by
  simp only [G, hx, hy, andK]; exact propext and_assoc.symm
def eqbA (neg : Bool) (a b : AV) : Option AV :=
  match a, b with
  | .v (.bool a), .v (.bool b) => some (.v (.bool (xor neg (a == b))))
  | _, _ => none
theorem eqbA_b {neg a b : Bool} : eqbA neg (.v (.bool a)) (.v (.bool b)) = some (.v (.bool (xor neg (a == b)))) := rfl
theorem G_eqb {neg : Bool} {x y : Operand} : G P (.eqb neg x y) f s Kv = valK (eqbA neg (ev f x) (ev f y)) (hid1 (fun r => Kv r s) ()) := by
  simp only [G, eqbA]; generalize ev f x = a; generalize ev f y = b
  cases a <;> first
    | rfl
    | (rename_i v; cases v <;> first
        | rfl
        | (cases b <;> first | rfl | (rename_i w; cases w <;> first | rfl | (rename_i q; cases q <;> rfl)))
        | (rename_i q; cases q <;> first | rfl | (cases b <;> first | rfl | (rename_i w; cases w <;> first | rfl | (rename_i q; cases q <;> rfl)))))
    | (cases b <;> first | rfl | (rename_i w; cases w <;> first | rfl | (rename_i q; cases q <;> rfl)))
def eqpA (neg : Bool) (a b : AV) : Option AV :=
  match a, b with
  | .ptr _ _, .v (.pointer none) => some (.v (.bool neg))
  | .rptr _, .v (.pointer none) => some (.v (.bool neg))
  | .v (.pointer none), .v (.pointer none) => some (.v (.bool (!neg)))
  | _, _ => none
theorem eqpA_ptr {neg : Bool} {l o : Nat} : eqpA neg (.ptr l o) (.v (.pointer none)) = some (.v (.bool neg)) := rfl
theorem eqpA_rptr {neg : Bool} {cs : List AV} : eqpA neg (.rptr cs) (.v (.pointer none)) = some (.v (.bool neg)) := rfl
theorem eqpA_nil {neg : Bool} : eqpA neg (.v (.pointer none)) (.v (.pointer none)) = some (.v (.bool (!neg))) := rfl
theorem G_eqp {neg : Bool} {x y : Operand} : G P (.eqp neg x y) f s Kv = valK (eqpA neg (ev f x) (ev f y)) (hid1 (fun r => Kv r s) ()) := by
  simp only [G, eqpA]; generalize ev f x = a; generalize ev f y = b
  cases a <;> first
    | rfl
    | (rename_i v; cases v <;> first
        | rfl
        | (cases b <;> first | rfl | (rename_i w; cases w <;> first | rfl | (rename_i q; cases q <;> rfl)))
        | (rename_i q; cases q <;> first | rfl | (cases b <;> first | rfl | (rename_i w; cases w <;> first | rfl | (rename_i q; cases q <;> rfl)))))
    | (cases b <;> first | rfl | (rename_i w; cases w <;> first | rfl | (rename_i q; cases q <;> rfl)))
def slcSl (k : Nat) (lo hi : Option Operand) (xs : List AV) (o : Own) (a b : Option Int) : Option AV :=
  match a, b with
  | some a, some b => if 0 ≤ a ∧ a ≤ b ∧ b ≤ xs.length ∧ xs.all (fun e => decide (e.cells.length = k)) then some (.sl ((xs.take b.toNat).drop a.toNat) (SlKeep o lo hi)) else none
  | _, _ => none
theorem slcSl_some {k : Nat} {lo hi : Option Operand} {xs : List AV} {o : Own} {a b : Int} (h1 : 0 ≤ a) (h2 : a ≤ b) (h3 : b ≤ xs.length) (h4 : ∀ e ∈ xs, e.cells.length = k) :
    slcSl k lo hi xs o (some a) (some b) = some (.sl ((xs.take b.toNat).drop a.toNat) (SlKeep o lo hi)) := by
  simp [slcSl, h1, h2, h3]; exact h4
theorem G_slc {k : Nat} {x : Operand} {lo hi : Option Operand} {xs : List AV} {o : Own} (hx : ev f x = .sl xs o) : G P (.slc k x lo hi) f s Kv = valK (slcSl k lo hi xs o (bnd f lo 0) (bnd f hi xs.length)) (hid1 (fun r => Kv r s) ()) := by
  simp only [G, hx, slcSl]
  generalize bnd f lo 0 = a; generalize bnd f hi xs.length = b
  cases a <;> cases b <;> first
    | rfl
    | (simp only [valK_ite, hid1_eq]; apply propext; simp only [List.all_eq_true, decide_eq_true_eq]; constructor
       · rintro ⟨h1, h2, h3, h4, h5⟩; exact ⟨⟨h1, h2, h3, h4⟩, h5⟩
       · rintro ⟨⟨h1, h2, h3, h4⟩, h5⟩; exact ⟨h1, h2, h3, h4, h5⟩)
theorem bnd_none {d : Nat} : bnd f none d = some (d : Int) := rfl
def intOf (a : AV) : Option Int :=
  match a with
  | .v (.int _ n) => some n
  | _ => none
theorem intOf_int {k : IntKind} {n : Int} : intOf (.v (.int k n)) = some n := rfl
theorem bnd_some {x : Operand} {d : Nat} : bnd f (some x) d = intOf (ev f x) := by
  simp only [bnd, intOf]; generalize ev f x = a
  cases a <;> first | rfl | (rename_i v; cases v <;> rfl)
end

def postR (rs : List (Nat × Option (Bool × Nat))) (R : AV → Hp → Prop) : Ex → Fr → Hp → Prop := postF ⟨0, 0, .skip, rs⟩ R
theorem AC_run {P : Program} (hm : P.follows .mixedOrders = true) {m : Nat} {g n np : Nat} {c : ACode} {rs : List (Nat × Option (Bool × Nat))} (hF : prepFunc P m g = some ⟨n, np, c, rs⟩) {args : List AV} {R : AV → Hp → Prop} (hlen : args.length ≤ n)
    (h : awp (Ctx.of P) c (postR rs R) (initF args) s) : AC P g args s R := by
  refine AC_of hm hF hlen ?_
  have e : postF ⟨n, np, c, rs⟩ R = postR rs R := by
    funext e f s; cases e <;> rfl
  rw [e]; exact h
theorem ACp_run {P : Program} (hm : P.follows .mixedOrders = true) {m : Nat} {g n np : Nat} {c : ACode} {rs : List (Nat × Option (Bool × Nat))} (hF : prepFunc P m g = some ⟨n, np, c, rs⟩) {args : List AV} {R Rp : AV → Hp → Prop} (hlen : args.length ≤ n)
    (h : awp ⟨P, Rp⟩ c (postR rs R) (initF args) s) : ACp P g args s R (up Rp) := by
  refine ACp_of hm hF hlen ?_
  have e : postF ⟨n, np, c, rs⟩ R = postR rs R := by
    funext e f s; cases e <;> rfl
  rw [e]; exact h
theorem initF_get {args : List AV} {t : Nat} : initF args t = args.getD t (.tup []) := rfl
theorem postF_ret {F : AFunc} {R : AV → Hp → Prop} : postF F R .ret f s = valK (resAll f s F.results) fun r => ∃ s', s'.sub s ∧ R r s' := by
  apply propext
  simp only [postF]
  constructor
  · rintro ⟨r, s', h, h2, h3⟩; rw [h]; exact ⟨s', h2, h3⟩
  · intro h
    cases hr : resAll f s F.results with
    | none => rw [hr] at h; exact h.elim
    | some r => rw [hr] at h; obtain ⟨s', h2, h3⟩ := h; exact ⟨r, s', rfl, h2, h3⟩
theorem postF_norm {F : AFunc} {R : AV → Hp → Prop} : postF F R .norm f s = postF F R .ret f s := rfl
theorem postR_ret {rs : List (Nat × Option (Bool × Nat))} {R : AV → Hp → Prop} : postR rs R .ret f s = valK (resAll f s rs) (hid1 (fun r => ∃ s', s'.sub s ∧ R r s') ()) := postF_ret
theorem postR_norm {rs : List (Nat × Option (Bool × Nat))} {R : AV → Hp → Prop} : postR rs R .norm f s = postR rs R .ret f s := rfl
theorem resAll_two {p q : Nat × Option (Bool × Nat)} {r u : AV} (h : resG f s p = some r) (h2 : resG f s q = some u) : resAll f s [p, q] = some (.tup [r, u]) := by
  simp only [resAll, mapAll, h, h2]
theorem resAll_three {p q p3 : Nat × Option (Bool × Nat)} {r u v : AV} (h : resG f s p = some r) (h2 : resG f s q = some u) (h3 : resG f s p3 = some v) : resAll f s [p, q, p3] = some (.tup [r, u, v]) := by
  simp only [resAll, mapAll, h, h2, h3]
theorem resAll_none : resAll f s [] = some (.tup []) := rfl
theorem resAll_one {p : Nat × Option (Bool × Nat)} : resAll f s [p] = resG f s p := by
  simp only [resAll, mapAll]; cases resG f s p <;> rfl
theorem resG_tmp {t : Nat} : resG f s (t, none) = some (f t) := rfl
theorem resG_cell {t n : Nat} {agg : Bool} {l off : Nat} (h : f t = .ptr l off) : resG f s (t, some (agg, n)) = rdA agg n off (s.read l) := by
  simp only [resG, h, rdA]; rfl

def resP (agg : Bool) (n : Nat) (s : Hp) (a : AV) : Option AV :=
  match a with
  | .ptr l off => rdA agg n off (s.read l)
  | _ => none
theorem resP_ptr {agg : Bool} {n l off : Nat} : resP agg n s (.ptr l off) = rdA agg n off (s.read l) := rfl
theorem resG_ptr {t n : Nat} {agg : Bool} : resG f s (t, some (agg, n)) = resP agg n s (f t) := by
  simp only [resG, resP]; generalize f t = a
  cases a <;> first | rfl | (simp only [rdA])
theorem Hp.read_eq {l : Nat} : s.read l = match s l with | some (.cells cs) => some cs | some (.ro cs) => some cs | some (.tc _ cs) => some cs | some (.sc cs) => some cs | _ => none := rfl
theorem Hp.set_get {l l' : Nat} {o : Ob} : (s.set l o) l' = if l' = l then some o else s l' := rfl
theorem Hp.read_set_same {l : Nat} {cs : List AV} : (s.set l (.cells cs)).read l = some cs := by simp [Hp.read, Hp.set]
theorem Hp.read_set_ro {l : Nat} {cs : List AV} : (s.set l (.ro cs)).read l = some cs := by simp [Hp.read, Hp.set]
theorem Hp.read_set_ne {l l' : Nat} {o : Ob} (h : l' ≠ l) : (s.set l o).read l' = s.read l' := by simp [Hp.read, Hp.set, h]
theorem Hp.stA_set_same {l : Nat} {cs : List AV} : stA (s.set l (.cells cs)) l = some cs := by simp [stA, Hp.set]
theorem Hp.stA_set_ne {l l' : Nat} {o : Ob} (h : l' ≠ l) : stA (s.set l o) l' = stA s l' := by simp [stA, Hp.set, h]
theorem Hp.read_of {l : Nat} {cs : List AV} (h : s l = some (.cells cs)) : s.read l = some cs := by simp [Hp.read, h]
theorem Hp.read_ofR {l : Nat} {cs : List AV} (h : s l = some (.ro cs)) : s.read l = some cs := by simp [Hp.read, h]
theorem Hp.stA_of {l : Nat} {cs : List AV} (h : s l = some (.cells cs)) : stA s l = some cs := by simp [stA, h]
theorem Hp.set_none {l l' : Nat} {o : Ob} (h : (s.set l o) l' = none) : l' ≠ l ∧ s l' = none := by
  simp only [Hp.set] at h; split at h <;> simp_all
theorem Hp.set_in1 {a b0 : Nat} {oa oc o0 : Ob} (h0 : b0 ≠ a) : ((s.set a oa).set b0 o0).set a oc = ((s.set a oc).set b0 o0) := by rw [Hp.set_set_comm _ h0, Hp.set_set]
theorem Hp.set_in2 {a b0 b1 : Nat} {oa oc o0 o1 : Ob} (h0 : b0 ≠ a) (h1 : b1 ≠ a) : (((s.set a oa).set b0 o0).set b1 o1).set a oc = (((s.set a oc).set b0 o0).set b1 o1) := by rw [Hp.set_set_comm _ h1, set_in1 h0]
theorem Hp.set_in3 {a b0 b1 b2 : Nat} {oa oc o0 o1 o2 : Ob} (h0 : b0 ≠ a) (h1 : b1 ≠ a) (h2 : b2 ≠ a) : ((((s.set a oa).set b0 o0).set b1 o1).set b2 o2).set a oc = ((((s.set a oc).set b0 o0).set b1 o1).set b2 o2) := by rw [Hp.set_set_comm _ h2, set_in2 h0 h1]
theorem Hp.set_in4 {a b0 b1 b2 b3 : Nat} {oa oc o0 o1 o2 o3 : Ob} (h0 : b0 ≠ a) (h1 : b1 ≠ a) (h2 : b2 ≠ a) (h3 : b3 ≠ a) : (((((s.set a oa).set b0 o0).set b1 o1).set b2 o2).set b3 o3).set a oc = (((((s.set a oc).set b0 o0).set b1 o1).set b2 o2).set b3 o3) := by rw [Hp.set_set_comm _ h3, set_in3 h0 h1 h2]
theorem Hp.set_in5 {a b0 b1 b2 b3 b4 : Nat} {oa oc o0 o1 o2 o3 o4 : Ob} (h0 : b0 ≠ a) (h1 : b1 ≠ a) (h2 : b2 ≠ a) (h3 : b3 ≠ a) (h4 : b4 ≠ a) : ((((((s.set a oa).set b0 o0).set b1 o1).set b2 o2).set b3 o3).set b4 o4).set a oc = ((((((s.set a oc).set b0 o0).set b1 o1).set b2 o2).set b3 o3).set b4 o4) := by rw [Hp.set_set_comm _ h4, set_in4 h0 h1 h2 h3]
theorem Hp.set_in6 {a b0 b1 b2 b3 b4 b5 : Nat} {oa oc o0 o1 o2 o3 o4 o5 : Ob} (h0 : b0 ≠ a) (h1 : b1 ≠ a) (h2 : b2 ≠ a) (h3 : b3 ≠ a) (h4 : b4 ≠ a) (h5 : b5 ≠ a) : (((((((s.set a oa).set b0 o0).set b1 o1).set b2 o2).set b3 o3).set b4 o4).set b5 o5).set a oc = (((((((s.set a oc).set b0 o0).set b1 o1).set b2 o2).set b3 o3).set b4 o4).set b5 o5) := by rw [Hp.set_set_comm _ h5, set_in5 h0 h1 h2 h3 h4]
theorem Hp.set_in7 {a b0 b1 b2 b3 b4 b5 b6 : Nat} {oa oc o0 o1 o2 o3 o4 o5 o6 : Ob} (h0 : b0 ≠ a) (h1 : b1 ≠ a) (h2 : b2 ≠ a) (h3 : b3 ≠ a) (h4 : b4 ≠ a) (h5 : b5 ≠ a) (h6 : b6 ≠ a) : ((((((((s.set a oa).set b0 o0).set b1 o1).set b2 o2).set b3 o3).set b4 o4).set b5 o5).set b6 o6).set a oc = ((((((((s.set a oc).set b0 o0).set b1 o1).set b2 o2).set b3 o3).set b4 o4).set b5 o5).set b6 o6) := by rw [Hp.set_set_comm _ h6, set_in6 h0 h1 h2 h3 h4 h5]
theorem Hp.set_in8 {a b0 b1 b2 b3 b4 b5 b6 b7 : Nat} {oa oc o0 o1 o2 o3 o4 o5 o6 o7 : Ob} (h0 : b0 ≠ a) (h1 : b1 ≠ a) (h2 : b2 ≠ a) (h3 : b3 ≠ a) (h4 : b4 ≠ a) (h5 : b5 ≠ a) (h6 : b6 ≠ a) (h7 : b7 ≠ a) : (((((((((s.set a oa).set b0 o0).set b1 o1).set b2 o2).set b3 o3).set b4 o4).set b5 o5).set b6 o6).set b7 o7).set a oc = (((((((((s.set a oc).set b0 o0).set b1 o1).set b2 o2).set b3 o3).set b4 o4).set b5 o5).set b6 o6).set b7 o7) := by rw [Hp.set_set_comm _ h7, set_in7 h0 h1 h2 h3 h4 h5 h6]
theorem newK_intro {C : Nat → Prop} {d : Dep C} (h : ∀ l, s l = none → C l) : newK s (hid1 C d) := h
theorem hidP_intro {p : Prop} {d : Dep p} (h : p) : hidP p d := h
theorem loop_intro {P : Ctx} {K : Ex → Fr → Hp → Prop} {a : ACode} {d : Dep (awp P (.loop a) K f s)} (I : Fr → Hp → Prop) (m : Fr → Hp → Nat) (h0 : I f s) (h : ∀ f s, I f s → awp P a (seqK (fun f' s' => I f' s' ∧ m f' s' < m f s) K) f s) :
    hidP (awp P (.loop a) K f s) d := ⟨I, m, h0, h⟩
theorem call_intro {P : Ctx} {g : FuncId} {args : List AV} {C R : AV → Hp → Prop} {d : Dep C} (h : AC P.p g args s R) (hr : ∀ r s', R r s' → C r s') : callK P g args s (hid2 C d) := (h.mono hr).p
theorem up_up {k : AV → Hp → Prop} {v : AV} {s : Hp} (h : up (up k) v s) : up k v s := by
  obtain ⟨s2, h1, s3, h2, h3⟩ := h
  exact ⟨s3, fun l o ho => h1 l o (h2 l o ho), h3⟩
/-- a call that may panic -/
theorem callp_intro {P : Ctx} {g : FuncId} {args : List AV} {C R Rp : AV → Hp → Prop} {d : Dep C} (h : ACp P.p g args s R (up Rp)) (hr : ∀ r s', R r s' → C r s') (hp : ∀ r s', Rp r s' → P.k r s') : callK P g args s (hid2 C d) := h.mono hr (fun _ _ => up_mono hp)
theorem Hp.sub_refl : s.sub s := fun _ _ h => h
theorem Hp.sub_new {t : Hp} {l : Nat} {o : Ob} (h : t.sub s) (hl : t l = none) : t.sub (s.set l o) := fun l' o' ho => by
  rw [Hp.set_get]; split
  · rename_i e; subst e; rw [hl] at ho; cases ho
  · exact h _ _ ho
theorem Hp.sub_set_new {t : Hp} {l : Nat} {o : Ob} (h : t.sub s) (hl : t l = none) : t.sub (s.set l o) := Hp.sub_new h hl
theorem Hp.sub_set {t : Hp} {l : Nat} {o : Ob} (h : t.sub s) : (t.set l o).sub (s.set l o) := fun l' o' ho => by
  rw [Hp.set_get] at ho ⊢; split
  · rename_i e; rw [if_pos e] at ho; exact ho
  · rename_i e; rw [if_neg e] at ho; exact h _ _ ho
end

/-! ### words -/

theorem wrap_i64 {n : Int} (h : -9223372036854775808 ≤ n) (h2 : n < 9223372036854775808) : IntKind.i64.wrap n = n := by
  have e1 : ((2 : Int) ^ IntKind.i64.bits) = 18446744073709551616 := rfl
  have e2 : ((2 : Int) ^ (IntKind.i64.bits - 1)) = 9223372036854775808 := rfl
  simp only [IntKind.wrap, e1, e2, IntKind.signed, Bool.true_and, decide_eq_true_eq]
  split <;> omega
theorem wrap_u64_mod {n : Int} : IntKind.u64.wrap n = n % 18446744073709551616 := by
  have e1 : ((2 : Int) ^ IntKind.u64.bits) = 18446744073709551616 := rfl
  simp [IntKind.wrap, e1, IntKind.signed]
theorem wrap_u32_mod {n : Int} : IntKind.u32.wrap n = n % 4294967296 := by
  have e1 : ((2 : Int) ^ IntKind.u32.bits) = 4294967296 := rfl
  simp [IntKind.wrap, e1, IntKind.signed]
theorem wrap_u8_mod {n : Int} : IntKind.u8.wrap n = n % 256 := by
  have e1 : ((2 : Int) ^ IntKind.u8.bits) = 256 := rfl
  simp [IntKind.wrap, e1, IntKind.signed]
theorem wrap_u64 {n : Int} (h : 0 ≤ n) (h2 : n < 18446744073709551616) : IntKind.u64.wrap n = n := by rw [wrap_u64_mod]; omega
theorem wrap_u32 {n : Int} (h : 0 ≤ n) (h2 : n < 4294967296) : IntKind.u32.wrap n = n := by rw [wrap_u32_mod]; omega
theorem wrap_u8 {n : Int} (h : 0 ≤ n) (h2 : n < 256) : IntKind.u8.wrap n = n := by rw [wrap_u8_mod]; omega

theorem wrap_u32_8 (b : UInt8) : IntKind.u32.wrap (b.toNat : Int) = (b.toUInt32.toNat : Int) := by
  have := b.toNat_lt
  rw [wrap_u32 (by omega) (by omega)]; simp
theorem wrap_u64_8 (b : UInt8) : IntKind.u64.wrap (b.toNat : Int) = (b.toUInt64.toNat : Int) := by
  have := b.toNat_lt
  rw [wrap_u64 (by omega) (by omega)]; simp
theorem wrap_u8_32 (x : UInt32) : IntKind.u8.wrap (x.toNat : Int) = (x.toUInt8.toNat : Int) := by
  rw [wrap_u8_mod]; simp
theorem wrap_u8_64 (x : UInt64) : IntKind.u8.wrap (x.toNat : Int) = (x.toUInt8.toNat : Int) := by
  rw [wrap_u8_mod]; simp

section
variable (a b : Int)
theorem add_i64 : binV .add (.int .i64 a) (.int .i64 b) = some (.int .i64 (IntKind.i64.wrap (a + b))) := rfl
theorem sub_i64 : binV .sub (.int .i64 a) (.int .i64 b) = some (.int .i64 (IntKind.i64.wrap (a - b))) := rfl
theorem mul_i64 : binV .mul (.int .i64 a) (.int .i64 b) = some (.int .i64 (IntKind.i64.wrap (a * b))) := rfl
theorem quo_i64 (h : b ≠ 0) : binV .quo (.int .i64 a) (.int .i64 b) = some (.int .i64 (IntKind.i64.wrap (a.tdiv b))) := by simp [binV, isShift, binInt, h]
theorem rem_i64 (h : b ≠ 0) : binV .rem (.int .i64 a) (.int .i64 b) = some (.int .i64 (a.tmod b)) := by simp [binV, isShift, binInt, h]
variable (k : IntKind)
theorem eql_int : binV .eql (.int k a) (.int k b) = some (.bool (decide (a = b))) := by simp [binV, isShift, binInt]
theorem neq_int : binV .neq (.int k a) (.int k b) = some (.bool (decide (a ≠ b))) := by simp [binV, isShift, binInt]
theorem lss_int : binV .lss (.int k a) (.int k b) = some (.bool (decide (a < b))) := by simp [binV, isShift, binInt]
theorem leq_int : binV .leq (.int k a) (.int k b) = some (.bool (decide (a ≤ b))) := by simp [binV, isShift, binInt]
theorem gtr_int : binV .gtr (.int k a) (.int k b) = some (.bool (decide (b < a))) := by simp [binV, isShift, binInt]
theorem geq_int : binV .geq (.int k a) (.int k b) = some (.bool (decide (b ≤ a))) := by simp [binV, isShift, binInt]
theorem not_bool (t : Bool) : unV .not (.bool t) = some (.bool !t) := rfl
end

theorem add_u64 (a b : Int) : binV .add (.int .u64 a) (.int .u64 b) = some (.int .u64 (IntKind.u64.wrap (a + b))) := rfl
theorem sub_u64 (a b : Int) : binV .sub (.int .u64 a) (.int .u64 b) = some (.int .u64 (IntKind.u64.wrap (a - b))) := rfl
theorem mul_u64 (a b : Int) : binV .mul (.int .u64 a) (.int .u64 b) = some (.int .u64 (IntKind.u64.wrap (a * b))) := rfl
theorem shr_u64 (m : Nat) (k : IntKind) (n : Int) (h : 0 ≤ n) (h2 : n < 64) : binV .shr (.int .u64 m) (.int k n) = some (.int .u64 (m >>> n.toNat : Nat)) := by
  obtain ⟨q, rfl⟩ : ∃ q : Nat, n = q := ⟨n.toNat, by omega⟩
  have e : min q IntKind.u64.bits = q := by simp [IntKind.bits]; omega
  have hp : (2 : Int) ^ q = ((2 ^ q : Nat) : Int) := by simp
  simp only [binV, isShift, if_true, shiftInt, if_neg (show ¬ (q : Int) < 0 by omega), Int.toNat_natCast, e, Nat.shiftRight_eq_div_pow]
  rw [hp, Int.fdiv_eq_ediv_of_nonneg _ (Int.natCast_nonneg _), ← Int.natCast_ediv]
theorem wrap_u8_nat (m : Nat) : IntKind.u8.wrap (m : Int) = ((UInt8.ofNat m).toNat : Int) := by rw [wrap_u8_mod]; simp
theorem iaSA_bytes {bs : List UInt8} {o : Own} {kd : IntKind} {n : Int} (h : 0 ≤ n) (h2 : n.toNat < bs.length) : iaSA 1 (.sl (bs.map byteAV) o) (.v (.int kd n)) = some (.rptr [.v (.int .u8 (bs.getD n.toNat 0).toNat)]) := by
  rw [iaSA_sl h, List.getElem?_map, List.getElem?_eq_getElem h2]
  have : bs.getD n.toNat 0 = bs[n.toNat] := by simp [List.getD, h2]
  rw [this]; rfl
theorem dec_t (h : Decidable True) : @decide True h = true := by simp
theorem dec_f (h : Decidable False) : @decide False h = false := by simp
theorem mkv_agg {n : Nat} {cs : List AV} : mkv true n cs = .agg (cs.take n) := rfl
theorem cells_sl {xs : List AV} {o : Own} : AV.cells (.sl xs o) = [.sl xs o] := rfl
theorem cells_v {x : Value} : AV.cells (.v x) = [.v x] := rfl
theorem cells_ptr {l o : Nat} : AV.cells (.ptr l o) = [.ptr l o] := rfl
theorem cells_rptr {cs : List AV} : AV.cells (.rptr cs) = [.rptr cs] := rfl
theorem cells_iface {t : TypeId} {x : AV} : AV.cells (.iface t x) = [.iface t x] := rfl
theorem cells_agg {cs : List AV} : AV.cells (.agg cs) = cs := rfl
theorem putAt_all {cs ys : List AV} (h : ys.length = cs.length) : putAt cs 0 ys = ys := by simp [putAt, h]
theorem mkv_one {x : AV} {r : List AV} : mkv false 1 (x :: r) = x := rfl

section
variable (x y : UInt32)
theorem add_u32 : binV .add (.int .u32 x.toNat) (.int .u32 y.toNat) = some (.int .u32 (x + y).toNat) := by
  simp [binV, isShift, binInt, wrap_u32_mod, UInt32.toNat_add]
theorem sub_u32 : binV .sub (.int .u32 x.toNat) (.int .u32 y.toNat) = some (.int .u32 (x - y).toNat) := by
  have := x.toNat_lt; have := y.toNat_lt
  simp only [binV, isShift, binInt, wrap_u32_mod, UInt32.toNat_sub]
  simp; omega
theorem mul_u32 : binV .mul (.int .u32 x.toNat) (.int .u32 y.toNat) = some (.int .u32 (x * y).toNat) := by
  simp [binV, isShift, binInt, wrap_u32_mod, UInt32.toNat_mul]
theorem wrap_u32_nat (n : Nat) (h : n < 4294967296) : IntKind.u32.wrap (n : Int) = n := wrap_u32 (by omega) (by omega)
theorem ofInt_u32 : BitVec.ofInt 32 (x.toNat : Int) = x.toBitVec := by
  rw [BitVec.ofInt_natCast]; exact BitVec.eq_of_toNat_eq (by simp)
theorem and_u32 : binV .and (.int .u32 x.toNat) (.int .u32 y.toNat) = some (.int .u32 (x &&& y).toNat) := by
  have h : binV .and (.int .u32 x.toNat) (.int .u32 y.toNat) = some (.int .u32 (IntKind.u32.wrap (BitVec.ofInt 32 (x.toNat : Int) &&& BitVec.ofInt 32 (y.toNat : Int)).toNat)) := rfl
  rw [h, ofInt_u32, ofInt_u32, wrap_u32_nat _ (BitVec.isLt _)]; rfl
theorem or_u32 : binV .or (.int .u32 x.toNat) (.int .u32 y.toNat) = some (.int .u32 (x ||| y).toNat) := by
  have h : binV .or (.int .u32 x.toNat) (.int .u32 y.toNat) = some (.int .u32 (IntKind.u32.wrap (BitVec.ofInt 32 (x.toNat : Int) ||| BitVec.ofInt 32 (y.toNat : Int)).toNat)) := rfl
  rw [h, ofInt_u32, ofInt_u32, wrap_u32_nat _ (BitVec.isLt _)]; rfl
theorem xor_u32 : binV .xor (.int .u32 x.toNat) (.int .u32 y.toNat) = some (.int .u32 (x ^^^ y).toNat) := by
  have h : binV .xor (.int .u32 x.toNat) (.int .u32 y.toNat) = some (.int .u32 (IntKind.u32.wrap (BitVec.ofInt 32 (x.toNat : Int) ^^^ BitVec.ofInt 32 (y.toNat : Int)).toNat)) := rfl
  rw [h, ofInt_u32, ofInt_u32, wrap_u32_nat _ (BitVec.isLt _)]; rfl
theorem com_u32 : unV .xor (.int .u32 x.toNat) = some (.int .u32 (~~~x).toNat) := by
  have h : unV .xor (.int .u32 x.toNat) = some (.int .u32 (IntKind.u32.wrap (BitVec.ofInt 32 4294967295 ^^^ BitVec.ofInt 32 (x.toNat : Int)).toNat)) := rfl
  rw [h, ofInt_u32, wrap_u32_nat _ (BitVec.isLt _)]
  have : (BitVec.ofInt 32 4294967295 ^^^ x.toBitVec) = ~~~x.toBitVec := by rw [BitVec.not_def]; rfl
  rw [this]; rfl
theorem shl_u32 (k : IntKind) (n : Int) (h : 0 ≤ n) (h2 : n < 32) : binV .shl (.int .u32 x.toNat) (.int k n) = some (.int .u32 (x <<< UInt32.ofNat n.toNat).toNat) := by
  obtain ⟨m, rfl⟩ : ∃ m : Nat, n = m := ⟨n.toNat, by omega⟩
  have hm : m < 32 := by omega
  have e : min m IntKind.u32.bits = m := by simp [IntKind.bits]; omega
  simp only [binV, isShift, if_true, shiftInt, if_neg (show ¬ (m : Int) < 0 by omega), Int.toNat_natCast, e, wrap_u32_mod, UInt32.toNat_shiftLeft, UInt32.toNat_ofNat', Nat.shiftLeft_eq]
  have e2 : m % 2 ^ 32 % 32 = m := by omega
  rw [e2]; simp
theorem shr_u32 (k : IntKind) (n : Int) (h : 0 ≤ n) (h2 : n < 32) : binV .shr (.int .u32 x.toNat) (.int k n) = some (.int .u32 (x >>> UInt32.ofNat n.toNat).toNat) := by
  obtain ⟨m, rfl⟩ : ∃ m : Nat, n = m := ⟨n.toNat, by omega⟩
  have hm : m < 32 := by omega
  have e : min m IntKind.u32.bits = m := by simp [IntKind.bits]; omega
  simp only [binV, isShift, if_true, shiftInt, if_neg (show ¬ (m : Int) < 0 by omega), Int.toNat_natCast, e, UInt32.toNat_shiftRight, UInt32.toNat_ofNat', Nat.shiftRight_eq_div_pow]
  have e2 : m % 2 ^ 32 % 32 = m := by omega
  have hp : (2 : Int) ^ m = ((2 ^ m : Nat) : Int) := by simp
  rw [e2, hp, Int.fdiv_eq_ediv_of_nonneg _ (Int.natCast_nonneg _), ← Int.natCast_ediv]
end

end Go.Av
/-
  Running abstract code, continued: slices that are built, sliced, read.
-/
namespace Go.Av
open Go

def allLen (k : Nat) (xs : List AV) : Prop := ∀ e ∈ xs, e.cells.length = k
theorem allLen_nil {k : Nat} : allLen k [] = True := by simp [allLen]
theorem allLen_cons {k : Nat} {a : AV} {r : List AV} : allLen k (a :: r) = (a.cells.length = k ∧ allLen k r) := by simp [allLen]
theorem allLen_append {k : Nat} {a r : List AV} : allLen k (a ++ r) = (allLen k a ∧ allLen k r) := by
  apply propext; simp only [allLen, List.mem_append]; constructor
  · exact fun h => ⟨fun e he => h e (.inl he), fun e he => h e (.inr he)⟩
  · rintro ⟨h1, h2⟩ e (he | he); exact h1 e he; exact h2 e he
theorem allLen_bytes {bs : List UInt8} : allLen 1 (bs.map byteAV) = True := by
  simp [allLen, byteAV, AV.cells]
theorem allLen_map {α : Type} {k : Nat} {g : α → AV} (h : ∀ x, (g x).cells.length = k) (l : List α) : allLen k (l.map g) = True := by
  simp [allLen, h]
theorem allLen_take {k n : Nat} {xs : List AV} (h : allLen k xs) : allLen k (xs.take n) := fun e he => h e (List.mem_of_mem_take he)
theorem allLen_drop {k n : Nat} {xs : List AV} (h : allLen k xs) : allLen k (xs.drop n) := fun e he => h e (List.mem_of_mem_drop he)

/-- a slice that is being built, over the objects s0 -/
def Owned (s0 s : Hp) (k : Nat) (xs : List AV) (o : Own) : Prop :=
  s0.sub s ∧ match o with
    | .buf g c => s0 g = none ∧ s g = some (.buf k xs.length c)
    | .any => False
    | _ => xs = []

variable {P : Ctx} {f : Fr} {s s0 : Hp} {Kv : AV → Hp → Prop}

theorem Hp.sub_trans {a b c : Hp} (h : a.sub b) (h2 : b.sub c) : a.sub c := fun l o hl => h2 l o (h l o hl)
theorem Hp.sub_none {a b : Hp} (h : a.sub b) {l : Nat} (hl : b l = none) : a l = none := by
  cases ha : a l with
  | none => rfl
  | some o => rw [h l o ha] at hl; cases hl

theorem Owned.nil (h : s0.sub s) {k : Nat} : Owned s0 s k [] .nil := ⟨h, rfl⟩
theorem Owned.zero (h : s0.sub s) {k : Nat} : Owned s0 s k [] .zero := ⟨h, rfl⟩
theorem Owned.sub {k : Nat} {xs : List AV} {o : Own} (h : Owned s0 s k xs o) : s0.sub s := h.1
theorem Owned.base {s1 : Hp} {k : Nat} {xs : List AV} {o : Own} (h : Owned s0 s k xs o) (hs : s1.sub s0) : Owned s1 s k xs o := by
  refine ⟨Hp.sub_trans hs h.1, ?_⟩
  have h2 := h.2
  cases o with
  | buf g c => exact ⟨Hp.sub_none hs h2.1, h2.2⟩
  | _ => exact h2
theorem Owned.mono {s' : Hp} {k : Nat} {xs : List AV} {o : Own} (h : Owned s0 s k xs o) (hs : s.sub s') : Owned s0 s' k xs o := by
  refine ⟨Hp.sub_trans h.1 hs, ?_⟩
  have h2 := h.2
  cases o with
  | buf g c => exact ⟨h2.1, hs _ _ h2.2⟩
  | _ => exact h2
/-- other objects are written -/
theorem Owned.set {k l : Nat} {xs : List AV} {o : Own} {ob ob' : Ob} (h : Owned s0 s k xs o) (hl : s0 l = some ob') : Owned (s0.set l ob) (s.set l ob) k xs o := by
  refine ⟨Hp.sub_set h.1, ?_⟩
  have h2 := h.2
  cases o with
  | buf g c =>
    have hne : g ≠ l := by rintro rfl; rw [h2.1] at hl; cases hl
    exact ⟨by rw [Hp.set_ne _ _ hne]; exact h2.1, by rw [Hp.set_ne _ _ hne]; exact h2.2⟩
  | _ => exact h2
/-- a new object -/
theorem Owned.new {k l : Nat} {xs : List AV} {o : Own} {ob : Ob} (h : Owned s0 s k xs o) (hl : s l = none) : Owned (s0.set l ob) (s.set l ob) k xs o := by
  refine ⟨Hp.sub_set h.1, ?_⟩
  have h2 := h.2
  cases o with
  | buf g c =>
    have hne : g ≠ l := by rintro rfl; rw [h2.2] at hl; cases hl
    exact ⟨by rw [Hp.set_ne _ _ hne]; exact h2.1, by rw [Hp.set_ne _ _ hne]; exact h2.2⟩
  | _ => exact h2

def appK (k bytes : Nat) (s : Hp) (x y : AV) (C : AV → Hp → Prop) : Prop :=
  match x, y with
  | .sl xs o, .sl ys _ => (∀ e ∈ xs, e.cells.length = k) ∧ (∀ e ∈ ys, e.cells.length = k) ∧ (xs.length + ys.length) * bytes ≤ 140737488355328 ∧ xs.length + ys.length ≤ 9223372036854775807 ∧
      match o with
      | .buf g c => s g = some (.buf k xs.length c) ∧ ∀ g' c', (g' = g ∨ s g' = none) → C (.sl (xs ++ ys) (.buf g' c')) ((s.del g).set g' (.buf k (xs.length + ys.length) c'))
      | .any => False
      | _ => xs = [] ∧ (if ys = [] then C (.sl [] o) s else ∀ g' c', s g' = none → C (.sl ys (.buf g' c')) (s.set g' (.buf k ys.length c')))
  | _, _ => False
theorem G_app {k bytes : Nat} {x y : Operand} : G P (.app k bytes x y) f s Kv = appK k bytes s (ev f x) (ev f y) (hid2 Kv ()) := rfl

/-- APPEND -/
theorem app_own {k bytes : Nat} {xs ys : List AV} {o o2 : Own} {C : AV → Hp → Prop} {d : Dep C} (h : Owned s0 s k xs o) (h1 : allLen k xs) (h2 : allLen k ys) (h3 : (xs.length + ys.length) * bytes ≤ 140737488355328) (h4 : xs.length + ys.length ≤ 9223372036854775807)
    (hk : ∀ o' s', Owned s0 s' k (xs ++ ys) o' → C (.sl (xs ++ ys) o') s') : appK k bytes s (.sl xs o) (.sl ys o2) (hid2 C d) := by
  have ho := h.2
  refine ⟨h1, h2, h3, h4, ?_⟩
  cases o with
  | any => exact ho.elim
  | nil =>
    obtain rfl : xs = [] := ho
    refine ⟨rfl, ?_⟩
    split
    · rename_i hy; subst hy; exact hk _ _ ⟨h.1, rfl⟩
    · intro g' c' hg'
      refine hk _ _ ⟨Hp.sub_new h.1 (Hp.sub_none h.1 hg'), Hp.sub_none h.1 hg', ?_⟩
      rw [Hp.set_same]; simp
  | zero =>
    obtain rfl : xs = [] := ho
    refine ⟨rfl, ?_⟩
    split
    · rename_i hy; subst hy; exact hk _ _ ⟨h.1, rfl⟩
    · intro g' c' hg'
      refine hk _ _ ⟨Hp.sub_new h.1 (Hp.sub_none h.1 hg'), Hp.sub_none h.1 hg', ?_⟩
      rw [Hp.set_same]; simp
  | buf g c =>
    refine ⟨ho.2, fun g' c' hg' => hk _ _ ?_⟩
    have hb : s0 g' = none := by rcases hg' with rfl | hg'; exact ho.1; exact Hp.sub_none h.1 hg'
    refine ⟨Hp.sub_new (fun l ob hl => ?_) hb, hb, ?_⟩
    · have hne : l ≠ g := by rintro rfl; rw [ho.1] at hl; cases hl
      rw [Hp.del_ne _ hne]; exact h.1 l ob hl
    · rw [Hp.set_same, List.length_append]

def bslK (k : Nat) (s : Hp) (vs0 : List AV) (C : AV → Hp → Prop) : Prop :=
  (∀ e ∈ vs0, e.cells.length = k) ∧ (if vs0.length = 0 then C (.sl [] .zero) s else ∀ g, s g = none → C (.sl vs0 (.buf g vs0.length)) (s.set g (.buf k vs0.length vs0.length)))
theorem G_bsl {k : Nat} {xs : List Operand} : G P (.bsl k xs) f s Kv = bslK k s (xs.map (ev f)) (hid2 Kv ()) := by
  simp only [G, bslK, hid2, List.length_map]
/-- A NEW SLICE -/
theorem bsl_own {k : Nat} {vs0 : List AV} {C : AV → Hp → Prop} {d : Dep C} (h : s0.sub s) (h1 : allLen k vs0) (hk : ∀ o' s', Owned s0 s' k vs0 o' → C (.sl vs0 o') s') : bslK k s vs0 (hid2 C d) := by
  refine ⟨h1, ?_⟩
  split
  · rename_i h0
    obtain rfl := List.eq_nil_of_length_eq_zero h0
    exact hk _ _ ⟨h, rfl⟩
  · intro g hg
    exact hk _ _ ⟨Hp.sub_new h (Hp.sub_none h hg), Hp.sub_none h hg, by rw [Hp.set_same]⟩

def bO (x : Option AV) (d : Nat) : Option Int :=
  match x with
  | none => some d
  | some a => intOf a
def kp (o : Own) (lo hi : Option AV) : Own :=
  match lo, hi with
  | none, none => o
  | _, _ => .any
def slcAA (k : Nat) (a : AV) (lo hi : Option AV) : Option AV :=
  match a with
  | .sl xs o => match bO lo 0, bO hi xs.length with
    | some a, some b => if 0 ≤ a ∧ a ≤ b ∧ b ≤ xs.length ∧ xs.all (fun e => decide (e.cells.length = k)) then some (.sl ((xs.take b.toNat).drop a.toNat) (kp o lo hi)) else none
    | _, _ => none
  | .msl l off len k' => match bO lo 0, bO hi len with
    | some a, some b => if k' = k ∧ 0 ≤ a ∧ a ≤ b ∧ b ≤ len ∧ a < len then some (.msl l (off + a.toNat * k) (b.toNat - a.toNat) k) else none
    | _, _ => none
  | .mb l len cap k' => match bO lo 0, bO hi len with
    | some a, some b => if k' = k ∧ 0 ≤ a ∧ a ≤ b ∧ b ≤ len ∧ (lo.isSome = true → a < len) then some (mbCut lo.isSome l a.toNat b.toNat cap k) else none
    | _, _ => none
  | _ => none
theorem bnd_bO (x : Option Operand) (d : Nat) : bnd f x d = bO (x.map (ev f)) d := by
  cases x with
  | none => rfl
  | some x => simp only [bnd, bO, Option.map_some, intOf]; split <;> simp_all
theorem kp_map {o : Own} (lo hi : Option Operand) : SlKeep o lo hi = kp o (lo.map (ev f)) (hi.map (ev f)) := by cases lo <;> cases hi <;> rfl
theorem G_slcA {k : Nat} {x : Operand} {lo hi : Option Operand} : G P (.slc k x lo hi) f s Kv = valK (slcAA k (ev f x) (lo.map (ev f)) (hi.map (ev f))) (hid1 (fun r => Kv r s) ()) := by
  have e : lo.isSome = (lo.map (ev f)).isSome := by cases lo <;> rfl
  simp only [G, slcAA, bnd_bO, kp_map (f := f) lo hi, e]
  generalize ev f x = a; generalize lo.map (ev f) = p; generalize hi.map (ev f) = q
  cases a <;> try rfl
  · rename_i xs o
    simp only []
    generalize bO p 0 = u; generalize bO q xs.length = w
    cases u <;> cases w <;> try rfl
    simp only [valK_ite, hid1_eq, List.all_eq_true, decide_eq_true_eq]
    apply propext; constructor
    · rintro ⟨h1, h2, h3, h4, h5⟩; exact ⟨⟨h1, h2, h3, h4⟩, h5⟩
    · rintro ⟨⟨h1, h2, h3, h4⟩, h5⟩; exact ⟨h1, h2, h3, h4, h5⟩
  · rename_i l off len k'
    simp only []
    generalize bO p 0 = u; generalize bO q len = w
    cases u <;> cases w <;> try rfl
    simp only [valK_ite, hid1_eq]
    apply propext; constructor
    · rintro ⟨h0, h1, h2, h3, h4, h5⟩; exact ⟨⟨h0, h1, h2, h3, h4⟩, h5⟩
    · rintro ⟨⟨h0, h1, h2, h3, h4⟩, h5⟩; exact ⟨h0, h1, h2, h3, h4, h5⟩
  · rename_i l len cap k'
    simp only []
    generalize bO p 0 = u; generalize bO q len = w
    cases u <;> cases w <;> try rfl
    simp only [valK_ite, hid1_eq]
    apply propext; constructor
    · rintro ⟨h0, h1, h2, h3, h4, h5⟩; exact ⟨⟨h0, h1, h2, h3, h4⟩, h5⟩
    · rintro ⟨⟨h0, h1, h2, h3, h4⟩, h5⟩; exact ⟨h0, h1, h2, h3, h4, h5⟩
theorem slcAA_mb {k l len cap : Nat} {kd : IntKind} {b : Int} (h : 0 ≤ b) (h2 : b ≤ len) : slcAA k (.mb l len cap k) none (some (.v (.int kd b))) = some (.mb l b.toNat cap k) := by
  simp [slcAA, bO, intOf, h, h2, mbCut]
theorem slcAA_all {k : Nat} {xs : List AV} {o : Own} (h : allLen k xs) : slcAA k (.sl xs o) none none = some (.sl xs o) := by
  have : (xs.all fun e => decide (e.cells.length = k)) = true := by simpa [allLen] using h
  simp [slcAA, bO, kp, this]
theorem slcAA_lo {k : Nat} {xs : List AV} {o : Own} {kd : IntKind} {a : Int} (h : 0 ≤ a) (h2 : a ≤ xs.length) (h3 : allLen k xs) : slcAA k (.sl xs o) (some (.v (.int kd a))) none = some (.sl (xs.drop a.toNat) .any) := by
  have : (xs.all fun e => decide (e.cells.length = k)) = true := by simpa [allLen] using h3
  simp [slcAA, bO, kp, intOf, this, h, h2]
theorem slcAA_hi {k : Nat} {xs : List AV} {o : Own} {kd : IntKind} {b : Int} (h : 0 ≤ b) (h2 : b ≤ xs.length) (h3 : allLen k xs) : slcAA k (.sl xs o) none (some (.v (.int kd b))) = some (.sl (xs.take b.toNat) .any) := by
  have : (xs.all fun e => decide (e.cells.length = k)) = true := by simpa [allLen] using h3
  simp [slcAA, bO, kp, intOf, this, h, h2]
theorem slcAA_both {k : Nat} {xs : List AV} {o : Own} {kd kd' : IntKind} {a b : Int} (h : 0 ≤ a) (h1 : a ≤ b) (h2 : b ≤ xs.length) (h3 : allLen k xs) : slcAA k (.sl xs o) (some (.v (.int kd a))) (some (.v (.int kd' b))) = some (.sl ((xs.take b.toNat).drop a.toNat) .any) := by
  have : (xs.all fun e => decide (e.cells.length = k)) = true := by simpa [allLen] using h3
  simp [slcAA, bO, kp, intOf, this, h, h1, h2]

def eqvK (neg : Bool) (ks : List (Nat × CK)) (a b : AV) (C : AV → Prop) : Prop :=
  match a, b with
  | .agg cs, .agg ds => fitR ks cs ∧ fitR ks ds ∧ C (.v (.bool (xor neg (peq (.agg cs) (.agg ds)))))
  | _, _ => False
theorem G_eqvK {neg : Bool} {ks : List (Nat × CK)} {x y : Operand} : G P (.eqv neg ks x y) f s Kv = eqvK neg ks (ev f x) (ev f y) (hid1 (fun r => Kv r s) ()) := rfl
theorem eqvK_agg {neg : Bool} {ks : List (Nat × CK)} {cs ds : List AV} {C : AV → Prop} : eqvK neg ks (.agg cs) (.agg ds) C = andK (fitR ks cs ∧ fitR ks ds) (hidP (C (.v (.bool (xor neg (peq (.agg cs) (.agg ds)))))) ()) := by
  simp only [eqvK, andK, hidP]; exact propext and_assoc.symm

theorem mapb_drop {bs : List UInt8} {n : Nat} : (bs.map byteAV).drop n = (bs.drop n).map byteAV := by rw [List.map_drop]
theorem mapb_take {bs : List UInt8} {n : Nat} : (bs.map byteAV).take n = (bs.take n).map byteAV := by rw [List.map_take]
theorem mapb_app {bs cs : List UInt8} : bs.map byteAV ++ cs.map byteAV = (bs ++ cs).map byteAV := by rw [List.map_append]
theorem byte_fold {b : UInt8} : (.v (.int .u8 b.toNat) : AV) = byteAV b := rfl
theorem Owned.nilB (h : s0.sub s) : Owned s0 s 1 (([] : List UInt8).map byteAV) .nil := ⟨h, rfl⟩
theorem Owned.zeroB (h : s0.sub s) : Owned s0 s 1 (([] : List UInt8).map byteAV) .zero := ⟨h, rfl⟩
/-- bytes are appended -/
theorem app_bytes {xs ys : List UInt8} {o o2 : Own} {C : AV → Hp → Prop} {d : Dep C} (h : Owned s0 s 1 (xs.map byteAV) o) (h3 : xs.length + ys.length ≤ 140737488355328)
    (hk : ∀ o' s', Owned s0 s' 1 ((xs ++ ys).map byteAV) o' → C (.sl ((xs ++ ys).map byteAV) o') s') : appK 1 1 s (.sl (xs.map byteAV) o) (.sl (ys.map byteAV) o2) (hid2 C d) := by
  refine app_own h (by rw [allLen_bytes]; trivial) (by rw [allLen_bytes]; trivial) (by simp; omega) (by simp; omega) ?_
  rw [mapb_app]; exact hk
theorem app_byte1 {xs : List UInt8} {b : UInt8} {o o2 : Own} {C : AV → Hp → Prop} {d : Dep C} (h : Owned s0 s 1 (xs.map byteAV) o) (h3 : xs.length + 1 ≤ 140737488355328)
    (hk : ∀ o' s', Owned s0 s' 1 ((xs ++ [b]).map byteAV) o' → C (.sl ((xs ++ [b]).map byteAV) o') s') : appK 1 1 s (.sl (xs.map byteAV) o) (.sl [byteAV b] o2) (hid2 C d) :=
  app_bytes (ys := [b]) h h3 hk
theorem bsl_byte {b : UInt8} {C : AV → Hp → Prop} {d : Dep C} (h : s0.sub s) (hk : ∀ o' s', Owned s0 s' 1 [byteAV b] o' → C (.sl [byteAV b] o') s') : bslK 1 s [.v (.int .u8 b.toNat)] (hid2 C d) :=
  bsl_own (vs0 := [b].map byteAV) h (by rw [allLen_bytes]; trivial) hk
theorem getB {bs : List UInt8} {i : Nat} (h : i < bs.length) : (bs.map byteAV)[i]? = some (.v (.int .u8 (bs.getD i 0).toNat)) := by
  rw [List.getElem?_map, List.getElem?_eq_getElem h]
  have : bs.getD i 0 = bs[i] := by simp [List.getD, h]
  rw [this]; rfl

theorem runL_mono {Kf Kf' : Fr → Hp → Prop} (h : ∀ f s, Kf f s → Kf' f s) : ∀ (ops : List AOper) (f : Fr) (s : Hp), runL P ops Kf f s → runL P ops Kf' f s
  | [], f, s, hh => h f s hh
  | _ :: r, f, s, hh => T_mono (fun f s hh => runL_mono h r f s hh) hh
theorem can_mono {xs : Nat → AOper} {Kf Kf' : Fr → Hp → Prop} (h : ∀ f s, Kf f s → Kf' f s) : ∀ (l : List CO) (f : Fr) (s : Hp), can P xs Kf l f s → can P xs Kf' l f s
  | [], f, s, hh => h f s hh
  | _ :: r, f, s, hh => ⟨hh.1, T_mono (fun f s hh => ⟨hh.1, can_mono h r f s hh.2⟩) hh.2⟩
theorem awp_mono : ∀ (c : ACode) {K K' : Ex → Fr → Hp → Prop} (_ : ∀ e f s, K e f s → K' e f s) (f : Fr) (s : Hp), awp P c K f s → awp P c K' f s
  | .skip, _, _, h, f, s, hh => h _ f s hh
  | .ret, _, _, h, f, s, hh => h _ f s hh
  | .exit _, _, _, h, f, s, hh => h _ f s hh
  | .plain ops, _, _, h, f, s, hh => runL_mono (h _) ops f s hh
  | .draw _ l, _, _, h, f, s, hh => can_mono (h _) l f s hh
  | .seq a b, K, K', h, f, s, hh => awp_mono a (fun e f s hh => by
      cases e with
      | norm => exact awp_mono b h f s hh
      | exit i => exact h _ f s hh
      | ret => exact h _ f s hh) f s hh
  | .block i a, K, K', h, f, s, hh => awp_mono a (fun e f s hh => by
      cases e with
      | norm => exact h _ f s hh
      | exit j => simp only [blockK] at hh ⊢; split <;> (rename_i hj; simp only [hj, if_true, if_false] at hh; exact h _ f s hh)
      | ret => exact h _ f s hh) f s hh
  | .cond c a b, K, K', h, f, s, hh => by
      simp only [awp_cond, hidP_eq, condK] at hh ⊢
      split at hh
      · exact ⟨fun ht => awp_mono a h f s (hh.1 ht), fun ht => awp_mono b h f s (hh.2 ht)⟩
      · exact hh.elim
  | .loop a, K, K', h, f, s, hh => by
      obtain ⟨I, m, h0, hr⟩ := hh
      exact ⟨I, m, h0, fun f s hI => awp_mono a (fun e f s hh => by
        cases e with
        | norm => exact hh
        | exit i => exact h _ f s hh
        | ret => exact h _ f s hh) f s (hr f s hI)⟩

/-- both arms go on alike -/
theorem cond_join {K : Ex → Fr → Hp → Prop} {a b c : ACode} {t : Bool} {d : Dep (awp P a (seqK (awp P c K) K) f s)} {d' : Dep (awp P b (seqK (awp P c K) K) f s)} (Q : Fr → Hp → Prop)
    (ht : t = true → awp P a (seqK Q K) f s) (hf : t = false → awp P b (seqK Q K) f s) (hQ : ∀ f s, Q f s → awp P c K f s) :
    condK (.v (.bool t)) (hidP (awp P a (seqK (awp P c K) K) f s) d) (hidP (awp P b (seqK (awp P c K) K) f s) d') := by
  have hm : ∀ e f s, seqK Q K e f s → seqK (awp P c K) K e f s := fun e f s h => by
    cases e with
    | norm => exact hQ f s h
    | exit i => exact h
    | ret => exact h
  exact ⟨fun h => awp_mono a hm f s (ht h), fun h => awp_mono b hm f s (hf h)⟩

def idxSA (a i : AV) : Option AV :=
  match a, i with
  | .v (.string t), .v (.int _ n) => if 0 ≤ n then (match t.data[n.toNat]? with | some b => some (.v (.int .u8 b.toNat)) | none => none) else none
  | _, _ => none
theorem G_idxS {x i : Operand} : G P (.idxS x i) f s Kv = valK (idxSA (ev f x) (ev f i)) (hid1 (fun r => Kv r s) ()) := by
  simp only [G, idxSA]; generalize ev f x = a; generalize ev f i = b
  cases a <;> first
    | rfl
    | (rename_i v; cases v <;> first
        | rfl
        | (cases b <;> first
            | rfl
            | (rename_i t w; cases w <;> first
                | rfl
                | (rename_i kd n; simp only []; by_cases h : 0 ≤ n
                   · simp only [h, true_and, if_true]; generalize t.data[n.toNat]? = c; cases c <;> rfl
                   · simp [h, valK]))))
/-- the mutable view of a box that is sliced whole, and only read -/
def slcRA (k n : Nat) (s : Hp) (a : AV) : Option AV :=
  match a with
  | .ptr l off => match s l with
    | some (.ro cs) => if off + n * k ≤ cs.length then some (.sl (elemsOf k n (cs.drop off)) .any) else none
    | _ => none
  | _ => none
theorem G_slcR {k n : Nat} {x : Operand} : G P (.slcR k n x none none) f s Kv = valK (slcRA k n s (ev f x)) (hid1 (fun r => Kv r s) ()) := by
  simp only [G, slcRA, bnd]; generalize ev f x = a
  cases a <;> first
    | rfl
    | (rename_i l off; simp only []
       generalize s l = c
       cases c with
       | none => simp [valK]
       | some o => cases o with
         | ro cs => simp only [valK_ite, hid1_eq]; simp
         | _ => simp [valK])
theorem slcRA_one {n l : Nat} {cs : List AV} (h : s l = some (.ro cs)) (h2 : cs.length = n) : slcRA 1 n s (.ptr l 0) = some (.sl cs .any) := by
  simp [slcRA, h, h2, elemsOf, List.take_of_length_le]
theorem shl_i64 {a : Int} {k : IntKind} {n : Nat} (h : n < 64) : binV .shl (.int .i64 a) (.int k (n : Int)) = some (.int .i64 (IntKind.i64.wrap (a * 2 ^ n))) := by
  have e : min n IntKind.i64.bits = n := by simp [IntKind.bits]; omega
  simp only [binV, isShift, if_true, shiftInt, if_neg (show ¬ (n : Int) < 0 by omega), Int.toNat_natCast, e]
def tup2 (a b : Option AV) : Option AV :=
  match a, b with
  | some a, some b => some (.tup [a, b])
  | _, _ => none
theorem tup2_some {a b : AV} : tup2 (some a) (some b) = some (.tup [a, b]) := rfl
theorem resAll2 {p q : Nat × Option (Bool × Nat)} : resAll f s [p, q] = tup2 (resG f s p) (resG f s q) := by
  simp only [resAll, mapAll]; cases resG f s p <;> cases resG f s q <;> rfl
def tup3 (a b c : Option AV) : Option AV :=
  match a, b, c with
  | some a, some b, some c => some (.tup [a, b, c])
  | _, _, _ => none
theorem tup3_some {a b c : AV} : tup3 (some a) (some b) (some c) = some (.tup [a, b, c]) := rfl
theorem resAll3 {p q r : Nat × Option (Bool × Nat)} : resAll f s [p, q, r] = tup3 (resG f s p) (resG f s q) (resG f s r) := by
  simp only [resAll, mapAll]; cases resG f s p <;> cases resG f s q <;> cases resG f s r <;> rfl
theorem cast0 : ((0 : Nat) : Int) = 0 := rfl
theorem cast1 : ((1 : Nat) : Int) = 1 := rfl
theorem tmod_nat {m k : Nat} : ((m : Int).tmod (k : Int)) = ((m % k : Nat) : Int) := rfl
theorem tmod64 {m : Nat} : ((m : Int).tmod 64) = ((m % 64 : Nat) : Int) := tmod_nat (k := 64)
/-! bundles of the lemmas above, for 'simp' -/
def rD :=
  And.intro @awp_skip <|
  And.intro @awp_ret <|
  And.intro @awp_exit <|
  And.intro @awp_seq <|
  And.intro @awp_block <|
  And.intro @awp_plain <|
  And.intro @awp_draw <|
  And.intro @awp_cond <|
  And.intro @awp_loopK <|
  And.intro @hid1_eq <|
  And.intro @hid2_eq <|
  And.intro @seqK_norm <|
  And.intro @seqK_ret <|
  And.intro @seqK_exit <|
  And.intro @blockK_norm <|
  And.intro @blockK_ret <|
  And.intro @blockK_same <|
  And.intro @blockK_exit <|
  And.intro @runL_nil <|
  And.intro @runL_cons <|
  And.intro @runL_guard <|
  And.intro @can_nil <|
  And.intro @can_cons <|
  And.intro @can_pre <|
  And.intro @can_chk <|
  And.intro @chkL_nil <|
  And.intro @chkL_cons <|
  And.intro @Def_none <|
  And.intro @chkT_none <|
  And.intro @T_none <|
  And.intro @T_guard <|
  And.intro @nth_zero <|
  And.intro @nth_succ <|
  And.intro @G_mv <|
  And.intro @G_pick <|
  And.intro @G_alloc <|
  And.intro @G_box <|
  And.intro @G_boxR <|
  And.intro @G_load <|
  And.intro @G_store <|
  And.intro @G_nilc <|
  And.intro @G_fa <|
  And.intro @G_iaA <|
  And.intro @G_iaS <|
  And.intro @G_fld <|
  And.intro @G_idxA <|
  And.intro @G_bld <|
  And.intro @G_len <|
  And.intro @G_lenA <|
  And.intro @G_bin <|
  And.intro @G_un <|
  And.intro @G_cvt <|
  And.intro @G_callF <|
  And.intro @G_ext <|
  And.intro @G_app <|
  And.intro @G_bsl <|
  And.intro @G_slcA <|
  And.intro @G_idxS <|
  And.intro @G_slcR <|
  And.intro @G_eqvK <|
  And.intro @G_eqb <|
  And.intro @G_eqp <|
  And.intro @putF_get <|
  And.intro @putF_none <|
  And.intro @initF_get <|
  And.intro @bldK_nil <|
  And.intro @bldK_cons <|
  And.intro @postR_ret <|
  @postR_norm
def rU :=
  And.intro @condK_true <|
  And.intro @condK_false <|
  And.intro @guardK_tt <|
  And.intro @guardK_ff <|
  And.intro @guardK_tf <|
  And.intro @guardK_ft <|
  And.intro @guardK_no <|
  And.intro @newK_true <|
  And.intro @eq_self.{1} <|
  And.intro @tK_eq <|
  And.intro @List.getD_cons_zero.{0} <|
  And.intro @List.getD_cons_succ.{0} <|
  And.intro @eqvK_agg <|
  And.intro @Option.map_none.{0,0} <|
  And.intro @slcAA_all <|
  And.intro @slcAA_lo <|
  And.intro @slcAA_hi <|
  And.intro @slcAA_both <|
  And.intro @mapb_drop <|
  And.intro @mapb_take <|
  And.intro @valK_some <|
  And.intro @letK_eq <|
  And.intro @cellK_some <|
  And.intro @andK_true <|
  And.intro @andK_ok <|
  And.intro @pickA_true <|
  And.intro @pickA_false <|
  And.intro @loadA_ptr <|
  And.intro @loadA_rptr <|
  And.intro @rdA_some <|
  And.intro @storeK_ptr <|
  And.intro @nilcA_ptr <|
  And.intro @nilcA_rptr <|
  And.intro @faA_ptr <|
  And.intro @faA_rptr <|
  And.intro @iaAA_ptr <|
  And.intro @iaAA_rptr <|
  And.intro @iaSA_bytes <|
  And.intro @iaSA_msl <|
  And.intro @elA_some <|
  And.intro @fldA_agg <|
  And.intro @idxAA_agg <|
  And.intro @lenAA_sl <|
  And.intro @lenAA_msl <|
  And.intro @binA_v <|
  And.intro @unA_v <|
  And.intro @cvtA_int <|
  And.intro @extA_tup <|
  And.intro @eqbA_b <|
  And.intro @eqpA_ptr <|
  And.intro @eqpA_rptr <|
  And.intro @eqpA_nil <|
  And.intro @Option.map_some.{0,0} <|
  And.intro @resAll_one <|
  And.intro @resG_tmp <|
  And.intro @resAll_none <|
  And.intro @resG_ptr <|
  And.intro @resP_ptr <|
  And.intro @putAt_all <|
  And.intro @List.map_cons.{0,0} <|
  And.intro @List.map_nil.{0,0} <|
  And.intro @add_i64 <|
  And.intro @sub_i64 <|
  And.intro @mul_i64 <|
  And.intro @quo_i64 <|
  And.intro @rem_i64 <|
  And.intro @eql_int <|
  And.intro @neq_int <|
  And.intro @lss_int <|
  And.intro @leq_int <|
  And.intro @gtr_int <|
  And.intro @geq_int <|
  And.intro @not_bool <|
  And.intro @add_u32 <|
  And.intro @sub_u32 <|
  And.intro @mul_u32 <|
  And.intro @and_u32 <|
  And.intro @or_u32 <|
  And.intro @xor_u32 <|
  And.intro @com_u32 <|
  And.intro @shl_u32 <|
  And.intro @shr_u32 <|
  And.intro @wrap_i64 <|
  And.intro @wrap_u32_8 <|
  And.intro @wrap_u64_8 <|
  And.intro @wrap_u8_32 <|
  And.intro @wrap_u8_64 <|
  And.intro @add_u64 <|
  And.intro @sub_u64 <|
  And.intro @mul_u64 <|
  And.intro @shr_u64 <|
  And.intro @wrap_u64 <|
  And.intro @mkv_one <|
  And.intro @mkv_agg <|
  And.intro @List.length_map.{0,0} <|
  And.intro @List.length_cons.{0} <|
  And.intro @List.length_nil.{0} <|
  And.intro @Hp.read_set_same <|
  And.intro @Hp.read_set_ro <|
  And.intro @Hp.read_set_ne <|
  And.intro @Hp.stA_set_same <|
  And.intro @Hp.stA_set_ne <|
  And.intro @Hp.set_set <|
  And.intro @Hp.set_in1 <|
  And.intro @Hp.set_in2 <|
  And.intro @Hp.set_in3 <|
  And.intro @Hp.set_in4 <|
  And.intro @Hp.set_in5 <|
  And.intro @Hp.set_in6 <|
  And.intro @Hp.set_in7 <|
  And.intro @Hp.set_in8 <|
  And.intro @cells_sl <|
  And.intro @cells_v <|
  And.intro @cells_ptr <|
  And.intro @cells_rptr <|
  And.intro @cells_iface <|
  And.intro @cells_agg <|
  And.intro @List.drop_zero.{0} <|
  And.intro @and_self <|
  And.intro @Nat.zero_add <|
  And.intro @Nat.mul_one <|
  And.intro @Nat.one_mul <|
  And.intro @Int.toNat_natCast <|
  And.intro @true_and <|
  And.intro @and_true <|
  And.intro @Nat.add_zero <|
  And.intro @Nat.le_refl <|
  And.intro @dec_t <|
  @dec_f
def rX :=
  And.intro @cast0 <|
  And.intro @cast1 <|
  And.intro @resAll2 <|
  And.intro @tup2_some <|
  And.intro @resAll3 <|
  @tup3_some
def rL :=
  And.intro @List.length_cons.{0} <|
  And.intro @List.length_nil.{0} <|
  And.intro @List.length_map.{0,0} <|
  And.intro @List.length_append.{0} <|
  And.intro @List.length_replicate.{0} <|
  And.intro @List.length_range <|
  And.intro @List.length_take.{0} <|
  And.intro @List.length_drop.{0} <|
  And.intro @cells_sl <|
  And.intro @cells_v <|
  And.intro @cells_ptr <|
  And.intro @cells_rptr <|
  And.intro @cells_iface <|
  And.intro @cells_agg <|
  And.intro @allLen_bytes <|
  And.intro @allLen_nil <|
  And.intro @allLen_cons <|
  And.intro @allLen_append <|
  And.intro @and_true <|
  And.intro @true_and <|
  And.intro @Nat.zero_add <|
  And.intro @eq_self.{1} <|
  @and_self
end Go.Av
set_option maxRecDepth 100000
namespace Go.Proofs.YtnnjjmiahcnbaaaGreat
open Go Go.Av

def wv (x : UInt32) : AV := .v (.int .u32 x.toNat)
def rotl (x : UInt32) (n : Nat) : UInt32 := x <<< UInt32.ofNat n ||| x >>> UInt32.ofNat (32 - n)

theorem and31 (n : Nat) (h : 0 < n ∧ n < 32) : binV .and (.int .u64 (IntKind.u64.wrap (-((32 - n : Nat) : Int)))) (.int .u64 31) = some (.int .u64 n) := by
  have key : ∀ n : Fin 32, 0 < n.val → IntKind.u64.wrap (BitVec.ofInt IntKind.u64.bits (IntKind.u64.wrap (-((32 - n.val : Nat) : Int))) &&& BitVec.ofInt IntKind.u64.bits 31).toNat = (n.val : Int) := by decide
  have := key ⟨n, h.2⟩ h.1
  simp only [binV, isShift, binInt, this]; rfl

theorem rotl_spec (x : UInt32) (n : Nat) (h : 0 < n ∧ n < 32) (s : Hp) : AC Tryz.prog 110 [.v (.int .u32 x.toNat), .v (.int .i64 (-((32 - n : Nat) : Int)))] s fun r s' => s' = s ∧ r = .v (.int .u32 (rotl x n).toNat) := by
  refine AC_run hm prep110 (by simp) ?_
  simp (dsimp := false) (implicitDefEqProofs := false) (maxSteps := 1000000) (disch := first | omega | assumption | (simp only [rL, Nat.reduceAdd]; done) | (simp only [rL, Nat.reduceAdd]; omega)) only [↓rD, rU, ev, ofConst, ofCell, ↓reduceIte, Nat.reduceEqDiff, Nat.reduceAdd, Nat.reduceSub, Nat.reduceMul, Nat.reduceLeDiff, Nat.reduceLT, Int.reduceNeg, Int.reduceToNat, Int.reduceAdd, Int.reduceSub, Int.reduceMul, Int.reduceLT, Int.reduceLE, Int.reduceEq, and31 n h]
  refine ⟨s, Hp.sub_refl, rfl, ?_⟩
  have e : ((32 : Int) - (n : Int)).toNat = 32 - n := by omega
  rw [e]; simp [rotl]

theorem rotl_spec' (x : UInt32) (k : Int) (n : Nat) (h : 0 < n ∧ n < 32) (hk : k = -((32 - n : Nat) : Int)) (s : Hp) : AC Tryz.prog 110 [.v (.int .u32 x.toNat), .v (.int .i64 k)] s fun r s' => s' = s ∧ r = .v (.int .u32 (rotl x n).toNat) := by
  subst hk; exact rotl_spec x n h s

/-! the schedule -/
def word (bs : List UInt8) (i : Nat) : UInt32 := (bs.getD (4 * i) 0).toUInt32 <<< 24 ||| (bs.getD (4 * i + 1) 0).toUInt32 <<< 16 ||| (bs.getD (4 * i + 2) 0).toUInt32 <<< 8 ||| (bs.getD (4 * i + 3) 0).toUInt32
def sig0 (x : UInt32) : UInt32 := rotl x 25 ^^^ rotl x 14 ^^^ x >>> 3
def sig1 (x : UInt32) : UInt32 := rotl x 15 ^^^ rotl x 13 ^^^ x >>> 10
def more (w : List UInt32) : List UInt32 := w ++ [w.getD (w.length - 16) 0 + sig0 (w.getD (w.length - 15) 0) + w.getD (w.length - 7) 0 + sig1 (w.getD (w.length - 2) 0)]
def first (bs : List UInt8) (n : Nat) : List UInt32 := (List.range n).map (word bs)
def grow : Nat → List UInt32 → List UInt32
  | 0, w => w
  | n + 1, w => grow n (more w)
def sched (bs : List UInt8) : List UInt32 := grow 48 (first bs 16)

def cellsW (w : List UInt32) : List AV := w.map (fun x => .v (.int .u32 x.toNat)) ++ List.replicate (64 - w.length) (.v (.int .u32 0))
theorem cellsW_nil : cellsW [] = List.replicate 64 (.v (.int .u32 0)) := by simp [cellsW]
theorem cellsW_length {w : List UInt32} (h : w.length ≤ 64) : (cellsW w).length = 64 := by simp [cellsW]; omega
theorem cellsW_put {w : List UInt32} {i : Nat} (x : UInt32) (h : i = w.length) (h2 : w.length < 64) : putAt (cellsW w) i [.v (.int .u32 x.toNat)] = cellsW (w ++ [x]) := by
  subst h
  have e : 64 - w.length = (64 - (w.length + 1)) + 1 := by omega
  simp only [putAt, cellsW, e, List.replicate_succ]
  simp [List.take_append, List.drop_append]
theorem cellsW_at {w : List UInt32} {i : Nat} (h : i < w.length) : mkv false 1 ((cellsW w).drop i) = .v (.int .u32 (w.getD i 0).toNat) := by
  simp only [mkv, cellsW]
  rw [List.drop_append_of_le_length (by simp; omega), ← List.map_drop, List.drop_eq_getElem_cons h]
  simp [List.getD, h]

theorem sched_spec (bs : List UInt8) (o : Own) (h : bs.length = 64) (s : Hp) : AC Tryz.prog 108 [.sl (bs.map byteAV) o] s fun r s' => s' = s ∧ r = .agg ((sched bs).map fun x => .v (.int .u32 x.toNat)) := by
  refine AC_run hm prep108 (by simp) ?_
  simp (dsimp := false) (implicitDefEqProofs := false) (maxSteps := 1000000) (disch := first | omega | assumption | (simp only [rL, Nat.reduceAdd]; done) | (simp only [rL, Nat.reduceAdd]; omega)) only [↓rD, rU, ev, ofConst, ofCell, ↓reduceIte, Nat.reduceEqDiff, Nat.reduceAdd, Nat.reduceSub, Nat.reduceMul, Nat.reduceLeDiff, Nat.reduceLT, Int.reduceNeg, Int.reduceToNat, Int.reduceAdd, Int.reduceSub, Int.reduceMul, Int.reduceLT, Int.reduceLE, Int.reduceEq]
  refine newK_intro fun l2 h2 => ?_
  simp (dsimp := false) (implicitDefEqProofs := false) (maxSteps := 1000000) (disch := first | omega | assumption | (simp only [rL, Nat.reduceAdd]; done) | (simp only [rL, Nat.reduceAdd]; omega)) only [↓rD, rU, ev, ofConst, ofCell, ↓reduceIte, Nat.reduceEqDiff, Nat.reduceAdd, Nat.reduceSub, Nat.reduceMul, Nat.reduceLeDiff, Nat.reduceLT, Int.reduceNeg, Int.reduceToNat, Int.reduceAdd, Int.reduceSub, Int.reduceMul, Int.reduceLT, Int.reduceLE, Int.reduceEq]
  refine newK_intro fun l3 h3 => ?_
  obtain ⟨h23, h3⟩ := Hp.set_none h3
  simp (dsimp := false) (implicitDefEqProofs := false) (maxSteps := 1000000) (disch := first | omega | assumption | (simp only [rL, Nat.reduceAdd]; done) | (simp only [rL, Nat.reduceAdd]; omega)) only [↓rD, rU, ev, ofConst, ofCell, ↓reduceIte, Nat.reduceEqDiff, Nat.reduceAdd, Nat.reduceSub, Nat.reduceMul, Nat.reduceLeDiff, Nat.reduceLT, Int.reduceNeg, Int.reduceToNat, Int.reduceAdd, Int.reduceSub, Int.reduceMul, Int.reduceLT, Int.reduceLE, Int.reduceEq]
  refine loop_intro (fun f s' => ∃ i : Nat, i ≤ 16 ∧ f 0 = .sl (bs.map byteAV) o ∧ f 2 = .ptr l2 0 ∧ f 3 = .ptr l3 0 ∧ f 10 = .v (.int .i64 i) ∧ s' = (s.set l2 (.cells (List.replicate 64 (.v (.int .u32 0))))).set l3 (.cells (cellsW (first bs i))))
    (fun f _ => match f 10 with | .v (.int _ n) => (16 - n).toNat | _ => 0) ⟨0, by omega, ?_⟩ ?_
  · simp (dsimp := false) (implicitDefEqProofs := false) (maxSteps := 1000000) (disch := first | omega | assumption | (simp only [rL, Nat.reduceAdd]; done) | (simp only [rL, Nat.reduceAdd]; omega)) only [↓rD, rU, ev, ofConst, ofCell, ↓reduceIte, Nat.reduceEqDiff, Nat.reduceAdd, Nat.reduceSub, Nat.reduceMul, Nat.reduceLeDiff, Nat.reduceLT, Int.reduceNeg, Int.reduceToNat, Int.reduceAdd, Int.reduceSub, Int.reduceMul, Int.reduceLT, Int.reduceLE, Int.reduceEq, first, List.range_zero, cellsW_nil]
    simp
  · rintro f s' ⟨i, hi, f0, f2, f3, f10, rfl⟩
    have hlen : (first bs i).length = i := by simp [first]
    by_cases hlt : (i : Int) < 16
    · have hl : (cellsW (first bs i)).length = 64 := cellsW_length (by omega)
      have e0 : (4 * (i : Int)).toNat = 4 * i := by omega
      have e1 : (4 * (i : Int) + 1).toNat = 4 * i + 1 := by omega
      have e2 : (4 * (i : Int) + 2).toNat = 4 * i + 2 := by omega
      have e3 : (4 * (i : Int) + 3).toNat = 4 * i + 3 := by omega
      have hs : (i : Int).toNat + 1 ≤ 64 := by omega
      simp (dsimp := false) (implicitDefEqProofs := false) (maxSteps := 1000000) (disch := first | omega | assumption | (simp only [rL, Nat.reduceAdd]; done) | (simp only [rL, Nat.reduceAdd]; omega)) only [↓rD, rU, ev, ofConst, ofCell, ↓reduceIte, Nat.reduceEqDiff, Nat.reduceAdd, Nat.reduceSub, Nat.reduceMul, Nat.reduceLeDiff, Nat.reduceLT, Int.reduceNeg, Int.reduceToNat, Int.reduceAdd, Int.reduceSub, Int.reduceMul, Int.reduceLT, Int.reduceLE, Int.reduceEq, f0, f2, f3, f10, hlt, hl, h, e0, e1, e2, e3]
      rw [cellsW_put _ hlen.symm (by omega)]
      refine ⟨⟨i + 1, by omega, by simp, ?_⟩, by omega⟩
      simp only [first, List.range_succ, List.map_append, List.map_cons, List.map_nil]; rfl
    · obtain rfl : i = 16 := by omega
      simp (dsimp := false) (implicitDefEqProofs := false) (maxSteps := 1000000) (disch := first | omega | assumption | (simp only [rL, Nat.reduceAdd]; done) | (simp only [rL, Nat.reduceAdd]; omega)) only [↓rD, rU, ev, ofConst, ofCell, ↓reduceIte, Nat.reduceEqDiff, Nat.reduceAdd, Nat.reduceSub, Nat.reduceMul, Nat.reduceLeDiff, Nat.reduceLT, Int.reduceNeg, Int.reduceToNat, Int.reduceAdd, Int.reduceSub, Int.reduceMul, Int.reduceLT, Int.reduceLE, Int.reduceEq, f0, f2, f3, f10, hlt]
      refine loop_intro (fun f s' => ∃ (w : List UInt32) (i : Nat), i ≤ 48 ∧ w.length = 16 + i ∧ grow (48 - i) w = sched bs ∧ f 2 = .ptr l2 0 ∧ f 3 = .ptr l3 0 ∧ f 5 = .v (.int .i64 ((16 + i : Nat) : Int)) ∧ s' = (s.set l2 (.cells (List.replicate 64 (.v (.int .u32 0))))).set l3 (.cells (cellsW w)))
        (fun f _ => match f 5 with | .v (.int _ n) => (64 - n).toNat | _ => 0) ⟨first bs 16, 0, by omega, hlen, rfl, ?_⟩ ?_
      · simp (dsimp := false) (implicitDefEqProofs := false) (maxSteps := 1000000) (disch := first | omega | assumption | (simp only [rL, Nat.reduceAdd]; done) | (simp only [rL, Nat.reduceAdd]; omega)) only [↓rD, rU, ev, ofConst, ofCell, ↓reduceIte, Nat.reduceEqDiff, Nat.reduceAdd, Nat.reduceSub, Nat.reduceMul, Nat.reduceLeDiff, Nat.reduceLT, Int.reduceNeg, Int.reduceToNat, Int.reduceAdd, Int.reduceSub, Int.reduceMul, Int.reduceLT, Int.reduceLE, Int.reduceEq, f2, f3, grow]
        rfl
      · rintro f s' ⟨w, i, hi, hw, hg, f2, f3, f5, rfl⟩
        by_cases hlt : ((16 + i : Nat) : Int) < 64
        · have hl : (cellsW w).length = 64 := cellsW_length (by omega)
          have e1 : (((16 + i : Nat) : Int) - 15).toNat = i + 1 := by omega
          have e2 : (((16 + i : Nat) : Int) - 2).toNat = i + 14 := by omega
          have e3 : (((16 + i : Nat) : Int) - 16).toNat = i := by omega
          have e4 : (((16 + i : Nat) : Int) - 7).toNat = i + 9 := by omega
          simp (dsimp := false) (implicitDefEqProofs := false) (maxSteps := 1000000) (disch := first | omega | assumption | (simp only [rL, Nat.reduceAdd]; done) | (simp only [rL, Nat.reduceAdd]; omega)) only [↓rD, rU, ev, ofConst, ofCell, ↓reduceIte, Nat.reduceEqDiff, Nat.reduceAdd, Nat.reduceSub, Nat.reduceMul, Nat.reduceLeDiff, Nat.reduceLT, Int.reduceNeg, Int.reduceToNat, Int.reduceAdd, Int.reduceSub, Int.reduceMul, Int.reduceLT, Int.reduceLE, Int.reduceEq, f2, f3, f5, hlt, e1, e2, e3, e4, hl, cellsW_at]
          refine call_intro (rotl_spec' _ _ 25 (by decide) (by decide) _) ?_
          rintro _ _ ⟨rfl, rfl⟩
          simp (dsimp := false) (implicitDefEqProofs := false) (maxSteps := 1000000) (disch := first | omega | assumption | (simp only [rL, Nat.reduceAdd]; done) | (simp only [rL, Nat.reduceAdd]; omega)) only [↓rD, rU, ev, ofConst, ofCell, ↓reduceIte, Nat.reduceEqDiff, Nat.reduceAdd, Nat.reduceSub, Nat.reduceMul, Nat.reduceLeDiff, Nat.reduceLT, Int.reduceNeg, Int.reduceToNat, Int.reduceAdd, Int.reduceSub, Int.reduceMul, Int.reduceLT, Int.reduceLE, Int.reduceEq, f2, f3, f5, hlt, e1, e2, e3, e4, hl, cellsW_at]
          refine call_intro (rotl_spec' _ _ 14 (by decide) (by decide) _) ?_
          rintro _ _ ⟨rfl, rfl⟩
          simp (dsimp := false) (implicitDefEqProofs := false) (maxSteps := 1000000) (disch := first | omega | assumption | (simp only [rL, Nat.reduceAdd]; done) | (simp only [rL, Nat.reduceAdd]; omega)) only [↓rD, rU, ev, ofConst, ofCell, ↓reduceIte, Nat.reduceEqDiff, Nat.reduceAdd, Nat.reduceSub, Nat.reduceMul, Nat.reduceLeDiff, Nat.reduceLT, Int.reduceNeg, Int.reduceToNat, Int.reduceAdd, Int.reduceSub, Int.reduceMul, Int.reduceLT, Int.reduceLE, Int.reduceEq, f2, f3, f5, hlt, e1, e2, e3, e4, hl, cellsW_at]
          refine call_intro (rotl_spec' _ _ 15 (by decide) (by decide) _) ?_
          rintro _ _ ⟨rfl, rfl⟩
          simp (dsimp := false) (implicitDefEqProofs := false) (maxSteps := 1000000) (disch := first | omega | assumption | (simp only [rL, Nat.reduceAdd]; done) | (simp only [rL, Nat.reduceAdd]; omega)) only [↓rD, rU, ev, ofConst, ofCell, ↓reduceIte, Nat.reduceEqDiff, Nat.reduceAdd, Nat.reduceSub, Nat.reduceMul, Nat.reduceLeDiff, Nat.reduceLT, Int.reduceNeg, Int.reduceToNat, Int.reduceAdd, Int.reduceSub, Int.reduceMul, Int.reduceLT, Int.reduceLE, Int.reduceEq, f2, f3, f5, hlt, e1, e2, e3, e4, hl, cellsW_at]
          refine call_intro (rotl_spec' _ _ 13 (by decide) (by decide) _) ?_
          rintro _ _ ⟨rfl, rfl⟩
          simp (dsimp := false) (implicitDefEqProofs := false) (maxSteps := 1000000) (disch := first | omega | assumption | (simp only [rL, Nat.reduceAdd]; done) | (simp only [rL, Nat.reduceAdd]; omega)) only [↓rD, rU, ev, ofConst, ofCell, ↓reduceIte, Nat.reduceEqDiff, Nat.reduceAdd, Nat.reduceSub, Nat.reduceMul, Nat.reduceLeDiff, Nat.reduceLT, Int.reduceNeg, Int.reduceToNat, Int.reduceAdd, Int.reduceSub, Int.reduceMul, Int.reduceLT, Int.reduceLE, Int.reduceEq, f2, f3, f5, hlt, e1, e2, e3, e4, hl, cellsW_at]
          rw [cellsW_put _ hw.symm (by omega)]
          refine ⟨⟨_, i + 1, by omega, by simp [hw]; omega, ?_, ?_, rfl⟩, by omega⟩
          · rw [← hg, show 48 - i = (48 - (i + 1)) + 1 by omega, grow, more, hw]
            rw [show 16 + i - 16 = i by omega, show 16 + i - 15 = i + 1 by omega, show 16 + i - 7 = i + 9 by omega, show 16 + i - 2 = i + 14 by omega]
            rfl
          · simp; omega
        · obtain rfl : i = 48 := by omega
          have hl : (cellsW w).length = 64 := cellsW_length (by omega)
          have ht : (cellsW w).take 64 = w.map fun x => .v (.int .u32 x.toNat) := by
            have : cellsW w = w.map fun x => .v (.int .u32 x.toNat) := by simp [cellsW, hw]
            rw [this]; exact List.take_of_length_le (by simp [hw])
          have hw' : w = sched bs := hg
          simp (dsimp := false) (implicitDefEqProofs := false) (maxSteps := 1000000) (disch := first | omega | assumption | (simp only [rL, Nat.reduceAdd]; done) | (simp only [rL, Nat.reduceAdd]; omega)) only [↓rD, rU, ev, ofConst, ofCell, ↓reduceIte, Nat.reduceEqDiff, Nat.reduceAdd, Nat.reduceSub, Nat.reduceMul, Nat.reduceLeDiff, Nat.reduceLT, Int.reduceNeg, Int.reduceToNat, Int.reduceAdd, Int.reduceSub, Int.reduceMul, Int.reduceLT, Int.reduceLE, Int.reduceEq, f2, f3, f5, hlt, hl, ht, hw]
          exact ⟨s, Hp.sub_new (Hp.sub_new Hp.sub_refl h2) h3, rfl, by rw [List.take_of_length_le (by simp [hw]), hw']⟩
end Go.Proofs.YtnnjjmiahcnbaaaGreat
set_option maxRecDepth 100000
namespace Go.Proofs.YtnnjjmiahcnbaaaGreat
open Go Go.Av

def wl (w : List UInt32) : List AV := w.map fun x => .v (.int .u32 x.toNat)
theorem wl_length {w : List UInt32} : (wl w).length = w.length := by simp [wl]
theorem wl_at {w : List UInt32} {i : Nat} (h : i < w.length) : mkv false 1 ((wl w).drop i) = .v (.int .u32 (w.getD i 0).toNat) := by
  simp only [mkv, wl]
  rw [← List.map_drop, List.drop_eq_getElem_cons h]
  simp [List.getD, h]
theorem wl_at0 {w : List UInt32} (h : 0 < w.length) : mkv false 1 (wl w) = .v (.int .u32 (w.getD 0 0).toNat) := wl_at (i := 0) h
theorem wl_put {w : List UInt32} {i : Nat} (x : UInt32) (h : i < w.length) : putAt (wl w) i [.v (.int .u32 x.toNat)] = wl (w.set i x) := by
  simp only [putAt, wl, List.length_cons, List.length_nil, ← List.map_take, ← List.map_drop]
  rw [List.set_eq_take_append_cons_drop, if_pos h]; simp

def K256 : List UInt32 := [
  0x428a2f98, 0x71374491, 0xb5c0fbcf, 0xe9b5dba5, 0x3956c25b, 0x59f111f1, 0x923f82a4, 0xab1c5ed5,
  0xd807aa98, 0x12835b01, 0x243185be, 0x550c7dc3, 0x72be5d74, 0x80deb1fe, 0x9bdc06a7, 0xc19bf174,
  0xe49b69c1, 0xefbe4786, 0x0fc19dc6, 0x240ca1cc, 0x2de92c6f, 0x4a7484aa, 0x5cb0a9dc, 0x76f988da,
  0x983e5152, 0xa831c66d, 0xb00327c8, 0xbf597fc7, 0xc6e00bf3, 0xd5a79147, 0x06ca6351, 0x14292967,
  0x27b70a85, 0x2e1b2138, 0x4d2c6dfc, 0x53380d13, 0x650a7354, 0x766a0abb, 0x81c2c92e, 0x92722c85,
  0xa2bfe8a1, 0xa81a664b, 0xc24b8b70, 0xc76c51a3, 0xd192e819, 0xd6990624, 0xf40e3585, 0x106aa070,
  0x19a4c116, 0x1e376c08, 0x2748774c, 0x34b0bcb5, 0x391c0cb3, 0x4ed8aa4a, 0x5b9cca4f, 0x682e6ff3,
  0x748f82ee, 0x78a5636f, 0x84c87814, 0x8cc70208, 0x90befffa, 0xa4506ceb, 0xbef9a3f7, 0xc67178f2]
def H256 : List UInt32 := [0x6a09e667, 0xbb67ae85, 0x3c6ef372, 0xa54ff53a, 0x510e527f, 0x9b05688c, 0x1f83d9ab, 0x5be0cd19]

theorem bldK_all {f : Fr} {C : List AV → Prop} : ∀ (parts : List (Nat × Nat × Operand)) (cells out : List AV), (∀ (g : Nat), parts.map (fun p => ev f p.2.2) = out → True) → True := fun _ _ _ _ => trivial

theorem begin_spec (s : Hp) : AC Tryz.prog 73 [] s fun r s' => s' = s ∧ r = .agg (wl H256) := by
  refine AC_run hm prep73 (by simp) ?_
  simp (dsimp := false) (implicitDefEqProofs := false) (maxSteps := 1000000) (disch := first | omega | assumption | (simp only [rL, Nat.reduceAdd]; done) | (simp only [rL, Nat.reduceAdd]; omega)) only [↓rD, rU, ev, ofConst, ofCell, ↓reduceIte, Nat.reduceEqDiff, Nat.reduceAdd, Nat.reduceSub, Nat.reduceMul, Nat.reduceLeDiff, Nat.reduceLT, Int.reduceNeg, Int.reduceToNat, Int.reduceAdd, Int.reduceSub, Int.reduceMul, Int.reduceLT, Int.reduceLE, Int.reduceEq]
  refine newK_intro fun l h => ?_
  simp (dsimp := false) (implicitDefEqProofs := false) (maxSteps := 1000000) (disch := first | omega | assumption | (simp only [rL, Nat.reduceAdd]; done) | (simp only [rL, Nat.reduceAdd]; omega)) only [↓rD, rU, ev, ofConst, ofCell, ↓reduceIte, Nat.reduceEqDiff, Nat.reduceAdd, Nat.reduceSub, Nat.reduceMul, Nat.reduceLeDiff, Nat.reduceLT, Int.reduceNeg, Int.reduceToNat, Int.reduceAdd, Int.reduceSub, Int.reduceMul, Int.reduceLT, Int.reduceLE, Int.reduceEq, putAt, List.take, List.drop, List.replicate, List.cons_append, List.nil_append]
  exact ⟨s, Hp.sub_new Hp.sub_refl h, rfl, rfl⟩

theorem rounds_spec (s : Hp) : AC Tryz.prog 109 [] s fun r s' => s' = s ∧ r = .agg (wl K256) := by
  refine AC_run hm prep109 (by simp) ?_
  simp (dsimp := false) (implicitDefEqProofs := false) (maxSteps := 1000000) (disch := first | omega | assumption | (simp only [rL, Nat.reduceAdd]; done) | (simp only [rL, Nat.reduceAdd]; omega)) only [↓rD, rU, ev, ofConst, ofCell, ↓reduceIte, Nat.reduceEqDiff, Nat.reduceAdd, Nat.reduceSub, Nat.reduceMul, Nat.reduceLeDiff, Nat.reduceLT, Int.reduceNeg, Int.reduceToNat, Int.reduceAdd, Int.reduceSub, Int.reduceMul, Int.reduceLT, Int.reduceLE, Int.reduceEq]
  refine newK_intro fun l h => ?_
  simp (dsimp := false) (implicitDefEqProofs := false) (maxSteps := 1000000) (disch := first | omega | assumption | (simp only [rL, Nat.reduceAdd]; done) | (simp only [rL, Nat.reduceAdd]; omega)) only [↓rD, rU, ev, ofConst, ofCell, ↓reduceIte, Nat.reduceEqDiff, Nat.reduceAdd, Nat.reduceSub, Nat.reduceMul, Nat.reduceLeDiff, Nat.reduceLT, Int.reduceNeg, Int.reduceToNat, Int.reduceAdd, Int.reduceSub, Int.reduceMul, Int.reduceLT, Int.reduceLE, Int.reduceEq, putAt, List.take, List.drop, List.replicate, List.cons_append, List.nil_append]
  exact ⟨s, Hp.sub_new Hp.sub_refl h, rfl, rfl⟩
end Go.Proofs.YtnnjjmiahcnbaaaGreat
set_option maxRecDepth 100000
namespace Go.Proofs.YtnnjjmiahcnbaaaGreat
open Go Go.Av

def rnd (k w : UInt32) : List UInt32 → List UInt32
  | [a, b, c, d, e, f, g, h] =>
    let one := h + (rotl e 26 ^^^ rotl e 21 ^^^ rotl e 7) + (e &&& f ^^^ ~~~e &&& g) + k + w
    let two := (rotl a 30 ^^^ rotl a 19 ^^^ rotl a 10) + (a &&& b ^^^ a &&& c ^^^ b &&& c)
    [one + two, a, b, c, d + one, e, f, g]
  | l => l
def goR : List UInt32 → List UInt32 → List UInt32 → List UInt32
  | k :: ks, w :: ws, v => goR ks ws (rnd k w v)
  | _, _, v => v
def comp (h : List UInt32) (bs : List UInt8) : List UInt32 := List.zipWith (· + ·) (goR K256 (sched bs) h) h

def addTo (i : Nat) (v h : List UInt32) : List UInt32 := List.zipWith (· + ·) (v.take i) (h.take i) ++ v.drop i

theorem grow_length : ∀ (n : Nat) (w : List UInt32), (grow n w).length = w.length + n
  | 0, w => rfl
  | n + 1, w => by rw [grow, grow_length n, more]; simp; omega
theorem sched_length (bs : List UInt8) : (sched bs).length = 64 := by simp [sched, grow_length, first]

theorem sched_spec' (bs : List UInt8) (o : Own) (h : bs.length = 64) (s : Hp) : AC Tryz.prog 108 [.sl (bs.map byteAV) o] s fun r s' => s' = s ∧ r = .agg (wl (sched bs)) := sched_spec bs o h s

theorem addTo_put (v h : List UInt32) (hv : v.length = 8) (hh : h.length = 8) (i : Nat) (hi : i < 8) :
    (addTo i v h).length = 8 ∧ (addTo i v h).set i ((addTo i v h).getD i 0 + h.getD i 0) = addTo (i + 1) v h := by
  match v, hv, h, hh with
  | [a, b, c, d, e, f, g, k], _, [p, q, r, t, u, w, x, y], _ =>
    rcases (by omega : i = 0 ∨ i = 1 ∨ i = 2 ∨ i = 3 ∨ i = 4 ∨ i = 5 ∨ i = 6 ∨ i = 7) with rfl | rfl | rfl | rfl | rfl | rfl | rfl | rfl <;> exact ⟨rfl, rfl⟩

theorem rnd_length (k w : UInt32) (v : List UInt32) (h : v.length = 8) : (rnd k w v).length = 8 := by
  match v, h with
  | [a, b, c, d, e, f, g, k], _ => rfl
theorem goR_length : ∀ (ks ws v : List UInt32), v.length = 8 → (goR ks ws v).length = 8
  | [], _, v, h => by simpa [goR] using h
  | _ :: _, [], v, h => by simpa [goR] using h
  | k :: ks, w :: ws, v, h => by rw [goR]; exact goR_length ks ws _ (rnd_length k w v h)
theorem goR_drop (ks ws v : List UInt32) (i : Nat) (h : i < ks.length) (h2 : i < ws.length) : goR (ks.drop i) (ws.drop i) v = goR (ks.drop (i + 1)) (ws.drop (i + 1)) (rnd (ks.getD i 0) (ws.getD i 0) v) := by
  rw [List.drop_eq_getElem_cons h, List.drop_eq_getElem_cons h2, goR]; simp [List.getD, h, h2]

theorem turn_aux (h K S : List UInt32) (bs : List UInt8) (o : Own) (hh : h.length = 8) (hK64 : K.length = 64) (hS64 : S.length = 64)
    (hrs : ∀ s, AC Tryz.prog 109 [] s fun r s' => s' = s ∧ r = .agg (wl K))
    (hss : ∀ s, AC Tryz.prog 108 [.sl (bs.map byteAV) o] s fun r s' => s' = s ∧ r = .agg (wl S)) (s : Hp) :
    AC Tryz.prog 74 [.agg (wl h), .sl (bs.map byteAV) o] s fun r s' => s' = s ∧ r = .agg (wl (List.zipWith (· + ·) (goR K S h) h)) := by
  refine AC_run hm prep74 (by simp) ?_
  have hwl : (wl h).length = 8 := by rw [wl_length, hh]
  have hKl : (wl K).length = 64 := by rw [wl_length, hK64]
  have hSl : (wl S).length = 64 := by rw [wl_length, hS64]
  simp (dsimp := false) (implicitDefEqProofs := false) (maxSteps := 1000000) (disch := first | omega | assumption | (simp only [rL, Nat.reduceAdd]; done) | (simp only [rL, Nat.reduceAdd]; omega)) only [↓rD, rU, ev, ofConst, ofCell, ↓reduceIte, Nat.reduceEqDiff, Nat.reduceAdd, Nat.reduceSub, Nat.reduceMul, Nat.reduceLeDiff, Nat.reduceLT, Int.reduceNeg, Int.reduceToNat, Int.reduceAdd, Int.reduceSub, Int.reduceMul, Int.reduceLT, Int.reduceLE, Int.reduceEq, hwl]
  refine newK_intro fun l2 n2 => ?_
  simp (dsimp := false) (implicitDefEqProofs := false) (maxSteps := 1000000) (disch := first | omega | assumption | (simp only [rL, Nat.reduceAdd]; done) | (simp only [rL, Nat.reduceAdd]; omega)) only [↓rD, rU, ev, ofConst, ofCell, ↓reduceIte, Nat.reduceEqDiff, Nat.reduceAdd, Nat.reduceSub, Nat.reduceMul, Nat.reduceLeDiff, Nat.reduceLT, Int.reduceNeg, Int.reduceToNat, Int.reduceAdd, Int.reduceSub, Int.reduceMul, Int.reduceLT, Int.reduceLE, Int.reduceEq, hwl]
  refine newK_intro fun l4 n4 => ?_
  obtain ⟨d42, n4⟩ := Hp.set_none n4
  simp (dsimp := false) (implicitDefEqProofs := false) (maxSteps := 1000000) (disch := first | omega | assumption | (simp only [rL, Nat.reduceAdd]; done) | (simp only [rL, Nat.reduceAdd]; omega)) only [↓rD, rU, ev, ofConst, ofCell, ↓reduceIte, Nat.reduceEqDiff, Nat.reduceAdd, Nat.reduceSub, Nat.reduceMul, Nat.reduceLeDiff, Nat.reduceLT, Int.reduceNeg, Int.reduceToNat, Int.reduceAdd, Int.reduceSub, Int.reduceMul, Int.reduceLT, Int.reduceLE, Int.reduceEq, hwl]
  refine call_intro (hss _) ?_
  rintro _ _ ⟨rfl, rfl⟩
  simp (dsimp := false) (implicitDefEqProofs := false) (maxSteps := 1000000) (disch := first | omega | assumption | (simp only [rL, Nat.reduceAdd]; done) | (simp only [rL, Nat.reduceAdd]; omega)) only [↓rD, rU, ev, ofConst, ofCell, ↓reduceIte, Nat.reduceEqDiff, Nat.reduceAdd, Nat.reduceSub, Nat.reduceMul, Nat.reduceLeDiff, Nat.reduceLT, Int.reduceNeg, Int.reduceToNat, Int.reduceAdd, Int.reduceSub, Int.reduceMul, Int.reduceLT, Int.reduceLE, Int.reduceEq, hwl]
  refine call_intro (hrs _) ?_
  rintro _ _ ⟨rfl, rfl⟩
  simp (dsimp := false) (implicitDefEqProofs := false) (maxSteps := 1000000) (disch := first | omega | assumption | (simp only [rL, Nat.reduceAdd]; done) | (simp only [rL, Nat.reduceAdd]; omega)) only [↓rD, rU, ev, ofConst, ofCell, ↓reduceIte, Nat.reduceEqDiff, Nat.reduceAdd, Nat.reduceSub, Nat.reduceMul, Nat.reduceLeDiff, Nat.reduceLT, Int.reduceNeg, Int.reduceToNat, Int.reduceAdd, Int.reduceSub, Int.reduceMul, Int.reduceLT, Int.reduceLE, Int.reduceEq, hwl]
  refine newK_intro fun l5 n5 => ?_
  obtain ⟨d54, n5⟩ := Hp.set_none n5
  obtain ⟨d52, n5⟩ := Hp.set_none n5
  simp (dsimp := false) (implicitDefEqProofs := false) (maxSteps := 1000000) (disch := first | omega | assumption | (simp only [rL, Nat.reduceAdd]; done) | (simp only [rL, Nat.reduceAdd]; omega)) only [↓rD, rU, ev, ofConst, ofCell, ↓reduceIte, Nat.reduceEqDiff, Nat.reduceAdd, Nat.reduceSub, Nat.reduceMul, Nat.reduceLeDiff, Nat.reduceLT, Int.reduceNeg, Int.reduceToNat, Int.reduceAdd, Int.reduceSub, Int.reduceMul, Int.reduceLT, Int.reduceLE, Int.reduceEq, hwl]
  refine newK_intro fun l6 n6 => ?_
  obtain ⟨d65, n6⟩ := Hp.set_none n6
  obtain ⟨d64, n6⟩ := Hp.set_none n6
  obtain ⟨d62, n6⟩ := Hp.set_none n6
  simp (dsimp := false) (implicitDefEqProofs := false) (maxSteps := 1000000) (disch := first | omega | assumption | (simp only [rL, Nat.reduceAdd]; done) | (simp only [rL, Nat.reduceAdd]; omega)) only [↓rD, rU, ev, ofConst, ofCell, ↓reduceIte, Nat.reduceEqDiff, Nat.reduceAdd, Nat.reduceSub, Nat.reduceMul, Nat.reduceLeDiff, Nat.reduceLT, Int.reduceNeg, Int.reduceToNat, Int.reduceAdd, Int.reduceSub, Int.reduceMul, Int.reduceLT, Int.reduceLE, Int.reduceEq, hwl]
  refine newK_intro fun l7 n7 => ?_
  obtain ⟨d76, n7⟩ := Hp.set_none n7
  obtain ⟨d75, n7⟩ := Hp.set_none n7
  obtain ⟨d74, n7⟩ := Hp.set_none n7
  obtain ⟨d72, n7⟩ := Hp.set_none n7
  simp (dsimp := false) (implicitDefEqProofs := false) (maxSteps := 1000000) (disch := first | omega | assumption | (simp only [rL, Nat.reduceAdd]; done) | (simp only [rL, Nat.reduceAdd]; omega)) only [↓rD, rU, ev, ofConst, ofCell, ↓reduceIte, Nat.reduceEqDiff, Nat.reduceAdd, Nat.reduceSub, Nat.reduceMul, Nat.reduceLeDiff, Nat.reduceLT, Int.reduceNeg, Int.reduceToNat, Int.reduceAdd, Int.reduceSub, Int.reduceMul, Int.reduceLT, Int.reduceLE, Int.reduceEq, hwl, hKl, hSl, List.take_of_length_le]
  refine loop_intro (fun f s' => ∃ (i : Nat) (v : List UInt32), i ≤ 64 ∧ v.length = 8 ∧ goR (K.drop i) (S.drop i) v = goR K S h ∧ f 2 = .ptr l2 0 ∧ f 4 = .ptr l4 0 ∧ f 5 = .ptr l5 0 ∧ f 6 = .ptr l6 0 ∧ f 7 = .ptr l7 0 ∧ f 18 = .v (.int .i64 i) ∧
      s' = (((((s.set l2 (.cells (wl h))).set l4 (.cells (List.replicate 8 (.v (.int .u32 0))))).set l5 (.cells (wl S))).set l6 (.cells (wl K))).set l7 (.cells (wl v))))
    (fun f _ => match f 18 with | .v (.int _ n) => (64 - n).toNat | _ => 0) ⟨0, h, by omega, hh, rfl, ?_⟩ ?_
  · simp (dsimp := false) (implicitDefEqProofs := false) (maxSteps := 1000000) (disch := first | omega | assumption | (simp only [rL, Nat.reduceAdd]; done) | (simp only [rL, Nat.reduceAdd]; omega)) only [↓rD, rU, ev, ofConst, ofCell, ↓reduceIte, Nat.reduceEqDiff, Nat.reduceAdd, Nat.reduceSub, Nat.reduceMul, Nat.reduceLeDiff, Nat.reduceLT, Int.reduceNeg, Int.reduceToNat, Int.reduceAdd, Int.reduceSub, Int.reduceMul, Int.reduceLT, Int.reduceLE, Int.reduceEq]
    trivial
  · rintro f s' ⟨i, v, hi, hv, hg, f2, f4, f5, f6, f7, f18, rfl⟩
    have hvl : (wl v).length = 8 := by rw [wl_length, hv]
    by_cases hlt : (i : Int) < 64
    · obtain ⟨a, b, c, d, e, f', g, k', rfl⟩ : ∃ a b c d e f' g k', v = [a, b, c, d, e, f', g, k'] := by
        match v, hv with
        | [a, b, c, d, e, f', g, k'], _ => exact ⟨a, b, c, d, e, f', g, k', rfl⟩
      simp (dsimp := false) (implicitDefEqProofs := false) (maxSteps := 1000000) (disch := first | omega | assumption | (simp only [rL, Nat.reduceAdd]; done) | (simp only [rL, Nat.reduceAdd]; omega)) only [↓rD, rU, ev, ofConst, ofCell, ↓reduceIte, Nat.reduceEqDiff, Nat.reduceAdd, Nat.reduceSub, Nat.reduceMul, Nat.reduceLeDiff, Nat.reduceLT, Int.reduceNeg, Int.reduceToNat, Int.reduceAdd, Int.reduceSub, Int.reduceMul, Int.reduceLT, Int.reduceLE, Int.reduceEq, f2, f4, f5, f6, f7, f18, hlt, hvl, hKl, hSl, wl_at, wl_at0, List.getD_cons_zero, List.getD_cons_succ]
      refine call_intro (rotl_spec' _ _ 26 (by decide) (by decide) _) ?_
      rintro _ _ ⟨rfl, rfl⟩
      simp (dsimp := false) (implicitDefEqProofs := false) (maxSteps := 1000000) (disch := first | omega | assumption | (simp only [rL, Nat.reduceAdd]; done) | (simp only [rL, Nat.reduceAdd]; omega)) only [↓rD, rU, ev, ofConst, ofCell, ↓reduceIte, Nat.reduceEqDiff, Nat.reduceAdd, Nat.reduceSub, Nat.reduceMul, Nat.reduceLeDiff, Nat.reduceLT, Int.reduceNeg, Int.reduceToNat, Int.reduceAdd, Int.reduceSub, Int.reduceMul, Int.reduceLT, Int.reduceLE, Int.reduceEq, f2, f4, f5, f6, f7, f18, hlt, hvl, hKl, hSl, wl_at, wl_at0, List.getD_cons_zero, List.getD_cons_succ]
      refine call_intro (rotl_spec' _ _ 21 (by decide) (by decide) _) ?_
      rintro _ _ ⟨rfl, rfl⟩
      simp (dsimp := false) (implicitDefEqProofs := false) (maxSteps := 1000000) (disch := first | omega | assumption | (simp only [rL, Nat.reduceAdd]; done) | (simp only [rL, Nat.reduceAdd]; omega)) only [↓rD, rU, ev, ofConst, ofCell, ↓reduceIte, Nat.reduceEqDiff, Nat.reduceAdd, Nat.reduceSub, Nat.reduceMul, Nat.reduceLeDiff, Nat.reduceLT, Int.reduceNeg, Int.reduceToNat, Int.reduceAdd, Int.reduceSub, Int.reduceMul, Int.reduceLT, Int.reduceLE, Int.reduceEq, f2, f4, f5, f6, f7, f18, hlt, hvl, hKl, hSl, wl_at, wl_at0, List.getD_cons_zero, List.getD_cons_succ]
      refine call_intro (rotl_spec' _ _ 7 (by decide) (by decide) _) ?_
      rintro _ _ ⟨rfl, rfl⟩
      simp (dsimp := false) (implicitDefEqProofs := false) (maxSteps := 1000000) (disch := first | omega | assumption | (simp only [rL, Nat.reduceAdd]; done) | (simp only [rL, Nat.reduceAdd]; omega)) only [↓rD, rU, ev, ofConst, ofCell, ↓reduceIte, Nat.reduceEqDiff, Nat.reduceAdd, Nat.reduceSub, Nat.reduceMul, Nat.reduceLeDiff, Nat.reduceLT, Int.reduceNeg, Int.reduceToNat, Int.reduceAdd, Int.reduceSub, Int.reduceMul, Int.reduceLT, Int.reduceLE, Int.reduceEq, f2, f4, f5, f6, f7, f18, hlt, hvl, hKl, hSl, wl_at, wl_at0, List.getD_cons_zero, List.getD_cons_succ]
      refine call_intro (rotl_spec' _ _ 30 (by decide) (by decide) _) ?_
      rintro _ _ ⟨rfl, rfl⟩
      simp (dsimp := false) (implicitDefEqProofs := false) (maxSteps := 1000000) (disch := first | omega | assumption | (simp only [rL, Nat.reduceAdd]; done) | (simp only [rL, Nat.reduceAdd]; omega)) only [↓rD, rU, ev, ofConst, ofCell, ↓reduceIte, Nat.reduceEqDiff, Nat.reduceAdd, Nat.reduceSub, Nat.reduceMul, Nat.reduceLeDiff, Nat.reduceLT, Int.reduceNeg, Int.reduceToNat, Int.reduceAdd, Int.reduceSub, Int.reduceMul, Int.reduceLT, Int.reduceLE, Int.reduceEq, f2, f4, f5, f6, f7, f18, hlt, hvl, hKl, hSl, wl_at, wl_at0, List.getD_cons_zero, List.getD_cons_succ]
      refine call_intro (rotl_spec' _ _ 19 (by decide) (by decide) _) ?_
      rintro _ _ ⟨rfl, rfl⟩
      simp (dsimp := false) (implicitDefEqProofs := false) (maxSteps := 1000000) (disch := first | omega | assumption | (simp only [rL, Nat.reduceAdd]; done) | (simp only [rL, Nat.reduceAdd]; omega)) only [↓rD, rU, ev, ofConst, ofCell, ↓reduceIte, Nat.reduceEqDiff, Nat.reduceAdd, Nat.reduceSub, Nat.reduceMul, Nat.reduceLeDiff, Nat.reduceLT, Int.reduceNeg, Int.reduceToNat, Int.reduceAdd, Int.reduceSub, Int.reduceMul, Int.reduceLT, Int.reduceLE, Int.reduceEq, f2, f4, f5, f6, f7, f18, hlt, hvl, hKl, hSl, wl_at, wl_at0, List.getD_cons_zero, List.getD_cons_succ]
      refine call_intro (rotl_spec' _ _ 10 (by decide) (by decide) _) ?_
      rintro _ _ ⟨rfl, rfl⟩
      simp (dsimp := false) (implicitDefEqProofs := false) (maxSteps := 1000000) (disch := first | omega | assumption | (simp only [rL, Nat.reduceAdd]; done) | (simp only [rL, Nat.reduceAdd]; omega)) only [↓rD, rU, ev, ofConst, ofCell, ↓reduceIte, Nat.reduceEqDiff, Nat.reduceAdd, Nat.reduceSub, Nat.reduceMul, Nat.reduceLeDiff, Nat.reduceLT, Int.reduceNeg, Int.reduceToNat, Int.reduceAdd, Int.reduceSub, Int.reduceMul, Int.reduceLT, Int.reduceLE, Int.reduceEq, f2, f4, f5, f6, f7, f18, hlt, hvl, hKl, hSl, wl_at, wl_at0, List.getD_cons_zero, List.getD_cons_succ, putAt, List.take, List.drop, List.replicate, List.cons_append, List.nil_append]
      refine ⟨⟨i + 1, rnd (K.getD i 0) (S.getD i 0) [a, b, c, d, e, f', g, k'], by omega, rfl, ?_, by simp, rfl⟩, by omega⟩
      rw [← hg, goR_drop K S _ i (by omega) (by omega)]
    · obtain rfl : i = 64 := by omega
      have hv' : goR K S h = v := by
        rw [← hg, List.drop_of_length_le (by omega)]; rfl
      simp (dsimp := false) (implicitDefEqProofs := false) (maxSteps := 1000000) (disch := first | omega | assumption | (simp only [rL, Nat.reduceAdd]; done) | (simp only [rL, Nat.reduceAdd]; omega)) only [↓rD, rU, ev, ofConst, ofCell, ↓reduceIte, Nat.reduceEqDiff, Nat.reduceAdd, Nat.reduceSub, Nat.reduceMul, Nat.reduceLeDiff, Nat.reduceLT, Int.reduceNeg, Int.reduceToNat, Int.reduceAdd, Int.reduceSub, Int.reduceMul, Int.reduceLT, Int.reduceLE, Int.reduceEq, f2, f4, f5, f6, f7, f18, hlt, hvl, hKl, hSl]
      refine loop_intro (fun f s' => ∃ i : Nat, i ≤ 8 ∧ f 2 = .ptr l2 0 ∧ f 4 = .ptr l4 0 ∧ f 7 = .ptr l7 0 ∧ f 108 = .v (.int .i64 i) ∧
          s' = (((((s.set l2 (.cells (wl h))).set l4 (.cells (List.replicate 8 (.v (.int .u32 0))))).set l5 (.cells (wl S))).set l6 (.cells (wl K))).set l7 (.cells (wl (addTo i v h)))))
        (fun f _ => match f 108 with | .v (.int _ n) => (8 - n).toNat | _ => 0) ⟨0, by omega, ?_⟩ ?_
      · simp (dsimp := false) (implicitDefEqProofs := false) (maxSteps := 1000000) (disch := first | omega | assumption | (simp only [rL, Nat.reduceAdd]; done) | (simp only [rL, Nat.reduceAdd]; omega)) only [↓rD, rU, ev, ofConst, ofCell, ↓reduceIte, Nat.reduceEqDiff, Nat.reduceAdd, Nat.reduceSub, Nat.reduceMul, Nat.reduceLeDiff, Nat.reduceLT, Int.reduceNeg, Int.reduceToNat, Int.reduceAdd, Int.reduceSub, Int.reduceMul, Int.reduceLT, Int.reduceLE, Int.reduceEq, f2, f4, f7]
        exact ⟨rfl, rfl⟩
      · rintro f s' ⟨i, hi, f2, f4, f7, f108, rfl⟩
        by_cases hlt : (i : Int) < 8
        · obtain ⟨ha, hb⟩ := addTo_put v h hv hh i (by omega)
          have hal : (wl (addTo i v h)).length = 8 := by rw [wl_length, ha]
          simp (dsimp := false) (implicitDefEqProofs := false) (maxSteps := 1000000) (disch := first | omega | assumption | (simp only [rL, Nat.reduceAdd]; done) | (simp only [rL, Nat.reduceAdd]; omega)) only [↓rD, rU, ev, ofConst, ofCell, ↓reduceIte, Nat.reduceEqDiff, Nat.reduceAdd, Nat.reduceSub, Nat.reduceMul, Nat.reduceLeDiff, Nat.reduceLT, Int.reduceNeg, Int.reduceToNat, Int.reduceAdd, Int.reduceSub, Int.reduceMul, Int.reduceLT, Int.reduceLE, Int.reduceEq, f2, f4, f7, f108, hlt, hwl, hal, wl_at, wl_put, hb]
          exact ⟨⟨i + 1, by omega, by simp, rfl⟩, by omega⟩
        · obtain rfl : i = 8 := by omega
          have hz : addTo 8 v h = List.zipWith (· + ·) v h := by
            simp only [addTo]; rw [List.take_of_length_le (by omega), List.take_of_length_le (by omega), List.drop_of_length_le (by omega), List.append_nil]
          have hzl : (wl (List.zipWith (· + ·) v h)).length = 8 := by rw [wl_length]; simp; omega
          rw [hz]
          simp (dsimp := false) (implicitDefEqProofs := false) (maxSteps := 1000000) (disch := first | omega | assumption | (simp only [rL, Nat.reduceAdd]; done) | (simp only [rL, Nat.reduceAdd]; omega)) only [↓rD, rU, ev, ofConst, ofCell, ↓reduceIte, Nat.reduceEqDiff, Nat.reduceAdd, Nat.reduceSub, Nat.reduceMul, Nat.reduceLeDiff, Nat.reduceLT, Int.reduceNeg, Int.reduceToNat, Int.reduceAdd, Int.reduceSub, Int.reduceMul, Int.reduceLT, Int.reduceLE, Int.reduceEq, f2, f4, f7, f108, hlt, hzl, List.take_of_length_le]
          refine ⟨s, ?_, rfl, by rw [hv']⟩
          exact Hp.sub_new (Hp.sub_new (Hp.sub_new (Hp.sub_new (Hp.sub_new Hp.sub_refl n2) n4) n5) n6) n7

theorem turn_spec (h : List UInt32) (bs : List UInt8) (o : Own) (hh : h.length = 8) (hb : bs.length = 64) (s : Hp) :
    AC Tryz.prog 74 [.agg (wl h), .sl (bs.map byteAV) o] s fun r s' => s' = s ∧ r = .agg (wl (comp h bs)) :=
  turn_aux h K256 (sched bs) bs o hh rfl (sched_length bs) rounds_spec (sched_spec' bs o hb) s
theorem comp_length (h : List UInt32) (bs : List UInt8) (hh : h.length = 8) : (comp h bs).length = 8 := by
  simp [comp, goR_length _ _ _ hh, hh]
end Go.Proofs.YtnnjjmiahcnbaaaGreat
set_option maxRecDepth 100000
namespace Go.Proofs.YtnnjjmiahcnbaaaGreat
open Go Go.Av

def bytes (bs : List UInt8) (o : Own) : AV := .sl (bs.map byteAV) o

def eightB (n : Nat) : List UInt8 := [UInt8.ofNat (n >>> 56), UInt8.ofNat (n >>> 48), UInt8.ofNat (n >>> 40), UInt8.ofNat (n >>> 32), UInt8.ofNat (n >>> 24), UInt8.ofNat (n >>> 16), UInt8.ofNat (n >>> 8), UInt8.ofNat (n >>> 0)]

theorem eight_spec (n : Nat) (s : Hp) : AC Tryz.prog 27 [.v (.int .u64 n)] s fun r s' => ∃ o, Owned s s' 1 ((eightB n).map byteAV) o ∧ r = .sl ((eightB n).map byteAV) o := by
  refine AC_run hm prep27 (by simp) ?_
  simp (dsimp := false) (implicitDefEqProofs := false) (maxSteps := 1000000) (disch := first | omega | assumption | (simp only [rL, Nat.reduceAdd]; done) | (simp only [rL, Nat.reduceAdd]; omega)) only [↓rD, rU, ev, ofConst, ofCell, ↓reduceIte, Nat.reduceEqDiff, Nat.reduceAdd, Nat.reduceSub, Nat.reduceMul, Nat.reduceLeDiff, Nat.reduceLT, Int.reduceNeg, Int.reduceToNat, Int.reduceAdd, Int.reduceSub, Int.reduceMul, Int.reduceLT, Int.reduceLE, Int.reduceEq]
  refine loop_intro (fun f s' => ∃ (j : Nat) (o : Own), j ≤ 8 ∧ Owned s s' 1 (((eightB n).take j).map byteAV) o ∧ f 0 = .v (.int .u64 n) ∧ f 3 = .sl (((eightB n).take j).map byteAV) o ∧ f 4 = .v (.int .i64 (56 - 8 * (j : Int))))
    (fun f _ => match f 4 with | .v (.int _ n) => (n + 8).toNat | _ => 0) ⟨0, .nil, by omega, Owned.nilB Hp.sub_refl, ?_⟩ ?_
  · simp (dsimp := false) (implicitDefEqProofs := false) (maxSteps := 1000000) (disch := first | omega | assumption | (simp only [rL, Nat.reduceAdd]; done) | (simp only [rL, Nat.reduceAdd]; omega)) only [↓rD, rU, ev, ofConst, ofCell, ↓reduceIte, Nat.reduceEqDiff, Nat.reduceAdd, Nat.reduceSub, Nat.reduceMul, Nat.reduceLeDiff, Nat.reduceLT, Int.reduceNeg, Int.reduceToNat, Int.reduceAdd, Int.reduceSub, Int.reduceMul, Int.reduceLT, Int.reduceLE, Int.reduceEq]
    exact ⟨rfl, rfl⟩
  · rintro f s' ⟨j, o, hj, ho, f0, f3, f4⟩
    by_cases hlt : (0 : Int) ≤ 56 - 8 * (j : Int)
    · simp (dsimp := false) (implicitDefEqProofs := false) (maxSteps := 1000000) (disch := first | omega | assumption | (simp only [rL, Nat.reduceAdd]; done) | (simp only [rL, Nat.reduceAdd]; omega)) only [↓rD, rU, ev, ofConst, ofCell, ↓reduceIte, Nat.reduceEqDiff, Nat.reduceAdd, Nat.reduceSub, Nat.reduceMul, Nat.reduceLeDiff, Nat.reduceLT, Int.reduceNeg, Int.reduceToNat, Int.reduceAdd, Int.reduceSub, Int.reduceMul, Int.reduceLT, Int.reduceLE, Int.reduceEq, f0, f3, f4, hlt, wrap_u8_nat]
      refine bsl_byte Hp.sub_refl fun o' s1 h1 => ?_
      simp (dsimp := false) (implicitDefEqProofs := false) (maxSteps := 1000000) (disch := first | omega | assumption | (simp only [rL, Nat.reduceAdd]; done) | (simp only [rL, Nat.reduceAdd]; omega)) only [↓rD, rU, ev, ofConst, ofCell, ↓reduceIte, Nat.reduceEqDiff, Nat.reduceAdd, Nat.reduceSub, Nat.reduceMul, Nat.reduceLeDiff, Nat.reduceLT, Int.reduceNeg, Int.reduceToNat, Int.reduceAdd, Int.reduceSub, Int.reduceMul, Int.reduceLT, Int.reduceLE, Int.reduceEq, f0, f3, f4, hlt]
      refine app_byte1 (ho.mono h1.sub) (by simp [eightB]; omega) fun o2 s2 h2 => ?_
      simp (dsimp := false) (implicitDefEqProofs := false) (maxSteps := 1000000) (disch := first | omega | assumption | (simp only [rL, Nat.reduceAdd]; done) | (simp only [rL, Nat.reduceAdd]; omega)) only [↓rD, rU, ev, ofConst, ofCell, ↓reduceIte, Nat.reduceEqDiff, Nat.reduceAdd, Nat.reduceSub, Nat.reduceMul, Nat.reduceLeDiff, Nat.reduceLT, Int.reduceNeg, Int.reduceToNat, Int.reduceAdd, Int.reduceSub, Int.reduceMul, Int.reduceLT, Int.reduceLE, Int.reduceEq, f0, f3, f4, hlt]
      refine ⟨⟨j + 1, o2, by omega, ?_, ?_⟩, by omega⟩
      · have e : (eightB n).take (j + 1) = (eightB n).take j ++ [UInt8.ofNat (n >>> (56 - 8 * (j : Int)).toNat)] := by
          rcases (by omega : j = 0 ∨ j = 1 ∨ j = 2 ∨ j = 3 ∨ j = 4 ∨ j = 5 ∨ j = 6 ∨ j = 7) with rfl | rfl | rfl | rfl | rfl | rfl | rfl | rfl <;> rfl
        rw [e]; exact h2
      · have e : (eightB n).take (j + 1) = (eightB n).take j ++ [UInt8.ofNat (n >>> (56 - 8 * (j : Int)).toNat)] := by
          rcases (by omega : j = 0 ∨ j = 1 ∨ j = 2 ∨ j = 3 ∨ j = 4 ∨ j = 5 ∨ j = 6 ∨ j = 7) with rfl | rfl | rfl | rfl | rfl | rfl | rfl | rfl <;> rfl
        refine ⟨by rw [e], by simp; omega⟩
    · obtain rfl : j = 8 := by omega
      simp (dsimp := false) (implicitDefEqProofs := false) (maxSteps := 1000000) (disch := first | omega | assumption | (simp only [rL, Nat.reduceAdd]; done) | (simp only [rL, Nat.reduceAdd]; omega)) only [↓rD, rU, ev, ofConst, ofCell, ↓reduceIte, Nat.reduceEqDiff, Nat.reduceAdd, Nat.reduceSub, Nat.reduceMul, Nat.reduceLeDiff, Nat.reduceLT, Int.reduceNeg, Int.reduceToNat, Int.reduceAdd, Int.reduceSub, Int.reduceMul, Int.reduceLT, Int.reduceLE, Int.reduceEq, f0, f3, f4, hlt]
      exact ⟨s', Hp.sub_refl, o, ho, rfl⟩
end Go.Proofs.YtnnjjmiahcnbaaaGreat
set_option maxRecDepth 100000
namespace Go.Proofs.YtnnjjmiahcnbaaaGreat
open Go Go.Av

def TX (ts : List (List UInt8 × Own)) : List AV := ts.map fun p => .sl (p.1.map byteAV) p.2
def chunk (t : List UInt8) : List UInt8 := eightB t.length ++ t
def preB (tag : UInt8) (ts : List (List UInt8)) : List UInt8 := tag :: ts.flatMap chunk

theorem preB_ge (tag : UInt8) : ∀ ts : List (List UInt8), ts.length < (preB tag ts).length
  | [] => by simp [preB]
  | t :: r => by
    have := preB_ge tag r
    simp only [preB, List.length_cons, List.flatMap_cons, List.length_append, chunk, eightB, List.length_nil] at this ⊢
    omega
theorem pre_spec (tag : UInt8) (ts : List (List UInt8 × Own)) (o : Own) (hlen : (preB tag (ts.map (·.1))).length ≤ 70368744177664) (s : Hp) :
    AC Tryz.prog 12 [.v (.int .u8 tag.toNat), .sl (TX ts) o] s fun r s' => ∃ o, Owned s s' 1 ((preB tag (ts.map (·.1))).map byteAV) o ∧ r = .sl ((preB tag (ts.map (·.1))).map byteAV) o := by
  refine AC_run hm prep12 (by simp) ?_
  simp (dsimp := false) (implicitDefEqProofs := false) (maxSteps := 1000000) (disch := first | omega | assumption | (simp only [rL, Nat.reduceAdd]; done) | (simp only [rL, Nat.reduceAdd]; omega)) only [↓rD, rU, ev, ofConst, ofCell, ↓reduceIte, Nat.reduceEqDiff, Nat.reduceAdd, Nat.reduceSub, Nat.reduceMul, Nat.reduceLeDiff, Nat.reduceLT, Int.reduceNeg, Int.reduceToNat, Int.reduceAdd, Int.reduceSub, Int.reduceMul, Int.reduceLT, Int.reduceLE, Int.reduceEq]
  refine bsl_byte Hp.sub_refl fun o1 s1 h1 => ?_
  simp (dsimp := false) (implicitDefEqProofs := false) (maxSteps := 1000000) (disch := first | omega | assumption | (simp only [rL, Nat.reduceAdd]; done) | (simp only [rL, Nat.reduceAdd]; omega)) only [↓rD, rU, ev, ofConst, ofCell, ↓reduceIte, Nat.reduceEqDiff, Nat.reduceAdd, Nat.reduceSub, Nat.reduceMul, Nat.reduceLeDiff, Nat.reduceLT, Int.reduceNeg, Int.reduceToNat, Int.reduceAdd, Int.reduceSub, Int.reduceMul, Int.reduceLT, Int.reduceLE, Int.reduceEq]
  refine loop_intro (fun f s' => ∃ (p q : List (List UInt8 × Own)) (o' : Own), ts = p ++ q ∧ Owned s s' 1 ((preB tag (p.map (·.1))).map byteAV) o' ∧ f 5 = .sl ((preB tag (p.map (·.1))).map byteAV) o' ∧ f 10 = .sl (TX ts) o ∧ f 11 = .v (.int .i64 ts.length) ∧ f 12 = .v (.int .i64 p.length))
    (fun f _ => match f 12 with | .v (.int _ n) => (ts.length - n).toNat | _ => 0) ⟨[], ts, o1, rfl, h1, ?_⟩ ?_
  · simp (dsimp := false) (implicitDefEqProofs := false) (maxSteps := 1000000) (disch := first | omega | assumption | (simp only [rL, Nat.reduceAdd]; done) | (simp only [rL, Nat.reduceAdd]; omega)) only [↓rD, rU, ev, ofConst, ofCell, ↓reduceIte, Nat.reduceEqDiff, Nat.reduceAdd, Nat.reduceSub, Nat.reduceMul, Nat.reduceLeDiff, Nat.reduceLT, Int.reduceNeg, Int.reduceToNat, Int.reduceAdd, Int.reduceSub, Int.reduceMul, Int.reduceLT, Int.reduceLE, Int.reduceEq]
    exact ⟨rfl, by simp [TX], rfl⟩
  · rintro f s' ⟨p, q, o', rfl, ho, f5, f10, f11, f12⟩
    cases q with
    | nil =>
      have hlt : ¬ (p.length : Int) < ((p ++ []).length : Nat) := by simp
      simp (dsimp := false) (implicitDefEqProofs := false) (maxSteps := 1000000) (disch := first | omega | assumption | (simp only [rL, Nat.reduceAdd]; done) | (simp only [rL, Nat.reduceAdd]; omega)) only [↓rD, rU, ev, ofConst, ofCell, ↓reduceIte, Nat.reduceEqDiff, Nat.reduceAdd, Nat.reduceSub, Nat.reduceMul, Nat.reduceLeDiff, Nat.reduceLT, Int.reduceNeg, Int.reduceToNat, Int.reduceAdd, Int.reduceSub, Int.reduceMul, Int.reduceLT, Int.reduceLE, Int.reduceEq, f5, f10, f11, f12, hlt]
      simp only [List.append_nil] at *
      exact ⟨s', Hp.sub_refl, o', ho, rfl⟩
    | cons x q =>
      obtain ⟨t, ot⟩ := x
      have hlt : (p.length : Int) < ((p ++ (t, ot) :: q).length : Nat) := by simp; omega
      have he : (TX (p ++ (t, ot) :: q))[p.length]? = some (.sl (t.map byteAV) ot) := by simp [TX]
      have hb : (preB tag (p.map (·.1))).length + 8 + t.length ≤ 70368744177664 := by
        refine Nat.le_trans ?_ hlen
        simp [preB, chunk, eightB]; omega
      have hpl := preB_ge tag (p.map (·.1))
      rw [List.length_map] at hpl
      simp (dsimp := false) (implicitDefEqProofs := false) (maxSteps := 1000000) (disch := first | omega | assumption | (simp only [rL, Nat.reduceAdd]; done) | (simp only [rL, Nat.reduceAdd]; omega)) only [↓rD, rU, ev, ofConst, ofCell, ↓reduceIte, Nat.reduceEqDiff, Nat.reduceAdd, Nat.reduceSub, Nat.reduceMul, Nat.reduceLeDiff, Nat.reduceLT, Int.reduceNeg, Int.reduceToNat, Int.reduceAdd, Int.reduceSub, Int.reduceMul, Int.reduceLT, Int.reduceLE, Int.reduceEq, f5, f10, f11, f12, hlt, he, iaSA_sl]
      refine call_intro (eight_spec t.length _) ?_
      rintro _ s2 ⟨o2, h2, rfl⟩
      simp (dsimp := false) (implicitDefEqProofs := false) (maxSteps := 1000000) (disch := first | omega | assumption | (simp only [rL, Nat.reduceAdd]; done) | (simp only [rL, Nat.reduceAdd]; omega)) only [↓rD, rU, ev, ofConst, ofCell, ↓reduceIte, Nat.reduceEqDiff, Nat.reduceAdd, Nat.reduceSub, Nat.reduceMul, Nat.reduceLeDiff, Nat.reduceLT, Int.reduceNeg, Int.reduceToNat, Int.reduceAdd, Int.reduceSub, Int.reduceMul, Int.reduceLT, Int.reduceLE, Int.reduceEq, f5, f10, f11, f12, hlt, he, iaSA_sl]
      refine app_bytes (ho.mono h2.sub) ?_ fun o3 s3 h3 => ?_
      · simp only [eightB, List.length_cons, List.length_nil]; omega
      simp (dsimp := false) (implicitDefEqProofs := false) (maxSteps := 1000000) (disch := first | omega | assumption | (simp only [rL, Nat.reduceAdd]; done) | (simp only [rL, Nat.reduceAdd]; omega)) only [↓rD, rU, ev, ofConst, ofCell, ↓reduceIte, Nat.reduceEqDiff, Nat.reduceAdd, Nat.reduceSub, Nat.reduceMul, Nat.reduceLeDiff, Nat.reduceLT, Int.reduceNeg, Int.reduceToNat, Int.reduceAdd, Int.reduceSub, Int.reduceMul, Int.reduceLT, Int.reduceLE, Int.reduceEq, f5, f10, f11, f12, hlt, he, iaSA_sl]
      refine app_bytes h3 ?_ fun o4 s4 h4 => ?_
      · simp only [eightB, List.length_append, List.length_cons, List.length_nil]; omega
      simp (dsimp := false) (implicitDefEqProofs := false) (maxSteps := 1000000) (disch := first | omega | assumption | (simp only [rL, Nat.reduceAdd]; done) | (simp only [rL, Nat.reduceAdd]; omega)) only [↓rD, rU, ev, ofConst, ofCell, ↓reduceIte, Nat.reduceEqDiff, Nat.reduceAdd, Nat.reduceSub, Nat.reduceMul, Nat.reduceLeDiff, Nat.reduceLT, Int.reduceNeg, Int.reduceToNat, Int.reduceAdd, Int.reduceSub, Int.reduceMul, Int.reduceLT, Int.reduceLE, Int.reduceEq, f5, f10, f11, f12, hlt, he, iaSA_sl]
      have e : preB tag (p.map (·.1)) ++ eightB t.length ++ t = preB tag ((p ++ [(t, ot)]).map (·.1)) := by simp [preB, chunk]
      rw [e] at h4 ⊢
      refine ⟨⟨p ++ [(t, ot)], q, o4, by simp, h4, rfl, ?_⟩, ?_⟩
      · simp
      · have : p.length < (p ++ (t, ot) :: q).length := by simp
        omega
end Go.Proofs.YtnnjjmiahcnbaaaGreat
set_option maxRecDepth 100000
namespace Go.Proofs.YtnnjjmiahcnbaaaGreat
open Go Go.Av

def blocks : Nat → List UInt32 → List UInt8 → List UInt32
  | 0, h, _ => h
  | n + 1, h, bs => blocks n (comp h (bs.take 64)) (bs.drop 64)
theorem blocks_length : ∀ (n : Nat) (h : List UInt32) (bs : List UInt8), h.length = 8 → (blocks n h bs).length = 8
  | 0, _, _, hh => hh
  | n + 1, h, bs, hh => by rw [blocks]; exact blocks_length n _ _ (comp_length h _ hh)
theorem blocks_succ : ∀ (n : Nat) (h : List UInt32) (bs : List UInt8), blocks (n + 1) h bs = comp (blocks n h bs) ((bs.drop (64 * n)).take 64)
  | 0, h, bs => by simp [blocks]
  | n + 1, h, bs => by
    rw [blocks, blocks_succ n, blocks, List.drop_drop]
    rw [show 64 + 64 * n = 64 * (n + 1) by omega]
theorem blocks_add : ∀ (a b : Nat) (h : List UInt32) (bs : List UInt8), blocks (a + b) h bs = blocks b (blocks a h bs) (bs.drop (64 * a))
  | 0, b, h, bs => by simp [blocks]
  | a + 1, b, h, bs => by
    rw [show a + 1 + b = (a + b) + 1 by omega, blocks, blocks_add a b, blocks, List.drop_drop, show 64 + 64 * a = 64 * (a + 1) by omega]
theorem blocks_append : ∀ (a : Nat) (h : List UInt32) (bs cs : List UInt8), 64 * a ≤ bs.length → blocks a h (bs ++ cs) = blocks a h bs
  | 0, _, _, _, _ => rfl
  | a + 1, h, bs, cs, hl => by
    rw [blocks, blocks, List.take_append_of_le_length (by omega), List.drop_append_of_le_length (by omega)]
    exact blocks_append a _ _ _ (by simp; omega)

section
variable {h : List UInt32} {a b c : AV} (hh : h.length = 8)
include hh
theorem st_len : (wl h ++ [a, b]).length = 10 := by simp [wl, hh]
theorem st_drop9 : (wl h ++ [a, b]).drop 9 = [b] := by
  rw [show (9 : Nat) = (wl h).length + 1 by rw [wl_length, hh], ← List.drop_drop, List.drop_left]; rfl
theorem st_drop8 : (wl h ++ [a, b]).drop 8 = [a, b] := by
  rw [show (8 : Nat) = (wl h).length by rw [wl_length, hh], List.drop_left]
theorem st_take8 : (wl h ++ [a, b]).take 8 = wl h := by
  rw [show (8 : Nat) = (wl h).length by rw [wl_length, hh], List.take_left]
theorem st_put9 : putAt (wl h ++ [a, b]) 9 [c] = wl h ++ [a, c] := by
  have h8 : (wl h).length = 8 := by rw [wl_length, hh]
  simp [putAt, List.take_append, List.drop_append, h8, List.take_of_length_le, List.drop_of_length_le]
theorem st_put8 : putAt (wl h ++ [a, b]) 8 [c] = wl h ++ [c, b] := by
  have h8 : (wl h).length = 8 := by rw [wl_length, hh]
  simp [putAt, List.take_append, List.drop_append, h8, List.take_of_length_le, List.drop_of_length_le]
theorem st_put0 {w : List UInt32} (hw : w.length = 8) : putAt (wl h ++ [a, b]) 0 (wl w) = wl w ++ [a, b] := by
  have h8 : (wl h).length = 8 := by rw [wl_length, hh]
  have w8 : (wl w).length = 8 := by rw [wl_length, hw]
  simp [putAt, List.take_append, List.drop_append, h8, w8, List.drop_of_length_le]
end

theorem Hp.set_eq {s : Hp} {l : Nat} {o : Ob} (h : s l = some o) : s.set l o = s := by
  funext x; simp only [Hp.set]; split
  · rename_i e; rw [e, h]
  · rfl
theorem Hp.sub_set_of {s t : Hp} {l : Nat} {o p : Ob} (h : (s.set l o).sub t) : (s.set l p).sub (t.set l p) := fun x q hq => by
  rw [Hp.set_get] at hq ⊢
  split
  · rename_i e; rw [if_pos e] at hq; exact hq
  · rename_i e; rw [if_neg e] at hq; exact h x q (by rw [Hp.set_get, if_neg e]; exact hq)

theorem write_aux (H : List UInt32) (h8 : H.length = 8) (hbeg : ∀ s, AC Tryz.prog 73 [] s fun r s' => s' = s ∧ r = .agg (wl H)) (bs : List UInt8) (o : Own) (hb : bs.length ≤ 70368744177664) (s : Hp) (l : Nat) (hl : s l = some (.cells (wl H ++ [.sl [] .nil, .v (.int .u64 0)]))) :
    AC Tryz.prog 43 [.ptr l 0, .sl (bs.map byteAV) o] s fun _ s' => ∃ o', s' = s.set l (.cells (wl (blocks (bs.length / 64) H bs) ++ [.sl ((bs.drop (64 * (bs.length / 64))).map byteAV) o', .v (.int .u64 bs.length)])) := by
  refine AC_run hm prep43 (by simp) ?_
  have hW : (wl H).length = 8 := by rw [wl_length, h8]
  rw [← Hp.set_eq hl]
  simp (dsimp := false) (implicitDefEqProofs := false) (maxSteps := 1000000) (disch := first | omega | assumption | (simp only [rL, Nat.reduceAdd]; done) | (simp only [rL, Nat.reduceAdd]; omega)) only [↓rD, rU, ev, ofConst, ofCell, ↓reduceIte, Nat.reduceEqDiff, Nat.reduceAdd, Nat.reduceSub, Nat.reduceMul, Nat.reduceLeDiff, Nat.reduceLT, Int.reduceNeg, Int.reduceToNat, Int.reduceAdd, Int.reduceSub, Int.reduceMul, Int.reduceLT, Int.reduceLE, Int.reduceEq, st_len h8, st_drop9 h8, st_drop8 h8, st_take8 h8, st_put9 h8, st_put8 h8]
  refine call_intro (hbeg _) ?_
  rintro _ _ ⟨rfl, rfl⟩
  simp (dsimp := false) (implicitDefEqProofs := false) (maxSteps := 1000000) (disch := first | omega | assumption | (simp only [rL, Nat.reduceAdd]; done) | (simp only [rL, Nat.reduceAdd]; omega)) only [↓rD, rU, ev, ofConst, ofCell, ↓reduceIte, Nat.reduceEqDiff, Nat.reduceAdd, Nat.reduceSub, Nat.reduceMul, Nat.reduceLeDiff, Nat.reduceLT, Int.reduceNeg, Int.reduceToNat, Int.reduceAdd, Int.reduceSub, Int.reduceMul, Int.reduceLT, Int.reduceLE, Int.reduceEq, st_len h8, st_drop9 h8, st_drop8 h8, st_take8 h8, st_put9 h8, st_put8 h8, st_put0 h8 h8, hW]
  refine bsl_own Hp.sub_refl (by simp [allLen]) fun o1 s1 h1 => ?_
  have hl1 := h1.sub l _ (Hp.set_same _ _ _)
  simp (dsimp := false) (implicitDefEqProofs := false) (maxSteps := 1000000) (disch := first | omega | assumption | (simp only [rL, Nat.reduceAdd]; done) | (simp only [rL, Nat.reduceAdd]; omega)) only [↓rD, rU, ev, ofConst, ofCell, ↓reduceIte, Nat.reduceEqDiff, Nat.reduceAdd, Nat.reduceSub, Nat.reduceMul, Nat.reduceLeDiff, Nat.reduceLT, Int.reduceNeg, Int.reduceToNat, Int.reduceAdd, Int.reduceSub, Int.reduceMul, Int.reduceLT, Int.reduceLE, Int.reduceEq, Hp.stA_of hl1, Hp.read_of hl1, st_len h8, st_drop9 h8, st_drop8 h8, st_take8 h8, st_put9 h8, st_put8 h8, st_put0 h8 h8, hW]
  refine app_own (ys := []) h1 (by simp [allLen]) (by simp [allLen]) (by simp) (by simp) fun o2 s2 h2 => ?_
  simp (dsimp := false) (implicitDefEqProofs := false) (maxSteps := 1000000) (disch := first | omega | assumption | (simp only [rL, Nat.reduceAdd]; done) | (simp only [rL, Nat.reduceAdd]; omega)) only [↓rD, rU, ev, ofConst, ofCell, ↓reduceIte, Nat.reduceEqDiff, Nat.reduceAdd, Nat.reduceSub, Nat.reduceMul, Nat.reduceLeDiff, Nat.reduceLT, Int.reduceNeg, Int.reduceToNat, Int.reduceAdd, Int.reduceSub, Int.reduceMul, Int.reduceLT, Int.reduceLE, Int.reduceEq]
  refine app_bytes (xs := []) h2 (by simp; omega) fun o3 s3 h3 => ?_
  have hl3 := h3.sub l _ (Hp.set_same _ _ _)
  rw [← Hp.set_eq hl3]
  simp (dsimp := false) (implicitDefEqProofs := false) (maxSteps := 1000000) (disch := first | omega | assumption | (simp only [rL, Nat.reduceAdd]; done) | (simp only [rL, Nat.reduceAdd]; omega)) only [↓rD, rU, ev, ofConst, ofCell, ↓reduceIte, Nat.reduceEqDiff, Nat.reduceAdd, Nat.reduceSub, Nat.reduceMul, Nat.reduceLeDiff, Nat.reduceLT, Int.reduceNeg, Int.reduceToNat, Int.reduceAdd, Int.reduceSub, Int.reduceMul, Int.reduceLT, Int.reduceLE, Int.reduceEq, Int.zero_add, List.nil_append]
  refine loop_intro (fun f s' => ∃ (k : Nat) (o' : Own), 64 * k ≤ bs.length ∧ f 0 = .ptr l 0 ∧ f 4 = .sl ((bs.drop (64 * k)).map byteAV) o' ∧ s' = s3.set l (.cells (wl (blocks k H bs) ++ [.sl [] .nil, .v (.int .u64 bs.length)])))
    (fun f _ => match f 4 with | .sl xs _ => xs.length | _ => 0) ⟨0, o3, by omega, ?_⟩ ?_
  · simp (dsimp := false) (implicitDefEqProofs := false) (maxSteps := 1000000) (disch := first | omega | assumption | (simp only [rL, Nat.reduceAdd]; done) | (simp only [rL, Nat.reduceAdd]; omega)) only [↓rD, rU, ev, ofConst, ofCell, ↓reduceIte, Nat.reduceEqDiff, Nat.reduceAdd, Nat.reduceSub, Nat.reduceMul, Nat.reduceLeDiff, Nat.reduceLT, Int.reduceNeg, Int.reduceToNat, Int.reduceAdd, Int.reduceSub, Int.reduceMul, Int.reduceLT, Int.reduceLE, Int.reduceEq, Int.zero_add]
    rfl
  · rintro f s' ⟨k, o', hk, f0, f4, rfl⟩
    have hB := blocks_length k H bs h8
    generalize hBe : blocks k H bs = B at *
    have hBW : (wl B).length = 8 := by rw [wl_length, hB]
    by_cases hlt : (64 : Int) ≤ ((bs.drop (64 * k)).length : Int)
    · have hlt' := hlt
      rw [List.length_drop] at hlt'
      simp (dsimp := false) (implicitDefEqProofs := false) (maxSteps := 1000000) (disch := first | omega | assumption | (simp only [rL, Nat.reduceAdd]; done) | (simp only [rL, Nat.reduceAdd]; omega)) only [↓rD, rU, ev, ofConst, ofCell, ↓reduceIte, Nat.reduceEqDiff, Nat.reduceAdd, Nat.reduceSub, Nat.reduceMul, Nat.reduceLeDiff, Nat.reduceLT, Int.reduceNeg, Int.reduceToNat, Int.reduceAdd, Int.reduceSub, Int.reduceMul, Int.reduceLT, Int.reduceLE, Int.reduceEq, f0, f4, hlt, st_len hB, st_take8 hB]
      have ht : ((bs.drop (64 * k)).take (64 : Int).toNat).length = 64 := by simp; omega
      refine call_intro (turn_spec B _ _ hB ht _) ?_
      rintro _ _ ⟨rfl, rfl⟩
      have hC := comp_length B ((bs.drop (64 * k)).take 64) hB
      have hCW : (wl (comp B ((bs.drop (64 * k)).take 64))).length = 8 := by rw [wl_length, hC]
      simp (dsimp := false) (implicitDefEqProofs := false) (maxSteps := 1000000) (disch := first | omega | assumption | (simp only [rL, Nat.reduceAdd]; done) | (simp only [rL, Nat.reduceAdd]; omega)) only [↓rD, rU, ev, ofConst, ofCell, ↓reduceIte, Nat.reduceEqDiff, Nat.reduceAdd, Nat.reduceSub, Nat.reduceMul, Nat.reduceLeDiff, Nat.reduceLT, Int.reduceNeg, Int.reduceToNat, Int.reduceAdd, Int.reduceSub, Int.reduceMul, Int.reduceLT, Int.reduceLE, Int.reduceEq, f0, f4, hlt, st_len hB, st_put0 hB hC, hCW]
      refine ⟨⟨k + 1, .any, by omega, ?_, ?_⟩, by simp only [List.length_drop]; omega⟩
      · rw [List.drop_drop, show 64 * k + 64 = 64 * (k + 1) by omega]
      · rw [blocks_succ, hBe]
    · simp (dsimp := false) (implicitDefEqProofs := false) (maxSteps := 1000000) (disch := first | omega | assumption | (simp only [rL, Nat.reduceAdd]; done) | (simp only [rL, Nat.reduceAdd]; omega)) only [↓rD, rU, ev, ofConst, ofCell, ↓reduceIte, Nat.reduceEqDiff, Nat.reduceAdd, Nat.reduceSub, Nat.reduceMul, Nat.reduceLeDiff, Nat.reduceLT, Int.reduceNeg, Int.reduceToNat, Int.reduceAdd, Int.reduceSub, Int.reduceMul, Int.reduceLT, Int.reduceLE, Int.reduceEq, f0, f4, hlt, st_len hB, st_put8 hB]
      rw [List.length_drop] at hlt
      have hk' : bs.length / 64 = k := by omega
      refine ⟨s.set l _, Hp.sub_set_of h3.sub, o', ?_⟩
      rw [hk', hBe]

theorem write_spec (bs : List UInt8) (o : Own) (hb : bs.length ≤ 70368744177664) (s : Hp) (l : Nat) (hl : s l = some (.cells (wl H256 ++ [.sl [] .nil, .v (.int .u64 0)]))) :
    AC Tryz.prog 43 [.ptr l 0, .sl (bs.map byteAV) o] s fun _ s' => ∃ o', s' = s.set l (.cells (wl (blocks (bs.length / 64) H256 bs) ++ [.sl ((bs.drop (64 * (bs.length / 64))).map byteAV) o', .v (.int .u64 bs.length)])) :=
  write_aux H256 rfl begin_spec bs o hb s l hl
end Go.Proofs.YtnnjjmiahcnbaaaGreat
