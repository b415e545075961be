/- Merged by program from smaller texts; what is proved stands in the last text of the claim. -/
import Derived.Test.YtapjikladjoicaaProg
import Derived.Test.YtapjikladjoicaaMB
import Derived.KernelRfl
set_option linter.all false
set_option maxRecDepth 100000
namespace Go.Proofs.Ytapjikladjoicaa
open Go Go.Av

theorem hm_2 : Try.prog.follows .mixedOrders = true := by kernel_rfl

-- indenture/indentureref01.turn
def F92 : AFunc where
  ntmps := 228
  nparams := 3
  results := [(6, none)]
  code :=
(.seq
(.plain (
⟨(some 6), .mv (.const (.slice none 0 0)), none⟩ ::
[]))
(.seq
(.plain (
⟨(some 20), .mks 1 4 [(.v (.int .u32 0))] (.const (.int .i64 64)) (.const (.int .i64 64)), none⟩ ::
⟨(some 7), .mv (.tmp 20), none⟩ ::
[]))
(.seq
(.seq
(.plain (
⟨(some 8), .mv (.const (.int .i64 0)), none⟩ ::
[]))
(.block 0
(.loop
(.seq
(.seq
(.plain (
⟨(some 21), .mv (.tmp 8), none⟩ ::
⟨(some 22), .bin .lss (.tmp 21) (.const (.int .i64 16)), none⟩ ::
[]))
(.cond (.tmp 22)
.skip
(.exit 0)))
(.seq
(.block 1
(.seq
(.plain (
⟨(some 9), .mv (.const (.int .i64 0)), none⟩ ::
[]))
(.block 2
(.loop
(.seq
(.seq
(.plain (
⟨(some 25), .mv (.tmp 9), none⟩ ::
⟨(some 26), .bin .lss (.tmp 25) (.const (.int .i64 4)), none⟩ ::
[]))
(.cond (.tmp 26)
.skip
(.exit 2)))
(.seq
(.block 3
(.draw (
⟨(some 29), .mv (.tmp 7), none⟩ ::
⟨(some 30), .mv (.tmp 8), none⟩ ::
⟨(some 31), .mv (.tmp 7), none⟩ ::
⟨(some 32), .mv (.tmp 8), none⟩ ::
⟨(some 33), .iaS 1 (.tmp 31) (.tmp 32), none⟩ ::
⟨(some 34), .load false 1 (.tmp 33), none⟩ ::
⟨(some 35), .bin .mul (.const (.int .u32 256)) (.tmp 34), none⟩ ::
⟨(some 36), .mv (.tmp 1), none⟩ ::
⟨(some 37), .mv (.tmp 8), none⟩ ::
⟨(some 38), .bin .mul (.const (.int .i64 4)) (.tmp 37), none⟩ ::
⟨(some 39), .mv (.tmp 9), none⟩ ::
⟨(some 40), .bin .add (.tmp 38) (.tmp 39), none⟩ ::
⟨(some 41), .iaS 1 (.tmp 36) (.tmp 40), none⟩ ::
⟨(some 42), .load false 1 (.tmp 41), none⟩ ::
⟨(some 43), .cvt .u32 (.tmp 42), none⟩ ::
⟨(some 44), .bin .add (.tmp 35) (.tmp 43), none⟩ ::
⟨(some 45), .iaS 1 (.tmp 29) (.tmp 30), none⟩ ::
⟨none, .store 1 (.tmp 45) (.tmp 44), none⟩ ::
[])
(⟨0, [], []⟩ :: ⟨1, [], []⟩ :: ⟨2, [], []⟩ :: ⟨3, [], []⟩ :: ⟨4, [], []⟩ :: ⟨5, [], []⟩ :: ⟨6, [], []⟩ :: ⟨7, [], []⟩ :: ⟨8, [], []⟩ :: ⟨9, [], []⟩ :: ⟨10, [], []⟩ :: ⟨11, [], []⟩ :: ⟨12, [], []⟩ :: ⟨13, [], []⟩ :: ⟨14, [], []⟩ :: ⟨15, [], []⟩ :: ⟨16, [], []⟩ :: ⟨17, [], []⟩ :: [])))
(.plain (
⟨(some 27), .mv (.tmp 9), none⟩ ::
⟨(some 28), .bin .add (.tmp 27) (.const (.int .i64 1)), none⟩ ::
⟨(some 9), .mv (.tmp 28), none⟩ ::
[]))))))))
(.plain (
⟨(some 23), .mv (.tmp 8), none⟩ ::
⟨(some 24), .bin .add (.tmp 23) (.const (.int .i64 1)), none⟩ ::
⟨(some 8), .mv (.tmp 24), none⟩ ::
[])))))))
(.seq
(.seq
(.plain (
⟨(some 10), .mv (.const (.int .i64 16)), none⟩ ::
[]))
(.block 4
(.loop
(.seq
(.seq
(.plain (
⟨(some 46), .mv (.tmp 10), none⟩ ::
⟨(some 47), .bin .lss (.tmp 46) (.const (.int .i64 64)), none⟩ ::
[]))
(.cond (.tmp 47)
.skip
(.exit 4)))
(.seq
(.block 5
(.seq
(.draw (
⟨(some 50), .mv (.tmp 7), none⟩ ::
⟨(some 51), .mv (.tmp 10), none⟩ ::
⟨(some 52), .bin .sub (.tmp 51) (.const (.int .i64 15)), none⟩ ::
⟨(some 53), .iaS 1 (.tmp 50) (.tmp 52), none⟩ ::
⟨(some 54), .load false 1 (.tmp 53), none⟩ ::
⟨(some 55), .mv (.tmp 7), none⟩ ::
⟨(some 56), .mv (.tmp 10), none⟩ ::
⟨(some 57), .bin .sub (.tmp 56) (.const (.int .i64 2)), none⟩ ::
⟨(some 58), .iaS 1 (.tmp 55) (.tmp 57), none⟩ ::
⟨(some 59), .load false 1 (.tmp 58), none⟩ ::
⟨(some 11), .mv (.tmp 54), none⟩ ::
⟨(some 12), .mv (.tmp 59), none⟩ ::
[])
(⟨0, [], []⟩ :: ⟨1, [], []⟩ :: ⟨2, [], []⟩ :: ⟨3, [], []⟩ :: ⟨4, [], []⟩ :: ⟨5, [], []⟩ :: ⟨6, [], []⟩ :: ⟨7, [], []⟩ :: ⟨8, [], []⟩ :: ⟨9, [], []⟩ :: ⟨10, [], []⟩ :: ⟨11, [], []⟩ :: []))
(.draw (
⟨(some 60), .mv (.tmp 7), none⟩ ::
⟨(some 61), .mv (.tmp 10), none⟩ ::
⟨(some 62), .mv (.tmp 7), none⟩ ::
⟨(some 63), .mv (.tmp 10), none⟩ ::
⟨(some 64), .bin .sub (.tmp 63) (.const (.int .i64 16)), none⟩ ::
⟨(some 65), .iaS 1 (.tmp 62) (.tmp 64), none⟩ ::
⟨(some 66), .load false 1 (.tmp 65), none⟩ ::
⟨(some 67), .mv (.tmp 11), none⟩ ::
⟨(some 68), .callF 94 [(.tmp 67), (.const (.int .u64 7))], none⟩ ::
⟨(some 69), .mv (.tmp 11), none⟩ ::
⟨(some 70), .callF 94 [(.tmp 69), (.const (.int .u64 18))], none⟩ ::
⟨(some 71), .bin .xor (.tmp 68) (.tmp 70), none⟩ ::
⟨(some 72), .mv (.tmp 11), none⟩ ::
⟨(some 73), .bin .quo (.tmp 72) (.const (.int .u32 8)), none⟩ ::
⟨(some 74), .bin .xor (.tmp 71) (.tmp 73), none⟩ ::
⟨(some 75), .bin .add (.tmp 66) (.tmp 74), none⟩ ::
⟨(some 76), .mv (.tmp 7), none⟩ ::
⟨(some 77), .mv (.tmp 10), none⟩ ::
⟨(some 78), .bin .sub (.tmp 77) (.const (.int .i64 7)), none⟩ ::
⟨(some 79), .iaS 1 (.tmp 76) (.tmp 78), none⟩ ::
⟨(some 80), .load false 1 (.tmp 79), none⟩ ::
⟨(some 81), .bin .add (.tmp 75) (.tmp 80), none⟩ ::
⟨(some 82), .mv (.tmp 12), none⟩ ::
⟨(some 83), .callF 94 [(.tmp 82), (.const (.int .u64 17))], none⟩ ::
⟨(some 84), .mv (.tmp 12), none⟩ ::
⟨(some 85), .callF 94 [(.tmp 84), (.const (.int .u64 19))], none⟩ ::
⟨(some 86), .bin .xor (.tmp 83) (.tmp 85), none⟩ ::
⟨(some 87), .mv (.tmp 12), none⟩ ::
⟨(some 88), .bin .quo (.tmp 87) (.const (.int .u32 1024)), none⟩ ::
⟨(some 89), .bin .xor (.tmp 86) (.tmp 88), none⟩ ::
⟨(some 90), .bin .add (.tmp 81) (.tmp 89), none⟩ ::
⟨(some 91), .iaS 1 (.tmp 60) (.tmp 61), none⟩ ::
⟨none, .store 1 (.tmp 91) (.tmp 90), none⟩ ::
[])
(⟨0, [], []⟩ :: ⟨1, [], []⟩ :: ⟨2, [], []⟩ :: ⟨3, [], []⟩ :: ⟨4, [], []⟩ :: ⟨5, [], []⟩ :: ⟨6, [], []⟩ :: ⟨7, [], []⟩ :: ⟨9, [], []⟩ :: ⟨12, [], []⟩ :: ⟨13, [], []⟩ :: ⟨16, [], []⟩ :: ⟨17, [], []⟩ :: ⟨18, [], []⟩ :: ⟨19, [], []⟩ :: ⟨20, [], []⟩ :: ⟨22, [], []⟩ :: ⟨24, [], []⟩ :: ⟨27, [], []⟩ :: ⟨28, [], []⟩ :: ⟨8, [], [6, 20]⟩ :: ⟨10, [], [6, 20]⟩ :: ⟨11, [], []⟩ :: ⟨14, [], []⟩ :: ⟨15, [], []⟩ :: ⟨21, [], []⟩ :: ⟨23, [], [6, 20]⟩ :: ⟨25, [], [6, 20]⟩ :: ⟨26, [], []⟩ :: ⟨29, [], []⟩ :: ⟨30, [], []⟩ :: ⟨31, [], []⟩ :: ⟨32, [], []⟩ :: []))))
(.plain (
⟨(some 48), .mv (.tmp 10), none⟩ ::
⟨(some 49), .bin .add (.tmp 48) (.const (.int .i64 1)), none⟩ ::
⟨(some 10), .mv (.tmp 49), none⟩ ::
[])))))))
(.seq
(.plain (
⟨(some 92), .bsl 1 [], none⟩ ::
⟨(some 93), .mv (.tmp 0), none⟩ ::
⟨(some 94), .app 1 4 (.tmp 92) (.tmp 93), none⟩ ::
⟨(some 13), .mv (.tmp 94), none⟩ ::
[]))
(.seq
(.seq
(.plain (
⟨(some 14), .mv (.const (.int .i64 0)), none⟩ ::
[]))
(.block 6
(.loop
(.seq
(.seq
(.plain (
⟨(some 95), .mv (.tmp 14), none⟩ ::
⟨(some 96), .bin .lss (.tmp 95) (.const (.int .i64 64)), none⟩ ::
[]))
(.cond (.tmp 96)
.skip
(.exit 6)))
(.seq
(.block 7
(.seq
(.draw (
⟨(some 99), .mv (.tmp 13), none⟩ ::
⟨(some 100), .iaS 1 (.tmp 99) (.const (.int .i64 4)), none⟩ ::
⟨(some 101), .load false 1 (.tmp 100), none⟩ ::
⟨(some 102), .mv (.tmp 13), none⟩ ::
⟨(some 103), .iaS 1 (.tmp 102) (.const (.int .i64 5)), none⟩ ::
⟨(some 104), .load false 1 (.tmp 103), none⟩ ::
⟨(some 105), .bin .and (.tmp 101) (.tmp 104), none⟩ ::
⟨(some 106), .mv (.tmp 13), none⟩ ::
⟨(some 107), .iaS 1 (.tmp 106) (.const (.int .i64 4)), none⟩ ::
⟨(some 108), .load false 1 (.tmp 107), none⟩ ::
⟨(some 109), .bin .sub (.const (.int .u32 4294967295)) (.tmp 108), none⟩ ::
⟨(some 110), .mv (.tmp 13), none⟩ ::
⟨(some 111), .iaS 1 (.tmp 110) (.const (.int .i64 6)), none⟩ ::
⟨(some 112), .load false 1 (.tmp 111), none⟩ ::
⟨(some 113), .bin .and (.tmp 109) (.tmp 112), none⟩ ::
⟨(some 114), .bin .xor (.tmp 105) (.tmp 113), none⟩ ::
⟨(some 15), .mv (.tmp 114), none⟩ ::
[])
(⟨0, [], []⟩ :: ⟨1, [], []⟩ :: ⟨2, [], []⟩ :: ⟨3, [], []⟩ :: ⟨4, [], []⟩ :: ⟨5, [], []⟩ :: ⟨6, [], []⟩ :: ⟨7, [], []⟩ :: ⟨8, [], []⟩ :: ⟨9, [], []⟩ :: ⟨10, [], []⟩ :: ⟨11, [], []⟩ :: ⟨12, [], []⟩ :: ⟨13, [], []⟩ :: ⟨14, [], []⟩ :: ⟨15, [], []⟩ :: ⟨16, [], []⟩ :: []))
(.seq
(.draw (
⟨(some 115), .mv (.tmp 13), none⟩ ::
⟨(some 116), .iaS 1 (.tmp 115) (.const (.int .i64 7)), none⟩ ::
⟨(some 117), .load false 1 (.tmp 116), none⟩ ::
⟨(some 118), .mv (.tmp 13), none⟩ ::
⟨(some 119), .iaS 1 (.tmp 118) (.const (.int .i64 4)), none⟩ ::
⟨(some 120), .load false 1 (.tmp 119), none⟩ ::
⟨(some 121), .callF 94 [(.tmp 120), (.const (.int .u64 6))], none⟩ ::
⟨(some 122), .mv (.tmp 13), none⟩ ::
⟨(some 123), .iaS 1 (.tmp 122) (.const (.int .i64 4)), none⟩ ::
⟨(some 124), .load false 1 (.tmp 123), none⟩ ::
⟨(some 125), .callF 94 [(.tmp 124), (.const (.int .u64 11))], none⟩ ::
⟨(some 126), .bin .xor (.tmp 121) (.tmp 125), none⟩ ::
⟨(some 127), .mv (.tmp 13), none⟩ ::
⟨(some 128), .iaS 1 (.tmp 127) (.const (.int .i64 4)), none⟩ ::
⟨(some 129), .load false 1 (.tmp 128), none⟩ ::
⟨(some 130), .callF 94 [(.tmp 129), (.const (.int .u64 25))], none⟩ ::
⟨(some 131), .bin .xor (.tmp 126) (.tmp 130), none⟩ ::
⟨(some 132), .bin .add (.tmp 117) (.tmp 131), none⟩ ::
⟨(some 133), .mv (.tmp 15), none⟩ ::
⟨(some 134), .bin .add (.tmp 132) (.tmp 133), none⟩ ::
⟨(some 135), .mv (.tmp 2), none⟩ ::
⟨(some 136), .mv (.tmp 14), none⟩ ::
⟨(some 137), .iaS 1 (.tmp 135) (.tmp 136), none⟩ ::
⟨(some 138), .load false 1 (.tmp 137), none⟩ ::
⟨(some 139), .bin .add (.tmp 134) (.tmp 138), none⟩ ::
⟨(some 140), .mv (.tmp 7), none⟩ ::
⟨(some 141), .mv (.tmp 14), none⟩ ::
⟨(some 142), .iaS 1 (.tmp 140) (.tmp 141), none⟩ ::
⟨(some 143), .load false 1 (.tmp 142), none⟩ ::
⟨(some 144), .bin .add (.tmp 139) (.tmp 143), none⟩ ::
⟨(some 16), .mv (.tmp 144), none⟩ ::
[])
(⟨0, [], []⟩ :: ⟨1, [], []⟩ :: ⟨2, [], []⟩ :: ⟨3, [], []⟩ :: ⟨4, [], []⟩ :: ⟨5, [], []⟩ :: ⟨7, [], []⟩ :: ⟨8, [], []⟩ :: ⟨9, [], []⟩ :: ⟨12, [], []⟩ :: ⟨13, [], []⟩ :: ⟨14, [], []⟩ :: ⟨18, [], []⟩ :: ⟨20, [], []⟩ :: ⟨21, [], []⟩ :: ⟨22, [], []⟩ :: ⟨23, [], []⟩ :: ⟨25, [], []⟩ :: ⟨26, [], []⟩ :: ⟨27, [], []⟩ :: ⟨28, [], []⟩ :: ⟨6, [], [2, 9, 14, 23, 28]⟩ :: ⟨10, [], [2, 14, 23, 28]⟩ :: ⟨11, [], []⟩ :: ⟨15, [], [2, 23, 28]⟩ :: ⟨16, [], []⟩ :: ⟨17, [], []⟩ :: ⟨19, [], []⟩ :: ⟨24, [], []⟩ :: ⟨29, [], []⟩ :: ⟨30, [], []⟩ :: []))
(.seq
(.draw (
⟨(some 145), .mv (.tmp 13), none⟩ ::
⟨(some 146), .iaS 1 (.tmp 145) (.const (.int .i64 0)), none⟩ ::
⟨(some 147), .load false 1 (.tmp 146), none⟩ ::
⟨(some 148), .mv (.tmp 13), none⟩ ::
⟨(some 149), .iaS 1 (.tmp 148) (.const (.int .i64 1)), none⟩ ::
⟨(some 150), .load false 1 (.tmp 149), none⟩ ::
⟨(some 151), .bin .and (.tmp 147) (.tmp 150), none⟩ ::
⟨(some 152), .mv (.tmp 13), none⟩ ::
⟨(some 153), .iaS 1 (.tmp 152) (.const (.int .i64 0)), none⟩ ::
⟨(some 154), .load false 1 (.tmp 153), none⟩ ::
⟨(some 155), .mv (.tmp 13), none⟩ ::
⟨(some 156), .iaS 1 (.tmp 155) (.const (.int .i64 2)), none⟩ ::
⟨(some 157), .load false 1 (.tmp 156), none⟩ ::
⟨(some 158), .bin .and (.tmp 154) (.tmp 157), none⟩ ::
⟨(some 159), .bin .xor (.tmp 151) (.tmp 158), none⟩ ::
⟨(some 160), .mv (.tmp 13), none⟩ ::
⟨(some 161), .iaS 1 (.tmp 160) (.const (.int .i64 1)), none⟩ ::
⟨(some 162), .load false 1 (.tmp 161), none⟩ ::
⟨(some 163), .mv (.tmp 13), none⟩ ::
⟨(some 164), .iaS 1 (.tmp 163) (.const (.int .i64 2)), none⟩ ::
⟨(some 165), .load false 1 (.tmp 164), none⟩ ::
⟨(some 166), .bin .and (.tmp 162) (.tmp 165), none⟩ ::
⟨(some 167), .bin .xor (.tmp 159) (.tmp 166), none⟩ ::
⟨(some 17), .mv (.tmp 167), none⟩ ::
[])
(⟨0, [], []⟩ :: ⟨1, [], []⟩ :: ⟨2, [], []⟩ :: ⟨3, [], []⟩ :: ⟨4, [], []⟩ :: ⟨5, [], []⟩ :: ⟨6, [], []⟩ :: ⟨7, [], []⟩ :: ⟨8, [], []⟩ :: ⟨9, [], []⟩ :: ⟨10, [], []⟩ :: ⟨11, [], []⟩ :: ⟨12, [], []⟩ :: ⟨13, [], []⟩ :: ⟨14, [], []⟩ :: ⟨15, [], []⟩ :: ⟨16, [], []⟩ :: ⟨17, [], []⟩ :: ⟨18, [], []⟩ :: ⟨19, [], []⟩ :: ⟨20, [], []⟩ :: ⟨21, [], []⟩ :: ⟨22, [], []⟩ :: ⟨23, [], []⟩ :: []))
(.seq
(.draw (
⟨(some 168), .mv (.tmp 13), none⟩ ::
⟨(some 169), .iaS 1 (.tmp 168) (.const (.int .i64 0)), none⟩ ::
⟨(some 170), .load false 1 (.tmp 169), none⟩ ::
⟨(some 171), .callF 94 [(.tmp 170), (.const (.int .u64 2))], none⟩ ::
⟨(some 172), .mv (.tmp 13), none⟩ ::
⟨(some 173), .iaS 1 (.tmp 172) (.const (.int .i64 0)), none⟩ ::
⟨(some 174), .load false 1 (.tmp 173), none⟩ ::
⟨(some 175), .callF 94 [(.tmp 174), (.const (.int .u64 13))], none⟩ ::
⟨(some 176), .bin .xor (.tmp 171) (.tmp 175), none⟩ ::
⟨(some 177), .mv (.tmp 13), none⟩ ::
⟨(some 178), .iaS 1 (.tmp 177) (.const (.int .i64 0)), none⟩ ::
⟨(some 179), .load false 1 (.tmp 178), none⟩ ::
⟨(some 180), .callF 94 [(.tmp 179), (.const (.int .u64 22))], none⟩ ::
⟨(some 181), .bin .xor (.tmp 176) (.tmp 180), none⟩ ::
⟨(some 182), .mv (.tmp 17), none⟩ ::
⟨(some 183), .bin .add (.tmp 181) (.tmp 182), none⟩ ::
⟨(some 18), .mv (.tmp 183), none⟩ ::
[])
(⟨0, [], []⟩ :: ⟨1, [], []⟩ :: ⟨2, [], []⟩ :: ⟨4, [], []⟩ :: ⟨5, [], []⟩ :: ⟨6, [], []⟩ :: ⟨9, [], []⟩ :: ⟨10, [], []⟩ :: ⟨11, [], []⟩ :: ⟨14, [], []⟩ :: ⟨3, [], [6, 11]⟩ :: ⟨7, [], [11]⟩ :: ⟨8, [], []⟩ :: ⟨12, [], []⟩ :: ⟨13, [], []⟩ :: ⟨15, [], []⟩ :: ⟨16, [], []⟩ :: []))
(.draw (
⟨(some 184), .mv (.tmp 16), none⟩ ::
⟨(some 185), .mv (.tmp 18), none⟩ ::
⟨(some 186), .bin .add (.tmp 184) (.tmp 185), none⟩ ::
⟨(some 187), .mv (.tmp 13), none⟩ ::
⟨(some 188), .iaS 1 (.tmp 187) (.const (.int .i64 0)), none⟩ ::
⟨(some 189), .load false 1 (.tmp 188), none⟩ ::
⟨(some 190), .mv (.tmp 13), none⟩ ::
⟨(some 191), .iaS 1 (.tmp 190) (.const (.int .i64 1)), none⟩ ::
⟨(some 192), .load false 1 (.tmp 191), none⟩ ::
⟨(some 193), .mv (.tmp 13), none⟩ ::
⟨(some 194), .iaS 1 (.tmp 193) (.const (.int .i64 2)), none⟩ ::
⟨(some 195), .load false 1 (.tmp 194), none⟩ ::
⟨(some 196), .mv (.tmp 13), none⟩ ::
⟨(some 197), .iaS 1 (.tmp 196) (.const (.int .i64 3)), none⟩ ::
⟨(some 198), .load false 1 (.tmp 197), none⟩ ::
⟨(some 199), .mv (.tmp 16), none⟩ ::
⟨(some 200), .bin .add (.tmp 198) (.tmp 199), none⟩ ::
⟨(some 201), .mv (.tmp 13), none⟩ ::
⟨(some 202), .iaS 1 (.tmp 201) (.const (.int .i64 4)), none⟩ ::
⟨(some 203), .load false 1 (.tmp 202), none⟩ ::
⟨(some 204), .mv (.tmp 13), none⟩ ::
⟨(some 205), .iaS 1 (.tmp 204) (.const (.int .i64 5)), none⟩ ::
⟨(some 206), .load false 1 (.tmp 205), none⟩ ::
⟨(some 207), .mv (.tmp 13), none⟩ ::
⟨(some 208), .iaS 1 (.tmp 207) (.const (.int .i64 6)), none⟩ ::
⟨(some 209), .load false 1 (.tmp 208), none⟩ ::
⟨(some 210), .bsl 1 [(.tmp 186), (.tmp 189), (.tmp 192), (.tmp 195), (.tmp 200), (.tmp 203), (.tmp 206), (.tmp 209)], none⟩ ::
⟨(some 13), .mv (.tmp 210), none⟩ ::
[])
(⟨0, [], []⟩ :: ⟨1, [], []⟩ :: ⟨2, [], []⟩ :: ⟨3, [], []⟩ :: ⟨4, [], []⟩ :: ⟨5, [], []⟩ :: ⟨6, [], []⟩ :: ⟨7, [], []⟩ :: ⟨8, [], []⟩ :: ⟨9, [], []⟩ :: ⟨10, [], []⟩ :: ⟨11, [], []⟩ :: ⟨12, [], []⟩ :: ⟨13, [], []⟩ :: ⟨14, [], []⟩ :: ⟨15, [], []⟩ :: ⟨16, [], []⟩ :: ⟨17, [], []⟩ :: ⟨18, [], []⟩ :: ⟨19, [], []⟩ :: ⟨20, [], []⟩ :: ⟨21, [], []⟩ :: ⟨22, [], []⟩ :: ⟨23, [], []⟩ :: ⟨24, [], []⟩ :: ⟨25, [], []⟩ :: ⟨26, [], []⟩ :: ⟨27, [], []⟩ :: [])))))))
(.plain (
⟨(some 97), .mv (.tmp 14), none⟩ ::
⟨(some 98), .bin .add (.tmp 97) (.const (.int .i64 1)), none⟩ ::
⟨(some 14), .mv (.tmp 98), none⟩ ::
[])))))))
(.seq
(.seq
(.plain (
⟨(some 19), .mv (.const (.int .i64 0)), none⟩ ::
[]))
(.block 8
(.loop
(.seq
(.seq
(.plain (
⟨(some 211), .mv (.tmp 19), none⟩ ::
⟨(some 212), .bin .lss (.tmp 211) (.const (.int .i64 8)), none⟩ ::
[]))
(.cond (.tmp 212)
.skip
(.exit 8)))
(.seq
(.block 9
(.draw (
⟨(some 215), .mv (.tmp 13), none⟩ ::
⟨(some 216), .mv (.tmp 19), none⟩ ::
⟨(some 217), .mv (.tmp 13), none⟩ ::
⟨(some 218), .mv (.tmp 19), none⟩ ::
⟨(some 219), .iaS 1 (.tmp 217) (.tmp 218), none⟩ ::
⟨(some 220), .load false 1 (.tmp 219), none⟩ ::
⟨(some 221), .mv (.tmp 0), none⟩ ::
⟨(some 222), .mv (.tmp 19), none⟩ ::
⟨(some 223), .iaS 1 (.tmp 221) (.tmp 222), none⟩ ::
⟨(some 224), .load false 1 (.tmp 223), none⟩ ::
⟨(some 225), .bin .add (.tmp 220) (.tmp 224), none⟩ ::
⟨(some 226), .iaS 1 (.tmp 215) (.tmp 216), none⟩ ::
⟨none, .store 1 (.tmp 226) (.tmp 225), none⟩ ::
[])
(⟨0, [], []⟩ :: ⟨1, [], []⟩ :: ⟨2, [], []⟩ :: ⟨3, [], []⟩ :: ⟨4, [], []⟩ :: ⟨5, [], []⟩ :: ⟨6, [], []⟩ :: ⟨7, [], []⟩ :: ⟨8, [], []⟩ :: ⟨9, [], []⟩ :: ⟨10, [], []⟩ :: ⟨11, [], []⟩ :: ⟨12, [], []⟩ :: [])))
(.plain (
⟨(some 213), .mv (.tmp 19), none⟩ ::
⟨(some 214), .bin .add (.tmp 213) (.const (.int .i64 1)), none⟩ ::
⟨(some 19), .mv (.tmp 214), none⟩ ::
[])))))))
(.seq
(.plain (
⟨(some 227), .mv (.tmp 13), none⟩ ::
⟨(some 6), .mv (.tmp 227), none⟩ ::
[]))
.ret))))))))
theorem prep92 : prepFunc Try.prog 92 = some F92 := by kernel_rfl

-- indenture/indentureref18.bytes
def F93 : AFunc where
  ntmps := 6
  nparams := 1
  results := [(2, none)]
  code :=
(.seq
(.plain (
⟨(some 1), .boxR 24 (.tmp 0), none⟩ ::
⟨(some 2), .mv (.const (.slice none 0 0)), none⟩ ::
[]))
(.seq
(.plain (
⟨(some 3), .bsl 1 [], none⟩ ::
⟨(some 4), .slcR 1 32 (.tmp 1) none none, none⟩ ::
⟨(some 5), .app 1 1 (.tmp 3) (.tmp 4), none⟩ ::
⟨(some 2), .mv (.tmp 5), none⟩ ::
[]))
.ret))
theorem prep93 : prepFunc Try.prog 93 = some F93 := by kernel_rfl

-- indenture/indentureref01.turned
def F94 : AFunc where
  ntmps := 13
  nparams := 2
  results := [(4, none)]
  code :=
(.seq
(.plain (
⟨(some 4), .mv (.const (.int .u32 0)), none⟩ ::
[]))
(.seq
(.plain (
⟨(some 5), .mv (.tmp 0), none⟩ ::
⟨(some 6), .mv (.tmp 1), none⟩ ::
⟨(some 7), .bin .shr (.tmp 5) (.tmp 6), none⟩ ::
⟨(some 8), .mv (.tmp 0), none⟩ ::
⟨(some 9), .mv (.tmp 1), none⟩ ::
⟨(some 10), .bin .sub (.const (.int .u64 32)) (.tmp 9), none⟩ ::
⟨(some 11), .bin .shl (.tmp 8) (.tmp 10), none⟩ ::
⟨(some 12), .bin .or (.tmp 7) (.tmp 11), none⟩ ::
⟨(some 4), .mv (.tmp 12), none⟩ ::
[]))
.ret))
theorem prep94 : prepFunc Try.prog 94 = some F94 := by kernel_rfl

end Go.Proofs.Ytapjikladjoicaa
/-
  Running abstract code by 'simp': equations that unfold one step, and the arithmetic of words.
-/
namespace Go.Av
open Go

/-! 'simp' does not look into an argument that another argument's type depends on: so continuations are put away -/
abbrev Dep.{u} {α : Sort u} (_ : α) : Type := Unit
def hid1 {α : Type} (C : α → Prop) (_ : Dep C) (a : α) : Prop := C a
def hid2 {α β : Type} (C : α → β → Prop) (_ : Dep C) (a : α) (b : β) : Prop := C a b
def hidP (p : Prop) (_ : Dep p) : Prop := p
theorem hid1_eq {α : Type} {C : α → Prop} {d : Dep C} {a : α} : hid1 C d a = C a := rfl
theorem hid2_eq {α β : Type} {C : α → β → Prop} {d : Dep C} {a : α} {b : β} : hid2 C d a b = C a b := rfl
theorem hidP_eq {p : Prop} {d : Dep p} : hidP p d = p := rfl

def newK (s : Hp) (C : Nat → Prop) : Prop := ∀ l, s l = none → C l
def andK (A B : Prop) : Prop := A ∧ B
theorem andK_ok {p B : Prop} {d : Dep B} (h : p) : andK p (hidP B d) = B := by simp [andK, hidP, h]
theorem andK_true {B : Prop} {d : Dep B} : andK True (hidP B d) = B := by simp [andK, hidP]

section
variable {P : Program} {K : Ex → Fr → Hp → Prop} {f : Fr} {s : Hp}

theorem awp_skip : awp P .skip K f s = K .norm f s := rfl
theorem awp_ret : awp P .ret K f s = K .ret f s := rfl
theorem awp_exit {i : Nat} : awp P (.exit i) K f s = K (.exit i) f s := rfl
theorem awp_seq {a b : ACode} : awp P (.seq a b) K f s = awp P a (seqK (awp P b K) K) f s := rfl
theorem awp_block {i : Nat} {a : ACode} : awp P (.block i a) K f s = awp P a (blockK i K) f s := rfl
theorem awp_plain {ops : List AOper} : awp P (.plain ops) K f s = runL P ops (K .norm) f s := rfl
theorem awp_draw {ops : List AOper} {l : List CO} : awp P (.draw ops l) K f s = can P (nth ops) (K .norm) l f s := rfl

def condK (c : AV) (A B : Prop) : Prop :=
  match c with
  | .v (.bool t) => (t = true → A) ∧ (t = false → B)
  | _ => False
theorem awp_cond {c : Operand} {a b : ACode} : awp P (.cond c a b) K f s = condK (ev f c) (hidP (awp P a K f s) ()) (hidP (awp P b K f s) ()) := rfl
theorem condK_true {A B : Prop} {d : Dep A} : condK (.v (.bool true)) (hidP A d) B = A := by simp [condK, hidP]
theorem condK_false {A B : Prop} {d : Dep B} : condK (.v (.bool false)) A (hidP B d) = B := by simp [condK, hidP]
theorem condK_bool {t : Bool} {A B : Prop} : condK (.v (.bool t)) A B = ((t = true → A) ∧ (t = false → B)) := rfl

theorem awp_loopK {a : ACode} : awp P (.loop a) K f s = hidP (awp P (.loop a) K f s) () := rfl
theorem awp_loop {a : ACode} (I : Fr → Hp → Prop) (m : Fr → Hp → Nat) (h0 : I f s) (h : ∀ f s, I f s → awp P a (seqK (fun f' s' => I f' s' ∧ m f' s' < m f s) K) f s) : awp P (.loop a) K f s := ⟨I, m, h0, h⟩

theorem seqK_norm {n : Fr → Hp → Prop} : seqK n K .norm f s = n f s := rfl
theorem seqK_ret {n : Fr → Hp → Prop} : seqK n K .ret f s = K .ret f s := rfl
theorem seqK_exit {n : Fr → Hp → Prop} {i : Nat} : seqK n K (.exit i) f s = K (.exit i) f s := rfl
theorem blockK_norm {i : Nat} : blockK i K .norm f s = K .norm f s := rfl
theorem blockK_ret {i : Nat} : blockK i K .ret f s = K .ret f s := rfl
theorem blockK_exit {i j : Nat} : blockK i K (.exit j) f s = (if j = i then K .norm f s else K (.exit j) f s) := by
  simp only [blockK]; split <;> rfl
theorem blockK_same {i : Nat} : blockK i K (.exit i) f s = K .norm f s := by simp [blockK]

theorem runL_nil {Kf : Fr → Hp → Prop} : runL P [] Kf f s = Kf f s := rfl
theorem runL_cons {Kf : Fr → Hp → Prop} {d : Option Nat} {op : AOp} {r : List AOper} : runL P (⟨d, op, none⟩ :: r) Kf f s = G P op f s (fun x s' => runL P r Kf (putF f d x) s') := rfl
def guardK (c : AV) (want : Bool) (A B : Prop) : Prop :=
  match c with
  | .v (.bool b) => if b = want then A else B
  | .tup [] => B
  | _ => False
theorem runL_guard {Kf : Fr → Hp → Prop} {d : Option Nat} {op : AOp} {g : Nat} {want : Bool} {r : List AOper} :
    runL P (⟨d, op, some (g, want)⟩ :: r) Kf f s = guardK (f g) want (hidP (G P op f s (fun x s' => runL P r Kf (putF f d x) s')) ()) (hidP (runL P r Kf (putF f d (.tup [])) s) ()) := rfl
theorem guardK_tt {A B : Prop} {d : Dep A} : guardK (.v (.bool true)) true (hidP A d) B = A := by simp [guardK, hidP]
theorem guardK_ff {A B : Prop} {d : Dep A} : guardK (.v (.bool false)) false (hidP A d) B = A := by simp [guardK, hidP]
theorem guardK_tf {A B : Prop} {d : Dep B} : guardK (.v (.bool true)) false A (hidP B d) = B := by simp [guardK, hidP]
theorem guardK_ft {A B : Prop} {d : Dep B} : guardK (.v (.bool false)) true A (hidP B d) = B := by simp [guardK, hidP]
theorem guardK_no {w : Bool} {A B : Prop} {d : Dep B} : guardK (.tup []) w A (hidP B d) = B := rfl
theorem guardK_bool {b w : Bool} {A B : Prop} : guardK (.v (.bool b)) w A B = ((b = w → A) ∧ (b = (!w) → B)) := by
  cases b <;> cases w <;> simp [guardK]

theorem can_nil {xs : Nat → AOper} {Kf : Fr → Hp → Prop} : can P xs Kf [] f s = Kf f s := rfl
def tK (x : AOper) (C : AOper → Prop) : Prop := C x
theorem tK_eq {d : Option Nat} {op : AOp} {g : Option (Nat × Bool)} {C : AOper → Prop} : tK ⟨d, op, g⟩ C = C ⟨d, op, g⟩ := rfl
theorem can_cons {xs : Nat → AOper} {Kf : Fr → Hp → Prop} {i : Nat} {r : List CO} : can P xs Kf (⟨i, [], []⟩ :: r) f s = tK (xs i) (hid1 (fun x => T P x (fun f' s' => can P xs Kf r f' s') f s) ()) := by
  simp only [can, List.not_mem_nil, false_implies, implies_true, true_and, tK, hid1]
theorem can_pre {xs : Nat → AOper} {Kf : Fr → Hp → Prop} {i j : Nat} {pre chk : List Nat} {r : List CO} : can P xs Kf (⟨i, j :: pre, chk⟩ :: r) f s = andK (tK (xs j) (hid1 (fun x => Def P x f) ())) (hidP (can P xs Kf (⟨i, pre, chk⟩ :: r) f s) ()) := by
  simp only [can, List.mem_cons, forall_eq_or_imp, andK, tK, hid1, hidP]; exact propext and_assoc
def chkT (P : Program) (x : AOper) (f : Fr) (s : Hp) : Prop :=
  match x.dst with
  | some d => E P x f s fun r _ => r = f d
  | none => True
def chkL (P : Program) (xs : Nat → AOper) (f : Fr) (s : Hp) : List Nat → Prop → Prop
  | [], A => A
  | j :: r, A => andK (tK (xs j) (hid1 (fun x => chkT P x f s) ())) (hidP (chkL P xs f s r A) ())
theorem chkL_nil {xs : Nat → AOper} {A : Prop} : chkL P xs f s [] A = A := rfl
theorem chkL_cons {xs : Nat → AOper} {j : Nat} {r : List Nat} {A : Prop} : chkL P xs f s (j :: r) A = andK (tK (xs j) (hid1 (fun x => chkT P x f s) ())) (hidP (chkL P xs f s r A) ()) := rfl
theorem chkL_eq {xs : Nat → AOper} {A : Prop} : ∀ l, chkL P xs f s l A = ((∀ j ∈ l, Chk P xs j f s) ∧ A)
  | [] => by simp [chkL]
  | j :: r => by simp only [chkL, chkL_eq r, andK, tK, hid1, hidP, List.mem_cons, forall_eq_or_imp, Chk, chkT]; exact propext and_assoc.symm
theorem can_chk {xs : Nat → AOper} {Kf : Fr → Hp → Prop} {i j : Nat} {chk : List Nat} {r : List CO} : can P xs Kf (⟨i, [], j :: chk⟩ :: r) f s = tK (xs i) (hid1 (fun x => T P x (fun f' s' => chkL P xs f' s' (j :: chk) (can P xs Kf r f' s')) f s) ()) := by
  simp only [can, List.not_mem_nil, false_implies, implies_true, true_and, tK, hid1, chkL_eq]
theorem Def_none {d : Option Nat} {op : AOp} : Def P ⟨d, op, none⟩ f = G P op f Hp.emp (fun _ _ => True) := rfl
theorem chkT_none {d : Nat} {op : AOp} : chkT P ⟨some d, op, none⟩ f s = G P op f s (fun r _ => r = f d) := rfl
theorem newK_true {d : Dep (fun _ : Nat => True)} : newK s (hid1 (fun _ => True) d) = True := by simp [newK, hid1]
theorem can_cons' {xs : Nat → AOper} {Kf : Fr → Hp → Prop} {i : Nat} {pre chk : List Nat} {r : List CO} :
    can P xs Kf (⟨i, pre, chk⟩ :: r) f s = ((∀ j ∈ pre, Def P (xs j) f) ∧ T P (xs i) (fun f' s' => (∀ j ∈ chk, Chk P xs j f' s') ∧ can P xs Kf r f' s') f s) := rfl
theorem nth_zero {x : AOper} {r : List AOper} : nth (x :: r) 0 = x := rfl
theorem nth_succ {x : AOper} {r : List AOper} {i : Nat} : nth (x :: r) (i + 1) = nth r i := rfl
theorem T_none {Kf : Fr → Hp → Prop} {d : Option Nat} {op : AOp} : T P ⟨d, op, none⟩ Kf f s = G P op f s (fun x s' => Kf (putF f d x) s') := rfl
theorem T_guard {Kf : Fr → Hp → Prop} {d : Option Nat} {op : AOp} {g : Nat} {want : Bool} : T P ⟨d, op, some (g, want)⟩ Kf f s = guardK (f g) want (hidP (G P op f s (fun x s' => Kf (putF f d x) s')) ()) (hidP (Kf (putF f d (.tup [])) s) ()) := rfl


theorem putF_get {d t : Nat} {a : AV} : putF f (some d) a t = if t = d then a else f t := rfl
theorem putF_none {t : Nat} {a : AV} : putF f none a t = f t := rfl
theorem upd_get {d t : Nat} {a : AV} : upd f d a t = if t = d then a else f t := rfl

def valK (r : Option AV) (C : AV → Prop) : Prop :=
  match r with
  | some r => C r
  | none => False
theorem valK_ite {c : Prop} [Decidable c] {r : AV} {C : AV → Prop} : valK (if c then some r else none) C = (c ∧ C r) := by
  split <;> simp [valK, *]
theorem valK_some {r : AV} {C : AV → Prop} : valK (some r) C = C r := rfl
def letK (r : AV) (C : AV → Prop) : Prop := C r
theorem letK_eq {r : AV} {C : AV → Prop} : letK r C = C r := rfl
def cellK (r : Option (List AV)) (C : List AV → Prop) : Prop :=
  match r with
  | some r => C r
  | none => False
theorem cellK_some {r : List AV} {C : List AV → Prop} : cellK (some r) C = C r := rfl
section
variable {Kv : AV → Hp → Prop}
theorem G_mv {x : Operand} : G P (.mv x) f s Kv = letK (ev f x) (hid1 (fun r => Kv r s) ()) := rfl
def pickA (c a b : AV) : Option AV :=
  match c with
  | .v (.bool t) => some (if t then a else b)
  | _ => none
theorem pickA_true {a b : AV} : pickA (.v (.bool true)) a b = some a := rfl
theorem pickA_false {a b : AV} : pickA (.v (.bool false)) a b = some b := rfl
theorem G_pick {c a b : Operand} : G P (.pick c a b) f s Kv = valK (pickA (ev f c) (ev f a) (ev f b)) (hid1 (fun r => Kv r s) ()) := by
  simp only [G, pickA]; generalize ev f c = a
  cases a <;> first | rfl | (rename_i v; cases v <;> rfl)
theorem G_alloc {T : TypeId} {z : List AV} : G P (.alloc T z) f s Kv = newK s (hid1 (fun l => Kv (.ptr l 0) (s.set l (.cells z))) ()) := rfl
theorem G_box {T : TypeId} {x : Operand} : G P (.box T x) f s Kv = letK (ev f x) (hid1 (fun a => andK (0 < a.cells.length) (hidP (newK s (hid1 (fun l => Kv (.ptr l 0) (s.set l (.cells a.cells))) ())) ())) ()) := rfl
theorem G_boxR {T : TypeId} {x : Operand} : G P (.boxR T x) f s Kv = letK (ev f x) (hid1 (fun a => andK (0 < a.cells.length) (hidP (newK s (hid1 (fun l => Kv (.ptr l 0) (s.set l (.ro a.cells))) ())) ())) ()) := rfl

def loadA (agg : Bool) (n : Nat) (s : Hp) (a : AV) : Option AV :=
  match a with
  | .ptr l off => match s.read l with
    | some cs => if off + n ≤ cs.length then some (mkv agg n (cs.drop off)) else none
    | none => none
  | .rptr cs => if n ≤ cs.length then some (mkv agg n cs) else none
  | _ => none
def rdA (agg : Bool) (n off : Nat) (cs : Option (List AV)) : Option AV :=
  match cs with
  | some cs => if off + n ≤ cs.length then some (mkv agg n (cs.drop off)) else none
  | none => none
theorem loadA_ptr {agg : Bool} {n l off : Nat} : loadA agg n s (.ptr l off) = rdA agg n off (s.read l) := rfl
theorem rdA_some {agg : Bool} {n off : Nat} {cs : List AV} (h : off + n ≤ cs.length) : rdA agg n off (some cs) = some (mkv agg n (cs.drop off)) := by simp [rdA, h]
theorem loadA_rptr {agg : Bool} {n : Nat} {cs : List AV} (h : n ≤ cs.length) : loadA agg n s (.rptr cs) = some (mkv agg n cs) := by simp [loadA, h]
theorem G_load {agg : Bool} {n : Nat} {x : Operand} : G P (.load agg n x) f s Kv = valK (loadA agg n s (ev f x)) (hid1 (fun r => Kv r s) ()) := by
  simp only [G, loadA]; generalize ev f x = a
  cases a <;> first
    | rfl
    | (simp only [valK_ite, hid1_eq]; done)
    | (rename_i l off; simp only []; generalize s.read l = c; cases c <;> first | rfl | (simp only [valK_ite, hid1_eq]))
def stA (s : Hp) (l : Nat) : Option (List AV) :=
  match s l with
  | some (.cells cs) => some cs
  | _ => none
def storeK (s : Hp) (n : Nat) (p : AV) (ys : List AV) (C : Hp → Prop) : Prop :=
  match p with
  | .ptr l off => cellK (stA s l) fun cs => andK (ys.length = n ∧ off + n ≤ cs.length) (C (s.set l (.cells (putAt cs off ys))))
  | _ => False
theorem storeK_ptr {n l off : Nat} {ys : List AV} {C : Hp → Prop} : storeK s n (.ptr l off) ys C = cellK (stA s l) (hid1 (fun cs => andK (ys.length = n ∧ off + n ≤ cs.length) (hidP (cellK (some (putAt cs off ys)) (hid1 (fun zs => C (s.set l (.cells zs))) ())) ())) ()) := rfl
theorem G_store {n : Nat} {x y : Operand} : G P (.store n x y) f s Kv = storeK s n (ev f x) (ev f y).cells (hid1 (fun s' => Kv (.tup []) s') ()) := by
  simp only [G, storeK]; generalize ev f x = a
  cases a <;> first
    | rfl
    | (rename_i l off
       simp only [stA]
       cases s l with
       | none => rfl
       | some o => cases o with
         | cells cs => exact propext and_assoc.symm
         | ro cs => rfl
         | buf k n c => rfl)
def nilcA (a : AV) : Option AV :=
  match a with
  | .ptr l off => some (.ptr l off)
  | .rptr cs => some (.rptr cs)
  | .clo n cs => some (.clo n cs)
  | _ => none
theorem nilcA_ptr {l off : Nat} : nilcA (.ptr l off) = some (.ptr l off) := rfl
theorem nilcA_rptr {cs : List AV} : nilcA (.rptr cs) = some (.rptr cs) := rfl
theorem G_nilc {x : Operand} : G P (.nilc x) f s Kv = valK (nilcA (ev f x)) (hid1 (fun r => Kv r s) ()) := by
  simp only [G, nilcA]; generalize ev f x = a
  cases a <;> first | rfl | (rename_i v; cases v <;> rfl)
def faA (off : Nat) (a : AV) : Option AV :=
  match a with
  | .ptr l o => some (.ptr l (o + off))
  | .rptr cs => some (.rptr (cs.drop off))
  | _ => none
theorem faA_ptr {off l o : Nat} : faA off (.ptr l o) = some (.ptr l (o + off)) := rfl
theorem faA_rptr {off : Nat} {cs : List AV} : faA off (.rptr cs) = some (.rptr (cs.drop off)) := rfl
theorem G_fa {off : Nat} {x : Operand} : G P (.fa off x) f s Kv = valK (faA off (ev f x)) (hid1 (fun r => Kv r s) ()) := by
  simp only [G, faA]; generalize ev f x = a
  cases a <;> first | rfl | (rename_i v; cases v <;> rfl)
def iaAA (k len : Nat) (a i : AV) : Option AV :=
  match a, i with
  | .ptr l o, .v (.int _ n) => if 0 ≤ n ∧ n < len then some (.ptr l (o + n.toNat * k)) else none
  | .rptr cs, .v (.int _ n) => if 0 ≤ n ∧ n < len then some (.rptr (cs.drop (n.toNat * k))) else none
  | _, _ => none
theorem iaAA_ptr {k len l o : Nat} {kd : IntKind} {n : Int} (h : 0 ≤ n) (h2 : n < len) : iaAA k len (.ptr l o) (.v (.int kd n)) = some (.ptr l (o + n.toNat * k)) := by simp [iaAA, h, h2]
theorem iaAA_rptr {k len : Nat} {cs : List AV} {kd : IntKind} {n : Int} (h : 0 ≤ n) (h2 : n < len) : iaAA k len (.rptr cs) (.v (.int kd n)) = some (.rptr (cs.drop (n.toNat * k))) := by simp [iaAA, h, h2]
theorem G_iaA {k len : Nat} {x i : Operand} : G P (.iaA k len x i) f s Kv = valK (iaAA k len (ev f x) (ev f i)) (hid1 (fun r => Kv r s) ()) := by
  simp only [G, iaAA]; generalize ev f x = a; generalize ev f i = b
  cases a <;> first
    | rfl
    | (cases b <;> first
        | rfl
        | (rename_i w; cases w <;> first
            | rfl
            | (simp only [valK_ite, hid1_eq]; exact propext and_assoc.symm)))
/-- the element at a place, as read-only cells -/
def elA (k : Nat) (e : Option AV) : Option AV :=
  match e with
  | some e => if e.cells.length = k then some (.rptr e.cells) else none
  | none => none
theorem elA_some {k : Nat} {e : AV} (h : e.cells.length = k) : elA k (some e) = some (.rptr e.cells) := by simp [elA, h]
def iaSA (k : Nat) (a i : AV) : Option AV :=
  match a, i with
  | .sl xs _, .v (.int _ n) => if 0 ≤ n then elA k xs[n.toNat]? else none
  | .msl l off len k', .v (.int _ n) => if k' = k ∧ 0 ≤ n ∧ n < len then some (.ptr l (off + n.toNat * k)) else none
  | _, _ => none
theorem iaSA_sl {k : Nat} {xs : List AV} {o : Own} {kd : IntKind} {n : Int} (h : 0 ≤ n) : iaSA k (.sl xs o) (.v (.int kd n)) = elA k xs[n.toNat]? := by simp [iaSA, h]
theorem iaSA_msl {k l off len : Nat} {kd : IntKind} {n : Int} (h : 0 ≤ n) (h2 : n < len) : iaSA k (.msl l off len k) (.v (.int kd n)) = some (.ptr l (off + n.toNat * k)) := by simp [iaSA, h, h2]
theorem G_iaS {k : Nat} {x i : Operand} : G P (.iaS k x i) f s Kv = valK (iaSA k (ev f x) (ev f i)) (hid1 (fun r => Kv r s) ()) := by
  simp only [G, iaSA]; generalize ev f x = a; generalize ev f i = b
  cases a <;> first
    | rfl
    | (cases b <;> first
        | rfl
        | (rename_i w; cases w <;> first
            | rfl
            | (simp only [valK_ite, hid1_eq]; apply propext; constructor
               · rintro ⟨h1, h2, h3, h4⟩; exact ⟨⟨h1, h2, h3⟩, h4⟩
               · rintro ⟨⟨h1, h2, h3⟩, h4⟩; exact ⟨h1, h2, h3, h4⟩)
            | (rename_i xs o kd n
               by_cases h : 0 ≤ n
               · simp only [h, true_and, if_true, elA]
                 generalize xs[n.toNat]? = c
                 cases c <;> first | rfl | (simp only [valK_ite, hid1_eq])
               · simp [h, valK])))
def fldA (agg : Bool) (off n : Nat) (a : AV) : Option AV :=
  match a with
  | .agg cs => if off + n ≤ cs.length then some (mkv agg n (cs.drop off)) else none
  | _ => none
theorem fldA_agg {agg : Bool} {off n : Nat} {cs : List AV} (h : off + n ≤ cs.length) : fldA agg off n (.agg cs) = some (mkv agg n (cs.drop off)) := by simp [fldA, h]
theorem G_fld {agg : Bool} {off n : Nat} {x : Operand} : G P (.fld agg off n x) f s Kv = valK (fldA agg off n (ev f x)) (hid1 (fun r => Kv r s) ()) := by
  simp only [G, fldA]; generalize ev f x = a
  cases a <;> first | rfl | (simp only [valK_ite, hid1_eq])
def idxAA (agg : Bool) (k len : Nat) (a i : AV) : Option AV :=
  match a, i with
  | .agg cs, .v (.int _ n) => if 0 ≤ n ∧ n < len ∧ n.toNat * k + k ≤ cs.length then some (mkv agg k (cs.drop (n.toNat * k))) else none
  | _, _ => none
theorem idxAA_agg {agg : Bool} {k len : Nat} {cs : List AV} {kd : IntKind} {n : Int} (h : 0 ≤ n) (h2 : n < len) (h3 : n.toNat * k + k ≤ cs.length) : idxAA agg k len (.agg cs) (.v (.int kd n)) = some (mkv agg k (cs.drop (n.toNat * k))) := by simp [idxAA, h, h2, h3]
theorem G_idxA {agg : Bool} {k len : Nat} {x i : Operand} : G P (.idxA agg k len x i) f s Kv = valK (idxAA agg k len (ev f x) (ev f i)) (hid1 (fun r => Kv r s) ()) := by
  simp only [G, idxAA]; generalize ev f x = a; generalize ev f i = b
  cases a <;> first
    | rfl
    | (cases b <;> first
        | rfl
        | (rename_i w; cases w <;> first
            | rfl
            | (simp only [valK_ite, hid1_eq]; apply propext; constructor
               · rintro ⟨h1, h2, h3, h4⟩; exact ⟨⟨h1, h2, h3⟩, h4⟩
               · rintro ⟨⟨h1, h2, h3⟩, h4⟩; exact ⟨h1, h2, h3, h4⟩)))
def bldK (f : Fr) (cells : List AV) : List (Nat × Nat × Operand) → (List AV → Prop) → Prop
  | [], C => C cells
  | (off, sz, x) :: r, C => letK (ev f x) fun a => andK (a.cells.length = sz ∧ off + sz ≤ cells.length) (cellK (some (putAt cells off a.cells)) fun zs => bldK f zs r C)
theorem bldK_nil {cells : List AV} {C : List AV → Prop} : bldK f cells [] C = C cells := rfl
theorem bldK_cons {cells : List AV} {off sz : Nat} {x : Operand} {r : List (Nat × Nat × Operand)} {C : List AV → Prop} : bldK f cells ((off, sz, x) :: r) C = letK (ev f x) (hid1 (fun a => andK (a.cells.length = sz ∧ off + sz ≤ cells.length) (hidP (cellK (some (putAt cells off a.cells)) (hid1 (fun zs => bldK f zs r C) ())) ())) ()) := rfl
theorem bldK_eq {C : List AV → Prop} : ∀ (parts : List (Nat × Nat × Operand)) (cells : List AV), fillG f cells parts C = bldK f cells parts C
  | [], _ => rfl
  | (off, sz, x) :: r, cells => by
    simp only [fillG, bldK, letK, andK, cellK, bldK_eq r]
    exact propext and_assoc.symm
theorem G_bld {z : List AV} {parts : List (Nat × Nat × Operand)} : G P (.bld z parts) f s Kv = bldK f z parts fun cs => Kv (.agg cs) s := bldK_eq parts z
def lenAA (a : AV) : Option AV :=
  match a with
  | .sl xs _ => some (.v (.int .i64 xs.length))
  | .msl _ _ n _ => some (.v (.int .i64 n))
  | _ => none
theorem lenAA_sl {xs : List AV} {o : Own} : lenAA (.sl xs o) = some (.v (.int .i64 xs.length)) := rfl
theorem lenAA_msl {l off n k : Nat} : lenAA (.msl l off n k) = some (.v (.int .i64 n)) := rfl
theorem G_len {x : Operand} : G P (.len x) f s Kv = valK (lenAA (ev f x)) (hid1 (fun r => Kv r s) ()) := by
  simp only [G, lenAA]; generalize ev f x = a
  cases a <;> rfl
theorem G_lenA {n : Nat} : G P (.lenA n) f s Kv = Kv (.v (.int .i64 n)) s := rfl
def binA (op : BinOp) (a b : AV) : Option AV :=
  match a, b with
  | .v a, .v b => (binV op a b).map .v
  | _, _ => none
theorem binA_v {op : BinOp} {a b : Value} : binA op (.v a) (.v b) = (binV op a b).map .v := rfl
theorem G_bin {op : BinOp} {x y : Operand} : G P (.bin op x y) f s Kv = valK (binA op (ev f x) (ev f y)) (hid1 (fun r => Kv r s) ()) := by
  simp only [G, binA]; generalize ev f x = a; generalize ev f y = b
  cases a <;> first
    | rfl
    | (cases b <;> first
        | rfl
        | (rename_i v w; simp only []; generalize binV op v w = c; cases c <;> rfl))
def unA (op : UnOp) (a : AV) : Option AV :=
  match a with
  | .v a => (unV op a).map .v
  | _ => none
theorem unA_v {op : UnOp} {a : Value} : unA op (.v a) = (unV op a).map .v := rfl
theorem G_un {op : UnOp} {x : Operand} : G P (.un op x) f s Kv = valK (unA op (ev f x)) (hid1 (fun r => Kv r s) ()) := by
  simp only [G, unA]; generalize ev f x = a
  cases a <;> first | rfl | (rename_i v; simp only []; generalize unV op v = c; cases c <;> rfl)
def cvtA (k : IntKind) (a : AV) : Option AV :=
  match a with
  | .v (.int _ n) => some (.v (.int k (k.wrap n)))
  | _ => none
theorem cvtA_int {k k' : IntKind} {n : Int} : cvtA k (.v (.int k' n)) = some (.v (.int k (k.wrap n))) := rfl
theorem G_cvt {k : IntKind} {x : Operand} : G P (.cvt k x) f s Kv = valK (cvtA k (ev f x)) (hid1 (fun r => Kv r s) ()) := by
  simp only [G, cvtA]; generalize ev f x = a
  cases a <;> first | rfl | (rename_i v; cases v <;> rfl)
theorem G_callF {g : FuncId} {args : List Operand} : G P (.callF g args) f s Kv = AC P g (args.map (ev f)) s (hid2 Kv ()) := rfl
def extA (i : Nat) (a : AV) : Option AV :=
  match a with
  | .tup vs => vs[i]?
  | _ => none
theorem extA_tup {i : Nat} {vs : List AV} : extA i (.tup vs) = vs[i]? := rfl
theorem G_ext {x : Operand} {i : Nat} : G P (.ext x i) f s Kv = valK (extA i (ev f x)) (hid1 (fun r => Kv r s) ()) := by
  simp only [G, extA]; generalize ev f x = a
  cases a <;> first | rfl | (rename_i vs; cases vs[i]? <;> rfl)
theorem G_eqv {neg : Bool} {ks : List (Nat × CK)} {x y : Operand} {cs ds : List AV} (hx : ev f x = .agg cs) (hy : ev f y = .agg ds) :
    G P (.eqv neg ks x y) f s Kv = andK (fitR ks cs ∧ fitR ks ds) (hidP (Kv (.v (.bool (xor neg (peq (.agg cs) (.agg ds))))) s) ()) := by
  simp only [G, hx, hy, andK]; exact propext and_assoc.symm
def eqbA (neg : Bool) (a b : AV) : Option AV :=
  match a, b with
  | .v (.bool a), .v (.bool b) => some (.v (.bool (xor neg (a == b))))
  | _, _ => none
theorem eqbA_b {neg a b : Bool} : eqbA neg (.v (.bool a)) (.v (.bool b)) = some (.v (.bool (xor neg (a == b)))) := rfl
theorem G_eqb {neg : Bool} {x y : Operand} : G P (.eqb neg x y) f s Kv = valK (eqbA neg (ev f x) (ev f y)) (hid1 (fun r => Kv r s) ()) := by
  simp only [G, eqbA]; generalize ev f x = a; generalize ev f y = b
  cases a <;> first
    | rfl
    | (rename_i v; cases v <;> first
        | rfl
        | (cases b <;> first | rfl | (rename_i w; cases w <;> first | rfl | (rename_i q; cases q <;> rfl)))
        | (rename_i q; cases q <;> first | rfl | (cases b <;> first | rfl | (rename_i w; cases w <;> first | rfl | (rename_i q; cases q <;> rfl)))))
    | (cases b <;> first | rfl | (rename_i w; cases w <;> first | rfl | (rename_i q; cases q <;> rfl)))
def eqpA (neg : Bool) (a b : AV) : Option AV :=
  match a, b with
  | .ptr _ _, .v (.pointer none) => some (.v (.bool neg))
  | .rptr _, .v (.pointer none) => some (.v (.bool neg))
  | .v (.pointer none), .v (.pointer none) => some (.v (.bool (!neg)))
  | _, _ => none
theorem eqpA_ptr {neg : Bool} {l o : Nat} : eqpA neg (.ptr l o) (.v (.pointer none)) = some (.v (.bool neg)) := rfl
theorem eqpA_rptr {neg : Bool} {cs : List AV} : eqpA neg (.rptr cs) (.v (.pointer none)) = some (.v (.bool neg)) := rfl
theorem eqpA_nil {neg : Bool} : eqpA neg (.v (.pointer none)) (.v (.pointer none)) = some (.v (.bool (!neg))) := rfl
theorem G_eqp {neg : Bool} {x y : Operand} : G P (.eqp neg x y) f s Kv = valK (eqpA neg (ev f x) (ev f y)) (hid1 (fun r => Kv r s) ()) := by
  simp only [G, eqpA]; generalize ev f x = a; generalize ev f y = b
  cases a <;> first
    | rfl
    | (rename_i v; cases v <;> first
        | rfl
        | (cases b <;> first | rfl | (rename_i w; cases w <;> first | rfl | (rename_i q; cases q <;> rfl)))
        | (rename_i q; cases q <;> first | rfl | (cases b <;> first | rfl | (rename_i w; cases w <;> first | rfl | (rename_i q; cases q <;> rfl)))))
    | (cases b <;> first | rfl | (rename_i w; cases w <;> first | rfl | (rename_i q; cases q <;> rfl)))
def slcSl (k : Nat) (lo hi : Option Operand) (xs : List AV) (o : Own) (a b : Option Int) : Option AV :=
  match a, b with
  | some a, some b => if 0 ≤ a ∧ a ≤ b ∧ b ≤ xs.length ∧ xs.all (fun e => decide (e.cells.length = k)) then some (.sl ((xs.take b.toNat).drop a.toNat) (SlKeep o lo hi)) else none
  | _, _ => none
theorem slcSl_some {k : Nat} {lo hi : Option Operand} {xs : List AV} {o : Own} {a b : Int} (h1 : 0 ≤ a) (h2 : a ≤ b) (h3 : b ≤ xs.length) (h4 : ∀ e ∈ xs, e.cells.length = k) :
    slcSl k lo hi xs o (some a) (some b) = some (.sl ((xs.take b.toNat).drop a.toNat) (SlKeep o lo hi)) := by
  simp [slcSl, h1, h2, h3]; exact h4
theorem G_slc {k : Nat} {x : Operand} {lo hi : Option Operand} {xs : List AV} {o : Own} (hx : ev f x = .sl xs o) : G P (.slc k x lo hi) f s Kv = valK (slcSl k lo hi xs o (bnd f lo 0) (bnd f hi xs.length)) (hid1 (fun r => Kv r s) ()) := by
  simp only [G, hx, slcSl]
  generalize bnd f lo 0 = a; generalize bnd f hi xs.length = b
  cases a <;> cases b <;> first
    | rfl
    | (simp only [valK_ite, hid1_eq]; apply propext; simp only [List.all_eq_true, decide_eq_true_eq]; constructor
       · rintro ⟨h1, h2, h3, h4, h5⟩; exact ⟨⟨h1, h2, h3, h4⟩, h5⟩
       · rintro ⟨⟨h1, h2, h3, h4⟩, h5⟩; exact ⟨h1, h2, h3, h4, h5⟩)
theorem bnd_none {d : Nat} : bnd f none d = some (d : Int) := rfl
def intOf (a : AV) : Option Int :=
  match a with
  | .v (.int _ n) => some n
  | _ => none
theorem intOf_int {k : IntKind} {n : Int} : intOf (.v (.int k n)) = some n := rfl
theorem bnd_some {x : Operand} {d : Nat} : bnd f (some x) d = intOf (ev f x) := by
  simp only [bnd, intOf]; generalize ev f x = a
  cases a <;> first | rfl | (rename_i v; cases v <;> rfl)
end

def postR (rs : List (Nat × Option (Bool × Nat))) (R : AV → Hp → Prop) : Ex → Fr → Hp → Prop := postF ⟨0, 0, .skip, rs⟩ R
theorem AC_run (hm : P.follows .mixedOrders = true) {g n np : Nat} {c : ACode} {rs : List (Nat × Option (Bool × Nat))} (hF : prepFunc P g = some ⟨n, np, c, rs⟩) {args : List AV} {R : AV → Hp → Prop} (hlen : args.length ≤ n)
    (h : awp P c (postR rs R) (initF args) s) : AC P g args s R := by
  refine AC_of hm hF hlen ?_
  have e : postF ⟨n, np, c, rs⟩ R = postR rs R := by
    funext e f s; cases e <;> rfl
  rw [e]; exact h
theorem initF_get {args : List AV} {t : Nat} : initF args t = args.getD t (.tup []) := rfl
theorem postF_ret {F : AFunc} {R : AV → Hp → Prop} : postF F R .ret f s = valK (resAll f s F.results) fun r => ∃ s', s'.sub s ∧ R r s' := by
  apply propext
  simp only [postF]
  constructor
  · rintro ⟨r, s', h, h2, h3⟩; rw [h]; exact ⟨s', h2, h3⟩
  · intro h
    cases hr : resAll f s F.results with
    | none => rw [hr] at h; exact h.elim
    | some r => rw [hr] at h; obtain ⟨s', h2, h3⟩ := h; exact ⟨r, s', rfl, h2, h3⟩
theorem postF_norm {F : AFunc} {R : AV → Hp → Prop} : postF F R .norm f s = postF F R .ret f s := rfl
theorem postR_ret {rs : List (Nat × Option (Bool × Nat))} {R : AV → Hp → Prop} : postR rs R .ret f s = valK (resAll f s rs) (hid1 (fun r => ∃ s', s'.sub s ∧ R r s') ()) := postF_ret
theorem postR_norm {rs : List (Nat × Option (Bool × Nat))} {R : AV → Hp → Prop} : postR rs R .norm f s = postR rs R .ret f s := rfl
theorem resAll_two {p q : Nat × Option (Bool × Nat)} {r u : AV} (h : resG f s p = some r) (h2 : resG f s q = some u) : resAll f s [p, q] = some (.tup [r, u]) := by
  simp only [resAll, mapAll, h, h2]
theorem resAll_three {p q p3 : Nat × Option (Bool × Nat)} {r u v : AV} (h : resG f s p = some r) (h2 : resG f s q = some u) (h3 : resG f s p3 = some v) : resAll f s [p, q, p3] = some (.tup [r, u, v]) := by
  simp only [resAll, mapAll, h, h2, h3]
theorem resAll_none : resAll f s [] = some (.tup []) := rfl
theorem resAll_one {p : Nat × Option (Bool × Nat)} : resAll f s [p] = resG f s p := by
  simp only [resAll, mapAll]; cases resG f s p <;> rfl
theorem resG_tmp {t : Nat} : resG f s (t, none) = some (f t) := rfl
theorem resG_cell {t n : Nat} {agg : Bool} {l off : Nat} (h : f t = .ptr l off) : resG f s (t, some (agg, n)) = rdA agg n off (s.read l) := by
  simp only [resG, h, rdA]; rfl

def resP (agg : Bool) (n : Nat) (s : Hp) (a : AV) : Option AV :=
  match a with
  | .ptr l off => rdA agg n off (s.read l)
  | _ => none
theorem resP_ptr {agg : Bool} {n l off : Nat} : resP agg n s (.ptr l off) = rdA agg n off (s.read l) := rfl
theorem resG_ptr {t n : Nat} {agg : Bool} : resG f s (t, some (agg, n)) = resP agg n s (f t) := by
  simp only [resG, resP]; generalize f t = a
  cases a <;> first | rfl | (simp only [rdA])
theorem Hp.read_eq {l : Nat} : s.read l = match s l with | some (.cells cs) => some cs | some (.ro cs) => some cs | _ => none := rfl
theorem Hp.set_get {l l' : Nat} {o : Ob} : (s.set l o) l' = if l' = l then some o else s l' := rfl
theorem Hp.read_set_same {l : Nat} {cs : List AV} : (s.set l (.cells cs)).read l = some cs := by simp [Hp.read, Hp.set]
theorem Hp.read_set_ro {l : Nat} {cs : List AV} : (s.set l (.ro cs)).read l = some cs := by simp [Hp.read, Hp.set]
theorem Hp.read_set_ne {l l' : Nat} {o : Ob} (h : l' ≠ l) : (s.set l o).read l' = s.read l' := by simp [Hp.read, Hp.set, h]
theorem Hp.stA_set_same {l : Nat} {cs : List AV} : stA (s.set l (.cells cs)) l = some cs := by simp [stA, Hp.set]
theorem Hp.stA_set_ne {l l' : Nat} {o : Ob} (h : l' ≠ l) : stA (s.set l o) l' = stA s l' := by simp [stA, Hp.set, h]
theorem Hp.read_of {l : Nat} {cs : List AV} (h : s l = some (.cells cs)) : s.read l = some cs := by simp [Hp.read, h]
theorem Hp.read_ofR {l : Nat} {cs : List AV} (h : s l = some (.ro cs)) : s.read l = some cs := by simp [Hp.read, h]
theorem Hp.stA_of {l : Nat} {cs : List AV} (h : s l = some (.cells cs)) : stA s l = some cs := by simp [stA, h]
theorem Hp.set_none {l l' : Nat} {o : Ob} (h : (s.set l o) l' = none) : l' ≠ l ∧ s l' = none := by
  simp only [Hp.set] at h; split at h <;> simp_all
theorem Hp.set_in1 {a b0 : Nat} {oa oc o0 : Ob} (h0 : b0 ≠ a) : ((s.set a oa).set b0 o0).set a oc = ((s.set a oc).set b0 o0) := by rw [Hp.set_set_comm _ h0, Hp.set_set]
theorem Hp.set_in2 {a b0 b1 : Nat} {oa oc o0 o1 : Ob} (h0 : b0 ≠ a) (h1 : b1 ≠ a) : (((s.set a oa).set b0 o0).set b1 o1).set a oc = (((s.set a oc).set b0 o0).set b1 o1) := by rw [Hp.set_set_comm _ h1, set_in1 h0]
theorem Hp.set_in3 {a b0 b1 b2 : Nat} {oa oc o0 o1 o2 : Ob} (h0 : b0 ≠ a) (h1 : b1 ≠ a) (h2 : b2 ≠ a) : ((((s.set a oa).set b0 o0).set b1 o1).set b2 o2).set a oc = ((((s.set a oc).set b0 o0).set b1 o1).set b2 o2) := by rw [Hp.set_set_comm _ h2, set_in2 h0 h1]
theorem Hp.set_in4 {a b0 b1 b2 b3 : Nat} {oa oc o0 o1 o2 o3 : Ob} (h0 : b0 ≠ a) (h1 : b1 ≠ a) (h2 : b2 ≠ a) (h3 : b3 ≠ a) : (((((s.set a oa).set b0 o0).set b1 o1).set b2 o2).set b3 o3).set a oc = (((((s.set a oc).set b0 o0).set b1 o1).set b2 o2).set b3 o3) := by rw [Hp.set_set_comm _ h3, set_in3 h0 h1 h2]
theorem Hp.set_in5 {a b0 b1 b2 b3 b4 : Nat} {oa oc o0 o1 o2 o3 o4 : Ob} (h0 : b0 ≠ a) (h1 : b1 ≠ a) (h2 : b2 ≠ a) (h3 : b3 ≠ a) (h4 : b4 ≠ a) : ((((((s.set a oa).set b0 o0).set b1 o1).set b2 o2).set b3 o3).set b4 o4).set a oc = ((((((s.set a oc).set b0 o0).set b1 o1).set b2 o2).set b3 o3).set b4 o4) := by rw [Hp.set_set_comm _ h4, set_in4 h0 h1 h2 h3]
theorem Hp.set_in6 {a b0 b1 b2 b3 b4 b5 : Nat} {oa oc o0 o1 o2 o3 o4 o5 : Ob} (h0 : b0 ≠ a) (h1 : b1 ≠ a) (h2 : b2 ≠ a) (h3 : b3 ≠ a) (h4 : b4 ≠ a) (h5 : b5 ≠ a) : (((((((s.set a oa).set b0 o0).set b1 o1).set b2 o2).set b3 o3).set b4 o4).set b5 o5).set a oc = (((((((s.set a oc).set b0 o0).set b1 o1).set b2 o2).set b3 o3).set b4 o4).set b5 o5) := by rw [Hp.set_set_comm _ h5, set_in5 h0 h1 h2 h3 h4]
theorem Hp.set_in7 {a b0 b1 b2 b3 b4 b5 b6 : Nat} {oa oc o0 o1 o2 o3 o4 o5 o6 : Ob} (h0 : b0 ≠ a) (h1 : b1 ≠ a) (h2 : b2 ≠ a) (h3 : b3 ≠ a) (h4 : b4 ≠ a) (h5 : b5 ≠ a) (h6 : b6 ≠ a) : ((((((((s.set a oa).set b0 o0).set b1 o1).set b2 o2).set b3 o3).set b4 o4).set b5 o5).set b6 o6).set a oc = ((((((((s.set a oc).set b0 o0).set b1 o1).set b2 o2).set b3 o3).set b4 o4).set b5 o5).set b6 o6) := by rw [Hp.set_set_comm _ h6, set_in6 h0 h1 h2 h3 h4 h5]
theorem Hp.set_in8 {a b0 b1 b2 b3 b4 b5 b6 b7 : Nat} {oa oc o0 o1 o2 o3 o4 o5 o6 o7 : Ob} (h0 : b0 ≠ a) (h1 : b1 ≠ a) (h2 : b2 ≠ a) (h3 : b3 ≠ a) (h4 : b4 ≠ a) (h5 : b5 ≠ a) (h6 : b6 ≠ a) (h7 : b7 ≠ a) : (((((((((s.set a oa).set b0 o0).set b1 o1).set b2 o2).set b3 o3).set b4 o4).set b5 o5).set b6 o6).set b7 o7).set a oc = (((((((((s.set a oc).set b0 o0).set b1 o1).set b2 o2).set b3 o3).set b4 o4).set b5 o5).set b6 o6).set b7 o7) := by rw [Hp.set_set_comm _ h7, set_in7 h0 h1 h2 h3 h4 h5 h6]
theorem newK_intro {C : Nat → Prop} {d : Dep C} (h : ∀ l, s l = none → C l) : newK s (hid1 C d) := h
theorem hidP_intro {p : Prop} {d : Dep p} (h : p) : hidP p d := h
theorem loop_intro {P : Program} {K : Ex → Fr → Hp → Prop} {a : ACode} {d : Dep (awp P (.loop a) K f s)} (I : Fr → Hp → Prop) (m : Fr → Hp → Nat) (h0 : I f s) (h : ∀ f s, I f s → awp P a (seqK (fun f' s' => I f' s' ∧ m f' s' < m f s) K) f s) :
    hidP (awp P (.loop a) K f s) d := ⟨I, m, h0, h⟩
theorem call_intro {P : Program} {g : FuncId} {args : List AV} {C R : AV → Hp → Prop} {d : Dep C} (h : AC P g args s R) (hr : ∀ r s', R r s' → C r s') : AC P g args s (hid2 C d) := h.mono hr
theorem Hp.sub_refl : s.sub s := fun _ _ h => h
theorem Hp.sub_new {t : Hp} {l : Nat} {o : Ob} (h : t.sub s) (hl : t l = none) : t.sub (s.set l o) := fun l' o' ho => by
  rw [Hp.set_get]; split
  · rename_i e; subst e; rw [hl] at ho; cases ho
  · exact h _ _ ho
theorem Hp.sub_set_new {t : Hp} {l : Nat} {o : Ob} (h : t.sub s) (hl : t l = none) : t.sub (s.set l o) := Hp.sub_new h hl
theorem Hp.sub_set {t : Hp} {l : Nat} {o : Ob} (h : t.sub s) : (t.set l o).sub (s.set l o) := fun l' o' ho => by
  rw [Hp.set_get] at ho ⊢; split
  · rename_i e; rw [if_pos e] at ho; exact ho
  · rename_i e; rw [if_neg e] at ho; exact h _ _ ho
end

/-! ### words -/

theorem wrap_i64 {n : Int} (h : -9223372036854775808 ≤ n) (h2 : n < 9223372036854775808) : IntKind.i64.wrap n = n := by
  have e1 : ((2 : Int) ^ IntKind.i64.bits) = 18446744073709551616 := rfl
  have e2 : ((2 : Int) ^ (IntKind.i64.bits - 1)) = 9223372036854775808 := rfl
  simp only [IntKind.wrap, e1, e2, IntKind.signed, Bool.true_and, decide_eq_true_eq]
  split <;> omega
theorem wrap_u64_mod {n : Int} : IntKind.u64.wrap n = n % 18446744073709551616 := by
  have e1 : ((2 : Int) ^ IntKind.u64.bits) = 18446744073709551616 := rfl
  simp [IntKind.wrap, e1, IntKind.signed]
theorem wrap_u32_mod {n : Int} : IntKind.u32.wrap n = n % 4294967296 := by
  have e1 : ((2 : Int) ^ IntKind.u32.bits) = 4294967296 := rfl
  simp [IntKind.wrap, e1, IntKind.signed]
theorem wrap_u8_mod {n : Int} : IntKind.u8.wrap n = n % 256 := by
  have e1 : ((2 : Int) ^ IntKind.u8.bits) = 256 := rfl
  simp [IntKind.wrap, e1, IntKind.signed]
theorem wrap_u64 {n : Int} (h : 0 ≤ n) (h2 : n < 18446744073709551616) : IntKind.u64.wrap n = n := by rw [wrap_u64_mod]; omega
theorem wrap_u32 {n : Int} (h : 0 ≤ n) (h2 : n < 4294967296) : IntKind.u32.wrap n = n := by rw [wrap_u32_mod]; omega
theorem wrap_u8 {n : Int} (h : 0 ≤ n) (h2 : n < 256) : IntKind.u8.wrap n = n := by rw [wrap_u8_mod]; omega

theorem wrap_u32_8 (b : UInt8) : IntKind.u32.wrap (b.toNat : Int) = (b.toUInt32.toNat : Int) := by
  have := b.toNat_lt
  rw [wrap_u32 (by omega) (by omega)]; simp
theorem wrap_u64_8 (b : UInt8) : IntKind.u64.wrap (b.toNat : Int) = (b.toUInt64.toNat : Int) := by
  have := b.toNat_lt
  rw [wrap_u64 (by omega) (by omega)]; simp
theorem wrap_u8_32 (x : UInt32) : IntKind.u8.wrap (x.toNat : Int) = (x.toUInt8.toNat : Int) := by
  rw [wrap_u8_mod]; simp
theorem wrap_u8_64 (x : UInt64) : IntKind.u8.wrap (x.toNat : Int) = (x.toUInt8.toNat : Int) := by
  rw [wrap_u8_mod]; simp

section
variable (a b : Int)
theorem add_i64 : binV .add (.int .i64 a) (.int .i64 b) = some (.int .i64 (IntKind.i64.wrap (a + b))) := rfl
theorem sub_i64 : binV .sub (.int .i64 a) (.int .i64 b) = some (.int .i64 (IntKind.i64.wrap (a - b))) := rfl
theorem mul_i64 : binV .mul (.int .i64 a) (.int .i64 b) = some (.int .i64 (IntKind.i64.wrap (a * b))) := rfl
theorem quo_i64 (h : b ≠ 0) : binV .quo (.int .i64 a) (.int .i64 b) = some (.int .i64 (IntKind.i64.wrap (a.tdiv b))) := by simp [binV, isShift, binInt, h]
theorem rem_i64 (h : b ≠ 0) : binV .rem (.int .i64 a) (.int .i64 b) = some (.int .i64 (a.tmod b)) := by simp [binV, isShift, binInt, h]
variable (k : IntKind)
theorem eql_int : binV .eql (.int k a) (.int k b) = some (.bool (decide (a = b))) := by simp [binV, isShift, binInt]
theorem neq_int : binV .neq (.int k a) (.int k b) = some (.bool (decide (a ≠ b))) := by simp [binV, isShift, binInt]
theorem lss_int : binV .lss (.int k a) (.int k b) = some (.bool (decide (a < b))) := by simp [binV, isShift, binInt]
theorem leq_int : binV .leq (.int k a) (.int k b) = some (.bool (decide (a ≤ b))) := by simp [binV, isShift, binInt]
theorem gtr_int : binV .gtr (.int k a) (.int k b) = some (.bool (decide (b < a))) := by simp [binV, isShift, binInt]
theorem geq_int : binV .geq (.int k a) (.int k b) = some (.bool (decide (b ≤ a))) := by simp [binV, isShift, binInt]
theorem not_bool (t : Bool) : unV .not (.bool t) = some (.bool !t) := rfl
end

theorem add_u64 (a b : Int) : binV .add (.int .u64 a) (.int .u64 b) = some (.int .u64 (IntKind.u64.wrap (a + b))) := rfl
theorem sub_u64 (a b : Int) : binV .sub (.int .u64 a) (.int .u64 b) = some (.int .u64 (IntKind.u64.wrap (a - b))) := rfl
theorem mul_u64 (a b : Int) : binV .mul (.int .u64 a) (.int .u64 b) = some (.int .u64 (IntKind.u64.wrap (a * b))) := rfl
theorem shr_u64 (m : Nat) (k : IntKind) (n : Int) (h : 0 ≤ n) (h2 : n < 64) : binV .shr (.int .u64 m) (.int k n) = some (.int .u64 (m >>> n.toNat : Nat)) := by
  obtain ⟨q, rfl⟩ : ∃ q : Nat, n = q := ⟨n.toNat, by omega⟩
  have e : min q IntKind.u64.bits = q := by simp [IntKind.bits]; omega
  have hp : (2 : Int) ^ q = ((2 ^ q : Nat) : Int) := by simp
  simp only [binV, isShift, if_true, shiftInt, if_neg (show ¬ (q : Int) < 0 by omega), Int.toNat_natCast, e, Nat.shiftRight_eq_div_pow]
  rw [hp, Int.fdiv_eq_ediv_of_nonneg _ (Int.natCast_nonneg _), ← Int.natCast_ediv]
theorem wrap_u8_nat (m : Nat) : IntKind.u8.wrap (m : Int) = ((UInt8.ofNat m).toNat : Int) := by rw [wrap_u8_mod]; simp
theorem iaSA_bytes {bs : List UInt8} {o : Own} {kd : IntKind} {n : Int} (h : 0 ≤ n) (h2 : n.toNat < bs.length) : iaSA 1 (.sl (bs.map byteAV) o) (.v (.int kd n)) = some (.rptr [.v (.int .u8 (bs.getD n.toNat 0).toNat)]) := by
  rw [iaSA_sl h, List.getElem?_map, List.getElem?_eq_getElem h2]
  have : bs.getD n.toNat 0 = bs[n.toNat] := by simp [List.getD, h2]
  rw [this]; rfl
theorem dec_t (h : Decidable True) : @decide True h = true := by simp
theorem dec_f (h : Decidable False) : @decide False h = false := by simp
theorem mkv_agg {n : Nat} {cs : List AV} : mkv true n cs = .agg (cs.take n) := rfl
theorem cells_sl {xs : List AV} {o : Own} : AV.cells (.sl xs o) = [.sl xs o] := rfl
theorem cells_v {x : Value} : AV.cells (.v x) = [.v x] := rfl
theorem cells_ptr {l o : Nat} : AV.cells (.ptr l o) = [.ptr l o] := rfl
theorem cells_rptr {cs : List AV} : AV.cells (.rptr cs) = [.rptr cs] := rfl
theorem cells_iface {t : TypeId} {x : AV} : AV.cells (.iface t x) = [.iface t x] := rfl
theorem cells_agg {cs : List AV} : AV.cells (.agg cs) = cs := rfl
theorem putAt_all {cs ys : List AV} (h : ys.length = cs.length) : putAt cs 0 ys = ys := by simp [putAt, h]
theorem mkv_one {x : AV} {r : List AV} : mkv false 1 (x :: r) = x := rfl

section
variable (x y : UInt32)
theorem add_u32 : binV .add (.int .u32 x.toNat) (.int .u32 y.toNat) = some (.int .u32 (x + y).toNat) := by
  simp [binV, isShift, binInt, wrap_u32_mod, UInt32.toNat_add]
theorem sub_u32 : binV .sub (.int .u32 x.toNat) (.int .u32 y.toNat) = some (.int .u32 (x - y).toNat) := by
  have := x.toNat_lt; have := y.toNat_lt
  simp only [binV, isShift, binInt, wrap_u32_mod, UInt32.toNat_sub]
  simp; omega
theorem mul_u32 : binV .mul (.int .u32 x.toNat) (.int .u32 y.toNat) = some (.int .u32 (x * y).toNat) := by
  simp [binV, isShift, binInt, wrap_u32_mod, UInt32.toNat_mul]
theorem wrap_u32_nat (n : Nat) (h : n < 4294967296) : IntKind.u32.wrap (n : Int) = n := wrap_u32 (by omega) (by omega)
theorem ofInt_u32 : BitVec.ofInt 32 (x.toNat : Int) = x.toBitVec := by
  rw [BitVec.ofInt_natCast]; exact BitVec.eq_of_toNat_eq (by simp)
theorem and_u32 : binV .and (.int .u32 x.toNat) (.int .u32 y.toNat) = some (.int .u32 (x &&& y).toNat) := by
  have h : binV .and (.int .u32 x.toNat) (.int .u32 y.toNat) = some (.int .u32 (IntKind.u32.wrap (BitVec.ofInt 32 (x.toNat : Int) &&& BitVec.ofInt 32 (y.toNat : Int)).toNat)) := rfl
  rw [h, ofInt_u32, ofInt_u32, wrap_u32_nat _ (BitVec.isLt _)]; rfl
theorem or_u32 : binV .or (.int .u32 x.toNat) (.int .u32 y.toNat) = some (.int .u32 (x ||| y).toNat) := by
  have h : binV .or (.int .u32 x.toNat) (.int .u32 y.toNat) = some (.int .u32 (IntKind.u32.wrap (BitVec.ofInt 32 (x.toNat : Int) ||| BitVec.ofInt 32 (y.toNat : Int)).toNat)) := rfl
  rw [h, ofInt_u32, ofInt_u32, wrap_u32_nat _ (BitVec.isLt _)]; rfl
theorem xor_u32 : binV .xor (.int .u32 x.toNat) (.int .u32 y.toNat) = some (.int .u32 (x ^^^ y).toNat) := by
  have h : binV .xor (.int .u32 x.toNat) (.int .u32 y.toNat) = some (.int .u32 (IntKind.u32.wrap (BitVec.ofInt 32 (x.toNat : Int) ^^^ BitVec.ofInt 32 (y.toNat : Int)).toNat)) := rfl
  rw [h, ofInt_u32, ofInt_u32, wrap_u32_nat _ (BitVec.isLt _)]; rfl
theorem com_u32 : unV .xor (.int .u32 x.toNat) = some (.int .u32 (~~~x).toNat) := by
  have h : unV .xor (.int .u32 x.toNat) = some (.int .u32 (IntKind.u32.wrap (BitVec.ofInt 32 4294967295 ^^^ BitVec.ofInt 32 (x.toNat : Int)).toNat)) := rfl
  rw [h, ofInt_u32, wrap_u32_nat _ (BitVec.isLt _)]
  have : (BitVec.ofInt 32 4294967295 ^^^ x.toBitVec) = ~~~x.toBitVec := by rw [BitVec.not_def]; rfl
  rw [this]; rfl
theorem shl_u32 (k : IntKind) (n : Int) (h : 0 ≤ n) (h2 : n < 32) : binV .shl (.int .u32 x.toNat) (.int k n) = some (.int .u32 (x <<< UInt32.ofNat n.toNat).toNat) := by
  obtain ⟨m, rfl⟩ : ∃ m : Nat, n = m := ⟨n.toNat, by omega⟩
  have hm : m < 32 := by omega
  have e : min m IntKind.u32.bits = m := by simp [IntKind.bits]; omega
  simp only [binV, isShift, if_true, shiftInt, if_neg (show ¬ (m : Int) < 0 by omega), Int.toNat_natCast, e, wrap_u32_mod, UInt32.toNat_shiftLeft, UInt32.toNat_ofNat', Nat.shiftLeft_eq]
  have e2 : m % 2 ^ 32 % 32 = m := by omega
  rw [e2]; simp
theorem shr_u32 (k : IntKind) (n : Int) (h : 0 ≤ n) (h2 : n < 32) : binV .shr (.int .u32 x.toNat) (.int k n) = some (.int .u32 (x >>> UInt32.ofNat n.toNat).toNat) := by
  obtain ⟨m, rfl⟩ : ∃ m : Nat, n = m := ⟨n.toNat, by omega⟩
  have hm : m < 32 := by omega
  have e : min m IntKind.u32.bits = m := by simp [IntKind.bits]; omega
  simp only [binV, isShift, if_true, shiftInt, if_neg (show ¬ (m : Int) < 0 by omega), Int.toNat_natCast, e, UInt32.toNat_shiftRight, UInt32.toNat_ofNat', Nat.shiftRight_eq_div_pow]
  have e2 : m % 2 ^ 32 % 32 = m := by omega
  have hp : (2 : Int) ^ m = ((2 ^ m : Nat) : Int) := by simp
  rw [e2, hp, Int.fdiv_eq_ediv_of_nonneg _ (Int.natCast_nonneg _), ← Int.natCast_ediv]
end

end Go.Av
/-
  Running abstract code, continued: slices that are built, sliced, read.
-/
namespace Go.Av
open Go

def allLen (k : Nat) (xs : List AV) : Prop := ∀ e ∈ xs, e.cells.length = k
theorem allLen_nil {k : Nat} : allLen k [] = True := by simp [allLen]
theorem allLen_cons {k : Nat} {a : AV} {r : List AV} : allLen k (a :: r) = (a.cells.length = k ∧ allLen k r) := by simp [allLen]
theorem allLen_append {k : Nat} {a r : List AV} : allLen k (a ++ r) = (allLen k a ∧ allLen k r) := by
  apply propext; simp only [allLen, List.mem_append]; constructor
  · exact fun h => ⟨fun e he => h e (.inl he), fun e he => h e (.inr he)⟩
  · rintro ⟨h1, h2⟩ e (he | he); exact h1 e he; exact h2 e he
theorem allLen_bytes {bs : List UInt8} : allLen 1 (bs.map byteAV) = True := by
  simp [allLen, byteAV, AV.cells]
theorem allLen_map {α : Type} {k : Nat} {g : α → AV} (h : ∀ x, (g x).cells.length = k) (l : List α) : allLen k (l.map g) = True := by
  simp [allLen, h]
theorem allLen_take {k n : Nat} {xs : List AV} (h : allLen k xs) : allLen k (xs.take n) := fun e he => h e (List.mem_of_mem_take he)
theorem allLen_drop {k n : Nat} {xs : List AV} (h : allLen k xs) : allLen k (xs.drop n) := fun e he => h e (List.mem_of_mem_drop he)

/-- a slice that is being built, over the objects s0 -/
def Owned (s0 s : Hp) (k : Nat) (xs : List AV) (o : Own) : Prop :=
  s0.sub s ∧ match o with
    | .buf g c => s0 g = none ∧ s g = some (.buf k xs.length c)
    | .any => False
    | _ => xs = []

variable {P : Program} {f : Fr} {s s0 : Hp} {Kv : AV → Hp → Prop}

theorem Hp.sub_trans {a b c : Hp} (h : a.sub b) (h2 : b.sub c) : a.sub c := fun l o hl => h2 l o (h l o hl)
theorem Hp.sub_none {a b : Hp} (h : a.sub b) {l : Nat} (hl : b l = none) : a l = none := by
  cases ha : a l with
  | none => rfl
  | some o => rw [h l o ha] at hl; cases hl

theorem Owned.nil (h : s0.sub s) {k : Nat} : Owned s0 s k [] .nil := ⟨h, rfl⟩
theorem Owned.zero (h : s0.sub s) {k : Nat} : Owned s0 s k [] .zero := ⟨h, rfl⟩
theorem Owned.sub {k : Nat} {xs : List AV} {o : Own} (h : Owned s0 s k xs o) : s0.sub s := h.1
theorem Owned.base {s1 : Hp} {k : Nat} {xs : List AV} {o : Own} (h : Owned s0 s k xs o) (hs : s1.sub s0) : Owned s1 s k xs o := by
  refine ⟨Hp.sub_trans hs h.1, ?_⟩
  have h2 := h.2
  cases o with
  | buf g c => exact ⟨Hp.sub_none hs h2.1, h2.2⟩
  | _ => exact h2
theorem Owned.mono {s' : Hp} {k : Nat} {xs : List AV} {o : Own} (h : Owned s0 s k xs o) (hs : s.sub s') : Owned s0 s' k xs o := by
  refine ⟨Hp.sub_trans h.1 hs, ?_⟩
  have h2 := h.2
  cases o with
  | buf g c => exact ⟨h2.1, hs _ _ h2.2⟩
  | _ => exact h2
/-- other objects are written -/
theorem Owned.set {k l : Nat} {xs : List AV} {o : Own} {ob ob' : Ob} (h : Owned s0 s k xs o) (hl : s0 l = some ob') : Owned (s0.set l ob) (s.set l ob) k xs o := by
  refine ⟨Hp.sub_set h.1, ?_⟩
  have h2 := h.2
  cases o with
  | buf g c =>
    have hne : g ≠ l := by rintro rfl; rw [h2.1] at hl; cases hl
    exact ⟨by rw [Hp.set_ne _ _ hne]; exact h2.1, by rw [Hp.set_ne _ _ hne]; exact h2.2⟩
  | _ => exact h2
/-- a new object -/
theorem Owned.new {k l : Nat} {xs : List AV} {o : Own} {ob : Ob} (h : Owned s0 s k xs o) (hl : s l = none) : Owned (s0.set l ob) (s.set l ob) k xs o := by
  refine ⟨Hp.sub_set h.1, ?_⟩
  have h2 := h.2
  cases o with
  | buf g c =>
    have hne : g ≠ l := by rintro rfl; rw [h2.2] at hl; cases hl
    exact ⟨by rw [Hp.set_ne _ _ hne]; exact h2.1, by rw [Hp.set_ne _ _ hne]; exact h2.2⟩
  | _ => exact h2

def appK (k bytes : Nat) (s : Hp) (x y : AV) (C : AV → Hp → Prop) : Prop :=
  match x, y with
  | .sl xs o, .sl ys _ => (∀ e ∈ xs, e.cells.length = k) ∧ (∀ e ∈ ys, e.cells.length = k) ∧ (xs.length + ys.length) * bytes ≤ 140737488355328 ∧ xs.length + ys.length ≤ 9223372036854775807 ∧
      match o with
      | .buf g c => s g = some (.buf k xs.length c) ∧ ∀ g' c', (g' = g ∨ s g' = none) → C (.sl (xs ++ ys) (.buf g' c')) ((s.del g).set g' (.buf k (xs.length + ys.length) c'))
      | .any => False
      | _ => xs = [] ∧ (if ys = [] then C (.sl [] o) s else ∀ g' c', s g' = none → C (.sl ys (.buf g' c')) (s.set g' (.buf k ys.length c')))
  | _, _ => False
theorem G_app {k bytes : Nat} {x y : Operand} : G P (.app k bytes x y) f s Kv = appK k bytes s (ev f x) (ev f y) (hid2 Kv ()) := rfl

/-- APPEND -/
theorem app_own {k bytes : Nat} {xs ys : List AV} {o o2 : Own} {C : AV → Hp → Prop} {d : Dep C} (h : Owned s0 s k xs o) (h1 : allLen k xs) (h2 : allLen k ys) (h3 : (xs.length + ys.length) * bytes ≤ 140737488355328) (h4 : xs.length + ys.length ≤ 9223372036854775807)
    (hk : ∀ o' s', Owned s0 s' k (xs ++ ys) o' → C (.sl (xs ++ ys) o') s') : appK k bytes s (.sl xs o) (.sl ys o2) (hid2 C d) := by
  have ho := h.2
  refine ⟨h1, h2, h3, h4, ?_⟩
  cases o with
  | any => exact ho.elim
  | nil =>
    obtain rfl : xs = [] := ho
    refine ⟨rfl, ?_⟩
    split
    · rename_i hy; subst hy; exact hk _ _ ⟨h.1, rfl⟩
    · intro g' c' hg'
      refine hk _ _ ⟨Hp.sub_new h.1 (Hp.sub_none h.1 hg'), Hp.sub_none h.1 hg', ?_⟩
      rw [Hp.set_same]; simp
  | zero =>
    obtain rfl : xs = [] := ho
    refine ⟨rfl, ?_⟩
    split
    · rename_i hy; subst hy; exact hk _ _ ⟨h.1, rfl⟩
    · intro g' c' hg'
      refine hk _ _ ⟨Hp.sub_new h.1 (Hp.sub_none h.1 hg'), Hp.sub_none h.1 hg', ?_⟩
      rw [Hp.set_same]; simp
  | buf g c =>
    refine ⟨ho.2, fun g' c' hg' => hk _ _ ?_⟩
    have hb : s0 g' = none := by rcases hg' with rfl | hg'; exact ho.1; exact Hp.sub_none h.1 hg'
    refine ⟨Hp.sub_new (fun l ob hl => ?_) hb, hb, ?_⟩
    · have hne : l ≠ g := by rintro rfl; rw [ho.1] at hl; cases hl
      rw [Hp.del_ne _ hne]; exact h.1 l ob hl
    · rw [Hp.set_same, List.length_append]

def bslK (k : Nat) (s : Hp) (vs0 : List AV) (C : AV → Hp → Prop) : Prop :=
  (∀ e ∈ vs0, e.cells.length = k) ∧ (if vs0.length = 0 then C (.sl [] .zero) s else ∀ g, s g = none → C (.sl vs0 (.buf g vs0.length)) (s.set g (.buf k vs0.length vs0.length)))
theorem G_bsl {k : Nat} {xs : List Operand} : G P (.bsl k xs) f s Kv = bslK k s (xs.map (ev f)) (hid2 Kv ()) := by
  simp only [G, bslK, hid2, List.length_map]
/-- A NEW SLICE -/
theorem bsl_own {k : Nat} {vs0 : List AV} {C : AV → Hp → Prop} {d : Dep C} (h : s0.sub s) (h1 : allLen k vs0) (hk : ∀ o' s', Owned s0 s' k vs0 o' → C (.sl vs0 o') s') : bslK k s vs0 (hid2 C d) := by
  refine ⟨h1, ?_⟩
  split
  · rename_i h0
    obtain rfl := List.eq_nil_of_length_eq_zero h0
    exact hk _ _ ⟨h, rfl⟩
  · intro g hg
    exact hk _ _ ⟨Hp.sub_new h (Hp.sub_none h hg), Hp.sub_none h hg, by rw [Hp.set_same]⟩

def bO (x : Option AV) (d : Nat) : Option Int :=
  match x with
  | none => some d
  | some a => intOf a
def kp (o : Own) (lo hi : Option AV) : Own :=
  match lo, hi with
  | none, none => o
  | _, _ => .any
def slcAA (k : Nat) (a : AV) (lo hi : Option AV) : Option AV :=
  match a with
  | .sl xs o => match bO lo 0, bO hi xs.length with
    | some a, some b => if 0 ≤ a ∧ a ≤ b ∧ b ≤ xs.length ∧ xs.all (fun e => decide (e.cells.length = k)) then some (.sl ((xs.take b.toNat).drop a.toNat) (kp o lo hi)) else none
    | _, _ => none
  | .msl l off len k' => match bO lo 0, bO hi len with
    | some a, some b => if k' = k ∧ 0 ≤ a ∧ a ≤ b ∧ b ≤ len ∧ a < len then some (.msl l (off + a.toNat * k) (b.toNat - a.toNat) k) else none
    | _, _ => none
  | _ => none
theorem bnd_bO (x : Option Operand) (d : Nat) : bnd f x d = bO (x.map (ev f)) d := by
  cases x with
  | none => rfl
  | some x => simp only [bnd, bO, Option.map_some, intOf]; split <;> simp_all
theorem kp_map {o : Own} (lo hi : Option Operand) : SlKeep o lo hi = kp o (lo.map (ev f)) (hi.map (ev f)) := by cases lo <;> cases hi <;> rfl
theorem G_slcA {k : Nat} {x : Operand} {lo hi : Option Operand} : G P (.slc k x lo hi) f s Kv = valK (slcAA k (ev f x) (lo.map (ev f)) (hi.map (ev f))) (hid1 (fun r => Kv r s) ()) := by
  simp only [G, slcAA, bnd_bO, kp_map (f := f) lo hi]
  generalize ev f x = a; generalize lo.map (ev f) = p; generalize hi.map (ev f) = q
  cases a <;> try rfl
  · rename_i xs o
    simp only []
    generalize bO p 0 = u; generalize bO q xs.length = w
    cases u <;> cases w <;> try rfl
    simp only [valK_ite, hid1_eq, List.all_eq_true, decide_eq_true_eq]
    apply propext; constructor
    · rintro ⟨h1, h2, h3, h4, h5⟩; exact ⟨⟨h1, h2, h3, h4⟩, h5⟩
    · rintro ⟨⟨h1, h2, h3, h4⟩, h5⟩; exact ⟨h1, h2, h3, h4, h5⟩
  · rename_i l off len k'
    simp only []
    generalize bO p 0 = u; generalize bO q len = w
    cases u <;> cases w <;> try rfl
    simp only [valK_ite, hid1_eq]
    apply propext; constructor
    · rintro ⟨h0, h1, h2, h3, h4, h5⟩; exact ⟨⟨h0, h1, h2, h3, h4⟩, h5⟩
    · rintro ⟨⟨h0, h1, h2, h3, h4⟩, h5⟩; exact ⟨h0, h1, h2, h3, h4, h5⟩
theorem slcAA_all {k : Nat} {xs : List AV} {o : Own} (h : allLen k xs) : slcAA k (.sl xs o) none none = some (.sl xs o) := by
  have : (xs.all fun e => decide (e.cells.length = k)) = true := by simpa [allLen] using h
  simp [slcAA, bO, kp, this]
theorem slcAA_lo {k : Nat} {xs : List AV} {o : Own} {kd : IntKind} {a : Int} (h : 0 ≤ a) (h2 : a ≤ xs.length) (h3 : allLen k xs) : slcAA k (.sl xs o) (some (.v (.int kd a))) none = some (.sl (xs.drop a.toNat) .any) := by
  have : (xs.all fun e => decide (e.cells.length = k)) = true := by simpa [allLen] using h3
  simp [slcAA, bO, kp, intOf, this, h, h2]
theorem slcAA_hi {k : Nat} {xs : List AV} {o : Own} {kd : IntKind} {b : Int} (h : 0 ≤ b) (h2 : b ≤ xs.length) (h3 : allLen k xs) : slcAA k (.sl xs o) none (some (.v (.int kd b))) = some (.sl (xs.take b.toNat) .any) := by
  have : (xs.all fun e => decide (e.cells.length = k)) = true := by simpa [allLen] using h3
  simp [slcAA, bO, kp, intOf, this, h, h2]
theorem slcAA_both {k : Nat} {xs : List AV} {o : Own} {kd kd' : IntKind} {a b : Int} (h : 0 ≤ a) (h1 : a ≤ b) (h2 : b ≤ xs.length) (h3 : allLen k xs) : slcAA k (.sl xs o) (some (.v (.int kd a))) (some (.v (.int kd' b))) = some (.sl ((xs.take b.toNat).drop a.toNat) .any) := by
  have : (xs.all fun e => decide (e.cells.length = k)) = true := by simpa [allLen] using h3
  simp [slcAA, bO, kp, intOf, this, h, h1, h2]

def eqvK (neg : Bool) (ks : List (Nat × CK)) (a b : AV) (C : AV → Prop) : Prop :=
  match a, b with
  | .agg cs, .agg ds => fitR ks cs ∧ fitR ks ds ∧ C (.v (.bool (xor neg (peq (.agg cs) (.agg ds)))))
  | _, _ => False
theorem G_eqvK {neg : Bool} {ks : List (Nat × CK)} {x y : Operand} : G P (.eqv neg ks x y) f s Kv = eqvK neg ks (ev f x) (ev f y) (hid1 (fun r => Kv r s) ()) := rfl
theorem eqvK_agg {neg : Bool} {ks : List (Nat × CK)} {cs ds : List AV} {C : AV → Prop} : eqvK neg ks (.agg cs) (.agg ds) C = andK (fitR ks cs ∧ fitR ks ds) (hidP (C (.v (.bool (xor neg (peq (.agg cs) (.agg ds)))))) ()) := by
  simp only [eqvK, andK, hidP]; exact propext and_assoc.symm

theorem mapb_drop {bs : List UInt8} {n : Nat} : (bs.map byteAV).drop n = (bs.drop n).map byteAV := by rw [List.map_drop]
theorem mapb_take {bs : List UInt8} {n : Nat} : (bs.map byteAV).take n = (bs.take n).map byteAV := by rw [List.map_take]
theorem mapb_app {bs cs : List UInt8} : bs.map byteAV ++ cs.map byteAV = (bs ++ cs).map byteAV := by rw [List.map_append]
theorem byte_fold {b : UInt8} : (.v (.int .u8 b.toNat) : AV) = byteAV b := rfl
theorem Owned.nilB (h : s0.sub s) : Owned s0 s 1 (([] : List UInt8).map byteAV) .nil := ⟨h, rfl⟩
theorem Owned.zeroB (h : s0.sub s) : Owned s0 s 1 (([] : List UInt8).map byteAV) .zero := ⟨h, rfl⟩
/-- bytes are appended -/
theorem app_bytes {xs ys : List UInt8} {o o2 : Own} {C : AV → Hp → Prop} {d : Dep C} (h : Owned s0 s 1 (xs.map byteAV) o) (h3 : xs.length + ys.length ≤ 140737488355328)
    (hk : ∀ o' s', Owned s0 s' 1 ((xs ++ ys).map byteAV) o' → C (.sl ((xs ++ ys).map byteAV) o') s') : appK 1 1 s (.sl (xs.map byteAV) o) (.sl (ys.map byteAV) o2) (hid2 C d) := by
  refine app_own h (by rw [allLen_bytes]; trivial) (by rw [allLen_bytes]; trivial) (by simp; omega) (by simp; omega) ?_
  rw [mapb_app]; exact hk
theorem app_byte1 {xs : List UInt8} {b : UInt8} {o o2 : Own} {C : AV → Hp → Prop} {d : Dep C} (h : Owned s0 s 1 (xs.map byteAV) o) (h3 : xs.length + 1 ≤ 140737488355328)
    (hk : ∀ o' s', Owned s0 s' 1 ((xs ++ [b]).map byteAV) o' → C (.sl ((xs ++ [b]).map byteAV) o') s') : appK 1 1 s (.sl (xs.map byteAV) o) (.sl [byteAV b] o2) (hid2 C d) :=
  app_bytes (ys := [b]) h h3 hk
theorem bsl_byte {b : UInt8} {C : AV → Hp → Prop} {d : Dep C} (h : s0.sub s) (hk : ∀ o' s', Owned s0 s' 1 [byteAV b] o' → C (.sl [byteAV b] o') s') : bslK 1 s [.v (.int .u8 b.toNat)] (hid2 C d) :=
  bsl_own (vs0 := [b].map byteAV) h (by rw [allLen_bytes]; trivial) hk
theorem getB {bs : List UInt8} {i : Nat} (h : i < bs.length) : (bs.map byteAV)[i]? = some (.v (.int .u8 (bs.getD i 0).toNat)) := by
  rw [List.getElem?_map, List.getElem?_eq_getElem h]
  have : bs.getD i 0 = bs[i] := by simp [List.getD, h]
  rw [this]; rfl

theorem runL_mono {Kf Kf' : Fr → Hp → Prop} (h : ∀ f s, Kf f s → Kf' f s) : ∀ (ops : List AOper) (f : Fr) (s : Hp), runL P ops Kf f s → runL P ops Kf' f s
  | [], f, s, hh => h f s hh
  | _ :: r, f, s, hh => T_mono (fun f s hh => runL_mono h r f s hh) hh
theorem can_mono {xs : Nat → AOper} {Kf Kf' : Fr → Hp → Prop} (h : ∀ f s, Kf f s → Kf' f s) : ∀ (l : List CO) (f : Fr) (s : Hp), can P xs Kf l f s → can P xs Kf' l f s
  | [], f, s, hh => h f s hh
  | _ :: r, f, s, hh => ⟨hh.1, T_mono (fun f s hh => ⟨hh.1, can_mono h r f s hh.2⟩) hh.2⟩
theorem awp_mono : ∀ (c : ACode) {K K' : Ex → Fr → Hp → Prop} (_ : ∀ e f s, K e f s → K' e f s) (f : Fr) (s : Hp), awp P c K f s → awp P c K' f s
  | .skip, _, _, h, f, s, hh => h _ f s hh
  | .ret, _, _, h, f, s, hh => h _ f s hh
  | .exit _, _, _, h, f, s, hh => h _ f s hh
  | .plain ops, _, _, h, f, s, hh => runL_mono (h _) ops f s hh
  | .draw _ l, _, _, h, f, s, hh => can_mono (h _) l f s hh
  | .seq a b, K, K', h, f, s, hh => awp_mono a (fun e f s hh => by
      cases e with
      | norm => exact awp_mono b h f s hh
      | exit i => exact h _ f s hh
      | ret => exact h _ f s hh) f s hh
  | .block i a, K, K', h, f, s, hh => awp_mono a (fun e f s hh => by
      cases e with
      | norm => exact h _ f s hh
      | exit j => simp only [blockK] at hh ⊢; split <;> (rename_i hj; simp only [hj, if_true, if_false] at hh; exact h _ f s hh)
      | ret => exact h _ f s hh) f s hh
  | .cond c a b, K, K', h, f, s, hh => by
      simp only [awp_cond, hidP_eq, condK] at hh ⊢
      split at hh
      · exact ⟨fun ht => awp_mono a h f s (hh.1 ht), fun ht => awp_mono b h f s (hh.2 ht)⟩
      · exact hh.elim
  | .loop a, K, K', h, f, s, hh => by
      obtain ⟨I, m, h0, hr⟩ := hh
      exact ⟨I, m, h0, fun f s hI => awp_mono a (fun e f s hh => by
        cases e with
        | norm => exact hh
        | exit i => exact h _ f s hh
        | ret => exact h _ f s hh) f s (hr f s hI)⟩

/-- both arms go on alike -/
theorem cond_join {K : Ex → Fr → Hp → Prop} {a b c : ACode} {t : Bool} {d : Dep (awp P a (seqK (awp P c K) K) f s)} {d' : Dep (awp P b (seqK (awp P c K) K) f s)} (Q : Fr → Hp → Prop)
    (ht : t = true → awp P a (seqK Q K) f s) (hf : t = false → awp P b (seqK Q K) f s) (hQ : ∀ f s, Q f s → awp P c K f s) :
    condK (.v (.bool t)) (hidP (awp P a (seqK (awp P c K) K) f s) d) (hidP (awp P b (seqK (awp P c K) K) f s) d') := by
  have hm : ∀ e f s, seqK Q K e f s → seqK (awp P c K) K e f s := fun e f s h => by
    cases e with
    | norm => exact hQ f s h
    | exit i => exact h
    | ret => exact h
  exact ⟨fun h => awp_mono a hm f s (ht h), fun h => awp_mono b hm f s (hf h)⟩

def idxSA (a i : AV) : Option AV :=
  match a, i with
  | .v (.string t), .v (.int _ n) => if 0 ≤ n then (match t.data[n.toNat]? with | some b => some (.v (.int .u8 b.toNat)) | none => none) else none
  | _, _ => none
theorem G_idxS {x i : Operand} : G P (.idxS x i) f s Kv = valK (idxSA (ev f x) (ev f i)) (hid1 (fun r => Kv r s) ()) := by
  simp only [G, idxSA]; generalize ev f x = a; generalize ev f i = b
  cases a <;> first
    | rfl
    | (rename_i v; cases v <;> first
        | rfl
        | (cases b <;> first
            | rfl
            | (rename_i t w; cases w <;> first
                | rfl
                | (rename_i kd n; simp only []; by_cases h : 0 ≤ n
                   · simp only [h, true_and, if_true]; generalize t.data[n.toNat]? = c; cases c <;> rfl
                   · simp [h, valK]))))
/-- the mutable view of a box that is sliced whole, and only read -/
def slcRA (k n : Nat) (s : Hp) (a : AV) : Option AV :=
  match a with
  | .ptr l off => match s l with
    | some (.ro cs) => if off + n * k ≤ cs.length then some (.sl (elemsOf k n (cs.drop off)) .any) else none
    | _ => none
  | _ => none
theorem G_slcR {k n : Nat} {x : Operand} : G P (.slcR k n x none none) f s Kv = valK (slcRA k n s (ev f x)) (hid1 (fun r => Kv r s) ()) := by
  simp only [G, slcRA, bnd]; generalize ev f x = a
  cases a <;> first
    | rfl
    | (rename_i l off; simp only []
       generalize s l = c
       cases c with
       | none => simp [valK]
       | some o => cases o with
         | cells cs => simp [valK]
         | buf k n c => simp [valK]
         | ro cs => simp only [valK_ite, hid1_eq]; simp)
theorem slcRA_one {n l : Nat} {cs : List AV} (h : s l = some (.ro cs)) (h2 : cs.length = n) : slcRA 1 n s (.ptr l 0) = some (.sl cs .any) := by
  simp [slcRA, h, h2, elemsOf, List.take_of_length_le]
theorem shl_i64 {a : Int} {k : IntKind} {n : Nat} (h : n < 64) : binV .shl (.int .i64 a) (.int k (n : Int)) = some (.int .i64 (IntKind.i64.wrap (a * 2 ^ n))) := by
  have e : min n IntKind.i64.bits = n := by simp [IntKind.bits]; omega
  simp only [binV, isShift, if_true, shiftInt, if_neg (show ¬ (n : Int) < 0 by omega), Int.toNat_natCast, e]
def tup2 (a b : Option AV) : Option AV :=
  match a, b with
  | some a, some b => some (.tup [a, b])
  | _, _ => none
theorem tup2_some {a b : AV} : tup2 (some a) (some b) = some (.tup [a, b]) := rfl
theorem resAll2 {p q : Nat × Option (Bool × Nat)} : resAll f s [p, q] = tup2 (resG f s p) (resG f s q) := by
  simp only [resAll, mapAll]; cases resG f s p <;> cases resG f s q <;> rfl
def tup3 (a b c : Option AV) : Option AV :=
  match a, b, c with
  | some a, some b, some c => some (.tup [a, b, c])
  | _, _, _ => none
theorem tup3_some {a b c : AV} : tup3 (some a) (some b) (some c) = some (.tup [a, b, c]) := rfl
theorem resAll3 {p q r : Nat × Option (Bool × Nat)} : resAll f s [p, q, r] = tup3 (resG f s p) (resG f s q) (resG f s r) := by
  simp only [resAll, mapAll]; cases resG f s p <;> cases resG f s q <;> cases resG f s r <;> rfl
theorem cast0 : ((0 : Nat) : Int) = 0 := rfl
theorem cast1 : ((1 : Nat) : Int) = 1 := rfl
theorem tmod_nat {m k : Nat} : ((m : Int).tmod (k : Int)) = ((m % k : Nat) : Int) := rfl
theorem tmod64 {m : Nat} : ((m : Int).tmod 64) = ((m % 64 : Nat) : Int) := tmod_nat (k := 64)
/-! bundles of the lemmas above, for 'simp' -/
def rD :=
  And.intro @awp_skip <|
  And.intro @awp_ret <|
  And.intro @awp_exit <|
  And.intro @awp_seq <|
  And.intro @awp_block <|
  And.intro @awp_plain <|
  And.intro @awp_draw <|
  And.intro @awp_cond <|
  And.intro @awp_loopK <|
  And.intro @hid1_eq <|
  And.intro @hid2_eq <|
  And.intro @seqK_norm <|
  And.intro @seqK_ret <|
  And.intro @seqK_exit <|
  And.intro @blockK_norm <|
  And.intro @blockK_ret <|
  And.intro @blockK_same <|
  And.intro @blockK_exit <|
  And.intro @runL_nil <|
  And.intro @runL_cons <|
  And.intro @runL_guard <|
  And.intro @can_nil <|
  And.intro @can_cons <|
  And.intro @can_pre <|
  And.intro @can_chk <|
  And.intro @chkL_nil <|
  And.intro @chkL_cons <|
  And.intro @Def_none <|
  And.intro @chkT_none <|
  And.intro @T_none <|
  And.intro @T_guard <|
  And.intro @nth_zero <|
  And.intro @nth_succ <|
  And.intro @G_mv <|
  And.intro @G_pick <|
  And.intro @G_alloc <|
  And.intro @G_box <|
  And.intro @G_boxR <|
  And.intro @G_load <|
  And.intro @G_store <|
  And.intro @G_nilc <|
  And.intro @G_fa <|
  And.intro @G_iaA <|
  And.intro @G_iaS <|
  And.intro @G_fld <|
  And.intro @G_idxA <|
  And.intro @G_bld <|
  And.intro @G_len <|
  And.intro @G_lenA <|
  And.intro @G_bin <|
  And.intro @G_un <|
  And.intro @G_cvt <|
  And.intro @G_callF <|
  And.intro @G_ext <|
  And.intro @G_app <|
  And.intro @G_bsl <|
  And.intro @G_slcA <|
  And.intro @G_idxS <|
  And.intro @G_slcR <|
  And.intro @G_eqvK <|
  And.intro @G_eqb <|
  And.intro @G_eqp <|
  And.intro @putF_get <|
  And.intro @putF_none <|
  And.intro @initF_get <|
  And.intro @bldK_nil <|
  And.intro @bldK_cons <|
  And.intro @postR_ret <|
  @postR_norm
def rU :=
  And.intro @condK_true <|
  And.intro @condK_false <|
  And.intro @guardK_tt <|
  And.intro @guardK_ff <|
  And.intro @guardK_tf <|
  And.intro @guardK_ft <|
  And.intro @guardK_no <|
  And.intro @newK_true <|
  And.intro @eq_self.{1} <|
  And.intro @tK_eq <|
  And.intro @List.getD_cons_zero.{0} <|
  And.intro @List.getD_cons_succ.{0} <|
  And.intro @eqvK_agg <|
  And.intro @Option.map_none.{0,0} <|
  And.intro @slcAA_all <|
  And.intro @slcAA_lo <|
  And.intro @slcAA_hi <|
  And.intro @slcAA_both <|
  And.intro @mapb_drop <|
  And.intro @mapb_take <|
  And.intro @valK_some <|
  And.intro @letK_eq <|
  And.intro @cellK_some <|
  And.intro @andK_true <|
  And.intro @andK_ok <|
  And.intro @pickA_true <|
  And.intro @pickA_false <|
  And.intro @loadA_ptr <|
  And.intro @loadA_rptr <|
  And.intro @rdA_some <|
  And.intro @storeK_ptr <|
  And.intro @nilcA_ptr <|
  And.intro @nilcA_rptr <|
  And.intro @faA_ptr <|
  And.intro @faA_rptr <|
  And.intro @iaAA_ptr <|
  And.intro @iaAA_rptr <|
  And.intro @iaSA_bytes <|
  And.intro @iaSA_msl <|
  And.intro @elA_some <|
  And.intro @fldA_agg <|
  And.intro @idxAA_agg <|
  And.intro @lenAA_sl <|
  And.intro @lenAA_msl <|
  And.intro @binA_v <|
  And.intro @unA_v <|
  And.intro @cvtA_int <|
  And.intro @extA_tup <|
  And.intro @eqbA_b <|
  And.intro @eqpA_ptr <|
  And.intro @eqpA_rptr <|
  And.intro @eqpA_nil <|
  And.intro @Option.map_some.{0,0} <|
  And.intro @resAll_one <|
  And.intro @resG_tmp <|
  And.intro @resAll_none <|
  And.intro @resG_ptr <|
  And.intro @resP_ptr <|
  And.intro @putAt_all <|
  And.intro @List.map_cons.{0,0} <|
  And.intro @List.map_nil.{0,0} <|
  And.intro @add_i64 <|
  And.intro @sub_i64 <|
  And.intro @mul_i64 <|
  And.intro @quo_i64 <|
  And.intro @rem_i64 <|
  And.intro @eql_int <|
  And.intro @neq_int <|
  And.intro @lss_int <|
  And.intro @leq_int <|
  And.intro @gtr_int <|
  And.intro @geq_int <|
  And.intro @not_bool <|
  And.intro @add_u32 <|
  And.intro @sub_u32 <|
  And.intro @mul_u32 <|
  And.intro @and_u32 <|
  And.intro @or_u32 <|
  And.intro @xor_u32 <|
  And.intro @com_u32 <|
  And.intro @shl_u32 <|
  And.intro @shr_u32 <|
  And.intro @wrap_i64 <|
  And.intro @wrap_u32_8 <|
  And.intro @wrap_u64_8 <|
  And.intro @wrap_u8_32 <|
  And.intro @wrap_u8_64 <|
  And.intro @add_u64 <|
  And.intro @sub_u64 <|
  And.intro @mul_u64 <|
  And.intro @shr_u64 <|
  And.intro @wrap_u64 <|
  And.intro @mkv_one <|
  And.intro @mkv_agg <|
  And.intro @List.length_map.{0,0} <|
  And.intro @List.length_cons.{0} <|
  And.intro @List.length_nil.{0} <|
  And.intro @Hp.read_set_same <|
  And.intro @Hp.read_set_ro <|
  And.intro @Hp.read_set_ne <|
  And.intro @Hp.stA_set_same <|
  And.intro @Hp.stA_set_ne <|
  And.intro @Hp.set_set <|
  And.intro @Hp.set_in1 <|
  And.intro @Hp.set_in2 <|
  And.intro @Hp.set_in3 <|
  And.intro @Hp.set_in4 <|
  And.intro @Hp.set_in5 <|
  And.intro @Hp.set_in6 <|
  And.intro @Hp.set_in7 <|
  And.intro @Hp.set_in8 <|
  And.intro @cells_sl <|
  And.intro @cells_v <|
  And.intro @cells_ptr <|
  And.intro @cells_rptr <|
  And.intro @cells_iface <|
  And.intro @cells_agg <|
  And.intro @List.drop_zero.{0} <|
  And.intro @and_self <|
  And.intro @Nat.zero_add <|
  And.intro @Nat.mul_one <|
  And.intro @Nat.one_mul <|
  And.intro @Int.toNat_natCast <|
  And.intro @true_and <|
  And.intro @and_true <|
  And.intro @Nat.add_zero <|
  And.intro @Nat.le_refl <|
  And.intro @dec_t <|
  @dec_f
def rX :=
  And.intro @cast0 <|
  And.intro @cast1 <|
  And.intro @resAll2 <|
  And.intro @tup2_some <|
  And.intro @resAll3 <|
  @tup3_some
def rL :=
  And.intro @List.length_cons.{0} <|
  And.intro @List.length_nil.{0} <|
  And.intro @List.length_map.{0,0} <|
  And.intro @List.length_append.{0} <|
  And.intro @List.length_replicate.{0} <|
  And.intro @List.length_range <|
  And.intro @List.length_take.{0} <|
  And.intro @List.length_drop.{0} <|
  And.intro @cells_sl <|
  And.intro @cells_v <|
  And.intro @cells_ptr <|
  And.intro @cells_rptr <|
  And.intro @cells_iface <|
  And.intro @cells_agg <|
  And.intro @allLen_bytes <|
  And.intro @allLen_nil <|
  And.intro @allLen_cons <|
  And.intro @allLen_append <|
  And.intro @and_true <|
  And.intro @true_and <|
  And.intro @Nat.zero_add <|
  And.intro @eq_self.{1} <|
  @and_self
end Go.Av
set_option maxRecDepth 100000
namespace Go.Proofs.Ytapjikladjoicaa
open Go Go.Av

def wv (x : UInt32) : AV := .v (.int .u32 x.toNat)
def rotl (x : UInt32) (n : Nat) : UInt32 := x <<< UInt32.ofNat n ||| x >>> UInt32.ofNat (32 - n)

theorem and31 (n : Nat) (h : 0 < n ∧ n < 32) : binV .and (.int .u64 (IntKind.u64.wrap (-((32 - n : Nat) : Int)))) (.int .u64 31) = some (.int .u64 n) := by
  have key : ∀ n : Fin 32, 0 < n.val → IntKind.u64.wrap (BitVec.ofInt IntKind.u64.bits (IntKind.u64.wrap (-((32 - n.val : Nat) : Int))) &&& BitVec.ofInt IntKind.u64.bits 31).toNat = (n.val : Int) := by decide
  have := key ⟨n, h.2⟩ h.1
  simp only [binV, isShift, binInt, this]; rfl

theorem rotl_spec (x : UInt32) (n : Nat) (h : 0 < n ∧ n < 32) (s : Hp) : AC Try.prog 91 [.v (.int .u32 x.toNat), .v (.int .i64 (-((32 - n : Nat) : Int)))] s fun r s' => s' = s ∧ r = .v (.int .u32 (rotl x n).toNat) := by
  refine AC_run hm prep91 (by simp) ?_
  simp (dsimp := false) (implicitDefEqProofs := false) (maxSteps := 1000000) (disch := first | omega | assumption | (simp only [rL, Nat.reduceAdd]; done) | (simp only [rL, Nat.reduceAdd]; omega)) only [↓rD, rU, ev, ofConst, ofCell, ↓reduceIte, Nat.reduceEqDiff, Nat.reduceAdd, Nat.reduceSub, Nat.reduceMul, Nat.reduceLeDiff, Nat.reduceLT, Int.reduceNeg, Int.reduceToNat, Int.reduceAdd, Int.reduceSub, Int.reduceMul, Int.reduceLT, Int.reduceLE, Int.reduceEq, and31 n h]
  refine ⟨s, Hp.sub_refl, rfl, ?_⟩
  have e : ((32 : Int) - (n : Int)).toNat = 32 - n := by omega
  rw [e]; simp [rotl]

theorem rotl_spec' (x : UInt32) (k : Int) (n : Nat) (h : 0 < n ∧ n < 32) (hk : k = -((32 - n : Nat) : Int)) (s : Hp) : AC Try.prog 91 [.v (.int .u32 x.toNat), .v (.int .i64 k)] s fun r s' => s' = s ∧ r = .v (.int .u32 (rotl x n).toNat) := by
  subst hk; exact rotl_spec x n h s

/-! the schedule -/
def word (bs : List UInt8) (i : Nat) : UInt32 := (bs.getD (4 * i) 0).toUInt32 <<< 24 ||| (bs.getD (4 * i + 1) 0).toUInt32 <<< 16 ||| (bs.getD (4 * i + 2) 0).toUInt32 <<< 8 ||| (bs.getD (4 * i + 3) 0).toUInt32
def sig0 (x : UInt32) : UInt32 := rotl x 25 ^^^ rotl x 14 ^^^ x >>> 3
def sig1 (x : UInt32) : UInt32 := rotl x 15 ^^^ rotl x 13 ^^^ x >>> 10
def more (w : List UInt32) : List UInt32 := w ++ [w.getD (w.length - 16) 0 + sig0 (w.getD (w.length - 15) 0) + w.getD (w.length - 7) 0 + sig1 (w.getD (w.length - 2) 0)]
def first (bs : List UInt8) (n : Nat) : List UInt32 := (List.range n).map (word bs)
def grow : Nat → List UInt32 → List UInt32
  | 0, w => w
  | n + 1, w => grow n (more w)
def sched (bs : List UInt8) : List UInt32 := grow 48 (first bs 16)

def cellsW (w : List UInt32) : List AV := w.map (fun x => .v (.int .u32 x.toNat)) ++ List.replicate (64 - w.length) (.v (.int .u32 0))
theorem cellsW_nil : cellsW [] = List.replicate 64 (.v (.int .u32 0)) := by simp [cellsW]
theorem cellsW_length {w : List UInt32} (h : w.length ≤ 64) : (cellsW w).length = 64 := by simp [cellsW]; omega
theorem cellsW_put {w : List UInt32} {i : Nat} (x : UInt32) (h : i = w.length) (h2 : w.length < 64) : putAt (cellsW w) i [.v (.int .u32 x.toNat)] = cellsW (w ++ [x]) := by
  subst h
  have e : 64 - w.length = (64 - (w.length + 1)) + 1 := by omega
  simp only [putAt, cellsW, e, List.replicate_succ]
  simp [List.take_append, List.drop_append]
theorem cellsW_at {w : List UInt32} {i : Nat} (h : i < w.length) : mkv false 1 ((cellsW w).drop i) = .v (.int .u32 (w.getD i 0).toNat) := by
  simp only [mkv, cellsW]
  rw [List.drop_append_of_le_length (by simp; omega), ← List.map_drop, List.drop_eq_getElem_cons h]
  simp [List.getD, h]

theorem sched_spec (bs : List UInt8) (o : Own) (h : bs.length = 64) (s : Hp) : AC Try.prog 89 [.sl (bs.map byteAV) o] s fun r s' => s' = s ∧ r = .agg ((sched bs).map fun x => .v (.int .u32 x.toNat)) := by
  refine AC_run hm prep89 (by simp) ?_
  simp (dsimp := false) (implicitDefEqProofs := false) (maxSteps := 1000000) (disch := first | omega | assumption | (simp only [rL, Nat.reduceAdd]; done) | (simp only [rL, Nat.reduceAdd]; omega)) only [↓rD, rU, ev, ofConst, ofCell, ↓reduceIte, Nat.reduceEqDiff, Nat.reduceAdd, Nat.reduceSub, Nat.reduceMul, Nat.reduceLeDiff, Nat.reduceLT, Int.reduceNeg, Int.reduceToNat, Int.reduceAdd, Int.reduceSub, Int.reduceMul, Int.reduceLT, Int.reduceLE, Int.reduceEq]
  refine newK_intro fun l2 h2 => ?_
  simp (dsimp := false) (implicitDefEqProofs := false) (maxSteps := 1000000) (disch := first | omega | assumption | (simp only [rL, Nat.reduceAdd]; done) | (simp only [rL, Nat.reduceAdd]; omega)) only [↓rD, rU, ev, ofConst, ofCell, ↓reduceIte, Nat.reduceEqDiff, Nat.reduceAdd, Nat.reduceSub, Nat.reduceMul, Nat.reduceLeDiff, Nat.reduceLT, Int.reduceNeg, Int.reduceToNat, Int.reduceAdd, Int.reduceSub, Int.reduceMul, Int.reduceLT, Int.reduceLE, Int.reduceEq]
  refine newK_intro fun l3 h3 => ?_
  obtain ⟨h23, h3⟩ := Hp.set_none h3
  simp (dsimp := false) (implicitDefEqProofs := false) (maxSteps := 1000000) (disch := first | omega | assumption | (simp only [rL, Nat.reduceAdd]; done) | (simp only [rL, Nat.reduceAdd]; omega)) only [↓rD, rU, ev, ofConst, ofCell, ↓reduceIte, Nat.reduceEqDiff, Nat.reduceAdd, Nat.reduceSub, Nat.reduceMul, Nat.reduceLeDiff, Nat.reduceLT, Int.reduceNeg, Int.reduceToNat, Int.reduceAdd, Int.reduceSub, Int.reduceMul, Int.reduceLT, Int.reduceLE, Int.reduceEq]
  refine loop_intro (fun f s' => ∃ i : Nat, i ≤ 16 ∧ f 0 = .sl (bs.map byteAV) o ∧ f 2 = .ptr l2 0 ∧ f 3 = .ptr l3 0 ∧ f 10 = .v (.int .i64 i) ∧ s' = (s.set l2 (.cells (List.replicate 64 (.v (.int .u32 0))))).set l3 (.cells (cellsW (first bs i))))
    (fun f _ => match f 10 with | .v (.int _ n) => (16 - n).toNat | _ => 0) ⟨0, by omega, ?_⟩ ?_
  · simp (dsimp := false) (implicitDefEqProofs := false) (maxSteps := 1000000) (disch := first | omega | assumption | (simp only [rL, Nat.reduceAdd]; done) | (simp only [rL, Nat.reduceAdd]; omega)) only [↓rD, rU, ev, ofConst, ofCell, ↓reduceIte, Nat.reduceEqDiff, Nat.reduceAdd, Nat.reduceSub, Nat.reduceMul, Nat.reduceLeDiff, Nat.reduceLT, Int.reduceNeg, Int.reduceToNat, Int.reduceAdd, Int.reduceSub, Int.reduceMul, Int.reduceLT, Int.reduceLE, Int.reduceEq, first, List.range_zero, cellsW_nil]
    simp
  · rintro f s' ⟨i, hi, f0, f2, f3, f10, rfl⟩
    have hlen : (first bs i).length = i := by simp [first]
    by_cases hlt : (i : Int) < 16
    · have hl : (cellsW (first bs i)).length = 64 := cellsW_length (by omega)
      have e0 : (4 * (i : Int)).toNat = 4 * i := by omega
      have e1 : (4 * (i : Int) + 1).toNat = 4 * i + 1 := by omega
      have e2 : (4 * (i : Int) + 2).toNat = 4 * i + 2 := by omega
      have e3 : (4 * (i : Int) + 3).toNat = 4 * i + 3 := by omega
      have hs : (i : Int).toNat + 1 ≤ 64 := by omega
      simp (dsimp := false) (implicitDefEqProofs := false) (maxSteps := 1000000) (disch := first | omega | assumption | (simp only [rL, Nat.reduceAdd]; done) | (simp only [rL, Nat.reduceAdd]; omega)) only [↓rD, rU, ev, ofConst, ofCell, ↓reduceIte, Nat.reduceEqDiff, Nat.reduceAdd, Nat.reduceSub, Nat.reduceMul, Nat.reduceLeDiff, Nat.reduceLT, Int.reduceNeg, Int.reduceToNat, Int.reduceAdd, Int.reduceSub, Int.reduceMul, Int.reduceLT, Int.reduceLE, Int.reduceEq, f0, f2, f3, f10, hlt, hl, h, e0, e1, e2, e3]
      rw [cellsW_put _ hlen.symm (by omega)]
      refine ⟨⟨i + 1, by omega, by simp, ?_⟩, by omega⟩
      simp only [first, List.range_succ, List.map_append, List.map_cons, List.map_nil]; rfl
    · obtain rfl : i = 16 := by omega
      simp (dsimp := false) (implicitDefEqProofs := false) (maxSteps := 1000000) (disch := first | omega | assumption | (simp only [rL, Nat.reduceAdd]; done) | (simp only [rL, Nat.reduceAdd]; omega)) only [↓rD, rU, ev, ofConst, ofCell, ↓reduceIte, Nat.reduceEqDiff, Nat.reduceAdd, Nat.reduceSub, Nat.reduceMul, Nat.reduceLeDiff, Nat.reduceLT, Int.reduceNeg, Int.reduceToNat, Int.reduceAdd, Int.reduceSub, Int.reduceMul, Int.reduceLT, Int.reduceLE, Int.reduceEq, f0, f2, f3, f10, hlt]
      refine loop_intro (fun f s' => ∃ (w : List UInt32) (i : Nat), i ≤ 48 ∧ w.length = 16 + i ∧ grow (48 - i) w = sched bs ∧ f 2 = .ptr l2 0 ∧ f 3 = .ptr l3 0 ∧ f 5 = .v (.int .i64 ((16 + i : Nat) : Int)) ∧ s' = (s.set l2 (.cells (List.replicate 64 (.v (.int .u32 0))))).set l3 (.cells (cellsW w)))
        (fun f _ => match f 5 with | .v (.int _ n) => (64 - n).toNat | _ => 0) ⟨first bs 16, 0, by omega, hlen, rfl, ?_⟩ ?_
      · simp (dsimp := false) (implicitDefEqProofs := false) (maxSteps := 1000000) (disch := first | omega | assumption | (simp only [rL, Nat.reduceAdd]; done) | (simp only [rL, Nat.reduceAdd]; omega)) only [↓rD, rU, ev, ofConst, ofCell, ↓reduceIte, Nat.reduceEqDiff, Nat.reduceAdd, Nat.reduceSub, Nat.reduceMul, Nat.reduceLeDiff, Nat.reduceLT, Int.reduceNeg, Int.reduceToNat, Int.reduceAdd, Int.reduceSub, Int.reduceMul, Int.reduceLT, Int.reduceLE, Int.reduceEq, f2, f3, grow]
        rfl
      · rintro f s' ⟨w, i, hi, hw, hg, f2, f3, f5, rfl⟩
        by_cases hlt : ((16 + i : Nat) : Int) < 64
        · have hl : (cellsW w).length = 64 := cellsW_length (by omega)
          have e1 : (((16 + i : Nat) : Int) - 15).toNat = i + 1 := by omega
          have e2 : (((16 + i : Nat) : Int) - 2).toNat = i + 14 := by omega
          have e3 : (((16 + i : Nat) : Int) - 16).toNat = i := by omega
          have e4 : (((16 + i : Nat) : Int) - 7).toNat = i + 9 := by omega
          simp (dsimp := false) (implicitDefEqProofs := false) (maxSteps := 1000000) (disch := first | omega | assumption | (simp only [rL, Nat.reduceAdd]; done) | (simp only [rL, Nat.reduceAdd]; omega)) only [↓rD, rU, ev, ofConst, ofCell, ↓reduceIte, Nat.reduceEqDiff, Nat.reduceAdd, Nat.reduceSub, Nat.reduceMul, Nat.reduceLeDiff, Nat.reduceLT, Int.reduceNeg, Int.reduceToNat, Int.reduceAdd, Int.reduceSub, Int.reduceMul, Int.reduceLT, Int.reduceLE, Int.reduceEq, f2, f3, f5, hlt, e1, e2, e3, e4, hl, cellsW_at]
          refine call_intro (rotl_spec' _ _ 25 (by decide) (by decide) _) ?_
          rintro _ _ ⟨rfl, rfl⟩
          simp (dsimp := false) (implicitDefEqProofs := false) (maxSteps := 1000000) (disch := first | omega | assumption | (simp only [rL, Nat.reduceAdd]; done) | (simp only [rL, Nat.reduceAdd]; omega)) only [↓rD, rU, ev, ofConst, ofCell, ↓reduceIte, Nat.reduceEqDiff, Nat.reduceAdd, Nat.reduceSub, Nat.reduceMul, Nat.reduceLeDiff, Nat.reduceLT, Int.reduceNeg, Int.reduceToNat, Int.reduceAdd, Int.reduceSub, Int.reduceMul, Int.reduceLT, Int.reduceLE, Int.reduceEq, f2, f3, f5, hlt, e1, e2, e3, e4, hl, cellsW_at]
          refine call_intro (rotl_spec' _ _ 14 (by decide) (by decide) _) ?_
          rintro _ _ ⟨rfl, rfl⟩
          simp (dsimp := false) (implicitDefEqProofs := false) (maxSteps := 1000000) (disch := first | omega | assumption | (simp only [rL, Nat.reduceAdd]; done) | (simp only [rL, Nat.reduceAdd]; omega)) only [↓rD, rU, ev, ofConst, ofCell, ↓reduceIte, Nat.reduceEqDiff, Nat.reduceAdd, Nat.reduceSub, Nat.reduceMul, Nat.reduceLeDiff, Nat.reduceLT, Int.reduceNeg, Int.reduceToNat, Int.reduceAdd, Int.reduceSub, Int.reduceMul, Int.reduceLT, Int.reduceLE, Int.reduceEq, f2, f3, f5, hlt, e1, e2, e3, e4, hl, cellsW_at]
          refine call_intro (rotl_spec' _ _ 15 (by decide) (by decide) _) ?_
          rintro _ _ ⟨rfl, rfl⟩
          simp (dsimp := false) (implicitDefEqProofs := false) (maxSteps := 1000000) (disch := first | omega | assumption | (simp only [rL, Nat.reduceAdd]; done) | (simp only [rL, Nat.reduceAdd]; omega)) only [↓rD, rU, ev, ofConst, ofCell, ↓reduceIte, Nat.reduceEqDiff, Nat.reduceAdd, Nat.reduceSub, Nat.reduceMul, Nat.reduceLeDiff, Nat.reduceLT, Int.reduceNeg, Int.reduceToNat, Int.reduceAdd, Int.reduceSub, Int.reduceMul, Int.reduceLT, Int.reduceLE, Int.reduceEq, f2, f3, f5, hlt, e1, e2, e3, e4, hl, cellsW_at]
          refine call_intro (rotl_spec' _ _ 13 (by decide) (by decide) _) ?_
          rintro _ _ ⟨rfl, rfl⟩
          simp (dsimp := false) (implicitDefEqProofs := false) (maxSteps := 1000000) (disch := first | omega | assumption | (simp only [rL, Nat.reduceAdd]; done) | (simp only [rL, Nat.reduceAdd]; omega)) only [↓rD, rU, ev, ofConst, ofCell, ↓reduceIte, Nat.reduceEqDiff, Nat.reduceAdd, Nat.reduceSub, Nat.reduceMul, Nat.reduceLeDiff, Nat.reduceLT, Int.reduceNeg, Int.reduceToNat, Int.reduceAdd, Int.reduceSub, Int.reduceMul, Int.reduceLT, Int.reduceLE, Int.reduceEq, f2, f3, f5, hlt, e1, e2, e3, e4, hl, cellsW_at]
          rw [cellsW_put _ hw.symm (by omega)]
          refine ⟨⟨_, i + 1, by omega, by simp [hw]; omega, ?_, ?_, rfl⟩, by omega⟩
          · rw [← hg, show 48 - i = (48 - (i + 1)) + 1 by omega, grow, more, hw]
            rw [show 16 + i - 16 = i by omega, show 16 + i - 15 = i + 1 by omega, show 16 + i - 7 = i + 9 by omega, show 16 + i - 2 = i + 14 by omega]
            rfl
          · simp; omega
        · obtain rfl : i = 48 := by omega
          have hl : (cellsW w).length = 64 := cellsW_length (by omega)
          have ht : (cellsW w).take 64 = w.map fun x => .v (.int .u32 x.toNat) := by
            have : cellsW w = w.map fun x => .v (.int .u32 x.toNat) := by simp [cellsW, hw]
            rw [this]; exact List.take_of_length_le (by simp [hw])
          have hw' : w = sched bs := hg
          simp (dsimp := false) (implicitDefEqProofs := false) (maxSteps := 1000000) (disch := first | omega | assumption | (simp only [rL, Nat.reduceAdd]; done) | (simp only [rL, Nat.reduceAdd]; omega)) only [↓rD, rU, ev, ofConst, ofCell, ↓reduceIte, Nat.reduceEqDiff, Nat.reduceAdd, Nat.reduceSub, Nat.reduceMul, Nat.reduceLeDiff, Nat.reduceLT, Int.reduceNeg, Int.reduceToNat, Int.reduceAdd, Int.reduceSub, Int.reduceMul, Int.reduceLT, Int.reduceLE, Int.reduceEq, f2, f3, f5, hlt, hl, ht, hw]
          exact ⟨s, Hp.sub_new (Hp.sub_new Hp.sub_refl h2) h3, rfl, by rw [List.take_of_length_le (by simp [hw]), hw']⟩
end Go.Proofs.Ytapjikladjoicaa
set_option maxRecDepth 100000
namespace Go.Proofs.Ytapjikladjoicaa
open Go Go.Av

def wl (w : List UInt32) : List AV := w.map fun x => .v (.int .u32 x.toNat)
theorem wl_length {w : List UInt32} : (wl w).length = w.length := by simp [wl]
theorem wl_at {w : List UInt32} {i : Nat} (h : i < w.length) : mkv false 1 ((wl w).drop i) = .v (.int .u32 (w.getD i 0).toNat) := by
  simp only [mkv, wl]
  rw [← List.map_drop, List.drop_eq_getElem_cons h]
  simp [List.getD, h]
theorem wl_at0 {w : List UInt32} (h : 0 < w.length) : mkv false 1 (wl w) = .v (.int .u32 (w.getD 0 0).toNat) := wl_at (i := 0) h
theorem wl_put {w : List UInt32} {i : Nat} (x : UInt32) (h : i < w.length) : putAt (wl w) i [.v (.int .u32 x.toNat)] = wl (w.set i x) := by
  simp only [putAt, wl, List.length_cons, List.length_nil, ← List.map_take, ← List.map_drop]
  rw [List.set_eq_take_append_cons_drop, if_pos h]; simp

def K256 : List UInt32 := [
  0x428a2f98, 0x71374491, 0xb5c0fbcf, 0xe9b5dba5, 0x3956c25b, 0x59f111f1, 0x923f82a4, 0xab1c5ed5,
  0xd807aa98, 0x12835b01, 0x243185be, 0x550c7dc3, 0x72be5d74, 0x80deb1fe, 0x9bdc06a7, 0xc19bf174,
  0xe49b69c1, 0xefbe4786, 0x0fc19dc6, 0x240ca1cc, 0x2de92c6f, 0x4a7484aa, 0x5cb0a9dc, 0x76f988da,
  0x983e5152, 0xa831c66d, 0xb00327c8, 0xbf597fc7, 0xc6e00bf3, 0xd5a79147, 0x06ca6351, 0x14292967,
  0x27b70a85, 0x2e1b2138, 0x4d2c6dfc, 0x53380d13, 0x650a7354, 0x766a0abb, 0x81c2c92e, 0x92722c85,
  0xa2bfe8a1, 0xa81a664b, 0xc24b8b70, 0xc76c51a3, 0xd192e819, 0xd6990624, 0xf40e3585, 0x106aa070,
  0x19a4c116, 0x1e376c08, 0x2748774c, 0x34b0bcb5, 0x391c0cb3, 0x4ed8aa4a, 0x5b9cca4f, 0x682e6ff3,
  0x748f82ee, 0x78a5636f, 0x84c87814, 0x8cc70208, 0x90befffa, 0xa4506ceb, 0xbef9a3f7, 0xc67178f2]
def H256 : List UInt32 := [0x6a09e667, 0xbb67ae85, 0x3c6ef372, 0xa54ff53a, 0x510e527f, 0x9b05688c, 0x1f83d9ab, 0x5be0cd19]

theorem bldK_all {f : Fr} {C : List AV → Prop} : ∀ (parts : List (Nat × Nat × Operand)) (cells out : List AV), (∀ (g : Nat), parts.map (fun p => ev f p.2.2) = out → True) → True := fun _ _ _ _ => trivial

theorem begin_spec (s : Hp) : AC Try.prog 77 [] s fun r s' => s' = s ∧ r = .agg (wl H256) := by
  refine AC_run hm prep77 (by simp) ?_
  simp (dsimp := false) (implicitDefEqProofs := false) (maxSteps := 1000000) (disch := first | omega | assumption | (simp only [rL, Nat.reduceAdd]; done) | (simp only [rL, Nat.reduceAdd]; omega)) only [↓rD, rU, ev, ofConst, ofCell, ↓reduceIte, Nat.reduceEqDiff, Nat.reduceAdd, Nat.reduceSub, Nat.reduceMul, Nat.reduceLeDiff, Nat.reduceLT, Int.reduceNeg, Int.reduceToNat, Int.reduceAdd, Int.reduceSub, Int.reduceMul, Int.reduceLT, Int.reduceLE, Int.reduceEq]
  refine newK_intro fun l h => ?_
  simp (dsimp := false) (implicitDefEqProofs := false) (maxSteps := 1000000) (disch := first | omega | assumption | (simp only [rL, Nat.reduceAdd]; done) | (simp only [rL, Nat.reduceAdd]; omega)) only [↓rD, rU, ev, ofConst, ofCell, ↓reduceIte, Nat.reduceEqDiff, Nat.reduceAdd, Nat.reduceSub, Nat.reduceMul, Nat.reduceLeDiff, Nat.reduceLT, Int.reduceNeg, Int.reduceToNat, Int.reduceAdd, Int.reduceSub, Int.reduceMul, Int.reduceLT, Int.reduceLE, Int.reduceEq, putAt, List.take, List.drop, List.replicate, List.cons_append, List.nil_append]
  exact ⟨s, Hp.sub_new Hp.sub_refl h, rfl, rfl⟩

theorem rounds_spec (s : Hp) : AC Try.prog 90 [] s fun r s' => s' = s ∧ r = .agg (wl K256) := by
  refine AC_run hm prep90 (by simp) ?_
  simp (dsimp := false) (implicitDefEqProofs := false) (maxSteps := 1000000) (disch := first | omega | assumption | (simp only [rL, Nat.reduceAdd]; done) | (simp only [rL, Nat.reduceAdd]; omega)) only [↓rD, rU, ev, ofConst, ofCell, ↓reduceIte, Nat.reduceEqDiff, Nat.reduceAdd, Nat.reduceSub, Nat.reduceMul, Nat.reduceLeDiff, Nat.reduceLT, Int.reduceNeg, Int.reduceToNat, Int.reduceAdd, Int.reduceSub, Int.reduceMul, Int.reduceLT, Int.reduceLE, Int.reduceEq]
  refine newK_intro fun l h => ?_
  simp (dsimp := false) (implicitDefEqProofs := false) (maxSteps := 1000000) (disch := first | omega | assumption | (simp only [rL, Nat.reduceAdd]; done) | (simp only [rL, Nat.reduceAdd]; omega)) only [↓rD, rU, ev, ofConst, ofCell, ↓reduceIte, Nat.reduceEqDiff, Nat.reduceAdd, Nat.reduceSub, Nat.reduceMul, Nat.reduceLeDiff, Nat.reduceLT, Int.reduceNeg, Int.reduceToNat, Int.reduceAdd, Int.reduceSub, Int.reduceMul, Int.reduceLT, Int.reduceLE, Int.reduceEq, putAt, List.take, List.drop, List.replicate, List.cons_append, List.nil_append]
  exact ⟨s, Hp.sub_new Hp.sub_refl h, rfl, rfl⟩
end Go.Proofs.Ytapjikladjoicaa
set_option maxRecDepth 100000
namespace Go.Proofs.Ytapjikladjoicaa
open Go Go.Av

def rnd (k w : UInt32) : List UInt32 → List UInt32
  | [a, b, c, d, e, f, g, h] =>
    let one := h + (rotl e 26 ^^^ rotl e 21 ^^^ rotl e 7) + (e &&& f ^^^ ~~~e &&& g) + k + w
    let two := (rotl a 30 ^^^ rotl a 19 ^^^ rotl a 10) + (a &&& b ^^^ a &&& c ^^^ b &&& c)
    [one + two, a, b, c, d + one, e, f, g]
  | l => l
def goR : List UInt32 → List UInt32 → List UInt32 → List UInt32
  | k :: ks, w :: ws, v => goR ks ws (rnd k w v)
  | _, _, v => v
def comp (h : List UInt32) (bs : List UInt8) : List UInt32 := List.zipWith (· + ·) (goR K256 (sched bs) h) h

def addTo (i : Nat) (v h : List UInt32) : List UInt32 := List.zipWith (· + ·) (v.take i) (h.take i) ++ v.drop i

theorem grow_length : ∀ (n : Nat) (w : List UInt32), (grow n w).length = w.length + n
  | 0, w => rfl
  | n + 1, w => by rw [grow, grow_length n, more]; simp; omega
theorem sched_length (bs : List UInt8) : (sched bs).length = 64 := by simp [sched, grow_length, first]

theorem sched_spec' (bs : List UInt8) (o : Own) (h : bs.length = 64) (s : Hp) : AC Try.prog 89 [.sl (bs.map byteAV) o] s fun r s' => s' = s ∧ r = .agg (wl (sched bs)) := sched_spec bs o h s

theorem addTo_put (v h : List UInt32) (hv : v.length = 8) (hh : h.length = 8) (i : Nat) (hi : i < 8) :
    (addTo i v h).length = 8 ∧ (addTo i v h).set i ((addTo i v h).getD i 0 + h.getD i 0) = addTo (i + 1) v h := by
  match v, hv, h, hh with
  | [a, b, c, d, e, f, g, k], _, [p, q, r, t, u, w, x, y], _ =>
    rcases (by omega : i = 0 ∨ i = 1 ∨ i = 2 ∨ i = 3 ∨ i = 4 ∨ i = 5 ∨ i = 6 ∨ i = 7) with rfl | rfl | rfl | rfl | rfl | rfl | rfl | rfl <;> exact ⟨rfl, rfl⟩

theorem rnd_length (k w : UInt32) (v : List UInt32) (h : v.length = 8) : (rnd k w v).length = 8 := by
  match v, h with
  | [a, b, c, d, e, f, g, k], _ => rfl
theorem goR_length : ∀ (ks ws v : List UInt32), v.length = 8 → (goR ks ws v).length = 8
  | [], _, v, h => by simpa [goR] using h
  | _ :: _, [], v, h => by simpa [goR] using h
  | k :: ks, w :: ws, v, h => by rw [goR]; exact goR_length ks ws _ (rnd_length k w v h)
theorem goR_drop (ks ws v : List UInt32) (i : Nat) (h : i < ks.length) (h2 : i < ws.length) : goR (ks.drop i) (ws.drop i) v = goR (ks.drop (i + 1)) (ws.drop (i + 1)) (rnd (ks.getD i 0) (ws.getD i 0) v) := by
  rw [List.drop_eq_getElem_cons h, List.drop_eq_getElem_cons h2, goR]; simp [List.getD, h, h2]

theorem turn_aux (h K S : List UInt32) (bs : List UInt8) (o : Own) (hh : h.length = 8) (hK64 : K.length = 64) (hS64 : S.length = 64)
    (hrs : ∀ s, AC Try.prog 90 [] s fun r s' => s' = s ∧ r = .agg (wl K))
    (hss : ∀ s, AC Try.prog 89 [.sl (bs.map byteAV) o] s fun r s' => s' = s ∧ r = .agg (wl S)) (s : Hp) :
    AC Try.prog 78 [.agg (wl h), .sl (bs.map byteAV) o] s fun r s' => s' = s ∧ r = .agg (wl (List.zipWith (· + ·) (goR K S h) h)) := by
  refine AC_run hm prep78 (by simp) ?_
  have hwl : (wl h).length = 8 := by rw [wl_length, hh]
  have hKl : (wl K).length = 64 := by rw [wl_length, hK64]
  have hSl : (wl S).length = 64 := by rw [wl_length, hS64]
  simp (dsimp := false) (implicitDefEqProofs := false) (maxSteps := 1000000) (disch := first | omega | assumption | (simp only [rL, Nat.reduceAdd]; done) | (simp only [rL, Nat.reduceAdd]; omega)) only [↓rD, rU, ev, ofConst, ofCell, ↓reduceIte, Nat.reduceEqDiff, Nat.reduceAdd, Nat.reduceSub, Nat.reduceMul, Nat.reduceLeDiff, Nat.reduceLT, Int.reduceNeg, Int.reduceToNat, Int.reduceAdd, Int.reduceSub, Int.reduceMul, Int.reduceLT, Int.reduceLE, Int.reduceEq, hwl]
  refine newK_intro fun l2 n2 => ?_
  simp (dsimp := false) (implicitDefEqProofs := false) (maxSteps := 1000000) (disch := first | omega | assumption | (simp only [rL, Nat.reduceAdd]; done) | (simp only [rL, Nat.reduceAdd]; omega)) only [↓rD, rU, ev, ofConst, ofCell, ↓reduceIte, Nat.reduceEqDiff, Nat.reduceAdd, Nat.reduceSub, Nat.reduceMul, Nat.reduceLeDiff, Nat.reduceLT, Int.reduceNeg, Int.reduceToNat, Int.reduceAdd, Int.reduceSub, Int.reduceMul, Int.reduceLT, Int.reduceLE, Int.reduceEq, hwl]
  refine newK_intro fun l4 n4 => ?_
  obtain ⟨d42, n4⟩ := Hp.set_none n4
  simp (dsimp := false) (implicitDefEqProofs := false) (maxSteps := 1000000) (disch := first | omega | assumption | (simp only [rL, Nat.reduceAdd]; done) | (simp only [rL, Nat.reduceAdd]; omega)) only [↓rD, rU, ev, ofConst, ofCell, ↓reduceIte, Nat.reduceEqDiff, Nat.reduceAdd, Nat.reduceSub, Nat.reduceMul, Nat.reduceLeDiff, Nat.reduceLT, Int.reduceNeg, Int.reduceToNat, Int.reduceAdd, Int.reduceSub, Int.reduceMul, Int.reduceLT, Int.reduceLE, Int.reduceEq, hwl]
  refine call_intro (hss _) ?_
  rintro _ _ ⟨rfl, rfl⟩
  simp (dsimp := false) (implicitDefEqProofs := false) (maxSteps := 1000000) (disch := first | omega | assumption | (simp only [rL, Nat.reduceAdd]; done) | (simp only [rL, Nat.reduceAdd]; omega)) only [↓rD, rU, ev, ofConst, ofCell, ↓reduceIte, Nat.reduceEqDiff, Nat.reduceAdd, Nat.reduceSub, Nat.reduceMul, Nat.reduceLeDiff, Nat.reduceLT, Int.reduceNeg, Int.reduceToNat, Int.reduceAdd, Int.reduceSub, Int.reduceMul, Int.reduceLT, Int.reduceLE, Int.reduceEq, hwl]
  refine call_intro (hrs _) ?_
  rintro _ _ ⟨rfl, rfl⟩
  simp (dsimp := false) (implicitDefEqProofs := false) (maxSteps := 1000000) (disch := first | omega | assumption | (simp only [rL, Nat.reduceAdd]; done) | (simp only [rL, Nat.reduceAdd]; omega)) only [↓rD, rU, ev, ofConst, ofCell, ↓reduceIte, Nat.reduceEqDiff, Nat.reduceAdd, Nat.reduceSub, Nat.reduceMul, Nat.reduceLeDiff, Nat.reduceLT, Int.reduceNeg, Int.reduceToNat, Int.reduceAdd, Int.reduceSub, Int.reduceMul, Int.reduceLT, Int.reduceLE, Int.reduceEq, hwl]
  refine newK_intro fun l5 n5 => ?_
  obtain ⟨d54, n5⟩ := Hp.set_none n5
  obtain ⟨d52, n5⟩ := Hp.set_none n5
  simp (dsimp := false) (implicitDefEqProofs := false) (maxSteps := 1000000) (disch := first | omega | assumption | (simp only [rL, Nat.reduceAdd]; done) | (simp only [rL, Nat.reduceAdd]; omega)) only [↓rD, rU, ev, ofConst, ofCell, ↓reduceIte, Nat.reduceEqDiff, Nat.reduceAdd, Nat.reduceSub, Nat.reduceMul, Nat.reduceLeDiff, Nat.reduceLT, Int.reduceNeg, Int.reduceToNat, Int.reduceAdd, Int.reduceSub, Int.reduceMul, Int.reduceLT, Int.reduceLE, Int.reduceEq, hwl]
  refine newK_intro fun l6 n6 => ?_
  obtain ⟨d65, n6⟩ := Hp.set_none n6
  obtain ⟨d64, n6⟩ := Hp.set_none n6
  obtain ⟨d62, n6⟩ := Hp.set_none n6
  simp (dsimp := false) (implicitDefEqProofs := false) (maxSteps := 1000000) (disch := first | omega | assumption | (simp only [rL, Nat.reduceAdd]; done) | (simp only [rL, Nat.reduceAdd]; omega)) only [↓rD, rU, ev, ofConst, ofCell, ↓reduceIte, Nat.reduceEqDiff, Nat.reduceAdd, Nat.reduceSub, Nat.reduceMul, Nat.reduceLeDiff, Nat.reduceLT, Int.reduceNeg, Int.reduceToNat, Int.reduceAdd, Int.reduceSub, Int.reduceMul, Int.reduceLT, Int.reduceLE, Int.reduceEq, hwl]
  refine newK_intro fun l7 n7 => ?_
  obtain ⟨d76, n7⟩ := Hp.set_none n7
  obtain ⟨d75, n7⟩ := Hp.set_none n7
  obtain ⟨d74, n7⟩ := Hp.set_none n7
  obtain ⟨d72, n7⟩ := Hp.set_none n7
  simp (dsimp := false) (implicitDefEqProofs := false) (maxSteps := 1000000) (disch := first | omega | assumption | (simp only [rL, Nat.reduceAdd]; done) | (simp only [rL, Nat.reduceAdd]; omega)) only [↓rD, rU, ev, ofConst, ofCell, ↓reduceIte, Nat.reduceEqDiff, Nat.reduceAdd, Nat.reduceSub, Nat.reduceMul, Nat.reduceLeDiff, Nat.reduceLT, Int.reduceNeg, Int.reduceToNat, Int.reduceAdd, Int.reduceSub, Int.reduceMul, Int.reduceLT, Int.reduceLE, Int.reduceEq, hwl, hKl, hSl, List.take_of_length_le]
  refine loop_intro (fun f s' => ∃ (i : Nat) (v : List UInt32), i ≤ 64 ∧ v.length = 8 ∧ goR (K.drop i) (S.drop i) v = goR K S h ∧ f 2 = .ptr l2 0 ∧ f 4 = .ptr l4 0 ∧ f 5 = .ptr l5 0 ∧ f 6 = .ptr l6 0 ∧ f 7 = .ptr l7 0 ∧ f 18 = .v (.int .i64 i) ∧
      s' = (((((s.set l2 (.cells (wl h))).set l4 (.cells (List.replicate 8 (.v (.int .u32 0))))).set l5 (.cells (wl S))).set l6 (.cells (wl K))).set l7 (.cells (wl v))))
    (fun f _ => match f 18 with | .v (.int _ n) => (64 - n).toNat | _ => 0) ⟨0, h, by omega, hh, rfl, ?_⟩ ?_
  · simp (dsimp := false) (implicitDefEqProofs := false) (maxSteps := 1000000) (disch := first | omega | assumption | (simp only [rL, Nat.reduceAdd]; done) | (simp only [rL, Nat.reduceAdd]; omega)) only [↓rD, rU, ev, ofConst, ofCell, ↓reduceIte, Nat.reduceEqDiff, Nat.reduceAdd, Nat.reduceSub, Nat.reduceMul, Nat.reduceLeDiff, Nat.reduceLT, Int.reduceNeg, Int.reduceToNat, Int.reduceAdd, Int.reduceSub, Int.reduceMul, Int.reduceLT, Int.reduceLE, Int.reduceEq]
    trivial
  · rintro f s' ⟨i, v, hi, hv, hg, f2, f4, f5, f6, f7, f18, rfl⟩
    have hvl : (wl v).length = 8 := by rw [wl_length, hv]
    by_cases hlt : (i : Int) < 64
    · obtain ⟨a, b, c, d, e, f', g, k', rfl⟩ : ∃ a b c d e f' g k', v = [a, b, c, d, e, f', g, k'] := by
        match v, hv with
        | [a, b, c, d, e, f', g, k'], _ => exact ⟨a, b, c, d, e, f', g, k', rfl⟩
      simp (dsimp := false) (implicitDefEqProofs := false) (maxSteps := 1000000) (disch := first | omega | assumption | (simp only [rL, Nat.reduceAdd]; done) | (simp only [rL, Nat.reduceAdd]; omega)) only [↓rD, rU, ev, ofConst, ofCell, ↓reduceIte, Nat.reduceEqDiff, Nat.reduceAdd, Nat.reduceSub, Nat.reduceMul, Nat.reduceLeDiff, Nat.reduceLT, Int.reduceNeg, Int.reduceToNat, Int.reduceAdd, Int.reduceSub, Int.reduceMul, Int.reduceLT, Int.reduceLE, Int.reduceEq, f2, f4, f5, f6, f7, f18, hlt, hvl, hKl, hSl, wl_at, wl_at0, List.getD_cons_zero, List.getD_cons_succ]
      refine call_intro (rotl_spec' _ _ 26 (by decide) (by decide) _) ?_
      rintro _ _ ⟨rfl, rfl⟩
      simp (dsimp := false) (implicitDefEqProofs := false) (maxSteps := 1000000) (disch := first | omega | assumption | (simp only [rL, Nat.reduceAdd]; done) | (simp only [rL, Nat.reduceAdd]; omega)) only [↓rD, rU, ev, ofConst, ofCell, ↓reduceIte, Nat.reduceEqDiff, Nat.reduceAdd, Nat.reduceSub, Nat.reduceMul, Nat.reduceLeDiff, Nat.reduceLT, Int.reduceNeg, Int.reduceToNat, Int.reduceAdd, Int.reduceSub, Int.reduceMul, Int.reduceLT, Int.reduceLE, Int.reduceEq, f2, f4, f5, f6, f7, f18, hlt, hvl, hKl, hSl, wl_at, wl_at0, List.getD_cons_zero, List.getD_cons_succ]
      refine call_intro (rotl_spec' _ _ 21 (by decide) (by decide) _) ?_
      rintro _ _ ⟨rfl, rfl⟩
      simp (dsimp := false) (implicitDefEqProofs := false) (maxSteps := 1000000) (disch := first | omega | assumption | (simp only [rL, Nat.reduceAdd]; done) | (simp only [rL, Nat.reduceAdd]; omega)) only [↓rD, rU, ev, ofConst, ofCell, ↓reduceIte, Nat.reduceEqDiff, Nat.reduceAdd, Nat.reduceSub, Nat.reduceMul, Nat.reduceLeDiff, Nat.reduceLT, Int.reduceNeg, Int.reduceToNat, Int.reduceAdd, Int.reduceSub, Int.reduceMul, Int.reduceLT, Int.reduceLE, Int.reduceEq, f2, f4, f5, f6, f7, f18, hlt, hvl, hKl, hSl, wl_at, wl_at0, List.getD_cons_zero, List.getD_cons_succ]
      refine call_intro (rotl_spec' _ _ 7 (by decide) (by decide) _) ?_
      rintro _ _ ⟨rfl, rfl⟩
      simp (dsimp := false) (implicitDefEqProofs := false) (maxSteps := 1000000) (disch := first | omega | assumption | (simp only [rL, Nat.reduceAdd]; done) | (simp only [rL, Nat.reduceAdd]; omega)) only [↓rD, rU, ev, ofConst, ofCell, ↓reduceIte, Nat.reduceEqDiff, Nat.reduceAdd, Nat.reduceSub, Nat.reduceMul, Nat.reduceLeDiff, Nat.reduceLT, Int.reduceNeg, Int.reduceToNat, Int.reduceAdd, Int.reduceSub, Int.reduceMul, Int.reduceLT, Int.reduceLE, Int.reduceEq, f2, f4, f5, f6, f7, f18, hlt, hvl, hKl, hSl, wl_at, wl_at0, List.getD_cons_zero, List.getD_cons_succ]
      refine call_intro (rotl_spec' _ _ 30 (by decide) (by decide) _) ?_
      rintro _ _ ⟨rfl, rfl⟩
      simp (dsimp := false) (implicitDefEqProofs := false) (maxSteps := 1000000) (disch := first | omega | assumption | (simp only [rL, Nat.reduceAdd]; done) | (simp only [rL, Nat.reduceAdd]; omega)) only [↓rD, rU, ev, ofConst, ofCell, ↓reduceIte, Nat.reduceEqDiff, Nat.reduceAdd, Nat.reduceSub, Nat.reduceMul, Nat.reduceLeDiff, Nat.reduceLT, Int.reduceNeg, Int.reduceToNat, Int.reduceAdd, Int.reduceSub, Int.reduceMul, Int.reduceLT, Int.reduceLE, Int.reduceEq, f2, f4, f5, f6, f7, f18, hlt, hvl, hKl, hSl, wl_at, wl_at0, List.getD_cons_zero, List.getD_cons_succ]
      refine call_intro (rotl_spec' _ _ 19 (by decide) (by decide) _) ?_
      rintro _ _ ⟨rfl, rfl⟩
      simp (dsimp := false) (implicitDefEqProofs := false) (maxSteps := 1000000) (disch := first | omega | assumption | (simp only [rL, Nat.reduceAdd]; done) | (simp only [rL, Nat.reduceAdd]; omega)) only [↓rD, rU, ev, ofConst, ofCell, ↓reduceIte, Nat.reduceEqDiff, Nat.reduceAdd, Nat.reduceSub, Nat.reduceMul, Nat.reduceLeDiff, Nat.reduceLT, Int.reduceNeg, Int.reduceToNat, Int.reduceAdd, Int.reduceSub, Int.reduceMul, Int.reduceLT, Int.reduceLE, Int.reduceEq, f2, f4, f5, f6, f7, f18, hlt, hvl, hKl, hSl, wl_at, wl_at0, List.getD_cons_zero, List.getD_cons_succ]
      refine call_intro (rotl_spec' _ _ 10 (by decide) (by decide) _) ?_
      rintro _ _ ⟨rfl, rfl⟩
      simp (dsimp := false) (implicitDefEqProofs := false) (maxSteps := 1000000) (disch := first | omega | assumption | (simp only [rL, Nat.reduceAdd]; done) | (simp only [rL, Nat.reduceAdd]; omega)) only [↓rD, rU, ev, ofConst, ofCell, ↓reduceIte, Nat.reduceEqDiff, Nat.reduceAdd, Nat.reduceSub, Nat.reduceMul, Nat.reduceLeDiff, Nat.reduceLT, Int.reduceNeg, Int.reduceToNat, Int.reduceAdd, Int.reduceSub, Int.reduceMul, Int.reduceLT, Int.reduceLE, Int.reduceEq, f2, f4, f5, f6, f7, f18, hlt, hvl, hKl, hSl, wl_at, wl_at0, List.getD_cons_zero, List.getD_cons_succ, putAt, List.take, List.drop, List.replicate, List.cons_append, List.nil_append]
      refine ⟨⟨i + 1, rnd (K.getD i 0) (S.getD i 0) [a, b, c, d, e, f', g, k'], by omega, rfl, ?_, by simp, rfl⟩, by omega⟩
      rw [← hg, goR_drop K S _ i (by omega) (by omega)]
    · obtain rfl : i = 64 := by omega
      have hv' : goR K S h = v := by
        rw [← hg, List.drop_of_length_le (by omega)]; rfl
      simp (dsimp := false) (implicitDefEqProofs := false) (maxSteps := 1000000) (disch := first | omega | assumption | (simp only [rL, Nat.reduceAdd]; done) | (simp only [rL, Nat.reduceAdd]; omega)) only [↓rD, rU, ev, ofConst, ofCell, ↓reduceIte, Nat.reduceEqDiff, Nat.reduceAdd, Nat.reduceSub, Nat.reduceMul, Nat.reduceLeDiff, Nat.reduceLT, Int.reduceNeg, Int.reduceToNat, Int.reduceAdd, Int.reduceSub, Int.reduceMul, Int.reduceLT, Int.reduceLE, Int.reduceEq, f2, f4, f5, f6, f7, f18, hlt, hvl, hKl, hSl]
      refine loop_intro (fun f s' => ∃ i : Nat, i ≤ 8 ∧ f 2 = .ptr l2 0 ∧ f 4 = .ptr l4 0 ∧ f 7 = .ptr l7 0 ∧ f 108 = .v (.int .i64 i) ∧
          s' = (((((s.set l2 (.cells (wl h))).set l4 (.cells (List.replicate 8 (.v (.int .u32 0))))).set l5 (.cells (wl S))).set l6 (.cells (wl K))).set l7 (.cells (wl (addTo i v h)))))
        (fun f _ => match f 108 with | .v (.int _ n) => (8 - n).toNat | _ => 0) ⟨0, by omega, ?_⟩ ?_
      · simp (dsimp := false) (implicitDefEqProofs := false) (maxSteps := 1000000) (disch := first | omega | assumption | (simp only [rL, Nat.reduceAdd]; done) | (simp only [rL, Nat.reduceAdd]; omega)) only [↓rD, rU, ev, ofConst, ofCell, ↓reduceIte, Nat.reduceEqDiff, Nat.reduceAdd, Nat.reduceSub, Nat.reduceMul, Nat.reduceLeDiff, Nat.reduceLT, Int.reduceNeg, Int.reduceToNat, Int.reduceAdd, Int.reduceSub, Int.reduceMul, Int.reduceLT, Int.reduceLE, Int.reduceEq, f2, f4, f7]
        exact ⟨rfl, rfl⟩
      · rintro f s' ⟨i, hi, f2, f4, f7, f108, rfl⟩
        by_cases hlt : (i : Int) < 8
        · obtain ⟨ha, hb⟩ := addTo_put v h hv hh i (by omega)
          have hal : (wl (addTo i v h)).length = 8 := by rw [wl_length, ha]
          simp (dsimp := false) (implicitDefEqProofs := false) (maxSteps := 1000000) (disch := first | omega | assumption | (simp only [rL, Nat.reduceAdd]; done) | (simp only [rL, Nat.reduceAdd]; omega)) only [↓rD, rU, ev, ofConst, ofCell, ↓reduceIte, Nat.reduceEqDiff, Nat.reduceAdd, Nat.reduceSub, Nat.reduceMul, Nat.reduceLeDiff, Nat.reduceLT, Int.reduceNeg, Int.reduceToNat, Int.reduceAdd, Int.reduceSub, Int.reduceMul, Int.reduceLT, Int.reduceLE, Int.reduceEq, f2, f4, f7, f108, hlt, hwl, hal, wl_at, wl_put, hb]
          exact ⟨⟨i + 1, by omega, by simp, rfl⟩, by omega⟩
        · obtain rfl : i = 8 := by omega
          have hz : addTo 8 v h = List.zipWith (· + ·) v h := by
            simp only [addTo]; rw [List.take_of_length_le (by omega), List.take_of_length_le (by omega), List.drop_of_length_le (by omega), List.append_nil]
          have hzl : (wl (List.zipWith (· + ·) v h)).length = 8 := by rw [wl_length]; simp; omega
          rw [hz]
          simp (dsimp := false) (implicitDefEqProofs := false) (maxSteps := 1000000) (disch := first | omega | assumption | (simp only [rL, Nat.reduceAdd]; done) | (simp only [rL, Nat.reduceAdd]; omega)) only [↓rD, rU, ev, ofConst, ofCell, ↓reduceIte, Nat.reduceEqDiff, Nat.reduceAdd, Nat.reduceSub, Nat.reduceMul, Nat.reduceLeDiff, Nat.reduceLT, Int.reduceNeg, Int.reduceToNat, Int.reduceAdd, Int.reduceSub, Int.reduceMul, Int.reduceLT, Int.reduceLE, Int.reduceEq, f2, f4, f7, f108, hlt, hzl, List.take_of_length_le]
          refine ⟨s, ?_, rfl, by rw [hv']⟩
          exact Hp.sub_new (Hp.sub_new (Hp.sub_new (Hp.sub_new (Hp.sub_new Hp.sub_refl n2) n4) n5) n6) n7

theorem turn_spec (h : List UInt32) (bs : List UInt8) (o : Own) (hh : h.length = 8) (hb : bs.length = 64) (s : Hp) :
    AC Try.prog 78 [.agg (wl h), .sl (bs.map byteAV) o] s fun r s' => s' = s ∧ r = .agg (wl (comp h bs)) :=
  turn_aux h K256 (sched bs) bs o hh rfl (sched_length bs) rounds_spec (sched_spec' bs o hb) s
theorem comp_length (h : List UInt32) (bs : List UInt8) (hh : h.length = 8) : (comp h bs).length = 8 := by
  simp [comp, goR_length _ _ _ hh, hh]
end Go.Proofs.Ytapjikladjoicaa
set_option maxRecDepth 100000
namespace Go.Proofs.Ytapjikladjoicaa
open Go Go.Av

def bytes (bs : List UInt8) (o : Own) : AV := .sl (bs.map byteAV) o

def eightB (n : Nat) : List UInt8 := [UInt8.ofNat (n >>> 56), UInt8.ofNat (n >>> 48), UInt8.ofNat (n >>> 40), UInt8.ofNat (n >>> 32), UInt8.ofNat (n >>> 24), UInt8.ofNat (n >>> 16), UInt8.ofNat (n >>> 8), UInt8.ofNat (n >>> 0)]

theorem eight_spec (n : Nat) (s : Hp) : AC Try.prog 79 [.v (.int .u64 n)] s fun r s' => ∃ o, Owned s s' 1 ((eightB n).map byteAV) o ∧ r = .sl ((eightB n).map byteAV) o := by
  refine AC_run hm prep79 (by simp) ?_
  simp (dsimp := false) (implicitDefEqProofs := false) (maxSteps := 1000000) (disch := first | omega | assumption | (simp only [rL, Nat.reduceAdd]; done) | (simp only [rL, Nat.reduceAdd]; omega)) only [↓rD, rU, ev, ofConst, ofCell, ↓reduceIte, Nat.reduceEqDiff, Nat.reduceAdd, Nat.reduceSub, Nat.reduceMul, Nat.reduceLeDiff, Nat.reduceLT, Int.reduceNeg, Int.reduceToNat, Int.reduceAdd, Int.reduceSub, Int.reduceMul, Int.reduceLT, Int.reduceLE, Int.reduceEq]
  refine loop_intro (fun f s' => ∃ (j : Nat) (o : Own), j ≤ 8 ∧ Owned s s' 1 (((eightB n).take j).map byteAV) o ∧ f 0 = .v (.int .u64 n) ∧ f 3 = .sl (((eightB n).take j).map byteAV) o ∧ f 4 = .v (.int .i64 (56 - 8 * (j : Int))))
    (fun f _ => match f 4 with | .v (.int _ n) => (n + 8).toNat | _ => 0) ⟨0, .nil, by omega, Owned.nilB Hp.sub_refl, ?_⟩ ?_
  · simp (dsimp := false) (implicitDefEqProofs := false) (maxSteps := 1000000) (disch := first | omega | assumption | (simp only [rL, Nat.reduceAdd]; done) | (simp only [rL, Nat.reduceAdd]; omega)) only [↓rD, rU, ev, ofConst, ofCell, ↓reduceIte, Nat.reduceEqDiff, Nat.reduceAdd, Nat.reduceSub, Nat.reduceMul, Nat.reduceLeDiff, Nat.reduceLT, Int.reduceNeg, Int.reduceToNat, Int.reduceAdd, Int.reduceSub, Int.reduceMul, Int.reduceLT, Int.reduceLE, Int.reduceEq]
    exact ⟨rfl, rfl⟩
  · rintro f s' ⟨j, o, hj, ho, f0, f3, f4⟩
    by_cases hlt : (0 : Int) ≤ 56 - 8 * (j : Int)
    · simp (dsimp := false) (implicitDefEqProofs := false) (maxSteps := 1000000) (disch := first | omega | assumption | (simp only [rL, Nat.reduceAdd]; done) | (simp only [rL, Nat.reduceAdd]; omega)) only [↓rD, rU, ev, ofConst, ofCell, ↓reduceIte, Nat.reduceEqDiff, Nat.reduceAdd, Nat.reduceSub, Nat.reduceMul, Nat.reduceLeDiff, Nat.reduceLT, Int.reduceNeg, Int.reduceToNat, Int.reduceAdd, Int.reduceSub, Int.reduceMul, Int.reduceLT, Int.reduceLE, Int.reduceEq, f0, f3, f4, hlt, wrap_u8_nat]
      refine bsl_byte Hp.sub_refl fun o' s1 h1 => ?_
      simp (dsimp := false) (implicitDefEqProofs := false) (maxSteps := 1000000) (disch := first | omega | assumption | (simp only [rL, Nat.reduceAdd]; done) | (simp only [rL, Nat.reduceAdd]; omega)) only [↓rD, rU, ev, ofConst, ofCell, ↓reduceIte, Nat.reduceEqDiff, Nat.reduceAdd, Nat.reduceSub, Nat.reduceMul, Nat.reduceLeDiff, Nat.reduceLT, Int.reduceNeg, Int.reduceToNat, Int.reduceAdd, Int.reduceSub, Int.reduceMul, Int.reduceLT, Int.reduceLE, Int.reduceEq, f0, f3, f4, hlt]
      refine app_byte1 (ho.mono h1.sub) (by simp [eightB]; omega) fun o2 s2 h2 => ?_
      simp (dsimp := false) (implicitDefEqProofs := false) (maxSteps := 1000000) (disch := first | omega | assumption | (simp only [rL, Nat.reduceAdd]; done) | (simp only [rL, Nat.reduceAdd]; omega)) only [↓rD, rU, ev, ofConst, ofCell, ↓reduceIte, Nat.reduceEqDiff, Nat.reduceAdd, Nat.reduceSub, Nat.reduceMul, Nat.reduceLeDiff, Nat.reduceLT, Int.reduceNeg, Int.reduceToNat, Int.reduceAdd, Int.reduceSub, Int.reduceMul, Int.reduceLT, Int.reduceLE, Int.reduceEq, f0, f3, f4, hlt]
      refine ⟨⟨j + 1, o2, by omega, ?_, ?_⟩, by omega⟩
      · have e : (eightB n).take (j + 1) = (eightB n).take j ++ [UInt8.ofNat (n >>> (56 - 8 * (j : Int)).toNat)] := by
          rcases (by omega : j = 0 ∨ j = 1 ∨ j = 2 ∨ j = 3 ∨ j = 4 ∨ j = 5 ∨ j = 6 ∨ j = 7) with rfl | rfl | rfl | rfl | rfl | rfl | rfl | rfl <;> rfl
        rw [e]; exact h2
      · have e : (eightB n).take (j + 1) = (eightB n).take j ++ [UInt8.ofNat (n >>> (56 - 8 * (j : Int)).toNat)] := by
          rcases (by omega : j = 0 ∨ j = 1 ∨ j = 2 ∨ j = 3 ∨ j = 4 ∨ j = 5 ∨ j = 6 ∨ j = 7) with rfl | rfl | rfl | rfl | rfl | rfl | rfl | rfl <;> rfl
        refine ⟨by rw [e], by simp; omega⟩
    · obtain rfl : j = 8 := by omega
      simp (dsimp := false) (implicitDefEqProofs := false) (maxSteps := 1000000) (disch := first | omega | assumption | (simp only [rL, Nat.reduceAdd]; done) | (simp only [rL, Nat.reduceAdd]; omega)) only [↓rD, rU, ev, ofConst, ofCell, ↓reduceIte, Nat.reduceEqDiff, Nat.reduceAdd, Nat.reduceSub, Nat.reduceMul, Nat.reduceLeDiff, Nat.reduceLT, Int.reduceNeg, Int.reduceToNat, Int.reduceAdd, Int.reduceSub, Int.reduceMul, Int.reduceLT, Int.reduceLE, Int.reduceEq, f0, f3, f4, hlt]
      exact ⟨s', Hp.sub_refl, o, ho, rfl⟩
end Go.Proofs.Ytapjikladjoicaa
set_option maxRecDepth 100000
namespace Go.Proofs.Ytapjikladjoicaa
open Go Go.Av

def TX (ts : List (List UInt8 × Own)) : List AV := ts.map fun p => .sl (p.1.map byteAV) p.2
def chunk (t : List UInt8) : List UInt8 := eightB t.length ++ t
def preB (tag : UInt8) (ts : List (List UInt8)) : List UInt8 := tag :: ts.flatMap chunk

theorem preB_ge (tag : UInt8) : ∀ ts : List (List UInt8), ts.length < (preB tag ts).length
  | [] => by simp [preB]
  | t :: r => by
    have := preB_ge tag r
    simp only [preB, List.length_cons, List.flatMap_cons, List.length_append, chunk, eightB, List.length_nil] at this ⊢
    omega
theorem pre_spec (tag : UInt8) (ts : List (List UInt8 × Own)) (o : Own) (hlen : (preB tag (ts.map (·.1))).length ≤ 70368744177664) (s : Hp) :
    AC Try.prog 75 [.v (.int .u8 tag.toNat), .sl (TX ts) o] s fun r s' => ∃ o, Owned s s' 1 ((preB tag (ts.map (·.1))).map byteAV) o ∧ r = .sl ((preB tag (ts.map (·.1))).map byteAV) o := by
  refine AC_run hm prep75 (by simp) ?_
  simp (dsimp := false) (implicitDefEqProofs := false) (maxSteps := 1000000) (disch := first | omega | assumption | (simp only [rL, Nat.reduceAdd]; done) | (simp only [rL, Nat.reduceAdd]; omega)) only [↓rD, rU, ev, ofConst, ofCell, ↓reduceIte, Nat.reduceEqDiff, Nat.reduceAdd, Nat.reduceSub, Nat.reduceMul, Nat.reduceLeDiff, Nat.reduceLT, Int.reduceNeg, Int.reduceToNat, Int.reduceAdd, Int.reduceSub, Int.reduceMul, Int.reduceLT, Int.reduceLE, Int.reduceEq]
  refine bsl_byte Hp.sub_refl fun o1 s1 h1 => ?_
  simp (dsimp := false) (implicitDefEqProofs := false) (maxSteps := 1000000) (disch := first | omega | assumption | (simp only [rL, Nat.reduceAdd]; done) | (simp only [rL, Nat.reduceAdd]; omega)) only [↓rD, rU, ev, ofConst, ofCell, ↓reduceIte, Nat.reduceEqDiff, Nat.reduceAdd, Nat.reduceSub, Nat.reduceMul, Nat.reduceLeDiff, Nat.reduceLT, Int.reduceNeg, Int.reduceToNat, Int.reduceAdd, Int.reduceSub, Int.reduceMul, Int.reduceLT, Int.reduceLE, Int.reduceEq]
  refine loop_intro (fun f s' => ∃ (p q : List (List UInt8 × Own)) (o' : Own), ts = p ++ q ∧ Owned s s' 1 ((preB tag (p.map (·.1))).map byteAV) o' ∧ f 5 = .sl ((preB tag (p.map (·.1))).map byteAV) o' ∧ f 10 = .sl (TX ts) o ∧ f 11 = .v (.int .i64 ts.length) ∧ f 12 = .v (.int .i64 p.length))
    (fun f _ => match f 12 with | .v (.int _ n) => (ts.length - n).toNat | _ => 0) ⟨[], ts, o1, rfl, h1, ?_⟩ ?_
  · simp (dsimp := false) (implicitDefEqProofs := false) (maxSteps := 1000000) (disch := first | omega | assumption | (simp only [rL, Nat.reduceAdd]; done) | (simp only [rL, Nat.reduceAdd]; omega)) only [↓rD, rU, ev, ofConst, ofCell, ↓reduceIte, Nat.reduceEqDiff, Nat.reduceAdd, Nat.reduceSub, Nat.reduceMul, Nat.reduceLeDiff, Nat.reduceLT, Int.reduceNeg, Int.reduceToNat, Int.reduceAdd, Int.reduceSub, Int.reduceMul, Int.reduceLT, Int.reduceLE, Int.reduceEq]
    exact ⟨rfl, by simp [TX], rfl⟩
  · rintro f s' ⟨p, q, o', rfl, ho, f5, f10, f11, f12⟩
    cases q with
    | nil =>
      have hlt : ¬ (p.length : Int) < ((p ++ []).length : Nat) := by simp
      simp (dsimp := false) (implicitDefEqProofs := false) (maxSteps := 1000000) (disch := first | omega | assumption | (simp only [rL, Nat.reduceAdd]; done) | (simp only [rL, Nat.reduceAdd]; omega)) only [↓rD, rU, ev, ofConst, ofCell, ↓reduceIte, Nat.reduceEqDiff, Nat.reduceAdd, Nat.reduceSub, Nat.reduceMul, Nat.reduceLeDiff, Nat.reduceLT, Int.reduceNeg, Int.reduceToNat, Int.reduceAdd, Int.reduceSub, Int.reduceMul, Int.reduceLT, Int.reduceLE, Int.reduceEq, f5, f10, f11, f12, hlt]
      simp only [List.append_nil] at *
      exact ⟨s', Hp.sub_refl, o', ho, rfl⟩
    | cons x q =>
      obtain ⟨t, ot⟩ := x
      have hlt : (p.length : Int) < ((p ++ (t, ot) :: q).length : Nat) := by simp; omega
      have he : (TX (p ++ (t, ot) :: q))[p.length]? = some (.sl (t.map byteAV) ot) := by simp [TX]
      have hb : (preB tag (p.map (·.1))).length + 8 + t.length ≤ 70368744177664 := by
        refine Nat.le_trans ?_ hlen
        simp [preB, chunk, eightB]; omega
      have hpl := preB_ge tag (p.map (·.1))
      rw [List.length_map] at hpl
      simp (dsimp := false) (implicitDefEqProofs := false) (maxSteps := 1000000) (disch := first | omega | assumption | (simp only [rL, Nat.reduceAdd]; done) | (simp only [rL, Nat.reduceAdd]; omega)) only [↓rD, rU, ev, ofConst, ofCell, ↓reduceIte, Nat.reduceEqDiff, Nat.reduceAdd, Nat.reduceSub, Nat.reduceMul, Nat.reduceLeDiff, Nat.reduceLT, Int.reduceNeg, Int.reduceToNat, Int.reduceAdd, Int.reduceSub, Int.reduceMul, Int.reduceLT, Int.reduceLE, Int.reduceEq, f5, f10, f11, f12, hlt, he, iaSA_sl]
      refine call_intro (eight_spec t.length _) ?_
      rintro _ s2 ⟨o2, h2, rfl⟩
      simp (dsimp := false) (implicitDefEqProofs := false) (maxSteps := 1000000) (disch := first | omega | assumption | (simp only [rL, Nat.reduceAdd]; done) | (simp only [rL, Nat.reduceAdd]; omega)) only [↓rD, rU, ev, ofConst, ofCell, ↓reduceIte, Nat.reduceEqDiff, Nat.reduceAdd, Nat.reduceSub, Nat.reduceMul, Nat.reduceLeDiff, Nat.reduceLT, Int.reduceNeg, Int.reduceToNat, Int.reduceAdd, Int.reduceSub, Int.reduceMul, Int.reduceLT, Int.reduceLE, Int.reduceEq, f5, f10, f11, f12, hlt, he, iaSA_sl]
      refine app_bytes (ho.mono h2.sub) ?_ fun o3 s3 h3 => ?_
      · simp only [eightB, List.length_cons, List.length_nil]; omega
      simp (dsimp := false) (implicitDefEqProofs := false) (maxSteps := 1000000) (disch := first | omega | assumption | (simp only [rL, Nat.reduceAdd]; done) | (simp only [rL, Nat.reduceAdd]; omega)) only [↓rD, rU, ev, ofConst, ofCell, ↓reduceIte, Nat.reduceEqDiff, Nat.reduceAdd, Nat.reduceSub, Nat.reduceMul, Nat.reduceLeDiff, Nat.reduceLT, Int.reduceNeg, Int.reduceToNat, Int.reduceAdd, Int.reduceSub, Int.reduceMul, Int.reduceLT, Int.reduceLE, Int.reduceEq, f5, f10, f11, f12, hlt, he, iaSA_sl]
      refine app_bytes h3 ?_ fun o4 s4 h4 => ?_
      · simp only [eightB, List.length_append, List.length_cons, List.length_nil]; omega
      simp (dsimp := false) (implicitDefEqProofs := false) (maxSteps := 1000000) (disch := first | omega | assumption | (simp only [rL, Nat.reduceAdd]; done) | (simp only [rL, Nat.reduceAdd]; omega)) only [↓rD, rU, ev, ofConst, ofCell, ↓reduceIte, Nat.reduceEqDiff, Nat.reduceAdd, Nat.reduceSub, Nat.reduceMul, Nat.reduceLeDiff, Nat.reduceLT, Int.reduceNeg, Int.reduceToNat, Int.reduceAdd, Int.reduceSub, Int.reduceMul, Int.reduceLT, Int.reduceLE, Int.reduceEq, f5, f10, f11, f12, hlt, he, iaSA_sl]
      have e : preB tag (p.map (·.1)) ++ eightB t.length ++ t = preB tag ((p ++ [(t, ot)]).map (·.1)) := by simp [preB, chunk]
      rw [e] at h4 ⊢
      refine ⟨⟨p ++ [(t, ot)], q, o4, by simp, h4, rfl, ?_⟩, ?_⟩
      · simp
      · have : p.length < (p ++ (t, ot) :: q).length := by simp
        omega
end Go.Proofs.Ytapjikladjoicaa
set_option maxRecDepth 100000
namespace Go.Proofs.Ytapjikladjoicaa
open Go Go.Av

def blocks : Nat → List UInt32 → List UInt8 → List UInt32
  | 0, h, _ => h
  | n + 1, h, bs => blocks n (comp h (bs.take 64)) (bs.drop 64)
theorem blocks_length : ∀ (n : Nat) (h : List UInt32) (bs : List UInt8), h.length = 8 → (blocks n h bs).length = 8
  | 0, _, _, hh => hh
  | n + 1, h, bs, hh => by rw [blocks]; exact blocks_length n _ _ (comp_length h _ hh)
theorem blocks_succ : ∀ (n : Nat) (h : List UInt32) (bs : List UInt8), blocks (n + 1) h bs = comp (blocks n h bs) ((bs.drop (64 * n)).take 64)
  | 0, h, bs => by simp [blocks]
  | n + 1, h, bs => by
    rw [blocks, blocks_succ n, blocks, List.drop_drop]
    rw [show 64 + 64 * n = 64 * (n + 1) by omega]
theorem blocks_add : ∀ (a b : Nat) (h : List UInt32) (bs : List UInt8), blocks (a + b) h bs = blocks b (blocks a h bs) (bs.drop (64 * a))
  | 0, b, h, bs => by simp [blocks]
  | a + 1, b, h, bs => by
    rw [show a + 1 + b = (a + b) + 1 by omega, blocks, blocks_add a b, blocks, List.drop_drop, show 64 + 64 * a = 64 * (a + 1) by omega]
theorem blocks_append : ∀ (a : Nat) (h : List UInt32) (bs cs : List UInt8), 64 * a ≤ bs.length → blocks a h (bs ++ cs) = blocks a h bs
  | 0, _, _, _, _ => rfl
  | a + 1, h, bs, cs, hl => by
    rw [blocks, blocks, List.take_append_of_le_length (by omega), List.drop_append_of_le_length (by omega)]
    exact blocks_append a _ _ _ (by simp; omega)

section
variable {h : List UInt32} {a b c : AV} (hh : h.length = 8)
include hh
theorem st_len : (wl h ++ [a, b]).length = 10 := by simp [wl, hh]
theorem st_drop9 : (wl h ++ [a, b]).drop 9 = [b] := by
  rw [show (9 : Nat) = (wl h).length + 1 by rw [wl_length, hh], ← List.drop_drop, List.drop_left]; rfl
theorem st_drop8 : (wl h ++ [a, b]).drop 8 = [a, b] := by
  rw [show (8 : Nat) = (wl h).length by rw [wl_length, hh], List.drop_left]
theorem st_take8 : (wl h ++ [a, b]).take 8 = wl h := by
  rw [show (8 : Nat) = (wl h).length by rw [wl_length, hh], List.take_left]
theorem st_put9 : putAt (wl h ++ [a, b]) 9 [c] = wl h ++ [a, c] := by
  have h8 : (wl h).length = 8 := by rw [wl_length, hh]
  simp [putAt, List.take_append, List.drop_append, h8, List.take_of_length_le, List.drop_of_length_le]
theorem st_put8 : putAt (wl h ++ [a, b]) 8 [c] = wl h ++ [c, b] := by
  have h8 : (wl h).length = 8 := by rw [wl_length, hh]
  simp [putAt, List.take_append, List.drop_append, h8, List.take_of_length_le, List.drop_of_length_le]
theorem st_put0 {w : List UInt32} (hw : w.length = 8) : putAt (wl h ++ [a, b]) 0 (wl w) = wl w ++ [a, b] := by
  have h8 : (wl h).length = 8 := by rw [wl_length, hh]
  have w8 : (wl w).length = 8 := by rw [wl_length, hw]
  simp [putAt, List.take_append, List.drop_append, h8, w8, List.drop_of_length_le]
end

theorem Hp.set_eq {s : Hp} {l : Nat} {o : Ob} (h : s l = some o) : s.set l o = s := by
  funext x; simp only [Hp.set]; split
  · rename_i e; rw [e, h]
  · rfl
theorem Hp.sub_set_of {s t : Hp} {l : Nat} {o p : Ob} (h : (s.set l o).sub t) : (s.set l p).sub (t.set l p) := fun x q hq => by
  rw [Hp.set_get] at hq ⊢
  split
  · rename_i e; rw [if_pos e] at hq; exact hq
  · rename_i e; rw [if_neg e] at hq; exact h x q (by rw [Hp.set_get, if_neg e]; exact hq)

theorem write_aux (H : List UInt32) (h8 : H.length = 8) (hbeg : ∀ s, AC Try.prog 77 [] s fun r s' => s' = s ∧ r = .agg (wl H)) (bs : List UInt8) (o : Own) (hb : bs.length ≤ 70368744177664) (s : Hp) (l : Nat) (hl : s l = some (.cells (wl H ++ [.sl [] .nil, .v (.int .u64 0)]))) :
    AC Try.prog 59 [.ptr l 0, .sl (bs.map byteAV) o] s fun _ s' => ∃ o', s' = s.set l (.cells (wl (blocks (bs.length / 64) H bs) ++ [.sl ((bs.drop (64 * (bs.length / 64))).map byteAV) o', .v (.int .u64 bs.length)])) := by
  refine AC_run hm prep59 (by simp) ?_
  have hW : (wl H).length = 8 := by rw [wl_length, h8]
  rw [← Hp.set_eq hl]
  simp (dsimp := false) (implicitDefEqProofs := false) (maxSteps := 1000000) (disch := first | omega | assumption | (simp only [rL, Nat.reduceAdd]; done) | (simp only [rL, Nat.reduceAdd]; omega)) only [↓rD, rU, ev, ofConst, ofCell, ↓reduceIte, Nat.reduceEqDiff, Nat.reduceAdd, Nat.reduceSub, Nat.reduceMul, Nat.reduceLeDiff, Nat.reduceLT, Int.reduceNeg, Int.reduceToNat, Int.reduceAdd, Int.reduceSub, Int.reduceMul, Int.reduceLT, Int.reduceLE, Int.reduceEq, st_len h8, st_drop9 h8, st_drop8 h8, st_take8 h8, st_put9 h8, st_put8 h8]
  refine call_intro (hbeg _) ?_
  rintro _ _ ⟨rfl, rfl⟩
  simp (dsimp := false) (implicitDefEqProofs := false) (maxSteps := 1000000) (disch := first | omega | assumption | (simp only [rL, Nat.reduceAdd]; done) | (simp only [rL, Nat.reduceAdd]; omega)) only [↓rD, rU, ev, ofConst, ofCell, ↓reduceIte, Nat.reduceEqDiff, Nat.reduceAdd, Nat.reduceSub, Nat.reduceMul, Nat.reduceLeDiff, Nat.reduceLT, Int.reduceNeg, Int.reduceToNat, Int.reduceAdd, Int.reduceSub, Int.reduceMul, Int.reduceLT, Int.reduceLE, Int.reduceEq, st_len h8, st_drop9 h8, st_drop8 h8, st_take8 h8, st_put9 h8, st_put8 h8, st_put0 h8 h8, hW]
  refine bsl_own Hp.sub_refl (by simp [allLen]) fun o1 s1 h1 => ?_
  have hl1 := h1.sub l _ (Hp.set_same _ _ _)
  simp (dsimp := false) (implicitDefEqProofs := false) (maxSteps := 1000000) (disch := first | omega | assumption | (simp only [rL, Nat.reduceAdd]; done) | (simp only [rL, Nat.reduceAdd]; omega)) only [↓rD, rU, ev, ofConst, ofCell, ↓reduceIte, Nat.reduceEqDiff, Nat.reduceAdd, Nat.reduceSub, Nat.reduceMul, Nat.reduceLeDiff, Nat.reduceLT, Int.reduceNeg, Int.reduceToNat, Int.reduceAdd, Int.reduceSub, Int.reduceMul, Int.reduceLT, Int.reduceLE, Int.reduceEq, Hp.stA_of hl1, Hp.read_of hl1, st_len h8, st_drop9 h8, st_drop8 h8, st_take8 h8, st_put9 h8, st_put8 h8, st_put0 h8 h8, hW]
  refine app_own (ys := []) h1 (by simp [allLen]) (by simp [allLen]) (by simp) (by simp) fun o2 s2 h2 => ?_
  simp (dsimp := false) (implicitDefEqProofs := false) (maxSteps := 1000000) (disch := first | omega | assumption | (simp only [rL, Nat.reduceAdd]; done) | (simp only [rL, Nat.reduceAdd]; omega)) only [↓rD, rU, ev, ofConst, ofCell, ↓reduceIte, Nat.reduceEqDiff, Nat.reduceAdd, Nat.reduceSub, Nat.reduceMul, Nat.reduceLeDiff, Nat.reduceLT, Int.reduceNeg, Int.reduceToNat, Int.reduceAdd, Int.reduceSub, Int.reduceMul, Int.reduceLT, Int.reduceLE, Int.reduceEq]
  refine app_bytes (xs := []) h2 (by simp; omega) fun o3 s3 h3 => ?_
  have hl3 := h3.sub l _ (Hp.set_same _ _ _)
  rw [← Hp.set_eq hl3]
  simp (dsimp := false) (implicitDefEqProofs := false) (maxSteps := 1000000) (disch := first | omega | assumption | (simp only [rL, Nat.reduceAdd]; done) | (simp only [rL, Nat.reduceAdd]; omega)) only [↓rD, rU, ev, ofConst, ofCell, ↓reduceIte, Nat.reduceEqDiff, Nat.reduceAdd, Nat.reduceSub, Nat.reduceMul, Nat.reduceLeDiff, Nat.reduceLT, Int.reduceNeg, Int.reduceToNat, Int.reduceAdd, Int.reduceSub, Int.reduceMul, Int.reduceLT, Int.reduceLE, Int.reduceEq, Int.zero_add, List.nil_append]
  refine loop_intro (fun f s' => ∃ (k : Nat) (o' : Own), 64 * k ≤ bs.length ∧ f 0 = .ptr l 0 ∧ f 4 = .sl ((bs.drop (64 * k)).map byteAV) o' ∧ s' = s3.set l (.cells (wl (blocks k H bs) ++ [.sl [] .nil, .v (.int .u64 bs.length)])))
    (fun f _ => match f 4 with | .sl xs _ => xs.length | _ => 0) ⟨0, o3, by omega, ?_⟩ ?_
  · simp (dsimp := false) (implicitDefEqProofs := false) (maxSteps := 1000000) (disch := first | omega | assumption | (simp only [rL, Nat.reduceAdd]; done) | (simp only [rL, Nat.reduceAdd]; omega)) only [↓rD, rU, ev, ofConst, ofCell, ↓reduceIte, Nat.reduceEqDiff, Nat.reduceAdd, Nat.reduceSub, Nat.reduceMul, Nat.reduceLeDiff, Nat.reduceLT, Int.reduceNeg, Int.reduceToNat, Int.reduceAdd, Int.reduceSub, Int.reduceMul, Int.reduceLT, Int.reduceLE, Int.reduceEq, Int.zero_add]
    rfl
  · rintro f s' ⟨k, o', hk, f0, f4, rfl⟩
    have hB := blocks_length k H bs h8
    generalize hBe : blocks k H bs = B at *
    have hBW : (wl B).length = 8 := by rw [wl_length, hB]
    by_cases hlt : (64 : Int) ≤ ((bs.drop (64 * k)).length : Int)
    · have hlt' := hlt
      rw [List.length_drop] at hlt'
      simp (dsimp := false) (implicitDefEqProofs := false) (maxSteps := 1000000) (disch := first | omega | assumption | (simp only [rL, Nat.reduceAdd]; done) | (simp only [rL, Nat.reduceAdd]; omega)) only [↓rD, rU, ev, ofConst, ofCell, ↓reduceIte, Nat.reduceEqDiff, Nat.reduceAdd, Nat.reduceSub, Nat.reduceMul, Nat.reduceLeDiff, Nat.reduceLT, Int.reduceNeg, Int.reduceToNat, Int.reduceAdd, Int.reduceSub, Int.reduceMul, Int.reduceLT, Int.reduceLE, Int.reduceEq, f0, f4, hlt, st_len hB, st_take8 hB]
      have ht : ((bs.drop (64 * k)).take (64 : Int).toNat).length = 64 := by simp; omega
      refine call_intro (turn_spec B _ _ hB ht _) ?_
      rintro _ _ ⟨rfl, rfl⟩
      have hC := comp_length B ((bs.drop (64 * k)).take 64) hB
      have hCW : (wl (comp B ((bs.drop (64 * k)).take 64))).length = 8 := by rw [wl_length, hC]
      simp (dsimp := false) (implicitDefEqProofs := false) (maxSteps := 1000000) (disch := first | omega | assumption | (simp only [rL, Nat.reduceAdd]; done) | (simp only [rL, Nat.reduceAdd]; omega)) only [↓rD, rU, ev, ofConst, ofCell, ↓reduceIte, Nat.reduceEqDiff, Nat.reduceAdd, Nat.reduceSub, Nat.reduceMul, Nat.reduceLeDiff, Nat.reduceLT, Int.reduceNeg, Int.reduceToNat, Int.reduceAdd, Int.reduceSub, Int.reduceMul, Int.reduceLT, Int.reduceLE, Int.reduceEq, f0, f4, hlt, st_len hB, st_put0 hB hC, hCW]
      refine ⟨⟨k + 1, .any, by omega, ?_, ?_⟩, by simp only [List.length_drop]; omega⟩
      · rw [List.drop_drop, show 64 * k + 64 = 64 * (k + 1) by omega]
      · rw [blocks_succ, hBe]
    · simp (dsimp := false) (implicitDefEqProofs := false) (maxSteps := 1000000) (disch := first | omega | assumption | (simp only [rL, Nat.reduceAdd]; done) | (simp only [rL, Nat.reduceAdd]; omega)) only [↓rD, rU, ev, ofConst, ofCell, ↓reduceIte, Nat.reduceEqDiff, Nat.reduceAdd, Nat.reduceSub, Nat.reduceMul, Nat.reduceLeDiff, Nat.reduceLT, Int.reduceNeg, Int.reduceToNat, Int.reduceAdd, Int.reduceSub, Int.reduceMul, Int.reduceLT, Int.reduceLE, Int.reduceEq, f0, f4, hlt, st_len hB, st_put8 hB]
      rw [List.length_drop] at hlt
      have hk' : bs.length / 64 = k := by omega
      refine ⟨s.set l _, Hp.sub_set_of h3.sub, o', ?_⟩
      rw [hk', hBe]

theorem write_spec (bs : List UInt8) (o : Own) (hb : bs.length ≤ 70368744177664) (s : Hp) (l : Nat) (hl : s l = some (.cells (wl H256 ++ [.sl [] .nil, .v (.int .u64 0)]))) :
    AC Try.prog 59 [.ptr l 0, .sl (bs.map byteAV) o] s fun _ s' => ∃ o', s' = s.set l (.cells (wl (blocks (bs.length / 64) H256 bs) ++ [.sl ((bs.drop (64 * (bs.length / 64))).map byteAV) o', .v (.int .u64 bs.length)])) :=
  write_aux H256 rfl begin_spec bs o hb s l hl
end Go.Proofs.Ytapjikladjoicaa
set_option maxRecDepth 100000
namespace Go.Proofs.Ytapjikladjoicaa
open Go Go.Av

/-- zeros put in till 56 remain -/
def zeros (n : Nat) : Nat := (55 + 64 - n % 64) % 64
def padB (n : Nat) (rest : List UInt8) : List UInt8 := rest ++ 128 :: List.replicate (zeros n) 0 ++ eightB (8 * n)
def quad (x : UInt32) : List UInt8 := [(x >>> 24).toUInt8, (x >>> 16).toUInt8, (x >>> 8).toUInt8, x.toUInt8]
def quads (h : List UInt32) : List UInt8 := h.flatMap quad
def dg (bs : List UInt8) : AV := .agg (bs.map byteAV)


def cellsB (w : List UInt8) : List AV := w.map byteAV ++ List.replicate (32 - w.length) (.v (.int .u8 0))
theorem cellsB_nil : cellsB [] = List.replicate 32 (.v (.int .u8 0)) := by simp [cellsB]
theorem cellsB_length {w : List UInt8} (h : w.length ≤ 32) : (cellsB w).length = 32 := by simp [cellsB]; omega
theorem cellsB_put {w : List UInt8} {i : Nat} (x : UInt8) (h : i = w.length) (h2 : w.length < 32) : putAt (cellsB w) i [.v (.int .u8 x.toNat)] = cellsB (w ++ [x]) := by
  subst h
  have e : 32 - w.length = (32 - (w.length + 1)) + 1 := by omega
  simp only [putAt, cellsB, e, List.replicate_succ]
  simp [List.take_append, List.drop_append, byteAV]
theorem quads_length : ∀ h : List UInt32, (quads h).length = 4 * h.length
  | [] => rfl
  | x :: r => by simp only [quads, List.flatMap_cons, List.length_append] at *; have := quads_length r; simp only [quads] at this; rw [this]; simp [quad]; omega

theorem done_aux (H : List UInt32) (h8 : H.length = 8) (hbeg : ∀ s, AC Try.prog 77 [] s fun r s' => s' = s ∧ r = .agg (wl H)) (B : List UInt32) (hB : B.length = 8) (n : Nat) (rest : List UInt8) (o : Own) (hn : n ≤ 70368744177664) (hr : rest.length = n % 64) (h0 : n = 0 → B = H)
    (s : Hp) (l : Nat) (hl : s l = some (.cells (wl B ++ [.sl (rest.map byteAV) o, .v (.int .u64 n)]))) :
    AC Try.prog 60 [.ptr l 0] s fun r s' => s' = s ∧ r = dg (quads (blocks ((padB n rest).length / 64) B (padB n rest))) := by
  refine AC_run hm prep60 (by simp) ?_
  have hW : (wl B).length = 8 := by rw [wl_length, hB]
  simp (dsimp := false) (implicitDefEqProofs := false) (maxSteps := 1000000) (disch := first | omega | assumption | (simp only [rL, Nat.reduceAdd]; done) | (simp only [rL, Nat.reduceAdd]; omega)) only [↓rD, rU, ev, ofConst, ofCell, ↓reduceIte, Nat.reduceEqDiff, Nat.reduceAdd, Nat.reduceSub, Nat.reduceMul, Nat.reduceLeDiff, Nat.reduceLT, Int.reduceNeg, Int.reduceToNat, Int.reduceAdd, Int.reduceSub, Int.reduceMul, Int.reduceLT, Int.reduceLE, Int.reduceEq]
  refine newK_intro fun l2 n2 => ?_
  have d2 : l ≠ l2 := by rintro rfl; rw [n2] at hl; cases hl
  simp (dsimp := false) (implicitDefEqProofs := false) (maxSteps := 1000000) (disch := first | omega | assumption | (simp only [rL, Nat.reduceAdd]; done) | (simp only [rL, Nat.reduceAdd]; omega)) only [↓rD, rU, ev, ofConst, ofCell, ↓reduceIte, Nat.reduceEqDiff, Nat.reduceAdd, Nat.reduceSub, Nat.reduceMul, Nat.reduceLeDiff, Nat.reduceLT, Int.reduceNeg, Int.reduceToNat, Int.reduceAdd, Int.reduceSub, Int.reduceMul, Int.reduceLT, Int.reduceLE, Int.reduceEq, Hp.read_of hl, st_len hB, st_drop9 hB, st_drop8 hB, st_take8 hB]
  refine newK_intro fun l3 n3 => ?_
  obtain ⟨d32, n3⟩ := Hp.set_none n3
  have d3 : l ≠ l3 := by rintro rfl; rw [n3] at hl; cases hl
  simp (dsimp := false) (implicitDefEqProofs := false) (maxSteps := 1000000) (disch := first | omega | assumption | (simp only [rL, Nat.reduceAdd]; done) | (simp only [rL, Nat.reduceAdd]; omega)) only [↓rD, rU, ev, ofConst, ofCell, ↓reduceIte, Nat.reduceEqDiff, Nat.reduceAdd, Nat.reduceSub, Nat.reduceMul, Nat.reduceLeDiff, Nat.reduceLT, Int.reduceNeg, Int.reduceToNat, Int.reduceAdd, Int.reduceSub, Int.reduceMul, Int.reduceLT, Int.reduceLE, Int.reduceEq, Hp.read_of hl, st_len hB, st_drop9 hB, st_drop8 hB, st_take8 hB, hW]
  refine cond_join (fun f s' => f 0 = .ptr l 0 ∧ f 2 = .ptr l2 0 ∧ f 3 = .ptr l3 0 ∧ s' = (s.set l2 (.cells (List.replicate 32 (.v (.int .u8 0))))).set l3 (.cells (wl B))) ?_ ?_ ?_
  · intro hz
    have hn0 : n = 0 := by simpa using hz
    have hBH := h0 hn0
    subst hBH
    simp (dsimp := false) (implicitDefEqProofs := false) (maxSteps := 1000000) (disch := first | omega | assumption | (simp only [rL, Nat.reduceAdd]; done) | (simp only [rL, Nat.reduceAdd]; omega)) only [↓rD, rU, ev, ofConst, ofCell, ↓reduceIte, Nat.reduceEqDiff, Nat.reduceAdd, Nat.reduceSub, Nat.reduceMul, Nat.reduceLeDiff, Nat.reduceLT, Int.reduceNeg, Int.reduceToNat, Int.reduceAdd, Int.reduceSub, Int.reduceMul, Int.reduceLT, Int.reduceLE, Int.reduceEq]
    refine call_intro (hbeg _) ?_
    rintro _ _ ⟨rfl, rfl⟩
    simp (dsimp := false) (implicitDefEqProofs := false) (maxSteps := 1000000) (disch := first | omega | assumption | (simp only [rL, Nat.reduceAdd]; done) | (simp only [rL, Nat.reduceAdd]; omega)) only [↓rD, rU, ev, ofConst, ofCell, ↓reduceIte, Nat.reduceEqDiff, Nat.reduceAdd, Nat.reduceSub, Nat.reduceMul, Nat.reduceLeDiff, Nat.reduceLT, Int.reduceNeg, Int.reduceToNat, Int.reduceAdd, Int.reduceSub, Int.reduceMul, Int.reduceLT, Int.reduceLE, Int.reduceEq, hW]
  · intro _
    simp (dsimp := false) (implicitDefEqProofs := false) (maxSteps := 1000000) (disch := first | omega | assumption | (simp only [rL, Nat.reduceAdd]; done) | (simp only [rL, Nat.reduceAdd]; omega)) only [↓rD, rU, ev, ofConst, ofCell, ↓reduceIte, Nat.reduceEqDiff, Nat.reduceAdd, Nat.reduceSub, Nat.reduceMul, Nat.reduceLeDiff, Nat.reduceLT, Int.reduceNeg, Int.reduceToNat, Int.reduceAdd, Int.reduceSub, Int.reduceMul, Int.reduceLT, Int.reduceLE, Int.reduceEq]
  · rintro f s' ⟨f0, f2, f3, rfl⟩
    have hl' : ((s.set l2 (.cells (List.replicate 32 (.v (.int .u8 0))))).set l3 (.cells (wl B))) l = some (.cells (wl B ++ [.sl (rest.map byteAV) o, .v (.int .u64 n)])) := by
      rw [Hp.set_ne _ _ d3, Hp.set_ne _ _ d2]; exact hl
    generalize hs1 : ((s.set l2 (.cells (List.replicate 32 (.v (.int .u8 0))))).set l3 (.cells (wl B))) = s1 at *
    simp (dsimp := false) (implicitDefEqProofs := false) (maxSteps := 1000000) (disch := first | omega | assumption | (simp only [rL, Nat.reduceAdd]; done) | (simp only [rL, Nat.reduceAdd]; omega)) only [↓rD, rU, ev, ofConst, ofCell, ↓reduceIte, Nat.reduceEqDiff, Nat.reduceAdd, Nat.reduceSub, Nat.reduceMul, Nat.reduceLeDiff, Nat.reduceLT, Int.reduceNeg, Int.reduceToNat, Int.reduceAdd, Int.reduceSub, Int.reduceMul, Int.reduceLT, Int.reduceLE, Int.reduceEq, f0, f2, f3]
    refine bsl_own Hp.sub_refl (by simp [allLen]) fun o2 s2 h2 => ?_
    have hl2 := h2.sub _ _ hl'
    simp (dsimp := false) (implicitDefEqProofs := false) (maxSteps := 1000000) (disch := first | omega | assumption | (simp only [rL, Nat.reduceAdd]; done) | (simp only [rL, Nat.reduceAdd]; omega)) only [↓rD, rU, ev, ofConst, ofCell, ↓reduceIte, Nat.reduceEqDiff, Nat.reduceAdd, Nat.reduceSub, Nat.reduceMul, Nat.reduceLeDiff, Nat.reduceLT, Int.reduceNeg, Int.reduceToNat, Int.reduceAdd, Int.reduceSub, Int.reduceMul, Int.reduceLT, Int.reduceLE, Int.reduceEq, f0, f2, f3, Hp.read_of hl2, st_len hB, st_drop8 hB]
    refine app_bytes (xs := []) h2 (by simp; omega) fun o3 s3 h3 => ?_
    simp (dsimp := false) (implicitDefEqProofs := false) (maxSteps := 1000000) (disch := first | omega | assumption | (simp only [rL, Nat.reduceAdd]; done) | (simp only [rL, Nat.reduceAdd]; omega)) only [↓rD, rU, ev, ofConst, ofCell, ↓reduceIte, Nat.reduceEqDiff, Nat.reduceAdd, Nat.reduceSub, Nat.reduceMul, Nat.reduceLeDiff, Nat.reduceLT, Int.reduceNeg, Int.reduceToNat, Int.reduceAdd, Int.reduceSub, Int.reduceMul, Int.reduceLT, Int.reduceLE, Int.reduceEq, f0, f2, f3]
    refine bsl_byte (b := 128) Hp.sub_refl fun o4 s4 h4 => ?_
    simp (dsimp := false) (implicitDefEqProofs := false) (maxSteps := 1000000) (disch := first | omega | assumption | (simp only [rL, Nat.reduceAdd]; done) | (simp only [rL, Nat.reduceAdd]; omega)) only [↓rD, rU, ev, ofConst, ofCell, ↓reduceIte, Nat.reduceEqDiff, Nat.reduceAdd, Nat.reduceSub, Nat.reduceMul, Nat.reduceLeDiff, Nat.reduceLT, Int.reduceNeg, Int.reduceToNat, Int.reduceAdd, Int.reduceSub, Int.reduceMul, Int.reduceLT, Int.reduceLE, Int.reduceEq, f0, f2, f3]
    refine app_byte1 (h3.mono h4.sub) (by simp; omega) fun o5 s5 h5 => ?_
    simp (dsimp := false) (implicitDefEqProofs := false) (maxSteps := 1000000) (disch := first | omega | assumption | (simp only [rL, Nat.reduceAdd]; done) | (simp only [rL, Nat.reduceAdd]; omega)) only [↓rD, rU, ev, ofConst, ofCell, ↓reduceIte, Nat.reduceEqDiff, Nat.reduceAdd, Nat.reduceSub, Nat.reduceMul, Nat.reduceLeDiff, Nat.reduceLT, Int.reduceNeg, Int.reduceToNat, Int.reduceAdd, Int.reduceSub, Int.reduceMul, Int.reduceLT, Int.reduceLE, Int.reduceEq, f0, f2, f3, List.nil_append]
    refine loop_intro (fun f s' => ∃ (j : Nat) (o' : Own), j ≤ zeros n ∧ f 0 = .ptr l 0 ∧ f 2 = .ptr l2 0 ∧ f 3 = .ptr l3 0 ∧ f 4 = .sl ((rest ++ 128 :: List.replicate j 0).map byteAV) o' ∧ Owned s1 s' 1 ((rest ++ 128 :: List.replicate j 0).map byteAV) o')
      (fun f _ => match f 4 with | .sl xs _ => 200 - xs.length | _ => 0) ⟨0, o5, by omega, ?_⟩ ?_
    · simp (dsimp := false) (implicitDefEqProofs := false) (maxSteps := 1000000) (disch := first | omega | assumption | (simp only [rL, Nat.reduceAdd]; done) | (simp only [rL, Nat.reduceAdd]; omega)) only [↓rD, rU, ev, ofConst, ofCell, ↓reduceIte, Nat.reduceEqDiff, Nat.reduceAdd, Nat.reduceSub, Nat.reduceMul, Nat.reduceLeDiff, Nat.reduceLT, Int.reduceNeg, Int.reduceToNat, Int.reduceAdd, Int.reduceSub, Int.reduceMul, Int.reduceLT, Int.reduceLE, Int.reduceEq, f0, f2, f3]
      exact ⟨rfl, by simpa using h5⟩
    · rintro f s' ⟨j, o', hj, f0, f2, f3, f4, ho⟩
      have hz : zeros n ≤ 63 := by unfold zeros; omega
      have hlen : (rest ++ 128 :: List.replicate j 0).length = n % 64 + 1 + j := by simp [hr]; omega
      by_cases hlt : j < zeros n
      · have hne : ¬ (((n % 64 + 1 + j) % 64 : Nat) : Int) = 56 := by unfold zeros at hlt; omega
        simp (dsimp := false) (implicitDefEqProofs := false) (maxSteps := 1000000) (disch := first | omega | assumption | (simp only [rL, Nat.reduceAdd]; done) | (simp only [rL, Nat.reduceAdd]; omega)) only [↓rD, rU, ev, ofConst, ofCell, ↓reduceIte, Nat.reduceEqDiff, Nat.reduceAdd, Nat.reduceSub, Nat.reduceMul, Nat.reduceLeDiff, Nat.reduceLT, Int.reduceNeg, Int.reduceToNat, Int.reduceAdd, Int.reduceSub, Int.reduceMul, Int.reduceLT, Int.reduceLE, Int.reduceEq, f0, f2, f3, f4, hlen, tmod64, hne, ne_eq, not_false_eq_true]
        refine bsl_byte (b := 0) Hp.sub_refl fun o6 s6 h6 => ?_
        simp (dsimp := false) (implicitDefEqProofs := false) (maxSteps := 1000000) (disch := first | omega | assumption | (simp only [rL, Nat.reduceAdd]; done) | (simp only [rL, Nat.reduceAdd]; omega)) only [↓rD, rU, ev, ofConst, ofCell, ↓reduceIte, Nat.reduceEqDiff, Nat.reduceAdd, Nat.reduceSub, Nat.reduceMul, Nat.reduceLeDiff, Nat.reduceLT, Int.reduceNeg, Int.reduceToNat, Int.reduceAdd, Int.reduceSub, Int.reduceMul, Int.reduceLT, Int.reduceLE, Int.reduceEq, f0, f2, f3, f4]
        refine app_byte1 (ho.mono h6.sub) (by omega) fun o7 s7 h7 => ?_
        have e : rest ++ 128 :: List.replicate j 0 ++ [0] = rest ++ 128 :: List.replicate (j + 1) 0 := by simp [List.replicate_succ']
        simp (dsimp := false) (implicitDefEqProofs := false) (maxSteps := 1000000) (disch := first | omega | assumption | (simp only [rL, Nat.reduceAdd]; done) | (simp only [rL, Nat.reduceAdd]; omega)) only [↓rD, rU, ev, ofConst, ofCell, ↓reduceIte, Nat.reduceEqDiff, Nat.reduceAdd, Nat.reduceSub, Nat.reduceMul, Nat.reduceLeDiff, Nat.reduceLT, Int.reduceNeg, Int.reduceToNat, Int.reduceAdd, Int.reduceSub, Int.reduceMul, Int.reduceLT, Int.reduceLE, Int.reduceEq, f0, f2, f3, f4]
        rw [e] at h7 ⊢
        refine ⟨⟨j + 1, o7, by omega, rfl, h7⟩, ?_⟩
        simp only [List.length_append, List.length_cons, List.length_replicate, hr]; omega
      · obtain rfl : j = zeros n := by omega
        have heq : (((n % 64 + 1 + zeros n) % 64 : Nat) : Int) = 56 := by unfold zeros; omega
        have hl4 := ho.sub _ _ hl'
        simp (dsimp := false) (implicitDefEqProofs := false) (maxSteps := 1000000) (disch := first | omega | assumption | (simp only [rL, Nat.reduceAdd]; done) | (simp only [rL, Nat.reduceAdd]; omega)) only [↓rD, rU, ev, ofConst, ofCell, ↓reduceIte, Nat.reduceEqDiff, Nat.reduceAdd, Nat.reduceSub, Nat.reduceMul, Nat.reduceLeDiff, Nat.reduceLT, Int.reduceNeg, Int.reduceToNat, Int.reduceAdd, Int.reduceSub, Int.reduceMul, Int.reduceLT, Int.reduceLE, Int.reduceEq, f0, f2, f3, f4, hlen, tmod64, heq, ne_eq, not_true_eq_false, Hp.read_of hl4, st_len hB, st_drop9 hB]
        have e8 : (8 : Int) * (n : Int) = ((8 * n : Nat) : Int) := by simp
        rw [e8]
        refine call_intro (eight_spec (8 * n) _) ?_
        rintro _ s6 ⟨o6, h6, rfl⟩
        simp (dsimp := false) (implicitDefEqProofs := false) (maxSteps := 1000000) (disch := first | omega | assumption | (simp only [rL, Nat.reduceAdd]; done) | (simp only [rL, Nat.reduceAdd]; omega)) only [↓rD, rU, ev, ofConst, ofCell, ↓reduceIte, Nat.reduceEqDiff, Nat.reduceAdd, Nat.reduceSub, Nat.reduceMul, Nat.reduceLeDiff, Nat.reduceLT, Int.reduceNeg, Int.reduceToNat, Int.reduceAdd, Int.reduceSub, Int.reduceMul, Int.reduceLT, Int.reduceLE, Int.reduceEq, f0, f2, f3, f4]
        refine app_bytes (ho.mono h6.sub) (by simp [eightB]; omega) fun o7 s7 h7 => ?_
        simp (dsimp := false) (implicitDefEqProofs := false) (maxSteps := 1000000) (disch := first | omega | assumption | (simp only [rL, Nat.reduceAdd]; done) | (simp only [rL, Nat.reduceAdd]; omega)) only [↓rD, rU, ev, ofConst, ofCell, ↓reduceIte, Nat.reduceEqDiff, Nat.reduceAdd, Nat.reduceSub, Nat.reduceMul, Nat.reduceLeDiff, Nat.reduceLT, Int.reduceNeg, Int.reduceToNat, Int.reduceAdd, Int.reduceSub, Int.reduceMul, Int.reduceLT, Int.reduceLE, Int.reduceEq, f0, f2, f3, f4]
        have hl37 : s7 l3 = some (.cells (wl B)) := h7.sub _ _ (by rw [← hs1]; exact Hp.set_same _ _ _)
        have hl27 : s7 l2 = some (.cells (List.replicate 32 (.v (.int .u8 0)))) := h7.sub _ _ (by rw [← hs1, Hp.set_ne _ _ (Ne.symm d32)]; exact Hp.set_same _ _ _)
        have hs7 : s.sub s7 := Hp.sub_trans (by rw [← hs1]; exact Hp.sub_new (Hp.sub_new Hp.sub_refl n2) n3) h7.sub
        rw [← Hp.set_eq hl37]
        have hpad : rest ++ 128 :: List.replicate (zeros n) 0 ++ eightB (8 * n) = padB n rest := rfl
        have hpl : (padB n rest).length = 64 * ((padB n rest).length / 64) := by
          have : (padB n rest).length = n % 64 + 1 + zeros n + 8 := by simp [padB, hr, eightB]; omega
          rw [this]; unfold zeros; omega
        rw [hpad]
        generalize padB n rest = pad at *
        refine loop_intro (fun f s' => ∃ (k : Nat) (o' : Own), 64 * k ≤ pad.length ∧ f 2 = .ptr l2 0 ∧ f 3 = .ptr l3 0 ∧ f 4 = .sl ((pad.drop (64 * k)).map byteAV) o' ∧ s' = s7.set l3 (.cells (wl (blocks k B pad))))
          (fun f _ => match f 4 with | .sl xs _ => xs.length | _ => 0) ⟨0, o7, by omega, ?_⟩ ?_
        · simp (dsimp := false) (implicitDefEqProofs := false) (maxSteps := 1000000) (disch := first | omega | assumption | (simp only [rL, Nat.reduceAdd]; done) | (simp only [rL, Nat.reduceAdd]; omega)) only [↓rD, rU, ev, ofConst, ofCell, ↓reduceIte, Nat.reduceEqDiff, Nat.reduceAdd, Nat.reduceSub, Nat.reduceMul, Nat.reduceLeDiff, Nat.reduceLT, Int.reduceNeg, Int.reduceToNat, Int.reduceAdd, Int.reduceSub, Int.reduceMul, Int.reduceLT, Int.reduceLE, Int.reduceEq, f2, f3]
          rfl
        · rintro f s' ⟨k, o', hk, f2, f3, f4, rfl⟩
          have hC := blocks_length k B pad hB
          have hCW : (wl (blocks k B pad)).length = 8 := by rw [wl_length, hC]
          by_cases hlt : (0 : Int) < ((pad.drop (64 * k)).length : Int)
          · have hlt' := hlt
            rw [List.length_drop] at hlt'
            have hle : 64 ≤ (pad.drop (64 * k)).length := by rw [List.length_drop]; omega
            simp (dsimp := false) (implicitDefEqProofs := false) (maxSteps := 1000000) (disch := first | omega | assumption | (simp only [rL, Nat.reduceAdd]; done) | (simp only [rL, Nat.reduceAdd]; omega)) only [↓rD, rU, ev, ofConst, ofCell, ↓reduceIte, Nat.reduceEqDiff, Nat.reduceAdd, Nat.reduceSub, Nat.reduceMul, Nat.reduceLeDiff, Nat.reduceLT, Int.reduceNeg, Int.reduceToNat, Int.reduceAdd, Int.reduceSub, Int.reduceMul, Int.reduceLT, Int.reduceLE, Int.reduceEq, f2, f3, f4, hlt, hCW, List.take_of_length_le]
            have ht : ((pad.drop (64 * k)).take 64).length = 64 := by simp; omega
            refine call_intro (turn_spec _ _ _ hC ht _) ?_
            rintro _ _ ⟨rfl, rfl⟩
            have hD := comp_length (blocks k B pad) ((pad.drop (64 * k)).take 64) hC
            have hDW : (wl (comp (blocks k B pad) ((pad.drop (64 * k)).take 64))).length = 8 := by rw [wl_length, hD]
            simp (dsimp := false) (implicitDefEqProofs := false) (maxSteps := 1000000) (disch := first | omega | assumption | (simp only [rL, Nat.reduceAdd]; done) | (simp only [rL, Nat.reduceAdd]; omega)) only [↓rD, rU, ev, ofConst, ofCell, ↓reduceIte, Nat.reduceEqDiff, Nat.reduceAdd, Nat.reduceSub, Nat.reduceMul, Nat.reduceLeDiff, Nat.reduceLT, Int.reduceNeg, Int.reduceToNat, Int.reduceAdd, Int.reduceSub, Int.reduceMul, Int.reduceLT, Int.reduceLE, Int.reduceEq, f2, f3, f4, hCW, hDW]
            refine ⟨⟨k + 1, .any, by omega, ?_, ?_⟩, by simp only [List.length_drop]; omega⟩
            · rw [List.drop_drop, show 64 * k + 64 = 64 * (k + 1) by omega]
            · rw [blocks_succ]
          · rw [List.length_drop] at hlt
            have hk' : k = pad.length / 64 := by omega
            simp (dsimp := false) (implicitDefEqProofs := false) (maxSteps := 1000000) (disch := first | omega | assumption | (simp only [rL, Nat.reduceAdd]; done) | (simp only [rL, Nat.reduceAdd]; omega)) only [↓rD, rU, ev, ofConst, ofCell, ↓reduceIte, Nat.reduceEqDiff, Nat.reduceAdd, Nat.reduceSub, Nat.reduceMul, Nat.reduceLeDiff, Nat.reduceLT, Int.reduceNeg, Int.reduceToNat, Int.reduceAdd, Int.reduceSub, Int.reduceMul, Int.reduceLT, Int.reduceLE, Int.reduceEq, f2, f3, f4, List.length_drop, hlt]
            rw [← hk']
            generalize hF : blocks k B pad = F at *
            refine newK_intro fun l5 n5 => ?_
            obtain ⟨d53, n5⟩ := Hp.set_none n5
            have d52 : l5 ≠ l2 := by rintro rfl; rw [n5] at hl27; cases hl27
            simp (dsimp := false) (implicitDefEqProofs := false) (maxSteps := 1000000) (disch := first | omega | assumption | (simp only [rL, Nat.reduceAdd]; done) | (simp only [rL, Nat.reduceAdd]; omega)) only [↓rD, rU, ev, ofConst, ofCell, ↓reduceIte, Nat.reduceEqDiff, Nat.reduceAdd, Nat.reduceSub, Nat.reduceMul, Nat.reduceLeDiff, Nat.reduceLT, Int.reduceNeg, Int.reduceToNat, Int.reduceAdd, Int.reduceSub, Int.reduceMul, Int.reduceLT, Int.reduceLE, Int.reduceEq, f2, f3, f4, hCW, List.take_of_length_le]
            refine loop_intro (fun f s' => ∃ i : Nat, i ≤ 8 ∧ f 2 = .ptr l2 0 ∧ f 5 = .ptr l5 0 ∧ f 50 = .agg (wl F) ∧ f 51 = .v (.int .i64 i) ∧ s' = (s7.set l3 (.cells (wl F))).set l5 (.cells (cellsB (quads (F.take i)))))
              (fun f _ => match f 51 with | .v (.int _ n) => (8 - n).toNat | _ => 0) ⟨0, by omega, ?_⟩ ?_
            · simp (dsimp := false) (implicitDefEqProofs := false) (maxSteps := 1000000) (disch := first | omega | assumption | (simp only [rL, Nat.reduceAdd]; done) | (simp only [rL, Nat.reduceAdd]; omega)) only [↓rD, rU, ev, ofConst, ofCell, ↓reduceIte, Nat.reduceEqDiff, Nat.reduceAdd, Nat.reduceSub, Nat.reduceMul, Nat.reduceLeDiff, Nat.reduceLT, Int.reduceNeg, Int.reduceToNat, Int.reduceAdd, Int.reduceSub, Int.reduceMul, Int.reduceLT, Int.reduceLE, Int.reduceEq, f2, f3, f4]
              exact ⟨rfl, by rw [List.take_zero]; rfl⟩
            · rintro f s' ⟨i, hi, f2, f5, f50, f51, rfl⟩
              have hq : (quads (F.take i)).length = 4 * i := by rw [quads_length]; simp; omega
              by_cases hlt : (i : Int) < 8
              · have c0 : (cellsB (quads (F.take i))).length = 32 := cellsB_length (by omega)
                have g0 : (4 * (i : Int)).toNat = 4 * i := by omega
                have g1 : (4 * (i : Int) + 1).toNat = 4 * i + 1 := by omega
                have g2 : (4 * (i : Int) + 2).toNat = 4 * i + 2 := by omega
                have g3 : (4 * (i : Int) + 3).toNat = 4 * i + 3 := by omega
                have hp : ∀ (w : List UInt8) (x : UInt8), w.length < 32 → putAt (cellsB w) w.length [.v (.int .u8 x.toNat)] = cellsB (w ++ [x]) := fun w x h => cellsB_put x rfl h
                simp (dsimp := false) (implicitDefEqProofs := false) (maxSteps := 1000000) (disch := first | omega | assumption | (simp only [rL, Nat.reduceAdd]; done) | (simp only [rL, Nat.reduceAdd]; omega)) only [↓rD, rU, ev, ofConst, ofCell, ↓reduceIte, Nat.reduceEqDiff, Nat.reduceAdd, Nat.reduceSub, Nat.reduceMul, Nat.reduceLeDiff, Nat.reduceLT, Int.reduceNeg, Int.reduceToNat, Int.reduceAdd, Int.reduceSub, Int.reduceMul, Int.reduceLT, Int.reduceLE, Int.reduceEq, f2, f5, f50, f51, hlt, hCW, wl_at, g0, g1, g2, g3, cellsB_put, cellsB_length]
                refine ⟨⟨i + 1, by omega, by simp, ?_⟩, by omega⟩
                have e : quads (F.take (i + 1)) = quads (F.take i) ++ quad (F.getD i 0) := by
                  have hFi : i < F.length := by omega
                  have hg : F.getD i 0 = F[i] := by simp [List.getD, hFi]
                  rw [hg, quads, List.take_succ_eq_append_getElem hFi, List.flatMap_append]
                  simp only [List.flatMap_cons, List.flatMap_nil, List.append_nil, quads]
                rw [e, quad]; simp only [List.append_assoc, List.cons_append, List.nil_append]; rfl
              · obtain rfl : i = 8 := by omega
                have c0 : (cellsB (quads (F.take 8))).length = 32 := cellsB_length (by omega)
                have e8 : F.take 8 = F := List.take_of_length_le (by omega)
                have c1 : cellsB (quads F) = (quads F).map byteAV := by rw [e8] at hq; simp [cellsB, hq]
                have hQ : ((quads F).map byteAV).length = 32 := by rw [e8] at hq; simp [hq]
                have hq8 : (quads F).length = 32 := by rw [e8] at hq; exact hq
                rw [e8, c1]
                simp (dsimp := false) (implicitDefEqProofs := false) (maxSteps := 1000000) (disch := first | omega | assumption | (simp only [rL, Nat.reduceAdd]; done) | (simp only [rL, Nat.reduceAdd]; omega)) only [↓rD, rU, ev, ofConst, ofCell, ↓reduceIte, Nat.reduceEqDiff, Nat.reduceAdd, Nat.reduceSub, Nat.reduceMul, Nat.reduceLeDiff, Nat.reduceLT, Int.reduceNeg, Int.reduceToNat, Int.reduceAdd, Int.reduceSub, Int.reduceMul, Int.reduceLT, Int.reduceLE, Int.reduceEq, f2, f5, f50, f51, hlt, hQ, List.take_of_length_le, Hp.stA_of hl27, Hp.read_of hl27, d52, Ne.symm d52, Ne.symm d32, putAt_all]
                refine ⟨s, ?_, rfl, rfl⟩
                exact Hp.sub_new (Hp.sub_new (Hp.sub_new hs7 n3) (Hp.sub_none hs7 n5)) n2

theorem new_spec (s : Hp) : AC Try.prog 58 [] s fun r s' => ∃ l, s l = none ∧ r = .ptr l 0 ∧ s' = s.set l (.cells (wl H256 ++ [.sl [] .nil, .v (.int .u64 0)])) := by
  refine AC_run hm prep58 (by simp) ?_
  simp (dsimp := false) (implicitDefEqProofs := false) (maxSteps := 1000000) (disch := first | omega | assumption | (simp only [rL, Nat.reduceAdd]; done) | (simp only [rL, Nat.reduceAdd]; omega)) only [↓rD, rU, ev, ofConst, ofCell, ↓reduceIte, Nat.reduceEqDiff, Nat.reduceAdd, Nat.reduceSub, Nat.reduceMul, Nat.reduceLeDiff, Nat.reduceLT, Int.reduceNeg, Int.reduceToNat, Int.reduceAdd, Int.reduceSub, Int.reduceMul, Int.reduceLT, Int.reduceLE, Int.reduceEq]
  refine call_intro (begin_spec _) ?_
  rintro _ _ ⟨rfl, rfl⟩
  have h8 : (wl H256).length = 8 := rfl
  have e : putAt (List.replicate 8 (AV.v (Value.int IntKind.u32 0)) ++ [AV.sl [] Own.nil] ++ [AV.v (Value.int IntKind.u64 0)]) 0 (wl H256) = wl H256 ++ [.sl [] .nil, .v (.int .u64 0)] := rfl
  simp (dsimp := false) (implicitDefEqProofs := false) (maxSteps := 1000000) (disch := first | omega | assumption | (simp only [rL, Nat.reduceAdd]; done) | (simp only [rL, Nat.reduceAdd]; omega)) only [↓rD, rU, ev, ofConst, ofCell, ↓reduceIte, Nat.reduceEqDiff, Nat.reduceAdd, Nat.reduceSub, Nat.reduceMul, Nat.reduceLeDiff, Nat.reduceLT, Int.reduceNeg, Int.reduceToNat, Int.reduceAdd, Int.reduceSub, Int.reduceMul, Int.reduceLT, Int.reduceLE, Int.reduceEq, h8, e]
  refine newK_intro fun l hl => ?_
  simp (dsimp := false) (implicitDefEqProofs := false) (maxSteps := 1000000) (disch := first | omega | assumption | (simp only [rL, Nat.reduceAdd]; done) | (simp only [rL, Nat.reduceAdd]; omega)) only [↓rD, rU, ev, ofConst, ofCell, ↓reduceIte, Nat.reduceEqDiff, Nat.reduceAdd, Nat.reduceSub, Nat.reduceMul, Nat.reduceLeDiff, Nat.reduceLT, Int.reduceNeg, Int.reduceToNat, Int.reduceAdd, Int.reduceSub, Int.reduceMul, Int.reduceLT, Int.reduceLE, Int.reduceEq]
  exact ⟨_, Hp.sub_refl, l, hl, rfl, rfl⟩

def sha256 (bs : List UInt8) : List UInt8 :=
  quads (blocks ((padB bs.length (bs.drop (64 * (bs.length / 64)))).length / 64) (blocks (bs.length / 64) H256 bs) (padB bs.length (bs.drop (64 * (bs.length / 64)))))
theorem sha256_length (bs : List UInt8) : (sha256 bs).length = 32 := by
  rw [sha256, quads_length, blocks_length _ _ _ (blocks_length _ _ _ rfl)]

theorem sum_spec (bs : List UInt8) (o : Own) (hb : bs.length ≤ 70368744177664) (s : Hp) : AC Try.prog 34 [.sl (bs.map byteAV) o] s fun r s' => s' = s ∧ r = dg (sha256 bs) := by
  refine AC_run hm prep34 (by simp) ?_
  simp (dsimp := false) (implicitDefEqProofs := false) (maxSteps := 1000000) (disch := first | omega | assumption | (simp only [rL, Nat.reduceAdd]; done) | (simp only [rL, Nat.reduceAdd]; omega)) only [↓rD, rU, ev, ofConst, ofCell, ↓reduceIte, Nat.reduceEqDiff, Nat.reduceAdd, Nat.reduceSub, Nat.reduceMul, Nat.reduceLeDiff, Nat.reduceLT, Int.reduceNeg, Int.reduceToNat, Int.reduceAdd, Int.reduceSub, Int.reduceMul, Int.reduceLT, Int.reduceLE, Int.reduceEq]
  refine newK_intro fun l2 n2 => ?_
  simp (dsimp := false) (implicitDefEqProofs := false) (maxSteps := 1000000) (disch := first | omega | assumption | (simp only [rL, Nat.reduceAdd]; done) | (simp only [rL, Nat.reduceAdd]; omega)) only [↓rD, rU, ev, ofConst, ofCell, ↓reduceIte, Nat.reduceEqDiff, Nat.reduceAdd, Nat.reduceSub, Nat.reduceMul, Nat.reduceLeDiff, Nat.reduceLT, Int.reduceNeg, Int.reduceToNat, Int.reduceAdd, Int.reduceSub, Int.reduceMul, Int.reduceLT, Int.reduceLE, Int.reduceEq]
  refine call_intro (new_spec _) ?_
  rintro _ _ ⟨l, hl, rfl, rfl⟩
  obtain ⟨d2, nl⟩ := Hp.set_none hl
  simp (dsimp := false) (implicitDefEqProofs := false) (maxSteps := 1000000) (disch := first | omega | assumption | (simp only [rL, Nat.reduceAdd]; done) | (simp only [rL, Nat.reduceAdd]; omega)) only [↓rD, rU, ev, ofConst, ofCell, ↓reduceIte, Nat.reduceEqDiff, Nat.reduceAdd, Nat.reduceSub, Nat.reduceMul, Nat.reduceLeDiff, Nat.reduceLT, Int.reduceNeg, Int.reduceToNat, Int.reduceAdd, Int.reduceSub, Int.reduceMul, Int.reduceLT, Int.reduceLE, Int.reduceEq]
  refine call_intro (write_spec bs o hb _ l (Hp.set_same _ _ _)) ?_
  rintro _ _ ⟨o', rfl⟩
  simp (dsimp := false) (implicitDefEqProofs := false) (maxSteps := 1000000) (disch := first | omega | assumption | (simp only [rL, Nat.reduceAdd]; done) | (simp only [rL, Nat.reduceAdd]; omega)) only [↓rD, rU, ev, ofConst, ofCell, ↓reduceIte, Nat.reduceEqDiff, Nat.reduceAdd, Nat.reduceSub, Nat.reduceMul, Nat.reduceLeDiff, Nat.reduceLT, Int.reduceNeg, Int.reduceToNat, Int.reduceAdd, Int.reduceSub, Int.reduceMul, Int.reduceLT, Int.reduceLE, Int.reduceEq]
  have hdl : (bs.drop (64 * (bs.length / 64))).length = bs.length % 64 := by simp; omega
  refine call_intro (done_aux H256 rfl begin_spec (blocks (bs.length / 64) H256 bs) (blocks_length _ _ _ rfl) bs.length (bs.drop (64 * (bs.length / 64))) o' hb hdl (fun h0 => ?_) _ l (Hp.set_same _ _ _)) ?_
  · rw [h0]; rfl
  rintro _ _ ⟨rfl, rfl⟩
  have hq : ((sha256 bs).map byteAV).length = 32 := by rw [List.length_map, sha256_length]
  have hq' := sha256_length bs
  have hsd : dg (quads (blocks ((padB bs.length (bs.drop (64 * (bs.length / 64)))).length / 64) (blocks (bs.length / 64) H256 bs) (padB bs.length (bs.drop (64 * (bs.length / 64)))))) = .agg ((sha256 bs).map byteAV) := rfl
  rw [hsd]
  generalize sha256 bs = d at *
  simp (dsimp := false) (implicitDefEqProofs := false) (maxSteps := 1000000) (disch := first | omega | assumption | (simp only [rL, Nat.reduceAdd]; done) | (simp only [rL, Nat.reduceAdd]; omega)) only [↓rD, rU, ev, ofConst, ofCell, ↓reduceIte, Nat.reduceEqDiff, Nat.reduceAdd, Nat.reduceSub, Nat.reduceMul, Nat.reduceLeDiff, Nat.reduceLT, Int.reduceNeg, Int.reduceToNat, Int.reduceAdd, Int.reduceSub, Int.reduceMul, Int.reduceLT, Int.reduceLE, Int.reduceEq, hq, Ne.symm d2]
  exact ⟨s, Hp.sub_new (Hp.sub_new Hp.sub_refl n2) nl, rfl, by rw [List.take_of_length_le (by omega)]; rfl⟩
end Go.Proofs.Ytapjikladjoicaa
set_option maxRecDepth 100000
namespace Go.Proofs.Ytapjikladjoicaa
open Go Go.Av

def blen (x : Nat) : Nat := if x = 0 then 0 else x.log2 + 1
theorem blen_shift (x k : Nat) (h : 2 ^ k ≤ x) : k + blen (x >>> k) = blen x := by
  have hp : 0 < 2 ^ k := Nat.pow_pos (by omega)
  have h0 : x ≠ 0 := by omega
  have h1 : x >>> k ≠ 0 := by
    rw [Nat.shiftRight_eq_div_pow]
    have := Nat.div_pos h hp; omega
  have e : x.log2 = k + (x >>> k).log2 := by
    rw [Nat.log2_eq_iff h0]
    obtain ⟨a, b⟩ := (Nat.log2_eq_iff h1).1 rfl
    generalize (x >>> k).log2 = L at *
    rw [Nat.shiftRight_eq_div_pow] at a b
    rw [Nat.le_div_iff_mul_le hp] at a
    rw [Nat.div_lt_iff_lt_mul hp] at b
    constructor
    · rw [Nat.add_comm, Nat.pow_add]; exact a
    · rw [show k + L + 1 = (L + 1) + k by omega, Nat.pow_add]; exact b
  simp only [blen, h0, h1, if_false, e]; omega
theorem blen_le (x k : Nat) (h : x < 2 ^ k) : blen x ≤ k := by
  unfold blen; split
  · omega
  · rename_i h0; have := (Nat.log2_lt h0).2 h; omega

def tabOk (t : ByteArray) : Bool := (List.range 256).all fun i => t.data[i]? == some (UInt8.ofNat (blen i))
theorem tab_ok (t : ByteArray) (x : Nat) (h : tabOk t = true) (hx : x < 256) : idxSA (.v (.string t)) (.v (.int .u8 x)) = some (.v (.int .u8 (blen x))) := by
  simp only [tabOk, List.all_eq_true, List.mem_range] at h
  have h1 := h x hx
  have h2 : t.data[x]? = some (UInt8.ofNat (blen x)) := by simpa using h1
  have h3 := blen_le x 8 hx
  simp only [idxSA, Int.toNat_natCast, h2, if_pos (Int.natCast_nonneg x)]
  have : (UInt8.ofNat (blen x)).toNat = blen x := by simp; omega
  rw [this]

theorem len64_spec (x : Nat) (hx : x < 2 ^ 64) (s : Hp) : AC Try.prog 88 [.v (.int .u64 x)] s fun r s' => s' = s ∧ r = .v (.int .i64 (blen x)) := by
  refine AC_run hm prep88 (by simp) ?_
  simp (dsimp := false) (implicitDefEqProofs := false) (maxSteps := 1000000) (disch := first | omega | assumption | (simp only [rL, Nat.reduceAdd]; done) | (simp only [rL, Nat.reduceAdd]; omega)) only [↓rD, rU, ev, ofConst, ofCell, ↓reduceIte, Nat.reduceEqDiff, Nat.reduceAdd, Nat.reduceSub, Nat.reduceMul, Nat.reduceLeDiff, Nat.reduceLT, Int.reduceNeg, Int.reduceToNat, Int.reduceAdd, Int.reduceSub, Int.reduceMul, Int.reduceLT, Int.reduceLE, Int.reduceEq]
  refine cond_join (fun f s' => s' = s ∧ ∃ y r : Nat, f 0 = .v (.int .u64 y) ∧ f 2 = .v (.int .i64 r) ∧ y < 2 ^ 32 ∧ r ≤ 32 ∧ r + blen y = blen x) ?_ ?_ ?_
  · intro h
    have h : 4294967296 ≤ x := by simp at h; omega
    simp (dsimp := false) (implicitDefEqProofs := false) (maxSteps := 1000000) (disch := first | omega | assumption | (simp only [rL, Nat.reduceAdd]; done) | (simp only [rL, Nat.reduceAdd]; omega)) only [↓rD, rU, ev, ofConst, ofCell, ↓reduceIte, Nat.reduceEqDiff, Nat.reduceAdd, Nat.reduceSub, Nat.reduceMul, Nat.reduceLeDiff, Nat.reduceLT, Int.reduceNeg, Int.reduceToNat, Int.reduceAdd, Int.reduceSub, Int.reduceMul, Int.reduceLT, Int.reduceLE, Int.reduceEq]
    exact ⟨x >>> 32, 32, rfl, rfl, by simp [Nat.shiftRight_eq_div_pow]; omega, by omega, blen_shift x 32 h⟩
  · intro h
    have h : x < 4294967296 := by simp at h; omega
    simp (dsimp := false) (implicitDefEqProofs := false) (maxSteps := 1000000) (disch := first | omega | assumption | (simp only [rL, Nat.reduceAdd]; done) | (simp only [rL, Nat.reduceAdd]; omega)) only [↓rD, rU, ev, ofConst, ofCell, ↓reduceIte, Nat.reduceEqDiff, Nat.reduceAdd, Nat.reduceSub, Nat.reduceMul, Nat.reduceLeDiff, Nat.reduceLT, Int.reduceNeg, Int.reduceToNat, Int.reduceAdd, Int.reduceSub, Int.reduceMul, Int.reduceLT, Int.reduceLE, Int.reduceEq]
    exact ⟨x, 0, rfl, rfl, h, by omega, by omega⟩
  rintro f s' ⟨hs', y, r, f0, f2, hy, hr, hb⟩
  rw [hs']
  simp (dsimp := false) (implicitDefEqProofs := false) (maxSteps := 1000000) (disch := first | omega | assumption | (simp only [rL, Nat.reduceAdd]; done) | (simp only [rL, Nat.reduceAdd]; omega)) only [↓rD, rU, ev, ofConst, ofCell, ↓reduceIte, Nat.reduceEqDiff, Nat.reduceAdd, Nat.reduceSub, Nat.reduceMul, Nat.reduceLeDiff, Nat.reduceLT, Int.reduceNeg, Int.reduceToNat, Int.reduceAdd, Int.reduceSub, Int.reduceMul, Int.reduceLT, Int.reduceLE, Int.reduceEq, f0, f2]
  refine cond_join (fun f s' => s' = s ∧ ∃ y r : Nat, f 0 = .v (.int .u64 y) ∧ f 2 = .v (.int .i64 r) ∧ y < 2 ^ 16 ∧ r ≤ 48 ∧ r + blen y = blen x) ?_ ?_ ?_
  · intro h
    have h : 65536 ≤ y := by simp at h; omega
    simp (dsimp := false) (implicitDefEqProofs := false) (maxSteps := 1000000) (disch := first | omega | assumption | (simp only [rL, Nat.reduceAdd]; done) | (simp only [rL, Nat.reduceAdd]; omega)) only [↓rD, rU, ev, ofConst, ofCell, ↓reduceIte, Nat.reduceEqDiff, Nat.reduceAdd, Nat.reduceSub, Nat.reduceMul, Nat.reduceLeDiff, Nat.reduceLT, Int.reduceNeg, Int.reduceToNat, Int.reduceAdd, Int.reduceSub, Int.reduceMul, Int.reduceLT, Int.reduceLE, Int.reduceEq, f0, f2]
    exact ⟨y >>> 16, r + 16, rfl, by simp, by simp [Nat.shiftRight_eq_div_pow]; omega, by omega, by have := blen_shift y 16 h; rw [← hb, ← this]; omega⟩
  · intro h
    have h : y < 65536 := by simp at h; omega
    simp (dsimp := false) (implicitDefEqProofs := false) (maxSteps := 1000000) (disch := first | omega | assumption | (simp only [rL, Nat.reduceAdd]; done) | (simp only [rL, Nat.reduceAdd]; omega)) only [↓rD, rU, ev, ofConst, ofCell, ↓reduceIte, Nat.reduceEqDiff, Nat.reduceAdd, Nat.reduceSub, Nat.reduceMul, Nat.reduceLeDiff, Nat.reduceLT, Int.reduceNeg, Int.reduceToNat, Int.reduceAdd, Int.reduceSub, Int.reduceMul, Int.reduceLT, Int.reduceLE, Int.reduceEq, f0, f2]
    exact ⟨y, r, rfl, rfl, h, by omega, hb⟩
  rintro f s' ⟨hs', y, r, f0, f2, hy, hr, hb⟩
  rw [hs']
  simp (dsimp := false) (implicitDefEqProofs := false) (maxSteps := 1000000) (disch := first | omega | assumption | (simp only [rL, Nat.reduceAdd]; done) | (simp only [rL, Nat.reduceAdd]; omega)) only [↓rD, rU, ev, ofConst, ofCell, ↓reduceIte, Nat.reduceEqDiff, Nat.reduceAdd, Nat.reduceSub, Nat.reduceMul, Nat.reduceLeDiff, Nat.reduceLT, Int.reduceNeg, Int.reduceToNat, Int.reduceAdd, Int.reduceSub, Int.reduceMul, Int.reduceLT, Int.reduceLE, Int.reduceEq, f0, f2]
  refine cond_join (fun f s' => s' = s ∧ ∃ y r : Nat, f 0 = .v (.int .u64 y) ∧ f 2 = .v (.int .i64 r) ∧ y < 2 ^ 8 ∧ r ≤ 56 ∧ r + blen y = blen x) ?_ ?_ ?_
  · intro h
    have h : 256 ≤ y := by simp at h; omega
    simp (dsimp := false) (implicitDefEqProofs := false) (maxSteps := 1000000) (disch := first | omega | assumption | (simp only [rL, Nat.reduceAdd]; done) | (simp only [rL, Nat.reduceAdd]; omega)) only [↓rD, rU, ev, ofConst, ofCell, ↓reduceIte, Nat.reduceEqDiff, Nat.reduceAdd, Nat.reduceSub, Nat.reduceMul, Nat.reduceLeDiff, Nat.reduceLT, Int.reduceNeg, Int.reduceToNat, Int.reduceAdd, Int.reduceSub, Int.reduceMul, Int.reduceLT, Int.reduceLE, Int.reduceEq, f0, f2]
    exact ⟨y >>> 8, r + 8, rfl, by simp, by simp [Nat.shiftRight_eq_div_pow]; omega, by omega, by have := blen_shift y 8 h; rw [← hb, ← this]; omega⟩
  · intro h
    have h : y < 256 := by simp at h; omega
    simp (dsimp := false) (implicitDefEqProofs := false) (maxSteps := 1000000) (disch := first | omega | assumption | (simp only [rL, Nat.reduceAdd]; done) | (simp only [rL, Nat.reduceAdd]; omega)) only [↓rD, rU, ev, ofConst, ofCell, ↓reduceIte, Nat.reduceEqDiff, Nat.reduceAdd, Nat.reduceSub, Nat.reduceMul, Nat.reduceLeDiff, Nat.reduceLT, Int.reduceNeg, Int.reduceToNat, Int.reduceAdd, Int.reduceSub, Int.reduceMul, Int.reduceLT, Int.reduceLE, Int.reduceEq, f0, f2]
    exact ⟨y, r, rfl, rfl, h, by omega, hb⟩
  rintro f s' ⟨hs', y, r, f0, f2, hy, hr, hb⟩
  rw [hs']
  have hw : IntKind.u8.wrap (y : Int) = y := wrap_u8 (by omega) (by omega)
  have hl := blen_le y 8 hy
  simp (dsimp := false) (implicitDefEqProofs := false) (maxSteps := 1000000) (disch := first | omega | assumption | (simp only [rL, Nat.reduceAdd]; done) | (simp only [rL, Nat.reduceAdd]; omega)) only [↓rD, rU, ev, ofConst, ofCell, ↓reduceIte, Nat.reduceEqDiff, Nat.reduceAdd, Nat.reduceSub, Nat.reduceMul, Nat.reduceLeDiff, Nat.reduceLT, Int.reduceNeg, Int.reduceToNat, Int.reduceAdd, Int.reduceSub, Int.reduceMul, Int.reduceLT, Int.reduceLE, Int.reduceEq, f0, f2, hw]
  rw [tab_ok]
  · simp (dsimp := false) (implicitDefEqProofs := false) (maxSteps := 1000000) (disch := first | omega | assumption | (simp only [rL, Nat.reduceAdd]; done) | (simp only [rL, Nat.reduceAdd]; omega)) only [↓rD, rU, ev, ofConst, ofCell, ↓reduceIte, Nat.reduceEqDiff, Nat.reduceAdd, Nat.reduceSub, Nat.reduceMul, Nat.reduceLeDiff, Nat.reduceLT, Int.reduceNeg, Int.reduceToNat, Int.reduceAdd, Int.reduceSub, Int.reduceMul, Int.reduceLT, Int.reduceLE, Int.reduceEq, f0, f2]
    exact ⟨s, Hp.sub_refl, rfl, by rw [← hb]; simp⟩
  · decide
  · exact hy
end Go.Proofs.Ytapjikladjoicaa
set_option maxRecDepth 100000
namespace Go.Proofs.Ytapjikladjoicaa
open Go Go.Av

theorem len_spec (x : Nat) (hx : x < 2 ^ 64) (s : Hp) : AC Try.prog 76 [.v (.int .u64 x)] s fun r s' => s' = s ∧ r = .v (.int .i64 (blen x)) := by
  refine AC_run hm prep76 (by simp) ?_
  simp (dsimp := false) (implicitDefEqProofs := false) (maxSteps := 1000000) (disch := first | omega | assumption | (simp only [rL, Nat.reduceAdd]; done) | (simp only [rL, Nat.reduceAdd]; omega)) only [↓rD, rU, ev, ofConst, ofCell, ↓reduceIte, Nat.reduceEqDiff, Nat.reduceAdd, Nat.reduceSub, Nat.reduceMul, Nat.reduceLeDiff, Nat.reduceLT, Int.reduceNeg, Int.reduceToNat, Int.reduceAdd, Int.reduceSub, Int.reduceMul, Int.reduceLT, Int.reduceLE, Int.reduceEq]
  refine call_intro (len64_spec x hx _) ?_
  rintro _ _ ⟨rfl, rfl⟩
  simp (dsimp := false) (implicitDefEqProofs := false) (maxSteps := 1000000) (disch := first | omega | assumption | (simp only [rL, Nat.reduceAdd]; done) | (simp only [rL, Nat.reduceAdd]; omega)) only [↓rD, rU, ev, ofConst, ofCell, ↓reduceIte, Nat.reduceEqDiff, Nat.reduceAdd, Nat.reduceSub, Nat.reduceMul, Nat.reduceLeDiff, Nat.reduceLT, Int.reduceNeg, Int.reduceToNat, Int.reduceAdd, Int.reduceSub, Int.reduceMul, Int.reduceLT, Int.reduceLE, Int.reduceEq]
  exact ⟨_, Hp.sub_refl, rfl⟩

def half (n : Nat) : Nat := 2 ^ (n - 1).log2
theorem half_pos (n : Nat) : 0 < half n := Nat.pow_pos (by omega)
theorem half_lt (n : Nat) (h : 2 ≤ n) : half n < n := by
  have := Nat.log2_self_le (show n - 1 ≠ 0 by omega)
  unfold half; omega
theorem half_le (n : Nat) (h : 2 ≤ n) : n ≤ 2 * half n := by
  have := Nat.lt_log2_self (n := n - 1)
  rw [Nat.pow_succ] at this
  unfold half; omega

theorem half_spec (n : Nat) (h : 2 ≤ n) (hn : n ≤ 2 ^ 60) (s : Hp) : AC Try.prog 54 [.v (.int .i64 n)] s fun r s' => s' = s ∧ r = .v (.int .i64 (half n)) := by
  refine AC_run hm prep54 (by simp) ?_
  have e : (n : Int) - 1 = ((n - 1 : Nat) : Int) := by omega
  simp (dsimp := false) (implicitDefEqProofs := false) (maxSteps := 1000000) (disch := first | omega | assumption | (simp only [rL, Nat.reduceAdd]; done) | (simp only [rL, Nat.reduceAdd]; omega)) only [↓rD, rU, ev, ofConst, ofCell, ↓reduceIte, Nat.reduceEqDiff, Nat.reduceAdd, Nat.reduceSub, Nat.reduceMul, Nat.reduceLeDiff, Nat.reduceLT, Int.reduceNeg, Int.reduceToNat, Int.reduceAdd, Int.reduceSub, Int.reduceMul, Int.reduceLT, Int.reduceLE, Int.reduceEq, e]
  refine call_intro (len_spec (n - 1) (by omega) _) ?_
  rintro _ _ ⟨rfl, rfl⟩
  have hb : blen (n - 1) = (n - 1).log2 + 1 := by simp [blen]; omega
  have hl : (n - 1).log2 < 60 := (Nat.log2_lt (by omega)).2 (by omega)
  have e2 : ((blen (n - 1) : Nat) : Int) - 1 = ((n - 1).log2 : Nat) := by omega
  have hlt := half_lt n h
  have e3 : (2 : Int) ^ (n - 1).log2 = (half n : Nat) := by simp [half]
  simp (dsimp := false) (implicitDefEqProofs := false) (maxSteps := 1000000) (disch := first | omega | assumption | (simp only [rL, Nat.reduceAdd]; done) | (simp only [rL, Nat.reduceAdd]; omega)) only [↓rD, rU, ev, ofConst, ofCell, ↓reduceIte, Nat.reduceEqDiff, Nat.reduceAdd, Nat.reduceSub, Nat.reduceMul, Nat.reduceLeDiff, Nat.reduceLT, Int.reduceNeg, Int.reduceToNat, Int.reduceAdd, Int.reduceSub, Int.reduceMul, Int.reduceLT, Int.reduceLE, Int.reduceEq, e2, shl_i64, Int.one_mul, e3]
  exact ⟨_, Hp.sub_refl, rfl⟩

def leafB (d : List UInt8) : List UInt8 := preB 76 [d]
def nodeB (a b : List UInt8) : List UInt8 := preB 78 [a, b]
theorem leafB_length (d : List UInt8) (h : d.length = 32) : (leafB d).length = 41 := by simp [leafB, preB, chunk, eightB, h]
theorem nodeB_length (a b : List UInt8) (h : a.length = 32) (h2 : b.length = 32) : (nodeB a b).length = 81 := by simp [nodeB, preB, chunk, eightB, h, h2]

theorem leaf_spec (d : List UInt8) (hd : d.length = 32) (s : Hp) : AC Try.prog 53 [dg d] s fun r s' => ∃ o, Owned s s' 1 ((leafB d).map byteAV) o ∧ r = .sl ((leafB d).map byteAV) o := by
  refine AC_run hm prep53 (by simp) ?_
  have hl : (dg d).cells = d.map byteAV := rfl
  have hl2 : (d.map byteAV).length = 32 := by simp [hd]
  simp (dsimp := false) (implicitDefEqProofs := false) (maxSteps := 1000000) (disch := first | omega | assumption | (simp only [rL, Nat.reduceAdd]; done) | (simp only [rL, Nat.reduceAdd]; omega)) only [↓rD, rU, ev, ofConst, ofCell, ↓reduceIte, Nat.reduceEqDiff, Nat.reduceAdd, Nat.reduceSub, Nat.reduceMul, Nat.reduceLeDiff, Nat.reduceLT, Int.reduceNeg, Int.reduceToNat, Int.reduceAdd, Int.reduceSub, Int.reduceMul, Int.reduceLT, Int.reduceLE, Int.reduceEq, hl, hd]
  refine newK_intro fun l nl => ?_
  simp (dsimp := false) (implicitDefEqProofs := false) (maxSteps := 1000000) (disch := first | omega | assumption | (simp only [rL, Nat.reduceAdd]; done) | (simp only [rL, Nat.reduceAdd]; omega)) only [↓rD, rU, ev, ofConst, ofCell, ↓reduceIte, Nat.reduceEqDiff, Nat.reduceAdd, Nat.reduceSub, Nat.reduceMul, Nat.reduceLeDiff, Nat.reduceLT, Int.reduceNeg, Int.reduceToNat, Int.reduceAdd, Int.reduceSub, Int.reduceMul, Int.reduceLT, Int.reduceLE, Int.reduceEq, slcRA_one (Hp.set_same _ _ _) hl2, hl]
  refine bsl_own Hp.sub_refl ?_ fun o1 s1 h1 => ?_
  · simp [allLen, AV.cells]
  simp (dsimp := false) (implicitDefEqProofs := false) (maxSteps := 1000000) (disch := first | omega | assumption | (simp only [rL, Nat.reduceAdd]; done) | (simp only [rL, Nat.reduceAdd]; omega)) only [↓rD, rU, ev, ofConst, ofCell, ↓reduceIte, Nat.reduceEqDiff, Nat.reduceAdd, Nat.reduceSub, Nat.reduceMul, Nat.reduceLeDiff, Nat.reduceLT, Int.reduceNeg, Int.reduceToNat, Int.reduceAdd, Int.reduceSub, Int.reduceMul, Int.reduceLT, Int.reduceLE, Int.reduceEq]
  refine call_intro (pre_spec 76 [(d, .any)] o1 (by have := leafB_length d hd; simp only [leafB] at this; simp only [List.map_cons, List.map_nil, this]; omega) _) ?_
  rintro _ s2 ⟨o2, h2, rfl⟩
  simp (dsimp := false) (implicitDefEqProofs := false) (maxSteps := 1000000) (disch := first | omega | assumption | (simp only [rL, Nat.reduceAdd]; done) | (simp only [rL, Nat.reduceAdd]; omega)) only [↓rD, rU, ev, ofConst, ofCell, ↓reduceIte, Nat.reduceEqDiff, Nat.reduceAdd, Nat.reduceSub, Nat.reduceMul, Nat.reduceLeDiff, Nat.reduceLT, Int.reduceNeg, Int.reduceToNat, Int.reduceAdd, Int.reduceSub, Int.reduceMul, Int.reduceLT, Int.reduceLE, Int.reduceEq]
  exact ⟨s2, Hp.sub_refl, o2, h2.base (Hp.sub_trans (Hp.sub_new Hp.sub_refl nl) h1.sub), rfl⟩

theorem node_spec (a b : List UInt8) (ha : a.length = 32) (hb : b.length = 32) (s : Hp) : AC Try.prog 55 [dg a, dg b] s fun r s' => ∃ o, Owned s s' 1 ((nodeB a b).map byteAV) o ∧ r = .sl ((nodeB a b).map byteAV) o := by
  refine AC_run hm prep55 (by simp) ?_
  have hl (d) : (dg d).cells = d.map byteAV := rfl
  have ha2 : (a.map byteAV).length = 32 := by simp [ha]
  have hb2 : (b.map byteAV).length = 32 := by simp [hb]
  simp (dsimp := false) (implicitDefEqProofs := false) (maxSteps := 1000000) (disch := first | omega | assumption | (simp only [rL, Nat.reduceAdd]; done) | (simp only [rL, Nat.reduceAdd]; omega)) only [↓rD, rU, ev, ofConst, ofCell, ↓reduceIte, Nat.reduceEqDiff, Nat.reduceAdd, Nat.reduceSub, Nat.reduceMul, Nat.reduceLeDiff, Nat.reduceLT, Int.reduceNeg, Int.reduceToNat, Int.reduceAdd, Int.reduceSub, Int.reduceMul, Int.reduceLT, Int.reduceLE, Int.reduceEq, hl, ha]
  refine newK_intro fun l nl => ?_
  simp (dsimp := false) (implicitDefEqProofs := false) (maxSteps := 1000000) (disch := first | omega | assumption | (simp only [rL, Nat.reduceAdd]; done) | (simp only [rL, Nat.reduceAdd]; omega)) only [↓rD, rU, ev, ofConst, ofCell, ↓reduceIte, Nat.reduceEqDiff, Nat.reduceAdd, Nat.reduceSub, Nat.reduceMul, Nat.reduceLeDiff, Nat.reduceLT, Int.reduceNeg, Int.reduceToNat, Int.reduceAdd, Int.reduceSub, Int.reduceMul, Int.reduceLT, Int.reduceLE, Int.reduceEq, hl, hb]
  refine newK_intro fun l2 nl2 => ?_
  obtain ⟨dl, nl2⟩ := Hp.set_none nl2
  have hs1 : ((s.set l (.ro (a.map byteAV))).set l2 (.ro (b.map byteAV))) l = some (.ro (a.map byteAV)) := by rw [Hp.set_ne _ _ (Ne.symm dl)]; exact Hp.set_same _ _ _
  simp (dsimp := false) (implicitDefEqProofs := false) (maxSteps := 1000000) (disch := first | omega | assumption | (simp only [rL, Nat.reduceAdd]; done) | (simp only [rL, Nat.reduceAdd]; omega)) only [↓rD, rU, ev, ofConst, ofCell, ↓reduceIte, Nat.reduceEqDiff, Nat.reduceAdd, Nat.reduceSub, Nat.reduceMul, Nat.reduceLeDiff, Nat.reduceLT, Int.reduceNeg, Int.reduceToNat, Int.reduceAdd, Int.reduceSub, Int.reduceMul, Int.reduceLT, Int.reduceLE, Int.reduceEq, slcRA_one hs1 ha2, slcRA_one (Hp.set_same _ _ _) hb2, hl]
  refine bsl_own Hp.sub_refl ?_ fun o1 s1 h1 => ?_
  · simp [allLen, AV.cells]
  simp (dsimp := false) (implicitDefEqProofs := false) (maxSteps := 1000000) (disch := first | omega | assumption | (simp only [rL, Nat.reduceAdd]; done) | (simp only [rL, Nat.reduceAdd]; omega)) only [↓rD, rU, ev, ofConst, ofCell, ↓reduceIte, Nat.reduceEqDiff, Nat.reduceAdd, Nat.reduceSub, Nat.reduceMul, Nat.reduceLeDiff, Nat.reduceLT, Int.reduceNeg, Int.reduceToNat, Int.reduceAdd, Int.reduceSub, Int.reduceMul, Int.reduceLT, Int.reduceLE, Int.reduceEq]
  refine call_intro (pre_spec 78 [(a, .any), (b, .any)] o1 (by have := nodeB_length a b ha hb; simp only [nodeB] at this; simp only [List.map_cons, List.map_nil, this]; omega) _) ?_
  rintro _ s2 ⟨o2, h2, rfl⟩
  simp (dsimp := false) (implicitDefEqProofs := false) (maxSteps := 1000000) (disch := first | omega | assumption | (simp only [rL, Nat.reduceAdd]; done) | (simp only [rL, Nat.reduceAdd]; omega)) only [↓rD, rU, ev, ofConst, ofCell, ↓reduceIte, Nat.reduceEqDiff, Nat.reduceAdd, Nat.reduceSub, Nat.reduceMul, Nat.reduceLeDiff, Nat.reduceLT, Int.reduceNeg, Int.reduceToNat, Int.reduceAdd, Int.reduceSub, Int.reduceMul, Int.reduceLT, Int.reduceLE, Int.reduceEq]
  exact ⟨s2, Hp.sub_refl, o2, h2.base (Hp.sub_trans (Hp.sub_new (Hp.sub_new Hp.sub_refl nl) nl2) h1.sub), rfl⟩

theorem hash_spec (tag : UInt8) (ts : List (List UInt8 × Own)) (o : Own) (hlen : (preB tag (ts.map (·.1))).length ≤ 70368744177664) (s : Hp) :
    AC Try.prog 52 [.v (.int .u8 tag.toNat), .sl (TX ts) o] s fun r s' => s' = s ∧ r = dg (sha256 (preB tag (ts.map (·.1)))) := by
  refine AC_run hm prep52 (by simp) ?_
  simp (dsimp := false) (implicitDefEqProofs := false) (maxSteps := 1000000) (disch := first | omega | assumption | (simp only [rL, Nat.reduceAdd]; done) | (simp only [rL, Nat.reduceAdd]; omega)) only [↓rD, rU, ev, ofConst, ofCell, ↓reduceIte, Nat.reduceEqDiff, Nat.reduceAdd, Nat.reduceSub, Nat.reduceMul, Nat.reduceLeDiff, Nat.reduceLT, Int.reduceNeg, Int.reduceToNat, Int.reduceAdd, Int.reduceSub, Int.reduceMul, Int.reduceLT, Int.reduceLE, Int.reduceEq]
  refine newK_intro fun l nl => ?_
  simp (dsimp := false) (implicitDefEqProofs := false) (maxSteps := 1000000) (disch := first | omega | assumption | (simp only [rL, Nat.reduceAdd]; done) | (simp only [rL, Nat.reduceAdd]; omega)) only [↓rD, rU, ev, ofConst, ofCell, ↓reduceIte, Nat.reduceEqDiff, Nat.reduceAdd, Nat.reduceSub, Nat.reduceMul, Nat.reduceLeDiff, Nat.reduceLT, Int.reduceNeg, Int.reduceToNat, Int.reduceAdd, Int.reduceSub, Int.reduceMul, Int.reduceLT, Int.reduceLE, Int.reduceEq]
  refine call_intro (pre_spec tag ts o hlen _) ?_
  rintro _ s1 ⟨o1, h1, rfl⟩
  have hl := h1.sub _ _ (Hp.set_same _ _ _)
  rw [← Hp.set_eq hl]
  simp (dsimp := false) (implicitDefEqProofs := false) (maxSteps := 1000000) (disch := first | omega | assumption | (simp only [rL, Nat.reduceAdd]; done) | (simp only [rL, Nat.reduceAdd]; omega)) only [↓rD, rU, ev, ofConst, ofCell, ↓reduceIte, Nat.reduceEqDiff, Nat.reduceAdd, Nat.reduceSub, Nat.reduceMul, Nat.reduceLeDiff, Nat.reduceLT, Int.reduceNeg, Int.reduceToNat, Int.reduceAdd, Int.reduceSub, Int.reduceMul, Int.reduceLT, Int.reduceLE, Int.reduceEq]
  refine call_intro (sum_spec _ o1 hlen _) ?_
  rintro _ _ ⟨rfl, rfl⟩
  have hq := sha256_length (preB tag (ts.map (·.1)))
  have hq2 : ((sha256 (preB tag (ts.map (·.1)))).map byteAV).length = 32 := by rw [List.length_map, hq]
  generalize sha256 (preB tag (ts.map (·.1))) = d at *
  have hdc : (dg d).cells = d.map byteAV := rfl
  simp (dsimp := false) (implicitDefEqProofs := false) (maxSteps := 1000000) (disch := first | omega | assumption | (simp only [rL, Nat.reduceAdd]; done) | (simp only [rL, Nat.reduceAdd]; omega)) only [↓rD, rU, ev, ofConst, ofCell, ↓reduceIte, Nat.reduceEqDiff, Nat.reduceAdd, Nat.reduceSub, Nat.reduceMul, Nat.reduceLeDiff, Nat.reduceLT, Int.reduceNeg, Int.reduceToNat, Int.reduceAdd, Int.reduceSub, Int.reduceMul, Int.reduceLT, Int.reduceLE, Int.reduceEq, hdc, hq2, hq]
  refine ⟨s, Hp.sub_new (Hp.sub_trans (Hp.sub_new Hp.sub_refl nl) h1.sub) nl, rfl, ?_⟩
  rw [List.take_of_length_le (by omega)]; rfl
end Go.Proofs.Ytapjikladjoicaa
set_option maxRecDepth 100000
namespace Go.Proofs.Ytapjikladjoicaa
open Go Go.Av

def Digs (l : List (List UInt8)) : Prop := ∀ d ∈ l, d.length = 32
theorem Digs.take {l : List (List UInt8)} (h : Digs l) (n : Nat) : Digs (l.take n) := fun d hd => h d (List.mem_of_mem_take hd)
theorem Digs.drop {l : List (List UInt8)} (h : Digs l) (n : Nat) : Digs (l.drop n) := fun d hd => h d (List.mem_of_mem_drop hd)
theorem Digs.all {l : List (List UInt8)} (h : Digs l) : allLen 32 (l.map dg) := by
  intro e he
  obtain ⟨d, hd, rfl⟩ := List.mem_map.1 he
  simp [dg, AV.cells, h d hd]
theorem mapd_take {l : List (List UInt8)} {n : Nat} : (l.map dg).take n = (l.take n).map dg := by rw [List.map_take]
theorem mapd_drop {l : List (List UInt8)} {n : Nat} : (l.map dg).drop n = (l.drop n).map dg := by rw [List.map_drop]
theorem dg_cells {d : List UInt8} : (dg d).cells = d.map byteAV := rfl
theorem dg_fold {d : List UInt8} (h : d.length = 32) : (.agg ((d.take 32).map byteAV) : AV) = dg d := by rw [List.take_of_length_le (by simp [h])]; rfl
theorem elA_dg {d : List UInt8} (h : d.length = 32) : elA 32 (some (dg d)) = some (.rptr (d.map byteAV)) := by simp [elA, dg_cells, h]

def rootD (l : List (List UInt8)) : List UInt8 :=
  if h : l.length < 2 then (match l with | [] => sha256 (preB 72 []) | d :: _ => sha256 (leafB d))
  else sha256 (nodeB (rootD (l.take (half l.length))) (rootD (l.drop (half l.length))))
termination_by l.length
decreasing_by
  · have := half_lt l.length (by omega); simp; omega
  · have := half_pos l.length; simp; omega
theorem rootD_nil : rootD [] = sha256 (preB 72 []) := by rw [rootD]; rfl
theorem rootD_one (d : List UInt8) : rootD [d] = sha256 (leafB d) := by rw [rootD]; rfl
theorem rootD_node (l : List (List UInt8)) (h : 2 ≤ l.length) : rootD l = sha256 (nodeB (rootD (l.take (half l.length))) (rootD (l.drop (half l.length)))) := by
  rw [rootD, dif_neg (by omega)]
theorem rootD_length (l : List (List UInt8)) : (rootD l).length = 32 := by
  match l with
  | [] => rw [rootD_nil, sha256_length]
  | [d] => rw [rootD_one, sha256_length]
  | a :: b :: r => rw [rootD_node _ (by simp), sha256_length]

theorem root_spec : ∀ (N : Nat) (l : List (List UInt8)) (o : Own) (s : Hp), l.length = N → l.length ≤ 1099511627776 → Digs l → AC Try.prog 25 [.sl (l.map dg) o] s fun r s' => s' = s ∧ r = dg (rootD l) := by
  intro N
  induction N using Nat.strongRecOn with
  | _ N ih =>
  intro l o s hN hle hd
  refine AC_run hm prep25 (by simp) ?_
  simp (dsimp := false) (implicitDefEqProofs := false) (maxSteps := 1000000) (disch := first | omega | assumption | (simp only [rL, Nat.reduceAdd]; done) | (simp only [rL, Nat.reduceAdd]; omega)) only [↓rD, rU, ev, ofConst, ofCell, ↓reduceIte, Nat.reduceEqDiff, Nat.reduceAdd, Nat.reduceSub, Nat.reduceMul, Nat.reduceLeDiff, Nat.reduceLT, Int.reduceNeg, Int.reduceToNat, Int.reduceAdd, Int.reduceSub, Int.reduceMul, Int.reduceLT, Int.reduceLE, Int.reduceEq, rX]
  refine newK_intro fun l2 n2 => ?_
  simp (dsimp := false) (implicitDefEqProofs := false) (maxSteps := 1000000) (disch := first | omega | assumption | (simp only [rL, Nat.reduceAdd]; done) | (simp only [rL, Nat.reduceAdd]; omega)) only [↓rD, rU, ev, ofConst, ofCell, ↓reduceIte, Nat.reduceEqDiff, Nat.reduceAdd, Nat.reduceSub, Nat.reduceMul, Nat.reduceLeDiff, Nat.reduceLT, Int.reduceNeg, Int.reduceToNat, Int.reduceAdd, Int.reduceSub, Int.reduceMul, Int.reduceLT, Int.reduceLE, Int.reduceEq, rX]
  by_cases h0 : l.length = 0
  · obtain rfl := List.eq_nil_of_length_eq_zero h0
    simp (dsimp := false) (implicitDefEqProofs := false) (maxSteps := 1000000) (disch := first | omega | assumption | (simp only [rL, Nat.reduceAdd]; done) | (simp only [rL, Nat.reduceAdd]; omega)) only [↓rD, rU, ev, ofConst, ofCell, ↓reduceIte, Nat.reduceEqDiff, Nat.reduceAdd, Nat.reduceSub, Nat.reduceMul, Nat.reduceLeDiff, Nat.reduceLT, Int.reduceNeg, Int.reduceToNat, Int.reduceAdd, Int.reduceSub, Int.reduceMul, Int.reduceLT, Int.reduceLE, Int.reduceEq, rX]
    refine call_intro (hash_spec 72 [] .nil (by simp [preB]) _) ?_
    rintro _ _ ⟨rfl, rfl⟩
    have hq := sha256_length (preB 72 [])
    rw [rootD_nil]
    simp only [List.map_nil]
    generalize sha256 (preB 72 []) = d at *
    simp (dsimp := false) (implicitDefEqProofs := false) (maxSteps := 1000000) (disch := first | omega | assumption | (simp only [rL, Nat.reduceAdd]; done) | (simp only [rL, Nat.reduceAdd]; omega)) only [↓rD, rU, ev, ofConst, ofCell, ↓reduceIte, Nat.reduceEqDiff, Nat.reduceAdd, Nat.reduceSub, Nat.reduceMul, Nat.reduceLeDiff, Nat.reduceLT, Int.reduceNeg, Int.reduceToNat, Int.reduceAdd, Int.reduceSub, Int.reduceMul, Int.reduceLT, Int.reduceLE, Int.reduceEq, rX, dg_cells, hq]
    exact ⟨s, Hp.sub_new Hp.sub_refl n2, rfl, dg_fold hq⟩
  · by_cases h1 : l.length = 1
    · obtain ⟨d, rfl⟩ := List.length_eq_one_iff.1 h1
      have hd32 := hd d (by simp)
      simp (dsimp := false) (implicitDefEqProofs := false) (maxSteps := 1000000) (disch := first | omega | assumption | (simp only [rL, Nat.reduceAdd]; done) | (simp only [rL, Nat.reduceAdd]; omega)) only [↓rD, rU, ev, ofConst, ofCell, ↓reduceIte, Nat.reduceEqDiff, Nat.reduceAdd, Nat.reduceSub, Nat.reduceMul, Nat.reduceLeDiff, Nat.reduceLT, Int.reduceNeg, Int.reduceToNat, Int.reduceAdd, Int.reduceSub, Int.reduceMul, Int.reduceLT, Int.reduceLE, Int.reduceEq, rX, dg_cells, iaSA_sl, List.getElem?_cons_zero, Int.toNat_zero, hd32, dg_fold, elA_dg]
      refine call_intro (leaf_spec d hd32 _) ?_
      rintro _ s1 ⟨o1, h1, rfl⟩
      have hl := h1.sub _ _ (Hp.set_same _ _ _)
      rw [← Hp.set_eq hl]
      simp (dsimp := false) (implicitDefEqProofs := false) (maxSteps := 1000000) (disch := first | omega | assumption | (simp only [rL, Nat.reduceAdd]; done) | (simp only [rL, Nat.reduceAdd]; omega)) only [↓rD, rU, ev, ofConst, ofCell, ↓reduceIte, Nat.reduceEqDiff, Nat.reduceAdd, Nat.reduceSub, Nat.reduceMul, Nat.reduceLeDiff, Nat.reduceLT, Int.reduceNeg, Int.reduceToNat, Int.reduceAdd, Int.reduceSub, Int.reduceMul, Int.reduceLT, Int.reduceLE, Int.reduceEq, rX]
      refine call_intro (sum_spec (leafB d) o1 (by rw [leafB_length d hd32]; omega) _) ?_
      rintro _ _ ⟨rfl, rfl⟩
      have hq := sha256_length (leafB d)
      rw [rootD_one]
      generalize sha256 (leafB d) = e at *
      simp (dsimp := false) (implicitDefEqProofs := false) (maxSteps := 1000000) (disch := first | omega | assumption | (simp only [rL, Nat.reduceAdd]; done) | (simp only [rL, Nat.reduceAdd]; omega)) only [↓rD, rU, ev, ofConst, ofCell, ↓reduceIte, Nat.reduceEqDiff, Nat.reduceAdd, Nat.reduceSub, Nat.reduceMul, Nat.reduceLeDiff, Nat.reduceLT, Int.reduceNeg, Int.reduceToNat, Int.reduceAdd, Int.reduceSub, Int.reduceMul, Int.reduceLT, Int.reduceLE, Int.reduceEq, rX, dg_cells, hq, dg_fold]
      exact ⟨s, Hp.sub_new (Hp.sub_trans (Hp.sub_new Hp.sub_refl n2) h1.sub) n2, rfl⟩
    · have h2 : 2 ≤ l.length := by omega
      have hz : ¬ ((l.length : Nat) : Int) = 0 := by omega
      have ho : ¬ ((l.length : Nat) : Int) = 1 := by omega
      simp (dsimp := false) (implicitDefEqProofs := false) (maxSteps := 1000000) (disch := first | omega | assumption | (simp only [rL, Nat.reduceAdd]; done) | (simp only [rL, Nat.reduceAdd]; omega)) only [↓rD, rU, ev, ofConst, ofCell, ↓reduceIte, Nat.reduceEqDiff, Nat.reduceAdd, Nat.reduceSub, Nat.reduceMul, Nat.reduceLeDiff, Nat.reduceLT, Int.reduceNeg, Int.reduceToNat, Int.reduceAdd, Int.reduceSub, Int.reduceMul, Int.reduceLT, Int.reduceLE, Int.reduceEq, rX, hz, ho]
      refine call_intro (half_spec l.length h2 (by omega) _) ?_
      rintro _ _ ⟨rfl, rfl⟩
      have hlt := half_lt l.length h2
      have hpos := half_pos l.length
      have hall := hd.all
      have hle' : ((half l.length : Nat) : Int) ≤ ((l.map dg).length : Nat) := by rw [List.length_map]; omega
      have hr1 := rootD_length (l.take (half l.length))
      have hr2 := rootD_length (l.drop (half l.length))
      rw [rootD_node l h2]
      generalize hk : half l.length = k at *
      simp (dsimp := false) (implicitDefEqProofs := false) (maxSteps := 1000000) (disch := first | omega | assumption | (simp only [rL, Nat.reduceAdd]; done) | (simp only [rL, Nat.reduceAdd]; omega)) only [↓rD, rU, ev, ofConst, ofCell, ↓reduceIte, Nat.reduceEqDiff, Nat.reduceAdd, Nat.reduceSub, Nat.reduceMul, Nat.reduceLeDiff, Nat.reduceLT, Int.reduceNeg, Int.reduceToNat, Int.reduceAdd, Int.reduceSub, Int.reduceMul, Int.reduceLT, Int.reduceLE, Int.reduceEq, rX, mapd_take, mapd_drop]
      refine call_intro (ih _ (by rw [← hN, List.length_take]; omega) (l.take k) .any _ rfl (by rw [List.length_take]; omega) (hd.take k)) ?_
      rintro _ _ ⟨rfl, rfl⟩
      simp (dsimp := false) (implicitDefEqProofs := false) (maxSteps := 1000000) (disch := first | omega | assumption | (simp only [rL, Nat.reduceAdd]; done) | (simp only [rL, Nat.reduceAdd]; omega)) only [↓rD, rU, ev, ofConst, ofCell, ↓reduceIte, Nat.reduceEqDiff, Nat.reduceAdd, Nat.reduceSub, Nat.reduceMul, Nat.reduceLeDiff, Nat.reduceLT, Int.reduceNeg, Int.reduceToNat, Int.reduceAdd, Int.reduceSub, Int.reduceMul, Int.reduceLT, Int.reduceLE, Int.reduceEq, rX, mapd_take, mapd_drop]
      refine call_intro (ih _ (by rw [← hN, List.length_drop]; omega) (l.drop k) .any _ rfl (by rw [List.length_drop]; omega) (hd.drop k)) ?_
      rintro _ _ ⟨rfl, rfl⟩
      generalize rootD (l.take k) = p at *
      generalize rootD (l.drop k) = q at *
      simp (dsimp := false) (implicitDefEqProofs := false) (maxSteps := 1000000) (disch := first | omega | assumption | (simp only [rL, Nat.reduceAdd]; done) | (simp only [rL, Nat.reduceAdd]; omega)) only [↓rD, rU, ev, ofConst, ofCell, ↓reduceIte, Nat.reduceEqDiff, Nat.reduceAdd, Nat.reduceSub, Nat.reduceMul, Nat.reduceLeDiff, Nat.reduceLT, Int.reduceNeg, Int.reduceToNat, Int.reduceAdd, Int.reduceSub, Int.reduceMul, Int.reduceLT, Int.reduceLE, Int.reduceEq, rX]
      refine call_intro (node_spec p q hr1 hr2 _) ?_
      rintro _ s1 ⟨o1, h1, rfl⟩
      have hl := h1.sub _ _ (Hp.set_same _ _ _)
      rw [← Hp.set_eq hl]
      simp (dsimp := false) (implicitDefEqProofs := false) (maxSteps := 1000000) (disch := first | omega | assumption | (simp only [rL, Nat.reduceAdd]; done) | (simp only [rL, Nat.reduceAdd]; omega)) only [↓rD, rU, ev, ofConst, ofCell, ↓reduceIte, Nat.reduceEqDiff, Nat.reduceAdd, Nat.reduceSub, Nat.reduceMul, Nat.reduceLeDiff, Nat.reduceLT, Int.reduceNeg, Int.reduceToNat, Int.reduceAdd, Int.reduceSub, Int.reduceMul, Int.reduceLT, Int.reduceLE, Int.reduceEq, rX]
      refine call_intro (sum_spec (nodeB p q) o1 (by rw [nodeB_length p q hr1 hr2]; omega) _) ?_
      rintro _ _ ⟨rfl, rfl⟩
      have hq := sha256_length (nodeB p q)
      generalize sha256 (nodeB p q) = e at *
      simp (dsimp := false) (implicitDefEqProofs := false) (maxSteps := 1000000) (disch := first | omega | assumption | (simp only [rL, Nat.reduceAdd]; done) | (simp only [rL, Nat.reduceAdd]; omega)) only [↓rD, rU, ev, ofConst, ofCell, ↓reduceIte, Nat.reduceEqDiff, Nat.reduceAdd, Nat.reduceSub, Nat.reduceMul, Nat.reduceLeDiff, Nat.reduceLT, Int.reduceNeg, Int.reduceToNat, Int.reduceAdd, Int.reduceSub, Int.reduceMul, Int.reduceLT, Int.reduceLE, Int.reduceEq, rX, dg_cells, hq, dg_fold]
      exact ⟨s, Hp.sub_new (Hp.sub_trans (Hp.sub_new Hp.sub_refl n2) h1.sub) n2, rfl⟩
end Go.Proofs.Ytapjikladjoicaa
set_option maxRecDepth 100000
namespace Go.Proofs.Ytapjikladjoicaa
open Go Go.Av

def PC (ds : List (List UInt8)) (od : Own) (tso : List (List UInt8 × Own)) (ot : Own) (lk : Bool) : Ob := .cells [.sl (ds.map dg) od, .sl (TX tso) ot, .v (.bool lk)]
/-- a proof under way, at l: its sums, its texts, does it lack one? -/
def PS (s0 : Hp) (l : Nat) (ds ts : List (List UInt8)) (lk : Bool) (s : Hp) : Prop :=
  ∃ od ot tso, tso.map (·.1) = ts ∧ Owned (s0.set l (PC ds od tso ot lk)) s 1 (TX tso) ot

theorem PS.new {s0 s : Hp} {l l2 : Nat} {ds ts : List (List UInt8)} {lk : Bool} {ob : Ob} (h : PS s0 l ds ts lk s) (hl : s l2 = none) : l2 ≠ l ∧ s0 l2 = none ∧ PS (s0.set l2 ob) l ds ts lk (s.set l2 ob) := by
  obtain ⟨od, ot, tso, h1, h2⟩ := h
  obtain ⟨hne, h0⟩ := Hp.set_none (Hp.sub_none h2.sub hl)
  refine ⟨hne, h0, od, ot, tso, h1, ?_⟩
  rw [Hp.set_set_comm _ hne]; exact h2.new hl
theorem PS.set {s0 s : Hp} {l l2 : Nat} {ds ts : List (List UInt8)} {lk : Bool} {ob ob' : Ob} (h : PS s0 l ds ts lk s) (hne : l2 ≠ l) (hl : s0 l2 = some ob') : PS (s0.set l2 ob) l ds ts lk (s.set l2 ob) := by
  obtain ⟨od, ot, tso, h1, h2⟩ := h
  refine ⟨od, ot, tso, h1, ?_⟩
  rw [Hp.set_set_comm _ hne]; exact h2.set (ob' := ob') (by rw [Hp.set_ne _ _ hne]; exact hl)
theorem PS.base {s0 s1 s : Hp} {l : Nat} {ds ts : List (List UInt8)} {lk : Bool} (h : PS s0 l ds ts lk s) (hs : s1.sub s0) : PS s1 l ds ts lk s := by
  obtain ⟨od, ot, tso, h1, h2⟩ := h
  exact ⟨od, ot, tso, h1, h2.base (Hp.sub_set hs)⟩
theorem PS.get {s0 s : Hp} {l l2 : Nat} {ds ts : List (List UInt8)} {lk : Bool} {ob : Ob} (h : PS s0 l ds ts lk s) (hne : l2 ≠ l) (hl : s0 l2 = some ob) : s l2 = some ob := by
  obtain ⟨od, ot, tso, h1, h2⟩ := h
  exact h2.sub _ _ (by rw [Hp.set_ne _ _ hne]; exact hl)
theorem PS.sub {s0 s : Hp} {l : Nat} {ds ts : List (List UInt8)} {lk : Bool} (h : PS s0 l ds ts lk s) (hl : s0 l = none) : s0.sub s := by
  obtain ⟨od, ot, tso, h1, h2⟩ := h
  exact Hp.sub_trans (Hp.sub_new Hp.sub_refl hl) h2.sub

theorem TX_all {tso : List (List UInt8 × Own)} : allLen 1 (TX tso) := by
  intro e he
  obtain ⟨p, _, rfl⟩ := List.mem_map.1 he
  rfl
theorem TX_snoc {tso : List (List UInt8 × Own)} {b : List UInt8} {o : Own} : TX tso ++ [.sl (b.map byteAV) o] = TX (tso ++ [(b, o)]) := by simp [TX]

theorem good_spec (s0 s : Hp) (l : Nat) (ds ts : List (List UInt8)) (lk : Bool) (h : PS s0 l ds ts lk s) :
    AC Try.prog 32 [.ptr l 0] s fun r s' => s' = s ∧ r = .v (.bool (!lk && decide (ds.length = 0))) := by
  obtain ⟨od, ot, tso, h1, h2⟩ := h
  have hl := h2.sub _ _ (Hp.set_same _ _ _)
  refine AC_run hm prep32 (by simp) ?_
  cases lk
  · simp (dsimp := false) (implicitDefEqProofs := false) (maxSteps := 1000000) (disch := first | omega | assumption | (simp only [rL, Nat.reduceAdd]; done) | (simp only [rL, Nat.reduceAdd]; omega)) only [↓rD, rU, ev, ofConst, ofCell, ↓reduceIte, Nat.reduceEqDiff, Nat.reduceAdd, Nat.reduceSub, Nat.reduceMul, Nat.reduceLeDiff, Nat.reduceLT, Int.reduceNeg, Int.reduceToNat, Int.reduceAdd, Int.reduceSub, Int.reduceMul, Int.reduceLT, Int.reduceLE, Int.reduceEq, rX, Hp.read_of hl, List.drop_succ_cons, Bool.not_false]
    refine ⟨_, Hp.sub_refl, rfl, ?_⟩
    simp
  · simp (dsimp := false) (implicitDefEqProofs := false) (maxSteps := 1000000) (disch := first | omega | assumption | (simp only [rL, Nat.reduceAdd]; done) | (simp only [rL, Nat.reduceAdd]; omega)) only [↓rD, rU, ev, ofConst, ofCell, ↓reduceIte, Nat.reduceEqDiff, Nat.reduceAdd, Nat.reduceSub, Nat.reduceMul, Nat.reduceLeDiff, Nat.reduceLT, Int.reduceNeg, Int.reduceToNat, Int.reduceAdd, Int.reduceSub, Int.reduceMul, Int.reduceLT, Int.reduceLE, Int.reduceEq, rX, Hp.read_of hl, List.drop_succ_cons, Bool.not_true]
    exact ⟨_, Hp.sub_refl, rfl, rfl⟩

theorem phash_spec (s0 s : Hp) (l : Nat) (ds ts : List (List UInt8)) (lk : Bool) (h : PS s0 l ds ts lk s) (b : List UInt8) (o : Own) (hb : b.length ≤ 70368744177664) (ht : ts.length ≤ 1000000) :
    AC Try.prog 62 [.ptr l 0, .sl (b.map byteAV) o] s fun r s' => r = dg (sha256 b) ∧ PS s0 l ds (ts ++ [b]) lk s' := by
  refine AC_run hm prep62 (by simp) ?_
  simp (dsimp := false) (implicitDefEqProofs := false) (maxSteps := 1000000) (disch := first | omega | assumption | (simp only [rL, Nat.reduceAdd]; done) | (simp only [rL, Nat.reduceAdd]; omega)) only [↓rD, rU, ev, ofConst, ofCell, ↓reduceIte, Nat.reduceEqDiff, Nat.reduceAdd, Nat.reduceSub, Nat.reduceMul, Nat.reduceLeDiff, Nat.reduceLT, Int.reduceNeg, Int.reduceToNat, Int.reduceAdd, Int.reduceSub, Int.reduceMul, Int.reduceLT, Int.reduceLE, Int.reduceEq, rX]
  refine newK_intro fun l4 n4 => ?_
  obtain ⟨d4, e4, h⟩ := h.new (ob := .cells (List.replicate 32 (.v (.int .u8 0)))) n4
  obtain ⟨od, ot, tso, h1, h2⟩ := h
  have hl := h2.sub _ _ (Hp.set_same _ _ _)
  have hlt : tso.length = ts.length := by rw [← h1, List.length_map]
  simp (dsimp := false) (implicitDefEqProofs := false) (maxSteps := 1000000) (disch := first | omega | assumption | (simp only [rL, Nat.reduceAdd]; done) | (simp only [rL, Nat.reduceAdd]; omega)) only [↓rD, rU, ev, ofConst, ofCell, ↓reduceIte, Nat.reduceEqDiff, Nat.reduceAdd, Nat.reduceSub, Nat.reduceMul, Nat.reduceLeDiff, Nat.reduceLT, Int.reduceNeg, Int.reduceToNat, Int.reduceAdd, Int.reduceSub, Int.reduceMul, Int.reduceLT, Int.reduceLE, Int.reduceEq, rX, Hp.read_of hl, List.drop_succ_cons]
  refine bsl_own Hp.sub_refl ?_ fun o2 s2 h3 => ?_
  · simp [allLen, AV.cells]
  simp (dsimp := false) (implicitDefEqProofs := false) (maxSteps := 1000000) (disch := first | omega | assumption | (simp only [rL, Nat.reduceAdd]; done) | (simp only [rL, Nat.reduceAdd]; omega)) only [↓rD, rU, ev, ofConst, ofCell, ↓reduceIte, Nat.reduceEqDiff, Nat.reduceAdd, Nat.reduceSub, Nat.reduceMul, Nat.reduceLeDiff, Nat.reduceLT, Int.reduceNeg, Int.reduceToNat, Int.reduceAdd, Int.reduceSub, Int.reduceMul, Int.reduceLT, Int.reduceLE, Int.reduceEq, rX, Hp.read_of hl]
  refine app_own (h2.mono h3.sub) TX_all (by simp [allLen, AV.cells]) (by simp [TX]; omega) (by simp [TX]; omega) fun o3 s3 h4 => ?_
  rw [TX_snoc] at h4 ⊢
  have hl3 := h4.sub _ _ (Hp.set_same _ _ _)
  simp (dsimp := false) (implicitDefEqProofs := false) (maxSteps := 1000000) (disch := first | omega | assumption | (simp only [rL, Nat.reduceAdd]; done) | (simp only [rL, Nat.reduceAdd]; omega)) only [↓rD, rU, ev, ofConst, ofCell, ↓reduceIte, Nat.reduceEqDiff, Nat.reduceAdd, Nat.reduceSub, Nat.reduceMul, Nat.reduceLeDiff, Nat.reduceLT, Int.reduceNeg, Int.reduceToNat, Int.reduceAdd, Int.reduceSub, Int.reduceMul, Int.reduceLT, Int.reduceLE, Int.reduceEq, rX, Hp.read_of hl3, Hp.stA_of hl3, List.drop_succ_cons]
  refine call_intro (sum_spec b o hb _) ?_
  rintro _ _ ⟨rfl, rfl⟩
  have hq := sha256_length b
  generalize sha256 b = e at *
  have hl4 : s3 l4 = some (.cells (List.replicate 32 (.v (.int .u8 0)))) := h4.sub _ _ (by rw [Hp.set_ne _ _ d4]; exact Hp.set_same _ _ _)
  simp (dsimp := false) (implicitDefEqProofs := false) (maxSteps := 1000000) (disch := first | omega | assumption | (simp only [rL, Nat.reduceAdd]; done) | (simp only [rL, Nat.reduceAdd]; omega)) only [↓rD, rU, ev, ofConst, ofCell, ↓reduceIte, Nat.reduceEqDiff, Nat.reduceAdd, Nat.reduceSub, Nat.reduceMul, Nat.reduceLeDiff, Nat.reduceLT, Int.reduceNeg, Int.reduceToNat, Int.reduceAdd, Int.reduceSub, Int.reduceMul, Int.reduceLT, Int.reduceLE, Int.reduceEq, rX, dg_cells, hq, dg_fold, Hp.stA_of hl4, Hp.read_of hl4]
  refine ⟨_, Hp.sub_refl, od, o3, tso ++ [(b, o)], by simp [h1], ?_⟩
  have h5 := h4.set (ob := PC ds od (tso ++ [(b, o)]) o3 lk) (Hp.set_same _ _ _)
  rw [Hp.set_set] at h5
  have h6 := h5.set (l := l4) (ob := .cells (e.map byteAV)) (by rw [Hp.set_ne _ _ d4]; exact Hp.set_same _ _ _)
  exact h6.base (Hp.sub_new (Hp.sub_set (Hp.sub_new Hp.sub_refl e4)) (by rw [Hp.set_ne _ _ d4]; exact e4))

def zd : List UInt8 := List.replicate 32 0
theorem zd_length : zd.length = 32 := rfl
theorem zd_cells : zd.map byteAV = List.replicate 32 (.v (.int .u8 0)) := rfl
def takeF (ds : List (List UInt8)) (lk : Bool) : List UInt8 × List (List UInt8) × Bool :=
  match ds.getLast? with
  | none => (zd, ds, true)
  | some d => (d, ds.dropLast, lk)

theorem take_spec (s0 s : Hp) (l : Nat) (ds ts : List (List UInt8)) (lk : Bool) (hd : Digs ds) (hdl : ds.length ≤ 1000000) (h : PS s0 l ds ts lk s) :
    AC Try.prog 61 [.ptr l 0] s fun r s' => r = dg (takeF ds lk).1 ∧ PS s0 l (takeF ds lk).2.1 ts (takeF ds lk).2.2 s' := by
  refine AC_run hm prep61 (by simp) ?_
  simp (dsimp := false) (implicitDefEqProofs := false) (maxSteps := 1000000) (disch := first | omega | assumption | (simp only [rL, Nat.reduceAdd]; done) | (simp only [rL, Nat.reduceAdd]; omega)) only [↓rD, rU, ev, ofConst, ofCell, ↓reduceIte, Nat.reduceEqDiff, Nat.reduceAdd, Nat.reduceSub, Nat.reduceMul, Nat.reduceLeDiff, Nat.reduceLT, Int.reduceNeg, Int.reduceToNat, Int.reduceAdd, Int.reduceSub, Int.reduceMul, Int.reduceLT, Int.reduceLE, Int.reduceEq, rX]
  refine newK_intro fun l2 n2 => ?_
  obtain ⟨d2, e2, h⟩ := h.new (ob := .cells (List.replicate 32 (.v (.int .u8 0)))) n2
  obtain ⟨od, ot, tso, h1, h2⟩ := h
  have hl := h2.sub _ _ (Hp.set_same _ _ _)
  have hs2 : ∀ x : Ob, (s.set l2 x).sub (s.set l2 x) := fun x => Hp.sub_refl
  rcases List.eq_nil_or_concat ds with rfl | ⟨q, d, hqd⟩
  · simp (dsimp := false) (implicitDefEqProofs := false) (maxSteps := 1000000) (disch := first | omega | assumption | (simp only [rL, Nat.reduceAdd]; done) | (simp only [rL, Nat.reduceAdd]; omega)) only [↓rD, rU, ev, ofConst, ofCell, ↓reduceIte, Nat.reduceEqDiff, Nat.reduceAdd, Nat.reduceSub, Nat.reduceMul, Nat.reduceLeDiff, Nat.reduceLT, Int.reduceNeg, Int.reduceToNat, Int.reduceAdd, Int.reduceSub, Int.reduceMul, Int.reduceLT, Int.reduceLE, Int.reduceEq, rX, Hp.read_of hl, Hp.stA_of hl, List.drop_succ_cons]
    refine ⟨_, Hp.sub_refl, rfl, od, ot, tso, h1, ?_⟩
    have h5 := h2.set (ob := PC [] od tso ot true) (Hp.set_same _ _ _)
    rw [Hp.set_set] at h5
    exact h5.base (Hp.sub_set (Hp.sub_new Hp.sub_refl e2))
  · simp only [List.concat_eq_append] at hqd
    subst hqd
    have ht : takeF (q ++ [d]) lk = (d, q, lk) := by simp [takeF]
    have hd32 : d.length = 32 := hd d (by simp)
    have hall := hd.all
    have hz : ¬ (((q ++ [d]).length : Nat) : Int) = 0 := by simp; omega
    have e1 : (((q ++ [d]).length : Nat) : Int) - 1 = (q.length : Nat) := by simp
    have he : ((q ++ [d]).map dg)[q.length]? = some (dg d) := by simp
    have htk : (q ++ [d]).take q.length = q := by simp
    have hle : ((q.length : Nat) : Int) ≤ (((q ++ [d]).map dg).length : Nat) := by simp; omega
    rw [ht]
    simp (dsimp := false) (implicitDefEqProofs := false) (maxSteps := 1000000) (disch := first | omega | assumption | (simp only [rL, Nat.reduceAdd]; done) | (simp only [rL, Nat.reduceAdd]; omega)) only [↓rD, rU, ev, ofConst, ofCell, ↓reduceIte, Nat.reduceEqDiff, Nat.reduceAdd, Nat.reduceSub, Nat.reduceMul, Nat.reduceLeDiff, Nat.reduceLT, Int.reduceNeg, Int.reduceToNat, Int.reduceAdd, Int.reduceSub, Int.reduceMul, Int.reduceLT, Int.reduceLE, Int.reduceEq, rX, Hp.read_of hl, Hp.stA_of hl, List.drop_succ_cons, hz, e1, iaSA_sl, he, elA_dg, dg_fold]
    refine newK_intro fun l3 n3 => ?_
    obtain ⟨d32, n3'⟩ := Hp.set_none n3
    have hb : PS (s0.set l2 (.cells (List.replicate 32 (.v (.int .u8 0))))) l (q ++ [d]) ts lk (s.set l2 (.cells (List.replicate 32 (.v (.int .u8 0))))) := ⟨od, ot, tso, h1, h2⟩
    obtain ⟨d3, e3, _⟩ := hb.new (ob := .cells (List.replicate 32 (.v (.int .u8 0)))) n3
    simp (dsimp := false) (implicitDefEqProofs := false) (maxSteps := 1000000) (disch := first | omega | assumption | (simp only [rL, Nat.reduceAdd]; done) | (simp only [rL, Nat.reduceAdd]; omega)) only [↓rD, rU, ev, ofConst, ofCell, ↓reduceIte, Nat.reduceEqDiff, Nat.reduceAdd, Nat.reduceSub, Nat.reduceMul, Nat.reduceLeDiff, Nat.reduceLT, Int.reduceNeg, Int.reduceToNat, Int.reduceAdd, Int.reduceSub, Int.reduceMul, Int.reduceLT, Int.reduceLE, Int.reduceEq, rX, Hp.read_of hl, Hp.stA_of hl, List.drop_succ_cons, hz, e1, iaSA_sl, he, elA_dg, dg_fold, dg_cells, hd32, mapd_take, htk]
    have k1 := h2.new (ob := .cells (List.replicate 32 (.v (.int .u8 0)))) n3
    have k2 := k1.set (l := l2) (ob := .cells (d.map byteAV)) (by rw [Hp.set_ne _ _ (Ne.symm d32), Hp.set_ne _ _ d2]; exact Hp.set_same _ _ _)
    rw [Hp.set_in1 d32, Hp.set_in2 (Ne.symm d2) d32] at k2
    have k3 := k2.set (l := l3) (ob := .cells (d.map byteAV)) (Hp.set_same _ _ _)
    rw [Hp.set_set, Hp.set_set] at k3
    have k4 := k3.set (l := l) (ob := PC q .any tso ot lk) (by rw [Hp.set_ne _ _ (Ne.symm d3)]; exact Hp.set_same _ _ _)
    rw [Hp.set_in1 d3] at k4
    refine ⟨_, Hp.sub_refl, .any, ot, tso, h1, k4.base (Hp.sub_new (Hp.sub_set (Hp.sub_new Hp.sub_refl e2)) ?_)⟩
    rw [Hp.set_ne _ _ d3]; exact (Hp.set_none e3).2
end Go.Proofs.Ytapjikladjoicaa
