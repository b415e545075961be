/- Merged by program from smaller texts; what is proved stands in the last text of the claim. -/
import Derived.Test.YtpbicmjkjihhnaaDoorProg
import Derived.Test.YtpbicmjkjihhnaaDoorMB
import Derived.KernelRfl
set_option linter.all false
set_option maxRecDepth 100000
namespace Go.Proofs.YtpbicmjkjihhnaaDoor
open Go Go.Av

theorem hm_1 : Tryd.prog.follows .mixedOrders = true := by kernel_rfl

-- unicode/utf8.decodeRuneInStringSlow
def F56 : AFunc where
  ntmps := 117
  nparams := 1
  results := [(2, none), (3, none)]
  code :=
(.seq
(.plain (
⟨(some 2), .mv (.const (.int .i32 0)), none⟩ ::
⟨(some 3), .mv (.const (.int .i64 0)), none⟩ ::
[]))
(.seq
(.plain (
⟨(some 13), .mv (.tmp 0), none⟩ ::
⟨(some 14), .lenT (.tmp 13), none⟩ ::
⟨(some 4), .mv (.tmp 14), none⟩ ::
[]))
(.seq
(.seq
(.plain (
⟨(some 15), .mv (.tmp 4), none⟩ ::
⟨(some 16), .bin .lss (.tmp 15) (.const (.int .i64 1)), none⟩ ::
[]))
(.cond (.tmp 16)
(.seq
(.plain (
⟨(some 2), .mv (.const (.int .i32 65533)), none⟩ ::
⟨(some 3), .mv (.const (.int .i64 0)), none⟩ ::
[]))
.ret)
.skip))
(.seq
(.plain (
⟨(some 17), .mv (.tmp 0), none⟩ ::
⟨(some 18), .idxS (.tmp 17) (.const (.int .i64 0)), none⟩ ::
⟨(some 5), .mv (.tmp 18), none⟩ ::
[]))
(.seq
(.plain (
⟨(some 19), .mv (.tmp 5), none⟩ ::
⟨(some 20), .iaA 1 256 (.global 2) (.tmp 19), none⟩ ::
⟨(some 21), .load false 1 (.tmp 20), none⟩ ::
⟨(some 6), .mv (.tmp 21), none⟩ ::
[]))
(.seq
(.seq
(.plain (
⟨(some 22), .mv (.tmp 6), none⟩ ::
⟨(some 23), .bin .geq (.tmp 22) (.const (.int .u8 240)), none⟩ ::
[]))
(.cond (.tmp 23)
(.seq
(.plain (
⟨(some 24), .mv (.tmp 6), none⟩ ::
⟨(some 25), .cvt .i32 (.tmp 24), none⟩ ::
⟨(some 26), .bin .shl (.tmp 25) (.const (.int .u64 31)), none⟩ ::
⟨(some 27), .bin .shr (.tmp 26) (.const (.int .u64 31)), none⟩ ::
⟨(some 7), .mv (.tmp 27), none⟩ ::
[]))
(.seq
(.plain (
⟨(some 28), .mv (.tmp 0), none⟩ ::
⟨(some 29), .idxS (.tmp 28) (.const (.int .i64 0)), none⟩ ::
⟨(some 30), .cvt .i32 (.tmp 29), none⟩ ::
⟨(some 31), .mv (.tmp 7), none⟩ ::
⟨(some 32), .bin .andNot (.tmp 30) (.tmp 31), none⟩ ::
⟨(some 33), .mv (.tmp 7), none⟩ ::
⟨(some 34), .bin .and (.const (.int .i32 65533)) (.tmp 33), none⟩ ::
⟨(some 35), .bin .or (.tmp 32) (.tmp 34), none⟩ ::
⟨(some 2), .mv (.tmp 35), none⟩ ::
⟨(some 3), .mv (.const (.int .i64 1)), none⟩ ::
[]))
.ret))
.skip))
(.seq
(.plain (
⟨(some 36), .mv (.tmp 6), none⟩ ::
⟨(some 37), .bin .and (.tmp 36) (.const (.int .u8 7)), none⟩ ::
⟨(some 38), .cvt .i64 (.tmp 37), none⟩ ::
⟨(some 8), .mv (.tmp 38), none⟩ ::
[]))
(.seq
(.plain (
⟨(some 39), .mv (.tmp 6), none⟩ ::
⟨(some 40), .bin .shr (.tmp 39) (.const (.int .u64 4)), none⟩ ::
⟨(some 41), .iaA 2 16 (.global 3) (.tmp 40), none⟩ ::
⟨(some 42), .load true 2 (.tmp 41), none⟩ ::
⟨(some 9), .alloc 96 [(.v (.int .u8 0)), (.v (.int .u8 0))], none⟩ ::
⟨none, .store 2 (.tmp 9) (.tmp 42), none⟩ ::
[]))
(.seq
(.seq
(.plain (
⟨(some 43), .mv (.tmp 4), none⟩ ::
⟨(some 44), .mv (.tmp 8), none⟩ ::
⟨(some 45), .bin .lss (.tmp 43) (.tmp 44), none⟩ ::
[]))
(.cond (.tmp 45)
(.seq
(.plain (
⟨(some 2), .mv (.const (.int .i32 65533)), none⟩ ::
⟨(some 3), .mv (.const (.int .i64 1)), none⟩ ::
[]))
.ret)
.skip))
(.seq
(.plain (
⟨(some 46), .mv (.tmp 0), none⟩ ::
⟨(some 47), .idxS (.tmp 46) (.const (.int .i64 1)), none⟩ ::
⟨(some 10), .mv (.tmp 47), none⟩ ::
[]))
(.seq
(.seq
(.plain (
⟨(some 48), .mv (.tmp 10), none⟩ ::
⟨(some 49), .fa 0 (.tmp 9), none⟩ ::
⟨(some 50), .load false 1 (.tmp 49), none⟩ ::
⟨(some 51), .bin .lss (.tmp 48) (.tmp 50), none⟩ ::
⟨(some 52), .mv (.tmp 51), none⟩ ::
⟨(some 53), .fa 1 (.tmp 9), (some (52, false))⟩ ::
⟨(some 54), .load false 1 (.tmp 53), (some (52, false))⟩ ::
⟨(some 55), .mv (.tmp 10), (some (52, false))⟩ ::
⟨(some 56), .bin .lss (.tmp 54) (.tmp 55), (some (52, false))⟩ ::
⟨(some 57), .pick (.tmp 52) (.const (.bool true)) (.tmp 56), none⟩ ::
[]))
(.cond (.tmp 57)
(.seq
(.plain (
⟨(some 2), .mv (.const (.int .i32 65533)), none⟩ ::
⟨(some 3), .mv (.const (.int .i64 1)), none⟩ ::
[]))
.ret)
.skip))
(.seq
(.seq
(.plain (
⟨(some 58), .mv (.tmp 8), none⟩ ::
⟨(some 59), .bin .leq (.tmp 58) (.const (.int .i64 2)), none⟩ ::
[]))
(.cond (.tmp 59)
(.seq
(.plain (
⟨(some 60), .mv (.tmp 5), none⟩ ::
⟨(some 61), .bin .and (.tmp 60) (.const (.int .u8 31)), none⟩ ::
⟨(some 62), .cvt .i32 (.tmp 61), none⟩ ::
⟨(some 63), .bin .shl (.tmp 62) (.const (.int .u64 6)), none⟩ ::
⟨(some 64), .mv (.tmp 10), none⟩ ::
⟨(some 65), .bin .and (.tmp 64) (.const (.int .u8 63)), none⟩ ::
⟨(some 66), .cvt .i32 (.tmp 65), none⟩ ::
⟨(some 67), .bin .or (.tmp 63) (.tmp 66), none⟩ ::
⟨(some 2), .mv (.tmp 67), none⟩ ::
⟨(some 3), .mv (.const (.int .i64 2)), none⟩ ::
[]))
.ret)
.skip))
(.seq
(.plain (
⟨(some 68), .mv (.tmp 0), none⟩ ::
⟨(some 69), .idxS (.tmp 68) (.const (.int .i64 2)), none⟩ ::
⟨(some 11), .mv (.tmp 69), none⟩ ::
[]))
(.seq
(.seq
(.plain (
⟨(some 70), .mv (.tmp 11), none⟩ ::
⟨(some 71), .bin .lss (.tmp 70) (.const (.int .u8 128)), none⟩ ::
⟨(some 72), .mv (.tmp 71), none⟩ ::
⟨(some 73), .mv (.tmp 11), (some (72, false))⟩ ::
⟨(some 74), .bin .lss (.const (.int .u8 191)) (.tmp 73), (some (72, false))⟩ ::
⟨(some 75), .pick (.tmp 72) (.const (.bool true)) (.tmp 74), none⟩ ::
[]))
(.cond (.tmp 75)
(.seq
(.plain (
⟨(some 2), .mv (.const (.int .i32 65533)), none⟩ ::
⟨(some 3), .mv (.const (.int .i64 1)), none⟩ ::
[]))
.ret)
.skip))
(.seq
(.seq
(.plain (
⟨(some 76), .mv (.tmp 8), none⟩ ::
⟨(some 77), .bin .leq (.tmp 76) (.const (.int .i64 3)), none⟩ ::
[]))
(.cond (.tmp 77)
(.seq
(.plain (
⟨(some 78), .mv (.tmp 5), none⟩ ::
⟨(some 79), .bin .and (.tmp 78) (.const (.int .u8 15)), none⟩ ::
⟨(some 80), .cvt .i32 (.tmp 79), none⟩ ::
⟨(some 81), .bin .shl (.tmp 80) (.const (.int .u64 12)), none⟩ ::
⟨(some 82), .mv (.tmp 10), none⟩ ::
⟨(some 83), .bin .and (.tmp 82) (.const (.int .u8 63)), none⟩ ::
⟨(some 84), .cvt .i32 (.tmp 83), none⟩ ::
⟨(some 85), .bin .shl (.tmp 84) (.const (.int .u64 6)), none⟩ ::
⟨(some 86), .bin .or (.tmp 81) (.tmp 85), none⟩ ::
⟨(some 87), .mv (.tmp 11), none⟩ ::
⟨(some 88), .bin .and (.tmp 87) (.const (.int .u8 63)), none⟩ ::
⟨(some 89), .cvt .i32 (.tmp 88), none⟩ ::
⟨(some 90), .bin .or (.tmp 86) (.tmp 89), none⟩ ::
⟨(some 2), .mv (.tmp 90), none⟩ ::
⟨(some 3), .mv (.const (.int .i64 3)), none⟩ ::
[]))
.ret)
.skip))
(.seq
(.plain (
⟨(some 91), .mv (.tmp 0), none⟩ ::
⟨(some 92), .idxS (.tmp 91) (.const (.int .i64 3)), none⟩ ::
⟨(some 12), .mv (.tmp 92), none⟩ ::
[]))
(.seq
(.seq
(.plain (
⟨(some 93), .mv (.tmp 12), none⟩ ::
⟨(some 94), .bin .lss (.tmp 93) (.const (.int .u8 128)), none⟩ ::
⟨(some 95), .mv (.tmp 94), none⟩ ::
⟨(some 96), .mv (.tmp 12), (some (95, false))⟩ ::
⟨(some 97), .bin .lss (.const (.int .u8 191)) (.tmp 96), (some (95, false))⟩ ::
⟨(some 98), .pick (.tmp 95) (.const (.bool true)) (.tmp 97), none⟩ ::
[]))
(.cond (.tmp 98)
(.seq
(.plain (
⟨(some 2), .mv (.const (.int .i32 65533)), none⟩ ::
⟨(some 3), .mv (.const (.int .i64 1)), none⟩ ::
[]))
.ret)
.skip))
(.seq
(.plain (
⟨(some 99), .mv (.tmp 5), none⟩ ::
⟨(some 100), .bin .and (.tmp 99) (.const (.int .u8 7)), none⟩ ::
⟨(some 101), .cvt .i32 (.tmp 100), none⟩ ::
⟨(some 102), .bin .shl (.tmp 101) (.const (.int .u64 18)), none⟩ ::
⟨(some 103), .mv (.tmp 10), none⟩ ::
⟨(some 104), .bin .and (.tmp 103) (.const (.int .u8 63)), none⟩ ::
⟨(some 105), .cvt .i32 (.tmp 104), none⟩ ::
⟨(some 106), .bin .shl (.tmp 105) (.const (.int .u64 12)), none⟩ ::
⟨(some 107), .bin .or (.tmp 102) (.tmp 106), none⟩ ::
⟨(some 108), .mv (.tmp 11), none⟩ ::
⟨(some 109), .bin .and (.tmp 108) (.const (.int .u8 63)), none⟩ ::
⟨(some 110), .cvt .i32 (.tmp 109), none⟩ ::
⟨(some 111), .bin .shl (.tmp 110) (.const (.int .u64 6)), none⟩ ::
⟨(some 112), .bin .or (.tmp 107) (.tmp 111), none⟩ ::
⟨(some 113), .mv (.tmp 12), none⟩ ::
⟨(some 114), .bin .and (.tmp 113) (.const (.int .u8 63)), none⟩ ::
⟨(some 115), .cvt .i32 (.tmp 114), none⟩ ::
⟨(some 116), .bin .or (.tmp 112) (.tmp 115), none⟩ ::
⟨(some 2), .mv (.tmp 116), none⟩ ::
⟨(some 3), .mv (.const (.int .i64 4)), none⟩ ::
[]))
.ret))))))))))))))))))
theorem prep56 : prepFunc Tryd.prog 0 56 = some F56 := by kernel_rfl

-- unicode/utf8.AppendRune
def F57 : AFunc where
  ntmps := 16
  nparams := 2
  results := [(4, none)]
  code :=
(.seq
(.plain (
⟨(some 4), .mv (.const (.slice none 0 0)), none⟩ ::
[]))
(.seq
(.seq
(.plain (
⟨(some 5), .mv (.tmp 1), none⟩ ::
⟨(some 6), .cvt .u32 (.tmp 5), none⟩ ::
⟨(some 7), .bin .leq (.tmp 6) (.const (.int .u32 127)), none⟩ ::
[]))
(.cond (.tmp 7)
(.seq
(.plain (
⟨(some 8), .mv (.tmp 0), none⟩ ::
⟨(some 9), .mv (.tmp 1), none⟩ ::
⟨(some 10), .cvt .u8 (.tmp 9), none⟩ ::
⟨(some 11), .bsl 1 [(.tmp 10)], none⟩ ::
⟨(some 12), .app 1 1 (.tmp 8) (.tmp 11), none⟩ ::
⟨(some 4), .mv (.tmp 12), none⟩ ::
[]))
.ret)
.skip))
(.seq
(.plain (
⟨(some 13), .mv (.tmp 0), none⟩ ::
⟨(some 14), .mv (.tmp 1), none⟩ ::
⟨(some 15), .callF 68 [(.tmp 13), (.tmp 14)], none⟩ ::
⟨(some 4), .mv (.tmp 15), none⟩ ::
[]))
.ret)))
theorem prep57 : prepFunc Tryd.prog 0 57 = some F57 := by kernel_rfl

-- unicode.to
def F58 : AFunc where
  ntmps := 25
  nparams := 3
  results := [(6, none), (7, none)]
  code :=
(.seq
(.plain (
⟨(some 6), .mv (.const (.int .i32 0)), none⟩ ::
⟨(some 7), .mv (.const (.bool false)), none⟩ ::
[]))
(.seq
(.seq
(.plain (
⟨(some 9), .mv (.tmp 0), none⟩ ::
⟨(some 10), .bin .lss (.tmp 9) (.const (.int .i64 0)), none⟩ ::
⟨(some 11), .mv (.tmp 10), none⟩ ::
⟨(some 12), .mv (.tmp 0), (some (11, false))⟩ ::
⟨(some 13), .bin .leq (.const (.int .i64 3)) (.tmp 12), (some (11, false))⟩ ::
⟨(some 14), .pick (.tmp 11) (.const (.bool true)) (.tmp 13), none⟩ ::
[]))
(.cond (.tmp 14)
(.seq
(.plain (
⟨(some 6), .mv (.const (.int .i32 65533)), none⟩ ::
⟨(some 7), .mv (.const (.bool false)), none⟩ ::
[]))
.ret)
.skip))
(.seq
(.seq
(.plain (
⟨(some 15), .mv (.tmp 1), none⟩ ::
⟨(some 16), .mv (.tmp 2), none⟩ ::
⟨(some 17), .callF 69 [(.tmp 15), (.tmp 16)], none⟩ ::
⟨(some 8), .mv (.tmp 17), none⟩ ::
[]))
(.seq
(.plain (
⟨(some 18), .mv (.tmp 8), none⟩ ::
⟨(some 19), .eqp true (.tmp 18) (.const (.pointer none)), none⟩ ::
[]))
(.cond (.tmp 19)
(.seq
(.plain (
⟨(some 20), .mv (.tmp 0), none⟩ ::
⟨(some 21), .mv (.tmp 1), none⟩ ::
⟨(some 22), .mv (.tmp 8), none⟩ ::
⟨(some 23), .callF 70 [(.tmp 20), (.tmp 21), (.tmp 22)], none⟩ ::
⟨(some 6), .mv (.tmp 23), none⟩ ::
⟨(some 7), .mv (.const (.bool true)), none⟩ ::
[]))
.ret)
.skip)))
(.seq
(.plain (
⟨(some 24), .mv (.tmp 1), none⟩ ::
⟨(some 6), .mv (.tmp 24), none⟩ ::
⟨(some 7), .mv (.const (.bool false)), none⟩ ::
[]))
.ret))))
theorem prep58 : prepFunc Tryd.prog 0 58 = some F58 := by kernel_rfl

-- internal/strconv.ParseUint
def F59 : AFunc where
  ntmps := 172
  nparams := 3
  results := [(6, none), (7, none)]
  code :=
(.seq
(.plain (
⟨(some 6), .mv (.const (.int .u64 0)), none⟩ ::
⟨(some 7), .mv (.const .nilIface), none⟩ ::
[]))
(.seq
(.seq
(.plain (
⟨(some 18), .mv (.tmp 0), none⟩ ::
⟨(some 19), .bin .eql (.tmp 18) (.const (.string ⟨#[]⟩)), none⟩ ::
[]))
(.cond (.tmp 19)
(.seq
(.plain (
⟨(some 20), .mki 81 (.const (.int .i64 2)), none⟩ ::
⟨(some 6), .mv (.const (.int .u64 0)), none⟩ ::
⟨(some 7), .mv (.tmp 20), none⟩ ::
[]))
.ret)
.skip))
(.seq
(.plain (
⟨(some 21), .mv (.tmp 1), none⟩ ::
⟨(some 22), .bin .eql (.tmp 21) (.const (.int .i64 0)), none⟩ ::
⟨(some 8), .mv (.tmp 22), none⟩ ::
[]))
(.seq
(.plain (
⟨(some 23), .mv (.tmp 0), none⟩ ::
⟨(some 9), .mv (.tmp 23), none⟩ ::
[]))
(.seq
(.block 0
(.seq
(.plain (
⟨(some 26), .mv (.tmp 1), none⟩ ::
⟨(some 27), .bin .leq (.const (.int .i64 2)) (.tmp 26), none⟩ ::
⟨(some 28), .mv (.tmp 27), none⟩ ::
⟨(some 29), .mv (.tmp 1), (some (28, true))⟩ ::
⟨(some 30), .bin .leq (.tmp 29) (.const (.int .i64 36)), (some (28, true))⟩ ::
⟨(some 31), .pick (.tmp 28) (.tmp 30) (.const (.bool false)), none⟩ ::
⟨(some 25), .mv (.tmp 31), none⟩ ::
[]))
(.cond (.tmp 25)
.skip
(.seq
(.plain (
⟨(some 33), .mv (.tmp 1), none⟩ ::
⟨(some 34), .bin .eql (.tmp 33) (.const (.int .i64 0)), none⟩ ::
⟨(some 32), .mv (.tmp 34), none⟩ ::
[]))
(.cond (.tmp 32)
(.seq
(.plain (
⟨(some 1), .mv (.const (.int .i64 10)), none⟩ ::
[]))
(.seq
(.plain (
⟨(some 35), .mv (.tmp 0), none⟩ ::
⟨(some 36), .idxS (.tmp 35) (.const (.int .i64 0)), none⟩ ::
⟨(some 37), .bin .eql (.tmp 36) (.const (.int .u8 48)), none⟩ ::
[]))
(.cond (.tmp 37)
(.block 1
(.seq
(.plain (
⟨(some 41), .mv (.tmp 0), none⟩ ::
⟨(some 42), .lenT (.tmp 41), none⟩ ::
⟨(some 43), .bin .geq (.tmp 42) (.const (.int .i64 3)), none⟩ ::
⟨(some 44), .mv (.tmp 43), none⟩ ::
⟨(some 45), .mv (.tmp 0), (some (44, true))⟩ ::
⟨(some 46), .idxS (.tmp 45) (.const (.int .i64 1)), (some (44, true))⟩ ::
⟨(some 47), .callF 71 [(.tmp 46)], (some (44, true))⟩ ::
⟨(some 48), .bin .eql (.tmp 47) (.const (.int .u8 98)), (some (44, true))⟩ ::
⟨(some 49), .pick (.tmp 44) (.tmp 48) (.const (.bool false)), none⟩ ::
⟨(some 40), .mv (.tmp 49), none⟩ ::
[]))
(.cond (.tmp 40)
(.seq
(.plain (
⟨(some 1), .mv (.const (.int .i64 2)), none⟩ ::
[]))
(.plain (
⟨(some 50), .mv (.tmp 0), none⟩ ::
⟨(some 51), .slcS (.tmp 50) (some (.const (.int .i64 2))) none, none⟩ ::
⟨(some 0), .mv (.tmp 51), none⟩ ::
[])))
(.seq
(.plain (
⟨(some 53), .mv (.tmp 0), none⟩ ::
⟨(some 54), .lenT (.tmp 53), none⟩ ::
⟨(some 55), .bin .geq (.tmp 54) (.const (.int .i64 3)), none⟩ ::
⟨(some 56), .mv (.tmp 55), none⟩ ::
⟨(some 57), .mv (.tmp 0), (some (56, true))⟩ ::
⟨(some 58), .idxS (.tmp 57) (.const (.int .i64 1)), (some (56, true))⟩ ::
⟨(some 59), .callF 71 [(.tmp 58)], (some (56, true))⟩ ::
⟨(some 60), .bin .eql (.tmp 59) (.const (.int .u8 111)), (some (56, true))⟩ ::
⟨(some 61), .pick (.tmp 56) (.tmp 60) (.const (.bool false)), none⟩ ::
⟨(some 52), .mv (.tmp 61), none⟩ ::
[]))
(.cond (.tmp 52)
(.seq
(.plain (
⟨(some 1), .mv (.const (.int .i64 8)), none⟩ ::
[]))
(.plain (
⟨(some 62), .mv (.tmp 0), none⟩ ::
⟨(some 63), .slcS (.tmp 62) (some (.const (.int .i64 2))) none, none⟩ ::
⟨(some 0), .mv (.tmp 63), none⟩ ::
[])))
(.seq
(.plain (
⟨(some 65), .mv (.tmp 0), none⟩ ::
⟨(some 66), .lenT (.tmp 65), none⟩ ::
⟨(some 67), .bin .geq (.tmp 66) (.const (.int .i64 3)), none⟩ ::
⟨(some 68), .mv (.tmp 67), none⟩ ::
⟨(some 69), .mv (.tmp 0), (some (68, true))⟩ ::
⟨(some 70), .idxS (.tmp 69) (.const (.int .i64 1)), (some (68, true))⟩ ::
⟨(some 71), .callF 71 [(.tmp 70)], (some (68, true))⟩ ::
⟨(some 72), .bin .eql (.tmp 71) (.const (.int .u8 120)), (some (68, true))⟩ ::
⟨(some 73), .pick (.tmp 68) (.tmp 72) (.const (.bool false)), none⟩ ::
⟨(some 64), .mv (.tmp 73), none⟩ ::
[]))
(.cond (.tmp 64)
(.seq
(.plain (
⟨(some 1), .mv (.const (.int .i64 16)), none⟩ ::
[]))
(.plain (
⟨(some 74), .mv (.tmp 0), none⟩ ::
⟨(some 75), .slcS (.tmp 74) (some (.const (.int .i64 2))) none, none⟩ ::
⟨(some 0), .mv (.tmp 75), none⟩ ::
[])))
(.seq
(.plain (
⟨(some 1), .mv (.const (.int .i64 8)), none⟩ ::
[]))
(.plain (
⟨(some 38), .mv (.tmp 0), none⟩ ::
⟨(some 39), .slcS (.tmp 38) (some (.const (.int .i64 1))) none, none⟩ ::
⟨(some 0), .mv (.tmp 39), none⟩ ::
[]))))))))))
.skip)))
(.seq
(.plain (
⟨(some 24), .mki 81 (.const (.int .i64 3)), none⟩ ::
⟨(some 6), .mv (.const (.int .u64 0)), none⟩ ::
⟨(some 7), .mv (.tmp 24), none⟩ ::
[]))
.ret))))))
(.seq
(.seq
(.plain (
⟨(some 76), .mv (.tmp 2), none⟩ ::
⟨(some 77), .bin .eql (.tmp 76) (.const (.int .i64 0)), none⟩ ::
[]))
(.cond (.tmp 77)
(.plain (
⟨(some 2), .mv (.const (.int .i64 64)), none⟩ ::
[]))
(.seq
(.plain (
⟨(some 78), .mv (.tmp 2), none⟩ ::
⟨(some 79), .bin .lss (.tmp 78) (.const (.int .i64 0)), none⟩ ::
⟨(some 80), .mv (.tmp 79), none⟩ ::
⟨(some 81), .mv (.tmp 2), (some (80, false))⟩ ::
⟨(some 82), .bin .gtr (.tmp 81) (.const (.int .i64 64)), (some (80, false))⟩ ::
⟨(some 83), .pick (.tmp 80) (.const (.bool true)) (.tmp 82), none⟩ ::
[]))
(.cond (.tmp 83)
(.seq
(.plain (
⟨(some 84), .mki 81 (.const (.int .i64 4)), none⟩ ::
⟨(some 6), .mv (.const (.int .u64 0)), none⟩ ::
⟨(some 7), .mv (.tmp 84), none⟩ ::
[]))
.ret)
.skip))))
(.seq
(.plain (
⟨(some 10), .mv (.const (.int .u64 0)), none⟩ ::
[]))
(.seq
(.seq
(.plain (
⟨(some 85), .mv (.tmp 1), none⟩ ::
[]))
(.block 2
(.seq
(.plain (
⟨(some 91), .bin .eql (.tmp 85) (.const (.int .i64 10)), none⟩ ::
⟨(some 90), .mv (.tmp 91), none⟩ ::
[]))
(.cond (.tmp 90)
(.plain (
⟨(some 10), .mv (.const (.int .u64 1844674407370955162)), none⟩ ::
[]))
(.seq
(.plain (
⟨(some 93), .bin .eql (.tmp 85) (.const (.int .i64 16)), none⟩ ::
⟨(some 92), .mv (.tmp 93), none⟩ ::
[]))
(.cond (.tmp 92)
(.plain (
⟨(some 10), .mv (.const (.int .u64 1152921504606846976)), none⟩ ::
[]))
(.plain (
⟨(some 86), .mv (.tmp 1), none⟩ ::
⟨(some 87), .cvt .u64 (.tmp 86), none⟩ ::
⟨(some 88), .bin .quo (.const (.int .u64 18446744073709551615)) (.tmp 87), none⟩ ::
⟨(some 89), .bin .add (.tmp 88) (.const (.int .u64 1)), none⟩ ::
⟨(some 10), .mv (.tmp 89), none⟩ ::
[]))))))))
(.seq
(.plain (
⟨(some 94), .mv (.tmp 2), none⟩ ::
⟨(some 95), .cvt .u64 (.tmp 94), none⟩ ::
⟨(some 96), .bin .shl (.const (.int .u64 1)) (.tmp 95), none⟩ ::
⟨(some 97), .bin .sub (.tmp 96) (.const (.int .u64 1)), none⟩ ::
⟨(some 11), .mv (.tmp 97), none⟩ ::
[]))
(.seq
(.plain (
⟨(some 12), .mv (.const (.bool false)), none⟩ ::
[]))
(.seq
(.plain (
⟨(some 13), .mv (.const (.int .u64 0)), none⟩ ::
[]))
(.seq
(.seq
(.plain (
⟨(some 98), .mv (.tmp 0), none⟩ ::
⟨(some 99), .s2b (.tmp 98), none⟩ ::
⟨(some 100), .len (.tmp 99), none⟩ ::
⟨(some 101), .mv (.const (.int .i64 0)), none⟩ ::
[]))
(.block 3
(.loop
(.seq
(.plain (
⟨(some 102), .bin .lss (.tmp 101) (.tmp 100), none⟩ ::
[]))
(.seq
(.cond (.tmp 102)
.skip
(.exit 3))
(.seq
(.block 4
(.seq
(.plain (
⟨(some 103), .iaS 1 (.tmp 99) (.tmp 101), none⟩ ::
⟨(some 104), .load false 1 (.tmp 103), none⟩ ::
⟨(some 15), .mv (.tmp 104), none⟩ ::
[]))
(.seq
(.plain (
⟨(some 16), .mv (.const (.int .u8 0)), none⟩ ::
[]))
(.seq
(.block 5
(.seq
(.plain (
⟨(some 107), .mv (.tmp 15), none⟩ ::
⟨(some 108), .bin .eql (.tmp 107) (.const (.int .u8 95)), none⟩ ::
⟨(some 109), .mv (.tmp 108), none⟩ ::
⟨(some 110), .mv (.tmp 8), (some (109, true))⟩ ::
⟨(some 111), .pick (.tmp 109) (.tmp 110) (.const (.bool false)), none⟩ ::
⟨(some 106), .mv (.tmp 111), none⟩ ::
[]))
(.cond (.tmp 106)
(.seq
(.plain (
⟨(some 12), .mv (.const (.bool true)), none⟩ ::
[]))
(.exit 4))
(.seq
(.plain (
⟨(some 113), .mv (.tmp 15), none⟩ ::
⟨(some 114), .bin .leq (.const (.int .u8 48)) (.tmp 113), none⟩ ::
⟨(some 115), .mv (.tmp 114), none⟩ ::
⟨(some 116), .mv (.tmp 15), (some (115, true))⟩ ::
⟨(some 117), .bin .leq (.tmp 116) (.const (.int .u8 57)), (some (115, true))⟩ ::
⟨(some 118), .pick (.tmp 115) (.tmp 117) (.const (.bool false)), none⟩ ::
⟨(some 112), .mv (.tmp 118), none⟩ ::
[]))
(.cond (.tmp 112)
(.plain (
⟨(some 119), .mv (.tmp 15), none⟩ ::
⟨(some 120), .bin .sub (.tmp 119) (.const (.int .u8 48)), none⟩ ::
⟨(some 16), .mv (.tmp 120), none⟩ ::
[]))
(.seq
(.plain (
⟨(some 122), .mv (.tmp 15), none⟩ ::
⟨(some 123), .callF 71 [(.tmp 122)], none⟩ ::
⟨(some 124), .bin .leq (.const (.int .u8 97)) (.tmp 123), none⟩ ::
⟨(some 125), .mv (.tmp 124), none⟩ ::
⟨(some 126), .mv (.tmp 15), (some (125, true))⟩ ::
⟨(some 127), .callF 71 [(.tmp 126)], (some (125, true))⟩ ::
⟨(some 128), .bin .leq (.tmp 127) (.const (.int .u8 122)), (some (125, true))⟩ ::
⟨(some 129), .pick (.tmp 125) (.tmp 128) (.const (.bool false)), none⟩ ::
⟨(some 121), .mv (.tmp 129), none⟩ ::
[]))
(.cond (.tmp 121)
(.plain (
⟨(some 130), .mv (.tmp 15), none⟩ ::
⟨(some 131), .callF 71 [(.tmp 130)], none⟩ ::
⟨(some 132), .bin .sub (.tmp 131) (.const (.int .u8 97)), none⟩ ::
⟨(some 133), .bin .add (.tmp 132) (.const (.int .u8 10)), none⟩ ::
⟨(some 16), .mv (.tmp 133), none⟩ ::
[]))
(.seq
(.plain (
⟨(some 105), .mki 81 (.const (.int .i64 2)), none⟩ ::
⟨(some 6), .mv (.const (.int .u64 0)), none⟩ ::
⟨(some 7), .mv (.tmp 105), none⟩ ::
[]))
.ret))))))))
(.seq
(.seq
(.plain (
⟨(some 134), .mv (.tmp 16), none⟩ ::
⟨(some 135), .mv (.tmp 1), none⟩ ::
⟨(some 136), .cvt .u8 (.tmp 135), none⟩ ::
⟨(some 137), .bin .geq (.tmp 134) (.tmp 136), none⟩ ::
[]))
(.cond (.tmp 137)
(.seq
(.plain (
⟨(some 138), .mki 81 (.const (.int .i64 2)), none⟩ ::
⟨(some 6), .mv (.const (.int .u64 0)), none⟩ ::
⟨(some 7), .mv (.tmp 138), none⟩ ::
[]))
.ret)
.skip))
(.seq
(.seq
(.plain (
⟨(some 139), .mv (.tmp 13), none⟩ ::
⟨(some 140), .mv (.tmp 10), none⟩ ::
⟨(some 141), .bin .geq (.tmp 139) (.tmp 140), none⟩ ::
[]))
(.cond (.tmp 141)
(.seq
(.plain (
⟨(some 142), .mv (.tmp 11), none⟩ ::
⟨(some 143), .mki 81 (.const (.int .i64 1)), none⟩ ::
⟨(some 6), .mv (.tmp 142), none⟩ ::
⟨(some 7), .mv (.tmp 143), none⟩ ::
[]))
.ret)
.skip))
(.seq
(.plain (
⟨(some 144), .mv (.tmp 13), none⟩ ::
⟨(some 145), .mv (.tmp 1), none⟩ ::
⟨(some 146), .cvt .u64 (.tmp 145), none⟩ ::
⟨(some 147), .bin .mul (.tmp 144) (.tmp 146), none⟩ ::
⟨(some 13), .mv (.tmp 147), none⟩ ::
[]))
(.seq
(.plain (
⟨(some 148), .mv (.tmp 13), none⟩ ::
⟨(some 149), .mv (.tmp 16), none⟩ ::
⟨(some 150), .cvt .u64 (.tmp 149), none⟩ ::
⟨(some 151), .bin .add (.tmp 148) (.tmp 150), none⟩ ::
⟨(some 17), .mv (.tmp 151), none⟩ ::
[]))
(.seq
(.seq
(.plain (
⟨(some 152), .mv (.tmp 17), none⟩ ::
⟨(some 153), .mv (.tmp 13), none⟩ ::
⟨(some 154), .bin .lss (.tmp 152) (.tmp 153), none⟩ ::
⟨(some 155), .mv (.tmp 154), none⟩ ::
⟨(some 156), .mv (.tmp 17), (some (155, false))⟩ ::
⟨(some 157), .mv (.tmp 11), (some (155, false))⟩ ::
⟨(some 158), .bin .gtr (.tmp 156) (.tmp 157), (some (155, false))⟩ ::
⟨(some 159), .pick (.tmp 155) (.const (.bool true)) (.tmp 158), none⟩ ::
[]))
(.cond (.tmp 159)
(.seq
(.plain (
⟨(some 160), .mv (.tmp 11), none⟩ ::
⟨(some 161), .mki 81 (.const (.int .i64 1)), none⟩ ::
⟨(some 6), .mv (.tmp 160), none⟩ ::
⟨(some 7), .mv (.tmp 161), none⟩ ::
[]))
.ret)
.skip))
(.plain (
⟨(some 162), .mv (.tmp 17), none⟩ ::
⟨(some 13), .mv (.tmp 162), none⟩ ::
[])))))))))))
(.plain (
⟨(some 163), .bin .add (.tmp 101) (.const (.int .i64 1)), none⟩ ::
⟨(some 101), .mv (.tmp 163), none⟩ ::
[]))))))))
(.seq
(.seq
(.plain (
⟨(some 164), .mv (.tmp 12), none⟩ ::
⟨(some 165), .mv (.tmp 164), none⟩ ::
⟨(some 166), .mv (.tmp 9), (some (165, true))⟩ ::
⟨(some 167), .callF 72 [(.tmp 166)], (some (165, true))⟩ ::
⟨(some 168), .un .not (.tmp 167), (some (165, true))⟩ ::
⟨(some 169), .pick (.tmp 165) (.tmp 168) (.const (.bool false)), none⟩ ::
[]))
(.cond (.tmp 169)
(.seq
(.plain (
⟨(some 170), .mki 81 (.const (.int .i64 2)), none⟩ ::
⟨(some 6), .mv (.const (.int .u64 0)), none⟩ ::
⟨(some 7), .mv (.tmp 170), none⟩ ::
[]))
.ret)
.skip))
(.seq
(.plain (
⟨(some 171), .mv (.tmp 13), none⟩ ::
⟨(some 6), .mv (.tmp 171), none⟩ ::
⟨(some 7), .mv (.const .nilIface), none⟩ ::
[]))
.ret))))))))))))))
theorem prep59 : prepFunc Tryd.prog 0 59 = some F59 := by kernel_rfl

-- strconv.syntaxError
def F60 : AFunc where
  ntmps := 11
  nparams := 2
  results := [(4, none)]
  code :=
(.seq
(.plain (
⟨(some 4), .mv (.const (.pointer none)), none⟩ ::
[]))
(.seq
(.draw (
⟨(some 5), .mv (.tmp 0), none⟩ ::
⟨(some 6), .mv (.tmp 1), none⟩ ::
⟨(some 7), .callF 73 [(.tmp 6)], none⟩ ::
⟨(some 8), .load false 1 (.global 4), none⟩ ::
⟨(some 9), .bld [(.v (.string ⟨#[]⟩)), (.v (.string ⟨#[]⟩)), (.v .nilIface)] [(0, 1, (.tmp 5)), (1, 1, (.tmp 7)), (2, 1, (.tmp 8))], none⟩ ::
⟨(some 10), .box 104 (.tmp 9), none⟩ ::
⟨(some 4), .mv (.tmp 10), none⟩ ::
[])
(⟨0, [], []⟩ :: ⟨1, [], []⟩ :: ⟨3, [], []⟩ :: ⟨2, [], [3]⟩ :: ⟨4, [], []⟩ :: ⟨5, [], []⟩ :: ⟨6, [], []⟩ :: []))
.ret))
theorem prep60 : prepFunc Tryd.prog 0 60 = some F60 := by kernel_rfl

-- strconv.rangeError
def F61 : AFunc where
  ntmps := 11
  nparams := 2
  results := [(4, none)]
  code :=
(.seq
(.plain (
⟨(some 4), .mv (.const (.pointer none)), none⟩ ::
[]))
(.seq
(.draw (
⟨(some 5), .mv (.tmp 0), none⟩ ::
⟨(some 6), .mv (.tmp 1), none⟩ ::
⟨(some 7), .callF 73 [(.tmp 6)], none⟩ ::
⟨(some 8), .load false 1 (.global 5), none⟩ ::
⟨(some 9), .bld [(.v (.string ⟨#[]⟩)), (.v (.string ⟨#[]⟩)), (.v .nilIface)] [(0, 1, (.tmp 5)), (1, 1, (.tmp 7)), (2, 1, (.tmp 8))], none⟩ ::
⟨(some 10), .box 104 (.tmp 9), none⟩ ::
⟨(some 4), .mv (.tmp 10), none⟩ ::
[])
(⟨0, [], []⟩ :: ⟨1, [], []⟩ :: ⟨3, [], []⟩ :: ⟨2, [], [3]⟩ :: ⟨4, [], []⟩ :: ⟨5, [], []⟩ :: ⟨6, [], []⟩ :: []))
.ret))
theorem prep61 : prepFunc Tryd.prog 0 61 = some F61 := by kernel_rfl

-- strconv.baseError
def F62 : AFunc where
  ntmps := 16
  nparams := 3
  results := [(6, none)]
  code :=
(.seq
(.plain (
⟨(some 6), .mv (.const (.pointer none)), none⟩ ::
[]))
(.seq
(.plain (
⟨(some 7), .mv (.tmp 0), none⟩ ::
⟨(some 8), .mv (.tmp 1), none⟩ ::
⟨(some 9), .callF 73 [(.tmp 8)], none⟩ ::
⟨(some 10), .mv (.tmp 2), none⟩ ::
⟨(some 11), .callF 75 [(.tmp 10)], none⟩ ::
⟨(some 12), .bin .add (.const (.string ⟨#[105, 110, 118, 97, 108, 105, 100, 32, 98, 97, 115, 101, 32]⟩)) (.tmp 11), none⟩ ::
⟨(some 13), .callF 74 [(.tmp 12)], none⟩ ::
⟨(some 14), .bld [(.v (.string ⟨#[]⟩)), (.v (.string ⟨#[]⟩)), (.v .nilIface)] [(0, 1, (.tmp 7)), (1, 1, (.tmp 9)), (2, 1, (.tmp 13))], none⟩ ::
⟨(some 15), .box 104 (.tmp 14), none⟩ ::
⟨(some 6), .mv (.tmp 15), none⟩ ::
[]))
.ret))
theorem prep62 : prepFunc Tryd.prog 0 62 = some F62 := by kernel_rfl

-- strconv.bitSizeError
def F63 : AFunc where
  ntmps := 16
  nparams := 3
  results := [(6, none)]
  code :=
(.seq
(.plain (
⟨(some 6), .mv (.const (.pointer none)), none⟩ ::
[]))
(.seq
(.plain (
⟨(some 7), .mv (.tmp 0), none⟩ ::
⟨(some 8), .mv (.tmp 1), none⟩ ::
⟨(some 9), .callF 73 [(.tmp 8)], none⟩ ::
⟨(some 10), .mv (.tmp 2), none⟩ ::
⟨(some 11), .callF 75 [(.tmp 10)], none⟩ ::
⟨(some 12), .bin .add (.const (.string ⟨#[105, 110, 118, 97, 108, 105, 100, 32, 98, 105, 116, 32, 115, 105, 122, 101, 32]⟩)) (.tmp 11), none⟩ ::
⟨(some 13), .callF 74 [(.tmp 12)], none⟩ ::
⟨(some 14), .bld [(.v (.string ⟨#[]⟩)), (.v (.string ⟨#[]⟩)), (.v .nilIface)] [(0, 1, (.tmp 7)), (1, 1, (.tmp 9)), (2, 1, (.tmp 13))], none⟩ ::
⟨(some 15), .box 104 (.tmp 14), none⟩ ::
⟨(some 6), .mv (.tmp 15), none⟩ ::
[]))
.ret))
theorem prep63 : prepFunc Tryd.prog 0 63 = some F63 := by kernel_rfl

-- internal/strconv.small
def F64 : AFunc where
  ntmps := 15
  nparams := 1
  results := [(2, none)]
  code :=
(.seq
(.plain (
⟨(some 2), .mv (.const (.string ⟨#[]⟩)), none⟩ ::
[]))
(.seq
(.seq
(.plain (
⟨(some 3), .mv (.tmp 0), none⟩ ::
⟨(some 4), .bin .lss (.tmp 3) (.const (.int .i64 10)), none⟩ ::
[]))
(.cond (.tmp 4)
(.seq
(.plain (
⟨(some 5), .mv (.tmp 0), none⟩ ::
⟨(some 6), .mv (.tmp 0), none⟩ ::
⟨(some 7), .bin .add (.tmp 6) (.const (.int .i64 1)), none⟩ ::
⟨(some 8), .slcS (.const (.string ⟨#[48, 49, 50, 51, 52, 53, 54, 55, 56, 57, 97, 98, 99, 100, 101, 102, 103, 104, 105, 106, 107, 108, 109, 110, 111, 112, 113, 114, 115, 116, 117, 118, 119, 120, 121, 122]⟩)) (some (.tmp 5)) (some (.tmp 7)), none⟩ ::
⟨(some 2), .mv (.tmp 8), none⟩ ::
[]))
.ret)
.skip))
(.seq
(.plain (
⟨(some 9), .mv (.tmp 0), none⟩ ::
⟨(some 10), .bin .mul (.tmp 9) (.const (.int .i64 2)), none⟩ ::
⟨(some 11), .mv (.tmp 0), none⟩ ::
⟨(some 12), .bin .mul (.tmp 11) (.const (.int .i64 2)), none⟩ ::
⟨(some 13), .bin .add (.tmp 12) (.const (.int .i64 2)), none⟩ ::
⟨(some 14), .slcS (.const (.string ⟨#[48, 48, 48, 49, 48, 50, 48, 51, 48, 52, 48, 53, 48, 54, 48, 55, 48, 56, 48, 57, 49, 48, 49, 49, 49, 50, 49, 51, 49, 52, 49, 53, 49, 54, 49, 55, 49, 56, 49, 57, 50, 48, 50, 49, 50, 50, 50, 51, 50, 52, 50, 53, 50, 54, 50, 55, 50, 56, 50, 57, 51, 48, 51, 49, 51, 50, 51, 51, 51, 52, 51, 53, 51, 54, 51, 55, 51, 56, 51, 57, 52, 48, 52, 49, 52, 50, 52, 51, 52, 52, 52, 53, 52, 54, 52, 55, 52, 56, 52, 57, 53, 48, 53, 49, 53, 50, 53, 51, 53, 52, 53, 53, 53, 54, 53, 55, 53, 56, 53, 57, 54, 48, 54, 49, 54, 50, 54, 51, 54, 52, 54, 53, 54, 54, 54, 55, 54, 56, 54, 57, 55, 48, 55, 49, 55, 50, 55, 51, 55, 52, 55, 53, 55, 54, 55, 55, 55, 56, 55, 57, 56, 48, 56, 49, 56, 50, 56, 51, 56, 52, 56, 53, 56, 54, 56, 55, 56, 56, 56, 57, 57, 48, 57, 49, 57, 50, 57, 51, 57, 52, 57, 53, 57, 54, 57, 55, 57, 56, 57, 57]⟩)) (some (.tmp 10)) (some (.tmp 13)), none⟩ ::
⟨(some 2), .mv (.tmp 14), none⟩ ::
[]))
.ret)))
theorem prep64 : prepFunc Tryd.prog 0 64 = some F64 := by kernel_rfl

-- internal/strconv.numDigits
def F65 : AFunc where
  ntmps := 15
  nparams := 1
  results := [(2, none)]
  code :=
(.seq
(.plain (
⟨(some 2), .mv (.const (.int .i64 0)), none⟩ ::
[]))
(.seq
(.plain (
⟨(some 4), .mv (.tmp 0), none⟩ ::
⟨(some 5), .callF 77 [(.tmp 4)], none⟩ ::
⟨(some 6), .callF 76 [(.tmp 5)], none⟩ ::
⟨(some 3), .mv (.tmp 6), none⟩ ::
[]))
(.seq
(.plain (
⟨(some 7), .mv (.tmp 3), none⟩ ::
⟨(some 8), .mv (.tmp 0), none⟩ ::
⟨(some 9), .mv (.tmp 3), none⟩ ::
⟨(some 10), .iaA 1 20 (.global 6) (.tmp 9), none⟩ ::
⟨(some 11), .load false 1 (.tmp 10), none⟩ ::
⟨(some 12), .bin .geq (.tmp 8) (.tmp 11), none⟩ ::
⟨(some 13), .callF 78 [(.tmp 12)], none⟩ ::
⟨(some 14), .bin .add (.tmp 7) (.tmp 13), none⟩ ::
⟨(some 2), .mv (.tmp 14), none⟩ ::
[]))
.ret)))
theorem prep65 : prepFunc Tryd.prog 0 65 = some F65 := by kernel_rfl

-- internal/strconv.formatBase10
def F66 : AFunc where
  ntmps := 167
  nparams := 2
  results := []
  code :=
(.seq
(.plain (
⟨(some 17), .mv (.tmp 0), none⟩ ::
⟨(some 18), .len (.tmp 17), none⟩ ::
⟨(some 4), .mv (.tmp 18), none⟩ ::
[]))
(.seq
(.block 0
(.loop
(.seq
(.seq
(.plain (
⟨(some 19), .mv (.tmp 4), none⟩ ::
⟨(some 20), .bin .geq (.tmp 19) (.const (.int .i64 8)), none⟩ ::
[]))
(.cond (.tmp 20)
.skip
(.exit 0)))
(.block 1
(.seq
(.plain (
⟨(some 21), .mv (.tmp 1), none⟩ ::
⟨(some 22), .bin .rem (.tmp 21) (.const (.int .u64 100000000)), none⟩ ::
⟨(some 23), .cvt .u32 (.tmp 22), none⟩ ::
⟨(some 5), .mv (.tmp 23), none⟩ ::
[]))
(.seq
(.plain (
⟨(some 24), .mv (.tmp 1), none⟩ ::
⟨(some 25), .bin .quo (.tmp 24) (.const (.int .u64 100000000)), none⟩ ::
⟨(some 1), .mv (.tmp 25), none⟩ ::
[]))
(.seq
(.plain (
⟨(some 26), .mv (.tmp 5), none⟩ ::
⟨(some 27), .bin .quo (.tmp 26) (.const (.int .u32 10000)), none⟩ ::
⟨(some 28), .mv (.tmp 5), none⟩ ::
⟨(some 29), .bin .rem (.tmp 28) (.const (.int .u32 10000)), none⟩ ::
⟨(some 6), .mv (.tmp 27), none⟩ ::
⟨(some 7), .mv (.tmp 29), none⟩ ::
[]))
(.seq
(.plain (
⟨(some 30), .mv (.tmp 7), none⟩ ::
⟨(some 31), .bin .quo (.tmp 30) (.const (.int .u32 100)), none⟩ ::
⟨(some 32), .bin .mul (.tmp 31) (.const (.int .u32 2)), none⟩ ::
⟨(some 33), .mv (.tmp 7), none⟩ ::
⟨(some 34), .bin .rem (.tmp 33) (.const (.int .u32 100)), none⟩ ::
⟨(some 35), .bin .mul (.tmp 34) (.const (.int .u32 2)), none⟩ ::
⟨(some 8), .mv (.tmp 32), none⟩ ::
⟨(some 9), .mv (.tmp 35), none⟩ ::
[]))
(.seq
(.plain (
⟨(some 36), .mv (.tmp 6), none⟩ ::
⟨(some 37), .bin .quo (.tmp 36) (.const (.int .u32 100)), none⟩ ::
⟨(some 38), .bin .mul (.tmp 37) (.const (.int .u32 2)), none⟩ ::
⟨(some 39), .mv (.tmp 6), none⟩ ::
⟨(some 40), .bin .rem (.tmp 39) (.const (.int .u32 100)), none⟩ ::
⟨(some 41), .bin .mul (.tmp 40) (.const (.int .u32 2)), none⟩ ::
⟨(some 10), .mv (.tmp 38), none⟩ ::
⟨(some 11), .mv (.tmp 41), none⟩ ::
[]))
(.seq
(.draw (
⟨(some 42), .mv (.tmp 0), none⟩ ::
⟨(some 43), .mv (.tmp 4), none⟩ ::
⟨(some 44), .bin .sub (.tmp 43) (.const (.int .i64 1)), none⟩ ::
⟨(some 45), .mv (.tmp 0), none⟩ ::
⟨(some 46), .mv (.tmp 4), none⟩ ::
⟨(some 47), .bin .sub (.tmp 46) (.const (.int .i64 2)), none⟩ ::
⟨(some 48), .mv (.tmp 9), none⟩ ::
⟨(some 49), .bin .add (.tmp 48) (.const (.int .u32 1)), none⟩ ::
⟨(some 50), .idxS (.const (.string ⟨#[48, 48, 48, 49, 48, 50, 48, 51, 48, 52, 48, 53, 48, 54, 48, 55, 48, 56, 48, 57, 49, 48, 49, 49, 49, 50, 49, 51, 49, 52, 49, 53, 49, 54, 49, 55, 49, 56, 49, 57, 50, 48, 50, 49, 50, 50, 50, 51, 50, 52, 50, 53, 50, 54, 50, 55, 50, 56, 50, 57, 51, 48, 51, 49, 51, 50, 51, 51, 51, 52, 51, 53, 51, 54, 51, 55, 51, 56, 51, 57, 52, 48, 52, 49, 52, 50, 52, 51, 52, 52, 52, 53, 52, 54, 52, 55, 52, 56, 52, 57, 53, 48, 53, 49, 53, 50, 53, 51, 53, 52, 53, 53, 53, 54, 53, 55, 53, 56, 53, 57, 54, 48, 54, 49, 54, 50, 54, 51, 54, 52, 54, 53, 54, 54, 54, 55, 54, 56, 54, 57, 55, 48, 55, 49, 55, 50, 55, 51, 55, 52, 55, 53, 55, 54, 55, 55, 55, 56, 55, 57, 56, 48, 56, 49, 56, 50, 56, 51, 56, 52, 56, 53, 56, 54, 56, 55, 56, 56, 56, 57, 57, 48, 57, 49, 57, 50, 57, 51, 57, 52, 57, 53, 57, 54, 57, 55, 57, 56, 57, 57]⟩)) (.tmp 49), none⟩ ::
⟨(some 51), .mv (.tmp 9), none⟩ ::
⟨(some 52), .idxS (.const (.string ⟨#[48, 48, 48, 49, 48, 50, 48, 51, 48, 52, 48, 53, 48, 54, 48, 55, 48, 56, 48, 57, 49, 48, 49, 49, 49, 50, 49, 51, 49, 52, 49, 53, 49, 54, 49, 55, 49, 56, 49, 57, 50, 48, 50, 49, 50, 50, 50, 51, 50, 52, 50, 53, 50, 54, 50, 55, 50, 56, 50, 57, 51, 48, 51, 49, 51, 50, 51, 51, 51, 52, 51, 53, 51, 54, 51, 55, 51, 56, 51, 57, 52, 48, 52, 49, 52, 50, 52, 51, 52, 52, 52, 53, 52, 54, 52, 55, 52, 56, 52, 57, 53, 48, 53, 49, 53, 50, 53, 51, 53, 52, 53, 53, 53, 54, 53, 55, 53, 56, 53, 57, 54, 48, 54, 49, 54, 50, 54, 51, 54, 52, 54, 53, 54, 54, 54, 55, 54, 56, 54, 57, 55, 48, 55, 49, 55, 50, 55, 51, 55, 52, 55, 53, 55, 54, 55, 55, 55, 56, 55, 57, 56, 48, 56, 49, 56, 50, 56, 51, 56, 52, 56, 53, 56, 54, 56, 55, 56, 56, 56, 57, 57, 48, 57, 49, 57, 50, 57, 51, 57, 52, 57, 53, 57, 54, 57, 55, 57, 56, 57, 57]⟩)) (.tmp 51), none⟩ ::
⟨(some 53), .iaS 1 (.tmp 42) (.tmp 44), none⟩ ::
⟨none, .store 1 (.tmp 53) (.tmp 50), none⟩ ::
⟨(some 54), .iaS 1 (.tmp 45) (.tmp 47), none⟩ ::
⟨none, .store 1 (.tmp 54) (.tmp 52), none⟩ ::
[])
(⟨0, [], []⟩ :: ⟨1, [], []⟩ :: ⟨2, [], []⟩ :: ⟨3, [], []⟩ :: ⟨4, [], []⟩ :: ⟨5, [], []⟩ :: ⟨6, [], []⟩ :: ⟨7, [], []⟩ :: ⟨8, [], []⟩ :: ⟨9, [], []⟩ :: ⟨10, [], []⟩ :: ⟨11, [], []⟩ :: ⟨12, [], []⟩ :: ⟨13, [], []⟩ :: ⟨14, [], []⟩ :: []))
(.seq
(.draw (
⟨(some 55), .mv (.tmp 0), none⟩ ::
⟨(some 56), .mv (.tmp 4), none⟩ ::
⟨(some 57), .bin .sub (.tmp 56) (.const (.int .i64 3)), none⟩ ::
⟨(some 58), .mv (.tmp 0), none⟩ ::
⟨(some 59), .mv (.tmp 4), none⟩ ::
⟨(some 60), .bin .sub (.tmp 59) (.const (.int .i64 4)), none⟩ ::
⟨(some 61), .mv (.tmp 8), none⟩ ::
⟨(some 62), .bin .add (.tmp 61) (.const (.int .u32 1)), none⟩ ::
⟨(some 63), .idxS (.const (.string ⟨#[48, 48, 48, 49, 48, 50, 48, 51, 48, 52, 48, 53, 48, 54, 48, 55, 48, 56, 48, 57, 49, 48, 49, 49, 49, 50, 49, 51, 49, 52, 49, 53, 49, 54, 49, 55, 49, 56, 49, 57, 50, 48, 50, 49, 50, 50, 50, 51, 50, 52, 50, 53, 50, 54, 50, 55, 50, 56, 50, 57, 51, 48, 51, 49, 51, 50, 51, 51, 51, 52, 51, 53, 51, 54, 51, 55, 51, 56, 51, 57, 52, 48, 52, 49, 52, 50, 52, 51, 52, 52, 52, 53, 52, 54, 52, 55, 52, 56, 52, 57, 53, 48, 53, 49, 53, 50, 53, 51, 53, 52, 53, 53, 53, 54, 53, 55, 53, 56, 53, 57, 54, 48, 54, 49, 54, 50, 54, 51, 54, 52, 54, 53, 54, 54, 54, 55, 54, 56, 54, 57, 55, 48, 55, 49, 55, 50, 55, 51, 55, 52, 55, 53, 55, 54, 55, 55, 55, 56, 55, 57, 56, 48, 56, 49, 56, 50, 56, 51, 56, 52, 56, 53, 56, 54, 56, 55, 56, 56, 56, 57, 57, 48, 57, 49, 57, 50, 57, 51, 57, 52, 57, 53, 57, 54, 57, 55, 57, 56, 57, 57]⟩)) (.tmp 62), none⟩ ::
⟨(some 64), .mv (.tmp 8), none⟩ ::
⟨(some 65), .idxS (.const (.string ⟨#[48, 48, 48, 49, 48, 50, 48, 51, 48, 52, 48, 53, 48, 54, 48, 55, 48, 56, 48, 57, 49, 48, 49, 49, 49, 50, 49, 51, 49, 52, 49, 53, 49, 54, 49, 55, 49, 56, 49, 57, 50, 48, 50, 49, 50, 50, 50, 51, 50, 52, 50, 53, 50, 54, 50, 55, 50, 56, 50, 57, 51, 48, 51, 49, 51, 50, 51, 51, 51, 52, 51, 53, 51, 54, 51, 55, 51, 56, 51, 57, 52, 48, 52, 49, 52, 50, 52, 51, 52, 52, 52, 53, 52, 54, 52, 55, 52, 56, 52, 57, 53, 48, 53, 49, 53, 50, 53, 51, 53, 52, 53, 53, 53, 54, 53, 55, 53, 56, 53, 57, 54, 48, 54, 49, 54, 50, 54, 51, 54, 52, 54, 53, 54, 54, 54, 55, 54, 56, 54, 57, 55, 48, 55, 49, 55, 50, 55, 51, 55, 52, 55, 53, 55, 54, 55, 55, 55, 56, 55, 57, 56, 48, 56, 49, 56, 50, 56, 51, 56, 52, 56, 53, 56, 54, 56, 55, 56, 56, 56, 57, 57, 48, 57, 49, 57, 50, 57, 51, 57, 52, 57, 53, 57, 54, 57, 55, 57, 56, 57, 57]⟩)) (.tmp 64), none⟩ ::
⟨(some 66), .iaS 1 (.tmp 55) (.tmp 57), none⟩ ::
⟨none, .store 1 (.tmp 66) (.tmp 63), none⟩ ::
⟨(some 67), .iaS 1 (.tmp 58) (.tmp 60), none⟩ ::
⟨none, .store 1 (.tmp 67) (.tmp 65), none⟩ ::
[])
(⟨0, [], []⟩ :: ⟨1, [], []⟩ :: ⟨2, [], []⟩ :: ⟨3, [], []⟩ :: ⟨4, [], []⟩ :: ⟨5, [], []⟩ :: ⟨6, [], []⟩ :: ⟨7, [], []⟩ :: ⟨8, [], []⟩ :: ⟨9, [], []⟩ :: ⟨10, [], []⟩ :: ⟨11, [], []⟩ :: ⟨12, [], []⟩ :: ⟨13, [], []⟩ :: ⟨14, [], []⟩ :: []))
(.seq
(.draw (
⟨(some 68), .mv (.tmp 0), none⟩ ::
⟨(some 69), .mv (.tmp 4), none⟩ ::
⟨(some 70), .bin .sub (.tmp 69) (.const (.int .i64 5)), none⟩ ::
⟨(some 71), .mv (.tmp 0), none⟩ ::
⟨(some 72), .mv (.tmp 4), none⟩ ::
⟨(some 73), .bin .sub (.tmp 72) (.const (.int .i64 6)), none⟩ ::
⟨(some 74), .mv (.tmp 11), none⟩ ::
⟨(some 75), .bin .add (.tmp 74) (.const (.int .u32 1)), none⟩ ::
⟨(some 76), .idxS (.const (.string ⟨#[48, 48, 48, 49, 48, 50, 48, 51, 48, 52, 48, 53, 48, 54, 48, 55, 48, 56, 48, 57, 49, 48, 49, 49, 49, 50, 49, 51, 49, 52, 49, 53, 49, 54, 49, 55, 49, 56, 49, 57, 50, 48, 50, 49, 50, 50, 50, 51, 50, 52, 50, 53, 50, 54, 50, 55, 50, 56, 50, 57, 51, 48, 51, 49, 51, 50, 51, 51, 51, 52, 51, 53, 51, 54, 51, 55, 51, 56, 51, 57, 52, 48, 52, 49, 52, 50, 52, 51, 52, 52, 52, 53, 52, 54, 52, 55, 52, 56, 52, 57, 53, 48, 53, 49, 53, 50, 53, 51, 53, 52, 53, 53, 53, 54, 53, 55, 53, 56, 53, 57, 54, 48, 54, 49, 54, 50, 54, 51, 54, 52, 54, 53, 54, 54, 54, 55, 54, 56, 54, 57, 55, 48, 55, 49, 55, 50, 55, 51, 55, 52, 55, 53, 55, 54, 55, 55, 55, 56, 55, 57, 56, 48, 56, 49, 56, 50, 56, 51, 56, 52, 56, 53, 56, 54, 56, 55, 56, 56, 56, 57, 57, 48, 57, 49, 57, 50, 57, 51, 57, 52, 57, 53, 57, 54, 57, 55, 57, 56, 57, 57]⟩)) (.tmp 75), none⟩ ::
⟨(some 77), .mv (.tmp 11), none⟩ ::
⟨(some 78), .idxS (.const (.string ⟨#[48, 48, 48, 49, 48, 50, 48, 51, 48, 52, 48, 53, 48, 54, 48, 55, 48, 56, 48, 57, 49, 48, 49, 49, 49, 50, 49, 51, 49, 52, 49, 53, 49, 54, 49, 55, 49, 56, 49, 57, 50, 48, 50, 49, 50, 50, 50, 51, 50, 52, 50, 53, 50, 54, 50, 55, 50, 56, 50, 57, 51, 48, 51, 49, 51, 50, 51, 51, 51, 52, 51, 53, 51, 54, 51, 55, 51, 56, 51, 57, 52, 48, 52, 49, 52, 50, 52, 51, 52, 52, 52, 53, 52, 54, 52, 55, 52, 56, 52, 57, 53, 48, 53, 49, 53, 50, 53, 51, 53, 52, 53, 53, 53, 54, 53, 55, 53, 56, 53, 57, 54, 48, 54, 49, 54, 50, 54, 51, 54, 52, 54, 53, 54, 54, 54, 55, 54, 56, 54, 57, 55, 48, 55, 49, 55, 50, 55, 51, 55, 52, 55, 53, 55, 54, 55, 55, 55, 56, 55, 57, 56, 48, 56, 49, 56, 50, 56, 51, 56, 52, 56, 53, 56, 54, 56, 55, 56, 56, 56, 57, 57, 48, 57, 49, 57, 50, 57, 51, 57, 52, 57, 53, 57, 54, 57, 55, 57, 56, 57, 57]⟩)) (.tmp 77), none⟩ ::
⟨(some 79), .iaS 1 (.tmp 68) (.tmp 70), none⟩ ::
⟨none, .store 1 (.tmp 79) (.tmp 76), none⟩ ::
⟨(some 80), .iaS 1 (.tmp 71) (.tmp 73), none⟩ ::
⟨none, .store 1 (.tmp 80) (.tmp 78), none⟩ ::
[])
(⟨0, [], []⟩ :: ⟨1, [], []⟩ :: ⟨2, [], []⟩ :: ⟨3, [], []⟩ :: ⟨4, [], []⟩ :: ⟨5, [], []⟩ :: ⟨6, [], []⟩ :: ⟨7, [], []⟩ :: ⟨8, [], []⟩ :: ⟨9, [], []⟩ :: ⟨10, [], []⟩ :: ⟨11, [], []⟩ :: ⟨12, [], []⟩ :: ⟨13, [], []⟩ :: ⟨14, [], []⟩ :: []))
(.seq
(.draw (
⟨(some 81), .mv (.tmp 0), none⟩ ::
⟨(some 82), .mv (.tmp 4), none⟩ ::
⟨(some 83), .bin .sub (.tmp 82) (.const (.int .i64 7)), none⟩ ::
⟨(some 84), .mv (.tmp 0), none⟩ ::
⟨(some 85), .mv (.tmp 4), none⟩ ::
⟨(some 86), .bin .sub (.tmp 85) (.const (.int .i64 8)), none⟩ ::
⟨(some 87), .mv (.tmp 10), none⟩ ::
⟨(some 88), .bin .add (.tmp 87) (.const (.int .u32 1)), none⟩ ::
⟨(some 89), .idxS (.const (.string ⟨#[48, 48, 48, 49, 48, 50, 48, 51, 48, 52, 48, 53, 48, 54, 48, 55, 48, 56, 48, 57, 49, 48, 49, 49, 49, 50, 49, 51, 49, 52, 49, 53, 49, 54, 49, 55, 49, 56, 49, 57, 50, 48, 50, 49, 50, 50, 50, 51, 50, 52, 50, 53, 50, 54, 50, 55, 50, 56, 50, 57, 51, 48, 51, 49, 51, 50, 51, 51, 51, 52, 51, 53, 51, 54, 51, 55, 51, 56, 51, 57, 52, 48, 52, 49, 52, 50, 52, 51, 52, 52, 52, 53, 52, 54, 52, 55, 52, 56, 52, 57, 53, 48, 53, 49, 53, 50, 53, 51, 53, 52, 53, 53, 53, 54, 53, 55, 53, 56, 53, 57, 54, 48, 54, 49, 54, 50, 54, 51, 54, 52, 54, 53, 54, 54, 54, 55, 54, 56, 54, 57, 55, 48, 55, 49, 55, 50, 55, 51, 55, 52, 55, 53, 55, 54, 55, 55, 55, 56, 55, 57, 56, 48, 56, 49, 56, 50, 56, 51, 56, 52, 56, 53, 56, 54, 56, 55, 56, 56, 56, 57, 57, 48, 57, 49, 57, 50, 57, 51, 57, 52, 57, 53, 57, 54, 57, 55, 57, 56, 57, 57]⟩)) (.tmp 88), none⟩ ::
⟨(some 90), .mv (.tmp 10), none⟩ ::
⟨(some 91), .idxS (.const (.string ⟨#[48, 48, 48, 49, 48, 50, 48, 51, 48, 52, 48, 53, 48, 54, 48, 55, 48, 56, 48, 57, 49, 48, 49, 49, 49, 50, 49, 51, 49, 52, 49, 53, 49, 54, 49, 55, 49, 56, 49, 57, 50, 48, 50, 49, 50, 50, 50, 51, 50, 52, 50, 53, 50, 54, 50, 55, 50, 56, 50, 57, 51, 48, 51, 49, 51, 50, 51, 51, 51, 52, 51, 53, 51, 54, 51, 55, 51, 56, 51, 57, 52, 48, 52, 49, 52, 50, 52, 51, 52, 52, 52, 53, 52, 54, 52, 55, 52, 56, 52, 57, 53, 48, 53, 49, 53, 50, 53, 51, 53, 52, 53, 53, 53, 54, 53, 55, 53, 56, 53, 57, 54, 48, 54, 49, 54, 50, 54, 51, 54, 52, 54, 53, 54, 54, 54, 55, 54, 56, 54, 57, 55, 48, 55, 49, 55, 50, 55, 51, 55, 52, 55, 53, 55, 54, 55, 55, 55, 56, 55, 57, 56, 48, 56, 49, 56, 50, 56, 51, 56, 52, 56, 53, 56, 54, 56, 55, 56, 56, 56, 57, 57, 48, 57, 49, 57, 50, 57, 51, 57, 52, 57, 53, 57, 54, 57, 55, 57, 56, 57, 57]⟩)) (.tmp 90), none⟩ ::
⟨(some 92), .iaS 1 (.tmp 81) (.tmp 83), none⟩ ::
⟨none, .store 1 (.tmp 92) (.tmp 89), none⟩ ::
⟨(some 93), .iaS 1 (.tmp 84) (.tmp 86), none⟩ ::
⟨none, .store 1 (.tmp 93) (.tmp 91), none⟩ ::
[])
(⟨0, [], []⟩ :: ⟨1, [], []⟩ :: ⟨2, [], []⟩ :: ⟨3, [], []⟩ :: ⟨4, [], []⟩ :: ⟨5, [], []⟩ :: ⟨6, [], []⟩ :: ⟨7, [], []⟩ :: ⟨8, [], []⟩ :: ⟨9, [], []⟩ :: ⟨10, [], []⟩ :: ⟨11, [], []⟩ :: ⟨12, [], []⟩ :: ⟨13, [], []⟩ :: ⟨14, [], []⟩ :: []))
(.plain (
⟨(some 94), .mv (.tmp 4), none⟩ ::
⟨(some 95), .bin .sub (.tmp 94) (.const (.int .i64 8)), none⟩ ::
⟨(some 4), .mv (.tmp 95), none⟩ ::
[])))))))))))))))
(.seq
(.plain (
⟨(some 96), .mv (.tmp 1), none⟩ ::
⟨(some 97), .cvt .u32 (.tmp 96), none⟩ ::
⟨(some 12), .mv (.tmp 97), none⟩ ::
[]))
(.seq
(.seq
(.plain (
⟨(some 98), .mv (.tmp 4), none⟩ ::
⟨(some 99), .bin .geq (.tmp 98) (.const (.int .i64 4)), none⟩ ::
[]))
(.cond (.tmp 99)
(.seq
(.plain (
⟨(some 100), .mv (.tmp 12), none⟩ ::
⟨(some 101), .bin .rem (.tmp 100) (.const (.int .u32 10000)), none⟩ ::
⟨(some 13), .mv (.tmp 101), none⟩ ::
[]))
(.seq
(.plain (
⟨(some 102), .mv (.tmp 12), none⟩ ::
⟨(some 103), .bin .quo (.tmp 102) (.const (.int .u32 10000)), none⟩ ::
⟨(some 12), .mv (.tmp 103), none⟩ ::
[]))
(.seq
(.plain (
⟨(some 104), .mv (.tmp 13), none⟩ ::
⟨(some 105), .bin .quo (.tmp 104) (.const (.int .u32 100)), none⟩ ::
⟨(some 106), .bin .mul (.tmp 105) (.const (.int .u32 2)), none⟩ ::
⟨(some 107), .mv (.tmp 13), none⟩ ::
⟨(some 108), .bin .rem (.tmp 107) (.const (.int .u32 100)), none⟩ ::
⟨(some 109), .bin .mul (.tmp 108) (.const (.int .u32 2)), none⟩ ::
⟨(some 14), .mv (.tmp 106), none⟩ ::
⟨(some 15), .mv (.tmp 109), none⟩ ::
[]))
(.seq
(.draw (
⟨(some 110), .mv (.tmp 0), none⟩ ::
⟨(some 111), .mv (.tmp 4), none⟩ ::
⟨(some 112), .bin .sub (.tmp 111) (.const (.int .i64 1)), none⟩ ::
⟨(some 113), .mv (.tmp 0), none⟩ ::
⟨(some 114), .mv (.tmp 4), none⟩ ::
⟨(some 115), .bin .sub (.tmp 114) (.const (.int .i64 2)), none⟩ ::
⟨(some 116), .mv (.tmp 15), none⟩ ::
⟨(some 117), .bin .add (.tmp 116) (.const (.int .u32 1)), none⟩ ::
⟨(some 118), .idxS (.const (.string ⟨#[48, 48, 48, 49, 48, 50, 48, 51, 48, 52, 48, 53, 48, 54, 48, 55, 48, 56, 48, 57, 49, 48, 49, 49, 49, 50, 49, 51, 49, 52, 49, 53, 49, 54, 49, 55, 49, 56, 49, 57, 50, 48, 50, 49, 50, 50, 50, 51, 50, 52, 50, 53, 50, 54, 50, 55, 50, 56, 50, 57, 51, 48, 51, 49, 51, 50, 51, 51, 51, 52, 51, 53, 51, 54, 51, 55, 51, 56, 51, 57, 52, 48, 52, 49, 52, 50, 52, 51, 52, 52, 52, 53, 52, 54, 52, 55, 52, 56, 52, 57, 53, 48, 53, 49, 53, 50, 53, 51, 53, 52, 53, 53, 53, 54, 53, 55, 53, 56, 53, 57, 54, 48, 54, 49, 54, 50, 54, 51, 54, 52, 54, 53, 54, 54, 54, 55, 54, 56, 54, 57, 55, 48, 55, 49, 55, 50, 55, 51, 55, 52, 55, 53, 55, 54, 55, 55, 55, 56, 55, 57, 56, 48, 56, 49, 56, 50, 56, 51, 56, 52, 56, 53, 56, 54, 56, 55, 56, 56, 56, 57, 57, 48, 57, 49, 57, 50, 57, 51, 57, 52, 57, 53, 57, 54, 57, 55, 57, 56, 57, 57]⟩)) (.tmp 117), none⟩ ::
⟨(some 119), .mv (.tmp 15), none⟩ ::
⟨(some 120), .idxS (.const (.string ⟨#[48, 48, 48, 49, 48, 50, 48, 51, 48, 52, 48, 53, 48, 54, 48, 55, 48, 56, 48, 57, 49, 48, 49, 49, 49, 50, 49, 51, 49, 52, 49, 53, 49, 54, 49, 55, 49, 56, 49, 57, 50, 48, 50, 49, 50, 50, 50, 51, 50, 52, 50, 53, 50, 54, 50, 55, 50, 56, 50, 57, 51, 48, 51, 49, 51, 50, 51, 51, 51, 52, 51, 53, 51, 54, 51, 55, 51, 56, 51, 57, 52, 48, 52, 49, 52, 50, 52, 51, 52, 52, 52, 53, 52, 54, 52, 55, 52, 56, 52, 57, 53, 48, 53, 49, 53, 50, 53, 51, 53, 52, 53, 53, 53, 54, 53, 55, 53, 56, 53, 57, 54, 48, 54, 49, 54, 50, 54, 51, 54, 52, 54, 53, 54, 54, 54, 55, 54, 56, 54, 57, 55, 48, 55, 49, 55, 50, 55, 51, 55, 52, 55, 53, 55, 54, 55, 55, 55, 56, 55, 57, 56, 48, 56, 49, 56, 50, 56, 51, 56, 52, 56, 53, 56, 54, 56, 55, 56, 56, 56, 57, 57, 48, 57, 49, 57, 50, 57, 51, 57, 52, 57, 53, 57, 54, 57, 55, 57, 56, 57, 57]⟩)) (.tmp 119), none⟩ ::
⟨(some 121), .iaS 1 (.tmp 110) (.tmp 112), none⟩ ::
⟨none, .store 1 (.tmp 121) (.tmp 118), none⟩ ::
⟨(some 122), .iaS 1 (.tmp 113) (.tmp 115), none⟩ ::
⟨none, .store 1 (.tmp 122) (.tmp 120), none⟩ ::
[])
(⟨0, [], []⟩ :: ⟨1, [], []⟩ :: ⟨2, [], []⟩ :: ⟨3, [], []⟩ :: ⟨4, [], []⟩ :: ⟨5, [], []⟩ :: ⟨6, [], []⟩ :: ⟨7, [], []⟩ :: ⟨8, [], []⟩ :: ⟨9, [], []⟩ :: ⟨10, [], []⟩ :: ⟨11, [], []⟩ :: ⟨12, [], []⟩ :: ⟨13, [], []⟩ :: ⟨14, [], []⟩ :: []))
(.seq
(.draw (
⟨(some 123), .mv (.tmp 0), none⟩ ::
⟨(some 124), .mv (.tmp 4), none⟩ ::
⟨(some 125), .bin .sub (.tmp 124) (.const (.int .i64 3)), none⟩ ::
⟨(some 126), .mv (.tmp 0), none⟩ ::
⟨(some 127), .mv (.tmp 4), none⟩ ::
⟨(some 128), .bin .sub (.tmp 127) (.const (.int .i64 4)), none⟩ ::
⟨(some 129), .mv (.tmp 14), none⟩ ::
⟨(some 130), .bin .add (.tmp 129) (.const (.int .u32 1)), none⟩ ::
⟨(some 131), .idxS (.const (.string ⟨#[48, 48, 48, 49, 48, 50, 48, 51, 48, 52, 48, 53, 48, 54, 48, 55, 48, 56, 48, 57, 49, 48, 49, 49, 49, 50, 49, 51, 49, 52, 49, 53, 49, 54, 49, 55, 49, 56, 49, 57, 50, 48, 50, 49, 50, 50, 50, 51, 50, 52, 50, 53, 50, 54, 50, 55, 50, 56, 50, 57, 51, 48, 51, 49, 51, 50, 51, 51, 51, 52, 51, 53, 51, 54, 51, 55, 51, 56, 51, 57, 52, 48, 52, 49, 52, 50, 52, 51, 52, 52, 52, 53, 52, 54, 52, 55, 52, 56, 52, 57, 53, 48, 53, 49, 53, 50, 53, 51, 53, 52, 53, 53, 53, 54, 53, 55, 53, 56, 53, 57, 54, 48, 54, 49, 54, 50, 54, 51, 54, 52, 54, 53, 54, 54, 54, 55, 54, 56, 54, 57, 55, 48, 55, 49, 55, 50, 55, 51, 55, 52, 55, 53, 55, 54, 55, 55, 55, 56, 55, 57, 56, 48, 56, 49, 56, 50, 56, 51, 56, 52, 56, 53, 56, 54, 56, 55, 56, 56, 56, 57, 57, 48, 57, 49, 57, 50, 57, 51, 57, 52, 57, 53, 57, 54, 57, 55, 57, 56, 57, 57]⟩)) (.tmp 130), none⟩ ::
⟨(some 132), .mv (.tmp 14), none⟩ ::
⟨(some 133), .idxS (.const (.string ⟨#[48, 48, 48, 49, 48, 50, 48, 51, 48, 52, 48, 53, 48, 54, 48, 55, 48, 56, 48, 57, 49, 48, 49, 49, 49, 50, 49, 51, 49, 52, 49, 53, 49, 54, 49, 55, 49, 56, 49, 57, 50, 48, 50, 49, 50, 50, 50, 51, 50, 52, 50, 53, 50, 54, 50, 55, 50, 56, 50, 57, 51, 48, 51, 49, 51, 50, 51, 51, 51, 52, 51, 53, 51, 54, 51, 55, 51, 56, 51, 57, 52, 48, 52, 49, 52, 50, 52, 51, 52, 52, 52, 53, 52, 54, 52, 55, 52, 56, 52, 57, 53, 48, 53, 49, 53, 50, 53, 51, 53, 52, 53, 53, 53, 54, 53, 55, 53, 56, 53, 57, 54, 48, 54, 49, 54, 50, 54, 51, 54, 52, 54, 53, 54, 54, 54, 55, 54, 56, 54, 57, 55, 48, 55, 49, 55, 50, 55, 51, 55, 52, 55, 53, 55, 54, 55, 55, 55, 56, 55, 57, 56, 48, 56, 49, 56, 50, 56, 51, 56, 52, 56, 53, 56, 54, 56, 55, 56, 56, 56, 57, 57, 48, 57, 49, 57, 50, 57, 51, 57, 52, 57, 53, 57, 54, 57, 55, 57, 56, 57, 57]⟩)) (.tmp 132), none⟩ ::
⟨(some 134), .iaS 1 (.tmp 123) (.tmp 125), none⟩ ::
⟨none, .store 1 (.tmp 134) (.tmp 131), none⟩ ::
⟨(some 135), .iaS 1 (.tmp 126) (.tmp 128), none⟩ ::
⟨none, .store 1 (.tmp 135) (.tmp 133), none⟩ ::
[])
(⟨0, [], []⟩ :: ⟨1, [], []⟩ :: ⟨2, [], []⟩ :: ⟨3, [], []⟩ :: ⟨4, [], []⟩ :: ⟨5, [], []⟩ :: ⟨6, [], []⟩ :: ⟨7, [], []⟩ :: ⟨8, [], []⟩ :: ⟨9, [], []⟩ :: ⟨10, [], []⟩ :: ⟨11, [], []⟩ :: ⟨12, [], []⟩ :: ⟨13, [], []⟩ :: ⟨14, [], []⟩ :: []))
(.plain (
⟨(some 136), .mv (.tmp 4), none⟩ ::
⟨(some 137), .bin .sub (.tmp 136) (.const (.int .i64 4)), none⟩ ::
⟨(some 4), .mv (.tmp 137), none⟩ ::
[])))))))
.skip))
(.seq
(.seq
(.plain (
⟨(some 138), .mv (.tmp 4), none⟩ ::
⟨(some 139), .bin .geq (.tmp 138) (.const (.int .i64 2)), none⟩ ::
[]))
(.cond (.tmp 139)
(.seq
(.plain (
⟨(some 140), .mv (.tmp 12), none⟩ ::
⟨(some 141), .bin .rem (.tmp 140) (.const (.int .u32 100)), none⟩ ::
⟨(some 142), .bin .mul (.tmp 141) (.const (.int .u32 2)), none⟩ ::
⟨(some 16), .mv (.tmp 142), none⟩ ::
[]))
(.seq
(.plain (
⟨(some 143), .mv (.tmp 12), none⟩ ::
⟨(some 144), .bin .quo (.tmp 143) (.const (.int .u32 100)), none⟩ ::
⟨(some 12), .mv (.tmp 144), none⟩ ::
[]))
(.seq
(.draw (
⟨(some 145), .mv (.tmp 0), none⟩ ::
⟨(some 146), .mv (.tmp 4), none⟩ ::
⟨(some 147), .bin .sub (.tmp 146) (.const (.int .i64 1)), none⟩ ::
⟨(some 148), .mv (.tmp 0), none⟩ ::
⟨(some 149), .mv (.tmp 4), none⟩ ::
⟨(some 150), .bin .sub (.tmp 149) (.const (.int .i64 2)), none⟩ ::
⟨(some 151), .mv (.tmp 16), none⟩ ::
⟨(some 152), .bin .add (.tmp 151) (.const (.int .u32 1)), none⟩ ::
⟨(some 153), .idxS (.const (.string ⟨#[48, 48, 48, 49, 48, 50, 48, 51, 48, 52, 48, 53, 48, 54, 48, 55, 48, 56, 48, 57, 49, 48, 49, 49, 49, 50, 49, 51, 49, 52, 49, 53, 49, 54, 49, 55, 49, 56, 49, 57, 50, 48, 50, 49, 50, 50, 50, 51, 50, 52, 50, 53, 50, 54, 50, 55, 50, 56, 50, 57, 51, 48, 51, 49, 51, 50, 51, 51, 51, 52, 51, 53, 51, 54, 51, 55, 51, 56, 51, 57, 52, 48, 52, 49, 52, 50, 52, 51, 52, 52, 52, 53, 52, 54, 52, 55, 52, 56, 52, 57, 53, 48, 53, 49, 53, 50, 53, 51, 53, 52, 53, 53, 53, 54, 53, 55, 53, 56, 53, 57, 54, 48, 54, 49, 54, 50, 54, 51, 54, 52, 54, 53, 54, 54, 54, 55, 54, 56, 54, 57, 55, 48, 55, 49, 55, 50, 55, 51, 55, 52, 55, 53, 55, 54, 55, 55, 55, 56, 55, 57, 56, 48, 56, 49, 56, 50, 56, 51, 56, 52, 56, 53, 56, 54, 56, 55, 56, 56, 56, 57, 57, 48, 57, 49, 57, 50, 57, 51, 57, 52, 57, 53, 57, 54, 57, 55, 57, 56, 57, 57]⟩)) (.tmp 152), none⟩ ::
⟨(some 154), .mv (.tmp 16), none⟩ ::
⟨(some 155), .idxS (.const (.string ⟨#[48, 48, 48, 49, 48, 50, 48, 51, 48, 52, 48, 53, 48, 54, 48, 55, 48, 56, 48, 57, 49, 48, 49, 49, 49, 50, 49, 51, 49, 52, 49, 53, 49, 54, 49, 55, 49, 56, 49, 57, 50, 48, 50, 49, 50, 50, 50, 51, 50, 52, 50, 53, 50, 54, 50, 55, 50, 56, 50, 57, 51, 48, 51, 49, 51, 50, 51, 51, 51, 52, 51, 53, 51, 54, 51, 55, 51, 56, 51, 57, 52, 48, 52, 49, 52, 50, 52, 51, 52, 52, 52, 53, 52, 54, 52, 55, 52, 56, 52, 57, 53, 48, 53, 49, 53, 50, 53, 51, 53, 52, 53, 53, 53, 54, 53, 55, 53, 56, 53, 57, 54, 48, 54, 49, 54, 50, 54, 51, 54, 52, 54, 53, 54, 54, 54, 55, 54, 56, 54, 57, 55, 48, 55, 49, 55, 50, 55, 51, 55, 52, 55, 53, 55, 54, 55, 55, 55, 56, 55, 57, 56, 48, 56, 49, 56, 50, 56, 51, 56, 52, 56, 53, 56, 54, 56, 55, 56, 56, 56, 57, 57, 48, 57, 49, 57, 50, 57, 51, 57, 52, 57, 53, 57, 54, 57, 55, 57, 56, 57, 57]⟩)) (.tmp 154), none⟩ ::
⟨(some 156), .iaS 1 (.tmp 145) (.tmp 147), none⟩ ::
⟨none, .store 1 (.tmp 156) (.tmp 153), none⟩ ::
⟨(some 157), .iaS 1 (.tmp 148) (.tmp 150), none⟩ ::
⟨none, .store 1 (.tmp 157) (.tmp 155), none⟩ ::
[])
(⟨0, [], []⟩ :: ⟨1, [], []⟩ :: ⟨2, [], []⟩ :: ⟨3, [], []⟩ :: ⟨4, [], []⟩ :: ⟨5, [], []⟩ :: ⟨6, [], []⟩ :: ⟨7, [], []⟩ :: ⟨8, [], []⟩ :: ⟨9, [], []⟩ :: ⟨10, [], []⟩ :: ⟨11, [], []⟩ :: ⟨12, [], []⟩ :: ⟨13, [], []⟩ :: ⟨14, [], []⟩ :: []))
(.plain (
⟨(some 158), .mv (.tmp 4), none⟩ ::
⟨(some 159), .bin .sub (.tmp 158) (.const (.int .i64 2)), none⟩ ::
⟨(some 4), .mv (.tmp 159), none⟩ ::
[])))))
.skip))
(.seq
(.plain (
⟨(some 160), .mv (.tmp 4), none⟩ ::
⟨(some 161), .bin .gtr (.tmp 160) (.const (.int .i64 0)), none⟩ ::
[]))
(.cond (.tmp 161)
(.plain (
⟨(some 162), .mv (.tmp 0), none⟩ ::
⟨(some 163), .mv (.tmp 12), none⟩ ::
⟨(some 164), .bin .add (.const (.int .u32 48)) (.tmp 163), none⟩ ::
⟨(some 165), .cvt .u8 (.tmp 164), none⟩ ::
⟨(some 166), .iaS 1 (.tmp 162) (.const (.int .i64 0)), none⟩ ::
⟨none, .store 1 (.tmp 166) (.tmp 165), none⟩ ::
[]))
.skip)))))))
theorem prep66 : prepFunc Tryd.prog 0 66 = some F66 := by kernel_rfl

-- internal/strconv.formatBits
def F67 : AFunc where
  ntmps := 102
  nparams := 5
  results := [(10, none), (11, none)]
  code :=
(.seq
(.plain (
⟨(some 10), .mv (.const (.slice none 0 0)), none⟩ ::
⟨(some 11), .mv (.const (.string ⟨#[]⟩)), none⟩ ::
[]))
(.seq
(.seq
(.plain (
⟨(some 19), .mv (.tmp 2), none⟩ ::
⟨(some 20), .bin .lss (.tmp 19) (.const (.int .i64 2)), none⟩ ::
⟨(some 21), .mv (.tmp 20), none⟩ ::
⟨(some 22), .mv (.tmp 2), (some (21, false))⟩ ::
⟨(some 23), .bin .eql (.tmp 22) (.const (.int .i64 10)), (some (21, false))⟩ ::
⟨(some 24), .pick (.tmp 21) (.const (.bool true)) (.tmp 23), none⟩ ::
⟨(some 25), .mv (.tmp 24), none⟩ ::
⟨(some 26), .mv (.tmp 2), (some (25, false))⟩ ::
⟨(some 27), .bin .gtr (.tmp 26) (.const (.int .i64 36)), (some (25, false))⟩ ::
⟨(some 28), .pick (.tmp 25) (.const (.bool true)) (.tmp 27), none⟩ ::
[]))
(.cond (.tmp 28)
(.plain (
⟨(some 29), .mki 9 (.const (.string ⟨#[115, 116, 114, 99, 111, 110, 118, 58, 32, 105, 108, 108, 101, 103, 97, 108, 32, 65, 112, 112, 101, 110, 100, 73, 110, 116, 47, 70, 111, 114, 109, 97, 116, 73, 110, 116, 32, 98, 97, 115, 101]⟩)), none⟩ ::
⟨none, .pan (.tmp 29), none⟩ ::
[]))
.skip))
(.seq
(.plain (
⟨(some 12), .alloc 109 (List.replicate 65 (.v (.int .u8 0))), none⟩ ::
[]))
(.seq
(.plain (
⟨(some 13), .mv (.const (.int .i64 65)), none⟩ ::
[]))
(.seq
(.seq
(.plain (
⟨(some 30), .mv (.tmp 3), none⟩ ::
[]))
(.cond (.tmp 30)
(.plain (
⟨(some 31), .mv (.tmp 1), none⟩ ::
⟨(some 32), .un .neg (.tmp 31), none⟩ ::
⟨(some 1), .mv (.tmp 32), none⟩ ::
[]))
.skip))
(.seq
(.seq
(.plain (
⟨(some 33), .mv (.tmp 2), none⟩ ::
⟨(some 34), .callF 79 [(.tmp 33)], none⟩ ::
[]))
(.cond (.tmp 34)
(.seq
(.plain (
⟨(some 35), .mv (.tmp 2), none⟩ ::
⟨(some 36), .cvt .u64 (.tmp 35), none⟩ ::
⟨(some 37), .callF 80 [(.tmp 36)], none⟩ ::
⟨(some 38), .cvt .u64 (.tmp 37), none⟩ ::
⟨(some 14), .mv (.tmp 38), none⟩ ::
[]))
(.seq
(.plain (
⟨(some 39), .mv (.tmp 2), none⟩ ::
⟨(some 40), .cvt .u64 (.tmp 39), none⟩ ::
⟨(some 15), .mv (.tmp 40), none⟩ ::
[]))
(.seq
(.plain (
⟨(some 41), .mv (.tmp 2), none⟩ ::
⟨(some 42), .cvt .u64 (.tmp 41), none⟩ ::
⟨(some 43), .bin .sub (.tmp 42) (.const (.int .u64 1)), none⟩ ::
⟨(some 16), .mv (.tmp 43), none⟩ ::
[]))
(.seq
(.block 0
(.loop
(.seq
(.seq
(.plain (
⟨(some 44), .mv (.tmp 1), none⟩ ::
⟨(some 45), .mv (.tmp 15), none⟩ ::
⟨(some 46), .bin .geq (.tmp 44) (.tmp 45), none⟩ ::
[]))
(.cond (.tmp 46)
.skip
(.exit 0)))
(.block 1
(.seq
(.plain (
⟨(some 47), .mv (.tmp 13), none⟩ ::
⟨(some 48), .bin .sub (.tmp 47) (.const (.int .i64 1)), none⟩ ::
⟨(some 13), .mv (.tmp 48), none⟩ ::
[]))
(.seq
(.plain (
⟨(some 49), .mv (.tmp 13), none⟩ ::
⟨(some 50), .mv (.tmp 1), none⟩ ::
⟨(some 51), .mv (.tmp 16), none⟩ ::
⟨(some 52), .bin .and (.tmp 50) (.tmp 51), none⟩ ::
⟨(some 53), .idxS (.const (.string ⟨#[48, 49, 50, 51, 52, 53, 54, 55, 56, 57, 97, 98, 99, 100, 101, 102, 103, 104, 105, 106, 107, 108, 109, 110, 111, 112, 113, 114, 115, 116, 117, 118, 119, 120, 121, 122]⟩)) (.tmp 52), none⟩ ::
⟨(some 54), .iaA 1 65 (.tmp 12) (.tmp 49), none⟩ ::
⟨none, .store 1 (.tmp 54) (.tmp 53), none⟩ ::
[]))
(.plain (
⟨(some 55), .mv (.tmp 1), none⟩ ::
⟨(some 56), .mv (.tmp 14), none⟩ ::
⟨(some 57), .bin .shr (.tmp 55) (.tmp 56), none⟩ ::
⟨(some 1), .mv (.tmp 57), none⟩ ::
[]))))))))
(.seq
(.plain (
⟨(some 58), .mv (.tmp 13), none⟩ ::
⟨(some 59), .bin .sub (.tmp 58) (.const (.int .i64 1)), none⟩ ::
⟨(some 13), .mv (.tmp 59), none⟩ ::
[]))
(.plain (
⟨(some 60), .mv (.tmp 13), none⟩ ::
⟨(some 61), .mv (.tmp 1), none⟩ ::
⟨(some 62), .idxS (.const (.string ⟨#[48, 49, 50, 51, 52, 53, 54, 55, 56, 57, 97, 98, 99, 100, 101, 102, 103, 104, 105, 106, 107, 108, 109, 110, 111, 112, 113, 114, 115, 116, 117, 118, 119, 120, 121, 122]⟩)) (.tmp 61), none⟩ ::
⟨(some 63), .iaA 1 65 (.tmp 12) (.tmp 60), none⟩ ::
⟨none, .store 1 (.tmp 63) (.tmp 62), none⟩ ::
[])))))))
(.seq
(.plain (
⟨(some 64), .mv (.tmp 2), none⟩ ::
⟨(some 65), .cvt .u64 (.tmp 64), none⟩ ::
⟨(some 17), .mv (.tmp 65), none⟩ ::
[]))
(.seq
(.block 2
(.loop
(.seq
(.seq
(.plain (
⟨(some 66), .mv (.tmp 1), none⟩ ::
⟨(some 67), .mv (.tmp 17), none⟩ ::
⟨(some 68), .bin .geq (.tmp 66) (.tmp 67), none⟩ ::
[]))
(.cond (.tmp 68)
.skip
(.exit 2)))
(.block 3
(.seq
(.plain (
⟨(some 69), .mv (.tmp 13), none⟩ ::
⟨(some 70), .bin .sub (.tmp 69) (.const (.int .i64 1)), none⟩ ::
⟨(some 13), .mv (.tmp 70), none⟩ ::
[]))
(.seq
(.plain (
⟨(some 71), .mv (.tmp 1), none⟩ ::
⟨(some 72), .mv (.tmp 17), none⟩ ::
⟨(some 73), .bin .quo (.tmp 71) (.tmp 72), none⟩ ::
⟨(some 18), .mv (.tmp 73), none⟩ ::
[]))
(.seq
(.plain (
⟨(some 74), .mv (.tmp 13), none⟩ ::
⟨(some 75), .mv (.tmp 1), none⟩ ::
⟨(some 76), .mv (.tmp 18), none⟩ ::
⟨(some 77), .mv (.tmp 17), none⟩ ::
⟨(some 78), .bin .mul (.tmp 76) (.tmp 77), none⟩ ::
⟨(some 79), .bin .sub (.tmp 75) (.tmp 78), none⟩ ::
⟨(some 80), .idxS (.const (.string ⟨#[48, 49, 50, 51, 52, 53, 54, 55, 56, 57, 97, 98, 99, 100, 101, 102, 103, 104, 105, 106, 107, 108, 109, 110, 111, 112, 113, 114, 115, 116, 117, 118, 119, 120, 121, 122]⟩)) (.tmp 79), none⟩ ::
⟨(some 81), .iaA 1 65 (.tmp 12) (.tmp 74), none⟩ ::
⟨none, .store 1 (.tmp 81) (.tmp 80), none⟩ ::
[]))
(.plain (
⟨(some 82), .mv (.tmp 18), none⟩ ::
⟨(some 1), .mv (.tmp 82), none⟩ ::
[])))))))))
(.seq
(.plain (
⟨(some 83), .mv (.tmp 13), none⟩ ::
⟨(some 84), .bin .sub (.tmp 83) (.const (.int .i64 1)), none⟩ ::
⟨(some 13), .mv (.tmp 84), none⟩ ::
[]))
(.plain (
⟨(some 85), .mv (.tmp 13), none⟩ ::
⟨(some 86), .mv (.tmp 1), none⟩ ::
⟨(some 87), .idxS (.const (.string ⟨#[48, 49, 50, 51, 52, 53, 54, 55, 56, 57, 97, 98, 99, 100, 101, 102, 103, 104, 105, 106, 107, 108, 109, 110, 111, 112, 113, 114, 115, 116, 117, 118, 119, 120, 121, 122]⟩)) (.tmp 86), none⟩ ::
⟨(some 88), .iaA 1 65 (.tmp 12) (.tmp 85), none⟩ ::
⟨none, .store 1 (.tmp 88) (.tmp 87), none⟩ ::
[])))))))
(.seq
(.seq
(.plain (
⟨(some 89), .mv (.tmp 3), none⟩ ::
[]))
(.cond (.tmp 89)
(.seq
(.plain (
⟨(some 90), .mv (.tmp 13), none⟩ ::
⟨(some 91), .bin .sub (.tmp 90) (.const (.int .i64 1)), none⟩ ::
⟨(some 13), .mv (.tmp 91), none⟩ ::
[]))
(.plain (
⟨(some 92), .mv (.tmp 13), none⟩ ::
⟨(some 93), .iaA 1 65 (.tmp 12) (.tmp 92), none⟩ ::
⟨none, .store 1 (.tmp 93) (.const (.int .u8 45)), none⟩ ::
[])))
.skip))
(.seq
(.seq
(.plain (
⟨(some 94), .mv (.tmp 4), none⟩ ::
[]))
(.cond (.tmp 94)
(.seq
(.plain (
⟨(some 95), .mv (.tmp 0), none⟩ ::
⟨(some 96), .mv (.tmp 13), none⟩ ::
⟨(some 97), .slcA 1 65 (.tmp 12) (some (.tmp 96)) none true, none⟩ ::
⟨(some 98), .app 1 1 (.tmp 95) (.tmp 97), none⟩ ::
⟨(some 10), .mv (.tmp 98), none⟩ ::
[]))
.ret)
.skip))
(.seq
(.plain (
⟨(some 99), .mv (.tmp 13), none⟩ ::
⟨(some 100), .slcA 1 65 (.tmp 12) (some (.tmp 99)) none true, none⟩ ::
⟨(some 101), .b2s (.tmp 100), none⟩ ::
⟨(some 11), .mv (.tmp 101), none⟩ ::
[]))
.ret)))))))))
theorem prep67 : prepFunc Tryd.prog 0 67 = some F67 := by kernel_rfl

-- unicode/utf8.appendRuneNonASCII
def F68 : AFunc where
  ntmps := 78
  nparams := 2
  results := [(4, none)]
  code :=
(.seq
(.plain (
⟨(some 4), .mv (.const (.slice none 0 0)), none⟩ ::
[]))
(.seq
(.plain (
⟨(some 6), .mv (.tmp 1), none⟩ ::
⟨(some 7), .cvt .u32 (.tmp 6), none⟩ ::
⟨(some 5), .mv (.tmp 7), none⟩ ::
[]))
(.block 0
(.seq
(.plain (
⟨(some 12), .mv (.tmp 5), none⟩ ::
⟨(some 13), .bin .leq (.tmp 12) (.const (.int .u32 2047)), none⟩ ::
⟨(some 11), .mv (.tmp 13), none⟩ ::
[]))
(.cond (.tmp 11)
(.seq
(.plain (
⟨(some 14), .mv (.tmp 0), none⟩ ::
⟨(some 15), .mv (.tmp 1), none⟩ ::
⟨(some 16), .bin .shr (.tmp 15) (.const (.int .u64 6)), none⟩ ::
⟨(some 17), .cvt .u8 (.tmp 16), none⟩ ::
⟨(some 18), .bin .or (.const (.int .u8 192)) (.tmp 17), none⟩ ::
⟨(some 19), .mv (.tmp 1), none⟩ ::
⟨(some 20), .cvt .u8 (.tmp 19), none⟩ ::
⟨(some 21), .bin .and (.tmp 20) (.const (.int .u8 63)), none⟩ ::
⟨(some 22), .bin .or (.const (.int .u8 128)) (.tmp 21), none⟩ ::
⟨(some 23), .bsl 1 [(.tmp 18), (.tmp 22)], none⟩ ::
⟨(some 24), .app 1 1 (.tmp 14) (.tmp 23), none⟩ ::
⟨(some 4), .mv (.tmp 24), none⟩ ::
[]))
.ret)
(.seq
(.seq
(.plain (
⟨(some 26), .mv (.tmp 5), none⟩ ::
⟨(some 27), .bin .lss (.tmp 26) (.const (.int .u32 55296)), none⟩ ::
⟨(some 25), .mv (.tmp 27), none⟩ ::
[]))
(.cond (.tmp 25)
.skip
(.plain (
⟨(some 28), .mv (.tmp 5), none⟩ ::
⟨(some 29), .bin .lss (.const (.int .u32 57343)) (.tmp 28), none⟩ ::
⟨(some 30), .mv (.tmp 29), none⟩ ::
⟨(some 31), .mv (.tmp 5), (some (30, true))⟩ ::
⟨(some 32), .bin .leq (.tmp 31) (.const (.int .u32 65535)), (some (30, true))⟩ ::
⟨(some 33), .pick (.tmp 30) (.tmp 32) (.const (.bool false)), none⟩ ::
⟨(some 25), .mv (.tmp 33), none⟩ ::
[]))))
(.cond (.tmp 25)
(.seq
(.plain (
⟨(some 34), .mv (.tmp 0), none⟩ ::
⟨(some 35), .mv (.tmp 1), none⟩ ::
⟨(some 36), .bin .shr (.tmp 35) (.const (.int .u64 12)), none⟩ ::
⟨(some 37), .cvt .u8 (.tmp 36), none⟩ ::
⟨(some 38), .bin .or (.const (.int .u8 224)) (.tmp 37), none⟩ ::
⟨(some 39), .mv (.tmp 1), none⟩ ::
⟨(some 40), .bin .shr (.tmp 39) (.const (.int .u64 6)), none⟩ ::
⟨(some 41), .cvt .u8 (.tmp 40), none⟩ ::
⟨(some 42), .bin .and (.tmp 41) (.const (.int .u8 63)), none⟩ ::
⟨(some 43), .bin .or (.const (.int .u8 128)) (.tmp 42), none⟩ ::
⟨(some 44), .mv (.tmp 1), none⟩ ::
⟨(some 45), .cvt .u8 (.tmp 44), none⟩ ::
⟨(some 46), .bin .and (.tmp 45) (.const (.int .u8 63)), none⟩ ::
⟨(some 47), .bin .or (.const (.int .u8 128)) (.tmp 46), none⟩ ::
⟨(some 48), .bsl 1 [(.tmp 38), (.tmp 43), (.tmp 47)], none⟩ ::
⟨(some 49), .app 1 1 (.tmp 34) (.tmp 48), none⟩ ::
⟨(some 4), .mv (.tmp 49), none⟩ ::
[]))
.ret)
(.seq
(.plain (
⟨(some 51), .mv (.tmp 5), none⟩ ::
⟨(some 52), .bin .gtr (.tmp 51) (.const (.int .u32 65535)), none⟩ ::
⟨(some 53), .mv (.tmp 52), none⟩ ::
⟨(some 54), .mv (.tmp 5), (some (53, true))⟩ ::
⟨(some 55), .bin .leq (.tmp 54) (.const (.int .u32 1114111)), (some (53, true))⟩ ::
⟨(some 56), .pick (.tmp 53) (.tmp 55) (.const (.bool false)), none⟩ ::
⟨(some 50), .mv (.tmp 56), none⟩ ::
[]))
(.cond (.tmp 50)
(.seq
(.plain (
⟨(some 57), .mv (.tmp 0), none⟩ ::
⟨(some 58), .mv (.tmp 1), none⟩ ::
⟨(some 59), .bin .shr (.tmp 58) (.const (.int .u64 18)), none⟩ ::
⟨(some 60), .cvt .u8 (.tmp 59), none⟩ ::
⟨(some 61), .bin .or (.const (.int .u8 240)) (.tmp 60), none⟩ ::
⟨(some 62), .mv (.tmp 1), none⟩ ::
⟨(some 63), .bin .shr (.tmp 62) (.const (.int .u64 12)), none⟩ ::
⟨(some 64), .cvt .u8 (.tmp 63), none⟩ ::
⟨(some 65), .bin .and (.tmp 64) (.const (.int .u8 63)), none⟩ ::
⟨(some 66), .bin .or (.const (.int .u8 128)) (.tmp 65), none⟩ ::
⟨(some 67), .mv (.tmp 1), none⟩ ::
⟨(some 68), .bin .shr (.tmp 67) (.const (.int .u64 6)), none⟩ ::
⟨(some 69), .cvt .u8 (.tmp 68), none⟩ ::
⟨(some 70), .bin .and (.tmp 69) (.const (.int .u8 63)), none⟩ ::
⟨(some 71), .bin .or (.const (.int .u8 128)) (.tmp 70), none⟩ ::
⟨(some 72), .mv (.tmp 1), none⟩ ::
⟨(some 73), .cvt .u8 (.tmp 72), none⟩ ::
⟨(some 74), .bin .and (.tmp 73) (.const (.int .u8 63)), none⟩ ::
⟨(some 75), .bin .or (.const (.int .u8 128)) (.tmp 74), none⟩ ::
⟨(some 76), .bsl 1 [(.tmp 61), (.tmp 66), (.tmp 71), (.tmp 75)], none⟩ ::
⟨(some 77), .app 1 1 (.tmp 57) (.tmp 76), none⟩ ::
⟨(some 4), .mv (.tmp 77), none⟩ ::
[]))
.ret)
(.seq
(.plain (
⟨(some 8), .mv (.tmp 0), none⟩ ::
⟨(some 9), .bsl 1 [(.const (.int .u8 239)), (.const (.int .u8 191)), (.const (.int .u8 189))], none⟩ ::
⟨(some 10), .app 1 1 (.tmp 8) (.tmp 9), none⟩ ::
⟨(some 4), .mv (.tmp 10), none⟩ ::
[]))
.ret))))))))))
theorem prep68 : prepFunc Tryd.prog 0 68 = some F68 := by kernel_rfl

-- unicode.lookupCaseRange
def F69 : AFunc where
  ntmps := 50
  nparams := 2
  results := [(4, none)]
  code :=
(.seq
(.plain (
⟨(some 4), .mv (.const (.pointer none)), none⟩ ::
[]))
(.seq
(.plain (
⟨(some 5), .mv (.const (.int .i64 0)), none⟩ ::
[]))
(.seq
(.plain (
⟨(some 9), .mv (.tmp 1), none⟩ ::
⟨(some 10), .len (.tmp 9), none⟩ ::
⟨(some 6), .mv (.tmp 10), none⟩ ::
[]))
(.seq
(.block 0
(.loop
(.seq
(.seq
(.plain (
⟨(some 11), .mv (.tmp 5), none⟩ ::
⟨(some 12), .mv (.tmp 6), none⟩ ::
⟨(some 13), .bin .lss (.tmp 11) (.tmp 12), none⟩ ::
[]))
(.cond (.tmp 13)
.skip
(.exit 0)))
(.block 1
(.seq
(.plain (
⟨(some 14), .mv (.tmp 5), none⟩ ::
⟨(some 15), .mv (.tmp 6), none⟩ ::
⟨(some 16), .bin .add (.tmp 14) (.tmp 15), none⟩ ::
⟨(some 17), .cvt .u64 (.tmp 16), none⟩ ::
⟨(some 18), .bin .shr (.tmp 17) (.const (.int .u64 1)), none⟩ ::
⟨(some 19), .cvt .i64 (.tmp 18), none⟩ ::
⟨(some 7), .mv (.tmp 19), none⟩ ::
[]))
(.seq
(.plain (
⟨(some 20), .mv (.tmp 1), none⟩ ::
⟨(some 21), .mv (.tmp 7), none⟩ ::
⟨(some 22), .iaS 5 (.tmp 20) (.tmp 21), none⟩ ::
⟨(some 8), .mv (.tmp 22), none⟩ ::
[]))
(.seq
(.seq
(.plain (
⟨(some 23), .mv (.tmp 8), none⟩ ::
⟨(some 24), .nilc (.tmp 23), none⟩ ::
⟨(some 25), .fa 0 (.tmp 24), none⟩ ::
⟨(some 26), .load false 1 (.tmp 25), none⟩ ::
⟨(some 27), .cvt .i32 (.tmp 26), none⟩ ::
⟨(some 28), .mv (.tmp 0), none⟩ ::
⟨(some 29), .bin .leq (.tmp 27) (.tmp 28), none⟩ ::
⟨(some 30), .mv (.tmp 29), none⟩ ::
⟨(some 31), .mv (.tmp 0), (some (30, true))⟩ ::
⟨(some 32), .mv (.tmp 8), (some (30, true))⟩ ::
⟨(some 33), .nilc (.tmp 32), (some (30, true))⟩ ::
⟨(some 34), .fa 1 (.tmp 33), (some (30, true))⟩ ::
⟨(some 35), .load false 1 (.tmp 34), (some (30, true))⟩ ::
⟨(some 36), .cvt .i32 (.tmp 35), (some (30, true))⟩ ::
⟨(some 37), .bin .leq (.tmp 31) (.tmp 36), (some (30, true))⟩ ::
⟨(some 38), .pick (.tmp 30) (.tmp 37) (.const (.bool false)), none⟩ ::
[]))
(.cond (.tmp 38)
(.seq
(.plain (
⟨(some 39), .mv (.tmp 8), none⟩ ::
⟨(some 4), .mv (.tmp 39), none⟩ ::
[]))
.ret)
.skip))
(.seq
(.plain (
⟨(some 40), .mv (.tmp 0), none⟩ ::
⟨(some 41), .mv (.tmp 8), none⟩ ::
⟨(some 42), .nilc (.tmp 41), none⟩ ::
⟨(some 43), .fa 0 (.tmp 42), none⟩ ::
⟨(some 44), .load false 1 (.tmp 43), none⟩ ::
⟨(some 45), .cvt .i32 (.tmp 44), none⟩ ::
⟨(some 46), .bin .lss (.tmp 40) (.tmp 45), none⟩ ::
[]))
(.cond (.tmp 46)
(.plain (
⟨(some 47), .mv (.tmp 7), none⟩ ::
⟨(some 6), .mv (.tmp 47), none⟩ ::
[]))
(.plain (
⟨(some 48), .mv (.tmp 7), none⟩ ::
⟨(some 49), .bin .add (.tmp 48) (.const (.int .i64 1)), none⟩ ::
⟨(some 5), .mv (.tmp 49), none⟩ ::
[])))))))))))
(.seq
(.plain (
⟨(some 4), .mv (.const (.pointer none)), none⟩ ::
[]))
.ret)))))
theorem prep69 : prepFunc Tryd.prog 0 69 = some F69 := by kernel_rfl

-- unicode.convertCase
def F70 : AFunc where
  ntmps := 37
  nparams := 3
  results := [(6, none)]
  code :=
(.seq
(.plain (
⟨(some 6), .mv (.const (.int .i32 0)), none⟩ ::
[]))
(.seq
(.plain (
⟨(some 8), .mv (.tmp 2), none⟩ ::
⟨(some 9), .mv (.tmp 0), none⟩ ::
⟨(some 10), .nilc (.tmp 8), none⟩ ::
⟨(some 11), .fa 2 (.tmp 10), none⟩ ::
⟨(some 12), .iaA 1 3 (.tmp 11) (.tmp 9), none⟩ ::
⟨(some 13), .load false 1 (.tmp 12), none⟩ ::
⟨(some 7), .mv (.tmp 13), none⟩ ::
[]))
(.seq
(.seq
(.plain (
⟨(some 14), .mv (.tmp 7), none⟩ ::
⟨(some 15), .bin .gtr (.tmp 14) (.const (.int .i32 1114111)), none⟩ ::
[]))
(.cond (.tmp 15)
(.seq
(.draw (
⟨(some 16), .mv (.tmp 2), none⟩ ::
⟨(some 17), .nilc (.tmp 16), none⟩ ::
⟨(some 18), .fa 0 (.tmp 17), none⟩ ::
⟨(some 19), .load false 1 (.tmp 18), none⟩ ::
⟨(some 20), .cvt .i32 (.tmp 19), none⟩ ::
⟨(some 21), .mv (.tmp 1), none⟩ ::
⟨(some 22), .mv (.tmp 2), none⟩ ::
⟨(some 23), .nilc (.tmp 22), none⟩ ::
⟨(some 24), .fa 0 (.tmp 23), none⟩ ::
⟨(some 25), .load false 1 (.tmp 24), none⟩ ::
⟨(some 26), .cvt .i32 (.tmp 25), none⟩ ::
⟨(some 27), .bin .sub (.tmp 21) (.tmp 26), none⟩ ::
⟨(some 28), .bin .andNot (.tmp 27) (.const (.int .i32 1)), none⟩ ::
⟨(some 29), .mv (.tmp 0), none⟩ ::
⟨(some 30), .bin .and (.tmp 29) (.const (.int .i64 1)), none⟩ ::
⟨(some 31), .cvt .i32 (.tmp 30), none⟩ ::
⟨(some 32), .bin .or (.tmp 28) (.tmp 31), none⟩ ::
⟨(some 33), .bin .add (.tmp 20) (.tmp 32), none⟩ ::
⟨(some 6), .mv (.tmp 33), none⟩ ::
[])
(⟨0, [], []⟩ :: ⟨1, [], []⟩ :: ⟨2, [], []⟩ :: ⟨3, [], []⟩ :: ⟨4, [], []⟩ :: ⟨5, [], []⟩ :: ⟨6, [], []⟩ :: ⟨7, [], []⟩ :: ⟨8, [], []⟩ :: ⟨9, [], []⟩ :: ⟨10, [], []⟩ :: ⟨11, [], []⟩ :: ⟨12, [], []⟩ :: ⟨13, [], []⟩ :: ⟨14, [], []⟩ :: ⟨15, [], []⟩ :: ⟨16, [], []⟩ :: ⟨17, [], []⟩ :: ⟨18, [], []⟩ :: []))
.ret)
.skip))
(.seq
(.plain (
⟨(some 34), .mv (.tmp 1), none⟩ ::
⟨(some 35), .mv (.tmp 7), none⟩ ::
⟨(some 36), .bin .add (.tmp 34) (.tmp 35), none⟩ ::
⟨(some 6), .mv (.tmp 36), none⟩ ::
[]))
.ret))))
theorem prep70 : prepFunc Tryd.prog 0 70 = some F70 := by kernel_rfl

-- internal/strconv.lower
def F71 : AFunc where
  ntmps := 5
  nparams := 1
  results := [(2, none)]
  code :=
(.seq
(.plain (
⟨(some 2), .mv (.const (.int .u8 0)), none⟩ ::
[]))
(.seq
(.plain (
⟨(some 3), .mv (.tmp 0), none⟩ ::
⟨(some 4), .bin .or (.tmp 3) (.const (.int .u8 32)), none⟩ ::
⟨(some 2), .mv (.tmp 4), none⟩ ::
[]))
.ret))
theorem prep71 : prepFunc Tryd.prog 0 71 = some F71 := by kernel_rfl

-- internal/strconv.underscoreOK
def F72 : AFunc where
  ntmps := 94
  nparams := 1
  results := [(2, none)]
  code :=
(.seq
(.plain (
⟨(some 2), .mv (.const (.bool false)), none⟩ ::
[]))
(.seq
(.plain (
⟨(some 3), .mv (.const (.int .i32 94)), none⟩ ::
[]))
(.seq
(.plain (
⟨(some 4), .mv (.const (.int .i64 0)), none⟩ ::
[]))
(.seq
(.seq
(.plain (
⟨(some 6), .mv (.tmp 0), none⟩ ::
⟨(some 7), .lenT (.tmp 6), none⟩ ::
⟨(some 8), .bin .geq (.tmp 7) (.const (.int .i64 1)), none⟩ ::
⟨(some 9), .mv (.tmp 8), none⟩ ::
⟨(some 10), .mv (.tmp 0), (some (9, true))⟩ ::
⟨(some 11), .idxS (.tmp 10) (.const (.int .i64 0)), (some (9, true))⟩ ::
⟨(some 12), .bin .eql (.tmp 11) (.const (.int .u8 45)), (some (9, true))⟩ ::
⟨(some 13), .mv (.tmp 12), (some (9, true))⟩ ::
⟨(some 14), .mv (.tmp 0), (some (13, false))⟩ ::
⟨(some 15), .idxS (.tmp 14) (.const (.int .i64 0)), (some (13, false))⟩ ::
⟨(some 16), .bin .eql (.tmp 15) (.const (.int .u8 43)), (some (13, false))⟩ ::
⟨(some 17), .pick (.tmp 13) (.const (.bool true)) (.tmp 16), (some (9, true))⟩ ::
⟨(some 18), .pick (.tmp 9) (.tmp 17) (.const (.bool false)), none⟩ ::
[]))
(.cond (.tmp 18)
(.plain (
⟨(some 19), .mv (.tmp 0), none⟩ ::
⟨(some 20), .slcS (.tmp 19) (some (.const (.int .i64 1))) none, none⟩ ::
⟨(some 0), .mv (.tmp 20), none⟩ ::
[]))
.skip))
(.seq
(.plain (
⟨(some 5), .mv (.const (.bool false)), none⟩ ::
[]))
(.seq
(.seq
(.plain (
⟨(some 21), .mv (.tmp 0), none⟩ ::
⟨(some 22), .lenT (.tmp 21), none⟩ ::
⟨(some 23), .bin .geq (.tmp 22) (.const (.int .i64 2)), none⟩ ::
⟨(some 24), .mv (.tmp 23), none⟩ ::
⟨(some 25), .mv (.tmp 0), (some (24, true))⟩ ::
⟨(some 26), .idxS (.tmp 25) (.const (.int .i64 0)), (some (24, true))⟩ ::
⟨(some 27), .bin .eql (.tmp 26) (.const (.int .u8 48)), (some (24, true))⟩ ::
⟨(some 28), .pick (.tmp 24) (.tmp 27) (.const (.bool false)), none⟩ ::
⟨(some 29), .mv (.tmp 28), none⟩ ::
⟨(some 30), .mv (.tmp 0), (some (29, true))⟩ ::
⟨(some 31), .idxS (.tmp 30) (.const (.int .i64 1)), (some (29, true))⟩ ::
⟨(some 32), .callF 71 [(.tmp 31)], (some (29, true))⟩ ::
⟨(some 33), .bin .eql (.tmp 32) (.const (.int .u8 98)), (some (29, true))⟩ ::
⟨(some 34), .mv (.tmp 33), (some (29, true))⟩ ::
⟨(some 35), .mv (.tmp 0), (some (34, false))⟩ ::
⟨(some 36), .idxS (.tmp 35) (.const (.int .i64 1)), (some (34, false))⟩ ::
⟨(some 37), .callF 71 [(.tmp 36)], (some (34, false))⟩ ::
⟨(some 38), .bin .eql (.tmp 37) (.const (.int .u8 111)), (some (34, false))⟩ ::
⟨(some 39), .pick (.tmp 34) (.const (.bool true)) (.tmp 38), (some (29, true))⟩ ::
⟨(some 40), .mv (.tmp 39), (some (29, true))⟩ ::
⟨(some 41), .mv (.tmp 0), (some (40, false))⟩ ::
⟨(some 42), .idxS (.tmp 41) (.const (.int .i64 1)), (some (40, false))⟩ ::
⟨(some 43), .callF 71 [(.tmp 42)], (some (40, false))⟩ ::
⟨(some 44), .bin .eql (.tmp 43) (.const (.int .u8 120)), (some (40, false))⟩ ::
⟨(some 45), .pick (.tmp 40) (.const (.bool true)) (.tmp 44), (some (29, true))⟩ ::
⟨(some 46), .pick (.tmp 29) (.tmp 45) (.const (.bool false)), none⟩ ::
[]))
(.cond (.tmp 46)
(.seq
(.plain (
⟨(some 4), .mv (.const (.int .i64 2)), none⟩ ::
[]))
(.seq
(.plain (
⟨(some 3), .mv (.const (.int .i32 48)), none⟩ ::
[]))
(.plain (
⟨(some 47), .mv (.tmp 0), none⟩ ::
⟨(some 48), .idxS (.tmp 47) (.const (.int .i64 1)), none⟩ ::
⟨(some 49), .callF 71 [(.tmp 48)], none⟩ ::
⟨(some 50), .bin .eql (.tmp 49) (.const (.int .u8 120)), none⟩ ::
⟨(some 5), .mv (.tmp 50), none⟩ ::
[]))))
.skip))
(.seq
(.block 0
(.loop
(.seq
(.seq
(.plain (
⟨(some 51), .mv (.tmp 4), none⟩ ::
⟨(some 52), .mv (.tmp 0), none⟩ ::
⟨(some 53), .lenT (.tmp 52), none⟩ ::
⟨(some 54), .bin .lss (.tmp 51) (.tmp 53), none⟩ ::
[]))
(.cond (.tmp 54)
.skip
(.exit 0)))
(.seq
(.block 1
(.seq
(.seq
(.plain (
⟨(some 57), .mv (.tmp 0), none⟩ ::
⟨(some 58), .mv (.tmp 4), none⟩ ::
⟨(some 59), .idxS (.tmp 57) (.tmp 58), none⟩ ::
⟨(some 60), .bin .leq (.const (.int .u8 48)) (.tmp 59), none⟩ ::
⟨(some 61), .mv (.tmp 60), none⟩ ::
⟨(some 62), .mv (.tmp 0), (some (61, true))⟩ ::
⟨(some 63), .mv (.tmp 4), (some (61, true))⟩ ::
⟨(some 64), .idxS (.tmp 62) (.tmp 63), (some (61, true))⟩ ::
⟨(some 65), .bin .leq (.tmp 64) (.const (.int .u8 57)), (some (61, true))⟩ ::
⟨(some 66), .pick (.tmp 61) (.tmp 65) (.const (.bool false)), none⟩ ::
⟨(some 67), .mv (.tmp 66), none⟩ ::
⟨(some 68), .mv (.tmp 5), (some (67, false))⟩ ::
⟨(some 69), .mv (.tmp 68), (some (67, false))⟩ ::
⟨(some 70), .mv (.tmp 0), (some (69, true))⟩ ::
⟨(some 71), .mv (.tmp 4), (some (69, true))⟩ ::
⟨(some 72), .idxS (.tmp 70) (.tmp 71), (some (69, true))⟩ ::
⟨(some 73), .callF 71 [(.tmp 72)], (some (69, true))⟩ ::
⟨(some 74), .bin .leq (.const (.int .u8 97)) (.tmp 73), (some (69, true))⟩ ::
⟨(some 75), .pick (.tmp 69) (.tmp 74) (.const (.bool false)), (some (67, false))⟩ ::
⟨(some 76), .mv (.tmp 75), (some (67, false))⟩ ::
⟨(some 77), .mv (.tmp 0), (some (76, true))⟩ ::
⟨(some 78), .mv (.tmp 4), (some (76, true))⟩ ::
⟨(some 79), .idxS (.tmp 77) (.tmp 78), (some (76, true))⟩ ::
⟨(some 80), .callF 71 [(.tmp 79)], (some (76, true))⟩ ::
⟨(some 81), .bin .leq (.tmp 80) (.const (.int .u8 102)), (some (76, true))⟩ ::
⟨(some 82), .pick (.tmp 76) (.tmp 81) (.const (.bool false)), (some (67, false))⟩ ::
⟨(some 83), .pick (.tmp 67) (.const (.bool true)) (.tmp 82), none⟩ ::
[]))
(.cond (.tmp 83)
(.seq
(.plain (
⟨(some 3), .mv (.const (.int .i32 48)), none⟩ ::
[]))
(.exit 1))
.skip))
(.seq
(.seq
(.plain (
⟨(some 84), .mv (.tmp 0), none⟩ ::
⟨(some 85), .mv (.tmp 4), none⟩ ::
⟨(some 86), .idxS (.tmp 84) (.tmp 85), none⟩ ::
⟨(some 87), .bin .eql (.tmp 86) (.const (.int .u8 95)), none⟩ ::
[]))
(.cond (.tmp 87)
(.seq
(.seq
(.plain (
⟨(some 88), .mv (.tmp 3), none⟩ ::
⟨(some 89), .bin .neq (.tmp 88) (.const (.int .i32 48)), none⟩ ::
[]))
(.cond (.tmp 89)
(.seq
(.plain (
⟨(some 2), .mv (.const (.bool false)), none⟩ ::
[]))
.ret)
.skip))
(.seq
(.plain (
⟨(some 3), .mv (.const (.int .i32 95)), none⟩ ::
[]))
(.exit 1)))
.skip))
(.seq
(.seq
(.plain (
⟨(some 90), .mv (.tmp 3), none⟩ ::
⟨(some 91), .bin .eql (.tmp 90) (.const (.int .i32 95)), none⟩ ::
[]))
(.cond (.tmp 91)
(.seq
(.plain (
⟨(some 2), .mv (.const (.bool false)), none⟩ ::
[]))
.ret)
.skip))
(.plain (
⟨(some 3), .mv (.const (.int .i32 33)), none⟩ ::
[]))))))
(.plain (
⟨(some 55), .mv (.tmp 4), none⟩ ::
⟨(some 56), .bin .add (.tmp 55) (.const (.int .i64 1)), none⟩ ::
⟨(some 4), .mv (.tmp 56), none⟩ ::
[]))))))
(.seq
(.plain (
⟨(some 92), .mv (.tmp 3), none⟩ ::
⟨(some 93), .bin .neq (.tmp 92) (.const (.int .i32 95)), none⟩ ::
⟨(some 2), .mv (.tmp 93), none⟩ ::
[]))
.ret))))))))
theorem prep72 : prepFunc Tryd.prog 0 72 = some F72 := by kernel_rfl

-- internal/stringslite.Clone
def F73 : AFunc where
  ntmps := 18
  nparams := 1
  results := [(2, none)]
  code :=
(.seq
(.plain (
⟨(some 2), .mv (.const (.string ⟨#[]⟩)), none⟩ ::
[]))
(.seq
(.seq
(.plain (
⟨(some 4), .mv (.tmp 0), none⟩ ::
⟨(some 5), .lenT (.tmp 4), none⟩ ::
⟨(some 6), .bin .eql (.tmp 5) (.const (.int .i64 0)), none⟩ ::
[]))
(.cond (.tmp 6)
(.seq
(.plain (
⟨(some 2), .mv (.const (.string ⟨#[]⟩)), none⟩ ::
[]))
.ret)
.skip))
(.seq
(.plain (
⟨(some 7), .mv (.tmp 0), none⟩ ::
⟨(some 8), .lenT (.tmp 7), none⟩ ::
⟨(some 9), .mks 1 1 [(.v (.int .u8 0))] (.tmp 8) (.tmp 8), none⟩ ::
⟨(some 3), .mv (.tmp 9), none⟩ ::
[]))
(.seq
(.plain (
⟨(some 10), .mv (.tmp 3), none⟩ ::
⟨(some 11), .mv (.tmp 0), none⟩ ::
⟨(some 12), .cpy 1 (.tmp 10) (.tmp 11), none⟩ ::
[]))
(.seq
(.plain (
⟨(some 13), .mv (.tmp 3), none⟩ ::
⟨(some 14), .iaS 1 (.tmp 13) (.const (.int .i64 0)), none⟩ ::
⟨(some 15), .mv (.tmp 3), none⟩ ::
⟨(some 16), .len (.tmp 15), none⟩ ::
⟨(some 17), .ustr 5 (.tmp 14) (.tmp 16), none⟩ ::
⟨(some 2), .mv (.tmp 17), none⟩ ::
[]))
.ret)))))
theorem prep73 : prepFunc Tryd.prog 0 73 = some F73 := by kernel_rfl

-- errors.New
def F74 : AFunc where
  ntmps := 7
  nparams := 1
  results := [(2, none)]
  code :=
(.seq
(.plain (
⟨(some 2), .mv (.const .nilIface), none⟩ ::
[]))
(.seq
(.plain (
⟨(some 3), .mv (.tmp 0), none⟩ ::
⟨(some 4), .bld [(.v (.string ⟨#[]⟩))] [(0, 1, (.tmp 3))], none⟩ ::
⟨(some 5), .box 118 (.tmp 4), none⟩ ::
⟨(some 6), .mki 116 (.tmp 5), none⟩ ::
⟨(some 2), .mv (.tmp 6), none⟩ ::
[]))
.ret))
theorem prep74 : prepFunc Tryd.prog 0 74 = some F74 := by kernel_rfl

-- strconv.Itoa
def F75 : AFunc where
  ntmps := 5
  nparams := 1
  results := [(2, none)]
  code :=
(.seq
(.plain (
⟨(some 2), .mv (.const (.string ⟨#[]⟩)), none⟩ ::
[]))
(.seq
(.plain (
⟨(some 3), .mv (.tmp 0), none⟩ ::
⟨(some 4), .callF 81 [(.tmp 3)], none⟩ ::
⟨(some 2), .mv (.tmp 4), none⟩ ::
[]))
.ret))
theorem prep75 : prepFunc Tryd.prog 0 75 = some F75 := by kernel_rfl

-- internal/strconv.log10Pow2
def F76 : AFunc where
  ntmps := 6
  nparams := 1
  results := [(2, none)]
  code :=
(.seq
(.plain (
⟨(some 2), .mv (.const (.int .i64 0)), none⟩ ::
[]))
(.seq
(.plain (
⟨(some 3), .mv (.tmp 0), none⟩ ::
⟨(some 4), .bin .mul (.tmp 3) (.const (.int .i64 78913)), none⟩ ::
⟨(some 5), .bin .shr (.tmp 4) (.const (.int .u64 18)), none⟩ ::
⟨(some 2), .mv (.tmp 5), none⟩ ::
[]))
.ret))
theorem prep76 : prepFunc Tryd.prog 0 76 = some F76 := by kernel_rfl

-- math/bits.Len64
def F77 : AFunc where
  ntmps := 25
  nparams := 1
  results := [(2, none)]
  code :=
(.seq
(.plain (
⟨(some 2), .mv (.const (.int .i64 0)), none⟩ ::
[]))
(.seq
(.seq
(.plain (
⟨(some 3), .mv (.tmp 0), none⟩ ::
⟨(some 4), .bin .geq (.tmp 3) (.const (.int .u64 4294967296)), none⟩ ::
[]))
(.cond (.tmp 4)
(.seq
(.plain (
⟨(some 5), .mv (.tmp 0), none⟩ ::
⟨(some 6), .bin .shr (.tmp 5) (.const (.int .u64 32)), none⟩ ::
⟨(some 0), .mv (.tmp 6), none⟩ ::
[]))
(.plain (
⟨(some 2), .mv (.const (.int .i64 32)), none⟩ ::
[])))
.skip))
(.seq
(.seq
(.plain (
⟨(some 7), .mv (.tmp 0), none⟩ ::
⟨(some 8), .bin .geq (.tmp 7) (.const (.int .u64 65536)), none⟩ ::
[]))
(.cond (.tmp 8)
(.seq
(.plain (
⟨(some 9), .mv (.tmp 0), none⟩ ::
⟨(some 10), .bin .shr (.tmp 9) (.const (.int .u64 16)), none⟩ ::
⟨(some 0), .mv (.tmp 10), none⟩ ::
[]))
(.plain (
⟨(some 11), .mv (.tmp 2), none⟩ ::
⟨(some 12), .bin .add (.tmp 11) (.const (.int .i64 16)), none⟩ ::
⟨(some 2), .mv (.tmp 12), none⟩ ::
[])))
.skip))
(.seq
(.seq
(.plain (
⟨(some 13), .mv (.tmp 0), none⟩ ::
⟨(some 14), .bin .geq (.tmp 13) (.const (.int .u64 256)), none⟩ ::
[]))
(.cond (.tmp 14)
(.seq
(.plain (
⟨(some 15), .mv (.tmp 0), none⟩ ::
⟨(some 16), .bin .shr (.tmp 15) (.const (.int .u64 8)), none⟩ ::
⟨(some 0), .mv (.tmp 16), none⟩ ::
[]))
(.plain (
⟨(some 17), .mv (.tmp 2), none⟩ ::
⟨(some 18), .bin .add (.tmp 17) (.const (.int .i64 8)), none⟩ ::
⟨(some 2), .mv (.tmp 18), none⟩ ::
[])))
.skip))
(.seq
(.plain (
⟨(some 19), .mv (.tmp 2), none⟩ ::
⟨(some 20), .mv (.tmp 0), none⟩ ::
⟨(some 21), .cvt .u8 (.tmp 20), none⟩ ::
⟨(some 22), .idxS (.const (.string ⟨#[0, 1, 2, 2, 3, 3, 3, 3, 4, 4, 4, 4, 4, 4, 4, 4, 5, 5, 5, 5, 5, 5, 5, 5, 5, 5, 5, 5, 5, 5, 5, 5, 6, 6, 6, 6, 6, 6, 6, 6, 6, 6, 6, 6, 6, 6, 6, 6, 6, 6, 6, 6, 6, 6, 6, 6, 6, 6, 6, 6, 6, 6, 6, 6, 7, 7, 7, 7, 7, 7, 7, 7, 7, 7, 7, 7, 7, 7, 7, 7, 7, 7, 7, 7, 7, 7, 7, 7, 7, 7, 7, 7, 7, 7, 7, 7, 7, 7, 7, 7, 7, 7, 7, 7, 7, 7, 7, 7, 7, 7, 7, 7, 7, 7, 7, 7, 7, 7, 7, 7, 7, 7, 7, 7, 7, 7, 7, 7, 8, 8, 8, 8, 8, 8, 8, 8, 8, 8, 8, 8, 8, 8, 8, 8, 8, 8, 8, 8, 8, 8, 8, 8, 8, 8, 8, 8, 8, 8, 8, 8, 8, 8, 8, 8, 8, 8, 8, 8, 8, 8, 8, 8, 8, 8, 8, 8, 8, 8, 8, 8, 8, 8, 8, 8, 8, 8, 8, 8, 8, 8, 8, 8, 8, 8, 8, 8, 8, 8, 8, 8, 8, 8, 8, 8, 8, 8, 8, 8, 8, 8, 8, 8, 8, 8, 8, 8, 8, 8, 8, 8, 8, 8, 8, 8, 8, 8, 8, 8, 8, 8, 8, 8, 8, 8, 8, 8, 8, 8, 8, 8, 8, 8, 8, 8, 8, 8, 8, 8, 8, 8, 8, 8, 8, 8, 8, 8]⟩)) (.tmp 21), none⟩ ::
⟨(some 23), .cvt .i64 (.tmp 22), none⟩ ::
⟨(some 24), .bin .add (.tmp 19) (.tmp 23), none⟩ ::
⟨(some 2), .mv (.tmp 24), none⟩ ::
[]))
.ret)))))
theorem prep77 : prepFunc Tryd.prog 0 77 = some F77 := by kernel_rfl

-- internal/strconv.bool2[int]
def F78 : AFunc where
  ntmps := 4
  nparams := 1
  results := [(2, none)]
  code :=
(.seq
(.plain (
⟨(some 2), .mv (.const (.int .i64 0)), none⟩ ::
[]))
(.seq
(.seq
(.plain (
⟨(some 3), .mv (.tmp 0), none⟩ ::
[]))
(.cond (.tmp 3)
(.seq
(.plain (
⟨(some 2), .mv (.const (.int .i64 1)), none⟩ ::
[]))
.ret)
.skip))
(.seq
(.plain (
⟨(some 2), .mv (.const (.int .i64 0)), none⟩ ::
[]))
.ret)))
theorem prep78 : prepFunc Tryd.prog 0 78 = some F78 := by kernel_rfl

-- internal/strconv.isPowerOfTwo
def F79 : AFunc where
  ntmps := 8
  nparams := 1
  results := [(2, none)]
  code :=
(.seq
(.plain (
⟨(some 2), .mv (.const (.bool false)), none⟩ ::
[]))
(.seq
(.plain (
⟨(some 3), .mv (.tmp 0), none⟩ ::
⟨(some 4), .mv (.tmp 0), none⟩ ::
⟨(some 5), .bin .sub (.tmp 4) (.const (.int .i64 1)), none⟩ ::
⟨(some 6), .bin .and (.tmp 3) (.tmp 5), none⟩ ::
⟨(some 7), .bin .eql (.tmp 6) (.const (.int .i64 0)), none⟩ ::
⟨(some 2), .mv (.tmp 7), none⟩ ::
[]))
.ret))
theorem prep79 : prepFunc Tryd.prog 0 79 = some F79 := by kernel_rfl

-- math/bits.TrailingZeros
def F80 : AFunc where
  ntmps := 8
  nparams := 1
  results := [(2, none)]
  code :=
(.seq
(.plain (
⟨(some 2), .mv (.const (.int .i64 0)), none⟩ ::
[]))
(.seq
(.cond (.const (.bool false))
(.seq
(.plain (
⟨(some 3), .mv (.tmp 0), none⟩ ::
⟨(some 4), .cvt .u32 (.tmp 3), none⟩ ::
⟨(some 5), .callF 82 [(.tmp 4)], none⟩ ::
⟨(some 2), .mv (.tmp 5), none⟩ ::
[]))
.ret)
.skip)
(.seq
(.plain (
⟨(some 6), .mv (.tmp 0), none⟩ ::
⟨(some 7), .callF 83 [(.tmp 6)], none⟩ ::
⟨(some 2), .mv (.tmp 7), none⟩ ::
[]))
.ret)))
theorem prep80 : prepFunc Tryd.prog 0 80 = some F80 := by kernel_rfl

-- internal/strconv.Itoa
def F81 : AFunc where
  ntmps := 5
  nparams := 1
  results := [(2, none)]
  code :=
(.seq
(.plain (
⟨(some 2), .mv (.const (.string ⟨#[]⟩)), none⟩ ::
[]))
(.seq
(.plain (
⟨(some 3), .mv (.tmp 0), none⟩ ::
⟨(some 4), .callF 54 [(.tmp 3), (.const (.int .i64 10))], none⟩ ::
⟨(some 2), .mv (.tmp 4), none⟩ ::
[]))
.ret))
theorem prep81 : prepFunc Tryd.prog 0 81 = some F81 := by kernel_rfl

-- math/bits.TrailingZeros32
def F82 : AFunc where
  ntmps := 14
  nparams := 1
  results := [(2, none)]
  code :=
(.seq
(.plain (
⟨(some 2), .mv (.const (.int .i64 0)), none⟩ ::
[]))
(.seq
(.seq
(.plain (
⟨(some 3), .mv (.tmp 0), none⟩ ::
⟨(some 4), .bin .eql (.tmp 3) (.const (.int .u32 0)), none⟩ ::
[]))
(.cond (.tmp 4)
(.seq
(.plain (
⟨(some 2), .mv (.const (.int .i64 32)), none⟩ ::
[]))
.ret)
.skip))
(.seq
(.plain (
⟨(some 5), .mv (.tmp 0), none⟩ ::
⟨(some 6), .mv (.tmp 0), none⟩ ::
⟨(some 7), .un .neg (.tmp 6), none⟩ ::
⟨(some 8), .bin .and (.tmp 5) (.tmp 7), none⟩ ::
⟨(some 9), .bin .mul (.tmp 8) (.const (.int .u32 125613361)), none⟩ ::
⟨(some 10), .bin .shr (.tmp 9) (.const (.int .u64 27)), none⟩ ::
⟨(some 11), .iaA 1 32 (.global 7) (.tmp 10), none⟩ ::
⟨(some 12), .load false 1 (.tmp 11), none⟩ ::
⟨(some 13), .cvt .i64 (.tmp 12), none⟩ ::
⟨(some 2), .mv (.tmp 13), none⟩ ::
[]))
.ret)))
theorem prep82 : prepFunc Tryd.prog 0 82 = some F82 := by kernel_rfl

-- math/bits.TrailingZeros64
def F83 : AFunc where
  ntmps := 14
  nparams := 1
  results := [(2, none)]
  code :=
(.seq
(.plain (
⟨(some 2), .mv (.const (.int .i64 0)), none⟩ ::
[]))
(.seq
(.seq
(.plain (
⟨(some 3), .mv (.tmp 0), none⟩ ::
⟨(some 4), .bin .eql (.tmp 3) (.const (.int .u64 0)), none⟩ ::
[]))
(.cond (.tmp 4)
(.seq
(.plain (
⟨(some 2), .mv (.const (.int .i64 64)), none⟩ ::
[]))
.ret)
.skip))
(.seq
(.plain (
⟨(some 5), .mv (.tmp 0), none⟩ ::
⟨(some 6), .mv (.tmp 0), none⟩ ::
⟨(some 7), .un .neg (.tmp 6), none⟩ ::
⟨(some 8), .bin .and (.tmp 5) (.tmp 7), none⟩ ::
⟨(some 9), .bin .mul (.tmp 8) (.const (.int .u64 285870213051353865)), none⟩ ::
⟨(some 10), .bin .shr (.tmp 9) (.const (.int .u64 58)), none⟩ ::
⟨(some 11), .iaA 1 64 (.global 8) (.tmp 10), none⟩ ::
⟨(some 12), .load false 1 (.tmp 11), none⟩ ::
⟨(some 13), .cvt .i64 (.tmp 12), none⟩ ::
⟨(some 2), .mv (.tmp 13), none⟩ ::
[]))
.ret)))
theorem prep83 : prepFunc Tryd.prog 0 83 = some F83 := by kernel_rfl

end Go.Proofs.YtpbicmjkjihhnaaDoor
set_option maxRecDepth 100000
namespace Go.Proofs.YtpbicmjkjihhnaaDoor
open Go Go.Av

theorem hm : Tryd.prog.follows .mixedOrders = true := by kernel_rfl

-- indenture/indenturelaw23.LexTexts
def F3 : AFunc where
  ntmps := 43
  nparams := 1
  results := [(2, none)]
  code :=
(.seq
(.plain (
⟨(some 2), .mv (.const (.bool false)), none⟩ ::
[]))
(.seq
(.seq
(.plain (
⟨(some 8), .callF 6 [], none⟩ ::
⟨(some 9), .un .not (.tmp 8), none⟩ ::
[]))
(.cond (.tmp 9)
(.seq
(.plain (
⟨(some 2), .mv (.const (.bool false)), none⟩ ::
[]))
.ret)
.skip))
(.seq
(.seq
(.plain (
⟨(some 10), .mv (.tmp 0), none⟩ ::
⟨(some 11), .lenT (.tmp 10), none⟩ ::
⟨(some 12), .bin .gtr (.tmp 11) (.const (.int .i64 1000)), none⟩ ::
[]))
(.cond (.tmp 12)
(.seq
(.plain (
⟨(some 2), .mv (.const (.bool true)), none⟩ ::
[]))
.ret)
.skip))
(.seq
(.plain (
⟨(some 14), .mv (.tmp 0), none⟩ ::
⟨(some 15), .callF 7 [(.tmp 14)], none⟩ ::
⟨(some 13), .mv (.tmp 15), none⟩ ::
⟨(some 16), .ext (.tmp 13) 0, none⟩ ::
⟨(some 17), .ext (.tmp 13) 1, none⟩ ::
⟨(some 3), .mv (.tmp 16), none⟩ ::
⟨(some 4), .mv (.tmp 17), none⟩ ::
[]))
(.seq
(.seq
(.plain (
⟨(some 18), .mv (.tmp 4), none⟩ ::
⟨(some 19), .bin .neq (.tmp 18) (.const (.int .i64 0)), none⟩ ::
[]))
(.cond (.tmp 19)
(.seq
(.plain (
⟨(some 2), .mv (.const (.bool true)), none⟩ ::
[]))
.ret)
.skip))
(.seq
(.plain (
⟨(some 20), .mv (.tmp 3), none⟩ ::
⟨(some 21), .callF 8 [(.tmp 20)], none⟩ ::
⟨(some 5), .mv (.tmp 21), none⟩ ::
[]))
(.seq
(.seq
(.plain (
⟨(some 22), .mv (.tmp 5), none⟩ ::
⟨(some 23), .mv (.tmp 3), none⟩ ::
⟨(some 24), .callF 9 [(.tmp 23)], none⟩ ::
⟨(some 25), .bin .neq (.tmp 22) (.tmp 24), none⟩ ::
[]))
(.cond (.tmp 25)
(.seq
(.plain (
⟨(some 2), .mv (.const (.bool false)), none⟩ ::
[]))
.ret)
.skip))
(.seq
(.plain (
⟨(some 27), .mv (.tmp 5), none⟩ ::
⟨(some 28), .callF 7 [(.tmp 27)], none⟩ ::
⟨(some 26), .mv (.tmp 28), none⟩ ::
⟨(some 29), .ext (.tmp 26) 0, none⟩ ::
⟨(some 30), .ext (.tmp 26) 1, none⟩ ::
⟨(some 6), .mv (.tmp 29), none⟩ ::
⟨(some 7), .mv (.tmp 30), none⟩ ::
[]))
(.seq
(.seq
(.plain (
⟨(some 31), .mv (.tmp 5), none⟩ ::
⟨(some 32), .lenT (.tmp 31), none⟩ ::
⟨(some 33), .bin .gtr (.tmp 32) (.const (.int .i64 1000)), none⟩ ::
[]))
(.cond (.tmp 33)
(.seq
(.plain (
⟨(some 34), .mv (.tmp 7), none⟩ ::
⟨(some 35), .bin .eql (.tmp 34) (.const (.int .i64 10)), none⟩ ::
⟨(some 2), .mv (.tmp 35), none⟩ ::
[]))
.ret)
.skip))
(.seq
(.plain (
⟨(some 36), .mv (.tmp 7), none⟩ ::
⟨(some 37), .bin .eql (.tmp 36) (.const (.int .i64 0)), none⟩ ::
⟨(some 38), .mv (.tmp 37), none⟩ ::
⟨(some 39), .mv (.tmp 3), (some (38, true))⟩ ::
⟨(some 40), .mv (.tmp 6), (some (38, true))⟩ ::
⟨(some 41), .callF 10 [(.tmp 39), (.tmp 40), (.const (.bool false))], (some (38, true))⟩ ::
⟨(some 42), .pick (.tmp 38) (.tmp 41) (.const (.bool false)), none⟩ ::
⟨(some 2), .mv (.tmp 42), none⟩ ::
[]))
.ret))))))))))
theorem prep3 : prepFunc Tryd.prog 0 3 = some F3 := by kernel_rfl

-- indenture/indenturelaw23.LexBlanks
def F4 : AFunc where
  ntmps := 139
  nparams := 4
  results := [(8, none)]
  code :=
(.seq
(.plain (
⟨(some 8), .mv (.const (.bool false)), none⟩ ::
[]))
(.seq
(.seq
(.plain (
⟨(some 18), .callF 6 [], none⟩ ::
⟨(some 19), .un .not (.tmp 18), none⟩ ::
[]))
(.cond (.tmp 19)
(.seq
(.plain (
⟨(some 8), .mv (.const (.bool false)), none⟩ ::
[]))
.ret)
.skip))
(.seq
(.seq
(.plain (
⟨(some 20), .mv (.tmp 0), none⟩ ::
⟨(some 21), .lenT (.tmp 20), none⟩ ::
⟨(some 22), .bin .gtr (.tmp 21) (.const (.int .i64 200)), none⟩ ::
⟨(some 23), .mv (.tmp 22), none⟩ ::
⟨(some 24), .mv (.tmp 1), (some (23, false))⟩ ::
⟨(some 25), .lenT (.tmp 24), (some (23, false))⟩ ::
⟨(some 26), .bin .gtr (.tmp 25) (.const (.int .i64 200)), (some (23, false))⟩ ::
⟨(some 27), .pick (.tmp 23) (.const (.bool true)) (.tmp 26), none⟩ ::
⟨(some 28), .mv (.tmp 27), none⟩ ::
⟨(some 29), .mv (.tmp 2), (some (28, false))⟩ ::
⟨(some 30), .len (.tmp 29), (some (28, false))⟩ ::
⟨(some 31), .bin .gtr (.tmp 30) (.const (.int .i64 50)), (some (28, false))⟩ ::
⟨(some 32), .pick (.tmp 28) (.const (.bool true)) (.tmp 31), none⟩ ::
[]))
(.cond (.tmp 32)
(.seq
(.plain (
⟨(some 8), .mv (.const (.bool true)), none⟩ ::
[]))
.ret)
.skip))
(.seq
(.plain (
⟨(some 34), .mv (.tmp 0), none⟩ ::
⟨(some 35), .callF 11 [(.tmp 34)], none⟩ ::
⟨(some 33), .mv (.tmp 35), none⟩ ::
⟨(some 36), .ext (.tmp 33) 0, none⟩ ::
⟨(some 37), .ext (.tmp 33) 1, none⟩ ::
⟨(some 9), .mv (.tmp 36), none⟩ ::
⟨(some 10), .mv (.tmp 37), none⟩ ::
[]))
(.seq
(.plain (
⟨(some 39), .mv (.tmp 1), none⟩ ::
⟨(some 40), .callF 11 [(.tmp 39)], none⟩ ::
⟨(some 38), .mv (.tmp 40), none⟩ ::
⟨(some 41), .ext (.tmp 38) 0, none⟩ ::
⟨(some 42), .ext (.tmp 38) 1, none⟩ ::
⟨(some 11), .mv (.tmp 41), none⟩ ::
⟨(some 12), .mv (.tmp 42), none⟩ ::
[]))
(.seq
(.seq
(.plain (
⟨(some 43), .mv (.tmp 10), none⟩ ::
⟨(some 44), .bin .neq (.tmp 43) (.const (.int .i64 0)), none⟩ ::
⟨(some 45), .mv (.tmp 44), none⟩ ::
⟨(some 46), .mv (.tmp 12), (some (45, false))⟩ ::
⟨(some 47), .bin .neq (.tmp 46) (.const (.int .i64 0)), (some (45, false))⟩ ::
⟨(some 48), .pick (.tmp 45) (.const (.bool true)) (.tmp 47), none⟩ ::
[]))
(.cond (.tmp 48)
(.seq
(.plain (
⟨(some 8), .mv (.const (.bool true)), none⟩ ::
[]))
.ret)
.skip))
(.seq
(.plain (
⟨(some 49), .mv (.tmp 9), none⟩ ::
⟨(some 50), .callF 9 [(.tmp 49)], none⟩ ::
⟨(some 51), .bin .add (.tmp 50) (.const (.string ⟨#[32]⟩)), none⟩ ::
⟨(some 52), .s2bM (.tmp 51), none⟩ ::
⟨(some 13), .mv (.tmp 52), none⟩ ::
[]))
(.seq
(.seq
(.plain (
⟨(some 14), .mv (.const (.int .i64 0)), none⟩ ::
[]))
(.block 0
(.loop
(.seq
(.seq
(.plain (
⟨(some 53), .mv (.tmp 14), none⟩ ::
⟨(some 54), .mv (.tmp 2), none⟩ ::
⟨(some 55), .len (.tmp 54), none⟩ ::
⟨(some 56), .bin .lss (.tmp 53) (.tmp 55), none⟩ ::
[]))
(.cond (.tmp 56)
.skip
(.exit 0)))
(.seq
(.block 1
(.seq
(.plain (
⟨(some 59), .mv (.tmp 2), none⟩ ::
⟨(some 60), .mv (.tmp 14), none⟩ ::
⟨(some 61), .iaS 1 (.tmp 59) (.tmp 60), none⟩ ::
⟨(some 62), .load false 1 (.tmp 61), none⟩ ::
⟨(some 63), .bin .rem (.tmp 62) (.const (.int .u8 5)), none⟩ ::
[]))
(.block 2
(.seq
(.plain (
⟨(some 67), .bin .eql (.tmp 63) (.const (.int .u8 0)), none⟩ ::
⟨(some 66), .mv (.tmp 67), none⟩ ::
[]))
(.cond (.tmp 66)
(.plain (
⟨(some 68), .mv (.tmp 13), none⟩ ::
⟨(some 69), .bsl 1 [(.const (.int .u8 32))], none⟩ ::
⟨(some 70), .appM 1 1 (.tmp 68) (.tmp 69), none⟩ ::
⟨(some 13), .mv (.tmp 70), none⟩ ::
[]))
(.seq
(.plain (
⟨(some 72), .bin .eql (.tmp 63) (.const (.int .u8 1)), none⟩ ::
⟨(some 71), .mv (.tmp 72), none⟩ ::
[]))
(.cond (.tmp 71)
(.plain (
⟨(some 73), .mv (.tmp 13), none⟩ ::
⟨(some 74), .bsl 1 [(.const (.int .u8 9))], none⟩ ::
⟨(some 75), .appM 1 1 (.tmp 73) (.tmp 74), none⟩ ::
⟨(some 13), .mv (.tmp 75), none⟩ ::
[]))
(.seq
(.plain (
⟨(some 77), .bin .eql (.tmp 63) (.const (.int .u8 2)), none⟩ ::
⟨(some 76), .mv (.tmp 77), none⟩ ::
[]))
(.cond (.tmp 76)
(.plain (
⟨(some 78), .mv (.tmp 13), none⟩ ::
⟨(some 79), .bsl 1 [(.const (.int .u8 10))], none⟩ ::
⟨(some 80), .appM 1 1 (.tmp 78) (.tmp 79), none⟩ ::
⟨(some 13), .mv (.tmp 80), none⟩ ::
[]))
(.seq
(.plain (
⟨(some 82), .bin .eql (.tmp 63) (.const (.int .u8 3)), none⟩ ::
⟨(some 81), .mv (.tmp 82), none⟩ ::
[]))
(.cond (.tmp 81)
(.plain (
⟨(some 83), .mv (.tmp 13), none⟩ ::
⟨(some 84), .bsl 1 [(.const (.int .u8 13))], none⟩ ::
⟨(some 85), .appM 1 1 (.tmp 83) (.tmp 84), none⟩ ::
⟨(some 13), .mv (.tmp 85), none⟩ ::
[]))
(.plain (
⟨(some 64), .mv (.tmp 13), none⟩ ::
⟨(some 65), .appM 1 1 (.tmp 64) (.const (.string ⟨#[45, 45, 32, 40, 59, 10]⟩)), none⟩ ::
⟨(some 13), .mv (.tmp 65), none⟩ ::
[])))))))))))))
(.plain (
⟨(some 57), .mv (.tmp 14), none⟩ ::
⟨(some 58), .bin .add (.tmp 57) (.const (.int .i64 1)), none⟩ ::
⟨(some 14), .mv (.tmp 58), none⟩ ::
[])))))))
(.seq
(.plain (
⟨(some 86), .mv (.tmp 13), none⟩ ::
⟨(some 87), .mv (.tmp 11), none⟩ ::
⟨(some 88), .callF 9 [(.tmp 87)], none⟩ ::
⟨(some 89), .appM 1 1 (.tmp 86) (.tmp 88), none⟩ ::
⟨(some 13), .mv (.tmp 89), none⟩ ::
[]))
(.seq
(.seq
(.plain (
⟨(some 15), .mv (.const (.int .i64 0)), none⟩ ::
[]))
(.block 3
(.loop
(.seq
(.seq
(.plain (
⟨(some 90), .mv (.tmp 3), none⟩ ::
⟨(some 91), .mv (.tmp 90), none⟩ ::
⟨(some 92), .mv (.tmp 15), (some (91, true))⟩ ::
⟨(some 93), .mv (.tmp 13), (some (91, true))⟩ ::
⟨(some 94), .len (.tmp 93), (some (91, true))⟩ ::
⟨(some 95), .bin .lss (.tmp 92) (.tmp 94), (some (91, true))⟩ ::
⟨(some 96), .pick (.tmp 91) (.tmp 95) (.const (.bool false)), none⟩ ::
[]))
(.cond (.tmp 96)
.skip
(.exit 3)))
(.seq
(.block 4
(.seq
(.plain (
⟨(some 99), .mv (.tmp 13), none⟩ ::
⟨(some 100), .mv (.tmp 15), none⟩ ::
⟨(some 101), .iaS 1 (.tmp 99) (.tmp 100), none⟩ ::
⟨(some 102), .load false 1 (.tmp 101), none⟩ ::
⟨(some 103), .bin .geq (.tmp 102) (.const (.int .u8 97)), none⟩ ::
⟨(some 104), .mv (.tmp 103), none⟩ ::
⟨(some 105), .mv (.tmp 13), (some (104, true))⟩ ::
⟨(some 106), .mv (.tmp 15), (some (104, true))⟩ ::
⟨(some 107), .iaS 1 (.tmp 105) (.tmp 106), (some (104, true))⟩ ::
⟨(some 108), .load false 1 (.tmp 107), (some (104, true))⟩ ::
⟨(some 109), .bin .leq (.tmp 108) (.const (.int .u8 122)), (some (104, true))⟩ ::
⟨(some 110), .pick (.tmp 104) (.tmp 109) (.const (.bool false)), none⟩ ::
[]))
(.cond (.tmp 110)
(.plain (
⟨(some 111), .mv (.tmp 13), none⟩ ::
⟨(some 112), .mv (.tmp 15), none⟩ ::
⟨(some 113), .mv (.tmp 13), none⟩ ::
⟨(some 114), .mv (.tmp 15), none⟩ ::
⟨(some 115), .iaS 1 (.tmp 113) (.tmp 114), none⟩ ::
⟨(some 116), .load false 1 (.tmp 115), none⟩ ::
⟨(some 117), .bin .sub (.tmp 116) (.const (.int .u8 32)), none⟩ ::
⟨(some 118), .iaS 1 (.tmp 111) (.tmp 112), none⟩ ::
⟨none, .storeX 1 (.tmp 118) (.tmp 117), none⟩ ::
[]))
.skip)))
(.plain (
⟨(some 97), .mv (.tmp 15), none⟩ ::
⟨(some 98), .bin .add (.tmp 97) (.const (.int .i64 1)), none⟩ ::
⟨(some 15), .mv (.tmp 98), none⟩ ::
[])))))))
(.seq
(.plain (
⟨(some 120), .mv (.tmp 13), none⟩ ::
⟨(some 121), .b2sM (.tmp 120), none⟩ ::
⟨(some 122), .callF 7 [(.tmp 121)], none⟩ ::
⟨(some 119), .mv (.tmp 122), none⟩ ::
⟨(some 123), .ext (.tmp 119) 0, none⟩ ::
⟨(some 124), .ext (.tmp 119) 1, none⟩ ::
⟨(some 16), .mv (.tmp 123), none⟩ ::
⟨(some 17), .mv (.tmp 124), none⟩ ::
[]))
(.seq
(.seq
(.plain (
⟨(some 125), .mv (.tmp 13), none⟩ ::
⟨(some 126), .len (.tmp 125), none⟩ ::
⟨(some 127), .bin .gtr (.tmp 126) (.const (.int .i64 1000)), none⟩ ::
[]))
(.cond (.tmp 127)
(.seq
(.plain (
⟨(some 128), .mv (.tmp 17), none⟩ ::
⟨(some 129), .bin .eql (.tmp 128) (.const (.int .i64 10)), none⟩ ::
⟨(some 8), .mv (.tmp 129), none⟩ ::
[]))
.ret)
.skip))
(.seq
(.plain (
⟨(some 130), .mv (.tmp 17), none⟩ ::
⟨(some 131), .bin .eql (.tmp 130) (.const (.int .i64 0)), none⟩ ::
⟨(some 132), .mv (.tmp 131), none⟩ ::
⟨(some 133), .mv (.tmp 16), (some (132, true))⟩ ::
⟨(some 134), .mv (.tmp 9), (some (132, true))⟩ ::
⟨(some 135), .mv (.tmp 11), (some (132, true))⟩ ::
⟨(some 136), .app 4 40 (.tmp 134) (.tmp 135), (some (132, true))⟩ ::
⟨(some 137), .callF 10 [(.tmp 133), (.tmp 136), (.const (.bool false))], (some (132, true))⟩ ::
⟨(some 138), .pick (.tmp 132) (.tmp 137) (.const (.bool false)), none⟩ ::
⟨(some 8), .mv (.tmp 138), none⟩ ::
[]))
.ret)))))))))))))
theorem prep4 : prepFunc Tryd.prog 0 4 = some F4 := by kernel_rfl

-- indenture/indenturelaw23.LexIs
def F5 : AFunc where
  ntmps := 34
  nparams := 2
  results := [(4, none)]
  code :=
(.seq
(.plain (
⟨(some 2), .box 35 (.tmp 0), none⟩ ::
⟨(some 4), .mv (.const (.bool false)), none⟩ ::
[]))
(.seq
(.seq
(.plain (
⟨(some 5), .callF 6 [], none⟩ ::
⟨(some 6), .un .not (.tmp 5), none⟩ ::
[]))
(.cond (.tmp 6)
(.seq
(.plain (
⟨(some 4), .mv (.const (.bool false)), none⟩ ::
[]))
.ret)
.skip))
(.seq
(.seq
(.plain (
⟨(some 7), .mv (.tmp 1), none⟩ ::
⟨(some 8), .lenT (.tmp 7), none⟩ ::
⟨(some 9), .bin .gtr (.tmp 8) (.const (.int .i64 500)), none⟩ ::
⟨(some 10), .mv (.tmp 9), none⟩ ::
⟨(some 11), .fa 1 (.tmp 2), (some (10, false))⟩ ::
⟨(some 12), .load false 1 (.tmp 11), (some (10, false))⟩ ::
⟨(some 13), .lenT (.tmp 12), (some (10, false))⟩ ::
⟨(some 14), .bin .gtr (.tmp 13) (.const (.int .i64 500)), (some (10, false))⟩ ::
⟨(some 15), .pick (.tmp 10) (.const (.bool true)) (.tmp 14), none⟩ ::
[]))
(.cond (.tmp 15)
(.seq
(.plain (
⟨(some 4), .mv (.const (.bool true)), none⟩ ::
[]))
.ret)
.skip))
(.seq
(.draw (
⟨(some 16), .load true 4 (.tmp 2), none⟩ ::
⟨(some 17), .mv (.tmp 1), none⟩ ::
⟨(some 18), .callF 12 [(.tmp 16), (.tmp 17)], none⟩ ::
⟨(some 19), .fa 0 (.tmp 2), none⟩ ::
⟨(some 20), .load false 1 (.tmp 19), none⟩ ::
⟨(some 21), .bin .eql (.tmp 20) (.const (.int .u8 1)), none⟩ ::
⟨(some 22), .mv (.tmp 21), none⟩ ::
⟨(some 23), .fa 0 (.tmp 2), (some (22, false))⟩ ::
⟨(some 24), .load false 1 (.tmp 23), (some (22, false))⟩ ::
⟨(some 25), .bin .eql (.tmp 24) (.const (.int .u8 3)), (some (22, false))⟩ ::
⟨(some 26), .pick (.tmp 22) (.const (.bool true)) (.tmp 25), none⟩ ::
⟨(some 27), .mv (.tmp 26), none⟩ ::
⟨(some 28), .fa 1 (.tmp 2), (some (27, true))⟩ ::
⟨(some 29), .load false 1 (.tmp 28), (some (27, true))⟩ ::
⟨(some 30), .mv (.tmp 1), (some (27, true))⟩ ::
⟨(some 31), .bin .eql (.tmp 29) (.tmp 30), (some (27, true))⟩ ::
⟨(some 32), .pick (.tmp 27) (.tmp 31) (.const (.bool false)), none⟩ ::
⟨(some 33), .eqb false (.tmp 18) (.tmp 32), none⟩ ::
⟨(some 4), .mv (.tmp 33), none⟩ ::
[])
(⟨0, [], []⟩ :: ⟨1, [], []⟩ :: ⟨3, [], []⟩ :: ⟨4, [], []⟩ :: ⟨5, [], []⟩ :: ⟨2, [], [4]⟩ :: ⟨6, [], []⟩ :: ⟨7, [], []⟩ :: ⟨8, [], []⟩ :: ⟨9, [], []⟩ :: ⟨10, [], []⟩ :: ⟨11, [], []⟩ :: ⟨12, [], []⟩ :: ⟨13, [], []⟩ :: ⟨14, [], []⟩ :: ⟨15, [], []⟩ :: ⟨16, [], []⟩ :: ⟨17, [], []⟩ :: ⟨18, [], []⟩ :: []))
.ret))))
theorem prep5 : prepFunc Tryd.prog 0 5 = some F5 := by kernel_rfl

-- indenture/indenturelaw23.alive
def F6 : AFunc where
  ntmps := 71
  nparams := 0
  results := [(0, none)]
  code :=
(.seq
(.plain (
⟨(some 0), .mv (.const (.bool false)), none⟩ ::
[]))
(.seq
(.plain (
⟨(some 12), .callF 7 [(.const (.string ⟨#[83, 101, 108, 101, 99, 116, 32, 42, 32, 70, 82, 79, 77, 32, 116, 32, 45, 45, 32, 97, 108, 108]⟩))], none⟩ ::
⟨(some 11), .mv (.tmp 12), none⟩ ::
⟨(some 13), .ext (.tmp 11) 0, none⟩ ::
⟨(some 14), .ext (.tmp 11) 1, none⟩ ::
⟨(some 1), .mv (.tmp 13), none⟩ ::
⟨(some 2), .mv (.tmp 14), none⟩ ::
[]))
(.seq
(.plain (
⟨(some 16), .callF 7 [(.const (.string ⟨#[97, 60, 61, 45, 53]⟩))], none⟩ ::
⟨(some 15), .mv (.tmp 16), none⟩ ::
⟨(some 17), .ext (.tmp 15) 0, none⟩ ::
⟨(some 18), .ext (.tmp 15) 1, none⟩ ::
⟨(some 3), .mv (.tmp 17), none⟩ ::
⟨(some 4), .mv (.tmp 18), none⟩ ::
[]))
(.seq
(.plain (
⟨(some 20), .callF 7 [(.const (.string ⟨#[49, 45, 50]⟩))], none⟩ ::
⟨(some 19), .mv (.tmp 20), none⟩ ::
⟨(some 21), .ext (.tmp 19) 0, none⟩ ::
⟨(some 22), .ext (.tmp 19) 1, none⟩ ::
⟨(some 5), .mv (.tmp 21), none⟩ ::
⟨(some 6), .mv (.tmp 22), none⟩ ::
[]))
(.seq
(.plain (
⟨(some 24), .callF 7 [(.const (.string ⟨#[97, 59]⟩))], none⟩ ::
⟨(some 23), .mv (.tmp 24), none⟩ ::
⟨(some 25), .ext (.tmp 23) 0, none⟩ ::
⟨(some 26), .ext (.tmp 23) 1, none⟩ ::
⟨(some 7), .mv (.tmp 25), none⟩ ::
⟨(some 8), .mv (.tmp 26), none⟩ ::
[]))
(.seq
(.plain (
⟨(some 28), .callF 7 [(.const (.string ⟨#[57, 50, 50, 51, 51, 55, 50, 48, 51, 54, 56, 53, 52, 55, 55, 53, 56, 48, 56]⟩))], none⟩ ::
⟨(some 27), .mv (.tmp 28), none⟩ ::
⟨(some 29), .ext (.tmp 27) 0, none⟩ ::
⟨(some 30), .ext (.tmp 27) 1, none⟩ ::
⟨(some 9), .mv (.tmp 29), none⟩ ::
⟨(some 10), .mv (.tmp 30), none⟩ ::
[]))
(.seq
(.plain (
⟨(some 31), .mv (.tmp 2), none⟩ ::
⟨(some 32), .bin .eql (.tmp 31) (.const (.int .i64 0)), none⟩ ::
⟨(some 33), .mv (.tmp 32), none⟩ ::
⟨(some 34), .mv (.tmp 1), (some (33, true))⟩ ::
⟨(some 35), .callF 8 [(.tmp 34)], (some (33, true))⟩ ::
⟨(some 36), .bin .eql (.tmp 35) (.const (.string ⟨#[115, 101, 108, 101, 99, 116, 32, 42, 32, 102, 114, 111, 109, 32, 116]⟩)), (some (33, true))⟩ ::
⟨(some 37), .pick (.tmp 33) (.tmp 36) (.const (.bool false)), none⟩ ::
⟨(some 38), .mv (.tmp 37), none⟩ ::
⟨(some 39), .mv (.tmp 4), (some (38, true))⟩ ::
⟨(some 40), .bin .eql (.tmp 39) (.const (.int .i64 0)), (some (38, true))⟩ ::
⟨(some 41), .pick (.tmp 38) (.tmp 40) (.const (.bool false)), none⟩ ::
⟨(some 42), .mv (.tmp 41), none⟩ ::
⟨(some 43), .mv (.tmp 3), (some (42, true))⟩ ::
⟨(some 44), .callF 8 [(.tmp 43)], (some (42, true))⟩ ::
⟨(some 45), .bin .eql (.tmp 44) (.const (.string ⟨#[97, 32, 60, 61, 32, 45, 53]⟩)), (some (42, true))⟩ ::
⟨(some 46), .pick (.tmp 42) (.tmp 45) (.const (.bool false)), none⟩ ::
⟨(some 47), .mv (.tmp 46), none⟩ ::
⟨(some 48), .mv (.tmp 3), (some (47, true))⟩ ::
⟨(some 49), .len (.tmp 48), (some (47, true))⟩ ::
⟨(some 50), .bin .eql (.tmp 49) (.const (.int .i64 3)), (some (47, true))⟩ ::
⟨(some 51), .pick (.tmp 47) (.tmp 50) (.const (.bool false)), none⟩ ::
⟨(some 52), .mv (.tmp 51), none⟩ ::
⟨(some 53), .mv (.tmp 3), (some (52, true))⟩ ::
⟨(some 54), .iaS 4 (.tmp 53) (.const (.int .i64 2)), (some (52, true))⟩ ::
⟨(some 55), .fa 2 (.tmp 54), (some (52, true))⟩ ::
⟨(some 56), .load false 1 (.tmp 55), (some (52, true))⟩ ::
⟨(some 57), .bin .eql (.tmp 56) (.const (.int .i64 (-5))), (some (52, true))⟩ ::
⟨(some 58), .pick (.tmp 52) (.tmp 57) (.const (.bool false)), none⟩ ::
⟨(some 59), .mv (.tmp 58), none⟩ ::
⟨(some 60), .mv (.tmp 6), (some (59, true))⟩ ::
⟨(some 61), .bin .eql (.tmp 60) (.const (.int .i64 2)), (some (59, true))⟩ ::
⟨(some 62), .pick (.tmp 59) (.tmp 61) (.const (.bool false)), none⟩ ::
⟨(some 63), .mv (.tmp 62), none⟩ ::
⟨(some 64), .mv (.tmp 8), (some (63, true))⟩ ::
⟨(some 65), .bin .eql (.tmp 64) (.const (.int .i64 2)), (some (63, true))⟩ ::
⟨(some 66), .pick (.tmp 63) (.tmp 65) (.const (.bool false)), none⟩ ::
⟨(some 67), .mv (.tmp 66), none⟩ ::
⟨(some 68), .mv (.tmp 10), (some (67, true))⟩ ::
⟨(some 69), .bin .eql (.tmp 68) (.const (.int .i64 7)), (some (67, true))⟩ ::
⟨(some 70), .pick (.tmp 67) (.tmp 69) (.const (.bool false)), none⟩ ::
⟨(some 0), .mv (.tmp 70), none⟩ ::
[]))
.ret)))))))
theorem prep6 : prepFunc Tryd.prog 0 6 = some F6 := by kernel_rfl

-- indenture/lex.Lex
def F7 : AFunc where
  ntmps := 45
  nparams := 1
  results := [(2, none), (3, none)]
  code :=
(.seq
(.plain (
⟨(some 2), .mv (.const (.slice none 0 0)), none⟩ ::
⟨(some 3), .mv (.const (.int .i64 0)), none⟩ ::
[]))
(.seq
(.seq
(.plain (
⟨(some 9), .mv (.tmp 0), none⟩ ::
⟨(some 10), .lenT (.tmp 9), none⟩ ::
⟨(some 11), .bin .gtr (.tmp 10) (.const (.int .i64 1000)), none⟩ ::
[]))
(.cond (.tmp 11)
(.seq
(.plain (
⟨(some 2), .mv (.const (.slice none 0 0)), none⟩ ::
⟨(some 3), .mv (.const (.int .i64 10)), none⟩ ::
[]))
.ret)
.skip))
(.seq
(.plain (
⟨(some 4), .mv (.const (.slice none 0 0)), none⟩ ::
[]))
(.seq
(.seq
(.plain (
⟨(some 12), .mv (.tmp 0), none⟩ ::
⟨(some 13), .callF 13 [(.tmp 12)], none⟩ ::
⟨(some 5), .mv (.tmp 13), none⟩ ::
[]))
(.block 0
(.loop
(.seq
(.seq
(.plain (
⟨(some 14), .mv (.tmp 5), none⟩ ::
⟨(some 15), .mv (.tmp 0), none⟩ ::
⟨(some 16), .lenT (.tmp 15), none⟩ ::
⟨(some 17), .bin .lss (.tmp 14) (.tmp 16), none⟩ ::
[]))
(.cond (.tmp 17)
.skip
(.exit 0)))
(.seq
(.block 1
(.seq
(.plain (
⟨(some 25), .mv (.tmp 0), none⟩ ::
⟨(some 26), .mv (.tmp 5), none⟩ ::
⟨(some 27), .slcS (.tmp 25) (some (.tmp 26)) none, none⟩ ::
⟨(some 28), .callF 14 [(.tmp 27)], none⟩ ::
⟨(some 24), .mv (.tmp 28), none⟩ ::
⟨(some 29), .ext (.tmp 24) 0, none⟩ ::
⟨(some 30), .ext (.tmp 24) 1, none⟩ ::
⟨(some 31), .ext (.tmp 24) 2, none⟩ ::
⟨(some 6), .alloc 35 [(.v (.int .u8 0)), (.v (.string ⟨#[]⟩)), (.v (.int .i64 0)), (.v (.int .i64 0))], none⟩ ::
⟨none, .store 4 (.tmp 6) (.tmp 29), none⟩ ::
⟨(some 7), .mv (.tmp 30), none⟩ ::
⟨(some 8), .mv (.tmp 31), none⟩ ::
[]))
(.seq
(.seq
(.plain (
⟨(some 32), .mv (.tmp 8), none⟩ ::
⟨(some 33), .bin .neq (.tmp 32) (.const (.int .i64 0)), none⟩ ::
[]))
(.cond (.tmp 33)
(.seq
(.plain (
⟨(some 34), .mv (.tmp 8), none⟩ ::
⟨(some 2), .mv (.const (.slice none 0 0)), none⟩ ::
⟨(some 3), .mv (.tmp 34), none⟩ ::
[]))
.ret)
.skip))
(.seq
(.plain (
⟨(some 35), .mv (.tmp 5), none⟩ ::
⟨(some 36), .fa 3 (.tmp 6), none⟩ ::
⟨none, .store 1 (.tmp 36) (.tmp 35), none⟩ ::
[]))
(.seq
(.plain (
⟨(some 37), .mv (.tmp 4), none⟩ ::
⟨(some 38), .load true 4 (.tmp 6), none⟩ ::
⟨(some 39), .bsl 4 [(.tmp 38)], none⟩ ::
⟨(some 40), .app 4 40 (.tmp 37) (.tmp 39), none⟩ ::
⟨(some 4), .mv (.tmp 40), none⟩ ::
[]))
(.plain (
⟨(some 41), .mv (.tmp 5), none⟩ ::
⟨(some 42), .mv (.tmp 7), none⟩ ::
⟨(some 43), .bin .add (.tmp 41) (.tmp 42), none⟩ ::
⟨(some 5), .mv (.tmp 43), none⟩ ::
[])))))))
(.plain (
⟨(some 18), .mv (.tmp 5), none⟩ ::
⟨(some 19), .mv (.tmp 0), none⟩ ::
⟨(some 20), .mv (.tmp 5), none⟩ ::
⟨(some 21), .slcS (.tmp 19) (some (.tmp 20)) none, none⟩ ::
⟨(some 22), .callF 13 [(.tmp 21)], none⟩ ::
⟨(some 23), .bin .add (.tmp 18) (.tmp 22), none⟩ ::
⟨(some 5), .mv (.tmp 23), none⟩ ::
[])))))))
(.seq
(.plain (
⟨(some 44), .mv (.tmp 4), none⟩ ::
⟨(some 2), .mv (.tmp 44), none⟩ ::
⟨(some 3), .mv (.const (.int .i64 0)), none⟩ ::
[]))
.ret)))))
theorem prep7 : prepFunc Tryd.prog 0 7 = some F7 := by kernel_rfl

-- indenture/lex.Text
def F8 : AFunc where
  ntmps := 21
  nparams := 1
  results := [(2, none)]
  code :=
(.seq
(.plain (
⟨(some 2), .mv (.const (.string ⟨#[]⟩)), none⟩ ::
[]))
(.seq
(.plain (
⟨(some 3), .allocT 42 [(.v (.pointer none)), (.sl [] .nil)], none⟩ ::
[]))
(.seq
(.seq
(.plain (
⟨(some 6), .mv (.tmp 0), none⟩ ::
⟨(some 7), .len (.tmp 6), none⟩ ::
⟨(some 8), .mv (.const (.int .i64 0)), none⟩ ::
[]))
(.block 0
(.loop
(.seq
(.plain (
⟨(some 9), .bin .lss (.tmp 8) (.tmp 7), none⟩ ::
[]))
(.seq
(.cond (.tmp 9)
.skip
(.exit 0))
(.seq
(.block 1
(.seq
(.plain (
⟨(some 10), .mv (.tmp 8), none⟩ ::
⟨(some 11), .iaS 4 (.tmp 6) (.tmp 8), none⟩ ::
⟨(some 12), .load true 4 (.tmp 11), none⟩ ::
⟨(some 5), .allocT 35 [(.v (.int .u8 0)), (.v (.string ⟨#[]⟩)), (.v (.int .i64 0)), (.v (.int .i64 0))], none⟩ ::
⟨(some 4), .mv (.tmp 10), none⟩ ::
⟨none, .storeX 4 (.tmp 5) (.tmp 12), none⟩ ::
[]))
(.seq
(.seq
(.plain (
⟨(some 13), .mv (.tmp 4), none⟩ ::
⟨(some 14), .bin .gtr (.tmp 13) (.const (.int .i64 0)), none⟩ ::
[]))
(.cond (.tmp 14)
(.plain (
⟨(some 15), .callF 15 [(.tmp 3), (.const (.int .u8 32))], none⟩ ::
[]))
.skip))
(.plain (
⟨(some 16), .fa 1 (.tmp 5), none⟩ ::
⟨(some 17), .load false 1 (.tmp 16), none⟩ ::
⟨(some 18), .callF 16 [(.tmp 3), (.tmp 17)], none⟩ ::
[])))))
(.plain (
⟨(some 19), .bin .add (.tmp 8) (.const (.int .i64 1)), none⟩ ::
⟨(some 8), .mv (.tmp 19), none⟩ ::
[]))))))))
(.seq
(.plain (
⟨(some 20), .callF 17 [(.tmp 3)], none⟩ ::
⟨(some 2), .mv (.tmp 20), none⟩ ::
[]))
.ret))))
theorem prep8 : prepFunc Tryd.prog 2 8 = some F8 := by kernel_rfl

-- indenture/indentureref23.Text
def F9 : AFunc where
  ntmps := 23
  nparams := 1
  results := [(2, none)]
  code :=
(.seq
(.plain (
⟨(some 2), .mv (.const (.string ⟨#[]⟩)), none⟩ ::
[]))
(.seq
(.plain (
⟨(some 3), .mv (.const (.string ⟨#[]⟩)), none⟩ ::
[]))
(.seq
(.seq
(.plain (
⟨(some 4), .mv (.const (.int .i64 0)), none⟩ ::
[]))
(.block 0
(.loop
(.seq
(.seq
(.plain (
⟨(some 5), .mv (.tmp 4), none⟩ ::
⟨(some 6), .mv (.tmp 0), none⟩ ::
⟨(some 7), .len (.tmp 6), none⟩ ::
⟨(some 8), .bin .lss (.tmp 5) (.tmp 7), none⟩ ::
[]))
(.cond (.tmp 8)
.skip
(.exit 0)))
(.seq
(.block 1
(.seq
(.seq
(.plain (
⟨(some 11), .mv (.tmp 4), none⟩ ::
⟨(some 12), .bin .gtr (.tmp 11) (.const (.int .i64 0)), none⟩ ::
[]))
(.cond (.tmp 12)
(.plain (
⟨(some 13), .mv (.tmp 3), none⟩ ::
⟨(some 14), .bin .add (.tmp 13) (.const (.string ⟨#[32]⟩)), none⟩ ::
⟨(some 3), .mv (.tmp 14), none⟩ ::
[]))
.skip))
(.plain (
⟨(some 15), .mv (.tmp 3), none⟩ ::
⟨(some 16), .mv (.tmp 0), none⟩ ::
⟨(some 17), .mv (.tmp 4), none⟩ ::
⟨(some 18), .iaS 4 (.tmp 16) (.tmp 17), none⟩ ::
⟨(some 19), .fa 1 (.tmp 18), none⟩ ::
⟨(some 20), .load false 1 (.tmp 19), none⟩ ::
⟨(some 21), .bin .add (.tmp 15) (.tmp 20), none⟩ ::
⟨(some 3), .mv (.tmp 21), none⟩ ::
[]))))
(.plain (
⟨(some 9), .mv (.tmp 4), none⟩ ::
⟨(some 10), .bin .add (.tmp 9) (.const (.int .i64 1)), none⟩ ::
⟨(some 4), .mv (.tmp 10), none⟩ ::
[])))))))
(.seq
(.plain (
⟨(some 22), .mv (.tmp 3), none⟩ ::
⟨(some 2), .mv (.tmp 22), none⟩ ::
[]))
.ret))))
theorem prep9 : prepFunc Tryd.prog 0 9 = some F9 := by kernel_rfl

-- indenture/indentureref23.Same
def F10 : AFunc where
  ntmps := 72
  nparams := 3
  results := [(6, none)]
  code :=
(.seq
(.plain (
⟨(some 6), .mv (.const (.bool false)), none⟩ ::
[]))
(.seq
(.seq
(.plain (
⟨(some 8), .mv (.tmp 0), none⟩ ::
⟨(some 9), .len (.tmp 8), none⟩ ::
⟨(some 10), .mv (.tmp 1), none⟩ ::
⟨(some 11), .len (.tmp 10), none⟩ ::
⟨(some 12), .bin .neq (.tmp 9) (.tmp 11), none⟩ ::
[]))
(.cond (.tmp 12)
(.seq
(.plain (
⟨(some 6), .mv (.const (.bool false)), none⟩ ::
[]))
.ret)
.skip))
(.seq
(.seq
(.plain (
⟨(some 7), .mv (.const (.int .i64 0)), none⟩ ::
[]))
(.block 0
(.loop
(.seq
(.seq
(.plain (
⟨(some 13), .mv (.tmp 7), none⟩ ::
⟨(some 14), .mv (.tmp 0), none⟩ ::
⟨(some 15), .len (.tmp 14), none⟩ ::
⟨(some 16), .bin .lss (.tmp 13) (.tmp 15), none⟩ ::
[]))
(.cond (.tmp 16)
.skip
(.exit 0)))
(.seq
(.block 1
(.seq
(.draw (
⟨(some 19), .mv (.tmp 0), none⟩ ::
⟨(some 20), .mv (.tmp 7), none⟩ ::
⟨(some 21), .iaS 4 (.tmp 19) (.tmp 20), none⟩ ::
⟨(some 22), .fa 0 (.tmp 21), none⟩ ::
⟨(some 23), .load false 1 (.tmp 22), none⟩ ::
⟨(some 24), .mv (.tmp 1), none⟩ ::
⟨(some 25), .mv (.tmp 7), none⟩ ::
⟨(some 26), .iaS 4 (.tmp 24) (.tmp 25), none⟩ ::
⟨(some 27), .fa 0 (.tmp 26), none⟩ ::
⟨(some 28), .load false 1 (.tmp 27), none⟩ ::
⟨(some 29), .bin .neq (.tmp 23) (.tmp 28), none⟩ ::
⟨(some 30), .mv (.tmp 29), none⟩ ::
⟨(some 31), .mv (.tmp 0), (some (30, false))⟩ ::
⟨(some 32), .mv (.tmp 7), (some (30, false))⟩ ::
⟨(some 33), .iaS 4 (.tmp 31) (.tmp 32), (some (30, false))⟩ ::
⟨(some 34), .fa 1 (.tmp 33), (some (30, false))⟩ ::
⟨(some 35), .load false 1 (.tmp 34), (some (30, false))⟩ ::
⟨(some 36), .mv (.tmp 1), (some (30, false))⟩ ::
⟨(some 37), .mv (.tmp 7), (some (30, false))⟩ ::
⟨(some 38), .iaS 4 (.tmp 36) (.tmp 37), (some (30, false))⟩ ::
⟨(some 39), .fa 1 (.tmp 38), (some (30, false))⟩ ::
⟨(some 40), .load false 1 (.tmp 39), (some (30, false))⟩ ::
⟨(some 41), .bin .neq (.tmp 35) (.tmp 40), (some (30, false))⟩ ::
⟨(some 42), .pick (.tmp 30) (.const (.bool true)) (.tmp 41), none⟩ ::
⟨(some 43), .mv (.tmp 42), none⟩ ::
⟨(some 44), .mv (.tmp 0), (some (43, false))⟩ ::
⟨(some 45), .mv (.tmp 7), (some (43, false))⟩ ::
⟨(some 46), .iaS 4 (.tmp 44) (.tmp 45), (some (43, false))⟩ ::
⟨(some 47), .fa 2 (.tmp 46), (some (43, false))⟩ ::
⟨(some 48), .load false 1 (.tmp 47), (some (43, false))⟩ ::
⟨(some 49), .mv (.tmp 1), (some (43, false))⟩ ::
⟨(some 50), .mv (.tmp 7), (some (43, false))⟩ ::
⟨(some 51), .iaS 4 (.tmp 49) (.tmp 50), (some (43, false))⟩ ::
⟨(some 52), .fa 2 (.tmp 51), (some (43, false))⟩ ::
⟨(some 53), .load false 1 (.tmp 52), (some (43, false))⟩ ::
⟨(some 54), .bin .neq (.tmp 48) (.tmp 53), (some (43, false))⟩ ::
⟨(some 55), .pick (.tmp 43) (.const (.bool true)) (.tmp 54), none⟩ ::
⟨(some 56), .mv (.tmp 55), none⟩ ::
⟨(some 57), .mv (.tmp 2), (some (56, false))⟩ ::
⟨(some 58), .mv (.tmp 57), (some (56, false))⟩ ::
⟨(some 59), .mv (.tmp 0), (some (58, true))⟩ ::
⟨(some 60), .mv (.tmp 7), (some (58, true))⟩ ::
⟨(some 61), .iaS 4 (.tmp 59) (.tmp 60), (some (58, true))⟩ ::
⟨(some 62), .fa 3 (.tmp 61), (some (58, true))⟩ ::
⟨(some 63), .load false 1 (.tmp 62), (some (58, true))⟩ ::
⟨(some 64), .mv (.tmp 1), (some (58, true))⟩ ::
⟨(some 65), .mv (.tmp 7), (some (58, true))⟩ ::
⟨(some 66), .iaS 4 (.tmp 64) (.tmp 65), (some (58, true))⟩ ::
⟨(some 67), .fa 3 (.tmp 66), (some (58, true))⟩ ::
⟨(some 68), .load false 1 (.tmp 67), (some (58, true))⟩ ::
⟨(some 69), .bin .neq (.tmp 63) (.tmp 68), (some (58, true))⟩ ::
⟨(some 70), .pick (.tmp 58) (.tmp 69) (.const (.bool false)), (some (56, false))⟩ ::
⟨(some 71), .pick (.tmp 56) (.const (.bool true)) (.tmp 70), none⟩ ::
[])
(⟨0, [], []⟩ :: ⟨1, [], []⟩ :: ⟨2, [], []⟩ :: ⟨3, [], []⟩ :: ⟨4, [], []⟩ :: ⟨5, [], []⟩ :: ⟨6, [], []⟩ :: ⟨7, [], []⟩ :: ⟨8, [], []⟩ :: ⟨9, [], []⟩ :: ⟨10, [], []⟩ :: ⟨11, [], []⟩ :: ⟨12, [], []⟩ :: ⟨13, [], []⟩ :: ⟨14, [], []⟩ :: ⟨15, [], []⟩ :: ⟨16, [], []⟩ :: ⟨17, [], []⟩ :: ⟨18, [], []⟩ :: ⟨19, [], []⟩ :: ⟨20, [], []⟩ :: ⟨21, [], []⟩ :: ⟨22, [], []⟩ :: ⟨23, [], []⟩ :: ⟨24, [], []⟩ :: ⟨25, [], []⟩ :: ⟨26, [], []⟩ :: ⟨27, [], []⟩ :: ⟨28, [], []⟩ :: ⟨29, [], []⟩ :: ⟨30, [], []⟩ :: ⟨31, [], []⟩ :: ⟨32, [], []⟩ :: ⟨33, [], []⟩ :: ⟨34, [], []⟩ :: ⟨35, [], []⟩ :: ⟨36, [], []⟩ :: ⟨37, [], []⟩ :: ⟨38, [], []⟩ :: ⟨39, [], []⟩ :: ⟨40, [], []⟩ :: ⟨41, [], []⟩ :: ⟨42, [], []⟩ :: ⟨43, [], []⟩ :: ⟨44, [], []⟩ :: ⟨45, [], []⟩ :: ⟨46, [], []⟩ :: ⟨47, [], []⟩ :: ⟨48, [], []⟩ :: ⟨49, [], []⟩ :: ⟨50, [], []⟩ :: ⟨51, [], []⟩ :: ⟨52, [], []⟩ :: []))
(.cond (.tmp 71)
(.seq
(.plain (
⟨(some 6), .mv (.const (.bool false)), none⟩ ::
[]))
.ret)
.skip)))
(.plain (
⟨(some 17), .mv (.tmp 7), none⟩ ::
⟨(some 18), .bin .add (.tmp 17) (.const (.int .i64 1)), none⟩ ::
⟨(some 7), .mv (.tmp 18), none⟩ ::
[])))))))
(.seq
(.plain (
⟨(some 6), .mv (.const (.bool true)), none⟩ ::
[]))
.ret))))
theorem prep10 : prepFunc Tryd.prog 0 10 = some F10 := by kernel_rfl

-- indenture/indentureref23.Lex
def F11 : AFunc where
  ntmps := 257
  nparams := 1
  results := [(2, none), (3, none)]
  code :=
(.seq
(.plain (
⟨(some 2), .mv (.const (.slice none 0 0)), none⟩ ::
⟨(some 3), .mv (.const (.int .i64 0)), none⟩ ::
[]))
(.seq
(.seq
(.plain (
⟨(some 16), .mv (.tmp 0), none⟩ ::
⟨(some 17), .lenT (.tmp 16), none⟩ ::
⟨(some 18), .bin .gtr (.tmp 17) (.const (.int .i64 1000)), none⟩ ::
[]))
(.cond (.tmp 18)
(.seq
(.plain (
⟨(some 2), .mv (.const (.slice none 0 0)), none⟩ ::
⟨(some 3), .mv (.const (.int .i64 10)), none⟩ ::
[]))
.ret)
.skip))
(.seq
(.plain (
⟨(some 4), .mv (.const (.slice none 0 0)), none⟩ ::
[]))
(.seq
(.plain (
⟨(some 5), .mv (.const (.int .i64 0)), none⟩ ::
[]))
(.seq
(.block 0
(.loop
(.seq
(.seq
(.plain (
⟨(some 19), .mv (.tmp 5), none⟩ ::
⟨(some 20), .mv (.tmp 0), none⟩ ::
⟨(some 21), .lenT (.tmp 20), none⟩ ::
⟨(some 22), .bin .lss (.tmp 19) (.tmp 21), none⟩ ::
[]))
(.cond (.tmp 22)
.skip
(.exit 0)))
(.block 1
(.seq
(.seq
(.plain (
⟨(some 23), .mv (.tmp 0), none⟩ ::
⟨(some 24), .mv (.tmp 5), none⟩ ::
⟨(some 25), .idxS (.tmp 23) (.tmp 24), none⟩ ::
⟨(some 26), .callF 18 [(.tmp 25)], none⟩ ::
[]))
(.cond (.tmp 26)
(.seq
(.plain (
⟨(some 27), .mv (.tmp 5), none⟩ ::
⟨(some 28), .bin .add (.tmp 27) (.const (.int .i64 1)), none⟩ ::
⟨(some 5), .mv (.tmp 28), none⟩ ::
[]))
(.exit 1))
.skip))
(.seq
(.seq
(.plain (
⟨(some 29), .mv (.tmp 0), none⟩ ::
⟨(some 30), .mv (.tmp 5), none⟩ ::
⟨(some 31), .idxS (.tmp 29) (.tmp 30), none⟩ ::
⟨(some 32), .bin .eql (.tmp 31) (.const (.int .u8 45)), none⟩ ::
⟨(some 33), .mv (.tmp 32), none⟩ ::
⟨(some 34), .mv (.tmp 5), (some (33, true))⟩ ::
⟨(some 35), .bin .add (.tmp 34) (.const (.int .i64 1)), (some (33, true))⟩ ::
⟨(some 36), .mv (.tmp 0), (some (33, true))⟩ ::
⟨(some 37), .lenT (.tmp 36), (some (33, true))⟩ ::
⟨(some 38), .bin .lss (.tmp 35) (.tmp 37), (some (33, true))⟩ ::
⟨(some 39), .pick (.tmp 33) (.tmp 38) (.const (.bool false)), none⟩ ::
⟨(some 40), .mv (.tmp 39), none⟩ ::
⟨(some 41), .mv (.tmp 0), (some (40, true))⟩ ::
⟨(some 42), .mv (.tmp 5), (some (40, true))⟩ ::
⟨(some 43), .bin .add (.tmp 42) (.const (.int .i64 1)), (some (40, true))⟩ ::
⟨(some 44), .idxS (.tmp 41) (.tmp 43), (some (40, true))⟩ ::
⟨(some 45), .bin .eql (.tmp 44) (.const (.int .u8 45)), (some (40, true))⟩ ::
⟨(some 46), .pick (.tmp 40) (.tmp 45) (.const (.bool false)), none⟩ ::
[]))
(.cond (.tmp 46)
(.seq
(.block 2
(.loop
(.seq
(.seq
(.plain (
⟨(some 47), .mv (.tmp 5), none⟩ ::
⟨(some 48), .mv (.tmp 0), none⟩ ::
⟨(some 49), .lenT (.tmp 48), none⟩ ::
⟨(some 50), .bin .lss (.tmp 47) (.tmp 49), none⟩ ::
⟨(some 51), .mv (.tmp 50), none⟩ ::
⟨(some 52), .mv (.tmp 0), (some (51, true))⟩ ::
⟨(some 53), .mv (.tmp 5), (some (51, true))⟩ ::
⟨(some 54), .idxS (.tmp 52) (.tmp 53), (some (51, true))⟩ ::
⟨(some 55), .bin .neq (.tmp 54) (.const (.int .u8 10)), (some (51, true))⟩ ::
⟨(some 56), .pick (.tmp 51) (.tmp 55) (.const (.bool false)), none⟩ ::
[]))
(.cond (.tmp 56)
.skip
(.exit 2)))
(.block 3
(.plain (
⟨(some 57), .mv (.tmp 5), none⟩ ::
⟨(some 58), .bin .add (.tmp 57) (.const (.int .i64 1)), none⟩ ::
⟨(some 5), .mv (.tmp 58), none⟩ ::
[]))))))
(.exit 1))
.skip))
(.seq
(.plain (
⟨(some 59), .mv (.tmp 5), none⟩ ::
⟨(some 6), .mv (.tmp 59), none⟩ ::
[]))
(.seq
(.seq
(.plain (
⟨(some 60), .mv (.tmp 0), none⟩ ::
⟨(some 61), .mv (.tmp 5), none⟩ ::
⟨(some 62), .idxS (.tmp 60) (.tmp 61), none⟩ ::
⟨(some 63), .callF 19 [(.tmp 62)], none⟩ ::
[]))
(.cond (.tmp 63)
(.seq
(.plain (
⟨(some 7), .mv (.const (.slice none 0 0)), none⟩ ::
[]))
(.seq
(.block 4
(.loop
(.seq
(.seq
(.plain (
⟨(some 64), .mv (.tmp 5), none⟩ ::
⟨(some 65), .mv (.tmp 0), none⟩ ::
⟨(some 66), .lenT (.tmp 65), none⟩ ::
⟨(some 67), .bin .lss (.tmp 64) (.tmp 66), none⟩ ::
⟨(some 68), .mv (.tmp 67), none⟩ ::
⟨(some 69), .mv (.tmp 0), (some (68, true))⟩ ::
⟨(some 70), .mv (.tmp 5), (some (68, true))⟩ ::
⟨(some 71), .idxS (.tmp 69) (.tmp 70), (some (68, true))⟩ ::
⟨(some 72), .callF 20 [(.tmp 71)], (some (68, true))⟩ ::
⟨(some 73), .pick (.tmp 68) (.tmp 72) (.const (.bool false)), none⟩ ::
[]))
(.cond (.tmp 73)
.skip
(.exit 4)))
(.block 5
(.seq
(.plain (
⟨(some 74), .mv (.tmp 0), none⟩ ::
⟨(some 75), .mv (.tmp 5), none⟩ ::
⟨(some 76), .idxS (.tmp 74) (.tmp 75), none⟩ ::
⟨(some 8), .mv (.tmp 76), none⟩ ::
[]))
(.seq
(.seq
(.plain (
⟨(some 77), .mv (.tmp 8), none⟩ ::
⟨(some 78), .bin .geq (.tmp 77) (.const (.int .u8 65)), none⟩ ::
⟨(some 79), .mv (.tmp 78), none⟩ ::
⟨(some 80), .mv (.tmp 8), (some (79, true))⟩ ::
⟨(some 81), .bin .leq (.tmp 80) (.const (.int .u8 90)), (some (79, true))⟩ ::
⟨(some 82), .pick (.tmp 79) (.tmp 81) (.const (.bool false)), none⟩ ::
[]))
(.cond (.tmp 82)
(.plain (
⟨(some 83), .mv (.tmp 8), none⟩ ::
⟨(some 84), .bin .add (.tmp 83) (.const (.int .u8 32)), none⟩ ::
⟨(some 8), .mv (.tmp 84), none⟩ ::
[]))
.skip))
(.seq
(.plain (
⟨(some 85), .mv (.tmp 7), none⟩ ::
⟨(some 86), .mv (.tmp 8), none⟩ ::
⟨(some 87), .bsl 1 [(.tmp 86)], none⟩ ::
⟨(some 88), .app 1 1 (.tmp 85) (.tmp 87), none⟩ ::
⟨(some 7), .mv (.tmp 88), none⟩ ::
[]))
(.plain (
⟨(some 89), .mv (.tmp 5), none⟩ ::
⟨(some 90), .bin .add (.tmp 89) (.const (.int .i64 1)), none⟩ ::
⟨(some 5), .mv (.tmp 90), none⟩ ::
[])))))))))
(.seq
(.plain (
⟨(some 91), .mv (.tmp 4), none⟩ ::
⟨(some 92), .mv (.tmp 7), none⟩ ::
⟨(some 93), .b2s (.tmp 92), none⟩ ::
⟨(some 94), .mv (.tmp 6), none⟩ ::
⟨(some 95), .bld [(.v (.int .u8 0)), (.v (.string ⟨#[]⟩)), (.v (.int .i64 0)), (.v (.int .i64 0))] [(0, 1, (.const (.int .u8 1))), (1, 1, (.tmp 93)), (3, 1, (.tmp 94))], none⟩ ::
⟨(some 96), .bsl 4 [(.tmp 95)], none⟩ ::
⟨(some 97), .app 4 40 (.tmp 91) (.tmp 96), none⟩ ::
⟨(some 4), .mv (.tmp 97), none⟩ ::
[]))
(.exit 1))))
.skip))
(.seq
(.seq
(.plain (
⟨(some 98), .mv (.tmp 0), none⟩ ::
⟨(some 99), .mv (.tmp 5), none⟩ ::
⟨(some 100), .idxS (.tmp 98) (.tmp 99), none⟩ ::
⟨(some 101), .callF 21 [(.tmp 100)], none⟩ ::
⟨(some 102), .mv (.tmp 101), none⟩ ::
⟨(some 103), .mv (.tmp 0), (some (102, false))⟩ ::
⟨(some 104), .mv (.tmp 5), (some (102, false))⟩ ::
⟨(some 105), .idxS (.tmp 103) (.tmp 104), (some (102, false))⟩ ::
⟨(some 106), .bin .eql (.tmp 105) (.const (.int .u8 45)), (some (102, false))⟩ ::
⟨(some 107), .mv (.tmp 106), (some (102, false))⟩ ::
⟨(some 108), .mv (.tmp 5), (some (107, true))⟩ ::
⟨(some 109), .bin .add (.tmp 108) (.const (.int .i64 1)), (some (107, true))⟩ ::
⟨(some 110), .mv (.tmp 0), (some (107, true))⟩ ::
⟨(some 111), .lenT (.tmp 110), (some (107, true))⟩ ::
⟨(some 112), .bin .lss (.tmp 109) (.tmp 111), (some (107, true))⟩ ::
⟨(some 113), .pick (.tmp 107) (.tmp 112) (.const (.bool false)), (some (102, false))⟩ ::
⟨(some 114), .mv (.tmp 113), (some (102, false))⟩ ::
⟨(some 115), .mv (.tmp 0), (some (114, true))⟩ ::
⟨(some 116), .mv (.tmp 5), (some (114, true))⟩ ::
⟨(some 117), .bin .add (.tmp 116) (.const (.int .i64 1)), (some (114, true))⟩ ::
⟨(some 118), .idxS (.tmp 115) (.tmp 117), (some (114, true))⟩ ::
⟨(some 119), .callF 21 [(.tmp 118)], (some (114, true))⟩ ::
⟨(some 120), .pick (.tmp 114) (.tmp 119) (.const (.bool false)), (some (102, false))⟩ ::
⟨(some 121), .pick (.tmp 102) (.const (.bool true)) (.tmp 120), none⟩ ::
[]))
(.cond (.tmp 121)
(.seq
(.plain (
⟨(some 122), .mv (.tmp 0), none⟩ ::
⟨(some 123), .mv (.tmp 5), none⟩ ::
⟨(some 124), .idxS (.tmp 122) (.tmp 123), none⟩ ::
⟨(some 125), .bin .eql (.tmp 124) (.const (.int .u8 45)), none⟩ ::
⟨(some 9), .mv (.tmp 125), none⟩ ::
[]))
(.seq
(.seq
(.plain (
⟨(some 126), .mv (.tmp 9), none⟩ ::
[]))
(.cond (.tmp 126)
(.plain (
⟨(some 127), .mv (.tmp 5), none⟩ ::
⟨(some 128), .bin .add (.tmp 127) (.const (.int .i64 1)), none⟩ ::
⟨(some 5), .mv (.tmp 128), none⟩ ::
[]))
.skip))
(.seq
(.plain (
⟨(some 10), .mv (.const (.int .u64 0)), none⟩ ::
⟨(some 11), .mv (.const (.bool false)), none⟩ ::
[]))
(.seq
(.block 6
(.loop
(.seq
(.seq
(.plain (
⟨(some 129), .mv (.tmp 5), none⟩ ::
⟨(some 130), .mv (.tmp 0), none⟩ ::
⟨(some 131), .lenT (.tmp 130), none⟩ ::
⟨(some 132), .bin .lss (.tmp 129) (.tmp 131), none⟩ ::
⟨(some 133), .mv (.tmp 132), none⟩ ::
⟨(some 134), .mv (.tmp 0), (some (133, true))⟩ ::
⟨(some 135), .mv (.tmp 5), (some (133, true))⟩ ::
⟨(some 136), .idxS (.tmp 134) (.tmp 135), (some (133, true))⟩ ::
⟨(some 137), .callF 21 [(.tmp 136)], (some (133, true))⟩ ::
⟨(some 138), .pick (.tmp 133) (.tmp 137) (.const (.bool false)), none⟩ ::
[]))
(.cond (.tmp 138)
.skip
(.exit 6)))
(.block 7
(.seq
(.plain (
⟨(some 139), .mv (.tmp 0), none⟩ ::
⟨(some 140), .mv (.tmp 5), none⟩ ::
⟨(some 141), .idxS (.tmp 139) (.tmp 140), none⟩ ::
⟨(some 142), .bin .sub (.tmp 141) (.const (.int .u8 48)), none⟩ ::
⟨(some 143), .cvt .u64 (.tmp 142), none⟩ ::
⟨(some 12), .mv (.tmp 143), none⟩ ::
[]))
(.seq
(.seq
(.plain (
⟨(some 144), .mv (.tmp 10), none⟩ ::
⟨(some 145), .bin .gtr (.tmp 144) (.const (.int .u64 922337203685477580)), none⟩ ::
[]))
(.cond (.tmp 145)
(.plain (
⟨(some 11), .mv (.const (.bool true)), none⟩ ::
[]))
.skip))
(.seq
(.plain (
⟨(some 146), .mv (.tmp 10), none⟩ ::
⟨(some 147), .bin .mul (.const (.int .u64 10)) (.tmp 146), none⟩ ::
⟨(some 148), .mv (.tmp 12), none⟩ ::
⟨(some 149), .bin .add (.tmp 147) (.tmp 148), none⟩ ::
⟨(some 10), .mv (.tmp 149), none⟩ ::
[]))
(.seq
(.seq
(.plain (
⟨(some 150), .mv (.tmp 10), none⟩ ::
⟨(some 151), .bin .gtr (.tmp 150) (.const (.int .u64 9223372036854775808)), none⟩ ::
⟨(some 152), .mv (.tmp 151), none⟩ ::
⟨(some 153), .mv (.tmp 9), (some (152, false))⟩ ::
⟨(some 154), .un .not (.tmp 153), (some (152, false))⟩ ::
⟨(some 155), .mv (.tmp 154), (some (152, false))⟩ ::
⟨(some 156), .mv (.tmp 10), (some (155, true))⟩ ::
⟨(some 157), .bin .gtr (.tmp 156) (.const (.int .u64 9223372036854775807)), (some (155, true))⟩ ::
⟨(some 158), .pick (.tmp 155) (.tmp 157) (.const (.bool false)), (some (152, false))⟩ ::
⟨(some 159), .pick (.tmp 152) (.const (.bool true)) (.tmp 158), none⟩ ::
[]))
(.cond (.tmp 159)
(.plain (
⟨(some 11), .mv (.const (.bool true)), none⟩ ::
[]))
.skip))
(.seq
(.seq
(.plain (
⟨(some 160), .mv (.tmp 11), none⟩ ::
[]))
(.cond (.tmp 160)
(.plain (
⟨(some 10), .mv (.const (.int .u64 0)), none⟩ ::
[]))
.skip))
(.plain (
⟨(some 161), .mv (.tmp 5), none⟩ ::
⟨(some 162), .bin .add (.tmp 161) (.const (.int .i64 1)), none⟩ ::
⟨(some 5), .mv (.tmp 162), none⟩ ::
[])))))))))))
(.seq
(.seq
(.plain (
⟨(some 163), .mv (.tmp 5), none⟩ ::
⟨(some 164), .mv (.tmp 0), none⟩ ::
⟨(some 165), .lenT (.tmp 164), none⟩ ::
⟨(some 166), .bin .lss (.tmp 163) (.tmp 165), none⟩ ::
⟨(some 167), .mv (.tmp 166), none⟩ ::
⟨(some 168), .mv (.tmp 0), (some (167, true))⟩ ::
⟨(some 169), .mv (.tmp 5), (some (167, true))⟩ ::
⟨(some 170), .idxS (.tmp 168) (.tmp 169), (some (167, true))⟩ ::
⟨(some 171), .bin .eql (.tmp 170) (.const (.int .u8 45)), (some (167, true))⟩ ::
⟨(some 172), .mv (.tmp 171), (some (167, true))⟩ ::
⟨(some 173), .mv (.tmp 0), (some (172, false))⟩ ::
⟨(some 174), .mv (.tmp 5), (some (172, false))⟩ ::
⟨(some 175), .idxS (.tmp 173) (.tmp 174), (some (172, false))⟩ ::
⟨(some 176), .callF 20 [(.tmp 175)], (some (172, false))⟩ ::
⟨(some 177), .pick (.tmp 172) (.const (.bool true)) (.tmp 176), (some (167, true))⟩ ::
⟨(some 178), .pick (.tmp 167) (.tmp 177) (.const (.bool false)), none⟩ ::
[]))
(.cond (.tmp 178)
(.seq
(.plain (
⟨(some 2), .mv (.const (.slice none 0 0)), none⟩ ::
⟨(some 3), .mv (.const (.int .i64 2)), none⟩ ::
[]))
.ret)
.skip))
(.seq
(.seq
(.plain (
⟨(some 179), .mv (.tmp 11), none⟩ ::
[]))
(.cond (.tmp 179)
(.seq
(.plain (
⟨(some 2), .mv (.const (.slice none 0 0)), none⟩ ::
⟨(some 3), .mv (.const (.int .i64 7)), none⟩ ::
[]))
.ret)
.skip))
(.seq
(.plain (
⟨(some 180), .mv (.tmp 10), none⟩ ::
⟨(some 181), .cvt .i64 (.tmp 180), none⟩ ::
⟨(some 13), .mv (.tmp 181), none⟩ ::
[]))
(.seq
(.seq
(.plain (
⟨(some 182), .mv (.tmp 9), none⟩ ::
[]))
(.cond (.tmp 182)
(.plain (
⟨(some 183), .mv (.tmp 13), none⟩ ::
⟨(some 184), .un .neg (.tmp 183), none⟩ ::
⟨(some 13), .mv (.tmp 184), none⟩ ::
[]))
.skip))
(.seq
(.plain (
⟨(some 185), .mv (.tmp 4), none⟩ ::
⟨(some 186), .mv (.tmp 13), none⟩ ::
⟨(some 187), .callF 22 [(.tmp 186)], none⟩ ::
⟨(some 188), .mv (.tmp 13), none⟩ ::
⟨(some 189), .mv (.tmp 6), none⟩ ::
⟨(some 190), .bld [(.v (.int .u8 0)), (.v (.string ⟨#[]⟩)), (.v (.int .i64 0)), (.v (.int .i64 0))] [(0, 1, (.const (.int .u8 2))), (1, 1, (.tmp 187)), (2, 1, (.tmp 188)), (3, 1, (.tmp 189))], none⟩ ::
⟨(some 191), .bsl 4 [(.tmp 190)], none⟩ ::
⟨(some 192), .app 4 40 (.tmp 185) (.tmp 191), none⟩ ::
⟨(some 4), .mv (.tmp 192), none⟩ ::
[]))
(.exit 1))))))))))
.skip))
(.seq
(.plain (
⟨(some 14), .mv (.const (.string ⟨#[]⟩)), none⟩ ::
[]))
(.seq
(.seq
(.plain (
⟨(some 193), .mv (.tmp 5), none⟩ ::
⟨(some 194), .bin .add (.tmp 193) (.const (.int .i64 1)), none⟩ ::
⟨(some 195), .mv (.tmp 0), none⟩ ::
⟨(some 196), .lenT (.tmp 195), none⟩ ::
⟨(some 197), .bin .lss (.tmp 194) (.tmp 196), none⟩ ::
[]))
(.cond (.tmp 197)
(.plain (
⟨(some 198), .mv (.tmp 0), none⟩ ::
⟨(some 199), .mv (.tmp 5), none⟩ ::
⟨(some 200), .mv (.tmp 5), none⟩ ::
⟨(some 201), .bin .add (.tmp 200) (.const (.int .i64 2)), none⟩ ::
⟨(some 202), .slcS (.tmp 198) (some (.tmp 199)) (some (.tmp 201)), none⟩ ::
⟨(some 14), .mv (.tmp 202), none⟩ ::
[]))
.skip))
(.seq
(.seq
(.plain (
⟨(some 203), .mv (.tmp 14), none⟩ ::
⟨(some 204), .bin .eql (.tmp 203) (.const (.string ⟨#[60, 61]⟩)), none⟩ ::
⟨(some 205), .mv (.tmp 204), none⟩ ::
⟨(some 206), .mv (.tmp 14), (some (205, false))⟩ ::
⟨(some 207), .bin .eql (.tmp 206) (.const (.string ⟨#[62, 61]⟩)), (some (205, false))⟩ ::
⟨(some 208), .pick (.tmp 205) (.const (.bool true)) (.tmp 207), none⟩ ::
[]))
(.cond (.tmp 208)
(.seq
(.plain (
⟨(some 209), .mv (.tmp 4), none⟩ ::
⟨(some 210), .mv (.tmp 14), none⟩ ::
⟨(some 211), .mv (.tmp 6), none⟩ ::
⟨(some 212), .bld [(.v (.int .u8 0)), (.v (.string ⟨#[]⟩)), (.v (.int .i64 0)), (.v (.int .i64 0))] [(0, 1, (.const (.int .u8 3))), (1, 1, (.tmp 210)), (3, 1, (.tmp 211))], none⟩ ::
⟨(some 213), .bsl 4 [(.tmp 212)], none⟩ ::
⟨(some 214), .app 4 40 (.tmp 209) (.tmp 213), none⟩ ::
⟨(some 4), .mv (.tmp 214), none⟩ ::
[]))
(.seq
(.plain (
⟨(some 215), .mv (.tmp 5), none⟩ ::
⟨(some 216), .bin .add (.tmp 215) (.const (.int .i64 2)), none⟩ ::
⟨(some 5), .mv (.tmp 216), none⟩ ::
[]))
(.exit 1)))
.skip))
(.seq
(.plain (
⟨(some 217), .mv (.tmp 0), none⟩ ::
⟨(some 218), .mv (.tmp 5), none⟩ ::
⟨(some 219), .idxS (.tmp 217) (.tmp 218), none⟩ ::
⟨(some 15), .mv (.tmp 219), none⟩ ::
[]))
(.seq
(.seq
(.plain (
⟨(some 220), .mv (.tmp 15), none⟩ ::
⟨(some 221), .bin .neq (.tmp 220) (.const (.int .u8 40)), none⟩ ::
⟨(some 222), .mv (.tmp 221), none⟩ ::
⟨(some 223), .mv (.tmp 15), (some (222, true))⟩ ::
⟨(some 224), .bin .neq (.tmp 223) (.const (.int .u8 41)), (some (222, true))⟩ ::
⟨(some 225), .pick (.tmp 222) (.tmp 224) (.const (.bool false)), none⟩ ::
⟨(some 226), .mv (.tmp 225), none⟩ ::
⟨(some 227), .mv (.tmp 15), (some (226, true))⟩ ::
⟨(some 228), .bin .neq (.tmp 227) (.const (.int .u8 44)), (some (226, true))⟩ ::
⟨(some 229), .pick (.tmp 226) (.tmp 228) (.const (.bool false)), none⟩ ::
⟨(some 230), .mv (.tmp 229), none⟩ ::
⟨(some 231), .mv (.tmp 15), (some (230, true))⟩ ::
⟨(some 232), .bin .neq (.tmp 231) (.const (.int .u8 42)), (some (230, true))⟩ ::
⟨(some 233), .pick (.tmp 230) (.tmp 232) (.const (.bool false)), none⟩ ::
⟨(some 234), .mv (.tmp 233), none⟩ ::
⟨(some 235), .mv (.tmp 15), (some (234, true))⟩ ::
⟨(some 236), .bin .neq (.tmp 235) (.const (.int .u8 61)), (some (234, true))⟩ ::
⟨(some 237), .pick (.tmp 234) (.tmp 236) (.const (.bool false)), none⟩ ::
⟨(some 238), .mv (.tmp 237), none⟩ ::
⟨(some 239), .mv (.tmp 15), (some (238, true))⟩ ::
⟨(some 240), .bin .neq (.tmp 239) (.const (.int .u8 60)), (some (238, true))⟩ ::
⟨(some 241), .pick (.tmp 238) (.tmp 240) (.const (.bool false)), none⟩ ::
⟨(some 242), .mv (.tmp 241), none⟩ ::
⟨(some 243), .mv (.tmp 15), (some (242, true))⟩ ::
⟨(some 244), .bin .neq (.tmp 243) (.const (.int .u8 62)), (some (242, true))⟩ ::
⟨(some 245), .pick (.tmp 242) (.tmp 244) (.const (.bool false)), none⟩ ::
[]))
(.cond (.tmp 245)
(.seq
(.plain (
⟨(some 2), .mv (.const (.slice none 0 0)), none⟩ ::
⟨(some 3), .mv (.const (.int .i64 2)), none⟩ ::
[]))
.ret)
.skip))
(.seq
(.plain (
⟨(some 246), .mv (.tmp 4), none⟩ ::
⟨(some 247), .mv (.tmp 15), none⟩ ::
⟨(some 248), .bsl 1 [(.tmp 247)], none⟩ ::
⟨(some 249), .b2s (.tmp 248), none⟩ ::
⟨(some 250), .mv (.tmp 6), none⟩ ::
⟨(some 251), .bld [(.v (.int .u8 0)), (.v (.string ⟨#[]⟩)), (.v (.int .i64 0)), (.v (.int .i64 0))] [(0, 1, (.const (.int .u8 3))), (1, 1, (.tmp 249)), (3, 1, (.tmp 250))], none⟩ ::
⟨(some 252), .bsl 4 [(.tmp 251)], none⟩ ::
⟨(some 253), .app 4 40 (.tmp 246) (.tmp 252), none⟩ ::
⟨(some 4), .mv (.tmp 253), none⟩ ::
[]))
(.plain (
⟨(some 254), .mv (.tmp 5), none⟩ ::
⟨(some 255), .bin .add (.tmp 254) (.const (.int .i64 1)), none⟩ ::
⟨(some 5), .mv (.tmp 255), none⟩ ::
[])))))))))))))))))
(.seq
(.plain (
⟨(some 256), .mv (.tmp 4), none⟩ ::
⟨(some 2), .mv (.tmp 256), none⟩ ::
⟨(some 3), .mv (.const (.int .i64 0)), none⟩ ::
[]))
.ret))))))
theorem prep11 : prepFunc Tryd.prog 0 11 = some F11 := by kernel_rfl

-- indenture/lex.Is
def F12 : AFunc where
  ntmps := 19
  nparams := 2
  results := [(4, none)]
  code :=
(.seq
(.plain (
⟨(some 2), .box 35 (.tmp 0), none⟩ ::
⟨(some 4), .mv (.const (.bool false)), none⟩ ::
[]))
(.seq
(.plain (
⟨(some 5), .fa 0 (.tmp 2), none⟩ ::
⟨(some 6), .load false 1 (.tmp 5), none⟩ ::
⟨(some 7), .bin .eql (.tmp 6) (.const (.int .u8 1)), none⟩ ::
⟨(some 8), .mv (.tmp 7), none⟩ ::
⟨(some 9), .fa 0 (.tmp 2), (some (8, false))⟩ ::
⟨(some 10), .load false 1 (.tmp 9), (some (8, false))⟩ ::
⟨(some 11), .bin .eql (.tmp 10) (.const (.int .u8 3)), (some (8, false))⟩ ::
⟨(some 12), .pick (.tmp 8) (.const (.bool true)) (.tmp 11), none⟩ ::
⟨(some 13), .mv (.tmp 12), none⟩ ::
⟨(some 14), .fa 1 (.tmp 2), (some (13, true))⟩ ::
⟨(some 15), .load false 1 (.tmp 14), (some (13, true))⟩ ::
⟨(some 16), .mv (.tmp 1), (some (13, true))⟩ ::
⟨(some 17), .bin .eql (.tmp 15) (.tmp 16), (some (13, true))⟩ ::
⟨(some 18), .pick (.tmp 13) (.tmp 17) (.const (.bool false)), none⟩ ::
⟨(some 4), .mv (.tmp 18), none⟩ ::
[]))
.ret))
theorem prep12 : prepFunc Tryd.prog 0 12 = some F12 := by kernel_rfl

-- indenture/lex.blanks
def F13 : AFunc where
  ntmps := 24
  nparams := 1
  results := [(2, none)]
  code :=
(.seq
(.plain (
⟨(some 2), .mv (.const (.int .i64 0)), none⟩ ::
[]))
(.seq
(.plain (
⟨(some 3), .mv (.const (.int .i64 0)), none⟩ ::
[]))
(.block 0
(.loop
(.block 1
(.seq
(.plain (
⟨(some 5), .mv (.tmp 0), none⟩ ::
⟨(some 6), .mv (.tmp 3), none⟩ ::
⟨(some 7), .slcS (.tmp 5) (some (.tmp 6)) none, none⟩ ::
⟨(some 4), .mv (.tmp 7), none⟩ ::
[]))
(.block 2
(.seq
(.plain (
⟨(some 10), .mv (.tmp 4), none⟩ ::
⟨(some 11), .callF 24 [(.tmp 10)], none⟩ ::
⟨(some 12), .callF 23 [(.tmp 11)], none⟩ ::
⟨(some 9), .mv (.tmp 12), none⟩ ::
[]))
(.cond (.tmp 9)
(.plain (
⟨(some 13), .mv (.tmp 3), none⟩ ::
⟨(some 14), .mv (.tmp 4), none⟩ ::
⟨(some 15), .callF 25 [(.tmp 14), (.func 23)], none⟩ ::
⟨(some 16), .bin .add (.tmp 13) (.tmp 15), none⟩ ::
⟨(some 3), .mv (.tmp 16), none⟩ ::
[]))
(.seq
(.plain (
⟨(some 18), .mv (.tmp 4), none⟩ ::
⟨(some 19), .callF 26 [(.tmp 18), (.const (.string ⟨#[45, 45]⟩))], none⟩ ::
⟨(some 17), .mv (.tmp 19), none⟩ ::
[]))
(.cond (.tmp 17)
(.plain (
⟨(some 20), .mv (.tmp 3), none⟩ ::
⟨(some 21), .mv (.tmp 4), none⟩ ::
⟨(some 22), .callF 25 [(.tmp 21), (.func 27)], none⟩ ::
⟨(some 23), .bin .add (.tmp 20) (.tmp 22), none⟩ ::
⟨(some 3), .mv (.tmp 23), none⟩ ::
[]))
(.seq
(.plain (
⟨(some 8), .mv (.tmp 3), none⟩ ::
⟨(some 2), .mv (.tmp 8), none⟩ ::
[]))
.ret))))))))))))
theorem prep13 : prepFunc Tryd.prog 0 13 = some F13 := by kernel_rfl

-- indenture/lex.token
def F14 : AFunc where
  ntmps := 51
  nparams := 1
  results := [(2, (some (true, 4))), (3, none), (4, none)]
  code :=
(.seq
(.plain (
⟨(some 2), .alloc 35 [(.v (.int .u8 0)), (.v (.string ⟨#[]⟩)), (.v (.int .i64 0)), (.v (.int .i64 0))], none⟩ ::
⟨(some 3), .mv (.const (.int .i64 0)), none⟩ ::
⟨(some 4), .mv (.const (.int .i64 0)), none⟩ ::
[]))
(.seq
(.plain (
⟨(some 9), .mv (.tmp 0), none⟩ ::
⟨(some 10), .callF 24 [(.tmp 9)], none⟩ ::
⟨(some 5), .mv (.tmp 10), none⟩ ::
[]))
(.seq
(.block 0
(.seq
(.plain (
⟨(some 12), .mv (.tmp 5), none⟩ ::
⟨(some 13), .callF 28 [(.tmp 12)], none⟩ ::
⟨(some 11), .mv (.tmp 13), none⟩ ::
[]))
(.cond (.tmp 11)
(.seq
(.plain (
⟨(some 14), .mv (.tmp 0), none⟩ ::
⟨(some 15), .callF 25 [(.tmp 14), (.func 29)], none⟩ ::
⟨(some 6), .mv (.tmp 15), none⟩ ::
[]))
(.seq
(.plain (
⟨(some 16), .mv (.tmp 0), none⟩ ::
⟨(some 17), .mv (.tmp 6), none⟩ ::
⟨(some 18), .slcS (.tmp 16) none (some (.tmp 17)), none⟩ ::
⟨(some 19), .callF 30 [(.tmp 18)], none⟩ ::
⟨(some 20), .bld [(.v (.int .u8 0)), (.v (.string ⟨#[]⟩)), (.v (.int .i64 0)), (.v (.int .i64 0))] [(0, 1, (.const (.int .u8 1))), (1, 1, (.tmp 19))], none⟩ ::
⟨(some 21), .mv (.tmp 6), none⟩ ::
⟨none, .store 4 (.tmp 2) (.tmp 20), none⟩ ::
⟨(some 3), .mv (.tmp 21), none⟩ ::
⟨(some 4), .mv (.const (.int .i64 0)), none⟩ ::
[]))
.ret))
(.seq
(.seq
(.plain (
⟨(some 23), .mv (.tmp 5), none⟩ ::
⟨(some 24), .callF 31 [(.tmp 23)], none⟩ ::
⟨(some 22), .mv (.tmp 24), none⟩ ::
[]))
(.cond (.tmp 22)
.skip
(.plain (
⟨(some 25), .mv (.tmp 5), none⟩ ::
⟨(some 26), .bin .eql (.tmp 25) (.const (.int .i32 45)), none⟩ ::
⟨(some 27), .mv (.tmp 26), none⟩ ::
⟨(some 28), .mv (.tmp 0), (some (27, true))⟩ ::
⟨(some 29), .slcS (.tmp 28) (some (.const (.int .i64 1))) none, (some (27, true))⟩ ::
⟨(some 30), .callF 24 [(.tmp 29)], (some (27, true))⟩ ::
⟨(some 31), .callF 31 [(.tmp 30)], (some (27, true))⟩ ::
⟨(some 32), .pick (.tmp 27) (.tmp 31) (.const (.bool false)), none⟩ ::
⟨(some 22), .mv (.tmp 32), none⟩ ::
[]))))
(.cond (.tmp 22)
(.seq
(.plain (
⟨(some 33), .mv (.tmp 0), none⟩ ::
⟨(some 34), .callF 32 [(.tmp 33)], none⟩ ::
⟨(some 35), .ext (.tmp 34) 0, none⟩ ::
⟨(some 36), .ext (.tmp 34) 1, none⟩ ::
⟨(some 37), .ext (.tmp 34) 2, none⟩ ::
⟨none, .store 4 (.tmp 2) (.tmp 35), none⟩ ::
⟨(some 3), .mv (.tmp 36), none⟩ ::
⟨(some 4), .mv (.tmp 37), none⟩ ::
[]))
.ret)
.skip)))))
(.seq
(.seq
(.plain (
⟨(some 38), .bld (List.replicate 9 (.v (.string ⟨#[]⟩))) [(0, 1, (.const (.string ⟨#[60, 61]⟩))), (1, 1, (.const (.string ⟨#[62, 61]⟩))), (2, 1, (.const (.string ⟨#[40]⟩))), (3, 1, (.const (.string ⟨#[41]⟩))), (4, 1, (.const (.string ⟨#[44]⟩))), (5, 1, (.const (.string ⟨#[42]⟩))), (6, 1, (.const (.string ⟨#[61]⟩))), (7, 1, (.const (.string ⟨#[60]⟩))), (8, 1, (.const (.string ⟨#[62]⟩)))], none⟩ ::
⟨(some 39), .mv (.const (.int .i64 0)), none⟩ ::
[]))
(.block 1
(.loop
(.seq
(.plain (
⟨(some 40), .bin .lss (.tmp 39) (.const (.int .i64 9)), none⟩ ::
[]))
(.seq
(.cond (.tmp 40)
.skip
(.exit 1))
(.seq
(.block 2
(.seq
(.plain (
⟨(some 41), .idxA false 1 9 (.tmp 38) (.tmp 39), none⟩ ::
⟨(some 8), .mv (.tmp 41), none⟩ ::
[]))
(.seq
(.plain (
⟨(some 42), .mv (.tmp 0), none⟩ ::
⟨(some 43), .mv (.tmp 8), none⟩ ::
⟨(some 44), .callF 26 [(.tmp 42), (.tmp 43)], none⟩ ::
[]))
(.cond (.tmp 44)
(.seq
(.plain (
⟨(some 45), .mv (.tmp 8), none⟩ ::
⟨(some 46), .bld [(.v (.int .u8 0)), (.v (.string ⟨#[]⟩)), (.v (.int .i64 0)), (.v (.int .i64 0))] [(0, 1, (.const (.int .u8 3))), (1, 1, (.tmp 45))], none⟩ ::
⟨(some 47), .mv (.tmp 8), none⟩ ::
⟨(some 48), .lenT (.tmp 47), none⟩ ::
⟨none, .store 4 (.tmp 2) (.tmp 46), none⟩ ::
⟨(some 3), .mv (.tmp 48), none⟩ ::
⟨(some 4), .mv (.const (.int .i64 0)), none⟩ ::
[]))
.ret)
.skip))))
(.plain (
⟨(some 49), .bin .add (.tmp 39) (.const (.int .i64 1)), none⟩ ::
⟨(some 39), .mv (.tmp 49), none⟩ ::
[]))))))))
(.seq
(.plain (
⟨(some 50), .bld [(.v (.int .u8 0)), (.v (.string ⟨#[]⟩)), (.v (.int .i64 0)), (.v (.int .i64 0))] [], none⟩ ::
⟨none, .store 4 (.tmp 2) (.tmp 50), none⟩ ::
⟨(some 3), .mv (.const (.int .i64 0)), none⟩ ::
⟨(some 4), .mv (.const (.int .i64 2)), none⟩ ::
[]))
.ret)))))
theorem prep14 : prepFunc Tryd.prog 0 14 = some F14 := by kernel_rfl

-- (*strings.Builder).WriteByte
def F15 : AFunc where
  ntmps := 17
  nparams := 2
  results := [(4, none)]
  code :=
(.seq
(.plain (
⟨(some 4), .mv (.const .nilIface), none⟩ ::
[]))
(.seq
(.plain (
⟨(some 5), .mv (.tmp 0), none⟩ ::
⟨(some 6), .callF 33 [(.tmp 5)], none⟩ ::
[]))
(.seq
(.plain (
⟨(some 7), .mv (.tmp 0), none⟩ ::
⟨(some 8), .mv (.tmp 0), none⟩ ::
⟨(some 9), .nilc (.tmp 8), none⟩ ::
⟨(some 10), .fa 1 (.tmp 9), none⟩ ::
⟨(some 11), .load false 1 (.tmp 10), none⟩ ::
⟨(some 12), .mv (.tmp 1), none⟩ ::
⟨(some 13), .bsl 1 [(.tmp 12)], none⟩ ::
⟨(some 14), .appT 5 (.tmp 11) (.tmp 13), none⟩ ::
⟨(some 15), .nilc (.tmp 7), none⟩ ::
⟨(some 16), .fa 1 (.tmp 15), none⟩ ::
⟨none, .storeX 1 (.tmp 16) (.tmp 14), none⟩ ::
[]))
(.seq
(.plain (
⟨(some 4), .mv (.const .nilIface), none⟩ ::
[]))
.ret))))
theorem prep15 : prepFunc Tryd.prog 2 15 = some F15 := by kernel_rfl

-- (*strings.Builder).WriteString
def F16 : AFunc where
  ntmps := 19
  nparams := 2
  results := [(4, none), (5, none)]
  code :=
(.seq
(.plain (
⟨(some 4), .mv (.const (.int .i64 0)), none⟩ ::
⟨(some 5), .mv (.const .nilIface), none⟩ ::
[]))
(.seq
(.plain (
⟨(some 6), .mv (.tmp 0), none⟩ ::
⟨(some 7), .callF 33 [(.tmp 6)], none⟩ ::
[]))
(.seq
(.plain (
⟨(some 8), .mv (.tmp 0), none⟩ ::
⟨(some 9), .mv (.tmp 0), none⟩ ::
⟨(some 10), .nilc (.tmp 9), none⟩ ::
⟨(some 11), .fa 1 (.tmp 10), none⟩ ::
⟨(some 12), .load false 1 (.tmp 11), none⟩ ::
⟨(some 13), .mv (.tmp 1), none⟩ ::
⟨(some 14), .appT 5 (.tmp 12) (.tmp 13), none⟩ ::
⟨(some 15), .nilc (.tmp 8), none⟩ ::
⟨(some 16), .fa 1 (.tmp 15), none⟩ ::
⟨none, .storeX 1 (.tmp 16) (.tmp 14), none⟩ ::
[]))
(.seq
(.plain (
⟨(some 17), .mv (.tmp 1), none⟩ ::
⟨(some 18), .lenT (.tmp 17), none⟩ ::
⟨(some 4), .mv (.tmp 18), none⟩ ::
⟨(some 5), .mv (.const .nilIface), none⟩ ::
[]))
.ret))))
theorem prep16 : prepFunc Tryd.prog 2 16 = some F16 := by kernel_rfl

-- (*strings.Builder).String
def F17 : AFunc where
  ntmps := 14
  nparams := 1
  results := [(2, none)]
  code :=
(.seq
(.plain (
⟨(some 2), .mv (.const (.string ⟨#[]⟩)), none⟩ ::
[]))
(.seq
(.draw (
⟨(some 3), .mv (.tmp 0), none⟩ ::
⟨(some 4), .nilc (.tmp 3), none⟩ ::
⟨(some 5), .fa 1 (.tmp 4), none⟩ ::
⟨(some 6), .load false 1 (.tmp 5), none⟩ ::
⟨(some 7), .sdat (.tmp 6), none⟩ ::
⟨(some 8), .mv (.tmp 0), none⟩ ::
⟨(some 9), .nilc (.tmp 8), none⟩ ::
⟨(some 10), .fa 1 (.tmp 9), none⟩ ::
⟨(some 11), .load false 1 (.tmp 10), none⟩ ::
⟨(some 12), .len (.tmp 11), none⟩ ::
⟨(some 13), .ustr 5 (.tmp 7) (.tmp 12), none⟩ ::
⟨(some 2), .mv (.tmp 13), none⟩ ::
[])
(⟨0, [], []⟩ :: ⟨1, [], []⟩ :: ⟨2, [], []⟩ :: ⟨3, [], []⟩ :: ⟨4, [], []⟩ :: ⟨5, [], []⟩ :: ⟨6, [], []⟩ :: ⟨7, [], []⟩ :: ⟨8, [], []⟩ :: ⟨9, [], []⟩ :: ⟨10, [], []⟩ :: ⟨11, [], []⟩ :: []))
.ret))
theorem prep17 : prepFunc Tryd.prog 2 17 = some F17 := by kernel_rfl

-- indenture/indentureref23.blank
def F18 : AFunc where
  ntmps := 17
  nparams := 1
  results := [(2, none)]
  code :=
(.seq
(.plain (
⟨(some 2), .mv (.const (.bool false)), none⟩ ::
[]))
(.seq
(.plain (
⟨(some 3), .mv (.tmp 0), none⟩ ::
⟨(some 4), .bin .eql (.tmp 3) (.const (.int .u8 32)), none⟩ ::
⟨(some 5), .mv (.tmp 4), none⟩ ::
⟨(some 6), .mv (.tmp 0), (some (5, false))⟩ ::
⟨(some 7), .bin .eql (.tmp 6) (.const (.int .u8 9)), (some (5, false))⟩ ::
⟨(some 8), .pick (.tmp 5) (.const (.bool true)) (.tmp 7), none⟩ ::
⟨(some 9), .mv (.tmp 8), none⟩ ::
⟨(some 10), .mv (.tmp 0), (some (9, false))⟩ ::
⟨(some 11), .bin .eql (.tmp 10) (.const (.int .u8 10)), (some (9, false))⟩ ::
⟨(some 12), .pick (.tmp 9) (.const (.bool true)) (.tmp 11), none⟩ ::
⟨(some 13), .mv (.tmp 12), none⟩ ::
⟨(some 14), .mv (.tmp 0), (some (13, false))⟩ ::
⟨(some 15), .bin .eql (.tmp 14) (.const (.int .u8 13)), (some (13, false))⟩ ::
⟨(some 16), .pick (.tmp 13) (.const (.bool true)) (.tmp 15), none⟩ ::
⟨(some 2), .mv (.tmp 16), none⟩ ::
[]))
.ret))
theorem prep18 : prepFunc Tryd.prog 0 18 = some F18 := by kernel_rfl

-- indenture/indentureref23.letter
def F19 : AFunc where
  ntmps := 17
  nparams := 1
  results := [(2, none)]
  code :=
(.seq
(.plain (
⟨(some 2), .mv (.const (.bool false)), none⟩ ::
[]))
(.seq
(.plain (
⟨(some 3), .mv (.tmp 0), none⟩ ::
⟨(some 4), .bin .geq (.tmp 3) (.const (.int .u8 97)), none⟩ ::
⟨(some 5), .mv (.tmp 4), none⟩ ::
⟨(some 6), .mv (.tmp 0), (some (5, true))⟩ ::
⟨(some 7), .bin .leq (.tmp 6) (.const (.int .u8 122)), (some (5, true))⟩ ::
⟨(some 8), .pick (.tmp 5) (.tmp 7) (.const (.bool false)), none⟩ ::
⟨(some 9), .mv (.tmp 8), none⟩ ::
⟨(some 10), .mv (.tmp 0), (some (9, false))⟩ ::
⟨(some 11), .bin .geq (.tmp 10) (.const (.int .u8 65)), (some (9, false))⟩ ::
⟨(some 12), .mv (.tmp 11), (some (9, false))⟩ ::
⟨(some 13), .mv (.tmp 0), (some (12, true))⟩ ::
⟨(some 14), .bin .leq (.tmp 13) (.const (.int .u8 90)), (some (12, true))⟩ ::
⟨(some 15), .pick (.tmp 12) (.tmp 14) (.const (.bool false)), (some (9, false))⟩ ::
⟨(some 16), .pick (.tmp 9) (.const (.bool true)) (.tmp 15), none⟩ ::
⟨(some 2), .mv (.tmp 16), none⟩ ::
[]))
.ret))
theorem prep19 : prepFunc Tryd.prog 0 19 = some F19 := by kernel_rfl

-- indenture/indentureref23.word
def F20 : AFunc where
  ntmps := 13
  nparams := 1
  results := [(2, none)]
  code :=
(.seq
(.plain (
⟨(some 2), .mv (.const (.bool false)), none⟩ ::
[]))
(.seq
(.plain (
⟨(some 3), .mv (.tmp 0), none⟩ ::
⟨(some 4), .callF 19 [(.tmp 3)], none⟩ ::
⟨(some 5), .mv (.tmp 4), none⟩ ::
⟨(some 6), .mv (.tmp 0), (some (5, false))⟩ ::
⟨(some 7), .callF 21 [(.tmp 6)], (some (5, false))⟩ ::
⟨(some 8), .pick (.tmp 5) (.const (.bool true)) (.tmp 7), none⟩ ::
⟨(some 9), .mv (.tmp 8), none⟩ ::
⟨(some 10), .mv (.tmp 0), (some (9, false))⟩ ::
⟨(some 11), .bin .eql (.tmp 10) (.const (.int .u8 95)), (some (9, false))⟩ ::
⟨(some 12), .pick (.tmp 9) (.const (.bool true)) (.tmp 11), none⟩ ::
⟨(some 2), .mv (.tmp 12), none⟩ ::
[]))
.ret))
theorem prep20 : prepFunc Tryd.prog 0 20 = some F20 := by kernel_rfl

-- indenture/indentureref23.digit
def F21 : AFunc where
  ntmps := 9
  nparams := 1
  results := [(2, none)]
  code :=
(.seq
(.plain (
⟨(some 2), .mv (.const (.bool false)), none⟩ ::
[]))
(.seq
(.plain (
⟨(some 3), .mv (.tmp 0), none⟩ ::
⟨(some 4), .bin .geq (.tmp 3) (.const (.int .u8 48)), none⟩ ::
⟨(some 5), .mv (.tmp 4), none⟩ ::
⟨(some 6), .mv (.tmp 0), (some (5, true))⟩ ::
⟨(some 7), .bin .leq (.tmp 6) (.const (.int .u8 57)), (some (5, true))⟩ ::
⟨(some 8), .pick (.tmp 5) (.tmp 7) (.const (.bool false)), none⟩ ::
⟨(some 2), .mv (.tmp 8), none⟩ ::
[]))
.ret))
theorem prep21 : prepFunc Tryd.prog 0 21 = some F21 := by kernel_rfl

-- indenture/indentureref23.Digits
def F22 : AFunc where
  ntmps := 28
  nparams := 1
  results := [(2, none)]
  code :=
(.seq
(.plain (
⟨(some 2), .mv (.const (.string ⟨#[]⟩)), none⟩ ::
[]))
(.seq
(.plain (
⟨(some 5), .mv (.tmp 0), none⟩ ::
⟨(some 6), .cvt .u64 (.tmp 5), none⟩ ::
⟨(some 3), .mv (.tmp 6), none⟩ ::
[]))
(.seq
(.seq
(.plain (
⟨(some 7), .mv (.tmp 0), none⟩ ::
⟨(some 8), .bin .lss (.tmp 7) (.const (.int .i64 0)), none⟩ ::
[]))
(.cond (.tmp 8)
(.plain (
⟨(some 9), .mv (.tmp 3), none⟩ ::
⟨(some 10), .un .neg (.tmp 9), none⟩ ::
⟨(some 3), .mv (.tmp 10), none⟩ ::
[]))
.skip))
(.seq
(.plain (
⟨(some 4), .mv (.const (.string ⟨#[]⟩)), none⟩ ::
[]))
(.seq
(.block 0
(.loop
(.block 1
(.seq
(.plain (
⟨(some 11), .mv (.tmp 3), none⟩ ::
⟨(some 12), .bin .rem (.tmp 11) (.const (.int .u64 10)), none⟩ ::
⟨(some 13), .bin .add (.const (.int .u64 48)) (.tmp 12), none⟩ ::
⟨(some 14), .cvt .u8 (.tmp 13), none⟩ ::
⟨(some 15), .bsl 1 [(.tmp 14)], none⟩ ::
⟨(some 16), .b2s (.tmp 15), none⟩ ::
⟨(some 17), .mv (.tmp 4), none⟩ ::
⟨(some 18), .bin .add (.tmp 16) (.tmp 17), none⟩ ::
⟨(some 4), .mv (.tmp 18), none⟩ ::
[]))
(.seq
(.plain (
⟨(some 19), .mv (.tmp 3), none⟩ ::
⟨(some 20), .bin .quo (.tmp 19) (.const (.int .u64 10)), none⟩ ::
⟨(some 3), .mv (.tmp 20), none⟩ ::
[]))
(.seq
(.plain (
⟨(some 21), .mv (.tmp 3), none⟩ ::
⟨(some 22), .bin .eql (.tmp 21) (.const (.int .u64 0)), none⟩ ::
[]))
(.cond (.tmp 22)
(.exit 0)
.skip)))))))
(.seq
(.seq
(.plain (
⟨(some 23), .mv (.tmp 0), none⟩ ::
⟨(some 24), .bin .lss (.tmp 23) (.const (.int .i64 0)), none⟩ ::
[]))
(.cond (.tmp 24)
(.seq
(.plain (
⟨(some 25), .mv (.tmp 4), none⟩ ::
⟨(some 26), .bin .add (.const (.string ⟨#[45]⟩)) (.tmp 25), none⟩ ::
⟨(some 2), .mv (.tmp 26), none⟩ ::
[]))
.ret)
.skip))
(.seq
(.plain (
⟨(some 27), .mv (.tmp 4), none⟩ ::
⟨(some 2), .mv (.tmp 27), none⟩ ::
[]))
.ret)))))))
theorem prep22 : prepFunc Tryd.prog 0 22 = some F22 := by kernel_rfl

-- indenture/lex.isBlank
def F23 : AFunc where
  ntmps := 17
  nparams := 1
  results := [(2, none)]
  code :=
(.seq
(.plain (
⟨(some 2), .mv (.const (.bool false)), none⟩ ::
[]))
(.seq
(.plain (
⟨(some 3), .mv (.tmp 0), none⟩ ::
⟨(some 4), .bin .eql (.tmp 3) (.const (.int .i32 32)), none⟩ ::
⟨(some 5), .mv (.tmp 4), none⟩ ::
⟨(some 6), .mv (.tmp 0), (some (5, false))⟩ ::
⟨(some 7), .bin .eql (.tmp 6) (.const (.int .i32 9)), (some (5, false))⟩ ::
⟨(some 8), .pick (.tmp 5) (.const (.bool true)) (.tmp 7), none⟩ ::
⟨(some 9), .mv (.tmp 8), none⟩ ::
⟨(some 10), .mv (.tmp 0), (some (9, false))⟩ ::
⟨(some 11), .bin .eql (.tmp 10) (.const (.int .i32 10)), (some (9, false))⟩ ::
⟨(some 12), .pick (.tmp 9) (.const (.bool true)) (.tmp 11), none⟩ ::
⟨(some 13), .mv (.tmp 12), none⟩ ::
⟨(some 14), .mv (.tmp 0), (some (13, false))⟩ ::
⟨(some 15), .bin .eql (.tmp 14) (.const (.int .i32 13)), (some (13, false))⟩ ::
⟨(some 16), .pick (.tmp 13) (.const (.bool true)) (.tmp 15), none⟩ ::
⟨(some 2), .mv (.tmp 16), none⟩ ::
[]))
.ret))
theorem prep23 : prepFunc Tryd.prog 0 23 = some F23 := by kernel_rfl

-- indenture/lex.first
def F24 : AFunc where
  ntmps := 11
  nparams := 1
  results := [(2, none)]
  code :=
(.seq
(.plain (
⟨(some 2), .mv (.const (.int .i32 0)), none⟩ ::
[]))
(.seq
(.seq
(.plain (
⟨(some 5), .mv (.tmp 0), none⟩ ::
⟨(some 6), .rngS (.tmp 5), none⟩ ::
[]))
(.block 0
(.loop
(.seq
(.plain (
⟨(some 7), .nxtS (.tmp 6), none⟩ ::
⟨(some 8), .ext (.tmp 7) 0, none⟩ ::
[]))
(.seq
(.cond (.tmp 8)
.skip
(.exit 0))
(.block 1
(.seq
(.plain (
⟨(some 9), .ext (.tmp 7) 2, none⟩ ::
⟨(some 4), .mv (.tmp 9), none⟩ ::
[]))
(.seq
(.plain (
⟨(some 10), .mv (.tmp 4), none⟩ ::
⟨(some 2), .mv (.tmp 10), none⟩ ::
[]))
.ret))))))))
(.seq
(.plain (
⟨(some 2), .mv (.const (.int .i32 (-1))), none⟩ ::
[]))
.ret)))
theorem prep24 : prepFunc Tryd.prog 0 24 = some F24 := by kernel_rfl

-- indenture/lex.far
def F25 : AFunc where
  ntmps := 14
  nparams := 2
  results := [(4, none)]
  code :=
(.seq
(.plain (
⟨(some 3), .box 52 (.tmp 1), none⟩ ::
⟨(some 4), .mv (.const (.int .i64 0)), none⟩ ::
[]))
(.seq
(.plain (
⟨(some 6), .mv (.tmp 0), none⟩ ::
⟨(some 7), .clo 35 [] [(.tmp 3)], none⟩ ::
⟨(some 8), .callF 34 [(.tmp 6), (.tmp 7)], none⟩ ::
⟨(some 5), .mv (.tmp 8), none⟩ ::
[]))
(.seq
(.seq
(.plain (
⟨(some 9), .mv (.tmp 5), none⟩ ::
⟨(some 10), .bin .lss (.tmp 9) (.const (.int .i64 0)), none⟩ ::
[]))
(.cond (.tmp 10)
(.seq
(.plain (
⟨(some 11), .mv (.tmp 0), none⟩ ::
⟨(some 12), .lenT (.tmp 11), none⟩ ::
⟨(some 4), .mv (.tmp 12), none⟩ ::
[]))
.ret)
.skip))
(.seq
(.plain (
⟨(some 13), .mv (.tmp 5), none⟩ ::
⟨(some 4), .mv (.tmp 13), none⟩ ::
[]))
.ret))))
theorem prep25 : prepFunc Tryd.prog 0 25 = some F25 := by kernel_rfl

-- strings.HasPrefix
def F26 : AFunc where
  ntmps := 8
  nparams := 2
  results := [(4, none)]
  code :=
(.seq
(.plain (
⟨(some 4), .mv (.const (.bool false)), none⟩ ::
[]))
(.seq
(.plain (
⟨(some 5), .mv (.tmp 0), none⟩ ::
⟨(some 6), .mv (.tmp 1), none⟩ ::
⟨(some 7), .callF 36 [(.tmp 5), (.tmp 6)], none⟩ ::
⟨(some 4), .mv (.tmp 7), none⟩ ::
[]))
.ret))
theorem prep26 : prepFunc Tryd.prog 0 26 = some F26 := by kernel_rfl

-- indenture/lex.blanks$1
def F27 : AFunc where
  ntmps := 5
  nparams := 1
  results := [(2, none)]
  code :=
(.seq
(.plain (
⟨(some 2), .mv (.const (.bool false)), none⟩ ::
[]))
(.seq
(.plain (
⟨(some 3), .mv (.tmp 0), none⟩ ::
⟨(some 4), .bin .neq (.tmp 3) (.const (.int .i32 10)), none⟩ ::
⟨(some 2), .mv (.tmp 4), none⟩ ::
[]))
.ret))
theorem prep27 : prepFunc Tryd.prog 0 27 = some F27 := by kernel_rfl

-- indenture/lex.isLetter
def F28 : AFunc where
  ntmps := 17
  nparams := 1
  results := [(2, none)]
  code :=
(.seq
(.plain (
⟨(some 2), .mv (.const (.bool false)), none⟩ ::
[]))
(.seq
(.plain (
⟨(some 3), .mv (.tmp 0), none⟩ ::
⟨(some 4), .bin .geq (.tmp 3) (.const (.int .i32 97)), none⟩ ::
⟨(some 5), .mv (.tmp 4), none⟩ ::
⟨(some 6), .mv (.tmp 0), (some (5, true))⟩ ::
⟨(some 7), .bin .leq (.tmp 6) (.const (.int .i32 122)), (some (5, true))⟩ ::
⟨(some 8), .pick (.tmp 5) (.tmp 7) (.const (.bool false)), none⟩ ::
⟨(some 9), .mv (.tmp 8), none⟩ ::
⟨(some 10), .mv (.tmp 0), (some (9, false))⟩ ::
⟨(some 11), .bin .geq (.tmp 10) (.const (.int .i32 65)), (some (9, false))⟩ ::
⟨(some 12), .mv (.tmp 11), (some (9, false))⟩ ::
⟨(some 13), .mv (.tmp 0), (some (12, true))⟩ ::
⟨(some 14), .bin .leq (.tmp 13) (.const (.int .i32 90)), (some (12, true))⟩ ::
⟨(some 15), .pick (.tmp 12) (.tmp 14) (.const (.bool false)), (some (9, false))⟩ ::
⟨(some 16), .pick (.tmp 9) (.const (.bool true)) (.tmp 15), none⟩ ::
⟨(some 2), .mv (.tmp 16), none⟩ ::
[]))
.ret))
theorem prep28 : prepFunc Tryd.prog 0 28 = some F28 := by kernel_rfl

-- indenture/lex.inWord
def F29 : AFunc where
  ntmps := 13
  nparams := 1
  results := [(2, none)]
  code :=
(.seq
(.plain (
⟨(some 2), .mv (.const (.bool false)), none⟩ ::
[]))
(.seq
(.plain (
⟨(some 3), .mv (.tmp 0), none⟩ ::
⟨(some 4), .callF 28 [(.tmp 3)], none⟩ ::
⟨(some 5), .mv (.tmp 4), none⟩ ::
⟨(some 6), .mv (.tmp 0), (some (5, false))⟩ ::
⟨(some 7), .callF 31 [(.tmp 6)], (some (5, false))⟩ ::
⟨(some 8), .pick (.tmp 5) (.const (.bool true)) (.tmp 7), none⟩ ::
⟨(some 9), .mv (.tmp 8), none⟩ ::
⟨(some 10), .mv (.tmp 0), (some (9, false))⟩ ::
⟨(some 11), .bin .eql (.tmp 10) (.const (.int .i32 95)), (some (9, false))⟩ ::
⟨(some 12), .pick (.tmp 9) (.const (.bool true)) (.tmp 11), none⟩ ::
⟨(some 2), .mv (.tmp 12), none⟩ ::
[]))
.ret))
theorem prep29 : prepFunc Tryd.prog 0 29 = some F29 := by kernel_rfl

-- strings.ToLower
def F30 : AFunc where
  ntmps := 78
  nparams := 1
  results := [(2, none)]
  code :=
(.seq
(.plain (
⟨(some 2), .mv (.const (.string ⟨#[]⟩)), none⟩ ::
[]))
(.seq
(.plain (
⟨(some 3), .mv (.const (.bool true)), none⟩ ::
⟨(some 4), .mv (.const (.bool false)), none⟩ ::
[]))
(.seq
(.seq
(.plain (
⟨(some 5), .mv (.const (.int .i64 0)), none⟩ ::
[]))
(.block 0
(.loop
(.seq
(.seq
(.plain (
⟨(some 11), .mv (.tmp 5), none⟩ ::
⟨(some 12), .mv (.tmp 0), none⟩ ::
⟨(some 13), .lenT (.tmp 12), none⟩ ::
⟨(some 14), .bin .lss (.tmp 11) (.tmp 13), none⟩ ::
[]))
(.cond (.tmp 14)
.skip
(.exit 0)))
(.seq
(.block 1
(.seq
(.plain (
⟨(some 17), .mv (.tmp 0), none⟩ ::
⟨(some 18), .mv (.tmp 5), none⟩ ::
⟨(some 19), .idxS (.tmp 17) (.tmp 18), none⟩ ::
⟨(some 6), .mv (.tmp 19), none⟩ ::
[]))
(.seq
(.seq
(.plain (
⟨(some 20), .mv (.tmp 6), none⟩ ::
⟨(some 21), .bin .geq (.tmp 20) (.const (.int .u8 128)), none⟩ ::
[]))
(.cond (.tmp 21)
(.seq
(.plain (
⟨(some 3), .mv (.const (.bool false)), none⟩ ::
[]))
(.exit 0))
.skip))
(.plain (
⟨(some 22), .mv (.tmp 4), none⟩ ::
⟨(some 23), .mv (.tmp 22), none⟩ ::
⟨(some 24), .mv (.tmp 6), (some (23, false))⟩ ::
⟨(some 25), .bin .leq (.const (.int .u8 65)) (.tmp 24), (some (23, false))⟩ ::
⟨(some 26), .mv (.tmp 25), (some (23, false))⟩ ::
⟨(some 27), .mv (.tmp 6), (some (26, true))⟩ ::
⟨(some 28), .bin .leq (.tmp 27) (.const (.int .u8 90)), (some (26, true))⟩ ::
⟨(some 29), .pick (.tmp 26) (.tmp 28) (.const (.bool false)), (some (23, false))⟩ ::
⟨(some 30), .pick (.tmp 23) (.const (.bool true)) (.tmp 29), none⟩ ::
⟨(some 4), .mv (.tmp 30), none⟩ ::
[])))))
(.plain (
⟨(some 15), .mv (.tmp 5), none⟩ ::
⟨(some 16), .bin .add (.tmp 15) (.const (.int .i64 1)), none⟩ ::
⟨(some 5), .mv (.tmp 16), none⟩ ::
[])))))))
(.seq
(.seq
(.plain (
⟨(some 31), .mv (.tmp 3), none⟩ ::
[]))
(.cond (.tmp 31)
(.seq
(.seq
(.plain (
⟨(some 32), .mv (.tmp 4), none⟩ ::
⟨(some 33), .un .not (.tmp 32), none⟩ ::
[]))
(.cond (.tmp 33)
(.seq
(.plain (
⟨(some 34), .mv (.tmp 0), none⟩ ::
⟨(some 2), .mv (.tmp 34), none⟩ ::
[]))
.ret)
.skip))
(.seq
(.plain (
⟨(some 7), .alloc 42 [(.v (.pointer none)), (.sl [] .nil)], none⟩ ::
[]))
(.seq
(.plain (
⟨(some 8), .mv (.const (.int .i64 0)), none⟩ ::
[]))
(.seq
(.plain (
⟨(some 35), .mv (.tmp 0), none⟩ ::
⟨(some 36), .lenT (.tmp 35), none⟩ ::
⟨(some 37), .callF 37 [(.tmp 7), (.tmp 36)], none⟩ ::
[]))
(.seq
(.seq
(.plain (
⟨(some 9), .mv (.const (.int .i64 0)), none⟩ ::
[]))
(.block 2
(.loop
(.seq
(.seq
(.plain (
⟨(some 38), .mv (.tmp 9), none⟩ ::
⟨(some 39), .mv (.tmp 0), none⟩ ::
⟨(some 40), .lenT (.tmp 39), none⟩ ::
⟨(some 41), .bin .lss (.tmp 38) (.tmp 40), none⟩ ::
[]))
(.cond (.tmp 41)
.skip
(.exit 2)))
(.seq
(.block 3
(.seq
(.plain (
⟨(some 44), .mv (.tmp 0), none⟩ ::
⟨(some 45), .mv (.tmp 9), none⟩ ::
⟨(some 46), .idxS (.tmp 44) (.tmp 45), none⟩ ::
⟨(some 10), .mv (.tmp 46), none⟩ ::
[]))
(.seq
(.plain (
⟨(some 47), .mv (.tmp 10), none⟩ ::
⟨(some 48), .bin .leq (.const (.int .u8 65)) (.tmp 47), none⟩ ::
⟨(some 49), .mv (.tmp 48), none⟩ ::
⟨(some 50), .mv (.tmp 10), (some (49, true))⟩ ::
⟨(some 51), .bin .leq (.tmp 50) (.const (.int .u8 90)), (some (49, true))⟩ ::
⟨(some 52), .pick (.tmp 49) (.tmp 51) (.const (.bool false)), none⟩ ::
[]))
(.cond (.tmp 52)
(.seq
(.plain (
⟨(some 53), .mv (.tmp 10), none⟩ ::
⟨(some 54), .bin .add (.tmp 53) (.const (.int .u8 32)), none⟩ ::
⟨(some 10), .mv (.tmp 54), none⟩ ::
[]))
(.seq
(.seq
(.plain (
⟨(some 55), .mv (.tmp 8), none⟩ ::
⟨(some 56), .mv (.tmp 9), none⟩ ::
⟨(some 57), .bin .lss (.tmp 55) (.tmp 56), none⟩ ::
[]))
(.cond (.tmp 57)
(.plain (
⟨(some 58), .mv (.tmp 0), none⟩ ::
⟨(some 59), .mv (.tmp 8), none⟩ ::
⟨(some 60), .mv (.tmp 9), none⟩ ::
⟨(some 61), .slcS (.tmp 58) (some (.tmp 59)) (some (.tmp 60)), none⟩ ::
⟨(some 62), .callF 16 [(.tmp 7), (.tmp 61)], none⟩ ::
[]))
.skip))
(.seq
(.plain (
⟨(some 63), .mv (.tmp 10), none⟩ ::
⟨(some 64), .callF 15 [(.tmp 7), (.tmp 63)], none⟩ ::
[]))
(.plain (
⟨(some 65), .mv (.tmp 9), none⟩ ::
⟨(some 66), .bin .add (.tmp 65) (.const (.int .i64 1)), none⟩ ::
⟨(some 8), .mv (.tmp 66), none⟩ ::
[])))))
.skip))))
(.plain (
⟨(some 42), .mv (.tmp 9), none⟩ ::
⟨(some 43), .bin .add (.tmp 42) (.const (.int .i64 1)), none⟩ ::
⟨(some 9), .mv (.tmp 43), none⟩ ::
[])))))))
(.seq
(.seq
(.plain (
⟨(some 67), .mv (.tmp 8), none⟩ ::
⟨(some 68), .mv (.tmp 0), none⟩ ::
⟨(some 69), .lenT (.tmp 68), none⟩ ::
⟨(some 70), .bin .lss (.tmp 67) (.tmp 69), none⟩ ::
[]))
(.cond (.tmp 70)
(.plain (
⟨(some 71), .mv (.tmp 0), none⟩ ::
⟨(some 72), .mv (.tmp 8), none⟩ ::
⟨(some 73), .slcS (.tmp 71) (some (.tmp 72)) none, none⟩ ::
⟨(some 74), .callF 16 [(.tmp 7), (.tmp 73)], none⟩ ::
[]))
.skip))
(.seq
(.plain (
⟨(some 75), .callF 17 [(.tmp 7)], none⟩ ::
⟨(some 2), .mv (.tmp 75), none⟩ ::
[]))
.ret)))))))
.skip))
(.seq
(.plain (
⟨(some 76), .mv (.tmp 0), none⟩ ::
⟨(some 77), .callF 38 [(.func 39), (.tmp 76)], none⟩ ::
⟨(some 2), .mv (.tmp 77), none⟩ ::
[]))
.ret)))))
theorem prep30 : prepFunc Tryd.prog 0 30 = some F30 := by kernel_rfl

-- indenture/lex.isDigit
def F31 : AFunc where
  ntmps := 9
  nparams := 1
  results := [(2, none)]
  code :=
(.seq
(.plain (
⟨(some 2), .mv (.const (.bool false)), none⟩ ::
[]))
(.seq
(.plain (
⟨(some 3), .mv (.tmp 0), none⟩ ::
⟨(some 4), .bin .geq (.tmp 3) (.const (.int .i32 48)), none⟩ ::
⟨(some 5), .mv (.tmp 4), none⟩ ::
⟨(some 6), .mv (.tmp 0), (some (5, true))⟩ ::
⟨(some 7), .bin .leq (.tmp 6) (.const (.int .i32 57)), (some (5, true))⟩ ::
⟨(some 8), .pick (.tmp 5) (.tmp 7) (.const (.bool false)), none⟩ ::
⟨(some 2), .mv (.tmp 8), none⟩ ::
[]))
.ret))
theorem prep31 : prepFunc Tryd.prog 0 31 = some F31 := by kernel_rfl

-- indenture/lex.number
def F32 : AFunc where
  ntmps := 48
  nparams := 1
  results := [(2, (some (true, 4))), (3, none), (4, none)]
  code :=
(.seq
(.plain (
⟨(some 2), .alloc 35 [(.v (.int .u8 0)), (.v (.string ⟨#[]⟩)), (.v (.int .i64 0)), (.v (.int .i64 0))], none⟩ ::
⟨(some 3), .mv (.const (.int .i64 0)), none⟩ ::
⟨(some 4), .mv (.const (.int .i64 0)), none⟩ ::
[]))
(.seq
(.plain (
⟨(some 10), .mv (.tmp 0), none⟩ ::
⟨(some 11), .lenT (.tmp 10), none⟩ ::
⟨(some 12), .mv (.tmp 0), none⟩ ::
⟨(some 13), .callF 40 [(.tmp 12), (.const (.string ⟨#[45]⟩))], none⟩ ::
⟨(some 14), .lenT (.tmp 13), none⟩ ::
⟨(some 15), .bin .sub (.tmp 11) (.tmp 14), none⟩ ::
⟨(some 5), .mv (.tmp 15), none⟩ ::
[]))
(.seq
(.plain (
⟨(some 16), .mv (.tmp 5), none⟩ ::
⟨(some 17), .mv (.tmp 0), none⟩ ::
⟨(some 18), .mv (.tmp 5), none⟩ ::
⟨(some 19), .slcS (.tmp 17) (some (.tmp 18)) none, none⟩ ::
⟨(some 20), .callF 25 [(.tmp 19), (.func 31)], none⟩ ::
⟨(some 21), .bin .add (.tmp 16) (.tmp 20), none⟩ ::
⟨(some 6), .mv (.tmp 21), none⟩ ::
[]))
(.seq
(.seq
(.plain (
⟨(some 22), .mv (.tmp 0), none⟩ ::
⟨(some 23), .mv (.tmp 6), none⟩ ::
⟨(some 24), .slcS (.tmp 22) (some (.tmp 23)) none, none⟩ ::
⟨(some 25), .callF 24 [(.tmp 24)], none⟩ ::
⟨(some 7), .mv (.tmp 25), none⟩ ::
[]))
(.seq
(.plain (
⟨(some 26), .mv (.tmp 7), none⟩ ::
⟨(some 27), .bin .eql (.tmp 26) (.const (.int .i32 45)), none⟩ ::
⟨(some 28), .mv (.tmp 27), none⟩ ::
⟨(some 29), .mv (.tmp 7), (some (28, false))⟩ ::
⟨(some 30), .callF 29 [(.tmp 29)], (some (28, false))⟩ ::
⟨(some 31), .pick (.tmp 28) (.const (.bool true)) (.tmp 30), none⟩ ::
[]))
(.cond (.tmp 31)
(.seq
(.plain (
⟨(some 32), .bld [(.v (.int .u8 0)), (.v (.string ⟨#[]⟩)), (.v (.int .i64 0)), (.v (.int .i64 0))] [], none⟩ ::
⟨none, .store 4 (.tmp 2) (.tmp 32), none⟩ ::
⟨(some 3), .mv (.const (.int .i64 0)), none⟩ ::
⟨(some 4), .mv (.const (.int .i64 2)), none⟩ ::
[]))
.ret)
.skip)))
(.seq
(.plain (
⟨(some 34), .mv (.tmp 0), none⟩ ::
⟨(some 35), .mv (.tmp 6), none⟩ ::
⟨(some 36), .slcS (.tmp 34) none (some (.tmp 35)), none⟩ ::
⟨(some 37), .callF 41 [(.tmp 36), (.const (.int .i64 10)), (.const (.int .i64 64))], none⟩ ::
⟨(some 33), .mv (.tmp 37), none⟩ ::
⟨(some 38), .ext (.tmp 33) 0, none⟩ ::
⟨(some 39), .ext (.tmp 33) 1, none⟩ ::
⟨(some 8), .mv (.tmp 38), none⟩ ::
⟨(some 9), .mv (.tmp 39), none⟩ ::
[]))
(.seq
(.seq
(.plain (
⟨(some 40), .mv (.tmp 9), none⟩ ::
⟨(some 41), .eqi true (.tmp 40), none⟩ ::
[]))
(.cond (.tmp 41)
(.seq
(.plain (
⟨(some 42), .bld [(.v (.int .u8 0)), (.v (.string ⟨#[]⟩)), (.v (.int .i64 0)), (.v (.int .i64 0))] [], none⟩ ::
⟨none, .store 4 (.tmp 2) (.tmp 42), none⟩ ::
⟨(some 3), .mv (.const (.int .i64 0)), none⟩ ::
⟨(some 4), .mv (.const (.int .i64 7)), none⟩ ::
[]))
.ret)
.skip))
(.seq
(.plain (
⟨(some 43), .mv (.tmp 8), none⟩ ::
⟨(some 44), .callF 42 [(.tmp 43), (.const (.int .i64 10))], none⟩ ::
⟨(some 45), .mv (.tmp 8), none⟩ ::
⟨(some 46), .bld [(.v (.int .u8 0)), (.v (.string ⟨#[]⟩)), (.v (.int .i64 0)), (.v (.int .i64 0))] [(0, 1, (.const (.int .u8 2))), (1, 1, (.tmp 44)), (2, 1, (.tmp 45))], none⟩ ::
⟨(some 47), .mv (.tmp 6), none⟩ ::
⟨none, .store 4 (.tmp 2) (.tmp 46), none⟩ ::
⟨(some 3), .mv (.tmp 47), none⟩ ::
⟨(some 4), .mv (.const (.int .i64 0)), none⟩ ::
[]))
.ret)))))))
theorem prep32 : prepFunc Tryd.prog 0 32 = some F32 := by kernel_rfl

-- (*strings.Builder).copyCheck
def F33 : AFunc where
  ntmps := 20
  nparams := 1
  results := []
  code :=
(.seq
(.plain (
⟨(some 2), .mv (.tmp 0), none⟩ ::
⟨(some 3), .nilc (.tmp 2), none⟩ ::
⟨(some 4), .fa 0 (.tmp 3), none⟩ ::
⟨(some 5), .load false 1 (.tmp 4), none⟩ ::
⟨(some 6), .eqp false (.tmp 5) (.const (.pointer none)), none⟩ ::
[]))
(.cond (.tmp 6)
(.plain (
⟨(some 7), .mv (.tmp 0), none⟩ ::
⟨(some 8), .mv (.tmp 0), none⟩ ::
⟨(some 9), .toU (.tmp 8), none⟩ ::
⟨(some 10), .mv (.tmp 9), none⟩ ::
⟨(some 11), .frU 42 2 (.tmp 10), none⟩ ::
⟨(some 12), .nilc (.tmp 7), none⟩ ::
⟨(some 13), .fa 0 (.tmp 12), none⟩ ::
⟨none, .storeX 1 (.tmp 13) (.tmp 11), none⟩ ::
[]))
(.seq
(.plain (
⟨(some 14), .mv (.tmp 0), none⟩ ::
⟨(some 15), .nilc (.tmp 14), none⟩ ::
⟨(some 16), .fa 0 (.tmp 15), none⟩ ::
⟨(some 17), .load false 1 (.tmp 16), none⟩ ::
⟨(some 18), .mv (.tmp 0), none⟩ ::
⟨(some 19), .eqpp true (.tmp 17) (.tmp 18), none⟩ ::
[]))
(.cond (.tmp 19)
.refuse
.skip))))
theorem prep33 : prepFunc Tryd.prog 2 33 = some F33 := by kernel_rfl

-- strings.IndexFunc
def F34 : AFunc where
  ntmps := 8
  nparams := 2
  results := [(4, none)]
  code :=
(.seq
(.plain (
⟨(some 4), .mv (.const (.int .i64 0)), none⟩ ::
[]))
(.seq
(.plain (
⟨(some 5), .mv (.tmp 0), none⟩ ::
⟨(some 6), .mv (.tmp 1), none⟩ ::
⟨(some 7), .callF 44 [(.tmp 5), (.tmp 6), (.const (.bool true))], none⟩ ::
⟨(some 4), .mv (.tmp 7), none⟩ ::
[]))
.ret))
theorem prep34 : prepFunc Tryd.prog 0 34 = some F34 := by kernel_rfl

-- indenture/lex.far$1
def F35 : AFunc where
  ntmps := 8
  nparams := 1
  results := [(3, none)]
  code :=
(.seq
(.plain (
⟨(some 3), .mv (.const (.bool false)), none⟩ ::
[]))
(.seq
(.plain (
⟨(some 4), .load false 1 (.tmp 1), none⟩ ::
⟨(some 5), .mv (.tmp 0), none⟩ ::
⟨(some 6), .callV (.tmp 4) [(.tmp 5)], none⟩ ::
⟨(some 7), .un .not (.tmp 6), none⟩ ::
⟨(some 3), .mv (.tmp 7), none⟩ ::
[]))
.ret))
theorem prep35 : prepFunc Tryd.prog 0 35 = some F35 := by kernel_rfl

-- internal/stringslite.HasPrefix
def F36 : AFunc where
  ntmps := 18
  nparams := 2
  results := [(4, none)]
  code :=
(.seq
(.plain (
⟨(some 4), .mv (.const (.bool false)), none⟩ ::
[]))
(.seq
(.plain (
⟨(some 5), .mv (.tmp 0), none⟩ ::
⟨(some 6), .lenT (.tmp 5), none⟩ ::
⟨(some 7), .mv (.tmp 1), none⟩ ::
⟨(some 8), .lenT (.tmp 7), none⟩ ::
⟨(some 9), .bin .geq (.tmp 6) (.tmp 8), none⟩ ::
⟨(some 10), .mv (.tmp 9), none⟩ ::
⟨(some 11), .mv (.tmp 0), (some (10, true))⟩ ::
⟨(some 12), .mv (.tmp 1), (some (10, true))⟩ ::
⟨(some 13), .lenT (.tmp 12), (some (10, true))⟩ ::
⟨(some 14), .slcS (.tmp 11) none (some (.tmp 13)), (some (10, true))⟩ ::
⟨(some 15), .mv (.tmp 1), (some (10, true))⟩ ::
⟨(some 16), .bin .eql (.tmp 14) (.tmp 15), (some (10, true))⟩ ::
⟨(some 17), .pick (.tmp 10) (.tmp 16) (.const (.bool false)), none⟩ ::
⟨(some 4), .mv (.tmp 17), none⟩ ::
[]))
.ret))
theorem prep36 : prepFunc Tryd.prog 0 36 = some F36 := by kernel_rfl

-- strings.Map
def F38 : AFunc where
  ntmps := 85
  nparams := 2
  results := [(4, none)]
  code :=
(.seq
(.plain (
⟨(some 4), .mv (.const (.string ⟨#[]⟩)), none⟩ ::
[]))
(.seq
(.plain (
⟨(some 5), .alloc 42 [(.v (.pointer none)), (.sl [] .nil)], none⟩ ::
[]))
(.seq
(.seq
(.plain (
⟨(some 13), .mv (.tmp 1), none⟩ ::
⟨(some 14), .rngS (.tmp 13), none⟩ ::
[]))
(.block 0
(.loop
(.seq
(.plain (
⟨(some 15), .nxtS (.tmp 14), none⟩ ::
⟨(some 16), .ext (.tmp 15) 0, none⟩ ::
[]))
(.seq
(.cond (.tmp 16)
.skip
(.exit 0))
(.block 1
(.seq
(.plain (
⟨(some 17), .ext (.tmp 15) 1, none⟩ ::
⟨(some 18), .ext (.tmp 15) 2, none⟩ ::
⟨(some 6), .mv (.tmp 17), none⟩ ::
⟨(some 7), .mv (.tmp 18), none⟩ ::
[]))
(.seq
(.plain (
⟨(some 19), .mv (.tmp 0), none⟩ ::
⟨(some 20), .mv (.tmp 7), none⟩ ::
⟨(some 21), .callV (.tmp 19) [(.tmp 20)], none⟩ ::
⟨(some 8), .mv (.tmp 21), none⟩ ::
[]))
(.seq
(.seq
(.plain (
⟨(some 22), .mv (.tmp 8), none⟩ ::
⟨(some 23), .mv (.tmp 7), none⟩ ::
⟨(some 24), .bin .eql (.tmp 22) (.tmp 23), none⟩ ::
⟨(some 25), .mv (.tmp 24), none⟩ ::
⟨(some 26), .mv (.tmp 7), (some (25, true))⟩ ::
⟨(some 27), .bin .neq (.tmp 26) (.const (.int .i32 65533)), (some (25, true))⟩ ::
⟨(some 28), .pick (.tmp 25) (.tmp 27) (.const (.bool false)), none⟩ ::
[]))
(.cond (.tmp 28)
(.exit 1)
.skip))
(.seq
(.plain (
⟨(some 9), .mv (.const (.int .i64 0)), none⟩ ::
[]))
(.seq
(.seq
(.plain (
⟨(some 29), .mv (.tmp 7), none⟩ ::
⟨(some 30), .bin .eql (.tmp 29) (.const (.int .i32 65533)), none⟩ ::
[]))
(.cond (.tmp 30)
(.seq
(.plain (
⟨(some 32), .mv (.tmp 1), none⟩ ::
⟨(some 33), .mv (.tmp 6), none⟩ ::
⟨(some 34), .slcS (.tmp 32) (some (.tmp 33)) none, none⟩ ::
⟨(some 35), .callF 46 [(.tmp 34)], none⟩ ::
⟨(some 31), .mv (.tmp 35), none⟩ ::
⟨(some 36), .ext (.tmp 31) 0, none⟩ ::
⟨(some 37), .ext (.tmp 31) 1, none⟩ ::
⟨(some 7), .mv (.tmp 36), none⟩ ::
⟨(some 9), .mv (.tmp 37), none⟩ ::
[]))
(.seq
(.plain (
⟨(some 38), .mv (.tmp 9), none⟩ ::
⟨(some 39), .bin .neq (.tmp 38) (.const (.int .i64 1)), none⟩ ::
⟨(some 40), .mv (.tmp 39), none⟩ ::
⟨(some 41), .mv (.tmp 8), (some (40, true))⟩ ::
⟨(some 42), .mv (.tmp 7), (some (40, true))⟩ ::
⟨(some 43), .bin .eql (.tmp 41) (.tmp 42), (some (40, true))⟩ ::
⟨(some 44), .pick (.tmp 40) (.tmp 43) (.const (.bool false)), none⟩ ::
[]))
(.cond (.tmp 44)
(.exit 1)
.skip)))
(.plain (
⟨(some 45), .mv (.tmp 7), none⟩ ::
⟨(some 46), .callF 47 [(.tmp 45)], none⟩ ::
⟨(some 9), .mv (.tmp 46), none⟩ ::
[]))))
(.seq
(.plain (
⟨(some 47), .mv (.tmp 1), none⟩ ::
⟨(some 48), .lenT (.tmp 47), none⟩ ::
⟨(some 49), .bin .add (.tmp 48) (.const (.int .i64 4)), none⟩ ::
⟨(some 50), .callF 37 [(.tmp 5), (.tmp 49)], none⟩ ::
[]))
(.seq
(.plain (
⟨(some 51), .mv (.tmp 1), none⟩ ::
⟨(some 52), .mv (.tmp 6), none⟩ ::
⟨(some 53), .slcS (.tmp 51) none (some (.tmp 52)), none⟩ ::
⟨(some 54), .callF 16 [(.tmp 5), (.tmp 53)], none⟩ ::
[]))
(.seq
(.seq
(.plain (
⟨(some 55), .mv (.tmp 8), none⟩ ::
⟨(some 56), .bin .geq (.tmp 55) (.const (.int .i32 0)), none⟩ ::
[]))
(.cond (.tmp 56)
(.plain (
⟨(some 57), .mv (.tmp 8), none⟩ ::
⟨(some 58), .callF 48 [(.tmp 5), (.tmp 57)], none⟩ ::
[]))
.skip))
(.seq
(.plain (
⟨(some 59), .mv (.tmp 1), none⟩ ::
⟨(some 60), .mv (.tmp 6), none⟩ ::
⟨(some 61), .mv (.tmp 9), none⟩ ::
⟨(some 62), .bin .add (.tmp 60) (.tmp 61), none⟩ ::
⟨(some 63), .slcS (.tmp 59) (some (.tmp 62)) none, none⟩ ::
⟨(some 1), .mv (.tmp 63), none⟩ ::
[]))
(.exit 0))))))))))))))))
(.seq
(.seq
(.plain (
⟨(some 64), .callF 49 [(.tmp 5)], none⟩ ::
⟨(some 65), .bin .eql (.tmp 64) (.const (.int .i64 0)), none⟩ ::
[]))
(.cond (.tmp 65)
(.seq
(.plain (
⟨(some 66), .mv (.tmp 1), none⟩ ::
⟨(some 4), .mv (.tmp 66), none⟩ ::
[]))
.ret)
.skip))
(.seq
(.seq
(.plain (
⟨(some 67), .mv (.tmp 1), none⟩ ::
⟨(some 68), .rngS (.tmp 67), none⟩ ::
[]))
(.block 2
(.loop
(.seq
(.plain (
⟨(some 69), .nxtS (.tmp 68), none⟩ ::
⟨(some 70), .ext (.tmp 69) 0, none⟩ ::
[]))
(.seq
(.cond (.tmp 70)
.skip
(.exit 2))
(.block 3
(.seq
(.plain (
⟨(some 71), .ext (.tmp 69) 2, none⟩ ::
⟨(some 11), .mv (.tmp 71), none⟩ ::
[]))
(.seq
(.plain (
⟨(some 72), .mv (.tmp 0), none⟩ ::
⟨(some 73), .mv (.tmp 11), none⟩ ::
⟨(some 74), .callV (.tmp 72) [(.tmp 73)], none⟩ ::
⟨(some 12), .mv (.tmp 74), none⟩ ::
[]))
(.seq
(.plain (
⟨(some 75), .mv (.tmp 12), none⟩ ::
⟨(some 76), .bin .geq (.tmp 75) (.const (.int .i32 0)), none⟩ ::
[]))
(.cond (.tmp 76)
(.seq
(.plain (
⟨(some 77), .mv (.tmp 12), none⟩ ::
⟨(some 78), .bin .lss (.tmp 77) (.const (.int .i32 128)), none⟩ ::
[]))
(.cond (.tmp 78)
(.plain (
⟨(some 79), .mv (.tmp 12), none⟩ ::
⟨(some 80), .cvt .u8 (.tmp 79), none⟩ ::
⟨(some 81), .callF 15 [(.tmp 5), (.tmp 80)], none⟩ ::
[]))
(.plain (
⟨(some 82), .mv (.tmp 12), none⟩ ::
⟨(some 83), .callF 48 [(.tmp 5), (.tmp 82)], none⟩ ::
[]))))
.skip))))))))))
(.seq
(.plain (
⟨(some 84), .callF 17 [(.tmp 5)], none⟩ ::
⟨(some 4), .mv (.tmp 84), none⟩ ::
[]))
.ret))))))
theorem prep38 : prepFunc Tryd.prog 0 38 = some F38 := by kernel_rfl

-- unicode.ToLower
def F39 : AFunc where
  ntmps := 16
  nparams := 1
  results := [(2, none)]
  code :=
(.seq
(.plain (
⟨(some 2), .mv (.const (.int .i32 0)), none⟩ ::
[]))
(.seq
(.seq
(.plain (
⟨(some 3), .mv (.tmp 0), none⟩ ::
⟨(some 4), .bin .leq (.tmp 3) (.const (.int .i32 127)), none⟩ ::
[]))
(.cond (.tmp 4)
(.seq
(.seq
(.plain (
⟨(some 5), .mv (.tmp 0), none⟩ ::
⟨(some 6), .bin .leq (.const (.int .i32 65)) (.tmp 5), none⟩ ::
⟨(some 7), .mv (.tmp 6), none⟩ ::
⟨(some 8), .mv (.tmp 0), (some (7, true))⟩ ::
⟨(some 9), .bin .leq (.tmp 8) (.const (.int .i32 90)), (some (7, true))⟩ ::
⟨(some 10), .pick (.tmp 7) (.tmp 9) (.const (.bool false)), none⟩ ::
[]))
(.cond (.tmp 10)
(.plain (
⟨(some 11), .mv (.tmp 0), none⟩ ::
⟨(some 12), .bin .add (.tmp 11) (.const (.int .i32 32)), none⟩ ::
⟨(some 0), .mv (.tmp 12), none⟩ ::
[]))
.skip))
(.seq
(.plain (
⟨(some 13), .mv (.tmp 0), none⟩ ::
⟨(some 2), .mv (.tmp 13), none⟩ ::
[]))
.ret))
.skip))
(.seq
(.plain (
⟨(some 14), .mv (.tmp 0), none⟩ ::
⟨(some 15), .callF 50 [(.const (.int .i64 1)), (.tmp 14)], none⟩ ::
⟨(some 2), .mv (.tmp 15), none⟩ ::
[]))
.ret)))
theorem prep39 : prepFunc Tryd.prog 0 39 = some F39 := by kernel_rfl

-- strings.TrimPrefix
def F40 : AFunc where
  ntmps := 8
  nparams := 2
  results := [(4, none)]
  code :=
(.seq
(.plain (
⟨(some 4), .mv (.const (.string ⟨#[]⟩)), none⟩ ::
[]))
(.seq
(.plain (
⟨(some 5), .mv (.tmp 0), none⟩ ::
⟨(some 6), .mv (.tmp 1), none⟩ ::
⟨(some 7), .callF 51 [(.tmp 5), (.tmp 6)], none⟩ ::
⟨(some 4), .mv (.tmp 7), none⟩ ::
[]))
.ret))
theorem prep40 : prepFunc Tryd.prog 0 40 = some F40 := by kernel_rfl

-- strconv.ParseInt
def F41 : AFunc where
  ntmps := 25
  nparams := 3
  results := [(6, none), (7, none)]
  code :=
(.seq
(.plain (
⟨(some 6), .mv (.const (.int .i64 0)), none⟩ ::
⟨(some 7), .mv (.const .nilIface), none⟩ ::
[]))
(.seq
(.plain (
⟨(some 10), .mv (.tmp 0), none⟩ ::
⟨(some 11), .mv (.tmp 1), none⟩ ::
⟨(some 12), .mv (.tmp 2), none⟩ ::
⟨(some 13), .callF 52 [(.tmp 10), (.tmp 11), (.tmp 12)], none⟩ ::
⟨(some 9), .mv (.tmp 13), none⟩ ::
⟨(some 14), .ext (.tmp 9) 0, none⟩ ::
⟨(some 15), .ext (.tmp 9) 1, none⟩ ::
⟨(some 8), .mv (.tmp 14), none⟩ ::
⟨(some 7), .mv (.tmp 15), none⟩ ::
[]))
(.seq
(.seq
(.plain (
⟨(some 16), .mv (.tmp 7), none⟩ ::
⟨(some 17), .eqi true (.tmp 16), none⟩ ::
[]))
(.cond (.tmp 17)
(.seq
(.plain (
⟨(some 18), .mv (.tmp 8), none⟩ ::
⟨(some 19), .mv (.tmp 0), none⟩ ::
⟨(some 20), .mv (.tmp 1), none⟩ ::
⟨(some 21), .mv (.tmp 2), none⟩ ::
⟨(some 22), .mv (.tmp 7), none⟩ ::
⟨(some 23), .callF 53 [(.const (.string ⟨#[80, 97, 114, 115, 101, 73, 110, 116]⟩)), (.tmp 19), (.tmp 20), (.tmp 21), (.tmp 22)], none⟩ ::
⟨(some 6), .mv (.tmp 18), none⟩ ::
⟨(some 7), .mv (.tmp 23), none⟩ ::
[]))
.ret)
.skip))
(.seq
(.plain (
⟨(some 24), .mv (.tmp 8), none⟩ ::
⟨(some 6), .mv (.tmp 24), none⟩ ::
⟨(some 7), .mv (.const .nilIface), none⟩ ::
[]))
.ret))))
theorem prep41 : prepFunc Tryd.prog 0 41 = some F41 := by kernel_rfl

-- strconv.FormatInt
def F42 : AFunc where
  ntmps := 8
  nparams := 2
  results := [(4, none)]
  code :=
(.seq
(.plain (
⟨(some 4), .mv (.const (.string ⟨#[]⟩)), none⟩ ::
[]))
(.seq
(.plain (
⟨(some 5), .mv (.tmp 0), none⟩ ::
⟨(some 6), .mv (.tmp 1), none⟩ ::
⟨(some 7), .callF 54 [(.tmp 5), (.tmp 6)], none⟩ ::
⟨(some 4), .mv (.tmp 7), none⟩ ::
[]))
.ret))
theorem prep42 : prepFunc Tryd.prog 0 42 = some F42 := by kernel_rfl

-- strings.indexFunc
def F44 : AFunc where
  ntmps := 21
  nparams := 3
  results := [(6, none)]
  code :=
(.seq
(.plain (
⟨(some 6), .mv (.const (.int .i64 0)), none⟩ ::
[]))
(.seq
(.seq
(.plain (
⟨(some 9), .mv (.tmp 0), none⟩ ::
⟨(some 10), .rngS (.tmp 9), none⟩ ::
[]))
(.block 0
(.loop
(.seq
(.plain (
⟨(some 11), .nxtS (.tmp 10), none⟩ ::
⟨(some 12), .ext (.tmp 11) 0, none⟩ ::
[]))
(.seq
(.cond (.tmp 12)
.skip
(.exit 0))
(.block 1
(.seq
(.plain (
⟨(some 13), .ext (.tmp 11) 1, none⟩ ::
⟨(some 14), .ext (.tmp 11) 2, none⟩ ::
⟨(some 7), .mv (.tmp 13), none⟩ ::
⟨(some 8), .mv (.tmp 14), none⟩ ::
[]))
(.seq
(.plain (
⟨(some 15), .mv (.tmp 1), none⟩ ::
⟨(some 16), .mv (.tmp 8), none⟩ ::
⟨(some 17), .callV (.tmp 15) [(.tmp 16)], none⟩ ::
⟨(some 18), .mv (.tmp 2), none⟩ ::
⟨(some 19), .eqb false (.tmp 17) (.tmp 18), none⟩ ::
[]))
(.cond (.tmp 19)
(.seq
(.plain (
⟨(some 20), .mv (.tmp 7), none⟩ ::
⟨(some 6), .mv (.tmp 20), none⟩ ::
[]))
.ret)
.skip)))))))))
(.seq
(.plain (
⟨(some 6), .mv (.const (.int .i64 (-1))), none⟩ ::
[]))
.ret)))
theorem prep44 : prepFunc Tryd.prog 0 44 = some F44 := by kernel_rfl

-- unicode/utf8.DecodeRuneInString
def F46 : AFunc where
  ntmps := 19
  nparams := 1
  results := [(2, none), (3, none)]
  code :=
(.seq
(.plain (
⟨(some 2), .mv (.const (.int .i32 0)), none⟩ ::
⟨(some 3), .mv (.const (.int .i64 0)), none⟩ ::
[]))
(.seq
(.seq
(.plain (
⟨(some 4), .mv (.tmp 0), none⟩ ::
⟨(some 5), .bin .neq (.tmp 4) (.const (.string ⟨#[]⟩)), none⟩ ::
⟨(some 6), .mv (.tmp 5), none⟩ ::
⟨(some 7), .mv (.tmp 0), (some (6, true))⟩ ::
⟨(some 8), .idxS (.tmp 7) (.const (.int .i64 0)), (some (6, true))⟩ ::
⟨(some 9), .bin .lss (.tmp 8) (.const (.int .u8 128)), (some (6, true))⟩ ::
⟨(some 10), .pick (.tmp 6) (.tmp 9) (.const (.bool false)), none⟩ ::
[]))
(.cond (.tmp 10)
(.seq
(.plain (
⟨(some 11), .mv (.tmp 0), none⟩ ::
⟨(some 12), .idxS (.tmp 11) (.const (.int .i64 0)), none⟩ ::
⟨(some 13), .cvt .i32 (.tmp 12), none⟩ ::
⟨(some 2), .mv (.tmp 13), none⟩ ::
⟨(some 3), .mv (.const (.int .i64 1)), none⟩ ::
[]))
.ret)
(.plain (
⟨(some 15), .mv (.tmp 0), none⟩ ::
⟨(some 16), .callF 56 [(.tmp 15)], none⟩ ::
⟨(some 14), .mv (.tmp 16), none⟩ ::
⟨(some 17), .ext (.tmp 14) 0, none⟩ ::
⟨(some 18), .ext (.tmp 14) 1, none⟩ ::
⟨(some 2), .mv (.tmp 17), none⟩ ::
⟨(some 3), .mv (.tmp 18), none⟩ ::
[]))))
.ret))
theorem prep46 : prepFunc Tryd.prog 0 46 = some F46 := by kernel_rfl

-- unicode/utf8.RuneLen
def F47 : AFunc where
  ntmps := 25
  nparams := 1
  results := [(2, none)]
  code :=
(.seq
(.plain (
⟨(some 2), .mv (.const (.int .i64 0)), none⟩ ::
[]))
(.seq
(.block 0
(.seq
(.plain (
⟨(some 4), .mv (.tmp 0), none⟩ ::
⟨(some 5), .bin .lss (.tmp 4) (.const (.int .i32 0)), none⟩ ::
⟨(some 3), .mv (.tmp 5), none⟩ ::
[]))
(.cond (.tmp 3)
(.seq
(.plain (
⟨(some 2), .mv (.const (.int .i64 (-1))), none⟩ ::
[]))
.ret)
(.seq
(.plain (
⟨(some 7), .mv (.tmp 0), none⟩ ::
⟨(some 8), .bin .leq (.tmp 7) (.const (.int .i32 127)), none⟩ ::
⟨(some 6), .mv (.tmp 8), none⟩ ::
[]))
(.cond (.tmp 6)
(.seq
(.plain (
⟨(some 2), .mv (.const (.int .i64 1)), none⟩ ::
[]))
.ret)
(.seq
(.plain (
⟨(some 10), .mv (.tmp 0), none⟩ ::
⟨(some 11), .bin .leq (.tmp 10) (.const (.int .i32 2047)), none⟩ ::
⟨(some 9), .mv (.tmp 11), none⟩ ::
[]))
(.cond (.tmp 9)
(.seq
(.plain (
⟨(some 2), .mv (.const (.int .i64 2)), none⟩ ::
[]))
.ret)
(.seq
(.plain (
⟨(some 13), .mv (.tmp 0), none⟩ ::
⟨(some 14), .bin .leq (.const (.int .i32 55296)) (.tmp 13), none⟩ ::
⟨(some 15), .mv (.tmp 14), none⟩ ::
⟨(some 16), .mv (.tmp 0), (some (15, true))⟩ ::
⟨(some 17), .bin .leq (.tmp 16) (.const (.int .i32 57343)), (some (15, true))⟩ ::
⟨(some 18), .pick (.tmp 15) (.tmp 17) (.const (.bool false)), none⟩ ::
⟨(some 12), .mv (.tmp 18), none⟩ ::
[]))
(.cond (.tmp 12)
(.seq
(.plain (
⟨(some 2), .mv (.const (.int .i64 (-1))), none⟩ ::
[]))
.ret)
(.seq
(.plain (
⟨(some 20), .mv (.tmp 0), none⟩ ::
⟨(some 21), .bin .leq (.tmp 20) (.const (.int .i32 65535)), none⟩ ::
⟨(some 19), .mv (.tmp 21), none⟩ ::
[]))
(.cond (.tmp 19)
(.seq
(.plain (
⟨(some 2), .mv (.const (.int .i64 3)), none⟩ ::
[]))
.ret)
(.seq
(.plain (
⟨(some 23), .mv (.tmp 0), none⟩ ::
⟨(some 24), .bin .leq (.tmp 23) (.const (.int .i32 1114111)), none⟩ ::
⟨(some 22), .mv (.tmp 24), none⟩ ::
[]))
(.cond (.tmp 22)
(.seq
(.plain (
⟨(some 2), .mv (.const (.int .i64 4)), none⟩ ::
[]))
.ret)
.skip)))))))))))))
(.seq
(.plain (
⟨(some 2), .mv (.const (.int .i64 (-1))), none⟩ ::
[]))
.ret)))
theorem prep47 : prepFunc Tryd.prog 0 47 = some F47 := by kernel_rfl

-- (*strings.Builder).WriteRune
def F48 : AFunc where
  ntmps := 30
  nparams := 2
  results := [(4, none), (5, none)]
  code :=
(.seq
(.plain (
⟨(some 4), .mv (.const (.int .i64 0)), none⟩ ::
⟨(some 5), .mv (.const .nilIface), none⟩ ::
[]))
(.seq
(.plain (
⟨(some 7), .mv (.tmp 0), none⟩ ::
⟨(some 8), .callF 33 [(.tmp 7)], none⟩ ::
[]))
(.seq
(.plain (
⟨(some 9), .mv (.tmp 0), none⟩ ::
⟨(some 10), .nilc (.tmp 9), none⟩ ::
⟨(some 11), .fa 1 (.tmp 10), none⟩ ::
⟨(some 12), .load false 1 (.tmp 11), none⟩ ::
⟨(some 13), .len (.tmp 12), none⟩ ::
⟨(some 6), .mv (.tmp 13), none⟩ ::
[]))
(.seq
(.plain (
⟨(some 14), .mv (.tmp 0), none⟩ ::
⟨(some 15), .mv (.tmp 0), none⟩ ::
⟨(some 16), .nilc (.tmp 15), none⟩ ::
⟨(some 17), .fa 1 (.tmp 16), none⟩ ::
⟨(some 18), .load false 1 (.tmp 17), none⟩ ::
⟨(some 19), .mv (.tmp 1), none⟩ ::
⟨(some 20), .callF 57 [(.tmp 18), (.tmp 19)], none⟩ ::
⟨(some 21), .nilc (.tmp 14), none⟩ ::
⟨(some 22), .fa 1 (.tmp 21), none⟩ ::
⟨none, .storeX 1 (.tmp 22) (.tmp 20), none⟩ ::
[]))
(.seq
(.plain (
⟨(some 23), .mv (.tmp 0), none⟩ ::
⟨(some 24), .nilc (.tmp 23), none⟩ ::
⟨(some 25), .fa 1 (.tmp 24), none⟩ ::
⟨(some 26), .load false 1 (.tmp 25), none⟩ ::
⟨(some 27), .len (.tmp 26), none⟩ ::
⟨(some 28), .mv (.tmp 6), none⟩ ::
⟨(some 29), .bin .sub (.tmp 27) (.tmp 28), none⟩ ::
⟨(some 4), .mv (.tmp 29), none⟩ ::
⟨(some 5), .mv (.const .nilIface), none⟩ ::
[]))
.ret)))))
theorem prep48 : prepFunc Tryd.prog 2 48 = some F48 := by kernel_rfl

-- unicode.To
def F50 : AFunc where
  ntmps := 13
  nparams := 2
  results := [(4, none)]
  code :=
(.seq
(.plain (
⟨(some 4), .mv (.const (.int .i32 0)), none⟩ ::
[]))
(.seq
(.plain (
⟨(some 6), .mv (.tmp 0), none⟩ ::
⟨(some 7), .mv (.tmp 1), none⟩ ::
⟨(some 8), .load false 1 (.global 0), none⟩ ::
⟨(some 9), .callF 58 [(.tmp 6), (.tmp 7), (.tmp 8)], none⟩ ::
⟨(some 5), .mv (.tmp 9), none⟩ ::
⟨(some 10), .ext (.tmp 5) 0, none⟩ ::
⟨(some 11), .ext (.tmp 5) 1, none⟩ ::
⟨(some 1), .mv (.tmp 10), none⟩ ::
[]))
(.seq
(.plain (
⟨(some 12), .mv (.tmp 1), none⟩ ::
⟨(some 4), .mv (.tmp 12), none⟩ ::
[]))
.ret)))
theorem prep50 : prepFunc Tryd.prog 0 50 = some F50 := by kernel_rfl

-- internal/stringslite.TrimPrefix
def F51 : AFunc where
  ntmps := 13
  nparams := 2
  results := [(4, none)]
  code :=
(.seq
(.plain (
⟨(some 4), .mv (.const (.string ⟨#[]⟩)), none⟩ ::
[]))
(.seq
(.seq
(.plain (
⟨(some 5), .mv (.tmp 0), none⟩ ::
⟨(some 6), .mv (.tmp 1), none⟩ ::
⟨(some 7), .callF 36 [(.tmp 5), (.tmp 6)], none⟩ ::
[]))
(.cond (.tmp 7)
(.seq
(.plain (
⟨(some 8), .mv (.tmp 0), none⟩ ::
⟨(some 9), .mv (.tmp 1), none⟩ ::
⟨(some 10), .lenT (.tmp 9), none⟩ ::
⟨(some 11), .slcS (.tmp 8) (some (.tmp 10)) none, none⟩ ::
⟨(some 4), .mv (.tmp 11), none⟩ ::
[]))
.ret)
.skip))
(.seq
(.plain (
⟨(some 12), .mv (.tmp 0), none⟩ ::
⟨(some 4), .mv (.tmp 12), none⟩ ::
[]))
.ret)))
theorem prep51 : prepFunc Tryd.prog 0 51 = some F51 := by kernel_rfl

-- internal/strconv.FormatInt
def F54 : AFunc where
  ntmps := 54
  nparams := 2
  results := [(4, none)]
  code :=
(.seq
(.plain (
⟨(some 4), .mv (.const (.string ⟨#[]⟩)), none⟩ ::
[]))
(.seq
(.seq
(.plain (
⟨(some 10), .mv (.tmp 1), none⟩ ::
⟨(some 11), .bin .eql (.tmp 10) (.const (.int .i64 10)), none⟩ ::
[]))
(.cond (.tmp 11)
(.seq
(.seq
(.plain (
⟨(some 12), .mv (.tmp 0), none⟩ ::
⟨(some 13), .bin .leq (.const (.int .i64 0)) (.tmp 12), none⟩ ::
⟨(some 14), .mv (.tmp 13), none⟩ ::
⟨(some 15), .mv (.tmp 0), (some (14, true))⟩ ::
⟨(some 16), .bin .lss (.tmp 15) (.const (.int .i64 100)), (some (14, true))⟩ ::
⟨(some 17), .pick (.tmp 14) (.tmp 16) (.const (.bool false)), none⟩ ::
[]))
(.cond (.tmp 17)
(.seq
(.plain (
⟨(some 18), .mv (.tmp 0), none⟩ ::
⟨(some 19), .callF 64 [(.tmp 18)], none⟩ ::
⟨(some 4), .mv (.tmp 19), none⟩ ::
[]))
.ret)
.skip))
(.seq
(.plain (
⟨(some 5), .alloc 89 (List.replicate 24 (.v (.int .u8 0))), none⟩ ::
[]))
(.seq
(.plain (
⟨(some 20), .mv (.tmp 0), none⟩ ::
⟨(some 21), .cvt .u64 (.tmp 20), none⟩ ::
⟨(some 6), .mv (.tmp 21), none⟩ ::
[]))
(.seq
(.seq
(.plain (
⟨(some 22), .mv (.tmp 0), none⟩ ::
⟨(some 23), .bin .lss (.tmp 22) (.const (.int .i64 0)), none⟩ ::
[]))
(.cond (.tmp 23)
(.plain (
⟨(some 24), .mv (.tmp 6), none⟩ ::
⟨(some 25), .un .neg (.tmp 24), none⟩ ::
⟨(some 6), .mv (.tmp 25), none⟩ ::
[]))
.skip))
(.seq
(.plain (
⟨(some 26), .mv (.tmp 6), none⟩ ::
⟨(some 27), .callF 65 [(.tmp 26)], none⟩ ::
⟨(some 7), .mv (.tmp 27), none⟩ ::
[]))
(.seq
(.plain (
⟨(some 28), .mv (.tmp 7), none⟩ ::
⟨(some 29), .bin .add (.const (.int .i64 1)) (.tmp 28), none⟩ ::
⟨(some 30), .slcA 1 24 (.tmp 5) (some (.const (.int .i64 1))) (some (.tmp 29)) true, none⟩ ::
⟨(some 31), .mv (.tmp 6), none⟩ ::
⟨(some 32), .callF 66 [(.tmp 30), (.tmp 31)], none⟩ ::
[]))
(.seq
(.seq
(.plain (
⟨(some 33), .mv (.tmp 0), none⟩ ::
⟨(some 34), .bin .lss (.tmp 33) (.const (.int .i64 0)), none⟩ ::
[]))
(.cond (.tmp 34)
(.seq
(.plain (
⟨(some 35), .iaA 1 24 (.tmp 5) (.const (.int .i64 0)), none⟩ ::
⟨none, .store 1 (.tmp 35) (.const (.int .u8 45)), none⟩ ::
[]))
(.seq
(.plain (
⟨(some 36), .mv (.tmp 7), none⟩ ::
⟨(some 37), .bin .add (.const (.int .i64 1)) (.tmp 36), none⟩ ::
⟨(some 38), .slcA 1 24 (.tmp 5) none (some (.tmp 37)) true, none⟩ ::
⟨(some 39), .b2s (.tmp 38), none⟩ ::
⟨(some 4), .mv (.tmp 39), none⟩ ::
[]))
.ret))
.skip))
(.seq
(.plain (
⟨(some 40), .mv (.tmp 7), none⟩ ::
⟨(some 41), .bin .add (.const (.int .i64 1)) (.tmp 40), none⟩ ::
⟨(some 42), .slcA 1 24 (.tmp 5) (some (.const (.int .i64 1))) (some (.tmp 41)) true, none⟩ ::
⟨(some 43), .b2s (.tmp 42), none⟩ ::
⟨(some 4), .mv (.tmp 43), none⟩ ::
[]))
.ret))))))))
.skip))
(.seq
(.plain (
⟨(some 45), .mv (.tmp 0), none⟩ ::
⟨(some 46), .cvt .u64 (.tmp 45), none⟩ ::
⟨(some 47), .mv (.tmp 1), none⟩ ::
⟨(some 48), .mv (.tmp 0), none⟩ ::
⟨(some 49), .bin .lss (.tmp 48) (.const (.int .i64 0)), none⟩ ::
⟨(some 50), .callF 67 [(.const (.slice none 0 0)), (.tmp 46), (.tmp 47), (.tmp 49), (.const (.bool false))], none⟩ ::
⟨(some 44), .mv (.tmp 50), none⟩ ::
⟨(some 51), .ext (.tmp 44) 0, none⟩ ::
⟨(some 52), .ext (.tmp 44) 1, none⟩ ::
⟨(some 8), .mv (.tmp 51), none⟩ ::
⟨(some 9), .mv (.tmp 52), none⟩ ::
[]))
(.seq
(.plain (
⟨(some 53), .mv (.tmp 9), none⟩ ::
⟨(some 4), .mv (.tmp 53), none⟩ ::
[]))
.ret))))
theorem prep54 : prepFunc Tryd.prog 0 54 = some F54 := by kernel_rfl

end Go.Proofs.YtpbicmjkjihhnaaDoor
/-
  Running abstract code by 'simp': equations that unfold one step, and the arithmetic of words.
-/
namespace Go.Av
open Go

/-! 'simp' does not look into an argument that another argument's type depends on: so continuations are put away -/
abbrev Dep.{u} {α : Sort u} (_ : α) : Type := Unit
def hid1 {α : Type} (C : α → Prop) (_ : Dep C) (a : α) : Prop := C a
def hid2 {α β : Type} (C : α → β → Prop) (_ : Dep C) (a : α) (b : β) : Prop := C a b
def hidP (p : Prop) (_ : Dep p) : Prop := p
theorem hid1_eq {α : Type} {C : α → Prop} {d : Dep C} {a : α} : hid1 C d a = C a := rfl
theorem hid2_eq {α β : Type} {C : α → β → Prop} {d : Dep C} {a : α} {b : β} : hid2 C d a b = C a b := rfl
theorem hidP_eq {p : Prop} {d : Dep p} : hidP p d = p := rfl

def newK (s : Hp) (C : Nat → Prop) : Prop := ∀ l, s l = none → C l
def andK (A B : Prop) : Prop := A ∧ B
theorem andK_ok {p B : Prop} {d : Dep B} (h : p) : andK p (hidP B d) = B := by simp [andK, hidP, h]
theorem andK_true {B : Prop} {d : Dep B} : andK True (hidP B d) = B := by simp [andK, hidP]

section
variable {P : Ctx} {K : Ex → Fr → Hp → Prop} {f : Fr} {s : Hp}

theorem awp_skip : awp P .skip K f s = K .norm f s := rfl
theorem awp_ret : awp P .ret K f s = K .ret f s := rfl
theorem awp_exit {i : Nat} : awp P (.exit i) K f s = K (.exit i) f s := rfl
theorem awp_seq {a b : ACode} : awp P (.seq a b) K f s = awp P a (seqK (awp P b K) K) f s := rfl
theorem awp_block {i : Nat} {a : ACode} : awp P (.block i a) K f s = awp P a (blockK i K) f s := rfl
theorem awp_plain {ops : List AOper} : awp P (.plain ops) K f s = runL P ops (K .norm) f s := rfl
theorem awp_draw {ops : List AOper} {l : List CO} : awp P (.draw ops l) K f s = can P (nth ops) (K .norm) l f s := rfl

def condK (c : AV) (A B : Prop) : Prop :=
  match c with
  | .v (.bool t) => (t = true → A) ∧ (t = false → B)
  | _ => False
theorem awp_cond {c : Operand} {a b : ACode} : awp P (.cond c a b) K f s = condK (ev f c) (hidP (awp P a K f s) ()) (hidP (awp P b K f s) ()) := rfl
theorem condK_true {A B : Prop} {d : Dep A} : condK (.v (.bool true)) (hidP A d) B = A := by simp [condK, hidP]
theorem condK_false {A B : Prop} {d : Dep B} : condK (.v (.bool false)) A (hidP B d) = B := by simp [condK, hidP]
theorem condK_bool {t : Bool} {A B : Prop} : condK (.v (.bool t)) A B = ((t = true → A) ∧ (t = false → B)) := rfl

theorem awp_loopK {a : ACode} : awp P (.loop a) K f s = hidP (awp P (.loop a) K f s) () := rfl
theorem awp_loop {a : ACode} (I : Fr → Hp → Prop) (m : Fr → Hp → Nat) (h0 : I f s) (h : ∀ f s, I f s → awp P a (seqK (fun f' s' => I f' s' ∧ m f' s' < m f s) K) f s) : awp P (.loop a) K f s := ⟨I, m, h0, h⟩

theorem seqK_norm {n : Fr → Hp → Prop} : seqK n K .norm f s = n f s := rfl
theorem seqK_ret {n : Fr → Hp → Prop} : seqK n K .ret f s = K .ret f s := rfl
theorem seqK_exit {n : Fr → Hp → Prop} {i : Nat} : seqK n K (.exit i) f s = K (.exit i) f s := rfl
theorem blockK_norm {i : Nat} : blockK i K .norm f s = K .norm f s := rfl
theorem blockK_ret {i : Nat} : blockK i K .ret f s = K .ret f s := rfl
theorem blockK_exit {i j : Nat} : blockK i K (.exit j) f s = (if j = i then K .norm f s else K (.exit j) f s) := by
  simp only [blockK]; split <;> rfl
theorem blockK_same {i : Nat} : blockK i K (.exit i) f s = K .norm f s := by simp [blockK]

theorem runL_nil {Kf : Fr → Hp → Prop} : runL P [] Kf f s = Kf f s := rfl
theorem runL_cons {Kf : Fr → Hp → Prop} {d : Option Nat} {op : AOp} {r : List AOper} : runL P (⟨d, op, none⟩ :: r) Kf f s = G P op f s (fun x s' => runL P r Kf (putF f d x) s') := rfl
def guardK (c : AV) (want : Bool) (A B : Prop) : Prop :=
  match c with
  | .v (.bool b) => if b = want then A else B
  | .tup [] => B
  | _ => False
theorem runL_guard {Kf : Fr → Hp → Prop} {d : Option Nat} {op : AOp} {g : Nat} {want : Bool} {r : List AOper} :
    runL P (⟨d, op, some (g, want)⟩ :: r) Kf f s = guardK (f g) want (hidP (G P op f s (fun x s' => runL P r Kf (putF f d x) s')) ()) (hidP (runL P r Kf (putF f d (.tup [])) s) ()) := rfl
theorem guardK_tt {A B : Prop} {d : Dep A} : guardK (.v (.bool true)) true (hidP A d) B = A := by simp [guardK, hidP]
theorem guardK_ff {A B : Prop} {d : Dep A} : guardK (.v (.bool false)) false (hidP A d) B = A := by simp [guardK, hidP]
theorem guardK_tf {A B : Prop} {d : Dep B} : guardK (.v (.bool true)) false A (hidP B d) = B := by simp [guardK, hidP]
theorem guardK_ft {A B : Prop} {d : Dep B} : guardK (.v (.bool false)) true A (hidP B d) = B := by simp [guardK, hidP]
theorem guardK_no {w : Bool} {A B : Prop} {d : Dep B} : guardK (.tup []) w A (hidP B d) = B := rfl
theorem guardK_bool {b w : Bool} {A B : Prop} : guardK (.v (.bool b)) w A B = ((b = w → A) ∧ (b = (!w) → B)) := by
  cases b <;> cases w <;> simp [guardK]

theorem can_nil {xs : Nat → AOper} {Kf : Fr → Hp → Prop} : can P xs Kf [] f s = Kf f s := rfl
def tK (x : AOper) (C : AOper → Prop) : Prop := C x
theorem tK_eq {d : Option Nat} {op : AOp} {g : Option (Nat × Bool)} {C : AOper → Prop} : tK ⟨d, op, g⟩ C = C ⟨d, op, g⟩ := rfl
theorem can_cons {xs : Nat → AOper} {Kf : Fr → Hp → Prop} {i : Nat} {r : List CO} : can P xs Kf (⟨i, [], []⟩ :: r) f s = tK (xs i) (hid1 (fun x => T P x (fun f' s' => can P xs Kf r f' s') f s) ()) := by
  simp only [can, List.not_mem_nil, false_implies, implies_true, true_and, tK, hid1]
theorem can_pre {xs : Nat → AOper} {Kf : Fr → Hp → Prop} {i j : Nat} {pre chk : List Nat} {r : List CO} : can P xs Kf (⟨i, j :: pre, chk⟩ :: r) f s = andK (tK (xs j) (hid1 (fun x => Def P x f) ())) (hidP (can P xs Kf (⟨i, pre, chk⟩ :: r) f s) ()) := by
  simp only [can, List.mem_cons, forall_eq_or_imp, andK, tK, hid1, hidP]; exact propext and_assoc
def chkT (P : Ctx) (x : AOper) (f : Fr) (s : Hp) : Prop :=
  match x.dst with
  | some d => E P x f s fun r _ => r = f d
  | none => True
def chkL (P : Ctx) (xs : Nat → AOper) (f : Fr) (s : Hp) : List Nat → Prop → Prop
  | [], A => A
  | j :: r, A => andK (tK (xs j) (hid1 (fun x => chkT P x f s) ())) (hidP (chkL P xs f s r A) ())
theorem chkL_nil {xs : Nat → AOper} {A : Prop} : chkL P xs f s [] A = A := rfl
theorem chkL_cons {xs : Nat → AOper} {j : Nat} {r : List Nat} {A : Prop} : chkL P xs f s (j :: r) A = andK (tK (xs j) (hid1 (fun x => chkT P x f s) ())) (hidP (chkL P xs f s r A) ()) := rfl
theorem chkL_eq {xs : Nat → AOper} {A : Prop} : ∀ l, chkL P xs f s l A = ((∀ j ∈ l, Chk P xs j f s) ∧ A)
  | [] => by simp [chkL]
  | j :: r => by simp only [chkL, chkL_eq r, andK, tK, hid1, hidP, List.mem_cons, forall_eq_or_imp, Chk, chkT]; exact propext and_assoc.symm
theorem can_chk {xs : Nat → AOper} {Kf : Fr → Hp → Prop} {i j : Nat} {chk : List Nat} {r : List CO} : can P xs Kf (⟨i, [], j :: chk⟩ :: r) f s = tK (xs i) (hid1 (fun x => T P x (fun f' s' => chkL P xs f' s' (j :: chk) (can P xs Kf r f' s')) f s) ()) := by
  simp only [can, List.not_mem_nil, false_implies, implies_true, true_and, tK, hid1, chkL_eq]
theorem Def_none {d : Option Nat} {op : AOp} : Def P ⟨d, op, none⟩ f = G P op f Hp.emp (fun _ _ => True) := rfl
theorem chkT_none {d : Nat} {op : AOp} : chkT P ⟨some d, op, none⟩ f s = G P op f s (fun r _ => r = f d) := rfl
theorem newK_true {d : Dep (fun _ : Nat => True)} : newK s (hid1 (fun _ => True) d) = True := by simp [newK, hid1]
theorem can_cons' {xs : Nat → AOper} {Kf : Fr → Hp → Prop} {i : Nat} {pre chk : List Nat} {r : List CO} :
    can P xs Kf (⟨i, pre, chk⟩ :: r) f s = ((∀ j ∈ pre, Def P (xs j) f) ∧ T P (xs i) (fun f' s' => (∀ j ∈ chk, Chk P xs j f' s') ∧ can P xs Kf r f' s') f s) := rfl
theorem nth_zero {x : AOper} {r : List AOper} : nth (x :: r) 0 = x := rfl
theorem nth_succ {x : AOper} {r : List AOper} {i : Nat} : nth (x :: r) (i + 1) = nth r i := rfl
theorem T_none {Kf : Fr → Hp → Prop} {d : Option Nat} {op : AOp} : T P ⟨d, op, none⟩ Kf f s = G P op f s (fun x s' => Kf (putF f d x) s') := rfl
theorem T_guard {Kf : Fr → Hp → Prop} {d : Option Nat} {op : AOp} {g : Nat} {want : Bool} : T P ⟨d, op, some (g, want)⟩ Kf f s = guardK (f g) want (hidP (G P op f s (fun x s' => Kf (putF f d x) s')) ()) (hidP (Kf (putF f d (.tup [])) s) ()) := rfl


theorem putF_get {d t : Nat} {a : AV} : putF f (some d) a t = if t = d then a else f t := rfl
theorem putF_none {t : Nat} {a : AV} : putF f none a t = f t := rfl
theorem upd_get {d t : Nat} {a : AV} : upd f d a t = if t = d then a else f t := rfl

def valK (r : Option AV) (C : AV → Prop) : Prop :=
  match r with
  | some r => C r
  | none => False
theorem valK_ite {c : Prop} [Decidable c] {r : AV} {C : AV → Prop} : valK (if c then some r else none) C = (c ∧ C r) := by
  split <;> simp [valK, *]
theorem valK_some {r : AV} {C : AV → Prop} : valK (some r) C = C r := rfl
def letK (r : AV) (C : AV → Prop) : Prop := C r
theorem letK_eq {r : AV} {C : AV → Prop} : letK r C = C r := rfl
def cellK (r : Option (List AV)) (C : List AV → Prop) : Prop :=
  match r with
  | some r => C r
  | none => False
theorem cellK_some {r : List AV} {C : List AV → Prop} : cellK (some r) C = C r := rfl
section
variable {Kv : AV → Hp → Prop}
theorem G_mv {x : Operand} : G P (.mv x) f s Kv = letK (ev f x) (hid1 (fun r => Kv r s) ()) := rfl
def pickA (c a b : AV) : Option AV :=
  match c with
  | .v (.bool t) => some (if t then a else b)
  | _ => none
theorem pickA_true {a b : AV} : pickA (.v (.bool true)) a b = some a := rfl
theorem pickA_false {a b : AV} : pickA (.v (.bool false)) a b = some b := rfl
theorem G_pick {c a b : Operand} : G P (.pick c a b) f s Kv = valK (pickA (ev f c) (ev f a) (ev f b)) (hid1 (fun r => Kv r s) ()) := by
  simp only [G, pickA]; generalize ev f c = a
  cases a <;> first | rfl | (rename_i v; cases v <;> rfl)
theorem G_alloc {T : TypeId} {z : List AV} : G P (.alloc T z) f s Kv = newK s (hid1 (fun l => Kv (.ptr l 0) (s.set l (.cells z))) ()) := rfl
theorem G_box {T : TypeId} {x : Operand} : G P (.box T x) f s Kv = letK (ev f x) (hid1 (fun a => andK (0 < a.cells.length) (hidP (newK s (hid1 (fun l => Kv (.ptr l 0) (s.set l (.cells a.cells))) ())) ())) ()) := rfl
theorem G_boxR {T : TypeId} {x : Operand} : G P (.boxR T x) f s Kv = letK (ev f x) (hid1 (fun a => andK (0 < a.cells.length) (hidP (newK s (hid1 (fun l => Kv (.ptr l 0) (s.set l (.ro a.cells))) ())) ())) ()) := rfl

def loadA (agg : Bool) (n : Nat) (s : Hp) (a : AV) : Option AV :=
  match a with
  | .ptr l off => match s.read l with
    | some cs => if off + n ≤ cs.length then some (mkv agg n (cs.drop off)) else none
    | none => none
  | .rptr cs => if n ≤ cs.length then some (mkv agg n cs) else none
  | _ => none
def rdA (agg : Bool) (n off : Nat) (cs : Option (List AV)) : Option AV :=
  match cs with
  | some cs => if off + n ≤ cs.length then some (mkv agg n (cs.drop off)) else none
  | none => none
theorem loadA_ptr {agg : Bool} {n l off : Nat} : loadA agg n s (.ptr l off) = rdA agg n off (s.read l) := rfl
theorem rdA_some {agg : Bool} {n off : Nat} {cs : List AV} (h : off + n ≤ cs.length) : rdA agg n off (some cs) = some (mkv agg n (cs.drop off)) := by simp [rdA, h]
theorem loadA_rptr {agg : Bool} {n : Nat} {cs : List AV} (h : n ≤ cs.length) : loadA agg n s (.rptr cs) = some (mkv agg n cs) := by simp [loadA, h]
theorem G_load {agg : Bool} {n : Nat} {x : Operand} : G P (.load agg n x) f s Kv = valK (loadA agg n s (ev f x)) (hid1 (fun r => Kv r s) ()) := by
  simp only [G, loadA]; generalize ev f x = a
  cases a <;> first
    | rfl
    | (simp only [valK_ite, hid1_eq]; done)
    | (rename_i l off; simp only []; generalize s.read l = c; cases c <;> first | rfl | (simp only [valK_ite, hid1_eq]))
def stA (s : Hp) (l : Nat) : Option (List AV) :=
  match s l with
  | some (.cells cs) => some cs
  | _ => none
def storeK (s : Hp) (n : Nat) (p : AV) (ys : List AV) (C : Hp → Prop) : Prop :=
  match p with
  | .ptr l off => cellK (stA s l) fun cs => andK (ys.length = n ∧ off + n ≤ cs.length) (C (s.set l (.cells (putAt cs off ys))))
  | _ => False
theorem storeK_ptr {n l off : Nat} {ys : List AV} {C : Hp → Prop} : storeK s n (.ptr l off) ys C = cellK (stA s l) (hid1 (fun cs => andK (ys.length = n ∧ off + n ≤ cs.length) (hidP (cellK (some (putAt cs off ys)) (hid1 (fun zs => C (s.set l (.cells zs))) ())) ())) ()) := rfl
theorem G_store {n : Nat} {x y : Operand} : G P (.store n x y) f s Kv = storeK s n (ev f x) (ev f y).cells (hid1 (fun s' => Kv (.tup []) s') ()) := by
  simp only [G, storeK]; generalize ev f x = a
  cases a <;> first
    | rfl
    | (rename_i l off
       simp only [stA]
       cases s l with
       | none => rfl
       | some o => cases o with
         | cells cs => exact propext and_assoc.symm
         | _ => rfl)
def nilcA (a : AV) : Option AV :=
  match a with
  | .ptr l off => some (.ptr l off)
  | .rptr cs => some (.rptr cs)
  | .clo n ds cs => some (.clo n ds cs)
  | _ => none
theorem nilcA_ptr {l off : Nat} : nilcA (.ptr l off) = some (.ptr l off) := rfl
theorem nilcA_rptr {cs : List AV} : nilcA (.rptr cs) = some (.rptr cs) := rfl
theorem G_nilc {x : Operand} : G P (.nilc x) f s Kv = valK (nilcA (ev f x)) (hid1 (fun r => Kv r s) ()) := by
  simp only [G, nilcA]; generalize ev f x = a
  cases a <;> first | rfl | (rename_i v; cases v <;> rfl)
def faA (off : Nat) (a : AV) : Option AV :=
  match a with
  | .ptr l o => some (.ptr l (o + off))
  | .rptr cs => some (.rptr (cs.drop off))
  | _ => none
theorem faA_ptr {off l o : Nat} : faA off (.ptr l o) = some (.ptr l (o + off)) := rfl
theorem faA_rptr {off : Nat} {cs : List AV} : faA off (.rptr cs) = some (.rptr (cs.drop off)) := rfl
theorem G_fa {off : Nat} {x : Operand} : G P (.fa off x) f s Kv = valK (faA off (ev f x)) (hid1 (fun r => Kv r s) ()) := by
  simp only [G, faA]; generalize ev f x = a
  cases a <;> first | rfl | (rename_i v; cases v <;> rfl)
def iaAA (k len : Nat) (a i : AV) : Option AV :=
  match a, i with
  | .ptr l o, .v (.int _ n) => if 0 ≤ n ∧ n < len then some (.ptr l (o + n.toNat * k)) else none
  | .rptr cs, .v (.int _ n) => if 0 ≤ n ∧ n < len then some (.rptr (cs.drop (n.toNat * k))) else none
  | _, _ => none
theorem iaAA_ptr {k len l o : Nat} {kd : IntKind} {n : Int} (h : 0 ≤ n) (h2 : n < len) : iaAA k len (.ptr l o) (.v (.int kd n)) = some (.ptr l (o + n.toNat * k)) := by simp [iaAA, h, h2]
theorem iaAA_rptr {k len : Nat} {cs : List AV} {kd : IntKind} {n : Int} (h : 0 ≤ n) (h2 : n < len) : iaAA k len (.rptr cs) (.v (.int kd n)) = some (.rptr (cs.drop (n.toNat * k))) := by simp [iaAA, h, h2]
theorem G_iaA {k len : Nat} {x i : Operand} : G P (.iaA k len x i) f s Kv = valK (iaAA k len (ev f x) (ev f i)) (hid1 (fun r => Kv r s) ()) := by
  simp only [G, iaAA]; generalize ev f x = a; generalize ev f i = b
  cases a <;> first
    | rfl
    | (cases b <;> first
        | rfl
        | (rename_i w; cases w <;> first
            | rfl
            | (simp only [valK_ite, hid1_eq]; exact propext and_assoc.symm)))
/-- the element at a place, as read-only cells -/
def elA (k : Nat) (e : Option AV) : Option AV :=
  match e with
  | some e => if e.cells.length = k then some (.rptr e.cells) else none
  | none => none
theorem elA_some {k : Nat} {e : AV} (h : e.cells.length = k) : elA k (some e) = some (.rptr e.cells) := by simp [elA, h]
def iaSA (k : Nat) (a i : AV) : Option AV :=
  match a, i with
  | .sl xs _, .v (.int _ n) => if 0 ≤ n then elA k xs[n.toNat]? else none
  | .msl l off len k', .v (.int _ n) => if k' = k ∧ 0 ≤ n ∧ n < len then some (.ptr l (off + n.toNat * k)) else none
  | .mb l len _ k', .v (.int _ n) => if k' = k ∧ 0 ≤ n ∧ n < len then some (.ptr l (n.toNat * k)) else none
  | _, _ => none
theorem iaSA_sl {k : Nat} {xs : List AV} {o : Own} {kd : IntKind} {n : Int} (h : 0 ≤ n) : iaSA k (.sl xs o) (.v (.int kd n)) = elA k xs[n.toNat]? := by simp [iaSA, h]
theorem iaSA_mb {k l len cap : Nat} {kd : IntKind} {n : Int} (h : 0 ≤ n) (h2 : n < len) : iaSA k (.mb l len cap k) (.v (.int kd n)) = some (.ptr l (n.toNat * k)) := by simp [iaSA, h, h2]
theorem iaSA_msl {k l off len : Nat} {kd : IntKind} {n : Int} (h : 0 ≤ n) (h2 : n < len) : iaSA k (.msl l off len k) (.v (.int kd n)) = some (.ptr l (off + n.toNat * k)) := by simp [iaSA, h, h2]
theorem G_iaS {k : Nat} {x i : Operand} : G P (.iaS k x i) f s Kv = valK (iaSA k (ev f x) (ev f i)) (hid1 (fun r => Kv r s) ()) := by
  simp only [G, iaSA]; generalize ev f x = a; generalize ev f i = b
  cases a <;> first
    | rfl
    | (cases b <;> first
        | rfl
        | (rename_i w; cases w <;> first
            | rfl
            | (simp only [valK_ite, hid1_eq]; apply propext; constructor
               · rintro ⟨h1, h2, h3, h4⟩; exact ⟨⟨h1, h2, h3⟩, h4⟩
               · rintro ⟨⟨h1, h2, h3⟩, h4⟩; exact ⟨h1, h2, h3, h4⟩)
            | (rename_i xs o kd n
               by_cases h : 0 ≤ n
               · simp only [h, true_and, if_true, elA]
                 generalize xs[n.toNat]? = c
                 cases c <;> first | rfl | (simp only [valK_ite, hid1_eq])
               · simp [h, valK])))
def fldA (agg : Bool) (off n : Nat) (a : AV) : Option AV :=
  match a with
  | .agg cs => if off + n ≤ cs.length then some (mkv agg n (cs.drop off)) else none
  | _ => none
theorem fldA_agg {agg : Bool} {off n : Nat} {cs : List AV} (h : off + n ≤ cs.length) : fldA agg off n (.agg cs) = some (mkv agg n (cs.drop off)) := by simp [fldA, h]
theorem G_fld {agg : Bool} {off n : Nat} {x : Operand} : G P (.fld agg off n x) f s Kv = valK (fldA agg off n (ev f x)) (hid1 (fun r => Kv r s) ()) := by
  simp only [G, fldA]; generalize ev f x = a
  cases a <;> first | rfl | (simp only [valK_ite, hid1_eq])
def idxAA (agg : Bool) (k len : Nat) (a i : AV) : Option AV :=
  match a, i with
  | .agg cs, .v (.int _ n) => if 0 ≤ n ∧ n < len ∧ n.toNat * k + k ≤ cs.length then some (mkv agg k (cs.drop (n.toNat * k))) else none
  | _, _ => none
theorem idxAA_agg {agg : Bool} {k len : Nat} {cs : List AV} {kd : IntKind} {n : Int} (h : 0 ≤ n) (h2 : n < len) (h3 : n.toNat * k + k ≤ cs.length) : idxAA agg k len (.agg cs) (.v (.int kd n)) = some (mkv agg k (cs.drop (n.toNat * k))) := by simp [idxAA, h, h2, h3]
theorem G_idxA {agg : Bool} {k len : Nat} {x i : Operand} : G P (.idxA agg k len x i) f s Kv = valK (idxAA agg k len (ev f x) (ev f i)) (hid1 (fun r => Kv r s) ()) := by
  simp only [G, idxAA]; generalize ev f x = a; generalize ev f i = b
  cases a <;> first
    | rfl
    | (cases b <;> first
        | rfl
        | (rename_i w; cases w <;> first
            | rfl
            | (simp only [valK_ite, hid1_eq]; apply propext; constructor
               · rintro ⟨h1, h2, h3, h4⟩; exact ⟨⟨h1, h2, h3⟩, h4⟩
               · rintro ⟨⟨h1, h2, h3⟩, h4⟩; exact ⟨h1, h2, h3, h4⟩)))
def bldK (f : Fr) (cells : List AV) : List (Nat × Nat × Operand) → (List AV → Prop) → Prop
  | [], C => C cells
  | (off, sz, x) :: r, C => letK (ev f x) fun a => andK (a.cells.length = sz ∧ off + sz ≤ cells.length) (cellK (some (putAt cells off a.cells)) fun zs => bldK f zs r C)
theorem bldK_nil {cells : List AV} {C : List AV → Prop} : bldK f cells [] C = C cells := rfl
theorem bldK_cons {cells : List AV} {off sz : Nat} {x : Operand} {r : List (Nat × Nat × Operand)} {C : List AV → Prop} : bldK f cells ((off, sz, x) :: r) C = letK (ev f x) (hid1 (fun a => andK (a.cells.length = sz ∧ off + sz ≤ cells.length) (hidP (cellK (some (putAt cells off a.cells)) (hid1 (fun zs => bldK f zs r C) ())) ())) ()) := rfl
theorem bldK_eq {C : List AV → Prop} : ∀ (parts : List (Nat × Nat × Operand)) (cells : List AV), fillG f cells parts C = bldK f cells parts C
  | [], _ => rfl
  | (off, sz, x) :: r, cells => by
    simp only [fillG, bldK, letK, andK, cellK, bldK_eq r]
    exact propext and_assoc.symm
theorem G_bld {z : List AV} {parts : List (Nat × Nat × Operand)} : G P (.bld z parts) f s Kv = bldK f z parts fun cs => Kv (.agg cs) s := bldK_eq parts z
def lenAA (a : AV) : Option AV :=
  match a with
  | .sl xs _ => some (.v (.int .i64 xs.length))
  | .msl _ _ n _ => some (.v (.int .i64 n))
  | .mb _ n _ _ => some (.v (.int .i64 n))
  | _ => none
theorem lenAA_mb {l n cap k : Nat} : lenAA (.mb l n cap k) = some (.v (.int .i64 n)) := rfl
theorem lenAA_sl {xs : List AV} {o : Own} : lenAA (.sl xs o) = some (.v (.int .i64 xs.length)) := rfl
theorem lenAA_msl {l off n k : Nat} : lenAA (.msl l off n k) = some (.v (.int .i64 n)) := rfl
theorem G_len {x : Operand} : G P (.len x) f s Kv = valK (lenAA (ev f x)) (hid1 (fun r => Kv r s) ()) := by
  simp only [G, lenAA]; generalize ev f x = a
  cases a <;> rfl
theorem G_lenA {n : Nat} : G P (.lenA n) f s Kv = Kv (.v (.int .i64 n)) s := rfl
def binA (op : BinOp) (a b : AV) : Option AV :=
  match a, b with
  | .v a, .v b => (binV op a b).map .v
  | _, _ => none
theorem binA_v {op : BinOp} {a b : Value} : binA op (.v a) (.v b) = (binV op a b).map .v := rfl
theorem G_bin {op : BinOp} {x y : Operand} : G P (.bin op x y) f s Kv = valK (binA op (ev f x) (ev f y)) (hid1 (fun r => Kv r s) ()) := by
  simp only [G, binA]; generalize ev f x = a; generalize ev f y = b
  cases a <;> first
    | rfl
    | (cases b <;> first
        | rfl
        | (rename_i v w; simp only []; generalize binV op v w = c; cases c <;> rfl))
def unA (op : UnOp) (a : AV) : Option AV :=
  match a with
  | .v a => (unV op a).map .v
  | _ => none
theorem unA_v {op : UnOp} {a : Value} : unA op (.v a) = (unV op a).map .v := rfl
theorem G_un {op : UnOp} {x : Operand} : G P (.un op x) f s Kv = valK (unA op (ev f x)) (hid1 (fun r => Kv r s) ()) := by
  simp only [G, unA]; generalize ev f x = a
  cases a <;> first | rfl | (rename_i v; simp only []; generalize unV op v = c; cases c <;> rfl)
def cvtA (k : IntKind) (a : AV) : Option AV :=
  match a with
  | .v (.int _ n) => some (.v (.int k (k.wrap n)))
  | _ => none
theorem cvtA_int {k k' : IntKind} {n : Int} : cvtA k (.v (.int k' n)) = some (.v (.int k (k.wrap n))) := rfl
theorem G_cvt {k : IntKind} {x : Operand} : G P (.cvt k x) f s Kv = valK (cvtA k (ev f x)) (hid1 (fun r => Kv r s) ()) := by
  simp only [G, cvtA]; generalize ev f x = a
  cases a <;> first | rfl | (rename_i v; cases v <;> rfl)
def callK (P : Ctx) (g : FuncId) (args : List AV) (s : Hp) (C : AV → Hp → Prop) : Prop := ACp P.p g args s C (up P.k)
theorem G_callF {g : FuncId} {args : List Operand} : G P (.callF g args) f s Kv = callK P g (args.map (ev f)) s (hid2 Kv ()) := rfl
def extA (i : Nat) (a : AV) : Option AV :=
  match a with
  | .tup vs => vs[i]?
  | _ => none
theorem extA_tup {i : Nat} {vs : List AV} : extA i (.tup vs) = vs[i]? := rfl
theorem G_ext {x : Operand} {i : Nat} : G P (.ext x i) f s Kv = valK (extA i (ev f x)) (hid1 (fun r => Kv r s) ()) := by
  simp only [G, extA]; generalize ev f x = a
  cases a <;> first | rfl | (rename_i vs; cases vs[i]? <;> rfl)
theorem G_eqv {neg : Bool} {ks : List (Nat × CK)} {x y : Operand} {cs ds : List AV} (hx : ev f x = .agg cs) (hy : ev f y = .agg ds) :
    G P (.eqv neg ks x y) f s Kv = andK (fitR ks cs ∧ fitR ks ds) (hidP (Kv (.v (.bool (xor neg (peq (.agg cs) (.agg ds))))) s) ()) := by
  simp only [G, hx, hy, andK]; exact propext and_assoc.symm
def eqbA (neg : Bool) (a b : AV) : Option AV :=
  match a, b with
  | .v (.bool a), .v (.bool b) => some (.v (.bool (xor neg (a == b))))
  | _, _ => none
theorem eqbA_b {neg a b : Bool} : eqbA neg (.v (.bool a)) (.v (.bool b)) = some (.v (.bool (xor neg (a == b)))) := rfl
theorem G_eqb {neg : Bool} {x y : Operand} : G P (.eqb neg x y) f s Kv = valK (eqbA neg (ev f x) (ev f y)) (hid1 (fun r => Kv r s) ()) := by
  simp only [G, eqbA]; generalize ev f x = a; generalize ev f y = b
  cases a <;> first
    | rfl
    | (rename_i v; cases v <;> first
        | rfl
        | (cases b <;> first | rfl | (rename_i w; cases w <;> first | rfl | (rename_i q; cases q <;> rfl)))
        | (rename_i q; cases q <;> first | rfl | (cases b <;> first | rfl | (rename_i w; cases w <;> first | rfl | (rename_i q; cases q <;> rfl)))))
    | (cases b <;> first | rfl | (rename_i w; cases w <;> first | rfl | (rename_i q; cases q <;> rfl)))
def eqpA (neg : Bool) (a b : AV) : Option AV :=
  match a, b with
  | .ptr _ _, .v (.pointer none) => some (.v (.bool neg))
  | .rptr _, .v (.pointer none) => some (.v (.bool neg))
  | .v (.pointer none), .v (.pointer none) => some (.v (.bool (!neg)))
  | _, _ => none
theorem eqpA_ptr {neg : Bool} {l o : Nat} : eqpA neg (.ptr l o) (.v (.pointer none)) = some (.v (.bool neg)) := rfl
theorem eqpA_rptr {neg : Bool} {cs : List AV} : eqpA neg (.rptr cs) (.v (.pointer none)) = some (.v (.bool neg)) := rfl
theorem eqpA_nil {neg : Bool} : eqpA neg (.v (.pointer none)) (.v (.pointer none)) = some (.v (.bool (!neg))) := rfl
theorem G_eqp {neg : Bool} {x y : Operand} : G P (.eqp neg x y) f s Kv = valK (eqpA neg (ev f x) (ev f y)) (hid1 (fun r => Kv r s) ()) := by
  simp only [G, eqpA]; generalize ev f x = a; generalize ev f y = b
  cases a <;> first
    | rfl
    | (rename_i v; cases v <;> first
        | rfl
        | (cases b <;> first | rfl | (rename_i w; cases w <;> first | rfl | (rename_i q; cases q <;> rfl)))
        | (rename_i q; cases q <;> first | rfl | (cases b <;> first | rfl | (rename_i w; cases w <;> first | rfl | (rename_i q; cases q <;> rfl)))))
    | (cases b <;> first | rfl | (rename_i w; cases w <;> first | rfl | (rename_i q; cases q <;> rfl)))
def slcSl (k : Nat) (lo hi : Option Operand) (xs : List AV) (o : Own) (a b : Option Int) : Option AV :=
  match a, b with
  | some a, some b => if 0 ≤ a ∧ a ≤ b ∧ b ≤ xs.length ∧ xs.all (fun e => decide (e.cells.length = k)) then some (.sl ((xs.take b.toNat).drop a.toNat) (SlKeep o lo hi)) else none
  | _, _ => none
theorem slcSl_some {k : Nat} {lo hi : Option Operand} {xs : List AV} {o : Own} {a b : Int} (h1 : 0 ≤ a) (h2 : a ≤ b) (h3 : b ≤ xs.length) (h4 : ∀ e ∈ xs, e.cells.length = k) :
    slcSl k lo hi xs o (some a) (some b) = some (.sl ((xs.take b.toNat).drop a.toNat) (SlKeep o lo hi)) := by
  simp [slcSl, h1, h2, h3]; exact h4
theorem G_slc {k : Nat} {x : Operand} {lo hi : Option Operand} {xs : List AV} {o : Own} (hx : ev f x = .sl xs o) : G P (.slc k x lo hi) f s Kv = valK (slcSl k lo hi xs o (bnd f lo 0) (bnd f hi xs.length)) (hid1 (fun r => Kv r s) ()) := by
  simp only [G, hx, slcSl]
  generalize bnd f lo 0 = a; generalize bnd f hi xs.length = b
  cases a <;> cases b <;> first
    | rfl
    | (simp only [valK_ite, hid1_eq]; apply propext; simp only [List.all_eq_true, decide_eq_true_eq]; constructor
       · rintro ⟨h1, h2, h3, h4, h5⟩; exact ⟨⟨h1, h2, h3, h4⟩, h5⟩
       · rintro ⟨⟨h1, h2, h3, h4⟩, h5⟩; exact ⟨h1, h2, h3, h4, h5⟩)
theorem bnd_none {d : Nat} : bnd f none d = some (d : Int) := rfl
def intOf (a : AV) : Option Int :=
  match a with
  | .v (.int _ n) => some n
  | _ => none
theorem intOf_int {k : IntKind} {n : Int} : intOf (.v (.int k n)) = some n := rfl
theorem bnd_some {x : Operand} {d : Nat} : bnd f (some x) d = intOf (ev f x) := by
  simp only [bnd, intOf]; generalize ev f x = a
  cases a <;> first | rfl | (rename_i v; cases v <;> rfl)
end

def postR (rs : List (Nat × Option (Bool × Nat))) (R : AV → Hp → Prop) : Ex → Fr → Hp → Prop := postF ⟨0, 0, .skip, rs⟩ R
theorem AC_run {P : Program} (hm : P.follows .mixedOrders = true) {m : Nat} {g n np : Nat} {c : ACode} {rs : List (Nat × Option (Bool × Nat))} (hF : prepFunc P m g = some ⟨n, np, c, rs⟩) {args : List AV} {R : AV → Hp → Prop} (hlen : args.length ≤ n)
    (h : awp (Ctx.of P) c (postR rs R) (initF args) s) : AC P g args s R := by
  refine AC_of hm hF hlen ?_
  have e : postF ⟨n, np, c, rs⟩ R = postR rs R := by
    funext e f s; cases e <;> rfl
  rw [e]; exact h
theorem ACp_run {P : Program} (hm : P.follows .mixedOrders = true) {m : Nat} {g n np : Nat} {c : ACode} {rs : List (Nat × Option (Bool × Nat))} (hF : prepFunc P m g = some ⟨n, np, c, rs⟩) {args : List AV} {R Rp : AV → Hp → Prop} (hlen : args.length ≤ n)
    (h : awp ⟨P, Rp⟩ c (postR rs R) (initF args) s) : ACp P g args s R (up Rp) := by
  refine ACp_of hm hF hlen ?_
  have e : postF ⟨n, np, c, rs⟩ R = postR rs R := by
    funext e f s; cases e <;> rfl
  rw [e]; exact h
theorem initF_get {args : List AV} {t : Nat} : initF args t = args.getD t (.tup []) := rfl
theorem postF_ret {F : AFunc} {R : AV → Hp → Prop} : postF F R .ret f s = valK (resAll f s F.results) fun r => ∃ s', s'.sub s ∧ R r s' := by
  apply propext
  simp only [postF]
  constructor
  · rintro ⟨r, s', h, h2, h3⟩; rw [h]; exact ⟨s', h2, h3⟩
  · intro h
    cases hr : resAll f s F.results with
    | none => rw [hr] at h; exact h.elim
    | some r => rw [hr] at h; obtain ⟨s', h2, h3⟩ := h; exact ⟨r, s', rfl, h2, h3⟩
theorem postF_norm {F : AFunc} {R : AV → Hp → Prop} : postF F R .norm f s = postF F R .ret f s := rfl
theorem postR_ret {rs : List (Nat × Option (Bool × Nat))} {R : AV → Hp → Prop} : postR rs R .ret f s = valK (resAll f s rs) (hid1 (fun r => ∃ s', s'.sub s ∧ R r s') ()) := postF_ret
theorem postR_norm {rs : List (Nat × Option (Bool × Nat))} {R : AV → Hp → Prop} : postR rs R .norm f s = postR rs R .ret f s := rfl
theorem resAll_two {p q : Nat × Option (Bool × Nat)} {r u : AV} (h : resG f s p = some r) (h2 : resG f s q = some u) : resAll f s [p, q] = some (.tup [r, u]) := by
  simp only [resAll, mapAll, h, h2]
theorem resAll_three {p q p3 : Nat × Option (Bool × Nat)} {r u v : AV} (h : resG f s p = some r) (h2 : resG f s q = some u) (h3 : resG f s p3 = some v) : resAll f s [p, q, p3] = some (.tup [r, u, v]) := by
  simp only [resAll, mapAll, h, h2, h3]
theorem resAll_none : resAll f s [] = some (.tup []) := rfl
theorem resAll_one {p : Nat × Option (Bool × Nat)} : resAll f s [p] = resG f s p := by
  simp only [resAll, mapAll]; cases resG f s p <;> rfl
theorem resG_tmp {t : Nat} : resG f s (t, none) = some (f t) := rfl
theorem resG_cell {t n : Nat} {agg : Bool} {l off : Nat} (h : f t = .ptr l off) : resG f s (t, some (agg, n)) = rdA agg n off (s.read l) := by
  simp only [resG, h, rdA]; rfl

def resP (agg : Bool) (n : Nat) (s : Hp) (a : AV) : Option AV :=
  match a with
  | .ptr l off => rdA agg n off (s.read l)
  | _ => none
theorem resP_ptr {agg : Bool} {n l off : Nat} : resP agg n s (.ptr l off) = rdA agg n off (s.read l) := rfl
theorem resG_ptr {t n : Nat} {agg : Bool} : resG f s (t, some (agg, n)) = resP agg n s (f t) := by
  simp only [resG, resP]; generalize f t = a
  cases a <;> first | rfl | (simp only [rdA])
theorem Hp.read_eq {l : Nat} : s.read l = match s l with | some (.cells cs) => some cs | some (.ro cs) => some cs | some (.tc _ cs) => some cs | some (.sc cs) => some cs | _ => none := rfl
theorem Hp.set_get {l l' : Nat} {o : Ob} : (s.set l o) l' = if l' = l then some o else s l' := rfl
theorem Hp.read_set_same {l : Nat} {cs : List AV} : (s.set l (.cells cs)).read l = some cs := by simp [Hp.read, Hp.set]
theorem Hp.read_set_ro {l : Nat} {cs : List AV} : (s.set l (.ro cs)).read l = some cs := by simp [Hp.read, Hp.set]
theorem Hp.read_set_ne {l l' : Nat} {o : Ob} (h : l' ≠ l) : (s.set l o).read l' = s.read l' := by simp [Hp.read, Hp.set, h]
theorem Hp.stA_set_same {l : Nat} {cs : List AV} : stA (s.set l (.cells cs)) l = some cs := by simp [stA, Hp.set]
theorem Hp.stA_set_ne {l l' : Nat} {o : Ob} (h : l' ≠ l) : stA (s.set l o) l' = stA s l' := by simp [stA, Hp.set, h]
theorem Hp.read_of {l : Nat} {cs : List AV} (h : s l = some (.cells cs)) : s.read l = some cs := by simp [Hp.read, h]
theorem Hp.read_ofR {l : Nat} {cs : List AV} (h : s l = some (.ro cs)) : s.read l = some cs := by simp [Hp.read, h]
theorem Hp.stA_of {l : Nat} {cs : List AV} (h : s l = some (.cells cs)) : stA s l = some cs := by simp [stA, h]
theorem Hp.set_none {l l' : Nat} {o : Ob} (h : (s.set l o) l' = none) : l' ≠ l ∧ s l' = none := by
  simp only [Hp.set] at h; split at h <;> simp_all
theorem Hp.set_in1 {a b0 : Nat} {oa oc o0 : Ob} (h0 : b0 ≠ a) : ((s.set a oa).set b0 o0).set a oc = ((s.set a oc).set b0 o0) := by rw [Hp.set_set_comm _ h0, Hp.set_set]
theorem Hp.set_in2 {a b0 b1 : Nat} {oa oc o0 o1 : Ob} (h0 : b0 ≠ a) (h1 : b1 ≠ a) : (((s.set a oa).set b0 o0).set b1 o1).set a oc = (((s.set a oc).set b0 o0).set b1 o1) := by rw [Hp.set_set_comm _ h1, set_in1 h0]
theorem Hp.set_in3 {a b0 b1 b2 : Nat} {oa oc o0 o1 o2 : Ob} (h0 : b0 ≠ a) (h1 : b1 ≠ a) (h2 : b2 ≠ a) : ((((s.set a oa).set b0 o0).set b1 o1).set b2 o2).set a oc = ((((s.set a oc).set b0 o0).set b1 o1).set b2 o2) := by rw [Hp.set_set_comm _ h2, set_in2 h0 h1]
theorem Hp.set_in4 {a b0 b1 b2 b3 : Nat} {oa oc o0 o1 o2 o3 : Ob} (h0 : b0 ≠ a) (h1 : b1 ≠ a) (h2 : b2 ≠ a) (h3 : b3 ≠ a) : (((((s.set a oa).set b0 o0).set b1 o1).set b2 o2).set b3 o3).set a oc = (((((s.set a oc).set b0 o0).set b1 o1).set b2 o2).set b3 o3) := by rw [Hp.set_set_comm _ h3, set_in3 h0 h1 h2]
theorem Hp.set_in5 {a b0 b1 b2 b3 b4 : Nat} {oa oc o0 o1 o2 o3 o4 : Ob} (h0 : b0 ≠ a) (h1 : b1 ≠ a) (h2 : b2 ≠ a) (h3 : b3 ≠ a) (h4 : b4 ≠ a) : ((((((s.set a oa).set b0 o0).set b1 o1).set b2 o2).set b3 o3).set b4 o4).set a oc = ((((((s.set a oc).set b0 o0).set b1 o1).set b2 o2).set b3 o3).set b4 o4) := by rw [Hp.set_set_comm _ h4, set_in4 h0 h1 h2 h3]
theorem Hp.set_in6 {a b0 b1 b2 b3 b4 b5 : Nat} {oa oc o0 o1 o2 o3 o4 o5 : Ob} (h0 : b0 ≠ a) (h1 : b1 ≠ a) (h2 : b2 ≠ a) (h3 : b3 ≠ a) (h4 : b4 ≠ a) (h5 : b5 ≠ a) : (((((((s.set a oa).set b0 o0).set b1 o1).set b2 o2).set b3 o3).set b4 o4).set b5 o5).set a oc = (((((((s.set a oc).set b0 o0).set b1 o1).set b2 o2).set b3 o3).set b4 o4).set b5 o5) := by rw [Hp.set_set_comm _ h5, set_in5 h0 h1 h2 h3 h4]
theorem Hp.set_in7 {a b0 b1 b2 b3 b4 b5 b6 : Nat} {oa oc o0 o1 o2 o3 o4 o5 o6 : Ob} (h0 : b0 ≠ a) (h1 : b1 ≠ a) (h2 : b2 ≠ a) (h3 : b3 ≠ a) (h4 : b4 ≠ a) (h5 : b5 ≠ a) (h6 : b6 ≠ a) : ((((((((s.set a oa).set b0 o0).set b1 o1).set b2 o2).set b3 o3).set b4 o4).set b5 o5).set b6 o6).set a oc = ((((((((s.set a oc).set b0 o0).set b1 o1).set b2 o2).set b3 o3).set b4 o4).set b5 o5).set b6 o6) := by rw [Hp.set_set_comm _ h6, set_in6 h0 h1 h2 h3 h4 h5]
theorem Hp.set_in8 {a b0 b1 b2 b3 b4 b5 b6 b7 : Nat} {oa oc o0 o1 o2 o3 o4 o5 o6 o7 : Ob} (h0 : b0 ≠ a) (h1 : b1 ≠ a) (h2 : b2 ≠ a) (h3 : b3 ≠ a) (h4 : b4 ≠ a) (h5 : b5 ≠ a) (h6 : b6 ≠ a) (h7 : b7 ≠ a) : (((((((((s.set a oa).set b0 o0).set b1 o1).set b2 o2).set b3 o3).set b4 o4).set b5 o5).set b6 o6).set b7 o7).set a oc = (((((((((s.set a oc).set b0 o0).set b1 o1).set b2 o2).set b3 o3).set b4 o4).set b5 o5).set b6 o6).set b7 o7) := by rw [Hp.set_set_comm _ h7, set_in7 h0 h1 h2 h3 h4 h5 h6]
theorem newK_intro {C : Nat → Prop} {d : Dep C} (h : ∀ l, s l = none → C l) : newK s (hid1 C d) := h
theorem hidP_intro {p : Prop} {d : Dep p} (h : p) : hidP p d := h
theorem loop_intro {P : Ctx} {K : Ex → Fr → Hp → Prop} {a : ACode} {d : Dep (awp P (.loop a) K f s)} (I : Fr → Hp → Prop) (m : Fr → Hp → Nat) (h0 : I f s) (h : ∀ f s, I f s → awp P a (seqK (fun f' s' => I f' s' ∧ m f' s' < m f s) K) f s) :
    hidP (awp P (.loop a) K f s) d := ⟨I, m, h0, h⟩
theorem call_intro {P : Ctx} {g : FuncId} {args : List AV} {C R : AV → Hp → Prop} {d : Dep C} (h : AC P.p g args s R) (hr : ∀ r s', R r s' → C r s') : callK P g args s (hid2 C d) := (h.mono hr).p
theorem up_up {k : AV → Hp → Prop} {v : AV} {s : Hp} (h : up (up k) v s) : up k v s := by
  obtain ⟨s2, h1, s3, h2, h3⟩ := h
  exact ⟨s3, fun l o ho => h1 l o (h2 l o ho), h3⟩
/-- a call that may panic -/
theorem callp_intro {P : Ctx} {g : FuncId} {args : List AV} {C R Rp : AV → Hp → Prop} {d : Dep C} (h : ACp P.p g args s R (up Rp)) (hr : ∀ r s', R r s' → C r s') (hp : ∀ r s', Rp r s' → P.k r s') : callK P g args s (hid2 C d) := h.mono hr (fun _ _ => up_mono hp)
theorem Hp.sub_refl : s.sub s := fun _ _ h => h
theorem Hp.sub_new {t : Hp} {l : Nat} {o : Ob} (h : t.sub s) (hl : t l = none) : t.sub (s.set l o) := fun l' o' ho => by
  rw [Hp.set_get]; split
  · rename_i e; subst e; rw [hl] at ho; cases ho
  · exact h _ _ ho
theorem Hp.sub_set_new {t : Hp} {l : Nat} {o : Ob} (h : t.sub s) (hl : t l = none) : t.sub (s.set l o) := Hp.sub_new h hl
theorem Hp.sub_set {t : Hp} {l : Nat} {o : Ob} (h : t.sub s) : (t.set l o).sub (s.set l o) := fun l' o' ho => by
  rw [Hp.set_get] at ho ⊢; split
  · rename_i e; rw [if_pos e] at ho; exact ho
  · rename_i e; rw [if_neg e] at ho; exact h _ _ ho
end

/-! ### words -/

theorem wrap_i64 {n : Int} (h : -9223372036854775808 ≤ n) (h2 : n < 9223372036854775808) : IntKind.i64.wrap n = n := by
  have e1 : ((2 : Int) ^ IntKind.i64.bits) = 18446744073709551616 := rfl
  have e2 : ((2 : Int) ^ (IntKind.i64.bits - 1)) = 9223372036854775808 := rfl
  simp only [IntKind.wrap, e1, e2, IntKind.signed, Bool.true_and, decide_eq_true_eq]
  split <;> omega
theorem wrap_u64_mod {n : Int} : IntKind.u64.wrap n = n % 18446744073709551616 := by
  have e1 : ((2 : Int) ^ IntKind.u64.bits) = 18446744073709551616 := rfl
  simp [IntKind.wrap, e1, IntKind.signed]
theorem wrap_u32_mod {n : Int} : IntKind.u32.wrap n = n % 4294967296 := by
  have e1 : ((2 : Int) ^ IntKind.u32.bits) = 4294967296 := rfl
  simp [IntKind.wrap, e1, IntKind.signed]
theorem wrap_u8_mod {n : Int} : IntKind.u8.wrap n = n % 256 := by
  have e1 : ((2 : Int) ^ IntKind.u8.bits) = 256 := rfl
  simp [IntKind.wrap, e1, IntKind.signed]
theorem wrap_u64 {n : Int} (h : 0 ≤ n) (h2 : n < 18446744073709551616) : IntKind.u64.wrap n = n := by rw [wrap_u64_mod]; omega
theorem wrap_u32 {n : Int} (h : 0 ≤ n) (h2 : n < 4294967296) : IntKind.u32.wrap n = n := by rw [wrap_u32_mod]; omega
theorem wrap_u8 {n : Int} (h : 0 ≤ n) (h2 : n < 256) : IntKind.u8.wrap n = n := by rw [wrap_u8_mod]; omega

theorem wrap_u32_8 (b : UInt8) : IntKind.u32.wrap (b.toNat : Int) = (b.toUInt32.toNat : Int) := by
  have := b.toNat_lt
  rw [wrap_u32 (by omega) (by omega)]; simp
theorem wrap_u64_8 (b : UInt8) : IntKind.u64.wrap (b.toNat : Int) = (b.toUInt64.toNat : Int) := by
  have := b.toNat_lt
  rw [wrap_u64 (by omega) (by omega)]; simp
theorem wrap_u8_32 (x : UInt32) : IntKind.u8.wrap (x.toNat : Int) = (x.toUInt8.toNat : Int) := by
  rw [wrap_u8_mod]; simp
theorem wrap_u8_64 (x : UInt64) : IntKind.u8.wrap (x.toNat : Int) = (x.toUInt8.toNat : Int) := by
  rw [wrap_u8_mod]; simp

section
variable (a b : Int)
theorem add_i64 : binV .add (.int .i64 a) (.int .i64 b) = some (.int .i64 (IntKind.i64.wrap (a + b))) := rfl
theorem sub_i64 : binV .sub (.int .i64 a) (.int .i64 b) = some (.int .i64 (IntKind.i64.wrap (a - b))) := rfl
theorem mul_i64 : binV .mul (.int .i64 a) (.int .i64 b) = some (.int .i64 (IntKind.i64.wrap (a * b))) := rfl
theorem quo_i64 (h : b ≠ 0) : binV .quo (.int .i64 a) (.int .i64 b) = some (.int .i64 (IntKind.i64.wrap (a.tdiv b))) := by simp [binV, isShift, binInt, h]
theorem rem_i64 (h : b ≠ 0) : binV .rem (.int .i64 a) (.int .i64 b) = some (.int .i64 (a.tmod b)) := by simp [binV, isShift, binInt, h]
variable (k : IntKind)
theorem eql_int : binV .eql (.int k a) (.int k b) = some (.bool (decide (a = b))) := by simp [binV, isShift, binInt]
theorem neq_int : binV .neq (.int k a) (.int k b) = some (.bool (decide (a ≠ b))) := by simp [binV, isShift, binInt]
theorem lss_int : binV .lss (.int k a) (.int k b) = some (.bool (decide (a < b))) := by simp [binV, isShift, binInt]
theorem leq_int : binV .leq (.int k a) (.int k b) = some (.bool (decide (a ≤ b))) := by simp [binV, isShift, binInt]
theorem gtr_int : binV .gtr (.int k a) (.int k b) = some (.bool (decide (b < a))) := by simp [binV, isShift, binInt]
theorem geq_int : binV .geq (.int k a) (.int k b) = some (.bool (decide (b ≤ a))) := by simp [binV, isShift, binInt]
theorem not_bool (t : Bool) : unV .not (.bool t) = some (.bool !t) := rfl
end

theorem add_u64 (a b : Int) : binV .add (.int .u64 a) (.int .u64 b) = some (.int .u64 (IntKind.u64.wrap (a + b))) := rfl
theorem sub_u64 (a b : Int) : binV .sub (.int .u64 a) (.int .u64 b) = some (.int .u64 (IntKind.u64.wrap (a - b))) := rfl
theorem mul_u64 (a b : Int) : binV .mul (.int .u64 a) (.int .u64 b) = some (.int .u64 (IntKind.u64.wrap (a * b))) := rfl
theorem shr_u64 (m : Nat) (k : IntKind) (n : Int) (h : 0 ≤ n) (h2 : n < 64) : binV .shr (.int .u64 m) (.int k n) = some (.int .u64 (m >>> n.toNat : Nat)) := by
  obtain ⟨q, rfl⟩ : ∃ q : Nat, n = q := ⟨n.toNat, by omega⟩
  have e : min q IntKind.u64.bits = q := by simp [IntKind.bits]; omega
  have hp : (2 : Int) ^ q = ((2 ^ q : Nat) : Int) := by simp
  simp only [binV, isShift, if_true, shiftInt, if_neg (show ¬ (q : Int) < 0 by omega), Int.toNat_natCast, e, Nat.shiftRight_eq_div_pow]
  rw [hp, Int.fdiv_eq_ediv_of_nonneg _ (Int.natCast_nonneg _), ← Int.natCast_ediv]
theorem wrap_u8_nat (m : Nat) : IntKind.u8.wrap (m : Int) = ((UInt8.ofNat m).toNat : Int) := by rw [wrap_u8_mod]; simp
theorem iaSA_bytes {bs : List UInt8} {o : Own} {kd : IntKind} {n : Int} (h : 0 ≤ n) (h2 : n.toNat < bs.length) : iaSA 1 (.sl (bs.map byteAV) o) (.v (.int kd n)) = some (.rptr [.v (.int .u8 (bs.getD n.toNat 0).toNat)]) := by
  rw [iaSA_sl h, List.getElem?_map, List.getElem?_eq_getElem h2]
  have : bs.getD n.toNat 0 = bs[n.toNat] := by simp [List.getD, h2]
  rw [this]; rfl
theorem dec_t (h : Decidable True) : @decide True h = true := by simp
theorem dec_f (h : Decidable False) : @decide False h = false := by simp
theorem mkv_agg {n : Nat} {cs : List AV} : mkv true n cs = .agg (cs.take n) := rfl
theorem cells_sl {xs : List AV} {o : Own} : AV.cells (.sl xs o) = [.sl xs o] := rfl
theorem cells_v {x : Value} : AV.cells (.v x) = [.v x] := rfl
theorem cells_ptr {l o : Nat} : AV.cells (.ptr l o) = [.ptr l o] := rfl
theorem cells_rptr {cs : List AV} : AV.cells (.rptr cs) = [.rptr cs] := rfl
theorem cells_iface {t : TypeId} {x : AV} : AV.cells (.iface t x) = [.iface t x] := rfl
theorem cells_agg {cs : List AV} : AV.cells (.agg cs) = cs := rfl
theorem putAt_all {cs ys : List AV} (h : ys.length = cs.length) : putAt cs 0 ys = ys := by simp [putAt, h]
theorem mkv_one {x : AV} {r : List AV} : mkv false 1 (x :: r) = x := rfl

section
variable (x y : UInt32)
theorem add_u32 : binV .add (.int .u32 x.toNat) (.int .u32 y.toNat) = some (.int .u32 (x + y).toNat) := by
  simp [binV, isShift, binInt, wrap_u32_mod, UInt32.toNat_add]
theorem sub_u32 : binV .sub (.int .u32 x.toNat) (.int .u32 y.toNat) = some (.int .u32 (x - y).toNat) := by
  have := x.toNat_lt; have := y.toNat_lt
  simp only [binV, isShift, binInt, wrap_u32_mod, UInt32.toNat_sub]
  simp; omega
theorem mul_u32 : binV .mul (.int .u32 x.toNat) (.int .u32 y.toNat) = some (.int .u32 (x * y).toNat) := by
  simp [binV, isShift, binInt, wrap_u32_mod, UInt32.toNat_mul]
theorem wrap_u32_nat (n : Nat) (h : n < 4294967296) : IntKind.u32.wrap (n : Int) = n := wrap_u32 (by omega) (by omega)
theorem ofInt_u32 : BitVec.ofInt 32 (x.toNat : Int) = x.toBitVec := by
  rw [BitVec.ofInt_natCast]; exact BitVec.eq_of_toNat_eq (by simp)
theorem and_u32 : binV .and (.int .u32 x.toNat) (.int .u32 y.toNat) = some (.int .u32 (x &&& y).toNat) := by
  have h : binV .and (.int .u32 x.toNat) (.int .u32 y.toNat) = some (.int .u32 (IntKind.u32.wrap (BitVec.ofInt 32 (x.toNat : Int) &&& BitVec.ofInt 32 (y.toNat : Int)).toNat)) := rfl
  rw [h, ofInt_u32, ofInt_u32, wrap_u32_nat _ (BitVec.isLt _)]; rfl
theorem or_u32 : binV .or (.int .u32 x.toNat) (.int .u32 y.toNat) = some (.int .u32 (x ||| y).toNat) := by
  have h : binV .or (.int .u32 x.toNat) (.int .u32 y.toNat) = some (.int .u32 (IntKind.u32.wrap (BitVec.ofInt 32 (x.toNat : Int) ||| BitVec.ofInt 32 (y.toNat : Int)).toNat)) := rfl
  rw [h, ofInt_u32, ofInt_u32, wrap_u32_nat _ (BitVec.isLt _)]; rfl
theorem xor_u32 : binV .xor (.int .u32 x.toNat) (.int .u32 y.toNat) = some (.int .u32 (x ^^^ y).toNat) := by
  have h : binV .xor (.int .u32 x.toNat) (.int .u32 y.toNat) = some (.int .u32 (IntKind.u32.wrap (BitVec.ofInt 32 (x.toNat : Int) ^^^ BitVec.ofInt 32 (y.toNat : Int)).toNat)) := rfl
  rw [h, ofInt_u32, ofInt_u32, wrap_u32_nat _ (BitVec.isLt _)]; rfl
theorem com_u32 : unV .xor (.int .u32 x.toNat) = some (.int .u32 (~~~x).toNat) := by
  have h : unV .xor (.int .u32 x.toNat) = some (.int .u32 (IntKind.u32.wrap (BitVec.ofInt 32 4294967295 ^^^ BitVec.ofInt 32 (x.toNat : Int)).toNat)) := rfl
  rw [h, ofInt_u32, wrap_u32_nat _ (BitVec.isLt _)]
  have : (BitVec.ofInt 32 4294967295 ^^^ x.toBitVec) = ~~~x.toBitVec := by rw [BitVec.not_def]; rfl
  rw [this]; rfl
theorem shl_u32 (k : IntKind) (n : Int) (h : 0 ≤ n) (h2 : n < 32) : binV .shl (.int .u32 x.toNat) (.int k n) = some (.int .u32 (x <<< UInt32.ofNat n.toNat).toNat) := by
  obtain ⟨m, rfl⟩ : ∃ m : Nat, n = m := ⟨n.toNat, by omega⟩
  have hm : m < 32 := by omega
  have e : min m IntKind.u32.bits = m := by simp [IntKind.bits]; omega
  simp only [binV, isShift, if_true, shiftInt, if_neg (show ¬ (m : Int) < 0 by omega), Int.toNat_natCast, e, wrap_u32_mod, UInt32.toNat_shiftLeft, UInt32.toNat_ofNat', Nat.shiftLeft_eq]
  have e2 : m % 2 ^ 32 % 32 = m := by omega
  rw [e2]; simp
theorem shr_u32 (k : IntKind) (n : Int) (h : 0 ≤ n) (h2 : n < 32) : binV .shr (.int .u32 x.toNat) (.int k n) = some (.int .u32 (x >>> UInt32.ofNat n.toNat).toNat) := by
  obtain ⟨m, rfl⟩ : ∃ m : Nat, n = m := ⟨n.toNat, by omega⟩
  have hm : m < 32 := by omega
  have e : min m IntKind.u32.bits = m := by simp [IntKind.bits]; omega
  simp only [binV, isShift, if_true, shiftInt, if_neg (show ¬ (m : Int) < 0 by omega), Int.toNat_natCast, e, UInt32.toNat_shiftRight, UInt32.toNat_ofNat', Nat.shiftRight_eq_div_pow]
  have e2 : m % 2 ^ 32 % 32 = m := by omega
  have hp : (2 : Int) ^ m = ((2 ^ m : Nat) : Int) := by simp
  rw [e2, hp, Int.fdiv_eq_ediv_of_nonneg _ (Int.natCast_nonneg _), ← Int.natCast_ediv]
end

end Go.Av
