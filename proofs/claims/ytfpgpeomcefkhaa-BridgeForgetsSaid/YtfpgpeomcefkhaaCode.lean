/- The program's functions, told as operations on abstract values. -/
import Derived.Test.YtfpgpeomcefkhaaAx30
import Derived.Test.YtfpgpeomcefkhaaProg
namespace Go.Proofs.Ytfpgpeomcefkhaa

/-- caravel/caravellaw12.BridgeForgets: 2 in. -/
def c_caravellaw12_BridgeForgets : ACode :=
  (.seq (.reg [⟨some 4, .mv (.cst (.bool false)), none⟩])
  (.seq (.seq (.reg [⟨some 20, .call 6 [], none⟩,
    ⟨some 21, .not (.tmp 20), none⟩,
    ⟨some 22, .mv (.tmp 21), none⟩,
    ⟨some 23, .mv (.tmp 0), some (22, false)⟩,
    ⟨some 24, .lenV (.tmp 23), some (22, false)⟩,
    ⟨some 25, .bin .gtr (.tmp 24) (.cst (.int .i64 80)), some (22, false)⟩,
    ⟨some 26, .pick (.tmp 22) (.cst (.bool true)) (.tmp 25), none⟩,
    ⟨some 27, .mv (.tmp 26), none⟩,
    ⟨some 28, .mv (.tmp 1), some (27, false)⟩,
    ⟨some 29, .lenV (.tmp 28), some (27, false)⟩,
    ⟨some 30, .bin .gtr (.tmp 29) (.cst (.int .i64 80)), some (27, false)⟩,
    ⟨some 31, .pick (.tmp 27) (.cst (.bool true)) (.tmp 30), none⟩])
  (.cond (.tmp 31)
    (.seq (.reg [⟨some 32, .call 6 [], none⟩,
      ⟨some 4, .mv (.tmp 32), none⟩])
    .ret)
    .skip))
  (.seq (.reg [⟨some 34, .call 8 [(.cst (.int .i64 8))], none⟩,
    ⟨some 33, .mv (.tmp 34), none⟩,
    ⟨some 35, .ext (.tmp 33) 0, none⟩,
    ⟨some 36, .ext (.tmp 33) 1, none⟩,
    ⟨some 5, .newb [(.int .i64 0), .nil], none⟩,
    ⟨none, .store 2 (.tmp 5) (.tmp 35), none⟩,
    ⟨some 6, .mv (.tmp 36), none⟩])
  (.seq (.seq (.reg [⟨some 37, .mv (.tmp 6), none⟩,
    ⟨some 38, .bin .neq (.tmp 37) (.cst (.int .i64 0)), none⟩])
  (.cond (.tmp 38)
    (.seq (.reg [⟨some 4, .mv (.cst (.bool false)), none⟩])
    .ret)
    .skip))
  (.seq (.reg [⟨some 39, .callv (.cst (.int .i64 848)) [], none⟩,
    ⟨some 7, .mv (.tmp 39), none⟩])
  (.seq (.reg [⟨some 8, .mv (.cst .nil), none⟩])
  (.seq (.seq (.reg [⟨some 40, .mv (.tmp 0), none⟩,
    ⟨some 41, .lenV (.tmp 40), none⟩,
    ⟨some 42, .mv (.cst (.int .i64 0)), none⟩])
  (.block 0 (.loop
    (.seq (.reg [⟨some 43, .bin .lss (.tmp 42) (.tmp 41), none⟩])
    (.seq (.cond (.tmp 43)
      .skip
      (.exit 0))
    (.seq (.block 1 (.seq (.reg [⟨some 44, .mv (.tmp 42), none⟩,
      ⟨some 45, .iadS 1 (.tmp 40) (.tmp 42), none⟩,
      ⟨some 46, .load false 1 (.tmp 45), none⟩,
      ⟨some 9, .mv (.tmp 44), none⟩,
      ⟨some 10, .mv (.tmp 46), none⟩])
    (.seq (.reg [⟨some 11, .mv (.cst (.int .i64 0)), none⟩])
    (.seq (.seq (.reg [⟨some 47, .mv (.tmp 9), none⟩,
      ⟨some 48, .mv (.tmp 1), none⟩,
      ⟨some 49, .lenV (.tmp 48), none⟩,
      ⟨some 50, .bin .lss (.tmp 47) (.tmp 49), none⟩])
    (.cond (.tmp 50)
      (.reg [⟨some 51, .mv (.tmp 1), none⟩,
        ⟨some 52, .mv (.tmp 9), none⟩,
        ⟨some 53, .iadS 1 (.tmp 51) (.tmp 52), none⟩,
        ⟨some 54, .load false 1 (.tmp 53), none⟩,
        ⟨some 55, .bin .rem (.tmp 54) (.cst (.int .u8 8)), none⟩,
        ⟨some 56, .conv .i64 (.tmp 55), none⟩,
        ⟨some 11, .mv (.tmp 56), none⟩])
      .skip))
    (.seq (.drw [⟨some 58, .load true 2 (.tmp 5), none⟩,
      ⟨some 59, .mv (.tmp 11), none⟩,
      ⟨some 60, .build [(.int .u8 0), (.int .u8 0), (.int .u8 0), (.int .u8 0), (.int .u8 0), (.int .u8 0)] [(0, 1, (.cst (.int .u8 4))), (1, 1, (.cst (.int .u8 4)))], none⟩,
      ⟨some 61, .mv (.tmp 10), none⟩,
      ⟨some 62, .build [(.int .u8 0), (.int .u8 0), (.int .u8 0), (.int .u8 0), (.int .u8 0), (.int .u8 0)] [(0, 1, (.cst (.int .u8 2))), (1, 1, (.tmp 61))], none⟩,
      ⟨some 63, .call 15 [(.tmp 60), (.tmp 62)], none⟩,
      ⟨some 64, .call 9 [(.tmp 58), (.tmp 59), (.tmp 63)], none⟩,
      ⟨some 57, .mv (.tmp 64), none⟩,
      ⟨some 65, .ext (.tmp 57) 0, none⟩,
      ⟨some 66, .ext (.tmp 57) 1, none⟩,
      ⟨some 67, .ext (.tmp 57) 2, none⟩,
      ⟨some 12, .newb [(.int .i64 0), .nil], none⟩,
      ⟨none, .store 2 (.tmp 12) (.tmp 65), none⟩,
      ⟨some 13, .mv (.tmp 66), none⟩,
      ⟨some 14, .mv (.tmp 67), none⟩] [[], [], [], [], [], [], [], [], [], [], [], [], [], [], []])
    (.seq (.seq (.reg [⟨some 68, .load true 2 (.tmp 12), none⟩,
      ⟨none, .store 2 (.tmp 5) (.tmp 68), none⟩])
    (.seq (.reg [⟨some 69, .mv (.tmp 14), none⟩,
      ⟨some 70, .bin .neq (.tmp 69) (.cst (.int .i64 0)), none⟩])
    (.cond (.tmp 70)
      (.seq (.reg [⟨some 4, .mv (.cst (.bool false)), none⟩])
      .ret)
      .skip)))
    (.seq (.reg [⟨some 71, .mv (.tmp 7), none⟩,
      ⟨some 72, .mv (.tmp 10), none⟩,
      ⟨some 73, .mv (.tmp 11), none⟩,
      ⟨none, .callv (.cst (.int .i64 849)) [(.tmp 71), (.tmp 72), (.tmp 73)], none⟩])
    (.reg [⟨some 74, .mv (.tmp 8), none⟩,
      ⟨some 75, .mv (.tmp 10), none⟩,
      ⟨some 76, .bsl 1 [(.tmp 75)], none⟩,
      ⟨some 77, .app 1 1 (.tmp 74) (.tmp 76), none⟩,
      ⟨some 8, .mv (.tmp 77), none⟩]))))))))
    (.reg [⟨some 78, .bin .add (.tmp 42) (.cst (.int .i64 1)), none⟩,
      ⟨some 42, .mv (.tmp 78), none⟩])))))))
  (.seq (.reg [⟨some 79, .callv (.cst (.int .i64 864)) [], none⟩,
    ⟨some 15, .mv (.tmp 79), none⟩])
  (.seq (.seq (.reg [⟨some 80, .mv (.tmp 8), none⟩,
    ⟨some 81, .lenV (.tmp 80), none⟩,
    ⟨some 82, .bin .sub (.tmp 81) (.cst (.int .i64 1)), none⟩,
    ⟨some 16, .mv (.tmp 82), none⟩])
  (.block 2 (.loop
    (.seq (.seq (.reg [⟨some 83, .mv (.tmp 16), none⟩,
      ⟨some 84, .bin .geq (.tmp 83) (.cst (.int .i64 0)), none⟩])
    (.cond (.tmp 84)
      .skip
      (.exit 2)))
    (.seq (.block 3 (.seq (.reg [⟨some 87, .mv (.tmp 8), none⟩,
      ⟨some 88, .mv (.tmp 16), none⟩,
      ⟨some 89, .iadS 1 (.tmp 87) (.tmp 88), none⟩,
      ⟨some 90, .load false 1 (.tmp 89), none⟩,
      ⟨some 17, .mv (.tmp 90), none⟩])
    (.seq (.seq (.reg [⟨some 91, .mv (.tmp 15), none⟩,
      ⟨some 92, .mv (.tmp 17), none⟩,
      ⟨some 93, .callv (.cst (.int .i64 866)) [(.tmp 91), (.tmp 92)], none⟩])
    (.cond (.tmp 93)
      (.exit 3)
      .skip))
    (.seq (.reg [⟨some 95, .load true 2 (.tmp 5), none⟩,
      ⟨some 96, .mv (.tmp 17), none⟩,
      ⟨some 97, .build [(.int .u8 0), (.int .u8 0), (.int .u8 0), (.int .u8 0), (.int .u8 0), (.int .u8 0)] [(0, 1, (.cst (.int .u8 2))), (1, 1, (.tmp 96))], none⟩,
      ⟨some 98, .call 13 [(.tmp 95), (.tmp 97)], none⟩,
      ⟨some 94, .mv (.tmp 98), none⟩,
      ⟨some 99, .ext (.tmp 94) 0, none⟩,
      ⟨some 100, .ext (.tmp 94) 1, none⟩,
      ⟨some 18, .mv (.tmp 99), none⟩,
      ⟨some 19, .mv (.tmp 100), none⟩])
    (.seq (.seq (.reg [⟨some 101, .mv (.tmp 19), none⟩,
      ⟨some 102, .mv (.tmp 15), none⟩,
      ⟨some 103, .callv (.cst (.int .i64 869)) [(.tmp 102)], none⟩,
      ⟨some 104, .bin .lss (.tmp 103) (.cst (.int .i64 16)), none⟩,
      ⟨some 105, .binB true (.tmp 101) (.tmp 104), none⟩,
      ⟨some 106, .mv (.tmp 105), none⟩,
      ⟨some 107, .mv (.tmp 19), some (106, false)⟩,
      ⟨some 108, .mv (.tmp 107), some (106, false)⟩,
      ⟨some 109, .mv (.tmp 18), some (108, true)⟩,
      ⟨some 110, .mv (.tmp 7), some (108, true)⟩,
      ⟨some 111, .mv (.tmp 17), some (108, true)⟩,
      ⟨some 112, .callv (.cst (.int .i64 850)) [(.tmp 110), (.tmp 111)], some (108, true)⟩,
      ⟨some 113, .bin .neq (.tmp 109) (.tmp 112), some (108, true)⟩,
      ⟨some 114, .pick (.tmp 108) (.tmp 113) (.cst (.bool false)), some (106, false)⟩,
      ⟨some 115, .pick (.tmp 106) (.cst (.bool true)) (.tmp 114), none⟩])
    (.cond (.tmp 115)
      (.seq (.reg [⟨some 4, .mv (.cst (.bool false)), none⟩])
      .ret)
      .skip))
    (.reg [⟨some 116, .mv (.tmp 15), none⟩,
      ⟨some 117, .mv (.tmp 17), none⟩,
      ⟨none, .callv (.cst (.int .i64 865)) [(.tmp 116), (.tmp 117), (.cst (.bool true))], none⟩]))))))
    (.reg [⟨some 85, .mv (.tmp 16), none⟩,
      ⟨some 86, .bin .sub (.tmp 85) (.cst (.int .i64 1)), none⟩,
      ⟨some 16, .mv (.tmp 86), none⟩]))))))
  (.seq (.reg [⟨some 118, .fadr 1 (.tmp 5), none⟩,
    ⟨some 119, .load false 1 (.tmp 118), none⟩,
    ⟨some 120, .lenV (.tmp 119), none⟩,
    ⟨some 121, .mv (.tmp 15), none⟩,
    ⟨some 122, .callv (.cst (.int .i64 869)) [(.tmp 121)], none⟩,
    ⟨some 123, .min [(.tmp 122), (.cst (.int .i64 16))], none⟩,
    ⟨some 124, .bin .eql (.tmp 120) (.tmp 123), none⟩,
    ⟨some 4, .mv (.tmp 124), none⟩])
  .ret))))))))))
theorem p_caravellaw12_BridgeForgets : Try.f5.body.bind (compC Try.prog 125) = some c_caravellaw12_BridgeForgets := by kernel_rfl
theorem r_caravellaw12_BridgeForgets : tellR Try.prog Try.f5.results.toList = some [.t 4] := by kernel_rfl

/-- caravel/caravellaw12.lives: 0 in. -/
def c_caravellaw12_lives : ACode :=
  (.seq (.reg [⟨some 0, .mv (.cst (.bool false)), none⟩])
  (.seq (.reg [⟨some 12, .build [(.int .u8 0), (.int .u8 0), (.int .u8 0), (.int .u8 0), (.int .u8 0), (.int .u8 0)] [(0, 1, (.cst (.int .u8 2))), (1, 1, (.cst (.int .u8 1)))], none⟩,
    ⟨some 13, .build [(.int .u8 0), (.int .u8 0), (.int .u8 0), (.int .u8 0), (.int .u8 0), (.int .u8 0)] [(0, 1, (.cst (.int .u8 2))), (1, 1, (.cst (.int .u8 2)))], none⟩,
    ⟨some 1, .newa [(.int .u8 0), (.int .u8 0), (.int .u8 0), (.int .u8 0), (.int .u8 0), (.int .u8 0)], none⟩,
    ⟨some 2, .newa [(.int .u8 0), (.int .u8 0), (.int .u8 0), (.int .u8 0), (.int .u8 0), (.int .u8 0)], none⟩,
    ⟨none, .store 6 (.tmp 1) (.tmp 12), none⟩,
    ⟨none, .store 6 (.tmp 2) (.tmp 13), none⟩])
  (.seq (.reg [⟨some 15, .call 8 [(.cst (.int .i64 3))], none⟩,
    ⟨some 14, .mv (.tmp 15), none⟩,
    ⟨some 16, .ext (.tmp 14) 0, none⟩,
    ⟨some 17, .ext (.tmp 14) 1, none⟩,
    ⟨some 3, .newb [(.int .i64 0), .nil], none⟩,
    ⟨none, .store 2 (.tmp 3) (.tmp 16), none⟩,
    ⟨some 4, .mv (.tmp 17), none⟩])
  (.seq (.drw [⟨some 19, .load true 2 (.tmp 3), none⟩,
    ⟨some 20, .load true 6 (.tmp 2), none⟩,
    ⟨some 21, .load true 6 (.tmp 1), none⟩,
    ⟨some 22, .call 15 [(.tmp 20), (.tmp 21)], none⟩,
    ⟨some 23, .call 9 [(.tmp 19), (.cst (.int .i64 0)), (.tmp 22)], none⟩,
    ⟨some 18, .mv (.tmp 23), none⟩,
    ⟨some 24, .ext (.tmp 18) 0, none⟩,
    ⟨some 25, .ext (.tmp 18) 1, none⟩,
    ⟨some 26, .ext (.tmp 18) 2, none⟩,
    ⟨none, .store 2 (.tmp 3) (.tmp 24), none⟩,
    ⟨some 5, .mv (.tmp 25), none⟩,
    ⟨some 6, .mv (.tmp 26), none⟩] [[], [], [], [], [], [], [], [], [], [], [], []])
  (.seq (.drw [⟨some 28, .load true 2 (.tmp 3), none⟩,
    ⟨some 29, .load true 6 (.tmp 1), none⟩,
    ⟨some 30, .load true 6 (.tmp 2), none⟩,
    ⟨some 31, .call 15 [(.tmp 29), (.tmp 30)], none⟩,
    ⟨some 32, .call 9 [(.tmp 28), (.cst (.int .i64 2)), (.tmp 31)], none⟩,
    ⟨some 27, .mv (.tmp 32), none⟩,
    ⟨some 33, .ext (.tmp 27) 0, none⟩,
    ⟨some 34, .ext (.tmp 27) 1, none⟩,
    ⟨some 35, .ext (.tmp 27) 2, none⟩,
    ⟨none, .store 2 (.tmp 3) (.tmp 33), none⟩,
    ⟨some 7, .mv (.tmp 34), none⟩,
    ⟨some 8, .mv (.tmp 35), none⟩] [[], [], [], [], [], [], [], [], [], [], [], []])
  (.seq (.drw [⟨some 37, .load true 2 (.tmp 3), none⟩,
    ⟨some 38, .load true 6 (.tmp 2), none⟩,
    ⟨some 39, .load true 6 (.tmp 1), none⟩,
    ⟨some 40, .call 15 [(.tmp 38), (.tmp 39)], none⟩,
    ⟨some 41, .call 9 [(.tmp 37), (.cst (.int .i64 0)), (.tmp 40)], none⟩,
    ⟨some 36, .mv (.tmp 41), none⟩,
    ⟨some 42, .ext (.tmp 36) 0, none⟩,
    ⟨some 43, .ext (.tmp 36) 1, none⟩,
    ⟨some 44, .ext (.tmp 36) 2, none⟩,
    ⟨some 9, .newb [(.int .i64 0), .nil], none⟩,
    ⟨none, .store 2 (.tmp 9) (.tmp 42), none⟩,
    ⟨some 10, .mv (.tmp 43), none⟩,
    ⟨some 11, .mv (.tmp 44), none⟩] [[], [], [], [], [], [], [], [], [], [], [], [], []])
  (.seq (.reg [⟨some 45, .mv (.tmp 4), none⟩,
    ⟨some 46, .bin .eql (.tmp 45) (.cst (.int .i64 0)), none⟩,
    ⟨some 47, .mv (.tmp 46), none⟩,
    ⟨some 48, .mv (.tmp 6), some (47, true)⟩,
    ⟨some 49, .bin .eql (.tmp 48) (.cst (.int .i64 0)), some (47, true)⟩,
    ⟨some 50, .pick (.tmp 47) (.tmp 49) (.cst (.bool false)), none⟩,
    ⟨some 51, .mv (.tmp 50), none⟩,
    ⟨some 52, .mv (.tmp 8), some (51, true)⟩,
    ⟨some 53, .bin .eql (.tmp 52) (.cst (.int .i64 0)), some (51, true)⟩,
    ⟨some 54, .pick (.tmp 51) (.tmp 53) (.cst (.bool false)), none⟩,
    ⟨some 55, .mv (.tmp 54), none⟩,
    ⟨some 56, .mv (.tmp 11), some (55, true)⟩,
    ⟨some 57, .bin .eql (.tmp 56) (.cst (.int .i64 0)), some (55, true)⟩,
    ⟨some 58, .pick (.tmp 55) (.tmp 57) (.cst (.bool false)), none⟩,
    ⟨some 59, .mv (.tmp 58), none⟩,
    ⟨some 60, .mv (.tmp 5), some (59, true)⟩,
    ⟨some 61, .lenV (.tmp 60), some (59, true)⟩,
    ⟨some 62, .bin .eql (.tmp 61) (.cst (.int .i64 2)), some (59, true)⟩,
    ⟨some 63, .pick (.tmp 59) (.tmp 62) (.cst (.bool false)), none⟩,
    ⟨some 64, .mv (.tmp 63), none⟩,
    ⟨some 65, .mv (.tmp 7), some (64, true)⟩,
    ⟨some 66, .lenV (.tmp 65), some (64, true)⟩,
    ⟨some 67, .bin .eql (.tmp 66) (.cst (.int .i64 1)), some (64, true)⟩,
    ⟨some 68, .pick (.tmp 64) (.tmp 67) (.cst (.bool false)), none⟩,
    ⟨some 69, .mv (.tmp 68), none⟩,
    ⟨some 70, .mv (.tmp 7), some (69, true)⟩,
    ⟨some 71, .iadS 1 (.tmp 70) (.cst (.int .i64 0)), some (69, true)⟩,
    ⟨some 72, .load false 1 (.tmp 71), some (69, true)⟩,
    ⟨some 73, .bin .eql (.tmp 72) (.cst (.int .i64 0)), some (69, true)⟩,
    ⟨some 74, .pick (.tmp 69) (.tmp 73) (.cst (.bool false)), none⟩,
    ⟨some 75, .mv (.tmp 74), none⟩,
    ⟨some 76, .mv (.tmp 10), some (75, true)⟩,
    ⟨some 77, .lenV (.tmp 76), some (75, true)⟩,
    ⟨some 78, .bin .eql (.tmp 77) (.cst (.int .i64 1)), some (75, true)⟩,
    ⟨some 79, .pick (.tmp 75) (.tmp 78) (.cst (.bool false)), none⟩,
    ⟨some 80, .mv (.tmp 79), none⟩,
    ⟨some 81, .mv (.tmp 10), some (80, true)⟩,
    ⟨some 82, .iadS 1 (.tmp 81) (.cst (.int .i64 0)), some (80, true)⟩,
    ⟨some 83, .load false 1 (.tmp 82), some (80, true)⟩,
    ⟨some 84, .bin .eql (.tmp 83) (.cst (.int .i64 2)), some (80, true)⟩,
    ⟨some 85, .pick (.tmp 80) (.tmp 84) (.cst (.bool false)), none⟩,
    ⟨some 0, .mv (.tmp 85), none⟩])
  .ret)))))))
theorem p_caravellaw12_lives : Try.f6.body.bind (compC Try.prog 86) = some c_caravellaw12_lives := by kernel_rfl
theorem r_caravellaw12_lives : tellR Try.prog Try.f6.results.toList = some [.t 0] := by kernel_rfl

/-- caravel/bridge.New: 1 in. -/
def c_bridge_New : ACode :=
  (.seq (.reg [⟨some 2, .newb [(.int .i64 0), .nil], none⟩,
    ⟨some 3, .mv (.cst (.int .i64 0)), none⟩])
  (.seq (.seq (.reg [⟨some 4, .mv (.tmp 0), none⟩,
    ⟨some 5, .bin .lss (.tmp 4) (.cst (.int .i64 1)), none⟩,
    ⟨some 6, .mv (.tmp 5), none⟩,
    ⟨some 7, .mv (.tmp 0), some (6, false)⟩,
    ⟨some 8, .bin .gtr (.tmp 7) (.cst (.int .i64 8)), some (6, false)⟩,
    ⟨some 9, .pick (.tmp 6) (.cst (.bool true)) (.tmp 8), none⟩])
  (.cond (.tmp 9)
    (.seq (.reg [⟨some 10, .build [(.int .i64 0), .nil] [], none⟩,
      ⟨none, .store 2 (.tmp 2) (.tmp 10), none⟩,
      ⟨some 3, .mv (.cst (.int .i64 1)), none⟩])
    .ret)
    .skip))
  (.seq (.reg [⟨some 11, .mv (.tmp 0), none⟩,
    ⟨some 12, .build [(.int .i64 0), .nil] [(0, 1, (.tmp 11))], none⟩,
    ⟨none, .store 2 (.tmp 2) (.tmp 12), none⟩,
    ⟨some 3, .mv (.cst (.int .i64 0)), none⟩])
  .ret)))
theorem p_bridge_New : Try.f8.body.bind (compC Try.prog 13) = some c_bridge_New := by kernel_rfl
theorem r_bridge_New : tellR Try.prog Try.f8.results.toList = some [.c 2 true 2, .t 3] := by kernel_rfl

/-- caravel/bridge.Forward: 3 in. -/
def c_bridge_Forward : ACode :=
  (.seq (.reg [⟨some 3, .box (.tmp 0), none⟩,
    ⟨some 6, .newb [(.int .i64 0), .nil], none⟩,
    ⟨some 7, .mv (.cst .nil), none⟩,
    ⟨some 8, .mv (.cst (.int .i64 0)), none⟩])
  (.seq (.drw [⟨some 16, .fadr 0 (.tmp 3), none⟩,
    ⟨some 17, .load false 1 (.tmp 16), none⟩,
    ⟨some 18, .fadr 1 (.tmp 3), none⟩,
    ⟨some 19, .load false 1 (.tmp 18), none⟩,
    ⟨some 20, .call 17 [(.tmp 19)], none⟩,
    ⟨some 21, .build [(.int .i64 0), .nil] [(0, 1, (.tmp 17)), (1, 1, (.tmp 20))], none⟩,
    ⟨some 9, .newb [(.int .i64 0), .nil], none⟩,
    ⟨none, .store 2 (.tmp 9) (.tmp 21), none⟩] [[], [], [], [], [], [], [], []])
  (.seq (.block 0 (.seq (.reg [⟨some 23, .mv (.tmp 1), none⟩,
    ⟨some 24, .bin .lss (.tmp 23) (.cst (.int .i64 0)), none⟩,
    ⟨some 25, .mv (.tmp 24), none⟩,
    ⟨some 26, .mv (.tmp 1), some (25, false)⟩,
    ⟨some 27, .fadr 0 (.tmp 3), some (25, false)⟩,
    ⟨some 28, .load false 1 (.tmp 27), some (25, false)⟩,
    ⟨some 29, .bin .geq (.tmp 26) (.tmp 28), some (25, false)⟩,
    ⟨some 30, .pick (.tmp 25) (.cst (.bool true)) (.tmp 29), none⟩,
    ⟨some 22, .mv (.tmp 30), none⟩])
  (.cond (.tmp 22)
    (.seq (.reg [⟨some 31, .load true 2 (.tmp 9), none⟩,
      ⟨none, .store 2 (.tmp 6) (.tmp 31), none⟩,
      ⟨some 7, .mv (.cst .nil), none⟩,
      ⟨some 8, .mv (.cst (.int .i64 1)), none⟩])
    .ret)
    (.seq (.reg [⟨some 33, .mv (.tmp 2), none⟩,
      ⟨some 34, .lenV (.tmp 33), none⟩,
      ⟨some 35, .bin .lss (.tmp 34) (.cst (.int .i64 14)), none⟩,
      ⟨some 32, .mv (.tmp 35), none⟩])
    (.cond (.tmp 32)
      (.seq (.reg [⟨some 36, .load true 2 (.tmp 9), none⟩,
        ⟨none, .store 2 (.tmp 6) (.tmp 36), none⟩,
        ⟨some 7, .mv (.cst .nil), none⟩,
        ⟨some 8, .mv (.cst (.int .i64 6)), none⟩])
      .ret)
      .skip)))))
  (.seq (.reg [⟨some 10, .newa [(.int .u8 0), (.int .u8 0), (.int .u8 0), (.int .u8 0), (.int .u8 0), (.int .u8 0)], none⟩,
    ⟨some 11, .newa [(.int .u8 0), (.int .u8 0), (.int .u8 0), (.int .u8 0), (.int .u8 0), (.int .u8 0)], none⟩])
  (.seq (.reg [⟨some 37, .slA 6 (.tmp 10) none none, none⟩,
    ⟨some 38, .mv (.tmp 2), none⟩,
    ⟨some 39, .cpy 1 (.tmp 37) (.tmp 38), none⟩])
  (.seq (.reg [⟨some 40, .slA 6 (.tmp 11) none none, none⟩,
    ⟨some 41, .mv (.tmp 2), none⟩,
    ⟨some 42, .slS 1 (.tmp 41) (some (.cst (.int .i64 6))) none none, none⟩,
    ⟨some 43, .cpy 1 (.tmp 40) (.tmp 42), none⟩])
  (.seq (.seq (.reg [⟨some 44, .load true 6 (.tmp 11), none⟩,
    ⟨some 45, .call 18 [(.tmp 44)], none⟩,
    ⟨some 46, .not (.tmp 45), none⟩])
  (.cond (.tmp 46)
    (.reg [⟨some 47, .load true 2 (.tmp 9), none⟩,
      ⟨some 48, .load true 6 (.tmp 11), none⟩,
      ⟨some 49, .mv (.tmp 1), none⟩,
      ⟨some 50, .call 19 [(.tmp 47), (.tmp 48), (.tmp 49)], none⟩,
      ⟨none, .store 2 (.tmp 9) (.tmp 50), none⟩])
    .skip))
  (.seq (.seq (.reg [⟨some 52, .load true 2 (.tmp 9), none⟩,
    ⟨some 53, .load true 6 (.tmp 10), none⟩,
    ⟨some 54, .call 13 [(.tmp 52), (.tmp 53)], none⟩,
    ⟨some 51, .mv (.tmp 54), none⟩,
    ⟨some 55, .ext (.tmp 51) 0, none⟩,
    ⟨some 56, .ext (.tmp 51) 1, none⟩,
    ⟨some 12, .mv (.tmp 55), none⟩,
    ⟨some 13, .mv (.tmp 56), none⟩])
  (.seq (.drw [⟨some 57, .mv (.tmp 13), none⟩,
    ⟨some 58, .mv (.tmp 57), none⟩,
    ⟨some 59, .load true 6 (.tmp 10), some (58, true)⟩,
    ⟨some 60, .call 16 [], some (58, true)⟩,
    ⟨some 61, .eqA true [0, 0, 0, 0, 0, 0] (.tmp 59) (.tmp 60), some (58, true)⟩,
    ⟨some 62, .pick (.tmp 58) (.tmp 61) (.cst (.bool false)), none⟩] [[], [], [], [], [], []])
  (.cond (.tmp 62)
    (.seq (.seq (.reg [⟨some 63, .mv (.tmp 12), none⟩,
      ⟨some 64, .mv (.tmp 1), none⟩,
      ⟨some 65, .bin .eql (.tmp 63) (.tmp 64), none⟩])
    (.cond (.tmp 65)
      (.seq (.reg [⟨some 66, .load true 2 (.tmp 9), none⟩,
        ⟨none, .store 2 (.tmp 6) (.tmp 66), none⟩,
        ⟨some 7, .mv (.cst .nil), none⟩,
        ⟨some 8, .mv (.cst (.int .i64 0)), none⟩])
      .ret)
      .skip))
    (.seq (.reg [⟨some 67, .load true 2 (.tmp 9), none⟩,
      ⟨some 68, .mv (.tmp 12), none⟩,
      ⟨some 69, .bsl 1 [(.tmp 68)], none⟩,
      ⟨none, .store 2 (.tmp 6) (.tmp 67), none⟩,
      ⟨some 7, .mv (.tmp 69), none⟩,
      ⟨some 8, .mv (.cst (.int .i64 0)), none⟩])
    .ret))
    .skip)))
  (.seq (.reg [⟨some 14, .mv (.cst .nil), none⟩])
  (.seq (.seq (.reg [⟨some 70, .fadr 0 (.tmp 3), none⟩,
    ⟨some 71, .load false 1 (.tmp 70), none⟩,
    ⟨some 72, .mv (.cst (.int .i64 0)), none⟩])
  (.block 1 (.loop
    (.seq (.reg [⟨some 73, .bin .lss (.tmp 72) (.tmp 71), none⟩])
    (.seq (.cond (.tmp 73)
      .skip
      (.exit 1))
    (.seq (.block 2 (.seq (.reg [⟨some 74, .mv (.tmp 72), none⟩,
      ⟨some 15, .mv (.tmp 74), none⟩])
    (.seq (.reg [⟨some 75, .mv (.tmp 15), none⟩,
      ⟨some 76, .mv (.tmp 1), none⟩,
      ⟨some 77, .bin .neq (.tmp 75) (.tmp 76), none⟩])
    (.cond (.tmp 77)
      (.reg [⟨some 78, .mv (.tmp 14), none⟩,
        ⟨some 79, .mv (.tmp 15), none⟩,
        ⟨some 80, .bsl 1 [(.tmp 79)], none⟩,
        ⟨some 81, .app 1 8 (.tmp 78) (.tmp 80), none⟩,
        ⟨some 14, .mv (.tmp 81), none⟩])
      .skip))))
    (.reg [⟨some 82, .bin .add (.tmp 72) (.cst (.int .i64 1)), none⟩,
      ⟨some 72, .mv (.tmp 82), none⟩])))))))
  (.seq (.reg [⟨some 83, .load true 2 (.tmp 9), none⟩,
    ⟨some 84, .mv (.tmp 14), none⟩,
    ⟨none, .store 2 (.tmp 6) (.tmp 83), none⟩,
    ⟨some 7, .mv (.tmp 84), none⟩,
    ⟨some 8, .mv (.cst (.int .i64 0)), none⟩])
  .ret)))))))))))
theorem p_bridge_Forward : Try.f9.body.bind (compC Try.prog 85) = some c_bridge_Forward := by kernel_rfl
theorem r_bridge_Forward : tellR Try.prog Try.f9.results.toList = some [.c 6 true 2, .t 7, .t 8] := by kernel_rfl

/-- caravel/bridge.Find: 2 in. -/
def c_bridge_Find : ACode :=
  (.seq (.reg [⟨some 2, .box (.tmp 0), none⟩,
    ⟨some 3, .boxa (.tmp 1), none⟩,
    ⟨some 4, .mv (.cst (.int .i64 0)), none⟩,
    ⟨some 5, .mv (.cst (.bool false)), none⟩])
  (.seq (.seq (.reg [⟨some 8, .fadr 1 (.tmp 2), none⟩,
    ⟨some 9, .load false 1 (.tmp 8), none⟩,
    ⟨some 10, .lenV (.tmp 9), none⟩,
    ⟨some 11, .mv (.cst (.int .i64 0)), none⟩])
  (.block 0 (.loop
    (.seq (.reg [⟨some 12, .bin .lss (.tmp 11) (.tmp 10), none⟩])
    (.seq (.cond (.tmp 12)
      .skip
      (.exit 0))
    (.seq (.block 1 (.seq (.reg [⟨some 13, .iadS 7 (.tmp 9) (.tmp 11), none⟩,
      ⟨some 14, .load true 7 (.tmp 13), none⟩,
      ⟨some 7, .newb [(.int .u8 0), (.int .u8 0), (.int .u8 0), (.int .u8 0), (.int .u8 0), (.int .u8 0), (.int .i64 0)], none⟩,
      ⟨none, .store 7 (.tmp 7) (.tmp 14), none⟩])
    (.seq (.reg [⟨some 15, .fadr 0 (.tmp 7), none⟩,
      ⟨some 16, .load true 6 (.tmp 15), none⟩,
      ⟨some 17, .load true 6 (.tmp 3), none⟩,
      ⟨some 18, .eqA false [0, 0, 0, 0, 0, 0] (.tmp 16) (.tmp 17), none⟩])
    (.cond (.tmp 18)
      (.seq (.reg [⟨some 19, .fadr 6 (.tmp 7), none⟩,
        ⟨some 20, .load false 1 (.tmp 19), none⟩,
        ⟨some 4, .mv (.tmp 20), none⟩,
        ⟨some 5, .mv (.cst (.bool true)), none⟩])
      .ret)
      .skip))))
    (.reg [⟨some 21, .bin .add (.tmp 11) (.cst (.int .i64 1)), none⟩,
      ⟨some 11, .mv (.tmp 21), none⟩])))))))
  (.seq (.reg [⟨some 4, .mv (.cst (.int .i64 0)), none⟩,
    ⟨some 5, .mv (.cst (.bool false)), none⟩])
  .ret)))
theorem p_bridge_Find : Try.f13.body.bind (compC Try.prog 22) = some c_bridge_Find := by kernel_rfl
theorem r_bridge_Find : tellR Try.prog Try.f13.results.toList = some [.t 4, .t 5] := by kernel_rfl

/-- caravel/caravellaw12.frame: 2 in. -/
def c_caravellaw12_frame : ACode :=
  (.seq (.reg [⟨some 2, .boxa (.tmp 0), none⟩,
    ⟨some 3, .boxa (.tmp 1), none⟩,
    ⟨some 4, .mv (.cst .nil), none⟩])
  (.seq (.drw [⟨some 5, .bsl 1 [], none⟩,
    ⟨some 6, .slA 6 (.tmp 2) none none, none⟩,
    ⟨some 7, .app 1 1 (.tmp 5) (.tmp 6), none⟩,
    ⟨some 8, .slA 6 (.tmp 3) none none, none⟩,
    ⟨some 9, .app 1 1 (.tmp 7) (.tmp 8), none⟩,
    ⟨some 10, .bsl 1 [(.cst (.int .u8 8)), (.cst (.int .u8 0))], none⟩,
    ⟨some 11, .app 1 1 (.tmp 9) (.tmp 10), none⟩,
    ⟨some 4, .mv (.tmp 11), none⟩] [[], [], [], [], [], [0, 2, 4], [], []])
  .ret))
theorem p_caravellaw12_frame : Try.f15.body.bind (compC Try.prog 12) = some c_caravellaw12_frame := by kernel_rfl
theorem r_caravellaw12_frame : tellR Try.prog Try.f15.results.toList = some [.t 4] := by kernel_rfl

/-- caravel/addr.All: 0 in. -/
def c_addr_All : ACode :=
  (.seq (.reg [⟨some 0, .newa [(.int .u8 0), (.int .u8 0), (.int .u8 0), (.int .u8 0), (.int .u8 0), (.int .u8 0)], none⟩])
  (.seq (.reg [⟨some 1, .build [(.int .u8 0), (.int .u8 0), (.int .u8 0), (.int .u8 0), (.int .u8 0), (.int .u8 0)] [(0, 1, (.cst (.int .u8 255))), (1, 1, (.cst (.int .u8 255))), (2, 1, (.cst (.int .u8 255))), (3, 1, (.cst (.int .u8 255))), (4, 1, (.cst (.int .u8 255))), (5, 1, (.cst (.int .u8 255)))], none⟩,
    ⟨none, .store 6 (.tmp 0) (.tmp 1), none⟩])
  .ret))
theorem p_addr_All : Try.f16.body.bind (compC Try.prog 2) = some c_addr_All := by kernel_rfl
theorem r_addr_All : tellR Try.prog Try.f16.results.toList = some [.c 0 true 6] := by kernel_rfl

/-- slices.Clone[[]caravel/api.Learnt,caravel/api.Learnt]: 1 in. -/
def c_slices_Clone__caravel_api_Learnt_caravel_api_Learnt : ACode :=
  (.seq (.reg [⟨some 2, .mv (.cst .nil), none⟩])
  (.seq (.seq (.reg [⟨some 3, .mv (.tmp 0), none⟩,
    ⟨some 4, .isN false (.tmp 3), none⟩])
  (.cond (.tmp 4)
    (.seq (.reg [⟨some 2, .mv (.cst .nil), none⟩])
    .ret)
    .skip))
  (.seq (.reg [⟨some 5, .bsl 7 [], none⟩,
    ⟨some 6, .mv (.tmp 0), none⟩,
    ⟨some 7, .app 7 16 (.tmp 5) (.tmp 6), none⟩,
    ⟨some 2, .mv (.tmp 7), none⟩])
  .ret)))
theorem p_slices_Clone__caravel_api_Learnt_caravel_api_Learnt : Try.f17.body.bind (compC Try.prog 8) = some c_slices_Clone__caravel_api_Learnt_caravel_api_Learnt := by kernel_rfl
theorem r_slices_Clone__caravel_api_Learnt_caravel_api_Learnt : tellR Try.prog Try.f17.results.toList = some [.t 2] := by kernel_rfl

/-- caravel/bridge.group: 1 in. -/
def c_bridge_group : ACode :=
  (.seq (.reg [⟨some 1, .boxa (.tmp 0), none⟩,
    ⟨some 2, .mv (.cst (.bool false)), none⟩])
  (.seq (.reg [⟨some 3, .iadA 1 6 (.tmp 1) (.cst (.int .i64 0)), none⟩,
    ⟨some 4, .load false 1 (.tmp 3), none⟩,
    ⟨some 5, .bin .and (.tmp 4) (.cst (.int .u8 1)), none⟩,
    ⟨some 6, .bin .eql (.tmp 5) (.cst (.int .u8 1)), none⟩,
    ⟨some 2, .mv (.tmp 6), none⟩])
  .ret))
theorem p_bridge_group : Try.f18.body.bind (compC Try.prog 7) = some c_bridge_group := by kernel_rfl
theorem r_bridge_group : tellR Try.prog Try.f18.results.toList = some [.t 2] := by kernel_rfl

/-- caravel/bridge.learn: 3 in. -/
def c_bridge_learn : ACode :=
  (.seq (.reg [⟨some 3, .box (.tmp 0), none⟩,
    ⟨some 4, .boxa (.tmp 1), none⟩,
    ⟨some 6, .newb [(.int .i64 0), .nil], none⟩])
  (.seq (.reg [⟨some 8, .fadr 1 (.tmp 3), none⟩,
    ⟨some 9, .load false 1 (.tmp 8), none⟩,
    ⟨some 10, .call 17 [(.tmp 9)], none⟩,
    ⟨some 11, .mkf 24 [(.tmp 4)], none⟩,
    ⟨some 12, .call 23 [(.tmp 10), (.tmp 11)], none⟩,
    ⟨some 7, .mv (.tmp 12), none⟩])
  (.seq (.seq (.reg [⟨some 13, .mv (.tmp 7), none⟩,
    ⟨some 14, .lenV (.tmp 13), none⟩,
    ⟨some 15, .bin .geq (.tmp 14) (.cst (.int .i64 16)), none⟩])
  (.cond (.tmp 15)
    (.reg [⟨some 16, .mv (.tmp 7), none⟩,
      ⟨some 17, .slS 7 (.tmp 16) (some (.cst (.int .i64 1))) none none, none⟩,
      ⟨some 7, .mv (.tmp 17), none⟩])
    .skip))
  (.seq (.drw [⟨some 18, .mv (.tmp 7), none⟩,
    ⟨some 19, .call 25 [(.tmp 18)], none⟩,
    ⟨some 20, .load true 6 (.tmp 4), none⟩,
    ⟨some 21, .mv (.tmp 2), none⟩,
    ⟨some 22, .build [(.int .u8 0), (.int .u8 0), (.int .u8 0), (.int .u8 0), (.int .u8 0), (.int .u8 0), (.int .i64 0)] [(0, 6, (.tmp 20)), (6, 1, (.tmp 21))], none⟩,
    ⟨some 23, .bsl 7 [(.tmp 22)], none⟩,
    ⟨some 24, .app 7 16 (.tmp 19) (.tmp 23), none⟩,
    ⟨some 25, .fadr 1 (.tmp 3), none⟩,
    ⟨none, .store 1 (.tmp 25) (.tmp 24), none⟩] [[], [], [], [], [], [1], [], [], []])
  (.seq (.reg [⟨some 26, .load true 2 (.tmp 3), none⟩,
    ⟨none, .store 2 (.tmp 6) (.tmp 26), none⟩])
  .ret)))))
theorem p_bridge_learn : Try.f19.body.bind (compC Try.prog 27) = some c_bridge_learn := by kernel_rfl
theorem r_bridge_learn : tellR Try.prog Try.f19.results.toList = some [.c 6 true 2] := by kernel_rfl

/-- slices.DeleteFunc[[]caravel/api.Learnt,caravel/api.Learnt]: 2 in. -/
def c_slices_DeleteFunc__caravel_api_Learnt_caravel_api_Learnt : ACode :=
  (.seq (.reg [⟨some 4, .mv (.cst .nil), none⟩])
  (.seq (.reg [⟨some 8, .mv (.tmp 0), none⟩,
    ⟨some 9, .mv (.tmp 1), none⟩,
    ⟨some 10, .call 26 [(.tmp 8), (.tmp 9)], none⟩,
    ⟨some 5, .mv (.tmp 10), none⟩])
  (.seq (.seq (.reg [⟨some 11, .mv (.tmp 5), none⟩,
    ⟨some 12, .bin .eql (.tmp 11) (.cst (.int .i64 (-1))), none⟩])
  (.cond (.tmp 12)
    (.seq (.reg [⟨some 13, .mv (.tmp 0), none⟩,
      ⟨some 4, .mv (.tmp 13), none⟩])
    .ret)
    .skip))
  (.seq (.seq (.reg [⟨some 14, .mv (.tmp 5), none⟩,
    ⟨some 15, .bin .add (.tmp 14) (.cst (.int .i64 1)), none⟩,
    ⟨some 6, .mv (.tmp 15), none⟩])
  (.block 0 (.loop
    (.seq (.seq (.reg [⟨some 16, .mv (.tmp 6), none⟩,
      ⟨some 17, .mv (.tmp 0), none⟩,
      ⟨some 18, .lenV (.tmp 17), none⟩,
      ⟨some 19, .bin .lss (.tmp 16) (.tmp 18), none⟩])
    (.cond (.tmp 19)
      .skip
      (.exit 0)))
    (.seq (.block 1 (.seq (.reg [⟨some 22, .mv (.tmp 0), none⟩,
      ⟨some 23, .mv (.tmp 6), none⟩,
      ⟨some 24, .iadS 7 (.tmp 22) (.tmp 23), none⟩,
      ⟨some 25, .load true 7 (.tmp 24), none⟩,
      ⟨some 7, .newb [(.int .u8 0), (.int .u8 0), (.int .u8 0), (.int .u8 0), (.int .u8 0), (.int .u8 0), (.int .i64 0)], none⟩,
      ⟨none, .store 7 (.tmp 7) (.tmp 25), none⟩])
    (.seq (.reg [⟨some 26, .mv (.tmp 1), none⟩,
      ⟨some 27, .load true 7 (.tmp 7), none⟩,
      ⟨some 28, .callv (.tmp 26) [(.tmp 27)], none⟩,
      ⟨some 29, .not (.tmp 28), none⟩])
    (.cond (.tmp 29)
      (.seq (.reg [⟨some 30, .mv (.tmp 0), none⟩,
        ⟨some 31, .mv (.tmp 5), none⟩,
        ⟨some 32, .load true 7 (.tmp 7), none⟩,
        ⟨some 33, .iadS 7 (.tmp 30) (.tmp 31), none⟩,
        ⟨none, .store 7 (.tmp 33) (.tmp 32), none⟩])
      (.reg [⟨some 34, .mv (.tmp 5), none⟩,
        ⟨some 35, .bin .add (.tmp 34) (.cst (.int .i64 1)), none⟩,
        ⟨some 5, .mv (.tmp 35), none⟩]))
      .skip))))
    (.reg [⟨some 20, .mv (.tmp 6), none⟩,
      ⟨some 21, .bin .add (.tmp 20) (.cst (.int .i64 1)), none⟩,
      ⟨some 6, .mv (.tmp 21), none⟩]))))))
  (.seq (.reg [⟨some 36, .mv (.tmp 0), none⟩,
    ⟨some 37, .mv (.tmp 5), none⟩,
    ⟨some 38, .slS 7 (.tmp 36) (some (.tmp 37)) none none, none⟩,
    ⟨none, .clr 7 (.agg [(.int .u8 0), (.int .u8 0), (.int .u8 0), (.int .u8 0), (.int .u8 0), (.int .u8 0), (.int .i64 0)]) (.tmp 38), none⟩])
  (.seq (.reg [⟨some 39, .mv (.tmp 0), none⟩,
    ⟨some 40, .mv (.tmp 5), none⟩,
    ⟨some 41, .slS 7 (.tmp 39) none (some (.tmp 40)) none, none⟩,
    ⟨some 4, .mv (.tmp 41), none⟩])
  .ret))))))
theorem p_slices_DeleteFunc__caravel_api_Learnt_caravel_api_Learnt : Try.f23.body.bind (compC Try.prog 42) = some c_slices_DeleteFunc__caravel_api_Learnt_caravel_api_Learnt := by kernel_rfl
theorem r_slices_DeleteFunc__caravel_api_Learnt_caravel_api_Learnt : tellR Try.prog Try.f23.results.toList = some [.t 4] := by kernel_rfl

/-- caravel/bridge.learn$1: 2 in. -/
def c_bridge_learn_1 : ACode :=
  (.seq (.reg [⟨some 2, .box (.tmp 0), none⟩,
    ⟨some 3, .mv (.cst (.bool false)), none⟩])
  (.seq (.reg [⟨some 4, .fadr 0 (.tmp 2), none⟩,
    ⟨some 5, .load true 6 (.tmp 4), none⟩,
    ⟨some 6, .load true 6 (.tmp 1), none⟩,
    ⟨some 7, .eqA false [0, 0, 0, 0, 0, 0] (.tmp 5) (.tmp 6), none⟩,
    ⟨some 3, .mv (.tmp 7), none⟩])
  .ret))
theorem p_bridge_learn_1 : Try.f24.body.bind (compC Try.prog 8) = some c_bridge_learn_1 := by kernel_rfl
theorem r_bridge_learn_1 : tellR Try.prog Try.f24.results.toList = some [.t 3] := by kernel_rfl

/-- slices.Clip[[]caravel/api.Learnt,caravel/api.Learnt]: 1 in. -/
def c_slices_Clip__caravel_api_Learnt_caravel_api_Learnt : ACode :=
  (.seq (.reg [⟨some 2, .mv (.cst .nil), none⟩])
  (.seq (.reg [⟨some 3, .mv (.tmp 0), none⟩,
    ⟨some 4, .mv (.tmp 0), none⟩,
    ⟨some 5, .lenV (.tmp 4), none⟩,
    ⟨some 6, .mv (.tmp 0), none⟩,
    ⟨some 7, .lenV (.tmp 6), none⟩,
    ⟨some 8, .slS 7 (.tmp 3) none (some (.tmp 5)) (some (.tmp 7)), none⟩,
    ⟨some 2, .mv (.tmp 8), none⟩])
  .ret))
theorem p_slices_Clip__caravel_api_Learnt_caravel_api_Learnt : Try.f25.body.bind (compC Try.prog 9) = some c_slices_Clip__caravel_api_Learnt_caravel_api_Learnt := by kernel_rfl
theorem r_slices_Clip__caravel_api_Learnt_caravel_api_Learnt : tellR Try.prog Try.f25.results.toList = some [.t 2] := by kernel_rfl

/-- slices.IndexFunc[[]caravel/api.Learnt,caravel/api.Learnt]: 2 in. -/
def c_slices_IndexFunc__caravel_api_Learnt_caravel_api_Learnt : ACode :=
  (.seq (.reg [⟨some 4, .mv (.cst (.int .i64 0)), none⟩])
  (.seq (.seq (.reg [⟨some 6, .mv (.tmp 0), none⟩,
    ⟨some 7, .lenV (.tmp 6), none⟩,
    ⟨some 8, .mv (.cst (.int .i64 0)), none⟩])
  (.block 0 (.loop
    (.seq (.reg [⟨some 9, .bin .lss (.tmp 8) (.tmp 7), none⟩])
    (.seq (.cond (.tmp 9)
      .skip
      (.exit 0))
    (.seq (.block 1 (.seq (.reg [⟨some 10, .mv (.tmp 8), none⟩,
      ⟨some 5, .mv (.tmp 10), none⟩])
    (.seq (.reg [⟨some 11, .mv (.tmp 1), none⟩,
      ⟨some 12, .mv (.tmp 0), none⟩,
      ⟨some 13, .mv (.tmp 5), none⟩,
      ⟨some 14, .iadS 7 (.tmp 12) (.tmp 13), none⟩,
      ⟨some 15, .load true 7 (.tmp 14), none⟩,
      ⟨some 16, .callv (.tmp 11) [(.tmp 15)], none⟩])
    (.cond (.tmp 16)
      (.seq (.reg [⟨some 17, .mv (.tmp 5), none⟩,
        ⟨some 4, .mv (.tmp 17), none⟩])
      .ret)
      .skip))))
    (.reg [⟨some 18, .bin .add (.tmp 8) (.cst (.int .i64 1)), none⟩,
      ⟨some 8, .mv (.tmp 18), none⟩])))))))
  (.seq (.reg [⟨some 4, .mv (.cst (.int .i64 (-1))), none⟩])
  .ret)))
theorem p_slices_IndexFunc__caravel_api_Learnt_caravel_api_Learnt : Try.f26.body.bind (compC Try.prog 19) = some c_slices_IndexFunc__caravel_api_Learnt_caravel_api_Learnt := by kernel_rfl
theorem r_slices_IndexFunc__caravel_api_Learnt_caravel_api_Learnt : tellR Try.prog Try.f26.results.toList = some [.t 4] := by kernel_rfl

end Go.Proofs.Ytfpgpeomcefkhaa
