/- The program's functions, told as operations on abstract values. -/
import Derived.Test.YtbkekpecfgmelaaAx30
import Derived.Test.YtbkekpecfgmelaaProg
namespace Go.Proofs.Ytbkekpecfgmelaa

/-- caravel/caravellaw16.WheelOnce: 1 in. -/
def c_caravellaw16_WheelOnce : ACode :=
  (.seq (.reg [⟨some 2, .mv (.cst (.bool false)), none⟩])
  (.seq (.seq (.reg [⟨some 11, .call 7 [], none⟩,
    ⟨some 12, .not (.tmp 11), none⟩,
    ⟨some 13, .mv (.tmp 12), none⟩,
    ⟨some 14, .mv (.tmp 0), some (13, false)⟩,
    ⟨some 15, .lenV (.tmp 14), some (13, false)⟩,
    ⟨some 16, .bin .gtr (.tmp 15) (.cst (.int .i64 50)), some (13, false)⟩,
    ⟨some 17, .pick (.tmp 13) (.cst (.bool true)) (.tmp 16), none⟩])
  (.cond (.tmp 17)
    (.seq (.reg [⟨some 18, .call 7 [], none⟩,
      ⟨some 2, .mv (.tmp 18), none⟩])
    .ret)
    .skip))
  (.seq (.reg [⟨some 3, .newb [(.int .u64 0), .nil], none⟩])
  (.seq (.reg [⟨some 19, .callv (.cst (.int .i64 448)) [], none⟩,
    ⟨some 4, .mv (.tmp 19), none⟩])
  (.seq (.seq (.reg [⟨some 20, .mv (.tmp 0), none⟩,
    ⟨some 21, .lenV (.tmp 20), none⟩,
    ⟨some 22, .mv (.cst (.int .i64 0)), none⟩])
  (.block 0 (.loop
    (.seq (.reg [⟨some 23, .bin .lss (.tmp 22) (.tmp 21), none⟩])
    (.seq (.cond (.tmp 23)
      .skip
      (.exit 0))
    (.seq (.block 1 (.seq (.reg [⟨some 24, .mv (.tmp 22), none⟩,
      ⟨some 25, .iadS 3 (.tmp 20) (.tmp 22), none⟩,
      ⟨some 26, .load true 3 (.tmp 25), none⟩,
      ⟨some 6, .newb [(.int .i64 0), (.int .i64 0), (.int .u64 0)], none⟩,
      ⟨some 5, .mv (.tmp 24), none⟩,
      ⟨none, .store 3 (.tmp 6) (.tmp 26), none⟩])
    (.seq (.reg [⟨some 27, .fadr 1 (.tmp 6), none⟩,
      ⟨some 28, .load false 1 (.tmp 27), none⟩,
      ⟨some 29, .conv .u64 (.tmp 28), none⟩,
      ⟨some 30, .bin .rem (.tmp 29) (.cst (.int .u64 8)), none⟩,
      ⟨some 31, .conv .i64 (.tmp 30), none⟩,
      ⟨some 32, .fadr 2 (.tmp 6), none⟩,
      ⟨some 33, .load false 1 (.tmp 32), none⟩,
      ⟨some 34, .bin .rem (.tmp 33) (.cst (.int .u64 30)), none⟩,
      ⟨some 7, .mv (.tmp 31), none⟩,
      ⟨some 8, .mv (.tmp 34), none⟩])
    (.seq (.seq (.reg [⟨some 35, .fadr 0 (.tmp 6), none⟩,
      ⟨some 36, .load false 1 (.tmp 35), none⟩,
      ⟨some 37, .conv .u64 (.tmp 36), none⟩,
      ⟨some 38, .bin .rem (.tmp 37) (.cst (.int .u64 5)), none⟩,
      ⟨some 39, .bin .eql (.tmp 38) (.cst (.int .u64 2)), none⟩])
    (.cond (.tmp 39)
      (.seq (.reg [⟨some 41, .load true 2 (.tmp 3), none⟩,
        ⟨some 42, .mv (.tmp 7), none⟩,
        ⟨some 43, .call 8 [(.tmp 41), (.tmp 42)], none⟩,
        ⟨some 40, .mv (.tmp 43), none⟩,
        ⟨some 44, .ext (.tmp 40) 0, none⟩,
        ⟨some 45, .ext (.tmp 40) 1, none⟩,
        ⟨none, .store 2 (.tmp 3) (.tmp 44), none⟩])
      (.seq (.reg [⟨some 46, .mv (.tmp 4), none⟩,
        ⟨some 47, .mv (.tmp 7), none⟩,
        ⟨none, .callv (.cst (.int .i64 452)) [(.tmp 46), (.tmp 47)], none⟩])
      (.exit 1)))
      .skip))
    (.seq (.reg [⟨some 49, .load true 2 (.tmp 3), none⟩,
      ⟨some 50, .mv (.tmp 7), none⟩,
      ⟨some 51, .mv (.tmp 8), none⟩,
      ⟨some 52, .call 9 [(.tmp 49), (.tmp 50), (.tmp 51)], none⟩,
      ⟨some 48, .mv (.tmp 52), none⟩,
      ⟨some 53, .ext (.tmp 48) 0, none⟩,
      ⟨some 54, .ext (.tmp 48) 1, none⟩,
      ⟨some 9, .newb [(.int .u64 0), .nil], none⟩,
      ⟨none, .store 2 (.tmp 9) (.tmp 53), none⟩,
      ⟨some 10, .mv (.tmp 54), none⟩])
    (.seq (.seq (.reg [⟨some 55, .load true 2 (.tmp 9), none⟩,
      ⟨none, .store 2 (.tmp 3) (.tmp 55), none⟩])
    (.seq (.reg [⟨some 56, .mv (.tmp 10), none⟩,
      ⟨some 57, .bin .neq (.tmp 56) (.cst (.int .i64 0)), none⟩])
    (.cond (.tmp 57)
      (.seq (.reg [⟨some 2, .mv (.cst (.bool false)), none⟩])
      .ret)
      .skip)))
    (.seq (.reg [⟨some 58, .mv (.tmp 4), none⟩,
      ⟨some 59, .mv (.tmp 7), none⟩,
      ⟨some 60, .fadr 0 (.tmp 3), none⟩,
      ⟨some 61, .load false 1 (.tmp 60), none⟩,
      ⟨some 62, .mv (.tmp 8), none⟩,
      ⟨some 63, .max [(.tmp 62), (.cst (.int .u64 1))], none⟩,
      ⟨some 64, .bin .add (.tmp 61) (.tmp 63), none⟩,
      ⟨none, .callv (.cst (.int .i64 449)) [(.tmp 58), (.tmp 59), (.tmp 64)], none⟩])
    (.seq (.reg [⟨some 65, .mv (.tmp 5), none⟩,
      ⟨some 66, .bin .rem (.tmp 65) (.cst (.int .i64 4)), none⟩,
      ⟨some 67, .bin .eql (.tmp 66) (.cst (.int .i64 3)), none⟩])
    (.cond (.tmp 67)
      (.seq (.reg [⟨some 68, .load true 2 (.tmp 3), none⟩,
        ⟨some 69, .mv (.tmp 4), none⟩,
        ⟨some 70, .call 10 [(.tmp 68), (.tmp 69)], none⟩,
        ⟨none, .store 2 (.tmp 3) (.tmp 70), none⟩])
      (.seq (.reg [⟨some 71, .fadr 0 (.tmp 3), none⟩,
        ⟨some 72, .load false 1 (.tmp 71), none⟩,
        ⟨some 73, .bin .eql (.tmp 72) (.cst (.int .u64 0)), none⟩])
      (.cond (.tmp 73)
        (.seq (.reg [⟨some 2, .mv (.cst (.bool false)), none⟩])
        .ret)
        .skip)))
      .skip)))))))))
    (.reg [⟨some 74, .bin .add (.tmp 22) (.cst (.int .i64 1)), none⟩,
      ⟨some 22, .mv (.tmp 74), none⟩])))))))
  (.seq (.seq (.reg [⟨some 75, .mv (.cst (.int .i64 0)), none⟩])
  (.block 2 (.loop
    (.seq (.reg [⟨some 76, .bin .lss (.tmp 75) (.cst (.int .i64 40)), none⟩])
    (.seq (.cond (.tmp 76)
      .skip
      (.exit 2))
    (.seq (.block 3 (.seq (.reg [⟨some 77, .load true 2 (.tmp 3), none⟩,
      ⟨some 78, .mv (.tmp 4), none⟩,
      ⟨some 79, .call 10 [(.tmp 77), (.tmp 78)], none⟩,
      ⟨none, .store 2 (.tmp 3) (.tmp 79), none⟩])
    (.seq (.reg [⟨some 80, .fadr 0 (.tmp 3), none⟩,
      ⟨some 81, .load false 1 (.tmp 80), none⟩,
      ⟨some 82, .bin .eql (.tmp 81) (.cst (.int .u64 0)), none⟩])
    (.cond (.tmp 82)
      (.seq (.reg [⟨some 2, .mv (.cst (.bool false)), none⟩])
      .ret)
      .skip))))
    (.reg [⟨some 83, .bin .add (.tmp 75) (.cst (.int .i64 1)), none⟩,
      ⟨some 75, .mv (.tmp 83), none⟩])))))))
  (.seq (.reg [⟨some 84, .mv (.tmp 4), none⟩,
    ⟨some 85, .callv (.cst (.int .i64 453)) [(.tmp 84)], none⟩,
    ⟨some 86, .bin .eql (.tmp 85) (.cst (.int .i64 0)), none⟩,
    ⟨some 87, .mv (.tmp 86), none⟩,
    ⟨some 88, .fadr 1 (.tmp 3), some (87, true)⟩,
    ⟨some 89, .load false 1 (.tmp 88), some (87, true)⟩,
    ⟨some 90, .lenV (.tmp 89), some (87, true)⟩,
    ⟨some 91, .bin .eql (.tmp 90) (.cst (.int .i64 0)), some (87, true)⟩,
    ⟨some 92, .pick (.tmp 87) (.tmp 91) (.cst (.bool false)), none⟩,
    ⟨some 2, .mv (.tmp 92), none⟩])
  .ret)))))))
theorem p_caravellaw16_WheelOnce : Try.f3.body.bind (compC Try.prog 93) = some c_caravellaw16_WheelOnce := by kernel_rfl
theorem r_caravellaw16_WheelOnce : tellR Try.prog Try.f3.results.toList = some [.t 2] := by kernel_rfl

/-- caravel/caravellaw16.lives: 0 in. -/
def c_caravellaw16_lives : ACode :=
  (.seq (.reg [⟨some 0, .mv (.cst (.bool false)), none⟩])
  (.seq (.reg [⟨some 9, .build [(.int .u64 0), .nil] [], none⟩,
    ⟨some 10, .call 9 [(.tmp 9), (.cst (.int .i64 1)), (.cst (.int .u64 2))], none⟩,
    ⟨some 8, .mv (.tmp 10), none⟩,
    ⟨some 11, .ext (.tmp 8) 0, none⟩,
    ⟨some 12, .ext (.tmp 8) 1, none⟩,
    ⟨some 1, .newb [(.int .u64 0), .nil], none⟩,
    ⟨none, .store 2 (.tmp 1) (.tmp 11), none⟩,
    ⟨some 2, .mv (.tmp 12), none⟩])
  (.seq (.reg [⟨some 14, .load true 2 (.tmp 1), none⟩,
    ⟨some 15, .call 9 [(.tmp 14), (.cst (.int .i64 2)), (.cst (.int .u64 1))], none⟩,
    ⟨some 13, .mv (.tmp 15), none⟩,
    ⟨some 16, .ext (.tmp 13) 0, none⟩,
    ⟨some 17, .ext (.tmp 13) 1, none⟩,
    ⟨none, .store 2 (.tmp 1) (.tmp 16), none⟩,
    ⟨some 3, .mv (.tmp 17), none⟩])
  (.seq (.reg [⟨some 19, .load true 2 (.tmp 1), none⟩,
    ⟨some 20, .call 9 [(.tmp 19), (.cst (.int .i64 3)), (.cst (.int .u64 2))], none⟩,
    ⟨some 18, .mv (.tmp 20), none⟩,
    ⟨some 21, .ext (.tmp 18) 0, none⟩,
    ⟨some 22, .ext (.tmp 18) 1, none⟩,
    ⟨none, .store 2 (.tmp 1) (.tmp 21), none⟩,
    ⟨some 4, .mv (.tmp 22), none⟩])
  (.seq (.reg [⟨some 24, .load true 2 (.tmp 1), none⟩,
    ⟨some 25, .call 11 [(.tmp 24)], none⟩,
    ⟨some 23, .mv (.tmp 25), none⟩,
    ⟨some 26, .ext (.tmp 23) 0, none⟩,
    ⟨some 27, .ext (.tmp 23) 1, none⟩,
    ⟨none, .store 2 (.tmp 1) (.tmp 26), none⟩,
    ⟨some 5, .mv (.tmp 27), none⟩])
  (.seq (.reg [⟨some 29, .load true 2 (.tmp 1), none⟩,
    ⟨some 30, .call 11 [(.tmp 29)], none⟩,
    ⟨some 28, .mv (.tmp 30), none⟩,
    ⟨some 31, .ext (.tmp 28) 0, none⟩,
    ⟨some 32, .ext (.tmp 28) 1, none⟩,
    ⟨some 6, .newb [(.int .u64 0), .nil], none⟩,
    ⟨none, .store 2 (.tmp 6) (.tmp 31), none⟩,
    ⟨some 7, .mv (.tmp 32), none⟩])
  (.seq (.reg [⟨some 33, .mv (.tmp 2), none⟩,
    ⟨some 34, .bin .eql (.tmp 33) (.cst (.int .i64 0)), none⟩,
    ⟨some 35, .mv (.tmp 34), none⟩,
    ⟨some 36, .mv (.tmp 3), some (35, true)⟩,
    ⟨some 37, .bin .eql (.tmp 36) (.cst (.int .i64 0)), some (35, true)⟩,
    ⟨some 38, .pick (.tmp 35) (.tmp 37) (.cst (.bool false)), none⟩,
    ⟨some 39, .mv (.tmp 38), none⟩,
    ⟨some 40, .mv (.tmp 4), some (39, true)⟩,
    ⟨some 41, .bin .eql (.tmp 40) (.cst (.int .i64 0)), some (39, true)⟩,
    ⟨some 42, .pick (.tmp 39) (.tmp 41) (.cst (.bool false)), none⟩,
    ⟨some 43, .mv (.tmp 42), none⟩,
    ⟨some 44, .mv (.tmp 5), some (43, true)⟩,
    ⟨some 45, .lenV (.tmp 44), some (43, true)⟩,
    ⟨some 46, .bin .eql (.tmp 45) (.cst (.int .i64 1)), some (43, true)⟩,
    ⟨some 47, .pick (.tmp 43) (.tmp 46) (.cst (.bool false)), none⟩,
    ⟨some 48, .mv (.tmp 47), none⟩,
    ⟨some 49, .mv (.tmp 5), some (48, true)⟩,
    ⟨some 50, .iadS 1 (.tmp 49) (.cst (.int .i64 0)), some (48, true)⟩,
    ⟨some 51, .load false 1 (.tmp 50), some (48, true)⟩,
    ⟨some 52, .bin .eql (.tmp 51) (.cst (.int .i64 2)), some (48, true)⟩,
    ⟨some 53, .pick (.tmp 48) (.tmp 52) (.cst (.bool false)), none⟩,
    ⟨some 54, .mv (.tmp 53), none⟩,
    ⟨some 55, .mv (.tmp 7), some (54, true)⟩,
    ⟨some 56, .lenV (.tmp 55), some (54, true)⟩,
    ⟨some 57, .bin .eql (.tmp 56) (.cst (.int .i64 2)), some (54, true)⟩,
    ⟨some 58, .pick (.tmp 54) (.tmp 57) (.cst (.bool false)), none⟩,
    ⟨some 59, .mv (.tmp 58), none⟩,
    ⟨some 60, .mv (.tmp 7), some (59, true)⟩,
    ⟨some 61, .iadS 1 (.tmp 60) (.cst (.int .i64 0)), some (59, true)⟩,
    ⟨some 62, .load false 1 (.tmp 61), some (59, true)⟩,
    ⟨some 63, .bin .eql (.tmp 62) (.cst (.int .i64 1)), some (59, true)⟩,
    ⟨some 64, .pick (.tmp 59) (.tmp 63) (.cst (.bool false)), none⟩,
    ⟨some 65, .mv (.tmp 64), none⟩,
    ⟨some 66, .mv (.tmp 7), some (65, true)⟩,
    ⟨some 67, .iadS 1 (.tmp 66) (.cst (.int .i64 1)), some (65, true)⟩,
    ⟨some 68, .load false 1 (.tmp 67), some (65, true)⟩,
    ⟨some 69, .bin .eql (.tmp 68) (.cst (.int .i64 3)), some (65, true)⟩,
    ⟨some 70, .pick (.tmp 65) (.tmp 69) (.cst (.bool false)), none⟩,
    ⟨some 0, .mv (.tmp 70), none⟩])
  .ret)))))))
theorem p_caravellaw16_lives : Try.f7.body.bind (compC Try.prog 71) = some c_caravellaw16_lives := by kernel_rfl
theorem r_caravellaw16_lives : tellR Try.prog Try.f7.results.toList = some [.t 0] := by kernel_rfl

/-- caravel/wheel.Stop: 2 in. -/
def c_wheel_Stop : ACode :=
  (.seq (.reg [⟨some 2, .box (.tmp 0), none⟩,
    ⟨some 3, .box (.tmp 1), none⟩,
    ⟨some 4, .newb [(.int .u64 0), .nil], none⟩,
    ⟨some 5, .mv (.cst (.bool false)), none⟩])
  (.seq (.reg [⟨some 7, .load true 2 (.tmp 2), none⟩,
    ⟨some 8, .call 13 [(.tmp 7)], none⟩,
    ⟨some 6, .newb [(.int .u64 0), .nil], none⟩,
    ⟨none, .store 2 (.tmp 6) (.tmp 8), none⟩])
  (.seq (.reg [⟨some 9, .fadr 1 (.tmp 6), none⟩,
    ⟨some 10, .load false 1 (.tmp 9), none⟩,
    ⟨some 11, .mkf 20 [(.tmp 3)], none⟩,
    ⟨some 12, .call 19 [(.tmp 10), (.tmp 11)], none⟩,
    ⟨some 13, .fadr 1 (.tmp 6), none⟩,
    ⟨none, .store 1 (.tmp 13) (.tmp 12), none⟩])
  (.seq (.drw [⟨some 14, .load true 2 (.tmp 6), none⟩,
    ⟨some 15, .fadr 1 (.tmp 6), none⟩,
    ⟨some 16, .load false 1 (.tmp 15), none⟩,
    ⟨some 17, .lenV (.tmp 16), none⟩,
    ⟨some 18, .fadr 1 (.tmp 2), none⟩,
    ⟨some 19, .load false 1 (.tmp 18), none⟩,
    ⟨some 20, .lenV (.tmp 19), none⟩,
    ⟨some 21, .bin .lss (.tmp 17) (.tmp 20), none⟩,
    ⟨none, .store 2 (.tmp 4) (.tmp 14), none⟩,
    ⟨some 5, .mv (.tmp 21), none⟩] [[], [], [], [], [], [], [], [], [2, 5], []])
  .ret))))
theorem p_wheel_Stop : Try.f8.body.bind (compC Try.prog 22) = some c_wheel_Stop := by kernel_rfl
theorem r_wheel_Stop : tellR Try.prog Try.f8.results.toList = some [.c 4 true 2, .t 5] := by kernel_rfl

/-- caravel/wheel.Set: 3 in. -/
def c_wheel_Set : ACode :=
  (.seq (.reg [⟨some 3, .box (.tmp 0), none⟩,
    ⟨some 6, .newb [(.int .u64 0), .nil], none⟩,
    ⟨some 7, .mv (.cst (.int .i64 0)), none⟩])
  (.seq (.reg [⟨some 13, .load true 2 (.tmp 3), none⟩,
    ⟨some 14, .mv (.tmp 1), none⟩,
    ⟨some 15, .call 8 [(.tmp 13), (.tmp 14)], none⟩,
    ⟨some 12, .mv (.tmp 15), none⟩,
    ⟨some 16, .ext (.tmp 12) 0, none⟩,
    ⟨some 17, .ext (.tmp 12) 1, none⟩,
    ⟨some 8, .newb [(.int .u64 0), .nil], none⟩,
    ⟨none, .store 2 (.tmp 8) (.tmp 16), none⟩,
    ⟨some 9, .mv (.tmp 17), none⟩])
  (.seq (.block 0 (.seq (.reg [⟨some 19, .mv (.tmp 2), none⟩,
    ⟨some 20, .bin .gtr (.tmp 19) (.cst (.int .u64 4611686018427387904)), none⟩,
    ⟨some 18, .mv (.tmp 20), none⟩])
  (.cond (.tmp 18)
    (.seq (.reg [⟨some 21, .load true 2 (.tmp 3), none⟩,
      ⟨some 22, .call 13 [(.tmp 21)], none⟩,
      ⟨none, .store 2 (.tmp 6) (.tmp 22), none⟩,
      ⟨some 7, .mv (.cst (.int .i64 1)), none⟩])
    .ret)
    (.seq (.reg [⟨some 24, .fadr 1 (.tmp 8), none⟩,
      ⟨some 25, .load false 1 (.tmp 24), none⟩,
      ⟨some 26, .lenV (.tmp 25), none⟩,
      ⟨some 27, .bin .geq (.tmp 26) (.cst (.int .i64 64)), none⟩,
      ⟨some 23, .mv (.tmp 27), none⟩])
    (.cond (.tmp 23)
      (.seq (.reg [⟨some 28, .load true 2 (.tmp 3), none⟩,
        ⟨some 29, .call 13 [(.tmp 28)], none⟩,
        ⟨none, .store 2 (.tmp 6) (.tmp 29), none⟩,
        ⟨some 7, .mv (.cst (.int .i64 5)), none⟩])
      .ret)
      .skip)))))
  (.seq (.reg [⟨some 30, .fadr 0 (.tmp 3), none⟩,
    ⟨some 31, .load false 1 (.tmp 30), none⟩,
    ⟨some 32, .mv (.tmp 2), none⟩,
    ⟨some 33, .max [(.tmp 32), (.cst (.int .u64 1))], none⟩,
    ⟨some 34, .bin .add (.tmp 31) (.tmp 33), none⟩,
    ⟨some 10, .mv (.tmp 34), none⟩])
  (.seq (.reg [⟨some 35, .fadr 1 (.tmp 8), none⟩,
    ⟨some 36, .load false 1 (.tmp 35), none⟩,
    ⟨some 37, .lenV (.tmp 36), none⟩,
    ⟨some 11, .mv (.tmp 37), none⟩])
  (.seq (.block 1 (.loop
    (.seq (.seq (.reg [⟨some 38, .mv (.tmp 11), none⟩,
      ⟨some 39, .bin .gtr (.tmp 38) (.cst (.int .i64 0)), none⟩,
      ⟨some 40, .mv (.tmp 39), none⟩,
      ⟨some 41, .fadr 1 (.tmp 8), some (40, true)⟩,
      ⟨some 42, .load false 1 (.tmp 41), some (40, true)⟩,
      ⟨some 43, .mv (.tmp 11), some (40, true)⟩,
      ⟨some 44, .bin .sub (.tmp 43) (.cst (.int .i64 1)), some (40, true)⟩,
      ⟨some 45, .iadS 2 (.tmp 42) (.tmp 44), some (40, true)⟩,
      ⟨some 46, .fadr 1 (.tmp 45), some (40, true)⟩,
      ⟨some 47, .load false 1 (.tmp 46), some (40, true)⟩,
      ⟨some 48, .mv (.tmp 10), some (40, true)⟩,
      ⟨some 49, .bin .gtr (.tmp 47) (.tmp 48), some (40, true)⟩,
      ⟨some 50, .pick (.tmp 40) (.tmp 49) (.cst (.bool false)), none⟩])
    (.cond (.tmp 50)
      .skip
      (.exit 1)))
    (.block 2 (.reg [⟨some 51, .mv (.tmp 11), none⟩,
      ⟨some 52, .bin .sub (.tmp 51) (.cst (.int .i64 1)), none⟩,
      ⟨some 11, .mv (.tmp 52), none⟩])))))
  (.seq (.reg [⟨some 53, .fadr 1 (.tmp 8), none⟩,
    ⟨some 54, .load false 1 (.tmp 53), none⟩,
    ⟨some 55, .mv (.tmp 11), none⟩,
    ⟨some 56, .mv (.tmp 1), none⟩,
    ⟨some 57, .mv (.tmp 10), none⟩,
    ⟨some 58, .build [(.int .i64 0), (.int .u64 0)] [(0, 1, (.tmp 56)), (1, 1, (.tmp 57))], none⟩,
    ⟨some 59, .bsl 2 [(.tmp 58)], none⟩,
    ⟨some 60, .call 21 [(.tmp 54), (.tmp 55), (.tmp 59)], none⟩,
    ⟨some 61, .fadr 1 (.tmp 8), none⟩,
    ⟨none, .store 1 (.tmp 61) (.tmp 60), none⟩])
  (.seq (.reg [⟨some 62, .load true 2 (.tmp 8), none⟩,
    ⟨none, .store 2 (.tmp 6) (.tmp 62), none⟩,
    ⟨some 7, .mv (.cst (.int .i64 0)), none⟩])
  .ret))))))))
theorem p_wheel_Set : Try.f9.body.bind (compC Try.prog 63) = some c_wheel_Set := by kernel_rfl
theorem r_wheel_Set : tellR Try.prog Try.f9.results.toList = some [.c 6 true 2, .t 7] := by kernel_rfl

/-- caravel/caravellaw16.tick: 2 in. -/
def c_caravellaw16_tick : ACode :=
  (.seq (.reg [⟨some 2, .box (.tmp 0), none⟩,
    ⟨some 4, .newb [(.int .u64 0), .nil], none⟩])
  (.seq (.reg [⟨some 12, .load true 2 (.tmp 2), none⟩,
    ⟨some 13, .call 11 [(.tmp 12)], none⟩,
    ⟨some 11, .mv (.tmp 13), none⟩,
    ⟨some 14, .ext (.tmp 11) 0, none⟩,
    ⟨some 15, .ext (.tmp 11) 1, none⟩,
    ⟨some 5, .newb [(.int .u64 0), .nil], none⟩,
    ⟨none, .store 2 (.tmp 5) (.tmp 14), none⟩,
    ⟨some 6, .mv (.tmp 15), none⟩])
  (.seq (.seq (.reg [⟨some 16, .mv (.tmp 6), none⟩,
    ⟨some 17, .lenV (.tmp 16), none⟩,
    ⟨some 18, .mv (.cst (.int .i64 0)), none⟩])
  (.block 0 (.loop
    (.seq (.reg [⟨some 19, .bin .lss (.tmp 18) (.tmp 17), none⟩])
    (.seq (.cond (.tmp 19)
      .skip
      (.exit 0))
    (.seq (.block 1 (.seq (.reg [⟨some 20, .iadS 1 (.tmp 16) (.tmp 18), none⟩,
      ⟨some 21, .load false 1 (.tmp 20), none⟩,
      ⟨some 8, .mv (.tmp 21), none⟩])
    (.seq (.seq (.reg [⟨some 22, .mv (.tmp 1), none⟩,
      ⟨some 23, .mv (.tmp 8), none⟩,
      ⟨some 24, .callv (.cst (.int .i64 450)) [(.tmp 22), (.tmp 23)], none⟩,
      ⟨some 25, .fadr 0 (.tmp 5), none⟩,
      ⟨some 26, .load false 1 (.tmp 25), none⟩,
      ⟨some 27, .bin .neq (.tmp 24) (.tmp 26), none⟩])
    (.cond (.tmp 27)
      (.seq (.reg [⟨some 28, .build [(.int .u64 0), .nil] [], none⟩,
        ⟨none, .store 2 (.tmp 4) (.tmp 28), none⟩])
      .ret)
      .skip))
    (.reg [⟨some 29, .mv (.tmp 1), none⟩,
      ⟨some 30, .mv (.tmp 8), none⟩,
      ⟨none, .callv (.cst (.int .i64 452)) [(.tmp 29), (.tmp 30)], none⟩]))))
    (.reg [⟨some 31, .bin .add (.tmp 18) (.cst (.int .i64 1)), none⟩,
      ⟨some 18, .mv (.tmp 31), none⟩])))))))
  (.seq (.seq (.reg [⟨some 32, .mv (.tmp 1), none⟩,
    ⟨some 33, .callv (.cst (.int .i64 454)) [(.tmp 32)], none⟩])
  (.block 2 (.loop
    (.seq (.reg [⟨some 34, .callv (.cst (.int .i64 7)) [(.tmp 33)], none⟩,
      ⟨some 35, .ext (.tmp 34) 0, none⟩])
    (.seq (.cond (.tmp 35)
      .skip
      (.exit 2))
    (.block 3 (.seq (.reg [⟨some 36, .callv (.cst (.int .i64 9)) [(.tmp 33)], none⟩,
      ⟨some 37, .ext (.tmp 36) 1, none⟩,
      ⟨some 10, .mv (.tmp 37), none⟩])
    (.seq (.reg [⟨some 38, .mv (.tmp 10), none⟩,
      ⟨some 39, .fadr 0 (.tmp 5), none⟩,
      ⟨some 40, .load false 1 (.tmp 39), none⟩,
      ⟨some 41, .bin .leq (.tmp 38) (.tmp 40), none⟩])
    (.cond (.tmp 41)
      (.seq (.reg [⟨some 42, .build [(.int .u64 0), .nil] [], none⟩,
        ⟨none, .store 2 (.tmp 4) (.tmp 42), none⟩])
      .ret)
      .skip)))))))))
  (.seq (.reg [⟨some 43, .load true 2 (.tmp 5), none⟩,
    ⟨none, .store 2 (.tmp 4) (.tmp 43), none⟩])
  .ret)))))
theorem p_caravellaw16_tick : Try.f10.body.bind (compC Try.prog 44) = some c_caravellaw16_tick := by kernel_rfl
theorem r_caravellaw16_tick : tellR Try.prog Try.f10.results.toList = some [.c 4 true 2] := by kernel_rfl

/-- caravel/wheel.Tick: 1 in. -/
def c_wheel_Tick : ACode :=
  (.seq (.reg [⟨some 1, .box (.tmp 0), none⟩,
    ⟨some 2, .newb [(.int .u64 0), .nil], none⟩,
    ⟨some 3, .mv (.cst .nil), none⟩])
  (.seq (.reg [⟨some 6, .load true 2 (.tmp 1), none⟩,
    ⟨some 7, .call 13 [(.tmp 6)], none⟩,
    ⟨some 4, .newb [(.int .u64 0), .nil], none⟩,
    ⟨none, .store 2 (.tmp 4) (.tmp 7), none⟩])
  (.seq (.reg [⟨some 8, .fadr 0 (.tmp 4), none⟩,
    ⟨some 9, .load false 1 (.tmp 8), none⟩,
    ⟨some 10, .bin .add (.tmp 9) (.cst (.int .u64 1)), none⟩,
    ⟨some 11, .fadr 0 (.tmp 4), none⟩,
    ⟨none, .store 1 (.tmp 11) (.tmp 10), none⟩])
  (.seq (.reg [⟨some 5, .mv (.cst .nil), none⟩])
  (.seq (.block 0 (.loop
    (.seq (.seq (.reg [⟨some 12, .fadr 1 (.tmp 4), none⟩,
      ⟨some 13, .load false 1 (.tmp 12), none⟩,
      ⟨some 14, .lenV (.tmp 13), none⟩,
      ⟨some 15, .bin .gtr (.tmp 14) (.cst (.int .i64 0)), none⟩,
      ⟨some 16, .mv (.tmp 15), none⟩,
      ⟨some 17, .fadr 1 (.tmp 4), some (16, true)⟩,
      ⟨some 18, .load false 1 (.tmp 17), some (16, true)⟩,
      ⟨some 19, .iadS 2 (.tmp 18) (.cst (.int .i64 0)), some (16, true)⟩,
      ⟨some 20, .fadr 1 (.tmp 19), some (16, true)⟩,
      ⟨some 21, .load false 1 (.tmp 20), some (16, true)⟩,
      ⟨some 22, .fadr 0 (.tmp 4), some (16, true)⟩,
      ⟨some 23, .load false 1 (.tmp 22), some (16, true)⟩,
      ⟨some 24, .bin .leq (.tmp 21) (.tmp 23), some (16, true)⟩,
      ⟨some 25, .pick (.tmp 16) (.tmp 24) (.cst (.bool false)), none⟩])
    (.cond (.tmp 25)
      .skip
      (.exit 0)))
    (.block 1 (.seq (.reg [⟨some 26, .mv (.tmp 5), none⟩,
      ⟨some 27, .fadr 1 (.tmp 4), none⟩,
      ⟨some 28, .load false 1 (.tmp 27), none⟩,
      ⟨some 29, .iadS 2 (.tmp 28) (.cst (.int .i64 0)), none⟩,
      ⟨some 30, .fadr 0 (.tmp 29), none⟩,
      ⟨some 31, .load false 1 (.tmp 30), none⟩,
      ⟨some 32, .bsl 1 [(.tmp 31)], none⟩,
      ⟨some 33, .app 1 8 (.tmp 26) (.tmp 32), none⟩,
      ⟨some 5, .mv (.tmp 33), none⟩])
    (.reg [⟨some 34, .fadr 1 (.tmp 4), none⟩,
      ⟨some 35, .load false 1 (.tmp 34), none⟩,
      ⟨some 36, .slS 2 (.tmp 35) (some (.cst (.int .i64 1))) none none, none⟩,
      ⟨some 37, .fadr 1 (.tmp 4), none⟩,
      ⟨none, .store 1 (.tmp 37) (.tmp 36), none⟩]))))))
  (.seq (.reg [⟨some 38, .load true 2 (.tmp 4), none⟩,
    ⟨some 39, .mv (.tmp 5), none⟩,
    ⟨none, .store 2 (.tmp 2) (.tmp 38), none⟩,
    ⟨some 3, .mv (.tmp 39), none⟩])
  .ret))))))
theorem p_wheel_Tick : Try.f11.body.bind (compC Try.prog 40) = some c_wheel_Tick := by kernel_rfl
theorem r_wheel_Tick : tellR Try.prog Try.f11.results.toList = some [.c 2 true 2, .t 3] := by kernel_rfl

/-- caravel/wheel.Clone: 1 in. -/
def c_wheel_Clone : ACode :=
  (.seq (.reg [⟨some 1, .box (.tmp 0), none⟩,
    ⟨some 2, .newb [(.int .u64 0), .nil], none⟩])
  (.seq (.drw [⟨some 3, .fadr 0 (.tmp 1), none⟩,
    ⟨some 4, .load false 1 (.tmp 3), none⟩,
    ⟨some 5, .fadr 1 (.tmp 1), none⟩,
    ⟨some 6, .load false 1 (.tmp 5), none⟩,
    ⟨some 7, .call 24 [(.tmp 6)], none⟩,
    ⟨some 8, .build [(.int .u64 0), .nil] [(0, 1, (.tmp 4)), (1, 1, (.tmp 7))], none⟩,
    ⟨none, .store 2 (.tmp 2) (.tmp 8), none⟩] [[], [], [], [], [], [], []])
  .ret))
theorem p_wheel_Clone : Try.f13.body.bind (compC Try.prog 9) = some c_wheel_Clone := by kernel_rfl
theorem r_wheel_Clone : tellR Try.prog Try.f13.results.toList = some [.c 2 true 2] := by kernel_rfl

/-- slices.DeleteFunc[[]caravel/api.Timer,caravel/api.Timer]: 2 in. -/
def c_slices_DeleteFunc__caravel_api_Timer_caravel_api_Timer : ACode :=
  (.seq (.reg [⟨some 4, .mv (.cst .nil), none⟩])
  (.seq (.reg [⟨some 8, .mv (.tmp 0), none⟩,
    ⟨some 9, .mv (.tmp 1), none⟩,
    ⟨some 10, .call 26 [(.tmp 8), (.tmp 9)], none⟩,
    ⟨some 5, .mv (.tmp 10), none⟩])
  (.seq (.seq (.reg [⟨some 11, .mv (.tmp 5), none⟩,
    ⟨some 12, .bin .eql (.tmp 11) (.cst (.int .i64 (-1))), none⟩])
  (.cond (.tmp 12)
    (.seq (.reg [⟨some 13, .mv (.tmp 0), none⟩,
      ⟨some 4, .mv (.tmp 13), none⟩])
    .ret)
    .skip))
  (.seq (.seq (.reg [⟨some 14, .mv (.tmp 5), none⟩,
    ⟨some 15, .bin .add (.tmp 14) (.cst (.int .i64 1)), none⟩,
    ⟨some 6, .mv (.tmp 15), none⟩])
  (.block 0 (.loop
    (.seq (.seq (.reg [⟨some 16, .mv (.tmp 6), none⟩,
      ⟨some 17, .mv (.tmp 0), none⟩,
      ⟨some 18, .lenV (.tmp 17), none⟩,
      ⟨some 19, .bin .lss (.tmp 16) (.tmp 18), none⟩])
    (.cond (.tmp 19)
      .skip
      (.exit 0)))
    (.seq (.block 1 (.seq (.reg [⟨some 22, .mv (.tmp 0), none⟩,
      ⟨some 23, .mv (.tmp 6), none⟩,
      ⟨some 24, .iadS 2 (.tmp 22) (.tmp 23), none⟩,
      ⟨some 25, .load true 2 (.tmp 24), none⟩,
      ⟨some 7, .newb [(.int .i64 0), (.int .u64 0)], none⟩,
      ⟨none, .store 2 (.tmp 7) (.tmp 25), none⟩])
    (.seq (.reg [⟨some 26, .mv (.tmp 1), none⟩,
      ⟨some 27, .load true 2 (.tmp 7), none⟩,
      ⟨some 28, .callv (.tmp 26) [(.tmp 27)], none⟩,
      ⟨some 29, .not (.tmp 28), none⟩])
    (.cond (.tmp 29)
      (.seq (.reg [⟨some 30, .mv (.tmp 0), none⟩,
        ⟨some 31, .mv (.tmp 5), none⟩,
        ⟨some 32, .load true 2 (.tmp 7), none⟩,
        ⟨some 33, .iadS 2 (.tmp 30) (.tmp 31), none⟩,
        ⟨none, .store 2 (.tmp 33) (.tmp 32), none⟩])
      (.reg [⟨some 34, .mv (.tmp 5), none⟩,
        ⟨some 35, .bin .add (.tmp 34) (.cst (.int .i64 1)), none⟩,
        ⟨some 5, .mv (.tmp 35), none⟩]))
      .skip))))
    (.reg [⟨some 20, .mv (.tmp 6), none⟩,
      ⟨some 21, .bin .add (.tmp 20) (.cst (.int .i64 1)), none⟩,
      ⟨some 6, .mv (.tmp 21), none⟩]))))))
  (.seq (.reg [⟨some 36, .mv (.tmp 0), none⟩,
    ⟨some 37, .mv (.tmp 5), none⟩,
    ⟨some 38, .slS 2 (.tmp 36) (some (.tmp 37)) none none, none⟩,
    ⟨none, .clr 2 (.agg [(.int .i64 0), (.int .u64 0)]) (.tmp 38), none⟩])
  (.seq (.reg [⟨some 39, .mv (.tmp 0), none⟩,
    ⟨some 40, .mv (.tmp 5), none⟩,
    ⟨some 41, .slS 2 (.tmp 39) none (some (.tmp 40)) none, none⟩,
    ⟨some 4, .mv (.tmp 41), none⟩])
  .ret))))))
theorem p_slices_DeleteFunc__caravel_api_Timer_caravel_api_Timer : Try.f19.body.bind (compC Try.prog 42) = some c_slices_DeleteFunc__caravel_api_Timer_caravel_api_Timer := by kernel_rfl
theorem r_slices_DeleteFunc__caravel_api_Timer_caravel_api_Timer : tellR Try.prog Try.f19.results.toList = some [.t 4] := by kernel_rfl

/-- caravel/wheel.Stop$1: 2 in. -/
def c_wheel_Stop_1 : ACode :=
  (.seq (.reg [⟨some 2, .box (.tmp 0), none⟩,
    ⟨some 3, .mv (.cst (.bool false)), none⟩])
  (.seq (.reg [⟨some 4, .fadr 0 (.tmp 2), none⟩,
    ⟨some 5, .load false 1 (.tmp 4), none⟩,
    ⟨some 6, .load false 1 (.tmp 1), none⟩,
    ⟨some 7, .bin .eql (.tmp 5) (.tmp 6), none⟩,
    ⟨some 3, .mv (.tmp 7), none⟩])
  .ret))
theorem p_wheel_Stop_1 : Try.f20.body.bind (compC Try.prog 8) = some c_wheel_Stop_1 := by kernel_rfl
theorem r_wheel_Stop_1 : tellR Try.prog Try.f20.results.toList = some [.t 3] := by kernel_rfl

/-- slices.Insert[[]caravel/api.Timer,caravel/api.Timer]: 3 in. -/
def c_slices_Insert__caravel_api_Timer_caravel_api_Timer : ACode :=
  (.seq (.reg [⟨some 6, .mv (.cst .nil), none⟩])
  (.seq (.reg [⟨some 10, .mv (.tmp 0), none⟩,
    ⟨some 11, .mv (.tmp 1), none⟩,
    ⟨some 12, .slS 2 (.tmp 10) (some (.tmp 11)) none none, none⟩])
  (.seq (.reg [⟨some 13, .mv (.tmp 2), none⟩,
    ⟨some 14, .lenV (.tmp 13), none⟩,
    ⟨some 7, .mv (.tmp 14), none⟩])
  (.seq (.seq (.reg [⟨some 15, .mv (.tmp 7), none⟩,
    ⟨some 16, .bin .eql (.tmp 15) (.cst (.int .i64 0)), none⟩])
  (.cond (.tmp 16)
    (.seq (.reg [⟨some 17, .mv (.tmp 0), none⟩,
      ⟨some 6, .mv (.tmp 17), none⟩])
    .ret)
    .skip))
  (.seq (.reg [⟨some 18, .mv (.tmp 0), none⟩,
    ⟨some 19, .lenV (.tmp 18), none⟩,
    ⟨some 8, .mv (.tmp 19), none⟩])
  (.seq (.seq (.reg [⟨some 20, .mv (.tmp 1), none⟩,
    ⟨some 21, .mv (.tmp 8), none⟩,
    ⟨some 22, .bin .eql (.tmp 20) (.tmp 21), none⟩])
  (.cond (.tmp 22)
    (.seq (.reg [⟨some 23, .mv (.tmp 0), none⟩,
      ⟨some 24, .mv (.tmp 2), none⟩,
      ⟨some 25, .app 2 16 (.tmp 23) (.tmp 24), none⟩,
      ⟨some 6, .mv (.tmp 25), none⟩])
    .ret)
    .skip))
  (.seq (.seq (.reg [⟨some 26, .mv (.tmp 8), none⟩,
    ⟨some 27, .mv (.tmp 7), none⟩,
    ⟨some 28, .bin .add (.tmp 26) (.tmp 27), none⟩,
    ⟨some 29, .mv (.tmp 0), none⟩,
    ⟨some 30, .capV (.tmp 29), none⟩,
    ⟨some 31, .bin .gtr (.tmp 28) (.tmp 30), none⟩])
  (.cond (.tmp 31)
    (.seq (.reg [⟨some 32, .mv (.tmp 0), none⟩,
      ⟨some 33, .mv (.tmp 1), none⟩,
      ⟨some 34, .slS 2 (.tmp 32) none (some (.tmp 33)) none, none⟩,
      ⟨some 35, .mv (.tmp 8), none⟩,
      ⟨some 36, .mv (.tmp 7), none⟩,
      ⟨some 37, .bin .add (.tmp 35) (.tmp 36), none⟩,
      ⟨some 38, .mv (.tmp 1), none⟩,
      ⟨some 39, .bin .sub (.tmp 37) (.tmp 38), none⟩,
      ⟨some 40, .appz 2 16 (.agg [(.int .i64 0), (.int .u64 0)]) (.tmp 34) (.tmp 39), none⟩,
      ⟨some 9, .mv (.tmp 40), none⟩])
    (.seq (.reg [⟨some 41, .mv (.tmp 9), none⟩,
      ⟨some 42, .mv (.tmp 1), none⟩,
      ⟨some 43, .slS 2 (.tmp 41) (some (.tmp 42)) none none, none⟩,
      ⟨some 44, .mv (.tmp 2), none⟩,
      ⟨some 45, .cpy 2 (.tmp 43) (.tmp 44), none⟩])
    (.seq (.reg [⟨some 46, .mv (.tmp 9), none⟩,
      ⟨some 47, .mv (.tmp 1), none⟩,
      ⟨some 48, .mv (.tmp 7), none⟩,
      ⟨some 49, .bin .add (.tmp 47) (.tmp 48), none⟩,
      ⟨some 50, .slS 2 (.tmp 46) (some (.tmp 49)) none none, none⟩,
      ⟨some 51, .mv (.tmp 0), none⟩,
      ⟨some 52, .mv (.tmp 1), none⟩,
      ⟨some 53, .slS 2 (.tmp 51) (some (.tmp 52)) none none, none⟩,
      ⟨some 54, .cpy 2 (.tmp 50) (.tmp 53), none⟩])
    (.seq (.reg [⟨some 55, .mv (.tmp 9), none⟩,
      ⟨some 6, .mv (.tmp 55), none⟩])
    .ret))))
    .skip))
  (.seq (.reg [⟨some 56, .mv (.tmp 0), none⟩,
    ⟨some 57, .mv (.tmp 8), none⟩,
    ⟨some 58, .mv (.tmp 7), none⟩,
    ⟨some 59, .bin .add (.tmp 57) (.tmp 58), none⟩,
    ⟨some 60, .slS 2 (.tmp 56) none (some (.tmp 59)) none, none⟩,
    ⟨some 0, .mv (.tmp 60), none⟩])
  (.seq (.seq (.reg [⟨some 61, .mv (.tmp 2), none⟩,
    ⟨some 62, .mv (.tmp 0), none⟩,
    ⟨some 63, .mv (.tmp 1), none⟩,
    ⟨some 64, .mv (.tmp 7), none⟩,
    ⟨some 65, .bin .add (.tmp 63) (.tmp 64), none⟩,
    ⟨some 66, .slS 2 (.tmp 62) (some (.tmp 65)) none none, none⟩,
    ⟨some 67, .call 27 [(.tmp 61), (.tmp 66)], none⟩,
    ⟨some 68, .not (.tmp 67), none⟩])
  (.cond (.tmp 68)
    (.seq (.reg [⟨some 69, .mv (.tmp 0), none⟩,
      ⟨some 70, .mv (.tmp 1), none⟩,
      ⟨some 71, .mv (.tmp 7), none⟩,
      ⟨some 72, .bin .add (.tmp 70) (.tmp 71), none⟩,
      ⟨some 73, .slS 2 (.tmp 69) (some (.tmp 72)) none none, none⟩,
      ⟨some 74, .mv (.tmp 0), none⟩,
      ⟨some 75, .mv (.tmp 1), none⟩,
      ⟨some 76, .slS 2 (.tmp 74) (some (.tmp 75)) none none, none⟩,
      ⟨some 77, .cpy 2 (.tmp 73) (.tmp 76), none⟩])
    (.seq (.reg [⟨some 78, .mv (.tmp 0), none⟩,
      ⟨some 79, .mv (.tmp 1), none⟩,
      ⟨some 80, .slS 2 (.tmp 78) (some (.tmp 79)) none none, none⟩,
      ⟨some 81, .mv (.tmp 2), none⟩,
      ⟨some 82, .cpy 2 (.tmp 80) (.tmp 81), none⟩])
    (.seq (.reg [⟨some 83, .mv (.tmp 0), none⟩,
      ⟨some 6, .mv (.tmp 83), none⟩])
    .ret)))
    .skip))
  (.seq (.reg [⟨some 84, .mv (.tmp 0), none⟩,
    ⟨some 85, .mv (.tmp 8), none⟩,
    ⟨some 86, .slS 2 (.tmp 84) (some (.tmp 85)) none none, none⟩,
    ⟨some 87, .mv (.tmp 2), none⟩,
    ⟨some 88, .cpy 2 (.tmp 86) (.tmp 87), none⟩])
  (.seq (.reg [⟨some 89, .mv (.tmp 0), none⟩,
    ⟨some 90, .mv (.tmp 1), none⟩,
    ⟨some 91, .slS 2 (.tmp 89) (some (.tmp 90)) none none, none⟩,
    ⟨some 92, .mv (.tmp 7), none⟩,
    ⟨some 93, .call 28 [(.tmp 91), (.tmp 92)], none⟩])
  (.seq (.reg [⟨some 94, .mv (.tmp 0), none⟩,
    ⟨some 6, .mv (.tmp 94), none⟩])
  .ret))))))))))))
theorem p_slices_Insert__caravel_api_Timer_caravel_api_Timer : Try.f21.body.bind (compC Try.prog 95) = some c_slices_Insert__caravel_api_Timer_caravel_api_Timer := by kernel_rfl
theorem r_slices_Insert__caravel_api_Timer_caravel_api_Timer : tellR Try.prog Try.f21.results.toList = some [.t 6] := by kernel_rfl

/-- slices.Clone[[]caravel/api.Timer,caravel/api.Timer]: 1 in. -/
def c_slices_Clone__caravel_api_Timer_caravel_api_Timer : ACode :=
  (.seq (.reg [⟨some 2, .mv (.cst .nil), none⟩])
  (.seq (.seq (.reg [⟨some 3, .mv (.tmp 0), none⟩,
    ⟨some 4, .isN false (.tmp 3), none⟩])
  (.cond (.tmp 4)
    (.seq (.reg [⟨some 2, .mv (.cst .nil), none⟩])
    .ret)
    .skip))
  (.seq (.reg [⟨some 5, .bsl 2 [], none⟩,
    ⟨some 6, .mv (.tmp 0), none⟩,
    ⟨some 7, .app 2 16 (.tmp 5) (.tmp 6), none⟩,
    ⟨some 2, .mv (.tmp 7), none⟩])
  .ret)))
theorem p_slices_Clone__caravel_api_Timer_caravel_api_Timer : Try.f24.body.bind (compC Try.prog 8) = some c_slices_Clone__caravel_api_Timer_caravel_api_Timer := by kernel_rfl
theorem r_slices_Clone__caravel_api_Timer_caravel_api_Timer : tellR Try.prog Try.f24.results.toList = some [.t 2] := by kernel_rfl

/-- slices.IndexFunc[[]caravel/api.Timer,caravel/api.Timer]: 2 in. -/
def c_slices_IndexFunc__caravel_api_Timer_caravel_api_Timer : ACode :=
  (.seq (.reg [⟨some 4, .mv (.cst (.int .i64 0)), none⟩])
  (.seq (.seq (.reg [⟨some 6, .mv (.tmp 0), none⟩,
    ⟨some 7, .lenV (.tmp 6), none⟩,
    ⟨some 8, .mv (.cst (.int .i64 0)), none⟩])
  (.block 0 (.loop
    (.seq (.reg [⟨some 9, .bin .lss (.tmp 8) (.tmp 7), none⟩])
    (.seq (.cond (.tmp 9)
      .skip
      (.exit 0))
    (.seq (.block 1 (.seq (.reg [⟨some 10, .mv (.tmp 8), none⟩,
      ⟨some 5, .mv (.tmp 10), none⟩])
    (.seq (.reg [⟨some 11, .mv (.tmp 1), none⟩,
      ⟨some 12, .mv (.tmp 0), none⟩,
      ⟨some 13, .mv (.tmp 5), none⟩,
      ⟨some 14, .iadS 2 (.tmp 12) (.tmp 13), none⟩,
      ⟨some 15, .load true 2 (.tmp 14), none⟩,
      ⟨some 16, .callv (.tmp 11) [(.tmp 15)], none⟩])
    (.cond (.tmp 16)
      (.seq (.reg [⟨some 17, .mv (.tmp 5), none⟩,
        ⟨some 4, .mv (.tmp 17), none⟩])
      .ret)
      .skip))))
    (.reg [⟨some 18, .bin .add (.tmp 8) (.cst (.int .i64 1)), none⟩,
      ⟨some 8, .mv (.tmp 18), none⟩])))))))
  (.seq (.reg [⟨some 4, .mv (.cst (.int .i64 (-1))), none⟩])
  .ret)))
theorem p_slices_IndexFunc__caravel_api_Timer_caravel_api_Timer : Try.f26.body.bind (compC Try.prog 19) = some c_slices_IndexFunc__caravel_api_Timer_caravel_api_Timer := by kernel_rfl
theorem r_slices_IndexFunc__caravel_api_Timer_caravel_api_Timer : tellR Try.prog Try.f26.results.toList = some [.t 4] := by kernel_rfl

end Go.Proofs.Ytbkekpecfgmelaa
