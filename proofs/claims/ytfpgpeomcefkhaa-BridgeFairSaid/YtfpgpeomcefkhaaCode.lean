/- The program's functions, told as operations on abstract values. -/
import Derived.Test.YtfpgpeomcefkhaaAx30
import Derived.Test.YtfpgpeomcefkhaaProg
namespace Go.Proofs.Ytfpgpeomcefkhaa

/-- gosem.cut.init: 0 in. -/
def c_gosem_cut_init : ACode :=
  (.reg [⟨some 0, .call 1 [], none⟩])
theorem p_gosem_cut_init : Try.f2.body.bind (compC Try.prog 1) = some c_gosem_cut_init := by kernel_rfl
theorem r_gosem_cut_init : tellR Try.prog Try.f2.results.toList = some [] := by kernel_rfl

/-- caravel/caravellaw12.BridgePlays: 2 in. -/
def c_caravellaw12_BridgePlays : ACode :=
  (.seq (.reg [⟨some 4, .mv (.cst (.bool false)), none⟩])
  (.seq (.seq (.reg [⟨some 21, .call 6 [], none⟩,
    ⟨some 22, .not (.tmp 21), none⟩,
    ⟨some 23, .mv (.tmp 22), none⟩,
    ⟨some 24, .mv (.tmp 1), some (23, false)⟩,
    ⟨some 25, .call 7 [(.tmp 24)], some (23, false)⟩,
    ⟨some 26, .not (.tmp 25), some (23, false)⟩,
    ⟨some 27, .pick (.tmp 23) (.cst (.bool true)) (.tmp 26), none⟩])
  (.cond (.tmp 27)
    (.seq (.reg [⟨some 28, .call 6 [], none⟩,
      ⟨some 4, .mv (.tmp 28), none⟩])
    .ret)
    .skip))
  (.seq (.reg [⟨some 30, .mv (.tmp 0), none⟩,
    ⟨some 31, .call 8 [(.tmp 30)], none⟩,
    ⟨some 29, .mv (.tmp 31), none⟩,
    ⟨some 32, .ext (.tmp 29) 0, none⟩,
    ⟨some 33, .ext (.tmp 29) 1, none⟩,
    ⟨some 5, .newb [(.int .i64 0), .nil], none⟩,
    ⟨none, .store 2 (.tmp 5) (.tmp 32), none⟩,
    ⟨some 6, .mv (.tmp 33), none⟩])
  (.seq (.seq (.reg [⟨some 34, .mv (.tmp 0), none⟩,
    ⟨some 35, .bin .lss (.tmp 34) (.cst (.int .i64 1)), none⟩,
    ⟨some 36, .mv (.tmp 35), none⟩,
    ⟨some 37, .mv (.tmp 0), some (36, false)⟩,
    ⟨some 38, .bin .gtr (.tmp 37) (.cst (.int .i64 8)), some (36, false)⟩,
    ⟨some 39, .pick (.tmp 36) (.cst (.bool true)) (.tmp 38), none⟩])
  (.cond (.tmp 39)
    (.seq (.reg [⟨some 40, .mv (.tmp 6), none⟩,
      ⟨some 41, .bin .eql (.tmp 40) (.cst (.int .i64 1)), none⟩,
      ⟨some 42, .mv (.tmp 41), none⟩,
      ⟨some 43, .fadr 0 (.tmp 5), some (42, true)⟩,
      ⟨some 44, .load false 1 (.tmp 43), some (42, true)⟩,
      ⟨some 45, .bin .eql (.tmp 44) (.cst (.int .i64 0)), some (42, true)⟩,
      ⟨some 46, .pick (.tmp 42) (.tmp 45) (.cst (.bool false)), none⟩,
      ⟨some 4, .mv (.tmp 46), none⟩])
    .ret)
    .skip))
  (.seq (.reg [⟨some 47, .mv (.tmp 0), none⟩,
    ⟨some 48, .build [(.int .i64 0), .nil] [(0, 1, (.tmp 47))], none⟩,
    ⟨some 7, .newb [(.int .i64 0), .nil], none⟩,
    ⟨none, .store 2 (.tmp 7) (.tmp 48), none⟩])
  (.seq (.seq (.reg [⟨some 49, .mv (.tmp 1), none⟩,
    ⟨some 50, .lenV (.tmp 49), none⟩,
    ⟨some 51, .mv (.cst (.int .i64 0)), none⟩])
  (.block 0 (.loop
    (.seq (.reg [⟨some 52, .bin .lss (.tmp 51) (.tmp 50), none⟩])
    (.seq (.cond (.tmp 52)
      .skip
      (.exit 0))
    (.seq (.block 1 (.seq (.reg [⟨some 53, .iadS 4 (.tmp 49) (.tmp 51), none⟩,
      ⟨some 54, .load true 4 (.tmp 53), none⟩,
      ⟨some 9, .newb [(.int .i64 0), (.int .u8 0), (.int .u8 0), .nil], none⟩,
      ⟨none, .store 4 (.tmp 9) (.tmp 54), none⟩])
    (.seq (.drw [⟨some 56, .load true 2 (.tmp 5), none⟩,
      ⟨some 57, .fadr 0 (.tmp 9), none⟩,
      ⟨some 58, .load false 1 (.tmp 57), none⟩,
      ⟨some 59, .load true 4 (.tmp 9), none⟩,
      ⟨some 60, .call 10 [(.tmp 59)], none⟩,
      ⟨some 61, .call 9 [(.tmp 56), (.tmp 58), (.tmp 60)], none⟩,
      ⟨some 55, .mv (.tmp 61), none⟩,
      ⟨some 62, .ext (.tmp 55) 0, none⟩,
      ⟨some 63, .ext (.tmp 55) 1, none⟩,
      ⟨some 64, .ext (.tmp 55) 2, none⟩,
      ⟨some 10, .newb [(.int .i64 0), .nil], none⟩,
      ⟨none, .store 2 (.tmp 10) (.tmp 62), none⟩,
      ⟨some 11, .mv (.tmp 63), none⟩,
      ⟨some 12, .mv (.tmp 64), none⟩] [[], [], [], [], [], [], [], [], [], [], [], [], [], []])
    (.seq (.drw [⟨some 66, .load true 2 (.tmp 7), none⟩,
      ⟨some 67, .fadr 0 (.tmp 9), none⟩,
      ⟨some 68, .load false 1 (.tmp 67), none⟩,
      ⟨some 69, .load true 4 (.tmp 9), none⟩,
      ⟨some 70, .call 10 [(.tmp 69)], none⟩,
      ⟨some 71, .b2s (.tmp 70), none⟩,
      ⟨some 72, .call 11 [(.tmp 66), (.tmp 68), (.tmp 71)], none⟩,
      ⟨some 65, .mv (.tmp 72), none⟩,
      ⟨some 73, .ext (.tmp 65) 0, none⟩,
      ⟨some 74, .ext (.tmp 65) 1, none⟩,
      ⟨some 75, .ext (.tmp 65) 2, none⟩,
      ⟨some 13, .newb [(.int .i64 0), .nil], none⟩,
      ⟨none, .store 2 (.tmp 13) (.tmp 73), none⟩,
      ⟨some 14, .mv (.tmp 74), none⟩,
      ⟨some 15, .mv (.tmp 75), none⟩] [[], [], [], [], [], [], [], [], [], [], [], [], [], [], []])
    (.seq (.seq (.reg [⟨some 76, .mv (.tmp 12), none⟩,
      ⟨some 77, .mv (.tmp 15), none⟩,
      ⟨some 78, .bin .neq (.tmp 76) (.tmp 77), none⟩,
      ⟨some 79, .mv (.tmp 78), none⟩,
      ⟨some 80, .mv (.tmp 11), some (79, false)⟩,
      ⟨some 81, .lenV (.tmp 80), some (79, false)⟩,
      ⟨some 82, .mv (.tmp 14), some (79, false)⟩,
      ⟨some 83, .lenV (.tmp 82), some (79, false)⟩,
      ⟨some 84, .bin .neq (.tmp 81) (.tmp 83), some (79, false)⟩,
      ⟨some 85, .pick (.tmp 79) (.cst (.bool true)) (.tmp 84), none⟩,
      ⟨some 86, .mv (.tmp 85), none⟩,
      ⟨some 87, .load true 2 (.tmp 7), some (86, false)⟩,
      ⟨some 88, .load true 2 (.tmp 5), some (86, false)⟩,
      ⟨some 89, .call 12 [(.tmp 87), (.tmp 88)], some (86, false)⟩,
      ⟨some 90, .not (.tmp 89), some (86, false)⟩,
      ⟨some 91, .pick (.tmp 86) (.cst (.bool true)) (.tmp 90), none⟩,
      ⟨some 92, .mv (.tmp 91), none⟩,
      ⟨some 93, .load true 2 (.tmp 13), some (92, false)⟩,
      ⟨some 94, .load true 2 (.tmp 10), some (92, false)⟩,
      ⟨some 95, .call 12 [(.tmp 93), (.tmp 94)], some (92, false)⟩,
      ⟨some 96, .not (.tmp 95), some (92, false)⟩,
      ⟨some 97, .pick (.tmp 92) (.cst (.bool true)) (.tmp 96), none⟩])
    (.cond (.tmp 97)
      (.seq (.reg [⟨some 4, .mv (.cst (.bool false)), none⟩])
      .ret)
      .skip))
    (.seq (.seq (.reg [⟨some 98, .mv (.tmp 11), none⟩,
      ⟨some 99, .lenV (.tmp 98), none⟩,
      ⟨some 100, .mv (.cst (.int .i64 0)), none⟩])
    (.block 2 (.loop
      (.seq (.reg [⟨some 101, .bin .lss (.tmp 100) (.tmp 99), none⟩])
      (.seq (.cond (.tmp 101)
        .skip
        (.exit 2))
      (.seq (.block 3 (.seq (.reg [⟨some 102, .mv (.tmp 100), none⟩,
        ⟨some 16, .mv (.tmp 102), none⟩])
      (.seq (.reg [⟨some 103, .mv (.tmp 11), none⟩,
        ⟨some 104, .mv (.tmp 16), none⟩,
        ⟨some 105, .iadS 1 (.tmp 103) (.tmp 104), none⟩,
        ⟨some 106, .load false 1 (.tmp 105), none⟩,
        ⟨some 107, .mv (.tmp 14), none⟩,
        ⟨some 108, .mv (.tmp 16), none⟩,
        ⟨some 109, .iadS 1 (.tmp 107) (.tmp 108), none⟩,
        ⟨some 110, .load false 1 (.tmp 109), none⟩,
        ⟨some 111, .bin .neq (.tmp 106) (.tmp 110), none⟩])
      (.cond (.tmp 111)
        (.seq (.reg [⟨some 4, .mv (.cst (.bool false)), none⟩])
        .ret)
        .skip))))
      (.reg [⟨some 112, .bin .add (.tmp 100) (.cst (.int .i64 1)), none⟩,
        ⟨some 100, .mv (.tmp 112), none⟩])))))))
    (.seq (.drw [⟨some 113, .load true 2 (.tmp 10), none⟩,
      ⟨some 114, .load true 2 (.tmp 13), none⟩,
      ⟨none, .store 2 (.tmp 5) (.tmp 113), none⟩,
      ⟨none, .store 2 (.tmp 7) (.tmp 114), none⟩] [[], [], [1], []])
    (.seq (.reg [⟨some 115, .mv (.cst (.int .u8 0)), none⟩])
    (.block 4 (.loop
      (.seq (.reg [⟨some 116, .bin .lss (.tmp 115) (.cst (.int .u8 20)), none⟩])
      (.seq (.cond (.tmp 116)
        .skip
        (.exit 4))
      (.seq (.block 5 (.seq (.reg [⟨some 117, .mv (.tmp 115), none⟩,
        ⟨some 17, .mv (.tmp 117), none⟩])
      (.seq (.reg [⟨some 119, .load true 2 (.tmp 5), none⟩,
        ⟨some 120, .mv (.tmp 17), none⟩,
        ⟨some 121, .build [(.int .u8 0), (.int .u8 0), (.int .u8 0), (.int .u8 0), (.int .u8 0), (.int .u8 0)] [(0, 1, (.cst (.int .u8 2))), (1, 1, (.tmp 120))], none⟩,
        ⟨some 122, .call 13 [(.tmp 119), (.tmp 121)], none⟩,
        ⟨some 118, .mv (.tmp 122), none⟩,
        ⟨some 123, .ext (.tmp 118) 0, none⟩,
        ⟨some 124, .ext (.tmp 118) 1, none⟩,
        ⟨some 18, .mv (.tmp 123), none⟩,
        ⟨some 19, .mv (.tmp 124), none⟩])
      (.seq (.reg [⟨some 125, .load true 2 (.tmp 7), none⟩,
        ⟨some 126, .mv (.tmp 17), none⟩,
        ⟨some 127, .build [(.int .u8 0), (.int .u8 0), (.int .u8 0), (.int .u8 0), (.int .u8 0), (.int .u8 0)] [(0, 1, (.cst (.int .u8 2))), (1, 1, (.tmp 126))], none⟩,
        ⟨some 128, .call 14 [(.tmp 125), (.tmp 127)], none⟩,
        ⟨some 20, .mv (.tmp 128), none⟩])
      (.seq (.reg [⟨some 129, .mv (.tmp 19), none⟩,
        ⟨some 130, .mv (.tmp 20), none⟩,
        ⟨some 131, .bin .geq (.tmp 130) (.cst (.int .i64 0)), none⟩,
        ⟨some 132, .binB true (.tmp 129) (.tmp 131), none⟩,
        ⟨some 133, .mv (.tmp 132), none⟩,
        ⟨some 134, .mv (.tmp 19), some (133, false)⟩,
        ⟨some 135, .mv (.tmp 134), some (133, false)⟩,
        ⟨some 136, .mv (.tmp 18), some (135, true)⟩,
        ⟨some 137, .mv (.tmp 20), some (135, true)⟩,
        ⟨some 138, .bin .neq (.tmp 136) (.tmp 137), some (135, true)⟩,
        ⟨some 139, .pick (.tmp 135) (.tmp 138) (.cst (.bool false)), some (133, false)⟩,
        ⟨some 140, .pick (.tmp 133) (.cst (.bool true)) (.tmp 139), none⟩,
        ⟨some 141, .mv (.tmp 140), none⟩,
        ⟨some 142, .mv (.tmp 19), some (141, false)⟩,
        ⟨some 143, .not (.tmp 142), some (141, false)⟩,
        ⟨some 144, .mv (.tmp 143), some (141, false)⟩,
        ⟨some 145, .mv (.tmp 18), some (144, true)⟩,
        ⟨some 146, .bin .neq (.tmp 145) (.cst (.int .i64 0)), some (144, true)⟩,
        ⟨some 147, .pick (.tmp 144) (.tmp 146) (.cst (.bool false)), some (141, false)⟩,
        ⟨some 148, .pick (.tmp 141) (.cst (.bool true)) (.tmp 147), none⟩])
      (.cond (.tmp 148)
        (.seq (.reg [⟨some 4, .mv (.cst (.bool false)), none⟩])
        .ret)
        .skip))))))
      (.reg [⟨some 149, .bin .add (.tmp 115) (.cst (.int .u8 1)), none⟩,
        ⟨some 115, .mv (.tmp 149), none⟩]))))))))))))))
    (.reg [⟨some 150, .bin .add (.tmp 51) (.cst (.int .i64 1)), none⟩,
      ⟨some 51, .mv (.tmp 150), none⟩])))))))
  (.seq (.reg [⟨some 151, .mv (.tmp 6), none⟩,
    ⟨some 152, .bin .eql (.tmp 151) (.cst (.int .i64 0)), none⟩,
    ⟨some 4, .mv (.tmp 152), none⟩])
  .ret)))))))
theorem p_caravellaw12_BridgePlays : Try.f3.body.bind (compC Try.prog 153) = some c_caravellaw12_BridgePlays := by kernel_rfl
theorem r_caravellaw12_BridgePlays : tellR Try.prog Try.f3.results.toList = some [.t 4] := by kernel_rfl

/-- caravel/caravellaw12.BridgeFair: 3 in. -/
def c_caravellaw12_BridgeFair : ACode :=
  (.seq (.reg [⟨some 6, .mv (.cst (.bool false)), none⟩])
  (.seq (.seq (.reg [⟨some 24, .call 6 [], none⟩,
    ⟨some 25, .not (.tmp 24), none⟩,
    ⟨some 26, .mv (.tmp 25), none⟩,
    ⟨some 27, .mv (.tmp 0), some (26, false)⟩,
    ⟨some 28, .call 7 [(.tmp 27)], some (26, false)⟩,
    ⟨some 29, .not (.tmp 28), some (26, false)⟩,
    ⟨some 30, .pick (.tmp 26) (.cst (.bool true)) (.tmp 29), none⟩])
  (.cond (.tmp 30)
    (.seq (.reg [⟨some 31, .call 6 [], none⟩,
      ⟨some 6, .mv (.tmp 31), none⟩])
    .ret)
    .skip))
  (.seq (.reg [⟨some 33, .call 8 [(.cst (.int .i64 4))], none⟩,
    ⟨some 32, .mv (.tmp 33), none⟩,
    ⟨some 34, .ext (.tmp 32) 0, none⟩,
    ⟨some 35, .ext (.tmp 32) 1, none⟩,
    ⟨some 7, .newb [(.int .i64 0), .nil], none⟩,
    ⟨none, .store 2 (.tmp 7) (.tmp 34), none⟩,
    ⟨some 8, .mv (.tmp 35), none⟩])
  (.seq (.seq (.reg [⟨some 36, .mv (.tmp 8), none⟩,
    ⟨some 37, .bin .neq (.tmp 36) (.cst (.int .i64 0)), none⟩])
  (.cond (.tmp 37)
    (.seq (.reg [⟨some 6, .mv (.cst (.bool false)), none⟩])
    .ret)
    .skip))
  (.seq (.seq (.reg [⟨some 38, .mv (.tmp 0), none⟩,
    ⟨some 39, .lenV (.tmp 38), none⟩,
    ⟨some 40, .mv (.cst (.int .i64 0)), none⟩])
  (.block 0 (.loop
    (.seq (.reg [⟨some 41, .bin .lss (.tmp 40) (.tmp 39), none⟩])
    (.seq (.cond (.tmp 41)
      .skip
      (.exit 0))
    (.seq (.block 1 (.seq (.reg [⟨some 42, .iadS 4 (.tmp 38) (.tmp 40), none⟩,
      ⟨some 43, .load true 4 (.tmp 42), none⟩,
      ⟨some 10, .newb [(.int .i64 0), (.int .u8 0), (.int .u8 0), .nil], none⟩,
      ⟨none, .store 4 (.tmp 10) (.tmp 43), none⟩])
    (.seq (.drw [⟨some 45, .load true 2 (.tmp 7), none⟩,
      ⟨some 46, .fadr 0 (.tmp 10), none⟩,
      ⟨some 47, .load false 1 (.tmp 46), none⟩,
      ⟨some 48, .load true 4 (.tmp 10), none⟩,
      ⟨some 49, .call 10 [(.tmp 48)], none⟩,
      ⟨some 50, .call 9 [(.tmp 45), (.tmp 47), (.tmp 49)], none⟩,
      ⟨some 44, .mv (.tmp 50), none⟩,
      ⟨some 51, .ext (.tmp 44) 0, none⟩,
      ⟨some 52, .ext (.tmp 44) 1, none⟩,
      ⟨some 53, .ext (.tmp 44) 2, none⟩,
      ⟨some 11, .newb [(.int .i64 0), .nil], none⟩,
      ⟨none, .store 2 (.tmp 11) (.tmp 51), none⟩,
      ⟨some 12, .mv (.tmp 52), none⟩,
      ⟨some 13, .mv (.tmp 53), none⟩] [[], [], [], [], [], [], [], [], [], [], [], [], [], []])
    (.seq (.reg [⟨some 54, .load true 2 (.tmp 11), none⟩,
      ⟨none, .store 2 (.tmp 7) (.tmp 54), none⟩])
    (.seq (.reg [⟨some 55, .mv (.tmp 12), none⟩,
      ⟨some 56, .lenV (.tmp 55), none⟩,
      ⟨some 57, .mv (.cst (.int .i64 0)), none⟩])
    (.block 2 (.loop
      (.seq (.reg [⟨some 58, .bin .lss (.tmp 57) (.tmp 56), none⟩])
      (.seq (.cond (.tmp 58)
        .skip
        (.exit 2))
      (.seq (.block 3 (.seq (.reg [⟨some 59, .iadS 1 (.tmp 55) (.tmp 57), none⟩,
        ⟨some 60, .load false 1 (.tmp 59), none⟩,
        ⟨some 15, .mv (.tmp 60), none⟩])
      (.seq (.reg [⟨some 61, .mv (.tmp 15), none⟩,
        ⟨some 62, .fadr 0 (.tmp 10), none⟩,
        ⟨some 63, .load false 1 (.tmp 62), none⟩,
        ⟨some 64, .bin .eql (.tmp 61) (.tmp 63), none⟩,
        ⟨some 65, .mv (.tmp 64), none⟩,
        ⟨some 66, .mv (.tmp 15), some (65, false)⟩,
        ⟨some 67, .bin .lss (.tmp 66) (.cst (.int .i64 0)), some (65, false)⟩,
        ⟨some 68, .pick (.tmp 65) (.cst (.bool true)) (.tmp 67), none⟩,
        ⟨some 69, .mv (.tmp 68), none⟩,
        ⟨some 70, .mv (.tmp 15), some (69, false)⟩,
        ⟨some 71, .bin .gtr (.tmp 70) (.cst (.int .i64 3)), some (69, false)⟩,
        ⟨some 72, .pick (.tmp 69) (.cst (.bool true)) (.tmp 71), none⟩])
      (.cond (.tmp 72)
        (.seq (.reg [⟨some 6, .mv (.cst (.bool false)), none⟩])
        .ret)
        .skip))))
      (.reg [⟨some 73, .bin .add (.tmp 57) (.cst (.int .i64 1)), none⟩,
        ⟨some 57, .mv (.tmp 73), none⟩])))))))))))
    (.reg [⟨some 74, .bin .add (.tmp 40) (.cst (.int .i64 1)), none⟩,
      ⟨some 40, .mv (.tmp 74), none⟩])))))))
  (.seq (.reg [⟨some 75, .mv (.tmp 1), none⟩,
    ⟨some 76, .conv .u64 (.tmp 75), none⟩,
    ⟨some 77, .bin .rem (.tmp 76) (.cst (.int .u64 4)), none⟩,
    ⟨some 78, .conv .i64 (.tmp 77), none⟩,
    ⟨some 79, .mv (.tmp 2), none⟩,
    ⟨some 80, .conv .u64 (.tmp 79), none⟩,
    ⟨some 81, .bin .rem (.tmp 80) (.cst (.int .u64 4)), none⟩,
    ⟨some 82, .conv .i64 (.tmp 81), none⟩,
    ⟨some 16, .mv (.tmp 78), none⟩,
    ⟨some 17, .mv (.tmp 82), none⟩])
  (.seq (.reg [⟨some 83, .build [(.int .u8 0), (.int .u8 0), (.int .u8 0), (.int .u8 0), (.int .u8 0), (.int .u8 0)] [(0, 1, (.cst (.int .u8 4))), (1, 1, (.cst (.int .u8 4)))], none⟩,
    ⟨some 18, .newa [(.int .u8 0), (.int .u8 0), (.int .u8 0), (.int .u8 0), (.int .u8 0), (.int .u8 0)], none⟩,
    ⟨none, .store 6 (.tmp 18) (.tmp 83), none⟩])
  (.seq (.drw [⟨some 85, .load true 2 (.tmp 7), none⟩,
    ⟨some 86, .mv (.tmp 16), none⟩,
    ⟨some 87, .call 16 [], none⟩,
    ⟨some 88, .load true 6 (.tmp 18), none⟩,
    ⟨some 89, .call 15 [(.tmp 87), (.tmp 88)], none⟩,
    ⟨some 90, .call 9 [(.tmp 85), (.tmp 86), (.tmp 89)], none⟩,
    ⟨some 84, .mv (.tmp 90), none⟩,
    ⟨some 91, .ext (.tmp 84) 0, none⟩,
    ⟨some 92, .ext (.tmp 84) 1, none⟩,
    ⟨some 93, .ext (.tmp 84) 2, none⟩,
    ⟨none, .store 2 (.tmp 7) (.tmp 91), none⟩] [[], [], [], [], [], [], [], [], [], [], []])
  (.seq (.drw [⟨some 95, .load true 2 (.tmp 7), none⟩,
    ⟨some 96, .mv (.tmp 17), none⟩,
    ⟨some 97, .call 16 [], none⟩,
    ⟨some 98, .build [(.int .u8 0), (.int .u8 0), (.int .u8 0), (.int .u8 0), (.int .u8 0), (.int .u8 0)] [(0, 1, (.cst (.int .u8 4))), (1, 1, (.cst (.int .u8 5)))], none⟩,
    ⟨some 99, .call 15 [(.tmp 97), (.tmp 98)], none⟩,
    ⟨some 100, .call 9 [(.tmp 95), (.tmp 96), (.tmp 99)], none⟩,
    ⟨some 94, .mv (.tmp 100), none⟩,
    ⟨some 101, .ext (.tmp 94) 0, none⟩,
    ⟨some 102, .ext (.tmp 94) 1, none⟩,
    ⟨some 103, .ext (.tmp 94) 2, none⟩,
    ⟨none, .store 2 (.tmp 7) (.tmp 101), none⟩] [[], [], [], [], [], [], [], [], [], [], []])
  (.seq (.drw [⟨some 105, .load true 2 (.tmp 7), none⟩,
    ⟨some 106, .mv (.tmp 17), none⟩,
    ⟨some 107, .load true 6 (.tmp 18), none⟩,
    ⟨some 108, .build [(.int .u8 0), (.int .u8 0), (.int .u8 0), (.int .u8 0), (.int .u8 0), (.int .u8 0)] [(0, 1, (.cst (.int .u8 4))), (1, 1, (.cst (.int .u8 5)))], none⟩,
    ⟨some 109, .call 15 [(.tmp 107), (.tmp 108)], none⟩,
    ⟨some 110, .call 9 [(.tmp 105), (.tmp 106), (.tmp 109)], none⟩,
    ⟨some 104, .mv (.tmp 110), none⟩,
    ⟨some 111, .ext (.tmp 104) 0, none⟩,
    ⟨some 112, .ext (.tmp 104) 1, none⟩,
    ⟨some 113, .ext (.tmp 104) 2, none⟩,
    ⟨some 19, .newb [(.int .i64 0), .nil], none⟩,
    ⟨none, .store 2 (.tmp 19) (.tmp 111), none⟩,
    ⟨some 20, .mv (.tmp 112), none⟩,
    ⟨some 8, .mv (.tmp 113), none⟩] [[], [], [], [], [], [], [], [], [], [], [], [], [], []])
  (.seq (.drw [⟨some 115, .load true 2 (.tmp 7), none⟩,
    ⟨some 116, .mv (.tmp 17), none⟩,
    ⟨some 117, .call 16 [], none⟩,
    ⟨some 118, .load true 6 (.tmp 18), none⟩,
    ⟨some 119, .call 15 [(.tmp 117), (.tmp 118)], none⟩,
    ⟨some 120, .call 9 [(.tmp 115), (.tmp 116), (.tmp 119)], none⟩,
    ⟨some 114, .mv (.tmp 120), none⟩,
    ⟨some 121, .ext (.tmp 114) 0, none⟩,
    ⟨some 122, .ext (.tmp 114) 1, none⟩,
    ⟨some 123, .ext (.tmp 114) 2, none⟩,
    ⟨some 21, .newb [(.int .i64 0), .nil], none⟩,
    ⟨none, .store 2 (.tmp 21) (.tmp 121), none⟩,
    ⟨some 22, .mv (.tmp 122), none⟩,
    ⟨some 23, .mv (.tmp 123), none⟩] [[], [], [], [], [], [], [], [], [], [], [], [], [], []])
  (.seq (.reg [⟨some 124, .mv (.tmp 8), none⟩,
    ⟨some 125, .bin .eql (.tmp 124) (.cst (.int .i64 0)), none⟩,
    ⟨some 126, .mv (.tmp 125), none⟩,
    ⟨some 127, .mv (.tmp 23), some (126, true)⟩,
    ⟨some 128, .bin .eql (.tmp 127) (.cst (.int .i64 0)), some (126, true)⟩,
    ⟨some 129, .pick (.tmp 126) (.tmp 128) (.cst (.bool false)), none⟩,
    ⟨some 130, .mv (.tmp 129), none⟩,
    ⟨some 131, .mv (.tmp 22), some (130, true)⟩,
    ⟨some 132, .lenV (.tmp 131), some (130, true)⟩,
    ⟨some 133, .bin .eql (.tmp 132) (.cst (.int .i64 3)), some (130, true)⟩,
    ⟨some 134, .pick (.tmp 130) (.tmp 133) (.cst (.bool false)), none⟩,
    ⟨some 135, .mv (.tmp 134), none⟩,
    ⟨some 136, .mv (.tmp 16), some (135, true)⟩,
    ⟨some 137, .mv (.tmp 17), some (135, true)⟩,
    ⟨some 138, .bin .eql (.tmp 136) (.tmp 137), some (135, true)⟩,
    ⟨some 139, .mv (.tmp 138), some (135, true)⟩,
    ⟨some 140, .mv (.tmp 20), some (139, true)⟩,
    ⟨some 141, .lenV (.tmp 140), some (139, true)⟩,
    ⟨some 142, .bin .eql (.tmp 141) (.cst (.int .i64 0)), some (139, true)⟩,
    ⟨some 143, .pick (.tmp 139) (.tmp 142) (.cst (.bool false)), some (135, true)⟩,
    ⟨some 144, .mv (.tmp 143), some (135, true)⟩,
    ⟨some 145, .mv (.tmp 16), some (144, false)⟩,
    ⟨some 146, .mv (.tmp 17), some (144, false)⟩,
    ⟨some 147, .bin .neq (.tmp 145) (.tmp 146), some (144, false)⟩,
    ⟨some 148, .mv (.tmp 147), some (144, false)⟩,
    ⟨some 149, .mv (.tmp 20), some (148, true)⟩,
    ⟨some 150, .lenV (.tmp 149), some (148, true)⟩,
    ⟨some 151, .bin .eql (.tmp 150) (.cst (.int .i64 1)), some (148, true)⟩,
    ⟨some 152, .pick (.tmp 148) (.tmp 151) (.cst (.bool false)), some (144, false)⟩,
    ⟨some 153, .mv (.tmp 152), some (144, false)⟩,
    ⟨some 154, .mv (.tmp 20), some (153, true)⟩,
    ⟨some 155, .iadS 1 (.tmp 154) (.cst (.int .i64 0)), some (153, true)⟩,
    ⟨some 156, .load false 1 (.tmp 155), some (153, true)⟩,
    ⟨some 157, .mv (.tmp 16), some (153, true)⟩,
    ⟨some 158, .bin .eql (.tmp 156) (.tmp 157), some (153, true)⟩,
    ⟨some 159, .pick (.tmp 153) (.tmp 158) (.cst (.bool false)), some (144, false)⟩,
    ⟨some 160, .pick (.tmp 144) (.cst (.bool true)) (.tmp 159), some (135, true)⟩,
    ⟨some 161, .pick (.tmp 135) (.tmp 160) (.cst (.bool false)), none⟩,
    ⟨some 6, .mv (.tmp 161), none⟩])
  .ret))))))))))))
theorem p_caravellaw12_BridgeFair : Try.f4.body.bind (compC Try.prog 162) = some c_caravellaw12_BridgeFair := by kernel_rfl
theorem r_caravellaw12_BridgeFair : tellR Try.prog Try.f4.results.toList = some [.t 6] := by kernel_rfl

-- NO 5 caravel/caravellaw12.BridgeForgets
/-- caravel/caravellaw12.lives: 0 in. -/
def c_caravellaw12_lives : ACode :=
  (.seq (.reg [⟨some 0, .mv (.cst (.bool false)), none⟩])
  (.seq (.reg [⟨some 12, .build [(.int .u8 0), (.int .u8 0), (.int .u8 0), (.int .u8 0), (.int .u8 0), (.int .u8 0)] [(0, 1, (.cst (.int .u8 2))), (1, 1, (.cst (.int .u8 1)))], none⟩,
    ⟨some 13, .build [(.int .u8 0), (.int .u8 0), (.int .u8 0), (.int .u8 0), (.int .u8 0), (.int .u8 0)] [(0, 1, (.cst (.int .u8 2))), (1, 1, (.cst (.int .u8 2)))], none⟩,
    ⟨some 1, .newa [(.int .u8 0), (.int .u8 0), (.int .u8 0), (.int .u8 0), (.int .u8 0), (.int .u8 0)], none⟩,
    ⟨some 2, .newa [(.int .u8 0), (.int .u8 0), (.int .u8 0), (.int .u8 0), (.int .u8 0), (.int .u8 0)], none⟩,
    ⟨none, .store 6 (.tmp 1) (.tmp 12), none⟩,
    ⟨none, .store 6 (.tmp 2) (.tmp 13), none⟩])
  (.seq (.reg [⟨some 15, .call 8 [(.cst (.int .i64 3))], none⟩,
    ⟨some 14, .mv (.tmp 15), none⟩,
    ⟨some 16, .ext (.tmp 14) 0, none⟩,
    ⟨some 17, .ext (.tmp 14) 1, none⟩,
    ⟨some 3, .newb [(.int .i64 0), .nil], none⟩,
    ⟨none, .store 2 (.tmp 3) (.tmp 16), none⟩,
    ⟨some 4, .mv (.tmp 17), none⟩])
  (.seq (.drw [⟨some 19, .load true 2 (.tmp 3), none⟩,
    ⟨some 20, .load true 6 (.tmp 2), none⟩,
    ⟨some 21, .load true 6 (.tmp 1), none⟩,
    ⟨some 22, .call 15 [(.tmp 20), (.tmp 21)], none⟩,
    ⟨some 23, .call 9 [(.tmp 19), (.cst (.int .i64 0)), (.tmp 22)], none⟩,
    ⟨some 18, .mv (.tmp 23), none⟩,
    ⟨some 24, .ext (.tmp 18) 0, none⟩,
    ⟨some 25, .ext (.tmp 18) 1, none⟩,
    ⟨some 26, .ext (.tmp 18) 2, none⟩,
    ⟨none, .store 2 (.tmp 3) (.tmp 24), none⟩,
    ⟨some 5, .mv (.tmp 25), none⟩,
    ⟨some 6, .mv (.tmp 26), none⟩] [[], [], [], [], [], [], [], [], [], [], [], []])
  (.seq (.drw [⟨some 28, .load true 2 (.tmp 3), none⟩,
    ⟨some 29, .load true 6 (.tmp 1), none⟩,
    ⟨some 30, .load true 6 (.tmp 2), none⟩,
    ⟨some 31, .call 15 [(.tmp 29), (.tmp 30)], none⟩,
    ⟨some 32, .call 9 [(.tmp 28), (.cst (.int .i64 2)), (.tmp 31)], none⟩,
    ⟨some 27, .mv (.tmp 32), none⟩,
    ⟨some 33, .ext (.tmp 27) 0, none⟩,
    ⟨some 34, .ext (.tmp 27) 1, none⟩,
    ⟨some 35, .ext (.tmp 27) 2, none⟩,
    ⟨none, .store 2 (.tmp 3) (.tmp 33), none⟩,
    ⟨some 7, .mv (.tmp 34), none⟩,
    ⟨some 8, .mv (.tmp 35), none⟩] [[], [], [], [], [], [], [], [], [], [], [], []])
  (.seq (.drw [⟨some 37, .load true 2 (.tmp 3), none⟩,
    ⟨some 38, .load true 6 (.tmp 2), none⟩,
    ⟨some 39, .load true 6 (.tmp 1), none⟩,
    ⟨some 40, .call 15 [(.tmp 38), (.tmp 39)], none⟩,
    ⟨some 41, .call 9 [(.tmp 37), (.cst (.int .i64 0)), (.tmp 40)], none⟩,
    ⟨some 36, .mv (.tmp 41), none⟩,
    ⟨some 42, .ext (.tmp 36) 0, none⟩,
    ⟨some 43, .ext (.tmp 36) 1, none⟩,
    ⟨some 44, .ext (.tmp 36) 2, none⟩,
    ⟨some 9, .newb [(.int .i64 0), .nil], none⟩,
    ⟨none, .store 2 (.tmp 9) (.tmp 42), none⟩,
    ⟨some 10, .mv (.tmp 43), none⟩,
    ⟨some 11, .mv (.tmp 44), none⟩] [[], [], [], [], [], [], [], [], [], [], [], [], []])
  (.seq (.reg [⟨some 45, .mv (.tmp 4), none⟩,
    ⟨some 46, .bin .eql (.tmp 45) (.cst (.int .i64 0)), none⟩,
    ⟨some 47, .mv (.tmp 46), none⟩,
    ⟨some 48, .mv (.tmp 6), some (47, true)⟩,
    ⟨some 49, .bin .eql (.tmp 48) (.cst (.int .i64 0)), some (47, true)⟩,
    ⟨some 50, .pick (.tmp 47) (.tmp 49) (.cst (.bool false)), none⟩,
    ⟨some 51, .mv (.tmp 50), none⟩,
    ⟨some 52, .mv (.tmp 8), some (51, true)⟩,
    ⟨some 53, .bin .eql (.tmp 52) (.cst (.int .i64 0)), some (51, true)⟩,
    ⟨some 54, .pick (.tmp 51) (.tmp 53) (.cst (.bool false)), none⟩,
    ⟨some 55, .mv (.tmp 54), none⟩,
    ⟨some 56, .mv (.tmp 11), some (55, true)⟩,
    ⟨some 57, .bin .eql (.tmp 56) (.cst (.int .i64 0)), some (55, true)⟩,
    ⟨some 58, .pick (.tmp 55) (.tmp 57) (.cst (.bool false)), none⟩,
    ⟨some 59, .mv (.tmp 58), none⟩,
    ⟨some 60, .mv (.tmp 5), some (59, true)⟩,
    ⟨some 61, .lenV (.tmp 60), some (59, true)⟩,
    ⟨some 62, .bin .eql (.tmp 61) (.cst (.int .i64 2)), some (59, true)⟩,
    ⟨some 63, .pick (.tmp 59) (.tmp 62) (.cst (.bool false)), none⟩,
    ⟨some 64, .mv (.tmp 63), none⟩,
    ⟨some 65, .mv (.tmp 7), some (64, true)⟩,
    ⟨some 66, .lenV (.tmp 65), some (64, true)⟩,
    ⟨some 67, .bin .eql (.tmp 66) (.cst (.int .i64 1)), some (64, true)⟩,
    ⟨some 68, .pick (.tmp 64) (.tmp 67) (.cst (.bool false)), none⟩,
    ⟨some 69, .mv (.tmp 68), none⟩,
    ⟨some 70, .mv (.tmp 7), some (69, true)⟩,
    ⟨some 71, .iadS 1 (.tmp 70) (.cst (.int .i64 0)), some (69, true)⟩,
    ⟨some 72, .load false 1 (.tmp 71), some (69, true)⟩,
    ⟨some 73, .bin .eql (.tmp 72) (.cst (.int .i64 0)), some (69, true)⟩,
    ⟨some 74, .pick (.tmp 69) (.tmp 73) (.cst (.bool false)), none⟩,
    ⟨some 75, .mv (.tmp 74), none⟩,
    ⟨some 76, .mv (.tmp 10), some (75, true)⟩,
    ⟨some 77, .lenV (.tmp 76), some (75, true)⟩,
    ⟨some 78, .bin .eql (.tmp 77) (.cst (.int .i64 1)), some (75, true)⟩,
    ⟨some 79, .pick (.tmp 75) (.tmp 78) (.cst (.bool false)), none⟩,
    ⟨some 80, .mv (.tmp 79), none⟩,
    ⟨some 81, .mv (.tmp 10), some (80, true)⟩,
    ⟨some 82, .iadS 1 (.tmp 81) (.cst (.int .i64 0)), some (80, true)⟩,
    ⟨some 83, .load false 1 (.tmp 82), some (80, true)⟩,
    ⟨some 84, .bin .eql (.tmp 83) (.cst (.int .i64 2)), some (80, true)⟩,
    ⟨some 85, .pick (.tmp 80) (.tmp 84) (.cst (.bool false)), none⟩,
    ⟨some 0, .mv (.tmp 85), none⟩])
  .ret)))))))
theorem p_caravellaw12_lives : Try.f6.body.bind (compC Try.prog 86) = some c_caravellaw12_lives := by kernel_rfl
theorem r_caravellaw12_lives : tellR Try.prog Try.f6.results.toList = some [.t 0] := by kernel_rfl

/-- caravel/caravellaw12.fits: 1 in. -/
def c_caravellaw12_fits : ACode :=
  (.seq (.reg [⟨some 2, .mv (.cst (.bool false)), none⟩])
  (.seq (.seq (.reg [⟨some 5, .mv (.tmp 0), none⟩,
    ⟨some 6, .lenV (.tmp 5), none⟩,
    ⟨some 7, .mv (.cst (.int .i64 0)), none⟩])
  (.block 0 (.loop
    (.seq (.reg [⟨some 8, .bin .lss (.tmp 7) (.tmp 6), none⟩])
    (.seq (.cond (.tmp 8)
      .skip
      (.exit 0))
    (.seq (.block 1 (.seq (.reg [⟨some 9, .iadS 4 (.tmp 5) (.tmp 7), none⟩,
      ⟨some 10, .load true 4 (.tmp 9), none⟩,
      ⟨some 4, .newb [(.int .i64 0), (.int .u8 0), (.int .u8 0), .nil], none⟩,
      ⟨none, .store 4 (.tmp 4) (.tmp 10), none⟩])
    (.seq (.reg [⟨some 11, .fadr 3 (.tmp 4), none⟩,
      ⟨some 12, .load false 1 (.tmp 11), none⟩,
      ⟨some 13, .lenV (.tmp 12), none⟩,
      ⟨some 14, .bin .gtr (.tmp 13) (.cst (.int .i64 300)), none⟩])
    (.cond (.tmp 14)
      (.seq (.reg [⟨some 2, .mv (.cst (.bool false)), none⟩])
      .ret)
      .skip))))
    (.reg [⟨some 15, .bin .add (.tmp 7) (.cst (.int .i64 1)), none⟩,
      ⟨some 7, .mv (.tmp 15), none⟩])))))))
  (.seq (.reg [⟨some 16, .mv (.tmp 0), none⟩,
    ⟨some 17, .lenV (.tmp 16), none⟩,
    ⟨some 18, .bin .leq (.tmp 17) (.cst (.int .i64 100)), none⟩,
    ⟨some 2, .mv (.tmp 18), none⟩])
  .ret)))
theorem p_caravellaw12_fits : Try.f7.body.bind (compC Try.prog 19) = some c_caravellaw12_fits := by kernel_rfl
theorem r_caravellaw12_fits : tellR Try.prog Try.f7.results.toList = some [.t 2] := by kernel_rfl

/-- caravel/bridge.New: 1 in. -/
def c_bridge_New : ACode :=
  (.seq (.reg [⟨some 2, .newb [(.int .i64 0), .nil], none⟩,
    ⟨some 3, .mv (.cst (.int .i64 0)), none⟩])
  (.seq (.seq (.reg [⟨some 4, .mv (.tmp 0), none⟩,
    ⟨some 5, .bin .lss (.tmp 4) (.cst (.int .i64 1)), none⟩,
    ⟨some 6, .mv (.tmp 5), none⟩,
    ⟨some 7, .mv (.tmp 0), some (6, false)⟩,
    ⟨some 8, .bin .gtr (.tmp 7) (.cst (.int .i64 8)), some (6, false)⟩,
    ⟨some 9, .pick (.tmp 6) (.cst (.bool true)) (.tmp 8), none⟩])
  (.cond (.tmp 9)
    (.seq (.reg [⟨some 10, .build [(.int .i64 0), .nil] [], none⟩,
      ⟨none, .store 2 (.tmp 2) (.tmp 10), none⟩,
      ⟨some 3, .mv (.cst (.int .i64 1)), none⟩])
    .ret)
    .skip))
  (.seq (.reg [⟨some 11, .mv (.tmp 0), none⟩,
    ⟨some 12, .build [(.int .i64 0), .nil] [(0, 1, (.tmp 11))], none⟩,
    ⟨none, .store 2 (.tmp 2) (.tmp 12), none⟩,
    ⟨some 3, .mv (.cst (.int .i64 0)), none⟩])
  .ret)))
theorem p_bridge_New : Try.f8.body.bind (compC Try.prog 13) = some c_bridge_New := by kernel_rfl
theorem r_bridge_New : tellR Try.prog Try.f8.results.toList = some [.c 2 true 2, .t 3] := by kernel_rfl

/-- caravel/bridge.Forward: 3 in. -/
def c_bridge_Forward : ACode :=
  (.seq (.reg [⟨some 3, .box (.tmp 0), none⟩,
    ⟨some 6, .newb [(.int .i64 0), .nil], none⟩,
    ⟨some 7, .mv (.cst .nil), none⟩,
    ⟨some 8, .mv (.cst (.int .i64 0)), none⟩])
  (.seq (.drw [⟨some 16, .fadr 0 (.tmp 3), none⟩,
    ⟨some 17, .load false 1 (.tmp 16), none⟩,
    ⟨some 18, .fadr 1 (.tmp 3), none⟩,
    ⟨some 19, .load false 1 (.tmp 18), none⟩,
    ⟨some 20, .call 17 [(.tmp 19)], none⟩,
    ⟨some 21, .build [(.int .i64 0), .nil] [(0, 1, (.tmp 17)), (1, 1, (.tmp 20))], none⟩,
    ⟨some 9, .newb [(.int .i64 0), .nil], none⟩,
    ⟨none, .store 2 (.tmp 9) (.tmp 21), none⟩] [[], [], [], [], [], [], [], []])
  (.seq (.block 0 (.seq (.reg [⟨some 23, .mv (.tmp 1), none⟩,
    ⟨some 24, .bin .lss (.tmp 23) (.cst (.int .i64 0)), none⟩,
    ⟨some 25, .mv (.tmp 24), none⟩,
    ⟨some 26, .mv (.tmp 1), some (25, false)⟩,
    ⟨some 27, .fadr 0 (.tmp 3), some (25, false)⟩,
    ⟨some 28, .load false 1 (.tmp 27), some (25, false)⟩,
    ⟨some 29, .bin .geq (.tmp 26) (.tmp 28), some (25, false)⟩,
    ⟨some 30, .pick (.tmp 25) (.cst (.bool true)) (.tmp 29), none⟩,
    ⟨some 22, .mv (.tmp 30), none⟩])
  (.cond (.tmp 22)
    (.seq (.reg [⟨some 31, .load true 2 (.tmp 9), none⟩,
      ⟨none, .store 2 (.tmp 6) (.tmp 31), none⟩,
      ⟨some 7, .mv (.cst .nil), none⟩,
      ⟨some 8, .mv (.cst (.int .i64 1)), none⟩])
    .ret)
    (.seq (.reg [⟨some 33, .mv (.tmp 2), none⟩,
      ⟨some 34, .lenV (.tmp 33), none⟩,
      ⟨some 35, .bin .lss (.tmp 34) (.cst (.int .i64 14)), none⟩,
      ⟨some 32, .mv (.tmp 35), none⟩])
    (.cond (.tmp 32)
      (.seq (.reg [⟨some 36, .load true 2 (.tmp 9), none⟩,
        ⟨none, .store 2 (.tmp 6) (.tmp 36), none⟩,
        ⟨some 7, .mv (.cst .nil), none⟩,
        ⟨some 8, .mv (.cst (.int .i64 6)), none⟩])
      .ret)
      .skip)))))
  (.seq (.reg [⟨some 10, .newa [(.int .u8 0), (.int .u8 0), (.int .u8 0), (.int .u8 0), (.int .u8 0), (.int .u8 0)], none⟩,
    ⟨some 11, .newa [(.int .u8 0), (.int .u8 0), (.int .u8 0), (.int .u8 0), (.int .u8 0), (.int .u8 0)], none⟩])
  (.seq (.reg [⟨some 37, .slA 6 (.tmp 10) none none, none⟩,
    ⟨some 38, .mv (.tmp 2), none⟩,
    ⟨some 39, .cpy 1 (.tmp 37) (.tmp 38), none⟩])
  (.seq (.reg [⟨some 40, .slA 6 (.tmp 11) none none, none⟩,
    ⟨some 41, .mv (.tmp 2), none⟩,
    ⟨some 42, .slS 1 (.tmp 41) (some (.cst (.int .i64 6))) none none, none⟩,
    ⟨some 43, .cpy 1 (.tmp 40) (.tmp 42), none⟩])
  (.seq (.seq (.reg [⟨some 44, .load true 6 (.tmp 11), none⟩,
    ⟨some 45, .call 18 [(.tmp 44)], none⟩,
    ⟨some 46, .not (.tmp 45), none⟩])
  (.cond (.tmp 46)
    (.reg [⟨some 47, .load true 2 (.tmp 9), none⟩,
      ⟨some 48, .load true 6 (.tmp 11), none⟩,
      ⟨some 49, .mv (.tmp 1), none⟩,
      ⟨some 50, .call 19 [(.tmp 47), (.tmp 48), (.tmp 49)], none⟩,
      ⟨none, .store 2 (.tmp 9) (.tmp 50), none⟩])
    .skip))
  (.seq (.seq (.reg [⟨some 52, .load true 2 (.tmp 9), none⟩,
    ⟨some 53, .load true 6 (.tmp 10), none⟩,
    ⟨some 54, .call 13 [(.tmp 52), (.tmp 53)], none⟩,
    ⟨some 51, .mv (.tmp 54), none⟩,
    ⟨some 55, .ext (.tmp 51) 0, none⟩,
    ⟨some 56, .ext (.tmp 51) 1, none⟩,
    ⟨some 12, .mv (.tmp 55), none⟩,
    ⟨some 13, .mv (.tmp 56), none⟩])
  (.seq (.drw [⟨some 57, .mv (.tmp 13), none⟩,
    ⟨some 58, .mv (.tmp 57), none⟩,
    ⟨some 59, .load true 6 (.tmp 10), some (58, true)⟩,
    ⟨some 60, .call 16 [], some (58, true)⟩,
    ⟨some 61, .eqA true [0, 0, 0, 0, 0, 0] (.tmp 59) (.tmp 60), some (58, true)⟩,
    ⟨some 62, .pick (.tmp 58) (.tmp 61) (.cst (.bool false)), none⟩] [[], [], [], [], [], []])
  (.cond (.tmp 62)
    (.seq (.seq (.reg [⟨some 63, .mv (.tmp 12), none⟩,
      ⟨some 64, .mv (.tmp 1), none⟩,
      ⟨some 65, .bin .eql (.tmp 63) (.tmp 64), none⟩])
    (.cond (.tmp 65)
      (.seq (.reg [⟨some 66, .load true 2 (.tmp 9), none⟩,
        ⟨none, .store 2 (.tmp 6) (.tmp 66), none⟩,
        ⟨some 7, .mv (.cst .nil), none⟩,
        ⟨some 8, .mv (.cst (.int .i64 0)), none⟩])
      .ret)
      .skip))
    (.seq (.reg [⟨some 67, .load true 2 (.tmp 9), none⟩,
      ⟨some 68, .mv (.tmp 12), none⟩,
      ⟨some 69, .bsl 1 [(.tmp 68)], none⟩,
      ⟨none, .store 2 (.tmp 6) (.tmp 67), none⟩,
      ⟨some 7, .mv (.tmp 69), none⟩,
      ⟨some 8, .mv (.cst (.int .i64 0)), none⟩])
    .ret))
    .skip)))
  (.seq (.reg [⟨some 14, .mv (.cst .nil), none⟩])
  (.seq (.seq (.reg [⟨some 70, .fadr 0 (.tmp 3), none⟩,
    ⟨some 71, .load false 1 (.tmp 70), none⟩,
    ⟨some 72, .mv (.cst (.int .i64 0)), none⟩])
  (.block 1 (.loop
    (.seq (.reg [⟨some 73, .bin .lss (.tmp 72) (.tmp 71), none⟩])
    (.seq (.cond (.tmp 73)
      .skip
      (.exit 1))
    (.seq (.block 2 (.seq (.reg [⟨some 74, .mv (.tmp 72), none⟩,
      ⟨some 15, .mv (.tmp 74), none⟩])
    (.seq (.reg [⟨some 75, .mv (.tmp 15), none⟩,
      ⟨some 76, .mv (.tmp 1), none⟩,
      ⟨some 77, .bin .neq (.tmp 75) (.tmp 76), none⟩])
    (.cond (.tmp 77)
      (.reg [⟨some 78, .mv (.tmp 14), none⟩,
        ⟨some 79, .mv (.tmp 15), none⟩,
        ⟨some 80, .bsl 1 [(.tmp 79)], none⟩,
        ⟨some 81, .app 1 8 (.tmp 78) (.tmp 80), none⟩,
        ⟨some 14, .mv (.tmp 81), none⟩])
      .skip))))
    (.reg [⟨some 82, .bin .add (.tmp 72) (.cst (.int .i64 1)), none⟩,
      ⟨some 72, .mv (.tmp 82), none⟩])))))))
  (.seq (.reg [⟨some 83, .load true 2 (.tmp 9), none⟩,
    ⟨some 84, .mv (.tmp 14), none⟩,
    ⟨none, .store 2 (.tmp 6) (.tmp 83), none⟩,
    ⟨some 7, .mv (.tmp 84), none⟩,
    ⟨some 8, .mv (.cst (.int .i64 0)), none⟩])
  .ret)))))))))))
theorem p_bridge_Forward : Try.f9.body.bind (compC Try.prog 85) = some c_bridge_Forward := by kernel_rfl
theorem r_bridge_Forward : tellR Try.prog Try.f9.results.toList = some [.c 6 true 2, .t 7, .t 8] := by kernel_rfl

/-- caravel/caravellaw12.bytes: 1 in. -/
def c_caravellaw12_bytes : ACode :=
  (.seq (.reg [⟨some 1, .box (.tmp 0), none⟩,
    ⟨some 2, .mv (.cst .nil), none⟩])
  (.seq (.seq (.reg [⟨some 4, .fadr 3 (.tmp 1), none⟩,
    ⟨some 5, .load false 1 (.tmp 4), none⟩,
    ⟨some 6, .lenV (.tmp 5), none⟩,
    ⟨some 7, .bin .gtr (.tmp 6) (.cst (.int .i64 0)), none⟩])
  (.cond (.tmp 7)
    (.seq (.reg [⟨some 8, .fadr 3 (.tmp 1), none⟩,
      ⟨some 9, .load false 1 (.tmp 8), none⟩,
      ⟨some 2, .mv (.tmp 9), none⟩])
    .ret)
    .skip))
  (.seq (.reg [⟨some 3, .mv (.cst (.fn 20 [])), none⟩])
  (.seq (.drw [⟨some 10, .mv (.tmp 3), none⟩,
    ⟨some 11, .fadr 1 (.tmp 1), none⟩,
    ⟨some 12, .load false 1 (.tmp 11), none⟩,
    ⟨some 13, .callv (.tmp 10) [(.tmp 12)], none⟩,
    ⟨some 14, .mv (.tmp 3), none⟩,
    ⟨some 15, .fadr 2 (.tmp 1), none⟩,
    ⟨some 16, .load false 1 (.tmp 15), none⟩,
    ⟨some 17, .callv (.tmp 14) [(.tmp 16)], none⟩,
    ⟨some 18, .call 15 [(.tmp 13), (.tmp 17)], none⟩,
    ⟨some 2, .mv (.tmp 18), none⟩] [[], [], [], [], [], [], [], [], [], []])
  .ret))))
theorem p_caravellaw12_bytes : Try.f10.body.bind (compC Try.prog 19) = some c_caravellaw12_bytes := by kernel_rfl
theorem r_caravellaw12_bytes : tellR Try.prog Try.f10.results.toList = some [.t 2] := by kernel_rfl

/-- caravel/caravelref12.Forward: 3 in. -/
def c_caravelref12_Forward : ACode :=
  (.seq (.reg [⟨some 3, .box (.tmp 0), none⟩,
    ⟨some 6, .newb [(.int .i64 0), .nil], none⟩,
    ⟨some 7, .mv (.cst .nil), none⟩,
    ⟨some 8, .mv (.cst (.int .i64 0)), none⟩])
  (.seq (.seq (.reg [⟨some 13, .mv (.tmp 1), none⟩,
    ⟨some 14, .bin .lss (.tmp 13) (.cst (.int .i64 0)), none⟩,
    ⟨some 15, .mv (.tmp 14), none⟩,
    ⟨some 16, .mv (.tmp 1), some (15, false)⟩,
    ⟨some 17, .fadr 0 (.tmp 3), some (15, false)⟩,
    ⟨some 18, .load false 1 (.tmp 17), some (15, false)⟩,
    ⟨some 19, .bin .geq (.tmp 16) (.tmp 18), some (15, false)⟩,
    ⟨some 20, .pick (.tmp 15) (.cst (.bool true)) (.tmp 19), none⟩])
  (.cond (.tmp 20)
    (.seq (.reg [⟨some 21, .load true 2 (.tmp 3), none⟩,
      ⟨none, .store 2 (.tmp 6) (.tmp 21), none⟩,
      ⟨some 7, .mv (.cst .nil), none⟩,
      ⟨some 8, .mv (.cst (.int .i64 1)), none⟩])
    .ret)
    .skip))
  (.seq (.seq (.reg [⟨some 22, .mv (.tmp 2), none⟩,
    ⟨some 23, .lenT (.tmp 22), none⟩,
    ⟨some 24, .bin .lss (.tmp 23) (.cst (.int .i64 14)), none⟩])
  (.cond (.tmp 24)
    (.seq (.reg [⟨some 25, .load true 2 (.tmp 3), none⟩,
      ⟨none, .store 2 (.tmp 6) (.tmp 25), none⟩,
      ⟨some 7, .mv (.cst .nil), none⟩,
      ⟨some 8, .mv (.cst (.int .i64 6)), none⟩])
    .ret)
    .skip))
  (.seq (.seq (.reg [⟨some 26, .mv (.tmp 2), none⟩,
    ⟨some 27, .idxT (.tmp 26) (.cst (.int .i64 6)), none⟩,
    ⟨some 28, .bin .rem (.tmp 27) (.cst (.int .u8 2)), none⟩,
    ⟨some 29, .bin .eql (.tmp 28) (.cst (.int .u8 0)), none⟩])
  (.cond (.tmp 29)
    (.seq (.reg [⟨some 30, .bsl 7 [], none⟩,
      ⟨some 31, .fadr 1 (.tmp 3), none⟩,
      ⟨some 32, .load false 1 (.tmp 31), none⟩,
      ⟨some 33, .app 7 16 (.tmp 30) (.tmp 32), none⟩,
      ⟨some 9, .mv (.tmp 33), none⟩])
    (.reg [⟨some 34, .mv (.tmp 9), none⟩,
      ⟨some 35, .mv (.tmp 2), none⟩,
      ⟨some 36, .call 21 [(.tmp 35), (.cst (.int .i64 6))], none⟩,
      ⟨some 37, .mv (.tmp 1), none⟩,
      ⟨some 38, .build [(.int .u8 0), (.int .u8 0), (.int .u8 0), (.int .u8 0), (.int .u8 0), (.int .u8 0), (.int .i64 0)] [(0, 6, (.tmp 36)), (6, 1, (.tmp 37))], none⟩,
      ⟨some 39, .bsl 7 [(.tmp 38)], none⟩,
      ⟨some 40, .app 7 16 (.tmp 34) (.tmp 39), none⟩,
      ⟨some 41, .fadr 1 (.tmp 3), none⟩,
      ⟨none, .store 1 (.tmp 41) (.tmp 40), none⟩]))
    .skip))
  (.seq (.drw [⟨some 42, .load true 2 (.tmp 3), none⟩,
    ⟨some 43, .mv (.tmp 2), none⟩,
    ⟨some 44, .call 21 [(.tmp 43), (.cst (.int .i64 0))], none⟩,
    ⟨some 45, .call 14 [(.tmp 42), (.tmp 44)], none⟩,
    ⟨some 10, .mv (.tmp 45), none⟩] [[], [], [], [], []])
  (.seq (.reg [⟨some 11, .mv (.cst .nil), none⟩])
  (.seq (.seq (.reg [⟨some 12, .mv (.cst (.int .i64 0)), none⟩])
  (.block 0 (.loop
    (.seq (.seq (.reg [⟨some 46, .mv (.tmp 12), none⟩,
      ⟨some 47, .fadr 0 (.tmp 3), none⟩,
      ⟨some 48, .load false 1 (.tmp 47), none⟩,
      ⟨some 49, .bin .lss (.tmp 46) (.tmp 48), none⟩])
    (.cond (.tmp 49)
      .skip
      (.exit 0)))
    (.seq (.block 1 (.seq (.reg [⟨some 52, .mv (.tmp 12), none⟩,
      ⟨some 53, .mv (.tmp 1), none⟩,
      ⟨some 54, .bin .neq (.tmp 52) (.tmp 53), none⟩,
      ⟨some 55, .mv (.tmp 54), none⟩,
      ⟨some 56, .mv (.tmp 10), some (55, true)⟩,
      ⟨some 57, .bin .lss (.tmp 56) (.cst (.int .i64 0)), some (55, true)⟩,
      ⟨some 58, .mv (.tmp 57), some (55, true)⟩,
      ⟨some 59, .mv (.tmp 10), some (58, false)⟩,
      ⟨some 60, .mv (.tmp 12), some (58, false)⟩,
      ⟨some 61, .bin .eql (.tmp 59) (.tmp 60), some (58, false)⟩,
      ⟨some 62, .pick (.tmp 58) (.cst (.bool true)) (.tmp 61), some (55, true)⟩,
      ⟨some 63, .pick (.tmp 55) (.tmp 62) (.cst (.bool false)), none⟩])
    (.cond (.tmp 63)
      (.reg [⟨some 64, .mv (.tmp 11), none⟩,
        ⟨some 65, .mv (.tmp 12), none⟩,
        ⟨some 66, .bsl 1 [(.tmp 65)], none⟩,
        ⟨some 67, .app 1 8 (.tmp 64) (.tmp 66), none⟩,
        ⟨some 11, .mv (.tmp 67), none⟩])
      .skip)))
    (.reg [⟨some 50, .mv (.tmp 12), none⟩,
      ⟨some 51, .bin .add (.tmp 50) (.cst (.int .i64 1)), none⟩,
      ⟨some 12, .mv (.tmp 51), none⟩]))))))
  (.seq (.reg [⟨some 68, .load true 2 (.tmp 3), none⟩,
    ⟨some 69, .mv (.tmp 11), none⟩,
    ⟨none, .store 2 (.tmp 6) (.tmp 68), none⟩,
    ⟨some 7, .mv (.tmp 69), none⟩,
    ⟨some 8, .mv (.cst (.int .i64 0)), none⟩])
  .ret))))))))
theorem p_caravelref12_Forward : Try.f11.body.bind (compC Try.prog 70) = some c_caravelref12_Forward := by kernel_rfl
theorem r_caravelref12_Forward : tellR Try.prog Try.f11.results.toList = some [.c 6 true 2, .t 7, .t 8] := by kernel_rfl

/-- caravel/caravelref12.Like: 2 in. -/
def c_caravelref12_Like : ACode :=
  (.seq (.reg [⟨some 2, .box (.tmp 0), none⟩,
    ⟨some 3, .box (.tmp 1), none⟩,
    ⟨some 4, .mv (.cst (.bool false)), none⟩])
  (.seq (.reg [⟨some 7, .load true 2 (.tmp 2), none⟩,
    ⟨some 8, .call 22 [(.tmp 7)], none⟩,
    ⟨some 5, .mv (.tmp 8), none⟩])
  (.seq (.seq (.reg [⟨some 9, .fadr 0 (.tmp 3), none⟩,
    ⟨some 10, .load false 1 (.tmp 9), none⟩,
    ⟨some 11, .fadr 0 (.tmp 2), none⟩,
    ⟨some 12, .load false 1 (.tmp 11), none⟩,
    ⟨some 13, .bin .neq (.tmp 10) (.tmp 12), none⟩,
    ⟨some 14, .mv (.tmp 13), none⟩,
    ⟨some 15, .fadr 1 (.tmp 3), some (14, false)⟩,
    ⟨some 16, .load false 1 (.tmp 15), some (14, false)⟩,
    ⟨some 17, .lenV (.tmp 16), some (14, false)⟩,
    ⟨some 18, .mv (.tmp 5), some (14, false)⟩,
    ⟨some 19, .lenV (.tmp 18), some (14, false)⟩,
    ⟨some 20, .bin .neq (.tmp 17) (.tmp 19), some (14, false)⟩,
    ⟨some 21, .pick (.tmp 14) (.cst (.bool true)) (.tmp 20), none⟩])
  (.cond (.tmp 21)
    (.seq (.reg [⟨some 4, .mv (.cst (.bool false)), none⟩])
    .ret)
    .skip))
  (.seq (.seq (.reg [⟨some 6, .mv (.cst (.int .i64 0)), none⟩])
  (.block 0 (.loop
    (.seq (.seq (.reg [⟨some 22, .mv (.tmp 6), none⟩,
      ⟨some 23, .mv (.tmp 5), none⟩,
      ⟨some 24, .lenV (.tmp 23), none⟩,
      ⟨some 25, .bin .lss (.tmp 22) (.tmp 24), none⟩])
    (.cond (.tmp 25)
      .skip
      (.exit 0)))
    (.seq (.block 1 (.seq (.reg [⟨some 28, .fadr 1 (.tmp 3), none⟩,
      ⟨some 29, .load false 1 (.tmp 28), none⟩,
      ⟨some 30, .mv (.tmp 6), none⟩,
      ⟨some 31, .iadS 7 (.tmp 29) (.tmp 30), none⟩,
      ⟨some 32, .load true 7 (.tmp 31), none⟩,
      ⟨some 33, .mv (.tmp 5), none⟩,
      ⟨some 34, .mv (.tmp 6), none⟩,
      ⟨some 35, .iadS 7 (.tmp 33) (.tmp 34), none⟩,
      ⟨some 36, .load true 7 (.tmp 35), none⟩,
      ⟨some 37, .eqA true [0, 0, 0, 0, 0, 0, 0] (.tmp 32) (.tmp 36), none⟩])
    (.cond (.tmp 37)
      (.seq (.reg [⟨some 4, .mv (.cst (.bool false)), none⟩])
      .ret)
      .skip)))
    (.reg [⟨some 26, .mv (.tmp 6), none⟩,
      ⟨some 27, .bin .add (.tmp 26) (.cst (.int .i64 1)), none⟩,
      ⟨some 6, .mv (.tmp 27), none⟩]))))))
  (.seq (.reg [⟨some 4, .mv (.cst (.bool true)), none⟩])
  .ret)))))
theorem p_caravelref12_Like : Try.f12.body.bind (compC Try.prog 38) = some c_caravelref12_Like := by kernel_rfl
theorem r_caravelref12_Like : tellR Try.prog Try.f12.results.toList = some [.t 4] := by kernel_rfl

/-- caravel/bridge.Find: 2 in. -/
def c_bridge_Find : ACode :=
  (.seq (.reg [⟨some 2, .box (.tmp 0), none⟩,
    ⟨some 3, .boxa (.tmp 1), none⟩,
    ⟨some 4, .mv (.cst (.int .i64 0)), none⟩,
    ⟨some 5, .mv (.cst (.bool false)), none⟩])
  (.seq (.seq (.reg [⟨some 8, .fadr 1 (.tmp 2), none⟩,
    ⟨some 9, .load false 1 (.tmp 8), none⟩,
    ⟨some 10, .lenV (.tmp 9), none⟩,
    ⟨some 11, .mv (.cst (.int .i64 0)), none⟩])
  (.block 0 (.loop
    (.seq (.reg [⟨some 12, .bin .lss (.tmp 11) (.tmp 10), none⟩])
    (.seq (.cond (.tmp 12)
      .skip
      (.exit 0))
    (.seq (.block 1 (.seq (.reg [⟨some 13, .iadS 7 (.tmp 9) (.tmp 11), none⟩,
      ⟨some 14, .load true 7 (.tmp 13), none⟩,
      ⟨some 7, .newb [(.int .u8 0), (.int .u8 0), (.int .u8 0), (.int .u8 0), (.int .u8 0), (.int .u8 0), (.int .i64 0)], none⟩,
      ⟨none, .store 7 (.tmp 7) (.tmp 14), none⟩])
    (.seq (.reg [⟨some 15, .fadr 0 (.tmp 7), none⟩,
      ⟨some 16, .load true 6 (.tmp 15), none⟩,
      ⟨some 17, .load true 6 (.tmp 3), none⟩,
      ⟨some 18, .eqA false [0, 0, 0, 0, 0, 0] (.tmp 16) (.tmp 17), none⟩])
    (.cond (.tmp 18)
      (.seq (.reg [⟨some 19, .fadr 6 (.tmp 7), none⟩,
        ⟨some 20, .load false 1 (.tmp 19), none⟩,
        ⟨some 4, .mv (.tmp 20), none⟩,
        ⟨some 5, .mv (.cst (.bool true)), none⟩])
      .ret)
      .skip))))
    (.reg [⟨some 21, .bin .add (.tmp 11) (.cst (.int .i64 1)), none⟩,
      ⟨some 11, .mv (.tmp 21), none⟩])))))))
  (.seq (.reg [⟨some 4, .mv (.cst (.int .i64 0)), none⟩,
    ⟨some 5, .mv (.cst (.bool false)), none⟩])
  .ret)))
theorem p_bridge_Find : Try.f13.body.bind (compC Try.prog 22) = some c_bridge_Find := by kernel_rfl
theorem r_bridge_Find : tellR Try.prog Try.f13.results.toList = some [.t 4, .t 5] := by kernel_rfl

/-- caravel/caravelref12.Find: 2 in. -/
def c_caravelref12_Find : ACode :=
  (.seq (.reg [⟨some 2, .box (.tmp 0), none⟩,
    ⟨some 3, .boxa (.tmp 1), none⟩,
    ⟨some 4, .mv (.cst (.int .i64 0)), none⟩])
  (.seq (.reg [⟨some 7, .load true 2 (.tmp 2), none⟩,
    ⟨some 8, .call 22 [(.tmp 7)], none⟩,
    ⟨some 5, .mv (.tmp 8), none⟩])
  (.seq (.seq (.reg [⟨some 6, .mv (.cst (.int .i64 0)), none⟩])
  (.block 0 (.loop
    (.seq (.seq (.reg [⟨some 9, .mv (.tmp 6), none⟩,
      ⟨some 10, .mv (.tmp 5), none⟩,
      ⟨some 11, .lenV (.tmp 10), none⟩,
      ⟨some 12, .bin .lss (.tmp 9) (.tmp 11), none⟩])
    (.cond (.tmp 12)
      .skip
      (.exit 0)))
    (.seq (.block 1 (.seq (.reg [⟨some 15, .mv (.tmp 5), none⟩,
      ⟨some 16, .mv (.tmp 6), none⟩,
      ⟨some 17, .iadS 7 (.tmp 15) (.tmp 16), none⟩,
      ⟨some 18, .fadr 0 (.tmp 17), none⟩,
      ⟨some 19, .load true 6 (.tmp 18), none⟩,
      ⟨some 20, .load true 6 (.tmp 3), none⟩,
      ⟨some 21, .eqA false [0, 0, 0, 0, 0, 0] (.tmp 19) (.tmp 20), none⟩])
    (.cond (.tmp 21)
      (.seq (.reg [⟨some 22, .mv (.tmp 5), none⟩,
        ⟨some 23, .mv (.tmp 6), none⟩,
        ⟨some 24, .iadS 7 (.tmp 22) (.tmp 23), none⟩,
        ⟨some 25, .fadr 6 (.tmp 24), none⟩,
        ⟨some 26, .load false 1 (.tmp 25), none⟩,
        ⟨some 4, .mv (.tmp 26), none⟩])
      .ret)
      .skip)))
    (.reg [⟨some 13, .mv (.tmp 6), none⟩,
      ⟨some 14, .bin .add (.tmp 13) (.cst (.int .i64 1)), none⟩,
      ⟨some 6, .mv (.tmp 14), none⟩]))))))
  (.seq (.reg [⟨some 4, .mv (.cst (.int .i64 (-1))), none⟩])
  .ret))))
theorem p_caravelref12_Find : Try.f14.body.bind (compC Try.prog 27) = some c_caravelref12_Find := by kernel_rfl
theorem r_caravelref12_Find : tellR Try.prog Try.f14.results.toList = some [.t 4] := by kernel_rfl

/-- caravel/caravellaw12.frame: 2 in. -/
def c_caravellaw12_frame : ACode :=
  (.seq (.reg [⟨some 2, .boxa (.tmp 0), none⟩,
    ⟨some 3, .boxa (.tmp 1), none⟩,
    ⟨some 4, .mv (.cst .nil), none⟩])
  (.seq (.drw [⟨some 5, .bsl 1 [], none⟩,
    ⟨some 6, .slA 6 (.tmp 2) none none, none⟩,
    ⟨some 7, .app 1 1 (.tmp 5) (.tmp 6), none⟩,
    ⟨some 8, .slA 6 (.tmp 3) none none, none⟩,
    ⟨some 9, .app 1 1 (.tmp 7) (.tmp 8), none⟩,
    ⟨some 10, .bsl 1 [(.cst (.int .u8 8)), (.cst (.int .u8 0))], none⟩,
    ⟨some 11, .app 1 1 (.tmp 9) (.tmp 10), none⟩,
    ⟨some 4, .mv (.tmp 11), none⟩] [[], [], [], [], [], [0, 2, 4], [], []])
  .ret))
theorem p_caravellaw12_frame : Try.f15.body.bind (compC Try.prog 12) = some c_caravellaw12_frame := by kernel_rfl
theorem r_caravellaw12_frame : tellR Try.prog Try.f15.results.toList = some [.t 4] := by kernel_rfl

/-- caravel/addr.All: 0 in. -/
def c_addr_All : ACode :=
  (.seq (.reg [⟨some 0, .newa [(.int .u8 0), (.int .u8 0), (.int .u8 0), (.int .u8 0), (.int .u8 0), (.int .u8 0)], none⟩])
  (.seq (.reg [⟨some 1, .build [(.int .u8 0), (.int .u8 0), (.int .u8 0), (.int .u8 0), (.int .u8 0), (.int .u8 0)] [(0, 1, (.cst (.int .u8 255))), (1, 1, (.cst (.int .u8 255))), (2, 1, (.cst (.int .u8 255))), (3, 1, (.cst (.int .u8 255))), (4, 1, (.cst (.int .u8 255))), (5, 1, (.cst (.int .u8 255)))], none⟩,
    ⟨none, .store 6 (.tmp 0) (.tmp 1), none⟩])
  .ret))
theorem p_addr_All : Try.f16.body.bind (compC Try.prog 2) = some c_addr_All := by kernel_rfl
theorem r_addr_All : tellR Try.prog Try.f16.results.toList = some [.c 0 true 6] := by kernel_rfl

/-- slices.Clone[[]caravel/api.Learnt,caravel/api.Learnt]: 1 in. -/
def c_slices_Clone__caravel_api_Learnt_caravel_api_Learnt : ACode :=
  (.seq (.reg [⟨some 2, .mv (.cst .nil), none⟩])
  (.seq (.seq (.reg [⟨some 3, .mv (.tmp 0), none⟩,
    ⟨some 4, .isN false (.tmp 3), none⟩])
  (.cond (.tmp 4)
    (.seq (.reg [⟨some 2, .mv (.cst .nil), none⟩])
    .ret)
    .skip))
  (.seq (.reg [⟨some 5, .bsl 7 [], none⟩,
    ⟨some 6, .mv (.tmp 0), none⟩,
    ⟨some 7, .app 7 16 (.tmp 5) (.tmp 6), none⟩,
    ⟨some 2, .mv (.tmp 7), none⟩])
  .ret)))
theorem p_slices_Clone__caravel_api_Learnt_caravel_api_Learnt : Try.f17.body.bind (compC Try.prog 8) = some c_slices_Clone__caravel_api_Learnt_caravel_api_Learnt := by kernel_rfl
theorem r_slices_Clone__caravel_api_Learnt_caravel_api_Learnt : tellR Try.prog Try.f17.results.toList = some [.t 2] := by kernel_rfl

/-- caravel/bridge.group: 1 in. -/
def c_bridge_group : ACode :=
  (.seq (.reg [⟨some 1, .boxa (.tmp 0), none⟩,
    ⟨some 2, .mv (.cst (.bool false)), none⟩])
  (.seq (.reg [⟨some 3, .iadA 1 6 (.tmp 1) (.cst (.int .i64 0)), none⟩,
    ⟨some 4, .load false 1 (.tmp 3), none⟩,
    ⟨some 5, .bin .and (.tmp 4) (.cst (.int .u8 1)), none⟩,
    ⟨some 6, .bin .eql (.tmp 5) (.cst (.int .u8 1)), none⟩,
    ⟨some 2, .mv (.tmp 6), none⟩])
  .ret))
theorem p_bridge_group : Try.f18.body.bind (compC Try.prog 7) = some c_bridge_group := by kernel_rfl
theorem r_bridge_group : tellR Try.prog Try.f18.results.toList = some [.t 2] := by kernel_rfl

/-- caravel/bridge.learn: 3 in. -/
def c_bridge_learn : ACode :=
  (.seq (.reg [⟨some 3, .box (.tmp 0), none⟩,
    ⟨some 4, .boxa (.tmp 1), none⟩,
    ⟨some 6, .newb [(.int .i64 0), .nil], none⟩])
  (.seq (.reg [⟨some 8, .fadr 1 (.tmp 3), none⟩,
    ⟨some 9, .load false 1 (.tmp 8), none⟩,
    ⟨some 10, .call 17 [(.tmp 9)], none⟩,
    ⟨some 11, .mkf 24 [(.tmp 4)], none⟩,
    ⟨some 12, .call 23 [(.tmp 10), (.tmp 11)], none⟩,
    ⟨some 7, .mv (.tmp 12), none⟩])
  (.seq (.seq (.reg [⟨some 13, .mv (.tmp 7), none⟩,
    ⟨some 14, .lenV (.tmp 13), none⟩,
    ⟨some 15, .bin .geq (.tmp 14) (.cst (.int .i64 16)), none⟩])
  (.cond (.tmp 15)
    (.reg [⟨some 16, .mv (.tmp 7), none⟩,
      ⟨some 17, .slS 7 (.tmp 16) (some (.cst (.int .i64 1))) none none, none⟩,
      ⟨some 7, .mv (.tmp 17), none⟩])
    .skip))
  (.seq (.drw [⟨some 18, .mv (.tmp 7), none⟩,
    ⟨some 19, .call 25 [(.tmp 18)], none⟩,
    ⟨some 20, .load true 6 (.tmp 4), none⟩,
    ⟨some 21, .mv (.tmp 2), none⟩,
    ⟨some 22, .build [(.int .u8 0), (.int .u8 0), (.int .u8 0), (.int .u8 0), (.int .u8 0), (.int .u8 0), (.int .i64 0)] [(0, 6, (.tmp 20)), (6, 1, (.tmp 21))], none⟩,
    ⟨some 23, .bsl 7 [(.tmp 22)], none⟩,
    ⟨some 24, .app 7 16 (.tmp 19) (.tmp 23), none⟩,
    ⟨some 25, .fadr 1 (.tmp 3), none⟩,
    ⟨none, .store 1 (.tmp 25) (.tmp 24), none⟩] [[], [], [], [], [], [1], [], [], []])
  (.seq (.reg [⟨some 26, .load true 2 (.tmp 3), none⟩,
    ⟨none, .store 2 (.tmp 6) (.tmp 26), none⟩])
  .ret)))))
theorem p_bridge_learn : Try.f19.body.bind (compC Try.prog 27) = some c_bridge_learn := by kernel_rfl
theorem r_bridge_learn : tellR Try.prog Try.f19.results.toList = some [.c 6 true 2] := by kernel_rfl

/-- caravel/caravellaw12.bytes$1: 1 in. -/
def c_caravellaw12_bytes_1 : ACode :=
  (.seq (.reg [⟨some 2, .newa [(.int .u8 0), (.int .u8 0), (.int .u8 0), (.int .u8 0), (.int .u8 0), (.int .u8 0)], none⟩])
  (.seq (.seq (.reg [⟨some 3, .mv (.tmp 0), none⟩])
  (.block 0 (.seq (.reg [⟨some 5, .bin .eql (.tmp 3) (.cst (.int .u8 255)), none⟩,
    ⟨some 4, .mv (.tmp 5), none⟩])
  (.cond (.tmp 4)
    (.seq (.reg [⟨some 6, .call 16 [], none⟩,
      ⟨none, .store 6 (.tmp 2) (.tmp 6), none⟩])
    .ret)
    (.seq (.reg [⟨some 8, .bin .eql (.tmp 3) (.cst (.int .u8 254)), none⟩,
      ⟨some 7, .mv (.tmp 8), none⟩])
    (.cond (.tmp 7)
      (.seq (.reg [⟨some 9, .build [(.int .u8 0), (.int .u8 0), (.int .u8 0), (.int .u8 0), (.int .u8 0), (.int .u8 0)] [(0, 1, (.cst (.int .u8 1))), (1, 1, (.cst (.int .u8 2)))], none⟩,
        ⟨none, .store 6 (.tmp 2) (.tmp 9), none⟩])
      .ret)
      .skip))))))
  (.seq (.reg [⟨some 10, .mv (.tmp 0), none⟩,
    ⟨some 11, .build [(.int .u8 0), (.int .u8 0), (.int .u8 0), (.int .u8 0), (.int .u8 0), (.int .u8 0)] [(0, 1, (.cst (.int .u8 2))), (1, 1, (.tmp 10))], none⟩,
    ⟨none, .store 6 (.tmp 2) (.tmp 11), none⟩])
  .ret)))
theorem p_caravellaw12_bytes_1 : Try.f20.body.bind (compC Try.prog 12) = some c_caravellaw12_bytes_1 := by kernel_rfl
theorem r_caravellaw12_bytes_1 : tellR Try.prog Try.f20.results.toList = some [.c 2 true 6] := by kernel_rfl

/-- caravel/caravelref12.card: 2 in. -/
def c_caravelref12_card : ACode :=
  (.seq (.reg [⟨some 4, .newa [(.int .u8 0), (.int .u8 0), (.int .u8 0), (.int .u8 0), (.int .u8 0), (.int .u8 0)], none⟩])
  (.seq (.reg [⟨some 5, .mv (.tmp 0), none⟩,
    ⟨some 6, .mv (.tmp 1), none⟩,
    ⟨some 7, .idxT (.tmp 5) (.tmp 6), none⟩,
    ⟨some 8, .mv (.tmp 0), none⟩,
    ⟨some 9, .mv (.tmp 1), none⟩,
    ⟨some 10, .bin .add (.tmp 9) (.cst (.int .i64 1)), none⟩,
    ⟨some 11, .idxT (.tmp 8) (.tmp 10), none⟩,
    ⟨some 12, .mv (.tmp 0), none⟩,
    ⟨some 13, .mv (.tmp 1), none⟩,
    ⟨some 14, .bin .add (.tmp 13) (.cst (.int .i64 2)), none⟩,
    ⟨some 15, .idxT (.tmp 12) (.tmp 14), none⟩,
    ⟨some 16, .mv (.tmp 0), none⟩,
    ⟨some 17, .mv (.tmp 1), none⟩,
    ⟨some 18, .bin .add (.tmp 17) (.cst (.int .i64 3)), none⟩,
    ⟨some 19, .idxT (.tmp 16) (.tmp 18), none⟩,
    ⟨some 20, .mv (.tmp 0), none⟩,
    ⟨some 21, .mv (.tmp 1), none⟩,
    ⟨some 22, .bin .add (.tmp 21) (.cst (.int .i64 4)), none⟩,
    ⟨some 23, .idxT (.tmp 20) (.tmp 22), none⟩,
    ⟨some 24, .mv (.tmp 0), none⟩,
    ⟨some 25, .mv (.tmp 1), none⟩,
    ⟨some 26, .bin .add (.tmp 25) (.cst (.int .i64 5)), none⟩,
    ⟨some 27, .idxT (.tmp 24) (.tmp 26), none⟩,
    ⟨some 28, .build [(.int .u8 0), (.int .u8 0), (.int .u8 0), (.int .u8 0), (.int .u8 0), (.int .u8 0)] [(0, 1, (.tmp 7)), (1, 1, (.tmp 11)), (2, 1, (.tmp 15)), (3, 1, (.tmp 19)), (4, 1, (.tmp 23)), (5, 1, (.tmp 27))], none⟩,
    ⟨none, .store 6 (.tmp 4) (.tmp 28), none⟩])
  .ret))
theorem p_caravelref12_card : Try.f21.body.bind (compC Try.prog 29) = some c_caravelref12_card := by kernel_rfl
theorem r_caravelref12_card : tellR Try.prog Try.f21.results.toList = some [.c 4 true 6] := by kernel_rfl

/-- caravel/caravelref12.Known: 1 in. -/
def c_caravelref12_Known : ACode :=
  (.seq (.reg [⟨some 1, .box (.tmp 0), none⟩,
    ⟨some 2, .mv (.cst .nil), none⟩])
  (.seq (.reg [⟨some 3, .mv (.cst .nil), none⟩])
  (.seq (.seq (.reg [⟨some 7, .fadr 1 (.tmp 1), none⟩,
    ⟨some 8, .load false 1 (.tmp 7), none⟩,
    ⟨some 9, .lenV (.tmp 8), none⟩,
    ⟨some 10, .bin .sub (.tmp 9) (.cst (.int .i64 1)), none⟩,
    ⟨some 4, .mv (.tmp 10), none⟩])
  (.block 0 (.loop
    (.seq (.seq (.reg [⟨some 11, .mv (.tmp 4), none⟩,
      ⟨some 12, .bin .geq (.tmp 11) (.cst (.int .i64 0)), none⟩,
      ⟨some 13, .mv (.tmp 12), none⟩,
      ⟨some 14, .mv (.tmp 3), some (13, true)⟩,
      ⟨some 15, .lenV (.tmp 14), some (13, true)⟩,
      ⟨some 16, .bin .lss (.tmp 15) (.cst (.int .i64 16)), some (13, true)⟩,
      ⟨some 17, .pick (.tmp 13) (.tmp 16) (.cst (.bool false)), none⟩])
    (.cond (.tmp 17)
      .skip
      (.exit 0)))
    (.seq (.block 1 (.seq (.reg [⟨some 5, .mv (.cst (.bool false)), none⟩])
    (.seq (.seq (.reg [⟨some 6, .mv (.cst (.int .i64 0)), none⟩])
    (.block 2 (.loop
      (.seq (.seq (.reg [⟨some 20, .mv (.tmp 6), none⟩,
        ⟨some 21, .mv (.tmp 3), none⟩,
        ⟨some 22, .lenV (.tmp 21), none⟩,
        ⟨some 23, .bin .lss (.tmp 20) (.tmp 22), none⟩])
      (.cond (.tmp 23)
        .skip
        (.exit 2)))
      (.seq (.block 3 (.reg [⟨some 26, .mv (.tmp 5), none⟩,
        ⟨some 27, .mv (.tmp 26), none⟩,
        ⟨some 28, .mv (.tmp 3), some (27, false)⟩,
        ⟨some 29, .mv (.tmp 6), some (27, false)⟩,
        ⟨some 30, .iadS 7 (.tmp 28) (.tmp 29), some (27, false)⟩,
        ⟨some 31, .fadr 0 (.tmp 30), some (27, false)⟩,
        ⟨some 32, .load true 6 (.tmp 31), some (27, false)⟩,
        ⟨some 33, .fadr 1 (.tmp 1), some (27, false)⟩,
        ⟨some 34, .load false 1 (.tmp 33), some (27, false)⟩,
        ⟨some 35, .mv (.tmp 4), some (27, false)⟩,
        ⟨some 36, .iadS 7 (.tmp 34) (.tmp 35), some (27, false)⟩,
        ⟨some 37, .fadr 0 (.tmp 36), some (27, false)⟩,
        ⟨some 38, .load true 6 (.tmp 37), some (27, false)⟩,
        ⟨some 39, .eqA false [0, 0, 0, 0, 0, 0] (.tmp 32) (.tmp 38), some (27, false)⟩,
        ⟨some 40, .pick (.tmp 27) (.cst (.bool true)) (.tmp 39), none⟩,
        ⟨some 5, .mv (.tmp 40), none⟩]))
      (.reg [⟨some 24, .mv (.tmp 6), none⟩,
        ⟨some 25, .bin .add (.tmp 24) (.cst (.int .i64 1)), none⟩,
        ⟨some 6, .mv (.tmp 25), none⟩]))))))
    (.seq (.reg [⟨some 41, .mv (.tmp 5), none⟩,
      ⟨some 42, .not (.tmp 41), none⟩])
    (.cond (.tmp 42)
      (.reg [⟨some 43, .fadr 1 (.tmp 1), none⟩,
        ⟨some 44, .load false 1 (.tmp 43), none⟩,
        ⟨some 45, .mv (.tmp 4), none⟩,
        ⟨some 46, .iadS 7 (.tmp 44) (.tmp 45), none⟩,
        ⟨some 47, .load true 7 (.tmp 46), none⟩,
        ⟨some 48, .bsl 7 [(.tmp 47)], none⟩,
        ⟨some 49, .mv (.tmp 3), none⟩,
        ⟨some 50, .app 7 16 (.tmp 48) (.tmp 49), none⟩,
        ⟨some 3, .mv (.tmp 50), none⟩])
      .skip)))))
    (.reg [⟨some 18, .mv (.tmp 4), none⟩,
      ⟨some 19, .bin .sub (.tmp 18) (.cst (.int .i64 1)), none⟩,
      ⟨some 4, .mv (.tmp 19), none⟩]))))))
  (.seq (.reg [⟨some 51, .mv (.tmp 3), none⟩,
    ⟨some 2, .mv (.tmp 51), none⟩])
  .ret))))
theorem p_caravelref12_Known : Try.f22.body.bind (compC Try.prog 52) = some c_caravelref12_Known := by kernel_rfl
theorem r_caravelref12_Known : tellR Try.prog Try.f22.results.toList = some [.t 2] := by kernel_rfl

/-- slices.DeleteFunc[[]caravel/api.Learnt,caravel/api.Learnt]: 2 in. -/
def c_slices_DeleteFunc__caravel_api_Learnt_caravel_api_Learnt : ACode :=
  (.seq (.reg [⟨some 4, .mv (.cst .nil), none⟩])
  (.seq (.reg [⟨some 8, .mv (.tmp 0), none⟩,
    ⟨some 9, .mv (.tmp 1), none⟩,
    ⟨some 10, .call 26 [(.tmp 8), (.tmp 9)], none⟩,
    ⟨some 5, .mv (.tmp 10), none⟩])
  (.seq (.seq (.reg [⟨some 11, .mv (.tmp 5), none⟩,
    ⟨some 12, .bin .eql (.tmp 11) (.cst (.int .i64 (-1))), none⟩])
  (.cond (.tmp 12)
    (.seq (.reg [⟨some 13, .mv (.tmp 0), none⟩,
      ⟨some 4, .mv (.tmp 13), none⟩])
    .ret)
    .skip))
  (.seq (.seq (.reg [⟨some 14, .mv (.tmp 5), none⟩,
    ⟨some 15, .bin .add (.tmp 14) (.cst (.int .i64 1)), none⟩,
    ⟨some 6, .mv (.tmp 15), none⟩])
  (.block 0 (.loop
    (.seq (.seq (.reg [⟨some 16, .mv (.tmp 6), none⟩,
      ⟨some 17, .mv (.tmp 0), none⟩,
      ⟨some 18, .lenV (.tmp 17), none⟩,
      ⟨some 19, .bin .lss (.tmp 16) (.tmp 18), none⟩])
    (.cond (.tmp 19)
      .skip
      (.exit 0)))
    (.seq (.block 1 (.seq (.reg [⟨some 22, .mv (.tmp 0), none⟩,
      ⟨some 23, .mv (.tmp 6), none⟩,
      ⟨some 24, .iadS 7 (.tmp 22) (.tmp 23), none⟩,
      ⟨some 25, .load true 7 (.tmp 24), none⟩,
      ⟨some 7, .newb [(.int .u8 0), (.int .u8 0), (.int .u8 0), (.int .u8 0), (.int .u8 0), (.int .u8 0), (.int .i64 0)], none⟩,
      ⟨none, .store 7 (.tmp 7) (.tmp 25), none⟩])
    (.seq (.reg [⟨some 26, .mv (.tmp 1), none⟩,
      ⟨some 27, .load true 7 (.tmp 7), none⟩,
      ⟨some 28, .callv (.tmp 26) [(.tmp 27)], none⟩,
      ⟨some 29, .not (.tmp 28), none⟩])
    (.cond (.tmp 29)
      (.seq (.reg [⟨some 30, .mv (.tmp 0), none⟩,
        ⟨some 31, .mv (.tmp 5), none⟩,
        ⟨some 32, .load true 7 (.tmp 7), none⟩,
        ⟨some 33, .iadS 7 (.tmp 30) (.tmp 31), none⟩,
        ⟨none, .store 7 (.tmp 33) (.tmp 32), none⟩])
      (.reg [⟨some 34, .mv (.tmp 5), none⟩,
        ⟨some 35, .bin .add (.tmp 34) (.cst (.int .i64 1)), none⟩,
        ⟨some 5, .mv (.tmp 35), none⟩]))
      .skip))))
    (.reg [⟨some 20, .mv (.tmp 6), none⟩,
      ⟨some 21, .bin .add (.tmp 20) (.cst (.int .i64 1)), none⟩,
      ⟨some 6, .mv (.tmp 21), none⟩]))))))
  (.seq (.reg [⟨some 36, .mv (.tmp 0), none⟩,
    ⟨some 37, .mv (.tmp 5), none⟩,
    ⟨some 38, .slS 7 (.tmp 36) (some (.tmp 37)) none none, none⟩,
    ⟨none, .clr 7 (.agg [(.int .u8 0), (.int .u8 0), (.int .u8 0), (.int .u8 0), (.int .u8 0), (.int .u8 0), (.int .i64 0)]) (.tmp 38), none⟩])
  (.seq (.reg [⟨some 39, .mv (.tmp 0), none⟩,
    ⟨some 40, .mv (.tmp 5), none⟩,
    ⟨some 41, .slS 7 (.tmp 39) none (some (.tmp 40)) none, none⟩,
    ⟨some 4, .mv (.tmp 41), none⟩])
  .ret))))))
theorem p_slices_DeleteFunc__caravel_api_Learnt_caravel_api_Learnt : Try.f23.body.bind (compC Try.prog 42) = some c_slices_DeleteFunc__caravel_api_Learnt_caravel_api_Learnt := by kernel_rfl
theorem r_slices_DeleteFunc__caravel_api_Learnt_caravel_api_Learnt : tellR Try.prog Try.f23.results.toList = some [.t 4] := by kernel_rfl

/-- caravel/bridge.learn$1: 2 in. -/
def c_bridge_learn_1 : ACode :=
  (.seq (.reg [⟨some 2, .box (.tmp 0), none⟩,
    ⟨some 3, .mv (.cst (.bool false)), none⟩])
  (.seq (.reg [⟨some 4, .fadr 0 (.tmp 2), none⟩,
    ⟨some 5, .load true 6 (.tmp 4), none⟩,
    ⟨some 6, .load true 6 (.tmp 1), none⟩,
    ⟨some 7, .eqA false [0, 0, 0, 0, 0, 0] (.tmp 5) (.tmp 6), none⟩,
    ⟨some 3, .mv (.tmp 7), none⟩])
  .ret))
theorem p_bridge_learn_1 : Try.f24.body.bind (compC Try.prog 8) = some c_bridge_learn_1 := by kernel_rfl
theorem r_bridge_learn_1 : tellR Try.prog Try.f24.results.toList = some [.t 3] := by kernel_rfl

/-- slices.Clip[[]caravel/api.Learnt,caravel/api.Learnt]: 1 in. -/
def c_slices_Clip__caravel_api_Learnt_caravel_api_Learnt : ACode :=
  (.seq (.reg [⟨some 2, .mv (.cst .nil), none⟩])
  (.seq (.reg [⟨some 3, .mv (.tmp 0), none⟩,
    ⟨some 4, .mv (.tmp 0), none⟩,
    ⟨some 5, .lenV (.tmp 4), none⟩,
    ⟨some 6, .mv (.tmp 0), none⟩,
    ⟨some 7, .lenV (.tmp 6), none⟩,
    ⟨some 8, .slS 7 (.tmp 3) none (some (.tmp 5)) (some (.tmp 7)), none⟩,
    ⟨some 2, .mv (.tmp 8), none⟩])
  .ret))
theorem p_slices_Clip__caravel_api_Learnt_caravel_api_Learnt : Try.f25.body.bind (compC Try.prog 9) = some c_slices_Clip__caravel_api_Learnt_caravel_api_Learnt := by kernel_rfl
theorem r_slices_Clip__caravel_api_Learnt_caravel_api_Learnt : tellR Try.prog Try.f25.results.toList = some [.t 2] := by kernel_rfl

/-- slices.IndexFunc[[]caravel/api.Learnt,caravel/api.Learnt]: 2 in. -/
def c_slices_IndexFunc__caravel_api_Learnt_caravel_api_Learnt : ACode :=
  (.seq (.reg [⟨some 4, .mv (.cst (.int .i64 0)), none⟩])
  (.seq (.seq (.reg [⟨some 6, .mv (.tmp 0), none⟩,
    ⟨some 7, .lenV (.tmp 6), none⟩,
    ⟨some 8, .mv (.cst (.int .i64 0)), none⟩])
  (.block 0 (.loop
    (.seq (.reg [⟨some 9, .bin .lss (.tmp 8) (.tmp 7), none⟩])
    (.seq (.cond (.tmp 9)
      .skip
      (.exit 0))
    (.seq (.block 1 (.seq (.reg [⟨some 10, .mv (.tmp 8), none⟩,
      ⟨some 5, .mv (.tmp 10), none⟩])
    (.seq (.reg [⟨some 11, .mv (.tmp 1), none⟩,
      ⟨some 12, .mv (.tmp 0), none⟩,
      ⟨some 13, .mv (.tmp 5), none⟩,
      ⟨some 14, .iadS 7 (.tmp 12) (.tmp 13), none⟩,
      ⟨some 15, .load true 7 (.tmp 14), none⟩,
      ⟨some 16, .callv (.tmp 11) [(.tmp 15)], none⟩])
    (.cond (.tmp 16)
      (.seq (.reg [⟨some 17, .mv (.tmp 5), none⟩,
        ⟨some 4, .mv (.tmp 17), none⟩])
      .ret)
      .skip))))
    (.reg [⟨some 18, .bin .add (.tmp 8) (.cst (.int .i64 1)), none⟩,
      ⟨some 8, .mv (.tmp 18), none⟩])))))))
  (.seq (.reg [⟨some 4, .mv (.cst (.int .i64 (-1))), none⟩])
  .ret)))
theorem p_slices_IndexFunc__caravel_api_Learnt_caravel_api_Learnt : Try.f26.body.bind (compC Try.prog 19) = some c_slices_IndexFunc__caravel_api_Learnt_caravel_api_Learnt := by kernel_rfl
theorem r_slices_IndexFunc__caravel_api_Learnt_caravel_api_Learnt : tellR Try.prog Try.f26.results.toList = some [.t 4] := by kernel_rfl

end Go.Proofs.Ytfpgpeomcefkhaa
