/- The program's functions, told as operations on abstract values. -/
import Derived.Test.YtmohmcgcggenfaaAx30
import Derived.Test.YtmohmcgcggenfaaProg
namespace Go.Proofs.Ytmohmcgcggenfaa

/-- gosem.cut.init: 0 in. -/
def c_gosem_cut_init : ACode :=
  (.reg [⟨some 0, .call 1 [], none⟩])
theorem p_gosem_cut_init : Try.f2.body.bind (compC Try.prog 1) = some c_gosem_cut_init := by kernel_rfl
theorem r_gosem_cut_init : tellR Try.prog Try.f2.results.toList = some [] := by kernel_rfl

/-- caravel/caravellaw17.RecvqMoved: 3 in. -/
def c_caravellaw17_RecvqMoved : ACode :=
  (.seq (.reg [⟨some 6, .mv (.cst (.bool false)), none⟩])
  (.seq (.seq (.reg [⟨some 12, .call 8 [], none⟩,
    ⟨some 13, .not (.tmp 12), none⟩,
    ⟨some 14, .mv (.tmp 13), none⟩,
    ⟨some 15, .mv (.tmp 2), some (14, false)⟩,
    ⟨some 16, .call 9 [(.tmp 15)], some (14, false)⟩,
    ⟨some 17, .not (.tmp 16), some (14, false)⟩,
    ⟨some 18, .pick (.tmp 14) (.cst (.bool true)) (.tmp 17), none⟩])
  (.cond (.tmp 18)
    (.seq (.reg [⟨some 19, .call 8 [], none⟩,
      ⟨some 6, .mv (.tmp 19), none⟩])
    .ret)
    .skip))
  (.seq (.reg [⟨some 20, .mv (.tmp 0), none⟩,
    ⟨some 21, .call 10 [(.tmp 20)], none⟩,
    ⟨some 22, .mv (.tmp 1), none⟩,
    ⟨some 23, .call 10 [(.tmp 22)], none⟩,
    ⟨some 7, .newb [(.int .u32 0), .nil, .nil, (.bool false), (.int .u32 0), (.bool false)], none⟩,
    ⟨some 8, .newb [(.int .u32 0), .nil, .nil, (.bool false), (.int .u32 0), (.bool false)], none⟩,
    ⟨none, .store 6 (.tmp 7) (.tmp 21), none⟩,
    ⟨none, .store 6 (.tmp 8) (.tmp 23), none⟩])
  (.seq (.seq (.reg [⟨some 24, .mv (.tmp 2), none⟩,
    ⟨some 25, .lenV (.tmp 24), none⟩,
    ⟨some 26, .mv (.cst (.int .i64 0)), none⟩])
  (.block 0 (.loop
    (.seq (.reg [⟨some 27, .bin .lss (.tmp 26) (.tmp 25), none⟩])
    (.seq (.cond (.tmp 27)
      .skip
      (.exit 0))
    (.seq (.block 1 (.seq (.reg [⟨some 28, .iadS 4 (.tmp 24) (.tmp 26), none⟩,
      ⟨some 29, .load true 4 (.tmp 28), none⟩,
      ⟨some 10, .newb [(.int .i64 0), .nil, (.bool false), (.int .i64 0)], none⟩,
      ⟨none, .store 4 (.tmp 10) (.tmp 29), none⟩])
    (.seq (.seq (.reg [⟨some 30, .fadr 3 (.tmp 10), none⟩,
      ⟨some 31, .load false 1 (.tmp 30), none⟩,
      ⟨some 32, .bin .gtr (.tmp 31) (.cst (.int .i64 0)), none⟩])
    (.cond (.tmp 32)
      (.seq (.reg [⟨some 34, .load true 6 (.tmp 7), none⟩,
        ⟨some 35, .fadr 3 (.tmp 10), none⟩,
        ⟨some 36, .load false 1 (.tmp 35), none⟩,
        ⟨some 37, .call 11 [(.tmp 34), (.tmp 36)], none⟩,
        ⟨some 33, .mv (.tmp 37), none⟩,
        ⟨some 38, .ext (.tmp 33) 0, none⟩,
        ⟨some 39, .ext (.tmp 33) 1, none⟩,
        ⟨none, .store 6 (.tmp 7) (.tmp 38), none⟩])
      (.reg [⟨some 41, .load true 6 (.tmp 8), none⟩,
        ⟨some 42, .fadr 3 (.tmp 10), none⟩,
        ⟨some 43, .load false 1 (.tmp 42), none⟩,
        ⟨some 44, .call 11 [(.tmp 41), (.tmp 43)], none⟩,
        ⟨some 40, .mv (.tmp 44), none⟩,
        ⟨some 45, .ext (.tmp 40) 0, none⟩,
        ⟨some 46, .ext (.tmp 40) 1, none⟩,
        ⟨none, .store 6 (.tmp 8) (.tmp 45), none⟩]))
      (.reg [⟨some 47, .load true 6 (.tmp 7), none⟩,
        ⟨some 48, .fadr 0 (.tmp 7), none⟩,
        ⟨some 49, .load false 1 (.tmp 48), none⟩,
        ⟨some 50, .fadr 0 (.tmp 10), none⟩,
        ⟨some 51, .load false 1 (.tmp 50), none⟩,
        ⟨some 52, .conv .u32 (.tmp 51), none⟩,
        ⟨some 53, .bin .add (.tmp 49) (.tmp 52), none⟩,
        ⟨some 54, .fadr 1 (.tmp 10), none⟩,
        ⟨some 55, .load false 1 (.tmp 54), none⟩,
        ⟨some 56, .fadr 2 (.tmp 10), none⟩,
        ⟨some 57, .load false 1 (.tmp 56), none⟩,
        ⟨some 58, .call 12 [(.tmp 47), (.tmp 53), (.tmp 55), (.tmp 57)], none⟩,
        ⟨some 59, .load true 6 (.tmp 8), none⟩,
        ⟨some 60, .fadr 0 (.tmp 8), none⟩,
        ⟨some 61, .load false 1 (.tmp 60), none⟩,
        ⟨some 62, .fadr 0 (.tmp 10), none⟩,
        ⟨some 63, .load false 1 (.tmp 62), none⟩,
        ⟨some 64, .conv .u32 (.tmp 63), none⟩,
        ⟨some 65, .bin .add (.tmp 61) (.tmp 64), none⟩,
        ⟨some 66, .fadr 1 (.tmp 10), none⟩,
        ⟨some 67, .load false 1 (.tmp 66), none⟩,
        ⟨some 68, .fadr 2 (.tmp 10), none⟩,
        ⟨some 69, .load false 1 (.tmp 68), none⟩,
        ⟨some 70, .call 12 [(.tmp 59), (.tmp 65), (.tmp 67), (.tmp 69)], none⟩,
        ⟨none, .store 6 (.tmp 7) (.tmp 58), none⟩,
        ⟨none, .store 6 (.tmp 8) (.tmp 70), none⟩])))
    (.seq (.seq (.reg [⟨some 71, .fadr 0 (.tmp 7), none⟩,
      ⟨some 72, .load false 1 (.tmp 71), none⟩,
      ⟨some 73, .mv (.tmp 0), none⟩,
      ⟨some 74, .bin .sub (.tmp 72) (.tmp 73), none⟩,
      ⟨some 75, .fadr 0 (.tmp 8), none⟩,
      ⟨some 76, .load false 1 (.tmp 75), none⟩,
      ⟨some 77, .mv (.tmp 1), none⟩,
      ⟨some 78, .bin .sub (.tmp 76) (.tmp 77), none⟩,
      ⟨some 79, .bin .neq (.tmp 74) (.tmp 78), none⟩,
      ⟨some 80, .mv (.tmp 79), none⟩,
      ⟨some 81, .fadr 1 (.tmp 7), some (80, false)⟩,
      ⟨some 82, .load false 1 (.tmp 81), some (80, false)⟩,
      ⟨some 83, .b2s (.tmp 82), some (80, false)⟩,
      ⟨some 84, .fadr 1 (.tmp 8), some (80, false)⟩,
      ⟨some 85, .load false 1 (.tmp 84), some (80, false)⟩,
      ⟨some 86, .b2s (.tmp 85), some (80, false)⟩,
      ⟨some 87, .binT .neq (.tmp 83) (.tmp 86), some (80, false)⟩,
      ⟨some 88, .pick (.tmp 80) (.cst (.bool true)) (.tmp 87), none⟩,
      ⟨some 89, .mv (.tmp 88), none⟩,
      ⟨some 90, .fadr 3 (.tmp 7), some (89, false)⟩,
      ⟨some 91, .load false 1 (.tmp 90), some (89, false)⟩,
      ⟨some 92, .fadr 3 (.tmp 8), some (89, false)⟩,
      ⟨some 93, .load false 1 (.tmp 92), some (89, false)⟩,
      ⟨some 94, .binB true (.tmp 91) (.tmp 93), some (89, false)⟩,
      ⟨some 95, .pick (.tmp 89) (.cst (.bool true)) (.tmp 94), none⟩,
      ⟨some 96, .mv (.tmp 95), none⟩,
      ⟨some 97, .fadr 5 (.tmp 7), some (96, false)⟩,
      ⟨some 98, .load false 1 (.tmp 97), some (96, false)⟩,
      ⟨some 99, .fadr 5 (.tmp 8), some (96, false)⟩,
      ⟨some 100, .load false 1 (.tmp 99), some (96, false)⟩,
      ⟨some 101, .binB true (.tmp 98) (.tmp 100), some (96, false)⟩,
      ⟨some 102, .pick (.tmp 96) (.cst (.bool true)) (.tmp 101), none⟩,
      ⟨some 103, .mv (.tmp 102), none⟩,
      ⟨some 104, .fadr 3 (.tmp 7), some (103, false)⟩,
      ⟨some 105, .load false 1 (.tmp 104), some (103, false)⟩,
      ⟨some 106, .mv (.tmp 105), some (103, false)⟩,
      ⟨some 107, .fadr 4 (.tmp 7), some (106, true)⟩,
      ⟨some 108, .load false 1 (.tmp 107), some (106, true)⟩,
      ⟨some 109, .mv (.tmp 0), some (106, true)⟩,
      ⟨some 110, .bin .sub (.tmp 108) (.tmp 109), some (106, true)⟩,
      ⟨some 111, .fadr 4 (.tmp 8), some (106, true)⟩,
      ⟨some 112, .load false 1 (.tmp 111), some (106, true)⟩,
      ⟨some 113, .mv (.tmp 1), some (106, true)⟩,
      ⟨some 114, .bin .sub (.tmp 112) (.tmp 113), some (106, true)⟩,
      ⟨some 115, .bin .neq (.tmp 110) (.tmp 114), some (106, true)⟩,
      ⟨some 116, .pick (.tmp 106) (.tmp 115) (.cst (.bool false)), some (103, false)⟩,
      ⟨some 117, .pick (.tmp 103) (.cst (.bool true)) (.tmp 116), none⟩,
      ⟨some 118, .mv (.tmp 117), none⟩,
      ⟨some 119, .fadr 2 (.tmp 7), some (118, false)⟩,
      ⟨some 120, .load false 1 (.tmp 119), some (118, false)⟩,
      ⟨some 121, .lenV (.tmp 120), some (118, false)⟩,
      ⟨some 122, .fadr 2 (.tmp 8), some (118, false)⟩,
      ⟨some 123, .load false 1 (.tmp 122), some (118, false)⟩,
      ⟨some 124, .lenV (.tmp 123), some (118, false)⟩,
      ⟨some 125, .bin .neq (.tmp 121) (.tmp 124), some (118, false)⟩,
      ⟨some 126, .pick (.tmp 118) (.cst (.bool true)) (.tmp 125), none⟩])
    (.cond (.tmp 126)
      (.seq (.reg [⟨some 6, .mv (.cst (.bool false)), none⟩])
      .ret)
      .skip))
    (.seq (.reg [⟨some 127, .fadr 2 (.tmp 7), none⟩,
      ⟨some 128, .load false 1 (.tmp 127), none⟩,
      ⟨some 129, .lenV (.tmp 128), none⟩,
      ⟨some 130, .mv (.cst (.int .i64 0)), none⟩])
    (.block 2 (.loop
      (.seq (.reg [⟨some 131, .bin .lss (.tmp 130) (.tmp 129), none⟩])
      (.seq (.cond (.tmp 131)
        .skip
        (.exit 2))
      (.seq (.block 3 (.seq (.reg [⟨some 132, .mv (.tmp 130), none⟩,
        ⟨some 11, .mv (.tmp 132), none⟩])
      (.seq (.reg [⟨some 133, .fadr 2 (.tmp 7), none⟩,
        ⟨some 134, .load false 1 (.tmp 133), none⟩,
        ⟨some 135, .mv (.tmp 11), none⟩,
        ⟨some 136, .iadS 2 (.tmp 134) (.tmp 135), none⟩,
        ⟨some 137, .fadr 0 (.tmp 136), none⟩,
        ⟨some 138, .load false 1 (.tmp 137), none⟩,
        ⟨some 139, .mv (.tmp 0), none⟩,
        ⟨some 140, .bin .sub (.tmp 138) (.tmp 139), none⟩,
        ⟨some 141, .fadr 2 (.tmp 8), none⟩,
        ⟨some 142, .load false 1 (.tmp 141), none⟩,
        ⟨some 143, .mv (.tmp 11), none⟩,
        ⟨some 144, .iadS 2 (.tmp 142) (.tmp 143), none⟩,
        ⟨some 145, .fadr 0 (.tmp 144), none⟩,
        ⟨some 146, .load false 1 (.tmp 145), none⟩,
        ⟨some 147, .mv (.tmp 1), none⟩,
        ⟨some 148, .bin .sub (.tmp 146) (.tmp 147), none⟩,
        ⟨some 149, .bin .neq (.tmp 140) (.tmp 148), none⟩,
        ⟨some 150, .mv (.tmp 149), none⟩,
        ⟨some 151, .fadr 2 (.tmp 7), some (150, false)⟩,
        ⟨some 152, .load false 1 (.tmp 151), some (150, false)⟩,
        ⟨some 153, .mv (.tmp 11), some (150, false)⟩,
        ⟨some 154, .iadS 2 (.tmp 152) (.tmp 153), some (150, false)⟩,
        ⟨some 155, .fadr 1 (.tmp 154), some (150, false)⟩,
        ⟨some 156, .load false 1 (.tmp 155), some (150, false)⟩,
        ⟨some 157, .b2s (.tmp 156), some (150, false)⟩,
        ⟨some 158, .fadr 2 (.tmp 8), some (150, false)⟩,
        ⟨some 159, .load false 1 (.tmp 158), some (150, false)⟩,
        ⟨some 160, .mv (.tmp 11), some (150, false)⟩,
        ⟨some 161, .iadS 2 (.tmp 159) (.tmp 160), some (150, false)⟩,
        ⟨some 162, .fadr 1 (.tmp 161), some (150, false)⟩,
        ⟨some 163, .load false 1 (.tmp 162), some (150, false)⟩,
        ⟨some 164, .b2s (.tmp 163), some (150, false)⟩,
        ⟨some 165, .binT .neq (.tmp 157) (.tmp 164), some (150, false)⟩,
        ⟨some 166, .pick (.tmp 150) (.cst (.bool true)) (.tmp 165), none⟩])
      (.cond (.tmp 166)
        (.seq (.reg [⟨some 6, .mv (.cst (.bool false)), none⟩])
        .ret)
        .skip))))
      (.reg [⟨some 167, .bin .add (.tmp 130) (.cst (.int .i64 1)), none⟩,
        ⟨some 130, .mv (.tmp 167), none⟩])))))))))))
    (.reg [⟨some 168, .bin .add (.tmp 26) (.cst (.int .i64 1)), none⟩,
      ⟨some 26, .mv (.tmp 168), none⟩])))))))
  (.seq (.reg [⟨some 6, .mv (.cst (.bool true)), none⟩])
  .ret)))))
theorem p_caravellaw17_RecvqMoved : Try.f3.body.bind (compC Try.prog 169) = some c_caravellaw17_RecvqMoved := by kernel_rfl
theorem r_caravellaw17_RecvqMoved : tellR Try.prog Try.f3.results.toList = some [.t 6] := by kernel_rfl

/-- caravel/caravellaw17.RecvqTwice: 2 in. -/
def c_caravellaw17_RecvqTwice : ACode :=
  (.seq (.reg [⟨some 4, .mv (.cst (.bool false)), none⟩])
  (.seq (.seq (.reg [⟨some 13, .call 8 [], none⟩,
    ⟨some 14, .not (.tmp 13), none⟩,
    ⟨some 15, .mv (.tmp 14), none⟩,
    ⟨some 16, .mv (.tmp 1), some (15, false)⟩,
    ⟨some 17, .call 9 [(.tmp 16)], some (15, false)⟩,
    ⟨some 18, .not (.tmp 17), some (15, false)⟩,
    ⟨some 19, .pick (.tmp 15) (.cst (.bool true)) (.tmp 18), none⟩])
  (.cond (.tmp 19)
    (.seq (.reg [⟨some 20, .call 8 [], none⟩,
      ⟨some 4, .mv (.tmp 20), none⟩])
    .ret)
    .skip))
  (.seq (.reg [⟨some 21, .mv (.tmp 0), none⟩,
    ⟨some 22, .call 10 [(.tmp 21)], none⟩,
    ⟨some 5, .newb [(.int .u32 0), .nil, .nil, (.bool false), (.int .u32 0), (.bool false)], none⟩,
    ⟨none, .store 6 (.tmp 5) (.tmp 22), none⟩])
  (.seq (.seq (.reg [⟨some 23, .mv (.tmp 1), none⟩,
    ⟨some 24, .lenV (.tmp 23), none⟩,
    ⟨some 25, .mv (.cst (.int .i64 0)), none⟩])
  (.block 0 (.loop
    (.seq (.reg [⟨some 26, .bin .lss (.tmp 25) (.tmp 24), none⟩])
    (.seq (.cond (.tmp 26)
      .skip
      (.exit 0))
    (.seq (.block 1 (.seq (.reg [⟨some 27, .iadS 4 (.tmp 23) (.tmp 25), none⟩,
      ⟨some 28, .load true 4 (.tmp 27), none⟩,
      ⟨some 7, .newb [(.int .i64 0), .nil, (.bool false), (.int .i64 0)], none⟩,
      ⟨none, .store 4 (.tmp 7) (.tmp 28), none⟩])
    (.seq (.seq (.reg [⟨some 29, .fadr 3 (.tmp 7), none⟩,
      ⟨some 30, .load false 1 (.tmp 29), none⟩,
      ⟨some 31, .bin .gtr (.tmp 30) (.cst (.int .i64 0)), none⟩])
    (.cond (.tmp 31)
      (.seq (.reg [⟨some 33, .load true 6 (.tmp 5), none⟩,
        ⟨some 34, .fadr 3 (.tmp 7), none⟩,
        ⟨some 35, .load false 1 (.tmp 34), none⟩,
        ⟨some 36, .call 11 [(.tmp 33), (.tmp 35)], none⟩,
        ⟨some 32, .mv (.tmp 36), none⟩,
        ⟨some 37, .ext (.tmp 32) 0, none⟩,
        ⟨some 38, .ext (.tmp 32) 1, none⟩,
        ⟨some 8, .newb [(.int .u32 0), .nil, .nil, (.bool false), (.int .u32 0), (.bool false)], none⟩,
        ⟨none, .store 6 (.tmp 8) (.tmp 37), none⟩,
        ⟨some 9, .mv (.tmp 38), none⟩])
      (.seq (.seq (.reg [⟨some 39, .mv (.tmp 9), none⟩,
        ⟨some 40, .lenV (.tmp 39), none⟩,
        ⟨some 41, .fadr 3 (.tmp 7), none⟩,
        ⟨some 42, .load false 1 (.tmp 41), none⟩,
        ⟨some 43, .fadr 1 (.tmp 5), none⟩,
        ⟨some 44, .load false 1 (.tmp 43), none⟩,
        ⟨some 45, .lenV (.tmp 44), none⟩,
        ⟨some 46, .min [(.tmp 42), (.tmp 45)], none⟩,
        ⟨some 47, .bin .neq (.tmp 40) (.tmp 46), none⟩,
        ⟨some 48, .mv (.tmp 47), none⟩,
        ⟨some 49, .fadr 1 (.tmp 8), some (48, false)⟩,
        ⟨some 50, .load false 1 (.tmp 49), some (48, false)⟩,
        ⟨some 51, .lenV (.tmp 50), some (48, false)⟩,
        ⟨some 52, .fadr 1 (.tmp 5), some (48, false)⟩,
        ⟨some 53, .load false 1 (.tmp 52), some (48, false)⟩,
        ⟨some 54, .lenV (.tmp 53), some (48, false)⟩,
        ⟨some 55, .mv (.tmp 9), some (48, false)⟩,
        ⟨some 56, .lenV (.tmp 55), some (48, false)⟩,
        ⟨some 57, .bin .sub (.tmp 54) (.tmp 56), some (48, false)⟩,
        ⟨some 58, .bin .neq (.tmp 51) (.tmp 57), some (48, false)⟩,
        ⟨some 59, .pick (.tmp 48) (.cst (.bool true)) (.tmp 58), none⟩])
      (.cond (.tmp 59)
        (.seq (.reg [⟨some 4, .mv (.cst (.bool false)), none⟩])
        .ret)
        .skip))
      (.seq (.reg [⟨some 60, .load true 6 (.tmp 8), none⟩,
        ⟨none, .store 6 (.tmp 5) (.tmp 60), none⟩])
      (.exit 1))))
      .skip))
    (.seq (.reg [⟨some 61, .fadr 0 (.tmp 5), none⟩,
      ⟨some 62, .load false 1 (.tmp 61), none⟩,
      ⟨some 63, .fadr 0 (.tmp 7), none⟩,
      ⟨some 64, .load false 1 (.tmp 63), none⟩,
      ⟨some 65, .conv .u32 (.tmp 64), none⟩,
      ⟨some 66, .bin .add (.tmp 62) (.tmp 65), none⟩,
      ⟨some 10, .mv (.tmp 66), none⟩])
    (.seq (.reg [⟨some 67, .load true 6 (.tmp 5), none⟩,
      ⟨some 68, .mv (.tmp 10), none⟩,
      ⟨some 69, .fadr 1 (.tmp 7), none⟩,
      ⟨some 70, .load false 1 (.tmp 69), none⟩,
      ⟨some 71, .fadr 2 (.tmp 7), none⟩,
      ⟨some 72, .load false 1 (.tmp 71), none⟩,
      ⟨some 73, .call 12 [(.tmp 67), (.tmp 68), (.tmp 70), (.tmp 72)], none⟩,
      ⟨some 11, .newb [(.int .u32 0), .nil, .nil, (.bool false), (.int .u32 0), (.bool false)], none⟩,
      ⟨none, .store 6 (.tmp 11) (.tmp 73), none⟩])
    (.seq (.reg [⟨some 74, .load true 6 (.tmp 11), none⟩,
      ⟨some 75, .mv (.tmp 10), none⟩,
      ⟨some 76, .fadr 1 (.tmp 7), none⟩,
      ⟨some 77, .load false 1 (.tmp 76), none⟩,
      ⟨some 78, .fadr 2 (.tmp 7), none⟩,
      ⟨some 79, .load false 1 (.tmp 78), none⟩,
      ⟨some 80, .call 12 [(.tmp 74), (.tmp 75), (.tmp 77), (.tmp 79)], none⟩,
      ⟨some 12, .newb [(.int .u32 0), .nil, .nil, (.bool false), (.int .u32 0), (.bool false)], none⟩,
      ⟨none, .store 6 (.tmp 12) (.tmp 80), none⟩])
    (.seq (.seq (.reg [⟨some 81, .fadr 1 (.tmp 12), none⟩,
      ⟨some 82, .load false 1 (.tmp 81), none⟩,
      ⟨some 83, .b2s (.tmp 82), none⟩,
      ⟨some 84, .fadr 1 (.tmp 11), none⟩,
      ⟨some 85, .load false 1 (.tmp 84), none⟩,
      ⟨some 86, .b2s (.tmp 85), none⟩,
      ⟨some 87, .binT .neq (.tmp 83) (.tmp 86), none⟩,
      ⟨some 88, .mv (.tmp 87), none⟩,
      ⟨some 89, .fadr 0 (.tmp 12), some (88, false)⟩,
      ⟨some 90, .load false 1 (.tmp 89), some (88, false)⟩,
      ⟨some 91, .fadr 0 (.tmp 11), some (88, false)⟩,
      ⟨some 92, .load false 1 (.tmp 91), some (88, false)⟩,
      ⟨some 93, .bin .neq (.tmp 90) (.tmp 92), some (88, false)⟩,
      ⟨some 94, .pick (.tmp 88) (.cst (.bool true)) (.tmp 93), none⟩,
      ⟨some 95, .mv (.tmp 94), none⟩,
      ⟨some 96, .fadr 5 (.tmp 12), some (95, false)⟩,
      ⟨some 97, .load false 1 (.tmp 96), some (95, false)⟩,
      ⟨some 98, .fadr 5 (.tmp 11), some (95, false)⟩,
      ⟨some 99, .load false 1 (.tmp 98), some (95, false)⟩,
      ⟨some 100, .binB true (.tmp 97) (.tmp 99), some (95, false)⟩,
      ⟨some 101, .pick (.tmp 95) (.cst (.bool true)) (.tmp 100), none⟩,
      ⟨some 102, .mv (.tmp 101), none⟩,
      ⟨some 103, .fadr 3 (.tmp 12), some (102, false)⟩,
      ⟨some 104, .load false 1 (.tmp 103), some (102, false)⟩,
      ⟨some 105, .fadr 3 (.tmp 11), some (102, false)⟩,
      ⟨some 106, .load false 1 (.tmp 105), some (102, false)⟩,
      ⟨some 107, .binB true (.tmp 104) (.tmp 106), some (102, false)⟩,
      ⟨some 108, .pick (.tmp 102) (.cst (.bool true)) (.tmp 107), none⟩,
      ⟨some 109, .mv (.tmp 108), none⟩,
      ⟨some 110, .fadr 2 (.tmp 12), some (109, false)⟩,
      ⟨some 111, .load false 1 (.tmp 110), some (109, false)⟩,
      ⟨some 112, .lenV (.tmp 111), some (109, false)⟩,
      ⟨some 113, .fadr 2 (.tmp 11), some (109, false)⟩,
      ⟨some 114, .load false 1 (.tmp 113), some (109, false)⟩,
      ⟨some 115, .lenV (.tmp 114), some (109, false)⟩,
      ⟨some 116, .bin .neq (.tmp 112) (.tmp 115), some (109, false)⟩,
      ⟨some 117, .pick (.tmp 109) (.cst (.bool true)) (.tmp 116), none⟩,
      ⟨some 118, .mv (.tmp 117), none⟩,
      ⟨some 119, .load true 6 (.tmp 11), some (118, false)⟩,
      ⟨some 120, .call 13 [(.tmp 119)], some (118, false)⟩,
      ⟨some 121, .fadr 1 (.tmp 11), some (118, false)⟩,
      ⟨some 122, .load false 1 (.tmp 121), some (118, false)⟩,
      ⟨some 123, .lenV (.tmp 122), some (118, false)⟩,
      ⟨some 124, .bin .add (.tmp 120) (.tmp 123), some (118, false)⟩,
      ⟨some 125, .bin .neq (.tmp 124) (.cst (.int .i64 256)), some (118, false)⟩,
      ⟨some 126, .pick (.tmp 118) (.cst (.bool true)) (.tmp 125), none⟩])
    (.cond (.tmp 126)
      (.seq (.reg [⟨some 4, .mv (.cst (.bool false)), none⟩])
      .ret)
      .skip))
    (.reg [⟨some 127, .load true 6 (.tmp 11), none⟩,
      ⟨none, .store 6 (.tmp 5) (.tmp 127), none⟩]))))))))
    (.reg [⟨some 128, .bin .add (.tmp 25) (.cst (.int .i64 1)), none⟩,
      ⟨some 25, .mv (.tmp 128), none⟩])))))))
  (.seq (.reg [⟨some 4, .mv (.cst (.bool true)), none⟩])
  .ret)))))
theorem p_caravellaw17_RecvqTwice : Try.f4.body.bind (compC Try.prog 129) = some c_caravellaw17_RecvqTwice := by kernel_rfl
theorem r_caravellaw17_RecvqTwice : tellR Try.prog Try.f4.results.toList = some [.t 4] := by kernel_rfl

/-- caravel/caravellaw17.RecvqStream: 3 in. -/
def c_caravellaw17_RecvqStream : ACode :=
  (.seq (.reg [⟨some 6, .mv (.cst (.bool false)), none⟩])
  (.seq (.seq (.reg [⟨some 20, .call 8 [], none⟩,
    ⟨some 21, .not (.tmp 20), none⟩,
    ⟨some 22, .mv (.tmp 21), none⟩,
    ⟨some 23, .mv (.tmp 1), some (22, false)⟩,
    ⟨some 24, .lenV (.tmp 23), some (22, false)⟩,
    ⟨some 25, .bin .gtr (.tmp 24) (.cst (.int .i64 600)), some (22, false)⟩,
    ⟨some 26, .pick (.tmp 22) (.cst (.bool true)) (.tmp 25), none⟩,
    ⟨some 27, .mv (.tmp 26), none⟩,
    ⟨some 28, .mv (.tmp 2), some (27, false)⟩,
    ⟨some 29, .lenV (.tmp 28), some (27, false)⟩,
    ⟨some 30, .bin .gtr (.tmp 29) (.cst (.int .i64 80)), some (27, false)⟩,
    ⟨some 31, .pick (.tmp 27) (.cst (.bool true)) (.tmp 30), none⟩])
  (.cond (.tmp 31)
    (.seq (.reg [⟨some 32, .call 8 [], none⟩,
      ⟨some 6, .mv (.tmp 32), none⟩])
    .ret)
    .skip))
  (.seq (.reg [⟨some 33, .mv (.tmp 0), none⟩,
    ⟨some 34, .call 10 [(.tmp 33)], none⟩,
    ⟨some 7, .newb [(.int .u32 0), .nil, .nil, (.bool false), (.int .u32 0), (.bool false)], none⟩,
    ⟨none, .store 6 (.tmp 7) (.tmp 34), none⟩])
  (.seq (.reg [⟨some 8, .mv (.cst (.str [])), none⟩])
  (.seq (.seq (.reg [⟨some 35, .mv (.tmp 2), none⟩,
    ⟨some 36, .lenV (.tmp 35), none⟩,
    ⟨some 37, .mv (.cst (.int .i64 0)), none⟩])
  (.block 0 (.loop
    (.seq (.reg [⟨some 38, .bin .lss (.tmp 37) (.tmp 36), none⟩])
    (.seq (.cond (.tmp 38)
      .skip
      (.exit 0))
    (.seq (.block 1 (.seq (.reg [⟨some 39, .iadS 3 (.tmp 35) (.tmp 37), none⟩,
      ⟨some 40, .load true 3 (.tmp 39), none⟩,
      ⟨some 10, .newb [(.int .i64 0), (.int .i64 0), (.int .i64 0)], none⟩,
      ⟨none, .store 3 (.tmp 10) (.tmp 40), none⟩])
    (.seq (.reg [⟨some 41, .fadr 0 (.tmp 10), none⟩,
      ⟨some 42, .load false 1 (.tmp 41), none⟩,
      ⟨some 43, .conv .u64 (.tmp 42), none⟩,
      ⟨some 44, .mv (.tmp 1), none⟩,
      ⟨some 45, .lenV (.tmp 44), none⟩,
      ⟨some 46, .bin .add (.tmp 45) (.cst (.int .i64 1)), none⟩,
      ⟨some 47, .conv .u64 (.tmp 46), none⟩,
      ⟨some 48, .bin .rem (.tmp 43) (.tmp 47), none⟩,
      ⟨some 49, .conv .i64 (.tmp 48), none⟩,
      ⟨some 11, .mv (.tmp 49), none⟩])
    (.seq (.reg [⟨some 50, .mv (.tmp 1), none⟩,
      ⟨some 51, .lenV (.tmp 50), none⟩,
      ⟨some 52, .mv (.tmp 11), none⟩,
      ⟨some 53, .fadr 1 (.tmp 10), none⟩,
      ⟨some 54, .load false 1 (.tmp 53), none⟩,
      ⟨some 55, .conv .u64 (.tmp 54), none⟩,
      ⟨some 56, .bin .rem (.tmp 55) (.cst (.int .u64 200)), none⟩,
      ⟨some 57, .conv .i64 (.tmp 56), none⟩,
      ⟨some 58, .bin .add (.tmp 52) (.tmp 57), none⟩,
      ⟨some 59, .min [(.tmp 51), (.tmp 58)], none⟩,
      ⟨some 12, .mv (.tmp 59), none⟩])
    (.seq (.reg [⟨some 60, .load true 6 (.tmp 7), none⟩,
      ⟨some 61, .mv (.tmp 0), none⟩,
      ⟨some 62, .mv (.tmp 11), none⟩,
      ⟨some 63, .conv .u32 (.tmp 62), none⟩,
      ⟨some 64, .bin .add (.tmp 61) (.tmp 63), none⟩,
      ⟨some 65, .mv (.tmp 1), none⟩,
      ⟨some 66, .mv (.tmp 11), none⟩,
      ⟨some 67, .mv (.tmp 12), none⟩,
      ⟨some 68, .slS 1 (.tmp 65) (some (.tmp 66)) (some (.tmp 67)) none, none⟩,
      ⟨some 69, .mv (.tmp 12), none⟩,
      ⟨some 70, .mv (.tmp 1), none⟩,
      ⟨some 71, .lenV (.tmp 70), none⟩,
      ⟨some 72, .bin .eql (.tmp 69) (.tmp 71), none⟩,
      ⟨some 73, .call 12 [(.tmp 60), (.tmp 64), (.tmp 68), (.tmp 72)], none⟩,
      ⟨none, .store 6 (.tmp 7) (.tmp 73), none⟩])
    (.seq (.reg [⟨some 75, .load true 6 (.tmp 7), none⟩,
      ⟨some 76, .fadr 2 (.tmp 10), none⟩,
      ⟨some 77, .load false 1 (.tmp 76), none⟩,
      ⟨some 78, .call 11 [(.tmp 75), (.tmp 77)], none⟩,
      ⟨some 74, .mv (.tmp 78), none⟩,
      ⟨some 79, .ext (.tmp 74) 0, none⟩,
      ⟨some 80, .ext (.tmp 74) 1, none⟩,
      ⟨some 13, .newb [(.int .u32 0), .nil, .nil, (.bool false), (.int .u32 0), (.bool false)], none⟩,
      ⟨none, .store 6 (.tmp 13) (.tmp 79), none⟩,
      ⟨some 14, .mv (.tmp 80), none⟩])
    (.seq (.reg [⟨some 81, .load true 6 (.tmp 13), none⟩,
      ⟨none, .store 6 (.tmp 7) (.tmp 81), none⟩])
    (.seq (.reg [⟨some 82, .mv (.tmp 8), none⟩,
      ⟨some 83, .mv (.tmp 14), none⟩,
      ⟨some 84, .b2s (.tmp 83), none⟩,
      ⟨some 85, .binT .add (.tmp 82) (.tmp 84), none⟩,
      ⟨some 8, .mv (.tmp 85), none⟩])
    (.seq (.reg [⟨some 86, .mv (.tmp 8), none⟩,
      ⟨some 87, .lenT (.tmp 86), none⟩,
      ⟨some 88, .mv (.tmp 1), none⟩,
      ⟨some 89, .lenV (.tmp 88), none⟩,
      ⟨some 90, .bin .gtr (.tmp 87) (.tmp 89), none⟩,
      ⟨some 91, .mv (.tmp 90), none⟩,
      ⟨some 92, .mv (.tmp 8), some (91, false)⟩,
      ⟨some 93, .mv (.tmp 1), some (91, false)⟩,
      ⟨some 94, .mv (.tmp 8), some (91, false)⟩,
      ⟨some 95, .lenT (.tmp 94), some (91, false)⟩,
      ⟨some 96, .slS 1 (.tmp 93) none (some (.tmp 95)) none, some (91, false)⟩,
      ⟨some 97, .b2s (.tmp 96), some (91, false)⟩,
      ⟨some 98, .binT .neq (.tmp 92) (.tmp 97), some (91, false)⟩,
      ⟨some 99, .pick (.tmp 91) (.cst (.bool true)) (.tmp 98), none⟩,
      ⟨some 100, .mv (.tmp 99), none⟩,
      ⟨some 101, .load true 6 (.tmp 7), some (100, false)⟩,
      ⟨some 102, .call 14 [(.tmp 101)], some (100, false)⟩,
      ⟨some 103, .mv (.tmp 102), some (100, false)⟩,
      ⟨some 104, .mv (.tmp 8), some (103, true)⟩,
      ⟨some 105, .lenT (.tmp 104), some (103, true)⟩,
      ⟨some 106, .mv (.tmp 1), some (103, true)⟩,
      ⟨some 107, .lenV (.tmp 106), some (103, true)⟩,
      ⟨some 108, .bin .neq (.tmp 105) (.tmp 107), some (103, true)⟩,
      ⟨some 109, .pick (.tmp 103) (.tmp 108) (.cst (.bool false)), some (100, false)⟩,
      ⟨some 110, .pick (.tmp 100) (.cst (.bool true)) (.tmp 109), none⟩,
      ⟨some 111, .mv (.tmp 110), none⟩,
      ⟨some 112, .fadr 1 (.tmp 7), some (111, false)⟩,
      ⟨some 113, .load false 1 (.tmp 112), some (111, false)⟩,
      ⟨some 114, .lenV (.tmp 113), some (111, false)⟩,
      ⟨some 115, .bin .gtr (.tmp 114) (.cst (.int .i64 256)), some (111, false)⟩,
      ⟨some 116, .pick (.tmp 111) (.cst (.bool true)) (.tmp 115), none⟩])
    (.cond (.tmp 116)
      (.seq (.reg [⟨some 6, .mv (.cst (.bool false)), none⟩])
      .ret)
      .skip))))))))))
    (.reg [⟨some 117, .bin .add (.tmp 37) (.cst (.int .i64 1)), none⟩,
      ⟨some 37, .mv (.tmp 117), none⟩])))))))
  (.seq (.seq (.reg [⟨some 15, .mv (.cst (.int .i64 0)), none⟩])
  (.block 2 (.loop
    (.seq (.seq (.reg [⟨some 118, .mv (.tmp 15), none⟩,
      ⟨some 119, .mv (.tmp 1), none⟩,
      ⟨some 120, .lenV (.tmp 119), none⟩,
      ⟨some 121, .bin .quo (.tmp 120) (.cst (.int .i64 100)), none⟩,
      ⟨some 122, .bin .add (.tmp 121) (.cst (.int .i64 3)), none⟩,
      ⟨some 123, .bin .leq (.tmp 118) (.tmp 122), none⟩])
    (.cond (.tmp 123)
      .skip
      (.exit 2)))
    (.seq (.block 3 (.seq (.reg [⟨some 126, .mv (.tmp 8), none⟩,
      ⟨some 127, .lenT (.tmp 126), none⟩,
      ⟨some 16, .mv (.tmp 127), none⟩])
    (.seq (.reg [⟨some 128, .mv (.tmp 1), none⟩,
      ⟨some 129, .lenV (.tmp 128), none⟩,
      ⟨some 130, .mv (.tmp 16), none⟩,
      ⟨some 131, .bin .add (.tmp 130) (.cst (.int .i64 100)), none⟩,
      ⟨some 132, .min [(.tmp 129), (.tmp 131)], none⟩,
      ⟨some 17, .mv (.tmp 132), none⟩])
    (.seq (.reg [⟨some 133, .load true 6 (.tmp 7), none⟩,
      ⟨some 134, .mv (.tmp 0), none⟩,
      ⟨some 135, .mv (.tmp 16), none⟩,
      ⟨some 136, .conv .u32 (.tmp 135), none⟩,
      ⟨some 137, .bin .add (.tmp 134) (.tmp 136), none⟩,
      ⟨some 138, .mv (.tmp 1), none⟩,
      ⟨some 139, .mv (.tmp 16), none⟩,
      ⟨some 140, .mv (.tmp 17), none⟩,
      ⟨some 141, .slS 1 (.tmp 138) (some (.tmp 139)) (some (.tmp 140)) none, none⟩,
      ⟨some 142, .mv (.tmp 17), none⟩,
      ⟨some 143, .mv (.tmp 1), none⟩,
      ⟨some 144, .lenV (.tmp 143), none⟩,
      ⟨some 145, .bin .eql (.tmp 142) (.tmp 144), none⟩,
      ⟨some 146, .call 12 [(.tmp 133), (.tmp 137), (.tmp 141), (.tmp 145)], none⟩,
      ⟨none, .store 6 (.tmp 7) (.tmp 146), none⟩])
    (.seq (.reg [⟨some 148, .load true 6 (.tmp 7), none⟩,
      ⟨some 149, .call 11 [(.tmp 148), (.cst (.int .i64 1000))], none⟩,
      ⟨some 147, .mv (.tmp 149), none⟩,
      ⟨some 150, .ext (.tmp 147) 0, none⟩,
      ⟨some 151, .ext (.tmp 147) 1, none⟩,
      ⟨some 18, .newb [(.int .u32 0), .nil, .nil, (.bool false), (.int .u32 0), (.bool false)], none⟩,
      ⟨none, .store 6 (.tmp 18) (.tmp 150), none⟩,
      ⟨some 19, .mv (.tmp 151), none⟩])
    (.seq (.reg [⟨some 152, .load true 6 (.tmp 18), none⟩,
      ⟨none, .store 6 (.tmp 7) (.tmp 152), none⟩])
    (.reg [⟨some 153, .mv (.tmp 8), none⟩,
      ⟨some 154, .mv (.tmp 19), none⟩,
      ⟨some 155, .b2s (.tmp 154), none⟩,
      ⟨some 156, .binT .add (.tmp 153) (.tmp 155), none⟩,
      ⟨some 8, .mv (.tmp 156), none⟩])))))))
    (.reg [⟨some 124, .mv (.tmp 15), none⟩,
      ⟨some 125, .bin .add (.tmp 124) (.cst (.int .i64 1)), none⟩,
      ⟨some 15, .mv (.tmp 125), none⟩]))))))
  (.seq (.reg [⟨some 157, .mv (.tmp 8), none⟩,
    ⟨some 158, .mv (.tmp 1), none⟩,
    ⟨some 159, .b2s (.tmp 158), none⟩,
    ⟨some 160, .binT .eql (.tmp 157) (.tmp 159), none⟩,
    ⟨some 161, .mv (.tmp 160), none⟩,
    ⟨some 162, .load true 6 (.tmp 7), some (161, true)⟩,
    ⟨some 163, .call 14 [(.tmp 162)], some (161, true)⟩,
    ⟨some 164, .pick (.tmp 161) (.tmp 163) (.cst (.bool false)), none⟩,
    ⟨some 165, .mv (.tmp 164), none⟩,
    ⟨some 166, .fadr 0 (.tmp 7), some (165, true)⟩,
    ⟨some 167, .load false 1 (.tmp 166), some (165, true)⟩,
    ⟨some 168, .mv (.tmp 0), some (165, true)⟩,
    ⟨some 169, .mv (.tmp 1), some (165, true)⟩,
    ⟨some 170, .lenV (.tmp 169), some (165, true)⟩,
    ⟨some 171, .conv .u32 (.tmp 170), some (165, true)⟩,
    ⟨some 172, .bin .add (.tmp 168) (.tmp 171), some (165, true)⟩,
    ⟨some 173, .bin .add (.tmp 172) (.cst (.int .u32 1)), some (165, true)⟩,
    ⟨some 174, .bin .eql (.tmp 167) (.tmp 173), some (165, true)⟩,
    ⟨some 175, .pick (.tmp 165) (.tmp 174) (.cst (.bool false)), none⟩,
    ⟨some 6, .mv (.tmp 175), none⟩])
  .ret)))))))
theorem p_caravellaw17_RecvqStream : Try.f5.body.bind (compC Try.prog 176) = some c_caravellaw17_RecvqStream := by kernel_rfl
theorem r_caravellaw17_RecvqStream : tellR Try.prog Try.f5.results.toList = some [.t 6] := by kernel_rfl

/-- caravel/caravellaw17.RecvqDone: 3 in. -/
def c_caravellaw17_RecvqDone : ACode :=
  (.seq (.reg [⟨some 5, .box (.tmp 2), none⟩,
    ⟨some 6, .mv (.cst (.bool false)), none⟩])
  (.seq (.seq (.reg [⟨some 11, .call 8 [], none⟩,
    ⟨some 12, .not (.tmp 11), none⟩,
    ⟨some 13, .mv (.tmp 12), none⟩,
    ⟨some 14, .mv (.tmp 1), some (13, false)⟩,
    ⟨some 15, .lenV (.tmp 14), some (13, false)⟩,
    ⟨some 16, .bin .gtr (.tmp 15) (.cst (.int .i64 256)), some (13, false)⟩,
    ⟨some 17, .pick (.tmp 13) (.cst (.bool true)) (.tmp 16), none⟩,
    ⟨some 18, .mv (.tmp 17), none⟩,
    ⟨some 19, .fadr 1 (.tmp 5), some (18, false)⟩,
    ⟨some 20, .load false 1 (.tmp 19), some (18, false)⟩,
    ⟨some 21, .lenV (.tmp 20), some (18, false)⟩,
    ⟨some 22, .bin .gtr (.tmp 21) (.cst (.int .i64 400)), some (18, false)⟩,
    ⟨some 23, .pick (.tmp 18) (.cst (.bool true)) (.tmp 22), none⟩])
  (.cond (.tmp 23)
    (.seq (.reg [⟨some 24, .call 8 [], none⟩,
      ⟨some 6, .mv (.tmp 24), none⟩])
    .ret)
    .skip))
  (.seq (.reg [⟨some 25, .mv (.tmp 0), none⟩,
    ⟨some 26, .call 10 [(.tmp 25)], none⟩,
    ⟨some 27, .mv (.tmp 0), none⟩,
    ⟨some 28, .mv (.tmp 1), none⟩,
    ⟨some 29, .call 12 [(.tmp 26), (.tmp 27), (.tmp 28), (.cst (.bool true))], none⟩,
    ⟨some 7, .newb [(.int .u32 0), .nil, .nil, (.bool false), (.int .u32 0), (.bool false)], none⟩,
    ⟨none, .store 6 (.tmp 7) (.tmp 29), none⟩])
  (.seq (.reg [⟨some 30, .load true 6 (.tmp 7), none⟩,
    ⟨some 31, .fadr 0 (.tmp 7), none⟩,
    ⟨some 32, .load false 1 (.tmp 31), none⟩,
    ⟨some 33, .fadr 0 (.tmp 5), none⟩,
    ⟨some 34, .load false 1 (.tmp 33), none⟩,
    ⟨some 35, .conv .u32 (.tmp 34), none⟩,
    ⟨some 36, .bin .add (.tmp 32) (.tmp 35), none⟩,
    ⟨some 37, .fadr 1 (.tmp 5), none⟩,
    ⟨some 38, .load false 1 (.tmp 37), none⟩,
    ⟨some 39, .fadr 2 (.tmp 5), none⟩,
    ⟨some 40, .load false 1 (.tmp 39), none⟩,
    ⟨some 41, .call 12 [(.tmp 30), (.tmp 36), (.tmp 38), (.tmp 40)], none⟩,
    ⟨some 8, .newb [(.int .u32 0), .nil, .nil, (.bool false), (.int .u32 0), (.bool false)], none⟩,
    ⟨none, .store 6 (.tmp 8) (.tmp 41), none⟩])
  (.seq (.seq (.reg [⟨some 42, .fadr 5 (.tmp 7), none⟩,
    ⟨some 43, .load false 1 (.tmp 42), none⟩,
    ⟨some 44, .not (.tmp 43), none⟩,
    ⟨some 45, .mv (.tmp 44), none⟩,
    ⟨some 46, .fadr 5 (.tmp 8), some (45, false)⟩,
    ⟨some 47, .load false 1 (.tmp 46), some (45, false)⟩,
    ⟨some 48, .not (.tmp 47), some (45, false)⟩,
    ⟨some 49, .pick (.tmp 45) (.cst (.bool true)) (.tmp 48), none⟩,
    ⟨some 50, .mv (.tmp 49), none⟩,
    ⟨some 51, .fadr 1 (.tmp 8), some (50, false)⟩,
    ⟨some 52, .load false 1 (.tmp 51), some (50, false)⟩,
    ⟨some 53, .b2s (.tmp 52), some (50, false)⟩,
    ⟨some 54, .mv (.tmp 1), some (50, false)⟩,
    ⟨some 55, .b2s (.tmp 54), some (50, false)⟩,
    ⟨some 56, .binT .neq (.tmp 53) (.tmp 55), some (50, false)⟩,
    ⟨some 57, .pick (.tmp 50) (.cst (.bool true)) (.tmp 56), none⟩,
    ⟨some 58, .mv (.tmp 57), none⟩,
    ⟨some 59, .fadr 0 (.tmp 8), some (58, false)⟩,
    ⟨some 60, .load false 1 (.tmp 59), some (58, false)⟩,
    ⟨some 61, .fadr 0 (.tmp 7), some (58, false)⟩,
    ⟨some 62, .load false 1 (.tmp 61), some (58, false)⟩,
    ⟨some 63, .bin .neq (.tmp 60) (.tmp 62), some (58, false)⟩,
    ⟨some 64, .pick (.tmp 58) (.cst (.bool true)) (.tmp 63), none⟩,
    ⟨some 65, .mv (.tmp 64), none⟩,
    ⟨some 66, .fadr 2 (.tmp 8), some (65, false)⟩,
    ⟨some 67, .load false 1 (.tmp 66), some (65, false)⟩,
    ⟨some 68, .lenV (.tmp 67), some (65, false)⟩,
    ⟨some 69, .bin .neq (.tmp 68) (.cst (.int .i64 0)), some (65, false)⟩,
    ⟨some 70, .pick (.tmp 65) (.cst (.bool true)) (.tmp 69), none⟩,
    ⟨some 71, .mv (.tmp 70), none⟩,
    ⟨some 72, .load true 6 (.tmp 7), some (71, false)⟩,
    ⟨some 73, .call 14 [(.tmp 72)], some (71, false)⟩,
    ⟨some 74, .mv (.tmp 1), some (71, false)⟩,
    ⟨some 75, .lenV (.tmp 74), some (71, false)⟩,
    ⟨some 76, .bin .eql (.tmp 75) (.cst (.int .i64 0)), some (71, false)⟩,
    ⟨some 77, .binB true (.tmp 73) (.tmp 76), some (71, false)⟩,
    ⟨some 78, .pick (.tmp 71) (.cst (.bool true)) (.tmp 77), none⟩])
  (.cond (.tmp 78)
    (.seq (.reg [⟨some 6, .mv (.cst (.bool false)), none⟩])
    .ret)
    .skip))
  (.seq (.reg [⟨some 80, .load true 6 (.tmp 8), none⟩,
    ⟨some 81, .call 11 [(.tmp 80), (.cst (.int .i64 1000))], none⟩,
    ⟨some 79, .mv (.tmp 81), none⟩,
    ⟨some 82, .ext (.tmp 79) 0, none⟩,
    ⟨some 83, .ext (.tmp 79) 1, none⟩,
    ⟨some 9, .newb [(.int .u32 0), .nil, .nil, (.bool false), (.int .u32 0), (.bool false)], none⟩,
    ⟨none, .store 6 (.tmp 9) (.tmp 82), none⟩,
    ⟨some 10, .mv (.tmp 83), none⟩])
  (.seq (.reg [⟨some 84, .mv (.tmp 10), none⟩,
    ⟨some 85, .b2s (.tmp 84), none⟩,
    ⟨some 86, .mv (.tmp 1), none⟩,
    ⟨some 87, .b2s (.tmp 86), none⟩,
    ⟨some 88, .binT .eql (.tmp 85) (.tmp 87), none⟩,
    ⟨some 89, .mv (.tmp 88), none⟩,
    ⟨some 90, .load true 6 (.tmp 9), some (89, true)⟩,
    ⟨some 91, .call 14 [(.tmp 90)], some (89, true)⟩,
    ⟨some 92, .pick (.tmp 89) (.tmp 91) (.cst (.bool false)), none⟩,
    ⟨some 93, .mv (.tmp 92), none⟩,
    ⟨some 94, .load true 6 (.tmp 9), some (93, true)⟩,
    ⟨some 95, .call 13 [(.tmp 94)], some (93, true)⟩,
    ⟨some 96, .bin .eql (.tmp 95) (.cst (.int .i64 256)), some (93, true)⟩,
    ⟨some 97, .pick (.tmp 93) (.tmp 96) (.cst (.bool false)), none⟩,
    ⟨some 6, .mv (.tmp 97), none⟩])
  .ret)))))))
theorem p_caravellaw17_RecvqDone : Try.f6.body.bind (compC Try.prog 98) = some c_caravellaw17_RecvqDone := by kernel_rfl
theorem r_caravellaw17_RecvqDone : tellR Try.prog Try.f6.results.toList = some [.t 6] := by kernel_rfl

/-- caravel/caravellaw17.RecvqPlays: 2 in. -/
def c_caravellaw17_RecvqPlays : ACode :=
  (.seq (.reg [⟨some 4, .mv (.cst (.bool false)), none⟩])
  (.seq (.seq (.reg [⟨some 16, .call 8 [], none⟩,
    ⟨some 17, .not (.tmp 16), none⟩,
    ⟨some 18, .mv (.tmp 17), none⟩,
    ⟨some 19, .mv (.tmp 1), some (18, false)⟩,
    ⟨some 20, .call 9 [(.tmp 19)], some (18, false)⟩,
    ⟨some 21, .not (.tmp 20), some (18, false)⟩,
    ⟨some 22, .pick (.tmp 18) (.cst (.bool true)) (.tmp 21), none⟩])
  (.cond (.tmp 22)
    (.seq (.reg [⟨some 23, .call 8 [], none⟩,
      ⟨some 4, .mv (.tmp 23), none⟩])
    .ret)
    .skip))
  (.seq (.reg [⟨some 24, .mv (.tmp 0), none⟩,
    ⟨some 25, .call 10 [(.tmp 24)], none⟩,
    ⟨some 26, .mv (.tmp 0), none⟩,
    ⟨some 27, .call 15 [(.tmp 26)], none⟩,
    ⟨some 5, .newb [(.int .u32 0), .nil, .nil, (.bool false), (.int .u32 0), (.bool false)], none⟩,
    ⟨some 6, .newb [(.int .u32 0), (.str []), .nil, (.int .i64 0), (.bool false)], none⟩,
    ⟨none, .store 6 (.tmp 5) (.tmp 25), none⟩,
    ⟨none, .store 5 (.tmp 6) (.tmp 27), none⟩])
  (.seq (.seq (.reg [⟨some 28, .mv (.tmp 1), none⟩,
    ⟨some 29, .lenV (.tmp 28), none⟩,
    ⟨some 30, .mv (.cst (.int .i64 0)), none⟩])
  (.block 0 (.loop
    (.seq (.reg [⟨some 31, .bin .lss (.tmp 30) (.tmp 29), none⟩])
    (.seq (.cond (.tmp 31)
      .skip
      (.exit 0))
    (.seq (.block 1 (.seq (.reg [⟨some 32, .iadS 4 (.tmp 28) (.tmp 30), none⟩,
      ⟨some 33, .load true 4 (.tmp 32), none⟩,
      ⟨some 8, .newb [(.int .i64 0), .nil, (.bool false), (.int .i64 0)], none⟩,
      ⟨none, .store 4 (.tmp 8) (.tmp 33), none⟩])
    (.seq (.drw [⟨some 34, .load true 6 (.tmp 5), none⟩,
      ⟨some 35, .load true 5 (.tmp 6), none⟩,
      ⟨some 9, .newb [(.int .u32 0), .nil, .nil, (.bool false), (.int .u32 0), (.bool false)], none⟩,
      ⟨some 10, .newb [(.int .u32 0), (.str []), .nil, (.int .i64 0), (.bool false)], none⟩,
      ⟨none, .store 6 (.tmp 9) (.tmp 34), none⟩,
      ⟨none, .store 5 (.tmp 10) (.tmp 35), none⟩] [[], [], [], [], [1], []])
    (.seq (.seq (.reg [⟨some 36, .fadr 3 (.tmp 8), none⟩,
      ⟨some 37, .load false 1 (.tmp 36), none⟩,
      ⟨some 38, .bin .gtr (.tmp 37) (.cst (.int .i64 0)), none⟩])
    (.cond (.tmp 38)
      (.seq (.reg [⟨some 11, .mv (.cst .nil), none⟩])
      (.seq (.reg [⟨some 12, .mv (.cst (.str [])), none⟩])
      (.seq (.reg [⟨some 40, .load true 6 (.tmp 5), none⟩,
        ⟨some 41, .fadr 3 (.tmp 8), none⟩,
        ⟨some 42, .load false 1 (.tmp 41), none⟩,
        ⟨some 43, .call 11 [(.tmp 40), (.tmp 42)], none⟩,
        ⟨some 39, .mv (.tmp 43), none⟩,
        ⟨some 44, .ext (.tmp 39) 0, none⟩,
        ⟨some 45, .ext (.tmp 39) 1, none⟩,
        ⟨none, .store 6 (.tmp 9) (.tmp 44), none⟩,
        ⟨some 11, .mv (.tmp 45), none⟩])
      (.seq (.reg [⟨some 47, .load true 5 (.tmp 6), none⟩,
        ⟨some 48, .fadr 3 (.tmp 8), none⟩,
        ⟨some 49, .load false 1 (.tmp 48), none⟩,
        ⟨some 50, .call 16 [(.tmp 47), (.tmp 49)], none⟩,
        ⟨some 46, .mv (.tmp 50), none⟩,
        ⟨some 51, .ext (.tmp 46) 0, none⟩,
        ⟨some 52, .ext (.tmp 46) 1, none⟩,
        ⟨none, .store 5 (.tmp 10) (.tmp 51), none⟩,
        ⟨some 12, .mv (.tmp 52), none⟩])
      (.seq (.reg [⟨some 53, .mv (.tmp 11), none⟩,
        ⟨some 54, .b2s (.tmp 53), none⟩,
        ⟨some 55, .mv (.tmp 12), none⟩,
        ⟨some 56, .binT .neq (.tmp 54) (.tmp 55), none⟩])
      (.cond (.tmp 56)
        (.seq (.reg [⟨some 4, .mv (.cst (.bool false)), none⟩])
        .ret)
        .skip))))))
      (.seq (.reg [⟨some 57, .fadr 0 (.tmp 5), none⟩,
        ⟨some 58, .load false 1 (.tmp 57), none⟩,
        ⟨some 59, .fadr 0 (.tmp 8), none⟩,
        ⟨some 60, .load false 1 (.tmp 59), none⟩,
        ⟨some 61, .conv .u32 (.tmp 60), none⟩,
        ⟨some 62, .bin .add (.tmp 58) (.tmp 61), none⟩,
        ⟨some 13, .mv (.tmp 62), none⟩])
      (.seq (.reg [⟨some 63, .bsl 1 [], none⟩,
        ⟨some 64, .fadr 1 (.tmp 8), none⟩,
        ⟨some 65, .load false 1 (.tmp 64), none⟩,
        ⟨some 66, .app 1 1 (.tmp 63) (.tmp 65), none⟩,
        ⟨some 14, .mv (.tmp 66), none⟩])
      (.seq (.reg [⟨some 67, .load true 6 (.tmp 5), none⟩,
        ⟨some 68, .mv (.tmp 13), none⟩,
        ⟨some 69, .mv (.tmp 14), none⟩,
        ⟨some 70, .fadr 2 (.tmp 8), none⟩,
        ⟨some 71, .load false 1 (.tmp 70), none⟩,
        ⟨some 72, .call 12 [(.tmp 67), (.tmp 68), (.tmp 69), (.tmp 71)], none⟩,
        ⟨none, .store 6 (.tmp 9) (.tmp 72), none⟩])
      (.seq (.reg [⟨some 73, .load true 5 (.tmp 6), none⟩,
        ⟨some 74, .mv (.tmp 13), none⟩,
        ⟨some 75, .fadr 1 (.tmp 8), none⟩,
        ⟨some 76, .load false 1 (.tmp 75), none⟩,
        ⟨some 77, .b2s (.tmp 76), none⟩,
        ⟨some 78, .fadr 2 (.tmp 8), none⟩,
        ⟨some 79, .load false 1 (.tmp 78), none⟩,
        ⟨some 80, .call 17 [(.tmp 73), (.tmp 74), (.tmp 77), (.tmp 79)], none⟩,
        ⟨none, .store 5 (.tmp 10) (.tmp 80), none⟩])
      (.seq (.reg [⟨some 81, .mv (.tmp 14), none⟩,
        ⟨some 82, .lenV (.tmp 81), none⟩,
        ⟨some 83, .mv (.cst (.int .i64 0)), none⟩])
      (.block 2 (.loop
        (.seq (.reg [⟨some 84, .bin .lss (.tmp 83) (.tmp 82), none⟩])
        (.seq (.cond (.tmp 84)
          .skip
          (.exit 2))
        (.seq (.block 3 (.seq (.reg [⟨some 85, .mv (.tmp 83), none⟩,
          ⟨some 15, .mv (.tmp 85), none⟩])
        (.reg [⟨some 86, .mv (.tmp 14), none⟩,
          ⟨some 87, .mv (.tmp 15), none⟩,
          ⟨some 88, .iadS 1 (.tmp 86) (.tmp 87), none⟩,
          ⟨some 89, .load false 1 (.tmp 88), none⟩,
          ⟨some 90, .bin .add (.tmp 89) (.cst (.int .u8 1)), none⟩,
          ⟨some 91, .iadS 1 (.tmp 86) (.tmp 87), none⟩,
          ⟨none, .store 1 (.tmp 91) (.tmp 90), none⟩])))
        (.reg [⟨some 92, .bin .add (.tmp 83) (.cst (.int .i64 1)), none⟩,
          ⟨some 83, .mv (.tmp 92), none⟩])))))))))))))
    (.seq (.seq (.reg [⟨some 93, .load true 5 (.tmp 6), none⟩,
      ⟨some 94, .load true 6 (.tmp 5), none⟩,
      ⟨some 95, .call 18 [(.tmp 93), (.tmp 94)], none⟩,
      ⟨some 96, .not (.tmp 95), none⟩,
      ⟨some 97, .mv (.tmp 96), none⟩,
      ⟨some 98, .load true 5 (.tmp 10), some (97, false)⟩,
      ⟨some 99, .load true 6 (.tmp 9), some (97, false)⟩,
      ⟨some 100, .call 18 [(.tmp 98), (.tmp 99)], some (97, false)⟩,
      ⟨some 101, .not (.tmp 100), some (97, false)⟩,
      ⟨some 102, .pick (.tmp 97) (.cst (.bool true)) (.tmp 101), none⟩,
      ⟨some 103, .mv (.tmp 102), none⟩,
      ⟨some 104, .load true 6 (.tmp 9), some (103, false)⟩,
      ⟨some 105, .call 19 [(.tmp 104)], some (103, false)⟩,
      ⟨some 106, .not (.tmp 105), some (103, false)⟩,
      ⟨some 107, .pick (.tmp 103) (.cst (.bool true)) (.tmp 106), none⟩,
      ⟨some 108, .mv (.tmp 107), none⟩,
      ⟨some 109, .load true 6 (.tmp 9), some (108, false)⟩,
      ⟨some 110, .call 13 [(.tmp 109)], some (108, false)⟩,
      ⟨some 111, .load true 5 (.tmp 10), some (108, false)⟩,
      ⟨some 112, .call 20 [(.tmp 111)], some (108, false)⟩,
      ⟨some 113, .bin .neq (.tmp 110) (.tmp 112), some (108, false)⟩,
      ⟨some 114, .pick (.tmp 108) (.cst (.bool true)) (.tmp 113), none⟩,
      ⟨some 115, .mv (.tmp 114), none⟩,
      ⟨some 116, .load true 6 (.tmp 9), some (115, false)⟩,
      ⟨some 117, .call 14 [(.tmp 116)], some (115, false)⟩,
      ⟨some 118, .fadr 4 (.tmp 10), some (115, false)⟩,
      ⟨some 119, .load false 1 (.tmp 118), some (115, false)⟩,
      ⟨some 120, .mv (.tmp 119), some (115, false)⟩,
      ⟨some 121, .fadr 1 (.tmp 10), some (120, true)⟩,
      ⟨some 122, .load false 1 (.tmp 121), some (120, true)⟩,
      ⟨some 123, .binT .eql (.tmp 122) (.cst (.str [])), some (120, true)⟩,
      ⟨some 124, .pick (.tmp 120) (.tmp 123) (.cst (.bool false)), some (115, false)⟩,
      ⟨some 125, .binB true (.tmp 117) (.tmp 124), some (115, false)⟩,
      ⟨some 126, .pick (.tmp 115) (.cst (.bool true)) (.tmp 125), none⟩])
    (.cond (.tmp 126)
      (.seq (.reg [⟨some 4, .mv (.cst (.bool false)), none⟩])
      .ret)
      .skip))
    (.drw [⟨some 127, .load true 6 (.tmp 9), none⟩,
      ⟨some 128, .load true 5 (.tmp 10), none⟩,
      ⟨none, .store 6 (.tmp 5) (.tmp 127), none⟩,
      ⟨none, .store 5 (.tmp 6) (.tmp 128), none⟩] [[], [], [1], []]))))))
    (.reg [⟨some 129, .bin .add (.tmp 30) (.cst (.int .i64 1)), none⟩,
      ⟨some 30, .mv (.tmp 129), none⟩])))))))
  (.seq (.reg [⟨some 130, .load true 5 (.tmp 6), none⟩,
    ⟨some 131, .load true 6 (.tmp 5), none⟩,
    ⟨some 132, .call 21 [(.tmp 131)], none⟩,
    ⟨some 133, .call 18 [(.tmp 130), (.tmp 132)], none⟩,
    ⟨some 4, .mv (.tmp 133), none⟩])
  .ret)))))
theorem p_caravellaw17_RecvqPlays : Try.f7.body.bind (compC Try.prog 134) = some c_caravellaw17_RecvqPlays := by kernel_rfl
theorem r_caravellaw17_RecvqPlays : tellR Try.prog Try.f7.results.toList = some [.t 4] := by kernel_rfl

/-- caravel/caravellaw17.lives: 0 in. -/
def c_caravellaw17_lives : ACode :=
  (.seq (.reg [⟨some 0, .mv (.cst (.bool false)), none⟩])
  (.seq (.reg [⟨some 3, .call 10 [(.cst (.int .u32 100))], none⟩,
    ⟨some 4, .bsl 1 [(.cst (.int .u8 99)), (.cst (.int .u8 100))], none⟩,
    ⟨some 5, .mvL (.tmp 4), none⟩,
    ⟨some 6, .call 12 [(.tmp 3), (.cst (.int .u32 102)), (.tmp 5), (.cst (.bool false))], none⟩,
    ⟨some 1, .newb [(.int .u32 0), .nil, .nil, (.bool false), (.int .u32 0), (.bool false)], none⟩,
    ⟨none, .store 6 (.tmp 1) (.tmp 6), none⟩])
  (.seq (.reg [⟨some 7, .load true 6 (.tmp 1), none⟩,
    ⟨some 8, .bsl 1 [(.cst (.int .u8 97)), (.cst (.int .u8 98)), (.cst (.int .u8 88))], none⟩,
    ⟨some 9, .mvL (.tmp 8), none⟩,
    ⟨some 10, .call 12 [(.tmp 7), (.cst (.int .u32 100)), (.tmp 9), (.cst (.bool false))], none⟩,
    ⟨none, .store 6 (.tmp 1) (.tmp 10), none⟩])
  (.seq (.reg [⟨some 11, .load true 6 (.tmp 1), none⟩,
    ⟨some 12, .call 12 [(.tmp 11), (.cst (.int .u32 104)), (.cst .nil), (.cst (.bool true))], none⟩,
    ⟨some 2, .newb [(.int .u32 0), .nil, .nil, (.bool false), (.int .u32 0), (.bool false)], none⟩,
    ⟨none, .store 6 (.tmp 2) (.tmp 12), none⟩])
  (.seq (.reg [⟨some 13, .fadr 1 (.tmp 1), none⟩,
    ⟨some 14, .load false 1 (.tmp 13), none⟩,
    ⟨some 15, .b2s (.tmp 14), none⟩,
    ⟨some 16, .binT .eql (.tmp 15) (.cst (.str [97, 98, 99, 100])), none⟩,
    ⟨some 17, .mv (.tmp 16), none⟩,
    ⟨some 18, .fadr 0 (.tmp 1), some (17, true)⟩,
    ⟨some 19, .load false 1 (.tmp 18), some (17, true)⟩,
    ⟨some 20, .bin .eql (.tmp 19) (.cst (.int .u32 104)), some (17, true)⟩,
    ⟨some 21, .pick (.tmp 17) (.tmp 20) (.cst (.bool false)), none⟩,
    ⟨some 22, .mv (.tmp 21), none⟩,
    ⟨some 23, .fadr 5 (.tmp 2), some (22, true)⟩,
    ⟨some 24, .load false 1 (.tmp 23), some (22, true)⟩,
    ⟨some 25, .pick (.tmp 22) (.tmp 24) (.cst (.bool false)), none⟩,
    ⟨some 26, .mv (.tmp 25), none⟩,
    ⟨some 27, .fadr 0 (.tmp 2), some (26, true)⟩,
    ⟨some 28, .load false 1 (.tmp 27), some (26, true)⟩,
    ⟨some 29, .bin .eql (.tmp 28) (.cst (.int .u32 105)), some (26, true)⟩,
    ⟨some 30, .pick (.tmp 26) (.tmp 29) (.cst (.bool false)), none⟩,
    ⟨some 31, .mv (.tmp 30), none⟩,
    ⟨some 32, .load true 6 (.tmp 1), some (31, true)⟩,
    ⟨some 33, .call 13 [(.tmp 32)], some (31, true)⟩,
    ⟨some 34, .bin .eql (.tmp 33) (.cst (.int .i64 252)), some (31, true)⟩,
    ⟨some 35, .pick (.tmp 31) (.tmp 34) (.cst (.bool false)), none⟩,
    ⟨some 0, .mv (.tmp 35), none⟩])
  .ret)))))
theorem p_caravellaw17_lives : Try.f8.body.bind (compC Try.prog 36) = some c_caravellaw17_lives := by kernel_rfl
theorem r_caravellaw17_lives : tellR Try.prog Try.f8.results.toList = some [.t 0] := by kernel_rfl

/-- caravel/caravellaw17.fits: 1 in. -/
def c_caravellaw17_fits : ACode :=
  (.seq (.reg [⟨some 2, .mv (.cst (.bool false)), none⟩])
  (.seq (.seq (.reg [⟨some 5, .mv (.tmp 0), none⟩,
    ⟨some 6, .lenV (.tmp 5), none⟩,
    ⟨some 7, .mv (.cst (.int .i64 0)), none⟩])
  (.block 0 (.loop
    (.seq (.reg [⟨some 8, .bin .lss (.tmp 7) (.tmp 6), none⟩])
    (.seq (.cond (.tmp 8)
      .skip
      (.exit 0))
    (.seq (.block 1 (.seq (.reg [⟨some 9, .iadS 4 (.tmp 5) (.tmp 7), none⟩,
      ⟨some 10, .load true 4 (.tmp 9), none⟩,
      ⟨some 4, .newb [(.int .i64 0), .nil, (.bool false), (.int .i64 0)], none⟩,
      ⟨none, .store 4 (.tmp 4) (.tmp 10), none⟩])
    (.seq (.reg [⟨some 11, .fadr 1 (.tmp 4), none⟩,
      ⟨some 12, .load false 1 (.tmp 11), none⟩,
      ⟨some 13, .lenV (.tmp 12), none⟩,
      ⟨some 14, .bin .gtr (.tmp 13) (.cst (.int .i64 400)), none⟩])
    (.cond (.tmp 14)
      (.seq (.reg [⟨some 2, .mv (.cst (.bool false)), none⟩])
      .ret)
      .skip))))
    (.reg [⟨some 15, .bin .add (.tmp 7) (.cst (.int .i64 1)), none⟩,
      ⟨some 7, .mv (.tmp 15), none⟩])))))))
  (.seq (.reg [⟨some 16, .mv (.tmp 0), none⟩,
    ⟨some 17, .lenV (.tmp 16), none⟩,
    ⟨some 18, .bin .leq (.tmp 17) (.cst (.int .i64 60)), none⟩,
    ⟨some 2, .mv (.tmp 18), none⟩])
  .ret)))
theorem p_caravellaw17_fits : Try.f9.body.bind (compC Try.prog 19) = some c_caravellaw17_fits := by kernel_rfl
theorem r_caravellaw17_fits : tellR Try.prog Try.f9.results.toList = some [.t 2] := by kernel_rfl

/-- caravel/recvq.New: 1 in. -/
def c_recvq_New : ACode :=
  (.seq (.reg [⟨some 2, .newb [(.int .u32 0), .nil, .nil, (.bool false), (.int .u32 0), (.bool false)], none⟩])
  (.seq (.reg [⟨some 3, .mv (.tmp 0), none⟩,
    ⟨some 4, .build [(.int .u32 0), .nil, .nil, (.bool false), (.int .u32 0), (.bool false)] [(0, 1, (.tmp 3))], none⟩,
    ⟨none, .store 6 (.tmp 2) (.tmp 4), none⟩])
  .ret))
theorem p_recvq_New : Try.f10.body.bind (compC Try.prog 5) = some c_recvq_New := by kernel_rfl
theorem r_recvq_New : tellR Try.prog Try.f10.results.toList = some [.c 2 true 6] := by kernel_rfl

/-- caravel/recvq.Read: 2 in. -/
def c_recvq_Read : ACode :=
  (.seq (.reg [⟨some 2, .box (.tmp 0), none⟩,
    ⟨some 4, .newb [(.int .u32 0), .nil, .nil, (.bool false), (.int .u32 0), (.bool false)], none⟩,
    ⟨some 5, .mv (.cst .nil), none⟩])
  (.seq (.reg [⟨some 8, .load true 6 (.tmp 2), none⟩,
    ⟨some 9, .call 21 [(.tmp 8)], none⟩,
    ⟨some 6, .newb [(.int .u32 0), .nil, .nil, (.bool false), (.int .u32 0), (.bool false)], none⟩,
    ⟨none, .store 6 (.tmp 6) (.tmp 9), none⟩])
  (.seq (.reg [⟨some 10, .mv (.tmp 1), none⟩,
    ⟨some 11, .fadr 1 (.tmp 2), none⟩,
    ⟨some 12, .load false 1 (.tmp 11), none⟩,
    ⟨some 13, .lenV (.tmp 12), none⟩,
    ⟨some 14, .min [(.tmp 10), (.tmp 13)], none⟩,
    ⟨some 15, .max [(.cst (.int .i64 0)), (.tmp 14)], none⟩,
    ⟨some 7, .mv (.tmp 15), none⟩])
  (.seq (.reg [⟨some 16, .fadr 1 (.tmp 6), none⟩,
    ⟨some 17, .load false 1 (.tmp 16), none⟩,
    ⟨some 18, .mv (.tmp 7), none⟩,
    ⟨some 19, .slS 1 (.tmp 17) (some (.tmp 18)) none none, none⟩,
    ⟨some 20, .fadr 1 (.tmp 6), none⟩,
    ⟨none, .store 1 (.tmp 20) (.tmp 19), none⟩])
  (.seq (.reg [⟨some 21, .load true 6 (.tmp 6), none⟩,
    ⟨some 22, .fadr 1 (.tmp 2), none⟩,
    ⟨some 23, .load false 1 (.tmp 22), none⟩,
    ⟨some 24, .mv (.tmp 7), none⟩,
    ⟨some 25, .slS 1 (.tmp 23) none (some (.tmp 24)) none, none⟩,
    ⟨some 26, .call 22 [(.tmp 25)], none⟩,
    ⟨none, .store 6 (.tmp 4) (.tmp 21), none⟩,
    ⟨some 5, .mv (.tmp 26), none⟩])
  .ret)))))
theorem p_recvq_Read : Try.f11.body.bind (compC Try.prog 27) = some c_recvq_Read := by kernel_rfl
theorem r_recvq_Read : tellR Try.prog Try.f11.results.toList = some [.c 4 true 6, .t 5] := by kernel_rfl

/-- caravel/recvq.Accept: 4 in. -/
def c_recvq_Accept : ACode :=
  (.seq (.reg [⟨some 4, .box (.tmp 0), none⟩,
    ⟨some 8, .newb [(.int .u32 0), .nil, .nil, (.bool false), (.int .u32 0), (.bool false)], none⟩])
  (.seq (.reg [⟨some 13, .load true 6 (.tmp 4), none⟩,
    ⟨some 14, .call 21 [(.tmp 13)], none⟩,
    ⟨some 9, .newb [(.int .u32 0), .nil, .nil, (.bool false), (.int .u32 0), (.bool false)], none⟩,
    ⟨none, .store 6 (.tmp 9) (.tmp 14), none⟩])
  (.seq (.seq (.reg [⟨some 15, .fadr 5 (.tmp 4), none⟩,
    ⟨some 16, .load false 1 (.tmp 15), none⟩])
  (.cond (.tmp 16)
    (.seq (.reg [⟨some 17, .load true 6 (.tmp 9), none⟩,
      ⟨none, .store 6 (.tmp 8) (.tmp 17), none⟩])
    .ret)
    .skip))
  (.seq (.seq (.reg [⟨some 18, .mv (.tmp 3), none⟩,
    ⟨some 19, .mv (.tmp 18), none⟩,
    ⟨some 20, .fadr 3 (.tmp 4), some (19, true)⟩,
    ⟨some 21, .load false 1 (.tmp 20), some (19, true)⟩,
    ⟨some 22, .not (.tmp 21), some (19, true)⟩,
    ⟨some 23, .pick (.tmp 19) (.tmp 22) (.cst (.bool false)), none⟩,
    ⟨some 24, .mv (.tmp 23), none⟩,
    ⟨some 25, .mv (.tmp 1), some (24, true)⟩,
    ⟨some 26, .mv (.tmp 2), some (24, true)⟩,
    ⟨some 27, .lenV (.tmp 26), some (24, true)⟩,
    ⟨some 28, .call 24 [(.tmp 25), (.tmp 27)], some (24, true)⟩,
    ⟨some 29, .fadr 0 (.tmp 4), some (24, true)⟩,
    ⟨some 30, .load false 1 (.tmp 29), some (24, true)⟩,
    ⟨some 31, .call 23 [(.tmp 28), (.tmp 30)], some (24, true)⟩,
    ⟨some 32, .bin .geq (.tmp 31) (.cst (.int .i64 0)), some (24, true)⟩,
    ⟨some 33, .pick (.tmp 24) (.tmp 32) (.cst (.bool false)), none⟩,
    ⟨some 34, .mv (.tmp 33), none⟩,
    ⟨some 35, .mv (.tmp 1), some (34, true)⟩,
    ⟨some 36, .mv (.tmp 2), some (34, true)⟩,
    ⟨some 37, .lenV (.tmp 36), some (34, true)⟩,
    ⟨some 38, .call 24 [(.tmp 35), (.tmp 37)], some (34, true)⟩,
    ⟨some 39, .fadr 0 (.tmp 4), some (34, true)⟩,
    ⟨some 40, .load false 1 (.tmp 39), some (34, true)⟩,
    ⟨some 41, .call 23 [(.tmp 38), (.tmp 40)], some (34, true)⟩,
    ⟨some 42, .load true 6 (.tmp 4), some (34, true)⟩,
    ⟨some 43, .call 13 [(.tmp 42)], some (34, true)⟩,
    ⟨some 44, .bin .leq (.tmp 41) (.tmp 43), some (34, true)⟩,
    ⟨some 45, .pick (.tmp 34) (.tmp 44) (.cst (.bool false)), none⟩,
    ⟨some 46, .mv (.tmp 45), none⟩,
    ⟨some 47, .load true 6 (.tmp 4), some (46, true)⟩,
    ⟨some 48, .mv (.tmp 1), some (46, true)⟩,
    ⟨some 49, .mv (.tmp 2), some (46, true)⟩,
    ⟨some 50, .lenV (.tmp 49), some (46, true)⟩,
    ⟨some 51, .call 24 [(.tmp 48), (.tmp 50)], some (46, true)⟩,
    ⟨some 52, .call 25 [(.tmp 47), (.tmp 51)], some (46, true)⟩,
    ⟨some 53, .not (.tmp 52), some (46, true)⟩,
    ⟨some 54, .pick (.tmp 46) (.tmp 53) (.cst (.bool false)), none⟩])
  (.cond (.tmp 54)
    (.reg [⟨some 55, .mv (.tmp 1), none⟩,
      ⟨some 56, .mv (.tmp 2), none⟩,
      ⟨some 57, .lenV (.tmp 56), none⟩,
      ⟨some 58, .call 24 [(.tmp 55), (.tmp 57)], none⟩,
      ⟨some 59, .fadr 3 (.tmp 9), none⟩,
      ⟨none, .store 1 (.tmp 59) (.cst (.bool true)), none⟩,
      ⟨some 60, .fadr 4 (.tmp 9), none⟩,
      ⟨none, .store 1 (.tmp 60) (.tmp 58), none⟩])
    .skip))
  (.seq (.reg [⟨some 61, .mv (.tmp 1), none⟩,
    ⟨some 62, .fadr 0 (.tmp 4), none⟩,
    ⟨some 63, .load false 1 (.tmp 62), none⟩,
    ⟨some 64, .call 23 [(.tmp 61), (.tmp 63)], none⟩,
    ⟨some 65, .max [(.tmp 64), (.cst (.int .i64 0))], none⟩,
    ⟨some 66, .mv (.tmp 1), none⟩,
    ⟨some 67, .fadr 0 (.tmp 4), none⟩,
    ⟨some 68, .load false 1 (.tmp 67), none⟩,
    ⟨some 69, .call 23 [(.tmp 66), (.tmp 68)], none⟩,
    ⟨some 70, .mv (.tmp 2), none⟩,
    ⟨some 71, .lenV (.tmp 70), none⟩,
    ⟨some 72, .bin .add (.tmp 69) (.tmp 71), none⟩,
    ⟨some 73, .load true 6 (.tmp 4), none⟩,
    ⟨some 74, .call 13 [(.tmp 73)], none⟩,
    ⟨some 75, .min [(.tmp 72), (.tmp 74)], none⟩,
    ⟨some 10, .mv (.tmp 65), none⟩,
    ⟨some 11, .mv (.tmp 75), none⟩])
  (.seq (.seq (.reg [⟨some 76, .fadr 3 (.tmp 9), none⟩,
    ⟨some 77, .load false 1 (.tmp 76), none⟩])
  (.cond (.tmp 77)
    (.reg [⟨some 78, .mv (.tmp 11), none⟩,
      ⟨some 79, .fadr 4 (.tmp 9), none⟩,
      ⟨some 80, .load false 1 (.tmp 79), none⟩,
      ⟨some 81, .fadr 0 (.tmp 4), none⟩,
      ⟨some 82, .load false 1 (.tmp 81), none⟩,
      ⟨some 83, .call 23 [(.tmp 80), (.tmp 82)], none⟩,
      ⟨some 84, .min [(.tmp 78), (.tmp 83)], none⟩,
      ⟨some 11, .mv (.tmp 84), none⟩])
    .skip))
  (.seq (.seq (.reg [⟨some 85, .mv (.tmp 10), none⟩,
    ⟨some 86, .mv (.tmp 11), none⟩,
    ⟨some 87, .bin .lss (.tmp 85) (.tmp 86), none⟩])
  (.cond (.tmp 87)
    (.seq (.reg [⟨some 88, .mv (.tmp 10), none⟩,
      ⟨some 89, .mv (.tmp 1), none⟩,
      ⟨some 90, .fadr 0 (.tmp 4), none⟩,
      ⟨some 91, .load false 1 (.tmp 90), none⟩,
      ⟨some 92, .call 23 [(.tmp 89), (.tmp 91)], none⟩,
      ⟨some 93, .bin .sub (.tmp 88) (.tmp 92), none⟩,
      ⟨some 12, .mv (.tmp 93), none⟩])
    (.reg [⟨some 94, .load true 6 (.tmp 9), none⟩,
      ⟨some 95, .fadr 0 (.tmp 4), none⟩,
      ⟨some 96, .load false 1 (.tmp 95), none⟩,
      ⟨some 97, .mv (.tmp 10), none⟩,
      ⟨some 98, .call 24 [(.tmp 96), (.tmp 97)], none⟩,
      ⟨some 99, .mv (.tmp 2), none⟩,
      ⟨some 100, .mv (.tmp 12), none⟩,
      ⟨some 101, .mv (.tmp 12), none⟩,
      ⟨some 102, .mv (.tmp 11), none⟩,
      ⟨some 103, .bin .add (.tmp 101) (.tmp 102), none⟩,
      ⟨some 104, .mv (.tmp 10), none⟩,
      ⟨some 105, .bin .sub (.tmp 103) (.tmp 104), none⟩,
      ⟨some 106, .slS 1 (.tmp 99) (some (.tmp 100)) (some (.tmp 105)) none, none⟩,
      ⟨some 107, .call 22 [(.tmp 106)], none⟩,
      ⟨some 108, .build [(.int .u32 0), .nil] [(0, 1, (.tmp 98)), (1, 1, (.tmp 107))], none⟩,
      ⟨some 109, .call 26 [(.tmp 94), (.tmp 108)], none⟩,
      ⟨none, .store 6 (.tmp 9) (.tmp 109), none⟩]))
    .skip))
  (.seq (.seq (.reg [⟨some 110, .fadr 3 (.tmp 9), none⟩,
    ⟨some 111, .load false 1 (.tmp 110), none⟩,
    ⟨some 112, .mv (.tmp 111), none⟩,
    ⟨some 113, .fadr 4 (.tmp 9), some (112, true)⟩,
    ⟨some 114, .load false 1 (.tmp 113), some (112, true)⟩,
    ⟨some 115, .fadr 0 (.tmp 9), some (112, true)⟩,
    ⟨some 116, .load false 1 (.tmp 115), some (112, true)⟩,
    ⟨some 117, .bin .eql (.tmp 114) (.tmp 116), some (112, true)⟩,
    ⟨some 118, .pick (.tmp 112) (.tmp 117) (.cst (.bool false)), none⟩])
  (.cond (.tmp 118)
    (.seq (.reg [⟨some 119, .fadr 5 (.tmp 9), none⟩,
      ⟨none, .store 1 (.tmp 119) (.cst (.bool true)), none⟩])
    (.reg [⟨some 120, .fadr 0 (.tmp 9), none⟩,
      ⟨some 121, .load false 1 (.tmp 120), none⟩,
      ⟨some 122, .call 24 [(.tmp 121), (.cst (.int .i64 1))], none⟩,
      ⟨some 123, .fadr 0 (.tmp 9), none⟩,
      ⟨none, .store 1 (.tmp 123) (.tmp 122), none⟩]))
    .skip))
  (.seq (.reg [⟨some 124, .load true 6 (.tmp 9), none⟩,
    ⟨none, .store 6 (.tmp 8) (.tmp 124), none⟩])
  .ret)))))))))
theorem p_recvq_Accept : Try.f12.body.bind (compC Try.prog 125) = some c_recvq_Accept := by kernel_rfl
theorem r_recvq_Accept : tellR Try.prog Try.f12.results.toList = some [.c 8 true 6] := by kernel_rfl

/-- caravel/recvq.Window: 1 in. -/
def c_recvq_Window : ACode :=
  (.seq (.reg [⟨some 1, .box (.tmp 0), none⟩,
    ⟨some 2, .mv (.cst (.int .i64 0)), none⟩])
  (.seq (.reg [⟨some 3, .fadr 1 (.tmp 1), none⟩,
    ⟨some 4, .load false 1 (.tmp 3), none⟩,
    ⟨some 5, .lenV (.tmp 4), none⟩,
    ⟨some 6, .bin .sub (.cst (.int .i64 256)) (.tmp 5), none⟩,
    ⟨some 2, .mv (.tmp 6), none⟩])
  .ret))
theorem p_recvq_Window : Try.f13.body.bind (compC Try.prog 7) = some c_recvq_Window := by kernel_rfl
theorem r_recvq_Window : tellR Try.prog Try.f13.results.toList = some [.t 2] := by kernel_rfl

/-- caravel/recvq.Ended: 1 in. -/
def c_recvq_Ended : ACode :=
  (.seq (.reg [⟨some 1, .box (.tmp 0), none⟩,
    ⟨some 2, .mv (.cst (.bool false)), none⟩])
  (.seq (.reg [⟨some 3, .fadr 5 (.tmp 1), none⟩,
    ⟨some 4, .load false 1 (.tmp 3), none⟩,
    ⟨some 5, .mv (.tmp 4), none⟩,
    ⟨some 6, .fadr 1 (.tmp 1), some (5, true)⟩,
    ⟨some 7, .load false 1 (.tmp 6), some (5, true)⟩,
    ⟨some 8, .lenV (.tmp 7), some (5, true)⟩,
    ⟨some 9, .bin .eql (.tmp 8) (.cst (.int .i64 0)), some (5, true)⟩,
    ⟨some 10, .pick (.tmp 5) (.tmp 9) (.cst (.bool false)), none⟩,
    ⟨some 2, .mv (.tmp 10), none⟩])
  .ret))
theorem p_recvq_Ended : Try.f14.body.bind (compC Try.prog 11) = some c_recvq_Ended := by kernel_rfl
theorem r_recvq_Ended : tellR Try.prog Try.f14.results.toList = some [.t 2] := by kernel_rfl

/-- caravel/caravelref17.New: 1 in. -/
def c_caravelref17_New : ACode :=
  (.seq (.reg [⟨some 2, .newb [(.int .u32 0), (.str []), .nil, (.int .i64 0), (.bool false)], none⟩])
  (.seq (.reg [⟨some 3, .mv (.tmp 0), none⟩,
    ⟨some 4, .call 27 [(.cst (.int .i64 256))], none⟩,
    ⟨some 5, .build [(.int .u32 0), (.str []), .nil, (.int .i64 0), (.bool false)] [(0, 1, (.tmp 3)), (2, 1, (.tmp 4)), (3, 1, (.cst (.int .i64 (-1))))], none⟩,
    ⟨none, .store 5 (.tmp 2) (.tmp 5), none⟩])
  .ret))
theorem p_caravelref17_New : Try.f15.body.bind (compC Try.prog 6) = some c_caravelref17_New := by kernel_rfl
theorem r_caravelref17_New : tellR Try.prog Try.f15.results.toList = some [.c 2 true 5] := by kernel_rfl

/-- caravel/caravelref17.Read: 2 in. -/
def c_caravelref17_Read : ACode :=
  (.seq (.reg [⟨some 2, .box (.tmp 0), none⟩,
    ⟨some 4, .newb [(.int .u32 0), (.str []), .nil, (.int .i64 0), (.bool false)], none⟩,
    ⟨some 5, .mv (.cst (.str [])), none⟩])
  (.seq (.reg [⟨some 8, .mv (.tmp 1), none⟩,
    ⟨some 9, .fadr 1 (.tmp 2), none⟩,
    ⟨some 10, .load false 1 (.tmp 9), none⟩,
    ⟨some 11, .lenT (.tmp 10), none⟩,
    ⟨some 12, .min [(.tmp 8), (.tmp 11)], none⟩,
    ⟨some 13, .max [(.cst (.int .i64 0)), (.tmp 12)], none⟩,
    ⟨some 6, .mv (.tmp 13), none⟩])
  (.seq (.reg [⟨some 14, .fadr 1 (.tmp 2), none⟩,
    ⟨some 15, .load false 1 (.tmp 14), none⟩,
    ⟨some 16, .mv (.tmp 6), none⟩,
    ⟨some 17, .slT (.tmp 15) none (some (.tmp 16)), none⟩,
    ⟨some 7, .mv (.tmp 17), none⟩])
  (.seq (.reg [⟨some 18, .fadr 1 (.tmp 2), none⟩,
    ⟨some 19, .load false 1 (.tmp 18), none⟩,
    ⟨some 20, .mv (.tmp 6), none⟩,
    ⟨some 21, .slT (.tmp 19) (some (.tmp 20)) none, none⟩,
    ⟨some 22, .fadr 1 (.tmp 2), none⟩,
    ⟨none, .store 1 (.tmp 22) (.tmp 21), none⟩])
  (.seq (.reg [⟨some 23, .load true 5 (.tmp 2), none⟩,
    ⟨some 24, .mv (.tmp 7), none⟩,
    ⟨none, .store 5 (.tmp 4) (.tmp 23), none⟩,
    ⟨some 5, .mv (.tmp 24), none⟩])
  .ret)))))
theorem p_caravelref17_Read : Try.f16.body.bind (compC Try.prog 25) = some c_caravelref17_Read := by kernel_rfl
theorem r_caravelref17_Read : tellR Try.prog Try.f16.results.toList = some [.c 4 true 5, .t 5] := by kernel_rfl

/-- caravel/caravelref17.Accept: 4 in. -/
def c_caravelref17_Accept : ACode :=
  (.seq (.reg [⟨some 4, .box (.tmp 0), none⟩,
    ⟨some 8, .newb [(.int .u32 0), (.str []), .nil, (.int .i64 0), (.bool false)], none⟩])
  (.seq (.seq (.reg [⟨some 17, .fadr 4 (.tmp 4), none⟩,
    ⟨some 18, .load false 1 (.tmp 17), none⟩])
  (.cond (.tmp 18)
    (.seq (.reg [⟨some 19, .load true 5 (.tmp 4), none⟩,
      ⟨none, .store 5 (.tmp 8) (.tmp 19), none⟩])
    .ret)
    .skip))
  (.seq (.reg [⟨some 20, .mv (.tmp 1), none⟩,
    ⟨some 21, .fadr 0 (.tmp 4), none⟩,
    ⟨some 22, .load false 1 (.tmp 21), none⟩,
    ⟨some 23, .call 28 [(.tmp 20), (.tmp 22)], none⟩,
    ⟨some 9, .mv (.tmp 23), none⟩])
  (.seq (.reg [⟨some 24, .mv (.tmp 9), none⟩,
    ⟨some 25, .mv (.tmp 2), none⟩,
    ⟨some 26, .lenT (.tmp 25), none⟩,
    ⟨some 27, .bin .add (.tmp 24) (.tmp 26), none⟩,
    ⟨some 10, .mv (.tmp 27), none⟩])
  (.seq (.seq (.reg [⟨some 28, .mv (.tmp 3), none⟩,
    ⟨some 29, .mv (.tmp 28), none⟩,
    ⟨some 30, .fadr 3 (.tmp 4), some (29, true)⟩,
    ⟨some 31, .load false 1 (.tmp 30), some (29, true)⟩,
    ⟨some 32, .bin .lss (.tmp 31) (.cst (.int .i64 0)), some (29, true)⟩,
    ⟨some 33, .pick (.tmp 29) (.tmp 32) (.cst (.bool false)), none⟩,
    ⟨some 34, .mv (.tmp 33), none⟩,
    ⟨some 35, .mv (.tmp 10), some (34, true)⟩,
    ⟨some 36, .bin .geq (.tmp 35) (.cst (.int .i64 0)), some (34, true)⟩,
    ⟨some 37, .pick (.tmp 34) (.tmp 36) (.cst (.bool false)), none⟩,
    ⟨some 38, .mv (.tmp 37), none⟩,
    ⟨some 39, .mv (.tmp 10), some (38, true)⟩,
    ⟨some 40, .load true 5 (.tmp 4), some (38, true)⟩,
    ⟨some 41, .call 20 [(.tmp 40)], some (38, true)⟩,
    ⟨some 42, .bin .leq (.tmp 39) (.tmp 41), some (38, true)⟩,
    ⟨some 43, .pick (.tmp 38) (.tmp 42) (.cst (.bool false)), none⟩])
  (.cond (.tmp 43)
    (.seq (.reg [⟨some 11, .mv (.cst (.bool false)), none⟩])
    (.seq (.seq (.reg [⟨some 44, .mv (.tmp 10), none⟩,
      ⟨some 12, .mv (.tmp 44), none⟩])
    (.block 0 (.loop
      (.seq (.seq (.reg [⟨some 45, .mv (.tmp 12), none⟩,
        ⟨some 46, .fadr 2 (.tmp 4), none⟩,
        ⟨some 47, .load false 1 (.tmp 46), none⟩,
        ⟨some 48, .lenV (.tmp 47), none⟩,
        ⟨some 49, .bin .lss (.tmp 45) (.tmp 48), none⟩])
      (.cond (.tmp 49)
        .skip
        (.exit 0)))
      (.seq (.block 1 (.reg [⟨some 52, .mv (.tmp 11), none⟩,
        ⟨some 53, .mv (.tmp 52), none⟩,
        ⟨some 54, .fadr 2 (.tmp 4), some (53, false)⟩,
        ⟨some 55, .load false 1 (.tmp 54), some (53, false)⟩,
        ⟨some 56, .mv (.tmp 12), some (53, false)⟩,
        ⟨some 57, .iadS 1 (.tmp 55) (.tmp 56), some (53, false)⟩,
        ⟨some 58, .load false 1 (.tmp 57), some (53, false)⟩,
        ⟨some 59, .bin .geq (.tmp 58) (.cst (.int .i64 0)), some (53, false)⟩,
        ⟨some 60, .pick (.tmp 53) (.cst (.bool true)) (.tmp 59), none⟩,
        ⟨some 11, .mv (.tmp 60), none⟩]))
      (.reg [⟨some 50, .mv (.tmp 12), none⟩,
        ⟨some 51, .bin .add (.tmp 50) (.cst (.int .i64 1)), none⟩,
        ⟨some 12, .mv (.tmp 51), none⟩]))))))
    (.seq (.reg [⟨some 61, .mv (.tmp 11), none⟩,
      ⟨some 62, .not (.tmp 61), none⟩])
    (.cond (.tmp 62)
      (.reg [⟨some 63, .mv (.tmp 10), none⟩,
        ⟨some 64, .fadr 3 (.tmp 4), none⟩,
        ⟨none, .store 1 (.tmp 64) (.tmp 63), none⟩])
      .skip))))
    .skip))
  (.seq (.reg [⟨some 13, .mv (.cst .nil), none⟩])
  (.seq (.seq (.reg [⟨some 14, .mv (.cst (.int .i64 0)), none⟩])
  (.block 2 (.loop
    (.seq (.seq (.reg [⟨some 65, .mv (.tmp 14), none⟩,
      ⟨some 66, .fadr 2 (.tmp 4), none⟩,
      ⟨some 67, .load false 1 (.tmp 66), none⟩,
      ⟨some 68, .lenV (.tmp 67), none⟩,
      ⟨some 69, .bin .lss (.tmp 65) (.tmp 68), none⟩])
    (.cond (.tmp 69)
      .skip
      (.exit 2)))
    (.seq (.block 3 (.seq (.reg [⟨some 72, .fadr 2 (.tmp 4), none⟩,
      ⟨some 73, .load false 1 (.tmp 72), none⟩,
      ⟨some 74, .mv (.tmp 14), none⟩,
      ⟨some 75, .iadS 1 (.tmp 73) (.tmp 74), none⟩,
      ⟨some 76, .load false 1 (.tmp 75), none⟩,
      ⟨some 15, .mv (.tmp 76), none⟩])
    (.seq (.seq (.reg [⟨some 77, .mv (.tmp 15), none⟩,
      ⟨some 78, .bin .lss (.tmp 77) (.cst (.int .i64 0)), none⟩,
      ⟨some 79, .mv (.tmp 78), none⟩,
      ⟨some 80, .mv (.tmp 14), some (79, true)⟩,
      ⟨some 81, .mv (.tmp 9), some (79, true)⟩,
      ⟨some 82, .bin .geq (.tmp 80) (.tmp 81), some (79, true)⟩,
      ⟨some 83, .pick (.tmp 79) (.tmp 82) (.cst (.bool false)), none⟩,
      ⟨some 84, .mv (.tmp 83), none⟩,
      ⟨some 85, .mv (.tmp 14), some (84, true)⟩,
      ⟨some 86, .mv (.tmp 10), some (84, true)⟩,
      ⟨some 87, .bin .lss (.tmp 85) (.tmp 86), some (84, true)⟩,
      ⟨some 88, .pick (.tmp 84) (.tmp 87) (.cst (.bool false)), none⟩,
      ⟨some 89, .mv (.tmp 88), none⟩,
      ⟨some 90, .mv (.tmp 14), some (89, true)⟩,
      ⟨some 91, .load true 5 (.tmp 4), some (89, true)⟩,
      ⟨some 92, .call 20 [(.tmp 91)], some (89, true)⟩,
      ⟨some 93, .bin .lss (.tmp 90) (.tmp 92), some (89, true)⟩,
      ⟨some 94, .pick (.tmp 89) (.tmp 93) (.cst (.bool false)), none⟩,
      ⟨some 95, .mv (.tmp 94), none⟩,
      ⟨some 96, .fadr 3 (.tmp 4), some (95, true)⟩,
      ⟨some 97, .load false 1 (.tmp 96), some (95, true)⟩,
      ⟨some 98, .bin .lss (.tmp 97) (.cst (.int .i64 0)), some (95, true)⟩,
      ⟨some 99, .mv (.tmp 98), some (95, true)⟩,
      ⟨some 100, .mv (.tmp 14), some (99, false)⟩,
      ⟨some 101, .fadr 3 (.tmp 4), some (99, false)⟩,
      ⟨some 102, .load false 1 (.tmp 101), some (99, false)⟩,
      ⟨some 103, .bin .lss (.tmp 100) (.tmp 102), some (99, false)⟩,
      ⟨some 104, .pick (.tmp 99) (.cst (.bool true)) (.tmp 103), some (95, true)⟩,
      ⟨some 105, .pick (.tmp 95) (.tmp 104) (.cst (.bool false)), none⟩])
    (.cond (.tmp 105)
      (.reg [⟨some 106, .mv (.tmp 2), none⟩,
        ⟨some 107, .mv (.tmp 14), none⟩,
        ⟨some 108, .mv (.tmp 9), none⟩,
        ⟨some 109, .bin .sub (.tmp 107) (.tmp 108), none⟩,
        ⟨some 110, .idxT (.tmp 106) (.tmp 109), none⟩,
        ⟨some 111, .conv .i64 (.tmp 110), none⟩,
        ⟨some 15, .mv (.tmp 111), none⟩])
      .skip))
    (.reg [⟨some 112, .mv (.tmp 13), none⟩,
      ⟨some 113, .mv (.tmp 15), none⟩,
      ⟨some 114, .bsl 1 [(.tmp 113)], none⟩,
      ⟨some 115, .app 1 8 (.tmp 112) (.tmp 114), none⟩,
      ⟨some 13, .mv (.tmp 115), none⟩]))))
    (.reg [⟨some 70, .mv (.tmp 14), none⟩,
      ⟨some 71, .bin .add (.tmp 70) (.cst (.int .i64 1)), none⟩,
      ⟨some 14, .mv (.tmp 71), none⟩]))))))
  (.seq (.reg [⟨some 116, .mv (.tmp 13), none⟩,
    ⟨some 117, .call 29 [(.tmp 116)], none⟩,
    ⟨some 16, .mv (.tmp 117), none⟩])
  (.seq (.seq (.reg [⟨some 118, .mv (.tmp 16), none⟩,
    ⟨some 119, .binT .neq (.tmp 118) (.cst (.str [])), none⟩,
    ⟨some 120, .mv (.tmp 119), none⟩,
    ⟨some 121, .mv (.tmp 13), some (120, false)⟩,
    ⟨some 122, .call 30 [(.tmp 121)], some (120, false)⟩,
    ⟨some 123, .bin .leq (.tmp 122) (.cst (.int .i64 8)), some (120, false)⟩,
    ⟨some 124, .pick (.tmp 120) (.cst (.bool true)) (.tmp 123), none⟩])
  (.cond (.tmp 124)
    (.seq (.reg [⟨some 125, .mv (.tmp 13), none⟩,
      ⟨some 126, .mv (.tmp 16), none⟩,
      ⟨some 127, .lenT (.tmp 126), none⟩,
      ⟨some 128, .slS 1 (.tmp 125) (some (.tmp 127)) none none, none⟩,
      ⟨some 129, .mv (.tmp 16), none⟩,
      ⟨some 130, .lenT (.tmp 129), none⟩,
      ⟨some 131, .call 27 [(.tmp 130)], none⟩,
      ⟨some 132, .app 1 8 (.tmp 128) (.tmp 131), none⟩,
      ⟨some 13, .mv (.tmp 132), none⟩])
    (.seq (.reg [⟨some 133, .mv (.tmp 13), none⟩,
      ⟨some 134, .fadr 1 (.tmp 4), none⟩,
      ⟨some 135, .load false 1 (.tmp 134), none⟩,
      ⟨some 136, .mv (.tmp 16), none⟩,
      ⟨some 137, .binT .add (.tmp 135) (.tmp 136), none⟩,
      ⟨some 138, .fadr 0 (.tmp 4), none⟩,
      ⟨some 139, .load false 1 (.tmp 138), none⟩,
      ⟨some 140, .mv (.tmp 16), none⟩,
      ⟨some 141, .lenT (.tmp 140), none⟩,
      ⟨some 142, .call 31 [(.tmp 139), (.tmp 141)], none⟩,
      ⟨some 143, .fadr 2 (.tmp 4), none⟩,
      ⟨none, .store 1 (.tmp 143) (.tmp 133), none⟩,
      ⟨some 144, .fadr 1 (.tmp 4), none⟩,
      ⟨none, .store 1 (.tmp 144) (.tmp 137), none⟩,
      ⟨some 145, .fadr 0 (.tmp 4), none⟩,
      ⟨none, .store 1 (.tmp 145) (.tmp 142), none⟩])
    (.seq (.reg [⟨some 146, .fadr 3 (.tmp 4), none⟩,
      ⟨some 147, .load false 1 (.tmp 146), none⟩,
      ⟨some 148, .bin .geq (.tmp 147) (.cst (.int .i64 0)), none⟩])
    (.cond (.tmp 148)
      (.reg [⟨some 149, .fadr 3 (.tmp 4), none⟩,
        ⟨some 150, .load false 1 (.tmp 149), none⟩,
        ⟨some 151, .mv (.tmp 16), none⟩,
        ⟨some 152, .lenT (.tmp 151), none⟩,
        ⟨some 153, .bin .sub (.tmp 150) (.tmp 152), none⟩,
        ⟨some 154, .fadr 3 (.tmp 4), none⟩,
        ⟨none, .store 1 (.tmp 154) (.tmp 153), none⟩])
      .skip))))
    .skip))
  (.seq (.seq (.reg [⟨some 155, .fadr 3 (.tmp 4), none⟩,
    ⟨some 156, .load false 1 (.tmp 155), none⟩,
    ⟨some 157, .bin .eql (.tmp 156) (.cst (.int .i64 0)), none⟩])
  (.cond (.tmp 157)
    (.reg [⟨some 158, .fadr 0 (.tmp 4), none⟩,
      ⟨some 159, .load false 1 (.tmp 158), none⟩,
      ⟨some 160, .call 31 [(.tmp 159), (.cst (.int .i64 1))], none⟩,
      ⟨some 161, .fadr 4 (.tmp 4), none⟩,
      ⟨none, .store 1 (.tmp 161) (.cst (.bool true)), none⟩,
      ⟨some 162, .fadr 0 (.tmp 4), none⟩,
      ⟨none, .store 1 (.tmp 162) (.tmp 160), none⟩])
    .skip))
  (.seq (.reg [⟨some 163, .load true 5 (.tmp 4), none⟩,
    ⟨none, .store 5 (.tmp 8) (.tmp 163), none⟩])
  .ret)))))))))))
theorem p_caravelref17_Accept : Try.f17.body.bind (compC Try.prog 164) = some c_caravelref17_Accept := by kernel_rfl
theorem r_caravelref17_Accept : tellR Try.prog Try.f17.results.toList = some [.c 8 true 5] := by kernel_rfl

/-- caravel/caravelref17.Like: 2 in. -/
def c_caravelref17_Like : ACode :=
  (.seq (.reg [⟨some 2, .box (.tmp 0), none⟩,
    ⟨some 3, .box (.tmp 1), none⟩,
    ⟨some 4, .mv (.cst (.bool false)), none⟩])
  (.seq (.seq (.reg [⟨some 10, .fadr 0 (.tmp 3), none⟩,
    ⟨some 11, .load false 1 (.tmp 10), none⟩,
    ⟨some 12, .fadr 0 (.tmp 2), none⟩,
    ⟨some 13, .load false 1 (.tmp 12), none⟩,
    ⟨some 14, .bin .neq (.tmp 11) (.tmp 13), none⟩,
    ⟨some 15, .mv (.tmp 14), none⟩,
    ⟨some 16, .fadr 1 (.tmp 3), some (15, false)⟩,
    ⟨some 17, .load false 1 (.tmp 16), some (15, false)⟩,
    ⟨some 18, .b2s (.tmp 17), some (15, false)⟩,
    ⟨some 19, .fadr 1 (.tmp 2), some (15, false)⟩,
    ⟨some 20, .load false 1 (.tmp 19), some (15, false)⟩,
    ⟨some 21, .binT .neq (.tmp 18) (.tmp 20), some (15, false)⟩,
    ⟨some 22, .pick (.tmp 15) (.cst (.bool true)) (.tmp 21), none⟩,
    ⟨some 23, .mv (.tmp 22), none⟩,
    ⟨some 24, .fadr 5 (.tmp 3), some (23, false)⟩,
    ⟨some 25, .load false 1 (.tmp 24), some (23, false)⟩,
    ⟨some 26, .fadr 4 (.tmp 2), some (23, false)⟩,
    ⟨some 27, .load false 1 (.tmp 26), some (23, false)⟩,
    ⟨some 28, .binB true (.tmp 25) (.tmp 27), some (23, false)⟩,
    ⟨some 29, .pick (.tmp 23) (.cst (.bool true)) (.tmp 28), none⟩,
    ⟨some 30, .mv (.tmp 29), none⟩,
    ⟨some 31, .fadr 3 (.tmp 3), some (30, false)⟩,
    ⟨some 32, .load false 1 (.tmp 31), some (30, false)⟩,
    ⟨some 33, .fadr 3 (.tmp 2), some (30, false)⟩,
    ⟨some 34, .load false 1 (.tmp 33), some (30, false)⟩,
    ⟨some 35, .bin .geq (.tmp 34) (.cst (.int .i64 0)), some (30, false)⟩,
    ⟨some 36, .binB true (.tmp 32) (.tmp 35), some (30, false)⟩,
    ⟨some 37, .pick (.tmp 30) (.cst (.bool true)) (.tmp 36), none⟩])
  (.cond (.tmp 37)
    (.seq (.reg [⟨some 4, .mv (.cst (.bool false)), none⟩])
    .ret)
    .skip))
  (.seq (.seq (.reg [⟨some 38, .fadr 4 (.tmp 2), none⟩,
    ⟨some 39, .load false 1 (.tmp 38), none⟩,
    ⟨some 40, .mv (.tmp 39), none⟩,
    ⟨some 41, .fadr 4 (.tmp 3), some (40, true)⟩,
    ⟨some 42, .load false 1 (.tmp 41), some (40, true)⟩,
    ⟨some 43, .fadr 0 (.tmp 2), some (40, true)⟩,
    ⟨some 44, .load false 1 (.tmp 43), some (40, true)⟩,
    ⟨some 45, .call 31 [(.tmp 44), (.cst (.int .i64 (-1)))], some (40, true)⟩,
    ⟨some 46, .bin .neq (.tmp 42) (.tmp 45), some (40, true)⟩,
    ⟨some 47, .pick (.tmp 40) (.tmp 46) (.cst (.bool false)), none⟩,
    ⟨some 48, .mv (.tmp 47), none⟩,
    ⟨some 49, .fadr 4 (.tmp 2), some (48, false)⟩,
    ⟨some 50, .load false 1 (.tmp 49), some (48, false)⟩,
    ⟨some 51, .not (.tmp 50), some (48, false)⟩,
    ⟨some 52, .mv (.tmp 51), some (48, false)⟩,
    ⟨some 53, .fadr 3 (.tmp 2), some (52, true)⟩,
    ⟨some 54, .load false 1 (.tmp 53), some (52, true)⟩,
    ⟨some 55, .bin .geq (.tmp 54) (.cst (.int .i64 0)), some (52, true)⟩,
    ⟨some 56, .pick (.tmp 52) (.tmp 55) (.cst (.bool false)), some (48, false)⟩,
    ⟨some 57, .mv (.tmp 56), some (48, false)⟩,
    ⟨some 58, .fadr 4 (.tmp 3), some (57, true)⟩,
    ⟨some 59, .load false 1 (.tmp 58), some (57, true)⟩,
    ⟨some 60, .fadr 0 (.tmp 2), some (57, true)⟩,
    ⟨some 61, .load false 1 (.tmp 60), some (57, true)⟩,
    ⟨some 62, .fadr 3 (.tmp 2), some (57, true)⟩,
    ⟨some 63, .load false 1 (.tmp 62), some (57, true)⟩,
    ⟨some 64, .call 31 [(.tmp 61), (.tmp 63)], some (57, true)⟩,
    ⟨some 65, .bin .neq (.tmp 59) (.tmp 64), some (57, true)⟩,
    ⟨some 66, .pick (.tmp 57) (.tmp 65) (.cst (.bool false)), some (48, false)⟩,
    ⟨some 67, .pick (.tmp 48) (.cst (.bool true)) (.tmp 66), none⟩,
    ⟨some 68, .mv (.tmp 67), none⟩,
    ⟨some 69, .fadr 3 (.tmp 2), some (68, false)⟩,
    ⟨some 70, .load false 1 (.tmp 69), some (68, false)⟩,
    ⟨some 71, .bin .lss (.tmp 70) (.cst (.int .i64 0)), some (68, false)⟩,
    ⟨some 72, .mv (.tmp 71), some (68, false)⟩,
    ⟨some 73, .fadr 4 (.tmp 3), some (72, true)⟩,
    ⟨some 74, .load false 1 (.tmp 73), some (72, true)⟩,
    ⟨some 75, .bin .neq (.tmp 74) (.cst (.int .u32 0)), some (72, true)⟩,
    ⟨some 76, .pick (.tmp 72) (.tmp 75) (.cst (.bool false)), some (68, false)⟩,
    ⟨some 77, .pick (.tmp 68) (.cst (.bool true)) (.tmp 76), none⟩])
  (.cond (.tmp 77)
    (.seq (.reg [⟨some 4, .mv (.cst (.bool false)), none⟩])
    .ret)
    .skip))
  (.seq (.reg [⟨some 78, .fadr 2 (.tmp 2), none⟩,
    ⟨some 79, .load false 1 (.tmp 78), none⟩,
    ⟨some 80, .lenV (.tmp 79), none⟩,
    ⟨some 81, .call 27 [(.tmp 80)], none⟩,
    ⟨some 5, .mv (.tmp 81), none⟩])
  (.seq (.seq (.reg [⟨some 6, .mv (.cst (.int .i64 0)), none⟩])
  (.block 0 (.loop
    (.seq (.seq (.reg [⟨some 82, .mv (.tmp 6), none⟩,
      ⟨some 83, .fadr 2 (.tmp 3), none⟩,
      ⟨some 84, .load false 1 (.tmp 83), none⟩,
      ⟨some 85, .lenV (.tmp 84), none⟩,
      ⟨some 86, .bin .lss (.tmp 82) (.tmp 85), none⟩])
    (.cond (.tmp 86)
      .skip
      (.exit 0)))
    (.seq (.block 1 (.seq (.reg [⟨some 89, .fadr 2 (.tmp 3), none⟩,
      ⟨some 90, .load false 1 (.tmp 89), none⟩,
      ⟨some 91, .mv (.tmp 6), none⟩,
      ⟨some 92, .iadS 2 (.tmp 90) (.tmp 91), none⟩,
      ⟨some 93, .fadr 0 (.tmp 92), none⟩,
      ⟨some 94, .load false 1 (.tmp 93), none⟩,
      ⟨some 95, .fadr 0 (.tmp 2), none⟩,
      ⟨some 96, .load false 1 (.tmp 95), none⟩,
      ⟨some 97, .call 28 [(.tmp 94), (.tmp 96)], none⟩,
      ⟨some 7, .mv (.tmp 97), none⟩])
    (.seq (.reg [⟨some 8, .mv (.cst (.int .i64 0)), none⟩])
    (.block 2 (.loop
      (.seq (.seq (.reg [⟨some 98, .mv (.tmp 8), none⟩,
        ⟨some 99, .fadr 2 (.tmp 3), none⟩,
        ⟨some 100, .load false 1 (.tmp 99), none⟩,
        ⟨some 101, .mv (.tmp 6), none⟩,
        ⟨some 102, .iadS 2 (.tmp 100) (.tmp 101), none⟩,
        ⟨some 103, .fadr 1 (.tmp 102), none⟩,
        ⟨some 104, .load false 1 (.tmp 103), none⟩,
        ⟨some 105, .lenV (.tmp 104), none⟩,
        ⟨some 106, .bin .lss (.tmp 98) (.tmp 105), none⟩])
      (.cond (.tmp 106)
        .skip
        (.exit 2)))
      (.seq (.block 3 (.seq (.seq (.reg [⟨some 109, .mv (.tmp 7), none⟩,
        ⟨some 110, .mv (.tmp 8), none⟩,
        ⟨some 111, .bin .add (.tmp 109) (.tmp 110), none⟩,
        ⟨some 112, .bin .lss (.tmp 111) (.cst (.int .i64 0)), none⟩,
        ⟨some 113, .mv (.tmp 112), none⟩,
        ⟨some 114, .mv (.tmp 7), some (113, false)⟩,
        ⟨some 115, .mv (.tmp 8), some (113, false)⟩,
        ⟨some 116, .bin .add (.tmp 114) (.tmp 115), some (113, false)⟩,
        ⟨some 117, .mv (.tmp 5), some (113, false)⟩,
        ⟨some 118, .lenV (.tmp 117), some (113, false)⟩,
        ⟨some 119, .bin .geq (.tmp 116) (.tmp 118), some (113, false)⟩,
        ⟨some 120, .pick (.tmp 113) (.cst (.bool true)) (.tmp 119), none⟩,
        ⟨some 121, .mv (.tmp 120), none⟩,
        ⟨some 122, .mv (.tmp 5), some (121, false)⟩,
        ⟨some 123, .mv (.tmp 7), some (121, false)⟩,
        ⟨some 124, .mv (.tmp 8), some (121, false)⟩,
        ⟨some 125, .bin .add (.tmp 123) (.tmp 124), some (121, false)⟩,
        ⟨some 126, .iadS 1 (.tmp 122) (.tmp 125), some (121, false)⟩,
        ⟨some 127, .load false 1 (.tmp 126), some (121, false)⟩,
        ⟨some 128, .bin .geq (.tmp 127) (.cst (.int .i64 0)), some (121, false)⟩,
        ⟨some 129, .pick (.tmp 121) (.cst (.bool true)) (.tmp 128), none⟩])
      (.cond (.tmp 129)
        (.seq (.reg [⟨some 4, .mv (.cst (.bool false)), none⟩])
        .ret)
        .skip))
      (.reg [⟨some 130, .mv (.tmp 5), none⟩,
        ⟨some 131, .mv (.tmp 7), none⟩,
        ⟨some 132, .mv (.tmp 8), none⟩,
        ⟨some 133, .bin .add (.tmp 131) (.tmp 132), none⟩,
        ⟨some 134, .fadr 2 (.tmp 3), none⟩,
        ⟨some 135, .load false 1 (.tmp 134), none⟩,
        ⟨some 136, .mv (.tmp 6), none⟩,
        ⟨some 137, .iadS 2 (.tmp 135) (.tmp 136), none⟩,
        ⟨some 138, .fadr 1 (.tmp 137), none⟩,
        ⟨some 139, .load false 1 (.tmp 138), none⟩,
        ⟨some 140, .mv (.tmp 8), none⟩,
        ⟨some 141, .iadS 1 (.tmp 139) (.tmp 140), none⟩,
        ⟨some 142, .load false 1 (.tmp 141), none⟩,
        ⟨some 143, .conv .i64 (.tmp 142), none⟩,
        ⟨some 144, .iadS 1 (.tmp 130) (.tmp 133), none⟩,
        ⟨none, .store 1 (.tmp 144) (.tmp 143), none⟩])))
      (.reg [⟨some 107, .mv (.tmp 8), none⟩,
        ⟨some 108, .bin .add (.tmp 107) (.cst (.int .i64 1)), none⟩,
        ⟨some 8, .mv (.tmp 108), none⟩]))))))))
    (.reg [⟨some 87, .mv (.tmp 6), none⟩,
      ⟨some 88, .bin .add (.tmp 87) (.cst (.int .i64 1)), none⟩,
      ⟨some 6, .mv (.tmp 88), none⟩]))))))
  (.seq (.seq (.reg [⟨some 145, .fadr 2 (.tmp 3), none⟩,
    ⟨some 146, .load false 1 (.tmp 145), none⟩,
    ⟨some 147, .lenV (.tmp 146), none⟩,
    ⟨some 148, .mv (.tmp 5), none⟩,
    ⟨some 149, .call 30 [(.tmp 148)], none⟩,
    ⟨some 150, .bin .neq (.tmp 147) (.tmp 149), none⟩])
  (.cond (.tmp 150)
    (.seq (.reg [⟨some 4, .mv (.cst (.bool false)), none⟩])
    .ret)
    .skip))
  (.seq (.seq (.reg [⟨some 9, .mv (.cst (.int .i64 0)), none⟩])
  (.block 4 (.loop
    (.seq (.seq (.reg [⟨some 151, .mv (.tmp 9), none⟩,
      ⟨some 152, .mv (.tmp 5), none⟩,
      ⟨some 153, .lenV (.tmp 152), none⟩,
      ⟨some 154, .bin .lss (.tmp 151) (.tmp 153), none⟩])
    (.cond (.tmp 154)
      .skip
      (.exit 4)))
    (.seq (.block 5 (.seq (.reg [⟨some 157, .mv (.tmp 5), none⟩,
      ⟨some 158, .mv (.tmp 9), none⟩,
      ⟨some 159, .iadS 1 (.tmp 157) (.tmp 158), none⟩,
      ⟨some 160, .load false 1 (.tmp 159), none⟩,
      ⟨some 161, .fadr 2 (.tmp 2), none⟩,
      ⟨some 162, .load false 1 (.tmp 161), none⟩,
      ⟨some 163, .mv (.tmp 9), none⟩,
      ⟨some 164, .iadS 1 (.tmp 162) (.tmp 163), none⟩,
      ⟨some 165, .load false 1 (.tmp 164), none⟩,
      ⟨some 166, .bin .neq (.tmp 160) (.tmp 165), none⟩])
    (.cond (.tmp 166)
      (.seq (.reg [⟨some 4, .mv (.cst (.bool false)), none⟩])
      .ret)
      .skip)))
    (.reg [⟨some 155, .mv (.tmp 9), none⟩,
      ⟨some 156, .bin .add (.tmp 155) (.cst (.int .i64 1)), none⟩,
      ⟨some 9, .mv (.tmp 156), none⟩]))))))
  (.seq (.reg [⟨some 4, .mv (.cst (.bool true)), none⟩])
  .ret))))))))
theorem p_caravelref17_Like : Try.f18.body.bind (compC Try.prog 167) = some c_caravelref17_Like := by kernel_rfl
theorem r_caravelref17_Like : tellR Try.prog Try.f18.results.toList = some [.t 4] := by kernel_rfl

/-- caravel/recvq.Right: 1 in. -/
def c_recvq_Right : ACode :=
  (.seq (.reg [⟨some 1, .box (.tmp 0), none⟩,
    ⟨some 2, .mv (.cst (.bool false)), none⟩])
  (.seq (.seq (.reg [⟨some 8, .fadr 1 (.tmp 1), none⟩,
    ⟨some 9, .load false 1 (.tmp 8), none⟩,
    ⟨some 10, .lenV (.tmp 9), none⟩,
    ⟨some 11, .bin .gtr (.tmp 10) (.cst (.int .i64 256)), none⟩,
    ⟨some 12, .mv (.tmp 11), none⟩,
    ⟨some 13, .fadr 2 (.tmp 1), some (12, false)⟩,
    ⟨some 14, .load false 1 (.tmp 13), some (12, false)⟩,
    ⟨some 15, .lenV (.tmp 14), some (12, false)⟩,
    ⟨some 16, .bin .gtr (.tmp 15) (.cst (.int .i64 8)), some (12, false)⟩,
    ⟨some 17, .pick (.tmp 12) (.cst (.bool true)) (.tmp 16), none⟩,
    ⟨some 18, .mv (.tmp 17), none⟩,
    ⟨some 19, .fadr 5 (.tmp 1), some (18, false)⟩,
    ⟨some 20, .load false 1 (.tmp 19), some (18, false)⟩,
    ⟨some 21, .mv (.tmp 20), some (18, false)⟩,
    ⟨some 22, .fadr 3 (.tmp 1), some (21, true)⟩,
    ⟨some 23, .load false 1 (.tmp 22), some (21, true)⟩,
    ⟨some 24, .not (.tmp 23), some (21, true)⟩,
    ⟨some 25, .mv (.tmp 24), some (21, true)⟩,
    ⟨some 26, .fadr 2 (.tmp 1), some (25, false)⟩,
    ⟨some 27, .load false 1 (.tmp 26), some (25, false)⟩,
    ⟨some 28, .lenV (.tmp 27), some (25, false)⟩,
    ⟨some 29, .bin .gtr (.tmp 28) (.cst (.int .i64 0)), some (25, false)⟩,
    ⟨some 30, .pick (.tmp 25) (.cst (.bool true)) (.tmp 29), some (21, true)⟩,
    ⟨some 31, .mv (.tmp 30), some (21, true)⟩,
    ⟨some 32, .fadr 0 (.tmp 1), some (31, false)⟩,
    ⟨some 33, .load false 1 (.tmp 32), some (31, false)⟩,
    ⟨some 34, .fadr 4 (.tmp 1), some (31, false)⟩,
    ⟨some 35, .load false 1 (.tmp 34), some (31, false)⟩,
    ⟨some 36, .call 24 [(.tmp 35), (.cst (.int .i64 1))], some (31, false)⟩,
    ⟨some 37, .bin .neq (.tmp 33) (.tmp 36), some (31, false)⟩,
    ⟨some 38, .pick (.tmp 31) (.cst (.bool true)) (.tmp 37), some (21, true)⟩,
    ⟨some 39, .pick (.tmp 21) (.tmp 38) (.cst (.bool false)), some (18, false)⟩,
    ⟨some 40, .pick (.tmp 18) (.cst (.bool true)) (.tmp 39), none⟩,
    ⟨some 41, .mv (.tmp 40), none⟩,
    ⟨some 42, .fadr 3 (.tmp 1), some (41, false)⟩,
    ⟨some 43, .load false 1 (.tmp 42), some (41, false)⟩,
    ⟨some 44, .not (.tmp 43), some (41, false)⟩,
    ⟨some 45, .mv (.tmp 44), some (41, false)⟩,
    ⟨some 46, .fadr 4 (.tmp 1), some (45, true)⟩,
    ⟨some 47, .load false 1 (.tmp 46), some (45, true)⟩,
    ⟨some 48, .bin .neq (.tmp 47) (.cst (.int .u32 0)), some (45, true)⟩,
    ⟨some 49, .pick (.tmp 45) (.tmp 48) (.cst (.bool false)), some (41, false)⟩,
    ⟨some 50, .pick (.tmp 41) (.cst (.bool true)) (.tmp 49), none⟩])
  (.cond (.tmp 50)
    (.seq (.reg [⟨some 2, .mv (.cst (.bool false)), none⟩])
    .ret)
    .skip))
  (.seq (.reg [⟨some 3, .mv (.cst (.int .i64 0)), none⟩])
  (.seq (.seq (.reg [⟨some 51, .fadr 2 (.tmp 1), none⟩,
    ⟨some 52, .load false 1 (.tmp 51), none⟩,
    ⟨some 53, .lenV (.tmp 52), none⟩,
    ⟨some 54, .mv (.cst (.int .i64 0)), none⟩])
  (.block 0 (.loop
    (.seq (.reg [⟨some 55, .bin .lss (.tmp 54) (.tmp 53), none⟩])
    (.seq (.cond (.tmp 55)
      .skip
      (.exit 0))
    (.seq (.block 1 (.seq (.reg [⟨some 56, .iadS 2 (.tmp 52) (.tmp 54), none⟩,
      ⟨some 57, .load true 2 (.tmp 56), none⟩,
      ⟨some 5, .newb [(.int .u32 0), .nil], none⟩,
      ⟨none, .store 2 (.tmp 5) (.tmp 57), none⟩])
    (.seq (.reg [⟨some 58, .fadr 0 (.tmp 5), none⟩,
      ⟨some 59, .load false 1 (.tmp 58), none⟩,
      ⟨some 60, .fadr 0 (.tmp 1), none⟩,
      ⟨some 61, .load false 1 (.tmp 60), none⟩,
      ⟨some 62, .call 23 [(.tmp 59), (.tmp 61)], none⟩,
      ⟨some 6, .mv (.tmp 62), none⟩])
    (.seq (.seq (.reg [⟨some 63, .mv (.tmp 6), none⟩,
      ⟨some 64, .mv (.tmp 3), none⟩,
      ⟨some 65, .bin .leq (.tmp 63) (.tmp 64), none⟩,
      ⟨some 66, .mv (.tmp 65), none⟩,
      ⟨some 67, .fadr 1 (.tmp 5), some (66, false)⟩,
      ⟨some 68, .load false 1 (.tmp 67), some (66, false)⟩,
      ⟨some 69, .lenV (.tmp 68), some (66, false)⟩,
      ⟨some 70, .bin .eql (.tmp 69) (.cst (.int .i64 0)), some (66, false)⟩,
      ⟨some 71, .pick (.tmp 66) (.cst (.bool true)) (.tmp 70), none⟩,
      ⟨some 72, .mv (.tmp 71), none⟩,
      ⟨some 73, .mv (.tmp 6), some (72, false)⟩,
      ⟨some 74, .fadr 1 (.tmp 5), some (72, false)⟩,
      ⟨some 75, .load false 1 (.tmp 74), some (72, false)⟩,
      ⟨some 76, .lenV (.tmp 75), some (72, false)⟩,
      ⟨some 77, .bin .add (.tmp 73) (.tmp 76), some (72, false)⟩,
      ⟨some 78, .load true 6 (.tmp 1), some (72, false)⟩,
      ⟨some 79, .call 13 [(.tmp 78)], some (72, false)⟩,
      ⟨some 80, .bin .gtr (.tmp 77) (.tmp 79), some (72, false)⟩,
      ⟨some 81, .pick (.tmp 72) (.cst (.bool true)) (.tmp 80), none⟩])
    (.cond (.tmp 81)
      (.seq (.reg [⟨some 2, .mv (.cst (.bool false)), none⟩])
      .ret)
      .skip))
    (.reg [⟨some 82, .mv (.tmp 6), none⟩,
      ⟨some 83, .fadr 1 (.tmp 5), none⟩,
      ⟨some 84, .load false 1 (.tmp 83), none⟩,
      ⟨some 85, .lenV (.tmp 84), none⟩,
      ⟨some 86, .bin .add (.tmp 82) (.tmp 85), none⟩,
      ⟨some 3, .mv (.tmp 86), none⟩])))))
    (.reg [⟨some 87, .bin .add (.tmp 54) (.cst (.int .i64 1)), none⟩,
      ⟨some 54, .mv (.tmp 87), none⟩])))))))
  (.seq (.seq (.reg [⟨some 88, .fadr 3 (.tmp 1), none⟩,
    ⟨some 89, .load false 1 (.tmp 88), none⟩,
    ⟨some 90, .not (.tmp 89), none⟩,
    ⟨some 91, .mv (.tmp 90), none⟩,
    ⟨some 92, .fadr 5 (.tmp 1), some (91, false)⟩,
    ⟨some 93, .load false 1 (.tmp 92), some (91, false)⟩,
    ⟨some 94, .pick (.tmp 91) (.cst (.bool true)) (.tmp 93), none⟩])
  (.cond (.tmp 94)
    (.seq (.reg [⟨some 2, .mv (.cst (.bool true)), none⟩])
    .ret)
    .skip))
  (.seq (.reg [⟨some 95, .fadr 4 (.tmp 1), none⟩,
    ⟨some 96, .load false 1 (.tmp 95), none⟩,
    ⟨some 97, .fadr 0 (.tmp 1), none⟩,
    ⟨some 98, .load false 1 (.tmp 97), none⟩,
    ⟨some 99, .call 23 [(.tmp 96), (.tmp 98)], none⟩,
    ⟨some 7, .mv (.tmp 99), none⟩])
  (.seq (.reg [⟨some 100, .mv (.tmp 7), none⟩,
    ⟨some 101, .bin .gtr (.tmp 100) (.cst (.int .i64 0)), none⟩,
    ⟨some 102, .mv (.tmp 101), none⟩,
    ⟨some 103, .mv (.tmp 7), some (102, true)⟩,
    ⟨some 104, .mv (.tmp 3), some (102, true)⟩,
    ⟨some 105, .bin .geq (.tmp 103) (.tmp 104), some (102, true)⟩,
    ⟨some 106, .pick (.tmp 102) (.tmp 105) (.cst (.bool false)), none⟩,
    ⟨some 107, .mv (.tmp 106), none⟩,
    ⟨some 108, .mv (.tmp 7), some (107, true)⟩,
    ⟨some 109, .load true 6 (.tmp 1), some (107, true)⟩,
    ⟨some 110, .call 13 [(.tmp 109)], some (107, true)⟩,
    ⟨some 111, .bin .leq (.tmp 108) (.tmp 110), some (107, true)⟩,
    ⟨some 112, .pick (.tmp 107) (.tmp 111) (.cst (.bool false)), none⟩,
    ⟨some 2, .mv (.tmp 112), none⟩])
  .ret)))))))
theorem p_recvq_Right : Try.f19.body.bind (compC Try.prog 113) = some c_recvq_Right := by kernel_rfl
theorem r_recvq_Right : tellR Try.prog Try.f19.results.toList = some [.t 2] := by kernel_rfl

/-- caravel/caravelref17.Window: 1 in. -/
def c_caravelref17_Window : ACode :=
  (.seq (.reg [⟨some 1, .box (.tmp 0), none⟩,
    ⟨some 2, .mv (.cst (.int .i64 0)), none⟩])
  (.seq (.reg [⟨some 3, .fadr 1 (.tmp 1), none⟩,
    ⟨some 4, .load false 1 (.tmp 3), none⟩,
    ⟨some 5, .lenT (.tmp 4), none⟩,
    ⟨some 6, .bin .sub (.cst (.int .i64 256)) (.tmp 5), none⟩,
    ⟨some 2, .mv (.tmp 6), none⟩])
  .ret))
theorem p_caravelref17_Window : Try.f20.body.bind (compC Try.prog 7) = some c_caravelref17_Window := by kernel_rfl
theorem r_caravelref17_Window : tellR Try.prog Try.f20.results.toList = some [.t 2] := by kernel_rfl

/-- caravel/recvq.Clone: 1 in. -/
def c_recvq_Clone : ACode :=
  (.seq (.reg [⟨some 1, .box (.tmp 0), none⟩,
    ⟨some 2, .newb [(.int .u32 0), .nil, .nil, (.bool false), (.int .u32 0), (.bool false)], none⟩])
  (.seq (.reg [⟨some 6, .load true 6 (.tmp 1), none⟩,
    ⟨some 3, .newb [(.int .u32 0), .nil, .nil, (.bool false), (.int .u32 0), (.bool false)], none⟩,
    ⟨none, .store 6 (.tmp 3) (.tmp 6), none⟩])
  (.seq (.reg [⟨some 7, .fadr 1 (.tmp 1), none⟩,
    ⟨some 8, .load false 1 (.tmp 7), none⟩,
    ⟨some 9, .call 22 [(.tmp 8)], none⟩,
    ⟨some 10, .fadr 1 (.tmp 3), none⟩,
    ⟨none, .store 1 (.tmp 10) (.tmp 9), none⟩,
    ⟨some 11, .fadr 2 (.tmp 3), none⟩,
    ⟨none, .store 1 (.tmp 11) (.cst .nil), none⟩])
  (.seq (.seq (.reg [⟨some 12, .fadr 2 (.tmp 1), none⟩,
    ⟨some 13, .load false 1 (.tmp 12), none⟩,
    ⟨some 14, .lenV (.tmp 13), none⟩,
    ⟨some 15, .mv (.cst (.int .i64 0)), none⟩])
  (.block 0 (.loop
    (.seq (.reg [⟨some 16, .bin .lss (.tmp 15) (.tmp 14), none⟩])
    (.seq (.cond (.tmp 16)
      .skip
      (.exit 0))
    (.seq (.block 1 (.seq (.reg [⟨some 17, .iadS 2 (.tmp 13) (.tmp 15), none⟩,
      ⟨some 18, .load true 2 (.tmp 17), none⟩,
      ⟨some 5, .newb [(.int .u32 0), .nil], none⟩,
      ⟨none, .store 2 (.tmp 5) (.tmp 18), none⟩])
    (.drw [⟨some 19, .fadr 2 (.tmp 3), none⟩,
      ⟨some 20, .load false 1 (.tmp 19), none⟩,
      ⟨some 21, .fadr 0 (.tmp 5), none⟩,
      ⟨some 22, .load false 1 (.tmp 21), none⟩,
      ⟨some 23, .fadr 1 (.tmp 5), none⟩,
      ⟨some 24, .load false 1 (.tmp 23), none⟩,
      ⟨some 25, .call 22 [(.tmp 24)], none⟩,
      ⟨some 26, .build [(.int .u32 0), .nil] [(0, 1, (.tmp 22)), (1, 1, (.tmp 25))], none⟩,
      ⟨some 27, .bsl 2 [(.tmp 26)], none⟩,
      ⟨some 28, .app 2 32 (.tmp 20) (.tmp 27), none⟩,
      ⟨some 29, .fadr 2 (.tmp 3), none⟩,
      ⟨none, .store 1 (.tmp 29) (.tmp 28), none⟩] [[], [], [], [], [], [], [], [], [1], [], [], []])))
    (.reg [⟨some 30, .bin .add (.tmp 15) (.cst (.int .i64 1)), none⟩,
      ⟨some 15, .mv (.tmp 30), none⟩])))))))
  (.seq (.reg [⟨some 31, .load true 6 (.tmp 3), none⟩,
    ⟨none, .store 6 (.tmp 2) (.tmp 31), none⟩])
  .ret)))))
theorem p_recvq_Clone : Try.f21.body.bind (compC Try.prog 32) = some c_recvq_Clone := by kernel_rfl
theorem r_recvq_Clone : tellR Try.prog Try.f21.results.toList = some [.c 2 true 6] := by kernel_rfl

/-- slices.Clone[[]byte,byte]: 1 in. -/
def c_slices_Clone__byte_byte : ACode :=
  (.seq (.reg [⟨some 2, .mv (.cst .nil), none⟩])
  (.seq (.seq (.reg [⟨some 3, .mv (.tmp 0), none⟩,
    ⟨some 4, .isN false (.tmp 3), none⟩])
  (.cond (.tmp 4)
    (.seq (.reg [⟨some 2, .mv (.cst .nil), none⟩])
    .ret)
    .skip))
  (.seq (.reg [⟨some 5, .bsl 1 [], none⟩,
    ⟨some 6, .mv (.tmp 0), none⟩,
    ⟨some 7, .app 1 1 (.tmp 5) (.tmp 6), none⟩,
    ⟨some 2, .mv (.tmp 7), none⟩])
  .ret)))
theorem p_slices_Clone__byte_byte : Try.f22.body.bind (compC Try.prog 8) = some c_slices_Clone__byte_byte := by kernel_rfl
theorem r_slices_Clone__byte_byte : tellR Try.prog Try.f22.results.toList = some [.t 2] := by kernel_rfl

/-- caravel/seq.Diff: 2 in. -/
def c_seq_Diff : ACode :=
  (.seq (.reg [⟨some 4, .mv (.cst (.int .i64 0)), none⟩])
  (.seq (.reg [⟨some 5, .mv (.tmp 0), none⟩,
    ⟨some 6, .mv (.tmp 1), none⟩,
    ⟨some 7, .bin .sub (.tmp 5) (.tmp 6), none⟩,
    ⟨some 8, .conv .i32 (.tmp 7), none⟩,
    ⟨some 9, .conv .i64 (.tmp 8), none⟩,
    ⟨some 4, .mv (.tmp 9), none⟩])
  .ret))
theorem p_seq_Diff : Try.f23.body.bind (compC Try.prog 10) = some c_seq_Diff := by kernel_rfl
theorem r_seq_Diff : tellR Try.prog Try.f23.results.toList = some [.t 4] := by kernel_rfl

/-- caravel/seq.Add: 2 in. -/
def c_seq_Add : ACode :=
  (.seq (.reg [⟨some 4, .mv (.cst (.int .u32 0)), none⟩])
  (.seq (.reg [⟨some 5, .mv (.tmp 0), none⟩,
    ⟨some 6, .mv (.tmp 1), none⟩,
    ⟨some 7, .conv .u32 (.tmp 6), none⟩,
    ⟨some 8, .bin .add (.tmp 5) (.tmp 7), none⟩,
    ⟨some 4, .mv (.tmp 8), none⟩])
  .ret))
theorem p_seq_Add : Try.f24.body.bind (compC Try.prog 9) = some c_seq_Add := by kernel_rfl
theorem r_seq_Add : tellR Try.prog Try.f24.results.toList = some [.t 4] := by kernel_rfl

/-- caravel/recvq.beyond: 2 in. -/
def c_recvq_beyond : ACode :=
  (.seq (.reg [⟨some 2, .box (.tmp 0), none⟩,
    ⟨some 3, .box (.tmp 1), none⟩,
    ⟨some 4, .mv (.cst (.bool false)), none⟩])
  (.seq (.reg [⟨some 5, .fadr 2 (.tmp 2), none⟩,
    ⟨some 6, .load false 1 (.tmp 5), none⟩,
    ⟨some 7, .mkf 33 [(.tmp 3)], none⟩,
    ⟨some 8, .call 32 [(.tmp 6), (.tmp 7)], none⟩,
    ⟨some 4, .mv (.tmp 8), none⟩])
  .ret))
theorem p_recvq_beyond : Try.f25.body.bind (compC Try.prog 9) = some c_recvq_beyond := by kernel_rfl
theorem r_recvq_beyond : tellR Try.prog Try.f25.results.toList = some [.t 4] := by kernel_rfl

/-- caravel/recvq.lay: 2 in. -/
def c_recvq_lay : ACode :=
  (.seq (.reg [⟨some 2, .box (.tmp 0), none⟩,
    ⟨some 3, .box (.tmp 1), none⟩,
    ⟨some 4, .newb [(.int .u32 0), .nil, .nil, (.bool false), (.int .u32 0), (.bool false)], none⟩])
  (.seq (.reg [⟨some 5, .mv (.cst .nil), none⟩])
  (.seq (.seq (.reg [⟨some 8, .fadr 2 (.tmp 2), none⟩,
    ⟨some 9, .load false 1 (.tmp 8), none⟩,
    ⟨some 10, .lenV (.tmp 9), none⟩,
    ⟨some 11, .mv (.cst (.int .i64 0)), none⟩])
  (.block 0 (.loop
    (.seq (.reg [⟨some 12, .bin .lss (.tmp 11) (.tmp 10), none⟩])
    (.seq (.cond (.tmp 12)
      .skip
      (.exit 0))
    (.seq (.block 1 (.seq (.reg [⟨some 13, .iadS 2 (.tmp 9) (.tmp 11), none⟩,
      ⟨some 14, .load true 2 (.tmp 13), none⟩,
      ⟨some 7, .newb [(.int .u32 0), .nil], none⟩,
      ⟨none, .store 2 (.tmp 7) (.tmp 14), none⟩])
    (.block 2 (.seq (.reg [⟨some 19, .fadr 0 (.tmp 7), none⟩,
      ⟨some 20, .load false 1 (.tmp 19), none⟩,
      ⟨some 21, .fadr 1 (.tmp 7), none⟩,
      ⟨some 22, .load false 1 (.tmp 21), none⟩,
      ⟨some 23, .lenV (.tmp 22), none⟩,
      ⟨some 24, .call 24 [(.tmp 20), (.tmp 23)], none⟩,
      ⟨some 25, .fadr 0 (.tmp 3), none⟩,
      ⟨some 26, .load false 1 (.tmp 25), none⟩,
      ⟨some 27, .call 23 [(.tmp 24), (.tmp 26)], none⟩,
      ⟨some 28, .bin .lss (.tmp 27) (.cst (.int .i64 0)), none⟩,
      ⟨some 18, .mv (.tmp 28), none⟩])
    (.cond (.tmp 18)
      (.reg [⟨some 29, .mv (.tmp 5), none⟩,
        ⟨some 30, .load true 2 (.tmp 7), none⟩,
        ⟨some 31, .bsl 2 [(.tmp 30)], none⟩,
        ⟨some 32, .app 2 32 (.tmp 29) (.tmp 31), none⟩,
        ⟨some 5, .mv (.tmp 32), none⟩])
      (.seq (.reg [⟨some 34, .fadr 0 (.tmp 3), none⟩,
        ⟨some 35, .load false 1 (.tmp 34), none⟩,
        ⟨some 36, .fadr 1 (.tmp 3), none⟩,
        ⟨some 37, .load false 1 (.tmp 36), none⟩,
        ⟨some 38, .lenV (.tmp 37), none⟩,
        ⟨some 39, .call 24 [(.tmp 35), (.tmp 38)], none⟩,
        ⟨some 40, .fadr 0 (.tmp 7), none⟩,
        ⟨some 41, .load false 1 (.tmp 40), none⟩,
        ⟨some 42, .call 23 [(.tmp 39), (.tmp 41)], none⟩,
        ⟨some 43, .bin .lss (.tmp 42) (.cst (.int .i64 0)), none⟩,
        ⟨some 33, .mv (.tmp 43), none⟩])
      (.cond (.tmp 33)
        (.seq (.reg [⟨some 44, .mv (.tmp 5), none⟩,
          ⟨some 45, .load true 2 (.tmp 3), none⟩,
          ⟨some 46, .bsl 2 [(.tmp 45)], none⟩,
          ⟨some 47, .app 2 32 (.tmp 44) (.tmp 46), none⟩,
          ⟨some 5, .mv (.tmp 47), none⟩])
        (.reg [⟨some 48, .load true 2 (.tmp 7), none⟩,
          ⟨none, .store 2 (.tmp 3) (.tmp 48), none⟩]))
        (.reg [⟨some 15, .load true 2 (.tmp 7), none⟩,
          ⟨some 16, .load true 2 (.tmp 3), none⟩,
          ⟨some 17, .call 34 [(.tmp 15), (.tmp 16)], none⟩,
          ⟨none, .store 2 (.tmp 3) (.tmp 17), none⟩]))))))))
    (.reg [⟨some 49, .bin .add (.tmp 11) (.cst (.int .i64 1)), none⟩,
      ⟨some 11, .mv (.tmp 49), none⟩])))))))
  (.seq (.reg [⟨some 50, .mv (.tmp 5), none⟩,
    ⟨some 51, .load true 2 (.tmp 3), none⟩,
    ⟨some 52, .bsl 2 [(.tmp 51)], none⟩,
    ⟨some 53, .app 2 32 (.tmp 50) (.tmp 52), none⟩,
    ⟨some 5, .mv (.tmp 53), none⟩])
  (.seq (.seq (.reg [⟨some 54, .mv (.tmp 5), none⟩,
    ⟨some 55, .iadS 2 (.tmp 54) (.cst (.int .i64 0)), none⟩,
    ⟨some 56, .fadr 0 (.tmp 55), none⟩,
    ⟨some 57, .load false 1 (.tmp 56), none⟩,
    ⟨some 58, .fadr 0 (.tmp 2), none⟩,
    ⟨some 59, .load false 1 (.tmp 58), none⟩,
    ⟨some 60, .bin .eql (.tmp 57) (.tmp 59), none⟩])
  (.cond (.tmp 60)
    (.seq (.reg [⟨some 61, .fadr 1 (.tmp 2), none⟩,
      ⟨some 62, .load false 1 (.tmp 61), none⟩,
      ⟨some 63, .call 35 [(.tmp 62)], none⟩,
      ⟨some 64, .mv (.tmp 5), none⟩,
      ⟨some 65, .iadS 2 (.tmp 64) (.cst (.int .i64 0)), none⟩,
      ⟨some 66, .fadr 1 (.tmp 65), none⟩,
      ⟨some 67, .load false 1 (.tmp 66), none⟩,
      ⟨some 68, .app 1 1 (.tmp 63) (.tmp 67), none⟩,
      ⟨some 69, .fadr 1 (.tmp 2), none⟩,
      ⟨none, .store 1 (.tmp 69) (.tmp 68), none⟩])
    (.seq (.reg [⟨some 70, .fadr 0 (.tmp 2), none⟩,
      ⟨some 71, .load false 1 (.tmp 70), none⟩,
      ⟨some 72, .mv (.tmp 5), none⟩,
      ⟨some 73, .iadS 2 (.tmp 72) (.cst (.int .i64 0)), none⟩,
      ⟨some 74, .fadr 1 (.tmp 73), none⟩,
      ⟨some 75, .load false 1 (.tmp 74), none⟩,
      ⟨some 76, .lenV (.tmp 75), none⟩,
      ⟨some 77, .call 24 [(.tmp 71), (.tmp 76)], none⟩,
      ⟨some 78, .fadr 0 (.tmp 2), none⟩,
      ⟨none, .store 1 (.tmp 78) (.tmp 77), none⟩])
    (.reg [⟨some 79, .mv (.tmp 5), none⟩,
      ⟨some 80, .slS 2 (.tmp 79) (some (.cst (.int .i64 1))) none none, none⟩,
      ⟨some 5, .mv (.tmp 80), none⟩])))
    .skip))
  (.seq (.seq (.reg [⟨some 81, .mv (.tmp 5), none⟩,
    ⟨some 82, .lenV (.tmp 81), none⟩,
    ⟨some 83, .bin .leq (.tmp 82) (.cst (.int .i64 8)), none⟩])
  (.cond (.tmp 83)
    (.reg [⟨some 84, .mv (.tmp 5), none⟩,
      ⟨some 85, .fadr 2 (.tmp 2), none⟩,
      ⟨none, .store 1 (.tmp 85) (.tmp 84), none⟩])
    .skip))
  (.seq (.reg [⟨some 86, .load true 6 (.tmp 2), none⟩,
    ⟨none, .store 6 (.tmp 4) (.tmp 86), none⟩])
  .ret)))))))
theorem p_recvq_lay : Try.f26.body.bind (compC Try.prog 87) = some c_recvq_lay := by kernel_rfl
theorem r_recvq_lay : tellR Try.prog Try.f26.results.toList = some [.c 4 true 6] := by kernel_rfl

/-- caravel/caravelref17.blank: 1 in. -/
def c_caravelref17_blank : ACode :=
  (.seq (.reg [⟨some 2, .mv (.cst .nil), none⟩])
  (.seq (.reg [⟨some 3, .mv (.cst .nil), none⟩])
  (.seq (.seq (.reg [⟨some 4, .mv (.cst (.int .i64 0)), none⟩])
  (.block 0 (.loop
    (.seq (.seq (.reg [⟨some 5, .mv (.tmp 4), none⟩,
      ⟨some 6, .mv (.tmp 0), none⟩,
      ⟨some 7, .bin .lss (.tmp 5) (.tmp 6), none⟩])
    (.cond (.tmp 7)
      .skip
      (.exit 0)))
    (.seq (.block 1 (.reg [⟨some 10, .mv (.tmp 3), none⟩,
      ⟨some 11, .bsl 1 [(.cst (.int .i64 (-1)))], none⟩,
      ⟨some 12, .app 1 8 (.tmp 10) (.tmp 11), none⟩,
      ⟨some 3, .mv (.tmp 12), none⟩]))
    (.reg [⟨some 8, .mv (.tmp 4), none⟩,
      ⟨some 9, .bin .add (.tmp 8) (.cst (.int .i64 1)), none⟩,
      ⟨some 4, .mv (.tmp 9), none⟩]))))))
  (.seq (.reg [⟨some 13, .mv (.tmp 3), none⟩,
    ⟨some 2, .mv (.tmp 13), none⟩])
  .ret))))
theorem p_caravelref17_blank : Try.f27.body.bind (compC Try.prog 14) = some c_caravelref17_blank := by kernel_rfl
theorem r_caravelref17_blank : tellR Try.prog Try.f27.results.toList = some [.t 2] := by kernel_rfl

/-- caravel/caravelref03.Diff: 2 in. -/
def c_caravelref03_Diff : ACode :=
  (.seq (.reg [⟨some 4, .mv (.cst (.int .i64 0)), none⟩])
  (.seq (.reg [⟨some 6, .mv (.tmp 0), none⟩,
    ⟨some 7, .conv .i64 (.tmp 6), none⟩,
    ⟨some 8, .mv (.tmp 1), none⟩,
    ⟨some 9, .conv .i64 (.tmp 8), none⟩,
    ⟨some 10, .bin .sub (.tmp 7) (.tmp 9), none⟩,
    ⟨some 11, .call 36 [(.tmp 10)], none⟩,
    ⟨some 5, .mv (.tmp 11), none⟩])
  (.seq (.seq (.reg [⟨some 12, .mv (.tmp 5), none⟩,
    ⟨some 13, .bin .geq (.tmp 12) (.cst (.int .i64 2147483648)), none⟩])
  (.cond (.tmp 13)
    (.reg [⟨some 14, .mv (.tmp 5), none⟩,
      ⟨some 15, .bin .sub (.tmp 14) (.cst (.int .i64 4294967296)), none⟩,
      ⟨some 5, .mv (.tmp 15), none⟩])
    .skip))
  (.seq (.reg [⟨some 16, .mv (.tmp 5), none⟩,
    ⟨some 4, .mv (.tmp 16), none⟩])
  .ret))))
theorem p_caravelref03_Diff : Try.f28.body.bind (compC Try.prog 17) = some c_caravelref03_Diff := by kernel_rfl
theorem r_caravelref03_Diff : tellR Try.prog Try.f28.results.toList = some [.t 4] := by kernel_rfl

/-- caravel/caravelref17.front: 1 in. -/
def c_caravelref17_front : ACode :=
  (.seq (.reg [⟨some 2, .mv (.cst (.str [])), none⟩])
  (.seq (.reg [⟨some 3, .mv (.cst (.str [])), none⟩])
  (.seq (.seq (.reg [⟨some 4, .mv (.cst (.int .i64 0)), none⟩])
  (.block 0 (.loop
    (.seq (.seq (.reg [⟨some 5, .mv (.tmp 4), none⟩,
      ⟨some 6, .mv (.tmp 0), none⟩,
      ⟨some 7, .lenV (.tmp 6), none⟩,
      ⟨some 8, .bin .lss (.tmp 5) (.tmp 7), none⟩,
      ⟨some 9, .mv (.tmp 8), none⟩,
      ⟨some 10, .mv (.tmp 0), some (9, true)⟩,
      ⟨some 11, .mv (.tmp 4), some (9, true)⟩,
      ⟨some 12, .iadS 1 (.tmp 10) (.tmp 11), some (9, true)⟩,
      ⟨some 13, .load false 1 (.tmp 12), some (9, true)⟩,
      ⟨some 14, .bin .geq (.tmp 13) (.cst (.int .i64 0)), some (9, true)⟩,
      ⟨some 15, .pick (.tmp 9) (.tmp 14) (.cst (.bool false)), none⟩])
    (.cond (.tmp 15)
      .skip
      (.exit 0)))
    (.seq (.block 1 (.reg [⟨some 18, .mv (.tmp 3), none⟩,
      ⟨some 19, .mv (.tmp 0), none⟩,
      ⟨some 20, .mv (.tmp 4), none⟩,
      ⟨some 21, .iadS 1 (.tmp 19) (.tmp 20), none⟩,
      ⟨some 22, .load false 1 (.tmp 21), none⟩,
      ⟨some 23, .conv .u8 (.tmp 22), none⟩,
      ⟨some 24, .bsl 1 [(.tmp 23)], none⟩,
      ⟨some 25, .b2s (.tmp 24), none⟩,
      ⟨some 26, .binT .add (.tmp 18) (.tmp 25), none⟩,
      ⟨some 3, .mv (.tmp 26), none⟩]))
    (.reg [⟨some 16, .mv (.tmp 4), none⟩,
      ⟨some 17, .bin .add (.tmp 16) (.cst (.int .i64 1)), none⟩,
      ⟨some 4, .mv (.tmp 17), none⟩]))))))
  (.seq (.reg [⟨some 27, .mv (.tmp 3), none⟩,
    ⟨some 2, .mv (.tmp 27), none⟩])
  .ret))))
theorem p_caravelref17_front : Try.f29.body.bind (compC Try.prog 28) = some c_caravelref17_front := by kernel_rfl
theorem r_caravelref17_front : tellR Try.prog Try.f29.results.toList = some [.t 2] := by kernel_rfl

/-- caravel/caravelref17.runs: 1 in. -/
def c_caravelref17_runs : ACode :=
  (.seq (.reg [⟨some 2, .mv (.cst (.int .i64 0)), none⟩])
  (.seq (.reg [⟨some 3, .mv (.cst (.int .i64 0)), none⟩])
  (.seq (.seq (.reg [⟨some 4, .mv (.cst (.int .i64 1)), none⟩])
  (.block 0 (.loop
    (.seq (.seq (.reg [⟨some 5, .mv (.tmp 4), none⟩,
      ⟨some 6, .mv (.tmp 0), none⟩,
      ⟨some 7, .lenV (.tmp 6), none⟩,
      ⟨some 8, .bin .lss (.tmp 5) (.tmp 7), none⟩])
    (.cond (.tmp 8)
      .skip
      (.exit 0)))
    (.seq (.block 1 (.seq (.reg [⟨some 11, .mv (.tmp 0), none⟩,
      ⟨some 12, .mv (.tmp 4), none⟩,
      ⟨some 13, .iadS 1 (.tmp 11) (.tmp 12), none⟩,
      ⟨some 14, .load false 1 (.tmp 13), none⟩,
      ⟨some 15, .bin .geq (.tmp 14) (.cst (.int .i64 0)), none⟩,
      ⟨some 16, .mv (.tmp 15), none⟩,
      ⟨some 17, .mv (.tmp 0), some (16, true)⟩,
      ⟨some 18, .mv (.tmp 4), some (16, true)⟩,
      ⟨some 19, .bin .sub (.tmp 18) (.cst (.int .i64 1)), some (16, true)⟩,
      ⟨some 20, .iadS 1 (.tmp 17) (.tmp 19), some (16, true)⟩,
      ⟨some 21, .load false 1 (.tmp 20), some (16, true)⟩,
      ⟨some 22, .bin .lss (.tmp 21) (.cst (.int .i64 0)), some (16, true)⟩,
      ⟨some 23, .pick (.tmp 16) (.tmp 22) (.cst (.bool false)), none⟩])
    (.cond (.tmp 23)
      (.reg [⟨some 24, .mv (.tmp 3), none⟩,
        ⟨some 25, .bin .add (.tmp 24) (.cst (.int .i64 1)), none⟩,
        ⟨some 3, .mv (.tmp 25), none⟩])
      .skip)))
    (.reg [⟨some 9, .mv (.tmp 4), none⟩,
      ⟨some 10, .bin .add (.tmp 9) (.cst (.int .i64 1)), none⟩,
      ⟨some 4, .mv (.tmp 10), none⟩]))))))
  (.seq (.reg [⟨some 26, .mv (.tmp 3), none⟩,
    ⟨some 2, .mv (.tmp 26), none⟩])
  .ret))))
theorem p_caravelref17_runs : Try.f30.body.bind (compC Try.prog 27) = some c_caravelref17_runs := by kernel_rfl
theorem r_caravelref17_runs : tellR Try.prog Try.f30.results.toList = some [.t 2] := by kernel_rfl

/-- caravel/caravelref03.Add: 2 in. -/
def c_caravelref03_Add : ACode :=
  (.seq (.reg [⟨some 4, .mv (.cst (.int .u32 0)), none⟩])
  (.seq (.reg [⟨some 5, .mv (.tmp 0), none⟩,
    ⟨some 6, .conv .i64 (.tmp 5), none⟩,
    ⟨some 7, .mv (.tmp 1), none⟩,
    ⟨some 8, .bin .rem (.tmp 7) (.cst (.int .i64 4294967296)), none⟩,
    ⟨some 9, .bin .add (.tmp 6) (.tmp 8), none⟩,
    ⟨some 10, .call 36 [(.tmp 9)], none⟩,
    ⟨some 11, .conv .u32 (.tmp 10), none⟩,
    ⟨some 4, .mv (.tmp 11), none⟩])
  .ret))
theorem p_caravelref03_Add : Try.f31.body.bind (compC Try.prog 12) = some c_caravelref03_Add := by kernel_rfl
theorem r_caravelref03_Add : tellR Try.prog Try.f31.results.toList = some [.t 4] := by kernel_rfl

/-- slices.ContainsFunc[[]caravel/api.Piece,caravel/api.Piece]: 2 in. -/
def c_slices_ContainsFunc__caravel_api_Piece_caravel_api_Piece : ACode :=
  (.seq (.reg [⟨some 4, .mv (.cst (.bool false)), none⟩])
  (.seq (.reg [⟨some 5, .mv (.tmp 0), none⟩,
    ⟨some 6, .mv (.tmp 1), none⟩,
    ⟨some 7, .call 37 [(.tmp 5), (.tmp 6)], none⟩,
    ⟨some 8, .bin .geq (.tmp 7) (.cst (.int .i64 0)), none⟩,
    ⟨some 4, .mv (.tmp 8), none⟩])
  .ret))
theorem p_slices_ContainsFunc__caravel_api_Piece_caravel_api_Piece : Try.f32.body.bind (compC Try.prog 9) = some c_slices_ContainsFunc__caravel_api_Piece_caravel_api_Piece := by kernel_rfl
theorem r_slices_ContainsFunc__caravel_api_Piece_caravel_api_Piece : tellR Try.prog Try.f32.results.toList = some [.t 4] := by kernel_rfl

/-- caravel/recvq.beyond$1: 2 in. -/
def c_recvq_beyond_1 : ACode :=
  (.seq (.reg [⟨some 2, .box (.tmp 0), none⟩,
    ⟨some 3, .mv (.cst (.bool false)), none⟩])
  (.seq (.reg [⟨some 4, .fadr 0 (.tmp 2), none⟩,
    ⟨some 5, .load false 1 (.tmp 4), none⟩,
    ⟨some 6, .fadr 1 (.tmp 2), none⟩,
    ⟨some 7, .load false 1 (.tmp 6), none⟩,
    ⟨some 8, .lenV (.tmp 7), none⟩,
    ⟨some 9, .call 24 [(.tmp 5), (.tmp 8)], none⟩,
    ⟨some 10, .load false 1 (.tmp 1), none⟩,
    ⟨some 11, .call 23 [(.tmp 9), (.tmp 10)], none⟩,
    ⟨some 12, .bin .gtr (.tmp 11) (.cst (.int .i64 0)), none⟩,
    ⟨some 3, .mv (.tmp 12), none⟩])
  .ret))
theorem p_recvq_beyond_1 : Try.f33.body.bind (compC Try.prog 13) = some c_recvq_beyond_1 := by kernel_rfl
theorem r_recvq_beyond_1 : tellR Try.prog Try.f33.results.toList = some [.t 3] := by kernel_rfl

/-- caravel/recvq.both: 2 in. -/
def c_recvq_both : ACode :=
  (.seq (.reg [⟨some 2, .box (.tmp 0), none⟩,
    ⟨some 3, .box (.tmp 1), none⟩,
    ⟨some 4, .newb [(.int .u32 0), .nil], none⟩])
  (.seq (.reg [⟨some 8, .fadr 0 (.tmp 2), none⟩,
    ⟨some 9, .load false 1 (.tmp 8), none⟩,
    ⟨some 5, .mv (.tmp 9), none⟩])
  (.seq (.seq (.reg [⟨some 10, .fadr 0 (.tmp 3), none⟩,
    ⟨some 11, .load false 1 (.tmp 10), none⟩,
    ⟨some 12, .mv (.tmp 5), none⟩,
    ⟨some 13, .call 38 [(.tmp 11), (.tmp 12)], none⟩])
  (.cond (.tmp 13)
    (.reg [⟨some 14, .fadr 0 (.tmp 3), none⟩,
      ⟨some 15, .load false 1 (.tmp 14), none⟩,
      ⟨some 5, .mv (.tmp 15), none⟩])
    .skip))
  (.seq (.reg [⟨some 16, .fadr 0 (.tmp 2), none⟩,
    ⟨some 17, .load false 1 (.tmp 16), none⟩,
    ⟨some 18, .mv (.tmp 5), none⟩,
    ⟨some 19, .call 23 [(.tmp 17), (.tmp 18)], none⟩,
    ⟨some 20, .fadr 1 (.tmp 2), none⟩,
    ⟨some 21, .load false 1 (.tmp 20), none⟩,
    ⟨some 22, .lenV (.tmp 21), none⟩,
    ⟨some 23, .bin .add (.tmp 19) (.tmp 22), none⟩,
    ⟨some 24, .fadr 0 (.tmp 3), none⟩,
    ⟨some 25, .load false 1 (.tmp 24), none⟩,
    ⟨some 26, .mv (.tmp 5), none⟩,
    ⟨some 27, .call 23 [(.tmp 25), (.tmp 26)], none⟩,
    ⟨some 28, .fadr 1 (.tmp 3), none⟩,
    ⟨some 29, .load false 1 (.tmp 28), none⟩,
    ⟨some 30, .lenV (.tmp 29), none⟩,
    ⟨some 31, .bin .add (.tmp 27) (.tmp 30), none⟩,
    ⟨some 32, .max [(.tmp 23), (.tmp 31)], none⟩,
    ⟨some 6, .mv (.tmp 32), none⟩])
  (.seq (.reg [⟨some 33, .mv (.tmp 6), none⟩,
    ⟨some 34, .mks 1 1 (.int .u8 0) (.tmp 33) (.tmp 33), none⟩,
    ⟨some 7, .mv (.tmp 34), none⟩])
  (.seq (.reg [⟨some 35, .mv (.tmp 7), none⟩,
    ⟨some 36, .fadr 0 (.tmp 3), none⟩,
    ⟨some 37, .load false 1 (.tmp 36), none⟩,
    ⟨some 38, .mv (.tmp 5), none⟩,
    ⟨some 39, .call 23 [(.tmp 37), (.tmp 38)], none⟩,
    ⟨some 40, .slS 1 (.tmp 35) (some (.tmp 39)) none none, none⟩,
    ⟨some 41, .fadr 1 (.tmp 3), none⟩,
    ⟨some 42, .load false 1 (.tmp 41), none⟩,
    ⟨some 43, .cpy 1 (.tmp 40) (.tmp 42), none⟩])
  (.seq (.reg [⟨some 44, .mv (.tmp 7), none⟩,
    ⟨some 45, .fadr 0 (.tmp 2), none⟩,
    ⟨some 46, .load false 1 (.tmp 45), none⟩,
    ⟨some 47, .mv (.tmp 5), none⟩,
    ⟨some 48, .call 23 [(.tmp 46), (.tmp 47)], none⟩,
    ⟨some 49, .slS 1 (.tmp 44) (some (.tmp 48)) none none, none⟩,
    ⟨some 50, .fadr 1 (.tmp 2), none⟩,
    ⟨some 51, .load false 1 (.tmp 50), none⟩,
    ⟨some 52, .cpy 1 (.tmp 49) (.tmp 51), none⟩])
  (.seq (.reg [⟨some 53, .mv (.tmp 5), none⟩,
    ⟨some 54, .mv (.tmp 7), none⟩,
    ⟨some 55, .build [(.int .u32 0), .nil] [(0, 1, (.tmp 53)), (1, 1, (.tmp 54))], none⟩,
    ⟨none, .store 2 (.tmp 4) (.tmp 55), none⟩])
  .ret))))))))
theorem p_recvq_both : Try.f34.body.bind (compC Try.prog 56) = some c_recvq_both := by kernel_rfl
theorem r_recvq_both : tellR Try.prog Try.f34.results.toList = some [.c 4 true 2] := by kernel_rfl

/-- slices.Clip[[]byte,byte]: 1 in. -/
def c_slices_Clip__byte_byte : ACode :=
  (.seq (.reg [⟨some 2, .mv (.cst .nil), none⟩])
  (.seq (.reg [⟨some 3, .mv (.tmp 0), none⟩,
    ⟨some 4, .mv (.tmp 0), none⟩,
    ⟨some 5, .lenV (.tmp 4), none⟩,
    ⟨some 6, .mv (.tmp 0), none⟩,
    ⟨some 7, .lenV (.tmp 6), none⟩,
    ⟨some 8, .slS 1 (.tmp 3) none (some (.tmp 5)) (some (.tmp 7)), none⟩,
    ⟨some 2, .mv (.tmp 8), none⟩])
  .ret))
theorem p_slices_Clip__byte_byte : Try.f35.body.bind (compC Try.prog 9) = some c_slices_Clip__byte_byte := by kernel_rfl
theorem r_slices_Clip__byte_byte : tellR Try.prog Try.f35.results.toList = some [.t 2] := by kernel_rfl

/-- caravel/caravelref03.mod: 1 in. -/
def c_caravelref03_mod : ACode :=
  (.seq (.reg [⟨some 2, .mv (.cst (.int .i64 0)), none⟩])
  (.seq (.reg [⟨some 4, .mv (.tmp 0), none⟩,
    ⟨some 5, .bin .rem (.tmp 4) (.cst (.int .i64 4294967296)), none⟩,
    ⟨some 3, .mv (.tmp 5), none⟩])
  (.seq (.seq (.reg [⟨some 6, .mv (.tmp 3), none⟩,
    ⟨some 7, .bin .lss (.tmp 6) (.cst (.int .i64 0)), none⟩])
  (.cond (.tmp 7)
    (.reg [⟨some 8, .mv (.tmp 3), none⟩,
      ⟨some 9, .bin .add (.tmp 8) (.cst (.int .i64 4294967296)), none⟩,
      ⟨some 3, .mv (.tmp 9), none⟩])
    .skip))
  (.seq (.reg [⟨some 10, .mv (.tmp 3), none⟩,
    ⟨some 2, .mv (.tmp 10), none⟩])
  .ret))))
theorem p_caravelref03_mod : Try.f36.body.bind (compC Try.prog 11) = some c_caravelref03_mod := by kernel_rfl
theorem r_caravelref03_mod : tellR Try.prog Try.f36.results.toList = some [.t 2] := by kernel_rfl

/-- slices.IndexFunc[[]caravel/api.Piece,caravel/api.Piece]: 2 in. -/
def c_slices_IndexFunc__caravel_api_Piece_caravel_api_Piece : ACode :=
  (.seq (.reg [⟨some 4, .mv (.cst (.int .i64 0)), none⟩])
  (.seq (.seq (.reg [⟨some 6, .mv (.tmp 0), none⟩,
    ⟨some 7, .lenV (.tmp 6), none⟩,
    ⟨some 8, .mv (.cst (.int .i64 0)), none⟩])
  (.block 0 (.loop
    (.seq (.reg [⟨some 9, .bin .lss (.tmp 8) (.tmp 7), none⟩])
    (.seq (.cond (.tmp 9)
      .skip
      (.exit 0))
    (.seq (.block 1 (.seq (.reg [⟨some 10, .mv (.tmp 8), none⟩,
      ⟨some 5, .mv (.tmp 10), none⟩])
    (.seq (.reg [⟨some 11, .mv (.tmp 1), none⟩,
      ⟨some 12, .mv (.tmp 0), none⟩,
      ⟨some 13, .mv (.tmp 5), none⟩,
      ⟨some 14, .iadS 2 (.tmp 12) (.tmp 13), none⟩,
      ⟨some 15, .load true 2 (.tmp 14), none⟩,
      ⟨some 16, .callv (.tmp 11) [(.tmp 15)], none⟩])
    (.cond (.tmp 16)
      (.seq (.reg [⟨some 17, .mv (.tmp 5), none⟩,
        ⟨some 4, .mv (.tmp 17), none⟩])
      .ret)
      .skip))))
    (.reg [⟨some 18, .bin .add (.tmp 8) (.cst (.int .i64 1)), none⟩,
      ⟨some 8, .mv (.tmp 18), none⟩])))))))
  (.seq (.reg [⟨some 4, .mv (.cst (.int .i64 (-1))), none⟩])
  .ret)))
theorem p_slices_IndexFunc__caravel_api_Piece_caravel_api_Piece : Try.f37.body.bind (compC Try.prog 19) = some c_slices_IndexFunc__caravel_api_Piece_caravel_api_Piece := by kernel_rfl
theorem r_slices_IndexFunc__caravel_api_Piece_caravel_api_Piece : tellR Try.prog Try.f37.results.toList = some [.t 4] := by kernel_rfl

/-- caravel/seq.Less: 2 in. -/
def c_seq_Less : ACode :=
  (.seq (.reg [⟨some 4, .mv (.cst (.bool false)), none⟩])
  (.seq (.reg [⟨some 5, .mv (.tmp 0), none⟩,
    ⟨some 6, .mv (.tmp 1), none⟩,
    ⟨some 7, .call 23 [(.tmp 5), (.tmp 6)], none⟩,
    ⟨some 8, .bin .lss (.tmp 7) (.cst (.int .i64 0)), none⟩,
    ⟨some 4, .mv (.tmp 8), none⟩])
  .ret))
theorem p_seq_Less : Try.f38.body.bind (compC Try.prog 9) = some c_seq_Less := by kernel_rfl
theorem r_seq_Less : tellR Try.prog Try.f38.results.toList = some [.t 4] := by kernel_rfl

end Go.Proofs.Ytmohmcgcggenfaa
