/- The program's functions, told as operations on abstract values. -/
import Derived.Test.YtcioklhpbmjeeaaAx30
import Derived.Test.YtcioklhpbmjeeaaProg
namespace Go.Proofs.Ytcioklhpbmjeeaa

/-- gosem.cut.init: 0 in. -/
def c_gosem_cut_init : ACode :=
  (.reg [⟨some 0, .call 1 [], none⟩])
theorem p_gosem_cut_init : Try.f2.body.bind (compC Try.prog 1) = some c_gosem_cut_init := by kernel_rfl
theorem r_gosem_cut_init : tellR Try.prog Try.f2.results.toList = some [] := by kernel_rfl

/-- caravel/caravellaw18.SendqRight: 1 in. -/
def c_caravellaw18_SendqRight : ACode :=
  (.seq (.reg [⟨some 1, .box (.tmp 0), none⟩,
    ⟨some 2, .mv (.cst (.bool false)), none⟩])
  (.seq (.seq (.reg [⟨some 4, .call 8 [], none⟩,
    ⟨some 5, .not (.tmp 4), none⟩,
    ⟨some 6, .mv (.tmp 5), none⟩,
    ⟨some 7, .fadr 1 (.tmp 1), some (6, false)⟩,
    ⟨some 8, .load false 1 (.tmp 7), some (6, false)⟩,
    ⟨some 9, .lenV (.tmp 8), some (6, false)⟩,
    ⟨some 10, .bin .gtr (.tmp 9) (.cst (.int .i64 400)), some (6, false)⟩,
    ⟨some 11, .pick (.tmp 6) (.cst (.bool true)) (.tmp 10), none⟩])
  (.cond (.tmp 11)
    (.seq (.reg [⟨some 12, .call 8 [], none⟩,
      ⟨some 2, .mv (.tmp 12), none⟩])
    .ret)
    .skip))
  (.seq (.reg [⟨some 13, .fadr 1 (.tmp 1), none⟩,
    ⟨some 14, .load false 1 (.tmp 13), none⟩,
    ⟨some 15, .lenV (.tmp 14), none⟩,
    ⟨some 16, .bin .leq (.tmp 15) (.cst (.int .i64 256)), none⟩,
    ⟨some 17, .mv (.tmp 16), none⟩,
    ⟨some 18, .fadr 2 (.tmp 1), some (17, true)⟩,
    ⟨some 19, .load false 1 (.tmp 18), some (17, true)⟩,
    ⟨some 20, .bin .geq (.tmp 19) (.cst (.int .i64 0)), some (17, true)⟩,
    ⟨some 21, .pick (.tmp 17) (.tmp 20) (.cst (.bool false)), none⟩,
    ⟨some 22, .mv (.tmp 21), none⟩,
    ⟨some 23, .fadr 2 (.tmp 1), some (22, true)⟩,
    ⟨some 24, .load false 1 (.tmp 23), some (22, true)⟩,
    ⟨some 25, .fadr 1 (.tmp 1), some (22, true)⟩,
    ⟨some 26, .load false 1 (.tmp 25), some (22, true)⟩,
    ⟨some 27, .lenV (.tmp 26), some (22, true)⟩,
    ⟨some 28, .bin .leq (.tmp 24) (.tmp 27), some (22, true)⟩,
    ⟨some 29, .pick (.tmp 22) (.tmp 28) (.cst (.bool false)), none⟩,
    ⟨some 3, .mv (.tmp 29), none⟩])
  (.seq (.seq (.reg [⟨some 30, .fadr 4 (.tmp 1), none⟩,
    ⟨some 31, .load false 1 (.tmp 30), none⟩])
  (.cond (.tmp 31)
    (.reg [⟨some 32, .mv (.tmp 3), none⟩,
      ⟨some 33, .mv (.tmp 32), none⟩,
      ⟨some 34, .fadr 3 (.tmp 1), some (33, true)⟩,
      ⟨some 35, .load false 1 (.tmp 34), some (33, true)⟩,
      ⟨some 36, .pick (.tmp 33) (.tmp 35) (.cst (.bool false)), none⟩,
      ⟨some 37, .mv (.tmp 36), none⟩,
      ⟨some 38, .fadr 2 (.tmp 1), some (37, true)⟩,
      ⟨some 39, .load false 1 (.tmp 38), some (37, true)⟩,
      ⟨some 40, .fadr 1 (.tmp 1), some (37, true)⟩,
      ⟨some 41, .load false 1 (.tmp 40), some (37, true)⟩,
      ⟨some 42, .lenV (.tmp 41), some (37, true)⟩,
      ⟨some 43, .bin .eql (.tmp 39) (.tmp 42), some (37, true)⟩,
      ⟨some 44, .pick (.tmp 37) (.tmp 43) (.cst (.bool false)), none⟩,
      ⟨some 3, .mv (.tmp 44), none⟩])
    .skip))
  (.seq (.seq (.reg [⟨some 45, .fadr 5 (.tmp 1), none⟩,
    ⟨some 46, .load false 1 (.tmp 45), none⟩])
  (.cond (.tmp 46)
    (.reg [⟨some 47, .mv (.tmp 3), none⟩,
      ⟨some 48, .mv (.tmp 47), none⟩,
      ⟨some 49, .fadr 4 (.tmp 1), some (48, true)⟩,
      ⟨some 50, .load false 1 (.tmp 49), some (48, true)⟩,
      ⟨some 51, .pick (.tmp 48) (.tmp 50) (.cst (.bool false)), none⟩,
      ⟨some 52, .mv (.tmp 51), none⟩,
      ⟨some 53, .fadr 1 (.tmp 1), some (52, true)⟩,
      ⟨some 54, .load false 1 (.tmp 53), some (52, true)⟩,
      ⟨some 55, .lenV (.tmp 54), some (52, true)⟩,
      ⟨some 56, .bin .eql (.tmp 55) (.cst (.int .i64 0)), some (52, true)⟩,
      ⟨some 57, .pick (.tmp 52) (.tmp 56) (.cst (.bool false)), none⟩,
      ⟨some 3, .mv (.tmp 57), none⟩])
    .skip))
  (.seq (.reg [⟨some 58, .load true 6 (.tmp 1), none⟩,
    ⟨some 59, .call 9 [(.tmp 58)], none⟩,
    ⟨some 60, .mv (.tmp 3), none⟩,
    ⟨some 61, .binB false (.tmp 59) (.tmp 60), none⟩,
    ⟨some 2, .mv (.tmp 61), none⟩])
  .ret))))))
theorem p_caravellaw18_SendqRight : Try.f3.body.bind (compC Try.prog 62) = some c_caravellaw18_SendqRight := by kernel_rfl
theorem r_caravellaw18_SendqRight : tellR Try.prog Try.f3.results.toList = some [.t 2] := by kernel_rfl

/-- caravel/caravellaw18.SendqMoved: 3 in. -/
def c_caravellaw18_SendqMoved : ACode :=
  (.seq (.reg [⟨some 6, .mv (.cst (.bool false)), none⟩])
  (.seq (.seq (.reg [⟨some 35, .call 8 [], none⟩,
    ⟨some 36, .not (.tmp 35), none⟩,
    ⟨some 37, .mv (.tmp 36), none⟩,
    ⟨some 38, .mv (.tmp 2), some (37, false)⟩,
    ⟨some 39, .call 10 [(.tmp 38)], some (37, false)⟩,
    ⟨some 40, .not (.tmp 39), some (37, false)⟩,
    ⟨some 41, .pick (.tmp 37) (.cst (.bool true)) (.tmp 40), none⟩])
  (.cond (.tmp 41)
    (.seq (.reg [⟨some 42, .call 8 [], none⟩,
      ⟨some 6, .mv (.tmp 42), none⟩])
    .ret)
    .skip))
  (.seq (.reg [⟨some 43, .mv (.tmp 0), none⟩,
    ⟨some 44, .call 11 [(.tmp 43)], none⟩,
    ⟨some 45, .mv (.tmp 1), none⟩,
    ⟨some 46, .call 11 [(.tmp 45)], none⟩,
    ⟨some 7, .newb [(.int .u32 0), .nil, (.int .i64 0), (.bool false), (.bool false), (.bool false)], none⟩,
    ⟨some 8, .newb [(.int .u32 0), .nil, (.int .i64 0), (.bool false), (.bool false), (.bool false)], none⟩,
    ⟨none, .store 6 (.tmp 7) (.tmp 44), none⟩,
    ⟨none, .store 6 (.tmp 8) (.tmp 46), none⟩])
  (.seq (.seq (.reg [⟨some 47, .mv (.tmp 2), none⟩,
    ⟨some 48, .lenV (.tmp 47), none⟩,
    ⟨some 49, .mv (.cst (.int .i64 0)), none⟩])
  (.block 0 (.loop
    (.seq (.reg [⟨some 50, .bin .lss (.tmp 49) (.tmp 48), none⟩])
    (.seq (.cond (.tmp 50)
      .skip
      (.exit 0))
    (.seq (.block 1 (.seq (.reg [⟨some 51, .iadS 4 (.tmp 47) (.tmp 49), none⟩,
      ⟨some 52, .load true 4 (.tmp 51), none⟩,
      ⟨some 10, .newb [(.int .i64 0), .nil, (.int .i64 0), (.int .i64 0)], none⟩,
      ⟨none, .store 4 (.tmp 10) (.tmp 52), none⟩])
    (.seq (.seq (.reg [⟨some 53, .fadr 0 (.tmp 10), none⟩,
      ⟨some 54, .load false 1 (.tmp 53), none⟩,
      ⟨some 55, .conv .u64 (.tmp 54), none⟩,
      ⟨some 56, .bin .rem (.tmp 55) (.cst (.int .u64 7)), none⟩])
    (.block 2 (.seq (.reg [⟨some 62, .bin .eql (.tmp 56) (.cst (.int .u64 0)), none⟩,
      ⟨some 61, .mv (.tmp 62), none⟩])
    (.cond (.tmp 61)
      (.seq (.reg [⟨some 64, .load true 6 (.tmp 7), none⟩,
        ⟨some 65, .fadr 1 (.tmp 10), none⟩,
        ⟨some 66, .load false 1 (.tmp 65), none⟩,
        ⟨some 67, .call 12 [(.tmp 64), (.tmp 66)], none⟩,
        ⟨some 63, .mv (.tmp 67), none⟩,
        ⟨some 68, .ext (.tmp 63) 0, none⟩,
        ⟨some 69, .ext (.tmp 63) 1, none⟩,
        ⟨some 11, .newb [(.int .u32 0), .nil, (.int .i64 0), (.bool false), (.bool false), (.bool false)], none⟩,
        ⟨none, .store 6 (.tmp 11) (.tmp 68), none⟩,
        ⟨some 12, .mv (.tmp 69), none⟩])
      (.seq (.reg [⟨some 71, .load true 6 (.tmp 8), none⟩,
        ⟨some 72, .fadr 1 (.tmp 10), none⟩,
        ⟨some 73, .load false 1 (.tmp 72), none⟩,
        ⟨some 74, .call 12 [(.tmp 71), (.tmp 73)], none⟩,
        ⟨some 70, .mv (.tmp 74), none⟩,
        ⟨some 75, .ext (.tmp 70) 0, none⟩,
        ⟨some 76, .ext (.tmp 70) 1, none⟩,
        ⟨some 13, .newb [(.int .u32 0), .nil, (.int .i64 0), (.bool false), (.bool false), (.bool false)], none⟩,
        ⟨none, .store 6 (.tmp 13) (.tmp 75), none⟩,
        ⟨some 14, .mv (.tmp 76), none⟩])
      (.seq (.drw [⟨some 77, .load true 6 (.tmp 11), none⟩,
        ⟨some 78, .load true 6 (.tmp 13), none⟩,
        ⟨none, .store 6 (.tmp 7) (.tmp 77), none⟩,
        ⟨none, .store 6 (.tmp 8) (.tmp 78), none⟩] [[], [], [1], []])
      (.seq (.reg [⟨some 79, .mv (.tmp 12), none⟩,
        ⟨some 80, .mv (.tmp 14), none⟩,
        ⟨some 81, .bin .neq (.tmp 79) (.tmp 80), none⟩])
      (.cond (.tmp 81)
        (.seq (.reg [⟨some 6, .mv (.cst (.bool false)), none⟩])
        .ret)
        .skip)))))
      (.seq (.seq (.reg [⟨some 83, .bin .eql (.tmp 56) (.cst (.int .u64 1)), none⟩,
        ⟨some 82, .mv (.tmp 83), none⟩])
      (.cond (.tmp 82)
        .skip
        (.reg [⟨some 84, .bin .eql (.tmp 56) (.cst (.int .u64 2)), none⟩,
          ⟨some 82, .mv (.tmp 84), none⟩])))
      (.cond (.tmp 82)
        (.seq (.reg [⟨some 86, .load true 6 (.tmp 7), none⟩,
          ⟨some 87, .fadr 2 (.tmp 10), none⟩,
          ⟨some 88, .load false 1 (.tmp 87), none⟩,
          ⟨some 89, .fadr 3 (.tmp 10), none⟩,
          ⟨some 90, .load false 1 (.tmp 89), none⟩,
          ⟨some 91, .call 13 [(.tmp 86), (.tmp 88), (.tmp 90)], none⟩,
          ⟨some 85, .mv (.tmp 91), none⟩,
          ⟨some 92, .ext (.tmp 85) 0, none⟩,
          ⟨some 93, .ext (.tmp 85) 1, none⟩,
          ⟨some 94, .ext (.tmp 85) 2, none⟩,
          ⟨some 95, .ext (.tmp 85) 3, none⟩,
          ⟨some 15, .newb [(.int .u32 0), .nil, (.int .i64 0), (.bool false), (.bool false), (.bool false)], none⟩,
          ⟨some 16, .newb [(.int .u32 0), .nil], none⟩,
          ⟨none, .store 6 (.tmp 15) (.tmp 92), none⟩,
          ⟨none, .store 2 (.tmp 16) (.tmp 93), none⟩,
          ⟨some 17, .mv (.tmp 94), none⟩,
          ⟨some 18, .mv (.tmp 95), none⟩])
        (.seq (.reg [⟨some 97, .load true 6 (.tmp 8), none⟩,
          ⟨some 98, .fadr 2 (.tmp 10), none⟩,
          ⟨some 99, .load false 1 (.tmp 98), none⟩,
          ⟨some 100, .fadr 3 (.tmp 10), none⟩,
          ⟨some 101, .load false 1 (.tmp 100), none⟩,
          ⟨some 102, .call 13 [(.tmp 97), (.tmp 99), (.tmp 101)], none⟩,
          ⟨some 96, .mv (.tmp 102), none⟩,
          ⟨some 103, .ext (.tmp 96) 0, none⟩,
          ⟨some 104, .ext (.tmp 96) 1, none⟩,
          ⟨some 105, .ext (.tmp 96) 2, none⟩,
          ⟨some 106, .ext (.tmp 96) 3, none⟩,
          ⟨some 19, .newb [(.int .u32 0), .nil, (.int .i64 0), (.bool false), (.bool false), (.bool false)], none⟩,
          ⟨some 20, .newb [(.int .u32 0), .nil], none⟩,
          ⟨none, .store 6 (.tmp 19) (.tmp 103), none⟩,
          ⟨none, .store 2 (.tmp 20) (.tmp 104), none⟩,
          ⟨some 21, .mv (.tmp 105), none⟩,
          ⟨some 22, .mv (.tmp 106), none⟩])
        (.seq (.drw [⟨some 107, .load true 6 (.tmp 15), none⟩,
          ⟨some 108, .load true 6 (.tmp 19), none⟩,
          ⟨none, .store 6 (.tmp 7) (.tmp 107), none⟩,
          ⟨none, .store 6 (.tmp 8) (.tmp 108), none⟩] [[], [], [1], []])
        (.seq (.reg [⟨some 109, .mv (.tmp 18), none⟩,
          ⟨some 110, .mv (.tmp 22), none⟩,
          ⟨some 111, .binB true (.tmp 109) (.tmp 110), none⟩,
          ⟨some 112, .mv (.tmp 111), none⟩,
          ⟨some 113, .mv (.tmp 17), some (112, false)⟩,
          ⟨some 114, .mv (.tmp 21), some (112, false)⟩,
          ⟨some 115, .binB true (.tmp 113) (.tmp 114), some (112, false)⟩,
          ⟨some 116, .pick (.tmp 112) (.cst (.bool true)) (.tmp 115), none⟩,
          ⟨some 117, .mv (.tmp 116), none⟩,
          ⟨some 118, .fadr 1 (.tmp 16), some (117, false)⟩,
          ⟨some 119, .load false 1 (.tmp 118), some (117, false)⟩,
          ⟨some 120, .b2s (.tmp 119), some (117, false)⟩,
          ⟨some 121, .fadr 1 (.tmp 20), some (117, false)⟩,
          ⟨some 122, .load false 1 (.tmp 121), some (117, false)⟩,
          ⟨some 123, .b2s (.tmp 122), some (117, false)⟩,
          ⟨some 124, .binT .neq (.tmp 120) (.tmp 123), some (117, false)⟩,
          ⟨some 125, .pick (.tmp 117) (.cst (.bool true)) (.tmp 124), none⟩,
          ⟨some 126, .mv (.tmp 125), none⟩,
          ⟨some 127, .mv (.tmp 18), some (126, false)⟩,
          ⟨some 128, .mv (.tmp 127), some (126, false)⟩,
          ⟨some 129, .fadr 0 (.tmp 16), some (128, true)⟩,
          ⟨some 130, .load false 1 (.tmp 129), some (128, true)⟩,
          ⟨some 131, .mv (.tmp 0), some (128, true)⟩,
          ⟨some 132, .bin .sub (.tmp 130) (.tmp 131), some (128, true)⟩,
          ⟨some 133, .fadr 0 (.tmp 20), some (128, true)⟩,
          ⟨some 134, .load false 1 (.tmp 133), some (128, true)⟩,
          ⟨some 135, .mv (.tmp 1), some (128, true)⟩,
          ⟨some 136, .bin .sub (.tmp 134) (.tmp 135), some (128, true)⟩,
          ⟨some 137, .bin .neq (.tmp 132) (.tmp 136), some (128, true)⟩,
          ⟨some 138, .pick (.tmp 128) (.tmp 137) (.cst (.bool false)), some (126, false)⟩,
          ⟨some 139, .pick (.tmp 126) (.cst (.bool true)) (.tmp 138), none⟩])
        (.cond (.tmp 139)
          (.seq (.reg [⟨some 6, .mv (.cst (.bool false)), none⟩])
          .ret)
          .skip)))))
        (.seq (.reg [⟨some 141, .bin .eql (.tmp 56) (.cst (.int .u64 3)), none⟩,
          ⟨some 140, .mv (.tmp 141), none⟩])
        (.cond (.tmp 140)
          (.seq (.reg [⟨some 143, .load true 6 (.tmp 7), none⟩,
            ⟨some 144, .fadr 3 (.tmp 10), none⟩,
            ⟨some 145, .load false 1 (.tmp 144), none⟩,
            ⟨some 146, .call 14 [(.tmp 143), (.tmp 145)], none⟩,
            ⟨some 142, .mv (.tmp 146), none⟩,
            ⟨some 147, .ext (.tmp 142) 0, none⟩,
            ⟨some 148, .ext (.tmp 142) 1, none⟩,
            ⟨some 149, .ext (.tmp 142) 2, none⟩,
            ⟨some 23, .newb [(.int .u32 0), .nil], none⟩,
            ⟨none, .store 2 (.tmp 23) (.tmp 147), none⟩,
            ⟨some 24, .mv (.tmp 148), none⟩,
            ⟨some 25, .mv (.tmp 149), none⟩])
          (.seq (.reg [⟨some 151, .load true 6 (.tmp 8), none⟩,
            ⟨some 152, .fadr 3 (.tmp 10), none⟩,
            ⟨some 153, .load false 1 (.tmp 152), none⟩,
            ⟨some 154, .call 14 [(.tmp 151), (.tmp 153)], none⟩,
            ⟨some 150, .mv (.tmp 154), none⟩,
            ⟨some 155, .ext (.tmp 150) 0, none⟩,
            ⟨some 156, .ext (.tmp 150) 1, none⟩,
            ⟨some 157, .ext (.tmp 150) 2, none⟩,
            ⟨some 26, .newb [(.int .u32 0), .nil], none⟩,
            ⟨none, .store 2 (.tmp 26) (.tmp 155), none⟩,
            ⟨some 27, .mv (.tmp 156), none⟩,
            ⟨some 28, .mv (.tmp 157), none⟩])
          (.seq (.reg [⟨some 158, .mv (.tmp 25), none⟩,
            ⟨some 159, .mv (.tmp 28), none⟩,
            ⟨some 160, .binB true (.tmp 158) (.tmp 159), none⟩,
            ⟨some 161, .mv (.tmp 160), none⟩,
            ⟨some 162, .mv (.tmp 24), some (161, false)⟩,
            ⟨some 163, .mv (.tmp 27), some (161, false)⟩,
            ⟨some 164, .binB true (.tmp 162) (.tmp 163), some (161, false)⟩,
            ⟨some 165, .pick (.tmp 161) (.cst (.bool true)) (.tmp 164), none⟩,
            ⟨some 166, .mv (.tmp 165), none⟩,
            ⟨some 167, .fadr 1 (.tmp 23), some (166, false)⟩,
            ⟨some 168, .load false 1 (.tmp 167), some (166, false)⟩,
            ⟨some 169, .b2s (.tmp 168), some (166, false)⟩,
            ⟨some 170, .fadr 1 (.tmp 26), some (166, false)⟩,
            ⟨some 171, .load false 1 (.tmp 170), some (166, false)⟩,
            ⟨some 172, .b2s (.tmp 171), some (166, false)⟩,
            ⟨some 173, .binT .neq (.tmp 169) (.tmp 172), some (166, false)⟩,
            ⟨some 174, .pick (.tmp 166) (.cst (.bool true)) (.tmp 173), none⟩,
            ⟨some 175, .mv (.tmp 174), none⟩,
            ⟨some 176, .mv (.tmp 25), some (175, false)⟩,
            ⟨some 177, .mv (.tmp 176), some (175, false)⟩,
            ⟨some 178, .fadr 0 (.tmp 23), some (177, true)⟩,
            ⟨some 179, .load false 1 (.tmp 178), some (177, true)⟩,
            ⟨some 180, .mv (.tmp 0), some (177, true)⟩,
            ⟨some 181, .bin .sub (.tmp 179) (.tmp 180), some (177, true)⟩,
            ⟨some 182, .fadr 0 (.tmp 26), some (177, true)⟩,
            ⟨some 183, .load false 1 (.tmp 182), some (177, true)⟩,
            ⟨some 184, .mv (.tmp 1), some (177, true)⟩,
            ⟨some 185, .bin .sub (.tmp 183) (.tmp 184), some (177, true)⟩,
            ⟨some 186, .bin .neq (.tmp 181) (.tmp 185), some (177, true)⟩,
            ⟨some 187, .pick (.tmp 177) (.tmp 186) (.cst (.bool false)), some (175, false)⟩,
            ⟨some 188, .pick (.tmp 175) (.cst (.bool true)) (.tmp 187), none⟩])
          (.cond (.tmp 188)
            (.seq (.reg [⟨some 6, .mv (.cst (.bool false)), none⟩])
            .ret)
            .skip))))
          (.seq (.seq (.reg [⟨some 190, .bin .eql (.tmp 56) (.cst (.int .u64 4)), none⟩,
            ⟨some 189, .mv (.tmp 190), none⟩])
          (.cond (.tmp 189)
            .skip
            (.reg [⟨some 191, .bin .eql (.tmp 56) (.cst (.int .u64 5)), none⟩,
              ⟨some 189, .mv (.tmp 191), none⟩])))
          (.cond (.tmp 189)
            (.seq (.reg [⟨some 193, .load true 6 (.tmp 7), none⟩,
              ⟨some 194, .fadr 0 (.tmp 7), none⟩,
              ⟨some 195, .load false 1 (.tmp 194), none⟩,
              ⟨some 196, .fadr 2 (.tmp 10), none⟩,
              ⟨some 197, .load false 1 (.tmp 196), none⟩,
              ⟨some 198, .conv .u32 (.tmp 197), none⟩,
              ⟨some 199, .bin .add (.tmp 195) (.tmp 198), none⟩,
              ⟨some 200, .call 15 [(.tmp 193), (.tmp 199)], none⟩,
              ⟨some 192, .mv (.tmp 200), none⟩,
              ⟨some 201, .ext (.tmp 192) 0, none⟩,
              ⟨some 202, .ext (.tmp 192) 1, none⟩,
              ⟨some 203, .ext (.tmp 192) 2, none⟩,
              ⟨some 29, .newb [(.int .u32 0), .nil, (.int .i64 0), (.bool false), (.bool false), (.bool false)], none⟩,
              ⟨none, .store 6 (.tmp 29) (.tmp 201), none⟩,
              ⟨some 30, .mv (.tmp 202), none⟩,
              ⟨some 31, .mv (.tmp 203), none⟩])
            (.seq (.reg [⟨some 205, .load true 6 (.tmp 8), none⟩,
              ⟨some 206, .fadr 0 (.tmp 8), none⟩,
              ⟨some 207, .load false 1 (.tmp 206), none⟩,
              ⟨some 208, .fadr 2 (.tmp 10), none⟩,
              ⟨some 209, .load false 1 (.tmp 208), none⟩,
              ⟨some 210, .conv .u32 (.tmp 209), none⟩,
              ⟨some 211, .bin .add (.tmp 207) (.tmp 210), none⟩,
              ⟨some 212, .call 15 [(.tmp 205), (.tmp 211)], none⟩,
              ⟨some 204, .mv (.tmp 212), none⟩,
              ⟨some 213, .ext (.tmp 204) 0, none⟩,
              ⟨some 214, .ext (.tmp 204) 1, none⟩,
              ⟨some 215, .ext (.tmp 204) 2, none⟩,
              ⟨some 32, .newb [(.int .u32 0), .nil, (.int .i64 0), (.bool false), (.bool false), (.bool false)], none⟩,
              ⟨none, .store 6 (.tmp 32) (.tmp 213), none⟩,
              ⟨some 33, .mv (.tmp 214), none⟩,
              ⟨some 34, .mv (.tmp 215), none⟩])
            (.seq (.drw [⟨some 216, .load true 6 (.tmp 29), none⟩,
              ⟨some 217, .load true 6 (.tmp 32), none⟩,
              ⟨none, .store 6 (.tmp 7) (.tmp 216), none⟩,
              ⟨none, .store 6 (.tmp 8) (.tmp 217), none⟩] [[], [], [1], []])
            (.seq (.reg [⟨some 218, .mv (.tmp 30), none⟩,
              ⟨some 219, .mv (.tmp 33), none⟩,
              ⟨some 220, .bin .neq (.tmp 218) (.tmp 219), none⟩,
              ⟨some 221, .mv (.tmp 220), none⟩,
              ⟨some 222, .mv (.tmp 31), some (221, false)⟩,
              ⟨some 223, .mv (.tmp 34), some (221, false)⟩,
              ⟨some 224, .bin .neq (.tmp 222) (.tmp 223), some (221, false)⟩,
              ⟨some 225, .pick (.tmp 221) (.cst (.bool true)) (.tmp 224), none⟩])
            (.cond (.tmp 225)
              (.seq (.reg [⟨some 6, .mv (.cst (.bool false)), none⟩])
              .ret)
              .skip)))))
            (.reg [⟨some 57, .load true 6 (.tmp 7), none⟩,
              ⟨some 58, .call 16 [(.tmp 57)], none⟩,
              ⟨some 59, .load true 6 (.tmp 8), none⟩,
              ⟨some 60, .call 16 [(.tmp 59)], none⟩,
              ⟨none, .store 6 (.tmp 7) (.tmp 58), none⟩,
              ⟨none, .store 6 (.tmp 8) (.tmp 60), none⟩])))))))))))
    (.seq (.reg [⟨some 226, .fadr 0 (.tmp 7), none⟩,
      ⟨some 227, .load false 1 (.tmp 226), none⟩,
      ⟨some 228, .mv (.tmp 0), none⟩,
      ⟨some 229, .bin .sub (.tmp 227) (.tmp 228), none⟩,
      ⟨some 230, .fadr 0 (.tmp 8), none⟩,
      ⟨some 231, .load false 1 (.tmp 230), none⟩,
      ⟨some 232, .mv (.tmp 1), none⟩,
      ⟨some 233, .bin .sub (.tmp 231) (.tmp 232), none⟩,
      ⟨some 234, .bin .neq (.tmp 229) (.tmp 233), none⟩,
      ⟨some 235, .mv (.tmp 234), none⟩,
      ⟨some 236, .fadr 2 (.tmp 7), some (235, false)⟩,
      ⟨some 237, .load false 1 (.tmp 236), some (235, false)⟩,
      ⟨some 238, .fadr 2 (.tmp 8), some (235, false)⟩,
      ⟨some 239, .load false 1 (.tmp 238), some (235, false)⟩,
      ⟨some 240, .bin .neq (.tmp 237) (.tmp 239), some (235, false)⟩,
      ⟨some 241, .pick (.tmp 235) (.cst (.bool true)) (.tmp 240), none⟩,
      ⟨some 242, .mv (.tmp 241), none⟩,
      ⟨some 243, .fadr 1 (.tmp 7), some (242, false)⟩,
      ⟨some 244, .load false 1 (.tmp 243), some (242, false)⟩,
      ⟨some 245, .b2s (.tmp 244), some (242, false)⟩,
      ⟨some 246, .fadr 1 (.tmp 8), some (242, false)⟩,
      ⟨some 247, .load false 1 (.tmp 246), some (242, false)⟩,
      ⟨some 248, .b2s (.tmp 247), some (242, false)⟩,
      ⟨some 249, .binT .neq (.tmp 245) (.tmp 248), some (242, false)⟩,
      ⟨some 250, .pick (.tmp 242) (.cst (.bool true)) (.tmp 249), none⟩,
      ⟨some 251, .mv (.tmp 250), none⟩,
      ⟨some 252, .fadr 3 (.tmp 7), some (251, false)⟩,
      ⟨some 253, .load false 1 (.tmp 252), some (251, false)⟩,
      ⟨some 254, .not (.tmp 253), some (251, false)⟩,
      ⟨some 255, .mv (.tmp 254), some (251, false)⟩,
      ⟨some 256, .load true 6 (.tmp 7), some (255, true)⟩,
      ⟨some 257, .call 17 [(.tmp 256)], some (255, true)⟩,
      ⟨some 258, .fadr 1 (.tmp 7), some (255, true)⟩,
      ⟨some 259, .load false 1 (.tmp 258), some (255, true)⟩,
      ⟨some 260, .lenV (.tmp 259), some (255, true)⟩,
      ⟨some 261, .bin .add (.tmp 257) (.tmp 260), some (255, true)⟩,
      ⟨some 262, .bin .neq (.tmp 261) (.cst (.int .i64 256)), some (255, true)⟩,
      ⟨some 263, .pick (.tmp 255) (.tmp 262) (.cst (.bool false)), some (251, false)⟩,
      ⟨some 264, .pick (.tmp 251) (.cst (.bool true)) (.tmp 263), none⟩,
      ⟨some 265, .mv (.tmp 264), none⟩,
      ⟨some 266, .load true 6 (.tmp 7), some (265, false)⟩,
      ⟨some 267, .call 18 [(.tmp 266)], some (265, false)⟩,
      ⟨some 268, .load true 6 (.tmp 8), some (265, false)⟩,
      ⟨some 269, .call 18 [(.tmp 268)], some (265, false)⟩,
      ⟨some 270, .bin .neq (.tmp 267) (.tmp 269), some (265, false)⟩,
      ⟨some 271, .pick (.tmp 265) (.cst (.bool true)) (.tmp 270), none⟩])
    (.cond (.tmp 271)
      (.seq (.reg [⟨some 6, .mv (.cst (.bool false)), none⟩])
      .ret)
      .skip)))))
    (.reg [⟨some 272, .bin .add (.tmp 49) (.cst (.int .i64 1)), none⟩,
      ⟨some 49, .mv (.tmp 272), none⟩])))))))
  (.seq (.reg [⟨some 6, .mv (.cst (.bool true)), none⟩])
  .ret)))))
theorem p_caravellaw18_SendqMoved : Try.f4.body.bind (compC Try.prog 273) = some c_caravellaw18_SendqMoved := by kernel_rfl
theorem r_caravellaw18_SendqMoved : tellR Try.prog Try.f4.results.toList = some [.t 6] := by kernel_rfl

/-- caravel/caravellaw18.SendqStream: 2 in. -/
def c_caravellaw18_SendqStream : ACode :=
  (.seq (.reg [⟨some 4, .mv (.cst (.bool false)), none⟩])
  (.seq (.seq (.reg [⟨some 28, .call 8 [], none⟩,
    ⟨some 29, .not (.tmp 28), none⟩,
    ⟨some 30, .mv (.tmp 29), none⟩,
    ⟨some 31, .mv (.tmp 1), some (30, false)⟩,
    ⟨some 32, .call 10 [(.tmp 31)], some (30, false)⟩,
    ⟨some 33, .not (.tmp 32), some (30, false)⟩,
    ⟨some 34, .pick (.tmp 30) (.cst (.bool true)) (.tmp 33), none⟩])
  (.cond (.tmp 34)
    (.seq (.reg [⟨some 35, .call 8 [], none⟩,
      ⟨some 4, .mv (.tmp 35), none⟩])
    .ret)
    .skip))
  (.seq (.reg [⟨some 36, .mv (.tmp 0), none⟩,
    ⟨some 37, .call 11 [(.tmp 36)], none⟩,
    ⟨some 5, .newb [(.int .u32 0), .nil, (.int .i64 0), (.bool false), (.bool false), (.bool false)], none⟩,
    ⟨none, .store 6 (.tmp 5) (.tmp 37), none⟩])
  (.seq (.reg [⟨some 6, .mv (.cst (.str [])), none⟩,
    ⟨some 7, .mv (.cst (.str [])), none⟩,
    ⟨some 8, .mv (.cst (.int .i64 0)), none⟩,
    ⟨some 9, .mv (.cst (.bool false)), none⟩])
  (.seq (.seq (.reg [⟨some 38, .mv (.tmp 1), none⟩,
    ⟨some 39, .lenV (.tmp 38), none⟩,
    ⟨some 40, .mv (.cst (.int .i64 0)), none⟩])
  (.block 0 (.loop
    (.seq (.reg [⟨some 41, .bin .lss (.tmp 40) (.tmp 39), none⟩])
    (.seq (.cond (.tmp 41)
      .skip
      (.exit 0))
    (.seq (.block 1 (.seq (.reg [⟨some 42, .iadS 4 (.tmp 38) (.tmp 40), none⟩,
      ⟨some 43, .load true 4 (.tmp 42), none⟩,
      ⟨some 11, .newb [(.int .i64 0), .nil, (.int .i64 0), (.int .i64 0)], none⟩,
      ⟨none, .store 4 (.tmp 11) (.tmp 43), none⟩])
    (.seq (.seq (.reg [⟨some 44, .fadr 0 (.tmp 11), none⟩,
      ⟨some 45, .load false 1 (.tmp 44), none⟩,
      ⟨some 46, .conv .u64 (.tmp 45), none⟩,
      ⟨some 47, .bin .rem (.tmp 46) (.cst (.int .u64 7)), none⟩])
    (.block 2 (.seq (.reg [⟨some 51, .bin .eql (.tmp 47) (.cst (.int .u64 0)), none⟩,
      ⟨some 50, .mv (.tmp 51), none⟩])
    (.cond (.tmp 50)
      (.seq (.reg [⟨some 53, .load true 6 (.tmp 5), none⟩,
        ⟨some 54, .fadr 1 (.tmp 11), none⟩,
        ⟨some 55, .load false 1 (.tmp 54), none⟩,
        ⟨some 56, .call 12 [(.tmp 53), (.tmp 55)], none⟩,
        ⟨some 52, .mv (.tmp 56), none⟩,
        ⟨some 57, .ext (.tmp 52) 0, none⟩,
        ⟨some 58, .ext (.tmp 52) 1, none⟩,
        ⟨some 12, .newb [(.int .u32 0), .nil, (.int .i64 0), (.bool false), (.bool false), (.bool false)], none⟩,
        ⟨none, .store 6 (.tmp 12) (.tmp 57), none⟩,
        ⟨some 13, .mv (.tmp 58), none⟩])
      (.seq (.reg [⟨some 59, .load true 6 (.tmp 12), none⟩,
        ⟨none, .store 6 (.tmp 5) (.tmp 59), none⟩])
      (.reg [⟨some 60, .mv (.tmp 6), none⟩,
        ⟨some 61, .fadr 1 (.tmp 11), none⟩,
        ⟨some 62, .load false 1 (.tmp 61), none⟩,
        ⟨some 63, .mv (.tmp 13), none⟩,
        ⟨some 64, .slS 1 (.tmp 62) none (some (.tmp 63)) none, none⟩,
        ⟨some 65, .b2s (.tmp 64), none⟩,
        ⟨some 66, .binT .add (.tmp 60) (.tmp 65), none⟩,
        ⟨some 6, .mv (.tmp 66), none⟩])))
      (.seq (.seq (.reg [⟨some 68, .bin .eql (.tmp 47) (.cst (.int .u64 1)), none⟩,
        ⟨some 67, .mv (.tmp 68), none⟩])
      (.cond (.tmp 67)
        .skip
        (.reg [⟨some 69, .bin .eql (.tmp 47) (.cst (.int .u64 2)), none⟩,
          ⟨some 67, .mv (.tmp 69), none⟩])))
      (.cond (.tmp 67)
        (.seq (.reg [⟨some 71, .load true 6 (.tmp 5), none⟩,
          ⟨some 72, .fadr 2 (.tmp 11), none⟩,
          ⟨some 73, .load false 1 (.tmp 72), none⟩,
          ⟨some 74, .fadr 3 (.tmp 11), none⟩,
          ⟨some 75, .load false 1 (.tmp 74), none⟩,
          ⟨some 76, .call 13 [(.tmp 71), (.tmp 73), (.tmp 75)], none⟩,
          ⟨some 70, .mv (.tmp 76), none⟩,
          ⟨some 77, .ext (.tmp 70) 0, none⟩,
          ⟨some 78, .ext (.tmp 70) 1, none⟩,
          ⟨some 79, .ext (.tmp 70) 2, none⟩,
          ⟨some 80, .ext (.tmp 70) 3, none⟩,
          ⟨some 14, .newb [(.int .u32 0), .nil, (.int .i64 0), (.bool false), (.bool false), (.bool false)], none⟩,
          ⟨some 15, .newb [(.int .u32 0), .nil], none⟩,
          ⟨none, .store 6 (.tmp 14) (.tmp 77), none⟩,
          ⟨none, .store 2 (.tmp 15) (.tmp 78), none⟩,
          ⟨some 16, .mv (.tmp 79), none⟩,
          ⟨some 17, .mv (.tmp 80), none⟩])
        (.seq (.reg [⟨some 81, .load true 6 (.tmp 14), none⟩,
          ⟨none, .store 6 (.tmp 5) (.tmp 81), none⟩])
        (.seq (.seq (.reg [⟨some 82, .mv (.tmp 17), none⟩,
          ⟨some 83, .mv (.tmp 82), none⟩,
          ⟨some 84, .fadr 0 (.tmp 15), some (83, true)⟩,
          ⟨some 85, .load false 1 (.tmp 84), some (83, true)⟩,
          ⟨some 86, .mv (.tmp 0), some (83, true)⟩,
          ⟨some 87, .mv (.tmp 7), some (83, true)⟩,
          ⟨some 88, .lenT (.tmp 87), some (83, true)⟩,
          ⟨some 89, .conv .u32 (.tmp 88), some (83, true)⟩,
          ⟨some 90, .bin .add (.tmp 86) (.tmp 89), some (83, true)⟩,
          ⟨some 91, .bin .neq (.tmp 85) (.tmp 90), some (83, true)⟩,
          ⟨some 92, .mv (.tmp 91), some (83, true)⟩,
          ⟨some 93, .mv (.tmp 9), some (92, false)⟩,
          ⟨some 94, .pick (.tmp 92) (.cst (.bool true)) (.tmp 93), some (83, true)⟩,
          ⟨some 95, .pick (.tmp 83) (.tmp 94) (.cst (.bool false)), none⟩])
        (.cond (.tmp 95)
          (.seq (.reg [⟨some 4, .mv (.cst (.bool false)), none⟩])
          .ret)
          .skip))
        (.seq (.reg [⟨some 96, .mv (.tmp 7), none⟩,
          ⟨some 97, .fadr 1 (.tmp 15), none⟩,
          ⟨some 98, .load false 1 (.tmp 97), none⟩,
          ⟨some 99, .b2s (.tmp 98), none⟩,
          ⟨some 100, .binT .add (.tmp 96) (.tmp 99), none⟩,
          ⟨some 7, .mv (.tmp 100), none⟩])
        (.reg [⟨some 101, .mv (.tmp 9), none⟩,
          ⟨some 102, .mv (.tmp 101), none⟩,
          ⟨some 103, .mv (.tmp 16), some (102, false)⟩,
          ⟨some 104, .pick (.tmp 102) (.cst (.bool true)) (.tmp 103), none⟩,
          ⟨some 9, .mv (.tmp 104), none⟩])))))
        (.seq (.reg [⟨some 106, .bin .eql (.tmp 47) (.cst (.int .u64 3)), none⟩,
          ⟨some 105, .mv (.tmp 106), none⟩])
        (.cond (.tmp 105)
          (.seq (.reg [⟨some 108, .load true 6 (.tmp 5), none⟩,
            ⟨some 109, .fadr 3 (.tmp 11), none⟩,
            ⟨some 110, .load false 1 (.tmp 109), none⟩,
            ⟨some 111, .call 14 [(.tmp 108), (.tmp 110)], none⟩,
            ⟨some 107, .mv (.tmp 111), none⟩,
            ⟨some 112, .ext (.tmp 107) 0, none⟩,
            ⟨some 113, .ext (.tmp 107) 1, none⟩,
            ⟨some 114, .ext (.tmp 107) 2, none⟩,
            ⟨some 18, .newb [(.int .u32 0), .nil], none⟩,
            ⟨none, .store 2 (.tmp 18) (.tmp 112), none⟩,
            ⟨some 19, .mv (.tmp 113), none⟩,
            ⟨some 20, .mv (.tmp 114), none⟩])
          (.seq (.reg [⟨some 115, .mv (.tmp 20), none⟩,
            ⟨some 116, .mv (.tmp 115), none⟩,
            ⟨some 117, .fadr 0 (.tmp 18), some (116, true)⟩,
            ⟨some 118, .load false 1 (.tmp 117), some (116, true)⟩,
            ⟨some 119, .mv (.tmp 0), some (116, true)⟩,
            ⟨some 120, .mv (.tmp 8), some (116, true)⟩,
            ⟨some 121, .conv .u32 (.tmp 120), some (116, true)⟩,
            ⟨some 122, .bin .add (.tmp 119) (.tmp 121), some (116, true)⟩,
            ⟨some 123, .bin .neq (.tmp 118) (.tmp 122), some (116, true)⟩,
            ⟨some 124, .mv (.tmp 123), some (116, true)⟩,
            ⟨some 125, .mv (.tmp 19), some (124, false)⟩,
            ⟨some 126, .mv (.tmp 125), some (124, false)⟩,
            ⟨some 127, .mv (.tmp 9), some (126, true)⟩,
            ⟨some 128, .not (.tmp 127), some (126, true)⟩,
            ⟨some 129, .pick (.tmp 126) (.tmp 128) (.cst (.bool false)), some (124, false)⟩,
            ⟨some 130, .pick (.tmp 124) (.cst (.bool true)) (.tmp 129), some (116, true)⟩,
            ⟨some 131, .mv (.tmp 130), some (116, true)⟩,
            ⟨some 132, .mv (.tmp 8), some (131, false)⟩,
            ⟨some 133, .fadr 1 (.tmp 18), some (131, false)⟩,
            ⟨some 134, .load false 1 (.tmp 133), some (131, false)⟩,
            ⟨some 135, .lenV (.tmp 134), some (131, false)⟩,
            ⟨some 136, .bin .add (.tmp 132) (.tmp 135), some (131, false)⟩,
            ⟨some 137, .mv (.tmp 7), some (131, false)⟩,
            ⟨some 138, .lenT (.tmp 137), some (131, false)⟩,
            ⟨some 139, .bin .gtr (.tmp 136) (.tmp 138), some (131, false)⟩,
            ⟨some 140, .pick (.tmp 131) (.cst (.bool true)) (.tmp 139), some (116, true)⟩,
            ⟨some 141, .mv (.tmp 140), some (116, true)⟩,
            ⟨some 142, .fadr 1 (.tmp 18), some (141, false)⟩,
            ⟨some 143, .load false 1 (.tmp 142), some (141, false)⟩,
            ⟨some 144, .b2s (.tmp 143), some (141, false)⟩,
            ⟨some 145, .mv (.tmp 7), some (141, false)⟩,
            ⟨some 146, .mv (.tmp 8), some (141, false)⟩,
            ⟨some 147, .mv (.tmp 7), some (141, false)⟩,
            ⟨some 148, .lenT (.tmp 147), some (141, false)⟩,
            ⟨some 149, .min [(.tmp 146), (.tmp 148)], some (141, false)⟩,
            ⟨some 150, .slT (.tmp 145) (some (.tmp 149)) none, some (141, false)⟩,
            ⟨some 151, .fadr 1 (.tmp 18), some (141, false)⟩,
            ⟨some 152, .load false 1 (.tmp 151), some (141, false)⟩,
            ⟨some 153, .lenV (.tmp 152), some (141, false)⟩,
            ⟨some 154, .slT (.tmp 150) none (some (.tmp 153)), some (141, false)⟩,
            ⟨some 155, .binT .neq (.tmp 144) (.tmp 154), some (141, false)⟩,
            ⟨some 156, .pick (.tmp 141) (.cst (.bool true)) (.tmp 155), some (116, true)⟩,
            ⟨some 157, .pick (.tmp 116) (.tmp 156) (.cst (.bool false)), none⟩])
          (.cond (.tmp 157)
            (.seq (.reg [⟨some 4, .mv (.cst (.bool false)), none⟩])
            .ret)
            .skip)))
          (.seq (.seq (.reg [⟨some 159, .bin .eql (.tmp 47) (.cst (.int .u64 4)), none⟩,
            ⟨some 158, .mv (.tmp 159), none⟩])
          (.cond (.tmp 158)
            .skip
            (.reg [⟨some 160, .bin .eql (.tmp 47) (.cst (.int .u64 5)), none⟩,
              ⟨some 158, .mv (.tmp 160), none⟩])))
          (.cond (.tmp 158)
            (.seq (.reg [⟨some 162, .load true 6 (.tmp 5), none⟩,
              ⟨some 163, .fadr 0 (.tmp 5), none⟩,
              ⟨some 164, .load false 1 (.tmp 163), none⟩,
              ⟨some 165, .fadr 2 (.tmp 11), none⟩,
              ⟨some 166, .load false 1 (.tmp 165), none⟩,
              ⟨some 167, .conv .u32 (.tmp 166), none⟩,
              ⟨some 168, .bin .add (.tmp 164) (.tmp 167), none⟩,
              ⟨some 169, .call 15 [(.tmp 162), (.tmp 168)], none⟩,
              ⟨some 161, .mv (.tmp 169), none⟩,
              ⟨some 170, .ext (.tmp 161) 0, none⟩,
              ⟨some 171, .ext (.tmp 161) 1, none⟩,
              ⟨some 172, .ext (.tmp 161) 2, none⟩,
              ⟨some 21, .newb [(.int .u32 0), .nil, (.int .i64 0), (.bool false), (.bool false), (.bool false)], none⟩,
              ⟨none, .store 6 (.tmp 21) (.tmp 170), none⟩,
              ⟨some 22, .mv (.tmp 171), none⟩,
              ⟨some 23, .mv (.tmp 172), none⟩])
            (.seq (.reg [⟨some 173, .load true 6 (.tmp 21), none⟩,
              ⟨none, .store 6 (.tmp 5) (.tmp 173), none⟩])
            (.reg [⟨some 174, .mv (.tmp 8), none⟩,
              ⟨some 175, .mv (.tmp 22), none⟩,
              ⟨some 176, .bin .add (.tmp 174) (.tmp 175), none⟩,
              ⟨some 8, .mv (.tmp 176), none⟩])))
            (.reg [⟨some 48, .load true 6 (.tmp 5), none⟩,
              ⟨some 49, .call 16 [(.tmp 48)], none⟩,
              ⟨none, .store 6 (.tmp 5) (.tmp 49), none⟩])))))))))))
    (.seq (.reg [⟨some 177, .mv (.tmp 7), none⟩,
      ⟨some 178, .lenT (.tmp 177), none⟩,
      ⟨some 179, .mv (.tmp 6), none⟩,
      ⟨some 180, .lenT (.tmp 179), none⟩,
      ⟨some 181, .bin .gtr (.tmp 178) (.tmp 180), none⟩,
      ⟨some 182, .mv (.tmp 181), none⟩,
      ⟨some 183, .mv (.tmp 7), some (182, false)⟩,
      ⟨some 184, .mv (.tmp 6), some (182, false)⟩,
      ⟨some 185, .mv (.tmp 7), some (182, false)⟩,
      ⟨some 186, .lenT (.tmp 185), some (182, false)⟩,
      ⟨some 187, .slT (.tmp 184) none (some (.tmp 186)), some (182, false)⟩,
      ⟨some 188, .binT .neq (.tmp 183) (.tmp 187), some (182, false)⟩,
      ⟨some 189, .pick (.tmp 182) (.cst (.bool true)) (.tmp 188), none⟩,
      ⟨some 190, .mv (.tmp 189), none⟩,
      ⟨some 191, .mv (.tmp 9), some (190, false)⟩,
      ⟨some 192, .mv (.tmp 191), some (190, false)⟩,
      ⟨some 193, .mv (.tmp 7), some (192, true)⟩,
      ⟨some 194, .mv (.tmp 6), some (192, true)⟩,
      ⟨some 195, .binT .neq (.tmp 193) (.tmp 194), some (192, true)⟩,
      ⟨some 196, .pick (.tmp 192) (.tmp 195) (.cst (.bool false)), some (190, false)⟩,
      ⟨some 197, .pick (.tmp 190) (.cst (.bool true)) (.tmp 196), none⟩,
      ⟨some 198, .mv (.tmp 197), none⟩,
      ⟨some 199, .mv (.tmp 8), some (198, false)⟩,
      ⟨some 200, .mv (.tmp 7), some (198, false)⟩,
      ⟨some 201, .lenT (.tmp 200), some (198, false)⟩,
      ⟨some 202, .bin .add (.tmp 201) (.cst (.int .i64 1)), some (198, false)⟩,
      ⟨some 203, .bin .gtr (.tmp 199) (.tmp 202), some (198, false)⟩,
      ⟨some 204, .pick (.tmp 198) (.cst (.bool true)) (.tmp 203), none⟩,
      ⟨some 205, .mv (.tmp 204), none⟩,
      ⟨some 206, .mv (.tmp 6), some (205, false)⟩,
      ⟨some 207, .lenT (.tmp 206), some (205, false)⟩,
      ⟨some 208, .mv (.tmp 8), some (205, false)⟩,
      ⟨some 209, .bin .sub (.tmp 207) (.tmp 208), some (205, false)⟩,
      ⟨some 210, .bin .gtr (.tmp 209) (.cst (.int .i64 256)), some (205, false)⟩,
      ⟨some 211, .pick (.tmp 205) (.cst (.bool true)) (.tmp 210), none⟩])
    (.cond (.tmp 211)
      (.seq (.reg [⟨some 4, .mv (.cst (.bool false)), none⟩])
      .ret)
      .skip)))))
    (.reg [⟨some 212, .bin .add (.tmp 40) (.cst (.int .i64 1)), none⟩,
      ⟨some 40, .mv (.tmp 212), none⟩])))))))
  (.seq (.seq (.reg [⟨some 213, .mv (.tmp 6), none⟩,
    ⟨some 214, .lenT (.tmp 213), none⟩,
    ⟨some 215, .bin .add (.tmp 214) (.cst (.int .i64 2)), none⟩,
    ⟨some 216, .mv (.cst (.int .i64 0)), none⟩])
  (.block 3 (.loop
    (.seq (.reg [⟨some 217, .bin .lss (.tmp 216) (.tmp 215), none⟩])
    (.seq (.cond (.tmp 217)
      .skip
      (.exit 3))
    (.seq (.block 4 (.seq (.reg [⟨some 219, .load true 6 (.tmp 5), none⟩,
      ⟨some 220, .call 13 [(.tmp 219), (.cst (.int .i64 1048576)), (.cst (.int .i64 64))], none⟩,
      ⟨some 218, .mv (.tmp 220), none⟩,
      ⟨some 221, .ext (.tmp 218) 0, none⟩,
      ⟨some 222, .ext (.tmp 218) 1, none⟩,
      ⟨some 223, .ext (.tmp 218) 2, none⟩,
      ⟨some 224, .ext (.tmp 218) 3, none⟩,
      ⟨some 24, .newb [(.int .u32 0), .nil, (.int .i64 0), (.bool false), (.bool false), (.bool false)], none⟩,
      ⟨some 25, .newb [(.int .u32 0), .nil], none⟩,
      ⟨none, .store 6 (.tmp 24) (.tmp 221), none⟩,
      ⟨none, .store 2 (.tmp 25) (.tmp 222), none⟩,
      ⟨some 26, .mv (.tmp 223), none⟩,
      ⟨some 27, .mv (.tmp 224), none⟩])
    (.seq (.seq (.reg [⟨some 225, .mv (.tmp 27), none⟩,
      ⟨some 226, .not (.tmp 225), none⟩])
    (.cond (.tmp 226)
      (.exit 3)
      .skip))
    (.seq (.reg [⟨some 227, .load true 6 (.tmp 24), none⟩,
      ⟨none, .store 6 (.tmp 5) (.tmp 227), none⟩])
    (.seq (.reg [⟨some 228, .mv (.tmp 7), none⟩,
      ⟨some 229, .fadr 1 (.tmp 25), none⟩,
      ⟨some 230, .load false 1 (.tmp 229), none⟩,
      ⟨some 231, .b2s (.tmp 230), none⟩,
      ⟨some 232, .binT .add (.tmp 228) (.tmp 231), none⟩,
      ⟨some 7, .mv (.tmp 232), none⟩])
    (.reg [⟨some 233, .mv (.tmp 9), none⟩,
      ⟨some 234, .mv (.tmp 233), none⟩,
      ⟨some 235, .mv (.tmp 26), some (234, false)⟩,
      ⟨some 236, .pick (.tmp 234) (.cst (.bool true)) (.tmp 235), none⟩,
      ⟨some 9, .mv (.tmp 236), none⟩]))))))
    (.reg [⟨some 237, .bin .add (.tmp 216) (.cst (.int .i64 1)), none⟩,
      ⟨some 216, .mv (.tmp 237), none⟩])))))))
  (.seq (.reg [⟨some 238, .mv (.tmp 7), none⟩,
    ⟨some 239, .mv (.tmp 6), none⟩,
    ⟨some 240, .binT .eql (.tmp 238) (.tmp 239), none⟩,
    ⟨some 241, .mv (.tmp 240), none⟩,
    ⟨some 242, .mv (.tmp 9), some (241, true)⟩,
    ⟨some 243, .fadr 3 (.tmp 5), some (241, true)⟩,
    ⟨some 244, .load false 1 (.tmp 243), some (241, true)⟩,
    ⟨some 245, .binB false (.tmp 242) (.tmp 244), some (241, true)⟩,
    ⟨some 246, .pick (.tmp 241) (.tmp 245) (.cst (.bool false)), none⟩,
    ⟨some 247, .mv (.tmp 246), none⟩,
    ⟨some 248, .load true 6 (.tmp 5), some (247, true)⟩,
    ⟨some 249, .call 9 [(.tmp 248)], some (247, true)⟩,
    ⟨some 250, .pick (.tmp 247) (.tmp 249) (.cst (.bool false)), none⟩,
    ⟨some 4, .mv (.tmp 250), none⟩])
  .ret)))))))
theorem p_caravellaw18_SendqStream : Try.f5.body.bind (compC Try.prog 251) = some c_caravellaw18_SendqStream := by kernel_rfl
theorem r_caravellaw18_SendqStream : tellR Try.prog Try.f5.results.toList = some [.t 4] := by kernel_rfl

/-- caravel/caravellaw18.SendqPlays: 2 in. -/
def c_caravellaw18_SendqPlays : ACode :=
  (.seq (.reg [⟨some 4, .mv (.cst (.bool false)), none⟩])
  (.seq (.seq (.reg [⟨some 12, .call 8 [], none⟩,
    ⟨some 13, .not (.tmp 12), none⟩,
    ⟨some 14, .mv (.tmp 13), none⟩,
    ⟨some 15, .mv (.tmp 1), some (14, false)⟩,
    ⟨some 16, .call 10 [(.tmp 15)], some (14, false)⟩,
    ⟨some 17, .not (.tmp 16), some (14, false)⟩,
    ⟨some 18, .pick (.tmp 14) (.cst (.bool true)) (.tmp 17), none⟩])
  (.cond (.tmp 18)
    (.seq (.reg [⟨some 19, .call 8 [], none⟩,
      ⟨some 4, .mv (.tmp 19), none⟩])
    .ret)
    .skip))
  (.seq (.reg [⟨some 20, .mv (.tmp 0), none⟩,
    ⟨some 21, .call 11 [(.tmp 20)], none⟩,
    ⟨some 22, .mv (.tmp 0), none⟩,
    ⟨some 23, .build [(.int .u32 0), (.str []), (.int .i64 0), (.int .i64 0), (.bool false), (.bool false)] [(0, 1, (.tmp 22))], none⟩,
    ⟨some 5, .newb [(.int .u32 0), .nil, (.int .i64 0), (.bool false), (.bool false), (.bool false)], none⟩,
    ⟨some 6, .newb [(.int .u32 0), (.str []), (.int .i64 0), (.int .i64 0), (.bool false), (.bool false)], none⟩,
    ⟨none, .store 6 (.tmp 5) (.tmp 21), none⟩,
    ⟨none, .store 6 (.tmp 6) (.tmp 23), none⟩])
  (.seq (.seq (.reg [⟨some 24, .mv (.tmp 1), none⟩,
    ⟨some 25, .lenV (.tmp 24), none⟩,
    ⟨some 26, .mv (.cst (.int .i64 0)), none⟩])
  (.block 0 (.loop
    (.seq (.reg [⟨some 27, .bin .lss (.tmp 26) (.tmp 25), none⟩])
    (.seq (.cond (.tmp 27)
      .skip
      (.exit 0))
    (.seq (.block 1 (.seq (.reg [⟨some 28, .iadS 4 (.tmp 24) (.tmp 26), none⟩,
      ⟨some 29, .load true 4 (.tmp 28), none⟩,
      ⟨some 8, .newb [(.int .i64 0), .nil, (.int .i64 0), (.int .i64 0)], none⟩,
      ⟨none, .store 4 (.tmp 8) (.tmp 29), none⟩])
    (.seq (.reg [⟨some 31, .load true 6 (.tmp 5), none⟩,
      ⟨some 32, .load true 6 (.tmp 6), none⟩,
      ⟨some 33, .load true 4 (.tmp 8), none⟩,
      ⟨some 34, .call 19 [(.tmp 31), (.tmp 32), (.tmp 33)], none⟩,
      ⟨some 30, .mv (.tmp 34), none⟩,
      ⟨some 35, .ext (.tmp 30) 0, none⟩,
      ⟨some 36, .ext (.tmp 30) 1, none⟩,
      ⟨some 37, .ext (.tmp 30) 2, none⟩,
      ⟨some 9, .newb [(.int .u32 0), .nil, (.int .i64 0), (.bool false), (.bool false), (.bool false)], none⟩,
      ⟨some 10, .newb [(.int .u32 0), (.str []), (.int .i64 0), (.int .i64 0), (.bool false), (.bool false)], none⟩,
      ⟨none, .store 6 (.tmp 9) (.tmp 35), none⟩,
      ⟨none, .store 6 (.tmp 10) (.tmp 36), none⟩,
      ⟨some 11, .mv (.tmp 37), none⟩])
    (.seq (.seq (.reg [⟨some 38, .mv (.tmp 11), none⟩,
      ⟨some 39, .not (.tmp 38), none⟩,
      ⟨some 40, .mv (.tmp 39), none⟩,
      ⟨some 41, .load true 6 (.tmp 6), some (40, false)⟩,
      ⟨some 42, .load true 6 (.tmp 5), some (40, false)⟩,
      ⟨some 43, .call 20 [(.tmp 41), (.tmp 42)], some (40, false)⟩,
      ⟨some 44, .not (.tmp 43), some (40, false)⟩,
      ⟨some 45, .pick (.tmp 40) (.cst (.bool true)) (.tmp 44), none⟩,
      ⟨some 46, .mv (.tmp 45), none⟩,
      ⟨some 47, .load true 6 (.tmp 10), some (46, false)⟩,
      ⟨some 48, .load true 6 (.tmp 9), some (46, false)⟩,
      ⟨some 49, .call 20 [(.tmp 47), (.tmp 48)], some (46, false)⟩,
      ⟨some 50, .not (.tmp 49), some (46, false)⟩,
      ⟨some 51, .pick (.tmp 46) (.cst (.bool true)) (.tmp 50), none⟩,
      ⟨some 52, .mv (.tmp 51), none⟩,
      ⟨some 53, .load true 6 (.tmp 9), some (52, false)⟩,
      ⟨some 54, .call 9 [(.tmp 53)], some (52, false)⟩,
      ⟨some 55, .not (.tmp 54), some (52, false)⟩,
      ⟨some 56, .pick (.tmp 52) (.cst (.bool true)) (.tmp 55), none⟩,
      ⟨some 57, .mv (.tmp 56), none⟩,
      ⟨some 58, .load true 6 (.tmp 9), some (57, false)⟩,
      ⟨some 59, .call 17 [(.tmp 58)], some (57, false)⟩,
      ⟨some 60, .load true 6 (.tmp 10), some (57, false)⟩,
      ⟨some 61, .call 21 [(.tmp 60)], some (57, false)⟩,
      ⟨some 62, .bin .neq (.tmp 59) (.tmp 61), some (57, false)⟩,
      ⟨some 63, .pick (.tmp 57) (.cst (.bool true)) (.tmp 62), none⟩,
      ⟨some 64, .mv (.tmp 63), none⟩,
      ⟨some 65, .load true 6 (.tmp 9), some (64, false)⟩,
      ⟨some 66, .call 18 [(.tmp 65)], some (64, false)⟩,
      ⟨some 67, .load true 6 (.tmp 10), some (64, false)⟩,
      ⟨some 68, .call 22 [(.tmp 67)], some (64, false)⟩,
      ⟨some 69, .bin .neq (.tmp 66) (.tmp 68), some (64, false)⟩,
      ⟨some 70, .pick (.tmp 64) (.cst (.bool true)) (.tmp 69), none⟩,
      ⟨some 71, .mv (.tmp 70), none⟩,
      ⟨some 72, .load true 6 (.tmp 9), some (71, false)⟩,
      ⟨some 73, .call 23 [(.tmp 72)], some (71, false)⟩,
      ⟨some 74, .fadr 1 (.tmp 9), some (71, false)⟩,
      ⟨some 75, .load false 1 (.tmp 74), some (71, false)⟩,
      ⟨some 76, .lenV (.tmp 75), some (71, false)⟩,
      ⟨some 77, .bin .eql (.tmp 76) (.cst (.int .i64 0)), some (71, false)⟩,
      ⟨some 78, .mv (.tmp 77), some (71, false)⟩,
      ⟨some 79, .fadr 4 (.tmp 10), some (78, true)⟩,
      ⟨some 80, .load false 1 (.tmp 79), some (78, true)⟩,
      ⟨some 81, .not (.tmp 80), some (78, true)⟩,
      ⟨some 82, .mv (.tmp 81), some (78, true)⟩,
      ⟨some 83, .fadr 2 (.tmp 10), some (82, false)⟩,
      ⟨some 84, .load false 1 (.tmp 83), some (82, false)⟩,
      ⟨some 85, .fadr 1 (.tmp 10), some (82, false)⟩,
      ⟨some 86, .load false 1 (.tmp 85), some (82, false)⟩,
      ⟨some 87, .lenT (.tmp 86), some (82, false)⟩,
      ⟨some 88, .bin .gtr (.tmp 84) (.tmp 87), some (82, false)⟩,
      ⟨some 89, .pick (.tmp 82) (.cst (.bool true)) (.tmp 88), some (78, true)⟩,
      ⟨some 90, .pick (.tmp 78) (.tmp 89) (.cst (.bool false)), some (71, false)⟩,
      ⟨some 91, .binB true (.tmp 73) (.tmp 90), some (71, false)⟩,
      ⟨some 92, .pick (.tmp 71) (.cst (.bool true)) (.tmp 91), none⟩])
    (.cond (.tmp 92)
      (.seq (.reg [⟨some 4, .mv (.cst (.bool false)), none⟩])
      .ret)
      .skip))
    (.drw [⟨some 93, .load true 6 (.tmp 9), none⟩,
      ⟨some 94, .load true 6 (.tmp 10), none⟩,
      ⟨none, .store 6 (.tmp 5) (.tmp 93), none⟩,
      ⟨none, .store 6 (.tmp 6) (.tmp 94), none⟩] [[], [], [1], []])))))
    (.reg [⟨some 95, .bin .add (.tmp 26) (.cst (.int .i64 1)), none⟩,
      ⟨some 26, .mv (.tmp 95), none⟩])))))))
  (.seq (.reg [⟨some 96, .load true 6 (.tmp 6), none⟩,
    ⟨some 97, .load true 6 (.tmp 5), none⟩,
    ⟨some 98, .call 24 [(.tmp 97)], none⟩,
    ⟨some 99, .call 20 [(.tmp 96), (.tmp 98)], none⟩,
    ⟨some 4, .mv (.tmp 99), none⟩])
  .ret)))))
theorem p_caravellaw18_SendqPlays : Try.f6.body.bind (compC Try.prog 100) = some c_caravellaw18_SendqPlays := by kernel_rfl
theorem r_caravellaw18_SendqPlays : tellR Try.prog Try.f6.results.toList = some [.t 4] := by kernel_rfl

/-- caravel/caravellaw18.SendqEmpty: 2 in. -/
def c_caravellaw18_SendqEmpty : ACode :=
  (.seq (.reg [⟨some 4, .mv (.cst (.bool false)), none⟩])
  (.seq (.seq (.reg [⟨some 21, .call 8 [], none⟩,
    ⟨some 22, .not (.tmp 21), none⟩,
    ⟨some 23, .mv (.tmp 22), none⟩,
    ⟨some 24, .mv (.tmp 1), some (23, false)⟩,
    ⟨some 25, .call 10 [(.tmp 24)], some (23, false)⟩,
    ⟨some 26, .not (.tmp 25), some (23, false)⟩,
    ⟨some 27, .pick (.tmp 23) (.cst (.bool true)) (.tmp 26), none⟩])
  (.cond (.tmp 27)
    (.seq (.reg [⟨some 28, .call 8 [], none⟩,
      ⟨some 4, .mv (.tmp 28), none⟩])
    .ret)
    .skip))
  (.seq (.reg [⟨some 29, .mv (.tmp 0), none⟩,
    ⟨some 30, .call 11 [(.tmp 29)], none⟩,
    ⟨some 5, .newb [(.int .u32 0), .nil, (.int .i64 0), (.bool false), (.bool false), (.bool false)], none⟩,
    ⟨none, .store 6 (.tmp 5) (.tmp 30), none⟩])
  (.seq (.seq (.reg [⟨some 31, .mv (.tmp 1), none⟩,
    ⟨some 32, .lenV (.tmp 31), none⟩,
    ⟨some 33, .mv (.cst (.int .i64 0)), none⟩])
  (.block 0 (.loop
    (.seq (.reg [⟨some 34, .bin .lss (.tmp 33) (.tmp 32), none⟩])
    (.seq (.cond (.tmp 34)
      .skip
      (.exit 0))
    (.seq (.block 1 (.seq (.reg [⟨some 35, .iadS 4 (.tmp 31) (.tmp 33), none⟩,
      ⟨some 36, .load true 4 (.tmp 35), none⟩,
      ⟨some 7, .newb [(.int .i64 0), .nil, (.int .i64 0), (.int .i64 0)], none⟩,
      ⟨none, .store 4 (.tmp 7) (.tmp 36), none⟩])
    (.seq (.reg [⟨some 37, .fadr 0 (.tmp 7), none⟩,
      ⟨some 38, .load false 1 (.tmp 37), none⟩,
      ⟨some 39, .conv .u64 (.tmp 38), none⟩,
      ⟨some 40, .bin .rem (.tmp 39) (.cst (.int .u64 3)), none⟩])
    (.block 2 (.seq (.reg [⟨some 54, .bin .eql (.tmp 40) (.cst (.int .u64 0)), none⟩,
      ⟨some 53, .mv (.tmp 54), none⟩])
    (.cond (.tmp 53)
      (.reg [⟨some 56, .load true 6 (.tmp 5), none⟩,
        ⟨some 57, .fadr 1 (.tmp 7), none⟩,
        ⟨some 58, .load false 1 (.tmp 57), none⟩,
        ⟨some 59, .call 12 [(.tmp 56), (.tmp 58)], none⟩,
        ⟨some 55, .mv (.tmp 59), none⟩,
        ⟨some 60, .ext (.tmp 55) 0, none⟩,
        ⟨some 61, .ext (.tmp 55) 1, none⟩,
        ⟨none, .store 6 (.tmp 5) (.tmp 60), none⟩])
      (.seq (.reg [⟨some 63, .bin .eql (.tmp 40) (.cst (.int .u64 1)), none⟩,
        ⟨some 62, .mv (.tmp 63), none⟩])
      (.cond (.tmp 62)
        (.reg [⟨some 65, .load true 6 (.tmp 5), none⟩,
          ⟨some 66, .fadr 2 (.tmp 7), none⟩,
          ⟨some 67, .load false 1 (.tmp 66), none⟩,
          ⟨some 68, .fadr 3 (.tmp 7), none⟩,
          ⟨some 69, .load false 1 (.tmp 68), none⟩,
          ⟨some 70, .call 13 [(.tmp 65), (.tmp 67), (.tmp 69)], none⟩,
          ⟨some 64, .mv (.tmp 70), none⟩,
          ⟨some 71, .ext (.tmp 64) 0, none⟩,
          ⟨some 72, .ext (.tmp 64) 1, none⟩,
          ⟨some 73, .ext (.tmp 64) 2, none⟩,
          ⟨some 74, .ext (.tmp 64) 3, none⟩,
          ⟨none, .store 6 (.tmp 5) (.tmp 71), none⟩])
        (.reg [⟨some 42, .load true 6 (.tmp 5), none⟩,
          ⟨some 43, .fadr 0 (.tmp 5), none⟩,
          ⟨some 44, .load false 1 (.tmp 43), none⟩,
          ⟨some 45, .fadr 2 (.tmp 7), none⟩,
          ⟨some 46, .load false 1 (.tmp 45), none⟩,
          ⟨some 47, .conv .u32 (.tmp 46), none⟩,
          ⟨some 48, .bin .add (.tmp 44) (.tmp 47), none⟩,
          ⟨some 49, .call 15 [(.tmp 42), (.tmp 48)], none⟩,
          ⟨some 41, .mv (.tmp 49), none⟩,
          ⟨some 50, .ext (.tmp 41) 0, none⟩,
          ⟨some 51, .ext (.tmp 41) 1, none⟩,
          ⟨some 52, .ext (.tmp 41) 2, none⟩,
          ⟨none, .store 6 (.tmp 5) (.tmp 50), none⟩])))))))))
    (.reg [⟨some 75, .bin .add (.tmp 33) (.cst (.int .i64 1)), none⟩,
      ⟨some 33, .mv (.tmp 75), none⟩])))))))
  (.seq (.reg [⟨some 77, .load true 6 (.tmp 5), none⟩,
    ⟨some 78, .fadr 0 (.tmp 5), none⟩,
    ⟨some 79, .load false 1 (.tmp 78), none⟩,
    ⟨some 80, .load true 6 (.tmp 5), none⟩,
    ⟨some 81, .call 18 [(.tmp 80)], none⟩,
    ⟨some 82, .conv .u32 (.tmp 81), none⟩,
    ⟨some 83, .bin .add (.tmp 79) (.tmp 82), none⟩,
    ⟨some 84, .call 15 [(.tmp 77), (.tmp 83)], none⟩,
    ⟨some 76, .mv (.tmp 84), none⟩,
    ⟨some 85, .ext (.tmp 76) 0, none⟩,
    ⟨some 86, .ext (.tmp 76) 1, none⟩,
    ⟨some 87, .ext (.tmp 76) 2, none⟩,
    ⟨some 8, .newb [(.int .u32 0), .nil, (.int .i64 0), (.bool false), (.bool false), (.bool false)], none⟩,
    ⟨none, .store 6 (.tmp 8) (.tmp 85), none⟩,
    ⟨some 9, .mv (.tmp 86), none⟩,
    ⟨some 10, .mv (.tmp 87), none⟩])
  (.seq (.reg [⟨some 89, .load true 6 (.tmp 8), none⟩,
    ⟨some 90, .call 14 [(.tmp 89), (.cst (.int .i64 64))], none⟩,
    ⟨some 88, .mv (.tmp 90), none⟩,
    ⟨some 91, .ext (.tmp 88) 0, none⟩,
    ⟨some 92, .ext (.tmp 88) 1, none⟩,
    ⟨some 93, .ext (.tmp 88) 2, none⟩,
    ⟨some 11, .newb [(.int .u32 0), .nil], none⟩,
    ⟨none, .store 2 (.tmp 11) (.tmp 91), none⟩,
    ⟨some 12, .mv (.tmp 92), none⟩,
    ⟨some 13, .mv (.tmp 93), none⟩])
  (.seq (.seq (.reg [⟨some 94, .mv (.tmp 10), none⟩,
    ⟨some 95, .bin .neq (.tmp 94) (.cst (.int .i64 0)), none⟩,
    ⟨some 96, .mv (.tmp 95), none⟩,
    ⟨some 97, .mv (.tmp 9), some (96, false)⟩,
    ⟨some 98, .load true 6 (.tmp 5), some (96, false)⟩,
    ⟨some 99, .call 18 [(.tmp 98)], some (96, false)⟩,
    ⟨some 100, .bin .neq (.tmp 97) (.tmp 99), some (96, false)⟩,
    ⟨some 101, .pick (.tmp 96) (.cst (.bool true)) (.tmp 100), none⟩,
    ⟨some 102, .mv (.tmp 101), none⟩,
    ⟨some 103, .load true 6 (.tmp 8), some (102, false)⟩,
    ⟨some 104, .call 18 [(.tmp 103)], some (102, false)⟩,
    ⟨some 105, .bin .neq (.tmp 104) (.cst (.int .i64 0)), some (102, false)⟩,
    ⟨some 106, .pick (.tmp 102) (.cst (.bool true)) (.tmp 105), none⟩,
    ⟨some 107, .mv (.tmp 106), none⟩,
    ⟨some 108, .mv (.tmp 13), some (107, false)⟩,
    ⟨some 109, .pick (.tmp 107) (.cst (.bool true)) (.tmp 108), none⟩,
    ⟨some 110, .mv (.tmp 109), none⟩,
    ⟨some 111, .load true 6 (.tmp 8), some (110, false)⟩,
    ⟨some 112, .call 23 [(.tmp 111)], some (110, false)⟩,
    ⟨some 113, .fadr 2 (.tmp 5), some (110, false)⟩,
    ⟨some 114, .load false 1 (.tmp 113), some (110, false)⟩,
    ⟨some 115, .fadr 1 (.tmp 5), some (110, false)⟩,
    ⟨some 116, .load false 1 (.tmp 115), some (110, false)⟩,
    ⟨some 117, .lenV (.tmp 116), some (110, false)⟩,
    ⟨some 118, .bin .eql (.tmp 114) (.tmp 117), some (110, false)⟩,
    ⟨some 119, .binB true (.tmp 112) (.tmp 118), some (110, false)⟩,
    ⟨some 120, .pick (.tmp 110) (.cst (.bool true)) (.tmp 119), none⟩])
  (.cond (.tmp 120)
    (.seq (.reg [⟨some 4, .mv (.cst (.bool false)), none⟩])
    .ret)
    .skip))
  (.seq (.reg [⟨some 121, .load true 6 (.tmp 8), none⟩,
    ⟨some 122, .call 16 [(.tmp 121)], none⟩,
    ⟨none, .store 6 (.tmp 8) (.tmp 122), none⟩])
  (.seq (.seq (.reg [⟨some 123, .mv (.cst (.int .i64 0)), none⟩])
  (.block 3 (.loop
    (.seq (.reg [⟨some 124, .bin .lss (.tmp 123) (.cst (.int .i64 300)), none⟩])
    (.seq (.cond (.tmp 124)
      .skip
      (.exit 3))
    (.seq (.block 4 (.seq (.reg [⟨some 126, .load true 6 (.tmp 8), none⟩,
      ⟨some 127, .call 13 [(.tmp 126), (.cst (.int .i64 1000)), (.cst (.int .i64 64))], none⟩,
      ⟨some 125, .mv (.tmp 127), none⟩,
      ⟨some 128, .ext (.tmp 125) 0, none⟩,
      ⟨some 129, .ext (.tmp 125) 1, none⟩,
      ⟨some 130, .ext (.tmp 125) 2, none⟩,
      ⟨some 131, .ext (.tmp 125) 3, none⟩,
      ⟨some 14, .newb [(.int .u32 0), .nil, (.int .i64 0), (.bool false), (.bool false), (.bool false)], none⟩,
      ⟨some 15, .newb [(.int .u32 0), .nil], none⟩,
      ⟨none, .store 6 (.tmp 14) (.tmp 128), none⟩,
      ⟨none, .store 2 (.tmp 15) (.tmp 129), none⟩,
      ⟨some 16, .mv (.tmp 130), none⟩,
      ⟨some 17, .mv (.tmp 131), none⟩])
    (.seq (.seq (.reg [⟨some 132, .mv (.tmp 17), none⟩,
      ⟨some 133, .not (.tmp 132), none⟩])
    (.cond (.tmp 133)
      (.exit 3)
      .skip))
    (.reg [⟨some 134, .load true 6 (.tmp 14), none⟩,
      ⟨none, .store 6 (.tmp 8) (.tmp 134), none⟩]))))
    (.reg [⟨some 135, .bin .add (.tmp 123) (.cst (.int .i64 1)), none⟩,
      ⟨some 123, .mv (.tmp 135), none⟩])))))))
  (.seq (.reg [⟨some 137, .load true 6 (.tmp 8), none⟩,
    ⟨some 138, .fadr 0 (.tmp 8), none⟩,
    ⟨some 139, .load false 1 (.tmp 138), none⟩,
    ⟨some 140, .load true 6 (.tmp 8), none⟩,
    ⟨some 141, .call 18 [(.tmp 140)], none⟩,
    ⟨some 142, .conv .u32 (.tmp 141), none⟩,
    ⟨some 143, .bin .add (.tmp 139) (.tmp 142), none⟩,
    ⟨some 144, .call 15 [(.tmp 137), (.tmp 143)], none⟩,
    ⟨some 136, .mv (.tmp 144), none⟩,
    ⟨some 145, .ext (.tmp 136) 0, none⟩,
    ⟨some 146, .ext (.tmp 136) 1, none⟩,
    ⟨some 147, .ext (.tmp 136) 2, none⟩,
    ⟨some 18, .newb [(.int .u32 0), .nil, (.int .i64 0), (.bool false), (.bool false), (.bool false)], none⟩,
    ⟨none, .store 6 (.tmp 18) (.tmp 145), none⟩,
    ⟨some 19, .mv (.tmp 146), none⟩,
    ⟨some 20, .mv (.tmp 147), none⟩])
  (.seq (.reg [⟨some 148, .mv (.tmp 20), none⟩,
    ⟨some 149, .bin .eql (.tmp 148) (.cst (.int .i64 0)), none⟩,
    ⟨some 150, .mv (.tmp 149), none⟩,
    ⟨some 151, .load true 6 (.tmp 18), some (150, true)⟩,
    ⟨some 152, .call 23 [(.tmp 151)], some (150, true)⟩,
    ⟨some 153, .pick (.tmp 150) (.tmp 152) (.cst (.bool false)), none⟩,
    ⟨some 154, .mv (.tmp 153), none⟩,
    ⟨some 155, .fadr 5 (.tmp 18), some (154, true)⟩,
    ⟨some 156, .load false 1 (.tmp 155), some (154, true)⟩,
    ⟨some 157, .pick (.tmp 154) (.tmp 156) (.cst (.bool false)), none⟩,
    ⟨some 158, .mv (.tmp 157), none⟩,
    ⟨some 159, .load true 6 (.tmp 18), some (158, true)⟩,
    ⟨some 160, .call 9 [(.tmp 159)], some (158, true)⟩,
    ⟨some 161, .pick (.tmp 158) (.tmp 160) (.cst (.bool false)), none⟩,
    ⟨some 4, .mv (.tmp 161), none⟩])
  .ret)))))))))))
theorem p_caravellaw18_SendqEmpty : Try.f7.body.bind (compC Try.prog 162) = some c_caravellaw18_SendqEmpty := by kernel_rfl
theorem r_caravellaw18_SendqEmpty : tellR Try.prog Try.f7.results.toList = some [.t 4] := by kernel_rfl

/-- caravel/caravellaw18.lives: 0 in. -/
def c_caravellaw18_lives : ACode :=
  (.seq (.reg [⟨some 0, .mv (.cst (.bool false)), none⟩])
  (.seq (.reg [⟨some 15, .call 11 [(.cst (.int .u32 10))], none⟩,
    ⟨some 16, .bsl 1 [(.cst (.int .u8 97)), (.cst (.int .u8 98)), (.cst (.int .u8 99)), (.cst (.int .u8 100)), (.cst (.int .u8 101)), (.cst (.int .u8 102))], none⟩,
    ⟨some 17, .mvL (.tmp 16), none⟩,
    ⟨some 18, .call 12 [(.tmp 15), (.tmp 17)], none⟩,
    ⟨some 14, .mv (.tmp 18), none⟩,
    ⟨some 19, .ext (.tmp 14) 0, none⟩,
    ⟨some 20, .ext (.tmp 14) 1, none⟩,
    ⟨some 1, .newb [(.int .u32 0), .nil, (.int .i64 0), (.bool false), (.bool false), (.bool false)], none⟩,
    ⟨none, .store 6 (.tmp 1) (.tmp 19), none⟩,
    ⟨some 2, .mv (.tmp 20), none⟩])
  (.seq (.reg [⟨some 22, .load true 6 (.tmp 1), none⟩,
    ⟨some 23, .call 13 [(.tmp 22), (.cst (.int .i64 4)), (.cst (.int .i64 3))], none⟩,
    ⟨some 21, .mv (.tmp 23), none⟩,
    ⟨some 24, .ext (.tmp 21) 0, none⟩,
    ⟨some 25, .ext (.tmp 21) 1, none⟩,
    ⟨some 26, .ext (.tmp 21) 2, none⟩,
    ⟨some 27, .ext (.tmp 21) 3, none⟩,
    ⟨some 3, .newb [(.int .u32 0), .nil], none⟩,
    ⟨none, .store 6 (.tmp 1) (.tmp 24), none⟩,
    ⟨none, .store 2 (.tmp 3) (.tmp 25), none⟩,
    ⟨some 4, .mv (.tmp 26), none⟩,
    ⟨some 5, .mv (.tmp 27), none⟩])
  (.seq (.reg [⟨some 29, .load true 6 (.tmp 1), none⟩,
    ⟨some 30, .call 13 [(.tmp 29), (.cst (.int .i64 4)), (.cst (.int .i64 3))], none⟩,
    ⟨some 28, .mv (.tmp 30), none⟩,
    ⟨some 31, .ext (.tmp 28) 0, none⟩,
    ⟨some 32, .ext (.tmp 28) 1, none⟩,
    ⟨some 33, .ext (.tmp 28) 2, none⟩,
    ⟨some 34, .ext (.tmp 28) 3, none⟩,
    ⟨some 6, .newb [(.int .u32 0), .nil], none⟩,
    ⟨none, .store 6 (.tmp 1) (.tmp 31), none⟩,
    ⟨none, .store 2 (.tmp 6) (.tmp 32), none⟩,
    ⟨some 7, .mv (.tmp 33), none⟩,
    ⟨some 8, .mv (.tmp 34), none⟩])
  (.seq (.reg [⟨some 36, .load true 6 (.tmp 1), none⟩,
    ⟨some 37, .call 15 [(.tmp 36), (.cst (.int .u32 12))], none⟩,
    ⟨some 35, .mv (.tmp 37), none⟩,
    ⟨some 38, .ext (.tmp 35) 0, none⟩,
    ⟨some 39, .ext (.tmp 35) 1, none⟩,
    ⟨some 40, .ext (.tmp 35) 2, none⟩,
    ⟨none, .store 6 (.tmp 1) (.tmp 38), none⟩,
    ⟨some 9, .mv (.tmp 39), none⟩,
    ⟨some 10, .mv (.tmp 40), none⟩])
  (.seq (.reg [⟨some 42, .load true 6 (.tmp 1), none⟩,
    ⟨some 43, .call 14 [(.tmp 42), (.cst (.int .i64 9))], none⟩,
    ⟨some 41, .mv (.tmp 43), none⟩,
    ⟨some 44, .ext (.tmp 41) 0, none⟩,
    ⟨some 45, .ext (.tmp 41) 1, none⟩,
    ⟨some 46, .ext (.tmp 41) 2, none⟩,
    ⟨some 11, .newb [(.int .u32 0), .nil], none⟩,
    ⟨none, .store 2 (.tmp 11) (.tmp 44), none⟩,
    ⟨some 12, .mv (.tmp 45), none⟩,
    ⟨some 13, .mv (.tmp 46), none⟩])
  (.seq (.reg [⟨some 47, .mv (.tmp 2), none⟩,
    ⟨some 48, .bin .eql (.tmp 47) (.cst (.int .i64 6)), none⟩,
    ⟨some 49, .mv (.tmp 48), none⟩,
    ⟨some 50, .mv (.tmp 5), some (49, true)⟩,
    ⟨some 51, .pick (.tmp 49) (.tmp 50) (.cst (.bool false)), none⟩,
    ⟨some 52, .mv (.tmp 51), none⟩,
    ⟨some 53, .mv (.tmp 8), some (52, true)⟩,
    ⟨some 54, .pick (.tmp 52) (.tmp 53) (.cst (.bool false)), none⟩,
    ⟨some 55, .mv (.tmp 54), none⟩,
    ⟨some 56, .mv (.tmp 13), some (55, true)⟩,
    ⟨some 57, .pick (.tmp 55) (.tmp 56) (.cst (.bool false)), none⟩,
    ⟨some 58, .mv (.tmp 57), none⟩,
    ⟨some 59, .fadr 1 (.tmp 3), some (58, true)⟩,
    ⟨some 60, .load false 1 (.tmp 59), some (58, true)⟩,
    ⟨some 61, .b2s (.tmp 60), some (58, true)⟩,
    ⟨some 62, .binT .eql (.tmp 61) (.cst (.str [97, 98, 99])), some (58, true)⟩,
    ⟨some 63, .pick (.tmp 58) (.tmp 62) (.cst (.bool false)), none⟩,
    ⟨some 64, .mv (.tmp 63), none⟩,
    ⟨some 65, .fadr 0 (.tmp 6), some (64, true)⟩,
    ⟨some 66, .load false 1 (.tmp 65), some (64, true)⟩,
    ⟨some 67, .bin .eql (.tmp 66) (.cst (.int .u32 13)), some (64, true)⟩,
    ⟨some 68, .pick (.tmp 64) (.tmp 67) (.cst (.bool false)), none⟩,
    ⟨some 69, .mv (.tmp 68), none⟩,
    ⟨some 70, .fadr 1 (.tmp 6), some (69, true)⟩,
    ⟨some 71, .load false 1 (.tmp 70), some (69, true)⟩,
    ⟨some 72, .b2s (.tmp 71), some (69, true)⟩,
    ⟨some 73, .binT .eql (.tmp 72) (.cst (.str [100])), some (69, true)⟩,
    ⟨some 74, .pick (.tmp 69) (.tmp 73) (.cst (.bool false)), none⟩,
    ⟨some 75, .mv (.tmp 74), none⟩,
    ⟨some 76, .mv (.tmp 9), some (75, true)⟩,
    ⟨some 77, .bin .eql (.tmp 76) (.cst (.int .i64 2)), some (75, true)⟩,
    ⟨some 78, .pick (.tmp 75) (.tmp 77) (.cst (.bool false)), none⟩,
    ⟨some 79, .mv (.tmp 78), none⟩,
    ⟨some 80, .mv (.tmp 10), some (79, true)⟩,
    ⟨some 81, .bin .eql (.tmp 80) (.cst (.int .i64 0)), some (79, true)⟩,
    ⟨some 82, .pick (.tmp 79) (.tmp 81) (.cst (.bool false)), none⟩,
    ⟨some 83, .mv (.tmp 82), none⟩,
    ⟨some 84, .fadr 0 (.tmp 11), some (83, true)⟩,
    ⟨some 85, .load false 1 (.tmp 84), some (83, true)⟩,
    ⟨some 86, .bin .eql (.tmp 85) (.cst (.int .u32 12)), some (83, true)⟩,
    ⟨some 87, .pick (.tmp 83) (.tmp 86) (.cst (.bool false)), none⟩,
    ⟨some 88, .mv (.tmp 87), none⟩,
    ⟨some 89, .fadr 1 (.tmp 11), some (88, true)⟩,
    ⟨some 90, .load false 1 (.tmp 89), some (88, true)⟩,
    ⟨some 91, .b2s (.tmp 90), some (88, true)⟩,
    ⟨some 92, .binT .eql (.tmp 91) (.cst (.str [99, 100])), some (88, true)⟩,
    ⟨some 93, .pick (.tmp 88) (.tmp 92) (.cst (.bool false)), none⟩,
    ⟨some 0, .mv (.tmp 93), none⟩])
  .ret)))))))
theorem p_caravellaw18_lives : Try.f8.body.bind (compC Try.prog 94) = some c_caravellaw18_lives := by kernel_rfl
theorem r_caravellaw18_lives : tellR Try.prog Try.f8.results.toList = some [.t 0] := by kernel_rfl

/-- caravel/sendq.Right: 1 in. -/
def c_sendq_Right : ACode :=
  (.seq (.reg [⟨some 1, .box (.tmp 0), none⟩,
    ⟨some 2, .mv (.cst (.bool false)), none⟩])
  (.seq (.reg [⟨some 3, .fadr 1 (.tmp 1), none⟩,
    ⟨some 4, .load false 1 (.tmp 3), none⟩,
    ⟨some 5, .lenV (.tmp 4), none⟩,
    ⟨some 6, .bin .leq (.tmp 5) (.cst (.int .i64 256)), none⟩,
    ⟨some 7, .mv (.tmp 6), none⟩,
    ⟨some 8, .fadr 2 (.tmp 1), some (7, true)⟩,
    ⟨some 9, .load false 1 (.tmp 8), some (7, true)⟩,
    ⟨some 10, .bin .geq (.tmp 9) (.cst (.int .i64 0)), some (7, true)⟩,
    ⟨some 11, .pick (.tmp 7) (.tmp 10) (.cst (.bool false)), none⟩,
    ⟨some 12, .mv (.tmp 11), none⟩,
    ⟨some 13, .fadr 2 (.tmp 1), some (12, true)⟩,
    ⟨some 14, .load false 1 (.tmp 13), some (12, true)⟩,
    ⟨some 15, .fadr 1 (.tmp 1), some (12, true)⟩,
    ⟨some 16, .load false 1 (.tmp 15), some (12, true)⟩,
    ⟨some 17, .lenV (.tmp 16), some (12, true)⟩,
    ⟨some 18, .bin .leq (.tmp 14) (.tmp 17), some (12, true)⟩,
    ⟨some 19, .pick (.tmp 12) (.tmp 18) (.cst (.bool false)), none⟩,
    ⟨some 20, .mv (.tmp 19), none⟩,
    ⟨some 21, .fadr 4 (.tmp 1), some (20, true)⟩,
    ⟨some 22, .load false 1 (.tmp 21), some (20, true)⟩,
    ⟨some 23, .not (.tmp 22), some (20, true)⟩,
    ⟨some 24, .mv (.tmp 23), some (20, true)⟩,
    ⟨some 25, .fadr 3 (.tmp 1), some (24, false)⟩,
    ⟨some 26, .load false 1 (.tmp 25), some (24, false)⟩,
    ⟨some 27, .mv (.tmp 26), some (24, false)⟩,
    ⟨some 28, .fadr 2 (.tmp 1), some (27, true)⟩,
    ⟨some 29, .load false 1 (.tmp 28), some (27, true)⟩,
    ⟨some 30, .fadr 1 (.tmp 1), some (27, true)⟩,
    ⟨some 31, .load false 1 (.tmp 30), some (27, true)⟩,
    ⟨some 32, .lenV (.tmp 31), some (27, true)⟩,
    ⟨some 33, .bin .eql (.tmp 29) (.tmp 32), some (27, true)⟩,
    ⟨some 34, .pick (.tmp 27) (.tmp 33) (.cst (.bool false)), some (24, false)⟩,
    ⟨some 35, .pick (.tmp 24) (.cst (.bool true)) (.tmp 34), some (20, true)⟩,
    ⟨some 36, .pick (.tmp 20) (.tmp 35) (.cst (.bool false)), none⟩,
    ⟨some 37, .mv (.tmp 36), none⟩,
    ⟨some 38, .fadr 5 (.tmp 1), some (37, true)⟩,
    ⟨some 39, .load false 1 (.tmp 38), some (37, true)⟩,
    ⟨some 40, .not (.tmp 39), some (37, true)⟩,
    ⟨some 41, .mv (.tmp 40), some (37, true)⟩,
    ⟨some 42, .fadr 4 (.tmp 1), some (41, false)⟩,
    ⟨some 43, .load false 1 (.tmp 42), some (41, false)⟩,
    ⟨some 44, .mv (.tmp 43), some (41, false)⟩,
    ⟨some 45, .fadr 1 (.tmp 1), some (44, true)⟩,
    ⟨some 46, .load false 1 (.tmp 45), some (44, true)⟩,
    ⟨some 47, .lenV (.tmp 46), some (44, true)⟩,
    ⟨some 48, .bin .eql (.tmp 47) (.cst (.int .i64 0)), some (44, true)⟩,
    ⟨some 49, .pick (.tmp 44) (.tmp 48) (.cst (.bool false)), some (41, false)⟩,
    ⟨some 50, .pick (.tmp 41) (.cst (.bool true)) (.tmp 49), some (37, true)⟩,
    ⟨some 51, .pick (.tmp 37) (.tmp 50) (.cst (.bool false)), none⟩,
    ⟨some 2, .mv (.tmp 51), none⟩])
  .ret))
theorem p_sendq_Right : Try.f9.body.bind (compC Try.prog 52) = some c_sendq_Right := by kernel_rfl
theorem r_sendq_Right : tellR Try.prog Try.f9.results.toList = some [.t 2] := by kernel_rfl

/-- caravel/caravellaw18.fits: 1 in. -/
def c_caravellaw18_fits : ACode :=
  (.seq (.reg [⟨some 2, .mv (.cst (.bool false)), none⟩])
  (.seq (.seq (.reg [⟨some 5, .mv (.tmp 0), none⟩,
    ⟨some 6, .lenV (.tmp 5), none⟩,
    ⟨some 7, .mv (.cst (.int .i64 0)), none⟩])
  (.block 0 (.loop
    (.seq (.reg [⟨some 8, .bin .lss (.tmp 7) (.tmp 6), none⟩])
    (.seq (.cond (.tmp 8)
      .skip
      (.exit 0))
    (.seq (.block 1 (.seq (.reg [⟨some 9, .iadS 4 (.tmp 5) (.tmp 7), none⟩,
      ⟨some 10, .load true 4 (.tmp 9), none⟩,
      ⟨some 4, .newb [(.int .i64 0), .nil, (.int .i64 0), (.int .i64 0)], none⟩,
      ⟨none, .store 4 (.tmp 4) (.tmp 10), none⟩])
    (.seq (.reg [⟨some 11, .fadr 1 (.tmp 4), none⟩,
      ⟨some 12, .load false 1 (.tmp 11), none⟩,
      ⟨some 13, .lenV (.tmp 12), none⟩,
      ⟨some 14, .bin .gtr (.tmp 13) (.cst (.int .i64 400)), none⟩])
    (.cond (.tmp 14)
      (.seq (.reg [⟨some 2, .mv (.cst (.bool false)), none⟩])
      .ret)
      .skip))))
    (.reg [⟨some 15, .bin .add (.tmp 7) (.cst (.int .i64 1)), none⟩,
      ⟨some 7, .mv (.tmp 15), none⟩])))))))
  (.seq (.reg [⟨some 16, .mv (.tmp 0), none⟩,
    ⟨some 17, .lenV (.tmp 16), none⟩,
    ⟨some 18, .bin .leq (.tmp 17) (.cst (.int .i64 100)), none⟩,
    ⟨some 2, .mv (.tmp 18), none⟩])
  .ret)))
theorem p_caravellaw18_fits : Try.f10.body.bind (compC Try.prog 19) = some c_caravellaw18_fits := by kernel_rfl
theorem r_caravellaw18_fits : tellR Try.prog Try.f10.results.toList = some [.t 2] := by kernel_rfl

/-- caravel/sendq.New: 1 in. -/
def c_sendq_New : ACode :=
  (.seq (.reg [⟨some 2, .newb [(.int .u32 0), .nil, (.int .i64 0), (.bool false), (.bool false), (.bool false)], none⟩])
  (.seq (.reg [⟨some 3, .mv (.tmp 0), none⟩,
    ⟨some 4, .build [(.int .u32 0), .nil, (.int .i64 0), (.bool false), (.bool false), (.bool false)] [(0, 1, (.tmp 3))], none⟩,
    ⟨none, .store 6 (.tmp 2) (.tmp 4), none⟩])
  .ret))
theorem p_sendq_New : Try.f11.body.bind (compC Try.prog 5) = some c_sendq_New := by kernel_rfl
theorem r_sendq_New : tellR Try.prog Try.f11.results.toList = some [.c 2 true 6] := by kernel_rfl

/-- caravel/sendq.Write: 2 in. -/
def c_sendq_Write : ACode :=
  (.seq (.reg [⟨some 2, .box (.tmp 0), none⟩,
    ⟨some 4, .newb [(.int .u32 0), .nil, (.int .i64 0), (.bool false), (.bool false), (.bool false)], none⟩,
    ⟨some 5, .mv (.cst (.int .i64 0)), none⟩])
  (.seq (.reg [⟨some 8, .load true 6 (.tmp 2), none⟩,
    ⟨some 9, .call 24 [(.tmp 8)], none⟩,
    ⟨some 6, .newb [(.int .u32 0), .nil, (.int .i64 0), (.bool false), (.bool false), (.bool false)], none⟩,
    ⟨none, .store 6 (.tmp 6) (.tmp 9), none⟩])
  (.seq (.reg [⟨some 10, .mv (.tmp 1), none⟩,
    ⟨some 11, .lenV (.tmp 10), none⟩,
    ⟨some 12, .load true 6 (.tmp 2), none⟩,
    ⟨some 13, .call 17 [(.tmp 12)], none⟩,
    ⟨some 14, .min [(.tmp 11), (.tmp 13)], none⟩,
    ⟨some 7, .mv (.tmp 14), none⟩])
  (.seq (.reg [⟨some 15, .fadr 1 (.tmp 6), none⟩,
    ⟨some 16, .load false 1 (.tmp 15), none⟩,
    ⟨some 17, .mv (.tmp 1), none⟩,
    ⟨some 18, .mv (.tmp 7), none⟩,
    ⟨some 19, .slS 1 (.tmp 17) none (some (.tmp 18)) none, none⟩,
    ⟨some 20, .app 1 1 (.tmp 16) (.tmp 19), none⟩,
    ⟨some 21, .fadr 1 (.tmp 6), none⟩,
    ⟨none, .store 1 (.tmp 21) (.tmp 20), none⟩])
  (.seq (.reg [⟨some 22, .load true 6 (.tmp 6), none⟩,
    ⟨some 23, .mv (.tmp 7), none⟩,
    ⟨none, .store 6 (.tmp 4) (.tmp 22), none⟩,
    ⟨some 5, .mv (.tmp 23), none⟩])
  .ret)))))
theorem p_sendq_Write : Try.f12.body.bind (compC Try.prog 24) = some c_sendq_Write := by kernel_rfl
theorem r_sendq_Write : tellR Try.prog Try.f12.results.toList = some [.c 4 true 6, .t 5] := by kernel_rfl

/-- caravel/sendq.Next: 3 in. -/
def c_sendq_Next : ACode :=
  (.seq (.reg [⟨some 3, .box (.tmp 0), none⟩,
    ⟨some 6, .newb [(.int .u32 0), .nil, (.int .i64 0), (.bool false), (.bool false), (.bool false)], none⟩,
    ⟨some 7, .newb [(.int .u32 0), .nil], none⟩,
    ⟨some 8, .mv (.cst (.bool false)), none⟩,
    ⟨some 9, .mv (.cst (.bool false)), none⟩])
  (.seq (.reg [⟨some 14, .load true 6 (.tmp 3), none⟩,
    ⟨some 15, .call 24 [(.tmp 14)], none⟩,
    ⟨some 10, .newb [(.int .u32 0), .nil, (.int .i64 0), (.bool false), (.bool false), (.bool false)], none⟩,
    ⟨none, .store 6 (.tmp 10) (.tmp 15), none⟩])
  (.seq (.reg [⟨some 16, .fadr 1 (.tmp 3), none⟩,
    ⟨some 17, .load false 1 (.tmp 16), none⟩,
    ⟨some 18, .lenV (.tmp 17), none⟩,
    ⟨some 19, .fadr 2 (.tmp 3), none⟩,
    ⟨some 20, .load false 1 (.tmp 19), none⟩,
    ⟨some 21, .bin .sub (.tmp 18) (.tmp 20), none⟩,
    ⟨some 22, .mv (.tmp 2), none⟩,
    ⟨some 23, .mv (.tmp 1), none⟩,
    ⟨some 24, .max [(.tmp 23), (.cst (.int .i64 0))], none⟩,
    ⟨some 25, .fadr 2 (.tmp 3), none⟩,
    ⟨some 26, .load false 1 (.tmp 25), none⟩,
    ⟨some 27, .bin .sub (.tmp 24) (.tmp 26), none⟩,
    ⟨some 28, .min [(.tmp 21), (.tmp 22), (.tmp 27)], none⟩,
    ⟨some 29, .max [(.cst (.int .i64 0)), (.tmp 28)], none⟩,
    ⟨some 11, .mv (.tmp 29), none⟩])
  (.seq (.reg [⟨some 30, .fadr 3 (.tmp 3), none⟩,
    ⟨some 31, .load false 1 (.tmp 30), none⟩,
    ⟨some 32, .mv (.tmp 31), none⟩,
    ⟨some 33, .fadr 4 (.tmp 3), some (32, true)⟩,
    ⟨some 34, .load false 1 (.tmp 33), some (32, true)⟩,
    ⟨some 35, .not (.tmp 34), some (32, true)⟩,
    ⟨some 36, .pick (.tmp 32) (.tmp 35) (.cst (.bool false)), none⟩,
    ⟨some 37, .mv (.tmp 36), none⟩,
    ⟨some 38, .fadr 2 (.tmp 3), some (37, true)⟩,
    ⟨some 39, .load false 1 (.tmp 38), some (37, true)⟩,
    ⟨some 40, .mv (.tmp 11), some (37, true)⟩,
    ⟨some 41, .bin .add (.tmp 39) (.tmp 40), some (37, true)⟩,
    ⟨some 42, .fadr 1 (.tmp 3), some (37, true)⟩,
    ⟨some 43, .load false 1 (.tmp 42), some (37, true)⟩,
    ⟨some 44, .lenV (.tmp 43), some (37, true)⟩,
    ⟨some 45, .bin .eql (.tmp 41) (.tmp 44), some (37, true)⟩,
    ⟨some 46, .pick (.tmp 37) (.tmp 45) (.cst (.bool false)), none⟩,
    ⟨some 12, .mv (.tmp 46), none⟩])
  (.seq (.seq (.reg [⟨some 47, .mv (.tmp 11), none⟩,
    ⟨some 48, .bin .eql (.tmp 47) (.cst (.int .i64 0)), none⟩,
    ⟨some 49, .mv (.tmp 48), none⟩,
    ⟨some 50, .mv (.tmp 12), some (49, true)⟩,
    ⟨some 51, .not (.tmp 50), some (49, true)⟩,
    ⟨some 52, .pick (.tmp 49) (.tmp 51) (.cst (.bool false)), none⟩])
  (.cond (.tmp 52)
    (.seq (.reg [⟨some 53, .load true 6 (.tmp 10), none⟩,
      ⟨some 54, .build [(.int .u32 0), .nil] [], none⟩,
      ⟨none, .store 6 (.tmp 6) (.tmp 53), none⟩,
      ⟨none, .store 2 (.tmp 7) (.tmp 54), none⟩,
      ⟨some 8, .mv (.cst (.bool false)), none⟩,
      ⟨some 9, .mv (.cst (.bool false)), none⟩])
    .ret)
    .skip))
  (.seq (.reg [⟨some 55, .fadr 0 (.tmp 3), none⟩,
    ⟨some 56, .load false 1 (.tmp 55), none⟩,
    ⟨some 57, .fadr 2 (.tmp 3), none⟩,
    ⟨some 58, .load false 1 (.tmp 57), none⟩,
    ⟨some 59, .call 25 [(.tmp 56), (.tmp 58)], none⟩,
    ⟨some 60, .fadr 1 (.tmp 3), none⟩,
    ⟨some 61, .load false 1 (.tmp 60), none⟩,
    ⟨some 62, .fadr 2 (.tmp 3), none⟩,
    ⟨some 63, .load false 1 (.tmp 62), none⟩,
    ⟨some 64, .fadr 2 (.tmp 3), none⟩,
    ⟨some 65, .load false 1 (.tmp 64), none⟩,
    ⟨some 66, .mv (.tmp 11), none⟩,
    ⟨some 67, .bin .add (.tmp 65) (.tmp 66), none⟩,
    ⟨some 68, .slS 1 (.tmp 61) (some (.tmp 63)) (some (.tmp 67)) none, none⟩,
    ⟨some 69, .call 26 [(.tmp 68)], none⟩,
    ⟨some 70, .build [(.int .u32 0), .nil] [(0, 1, (.tmp 59)), (1, 1, (.tmp 69))], none⟩,
    ⟨some 13, .newb [(.int .u32 0), .nil], none⟩,
    ⟨none, .store 2 (.tmp 13) (.tmp 70), none⟩])
  (.seq (.reg [⟨some 71, .fadr 2 (.tmp 10), none⟩,
    ⟨some 72, .load false 1 (.tmp 71), none⟩,
    ⟨some 73, .mv (.tmp 11), none⟩,
    ⟨some 74, .bin .add (.tmp 72) (.tmp 73), none⟩,
    ⟨some 75, .fadr 2 (.tmp 10), none⟩,
    ⟨none, .store 1 (.tmp 75) (.tmp 74), none⟩])
  (.seq (.reg [⟨some 76, .fadr 4 (.tmp 3), none⟩,
    ⟨some 77, .load false 1 (.tmp 76), none⟩,
    ⟨some 78, .mv (.tmp 77), none⟩,
    ⟨some 79, .mv (.tmp 12), some (78, false)⟩,
    ⟨some 80, .pick (.tmp 78) (.cst (.bool true)) (.tmp 79), none⟩,
    ⟨some 81, .fadr 4 (.tmp 10), none⟩,
    ⟨none, .store 1 (.tmp 81) (.tmp 80), none⟩])
  (.seq (.drw [⟨some 82, .load true 6 (.tmp 10), none⟩,
    ⟨some 83, .load true 2 (.tmp 13), none⟩,
    ⟨some 84, .mv (.tmp 12), none⟩,
    ⟨none, .store 6 (.tmp 6) (.tmp 82), none⟩,
    ⟨none, .store 2 (.tmp 7) (.tmp 83), none⟩,
    ⟨some 8, .mv (.tmp 84), none⟩,
    ⟨some 9, .mv (.cst (.bool true)), none⟩] [[], [], [], [1], [], [], []])
  .ret)))))))))
theorem p_sendq_Next : Try.f13.body.bind (compC Try.prog 85) = some c_sendq_Next := by kernel_rfl
theorem r_sendq_Next : tellR Try.prog Try.f13.results.toList = some [.c 6 true 6, .c 7 true 2, .t 8, .t 9] := by kernel_rfl

/-- caravel/sendq.Again: 2 in. -/
def c_sendq_Again : ACode :=
  (.seq (.reg [⟨some 2, .box (.tmp 0), none⟩,
    ⟨some 4, .newb [(.int .u32 0), .nil], none⟩,
    ⟨some 5, .mv (.cst (.bool false)), none⟩,
    ⟨some 6, .mv (.cst (.bool false)), none⟩])
  (.seq (.reg [⟨some 9, .fadr 2 (.tmp 2), none⟩,
    ⟨some 10, .load false 1 (.tmp 9), none⟩,
    ⟨some 11, .mv (.tmp 1), none⟩,
    ⟨some 12, .min [(.tmp 10), (.tmp 11)], none⟩,
    ⟨some 13, .max [(.cst (.int .i64 0)), (.tmp 12)], none⟩,
    ⟨some 7, .mv (.tmp 13), none⟩])
  (.seq (.reg [⟨some 14, .fadr 4 (.tmp 2), none⟩,
    ⟨some 15, .load false 1 (.tmp 14), none⟩,
    ⟨some 16, .mv (.tmp 15), none⟩,
    ⟨some 17, .fadr 5 (.tmp 2), some (16, true)⟩,
    ⟨some 18, .load false 1 (.tmp 17), some (16, true)⟩,
    ⟨some 19, .not (.tmp 18), some (16, true)⟩,
    ⟨some 20, .pick (.tmp 16) (.tmp 19) (.cst (.bool false)), none⟩,
    ⟨some 21, .mv (.tmp 20), none⟩,
    ⟨some 22, .mv (.tmp 7), some (21, true)⟩,
    ⟨some 23, .fadr 1 (.tmp 2), some (21, true)⟩,
    ⟨some 24, .load false 1 (.tmp 23), some (21, true)⟩,
    ⟨some 25, .lenV (.tmp 24), some (21, true)⟩,
    ⟨some 26, .bin .eql (.tmp 22) (.tmp 25), some (21, true)⟩,
    ⟨some 27, .pick (.tmp 21) (.tmp 26) (.cst (.bool false)), none⟩,
    ⟨some 8, .mv (.tmp 27), none⟩])
  (.seq (.seq (.reg [⟨some 28, .mv (.tmp 7), none⟩,
    ⟨some 29, .bin .eql (.tmp 28) (.cst (.int .i64 0)), none⟩,
    ⟨some 30, .mv (.tmp 29), none⟩,
    ⟨some 31, .mv (.tmp 8), some (30, true)⟩,
    ⟨some 32, .not (.tmp 31), some (30, true)⟩,
    ⟨some 33, .pick (.tmp 30) (.tmp 32) (.cst (.bool false)), none⟩])
  (.cond (.tmp 33)
    (.seq (.reg [⟨some 34, .build [(.int .u32 0), .nil] [], none⟩,
      ⟨none, .store 2 (.tmp 4) (.tmp 34), none⟩,
      ⟨some 5, .mv (.cst (.bool false)), none⟩,
      ⟨some 6, .mv (.cst (.bool false)), none⟩])
    .ret)
    .skip))
  (.seq (.reg [⟨some 35, .fadr 0 (.tmp 2), none⟩,
    ⟨some 36, .load false 1 (.tmp 35), none⟩,
    ⟨some 37, .fadr 1 (.tmp 2), none⟩,
    ⟨some 38, .load false 1 (.tmp 37), none⟩,
    ⟨some 39, .mv (.tmp 7), none⟩,
    ⟨some 40, .slS 1 (.tmp 38) none (some (.tmp 39)) none, none⟩,
    ⟨some 41, .call 26 [(.tmp 40)], none⟩,
    ⟨some 42, .build [(.int .u32 0), .nil] [(0, 1, (.tmp 36)), (1, 1, (.tmp 41))], none⟩,
    ⟨some 43, .mv (.tmp 8), none⟩,
    ⟨none, .store 2 (.tmp 4) (.tmp 42), none⟩,
    ⟨some 5, .mv (.tmp 43), none⟩,
    ⟨some 6, .mv (.cst (.bool true)), none⟩])
  .ret)))))
theorem p_sendq_Again : Try.f14.body.bind (compC Try.prog 44) = some c_sendq_Again := by kernel_rfl
theorem r_sendq_Again : tellR Try.prog Try.f14.results.toList = some [.c 4 true 2, .t 5, .t 6] := by kernel_rfl

/-- caravel/sendq.Ack: 2 in. -/
def c_sendq_Ack : ACode :=
  (.seq (.reg [⟨some 2, .box (.tmp 0), none⟩,
    ⟨some 4, .newb [(.int .u32 0), .nil, (.int .i64 0), (.bool false), (.bool false), (.bool false)], none⟩,
    ⟨some 5, .mv (.cst (.int .i64 0)), none⟩,
    ⟨some 6, .mv (.cst (.int .i64 0)), none⟩])
  (.seq (.reg [⟨some 10, .load true 6 (.tmp 2), none⟩,
    ⟨some 11, .call 24 [(.tmp 10)], none⟩,
    ⟨some 7, .newb [(.int .u32 0), .nil, (.int .i64 0), (.bool false), (.bool false), (.bool false)], none⟩,
    ⟨none, .store 6 (.tmp 7) (.tmp 11), none⟩])
  (.seq (.reg [⟨some 12, .mv (.tmp 1), none⟩,
    ⟨some 13, .fadr 0 (.tmp 2), none⟩,
    ⟨some 14, .load false 1 (.tmp 13), none⟩,
    ⟨some 15, .call 27 [(.tmp 12), (.tmp 14)], none⟩,
    ⟨some 8, .mv (.tmp 15), none⟩])
  (.seq (.block 0 (.seq (.reg [⟨some 17, .mv (.tmp 8), none⟩,
    ⟨some 18, .bin .leq (.tmp 17) (.cst (.int .i64 0)), none⟩,
    ⟨some 16, .mv (.tmp 18), none⟩])
  (.cond (.tmp 16)
    (.seq (.reg [⟨some 19, .load true 6 (.tmp 7), none⟩,
      ⟨none, .store 6 (.tmp 4) (.tmp 19), none⟩,
      ⟨some 5, .mv (.cst (.int .i64 0)), none⟩,
      ⟨some 6, .mv (.cst (.int .i64 0)), none⟩])
    .ret)
    (.seq (.reg [⟨some 21, .mv (.tmp 8), none⟩,
      ⟨some 22, .load true 6 (.tmp 2), none⟩,
      ⟨some 23, .call 18 [(.tmp 22)], none⟩,
      ⟨some 24, .bin .gtr (.tmp 21) (.tmp 23), none⟩,
      ⟨some 20, .mv (.tmp 24), none⟩])
    (.cond (.tmp 20)
      (.seq (.reg [⟨some 25, .load true 6 (.tmp 7), none⟩,
        ⟨none, .store 6 (.tmp 4) (.tmp 25), none⟩,
        ⟨some 5, .mv (.cst (.int .i64 0)), none⟩,
        ⟨some 6, .mv (.cst (.int .i64 1)), none⟩])
      .ret)
      .skip)))))
  (.seq (.reg [⟨some 26, .mv (.tmp 8), none⟩,
    ⟨some 27, .fadr 2 (.tmp 2), none⟩,
    ⟨some 28, .load false 1 (.tmp 27), none⟩,
    ⟨some 29, .min [(.tmp 26), (.tmp 28)], none⟩,
    ⟨some 9, .mv (.tmp 29), none⟩])
  (.seq (.reg [⟨some 30, .fadr 1 (.tmp 7), none⟩,
    ⟨some 31, .load false 1 (.tmp 30), none⟩,
    ⟨some 32, .mv (.tmp 9), none⟩,
    ⟨some 33, .slS 1 (.tmp 31) (some (.tmp 32)) none none, none⟩,
    ⟨some 34, .fadr 1 (.tmp 7), none⟩,
    ⟨none, .store 1 (.tmp 34) (.tmp 33), none⟩])
  (.seq (.reg [⟨some 35, .fadr 2 (.tmp 7), none⟩,
    ⟨some 36, .load false 1 (.tmp 35), none⟩,
    ⟨some 37, .mv (.tmp 9), none⟩,
    ⟨some 38, .bin .sub (.tmp 36) (.tmp 37), none⟩,
    ⟨some 39, .fadr 2 (.tmp 7), none⟩,
    ⟨none, .store 1 (.tmp 39) (.tmp 38), none⟩])
  (.seq (.reg [⟨some 40, .mv (.tmp 1), none⟩,
    ⟨some 41, .fadr 0 (.tmp 7), none⟩,
    ⟨none, .store 1 (.tmp 41) (.tmp 40), none⟩])
  (.seq (.reg [⟨some 42, .fadr 5 (.tmp 2), none⟩,
    ⟨some 43, .load false 1 (.tmp 42), none⟩,
    ⟨some 44, .mv (.tmp 43), none⟩,
    ⟨some 45, .mv (.tmp 8), some (44, false)⟩,
    ⟨some 46, .mv (.tmp 9), some (44, false)⟩,
    ⟨some 47, .bin .gtr (.tmp 45) (.tmp 46), some (44, false)⟩,
    ⟨some 48, .pick (.tmp 44) (.cst (.bool true)) (.tmp 47), none⟩,
    ⟨some 49, .fadr 5 (.tmp 7), none⟩,
    ⟨none, .store 1 (.tmp 49) (.tmp 48), none⟩])
  (.seq (.reg [⟨some 50, .load true 6 (.tmp 7), none⟩,
    ⟨some 51, .mv (.tmp 8), none⟩,
    ⟨none, .store 6 (.tmp 4) (.tmp 50), none⟩,
    ⟨some 5, .mv (.tmp 51), none⟩,
    ⟨some 6, .mv (.cst (.int .i64 0)), none⟩])
  .ret))))))))))
theorem p_sendq_Ack : Try.f15.body.bind (compC Try.prog 52) = some c_sendq_Ack := by kernel_rfl
theorem r_sendq_Ack : tellR Try.prog Try.f15.results.toList = some [.c 4 true 6, .t 5, .t 6] := by kernel_rfl

/-- caravel/sendq.Close: 1 in. -/
def c_sendq_Close : ACode :=
  (.seq (.reg [⟨some 1, .box (.tmp 0), none⟩,
    ⟨some 2, .newb [(.int .u32 0), .nil, (.int .i64 0), (.bool false), (.bool false), (.bool false)], none⟩])
  (.seq (.reg [⟨some 4, .load true 6 (.tmp 1), none⟩,
    ⟨some 5, .call 24 [(.tmp 4)], none⟩,
    ⟨some 3, .newb [(.int .u32 0), .nil, (.int .i64 0), (.bool false), (.bool false), (.bool false)], none⟩,
    ⟨none, .store 6 (.tmp 3) (.tmp 5), none⟩])
  (.seq (.reg [⟨some 6, .fadr 3 (.tmp 3), none⟩,
    ⟨none, .store 1 (.tmp 6) (.cst (.bool true)), none⟩])
  (.seq (.reg [⟨some 7, .load true 6 (.tmp 3), none⟩,
    ⟨none, .store 6 (.tmp 2) (.tmp 7), none⟩])
  .ret))))
theorem p_sendq_Close : Try.f16.body.bind (compC Try.prog 8) = some c_sendq_Close := by kernel_rfl
theorem r_sendq_Close : tellR Try.prog Try.f16.results.toList = some [.c 2 true 6] := by kernel_rfl

/-- caravel/sendq.Room: 1 in. -/
def c_sendq_Room : ACode :=
  (.seq (.reg [⟨some 1, .box (.tmp 0), none⟩,
    ⟨some 2, .mv (.cst (.int .i64 0)), none⟩])
  (.seq (.seq (.reg [⟨some 3, .fadr 3 (.tmp 1), none⟩,
    ⟨some 4, .load false 1 (.tmp 3), none⟩])
  (.cond (.tmp 4)
    (.seq (.reg [⟨some 2, .mv (.cst (.int .i64 0)), none⟩])
    .ret)
    .skip))
  (.seq (.reg [⟨some 5, .fadr 1 (.tmp 1), none⟩,
    ⟨some 6, .load false 1 (.tmp 5), none⟩,
    ⟨some 7, .lenV (.tmp 6), none⟩,
    ⟨some 8, .bin .sub (.cst (.int .i64 256)) (.tmp 7), none⟩,
    ⟨some 2, .mv (.tmp 8), none⟩])
  .ret)))
theorem p_sendq_Room : Try.f17.body.bind (compC Try.prog 9) = some c_sendq_Room := by kernel_rfl
theorem r_sendq_Room : tellR Try.prog Try.f17.results.toList = some [.t 2] := by kernel_rfl

/-- caravel/sendq.Flight: 1 in. -/
def c_sendq_Flight : ACode :=
  (.seq (.reg [⟨some 1, .box (.tmp 0), none⟩,
    ⟨some 2, .mv (.cst (.int .i64 0)), none⟩])
  (.seq (.seq (.reg [⟨some 3, .fadr 4 (.tmp 1), none⟩,
    ⟨some 4, .load false 1 (.tmp 3), none⟩,
    ⟨some 5, .mv (.tmp 4), none⟩,
    ⟨some 6, .fadr 5 (.tmp 1), some (5, true)⟩,
    ⟨some 7, .load false 1 (.tmp 6), some (5, true)⟩,
    ⟨some 8, .not (.tmp 7), some (5, true)⟩,
    ⟨some 9, .pick (.tmp 5) (.tmp 8) (.cst (.bool false)), none⟩])
  (.cond (.tmp 9)
    (.seq (.reg [⟨some 10, .fadr 2 (.tmp 1), none⟩,
      ⟨some 11, .load false 1 (.tmp 10), none⟩,
      ⟨some 12, .bin .add (.tmp 11) (.cst (.int .i64 1)), none⟩,
      ⟨some 2, .mv (.tmp 12), none⟩])
    .ret)
    .skip))
  (.seq (.reg [⟨some 13, .fadr 2 (.tmp 1), none⟩,
    ⟨some 14, .load false 1 (.tmp 13), none⟩,
    ⟨some 2, .mv (.tmp 14), none⟩])
  .ret)))
theorem p_sendq_Flight : Try.f18.body.bind (compC Try.prog 15) = some c_sendq_Flight := by kernel_rfl
theorem r_sendq_Flight : tellR Try.prog Try.f18.results.toList = some [.t 2] := by kernel_rfl

/-- caravel/caravellaw18.step: 3 in. -/
def c_caravellaw18_step : ACode :=
  (.seq (.reg [⟨some 3, .box (.tmp 0), none⟩,
    ⟨some 4, .box (.tmp 1), none⟩,
    ⟨some 5, .box (.tmp 2), none⟩,
    ⟨some 6, .newb [(.int .u32 0), .nil, (.int .i64 0), (.bool false), (.bool false), (.bool false)], none⟩,
    ⟨some 7, .newb [(.int .u32 0), (.str []), (.int .i64 0), (.int .i64 0), (.bool false), (.bool false)], none⟩,
    ⟨some 8, .mv (.cst (.bool false)), none⟩])
  (.seq (.seq (.reg [⟨some 38, .fadr 0 (.tmp 5), none⟩,
    ⟨some 39, .load false 1 (.tmp 38), none⟩,
    ⟨some 40, .conv .u64 (.tmp 39), none⟩,
    ⟨some 41, .bin .rem (.tmp 40) (.cst (.int .u64 7)), none⟩])
  (.block 0 (.seq (.reg [⟨some 43, .bin .eql (.tmp 41) (.cst (.int .u64 0)), none⟩,
    ⟨some 42, .mv (.tmp 43), none⟩])
  (.cond (.tmp 42)
    (.seq (.reg [⟨some 44, .bsl 1 [], none⟩,
      ⟨some 45, .fadr 1 (.tmp 5), none⟩,
      ⟨some 46, .load false 1 (.tmp 45), none⟩,
      ⟨some 47, .app 1 1 (.tmp 44) (.tmp 46), none⟩,
      ⟨some 9, .mv (.tmp 47), none⟩])
    (.seq (.reg [⟨some 49, .load true 6 (.tmp 3), none⟩,
      ⟨some 50, .mv (.tmp 9), none⟩,
      ⟨some 51, .call 12 [(.tmp 49), (.tmp 50)], none⟩,
      ⟨some 48, .mv (.tmp 51), none⟩,
      ⟨some 52, .ext (.tmp 48) 0, none⟩,
      ⟨some 53, .ext (.tmp 48) 1, none⟩,
      ⟨some 10, .newb [(.int .u32 0), .nil, (.int .i64 0), (.bool false), (.bool false), (.bool false)], none⟩,
      ⟨none, .store 6 (.tmp 10) (.tmp 52), none⟩,
      ⟨some 11, .mv (.tmp 53), none⟩])
    (.seq (.reg [⟨some 55, .load true 6 (.tmp 4), none⟩,
      ⟨some 56, .fadr 1 (.tmp 5), none⟩,
      ⟨some 57, .load false 1 (.tmp 56), none⟩,
      ⟨some 58, .b2s (.tmp 57), none⟩,
      ⟨some 59, .call 28 [(.tmp 55), (.tmp 58)], none⟩,
      ⟨some 54, .mv (.tmp 59), none⟩,
      ⟨some 60, .ext (.tmp 54) 0, none⟩,
      ⟨some 61, .ext (.tmp 54) 1, none⟩,
      ⟨some 12, .newb [(.int .u32 0), (.str []), (.int .i64 0), (.int .i64 0), (.bool false), (.bool false)], none⟩,
      ⟨none, .store 6 (.tmp 12) (.tmp 60), none⟩,
      ⟨some 13, .mv (.tmp 61), none⟩])
    (.seq (.seq (.reg [⟨some 62, .mv (.tmp 9), none⟩,
      ⟨some 63, .lenV (.tmp 62), none⟩,
      ⟨some 64, .mv (.cst (.int .i64 0)), none⟩])
    (.block 1 (.loop
      (.seq (.reg [⟨some 65, .bin .lss (.tmp 64) (.tmp 63), none⟩])
      (.seq (.cond (.tmp 65)
        .skip
        (.exit 1))
      (.seq (.block 2 (.seq (.reg [⟨some 66, .mv (.tmp 64), none⟩,
        ⟨some 14, .mv (.tmp 66), none⟩])
      (.reg [⟨some 67, .mv (.tmp 9), none⟩,
        ⟨some 68, .mv (.tmp 14), none⟩,
        ⟨some 69, .iadS 1 (.tmp 67) (.tmp 68), none⟩,
        ⟨some 70, .load false 1 (.tmp 69), none⟩,
        ⟨some 71, .bin .add (.tmp 70) (.cst (.int .u8 1)), none⟩,
        ⟨some 72, .iadS 1 (.tmp 67) (.tmp 68), none⟩,
        ⟨none, .store 1 (.tmp 72) (.tmp 71), none⟩])))
      (.reg [⟨some 73, .bin .add (.tmp 64) (.cst (.int .i64 1)), none⟩,
        ⟨some 64, .mv (.tmp 73), none⟩])))))))
    (.seq (.drw [⟨some 74, .load true 6 (.tmp 10), none⟩,
      ⟨some 75, .load true 6 (.tmp 12), none⟩,
      ⟨some 76, .mv (.tmp 11), none⟩,
      ⟨some 77, .mv (.tmp 13), none⟩,
      ⟨some 78, .bin .eql (.tmp 76) (.tmp 77), none⟩,
      ⟨none, .store 6 (.tmp 6) (.tmp 74), none⟩,
      ⟨none, .store 6 (.tmp 7) (.tmp 75), none⟩,
      ⟨some 8, .mv (.tmp 78), none⟩] [[], [], [], [], [], [1], [], []])
    .ret)))))
    (.seq (.seq (.reg [⟨some 80, .bin .eql (.tmp 41) (.cst (.int .u64 1)), none⟩,
      ⟨some 79, .mv (.tmp 80), none⟩])
    (.cond (.tmp 79)
      .skip
      (.reg [⟨some 81, .bin .eql (.tmp 41) (.cst (.int .u64 2)), none⟩,
        ⟨some 79, .mv (.tmp 81), none⟩])))
    (.cond (.tmp 79)
      (.seq (.reg [⟨some 83, .load true 6 (.tmp 3), none⟩,
        ⟨some 84, .fadr 2 (.tmp 5), none⟩,
        ⟨some 85, .load false 1 (.tmp 84), none⟩,
        ⟨some 86, .fadr 3 (.tmp 5), none⟩,
        ⟨some 87, .load false 1 (.tmp 86), none⟩,
        ⟨some 88, .call 13 [(.tmp 83), (.tmp 85), (.tmp 87)], none⟩,
        ⟨some 82, .mv (.tmp 88), none⟩,
        ⟨some 89, .ext (.tmp 82) 0, none⟩,
        ⟨some 90, .ext (.tmp 82) 1, none⟩,
        ⟨some 91, .ext (.tmp 82) 2, none⟩,
        ⟨some 92, .ext (.tmp 82) 3, none⟩,
        ⟨some 15, .newb [(.int .u32 0), .nil, (.int .i64 0), (.bool false), (.bool false), (.bool false)], none⟩,
        ⟨some 16, .newb [(.int .u32 0), .nil], none⟩,
        ⟨none, .store 6 (.tmp 15) (.tmp 89), none⟩,
        ⟨none, .store 2 (.tmp 16) (.tmp 90), none⟩,
        ⟨some 17, .mv (.tmp 91), none⟩,
        ⟨some 18, .mv (.tmp 92), none⟩])
      (.seq (.reg [⟨some 94, .load true 6 (.tmp 4), none⟩,
        ⟨some 95, .fadr 2 (.tmp 5), none⟩,
        ⟨some 96, .load false 1 (.tmp 95), none⟩,
        ⟨some 97, .fadr 3 (.tmp 5), none⟩,
        ⟨some 98, .load false 1 (.tmp 97), none⟩,
        ⟨some 99, .call 29 [(.tmp 94), (.tmp 96), (.tmp 98)], none⟩,
        ⟨some 93, .mv (.tmp 99), none⟩,
        ⟨some 100, .ext (.tmp 93) 0, none⟩,
        ⟨some 101, .ext (.tmp 93) 1, none⟩,
        ⟨some 102, .ext (.tmp 93) 2, none⟩,
        ⟨some 103, .ext (.tmp 93) 3, none⟩,
        ⟨some 104, .ext (.tmp 93) 4, none⟩,
        ⟨some 19, .newb [(.int .u32 0), (.str []), (.int .i64 0), (.int .i64 0), (.bool false), (.bool false)], none⟩,
        ⟨none, .store 6 (.tmp 19) (.tmp 100), none⟩,
        ⟨some 20, .mv (.tmp 101), none⟩,
        ⟨some 21, .mv (.tmp 102), none⟩,
        ⟨some 22, .mv (.tmp 103), none⟩,
        ⟨some 23, .mv (.tmp 104), none⟩])
      (.seq (.drw [⟨some 105, .load true 6 (.tmp 15), none⟩,
        ⟨some 106, .load true 6 (.tmp 19), none⟩,
        ⟨some 107, .mv (.tmp 18), none⟩,
        ⟨some 108, .mv (.tmp 23), none⟩,
        ⟨some 109, .binB false (.tmp 107) (.tmp 108), none⟩,
        ⟨some 110, .mv (.tmp 109), none⟩,
        ⟨some 111, .mv (.tmp 17), some (110, true)⟩,
        ⟨some 112, .mv (.tmp 22), some (110, true)⟩,
        ⟨some 113, .binB false (.tmp 111) (.tmp 112), some (110, true)⟩,
        ⟨some 114, .pick (.tmp 110) (.tmp 113) (.cst (.bool false)), none⟩,
        ⟨some 115, .mv (.tmp 114), none⟩,
        ⟨some 116, .fadr 1 (.tmp 16), some (115, true)⟩,
        ⟨some 117, .load false 1 (.tmp 116), some (115, true)⟩,
        ⟨some 118, .b2s (.tmp 117), some (115, true)⟩,
        ⟨some 119, .mv (.tmp 21), some (115, true)⟩,
        ⟨some 120, .binT .eql (.tmp 118) (.tmp 119), some (115, true)⟩,
        ⟨some 121, .pick (.tmp 115) (.tmp 120) (.cst (.bool false)), none⟩,
        ⟨some 122, .mv (.tmp 121), none⟩,
        ⟨some 123, .fadr 0 (.tmp 16), some (122, true)⟩,
        ⟨some 124, .load false 1 (.tmp 123), some (122, true)⟩,
        ⟨some 125, .mv (.tmp 20), some (122, true)⟩,
        ⟨some 126, .bin .eql (.tmp 124) (.tmp 125), some (122, true)⟩,
        ⟨some 127, .pick (.tmp 122) (.tmp 126) (.cst (.bool false)), none⟩,
        ⟨none, .store 6 (.tmp 6) (.tmp 105), none⟩,
        ⟨none, .store 6 (.tmp 7) (.tmp 106), none⟩,
        ⟨some 8, .mv (.tmp 127), none⟩] [[], [], [], [], [], [], [], [], [], [], [], [], [], [], [], [], [], [], [], [], [], [], [], [1, 19], [19], []])
      .ret)))
      (.seq (.reg [⟨some 129, .bin .eql (.tmp 41) (.cst (.int .u64 3)), none⟩,
        ⟨some 128, .mv (.tmp 129), none⟩])
      (.cond (.tmp 128)
        (.seq (.reg [⟨some 131, .load true 6 (.tmp 3), none⟩,
          ⟨some 132, .fadr 3 (.tmp 5), none⟩,
          ⟨some 133, .load false 1 (.tmp 132), none⟩,
          ⟨some 134, .call 14 [(.tmp 131), (.tmp 133)], none⟩,
          ⟨some 130, .mv (.tmp 134), none⟩,
          ⟨some 135, .ext (.tmp 130) 0, none⟩,
          ⟨some 136, .ext (.tmp 130) 1, none⟩,
          ⟨some 137, .ext (.tmp 130) 2, none⟩,
          ⟨some 24, .newb [(.int .u32 0), .nil], none⟩,
          ⟨none, .store 2 (.tmp 24) (.tmp 135), none⟩,
          ⟨some 25, .mv (.tmp 136), none⟩,
          ⟨some 26, .mv (.tmp 137), none⟩])
        (.seq (.reg [⟨some 139, .load true 6 (.tmp 4), none⟩,
          ⟨some 140, .fadr 3 (.tmp 5), none⟩,
          ⟨some 141, .load false 1 (.tmp 140), none⟩,
          ⟨some 142, .call 30 [(.tmp 139), (.tmp 141)], none⟩,
          ⟨some 138, .mv (.tmp 142), none⟩,
          ⟨some 143, .ext (.tmp 138) 0, none⟩,
          ⟨some 144, .ext (.tmp 138) 1, none⟩,
          ⟨some 145, .ext (.tmp 138) 2, none⟩,
          ⟨some 146, .ext (.tmp 138) 3, none⟩,
          ⟨some 27, .mv (.tmp 143), none⟩,
          ⟨some 28, .mv (.tmp 144), none⟩,
          ⟨some 29, .mv (.tmp 145), none⟩,
          ⟨some 30, .mv (.tmp 146), none⟩])
        (.seq (.drw [⟨some 147, .load true 6 (.tmp 3), none⟩,
          ⟨some 148, .load true 6 (.tmp 4), none⟩,
          ⟨some 149, .mv (.tmp 26), none⟩,
          ⟨some 150, .mv (.tmp 30), none⟩,
          ⟨some 151, .binB false (.tmp 149) (.tmp 150), none⟩,
          ⟨some 152, .mv (.tmp 151), none⟩,
          ⟨some 153, .mv (.tmp 25), some (152, true)⟩,
          ⟨some 154, .mv (.tmp 29), some (152, true)⟩,
          ⟨some 155, .binB false (.tmp 153) (.tmp 154), some (152, true)⟩,
          ⟨some 156, .pick (.tmp 152) (.tmp 155) (.cst (.bool false)), none⟩,
          ⟨some 157, .mv (.tmp 156), none⟩,
          ⟨some 158, .fadr 1 (.tmp 24), some (157, true)⟩,
          ⟨some 159, .load false 1 (.tmp 158), some (157, true)⟩,
          ⟨some 160, .b2s (.tmp 159), some (157, true)⟩,
          ⟨some 161, .mv (.tmp 28), some (157, true)⟩,
          ⟨some 162, .binT .eql (.tmp 160) (.tmp 161), some (157, true)⟩,
          ⟨some 163, .pick (.tmp 157) (.tmp 162) (.cst (.bool false)), none⟩,
          ⟨some 164, .mv (.tmp 163), none⟩,
          ⟨some 165, .fadr 0 (.tmp 24), some (164, true)⟩,
          ⟨some 166, .load false 1 (.tmp 165), some (164, true)⟩,
          ⟨some 167, .mv (.tmp 27), some (164, true)⟩,
          ⟨some 168, .bin .eql (.tmp 166) (.tmp 167), some (164, true)⟩,
          ⟨some 169, .pick (.tmp 164) (.tmp 168) (.cst (.bool false)), none⟩,
          ⟨none, .store 6 (.tmp 6) (.tmp 147), none⟩,
          ⟨none, .store 6 (.tmp 7) (.tmp 148), none⟩,
          ⟨some 8, .mv (.tmp 169), none⟩] [[], [], [], [], [], [], [], [], [], [], [], [], [], [], [], [], [], [], [], [], [], [], [], [1, 19], [19], []])
        .ret)))
        (.seq (.seq (.reg [⟨some 171, .bin .eql (.tmp 41) (.cst (.int .u64 4)), none⟩,
          ⟨some 170, .mv (.tmp 171), none⟩])
        (.cond (.tmp 170)
          .skip
          (.reg [⟨some 172, .bin .eql (.tmp 41) (.cst (.int .u64 5)), none⟩,
            ⟨some 170, .mv (.tmp 172), none⟩])))
        (.cond (.tmp 170)
          (.seq (.reg [⟨some 173, .fadr 0 (.tmp 3), none⟩,
            ⟨some 174, .load false 1 (.tmp 173), none⟩,
            ⟨some 175, .fadr 2 (.tmp 5), none⟩,
            ⟨some 176, .load false 1 (.tmp 175), none⟩,
            ⟨some 177, .conv .u32 (.tmp 176), none⟩,
            ⟨some 178, .bin .add (.tmp 174) (.tmp 177), none⟩,
            ⟨some 31, .mv (.tmp 178), none⟩])
          (.seq (.reg [⟨some 180, .load true 6 (.tmp 3), none⟩,
            ⟨some 181, .mv (.tmp 31), none⟩,
            ⟨some 182, .call 15 [(.tmp 180), (.tmp 181)], none⟩,
            ⟨some 179, .mv (.tmp 182), none⟩,
            ⟨some 183, .ext (.tmp 179) 0, none⟩,
            ⟨some 184, .ext (.tmp 179) 1, none⟩,
            ⟨some 185, .ext (.tmp 179) 2, none⟩,
            ⟨some 32, .newb [(.int .u32 0), .nil, (.int .i64 0), (.bool false), (.bool false), (.bool false)], none⟩,
            ⟨none, .store 6 (.tmp 32) (.tmp 183), none⟩,
            ⟨some 33, .mv (.tmp 184), none⟩,
            ⟨some 34, .mv (.tmp 185), none⟩])
          (.seq (.reg [⟨some 187, .load true 6 (.tmp 4), none⟩,
            ⟨some 188, .mv (.tmp 31), none⟩,
            ⟨some 189, .call 31 [(.tmp 187), (.tmp 188)], none⟩,
            ⟨some 186, .mv (.tmp 189), none⟩,
            ⟨some 190, .ext (.tmp 186) 0, none⟩,
            ⟨some 191, .ext (.tmp 186) 1, none⟩,
            ⟨some 192, .ext (.tmp 186) 2, none⟩,
            ⟨some 35, .newb [(.int .u32 0), (.str []), (.int .i64 0), (.int .i64 0), (.bool false), (.bool false)], none⟩,
            ⟨none, .store 6 (.tmp 35) (.tmp 190), none⟩,
            ⟨some 36, .mv (.tmp 191), none⟩,
            ⟨some 37, .mv (.tmp 192), none⟩])
          (.seq (.drw [⟨some 193, .load true 6 (.tmp 32), none⟩,
            ⟨some 194, .load true 6 (.tmp 35), none⟩,
            ⟨some 195, .mv (.tmp 33), none⟩,
            ⟨some 196, .mv (.tmp 36), none⟩,
            ⟨some 197, .bin .eql (.tmp 195) (.tmp 196), none⟩,
            ⟨some 198, .mv (.tmp 197), none⟩,
            ⟨some 199, .mv (.tmp 34), some (198, true)⟩,
            ⟨some 200, .mv (.tmp 37), some (198, true)⟩,
            ⟨some 201, .bin .eql (.tmp 199) (.tmp 200), some (198, true)⟩,
            ⟨some 202, .pick (.tmp 198) (.tmp 201) (.cst (.bool false)), none⟩,
            ⟨none, .store 6 (.tmp 6) (.tmp 193), none⟩,
            ⟨none, .store 6 (.tmp 7) (.tmp 194), none⟩,
            ⟨some 8, .mv (.tmp 202), none⟩] [[], [], [], [], [], [], [], [], [], [], [1], [], []])
          .ret))))
          .skip))))))))))
  (.seq (.reg [⟨some 203, .fadr 4 (.tmp 4), none⟩,
    ⟨none, .store 1 (.tmp 203) (.cst (.bool true)), none⟩])
  (.seq (.drw [⟨some 204, .load true 6 (.tmp 3), none⟩,
    ⟨some 205, .call 16 [(.tmp 204)], none⟩,
    ⟨some 206, .load true 6 (.tmp 4), none⟩,
    ⟨none, .store 6 (.tmp 6) (.tmp 205), none⟩,
    ⟨none, .store 6 (.tmp 7) (.tmp 206), none⟩,
    ⟨some 8, .mv (.cst (.bool true)), none⟩] [[], [], [], [2], [], []])
  .ret))))
theorem p_caravellaw18_step : Try.f19.body.bind (compC Try.prog 207) = some c_caravellaw18_step := by kernel_rfl
theorem r_caravellaw18_step : tellR Try.prog Try.f19.results.toList = some [.c 6 true 6, .c 7 true 6, .t 8] := by kernel_rfl

/-- caravel/caravelref18.Like: 2 in. -/
def c_caravelref18_Like : ACode :=
  (.seq (.reg [⟨some 2, .box (.tmp 0), none⟩,
    ⟨some 3, .box (.tmp 1), none⟩,
    ⟨some 4, .mv (.cst (.bool false)), none⟩])
  (.seq (.reg [⟨some 6, .fadr 2 (.tmp 2), none⟩,
    ⟨some 7, .load false 1 (.tmp 6), none⟩,
    ⟨some 8, .fadr 1 (.tmp 2), none⟩,
    ⟨some 9, .load false 1 (.tmp 8), none⟩,
    ⟨some 10, .lenT (.tmp 9), none⟩,
    ⟨some 11, .min [(.tmp 7), (.tmp 10)], none⟩,
    ⟨some 5, .mv (.tmp 11), none⟩])
  (.seq (.reg [⟨some 12, .fadr 0 (.tmp 3), none⟩,
    ⟨some 13, .load false 1 (.tmp 12), none⟩,
    ⟨some 14, .fadr 0 (.tmp 2), none⟩,
    ⟨some 15, .load false 1 (.tmp 14), none⟩,
    ⟨some 16, .fadr 2 (.tmp 2), none⟩,
    ⟨some 17, .load false 1 (.tmp 16), none⟩,
    ⟨some 18, .call 32 [(.tmp 15), (.tmp 17)], none⟩,
    ⟨some 19, .bin .eql (.tmp 13) (.tmp 18), none⟩,
    ⟨some 20, .mv (.tmp 19), none⟩,
    ⟨some 21, .fadr 1 (.tmp 3), some (20, true)⟩,
    ⟨some 22, .load false 1 (.tmp 21), some (20, true)⟩,
    ⟨some 23, .b2s (.tmp 22), some (20, true)⟩,
    ⟨some 24, .fadr 1 (.tmp 2), some (20, true)⟩,
    ⟨some 25, .load false 1 (.tmp 24), some (20, true)⟩,
    ⟨some 26, .mv (.tmp 5), some (20, true)⟩,
    ⟨some 27, .slT (.tmp 25) (some (.tmp 26)) none, some (20, true)⟩,
    ⟨some 28, .binT .eql (.tmp 23) (.tmp 27), some (20, true)⟩,
    ⟨some 29, .pick (.tmp 20) (.tmp 28) (.cst (.bool false)), none⟩,
    ⟨some 30, .mv (.tmp 29), none⟩,
    ⟨some 31, .fadr 2 (.tmp 3), some (30, true)⟩,
    ⟨some 32, .load false 1 (.tmp 31), some (30, true)⟩,
    ⟨some 33, .fadr 3 (.tmp 2), some (30, true)⟩,
    ⟨some 34, .load false 1 (.tmp 33), some (30, true)⟩,
    ⟨some 35, .mv (.tmp 5), some (30, true)⟩,
    ⟨some 36, .bin .sub (.tmp 34) (.tmp 35), some (30, true)⟩,
    ⟨some 37, .bin .eql (.tmp 32) (.tmp 36), some (30, true)⟩,
    ⟨some 38, .pick (.tmp 30) (.tmp 37) (.cst (.bool false)), none⟩,
    ⟨some 39, .mv (.tmp 38), none⟩,
    ⟨some 40, .fadr 3 (.tmp 3), some (39, true)⟩,
    ⟨some 41, .load false 1 (.tmp 40), some (39, true)⟩,
    ⟨some 42, .fadr 4 (.tmp 2), some (39, true)⟩,
    ⟨some 43, .load false 1 (.tmp 42), some (39, true)⟩,
    ⟨some 44, .binB false (.tmp 41) (.tmp 43), some (39, true)⟩,
    ⟨some 45, .pick (.tmp 39) (.tmp 44) (.cst (.bool false)), none⟩,
    ⟨some 46, .mv (.tmp 45), none⟩,
    ⟨some 47, .fadr 4 (.tmp 3), some (46, true)⟩,
    ⟨some 48, .load false 1 (.tmp 47), some (46, true)⟩,
    ⟨some 49, .fadr 5 (.tmp 2), some (46, true)⟩,
    ⟨some 50, .load false 1 (.tmp 49), some (46, true)⟩,
    ⟨some 51, .binB false (.tmp 48) (.tmp 50), some (46, true)⟩,
    ⟨some 52, .pick (.tmp 46) (.tmp 51) (.cst (.bool false)), none⟩,
    ⟨some 53, .mv (.tmp 52), none⟩,
    ⟨some 54, .fadr 5 (.tmp 3), some (53, true)⟩,
    ⟨some 55, .load false 1 (.tmp 54), some (53, true)⟩,
    ⟨some 56, .fadr 2 (.tmp 2), some (53, true)⟩,
    ⟨some 57, .load false 1 (.tmp 56), some (53, true)⟩,
    ⟨some 58, .fadr 1 (.tmp 2), some (53, true)⟩,
    ⟨some 59, .load false 1 (.tmp 58), some (53, true)⟩,
    ⟨some 60, .lenT (.tmp 59), some (53, true)⟩,
    ⟨some 61, .bin .gtr (.tmp 57) (.tmp 60), some (53, true)⟩,
    ⟨some 62, .binB false (.tmp 55) (.tmp 61), some (53, true)⟩,
    ⟨some 63, .pick (.tmp 53) (.tmp 62) (.cst (.bool false)), none⟩,
    ⟨some 4, .mv (.tmp 63), none⟩])
  .ret)))
theorem p_caravelref18_Like : Try.f20.body.bind (compC Try.prog 64) = some c_caravelref18_Like := by kernel_rfl
theorem r_caravelref18_Like : tellR Try.prog Try.f20.results.toList = some [.t 4] := by kernel_rfl

/-- caravel/caravelref18.Room: 1 in. -/
def c_caravelref18_Room : ACode :=
  (.seq (.reg [⟨some 1, .box (.tmp 0), none⟩,
    ⟨some 2, .mv (.cst (.int .i64 0)), none⟩])
  (.seq (.seq (.reg [⟨some 3, .fadr 4 (.tmp 1), none⟩,
    ⟨some 4, .load false 1 (.tmp 3), none⟩])
  (.cond (.tmp 4)
    (.seq (.reg [⟨some 2, .mv (.cst (.int .i64 0)), none⟩])
    .ret)
    .skip))
  (.seq (.reg [⟨some 5, .fadr 1 (.tmp 1), none⟩,
    ⟨some 6, .load false 1 (.tmp 5), none⟩,
    ⟨some 7, .lenT (.tmp 6), none⟩,
    ⟨some 8, .fadr 2 (.tmp 1), none⟩,
    ⟨some 9, .load false 1 (.tmp 8), none⟩,
    ⟨some 10, .fadr 1 (.tmp 1), none⟩,
    ⟨some 11, .load false 1 (.tmp 10), none⟩,
    ⟨some 12, .lenT (.tmp 11), none⟩,
    ⟨some 13, .min [(.tmp 9), (.tmp 12)], none⟩,
    ⟨some 14, .bin .sub (.tmp 7) (.tmp 13), none⟩,
    ⟨some 15, .bin .sub (.cst (.int .i64 256)) (.tmp 14), none⟩,
    ⟨some 2, .mv (.tmp 15), none⟩])
  .ret)))
theorem p_caravelref18_Room : Try.f21.body.bind (compC Try.prog 16) = some c_caravelref18_Room := by kernel_rfl
theorem r_caravelref18_Room : tellR Try.prog Try.f21.results.toList = some [.t 2] := by kernel_rfl

/-- caravel/caravelref18.Flight: 1 in. -/
def c_caravelref18_Flight : ACode :=
  (.seq (.reg [⟨some 1, .box (.tmp 0), none⟩,
    ⟨some 2, .mv (.cst (.int .i64 0)), none⟩])
  (.seq (.reg [⟨some 4, .fadr 3 (.tmp 1), none⟩,
    ⟨some 5, .load false 1 (.tmp 4), none⟩,
    ⟨some 3, .mv (.tmp 5), none⟩])
  (.seq (.seq (.reg [⟨some 6, .fadr 5 (.tmp 1), none⟩,
    ⟨some 7, .load false 1 (.tmp 6), none⟩])
  (.cond (.tmp 7)
    (.reg [⟨some 8, .mv (.tmp 3), none⟩,
      ⟨some 9, .bin .add (.tmp 8) (.cst (.int .i64 1)), none⟩,
      ⟨some 3, .mv (.tmp 9), none⟩])
    .skip))
  (.seq (.reg [⟨some 10, .mv (.tmp 3), none⟩,
    ⟨some 11, .fadr 2 (.tmp 1), none⟩,
    ⟨some 12, .load false 1 (.tmp 11), none⟩,
    ⟨some 13, .bin .sub (.tmp 10) (.tmp 12), none⟩,
    ⟨some 2, .mv (.tmp 13), none⟩])
  .ret))))
theorem p_caravelref18_Flight : Try.f22.body.bind (compC Try.prog 14) = some c_caravelref18_Flight := by kernel_rfl
theorem r_caravelref18_Flight : tellR Try.prog Try.f22.results.toList = some [.t 2] := by kernel_rfl

/-- caravel/sendq.Empty: 1 in. -/
def c_sendq_Empty : ACode :=
  (.seq (.reg [⟨some 1, .box (.tmp 0), none⟩,
    ⟨some 2, .mv (.cst (.bool false)), none⟩])
  (.seq (.reg [⟨some 3, .fadr 1 (.tmp 1), none⟩,
    ⟨some 4, .load false 1 (.tmp 3), none⟩,
    ⟨some 5, .lenV (.tmp 4), none⟩,
    ⟨some 6, .bin .eql (.tmp 5) (.cst (.int .i64 0)), none⟩,
    ⟨some 7, .mv (.tmp 6), none⟩,
    ⟨some 8, .fadr 3 (.tmp 1), some (7, true)⟩,
    ⟨some 9, .load false 1 (.tmp 8), some (7, true)⟩,
    ⟨some 10, .not (.tmp 9), some (7, true)⟩,
    ⟨some 11, .mv (.tmp 10), some (7, true)⟩,
    ⟨some 12, .fadr 5 (.tmp 1), some (11, false)⟩,
    ⟨some 13, .load false 1 (.tmp 12), some (11, false)⟩,
    ⟨some 14, .pick (.tmp 11) (.cst (.bool true)) (.tmp 13), some (7, true)⟩,
    ⟨some 15, .pick (.tmp 7) (.tmp 14) (.cst (.bool false)), none⟩,
    ⟨some 2, .mv (.tmp 15), none⟩])
  .ret))
theorem p_sendq_Empty : Try.f23.body.bind (compC Try.prog 16) = some c_sendq_Empty := by kernel_rfl
theorem r_sendq_Empty : tellR Try.prog Try.f23.results.toList = some [.t 2] := by kernel_rfl

/-- caravel/sendq.Clone: 1 in. -/
def c_sendq_Clone : ACode :=
  (.seq (.reg [⟨some 1, .box (.tmp 0), none⟩,
    ⟨some 2, .newb [(.int .u32 0), .nil, (.int .i64 0), (.bool false), (.bool false), (.bool false)], none⟩])
  (.seq (.reg [⟨some 3, .fadr 1 (.tmp 1), none⟩,
    ⟨some 4, .load false 1 (.tmp 3), none⟩,
    ⟨some 5, .call 26 [(.tmp 4)], none⟩,
    ⟨some 6, .fadr 1 (.tmp 1), none⟩,
    ⟨none, .store 1 (.tmp 6) (.tmp 5), none⟩])
  (.seq (.reg [⟨some 7, .load true 6 (.tmp 1), none⟩,
    ⟨none, .store 6 (.tmp 2) (.tmp 7), none⟩])
  .ret)))
theorem p_sendq_Clone : Try.f24.body.bind (compC Try.prog 8) = some c_sendq_Clone := by kernel_rfl
theorem r_sendq_Clone : tellR Try.prog Try.f24.results.toList = some [.c 2 true 6] := by kernel_rfl

/-- caravel/seq.Add: 2 in. -/
def c_seq_Add : ACode :=
  (.seq (.reg [⟨some 4, .mv (.cst (.int .u32 0)), none⟩])
  (.seq (.reg [⟨some 5, .mv (.tmp 0), none⟩,
    ⟨some 6, .mv (.tmp 1), none⟩,
    ⟨some 7, .conv .u32 (.tmp 6), none⟩,
    ⟨some 8, .bin .add (.tmp 5) (.tmp 7), none⟩,
    ⟨some 4, .mv (.tmp 8), none⟩])
  .ret))
theorem p_seq_Add : Try.f25.body.bind (compC Try.prog 9) = some c_seq_Add := by kernel_rfl
theorem r_seq_Add : tellR Try.prog Try.f25.results.toList = some [.t 4] := by kernel_rfl

/-- slices.Clone[[]byte,byte]: 1 in. -/
def c_slices_Clone__byte_byte : ACode :=
  (.seq (.reg [⟨some 2, .mv (.cst .nil), none⟩])
  (.seq (.seq (.reg [⟨some 3, .mv (.tmp 0), none⟩,
    ⟨some 4, .isN false (.tmp 3), none⟩])
  (.cond (.tmp 4)
    (.seq (.reg [⟨some 2, .mv (.cst .nil), none⟩])
    .ret)
    .skip))
  (.seq (.reg [⟨some 5, .bsl 1 [], none⟩,
    ⟨some 6, .mv (.tmp 0), none⟩,
    ⟨some 7, .app 1 1 (.tmp 5) (.tmp 6), none⟩,
    ⟨some 2, .mv (.tmp 7), none⟩])
  .ret)))
theorem p_slices_Clone__byte_byte : Try.f26.body.bind (compC Try.prog 8) = some c_slices_Clone__byte_byte := by kernel_rfl
theorem r_slices_Clone__byte_byte : tellR Try.prog Try.f26.results.toList = some [.t 2] := by kernel_rfl

/-- caravel/seq.Diff: 2 in. -/
def c_seq_Diff : ACode :=
  (.seq (.reg [⟨some 4, .mv (.cst (.int .i64 0)), none⟩])
  (.seq (.reg [⟨some 5, .mv (.tmp 0), none⟩,
    ⟨some 6, .mv (.tmp 1), none⟩,
    ⟨some 7, .bin .sub (.tmp 5) (.tmp 6), none⟩,
    ⟨some 8, .conv .i32 (.tmp 7), none⟩,
    ⟨some 9, .conv .i64 (.tmp 8), none⟩,
    ⟨some 4, .mv (.tmp 9), none⟩])
  .ret))
theorem p_seq_Diff : Try.f27.body.bind (compC Try.prog 10) = some c_seq_Diff := by kernel_rfl
theorem r_seq_Diff : tellR Try.prog Try.f27.results.toList = some [.t 4] := by kernel_rfl

/-- caravel/caravelref18.Write: 2 in. -/
def c_caravelref18_Write : ACode :=
  (.seq (.reg [⟨some 2, .box (.tmp 0), none⟩,
    ⟨some 4, .newb [(.int .u32 0), (.str []), (.int .i64 0), (.int .i64 0), (.bool false), (.bool false)], none⟩,
    ⟨some 5, .mv (.cst (.int .i64 0)), none⟩])
  (.seq (.reg [⟨some 7, .mv (.tmp 1), none⟩,
    ⟨some 8, .lenT (.tmp 7), none⟩,
    ⟨some 9, .load true 6 (.tmp 2), none⟩,
    ⟨some 10, .call 21 [(.tmp 9)], none⟩,
    ⟨some 11, .min [(.tmp 8), (.tmp 10)], none⟩,
    ⟨some 6, .mv (.tmp 11), none⟩])
  (.seq (.reg [⟨some 12, .fadr 1 (.tmp 2), none⟩,
    ⟨some 13, .load false 1 (.tmp 12), none⟩,
    ⟨some 14, .mv (.tmp 1), none⟩,
    ⟨some 15, .mv (.tmp 6), none⟩,
    ⟨some 16, .slT (.tmp 14) none (some (.tmp 15)), none⟩,
    ⟨some 17, .binT .add (.tmp 13) (.tmp 16), none⟩,
    ⟨some 18, .fadr 1 (.tmp 2), none⟩,
    ⟨none, .store 1 (.tmp 18) (.tmp 17), none⟩])
  (.seq (.reg [⟨some 19, .load true 6 (.tmp 2), none⟩,
    ⟨some 20, .mv (.tmp 6), none⟩,
    ⟨none, .store 6 (.tmp 4) (.tmp 19), none⟩,
    ⟨some 5, .mv (.tmp 20), none⟩])
  .ret))))
theorem p_caravelref18_Write : Try.f28.body.bind (compC Try.prog 21) = some c_caravelref18_Write := by kernel_rfl
theorem r_caravelref18_Write : tellR Try.prog Try.f28.results.toList = some [.c 4 true 6, .t 5] := by kernel_rfl

/-- caravel/caravelref18.Next: 3 in. -/
def c_caravelref18_Next : ACode :=
  (.seq (.reg [⟨some 3, .box (.tmp 0), none⟩,
    ⟨some 6, .newb [(.int .u32 0), (.str []), (.int .i64 0), (.int .i64 0), (.bool false), (.bool false)], none⟩,
    ⟨some 7, .mv (.cst (.int .u32 0)), none⟩,
    ⟨some 8, .mv (.cst (.str [])), none⟩,
    ⟨some 9, .mv (.cst (.bool false)), none⟩,
    ⟨some 10, .mv (.cst (.bool false)), none⟩])
  (.seq (.reg [⟨some 15, .mv (.tmp 2), none⟩,
    ⟨some 16, .mv (.tmp 1), none⟩,
    ⟨some 17, .max [(.tmp 16), (.cst (.int .i64 0))], none⟩,
    ⟨some 18, .fadr 3 (.tmp 3), none⟩,
    ⟨some 19, .load false 1 (.tmp 18), none⟩,
    ⟨some 20, .fadr 2 (.tmp 3), none⟩,
    ⟨some 21, .load false 1 (.tmp 20), none⟩,
    ⟨some 22, .fadr 3 (.tmp 3), none⟩,
    ⟨some 23, .load false 1 (.tmp 22), none⟩,
    ⟨some 24, .min [(.tmp 21), (.tmp 23)], none⟩,
    ⟨some 25, .bin .sub (.tmp 19) (.tmp 24), none⟩,
    ⟨some 26, .bin .sub (.tmp 17) (.tmp 25), none⟩,
    ⟨some 27, .min [(.tmp 15), (.tmp 26)], none⟩,
    ⟨some 11, .mv (.tmp 27), none⟩])
  (.seq (.reg [⟨some 28, .fadr 1 (.tmp 3), none⟩,
    ⟨some 29, .load false 1 (.tmp 28), none⟩,
    ⟨some 30, .fadr 3 (.tmp 3), none⟩,
    ⟨some 31, .load false 1 (.tmp 30), none⟩,
    ⟨some 32, .slT (.tmp 29) (some (.tmp 31)) none, none⟩,
    ⟨some 12, .mv (.tmp 32), none⟩])
  (.seq (.seq (.reg [⟨some 33, .mv (.tmp 11), none⟩,
    ⟨some 34, .mv (.tmp 12), none⟩,
    ⟨some 35, .lenT (.tmp 34), none⟩,
    ⟨some 36, .bin .lss (.tmp 33) (.tmp 35), none⟩])
  (.cond (.tmp 36)
    (.reg [⟨some 37, .mv (.tmp 12), none⟩,
      ⟨some 38, .mv (.tmp 11), none⟩,
      ⟨some 39, .max [(.tmp 38), (.cst (.int .i64 0))], none⟩,
      ⟨some 40, .slT (.tmp 37) none (some (.tmp 39)), none⟩,
      ⟨some 12, .mv (.tmp 40), none⟩])
    .skip))
  (.seq (.reg [⟨some 41, .fadr 4 (.tmp 3), none⟩,
    ⟨some 42, .load false 1 (.tmp 41), none⟩,
    ⟨some 43, .mv (.tmp 42), none⟩,
    ⟨some 44, .fadr 5 (.tmp 3), some (43, true)⟩,
    ⟨some 45, .load false 1 (.tmp 44), some (43, true)⟩,
    ⟨some 46, .not (.tmp 45), some (43, true)⟩,
    ⟨some 47, .pick (.tmp 43) (.tmp 46) (.cst (.bool false)), none⟩,
    ⟨some 48, .mv (.tmp 47), none⟩,
    ⟨some 49, .fadr 3 (.tmp 3), some (48, true)⟩,
    ⟨some 50, .load false 1 (.tmp 49), some (48, true)⟩,
    ⟨some 51, .mv (.tmp 12), some (48, true)⟩,
    ⟨some 52, .lenT (.tmp 51), some (48, true)⟩,
    ⟨some 53, .bin .add (.tmp 50) (.tmp 52), some (48, true)⟩,
    ⟨some 54, .fadr 1 (.tmp 3), some (48, true)⟩,
    ⟨some 55, .load false 1 (.tmp 54), some (48, true)⟩,
    ⟨some 56, .lenT (.tmp 55), some (48, true)⟩,
    ⟨some 57, .bin .eql (.tmp 53) (.tmp 56), some (48, true)⟩,
    ⟨some 58, .pick (.tmp 48) (.tmp 57) (.cst (.bool false)), none⟩,
    ⟨some 13, .mv (.tmp 58), none⟩])
  (.seq (.seq (.reg [⟨some 59, .mv (.tmp 12), none⟩,
    ⟨some 60, .binT .eql (.tmp 59) (.cst (.str [])), none⟩,
    ⟨some 61, .mv (.tmp 60), none⟩,
    ⟨some 62, .mv (.tmp 13), some (61, true)⟩,
    ⟨some 63, .not (.tmp 62), some (61, true)⟩,
    ⟨some 64, .pick (.tmp 61) (.tmp 63) (.cst (.bool false)), none⟩])
  (.cond (.tmp 64)
    (.seq (.reg [⟨some 65, .load true 6 (.tmp 3), none⟩,
      ⟨none, .store 6 (.tmp 6) (.tmp 65), none⟩,
      ⟨some 7, .mv (.cst (.int .u32 0)), none⟩,
      ⟨some 8, .mv (.cst (.str [])), none⟩,
      ⟨some 9, .mv (.cst (.bool false)), none⟩,
      ⟨some 10, .mv (.cst (.bool false)), none⟩])
    .ret)
    .skip))
  (.seq (.reg [⟨some 66, .fadr 0 (.tmp 3), none⟩,
    ⟨some 67, .load false 1 (.tmp 66), none⟩,
    ⟨some 68, .fadr 3 (.tmp 3), none⟩,
    ⟨some 69, .load false 1 (.tmp 68), none⟩,
    ⟨some 70, .call 32 [(.tmp 67), (.tmp 69)], none⟩,
    ⟨some 14, .mv (.tmp 70), none⟩])
  (.seq (.reg [⟨some 71, .fadr 3 (.tmp 3), none⟩,
    ⟨some 72, .load false 1 (.tmp 71), none⟩,
    ⟨some 73, .mv (.tmp 12), none⟩,
    ⟨some 74, .lenT (.tmp 73), none⟩,
    ⟨some 75, .bin .add (.tmp 72) (.tmp 74), none⟩,
    ⟨some 76, .fadr 3 (.tmp 3), none⟩,
    ⟨none, .store 1 (.tmp 76) (.tmp 75), none⟩])
  (.seq (.reg [⟨some 77, .fadr 5 (.tmp 3), none⟩,
    ⟨some 78, .load false 1 (.tmp 77), none⟩,
    ⟨some 79, .mv (.tmp 78), none⟩,
    ⟨some 80, .mv (.tmp 13), some (79, false)⟩,
    ⟨some 81, .pick (.tmp 79) (.cst (.bool true)) (.tmp 80), none⟩,
    ⟨some 82, .fadr 5 (.tmp 3), none⟩,
    ⟨none, .store 1 (.tmp 82) (.tmp 81), none⟩])
  (.seq (.reg [⟨some 83, .load true 6 (.tmp 3), none⟩,
    ⟨some 84, .mv (.tmp 14), none⟩,
    ⟨some 85, .mv (.tmp 12), none⟩,
    ⟨some 86, .mv (.tmp 13), none⟩,
    ⟨none, .store 6 (.tmp 6) (.tmp 83), none⟩,
    ⟨some 7, .mv (.tmp 84), none⟩,
    ⟨some 8, .mv (.tmp 85), none⟩,
    ⟨some 9, .mv (.tmp 86), none⟩,
    ⟨some 10, .mv (.cst (.bool true)), none⟩])
  .ret))))))))))
theorem p_caravelref18_Next : Try.f29.body.bind (compC Try.prog 87) = some c_caravelref18_Next := by kernel_rfl
theorem r_caravelref18_Next : tellR Try.prog Try.f29.results.toList = some [.c 6 true 6, .t 7, .t 8, .t 9, .t 10] := by kernel_rfl

/-- caravel/caravelref18.Again: 2 in. -/
def c_caravelref18_Again : ACode :=
  (.seq (.reg [⟨some 2, .box (.tmp 0), none⟩,
    ⟨some 4, .mv (.cst (.int .u32 0)), none⟩,
    ⟨some 5, .mv (.cst (.str [])), none⟩,
    ⟨some 6, .mv (.cst (.bool false)), none⟩,
    ⟨some 7, .mv (.cst (.bool false)), none⟩])
  (.seq (.reg [⟨some 11, .fadr 2 (.tmp 2), none⟩,
    ⟨some 12, .load false 1 (.tmp 11), none⟩,
    ⟨some 13, .fadr 3 (.tmp 2), none⟩,
    ⟨some 14, .load false 1 (.tmp 13), none⟩,
    ⟨some 15, .min [(.tmp 12), (.tmp 14)], none⟩,
    ⟨some 8, .mv (.tmp 15), none⟩])
  (.seq (.reg [⟨some 16, .mv (.tmp 8), none⟩,
    ⟨some 17, .fadr 3 (.tmp 2), none⟩,
    ⟨some 18, .load false 1 (.tmp 17), none⟩,
    ⟨some 19, .mv (.tmp 8), none⟩,
    ⟨some 20, .bin .sub (.tmp 18) (.tmp 19), none⟩,
    ⟨some 21, .mv (.tmp 1), none⟩,
    ⟨some 22, .min [(.tmp 20), (.tmp 21)], none⟩,
    ⟨some 23, .max [(.cst (.int .i64 0)), (.tmp 22)], none⟩,
    ⟨some 24, .bin .add (.tmp 16) (.tmp 23), none⟩,
    ⟨some 9, .mv (.tmp 24), none⟩])
  (.seq (.reg [⟨some 25, .fadr 5 (.tmp 2), none⟩,
    ⟨some 26, .load false 1 (.tmp 25), none⟩,
    ⟨some 27, .mv (.tmp 26), none⟩,
    ⟨some 28, .fadr 2 (.tmp 2), some (27, true)⟩,
    ⟨some 29, .load false 1 (.tmp 28), some (27, true)⟩,
    ⟨some 30, .fadr 1 (.tmp 2), some (27, true)⟩,
    ⟨some 31, .load false 1 (.tmp 30), some (27, true)⟩,
    ⟨some 32, .lenT (.tmp 31), some (27, true)⟩,
    ⟨some 33, .bin .leq (.tmp 29) (.tmp 32), some (27, true)⟩,
    ⟨some 34, .pick (.tmp 27) (.tmp 33) (.cst (.bool false)), none⟩,
    ⟨some 35, .mv (.tmp 34), none⟩,
    ⟨some 36, .mv (.tmp 9), some (35, true)⟩,
    ⟨some 37, .fadr 1 (.tmp 2), some (35, true)⟩,
    ⟨some 38, .load false 1 (.tmp 37), some (35, true)⟩,
    ⟨some 39, .lenT (.tmp 38), some (35, true)⟩,
    ⟨some 40, .bin .eql (.tmp 36) (.tmp 39), some (35, true)⟩,
    ⟨some 41, .pick (.tmp 35) (.tmp 40) (.cst (.bool false)), none⟩,
    ⟨some 10, .mv (.tmp 41), none⟩])
  (.seq (.seq (.reg [⟨some 42, .mv (.tmp 8), none⟩,
    ⟨some 43, .mv (.tmp 9), none⟩,
    ⟨some 44, .bin .eql (.tmp 42) (.tmp 43), none⟩,
    ⟨some 45, .mv (.tmp 44), none⟩,
    ⟨some 46, .mv (.tmp 10), some (45, true)⟩,
    ⟨some 47, .not (.tmp 46), some (45, true)⟩,
    ⟨some 48, .pick (.tmp 45) (.tmp 47) (.cst (.bool false)), none⟩])
  (.cond (.tmp 48)
    (.seq (.reg [⟨some 4, .mv (.cst (.int .u32 0)), none⟩,
      ⟨some 5, .mv (.cst (.str [])), none⟩,
      ⟨some 6, .mv (.cst (.bool false)), none⟩,
      ⟨some 7, .mv (.cst (.bool false)), none⟩])
    .ret)
    .skip))
  (.seq (.reg [⟨some 49, .fadr 0 (.tmp 2), none⟩,
    ⟨some 50, .load false 1 (.tmp 49), none⟩,
    ⟨some 51, .mv (.tmp 8), none⟩,
    ⟨some 52, .call 32 [(.tmp 50), (.tmp 51)], none⟩,
    ⟨some 53, .fadr 1 (.tmp 2), none⟩,
    ⟨some 54, .load false 1 (.tmp 53), none⟩,
    ⟨some 55, .mv (.tmp 8), none⟩,
    ⟨some 56, .mv (.tmp 9), none⟩,
    ⟨some 57, .slT (.tmp 54) (some (.tmp 55)) (some (.tmp 56)), none⟩,
    ⟨some 58, .mv (.tmp 10), none⟩,
    ⟨some 4, .mv (.tmp 52), none⟩,
    ⟨some 5, .mv (.tmp 57), none⟩,
    ⟨some 6, .mv (.tmp 58), none⟩,
    ⟨some 7, .mv (.cst (.bool true)), none⟩])
  .ret))))))
theorem p_caravelref18_Again : Try.f30.body.bind (compC Try.prog 59) = some c_caravelref18_Again := by kernel_rfl
theorem r_caravelref18_Again : tellR Try.prog Try.f30.results.toList = some [.t 4, .t 5, .t 6, .t 7] := by kernel_rfl

/-- caravel/caravelref18.Ack: 2 in. -/
def c_caravelref18_Ack : ACode :=
  (.seq (.reg [⟨some 2, .box (.tmp 0), none⟩,
    ⟨some 4, .newb [(.int .u32 0), (.str []), (.int .i64 0), (.int .i64 0), (.bool false), (.bool false)], none⟩,
    ⟨some 5, .mv (.cst (.int .i64 0)), none⟩,
    ⟨some 6, .mv (.cst (.int .i64 0)), none⟩])
  (.seq (.reg [⟨some 8, .mv (.tmp 1), none⟩,
    ⟨some 9, .fadr 0 (.tmp 2), none⟩,
    ⟨some 10, .load false 1 (.tmp 9), none⟩,
    ⟨some 11, .fadr 2 (.tmp 2), none⟩,
    ⟨some 12, .load false 1 (.tmp 11), none⟩,
    ⟨some 13, .call 32 [(.tmp 10), (.tmp 12)], none⟩,
    ⟨some 14, .call 33 [(.tmp 8), (.tmp 13)], none⟩,
    ⟨some 7, .mv (.tmp 14), none⟩])
  (.seq (.seq (.reg [⟨some 15, .mv (.tmp 7), none⟩,
    ⟨some 16, .bin .leq (.tmp 15) (.cst (.int .i64 0)), none⟩])
  (.cond (.tmp 16)
    (.seq (.reg [⟨some 17, .load true 6 (.tmp 2), none⟩,
      ⟨none, .store 6 (.tmp 4) (.tmp 17), none⟩,
      ⟨some 5, .mv (.cst (.int .i64 0)), none⟩,
      ⟨some 6, .mv (.cst (.int .i64 0)), none⟩])
    .ret)
    .skip))
  (.seq (.seq (.reg [⟨some 18, .mv (.tmp 7), none⟩,
    ⟨some 19, .load true 6 (.tmp 2), none⟩,
    ⟨some 20, .call 22 [(.tmp 19)], none⟩,
    ⟨some 21, .bin .gtr (.tmp 18) (.tmp 20), none⟩])
  (.cond (.tmp 21)
    (.seq (.reg [⟨some 22, .load true 6 (.tmp 2), none⟩,
      ⟨none, .store 6 (.tmp 4) (.tmp 22), none⟩,
      ⟨some 5, .mv (.cst (.int .i64 0)), none⟩,
      ⟨some 6, .mv (.cst (.int .i64 1)), none⟩])
    .ret)
    .skip))
  (.seq (.reg [⟨some 23, .fadr 2 (.tmp 2), none⟩,
    ⟨some 24, .load false 1 (.tmp 23), none⟩,
    ⟨some 25, .mv (.tmp 7), none⟩,
    ⟨some 26, .bin .add (.tmp 24) (.tmp 25), none⟩,
    ⟨some 27, .fadr 2 (.tmp 2), none⟩,
    ⟨none, .store 1 (.tmp 27) (.tmp 26), none⟩])
  (.seq (.reg [⟨some 28, .load true 6 (.tmp 2), none⟩,
    ⟨some 29, .mv (.tmp 7), none⟩,
    ⟨none, .store 6 (.tmp 4) (.tmp 28), none⟩,
    ⟨some 5, .mv (.tmp 29), none⟩,
    ⟨some 6, .mv (.cst (.int .i64 0)), none⟩])
  .ret))))))
theorem p_caravelref18_Ack : Try.f31.body.bind (compC Try.prog 30) = some c_caravelref18_Ack := by kernel_rfl
theorem r_caravelref18_Ack : tellR Try.prog Try.f31.results.toList = some [.c 4 true 6, .t 5, .t 6] := by kernel_rfl

/-- caravel/caravelref03.Add: 2 in. -/
def c_caravelref03_Add : ACode :=
  (.seq (.reg [⟨some 4, .mv (.cst (.int .u32 0)), none⟩])
  (.seq (.reg [⟨some 5, .mv (.tmp 0), none⟩,
    ⟨some 6, .conv .i64 (.tmp 5), none⟩,
    ⟨some 7, .mv (.tmp 1), none⟩,
    ⟨some 8, .bin .rem (.tmp 7) (.cst (.int .i64 4294967296)), none⟩,
    ⟨some 9, .bin .add (.tmp 6) (.tmp 8), none⟩,
    ⟨some 10, .call 34 [(.tmp 9)], none⟩,
    ⟨some 11, .conv .u32 (.tmp 10), none⟩,
    ⟨some 4, .mv (.tmp 11), none⟩])
  .ret))
theorem p_caravelref03_Add : Try.f32.body.bind (compC Try.prog 12) = some c_caravelref03_Add := by kernel_rfl
theorem r_caravelref03_Add : tellR Try.prog Try.f32.results.toList = some [.t 4] := by kernel_rfl

/-- caravel/caravelref03.Diff: 2 in. -/
def c_caravelref03_Diff : ACode :=
  (.seq (.reg [⟨some 4, .mv (.cst (.int .i64 0)), none⟩])
  (.seq (.reg [⟨some 6, .mv (.tmp 0), none⟩,
    ⟨some 7, .conv .i64 (.tmp 6), none⟩,
    ⟨some 8, .mv (.tmp 1), none⟩,
    ⟨some 9, .conv .i64 (.tmp 8), none⟩,
    ⟨some 10, .bin .sub (.tmp 7) (.tmp 9), none⟩,
    ⟨some 11, .call 34 [(.tmp 10)], none⟩,
    ⟨some 5, .mv (.tmp 11), none⟩])
  (.seq (.seq (.reg [⟨some 12, .mv (.tmp 5), none⟩,
    ⟨some 13, .bin .geq (.tmp 12) (.cst (.int .i64 2147483648)), none⟩])
  (.cond (.tmp 13)
    (.reg [⟨some 14, .mv (.tmp 5), none⟩,
      ⟨some 15, .bin .sub (.tmp 14) (.cst (.int .i64 4294967296)), none⟩,
      ⟨some 5, .mv (.tmp 15), none⟩])
    .skip))
  (.seq (.reg [⟨some 16, .mv (.tmp 5), none⟩,
    ⟨some 4, .mv (.tmp 16), none⟩])
  .ret))))
theorem p_caravelref03_Diff : Try.f33.body.bind (compC Try.prog 17) = some c_caravelref03_Diff := by kernel_rfl
theorem r_caravelref03_Diff : tellR Try.prog Try.f33.results.toList = some [.t 4] := by kernel_rfl

/-- caravel/caravelref03.mod: 1 in. -/
def c_caravelref03_mod : ACode :=
  (.seq (.reg [⟨some 2, .mv (.cst (.int .i64 0)), none⟩])
  (.seq (.reg [⟨some 4, .mv (.tmp 0), none⟩,
    ⟨some 5, .bin .rem (.tmp 4) (.cst (.int .i64 4294967296)), none⟩,
    ⟨some 3, .mv (.tmp 5), none⟩])
  (.seq (.seq (.reg [⟨some 6, .mv (.tmp 3), none⟩,
    ⟨some 7, .bin .lss (.tmp 6) (.cst (.int .i64 0)), none⟩])
  (.cond (.tmp 7)
    (.reg [⟨some 8, .mv (.tmp 3), none⟩,
      ⟨some 9, .bin .add (.tmp 8) (.cst (.int .i64 4294967296)), none⟩,
      ⟨some 3, .mv (.tmp 9), none⟩])
    .skip))
  (.seq (.reg [⟨some 10, .mv (.tmp 3), none⟩,
    ⟨some 2, .mv (.tmp 10), none⟩])
  .ret))))
theorem p_caravelref03_mod : Try.f34.body.bind (compC Try.prog 11) = some c_caravelref03_mod := by kernel_rfl
theorem r_caravelref03_mod : tellR Try.prog Try.f34.results.toList = some [.t 2] := by kernel_rfl

end Go.Proofs.Ytcioklhpbmjeeaa
