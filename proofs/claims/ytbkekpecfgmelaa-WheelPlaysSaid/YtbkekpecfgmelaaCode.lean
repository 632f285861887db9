/- The program's functions, told as operations on abstract values. -/
import Derived.Test.YtbkekpecfgmelaaAx30
import Derived.Test.YtbkekpecfgmelaaProg
namespace Go.Proofs.Ytbkekpecfgmelaa

/-- gosem.cut.init: 0 in. -/
def c_gosem_cut_init : ACode :=
  (.reg [⟨some 0, .call 1 [], none⟩])
theorem p_gosem_cut_init : Try.f2.body.bind (compC Try.prog 1) = some c_gosem_cut_init := by kernel_rfl
theorem r_gosem_cut_init : tellR Try.prog Try.f2.results.toList = some [] := by kernel_rfl

-- NO 3 caravel/caravellaw16.WheelOnce
/-- caravel/caravellaw16.WheelMoved: 2 in. -/
def c_caravellaw16_WheelMoved : ACode :=
  (.seq (.reg [⟨some 4, .mv (.cst (.bool false)), none⟩])
  (.seq (.seq (.reg [⟨some 25, .call 7 [], none⟩,
    ⟨some 26, .not (.tmp 25), none⟩,
    ⟨some 27, .mv (.tmp 26), none⟩,
    ⟨some 28, .mv (.tmp 1), some (27, false)⟩,
    ⟨some 29, .lenV (.tmp 28), some (27, false)⟩,
    ⟨some 30, .bin .gtr (.tmp 29) (.cst (.int .i64 200)), some (27, false)⟩,
    ⟨some 31, .pick (.tmp 27) (.cst (.bool true)) (.tmp 30), none⟩])
  (.cond (.tmp 31)
    (.seq (.reg [⟨some 32, .call 7 [], none⟩,
      ⟨some 4, .mv (.tmp 32), none⟩])
    .ret)
    .skip))
  (.seq (.reg [⟨some 33, .mv (.tmp 0), none⟩,
    ⟨some 34, .bin .rem (.tmp 33) (.cst (.int .u64 1152921504606846976)), none⟩,
    ⟨some 5, .mv (.tmp 34), none⟩])
  (.seq (.reg [⟨some 35, .build [(.int .u64 0), .nil] [], none⟩,
    ⟨some 36, .mv (.tmp 5), none⟩,
    ⟨some 37, .build [(.int .u64 0), .nil] [(0, 1, (.tmp 36))], none⟩,
    ⟨some 6, .newb [(.int .u64 0), .nil], none⟩,
    ⟨some 7, .newb [(.int .u64 0), .nil], none⟩,
    ⟨none, .store 2 (.tmp 6) (.tmp 35), none⟩,
    ⟨none, .store 2 (.tmp 7) (.tmp 37), none⟩])
  (.seq (.seq (.reg [⟨some 38, .mv (.tmp 1), none⟩,
    ⟨some 39, .lenV (.tmp 38), none⟩,
    ⟨some 40, .mv (.cst (.int .i64 0)), none⟩])
  (.block 0 (.loop
    (.seq (.reg [⟨some 41, .bin .lss (.tmp 40) (.tmp 39), none⟩])
    (.seq (.cond (.tmp 41)
      .skip
      (.exit 0))
    (.seq (.block 1 (.seq (.reg [⟨some 42, .iadS 3 (.tmp 38) (.tmp 40), none⟩,
      ⟨some 43, .load true 3 (.tmp 42), none⟩,
      ⟨some 9, .newb [(.int .i64 0), (.int .i64 0), (.int .u64 0)], none⟩,
      ⟨none, .store 3 (.tmp 9) (.tmp 43), none⟩])
    (.seq (.seq (.reg [⟨some 44, .fadr 0 (.tmp 9), none⟩,
      ⟨some 45, .load false 1 (.tmp 44), none⟩,
      ⟨some 46, .conv .u64 (.tmp 45), none⟩,
      ⟨some 47, .bin .rem (.tmp 46) (.cst (.int .u64 5)), none⟩])
    (.block 2 (.seq (.seq (.reg [⟨some 81, .bin .eql (.tmp 47) (.cst (.int .u64 0)), none⟩,
      ⟨some 80, .mv (.tmp 81), none⟩])
    (.cond (.tmp 80)
      .skip
      (.reg [⟨some 82, .bin .eql (.tmp 47) (.cst (.int .u64 1)), none⟩,
        ⟨some 80, .mv (.tmp 82), none⟩])))
    (.cond (.tmp 80)
      (.seq (.reg [⟨some 84, .load true 2 (.tmp 6), none⟩,
        ⟨some 85, .fadr 1 (.tmp 9), none⟩,
        ⟨some 86, .load false 1 (.tmp 85), none⟩,
        ⟨some 87, .fadr 2 (.tmp 9), none⟩,
        ⟨some 88, .load false 1 (.tmp 87), none⟩,
        ⟨some 89, .call 9 [(.tmp 84), (.tmp 86), (.tmp 88)], none⟩,
        ⟨some 83, .mv (.tmp 89), none⟩,
        ⟨some 90, .ext (.tmp 83) 0, none⟩,
        ⟨some 91, .ext (.tmp 83) 1, none⟩,
        ⟨some 10, .newb [(.int .u64 0), .nil], none⟩,
        ⟨none, .store 2 (.tmp 10) (.tmp 90), none⟩,
        ⟨some 11, .mv (.tmp 91), none⟩])
      (.seq (.reg [⟨some 93, .load true 2 (.tmp 7), none⟩,
        ⟨some 94, .fadr 1 (.tmp 9), none⟩,
        ⟨some 95, .load false 1 (.tmp 94), none⟩,
        ⟨some 96, .fadr 2 (.tmp 9), none⟩,
        ⟨some 97, .load false 1 (.tmp 96), none⟩,
        ⟨some 98, .call 9 [(.tmp 93), (.tmp 95), (.tmp 97)], none⟩,
        ⟨some 92, .mv (.tmp 98), none⟩,
        ⟨some 99, .ext (.tmp 92) 0, none⟩,
        ⟨some 100, .ext (.tmp 92) 1, none⟩,
        ⟨some 12, .newb [(.int .u64 0), .nil], none⟩,
        ⟨none, .store 2 (.tmp 12) (.tmp 99), none⟩,
        ⟨some 13, .mv (.tmp 100), none⟩])
      (.seq (.drw [⟨some 101, .load true 2 (.tmp 10), none⟩,
        ⟨some 102, .load true 2 (.tmp 12), none⟩,
        ⟨none, .store 2 (.tmp 6) (.tmp 101), none⟩,
        ⟨none, .store 2 (.tmp 7) (.tmp 102), none⟩] [[], [], [1], []])
      (.seq (.reg [⟨some 103, .mv (.tmp 11), none⟩,
        ⟨some 104, .mv (.tmp 13), none⟩,
        ⟨some 105, .bin .neq (.tmp 103) (.tmp 104), none⟩])
      (.cond (.tmp 105)
        (.seq (.reg [⟨some 4, .mv (.cst (.bool false)), none⟩])
        .ret)
        .skip)))))
      (.seq (.reg [⟨some 107, .bin .eql (.tmp 47) (.cst (.int .u64 2)), none⟩,
        ⟨some 106, .mv (.tmp 107), none⟩])
      (.cond (.tmp 106)
        (.seq (.reg [⟨some 109, .load true 2 (.tmp 6), none⟩,
          ⟨some 110, .fadr 1 (.tmp 9), none⟩,
          ⟨some 111, .load false 1 (.tmp 110), none⟩,
          ⟨some 112, .call 8 [(.tmp 109), (.tmp 111)], none⟩,
          ⟨some 108, .mv (.tmp 112), none⟩,
          ⟨some 113, .ext (.tmp 108) 0, none⟩,
          ⟨some 114, .ext (.tmp 108) 1, none⟩,
          ⟨some 14, .newb [(.int .u64 0), .nil], none⟩,
          ⟨none, .store 2 (.tmp 14) (.tmp 113), none⟩,
          ⟨some 15, .mv (.tmp 114), none⟩])
        (.seq (.reg [⟨some 116, .load true 2 (.tmp 7), none⟩,
          ⟨some 117, .fadr 1 (.tmp 9), none⟩,
          ⟨some 118, .load false 1 (.tmp 117), none⟩,
          ⟨some 119, .call 8 [(.tmp 116), (.tmp 118)], none⟩,
          ⟨some 115, .mv (.tmp 119), none⟩,
          ⟨some 120, .ext (.tmp 115) 0, none⟩,
          ⟨some 121, .ext (.tmp 115) 1, none⟩,
          ⟨some 16, .newb [(.int .u64 0), .nil], none⟩,
          ⟨none, .store 2 (.tmp 16) (.tmp 120), none⟩,
          ⟨some 17, .mv (.tmp 121), none⟩])
        (.seq (.drw [⟨some 122, .load true 2 (.tmp 14), none⟩,
          ⟨some 123, .load true 2 (.tmp 16), none⟩,
          ⟨none, .store 2 (.tmp 6) (.tmp 122), none⟩,
          ⟨none, .store 2 (.tmp 7) (.tmp 123), none⟩] [[], [], [1], []])
        (.seq (.reg [⟨some 124, .mv (.tmp 15), none⟩,
          ⟨some 125, .mv (.tmp 17), none⟩,
          ⟨some 126, .binB true (.tmp 124) (.tmp 125), none⟩])
        (.cond (.tmp 126)
          (.seq (.reg [⟨some 4, .mv (.cst (.bool false)), none⟩])
          .ret)
          .skip)))))
        (.seq (.reg [⟨some 49, .load true 2 (.tmp 6), none⟩,
          ⟨some 50, .call 11 [(.tmp 49)], none⟩,
          ⟨some 48, .mv (.tmp 50), none⟩,
          ⟨some 51, .ext (.tmp 48) 0, none⟩,
          ⟨some 52, .ext (.tmp 48) 1, none⟩,
          ⟨some 18, .newb [(.int .u64 0), .nil], none⟩,
          ⟨none, .store 2 (.tmp 18) (.tmp 51), none⟩,
          ⟨some 19, .mv (.tmp 52), none⟩])
        (.seq (.reg [⟨some 54, .load true 2 (.tmp 7), none⟩,
          ⟨some 55, .call 11 [(.tmp 54)], none⟩,
          ⟨some 53, .mv (.tmp 55), none⟩,
          ⟨some 56, .ext (.tmp 53) 0, none⟩,
          ⟨some 57, .ext (.tmp 53) 1, none⟩,
          ⟨some 20, .newb [(.int .u64 0), .nil], none⟩,
          ⟨none, .store 2 (.tmp 20) (.tmp 56), none⟩,
          ⟨some 21, .mv (.tmp 57), none⟩])
        (.seq (.seq (.drw [⟨some 58, .load true 2 (.tmp 18), none⟩,
          ⟨some 59, .load true 2 (.tmp 20), none⟩,
          ⟨none, .store 2 (.tmp 6) (.tmp 58), none⟩,
          ⟨none, .store 2 (.tmp 7) (.tmp 59), none⟩] [[], [], [1], []])
        (.seq (.reg [⟨some 60, .mv (.tmp 19), none⟩,
          ⟨some 61, .lenV (.tmp 60), none⟩,
          ⟨some 62, .mv (.tmp 21), none⟩,
          ⟨some 63, .lenV (.tmp 62), none⟩,
          ⟨some 64, .bin .neq (.tmp 61) (.tmp 63), none⟩])
        (.cond (.tmp 64)
          (.seq (.reg [⟨some 4, .mv (.cst (.bool false)), none⟩])
          .ret)
          .skip)))
        (.seq (.reg [⟨some 65, .mv (.tmp 19), none⟩,
          ⟨some 66, .lenV (.tmp 65), none⟩,
          ⟨some 67, .mv (.cst (.int .i64 0)), none⟩])
        (.block 3 (.loop
          (.seq (.reg [⟨some 68, .bin .lss (.tmp 67) (.tmp 66), none⟩])
          (.seq (.cond (.tmp 68)
            .skip
            (.exit 3))
          (.seq (.block 4 (.seq (.reg [⟨some 69, .mv (.tmp 67), none⟩,
            ⟨some 22, .mv (.tmp 69), none⟩])
          (.seq (.reg [⟨some 70, .mv (.tmp 19), none⟩,
            ⟨some 71, .mv (.tmp 22), none⟩,
            ⟨some 72, .iadS 1 (.tmp 70) (.tmp 71), none⟩,
            ⟨some 73, .load false 1 (.tmp 72), none⟩,
            ⟨some 74, .mv (.tmp 21), none⟩,
            ⟨some 75, .mv (.tmp 22), none⟩,
            ⟨some 76, .iadS 1 (.tmp 74) (.tmp 75), none⟩,
            ⟨some 77, .load false 1 (.tmp 76), none⟩,
            ⟨some 78, .bin .neq (.tmp 73) (.tmp 77), none⟩])
          (.cond (.tmp 78)
            (.seq (.reg [⟨some 4, .mv (.cst (.bool false)), none⟩])
            .ret)
            .skip))))
          (.reg [⟨some 79, .bin .add (.tmp 67) (.cst (.int .i64 1)), none⟩,
            ⟨some 67, .mv (.tmp 79), none⟩]))))))))))))))))
    (.seq (.seq (.reg [⟨some 127, .fadr 0 (.tmp 7), none⟩,
      ⟨some 128, .load false 1 (.tmp 127), none⟩,
      ⟨some 129, .fadr 0 (.tmp 6), none⟩,
      ⟨some 130, .load false 1 (.tmp 129), none⟩,
      ⟨some 131, .mv (.tmp 5), none⟩,
      ⟨some 132, .bin .add (.tmp 130) (.tmp 131), none⟩,
      ⟨some 133, .bin .neq (.tmp 128) (.tmp 132), none⟩,
      ⟨some 134, .mv (.tmp 133), none⟩,
      ⟨some 135, .fadr 1 (.tmp 6), some (134, false)⟩,
      ⟨some 136, .load false 1 (.tmp 135), some (134, false)⟩,
      ⟨some 137, .lenV (.tmp 136), some (134, false)⟩,
      ⟨some 138, .fadr 1 (.tmp 7), some (134, false)⟩,
      ⟨some 139, .load false 1 (.tmp 138), some (134, false)⟩,
      ⟨some 140, .lenV (.tmp 139), some (134, false)⟩,
      ⟨some 141, .bin .neq (.tmp 137) (.tmp 140), some (134, false)⟩,
      ⟨some 142, .pick (.tmp 134) (.cst (.bool true)) (.tmp 141), none⟩])
    (.cond (.tmp 142)
      (.seq (.reg [⟨some 4, .mv (.cst (.bool false)), none⟩])
      .ret)
      .skip))
    (.seq (.reg [⟨some 143, .fadr 1 (.tmp 6), none⟩,
      ⟨some 144, .load false 1 (.tmp 143), none⟩,
      ⟨some 145, .lenV (.tmp 144), none⟩,
      ⟨some 146, .mv (.cst (.int .i64 0)), none⟩])
    (.block 5 (.loop
      (.seq (.reg [⟨some 147, .bin .lss (.tmp 146) (.tmp 145), none⟩])
      (.seq (.cond (.tmp 147)
        .skip
        (.exit 5))
      (.seq (.block 6 (.seq (.reg [⟨some 148, .mv (.tmp 146), none⟩,
        ⟨some 149, .iadS 2 (.tmp 144) (.tmp 146), none⟩,
        ⟨some 150, .load true 2 (.tmp 149), none⟩,
        ⟨some 24, .newb [(.int .i64 0), (.int .u64 0)], none⟩,
        ⟨some 23, .mv (.tmp 148), none⟩,
        ⟨none, .store 2 (.tmp 24) (.tmp 150), none⟩])
      (.seq (.reg [⟨some 151, .fadr 1 (.tmp 7), none⟩,
        ⟨some 152, .load false 1 (.tmp 151), none⟩,
        ⟨some 153, .mv (.tmp 23), none⟩,
        ⟨some 154, .iadS 2 (.tmp 152) (.tmp 153), none⟩,
        ⟨some 155, .fadr 0 (.tmp 154), none⟩,
        ⟨some 156, .load false 1 (.tmp 155), none⟩,
        ⟨some 157, .fadr 0 (.tmp 24), none⟩,
        ⟨some 158, .load false 1 (.tmp 157), none⟩,
        ⟨some 159, .bin .neq (.tmp 156) (.tmp 158), none⟩,
        ⟨some 160, .mv (.tmp 159), none⟩,
        ⟨some 161, .fadr 1 (.tmp 7), some (160, false)⟩,
        ⟨some 162, .load false 1 (.tmp 161), some (160, false)⟩,
        ⟨some 163, .mv (.tmp 23), some (160, false)⟩,
        ⟨some 164, .iadS 2 (.tmp 162) (.tmp 163), some (160, false)⟩,
        ⟨some 165, .fadr 1 (.tmp 164), some (160, false)⟩,
        ⟨some 166, .load false 1 (.tmp 165), some (160, false)⟩,
        ⟨some 167, .fadr 1 (.tmp 24), some (160, false)⟩,
        ⟨some 168, .load false 1 (.tmp 167), some (160, false)⟩,
        ⟨some 169, .mv (.tmp 5), some (160, false)⟩,
        ⟨some 170, .bin .add (.tmp 168) (.tmp 169), some (160, false)⟩,
        ⟨some 171, .bin .neq (.tmp 166) (.tmp 170), some (160, false)⟩,
        ⟨some 172, .pick (.tmp 160) (.cst (.bool true)) (.tmp 171), none⟩])
      (.cond (.tmp 172)
        (.seq (.reg [⟨some 4, .mv (.cst (.bool false)), none⟩])
        .ret)
        .skip))))
      (.reg [⟨some 173, .bin .add (.tmp 146) (.cst (.int .i64 1)), none⟩,
        ⟨some 146, .mv (.tmp 173), none⟩])))))))))))
    (.reg [⟨some 174, .bin .add (.tmp 40) (.cst (.int .i64 1)), none⟩,
      ⟨some 40, .mv (.tmp 174), none⟩])))))))
  (.seq (.reg [⟨some 4, .mv (.cst (.bool true)), none⟩])
  .ret))))))
theorem p_caravellaw16_WheelMoved : Try.f4.body.bind (compC Try.prog 175) = some c_caravellaw16_WheelMoved := by kernel_rfl
theorem r_caravellaw16_WheelMoved : tellR Try.prog Try.f4.results.toList = some [.t 4] := by kernel_rfl

/-- caravel/caravellaw16.WheelRight: 1 in. -/
def c_caravellaw16_WheelRight : ACode :=
  (.seq (.reg [⟨some 1, .box (.tmp 0), none⟩,
    ⟨some 2, .mv (.cst (.bool false)), none⟩])
  (.seq (.seq (.reg [⟨some 8, .call 7 [], none⟩,
    ⟨some 9, .not (.tmp 8), none⟩,
    ⟨some 10, .mv (.tmp 9), none⟩,
    ⟨some 11, .fadr 1 (.tmp 1), some (10, false)⟩,
    ⟨some 12, .load false 1 (.tmp 11), some (10, false)⟩,
    ⟨some 13, .lenV (.tmp 12), some (10, false)⟩,
    ⟨some 14, .bin .gtr (.tmp 13) (.cst (.int .i64 100)), some (10, false)⟩,
    ⟨some 15, .pick (.tmp 10) (.cst (.bool true)) (.tmp 14), none⟩])
  (.cond (.tmp 15)
    (.seq (.reg [⟨some 16, .call 7 [], none⟩,
      ⟨some 2, .mv (.tmp 16), none⟩])
    .ret)
    .skip))
  (.seq (.reg [⟨some 17, .fadr 1 (.tmp 1), none⟩,
    ⟨some 18, .load false 1 (.tmp 17), none⟩,
    ⟨some 19, .lenV (.tmp 18), none⟩,
    ⟨some 20, .bin .leq (.tmp 19) (.cst (.int .i64 64)), none⟩,
    ⟨some 21, .mv (.tmp 20), none⟩,
    ⟨some 22, .fadr 0 (.tmp 1), some (21, true)⟩,
    ⟨some 23, .load false 1 (.tmp 22), some (21, true)⟩,
    ⟨some 24, .bin .leq (.tmp 23) (.cst (.int .u64 4611686018427387904)), some (21, true)⟩,
    ⟨some 25, .pick (.tmp 21) (.tmp 24) (.cst (.bool false)), none⟩,
    ⟨some 3, .mv (.tmp 25), none⟩])
  (.seq (.seq (.reg [⟨some 26, .fadr 1 (.tmp 1), none⟩,
    ⟨some 27, .load false 1 (.tmp 26), none⟩,
    ⟨some 28, .lenV (.tmp 27), none⟩,
    ⟨some 29, .mv (.cst (.int .i64 0)), none⟩])
  (.block 0 (.loop
    (.seq (.reg [⟨some 30, .bin .lss (.tmp 29) (.tmp 28), none⟩])
    (.seq (.cond (.tmp 30)
      .skip
      (.exit 0))
    (.seq (.block 1 (.seq (.reg [⟨some 31, .mv (.tmp 29), none⟩,
      ⟨some 32, .iadS 2 (.tmp 27) (.tmp 29), none⟩,
      ⟨some 33, .load true 2 (.tmp 32), none⟩,
      ⟨some 5, .newb [(.int .i64 0), (.int .u64 0)], none⟩,
      ⟨some 4, .mv (.tmp 31), none⟩,
      ⟨none, .store 2 (.tmp 5) (.tmp 33), none⟩])
    (.seq (.seq (.reg [⟨some 34, .fadr 1 (.tmp 1), none⟩,
      ⟨some 35, .load false 1 (.tmp 34), none⟩,
      ⟨some 36, .mv (.tmp 4), none⟩,
      ⟨some 37, .slS 2 (.tmp 35) none (some (.tmp 36)) none, none⟩,
      ⟨some 38, .lenV (.tmp 37), none⟩,
      ⟨some 39, .mv (.cst (.int .i64 0)), none⟩])
    (.block 2 (.loop
      (.seq (.reg [⟨some 40, .bin .lss (.tmp 39) (.tmp 38), none⟩])
      (.seq (.cond (.tmp 40)
        .skip
        (.exit 2))
      (.seq (.block 3 (.seq (.reg [⟨some 41, .iadS 2 (.tmp 37) (.tmp 39), none⟩,
        ⟨some 42, .load true 2 (.tmp 41), none⟩,
        ⟨some 7, .newb [(.int .i64 0), (.int .u64 0)], none⟩,
        ⟨none, .store 2 (.tmp 7) (.tmp 42), none⟩])
      (.reg [⟨some 43, .mv (.tmp 3), none⟩,
        ⟨some 44, .mv (.tmp 43), none⟩,
        ⟨some 45, .fadr 0 (.tmp 7), some (44, true)⟩,
        ⟨some 46, .load false 1 (.tmp 45), some (44, true)⟩,
        ⟨some 47, .fadr 0 (.tmp 5), some (44, true)⟩,
        ⟨some 48, .load false 1 (.tmp 47), some (44, true)⟩,
        ⟨some 49, .bin .neq (.tmp 46) (.tmp 48), some (44, true)⟩,
        ⟨some 50, .pick (.tmp 44) (.tmp 49) (.cst (.bool false)), none⟩,
        ⟨some 51, .mv (.tmp 50), none⟩,
        ⟨some 52, .fadr 1 (.tmp 7), some (51, true)⟩,
        ⟨some 53, .load false 1 (.tmp 52), some (51, true)⟩,
        ⟨some 54, .fadr 1 (.tmp 5), some (51, true)⟩,
        ⟨some 55, .load false 1 (.tmp 54), some (51, true)⟩,
        ⟨some 56, .bin .leq (.tmp 53) (.tmp 55), some (51, true)⟩,
        ⟨some 57, .pick (.tmp 51) (.tmp 56) (.cst (.bool false)), none⟩,
        ⟨some 3, .mv (.tmp 57), none⟩])))
      (.reg [⟨some 58, .bin .add (.tmp 39) (.cst (.int .i64 1)), none⟩,
        ⟨some 39, .mv (.tmp 58), none⟩])))))))
    (.reg [⟨some 59, .mv (.tmp 3), none⟩,
      ⟨some 60, .mv (.tmp 59), none⟩,
      ⟨some 61, .fadr 1 (.tmp 5), some (60, true)⟩,
      ⟨some 62, .load false 1 (.tmp 61), some (60, true)⟩,
      ⟨some 63, .fadr 0 (.tmp 1), some (60, true)⟩,
      ⟨some 64, .load false 1 (.tmp 63), some (60, true)⟩,
      ⟨some 65, .bin .gtr (.tmp 62) (.tmp 64), some (60, true)⟩,
      ⟨some 66, .pick (.tmp 60) (.tmp 65) (.cst (.bool false)), none⟩,
      ⟨some 3, .mv (.tmp 66), none⟩]))))
    (.reg [⟨some 67, .bin .add (.tmp 29) (.cst (.int .i64 1)), none⟩,
      ⟨some 29, .mv (.tmp 67), none⟩])))))))
  (.seq (.reg [⟨some 68, .load true 2 (.tmp 1), none⟩,
    ⟨some 69, .call 12 [(.tmp 68)], none⟩,
    ⟨some 70, .mv (.tmp 3), none⟩,
    ⟨some 71, .binB false (.tmp 69) (.tmp 70), none⟩,
    ⟨some 2, .mv (.tmp 71), none⟩])
  .ret)))))
theorem p_caravellaw16_WheelRight : Try.f5.body.bind (compC Try.prog 72) = some c_caravellaw16_WheelRight := by kernel_rfl
theorem r_caravellaw16_WheelRight : tellR Try.prog Try.f5.results.toList = some [.t 2] := by kernel_rfl

/-- caravel/caravellaw16.WheelPlays: 2 in. -/
def c_caravellaw16_WheelPlays : ACode :=
  (.seq (.reg [⟨some 4, .mv (.cst (.bool false)), none⟩])
  (.seq (.seq (.reg [⟨some 24, .call 7 [], none⟩,
    ⟨some 25, .not (.tmp 24), none⟩,
    ⟨some 26, .mv (.tmp 25), none⟩,
    ⟨some 27, .mv (.tmp 1), some (26, false)⟩,
    ⟨some 28, .lenV (.tmp 27), some (26, false)⟩,
    ⟨some 29, .bin .gtr (.tmp 28) (.cst (.int .i64 200)), some (26, false)⟩,
    ⟨some 30, .pick (.tmp 26) (.cst (.bool true)) (.tmp 29), none⟩])
  (.cond (.tmp 30)
    (.seq (.reg [⟨some 31, .call 7 [], none⟩,
      ⟨some 4, .mv (.tmp 31), none⟩])
    .ret)
    .skip))
  (.seq (.reg [⟨some 32, .mv (.tmp 0), none⟩,
    ⟨some 33, .bin .rem (.tmp 32) (.cst (.int .u64 2305843009213693952)), none⟩,
    ⟨some 34, .build [(.int .u64 0), .nil] [(0, 1, (.tmp 33))], none⟩,
    ⟨some 35, .mv (.tmp 0), none⟩,
    ⟨some 36, .bin .rem (.tmp 35) (.cst (.int .u64 2305843009213693952)), none⟩,
    ⟨some 37, .build [(.int .u64 0), .nil] [(0, 1, (.tmp 36))], none⟩,
    ⟨some 5, .newb [(.int .u64 0), .nil], none⟩,
    ⟨some 6, .newb [(.int .u64 0), .nil], none⟩,
    ⟨none, .store 2 (.tmp 5) (.tmp 34), none⟩,
    ⟨none, .store 2 (.tmp 6) (.tmp 37), none⟩])
  (.seq (.seq (.reg [⟨some 38, .mv (.tmp 1), none⟩,
    ⟨some 39, .lenV (.tmp 38), none⟩,
    ⟨some 40, .mv (.cst (.int .i64 0)), none⟩])
  (.block 0 (.loop
    (.seq (.reg [⟨some 41, .bin .lss (.tmp 40) (.tmp 39), none⟩])
    (.seq (.cond (.tmp 41)
      .skip
      (.exit 0))
    (.seq (.block 1 (.seq (.reg [⟨some 42, .iadS 3 (.tmp 38) (.tmp 40), none⟩,
      ⟨some 43, .load true 3 (.tmp 42), none⟩,
      ⟨some 8, .newb [(.int .i64 0), (.int .i64 0), (.int .u64 0)], none⟩,
      ⟨none, .store 3 (.tmp 8) (.tmp 43), none⟩])
    (.seq (.reg [⟨some 44, .load true 2 (.tmp 5), none⟩,
      ⟨some 45, .call 13 [(.tmp 44)], none⟩,
      ⟨some 9, .newb [(.int .u64 0), .nil], none⟩,
      ⟨none, .store 2 (.tmp 9) (.tmp 45), none⟩])
    (.seq (.drw [⟨some 46, .load true 2 (.tmp 5), none⟩,
      ⟨some 47, .load true 2 (.tmp 6), none⟩,
      ⟨some 10, .newb [(.int .u64 0), .nil], none⟩,
      ⟨some 11, .newb [(.int .u64 0), .nil], none⟩,
      ⟨none, .store 2 (.tmp 10) (.tmp 46), none⟩,
      ⟨none, .store 2 (.tmp 11) (.tmp 47), none⟩] [[], [], [], [], [1], []])
    (.seq (.seq (.reg [⟨some 48, .fadr 0 (.tmp 8), none⟩,
      ⟨some 49, .load false 1 (.tmp 48), none⟩,
      ⟨some 50, .conv .u64 (.tmp 49), none⟩,
      ⟨some 51, .bin .rem (.tmp 50) (.cst (.int .u64 5)), none⟩])
    (.block 2 (.seq (.seq (.reg [⟨some 83, .bin .eql (.tmp 51) (.cst (.int .u64 0)), none⟩,
      ⟨some 82, .mv (.tmp 83), none⟩])
    (.cond (.tmp 82)
      .skip
      (.reg [⟨some 84, .bin .eql (.tmp 51) (.cst (.int .u64 1)), none⟩,
        ⟨some 82, .mv (.tmp 84), none⟩])))
    (.cond (.tmp 82)
      (.seq (.reg [⟨some 12, .mv (.cst (.int .i64 0)), none⟩,
        ⟨some 13, .mv (.cst (.int .i64 0)), none⟩])
      (.seq (.reg [⟨some 86, .load true 2 (.tmp 5), none⟩,
        ⟨some 87, .fadr 1 (.tmp 8), none⟩,
        ⟨some 88, .load false 1 (.tmp 87), none⟩,
        ⟨some 89, .fadr 2 (.tmp 8), none⟩,
        ⟨some 90, .load false 1 (.tmp 89), none⟩,
        ⟨some 91, .call 9 [(.tmp 86), (.tmp 88), (.tmp 90)], none⟩,
        ⟨some 85, .mv (.tmp 91), none⟩,
        ⟨some 92, .ext (.tmp 85) 0, none⟩,
        ⟨some 93, .ext (.tmp 85) 1, none⟩,
        ⟨none, .store 2 (.tmp 10) (.tmp 92), none⟩,
        ⟨some 12, .mv (.tmp 93), none⟩])
      (.seq (.reg [⟨some 95, .load true 2 (.tmp 6), none⟩,
        ⟨some 96, .fadr 1 (.tmp 8), none⟩,
        ⟨some 97, .load false 1 (.tmp 96), none⟩,
        ⟨some 98, .fadr 2 (.tmp 8), none⟩,
        ⟨some 99, .load false 1 (.tmp 98), none⟩,
        ⟨some 100, .call 14 [(.tmp 95), (.tmp 97), (.tmp 99)], none⟩,
        ⟨some 94, .mv (.tmp 100), none⟩,
        ⟨some 101, .ext (.tmp 94) 0, none⟩,
        ⟨some 102, .ext (.tmp 94) 1, none⟩,
        ⟨none, .store 2 (.tmp 11) (.tmp 101), none⟩,
        ⟨some 13, .mv (.tmp 102), none⟩])
      (.seq (.reg [⟨some 103, .mv (.tmp 12), none⟩,
        ⟨some 104, .mv (.tmp 13), none⟩,
        ⟨some 105, .bin .neq (.tmp 103) (.tmp 104), none⟩])
      (.cond (.tmp 105)
        (.seq (.reg [⟨some 4, .mv (.cst (.bool false)), none⟩])
        .ret)
        .skip)))))
      (.seq (.reg [⟨some 107, .bin .eql (.tmp 51) (.cst (.int .u64 2)), none⟩,
        ⟨some 106, .mv (.tmp 107), none⟩])
      (.cond (.tmp 106)
        (.seq (.reg [⟨some 14, .mv (.cst (.bool false)), none⟩,
          ⟨some 15, .mv (.cst (.bool false)), none⟩])
        (.seq (.reg [⟨some 109, .load true 2 (.tmp 5), none⟩,
          ⟨some 110, .fadr 1 (.tmp 8), none⟩,
          ⟨some 111, .load false 1 (.tmp 110), none⟩,
          ⟨some 112, .call 8 [(.tmp 109), (.tmp 111)], none⟩,
          ⟨some 108, .mv (.tmp 112), none⟩,
          ⟨some 113, .ext (.tmp 108) 0, none⟩,
          ⟨some 114, .ext (.tmp 108) 1, none⟩,
          ⟨none, .store 2 (.tmp 10) (.tmp 113), none⟩,
          ⟨some 14, .mv (.tmp 114), none⟩])
        (.seq (.reg [⟨some 116, .load true 2 (.tmp 6), none⟩,
          ⟨some 117, .fadr 1 (.tmp 8), none⟩,
          ⟨some 118, .load false 1 (.tmp 117), none⟩,
          ⟨some 119, .call 15 [(.tmp 116), (.tmp 118)], none⟩,
          ⟨some 115, .mv (.tmp 119), none⟩,
          ⟨some 120, .ext (.tmp 115) 0, none⟩,
          ⟨some 121, .ext (.tmp 115) 1, none⟩,
          ⟨none, .store 2 (.tmp 11) (.tmp 120), none⟩,
          ⟨some 15, .mv (.tmp 121), none⟩])
        (.seq (.reg [⟨some 122, .mv (.tmp 14), none⟩,
          ⟨some 123, .mv (.tmp 15), none⟩,
          ⟨some 124, .binB true (.tmp 122) (.tmp 123), none⟩])
        (.cond (.tmp 124)
          (.seq (.reg [⟨some 4, .mv (.cst (.bool false)), none⟩])
          .ret)
          .skip)))))
        (.seq (.reg [⟨some 16, .mv (.cst .nil), none⟩,
          ⟨some 17, .mv (.cst .nil), none⟩])
        (.seq (.reg [⟨some 53, .load true 2 (.tmp 5), none⟩,
          ⟨some 54, .call 11 [(.tmp 53)], none⟩,
          ⟨some 52, .mv (.tmp 54), none⟩,
          ⟨some 55, .ext (.tmp 52) 0, none⟩,
          ⟨some 56, .ext (.tmp 52) 1, none⟩,
          ⟨none, .store 2 (.tmp 10) (.tmp 55), none⟩,
          ⟨some 16, .mv (.tmp 56), none⟩])
        (.seq (.reg [⟨some 58, .load true 2 (.tmp 6), none⟩,
          ⟨some 59, .call 16 [(.tmp 58)], none⟩,
          ⟨some 57, .mv (.tmp 59), none⟩,
          ⟨some 60, .ext (.tmp 57) 0, none⟩,
          ⟨some 61, .ext (.tmp 57) 1, none⟩,
          ⟨none, .store 2 (.tmp 11) (.tmp 60), none⟩,
          ⟨some 17, .mv (.tmp 61), none⟩])
        (.seq (.seq (.reg [⟨some 62, .mv (.tmp 16), none⟩,
          ⟨some 63, .lenV (.tmp 62), none⟩,
          ⟨some 64, .mv (.tmp 17), none⟩,
          ⟨some 65, .lenV (.tmp 64), none⟩,
          ⟨some 66, .bin .neq (.tmp 63) (.tmp 65), none⟩])
        (.cond (.tmp 66)
          (.seq (.reg [⟨some 4, .mv (.cst (.bool false)), none⟩])
          .ret)
          .skip))
        (.seq (.reg [⟨some 67, .mv (.tmp 16), none⟩,
          ⟨some 68, .lenV (.tmp 67), none⟩,
          ⟨some 69, .mv (.cst (.int .i64 0)), none⟩])
        (.block 3 (.loop
          (.seq (.reg [⟨some 70, .bin .lss (.tmp 69) (.tmp 68), none⟩])
          (.seq (.cond (.tmp 70)
            .skip
            (.exit 3))
          (.seq (.block 4 (.seq (.reg [⟨some 71, .mv (.tmp 69), none⟩,
            ⟨some 18, .mv (.tmp 71), none⟩])
          (.seq (.reg [⟨some 72, .mv (.tmp 16), none⟩,
            ⟨some 73, .mv (.tmp 18), none⟩,
            ⟨some 74, .iadS 1 (.tmp 72) (.tmp 73), none⟩,
            ⟨some 75, .load false 1 (.tmp 74), none⟩,
            ⟨some 76, .mv (.tmp 17), none⟩,
            ⟨some 77, .mv (.tmp 18), none⟩,
            ⟨some 78, .iadS 1 (.tmp 76) (.tmp 77), none⟩,
            ⟨some 79, .load false 1 (.tmp 78), none⟩,
            ⟨some 80, .bin .neq (.tmp 75) (.tmp 79), none⟩])
          (.cond (.tmp 80)
            (.seq (.reg [⟨some 4, .mv (.cst (.bool false)), none⟩])
            .ret)
            .skip))))
          (.reg [⟨some 81, .bin .add (.tmp 69) (.cst (.int .i64 1)), none⟩,
            ⟨some 69, .mv (.tmp 81), none⟩])))))))))))))))))
    (.seq (.seq (.reg [⟨some 125, .load true 2 (.tmp 11), none⟩,
      ⟨some 126, .load true 2 (.tmp 10), none⟩,
      ⟨some 127, .call 17 [(.tmp 125), (.tmp 126)], none⟩,
      ⟨some 128, .not (.tmp 127), none⟩,
      ⟨some 129, .mv (.tmp 128), none⟩,
      ⟨some 130, .load true 2 (.tmp 10), some (129, false)⟩,
      ⟨some 131, .call 12 [(.tmp 130)], some (129, false)⟩,
      ⟨some 132, .not (.tmp 131), some (129, false)⟩,
      ⟨some 133, .pick (.tmp 129) (.cst (.bool true)) (.tmp 132), none⟩,
      ⟨some 134, .mv (.tmp 133), none⟩,
      ⟨some 135, .load true 2 (.tmp 6), some (134, false)⟩,
      ⟨some 136, .load true 2 (.tmp 5), some (134, false)⟩,
      ⟨some 137, .call 17 [(.tmp 135), (.tmp 136)], some (134, false)⟩,
      ⟨some 138, .not (.tmp 137), some (134, false)⟩,
      ⟨some 139, .pick (.tmp 134) (.cst (.bool true)) (.tmp 138), none⟩,
      ⟨some 140, .mv (.tmp 139), none⟩,
      ⟨some 141, .load true 2 (.tmp 6), some (140, false)⟩,
      ⟨some 142, .load true 2 (.tmp 9), some (140, false)⟩,
      ⟨some 143, .call 17 [(.tmp 141), (.tmp 142)], some (140, false)⟩,
      ⟨some 144, .not (.tmp 143), some (140, false)⟩,
      ⟨some 145, .pick (.tmp 140) (.cst (.bool true)) (.tmp 144), none⟩])
    (.cond (.tmp 145)
      (.seq (.reg [⟨some 4, .mv (.cst (.bool false)), none⟩])
      .ret)
      .skip))
    (.seq (.reg [⟨some 147, .load true 2 (.tmp 10), none⟩,
      ⟨some 148, .fadr 1 (.tmp 8), none⟩,
      ⟨some 149, .load false 1 (.tmp 148), none⟩,
      ⟨some 150, .call 18 [(.tmp 147), (.tmp 149)], none⟩,
      ⟨some 146, .mv (.tmp 150), none⟩,
      ⟨some 151, .ext (.tmp 146) 0, none⟩,
      ⟨some 152, .ext (.tmp 146) 1, none⟩,
      ⟨some 19, .mv (.tmp 151), none⟩,
      ⟨some 20, .mv (.tmp 152), none⟩])
    (.seq (.reg [⟨some 21, .mv (.cst (.bool false)), none⟩])
    (.seq (.seq (.reg [⟨some 153, .fadr 1 (.tmp 11), none⟩,
      ⟨some 154, .load false 1 (.tmp 153), none⟩,
      ⟨some 155, .lenV (.tmp 154), none⟩,
      ⟨some 156, .mv (.cst (.int .i64 0)), none⟩])
    (.block 5 (.loop
      (.seq (.reg [⟨some 157, .bin .lss (.tmp 156) (.tmp 155), none⟩])
      (.seq (.cond (.tmp 157)
        .skip
        (.exit 5))
      (.seq (.block 6 (.seq (.reg [⟨some 158, .iadS 2 (.tmp 154) (.tmp 156), none⟩,
        ⟨some 159, .load true 2 (.tmp 158), none⟩,
        ⟨some 23, .newb [(.int .i64 0), (.int .u64 0)], none⟩,
        ⟨none, .store 2 (.tmp 23) (.tmp 159), none⟩])
      (.reg [⟨some 160, .mv (.tmp 21), none⟩,
        ⟨some 161, .mv (.tmp 160), none⟩,
        ⟨some 162, .fadr 0 (.tmp 23), some (161, false)⟩,
        ⟨some 163, .load false 1 (.tmp 162), some (161, false)⟩,
        ⟨some 164, .fadr 1 (.tmp 8), some (161, false)⟩,
        ⟨some 165, .load false 1 (.tmp 164), some (161, false)⟩,
        ⟨some 166, .bin .eql (.tmp 163) (.tmp 165), some (161, false)⟩,
        ⟨some 167, .mv (.tmp 166), some (161, false)⟩,
        ⟨some 168, .fadr 1 (.tmp 23), some (167, true)⟩,
        ⟨some 169, .load false 1 (.tmp 168), some (167, true)⟩,
        ⟨some 170, .mv (.tmp 19), some (167, true)⟩,
        ⟨some 171, .bin .eql (.tmp 169) (.tmp 170), some (167, true)⟩,
        ⟨some 172, .pick (.tmp 167) (.tmp 171) (.cst (.bool false)), some (161, false)⟩,
        ⟨some 173, .pick (.tmp 161) (.cst (.bool true)) (.tmp 172), none⟩,
        ⟨some 21, .mv (.tmp 173), none⟩])))
      (.reg [⟨some 174, .bin .add (.tmp 156) (.cst (.int .i64 1)), none⟩,
        ⟨some 156, .mv (.tmp 174), none⟩])))))))
    (.seq (.seq (.reg [⟨some 175, .mv (.tmp 20), none⟩,
      ⟨some 176, .mv (.tmp 21), none⟩,
      ⟨some 177, .binB true (.tmp 175) (.tmp 176), none⟩,
      ⟨some 178, .mv (.tmp 177), none⟩,
      ⟨some 179, .mv (.tmp 20), some (178, false)⟩,
      ⟨some 180, .not (.tmp 179), some (178, false)⟩,
      ⟨some 181, .mv (.tmp 180), some (178, false)⟩,
      ⟨some 182, .mv (.tmp 19), some (181, true)⟩,
      ⟨some 183, .bin .neq (.tmp 182) (.cst (.int .u64 0)), some (181, true)⟩,
      ⟨some 184, .pick (.tmp 181) (.tmp 183) (.cst (.bool false)), some (178, false)⟩,
      ⟨some 185, .pick (.tmp 178) (.cst (.bool true)) (.tmp 184), none⟩])
    (.cond (.tmp 185)
      (.seq (.reg [⟨some 4, .mv (.cst (.bool false)), none⟩])
      .ret)
      .skip))
    (.drw [⟨some 186, .load true 2 (.tmp 10), none⟩,
      ⟨some 187, .load true 2 (.tmp 11), none⟩,
      ⟨none, .store 2 (.tmp 5) (.tmp 186), none⟩,
      ⟨none, .store 2 (.tmp 6) (.tmp 187), none⟩] [[], [], [1], []])))))))))))
    (.reg [⟨some 188, .bin .add (.tmp 40) (.cst (.int .i64 1)), none⟩,
      ⟨some 40, .mv (.tmp 188), none⟩])))))))
  (.seq (.reg [⟨some 4, .mv (.cst (.bool true)), none⟩])
  .ret)))))
theorem p_caravellaw16_WheelPlays : Try.f6.body.bind (compC Try.prog 189) = some c_caravellaw16_WheelPlays := by kernel_rfl
theorem r_caravellaw16_WheelPlays : tellR Try.prog Try.f6.results.toList = some [.t 4] := by kernel_rfl

/-- caravel/caravellaw16.lives: 0 in. -/
def c_caravellaw16_lives : ACode :=
  (.seq (.reg [⟨some 0, .mv (.cst (.bool false)), none⟩])
  (.seq (.reg [⟨some 9, .build [(.int .u64 0), .nil] [], none⟩,
    ⟨some 10, .call 9 [(.tmp 9), (.cst (.int .i64 1)), (.cst (.int .u64 2))], none⟩,
    ⟨some 8, .mv (.tmp 10), none⟩,
    ⟨some 11, .ext (.tmp 8) 0, none⟩,
    ⟨some 12, .ext (.tmp 8) 1, none⟩,
    ⟨some 1, .newb [(.int .u64 0), .nil], none⟩,
    ⟨none, .store 2 (.tmp 1) (.tmp 11), none⟩,
    ⟨some 2, .mv (.tmp 12), none⟩])
  (.seq (.reg [⟨some 14, .load true 2 (.tmp 1), none⟩,
    ⟨some 15, .call 9 [(.tmp 14), (.cst (.int .i64 2)), (.cst (.int .u64 1))], none⟩,
    ⟨some 13, .mv (.tmp 15), none⟩,
    ⟨some 16, .ext (.tmp 13) 0, none⟩,
    ⟨some 17, .ext (.tmp 13) 1, none⟩,
    ⟨none, .store 2 (.tmp 1) (.tmp 16), none⟩,
    ⟨some 3, .mv (.tmp 17), none⟩])
  (.seq (.reg [⟨some 19, .load true 2 (.tmp 1), none⟩,
    ⟨some 20, .call 9 [(.tmp 19), (.cst (.int .i64 3)), (.cst (.int .u64 2))], none⟩,
    ⟨some 18, .mv (.tmp 20), none⟩,
    ⟨some 21, .ext (.tmp 18) 0, none⟩,
    ⟨some 22, .ext (.tmp 18) 1, none⟩,
    ⟨none, .store 2 (.tmp 1) (.tmp 21), none⟩,
    ⟨some 4, .mv (.tmp 22), none⟩])
  (.seq (.reg [⟨some 24, .load true 2 (.tmp 1), none⟩,
    ⟨some 25, .call 11 [(.tmp 24)], none⟩,
    ⟨some 23, .mv (.tmp 25), none⟩,
    ⟨some 26, .ext (.tmp 23) 0, none⟩,
    ⟨some 27, .ext (.tmp 23) 1, none⟩,
    ⟨none, .store 2 (.tmp 1) (.tmp 26), none⟩,
    ⟨some 5, .mv (.tmp 27), none⟩])
  (.seq (.reg [⟨some 29, .load true 2 (.tmp 1), none⟩,
    ⟨some 30, .call 11 [(.tmp 29)], none⟩,
    ⟨some 28, .mv (.tmp 30), none⟩,
    ⟨some 31, .ext (.tmp 28) 0, none⟩,
    ⟨some 32, .ext (.tmp 28) 1, none⟩,
    ⟨some 6, .newb [(.int .u64 0), .nil], none⟩,
    ⟨none, .store 2 (.tmp 6) (.tmp 31), none⟩,
    ⟨some 7, .mv (.tmp 32), none⟩])
  (.seq (.reg [⟨some 33, .mv (.tmp 2), none⟩,
    ⟨some 34, .bin .eql (.tmp 33) (.cst (.int .i64 0)), none⟩,
    ⟨some 35, .mv (.tmp 34), none⟩,
    ⟨some 36, .mv (.tmp 3), some (35, true)⟩,
    ⟨some 37, .bin .eql (.tmp 36) (.cst (.int .i64 0)), some (35, true)⟩,
    ⟨some 38, .pick (.tmp 35) (.tmp 37) (.cst (.bool false)), none⟩,
    ⟨some 39, .mv (.tmp 38), none⟩,
    ⟨some 40, .mv (.tmp 4), some (39, true)⟩,
    ⟨some 41, .bin .eql (.tmp 40) (.cst (.int .i64 0)), some (39, true)⟩,
    ⟨some 42, .pick (.tmp 39) (.tmp 41) (.cst (.bool false)), none⟩,
    ⟨some 43, .mv (.tmp 42), none⟩,
    ⟨some 44, .mv (.tmp 5), some (43, true)⟩,
    ⟨some 45, .lenV (.tmp 44), some (43, true)⟩,
    ⟨some 46, .bin .eql (.tmp 45) (.cst (.int .i64 1)), some (43, true)⟩,
    ⟨some 47, .pick (.tmp 43) (.tmp 46) (.cst (.bool false)), none⟩,
    ⟨some 48, .mv (.tmp 47), none⟩,
    ⟨some 49, .mv (.tmp 5), some (48, true)⟩,
    ⟨some 50, .iadS 1 (.tmp 49) (.cst (.int .i64 0)), some (48, true)⟩,
    ⟨some 51, .load false 1 (.tmp 50), some (48, true)⟩,
    ⟨some 52, .bin .eql (.tmp 51) (.cst (.int .i64 2)), some (48, true)⟩,
    ⟨some 53, .pick (.tmp 48) (.tmp 52) (.cst (.bool false)), none⟩,
    ⟨some 54, .mv (.tmp 53), none⟩,
    ⟨some 55, .mv (.tmp 7), some (54, true)⟩,
    ⟨some 56, .lenV (.tmp 55), some (54, true)⟩,
    ⟨some 57, .bin .eql (.tmp 56) (.cst (.int .i64 2)), some (54, true)⟩,
    ⟨some 58, .pick (.tmp 54) (.tmp 57) (.cst (.bool false)), none⟩,
    ⟨some 59, .mv (.tmp 58), none⟩,
    ⟨some 60, .mv (.tmp 7), some (59, true)⟩,
    ⟨some 61, .iadS 1 (.tmp 60) (.cst (.int .i64 0)), some (59, true)⟩,
    ⟨some 62, .load false 1 (.tmp 61), some (59, true)⟩,
    ⟨some 63, .bin .eql (.tmp 62) (.cst (.int .i64 1)), some (59, true)⟩,
    ⟨some 64, .pick (.tmp 59) (.tmp 63) (.cst (.bool false)), none⟩,
    ⟨some 65, .mv (.tmp 64), none⟩,
    ⟨some 66, .mv (.tmp 7), some (65, true)⟩,
    ⟨some 67, .iadS 1 (.tmp 66) (.cst (.int .i64 1)), some (65, true)⟩,
    ⟨some 68, .load false 1 (.tmp 67), some (65, true)⟩,
    ⟨some 69, .bin .eql (.tmp 68) (.cst (.int .i64 3)), some (65, true)⟩,
    ⟨some 70, .pick (.tmp 65) (.tmp 69) (.cst (.bool false)), none⟩,
    ⟨some 0, .mv (.tmp 70), none⟩])
  .ret)))))))
theorem p_caravellaw16_lives : Try.f7.body.bind (compC Try.prog 71) = some c_caravellaw16_lives := by kernel_rfl
theorem r_caravellaw16_lives : tellR Try.prog Try.f7.results.toList = some [.t 0] := by kernel_rfl

/-- caravel/wheel.Stop: 2 in. -/
def c_wheel_Stop : ACode :=
  (.seq (.reg [⟨some 2, .box (.tmp 0), none⟩,
    ⟨some 3, .box (.tmp 1), none⟩,
    ⟨some 4, .newb [(.int .u64 0), .nil], none⟩,
    ⟨some 5, .mv (.cst (.bool false)), none⟩])
  (.seq (.reg [⟨some 7, .load true 2 (.tmp 2), none⟩,
    ⟨some 8, .call 13 [(.tmp 7)], none⟩,
    ⟨some 6, .newb [(.int .u64 0), .nil], none⟩,
    ⟨none, .store 2 (.tmp 6) (.tmp 8), none⟩])
  (.seq (.reg [⟨some 9, .fadr 1 (.tmp 6), none⟩,
    ⟨some 10, .load false 1 (.tmp 9), none⟩,
    ⟨some 11, .mkf 20 [(.tmp 3)], none⟩,
    ⟨some 12, .call 19 [(.tmp 10), (.tmp 11)], none⟩,
    ⟨some 13, .fadr 1 (.tmp 6), none⟩,
    ⟨none, .store 1 (.tmp 13) (.tmp 12), none⟩])
  (.seq (.drw [⟨some 14, .load true 2 (.tmp 6), none⟩,
    ⟨some 15, .fadr 1 (.tmp 6), none⟩,
    ⟨some 16, .load false 1 (.tmp 15), none⟩,
    ⟨some 17, .lenV (.tmp 16), none⟩,
    ⟨some 18, .fadr 1 (.tmp 2), none⟩,
    ⟨some 19, .load false 1 (.tmp 18), none⟩,
    ⟨some 20, .lenV (.tmp 19), none⟩,
    ⟨some 21, .bin .lss (.tmp 17) (.tmp 20), none⟩,
    ⟨none, .store 2 (.tmp 4) (.tmp 14), none⟩,
    ⟨some 5, .mv (.tmp 21), none⟩] [[], [], [], [], [], [], [], [], [2, 5], []])
  .ret))))
theorem p_wheel_Stop : Try.f8.body.bind (compC Try.prog 22) = some c_wheel_Stop := by kernel_rfl
theorem r_wheel_Stop : tellR Try.prog Try.f8.results.toList = some [.c 4 true 2, .t 5] := by kernel_rfl

/-- caravel/wheel.Set: 3 in. -/
def c_wheel_Set : ACode :=
  (.seq (.reg [⟨some 3, .box (.tmp 0), none⟩,
    ⟨some 6, .newb [(.int .u64 0), .nil], none⟩,
    ⟨some 7, .mv (.cst (.int .i64 0)), none⟩])
  (.seq (.reg [⟨some 13, .load true 2 (.tmp 3), none⟩,
    ⟨some 14, .mv (.tmp 1), none⟩,
    ⟨some 15, .call 8 [(.tmp 13), (.tmp 14)], none⟩,
    ⟨some 12, .mv (.tmp 15), none⟩,
    ⟨some 16, .ext (.tmp 12) 0, none⟩,
    ⟨some 17, .ext (.tmp 12) 1, none⟩,
    ⟨some 8, .newb [(.int .u64 0), .nil], none⟩,
    ⟨none, .store 2 (.tmp 8) (.tmp 16), none⟩,
    ⟨some 9, .mv (.tmp 17), none⟩])
  (.seq (.block 0 (.seq (.reg [⟨some 19, .mv (.tmp 2), none⟩,
    ⟨some 20, .bin .gtr (.tmp 19) (.cst (.int .u64 4611686018427387904)), none⟩,
    ⟨some 18, .mv (.tmp 20), none⟩])
  (.cond (.tmp 18)
    (.seq (.reg [⟨some 21, .load true 2 (.tmp 3), none⟩,
      ⟨some 22, .call 13 [(.tmp 21)], none⟩,
      ⟨none, .store 2 (.tmp 6) (.tmp 22), none⟩,
      ⟨some 7, .mv (.cst (.int .i64 1)), none⟩])
    .ret)
    (.seq (.reg [⟨some 24, .fadr 1 (.tmp 8), none⟩,
      ⟨some 25, .load false 1 (.tmp 24), none⟩,
      ⟨some 26, .lenV (.tmp 25), none⟩,
      ⟨some 27, .bin .geq (.tmp 26) (.cst (.int .i64 64)), none⟩,
      ⟨some 23, .mv (.tmp 27), none⟩])
    (.cond (.tmp 23)
      (.seq (.reg [⟨some 28, .load true 2 (.tmp 3), none⟩,
        ⟨some 29, .call 13 [(.tmp 28)], none⟩,
        ⟨none, .store 2 (.tmp 6) (.tmp 29), none⟩,
        ⟨some 7, .mv (.cst (.int .i64 5)), none⟩])
      .ret)
      .skip)))))
  (.seq (.reg [⟨some 30, .fadr 0 (.tmp 3), none⟩,
    ⟨some 31, .load false 1 (.tmp 30), none⟩,
    ⟨some 32, .mv (.tmp 2), none⟩,
    ⟨some 33, .max [(.tmp 32), (.cst (.int .u64 1))], none⟩,
    ⟨some 34, .bin .add (.tmp 31) (.tmp 33), none⟩,
    ⟨some 10, .mv (.tmp 34), none⟩])
  (.seq (.reg [⟨some 35, .fadr 1 (.tmp 8), none⟩,
    ⟨some 36, .load false 1 (.tmp 35), none⟩,
    ⟨some 37, .lenV (.tmp 36), none⟩,
    ⟨some 11, .mv (.tmp 37), none⟩])
  (.seq (.block 1 (.loop
    (.seq (.seq (.reg [⟨some 38, .mv (.tmp 11), none⟩,
      ⟨some 39, .bin .gtr (.tmp 38) (.cst (.int .i64 0)), none⟩,
      ⟨some 40, .mv (.tmp 39), none⟩,
      ⟨some 41, .fadr 1 (.tmp 8), some (40, true)⟩,
      ⟨some 42, .load false 1 (.tmp 41), some (40, true)⟩,
      ⟨some 43, .mv (.tmp 11), some (40, true)⟩,
      ⟨some 44, .bin .sub (.tmp 43) (.cst (.int .i64 1)), some (40, true)⟩,
      ⟨some 45, .iadS 2 (.tmp 42) (.tmp 44), some (40, true)⟩,
      ⟨some 46, .fadr 1 (.tmp 45), some (40, true)⟩,
      ⟨some 47, .load false 1 (.tmp 46), some (40, true)⟩,
      ⟨some 48, .mv (.tmp 10), some (40, true)⟩,
      ⟨some 49, .bin .gtr (.tmp 47) (.tmp 48), some (40, true)⟩,
      ⟨some 50, .pick (.tmp 40) (.tmp 49) (.cst (.bool false)), none⟩])
    (.cond (.tmp 50)
      .skip
      (.exit 1)))
    (.block 2 (.reg [⟨some 51, .mv (.tmp 11), none⟩,
      ⟨some 52, .bin .sub (.tmp 51) (.cst (.int .i64 1)), none⟩,
      ⟨some 11, .mv (.tmp 52), none⟩])))))
  (.seq (.reg [⟨some 53, .fadr 1 (.tmp 8), none⟩,
    ⟨some 54, .load false 1 (.tmp 53), none⟩,
    ⟨some 55, .mv (.tmp 11), none⟩,
    ⟨some 56, .mv (.tmp 1), none⟩,
    ⟨some 57, .mv (.tmp 10), none⟩,
    ⟨some 58, .build [(.int .i64 0), (.int .u64 0)] [(0, 1, (.tmp 56)), (1, 1, (.tmp 57))], none⟩,
    ⟨some 59, .bsl 2 [(.tmp 58)], none⟩,
    ⟨some 60, .call 21 [(.tmp 54), (.tmp 55), (.tmp 59)], none⟩,
    ⟨some 61, .fadr 1 (.tmp 8), none⟩,
    ⟨none, .store 1 (.tmp 61) (.tmp 60), none⟩])
  (.seq (.reg [⟨some 62, .load true 2 (.tmp 8), none⟩,
    ⟨none, .store 2 (.tmp 6) (.tmp 62), none⟩,
    ⟨some 7, .mv (.cst (.int .i64 0)), none⟩])
  .ret))))))))
theorem p_wheel_Set : Try.f9.body.bind (compC Try.prog 63) = some c_wheel_Set := by kernel_rfl
theorem r_wheel_Set : tellR Try.prog Try.f9.results.toList = some [.c 6 true 2, .t 7] := by kernel_rfl

-- NO 10 caravel/caravellaw16.tick
/-- caravel/wheel.Tick: 1 in. -/
def c_wheel_Tick : ACode :=
  (.seq (.reg [⟨some 1, .box (.tmp 0), none⟩,
    ⟨some 2, .newb [(.int .u64 0), .nil], none⟩,
    ⟨some 3, .mv (.cst .nil), none⟩])
  (.seq (.reg [⟨some 6, .load true 2 (.tmp 1), none⟩,
    ⟨some 7, .call 13 [(.tmp 6)], none⟩,
    ⟨some 4, .newb [(.int .u64 0), .nil], none⟩,
    ⟨none, .store 2 (.tmp 4) (.tmp 7), none⟩])
  (.seq (.reg [⟨some 8, .fadr 0 (.tmp 4), none⟩,
    ⟨some 9, .load false 1 (.tmp 8), none⟩,
    ⟨some 10, .bin .add (.tmp 9) (.cst (.int .u64 1)), none⟩,
    ⟨some 11, .fadr 0 (.tmp 4), none⟩,
    ⟨none, .store 1 (.tmp 11) (.tmp 10), none⟩])
  (.seq (.reg [⟨some 5, .mv (.cst .nil), none⟩])
  (.seq (.block 0 (.loop
    (.seq (.seq (.reg [⟨some 12, .fadr 1 (.tmp 4), none⟩,
      ⟨some 13, .load false 1 (.tmp 12), none⟩,
      ⟨some 14, .lenV (.tmp 13), none⟩,
      ⟨some 15, .bin .gtr (.tmp 14) (.cst (.int .i64 0)), none⟩,
      ⟨some 16, .mv (.tmp 15), none⟩,
      ⟨some 17, .fadr 1 (.tmp 4), some (16, true)⟩,
      ⟨some 18, .load false 1 (.tmp 17), some (16, true)⟩,
      ⟨some 19, .iadS 2 (.tmp 18) (.cst (.int .i64 0)), some (16, true)⟩,
      ⟨some 20, .fadr 1 (.tmp 19), some (16, true)⟩,
      ⟨some 21, .load false 1 (.tmp 20), some (16, true)⟩,
      ⟨some 22, .fadr 0 (.tmp 4), some (16, true)⟩,
      ⟨some 23, .load false 1 (.tmp 22), some (16, true)⟩,
      ⟨some 24, .bin .leq (.tmp 21) (.tmp 23), some (16, true)⟩,
      ⟨some 25, .pick (.tmp 16) (.tmp 24) (.cst (.bool false)), none⟩])
    (.cond (.tmp 25)
      .skip
      (.exit 0)))
    (.block 1 (.seq (.reg [⟨some 26, .mv (.tmp 5), none⟩,
      ⟨some 27, .fadr 1 (.tmp 4), none⟩,
      ⟨some 28, .load false 1 (.tmp 27), none⟩,
      ⟨some 29, .iadS 2 (.tmp 28) (.cst (.int .i64 0)), none⟩,
      ⟨some 30, .fadr 0 (.tmp 29), none⟩,
      ⟨some 31, .load false 1 (.tmp 30), none⟩,
      ⟨some 32, .bsl 1 [(.tmp 31)], none⟩,
      ⟨some 33, .app 1 8 (.tmp 26) (.tmp 32), none⟩,
      ⟨some 5, .mv (.tmp 33), none⟩])
    (.reg [⟨some 34, .fadr 1 (.tmp 4), none⟩,
      ⟨some 35, .load false 1 (.tmp 34), none⟩,
      ⟨some 36, .slS 2 (.tmp 35) (some (.cst (.int .i64 1))) none none, none⟩,
      ⟨some 37, .fadr 1 (.tmp 4), none⟩,
      ⟨none, .store 1 (.tmp 37) (.tmp 36), none⟩]))))))
  (.seq (.reg [⟨some 38, .load true 2 (.tmp 4), none⟩,
    ⟨some 39, .mv (.tmp 5), none⟩,
    ⟨none, .store 2 (.tmp 2) (.tmp 38), none⟩,
    ⟨some 3, .mv (.tmp 39), none⟩])
  .ret))))))
theorem p_wheel_Tick : Try.f11.body.bind (compC Try.prog 40) = some c_wheel_Tick := by kernel_rfl
theorem r_wheel_Tick : tellR Try.prog Try.f11.results.toList = some [.c 2 true 2, .t 3] := by kernel_rfl

/-- caravel/wheel.Right: 1 in. -/
def c_wheel_Right : ACode :=
  (.seq (.reg [⟨some 1, .box (.tmp 0), none⟩,
    ⟨some 2, .mv (.cst (.bool false)), none⟩])
  (.seq (.seq (.reg [⟨some 5, .fadr 1 (.tmp 1), none⟩,
    ⟨some 6, .load false 1 (.tmp 5), none⟩,
    ⟨some 7, .lenV (.tmp 6), none⟩,
    ⟨some 8, .mv (.cst (.int .i64 0)), none⟩])
  (.block 0 (.loop
    (.seq (.reg [⟨some 9, .bin .lss (.tmp 8) (.tmp 7), none⟩])
    (.seq (.cond (.tmp 9)
      .skip
      (.exit 0))
    (.seq (.block 1 (.seq (.reg [⟨some 10, .mv (.tmp 8), none⟩,
      ⟨some 11, .iadS 2 (.tmp 6) (.tmp 8), none⟩,
      ⟨some 12, .load true 2 (.tmp 11), none⟩,
      ⟨some 4, .newb [(.int .i64 0), (.int .u64 0)], none⟩,
      ⟨some 3, .mv (.tmp 10), none⟩,
      ⟨none, .store 2 (.tmp 4) (.tmp 12), none⟩])
    (.seq (.drw [⟨some 13, .fadr 1 (.tmp 4), none⟩,
      ⟨some 14, .load false 1 (.tmp 13), none⟩,
      ⟨some 15, .fadr 0 (.tmp 1), none⟩,
      ⟨some 16, .load false 1 (.tmp 15), none⟩,
      ⟨some 17, .bin .leq (.tmp 14) (.tmp 16), none⟩,
      ⟨some 18, .mv (.tmp 17), none⟩,
      ⟨some 19, .mv (.tmp 3), some (18, false)⟩,
      ⟨some 20, .bin .gtr (.tmp 19) (.cst (.int .i64 0)), some (18, false)⟩,
      ⟨some 21, .mv (.tmp 20), some (18, false)⟩,
      ⟨some 22, .fadr 1 (.tmp 4), some (21, true)⟩,
      ⟨some 23, .load false 1 (.tmp 22), some (21, true)⟩,
      ⟨some 24, .fadr 1 (.tmp 1), some (21, true)⟩,
      ⟨some 25, .load false 1 (.tmp 24), some (21, true)⟩,
      ⟨some 26, .mv (.tmp 3), some (21, true)⟩,
      ⟨some 27, .bin .sub (.tmp 26) (.cst (.int .i64 1)), some (21, true)⟩,
      ⟨some 28, .iadS 2 (.tmp 25) (.tmp 27), some (21, true)⟩,
      ⟨some 29, .fadr 1 (.tmp 28), some (21, true)⟩,
      ⟨some 30, .load false 1 (.tmp 29), some (21, true)⟩,
      ⟨some 31, .bin .lss (.tmp 23) (.tmp 30), some (21, true)⟩,
      ⟨some 32, .pick (.tmp 21) (.tmp 31) (.cst (.bool false)), some (18, false)⟩,
      ⟨some 33, .pick (.tmp 18) (.cst (.bool true)) (.tmp 32), none⟩,
      ⟨some 34, .mv (.tmp 33), none⟩,
      ⟨some 35, .fadr 1 (.tmp 1), some (34, false)⟩,
      ⟨some 36, .load false 1 (.tmp 35), some (34, false)⟩,
      ⟨some 37, .mv (.tmp 3), some (34, false)⟩,
      ⟨some 38, .slS 2 (.tmp 36) none (some (.tmp 37)) none, some (34, false)⟩,
      ⟨some 39, .mkf 23 [(.tmp 4)], some (34, false)⟩,
      ⟨some 40, .call 22 [(.tmp 38), (.tmp 39)], some (34, false)⟩,
      ⟨some 41, .pick (.tmp 34) (.cst (.bool true)) (.tmp 40), none⟩] [[], [], [], [], [], [], [], [], [], [], [], [], [], [], [], [], [], [], [], [], [], [], [], [], [], [], [], [], []])
    (.cond (.tmp 41)
      (.seq (.reg [⟨some 2, .mv (.cst (.bool false)), none⟩])
      .ret)
      .skip))))
    (.reg [⟨some 42, .bin .add (.tmp 8) (.cst (.int .i64 1)), none⟩,
      ⟨some 8, .mv (.tmp 42), none⟩])))))))
  (.seq (.reg [⟨some 43, .fadr 1 (.tmp 1), none⟩,
    ⟨some 44, .load false 1 (.tmp 43), none⟩,
    ⟨some 45, .lenV (.tmp 44), none⟩,
    ⟨some 46, .bin .leq (.tmp 45) (.cst (.int .i64 64)), none⟩,
    ⟨some 47, .mv (.tmp 46), none⟩,
    ⟨some 48, .fadr 0 (.tmp 1), some (47, true)⟩,
    ⟨some 49, .load false 1 (.tmp 48), some (47, true)⟩,
    ⟨some 50, .bin .leq (.tmp 49) (.cst (.int .u64 4611686018427387904)), some (47, true)⟩,
    ⟨some 51, .pick (.tmp 47) (.tmp 50) (.cst (.bool false)), none⟩,
    ⟨some 2, .mv (.tmp 51), none⟩])
  .ret)))
theorem p_wheel_Right : Try.f12.body.bind (compC Try.prog 52) = some c_wheel_Right := by kernel_rfl
theorem r_wheel_Right : tellR Try.prog Try.f12.results.toList = some [.t 2] := by kernel_rfl

/-- caravel/wheel.Clone: 1 in. -/
def c_wheel_Clone : ACode :=
  (.seq (.reg [⟨some 1, .box (.tmp 0), none⟩,
    ⟨some 2, .newb [(.int .u64 0), .nil], none⟩])
  (.seq (.drw [⟨some 3, .fadr 0 (.tmp 1), none⟩,
    ⟨some 4, .load false 1 (.tmp 3), none⟩,
    ⟨some 5, .fadr 1 (.tmp 1), none⟩,
    ⟨some 6, .load false 1 (.tmp 5), none⟩,
    ⟨some 7, .call 24 [(.tmp 6)], none⟩,
    ⟨some 8, .build [(.int .u64 0), .nil] [(0, 1, (.tmp 4)), (1, 1, (.tmp 7))], none⟩,
    ⟨none, .store 2 (.tmp 2) (.tmp 8), none⟩] [[], [], [], [], [], [], []])
  .ret))
theorem p_wheel_Clone : Try.f13.body.bind (compC Try.prog 9) = some c_wheel_Clone := by kernel_rfl
theorem r_wheel_Clone : tellR Try.prog Try.f13.results.toList = some [.c 2 true 2] := by kernel_rfl

/-- caravel/caravelref16.Set: 3 in. -/
def c_caravelref16_Set : ACode :=
  (.seq (.reg [⟨some 3, .box (.tmp 0), none⟩,
    ⟨some 6, .newb [(.int .u64 0), .nil], none⟩,
    ⟨some 7, .mv (.cst (.int .i64 0)), none⟩])
  (.seq (.seq (.reg [⟨some 9, .mv (.tmp 2), none⟩,
    ⟨some 10, .bin .gtr (.tmp 9) (.cst (.int .u64 4611686018427387904)), none⟩])
  (.cond (.tmp 10)
    (.seq (.reg [⟨some 11, .load true 2 (.tmp 3), none⟩,
      ⟨none, .store 2 (.tmp 6) (.tmp 11), none⟩,
      ⟨some 7, .mv (.cst (.int .i64 1)), none⟩])
    .ret)
    .skip))
  (.seq (.reg [⟨some 12, .fadr 1 (.tmp 3), none⟩,
    ⟨some 13, .load false 1 (.tmp 12), none⟩,
    ⟨some 14, .mv (.tmp 1), none⟩,
    ⟨some 15, .call 25 [(.tmp 13), (.tmp 14)], none⟩,
    ⟨some 8, .mv (.tmp 15), none⟩])
  (.seq (.seq (.reg [⟨some 16, .mv (.tmp 8), none⟩,
    ⟨some 17, .lenV (.tmp 16), none⟩,
    ⟨some 18, .bin .geq (.tmp 17) (.cst (.int .i64 64)), none⟩])
  (.cond (.tmp 18)
    (.seq (.reg [⟨some 19, .load true 2 (.tmp 3), none⟩,
      ⟨none, .store 2 (.tmp 6) (.tmp 19), none⟩,
      ⟨some 7, .mv (.cst (.int .i64 5)), none⟩])
    .ret)
    .skip))
  (.seq (.seq (.reg [⟨some 20, .mv (.tmp 2), none⟩,
    ⟨some 21, .bin .eql (.tmp 20) (.cst (.int .u64 0)), none⟩])
  (.cond (.tmp 21)
    (.reg [⟨some 2, .mv (.cst (.int .u64 1)), none⟩])
    .skip))
  (.seq (.reg [⟨some 22, .mv (.tmp 8), none⟩,
    ⟨some 23, .mv (.tmp 1), none⟩,
    ⟨some 24, .fadr 0 (.tmp 3), none⟩,
    ⟨some 25, .load false 1 (.tmp 24), none⟩,
    ⟨some 26, .mv (.tmp 2), none⟩,
    ⟨some 27, .bin .add (.tmp 25) (.tmp 26), none⟩,
    ⟨some 28, .build [(.int .i64 0), (.int .u64 0)] [(0, 1, (.tmp 23)), (1, 1, (.tmp 27))], none⟩,
    ⟨some 29, .bsl 2 [(.tmp 28)], none⟩,
    ⟨some 30, .app 2 16 (.tmp 22) (.tmp 29), none⟩,
    ⟨some 31, .fadr 1 (.tmp 3), none⟩,
    ⟨none, .store 1 (.tmp 31) (.tmp 30), none⟩])
  (.seq (.reg [⟨some 32, .load true 2 (.tmp 3), none⟩,
    ⟨none, .store 2 (.tmp 6) (.tmp 32), none⟩,
    ⟨some 7, .mv (.cst (.int .i64 0)), none⟩])
  .ret)))))))
theorem p_caravelref16_Set : Try.f14.body.bind (compC Try.prog 33) = some c_caravelref16_Set := by kernel_rfl
theorem r_caravelref16_Set : tellR Try.prog Try.f14.results.toList = some [.c 6 true 2, .t 7] := by kernel_rfl

/-- caravel/caravelref16.Stop: 2 in. -/
def c_caravelref16_Stop : ACode :=
  (.seq (.reg [⟨some 2, .box (.tmp 0), none⟩,
    ⟨some 4, .newb [(.int .u64 0), .nil], none⟩,
    ⟨some 5, .mv (.cst (.bool false)), none⟩])
  (.seq (.reg [⟨some 8, .fadr 1 (.tmp 2), none⟩,
    ⟨some 9, .load false 1 (.tmp 8), none⟩,
    ⟨some 10, .mv (.tmp 1), none⟩,
    ⟨some 11, .call 25 [(.tmp 9), (.tmp 10)], none⟩,
    ⟨some 6, .mv (.tmp 11), none⟩])
  (.seq (.reg [⟨some 12, .mv (.tmp 6), none⟩,
    ⟨some 13, .lenV (.tmp 12), none⟩,
    ⟨some 14, .fadr 1 (.tmp 2), none⟩,
    ⟨some 15, .load false 1 (.tmp 14), none⟩,
    ⟨some 16, .lenV (.tmp 15), none⟩,
    ⟨some 17, .bin .lss (.tmp 13) (.tmp 16), none⟩,
    ⟨some 7, .mv (.tmp 17), none⟩])
  (.seq (.reg [⟨some 18, .mv (.tmp 6), none⟩,
    ⟨some 19, .fadr 1 (.tmp 2), none⟩,
    ⟨none, .store 1 (.tmp 19) (.tmp 18), none⟩])
  (.seq (.reg [⟨some 20, .load true 2 (.tmp 2), none⟩,
    ⟨some 21, .mv (.tmp 7), none⟩,
    ⟨none, .store 2 (.tmp 4) (.tmp 20), none⟩,
    ⟨some 5, .mv (.tmp 21), none⟩])
  .ret)))))
theorem p_caravelref16_Stop : Try.f15.body.bind (compC Try.prog 22) = some c_caravelref16_Stop := by kernel_rfl
theorem r_caravelref16_Stop : tellR Try.prog Try.f15.results.toList = some [.c 4 true 2, .t 5] := by kernel_rfl

/-- caravel/caravelref16.Tick: 1 in. -/
def c_caravelref16_Tick : ACode :=
  (.seq (.reg [⟨some 1, .box (.tmp 0), none⟩,
    ⟨some 2, .newb [(.int .u64 0), .nil], none⟩,
    ⟨some 3, .mv (.cst .nil), none⟩])
  (.seq (.reg [⟨some 7, .fadr 0 (.tmp 1), none⟩,
    ⟨some 8, .load false 1 (.tmp 7), none⟩,
    ⟨some 9, .bin .add (.tmp 8) (.cst (.int .u64 1)), none⟩,
    ⟨some 10, .fadr 0 (.tmp 1), none⟩,
    ⟨none, .store 1 (.tmp 10) (.tmp 9), none⟩])
  (.seq (.reg [⟨some 4, .mv (.cst .nil), none⟩])
  (.seq (.reg [⟨some 5, .mv (.cst .nil), none⟩])
  (.seq (.seq (.reg [⟨some 6, .mv (.cst (.int .i64 0)), none⟩])
  (.block 0 (.loop
    (.seq (.seq (.reg [⟨some 11, .mv (.tmp 6), none⟩,
      ⟨some 12, .fadr 1 (.tmp 1), none⟩,
      ⟨some 13, .load false 1 (.tmp 12), none⟩,
      ⟨some 14, .lenV (.tmp 13), none⟩,
      ⟨some 15, .bin .lss (.tmp 11) (.tmp 14), none⟩])
    (.cond (.tmp 15)
      .skip
      (.exit 0)))
    (.seq (.block 1 (.seq (.reg [⟨some 18, .fadr 1 (.tmp 1), none⟩,
      ⟨some 19, .load false 1 (.tmp 18), none⟩,
      ⟨some 20, .mv (.tmp 6), none⟩,
      ⟨some 21, .iadS 2 (.tmp 19) (.tmp 20), none⟩,
      ⟨some 22, .fadr 1 (.tmp 21), none⟩,
      ⟨some 23, .load false 1 (.tmp 22), none⟩,
      ⟨some 24, .fadr 0 (.tmp 1), none⟩,
      ⟨some 25, .load false 1 (.tmp 24), none⟩,
      ⟨some 26, .bin .eql (.tmp 23) (.tmp 25), none⟩])
    (.cond (.tmp 26)
      (.reg [⟨some 27, .mv (.tmp 4), none⟩,
        ⟨some 28, .fadr 1 (.tmp 1), none⟩,
        ⟨some 29, .load false 1 (.tmp 28), none⟩,
        ⟨some 30, .mv (.tmp 6), none⟩,
        ⟨some 31, .iadS 2 (.tmp 29) (.tmp 30), none⟩,
        ⟨some 32, .fadr 0 (.tmp 31), none⟩,
        ⟨some 33, .load false 1 (.tmp 32), none⟩,
        ⟨some 34, .bsl 1 [(.tmp 33)], none⟩,
        ⟨some 35, .app 1 8 (.tmp 27) (.tmp 34), none⟩,
        ⟨some 4, .mv (.tmp 35), none⟩])
      (.reg [⟨some 36, .mv (.tmp 5), none⟩,
        ⟨some 37, .fadr 1 (.tmp 1), none⟩,
        ⟨some 38, .load false 1 (.tmp 37), none⟩,
        ⟨some 39, .mv (.tmp 6), none⟩,
        ⟨some 40, .iadS 2 (.tmp 38) (.tmp 39), none⟩,
        ⟨some 41, .load true 2 (.tmp 40), none⟩,
        ⟨some 42, .bsl 2 [(.tmp 41)], none⟩,
        ⟨some 43, .app 2 16 (.tmp 36) (.tmp 42), none⟩,
        ⟨some 5, .mv (.tmp 43), none⟩]))))
    (.reg [⟨some 16, .mv (.tmp 6), none⟩,
      ⟨some 17, .bin .add (.tmp 16) (.cst (.int .i64 1)), none⟩,
      ⟨some 6, .mv (.tmp 17), none⟩]))))))
  (.seq (.reg [⟨some 44, .mv (.tmp 5), none⟩,
    ⟨some 45, .fadr 1 (.tmp 1), none⟩,
    ⟨none, .store 1 (.tmp 45) (.tmp 44), none⟩])
  (.seq (.reg [⟨some 46, .load true 2 (.tmp 1), none⟩,
    ⟨some 47, .mv (.tmp 4), none⟩,
    ⟨none, .store 2 (.tmp 2) (.tmp 46), none⟩,
    ⟨some 3, .mv (.tmp 47), none⟩])
  .ret)))))))
theorem p_caravelref16_Tick : Try.f16.body.bind (compC Try.prog 48) = some c_caravelref16_Tick := by kernel_rfl
theorem r_caravelref16_Tick : tellR Try.prog Try.f16.results.toList = some [.c 2 true 2, .t 3] := by kernel_rfl

/-- caravel/caravelref16.Like: 2 in. -/
def c_caravelref16_Like : ACode :=
  (.seq (.reg [⟨some 2, .box (.tmp 0), none⟩,
    ⟨some 3, .box (.tmp 1), none⟩,
    ⟨some 4, .mv (.cst (.bool false)), none⟩])
  (.seq (.seq (.reg [⟨some 10, .fadr 0 (.tmp 3), none⟩,
    ⟨some 11, .load false 1 (.tmp 10), none⟩,
    ⟨some 12, .fadr 0 (.tmp 2), none⟩,
    ⟨some 13, .load false 1 (.tmp 12), none⟩,
    ⟨some 14, .bin .neq (.tmp 11) (.tmp 13), none⟩,
    ⟨some 15, .mv (.tmp 14), none⟩,
    ⟨some 16, .fadr 1 (.tmp 3), some (15, false)⟩,
    ⟨some 17, .load false 1 (.tmp 16), some (15, false)⟩,
    ⟨some 18, .lenV (.tmp 17), some (15, false)⟩,
    ⟨some 19, .fadr 1 (.tmp 2), some (15, false)⟩,
    ⟨some 20, .load false 1 (.tmp 19), some (15, false)⟩,
    ⟨some 21, .lenV (.tmp 20), some (15, false)⟩,
    ⟨some 22, .bin .neq (.tmp 18) (.tmp 21), some (15, false)⟩,
    ⟨some 23, .pick (.tmp 15) (.cst (.bool true)) (.tmp 22), none⟩])
  (.cond (.tmp 23)
    (.seq (.reg [⟨some 4, .mv (.cst (.bool false)), none⟩])
    .ret)
    .skip))
  (.seq (.reg [⟨some 5, .mv (.cst .nil), none⟩])
  (.seq (.seq (.reg [⟨some 6, .mv (.cst (.int .i64 0)), none⟩])
  (.block 0 (.loop
    (.seq (.seq (.reg [⟨some 24, .mv (.tmp 6), none⟩,
      ⟨some 25, .fadr 1 (.tmp 2), none⟩,
      ⟨some 26, .load false 1 (.tmp 25), none⟩,
      ⟨some 27, .lenV (.tmp 26), none⟩,
      ⟨some 28, .bin .lss (.tmp 24) (.tmp 27), none⟩])
    (.cond (.tmp 28)
      .skip
      (.exit 0)))
    (.seq (.block 1 (.seq (.reg [⟨some 31, .mv (.tmp 5), none⟩,
      ⟨some 32, .lenV (.tmp 31), none⟩,
      ⟨some 7, .mv (.tmp 32), none⟩])
    (.seq (.block 2 (.loop
      (.seq (.seq (.reg [⟨some 33, .mv (.tmp 7), none⟩,
        ⟨some 34, .bin .gtr (.tmp 33) (.cst (.int .i64 0)), none⟩,
        ⟨some 35, .mv (.tmp 34), none⟩,
        ⟨some 36, .mv (.tmp 5), some (35, true)⟩,
        ⟨some 37, .mv (.tmp 7), some (35, true)⟩,
        ⟨some 38, .bin .sub (.tmp 37) (.cst (.int .i64 1)), some (35, true)⟩,
        ⟨some 39, .iadS 2 (.tmp 36) (.tmp 38), some (35, true)⟩,
        ⟨some 40, .fadr 1 (.tmp 39), some (35, true)⟩,
        ⟨some 41, .load false 1 (.tmp 40), some (35, true)⟩,
        ⟨some 42, .fadr 1 (.tmp 2), some (35, true)⟩,
        ⟨some 43, .load false 1 (.tmp 42), some (35, true)⟩,
        ⟨some 44, .mv (.tmp 6), some (35, true)⟩,
        ⟨some 45, .iadS 2 (.tmp 43) (.tmp 44), some (35, true)⟩,
        ⟨some 46, .fadr 1 (.tmp 45), some (35, true)⟩,
        ⟨some 47, .load false 1 (.tmp 46), some (35, true)⟩,
        ⟨some 48, .bin .gtr (.tmp 41) (.tmp 47), some (35, true)⟩,
        ⟨some 49, .pick (.tmp 35) (.tmp 48) (.cst (.bool false)), none⟩])
      (.cond (.tmp 49)
        .skip
        (.exit 2)))
      (.block 3 (.reg [⟨some 50, .mv (.tmp 7), none⟩,
        ⟨some 51, .bin .sub (.tmp 50) (.cst (.int .i64 1)), none⟩,
        ⟨some 7, .mv (.tmp 51), none⟩])))))
    (.seq (.reg [⟨some 52, .fadr 1 (.tmp 2), none⟩,
      ⟨some 53, .load false 1 (.tmp 52), none⟩,
      ⟨some 54, .mv (.tmp 6), none⟩,
      ⟨some 55, .iadS 2 (.tmp 53) (.tmp 54), none⟩,
      ⟨some 56, .load true 2 (.tmp 55), none⟩,
      ⟨some 57, .bsl 2 [(.tmp 56)], none⟩,
      ⟨some 58, .mv (.tmp 5), none⟩,
      ⟨some 59, .mv (.tmp 7), none⟩,
      ⟨some 60, .slS 2 (.tmp 58) (some (.tmp 59)) none none, none⟩,
      ⟨some 61, .app 2 16 (.tmp 57) (.tmp 60), none⟩,
      ⟨some 8, .mv (.tmp 61), none⟩])
    (.reg [⟨some 62, .bsl 2 [], none⟩,
      ⟨some 63, .mv (.tmp 5), none⟩,
      ⟨some 64, .mv (.tmp 7), none⟩,
      ⟨some 65, .slS 2 (.tmp 63) none (some (.tmp 64)) none, none⟩,
      ⟨some 66, .app 2 16 (.tmp 62) (.tmp 65), none⟩,
      ⟨some 67, .mv (.tmp 8), none⟩,
      ⟨some 68, .app 2 16 (.tmp 66) (.tmp 67), none⟩,
      ⟨some 5, .mv (.tmp 68), none⟩])))))
    (.reg [⟨some 29, .mv (.tmp 6), none⟩,
      ⟨some 30, .bin .add (.tmp 29) (.cst (.int .i64 1)), none⟩,
      ⟨some 6, .mv (.tmp 30), none⟩]))))))
  (.seq (.seq (.reg [⟨some 9, .mv (.cst (.int .i64 0)), none⟩])
  (.block 4 (.loop
    (.seq (.seq (.reg [⟨some 69, .mv (.tmp 9), none⟩,
      ⟨some 70, .mv (.tmp 5), none⟩,
      ⟨some 71, .lenV (.tmp 70), none⟩,
      ⟨some 72, .bin .lss (.tmp 69) (.tmp 71), none⟩])
    (.cond (.tmp 72)
      .skip
      (.exit 4)))
    (.seq (.block 5 (.seq (.reg [⟨some 75, .mv (.tmp 5), none⟩,
      ⟨some 76, .mv (.tmp 9), none⟩,
      ⟨some 77, .iadS 2 (.tmp 75) (.tmp 76), none⟩,
      ⟨some 78, .load true 2 (.tmp 77), none⟩,
      ⟨some 79, .fadr 1 (.tmp 3), none⟩,
      ⟨some 80, .load false 1 (.tmp 79), none⟩,
      ⟨some 81, .mv (.tmp 9), none⟩,
      ⟨some 82, .iadS 2 (.tmp 80) (.tmp 81), none⟩,
      ⟨some 83, .load true 2 (.tmp 82), none⟩,
      ⟨some 84, .eqA true [0, 0] (.tmp 78) (.tmp 83), none⟩])
    (.cond (.tmp 84)
      (.seq (.reg [⟨some 4, .mv (.cst (.bool false)), none⟩])
      .ret)
      .skip)))
    (.reg [⟨some 73, .mv (.tmp 9), none⟩,
      ⟨some 74, .bin .add (.tmp 73) (.cst (.int .i64 1)), none⟩,
      ⟨some 9, .mv (.tmp 74), none⟩]))))))
  (.seq (.reg [⟨some 4, .mv (.cst (.bool true)), none⟩])
  .ret))))))
theorem p_caravelref16_Like : Try.f17.body.bind (compC Try.prog 85) = some c_caravelref16_Like := by kernel_rfl
theorem r_caravelref16_Like : tellR Try.prog Try.f17.results.toList = some [.t 4] := by kernel_rfl

/-- caravel/wheel.Due: 2 in. -/
def c_wheel_Due : ACode :=
  (.seq (.reg [⟨some 2, .box (.tmp 0), none⟩,
    ⟨some 4, .mv (.cst (.int .u64 0)), none⟩,
    ⟨some 5, .mv (.cst (.bool false)), none⟩])
  (.seq (.seq (.reg [⟨some 8, .fadr 1 (.tmp 2), none⟩,
    ⟨some 9, .load false 1 (.tmp 8), none⟩,
    ⟨some 10, .lenV (.tmp 9), none⟩,
    ⟨some 11, .mv (.cst (.int .i64 0)), none⟩])
  (.block 0 (.loop
    (.seq (.reg [⟨some 12, .bin .lss (.tmp 11) (.tmp 10), none⟩])
    (.seq (.cond (.tmp 12)
      .skip
      (.exit 0))
    (.seq (.block 1 (.seq (.reg [⟨some 13, .iadS 2 (.tmp 9) (.tmp 11), none⟩,
      ⟨some 14, .load true 2 (.tmp 13), none⟩,
      ⟨some 7, .newb [(.int .i64 0), (.int .u64 0)], none⟩,
      ⟨none, .store 2 (.tmp 7) (.tmp 14), none⟩])
    (.seq (.reg [⟨some 15, .fadr 0 (.tmp 7), none⟩,
      ⟨some 16, .load false 1 (.tmp 15), none⟩,
      ⟨some 17, .mv (.tmp 1), none⟩,
      ⟨some 18, .bin .eql (.tmp 16) (.tmp 17), none⟩])
    (.cond (.tmp 18)
      (.seq (.reg [⟨some 19, .fadr 1 (.tmp 7), none⟩,
        ⟨some 20, .load false 1 (.tmp 19), none⟩,
        ⟨some 4, .mv (.tmp 20), none⟩,
        ⟨some 5, .mv (.cst (.bool true)), none⟩])
      .ret)
      .skip))))
    (.reg [⟨some 21, .bin .add (.tmp 11) (.cst (.int .i64 1)), none⟩,
      ⟨some 11, .mv (.tmp 21), none⟩])))))))
  (.seq (.reg [⟨some 4, .mv (.cst (.int .u64 0)), none⟩,
    ⟨some 5, .mv (.cst (.bool false)), none⟩])
  .ret)))
theorem p_wheel_Due : Try.f18.body.bind (compC Try.prog 22) = some c_wheel_Due := by kernel_rfl
theorem r_wheel_Due : tellR Try.prog Try.f18.results.toList = some [.t 4, .t 5] := by kernel_rfl

/-- slices.DeleteFunc[[]caravel/api.Timer,caravel/api.Timer]: 2 in. -/
def c_slices_DeleteFunc__caravel_api_Timer_caravel_api_Timer : ACode :=
  (.seq (.reg [⟨some 4, .mv (.cst .nil), none⟩])
  (.seq (.reg [⟨some 8, .mv (.tmp 0), none⟩,
    ⟨some 9, .mv (.tmp 1), none⟩,
    ⟨some 10, .call 26 [(.tmp 8), (.tmp 9)], none⟩,
    ⟨some 5, .mv (.tmp 10), none⟩])
  (.seq (.seq (.reg [⟨some 11, .mv (.tmp 5), none⟩,
    ⟨some 12, .bin .eql (.tmp 11) (.cst (.int .i64 (-1))), none⟩])
  (.cond (.tmp 12)
    (.seq (.reg [⟨some 13, .mv (.tmp 0), none⟩,
      ⟨some 4, .mv (.tmp 13), none⟩])
    .ret)
    .skip))
  (.seq (.seq (.reg [⟨some 14, .mv (.tmp 5), none⟩,
    ⟨some 15, .bin .add (.tmp 14) (.cst (.int .i64 1)), none⟩,
    ⟨some 6, .mv (.tmp 15), none⟩])
  (.block 0 (.loop
    (.seq (.seq (.reg [⟨some 16, .mv (.tmp 6), none⟩,
      ⟨some 17, .mv (.tmp 0), none⟩,
      ⟨some 18, .lenV (.tmp 17), none⟩,
      ⟨some 19, .bin .lss (.tmp 16) (.tmp 18), none⟩])
    (.cond (.tmp 19)
      .skip
      (.exit 0)))
    (.seq (.block 1 (.seq (.reg [⟨some 22, .mv (.tmp 0), none⟩,
      ⟨some 23, .mv (.tmp 6), none⟩,
      ⟨some 24, .iadS 2 (.tmp 22) (.tmp 23), none⟩,
      ⟨some 25, .load true 2 (.tmp 24), none⟩,
      ⟨some 7, .newb [(.int .i64 0), (.int .u64 0)], none⟩,
      ⟨none, .store 2 (.tmp 7) (.tmp 25), none⟩])
    (.seq (.reg [⟨some 26, .mv (.tmp 1), none⟩,
      ⟨some 27, .load true 2 (.tmp 7), none⟩,
      ⟨some 28, .callv (.tmp 26) [(.tmp 27)], none⟩,
      ⟨some 29, .not (.tmp 28), none⟩])
    (.cond (.tmp 29)
      (.seq (.reg [⟨some 30, .mv (.tmp 0), none⟩,
        ⟨some 31, .mv (.tmp 5), none⟩,
        ⟨some 32, .load true 2 (.tmp 7), none⟩,
        ⟨some 33, .iadS 2 (.tmp 30) (.tmp 31), none⟩,
        ⟨none, .store 2 (.tmp 33) (.tmp 32), none⟩])
      (.reg [⟨some 34, .mv (.tmp 5), none⟩,
        ⟨some 35, .bin .add (.tmp 34) (.cst (.int .i64 1)), none⟩,
        ⟨some 5, .mv (.tmp 35), none⟩]))
      .skip))))
    (.reg [⟨some 20, .mv (.tmp 6), none⟩,
      ⟨some 21, .bin .add (.tmp 20) (.cst (.int .i64 1)), none⟩,
      ⟨some 6, .mv (.tmp 21), none⟩]))))))
  (.seq (.reg [⟨some 36, .mv (.tmp 0), none⟩,
    ⟨some 37, .mv (.tmp 5), none⟩,
    ⟨some 38, .slS 2 (.tmp 36) (some (.tmp 37)) none none, none⟩,
    ⟨none, .clr 2 (.agg [(.int .i64 0), (.int .u64 0)]) (.tmp 38), none⟩])
  (.seq (.reg [⟨some 39, .mv (.tmp 0), none⟩,
    ⟨some 40, .mv (.tmp 5), none⟩,
    ⟨some 41, .slS 2 (.tmp 39) none (some (.tmp 40)) none, none⟩,
    ⟨some 4, .mv (.tmp 41), none⟩])
  .ret))))))
theorem p_slices_DeleteFunc__caravel_api_Timer_caravel_api_Timer : Try.f19.body.bind (compC Try.prog 42) = some c_slices_DeleteFunc__caravel_api_Timer_caravel_api_Timer := by kernel_rfl
theorem r_slices_DeleteFunc__caravel_api_Timer_caravel_api_Timer : tellR Try.prog Try.f19.results.toList = some [.t 4] := by kernel_rfl

/-- caravel/wheel.Stop$1: 2 in. -/
def c_wheel_Stop_1 : ACode :=
  (.seq (.reg [⟨some 2, .box (.tmp 0), none⟩,
    ⟨some 3, .mv (.cst (.bool false)), none⟩])
  (.seq (.reg [⟨some 4, .fadr 0 (.tmp 2), none⟩,
    ⟨some 5, .load false 1 (.tmp 4), none⟩,
    ⟨some 6, .load false 1 (.tmp 1), none⟩,
    ⟨some 7, .bin .eql (.tmp 5) (.tmp 6), none⟩,
    ⟨some 3, .mv (.tmp 7), none⟩])
  .ret))
theorem p_wheel_Stop_1 : Try.f20.body.bind (compC Try.prog 8) = some c_wheel_Stop_1 := by kernel_rfl
theorem r_wheel_Stop_1 : tellR Try.prog Try.f20.results.toList = some [.t 3] := by kernel_rfl

/-- slices.Insert[[]caravel/api.Timer,caravel/api.Timer]: 3 in. -/
def c_slices_Insert__caravel_api_Timer_caravel_api_Timer : ACode :=
  (.seq (.reg [⟨some 6, .mv (.cst .nil), none⟩])
  (.seq (.reg [⟨some 10, .mv (.tmp 0), none⟩,
    ⟨some 11, .mv (.tmp 1), none⟩,
    ⟨some 12, .slS 2 (.tmp 10) (some (.tmp 11)) none none, none⟩])
  (.seq (.reg [⟨some 13, .mv (.tmp 2), none⟩,
    ⟨some 14, .lenV (.tmp 13), none⟩,
    ⟨some 7, .mv (.tmp 14), none⟩])
  (.seq (.seq (.reg [⟨some 15, .mv (.tmp 7), none⟩,
    ⟨some 16, .bin .eql (.tmp 15) (.cst (.int .i64 0)), none⟩])
  (.cond (.tmp 16)
    (.seq (.reg [⟨some 17, .mv (.tmp 0), none⟩,
      ⟨some 6, .mv (.tmp 17), none⟩])
    .ret)
    .skip))
  (.seq (.reg [⟨some 18, .mv (.tmp 0), none⟩,
    ⟨some 19, .lenV (.tmp 18), none⟩,
    ⟨some 8, .mv (.tmp 19), none⟩])
  (.seq (.seq (.reg [⟨some 20, .mv (.tmp 1), none⟩,
    ⟨some 21, .mv (.tmp 8), none⟩,
    ⟨some 22, .bin .eql (.tmp 20) (.tmp 21), none⟩])
  (.cond (.tmp 22)
    (.seq (.reg [⟨some 23, .mv (.tmp 0), none⟩,
      ⟨some 24, .mv (.tmp 2), none⟩,
      ⟨some 25, .app 2 16 (.tmp 23) (.tmp 24), none⟩,
      ⟨some 6, .mv (.tmp 25), none⟩])
    .ret)
    .skip))
  (.seq (.seq (.reg [⟨some 26, .mv (.tmp 8), none⟩,
    ⟨some 27, .mv (.tmp 7), none⟩,
    ⟨some 28, .bin .add (.tmp 26) (.tmp 27), none⟩,
    ⟨some 29, .mv (.tmp 0), none⟩,
    ⟨some 30, .capV (.tmp 29), none⟩,
    ⟨some 31, .bin .gtr (.tmp 28) (.tmp 30), none⟩])
  (.cond (.tmp 31)
    (.seq (.reg [⟨some 32, .mv (.tmp 0), none⟩,
      ⟨some 33, .mv (.tmp 1), none⟩,
      ⟨some 34, .slS 2 (.tmp 32) none (some (.tmp 33)) none, none⟩,
      ⟨some 35, .mv (.tmp 8), none⟩,
      ⟨some 36, .mv (.tmp 7), none⟩,
      ⟨some 37, .bin .add (.tmp 35) (.tmp 36), none⟩,
      ⟨some 38, .mv (.tmp 1), none⟩,
      ⟨some 39, .bin .sub (.tmp 37) (.tmp 38), none⟩,
      ⟨some 40, .appz 2 16 (.agg [(.int .i64 0), (.int .u64 0)]) (.tmp 34) (.tmp 39), none⟩,
      ⟨some 9, .mv (.tmp 40), none⟩])
    (.seq (.reg [⟨some 41, .mv (.tmp 9), none⟩,
      ⟨some 42, .mv (.tmp 1), none⟩,
      ⟨some 43, .slS 2 (.tmp 41) (some (.tmp 42)) none none, none⟩,
      ⟨some 44, .mv (.tmp 2), none⟩,
      ⟨some 45, .cpy 2 (.tmp 43) (.tmp 44), none⟩])
    (.seq (.reg [⟨some 46, .mv (.tmp 9), none⟩,
      ⟨some 47, .mv (.tmp 1), none⟩,
      ⟨some 48, .mv (.tmp 7), none⟩,
      ⟨some 49, .bin .add (.tmp 47) (.tmp 48), none⟩,
      ⟨some 50, .slS 2 (.tmp 46) (some (.tmp 49)) none none, none⟩,
      ⟨some 51, .mv (.tmp 0), none⟩,
      ⟨some 52, .mv (.tmp 1), none⟩,
      ⟨some 53, .slS 2 (.tmp 51) (some (.tmp 52)) none none, none⟩,
      ⟨some 54, .cpy 2 (.tmp 50) (.tmp 53), none⟩])
    (.seq (.reg [⟨some 55, .mv (.tmp 9), none⟩,
      ⟨some 6, .mv (.tmp 55), none⟩])
    .ret))))
    .skip))
  (.seq (.reg [⟨some 56, .mv (.tmp 0), none⟩,
    ⟨some 57, .mv (.tmp 8), none⟩,
    ⟨some 58, .mv (.tmp 7), none⟩,
    ⟨some 59, .bin .add (.tmp 57) (.tmp 58), none⟩,
    ⟨some 60, .slS 2 (.tmp 56) none (some (.tmp 59)) none, none⟩,
    ⟨some 0, .mv (.tmp 60), none⟩])
  (.seq (.seq (.reg [⟨some 61, .mv (.tmp 2), none⟩,
    ⟨some 62, .mv (.tmp 0), none⟩,
    ⟨some 63, .mv (.tmp 1), none⟩,
    ⟨some 64, .mv (.tmp 7), none⟩,
    ⟨some 65, .bin .add (.tmp 63) (.tmp 64), none⟩,
    ⟨some 66, .slS 2 (.tmp 62) (some (.tmp 65)) none none, none⟩,
    ⟨some 67, .call 27 [(.tmp 61), (.tmp 66)], none⟩,
    ⟨some 68, .not (.tmp 67), none⟩])
  (.cond (.tmp 68)
    (.seq (.reg [⟨some 69, .mv (.tmp 0), none⟩,
      ⟨some 70, .mv (.tmp 1), none⟩,
      ⟨some 71, .mv (.tmp 7), none⟩,
      ⟨some 72, .bin .add (.tmp 70) (.tmp 71), none⟩,
      ⟨some 73, .slS 2 (.tmp 69) (some (.tmp 72)) none none, none⟩,
      ⟨some 74, .mv (.tmp 0), none⟩,
      ⟨some 75, .mv (.tmp 1), none⟩,
      ⟨some 76, .slS 2 (.tmp 74) (some (.tmp 75)) none none, none⟩,
      ⟨some 77, .cpy 2 (.tmp 73) (.tmp 76), none⟩])
    (.seq (.reg [⟨some 78, .mv (.tmp 0), none⟩,
      ⟨some 79, .mv (.tmp 1), none⟩,
      ⟨some 80, .slS 2 (.tmp 78) (some (.tmp 79)) none none, none⟩,
      ⟨some 81, .mv (.tmp 2), none⟩,
      ⟨some 82, .cpy 2 (.tmp 80) (.tmp 81), none⟩])
    (.seq (.reg [⟨some 83, .mv (.tmp 0), none⟩,
      ⟨some 6, .mv (.tmp 83), none⟩])
    .ret)))
    .skip))
  (.seq (.reg [⟨some 84, .mv (.tmp 0), none⟩,
    ⟨some 85, .mv (.tmp 8), none⟩,
    ⟨some 86, .slS 2 (.tmp 84) (some (.tmp 85)) none none, none⟩,
    ⟨some 87, .mv (.tmp 2), none⟩,
    ⟨some 88, .cpy 2 (.tmp 86) (.tmp 87), none⟩])
  (.seq (.reg [⟨some 89, .mv (.tmp 0), none⟩,
    ⟨some 90, .mv (.tmp 1), none⟩,
    ⟨some 91, .slS 2 (.tmp 89) (some (.tmp 90)) none none, none⟩,
    ⟨some 92, .mv (.tmp 7), none⟩,
    ⟨some 93, .call 28 [(.tmp 91), (.tmp 92)], none⟩])
  (.seq (.reg [⟨some 94, .mv (.tmp 0), none⟩,
    ⟨some 6, .mv (.tmp 94), none⟩])
  .ret))))))))))))
theorem p_slices_Insert__caravel_api_Timer_caravel_api_Timer : Try.f21.body.bind (compC Try.prog 95) = some c_slices_Insert__caravel_api_Timer_caravel_api_Timer := by kernel_rfl
theorem r_slices_Insert__caravel_api_Timer_caravel_api_Timer : tellR Try.prog Try.f21.results.toList = some [.t 6] := by kernel_rfl

/-- slices.ContainsFunc[[]caravel/api.Timer,caravel/api.Timer]: 2 in. -/
def c_slices_ContainsFunc__caravel_api_Timer_caravel_api_Timer : ACode :=
  (.seq (.reg [⟨some 4, .mv (.cst (.bool false)), none⟩])
  (.seq (.reg [⟨some 5, .mv (.tmp 0), none⟩,
    ⟨some 6, .mv (.tmp 1), none⟩,
    ⟨some 7, .call 26 [(.tmp 5), (.tmp 6)], none⟩,
    ⟨some 8, .bin .geq (.tmp 7) (.cst (.int .i64 0)), none⟩,
    ⟨some 4, .mv (.tmp 8), none⟩])
  .ret))
theorem p_slices_ContainsFunc__caravel_api_Timer_caravel_api_Timer : Try.f22.body.bind (compC Try.prog 9) = some c_slices_ContainsFunc__caravel_api_Timer_caravel_api_Timer := by kernel_rfl
theorem r_slices_ContainsFunc__caravel_api_Timer_caravel_api_Timer : tellR Try.prog Try.f22.results.toList = some [.t 4] := by kernel_rfl

/-- caravel/wheel.Right$1: 2 in. -/
def c_wheel_Right_1 : ACode :=
  (.seq (.reg [⟨some 2, .box (.tmp 0), none⟩,
    ⟨some 3, .mv (.cst (.bool false)), none⟩])
  (.seq (.reg [⟨some 4, .fadr 0 (.tmp 2), none⟩,
    ⟨some 5, .load false 1 (.tmp 4), none⟩,
    ⟨some 6, .fadr 0 (.tmp 1), none⟩,
    ⟨some 7, .load false 1 (.tmp 6), none⟩,
    ⟨some 8, .bin .eql (.tmp 5) (.tmp 7), none⟩,
    ⟨some 3, .mv (.tmp 8), none⟩])
  .ret))
theorem p_wheel_Right_1 : Try.f23.body.bind (compC Try.prog 9) = some c_wheel_Right_1 := by kernel_rfl
theorem r_wheel_Right_1 : tellR Try.prog Try.f23.results.toList = some [.t 3] := by kernel_rfl

/-- slices.Clone[[]caravel/api.Timer,caravel/api.Timer]: 1 in. -/
def c_slices_Clone__caravel_api_Timer_caravel_api_Timer : ACode :=
  (.seq (.reg [⟨some 2, .mv (.cst .nil), none⟩])
  (.seq (.seq (.reg [⟨some 3, .mv (.tmp 0), none⟩,
    ⟨some 4, .isN false (.tmp 3), none⟩])
  (.cond (.tmp 4)
    (.seq (.reg [⟨some 2, .mv (.cst .nil), none⟩])
    .ret)
    .skip))
  (.seq (.reg [⟨some 5, .bsl 2 [], none⟩,
    ⟨some 6, .mv (.tmp 0), none⟩,
    ⟨some 7, .app 2 16 (.tmp 5) (.tmp 6), none⟩,
    ⟨some 2, .mv (.tmp 7), none⟩])
  .ret)))
theorem p_slices_Clone__caravel_api_Timer_caravel_api_Timer : Try.f24.body.bind (compC Try.prog 8) = some c_slices_Clone__caravel_api_Timer_caravel_api_Timer := by kernel_rfl
theorem r_slices_Clone__caravel_api_Timer_caravel_api_Timer : tellR Try.prog Try.f24.results.toList = some [.t 2] := by kernel_rfl

/-- caravel/caravelref16.without: 2 in. -/
def c_caravelref16_without : ACode :=
  (.seq (.reg [⟨some 4, .mv (.cst .nil), none⟩])
  (.seq (.reg [⟨some 5, .mv (.cst .nil), none⟩])
  (.seq (.seq (.reg [⟨some 6, .mv (.cst (.int .i64 0)), none⟩])
  (.block 0 (.loop
    (.seq (.seq (.reg [⟨some 7, .mv (.tmp 6), none⟩,
      ⟨some 8, .mv (.tmp 0), none⟩,
      ⟨some 9, .lenV (.tmp 8), none⟩,
      ⟨some 10, .bin .lss (.tmp 7) (.tmp 9), none⟩])
    (.cond (.tmp 10)
      .skip
      (.exit 0)))
    (.seq (.block 1 (.seq (.reg [⟨some 13, .mv (.tmp 0), none⟩,
      ⟨some 14, .mv (.tmp 6), none⟩,
      ⟨some 15, .iadS 2 (.tmp 13) (.tmp 14), none⟩,
      ⟨some 16, .fadr 0 (.tmp 15), none⟩,
      ⟨some 17, .load false 1 (.tmp 16), none⟩,
      ⟨some 18, .mv (.tmp 1), none⟩,
      ⟨some 19, .bin .neq (.tmp 17) (.tmp 18), none⟩])
    (.cond (.tmp 19)
      (.reg [⟨some 20, .mv (.tmp 5), none⟩,
        ⟨some 21, .mv (.tmp 0), none⟩,
        ⟨some 22, .mv (.tmp 6), none⟩,
        ⟨some 23, .iadS 2 (.tmp 21) (.tmp 22), none⟩,
        ⟨some 24, .load true 2 (.tmp 23), none⟩,
        ⟨some 25, .bsl 2 [(.tmp 24)], none⟩,
        ⟨some 26, .app 2 16 (.tmp 20) (.tmp 25), none⟩,
        ⟨some 5, .mv (.tmp 26), none⟩])
      .skip)))
    (.reg [⟨some 11, .mv (.tmp 6), none⟩,
      ⟨some 12, .bin .add (.tmp 11) (.cst (.int .i64 1)), none⟩,
      ⟨some 6, .mv (.tmp 12), none⟩]))))))
  (.seq (.reg [⟨some 27, .mv (.tmp 5), none⟩,
    ⟨some 4, .mv (.tmp 27), none⟩])
  .ret))))
theorem p_caravelref16_without : Try.f25.body.bind (compC Try.prog 28) = some c_caravelref16_without := by kernel_rfl
theorem r_caravelref16_without : tellR Try.prog Try.f25.results.toList = some [.t 4] := by kernel_rfl

/-- slices.IndexFunc[[]caravel/api.Timer,caravel/api.Timer]: 2 in. -/
def c_slices_IndexFunc__caravel_api_Timer_caravel_api_Timer : ACode :=
  (.seq (.reg [⟨some 4, .mv (.cst (.int .i64 0)), none⟩])
  (.seq (.seq (.reg [⟨some 6, .mv (.tmp 0), none⟩,
    ⟨some 7, .lenV (.tmp 6), none⟩,
    ⟨some 8, .mv (.cst (.int .i64 0)), none⟩])
  (.block 0 (.loop
    (.seq (.reg [⟨some 9, .bin .lss (.tmp 8) (.tmp 7), none⟩])
    (.seq (.cond (.tmp 9)
      .skip
      (.exit 0))
    (.seq (.block 1 (.seq (.reg [⟨some 10, .mv (.tmp 8), none⟩,
      ⟨some 5, .mv (.tmp 10), none⟩])
    (.seq (.reg [⟨some 11, .mv (.tmp 1), none⟩,
      ⟨some 12, .mv (.tmp 0), none⟩,
      ⟨some 13, .mv (.tmp 5), none⟩,
      ⟨some 14, .iadS 2 (.tmp 12) (.tmp 13), none⟩,
      ⟨some 15, .load true 2 (.tmp 14), none⟩,
      ⟨some 16, .callv (.tmp 11) [(.tmp 15)], none⟩])
    (.cond (.tmp 16)
      (.seq (.reg [⟨some 17, .mv (.tmp 5), none⟩,
        ⟨some 4, .mv (.tmp 17), none⟩])
      .ret)
      .skip))))
    (.reg [⟨some 18, .bin .add (.tmp 8) (.cst (.int .i64 1)), none⟩,
      ⟨some 8, .mv (.tmp 18), none⟩])))))))
  (.seq (.reg [⟨some 4, .mv (.cst (.int .i64 (-1))), none⟩])
  .ret)))
theorem p_slices_IndexFunc__caravel_api_Timer_caravel_api_Timer : Try.f26.body.bind (compC Try.prog 19) = some c_slices_IndexFunc__caravel_api_Timer_caravel_api_Timer := by kernel_rfl
theorem r_slices_IndexFunc__caravel_api_Timer_caravel_api_Timer : tellR Try.prog Try.f26.results.toList = some [.t 4] := by kernel_rfl

/-- slices.rotateRight[caravel/api.Timer]: 2 in. -/
def c_slices_rotateRight_caravel_api_Timer : ACode :=
  (.reg [⟨some 4, .mv (.tmp 0), none⟩,
    ⟨some 5, .mv (.tmp 0), none⟩,
    ⟨some 6, .lenV (.tmp 5), none⟩,
    ⟨some 7, .mv (.tmp 1), none⟩,
    ⟨some 8, .bin .sub (.tmp 6) (.tmp 7), none⟩,
    ⟨some 9, .call 29 [(.tmp 4), (.tmp 8)], none⟩])
theorem p_slices_rotateRight_caravel_api_Timer : Try.f28.body.bind (compC Try.prog 10) = some c_slices_rotateRight_caravel_api_Timer := by kernel_rfl
theorem r_slices_rotateRight_caravel_api_Timer : tellR Try.prog Try.f28.results.toList = some [] := by kernel_rfl

/-- slices.rotateLeft[caravel/api.Timer]: 2 in. -/
def c_slices_rotateLeft_caravel_api_Timer : ACode :=
  (.seq (.reg [⟨some 4, .mv (.tmp 0), none⟩,
    ⟨some 5, .mv (.tmp 1), none⟩,
    ⟨some 6, .slS 2 (.tmp 4) none (some (.tmp 5)) none, none⟩,
    ⟨some 7, .call 30 [(.tmp 6)], none⟩])
  (.seq (.reg [⟨some 8, .mv (.tmp 0), none⟩,
    ⟨some 9, .mv (.tmp 1), none⟩,
    ⟨some 10, .slS 2 (.tmp 8) (some (.tmp 9)) none none, none⟩,
    ⟨some 11, .call 30 [(.tmp 10)], none⟩])
  (.reg [⟨some 12, .mv (.tmp 0), none⟩,
    ⟨some 13, .call 30 [(.tmp 12)], none⟩])))
theorem p_slices_rotateLeft_caravel_api_Timer : Try.f29.body.bind (compC Try.prog 14) = some c_slices_rotateLeft_caravel_api_Timer := by kernel_rfl
theorem r_slices_rotateLeft_caravel_api_Timer : tellR Try.prog Try.f29.results.toList = some [] := by kernel_rfl

/-- slices.Reverse[[]caravel/api.Timer,caravel/api.Timer]: 1 in. -/
def c_slices_Reverse__caravel_api_Timer_caravel_api_Timer : ACode :=
  (.seq (.reg [⟨some 4, .mv (.tmp 0), none⟩,
    ⟨some 5, .lenV (.tmp 4), none⟩,
    ⟨some 6, .bin .sub (.tmp 5) (.cst (.int .i64 1)), none⟩,
    ⟨some 2, .mv (.cst (.int .i64 0)), none⟩,
    ⟨some 3, .mv (.tmp 6), none⟩])
  (.block 0 (.loop
    (.seq (.seq (.reg [⟨some 7, .mv (.tmp 2), none⟩,
      ⟨some 8, .mv (.tmp 3), none⟩,
      ⟨some 9, .bin .lss (.tmp 7) (.tmp 8), none⟩])
    (.cond (.tmp 9)
      .skip
      (.exit 0)))
    (.seq (.block 1 (.reg [⟨some 14, .mv (.tmp 0), none⟩,
      ⟨some 15, .mv (.tmp 2), none⟩,
      ⟨some 16, .mv (.tmp 0), none⟩,
      ⟨some 17, .mv (.tmp 3), none⟩,
      ⟨some 18, .mv (.tmp 0), none⟩,
      ⟨some 19, .mv (.tmp 3), none⟩,
      ⟨some 20, .iadS 2 (.tmp 18) (.tmp 19), none⟩,
      ⟨some 21, .load true 2 (.tmp 20), none⟩,
      ⟨some 22, .mv (.tmp 0), none⟩,
      ⟨some 23, .mv (.tmp 2), none⟩,
      ⟨some 24, .iadS 2 (.tmp 22) (.tmp 23), none⟩,
      ⟨some 25, .load true 2 (.tmp 24), none⟩,
      ⟨some 26, .iadS 2 (.tmp 14) (.tmp 15), none⟩,
      ⟨none, .store 2 (.tmp 26) (.tmp 21), none⟩,
      ⟨some 27, .iadS 2 (.tmp 16) (.tmp 17), none⟩,
      ⟨none, .store 2 (.tmp 27) (.tmp 25), none⟩]))
    (.reg [⟨some 10, .mv (.tmp 2), none⟩,
      ⟨some 11, .bin .add (.tmp 10) (.cst (.int .i64 1)), none⟩,
      ⟨some 12, .mv (.tmp 3), none⟩,
      ⟨some 13, .bin .sub (.tmp 12) (.cst (.int .i64 1)), none⟩,
      ⟨some 2, .mv (.tmp 11), none⟩,
      ⟨some 3, .mv (.tmp 13), none⟩]))))))
theorem p_slices_Reverse__caravel_api_Timer_caravel_api_Timer : Try.f30.body.bind (compC Try.prog 28) = some c_slices_Reverse__caravel_api_Timer_caravel_api_Timer := by kernel_rfl
theorem r_slices_Reverse__caravel_api_Timer_caravel_api_Timer : tellR Try.prog Try.f30.results.toList = some [] := by kernel_rfl

end Go.Proofs.Ytbkekpecfgmelaa
