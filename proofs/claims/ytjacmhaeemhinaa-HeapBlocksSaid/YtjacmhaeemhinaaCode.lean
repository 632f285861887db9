/- The program's functions, told as operations on abstract values. -/
import Derived.Test.YtjacmhaeemhinaaAx30
import Derived.Test.YtjacmhaeemhinaaProg
namespace Go.Proofs.Ytjacmhaeemhinaa

/-- caravel/caravellaw10.HeapBlocks: 2 in. -/
def c_caravellaw10_HeapBlocks : ACode :=
  (.seq (.reg [⟨some 4, .mv (.cst (.bool false)), none⟩])
  (.seq (.seq (.reg [⟨some 30, .call 9 [], none⟩,
    ⟨some 31, .not (.tmp 30), none⟩,
    ⟨some 32, .mv (.tmp 31), none⟩,
    ⟨some 33, .mv (.tmp 0), some (32, false)⟩,
    ⟨some 34, .lenV (.tmp 33), some (32, false)⟩,
    ⟨some 35, .bin .gtr (.tmp 34) (.cst (.int .i64 30)), some (32, false)⟩,
    ⟨some 36, .pick (.tmp 32) (.cst (.bool true)) (.tmp 35), none⟩])
  (.cond (.tmp 36)
    (.seq (.reg [⟨some 37, .call 9 [], none⟩,
      ⟨some 4, .mv (.tmp 37), none⟩])
    .ret)
    .skip))
  (.seq (.reg [⟨some 39, .call 11 [(.cst (.int .i64 8))], none⟩,
    ⟨some 38, .mv (.tmp 39), none⟩,
    ⟨some 40, .ext (.tmp 38) 0, none⟩,
    ⟨some 41, .ext (.tmp 38) 1, none⟩,
    ⟨some 5, .newb [.nil, .nil, .nil], none⟩,
    ⟨none, .store 3 (.tmp 5) (.tmp 40), none⟩,
    ⟨some 6, .mv (.tmp 41), none⟩])
  (.seq (.seq (.reg [⟨some 42, .mv (.tmp 6), none⟩,
    ⟨some 43, .bin .neq (.tmp 42) (.cst (.int .i64 0)), none⟩])
  (.cond (.tmp 43)
    (.seq (.reg [⟨some 4, .mv (.cst (.bool false)), none⟩])
    .ret)
    .skip))
  (.seq (.reg [⟨some 44, .callv (.cst (.int .i64 560)) [], none⟩,
    ⟨some 7, .mv (.tmp 44), none⟩])
  (.seq (.seq (.reg [⟨some 45, .mv (.tmp 0), none⟩,
    ⟨some 46, .lenV (.tmp 45), none⟩,
    ⟨some 47, .mv (.cst (.int .i64 0)), none⟩])
  (.block 0 (.loop
    (.seq (.reg [⟨some 48, .bin .lss (.tmp 47) (.tmp 46), none⟩])
    (.seq (.cond (.tmp 48)
      .skip
      (.exit 0))
    (.seq (.block 1 (.seq (.reg [⟨some 49, .mv (.tmp 47), none⟩,
      ⟨some 50, .iadS 1 (.tmp 45) (.tmp 47), none⟩,
      ⟨some 51, .load false 1 (.tmp 50), none⟩,
      ⟨some 8, .mv (.tmp 49), none⟩,
      ⟨some 9, .mv (.tmp 51), none⟩])
    (.seq (.reg [⟨some 52, .mv (.tmp 9), none⟩,
      ⟨some 53, .conv .u64 (.tmp 52), none⟩,
      ⟨some 54, .bin .rem (.tmp 53) (.cst (.int .u64 90)), none⟩,
      ⟨some 55, .conv .i64 (.tmp 54), none⟩,
      ⟨some 56, .bin .add (.cst (.int .i64 1)) (.tmp 55), none⟩,
      ⟨some 9, .mv (.tmp 56), none⟩])
    (.seq (.reg [⟨some 58, .load true 3 (.tmp 5), none⟩,
      ⟨some 59, .mv (.tmp 9), none⟩,
      ⟨some 60, .call 12 [(.tmp 58), (.tmp 59)], none⟩,
      ⟨some 57, .mv (.tmp 60), none⟩,
      ⟨some 61, .ext (.tmp 57) 0, none⟩,
      ⟨some 62, .ext (.tmp 57) 1, none⟩,
      ⟨some 63, .ext (.tmp 57) 2, none⟩,
      ⟨some 10, .newb [.nil, .nil, .nil], none⟩,
      ⟨none, .store 3 (.tmp 10) (.tmp 61), none⟩,
      ⟨some 11, .mv (.tmp 62), none⟩,
      ⟨some 12, .mv (.tmp 63), none⟩])
    (.seq (.seq (.reg [⟨some 64, .mv (.tmp 12), none⟩,
      ⟨some 65, .bin .eql (.tmp 64) (.cst (.int .i64 5)), none⟩])
    (.cond (.tmp 65)
      (.exit 1)
      .skip))
    (.seq (.reg [⟨some 67, .load true 3 (.tmp 10), none⟩,
      ⟨some 68, .mv (.tmp 11), none⟩,
      ⟨some 69, .mv (.tmp 8), none⟩,
      ⟨some 70, .bin .add (.tmp 69) (.cst (.int .i64 1)), none⟩,
      ⟨some 71, .conv .u8 (.tmp 70), none⟩,
      ⟨some 72, .bsl 1 [(.tmp 71)], none⟩,
      ⟨some 73, .call 13 [(.tmp 67), (.tmp 68), (.tmp 72)], none⟩,
      ⟨some 66, .mv (.tmp 73), none⟩,
      ⟨some 74, .ext (.tmp 66) 0, none⟩,
      ⟨some 75, .ext (.tmp 66) 1, none⟩,
      ⟨some 13, .newb [.nil, .nil, .nil], none⟩,
      ⟨none, .store 3 (.tmp 13) (.tmp 74), none⟩,
      ⟨some 14, .mv (.tmp 75), none⟩])
    (.seq (.seq (.reg [⟨some 76, .load true 3 (.tmp 13), none⟩,
      ⟨none, .store 3 (.tmp 5) (.tmp 76), none⟩])
    (.seq (.reg [⟨some 77, .mv (.tmp 12), none⟩,
      ⟨some 78, .bin .neq (.tmp 77) (.cst (.int .i64 0)), none⟩,
      ⟨some 79, .mv (.tmp 78), none⟩,
      ⟨some 80, .mv (.tmp 14), some (79, false)⟩,
      ⟨some 81, .bin .neq (.tmp 80) (.cst (.int .i64 0)), some (79, false)⟩,
      ⟨some 82, .pick (.tmp 79) (.cst (.bool true)) (.tmp 81), none⟩])
    (.cond (.tmp 82)
      (.seq (.reg [⟨some 4, .mv (.cst (.bool false)), none⟩])
      .ret)
      .skip)))
    (.seq (.reg [⟨some 83, .mv (.tmp 7), none⟩,
      ⟨some 84, .mv (.tmp 8), none⟩,
      ⟨some 85, .mv (.tmp 11), none⟩,
      ⟨none, .callv (.cst (.int .i64 561)) [(.tmp 83), (.tmp 84), (.tmp 85)], none⟩])
    (.seq (.seq (.reg [⟨some 86, .mv (.tmp 8), none⟩,
      ⟨some 87, .bin .sub (.tmp 86) (.cst (.int .i64 1)), none⟩,
      ⟨some 88, .mv (.tmp 1), none⟩,
      ⟨some 89, .conv .u64 (.tmp 88), none⟩,
      ⟨some 90, .bin .rem (.tmp 89) (.cst (.int .u64 3)), none⟩,
      ⟨some 91, .conv .i64 (.tmp 90), none⟩,
      ⟨some 92, .bin .sub (.tmp 87) (.tmp 91), none⟩,
      ⟨some 15, .mv (.tmp 92), none⟩])
    (.seq (.reg [⟨some 93, .mv (.tmp 15), none⟩,
      ⟨some 94, .bin .geq (.tmp 93) (.cst (.int .i64 0)), none⟩])
    (.cond (.tmp 94)
      (.seq (.reg [⟨some 96, .mv (.tmp 7), none⟩,
        ⟨some 97, .mv (.tmp 15), none⟩,
        ⟨some 98, .callv (.cst (.int .i64 563)) [(.tmp 96), (.tmp 97)], none⟩,
        ⟨some 95, .mv (.tmp 98), none⟩,
        ⟨some 99, .ext (.tmp 95) 0, none⟩,
        ⟨some 100, .ext (.tmp 95) 1, none⟩,
        ⟨some 16, .mv (.tmp 99), none⟩,
        ⟨some 17, .mv (.tmp 100), none⟩])
      (.seq (.reg [⟨some 101, .mv (.tmp 17), none⟩])
      (.cond (.tmp 101)
        (.seq (.reg [⟨some 103, .load true 3 (.tmp 5), none⟩,
          ⟨some 104, .mv (.tmp 16), none⟩,
          ⟨some 105, .call 14 [(.tmp 103), (.tmp 104)], none⟩,
          ⟨some 102, .mv (.tmp 105), none⟩,
          ⟨some 106, .ext (.tmp 102) 0, none⟩,
          ⟨some 107, .ext (.tmp 102) 1, none⟩,
          ⟨some 18, .newb [.nil, .nil, .nil], none⟩,
          ⟨none, .store 3 (.tmp 18) (.tmp 106), none⟩,
          ⟨some 19, .mv (.tmp 107), none⟩])
        (.seq (.seq (.reg [⟨some 108, .load true 3 (.tmp 18), none⟩,
          ⟨none, .store 3 (.tmp 5) (.tmp 108), none⟩])
        (.seq (.reg [⟨some 109, .mv (.tmp 19), none⟩,
          ⟨some 110, .bin .neq (.tmp 109) (.cst (.int .i64 0)), none⟩])
        (.cond (.tmp 110)
          (.seq (.reg [⟨some 4, .mv (.cst (.bool false)), none⟩])
          .ret)
          .skip)))
        (.reg [⟨some 111, .mv (.tmp 7), none⟩,
          ⟨some 112, .mv (.tmp 15), none⟩,
          ⟨none, .callv (.cst (.int .i64 564)) [(.tmp 111), (.tmp 112)], none⟩])))
        .skip)))
      .skip)))
    (.seq (.reg [⟨some 113, .mv (.tmp 7), none⟩,
      ⟨some 114, .callv (.cst (.int .i64 566)) [(.tmp 113)], none⟩])
    (.block 2 (.loop
      (.seq (.reg [⟨some 115, .callv (.cst (.int .i64 7)) [(.tmp 114)], none⟩,
        ⟨some 116, .ext (.tmp 115) 0, none⟩])
      (.seq (.cond (.tmp 116)
        .skip
        (.exit 2))
      (.block 3 (.seq (.reg [⟨some 117, .callv (.cst (.int .i64 9)) [(.tmp 114)], none⟩,
        ⟨some 118, .ext (.tmp 117) 0, none⟩,
        ⟨some 119, .ext (.tmp 117) 1, none⟩,
        ⟨some 20, .mv (.tmp 118), none⟩,
        ⟨some 21, .mv (.tmp 119), none⟩])
      (.seq (.reg [⟨some 121, .load true 3 (.tmp 5), none⟩,
        ⟨some 122, .mv (.tmp 21), none⟩,
        ⟨some 123, .call 15 [(.tmp 121), (.tmp 122), (.cst (.int .i64 1))], none⟩,
        ⟨some 120, .mv (.tmp 123), none⟩,
        ⟨some 124, .ext (.tmp 120) 0, none⟩,
        ⟨some 125, .ext (.tmp 120) 1, none⟩,
        ⟨some 22, .mv (.tmp 124), none⟩,
        ⟨some 23, .mv (.tmp 125), none⟩])
      (.seq (.reg [⟨some 126, .mv (.tmp 23), none⟩,
        ⟨some 127, .bin .neq (.tmp 126) (.cst (.int .i64 0)), none⟩,
        ⟨some 128, .mv (.tmp 127), none⟩,
        ⟨some 129, .mv (.tmp 22), some (128, false)⟩,
        ⟨some 130, .iadS 1 (.tmp 129) (.cst (.int .i64 0)), some (128, false)⟩,
        ⟨some 131, .load false 1 (.tmp 130), some (128, false)⟩,
        ⟨some 132, .mv (.tmp 20), some (128, false)⟩,
        ⟨some 133, .bin .add (.tmp 132) (.cst (.int .i64 1)), some (128, false)⟩,
        ⟨some 134, .conv .u8 (.tmp 133), some (128, false)⟩,
        ⟨some 135, .bin .neq (.tmp 131) (.tmp 134), some (128, false)⟩,
        ⟨some 136, .pick (.tmp 128) (.cst (.bool true)) (.tmp 135), none⟩])
      (.cond (.tmp 136)
        (.seq (.reg [⟨some 4, .mv (.cst (.bool false)), none⟩])
        .ret)
        .skip)))))))))))))))))))
    (.reg [⟨some 137, .bin .add (.tmp 47) (.cst (.int .i64 1)), none⟩,
      ⟨some 47, .mv (.tmp 137), none⟩])))))))
  (.seq (.seq (.reg [⟨some 138, .mv (.tmp 7), none⟩,
    ⟨some 139, .callv (.cst (.int .i64 566)) [(.tmp 138)], none⟩])
  (.block 4 (.loop
    (.seq (.reg [⟨some 140, .callv (.cst (.int .i64 7)) [(.tmp 139)], none⟩,
      ⟨some 141, .ext (.tmp 140) 0, none⟩])
    (.seq (.cond (.tmp 141)
      .skip
      (.exit 4))
    (.block 5 (.seq (.reg [⟨some 142, .callv (.cst (.int .i64 9)) [(.tmp 139)], none⟩,
      ⟨some 143, .ext (.tmp 142) 1, none⟩,
      ⟨some 25, .mv (.tmp 143), none⟩])
    (.seq (.reg [⟨some 145, .load true 3 (.tmp 5), none⟩,
      ⟨some 146, .mv (.tmp 25), none⟩,
      ⟨some 147, .call 14 [(.tmp 145), (.tmp 146)], none⟩,
      ⟨some 144, .mv (.tmp 147), none⟩,
      ⟨some 148, .ext (.tmp 144) 0, none⟩,
      ⟨some 149, .ext (.tmp 144) 1, none⟩,
      ⟨some 26, .newb [.nil, .nil, .nil], none⟩,
      ⟨none, .store 3 (.tmp 26) (.tmp 148), none⟩,
      ⟨some 27, .mv (.tmp 149), none⟩])
    (.seq (.reg [⟨some 150, .load true 3 (.tmp 26), none⟩,
      ⟨none, .store 3 (.tmp 5) (.tmp 150), none⟩])
    (.seq (.reg [⟨some 151, .mv (.tmp 27), none⟩,
      ⟨some 152, .bin .neq (.tmp 151) (.cst (.int .i64 0)), none⟩])
    (.cond (.tmp 152)
      (.seq (.reg [⟨some 4, .mv (.cst (.bool false)), none⟩])
      .ret)
      .skip)))))))))))
  (.seq (.reg [⟨some 154, .load true 3 (.tmp 5), none⟩,
    ⟨some 155, .call 12 [(.tmp 154), (.cst (.int .i64 512))], none⟩,
    ⟨some 153, .mv (.tmp 155), none⟩,
    ⟨some 156, .ext (.tmp 153) 0, none⟩,
    ⟨some 157, .ext (.tmp 153) 1, none⟩,
    ⟨some 158, .ext (.tmp 153) 2, none⟩,
    ⟨some 28, .newb [.nil, .nil, .nil], none⟩,
    ⟨none, .store 3 (.tmp 28) (.tmp 156), none⟩,
    ⟨some 29, .mv (.tmp 157), none⟩,
    ⟨some 6, .mv (.tmp 158), none⟩])
  (.seq (.reg [⟨some 159, .mv (.tmp 29), none⟩,
    ⟨some 160, .bin .eql (.tmp 159) (.cst (.int .i64 0)), none⟩,
    ⟨some 161, .mv (.tmp 160), none⟩,
    ⟨some 162, .mv (.tmp 6), some (161, true)⟩,
    ⟨some 163, .bin .eql (.tmp 162) (.cst (.int .i64 0)), some (161, true)⟩,
    ⟨some 164, .pick (.tmp 161) (.tmp 163) (.cst (.bool false)), none⟩,
    ⟨some 165, .mv (.tmp 164), none⟩,
    ⟨some 166, .fadr 1 (.tmp 5), some (165, true)⟩,
    ⟨some 167, .load false 1 (.tmp 166), some (165, true)⟩,
    ⟨some 168, .lenV (.tmp 167), some (165, true)⟩,
    ⟨some 169, .bin .eql (.tmp 168) (.cst (.int .i64 0)), some (165, true)⟩,
    ⟨some 170, .pick (.tmp 165) (.tmp 169) (.cst (.bool false)), none⟩,
    ⟨some 4, .mv (.tmp 170), none⟩])
  .ret)))))))))
theorem p_caravellaw10_HeapBlocks : Try.f4.body.bind (compC Try.prog 171) = some c_caravellaw10_HeapBlocks := by kernel_rfl
theorem r_caravellaw10_HeapBlocks : tellR Try.prog Try.f4.results.toList = some [.t 4] := by kernel_rfl

/-- caravel/caravellaw10.lives: 0 in. -/
def c_caravellaw10_lives : ACode :=
  (.seq (.reg [⟨some 0, .mv (.cst (.bool false)), none⟩])
  (.seq (.reg [⟨some 12, .call 11 [(.cst (.int .i64 2))], none⟩,
    ⟨some 11, .mv (.tmp 12), none⟩,
    ⟨some 13, .ext (.tmp 11) 0, none⟩,
    ⟨some 14, .ext (.tmp 11) 1, none⟩,
    ⟨some 1, .newb [.nil, .nil, .nil], none⟩,
    ⟨none, .store 3 (.tmp 1) (.tmp 13), none⟩,
    ⟨some 2, .mv (.tmp 14), none⟩])
  (.seq (.reg [⟨some 16, .load true 3 (.tmp 1), none⟩,
    ⟨some 17, .call 12 [(.tmp 16), (.cst (.int .i64 3))], none⟩,
    ⟨some 15, .mv (.tmp 17), none⟩,
    ⟨some 18, .ext (.tmp 15) 0, none⟩,
    ⟨some 19, .ext (.tmp 15) 1, none⟩,
    ⟨some 20, .ext (.tmp 15) 2, none⟩,
    ⟨none, .store 3 (.tmp 1) (.tmp 18), none⟩,
    ⟨some 3, .mv (.tmp 19), none⟩,
    ⟨some 4, .mv (.tmp 20), none⟩])
  (.seq (.reg [⟨some 22, .load true 3 (.tmp 1), none⟩,
    ⟨some 23, .call 12 [(.tmp 22), (.cst (.int .i64 100))], none⟩,
    ⟨some 21, .mv (.tmp 23), none⟩,
    ⟨some 24, .ext (.tmp 21) 0, none⟩,
    ⟨some 25, .ext (.tmp 21) 1, none⟩,
    ⟨some 26, .ext (.tmp 21) 2, none⟩,
    ⟨none, .store 3 (.tmp 1) (.tmp 24), none⟩,
    ⟨some 5, .mv (.tmp 25), none⟩,
    ⟨some 6, .mv (.tmp 26), none⟩])
  (.seq (.reg [⟨some 28, .load true 3 (.tmp 1), none⟩,
    ⟨some 29, .call 14 [(.tmp 28), (.cst (.int .i64 0))], none⟩,
    ⟨some 27, .mv (.tmp 29), none⟩,
    ⟨some 30, .ext (.tmp 27) 0, none⟩,
    ⟨some 31, .ext (.tmp 27) 1, none⟩,
    ⟨none, .store 3 (.tmp 1) (.tmp 30), none⟩,
    ⟨some 7, .mv (.tmp 31), none⟩])
  (.seq (.reg [⟨some 33, .load true 3 (.tmp 1), none⟩,
    ⟨some 34, .call 12 [(.tmp 33), (.cst (.int .i64 9))], none⟩,
    ⟨some 32, .mv (.tmp 34), none⟩,
    ⟨some 35, .ext (.tmp 32) 0, none⟩,
    ⟨some 36, .ext (.tmp 32) 1, none⟩,
    ⟨some 37, .ext (.tmp 32) 2, none⟩,
    ⟨some 8, .newb [.nil, .nil, .nil], none⟩,
    ⟨none, .store 3 (.tmp 8) (.tmp 35), none⟩,
    ⟨some 9, .mv (.tmp 36), none⟩,
    ⟨some 10, .mv (.tmp 37), none⟩])
  (.seq (.reg [⟨some 38, .mv (.tmp 2), none⟩,
    ⟨some 39, .bin .eql (.tmp 38) (.cst (.int .i64 0)), none⟩,
    ⟨some 40, .mv (.tmp 39), none⟩,
    ⟨some 41, .mv (.tmp 4), some (40, true)⟩,
    ⟨some 42, .bin .eql (.tmp 41) (.cst (.int .i64 0)), some (40, true)⟩,
    ⟨some 43, .pick (.tmp 40) (.tmp 42) (.cst (.bool false)), none⟩,
    ⟨some 44, .mv (.tmp 43), none⟩,
    ⟨some 45, .mv (.tmp 6), some (44, true)⟩,
    ⟨some 46, .bin .eql (.tmp 45) (.cst (.int .i64 0)), some (44, true)⟩,
    ⟨some 47, .pick (.tmp 44) (.tmp 46) (.cst (.bool false)), none⟩,
    ⟨some 48, .mv (.tmp 47), none⟩,
    ⟨some 49, .mv (.tmp 7), some (48, true)⟩,
    ⟨some 50, .bin .eql (.tmp 49) (.cst (.int .i64 0)), some (48, true)⟩,
    ⟨some 51, .pick (.tmp 48) (.tmp 50) (.cst (.bool false)), none⟩,
    ⟨some 52, .mv (.tmp 51), none⟩,
    ⟨some 53, .mv (.tmp 10), some (52, true)⟩,
    ⟨some 54, .bin .eql (.tmp 53) (.cst (.int .i64 0)), some (52, true)⟩,
    ⟨some 55, .pick (.tmp 52) (.tmp 54) (.cst (.bool false)), none⟩,
    ⟨some 56, .mv (.tmp 55), none⟩,
    ⟨some 57, .mv (.tmp 3), some (56, true)⟩,
    ⟨some 58, .bin .eql (.tmp 57) (.cst (.int .i64 0)), some (56, true)⟩,
    ⟨some 59, .pick (.tmp 56) (.tmp 58) (.cst (.bool false)), none⟩,
    ⟨some 60, .mv (.tmp 59), none⟩,
    ⟨some 61, .mv (.tmp 5), some (60, true)⟩,
    ⟨some 62, .bin .eql (.tmp 61) (.cst (.int .i64 8)), some (60, true)⟩,
    ⟨some 63, .pick (.tmp 60) (.tmp 62) (.cst (.bool false)), none⟩,
    ⟨some 64, .mv (.tmp 63), none⟩,
    ⟨some 65, .mv (.tmp 9), some (64, true)⟩,
    ⟨some 66, .bin .eql (.tmp 65) (.cst (.int .i64 112)), some (64, true)⟩,
    ⟨some 67, .pick (.tmp 64) (.tmp 66) (.cst (.bool false)), none⟩,
    ⟨some 68, .mv (.tmp 67), none⟩,
    ⟨some 69, .pick (.tmp 68) (.cst (.bool true)) (.cst (.bool false)), none⟩,
    ⟨some 0, .mv (.tmp 69), none⟩])
  .ret)))))))
theorem p_caravellaw10_lives : Try.f9.body.bind (compC Try.prog 70) = some c_caravellaw10_lives := by kernel_rfl
theorem r_caravellaw10_lives : tellR Try.prog Try.f9.results.toList = some [.t 0] := by kernel_rfl

/-- caravel/heap.New: 1 in. -/
def c_heap_New : ACode :=
  (.seq (.reg [⟨some 2, .newb [.nil, .nil, .nil], none⟩,
    ⟨some 3, .mv (.cst (.int .i64 0)), none⟩])
  (.seq (.seq (.reg [⟨some 4, .mv (.tmp 0), none⟩,
    ⟨some 5, .bin .lss (.tmp 4) (.cst (.int .i64 1)), none⟩,
    ⟨some 6, .mv (.tmp 5), none⟩,
    ⟨some 7, .mv (.tmp 0), some (6, false)⟩,
    ⟨some 8, .bin .gtr (.tmp 7) (.cst (.int .i64 64)), some (6, false)⟩,
    ⟨some 9, .pick (.tmp 6) (.cst (.bool true)) (.tmp 8), none⟩])
  (.cond (.tmp 9)
    (.seq (.reg [⟨some 10, .build [.nil, .nil, .nil] [], none⟩,
      ⟨none, .store 3 (.tmp 2) (.tmp 10), none⟩,
      ⟨some 3, .mv (.cst (.int .i64 1)), none⟩])
    .ret)
    .skip))
  (.seq (.reg [⟨some 11, .mv (.tmp 0), none⟩,
    ⟨some 12, .bin .mul (.tmp 11) (.cst (.int .i64 64)), none⟩,
    ⟨some 13, .mks 1 1 (.int .u8 0) (.tmp 12) (.tmp 12), none⟩,
    ⟨some 14, .mv (.tmp 0), none⟩,
    ⟨some 15, .mks 1 1 (.bool false) (.tmp 14) (.tmp 14), none⟩,
    ⟨some 16, .build [.nil, .nil, .nil] [(0, 1, (.tmp 13)), (2, 1, (.tmp 15))], none⟩,
    ⟨none, .store 3 (.tmp 2) (.tmp 16), none⟩,
    ⟨some 3, .mv (.cst (.int .i64 0)), none⟩])
  .ret)))
theorem p_heap_New : Try.f11.body.bind (compC Try.prog 17) = some c_heap_New := by kernel_rfl
theorem r_heap_New : tellR Try.prog Try.f11.results.toList = some [.c 2 true 3, .t 3] := by kernel_rfl

/-- caravel/heap.Alloc: 2 in. -/
def c_heap_Alloc : ACode :=
  (.seq (.reg [⟨some 2, .box (.tmp 0), none⟩,
    ⟨some 4, .newb [.nil, .nil, .nil], none⟩,
    ⟨some 5, .mv (.cst (.int .i64 0)), none⟩,
    ⟨some 6, .mv (.cst (.int .i64 0)), none⟩])
  (.seq (.seq (.reg [⟨some 10, .mv (.tmp 1), none⟩,
    ⟨some 11, .bin .lss (.tmp 10) (.cst (.int .i64 1)), none⟩])
  (.cond (.tmp 11)
    (.seq (.reg [⟨some 12, .load true 3 (.tmp 2), none⟩,
      ⟨some 13, .call 23 [(.tmp 12)], none⟩,
      ⟨none, .store 3 (.tmp 4) (.tmp 13), none⟩,
      ⟨some 5, .mv (.cst (.int .i64 0)), none⟩,
      ⟨some 6, .mv (.cst (.int .i64 1)), none⟩])
    .ret)
    .skip))
  (.seq (.seq (.reg [⟨some 14, .mv (.tmp 1), none⟩,
    ⟨some 15, .fadr 0 (.tmp 2), none⟩,
    ⟨some 16, .load false 1 (.tmp 15), none⟩,
    ⟨some 17, .lenV (.tmp 16), none⟩,
    ⟨some 18, .bin .gtr (.tmp 14) (.tmp 17), none⟩])
  (.cond (.tmp 18)
    (.seq (.reg [⟨some 19, .load true 3 (.tmp 2), none⟩,
      ⟨some 20, .call 23 [(.tmp 19)], none⟩,
      ⟨none, .store 3 (.tmp 4) (.tmp 20), none⟩,
      ⟨some 5, .mv (.cst (.int .i64 0)), none⟩,
      ⟨some 6, .mv (.cst (.int .i64 5)), none⟩])
    .ret)
    .skip))
  (.seq (.reg [⟨some 21, .mv (.tmp 1), none⟩,
    ⟨some 22, .bin .add (.tmp 21) (.cst (.int .i64 8)), none⟩,
    ⟨some 23, .bin .sub (.tmp 22) (.cst (.int .i64 1)), none⟩,
    ⟨some 24, .bin .quo (.tmp 23) (.cst (.int .i64 8)), none⟩,
    ⟨some 25, .bin .mul (.tmp 24) (.cst (.int .i64 8)), none⟩,
    ⟨some 1, .mv (.tmp 25), none⟩])
  (.seq (.reg [⟨some 7, .mv (.cst (.int .i64 0)), none⟩,
    ⟨some 8, .mv (.cst (.int .i64 0)), none⟩])
  (.seq (.block 0 (.loop
    (.seq (.seq (.reg [⟨some 26, .mv (.tmp 8), none⟩,
      ⟨some 27, .fadr 1 (.tmp 2), none⟩,
      ⟨some 28, .load false 1 (.tmp 27), none⟩,
      ⟨some 29, .lenV (.tmp 28), none⟩,
      ⟨some 30, .bin .lss (.tmp 26) (.tmp 29), none⟩,
      ⟨some 31, .mv (.tmp 30), none⟩,
      ⟨some 32, .fadr 1 (.tmp 2), some (31, true)⟩,
      ⟨some 33, .load false 1 (.tmp 32), some (31, true)⟩,
      ⟨some 34, .mv (.tmp 8), some (31, true)⟩,
      ⟨some 35, .iadS 2 (.tmp 33) (.tmp 34), some (31, true)⟩,
      ⟨some 36, .fadr 0 (.tmp 35), some (31, true)⟩,
      ⟨some 37, .load false 1 (.tmp 36), some (31, true)⟩,
      ⟨some 38, .mv (.tmp 7), some (31, true)⟩,
      ⟨some 39, .bin .sub (.tmp 37) (.tmp 38), some (31, true)⟩,
      ⟨some 40, .mv (.tmp 1), some (31, true)⟩,
      ⟨some 41, .bin .lss (.tmp 39) (.tmp 40), some (31, true)⟩,
      ⟨some 42, .pick (.tmp 31) (.tmp 41) (.cst (.bool false)), none⟩])
    (.cond (.tmp 42)
      .skip
      (.exit 0)))
    (.block 1 (.seq (.reg [⟨some 43, .fadr 1 (.tmp 2), none⟩,
      ⟨some 44, .load false 1 (.tmp 43), none⟩,
      ⟨some 45, .mv (.tmp 8), none⟩,
      ⟨some 46, .iadS 2 (.tmp 44) (.tmp 45), none⟩,
      ⟨some 47, .fadr 0 (.tmp 46), none⟩,
      ⟨some 48, .load false 1 (.tmp 47), none⟩,
      ⟨some 49, .fadr 1 (.tmp 2), none⟩,
      ⟨some 50, .load false 1 (.tmp 49), none⟩,
      ⟨some 51, .mv (.tmp 8), none⟩,
      ⟨some 52, .iadS 2 (.tmp 50) (.tmp 51), none⟩,
      ⟨some 53, .fadr 1 (.tmp 52), none⟩,
      ⟨some 54, .load false 1 (.tmp 53), none⟩,
      ⟨some 55, .bin .add (.tmp 48) (.tmp 54), none⟩,
      ⟨some 7, .mv (.tmp 55), none⟩])
    (.reg [⟨some 56, .mv (.tmp 8), none⟩,
      ⟨some 57, .bin .add (.tmp 56) (.cst (.int .i64 1)), none⟩,
      ⟨some 8, .mv (.tmp 57), none⟩]))))))
  (.seq (.seq (.reg [⟨some 58, .mv (.tmp 1), none⟩,
    ⟨some 59, .fadr 0 (.tmp 2), none⟩,
    ⟨some 60, .load false 1 (.tmp 59), none⟩,
    ⟨some 61, .lenV (.tmp 60), none⟩,
    ⟨some 62, .mv (.tmp 7), none⟩,
    ⟨some 63, .bin .sub (.tmp 61) (.tmp 62), none⟩,
    ⟨some 64, .bin .gtr (.tmp 58) (.tmp 63), none⟩])
  (.cond (.tmp 64)
    (.seq (.reg [⟨some 65, .load true 3 (.tmp 2), none⟩,
      ⟨some 66, .call 23 [(.tmp 65)], none⟩,
      ⟨none, .store 3 (.tmp 4) (.tmp 66), none⟩,
      ⟨some 5, .mv (.cst (.int .i64 0)), none⟩,
      ⟨some 6, .mv (.cst (.int .i64 5)), none⟩])
    .ret)
    .skip))
  (.seq (.reg [⟨some 67, .load true 3 (.tmp 2), none⟩,
    ⟨some 68, .call 23 [(.tmp 67)], none⟩,
    ⟨some 9, .newb [.nil, .nil, .nil], none⟩,
    ⟨none, .store 3 (.tmp 9) (.tmp 68), none⟩])
  (.seq (.reg [⟨some 69, .fadr 1 (.tmp 9), none⟩,
    ⟨some 70, .load false 1 (.tmp 69), none⟩,
    ⟨some 71, .mv (.tmp 8), none⟩,
    ⟨some 72, .mv (.tmp 7), none⟩,
    ⟨some 73, .mv (.tmp 1), none⟩,
    ⟨some 74, .build [(.int .i64 0), (.int .i64 0)] [(0, 1, (.tmp 72)), (1, 1, (.tmp 73))], none⟩,
    ⟨some 75, .bsl 2 [(.tmp 74)], none⟩,
    ⟨some 76, .call 25 [(.tmp 70), (.tmp 71), (.tmp 75)], none⟩,
    ⟨some 77, .fadr 1 (.tmp 9), none⟩,
    ⟨none, .store 1 (.tmp 77) (.tmp 76), none⟩])
  (.seq (.reg [⟨some 78, .load true 3 (.tmp 9), none⟩,
    ⟨some 79, .mv (.tmp 7), none⟩,
    ⟨none, .store 3 (.tmp 4) (.tmp 78), none⟩,
    ⟨some 5, .mv (.tmp 79), none⟩,
    ⟨some 6, .mv (.cst (.int .i64 0)), none⟩])
  .ret))))))))))
theorem p_heap_Alloc : Try.f12.body.bind (compC Try.prog 80) = some c_heap_Alloc := by kernel_rfl
theorem r_heap_Alloc : tellR Try.prog Try.f12.results.toList = some [.c 4 true 3, .t 5, .t 6] := by kernel_rfl

/-- caravel/heap.Store: 3 in. -/
def c_heap_Store : ACode :=
  (.seq (.reg [⟨some 3, .box (.tmp 0), none⟩,
    ⟨some 6, .newb [.nil, .nil, .nil], none⟩,
    ⟨some 7, .mv (.cst (.int .i64 0)), none⟩])
  (.seq (.seq (.reg [⟨some 9, .mv (.tmp 1), none⟩,
    ⟨some 10, .bin .lss (.tmp 9) (.cst (.int .i64 0)), none⟩,
    ⟨some 11, .mv (.tmp 10), none⟩,
    ⟨some 12, .load true 3 (.tmp 3), some (11, false)⟩,
    ⟨some 13, .mv (.tmp 1), some (11, false)⟩,
    ⟨some 14, .mv (.tmp 2), some (11, false)⟩,
    ⟨some 15, .lenV (.tmp 14), some (11, false)⟩,
    ⟨some 16, .call 26 [(.tmp 12), (.tmp 13), (.tmp 15)], some (11, false)⟩,
    ⟨some 17, .not (.tmp 16), some (11, false)⟩,
    ⟨some 18, .pick (.tmp 11) (.cst (.bool true)) (.tmp 17), none⟩])
  (.cond (.tmp 18)
    (.seq (.reg [⟨some 19, .load true 3 (.tmp 3), none⟩,
      ⟨some 20, .call 23 [(.tmp 19)], none⟩,
      ⟨none, .store 3 (.tmp 6) (.tmp 20), none⟩,
      ⟨some 7, .mv (.cst (.int .i64 2)), none⟩])
    .ret)
    .skip))
  (.seq (.reg [⟨some 21, .load true 3 (.tmp 3), none⟩,
    ⟨some 22, .call 23 [(.tmp 21)], none⟩,
    ⟨some 8, .newb [.nil, .nil, .nil], none⟩,
    ⟨none, .store 3 (.tmp 8) (.tmp 22), none⟩])
  (.seq (.reg [⟨some 23, .fadr 0 (.tmp 8), none⟩,
    ⟨some 24, .load false 1 (.tmp 23), none⟩,
    ⟨some 25, .mv (.tmp 1), none⟩,
    ⟨some 26, .slS 1 (.tmp 24) (some (.tmp 25)) none none, none⟩,
    ⟨some 27, .mv (.tmp 2), none⟩,
    ⟨some 28, .cpy 1 (.tmp 26) (.tmp 27), none⟩])
  (.seq (.reg [⟨some 29, .load true 3 (.tmp 8), none⟩,
    ⟨some 30, .mv (.tmp 1), none⟩,
    ⟨some 31, .mv (.tmp 2), none⟩,
    ⟨some 32, .lenV (.tmp 31), none⟩,
    ⟨some 33, .call 27 [(.tmp 29), (.tmp 30), (.tmp 32)], none⟩])
  (.seq (.reg [⟨some 34, .load true 3 (.tmp 8), none⟩,
    ⟨none, .store 3 (.tmp 6) (.tmp 34), none⟩,
    ⟨some 7, .mv (.cst (.int .i64 0)), none⟩])
  .ret))))))
theorem p_heap_Store : Try.f13.body.bind (compC Try.prog 35) = some c_heap_Store := by kernel_rfl
theorem r_heap_Store : tellR Try.prog Try.f13.results.toList = some [.c 6 true 3, .t 7] := by kernel_rfl

/-- caravel/heap.Free: 2 in. -/
def c_heap_Free : ACode :=
  (.seq (.reg [⟨some 2, .box (.tmp 0), none⟩,
    ⟨some 4, .newb [.nil, .nil, .nil], none⟩,
    ⟨some 5, .mv (.cst (.int .i64 0)), none⟩])
  (.seq (.reg [⟨some 9, .load true 3 (.tmp 2), none⟩,
    ⟨some 10, .mv (.tmp 1), none⟩,
    ⟨some 11, .call 28 [(.tmp 9), (.tmp 10)], none⟩,
    ⟨some 6, .mv (.tmp 11), none⟩])
  (.seq (.seq (.reg [⟨some 12, .mv (.tmp 6), none⟩,
    ⟨some 13, .bin .lss (.tmp 12) (.cst (.int .i64 0)), none⟩])
  (.cond (.tmp 13)
    (.seq (.reg [⟨some 14, .load true 3 (.tmp 2), none⟩,
      ⟨some 15, .call 23 [(.tmp 14)], none⟩,
      ⟨none, .store 3 (.tmp 4) (.tmp 15), none⟩,
      ⟨some 5, .mv (.cst (.int .i64 2)), none⟩])
    .ret)
    .skip))
  (.seq (.reg [⟨some 16, .load true 3 (.tmp 2), none⟩,
    ⟨some 17, .call 23 [(.tmp 16)], none⟩,
    ⟨some 7, .newb [.nil, .nil, .nil], none⟩,
    ⟨none, .store 3 (.tmp 7) (.tmp 17), none⟩])
  (.seq (.reg [⟨some 18, .fadr 1 (.tmp 7), none⟩,
    ⟨some 19, .load false 1 (.tmp 18), none⟩,
    ⟨some 20, .mv (.tmp 6), none⟩,
    ⟨some 21, .iadS 2 (.tmp 19) (.tmp 20), none⟩,
    ⟨some 22, .load true 2 (.tmp 21), none⟩,
    ⟨some 8, .newb [(.int .i64 0), (.int .i64 0)], none⟩,
    ⟨none, .store 2 (.tmp 8) (.tmp 22), none⟩])
  (.seq (.reg [⟨some 23, .fadr 1 (.tmp 7), none⟩,
    ⟨some 24, .load false 1 (.tmp 23), none⟩,
    ⟨some 25, .mv (.tmp 6), none⟩,
    ⟨some 26, .mv (.tmp 6), none⟩,
    ⟨some 27, .bin .add (.tmp 26) (.cst (.int .i64 1)), none⟩,
    ⟨some 28, .call 29 [(.tmp 24), (.tmp 25), (.tmp 27)], none⟩,
    ⟨some 29, .fadr 1 (.tmp 7), none⟩,
    ⟨none, .store 1 (.tmp 29) (.tmp 28), none⟩])
  (.seq (.reg [⟨some 30, .fadr 0 (.tmp 7), none⟩,
    ⟨some 31, .load false 1 (.tmp 30), none⟩,
    ⟨some 32, .fadr 0 (.tmp 8), none⟩,
    ⟨some 33, .load false 1 (.tmp 32), none⟩,
    ⟨some 34, .fadr 0 (.tmp 8), none⟩,
    ⟨some 35, .load false 1 (.tmp 34), none⟩,
    ⟨some 36, .fadr 1 (.tmp 8), none⟩,
    ⟨some 37, .load false 1 (.tmp 36), none⟩,
    ⟨some 38, .bin .add (.tmp 35) (.tmp 37), none⟩,
    ⟨some 39, .slS 1 (.tmp 31) (some (.tmp 33)) (some (.tmp 38)) none, none⟩,
    ⟨none, .clr 1 (.int .u8 0) (.tmp 39), none⟩])
  (.seq (.reg [⟨some 40, .load true 3 (.tmp 7), none⟩,
    ⟨some 41, .fadr 0 (.tmp 8), none⟩,
    ⟨some 42, .load false 1 (.tmp 41), none⟩,
    ⟨some 43, .fadr 1 (.tmp 8), none⟩,
    ⟨some 44, .load false 1 (.tmp 43), none⟩,
    ⟨some 45, .call 27 [(.tmp 40), (.tmp 42), (.tmp 44)], none⟩])
  (.seq (.reg [⟨some 46, .load true 3 (.tmp 7), none⟩,
    ⟨none, .store 3 (.tmp 4) (.tmp 46), none⟩,
    ⟨some 5, .mv (.cst (.int .i64 0)), none⟩])
  .ret)))))))))
theorem p_heap_Free : Try.f14.body.bind (compC Try.prog 47) = some c_heap_Free := by kernel_rfl
theorem r_heap_Free : tellR Try.prog Try.f14.results.toList = some [.c 4 true 3, .t 5] := by kernel_rfl

/-- caravel/heap.Load: 3 in. -/
def c_heap_Load : ACode :=
  (.seq (.reg [⟨some 3, .box (.tmp 0), none⟩,
    ⟨some 6, .mv (.cst .nil), none⟩,
    ⟨some 7, .mv (.cst (.int .i64 0)), none⟩])
  (.seq (.block 0 (.seq (.reg [⟨some 9, .mv (.tmp 2), none⟩,
    ⟨some 10, .bin .lss (.tmp 9) (.cst (.int .i64 0)), none⟩,
    ⟨some 8, .mv (.tmp 10), none⟩])
  (.cond (.tmp 8)
    (.seq (.reg [⟨some 6, .mv (.cst .nil), none⟩,
      ⟨some 7, .mv (.cst (.int .i64 1)), none⟩])
    .ret)
    (.seq (.reg [⟨some 12, .mv (.tmp 1), none⟩,
      ⟨some 13, .bin .lss (.tmp 12) (.cst (.int .i64 0)), none⟩,
      ⟨some 14, .mv (.tmp 13), none⟩,
      ⟨some 15, .load true 3 (.tmp 3), some (14, false)⟩,
      ⟨some 16, .mv (.tmp 1), some (14, false)⟩,
      ⟨some 17, .mv (.tmp 2), some (14, false)⟩,
      ⟨some 18, .call 26 [(.tmp 15), (.tmp 16), (.tmp 17)], some (14, false)⟩,
      ⟨some 19, .not (.tmp 18), some (14, false)⟩,
      ⟨some 20, .pick (.tmp 14) (.cst (.bool true)) (.tmp 19), none⟩,
      ⟨some 11, .mv (.tmp 20), none⟩])
    (.cond (.tmp 11)
      (.seq (.reg [⟨some 6, .mv (.cst .nil), none⟩,
        ⟨some 7, .mv (.cst (.int .i64 2)), none⟩])
      .ret)
      .skip)))))
  (.seq (.reg [⟨some 21, .fadr 0 (.tmp 3), none⟩,
    ⟨some 22, .load false 1 (.tmp 21), none⟩,
    ⟨some 23, .mv (.tmp 1), none⟩,
    ⟨some 24, .mv (.tmp 1), none⟩,
    ⟨some 25, .mv (.tmp 2), none⟩,
    ⟨some 26, .bin .add (.tmp 24) (.tmp 25), none⟩,
    ⟨some 27, .slS 1 (.tmp 22) (some (.tmp 23)) (some (.tmp 26)) none, none⟩,
    ⟨some 28, .call 30 [(.tmp 27)], none⟩,
    ⟨some 6, .mv (.tmp 28), none⟩,
    ⟨some 7, .mv (.cst (.int .i64 0)), none⟩])
  .ret)))
theorem p_heap_Load : Try.f15.body.bind (compC Try.prog 29) = some c_heap_Load := by kernel_rfl
theorem r_heap_Load : tellR Try.prog Try.f15.results.toList = some [.t 6, .t 7] := by kernel_rfl

/-- caravel/heap.Clone: 1 in. -/
def c_heap_Clone : ACode :=
  (.seq (.reg [⟨some 1, .box (.tmp 0), none⟩,
    ⟨some 2, .newb [.nil, .nil, .nil], none⟩])
  (.seq (.drw [⟨some 3, .fadr 0 (.tmp 1), none⟩,
    ⟨some 4, .load false 1 (.tmp 3), none⟩,
    ⟨some 5, .call 30 [(.tmp 4)], none⟩,
    ⟨some 6, .fadr 1 (.tmp 1), none⟩,
    ⟨some 7, .load false 1 (.tmp 6), none⟩,
    ⟨some 8, .call 38 [(.tmp 7)], none⟩,
    ⟨some 9, .fadr 2 (.tmp 1), none⟩,
    ⟨some 10, .load false 1 (.tmp 9), none⟩,
    ⟨some 11, .call 39 [(.tmp 10)], none⟩,
    ⟨some 12, .build [.nil, .nil, .nil] [(0, 1, (.tmp 5)), (1, 1, (.tmp 8)), (2, 1, (.tmp 11))], none⟩,
    ⟨none, .store 3 (.tmp 2) (.tmp 12), none⟩] [[], [], [], [], [], [], [], [], [], [], []])
  .ret))
theorem p_heap_Clone : Try.f23.body.bind (compC Try.prog 13) = some c_heap_Clone := by kernel_rfl
theorem r_heap_Clone : tellR Try.prog Try.f23.results.toList = some [.c 2 true 3] := by kernel_rfl

/-- slices.Insert[[]caravel/api.Block,caravel/api.Block]: 3 in. -/
def c_slices_Insert__caravel_api_Block_caravel_api_Block : ACode :=
  (.seq (.reg [⟨some 6, .mv (.cst .nil), none⟩])
  (.seq (.reg [⟨some 10, .mv (.tmp 0), none⟩,
    ⟨some 11, .mv (.tmp 1), none⟩,
    ⟨some 12, .slS 2 (.tmp 10) (some (.tmp 11)) none none, none⟩])
  (.seq (.reg [⟨some 13, .mv (.tmp 2), none⟩,
    ⟨some 14, .lenV (.tmp 13), none⟩,
    ⟨some 7, .mv (.tmp 14), none⟩])
  (.seq (.seq (.reg [⟨some 15, .mv (.tmp 7), none⟩,
    ⟨some 16, .bin .eql (.tmp 15) (.cst (.int .i64 0)), none⟩])
  (.cond (.tmp 16)
    (.seq (.reg [⟨some 17, .mv (.tmp 0), none⟩,
      ⟨some 6, .mv (.tmp 17), none⟩])
    .ret)
    .skip))
  (.seq (.reg [⟨some 18, .mv (.tmp 0), none⟩,
    ⟨some 19, .lenV (.tmp 18), none⟩,
    ⟨some 8, .mv (.tmp 19), none⟩])
  (.seq (.seq (.reg [⟨some 20, .mv (.tmp 1), none⟩,
    ⟨some 21, .mv (.tmp 8), none⟩,
    ⟨some 22, .bin .eql (.tmp 20) (.tmp 21), none⟩])
  (.cond (.tmp 22)
    (.seq (.reg [⟨some 23, .mv (.tmp 0), none⟩,
      ⟨some 24, .mv (.tmp 2), none⟩,
      ⟨some 25, .app 2 16 (.tmp 23) (.tmp 24), none⟩,
      ⟨some 6, .mv (.tmp 25), none⟩])
    .ret)
    .skip))
  (.seq (.seq (.reg [⟨some 26, .mv (.tmp 8), none⟩,
    ⟨some 27, .mv (.tmp 7), none⟩,
    ⟨some 28, .bin .add (.tmp 26) (.tmp 27), none⟩,
    ⟨some 29, .mv (.tmp 0), none⟩,
    ⟨some 30, .capV (.tmp 29), none⟩,
    ⟨some 31, .bin .gtr (.tmp 28) (.tmp 30), none⟩])
  (.cond (.tmp 31)
    (.seq (.reg [⟨some 32, .mv (.tmp 0), none⟩,
      ⟨some 33, .mv (.tmp 1), none⟩,
      ⟨some 34, .slS 2 (.tmp 32) none (some (.tmp 33)) none, none⟩,
      ⟨some 35, .mv (.tmp 8), none⟩,
      ⟨some 36, .mv (.tmp 7), none⟩,
      ⟨some 37, .bin .add (.tmp 35) (.tmp 36), none⟩,
      ⟨some 38, .mv (.tmp 1), none⟩,
      ⟨some 39, .bin .sub (.tmp 37) (.tmp 38), none⟩,
      ⟨some 40, .appz 2 16 (.agg [(.int .i64 0), (.int .i64 0)]) (.tmp 34) (.tmp 39), none⟩,
      ⟨some 9, .mv (.tmp 40), none⟩])
    (.seq (.reg [⟨some 41, .mv (.tmp 9), none⟩,
      ⟨some 42, .mv (.tmp 1), none⟩,
      ⟨some 43, .slS 2 (.tmp 41) (some (.tmp 42)) none none, none⟩,
      ⟨some 44, .mv (.tmp 2), none⟩,
      ⟨some 45, .cpy 2 (.tmp 43) (.tmp 44), none⟩])
    (.seq (.reg [⟨some 46, .mv (.tmp 9), none⟩,
      ⟨some 47, .mv (.tmp 1), none⟩,
      ⟨some 48, .mv (.tmp 7), none⟩,
      ⟨some 49, .bin .add (.tmp 47) (.tmp 48), none⟩,
      ⟨some 50, .slS 2 (.tmp 46) (some (.tmp 49)) none none, none⟩,
      ⟨some 51, .mv (.tmp 0), none⟩,
      ⟨some 52, .mv (.tmp 1), none⟩,
      ⟨some 53, .slS 2 (.tmp 51) (some (.tmp 52)) none none, none⟩,
      ⟨some 54, .cpy 2 (.tmp 50) (.tmp 53), none⟩])
    (.seq (.reg [⟨some 55, .mv (.tmp 9), none⟩,
      ⟨some 6, .mv (.tmp 55), none⟩])
    .ret))))
    .skip))
  (.seq (.reg [⟨some 56, .mv (.tmp 0), none⟩,
    ⟨some 57, .mv (.tmp 8), none⟩,
    ⟨some 58, .mv (.tmp 7), none⟩,
    ⟨some 59, .bin .add (.tmp 57) (.tmp 58), none⟩,
    ⟨some 60, .slS 2 (.tmp 56) none (some (.tmp 59)) none, none⟩,
    ⟨some 0, .mv (.tmp 60), none⟩])
  (.seq (.seq (.reg [⟨some 61, .mv (.tmp 2), none⟩,
    ⟨some 62, .mv (.tmp 0), none⟩,
    ⟨some 63, .mv (.tmp 1), none⟩,
    ⟨some 64, .mv (.tmp 7), none⟩,
    ⟨some 65, .bin .add (.tmp 63) (.tmp 64), none⟩,
    ⟨some 66, .slS 2 (.tmp 62) (some (.tmp 65)) none none, none⟩,
    ⟨some 67, .call 40 [(.tmp 61), (.tmp 66)], none⟩,
    ⟨some 68, .not (.tmp 67), none⟩])
  (.cond (.tmp 68)
    (.seq (.reg [⟨some 69, .mv (.tmp 0), none⟩,
      ⟨some 70, .mv (.tmp 1), none⟩,
      ⟨some 71, .mv (.tmp 7), none⟩,
      ⟨some 72, .bin .add (.tmp 70) (.tmp 71), none⟩,
      ⟨some 73, .slS 2 (.tmp 69) (some (.tmp 72)) none none, none⟩,
      ⟨some 74, .mv (.tmp 0), none⟩,
      ⟨some 75, .mv (.tmp 1), none⟩,
      ⟨some 76, .slS 2 (.tmp 74) (some (.tmp 75)) none none, none⟩,
      ⟨some 77, .cpy 2 (.tmp 73) (.tmp 76), none⟩])
    (.seq (.reg [⟨some 78, .mv (.tmp 0), none⟩,
      ⟨some 79, .mv (.tmp 1), none⟩,
      ⟨some 80, .slS 2 (.tmp 78) (some (.tmp 79)) none none, none⟩,
      ⟨some 81, .mv (.tmp 2), none⟩,
      ⟨some 82, .cpy 2 (.tmp 80) (.tmp 81), none⟩])
    (.seq (.reg [⟨some 83, .mv (.tmp 0), none⟩,
      ⟨some 6, .mv (.tmp 83), none⟩])
    .ret)))
    .skip))
  (.seq (.reg [⟨some 84, .mv (.tmp 0), none⟩,
    ⟨some 85, .mv (.tmp 8), none⟩,
    ⟨some 86, .slS 2 (.tmp 84) (some (.tmp 85)) none none, none⟩,
    ⟨some 87, .mv (.tmp 2), none⟩,
    ⟨some 88, .cpy 2 (.tmp 86) (.tmp 87), none⟩])
  (.seq (.reg [⟨some 89, .mv (.tmp 0), none⟩,
    ⟨some 90, .mv (.tmp 1), none⟩,
    ⟨some 91, .slS 2 (.tmp 89) (some (.tmp 90)) none none, none⟩,
    ⟨some 92, .mv (.tmp 7), none⟩,
    ⟨some 93, .call 41 [(.tmp 91), (.tmp 92)], none⟩])
  (.seq (.reg [⟨some 94, .mv (.tmp 0), none⟩,
    ⟨some 6, .mv (.tmp 94), none⟩])
  .ret))))))))))))
theorem p_slices_Insert__caravel_api_Block_caravel_api_Block : Try.f25.body.bind (compC Try.prog 95) = some c_slices_Insert__caravel_api_Block_caravel_api_Block := by kernel_rfl
theorem r_slices_Insert__caravel_api_Block_caravel_api_Block : tellR Try.prog Try.f25.results.toList = some [.t 6] := by kernel_rfl

/-- caravel/heap.inside: 3 in. -/
def c_heap_inside : ACode :=
  (.seq (.reg [⟨some 3, .box (.tmp 0), none⟩,
    ⟨some 4, .box (.tmp 1), none⟩,
    ⟨some 5, .box (.tmp 2), none⟩,
    ⟨some 6, .mv (.cst (.bool false)), none⟩])
  (.seq (.reg [⟨some 7, .fadr 1 (.tmp 3), none⟩,
    ⟨some 8, .load false 1 (.tmp 7), none⟩,
    ⟨some 9, .mkf 43 [(.tmp 4), (.tmp 5)], none⟩,
    ⟨some 10, .call 42 [(.tmp 8), (.tmp 9)], none⟩,
    ⟨some 6, .mv (.tmp 10), none⟩])
  .ret))
theorem p_heap_inside : Try.f26.body.bind (compC Try.prog 11) = some c_heap_inside := by kernel_rfl
theorem r_heap_inside : tellR Try.prog Try.f26.results.toList = some [.t 6] := by kernel_rfl

/-- caravel/heap.mark: 3 in. -/
def c_heap_mark : ACode :=
  (.seq (.reg [⟨some 3, .box (.tmp 0), none⟩])
  (.seq (.reg [⟨some 7, .mv (.tmp 1), none⟩,
    ⟨some 8, .bin .quo (.tmp 7) (.cst (.int .i64 64)), none⟩,
    ⟨some 6, .mv (.tmp 8), none⟩])
  (.block 0 (.loop
    (.seq (.seq (.reg [⟨some 9, .mv (.tmp 2), none⟩,
      ⟨some 10, .bin .gtr (.tmp 9) (.cst (.int .i64 0)), none⟩,
      ⟨some 11, .mv (.tmp 10), none⟩,
      ⟨some 12, .mv (.tmp 6), some (11, true)⟩,
      ⟨some 13, .bin .mul (.tmp 12) (.cst (.int .i64 64)), some (11, true)⟩,
      ⟨some 14, .mv (.tmp 1), some (11, true)⟩,
      ⟨some 15, .mv (.tmp 2), some (11, true)⟩,
      ⟨some 16, .bin .add (.tmp 14) (.tmp 15), some (11, true)⟩,
      ⟨some 17, .bin .lss (.tmp 13) (.tmp 16), some (11, true)⟩,
      ⟨some 18, .pick (.tmp 11) (.tmp 17) (.cst (.bool false)), none⟩])
    (.cond (.tmp 18)
      .skip
      (.exit 0)))
    (.seq (.block 1 (.reg [⟨some 21, .fadr 2 (.tmp 3), none⟩,
      ⟨some 22, .load false 1 (.tmp 21), none⟩,
      ⟨some 23, .mv (.tmp 6), none⟩,
      ⟨some 24, .iadS 1 (.tmp 22) (.tmp 23), none⟩,
      ⟨none, .store 1 (.tmp 24) (.cst (.bool true)), none⟩]))
    (.reg [⟨some 19, .mv (.tmp 6), none⟩,
      ⟨some 20, .bin .add (.tmp 19) (.cst (.int .i64 1)), none⟩,
      ⟨some 6, .mv (.tmp 20), none⟩])))))))
theorem p_heap_mark : Try.f27.body.bind (compC Try.prog 25) = some c_heap_mark := by kernel_rfl
theorem r_heap_mark : tellR Try.prog Try.f27.results.toList = some [] := by kernel_rfl

/-- caravel/heap.find: 2 in. -/
def c_heap_find : ACode :=
  (.seq (.reg [⟨some 2, .box (.tmp 0), none⟩,
    ⟨some 3, .box (.tmp 1), none⟩,
    ⟨some 4, .mv (.cst (.int .i64 0)), none⟩])
  (.seq (.reg [⟨some 5, .fadr 1 (.tmp 2), none⟩,
    ⟨some 6, .load false 1 (.tmp 5), none⟩,
    ⟨some 7, .mkf 45 [(.tmp 3)], none⟩,
    ⟨some 8, .call 44 [(.tmp 6), (.tmp 7)], none⟩,
    ⟨some 4, .mv (.tmp 8), none⟩])
  .ret))
theorem p_heap_find : Try.f28.body.bind (compC Try.prog 9) = some c_heap_find := by kernel_rfl
theorem r_heap_find : tellR Try.prog Try.f28.results.toList = some [.t 4] := by kernel_rfl

/-- slices.Delete[[]caravel/api.Block,caravel/api.Block]: 3 in. -/
def c_slices_Delete__caravel_api_Block_caravel_api_Block : ACode :=
  (.seq (.reg [⟨some 6, .mv (.cst .nil), none⟩])
  (.seq (.reg [⟨some 8, .mv (.tmp 0), none⟩,
    ⟨some 9, .mv (.tmp 1), none⟩,
    ⟨some 10, .mv (.tmp 2), none⟩,
    ⟨some 11, .mv (.tmp 0), none⟩,
    ⟨some 12, .lenV (.tmp 11), none⟩,
    ⟨some 13, .slS 2 (.tmp 8) (some (.tmp 9)) (some (.tmp 10)) (some (.tmp 12)), none⟩])
  (.seq (.seq (.reg [⟨some 14, .mv (.tmp 1), none⟩,
    ⟨some 15, .mv (.tmp 2), none⟩,
    ⟨some 16, .bin .eql (.tmp 14) (.tmp 15), none⟩])
  (.cond (.tmp 16)
    (.seq (.reg [⟨some 17, .mv (.tmp 0), none⟩,
      ⟨some 6, .mv (.tmp 17), none⟩])
    .ret)
    .skip))
  (.seq (.reg [⟨some 18, .mv (.tmp 0), none⟩,
    ⟨some 19, .lenV (.tmp 18), none⟩,
    ⟨some 7, .mv (.tmp 19), none⟩])
  (.seq (.reg [⟨some 20, .mv (.tmp 0), none⟩,
    ⟨some 21, .mv (.tmp 1), none⟩,
    ⟨some 22, .slS 2 (.tmp 20) none (some (.tmp 21)) none, none⟩,
    ⟨some 23, .mv (.tmp 0), none⟩,
    ⟨some 24, .mv (.tmp 2), none⟩,
    ⟨some 25, .slS 2 (.tmp 23) (some (.tmp 24)) none none, none⟩,
    ⟨some 26, .app 2 16 (.tmp 22) (.tmp 25), none⟩,
    ⟨some 0, .mv (.tmp 26), none⟩])
  (.seq (.reg [⟨some 27, .mv (.tmp 0), none⟩,
    ⟨some 28, .mv (.tmp 0), none⟩,
    ⟨some 29, .lenV (.tmp 28), none⟩,
    ⟨some 30, .mv (.tmp 7), none⟩,
    ⟨some 31, .slS 2 (.tmp 27) (some (.tmp 29)) (some (.tmp 30)) none, none⟩,
    ⟨none, .clr 2 (.agg [(.int .i64 0), (.int .i64 0)]) (.tmp 31), none⟩])
  (.seq (.reg [⟨some 32, .mv (.tmp 0), none⟩,
    ⟨some 6, .mv (.tmp 32), none⟩])
  .ret)))))))
theorem p_slices_Delete__caravel_api_Block_caravel_api_Block : Try.f29.body.bind (compC Try.prog 33) = some c_slices_Delete__caravel_api_Block_caravel_api_Block := by kernel_rfl
theorem r_slices_Delete__caravel_api_Block_caravel_api_Block : tellR Try.prog Try.f29.results.toList = some [.t 6] := by kernel_rfl

/-- slices.Clone[[]byte,byte]: 1 in. -/
def c_slices_Clone__byte_byte : ACode :=
  (.seq (.reg [⟨some 2, .mv (.cst .nil), none⟩])
  (.seq (.seq (.reg [⟨some 3, .mv (.tmp 0), none⟩,
    ⟨some 4, .isN false (.tmp 3), none⟩])
  (.cond (.tmp 4)
    (.seq (.reg [⟨some 2, .mv (.cst .nil), none⟩])
    .ret)
    .skip))
  (.seq (.reg [⟨some 5, .bsl 1 [], none⟩,
    ⟨some 6, .mv (.tmp 0), none⟩,
    ⟨some 7, .app 1 1 (.tmp 5) (.tmp 6), none⟩,
    ⟨some 2, .mv (.tmp 7), none⟩])
  .ret)))
theorem p_slices_Clone__byte_byte : Try.f30.body.bind (compC Try.prog 8) = some c_slices_Clone__byte_byte := by kernel_rfl
theorem r_slices_Clone__byte_byte : tellR Try.prog Try.f30.results.toList = some [.t 2] := by kernel_rfl

/-- slices.Clone[[]caravel/api.Block,caravel/api.Block]: 1 in. -/
def c_slices_Clone__caravel_api_Block_caravel_api_Block : ACode :=
  (.seq (.reg [⟨some 2, .mv (.cst .nil), none⟩])
  (.seq (.seq (.reg [⟨some 3, .mv (.tmp 0), none⟩,
    ⟨some 4, .isN false (.tmp 3), none⟩])
  (.cond (.tmp 4)
    (.seq (.reg [⟨some 2, .mv (.cst .nil), none⟩])
    .ret)
    .skip))
  (.seq (.reg [⟨some 5, .bsl 2 [], none⟩,
    ⟨some 6, .mv (.tmp 0), none⟩,
    ⟨some 7, .app 2 16 (.tmp 5) (.tmp 6), none⟩,
    ⟨some 2, .mv (.tmp 7), none⟩])
  .ret)))
theorem p_slices_Clone__caravel_api_Block_caravel_api_Block : Try.f38.body.bind (compC Try.prog 8) = some c_slices_Clone__caravel_api_Block_caravel_api_Block := by kernel_rfl
theorem r_slices_Clone__caravel_api_Block_caravel_api_Block : tellR Try.prog Try.f38.results.toList = some [.t 2] := by kernel_rfl

/-- slices.Clone[[]bool,bool]: 1 in. -/
def c_slices_Clone__bool_bool : ACode :=
  (.seq (.reg [⟨some 2, .mv (.cst .nil), none⟩])
  (.seq (.seq (.reg [⟨some 3, .mv (.tmp 0), none⟩,
    ⟨some 4, .isN false (.tmp 3), none⟩])
  (.cond (.tmp 4)
    (.seq (.reg [⟨some 2, .mv (.cst .nil), none⟩])
    .ret)
    .skip))
  (.seq (.reg [⟨some 5, .bsl 1 [], none⟩,
    ⟨some 6, .mv (.tmp 0), none⟩,
    ⟨some 7, .app 1 1 (.tmp 5) (.tmp 6), none⟩,
    ⟨some 2, .mv (.tmp 7), none⟩])
  .ret)))
theorem p_slices_Clone__bool_bool : Try.f39.body.bind (compC Try.prog 8) = some c_slices_Clone__bool_bool := by kernel_rfl
theorem r_slices_Clone__bool_bool : tellR Try.prog Try.f39.results.toList = some [.t 2] := by kernel_rfl

/-- slices.ContainsFunc[[]caravel/api.Block,caravel/api.Block]: 2 in. -/
def c_slices_ContainsFunc__caravel_api_Block_caravel_api_Block : ACode :=
  (.seq (.reg [⟨some 4, .mv (.cst (.bool false)), none⟩])
  (.seq (.reg [⟨some 5, .mv (.tmp 0), none⟩,
    ⟨some 6, .mv (.tmp 1), none⟩,
    ⟨some 7, .call 44 [(.tmp 5), (.tmp 6)], none⟩,
    ⟨some 8, .bin .geq (.tmp 7) (.cst (.int .i64 0)), none⟩,
    ⟨some 4, .mv (.tmp 8), none⟩])
  .ret))
theorem p_slices_ContainsFunc__caravel_api_Block_caravel_api_Block : Try.f42.body.bind (compC Try.prog 9) = some c_slices_ContainsFunc__caravel_api_Block_caravel_api_Block := by kernel_rfl
theorem r_slices_ContainsFunc__caravel_api_Block_caravel_api_Block : tellR Try.prog Try.f42.results.toList = some [.t 4] := by kernel_rfl

/-- caravel/heap.inside$1: 3 in. -/
def c_heap_inside_1 : ACode :=
  (.seq (.reg [⟨some 3, .box (.tmp 0), none⟩,
    ⟨some 4, .mv (.cst (.bool false)), none⟩])
  (.seq (.reg [⟨some 5, .load false 1 (.tmp 1), none⟩,
    ⟨some 6, .fadr 0 (.tmp 3), none⟩,
    ⟨some 7, .load false 1 (.tmp 6), none⟩,
    ⟨some 8, .bin .geq (.tmp 5) (.tmp 7), none⟩,
    ⟨some 9, .mv (.tmp 8), none⟩,
    ⟨some 10, .load false 1 (.tmp 2), some (9, true)⟩,
    ⟨some 11, .fadr 0 (.tmp 3), some (9, true)⟩,
    ⟨some 12, .load false 1 (.tmp 11), some (9, true)⟩,
    ⟨some 13, .fadr 1 (.tmp 3), some (9, true)⟩,
    ⟨some 14, .load false 1 (.tmp 13), some (9, true)⟩,
    ⟨some 15, .bin .add (.tmp 12) (.tmp 14), some (9, true)⟩,
    ⟨some 16, .load false 1 (.tmp 1), some (9, true)⟩,
    ⟨some 17, .bin .sub (.tmp 15) (.tmp 16), some (9, true)⟩,
    ⟨some 18, .bin .leq (.tmp 10) (.tmp 17), some (9, true)⟩,
    ⟨some 19, .pick (.tmp 9) (.tmp 18) (.cst (.bool false)), none⟩,
    ⟨some 4, .mv (.tmp 19), none⟩])
  .ret))
theorem p_heap_inside_1 : Try.f43.body.bind (compC Try.prog 20) = some c_heap_inside_1 := by kernel_rfl
theorem r_heap_inside_1 : tellR Try.prog Try.f43.results.toList = some [.t 4] := by kernel_rfl

/-- slices.IndexFunc[[]caravel/api.Block,caravel/api.Block]: 2 in. -/
def c_slices_IndexFunc__caravel_api_Block_caravel_api_Block : ACode :=
  (.seq (.reg [⟨some 4, .mv (.cst (.int .i64 0)), none⟩])
  (.seq (.seq (.reg [⟨some 6, .mv (.tmp 0), none⟩,
    ⟨some 7, .lenV (.tmp 6), none⟩,
    ⟨some 8, .mv (.cst (.int .i64 0)), none⟩])
  (.block 0 (.loop
    (.seq (.reg [⟨some 9, .bin .lss (.tmp 8) (.tmp 7), none⟩])
    (.seq (.cond (.tmp 9)
      .skip
      (.exit 0))
    (.seq (.block 1 (.seq (.reg [⟨some 10, .mv (.tmp 8), none⟩,
      ⟨some 5, .mv (.tmp 10), none⟩])
    (.seq (.reg [⟨some 11, .mv (.tmp 1), none⟩,
      ⟨some 12, .mv (.tmp 0), none⟩,
      ⟨some 13, .mv (.tmp 5), none⟩,
      ⟨some 14, .iadS 2 (.tmp 12) (.tmp 13), none⟩,
      ⟨some 15, .load true 2 (.tmp 14), none⟩,
      ⟨some 16, .callv (.tmp 11) [(.tmp 15)], none⟩])
    (.cond (.tmp 16)
      (.seq (.reg [⟨some 17, .mv (.tmp 5), none⟩,
        ⟨some 4, .mv (.tmp 17), none⟩])
      .ret)
      .skip))))
    (.reg [⟨some 18, .bin .add (.tmp 8) (.cst (.int .i64 1)), none⟩,
      ⟨some 8, .mv (.tmp 18), none⟩])))))))
  (.seq (.reg [⟨some 4, .mv (.cst (.int .i64 (-1))), none⟩])
  .ret)))
theorem p_slices_IndexFunc__caravel_api_Block_caravel_api_Block : Try.f44.body.bind (compC Try.prog 19) = some c_slices_IndexFunc__caravel_api_Block_caravel_api_Block := by kernel_rfl
theorem r_slices_IndexFunc__caravel_api_Block_caravel_api_Block : tellR Try.prog Try.f44.results.toList = some [.t 4] := by kernel_rfl

/-- caravel/heap.find$1: 2 in. -/
def c_heap_find_1 : ACode :=
  (.seq (.reg [⟨some 2, .box (.tmp 0), none⟩,
    ⟨some 3, .mv (.cst (.bool false)), none⟩])
  (.seq (.reg [⟨some 4, .fadr 0 (.tmp 2), none⟩,
    ⟨some 5, .load false 1 (.tmp 4), none⟩,
    ⟨some 6, .load false 1 (.tmp 1), none⟩,
    ⟨some 7, .bin .eql (.tmp 5) (.tmp 6), none⟩,
    ⟨some 3, .mv (.tmp 7), none⟩])
  .ret))
theorem p_heap_find_1 : Try.f45.body.bind (compC Try.prog 8) = some c_heap_find_1 := by kernel_rfl
theorem r_heap_find_1 : tellR Try.prog Try.f45.results.toList = some [.t 3] := by kernel_rfl

end Go.Proofs.Ytjacmhaeemhinaa
