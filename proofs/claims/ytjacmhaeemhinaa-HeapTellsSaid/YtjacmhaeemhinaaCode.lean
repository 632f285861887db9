/- The program's functions, told as operations on abstract values. -/
import Derived.Test.YtjacmhaeemhinaaAx30
import Derived.Test.YtjacmhaeemhinaaProg
namespace Go.Proofs.Ytjacmhaeemhinaa

/-- gosem.cut.init: 0 in. -/
def c_gosem_cut_init : ACode :=
  (.reg [⟨some 0, .call 1 [], none⟩])
theorem p_gosem_cut_init : Try.f2.body.bind (compC Try.prog 1) = some c_gosem_cut_init := by kernel_rfl
theorem r_gosem_cut_init : tellR Try.prog Try.f2.results.toList = some [] := by kernel_rfl

/-- caravel/caravellaw10.HeapTells: 2 in. -/
def c_caravellaw10_HeapTells : ACode :=
  (.seq (.reg [⟨some 4, .mv (.cst (.bool false)), none⟩])
  (.seq (.seq (.reg [⟨some 17, .call 9 [], none⟩,
    ⟨some 18, .not (.tmp 17), none⟩,
    ⟨some 19, .mv (.tmp 18), none⟩,
    ⟨some 20, .mv (.tmp 0), some (19, false)⟩,
    ⟨some 21, .call 16 [(.tmp 20)], some (19, false)⟩,
    ⟨some 22, .not (.tmp 21), some (19, false)⟩,
    ⟨some 23, .pick (.tmp 19) (.cst (.bool true)) (.tmp 22), none⟩,
    ⟨some 24, .mv (.tmp 23), none⟩,
    ⟨some 25, .mv (.tmp 1), some (24, false)⟩,
    ⟨some 26, .call 16 [(.tmp 25)], some (24, false)⟩,
    ⟨some 27, .not (.tmp 26), some (24, false)⟩,
    ⟨some 28, .pick (.tmp 24) (.cst (.bool true)) (.tmp 27), none⟩])
  (.cond (.tmp 28)
    (.seq (.reg [⟨some 29, .call 9 [], none⟩,
      ⟨some 4, .mv (.tmp 29), none⟩])
    .ret)
    .skip))
  (.seq (.reg [⟨some 31, .call 11 [(.cst (.int .i64 6))], none⟩,
    ⟨some 30, .mv (.tmp 31), none⟩,
    ⟨some 32, .ext (.tmp 30) 0, none⟩,
    ⟨some 33, .ext (.tmp 30) 1, none⟩,
    ⟨some 5, .newb [.nil, .nil, .nil], none⟩,
    ⟨none, .store 3 (.tmp 5) (.tmp 32), none⟩,
    ⟨some 6, .mv (.tmp 33), none⟩])
  (.seq (.reg [⟨some 35, .call 11 [(.cst (.int .i64 6))], none⟩,
    ⟨some 34, .mv (.tmp 35), none⟩,
    ⟨some 36, .ext (.tmp 34) 0, none⟩,
    ⟨some 37, .ext (.tmp 34) 1, none⟩,
    ⟨some 7, .newb [.nil, .nil, .nil], none⟩,
    ⟨none, .store 3 (.tmp 7) (.tmp 36), none⟩,
    ⟨some 8, .mv (.tmp 37), none⟩])
  (.seq (.seq (.reg [⟨some 38, .mv (.tmp 8), none⟩,
    ⟨some 39, .bin .neq (.tmp 38) (.cst (.int .i64 0)), none⟩])
  (.cond (.tmp 39)
    (.seq (.reg [⟨some 4, .mv (.cst (.bool false)), none⟩])
    .ret)
    .skip))
  (.seq (.seq (.reg [⟨some 40, .mv (.tmp 0), none⟩,
    ⟨some 41, .lenV (.tmp 40), none⟩,
    ⟨some 42, .mv (.cst (.int .i64 0)), none⟩])
  (.block 0 (.loop
    (.seq (.reg [⟨some 43, .bin .lss (.tmp 42) (.tmp 41), none⟩])
    (.seq (.cond (.tmp 43)
      .skip
      (.exit 0))
    (.seq (.block 1 (.seq (.reg [⟨some 44, .iadS 5 (.tmp 40) (.tmp 42), none⟩,
      ⟨some 45, .load true 5 (.tmp 44), none⟩,
      ⟨some 10, .newb [(.int .i64 0), (.int .i64 0), (.int .i64 0), .nil, (.bool false)], none⟩,
      ⟨none, .store 5 (.tmp 10) (.tmp 45), none⟩])
    (.seq (.reg [⟨some 46, .fadr 0 (.tmp 10), none⟩,
      ⟨some 47, .load false 1 (.tmp 46), none⟩,
      ⟨some 48, .conv .u64 (.tmp 47), none⟩,
      ⟨some 49, .bin .rem (.tmp 48) (.cst (.int .u64 8)), none⟩,
      ⟨some 50, .bin .lss (.tmp 49) (.cst (.int .u64 5)), none⟩])
    (.cond (.tmp 50)
      (.drw [⟨some 52, .load true 3 (.tmp 5), none⟩,
        ⟨some 53, .call 18 [(.cst (.int .i64 6))], none⟩,
        ⟨some 54, .load true 5 (.tmp 10), none⟩,
        ⟨some 55, .call 17 [(.tmp 52), (.tmp 53), (.tmp 54)], none⟩,
        ⟨some 51, .mv (.tmp 55), none⟩,
        ⟨some 56, .ext (.tmp 51) 0, none⟩,
        ⟨some 57, .ext (.tmp 51) 1, none⟩,
        ⟨some 58, .ext (.tmp 51) 2, none⟩,
        ⟨none, .store 3 (.tmp 5) (.tmp 56), none⟩] [[], [], [], [], [], [], [], [], []])
      .skip))))
    (.reg [⟨some 59, .bin .add (.tmp 42) (.cst (.int .i64 1)), none⟩,
      ⟨some 42, .mv (.tmp 59), none⟩])))))))
  (.seq (.reg [⟨some 60, .mkf 19 [(.tmp 5), (.tmp 7)], none⟩,
    ⟨some 11, .mv (.tmp 60), none⟩])
  (.seq (.seq (.reg [⟨some 61, .mv (.cst (.int .i64 0)), none⟩])
  (.block 2 (.loop
    (.seq (.reg [⟨some 62, .bin .lss (.tmp 61) (.cst (.int .i64 6)), none⟩])
    (.seq (.cond (.tmp 62)
      .skip
      (.exit 2))
    (.seq (.block 3 (.seq (.reg [⟨some 63, .mv (.tmp 61), none⟩,
      ⟨some 12, .mv (.tmp 63), none⟩])
    (.seq (.seq (.reg [⟨some 64, .mv (.tmp 11), none⟩,
      ⟨some 65, .mv (.tmp 12), none⟩,
      ⟨some 66, .callv (.tmp 64) [(.tmp 65)], none⟩,
      ⟨some 67, .not (.tmp 66), none⟩])
    (.cond (.tmp 67)
      (.seq (.reg [⟨some 4, .mv (.cst (.bool false)), none⟩])
      .ret)
      .skip))
    (.seq (.reg [⟨some 68, .mv (.tmp 12), none⟩,
      ⟨some 69, .mv (.tmp 1), none⟩,
      ⟨some 70, .lenV (.tmp 69), none⟩,
      ⟨some 71, .bin .lss (.tmp 68) (.tmp 70), none⟩,
      ⟨some 72, .mv (.tmp 71), none⟩,
      ⟨some 73, .mv (.tmp 1), some (72, true)⟩,
      ⟨some 74, .mv (.tmp 12), some (72, true)⟩,
      ⟨some 75, .iadS 5 (.tmp 73) (.tmp 74), some (72, true)⟩,
      ⟨some 76, .fadr 0 (.tmp 75), some (72, true)⟩,
      ⟨some 77, .load false 1 (.tmp 76), some (72, true)⟩,
      ⟨some 78, .conv .u64 (.tmp 77), some (72, true)⟩,
      ⟨some 79, .bin .rem (.tmp 78) (.cst (.int .u64 8)), some (72, true)⟩,
      ⟨some 80, .bin .lss (.tmp 79) (.cst (.int .u64 5)), some (72, true)⟩,
      ⟨some 81, .pick (.tmp 72) (.tmp 80) (.cst (.bool false)), none⟩])
    (.cond (.tmp 81)
      (.drw [⟨some 83, .load true 3 (.tmp 5), none⟩,
        ⟨some 84, .call 18 [(.cst (.int .i64 6))], none⟩,
        ⟨some 85, .mv (.tmp 1), none⟩,
        ⟨some 86, .mv (.tmp 12), none⟩,
        ⟨some 87, .iadS 5 (.tmp 85) (.tmp 86), none⟩,
        ⟨some 88, .load true 5 (.tmp 87), none⟩,
        ⟨some 89, .call 17 [(.tmp 83), (.tmp 84), (.tmp 88)], none⟩,
        ⟨some 82, .mv (.tmp 89), none⟩,
        ⟨some 90, .ext (.tmp 82) 0, none⟩,
        ⟨some 91, .ext (.tmp 82) 1, none⟩,
        ⟨some 92, .ext (.tmp 82) 2, none⟩,
        ⟨none, .store 3 (.tmp 5) (.tmp 90), none⟩] [[], [], [], [], [], [], [], [], [], [], [], []])
      .skip)))))
    (.reg [⟨some 93, .bin .add (.tmp 61) (.cst (.int .i64 1)), none⟩,
      ⟨some 61, .mv (.tmp 93), none⟩])))))))
  (.seq (.seq (.reg [⟨some 94, .mv (.tmp 1), none⟩,
    ⟨some 95, .mv (.tmp 1), none⟩,
    ⟨some 96, .lenV (.tmp 95), none⟩,
    ⟨some 97, .min [(.tmp 96), (.cst (.int .i64 6))], none⟩,
    ⟨some 98, .slS 5 (.tmp 94) (some (.tmp 97)) none none, none⟩,
    ⟨some 99, .lenV (.tmp 98), none⟩,
    ⟨some 100, .mv (.cst (.int .i64 0)), none⟩])
  (.block 4 (.loop
    (.seq (.reg [⟨some 101, .bin .lss (.tmp 100) (.tmp 99), none⟩])
    (.seq (.cond (.tmp 101)
      .skip
      (.exit 4))
    (.seq (.block 5 (.seq (.reg [⟨some 102, .iadS 5 (.tmp 98) (.tmp 100), none⟩,
      ⟨some 103, .load true 5 (.tmp 102), none⟩,
      ⟨some 14, .newb [(.int .i64 0), (.int .i64 0), (.int .i64 0), .nil, (.bool false)], none⟩,
      ⟨none, .store 5 (.tmp 14) (.tmp 103), none⟩])
    (.seq (.reg [⟨some 104, .fadr 0 (.tmp 14), none⟩,
      ⟨some 105, .load false 1 (.tmp 104), none⟩,
      ⟨some 106, .conv .u64 (.tmp 105), none⟩,
      ⟨some 107, .bin .rem (.tmp 106) (.cst (.int .u64 8)), none⟩,
      ⟨some 108, .bin .lss (.tmp 107) (.cst (.int .u64 5)), none⟩])
    (.cond (.tmp 108)
      (.drw [⟨some 110, .load true 3 (.tmp 5), none⟩,
        ⟨some 111, .call 18 [(.cst (.int .i64 6))], none⟩,
        ⟨some 112, .load true 5 (.tmp 14), none⟩,
        ⟨some 113, .call 17 [(.tmp 110), (.tmp 111), (.tmp 112)], none⟩,
        ⟨some 109, .mv (.tmp 113), none⟩,
        ⟨some 114, .ext (.tmp 109) 0, none⟩,
        ⟨some 115, .ext (.tmp 109) 1, none⟩,
        ⟨some 116, .ext (.tmp 109) 2, none⟩,
        ⟨none, .store 3 (.tmp 5) (.tmp 114), none⟩] [[], [], [], [], [], [], [], [], []])
      .skip))))
    (.reg [⟨some 117, .bin .add (.tmp 100) (.cst (.int .i64 1)), none⟩,
      ⟨some 100, .mv (.tmp 117), none⟩])))))))
  (.seq (.seq (.reg [⟨some 118, .load true 3 (.tmp 5), none⟩,
    ⟨some 119, .call 22 [(.tmp 118)], none⟩,
    ⟨some 120, .lenV (.tmp 119), none⟩,
    ⟨some 121, .mv (.cst (.int .i64 0)), none⟩])
  (.block 6 (.loop
    (.seq (.reg [⟨some 122, .bin .lss (.tmp 121) (.tmp 120), none⟩])
    (.seq (.cond (.tmp 122)
      .skip
      (.exit 6))
    (.seq (.block 7 (.seq (.reg [⟨some 123, .iadS 1 (.tmp 119) (.tmp 121), none⟩,
      ⟨some 124, .load false 1 (.tmp 123), none⟩,
      ⟨some 16, .mv (.tmp 124), none⟩])
    (.seq (.reg [⟨some 125, .mv (.tmp 11), none⟩,
      ⟨some 126, .mv (.tmp 16), none⟩,
      ⟨some 127, .callv (.tmp 125) [(.tmp 126)], none⟩,
      ⟨some 128, .not (.tmp 127), none⟩])
    (.cond (.tmp 128)
      (.seq (.reg [⟨some 4, .mv (.cst (.bool false)), none⟩])
      .ret)
      .skip))))
    (.reg [⟨some 129, .bin .add (.tmp 121) (.cst (.int .i64 1)), none⟩,
      ⟨some 121, .mv (.tmp 129), none⟩])))))))
  (.seq (.reg [⟨some 130, .fadr 0 (.tmp 5), none⟩,
    ⟨some 131, .load false 1 (.tmp 130), none⟩,
    ⟨some 132, .b2s (.tmp 131), none⟩,
    ⟨some 133, .fadr 0 (.tmp 7), none⟩,
    ⟨some 134, .load false 1 (.tmp 133), none⟩,
    ⟨some 135, .b2s (.tmp 134), none⟩,
    ⟨some 136, .binT .eql (.tmp 132) (.tmp 135), none⟩,
    ⟨some 137, .mv (.tmp 136), none⟩,
    ⟨some 138, .load true 3 (.tmp 5), some (137, true)⟩,
    ⟨some 139, .call 22 [(.tmp 138)], some (137, true)⟩,
    ⟨some 140, .lenV (.tmp 139), some (137, true)⟩,
    ⟨some 141, .bin .eql (.tmp 140) (.cst (.int .i64 0)), some (137, true)⟩,
    ⟨some 142, .pick (.tmp 137) (.tmp 141) (.cst (.bool false)), none⟩,
    ⟨some 4, .mv (.tmp 142), none⟩])
  .ret)))))))))))
theorem p_caravellaw10_HeapTells : Try.f6.body.bind (compC Try.prog 143) = some c_caravellaw10_HeapTells := by kernel_rfl
theorem r_caravellaw10_HeapTells : tellR Try.prog Try.f6.results.toList = some [.t 4] := by kernel_rfl

/-- caravel/caravellaw10.HeapPlays: 2 in. -/
def c_caravellaw10_HeapPlays : ACode :=
  (.seq (.reg [⟨some 4, .mv (.cst (.bool false)), none⟩])
  (.seq (.seq (.reg [⟨some 17, .call 9 [], none⟩,
    ⟨some 18, .not (.tmp 17), none⟩,
    ⟨some 19, .mv (.tmp 18), none⟩,
    ⟨some 20, .mv (.tmp 1), some (19, false)⟩,
    ⟨some 21, .call 16 [(.tmp 20)], some (19, false)⟩,
    ⟨some 22, .not (.tmp 21), some (19, false)⟩,
    ⟨some 23, .pick (.tmp 19) (.cst (.bool true)) (.tmp 22), none⟩])
  (.cond (.tmp 23)
    (.seq (.reg [⟨some 24, .call 9 [], none⟩,
      ⟨some 4, .mv (.tmp 24), none⟩])
    .ret)
    .skip))
  (.seq (.reg [⟨some 26, .mv (.tmp 0), none⟩,
    ⟨some 27, .call 11 [(.tmp 26)], none⟩,
    ⟨some 25, .mv (.tmp 27), none⟩,
    ⟨some 28, .ext (.tmp 25) 0, none⟩,
    ⟨some 29, .ext (.tmp 25) 1, none⟩,
    ⟨some 5, .newb [.nil, .nil, .nil], none⟩,
    ⟨none, .store 3 (.tmp 5) (.tmp 28), none⟩,
    ⟨some 6, .mv (.tmp 29), none⟩])
  (.seq (.seq (.reg [⟨some 30, .mv (.tmp 0), none⟩,
    ⟨some 31, .bin .lss (.tmp 30) (.cst (.int .i64 1)), none⟩,
    ⟨some 32, .mv (.tmp 31), none⟩,
    ⟨some 33, .mv (.tmp 0), some (32, false)⟩,
    ⟨some 34, .bin .gtr (.tmp 33) (.cst (.int .i64 64)), some (32, false)⟩,
    ⟨some 35, .pick (.tmp 32) (.cst (.bool true)) (.tmp 34), none⟩])
  (.cond (.tmp 35)
    (.seq (.reg [⟨some 36, .mv (.tmp 6), none⟩,
      ⟨some 37, .bin .eql (.tmp 36) (.cst (.int .i64 1)), none⟩,
      ⟨some 38, .mv (.tmp 37), none⟩,
      ⟨some 39, .fadr 0 (.tmp 5), some (38, true)⟩,
      ⟨some 40, .load false 1 (.tmp 39), some (38, true)⟩,
      ⟨some 41, .lenV (.tmp 40), some (38, true)⟩,
      ⟨some 42, .bin .eql (.tmp 41) (.cst (.int .i64 0)), some (38, true)⟩,
      ⟨some 43, .pick (.tmp 38) (.tmp 42) (.cst (.bool false)), none⟩,
      ⟨some 4, .mv (.tmp 43), none⟩])
    .ret)
    .skip))
  (.seq (.reg [⟨some 44, .mv (.tmp 0), none⟩,
    ⟨some 45, .call 18 [(.tmp 44)], none⟩,
    ⟨some 7, .newb [(.str []), .nil, .nil], none⟩,
    ⟨none, .store 3 (.tmp 7) (.tmp 45), none⟩])
  (.seq (.seq (.reg [⟨some 46, .mv (.tmp 1), none⟩,
    ⟨some 47, .lenV (.tmp 46), none⟩,
    ⟨some 48, .mv (.cst (.int .i64 0)), none⟩])
  (.block 0 (.loop
    (.seq (.reg [⟨some 49, .bin .lss (.tmp 48) (.tmp 47), none⟩])
    (.seq (.cond (.tmp 49)
      .skip
      (.exit 0))
    (.seq (.block 1 (.seq (.reg [⟨some 50, .iadS 5 (.tmp 46) (.tmp 48), none⟩,
      ⟨some 51, .load true 5 (.tmp 50), none⟩,
      ⟨some 9, .newb [(.int .i64 0), (.int .i64 0), (.int .i64 0), .nil, (.bool false)], none⟩,
      ⟨none, .store 5 (.tmp 9) (.tmp 51), none⟩])
    (.seq (.reg [⟨some 53, .load true 3 (.tmp 5), none⟩,
      ⟨some 54, .load true 3 (.tmp 7), none⟩,
      ⟨some 55, .load true 5 (.tmp 9), none⟩,
      ⟨some 56, .call 17 [(.tmp 53), (.tmp 54), (.tmp 55)], none⟩,
      ⟨some 52, .mv (.tmp 56), none⟩,
      ⟨some 57, .ext (.tmp 52) 0, none⟩,
      ⟨some 58, .ext (.tmp 52) 1, none⟩,
      ⟨some 59, .ext (.tmp 52) 2, none⟩,
      ⟨some 10, .newb [.nil, .nil, .nil], none⟩,
      ⟨some 11, .newb [(.str []), .nil, .nil], none⟩,
      ⟨none, .store 3 (.tmp 10) (.tmp 57), none⟩,
      ⟨none, .store 3 (.tmp 11) (.tmp 58), none⟩,
      ⟨some 12, .mv (.tmp 59), none⟩])
    (.seq (.seq (.reg [⟨some 60, .mv (.tmp 12), none⟩,
      ⟨some 61, .not (.tmp 60), none⟩,
      ⟨some 62, .mv (.tmp 61), none⟩,
      ⟨some 63, .load true 3 (.tmp 7), some (62, false)⟩,
      ⟨some 64, .load true 3 (.tmp 5), some (62, false)⟩,
      ⟨some 65, .call 24 [(.tmp 63), (.tmp 64)], some (62, false)⟩,
      ⟨some 66, .not (.tmp 65), some (62, false)⟩,
      ⟨some 67, .pick (.tmp 62) (.cst (.bool true)) (.tmp 66), none⟩,
      ⟨some 68, .mv (.tmp 67), none⟩,
      ⟨some 69, .load true 3 (.tmp 11), some (68, false)⟩,
      ⟨some 70, .load true 3 (.tmp 10), some (68, false)⟩,
      ⟨some 71, .call 24 [(.tmp 69), (.tmp 70)], some (68, false)⟩,
      ⟨some 72, .not (.tmp 71), some (68, false)⟩,
      ⟨some 73, .pick (.tmp 68) (.cst (.bool true)) (.tmp 72), none⟩,
      ⟨some 74, .mv (.tmp 73), none⟩,
      ⟨some 75, .load true 3 (.tmp 10), some (74, false)⟩,
      ⟨some 76, .call 10 [(.tmp 75)], some (74, false)⟩,
      ⟨some 77, .not (.tmp 76), some (74, false)⟩,
      ⟨some 78, .pick (.tmp 74) (.cst (.bool true)) (.tmp 77), none⟩])
    (.cond (.tmp 78)
      (.seq (.reg [⟨some 4, .mv (.cst (.bool false)), none⟩])
      .ret)
      .skip))
    (.drw [⟨some 79, .load true 3 (.tmp 10), none⟩,
      ⟨some 80, .load true 3 (.tmp 11), none⟩,
      ⟨none, .store 3 (.tmp 5) (.tmp 79), none⟩,
      ⟨none, .store 3 (.tmp 7) (.tmp 80), none⟩] [[], [], [1], []])))))
    (.reg [⟨some 81, .bin .add (.tmp 48) (.cst (.int .i64 1)), none⟩,
      ⟨some 48, .mv (.tmp 81), none⟩])))))))
  (.seq (.reg [⟨some 82, .load true 3 (.tmp 5), none⟩,
    ⟨some 83, .call 22 [(.tmp 82)], none⟩,
    ⟨some 13, .mv (.tmp 83), none⟩])
  (.seq (.reg [⟨some 14, .mv (.cst (.int .i64 0)), none⟩])
  (.seq (.seq (.reg [⟨some 84, .fadr 2 (.tmp 7), none⟩,
    ⟨some 85, .load false 1 (.tmp 84), none⟩,
    ⟨some 86, .lenV (.tmp 85), none⟩,
    ⟨some 87, .mv (.cst (.int .i64 0)), none⟩])
  (.block 2 (.loop
    (.seq (.reg [⟨some 88, .bin .lss (.tmp 87) (.tmp 86), none⟩])
    (.seq (.cond (.tmp 88)
      .skip
      (.exit 2))
    (.seq (.block 3 (.seq (.reg [⟨some 89, .mv (.tmp 87), none⟩,
      ⟨some 90, .iadS 1 (.tmp 85) (.tmp 87), none⟩,
      ⟨some 91, .load false 1 (.tmp 90), none⟩,
      ⟨some 15, .mv (.tmp 89), none⟩,
      ⟨some 16, .mv (.tmp 91), none⟩])
    (.seq (.seq (.reg [⟨some 92, .mv (.tmp 16), none⟩,
      ⟨some 93, .mv (.tmp 92), none⟩,
      ⟨some 94, .mv (.tmp 14), some (93, true)⟩,
      ⟨some 95, .mv (.tmp 13), some (93, true)⟩,
      ⟨some 96, .lenV (.tmp 95), some (93, true)⟩,
      ⟨some 97, .bin .geq (.tmp 94) (.tmp 96), some (93, true)⟩,
      ⟨some 98, .mv (.tmp 97), some (93, true)⟩,
      ⟨some 99, .mv (.tmp 13), some (98, false)⟩,
      ⟨some 100, .mv (.tmp 14), some (98, false)⟩,
      ⟨some 101, .iadS 1 (.tmp 99) (.tmp 100), some (98, false)⟩,
      ⟨some 102, .load false 1 (.tmp 101), some (98, false)⟩,
      ⟨some 103, .mv (.tmp 15), some (98, false)⟩,
      ⟨some 104, .bin .neq (.tmp 102) (.tmp 103), some (98, false)⟩,
      ⟨some 105, .pick (.tmp 98) (.cst (.bool true)) (.tmp 104), some (93, true)⟩,
      ⟨some 106, .pick (.tmp 93) (.tmp 105) (.cst (.bool false)), none⟩])
    (.cond (.tmp 106)
      (.seq (.reg [⟨some 4, .mv (.cst (.bool false)), none⟩])
      .ret)
      .skip))
    (.seq (.reg [⟨some 107, .mv (.tmp 16), none⟩])
    (.cond (.tmp 107)
      (.reg [⟨some 108, .mv (.tmp 14), none⟩,
        ⟨some 109, .bin .add (.tmp 108) (.cst (.int .i64 1)), none⟩,
        ⟨some 14, .mv (.tmp 109), none⟩])
      .skip)))))
    (.reg [⟨some 110, .bin .add (.tmp 87) (.cst (.int .i64 1)), none⟩,
      ⟨some 87, .mv (.tmp 110), none⟩])))))))
  (.seq (.drw [⟨some 111, .mv (.tmp 6), none⟩,
    ⟨some 112, .bin .eql (.tmp 111) (.cst (.int .i64 0)), none⟩,
    ⟨some 113, .mv (.tmp 112), none⟩,
    ⟨some 114, .mv (.tmp 14), some (113, true)⟩,
    ⟨some 115, .mv (.tmp 13), some (113, true)⟩,
    ⟨some 116, .lenV (.tmp 115), some (113, true)⟩,
    ⟨some 117, .bin .eql (.tmp 114) (.tmp 116), some (113, true)⟩,
    ⟨some 118, .pick (.tmp 113) (.tmp 117) (.cst (.bool false)), none⟩,
    ⟨some 119, .mv (.tmp 118), none⟩,
    ⟨some 120, .load true 3 (.tmp 7), some (119, true)⟩,
    ⟨some 121, .load true 3 (.tmp 5), some (119, true)⟩,
    ⟨some 122, .call 23 [(.tmp 121)], some (119, true)⟩,
    ⟨some 123, .call 24 [(.tmp 120), (.tmp 122)], some (119, true)⟩,
    ⟨some 124, .pick (.tmp 119) (.tmp 123) (.cst (.bool false)), none⟩,
    ⟨some 4, .mv (.tmp 124), none⟩] [[], [], [], [], [], [], [], [], [], [], [], [], [], [], []])
  .ret))))))))))
theorem p_caravellaw10_HeapPlays : Try.f8.body.bind (compC Try.prog 125) = some c_caravellaw10_HeapPlays := by kernel_rfl
theorem r_caravellaw10_HeapPlays : tellR Try.prog Try.f8.results.toList = some [.t 4] := by kernel_rfl

/-- caravel/caravellaw10.lives: 0 in. -/
def c_caravellaw10_lives : ACode :=
  (.seq (.reg [⟨some 0, .mv (.cst (.bool false)), none⟩])
  (.seq (.reg [⟨some 12, .call 11 [(.cst (.int .i64 2))], none⟩,
    ⟨some 11, .mv (.tmp 12), none⟩,
    ⟨some 13, .ext (.tmp 11) 0, none⟩,
    ⟨some 14, .ext (.tmp 11) 1, none⟩,
    ⟨some 1, .newb [.nil, .nil, .nil], none⟩,
    ⟨none, .store 3 (.tmp 1) (.tmp 13), none⟩,
    ⟨some 2, .mv (.tmp 14), none⟩])
  (.seq (.reg [⟨some 16, .load true 3 (.tmp 1), none⟩,
    ⟨some 17, .call 12 [(.tmp 16), (.cst (.int .i64 3))], none⟩,
    ⟨some 15, .mv (.tmp 17), none⟩,
    ⟨some 18, .ext (.tmp 15) 0, none⟩,
    ⟨some 19, .ext (.tmp 15) 1, none⟩,
    ⟨some 20, .ext (.tmp 15) 2, none⟩,
    ⟨none, .store 3 (.tmp 1) (.tmp 18), none⟩,
    ⟨some 3, .mv (.tmp 19), none⟩,
    ⟨some 4, .mv (.tmp 20), none⟩])
  (.seq (.reg [⟨some 22, .load true 3 (.tmp 1), none⟩,
    ⟨some 23, .call 12 [(.tmp 22), (.cst (.int .i64 100))], none⟩,
    ⟨some 21, .mv (.tmp 23), none⟩,
    ⟨some 24, .ext (.tmp 21) 0, none⟩,
    ⟨some 25, .ext (.tmp 21) 1, none⟩,
    ⟨some 26, .ext (.tmp 21) 2, none⟩,
    ⟨none, .store 3 (.tmp 1) (.tmp 24), none⟩,
    ⟨some 5, .mv (.tmp 25), none⟩,
    ⟨some 6, .mv (.tmp 26), none⟩])
  (.seq (.reg [⟨some 28, .load true 3 (.tmp 1), none⟩,
    ⟨some 29, .call 14 [(.tmp 28), (.cst (.int .i64 0))], none⟩,
    ⟨some 27, .mv (.tmp 29), none⟩,
    ⟨some 30, .ext (.tmp 27) 0, none⟩,
    ⟨some 31, .ext (.tmp 27) 1, none⟩,
    ⟨none, .store 3 (.tmp 1) (.tmp 30), none⟩,
    ⟨some 7, .mv (.tmp 31), none⟩])
  (.seq (.reg [⟨some 33, .load true 3 (.tmp 1), none⟩,
    ⟨some 34, .call 12 [(.tmp 33), (.cst (.int .i64 9))], none⟩,
    ⟨some 32, .mv (.tmp 34), none⟩,
    ⟨some 35, .ext (.tmp 32) 0, none⟩,
    ⟨some 36, .ext (.tmp 32) 1, none⟩,
    ⟨some 37, .ext (.tmp 32) 2, none⟩,
    ⟨some 8, .newb [.nil, .nil, .nil], none⟩,
    ⟨none, .store 3 (.tmp 8) (.tmp 35), none⟩,
    ⟨some 9, .mv (.tmp 36), none⟩,
    ⟨some 10, .mv (.tmp 37), none⟩])
  (.seq (.reg [⟨some 38, .mv (.tmp 2), none⟩,
    ⟨some 39, .bin .eql (.tmp 38) (.cst (.int .i64 0)), none⟩,
    ⟨some 40, .mv (.tmp 39), none⟩,
    ⟨some 41, .mv (.tmp 4), some (40, true)⟩,
    ⟨some 42, .bin .eql (.tmp 41) (.cst (.int .i64 0)), some (40, true)⟩,
    ⟨some 43, .pick (.tmp 40) (.tmp 42) (.cst (.bool false)), none⟩,
    ⟨some 44, .mv (.tmp 43), none⟩,
    ⟨some 45, .mv (.tmp 6), some (44, true)⟩,
    ⟨some 46, .bin .eql (.tmp 45) (.cst (.int .i64 0)), some (44, true)⟩,
    ⟨some 47, .pick (.tmp 44) (.tmp 46) (.cst (.bool false)), none⟩,
    ⟨some 48, .mv (.tmp 47), none⟩,
    ⟨some 49, .mv (.tmp 7), some (48, true)⟩,
    ⟨some 50, .bin .eql (.tmp 49) (.cst (.int .i64 0)), some (48, true)⟩,
    ⟨some 51, .pick (.tmp 48) (.tmp 50) (.cst (.bool false)), none⟩,
    ⟨some 52, .mv (.tmp 51), none⟩,
    ⟨some 53, .mv (.tmp 10), some (52, true)⟩,
    ⟨some 54, .bin .eql (.tmp 53) (.cst (.int .i64 0)), some (52, true)⟩,
    ⟨some 55, .pick (.tmp 52) (.tmp 54) (.cst (.bool false)), none⟩,
    ⟨some 56, .mv (.tmp 55), none⟩,
    ⟨some 57, .mv (.tmp 3), some (56, true)⟩,
    ⟨some 58, .bin .eql (.tmp 57) (.cst (.int .i64 0)), some (56, true)⟩,
    ⟨some 59, .pick (.tmp 56) (.tmp 58) (.cst (.bool false)), none⟩,
    ⟨some 60, .mv (.tmp 59), none⟩,
    ⟨some 61, .mv (.tmp 5), some (60, true)⟩,
    ⟨some 62, .bin .eql (.tmp 61) (.cst (.int .i64 8)), some (60, true)⟩,
    ⟨some 63, .pick (.tmp 60) (.tmp 62) (.cst (.bool false)), none⟩,
    ⟨some 64, .mv (.tmp 63), none⟩,
    ⟨some 65, .mv (.tmp 9), some (64, true)⟩,
    ⟨some 66, .bin .eql (.tmp 65) (.cst (.int .i64 112)), some (64, true)⟩,
    ⟨some 67, .pick (.tmp 64) (.tmp 66) (.cst (.bool false)), none⟩,
    ⟨some 68, .mv (.tmp 67), none⟩,
    ⟨some 69, .pick (.tmp 68) (.cst (.bool true)) (.cst (.bool false)), none⟩,
    ⟨some 0, .mv (.tmp 69), none⟩])
  .ret)))))))
theorem p_caravellaw10_lives : Try.f9.body.bind (compC Try.prog 70) = some c_caravellaw10_lives := by kernel_rfl
theorem r_caravellaw10_lives : tellR Try.prog Try.f9.results.toList = some [.t 0] := by kernel_rfl

/-- caravel/heap.Right: 1 in. -/
def c_heap_Right : ACode :=
  (.seq (.reg [⟨some 1, .box (.tmp 0), none⟩,
    ⟨some 2, .mv (.cst (.bool false)), none⟩])
  (.seq (.reg [⟨some 7, .fadr 0 (.tmp 1), none⟩,
    ⟨some 8, .load false 1 (.tmp 7), none⟩,
    ⟨some 9, .lenV (.tmp 8), none⟩,
    ⟨some 10, .bin .quo (.tmp 9) (.cst (.int .i64 64)), none⟩,
    ⟨some 3, .mv (.tmp 10), none⟩])
  (.seq (.seq (.reg [⟨some 11, .fadr 0 (.tmp 1), none⟩,
    ⟨some 12, .load false 1 (.tmp 11), none⟩,
    ⟨some 13, .lenV (.tmp 12), none⟩,
    ⟨some 14, .bin .rem (.tmp 13) (.cst (.int .i64 64)), none⟩,
    ⟨some 15, .bin .neq (.tmp 14) (.cst (.int .i64 0)), none⟩,
    ⟨some 16, .mv (.tmp 15), none⟩,
    ⟨some 17, .mv (.tmp 3), some (16, false)⟩,
    ⟨some 18, .bin .lss (.tmp 17) (.cst (.int .i64 1)), some (16, false)⟩,
    ⟨some 19, .pick (.tmp 16) (.cst (.bool true)) (.tmp 18), none⟩,
    ⟨some 20, .mv (.tmp 19), none⟩,
    ⟨some 21, .mv (.tmp 3), some (20, false)⟩,
    ⟨some 22, .bin .gtr (.tmp 21) (.cst (.int .i64 64)), some (20, false)⟩,
    ⟨some 23, .pick (.tmp 20) (.cst (.bool true)) (.tmp 22), none⟩,
    ⟨some 24, .mv (.tmp 23), none⟩,
    ⟨some 25, .fadr 2 (.tmp 1), some (24, false)⟩,
    ⟨some 26, .load false 1 (.tmp 25), some (24, false)⟩,
    ⟨some 27, .lenV (.tmp 26), some (24, false)⟩,
    ⟨some 28, .mv (.tmp 3), some (24, false)⟩,
    ⟨some 29, .bin .neq (.tmp 27) (.tmp 28), some (24, false)⟩,
    ⟨some 30, .pick (.tmp 24) (.cst (.bool true)) (.tmp 29), none⟩])
  (.cond (.tmp 30)
    (.seq (.reg [⟨some 2, .mv (.cst (.bool false)), none⟩])
    .ret)
    .skip))
  (.seq (.reg [⟨some 4, .mv (.cst (.int .i64 0)), none⟩])
  (.seq (.seq (.reg [⟨some 31, .fadr 1 (.tmp 1), none⟩,
    ⟨some 32, .load false 1 (.tmp 31), none⟩,
    ⟨some 33, .lenV (.tmp 32), none⟩,
    ⟨some 34, .mv (.cst (.int .i64 0)), none⟩])
  (.block 0 (.loop
    (.seq (.reg [⟨some 35, .bin .lss (.tmp 34) (.tmp 33), none⟩])
    (.seq (.cond (.tmp 35)
      .skip
      (.exit 0))
    (.seq (.block 1 (.seq (.reg [⟨some 36, .iadS 2 (.tmp 32) (.tmp 34), none⟩,
      ⟨some 37, .load true 2 (.tmp 36), none⟩,
      ⟨some 6, .newb [(.int .i64 0), (.int .i64 0)], none⟩,
      ⟨none, .store 2 (.tmp 6) (.tmp 37), none⟩])
    (.seq (.seq (.reg [⟨some 38, .fadr 0 (.tmp 6), none⟩,
      ⟨some 39, .load false 1 (.tmp 38), none⟩,
      ⟨some 40, .mv (.tmp 4), none⟩,
      ⟨some 41, .bin .lss (.tmp 39) (.tmp 40), none⟩,
      ⟨some 42, .mv (.tmp 41), none⟩,
      ⟨some 43, .fadr 0 (.tmp 6), some (42, false)⟩,
      ⟨some 44, .load false 1 (.tmp 43), some (42, false)⟩,
      ⟨some 45, .bin .rem (.tmp 44) (.cst (.int .i64 8)), some (42, false)⟩,
      ⟨some 46, .bin .neq (.tmp 45) (.cst (.int .i64 0)), some (42, false)⟩,
      ⟨some 47, .pick (.tmp 42) (.cst (.bool true)) (.tmp 46), none⟩,
      ⟨some 48, .mv (.tmp 47), none⟩,
      ⟨some 49, .fadr 1 (.tmp 6), some (48, false)⟩,
      ⟨some 50, .load false 1 (.tmp 49), some (48, false)⟩,
      ⟨some 51, .bin .lss (.tmp 50) (.cst (.int .i64 8)), some (48, false)⟩,
      ⟨some 52, .pick (.tmp 48) (.cst (.bool true)) (.tmp 51), none⟩,
      ⟨some 53, .mv (.tmp 52), none⟩,
      ⟨some 54, .fadr 1 (.tmp 6), some (53, false)⟩,
      ⟨some 55, .load false 1 (.tmp 54), some (53, false)⟩,
      ⟨some 56, .bin .rem (.tmp 55) (.cst (.int .i64 8)), some (53, false)⟩,
      ⟨some 57, .bin .neq (.tmp 56) (.cst (.int .i64 0)), some (53, false)⟩,
      ⟨some 58, .pick (.tmp 53) (.cst (.bool true)) (.tmp 57), none⟩,
      ⟨some 59, .mv (.tmp 58), none⟩,
      ⟨some 60, .fadr 1 (.tmp 6), some (59, false)⟩,
      ⟨some 61, .load false 1 (.tmp 60), some (59, false)⟩,
      ⟨some 62, .fadr 0 (.tmp 1), some (59, false)⟩,
      ⟨some 63, .load false 1 (.tmp 62), some (59, false)⟩,
      ⟨some 64, .lenV (.tmp 63), some (59, false)⟩,
      ⟨some 65, .fadr 0 (.tmp 6), some (59, false)⟩,
      ⟨some 66, .load false 1 (.tmp 65), some (59, false)⟩,
      ⟨some 67, .bin .sub (.tmp 64) (.tmp 66), some (59, false)⟩,
      ⟨some 68, .bin .gtr (.tmp 61) (.tmp 67), some (59, false)⟩,
      ⟨some 69, .pick (.tmp 59) (.cst (.bool true)) (.tmp 68), none⟩])
    (.cond (.tmp 69)
      (.seq (.reg [⟨some 2, .mv (.cst (.bool false)), none⟩])
      .ret)
      .skip))
    (.reg [⟨some 70, .fadr 0 (.tmp 6), none⟩,
      ⟨some 71, .load false 1 (.tmp 70), none⟩,
      ⟨some 72, .fadr 1 (.tmp 6), none⟩,
      ⟨some 73, .load false 1 (.tmp 72), none⟩,
      ⟨some 74, .bin .add (.tmp 71) (.tmp 73), none⟩,
      ⟨some 4, .mv (.tmp 74), none⟩]))))
    (.reg [⟨some 75, .bin .add (.tmp 34) (.cst (.int .i64 1)), none⟩,
      ⟨some 34, .mv (.tmp 75), none⟩])))))))
  (.seq (.reg [⟨some 2, .mv (.cst (.bool true)), none⟩])
  .ret))))))
theorem p_heap_Right : Try.f10.body.bind (compC Try.prog 76) = some c_heap_Right := by kernel_rfl
theorem r_heap_Right : tellR Try.prog Try.f10.results.toList = some [.t 2] := by kernel_rfl

/-- caravel/heap.New: 1 in. -/
def c_heap_New : ACode :=
  (.seq (.reg [⟨some 2, .newb [.nil, .nil, .nil], none⟩,
    ⟨some 3, .mv (.cst (.int .i64 0)), none⟩])
  (.seq (.seq (.reg [⟨some 4, .mv (.tmp 0), none⟩,
    ⟨some 5, .bin .lss (.tmp 4) (.cst (.int .i64 1)), none⟩,
    ⟨some 6, .mv (.tmp 5), none⟩,
    ⟨some 7, .mv (.tmp 0), some (6, false)⟩,
    ⟨some 8, .bin .gtr (.tmp 7) (.cst (.int .i64 64)), some (6, false)⟩,
    ⟨some 9, .pick (.tmp 6) (.cst (.bool true)) (.tmp 8), none⟩])
  (.cond (.tmp 9)
    (.seq (.reg [⟨some 10, .build [.nil, .nil, .nil] [], none⟩,
      ⟨none, .store 3 (.tmp 2) (.tmp 10), none⟩,
      ⟨some 3, .mv (.cst (.int .i64 1)), none⟩])
    .ret)
    .skip))
  (.seq (.reg [⟨some 11, .mv (.tmp 0), none⟩,
    ⟨some 12, .bin .mul (.tmp 11) (.cst (.int .i64 64)), none⟩,
    ⟨some 13, .mks 1 1 (.int .u8 0) (.tmp 12) (.tmp 12), none⟩,
    ⟨some 14, .mv (.tmp 0), none⟩,
    ⟨some 15, .mks 1 1 (.bool false) (.tmp 14) (.tmp 14), none⟩,
    ⟨some 16, .build [.nil, .nil, .nil] [(0, 1, (.tmp 13)), (2, 1, (.tmp 15))], none⟩,
    ⟨none, .store 3 (.tmp 2) (.tmp 16), none⟩,
    ⟨some 3, .mv (.cst (.int .i64 0)), none⟩])
  .ret)))
theorem p_heap_New : Try.f11.body.bind (compC Try.prog 17) = some c_heap_New := by kernel_rfl
theorem r_heap_New : tellR Try.prog Try.f11.results.toList = some [.c 2 true 3, .t 3] := by kernel_rfl

/-- caravel/heap.Alloc: 2 in. -/
def c_heap_Alloc : ACode :=
  (.seq (.reg [⟨some 2, .box (.tmp 0), none⟩,
    ⟨some 4, .newb [.nil, .nil, .nil], none⟩,
    ⟨some 5, .mv (.cst (.int .i64 0)), none⟩,
    ⟨some 6, .mv (.cst (.int .i64 0)), none⟩])
  (.seq (.seq (.reg [⟨some 10, .mv (.tmp 1), none⟩,
    ⟨some 11, .bin .lss (.tmp 10) (.cst (.int .i64 1)), none⟩])
  (.cond (.tmp 11)
    (.seq (.reg [⟨some 12, .load true 3 (.tmp 2), none⟩,
      ⟨some 13, .call 23 [(.tmp 12)], none⟩,
      ⟨none, .store 3 (.tmp 4) (.tmp 13), none⟩,
      ⟨some 5, .mv (.cst (.int .i64 0)), none⟩,
      ⟨some 6, .mv (.cst (.int .i64 1)), none⟩])
    .ret)
    .skip))
  (.seq (.seq (.reg [⟨some 14, .mv (.tmp 1), none⟩,
    ⟨some 15, .fadr 0 (.tmp 2), none⟩,
    ⟨some 16, .load false 1 (.tmp 15), none⟩,
    ⟨some 17, .lenV (.tmp 16), none⟩,
    ⟨some 18, .bin .gtr (.tmp 14) (.tmp 17), none⟩])
  (.cond (.tmp 18)
    (.seq (.reg [⟨some 19, .load true 3 (.tmp 2), none⟩,
      ⟨some 20, .call 23 [(.tmp 19)], none⟩,
      ⟨none, .store 3 (.tmp 4) (.tmp 20), none⟩,
      ⟨some 5, .mv (.cst (.int .i64 0)), none⟩,
      ⟨some 6, .mv (.cst (.int .i64 5)), none⟩])
    .ret)
    .skip))
  (.seq (.reg [⟨some 21, .mv (.tmp 1), none⟩,
    ⟨some 22, .bin .add (.tmp 21) (.cst (.int .i64 8)), none⟩,
    ⟨some 23, .bin .sub (.tmp 22) (.cst (.int .i64 1)), none⟩,
    ⟨some 24, .bin .quo (.tmp 23) (.cst (.int .i64 8)), none⟩,
    ⟨some 25, .bin .mul (.tmp 24) (.cst (.int .i64 8)), none⟩,
    ⟨some 1, .mv (.tmp 25), none⟩])
  (.seq (.reg [⟨some 7, .mv (.cst (.int .i64 0)), none⟩,
    ⟨some 8, .mv (.cst (.int .i64 0)), none⟩])
  (.seq (.block 0 (.loop
    (.seq (.seq (.reg [⟨some 26, .mv (.tmp 8), none⟩,
      ⟨some 27, .fadr 1 (.tmp 2), none⟩,
      ⟨some 28, .load false 1 (.tmp 27), none⟩,
      ⟨some 29, .lenV (.tmp 28), none⟩,
      ⟨some 30, .bin .lss (.tmp 26) (.tmp 29), none⟩,
      ⟨some 31, .mv (.tmp 30), none⟩,
      ⟨some 32, .fadr 1 (.tmp 2), some (31, true)⟩,
      ⟨some 33, .load false 1 (.tmp 32), some (31, true)⟩,
      ⟨some 34, .mv (.tmp 8), some (31, true)⟩,
      ⟨some 35, .iadS 2 (.tmp 33) (.tmp 34), some (31, true)⟩,
      ⟨some 36, .fadr 0 (.tmp 35), some (31, true)⟩,
      ⟨some 37, .load false 1 (.tmp 36), some (31, true)⟩,
      ⟨some 38, .mv (.tmp 7), some (31, true)⟩,
      ⟨some 39, .bin .sub (.tmp 37) (.tmp 38), some (31, true)⟩,
      ⟨some 40, .mv (.tmp 1), some (31, true)⟩,
      ⟨some 41, .bin .lss (.tmp 39) (.tmp 40), some (31, true)⟩,
      ⟨some 42, .pick (.tmp 31) (.tmp 41) (.cst (.bool false)), none⟩])
    (.cond (.tmp 42)
      .skip
      (.exit 0)))
    (.block 1 (.seq (.reg [⟨some 43, .fadr 1 (.tmp 2), none⟩,
      ⟨some 44, .load false 1 (.tmp 43), none⟩,
      ⟨some 45, .mv (.tmp 8), none⟩,
      ⟨some 46, .iadS 2 (.tmp 44) (.tmp 45), none⟩,
      ⟨some 47, .fadr 0 (.tmp 46), none⟩,
      ⟨some 48, .load false 1 (.tmp 47), none⟩,
      ⟨some 49, .fadr 1 (.tmp 2), none⟩,
      ⟨some 50, .load false 1 (.tmp 49), none⟩,
      ⟨some 51, .mv (.tmp 8), none⟩,
      ⟨some 52, .iadS 2 (.tmp 50) (.tmp 51), none⟩,
      ⟨some 53, .fadr 1 (.tmp 52), none⟩,
      ⟨some 54, .load false 1 (.tmp 53), none⟩,
      ⟨some 55, .bin .add (.tmp 48) (.tmp 54), none⟩,
      ⟨some 7, .mv (.tmp 55), none⟩])
    (.reg [⟨some 56, .mv (.tmp 8), none⟩,
      ⟨some 57, .bin .add (.tmp 56) (.cst (.int .i64 1)), none⟩,
      ⟨some 8, .mv (.tmp 57), none⟩]))))))
  (.seq (.seq (.reg [⟨some 58, .mv (.tmp 1), none⟩,
    ⟨some 59, .fadr 0 (.tmp 2), none⟩,
    ⟨some 60, .load false 1 (.tmp 59), none⟩,
    ⟨some 61, .lenV (.tmp 60), none⟩,
    ⟨some 62, .mv (.tmp 7), none⟩,
    ⟨some 63, .bin .sub (.tmp 61) (.tmp 62), none⟩,
    ⟨some 64, .bin .gtr (.tmp 58) (.tmp 63), none⟩])
  (.cond (.tmp 64)
    (.seq (.reg [⟨some 65, .load true 3 (.tmp 2), none⟩,
      ⟨some 66, .call 23 [(.tmp 65)], none⟩,
      ⟨none, .store 3 (.tmp 4) (.tmp 66), none⟩,
      ⟨some 5, .mv (.cst (.int .i64 0)), none⟩,
      ⟨some 6, .mv (.cst (.int .i64 5)), none⟩])
    .ret)
    .skip))
  (.seq (.reg [⟨some 67, .load true 3 (.tmp 2), none⟩,
    ⟨some 68, .call 23 [(.tmp 67)], none⟩,
    ⟨some 9, .newb [.nil, .nil, .nil], none⟩,
    ⟨none, .store 3 (.tmp 9) (.tmp 68), none⟩])
  (.seq (.reg [⟨some 69, .fadr 1 (.tmp 9), none⟩,
    ⟨some 70, .load false 1 (.tmp 69), none⟩,
    ⟨some 71, .mv (.tmp 8), none⟩,
    ⟨some 72, .mv (.tmp 7), none⟩,
    ⟨some 73, .mv (.tmp 1), none⟩,
    ⟨some 74, .build [(.int .i64 0), (.int .i64 0)] [(0, 1, (.tmp 72)), (1, 1, (.tmp 73))], none⟩,
    ⟨some 75, .bsl 2 [(.tmp 74)], none⟩,
    ⟨some 76, .call 25 [(.tmp 70), (.tmp 71), (.tmp 75)], none⟩,
    ⟨some 77, .fadr 1 (.tmp 9), none⟩,
    ⟨none, .store 1 (.tmp 77) (.tmp 76), none⟩])
  (.seq (.reg [⟨some 78, .load true 3 (.tmp 9), none⟩,
    ⟨some 79, .mv (.tmp 7), none⟩,
    ⟨none, .store 3 (.tmp 4) (.tmp 78), none⟩,
    ⟨some 5, .mv (.tmp 79), none⟩,
    ⟨some 6, .mv (.cst (.int .i64 0)), none⟩])
  .ret))))))))))
theorem p_heap_Alloc : Try.f12.body.bind (compC Try.prog 80) = some c_heap_Alloc := by kernel_rfl
theorem r_heap_Alloc : tellR Try.prog Try.f12.results.toList = some [.c 4 true 3, .t 5, .t 6] := by kernel_rfl

/-- caravel/heap.Store: 3 in. -/
def c_heap_Store : ACode :=
  (.seq (.reg [⟨some 3, .box (.tmp 0), none⟩,
    ⟨some 6, .newb [.nil, .nil, .nil], none⟩,
    ⟨some 7, .mv (.cst (.int .i64 0)), none⟩])
  (.seq (.seq (.reg [⟨some 9, .mv (.tmp 1), none⟩,
    ⟨some 10, .bin .lss (.tmp 9) (.cst (.int .i64 0)), none⟩,
    ⟨some 11, .mv (.tmp 10), none⟩,
    ⟨some 12, .load true 3 (.tmp 3), some (11, false)⟩,
    ⟨some 13, .mv (.tmp 1), some (11, false)⟩,
    ⟨some 14, .mv (.tmp 2), some (11, false)⟩,
    ⟨some 15, .lenV (.tmp 14), some (11, false)⟩,
    ⟨some 16, .call 26 [(.tmp 12), (.tmp 13), (.tmp 15)], some (11, false)⟩,
    ⟨some 17, .not (.tmp 16), some (11, false)⟩,
    ⟨some 18, .pick (.tmp 11) (.cst (.bool true)) (.tmp 17), none⟩])
  (.cond (.tmp 18)
    (.seq (.reg [⟨some 19, .load true 3 (.tmp 3), none⟩,
      ⟨some 20, .call 23 [(.tmp 19)], none⟩,
      ⟨none, .store 3 (.tmp 6) (.tmp 20), none⟩,
      ⟨some 7, .mv (.cst (.int .i64 2)), none⟩])
    .ret)
    .skip))
  (.seq (.reg [⟨some 21, .load true 3 (.tmp 3), none⟩,
    ⟨some 22, .call 23 [(.tmp 21)], none⟩,
    ⟨some 8, .newb [.nil, .nil, .nil], none⟩,
    ⟨none, .store 3 (.tmp 8) (.tmp 22), none⟩])
  (.seq (.reg [⟨some 23, .fadr 0 (.tmp 8), none⟩,
    ⟨some 24, .load false 1 (.tmp 23), none⟩,
    ⟨some 25, .mv (.tmp 1), none⟩,
    ⟨some 26, .slS 1 (.tmp 24) (some (.tmp 25)) none none, none⟩,
    ⟨some 27, .mv (.tmp 2), none⟩,
    ⟨some 28, .cpy 1 (.tmp 26) (.tmp 27), none⟩])
  (.seq (.reg [⟨some 29, .load true 3 (.tmp 8), none⟩,
    ⟨some 30, .mv (.tmp 1), none⟩,
    ⟨some 31, .mv (.tmp 2), none⟩,
    ⟨some 32, .lenV (.tmp 31), none⟩,
    ⟨some 33, .call 27 [(.tmp 29), (.tmp 30), (.tmp 32)], none⟩])
  (.seq (.reg [⟨some 34, .load true 3 (.tmp 8), none⟩,
    ⟨none, .store 3 (.tmp 6) (.tmp 34), none⟩,
    ⟨some 7, .mv (.cst (.int .i64 0)), none⟩])
  .ret))))))
theorem p_heap_Store : Try.f13.body.bind (compC Try.prog 35) = some c_heap_Store := by kernel_rfl
theorem r_heap_Store : tellR Try.prog Try.f13.results.toList = some [.c 6 true 3, .t 7] := by kernel_rfl

/-- caravel/heap.Free: 2 in. -/
def c_heap_Free : ACode :=
  (.seq (.reg [⟨some 2, .box (.tmp 0), none⟩,
    ⟨some 4, .newb [.nil, .nil, .nil], none⟩,
    ⟨some 5, .mv (.cst (.int .i64 0)), none⟩])
  (.seq (.reg [⟨some 9, .load true 3 (.tmp 2), none⟩,
    ⟨some 10, .mv (.tmp 1), none⟩,
    ⟨some 11, .call 28 [(.tmp 9), (.tmp 10)], none⟩,
    ⟨some 6, .mv (.tmp 11), none⟩])
  (.seq (.seq (.reg [⟨some 12, .mv (.tmp 6), none⟩,
    ⟨some 13, .bin .lss (.tmp 12) (.cst (.int .i64 0)), none⟩])
  (.cond (.tmp 13)
    (.seq (.reg [⟨some 14, .load true 3 (.tmp 2), none⟩,
      ⟨some 15, .call 23 [(.tmp 14)], none⟩,
      ⟨none, .store 3 (.tmp 4) (.tmp 15), none⟩,
      ⟨some 5, .mv (.cst (.int .i64 2)), none⟩])
    .ret)
    .skip))
  (.seq (.reg [⟨some 16, .load true 3 (.tmp 2), none⟩,
    ⟨some 17, .call 23 [(.tmp 16)], none⟩,
    ⟨some 7, .newb [.nil, .nil, .nil], none⟩,
    ⟨none, .store 3 (.tmp 7) (.tmp 17), none⟩])
  (.seq (.reg [⟨some 18, .fadr 1 (.tmp 7), none⟩,
    ⟨some 19, .load false 1 (.tmp 18), none⟩,
    ⟨some 20, .mv (.tmp 6), none⟩,
    ⟨some 21, .iadS 2 (.tmp 19) (.tmp 20), none⟩,
    ⟨some 22, .load true 2 (.tmp 21), none⟩,
    ⟨some 8, .newb [(.int .i64 0), (.int .i64 0)], none⟩,
    ⟨none, .store 2 (.tmp 8) (.tmp 22), none⟩])
  (.seq (.reg [⟨some 23, .fadr 1 (.tmp 7), none⟩,
    ⟨some 24, .load false 1 (.tmp 23), none⟩,
    ⟨some 25, .mv (.tmp 6), none⟩,
    ⟨some 26, .mv (.tmp 6), none⟩,
    ⟨some 27, .bin .add (.tmp 26) (.cst (.int .i64 1)), none⟩,
    ⟨some 28, .call 29 [(.tmp 24), (.tmp 25), (.tmp 27)], none⟩,
    ⟨some 29, .fadr 1 (.tmp 7), none⟩,
    ⟨none, .store 1 (.tmp 29) (.tmp 28), none⟩])
  (.seq (.reg [⟨some 30, .fadr 0 (.tmp 7), none⟩,
    ⟨some 31, .load false 1 (.tmp 30), none⟩,
    ⟨some 32, .fadr 0 (.tmp 8), none⟩,
    ⟨some 33, .load false 1 (.tmp 32), none⟩,
    ⟨some 34, .fadr 0 (.tmp 8), none⟩,
    ⟨some 35, .load false 1 (.tmp 34), none⟩,
    ⟨some 36, .fadr 1 (.tmp 8), none⟩,
    ⟨some 37, .load false 1 (.tmp 36), none⟩,
    ⟨some 38, .bin .add (.tmp 35) (.tmp 37), none⟩,
    ⟨some 39, .slS 1 (.tmp 31) (some (.tmp 33)) (some (.tmp 38)) none, none⟩,
    ⟨none, .clr 1 (.int .u8 0) (.tmp 39), none⟩])
  (.seq (.reg [⟨some 40, .load true 3 (.tmp 7), none⟩,
    ⟨some 41, .fadr 0 (.tmp 8), none⟩,
    ⟨some 42, .load false 1 (.tmp 41), none⟩,
    ⟨some 43, .fadr 1 (.tmp 8), none⟩,
    ⟨some 44, .load false 1 (.tmp 43), none⟩,
    ⟨some 45, .call 27 [(.tmp 40), (.tmp 42), (.tmp 44)], none⟩])
  (.seq (.reg [⟨some 46, .load true 3 (.tmp 7), none⟩,
    ⟨none, .store 3 (.tmp 4) (.tmp 46), none⟩,
    ⟨some 5, .mv (.cst (.int .i64 0)), none⟩])
  .ret)))))))))
theorem p_heap_Free : Try.f14.body.bind (compC Try.prog 47) = some c_heap_Free := by kernel_rfl
theorem r_heap_Free : tellR Try.prog Try.f14.results.toList = some [.c 4 true 3, .t 5] := by kernel_rfl

/-- caravel/heap.Load: 3 in. -/
def c_heap_Load : ACode :=
  (.seq (.reg [⟨some 3, .box (.tmp 0), none⟩,
    ⟨some 6, .mv (.cst .nil), none⟩,
    ⟨some 7, .mv (.cst (.int .i64 0)), none⟩])
  (.seq (.block 0 (.seq (.reg [⟨some 9, .mv (.tmp 2), none⟩,
    ⟨some 10, .bin .lss (.tmp 9) (.cst (.int .i64 0)), none⟩,
    ⟨some 8, .mv (.tmp 10), none⟩])
  (.cond (.tmp 8)
    (.seq (.reg [⟨some 6, .mv (.cst .nil), none⟩,
      ⟨some 7, .mv (.cst (.int .i64 1)), none⟩])
    .ret)
    (.seq (.reg [⟨some 12, .mv (.tmp 1), none⟩,
      ⟨some 13, .bin .lss (.tmp 12) (.cst (.int .i64 0)), none⟩,
      ⟨some 14, .mv (.tmp 13), none⟩,
      ⟨some 15, .load true 3 (.tmp 3), some (14, false)⟩,
      ⟨some 16, .mv (.tmp 1), some (14, false)⟩,
      ⟨some 17, .mv (.tmp 2), some (14, false)⟩,
      ⟨some 18, .call 26 [(.tmp 15), (.tmp 16), (.tmp 17)], some (14, false)⟩,
      ⟨some 19, .not (.tmp 18), some (14, false)⟩,
      ⟨some 20, .pick (.tmp 14) (.cst (.bool true)) (.tmp 19), none⟩,
      ⟨some 11, .mv (.tmp 20), none⟩])
    (.cond (.tmp 11)
      (.seq (.reg [⟨some 6, .mv (.cst .nil), none⟩,
        ⟨some 7, .mv (.cst (.int .i64 2)), none⟩])
      .ret)
      .skip)))))
  (.seq (.reg [⟨some 21, .fadr 0 (.tmp 3), none⟩,
    ⟨some 22, .load false 1 (.tmp 21), none⟩,
    ⟨some 23, .mv (.tmp 1), none⟩,
    ⟨some 24, .mv (.tmp 1), none⟩,
    ⟨some 25, .mv (.tmp 2), none⟩,
    ⟨some 26, .bin .add (.tmp 24) (.tmp 25), none⟩,
    ⟨some 27, .slS 1 (.tmp 22) (some (.tmp 23)) (some (.tmp 26)) none, none⟩,
    ⟨some 28, .call 30 [(.tmp 27)], none⟩,
    ⟨some 6, .mv (.tmp 28), none⟩,
    ⟨some 7, .mv (.cst (.int .i64 0)), none⟩])
  .ret)))
theorem p_heap_Load : Try.f15.body.bind (compC Try.prog 29) = some c_heap_Load := by kernel_rfl
theorem r_heap_Load : tellR Try.prog Try.f15.results.toList = some [.t 6, .t 7] := by kernel_rfl

/-- caravel/caravellaw10.fits: 1 in. -/
def c_caravellaw10_fits : ACode :=
  (.seq (.reg [⟨some 2, .mv (.cst (.bool false)), none⟩])
  (.seq (.seq (.reg [⟨some 5, .mv (.tmp 0), none⟩,
    ⟨some 6, .lenV (.tmp 5), none⟩,
    ⟨some 7, .mv (.cst (.int .i64 0)), none⟩])
  (.block 0 (.loop
    (.seq (.reg [⟨some 8, .bin .lss (.tmp 7) (.tmp 6), none⟩])
    (.seq (.cond (.tmp 8)
      .skip
      (.exit 0))
    (.seq (.block 1 (.seq (.reg [⟨some 9, .iadS 5 (.tmp 5) (.tmp 7), none⟩,
      ⟨some 10, .load true 5 (.tmp 9), none⟩,
      ⟨some 4, .newb [(.int .i64 0), (.int .i64 0), (.int .i64 0), .nil, (.bool false)], none⟩,
      ⟨none, .store 5 (.tmp 4) (.tmp 10), none⟩])
    (.seq (.reg [⟨some 11, .fadr 3 (.tmp 4), none⟩,
      ⟨some 12, .load false 1 (.tmp 11), none⟩,
      ⟨some 13, .lenV (.tmp 12), none⟩,
      ⟨some 14, .bin .gtr (.tmp 13) (.cst (.int .i64 300)), none⟩])
    (.cond (.tmp 14)
      (.seq (.reg [⟨some 2, .mv (.cst (.bool false)), none⟩])
      .ret)
      .skip))))
    (.reg [⟨some 15, .bin .add (.tmp 7) (.cst (.int .i64 1)), none⟩,
      ⟨some 7, .mv (.tmp 15), none⟩])))))))
  (.seq (.reg [⟨some 16, .mv (.tmp 0), none⟩,
    ⟨some 17, .lenV (.tmp 16), none⟩,
    ⟨some 18, .bin .leq (.tmp 17) (.cst (.int .i64 60)), none⟩,
    ⟨some 2, .mv (.tmp 18), none⟩])
  .ret)))
theorem p_caravellaw10_fits : Try.f16.body.bind (compC Try.prog 19) = some c_caravellaw10_fits := by kernel_rfl
theorem r_caravellaw10_fits : tellR Try.prog Try.f16.results.toList = some [.t 2] := by kernel_rfl

/-- caravel/caravellaw10.step: 3 in. -/
def c_caravellaw10_step : ACode :=
  (.seq (.reg [⟨some 3, .box (.tmp 0), none⟩,
    ⟨some 4, .box (.tmp 1), none⟩,
    ⟨some 5, .box (.tmp 2), none⟩,
    ⟨some 6, .newb [.nil, .nil, .nil], none⟩,
    ⟨some 7, .newb [(.str []), .nil, .nil], none⟩,
    ⟨some 8, .mv (.cst (.bool false)), none⟩])
  (.seq (.seq (.reg [⟨some 38, .fadr 0 (.tmp 5), none⟩,
    ⟨some 39, .load false 1 (.tmp 38), none⟩,
    ⟨some 40, .conv .u64 (.tmp 39), none⟩,
    ⟨some 41, .bin .rem (.tmp 40) (.cst (.int .u64 8)), none⟩])
  (.block 0 (.seq (.seq (.reg [⟨some 43, .bin .eql (.tmp 41) (.cst (.int .u64 0)), none⟩,
    ⟨some 42, .mv (.tmp 43), none⟩])
  (.cond (.tmp 42)
    .skip
    (.reg [⟨some 44, .bin .eql (.tmp 41) (.cst (.int .u64 1)), none⟩,
      ⟨some 42, .mv (.tmp 44), none⟩])))
  (.cond (.tmp 42)
    (.seq (.reg [⟨some 46, .load true 3 (.tmp 3), none⟩,
      ⟨some 47, .fadr 2 (.tmp 5), none⟩,
      ⟨some 48, .load false 1 (.tmp 47), none⟩,
      ⟨some 49, .call 12 [(.tmp 46), (.tmp 48)], none⟩,
      ⟨some 45, .mv (.tmp 49), none⟩,
      ⟨some 50, .ext (.tmp 45) 0, none⟩,
      ⟨some 51, .ext (.tmp 45) 1, none⟩,
      ⟨some 52, .ext (.tmp 45) 2, none⟩,
      ⟨some 9, .newb [.nil, .nil, .nil], none⟩,
      ⟨none, .store 3 (.tmp 9) (.tmp 50), none⟩,
      ⟨some 10, .mv (.tmp 51), none⟩,
      ⟨some 11, .mv (.tmp 52), none⟩])
    (.seq (.reg [⟨some 54, .load true 3 (.tmp 4), none⟩,
      ⟨some 55, .fadr 2 (.tmp 5), none⟩,
      ⟨some 56, .load false 1 (.tmp 55), none⟩,
      ⟨some 57, .call 31 [(.tmp 54), (.tmp 56)], none⟩,
      ⟨some 53, .mv (.tmp 57), none⟩,
      ⟨some 58, .ext (.tmp 53) 0, none⟩,
      ⟨some 59, .ext (.tmp 53) 1, none⟩,
      ⟨some 60, .ext (.tmp 53) 2, none⟩,
      ⟨some 12, .newb [(.str []), .nil, .nil], none⟩,
      ⟨none, .store 3 (.tmp 12) (.tmp 58), none⟩,
      ⟨some 13, .mv (.tmp 59), none⟩,
      ⟨some 14, .mv (.tmp 60), none⟩])
    (.seq (.drw [⟨some 61, .load true 3 (.tmp 9), none⟩,
      ⟨some 62, .load true 3 (.tmp 12), none⟩,
      ⟨some 63, .mv (.tmp 10), none⟩,
      ⟨some 64, .mv (.tmp 13), none⟩,
      ⟨some 65, .bin .eql (.tmp 63) (.tmp 64), none⟩,
      ⟨some 66, .mv (.tmp 65), none⟩,
      ⟨some 67, .mv (.tmp 11), some (66, true)⟩,
      ⟨some 68, .mv (.tmp 14), some (66, true)⟩,
      ⟨some 69, .bin .eql (.tmp 67) (.tmp 68), some (66, true)⟩,
      ⟨some 70, .pick (.tmp 66) (.tmp 69) (.cst (.bool false)), none⟩,
      ⟨none, .store 3 (.tmp 6) (.tmp 61), none⟩,
      ⟨none, .store 3 (.tmp 7) (.tmp 62), none⟩,
      ⟨some 8, .mv (.tmp 70), none⟩] [[], [], [], [], [], [], [], [], [], [], [1], [], []])
    .ret)))
    (.seq (.reg [⟨some 72, .bin .eql (.tmp 41) (.cst (.int .u64 2)), none⟩,
      ⟨some 71, .mv (.tmp 72), none⟩])
    (.cond (.tmp 71)
      (.seq (.reg [⟨some 74, .load true 3 (.tmp 3), none⟩,
        ⟨some 75, .fadr 1 (.tmp 5), none⟩,
        ⟨some 76, .load false 1 (.tmp 75), none⟩,
        ⟨some 77, .call 14 [(.tmp 74), (.tmp 76)], none⟩,
        ⟨some 73, .mv (.tmp 77), none⟩,
        ⟨some 78, .ext (.tmp 73) 0, none⟩,
        ⟨some 79, .ext (.tmp 73) 1, none⟩,
        ⟨some 15, .newb [.nil, .nil, .nil], none⟩,
        ⟨none, .store 3 (.tmp 15) (.tmp 78), none⟩,
        ⟨some 16, .mv (.tmp 79), none⟩])
      (.seq (.reg [⟨some 81, .load true 3 (.tmp 4), none⟩,
        ⟨some 82, .fadr 1 (.tmp 5), none⟩,
        ⟨some 83, .load false 1 (.tmp 82), none⟩,
        ⟨some 84, .call 32 [(.tmp 81), (.tmp 83)], none⟩,
        ⟨some 80, .mv (.tmp 84), none⟩,
        ⟨some 85, .ext (.tmp 80) 0, none⟩,
        ⟨some 86, .ext (.tmp 80) 1, none⟩,
        ⟨some 17, .newb [(.str []), .nil, .nil], none⟩,
        ⟨none, .store 3 (.tmp 17) (.tmp 85), none⟩,
        ⟨some 18, .mv (.tmp 86), none⟩])
      (.seq (.drw [⟨some 87, .load true 3 (.tmp 15), none⟩,
        ⟨some 88, .load true 3 (.tmp 17), none⟩,
        ⟨some 89, .mv (.tmp 16), none⟩,
        ⟨some 90, .mv (.tmp 18), none⟩,
        ⟨some 91, .bin .eql (.tmp 89) (.tmp 90), none⟩,
        ⟨none, .store 3 (.tmp 6) (.tmp 87), none⟩,
        ⟨none, .store 3 (.tmp 7) (.tmp 88), none⟩,
        ⟨some 8, .mv (.tmp 91), none⟩] [[], [], [], [], [], [1], [], []])
      .ret)))
      (.seq (.seq (.reg [⟨some 93, .bin .eql (.tmp 41) (.cst (.int .u64 3)), none⟩,
        ⟨some 92, .mv (.tmp 93), none⟩])
      (.cond (.tmp 92)
        .skip
        (.reg [⟨some 94, .bin .eql (.tmp 41) (.cst (.int .u64 4)), none⟩,
          ⟨some 92, .mv (.tmp 94), none⟩])))
      (.cond (.tmp 92)
        (.seq (.reg [⟨some 96, .load true 3 (.tmp 3), none⟩,
          ⟨some 97, .fadr 1 (.tmp 5), none⟩,
          ⟨some 98, .load false 1 (.tmp 97), none⟩,
          ⟨some 99, .fadr 3 (.tmp 5), none⟩,
          ⟨some 100, .load false 1 (.tmp 99), none⟩,
          ⟨some 101, .call 13 [(.tmp 96), (.tmp 98), (.tmp 100)], none⟩,
          ⟨some 95, .mv (.tmp 101), none⟩,
          ⟨some 102, .ext (.tmp 95) 0, none⟩,
          ⟨some 103, .ext (.tmp 95) 1, none⟩,
          ⟨some 19, .newb [.nil, .nil, .nil], none⟩,
          ⟨none, .store 3 (.tmp 19) (.tmp 102), none⟩,
          ⟨some 20, .mv (.tmp 103), none⟩])
        (.seq (.reg [⟨some 105, .load true 3 (.tmp 4), none⟩,
          ⟨some 106, .fadr 1 (.tmp 5), none⟩,
          ⟨some 107, .load false 1 (.tmp 106), none⟩,
          ⟨some 108, .fadr 3 (.tmp 5), none⟩,
          ⟨some 109, .load false 1 (.tmp 108), none⟩,
          ⟨some 110, .b2s (.tmp 109), none⟩,
          ⟨some 111, .call 33 [(.tmp 105), (.tmp 107), (.tmp 110)], none⟩,
          ⟨some 104, .mv (.tmp 111), none⟩,
          ⟨some 112, .ext (.tmp 104) 0, none⟩,
          ⟨some 113, .ext (.tmp 104) 1, none⟩,
          ⟨some 21, .newb [(.str []), .nil, .nil], none⟩,
          ⟨none, .store 3 (.tmp 21) (.tmp 112), none⟩,
          ⟨some 22, .mv (.tmp 113), none⟩])
        (.seq (.drw [⟨some 114, .load true 3 (.tmp 19), none⟩,
          ⟨some 115, .load true 3 (.tmp 21), none⟩,
          ⟨some 116, .mv (.tmp 20), none⟩,
          ⟨some 117, .mv (.tmp 22), none⟩,
          ⟨some 118, .bin .eql (.tmp 116) (.tmp 117), none⟩,
          ⟨none, .store 3 (.tmp 6) (.tmp 114), none⟩,
          ⟨none, .store 3 (.tmp 7) (.tmp 115), none⟩,
          ⟨some 8, .mv (.tmp 118), none⟩] [[], [], [], [], [], [1], [], []])
        .ret)))
        (.seq (.reg [⟨some 120, .bin .eql (.tmp 41) (.cst (.int .u64 5)), none⟩,
          ⟨some 119, .mv (.tmp 120), none⟩])
        (.cond (.tmp 119)
          (.seq (.reg [⟨some 122, .load true 3 (.tmp 3), none⟩,
            ⟨some 123, .fadr 1 (.tmp 5), none⟩,
            ⟨some 124, .load false 1 (.tmp 123), none⟩,
            ⟨some 125, .fadr 2 (.tmp 5), none⟩,
            ⟨some 126, .load false 1 (.tmp 125), none⟩,
            ⟨some 127, .call 15 [(.tmp 122), (.tmp 124), (.tmp 126)], none⟩,
            ⟨some 121, .mv (.tmp 127), none⟩,
            ⟨some 128, .ext (.tmp 121) 0, none⟩,
            ⟨some 129, .ext (.tmp 121) 1, none⟩,
            ⟨some 23, .mv (.tmp 128), none⟩,
            ⟨some 24, .mv (.tmp 129), none⟩])
          (.seq (.reg [⟨some 131, .load true 3 (.tmp 4), none⟩,
            ⟨some 132, .fadr 1 (.tmp 5), none⟩,
            ⟨some 133, .load false 1 (.tmp 132), none⟩,
            ⟨some 134, .fadr 2 (.tmp 5), none⟩,
            ⟨some 135, .load false 1 (.tmp 134), none⟩,
            ⟨some 136, .call 34 [(.tmp 131), (.tmp 133), (.tmp 135)], none⟩,
            ⟨some 130, .mv (.tmp 136), none⟩,
            ⟨some 137, .ext (.tmp 130) 0, none⟩,
            ⟨some 138, .ext (.tmp 130) 1, none⟩,
            ⟨some 25, .mv (.tmp 137), none⟩,
            ⟨some 26, .mv (.tmp 138), none⟩])
          (.seq (.drw [⟨some 139, .load true 3 (.tmp 3), none⟩,
            ⟨some 140, .load true 3 (.tmp 4), none⟩,
            ⟨some 141, .mv (.tmp 23), none⟩,
            ⟨some 142, .b2s (.tmp 141), none⟩,
            ⟨some 143, .mv (.tmp 25), none⟩,
            ⟨some 144, .binT .eql (.tmp 142) (.tmp 143), none⟩,
            ⟨some 145, .mv (.tmp 144), none⟩,
            ⟨some 146, .mv (.tmp 24), some (145, true)⟩,
            ⟨some 147, .mv (.tmp 26), some (145, true)⟩,
            ⟨some 148, .bin .eql (.tmp 146) (.tmp 147), some (145, true)⟩,
            ⟨some 149, .pick (.tmp 145) (.tmp 148) (.cst (.bool false)), none⟩,
            ⟨none, .store 3 (.tmp 6) (.tmp 139), none⟩,
            ⟨none, .store 3 (.tmp 7) (.tmp 140), none⟩,
            ⟨some 8, .mv (.tmp 149), none⟩] [[], [], [], [], [], [], [], [], [], [], [], [1], [], []])
          .ret)))
          (.seq (.reg [⟨some 151, .bin .eql (.tmp 41) (.cst (.int .u64 6)), none⟩,
            ⟨some 150, .mv (.tmp 151), none⟩])
          (.cond (.tmp 150)
            (.seq (.reg [⟨some 153, .load true 3 (.tmp 3), none⟩,
              ⟨some 154, .fadr 1 (.tmp 5), none⟩,
              ⟨some 155, .load false 1 (.tmp 154), none⟩,
              ⟨some 156, .call 20 [(.tmp 153), (.tmp 155)], none⟩,
              ⟨some 152, .mv (.tmp 156), none⟩,
              ⟨some 157, .ext (.tmp 152) 0, none⟩,
              ⟨some 158, .ext (.tmp 152) 1, none⟩,
              ⟨some 159, .ext (.tmp 152) 2, none⟩,
              ⟨some 27, .newb [.nil, .nil, .nil], none⟩,
              ⟨none, .store 3 (.tmp 27) (.tmp 157), none⟩,
              ⟨some 28, .mv (.tmp 158), none⟩,
              ⟨some 29, .mv (.tmp 159), none⟩])
            (.seq (.reg [⟨some 161, .load true 3 (.tmp 4), none⟩,
              ⟨some 162, .fadr 1 (.tmp 5), none⟩,
              ⟨some 163, .load false 1 (.tmp 162), none⟩,
              ⟨some 164, .call 35 [(.tmp 161), (.tmp 163)], none⟩,
              ⟨some 160, .mv (.tmp 164), none⟩,
              ⟨some 165, .ext (.tmp 160) 0, none⟩,
              ⟨some 166, .ext (.tmp 160) 1, none⟩,
              ⟨some 167, .ext (.tmp 160) 2, none⟩,
              ⟨some 30, .newb [(.str []), .nil, .nil], none⟩,
              ⟨none, .store 3 (.tmp 30) (.tmp 165), none⟩,
              ⟨some 31, .mv (.tmp 166), none⟩,
              ⟨some 32, .mv (.tmp 167), none⟩])
            (.seq (.drw [⟨some 168, .load true 3 (.tmp 27), none⟩,
              ⟨some 169, .load true 3 (.tmp 30), none⟩,
              ⟨some 170, .mv (.tmp 28), none⟩,
              ⟨some 171, .b2s (.tmp 170), none⟩,
              ⟨some 172, .mv (.tmp 31), none⟩,
              ⟨some 173, .binT .eql (.tmp 171) (.tmp 172), none⟩,
              ⟨some 174, .mv (.tmp 173), none⟩,
              ⟨some 175, .mv (.tmp 29), some (174, true)⟩,
              ⟨some 176, .mv (.tmp 32), some (174, true)⟩,
              ⟨some 177, .bin .eql (.tmp 175) (.tmp 176), some (174, true)⟩,
              ⟨some 178, .pick (.tmp 174) (.tmp 177) (.cst (.bool false)), none⟩,
              ⟨none, .store 3 (.tmp 6) (.tmp 168), none⟩,
              ⟨none, .store 3 (.tmp 7) (.tmp 169), none⟩,
              ⟨some 8, .mv (.tmp 178), none⟩] [[], [], [], [], [], [], [], [], [], [], [], [1], [], []])
            .ret)))
            .skip))))))))))))
  (.seq (.reg [⟨some 179, .fadr 3 (.tmp 5), none⟩,
    ⟨some 180, .load false 1 (.tmp 179), none⟩,
    ⟨some 33, .mv (.tmp 180), none⟩])
  (.seq (.seq (.reg [⟨some 181, .fadr 4 (.tmp 5), none⟩,
    ⟨some 182, .load false 1 (.tmp 181), none⟩,
    ⟨some 183, .not (.tmp 182), none⟩])
  (.cond (.tmp 183)
    (.reg [⟨some 184, .mv (.tmp 33), none⟩,
      ⟨some 185, .call 36 [(.tmp 184)], none⟩,
      ⟨some 33, .mv (.tmp 185), none⟩])
    .skip))
  (.seq (.reg [⟨some 187, .load true 3 (.tmp 3), none⟩,
    ⟨some 188, .fadr 1 (.tmp 5), none⟩,
    ⟨some 189, .load false 1 (.tmp 188), none⟩,
    ⟨some 190, .mv (.tmp 33), none⟩,
    ⟨some 191, .call 21 [(.tmp 187), (.tmp 189), (.tmp 190)], none⟩,
    ⟨some 186, .mv (.tmp 191), none⟩,
    ⟨some 192, .ext (.tmp 186) 0, none⟩,
    ⟨some 193, .ext (.tmp 186) 1, none⟩,
    ⟨some 34, .newb [.nil, .nil, .nil], none⟩,
    ⟨none, .store 3 (.tmp 34) (.tmp 192), none⟩,
    ⟨some 35, .mv (.tmp 193), none⟩])
  (.seq (.reg [⟨some 195, .load true 3 (.tmp 4), none⟩,
    ⟨some 196, .fadr 1 (.tmp 5), none⟩,
    ⟨some 197, .load false 1 (.tmp 196), none⟩,
    ⟨some 198, .mv (.tmp 33), none⟩,
    ⟨some 199, .b2s (.tmp 198), none⟩,
    ⟨some 200, .call 37 [(.tmp 195), (.tmp 197), (.tmp 199)], none⟩,
    ⟨some 194, .mv (.tmp 200), none⟩,
    ⟨some 201, .ext (.tmp 194) 0, none⟩,
    ⟨some 202, .ext (.tmp 194) 1, none⟩,
    ⟨some 36, .newb [(.str []), .nil, .nil], none⟩,
    ⟨none, .store 3 (.tmp 36) (.tmp 201), none⟩,
    ⟨some 37, .mv (.tmp 202), none⟩])
  (.seq (.drw [⟨some 203, .load true 3 (.tmp 34), none⟩,
    ⟨some 204, .load true 3 (.tmp 36), none⟩,
    ⟨some 205, .mv (.tmp 35), none⟩,
    ⟨some 206, .mv (.tmp 37), none⟩,
    ⟨some 207, .bin .eql (.tmp 205) (.tmp 206), none⟩,
    ⟨none, .store 3 (.tmp 6) (.tmp 203), none⟩,
    ⟨none, .store 3 (.tmp 7) (.tmp 204), none⟩,
    ⟨some 8, .mv (.tmp 207), none⟩] [[], [], [], [], [], [1], [], []])
  .ret)))))))
theorem p_caravellaw10_step : Try.f17.body.bind (compC Try.prog 208) = some c_caravellaw10_step := by kernel_rfl
theorem r_caravellaw10_step : tellR Try.prog Try.f17.results.toList = some [.c 6 true 3, .c 7 true 3, .t 8] := by kernel_rfl

/-- caravel/caravelref10.New: 1 in. -/
def c_caravelref10_New : ACode :=
  (.seq (.reg [⟨some 2, .newb [(.str []), .nil, .nil], none⟩])
  (.seq (.reg [⟨some 3, .mv (.tmp 0), none⟩,
    ⟨some 4, .bin .mul (.cst (.int .i64 64)) (.tmp 3), none⟩,
    ⟨some 5, .mks 1 1 (.int .u8 0) (.tmp 4) (.tmp 4), none⟩,
    ⟨some 6, .b2s (.tmp 5), none⟩,
    ⟨some 7, .mv (.tmp 0), none⟩,
    ⟨some 8, .mks 1 1 (.bool false) (.tmp 7) (.tmp 7), none⟩,
    ⟨some 9, .build [(.str []), .nil, .nil] [(0, 1, (.tmp 6)), (2, 1, (.tmp 8))], none⟩,
    ⟨none, .store 3 (.tmp 2) (.tmp 9), none⟩])
  .ret))
theorem p_caravelref10_New : Try.f18.body.bind (compC Try.prog 10) = some c_caravelref10_New := by kernel_rfl
theorem r_caravelref10_New : tellR Try.prog Try.f18.results.toList = some [.c 2 true 3] := by kernel_rfl

/-- caravel/caravellaw10.HeapTells$1: 3 in. -/
def c_caravellaw10_HeapTells_1 : ACode :=
  (.seq (.reg [⟨some 4, .mv (.cst (.bool false)), none⟩])
  (.seq (.reg [⟨some 11, .load true 3 (.tmp 1), none⟩,
    ⟨some 12, .mv (.tmp 0), none⟩,
    ⟨some 13, .call 20 [(.tmp 11), (.tmp 12)], none⟩,
    ⟨some 10, .mv (.tmp 13), none⟩,
    ⟨some 14, .ext (.tmp 10) 0, none⟩,
    ⟨some 15, .ext (.tmp 10) 1, none⟩,
    ⟨some 16, .ext (.tmp 10) 2, none⟩,
    ⟨some 5, .newb [.nil, .nil, .nil], none⟩,
    ⟨none, .store 3 (.tmp 5) (.tmp 14), none⟩,
    ⟨some 6, .mv (.tmp 15), none⟩,
    ⟨some 7, .mv (.tmp 16), none⟩])
  (.seq (.reg [⟨some 18, .load true 3 (.tmp 2), none⟩,
    ⟨some 19, .mv (.tmp 0), none⟩,
    ⟨some 20, .mv (.tmp 6), none⟩,
    ⟨some 21, .call 21 [(.tmp 18), (.tmp 19), (.tmp 20)], none⟩,
    ⟨some 17, .mv (.tmp 21), none⟩,
    ⟨some 22, .ext (.tmp 17) 0, none⟩,
    ⟨some 23, .ext (.tmp 17) 1, none⟩,
    ⟨some 8, .newb [.nil, .nil, .nil], none⟩,
    ⟨none, .store 3 (.tmp 8) (.tmp 22), none⟩,
    ⟨some 9, .mv (.tmp 23), none⟩])
  (.seq (.drw [⟨some 24, .load true 3 (.tmp 5), none⟩,
    ⟨some 25, .load true 3 (.tmp 8), none⟩,
    ⟨none, .store 3 (.tmp 1) (.tmp 24), none⟩,
    ⟨none, .store 3 (.tmp 2) (.tmp 25), none⟩] [[], [], [1], []])
  (.seq (.reg [⟨some 26, .mv (.tmp 7), none⟩,
    ⟨some 27, .bin .eql (.tmp 26) (.cst (.int .i64 0)), none⟩,
    ⟨some 28, .mv (.tmp 27), none⟩,
    ⟨some 29, .mv (.tmp 9), some (28, true)⟩,
    ⟨some 30, .bin .eql (.tmp 29) (.cst (.int .i64 0)), some (28, true)⟩,
    ⟨some 31, .pick (.tmp 28) (.tmp 30) (.cst (.bool false)), none⟩,
    ⟨some 4, .mv (.tmp 31), none⟩])
  .ret)))))
theorem p_caravellaw10_HeapTells_1 : Try.f19.body.bind (compC Try.prog 32) = some c_caravellaw10_HeapTells_1 := by kernel_rfl
theorem r_caravellaw10_HeapTells_1 : tellR Try.prog Try.f19.results.toList = some [.t 4] := by kernel_rfl

/-- caravel/heap.Tell: 2 in. -/
def c_heap_Tell : ACode :=
  (.seq (.reg [⟨some 2, .box (.tmp 0), none⟩,
    ⟨some 4, .newb [.nil, .nil, .nil], none⟩,
    ⟨some 5, .mv (.cst .nil), none⟩,
    ⟨some 6, .mv (.cst (.int .i64 0)), none⟩])
  (.seq (.seq (.reg [⟨some 8, .mv (.tmp 1), none⟩,
    ⟨some 9, .bin .lss (.tmp 8) (.cst (.int .i64 0)), none⟩,
    ⟨some 10, .mv (.tmp 9), none⟩,
    ⟨some 11, .mv (.tmp 1), some (10, false)⟩,
    ⟨some 12, .fadr 2 (.tmp 2), some (10, false)⟩,
    ⟨some 13, .load false 1 (.tmp 12), some (10, false)⟩,
    ⟨some 14, .lenV (.tmp 13), some (10, false)⟩,
    ⟨some 15, .bin .geq (.tmp 11) (.tmp 14), some (10, false)⟩,
    ⟨some 16, .pick (.tmp 10) (.cst (.bool true)) (.tmp 15), none⟩])
  (.cond (.tmp 16)
    (.seq (.reg [⟨some 17, .load true 3 (.tmp 2), none⟩,
      ⟨some 18, .call 23 [(.tmp 17)], none⟩,
      ⟨none, .store 3 (.tmp 4) (.tmp 18), none⟩,
      ⟨some 5, .mv (.cst .nil), none⟩,
      ⟨some 6, .mv (.cst (.int .i64 2)), none⟩])
    .ret)
    .skip))
  (.seq (.reg [⟨some 19, .load true 3 (.tmp 2), none⟩,
    ⟨some 20, .call 23 [(.tmp 19)], none⟩,
    ⟨some 7, .newb [.nil, .nil, .nil], none⟩,
    ⟨none, .store 3 (.tmp 7) (.tmp 20), none⟩])
  (.seq (.reg [⟨some 21, .fadr 2 (.tmp 7), none⟩,
    ⟨some 22, .load false 1 (.tmp 21), none⟩,
    ⟨some 23, .mv (.tmp 1), none⟩,
    ⟨some 24, .iadS 1 (.tmp 22) (.tmp 23), none⟩,
    ⟨none, .store 1 (.tmp 24) (.cst (.bool false)), none⟩])
  (.seq (.drw [⟨some 25, .load true 3 (.tmp 7), none⟩,
    ⟨some 26, .fadr 0 (.tmp 7), none⟩,
    ⟨some 27, .load false 1 (.tmp 26), none⟩,
    ⟨some 28, .mv (.tmp 1), none⟩,
    ⟨some 29, .bin .mul (.tmp 28) (.cst (.int .i64 64)), none⟩,
    ⟨some 30, .mv (.tmp 1), none⟩,
    ⟨some 31, .bin .add (.tmp 30) (.cst (.int .i64 1)), none⟩,
    ⟨some 32, .bin .mul (.tmp 31) (.cst (.int .i64 64)), none⟩,
    ⟨some 33, .slS 1 (.tmp 27) (some (.tmp 29)) (some (.tmp 32)) none, none⟩,
    ⟨some 34, .call 30 [(.tmp 33)], none⟩,
    ⟨none, .store 3 (.tmp 4) (.tmp 25), none⟩,
    ⟨some 5, .mv (.tmp 34), none⟩,
    ⟨some 6, .mv (.cst (.int .i64 0)), none⟩] [[], [], [], [], [], [], [], [], [], [], [], [], []])
  .ret)))))
theorem p_heap_Tell : Try.f20.body.bind (compC Try.prog 35) = some c_heap_Tell := by kernel_rfl
theorem r_heap_Tell : tellR Try.prog Try.f20.results.toList = some [.c 4 true 3, .t 5, .t 6] := by kernel_rfl

/-- caravel/heap.Hear: 3 in. -/
def c_heap_Hear : ACode :=
  (.seq (.reg [⟨some 3, .box (.tmp 0), none⟩,
    ⟨some 6, .newb [.nil, .nil, .nil], none⟩,
    ⟨some 7, .mv (.cst (.int .i64 0)), none⟩])
  (.seq (.block 0 (.seq (.reg [⟨some 10, .mv (.tmp 1), none⟩,
    ⟨some 11, .bin .lss (.tmp 10) (.cst (.int .i64 0)), none⟩,
    ⟨some 12, .mv (.tmp 11), none⟩,
    ⟨some 13, .mv (.tmp 1), some (12, false)⟩,
    ⟨some 14, .fadr 2 (.tmp 3), some (12, false)⟩,
    ⟨some 15, .load false 1 (.tmp 14), some (12, false)⟩,
    ⟨some 16, .lenV (.tmp 15), some (12, false)⟩,
    ⟨some 17, .bin .geq (.tmp 13) (.tmp 16), some (12, false)⟩,
    ⟨some 18, .pick (.tmp 12) (.cst (.bool true)) (.tmp 17), none⟩,
    ⟨some 9, .mv (.tmp 18), none⟩])
  (.cond (.tmp 9)
    (.seq (.reg [⟨some 19, .load true 3 (.tmp 3), none⟩,
      ⟨some 20, .call 23 [(.tmp 19)], none⟩,
      ⟨none, .store 3 (.tmp 6) (.tmp 20), none⟩,
      ⟨some 7, .mv (.cst (.int .i64 2)), none⟩])
    .ret)
    (.seq (.reg [⟨some 22, .mv (.tmp 2), none⟩,
      ⟨some 23, .lenV (.tmp 22), none⟩,
      ⟨some 24, .bin .neq (.tmp 23) (.cst (.int .i64 64)), none⟩,
      ⟨some 21, .mv (.tmp 24), none⟩])
    (.cond (.tmp 21)
      (.seq (.reg [⟨some 25, .load true 3 (.tmp 3), none⟩,
        ⟨some 26, .call 23 [(.tmp 25)], none⟩,
        ⟨none, .store 3 (.tmp 6) (.tmp 26), none⟩,
        ⟨some 7, .mv (.cst (.int .i64 1)), none⟩])
      .ret)
      .skip)))))
  (.seq (.reg [⟨some 27, .load true 3 (.tmp 3), none⟩,
    ⟨some 28, .call 23 [(.tmp 27)], none⟩,
    ⟨some 8, .newb [.nil, .nil, .nil], none⟩,
    ⟨none, .store 3 (.tmp 8) (.tmp 28), none⟩])
  (.seq (.reg [⟨some 29, .fadr 0 (.tmp 8), none⟩,
    ⟨some 30, .load false 1 (.tmp 29), none⟩,
    ⟨some 31, .mv (.tmp 1), none⟩,
    ⟨some 32, .bin .mul (.tmp 31) (.cst (.int .i64 64)), none⟩,
    ⟨some 33, .slS 1 (.tmp 30) (some (.tmp 32)) none none, none⟩,
    ⟨some 34, .mv (.tmp 2), none⟩,
    ⟨some 35, .cpy 1 (.tmp 33) (.tmp 34), none⟩])
  (.seq (.reg [⟨some 36, .load true 3 (.tmp 8), none⟩,
    ⟨none, .store 3 (.tmp 6) (.tmp 36), none⟩,
    ⟨some 7, .mv (.cst (.int .i64 0)), none⟩])
  .ret)))))
theorem p_heap_Hear : Try.f21.body.bind (compC Try.prog 37) = some c_heap_Hear := by kernel_rfl
theorem r_heap_Hear : tellR Try.prog Try.f21.results.toList = some [.c 6 true 3, .t 7] := by kernel_rfl

/-- caravel/heap.Written: 1 in. -/
def c_heap_Written : ACode :=
  (.seq (.reg [⟨some 1, .box (.tmp 0), none⟩,
    ⟨some 2, .mv (.cst .nil), none⟩])
  (.seq (.reg [⟨some 3, .mv (.cst .nil), none⟩])
  (.seq (.seq (.reg [⟨some 6, .fadr 2 (.tmp 1), none⟩,
    ⟨some 7, .load false 1 (.tmp 6), none⟩,
    ⟨some 8, .lenV (.tmp 7), none⟩,
    ⟨some 9, .mv (.cst (.int .i64 0)), none⟩])
  (.block 0 (.loop
    (.seq (.reg [⟨some 10, .bin .lss (.tmp 9) (.tmp 8), none⟩])
    (.seq (.cond (.tmp 10)
      .skip
      (.exit 0))
    (.seq (.block 1 (.seq (.reg [⟨some 11, .mv (.tmp 9), none⟩,
      ⟨some 12, .iadS 1 (.tmp 7) (.tmp 9), none⟩,
      ⟨some 13, .load false 1 (.tmp 12), none⟩,
      ⟨some 4, .mv (.tmp 11), none⟩,
      ⟨some 5, .mv (.tmp 13), none⟩])
    (.seq (.reg [⟨some 14, .mv (.tmp 5), none⟩])
    (.cond (.tmp 14)
      (.reg [⟨some 15, .mv (.tmp 3), none⟩,
        ⟨some 16, .mv (.tmp 4), none⟩,
        ⟨some 17, .bsl 1 [(.tmp 16)], none⟩,
        ⟨some 18, .app 1 8 (.tmp 15) (.tmp 17), none⟩,
        ⟨some 3, .mv (.tmp 18), none⟩])
      .skip))))
    (.reg [⟨some 19, .bin .add (.tmp 9) (.cst (.int .i64 1)), none⟩,
      ⟨some 9, .mv (.tmp 19), none⟩])))))))
  (.seq (.reg [⟨some 20, .mv (.tmp 3), none⟩,
    ⟨some 2, .mv (.tmp 20), none⟩])
  .ret))))
theorem p_heap_Written : Try.f22.body.bind (compC Try.prog 21) = some c_heap_Written := by kernel_rfl
theorem r_heap_Written : tellR Try.prog Try.f22.results.toList = some [.t 2] := by kernel_rfl

/-- caravel/heap.Clone: 1 in. -/
def c_heap_Clone : ACode :=
  (.seq (.reg [⟨some 1, .box (.tmp 0), none⟩,
    ⟨some 2, .newb [.nil, .nil, .nil], none⟩])
  (.seq (.drw [⟨some 3, .fadr 0 (.tmp 1), none⟩,
    ⟨some 4, .load false 1 (.tmp 3), none⟩,
    ⟨some 5, .call 30 [(.tmp 4)], none⟩,
    ⟨some 6, .fadr 1 (.tmp 1), none⟩,
    ⟨some 7, .load false 1 (.tmp 6), none⟩,
    ⟨some 8, .call 38 [(.tmp 7)], none⟩,
    ⟨some 9, .fadr 2 (.tmp 1), none⟩,
    ⟨some 10, .load false 1 (.tmp 9), none⟩,
    ⟨some 11, .call 39 [(.tmp 10)], none⟩,
    ⟨some 12, .build [.nil, .nil, .nil] [(0, 1, (.tmp 5)), (1, 1, (.tmp 8)), (2, 1, (.tmp 11))], none⟩,
    ⟨none, .store 3 (.tmp 2) (.tmp 12), none⟩] [[], [], [], [], [], [], [], [], [], [], []])
  .ret))
theorem p_heap_Clone : Try.f23.body.bind (compC Try.prog 13) = some c_heap_Clone := by kernel_rfl
theorem r_heap_Clone : tellR Try.prog Try.f23.results.toList = some [.c 2 true 3] := by kernel_rfl

/-- caravel/caravelref10.Like: 2 in. -/
def c_caravelref10_Like : ACode :=
  (.seq (.reg [⟨some 2, .box (.tmp 0), none⟩,
    ⟨some 3, .box (.tmp 1), none⟩,
    ⟨some 4, .mv (.cst (.bool false)), none⟩])
  (.seq (.seq (.reg [⟨some 7, .fadr 0 (.tmp 3), none⟩,
    ⟨some 8, .load false 1 (.tmp 7), none⟩,
    ⟨some 9, .b2s (.tmp 8), none⟩,
    ⟨some 10, .fadr 0 (.tmp 2), none⟩,
    ⟨some 11, .load false 1 (.tmp 10), none⟩,
    ⟨some 12, .binT .neq (.tmp 9) (.tmp 11), none⟩,
    ⟨some 13, .mv (.tmp 12), none⟩,
    ⟨some 14, .fadr 1 (.tmp 3), some (13, false)⟩,
    ⟨some 15, .load false 1 (.tmp 14), some (13, false)⟩,
    ⟨some 16, .lenV (.tmp 15), some (13, false)⟩,
    ⟨some 17, .fadr 1 (.tmp 2), some (13, false)⟩,
    ⟨some 18, .load false 1 (.tmp 17), some (13, false)⟩,
    ⟨some 19, .lenV (.tmp 18), some (13, false)⟩,
    ⟨some 20, .bin .neq (.tmp 16) (.tmp 19), some (13, false)⟩,
    ⟨some 21, .pick (.tmp 13) (.cst (.bool true)) (.tmp 20), none⟩,
    ⟨some 22, .mv (.tmp 21), none⟩,
    ⟨some 23, .fadr 2 (.tmp 3), some (22, false)⟩,
    ⟨some 24, .load false 1 (.tmp 23), some (22, false)⟩,
    ⟨some 25, .lenV (.tmp 24), some (22, false)⟩,
    ⟨some 26, .fadr 2 (.tmp 2), some (22, false)⟩,
    ⟨some 27, .load false 1 (.tmp 26), some (22, false)⟩,
    ⟨some 28, .lenV (.tmp 27), some (22, false)⟩,
    ⟨some 29, .bin .neq (.tmp 25) (.tmp 28), some (22, false)⟩,
    ⟨some 30, .pick (.tmp 22) (.cst (.bool true)) (.tmp 29), none⟩])
  (.cond (.tmp 30)
    (.seq (.reg [⟨some 4, .mv (.cst (.bool false)), none⟩])
    .ret)
    .skip))
  (.seq (.seq (.reg [⟨some 5, .mv (.cst (.int .i64 0)), none⟩])
  (.block 0 (.loop
    (.seq (.seq (.reg [⟨some 31, .mv (.tmp 5), none⟩,
      ⟨some 32, .fadr 1 (.tmp 2), none⟩,
      ⟨some 33, .load false 1 (.tmp 32), none⟩,
      ⟨some 34, .lenV (.tmp 33), none⟩,
      ⟨some 35, .bin .lss (.tmp 31) (.tmp 34), none⟩])
    (.cond (.tmp 35)
      .skip
      (.exit 0)))
    (.seq (.block 1 (.seq (.reg [⟨some 38, .fadr 1 (.tmp 3), none⟩,
      ⟨some 39, .load false 1 (.tmp 38), none⟩,
      ⟨some 40, .mv (.tmp 5), none⟩,
      ⟨some 41, .iadS 2 (.tmp 39) (.tmp 40), none⟩,
      ⟨some 42, .fadr 0 (.tmp 41), none⟩,
      ⟨some 43, .load false 1 (.tmp 42), none⟩,
      ⟨some 44, .fadr 1 (.tmp 2), none⟩,
      ⟨some 45, .load false 1 (.tmp 44), none⟩,
      ⟨some 46, .mv (.tmp 5), none⟩,
      ⟨some 47, .iadS 2 (.tmp 45) (.tmp 46), none⟩,
      ⟨some 48, .fadr 0 (.tmp 47), none⟩,
      ⟨some 49, .load false 1 (.tmp 48), none⟩,
      ⟨some 50, .bin .neq (.tmp 43) (.tmp 49), none⟩,
      ⟨some 51, .mv (.tmp 50), none⟩,
      ⟨some 52, .fadr 1 (.tmp 3), some (51, false)⟩,
      ⟨some 53, .load false 1 (.tmp 52), some (51, false)⟩,
      ⟨some 54, .mv (.tmp 5), some (51, false)⟩,
      ⟨some 55, .iadS 2 (.tmp 53) (.tmp 54), some (51, false)⟩,
      ⟨some 56, .fadr 1 (.tmp 55), some (51, false)⟩,
      ⟨some 57, .load false 1 (.tmp 56), some (51, false)⟩,
      ⟨some 58, .fadr 1 (.tmp 2), some (51, false)⟩,
      ⟨some 59, .load false 1 (.tmp 58), some (51, false)⟩,
      ⟨some 60, .mv (.tmp 5), some (51, false)⟩,
      ⟨some 61, .iadS 2 (.tmp 59) (.tmp 60), some (51, false)⟩,
      ⟨some 62, .fadr 1 (.tmp 61), some (51, false)⟩,
      ⟨some 63, .load false 1 (.tmp 62), some (51, false)⟩,
      ⟨some 64, .fadr 1 (.tmp 2), some (51, false)⟩,
      ⟨some 65, .load false 1 (.tmp 64), some (51, false)⟩,
      ⟨some 66, .mv (.tmp 5), some (51, false)⟩,
      ⟨some 67, .iadS 2 (.tmp 65) (.tmp 66), some (51, false)⟩,
      ⟨some 68, .fadr 0 (.tmp 67), some (51, false)⟩,
      ⟨some 69, .load false 1 (.tmp 68), some (51, false)⟩,
      ⟨some 70, .bin .sub (.tmp 63) (.tmp 69), some (51, false)⟩,
      ⟨some 71, .bin .neq (.tmp 57) (.tmp 70), some (51, false)⟩,
      ⟨some 72, .pick (.tmp 51) (.cst (.bool true)) (.tmp 71), none⟩])
    (.cond (.tmp 72)
      (.seq (.reg [⟨some 4, .mv (.cst (.bool false)), none⟩])
      .ret)
      .skip)))
    (.reg [⟨some 36, .mv (.tmp 5), none⟩,
      ⟨some 37, .bin .add (.tmp 36) (.cst (.int .i64 1)), none⟩,
      ⟨some 5, .mv (.tmp 37), none⟩]))))))
  (.seq (.seq (.reg [⟨some 6, .mv (.cst (.int .i64 0)), none⟩])
  (.block 2 (.loop
    (.seq (.seq (.reg [⟨some 73, .mv (.tmp 6), none⟩,
      ⟨some 74, .fadr 2 (.tmp 2), none⟩,
      ⟨some 75, .load false 1 (.tmp 74), none⟩,
      ⟨some 76, .lenV (.tmp 75), none⟩,
      ⟨some 77, .bin .lss (.tmp 73) (.tmp 76), none⟩])
    (.cond (.tmp 77)
      .skip
      (.exit 2)))
    (.seq (.block 3 (.seq (.reg [⟨some 80, .fadr 2 (.tmp 3), none⟩,
      ⟨some 81, .load false 1 (.tmp 80), none⟩,
      ⟨some 82, .mv (.tmp 6), none⟩,
      ⟨some 83, .iadS 1 (.tmp 81) (.tmp 82), none⟩,
      ⟨some 84, .load false 1 (.tmp 83), none⟩,
      ⟨some 85, .fadr 2 (.tmp 2), none⟩,
      ⟨some 86, .load false 1 (.tmp 85), none⟩,
      ⟨some 87, .mv (.tmp 6), none⟩,
      ⟨some 88, .iadS 1 (.tmp 86) (.tmp 87), none⟩,
      ⟨some 89, .load false 1 (.tmp 88), none⟩,
      ⟨some 90, .binB true (.tmp 84) (.tmp 89), none⟩])
    (.cond (.tmp 90)
      (.seq (.reg [⟨some 4, .mv (.cst (.bool false)), none⟩])
      .ret)
      .skip)))
    (.reg [⟨some 78, .mv (.tmp 6), none⟩,
      ⟨some 79, .bin .add (.tmp 78) (.cst (.int .i64 1)), none⟩,
      ⟨some 6, .mv (.tmp 79), none⟩]))))))
  (.seq (.reg [⟨some 4, .mv (.cst (.bool true)), none⟩])
  .ret)))))
theorem p_caravelref10_Like : Try.f24.body.bind (compC Try.prog 91) = some c_caravelref10_Like := by kernel_rfl
theorem r_caravelref10_Like : tellR Try.prog Try.f24.results.toList = some [.t 4] := by kernel_rfl

/-- slices.Insert[[]caravel/api.Block,caravel/api.Block]: 3 in. -/
def c_slices_Insert__caravel_api_Block_caravel_api_Block : ACode :=
  (.seq (.reg [⟨some 6, .mv (.cst .nil), none⟩])
  (.seq (.reg [⟨some 10, .mv (.tmp 0), none⟩,
    ⟨some 11, .mv (.tmp 1), none⟩,
    ⟨some 12, .slS 2 (.tmp 10) (some (.tmp 11)) none none, none⟩])
  (.seq (.reg [⟨some 13, .mv (.tmp 2), none⟩,
    ⟨some 14, .lenV (.tmp 13), none⟩,
    ⟨some 7, .mv (.tmp 14), none⟩])
  (.seq (.seq (.reg [⟨some 15, .mv (.tmp 7), none⟩,
    ⟨some 16, .bin .eql (.tmp 15) (.cst (.int .i64 0)), none⟩])
  (.cond (.tmp 16)
    (.seq (.reg [⟨some 17, .mv (.tmp 0), none⟩,
      ⟨some 6, .mv (.tmp 17), none⟩])
    .ret)
    .skip))
  (.seq (.reg [⟨some 18, .mv (.tmp 0), none⟩,
    ⟨some 19, .lenV (.tmp 18), none⟩,
    ⟨some 8, .mv (.tmp 19), none⟩])
  (.seq (.seq (.reg [⟨some 20, .mv (.tmp 1), none⟩,
    ⟨some 21, .mv (.tmp 8), none⟩,
    ⟨some 22, .bin .eql (.tmp 20) (.tmp 21), none⟩])
  (.cond (.tmp 22)
    (.seq (.reg [⟨some 23, .mv (.tmp 0), none⟩,
      ⟨some 24, .mv (.tmp 2), none⟩,
      ⟨some 25, .app 2 16 (.tmp 23) (.tmp 24), none⟩,
      ⟨some 6, .mv (.tmp 25), none⟩])
    .ret)
    .skip))
  (.seq (.seq (.reg [⟨some 26, .mv (.tmp 8), none⟩,
    ⟨some 27, .mv (.tmp 7), none⟩,
    ⟨some 28, .bin .add (.tmp 26) (.tmp 27), none⟩,
    ⟨some 29, .mv (.tmp 0), none⟩,
    ⟨some 30, .capV (.tmp 29), none⟩,
    ⟨some 31, .bin .gtr (.tmp 28) (.tmp 30), none⟩])
  (.cond (.tmp 31)
    (.seq (.reg [⟨some 32, .mv (.tmp 0), none⟩,
      ⟨some 33, .mv (.tmp 1), none⟩,
      ⟨some 34, .slS 2 (.tmp 32) none (some (.tmp 33)) none, none⟩,
      ⟨some 35, .mv (.tmp 8), none⟩,
      ⟨some 36, .mv (.tmp 7), none⟩,
      ⟨some 37, .bin .add (.tmp 35) (.tmp 36), none⟩,
      ⟨some 38, .mv (.tmp 1), none⟩,
      ⟨some 39, .bin .sub (.tmp 37) (.tmp 38), none⟩,
      ⟨some 40, .appz 2 16 (.agg [(.int .i64 0), (.int .i64 0)]) (.tmp 34) (.tmp 39), none⟩,
      ⟨some 9, .mv (.tmp 40), none⟩])
    (.seq (.reg [⟨some 41, .mv (.tmp 9), none⟩,
      ⟨some 42, .mv (.tmp 1), none⟩,
      ⟨some 43, .slS 2 (.tmp 41) (some (.tmp 42)) none none, none⟩,
      ⟨some 44, .mv (.tmp 2), none⟩,
      ⟨some 45, .cpy 2 (.tmp 43) (.tmp 44), none⟩])
    (.seq (.reg [⟨some 46, .mv (.tmp 9), none⟩,
      ⟨some 47, .mv (.tmp 1), none⟩,
      ⟨some 48, .mv (.tmp 7), none⟩,
      ⟨some 49, .bin .add (.tmp 47) (.tmp 48), none⟩,
      ⟨some 50, .slS 2 (.tmp 46) (some (.tmp 49)) none none, none⟩,
      ⟨some 51, .mv (.tmp 0), none⟩,
      ⟨some 52, .mv (.tmp 1), none⟩,
      ⟨some 53, .slS 2 (.tmp 51) (some (.tmp 52)) none none, none⟩,
      ⟨some 54, .cpy 2 (.tmp 50) (.tmp 53), none⟩])
    (.seq (.reg [⟨some 55, .mv (.tmp 9), none⟩,
      ⟨some 6, .mv (.tmp 55), none⟩])
    .ret))))
    .skip))
  (.seq (.reg [⟨some 56, .mv (.tmp 0), none⟩,
    ⟨some 57, .mv (.tmp 8), none⟩,
    ⟨some 58, .mv (.tmp 7), none⟩,
    ⟨some 59, .bin .add (.tmp 57) (.tmp 58), none⟩,
    ⟨some 60, .slS 2 (.tmp 56) none (some (.tmp 59)) none, none⟩,
    ⟨some 0, .mv (.tmp 60), none⟩])
  (.seq (.seq (.reg [⟨some 61, .mv (.tmp 2), none⟩,
    ⟨some 62, .mv (.tmp 0), none⟩,
    ⟨some 63, .mv (.tmp 1), none⟩,
    ⟨some 64, .mv (.tmp 7), none⟩,
    ⟨some 65, .bin .add (.tmp 63) (.tmp 64), none⟩,
    ⟨some 66, .slS 2 (.tmp 62) (some (.tmp 65)) none none, none⟩,
    ⟨some 67, .call 40 [(.tmp 61), (.tmp 66)], none⟩,
    ⟨some 68, .not (.tmp 67), none⟩])
  (.cond (.tmp 68)
    (.seq (.reg [⟨some 69, .mv (.tmp 0), none⟩,
      ⟨some 70, .mv (.tmp 1), none⟩,
      ⟨some 71, .mv (.tmp 7), none⟩,
      ⟨some 72, .bin .add (.tmp 70) (.tmp 71), none⟩,
      ⟨some 73, .slS 2 (.tmp 69) (some (.tmp 72)) none none, none⟩,
      ⟨some 74, .mv (.tmp 0), none⟩,
      ⟨some 75, .mv (.tmp 1), none⟩,
      ⟨some 76, .slS 2 (.tmp 74) (some (.tmp 75)) none none, none⟩,
      ⟨some 77, .cpy 2 (.tmp 73) (.tmp 76), none⟩])
    (.seq (.reg [⟨some 78, .mv (.tmp 0), none⟩,
      ⟨some 79, .mv (.tmp 1), none⟩,
      ⟨some 80, .slS 2 (.tmp 78) (some (.tmp 79)) none none, none⟩,
      ⟨some 81, .mv (.tmp 2), none⟩,
      ⟨some 82, .cpy 2 (.tmp 80) (.tmp 81), none⟩])
    (.seq (.reg [⟨some 83, .mv (.tmp 0), none⟩,
      ⟨some 6, .mv (.tmp 83), none⟩])
    .ret)))
    .skip))
  (.seq (.reg [⟨some 84, .mv (.tmp 0), none⟩,
    ⟨some 85, .mv (.tmp 8), none⟩,
    ⟨some 86, .slS 2 (.tmp 84) (some (.tmp 85)) none none, none⟩,
    ⟨some 87, .mv (.tmp 2), none⟩,
    ⟨some 88, .cpy 2 (.tmp 86) (.tmp 87), none⟩])
  (.seq (.reg [⟨some 89, .mv (.tmp 0), none⟩,
    ⟨some 90, .mv (.tmp 1), none⟩,
    ⟨some 91, .slS 2 (.tmp 89) (some (.tmp 90)) none none, none⟩,
    ⟨some 92, .mv (.tmp 7), none⟩,
    ⟨some 93, .call 41 [(.tmp 91), (.tmp 92)], none⟩])
  (.seq (.reg [⟨some 94, .mv (.tmp 0), none⟩,
    ⟨some 6, .mv (.tmp 94), none⟩])
  .ret))))))))))))
theorem p_slices_Insert__caravel_api_Block_caravel_api_Block : Try.f25.body.bind (compC Try.prog 95) = some c_slices_Insert__caravel_api_Block_caravel_api_Block := by kernel_rfl
theorem r_slices_Insert__caravel_api_Block_caravel_api_Block : tellR Try.prog Try.f25.results.toList = some [.t 6] := by kernel_rfl

/-- caravel/heap.inside: 3 in. -/
def c_heap_inside : ACode :=
  (.seq (.reg [⟨some 3, .box (.tmp 0), none⟩,
    ⟨some 4, .box (.tmp 1), none⟩,
    ⟨some 5, .box (.tmp 2), none⟩,
    ⟨some 6, .mv (.cst (.bool false)), none⟩])
  (.seq (.reg [⟨some 7, .fadr 1 (.tmp 3), none⟩,
    ⟨some 8, .load false 1 (.tmp 7), none⟩,
    ⟨some 9, .mkf 43 [(.tmp 4), (.tmp 5)], none⟩,
    ⟨some 10, .call 42 [(.tmp 8), (.tmp 9)], none⟩,
    ⟨some 6, .mv (.tmp 10), none⟩])
  .ret))
theorem p_heap_inside : Try.f26.body.bind (compC Try.prog 11) = some c_heap_inside := by kernel_rfl
theorem r_heap_inside : tellR Try.prog Try.f26.results.toList = some [.t 6] := by kernel_rfl

/-- caravel/heap.mark: 3 in. -/
def c_heap_mark : ACode :=
  (.seq (.reg [⟨some 3, .box (.tmp 0), none⟩])
  (.seq (.reg [⟨some 7, .mv (.tmp 1), none⟩,
    ⟨some 8, .bin .quo (.tmp 7) (.cst (.int .i64 64)), none⟩,
    ⟨some 6, .mv (.tmp 8), none⟩])
  (.block 0 (.loop
    (.seq (.seq (.reg [⟨some 9, .mv (.tmp 2), none⟩,
      ⟨some 10, .bin .gtr (.tmp 9) (.cst (.int .i64 0)), none⟩,
      ⟨some 11, .mv (.tmp 10), none⟩,
      ⟨some 12, .mv (.tmp 6), some (11, true)⟩,
      ⟨some 13, .bin .mul (.tmp 12) (.cst (.int .i64 64)), some (11, true)⟩,
      ⟨some 14, .mv (.tmp 1), some (11, true)⟩,
      ⟨some 15, .mv (.tmp 2), some (11, true)⟩,
      ⟨some 16, .bin .add (.tmp 14) (.tmp 15), some (11, true)⟩,
      ⟨some 17, .bin .lss (.tmp 13) (.tmp 16), some (11, true)⟩,
      ⟨some 18, .pick (.tmp 11) (.tmp 17) (.cst (.bool false)), none⟩])
    (.cond (.tmp 18)
      .skip
      (.exit 0)))
    (.seq (.block 1 (.reg [⟨some 21, .fadr 2 (.tmp 3), none⟩,
      ⟨some 22, .load false 1 (.tmp 21), none⟩,
      ⟨some 23, .mv (.tmp 6), none⟩,
      ⟨some 24, .iadS 1 (.tmp 22) (.tmp 23), none⟩,
      ⟨none, .store 1 (.tmp 24) (.cst (.bool true)), none⟩]))
    (.reg [⟨some 19, .mv (.tmp 6), none⟩,
      ⟨some 20, .bin .add (.tmp 19) (.cst (.int .i64 1)), none⟩,
      ⟨some 6, .mv (.tmp 20), none⟩])))))))
theorem p_heap_mark : Try.f27.body.bind (compC Try.prog 25) = some c_heap_mark := by kernel_rfl
theorem r_heap_mark : tellR Try.prog Try.f27.results.toList = some [] := by kernel_rfl

/-- caravel/heap.find: 2 in. -/
def c_heap_find : ACode :=
  (.seq (.reg [⟨some 2, .box (.tmp 0), none⟩,
    ⟨some 3, .box (.tmp 1), none⟩,
    ⟨some 4, .mv (.cst (.int .i64 0)), none⟩])
  (.seq (.reg [⟨some 5, .fadr 1 (.tmp 2), none⟩,
    ⟨some 6, .load false 1 (.tmp 5), none⟩,
    ⟨some 7, .mkf 45 [(.tmp 3)], none⟩,
    ⟨some 8, .call 44 [(.tmp 6), (.tmp 7)], none⟩,
    ⟨some 4, .mv (.tmp 8), none⟩])
  .ret))
theorem p_heap_find : Try.f28.body.bind (compC Try.prog 9) = some c_heap_find := by kernel_rfl
theorem r_heap_find : tellR Try.prog Try.f28.results.toList = some [.t 4] := by kernel_rfl

/-- slices.Delete[[]caravel/api.Block,caravel/api.Block]: 3 in. -/
def c_slices_Delete__caravel_api_Block_caravel_api_Block : ACode :=
  (.seq (.reg [⟨some 6, .mv (.cst .nil), none⟩])
  (.seq (.reg [⟨some 8, .mv (.tmp 0), none⟩,
    ⟨some 9, .mv (.tmp 1), none⟩,
    ⟨some 10, .mv (.tmp 2), none⟩,
    ⟨some 11, .mv (.tmp 0), none⟩,
    ⟨some 12, .lenV (.tmp 11), none⟩,
    ⟨some 13, .slS 2 (.tmp 8) (some (.tmp 9)) (some (.tmp 10)) (some (.tmp 12)), none⟩])
  (.seq (.seq (.reg [⟨some 14, .mv (.tmp 1), none⟩,
    ⟨some 15, .mv (.tmp 2), none⟩,
    ⟨some 16, .bin .eql (.tmp 14) (.tmp 15), none⟩])
  (.cond (.tmp 16)
    (.seq (.reg [⟨some 17, .mv (.tmp 0), none⟩,
      ⟨some 6, .mv (.tmp 17), none⟩])
    .ret)
    .skip))
  (.seq (.reg [⟨some 18, .mv (.tmp 0), none⟩,
    ⟨some 19, .lenV (.tmp 18), none⟩,
    ⟨some 7, .mv (.tmp 19), none⟩])
  (.seq (.reg [⟨some 20, .mv (.tmp 0), none⟩,
    ⟨some 21, .mv (.tmp 1), none⟩,
    ⟨some 22, .slS 2 (.tmp 20) none (some (.tmp 21)) none, none⟩,
    ⟨some 23, .mv (.tmp 0), none⟩,
    ⟨some 24, .mv (.tmp 2), none⟩,
    ⟨some 25, .slS 2 (.tmp 23) (some (.tmp 24)) none none, none⟩,
    ⟨some 26, .app 2 16 (.tmp 22) (.tmp 25), none⟩,
    ⟨some 0, .mv (.tmp 26), none⟩])
  (.seq (.reg [⟨some 27, .mv (.tmp 0), none⟩,
    ⟨some 28, .mv (.tmp 0), none⟩,
    ⟨some 29, .lenV (.tmp 28), none⟩,
    ⟨some 30, .mv (.tmp 7), none⟩,
    ⟨some 31, .slS 2 (.tmp 27) (some (.tmp 29)) (some (.tmp 30)) none, none⟩,
    ⟨none, .clr 2 (.agg [(.int .i64 0), (.int .i64 0)]) (.tmp 31), none⟩])
  (.seq (.reg [⟨some 32, .mv (.tmp 0), none⟩,
    ⟨some 6, .mv (.tmp 32), none⟩])
  .ret)))))))
theorem p_slices_Delete__caravel_api_Block_caravel_api_Block : Try.f29.body.bind (compC Try.prog 33) = some c_slices_Delete__caravel_api_Block_caravel_api_Block := by kernel_rfl
theorem r_slices_Delete__caravel_api_Block_caravel_api_Block : tellR Try.prog Try.f29.results.toList = some [.t 6] := by kernel_rfl

/-- slices.Clone[[]byte,byte]: 1 in. -/
def c_slices_Clone__byte_byte : ACode :=
  (.seq (.reg [⟨some 2, .mv (.cst .nil), none⟩])
  (.seq (.seq (.reg [⟨some 3, .mv (.tmp 0), none⟩,
    ⟨some 4, .isN false (.tmp 3), none⟩])
  (.cond (.tmp 4)
    (.seq (.reg [⟨some 2, .mv (.cst .nil), none⟩])
    .ret)
    .skip))
  (.seq (.reg [⟨some 5, .bsl 1 [], none⟩,
    ⟨some 6, .mv (.tmp 0), none⟩,
    ⟨some 7, .app 1 1 (.tmp 5) (.tmp 6), none⟩,
    ⟨some 2, .mv (.tmp 7), none⟩])
  .ret)))
theorem p_slices_Clone__byte_byte : Try.f30.body.bind (compC Try.prog 8) = some c_slices_Clone__byte_byte := by kernel_rfl
theorem r_slices_Clone__byte_byte : tellR Try.prog Try.f30.results.toList = some [.t 2] := by kernel_rfl

/-- caravel/caravelref10.Alloc: 2 in. -/
def c_caravelref10_Alloc : ACode :=
  (.seq (.reg [⟨some 2, .box (.tmp 0), none⟩,
    ⟨some 4, .newb [(.str []), .nil, .nil], none⟩,
    ⟨some 5, .mv (.cst (.int .i64 0)), none⟩,
    ⟨some 6, .mv (.cst (.int .i64 0)), none⟩])
  (.seq (.seq (.reg [⟨some 11, .mv (.tmp 1), none⟩,
    ⟨some 12, .bin .lss (.tmp 11) (.cst (.int .i64 1)), none⟩])
  (.cond (.tmp 12)
    (.seq (.reg [⟨some 13, .load true 3 (.tmp 2), none⟩,
      ⟨none, .store 3 (.tmp 4) (.tmp 13), none⟩,
      ⟨some 5, .mv (.cst (.int .i64 0)), none⟩,
      ⟨some 6, .mv (.cst (.int .i64 1)), none⟩])
    .ret)
    .skip))
  (.seq (.seq (.reg [⟨some 14, .mv (.tmp 1), none⟩,
    ⟨some 15, .fadr 0 (.tmp 2), none⟩,
    ⟨some 16, .load false 1 (.tmp 15), none⟩,
    ⟨some 17, .lenT (.tmp 16), none⟩,
    ⟨some 18, .bin .gtr (.tmp 14) (.tmp 17), none⟩])
  (.cond (.tmp 18)
    (.seq (.reg [⟨some 19, .load true 3 (.tmp 2), none⟩,
      ⟨none, .store 3 (.tmp 4) (.tmp 19), none⟩,
      ⟨some 5, .mv (.cst (.int .i64 0)), none⟩,
      ⟨some 6, .mv (.cst (.int .i64 5)), none⟩])
    .ret)
    .skip))
  (.seq (.block 0 (.loop
    (.seq (.seq (.reg [⟨some 20, .mv (.tmp 1), none⟩,
      ⟨some 21, .bin .rem (.tmp 20) (.cst (.int .i64 8)), none⟩,
      ⟨some 22, .bin .neq (.tmp 21) (.cst (.int .i64 0)), none⟩])
    (.cond (.tmp 22)
      .skip
      (.exit 0)))
    (.block 1 (.reg [⟨some 23, .mv (.tmp 1), none⟩,
      ⟨some 24, .bin .add (.tmp 23) (.cst (.int .i64 1)), none⟩,
      ⟨some 1, .mv (.tmp 24), none⟩])))))
  (.seq (.seq (.reg [⟨some 7, .mv (.cst (.int .i64 0)), none⟩])
  (.block 2 (.loop
    (.seq (.seq (.reg [⟨some 25, .mv (.tmp 7), none⟩,
      ⟨some 26, .fadr 0 (.tmp 2), none⟩,
      ⟨some 27, .load false 1 (.tmp 26), none⟩,
      ⟨some 28, .lenT (.tmp 27), none⟩,
      ⟨some 29, .bin .lss (.tmp 25) (.tmp 28), none⟩])
    (.cond (.tmp 29)
      .skip
      (.exit 2)))
    (.seq (.block 3 (.seq (.seq (.reg [⟨some 32, .load true 3 (.tmp 2), none⟩,
      ⟨some 33, .mv (.tmp 7), none⟩,
      ⟨some 34, .mv (.tmp 1), none⟩,
      ⟨some 35, .call 46 [(.tmp 32), (.tmp 33), (.tmp 34)], none⟩,
      ⟨some 36, .not (.tmp 35), none⟩])
    (.cond (.tmp 36)
      (.exit 3)
      .skip))
    (.seq (.reg [⟨some 8, .mv (.cst .nil), none⟩])
    (.seq (.reg [⟨some 9, .mv (.cst (.bool false)), none⟩])
    (.seq (.seq (.reg [⟨some 10, .mv (.cst (.int .i64 0)), none⟩])
    (.block 4 (.loop
      (.seq (.seq (.reg [⟨some 37, .mv (.tmp 10), none⟩,
        ⟨some 38, .fadr 1 (.tmp 2), none⟩,
        ⟨some 39, .load false 1 (.tmp 38), none⟩,
        ⟨some 40, .lenV (.tmp 39), none⟩,
        ⟨some 41, .bin .lss (.tmp 37) (.tmp 40), none⟩])
      (.cond (.tmp 41)
        .skip
        (.exit 4)))
      (.seq (.block 5 (.seq (.seq (.reg [⟨some 44, .mv (.tmp 9), none⟩,
        ⟨some 45, .not (.tmp 44), none⟩,
        ⟨some 46, .mv (.tmp 45), none⟩,
        ⟨some 47, .fadr 1 (.tmp 2), some (46, true)⟩,
        ⟨some 48, .load false 1 (.tmp 47), some (46, true)⟩,
        ⟨some 49, .mv (.tmp 10), some (46, true)⟩,
        ⟨some 50, .iadS 2 (.tmp 48) (.tmp 49), some (46, true)⟩,
        ⟨some 51, .fadr 0 (.tmp 50), some (46, true)⟩,
        ⟨some 52, .load false 1 (.tmp 51), some (46, true)⟩,
        ⟨some 53, .mv (.tmp 7), some (46, true)⟩,
        ⟨some 54, .bin .gtr (.tmp 52) (.tmp 53), some (46, true)⟩,
        ⟨some 55, .pick (.tmp 46) (.tmp 54) (.cst (.bool false)), none⟩])
      (.cond (.tmp 55)
        (.seq (.reg [⟨some 56, .mv (.tmp 8), none⟩,
          ⟨some 57, .mv (.tmp 7), none⟩,
          ⟨some 58, .mv (.tmp 7), none⟩,
          ⟨some 59, .mv (.tmp 1), none⟩,
          ⟨some 60, .bin .add (.tmp 58) (.tmp 59), none⟩,
          ⟨some 61, .build [(.int .i64 0), (.int .i64 0)] [(0, 1, (.tmp 57)), (1, 1, (.tmp 60))], none⟩,
          ⟨some 62, .bsl 2 [(.tmp 61)], none⟩,
          ⟨some 63, .app 2 16 (.tmp 56) (.tmp 62), none⟩,
          ⟨some 8, .mv (.tmp 63), none⟩])
        (.reg [⟨some 9, .mv (.cst (.bool true)), none⟩]))
        .skip))
      (.reg [⟨some 64, .mv (.tmp 8), none⟩,
        ⟨some 65, .fadr 1 (.tmp 2), none⟩,
        ⟨some 66, .load false 1 (.tmp 65), none⟩,
        ⟨some 67, .mv (.tmp 10), none⟩,
        ⟨some 68, .iadS 2 (.tmp 66) (.tmp 67), none⟩,
        ⟨some 69, .load true 2 (.tmp 68), none⟩,
        ⟨some 70, .bsl 2 [(.tmp 69)], none⟩,
        ⟨some 71, .app 2 16 (.tmp 64) (.tmp 70), none⟩,
        ⟨some 8, .mv (.tmp 71), none⟩])))
      (.reg [⟨some 42, .mv (.tmp 10), none⟩,
        ⟨some 43, .bin .add (.tmp 42) (.cst (.int .i64 1)), none⟩,
        ⟨some 10, .mv (.tmp 43), none⟩]))))))
    (.seq (.seq (.reg [⟨some 72, .mv (.tmp 9), none⟩,
      ⟨some 73, .not (.tmp 72), none⟩])
    (.cond (.tmp 73)
      (.reg [⟨some 74, .mv (.tmp 8), none⟩,
        ⟨some 75, .mv (.tmp 7), none⟩,
        ⟨some 76, .mv (.tmp 7), none⟩,
        ⟨some 77, .mv (.tmp 1), none⟩,
        ⟨some 78, .bin .add (.tmp 76) (.tmp 77), none⟩,
        ⟨some 79, .build [(.int .i64 0), (.int .i64 0)] [(0, 1, (.tmp 75)), (1, 1, (.tmp 78))], none⟩,
        ⟨some 80, .bsl 2 [(.tmp 79)], none⟩,
        ⟨some 81, .app 2 16 (.tmp 74) (.tmp 80), none⟩,
        ⟨some 8, .mv (.tmp 81), none⟩])
      .skip))
    (.seq (.reg [⟨some 82, .mv (.tmp 8), none⟩,
      ⟨some 83, .fadr 1 (.tmp 2), none⟩,
      ⟨none, .store 1 (.tmp 83) (.tmp 82), none⟩])
    (.seq (.reg [⟨some 84, .load true 3 (.tmp 2), none⟩,
      ⟨some 85, .mv (.tmp 7), none⟩,
      ⟨none, .store 3 (.tmp 4) (.tmp 84), none⟩,
      ⟨some 5, .mv (.tmp 85), none⟩,
      ⟨some 6, .mv (.cst (.int .i64 0)), none⟩])
    .ret))))))))
    (.reg [⟨some 30, .mv (.tmp 7), none⟩,
      ⟨some 31, .bin .add (.tmp 30) (.cst (.int .i64 8)), none⟩,
      ⟨some 7, .mv (.tmp 31), none⟩]))))))
  (.seq (.reg [⟨some 86, .load true 3 (.tmp 2), none⟩,
    ⟨none, .store 3 (.tmp 4) (.tmp 86), none⟩,
    ⟨some 5, .mv (.cst (.int .i64 0)), none⟩,
    ⟨some 6, .mv (.cst (.int .i64 5)), none⟩])
  .ret))))))
theorem p_caravelref10_Alloc : Try.f31.body.bind (compC Try.prog 87) = some c_caravelref10_Alloc := by kernel_rfl
theorem r_caravelref10_Alloc : tellR Try.prog Try.f31.results.toList = some [.c 4 true 3, .t 5, .t 6] := by kernel_rfl

/-- caravel/caravelref10.Free: 2 in. -/
def c_caravelref10_Free : ACode :=
  (.seq (.reg [⟨some 2, .box (.tmp 0), none⟩,
    ⟨some 4, .newb [(.str []), .nil, .nil], none⟩,
    ⟨some 5, .mv (.cst (.int .i64 0)), none⟩])
  (.seq (.seq (.reg [⟨some 6, .mv (.cst (.int .i64 0)), none⟩])
  (.block 0 (.loop
    (.seq (.seq (.reg [⟨some 9, .mv (.tmp 6), none⟩,
      ⟨some 10, .fadr 1 (.tmp 2), none⟩,
      ⟨some 11, .load false 1 (.tmp 10), none⟩,
      ⟨some 12, .lenV (.tmp 11), none⟩,
      ⟨some 13, .bin .lss (.tmp 9) (.tmp 12), none⟩])
    (.cond (.tmp 13)
      .skip
      (.exit 0)))
    (.seq (.block 1 (.seq (.seq (.reg [⟨some 16, .fadr 1 (.tmp 2), none⟩,
      ⟨some 17, .load false 1 (.tmp 16), none⟩,
      ⟨some 18, .mv (.tmp 6), none⟩,
      ⟨some 19, .iadS 2 (.tmp 17) (.tmp 18), none⟩,
      ⟨some 20, .fadr 0 (.tmp 19), none⟩,
      ⟨some 21, .load false 1 (.tmp 20), none⟩,
      ⟨some 22, .mv (.tmp 1), none⟩,
      ⟨some 23, .bin .neq (.tmp 21) (.tmp 22), none⟩])
    (.cond (.tmp 23)
      (.exit 1)
      .skip))
    (.seq (.reg [⟨some 24, .fadr 1 (.tmp 2), none⟩,
      ⟨some 25, .load false 1 (.tmp 24), none⟩,
      ⟨some 26, .mv (.tmp 6), none⟩,
      ⟨some 27, .iadS 2 (.tmp 25) (.tmp 26), none⟩,
      ⟨some 28, .load true 2 (.tmp 27), none⟩,
      ⟨some 7, .newb [(.int .i64 0), (.int .i64 0)], none⟩,
      ⟨none, .store 2 (.tmp 7) (.tmp 28), none⟩])
    (.seq (.reg [⟨some 29, .bsl 2 [], none⟩,
      ⟨some 30, .fadr 1 (.tmp 2), none⟩,
      ⟨some 31, .load false 1 (.tmp 30), none⟩,
      ⟨some 32, .mv (.tmp 6), none⟩,
      ⟨some 33, .slS 2 (.tmp 31) none (some (.tmp 32)) none, none⟩,
      ⟨some 34, .app 2 16 (.tmp 29) (.tmp 33), none⟩,
      ⟨some 8, .mv (.tmp 34), none⟩])
    (.seq (.reg [⟨some 35, .mv (.tmp 8), none⟩,
      ⟨some 36, .fadr 1 (.tmp 2), none⟩,
      ⟨some 37, .load false 1 (.tmp 36), none⟩,
      ⟨some 38, .mv (.tmp 6), none⟩,
      ⟨some 39, .bin .add (.tmp 38) (.cst (.int .i64 1)), none⟩,
      ⟨some 40, .slS 2 (.tmp 37) (some (.tmp 39)) none none, none⟩,
      ⟨some 41, .app 2 16 (.tmp 35) (.tmp 40), none⟩,
      ⟨some 42, .fadr 1 (.tmp 2), none⟩,
      ⟨none, .store 1 (.tmp 42) (.tmp 41), none⟩])
    (.seq (.drw [⟨some 43, .load true 3 (.tmp 2), none⟩,
      ⟨some 44, .mv (.tmp 1), none⟩,
      ⟨some 45, .fadr 1 (.tmp 7), none⟩,
      ⟨some 46, .load false 1 (.tmp 45), none⟩,
      ⟨some 47, .fadr 0 (.tmp 7), none⟩,
      ⟨some 48, .load false 1 (.tmp 47), none⟩,
      ⟨some 49, .bin .sub (.tmp 46) (.tmp 48), none⟩,
      ⟨some 50, .mks 1 1 (.int .u8 0) (.tmp 49) (.tmp 49), none⟩,
      ⟨some 51, .b2s (.tmp 50), none⟩,
      ⟨some 52, .call 47 [(.tmp 43), (.tmp 44), (.tmp 51)], none⟩,
      ⟨none, .store 3 (.tmp 4) (.tmp 52), none⟩,
      ⟨some 5, .mv (.cst (.int .i64 0)), none⟩] [[], [], [], [], [], [], [], [], [], [], [], []])
    .ret))))))
    (.reg [⟨some 14, .mv (.tmp 6), none⟩,
      ⟨some 15, .bin .add (.tmp 14) (.cst (.int .i64 1)), none⟩,
      ⟨some 6, .mv (.tmp 15), none⟩]))))))
  (.seq (.reg [⟨some 53, .load true 3 (.tmp 2), none⟩,
    ⟨none, .store 3 (.tmp 4) (.tmp 53), none⟩,
    ⟨some 5, .mv (.cst (.int .i64 2)), none⟩])
  .ret)))
theorem p_caravelref10_Free : Try.f32.body.bind (compC Try.prog 54) = some c_caravelref10_Free := by kernel_rfl
theorem r_caravelref10_Free : tellR Try.prog Try.f32.results.toList = some [.c 4 true 3, .t 5] := by kernel_rfl

/-- caravel/caravelref10.Store: 3 in. -/
def c_caravelref10_Store : ACode :=
  (.seq (.reg [⟨some 3, .box (.tmp 0), none⟩,
    ⟨some 6, .newb [(.str []), .nil, .nil], none⟩,
    ⟨some 7, .mv (.cst (.int .i64 0)), none⟩])
  (.seq (.seq (.reg [⟨some 8, .load true 3 (.tmp 3), none⟩,
    ⟨some 9, .mv (.tmp 1), none⟩,
    ⟨some 10, .mv (.tmp 2), none⟩,
    ⟨some 11, .lenT (.tmp 10), none⟩,
    ⟨some 12, .call 48 [(.tmp 8), (.tmp 9), (.tmp 11)], none⟩,
    ⟨some 13, .not (.tmp 12), none⟩])
  (.cond (.tmp 13)
    (.seq (.reg [⟨some 14, .load true 3 (.tmp 3), none⟩,
      ⟨none, .store 3 (.tmp 6) (.tmp 14), none⟩,
      ⟨some 7, .mv (.cst (.int .i64 2)), none⟩])
    .ret)
    .skip))
  (.seq (.reg [⟨some 15, .load true 3 (.tmp 3), none⟩,
    ⟨some 16, .mv (.tmp 1), none⟩,
    ⟨some 17, .mv (.tmp 2), none⟩,
    ⟨some 18, .call 47 [(.tmp 15), (.tmp 16), (.tmp 17)], none⟩,
    ⟨none, .store 3 (.tmp 6) (.tmp 18), none⟩,
    ⟨some 7, .mv (.cst (.int .i64 0)), none⟩])
  .ret)))
theorem p_caravelref10_Store : Try.f33.body.bind (compC Try.prog 19) = some c_caravelref10_Store := by kernel_rfl
theorem r_caravelref10_Store : tellR Try.prog Try.f33.results.toList = some [.c 6 true 3, .t 7] := by kernel_rfl

/-- caravel/caravelref10.Load: 3 in. -/
def c_caravelref10_Load : ACode :=
  (.seq (.reg [⟨some 3, .box (.tmp 0), none⟩,
    ⟨some 6, .mv (.cst (.str [])), none⟩,
    ⟨some 7, .mv (.cst (.int .i64 0)), none⟩])
  (.seq (.seq (.reg [⟨some 8, .mv (.tmp 2), none⟩,
    ⟨some 9, .bin .lss (.tmp 8) (.cst (.int .i64 0)), none⟩])
  (.cond (.tmp 9)
    (.seq (.reg [⟨some 6, .mv (.cst (.str [])), none⟩,
      ⟨some 7, .mv (.cst (.int .i64 1)), none⟩])
    .ret)
    .skip))
  (.seq (.seq (.reg [⟨some 10, .load true 3 (.tmp 3), none⟩,
    ⟨some 11, .mv (.tmp 1), none⟩,
    ⟨some 12, .mv (.tmp 2), none⟩,
    ⟨some 13, .call 48 [(.tmp 10), (.tmp 11), (.tmp 12)], none⟩,
    ⟨some 14, .not (.tmp 13), none⟩])
  (.cond (.tmp 14)
    (.seq (.reg [⟨some 6, .mv (.cst (.str [])), none⟩,
      ⟨some 7, .mv (.cst (.int .i64 2)), none⟩])
    .ret)
    .skip))
  (.seq (.reg [⟨some 15, .fadr 0 (.tmp 3), none⟩,
    ⟨some 16, .load false 1 (.tmp 15), none⟩,
    ⟨some 17, .mv (.tmp 1), none⟩,
    ⟨some 18, .mv (.tmp 1), none⟩,
    ⟨some 19, .mv (.tmp 2), none⟩,
    ⟨some 20, .bin .add (.tmp 18) (.tmp 19), none⟩,
    ⟨some 21, .slT (.tmp 16) (some (.tmp 17)) (some (.tmp 20)), none⟩,
    ⟨some 6, .mv (.tmp 21), none⟩,
    ⟨some 7, .mv (.cst (.int .i64 0)), none⟩])
  .ret))))
theorem p_caravelref10_Load : Try.f34.body.bind (compC Try.prog 22) = some c_caravelref10_Load := by kernel_rfl
theorem r_caravelref10_Load : tellR Try.prog Try.f34.results.toList = some [.t 6, .t 7] := by kernel_rfl

/-- caravel/caravelref10.Tell: 2 in. -/
def c_caravelref10_Tell : ACode :=
  (.seq (.reg [⟨some 2, .box (.tmp 0), none⟩,
    ⟨some 4, .newb [(.str []), .nil, .nil], none⟩,
    ⟨some 5, .mv (.cst (.str [])), none⟩,
    ⟨some 6, .mv (.cst (.int .i64 0)), none⟩])
  (.seq (.seq (.reg [⟨some 8, .mv (.tmp 1), none⟩,
    ⟨some 9, .bin .lss (.tmp 8) (.cst (.int .i64 0)), none⟩,
    ⟨some 10, .mv (.tmp 9), none⟩,
    ⟨some 11, .mv (.tmp 1), some (10, false)⟩,
    ⟨some 12, .fadr 2 (.tmp 2), some (10, false)⟩,
    ⟨some 13, .load false 1 (.tmp 12), some (10, false)⟩,
    ⟨some 14, .lenV (.tmp 13), some (10, false)⟩,
    ⟨some 15, .bin .geq (.tmp 11) (.tmp 14), some (10, false)⟩,
    ⟨some 16, .pick (.tmp 10) (.cst (.bool true)) (.tmp 15), none⟩])
  (.cond (.tmp 16)
    (.seq (.reg [⟨some 17, .load true 3 (.tmp 2), none⟩,
      ⟨none, .store 3 (.tmp 4) (.tmp 17), none⟩,
      ⟨some 5, .mv (.cst (.str [])), none⟩,
      ⟨some 6, .mv (.cst (.int .i64 2)), none⟩])
    .ret)
    .skip))
  (.seq (.reg [⟨some 18, .bsl 1 [], none⟩,
    ⟨some 19, .fadr 2 (.tmp 2), none⟩,
    ⟨some 20, .load false 1 (.tmp 19), none⟩,
    ⟨some 21, .app 1 1 (.tmp 18) (.tmp 20), none⟩,
    ⟨some 7, .mv (.tmp 21), none⟩])
  (.seq (.reg [⟨some 22, .mv (.tmp 7), none⟩,
    ⟨some 23, .mv (.tmp 1), none⟩,
    ⟨some 24, .iadS 1 (.tmp 22) (.tmp 23), none⟩,
    ⟨none, .store 1 (.tmp 24) (.cst (.bool false)), none⟩])
  (.seq (.reg [⟨some 25, .mv (.tmp 7), none⟩,
    ⟨some 26, .fadr 2 (.tmp 2), none⟩,
    ⟨none, .store 1 (.tmp 26) (.tmp 25), none⟩])
  (.seq (.drw [⟨some 27, .load true 3 (.tmp 2), none⟩,
    ⟨some 28, .fadr 0 (.tmp 2), none⟩,
    ⟨some 29, .load false 1 (.tmp 28), none⟩,
    ⟨some 30, .mv (.tmp 1), none⟩,
    ⟨some 31, .bin .mul (.cst (.int .i64 64)) (.tmp 30), none⟩,
    ⟨some 32, .mv (.tmp 1), none⟩,
    ⟨some 33, .bin .mul (.cst (.int .i64 64)) (.tmp 32), none⟩,
    ⟨some 34, .bin .add (.tmp 33) (.cst (.int .i64 64)), none⟩,
    ⟨some 35, .slT (.tmp 29) (some (.tmp 31)) (some (.tmp 34)), none⟩,
    ⟨none, .store 3 (.tmp 4) (.tmp 27), none⟩,
    ⟨some 5, .mv (.tmp 35), none⟩,
    ⟨some 6, .mv (.cst (.int .i64 0)), none⟩] [[], [], [], [], [], [], [], [], [], [2], [], []])
  .ret))))))
theorem p_caravelref10_Tell : Try.f35.body.bind (compC Try.prog 36) = some c_caravelref10_Tell := by kernel_rfl
theorem r_caravelref10_Tell : tellR Try.prog Try.f35.results.toList = some [.c 4 true 3, .t 5, .t 6] := by kernel_rfl

/-- caravel/caravellaw10.page: 1 in. -/
def c_caravellaw10_page : ACode :=
  (.seq (.reg [⟨some 2, .mv (.cst .nil), none⟩])
  (.seq (.reg [⟨some 4, .mks 1 1 (.int .u8 0) (.cst (.int .i64 64)) (.cst (.int .i64 64)), none⟩,
    ⟨some 3, .mv (.tmp 4), none⟩])
  (.seq (.reg [⟨some 5, .mv (.tmp 3), none⟩,
    ⟨some 6, .mv (.tmp 0), none⟩,
    ⟨some 7, .cpy 1 (.tmp 5) (.tmp 6), none⟩])
  (.seq (.reg [⟨some 8, .mv (.tmp 3), none⟩,
    ⟨some 2, .mv (.tmp 8), none⟩])
  .ret))))
theorem p_caravellaw10_page : Try.f36.body.bind (compC Try.prog 9) = some c_caravellaw10_page := by kernel_rfl
theorem r_caravellaw10_page : tellR Try.prog Try.f36.results.toList = some [.t 2] := by kernel_rfl

/-- caravel/caravelref10.Hear: 3 in. -/
def c_caravelref10_Hear : ACode :=
  (.seq (.reg [⟨some 3, .box (.tmp 0), none⟩,
    ⟨some 6, .newb [(.str []), .nil, .nil], none⟩,
    ⟨some 7, .mv (.cst (.int .i64 0)), none⟩])
  (.seq (.seq (.reg [⟨some 8, .mv (.tmp 1), none⟩,
    ⟨some 9, .bin .lss (.tmp 8) (.cst (.int .i64 0)), none⟩,
    ⟨some 10, .mv (.tmp 9), none⟩,
    ⟨some 11, .mv (.tmp 1), some (10, false)⟩,
    ⟨some 12, .fadr 2 (.tmp 3), some (10, false)⟩,
    ⟨some 13, .load false 1 (.tmp 12), some (10, false)⟩,
    ⟨some 14, .lenV (.tmp 13), some (10, false)⟩,
    ⟨some 15, .bin .geq (.tmp 11) (.tmp 14), some (10, false)⟩,
    ⟨some 16, .pick (.tmp 10) (.cst (.bool true)) (.tmp 15), none⟩])
  (.cond (.tmp 16)
    (.seq (.reg [⟨some 17, .load true 3 (.tmp 3), none⟩,
      ⟨none, .store 3 (.tmp 6) (.tmp 17), none⟩,
      ⟨some 7, .mv (.cst (.int .i64 2)), none⟩])
    .ret)
    .skip))
  (.seq (.seq (.reg [⟨some 18, .mv (.tmp 2), none⟩,
    ⟨some 19, .lenT (.tmp 18), none⟩,
    ⟨some 20, .bin .neq (.tmp 19) (.cst (.int .i64 64)), none⟩])
  (.cond (.tmp 20)
    (.seq (.reg [⟨some 21, .load true 3 (.tmp 3), none⟩,
      ⟨none, .store 3 (.tmp 6) (.tmp 21), none⟩,
      ⟨some 7, .mv (.cst (.int .i64 1)), none⟩])
    .ret)
    .skip))
  (.seq (.reg [⟨some 22, .fadr 0 (.tmp 3), none⟩,
    ⟨some 23, .load false 1 (.tmp 22), none⟩,
    ⟨some 24, .mv (.tmp 1), none⟩,
    ⟨some 25, .bin .mul (.cst (.int .i64 64)) (.tmp 24), none⟩,
    ⟨some 26, .slT (.tmp 23) none (some (.tmp 25)), none⟩,
    ⟨some 27, .mv (.tmp 2), none⟩,
    ⟨some 28, .binT .add (.tmp 26) (.tmp 27), none⟩,
    ⟨some 29, .fadr 0 (.tmp 3), none⟩,
    ⟨some 30, .load false 1 (.tmp 29), none⟩,
    ⟨some 31, .mv (.tmp 1), none⟩,
    ⟨some 32, .bin .mul (.cst (.int .i64 64)) (.tmp 31), none⟩,
    ⟨some 33, .bin .add (.tmp 32) (.cst (.int .i64 64)), none⟩,
    ⟨some 34, .slT (.tmp 30) (some (.tmp 33)) none, none⟩,
    ⟨some 35, .binT .add (.tmp 28) (.tmp 34), none⟩,
    ⟨some 36, .fadr 0 (.tmp 3), none⟩,
    ⟨none, .store 1 (.tmp 36) (.tmp 35), none⟩])
  (.seq (.reg [⟨some 37, .load true 3 (.tmp 3), none⟩,
    ⟨none, .store 3 (.tmp 6) (.tmp 37), none⟩,
    ⟨some 7, .mv (.cst (.int .i64 0)), none⟩])
  .ret)))))
theorem p_caravelref10_Hear : Try.f37.body.bind (compC Try.prog 38) = some c_caravelref10_Hear := by kernel_rfl
theorem r_caravelref10_Hear : tellR Try.prog Try.f37.results.toList = some [.c 6 true 3, .t 7] := by kernel_rfl

/-- slices.Clone[[]caravel/api.Block,caravel/api.Block]: 1 in. -/
def c_slices_Clone__caravel_api_Block_caravel_api_Block : ACode :=
  (.seq (.reg [⟨some 2, .mv (.cst .nil), none⟩])
  (.seq (.seq (.reg [⟨some 3, .mv (.tmp 0), none⟩,
    ⟨some 4, .isN false (.tmp 3), none⟩])
  (.cond (.tmp 4)
    (.seq (.reg [⟨some 2, .mv (.cst .nil), none⟩])
    .ret)
    .skip))
  (.seq (.reg [⟨some 5, .bsl 2 [], none⟩,
    ⟨some 6, .mv (.tmp 0), none⟩,
    ⟨some 7, .app 2 16 (.tmp 5) (.tmp 6), none⟩,
    ⟨some 2, .mv (.tmp 7), none⟩])
  .ret)))
theorem p_slices_Clone__caravel_api_Block_caravel_api_Block : Try.f38.body.bind (compC Try.prog 8) = some c_slices_Clone__caravel_api_Block_caravel_api_Block := by kernel_rfl
theorem r_slices_Clone__caravel_api_Block_caravel_api_Block : tellR Try.prog Try.f38.results.toList = some [.t 2] := by kernel_rfl

/-- slices.Clone[[]bool,bool]: 1 in. -/
def c_slices_Clone__bool_bool : ACode :=
  (.seq (.reg [⟨some 2, .mv (.cst .nil), none⟩])
  (.seq (.seq (.reg [⟨some 3, .mv (.tmp 0), none⟩,
    ⟨some 4, .isN false (.tmp 3), none⟩])
  (.cond (.tmp 4)
    (.seq (.reg [⟨some 2, .mv (.cst .nil), none⟩])
    .ret)
    .skip))
  (.seq (.reg [⟨some 5, .bsl 1 [], none⟩,
    ⟨some 6, .mv (.tmp 0), none⟩,
    ⟨some 7, .app 1 1 (.tmp 5) (.tmp 6), none⟩,
    ⟨some 2, .mv (.tmp 7), none⟩])
  .ret)))
theorem p_slices_Clone__bool_bool : Try.f39.body.bind (compC Try.prog 8) = some c_slices_Clone__bool_bool := by kernel_rfl
theorem r_slices_Clone__bool_bool : tellR Try.prog Try.f39.results.toList = some [.t 2] := by kernel_rfl

/-- slices.rotateRight[caravel/api.Block]: 2 in. -/
def c_slices_rotateRight_caravel_api_Block : ACode :=
  (.reg [⟨some 4, .mv (.tmp 0), none⟩,
    ⟨some 5, .mv (.tmp 0), none⟩,
    ⟨some 6, .lenV (.tmp 5), none⟩,
    ⟨some 7, .mv (.tmp 1), none⟩,
    ⟨some 8, .bin .sub (.tmp 6) (.tmp 7), none⟩,
    ⟨some 9, .call 49 [(.tmp 4), (.tmp 8)], none⟩])
theorem p_slices_rotateRight_caravel_api_Block : Try.f41.body.bind (compC Try.prog 10) = some c_slices_rotateRight_caravel_api_Block := by kernel_rfl
theorem r_slices_rotateRight_caravel_api_Block : tellR Try.prog Try.f41.results.toList = some [] := by kernel_rfl

/-- slices.ContainsFunc[[]caravel/api.Block,caravel/api.Block]: 2 in. -/
def c_slices_ContainsFunc__caravel_api_Block_caravel_api_Block : ACode :=
  (.seq (.reg [⟨some 4, .mv (.cst (.bool false)), none⟩])
  (.seq (.reg [⟨some 5, .mv (.tmp 0), none⟩,
    ⟨some 6, .mv (.tmp 1), none⟩,
    ⟨some 7, .call 44 [(.tmp 5), (.tmp 6)], none⟩,
    ⟨some 8, .bin .geq (.tmp 7) (.cst (.int .i64 0)), none⟩,
    ⟨some 4, .mv (.tmp 8), none⟩])
  .ret))
theorem p_slices_ContainsFunc__caravel_api_Block_caravel_api_Block : Try.f42.body.bind (compC Try.prog 9) = some c_slices_ContainsFunc__caravel_api_Block_caravel_api_Block := by kernel_rfl
theorem r_slices_ContainsFunc__caravel_api_Block_caravel_api_Block : tellR Try.prog Try.f42.results.toList = some [.t 4] := by kernel_rfl

/-- caravel/heap.inside$1: 3 in. -/
def c_heap_inside_1 : ACode :=
  (.seq (.reg [⟨some 3, .box (.tmp 0), none⟩,
    ⟨some 4, .mv (.cst (.bool false)), none⟩])
  (.seq (.reg [⟨some 5, .load false 1 (.tmp 1), none⟩,
    ⟨some 6, .fadr 0 (.tmp 3), none⟩,
    ⟨some 7, .load false 1 (.tmp 6), none⟩,
    ⟨some 8, .bin .geq (.tmp 5) (.tmp 7), none⟩,
    ⟨some 9, .mv (.tmp 8), none⟩,
    ⟨some 10, .load false 1 (.tmp 2), some (9, true)⟩,
    ⟨some 11, .fadr 0 (.tmp 3), some (9, true)⟩,
    ⟨some 12, .load false 1 (.tmp 11), some (9, true)⟩,
    ⟨some 13, .fadr 1 (.tmp 3), some (9, true)⟩,
    ⟨some 14, .load false 1 (.tmp 13), some (9, true)⟩,
    ⟨some 15, .bin .add (.tmp 12) (.tmp 14), some (9, true)⟩,
    ⟨some 16, .load false 1 (.tmp 1), some (9, true)⟩,
    ⟨some 17, .bin .sub (.tmp 15) (.tmp 16), some (9, true)⟩,
    ⟨some 18, .bin .leq (.tmp 10) (.tmp 17), some (9, true)⟩,
    ⟨some 19, .pick (.tmp 9) (.tmp 18) (.cst (.bool false)), none⟩,
    ⟨some 4, .mv (.tmp 19), none⟩])
  .ret))
theorem p_heap_inside_1 : Try.f43.body.bind (compC Try.prog 20) = some c_heap_inside_1 := by kernel_rfl
theorem r_heap_inside_1 : tellR Try.prog Try.f43.results.toList = some [.t 4] := by kernel_rfl

/-- slices.IndexFunc[[]caravel/api.Block,caravel/api.Block]: 2 in. -/
def c_slices_IndexFunc__caravel_api_Block_caravel_api_Block : ACode :=
  (.seq (.reg [⟨some 4, .mv (.cst (.int .i64 0)), none⟩])
  (.seq (.seq (.reg [⟨some 6, .mv (.tmp 0), none⟩,
    ⟨some 7, .lenV (.tmp 6), none⟩,
    ⟨some 8, .mv (.cst (.int .i64 0)), none⟩])
  (.block 0 (.loop
    (.seq (.reg [⟨some 9, .bin .lss (.tmp 8) (.tmp 7), none⟩])
    (.seq (.cond (.tmp 9)
      .skip
      (.exit 0))
    (.seq (.block 1 (.seq (.reg [⟨some 10, .mv (.tmp 8), none⟩,
      ⟨some 5, .mv (.tmp 10), none⟩])
    (.seq (.reg [⟨some 11, .mv (.tmp 1), none⟩,
      ⟨some 12, .mv (.tmp 0), none⟩,
      ⟨some 13, .mv (.tmp 5), none⟩,
      ⟨some 14, .iadS 2 (.tmp 12) (.tmp 13), none⟩,
      ⟨some 15, .load true 2 (.tmp 14), none⟩,
      ⟨some 16, .callv (.tmp 11) [(.tmp 15)], none⟩])
    (.cond (.tmp 16)
      (.seq (.reg [⟨some 17, .mv (.tmp 5), none⟩,
        ⟨some 4, .mv (.tmp 17), none⟩])
      .ret)
      .skip))))
    (.reg [⟨some 18, .bin .add (.tmp 8) (.cst (.int .i64 1)), none⟩,
      ⟨some 8, .mv (.tmp 18), none⟩])))))))
  (.seq (.reg [⟨some 4, .mv (.cst (.int .i64 (-1))), none⟩])
  .ret)))
theorem p_slices_IndexFunc__caravel_api_Block_caravel_api_Block : Try.f44.body.bind (compC Try.prog 19) = some c_slices_IndexFunc__caravel_api_Block_caravel_api_Block := by kernel_rfl
theorem r_slices_IndexFunc__caravel_api_Block_caravel_api_Block : tellR Try.prog Try.f44.results.toList = some [.t 4] := by kernel_rfl

/-- caravel/heap.find$1: 2 in. -/
def c_heap_find_1 : ACode :=
  (.seq (.reg [⟨some 2, .box (.tmp 0), none⟩,
    ⟨some 3, .mv (.cst (.bool false)), none⟩])
  (.seq (.reg [⟨some 4, .fadr 0 (.tmp 2), none⟩,
    ⟨some 5, .load false 1 (.tmp 4), none⟩,
    ⟨some 6, .load false 1 (.tmp 1), none⟩,
    ⟨some 7, .bin .eql (.tmp 5) (.tmp 6), none⟩,
    ⟨some 3, .mv (.tmp 7), none⟩])
  .ret))
theorem p_heap_find_1 : Try.f45.body.bind (compC Try.prog 8) = some c_heap_find_1 := by kernel_rfl
theorem r_heap_find_1 : tellR Try.prog Try.f45.results.toList = some [.t 3] := by kernel_rfl

/-- caravel/caravelref10.Room: 3 in. -/
def c_caravelref10_Room : ACode :=
  (.seq (.reg [⟨some 3, .box (.tmp 0), none⟩,
    ⟨some 6, .mv (.cst (.bool false)), none⟩])
  (.seq (.seq (.reg [⟨some 8, .mv (.tmp 1), none⟩,
    ⟨some 9, .mv (.tmp 2), none⟩,
    ⟨some 10, .bin .add (.tmp 8) (.tmp 9), none⟩,
    ⟨some 11, .fadr 0 (.tmp 3), none⟩,
    ⟨some 12, .load false 1 (.tmp 11), none⟩,
    ⟨some 13, .lenT (.tmp 12), none⟩,
    ⟨some 14, .bin .gtr (.tmp 10) (.tmp 13), none⟩])
  (.cond (.tmp 14)
    (.seq (.reg [⟨some 6, .mv (.cst (.bool false)), none⟩])
    .ret)
    .skip))
  (.seq (.seq (.reg [⟨some 7, .mv (.cst (.int .i64 0)), none⟩])
  (.block 0 (.loop
    (.seq (.seq (.reg [⟨some 15, .mv (.tmp 7), none⟩,
      ⟨some 16, .fadr 1 (.tmp 3), none⟩,
      ⟨some 17, .load false 1 (.tmp 16), none⟩,
      ⟨some 18, .lenV (.tmp 17), none⟩,
      ⟨some 19, .bin .lss (.tmp 15) (.tmp 18), none⟩])
    (.cond (.tmp 19)
      .skip
      (.exit 0)))
    (.seq (.block 1 (.seq (.reg [⟨some 22, .fadr 1 (.tmp 3), none⟩,
      ⟨some 23, .load false 1 (.tmp 22), none⟩,
      ⟨some 24, .mv (.tmp 7), none⟩,
      ⟨some 25, .iadS 2 (.tmp 23) (.tmp 24), none⟩,
      ⟨some 26, .fadr 0 (.tmp 25), none⟩,
      ⟨some 27, .load false 1 (.tmp 26), none⟩,
      ⟨some 28, .mv (.tmp 1), none⟩,
      ⟨some 29, .mv (.tmp 2), none⟩,
      ⟨some 30, .bin .add (.tmp 28) (.tmp 29), none⟩,
      ⟨some 31, .bin .lss (.tmp 27) (.tmp 30), none⟩,
      ⟨some 32, .mv (.tmp 31), none⟩,
      ⟨some 33, .mv (.tmp 1), some (32, true)⟩,
      ⟨some 34, .fadr 1 (.tmp 3), some (32, true)⟩,
      ⟨some 35, .load false 1 (.tmp 34), some (32, true)⟩,
      ⟨some 36, .mv (.tmp 7), some (32, true)⟩,
      ⟨some 37, .iadS 2 (.tmp 35) (.tmp 36), some (32, true)⟩,
      ⟨some 38, .fadr 1 (.tmp 37), some (32, true)⟩,
      ⟨some 39, .load false 1 (.tmp 38), some (32, true)⟩,
      ⟨some 40, .bin .lss (.tmp 33) (.tmp 39), some (32, true)⟩,
      ⟨some 41, .pick (.tmp 32) (.tmp 40) (.cst (.bool false)), none⟩])
    (.cond (.tmp 41)
      (.seq (.reg [⟨some 6, .mv (.cst (.bool false)), none⟩])
      .ret)
      .skip)))
    (.reg [⟨some 20, .mv (.tmp 7), none⟩,
      ⟨some 21, .bin .add (.tmp 20) (.cst (.int .i64 1)), none⟩,
      ⟨some 7, .mv (.tmp 21), none⟩]))))))
  (.seq (.reg [⟨some 6, .mv (.cst (.bool true)), none⟩])
  .ret))))
theorem p_caravelref10_Room : Try.f46.body.bind (compC Try.prog 42) = some c_caravelref10_Room := by kernel_rfl
theorem r_caravelref10_Room : tellR Try.prog Try.f46.results.toList = some [.t 6] := by kernel_rfl

/-- caravel/caravelref10.put: 3 in. -/
def c_caravelref10_put : ACode :=
  (.seq (.reg [⟨some 3, .box (.tmp 0), none⟩,
    ⟨some 6, .newb [(.str []), .nil, .nil], none⟩])
  (.seq (.reg [⟨some 7, .mv (.cst .nil), none⟩])
  (.seq (.seq (.reg [⟨some 8, .mv (.cst (.int .i64 0)), none⟩])
  (.block 0 (.loop
    (.seq (.seq (.reg [⟨some 10, .mv (.tmp 8), none⟩,
      ⟨some 11, .fadr 2 (.tmp 3), none⟩,
      ⟨some 12, .load false 1 (.tmp 11), none⟩,
      ⟨some 13, .lenV (.tmp 12), none⟩,
      ⟨some 14, .bin .lss (.tmp 10) (.tmp 13), none⟩])
    (.cond (.tmp 14)
      .skip
      (.exit 0)))
    (.seq (.block 1 (.seq (.reg [⟨some 17, .mv (.tmp 2), none⟩,
      ⟨some 18, .binT .neq (.tmp 17) (.cst (.str [])), none⟩,
      ⟨some 19, .mv (.tmp 18), none⟩,
      ⟨some 20, .mv (.tmp 1), some (19, true)⟩,
      ⟨some 21, .mv (.tmp 8), some (19, true)⟩,
      ⟨some 22, .bin .add (.tmp 21) (.cst (.int .i64 1)), some (19, true)⟩,
      ⟨some 23, .bin .mul (.cst (.int .i64 64)) (.tmp 22), some (19, true)⟩,
      ⟨some 24, .bin .lss (.tmp 20) (.tmp 23), some (19, true)⟩,
      ⟨some 25, .pick (.tmp 19) (.tmp 24) (.cst (.bool false)), none⟩,
      ⟨some 26, .mv (.tmp 25), none⟩,
      ⟨some 27, .mv (.tmp 1), some (26, true)⟩,
      ⟨some 28, .mv (.tmp 2), some (26, true)⟩,
      ⟨some 29, .lenT (.tmp 28), some (26, true)⟩,
      ⟨some 30, .bin .add (.tmp 27) (.tmp 29), some (26, true)⟩,
      ⟨some 31, .mv (.tmp 8), some (26, true)⟩,
      ⟨some 32, .bin .mul (.cst (.int .i64 64)) (.tmp 31), some (26, true)⟩,
      ⟨some 33, .bin .gtr (.tmp 30) (.tmp 32), some (26, true)⟩,
      ⟨some 34, .pick (.tmp 26) (.tmp 33) (.cst (.bool false)), none⟩,
      ⟨some 9, .mv (.tmp 34), none⟩])
    (.reg [⟨some 35, .mv (.tmp 7), none⟩,
      ⟨some 36, .fadr 2 (.tmp 3), none⟩,
      ⟨some 37, .load false 1 (.tmp 36), none⟩,
      ⟨some 38, .mv (.tmp 8), none⟩,
      ⟨some 39, .iadS 1 (.tmp 37) (.tmp 38), none⟩,
      ⟨some 40, .load false 1 (.tmp 39), none⟩,
      ⟨some 41, .mv (.tmp 40), none⟩,
      ⟨some 42, .mv (.tmp 9), some (41, false)⟩,
      ⟨some 43, .pick (.tmp 41) (.cst (.bool true)) (.tmp 42), none⟩,
      ⟨some 44, .bsl 1 [(.tmp 43)], none⟩,
      ⟨some 45, .app 1 1 (.tmp 35) (.tmp 44), none⟩,
      ⟨some 7, .mv (.tmp 45), none⟩])))
    (.reg [⟨some 15, .mv (.tmp 8), none⟩,
      ⟨some 16, .bin .add (.tmp 15) (.cst (.int .i64 1)), none⟩,
      ⟨some 8, .mv (.tmp 16), none⟩]))))))
  (.seq (.reg [⟨some 46, .fadr 0 (.tmp 3), none⟩,
    ⟨some 47, .load false 1 (.tmp 46), none⟩,
    ⟨some 48, .mv (.tmp 1), none⟩,
    ⟨some 49, .slT (.tmp 47) none (some (.tmp 48)), none⟩,
    ⟨some 50, .mv (.tmp 2), none⟩,
    ⟨some 51, .binT .add (.tmp 49) (.tmp 50), none⟩,
    ⟨some 52, .fadr 0 (.tmp 3), none⟩,
    ⟨some 53, .load false 1 (.tmp 52), none⟩,
    ⟨some 54, .mv (.tmp 1), none⟩,
    ⟨some 55, .mv (.tmp 2), none⟩,
    ⟨some 56, .lenT (.tmp 55), none⟩,
    ⟨some 57, .bin .add (.tmp 54) (.tmp 56), none⟩,
    ⟨some 58, .slT (.tmp 53) (some (.tmp 57)) none, none⟩,
    ⟨some 59, .binT .add (.tmp 51) (.tmp 58), none⟩,
    ⟨some 60, .mv (.tmp 7), none⟩,
    ⟨some 61, .fadr 0 (.tmp 3), none⟩,
    ⟨none, .store 1 (.tmp 61) (.tmp 59), none⟩,
    ⟨some 62, .fadr 2 (.tmp 3), none⟩,
    ⟨none, .store 1 (.tmp 62) (.tmp 60), none⟩])
  (.seq (.reg [⟨some 63, .load true 3 (.tmp 3), none⟩,
    ⟨none, .store 3 (.tmp 6) (.tmp 63), none⟩])
  .ret)))))
theorem p_caravelref10_put : Try.f47.body.bind (compC Try.prog 64) = some c_caravelref10_put := by kernel_rfl
theorem r_caravelref10_put : tellR Try.prog Try.f47.results.toList = some [.c 6 true 3] := by kernel_rfl

/-- caravel/caravelref10.In: 3 in. -/
def c_caravelref10_In : ACode :=
  (.seq (.reg [⟨some 3, .box (.tmp 0), none⟩,
    ⟨some 6, .mv (.cst (.bool false)), none⟩])
  (.seq (.seq (.reg [⟨some 7, .mv (.cst (.int .i64 0)), none⟩])
  (.block 0 (.loop
    (.seq (.seq (.reg [⟨some 8, .mv (.tmp 7), none⟩,
      ⟨some 9, .fadr 1 (.tmp 3), none⟩,
      ⟨some 10, .load false 1 (.tmp 9), none⟩,
      ⟨some 11, .lenV (.tmp 10), none⟩,
      ⟨some 12, .bin .lss (.tmp 8) (.tmp 11), none⟩])
    (.cond (.tmp 12)
      .skip
      (.exit 0)))
    (.seq (.block 1 (.seq (.reg [⟨some 15, .mv (.tmp 1), none⟩,
      ⟨some 16, .fadr 1 (.tmp 3), none⟩,
      ⟨some 17, .load false 1 (.tmp 16), none⟩,
      ⟨some 18, .mv (.tmp 7), none⟩,
      ⟨some 19, .iadS 2 (.tmp 17) (.tmp 18), none⟩,
      ⟨some 20, .fadr 0 (.tmp 19), none⟩,
      ⟨some 21, .load false 1 (.tmp 20), none⟩,
      ⟨some 22, .bin .geq (.tmp 15) (.tmp 21), none⟩,
      ⟨some 23, .mv (.tmp 22), none⟩,
      ⟨some 24, .mv (.tmp 1), some (23, true)⟩,
      ⟨some 25, .fadr 1 (.tmp 3), some (23, true)⟩,
      ⟨some 26, .load false 1 (.tmp 25), some (23, true)⟩,
      ⟨some 27, .mv (.tmp 7), some (23, true)⟩,
      ⟨some 28, .iadS 2 (.tmp 26) (.tmp 27), some (23, true)⟩,
      ⟨some 29, .fadr 1 (.tmp 28), some (23, true)⟩,
      ⟨some 30, .load false 1 (.tmp 29), some (23, true)⟩,
      ⟨some 31, .bin .leq (.tmp 24) (.tmp 30), some (23, true)⟩,
      ⟨some 32, .pick (.tmp 23) (.tmp 31) (.cst (.bool false)), none⟩,
      ⟨some 33, .mv (.tmp 32), none⟩,
      ⟨some 34, .mv (.tmp 2), some (33, true)⟩,
      ⟨some 35, .fadr 1 (.tmp 3), some (33, true)⟩,
      ⟨some 36, .load false 1 (.tmp 35), some (33, true)⟩,
      ⟨some 37, .mv (.tmp 7), some (33, true)⟩,
      ⟨some 38, .iadS 2 (.tmp 36) (.tmp 37), some (33, true)⟩,
      ⟨some 39, .fadr 1 (.tmp 38), some (33, true)⟩,
      ⟨some 40, .load false 1 (.tmp 39), some (33, true)⟩,
      ⟨some 41, .mv (.tmp 1), some (33, true)⟩,
      ⟨some 42, .bin .sub (.tmp 40) (.tmp 41), some (33, true)⟩,
      ⟨some 43, .bin .leq (.tmp 34) (.tmp 42), some (33, true)⟩,
      ⟨some 44, .pick (.tmp 33) (.tmp 43) (.cst (.bool false)), none⟩])
    (.cond (.tmp 44)
      (.seq (.reg [⟨some 6, .mv (.cst (.bool true)), none⟩])
      .ret)
      .skip)))
    (.reg [⟨some 13, .mv (.tmp 7), none⟩,
      ⟨some 14, .bin .add (.tmp 13) (.cst (.int .i64 1)), none⟩,
      ⟨some 7, .mv (.tmp 14), none⟩]))))))
  (.seq (.reg [⟨some 6, .mv (.cst (.bool false)), none⟩])
  .ret)))
theorem p_caravelref10_In : Try.f48.body.bind (compC Try.prog 45) = some c_caravelref10_In := by kernel_rfl
theorem r_caravelref10_In : tellR Try.prog Try.f48.results.toList = some [.t 6] := by kernel_rfl

/-- slices.rotateLeft[caravel/api.Block]: 2 in. -/
def c_slices_rotateLeft_caravel_api_Block : ACode :=
  (.seq (.reg [⟨some 4, .mv (.tmp 0), none⟩,
    ⟨some 5, .mv (.tmp 1), none⟩,
    ⟨some 6, .slS 2 (.tmp 4) none (some (.tmp 5)) none, none⟩,
    ⟨some 7, .call 50 [(.tmp 6)], none⟩])
  (.seq (.reg [⟨some 8, .mv (.tmp 0), none⟩,
    ⟨some 9, .mv (.tmp 1), none⟩,
    ⟨some 10, .slS 2 (.tmp 8) (some (.tmp 9)) none none, none⟩,
    ⟨some 11, .call 50 [(.tmp 10)], none⟩])
  (.reg [⟨some 12, .mv (.tmp 0), none⟩,
    ⟨some 13, .call 50 [(.tmp 12)], none⟩])))
theorem p_slices_rotateLeft_caravel_api_Block : Try.f49.body.bind (compC Try.prog 14) = some c_slices_rotateLeft_caravel_api_Block := by kernel_rfl
theorem r_slices_rotateLeft_caravel_api_Block : tellR Try.prog Try.f49.results.toList = some [] := by kernel_rfl

/-- slices.Reverse[[]caravel/api.Block,caravel/api.Block]: 1 in. -/
def c_slices_Reverse__caravel_api_Block_caravel_api_Block : ACode :=
  (.seq (.reg [⟨some 4, .mv (.tmp 0), none⟩,
    ⟨some 5, .lenV (.tmp 4), none⟩,
    ⟨some 6, .bin .sub (.tmp 5) (.cst (.int .i64 1)), none⟩,
    ⟨some 2, .mv (.cst (.int .i64 0)), none⟩,
    ⟨some 3, .mv (.tmp 6), none⟩])
  (.block 0 (.loop
    (.seq (.seq (.reg [⟨some 7, .mv (.tmp 2), none⟩,
      ⟨some 8, .mv (.tmp 3), none⟩,
      ⟨some 9, .bin .lss (.tmp 7) (.tmp 8), none⟩])
    (.cond (.tmp 9)
      .skip
      (.exit 0)))
    (.seq (.block 1 (.reg [⟨some 14, .mv (.tmp 0), none⟩,
      ⟨some 15, .mv (.tmp 2), none⟩,
      ⟨some 16, .mv (.tmp 0), none⟩,
      ⟨some 17, .mv (.tmp 3), none⟩,
      ⟨some 18, .mv (.tmp 0), none⟩,
      ⟨some 19, .mv (.tmp 3), none⟩,
      ⟨some 20, .iadS 2 (.tmp 18) (.tmp 19), none⟩,
      ⟨some 21, .load true 2 (.tmp 20), none⟩,
      ⟨some 22, .mv (.tmp 0), none⟩,
      ⟨some 23, .mv (.tmp 2), none⟩,
      ⟨some 24, .iadS 2 (.tmp 22) (.tmp 23), none⟩,
      ⟨some 25, .load true 2 (.tmp 24), none⟩,
      ⟨some 26, .iadS 2 (.tmp 14) (.tmp 15), none⟩,
      ⟨none, .store 2 (.tmp 26) (.tmp 21), none⟩,
      ⟨some 27, .iadS 2 (.tmp 16) (.tmp 17), none⟩,
      ⟨none, .store 2 (.tmp 27) (.tmp 25), none⟩]))
    (.reg [⟨some 10, .mv (.tmp 2), none⟩,
      ⟨some 11, .bin .add (.tmp 10) (.cst (.int .i64 1)), none⟩,
      ⟨some 12, .mv (.tmp 3), none⟩,
      ⟨some 13, .bin .sub (.tmp 12) (.cst (.int .i64 1)), none⟩,
      ⟨some 2, .mv (.tmp 11), none⟩,
      ⟨some 3, .mv (.tmp 13), none⟩]))))))
theorem p_slices_Reverse__caravel_api_Block_caravel_api_Block : Try.f50.body.bind (compC Try.prog 28) = some c_slices_Reverse__caravel_api_Block_caravel_api_Block := by kernel_rfl
theorem r_slices_Reverse__caravel_api_Block_caravel_api_Block : tellR Try.prog Try.f50.results.toList = some [] := by kernel_rfl

end Go.Proofs.Ytjacmhaeemhinaa
