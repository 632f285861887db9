/- The program's functions, told as operations on abstract values. -/
import Derived.Test.YtiejnmbpejfpgaaAx30
import Derived.Test.YtiejnmbpejfpgaaProg
namespace Go.Proofs.Ytiejnmbpejfpgaa

/-- caravel/caravellaw07.FragHolds: 2 in. -/
def c_caravellaw07_FragHolds : ACode :=
  (.seq (.reg [⟨some 2, .box (.tmp 0), none⟩,
    ⟨some 4, .mv (.cst (.bool false)), none⟩])
  (.seq (.seq (.reg [⟨some 25, .call 7 [], none⟩,
    ⟨some 26, .not (.tmp 25), none⟩,
    ⟨some 27, .mv (.tmp 26), none⟩,
    ⟨some 28, .load false 1 (.tmp 2), some (27, false)⟩,
    ⟨some 29, .lenV (.tmp 28), some (27, false)⟩,
    ⟨some 30, .bin .gtr (.tmp 29) (.cst (.int .i64 200)), some (27, false)⟩,
    ⟨some 31, .pick (.tmp 27) (.cst (.bool true)) (.tmp 30), none⟩])
  (.cond (.tmp 31)
    (.seq (.reg [⟨some 32, .call 7 [], none⟩,
      ⟨some 4, .mv (.tmp 32), none⟩])
    .ret)
    .skip))
  (.seq (.reg [⟨some 5, .mv (.cst .nil), none⟩])
  (.seq (.reg [⟨some 33, .mkf 13 [(.tmp 2)], none⟩,
    ⟨some 6, .mv (.tmp 33), none⟩])
  (.seq (.seq (.reg [⟨some 34, .mv (.cst (.int .i64 0)), none⟩])
  (.block 0 (.loop
    (.seq (.reg [⟨some 35, .bin .lss (.tmp 34) (.cst (.int .i64 9)), none⟩])
    (.seq (.cond (.tmp 35)
      .skip
      (.exit 0))
    (.seq (.block 1 (.seq (.reg [⟨some 36, .mv (.tmp 34), none⟩,
      ⟨some 7, .mv (.tmp 36), none⟩])
    (.seq (.reg [⟨some 38, .mv (.tmp 5), none⟩,
      ⟨some 39, .mv (.tmp 6), none⟩,
      ⟨some 40, .mv (.tmp 7), none⟩,
      ⟨some 41, .callv (.tmp 39) [(.tmp 40), (.cst (.bool false))], none⟩,
      ⟨some 42, .call 11 [(.tmp 38), (.tmp 41), (.cst (.int .u64 5))], none⟩,
      ⟨some 37, .mv (.tmp 42), none⟩,
      ⟨some 43, .ext (.tmp 37) 0, none⟩,
      ⟨some 44, .ext (.tmp 37) 1, none⟩,
      ⟨some 45, .ext (.tmp 37) 2, none⟩,
      ⟨some 46, .ext (.tmp 37) 3, none⟩,
      ⟨some 9, .newb [(.int .u16 0), (.bool false), (.int .i64 0), (.int .u8 0), (.int .u8 0), (.int .u8 0), (.int .u8 0), (.int .u8 0), (.int .u8 0), (.int .u8 0), (.int .u8 0), (.int .u8 0), (.int .u8 0), .nil], none⟩,
      ⟨some 8, .mv (.tmp 43), none⟩,
      ⟨none, .store 14 (.tmp 9) (.tmp 44), none⟩,
      ⟨some 10, .mv (.tmp 45), none⟩,
      ⟨some 11, .mv (.tmp 46), none⟩])
    (.seq (.reg [⟨some 47, .mv (.tmp 8), none⟩,
      ⟨some 5, .mv (.tmp 47), none⟩])
    (.seq (.reg [⟨some 48, .mv (.tmp 10), none⟩,
      ⟨some 49, .mv (.tmp 48), none⟩,
      ⟨some 50, .mv (.tmp 11), some (49, false)⟩,
      ⟨some 51, .bin .eql (.tmp 50) (.cst (.int .i64 0)), some (49, false)⟩,
      ⟨some 52, .mv (.tmp 7), some (49, false)⟩,
      ⟨some 53, .bin .lss (.tmp 52) (.cst (.int .i64 8)), some (49, false)⟩,
      ⟨some 54, .binB true (.tmp 51) (.tmp 53), some (49, false)⟩,
      ⟨some 55, .pick (.tmp 49) (.cst (.bool true)) (.tmp 54), none⟩,
      ⟨some 56, .mv (.tmp 55), none⟩,
      ⟨some 57, .mv (.tmp 11), some (56, false)⟩,
      ⟨some 58, .bin .neq (.tmp 57) (.cst (.int .i64 0)), some (56, false)⟩,
      ⟨some 59, .mv (.tmp 58), some (56, false)⟩,
      ⟨some 60, .mv (.tmp 11), some (59, true)⟩,
      ⟨some 61, .bin .neq (.tmp 60) (.cst (.int .i64 5)), some (59, true)⟩,
      ⟨some 62, .pick (.tmp 59) (.tmp 61) (.cst (.bool false)), some (56, false)⟩,
      ⟨some 63, .pick (.tmp 56) (.cst (.bool true)) (.tmp 62), none⟩])
    (.cond (.tmp 63)
      (.seq (.reg [⟨some 4, .mv (.cst (.bool false)), none⟩])
      .ret)
      .skip))))))
    (.reg [⟨some 64, .bin .add (.tmp 34) (.cst (.int .i64 1)), none⟩,
      ⟨some 34, .mv (.tmp 64), none⟩])))))))
  (.seq (.seq (.reg [⟨some 65, .mv (.tmp 1), none⟩])
  (.cond (.tmp 65)
    (.seq (.reg [⟨some 67, .mv (.tmp 5), none⟩,
      ⟨some 68, .mv (.tmp 6), none⟩,
      ⟨some 69, .callv (.tmp 68) [(.cst (.int .i64 99)), (.cst (.bool false))], none⟩,
      ⟨some 70, .call 11 [(.tmp 67), (.tmp 69), (.cst (.int .u64 35))], none⟩,
      ⟨some 66, .mv (.tmp 70), none⟩,
      ⟨some 71, .ext (.tmp 66) 0, none⟩,
      ⟨some 72, .ext (.tmp 66) 1, none⟩,
      ⟨some 73, .ext (.tmp 66) 2, none⟩,
      ⟨some 74, .ext (.tmp 66) 3, none⟩,
      ⟨some 13, .newb [(.int .u16 0), (.bool false), (.int .i64 0), (.int .u8 0), (.int .u8 0), (.int .u8 0), (.int .u8 0), (.int .u8 0), (.int .u8 0), (.int .u8 0), (.int .u8 0), (.int .u8 0), (.int .u8 0), .nil], none⟩,
      ⟨some 12, .mv (.tmp 71), none⟩,
      ⟨none, .store 14 (.tmp 13) (.tmp 72), none⟩,
      ⟨some 14, .mv (.tmp 73), none⟩,
      ⟨some 15, .mv (.tmp 74), none⟩])
    (.seq (.reg [⟨some 75, .mv (.tmp 15), none⟩,
      ⟨some 76, .bin .eql (.tmp 75) (.cst (.int .i64 0)), none⟩,
      ⟨some 77, .mv (.tmp 76), none⟩,
      ⟨some 78, .mv (.tmp 12), some (77, true)⟩,
      ⟨some 79, .lenV (.tmp 78), some (77, true)⟩,
      ⟨some 80, .bin .eql (.tmp 79) (.cst (.int .i64 1)), some (77, true)⟩,
      ⟨some 81, .pick (.tmp 77) (.tmp 80) (.cst (.bool false)), none⟩,
      ⟨some 4, .mv (.tmp 81), none⟩])
    .ret))
    .skip))
  (.seq (.reg [⟨some 83, .mv (.tmp 5), none⟩,
    ⟨some 84, .mv (.tmp 6), none⟩,
    ⟨some 85, .callv (.tmp 84) [(.cst (.int .i64 3)), (.cst (.bool true))], none⟩,
    ⟨some 86, .call 11 [(.tmp 83), (.tmp 85), (.cst (.int .u64 6))], none⟩,
    ⟨some 82, .mv (.tmp 86), none⟩,
    ⟨some 87, .ext (.tmp 82) 0, none⟩,
    ⟨some 88, .ext (.tmp 82) 1, none⟩,
    ⟨some 89, .ext (.tmp 82) 2, none⟩,
    ⟨some 90, .ext (.tmp 82) 3, none⟩,
    ⟨some 17, .newb [(.int .u16 0), (.bool false), (.int .i64 0), (.int .u8 0), (.int .u8 0), (.int .u8 0), (.int .u8 0), (.int .u8 0), (.int .u8 0), (.int .u8 0), (.int .u8 0), (.int .u8 0), (.int .u8 0), .nil], none⟩,
    ⟨some 16, .mv (.tmp 87), none⟩,
    ⟨none, .store 14 (.tmp 17) (.tmp 88), none⟩,
    ⟨some 18, .mv (.tmp 89), none⟩,
    ⟨some 19, .mv (.tmp 90), none⟩])
  (.seq (.reg [⟨some 92, .mv (.tmp 16), none⟩,
    ⟨some 93, .mv (.tmp 6), none⟩,
    ⟨some 94, .callv (.tmp 93) [(.cst (.int .i64 99)), (.cst (.bool false))], none⟩,
    ⟨some 95, .call 11 [(.tmp 92), (.tmp 94), (.cst (.int .u64 6))], none⟩,
    ⟨some 91, .mv (.tmp 95), none⟩,
    ⟨some 96, .ext (.tmp 91) 0, none⟩,
    ⟨some 97, .ext (.tmp 91) 1, none⟩,
    ⟨some 98, .ext (.tmp 91) 2, none⟩,
    ⟨some 99, .ext (.tmp 91) 3, none⟩,
    ⟨some 21, .newb [(.int .u16 0), (.bool false), (.int .i64 0), (.int .u8 0), (.int .u8 0), (.int .u8 0), (.int .u8 0), (.int .u8 0), (.int .u8 0), (.int .u8 0), (.int .u8 0), (.int .u8 0), (.int .u8 0), .nil], none⟩,
    ⟨some 20, .mv (.tmp 96), none⟩,
    ⟨none, .store 14 (.tmp 21) (.tmp 97), none⟩,
    ⟨some 22, .mv (.tmp 98), none⟩,
    ⟨some 23, .mv (.tmp 99), none⟩])
  (.seq (.drw [⟨some 100, .mks 1 1 (.int .u8 0) (.cst (.int .i64 176)) (.cst (.int .i64 176)), none⟩,
    ⟨some 101, .bsl 1 [(.cst (.int .u8 1))], none⟩,
    ⟨some 102, .app 1 1 (.tmp 100) (.tmp 101), none⟩,
    ⟨some 103, .load false 1 (.tmp 2), none⟩,
    ⟨some 104, .app 1 1 (.tmp 102) (.tmp 103), none⟩,
    ⟨some 105, .build [(.int .u16 0), (.bool false), (.int .i64 0), (.int .u8 0), (.int .u8 0), (.int .u8 0), (.int .u8 0), (.int .u8 0), (.int .u8 0), (.int .u8 0), (.int .u8 0), (.int .u8 0), (.int .u8 0), .nil] [(0, 1, (.cst (.int .u16 3))), (13, 1, (.tmp 104))], none⟩,
    ⟨some 24, .newb [(.int .u16 0), (.bool false), (.int .i64 0), (.int .u8 0), (.int .u8 0), (.int .u8 0), (.int .u8 0), (.int .u8 0), (.int .u8 0), (.int .u8 0), (.int .u8 0), (.int .u8 0), (.int .u8 0), .nil], none⟩,
    ⟨none, .store 14 (.tmp 24) (.tmp 105), none⟩] [[], [0], [], [1, 2], [], [], [], []])
  (.seq (.reg [⟨some 106, .mv (.tmp 19), none⟩,
    ⟨some 107, .bin .eql (.tmp 106) (.cst (.int .i64 0)), none⟩,
    ⟨some 108, .mv (.tmp 107), none⟩,
    ⟨some 109, .mv (.tmp 18), some (108, true)⟩,
    ⟨some 110, .pick (.tmp 108) (.tmp 109) (.cst (.bool false)), none⟩,
    ⟨some 111, .mv (.tmp 110), none⟩,
    ⟨some 112, .load true 14 (.tmp 17), some (111, true)⟩,
    ⟨some 113, .load true 14 (.tmp 24), some (111, true)⟩,
    ⟨some 114, .call 12 [(.tmp 112), (.tmp 113)], some (111, true)⟩,
    ⟨some 115, .pick (.tmp 111) (.tmp 114) (.cst (.bool false)), none⟩,
    ⟨some 116, .mv (.tmp 115), none⟩,
    ⟨some 117, .mv (.tmp 23), some (116, true)⟩,
    ⟨some 118, .bin .eql (.tmp 117) (.cst (.int .i64 0)), some (116, true)⟩,
    ⟨some 119, .pick (.tmp 116) (.tmp 118) (.cst (.bool false)), none⟩,
    ⟨some 120, .mv (.tmp 119), none⟩,
    ⟨some 121, .mv (.tmp 20), some (120, true)⟩,
    ⟨some 122, .lenV (.tmp 121), some (120, true)⟩,
    ⟨some 123, .bin .eql (.tmp 122) (.cst (.int .i64 8)), some (120, true)⟩,
    ⟨some 124, .pick (.tmp 120) (.tmp 123) (.cst (.bool false)), none⟩,
    ⟨some 4, .mv (.tmp 124), none⟩])
  .ret))))))))))
theorem p_caravellaw07_FragHolds : Try.f6.body.bind (compC Try.prog 125) = some c_caravellaw07_FragHolds := by kernel_rfl
theorem r_caravellaw07_FragHolds : tellR Try.prog Try.f6.results.toList = some [.t 4] := by kernel_rfl

/-- caravel/caravellaw07.lives: 0 in. -/
def c_caravellaw07_lives : ACode :=
  (.seq (.reg [⟨some 0, .mv (.cst (.bool false)), none⟩])
  (.seq (.reg [⟨some 4, .mks 1 1 (.int .u8 0) (.cst (.int .i64 200)) (.cst (.int .i64 200)), none⟩,
    ⟨some 5, .build [(.int .u16 0), (.bool false), (.int .i64 0), (.int .u8 0), (.int .u8 0), (.int .u8 0), (.int .u8 0), (.int .u8 0), (.int .u8 0), (.int .u8 0), (.int .u8 0), (.int .u8 0), (.int .u8 0), .nil] [(13, 1, (.tmp 4))], none⟩,
    ⟨some 6, .call 8 [(.tmp 5)], none⟩,
    ⟨some 3, .mv (.tmp 6), none⟩,
    ⟨some 7, .ext (.tmp 3) 0, none⟩,
    ⟨some 8, .ext (.tmp 3) 1, none⟩,
    ⟨some 1, .mv (.tmp 7), none⟩,
    ⟨some 2, .mv (.tmp 8), none⟩])
  (.seq (.reg [⟨some 9, .mv (.tmp 2), none⟩,
    ⟨some 10, .bin .eql (.tmp 9) (.cst (.int .i64 0)), none⟩,
    ⟨some 11, .mv (.tmp 10), none⟩,
    ⟨some 12, .mv (.tmp 1), some (11, true)⟩,
    ⟨some 13, .lenV (.tmp 12), some (11, true)⟩,
    ⟨some 14, .bin .eql (.tmp 13) (.cst (.int .i64 2)), some (11, true)⟩,
    ⟨some 15, .pick (.tmp 11) (.tmp 14) (.cst (.bool false)), none⟩,
    ⟨some 16, .mv (.tmp 15), none⟩,
    ⟨some 17, .mv (.tmp 1), some (16, true)⟩,
    ⟨some 18, .iadS 14 (.tmp 17) (.cst (.int .i64 0)), some (16, true)⟩,
    ⟨some 19, .fadr 1 (.tmp 18), some (16, true)⟩,
    ⟨some 20, .load false 1 (.tmp 19), some (16, true)⟩,
    ⟨some 21, .pick (.tmp 16) (.tmp 20) (.cst (.bool false)), none⟩,
    ⟨some 22, .mv (.tmp 21), none⟩,
    ⟨some 23, .mv (.tmp 1), some (22, true)⟩,
    ⟨some 24, .iadS 14 (.tmp 23) (.cst (.int .i64 1)), some (22, true)⟩,
    ⟨some 25, .fadr 2 (.tmp 24), some (22, true)⟩,
    ⟨some 26, .load false 1 (.tmp 25), some (22, true)⟩,
    ⟨some 27, .bin .eql (.tmp 26) (.cst (.int .i64 176)), some (22, true)⟩,
    ⟨some 28, .pick (.tmp 22) (.tmp 27) (.cst (.bool false)), none⟩,
    ⟨some 29, .mv (.tmp 28), none⟩,
    ⟨some 30, .mv (.tmp 1), some (29, true)⟩,
    ⟨some 31, .iadS 14 (.tmp 30) (.cst (.int .i64 1)), some (29, true)⟩,
    ⟨some 32, .fadr 13 (.tmp 31), some (29, true)⟩,
    ⟨some 33, .load false 1 (.tmp 32), some (29, true)⟩,
    ⟨some 34, .lenV (.tmp 33), some (29, true)⟩,
    ⟨some 35, .bin .eql (.tmp 34) (.cst (.int .i64 24)), some (29, true)⟩,
    ⟨some 36, .pick (.tmp 29) (.tmp 35) (.cst (.bool false)), none⟩,
    ⟨some 0, .mv (.tmp 36), none⟩])
  .ret)))
theorem p_caravellaw07_lives : Try.f7.body.bind (compC Try.prog 37) = some c_caravellaw07_lives := by kernel_rfl
theorem r_caravellaw07_lives : tellR Try.prog Try.f7.results.toList = some [.t 0] := by kernel_rfl

/-- caravel/frag.Split: 1 in. -/
def c_frag_Split : ACode :=
  (.seq (.reg [⟨some 1, .box (.tmp 0), none⟩,
    ⟨some 2, .mv (.cst .nil), none⟩,
    ⟨some 3, .mv (.cst (.int .i64 0)), none⟩])
  (.seq (.seq (.reg [⟨some 7, .fadr 2 (.tmp 1), none⟩,
    ⟨some 8, .load false 1 (.tmp 7), none⟩,
    ⟨some 9, .bin .neq (.tmp 8) (.cst (.int .i64 0)), none⟩,
    ⟨some 10, .mv (.tmp 9), none⟩,
    ⟨some 11, .fadr 1 (.tmp 1), some (10, false)⟩,
    ⟨some 12, .load false 1 (.tmp 11), some (10, false)⟩,
    ⟨some 13, .pick (.tmp 10) (.cst (.bool true)) (.tmp 12), none⟩])
  (.cond (.tmp 13)
    (.seq (.reg [⟨some 2, .mv (.cst .nil), none⟩,
      ⟨some 3, .mv (.cst (.int .i64 1)), none⟩])
    .ret)
    .skip))
  (.seq (.seq (.reg [⟨some 14, .fadr 13 (.tmp 1), none⟩,
    ⟨some 15, .load false 1 (.tmp 14), none⟩,
    ⟨some 16, .lenV (.tmp 15), none⟩,
    ⟨some 17, .bin .gtr (.tmp 16) (.cst (.int .i64 1000)), none⟩])
  (.cond (.tmp 17)
    (.seq (.reg [⟨some 2, .mv (.cst .nil), none⟩,
      ⟨some 3, .mv (.cst (.int .i64 4)), none⟩])
    .ret)
    .skip))
  (.seq (.reg [⟨some 4, .newb [.nil], none⟩])
  (.seq (.seq (.reg [⟨some 18, .fadr 13 (.tmp 1), none⟩,
    ⟨some 19, .load false 1 (.tmp 18), none⟩,
    ⟨some 20, .call 14 [(.tmp 19), (.cst (.int .i64 176))], none⟩])
  (.block 0 (.rf (.tmp 20) [21]
    (.reg [⟨some 5, .mv (.tmp 21), none⟩])
    (.block 1 (.seq (.reg [⟨some 22, .load true 14 (.tmp 1), none⟩,
      ⟨some 6, .newb [(.int .u16 0), (.bool false), (.int .i64 0), (.int .u8 0), (.int .u8 0), (.int .u8 0), (.int .u8 0), (.int .u8 0), (.int .u8 0), (.int .u8 0), (.int .u8 0), (.int .u8 0), (.int .u8 0), .nil], none⟩,
      ⟨none, .store 14 (.tmp 6) (.tmp 22), none⟩])
    (.seq (.drw [⟨some 23, .load false 1 (.tmp 4), none⟩,
      ⟨some 24, .lenV (.tmp 23), none⟩,
      ⟨some 25, .bin .mul (.cst (.int .i64 176)) (.tmp 24), none⟩,
      ⟨some 26, .mv (.tmp 5), none⟩,
      ⟨some 27, .call 15 [(.tmp 26)], none⟩,
      ⟨some 28, .fadr 2 (.tmp 6), none⟩,
      ⟨none, .store 1 (.tmp 28) (.tmp 25), none⟩,
      ⟨some 29, .fadr 13 (.tmp 6), none⟩,
      ⟨none, .store 1 (.tmp 29) (.tmp 27), none⟩] [[], [], [], [], [], [], [], [], []])
    (.seq (.reg [⟨some 30, .fadr 2 (.tmp 6), none⟩,
      ⟨some 31, .load false 1 (.tmp 30), none⟩,
      ⟨some 32, .mv (.tmp 5), none⟩,
      ⟨some 33, .lenV (.tmp 32), none⟩,
      ⟨some 34, .bin .add (.tmp 31) (.tmp 33), none⟩,
      ⟨some 35, .fadr 13 (.tmp 1), none⟩,
      ⟨some 36, .load false 1 (.tmp 35), none⟩,
      ⟨some 37, .lenV (.tmp 36), none⟩,
      ⟨some 38, .bin .lss (.tmp 34) (.tmp 37), none⟩,
      ⟨some 39, .fadr 1 (.tmp 6), none⟩,
      ⟨none, .store 1 (.tmp 39) (.tmp 38), none⟩])
    (.reg [⟨some 40, .load false 1 (.tmp 4), none⟩,
      ⟨some 41, .load true 14 (.tmp 6), none⟩,
      ⟨some 42, .bsl 14 [(.tmp 41)], none⟩,
      ⟨some 43, .app 14 56 (.tmp 40) (.tmp 42), none⟩,
      ⟨none, .store 1 (.tmp 4) (.tmp 43), none⟩]))))))))
  (.seq (.seq (.reg [⟨some 44, .load false 1 (.tmp 4), none⟩,
    ⟨some 45, .lenV (.tmp 44), none⟩,
    ⟨some 46, .bin .eql (.tmp 45) (.cst (.int .i64 0)), none⟩])
  (.cond (.tmp 46)
    (.seq (.reg [⟨some 47, .load true 14 (.tmp 1), none⟩,
      ⟨some 48, .bsl 14 [(.tmp 47)], none⟩,
      ⟨some 2, .mv (.tmp 48), none⟩,
      ⟨some 3, .mv (.cst (.int .i64 0)), none⟩])
    .ret)
    .skip))
  (.seq (.reg [⟨some 49, .load false 1 (.tmp 4), none⟩,
    ⟨some 2, .mv (.tmp 49), none⟩,
    ⟨some 3, .mv (.cst (.int .i64 0)), none⟩])
  .ret)))))))
theorem p_frag_Split : Try.f8.body.bind (compC Try.prog 50) = some c_frag_Split := by kernel_rfl
theorem r_frag_Split : tellR Try.prog Try.f8.results.toList = some [.t 2, .t 3] := by kernel_rfl

/-- caravel/frag.Add: 3 in. -/
def c_frag_Add : ACode :=
  (.seq (.reg [⟨some 4, .box (.tmp 1), none⟩,
    ⟨some 6, .mv (.cst .nil), none⟩,
    ⟨some 7, .newb [(.int .u16 0), (.bool false), (.int .i64 0), (.int .u8 0), (.int .u8 0), (.int .u8 0), (.int .u8 0), (.int .u8 0), (.int .u8 0), (.int .u8 0), (.int .u8 0), (.int .u8 0), (.int .u8 0), .nil], none⟩,
    ⟨some 8, .mv (.cst (.bool false)), none⟩,
    ⟨some 9, .mv (.cst (.int .i64 0)), none⟩])
  (.seq (.reg [⟨some 14, .mv (.tmp 0), none⟩,
    ⟨some 15, .mv (.tmp 2), none⟩,
    ⟨some 16, .call 16 [(.tmp 14), (.tmp 15)], none⟩,
    ⟨some 0, .mv (.tmp 16), none⟩])
  (.seq (.reg [⟨some 17, .fadr 2 (.tmp 4), none⟩,
    ⟨some 18, .load false 1 (.tmp 17), none⟩,
    ⟨some 19, .fadr 13 (.tmp 4), none⟩,
    ⟨some 20, .load false 1 (.tmp 19), none⟩,
    ⟨some 21, .lenV (.tmp 20), none⟩,
    ⟨some 22, .bin .add (.tmp 18) (.tmp 21), none⟩,
    ⟨some 10, .mv (.tmp 22), none⟩])
  (.seq (.block 0 (.seq (.reg [⟨some 24, .fadr 2 (.tmp 4), none⟩,
    ⟨some 25, .load false 1 (.tmp 24), none⟩,
    ⟨some 26, .bin .lss (.tmp 25) (.cst (.int .i64 0)), none⟩,
    ⟨some 27, .mv (.tmp 26), none⟩,
    ⟨some 28, .fadr 2 (.tmp 4), some (27, false)⟩,
    ⟨some 29, .load false 1 (.tmp 28), some (27, false)⟩,
    ⟨some 30, .bin .gtr (.tmp 29) (.cst (.int .i64 1000)), some (27, false)⟩,
    ⟨some 31, .pick (.tmp 27) (.cst (.bool true)) (.tmp 30), none⟩,
    ⟨some 32, .mv (.tmp 31), none⟩,
    ⟨some 33, .mv (.tmp 10), some (32, false)⟩,
    ⟨some 34, .bin .gtr (.tmp 33) (.cst (.int .i64 1000)), some (32, false)⟩,
    ⟨some 35, .pick (.tmp 32) (.cst (.bool true)) (.tmp 34), none⟩,
    ⟨some 23, .mv (.tmp 35), none⟩])
  (.cond (.tmp 23)
    (.seq (.reg [⟨some 36, .mv (.tmp 0), none⟩,
      ⟨some 37, .build [(.int .u16 0), (.bool false), (.int .i64 0), (.int .u8 0), (.int .u8 0), (.int .u8 0), (.int .u8 0), (.int .u8 0), (.int .u8 0), (.int .u8 0), (.int .u8 0), (.int .u8 0), (.int .u8 0), .nil] [], none⟩,
      ⟨some 6, .mv (.tmp 36), none⟩,
      ⟨none, .store 14 (.tmp 7) (.tmp 37), none⟩,
      ⟨some 8, .mv (.cst (.bool false)), none⟩,
      ⟨some 9, .mv (.cst (.int .i64 4)), none⟩])
    .ret)
    (.seq (.reg [⟨some 39, .fadr 2 (.tmp 4), none⟩,
      ⟨some 40, .load false 1 (.tmp 39), none⟩,
      ⟨some 41, .bin .eql (.tmp 40) (.cst (.int .i64 0)), none⟩,
      ⟨some 42, .mv (.tmp 41), none⟩,
      ⟨some 43, .fadr 1 (.tmp 4), some (42, true)⟩,
      ⟨some 44, .load false 1 (.tmp 43), some (42, true)⟩,
      ⟨some 45, .not (.tmp 44), some (42, true)⟩,
      ⟨some 46, .pick (.tmp 42) (.tmp 45) (.cst (.bool false)), none⟩,
      ⟨some 38, .mv (.tmp 46), none⟩])
    (.cond (.tmp 38)
      (.seq (.reg [⟨some 47, .fadr 13 (.tmp 4), none⟩,
        ⟨some 48, .load false 1 (.tmp 47), none⟩,
        ⟨some 49, .call 15 [(.tmp 48)], none⟩,
        ⟨some 50, .fadr 13 (.tmp 4), none⟩,
        ⟨none, .store 1 (.tmp 50) (.tmp 49), none⟩])
      (.seq (.reg [⟨some 51, .mv (.tmp 0), none⟩,
        ⟨some 52, .load true 14 (.tmp 4), none⟩,
        ⟨some 6, .mv (.tmp 51), none⟩,
        ⟨none, .store 14 (.tmp 7) (.tmp 52), none⟩,
        ⟨some 8, .mv (.cst (.bool true)), none⟩,
        ⟨some 9, .mv (.cst (.int .i64 0)), none⟩])
      .ret))
      (.seq (.reg [⟨some 54, .fadr 2 (.tmp 4), none⟩,
        ⟨some 55, .load false 1 (.tmp 54), none⟩,
        ⟨some 56, .bin .rem (.tmp 55) (.cst (.int .i64 8)), none⟩,
        ⟨some 57, .bin .neq (.tmp 56) (.cst (.int .i64 0)), none⟩,
        ⟨some 58, .mv (.tmp 57), none⟩,
        ⟨some 59, .fadr 1 (.tmp 4), some (58, false)⟩,
        ⟨some 60, .load false 1 (.tmp 59), some (58, false)⟩,
        ⟨some 61, .mv (.tmp 60), some (58, false)⟩,
        ⟨some 62, .fadr 13 (.tmp 4), some (61, true)⟩,
        ⟨some 63, .load false 1 (.tmp 62), some (61, true)⟩,
        ⟨some 64, .lenV (.tmp 63), some (61, true)⟩,
        ⟨some 65, .bin .rem (.tmp 64) (.cst (.int .i64 8)), some (61, true)⟩,
        ⟨some 66, .bin .neq (.tmp 65) (.cst (.int .i64 0)), some (61, true)⟩,
        ⟨some 67, .pick (.tmp 61) (.tmp 66) (.cst (.bool false)), some (58, false)⟩,
        ⟨some 68, .pick (.tmp 58) (.cst (.bool true)) (.tmp 67), none⟩,
        ⟨some 69, .mv (.tmp 68), none⟩,
        ⟨some 70, .fadr 13 (.tmp 4), some (69, false)⟩,
        ⟨some 71, .load false 1 (.tmp 70), some (69, false)⟩,
        ⟨some 72, .lenV (.tmp 71), some (69, false)⟩,
        ⟨some 73, .bin .eql (.tmp 72) (.cst (.int .i64 0)), some (69, false)⟩,
        ⟨some 74, .pick (.tmp 69) (.cst (.bool true)) (.tmp 73), none⟩,
        ⟨some 53, .mv (.tmp 74), none⟩])
      (.cond (.tmp 53)
        (.seq (.reg [⟨some 75, .mv (.tmp 0), none⟩,
          ⟨some 76, .build [(.int .u16 0), (.bool false), (.int .i64 0), (.int .u8 0), (.int .u8 0), (.int .u8 0), (.int .u8 0), (.int .u8 0), (.int .u8 0), (.int .u8 0), (.int .u8 0), (.int .u8 0), (.int .u8 0), .nil] [], none⟩,
          ⟨some 6, .mv (.tmp 75), none⟩,
          ⟨none, .store 14 (.tmp 7) (.tmp 76), none⟩,
          ⟨some 8, .mv (.cst (.bool false)), none⟩,
          ⟨some 9, .mv (.cst (.int .i64 7)), none⟩])
        .ret)
        .skip)))))))
  (.seq (.reg [⟨some 77, .mv (.tmp 0), none⟩,
    ⟨some 78, .mkf 18 [(.tmp 4)], none⟩,
    ⟨some 79, .call 17 [(.tmp 77), (.tmp 78)], none⟩,
    ⟨some 11, .mv (.tmp 79), none⟩])
  (.seq (.seq (.reg [⟨some 80, .mv (.tmp 11), none⟩,
    ⟨some 81, .bin .lss (.tmp 80) (.cst (.int .i64 0)), none⟩])
  (.cond (.tmp 81)
    (.seq (.seq (.reg [⟨some 82, .mv (.tmp 0), none⟩,
      ⟨some 83, .lenV (.tmp 82), none⟩,
      ⟨some 84, .bin .geq (.tmp 83) (.cst (.int .i64 8)), none⟩])
    (.cond (.tmp 84)
      (.seq (.reg [⟨some 85, .mv (.tmp 0), none⟩,
        ⟨some 86, .build [(.int .u16 0), (.bool false), (.int .i64 0), (.int .u8 0), (.int .u8 0), (.int .u8 0), (.int .u8 0), (.int .u8 0), (.int .u8 0), (.int .u8 0), (.int .u8 0), (.int .u8 0), (.int .u8 0), .nil] [], none⟩,
        ⟨some 6, .mv (.tmp 85), none⟩,
        ⟨none, .store 14 (.tmp 7) (.tmp 86), none⟩,
        ⟨some 8, .mv (.cst (.bool false)), none⟩,
        ⟨some 9, .mv (.cst (.int .i64 5)), none⟩])
      .ret)
      .skip))
    (.seq (.reg [⟨some 87, .mv (.tmp 0), none⟩,
      ⟨some 88, .lenV (.tmp 87), none⟩,
      ⟨some 11, .mv (.tmp 88), none⟩])
    (.reg [⟨some 89, .mv (.tmp 0), none⟩,
      ⟨some 90, .fadr 5 (.tmp 4), none⟩,
      ⟨some 91, .load true 4 (.tmp 90), none⟩,
      ⟨some 92, .fadr 9 (.tmp 4), none⟩,
      ⟨some 93, .load true 4 (.tmp 92), none⟩,
      ⟨some 94, .fadr 4 (.tmp 4), none⟩,
      ⟨some 95, .load false 1 (.tmp 94), none⟩,
      ⟨some 96, .fadr 0 (.tmp 4), none⟩,
      ⟨some 97, .load false 1 (.tmp 96), none⟩,
      ⟨some 98, .fadr 3 (.tmp 4), none⟩,
      ⟨some 99, .load false 1 (.tmp 98), none⟩,
      ⟨some 100, .mv (.tmp 2), none⟩,
      ⟨some 101, .build [(.int .u8 0), (.int .u8 0), (.int .u8 0), (.int .u8 0), (.int .u8 0), (.int .u8 0), (.int .u8 0), (.int .u8 0), (.int .u8 0), (.int .u16 0), (.int .u8 0), (.int .u64 0), (.int .i64 0), .nil] [(0, 4, (.tmp 91)), (4, 4, (.tmp 93)), (8, 1, (.tmp 95)), (9, 1, (.tmp 97)), (10, 1, (.tmp 99)), (11, 1, (.tmp 100)), (12, 1, (.cst (.int .i64 (-1))))], none⟩,
      ⟨some 102, .bsl 14 [(.tmp 101)], none⟩,
      ⟨some 103, .app 14 56 (.tmp 89) (.tmp 102), none⟩,
      ⟨some 0, .mv (.tmp 103), none⟩])))
    .skip))
  (.seq (.reg [⟨some 104, .mv (.tmp 0), none⟩,
    ⟨some 105, .mv (.tmp 11), none⟩,
    ⟨some 106, .iadS 14 (.tmp 104) (.tmp 105), none⟩,
    ⟨some 12, .mv (.tmp 106), none⟩])
  (.seq (.seq (.drw [⟨some 107, .mv (.tmp 12), none⟩,
    ⟨some 108, .nchk (.tmp 107), none⟩,
    ⟨some 109, .load true 14 (.tmp 108), none⟩,
    ⟨some 110, .load true 14 (.tmp 4), none⟩,
    ⟨some 111, .mv (.tmp 10), none⟩,
    ⟨some 112, .call 20 [(.tmp 109), (.tmp 110), (.tmp 111)], none⟩,
    ⟨some 113, .not (.tmp 112), none⟩] [[], [], [], [], [], [], []])
  (.cond (.tmp 113)
    (.seq (.reg [⟨some 114, .mv (.tmp 0), none⟩,
      ⟨some 115, .mv (.tmp 11), none⟩,
      ⟨some 116, .mv (.tmp 11), none⟩,
      ⟨some 117, .bin .add (.tmp 116) (.cst (.int .i64 1)), none⟩,
      ⟨some 118, .call 21 [(.tmp 114), (.tmp 115), (.tmp 117)], none⟩,
      ⟨some 119, .build [(.int .u16 0), (.bool false), (.int .i64 0), (.int .u8 0), (.int .u8 0), (.int .u8 0), (.int .u8 0), (.int .u8 0), (.int .u8 0), (.int .u8 0), (.int .u8 0), (.int .u8 0), (.int .u8 0), .nil] [], none⟩,
      ⟨some 6, .mv (.tmp 118), none⟩,
      ⟨none, .store 14 (.tmp 7) (.tmp 119), none⟩,
      ⟨some 8, .mv (.cst (.bool false)), none⟩,
      ⟨some 9, .mv (.cst (.int .i64 7)), none⟩])
    .ret)
    .skip))
  (.seq (.seq (.reg [⟨some 120, .fadr 1 (.tmp 4), none⟩,
    ⟨some 121, .load false 1 (.tmp 120), none⟩,
    ⟨some 122, .not (.tmp 121), none⟩])
  (.cond (.tmp 122)
    (.reg [⟨some 123, .mv (.tmp 12), none⟩,
      ⟨some 124, .mv (.tmp 10), none⟩,
      ⟨some 125, .nchk (.tmp 123), none⟩,
      ⟨some 126, .fadr 12 (.tmp 125), none⟩,
      ⟨none, .store 1 (.tmp 126) (.tmp 124), none⟩])
    .skip))
  (.seq (.drw [⟨some 127, .mv (.tmp 12), none⟩,
    ⟨some 128, .mv (.tmp 12), none⟩,
    ⟨some 129, .nchk (.tmp 128), none⟩,
    ⟨some 130, .fadr 13 (.tmp 129), none⟩,
    ⟨some 131, .load false 1 (.tmp 130), none⟩,
    ⟨some 132, .fadr 2 (.tmp 4), none⟩,
    ⟨some 133, .load false 1 (.tmp 132), none⟩,
    ⟨some 134, .fadr 13 (.tmp 4), none⟩,
    ⟨some 135, .load false 1 (.tmp 134), none⟩,
    ⟨some 136, .call 15 [(.tmp 135)], none⟩,
    ⟨some 137, .build [(.int .i64 0), .nil] [(0, 1, (.tmp 133)), (1, 1, (.tmp 136))], none⟩,
    ⟨some 138, .call 22 [(.tmp 131), (.tmp 137)], none⟩,
    ⟨some 139, .nchk (.tmp 127), none⟩,
    ⟨some 140, .fadr 13 (.tmp 139), none⟩,
    ⟨none, .store 1 (.tmp 140) (.tmp 138), none⟩] [[], [], [], [], [], [], [], [], [], [], [], [], [], [], []])
  (.seq (.seq (.reg [⟨some 141, .mv (.tmp 12), none⟩,
    ⟨some 142, .nchk (.tmp 141), none⟩,
    ⟨some 143, .fadr 13 (.tmp 142), none⟩,
    ⟨some 144, .load false 1 (.tmp 143), none⟩,
    ⟨some 145, .lenV (.tmp 144), none⟩,
    ⟨some 146, .bin .neq (.tmp 145) (.cst (.int .i64 1)), none⟩,
    ⟨some 147, .mv (.tmp 146), none⟩,
    ⟨some 148, .mv (.tmp 12), some (147, false)⟩,
    ⟨some 149, .nchk (.tmp 148), some (147, false)⟩,
    ⟨some 150, .fadr 13 (.tmp 149), some (147, false)⟩,
    ⟨some 151, .load false 1 (.tmp 150), some (147, false)⟩,
    ⟨some 152, .iadS 2 (.tmp 151) (.cst (.int .i64 0)), some (147, false)⟩,
    ⟨some 153, .fadr 0 (.tmp 152), some (147, false)⟩,
    ⟨some 154, .load false 1 (.tmp 153), some (147, false)⟩,
    ⟨some 155, .bin .neq (.tmp 154) (.cst (.int .i64 0)), some (147, false)⟩,
    ⟨some 156, .pick (.tmp 147) (.cst (.bool true)) (.tmp 155), none⟩,
    ⟨some 157, .mv (.tmp 156), none⟩,
    ⟨some 158, .mv (.tmp 12), some (157, false)⟩,
    ⟨some 159, .nchk (.tmp 158), some (157, false)⟩,
    ⟨some 160, .fadr 13 (.tmp 159), some (157, false)⟩,
    ⟨some 161, .load false 1 (.tmp 160), some (157, false)⟩,
    ⟨some 162, .iadS 2 (.tmp 161) (.cst (.int .i64 0)), some (157, false)⟩,
    ⟨some 163, .fadr 1 (.tmp 162), some (157, false)⟩,
    ⟨some 164, .load false 1 (.tmp 163), some (157, false)⟩,
    ⟨some 165, .lenV (.tmp 164), some (157, false)⟩,
    ⟨some 166, .mv (.tmp 12), some (157, false)⟩,
    ⟨some 167, .nchk (.tmp 166), some (157, false)⟩,
    ⟨some 168, .fadr 12 (.tmp 167), some (157, false)⟩,
    ⟨some 169, .load false 1 (.tmp 168), some (157, false)⟩,
    ⟨some 170, .bin .neq (.tmp 165) (.tmp 169), some (157, false)⟩,
    ⟨some 171, .pick (.tmp 157) (.cst (.bool true)) (.tmp 170), none⟩])
  (.cond (.tmp 171)
    (.seq (.reg [⟨some 172, .mv (.tmp 0), none⟩,
      ⟨some 173, .build [(.int .u16 0), (.bool false), (.int .i64 0), (.int .u8 0), (.int .u8 0), (.int .u8 0), (.int .u8 0), (.int .u8 0), (.int .u8 0), (.int .u8 0), (.int .u8 0), (.int .u8 0), (.int .u8 0), .nil] [], none⟩,
      ⟨some 6, .mv (.tmp 172), none⟩,
      ⟨none, .store 14 (.tmp 7) (.tmp 173), none⟩,
      ⟨some 8, .mv (.cst (.bool false)), none⟩,
      ⟨some 9, .mv (.cst (.int .i64 0)), none⟩])
    .ret)
    .skip))
  (.seq (.reg [⟨some 174, .mv (.tmp 12), none⟩,
    ⟨some 175, .nchk (.tmp 174), none⟩,
    ⟨some 176, .fadr 9 (.tmp 175), none⟩,
    ⟨some 177, .load false 1 (.tmp 176), none⟩,
    ⟨some 178, .mv (.tmp 12), none⟩,
    ⟨some 179, .nchk (.tmp 178), none⟩,
    ⟨some 180, .fadr 10 (.tmp 179), none⟩,
    ⟨some 181, .load false 1 (.tmp 180), none⟩,
    ⟨some 182, .mv (.tmp 12), none⟩,
    ⟨some 183, .nchk (.tmp 182), none⟩,
    ⟨some 184, .fadr 8 (.tmp 183), none⟩,
    ⟨some 185, .load false 1 (.tmp 184), none⟩,
    ⟨some 186, .mv (.tmp 12), none⟩,
    ⟨some 187, .nchk (.tmp 186), none⟩,
    ⟨some 188, .fadr 0 (.tmp 187), none⟩,
    ⟨some 189, .load true 4 (.tmp 188), none⟩,
    ⟨some 190, .mv (.tmp 12), none⟩,
    ⟨some 191, .nchk (.tmp 190), none⟩,
    ⟨some 192, .fadr 4 (.tmp 191), none⟩,
    ⟨some 193, .load true 4 (.tmp 192), none⟩,
    ⟨some 194, .mv (.tmp 12), none⟩,
    ⟨some 195, .nchk (.tmp 194), none⟩,
    ⟨some 196, .fadr 13 (.tmp 195), none⟩,
    ⟨some 197, .load false 1 (.tmp 196), none⟩,
    ⟨some 198, .iadS 2 (.tmp 197) (.cst (.int .i64 0)), none⟩,
    ⟨some 199, .fadr 1 (.tmp 198), none⟩,
    ⟨some 200, .load false 1 (.tmp 199), none⟩,
    ⟨some 201, .build [(.int .u16 0), (.bool false), (.int .i64 0), (.int .u8 0), (.int .u8 0), (.int .u8 0), (.int .u8 0), (.int .u8 0), (.int .u8 0), (.int .u8 0), (.int .u8 0), (.int .u8 0), (.int .u8 0), .nil] [(0, 1, (.tmp 177)), (3, 1, (.tmp 181)), (4, 1, (.tmp 185)), (5, 4, (.tmp 189)), (9, 4, (.tmp 193)), (13, 1, (.tmp 200))], none⟩,
    ⟨some 13, .newb [(.int .u16 0), (.bool false), (.int .i64 0), (.int .u8 0), (.int .u8 0), (.int .u8 0), (.int .u8 0), (.int .u8 0), (.int .u8 0), (.int .u8 0), (.int .u8 0), (.int .u8 0), (.int .u8 0), .nil], none⟩,
    ⟨none, .store 14 (.tmp 13) (.tmp 201), none⟩])
  (.seq (.drw [⟨some 202, .mv (.tmp 0), none⟩,
    ⟨some 203, .mv (.tmp 11), none⟩,
    ⟨some 204, .mv (.tmp 11), none⟩,
    ⟨some 205, .bin .add (.tmp 204) (.cst (.int .i64 1)), none⟩,
    ⟨some 206, .call 21 [(.tmp 202), (.tmp 203), (.tmp 205)], none⟩,
    ⟨some 207, .load true 14 (.tmp 13), none⟩,
    ⟨some 6, .mv (.tmp 206), none⟩,
    ⟨none, .store 14 (.tmp 7) (.tmp 207), none⟩,
    ⟨some 8, .mv (.cst (.bool true)), none⟩,
    ⟨some 9, .mv (.cst (.int .i64 0)), none⟩] [[], [], [], [], [], [], [], [], [], []])
  .ret)))))))))))))
theorem p_frag_Add : Try.f11.body.bind (compC Try.prog 208) = some c_frag_Add := by kernel_rfl
theorem r_frag_Add : tellR Try.prog Try.f11.results.toList = some [.t 6, .c 7 true 14, .t 8, .t 9] := by kernel_rfl

/-- caravel/caravelref06.Same: 2 in. -/
def c_caravelref06_Same : ACode :=
  (.seq (.reg [⟨some 2, .box (.tmp 0), none⟩,
    ⟨some 3, .box (.tmp 1), none⟩,
    ⟨some 4, .mv (.cst (.bool false)), none⟩])
  (.seq (.reg [⟨some 5, .fadr 0 (.tmp 2), none⟩,
    ⟨some 6, .load false 1 (.tmp 5), none⟩,
    ⟨some 7, .fadr 0 (.tmp 3), none⟩,
    ⟨some 8, .load false 1 (.tmp 7), none⟩,
    ⟨some 9, .bin .eql (.tmp 6) (.tmp 8), none⟩,
    ⟨some 10, .mv (.tmp 9), none⟩,
    ⟨some 11, .fadr 1 (.tmp 2), some (10, true)⟩,
    ⟨some 12, .load false 1 (.tmp 11), some (10, true)⟩,
    ⟨some 13, .fadr 1 (.tmp 3), some (10, true)⟩,
    ⟨some 14, .load false 1 (.tmp 13), some (10, true)⟩,
    ⟨some 15, .binB false (.tmp 12) (.tmp 14), some (10, true)⟩,
    ⟨some 16, .pick (.tmp 10) (.tmp 15) (.cst (.bool false)), none⟩,
    ⟨some 17, .mv (.tmp 16), none⟩,
    ⟨some 18, .fadr 2 (.tmp 2), some (17, true)⟩,
    ⟨some 19, .load false 1 (.tmp 18), some (17, true)⟩,
    ⟨some 20, .fadr 2 (.tmp 3), some (17, true)⟩,
    ⟨some 21, .load false 1 (.tmp 20), some (17, true)⟩,
    ⟨some 22, .bin .eql (.tmp 19) (.tmp 21), some (17, true)⟩,
    ⟨some 23, .pick (.tmp 17) (.tmp 22) (.cst (.bool false)), none⟩,
    ⟨some 24, .mv (.tmp 23), none⟩,
    ⟨some 25, .fadr 3 (.tmp 2), some (24, true)⟩,
    ⟨some 26, .load false 1 (.tmp 25), some (24, true)⟩,
    ⟨some 27, .fadr 3 (.tmp 3), some (24, true)⟩,
    ⟨some 28, .load false 1 (.tmp 27), some (24, true)⟩,
    ⟨some 29, .bin .eql (.tmp 26) (.tmp 28), some (24, true)⟩,
    ⟨some 30, .pick (.tmp 24) (.tmp 29) (.cst (.bool false)), none⟩,
    ⟨some 31, .mv (.tmp 30), none⟩,
    ⟨some 32, .fadr 4 (.tmp 2), some (31, true)⟩,
    ⟨some 33, .load false 1 (.tmp 32), some (31, true)⟩,
    ⟨some 34, .fadr 4 (.tmp 3), some (31, true)⟩,
    ⟨some 35, .load false 1 (.tmp 34), some (31, true)⟩,
    ⟨some 36, .bin .eql (.tmp 33) (.tmp 35), some (31, true)⟩,
    ⟨some 37, .pick (.tmp 31) (.tmp 36) (.cst (.bool false)), none⟩,
    ⟨some 38, .mv (.tmp 37), none⟩,
    ⟨some 39, .fadr 5 (.tmp 2), some (38, true)⟩,
    ⟨some 40, .load true 4 (.tmp 39), some (38, true)⟩,
    ⟨some 41, .fadr 5 (.tmp 3), some (38, true)⟩,
    ⟨some 42, .load true 4 (.tmp 41), some (38, true)⟩,
    ⟨some 43, .eqA false [0, 0, 0, 0] (.tmp 40) (.tmp 42), some (38, true)⟩,
    ⟨some 44, .pick (.tmp 38) (.tmp 43) (.cst (.bool false)), none⟩,
    ⟨some 45, .mv (.tmp 44), none⟩,
    ⟨some 46, .fadr 9 (.tmp 2), some (45, true)⟩,
    ⟨some 47, .load true 4 (.tmp 46), some (45, true)⟩,
    ⟨some 48, .fadr 9 (.tmp 3), some (45, true)⟩,
    ⟨some 49, .load true 4 (.tmp 48), some (45, true)⟩,
    ⟨some 50, .eqA false [0, 0, 0, 0] (.tmp 47) (.tmp 49), some (45, true)⟩,
    ⟨some 51, .pick (.tmp 45) (.tmp 50) (.cst (.bool false)), none⟩,
    ⟨some 52, .mv (.tmp 51), none⟩,
    ⟨some 53, .fadr 13 (.tmp 2), some (52, true)⟩,
    ⟨some 54, .load false 1 (.tmp 53), some (52, true)⟩,
    ⟨some 55, .b2s (.tmp 54), some (52, true)⟩,
    ⟨some 56, .fadr 13 (.tmp 3), some (52, true)⟩,
    ⟨some 57, .load false 1 (.tmp 56), some (52, true)⟩,
    ⟨some 58, .b2s (.tmp 57), some (52, true)⟩,
    ⟨some 59, .binT .eql (.tmp 55) (.tmp 58), some (52, true)⟩,
    ⟨some 60, .pick (.tmp 52) (.tmp 59) (.cst (.bool false)), none⟩,
    ⟨some 4, .mv (.tmp 60), none⟩])
  .ret))
theorem p_caravelref06_Same : Try.f12.body.bind (compC Try.prog 61) = some c_caravelref06_Same := by kernel_rfl
theorem r_caravelref06_Same : tellR Try.prog Try.f12.results.toList = some [.t 4] := by kernel_rfl

/-- caravel/caravellaw07.FragHolds$1: 3 in. -/
def c_caravellaw07_FragHolds_1 : ACode :=
  (.seq (.reg [⟨some 5, .newb [(.int .u16 0), (.bool false), (.int .i64 0), (.int .u8 0), (.int .u8 0), (.int .u8 0), (.int .u8 0), (.int .u8 0), (.int .u8 0), (.int .u8 0), (.int .u8 0), (.int .u8 0), (.int .u8 0), .nil], none⟩])
  (.seq (.reg [⟨some 7, .mv (.tmp 0), none⟩,
    ⟨some 8, .conv .u16 (.tmp 7), none⟩,
    ⟨some 9, .mks 1 1 (.int .u8 0) (.cst (.int .i64 176)) (.cst (.int .i64 176)), none⟩,
    ⟨some 10, .build [(.int .u16 0), (.bool false), (.int .i64 0), (.int .u8 0), (.int .u8 0), (.int .u8 0), (.int .u8 0), (.int .u8 0), (.int .u8 0), (.int .u8 0), (.int .u8 0), (.int .u8 0), (.int .u8 0), .nil] [(0, 1, (.tmp 8)), (13, 1, (.tmp 9)), (1, 1, (.cst (.bool true)))], none⟩,
    ⟨some 6, .newb [(.int .u16 0), (.bool false), (.int .i64 0), (.int .u8 0), (.int .u8 0), (.int .u8 0), (.int .u8 0), (.int .u8 0), (.int .u8 0), (.int .u8 0), (.int .u8 0), (.int .u8 0), (.int .u8 0), .nil], none⟩,
    ⟨none, .store 14 (.tmp 6) (.tmp 10), none⟩])
  (.seq (.seq (.reg [⟨some 11, .mv (.tmp 1), none⟩])
  (.cond (.tmp 11)
    (.reg [⟨some 12, .bsl 1 [(.cst (.int .u8 1))], none⟩,
      ⟨some 13, .load false 1 (.tmp 2), none⟩,
      ⟨some 14, .app 1 1 (.tmp 12) (.tmp 13), none⟩,
      ⟨some 15, .fadr 2 (.tmp 6), none⟩,
      ⟨none, .store 1 (.tmp 15) (.cst (.int .i64 176)), none⟩,
      ⟨some 16, .fadr 1 (.tmp 6), none⟩,
      ⟨none, .store 1 (.tmp 16) (.cst (.bool false)), none⟩,
      ⟨some 17, .fadr 13 (.tmp 6), none⟩,
      ⟨none, .store 1 (.tmp 17) (.tmp 14), none⟩])
    .skip))
  (.seq (.reg [⟨some 18, .load true 14 (.tmp 6), none⟩,
    ⟨none, .store 14 (.tmp 5) (.tmp 18), none⟩])
  .ret))))
theorem p_caravellaw07_FragHolds_1 : Try.f13.body.bind (compC Try.prog 19) = some c_caravellaw07_FragHolds_1 := by kernel_rfl
theorem r_caravellaw07_FragHolds_1 : tellR Try.prog Try.f13.results.toList = some [.c 5 true 14] := by kernel_rfl

/-- slices.Clone[[]byte,byte]: 1 in. -/
def c_slices_Clone__byte_byte : ACode :=
  (.seq (.reg [⟨some 2, .mv (.cst .nil), none⟩])
  (.seq (.seq (.reg [⟨some 3, .mv (.tmp 0), none⟩,
    ⟨some 4, .isN false (.tmp 3), none⟩])
  (.cond (.tmp 4)
    (.seq (.reg [⟨some 2, .mv (.cst .nil), none⟩])
    .ret)
    .skip))
  (.seq (.reg [⟨some 5, .bsl 1 [], none⟩,
    ⟨some 6, .mv (.tmp 0), none⟩,
    ⟨some 7, .app 1 1 (.tmp 5) (.tmp 6), none⟩,
    ⟨some 2, .mv (.tmp 7), none⟩])
  .ret)))
theorem p_slices_Clone__byte_byte : Try.f15.body.bind (compC Try.prog 8) = some c_slices_Clone__byte_byte := by kernel_rfl
theorem r_slices_Clone__byte_byte : tellR Try.prog Try.f15.results.toList = some [.t 2] := by kernel_rfl

/-- caravel/frag.Age: 2 in. -/
def c_frag_Age : ACode :=
  (.seq (.reg [⟨some 3, .box (.tmp 1), none⟩,
    ⟨some 4, .mv (.cst .nil), none⟩])
  (.seq (.reg [⟨some 5, .mv (.tmp 0), none⟩,
    ⟨some 6, .call 25 [(.tmp 5)], none⟩,
    ⟨some 7, .mkf 26 [(.tmp 3)], none⟩,
    ⟨some 8, .call 24 [(.tmp 6), (.tmp 7)], none⟩,
    ⟨some 4, .mv (.tmp 8), none⟩])
  .ret))
theorem p_frag_Age : Try.f16.body.bind (compC Try.prog 9) = some c_frag_Age := by kernel_rfl
theorem r_frag_Age : tellR Try.prog Try.f16.results.toList = some [.t 4] := by kernel_rfl

/-- slices.IndexFunc[[]caravel/api.Hole,caravel/api.Hole]: 2 in. -/
def c_slices_IndexFunc__caravel_api_Hole_caravel_api_Hole : ACode :=
  (.seq (.reg [⟨some 4, .mv (.cst (.int .i64 0)), none⟩])
  (.seq (.seq (.reg [⟨some 6, .mv (.tmp 0), none⟩,
    ⟨some 7, .lenV (.tmp 6), none⟩,
    ⟨some 8, .mv (.cst (.int .i64 0)), none⟩])
  (.block 0 (.loop
    (.seq (.reg [⟨some 9, .bin .lss (.tmp 8) (.tmp 7), none⟩])
    (.seq (.cond (.tmp 9)
      .skip
      (.exit 0))
    (.seq (.block 1 (.seq (.reg [⟨some 10, .mv (.tmp 8), none⟩,
      ⟨some 5, .mv (.tmp 10), none⟩])
    (.seq (.reg [⟨some 11, .mv (.tmp 1), none⟩,
      ⟨some 12, .mv (.tmp 0), none⟩,
      ⟨some 13, .mv (.tmp 5), none⟩,
      ⟨some 14, .iadS 14 (.tmp 12) (.tmp 13), none⟩,
      ⟨some 15, .load true 14 (.tmp 14), none⟩,
      ⟨some 16, .callv (.tmp 11) [(.tmp 15)], none⟩])
    (.cond (.tmp 16)
      (.seq (.reg [⟨some 17, .mv (.tmp 5), none⟩,
        ⟨some 4, .mv (.tmp 17), none⟩])
      .ret)
      .skip))))
    (.reg [⟨some 18, .bin .add (.tmp 8) (.cst (.int .i64 1)), none⟩,
      ⟨some 8, .mv (.tmp 18), none⟩])))))))
  (.seq (.reg [⟨some 4, .mv (.cst (.int .i64 (-1))), none⟩])
  .ret)))
theorem p_slices_IndexFunc__caravel_api_Hole_caravel_api_Hole : Try.f17.body.bind (compC Try.prog 19) = some c_slices_IndexFunc__caravel_api_Hole_caravel_api_Hole := by kernel_rfl
theorem r_slices_IndexFunc__caravel_api_Hole_caravel_api_Hole : tellR Try.prog Try.f17.results.toList = some [.t 4] := by kernel_rfl

/-- caravel/frag.Add$1: 2 in. -/
def c_frag_Add_1 : ACode :=
  (.seq (.reg [⟨some 2, .box (.tmp 0), none⟩,
    ⟨some 3, .mv (.cst (.bool false)), none⟩])
  (.seq (.reg [⟨some 4, .load true 14 (.tmp 2), none⟩,
    ⟨some 5, .load true 14 (.tmp 1), none⟩,
    ⟨some 6, .call 19 [(.tmp 4), (.tmp 5)], none⟩,
    ⟨some 3, .mv (.tmp 6), none⟩])
  .ret))
theorem p_frag_Add_1 : Try.f18.body.bind (compC Try.prog 7) = some c_frag_Add_1 := by kernel_rfl
theorem r_frag_Add_1 : tellR Try.prog Try.f18.results.toList = some [.t 3] := by kernel_rfl

/-- caravel/frag.of: 2 in. -/
def c_frag_of : ACode :=
  (.seq (.reg [⟨some 2, .box (.tmp 0), none⟩,
    ⟨some 3, .box (.tmp 1), none⟩,
    ⟨some 4, .mv (.cst (.bool false)), none⟩])
  (.seq (.reg [⟨some 5, .fadr 0 (.tmp 2), none⟩,
    ⟨some 6, .load true 4 (.tmp 5), none⟩,
    ⟨some 7, .fadr 5 (.tmp 3), none⟩,
    ⟨some 8, .load true 4 (.tmp 7), none⟩,
    ⟨some 9, .eqA false [0, 0, 0, 0] (.tmp 6) (.tmp 8), none⟩,
    ⟨some 10, .mv (.tmp 9), none⟩,
    ⟨some 11, .fadr 4 (.tmp 2), some (10, true)⟩,
    ⟨some 12, .load true 4 (.tmp 11), some (10, true)⟩,
    ⟨some 13, .fadr 9 (.tmp 3), some (10, true)⟩,
    ⟨some 14, .load true 4 (.tmp 13), some (10, true)⟩,
    ⟨some 15, .eqA false [0, 0, 0, 0] (.tmp 12) (.tmp 14), some (10, true)⟩,
    ⟨some 16, .pick (.tmp 10) (.tmp 15) (.cst (.bool false)), none⟩,
    ⟨some 17, .mv (.tmp 16), none⟩,
    ⟨some 18, .fadr 8 (.tmp 2), some (17, true)⟩,
    ⟨some 19, .load false 1 (.tmp 18), some (17, true)⟩,
    ⟨some 20, .fadr 4 (.tmp 3), some (17, true)⟩,
    ⟨some 21, .load false 1 (.tmp 20), some (17, true)⟩,
    ⟨some 22, .bin .eql (.tmp 19) (.tmp 21), some (17, true)⟩,
    ⟨some 23, .pick (.tmp 17) (.tmp 22) (.cst (.bool false)), none⟩,
    ⟨some 24, .mv (.tmp 23), none⟩,
    ⟨some 25, .fadr 9 (.tmp 2), some (24, true)⟩,
    ⟨some 26, .load false 1 (.tmp 25), some (24, true)⟩,
    ⟨some 27, .fadr 0 (.tmp 3), some (24, true)⟩,
    ⟨some 28, .load false 1 (.tmp 27), some (24, true)⟩,
    ⟨some 29, .bin .eql (.tmp 26) (.tmp 28), some (24, true)⟩,
    ⟨some 30, .pick (.tmp 24) (.tmp 29) (.cst (.bool false)), none⟩,
    ⟨some 4, .mv (.tmp 30), none⟩])
  .ret))
theorem p_frag_of : Try.f19.body.bind (compC Try.prog 31) = some c_frag_of := by kernel_rfl
theorem r_frag_of : tellR Try.prog Try.f19.results.toList = some [.t 4] := by kernel_rfl

/-- caravel/frag.fits: 3 in. -/
def c_frag_fits : ACode :=
  (.seq (.reg [⟨some 3, .box (.tmp 0), none⟩,
    ⟨some 4, .box (.tmp 1), none⟩,
    ⟨some 5, .box (.tmp 2), none⟩,
    ⟨some 6, .mv (.cst (.bool false)), none⟩])
  (.seq (.seq (.reg [⟨some 7, .fadr 12 (.tmp 3), none⟩,
    ⟨some 8, .load false 1 (.tmp 7), none⟩,
    ⟨some 9, .bin .geq (.tmp 8) (.cst (.int .i64 0)), none⟩])
  (.cond (.tmp 9)
    (.seq (.reg [⟨some 10, .load false 1 (.tmp 5), none⟩,
      ⟨some 11, .fadr 12 (.tmp 3), none⟩,
      ⟨some 12, .load false 1 (.tmp 11), none⟩,
      ⟨some 13, .bin .leq (.tmp 10) (.tmp 12), none⟩,
      ⟨some 14, .mv (.tmp 13), none⟩,
      ⟨some 15, .fadr 1 (.tmp 4), some (14, true)⟩,
      ⟨some 16, .load false 1 (.tmp 15), some (14, true)⟩,
      ⟨some 17, .mv (.tmp 16), some (14, true)⟩,
      ⟨some 18, .load false 1 (.tmp 5), some (17, false)⟩,
      ⟨some 19, .fadr 12 (.tmp 3), some (17, false)⟩,
      ⟨some 20, .load false 1 (.tmp 19), some (17, false)⟩,
      ⟨some 21, .bin .eql (.tmp 18) (.tmp 20), some (17, false)⟩,
      ⟨some 22, .pick (.tmp 17) (.cst (.bool true)) (.tmp 21), some (14, true)⟩,
      ⟨some 23, .pick (.tmp 14) (.tmp 22) (.cst (.bool false)), none⟩,
      ⟨some 6, .mv (.tmp 23), none⟩])
    .ret)
    .skip))
  (.seq (.reg [⟨some 24, .fadr 1 (.tmp 4), none⟩,
    ⟨some 25, .load false 1 (.tmp 24), none⟩,
    ⟨some 26, .mv (.tmp 25), none⟩,
    ⟨some 27, .fadr 13 (.tmp 3), some (26, false)⟩,
    ⟨some 28, .load false 1 (.tmp 27), some (26, false)⟩,
    ⟨some 29, .mkf 28 [(.tmp 5)], some (26, false)⟩,
    ⟨some 30, .call 27 [(.tmp 28), (.tmp 29)], some (26, false)⟩,
    ⟨some 31, .not (.tmp 30), some (26, false)⟩,
    ⟨some 32, .pick (.tmp 26) (.cst (.bool true)) (.tmp 31), none⟩,
    ⟨some 6, .mv (.tmp 32), none⟩])
  .ret)))
theorem p_frag_fits : Try.f20.body.bind (compC Try.prog 33) = some c_frag_fits := by kernel_rfl
theorem r_frag_fits : tellR Try.prog Try.f20.results.toList = some [.t 6] := by kernel_rfl

/-- slices.Delete[[]caravel/api.Hole,caravel/api.Hole]: 3 in. -/
def c_slices_Delete__caravel_api_Hole_caravel_api_Hole : ACode :=
  (.seq (.reg [⟨some 6, .mv (.cst .nil), none⟩])
  (.seq (.reg [⟨some 8, .mv (.tmp 0), none⟩,
    ⟨some 9, .mv (.tmp 1), none⟩,
    ⟨some 10, .mv (.tmp 2), none⟩,
    ⟨some 11, .mv (.tmp 0), none⟩,
    ⟨some 12, .lenV (.tmp 11), none⟩,
    ⟨some 13, .slS 14 (.tmp 8) (some (.tmp 9)) (some (.tmp 10)) (some (.tmp 12)), none⟩])
  (.seq (.seq (.reg [⟨some 14, .mv (.tmp 1), none⟩,
    ⟨some 15, .mv (.tmp 2), none⟩,
    ⟨some 16, .bin .eql (.tmp 14) (.tmp 15), none⟩])
  (.cond (.tmp 16)
    (.seq (.reg [⟨some 17, .mv (.tmp 0), none⟩,
      ⟨some 6, .mv (.tmp 17), none⟩])
    .ret)
    .skip))
  (.seq (.reg [⟨some 18, .mv (.tmp 0), none⟩,
    ⟨some 19, .lenV (.tmp 18), none⟩,
    ⟨some 7, .mv (.tmp 19), none⟩])
  (.seq (.reg [⟨some 20, .mv (.tmp 0), none⟩,
    ⟨some 21, .mv (.tmp 1), none⟩,
    ⟨some 22, .slS 14 (.tmp 20) none (some (.tmp 21)) none, none⟩,
    ⟨some 23, .mv (.tmp 0), none⟩,
    ⟨some 24, .mv (.tmp 2), none⟩,
    ⟨some 25, .slS 14 (.tmp 23) (some (.tmp 24)) none none, none⟩,
    ⟨some 26, .app 14 56 (.tmp 22) (.tmp 25), none⟩,
    ⟨some 0, .mv (.tmp 26), none⟩])
  (.seq (.reg [⟨some 27, .mv (.tmp 0), none⟩,
    ⟨some 28, .mv (.tmp 0), none⟩,
    ⟨some 29, .lenV (.tmp 28), none⟩,
    ⟨some 30, .mv (.tmp 7), none⟩,
    ⟨some 31, .slS 14 (.tmp 27) (some (.tmp 29)) (some (.tmp 30)) none, none⟩,
    ⟨none, .clr 14 (.agg [(.int .u8 0), (.int .u8 0), (.int .u8 0), (.int .u8 0), (.int .u8 0), (.int .u8 0), (.int .u8 0), (.int .u8 0), (.int .u8 0), (.int .u16 0), (.int .u8 0), (.int .u64 0), (.int .i64 0), .nil]) (.tmp 31), none⟩])
  (.seq (.reg [⟨some 32, .mv (.tmp 0), none⟩,
    ⟨some 6, .mv (.tmp 32), none⟩])
  .ret)))))))
theorem p_slices_Delete__caravel_api_Hole_caravel_api_Hole : Try.f21.body.bind (compC Try.prog 33) = some c_slices_Delete__caravel_api_Hole_caravel_api_Hole := by kernel_rfl
theorem r_slices_Delete__caravel_api_Hole_caravel_api_Hole : tellR Try.prog Try.f21.results.toList = some [.t 6] := by kernel_rfl

/-- caravel/frag.lay: 2 in. -/
def c_frag_lay : ACode :=
  (.seq (.reg [⟨some 3, .box (.tmp 1), none⟩,
    ⟨some 4, .mv (.cst .nil), none⟩])
  (.seq (.reg [⟨some 5, .mv (.cst .nil), none⟩])
  (.seq (.seq (.reg [⟨some 8, .mv (.tmp 0), none⟩,
    ⟨some 9, .lenV (.tmp 8), none⟩,
    ⟨some 10, .mv (.cst (.int .i64 0)), none⟩])
  (.block 0 (.loop
    (.seq (.reg [⟨some 11, .bin .lss (.tmp 10) (.tmp 9), none⟩])
    (.seq (.cond (.tmp 11)
      .skip
      (.exit 0))
    (.seq (.block 1 (.seq (.reg [⟨some 12, .iadS 2 (.tmp 8) (.tmp 10), none⟩,
      ⟨some 13, .load true 2 (.tmp 12), none⟩,
      ⟨some 7, .newb [(.int .i64 0), .nil], none⟩,
      ⟨none, .store 2 (.tmp 7) (.tmp 13), none⟩])
    (.block 2 (.seq (.reg [⟨some 18, .fadr 0 (.tmp 7), none⟩,
      ⟨some 19, .load false 1 (.tmp 18), none⟩,
      ⟨some 20, .fadr 1 (.tmp 7), none⟩,
      ⟨some 21, .load false 1 (.tmp 20), none⟩,
      ⟨some 22, .lenV (.tmp 21), none⟩,
      ⟨some 23, .bin .add (.tmp 19) (.tmp 22), none⟩,
      ⟨some 24, .fadr 0 (.tmp 3), none⟩,
      ⟨some 25, .load false 1 (.tmp 24), none⟩,
      ⟨some 26, .bin .lss (.tmp 23) (.tmp 25), none⟩,
      ⟨some 17, .mv (.tmp 26), none⟩])
    (.cond (.tmp 17)
      (.reg [⟨some 27, .mv (.tmp 5), none⟩,
        ⟨some 28, .load true 2 (.tmp 7), none⟩,
        ⟨some 29, .bsl 2 [(.tmp 28)], none⟩,
        ⟨some 30, .app 2 32 (.tmp 27) (.tmp 29), none⟩,
        ⟨some 5, .mv (.tmp 30), none⟩])
      (.seq (.reg [⟨some 32, .fadr 0 (.tmp 3), none⟩,
        ⟨some 33, .load false 1 (.tmp 32), none⟩,
        ⟨some 34, .fadr 1 (.tmp 3), none⟩,
        ⟨some 35, .load false 1 (.tmp 34), none⟩,
        ⟨some 36, .lenV (.tmp 35), none⟩,
        ⟨some 37, .bin .add (.tmp 33) (.tmp 36), none⟩,
        ⟨some 38, .fadr 0 (.tmp 7), none⟩,
        ⟨some 39, .load false 1 (.tmp 38), none⟩,
        ⟨some 40, .bin .lss (.tmp 37) (.tmp 39), none⟩,
        ⟨some 31, .mv (.tmp 40), none⟩])
      (.cond (.tmp 31)
        (.seq (.reg [⟨some 41, .mv (.tmp 5), none⟩,
          ⟨some 42, .load true 2 (.tmp 3), none⟩,
          ⟨some 43, .bsl 2 [(.tmp 42)], none⟩,
          ⟨some 44, .app 2 32 (.tmp 41) (.tmp 43), none⟩,
          ⟨some 5, .mv (.tmp 44), none⟩])
        (.reg [⟨some 45, .load true 2 (.tmp 7), none⟩,
          ⟨none, .store 2 (.tmp 3) (.tmp 45), none⟩]))
        (.reg [⟨some 14, .load true 2 (.tmp 7), none⟩,
          ⟨some 15, .load true 2 (.tmp 3), none⟩,
          ⟨some 16, .call 29 [(.tmp 14), (.tmp 15)], none⟩,
          ⟨none, .store 2 (.tmp 3) (.tmp 16), none⟩]))))))))
    (.reg [⟨some 46, .bin .add (.tmp 10) (.cst (.int .i64 1)), none⟩,
      ⟨some 10, .mv (.tmp 46), none⟩])))))))
  (.seq (.reg [⟨some 47, .mv (.tmp 5), none⟩,
    ⟨some 48, .load true 2 (.tmp 3), none⟩,
    ⟨some 49, .bsl 2 [(.tmp 48)], none⟩,
    ⟨some 50, .app 2 32 (.tmp 47) (.tmp 49), none⟩,
    ⟨some 4, .mv (.tmp 50), none⟩])
  .ret))))
theorem p_frag_lay : Try.f22.body.bind (compC Try.prog 51) = some c_frag_lay := by kernel_rfl
theorem r_frag_lay : tellR Try.prog Try.f22.results.toList = some [.t 4] := by kernel_rfl

/-- slices.DeleteFunc[[]caravel/api.Hole,caravel/api.Hole]: 2 in. -/
def c_slices_DeleteFunc__caravel_api_Hole_caravel_api_Hole : ACode :=
  (.seq (.reg [⟨some 4, .mv (.cst .nil), none⟩])
  (.seq (.reg [⟨some 8, .mv (.tmp 0), none⟩,
    ⟨some 9, .mv (.tmp 1), none⟩,
    ⟨some 10, .call 17 [(.tmp 8), (.tmp 9)], none⟩,
    ⟨some 5, .mv (.tmp 10), none⟩])
  (.seq (.seq (.reg [⟨some 11, .mv (.tmp 5), none⟩,
    ⟨some 12, .bin .eql (.tmp 11) (.cst (.int .i64 (-1))), none⟩])
  (.cond (.tmp 12)
    (.seq (.reg [⟨some 13, .mv (.tmp 0), none⟩,
      ⟨some 4, .mv (.tmp 13), none⟩])
    .ret)
    .skip))
  (.seq (.seq (.reg [⟨some 14, .mv (.tmp 5), none⟩,
    ⟨some 15, .bin .add (.tmp 14) (.cst (.int .i64 1)), none⟩,
    ⟨some 6, .mv (.tmp 15), none⟩])
  (.block 0 (.loop
    (.seq (.seq (.reg [⟨some 16, .mv (.tmp 6), none⟩,
      ⟨some 17, .mv (.tmp 0), none⟩,
      ⟨some 18, .lenV (.tmp 17), none⟩,
      ⟨some 19, .bin .lss (.tmp 16) (.tmp 18), none⟩])
    (.cond (.tmp 19)
      .skip
      (.exit 0)))
    (.seq (.block 1 (.seq (.reg [⟨some 22, .mv (.tmp 0), none⟩,
      ⟨some 23, .mv (.tmp 6), none⟩,
      ⟨some 24, .iadS 14 (.tmp 22) (.tmp 23), none⟩,
      ⟨some 25, .load true 14 (.tmp 24), none⟩,
      ⟨some 7, .newb [(.int .u8 0), (.int .u8 0), (.int .u8 0), (.int .u8 0), (.int .u8 0), (.int .u8 0), (.int .u8 0), (.int .u8 0), (.int .u8 0), (.int .u16 0), (.int .u8 0), (.int .u64 0), (.int .i64 0), .nil], none⟩,
      ⟨none, .store 14 (.tmp 7) (.tmp 25), none⟩])
    (.seq (.reg [⟨some 26, .mv (.tmp 1), none⟩,
      ⟨some 27, .load true 14 (.tmp 7), none⟩,
      ⟨some 28, .callv (.tmp 26) [(.tmp 27)], none⟩,
      ⟨some 29, .not (.tmp 28), none⟩])
    (.cond (.tmp 29)
      (.seq (.reg [⟨some 30, .mv (.tmp 0), none⟩,
        ⟨some 31, .mv (.tmp 5), none⟩,
        ⟨some 32, .load true 14 (.tmp 7), none⟩,
        ⟨some 33, .iadS 14 (.tmp 30) (.tmp 31), none⟩,
        ⟨none, .store 14 (.tmp 33) (.tmp 32), none⟩])
      (.reg [⟨some 34, .mv (.tmp 5), none⟩,
        ⟨some 35, .bin .add (.tmp 34) (.cst (.int .i64 1)), none⟩,
        ⟨some 5, .mv (.tmp 35), none⟩]))
      .skip))))
    (.reg [⟨some 20, .mv (.tmp 6), none⟩,
      ⟨some 21, .bin .add (.tmp 20) (.cst (.int .i64 1)), none⟩,
      ⟨some 6, .mv (.tmp 21), none⟩]))))))
  (.seq (.reg [⟨some 36, .mv (.tmp 0), none⟩,
    ⟨some 37, .mv (.tmp 5), none⟩,
    ⟨some 38, .slS 14 (.tmp 36) (some (.tmp 37)) none none, none⟩,
    ⟨none, .clr 14 (.agg [(.int .u8 0), (.int .u8 0), (.int .u8 0), (.int .u8 0), (.int .u8 0), (.int .u8 0), (.int .u8 0), (.int .u8 0), (.int .u8 0), (.int .u16 0), (.int .u8 0), (.int .u64 0), (.int .i64 0), .nil]) (.tmp 38), none⟩])
  (.seq (.reg [⟨some 39, .mv (.tmp 0), none⟩,
    ⟨some 40, .mv (.tmp 5), none⟩,
    ⟨some 41, .slS 14 (.tmp 39) none (some (.tmp 40)) none, none⟩,
    ⟨some 4, .mv (.tmp 41), none⟩])
  .ret))))))
theorem p_slices_DeleteFunc__caravel_api_Hole_caravel_api_Hole : Try.f24.body.bind (compC Try.prog 42) = some c_slices_DeleteFunc__caravel_api_Hole_caravel_api_Hole := by kernel_rfl
theorem r_slices_DeleteFunc__caravel_api_Hole_caravel_api_Hole : tellR Try.prog Try.f24.results.toList = some [.t 4] := by kernel_rfl

/-- caravel/frag.clone: 1 in. -/
def c_frag_clone : ACode :=
  (.seq (.reg [⟨some 2, .mv (.cst .nil), none⟩])
  (.seq (.reg [⟨some 3, .mv (.cst .nil), none⟩])
  (.seq (.seq (.reg [⟨some 9, .mv (.tmp 0), none⟩,
    ⟨some 10, .lenV (.tmp 9), none⟩,
    ⟨some 11, .mv (.cst (.int .i64 0)), none⟩])
  (.block 0 (.loop
    (.seq (.reg [⟨some 12, .bin .lss (.tmp 11) (.tmp 10), none⟩])
    (.seq (.cond (.tmp 12)
      .skip
      (.exit 0))
    (.seq (.block 1 (.seq (.reg [⟨some 13, .iadS 14 (.tmp 9) (.tmp 11), none⟩,
      ⟨some 14, .load true 14 (.tmp 13), none⟩,
      ⟨some 5, .newb [(.int .u8 0), (.int .u8 0), (.int .u8 0), (.int .u8 0), (.int .u8 0), (.int .u8 0), (.int .u8 0), (.int .u8 0), (.int .u8 0), (.int .u16 0), (.int .u8 0), (.int .u64 0), (.int .i64 0), .nil], none⟩,
      ⟨none, .store 14 (.tmp 5) (.tmp 14), none⟩])
    (.seq (.reg [⟨some 6, .mv (.cst .nil), none⟩])
    (.seq (.seq (.reg [⟨some 15, .fadr 13 (.tmp 5), none⟩,
      ⟨some 16, .load false 1 (.tmp 15), none⟩,
      ⟨some 17, .lenV (.tmp 16), none⟩,
      ⟨some 18, .mv (.cst (.int .i64 0)), none⟩])
    (.block 2 (.loop
      (.seq (.reg [⟨some 19, .bin .lss (.tmp 18) (.tmp 17), none⟩])
      (.seq (.cond (.tmp 19)
        .skip
        (.exit 2))
      (.seq (.block 3 (.seq (.reg [⟨some 20, .iadS 2 (.tmp 16) (.tmp 18), none⟩,
        ⟨some 21, .load true 2 (.tmp 20), none⟩,
        ⟨some 8, .newb [(.int .i64 0), .nil], none⟩,
        ⟨none, .store 2 (.tmp 8) (.tmp 21), none⟩])
      (.drw [⟨some 22, .mv (.tmp 6), none⟩,
        ⟨some 23, .fadr 0 (.tmp 8), none⟩,
        ⟨some 24, .load false 1 (.tmp 23), none⟩,
        ⟨some 25, .fadr 1 (.tmp 8), none⟩,
        ⟨some 26, .load false 1 (.tmp 25), none⟩,
        ⟨some 27, .call 15 [(.tmp 26)], none⟩,
        ⟨some 28, .build [(.int .i64 0), .nil] [(0, 1, (.tmp 24)), (1, 1, (.tmp 27))], none⟩,
        ⟨some 29, .bsl 2 [(.tmp 28)], none⟩,
        ⟨some 30, .app 2 32 (.tmp 22) (.tmp 29), none⟩,
        ⟨some 6, .mv (.tmp 30), none⟩] [[], [], [], [], [], [], [], [], [], []])))
      (.reg [⟨some 31, .bin .add (.tmp 18) (.cst (.int .i64 1)), none⟩,
        ⟨some 18, .mv (.tmp 31), none⟩])))))))
    (.seq (.reg [⟨some 32, .mv (.tmp 6), none⟩,
      ⟨some 33, .fadr 13 (.tmp 5), none⟩,
      ⟨none, .store 1 (.tmp 33) (.tmp 32), none⟩])
    (.reg [⟨some 34, .mv (.tmp 3), none⟩,
      ⟨some 35, .load true 14 (.tmp 5), none⟩,
      ⟨some 36, .bsl 14 [(.tmp 35)], none⟩,
      ⟨some 37, .app 14 56 (.tmp 34) (.tmp 36), none⟩,
      ⟨some 3, .mv (.tmp 37), none⟩]))))))
    (.reg [⟨some 38, .bin .add (.tmp 11) (.cst (.int .i64 1)), none⟩,
      ⟨some 11, .mv (.tmp 38), none⟩])))))))
  (.seq (.reg [⟨some 39, .mv (.tmp 3), none⟩,
    ⟨some 2, .mv (.tmp 39), none⟩])
  .ret))))
theorem p_frag_clone : Try.f25.body.bind (compC Try.prog 40) = some c_frag_clone := by kernel_rfl
theorem r_frag_clone : tellR Try.prog Try.f25.results.toList = some [.t 2] := by kernel_rfl

/-- caravel/frag.Age$1: 2 in. -/
def c_frag_Age_1 : ACode :=
  (.seq (.reg [⟨some 2, .box (.tmp 0), none⟩,
    ⟨some 3, .mv (.cst (.bool false)), none⟩])
  (.seq (.reg [⟨some 4, .load false 1 (.tmp 1), none⟩,
    ⟨some 5, .fadr 11 (.tmp 2), none⟩,
    ⟨some 6, .load false 1 (.tmp 5), none⟩,
    ⟨some 7, .bin .geq (.tmp 4) (.tmp 6), none⟩,
    ⟨some 8, .mv (.tmp 7), none⟩,
    ⟨some 9, .load false 1 (.tmp 1), some (8, true)⟩,
    ⟨some 10, .fadr 11 (.tmp 2), some (8, true)⟩,
    ⟨some 11, .load false 1 (.tmp 10), some (8, true)⟩,
    ⟨some 12, .bin .sub (.tmp 9) (.tmp 11), some (8, true)⟩,
    ⟨some 13, .bin .geq (.tmp 12) (.cst (.int .u64 30)), some (8, true)⟩,
    ⟨some 14, .pick (.tmp 8) (.tmp 13) (.cst (.bool false)), none⟩,
    ⟨some 3, .mv (.tmp 14), none⟩])
  .ret))
theorem p_frag_Age_1 : Try.f26.body.bind (compC Try.prog 15) = some c_frag_Age_1 := by kernel_rfl
theorem r_frag_Age_1 : tellR Try.prog Try.f26.results.toList = some [.t 3] := by kernel_rfl

/-- slices.ContainsFunc[[]caravel/api.Part,caravel/api.Part]: 2 in. -/
def c_slices_ContainsFunc__caravel_api_Part_caravel_api_Part : ACode :=
  (.seq (.reg [⟨some 4, .mv (.cst (.bool false)), none⟩])
  (.seq (.reg [⟨some 5, .mv (.tmp 0), none⟩,
    ⟨some 6, .mv (.tmp 1), none⟩,
    ⟨some 7, .call 30 [(.tmp 5), (.tmp 6)], none⟩,
    ⟨some 8, .bin .geq (.tmp 7) (.cst (.int .i64 0)), none⟩,
    ⟨some 4, .mv (.tmp 8), none⟩])
  .ret))
theorem p_slices_ContainsFunc__caravel_api_Part_caravel_api_Part : Try.f27.body.bind (compC Try.prog 9) = some c_slices_ContainsFunc__caravel_api_Part_caravel_api_Part := by kernel_rfl
theorem r_slices_ContainsFunc__caravel_api_Part_caravel_api_Part : tellR Try.prog Try.f27.results.toList = some [.t 4] := by kernel_rfl

/-- caravel/frag.fits$1: 2 in. -/
def c_frag_fits_1 : ACode :=
  (.seq (.reg [⟨some 2, .box (.tmp 0), none⟩,
    ⟨some 3, .mv (.cst (.bool false)), none⟩])
  (.seq (.reg [⟨some 4, .fadr 0 (.tmp 2), none⟩,
    ⟨some 5, .load false 1 (.tmp 4), none⟩,
    ⟨some 6, .fadr 1 (.tmp 2), none⟩,
    ⟨some 7, .load false 1 (.tmp 6), none⟩,
    ⟨some 8, .lenV (.tmp 7), none⟩,
    ⟨some 9, .bin .add (.tmp 5) (.tmp 8), none⟩,
    ⟨some 10, .load false 1 (.tmp 1), none⟩,
    ⟨some 11, .bin .gtr (.tmp 9) (.tmp 10), none⟩,
    ⟨some 3, .mv (.tmp 11), none⟩])
  .ret))
theorem p_frag_fits_1 : Try.f28.body.bind (compC Try.prog 12) = some c_frag_fits_1 := by kernel_rfl
theorem r_frag_fits_1 : tellR Try.prog Try.f28.results.toList = some [.t 3] := by kernel_rfl

/-- caravel/frag.both: 2 in. -/
def c_frag_both : ACode :=
  (.seq (.reg [⟨some 2, .box (.tmp 0), none⟩,
    ⟨some 3, .box (.tmp 1), none⟩,
    ⟨some 4, .newb [(.int .i64 0), .nil], none⟩])
  (.seq (.reg [⟨some 7, .fadr 0 (.tmp 2), none⟩,
    ⟨some 8, .load false 1 (.tmp 7), none⟩,
    ⟨some 9, .fadr 0 (.tmp 3), none⟩,
    ⟨some 10, .load false 1 (.tmp 9), none⟩,
    ⟨some 11, .min [(.tmp 8), (.tmp 10)], none⟩,
    ⟨some 5, .mv (.tmp 11), none⟩])
  (.seq (.reg [⟨some 12, .fadr 0 (.tmp 2), none⟩,
    ⟨some 13, .load false 1 (.tmp 12), none⟩,
    ⟨some 14, .fadr 1 (.tmp 2), none⟩,
    ⟨some 15, .load false 1 (.tmp 14), none⟩,
    ⟨some 16, .lenV (.tmp 15), none⟩,
    ⟨some 17, .bin .add (.tmp 13) (.tmp 16), none⟩,
    ⟨some 18, .fadr 0 (.tmp 3), none⟩,
    ⟨some 19, .load false 1 (.tmp 18), none⟩,
    ⟨some 20, .fadr 1 (.tmp 3), none⟩,
    ⟨some 21, .load false 1 (.tmp 20), none⟩,
    ⟨some 22, .lenV (.tmp 21), none⟩,
    ⟨some 23, .bin .add (.tmp 19) (.tmp 22), none⟩,
    ⟨some 24, .max [(.tmp 17), (.tmp 23)], none⟩,
    ⟨some 25, .mv (.tmp 5), none⟩,
    ⟨some 26, .bin .sub (.tmp 24) (.tmp 25), none⟩,
    ⟨some 27, .mks 1 1 (.int .u8 0) (.tmp 26) (.tmp 26), none⟩,
    ⟨some 6, .mv (.tmp 27), none⟩])
  (.seq (.reg [⟨some 28, .mv (.tmp 6), none⟩,
    ⟨some 29, .fadr 0 (.tmp 3), none⟩,
    ⟨some 30, .load false 1 (.tmp 29), none⟩,
    ⟨some 31, .mv (.tmp 5), none⟩,
    ⟨some 32, .bin .sub (.tmp 30) (.tmp 31), none⟩,
    ⟨some 33, .slS 1 (.tmp 28) (some (.tmp 32)) none none, none⟩,
    ⟨some 34, .fadr 1 (.tmp 3), none⟩,
    ⟨some 35, .load false 1 (.tmp 34), none⟩,
    ⟨some 36, .cpy 1 (.tmp 33) (.tmp 35), none⟩])
  (.seq (.reg [⟨some 37, .mv (.tmp 6), none⟩,
    ⟨some 38, .fadr 0 (.tmp 2), none⟩,
    ⟨some 39, .load false 1 (.tmp 38), none⟩,
    ⟨some 40, .mv (.tmp 5), none⟩,
    ⟨some 41, .bin .sub (.tmp 39) (.tmp 40), none⟩,
    ⟨some 42, .slS 1 (.tmp 37) (some (.tmp 41)) none none, none⟩,
    ⟨some 43, .fadr 1 (.tmp 2), none⟩,
    ⟨some 44, .load false 1 (.tmp 43), none⟩,
    ⟨some 45, .cpy 1 (.tmp 42) (.tmp 44), none⟩])
  (.seq (.reg [⟨some 46, .mv (.tmp 5), none⟩,
    ⟨some 47, .mv (.tmp 6), none⟩,
    ⟨some 48, .build [(.int .i64 0), .nil] [(0, 1, (.tmp 46)), (1, 1, (.tmp 47))], none⟩,
    ⟨none, .store 2 (.tmp 4) (.tmp 48), none⟩])
  .ret))))))
theorem p_frag_both : Try.f29.body.bind (compC Try.prog 49) = some c_frag_both := by kernel_rfl
theorem r_frag_both : tellR Try.prog Try.f29.results.toList = some [.c 4 true 2] := by kernel_rfl

/-- slices.IndexFunc[[]caravel/api.Part,caravel/api.Part]: 2 in. -/
def c_slices_IndexFunc__caravel_api_Part_caravel_api_Part : ACode :=
  (.seq (.reg [⟨some 4, .mv (.cst (.int .i64 0)), none⟩])
  (.seq (.seq (.reg [⟨some 6, .mv (.tmp 0), none⟩,
    ⟨some 7, .lenV (.tmp 6), none⟩,
    ⟨some 8, .mv (.cst (.int .i64 0)), none⟩])
  (.block 0 (.loop
    (.seq (.reg [⟨some 9, .bin .lss (.tmp 8) (.tmp 7), none⟩])
    (.seq (.cond (.tmp 9)
      .skip
      (.exit 0))
    (.seq (.block 1 (.seq (.reg [⟨some 10, .mv (.tmp 8), none⟩,
      ⟨some 5, .mv (.tmp 10), none⟩])
    (.seq (.reg [⟨some 11, .mv (.tmp 1), none⟩,
      ⟨some 12, .mv (.tmp 0), none⟩,
      ⟨some 13, .mv (.tmp 5), none⟩,
      ⟨some 14, .iadS 2 (.tmp 12) (.tmp 13), none⟩,
      ⟨some 15, .load true 2 (.tmp 14), none⟩,
      ⟨some 16, .callv (.tmp 11) [(.tmp 15)], none⟩])
    (.cond (.tmp 16)
      (.seq (.reg [⟨some 17, .mv (.tmp 5), none⟩,
        ⟨some 4, .mv (.tmp 17), none⟩])
      .ret)
      .skip))))
    (.reg [⟨some 18, .bin .add (.tmp 8) (.cst (.int .i64 1)), none⟩,
      ⟨some 8, .mv (.tmp 18), none⟩])))))))
  (.seq (.reg [⟨some 4, .mv (.cst (.int .i64 (-1))), none⟩])
  .ret)))
theorem p_slices_IndexFunc__caravel_api_Part_caravel_api_Part : Try.f30.body.bind (compC Try.prog 19) = some c_slices_IndexFunc__caravel_api_Part_caravel_api_Part := by kernel_rfl
theorem r_slices_IndexFunc__caravel_api_Part_caravel_api_Part : tellR Try.prog Try.f30.results.toList = some [.t 4] := by kernel_rfl

end Go.Proofs.Ytiejnmbpejfpgaa
