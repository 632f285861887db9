/- The program's functions, told as operations on abstract values. -/
import Derived.Test.YtlmioolkofbboaaAx30
import Derived.Test.YtlmioolkofbboaaProg
namespace Go.Proofs.Ytlmioolkofbboaa

/-- gosem.cut.init: 0 in. -/
def c_gosem_cut_init : ACode :=
  (.reg [⟨some 0, .call 1 [], none⟩])
theorem p_gosem_cut_init : Try.f2.body.bind (compC Try.prog 1) = some c_gosem_cut_init := by kernel_rfl
theorem r_gosem_cut_init : tellR Try.prog Try.f2.results.toList = some [] := by kernel_rfl

/-- caravel/caravellaw11.RingFull: 3 in. -/
def c_caravellaw11_RingFull : ACode :=
  (.seq (.reg [⟨some 6, .mv (.cst (.bool false)), none⟩])
  (.seq (.seq (.reg [⟨some 23, .call 6 [], none⟩,
    ⟨some 24, .not (.tmp 23), none⟩])
  (.cond (.tmp 24)
    (.seq (.reg [⟨some 6, .mv (.cst (.bool false)), none⟩])
    .ret)
    .skip))
  (.seq (.reg [⟨some 25, .mv (.tmp 0), none⟩,
    ⟨some 26, .conv .u64 (.tmp 25), none⟩,
    ⟨some 27, .bin .rem (.tmp 26) (.cst (.int .u64 5)), none⟩,
    ⟨some 28, .bin .shl (.cst (.int .i64 1)) (.tmp 27), none⟩,
    ⟨some 7, .mv (.tmp 28), none⟩])
  (.seq (.reg [⟨some 30, .mv (.tmp 7), none⟩,
    ⟨some 31, .mv (.tmp 1), none⟩,
    ⟨some 32, .call 7 [(.tmp 30), (.tmp 31)], none⟩,
    ⟨some 29, .mv (.tmp 32), none⟩,
    ⟨some 33, .ext (.tmp 29) 0, none⟩,
    ⟨some 34, .ext (.tmp 29) 1, none⟩,
    ⟨some 8, .newb [.nil, (.int .u16 0), (.int .u16 0), (.int .u16 0), (.int .u16 0)], none⟩,
    ⟨some 9, .newb [(.int .i64 0), .nil, .nil, .nil, (.int .i64 0)], none⟩,
    ⟨none, .store 5 (.tmp 8) (.tmp 33), none⟩,
    ⟨none, .store 5 (.tmp 9) (.tmp 34), none⟩])
  (.seq (.seq (.reg [⟨some 35, .mv (.tmp 7), none⟩,
    ⟨some 36, .bin .add (.tmp 35) (.cst (.int .i64 1)), none⟩,
    ⟨some 37, .mv (.cst (.int .i64 0)), none⟩])
  (.block 0 (.loop
    (.seq (.reg [⟨some 38, .bin .lss (.tmp 37) (.tmp 36), none⟩])
    (.seq (.cond (.tmp 38)
      .skip
      (.exit 0))
    (.seq (.block 1 (.seq (.reg [⟨some 39, .mv (.tmp 37), none⟩,
      ⟨some 10, .mv (.tmp 39), none⟩])
    (.seq (.reg [⟨some 41, .load true 5 (.tmp 8), none⟩,
      ⟨some 42, .mv (.tmp 10), none⟩,
      ⟨some 43, .conv .u8 (.tmp 42), none⟩,
      ⟨some 44, .bsl 1 [(.tmp 43)], none⟩,
      ⟨some 45, .call 8 [(.tmp 41), (.tmp 44)], none⟩,
      ⟨some 40, .mv (.tmp 45), none⟩,
      ⟨some 46, .ext (.tmp 40) 0, none⟩,
      ⟨some 47, .ext (.tmp 40) 1, none⟩,
      ⟨some 11, .newb [.nil, (.int .u16 0), (.int .u16 0), (.int .u16 0), (.int .u16 0)], none⟩,
      ⟨none, .store 5 (.tmp 11) (.tmp 46), none⟩,
      ⟨some 12, .mv (.tmp 47), none⟩])
    (.seq (.reg [⟨some 48, .load true 5 (.tmp 11), none⟩,
      ⟨none, .store 5 (.tmp 8) (.tmp 48), none⟩])
    (.seq (.reg [⟨some 49, .mv (.tmp 12), none⟩,
      ⟨some 50, .bin .eql (.tmp 49) (.cst (.int .i64 0)), none⟩,
      ⟨some 51, .mv (.tmp 10), none⟩,
      ⟨some 52, .mv (.tmp 7), none⟩,
      ⟨some 53, .bin .lss (.tmp 51) (.tmp 52), none⟩,
      ⟨some 54, .binB true (.tmp 50) (.tmp 53), none⟩,
      ⟨some 55, .mv (.tmp 54), none⟩,
      ⟨some 56, .mv (.tmp 12), some (55, false)⟩,
      ⟨some 57, .bin .neq (.tmp 56) (.cst (.int .i64 0)), some (55, false)⟩,
      ⟨some 58, .mv (.tmp 57), some (55, false)⟩,
      ⟨some 59, .mv (.tmp 12), some (58, true)⟩,
      ⟨some 60, .bin .neq (.tmp 59) (.cst (.int .i64 5)), some (58, true)⟩,
      ⟨some 61, .pick (.tmp 58) (.tmp 60) (.cst (.bool false)), some (55, false)⟩,
      ⟨some 62, .pick (.tmp 55) (.cst (.bool true)) (.tmp 61), none⟩])
    (.cond (.tmp 62)
      (.seq (.reg [⟨some 6, .mv (.cst (.bool false)), none⟩])
      .ret)
      .skip))))))
    (.reg [⟨some 63, .bin .add (.tmp 37) (.cst (.int .i64 1)), none⟩,
      ⟨some 37, .mv (.tmp 63), none⟩])))))))
  (.seq (.reg [⟨some 64, .mv (.tmp 2), none⟩,
    ⟨some 65, .conv .u64 (.tmp 64), none⟩,
    ⟨some 66, .mv (.tmp 7), none⟩,
    ⟨some 67, .bin .add (.tmp 66) (.cst (.int .i64 1)), none⟩,
    ⟨some 68, .conv .u64 (.tmp 67), none⟩,
    ⟨some 69, .bin .rem (.tmp 65) (.tmp 68), none⟩,
    ⟨some 70, .conv .i64 (.tmp 69), none⟩,
    ⟨some 13, .mv (.tmp 70), none⟩])
  (.seq (.seq (.reg [⟨some 71, .mv (.tmp 13), none⟩,
    ⟨some 72, .mv (.cst (.int .i64 0)), none⟩])
  (.block 2 (.loop
    (.seq (.reg [⟨some 73, .bin .lss (.tmp 72) (.tmp 71), none⟩])
    (.seq (.cond (.tmp 73)
      .skip
      (.exit 2))
    (.seq (.block 3 (.reg [⟨some 75, .load true 5 (.tmp 8), none⟩,
      ⟨some 76, .call 9 [(.tmp 75)], none⟩,
      ⟨some 74, .mv (.tmp 76), none⟩,
      ⟨some 77, .ext (.tmp 74) 0, none⟩,
      ⟨some 78, .ext (.tmp 74) 1, none⟩,
      ⟨some 79, .ext (.tmp 74) 2, none⟩,
      ⟨none, .store 5 (.tmp 8) (.tmp 77), none⟩]))
    (.reg [⟨some 80, .bin .add (.tmp 72) (.cst (.int .i64 1)), none⟩,
      ⟨some 72, .mv (.tmp 80), none⟩])))))))
  (.seq (.seq (.reg [⟨some 81, .mv (.tmp 13), none⟩,
    ⟨some 82, .bin .add (.tmp 81) (.cst (.int .i64 1)), none⟩,
    ⟨some 83, .mv (.cst (.int .i64 0)), none⟩])
  (.block 4 (.loop
    (.seq (.reg [⟨some 84, .bin .lss (.tmp 83) (.tmp 82), none⟩])
    (.seq (.cond (.tmp 84)
      .skip
      (.exit 4))
    (.seq (.block 5 (.seq (.reg [⟨some 85, .mv (.tmp 83), none⟩,
      ⟨some 14, .mv (.tmp 85), none⟩])
    (.seq (.reg [⟨some 87, .load true 5 (.tmp 8), none⟩,
      ⟨some 88, .call 10 [(.tmp 87)], none⟩,
      ⟨some 86, .mv (.tmp 88), none⟩,
      ⟨some 89, .ext (.tmp 86) 0, none⟩,
      ⟨some 90, .ext (.tmp 86) 1, none⟩,
      ⟨some 15, .newb [.nil, (.int .u16 0), (.int .u16 0), (.int .u16 0), (.int .u16 0)], none⟩,
      ⟨none, .store 5 (.tmp 15) (.tmp 89), none⟩,
      ⟨some 16, .mv (.tmp 90), none⟩])
    (.seq (.reg [⟨some 91, .load true 5 (.tmp 15), none⟩,
      ⟨none, .store 5 (.tmp 8) (.tmp 91), none⟩])
    (.seq (.reg [⟨some 92, .mv (.tmp 16), none⟩,
      ⟨some 93, .bin .eql (.tmp 92) (.cst (.int .i64 0)), none⟩,
      ⟨some 94, .mv (.tmp 14), none⟩,
      ⟨some 95, .mv (.tmp 13), none⟩,
      ⟨some 96, .bin .lss (.tmp 94) (.tmp 95), none⟩,
      ⟨some 97, .binB true (.tmp 93) (.tmp 96), none⟩])
    (.cond (.tmp 97)
      (.seq (.reg [⟨some 6, .mv (.cst (.bool false)), none⟩])
      .ret)
      .skip))))))
    (.reg [⟨some 98, .bin .add (.tmp 83) (.cst (.int .i64 1)), none⟩,
      ⟨some 83, .mv (.tmp 98), none⟩])))))))
  (.seq (.seq (.reg [⟨some 99, .mv (.tmp 13), none⟩,
    ⟨some 100, .bin .add (.tmp 99) (.cst (.int .i64 1)), none⟩,
    ⟨some 101, .mv (.cst (.int .i64 0)), none⟩])
  (.block 6 (.loop
    (.seq (.reg [⟨some 102, .bin .lss (.tmp 101) (.tmp 100), none⟩])
    (.seq (.cond (.tmp 102)
      .skip
      (.exit 6))
    (.seq (.block 7 (.seq (.reg [⟨some 103, .mv (.tmp 101), none⟩,
      ⟨some 17, .mv (.tmp 103), none⟩])
    (.seq (.reg [⟨some 105, .load true 5 (.tmp 8), none⟩,
      ⟨some 106, .call 11 [(.tmp 105)], none⟩,
      ⟨some 104, .mv (.tmp 106), none⟩,
      ⟨some 107, .ext (.tmp 104) 0, none⟩,
      ⟨some 108, .ext (.tmp 104) 1, none⟩,
      ⟨some 109, .ext (.tmp 104) 2, none⟩,
      ⟨some 18, .newb [.nil, (.int .u16 0), (.int .u16 0), (.int .u16 0), (.int .u16 0)], none⟩,
      ⟨none, .store 5 (.tmp 18) (.tmp 107), none⟩,
      ⟨some 19, .mv (.tmp 108), none⟩,
      ⟨some 20, .mv (.tmp 109), none⟩])
    (.seq (.reg [⟨some 110, .load true 5 (.tmp 18), none⟩,
      ⟨none, .store 5 (.tmp 8) (.tmp 110), none⟩])
    (.seq (.reg [⟨some 111, .mv (.tmp 20), none⟩,
      ⟨some 112, .bin .eql (.tmp 111) (.cst (.int .i64 0)), none⟩,
      ⟨some 113, .mv (.tmp 17), none⟩,
      ⟨some 114, .mv (.tmp 13), none⟩,
      ⟨some 115, .bin .lss (.tmp 113) (.tmp 114), none⟩,
      ⟨some 116, .binB true (.tmp 112) (.tmp 115), none⟩,
      ⟨some 117, .mv (.tmp 116), none⟩,
      ⟨some 118, .mv (.tmp 20), some (117, false)⟩,
      ⟨some 119, .bin .eql (.tmp 118) (.cst (.int .i64 0)), some (117, false)⟩,
      ⟨some 120, .mv (.tmp 119), some (117, false)⟩,
      ⟨some 121, .mv (.tmp 19), some (120, true)⟩,
      ⟨some 122, .iadS 1 (.tmp 121) (.cst (.int .i64 0)), some (120, true)⟩,
      ⟨some 123, .load false 1 (.tmp 122), some (120, true)⟩,
      ⟨some 124, .mv (.tmp 17), some (120, true)⟩,
      ⟨some 125, .conv .u8 (.tmp 124), some (120, true)⟩,
      ⟨some 126, .bin .neq (.tmp 123) (.tmp 125), some (120, true)⟩,
      ⟨some 127, .pick (.tmp 120) (.tmp 126) (.cst (.bool false)), some (117, false)⟩,
      ⟨some 128, .pick (.tmp 117) (.cst (.bool true)) (.tmp 127), none⟩])
    (.cond (.tmp 128)
      (.seq (.reg [⟨some 6, .mv (.cst (.bool false)), none⟩])
      .ret)
      .skip))))))
    (.reg [⟨some 129, .bin .add (.tmp 101) (.cst (.int .i64 1)), none⟩,
      ⟨some 101, .mv (.tmp 129), none⟩])))))))
  (.seq (.reg [⟨some 131, .load true 5 (.tmp 8), none⟩,
    ⟨some 132, .call 8 [(.tmp 131), (.cst .nil)], none⟩,
    ⟨some 130, .mv (.tmp 132), none⟩,
    ⟨some 133, .ext (.tmp 130) 0, none⟩,
    ⟨some 134, .ext (.tmp 130) 1, none⟩,
    ⟨some 21, .newb [.nil, (.int .u16 0), (.int .u16 0), (.int .u16 0), (.int .u16 0)], none⟩,
    ⟨none, .store 5 (.tmp 21) (.tmp 133), none⟩,
    ⟨some 22, .mv (.tmp 134), none⟩])
  (.seq (.reg [⟨some 135, .mv (.tmp 22), none⟩,
    ⟨some 136, .bin .eql (.tmp 135) (.cst (.int .i64 0)), none⟩,
    ⟨some 137, .mv (.tmp 13), none⟩,
    ⟨some 138, .bin .gtr (.tmp 137) (.cst (.int .i64 0)), none⟩,
    ⟨some 139, .binB false (.tmp 136) (.tmp 138), none⟩,
    ⟨some 140, .mv (.tmp 139), none⟩,
    ⟨some 141, .load true 5 (.tmp 8), some (140, true)⟩,
    ⟨some 142, .call 12 [(.tmp 141)], some (140, true)⟩,
    ⟨some 143, .mv (.tmp 7), some (140, true)⟩,
    ⟨some 144, .mv (.tmp 13), some (140, true)⟩,
    ⟨some 145, .bin .sub (.tmp 143) (.tmp 144), some (140, true)⟩,
    ⟨some 146, .bin .eql (.tmp 142) (.tmp 145), some (140, true)⟩,
    ⟨some 147, .pick (.tmp 140) (.tmp 146) (.cst (.bool false)), none⟩,
    ⟨some 6, .mv (.tmp 147), none⟩])
  .ret)))))))))))
theorem p_caravellaw11_RingFull : Try.f3.body.bind (compC Try.prog 148) = some c_caravellaw11_RingFull := by kernel_rfl
theorem r_caravellaw11_RingFull : tellR Try.prog Try.f3.results.toList = some [.t 6] := by kernel_rfl

/-- caravel/caravellaw11.RingOrder: 2 in. -/
def c_caravellaw11_RingOrder : ACode :=
  (.seq (.reg [⟨some 4, .mv (.cst (.bool false)), none⟩])
  (.seq (.seq (.reg [⟨some 24, .call 6 [], none⟩,
    ⟨some 25, .not (.tmp 24), none⟩,
    ⟨some 26, .mv (.tmp 25), none⟩,
    ⟨some 27, .mv (.tmp 1), some (26, false)⟩,
    ⟨some 28, .call 13 [(.tmp 27)], some (26, false)⟩,
    ⟨some 29, .not (.tmp 28), some (26, false)⟩,
    ⟨some 30, .pick (.tmp 26) (.cst (.bool true)) (.tmp 29), none⟩])
  (.cond (.tmp 30)
    (.seq (.reg [⟨some 31, .call 6 [], none⟩,
      ⟨some 4, .mv (.tmp 31), none⟩])
    .ret)
    .skip))
  (.seq (.reg [⟨some 33, .mv (.tmp 0), none⟩,
    ⟨some 34, .conv .u64 (.tmp 33), none⟩,
    ⟨some 35, .bin .rem (.tmp 34) (.cst (.int .u64 5)), none⟩,
    ⟨some 36, .bin .shl (.cst (.int .i64 1)) (.tmp 35), none⟩,
    ⟨some 37, .call 7 [(.tmp 36), (.cst (.int .u16 65533))], none⟩,
    ⟨some 32, .mv (.tmp 37), none⟩,
    ⟨some 38, .ext (.tmp 32) 0, none⟩,
    ⟨some 39, .ext (.tmp 32) 1, none⟩,
    ⟨some 5, .newb [.nil, (.int .u16 0), (.int .u16 0), (.int .u16 0), (.int .u16 0)], none⟩,
    ⟨some 6, .newb [(.int .i64 0), .nil, .nil, .nil, (.int .i64 0)], none⟩,
    ⟨none, .store 5 (.tmp 5) (.tmp 38), none⟩,
    ⟨none, .store 5 (.tmp 6) (.tmp 39), none⟩])
  (.seq (.reg [⟨some 7, .mv (.cst .nil), none⟩,
    ⟨some 8, .mv (.cst .nil), none⟩,
    ⟨some 9, .mv (.cst .nil), none⟩])
  (.seq (.seq (.reg [⟨some 40, .mv (.tmp 1), none⟩,
    ⟨some 41, .lenV (.tmp 40), none⟩,
    ⟨some 42, .mv (.cst (.int .i64 0)), none⟩])
  (.block 0 (.loop
    (.seq (.reg [⟨some 43, .bin .lss (.tmp 42) (.tmp 41), none⟩])
    (.seq (.cond (.tmp 43)
      .skip
      (.exit 0))
    (.seq (.block 1 (.seq (.reg [⟨some 44, .iadS 2 (.tmp 40) (.tmp 42), none⟩,
      ⟨some 45, .load true 2 (.tmp 44), none⟩,
      ⟨some 11, .newb [(.int .i64 0), .nil], none⟩,
      ⟨none, .store 2 (.tmp 11) (.tmp 45), none⟩])
    (.seq (.reg [⟨some 46, .fadr 0 (.tmp 11), none⟩,
      ⟨some 47, .load false 1 (.tmp 46), none⟩,
      ⟨some 48, .conv .u64 (.tmp 47), none⟩,
      ⟨some 49, .bin .rem (.tmp 48) (.cst (.int .u64 5)), none⟩])
    (.block 2 (.seq (.seq (.reg [⟨some 65, .bin .eql (.tmp 49) (.cst (.int .u64 0)), none⟩,
      ⟨some 64, .mv (.tmp 65), none⟩])
    (.cond (.tmp 64)
      .skip
      (.reg [⟨some 66, .bin .eql (.tmp 49) (.cst (.int .u64 1)), none⟩,
        ⟨some 64, .mv (.tmp 66), none⟩])))
    (.cond (.tmp 64)
      (.seq (.reg [⟨some 68, .load true 5 (.tmp 5), none⟩,
        ⟨some 69, .fadr 1 (.tmp 11), none⟩,
        ⟨some 70, .load false 1 (.tmp 69), none⟩,
        ⟨some 71, .call 8 [(.tmp 68), (.tmp 70)], none⟩,
        ⟨some 67, .mv (.tmp 71), none⟩,
        ⟨some 72, .ext (.tmp 67) 0, none⟩,
        ⟨some 73, .ext (.tmp 67) 1, none⟩,
        ⟨some 12, .newb [.nil, (.int .u16 0), (.int .u16 0), (.int .u16 0), (.int .u16 0)], none⟩,
        ⟨none, .store 5 (.tmp 12) (.tmp 72), none⟩,
        ⟨some 13, .mv (.tmp 73), none⟩])
      (.seq (.reg [⟨some 74, .load true 5 (.tmp 12), none⟩,
        ⟨none, .store 5 (.tmp 5) (.tmp 74), none⟩])
      (.seq (.reg [⟨some 75, .mv (.tmp 13), none⟩,
        ⟨some 76, .bin .eql (.tmp 75) (.cst (.int .i64 0)), none⟩])
      (.cond (.tmp 76)
        (.reg [⟨some 77, .mv (.tmp 7), none⟩,
          ⟨some 78, .fadr 1 (.tmp 11), none⟩,
          ⟨some 79, .load false 1 (.tmp 78), none⟩,
          ⟨some 80, .b2s (.tmp 79), none⟩,
          ⟨some 81, .bsl 1 [(.tmp 80)], none⟩,
          ⟨some 82, .app 1 16 (.tmp 77) (.tmp 81), none⟩,
          ⟨some 7, .mv (.tmp 82), none⟩])
        .skip))))
      (.seq (.reg [⟨some 84, .bin .eql (.tmp 49) (.cst (.int .u64 2)), none⟩,
        ⟨some 83, .mv (.tmp 84), none⟩])
      (.cond (.tmp 83)
        (.seq (.reg [⟨some 86, .load true 5 (.tmp 5), none⟩,
          ⟨some 87, .call 9 [(.tmp 86)], none⟩,
          ⟨some 85, .mv (.tmp 87), none⟩,
          ⟨some 88, .ext (.tmp 85) 0, none⟩,
          ⟨some 89, .ext (.tmp 85) 1, none⟩,
          ⟨some 90, .ext (.tmp 85) 2, none⟩,
          ⟨some 14, .newb [.nil, (.int .u16 0), (.int .u16 0), (.int .u16 0), (.int .u16 0)], none⟩,
          ⟨none, .store 5 (.tmp 14) (.tmp 88), none⟩,
          ⟨some 15, .mv (.tmp 89), none⟩,
          ⟨some 16, .mv (.tmp 90), none⟩])
        (.seq (.reg [⟨some 91, .load true 5 (.tmp 14), none⟩,
          ⟨none, .store 5 (.tmp 5) (.tmp 91), none⟩])
        (.seq (.reg [⟨some 92, .mv (.tmp 16), none⟩,
          ⟨some 93, .bin .eql (.tmp 92) (.cst (.int .i64 0)), none⟩])
        (.cond (.tmp 93)
          (.reg [⟨some 94, .mv (.tmp 8), none⟩,
            ⟨some 95, .mv (.tmp 15), none⟩,
            ⟨some 96, .b2s (.tmp 95), none⟩,
            ⟨some 97, .bsl 1 [(.tmp 96)], none⟩,
            ⟨some 98, .app 1 16 (.tmp 94) (.tmp 97), none⟩,
            ⟨some 8, .mv (.tmp 98), none⟩])
          .skip))))
        (.seq (.reg [⟨some 100, .bin .eql (.tmp 49) (.cst (.int .u64 3)), none⟩,
          ⟨some 99, .mv (.tmp 100), none⟩])
        (.cond (.tmp 99)
          (.reg [⟨some 102, .load true 5 (.tmp 5), none⟩,
            ⟨some 103, .call 10 [(.tmp 102)], none⟩,
            ⟨some 101, .mv (.tmp 103), none⟩,
            ⟨some 104, .ext (.tmp 101) 0, none⟩,
            ⟨some 105, .ext (.tmp 101) 1, none⟩,
            ⟨none, .store 5 (.tmp 5) (.tmp 104), none⟩])
          (.seq (.reg [⟨some 51, .load true 5 (.tmp 5), none⟩,
            ⟨some 52, .call 11 [(.tmp 51)], none⟩,
            ⟨some 50, .mv (.tmp 52), none⟩,
            ⟨some 53, .ext (.tmp 50) 0, none⟩,
            ⟨some 54, .ext (.tmp 50) 1, none⟩,
            ⟨some 55, .ext (.tmp 50) 2, none⟩,
            ⟨some 17, .newb [.nil, (.int .u16 0), (.int .u16 0), (.int .u16 0), (.int .u16 0)], none⟩,
            ⟨none, .store 5 (.tmp 17) (.tmp 53), none⟩,
            ⟨some 18, .mv (.tmp 54), none⟩,
            ⟨some 19, .mv (.tmp 55), none⟩])
          (.seq (.reg [⟨some 56, .load true 5 (.tmp 17), none⟩,
            ⟨none, .store 5 (.tmp 5) (.tmp 56), none⟩])
          (.seq (.reg [⟨some 57, .mv (.tmp 19), none⟩,
            ⟨some 58, .bin .eql (.tmp 57) (.cst (.int .i64 0)), none⟩])
          (.cond (.tmp 58)
            (.reg [⟨some 59, .mv (.tmp 9), none⟩,
              ⟨some 60, .mv (.tmp 18), none⟩,
              ⟨some 61, .b2s (.tmp 60), none⟩,
              ⟨some 62, .bsl 1 [(.tmp 61)], none⟩,
              ⟨some 63, .app 1 16 (.tmp 59) (.tmp 62), none⟩,
              ⟨some 9, .mv (.tmp 63), none⟩])
            .skip))))))))))))))
    (.reg [⟨some 106, .bin .add (.tmp 42) (.cst (.int .i64 1)), none⟩,
      ⟨some 42, .mv (.tmp 106), none⟩])))))))
  (.seq (.reg [⟨some 108, .load true 5 (.tmp 5), none⟩,
    ⟨some 109, .call 14 [(.tmp 108)], none⟩,
    ⟨some 107, .mv (.tmp 109), none⟩,
    ⟨some 110, .ext (.tmp 107) 0, none⟩,
    ⟨some 111, .ext (.tmp 107) 1, none⟩,
    ⟨some 20, .newb [.nil, (.int .u16 0), (.int .u16 0), (.int .u16 0), (.int .u16 0)], none⟩,
    ⟨none, .store 5 (.tmp 20) (.tmp 110), none⟩,
    ⟨some 21, .mv (.tmp 111), none⟩])
  (.seq (.seq (.reg [⟨some 112, .mv (.tmp 8), none⟩,
    ⟨some 113, .lenV (.tmp 112), none⟩,
    ⟨some 114, .mv (.tmp 21), none⟩,
    ⟨some 115, .lenV (.tmp 114), none⟩,
    ⟨some 116, .bin .add (.tmp 113) (.tmp 115), none⟩,
    ⟨some 117, .mv (.tmp 7), none⟩,
    ⟨some 118, .lenV (.tmp 117), none⟩,
    ⟨some 119, .bin .neq (.tmp 116) (.tmp 118), none⟩,
    ⟨some 120, .mv (.tmp 119), none⟩,
    ⟨some 121, .mv (.tmp 9), some (120, false)⟩,
    ⟨some 122, .lenV (.tmp 121), some (120, false)⟩,
    ⟨some 123, .mv (.tmp 8), some (120, false)⟩,
    ⟨some 124, .lenV (.tmp 123), some (120, false)⟩,
    ⟨some 125, .bin .gtr (.tmp 122) (.tmp 124), some (120, false)⟩,
    ⟨some 126, .pick (.tmp 120) (.cst (.bool true)) (.tmp 125), none⟩])
  (.cond (.tmp 126)
    (.seq (.reg [⟨some 4, .mv (.cst (.bool false)), none⟩])
    .ret)
    .skip))
  (.seq (.seq (.reg [⟨some 127, .mv (.tmp 7), none⟩,
    ⟨some 128, .lenV (.tmp 127), none⟩,
    ⟨some 129, .mv (.cst (.int .i64 0)), none⟩])
  (.block 3 (.loop
    (.seq (.reg [⟨some 130, .bin .lss (.tmp 129) (.tmp 128), none⟩])
    (.seq (.cond (.tmp 130)
      .skip
      (.exit 3))
    (.seq (.block 4 (.seq (.reg [⟨some 131, .mv (.tmp 129), none⟩,
      ⟨some 132, .iadS 1 (.tmp 127) (.tmp 129), none⟩,
      ⟨some 133, .load false 1 (.tmp 132), none⟩,
      ⟨some 22, .mv (.tmp 131), none⟩,
      ⟨some 23, .mv (.tmp 133), none⟩])
    (.seq (.reg [⟨some 134, .mv (.tmp 22), none⟩,
      ⟨some 135, .mv (.tmp 8), none⟩,
      ⟨some 136, .lenV (.tmp 135), none⟩,
      ⟨some 137, .bin .lss (.tmp 134) (.tmp 136), none⟩,
      ⟨some 138, .mv (.tmp 137), none⟩,
      ⟨some 139, .mv (.tmp 8), some (138, true)⟩,
      ⟨some 140, .mv (.tmp 22), some (138, true)⟩,
      ⟨some 141, .iadS 1 (.tmp 139) (.tmp 140), some (138, true)⟩,
      ⟨some 142, .load false 1 (.tmp 141), some (138, true)⟩,
      ⟨some 143, .mv (.tmp 23), some (138, true)⟩,
      ⟨some 144, .binT .neq (.tmp 142) (.tmp 143), some (138, true)⟩,
      ⟨some 145, .pick (.tmp 138) (.tmp 144) (.cst (.bool false)), none⟩,
      ⟨some 146, .mv (.tmp 145), none⟩,
      ⟨some 147, .mv (.tmp 22), some (146, false)⟩,
      ⟨some 148, .mv (.tmp 9), some (146, false)⟩,
      ⟨some 149, .lenV (.tmp 148), some (146, false)⟩,
      ⟨some 150, .bin .lss (.tmp 147) (.tmp 149), some (146, false)⟩,
      ⟨some 151, .mv (.tmp 150), some (146, false)⟩,
      ⟨some 152, .mv (.tmp 9), some (151, true)⟩,
      ⟨some 153, .mv (.tmp 22), some (151, true)⟩,
      ⟨some 154, .iadS 1 (.tmp 152) (.tmp 153), some (151, true)⟩,
      ⟨some 155, .load false 1 (.tmp 154), some (151, true)⟩,
      ⟨some 156, .mv (.tmp 23), some (151, true)⟩,
      ⟨some 157, .binT .neq (.tmp 155) (.tmp 156), some (151, true)⟩,
      ⟨some 158, .pick (.tmp 151) (.tmp 157) (.cst (.bool false)), some (146, false)⟩,
      ⟨some 159, .pick (.tmp 146) (.cst (.bool true)) (.tmp 158), none⟩,
      ⟨some 160, .mv (.tmp 159), none⟩,
      ⟨some 161, .mv (.tmp 22), some (160, false)⟩,
      ⟨some 162, .mv (.tmp 8), some (160, false)⟩,
      ⟨some 163, .lenV (.tmp 162), some (160, false)⟩,
      ⟨some 164, .bin .geq (.tmp 161) (.tmp 163), some (160, false)⟩,
      ⟨some 165, .mv (.tmp 164), some (160, false)⟩,
      ⟨some 166, .mv (.tmp 21), some (165, true)⟩,
      ⟨some 167, .mv (.tmp 22), some (165, true)⟩,
      ⟨some 168, .mv (.tmp 8), some (165, true)⟩,
      ⟨some 169, .lenV (.tmp 168), some (165, true)⟩,
      ⟨some 170, .bin .sub (.tmp 167) (.tmp 169), some (165, true)⟩,
      ⟨some 171, .iadS 1 (.tmp 166) (.tmp 170), some (165, true)⟩,
      ⟨some 172, .load false 1 (.tmp 171), some (165, true)⟩,
      ⟨some 173, .b2s (.tmp 172), some (165, true)⟩,
      ⟨some 174, .mv (.tmp 23), some (165, true)⟩,
      ⟨some 175, .binT .neq (.tmp 173) (.tmp 174), some (165, true)⟩,
      ⟨some 176, .pick (.tmp 165) (.tmp 175) (.cst (.bool false)), some (160, false)⟩,
      ⟨some 177, .pick (.tmp 160) (.cst (.bool true)) (.tmp 176), none⟩])
    (.cond (.tmp 177)
      (.seq (.reg [⟨some 4, .mv (.cst (.bool false)), none⟩])
      .ret)
      .skip))))
    (.reg [⟨some 178, .bin .add (.tmp 129) (.cst (.int .i64 1)), none⟩,
      ⟨some 129, .mv (.tmp 178), none⟩])))))))
  (.seq (.reg [⟨some 4, .mv (.cst (.bool true)), none⟩])
  .ret)))))))))
theorem p_caravellaw11_RingOrder : Try.f4.body.bind (compC Try.prog 179) = some c_caravellaw11_RingOrder := by kernel_rfl
theorem r_caravellaw11_RingOrder : tellR Try.prog Try.f4.results.toList = some [.t 4] := by kernel_rfl

/-- caravel/caravellaw11.RingPlays: 3 in. -/
def c_caravellaw11_RingPlays : ACode :=
  (.seq (.reg [⟨some 6, .mv (.cst (.bool false)), none⟩])
  (.seq (.seq (.reg [⟨some 15, .call 6 [], none⟩,
    ⟨some 16, .not (.tmp 15), none⟩,
    ⟨some 17, .mv (.tmp 16), none⟩,
    ⟨some 18, .mv (.tmp 2), some (17, false)⟩,
    ⟨some 19, .call 13 [(.tmp 18)], some (17, false)⟩,
    ⟨some 20, .not (.tmp 19), some (17, false)⟩,
    ⟨some 21, .pick (.tmp 17) (.cst (.bool true)) (.tmp 20), none⟩])
  (.cond (.tmp 21)
    (.seq (.reg [⟨some 22, .call 6 [], none⟩,
      ⟨some 6, .mv (.tmp 22), none⟩])
    .ret)
    .skip))
  (.seq (.reg [⟨some 23, .mv (.tmp 0), none⟩,
    ⟨some 24, .conv .u64 (.tmp 23), none⟩,
    ⟨some 25, .bin .rem (.tmp 24) (.cst (.int .u64 5)), none⟩,
    ⟨some 26, .bin .shl (.cst (.int .i64 1)) (.tmp 25), none⟩,
    ⟨some 7, .mv (.tmp 26), none⟩])
  (.seq (.reg [⟨some 28, .mv (.tmp 7), none⟩,
    ⟨some 29, .mv (.tmp 1), none⟩,
    ⟨some 30, .call 7 [(.tmp 28), (.tmp 29)], none⟩,
    ⟨some 27, .mv (.tmp 30), none⟩,
    ⟨some 31, .ext (.tmp 27) 0, none⟩,
    ⟨some 32, .ext (.tmp 27) 1, none⟩,
    ⟨some 8, .newb [.nil, (.int .u16 0), (.int .u16 0), (.int .u16 0), (.int .u16 0)], none⟩,
    ⟨some 9, .newb [(.int .i64 0), .nil, .nil, .nil, (.int .i64 0)], none⟩,
    ⟨none, .store 5 (.tmp 8) (.tmp 31), none⟩,
    ⟨none, .store 5 (.tmp 9) (.tmp 32), none⟩])
  (.seq (.seq (.reg [⟨some 33, .mv (.tmp 2), none⟩,
    ⟨some 34, .lenV (.tmp 33), none⟩,
    ⟨some 35, .mv (.cst (.int .i64 0)), none⟩])
  (.block 0 (.loop
    (.seq (.reg [⟨some 36, .bin .lss (.tmp 35) (.tmp 34), none⟩])
    (.seq (.cond (.tmp 36)
      .skip
      (.exit 0))
    (.seq (.block 1 (.seq (.reg [⟨some 37, .iadS 2 (.tmp 33) (.tmp 35), none⟩,
      ⟨some 38, .load true 2 (.tmp 37), none⟩,
      ⟨some 11, .newb [(.int .i64 0), .nil], none⟩,
      ⟨none, .store 2 (.tmp 11) (.tmp 38), none⟩])
    (.seq (.reg [⟨some 40, .load true 5 (.tmp 8), none⟩,
      ⟨some 41, .load true 5 (.tmp 9), none⟩,
      ⟨some 42, .load true 2 (.tmp 11), none⟩,
      ⟨some 43, .call 15 [(.tmp 40), (.tmp 41), (.tmp 42)], none⟩,
      ⟨some 39, .mv (.tmp 43), none⟩,
      ⟨some 44, .ext (.tmp 39) 0, none⟩,
      ⟨some 45, .ext (.tmp 39) 1, none⟩,
      ⟨some 46, .ext (.tmp 39) 2, none⟩,
      ⟨some 12, .newb [.nil, (.int .u16 0), (.int .u16 0), (.int .u16 0), (.int .u16 0)], none⟩,
      ⟨some 13, .newb [(.int .i64 0), .nil, .nil, .nil, (.int .i64 0)], none⟩,
      ⟨none, .store 5 (.tmp 12) (.tmp 44), none⟩,
      ⟨none, .store 5 (.tmp 13) (.tmp 45), none⟩,
      ⟨some 14, .mv (.tmp 46), none⟩])
    (.seq (.seq (.reg [⟨some 47, .mv (.tmp 14), none⟩,
      ⟨some 48, .not (.tmp 47), none⟩,
      ⟨some 49, .mv (.tmp 48), none⟩,
      ⟨some 50, .load true 5 (.tmp 9), some (49, false)⟩,
      ⟨some 51, .load true 5 (.tmp 8), some (49, false)⟩,
      ⟨some 52, .call 16 [(.tmp 50), (.tmp 51)], some (49, false)⟩,
      ⟨some 53, .not (.tmp 52), some (49, false)⟩,
      ⟨some 54, .pick (.tmp 49) (.cst (.bool true)) (.tmp 53), none⟩,
      ⟨some 55, .mv (.tmp 54), none⟩,
      ⟨some 56, .load true 5 (.tmp 13), some (55, false)⟩,
      ⟨some 57, .load true 5 (.tmp 12), some (55, false)⟩,
      ⟨some 58, .call 16 [(.tmp 56), (.tmp 57)], some (55, false)⟩,
      ⟨some 59, .not (.tmp 58), some (55, false)⟩,
      ⟨some 60, .pick (.tmp 55) (.cst (.bool true)) (.tmp 59), none⟩,
      ⟨some 61, .mv (.tmp 60), none⟩,
      ⟨some 62, .load true 5 (.tmp 12), some (61, false)⟩,
      ⟨some 63, .call 17 [(.tmp 62)], some (61, false)⟩,
      ⟨some 64, .not (.tmp 63), some (61, false)⟩,
      ⟨some 65, .pick (.tmp 61) (.cst (.bool true)) (.tmp 64), none⟩,
      ⟨some 66, .mv (.tmp 65), none⟩,
      ⟨some 67, .load true 5 (.tmp 12), some (66, false)⟩,
      ⟨some 68, .call 12 [(.tmp 67)], some (66, false)⟩,
      ⟨some 69, .load true 5 (.tmp 13), some (66, false)⟩,
      ⟨some 70, .call 18 [(.tmp 69)], some (66, false)⟩,
      ⟨some 71, .bin .neq (.tmp 68) (.tmp 70), some (66, false)⟩,
      ⟨some 72, .pick (.tmp 66) (.cst (.bool true)) (.tmp 71), none⟩])
    (.cond (.tmp 72)
      (.seq (.reg [⟨some 6, .mv (.cst (.bool false)), none⟩])
      .ret)
      .skip))
    (.drw [⟨some 73, .load true 5 (.tmp 12), none⟩,
      ⟨some 74, .load true 5 (.tmp 13), none⟩,
      ⟨none, .store 5 (.tmp 8) (.tmp 73), none⟩,
      ⟨none, .store 5 (.tmp 9) (.tmp 74), none⟩] [[], [], [1], []])))))
    (.reg [⟨some 75, .bin .add (.tmp 35) (.cst (.int .i64 1)), none⟩,
      ⟨some 35, .mv (.tmp 75), none⟩])))))))
  (.seq (.reg [⟨some 76, .load true 5 (.tmp 9), none⟩,
    ⟨some 77, .load true 5 (.tmp 8), none⟩,
    ⟨some 78, .call 19 [(.tmp 77)], none⟩,
    ⟨some 79, .call 16 [(.tmp 76), (.tmp 78)], none⟩,
    ⟨some 6, .mv (.tmp 79), none⟩])
  .ret))))))
theorem p_caravellaw11_RingPlays : Try.f5.body.bind (compC Try.prog 80) = some c_caravellaw11_RingPlays := by kernel_rfl
theorem r_caravellaw11_RingPlays : tellR Try.prog Try.f5.results.toList = some [.t 6] := by kernel_rfl

/-- caravel/caravellaw11.lives: 0 in. -/
def c_caravellaw11_lives : ACode :=
  (.seq (.reg [⟨some 0, .mv (.cst (.bool false)), none⟩])
  (.seq (.reg [⟨some 10, .call 20 [(.cst (.int .i64 2))], none⟩,
    ⟨some 9, .mv (.tmp 10), none⟩,
    ⟨some 11, .ext (.tmp 9) 0, none⟩,
    ⟨some 12, .ext (.tmp 9) 1, none⟩,
    ⟨some 1, .newb [.nil, (.int .u16 0), (.int .u16 0), (.int .u16 0), (.int .u16 0)], none⟩,
    ⟨none, .store 5 (.tmp 1) (.tmp 11), none⟩,
    ⟨some 2, .mv (.tmp 12), none⟩])
  (.seq (.reg [⟨some 14, .load true 5 (.tmp 1), none⟩,
    ⟨some 15, .bsl 1 [(.cst (.int .u8 97))], none⟩,
    ⟨some 16, .mvL (.tmp 15), none⟩,
    ⟨some 17, .call 8 [(.tmp 14), (.tmp 16)], none⟩,
    ⟨some 13, .mv (.tmp 17), none⟩,
    ⟨some 18, .ext (.tmp 13) 0, none⟩,
    ⟨some 19, .ext (.tmp 13) 1, none⟩,
    ⟨none, .store 5 (.tmp 1) (.tmp 18), none⟩,
    ⟨some 3, .mv (.tmp 19), none⟩])
  (.seq (.reg [⟨some 21, .load true 5 (.tmp 1), none⟩,
    ⟨some 22, .bsl 1 [(.cst (.int .u8 98))], none⟩,
    ⟨some 23, .mvL (.tmp 22), none⟩,
    ⟨some 24, .call 8 [(.tmp 21), (.tmp 23)], none⟩,
    ⟨some 20, .mv (.tmp 24), none⟩,
    ⟨some 25, .ext (.tmp 20) 0, none⟩,
    ⟨some 26, .ext (.tmp 20) 1, none⟩,
    ⟨none, .store 5 (.tmp 1) (.tmp 25), none⟩,
    ⟨some 4, .mv (.tmp 26), none⟩])
  (.seq (.reg [⟨some 28, .load true 5 (.tmp 1), none⟩,
    ⟨some 29, .call 8 [(.tmp 28), (.cst .nil)], none⟩,
    ⟨some 27, .mv (.tmp 29), none⟩,
    ⟨some 30, .ext (.tmp 27) 0, none⟩,
    ⟨some 31, .ext (.tmp 27) 1, none⟩,
    ⟨some 5, .newb [.nil, (.int .u16 0), (.int .u16 0), (.int .u16 0), (.int .u16 0)], none⟩,
    ⟨none, .store 5 (.tmp 5) (.tmp 30), none⟩,
    ⟨some 6, .mv (.tmp 31), none⟩])
  (.seq (.reg [⟨some 33, .load true 5 (.tmp 1), none⟩,
    ⟨some 34, .call 9 [(.tmp 33)], none⟩,
    ⟨some 32, .mv (.tmp 34), none⟩,
    ⟨some 35, .ext (.tmp 32) 0, none⟩,
    ⟨some 36, .ext (.tmp 32) 1, none⟩,
    ⟨some 37, .ext (.tmp 32) 2, none⟩,
    ⟨none, .store 5 (.tmp 1) (.tmp 35), none⟩,
    ⟨some 7, .mv (.tmp 36), none⟩,
    ⟨some 8, .mv (.tmp 37), none⟩])
  (.seq (.reg [⟨some 38, .mv (.tmp 2), none⟩,
    ⟨some 39, .bin .eql (.tmp 38) (.cst (.int .i64 0)), none⟩,
    ⟨some 40, .mv (.tmp 39), none⟩,
    ⟨some 41, .mv (.tmp 3), some (40, true)⟩,
    ⟨some 42, .bin .eql (.tmp 41) (.cst (.int .i64 0)), some (40, true)⟩,
    ⟨some 43, .pick (.tmp 40) (.tmp 42) (.cst (.bool false)), none⟩,
    ⟨some 44, .mv (.tmp 43), none⟩,
    ⟨some 45, .mv (.tmp 4), some (44, true)⟩,
    ⟨some 46, .bin .eql (.tmp 45) (.cst (.int .i64 0)), some (44, true)⟩,
    ⟨some 47, .pick (.tmp 44) (.tmp 46) (.cst (.bool false)), none⟩,
    ⟨some 48, .mv (.tmp 47), none⟩,
    ⟨some 49, .mv (.tmp 6), some (48, true)⟩,
    ⟨some 50, .bin .eql (.tmp 49) (.cst (.int .i64 5)), some (48, true)⟩,
    ⟨some 51, .pick (.tmp 48) (.tmp 50) (.cst (.bool false)), none⟩,
    ⟨some 52, .mv (.tmp 51), none⟩,
    ⟨some 53, .mv (.tmp 8), some (52, true)⟩,
    ⟨some 54, .bin .eql (.tmp 53) (.cst (.int .i64 0)), some (52, true)⟩,
    ⟨some 55, .pick (.tmp 52) (.tmp 54) (.cst (.bool false)), none⟩,
    ⟨some 56, .mv (.tmp 55), none⟩,
    ⟨some 57, .mv (.tmp 7), some (56, true)⟩,
    ⟨some 58, .b2s (.tmp 57), some (56, true)⟩,
    ⟨some 59, .binT .eql (.tmp 58) (.cst (.str [97])), some (56, true)⟩,
    ⟨some 60, .pick (.tmp 56) (.tmp 59) (.cst (.bool false)), none⟩,
    ⟨some 61, .mv (.tmp 60), none⟩,
    ⟨some 62, .load true 5 (.tmp 1), some (61, true)⟩,
    ⟨some 63, .call 12 [(.tmp 62)], some (61, true)⟩,
    ⟨some 64, .bin .eql (.tmp 63) (.cst (.int .i64 2)), some (61, true)⟩,
    ⟨some 65, .pick (.tmp 61) (.tmp 64) (.cst (.bool false)), none⟩,
    ⟨some 0, .mv (.tmp 65), none⟩])
  .ret)))))))
theorem p_caravellaw11_lives : Try.f6.body.bind (compC Try.prog 66) = some c_caravellaw11_lives := by kernel_rfl
theorem r_caravellaw11_lives : tellR Try.prog Try.f6.results.toList = some [.t 0] := by kernel_rfl

/-- caravel/caravellaw11.at: 2 in. -/
def c_caravellaw11_at : ACode :=
  (.seq (.reg [⟨some 4, .newb [.nil, (.int .u16 0), (.int .u16 0), (.int .u16 0), (.int .u16 0)], none⟩,
    ⟨some 5, .newb [(.int .i64 0), .nil, .nil, .nil, (.int .i64 0)], none⟩])
  (.seq (.reg [⟨some 9, .mv (.tmp 0), none⟩,
    ⟨some 10, .call 20 [(.tmp 9)], none⟩,
    ⟨some 8, .mv (.tmp 10), none⟩,
    ⟨some 11, .ext (.tmp 8) 0, none⟩,
    ⟨some 12, .ext (.tmp 8) 1, none⟩,
    ⟨some 6, .newb [.nil, (.int .u16 0), (.int .u16 0), (.int .u16 0), (.int .u16 0)], none⟩,
    ⟨none, .store 5 (.tmp 6) (.tmp 11), none⟩,
    ⟨some 7, .mv (.tmp 12), none⟩])
  (.seq (.reg [⟨some 13, .mv (.tmp 1), none⟩,
    ⟨some 14, .mv (.tmp 1), none⟩,
    ⟨some 15, .mv (.tmp 1), none⟩,
    ⟨some 16, .mv (.tmp 1), none⟩,
    ⟨some 17, .fadr 1 (.tmp 6), none⟩,
    ⟨none, .store 1 (.tmp 17) (.tmp 13), none⟩,
    ⟨some 18, .fadr 2 (.tmp 6), none⟩,
    ⟨none, .store 1 (.tmp 18) (.tmp 14), none⟩,
    ⟨some 19, .fadr 3 (.tmp 6), none⟩,
    ⟨none, .store 1 (.tmp 19) (.tmp 15), none⟩,
    ⟨some 20, .fadr 4 (.tmp 6), none⟩,
    ⟨none, .store 1 (.tmp 20) (.tmp 16), none⟩])
  (.seq (.reg [⟨some 21, .load true 5 (.tmp 6), none⟩,
    ⟨some 22, .mv (.tmp 0), none⟩,
    ⟨some 23, .mv (.tmp 1), none⟩,
    ⟨some 24, .conv .i64 (.tmp 23), none⟩,
    ⟨some 25, .build [(.int .i64 0), .nil, .nil, .nil, (.int .i64 0)] [(0, 1, (.tmp 22)), (4, 1, (.tmp 24))], none⟩,
    ⟨none, .store 5 (.tmp 4) (.tmp 21), none⟩,
    ⟨none, .store 5 (.tmp 5) (.tmp 25), none⟩])
  .ret))))
theorem p_caravellaw11_at : Try.f7.body.bind (compC Try.prog 26) = some c_caravellaw11_at := by kernel_rfl
theorem r_caravellaw11_at : tellR Try.prog Try.f7.results.toList = some [.c 4 true 5, .c 5 true 5] := by kernel_rfl

/-- caravel/ring.Post: 2 in. -/
def c_ring_Post : ACode :=
  (.seq (.reg [⟨some 2, .box (.tmp 0), none⟩,
    ⟨some 4, .newb [.nil, (.int .u16 0), (.int .u16 0), (.int .u16 0), (.int .u16 0)], none⟩,
    ⟨some 5, .mv (.cst (.int .i64 0)), none⟩])
  (.seq (.block 0 (.seq (.reg [⟨some 8, .mv (.tmp 1), none⟩,
    ⟨some 9, .lenV (.tmp 8), none⟩,
    ⟨some 10, .bin .gtr (.tmp 9) (.cst (.int .i64 214)), none⟩,
    ⟨some 7, .mv (.tmp 10), none⟩])
  (.cond (.tmp 7)
    (.seq (.reg [⟨some 11, .load true 5 (.tmp 2), none⟩,
      ⟨some 12, .call 19 [(.tmp 11)], none⟩,
      ⟨none, .store 5 (.tmp 4) (.tmp 12), none⟩,
      ⟨some 5, .mv (.cst (.int .i64 4)), none⟩])
    .ret)
    (.seq (.reg [⟨some 14, .fadr 1 (.tmp 2), none⟩,
      ⟨some 15, .load false 1 (.tmp 14), none⟩,
      ⟨some 16, .fadr 4 (.tmp 2), none⟩,
      ⟨some 17, .load false 1 (.tmp 16), none⟩,
      ⟨some 18, .bin .sub (.tmp 15) (.tmp 17), none⟩,
      ⟨some 19, .conv .i64 (.tmp 18), none⟩,
      ⟨some 20, .fadr 0 (.tmp 2), none⟩,
      ⟨some 21, .load false 1 (.tmp 20), none⟩,
      ⟨some 22, .lenV (.tmp 21), none⟩,
      ⟨some 23, .bin .geq (.tmp 19) (.tmp 22), none⟩,
      ⟨some 13, .mv (.tmp 23), none⟩])
    (.cond (.tmp 13)
      (.seq (.reg [⟨some 24, .load true 5 (.tmp 2), none⟩,
        ⟨some 25, .call 19 [(.tmp 24)], none⟩,
        ⟨none, .store 5 (.tmp 4) (.tmp 25), none⟩,
        ⟨some 5, .mv (.cst (.int .i64 5)), none⟩])
      .ret)
      .skip)))))
  (.seq (.reg [⟨some 26, .load true 5 (.tmp 2), none⟩,
    ⟨some 27, .call 19 [(.tmp 26)], none⟩,
    ⟨some 6, .newb [.nil, (.int .u16 0), (.int .u16 0), (.int .u16 0), (.int .u16 0)], none⟩,
    ⟨none, .store 5 (.tmp 6) (.tmp 27), none⟩])
  (.seq (.drw [⟨some 28, .fadr 0 (.tmp 6), none⟩,
    ⟨some 29, .load false 1 (.tmp 28), none⟩,
    ⟨some 30, .load true 5 (.tmp 2), none⟩,
    ⟨some 31, .fadr 1 (.tmp 2), none⟩,
    ⟨some 32, .load false 1 (.tmp 31), none⟩,
    ⟨some 33, .call 21 [(.tmp 30), (.tmp 32)], none⟩,
    ⟨some 34, .bsl 1 [], none⟩,
    ⟨some 35, .mv (.tmp 1), none⟩,
    ⟨some 36, .app 1 1 (.tmp 34) (.tmp 35), none⟩,
    ⟨some 37, .iadS 1 (.tmp 29) (.tmp 33), none⟩,
    ⟨none, .store 1 (.tmp 37) (.tmp 36), none⟩] [[], [], [], [], [], [], [1, 2, 4, 5], [], [1], [], []])
  (.seq (.reg [⟨some 38, .fadr 1 (.tmp 6), none⟩,
    ⟨some 39, .load false 1 (.tmp 38), none⟩,
    ⟨some 40, .bin .add (.tmp 39) (.cst (.int .u16 1)), none⟩,
    ⟨some 41, .fadr 1 (.tmp 6), none⟩,
    ⟨none, .store 1 (.tmp 41) (.tmp 40), none⟩])
  (.seq (.reg [⟨some 42, .load true 5 (.tmp 6), none⟩,
    ⟨none, .store 5 (.tmp 4) (.tmp 42), none⟩,
    ⟨some 5, .mv (.cst (.int .i64 0)), none⟩])
  .ret))))))
theorem p_ring_Post : Try.f8.body.bind (compC Try.prog 43) = some c_ring_Post := by kernel_rfl
theorem r_ring_Post : tellR Try.prog Try.f8.results.toList = some [.c 4 true 5, .t 5] := by kernel_rfl

/-- caravel/ring.Take: 1 in. -/
def c_ring_Take : ACode :=
  (.seq (.reg [⟨some 1, .box (.tmp 0), none⟩,
    ⟨some 2, .newb [.nil, (.int .u16 0), (.int .u16 0), (.int .u16 0), (.int .u16 0)], none⟩,
    ⟨some 3, .mv (.cst .nil), none⟩,
    ⟨some 4, .mv (.cst (.int .i64 0)), none⟩])
  (.seq (.seq (.reg [⟨some 6, .fadr 2 (.tmp 1), none⟩,
    ⟨some 7, .load false 1 (.tmp 6), none⟩,
    ⟨some 8, .fadr 1 (.tmp 1), none⟩,
    ⟨some 9, .load false 1 (.tmp 8), none⟩,
    ⟨some 10, .bin .eql (.tmp 7) (.tmp 9), none⟩])
  (.cond (.tmp 10)
    (.seq (.reg [⟨some 11, .load true 5 (.tmp 1), none⟩,
      ⟨some 12, .call 19 [(.tmp 11)], none⟩,
      ⟨none, .store 5 (.tmp 2) (.tmp 12), none⟩,
      ⟨some 3, .mv (.cst .nil), none⟩,
      ⟨some 4, .mv (.cst (.int .i64 2)), none⟩])
    .ret)
    .skip))
  (.seq (.reg [⟨some 13, .load true 5 (.tmp 1), none⟩,
    ⟨some 14, .call 19 [(.tmp 13)], none⟩,
    ⟨some 5, .newb [.nil, (.int .u16 0), (.int .u16 0), (.int .u16 0), (.int .u16 0)], none⟩,
    ⟨none, .store 5 (.tmp 5) (.tmp 14), none⟩])
  (.seq (.reg [⟨some 15, .fadr 2 (.tmp 5), none⟩,
    ⟨some 16, .load false 1 (.tmp 15), none⟩,
    ⟨some 17, .bin .add (.tmp 16) (.cst (.int .u16 1)), none⟩,
    ⟨some 18, .fadr 2 (.tmp 5), none⟩,
    ⟨none, .store 1 (.tmp 18) (.tmp 17), none⟩])
  (.seq (.reg [⟨some 19, .load true 5 (.tmp 5), none⟩,
    ⟨some 20, .fadr 0 (.tmp 1), none⟩,
    ⟨some 21, .load false 1 (.tmp 20), none⟩,
    ⟨some 22, .load true 5 (.tmp 1), none⟩,
    ⟨some 23, .fadr 2 (.tmp 1), none⟩,
    ⟨some 24, .load false 1 (.tmp 23), none⟩,
    ⟨some 25, .call 21 [(.tmp 22), (.tmp 24)], none⟩,
    ⟨some 26, .iadS 1 (.tmp 21) (.tmp 25), none⟩,
    ⟨some 27, .load false 1 (.tmp 26), none⟩,
    ⟨some 28, .call 22 [(.tmp 27)], none⟩,
    ⟨none, .store 5 (.tmp 2) (.tmp 19), none⟩,
    ⟨some 3, .mv (.tmp 28), none⟩,
    ⟨some 4, .mv (.cst (.int .i64 0)), none⟩])
  .ret)))))
theorem p_ring_Take : Try.f9.body.bind (compC Try.prog 29) = some c_ring_Take := by kernel_rfl
theorem r_ring_Take : tellR Try.prog Try.f9.results.toList = some [.c 2 true 5, .t 3, .t 4] := by kernel_rfl

/-- caravel/ring.Finish: 1 in. -/
def c_ring_Finish : ACode :=
  (.seq (.reg [⟨some 1, .box (.tmp 0), none⟩,
    ⟨some 2, .newb [.nil, (.int .u16 0), (.int .u16 0), (.int .u16 0), (.int .u16 0)], none⟩,
    ⟨some 3, .mv (.cst (.int .i64 0)), none⟩])
  (.seq (.seq (.reg [⟨some 5, .fadr 3 (.tmp 1), none⟩,
    ⟨some 6, .load false 1 (.tmp 5), none⟩,
    ⟨some 7, .fadr 2 (.tmp 1), none⟩,
    ⟨some 8, .load false 1 (.tmp 7), none⟩,
    ⟨some 9, .bin .eql (.tmp 6) (.tmp 8), none⟩])
  (.cond (.tmp 9)
    (.seq (.reg [⟨some 10, .load true 5 (.tmp 1), none⟩,
      ⟨some 11, .call 19 [(.tmp 10)], none⟩,
      ⟨none, .store 5 (.tmp 2) (.tmp 11), none⟩,
      ⟨some 3, .mv (.cst (.int .i64 2)), none⟩])
    .ret)
    .skip))
  (.seq (.reg [⟨some 12, .load true 5 (.tmp 1), none⟩,
    ⟨some 13, .call 19 [(.tmp 12)], none⟩,
    ⟨some 4, .newb [.nil, (.int .u16 0), (.int .u16 0), (.int .u16 0), (.int .u16 0)], none⟩,
    ⟨none, .store 5 (.tmp 4) (.tmp 13), none⟩])
  (.seq (.reg [⟨some 14, .fadr 3 (.tmp 4), none⟩,
    ⟨some 15, .load false 1 (.tmp 14), none⟩,
    ⟨some 16, .bin .add (.tmp 15) (.cst (.int .u16 1)), none⟩,
    ⟨some 17, .fadr 3 (.tmp 4), none⟩,
    ⟨none, .store 1 (.tmp 17) (.tmp 16), none⟩])
  (.seq (.reg [⟨some 18, .load true 5 (.tmp 4), none⟩,
    ⟨none, .store 5 (.tmp 2) (.tmp 18), none⟩,
    ⟨some 3, .mv (.cst (.int .i64 0)), none⟩])
  .ret)))))
theorem p_ring_Finish : Try.f10.body.bind (compC Try.prog 19) = some c_ring_Finish := by kernel_rfl
theorem r_ring_Finish : tellR Try.prog Try.f10.results.toList = some [.c 2 true 5, .t 3] := by kernel_rfl

/-- caravel/ring.Reap: 1 in. -/
def c_ring_Reap : ACode :=
  (.seq (.reg [⟨some 1, .box (.tmp 0), none⟩,
    ⟨some 2, .newb [.nil, (.int .u16 0), (.int .u16 0), (.int .u16 0), (.int .u16 0)], none⟩,
    ⟨some 3, .mv (.cst .nil), none⟩,
    ⟨some 4, .mv (.cst (.int .i64 0)), none⟩])
  (.seq (.seq (.reg [⟨some 8, .fadr 4 (.tmp 1), none⟩,
    ⟨some 9, .load false 1 (.tmp 8), none⟩,
    ⟨some 10, .fadr 3 (.tmp 1), none⟩,
    ⟨some 11, .load false 1 (.tmp 10), none⟩,
    ⟨some 12, .bin .eql (.tmp 9) (.tmp 11), none⟩])
  (.cond (.tmp 12)
    (.seq (.reg [⟨some 13, .load true 5 (.tmp 1), none⟩,
      ⟨some 14, .call 19 [(.tmp 13)], none⟩,
      ⟨none, .store 5 (.tmp 2) (.tmp 14), none⟩,
      ⟨some 3, .mv (.cst .nil), none⟩,
      ⟨some 4, .mv (.cst (.int .i64 2)), none⟩])
    .ret)
    .skip))
  (.seq (.reg [⟨some 15, .load true 5 (.tmp 1), none⟩,
    ⟨some 16, .call 19 [(.tmp 15)], none⟩,
    ⟨some 5, .newb [.nil, (.int .u16 0), (.int .u16 0), (.int .u16 0), (.int .u16 0)], none⟩,
    ⟨none, .store 5 (.tmp 5) (.tmp 16), none⟩])
  (.seq (.reg [⟨some 17, .load true 5 (.tmp 1), none⟩,
    ⟨some 18, .fadr 4 (.tmp 1), none⟩,
    ⟨some 19, .load false 1 (.tmp 18), none⟩,
    ⟨some 20, .call 21 [(.tmp 17), (.tmp 19)], none⟩,
    ⟨some 6, .mv (.tmp 20), none⟩])
  (.seq (.reg [⟨some 21, .fadr 0 (.tmp 5), none⟩,
    ⟨some 22, .load false 1 (.tmp 21), none⟩,
    ⟨some 23, .mv (.tmp 6), none⟩,
    ⟨some 24, .iadS 1 (.tmp 22) (.tmp 23), none⟩,
    ⟨some 25, .load false 1 (.tmp 24), none⟩,
    ⟨some 7, .mv (.tmp 25), none⟩])
  (.seq (.reg [⟨some 26, .fadr 0 (.tmp 5), none⟩,
    ⟨some 27, .load false 1 (.tmp 26), none⟩,
    ⟨some 28, .mv (.tmp 6), none⟩,
    ⟨some 29, .iadS 1 (.tmp 27) (.tmp 28), none⟩,
    ⟨none, .store 1 (.tmp 29) (.cst .nil), none⟩])
  (.seq (.reg [⟨some 30, .fadr 4 (.tmp 5), none⟩,
    ⟨some 31, .load false 1 (.tmp 30), none⟩,
    ⟨some 32, .bin .add (.tmp 31) (.cst (.int .u16 1)), none⟩,
    ⟨some 33, .fadr 4 (.tmp 5), none⟩,
    ⟨none, .store 1 (.tmp 33) (.tmp 32), none⟩])
  (.seq (.reg [⟨some 34, .load true 5 (.tmp 5), none⟩,
    ⟨some 35, .mv (.tmp 7), none⟩,
    ⟨none, .store 5 (.tmp 2) (.tmp 34), none⟩,
    ⟨some 3, .mv (.tmp 35), none⟩,
    ⟨some 4, .mv (.cst (.int .i64 0)), none⟩])
  .ret))))))))
theorem p_ring_Reap : Try.f11.body.bind (compC Try.prog 36) = some c_ring_Reap := by kernel_rfl
theorem r_ring_Reap : tellR Try.prog Try.f11.results.toList = some [.c 2 true 5, .t 3, .t 4] := by kernel_rfl

/-- caravel/ring.Len: 1 in. -/
def c_ring_Len : ACode :=
  (.seq (.reg [⟨some 1, .box (.tmp 0), none⟩,
    ⟨some 2, .mv (.cst (.int .i64 0)), none⟩])
  (.seq (.reg [⟨some 3, .fadr 1 (.tmp 1), none⟩,
    ⟨some 4, .load false 1 (.tmp 3), none⟩,
    ⟨some 5, .fadr 4 (.tmp 1), none⟩,
    ⟨some 6, .load false 1 (.tmp 5), none⟩,
    ⟨some 7, .bin .sub (.tmp 4) (.tmp 6), none⟩,
    ⟨some 8, .conv .i64 (.tmp 7), none⟩,
    ⟨some 2, .mv (.tmp 8), none⟩])
  .ret))
theorem p_ring_Len : Try.f12.body.bind (compC Try.prog 9) = some c_ring_Len := by kernel_rfl
theorem r_ring_Len : tellR Try.prog Try.f12.results.toList = some [.t 2] := by kernel_rfl

/-- caravel/caravellaw11.fits: 1 in. -/
def c_caravellaw11_fits : ACode :=
  (.seq (.reg [⟨some 2, .mv (.cst (.bool false)), none⟩])
  (.seq (.seq (.reg [⟨some 5, .mv (.tmp 0), none⟩,
    ⟨some 6, .lenV (.tmp 5), none⟩,
    ⟨some 7, .mv (.cst (.int .i64 0)), none⟩])
  (.block 0 (.loop
    (.seq (.reg [⟨some 8, .bin .lss (.tmp 7) (.tmp 6), none⟩])
    (.seq (.cond (.tmp 8)
      .skip
      (.exit 0))
    (.seq (.block 1 (.seq (.reg [⟨some 9, .iadS 2 (.tmp 5) (.tmp 7), none⟩,
      ⟨some 10, .load true 2 (.tmp 9), none⟩,
      ⟨some 4, .newb [(.int .i64 0), .nil], none⟩,
      ⟨none, .store 2 (.tmp 4) (.tmp 10), none⟩])
    (.seq (.reg [⟨some 11, .fadr 1 (.tmp 4), none⟩,
      ⟨some 12, .load false 1 (.tmp 11), none⟩,
      ⟨some 13, .lenV (.tmp 12), none⟩,
      ⟨some 14, .bin .gtr (.tmp 13) (.cst (.int .i64 300)), none⟩])
    (.cond (.tmp 14)
      (.seq (.reg [⟨some 2, .mv (.cst (.bool false)), none⟩])
      .ret)
      .skip))))
    (.reg [⟨some 15, .bin .add (.tmp 7) (.cst (.int .i64 1)), none⟩,
      ⟨some 7, .mv (.tmp 15), none⟩])))))))
  (.seq (.reg [⟨some 16, .mv (.tmp 0), none⟩,
    ⟨some 17, .lenV (.tmp 16), none⟩,
    ⟨some 18, .bin .leq (.tmp 17) (.cst (.int .i64 100)), none⟩,
    ⟨some 2, .mv (.tmp 18), none⟩])
  .ret)))
theorem p_caravellaw11_fits : Try.f13.body.bind (compC Try.prog 19) = some c_caravellaw11_fits := by kernel_rfl
theorem r_caravellaw11_fits : tellR Try.prog Try.f13.results.toList = some [.t 2] := by kernel_rfl

/-- caravel/ring.Quiet: 1 in. -/
def c_ring_Quiet : ACode :=
  (.seq (.reg [⟨some 1, .box (.tmp 0), none⟩,
    ⟨some 2, .newb [.nil, (.int .u16 0), (.int .u16 0), (.int .u16 0), (.int .u16 0)], none⟩,
    ⟨some 3, .mv (.cst .nil), none⟩])
  (.seq (.reg [⟨some 4, .mv (.cst .nil), none⟩])
  (.seq (.seq (.reg [⟨some 8, .fadr 2 (.tmp 1), none⟩,
    ⟨some 9, .load false 1 (.tmp 8), none⟩,
    ⟨some 5, .mv (.tmp 9), none⟩])
  (.block 0 (.loop
    (.seq (.seq (.reg [⟨some 10, .mv (.tmp 5), none⟩,
      ⟨some 11, .fadr 1 (.tmp 1), none⟩,
      ⟨some 12, .load false 1 (.tmp 11), none⟩,
      ⟨some 13, .bin .neq (.tmp 10) (.tmp 12), none⟩])
    (.cond (.tmp 13)
      .skip
      (.exit 0)))
    (.seq (.block 1 (.reg [⟨some 16, .mv (.tmp 4), none⟩,
      ⟨some 17, .fadr 0 (.tmp 1), none⟩,
      ⟨some 18, .load false 1 (.tmp 17), none⟩,
      ⟨some 19, .load true 5 (.tmp 1), none⟩,
      ⟨some 20, .mv (.tmp 5), none⟩,
      ⟨some 21, .call 21 [(.tmp 19), (.tmp 20)], none⟩,
      ⟨some 22, .iadS 1 (.tmp 18) (.tmp 21), none⟩,
      ⟨some 23, .load false 1 (.tmp 22), none⟩,
      ⟨some 24, .call 22 [(.tmp 23)], none⟩,
      ⟨some 25, .bsl 1 [(.tmp 24)], none⟩,
      ⟨some 26, .app 1 24 (.tmp 16) (.tmp 25), none⟩,
      ⟨some 4, .mv (.tmp 26), none⟩]))
    (.reg [⟨some 14, .mv (.tmp 5), none⟩,
      ⟨some 15, .bin .add (.tmp 14) (.cst (.int .u16 1)), none⟩,
      ⟨some 5, .mv (.tmp 15), none⟩]))))))
  (.seq (.reg [⟨some 28, .fadr 0 (.tmp 1), none⟩,
    ⟨some 29, .load false 1 (.tmp 28), none⟩,
    ⟨some 30, .lenV (.tmp 29), none⟩,
    ⟨some 31, .call 20 [(.tmp 30)], none⟩,
    ⟨some 27, .mv (.tmp 31), none⟩,
    ⟨some 32, .ext (.tmp 27) 0, none⟩,
    ⟨some 33, .ext (.tmp 27) 1, none⟩,
    ⟨some 6, .newb [.nil, (.int .u16 0), (.int .u16 0), (.int .u16 0), (.int .u16 0)], none⟩,
    ⟨none, .store 5 (.tmp 6) (.tmp 32), none⟩,
    ⟨some 7, .mv (.tmp 33), none⟩])
  (.seq (.drw [⟨some 34, .fadr 1 (.tmp 1), none⟩,
    ⟨some 35, .load false 1 (.tmp 34), none⟩,
    ⟨some 36, .fadr 1 (.tmp 1), none⟩,
    ⟨some 37, .load false 1 (.tmp 36), none⟩,
    ⟨some 38, .fadr 1 (.tmp 1), none⟩,
    ⟨some 39, .load false 1 (.tmp 38), none⟩,
    ⟨some 40, .fadr 1 (.tmp 1), none⟩,
    ⟨some 41, .load false 1 (.tmp 40), none⟩,
    ⟨some 42, .fadr 1 (.tmp 6), none⟩,
    ⟨none, .store 1 (.tmp 42) (.tmp 35), none⟩,
    ⟨some 43, .fadr 2 (.tmp 6), none⟩,
    ⟨none, .store 1 (.tmp 43) (.tmp 37), none⟩,
    ⟨some 44, .fadr 3 (.tmp 6), none⟩,
    ⟨none, .store 1 (.tmp 44) (.tmp 39), none⟩,
    ⟨some 45, .fadr 4 (.tmp 6), none⟩,
    ⟨none, .store 1 (.tmp 45) (.tmp 41), none⟩] [[], [], [], [], [], [], [], [], [], [3, 5, 7], [], [5, 7], [], [7], [], []])
  (.seq (.reg [⟨some 46, .load true 5 (.tmp 6), none⟩,
    ⟨some 47, .mv (.tmp 4), none⟩,
    ⟨none, .store 5 (.tmp 2) (.tmp 46), none⟩,
    ⟨some 3, .mv (.tmp 47), none⟩])
  .ret))))))
theorem p_ring_Quiet : Try.f14.body.bind (compC Try.prog 48) = some c_ring_Quiet := by kernel_rfl
theorem r_ring_Quiet : tellR Try.prog Try.f14.results.toList = some [.c 2 true 5, .t 3] := by kernel_rfl

/-- caravel/caravellaw11.step: 3 in. -/
def c_caravellaw11_step : ACode :=
  (.seq (.reg [⟨some 3, .box (.tmp 0), none⟩,
    ⟨some 4, .box (.tmp 1), none⟩,
    ⟨some 5, .box (.tmp 2), none⟩,
    ⟨some 6, .newb [.nil, (.int .u16 0), (.int .u16 0), (.int .u16 0), (.int .u16 0)], none⟩,
    ⟨some 7, .newb [(.int .i64 0), .nil, .nil, .nil, (.int .i64 0)], none⟩,
    ⟨some 8, .mv (.cst (.bool false)), none⟩])
  (.seq (.seq (.reg [⟨some 38, .fadr 0 (.tmp 5), none⟩,
    ⟨some 39, .load false 1 (.tmp 38), none⟩,
    ⟨some 40, .conv .u64 (.tmp 39), none⟩,
    ⟨some 41, .bin .rem (.tmp 40) (.cst (.int .u64 6)), none⟩])
  (.block 0 (.seq (.seq (.reg [⟨some 43, .bin .eql (.tmp 41) (.cst (.int .u64 0)), none⟩,
    ⟨some 42, .mv (.tmp 43), none⟩])
  (.cond (.tmp 42)
    .skip
    (.reg [⟨some 44, .bin .eql (.tmp 41) (.cst (.int .u64 1)), none⟩,
      ⟨some 42, .mv (.tmp 44), none⟩])))
  (.cond (.tmp 42)
    (.seq (.reg [⟨some 45, .bsl 1 [], none⟩,
      ⟨some 46, .fadr 1 (.tmp 5), none⟩,
      ⟨some 47, .load false 1 (.tmp 46), none⟩,
      ⟨some 48, .app 1 1 (.tmp 45) (.tmp 47), none⟩,
      ⟨some 9, .mv (.tmp 48), none⟩])
    (.seq (.reg [⟨some 50, .load true 5 (.tmp 3), none⟩,
      ⟨some 51, .mv (.tmp 9), none⟩,
      ⟨some 52, .call 8 [(.tmp 50), (.tmp 51)], none⟩,
      ⟨some 49, .mv (.tmp 52), none⟩,
      ⟨some 53, .ext (.tmp 49) 0, none⟩,
      ⟨some 54, .ext (.tmp 49) 1, none⟩,
      ⟨some 10, .newb [.nil, (.int .u16 0), (.int .u16 0), (.int .u16 0), (.int .u16 0)], none⟩,
      ⟨none, .store 5 (.tmp 10) (.tmp 53), none⟩,
      ⟨some 11, .mv (.tmp 54), none⟩])
    (.seq (.seq (.reg [⟨some 55, .mv (.tmp 9), none⟩,
      ⟨some 56, .lenV (.tmp 55), none⟩,
      ⟨some 57, .mv (.cst (.int .i64 0)), none⟩])
    (.block 1 (.loop
      (.seq (.reg [⟨some 58, .bin .lss (.tmp 57) (.tmp 56), none⟩])
      (.seq (.cond (.tmp 58)
        .skip
        (.exit 1))
      (.seq (.block 2 (.seq (.reg [⟨some 59, .mv (.tmp 57), none⟩,
        ⟨some 12, .mv (.tmp 59), none⟩])
      (.reg [⟨some 60, .mv (.tmp 9), none⟩,
        ⟨some 61, .mv (.tmp 12), none⟩,
        ⟨some 62, .iadS 1 (.tmp 60) (.tmp 61), none⟩,
        ⟨some 63, .load false 1 (.tmp 62), none⟩,
        ⟨some 64, .bin .add (.tmp 63) (.cst (.int .u8 1)), none⟩,
        ⟨some 65, .iadS 1 (.tmp 60) (.tmp 61), none⟩,
        ⟨none, .store 1 (.tmp 65) (.tmp 64), none⟩])))
      (.reg [⟨some 66, .bin .add (.tmp 57) (.cst (.int .i64 1)), none⟩,
        ⟨some 57, .mv (.tmp 66), none⟩])))))))
    (.seq (.reg [⟨some 68, .load true 5 (.tmp 4), none⟩,
      ⟨some 69, .fadr 1 (.tmp 5), none⟩,
      ⟨some 70, .load false 1 (.tmp 69), none⟩,
      ⟨some 71, .b2s (.tmp 70), none⟩,
      ⟨some 72, .call 23 [(.tmp 68), (.tmp 71)], none⟩,
      ⟨some 67, .mv (.tmp 72), none⟩,
      ⟨some 73, .ext (.tmp 67) 0, none⟩,
      ⟨some 74, .ext (.tmp 67) 1, none⟩,
      ⟨some 13, .newb [(.int .i64 0), .nil, .nil, .nil, (.int .i64 0)], none⟩,
      ⟨none, .store 5 (.tmp 13) (.tmp 73), none⟩,
      ⟨some 14, .mv (.tmp 74), none⟩])
    (.seq (.drw [⟨some 75, .load true 5 (.tmp 10), none⟩,
      ⟨some 76, .load true 5 (.tmp 13), none⟩,
      ⟨some 77, .mv (.tmp 11), none⟩,
      ⟨some 78, .mv (.tmp 14), none⟩,
      ⟨some 79, .bin .eql (.tmp 77) (.tmp 78), none⟩,
      ⟨none, .store 5 (.tmp 6) (.tmp 75), none⟩,
      ⟨none, .store 5 (.tmp 7) (.tmp 76), none⟩,
      ⟨some 8, .mv (.tmp 79), none⟩] [[], [], [], [], [], [1], [], []])
    .ret)))))
    (.seq (.reg [⟨some 81, .bin .eql (.tmp 41) (.cst (.int .u64 2)), none⟩,
      ⟨some 80, .mv (.tmp 81), none⟩])
    (.cond (.tmp 80)
      (.seq (.reg [⟨some 83, .load true 5 (.tmp 3), none⟩,
        ⟨some 84, .call 9 [(.tmp 83)], none⟩,
        ⟨some 82, .mv (.tmp 84), none⟩,
        ⟨some 85, .ext (.tmp 82) 0, none⟩,
        ⟨some 86, .ext (.tmp 82) 1, none⟩,
        ⟨some 87, .ext (.tmp 82) 2, none⟩,
        ⟨some 15, .newb [.nil, (.int .u16 0), (.int .u16 0), (.int .u16 0), (.int .u16 0)], none⟩,
        ⟨none, .store 5 (.tmp 15) (.tmp 85), none⟩,
        ⟨some 16, .mv (.tmp 86), none⟩,
        ⟨some 17, .mv (.tmp 87), none⟩])
      (.seq (.reg [⟨some 89, .load true 5 (.tmp 4), none⟩,
        ⟨some 90, .call 24 [(.tmp 89)], none⟩,
        ⟨some 88, .mv (.tmp 90), none⟩,
        ⟨some 91, .ext (.tmp 88) 0, none⟩,
        ⟨some 92, .ext (.tmp 88) 1, none⟩,
        ⟨some 93, .ext (.tmp 88) 2, none⟩,
        ⟨some 18, .newb [(.int .i64 0), .nil, .nil, .nil, (.int .i64 0)], none⟩,
        ⟨none, .store 5 (.tmp 18) (.tmp 91), none⟩,
        ⟨some 19, .mv (.tmp 92), none⟩,
        ⟨some 20, .mv (.tmp 93), none⟩])
      (.seq (.reg [⟨some 94, .mv (.tmp 16), none⟩,
        ⟨some 95, .b2s (.tmp 94), none⟩,
        ⟨some 96, .mv (.tmp 19), none⟩,
        ⟨some 97, .binT .eql (.tmp 95) (.tmp 96), none⟩,
        ⟨some 98, .mv (.tmp 97), none⟩,
        ⟨some 99, .mv (.tmp 17), some (98, true)⟩,
        ⟨some 100, .mv (.tmp 20), some (98, true)⟩,
        ⟨some 101, .bin .eql (.tmp 99) (.tmp 100), some (98, true)⟩,
        ⟨some 102, .pick (.tmp 98) (.tmp 101) (.cst (.bool false)), none⟩,
        ⟨some 21, .mv (.tmp 102), none⟩])
      (.seq (.seq (.reg [⟨some 103, .mv (.tmp 16), none⟩,
        ⟨some 104, .lenV (.tmp 103), none⟩,
        ⟨some 105, .mv (.cst (.int .i64 0)), none⟩])
      (.block 3 (.loop
        (.seq (.reg [⟨some 106, .bin .lss (.tmp 105) (.tmp 104), none⟩])
        (.seq (.cond (.tmp 106)
          .skip
          (.exit 3))
        (.seq (.block 4 (.seq (.reg [⟨some 107, .mv (.tmp 105), none⟩,
          ⟨some 22, .mv (.tmp 107), none⟩])
        (.reg [⟨some 108, .mv (.tmp 16), none⟩,
          ⟨some 109, .mv (.tmp 22), none⟩,
          ⟨some 110, .iadS 1 (.tmp 108) (.tmp 109), none⟩,
          ⟨some 111, .load false 1 (.tmp 110), none⟩,
          ⟨some 112, .bin .add (.tmp 111) (.cst (.int .u8 1)), none⟩,
          ⟨some 113, .iadS 1 (.tmp 108) (.tmp 109), none⟩,
          ⟨none, .store 1 (.tmp 113) (.tmp 112), none⟩])))
        (.reg [⟨some 114, .bin .add (.tmp 105) (.cst (.int .i64 1)), none⟩,
          ⟨some 105, .mv (.tmp 114), none⟩])))))))
      (.seq (.drw [⟨some 115, .load true 5 (.tmp 15), none⟩,
        ⟨some 116, .load true 5 (.tmp 18), none⟩,
        ⟨some 117, .mv (.tmp 21), none⟩,
        ⟨none, .store 5 (.tmp 6) (.tmp 115), none⟩,
        ⟨none, .store 5 (.tmp 7) (.tmp 116), none⟩,
        ⟨some 8, .mv (.tmp 117), none⟩] [[], [], [], [1], [], []])
      .ret)))))
      (.seq (.reg [⟨some 119, .bin .eql (.tmp 41) (.cst (.int .u64 3)), none⟩,
        ⟨some 118, .mv (.tmp 119), none⟩])
      (.cond (.tmp 118)
        (.seq (.reg [⟨some 121, .load true 5 (.tmp 3), none⟩,
          ⟨some 122, .call 10 [(.tmp 121)], none⟩,
          ⟨some 120, .mv (.tmp 122), none⟩,
          ⟨some 123, .ext (.tmp 120) 0, none⟩,
          ⟨some 124, .ext (.tmp 120) 1, none⟩,
          ⟨some 23, .newb [.nil, (.int .u16 0), (.int .u16 0), (.int .u16 0), (.int .u16 0)], none⟩,
          ⟨none, .store 5 (.tmp 23) (.tmp 123), none⟩,
          ⟨some 24, .mv (.tmp 124), none⟩])
        (.seq (.reg [⟨some 126, .load true 5 (.tmp 4), none⟩,
          ⟨some 127, .call 25 [(.tmp 126)], none⟩,
          ⟨some 125, .mv (.tmp 127), none⟩,
          ⟨some 128, .ext (.tmp 125) 0, none⟩,
          ⟨some 129, .ext (.tmp 125) 1, none⟩,
          ⟨some 25, .newb [(.int .i64 0), .nil, .nil, .nil, (.int .i64 0)], none⟩,
          ⟨none, .store 5 (.tmp 25) (.tmp 128), none⟩,
          ⟨some 26, .mv (.tmp 129), none⟩])
        (.seq (.drw [⟨some 130, .load true 5 (.tmp 23), none⟩,
          ⟨some 131, .load true 5 (.tmp 25), none⟩,
          ⟨some 132, .mv (.tmp 24), none⟩,
          ⟨some 133, .mv (.tmp 26), none⟩,
          ⟨some 134, .bin .eql (.tmp 132) (.tmp 133), none⟩,
          ⟨none, .store 5 (.tmp 6) (.tmp 130), none⟩,
          ⟨none, .store 5 (.tmp 7) (.tmp 131), none⟩,
          ⟨some 8, .mv (.tmp 134), none⟩] [[], [], [], [], [], [1], [], []])
        .ret)))
        (.seq (.reg [⟨some 136, .bin .eql (.tmp 41) (.cst (.int .u64 4)), none⟩,
          ⟨some 135, .mv (.tmp 136), none⟩])
        (.cond (.tmp 135)
          (.seq (.reg [⟨some 138, .load true 5 (.tmp 3), none⟩,
            ⟨some 139, .call 11 [(.tmp 138)], none⟩,
            ⟨some 137, .mv (.tmp 139), none⟩,
            ⟨some 140, .ext (.tmp 137) 0, none⟩,
            ⟨some 141, .ext (.tmp 137) 1, none⟩,
            ⟨some 142, .ext (.tmp 137) 2, none⟩,
            ⟨some 27, .newb [.nil, (.int .u16 0), (.int .u16 0), (.int .u16 0), (.int .u16 0)], none⟩,
            ⟨none, .store 5 (.tmp 27) (.tmp 140), none⟩,
            ⟨some 28, .mv (.tmp 141), none⟩,
            ⟨some 29, .mv (.tmp 142), none⟩])
          (.seq (.reg [⟨some 144, .load true 5 (.tmp 4), none⟩,
            ⟨some 145, .call 26 [(.tmp 144)], none⟩,
            ⟨some 143, .mv (.tmp 145), none⟩,
            ⟨some 146, .ext (.tmp 143) 0, none⟩,
            ⟨some 147, .ext (.tmp 143) 1, none⟩,
            ⟨some 148, .ext (.tmp 143) 2, none⟩,
            ⟨some 30, .newb [(.int .i64 0), .nil, .nil, .nil, (.int .i64 0)], none⟩,
            ⟨none, .store 5 (.tmp 30) (.tmp 146), none⟩,
            ⟨some 31, .mv (.tmp 147), none⟩,
            ⟨some 32, .mv (.tmp 148), none⟩])
          (.seq (.drw [⟨some 149, .load true 5 (.tmp 27), none⟩,
            ⟨some 150, .load true 5 (.tmp 30), none⟩,
            ⟨some 151, .mv (.tmp 28), none⟩,
            ⟨some 152, .b2s (.tmp 151), none⟩,
            ⟨some 153, .mv (.tmp 31), none⟩,
            ⟨some 154, .binT .eql (.tmp 152) (.tmp 153), none⟩,
            ⟨some 155, .mv (.tmp 154), none⟩,
            ⟨some 156, .mv (.tmp 29), some (155, true)⟩,
            ⟨some 157, .mv (.tmp 32), some (155, true)⟩,
            ⟨some 158, .bin .eql (.tmp 156) (.tmp 157), some (155, true)⟩,
            ⟨some 159, .pick (.tmp 155) (.tmp 158) (.cst (.bool false)), none⟩,
            ⟨none, .store 5 (.tmp 6) (.tmp 149), none⟩,
            ⟨none, .store 5 (.tmp 7) (.tmp 150), none⟩,
            ⟨some 8, .mv (.tmp 159), none⟩] [[], [], [], [], [], [], [], [], [], [], [], [1], [], []])
          .ret)))
          .skip))))))))))
  (.seq (.reg [⟨some 161, .load true 5 (.tmp 3), none⟩,
    ⟨some 162, .call 14 [(.tmp 161)], none⟩,
    ⟨some 160, .mv (.tmp 162), none⟩,
    ⟨some 163, .ext (.tmp 160) 0, none⟩,
    ⟨some 164, .ext (.tmp 160) 1, none⟩,
    ⟨some 33, .newb [.nil, (.int .u16 0), (.int .u16 0), (.int .u16 0), (.int .u16 0)], none⟩,
    ⟨none, .store 5 (.tmp 33) (.tmp 163), none⟩,
    ⟨some 34, .mv (.tmp 164), none⟩])
  (.seq (.reg [⟨some 166, .load true 5 (.tmp 4), none⟩,
    ⟨some 167, .call 27 [(.tmp 166)], none⟩,
    ⟨some 165, .mv (.tmp 167), none⟩,
    ⟨some 168, .ext (.tmp 165) 0, none⟩,
    ⟨some 169, .ext (.tmp 165) 1, none⟩,
    ⟨some 35, .newb [(.int .i64 0), .nil, .nil, .nil, (.int .i64 0)], none⟩,
    ⟨none, .store 5 (.tmp 35) (.tmp 168), none⟩,
    ⟨some 36, .mv (.tmp 169), none⟩])
  (.seq (.seq (.reg [⟨some 170, .mv (.tmp 34), none⟩,
    ⟨some 171, .lenV (.tmp 170), none⟩,
    ⟨some 172, .mv (.tmp 36), none⟩,
    ⟨some 173, .lenV (.tmp 172), none⟩,
    ⟨some 174, .bin .neq (.tmp 171) (.tmp 173), none⟩])
  (.cond (.tmp 174)
    (.seq (.drw [⟨some 175, .load true 5 (.tmp 33), none⟩,
      ⟨some 176, .load true 5 (.tmp 35), none⟩,
      ⟨none, .store 5 (.tmp 6) (.tmp 175), none⟩,
      ⟨none, .store 5 (.tmp 7) (.tmp 176), none⟩,
      ⟨some 8, .mv (.cst (.bool false)), none⟩] [[], [], [1], [], []])
    .ret)
    .skip))
  (.seq (.seq (.reg [⟨some 177, .mv (.tmp 34), none⟩,
    ⟨some 178, .lenV (.tmp 177), none⟩,
    ⟨some 179, .mv (.cst (.int .i64 0)), none⟩])
  (.block 5 (.loop
    (.seq (.reg [⟨some 180, .bin .lss (.tmp 179) (.tmp 178), none⟩])
    (.seq (.cond (.tmp 180)
      .skip
      (.exit 5))
    (.seq (.block 6 (.seq (.reg [⟨some 181, .mv (.tmp 179), none⟩,
      ⟨some 37, .mv (.tmp 181), none⟩])
    (.seq (.reg [⟨some 182, .mv (.tmp 34), none⟩,
      ⟨some 183, .mv (.tmp 37), none⟩,
      ⟨some 184, .iadS 1 (.tmp 182) (.tmp 183), none⟩,
      ⟨some 185, .load false 1 (.tmp 184), none⟩,
      ⟨some 186, .b2s (.tmp 185), none⟩,
      ⟨some 187, .mv (.tmp 36), none⟩,
      ⟨some 188, .mv (.tmp 37), none⟩,
      ⟨some 189, .iadS 1 (.tmp 187) (.tmp 188), none⟩,
      ⟨some 190, .load false 1 (.tmp 189), none⟩,
      ⟨some 191, .binT .neq (.tmp 186) (.tmp 190), none⟩])
    (.cond (.tmp 191)
      (.seq (.drw [⟨some 192, .load true 5 (.tmp 33), none⟩,
        ⟨some 193, .load true 5 (.tmp 35), none⟩,
        ⟨none, .store 5 (.tmp 6) (.tmp 192), none⟩,
        ⟨none, .store 5 (.tmp 7) (.tmp 193), none⟩,
        ⟨some 8, .mv (.cst (.bool false)), none⟩] [[], [], [1], [], []])
      .ret)
      .skip))))
    (.reg [⟨some 194, .bin .add (.tmp 179) (.cst (.int .i64 1)), none⟩,
      ⟨some 179, .mv (.tmp 194), none⟩])))))))
  (.seq (.drw [⟨some 195, .load true 5 (.tmp 33), none⟩,
    ⟨some 196, .load true 5 (.tmp 35), none⟩,
    ⟨none, .store 5 (.tmp 6) (.tmp 195), none⟩,
    ⟨none, .store 5 (.tmp 7) (.tmp 196), none⟩,
    ⟨some 8, .mv (.cst (.bool true)), none⟩] [[], [], [1], [], []])
  .ret)))))))
theorem p_caravellaw11_step : Try.f15.body.bind (compC Try.prog 197) = some c_caravellaw11_step := by kernel_rfl
theorem r_caravellaw11_step : tellR Try.prog Try.f15.results.toList = some [.c 6 true 5, .c 7 true 5, .t 8] := by kernel_rfl

/-- caravel/caravelref11.Like: 2 in. -/
def c_caravelref11_Like : ACode :=
  (.seq (.reg [⟨some 2, .box (.tmp 0), none⟩,
    ⟨some 3, .box (.tmp 1), none⟩,
    ⟨some 4, .mv (.cst (.bool false)), none⟩])
  (.seq (.reg [⟨some 11, .fadr 4 (.tmp 2), none⟩,
    ⟨some 12, .load false 1 (.tmp 11), none⟩,
    ⟨some 5, .mv (.tmp 12), none⟩])
  (.seq (.seq (.reg [⟨some 13, .fadr 0 (.tmp 3), none⟩,
    ⟨some 14, .load false 1 (.tmp 13), none⟩,
    ⟨some 15, .lenV (.tmp 14), none⟩,
    ⟨some 16, .fadr 0 (.tmp 2), none⟩,
    ⟨some 17, .load false 1 (.tmp 16), none⟩,
    ⟨some 18, .bin .neq (.tmp 15) (.tmp 17), none⟩,
    ⟨some 19, .mv (.tmp 18), none⟩,
    ⟨some 20, .fadr 1 (.tmp 3), some (19, false)⟩,
    ⟨some 21, .load false 1 (.tmp 20), some (19, false)⟩,
    ⟨some 22, .conv .i64 (.tmp 21), some (19, false)⟩,
    ⟨some 23, .mv (.tmp 5), some (19, false)⟩,
    ⟨some 24, .bin .neq (.tmp 22) (.tmp 23), some (19, false)⟩,
    ⟨some 25, .pick (.tmp 19) (.cst (.bool true)) (.tmp 24), none⟩])
  (.cond (.tmp 25)
    (.seq (.reg [⟨some 4, .mv (.cst (.bool false)), none⟩])
    .ret)
    .skip))
  (.seq (.reg [⟨some 26, .bsl 1 [], none⟩,
    ⟨some 27, .fadr 3 (.tmp 2), none⟩,
    ⟨some 28, .load false 1 (.tmp 27), none⟩,
    ⟨some 29, .app 1 16 (.tmp 26) (.tmp 28), none⟩,
    ⟨some 6, .mv (.tmp 29), none⟩])
  (.seq (.reg [⟨some 30, .mv (.tmp 6), none⟩,
    ⟨some 31, .fadr 2 (.tmp 2), none⟩,
    ⟨some 32, .load false 1 (.tmp 31), none⟩,
    ⟨some 33, .app 1 16 (.tmp 30) (.tmp 32), none⟩,
    ⟨some 6, .mv (.tmp 33), none⟩])
  (.seq (.reg [⟨some 34, .mv (.tmp 6), none⟩,
    ⟨some 35, .fadr 1 (.tmp 2), none⟩,
    ⟨some 36, .load false 1 (.tmp 35), none⟩,
    ⟨some 37, .app 1 16 (.tmp 34) (.tmp 36), none⟩,
    ⟨some 6, .mv (.tmp 37), none⟩])
  (.seq (.reg [⟨some 38, .mv (.tmp 5), none⟩,
    ⟨some 39, .mv (.tmp 6), none⟩,
    ⟨some 40, .lenV (.tmp 39), none⟩,
    ⟨some 41, .bin .sub (.tmp 38) (.tmp 40), none⟩,
    ⟨some 42, .bin .add (.tmp 41) (.cst (.int .i64 65536)), none⟩,
    ⟨some 43, .bin .rem (.tmp 42) (.cst (.int .i64 65536)), none⟩,
    ⟨some 7, .mv (.tmp 43), none⟩])
  (.seq (.seq (.reg [⟨some 44, .fadr 4 (.tmp 3), none⟩,
    ⟨some 45, .load false 1 (.tmp 44), none⟩,
    ⟨some 46, .conv .i64 (.tmp 45), none⟩,
    ⟨some 47, .mv (.tmp 7), none⟩,
    ⟨some 48, .bin .neq (.tmp 46) (.tmp 47), none⟩,
    ⟨some 49, .mv (.tmp 48), none⟩,
    ⟨some 50, .fadr 3 (.tmp 3), some (49, false)⟩,
    ⟨some 51, .load false 1 (.tmp 50), some (49, false)⟩,
    ⟨some 52, .conv .i64 (.tmp 51), some (49, false)⟩,
    ⟨some 53, .mv (.tmp 7), some (49, false)⟩,
    ⟨some 54, .fadr 3 (.tmp 2), some (49, false)⟩,
    ⟨some 55, .load false 1 (.tmp 54), some (49, false)⟩,
    ⟨some 56, .lenV (.tmp 55), some (49, false)⟩,
    ⟨some 57, .bin .add (.tmp 53) (.tmp 56), some (49, false)⟩,
    ⟨some 58, .bin .rem (.tmp 57) (.cst (.int .i64 65536)), some (49, false)⟩,
    ⟨some 59, .bin .neq (.tmp 52) (.tmp 58), some (49, false)⟩,
    ⟨some 60, .pick (.tmp 49) (.cst (.bool true)) (.tmp 59), none⟩,
    ⟨some 61, .mv (.tmp 60), none⟩,
    ⟨some 62, .fadr 2 (.tmp 3), some (61, false)⟩,
    ⟨some 63, .load false 1 (.tmp 62), some (61, false)⟩,
    ⟨some 64, .conv .i64 (.tmp 63), some (61, false)⟩,
    ⟨some 65, .mv (.tmp 7), some (61, false)⟩,
    ⟨some 66, .fadr 3 (.tmp 2), some (61, false)⟩,
    ⟨some 67, .load false 1 (.tmp 66), some (61, false)⟩,
    ⟨some 68, .lenV (.tmp 67), some (61, false)⟩,
    ⟨some 69, .bin .add (.tmp 65) (.tmp 68), some (61, false)⟩,
    ⟨some 70, .fadr 2 (.tmp 2), some (61, false)⟩,
    ⟨some 71, .load false 1 (.tmp 70), some (61, false)⟩,
    ⟨some 72, .lenV (.tmp 71), some (61, false)⟩,
    ⟨some 73, .bin .add (.tmp 69) (.tmp 72), some (61, false)⟩,
    ⟨some 74, .bin .rem (.tmp 73) (.cst (.int .i64 65536)), some (61, false)⟩,
    ⟨some 75, .bin .neq (.tmp 64) (.tmp 74), some (61, false)⟩,
    ⟨some 76, .pick (.tmp 61) (.cst (.bool true)) (.tmp 75), none⟩])
  (.cond (.tmp 76)
    (.seq (.reg [⟨some 4, .mv (.cst (.bool false)), none⟩])
    .ret)
    .skip))
  (.seq (.reg [⟨some 8, .mv (.cst (.int .i64 0)), none⟩])
  (.seq (.seq (.reg [⟨some 9, .mv (.cst (.int .i64 0)), none⟩])
  (.block 0 (.loop
    (.seq (.seq (.reg [⟨some 77, .mv (.tmp 9), none⟩,
      ⟨some 78, .mv (.tmp 6), none⟩,
      ⟨some 79, .lenV (.tmp 78), none⟩,
      ⟨some 80, .bin .lss (.tmp 77) (.tmp 79), none⟩])
    (.cond (.tmp 80)
      .skip
      (.exit 0)))
    (.seq (.block 1 (.seq (.seq (.reg [⟨some 83, .fadr 0 (.tmp 3), none⟩,
      ⟨some 84, .load false 1 (.tmp 83), none⟩,
      ⟨some 85, .mv (.tmp 7), none⟩,
      ⟨some 86, .mv (.tmp 9), none⟩,
      ⟨some 87, .bin .add (.tmp 85) (.tmp 86), none⟩,
      ⟨some 88, .bin .rem (.tmp 87) (.cst (.int .i64 65536)), none⟩,
      ⟨some 89, .fadr 0 (.tmp 2), none⟩,
      ⟨some 90, .load false 1 (.tmp 89), none⟩,
      ⟨some 91, .bin .rem (.tmp 88) (.tmp 90), none⟩,
      ⟨some 92, .iadS 1 (.tmp 84) (.tmp 91), none⟩,
      ⟨some 93, .load false 1 (.tmp 92), none⟩,
      ⟨some 94, .b2s (.tmp 93), none⟩,
      ⟨some 95, .mv (.tmp 6), none⟩,
      ⟨some 96, .mv (.tmp 9), none⟩,
      ⟨some 97, .iadS 1 (.tmp 95) (.tmp 96), none⟩,
      ⟨some 98, .load false 1 (.tmp 97), none⟩,
      ⟨some 99, .binT .neq (.tmp 94) (.tmp 98), none⟩])
    (.cond (.tmp 99)
      (.seq (.reg [⟨some 4, .mv (.cst (.bool false)), none⟩])
      .ret)
      .skip))
    (.reg [⟨some 100, .mv (.tmp 8), none⟩,
      ⟨some 101, .bin .add (.tmp 100) (.cst (.int .i64 1)), none⟩,
      ⟨some 8, .mv (.tmp 101), none⟩])))
    (.reg [⟨some 81, .mv (.tmp 9), none⟩,
      ⟨some 82, .bin .add (.tmp 81) (.cst (.int .i64 1)), none⟩,
      ⟨some 9, .mv (.tmp 82), none⟩]))))))
  (.seq (.seq (.reg [⟨some 10, .mv (.cst (.int .i64 0)), none⟩])
  (.block 2 (.loop
    (.seq (.seq (.reg [⟨some 102, .mv (.tmp 10), none⟩,
      ⟨some 103, .fadr 0 (.tmp 2), none⟩,
      ⟨some 104, .load false 1 (.tmp 103), none⟩,
      ⟨some 105, .mv (.tmp 8), none⟩,
      ⟨some 106, .bin .sub (.tmp 104) (.tmp 105), none⟩,
      ⟨some 107, .bin .lss (.tmp 102) (.tmp 106), none⟩])
    (.cond (.tmp 107)
      .skip
      (.exit 2)))
    (.seq (.block 3 (.seq (.reg [⟨some 110, .fadr 0 (.tmp 3), none⟩,
      ⟨some 111, .load false 1 (.tmp 110), none⟩,
      ⟨some 112, .mv (.tmp 5), none⟩,
      ⟨some 113, .mv (.tmp 10), none⟩,
      ⟨some 114, .bin .add (.tmp 112) (.tmp 113), none⟩,
      ⟨some 115, .bin .rem (.tmp 114) (.cst (.int .i64 65536)), none⟩,
      ⟨some 116, .fadr 0 (.tmp 2), none⟩,
      ⟨some 117, .load false 1 (.tmp 116), none⟩,
      ⟨some 118, .bin .rem (.tmp 115) (.tmp 117), none⟩,
      ⟨some 119, .iadS 1 (.tmp 111) (.tmp 118), none⟩,
      ⟨some 120, .load false 1 (.tmp 119), none⟩,
      ⟨some 121, .lenV (.tmp 120), none⟩,
      ⟨some 122, .bin .neq (.tmp 121) (.cst (.int .i64 0)), none⟩])
    (.cond (.tmp 122)
      (.seq (.reg [⟨some 4, .mv (.cst (.bool false)), none⟩])
      .ret)
      .skip)))
    (.reg [⟨some 108, .mv (.tmp 10), none⟩,
      ⟨some 109, .bin .add (.tmp 108) (.cst (.int .i64 1)), none⟩,
      ⟨some 10, .mv (.tmp 109), none⟩]))))))
  (.seq (.reg [⟨some 4, .mv (.cst (.bool true)), none⟩])
  .ret))))))))))))
theorem p_caravelref11_Like : Try.f16.body.bind (compC Try.prog 123) = some c_caravelref11_Like := by kernel_rfl
theorem r_caravelref11_Like : tellR Try.prog Try.f16.results.toList = some [.t 4] := by kernel_rfl

/-- caravel/ring.Right: 1 in. -/
def c_ring_Right : ACode :=
  (.seq (.reg [⟨some 1, .box (.tmp 0), none⟩,
    ⟨some 2, .mv (.cst (.bool false)), none⟩])
  (.seq (.reg [⟨some 7, .fadr 0 (.tmp 1), none⟩,
    ⟨some 8, .load false 1 (.tmp 7), none⟩,
    ⟨some 9, .lenV (.tmp 8), none⟩,
    ⟨some 3, .mv (.tmp 9), none⟩])
  (.seq (.seq (.reg [⟨some 10, .mv (.tmp 3), none⟩,
    ⟨some 11, .bin .lss (.tmp 10) (.cst (.int .i64 1)), none⟩,
    ⟨some 12, .mv (.tmp 11), none⟩,
    ⟨some 13, .mv (.tmp 3), some (12, false)⟩,
    ⟨some 14, .bin .gtr (.tmp 13) (.cst (.int .i64 16)), some (12, false)⟩,
    ⟨some 15, .pick (.tmp 12) (.cst (.bool true)) (.tmp 14), none⟩,
    ⟨some 16, .mv (.tmp 15), none⟩,
    ⟨some 17, .mv (.tmp 3), some (16, false)⟩,
    ⟨some 18, .bin .rem (.cst (.int .i64 65536)) (.tmp 17), some (16, false)⟩,
    ⟨some 19, .bin .neq (.tmp 18) (.cst (.int .i64 0)), some (16, false)⟩,
    ⟨some 20, .pick (.tmp 16) (.cst (.bool true)) (.tmp 19), none⟩])
  (.cond (.tmp 20)
    (.seq (.reg [⟨some 2, .mv (.cst (.bool false)), none⟩])
    .ret)
    .skip))
  (.seq (.reg [⟨some 21, .fadr 1 (.tmp 1), none⟩,
    ⟨some 22, .load false 1 (.tmp 21), none⟩,
    ⟨some 23, .fadr 2 (.tmp 1), none⟩,
    ⟨some 24, .load false 1 (.tmp 23), none⟩,
    ⟨some 25, .bin .sub (.tmp 22) (.tmp 24), none⟩,
    ⟨some 26, .fadr 2 (.tmp 1), none⟩,
    ⟨some 27, .load false 1 (.tmp 26), none⟩,
    ⟨some 28, .fadr 3 (.tmp 1), none⟩,
    ⟨some 29, .load false 1 (.tmp 28), none⟩,
    ⟨some 30, .bin .sub (.tmp 27) (.tmp 29), none⟩,
    ⟨some 31, .fadr 3 (.tmp 1), none⟩,
    ⟨some 32, .load false 1 (.tmp 31), none⟩,
    ⟨some 33, .fadr 4 (.tmp 1), none⟩,
    ⟨some 34, .load false 1 (.tmp 33), none⟩,
    ⟨some 35, .bin .sub (.tmp 32) (.tmp 34), none⟩,
    ⟨some 4, .mv (.tmp 25), none⟩,
    ⟨some 5, .mv (.tmp 30), none⟩,
    ⟨some 6, .mv (.tmp 35), none⟩])
  (.seq (.reg [⟨some 36, .mv (.tmp 4), none⟩,
    ⟨some 37, .conv .i64 (.tmp 36), none⟩,
    ⟨some 38, .mv (.tmp 5), none⟩,
    ⟨some 39, .conv .i64 (.tmp 38), none⟩,
    ⟨some 40, .bin .add (.tmp 37) (.tmp 39), none⟩,
    ⟨some 41, .mv (.tmp 6), none⟩,
    ⟨some 42, .conv .i64 (.tmp 41), none⟩,
    ⟨some 43, .bin .add (.tmp 40) (.tmp 42), none⟩,
    ⟨some 44, .mv (.tmp 3), none⟩,
    ⟨some 45, .bin .leq (.tmp 43) (.tmp 44), none⟩,
    ⟨some 46, .mv (.tmp 45), none⟩,
    ⟨some 47, .fadr 1 (.tmp 1), some (46, true)⟩,
    ⟨some 48, .load false 1 (.tmp 47), some (46, true)⟩,
    ⟨some 49, .fadr 4 (.tmp 1), some (46, true)⟩,
    ⟨some 50, .load false 1 (.tmp 49), some (46, true)⟩,
    ⟨some 51, .bin .sub (.tmp 48) (.tmp 50), some (46, true)⟩,
    ⟨some 52, .conv .i64 (.tmp 51), some (46, true)⟩,
    ⟨some 53, .mv (.tmp 4), some (46, true)⟩,
    ⟨some 54, .conv .i64 (.tmp 53), some (46, true)⟩,
    ⟨some 55, .mv (.tmp 5), some (46, true)⟩,
    ⟨some 56, .conv .i64 (.tmp 55), some (46, true)⟩,
    ⟨some 57, .bin .add (.tmp 54) (.tmp 56), some (46, true)⟩,
    ⟨some 58, .mv (.tmp 6), some (46, true)⟩,
    ⟨some 59, .conv .i64 (.tmp 58), some (46, true)⟩,
    ⟨some 60, .bin .add (.tmp 57) (.tmp 59), some (46, true)⟩,
    ⟨some 61, .bin .eql (.tmp 52) (.tmp 60), some (46, true)⟩,
    ⟨some 62, .pick (.tmp 46) (.tmp 61) (.cst (.bool false)), none⟩,
    ⟨some 2, .mv (.tmp 62), none⟩])
  .ret)))))
theorem p_ring_Right : Try.f17.body.bind (compC Try.prog 63) = some c_ring_Right := by kernel_rfl
theorem r_ring_Right : tellR Try.prog Try.f17.results.toList = some [.t 2] := by kernel_rfl

/-- caravel/caravelref11.Len: 1 in. -/
def c_caravelref11_Len : ACode :=
  (.seq (.reg [⟨some 1, .box (.tmp 0), none⟩,
    ⟨some 2, .mv (.cst (.int .i64 0)), none⟩])
  (.seq (.reg [⟨some 3, .fadr 1 (.tmp 1), none⟩,
    ⟨some 4, .load false 1 (.tmp 3), none⟩,
    ⟨some 5, .lenV (.tmp 4), none⟩,
    ⟨some 6, .fadr 2 (.tmp 1), none⟩,
    ⟨some 7, .load false 1 (.tmp 6), none⟩,
    ⟨some 8, .lenV (.tmp 7), none⟩,
    ⟨some 9, .bin .add (.tmp 5) (.tmp 8), none⟩,
    ⟨some 10, .fadr 3 (.tmp 1), none⟩,
    ⟨some 11, .load false 1 (.tmp 10), none⟩,
    ⟨some 12, .lenV (.tmp 11), none⟩,
    ⟨some 13, .bin .add (.tmp 9) (.tmp 12), none⟩,
    ⟨some 2, .mv (.tmp 13), none⟩])
  .ret))
theorem p_caravelref11_Len : Try.f18.body.bind (compC Try.prog 14) = some c_caravelref11_Len := by kernel_rfl
theorem r_caravelref11_Len : tellR Try.prog Try.f18.results.toList = some [.t 2] := by kernel_rfl

/-- caravel/ring.Clone: 1 in. -/
def c_ring_Clone : ACode :=
  (.seq (.reg [⟨some 1, .box (.tmp 0), none⟩,
    ⟨some 2, .newb [.nil, (.int .u16 0), (.int .u16 0), (.int .u16 0), (.int .u16 0)], none⟩])
  (.seq (.reg [⟨some 6, .load true 5 (.tmp 1), none⟩,
    ⟨some 3, .newb [.nil, (.int .u16 0), (.int .u16 0), (.int .u16 0), (.int .u16 0)], none⟩,
    ⟨none, .store 5 (.tmp 3) (.tmp 6), none⟩])
  (.seq (.reg [⟨some 7, .fadr 0 (.tmp 3), none⟩,
    ⟨none, .store 1 (.tmp 7) (.cst .nil), none⟩])
  (.seq (.seq (.reg [⟨some 8, .fadr 0 (.tmp 1), none⟩,
    ⟨some 9, .load false 1 (.tmp 8), none⟩,
    ⟨some 10, .lenV (.tmp 9), none⟩,
    ⟨some 11, .mv (.cst (.int .i64 0)), none⟩])
  (.block 0 (.loop
    (.seq (.reg [⟨some 12, .bin .lss (.tmp 11) (.tmp 10), none⟩])
    (.seq (.cond (.tmp 12)
      .skip
      (.exit 0))
    (.seq (.block 1 (.seq (.reg [⟨some 13, .iadS 1 (.tmp 9) (.tmp 11), none⟩,
      ⟨some 14, .load false 1 (.tmp 13), none⟩,
      ⟨some 5, .mv (.tmp 14), none⟩])
    (.drw [⟨some 15, .fadr 0 (.tmp 3), none⟩,
      ⟨some 16, .load false 1 (.tmp 15), none⟩,
      ⟨some 17, .mv (.tmp 5), none⟩,
      ⟨some 18, .call 22 [(.tmp 17)], none⟩,
      ⟨some 19, .bsl 1 [(.tmp 18)], none⟩,
      ⟨some 20, .app 1 24 (.tmp 16) (.tmp 19), none⟩,
      ⟨some 21, .fadr 0 (.tmp 3), none⟩,
      ⟨none, .store 1 (.tmp 21) (.tmp 20), none⟩] [[], [], [], [], [1], [], [], []])))
    (.reg [⟨some 22, .bin .add (.tmp 11) (.cst (.int .i64 1)), none⟩,
      ⟨some 11, .mv (.tmp 22), none⟩])))))))
  (.seq (.reg [⟨some 23, .load true 5 (.tmp 3), none⟩,
    ⟨none, .store 5 (.tmp 2) (.tmp 23), none⟩])
  .ret)))))
theorem p_ring_Clone : Try.f19.body.bind (compC Try.prog 24) = some c_ring_Clone := by kernel_rfl
theorem r_ring_Clone : tellR Try.prog Try.f19.results.toList = some [.c 2 true 5] := by kernel_rfl

/-- caravel/ring.New: 1 in. -/
def c_ring_New : ACode :=
  (.seq (.reg [⟨some 2, .newb [.nil, (.int .u16 0), (.int .u16 0), (.int .u16 0), (.int .u16 0)], none⟩,
    ⟨some 3, .mv (.cst (.int .i64 0)), none⟩])
  (.seq (.seq (.reg [⟨some 4, .mv (.tmp 0), none⟩,
    ⟨some 5, .bin .lss (.tmp 4) (.cst (.int .i64 1)), none⟩,
    ⟨some 6, .mv (.tmp 5), none⟩,
    ⟨some 7, .mv (.tmp 0), some (6, false)⟩,
    ⟨some 8, .bin .gtr (.tmp 7) (.cst (.int .i64 16)), some (6, false)⟩,
    ⟨some 9, .pick (.tmp 6) (.cst (.bool true)) (.tmp 8), none⟩,
    ⟨some 10, .mv (.tmp 9), none⟩,
    ⟨some 11, .mv (.tmp 0), some (10, false)⟩,
    ⟨some 12, .bin .rem (.cst (.int .i64 65536)) (.tmp 11), some (10, false)⟩,
    ⟨some 13, .bin .neq (.tmp 12) (.cst (.int .i64 0)), some (10, false)⟩,
    ⟨some 14, .pick (.tmp 10) (.cst (.bool true)) (.tmp 13), none⟩])
  (.cond (.tmp 14)
    (.seq (.reg [⟨some 15, .build [.nil, (.int .u16 0), (.int .u16 0), (.int .u16 0), (.int .u16 0)] [], none⟩,
      ⟨none, .store 5 (.tmp 2) (.tmp 15), none⟩,
      ⟨some 3, .mv (.cst (.int .i64 1)), none⟩])
    .ret)
    .skip))
  (.seq (.reg [⟨some 16, .mv (.tmp 0), none⟩,
    ⟨some 17, .mks 1 24 .nil (.tmp 16) (.tmp 16), none⟩,
    ⟨some 18, .build [.nil, (.int .u16 0), (.int .u16 0), (.int .u16 0), (.int .u16 0)] [(0, 1, (.tmp 17))], none⟩,
    ⟨none, .store 5 (.tmp 2) (.tmp 18), none⟩,
    ⟨some 3, .mv (.cst (.int .i64 0)), none⟩])
  .ret)))
theorem p_ring_New : Try.f20.body.bind (compC Try.prog 19) = some c_ring_New := by kernel_rfl
theorem r_ring_New : tellR Try.prog Try.f20.results.toList = some [.c 2 true 5, .t 3] := by kernel_rfl

/-- caravel/ring.at: 2 in. -/
def c_ring_at : ACode :=
  (.seq (.reg [⟨some 2, .box (.tmp 0), none⟩,
    ⟨some 4, .mv (.cst (.int .i64 0)), none⟩])
  (.seq (.reg [⟨some 5, .mv (.tmp 1), none⟩,
    ⟨some 6, .conv .i64 (.tmp 5), none⟩,
    ⟨some 7, .fadr 0 (.tmp 2), none⟩,
    ⟨some 8, .load false 1 (.tmp 7), none⟩,
    ⟨some 9, .lenV (.tmp 8), none⟩,
    ⟨some 10, .bin .rem (.tmp 6) (.tmp 9), none⟩,
    ⟨some 4, .mv (.tmp 10), none⟩])
  .ret))
theorem p_ring_at : Try.f21.body.bind (compC Try.prog 11) = some c_ring_at := by kernel_rfl
theorem r_ring_at : tellR Try.prog Try.f21.results.toList = some [.t 4] := by kernel_rfl

/-- slices.Clone[[]byte,byte]: 1 in. -/
def c_slices_Clone__byte_byte : ACode :=
  (.seq (.reg [⟨some 2, .mv (.cst .nil), none⟩])
  (.seq (.seq (.reg [⟨some 3, .mv (.tmp 0), none⟩,
    ⟨some 4, .isN false (.tmp 3), none⟩])
  (.cond (.tmp 4)
    (.seq (.reg [⟨some 2, .mv (.cst .nil), none⟩])
    .ret)
    .skip))
  (.seq (.reg [⟨some 5, .bsl 1 [], none⟩,
    ⟨some 6, .mv (.tmp 0), none⟩,
    ⟨some 7, .app 1 1 (.tmp 5) (.tmp 6), none⟩,
    ⟨some 2, .mv (.tmp 7), none⟩])
  .ret)))
theorem p_slices_Clone__byte_byte : Try.f22.body.bind (compC Try.prog 8) = some c_slices_Clone__byte_byte := by kernel_rfl
theorem r_slices_Clone__byte_byte : tellR Try.prog Try.f22.results.toList = some [.t 2] := by kernel_rfl

/-- caravel/caravelref11.Post: 2 in. -/
def c_caravelref11_Post : ACode :=
  (.seq (.reg [⟨some 2, .box (.tmp 0), none⟩,
    ⟨some 4, .newb [(.int .i64 0), .nil, .nil, .nil, (.int .i64 0)], none⟩,
    ⟨some 5, .mv (.cst (.int .i64 0)), none⟩])
  (.seq (.seq (.reg [⟨some 6, .mv (.tmp 1), none⟩,
    ⟨some 7, .lenT (.tmp 6), none⟩,
    ⟨some 8, .bin .gtr (.tmp 7) (.cst (.int .i64 214)), none⟩])
  (.cond (.tmp 8)
    (.seq (.reg [⟨some 9, .load true 5 (.tmp 2), none⟩,
      ⟨none, .store 5 (.tmp 4) (.tmp 9), none⟩,
      ⟨some 5, .mv (.cst (.int .i64 4)), none⟩])
    .ret)
    .skip))
  (.seq (.seq (.reg [⟨some 10, .load true 5 (.tmp 2), none⟩,
    ⟨some 11, .call 18 [(.tmp 10)], none⟩,
    ⟨some 12, .fadr 0 (.tmp 2), none⟩,
    ⟨some 13, .load false 1 (.tmp 12), none⟩,
    ⟨some 14, .bin .geq (.tmp 11) (.tmp 13), none⟩])
  (.cond (.tmp 14)
    (.seq (.reg [⟨some 15, .load true 5 (.tmp 2), none⟩,
      ⟨none, .store 5 (.tmp 4) (.tmp 15), none⟩,
      ⟨some 5, .mv (.cst (.int .i64 5)), none⟩])
    .ret)
    .skip))
  (.seq (.reg [⟨some 16, .fadr 1 (.tmp 2), none⟩,
    ⟨some 17, .load false 1 (.tmp 16), none⟩,
    ⟨some 18, .mv (.tmp 1), none⟩,
    ⟨some 19, .call 28 [(.tmp 17), (.tmp 18)], none⟩,
    ⟨some 20, .fadr 1 (.tmp 2), none⟩,
    ⟨none, .store 1 (.tmp 20) (.tmp 19), none⟩])
  (.seq (.reg [⟨some 21, .fadr 4 (.tmp 2), none⟩,
    ⟨some 22, .load false 1 (.tmp 21), none⟩,
    ⟨some 23, .bin .add (.tmp 22) (.cst (.int .i64 1)), none⟩,
    ⟨some 24, .bin .rem (.tmp 23) (.cst (.int .i64 65536)), none⟩,
    ⟨some 25, .fadr 4 (.tmp 2), none⟩,
    ⟨none, .store 1 (.tmp 25) (.tmp 24), none⟩])
  (.seq (.reg [⟨some 26, .load true 5 (.tmp 2), none⟩,
    ⟨none, .store 5 (.tmp 4) (.tmp 26), none⟩,
    ⟨some 5, .mv (.cst (.int .i64 0)), none⟩])
  .ret))))))
theorem p_caravelref11_Post : Try.f23.body.bind (compC Try.prog 27) = some c_caravelref11_Post := by kernel_rfl
theorem r_caravelref11_Post : tellR Try.prog Try.f23.results.toList = some [.c 4 true 5, .t 5] := by kernel_rfl

/-- caravel/caravelref11.Take: 1 in. -/
def c_caravelref11_Take : ACode :=
  (.seq (.reg [⟨some 1, .box (.tmp 0), none⟩,
    ⟨some 2, .newb [(.int .i64 0), .nil, .nil, .nil, (.int .i64 0)], none⟩,
    ⟨some 3, .mv (.cst (.str [])), none⟩,
    ⟨some 4, .mv (.cst (.int .i64 0)), none⟩])
  (.seq (.seq (.reg [⟨some 6, .fadr 1 (.tmp 1), none⟩,
    ⟨some 7, .load false 1 (.tmp 6), none⟩,
    ⟨some 8, .lenV (.tmp 7), none⟩,
    ⟨some 9, .bin .eql (.tmp 8) (.cst (.int .i64 0)), none⟩])
  (.cond (.tmp 9)
    (.seq (.reg [⟨some 10, .load true 5 (.tmp 1), none⟩,
      ⟨none, .store 5 (.tmp 2) (.tmp 10), none⟩,
      ⟨some 3, .mv (.cst (.str [])), none⟩,
      ⟨some 4, .mv (.cst (.int .i64 2)), none⟩])
    .ret)
    .skip))
  (.seq (.reg [⟨some 11, .fadr 1 (.tmp 1), none⟩,
    ⟨some 12, .load false 1 (.tmp 11), none⟩,
    ⟨some 13, .iadS 1 (.tmp 12) (.cst (.int .i64 0)), none⟩,
    ⟨some 14, .load false 1 (.tmp 13), none⟩,
    ⟨some 5, .mv (.tmp 14), none⟩])
  (.seq (.reg [⟨some 15, .fadr 1 (.tmp 1), none⟩,
    ⟨some 16, .load false 1 (.tmp 15), none⟩,
    ⟨some 17, .slS 1 (.tmp 16) (some (.cst (.int .i64 1))) none none, none⟩,
    ⟨some 18, .fadr 2 (.tmp 1), none⟩,
    ⟨some 19, .load false 1 (.tmp 18), none⟩,
    ⟨some 20, .mv (.tmp 5), none⟩,
    ⟨some 21, .call 28 [(.tmp 19), (.tmp 20)], none⟩,
    ⟨some 22, .fadr 1 (.tmp 1), none⟩,
    ⟨none, .store 1 (.tmp 22) (.tmp 17), none⟩,
    ⟨some 23, .fadr 2 (.tmp 1), none⟩,
    ⟨none, .store 1 (.tmp 23) (.tmp 21), none⟩])
  (.seq (.reg [⟨some 24, .load true 5 (.tmp 1), none⟩,
    ⟨some 25, .mv (.tmp 5), none⟩,
    ⟨none, .store 5 (.tmp 2) (.tmp 24), none⟩,
    ⟨some 3, .mv (.tmp 25), none⟩,
    ⟨some 4, .mv (.cst (.int .i64 0)), none⟩])
  .ret)))))
theorem p_caravelref11_Take : Try.f24.body.bind (compC Try.prog 26) = some c_caravelref11_Take := by kernel_rfl
theorem r_caravelref11_Take : tellR Try.prog Try.f24.results.toList = some [.c 2 true 5, .t 3, .t 4] := by kernel_rfl

/-- caravel/caravelref11.Finish: 1 in. -/
def c_caravelref11_Finish : ACode :=
  (.seq (.reg [⟨some 1, .box (.tmp 0), none⟩,
    ⟨some 2, .newb [(.int .i64 0), .nil, .nil, .nil, (.int .i64 0)], none⟩,
    ⟨some 3, .mv (.cst (.int .i64 0)), none⟩])
  (.seq (.seq (.reg [⟨some 4, .fadr 2 (.tmp 1), none⟩,
    ⟨some 5, .load false 1 (.tmp 4), none⟩,
    ⟨some 6, .lenV (.tmp 5), none⟩,
    ⟨some 7, .bin .eql (.tmp 6) (.cst (.int .i64 0)), none⟩])
  (.cond (.tmp 7)
    (.seq (.reg [⟨some 8, .load true 5 (.tmp 1), none⟩,
      ⟨none, .store 5 (.tmp 2) (.tmp 8), none⟩,
      ⟨some 3, .mv (.cst (.int .i64 2)), none⟩])
    .ret)
    .skip))
  (.seq (.reg [⟨some 9, .fadr 2 (.tmp 1), none⟩,
    ⟨some 10, .load false 1 (.tmp 9), none⟩,
    ⟨some 11, .slS 1 (.tmp 10) (some (.cst (.int .i64 1))) none none, none⟩,
    ⟨some 12, .fadr 3 (.tmp 1), none⟩,
    ⟨some 13, .load false 1 (.tmp 12), none⟩,
    ⟨some 14, .fadr 2 (.tmp 1), none⟩,
    ⟨some 15, .load false 1 (.tmp 14), none⟩,
    ⟨some 16, .iadS 1 (.tmp 15) (.cst (.int .i64 0)), none⟩,
    ⟨some 17, .load false 1 (.tmp 16), none⟩,
    ⟨some 18, .call 28 [(.tmp 13), (.tmp 17)], none⟩,
    ⟨some 19, .fadr 2 (.tmp 1), none⟩,
    ⟨none, .store 1 (.tmp 19) (.tmp 11), none⟩,
    ⟨some 20, .fadr 3 (.tmp 1), none⟩,
    ⟨none, .store 1 (.tmp 20) (.tmp 18), none⟩])
  (.seq (.reg [⟨some 21, .load true 5 (.tmp 1), none⟩,
    ⟨none, .store 5 (.tmp 2) (.tmp 21), none⟩,
    ⟨some 3, .mv (.cst (.int .i64 0)), none⟩])
  .ret))))
theorem p_caravelref11_Finish : Try.f25.body.bind (compC Try.prog 22) = some c_caravelref11_Finish := by kernel_rfl
theorem r_caravelref11_Finish : tellR Try.prog Try.f25.results.toList = some [.c 2 true 5, .t 3] := by kernel_rfl

/-- caravel/caravelref11.Reap: 1 in. -/
def c_caravelref11_Reap : ACode :=
  (.seq (.reg [⟨some 1, .box (.tmp 0), none⟩,
    ⟨some 2, .newb [(.int .i64 0), .nil, .nil, .nil, (.int .i64 0)], none⟩,
    ⟨some 3, .mv (.cst (.str [])), none⟩,
    ⟨some 4, .mv (.cst (.int .i64 0)), none⟩])
  (.seq (.seq (.reg [⟨some 6, .fadr 3 (.tmp 1), none⟩,
    ⟨some 7, .load false 1 (.tmp 6), none⟩,
    ⟨some 8, .lenV (.tmp 7), none⟩,
    ⟨some 9, .bin .eql (.tmp 8) (.cst (.int .i64 0)), none⟩])
  (.cond (.tmp 9)
    (.seq (.reg [⟨some 10, .load true 5 (.tmp 1), none⟩,
      ⟨none, .store 5 (.tmp 2) (.tmp 10), none⟩,
      ⟨some 3, .mv (.cst (.str [])), none⟩,
      ⟨some 4, .mv (.cst (.int .i64 2)), none⟩])
    .ret)
    .skip))
  (.seq (.reg [⟨some 11, .fadr 3 (.tmp 1), none⟩,
    ⟨some 12, .load false 1 (.tmp 11), none⟩,
    ⟨some 13, .iadS 1 (.tmp 12) (.cst (.int .i64 0)), none⟩,
    ⟨some 14, .load false 1 (.tmp 13), none⟩,
    ⟨some 5, .mv (.tmp 14), none⟩])
  (.seq (.reg [⟨some 15, .fadr 3 (.tmp 1), none⟩,
    ⟨some 16, .load false 1 (.tmp 15), none⟩,
    ⟨some 17, .slS 1 (.tmp 16) (some (.cst (.int .i64 1))) none none, none⟩,
    ⟨some 18, .fadr 3 (.tmp 1), none⟩,
    ⟨none, .store 1 (.tmp 18) (.tmp 17), none⟩])
  (.seq (.reg [⟨some 19, .load true 5 (.tmp 1), none⟩,
    ⟨some 20, .mv (.tmp 5), none⟩,
    ⟨none, .store 5 (.tmp 2) (.tmp 19), none⟩,
    ⟨some 3, .mv (.tmp 20), none⟩,
    ⟨some 4, .mv (.cst (.int .i64 0)), none⟩])
  .ret)))))
theorem p_caravelref11_Reap : Try.f26.body.bind (compC Try.prog 21) = some c_caravelref11_Reap := by kernel_rfl
theorem r_caravelref11_Reap : tellR Try.prog Try.f26.results.toList = some [.c 2 true 5, .t 3, .t 4] := by kernel_rfl

/-- caravel/caravelref11.Quiet: 1 in. -/
def c_caravelref11_Quiet : ACode :=
  (.seq (.reg [⟨some 1, .box (.tmp 0), none⟩,
    ⟨some 2, .newb [(.int .i64 0), .nil, .nil, .nil, (.int .i64 0)], none⟩,
    ⟨some 3, .mv (.cst .nil), none⟩])
  (.seq (.drw [⟨some 4, .fadr 0 (.tmp 1), none⟩,
    ⟨some 5, .load false 1 (.tmp 4), none⟩,
    ⟨some 6, .fadr 4 (.tmp 1), none⟩,
    ⟨some 7, .load false 1 (.tmp 6), none⟩,
    ⟨some 8, .build [(.int .i64 0), .nil, .nil, .nil, (.int .i64 0)] [(0, 1, (.tmp 5)), (4, 1, (.tmp 7))], none⟩,
    ⟨some 9, .fadr 1 (.tmp 1), none⟩,
    ⟨some 10, .load false 1 (.tmp 9), none⟩,
    ⟨none, .store 5 (.tmp 2) (.tmp 8), none⟩,
    ⟨some 3, .mv (.tmp 10), none⟩] [[], [], [], [], [], [], [], [6], []])
  .ret))
theorem p_caravelref11_Quiet : Try.f27.body.bind (compC Try.prog 11) = some c_caravelref11_Quiet := by kernel_rfl
theorem r_caravelref11_Quiet : tellR Try.prog Try.f27.results.toList = some [.c 2 true 5, .t 3] := by kernel_rfl

/-- caravel/caravelref11.more: 2 in. -/
def c_caravelref11_more : ACode :=
  (.seq (.reg [⟨some 4, .mv (.cst .nil), none⟩])
  (.seq (.reg [⟨some 6, .bsl 1 [], none⟩,
    ⟨some 7, .mv (.tmp 0), none⟩,
    ⟨some 8, .app 1 16 (.tmp 6) (.tmp 7), none⟩,
    ⟨some 5, .mv (.tmp 8), none⟩])
  (.seq (.reg [⟨some 9, .mv (.tmp 5), none⟩,
    ⟨some 10, .mv (.tmp 1), none⟩,
    ⟨some 11, .bsl 1 [(.tmp 10)], none⟩,
    ⟨some 12, .app 1 16 (.tmp 9) (.tmp 11), none⟩,
    ⟨some 4, .mv (.tmp 12), none⟩])
  .ret)))
theorem p_caravelref11_more : Try.f28.body.bind (compC Try.prog 13) = some c_caravelref11_more := by kernel_rfl
theorem r_caravelref11_more : tellR Try.prog Try.f28.results.toList = some [.t 4] := by kernel_rfl

end Go.Proofs.Ytlmioolkofbboaa
