/- The program's functions, told as operations on abstract values. -/
import Derived.Test.YteljhabahaimpaaAx30
import Derived.Test.YteljhabahaimpaaProg
namespace Go.Proofs.Yteljhabahaimpaa

/-- gosem.cut.init: 0 in. -/
def c_gosem_cut_init : ACode :=
  (.reg [⟨some 0, .call 1 [], none⟩])
theorem p_gosem_cut_init : Try.f2.body.bind (compC Try.prog 1) = some c_gosem_cut_init := by kernel_rfl
theorem r_gosem_cut_init : tellR Try.prog Try.f2.results.toList = some [] := by kernel_rfl

/-- caravel/caravellaw14.RouteFinds: 2 in. -/
def c_caravellaw14_RouteFinds : ACode :=
  (.seq (.reg [⟨some 3, .boxa (.tmp 1), none⟩,
    ⟨some 4, .mv (.cst (.bool false)), none⟩])
  (.seq (.seq (.reg [⟨some 14, .call 7 [], none⟩,
    ⟨some 15, .not (.tmp 14), none⟩,
    ⟨some 16, .mv (.tmp 15), none⟩,
    ⟨some 17, .mv (.tmp 0), some (16, false)⟩,
    ⟨some 18, .call 8 [(.tmp 17)], some (16, false)⟩,
    ⟨some 19, .not (.tmp 18), some (16, false)⟩,
    ⟨some 20, .pick (.tmp 16) (.cst (.bool true)) (.tmp 19), none⟩])
  (.cond (.tmp 20)
    (.seq (.reg [⟨some 21, .call 7 [], none⟩,
      ⟨some 4, .mv (.tmp 21), none⟩])
    .ret)
    .skip))
  (.seq (.reg [⟨some 23, .mv (.tmp 0), none⟩,
    ⟨some 24, .load true 4 (.tmp 3), none⟩,
    ⟨some 25, .call 9 [(.tmp 23), (.tmp 24)], none⟩,
    ⟨some 22, .mv (.tmp 25), none⟩,
    ⟨some 26, .ext (.tmp 22) 0, none⟩,
    ⟨some 27, .ext (.tmp 22) 1, none⟩,
    ⟨some 5, .newa [(.int .u8 0), (.int .u8 0), (.int .u8 0), (.int .u8 0)], none⟩,
    ⟨none, .store 4 (.tmp 5) (.tmp 26), none⟩,
    ⟨some 6, .mv (.tmp 27), none⟩])
  (.seq (.reg [⟨some 29, .mv (.tmp 0), none⟩,
    ⟨some 30, .load true 4 (.tmp 3), none⟩,
    ⟨some 31, .call 10 [(.tmp 29), (.tmp 30)], none⟩,
    ⟨some 28, .mv (.tmp 31), none⟩,
    ⟨some 32, .ext (.tmp 28) 0, none⟩,
    ⟨some 33, .ext (.tmp 28) 1, none⟩,
    ⟨some 7, .newa [(.int .u8 0), (.int .u8 0), (.int .u8 0), (.int .u8 0)], none⟩,
    ⟨none, .store 4 (.tmp 7) (.tmp 32), none⟩,
    ⟨some 8, .mv (.tmp 33), none⟩])
  (.seq (.seq (.reg [⟨some 34, .load true 4 (.tmp 5), none⟩,
    ⟨some 35, .load true 4 (.tmp 7), none⟩,
    ⟨some 36, .eqA true [0, 0, 0, 0] (.tmp 34) (.tmp 35), none⟩,
    ⟨some 37, .mv (.tmp 36), none⟩,
    ⟨some 38, .mv (.tmp 6), some (37, false)⟩,
    ⟨some 39, .mv (.tmp 8), some (37, false)⟩,
    ⟨some 40, .bin .neq (.tmp 38) (.tmp 39), some (37, false)⟩,
    ⟨some 41, .pick (.tmp 37) (.cst (.bool true)) (.tmp 40), none⟩])
  (.cond (.tmp 41)
    (.seq (.reg [⟨some 4, .mv (.cst (.bool false)), none⟩])
    .ret)
    .skip))
  (.seq (.reg [⟨some 9, .mv (.cst (.int .i64 (-1))), none⟩])
  (.seq (.seq (.reg [⟨some 42, .mv (.tmp 0), none⟩,
    ⟨some 43, .lenV (.tmp 42), none⟩,
    ⟨some 44, .mv (.cst (.int .i64 0)), none⟩])
  (.block 0 (.loop
    (.seq (.reg [⟨some 45, .bin .lss (.tmp 44) (.tmp 43), none⟩])
    (.seq (.cond (.tmp 45)
      .skip
      (.exit 0))
    (.seq (.block 1 (.seq (.reg [⟨some 46, .iadS 9 (.tmp 42) (.tmp 44), none⟩,
      ⟨some 47, .load true 9 (.tmp 46), none⟩,
      ⟨some 11, .newb [(.int .u8 0), (.int .u8 0), (.int .u8 0), (.int .u8 0), (.int .i64 0), (.int .u8 0), (.int .u8 0), (.int .u8 0), (.int .u8 0)], none⟩,
      ⟨none, .store 9 (.tmp 11) (.tmp 47), none⟩])
    (.seq (.reg [⟨some 48, .load true 4 (.tmp 3), none⟩,
      ⟨some 49, .fadr 0 (.tmp 11), none⟩,
      ⟨some 50, .load true 4 (.tmp 49), none⟩,
      ⟨some 51, .fadr 4 (.tmp 11), none⟩,
      ⟨some 52, .load false 1 (.tmp 51), none⟩,
      ⟨some 53, .call 11 [(.tmp 48), (.tmp 50), (.tmp 52)], none⟩,
      ⟨some 54, .mv (.tmp 53), none⟩,
      ⟨some 55, .fadr 5 (.tmp 11), some (54, true)⟩,
      ⟨some 56, .load true 4 (.tmp 55), some (54, true)⟩,
      ⟨some 57, .load true 4 (.tmp 5), some (54, true)⟩,
      ⟨some 58, .eqA false [0, 0, 0, 0] (.tmp 56) (.tmp 57), some (54, true)⟩,
      ⟨some 59, .mv (.tmp 58), some (54, true)⟩,
      ⟨some 60, .fadr 5 (.tmp 11), some (59, false)⟩,
      ⟨some 61, .load true 4 (.tmp 60), some (59, false)⟩,
      ⟨some 62, .build [(.int .u8 0), (.int .u8 0), (.int .u8 0), (.int .u8 0)] [], some (59, false)⟩,
      ⟨some 63, .eqA false [0, 0, 0, 0] (.tmp 61) (.tmp 62), some (59, false)⟩,
      ⟨some 64, .mv (.tmp 63), some (59, false)⟩,
      ⟨some 65, .load true 4 (.tmp 5), some (64, true)⟩,
      ⟨some 66, .load true 4 (.tmp 3), some (64, true)⟩,
      ⟨some 67, .eqA false [0, 0, 0, 0] (.tmp 65) (.tmp 66), some (64, true)⟩,
      ⟨some 68, .pick (.tmp 64) (.tmp 67) (.cst (.bool false)), some (59, false)⟩,
      ⟨some 69, .pick (.tmp 59) (.cst (.bool true)) (.tmp 68), some (54, true)⟩,
      ⟨some 70, .pick (.tmp 54) (.tmp 69) (.cst (.bool false)), none⟩])
    (.cond (.tmp 70)
      (.reg [⟨some 71, .mv (.tmp 9), none⟩,
        ⟨some 72, .fadr 4 (.tmp 11), none⟩,
        ⟨some 73, .load false 1 (.tmp 72), none⟩,
        ⟨some 74, .max [(.tmp 71), (.tmp 73)], none⟩,
        ⟨some 9, .mv (.tmp 74), none⟩])
      .skip))))
    (.reg [⟨some 75, .bin .add (.tmp 44) (.cst (.int .i64 1)), none⟩,
      ⟨some 44, .mv (.tmp 75), none⟩])))))))
  (.seq (.seq (.reg [⟨some 76, .mv (.tmp 0), none⟩,
    ⟨some 77, .lenV (.tmp 76), none⟩,
    ⟨some 78, .mv (.cst (.int .i64 0)), none⟩])
  (.block 2 (.loop
    (.seq (.reg [⟨some 79, .bin .lss (.tmp 78) (.tmp 77), none⟩])
    (.seq (.cond (.tmp 79)
      .skip
      (.exit 2))
    (.seq (.block 3 (.seq (.reg [⟨some 80, .iadS 9 (.tmp 76) (.tmp 78), none⟩,
      ⟨some 81, .load true 9 (.tmp 80), none⟩,
      ⟨some 13, .newb [(.int .u8 0), (.int .u8 0), (.int .u8 0), (.int .u8 0), (.int .i64 0), (.int .u8 0), (.int .u8 0), (.int .u8 0), (.int .u8 0)], none⟩,
      ⟨none, .store 9 (.tmp 13) (.tmp 81), none⟩])
    (.seq (.reg [⟨some 82, .load true 4 (.tmp 3), none⟩,
      ⟨some 83, .fadr 0 (.tmp 13), none⟩,
      ⟨some 84, .load true 4 (.tmp 83), none⟩,
      ⟨some 85, .fadr 4 (.tmp 13), none⟩,
      ⟨some 86, .load false 1 (.tmp 85), none⟩,
      ⟨some 87, .call 11 [(.tmp 82), (.tmp 84), (.tmp 86)], none⟩,
      ⟨some 88, .mv (.tmp 87), none⟩,
      ⟨some 89, .fadr 4 (.tmp 13), some (88, true)⟩,
      ⟨some 90, .load false 1 (.tmp 89), some (88, true)⟩,
      ⟨some 91, .mv (.tmp 9), some (88, true)⟩,
      ⟨some 92, .bin .gtr (.tmp 90) (.tmp 91), some (88, true)⟩,
      ⟨some 93, .pick (.tmp 88) (.tmp 92) (.cst (.bool false)), none⟩])
    (.cond (.tmp 93)
      (.seq (.reg [⟨some 4, .mv (.cst (.bool false)), none⟩])
      .ret)
      .skip))))
    (.reg [⟨some 94, .bin .add (.tmp 78) (.cst (.int .i64 1)), none⟩,
      ⟨some 78, .mv (.tmp 94), none⟩])))))))
  (.seq (.reg [⟨some 95, .mv (.tmp 6), none⟩,
    ⟨some 96, .bin .eql (.tmp 95) (.cst (.int .i64 0)), none⟩,
    ⟨some 97, .mv (.tmp 9), none⟩,
    ⟨some 98, .bin .geq (.tmp 97) (.cst (.int .i64 0)), none⟩,
    ⟨some 99, .binB false (.tmp 96) (.tmp 98), none⟩,
    ⟨some 4, .mv (.tmp 99), none⟩])
  .ret)))))))))
theorem p_caravellaw14_RouteFinds : Try.f3.body.bind (compC Try.prog 100) = some c_caravellaw14_RouteFinds := by kernel_rfl
theorem r_caravellaw14_RouteFinds : tellR Try.prog Try.f3.results.toList = some [.t 4] := by kernel_rfl

/-- caravel/caravellaw14.RouteRight: 1 in. -/
def c_caravellaw14_RouteRight : ACode :=
  (.seq (.reg [⟨some 2, .mv (.cst (.bool false)), none⟩])
  (.seq (.seq (.reg [⟨some 3, .call 7 [], none⟩,
    ⟨some 4, .not (.tmp 3), none⟩,
    ⟨some 5, .mv (.tmp 4), none⟩,
    ⟨some 6, .mv (.tmp 0), some (5, false)⟩,
    ⟨some 7, .lenV (.tmp 6), some (5, false)⟩,
    ⟨some 8, .bin .gtr (.tmp 7) (.cst (.int .i64 60)), some (5, false)⟩,
    ⟨some 9, .pick (.tmp 5) (.cst (.bool true)) (.tmp 8), none⟩])
  (.cond (.tmp 9)
    (.seq (.reg [⟨some 10, .call 7 [], none⟩,
      ⟨some 2, .mv (.tmp 10), none⟩])
    .ret)
    .skip))
  (.seq (.reg [⟨some 11, .mv (.tmp 0), none⟩,
    ⟨some 12, .call 12 [(.tmp 11)], none⟩,
    ⟨some 13, .mv (.tmp 0), none⟩,
    ⟨some 14, .call 8 [(.tmp 13)], none⟩,
    ⟨some 15, .binB false (.tmp 12) (.tmp 14), none⟩,
    ⟨some 2, .mv (.tmp 15), none⟩])
  .ret)))
theorem p_caravellaw14_RouteRight : Try.f4.body.bind (compC Try.prog 16) = some c_caravellaw14_RouteRight := by kernel_rfl
theorem r_caravellaw14_RouteRight : tellR Try.prog Try.f4.results.toList = some [.t 2] := by kernel_rfl

/-- caravel/caravellaw14.RoutePlays: 1 in. -/
def c_caravellaw14_RoutePlays : ACode :=
  (.seq (.reg [⟨some 2, .mv (.cst (.bool false)), none⟩])
  (.seq (.seq (.reg [⟨some 16, .call 7 [], none⟩,
    ⟨some 17, .not (.tmp 16), none⟩,
    ⟨some 18, .mv (.tmp 17), none⟩,
    ⟨some 19, .mv (.tmp 0), some (18, false)⟩,
    ⟨some 20, .lenV (.tmp 19), some (18, false)⟩,
    ⟨some 21, .bin .gtr (.tmp 20) (.cst (.int .i64 60)), some (18, false)⟩,
    ⟨some 22, .pick (.tmp 18) (.cst (.bool true)) (.tmp 21), none⟩])
  (.cond (.tmp 22)
    (.seq (.reg [⟨some 23, .call 7 [], none⟩,
      ⟨some 2, .mv (.tmp 23), none⟩])
    .ret)
    .skip))
  (.seq (.reg [⟨some 3, .mv (.cst .nil), none⟩,
    ⟨some 4, .mv (.cst .nil), none⟩])
  (.seq (.seq (.reg [⟨some 24, .mv (.tmp 0), none⟩,
    ⟨some 25, .lenV (.tmp 24), none⟩,
    ⟨some 26, .mv (.cst (.int .i64 0)), none⟩])
  (.block 0 (.loop
    (.seq (.reg [⟨some 27, .bin .lss (.tmp 26) (.tmp 25), none⟩])
    (.seq (.cond (.tmp 27)
      .skip
      (.exit 0))
    (.seq (.block 1 (.seq (.reg [⟨some 28, .iadS 10 (.tmp 24) (.tmp 26), none⟩,
      ⟨some 29, .load true 10 (.tmp 28), none⟩,
      ⟨some 6, .newb [(.bool false), (.int .u8 0), (.int .u8 0), (.int .u8 0), (.int .u8 0), (.int .i64 0), (.int .u8 0), (.int .u8 0), (.int .u8 0), (.int .u8 0)], none⟩,
      ⟨none, .store 10 (.tmp 6) (.tmp 29), none⟩])
    (.seq (.reg [⟨some 30, .bsl 9 [], none⟩,
      ⟨some 31, .mv (.tmp 3), none⟩,
      ⟨some 32, .app 9 24 (.tmp 30) (.tmp 31), none⟩,
      ⟨some 7, .mv (.tmp 32), none⟩])
    (.seq (.seq (.reg [⟨some 33, .fadr 0 (.tmp 6), none⟩,
      ⟨some 34, .load false 1 (.tmp 33), none⟩])
    (.cond (.tmp 34)
      (.seq (.reg [⟨some 36, .mv (.tmp 3), none⟩,
        ⟨some 37, .fadr 1 (.tmp 6), none⟩,
        ⟨some 38, .fadr 0 (.tmp 37), none⟩,
        ⟨some 39, .load true 4 (.tmp 38), none⟩,
        ⟨some 40, .fadr 1 (.tmp 6), none⟩,
        ⟨some 41, .fadr 4 (.tmp 40), none⟩,
        ⟨some 42, .load false 1 (.tmp 41), none⟩,
        ⟨some 43, .call 13 [(.tmp 36), (.tmp 39), (.tmp 42)], none⟩,
        ⟨some 35, .mv (.tmp 43), none⟩,
        ⟨some 44, .ext (.tmp 35) 0, none⟩,
        ⟨some 45, .ext (.tmp 35) 1, none⟩,
        ⟨some 8, .mv (.tmp 44), none⟩,
        ⟨some 9, .mv (.tmp 45), none⟩])
      (.seq (.reg [⟨some 47, .mv (.tmp 4), none⟩,
        ⟨some 48, .fadr 1 (.tmp 6), none⟩,
        ⟨some 49, .fadr 0 (.tmp 48), none⟩,
        ⟨some 50, .load true 4 (.tmp 49), none⟩,
        ⟨some 51, .fadr 1 (.tmp 6), none⟩,
        ⟨some 52, .fadr 4 (.tmp 51), none⟩,
        ⟨some 53, .load false 1 (.tmp 52), none⟩,
        ⟨some 54, .call 14 [(.tmp 47), (.tmp 50), (.tmp 53)], none⟩,
        ⟨some 46, .mv (.tmp 54), none⟩,
        ⟨some 55, .ext (.tmp 46) 0, none⟩,
        ⟨some 56, .ext (.tmp 46) 1, none⟩,
        ⟨some 10, .mv (.tmp 55), none⟩,
        ⟨some 11, .mv (.tmp 56), none⟩])
      (.seq (.seq (.reg [⟨some 57, .mv (.tmp 9), none⟩,
        ⟨some 58, .mv (.tmp 11), none⟩,
        ⟨some 59, .bin .neq (.tmp 57) (.tmp 58), none⟩,
        ⟨some 60, .mv (.tmp 59), none⟩,
        ⟨some 61, .mv (.tmp 8), some (60, false)⟩,
        ⟨some 62, .mv (.tmp 10), some (60, false)⟩,
        ⟨some 63, .call 15 [(.tmp 61), (.tmp 62)], some (60, false)⟩,
        ⟨some 64, .not (.tmp 63), some (60, false)⟩,
        ⟨some 65, .pick (.tmp 60) (.cst (.bool true)) (.tmp 64), none⟩,
        ⟨some 66, .mv (.tmp 65), none⟩,
        ⟨some 67, .mv (.tmp 3), some (66, false)⟩,
        ⟨some 68, .mv (.tmp 7), some (66, false)⟩,
        ⟨some 69, .call 15 [(.tmp 67), (.tmp 68)], some (66, false)⟩,
        ⟨some 70, .not (.tmp 69), some (66, false)⟩,
        ⟨some 71, .pick (.tmp 66) (.cst (.bool true)) (.tmp 70), none⟩])
      (.cond (.tmp 71)
        (.seq (.reg [⟨some 2, .mv (.cst (.bool false)), none⟩])
        .ret)
        .skip))
      (.seq (.reg [⟨some 72, .mv (.tmp 8), none⟩,
        ⟨some 73, .mv (.tmp 10), none⟩,
        ⟨some 3, .mv (.tmp 72), none⟩,
        ⟨some 4, .mv (.tmp 73), none⟩])
      (.exit 1)))))
      .skip))
    (.seq (.reg [⟨some 75, .mv (.tmp 3), none⟩,
      ⟨some 76, .fadr 1 (.tmp 6), none⟩,
      ⟨some 77, .load true 9 (.tmp 76), none⟩,
      ⟨some 78, .call 16 [(.tmp 75), (.tmp 77)], none⟩,
      ⟨some 74, .mv (.tmp 78), none⟩,
      ⟨some 79, .ext (.tmp 74) 0, none⟩,
      ⟨some 80, .ext (.tmp 74) 1, none⟩,
      ⟨some 12, .mv (.tmp 79), none⟩,
      ⟨some 13, .mv (.tmp 80), none⟩])
    (.seq (.reg [⟨some 82, .mv (.tmp 4), none⟩,
      ⟨some 83, .fadr 1 (.tmp 6), none⟩,
      ⟨some 84, .load true 9 (.tmp 83), none⟩,
      ⟨some 85, .call 17 [(.tmp 82), (.tmp 84)], none⟩,
      ⟨some 81, .mv (.tmp 85), none⟩,
      ⟨some 86, .ext (.tmp 81) 0, none⟩,
      ⟨some 87, .ext (.tmp 81) 1, none⟩,
      ⟨some 14, .mv (.tmp 86), none⟩,
      ⟨some 15, .mv (.tmp 87), none⟩])
    (.seq (.seq (.reg [⟨some 88, .mv (.tmp 13), none⟩,
      ⟨some 89, .mv (.tmp 15), none⟩,
      ⟨some 90, .bin .neq (.tmp 88) (.tmp 89), none⟩,
      ⟨some 91, .mv (.tmp 90), none⟩,
      ⟨some 92, .mv (.tmp 12), some (91, false)⟩,
      ⟨some 93, .mv (.tmp 14), some (91, false)⟩,
      ⟨some 94, .call 15 [(.tmp 92), (.tmp 93)], some (91, false)⟩,
      ⟨some 95, .not (.tmp 94), some (91, false)⟩,
      ⟨some 96, .pick (.tmp 91) (.cst (.bool true)) (.tmp 95), none⟩,
      ⟨some 97, .mv (.tmp 96), none⟩,
      ⟨some 98, .mv (.tmp 3), some (97, false)⟩,
      ⟨some 99, .mv (.tmp 7), some (97, false)⟩,
      ⟨some 100, .call 15 [(.tmp 98), (.tmp 99)], some (97, false)⟩,
      ⟨some 101, .not (.tmp 100), some (97, false)⟩,
      ⟨some 102, .pick (.tmp 97) (.cst (.bool true)) (.tmp 101), none⟩,
      ⟨some 103, .mv (.tmp 102), none⟩,
      ⟨some 104, .mv (.tmp 12), some (103, false)⟩,
      ⟨some 105, .call 12 [(.tmp 104)], some (103, false)⟩,
      ⟨some 106, .not (.tmp 105), some (103, false)⟩,
      ⟨some 107, .pick (.tmp 103) (.cst (.bool true)) (.tmp 106), none⟩])
    (.cond (.tmp 107)
      (.seq (.reg [⟨some 2, .mv (.cst (.bool false)), none⟩])
      .ret)
      .skip))
    (.reg [⟨some 108, .mv (.tmp 12), none⟩,
      ⟨some 109, .mv (.tmp 14), none⟩,
      ⟨some 3, .mv (.tmp 108), none⟩,
      ⟨some 4, .mv (.tmp 109), none⟩]))))))))
    (.reg [⟨some 110, .bin .add (.tmp 26) (.cst (.int .i64 1)), none⟩,
      ⟨some 26, .mv (.tmp 110), none⟩])))))))
  (.seq (.reg [⟨some 2, .mv (.cst (.bool true)), none⟩])
  .ret)))))
theorem p_caravellaw14_RoutePlays : Try.f5.body.bind (compC Try.prog 111) = some c_caravellaw14_RoutePlays := by kernel_rfl
theorem r_caravellaw14_RoutePlays : tellR Try.prog Try.f5.results.toList = some [.t 2] := by kernel_rfl

/-- caravel/caravellaw14.RouteOrder: 2 in. -/
def c_caravellaw14_RouteOrder : ACode :=
  (.seq (.reg [⟨some 4, .mv (.cst (.bool false)), none⟩])
  (.seq (.seq (.reg [⟨some 15, .call 7 [], none⟩,
    ⟨some 16, .not (.tmp 15), none⟩,
    ⟨some 17, .mv (.tmp 16), none⟩,
    ⟨some 18, .mv (.tmp 0), some (17, false)⟩,
    ⟨some 19, .lenV (.tmp 18), some (17, false)⟩,
    ⟨some 20, .bin .gtr (.tmp 19) (.cst (.int .i64 8)), some (17, false)⟩,
    ⟨some 21, .pick (.tmp 17) (.cst (.bool true)) (.tmp 20), none⟩])
  (.cond (.tmp 21)
    (.seq (.reg [⟨some 22, .call 7 [], none⟩,
      ⟨some 4, .mv (.tmp 22), none⟩])
    .ret)
    .skip))
  (.seq (.reg [⟨some 5, .mv (.cst .nil), none⟩,
    ⟨some 6, .mv (.cst .nil), none⟩])
  (.seq (.seq (.reg [⟨some 23, .mv (.tmp 0), none⟩,
    ⟨some 24, .lenV (.tmp 23), none⟩,
    ⟨some 25, .mv (.cst (.int .i64 0)), none⟩])
  (.block 0 (.loop
    (.seq (.reg [⟨some 26, .bin .lss (.tmp 25) (.tmp 24), none⟩])
    (.seq (.cond (.tmp 26)
      .skip
      (.exit 0))
    (.seq (.block 1 (.seq (.reg [⟨some 27, .mv (.tmp 25), none⟩,
      ⟨some 7, .mv (.tmp 27), none⟩])
    (.reg [⟨some 29, .mv (.tmp 5), none⟩,
      ⟨some 30, .mv (.tmp 0), none⟩,
      ⟨some 31, .mv (.tmp 7), none⟩,
      ⟨some 32, .iadS 9 (.tmp 30) (.tmp 31), none⟩,
      ⟨some 33, .load true 9 (.tmp 32), none⟩,
      ⟨some 34, .call 16 [(.tmp 29), (.tmp 33)], none⟩,
      ⟨some 28, .mv (.tmp 34), none⟩,
      ⟨some 35, .ext (.tmp 28) 0, none⟩,
      ⟨some 36, .ext (.tmp 28) 1, none⟩,
      ⟨some 5, .mv (.tmp 35), none⟩])))
    (.reg [⟨some 37, .bin .add (.tmp 25) (.cst (.int .i64 1)), none⟩,
      ⟨some 25, .mv (.tmp 37), none⟩])))))))
  (.seq (.seq (.reg [⟨some 38, .mv (.tmp 5), none⟩,
    ⟨some 39, .lenV (.tmp 38), none⟩,
    ⟨some 40, .mv (.tmp 0), none⟩,
    ⟨some 41, .lenV (.tmp 40), none⟩,
    ⟨some 42, .bin .neq (.tmp 39) (.tmp 41), none⟩])
  (.cond (.tmp 42)
    (.seq (.reg [⟨some 4, .mv (.cst (.bool true)), none⟩])
    .ret)
    .skip))
  (.seq (.seq (.reg [⟨some 43, .mv (.tmp 0), none⟩,
    ⟨some 44, .lenV (.tmp 43), none⟩,
    ⟨some 45, .mv (.cst (.int .i64 0)), none⟩])
  (.block 2 (.loop
    (.seq (.reg [⟨some 46, .bin .lss (.tmp 45) (.tmp 44), none⟩])
    (.seq (.cond (.tmp 46)
      .skip
      (.exit 2))
    (.seq (.block 3 (.seq (.reg [⟨some 47, .mv (.tmp 45), none⟩,
      ⟨some 8, .mv (.tmp 47), none⟩])
    (.reg [⟨some 49, .mv (.tmp 6), none⟩,
      ⟨some 50, .mv (.tmp 0), none⟩,
      ⟨some 51, .mv (.tmp 8), none⟩,
      ⟨some 52, .mv (.tmp 1), none⟩,
      ⟨some 53, .conv .u64 (.tmp 52), none⟩,
      ⟨some 54, .mv (.tmp 0), none⟩,
      ⟨some 55, .lenV (.tmp 54), none⟩,
      ⟨some 56, .conv .u64 (.tmp 55), none⟩,
      ⟨some 57, .bin .rem (.tmp 53) (.tmp 56), none⟩,
      ⟨some 58, .conv .i64 (.tmp 57), none⟩,
      ⟨some 59, .bin .add (.tmp 51) (.tmp 58), none⟩,
      ⟨some 60, .mv (.tmp 0), none⟩,
      ⟨some 61, .lenV (.tmp 60), none⟩,
      ⟨some 62, .bin .rem (.tmp 59) (.tmp 61), none⟩,
      ⟨some 63, .iadS 9 (.tmp 50) (.tmp 62), none⟩,
      ⟨some 64, .load true 9 (.tmp 63), none⟩,
      ⟨some 65, .call 16 [(.tmp 49), (.tmp 64)], none⟩,
      ⟨some 48, .mv (.tmp 65), none⟩,
      ⟨some 66, .ext (.tmp 48) 0, none⟩,
      ⟨some 67, .ext (.tmp 48) 1, none⟩,
      ⟨some 6, .mv (.tmp 66), none⟩])))
    (.reg [⟨some 68, .bin .add (.tmp 45) (.cst (.int .i64 1)), none⟩,
      ⟨some 45, .mv (.tmp 68), none⟩])))))))
  (.seq (.seq (.reg [⟨some 69, .mv (.tmp 5), none⟩,
    ⟨some 70, .mv (.tmp 6), none⟩,
    ⟨some 71, .call 15 [(.tmp 69), (.tmp 70)], none⟩,
    ⟨some 72, .not (.tmp 71), none⟩])
  (.cond (.tmp 72)
    (.seq (.reg [⟨some 4, .mv (.cst (.bool false)), none⟩])
    .ret)
    .skip))
  (.seq (.seq (.reg [⟨some 73, .mv (.tmp 5), none⟩,
    ⟨some 74, .lenV (.tmp 73), none⟩,
    ⟨some 75, .mv (.cst (.int .i64 0)), none⟩])
  (.block 4 (.loop
    (.seq (.reg [⟨some 76, .bin .lss (.tmp 75) (.tmp 74), none⟩])
    (.seq (.cond (.tmp 76)
      .skip
      (.exit 4))
    (.seq (.block 5 (.seq (.reg [⟨some 77, .iadS 9 (.tmp 73) (.tmp 75), none⟩,
      ⟨some 78, .load true 9 (.tmp 77), none⟩,
      ⟨some 10, .newb [(.int .u8 0), (.int .u8 0), (.int .u8 0), (.int .u8 0), (.int .i64 0), (.int .u8 0), (.int .u8 0), (.int .u8 0), (.int .u8 0)], none⟩,
      ⟨none, .store 9 (.tmp 10) (.tmp 78), none⟩])
    (.seq (.reg [⟨some 80, .mv (.tmp 6), none⟩,
      ⟨some 81, .fadr 0 (.tmp 10), none⟩,
      ⟨some 82, .load true 4 (.tmp 81), none⟩,
      ⟨some 83, .fadr 4 (.tmp 10), none⟩,
      ⟨some 84, .load false 1 (.tmp 83), none⟩,
      ⟨some 85, .call 13 [(.tmp 80), (.tmp 82), (.tmp 84)], none⟩,
      ⟨some 79, .mv (.tmp 85), none⟩,
      ⟨some 86, .ext (.tmp 79) 0, none⟩,
      ⟨some 87, .ext (.tmp 79) 1, none⟩,
      ⟨some 11, .mv (.tmp 86), none⟩,
      ⟨some 12, .mv (.tmp 87), none⟩])
    (.seq (.reg [⟨some 88, .mv (.tmp 11), none⟩,
      ⟨some 6, .mv (.tmp 88), none⟩])
    (.seq (.reg [⟨some 89, .mv (.tmp 12), none⟩,
      ⟨some 90, .bin .neq (.tmp 89) (.cst (.int .i64 0)), none⟩])
    (.cond (.tmp 90)
      (.seq (.reg [⟨some 4, .mv (.cst (.bool false)), none⟩])
      .ret)
      .skip))))))
    (.reg [⟨some 91, .bin .add (.tmp 75) (.cst (.int .i64 1)), none⟩,
      ⟨some 75, .mv (.tmp 91), none⟩])))))))
  (.seq (.reg [⟨some 93, .mv (.tmp 6), none⟩,
    ⟨some 94, .build [(.int .u8 0), (.int .u8 0), (.int .u8 0), (.int .u8 0)] [(0, 1, (.cst (.int .u8 10))), (1, 1, (.cst (.int .u8 0))), (2, 1, (.cst (.int .u8 0))), (3, 1, (.cst (.int .u8 1)))], none⟩,
    ⟨some 95, .call 9 [(.tmp 93), (.tmp 94)], none⟩,
    ⟨some 92, .mv (.tmp 95), none⟩,
    ⟨some 96, .ext (.tmp 92) 0, none⟩,
    ⟨some 97, .ext (.tmp 92) 1, none⟩,
    ⟨some 13, .newa [(.int .u8 0), (.int .u8 0), (.int .u8 0), (.int .u8 0)], none⟩,
    ⟨none, .store 4 (.tmp 13) (.tmp 96), none⟩,
    ⟨some 14, .mv (.tmp 97), none⟩])
  (.seq (.reg [⟨some 98, .mv (.tmp 6), none⟩,
    ⟨some 99, .lenV (.tmp 98), none⟩,
    ⟨some 100, .bin .eql (.tmp 99) (.cst (.int .i64 0)), none⟩,
    ⟨some 101, .mv (.tmp 100), none⟩,
    ⟨some 102, .mv (.tmp 14), some (101, true)⟩,
    ⟨some 103, .bin .eql (.tmp 102) (.cst (.int .i64 15)), some (101, true)⟩,
    ⟨some 104, .pick (.tmp 101) (.tmp 103) (.cst (.bool false)), none⟩,
    ⟨some 4, .mv (.tmp 104), none⟩])
  .ret))))))))))
theorem p_caravellaw14_RouteOrder : Try.f6.body.bind (compC Try.prog 105) = some c_caravellaw14_RouteOrder := by kernel_rfl
theorem r_caravellaw14_RouteOrder : tellR Try.prog Try.f6.results.toList = some [.t 4] := by kernel_rfl

/-- caravel/caravellaw14.lives: 0 in. -/
def c_caravellaw14_lives : ACode :=
  (.seq (.reg [⟨some 0, .mv (.cst (.bool false)), none⟩])
  (.seq (.reg [⟨some 9, .build [(.int .u8 0), (.int .u8 0), (.int .u8 0), (.int .u8 0)] [(0, 1, (.cst (.int .u8 10))), (1, 1, (.cst (.int .u8 0))), (2, 1, (.cst (.int .u8 0))), (3, 1, (.cst (.int .u8 1)))], none⟩,
    ⟨some 1, .newa [(.int .u8 0), (.int .u8 0), (.int .u8 0), (.int .u8 0)], none⟩,
    ⟨none, .store 4 (.tmp 1) (.tmp 9), none⟩])
  (.seq (.reg [⟨some 11, .load true 4 (.tmp 1), none⟩,
    ⟨some 12, .build [(.int .u8 0), (.int .u8 0), (.int .u8 0), (.int .u8 0), (.int .i64 0), (.int .u8 0), (.int .u8 0), (.int .u8 0), (.int .u8 0)] [(5, 4, (.tmp 11))], none⟩,
    ⟨some 13, .call 16 [(.cst .nil), (.tmp 12)], none⟩,
    ⟨some 10, .mv (.tmp 13), none⟩,
    ⟨some 14, .ext (.tmp 10) 0, none⟩,
    ⟨some 15, .ext (.tmp 10) 1, none⟩,
    ⟨some 2, .mv (.tmp 14), none⟩,
    ⟨some 3, .mv (.tmp 15), none⟩])
  (.seq (.reg [⟨some 17, .mv (.tmp 2), none⟩,
    ⟨some 18, .build [(.int .u8 0), (.int .u8 0), (.int .u8 0), (.int .u8 0)] [(0, 1, (.cst (.int .u8 10)))], none⟩,
    ⟨some 19, .build [(.int .u8 0), (.int .u8 0), (.int .u8 0), (.int .u8 0), (.int .i64 0), (.int .u8 0), (.int .u8 0), (.int .u8 0), (.int .u8 0)] [(0, 4, (.tmp 18)), (4, 1, (.cst (.int .i64 8)))], none⟩,
    ⟨some 20, .call 16 [(.tmp 17), (.tmp 19)], none⟩,
    ⟨some 16, .mv (.tmp 20), none⟩,
    ⟨some 21, .ext (.tmp 16) 0, none⟩,
    ⟨some 22, .ext (.tmp 16) 1, none⟩,
    ⟨some 2, .mv (.tmp 21), none⟩,
    ⟨some 4, .mv (.tmp 22), none⟩])
  (.seq (.reg [⟨some 24, .mv (.tmp 2), none⟩,
    ⟨some 25, .build [(.int .u8 0), (.int .u8 0), (.int .u8 0), (.int .u8 0)] [(0, 1, (.cst (.int .u8 10))), (1, 1, (.cst (.int .u8 2))), (2, 1, (.cst (.int .u8 3))), (3, 1, (.cst (.int .u8 4)))], none⟩,
    ⟨some 26, .call 9 [(.tmp 24), (.tmp 25)], none⟩,
    ⟨some 23, .mv (.tmp 26), none⟩,
    ⟨some 27, .ext (.tmp 23) 0, none⟩,
    ⟨some 28, .ext (.tmp 23) 1, none⟩,
    ⟨some 5, .newa [(.int .u8 0), (.int .u8 0), (.int .u8 0), (.int .u8 0)], none⟩,
    ⟨none, .store 4 (.tmp 5) (.tmp 27), none⟩,
    ⟨some 6, .mv (.tmp 28), none⟩])
  (.seq (.reg [⟨some 30, .mv (.tmp 2), none⟩,
    ⟨some 31, .build [(.int .u8 0), (.int .u8 0), (.int .u8 0), (.int .u8 0)] [(0, 1, (.cst (.int .u8 1))), (1, 1, (.cst (.int .u8 2))), (2, 1, (.cst (.int .u8 3))), (3, 1, (.cst (.int .u8 4)))], none⟩,
    ⟨some 32, .call 9 [(.tmp 30), (.tmp 31)], none⟩,
    ⟨some 29, .mv (.tmp 32), none⟩,
    ⟨some 33, .ext (.tmp 29) 0, none⟩,
    ⟨some 34, .ext (.tmp 29) 1, none⟩,
    ⟨some 7, .newa [(.int .u8 0), (.int .u8 0), (.int .u8 0), (.int .u8 0)], none⟩,
    ⟨none, .store 4 (.tmp 7) (.tmp 33), none⟩,
    ⟨some 8, .mv (.tmp 34), none⟩])
  (.seq (.reg [⟨some 35, .mv (.tmp 3), none⟩,
    ⟨some 36, .bin .eql (.tmp 35) (.cst (.int .i64 0)), none⟩,
    ⟨some 37, .mv (.tmp 36), none⟩,
    ⟨some 38, .mv (.tmp 4), some (37, true)⟩,
    ⟨some 39, .bin .eql (.tmp 38) (.cst (.int .i64 0)), some (37, true)⟩,
    ⟨some 40, .pick (.tmp 37) (.tmp 39) (.cst (.bool false)), none⟩,
    ⟨some 41, .mv (.tmp 40), none⟩,
    ⟨some 42, .mv (.tmp 6), some (41, true)⟩,
    ⟨some 43, .bin .eql (.tmp 42) (.cst (.int .i64 0)), some (41, true)⟩,
    ⟨some 44, .pick (.tmp 41) (.tmp 43) (.cst (.bool false)), none⟩,
    ⟨some 45, .mv (.tmp 44), none⟩,
    ⟨some 46, .mv (.tmp 8), some (45, true)⟩,
    ⟨some 47, .bin .eql (.tmp 46) (.cst (.int .i64 0)), some (45, true)⟩,
    ⟨some 48, .pick (.tmp 45) (.tmp 47) (.cst (.bool false)), none⟩,
    ⟨some 49, .mv (.tmp 48), none⟩,
    ⟨some 50, .load true 4 (.tmp 5), some (49, true)⟩,
    ⟨some 51, .build [(.int .u8 0), (.int .u8 0), (.int .u8 0), (.int .u8 0)] [(0, 1, (.cst (.int .u8 10))), (1, 1, (.cst (.int .u8 2))), (2, 1, (.cst (.int .u8 3))), (3, 1, (.cst (.int .u8 4)))], some (49, true)⟩,
    ⟨some 52, .eqA false [0, 0, 0, 0] (.tmp 50) (.tmp 51), some (49, true)⟩,
    ⟨some 53, .pick (.tmp 49) (.tmp 52) (.cst (.bool false)), none⟩,
    ⟨some 54, .mv (.tmp 53), none⟩,
    ⟨some 55, .load true 4 (.tmp 7), some (54, true)⟩,
    ⟨some 56, .load true 4 (.tmp 1), some (54, true)⟩,
    ⟨some 57, .eqA false [0, 0, 0, 0] (.tmp 55) (.tmp 56), some (54, true)⟩,
    ⟨some 58, .pick (.tmp 54) (.tmp 57) (.cst (.bool false)), none⟩,
    ⟨some 59, .mv (.tmp 58), none⟩,
    ⟨some 60, .mv (.tmp 2), some (59, true)⟩,
    ⟨some 61, .call 12 [(.tmp 60)], some (59, true)⟩,
    ⟨some 62, .pick (.tmp 59) (.tmp 61) (.cst (.bool false)), none⟩,
    ⟨some 0, .mv (.tmp 62), none⟩])
  .ret)))))))
theorem p_caravellaw14_lives : Try.f7.body.bind (compC Try.prog 63) = some c_caravellaw14_lives := by kernel_rfl
theorem r_caravellaw14_lives : tellR Try.prog Try.f7.results.toList = some [.t 0] := by kernel_rfl

/-- caravel/caravelref14.Right: 1 in. -/
def c_caravelref14_Right : ACode :=
  (.seq (.reg [⟨some 2, .mv (.cst (.bool false)), none⟩])
  (.seq (.seq (.reg [⟨some 3, .mv (.cst (.int .i64 0)), none⟩])
  (.block 0 (.loop
    (.seq (.seq (.reg [⟨some 4, .mv (.tmp 3), none⟩,
      ⟨some 5, .mv (.tmp 0), none⟩,
      ⟨some 6, .lenV (.tmp 5), none⟩,
      ⟨some 7, .bin .lss (.tmp 4) (.tmp 6), none⟩])
    (.cond (.tmp 7)
      .skip
      (.exit 0)))
    (.seq (.block 1 (.seq (.drw [⟨some 10, .mv (.tmp 0), none⟩,
      ⟨some 11, .mv (.tmp 3), none⟩,
      ⟨some 12, .iadS 9 (.tmp 10) (.tmp 11), none⟩,
      ⟨some 13, .fadr 4 (.tmp 12), none⟩,
      ⟨some 14, .load false 1 (.tmp 13), none⟩,
      ⟨some 15, .bin .lss (.tmp 14) (.cst (.int .i64 0)), none⟩,
      ⟨some 16, .mv (.tmp 15), none⟩,
      ⟨some 17, .mv (.tmp 0), some (16, false)⟩,
      ⟨some 18, .mv (.tmp 3), some (16, false)⟩,
      ⟨some 19, .iadS 9 (.tmp 17) (.tmp 18), some (16, false)⟩,
      ⟨some 20, .fadr 4 (.tmp 19), some (16, false)⟩,
      ⟨some 21, .load false 1 (.tmp 20), some (16, false)⟩,
      ⟨some 22, .bin .gtr (.tmp 21) (.cst (.int .i64 32)), some (16, false)⟩,
      ⟨some 23, .pick (.tmp 16) (.cst (.bool true)) (.tmp 22), none⟩,
      ⟨some 24, .mv (.tmp 23), none⟩,
      ⟨some 25, .mv (.tmp 0), some (24, false)⟩,
      ⟨some 26, .mv (.tmp 3), some (24, false)⟩,
      ⟨some 27, .iadS 9 (.tmp 25) (.tmp 26), some (24, false)⟩,
      ⟨some 28, .fadr 0 (.tmp 27), some (24, false)⟩,
      ⟨some 29, .load true 4 (.tmp 28), some (24, false)⟩,
      ⟨some 30, .mv (.tmp 0), some (24, false)⟩,
      ⟨some 31, .mv (.tmp 3), some (24, false)⟩,
      ⟨some 32, .iadS 9 (.tmp 30) (.tmp 31), some (24, false)⟩,
      ⟨some 33, .fadr 4 (.tmp 32), some (24, false)⟩,
      ⟨some 34, .load false 1 (.tmp 33), some (24, false)⟩,
      ⟨some 35, .call 18 [(.tmp 29), (.tmp 34)], some (24, false)⟩,
      ⟨some 36, .mv (.tmp 0), some (24, false)⟩,
      ⟨some 37, .mv (.tmp 3), some (24, false)⟩,
      ⟨some 38, .iadS 9 (.tmp 36) (.tmp 37), some (24, false)⟩,
      ⟨some 39, .fadr 0 (.tmp 38), some (24, false)⟩,
      ⟨some 40, .load true 4 (.tmp 39), some (24, false)⟩,
      ⟨some 41, .eqA true [0, 0, 0, 0] (.tmp 35) (.tmp 40), some (24, false)⟩,
      ⟨some 42, .pick (.tmp 24) (.cst (.bool true)) (.tmp 41), none⟩,
      ⟨some 43, .mv (.tmp 42), none⟩,
      ⟨some 44, .mv (.tmp 3), some (43, false)⟩,
      ⟨some 45, .bin .gtr (.tmp 44) (.cst (.int .i64 0)), some (43, false)⟩,
      ⟨some 46, .mv (.tmp 45), some (43, false)⟩,
      ⟨some 47, .mv (.tmp 0), some (46, true)⟩,
      ⟨some 48, .mv (.tmp 3), some (46, true)⟩,
      ⟨some 49, .bin .sub (.tmp 48) (.cst (.int .i64 1)), some (46, true)⟩,
      ⟨some 50, .iadS 9 (.tmp 47) (.tmp 49), some (46, true)⟩,
      ⟨some 51, .load true 9 (.tmp 50), some (46, true)⟩,
      ⟨some 52, .mv (.tmp 0), some (46, true)⟩,
      ⟨some 53, .mv (.tmp 3), some (46, true)⟩,
      ⟨some 54, .iadS 9 (.tmp 52) (.tmp 53), some (46, true)⟩,
      ⟨some 55, .load true 9 (.tmp 54), some (46, true)⟩,
      ⟨some 56, .call 19 [(.tmp 51), (.tmp 55)], some (46, true)⟩,
      ⟨some 57, .not (.tmp 56), some (46, true)⟩,
      ⟨some 58, .pick (.tmp 46) (.tmp 57) (.cst (.bool false)), some (43, false)⟩,
      ⟨some 59, .pick (.tmp 43) (.cst (.bool true)) (.tmp 58), none⟩] [[], [], [], [], [], [], [], [], [], [], [], [], [], [], [], [], [], [], [], [], [], [], [], [], [], [], [], [], [], [], [], [], [], [], [], [], [], [], [], [], [], [], [], [], [], [], [], [], [], []])
    (.cond (.tmp 59)
      (.seq (.reg [⟨some 2, .mv (.cst (.bool false)), none⟩])
      .ret)
      .skip)))
    (.reg [⟨some 8, .mv (.tmp 3), none⟩,
      ⟨some 9, .bin .add (.tmp 8) (.cst (.int .i64 1)), none⟩,
      ⟨some 3, .mv (.tmp 9), none⟩]))))))
  (.seq (.reg [⟨some 60, .mv (.tmp 0), none⟩,
    ⟨some 61, .lenV (.tmp 60), none⟩,
    ⟨some 62, .bin .leq (.tmp 61) (.cst (.int .i64 8)), none⟩,
    ⟨some 2, .mv (.tmp 62), none⟩])
  .ret)))
theorem p_caravelref14_Right : Try.f8.body.bind (compC Try.prog 63) = some c_caravelref14_Right := by kernel_rfl
theorem r_caravelref14_Right : tellR Try.prog Try.f8.results.toList = some [.t 2] := by kernel_rfl

/-- caravel/route.Find: 2 in. -/
def c_route_Find : ACode :=
  (.seq (.reg [⟨some 3, .boxa (.tmp 1), none⟩,
    ⟨some 4, .newa [(.int .u8 0), (.int .u8 0), (.int .u8 0), (.int .u8 0)], none⟩,
    ⟨some 5, .mv (.cst (.int .i64 0)), none⟩])
  (.seq (.seq (.reg [⟨some 8, .mv (.tmp 0), none⟩,
    ⟨some 9, .lenV (.tmp 8), none⟩,
    ⟨some 10, .mv (.cst (.int .i64 0)), none⟩])
  (.block 0 (.loop
    (.seq (.reg [⟨some 11, .bin .lss (.tmp 10) (.tmp 9), none⟩])
    (.seq (.cond (.tmp 11)
      .skip
      (.exit 0))
    (.seq (.block 1 (.seq (.reg [⟨some 12, .iadS 9 (.tmp 8) (.tmp 10), none⟩,
      ⟨some 13, .load true 9 (.tmp 12), none⟩,
      ⟨some 7, .newb [(.int .u8 0), (.int .u8 0), (.int .u8 0), (.int .u8 0), (.int .i64 0), (.int .u8 0), (.int .u8 0), (.int .u8 0), (.int .u8 0)], none⟩,
      ⟨none, .store 9 (.tmp 7) (.tmp 13), none⟩])
    (.block 2 (.seq (.reg [⟨some 17, .load true 4 (.tmp 3), none⟩,
      ⟨some 18, .fadr 0 (.tmp 7), none⟩,
      ⟨some 19, .load true 4 (.tmp 18), none⟩,
      ⟨some 20, .fadr 4 (.tmp 7), none⟩,
      ⟨some 21, .load false 1 (.tmp 20), none⟩,
      ⟨some 22, .call 20 [(.tmp 17), (.tmp 19), (.tmp 21)], none⟩,
      ⟨some 23, .not (.tmp 22), none⟩,
      ⟨some 16, .mv (.tmp 23), none⟩])
    (.cond (.tmp 16)
      .skip
      (.seq (.reg [⟨some 25, .fadr 5 (.tmp 7), none⟩,
        ⟨some 26, .load true 4 (.tmp 25), none⟩,
        ⟨some 27, .build [(.int .u8 0), (.int .u8 0), (.int .u8 0), (.int .u8 0)] [], none⟩,
        ⟨some 28, .eqA false [0, 0, 0, 0] (.tmp 26) (.tmp 27), none⟩,
        ⟨some 24, .mv (.tmp 28), none⟩])
      (.cond (.tmp 24)
        (.seq (.reg [⟨some 29, .load true 4 (.tmp 3), none⟩,
          ⟨none, .store 4 (.tmp 4) (.tmp 29), none⟩,
          ⟨some 5, .mv (.cst (.int .i64 0)), none⟩])
        .ret)
        (.seq (.reg [⟨some 14, .fadr 5 (.tmp 7), none⟩,
          ⟨some 15, .load true 4 (.tmp 14), none⟩,
          ⟨none, .store 4 (.tmp 4) (.tmp 15), none⟩,
          ⟨some 5, .mv (.cst (.int .i64 0)), none⟩])
        .ret))))))))
    (.reg [⟨some 30, .bin .add (.tmp 10) (.cst (.int .i64 1)), none⟩,
      ⟨some 10, .mv (.tmp 30), none⟩])))))))
  (.seq (.reg [⟨some 31, .build [(.int .u8 0), (.int .u8 0), (.int .u8 0), (.int .u8 0)] [], none⟩,
    ⟨none, .store 4 (.tmp 4) (.tmp 31), none⟩,
    ⟨some 5, .mv (.cst (.int .i64 15)), none⟩])
  .ret)))
theorem p_route_Find : Try.f9.body.bind (compC Try.prog 32) = some c_route_Find := by kernel_rfl
theorem r_route_Find : tellR Try.prog Try.f9.results.toList = some [.c 4 true 4, .t 5] := by kernel_rfl

/-- caravel/caravelref14.Find: 2 in. -/
def c_caravelref14_Find : ACode :=
  (.seq (.reg [⟨some 3, .boxa (.tmp 1), none⟩,
    ⟨some 4, .newa [(.int .u8 0), (.int .u8 0), (.int .u8 0), (.int .u8 0)], none⟩,
    ⟨some 5, .mv (.cst (.int .i64 0)), none⟩])
  (.seq (.reg [⟨some 6, .mv (.cst (.int .i64 (-1))), none⟩])
  (.seq (.seq (.reg [⟨some 7, .mv (.cst (.int .i64 0)), none⟩])
  (.block 0 (.loop
    (.seq (.seq (.reg [⟨some 9, .mv (.tmp 7), none⟩,
      ⟨some 10, .mv (.tmp 0), none⟩,
      ⟨some 11, .lenV (.tmp 10), none⟩,
      ⟨some 12, .bin .lss (.tmp 9) (.tmp 11), none⟩])
    (.cond (.tmp 12)
      .skip
      (.exit 0)))
    (.seq (.block 1 (.seq (.drw [⟨some 15, .load true 4 (.tmp 3), none⟩,
      ⟨some 16, .mv (.tmp 0), none⟩,
      ⟨some 17, .mv (.tmp 7), none⟩,
      ⟨some 18, .iadS 9 (.tmp 16) (.tmp 17), none⟩,
      ⟨some 19, .fadr 0 (.tmp 18), none⟩,
      ⟨some 20, .load true 4 (.tmp 19), none⟩,
      ⟨some 21, .mv (.tmp 0), none⟩,
      ⟨some 22, .mv (.tmp 7), none⟩,
      ⟨some 23, .iadS 9 (.tmp 21) (.tmp 22), none⟩,
      ⟨some 24, .fadr 4 (.tmp 23), none⟩,
      ⟨some 25, .load false 1 (.tmp 24), none⟩,
      ⟨some 26, .call 11 [(.tmp 15), (.tmp 20), (.tmp 25)], none⟩,
      ⟨some 27, .mv (.tmp 26), none⟩,
      ⟨some 28, .mv (.tmp 6), some (27, true)⟩,
      ⟨some 29, .bin .lss (.tmp 28) (.cst (.int .i64 0)), some (27, true)⟩,
      ⟨some 30, .mv (.tmp 29), some (27, true)⟩,
      ⟨some 31, .mv (.tmp 0), some (30, false)⟩,
      ⟨some 32, .mv (.tmp 7), some (30, false)⟩,
      ⟨some 33, .iadS 9 (.tmp 31) (.tmp 32), some (30, false)⟩,
      ⟨some 34, .fadr 4 (.tmp 33), some (30, false)⟩,
      ⟨some 35, .load false 1 (.tmp 34), some (30, false)⟩,
      ⟨some 36, .mv (.tmp 0), some (30, false)⟩,
      ⟨some 37, .mv (.tmp 6), some (30, false)⟩,
      ⟨some 38, .iadS 9 (.tmp 36) (.tmp 37), some (30, false)⟩,
      ⟨some 39, .fadr 4 (.tmp 38), some (30, false)⟩,
      ⟨some 40, .load false 1 (.tmp 39), some (30, false)⟩,
      ⟨some 41, .bin .gtr (.tmp 35) (.tmp 40), some (30, false)⟩,
      ⟨some 42, .pick (.tmp 30) (.cst (.bool true)) (.tmp 41), some (27, true)⟩,
      ⟨some 43, .pick (.tmp 27) (.tmp 42) (.cst (.bool false)), none⟩] [[], [], [], [], [], [], [], [], [], [], [], [], [], [], [], [], [], [], [], [], [], [], [], [], [], [], [], [], []])
    (.cond (.tmp 43)
      (.reg [⟨some 44, .mv (.tmp 7), none⟩,
        ⟨some 6, .mv (.tmp 44), none⟩])
      .skip)))
    (.reg [⟨some 13, .mv (.tmp 7), none⟩,
      ⟨some 14, .bin .add (.tmp 13) (.cst (.int .i64 1)), none⟩,
      ⟨some 7, .mv (.tmp 14), none⟩]))))))
  (.seq (.reg [⟨some 45, .build [(.int .u8 0), (.int .u8 0), (.int .u8 0), (.int .u8 0)] [], none⟩,
    ⟨some 8, .newa [(.int .u8 0), (.int .u8 0), (.int .u8 0), (.int .u8 0)], none⟩,
    ⟨none, .store 4 (.tmp 8) (.tmp 45), none⟩])
  (.seq (.seq (.reg [⟨some 46, .mv (.tmp 6), none⟩,
    ⟨some 47, .bin .lss (.tmp 46) (.cst (.int .i64 0)), none⟩])
  (.cond (.tmp 47)
    (.seq (.reg [⟨some 48, .load true 4 (.tmp 8), none⟩,
      ⟨none, .store 4 (.tmp 4) (.tmp 48), none⟩,
      ⟨some 5, .mv (.cst (.int .i64 15)), none⟩])
    .ret)
    .skip))
  (.seq (.seq (.reg [⟨some 49, .mv (.tmp 0), none⟩,
    ⟨some 50, .mv (.tmp 6), none⟩,
    ⟨some 51, .iadS 9 (.tmp 49) (.tmp 50), none⟩,
    ⟨some 52, .fadr 5 (.tmp 51), none⟩,
    ⟨some 53, .load true 4 (.tmp 52), none⟩,
    ⟨some 54, .load true 4 (.tmp 8), none⟩,
    ⟨some 55, .eqA false [0, 0, 0, 0] (.tmp 53) (.tmp 54), none⟩])
  (.cond (.tmp 55)
    (.seq (.reg [⟨some 56, .load true 4 (.tmp 3), none⟩,
      ⟨none, .store 4 (.tmp 4) (.tmp 56), none⟩,
      ⟨some 5, .mv (.cst (.int .i64 0)), none⟩])
    .ret)
    .skip))
  (.seq (.reg [⟨some 57, .mv (.tmp 0), none⟩,
    ⟨some 58, .mv (.tmp 6), none⟩,
    ⟨some 59, .iadS 9 (.tmp 57) (.tmp 58), none⟩,
    ⟨some 60, .fadr 5 (.tmp 59), none⟩,
    ⟨some 61, .load true 4 (.tmp 60), none⟩,
    ⟨none, .store 4 (.tmp 4) (.tmp 61), none⟩,
    ⟨some 5, .mv (.cst (.int .i64 0)), none⟩])
  .ret)))))))
theorem p_caravelref14_Find : Try.f10.body.bind (compC Try.prog 62) = some c_caravelref14_Find := by kernel_rfl
theorem r_caravelref14_Find : tellR Try.prog Try.f10.results.toList = some [.c 4 true 4, .t 5] := by kernel_rfl

/-- caravel/caravelref04.Within: 3 in. -/
def c_caravelref04_Within : ACode :=
  (.seq (.reg [⟨some 3, .boxa (.tmp 0), none⟩,
    ⟨some 4, .boxa (.tmp 1), none⟩,
    ⟨some 6, .mv (.cst (.bool false)), none⟩])
  (.seq (.seq (.reg [⟨some 10, .mv (.tmp 2), none⟩,
    ⟨some 11, .bin .lss (.tmp 10) (.cst (.int .i64 0)), none⟩,
    ⟨some 12, .mv (.tmp 11), none⟩,
    ⟨some 13, .mv (.tmp 2), some (12, false)⟩,
    ⟨some 14, .bin .gtr (.tmp 13) (.cst (.int .i64 32)), some (12, false)⟩,
    ⟨some 15, .pick (.tmp 12) (.cst (.bool true)) (.tmp 14), none⟩])
  (.cond (.tmp 15)
    (.seq (.reg [⟨some 6, .mv (.cst (.bool false)), none⟩])
    .ret)
    .skip))
  (.seq (.drw [⟨some 16, .load true 4 (.tmp 3), none⟩,
    ⟨some 17, .call 21 [(.tmp 16)], none⟩,
    ⟨some 18, .load true 4 (.tmp 4), none⟩,
    ⟨some 19, .call 21 [(.tmp 18)], none⟩,
    ⟨some 7, .mv (.tmp 17), none⟩,
    ⟨some 8, .mv (.tmp 19), none⟩] [[], [], [], [], [], []])
  (.seq (.seq (.reg [⟨some 20, .mv (.tmp 2), none⟩,
    ⟨some 9, .mv (.tmp 20), none⟩])
  (.block 0 (.loop
    (.seq (.seq (.reg [⟨some 21, .mv (.tmp 9), none⟩,
      ⟨some 22, .bin .lss (.tmp 21) (.cst (.int .i64 32)), none⟩])
    (.cond (.tmp 22)
      .skip
      (.exit 0)))
    (.seq (.block 1 (.reg [⟨some 25, .mv (.tmp 7), none⟩,
      ⟨some 26, .bin .quo (.tmp 25) (.cst (.int .i64 2)), none⟩,
      ⟨some 27, .mv (.tmp 8), none⟩,
      ⟨some 28, .bin .quo (.tmp 27) (.cst (.int .i64 2)), none⟩,
      ⟨some 7, .mv (.tmp 26), none⟩,
      ⟨some 8, .mv (.tmp 28), none⟩]))
    (.reg [⟨some 23, .mv (.tmp 9), none⟩,
      ⟨some 24, .bin .add (.tmp 23) (.cst (.int .i64 1)), none⟩,
      ⟨some 9, .mv (.tmp 24), none⟩]))))))
  (.seq (.reg [⟨some 29, .mv (.tmp 7), none⟩,
    ⟨some 30, .mv (.tmp 8), none⟩,
    ⟨some 31, .bin .eql (.tmp 29) (.tmp 30), none⟩,
    ⟨some 6, .mv (.tmp 31), none⟩])
  .ret)))))
theorem p_caravelref04_Within : Try.f11.body.bind (compC Try.prog 32) = some c_caravelref04_Within := by kernel_rfl
theorem r_caravelref04_Within : tellR Try.prog Try.f11.results.toList = some [.t 6] := by kernel_rfl

/-- caravel/route.Right: 1 in. -/
def c_route_Right : ACode :=
  (.seq (.reg [⟨some 2, .mv (.cst (.bool false)), none⟩])
  (.seq (.seq (.reg [⟨some 5, .mv (.tmp 0), none⟩,
    ⟨some 6, .lenV (.tmp 5), none⟩,
    ⟨some 7, .mv (.cst (.int .i64 0)), none⟩])
  (.block 0 (.loop
    (.seq (.reg [⟨some 8, .bin .lss (.tmp 7) (.tmp 6), none⟩])
    (.seq (.cond (.tmp 8)
      .skip
      (.exit 0))
    (.seq (.block 1 (.seq (.reg [⟨some 9, .mv (.tmp 7), none⟩,
      ⟨some 10, .iadS 9 (.tmp 5) (.tmp 7), none⟩,
      ⟨some 11, .load true 9 (.tmp 10), none⟩,
      ⟨some 4, .newb [(.int .u8 0), (.int .u8 0), (.int .u8 0), (.int .u8 0), (.int .i64 0), (.int .u8 0), (.int .u8 0), (.int .u8 0), (.int .u8 0)], none⟩,
      ⟨some 3, .mv (.tmp 9), none⟩,
      ⟨none, .store 9 (.tmp 4) (.tmp 11), none⟩])
    (.seq (.drw [⟨some 12, .fadr 4 (.tmp 4), none⟩,
      ⟨some 13, .load false 1 (.tmp 12), none⟩,
      ⟨some 14, .bin .lss (.tmp 13) (.cst (.int .i64 0)), none⟩,
      ⟨some 15, .mv (.tmp 14), none⟩,
      ⟨some 16, .fadr 4 (.tmp 4), some (15, false)⟩,
      ⟨some 17, .load false 1 (.tmp 16), some (15, false)⟩,
      ⟨some 18, .bin .gtr (.tmp 17) (.cst (.int .i64 32)), some (15, false)⟩,
      ⟨some 19, .pick (.tmp 15) (.cst (.bool true)) (.tmp 18), none⟩,
      ⟨some 20, .mv (.tmp 19), none⟩,
      ⟨some 21, .fadr 0 (.tmp 4), some (20, false)⟩,
      ⟨some 22, .load true 4 (.tmp 21), some (20, false)⟩,
      ⟨some 23, .fadr 4 (.tmp 4), some (20, false)⟩,
      ⟨some 24, .load false 1 (.tmp 23), some (20, false)⟩,
      ⟨some 25, .call 22 [(.tmp 22), (.tmp 24)], some (20, false)⟩,
      ⟨some 26, .fadr 0 (.tmp 4), some (20, false)⟩,
      ⟨some 27, .load true 4 (.tmp 26), some (20, false)⟩,
      ⟨some 28, .eqA true [0, 0, 0, 0] (.tmp 25) (.tmp 27), some (20, false)⟩,
      ⟨some 29, .pick (.tmp 20) (.cst (.bool true)) (.tmp 28), none⟩,
      ⟨some 30, .mv (.tmp 29), none⟩,
      ⟨some 31, .mv (.tmp 3), some (30, false)⟩,
      ⟨some 32, .bin .gtr (.tmp 31) (.cst (.int .i64 0)), some (30, false)⟩,
      ⟨some 33, .mv (.tmp 32), some (30, false)⟩,
      ⟨some 34, .mv (.tmp 0), some (33, true)⟩,
      ⟨some 35, .mv (.tmp 3), some (33, true)⟩,
      ⟨some 36, .bin .sub (.tmp 35) (.cst (.int .i64 1)), some (33, true)⟩,
      ⟨some 37, .iadS 9 (.tmp 34) (.tmp 36), some (33, true)⟩,
      ⟨some 38, .load true 9 (.tmp 37), some (33, true)⟩,
      ⟨some 39, .load true 9 (.tmp 4), some (33, true)⟩,
      ⟨some 40, .call 23 [(.tmp 38), (.tmp 39)], some (33, true)⟩,
      ⟨some 41, .bin .geq (.tmp 40) (.cst (.int .i64 0)), some (33, true)⟩,
      ⟨some 42, .pick (.tmp 33) (.tmp 41) (.cst (.bool false)), some (30, false)⟩,
      ⟨some 43, .pick (.tmp 30) (.cst (.bool true)) (.tmp 42), none⟩] [[], [], [], [], [], [], [], [], [], [], [], [], [], [], [], [], [], [], [], [], [], [], [], [], [], [], [], [], [], [], [], []])
    (.cond (.tmp 43)
      (.seq (.reg [⟨some 2, .mv (.cst (.bool false)), none⟩])
      .ret)
      .skip))))
    (.reg [⟨some 44, .bin .add (.tmp 7) (.cst (.int .i64 1)), none⟩,
      ⟨some 7, .mv (.tmp 44), none⟩])))))))
  (.seq (.reg [⟨some 45, .mv (.tmp 0), none⟩,
    ⟨some 46, .lenV (.tmp 45), none⟩,
    ⟨some 47, .bin .leq (.tmp 46) (.cst (.int .i64 8)), none⟩,
    ⟨some 2, .mv (.tmp 47), none⟩])
  .ret)))
theorem p_route_Right : Try.f12.body.bind (compC Try.prog 48) = some c_route_Right := by kernel_rfl
theorem r_route_Right : tellR Try.prog Try.f12.results.toList = some [.t 2] := by kernel_rfl

/-- caravel/route.Del: 3 in. -/
def c_route_Del : ACode :=
  (.seq (.reg [⟨some 4, .boxa (.tmp 1), none⟩,
    ⟨some 5, .box (.tmp 2), none⟩,
    ⟨some 6, .mv (.cst .nil), none⟩,
    ⟨some 7, .mv (.cst (.int .i64 0)), none⟩])
  (.seq (.reg [⟨some 9, .mv (.tmp 0), none⟩,
    ⟨some 10, .call 25 [(.tmp 9)], none⟩,
    ⟨some 11, .mkf 26 [(.tmp 4), (.tmp 5)], none⟩,
    ⟨some 12, .call 24 [(.tmp 10), (.tmp 11)], none⟩,
    ⟨some 8, .mv (.tmp 12), none⟩])
  (.seq (.seq (.reg [⟨some 13, .mv (.tmp 8), none⟩,
    ⟨some 14, .lenV (.tmp 13), none⟩,
    ⟨some 15, .mv (.tmp 0), none⟩,
    ⟨some 16, .lenV (.tmp 15), none⟩,
    ⟨some 17, .bin .eql (.tmp 14) (.tmp 16), none⟩])
  (.cond (.tmp 17)
    (.seq (.reg [⟨some 18, .mv (.tmp 8), none⟩,
      ⟨some 6, .mv (.tmp 18), none⟩,
      ⟨some 7, .mv (.cst (.int .i64 2)), none⟩])
    .ret)
    .skip))
  (.seq (.reg [⟨some 19, .mv (.tmp 8), none⟩,
    ⟨some 6, .mv (.tmp 19), none⟩,
    ⟨some 7, .mv (.cst (.int .i64 0)), none⟩])
  .ret))))
theorem p_route_Del : Try.f13.body.bind (compC Try.prog 20) = some c_route_Del := by kernel_rfl
theorem r_route_Del : tellR Try.prog Try.f13.results.toList = some [.t 6, .t 7] := by kernel_rfl

/-- caravel/caravelref14.Del: 3 in. -/
def c_caravelref14_Del : ACode :=
  (.seq (.reg [⟨some 4, .boxa (.tmp 1), none⟩,
    ⟨some 6, .mv (.cst .nil), none⟩,
    ⟨some 7, .mv (.cst (.int .i64 0)), none⟩])
  (.seq (.seq (.reg [⟨some 8, .mv (.cst (.int .i64 0)), none⟩])
  (.block 0 (.loop
    (.seq (.seq (.reg [⟨some 10, .mv (.tmp 8), none⟩,
      ⟨some 11, .mv (.tmp 0), none⟩,
      ⟨some 12, .lenV (.tmp 11), none⟩,
      ⟨some 13, .bin .lss (.tmp 10) (.tmp 12), none⟩])
    (.cond (.tmp 13)
      .skip
      (.exit 0)))
    (.seq (.block 1 (.seq (.reg [⟨some 16, .mv (.tmp 0), none⟩,
      ⟨some 17, .mv (.tmp 8), none⟩,
      ⟨some 18, .iadS 9 (.tmp 16) (.tmp 17), none⟩,
      ⟨some 19, .fadr 0 (.tmp 18), none⟩,
      ⟨some 20, .load true 4 (.tmp 19), none⟩,
      ⟨some 21, .load true 4 (.tmp 4), none⟩,
      ⟨some 22, .eqA false [0, 0, 0, 0] (.tmp 20) (.tmp 21), none⟩,
      ⟨some 23, .mv (.tmp 22), none⟩,
      ⟨some 24, .mv (.tmp 0), some (23, true)⟩,
      ⟨some 25, .mv (.tmp 8), some (23, true)⟩,
      ⟨some 26, .iadS 9 (.tmp 24) (.tmp 25), some (23, true)⟩,
      ⟨some 27, .fadr 4 (.tmp 26), some (23, true)⟩,
      ⟨some 28, .load false 1 (.tmp 27), some (23, true)⟩,
      ⟨some 29, .mv (.tmp 2), some (23, true)⟩,
      ⟨some 30, .bin .eql (.tmp 28) (.tmp 29), some (23, true)⟩,
      ⟨some 31, .pick (.tmp 23) (.tmp 30) (.cst (.bool false)), none⟩])
    (.cond (.tmp 31)
      (.seq (.reg [⟨some 32, .bsl 9 [], none⟩,
        ⟨some 33, .mv (.tmp 0), none⟩,
        ⟨some 34, .mv (.tmp 8), none⟩,
        ⟨some 35, .slS 9 (.tmp 33) none (some (.tmp 34)) none, none⟩,
        ⟨some 36, .app 9 24 (.tmp 32) (.tmp 35), none⟩,
        ⟨some 9, .mv (.tmp 36), none⟩])
      (.seq (.reg [⟨some 37, .mv (.tmp 9), none⟩,
        ⟨some 38, .mv (.tmp 0), none⟩,
        ⟨some 39, .mv (.tmp 8), none⟩,
        ⟨some 40, .bin .add (.tmp 39) (.cst (.int .i64 1)), none⟩,
        ⟨some 41, .slS 9 (.tmp 38) (some (.tmp 40)) none none, none⟩,
        ⟨some 42, .app 9 24 (.tmp 37) (.tmp 41), none⟩,
        ⟨some 6, .mv (.tmp 42), none⟩,
        ⟨some 7, .mv (.cst (.int .i64 0)), none⟩])
      .ret))
      .skip)))
    (.reg [⟨some 14, .mv (.tmp 8), none⟩,
      ⟨some 15, .bin .add (.tmp 14) (.cst (.int .i64 1)), none⟩,
      ⟨some 8, .mv (.tmp 15), none⟩]))))))
  (.seq (.reg [⟨some 43, .mv (.tmp 0), none⟩,
    ⟨some 6, .mv (.tmp 43), none⟩,
    ⟨some 7, .mv (.cst (.int .i64 2)), none⟩])
  .ret)))
theorem p_caravelref14_Del : Try.f14.body.bind (compC Try.prog 44) = some c_caravelref14_Del := by kernel_rfl
theorem r_caravelref14_Del : tellR Try.prog Try.f14.results.toList = some [.t 6, .t 7] := by kernel_rfl

/-- caravel/caravelref14.Same: 2 in. -/
def c_caravelref14_Same : ACode :=
  (.seq (.reg [⟨some 4, .mv (.cst (.bool false)), none⟩])
  (.seq (.seq (.reg [⟨some 6, .mv (.tmp 0), none⟩,
    ⟨some 7, .lenV (.tmp 6), none⟩,
    ⟨some 8, .mv (.tmp 1), none⟩,
    ⟨some 9, .lenV (.tmp 8), none⟩,
    ⟨some 10, .bin .neq (.tmp 7) (.tmp 9), none⟩])
  (.cond (.tmp 10)
    (.seq (.reg [⟨some 4, .mv (.cst (.bool false)), none⟩])
    .ret)
    .skip))
  (.seq (.seq (.reg [⟨some 5, .mv (.cst (.int .i64 0)), none⟩])
  (.block 0 (.loop
    (.seq (.seq (.reg [⟨some 11, .mv (.tmp 5), none⟩,
      ⟨some 12, .mv (.tmp 0), none⟩,
      ⟨some 13, .lenV (.tmp 12), none⟩,
      ⟨some 14, .bin .lss (.tmp 11) (.tmp 13), none⟩])
    (.cond (.tmp 14)
      .skip
      (.exit 0)))
    (.seq (.block 1 (.seq (.reg [⟨some 17, .mv (.tmp 0), none⟩,
      ⟨some 18, .mv (.tmp 5), none⟩,
      ⟨some 19, .iadS 9 (.tmp 17) (.tmp 18), none⟩,
      ⟨some 20, .load true 9 (.tmp 19), none⟩,
      ⟨some 21, .mv (.tmp 1), none⟩,
      ⟨some 22, .mv (.tmp 5), none⟩,
      ⟨some 23, .iadS 9 (.tmp 21) (.tmp 22), none⟩,
      ⟨some 24, .load true 9 (.tmp 23), none⟩,
      ⟨some 25, .eqA true [0, 0, 0, 0, 0, 0, 0, 0, 0] (.tmp 20) (.tmp 24), none⟩])
    (.cond (.tmp 25)
      (.seq (.reg [⟨some 4, .mv (.cst (.bool false)), none⟩])
      .ret)
      .skip)))
    (.reg [⟨some 15, .mv (.tmp 5), none⟩,
      ⟨some 16, .bin .add (.tmp 15) (.cst (.int .i64 1)), none⟩,
      ⟨some 5, .mv (.tmp 16), none⟩]))))))
  (.seq (.reg [⟨some 4, .mv (.cst (.bool true)), none⟩])
  .ret))))
theorem p_caravelref14_Same : Try.f15.body.bind (compC Try.prog 26) = some c_caravelref14_Same := by kernel_rfl
theorem r_caravelref14_Same : tellR Try.prog Try.f15.results.toList = some [.t 4] := by kernel_rfl

/-- caravel/route.Add: 2 in. -/
def c_route_Add : ACode :=
  (.seq (.reg [⟨some 3, .box (.tmp 1), none⟩,
    ⟨some 4, .mv (.cst .nil), none⟩,
    ⟨some 5, .mv (.cst (.int .i64 0)), none⟩])
  (.seq (.reg [⟨some 9, .mv (.tmp 0), none⟩,
    ⟨some 10, .call 25 [(.tmp 9)], none⟩,
    ⟨some 6, .mv (.tmp 10), none⟩])
  (.seq (.seq (.reg [⟨some 11, .fadr 4 (.tmp 3), none⟩,
    ⟨some 12, .load false 1 (.tmp 11), none⟩,
    ⟨some 13, .bin .lss (.tmp 12) (.cst (.int .i64 0)), none⟩,
    ⟨some 14, .mv (.tmp 13), none⟩,
    ⟨some 15, .fadr 4 (.tmp 3), some (14, false)⟩,
    ⟨some 16, .load false 1 (.tmp 15), some (14, false)⟩,
    ⟨some 17, .bin .gtr (.tmp 16) (.cst (.int .i64 32)), some (14, false)⟩,
    ⟨some 18, .pick (.tmp 14) (.cst (.bool true)) (.tmp 17), none⟩])
  (.cond (.tmp 18)
    (.seq (.reg [⟨some 19, .mv (.tmp 6), none⟩,
      ⟨some 4, .mv (.tmp 19), none⟩,
      ⟨some 5, .mv (.cst (.int .i64 1)), none⟩])
    .ret)
    .skip))
  (.seq (.reg [⟨some 20, .fadr 0 (.tmp 3), none⟩,
    ⟨some 21, .load true 4 (.tmp 20), none⟩,
    ⟨some 22, .fadr 4 (.tmp 3), none⟩,
    ⟨some 23, .load false 1 (.tmp 22), none⟩,
    ⟨some 24, .call 22 [(.tmp 21), (.tmp 23)], none⟩,
    ⟨some 25, .fadr 0 (.tmp 3), none⟩,
    ⟨none, .store 4 (.tmp 25) (.tmp 24), none⟩])
  (.seq (.reg [⟨some 27, .mv (.tmp 0), none⟩,
    ⟨some 28, .load true 9 (.tmp 3), none⟩,
    ⟨some 29, .call 27 [(.tmp 27), (.tmp 28), (.cst (.fn 23 []))], none⟩,
    ⟨some 26, .mv (.tmp 29), none⟩,
    ⟨some 30, .ext (.tmp 26) 0, none⟩,
    ⟨some 31, .ext (.tmp 26) 1, none⟩,
    ⟨some 7, .mv (.tmp 30), none⟩,
    ⟨some 8, .mv (.tmp 31), none⟩])
  (.seq (.block 0 (.seq (.reg [⟨some 33, .mv (.tmp 8), none⟩,
    ⟨some 32, .mv (.tmp 33), none⟩])
  (.cond (.tmp 32)
    (.seq (.reg [⟨some 34, .mv (.tmp 6), none⟩,
      ⟨some 4, .mv (.tmp 34), none⟩,
      ⟨some 5, .mv (.cst (.int .i64 9)), none⟩])
    .ret)
    (.seq (.reg [⟨some 36, .mv (.tmp 0), none⟩,
      ⟨some 37, .lenV (.tmp 36), none⟩,
      ⟨some 38, .bin .geq (.tmp 37) (.cst (.int .i64 8)), none⟩,
      ⟨some 35, .mv (.tmp 38), none⟩])
    (.cond (.tmp 35)
      (.seq (.reg [⟨some 39, .mv (.tmp 6), none⟩,
        ⟨some 4, .mv (.tmp 39), none⟩,
        ⟨some 5, .mv (.cst (.int .i64 5)), none⟩])
      .ret)
      .skip)))))
  (.seq (.reg [⟨some 40, .mv (.tmp 6), none⟩,
    ⟨some 41, .mv (.tmp 7), none⟩,
    ⟨some 42, .load true 9 (.tmp 3), none⟩,
    ⟨some 43, .bsl 9 [(.tmp 42)], none⟩,
    ⟨some 44, .call 28 [(.tmp 40), (.tmp 41), (.tmp 43)], none⟩,
    ⟨some 4, .mv (.tmp 44), none⟩,
    ⟨some 5, .mv (.cst (.int .i64 0)), none⟩])
  .ret)))))))
theorem p_route_Add : Try.f16.body.bind (compC Try.prog 45) = some c_route_Add := by kernel_rfl
theorem r_route_Add : tellR Try.prog Try.f16.results.toList = some [.t 4, .t 5] := by kernel_rfl

/-- caravel/caravelref14.Add: 2 in. -/
def c_caravelref14_Add : ACode :=
  (.seq (.reg [⟨some 3, .box (.tmp 1), none⟩,
    ⟨some 4, .mv (.cst .nil), none⟩,
    ⟨some 5, .mv (.cst (.int .i64 0)), none⟩])
  (.seq (.seq (.reg [⟨some 9, .fadr 4 (.tmp 3), none⟩,
    ⟨some 10, .load false 1 (.tmp 9), none⟩,
    ⟨some 11, .bin .lss (.tmp 10) (.cst (.int .i64 0)), none⟩,
    ⟨some 12, .mv (.tmp 11), none⟩,
    ⟨some 13, .fadr 4 (.tmp 3), some (12, false)⟩,
    ⟨some 14, .load false 1 (.tmp 13), some (12, false)⟩,
    ⟨some 15, .bin .gtr (.tmp 14) (.cst (.int .i64 32)), some (12, false)⟩,
    ⟨some 16, .pick (.tmp 12) (.cst (.bool true)) (.tmp 15), none⟩])
  (.cond (.tmp 16)
    (.seq (.reg [⟨some 17, .mv (.tmp 0), none⟩,
      ⟨some 4, .mv (.tmp 17), none⟩,
      ⟨some 5, .mv (.cst (.int .i64 1)), none⟩])
    .ret)
    .skip))
  (.seq (.reg [⟨some 18, .fadr 0 (.tmp 3), none⟩,
    ⟨some 19, .load true 4 (.tmp 18), none⟩,
    ⟨some 20, .fadr 4 (.tmp 3), none⟩,
    ⟨some 21, .load false 1 (.tmp 20), none⟩,
    ⟨some 22, .call 18 [(.tmp 19), (.tmp 21)], none⟩,
    ⟨some 23, .fadr 0 (.tmp 3), none⟩,
    ⟨none, .store 4 (.tmp 23) (.tmp 22), none⟩])
  (.seq (.reg [⟨some 6, .mv (.cst .nil), none⟩])
  (.seq (.reg [⟨some 7, .mv (.cst (.bool false)), none⟩])
  (.seq (.seq (.reg [⟨some 8, .mv (.cst (.int .i64 0)), none⟩])
  (.block 0 (.loop
    (.seq (.seq (.reg [⟨some 24, .mv (.tmp 8), none⟩,
      ⟨some 25, .mv (.tmp 0), none⟩,
      ⟨some 26, .lenV (.tmp 25), none⟩,
      ⟨some 27, .bin .lss (.tmp 24) (.tmp 26), none⟩])
    (.cond (.tmp 27)
      .skip
      (.exit 0)))
    (.seq (.block 1 (.seq (.seq (.reg [⟨some 30, .mv (.tmp 0), none⟩,
      ⟨some 31, .mv (.tmp 8), none⟩,
      ⟨some 32, .iadS 9 (.tmp 30) (.tmp 31), none⟩,
      ⟨some 33, .fadr 0 (.tmp 32), none⟩,
      ⟨some 34, .load true 4 (.tmp 33), none⟩,
      ⟨some 35, .fadr 0 (.tmp 3), none⟩,
      ⟨some 36, .load true 4 (.tmp 35), none⟩,
      ⟨some 37, .eqA false [0, 0, 0, 0] (.tmp 34) (.tmp 36), none⟩,
      ⟨some 38, .mv (.tmp 37), none⟩,
      ⟨some 39, .mv (.tmp 0), some (38, true)⟩,
      ⟨some 40, .mv (.tmp 8), some (38, true)⟩,
      ⟨some 41, .iadS 9 (.tmp 39) (.tmp 40), some (38, true)⟩,
      ⟨some 42, .fadr 4 (.tmp 41), some (38, true)⟩,
      ⟨some 43, .load false 1 (.tmp 42), some (38, true)⟩,
      ⟨some 44, .fadr 4 (.tmp 3), some (38, true)⟩,
      ⟨some 45, .load false 1 (.tmp 44), some (38, true)⟩,
      ⟨some 46, .bin .eql (.tmp 43) (.tmp 45), some (38, true)⟩,
      ⟨some 47, .pick (.tmp 38) (.tmp 46) (.cst (.bool false)), none⟩])
    (.cond (.tmp 47)
      (.seq (.reg [⟨some 48, .mv (.tmp 0), none⟩,
        ⟨some 4, .mv (.tmp 48), none⟩,
        ⟨some 5, .mv (.cst (.int .i64 9)), none⟩])
      .ret)
      .skip))
    (.seq (.seq (.drw [⟨some 49, .mv (.tmp 7), none⟩,
      ⟨some 50, .not (.tmp 49), none⟩,
      ⟨some 51, .mv (.tmp 50), none⟩,
      ⟨some 52, .load true 9 (.tmp 3), some (51, true)⟩,
      ⟨some 53, .mv (.tmp 0), some (51, true)⟩,
      ⟨some 54, .mv (.tmp 8), some (51, true)⟩,
      ⟨some 55, .iadS 9 (.tmp 53) (.tmp 54), some (51, true)⟩,
      ⟨some 56, .load true 9 (.tmp 55), some (51, true)⟩,
      ⟨some 57, .call 19 [(.tmp 52), (.tmp 56)], some (51, true)⟩,
      ⟨some 58, .pick (.tmp 51) (.tmp 57) (.cst (.bool false)), none⟩] [[], [], [], [], [], [], [], [], [], []])
    (.cond (.tmp 58)
      (.seq (.reg [⟨some 59, .mv (.tmp 6), none⟩,
        ⟨some 60, .load true 9 (.tmp 3), none⟩,
        ⟨some 61, .bsl 9 [(.tmp 60)], none⟩,
        ⟨some 62, .app 9 24 (.tmp 59) (.tmp 61), none⟩,
        ⟨some 6, .mv (.tmp 62), none⟩])
      (.reg [⟨some 7, .mv (.cst (.bool true)), none⟩]))
      .skip))
    (.reg [⟨some 63, .mv (.tmp 6), none⟩,
      ⟨some 64, .mv (.tmp 0), none⟩,
      ⟨some 65, .mv (.tmp 8), none⟩,
      ⟨some 66, .iadS 9 (.tmp 64) (.tmp 65), none⟩,
      ⟨some 67, .load true 9 (.tmp 66), none⟩,
      ⟨some 68, .bsl 9 [(.tmp 67)], none⟩,
      ⟨some 69, .app 9 24 (.tmp 63) (.tmp 68), none⟩,
      ⟨some 6, .mv (.tmp 69), none⟩]))))
    (.reg [⟨some 28, .mv (.tmp 8), none⟩,
      ⟨some 29, .bin .add (.tmp 28) (.cst (.int .i64 1)), none⟩,
      ⟨some 8, .mv (.tmp 29), none⟩]))))))
  (.seq (.seq (.reg [⟨some 70, .mv (.tmp 7), none⟩,
    ⟨some 71, .not (.tmp 70), none⟩])
  (.cond (.tmp 71)
    (.reg [⟨some 72, .mv (.tmp 6), none⟩,
      ⟨some 73, .load true 9 (.tmp 3), none⟩,
      ⟨some 74, .bsl 9 [(.tmp 73)], none⟩,
      ⟨some 75, .app 9 24 (.tmp 72) (.tmp 74), none⟩,
      ⟨some 6, .mv (.tmp 75), none⟩])
    .skip))
  (.seq (.seq (.reg [⟨some 76, .mv (.tmp 6), none⟩,
    ⟨some 77, .lenV (.tmp 76), none⟩,
    ⟨some 78, .bin .gtr (.tmp 77) (.cst (.int .i64 8)), none⟩])
  (.cond (.tmp 78)
    (.seq (.reg [⟨some 79, .mv (.tmp 0), none⟩,
      ⟨some 4, .mv (.tmp 79), none⟩,
      ⟨some 5, .mv (.cst (.int .i64 5)), none⟩])
    .ret)
    .skip))
  (.seq (.reg [⟨some 80, .mv (.tmp 6), none⟩,
    ⟨some 4, .mv (.tmp 80), none⟩,
    ⟨some 5, .mv (.cst (.int .i64 0)), none⟩])
  .ret)))))))))
theorem p_caravelref14_Add : Try.f17.body.bind (compC Try.prog 81) = some c_caravelref14_Add := by kernel_rfl
theorem r_caravelref14_Add : tellR Try.prog Try.f17.results.toList = some [.t 4, .t 5] := by kernel_rfl

/-- caravel/caravelref14.Mask: 2 in. -/
def c_caravelref14_Mask : ACode :=
  (.seq (.reg [⟨some 2, .boxa (.tmp 0), none⟩,
    ⟨some 4, .newa [(.int .u8 0), (.int .u8 0), (.int .u8 0), (.int .u8 0)], none⟩])
  (.seq (.reg [⟨some 8, .load true 4 (.tmp 2), none⟩,
    ⟨some 9, .call 29 [(.tmp 8)], none⟩,
    ⟨some 5, .mv (.tmp 9), none⟩,
    ⟨some 6, .mv (.cst (.int .i64 1)), none⟩])
  (.seq (.seq (.reg [⟨some 10, .mv (.tmp 1), none⟩,
    ⟨some 7, .mv (.tmp 10), none⟩])
  (.block 0 (.loop
    (.seq (.seq (.reg [⟨some 11, .mv (.tmp 7), none⟩,
      ⟨some 12, .bin .lss (.tmp 11) (.cst (.int .i64 32)), none⟩])
    (.cond (.tmp 12)
      .skip
      (.exit 0)))
    (.seq (.block 1 (.reg [⟨some 15, .mv (.tmp 6), none⟩,
      ⟨some 16, .bin .mul (.tmp 15) (.cst (.int .i64 2)), none⟩,
      ⟨some 6, .mv (.tmp 16), none⟩]))
    (.reg [⟨some 13, .mv (.tmp 7), none⟩,
      ⟨some 14, .bin .add (.tmp 13) (.cst (.int .i64 1)), none⟩,
      ⟨some 7, .mv (.tmp 14), none⟩]))))))
  (.seq (.reg [⟨some 17, .mv (.tmp 5), none⟩,
    ⟨some 18, .mv (.tmp 6), none⟩,
    ⟨some 19, .bin .quo (.tmp 17) (.tmp 18), none⟩,
    ⟨some 20, .mv (.tmp 6), none⟩,
    ⟨some 21, .bin .mul (.tmp 19) (.tmp 20), none⟩,
    ⟨some 5, .mv (.tmp 21), none⟩])
  (.seq (.reg [⟨some 22, .mv (.tmp 5), none⟩,
    ⟨some 23, .bin .quo (.tmp 22) (.cst (.int .i64 16777216)), none⟩,
    ⟨some 24, .conv .u8 (.tmp 23), none⟩,
    ⟨some 25, .mv (.tmp 5), none⟩,
    ⟨some 26, .bin .quo (.tmp 25) (.cst (.int .i64 65536)), none⟩,
    ⟨some 27, .conv .u8 (.tmp 26), none⟩,
    ⟨some 28, .mv (.tmp 5), none⟩,
    ⟨some 29, .bin .quo (.tmp 28) (.cst (.int .i64 256)), none⟩,
    ⟨some 30, .conv .u8 (.tmp 29), none⟩,
    ⟨some 31, .mv (.tmp 5), none⟩,
    ⟨some 32, .conv .u8 (.tmp 31), none⟩,
    ⟨some 33, .build [(.int .u8 0), (.int .u8 0), (.int .u8 0), (.int .u8 0)] [(0, 1, (.tmp 24)), (1, 1, (.tmp 27)), (2, 1, (.tmp 30)), (3, 1, (.tmp 32))], none⟩,
    ⟨none, .store 4 (.tmp 4) (.tmp 33), none⟩])
  .ret)))))
theorem p_caravelref14_Mask : Try.f18.body.bind (compC Try.prog 34) = some c_caravelref14_Mask := by kernel_rfl
theorem r_caravelref14_Mask : tellR Try.prog Try.f18.results.toList = some [.c 4 true 4] := by kernel_rfl

/-- caravel/caravelref14.First: 2 in. -/
def c_caravelref14_First : ACode :=
  (.seq (.reg [⟨some 2, .box (.tmp 0), none⟩,
    ⟨some 3, .box (.tmp 1), none⟩,
    ⟨some 4, .mv (.cst (.bool false)), none⟩])
  (.seq (.drw [⟨some 5, .fadr 4 (.tmp 2), none⟩,
    ⟨some 6, .load false 1 (.tmp 5), none⟩,
    ⟨some 7, .fadr 4 (.tmp 3), none⟩,
    ⟨some 8, .load false 1 (.tmp 7), none⟩,
    ⟨some 9, .bin .gtr (.tmp 6) (.tmp 8), none⟩,
    ⟨some 10, .mv (.tmp 9), none⟩,
    ⟨some 11, .fadr 4 (.tmp 2), some (10, false)⟩,
    ⟨some 12, .load false 1 (.tmp 11), some (10, false)⟩,
    ⟨some 13, .fadr 4 (.tmp 3), some (10, false)⟩,
    ⟨some 14, .load false 1 (.tmp 13), some (10, false)⟩,
    ⟨some 15, .bin .eql (.tmp 12) (.tmp 14), some (10, false)⟩,
    ⟨some 16, .mv (.tmp 15), some (10, false)⟩,
    ⟨some 17, .fadr 0 (.tmp 2), some (16, true)⟩,
    ⟨some 18, .load true 4 (.tmp 17), some (16, true)⟩,
    ⟨some 19, .call 29 [(.tmp 18)], some (16, true)⟩,
    ⟨some 20, .fadr 0 (.tmp 3), some (16, true)⟩,
    ⟨some 21, .load true 4 (.tmp 20), some (16, true)⟩,
    ⟨some 22, .call 29 [(.tmp 21)], some (16, true)⟩,
    ⟨some 23, .bin .lss (.tmp 19) (.tmp 22), some (16, true)⟩,
    ⟨some 24, .pick (.tmp 16) (.tmp 23) (.cst (.bool false)), some (10, false)⟩,
    ⟨some 25, .pick (.tmp 10) (.cst (.bool true)) (.tmp 24), none⟩,
    ⟨some 4, .mv (.tmp 25), none⟩] [[], [], [], [], [], [], [], [], [], [], [], [], [], [], [], [], [], [], [], [], [], []])
  .ret))
theorem p_caravelref14_First : Try.f19.body.bind (compC Try.prog 26) = some c_caravelref14_First := by kernel_rfl
theorem r_caravelref14_First : tellR Try.prog Try.f19.results.toList = some [.t 4] := by kernel_rfl

/-- caravel/addr.Within: 3 in. -/
def c_addr_Within : ACode :=
  (.seq (.reg [⟨some 3, .boxa (.tmp 0), none⟩,
    ⟨some 4, .boxa (.tmp 1), none⟩,
    ⟨some 6, .mv (.cst (.bool false)), none⟩])
  (.seq (.seq (.reg [⟨some 9, .mv (.tmp 2), none⟩,
    ⟨some 10, .bin .lss (.tmp 9) (.cst (.int .i64 0)), none⟩,
    ⟨some 11, .mv (.tmp 10), none⟩,
    ⟨some 12, .mv (.tmp 2), some (11, false)⟩,
    ⟨some 13, .bin .gtr (.tmp 12) (.cst (.int .i64 32)), some (11, false)⟩,
    ⟨some 14, .pick (.tmp 11) (.cst (.bool true)) (.tmp 13), none⟩])
  (.cond (.tmp 14)
    (.seq (.reg [⟨some 6, .mv (.cst (.bool false)), none⟩])
    .ret)
    .skip))
  (.seq (.seq (.reg [⟨some 15, .mv (.cst (.int .i64 0)), none⟩])
  (.block 0 (.loop
    (.seq (.reg [⟨some 16, .bin .lss (.tmp 15) (.cst (.int .i64 4)), none⟩])
    (.seq (.cond (.tmp 16)
      .skip
      (.exit 0))
    (.seq (.block 1 (.seq (.reg [⟨some 17, .mv (.tmp 15), none⟩,
      ⟨some 7, .mv (.tmp 17), none⟩])
    (.seq (.reg [⟨some 18, .mv (.tmp 2), none⟩,
      ⟨some 19, .mv (.tmp 7), none⟩,
      ⟨some 20, .bin .mul (.cst (.int .i64 8)) (.tmp 19), none⟩,
      ⟨some 21, .bin .sub (.tmp 18) (.tmp 20), none⟩,
      ⟨some 22, .min [(.tmp 21), (.cst (.int .i64 8))], none⟩,
      ⟨some 23, .max [(.cst (.int .i64 0)), (.tmp 22)], none⟩,
      ⟨some 8, .mv (.tmp 23), none⟩])
    (.seq (.reg [⟨some 24, .mv (.tmp 7), none⟩,
      ⟨some 25, .iadA 1 4 (.tmp 3) (.tmp 24), none⟩,
      ⟨some 26, .load false 1 (.tmp 25), none⟩,
      ⟨some 27, .mv (.tmp 7), none⟩,
      ⟨some 28, .iadA 1 4 (.tmp 4) (.tmp 27), none⟩,
      ⟨some 29, .load false 1 (.tmp 28), none⟩,
      ⟨some 30, .bin .xor (.tmp 26) (.tmp 29), none⟩,
      ⟨some 31, .mv (.tmp 8), none⟩,
      ⟨some 32, .bin .sub (.cst (.int .i64 8)) (.tmp 31), none⟩,
      ⟨some 33, .bin .shr (.tmp 30) (.tmp 32), none⟩,
      ⟨some 34, .bin .neq (.tmp 33) (.cst (.int .u8 0)), none⟩])
    (.cond (.tmp 34)
      (.seq (.reg [⟨some 6, .mv (.cst (.bool false)), none⟩])
      .ret)
      .skip)))))
    (.reg [⟨some 35, .bin .add (.tmp 15) (.cst (.int .i64 1)), none⟩,
      ⟨some 15, .mv (.tmp 35), none⟩])))))))
  (.seq (.reg [⟨some 6, .mv (.cst (.bool true)), none⟩])
  .ret))))
theorem p_addr_Within : Try.f20.body.bind (compC Try.prog 36) = some c_addr_Within := by kernel_rfl
theorem r_addr_Within : tellR Try.prog Try.f20.results.toList = some [.t 6] := by kernel_rfl

/-- caravel/caravelref04.word: 1 in. -/
def c_caravelref04_word : ACode :=
  (.seq (.reg [⟨some 1, .boxa (.tmp 0), none⟩,
    ⟨some 2, .mv (.cst (.int .i64 0)), none⟩])
  (.seq (.reg [⟨some 3, .mv (.cst (.int .i64 0)), none⟩])
  (.seq (.seq (.reg [⟨some 4, .mv (.cst (.int .i64 0)), none⟩])
  (.block 0 (.loop
    (.seq (.seq (.reg [⟨some 5, .mv (.tmp 4), none⟩,
      ⟨some 6, .bin .lss (.tmp 5) (.cst (.int .i64 4)), none⟩])
    (.cond (.tmp 6)
      .skip
      (.exit 0)))
    (.seq (.block 1 (.reg [⟨some 9, .mv (.tmp 3), none⟩,
      ⟨some 10, .bin .mul (.cst (.int .i64 256)) (.tmp 9), none⟩,
      ⟨some 11, .mv (.tmp 4), none⟩,
      ⟨some 12, .iadA 1 4 (.tmp 1) (.tmp 11), none⟩,
      ⟨some 13, .load false 1 (.tmp 12), none⟩,
      ⟨some 14, .conv .i64 (.tmp 13), none⟩,
      ⟨some 15, .bin .add (.tmp 10) (.tmp 14), none⟩,
      ⟨some 3, .mv (.tmp 15), none⟩]))
    (.reg [⟨some 7, .mv (.tmp 4), none⟩,
      ⟨some 8, .bin .add (.tmp 7) (.cst (.int .i64 1)), none⟩,
      ⟨some 4, .mv (.tmp 8), none⟩]))))))
  (.seq (.reg [⟨some 16, .mv (.tmp 3), none⟩,
    ⟨some 2, .mv (.tmp 16), none⟩])
  .ret))))
theorem p_caravelref04_word : Try.f21.body.bind (compC Try.prog 17) = some c_caravelref04_word := by kernel_rfl
theorem r_caravelref04_word : tellR Try.prog Try.f21.results.toList = some [.t 2] := by kernel_rfl

/-- caravel/route.mask: 2 in. -/
def c_route_mask : ACode :=
  (.seq (.reg [⟨some 2, .boxa (.tmp 0), none⟩,
    ⟨some 4, .newa [(.int .u8 0), (.int .u8 0), (.int .u8 0), (.int .u8 0)], none⟩])
  (.seq (.seq (.reg [⟨some 7, .mv (.cst (.int .i64 0)), none⟩])
  (.block 0 (.loop
    (.seq (.reg [⟨some 8, .bin .lss (.tmp 7) (.cst (.int .i64 4)), none⟩])
    (.seq (.cond (.tmp 8)
      .skip
      (.exit 0))
    (.seq (.block 1 (.seq (.reg [⟨some 9, .mv (.tmp 7), none⟩,
      ⟨some 5, .mv (.tmp 9), none⟩])
    (.seq (.reg [⟨some 10, .mv (.tmp 1), none⟩,
      ⟨some 11, .mv (.tmp 5), none⟩,
      ⟨some 12, .bin .mul (.cst (.int .i64 8)) (.tmp 11), none⟩,
      ⟨some 13, .bin .sub (.tmp 10) (.tmp 12), none⟩,
      ⟨some 14, .min [(.tmp 13), (.cst (.int .i64 8))], none⟩,
      ⟨some 15, .max [(.cst (.int .i64 0)), (.tmp 14)], none⟩,
      ⟨some 6, .mv (.tmp 15), none⟩])
    (.reg [⟨some 16, .mv (.tmp 5), none⟩,
      ⟨some 17, .iadA 1 4 (.tmp 2) (.tmp 16), none⟩,
      ⟨some 18, .load false 1 (.tmp 17), none⟩,
      ⟨some 19, .mv (.tmp 6), none⟩,
      ⟨some 20, .bin .shr (.cst (.int .u8 255)) (.tmp 19), none⟩,
      ⟨some 21, .com (.tmp 20), none⟩,
      ⟨some 22, .bin .and (.tmp 18) (.tmp 21), none⟩,
      ⟨some 23, .iadA 1 4 (.tmp 2) (.tmp 16), none⟩,
      ⟨none, .store 1 (.tmp 23) (.tmp 22), none⟩]))))
    (.reg [⟨some 24, .bin .add (.tmp 7) (.cst (.int .i64 1)), none⟩,
      ⟨some 7, .mv (.tmp 24), none⟩])))))))
  (.seq (.reg [⟨some 25, .load true 4 (.tmp 2), none⟩,
    ⟨none, .store 4 (.tmp 4) (.tmp 25), none⟩])
  .ret)))
theorem p_route_mask : Try.f22.body.bind (compC Try.prog 26) = some c_route_mask := by kernel_rfl
theorem r_route_mask : tellR Try.prog Try.f22.results.toList = some [.c 4 true 4] := by kernel_rfl

/-- caravel/route.order: 2 in. -/
def c_route_order : ACode :=
  (.seq (.reg [⟨some 2, .box (.tmp 0), none⟩,
    ⟨some 3, .box (.tmp 1), none⟩,
    ⟨some 4, .mv (.cst (.int .i64 0)), none⟩])
  (.seq (.drw [⟨some 5, .fadr 4 (.tmp 3), none⟩,
    ⟨some 6, .load false 1 (.tmp 5), none⟩,
    ⟨some 7, .fadr 4 (.tmp 2), none⟩,
    ⟨some 8, .load false 1 (.tmp 7), none⟩,
    ⟨some 9, .call 31 [(.tmp 6), (.tmp 8)], none⟩,
    ⟨some 10, .fadr 0 (.tmp 2), none⟩,
    ⟨some 11, .slA 4 (.tmp 10) none none, none⟩,
    ⟨some 12, .fadr 0 (.tmp 3), none⟩,
    ⟨some 13, .slA 4 (.tmp 12) none none, none⟩,
    ⟨some 14, .call 32 [(.tmp 11), (.tmp 13)], none⟩,
    ⟨some 15, .bsl 1 [(.tmp 9), (.tmp 14)], none⟩,
    ⟨some 16, .call 30 [(.tmp 15)], none⟩,
    ⟨some 4, .mv (.tmp 16), none⟩] [[], [], [], [], [], [], [], [], [], [], [], [], []])
  .ret))
theorem p_route_order : Try.f23.body.bind (compC Try.prog 17) = some c_route_order := by kernel_rfl
theorem r_route_order : tellR Try.prog Try.f23.results.toList = some [.t 4] := by kernel_rfl

/-- slices.DeleteFunc[[]caravel/api.Route,caravel/api.Route]: 2 in. -/
def c_slices_DeleteFunc__caravel_api_Route_caravel_api_Route : ACode :=
  (.seq (.reg [⟨some 4, .mv (.cst .nil), none⟩])
  (.seq (.reg [⟨some 8, .mv (.tmp 0), none⟩,
    ⟨some 9, .mv (.tmp 1), none⟩,
    ⟨some 10, .call 33 [(.tmp 8), (.tmp 9)], none⟩,
    ⟨some 5, .mv (.tmp 10), none⟩])
  (.seq (.seq (.reg [⟨some 11, .mv (.tmp 5), none⟩,
    ⟨some 12, .bin .eql (.tmp 11) (.cst (.int .i64 (-1))), none⟩])
  (.cond (.tmp 12)
    (.seq (.reg [⟨some 13, .mv (.tmp 0), none⟩,
      ⟨some 4, .mv (.tmp 13), none⟩])
    .ret)
    .skip))
  (.seq (.seq (.reg [⟨some 14, .mv (.tmp 5), none⟩,
    ⟨some 15, .bin .add (.tmp 14) (.cst (.int .i64 1)), none⟩,
    ⟨some 6, .mv (.tmp 15), none⟩])
  (.block 0 (.loop
    (.seq (.seq (.reg [⟨some 16, .mv (.tmp 6), none⟩,
      ⟨some 17, .mv (.tmp 0), none⟩,
      ⟨some 18, .lenV (.tmp 17), none⟩,
      ⟨some 19, .bin .lss (.tmp 16) (.tmp 18), none⟩])
    (.cond (.tmp 19)
      .skip
      (.exit 0)))
    (.seq (.block 1 (.seq (.reg [⟨some 22, .mv (.tmp 0), none⟩,
      ⟨some 23, .mv (.tmp 6), none⟩,
      ⟨some 24, .iadS 9 (.tmp 22) (.tmp 23), none⟩,
      ⟨some 25, .load true 9 (.tmp 24), none⟩,
      ⟨some 7, .newb [(.int .u8 0), (.int .u8 0), (.int .u8 0), (.int .u8 0), (.int .i64 0), (.int .u8 0), (.int .u8 0), (.int .u8 0), (.int .u8 0)], none⟩,
      ⟨none, .store 9 (.tmp 7) (.tmp 25), none⟩])
    (.seq (.reg [⟨some 26, .mv (.tmp 1), none⟩,
      ⟨some 27, .load true 9 (.tmp 7), none⟩,
      ⟨some 28, .callv (.tmp 26) [(.tmp 27)], none⟩,
      ⟨some 29, .not (.tmp 28), none⟩])
    (.cond (.tmp 29)
      (.seq (.reg [⟨some 30, .mv (.tmp 0), none⟩,
        ⟨some 31, .mv (.tmp 5), none⟩,
        ⟨some 32, .load true 9 (.tmp 7), none⟩,
        ⟨some 33, .iadS 9 (.tmp 30) (.tmp 31), none⟩,
        ⟨none, .store 9 (.tmp 33) (.tmp 32), none⟩])
      (.reg [⟨some 34, .mv (.tmp 5), none⟩,
        ⟨some 35, .bin .add (.tmp 34) (.cst (.int .i64 1)), none⟩,
        ⟨some 5, .mv (.tmp 35), none⟩]))
      .skip))))
    (.reg [⟨some 20, .mv (.tmp 6), none⟩,
      ⟨some 21, .bin .add (.tmp 20) (.cst (.int .i64 1)), none⟩,
      ⟨some 6, .mv (.tmp 21), none⟩]))))))
  (.seq (.reg [⟨some 36, .mv (.tmp 0), none⟩,
    ⟨some 37, .mv (.tmp 5), none⟩,
    ⟨some 38, .slS 9 (.tmp 36) (some (.tmp 37)) none none, none⟩,
    ⟨none, .clr 9 (.agg [(.int .u8 0), (.int .u8 0), (.int .u8 0), (.int .u8 0), (.int .i64 0), (.int .u8 0), (.int .u8 0), (.int .u8 0), (.int .u8 0)]) (.tmp 38), none⟩])
  (.seq (.reg [⟨some 39, .mv (.tmp 0), none⟩,
    ⟨some 40, .mv (.tmp 5), none⟩,
    ⟨some 41, .slS 9 (.tmp 39) none (some (.tmp 40)) none, none⟩,
    ⟨some 4, .mv (.tmp 41), none⟩])
  .ret))))))
theorem p_slices_DeleteFunc__caravel_api_Route_caravel_api_Route : Try.f24.body.bind (compC Try.prog 42) = some c_slices_DeleteFunc__caravel_api_Route_caravel_api_Route := by kernel_rfl
theorem r_slices_DeleteFunc__caravel_api_Route_caravel_api_Route : tellR Try.prog Try.f24.results.toList = some [.t 4] := by kernel_rfl

/-- slices.Clone[[]caravel/api.Route,caravel/api.Route]: 1 in. -/
def c_slices_Clone__caravel_api_Route_caravel_api_Route : ACode :=
  (.seq (.reg [⟨some 2, .mv (.cst .nil), none⟩])
  (.seq (.seq (.reg [⟨some 3, .mv (.tmp 0), none⟩,
    ⟨some 4, .isN false (.tmp 3), none⟩])
  (.cond (.tmp 4)
    (.seq (.reg [⟨some 2, .mv (.cst .nil), none⟩])
    .ret)
    .skip))
  (.seq (.reg [⟨some 5, .bsl 9 [], none⟩,
    ⟨some 6, .mv (.tmp 0), none⟩,
    ⟨some 7, .app 9 24 (.tmp 5) (.tmp 6), none⟩,
    ⟨some 2, .mv (.tmp 7), none⟩])
  .ret)))
theorem p_slices_Clone__caravel_api_Route_caravel_api_Route : Try.f25.body.bind (compC Try.prog 8) = some c_slices_Clone__caravel_api_Route_caravel_api_Route := by kernel_rfl
theorem r_slices_Clone__caravel_api_Route_caravel_api_Route : tellR Try.prog Try.f25.results.toList = some [.t 2] := by kernel_rfl

/-- caravel/route.Del$1: 3 in. -/
def c_route_Del_1 : ACode :=
  (.seq (.reg [⟨some 3, .box (.tmp 0), none⟩,
    ⟨some 4, .mv (.cst (.bool false)), none⟩])
  (.seq (.reg [⟨some 5, .fadr 0 (.tmp 3), none⟩,
    ⟨some 6, .load true 4 (.tmp 5), none⟩,
    ⟨some 7, .load true 4 (.tmp 1), none⟩,
    ⟨some 8, .eqA false [0, 0, 0, 0] (.tmp 6) (.tmp 7), none⟩,
    ⟨some 9, .mv (.tmp 8), none⟩,
    ⟨some 10, .fadr 4 (.tmp 3), some (9, true)⟩,
    ⟨some 11, .load false 1 (.tmp 10), some (9, true)⟩,
    ⟨some 12, .load false 1 (.tmp 2), some (9, true)⟩,
    ⟨some 13, .bin .eql (.tmp 11) (.tmp 12), some (9, true)⟩,
    ⟨some 14, .pick (.tmp 9) (.tmp 13) (.cst (.bool false)), none⟩,
    ⟨some 4, .mv (.tmp 14), none⟩])
  .ret))
theorem p_route_Del_1 : Try.f26.body.bind (compC Try.prog 15) = some c_route_Del_1 := by kernel_rfl
theorem r_route_Del_1 : tellR Try.prog Try.f26.results.toList = some [.t 4] := by kernel_rfl

/-- slices.BinarySearchFunc[[]caravel/api.Route,caravel/api.Route,caravel/api.Route]: 3 in. -/
def c_slices_BinarySearchFunc__caravel_api_Route_caravel_api_Route_caravel_api_Route : ACode :=
  (.seq (.reg [⟨some 4, .box (.tmp 1), none⟩,
    ⟨some 6, .mv (.cst (.int .i64 0)), none⟩,
    ⟨some 7, .mv (.cst (.bool false)), none⟩])
  (.seq (.reg [⟨some 12, .mv (.tmp 0), none⟩,
    ⟨some 13, .lenV (.tmp 12), none⟩,
    ⟨some 8, .mv (.tmp 13), none⟩])
  (.seq (.reg [⟨some 14, .mv (.tmp 8), none⟩,
    ⟨some 9, .mv (.cst (.int .i64 0)), none⟩,
    ⟨some 10, .mv (.tmp 14), none⟩])
  (.seq (.block 0 (.loop
    (.seq (.seq (.reg [⟨some 15, .mv (.tmp 9), none⟩,
      ⟨some 16, .mv (.tmp 10), none⟩,
      ⟨some 17, .bin .lss (.tmp 15) (.tmp 16), none⟩])
    (.cond (.tmp 17)
      .skip
      (.exit 0)))
    (.block 1 (.seq (.reg [⟨some 18, .mv (.tmp 9), none⟩,
      ⟨some 19, .mv (.tmp 10), none⟩,
      ⟨some 20, .bin .add (.tmp 18) (.tmp 19), none⟩,
      ⟨some 21, .conv .u64 (.tmp 20), none⟩,
      ⟨some 22, .bin .shr (.tmp 21) (.cst (.int .u64 1)), none⟩,
      ⟨some 23, .conv .i64 (.tmp 22), none⟩,
      ⟨some 11, .mv (.tmp 23), none⟩])
    (.seq (.drw [⟨some 24, .mv (.tmp 2), none⟩,
      ⟨some 25, .mv (.tmp 0), none⟩,
      ⟨some 26, .mv (.tmp 11), none⟩,
      ⟨some 27, .iadS 9 (.tmp 25) (.tmp 26), none⟩,
      ⟨some 28, .load true 9 (.tmp 27), none⟩,
      ⟨some 29, .load true 9 (.tmp 4), none⟩,
      ⟨some 30, .callv (.tmp 24) [(.tmp 28), (.tmp 29)], none⟩,
      ⟨some 31, .bin .lss (.tmp 30) (.cst (.int .i64 0)), none⟩] [[], [], [], [], [], [], [], []])
    (.cond (.tmp 31)
      (.reg [⟨some 32, .mv (.tmp 11), none⟩,
        ⟨some 33, .bin .add (.tmp 32) (.cst (.int .i64 1)), none⟩,
        ⟨some 9, .mv (.tmp 33), none⟩])
      (.reg [⟨some 34, .mv (.tmp 11), none⟩,
        ⟨some 10, .mv (.tmp 34), none⟩]))))))))
  (.seq (.drw [⟨some 35, .mv (.tmp 9), none⟩,
    ⟨some 36, .mv (.tmp 9), none⟩,
    ⟨some 37, .mv (.tmp 8), none⟩,
    ⟨some 38, .bin .lss (.tmp 36) (.tmp 37), none⟩,
    ⟨some 39, .mv (.tmp 38), none⟩,
    ⟨some 40, .mv (.tmp 2), some (39, true)⟩,
    ⟨some 41, .mv (.tmp 0), some (39, true)⟩,
    ⟨some 42, .mv (.tmp 9), some (39, true)⟩,
    ⟨some 43, .iadS 9 (.tmp 41) (.tmp 42), some (39, true)⟩,
    ⟨some 44, .load true 9 (.tmp 43), some (39, true)⟩,
    ⟨some 45, .load true 9 (.tmp 4), some (39, true)⟩,
    ⟨some 46, .callv (.tmp 40) [(.tmp 44), (.tmp 45)], some (39, true)⟩,
    ⟨some 47, .bin .eql (.tmp 46) (.cst (.int .i64 0)), some (39, true)⟩,
    ⟨some 48, .pick (.tmp 39) (.tmp 47) (.cst (.bool false)), none⟩,
    ⟨some 6, .mv (.tmp 35), none⟩,
    ⟨some 7, .mv (.tmp 48), none⟩] [[], [], [], [], [], [], [], [], [], [], [], [], [], [], [], []])
  .ret)))))
theorem p_slices_BinarySearchFunc__caravel_api_Route_caravel_api_Route_caravel_api_Route : Try.f27.body.bind (compC Try.prog 49) = some c_slices_BinarySearchFunc__caravel_api_Route_caravel_api_Route_caravel_api_Route := by kernel_rfl
theorem r_slices_BinarySearchFunc__caravel_api_Route_caravel_api_Route_caravel_api_Route : tellR Try.prog Try.f27.results.toList = some [.t 6, .t 7] := by kernel_rfl

/-- slices.Insert[[]caravel/api.Route,caravel/api.Route]: 3 in. -/
def c_slices_Insert__caravel_api_Route_caravel_api_Route : ACode :=
  (.seq (.reg [⟨some 6, .mv (.cst .nil), none⟩])
  (.seq (.reg [⟨some 10, .mv (.tmp 0), none⟩,
    ⟨some 11, .mv (.tmp 1), none⟩,
    ⟨some 12, .slS 9 (.tmp 10) (some (.tmp 11)) none none, none⟩])
  (.seq (.reg [⟨some 13, .mv (.tmp 2), none⟩,
    ⟨some 14, .lenV (.tmp 13), none⟩,
    ⟨some 7, .mv (.tmp 14), none⟩])
  (.seq (.seq (.reg [⟨some 15, .mv (.tmp 7), none⟩,
    ⟨some 16, .bin .eql (.tmp 15) (.cst (.int .i64 0)), none⟩])
  (.cond (.tmp 16)
    (.seq (.reg [⟨some 17, .mv (.tmp 0), none⟩,
      ⟨some 6, .mv (.tmp 17), none⟩])
    .ret)
    .skip))
  (.seq (.reg [⟨some 18, .mv (.tmp 0), none⟩,
    ⟨some 19, .lenV (.tmp 18), none⟩,
    ⟨some 8, .mv (.tmp 19), none⟩])
  (.seq (.seq (.reg [⟨some 20, .mv (.tmp 1), none⟩,
    ⟨some 21, .mv (.tmp 8), none⟩,
    ⟨some 22, .bin .eql (.tmp 20) (.tmp 21), none⟩])
  (.cond (.tmp 22)
    (.seq (.reg [⟨some 23, .mv (.tmp 0), none⟩,
      ⟨some 24, .mv (.tmp 2), none⟩,
      ⟨some 25, .app 9 24 (.tmp 23) (.tmp 24), none⟩,
      ⟨some 6, .mv (.tmp 25), none⟩])
    .ret)
    .skip))
  (.seq (.seq (.reg [⟨some 26, .mv (.tmp 8), none⟩,
    ⟨some 27, .mv (.tmp 7), none⟩,
    ⟨some 28, .bin .add (.tmp 26) (.tmp 27), none⟩,
    ⟨some 29, .mv (.tmp 0), none⟩,
    ⟨some 30, .capV (.tmp 29), none⟩,
    ⟨some 31, .bin .gtr (.tmp 28) (.tmp 30), none⟩])
  (.cond (.tmp 31)
    (.seq (.reg [⟨some 32, .mv (.tmp 0), none⟩,
      ⟨some 33, .mv (.tmp 1), none⟩,
      ⟨some 34, .slS 9 (.tmp 32) none (some (.tmp 33)) none, none⟩,
      ⟨some 35, .mv (.tmp 8), none⟩,
      ⟨some 36, .mv (.tmp 7), none⟩,
      ⟨some 37, .bin .add (.tmp 35) (.tmp 36), none⟩,
      ⟨some 38, .mv (.tmp 1), none⟩,
      ⟨some 39, .bin .sub (.tmp 37) (.tmp 38), none⟩,
      ⟨some 40, .appz 9 24 (.agg [(.int .u8 0), (.int .u8 0), (.int .u8 0), (.int .u8 0), (.int .i64 0), (.int .u8 0), (.int .u8 0), (.int .u8 0), (.int .u8 0)]) (.tmp 34) (.tmp 39), none⟩,
      ⟨some 9, .mv (.tmp 40), none⟩])
    (.seq (.reg [⟨some 41, .mv (.tmp 9), none⟩,
      ⟨some 42, .mv (.tmp 1), none⟩,
      ⟨some 43, .slS 9 (.tmp 41) (some (.tmp 42)) none none, none⟩,
      ⟨some 44, .mv (.tmp 2), none⟩,
      ⟨some 45, .cpy 9 (.tmp 43) (.tmp 44), none⟩])
    (.seq (.reg [⟨some 46, .mv (.tmp 9), none⟩,
      ⟨some 47, .mv (.tmp 1), none⟩,
      ⟨some 48, .mv (.tmp 7), none⟩,
      ⟨some 49, .bin .add (.tmp 47) (.tmp 48), none⟩,
      ⟨some 50, .slS 9 (.tmp 46) (some (.tmp 49)) none none, none⟩,
      ⟨some 51, .mv (.tmp 0), none⟩,
      ⟨some 52, .mv (.tmp 1), none⟩,
      ⟨some 53, .slS 9 (.tmp 51) (some (.tmp 52)) none none, none⟩,
      ⟨some 54, .cpy 9 (.tmp 50) (.tmp 53), none⟩])
    (.seq (.reg [⟨some 55, .mv (.tmp 9), none⟩,
      ⟨some 6, .mv (.tmp 55), none⟩])
    .ret))))
    .skip))
  (.seq (.reg [⟨some 56, .mv (.tmp 0), none⟩,
    ⟨some 57, .mv (.tmp 8), none⟩,
    ⟨some 58, .mv (.tmp 7), none⟩,
    ⟨some 59, .bin .add (.tmp 57) (.tmp 58), none⟩,
    ⟨some 60, .slS 9 (.tmp 56) none (some (.tmp 59)) none, none⟩,
    ⟨some 0, .mv (.tmp 60), none⟩])
  (.seq (.seq (.reg [⟨some 61, .mv (.tmp 2), none⟩,
    ⟨some 62, .mv (.tmp 0), none⟩,
    ⟨some 63, .mv (.tmp 1), none⟩,
    ⟨some 64, .mv (.tmp 7), none⟩,
    ⟨some 65, .bin .add (.tmp 63) (.tmp 64), none⟩,
    ⟨some 66, .slS 9 (.tmp 62) (some (.tmp 65)) none none, none⟩,
    ⟨some 67, .call 34 [(.tmp 61), (.tmp 66)], none⟩,
    ⟨some 68, .not (.tmp 67), none⟩])
  (.cond (.tmp 68)
    (.seq (.reg [⟨some 69, .mv (.tmp 0), none⟩,
      ⟨some 70, .mv (.tmp 1), none⟩,
      ⟨some 71, .mv (.tmp 7), none⟩,
      ⟨some 72, .bin .add (.tmp 70) (.tmp 71), none⟩,
      ⟨some 73, .slS 9 (.tmp 69) (some (.tmp 72)) none none, none⟩,
      ⟨some 74, .mv (.tmp 0), none⟩,
      ⟨some 75, .mv (.tmp 1), none⟩,
      ⟨some 76, .slS 9 (.tmp 74) (some (.tmp 75)) none none, none⟩,
      ⟨some 77, .cpy 9 (.tmp 73) (.tmp 76), none⟩])
    (.seq (.reg [⟨some 78, .mv (.tmp 0), none⟩,
      ⟨some 79, .mv (.tmp 1), none⟩,
      ⟨some 80, .slS 9 (.tmp 78) (some (.tmp 79)) none none, none⟩,
      ⟨some 81, .mv (.tmp 2), none⟩,
      ⟨some 82, .cpy 9 (.tmp 80) (.tmp 81), none⟩])
    (.seq (.reg [⟨some 83, .mv (.tmp 0), none⟩,
      ⟨some 6, .mv (.tmp 83), none⟩])
    .ret)))
    .skip))
  (.seq (.reg [⟨some 84, .mv (.tmp 0), none⟩,
    ⟨some 85, .mv (.tmp 8), none⟩,
    ⟨some 86, .slS 9 (.tmp 84) (some (.tmp 85)) none none, none⟩,
    ⟨some 87, .mv (.tmp 2), none⟩,
    ⟨some 88, .cpy 9 (.tmp 86) (.tmp 87), none⟩])
  (.seq (.reg [⟨some 89, .mv (.tmp 0), none⟩,
    ⟨some 90, .mv (.tmp 1), none⟩,
    ⟨some 91, .slS 9 (.tmp 89) (some (.tmp 90)) none none, none⟩,
    ⟨some 92, .mv (.tmp 7), none⟩,
    ⟨some 93, .call 35 [(.tmp 91), (.tmp 92)], none⟩])
  (.seq (.reg [⟨some 94, .mv (.tmp 0), none⟩,
    ⟨some 6, .mv (.tmp 94), none⟩])
  .ret))))))))))))
theorem p_slices_Insert__caravel_api_Route_caravel_api_Route : Try.f28.body.bind (compC Try.prog 95) = some c_slices_Insert__caravel_api_Route_caravel_api_Route := by kernel_rfl
theorem r_slices_Insert__caravel_api_Route_caravel_api_Route : tellR Try.prog Try.f28.results.toList = some [.t 6] := by kernel_rfl

/-- caravel/caravelref14.word: 1 in. -/
def c_caravelref14_word : ACode :=
  (.seq (.reg [⟨some 1, .boxa (.tmp 0), none⟩,
    ⟨some 2, .mv (.cst (.int .i64 0)), none⟩])
  (.seq (.reg [⟨some 3, .iadA 1 4 (.tmp 1) (.cst (.int .i64 0)), none⟩,
    ⟨some 4, .load false 1 (.tmp 3), none⟩,
    ⟨some 5, .conv .i64 (.tmp 4), none⟩,
    ⟨some 6, .bin .mul (.tmp 5) (.cst (.int .i64 256)), none⟩,
    ⟨some 7, .iadA 1 4 (.tmp 1) (.cst (.int .i64 1)), none⟩,
    ⟨some 8, .load false 1 (.tmp 7), none⟩,
    ⟨some 9, .conv .i64 (.tmp 8), none⟩,
    ⟨some 10, .bin .add (.tmp 6) (.tmp 9), none⟩,
    ⟨some 11, .bin .mul (.tmp 10) (.cst (.int .i64 256)), none⟩,
    ⟨some 12, .iadA 1 4 (.tmp 1) (.cst (.int .i64 2)), none⟩,
    ⟨some 13, .load false 1 (.tmp 12), none⟩,
    ⟨some 14, .conv .i64 (.tmp 13), none⟩,
    ⟨some 15, .bin .add (.tmp 11) (.tmp 14), none⟩,
    ⟨some 16, .bin .mul (.tmp 15) (.cst (.int .i64 256)), none⟩,
    ⟨some 17, .iadA 1 4 (.tmp 1) (.cst (.int .i64 3)), none⟩,
    ⟨some 18, .load false 1 (.tmp 17), none⟩,
    ⟨some 19, .conv .i64 (.tmp 18), none⟩,
    ⟨some 20, .bin .add (.tmp 16) (.tmp 19), none⟩,
    ⟨some 2, .mv (.tmp 20), none⟩])
  .ret))
theorem p_caravelref14_word : Try.f29.body.bind (compC Try.prog 21) = some c_caravelref14_word := by kernel_rfl
theorem r_caravelref14_word : tellR Try.prog Try.f29.results.toList = some [.t 2] := by kernel_rfl

/-- cmp.Or[int]: 1 in. -/
def c_cmp_Or_int : ACode :=
  (.seq (.reg [⟨some 2, .mv (.cst (.int .i64 0)), none⟩])
  (.seq (.reg [⟨some 3, .mv (.cst (.int .i64 0)), none⟩])
  (.seq (.seq (.reg [⟨some 6, .mv (.tmp 0), none⟩,
    ⟨some 7, .lenV (.tmp 6), none⟩,
    ⟨some 8, .mv (.cst (.int .i64 0)), none⟩])
  (.block 0 (.loop
    (.seq (.reg [⟨some 9, .bin .lss (.tmp 8) (.tmp 7), none⟩])
    (.seq (.cond (.tmp 9)
      .skip
      (.exit 0))
    (.seq (.block 1 (.seq (.reg [⟨some 10, .iadS 1 (.tmp 6) (.tmp 8), none⟩,
      ⟨some 11, .load false 1 (.tmp 10), none⟩,
      ⟨some 5, .mv (.tmp 11), none⟩])
    (.seq (.reg [⟨some 12, .mv (.tmp 5), none⟩,
      ⟨some 13, .mv (.tmp 3), none⟩,
      ⟨some 14, .bin .neq (.tmp 12) (.tmp 13), none⟩])
    (.cond (.tmp 14)
      (.seq (.reg [⟨some 15, .mv (.tmp 5), none⟩,
        ⟨some 2, .mv (.tmp 15), none⟩])
      .ret)
      .skip))))
    (.reg [⟨some 16, .bin .add (.tmp 8) (.cst (.int .i64 1)), none⟩,
      ⟨some 8, .mv (.tmp 16), none⟩])))))))
  (.seq (.reg [⟨some 17, .mv (.tmp 3), none⟩,
    ⟨some 2, .mv (.tmp 17), none⟩])
  .ret))))
theorem p_cmp_Or_int : Try.f30.body.bind (compC Try.prog 18) = some c_cmp_Or_int := by kernel_rfl
theorem r_cmp_Or_int : tellR Try.prog Try.f30.results.toList = some [.t 2] := by kernel_rfl

/-- cmp.Compare[int]: 2 in. -/
def c_cmp_Compare_int : ACode :=
  (.seq (.reg [⟨some 4, .mv (.cst (.int .i64 0)), none⟩])
  (.seq (.reg [⟨some 7, .mv (.tmp 0), none⟩,
    ⟨some 8, .call 36 [(.tmp 7)], none⟩,
    ⟨some 5, .mv (.tmp 8), none⟩])
  (.seq (.reg [⟨some 9, .mv (.tmp 1), none⟩,
    ⟨some 10, .call 36 [(.tmp 9)], none⟩,
    ⟨some 6, .mv (.tmp 10), none⟩])
  (.seq (.seq (.reg [⟨some 11, .mv (.tmp 5), none⟩])
  (.cond (.tmp 11)
    (.seq (.seq (.reg [⟨some 12, .mv (.tmp 6), none⟩])
    (.cond (.tmp 12)
      (.seq (.reg [⟨some 4, .mv (.cst (.int .i64 0)), none⟩])
      .ret)
      .skip))
    (.seq (.reg [⟨some 4, .mv (.cst (.int .i64 (-1))), none⟩])
    .ret))
    .skip))
  (.seq (.seq (.reg [⟨some 13, .mv (.tmp 6), none⟩])
  (.cond (.tmp 13)
    (.seq (.reg [⟨some 4, .mv (.cst (.int .i64 1)), none⟩])
    .ret)
    .skip))
  (.seq (.seq (.reg [⟨some 14, .mv (.tmp 0), none⟩,
    ⟨some 15, .mv (.tmp 1), none⟩,
    ⟨some 16, .bin .lss (.tmp 14) (.tmp 15), none⟩])
  (.cond (.tmp 16)
    (.seq (.reg [⟨some 4, .mv (.cst (.int .i64 (-1))), none⟩])
    .ret)
    .skip))
  (.seq (.seq (.reg [⟨some 17, .mv (.tmp 0), none⟩,
    ⟨some 18, .mv (.tmp 1), none⟩,
    ⟨some 19, .bin .gtr (.tmp 17) (.tmp 18), none⟩])
  (.cond (.tmp 19)
    (.seq (.reg [⟨some 4, .mv (.cst (.int .i64 1)), none⟩])
    .ret)
    .skip))
  (.seq (.reg [⟨some 4, .mv (.cst (.int .i64 0)), none⟩])
  .ret))))))))
theorem p_cmp_Compare_int : Try.f31.body.bind (compC Try.prog 20) = some c_cmp_Compare_int := by kernel_rfl
theorem r_cmp_Compare_int : tellR Try.prog Try.f31.results.toList = some [.t 4] := by kernel_rfl

/-- slices.Compare[[]byte,byte]: 2 in. -/
def c_slices_Compare__byte_byte : ACode :=
  (.seq (.reg [⟨some 4, .mv (.cst (.int .i64 0)), none⟩])
  (.seq (.seq (.reg [⟨some 9, .mv (.tmp 0), none⟩,
    ⟨some 10, .lenV (.tmp 9), none⟩,
    ⟨some 11, .mv (.cst (.int .i64 0)), none⟩])
  (.block 0 (.loop
    (.seq (.reg [⟨some 12, .bin .lss (.tmp 11) (.tmp 10), none⟩])
    (.seq (.cond (.tmp 12)
      .skip
      (.exit 0))
    (.seq (.block 1 (.seq (.reg [⟨some 13, .mv (.tmp 11), none⟩,
      ⟨some 14, .iadS 1 (.tmp 9) (.tmp 11), none⟩,
      ⟨some 15, .load false 1 (.tmp 14), none⟩,
      ⟨some 5, .mv (.tmp 13), none⟩,
      ⟨some 6, .mv (.tmp 15), none⟩])
    (.seq (.seq (.reg [⟨some 16, .mv (.tmp 5), none⟩,
      ⟨some 17, .mv (.tmp 1), none⟩,
      ⟨some 18, .lenV (.tmp 17), none⟩,
      ⟨some 19, .bin .geq (.tmp 16) (.tmp 18), none⟩])
    (.cond (.tmp 19)
      (.seq (.reg [⟨some 4, .mv (.cst (.int .i64 1)), none⟩])
      .ret)
      .skip))
    (.seq (.reg [⟨some 20, .mv (.tmp 1), none⟩,
      ⟨some 21, .mv (.tmp 5), none⟩,
      ⟨some 22, .iadS 1 (.tmp 20) (.tmp 21), none⟩,
      ⟨some 23, .load false 1 (.tmp 22), none⟩,
      ⟨some 7, .mv (.tmp 23), none⟩])
    (.seq (.reg [⟨some 24, .mv (.tmp 6), none⟩,
      ⟨some 25, .mv (.tmp 7), none⟩,
      ⟨some 26, .call 37 [(.tmp 24), (.tmp 25)], none⟩,
      ⟨some 8, .mv (.tmp 26), none⟩])
    (.seq (.reg [⟨some 27, .mv (.tmp 8), none⟩,
      ⟨some 28, .bin .neq (.tmp 27) (.cst (.int .i64 0)), none⟩])
    (.cond (.tmp 28)
      (.seq (.reg [⟨some 29, .mv (.tmp 8), none⟩,
        ⟨some 4, .mv (.tmp 29), none⟩])
      .ret)
      .skip)))))))
    (.reg [⟨some 30, .bin .add (.tmp 11) (.cst (.int .i64 1)), none⟩,
      ⟨some 11, .mv (.tmp 30), none⟩])))))))
  (.seq (.seq (.reg [⟨some 31, .mv (.tmp 0), none⟩,
    ⟨some 32, .lenV (.tmp 31), none⟩,
    ⟨some 33, .mv (.tmp 1), none⟩,
    ⟨some 34, .lenV (.tmp 33), none⟩,
    ⟨some 35, .bin .lss (.tmp 32) (.tmp 34), none⟩])
  (.cond (.tmp 35)
    (.seq (.reg [⟨some 4, .mv (.cst (.int .i64 (-1))), none⟩])
    .ret)
    .skip))
  (.seq (.reg [⟨some 4, .mv (.cst (.int .i64 0)), none⟩])
  .ret))))
theorem p_slices_Compare__byte_byte : Try.f32.body.bind (compC Try.prog 36) = some c_slices_Compare__byte_byte := by kernel_rfl
theorem r_slices_Compare__byte_byte : tellR Try.prog Try.f32.results.toList = some [.t 4] := by kernel_rfl

/-- slices.IndexFunc[[]caravel/api.Route,caravel/api.Route]: 2 in. -/
def c_slices_IndexFunc__caravel_api_Route_caravel_api_Route : ACode :=
  (.seq (.reg [⟨some 4, .mv (.cst (.int .i64 0)), none⟩])
  (.seq (.seq (.reg [⟨some 6, .mv (.tmp 0), none⟩,
    ⟨some 7, .lenV (.tmp 6), none⟩,
    ⟨some 8, .mv (.cst (.int .i64 0)), none⟩])
  (.block 0 (.loop
    (.seq (.reg [⟨some 9, .bin .lss (.tmp 8) (.tmp 7), none⟩])
    (.seq (.cond (.tmp 9)
      .skip
      (.exit 0))
    (.seq (.block 1 (.seq (.reg [⟨some 10, .mv (.tmp 8), none⟩,
      ⟨some 5, .mv (.tmp 10), none⟩])
    (.seq (.reg [⟨some 11, .mv (.tmp 1), none⟩,
      ⟨some 12, .mv (.tmp 0), none⟩,
      ⟨some 13, .mv (.tmp 5), none⟩,
      ⟨some 14, .iadS 9 (.tmp 12) (.tmp 13), none⟩,
      ⟨some 15, .load true 9 (.tmp 14), none⟩,
      ⟨some 16, .callv (.tmp 11) [(.tmp 15)], none⟩])
    (.cond (.tmp 16)
      (.seq (.reg [⟨some 17, .mv (.tmp 5), none⟩,
        ⟨some 4, .mv (.tmp 17), none⟩])
      .ret)
      .skip))))
    (.reg [⟨some 18, .bin .add (.tmp 8) (.cst (.int .i64 1)), none⟩,
      ⟨some 8, .mv (.tmp 18), none⟩])))))))
  (.seq (.reg [⟨some 4, .mv (.cst (.int .i64 (-1))), none⟩])
  .ret)))
theorem p_slices_IndexFunc__caravel_api_Route_caravel_api_Route : Try.f33.body.bind (compC Try.prog 19) = some c_slices_IndexFunc__caravel_api_Route_caravel_api_Route := by kernel_rfl
theorem r_slices_IndexFunc__caravel_api_Route_caravel_api_Route : tellR Try.prog Try.f33.results.toList = some [.t 4] := by kernel_rfl

/-- slices.rotateRight[caravel/api.Route]: 2 in. -/
def c_slices_rotateRight_caravel_api_Route : ACode :=
  (.reg [⟨some 4, .mv (.tmp 0), none⟩,
    ⟨some 5, .mv (.tmp 0), none⟩,
    ⟨some 6, .lenV (.tmp 5), none⟩,
    ⟨some 7, .mv (.tmp 1), none⟩,
    ⟨some 8, .bin .sub (.tmp 6) (.tmp 7), none⟩,
    ⟨some 9, .call 38 [(.tmp 4), (.tmp 8)], none⟩])
theorem p_slices_rotateRight_caravel_api_Route : Try.f35.body.bind (compC Try.prog 10) = some c_slices_rotateRight_caravel_api_Route := by kernel_rfl
theorem r_slices_rotateRight_caravel_api_Route : tellR Try.prog Try.f35.results.toList = some [] := by kernel_rfl

/-- cmp.isNaN[int]: 1 in. -/
def c_cmp_isNaN_int : ACode :=
  (.seq (.reg [⟨some 2, .mv (.cst (.bool false)), none⟩])
  (.seq (.reg [⟨some 3, .mv (.tmp 0), none⟩,
    ⟨some 4, .mv (.tmp 0), none⟩,
    ⟨some 5, .bin .neq (.tmp 3) (.tmp 4), none⟩,
    ⟨some 2, .mv (.tmp 5), none⟩])
  .ret))
theorem p_cmp_isNaN_int : Try.f36.body.bind (compC Try.prog 6) = some c_cmp_isNaN_int := by kernel_rfl
theorem r_cmp_isNaN_int : tellR Try.prog Try.f36.results.toList = some [.t 2] := by kernel_rfl

/-- cmp.Compare[byte]: 2 in. -/
def c_cmp_Compare_byte : ACode :=
  (.seq (.reg [⟨some 4, .mv (.cst (.int .i64 0)), none⟩])
  (.seq (.reg [⟨some 7, .mv (.tmp 0), none⟩,
    ⟨some 8, .call 39 [(.tmp 7)], none⟩,
    ⟨some 5, .mv (.tmp 8), none⟩])
  (.seq (.reg [⟨some 9, .mv (.tmp 1), none⟩,
    ⟨some 10, .call 39 [(.tmp 9)], none⟩,
    ⟨some 6, .mv (.tmp 10), none⟩])
  (.seq (.seq (.reg [⟨some 11, .mv (.tmp 5), none⟩])
  (.cond (.tmp 11)
    (.seq (.seq (.reg [⟨some 12, .mv (.tmp 6), none⟩])
    (.cond (.tmp 12)
      (.seq (.reg [⟨some 4, .mv (.cst (.int .i64 0)), none⟩])
      .ret)
      .skip))
    (.seq (.reg [⟨some 4, .mv (.cst (.int .i64 (-1))), none⟩])
    .ret))
    .skip))
  (.seq (.seq (.reg [⟨some 13, .mv (.tmp 6), none⟩])
  (.cond (.tmp 13)
    (.seq (.reg [⟨some 4, .mv (.cst (.int .i64 1)), none⟩])
    .ret)
    .skip))
  (.seq (.seq (.reg [⟨some 14, .mv (.tmp 0), none⟩,
    ⟨some 15, .mv (.tmp 1), none⟩,
    ⟨some 16, .bin .lss (.tmp 14) (.tmp 15), none⟩])
  (.cond (.tmp 16)
    (.seq (.reg [⟨some 4, .mv (.cst (.int .i64 (-1))), none⟩])
    .ret)
    .skip))
  (.seq (.seq (.reg [⟨some 17, .mv (.tmp 0), none⟩,
    ⟨some 18, .mv (.tmp 1), none⟩,
    ⟨some 19, .bin .gtr (.tmp 17) (.tmp 18), none⟩])
  (.cond (.tmp 19)
    (.seq (.reg [⟨some 4, .mv (.cst (.int .i64 1)), none⟩])
    .ret)
    .skip))
  (.seq (.reg [⟨some 4, .mv (.cst (.int .i64 0)), none⟩])
  .ret))))))))
theorem p_cmp_Compare_byte : Try.f37.body.bind (compC Try.prog 20) = some c_cmp_Compare_byte := by kernel_rfl
theorem r_cmp_Compare_byte : tellR Try.prog Try.f37.results.toList = some [.t 4] := by kernel_rfl

/-- slices.rotateLeft[caravel/api.Route]: 2 in. -/
def c_slices_rotateLeft_caravel_api_Route : ACode :=
  (.seq (.reg [⟨some 4, .mv (.tmp 0), none⟩,
    ⟨some 5, .mv (.tmp 1), none⟩,
    ⟨some 6, .slS 9 (.tmp 4) none (some (.tmp 5)) none, none⟩,
    ⟨some 7, .call 40 [(.tmp 6)], none⟩])
  (.seq (.reg [⟨some 8, .mv (.tmp 0), none⟩,
    ⟨some 9, .mv (.tmp 1), none⟩,
    ⟨some 10, .slS 9 (.tmp 8) (some (.tmp 9)) none none, none⟩,
    ⟨some 11, .call 40 [(.tmp 10)], none⟩])
  (.reg [⟨some 12, .mv (.tmp 0), none⟩,
    ⟨some 13, .call 40 [(.tmp 12)], none⟩])))
theorem p_slices_rotateLeft_caravel_api_Route : Try.f38.body.bind (compC Try.prog 14) = some c_slices_rotateLeft_caravel_api_Route := by kernel_rfl
theorem r_slices_rotateLeft_caravel_api_Route : tellR Try.prog Try.f38.results.toList = some [] := by kernel_rfl

/-- cmp.isNaN[byte]: 1 in. -/
def c_cmp_isNaN_byte : ACode :=
  (.seq (.reg [⟨some 2, .mv (.cst (.bool false)), none⟩])
  (.seq (.reg [⟨some 3, .mv (.tmp 0), none⟩,
    ⟨some 4, .mv (.tmp 0), none⟩,
    ⟨some 5, .bin .neq (.tmp 3) (.tmp 4), none⟩,
    ⟨some 2, .mv (.tmp 5), none⟩])
  .ret))
theorem p_cmp_isNaN_byte : Try.f39.body.bind (compC Try.prog 6) = some c_cmp_isNaN_byte := by kernel_rfl
theorem r_cmp_isNaN_byte : tellR Try.prog Try.f39.results.toList = some [.t 2] := by kernel_rfl

/-- slices.Reverse[[]caravel/api.Route,caravel/api.Route]: 1 in. -/
def c_slices_Reverse__caravel_api_Route_caravel_api_Route : ACode :=
  (.seq (.reg [⟨some 4, .mv (.tmp 0), none⟩,
    ⟨some 5, .lenV (.tmp 4), none⟩,
    ⟨some 6, .bin .sub (.tmp 5) (.cst (.int .i64 1)), none⟩,
    ⟨some 2, .mv (.cst (.int .i64 0)), none⟩,
    ⟨some 3, .mv (.tmp 6), none⟩])
  (.block 0 (.loop
    (.seq (.seq (.reg [⟨some 7, .mv (.tmp 2), none⟩,
      ⟨some 8, .mv (.tmp 3), none⟩,
      ⟨some 9, .bin .lss (.tmp 7) (.tmp 8), none⟩])
    (.cond (.tmp 9)
      .skip
      (.exit 0)))
    (.seq (.block 1 (.reg [⟨some 14, .mv (.tmp 0), none⟩,
      ⟨some 15, .mv (.tmp 2), none⟩,
      ⟨some 16, .mv (.tmp 0), none⟩,
      ⟨some 17, .mv (.tmp 3), none⟩,
      ⟨some 18, .mv (.tmp 0), none⟩,
      ⟨some 19, .mv (.tmp 3), none⟩,
      ⟨some 20, .iadS 9 (.tmp 18) (.tmp 19), none⟩,
      ⟨some 21, .load true 9 (.tmp 20), none⟩,
      ⟨some 22, .mv (.tmp 0), none⟩,
      ⟨some 23, .mv (.tmp 2), none⟩,
      ⟨some 24, .iadS 9 (.tmp 22) (.tmp 23), none⟩,
      ⟨some 25, .load true 9 (.tmp 24), none⟩,
      ⟨some 26, .iadS 9 (.tmp 14) (.tmp 15), none⟩,
      ⟨none, .store 9 (.tmp 26) (.tmp 21), none⟩,
      ⟨some 27, .iadS 9 (.tmp 16) (.tmp 17), none⟩,
      ⟨none, .store 9 (.tmp 27) (.tmp 25), none⟩]))
    (.reg [⟨some 10, .mv (.tmp 2), none⟩,
      ⟨some 11, .bin .add (.tmp 10) (.cst (.int .i64 1)), none⟩,
      ⟨some 12, .mv (.tmp 3), none⟩,
      ⟨some 13, .bin .sub (.tmp 12) (.cst (.int .i64 1)), none⟩,
      ⟨some 2, .mv (.tmp 11), none⟩,
      ⟨some 3, .mv (.tmp 13), none⟩]))))))
theorem p_slices_Reverse__caravel_api_Route_caravel_api_Route : Try.f40.body.bind (compC Try.prog 28) = some c_slices_Reverse__caravel_api_Route_caravel_api_Route := by kernel_rfl
theorem r_slices_Reverse__caravel_api_Route_caravel_api_Route : tellR Try.prog Try.f40.results.toList = some [] := by kernel_rfl

end Go.Proofs.Yteljhabahaimpaa
