/- The functions, as the abstract machine has them. Printed by a program. -/
import Derived.Test.YtckglkbbdbmdkaaDoorNxRange
import Derived.Test.YtckglkbbdbmdkaaDoorNxWalk
namespace Go.Proofs.YtckglkbbdbmdkaaDoor.Nx
set_option linter.unusedSimpArgs false
set_option linter.unusedVariables false
set_option linter.unnecessarySimpa false
open Go

def x_law07_CellrowCheck (f_ref07_Great f_law07_awake f_cellrow_Check f_ref07_Check f_cellrow_Text f_ref07_Text f_cellrow_Blank f_ref07_Blank f_ref07_Same : FuncId) : XC :=
(.seq (.reg [
    { dst := some 5, op := .box ⟨3, 24⟩ (.t 2) },
    { dst := some 6, op := .mov (.k (.bool false)) }])
  (.seq (.seq (.reg [
    { dst := some 7, op := .mov (.t 0) },
    { dst := some 8, op := .call (.f f_ref07_Great) [(.t 7)] }])
  (.cond (.t 8)
    (.seq (.reg [
      { dst := some 9, op := .call (.f f_law07_awake) [] },
      { dst := some 6, op := .mov (.t 9) }])
    .ret)
    .skip))
  (.seq (.drw 0 [
    { dst := some 10, op := .mov (.t 0) },
    { dst := some 11, op := .call (.f f_cellrow_Check) [(.t 10)] },
    { dst := some 12, op := .mov (.t 0) },
    { dst := some 13, op := .call (.f f_ref07_Check) [(.t 12)] },
    { dst := some 14, op := .bin .eql (.t 11) (.t 13) },
    { dst := some 15, op := .mov (.t 14) },
    { dst := some 16, op := .mov (.t 0), guard := some (15, true) },
    { dst := some 17, op := .call (.f f_cellrow_Text) [(.t 16)], guard := some (15, true) },
    { dst := some 18, op := .mov (.t 0), guard := some (15, true) },
    { dst := some 19, op := .call (.f f_ref07_Text) [(.t 18)], guard := some (15, true) },
    { dst := some 20, op := .bin .eql (.t 17) (.t 19), guard := some (15, true) },
    { dst := some 21, op := .pick (.t 15) (.t 20) (.k (.bool false)) },
    { dst := some 22, op := .mov (.t 21) },
    { dst := some 23, op := .mov (.t 1), guard := some (22, true) },
    { dst := some 24, op := .load 3 true (.t 5), guard := some (22, true) },
    { dst := some 25, op := .call (.f f_cellrow_Blank) [(.t 23), (.t 24)], guard := some (22, true) },
    { dst := some 26, op := .mov (.t 1), guard := some (22, true) },
    { dst := some 27, op := .load 3 true (.t 5), guard := some (22, true) },
    { dst := some 28, op := .call (.f f_ref07_Blank) [(.t 26), (.t 27)], guard := some (22, true) },
    { dst := some 29, op := .call (.f f_ref07_Same) [(.t 25), (.t 28)], guard := some (22, true) },
    { dst := some 30, op := .pick (.t 22) (.t 29) (.k (.bool false)) },
    { dst := some 31, op := .mov (.t 30) },
    { dst := some 32, op := .call (.f f_law07_awake) [], guard := some (31, true) },
    { dst := some 33, op := .pick (.t 31) (.t 32) (.k (.bool false)) },
    { dst := some 6, op := .mov (.t 33) }])
  .ret)))

def x_law07_CellrowPut (f_ref07_Great f_law07_awake f_cellrow_Put f_ref07_Put f_ref07_Same : FuncId) : XC :=
(.seq (.reg [
    { dst := some 7, op := .box ⟨3, 24⟩ (.t 3) },
    { dst := some 8, op := .mov (.k (.bool false)) }])
  (.seq (.seq (.reg [
    { dst := some 13, op := .mov (.t 0) },
    { dst := some 14, op := .call (.f f_ref07_Great) [(.t 13)] },
    { dst := some 15, op := .mov (.t 14) },
    { dst := some 16, op := .mov (.t 2), guard := some (15, false) },
    { dst := some 17, op := .len true (.t 16), guard := some (15, false) },
    { dst := some 18, op := .bin .gtr (.t 17) (.k (.int 40)), guard := some (15, false) },
    { dst := some 19, op := .pick (.t 15) (.k (.bool true)) (.t 18) }])
  (.cond (.t 19)
    (.seq (.reg [
      { dst := some 20, op := .call (.f f_law07_awake) [] },
      { dst := some 8, op := .mov (.t 20) }])
    .ret)
    .skip))
  (.seq (.reg [
    { dst := some 22, op := .mov (.t 0) },
    { dst := some 23, op := .mov (.t 1) },
    { dst := some 24, op := .mov (.t 2) },
    { dst := some 25, op := .load 3 true (.t 7) },
    { dst := some 26, op := .call (.f f_cellrow_Put) [(.t 22), (.t 23), (.t 24), (.t 25)] },
    { dst := some 21, op := .mov (.t 26) },
    { dst := some 27, op := .extract 0 (.t 21) },
    { dst := some 28, op := .extract 1 (.t 21) },
    { dst := some 9, op := .mov (.t 27) },
    { dst := some 10, op := .mov (.t 28) }])
  (.seq (.reg [
    { dst := some 30, op := .mov (.t 0) },
    { dst := some 31, op := .mov (.t 1) },
    { dst := some 32, op := .mov (.t 2) },
    { dst := some 33, op := .load 3 true (.t 7) },
    { dst := some 34, op := .call (.f f_ref07_Put) [(.t 30), (.t 31), (.t 32), (.t 33)] },
    { dst := some 29, op := .mov (.t 34) },
    { dst := some 35, op := .extract 0 (.t 29) },
    { dst := some 36, op := .extract 1 (.t 29) },
    { dst := some 11, op := .mov (.t 35) },
    { dst := some 12, op := .mov (.t 36) }])
  (.seq (.reg [
    { dst := some 37, op := .mov (.t 9) },
    { dst := some 38, op := .mov (.t 11) },
    { dst := some 39, op := .call (.f f_ref07_Same) [(.t 37), (.t 38)] },
    { dst := some 40, op := .mov (.t 39) },
    { dst := some 41, op := .mov (.t 10), guard := some (40, true) },
    { dst := some 42, op := .mov (.t 12), guard := some (40, true) },
    { dst := some 43, op := .bin .eql (.t 41) (.t 42), guard := some (40, true) },
    { dst := some 44, op := .pick (.t 40) (.t 43) (.k (.bool false)) },
    { dst := some 45, op := .mov (.t 44) },
    { dst := some 46, op := .call (.f f_law07_awake) [], guard := some (45, true) },
    { dst := some 47, op := .pick (.t 45) (.t 46) (.k (.bool false)) },
    { dst := some 8, op := .mov (.t 47) }])
  .ret)))))

def x_law07_CellrowPutReads (f_ref07_Great f_law07_awake f_cellrow_Put f_cluster_Width : FuncId) : XC :=
(.seq (.reg [
    { dst := some 7, op := .box ⟨3, 24⟩ (.t 3) },
    { dst := some 8, op := .mov (.k (.bool false)) }])
  (.seq (.seq (.reg [
    { dst := some 14, op := .mov (.t 0) },
    { dst := some 15, op := .call (.f f_ref07_Great) [(.t 14)] },
    { dst := some 16, op := .mov (.t 15) },
    { dst := some 17, op := .mov (.t 2), guard := some (16, false) },
    { dst := some 18, op := .len true (.t 17), guard := some (16, false) },
    { dst := some 19, op := .bin .gtr (.t 18) (.k (.int 40)), guard := some (16, false) },
    { dst := some 20, op := .pick (.t 16) (.k (.bool true)) (.t 19) }])
  (.cond (.t 20)
    (.seq (.reg [
      { dst := some 21, op := .call (.f f_law07_awake) [] },
      { dst := some 8, op := .mov (.t 21) }])
    .ret)
    .skip))
  (.seq (.reg [
    { dst := some 23, op := .mov (.t 0) },
    { dst := some 24, op := .mov (.t 1) },
    { dst := some 25, op := .mov (.t 2) },
    { dst := some 26, op := .load 3 true (.t 7) },
    { dst := some 27, op := .call (.f f_cellrow_Put) [(.t 23), (.t 24), (.t 25), (.t 26)] },
    { dst := some 22, op := .mov (.t 27) },
    { dst := some 28, op := .extract 0 (.t 22) },
    { dst := some 29, op := .extract 1 (.t 22) },
    { dst := some 9, op := .mov (.t 28) },
    { dst := some 10, op := .mov (.t 29) }])
  (.seq (.seq (.reg [
    { dst := some 30, op := .mov (.t 10) },
    { dst := some 31, op := .bin .neq (.t 30) (.k (.int 0)) }])
  (.cond (.t 31)
    (.seq (.reg [
      { dst := some 32, op := .call (.f f_law07_awake) [] },
      { dst := some 8, op := .mov (.t 32) }])
    .ret)
    .skip))
  (.seq (.reg [
    { dst := some 33, op := .mov (.t 2) },
    { dst := some 34, op := .call (.f f_cluster_Width) [(.t 33)] },
    { dst := some 11, op := .mov (.t 34) }])
  (.seq (.seq (.reg [
    { dst := some 35, op := .mov (.t 9) },
    { dst := some 36, op := .len false (.t 35) },
    { dst := some 37, op := .mov (.t 0) },
    { dst := some 38, op := .len false (.t 37) },
    { dst := some 39, op := .bin .neq (.t 36) (.t 38) },
    { dst := some 40, op := .mov (.t 39) },
    { dst := some 41, op := .mov (.t 1), guard := some (40, false) },
    { dst := some 42, op := .bin .lss (.t 41) (.k (.int 0)), guard := some (40, false) },
    { dst := some 43, op := .pick (.t 40) (.k (.bool true)) (.t 42) },
    { dst := some 44, op := .mov (.t 43) },
    { dst := some 45, op := .mov (.t 1), guard := some (44, false) },
    { dst := some 46, op := .mov (.t 9), guard := some (44, false) },
    { dst := some 47, op := .len false (.t 46), guard := some (44, false) },
    { dst := some 48, op := .bin .geq (.t 45) (.t 47), guard := some (44, false) },
    { dst := some 49, op := .pick (.t 44) (.k (.bool true)) (.t 48) },
    { dst := some 50, op := .mov (.t 49) },
    { dst := some 51, op := .mov (.t 11), guard := some (50, false) },
    { dst := some 52, op := .bin .eql (.t 51) (.k (.int 2)), guard := some (50, false) },
    { dst := some 53, op := .mov (.t 52), guard := some (50, false) },
    { dst := some 54, op := .mov (.t 1), guard := some (53, true) },
    { dst := some 55, op := .bin .add (.t 54) (.k (.int 1)), guard := some (53, true) },
    { dst := some 56, op := .mov (.t 9), guard := some (53, true) },
    { dst := some 57, op := .len false (.t 56), guard := some (53, true) },
    { dst := some 58, op := .bin .geq (.t 55) (.t 57), guard := some (53, true) },
    { dst := some 59, op := .pick (.t 53) (.t 58) (.k (.bool false)), guard := some (50, false) },
    { dst := some 60, op := .pick (.t 50) (.k (.bool true)) (.t 59) }])
  (.cond (.t 60)
    (.seq (.reg [
      { dst := some 8, op := .mov (.k (.bool false)) }])
    .ret)
    .skip))
  (.seq (.seq (.drw 0 [
    { dst := some 61, op := .mov (.t 9) },
    { dst := some 62, op := .mov (.t 1) },
    { dst := some 63, op := .iaddr ⟨5, 48⟩ (.t 61) (.t 62) },
    { dst := some 64, op := .load 5 true (.t 63) },
    { dst := some 65, op := .mov (.t 2) },
    { dst := some 66, op := .mov (.t 11) },
    { dst := some 67, op := .load 3 true (.t 7) },
    { dst := some 68, op := .build [(.str ⟨#[]⟩), (.int 0), (.int 0), (.int 0), (.int 0)] [(0, 1, (.t 65)), (1, 1, (.t 66)), (2, 3, (.t 67))] },
    { dst := some 69, op := .eqs true 5 [(0, .s), (1, .i), (2, .i), (3, .i), (4, .i)] (.t 64) (.t 68) },
    { dst := some 70, op := .mov (.t 69) },
    { dst := some 71, op := .mov (.t 11), guard := some (70, false) },
    { dst := some 72, op := .bin .eql (.t 71) (.k (.int 2)), guard := some (70, false) },
    { dst := some 73, op := .mov (.t 72), guard := some (70, false) },
    { dst := some 74, op := .mov (.t 9), guard := some (73, true) },
    { dst := some 75, op := .mov (.t 1), guard := some (73, true) },
    { dst := some 76, op := .bin .add (.t 75) (.k (.int 1)), guard := some (73, true) },
    { dst := some 77, op := .iaddr ⟨5, 48⟩ (.t 74) (.t 76), guard := some (73, true) },
    { dst := some 78, op := .load 5 true (.t 77), guard := some (73, true) },
    { dst := some 79, op := .load 3 true (.t 7), guard := some (73, true) },
    { dst := some 80, op := .build [(.str ⟨#[]⟩), (.int 0), (.int 0), (.int 0), (.int 0)] [(2, 3, (.t 79))], guard := some (73, true) },
    { dst := some 81, op := .eqs true 5 [(0, .s), (1, .i), (2, .i), (3, .i), (4, .i)] (.t 78) (.t 80), guard := some (73, true) },
    { dst := some 82, op := .pick (.t 73) (.t 81) (.k (.bool false)), guard := some (70, false) },
    { dst := some 83, op := .pick (.t 70) (.k (.bool true)) (.t 82) }])
  (.cond (.t 83)
    (.seq (.reg [
      { dst := some 8, op := .mov (.k (.bool false)) }])
    .ret)
    .skip))
  (.seq (.seq (.reg [
    { dst := some 12, op := .mov (.k (.int 0)) }])
  (.block 0 (.loop (.seq (.seq (.reg [
    { dst := some 84, op := .mov (.t 12) },
    { dst := some 85, op := .mov (.t 0) },
    { dst := some 86, op := .len false (.t 85) },
    { dst := some 87, op := .bin .lss (.t 84) (.t 86) }])
  (.cond (.t 87)
    .skip
    (.exit 0)))
  (.seq (.block 1 (.seq (.seq (.reg [
    { dst := some 90, op := .mov (.t 12) },
    { dst := some 91, op := .mov (.t 1) },
    { dst := some 92, op := .bin .geq (.t 90) (.t 91) },
    { dst := some 93, op := .mov (.t 92) },
    { dst := some 94, op := .mov (.t 12), guard := some (93, true) },
    { dst := some 95, op := .mov (.t 1), guard := some (93, true) },
    { dst := some 96, op := .mov (.t 11), guard := some (93, true) },
    { dst := some 97, op := .bin .add (.t 95) (.t 96), guard := some (93, true) },
    { dst := some 98, op := .bin .lss (.t 94) (.t 97), guard := some (93, true) },
    { dst := some 99, op := .pick (.t 93) (.t 98) (.k (.bool false)) }])
  (.cond (.t 99)
    (.exit 1)
    .skip))
  (.seq (.reg [
    { dst := some 100, op := .mov (.t 12) },
    { dst := some 101, op := .mov (.t 1) },
    { dst := some 102, op := .bin .sub (.t 101) (.k (.int 1)) },
    { dst := some 103, op := .bin .eql (.t 100) (.t 102) },
    { dst := some 104, op := .mov (.t 103) },
    { dst := some 105, op := .mov (.t 0), guard := some (104, true) },
    { dst := some 106, op := .mov (.t 12), guard := some (104, true) },
    { dst := some 107, op := .iaddr ⟨5, 48⟩ (.t 105) (.t 106), guard := some (104, true) },
    { dst := some 108, op := .faddr 1 (.t 107), guard := some (104, true) },
    { dst := some 109, op := .load 1 false (.t 108), guard := some (104, true) },
    { dst := some 110, op := .bin .eql (.t 109) (.k (.int 2)), guard := some (104, true) },
    { dst := some 111, op := .pick (.t 104) (.t 110) (.k (.bool false)) },
    { dst := some 112, op := .mov (.t 111) },
    { dst := some 113, op := .mov (.t 12), guard := some (112, false) },
    { dst := some 114, op := .mov (.t 1), guard := some (112, false) },
    { dst := some 115, op := .mov (.t 11), guard := some (112, false) },
    { dst := some 116, op := .bin .add (.t 114) (.t 115), guard := some (112, false) },
    { dst := some 117, op := .bin .eql (.t 113) (.t 116), guard := some (112, false) },
    { dst := some 118, op := .mov (.t 117), guard := some (112, false) },
    { dst := some 119, op := .mov (.t 0), guard := some (118, true) },
    { dst := some 120, op := .mov (.t 12), guard := some (118, true) },
    { dst := some 121, op := .iaddr ⟨5, 48⟩ (.t 119) (.t 120), guard := some (118, true) },
    { dst := some 122, op := .faddr 1 (.t 121), guard := some (118, true) },
    { dst := some 123, op := .load 1 false (.t 122), guard := some (118, true) },
    { dst := some 124, op := .bin .eql (.t 123) (.k (.int 0)), guard := some (118, true) },
    { dst := some 125, op := .pick (.t 118) (.t 124) (.k (.bool false)), guard := some (112, false) },
    { dst := some 126, op := .pick (.t 112) (.k (.bool true)) (.t 125) },
    { dst := some 13, op := .mov (.t 126) }])
  (.seq (.drw 0 [
    { dst := some 127, op := .mov (.t 13) },
    { dst := some 128, op := .mov (.t 127) },
    { dst := some 129, op := .mov (.t 9), guard := some (128, true) },
    { dst := some 130, op := .mov (.t 12), guard := some (128, true) },
    { dst := some 131, op := .iaddr ⟨5, 48⟩ (.t 129) (.t 130), guard := some (128, true) },
    { dst := some 132, op := .load 5 true (.t 131), guard := some (128, true) },
    { dst := some 133, op := .mov (.t 0), guard := some (128, true) },
    { dst := some 134, op := .mov (.t 12), guard := some (128, true) },
    { dst := some 135, op := .iaddr ⟨5, 48⟩ (.t 133) (.t 134), guard := some (128, true) },
    { dst := some 136, op := .faddr 2 (.t 135), guard := some (128, true) },
    { dst := some 137, op := .faddr 1 (.t 136), guard := some (128, true) },
    { dst := some 138, op := .load 1 false (.t 137), guard := some (128, true) },
    { dst := some 139, op := .build [(.int 0), (.int 0), (.int 0)] [(0, 1, (.k (.int (-1)))), (1, 1, (.t 138))], guard := some (128, true) },
    { dst := some 140, op := .build [(.str ⟨#[]⟩), (.int 0), (.int 0), (.int 0), (.int 0)] [(0, 1, (.k (.str ⟨#[32]⟩))), (1, 1, (.k (.int 1))), (2, 3, (.t 139))], guard := some (128, true) },
    { dst := some 141, op := .eqs true 5 [(0, .s), (1, .i), (2, .i), (3, .i), (4, .i)] (.t 132) (.t 140), guard := some (128, true) },
    { dst := some 142, op := .pick (.t 128) (.t 141) (.k (.bool false)) },
    { dst := some 143, op := .mov (.t 142) },
    { dst := some 144, op := .mov (.t 13), guard := some (143, false) },
    { dst := some 145, op := .un .not (.t 144), guard := some (143, false) },
    { dst := some 146, op := .mov (.t 145), guard := some (143, false) },
    { dst := some 147, op := .mov (.t 9), guard := some (146, true) },
    { dst := some 148, op := .mov (.t 12), guard := some (146, true) },
    { dst := some 149, op := .iaddr ⟨5, 48⟩ (.t 147) (.t 148), guard := some (146, true) },
    { dst := some 150, op := .load 5 true (.t 149), guard := some (146, true) },
    { dst := some 151, op := .mov (.t 0), guard := some (146, true) },
    { dst := some 152, op := .mov (.t 12), guard := some (146, true) },
    { dst := some 153, op := .iaddr ⟨5, 48⟩ (.t 151) (.t 152), guard := some (146, true) },
    { dst := some 154, op := .load 5 true (.t 153), guard := some (146, true) },
    { dst := some 155, op := .eqs true 5 [(0, .s), (1, .i), (2, .i), (3, .i), (4, .i)] (.t 150) (.t 154), guard := some (146, true) },
    { dst := some 156, op := .pick (.t 146) (.t 155) (.k (.bool false)), guard := some (143, false) },
    { dst := some 157, op := .pick (.t 143) (.k (.bool true)) (.t 156) }])
  (.cond (.t 157)
    (.seq (.reg [
      { dst := some 8, op := .mov (.k (.bool false)) }])
    .ret)
    .skip)))))
  (.reg [
    { dst := some 88, op := .mov (.t 12) },
    { dst := some 89, op := .bin .add (.t 88) (.k (.int 1)) },
    { dst := some 12, op := .mov (.t 89) }]))))))
  (.seq (.reg [
    { dst := some 158, op := .call (.f f_law07_awake) [] },
    { dst := some 8, op := .mov (.t 158) }])
  .ret)))))))))

def x_law07_CellrowShift (f_ref07_Great f_law07_awake f_cellrow_Insert f_ref07_Insert f_ref07_Same f_cellrow_Delete f_ref07_Delete : FuncId) : XC :=
(.seq (.reg [
    { dst := some 7, op := .box ⟨3, 24⟩ (.t 3) },
    { dst := some 8, op := .mov (.k (.bool false)) }])
  (.seq (.seq (.reg [
    { dst := some 13, op := .mov (.t 0) },
    { dst := some 14, op := .call (.f f_ref07_Great) [(.t 13)] }])
  (.cond (.t 14)
    (.seq (.reg [
      { dst := some 15, op := .call (.f f_law07_awake) [] },
      { dst := some 8, op := .mov (.t 15) }])
    .ret)
    .skip))
  (.seq (.reg [
    { dst := some 17, op := .mov (.t 0) },
    { dst := some 18, op := .mov (.t 1) },
    { dst := some 19, op := .mov (.t 2) },
    { dst := some 20, op := .load 3 true (.t 7) },
    { dst := some 21, op := .call (.f f_cellrow_Insert) [(.t 17), (.t 18), (.t 19), (.t 20)] },
    { dst := some 16, op := .mov (.t 21) },
    { dst := some 22, op := .extract 0 (.t 16) },
    { dst := some 23, op := .extract 1 (.t 16) },
    { dst := some 9, op := .mov (.t 22) },
    { dst := some 10, op := .mov (.t 23) }])
  (.seq (.reg [
    { dst := some 25, op := .mov (.t 0) },
    { dst := some 26, op := .mov (.t 1) },
    { dst := some 27, op := .mov (.t 2) },
    { dst := some 28, op := .load 3 true (.t 7) },
    { dst := some 29, op := .call (.f f_ref07_Insert) [(.t 25), (.t 26), (.t 27), (.t 28)] },
    { dst := some 24, op := .mov (.t 29) },
    { dst := some 30, op := .extract 0 (.t 24) },
    { dst := some 31, op := .extract 1 (.t 24) },
    { dst := some 11, op := .mov (.t 30) },
    { dst := some 12, op := .mov (.t 31) }])
  (.seq (.seq (.reg [
    { dst := some 32, op := .mov (.t 9) },
    { dst := some 33, op := .mov (.t 11) },
    { dst := some 34, op := .call (.f f_ref07_Same) [(.t 32), (.t 33)] },
    { dst := some 35, op := .un .not (.t 34) },
    { dst := some 36, op := .mov (.t 35) },
    { dst := some 37, op := .mov (.t 10), guard := some (36, false) },
    { dst := some 38, op := .mov (.t 12), guard := some (36, false) },
    { dst := some 39, op := .bin .neq (.t 37) (.t 38), guard := some (36, false) },
    { dst := some 40, op := .pick (.t 36) (.k (.bool true)) (.t 39) }])
  (.cond (.t 40)
    (.seq (.reg [
      { dst := some 8, op := .mov (.k (.bool false)) }])
    .ret)
    .skip))
  (.seq (.reg [
    { dst := some 42, op := .mov (.t 0) },
    { dst := some 43, op := .mov (.t 1) },
    { dst := some 44, op := .mov (.t 2) },
    { dst := some 45, op := .load 3 true (.t 7) },
    { dst := some 46, op := .call (.f f_cellrow_Delete) [(.t 42), (.t 43), (.t 44), (.t 45)] },
    { dst := some 41, op := .mov (.t 46) },
    { dst := some 47, op := .extract 0 (.t 41) },
    { dst := some 48, op := .extract 1 (.t 41) },
    { dst := some 9, op := .mov (.t 47) },
    { dst := some 10, op := .mov (.t 48) }])
  (.seq (.reg [
    { dst := some 50, op := .mov (.t 0) },
    { dst := some 51, op := .mov (.t 1) },
    { dst := some 52, op := .mov (.t 2) },
    { dst := some 53, op := .load 3 true (.t 7) },
    { dst := some 54, op := .call (.f f_ref07_Delete) [(.t 50), (.t 51), (.t 52), (.t 53)] },
    { dst := some 49, op := .mov (.t 54) },
    { dst := some 55, op := .extract 0 (.t 49) },
    { dst := some 56, op := .extract 1 (.t 49) },
    { dst := some 11, op := .mov (.t 55) },
    { dst := some 12, op := .mov (.t 56) }])
  (.seq (.reg [
    { dst := some 57, op := .mov (.t 9) },
    { dst := some 58, op := .mov (.t 11) },
    { dst := some 59, op := .call (.f f_ref07_Same) [(.t 57), (.t 58)] },
    { dst := some 60, op := .mov (.t 59) },
    { dst := some 61, op := .mov (.t 10), guard := some (60, true) },
    { dst := some 62, op := .mov (.t 12), guard := some (60, true) },
    { dst := some 63, op := .bin .eql (.t 61) (.t 62), guard := some (60, true) },
    { dst := some 64, op := .pick (.t 60) (.t 63) (.k (.bool false)) },
    { dst := some 65, op := .mov (.t 64) },
    { dst := some 66, op := .call (.f f_law07_awake) [], guard := some (65, true) },
    { dst := some 67, op := .pick (.t 65) (.t 66) (.k (.bool false)) },
    { dst := some 8, op := .mov (.t 67) }])
  .ret))))))))

def x_law07_CellrowFits (f_ref07_Great f_cellrow_Check f_law07_awake f_cellrow_Fit f_ref07_Same : FuncId) : XC :=
(.seq (.reg [
    { dst := some 6, op := .mov (.k (.bool false)) }])
  (.seq (.seq (.reg [
    { dst := some 7, op := .mov (.t 0) },
    { dst := some 8, op := .call (.f f_ref07_Great) [(.t 7)] },
    { dst := some 9, op := .mov (.t 8) },
    { dst := some 10, op := .mov (.t 0), guard := some (9, false) },
    { dst := some 11, op := .call (.f f_cellrow_Check) [(.t 10)], guard := some (9, false) },
    { dst := some 12, op := .bin .neq (.t 11) (.k (.int 0)), guard := some (9, false) },
    { dst := some 13, op := .pick (.t 9) (.k (.bool true)) (.t 12) },
    { dst := some 14, op := .mov (.t 13) },
    { dst := some 15, op := .mov (.t 1), guard := some (14, false) },
    { dst := some 16, op := .mov (.t 2), guard := some (14, false) },
    { dst := some 17, op := .bin .lss (.t 15) (.t 16), guard := some (14, false) },
    { dst := some 18, op := .pick (.t 14) (.k (.bool true)) (.t 17) },
    { dst := some 19, op := .mov (.t 18) },
    { dst := some 20, op := .mov (.t 2), guard := some (19, false) },
    { dst := some 21, op := .bin .lss (.t 20) (.k (.int 1)), guard := some (19, false) },
    { dst := some 22, op := .pick (.t 19) (.k (.bool true)) (.t 21) },
    { dst := some 23, op := .mov (.t 22) },
    { dst := some 24, op := .mov (.t 1), guard := some (23, false) },
    { dst := some 25, op := .bin .gtr (.t 24) (.k (.int 132)), guard := some (23, false) },
    { dst := some 26, op := .pick (.t 23) (.k (.bool true)) (.t 25) }])
  (.cond (.t 26)
    (.seq (.reg [
      { dst := some 27, op := .call (.f f_law07_awake) [] },
      { dst := some 6, op := .mov (.t 27) }])
    .ret)
    .skip))
  (.seq (.reg [
    { dst := some 28, op := .mov (.t 0) },
    { dst := some 29, op := .mov (.t 0) },
    { dst := some 30, op := .len false (.t 29) },
    { dst := some 31, op := .call (.f f_cellrow_Fit) [(.t 28), (.t 30)] },
    { dst := some 32, op := .mov (.t 0) },
    { dst := some 33, op := .call (.f f_ref07_Same) [(.t 31), (.t 32)] },
    { dst := some 34, op := .mov (.t 33) },
    { dst := some 35, op := .mov (.t 0), guard := some (34, true) },
    { dst := some 36, op := .mov (.t 1), guard := some (34, true) },
    { dst := some 37, op := .call (.f f_cellrow_Fit) [(.t 35), (.t 36)], guard := some (34, true) },
    { dst := some 38, op := .mov (.t 2), guard := some (34, true) },
    { dst := some 39, op := .call (.f f_cellrow_Fit) [(.t 37), (.t 38)], guard := some (34, true) },
    { dst := some 40, op := .mov (.t 0), guard := some (34, true) },
    { dst := some 41, op := .mov (.t 2), guard := some (34, true) },
    { dst := some 42, op := .call (.f f_cellrow_Fit) [(.t 40), (.t 41)], guard := some (34, true) },
    { dst := some 43, op := .call (.f f_ref07_Same) [(.t 39), (.t 42)], guard := some (34, true) },
    { dst := some 44, op := .pick (.t 34) (.t 43) (.k (.bool false)) },
    { dst := some 45, op := .mov (.t 44) },
    { dst := some 46, op := .call (.f f_law07_awake) [], guard := some (45, true) },
    { dst := some 47, op := .pick (.t 45) (.t 46) (.k (.bool false)) },
    { dst := some 6, op := .mov (.t 47) }])
  .ret)))

def x_law07_CellrowErases (f_ref07_Great f_cellrow_Check f_law07_awake f_cellrow_Erase f_ref07_Same f_cellrow_Blank : FuncId) : XC :=
(.seq (.reg [
    { dst := some 9, op := .box ⟨3, 24⟩ (.t 4) },
    { dst := some 10, op := .mov (.k (.bool false)) }])
  (.seq (.seq (.reg [
    { dst := some 21, op := .mov (.t 0) },
    { dst := some 22, op := .call (.f f_ref07_Great) [(.t 21)] },
    { dst := some 23, op := .mov (.t 22) },
    { dst := some 24, op := .mov (.t 0), guard := some (23, false) },
    { dst := some 25, op := .call (.f f_cellrow_Check) [(.t 24)], guard := some (23, false) },
    { dst := some 26, op := .bin .neq (.t 25) (.k (.int 0)), guard := some (23, false) },
    { dst := some 27, op := .pick (.t 23) (.k (.bool true)) (.t 26) },
    { dst := some 28, op := .mov (.t 27) },
    { dst := some 29, op := .mov (.t 1), guard := some (28, false) },
    { dst := some 30, op := .bin .lss (.t 29) (.k (.int 0)), guard := some (28, false) },
    { dst := some 31, op := .pick (.t 28) (.k (.bool true)) (.t 30) },
    { dst := some 32, op := .mov (.t 31) },
    { dst := some 33, op := .mov (.t 2), guard := some (32, false) },
    { dst := some 34, op := .mov (.t 1), guard := some (32, false) },
    { dst := some 35, op := .bin .lss (.t 33) (.t 34), guard := some (32, false) },
    { dst := some 36, op := .pick (.t 32) (.k (.bool true)) (.t 35) },
    { dst := some 37, op := .mov (.t 36) },
    { dst := some 38, op := .mov (.t 3), guard := some (37, false) },
    { dst := some 39, op := .mov (.t 2), guard := some (37, false) },
    { dst := some 40, op := .bin .lss (.t 38) (.t 39), guard := some (37, false) },
    { dst := some 41, op := .pick (.t 37) (.k (.bool true)) (.t 40) },
    { dst := some 42, op := .mov (.t 41) },
    { dst := some 43, op := .mov (.t 3), guard := some (42, false) },
    { dst := some 44, op := .mov (.t 0), guard := some (42, false) },
    { dst := some 45, op := .len false (.t 44), guard := some (42, false) },
    { dst := some 46, op := .bin .gtr (.t 43) (.t 45), guard := some (42, false) },
    { dst := some 47, op := .pick (.t 42) (.k (.bool true)) (.t 46) }])
  (.cond (.t 47)
    (.seq (.reg [
      { dst := some 48, op := .call (.f f_law07_awake) [] },
      { dst := some 10, op := .mov (.t 48) }])
    .ret)
    .skip))
  (.seq (.reg [
    { dst := some 50, op := .mov (.t 0) },
    { dst := some 51, op := .mov (.t 1) },
    { dst := some 52, op := .mov (.t 2) },
    { dst := some 53, op := .load 3 true (.t 9) },
    { dst := some 54, op := .call (.f f_cellrow_Erase) [(.t 50), (.t 51), (.t 52), (.t 53)] },
    { dst := some 49, op := .mov (.t 54) },
    { dst := some 55, op := .extract 0 (.t 49) },
    { dst := some 56, op := .extract 1 (.t 49) },
    { dst := some 11, op := .mov (.t 55) },
    { dst := some 12, op := .mov (.t 56) }])
  (.seq (.seq (.reg [
    { dst := some 57, op := .mov (.t 12) },
    { dst := some 58, op := .bin .neq (.t 57) (.k (.int 0)) }])
  (.cond (.t 58)
    (.seq (.reg [
      { dst := some 10, op := .mov (.k (.bool false)) }])
    .ret)
    .skip))
  (.seq (.reg [
    { dst := some 60, op := .mov (.t 11) },
    { dst := some 61, op := .mov (.t 2) },
    { dst := some 62, op := .mov (.t 3) },
    { dst := some 63, op := .load 3 true (.t 9) },
    { dst := some 64, op := .call (.f f_cellrow_Erase) [(.t 60), (.t 61), (.t 62), (.t 63)] },
    { dst := some 59, op := .mov (.t 64) },
    { dst := some 65, op := .extract 0 (.t 59) },
    { dst := some 66, op := .extract 1 (.t 59) },
    { dst := some 13, op := .mov (.t 65) },
    { dst := some 14, op := .mov (.t 66) }])
  (.seq (.reg [
    { dst := some 68, op := .mov (.t 0) },
    { dst := some 69, op := .mov (.t 1) },
    { dst := some 70, op := .mov (.t 3) },
    { dst := some 71, op := .load 3 true (.t 9) },
    { dst := some 72, op := .call (.f f_cellrow_Erase) [(.t 68), (.t 69), (.t 70), (.t 71)] },
    { dst := some 67, op := .mov (.t 72) },
    { dst := some 73, op := .extract 0 (.t 67) },
    { dst := some 74, op := .extract 1 (.t 67) },
    { dst := some 15, op := .mov (.t 73) },
    { dst := some 16, op := .mov (.t 74) }])
  (.seq (.reg [
    { dst := some 76, op := .mov (.t 0) },
    { dst := some 77, op := .mov (.t 0) },
    { dst := some 78, op := .len false (.t 77) },
    { dst := some 79, op := .load 3 true (.t 9) },
    { dst := some 80, op := .call (.f f_cellrow_Erase) [(.t 76), (.k (.int 0)), (.t 78), (.t 79)] },
    { dst := some 75, op := .mov (.t 80) },
    { dst := some 81, op := .extract 0 (.t 75) },
    { dst := some 82, op := .extract 1 (.t 75) },
    { dst := some 17, op := .mov (.t 81) },
    { dst := some 18, op := .mov (.t 82) }])
  (.seq (.seq (.reg [
    { dst := some 83, op := .mov (.t 14) },
    { dst := some 84, op := .bin .neq (.t 83) (.k (.int 0)) },
    { dst := some 85, op := .mov (.t 84) },
    { dst := some 86, op := .mov (.t 16), guard := some (85, false) },
    { dst := some 87, op := .bin .neq (.t 86) (.k (.int 0)), guard := some (85, false) },
    { dst := some 88, op := .pick (.t 85) (.k (.bool true)) (.t 87) },
    { dst := some 89, op := .mov (.t 88) },
    { dst := some 90, op := .mov (.t 18), guard := some (89, false) },
    { dst := some 91, op := .bin .neq (.t 90) (.k (.int 0)), guard := some (89, false) },
    { dst := some 92, op := .pick (.t 89) (.k (.bool true)) (.t 91) },
    { dst := some 93, op := .mov (.t 92) },
    { dst := some 94, op := .mov (.t 15), guard := some (93, false) },
    { dst := some 95, op := .len false (.t 94), guard := some (93, false) },
    { dst := some 96, op := .mov (.t 0), guard := some (93, false) },
    { dst := some 97, op := .len false (.t 96), guard := some (93, false) },
    { dst := some 98, op := .bin .neq (.t 95) (.t 97), guard := some (93, false) },
    { dst := some 99, op := .pick (.t 93) (.k (.bool true)) (.t 98) },
    { dst := some 100, op := .mov (.t 99) },
    { dst := some 101, op := .mov (.t 13), guard := some (100, false) },
    { dst := some 102, op := .mov (.t 15), guard := some (100, false) },
    { dst := some 103, op := .call (.f f_ref07_Same) [(.t 101), (.t 102)], guard := some (100, false) },
    { dst := some 104, op := .un .not (.t 103), guard := some (100, false) },
    { dst := some 105, op := .pick (.t 100) (.k (.bool true)) (.t 104) },
    { dst := some 106, op := .mov (.t 105) },
    { dst := some 107, op := .mov (.t 17), guard := some (106, false) },
    { dst := some 108, op := .mov (.t 0), guard := some (106, false) },
    { dst := some 109, op := .len false (.t 108), guard := some (106, false) },
    { dst := some 110, op := .load 3 true (.t 9), guard := some (106, false) },
    { dst := some 111, op := .call (.f f_cellrow_Blank) [(.t 109), (.t 110)], guard := some (106, false) },
    { dst := some 112, op := .call (.f f_ref07_Same) [(.t 107), (.t 111)], guard := some (106, false) },
    { dst := some 113, op := .un .not (.t 112), guard := some (106, false) },
    { dst := some 114, op := .pick (.t 106) (.k (.bool true)) (.t 113) }])
  (.cond (.t 114)
    (.seq (.reg [
      { dst := some 10, op := .mov (.k (.bool false)) }])
    .ret)
    .skip))
  (.seq (.seq (.reg [
    { dst := some 19, op := .mov (.k (.int 0)) }])
  (.block 0 (.loop (.seq (.seq (.reg [
    { dst := some 115, op := .mov (.t 19) },
    { dst := some 116, op := .mov (.t 0) },
    { dst := some 117, op := .len false (.t 116) },
    { dst := some 118, op := .bin .lss (.t 115) (.t 117) }])
  (.cond (.t 118)
    .skip
    (.exit 0)))
  (.seq (.block 1 (.seq (.reg [
    { dst := some 121, op := .mov (.t 19) },
    { dst := some 122, op := .mov (.t 1) },
    { dst := some 123, op := .bin .sub (.t 122) (.k (.int 1)) },
    { dst := some 124, op := .bin .eql (.t 121) (.t 123) },
    { dst := some 125, op := .mov (.t 124) },
    { dst := some 126, op := .mov (.t 0), guard := some (125, true) },
    { dst := some 127, op := .mov (.t 19), guard := some (125, true) },
    { dst := some 128, op := .iaddr ⟨5, 48⟩ (.t 126) (.t 127), guard := some (125, true) },
    { dst := some 129, op := .faddr 1 (.t 128), guard := some (125, true) },
    { dst := some 130, op := .load 1 false (.t 129), guard := some (125, true) },
    { dst := some 131, op := .bin .eql (.t 130) (.k (.int 2)), guard := some (125, true) },
    { dst := some 132, op := .pick (.t 125) (.t 131) (.k (.bool false)) },
    { dst := some 133, op := .mov (.t 132) },
    { dst := some 134, op := .mov (.t 19), guard := some (133, false) },
    { dst := some 135, op := .mov (.t 3), guard := some (133, false) },
    { dst := some 136, op := .bin .eql (.t 134) (.t 135), guard := some (133, false) },
    { dst := some 137, op := .mov (.t 136), guard := some (133, false) },
    { dst := some 138, op := .mov (.t 0), guard := some (137, true) },
    { dst := some 139, op := .mov (.t 19), guard := some (137, true) },
    { dst := some 140, op := .iaddr ⟨5, 48⟩ (.t 138) (.t 139), guard := some (137, true) },
    { dst := some 141, op := .faddr 1 (.t 140), guard := some (137, true) },
    { dst := some 142, op := .load 1 false (.t 141), guard := some (137, true) },
    { dst := some 143, op := .bin .eql (.t 142) (.k (.int 0)), guard := some (137, true) },
    { dst := some 144, op := .pick (.t 137) (.t 143) (.k (.bool false)), guard := some (133, false) },
    { dst := some 145, op := .pick (.t 133) (.k (.bool true)) (.t 144) },
    { dst := some 20, op := .mov (.t 145) }])
  (.seq (.drw 0 [
    { dst := some 146, op := .mov (.t 19) },
    { dst := some 147, op := .mov (.t 1) },
    { dst := some 148, op := .bin .lss (.t 146) (.t 147) },
    { dst := some 149, op := .mov (.t 148) },
    { dst := some 150, op := .mov (.t 19), guard := some (149, false) },
    { dst := some 151, op := .mov (.t 3), guard := some (149, false) },
    { dst := some 152, op := .bin .geq (.t 150) (.t 151), guard := some (149, false) },
    { dst := some 153, op := .pick (.t 149) (.k (.bool true)) (.t 152) },
    { dst := some 154, op := .mov (.t 153) },
    { dst := some 155, op := .mov (.t 1), guard := some (154, true) },
    { dst := some 156, op := .mov (.t 3), guard := some (154, true) },
    { dst := some 157, op := .bin .eql (.t 155) (.t 156), guard := some (154, true) },
    { dst := some 158, op := .mov (.t 157), guard := some (154, true) },
    { dst := some 159, op := .mov (.t 20), guard := some (158, false) },
    { dst := some 160, op := .un .not (.t 159), guard := some (158, false) },
    { dst := some 161, op := .pick (.t 158) (.k (.bool true)) (.t 160), guard := some (154, true) },
    { dst := some 162, op := .pick (.t 154) (.t 161) (.k (.bool false)) },
    { dst := some 163, op := .mov (.t 162) },
    { dst := some 164, op := .mov (.t 15), guard := some (163, true) },
    { dst := some 165, op := .mov (.t 19), guard := some (163, true) },
    { dst := some 166, op := .iaddr ⟨5, 48⟩ (.t 164) (.t 165), guard := some (163, true) },
    { dst := some 167, op := .load 5 true (.t 166), guard := some (163, true) },
    { dst := some 168, op := .mov (.t 0), guard := some (163, true) },
    { dst := some 169, op := .mov (.t 19), guard := some (163, true) },
    { dst := some 170, op := .iaddr ⟨5, 48⟩ (.t 168) (.t 169), guard := some (163, true) },
    { dst := some 171, op := .load 5 true (.t 170), guard := some (163, true) },
    { dst := some 172, op := .eqs true 5 [(0, .s), (1, .i), (2, .i), (3, .i), (4, .i)] (.t 167) (.t 171), guard := some (163, true) },
    { dst := some 173, op := .pick (.t 163) (.t 172) (.k (.bool false)) }])
  (.cond (.t 173)
    (.seq (.reg [
      { dst := some 10, op := .mov (.k (.bool false)) }])
    .ret)
    .skip))))
  (.reg [
    { dst := some 119, op := .mov (.t 19) },
    { dst := some 120, op := .bin .add (.t 119) (.k (.int 1)) },
    { dst := some 19, op := .mov (.t 120) }]))))))
  (.seq (.reg [
    { dst := some 174, op := .call (.f f_law07_awake) [] },
    { dst := some 10, op := .mov (.t 174) }])
  .ret))))))))))

def x_law07_CellrowInsertDelete (f_ref07_Great f_cellrow_Check f_law07_awake f_cellrow_Insert f_cellrow_Delete f_cellrow_Erase f_ref07_Same : FuncId) : XC :=
(.seq (.reg [
    { dst := some 8, op := .box ⟨3, 24⟩ (.t 3) },
    { dst := some 9, op := .box ⟨3, 24⟩ (.t 4) },
    { dst := some 10, op := .mov (.k (.bool false)) }])
  (.seq (.seq (.reg [
    { dst := some 17, op := .mov (.t 0) },
    { dst := some 18, op := .call (.f f_ref07_Great) [(.t 17)] },
    { dst := some 19, op := .mov (.t 18) },
    { dst := some 20, op := .mov (.t 0), guard := some (19, false) },
    { dst := some 21, op := .call (.f f_cellrow_Check) [(.t 20)], guard := some (19, false) },
    { dst := some 22, op := .bin .neq (.t 21) (.k (.int 0)), guard := some (19, false) },
    { dst := some 23, op := .pick (.t 19) (.k (.bool true)) (.t 22) },
    { dst := some 24, op := .mov (.t 23) },
    { dst := some 25, op := .mov (.t 1), guard := some (24, false) },
    { dst := some 26, op := .bin .lss (.t 25) (.k (.int 0)), guard := some (24, false) },
    { dst := some 27, op := .pick (.t 24) (.k (.bool true)) (.t 26) },
    { dst := some 28, op := .mov (.t 27) },
    { dst := some 29, op := .mov (.t 1), guard := some (28, false) },
    { dst := some 30, op := .mov (.t 0), guard := some (28, false) },
    { dst := some 31, op := .len false (.t 30), guard := some (28, false) },
    { dst := some 32, op := .bin .geq (.t 29) (.t 31), guard := some (28, false) },
    { dst := some 33, op := .pick (.t 28) (.k (.bool true)) (.t 32) },
    { dst := some 34, op := .mov (.t 33) },
    { dst := some 35, op := .mov (.t 2), guard := some (34, false) },
    { dst := some 36, op := .bin .lss (.t 35) (.k (.int 1)), guard := some (34, false) },
    { dst := some 37, op := .pick (.t 34) (.k (.bool true)) (.t 36) },
    { dst := some 38, op := .mov (.t 37) },
    { dst := some 39, op := .mov (.t 0), guard := some (38, false) },
    { dst := some 40, op := .mov (.t 1), guard := some (38, false) },
    { dst := some 41, op := .iaddr ⟨5, 48⟩ (.t 39) (.t 40), guard := some (38, false) },
    { dst := some 42, op := .faddr 1 (.t 41), guard := some (38, false) },
    { dst := some 43, op := .load 1 false (.t 42), guard := some (38, false) },
    { dst := some 44, op := .bin .eql (.t 43) (.k (.int 0)), guard := some (38, false) },
    { dst := some 45, op := .pick (.t 38) (.k (.bool true)) (.t 44) }])
  (.cond (.t 45)
    (.seq (.reg [
      { dst := some 46, op := .call (.f f_law07_awake) [] },
      { dst := some 10, op := .mov (.t 46) }])
    .ret)
    .skip))
  (.seq (.reg [
    { dst := some 48, op := .mov (.t 0) },
    { dst := some 49, op := .mov (.t 1) },
    { dst := some 50, op := .mov (.t 2) },
    { dst := some 51, op := .load 3 true (.t 8) },
    { dst := some 52, op := .call (.f f_cellrow_Insert) [(.t 48), (.t 49), (.t 50), (.t 51)] },
    { dst := some 47, op := .mov (.t 52) },
    { dst := some 53, op := .extract 0 (.t 47) },
    { dst := some 54, op := .extract 1 (.t 47) },
    { dst := some 11, op := .mov (.t 53) },
    { dst := some 12, op := .mov (.t 54) }])
  (.seq (.seq (.reg [
    { dst := some 55, op := .mov (.t 12) },
    { dst := some 56, op := .bin .neq (.t 55) (.k (.int 0)) }])
  (.cond (.t 56)
    (.seq (.reg [
      { dst := some 10, op := .mov (.k (.bool false)) }])
    .ret)
    .skip))
  (.seq (.reg [
    { dst := some 58, op := .mov (.t 11) },
    { dst := some 59, op := .mov (.t 1) },
    { dst := some 60, op := .mov (.t 2) },
    { dst := some 61, op := .load 3 true (.t 9) },
    { dst := some 62, op := .call (.f f_cellrow_Delete) [(.t 58), (.t 59), (.t 60), (.t 61)] },
    { dst := some 57, op := .mov (.t 62) },
    { dst := some 63, op := .extract 0 (.t 57) },
    { dst := some 64, op := .extract 1 (.t 57) },
    { dst := some 13, op := .mov (.t 63) },
    { dst := some 14, op := .mov (.t 64) }])
  (.seq (.reg [
    { dst := some 66, op := .mov (.t 0) },
    { dst := some 67, op := .mov (.t 0) },
    { dst := some 68, op := .len false (.t 67) },
    { dst := some 69, op := .mov (.t 2) },
    { dst := some 70, op := .mov (.t 0) },
    { dst := some 71, op := .len false (.t 70) },
    { dst := some 72, op := .mov (.t 1) },
    { dst := some 73, op := .bin .sub (.t 71) (.t 72) },
    { dst := some 74, op := .minmax false [(.t 69), (.t 73)] },
    { dst := some 75, op := .bin .sub (.t 68) (.t 74) },
    { dst := some 76, op := .mov (.t 0) },
    { dst := some 77, op := .len false (.t 76) },
    { dst := some 78, op := .load 3 true (.t 9) },
    { dst := some 79, op := .call (.f f_cellrow_Erase) [(.t 66), (.t 75), (.t 77), (.t 78)] },
    { dst := some 65, op := .mov (.t 79) },
    { dst := some 80, op := .extract 0 (.t 65) },
    { dst := some 81, op := .extract 1 (.t 65) },
    { dst := some 15, op := .mov (.t 80) },
    { dst := some 16, op := .mov (.t 81) }])
  (.seq (.reg [
    { dst := some 82, op := .mov (.t 14) },
    { dst := some 83, op := .bin .eql (.t 82) (.k (.int 0)) },
    { dst := some 84, op := .mov (.t 83) },
    { dst := some 85, op := .mov (.t 16), guard := some (84, true) },
    { dst := some 86, op := .bin .eql (.t 85) (.k (.int 0)), guard := some (84, true) },
    { dst := some 87, op := .pick (.t 84) (.t 86) (.k (.bool false)) },
    { dst := some 88, op := .mov (.t 87) },
    { dst := some 89, op := .mov (.t 13), guard := some (88, true) },
    { dst := some 90, op := .mov (.t 15), guard := some (88, true) },
    { dst := some 91, op := .call (.f f_ref07_Same) [(.t 89), (.t 90)], guard := some (88, true) },
    { dst := some 92, op := .pick (.t 88) (.t 91) (.k (.bool false)) },
    { dst := some 93, op := .mov (.t 92) },
    { dst := some 94, op := .call (.f f_law07_awake) [], guard := some (93, true) },
    { dst := some 95, op := .pick (.t 93) (.t 94) (.k (.bool false)) },
    { dst := some 10, op := .mov (.t 95) }])
  .ret)))))))

def x_law07_CellrowErase (f_ref07_Great f_law07_awake f_cellrow_Erase f_ref07_Erase f_ref07_Same f_cellrow_Fit f_ref07_Fit : FuncId) : XC :=
(.seq (.reg [
    { dst := some 9, op := .box ⟨3, 24⟩ (.t 4) },
    { dst := some 10, op := .mov (.k (.bool false)) }])
  (.seq (.seq (.reg [
    { dst := some 15, op := .mov (.t 0) },
    { dst := some 16, op := .call (.f f_ref07_Great) [(.t 15)] }])
  (.cond (.t 16)
    (.seq (.reg [
      { dst := some 17, op := .call (.f f_law07_awake) [] },
      { dst := some 10, op := .mov (.t 17) }])
    .ret)
    .skip))
  (.seq (.reg [
    { dst := some 19, op := .mov (.t 0) },
    { dst := some 20, op := .mov (.t 1) },
    { dst := some 21, op := .mov (.t 2) },
    { dst := some 22, op := .load 3 true (.t 9) },
    { dst := some 23, op := .call (.f f_cellrow_Erase) [(.t 19), (.t 20), (.t 21), (.t 22)] },
    { dst := some 18, op := .mov (.t 23) },
    { dst := some 24, op := .extract 0 (.t 18) },
    { dst := some 25, op := .extract 1 (.t 18) },
    { dst := some 11, op := .mov (.t 24) },
    { dst := some 12, op := .mov (.t 25) }])
  (.seq (.reg [
    { dst := some 27, op := .mov (.t 0) },
    { dst := some 28, op := .mov (.t 1) },
    { dst := some 29, op := .mov (.t 2) },
    { dst := some 30, op := .load 3 true (.t 9) },
    { dst := some 31, op := .call (.f f_ref07_Erase) [(.t 27), (.t 28), (.t 29), (.t 30)] },
    { dst := some 26, op := .mov (.t 31) },
    { dst := some 32, op := .extract 0 (.t 26) },
    { dst := some 33, op := .extract 1 (.t 26) },
    { dst := some 13, op := .mov (.t 32) },
    { dst := some 14, op := .mov (.t 33) }])
  (.seq (.reg [
    { dst := some 34, op := .mov (.t 11) },
    { dst := some 35, op := .mov (.t 13) },
    { dst := some 36, op := .call (.f f_ref07_Same) [(.t 34), (.t 35)] },
    { dst := some 37, op := .mov (.t 36) },
    { dst := some 38, op := .mov (.t 12), guard := some (37, true) },
    { dst := some 39, op := .mov (.t 14), guard := some (37, true) },
    { dst := some 40, op := .bin .eql (.t 38) (.t 39), guard := some (37, true) },
    { dst := some 41, op := .pick (.t 37) (.t 40) (.k (.bool false)) },
    { dst := some 42, op := .mov (.t 41) },
    { dst := some 43, op := .mov (.t 0), guard := some (42, true) },
    { dst := some 44, op := .mov (.t 3), guard := some (42, true) },
    { dst := some 45, op := .call (.f f_cellrow_Fit) [(.t 43), (.t 44)], guard := some (42, true) },
    { dst := some 46, op := .mov (.t 0), guard := some (42, true) },
    { dst := some 47, op := .mov (.t 3), guard := some (42, true) },
    { dst := some 48, op := .call (.f f_ref07_Fit) [(.t 46), (.t 47)], guard := some (42, true) },
    { dst := some 49, op := .call (.f f_ref07_Same) [(.t 45), (.t 48)], guard := some (42, true) },
    { dst := some 50, op := .pick (.t 42) (.t 49) (.k (.bool false)) },
    { dst := some 51, op := .mov (.t 50) },
    { dst := some 52, op := .call (.f f_law07_awake) [], guard := some (51, true) },
    { dst := some 53, op := .pick (.t 51) (.t 52) (.k (.bool false)) },
    { dst := some 10, op := .mov (.t 53) }])
  .ret)))))

def x_law07_CellrowProper (f_ref07_Great f_cellrow_Check f_law07_awake f_cellrow_Put f_cellrow_Insert f_cellrow_Delete f_cellrow_Erase f_law07_CellrowProper_1 f_cellrow_Fit : FuncId) : XC :=
(.seq (.reg [
    { dst := some 5, op := .box ⟨1, 24⟩ (.t 0) },
    { dst := some 9, op := .box ⟨3, 24⟩ (.t 4) },
    { dst := some 10, op := .mov (.k (.bool false)) }])
  (.seq (.seq (.reg [
    { dst := some 21, op := .load 1 false (.t 5) },
    { dst := some 22, op := .call (.f f_ref07_Great) [(.t 21)] },
    { dst := some 23, op := .mov (.t 22) },
    { dst := some 24, op := .mov (.t 3), guard := some (23, false) },
    { dst := some 25, op := .len true (.t 24), guard := some (23, false) },
    { dst := some 26, op := .bin .gtr (.t 25) (.k (.int 40)), guard := some (23, false) },
    { dst := some 27, op := .pick (.t 23) (.k (.bool true)) (.t 26) },
    { dst := some 28, op := .mov (.t 27) },
    { dst := some 29, op := .load 1 false (.t 5), guard := some (28, false) },
    { dst := some 30, op := .call (.f f_cellrow_Check) [(.t 29)], guard := some (28, false) },
    { dst := some 31, op := .bin .neq (.t 30) (.k (.int 0)), guard := some (28, false) },
    { dst := some 32, op := .pick (.t 28) (.k (.bool true)) (.t 31) }])
  (.cond (.t 32)
    (.seq (.reg [
      { dst := some 33, op := .call (.f f_law07_awake) [] },
      { dst := some 10, op := .mov (.t 33) }])
    .ret)
    .skip))
  (.seq (.reg [
    { dst := some 35, op := .load 1 false (.t 5) },
    { dst := some 36, op := .mov (.t 1) },
    { dst := some 37, op := .mov (.t 3) },
    { dst := some 38, op := .load 3 true (.t 9) },
    { dst := some 39, op := .call (.f f_cellrow_Put) [(.t 35), (.t 36), (.t 37), (.t 38)] },
    { dst := some 34, op := .mov (.t 39) },
    { dst := some 40, op := .extract 0 (.t 34) },
    { dst := some 41, op := .extract 1 (.t 34) },
    { dst := some 11, op := .mov (.t 40) },
    { dst := some 12, op := .mov (.t 41) }])
  (.seq (.reg [
    { dst := some 43, op := .load 1 false (.t 5) },
    { dst := some 44, op := .mov (.t 1) },
    { dst := some 45, op := .mov (.t 2) },
    { dst := some 46, op := .load 3 true (.t 9) },
    { dst := some 47, op := .call (.f f_cellrow_Insert) [(.t 43), (.t 44), (.t 45), (.t 46)] },
    { dst := some 42, op := .mov (.t 47) },
    { dst := some 48, op := .extract 0 (.t 42) },
    { dst := some 49, op := .extract 1 (.t 42) },
    { dst := some 13, op := .mov (.t 48) },
    { dst := some 14, op := .mov (.t 49) }])
  (.seq (.reg [
    { dst := some 51, op := .load 1 false (.t 5) },
    { dst := some 52, op := .mov (.t 1) },
    { dst := some 53, op := .mov (.t 2) },
    { dst := some 54, op := .load 3 true (.t 9) },
    { dst := some 55, op := .call (.f f_cellrow_Delete) [(.t 51), (.t 52), (.t 53), (.t 54)] },
    { dst := some 50, op := .mov (.t 55) },
    { dst := some 56, op := .extract 0 (.t 50) },
    { dst := some 57, op := .extract 1 (.t 50) },
    { dst := some 15, op := .mov (.t 56) },
    { dst := some 16, op := .mov (.t 57) }])
  (.seq (.reg [
    { dst := some 59, op := .load 1 false (.t 5) },
    { dst := some 60, op := .mov (.t 1) },
    { dst := some 61, op := .mov (.t 2) },
    { dst := some 62, op := .load 3 true (.t 9) },
    { dst := some 63, op := .call (.f f_cellrow_Erase) [(.t 59), (.t 60), (.t 61), (.t 62)] },
    { dst := some 58, op := .mov (.t 63) },
    { dst := some 64, op := .extract 0 (.t 58) },
    { dst := some 65, op := .extract 1 (.t 58) },
    { dst := some 17, op := .mov (.t 64) },
    { dst := some 18, op := .mov (.t 65) }])
  (.seq (.reg [
    { dst := some 66, op := .mkfn f_law07_CellrowProper_1 [(.t 5)] },
    { dst := some 19, op := .mov (.t 66) }])
  (.seq (.seq (.reg [
    { dst := some 67, op := .mov (.t 19) },
    { dst := some 68, op := .mov (.t 11) },
    { dst := some 69, op := .mov (.t 12) },
    { dst := some 70, op := .call (.t 67) [(.t 68), (.t 69)] },
    { dst := some 71, op := .un .not (.t 70) },
    { dst := some 72, op := .mov (.t 71) },
    { dst := some 73, op := .mov (.t 19), guard := some (72, false) },
    { dst := some 74, op := .mov (.t 13), guard := some (72, false) },
    { dst := some 75, op := .mov (.t 14), guard := some (72, false) },
    { dst := some 76, op := .call (.t 73) [(.t 74), (.t 75)], guard := some (72, false) },
    { dst := some 77, op := .un .not (.t 76), guard := some (72, false) },
    { dst := some 78, op := .pick (.t 72) (.k (.bool true)) (.t 77) },
    { dst := some 79, op := .mov (.t 78) },
    { dst := some 80, op := .mov (.t 19), guard := some (79, false) },
    { dst := some 81, op := .mov (.t 15), guard := some (79, false) },
    { dst := some 82, op := .mov (.t 16), guard := some (79, false) },
    { dst := some 83, op := .call (.t 80) [(.t 81), (.t 82)], guard := some (79, false) },
    { dst := some 84, op := .un .not (.t 83), guard := some (79, false) },
    { dst := some 85, op := .pick (.t 79) (.k (.bool true)) (.t 84) },
    { dst := some 86, op := .mov (.t 85) },
    { dst := some 87, op := .mov (.t 19), guard := some (86, false) },
    { dst := some 88, op := .mov (.t 17), guard := some (86, false) },
    { dst := some 89, op := .mov (.t 18), guard := some (86, false) },
    { dst := some 90, op := .call (.t 87) [(.t 88), (.t 89)], guard := some (86, false) },
    { dst := some 91, op := .un .not (.t 90), guard := some (86, false) },
    { dst := some 92, op := .pick (.t 86) (.k (.bool true)) (.t 91) }])
  (.cond (.t 92)
    (.seq (.reg [
      { dst := some 10, op := .mov (.k (.bool false)) }])
    .ret)
    .skip))
  (.seq (.reg [
    { dst := some 93, op := .load 1 false (.t 5) },
    { dst := some 94, op := .mov (.t 2) },
    { dst := some 95, op := .call (.f f_cellrow_Fit) [(.t 93), (.t 94)] },
    { dst := some 20, op := .mov (.t 95) }])
  (.seq (.seq (.reg [
    { dst := some 96, op := .mov (.t 2) },
    { dst := some 97, op := .bin .lss (.t 96) (.k (.int 1)) },
    { dst := some 98, op := .mov (.t 97) },
    { dst := some 99, op := .mov (.t 2), guard := some (98, false) },
    { dst := some 100, op := .bin .gtr (.t 99) (.k (.int 132)), guard := some (98, false) },
    { dst := some 101, op := .pick (.t 98) (.k (.bool true)) (.t 100) }])
  (.cond (.t 101)
    (.seq (.reg [
      { dst := some 102, op := .mov (.t 20) },
      { dst := some 103, op := .len false (.t 102) },
      { dst := some 104, op := .bin .eql (.t 103) (.k (.int 0)) },
      { dst := some 105, op := .mov (.t 104) },
      { dst := some 106, op := .call (.f f_law07_awake) [], guard := some (105, true) },
      { dst := some 107, op := .pick (.t 105) (.t 106) (.k (.bool false)) },
      { dst := some 10, op := .mov (.t 107) }])
    .ret)
    .skip))
  (.seq (.reg [
    { dst := some 108, op := .mov (.t 20) },
    { dst := some 109, op := .len false (.t 108) },
    { dst := some 110, op := .mov (.t 2) },
    { dst := some 111, op := .bin .eql (.t 109) (.t 110) },
    { dst := some 112, op := .mov (.t 111) },
    { dst := some 113, op := .mov (.t 20), guard := some (112, true) },
    { dst := some 114, op := .call (.f f_cellrow_Check) [(.t 113)], guard := some (112, true) },
    { dst := some 115, op := .bin .eql (.t 114) (.k (.int 0)), guard := some (112, true) },
    { dst := some 116, op := .pick (.t 112) (.t 115) (.k (.bool false)) },
    { dst := some 117, op := .mov (.t 116) },
    { dst := some 118, op := .call (.f f_law07_awake) [], guard := some (117, true) },
    { dst := some 119, op := .pick (.t 117) (.t 118) (.k (.bool false)) },
    { dst := some 10, op := .mov (.t 119) }])
  .ret)))))))))))

def x_ref07_Great : XC :=
(.seq (.reg [
    { dst := some 2, op := .mov (.k (.bool false)) }])
  (.seq (.seq (.reg [
    { dst := some 4, op := .mov (.t 0) },
    { dst := some 5, op := .len false (.t 4) },
    { dst := some 6, op := .bin .gtr (.t 5) (.k (.int 140)) }])
  (.cond (.t 6)
    (.seq (.reg [
      { dst := some 2, op := .mov (.k (.bool true)) }])
    .ret)
    .skip))
  (.seq (.seq (.reg [
    { dst := some 3, op := .mov (.k (.int 0)) }])
  (.block 0 (.loop (.seq (.seq (.reg [
    { dst := some 7, op := .mov (.t 3) },
    { dst := some 8, op := .mov (.t 0) },
    { dst := some 9, op := .len false (.t 8) },
    { dst := some 10, op := .bin .lss (.t 7) (.t 9) }])
  (.cond (.t 10)
    .skip
    (.exit 0)))
  (.seq (.block 1 (.seq (.reg [
    { dst := some 13, op := .mov (.t 0) },
    { dst := some 14, op := .mov (.t 3) },
    { dst := some 15, op := .iaddr ⟨5, 48⟩ (.t 13) (.t 14) },
    { dst := some 16, op := .faddr 0 (.t 15) },
    { dst := some 17, op := .load 1 false (.t 16) },
    { dst := some 18, op := .len true (.t 17) },
    { dst := some 19, op := .bin .gtr (.t 18) (.k (.int 40)) }])
  (.cond (.t 19)
    (.seq (.reg [
      { dst := some 2, op := .mov (.k (.bool true)) }])
    .ret)
    .skip)))
  (.reg [
    { dst := some 11, op := .mov (.t 3) },
    { dst := some 12, op := .bin .add (.t 11) (.k (.int 1)) },
    { dst := some 3, op := .mov (.t 12) }]))))))
  (.seq (.reg [
    { dst := some 2, op := .mov (.k (.bool false)) }])
  .ret))))

def x_law07_awake (f_cellrow_Blank f_cellrow_Put f_cellrow_Text f_cellrow_Insert : FuncId) : XC :=
(.seq (.reg [
    { dst := some 0, op := .mov (.k (.bool false)) }])
  (.seq (.reg [
    { dst := some 12, op := .build [(.int 0), (.int 0), (.int 0)] [(0, 1, (.k (.int (-1)))), (1, 1, (.k (.int (-1))))] },
    { dst := some 1, op := .alloc ⟨3, 24⟩ [(.int 0), (.int 0), (.int 0)] },
    { dst := none, op := .store 3 (.t 1) (.t 12) }])
  (.seq (.reg [
    { dst := some 13, op := .load 3 true (.t 1) },
    { dst := some 14, op := .call (.f f_cellrow_Blank) [(.k (.int 4)), (.t 13)] },
    { dst := some 2, op := .mov (.t 14) }])
  (.seq (.reg [
    { dst := some 3, op := .mov (.k (.int 0)) }])
  (.seq (.seq (.reg [
    { dst := some 15, op := .bslice ⟨1, 16⟩ [(.str ⟨#[]⟩)] 4 [(0, (.k (.str ⟨#[97]⟩))), (1, (.k (.str ⟨#[98]⟩))), (2, (.k (.str ⟨#[99]⟩))), (3, (.k (.str ⟨#[100]⟩)))] },
    { dst := some 16, op := .len false (.t 15) },
    { dst := some 17, op := .mov (.k (.int 0)) }])
  (.block 0 (.loop (.seq (.reg [
    { dst := some 18, op := .bin .lss (.t 17) (.t 16) }])
  (.seq (.cond (.t 18)
    .skip
    (.exit 0))
  (.seq (.block 1 (.seq (.reg [
    { dst := some 19, op := .mov (.t 17) },
    { dst := some 20, op := .iaddr ⟨1, 16⟩ (.t 15) (.t 17) },
    { dst := some 21, op := .load 1 false (.t 20) },
    { dst := some 4, op := .mov (.t 19) },
    { dst := some 5, op := .mov (.t 21) }])
  (.seq (.reg [
    { dst := some 22, op := .mov (.t 3) },
    { dst := some 23, op := .bin .eql (.t 22) (.k (.int 0)) }])
  (.cond (.t 23)
    (.reg [
      { dst := some 25, op := .mov (.t 2) },
      { dst := some 26, op := .mov (.t 4) },
      { dst := some 27, op := .mov (.t 5) },
      { dst := some 28, op := .load 3 true (.t 1) },
      { dst := some 29, op := .call (.f f_cellrow_Put) [(.t 25), (.t 26), (.t 27), (.t 28)] },
      { dst := some 24, op := .mov (.t 29) },
      { dst := some 30, op := .extract 0 (.t 24) },
      { dst := some 31, op := .extract 1 (.t 24) },
      { dst := some 2, op := .mov (.t 30) },
      { dst := some 3, op := .mov (.t 31) }])
    .skip))))
  (.reg [
    { dst := some 32, op := .bin .add (.t 17) (.k (.int 1)) },
    { dst := some 17, op := .mov (.t 32) }])))))))
  (.seq (.seq (.reg [
    { dst := some 33, op := .mov (.t 3) },
    { dst := some 34, op := .bin .neq (.t 33) (.k (.int 0)) },
    { dst := some 35, op := .mov (.t 34) },
    { dst := some 36, op := .mov (.t 2), guard := some (35, false) },
    { dst := some 37, op := .call (.f f_cellrow_Text) [(.t 36)], guard := some (35, false) },
    { dst := some 38, op := .bin .neq (.t 37) (.k (.str ⟨#[97, 98, 99, 100]⟩)), guard := some (35, false) },
    { dst := some 39, op := .pick (.t 35) (.k (.bool true)) (.t 38) }])
  (.cond (.t 39)
    (.seq (.reg [
      { dst := some 0, op := .mov (.k (.bool false)) }])
    .ret)
    .skip))
  (.seq (.reg [
    { dst := some 41, op := .mov (.t 2) },
    { dst := some 42, op := .load 3 true (.t 1) },
    { dst := some 43, op := .call (.f f_cellrow_Put) [(.t 41), (.k (.int 1)), (.k (.str ⟨#[230, 188, 162]⟩)), (.t 42)] },
    { dst := some 40, op := .mov (.t 43) },
    { dst := some 44, op := .extract 0 (.t 40) },
    { dst := some 45, op := .extract 1 (.t 40) },
    { dst := some 6, op := .mov (.t 44) },
    { dst := some 7, op := .mov (.t 45) }])
  (.seq (.reg [
    { dst := some 47, op := .mov (.t 6) },
    { dst := some 48, op := .load 3 true (.t 1) },
    { dst := some 49, op := .call (.f f_cellrow_Put) [(.t 47), (.k (.int 2)), (.k (.str ⟨#[120]⟩)), (.t 48)] },
    { dst := some 46, op := .mov (.t 49) },
    { dst := some 50, op := .extract 0 (.t 46) },
    { dst := some 51, op := .extract 1 (.t 46) },
    { dst := some 8, op := .mov (.t 50) },
    { dst := some 9, op := .mov (.t 51) }])
  (.seq (.reg [
    { dst := some 53, op := .mov (.t 2) },
    { dst := some 54, op := .load 3 true (.t 1) },
    { dst := some 55, op := .call (.f f_cellrow_Insert) [(.t 53), (.k (.int 0)), (.k (.int 1)), (.t 54)] },
    { dst := some 52, op := .mov (.t 55) },
    { dst := some 56, op := .extract 0 (.t 52) },
    { dst := some 57, op := .extract 1 (.t 52) },
    { dst := some 10, op := .mov (.t 56) },
    { dst := some 11, op := .mov (.t 57) }])
  (.seq (.reg [
    { dst := some 58, op := .mov (.t 7) },
    { dst := some 59, op := .bin .eql (.t 58) (.k (.int 0)) },
    { dst := some 60, op := .mov (.t 59) },
    { dst := some 61, op := .mov (.t 9), guard := some (60, true) },
    { dst := some 62, op := .bin .eql (.t 61) (.k (.int 0)), guard := some (60, true) },
    { dst := some 63, op := .pick (.t 60) (.t 62) (.k (.bool false)) },
    { dst := some 64, op := .mov (.t 63) },
    { dst := some 65, op := .mov (.t 11), guard := some (64, true) },
    { dst := some 66, op := .bin .eql (.t 65) (.k (.int 0)), guard := some (64, true) },
    { dst := some 67, op := .pick (.t 64) (.t 66) (.k (.bool false)) },
    { dst := some 68, op := .mov (.t 67) },
    { dst := some 69, op := .mov (.t 6), guard := some (68, true) },
    { dst := some 70, op := .call (.f f_cellrow_Text) [(.t 69)], guard := some (68, true) },
    { dst := some 71, op := .bin .eql (.t 70) (.k (.str ⟨#[97, 230, 188, 162, 100]⟩)), guard := some (68, true) },
    { dst := some 72, op := .pick (.t 68) (.t 71) (.k (.bool false)) },
    { dst := some 73, op := .mov (.t 72) },
    { dst := some 74, op := .mov (.t 6), guard := some (73, true) },
    { dst := some 75, op := .len false (.t 74), guard := some (73, true) },
    { dst := some 76, op := .bin .eql (.t 75) (.k (.int 4)), guard := some (73, true) },
    { dst := some 77, op := .pick (.t 73) (.t 76) (.k (.bool false)) },
    { dst := some 78, op := .mov (.t 77) },
    { dst := some 79, op := .mov (.t 8), guard := some (78, true) },
    { dst := some 80, op := .call (.f f_cellrow_Text) [(.t 79)], guard := some (78, true) },
    { dst := some 81, op := .bin .eql (.t 80) (.k (.str ⟨#[97, 32, 120, 100]⟩)), guard := some (78, true) },
    { dst := some 82, op := .pick (.t 78) (.t 81) (.k (.bool false)) },
    { dst := some 83, op := .mov (.t 82) },
    { dst := some 84, op := .mov (.t 10), guard := some (83, true) },
    { dst := some 85, op := .call (.f f_cellrow_Text) [(.t 84)], guard := some (83, true) },
    { dst := some 86, op := .bin .eql (.t 85) (.k (.str ⟨#[32, 97, 98, 99]⟩)), guard := some (83, true) },
    { dst := some 87, op := .pick (.t 83) (.t 86) (.k (.bool false)) },
    { dst := some 0, op := .mov (.t 87) }])
  .ret))))))))))

def x_cellrow_Check (f_cluster_Check f_cluster_Width : FuncId) : XC :=
(.seq (.reg [
    { dst := some 2, op := .mov (.k (.int 0)) }])
  (.seq (.seq (.reg [
    { dst := some 5, op := .mov (.t 0) },
    { dst := some 6, op := .len false (.t 5) },
    { dst := some 7, op := .bin .lss (.t 6) (.k (.int 1)) },
    { dst := some 8, op := .mov (.t 7) },
    { dst := some 9, op := .mov (.t 0), guard := some (8, false) },
    { dst := some 10, op := .len false (.t 9), guard := some (8, false) },
    { dst := some 11, op := .bin .gtr (.t 10) (.k (.int 132)), guard := some (8, false) },
    { dst := some 12, op := .pick (.t 8) (.k (.bool true)) (.t 11) }])
  (.cond (.t 12)
    (.seq (.reg [
      { dst := some 2, op := .mov (.k (.int 5)) }])
    .ret)
    .skip))
  (.seq (.seq (.reg [
    { dst := some 3, op := .mov (.k (.int 0)) }])
  (.block 0 (.loop (.seq (.seq (.reg [
    { dst := some 13, op := .mov (.t 3) },
    { dst := some 14, op := .mov (.t 0) },
    { dst := some 15, op := .len false (.t 14) },
    { dst := some 16, op := .bin .lss (.t 13) (.t 15) }])
  (.cond (.t 16)
    .skip
    (.exit 0)))
  (.block 1 (.seq (.reg [
    { dst := some 17, op := .mov (.t 0) },
    { dst := some 18, op := .mov (.t 3) },
    { dst := some 19, op := .iaddr ⟨5, 48⟩ (.t 17) (.t 18) },
    { dst := some 20, op := .load 5 true (.t 19) },
    { dst := some 4, op := .alloc ⟨5, 48⟩ [(.str ⟨#[]⟩), (.int 0), (.int 0), (.int 0), (.int 0)] },
    { dst := none, op := .store 5 (.t 4) (.t 20) }])
  (.seq (.seq (.reg [
    { dst := some 21, op := .faddr 1 (.t 4) },
    { dst := some 22, op := .load 1 false (.t 21) },
    { dst := some 23, op := .bin .neq (.t 22) (.k (.int 1)) },
    { dst := some 24, op := .mov (.t 23) },
    { dst := some 25, op := .faddr 1 (.t 4), guard := some (24, true) },
    { dst := some 26, op := .load 1 false (.t 25), guard := some (24, true) },
    { dst := some 27, op := .bin .neq (.t 26) (.k (.int 2)), guard := some (24, true) },
    { dst := some 28, op := .pick (.t 24) (.t 27) (.k (.bool false)) }])
  (.cond (.t 28)
    (.seq (.reg [
      { dst := some 2, op := .mov (.k (.int 12)) }])
    .ret)
    .skip))
  (.seq (.seq (.reg [
    { dst := some 29, op := .faddr 0 (.t 4) },
    { dst := some 30, op := .load 1 false (.t 29) },
    { dst := some 31, op := .call (.f f_cluster_Check) [(.t 30)] },
    { dst := some 32, op := .bin .neq (.t 31) (.k (.int 0)) }])
  (.cond (.t 32)
    (.seq (.reg [
      { dst := some 2, op := .mov (.k (.int 3)) }])
    .ret)
    .skip))
  (.seq (.seq (.drw 0 [
    { dst := some 33, op := .faddr 0 (.t 4) },
    { dst := some 34, op := .load 1 false (.t 33) },
    { dst := some 35, op := .call (.f f_cluster_Width) [(.t 34)] },
    { dst := some 36, op := .faddr 1 (.t 4) },
    { dst := some 37, op := .load 1 false (.t 36) },
    { dst := some 38, op := .bin .neq (.t 35) (.t 37) }])
  (.cond (.t 38)
    (.seq (.reg [
      { dst := some 2, op := .mov (.k (.int 12)) }])
    .ret)
    .skip))
  (.seq (.seq (.drw 0 [
    { dst := some 39, op := .faddr 1 (.t 4) },
    { dst := some 40, op := .load 1 false (.t 39) },
    { dst := some 41, op := .bin .eql (.t 40) (.k (.int 2)) },
    { dst := some 42, op := .mov (.t 41) },
    { dst := some 43, op := .mov (.t 3), guard := some (42, true) },
    { dst := some 44, op := .bin .add (.t 43) (.k (.int 1)), guard := some (42, true) },
    { dst := some 45, op := .mov (.t 0), guard := some (42, true) },
    { dst := some 46, op := .len false (.t 45), guard := some (42, true) },
    { dst := some 47, op := .bin .geq (.t 44) (.t 46), guard := some (42, true) },
    { dst := some 48, op := .mov (.t 47), guard := some (42, true) },
    { dst := some 49, op := .mov (.t 0), guard := some (48, false) },
    { dst := some 50, op := .mov (.t 3), guard := some (48, false) },
    { dst := some 51, op := .bin .add (.t 50) (.k (.int 1)), guard := some (48, false) },
    { dst := some 52, op := .iaddr ⟨5, 48⟩ (.t 49) (.t 51), guard := some (48, false) },
    { dst := some 53, op := .load 5 true (.t 52), guard := some (48, false) },
    { dst := some 54, op := .faddr 2 (.t 4), guard := some (48, false) },
    { dst := some 55, op := .load 3 true (.t 54), guard := some (48, false) },
    { dst := some 56, op := .build [(.str ⟨#[]⟩), (.int 0), (.int 0), (.int 0), (.int 0)] [(2, 3, (.t 55))], guard := some (48, false) },
    { dst := some 57, op := .eqs true 5 [(0, .s), (1, .i), (2, .i), (3, .i), (4, .i)] (.t 53) (.t 56), guard := some (48, false) },
    { dst := some 58, op := .pick (.t 48) (.k (.bool true)) (.t 57), guard := some (42, true) },
    { dst := some 59, op := .pick (.t 42) (.t 58) (.k (.bool false)) }])
  (.cond (.t 59)
    (.seq (.reg [
      { dst := some 2, op := .mov (.k (.int 12)) }])
    .ret)
    .skip))
  (.reg [
    { dst := some 60, op := .mov (.t 3) },
    { dst := some 61, op := .faddr 1 (.t 4) },
    { dst := some 62, op := .load 1 false (.t 61) },
    { dst := some 63, op := .bin .add (.t 60) (.t 62) },
    { dst := some 3, op := .mov (.t 63) }])))))))))))
  (.seq (.reg [
    { dst := some 2, op := .mov (.k (.int 0)) }])
  .ret))))

def x_ref07_Check (f_ref03_Check f_ref03_Width : FuncId) : XC :=
(.seq (.reg [
    { dst := some 2, op := .mov (.k (.int 0)) }])
  (.seq (.seq (.reg [
    { dst := some 5, op := .mov (.t 0) },
    { dst := some 6, op := .len false (.t 5) },
    { dst := some 7, op := .bin .lss (.t 6) (.k (.int 1)) },
    { dst := some 8, op := .mov (.t 7) },
    { dst := some 9, op := .mov (.t 0), guard := some (8, false) },
    { dst := some 10, op := .len false (.t 9), guard := some (8, false) },
    { dst := some 11, op := .bin .gtr (.t 10) (.k (.int 132)), guard := some (8, false) },
    { dst := some 12, op := .pick (.t 8) (.k (.bool true)) (.t 11) }])
  (.cond (.t 12)
    (.seq (.reg [
      { dst := some 2, op := .mov (.k (.int 5)) }])
    .ret)
    .skip))
  (.seq (.seq (.reg [
    { dst := some 3, op := .mov (.k (.int 0)) }])
  (.block 0 (.loop (.seq (.seq (.reg [
    { dst := some 13, op := .mov (.t 3) },
    { dst := some 14, op := .mov (.t 0) },
    { dst := some 15, op := .len false (.t 14) },
    { dst := some 16, op := .bin .lss (.t 13) (.t 15) }])
  (.cond (.t 16)
    .skip
    (.exit 0)))
  (.seq (.block 1 (.seq (.reg [
    { dst := some 19, op := .mov (.t 0) },
    { dst := some 20, op := .mov (.t 3) },
    { dst := some 21, op := .iaddr ⟨5, 48⟩ (.t 19) (.t 20) },
    { dst := some 22, op := .faddr 1 (.t 21) },
    { dst := some 23, op := .load 1 false (.t 22) },
    { dst := some 4, op := .mov (.t 23) }])
  (.seq (.seq (.reg [
    { dst := some 24, op := .mov (.t 4) },
    { dst := some 25, op := .bin .neq (.t 24) (.k (.int 1)) },
    { dst := some 26, op := .mov (.t 25) },
    { dst := some 27, op := .mov (.t 4), guard := some (26, true) },
    { dst := some 28, op := .bin .neq (.t 27) (.k (.int 2)), guard := some (26, true) },
    { dst := some 29, op := .pick (.t 26) (.t 28) (.k (.bool false)) }])
  (.cond (.t 29)
    (.seq (.reg [
      { dst := some 2, op := .mov (.k (.int 12)) }])
    .ret)
    .skip))
  (.seq (.seq (.reg [
    { dst := some 30, op := .mov (.t 0) },
    { dst := some 31, op := .mov (.t 3) },
    { dst := some 32, op := .iaddr ⟨5, 48⟩ (.t 30) (.t 31) },
    { dst := some 33, op := .faddr 0 (.t 32) },
    { dst := some 34, op := .load 1 false (.t 33) },
    { dst := some 35, op := .call (.f f_ref03_Check) [(.t 34)] },
    { dst := some 36, op := .bin .neq (.t 35) (.k (.int 0)) }])
  (.cond (.t 36)
    (.seq (.reg [
      { dst := some 2, op := .mov (.k (.int 3)) }])
    .ret)
    .skip))
  (.seq (.seq (.reg [
    { dst := some 37, op := .mov (.t 0) },
    { dst := some 38, op := .mov (.t 3) },
    { dst := some 39, op := .iaddr ⟨5, 48⟩ (.t 37) (.t 38) },
    { dst := some 40, op := .faddr 0 (.t 39) },
    { dst := some 41, op := .load 1 false (.t 40) },
    { dst := some 42, op := .call (.f f_ref03_Width) [(.t 41)] },
    { dst := some 43, op := .mov (.t 4) },
    { dst := some 44, op := .bin .neq (.t 42) (.t 43) }])
  (.cond (.t 44)
    (.seq (.reg [
      { dst := some 2, op := .mov (.k (.int 12)) }])
    .ret)
    .skip))
  (.seq (.seq (.reg [
    { dst := some 45, op := .mov (.t 4) },
    { dst := some 46, op := .bin .eql (.t 45) (.k (.int 1)) }])
  (.cond (.t 46)
    (.exit 1)
    .skip))
  (.seq (.seq (.drw 0 [
    { dst := some 47, op := .mov (.t 3) },
    { dst := some 48, op := .bin .add (.t 47) (.k (.int 1)) },
    { dst := some 49, op := .mov (.t 0) },
    { dst := some 50, op := .len false (.t 49) },
    { dst := some 51, op := .bin .eql (.t 48) (.t 50) },
    { dst := some 52, op := .mov (.t 51) },
    { dst := some 53, op := .mov (.t 0), guard := some (52, false) },
    { dst := some 54, op := .mov (.t 3), guard := some (52, false) },
    { dst := some 55, op := .bin .add (.t 54) (.k (.int 1)), guard := some (52, false) },
    { dst := some 56, op := .iaddr ⟨5, 48⟩ (.t 53) (.t 55), guard := some (52, false) },
    { dst := some 57, op := .load 5 true (.t 56), guard := some (52, false) },
    { dst := some 58, op := .mov (.t 0), guard := some (52, false) },
    { dst := some 59, op := .mov (.t 3), guard := some (52, false) },
    { dst := some 60, op := .iaddr ⟨5, 48⟩ (.t 58) (.t 59), guard := some (52, false) },
    { dst := some 61, op := .faddr 2 (.t 60), guard := some (52, false) },
    { dst := some 62, op := .load 3 true (.t 61), guard := some (52, false) },
    { dst := some 63, op := .build [(.str ⟨#[]⟩), (.int 0), (.int 0), (.int 0), (.int 0)] [(2, 3, (.t 62))], guard := some (52, false) },
    { dst := some 64, op := .eqs true 5 [(0, .s), (1, .i), (2, .i), (3, .i), (4, .i)] (.t 57) (.t 63), guard := some (52, false) },
    { dst := some 65, op := .pick (.t 52) (.k (.bool true)) (.t 64) }])
  (.cond (.t 65)
    (.seq (.reg [
      { dst := some 2, op := .mov (.k (.int 12)) }])
    .ret)
    .skip))
  (.reg [
    { dst := some 66, op := .mov (.t 3) },
    { dst := some 67, op := .bin .add (.t 66) (.k (.int 1)) },
    { dst := some 3, op := .mov (.t 67) }]))))))))
  (.reg [
    { dst := some 17, op := .mov (.t 3) },
    { dst := some 18, op := .bin .add (.t 17) (.k (.int 1)) },
    { dst := some 3, op := .mov (.t 18) }]))))))
  (.seq (.reg [
    { dst := some 2, op := .mov (.k (.int 0)) }])
  .ret))))

def x_cellrow_Text (f_strings_Builder_WriteString f_strings_Builder_String : FuncId) : XC :=
(.seq (.reg [
    { dst := some 2, op := .mov (.k (.str ⟨#[]⟩)) }])
  (.seq (.reg [
    { dst := some 3, op := .alloc ⟨2, 32⟩ [(.sc (.pointer none)), .nil] }])
  (.seq (.seq (.reg [
    { dst := some 6, op := .mov (.t 0) },
    { dst := some 7, op := .len false (.t 6) },
    { dst := some 8, op := .mov (.k (.int 0)) }])
  (.block 0 (.loop (.seq (.reg [
    { dst := some 9, op := .bin .lss (.t 8) (.t 7) }])
  (.seq (.cond (.t 9)
    .skip
    (.exit 0))
  (.seq (.block 1 (.seq (.reg [
    { dst := some 10, op := .iaddr ⟨5, 48⟩ (.t 6) (.t 8) },
    { dst := some 11, op := .load 5 true (.t 10) },
    { dst := some 5, op := .alloc ⟨5, 48⟩ [(.str ⟨#[]⟩), (.int 0), (.int 0), (.int 0), (.int 0)] },
    { dst := none, op := .store 5 (.t 5) (.t 11) }])
  (.reg [
    { dst := some 12, op := .faddr 0 (.t 5) },
    { dst := some 13, op := .load 1 false (.t 12) },
    { dst := some 14, op := .call (.f f_strings_Builder_WriteString) [(.t 3), (.t 13)] }])))
  (.reg [
    { dst := some 15, op := .bin .add (.t 8) (.k (.int 1)) },
    { dst := some 8, op := .mov (.t 15) }])))))))
  (.seq (.reg [
    { dst := some 16, op := .call (.f f_strings_Builder_String) [(.t 3)] },
    { dst := some 2, op := .mov (.t 16) }])
  .ret))))

def x_ref07_Text : XC :=
(.seq (.reg [
    { dst := some 2, op := .mov (.k (.str ⟨#[]⟩)) }])
  (.seq (.reg [
    { dst := some 3, op := .mov (.k (.str ⟨#[]⟩)) }])
  (.seq (.seq (.reg [
    { dst := some 4, op := .mov (.k (.int 0)) }])
  (.block 0 (.loop (.seq (.seq (.reg [
    { dst := some 5, op := .mov (.t 4) },
    { dst := some 6, op := .mov (.t 0) },
    { dst := some 7, op := .len false (.t 6) },
    { dst := some 8, op := .bin .lss (.t 5) (.t 7) }])
  (.cond (.t 8)
    .skip
    (.exit 0)))
  (.seq (.block 1 (.reg [
    { dst := some 11, op := .mov (.t 3) },
    { dst := some 12, op := .mov (.t 0) },
    { dst := some 13, op := .mov (.t 4) },
    { dst := some 14, op := .iaddr ⟨5, 48⟩ (.t 12) (.t 13) },
    { dst := some 15, op := .faddr 0 (.t 14) },
    { dst := some 16, op := .load 1 false (.t 15) },
    { dst := some 17, op := .bin .add (.t 11) (.t 16) },
    { dst := some 3, op := .mov (.t 17) }]))
  (.reg [
    { dst := some 9, op := .mov (.t 4) },
    { dst := some 10, op := .bin .add (.t 9) (.k (.int 1)) },
    { dst := some 4, op := .mov (.t 10) }]))))))
  (.seq (.reg [
    { dst := some 18, op := .mov (.t 3) },
    { dst := some 2, op := .mov (.t 18) }])
  .ret))))

def x_ref07_Same : XC :=
(.seq (.reg [
    { dst := some 4, op := .mov (.k (.bool false)) }])
  (.seq (.seq (.reg [
    { dst := some 6, op := .mov (.t 0) },
    { dst := some 7, op := .len false (.t 6) },
    { dst := some 8, op := .mov (.t 1) },
    { dst := some 9, op := .len false (.t 8) },
    { dst := some 10, op := .bin .neq (.t 7) (.t 9) }])
  (.cond (.t 10)
    (.seq (.reg [
      { dst := some 4, op := .mov (.k (.bool false)) }])
    .ret)
    .skip))
  (.seq (.seq (.reg [
    { dst := some 5, op := .mov (.k (.int 0)) }])
  (.block 0 (.loop (.seq (.seq (.reg [
    { dst := some 11, op := .mov (.t 5) },
    { dst := some 12, op := .mov (.t 0) },
    { dst := some 13, op := .len false (.t 12) },
    { dst := some 14, op := .bin .lss (.t 11) (.t 13) }])
  (.cond (.t 14)
    .skip
    (.exit 0)))
  (.seq (.block 1 (.seq (.drw 0 [
    { dst := some 17, op := .mov (.t 0) },
    { dst := some 18, op := .mov (.t 5) },
    { dst := some 19, op := .iaddr ⟨5, 48⟩ (.t 17) (.t 18) },
    { dst := some 20, op := .load 5 true (.t 19) },
    { dst := some 21, op := .mov (.t 1) },
    { dst := some 22, op := .mov (.t 5) },
    { dst := some 23, op := .iaddr ⟨5, 48⟩ (.t 21) (.t 22) },
    { dst := some 24, op := .load 5 true (.t 23) },
    { dst := some 25, op := .eqs true 5 [(0, .s), (1, .i), (2, .i), (3, .i), (4, .i)] (.t 20) (.t 24) }])
  (.cond (.t 25)
    (.seq (.reg [
      { dst := some 4, op := .mov (.k (.bool false)) }])
    .ret)
    .skip)))
  (.reg [
    { dst := some 15, op := .mov (.t 5) },
    { dst := some 16, op := .bin .add (.t 15) (.k (.int 1)) },
    { dst := some 5, op := .mov (.t 16) }]))))))
  (.seq (.reg [
    { dst := some 4, op := .mov (.k (.bool true)) }])
  .ret))))

def x_cellrow_Blank (f_cellrow_blanks : FuncId) : XC :=
(.seq (.reg [
    { dst := some 3, op := .box ⟨3, 24⟩ (.t 1) },
    { dst := some 4, op := .mov (.k .nil) }])
  (.seq (.seq (.reg [
    { dst := some 5, op := .mov (.t 0) },
    { dst := some 6, op := .bin .lss (.t 5) (.k (.int 1)) },
    { dst := some 7, op := .mov (.t 6) },
    { dst := some 8, op := .mov (.t 0), guard := some (7, false) },
    { dst := some 9, op := .bin .gtr (.t 8) (.k (.int 132)), guard := some (7, false) },
    { dst := some 10, op := .pick (.t 7) (.k (.bool true)) (.t 9) }])
  (.cond (.t 10)
    (.seq (.reg [
      { dst := some 4, op := .mov (.k .nil) }])
    .ret)
    .skip))
  (.seq (.reg [
    { dst := some 11, op := .mov (.t 0) },
    { dst := some 12, op := .faddr 1 (.t 3) },
    { dst := some 13, op := .load 1 false (.t 12) },
    { dst := some 14, op := .call (.f f_cellrow_blanks) [(.t 11), (.t 13)] },
    { dst := some 4, op := .mov (.t 14) }])
  .ret)))

def x_ref07_Blank (f_ref07_blank : FuncId) : XC :=
(.seq (.reg [
    { dst := some 3, op := .box ⟨3, 24⟩ (.t 1) },
    { dst := some 4, op := .mov (.k .nil) }])
  (.seq (.seq (.reg [
    { dst := some 7, op := .mov (.t 0) },
    { dst := some 8, op := .bin .lss (.t 7) (.k (.int 1)) },
    { dst := some 9, op := .mov (.t 8) },
    { dst := some 10, op := .mov (.t 0), guard := some (9, false) },
    { dst := some 11, op := .bin .gtr (.t 10) (.k (.int 132)), guard := some (9, false) },
    { dst := some 12, op := .pick (.t 9) (.k (.bool true)) (.t 11) }])
  (.cond (.t 12)
    (.seq (.reg [
      { dst := some 4, op := .mov (.k .nil) }])
    .ret)
    .skip))
  (.seq (.reg [
    { dst := some 5, op := .mov (.k .nil) }])
  (.seq (.seq (.reg [
    { dst := some 6, op := .mov (.k (.int 0)) }])
  (.block 0 (.loop (.seq (.seq (.reg [
    { dst := some 13, op := .mov (.t 6) },
    { dst := some 14, op := .mov (.t 0) },
    { dst := some 15, op := .bin .lss (.t 13) (.t 14) }])
  (.cond (.t 15)
    .skip
    (.exit 0)))
  (.seq (.block 1 (.reg [
    { dst := some 18, op := .mov (.t 5) },
    { dst := some 19, op := .faddr 1 (.t 3) },
    { dst := some 20, op := .load 1 false (.t 19) },
    { dst := some 21, op := .call (.f f_ref07_blank) [(.t 20)] },
    { dst := some 22, op := .bslice ⟨5, 48⟩ [(.str ⟨#[]⟩), (.int 0), (.int 0), (.int 0), (.int 0)] 1 [(0, (.t 21))] },
    { dst := some 23, op := .append ⟨5, 48⟩ (.t 18) (.t 22) },
    { dst := some 5, op := .mov (.t 23) }]))
  (.reg [
    { dst := some 16, op := .mov (.t 6) },
    { dst := some 17, op := .bin .add (.t 16) (.k (.int 1)) },
    { dst := some 6, op := .mov (.t 17) }]))))))
  (.seq (.reg [
    { dst := some 24, op := .mov (.t 5) },
    { dst := some 4, op := .mov (.t 24) }])
  .ret)))))

def x_cellrow_Put (f_cellrow_open f_cluster_Check f_cluster_Width f_cellrow_halve : FuncId) : XC :=
(.seq (.reg [
    { dst := some 7, op := .box ⟨3, 24⟩ (.t 3) },
    { dst := some 8, op := .mov (.k .nil) },
    { dst := some 9, op := .mov (.k (.int 0)) }])
  (.seq (.reg [
    { dst := some 15, op := .mov (.t 0) },
    { dst := some 16, op := .mov (.t 1) },
    { dst := some 17, op := .mov (.t 0) },
    { dst := some 18, op := .len false (.t 17) },
    { dst := some 19, op := .bin .sub (.t 18) (.k (.int 1)) },
    { dst := some 20, op := .calle (.f f_cellrow_open) [(.t 15), (.t 16), (.t 19)] },
    { dst := some 14, op := .mov (.t 20) },
    { dst := some 21, op := .extract 0 (.t 14) },
    { dst := some 22, op := .extract 1 (.t 14) },
    { dst := some 10, op := .mov (.t 21) },
    { dst := some 11, op := .mov (.t 22) }])
  (.seq (.seq (.reg [
    { dst := some 23, op := .mov (.t 11) },
    { dst := some 24, op := .bin .neq (.t 23) (.k (.int 0)) }])
  (.cond (.t 24)
    (.seq (.reg [
      { dst := some 25, op := .mov (.t 11) },
      { dst := some 8, op := .mov (.k .nil) },
      { dst := some 9, op := .mov (.t 25) }])
    .ret)
    .skip))
  (.seq (.seq (.reg [
    { dst := some 26, op := .mov (.t 2) },
    { dst := some 27, op := .call (.f f_cluster_Check) [(.t 26)] },
    { dst := some 28, op := .bin .neq (.t 27) (.k (.int 0)) }])
  (.cond (.t 28)
    (.seq (.reg [
      { dst := some 8, op := .mov (.k .nil) },
      { dst := some 9, op := .mov (.k (.int 3)) }])
    .ret)
    .skip))
  (.seq (.reg [
    { dst := some 29, op := .mov (.t 2) },
    { dst := some 30, op := .call (.f f_cluster_Width) [(.t 29)] },
    { dst := some 12, op := .mov (.t 30) }])
  (.seq (.seq (.reg [
    { dst := some 31, op := .mov (.t 12) },
    { dst := some 32, op := .mov (.t 0) },
    { dst := some 33, op := .len false (.t 32) },
    { dst := some 34, op := .mov (.t 1) },
    { dst := some 35, op := .bin .sub (.t 33) (.t 34) },
    { dst := some 36, op := .bin .gtr (.t 31) (.t 35) }])
  (.cond (.t 36)
    (.seq (.reg [
      { dst := some 8, op := .mov (.k .nil) },
      { dst := some 9, op := .mov (.k (.int 12)) }])
    .ret)
    .skip))
  (.seq (.seq (.reg [
    { dst := some 37, op := .mov (.t 12) },
    { dst := some 38, op := .bin .add (.t 37) (.k (.int 1)) },
    { dst := some 39, op := .mov (.k (.int 0)) }])
  (.block 0 (.loop (.seq (.reg [
    { dst := some 40, op := .bin .lss (.t 39) (.t 38) }])
  (.seq (.cond (.t 40)
    .skip
    (.exit 0))
  (.seq (.block 1 (.seq (.reg [
    { dst := some 41, op := .mov (.t 39) },
    { dst := some 13, op := .mov (.t 41) }])
  (.reg [
    { dst := some 42, op := .mov (.t 10) },
    { dst := some 43, op := .mov (.t 1) },
    { dst := some 44, op := .mov (.t 13) },
    { dst := some 45, op := .bin .add (.t 43) (.t 44) },
    { dst := some 46, op := .calle (.f f_cellrow_halve) [(.t 42), (.t 45)] }])))
  (.reg [
    { dst := some 47, op := .bin .add (.t 39) (.k (.int 1)) },
    { dst := some 39, op := .mov (.t 47) }])))))))
  (.seq (.reg [
    { dst := some 48, op := .mov (.t 10) },
    { dst := some 49, op := .mov (.t 1) },
    { dst := some 50, op := .mov (.t 2) },
    { dst := some 51, op := .mov (.t 12) },
    { dst := some 52, op := .load 3 true (.t 7) },
    { dst := some 53, op := .build [(.str ⟨#[]⟩), (.int 0), (.int 0), (.int 0), (.int 0)] [(0, 1, (.t 50)), (1, 1, (.t 51)), (2, 3, (.t 52))] },
    { dst := some 54, op := .iaddr ⟨5, 48⟩ (.t 48) (.t 49) },
    { dst := none, op := .store 5 (.t 54) (.t 53) }])
  (.seq (.seq (.reg [
    { dst := some 55, op := .mov (.t 12) },
    { dst := some 56, op := .bin .eql (.t 55) (.k (.int 2)) }])
  (.cond (.t 56)
    (.reg [
      { dst := some 57, op := .mov (.t 10) },
      { dst := some 58, op := .mov (.t 1) },
      { dst := some 59, op := .bin .add (.t 58) (.k (.int 1)) },
      { dst := some 60, op := .load 3 true (.t 7) },
      { dst := some 61, op := .build [(.str ⟨#[]⟩), (.int 0), (.int 0), (.int 0), (.int 0)] [(2, 3, (.t 60))] },
      { dst := some 62, op := .iaddr ⟨5, 48⟩ (.t 57) (.t 59) },
      { dst := none, op := .store 5 (.t 62) (.t 61) }])
    .skip))
  (.seq (.reg [
    { dst := some 63, op := .mov (.t 10) },
    { dst := some 8, op := .mov (.t 63) },
    { dst := some 9, op := .mov (.k (.int 0)) }])
  .ret))))))))))

def x_ref07_Put (f_ref07_Check f_ref03_Check f_ref03_Width f_ref07_copied f_ref07_separate : FuncId) : XC :=
(.seq (.reg [
    { dst := some 7, op := .box ⟨3, 24⟩ (.t 3) },
    { dst := some 8, op := .mov (.k .nil) },
    { dst := some 9, op := .mov (.k (.int 0)) }])
  (.seq (.seq (.reg [
    { dst := some 12, op := .mov (.t 0) },
    { dst := some 13, op := .call (.f f_ref07_Check) [(.t 12)] },
    { dst := some 14, op := .bin .neq (.t 13) (.k (.int 0)) }])
  (.cond (.t 14)
    (.seq (.reg [
      { dst := some 8, op := .mov (.k .nil) },
      { dst := some 9, op := .mov (.k (.int 1)) }])
    .ret)
    .skip))
  (.seq (.seq (.reg [
    { dst := some 15, op := .mov (.t 1) },
    { dst := some 16, op := .bin .lss (.t 15) (.k (.int 0)) },
    { dst := some 17, op := .mov (.t 16) },
    { dst := some 18, op := .mov (.t 1), guard := some (17, false) },
    { dst := some 19, op := .mov (.t 0), guard := some (17, false) },
    { dst := some 20, op := .len false (.t 19), guard := some (17, false) },
    { dst := some 21, op := .bin .geq (.t 18) (.t 20), guard := some (17, false) },
    { dst := some 22, op := .pick (.t 17) (.k (.bool true)) (.t 21) }])
  (.cond (.t 22)
    (.seq (.reg [
      { dst := some 8, op := .mov (.k .nil) },
      { dst := some 9, op := .mov (.k (.int 2)) }])
    .ret)
    .skip))
  (.seq (.seq (.reg [
    { dst := some 23, op := .mov (.t 2) },
    { dst := some 24, op := .call (.f f_ref03_Check) [(.t 23)] },
    { dst := some 25, op := .bin .neq (.t 24) (.k (.int 0)) }])
  (.cond (.t 25)
    (.seq (.reg [
      { dst := some 8, op := .mov (.k .nil) },
      { dst := some 9, op := .mov (.k (.int 3)) }])
    .ret)
    .skip))
  (.seq (.reg [
    { dst := some 26, op := .mov (.t 2) },
    { dst := some 27, op := .call (.f f_ref03_Width) [(.t 26)] },
    { dst := some 10, op := .mov (.t 27) }])
  (.seq (.seq (.reg [
    { dst := some 28, op := .mov (.t 1) },
    { dst := some 29, op := .mov (.t 10) },
    { dst := some 30, op := .bin .add (.t 28) (.t 29) },
    { dst := some 31, op := .mov (.t 0) },
    { dst := some 32, op := .len false (.t 31) },
    { dst := some 33, op := .bin .gtr (.t 30) (.t 32) }])
  (.cond (.t 33)
    (.seq (.reg [
      { dst := some 8, op := .mov (.k .nil) },
      { dst := some 9, op := .mov (.k (.int 12)) }])
    .ret)
    .skip))
  (.seq (.reg [
    { dst := some 34, op := .mov (.t 0) },
    { dst := some 35, op := .calle (.f f_ref07_copied) [(.t 34)] },
    { dst := some 11, op := .mov (.t 35) }])
  (.seq (.reg [
    { dst := some 36, op := .mov (.t 11) },
    { dst := some 37, op := .mov (.t 1) },
    { dst := some 38, op := .calle (.f f_ref07_separate) [(.t 36), (.t 37)] }])
  (.seq (.reg [
    { dst := some 39, op := .mov (.t 11) },
    { dst := some 40, op := .mov (.t 1) },
    { dst := some 41, op := .mov (.t 10) },
    { dst := some 42, op := .bin .add (.t 40) (.t 41) },
    { dst := some 43, op := .calle (.f f_ref07_separate) [(.t 39), (.t 42)] }])
  (.seq (.seq (.reg [
    { dst := some 44, op := .mov (.t 10) },
    { dst := some 45, op := .bin .eql (.t 44) (.k (.int 2)) }])
  (.cond (.t 45)
    (.seq (.reg [
      { dst := some 46, op := .mov (.t 11) },
      { dst := some 47, op := .mov (.t 1) },
      { dst := some 48, op := .bin .add (.t 47) (.k (.int 1)) },
      { dst := some 49, op := .calle (.f f_ref07_separate) [(.t 46), (.t 48)] }])
    (.reg [
      { dst := some 50, op := .mov (.t 11) },
      { dst := some 51, op := .mov (.t 1) },
      { dst := some 52, op := .bin .add (.t 51) (.k (.int 1)) },
      { dst := some 53, op := .load 3 true (.t 7) },
      { dst := some 54, op := .build [(.str ⟨#[]⟩), (.int 0), (.int 0), (.int 0), (.int 0)] [(2, 3, (.t 53))] },
      { dst := some 55, op := .iaddr ⟨5, 48⟩ (.t 50) (.t 52) },
      { dst := none, op := .store 5 (.t 55) (.t 54) }]))
    .skip))
  (.seq (.reg [
    { dst := some 56, op := .mov (.t 11) },
    { dst := some 57, op := .mov (.t 1) },
    { dst := some 58, op := .mov (.t 2) },
    { dst := some 59, op := .mov (.t 10) },
    { dst := some 60, op := .load 3 true (.t 7) },
    { dst := some 61, op := .build [(.str ⟨#[]⟩), (.int 0), (.int 0), (.int 0), (.int 0)] [(0, 1, (.t 58)), (1, 1, (.t 59)), (2, 3, (.t 60))] },
    { dst := some 62, op := .iaddr ⟨5, 48⟩ (.t 56) (.t 57) },
    { dst := none, op := .store 5 (.t 62) (.t 61) }])
  (.seq (.reg [
    { dst := some 63, op := .mov (.t 11) },
    { dst := some 8, op := .mov (.t 63) },
    { dst := some 9, op := .mov (.k (.int 0)) }])
  .ret))))))))))))

def x_cluster_Width (f_cluster_runes f_charwidth_Width : FuncId) : XC :=
(.seq (.reg [
    { dst := some 2, op := .mov (.k (.int 0)) }])
  (.seq (.seq (.reg [
    { dst := some 4, op := .mov (.t 0) },
    { dst := some 5, op := .call (.f f_cluster_runes) [(.t 4)] },
    { dst := some 3, op := .mov (.t 5) }])
  (.seq (.reg [
    { dst := some 6, op := .mov (.t 3) },
    { dst := some 7, op := .len false (.t 6) },
    { dst := some 8, op := .bin .gtr (.t 7) (.k (.int 0)) }])
  (.cond (.t 8)
    (.seq (.reg [
      { dst := some 9, op := .mov (.t 3) },
      { dst := some 10, op := .iaddr ⟨1, 4⟩ (.t 9) (.k (.int 0)) },
      { dst := some 11, op := .load 1 false (.t 10) },
      { dst := some 12, op := .call (.f f_charwidth_Width) [(.t 11)] },
      { dst := some 2, op := .mov (.t 12) }])
    .ret)
    .skip)))
  (.seq (.reg [
    { dst := some 2, op := .mov (.k (.int 0)) }])
  .ret)))

def x_cellrow_Insert (f_cellrow_open f_cellrow_halve f_cellrow_blanks f_slices_Concat_750 f_cellrow_blank : FuncId) : XC :=
(.seq (.reg [
    { dst := some 7, op := .box ⟨3, 24⟩ (.t 3) },
    { dst := some 8, op := .mov (.k .nil) },
    { dst := some 9, op := .mov (.k (.int 0)) }])
  (.seq (.reg [
    { dst := some 16, op := .mov (.t 0) },
    { dst := some 17, op := .mov (.t 1) },
    { dst := some 18, op := .mov (.t 0) },
    { dst := some 19, op := .len false (.t 18) },
    { dst := some 20, op := .bin .sub (.t 19) (.k (.int 1)) },
    { dst := some 21, op := .calle (.f f_cellrow_open) [(.t 16), (.t 17), (.t 20)] },
    { dst := some 15, op := .mov (.t 21) },
    { dst := some 22, op := .extract 0 (.t 15) },
    { dst := some 23, op := .extract 1 (.t 15) },
    { dst := some 10, op := .mov (.t 22) },
    { dst := some 11, op := .mov (.t 23) }])
  (.seq (.seq (.reg [
    { dst := some 24, op := .mov (.t 11) },
    { dst := some 25, op := .bin .neq (.t 24) (.k (.int 0)) },
    { dst := some 26, op := .mov (.t 25) },
    { dst := some 27, op := .mov (.t 2), guard := some (26, false) },
    { dst := some 28, op := .bin .lss (.t 27) (.k (.int 1)), guard := some (26, false) },
    { dst := some 29, op := .pick (.t 26) (.k (.bool true)) (.t 28) }])
  (.cond (.t 29)
    (.seq (.reg [
      { dst := some 30, op := .mov (.t 10) },
      { dst := some 31, op := .mov (.t 11) },
      { dst := some 8, op := .mov (.t 30) },
      { dst := some 9, op := .mov (.t 31) }])
    .ret)
    .skip))
  (.seq (.reg [
    { dst := some 32, op := .mov (.t 2) },
    { dst := some 33, op := .mov (.t 0) },
    { dst := some 34, op := .len false (.t 33) },
    { dst := some 35, op := .mov (.t 1) },
    { dst := some 36, op := .bin .sub (.t 34) (.t 35) },
    { dst := some 37, op := .minmax false [(.t 32), (.t 36)] },
    { dst := some 2, op := .mov (.t 37) }])
  (.seq (.reg [
    { dst := some 38, op := .mov (.t 10) },
    { dst := some 39, op := .mov (.t 1) },
    { dst := some 40, op := .calle (.f f_cellrow_halve) [(.t 38), (.t 39)] }])
  (.seq (.drw 0 [
    { dst := some 41, op := .mov (.t 10) },
    { dst := some 42, op := .mov (.t 1) },
    { dst := some 43, op := .mov (.t 1) },
    { dst := some 44, op := .slice ⟨5, 48⟩ (.t 41) none (some (.t 42)) (some (.t 43)) },
    { dst := some 45, op := .mov (.t 10) },
    { dst := some 46, op := .mov (.t 1) },
    { dst := some 47, op := .mov (.t 10) },
    { dst := some 48, op := .len false (.t 47) },
    { dst := some 49, op := .mov (.t 2) },
    { dst := some 50, op := .bin .sub (.t 48) (.t 49) },
    { dst := some 51, op := .slice ⟨5, 48⟩ (.t 45) (some (.t 46)) (some (.t 50)) none },
    { dst := some 12, op := .mov (.t 44) },
    { dst := some 13, op := .mov (.t 51) }])
  (.seq (.reg [
    { dst := some 52, op := .mov (.t 12) },
    { dst := some 53, op := .mov (.t 2) },
    { dst := some 54, op := .faddr 1 (.t 7) },
    { dst := some 55, op := .load 1 false (.t 54) },
    { dst := some 56, op := .call (.f f_cellrow_blanks) [(.t 53), (.t 55)] },
    { dst := some 57, op := .mov (.t 13) },
    { dst := some 58, op := .bslice ⟨1, 24⟩ [.nil] 3 [(0, (.t 52)), (1, (.t 56)), (2, (.t 57))] },
    { dst := some 59, op := .calle (.f f_slices_Concat_750) [(.t 58)] },
    { dst := some 10, op := .mov (.t 59) }])
  (.seq (.seq (.reg [
    { dst := some 60, op := .mov (.t 10) },
    { dst := some 61, op := .len false (.t 60) },
    { dst := some 62, op := .bin .sub (.t 61) (.k (.int 1)) },
    { dst := some 14, op := .mov (.t 62) }])
  (.seq (.reg [
    { dst := some 63, op := .mov (.t 10) },
    { dst := some 64, op := .mov (.t 14) },
    { dst := some 65, op := .iaddr ⟨5, 48⟩ (.t 63) (.t 64) },
    { dst := some 66, op := .faddr 1 (.t 65) },
    { dst := some 67, op := .load 1 false (.t 66) },
    { dst := some 68, op := .bin .eql (.t 67) (.k (.int 2)) }])
  (.cond (.t 68)
    (.reg [
      { dst := some 69, op := .mov (.t 10) },
      { dst := some 70, op := .mov (.t 14) },
      { dst := some 71, op := .mov (.t 10) },
      { dst := some 72, op := .mov (.t 14) },
      { dst := some 73, op := .iaddr ⟨5, 48⟩ (.t 71) (.t 72) },
      { dst := some 74, op := .faddr 2 (.t 73) },
      { dst := some 75, op := .faddr 1 (.t 74) },
      { dst := some 76, op := .load 1 false (.t 75) },
      { dst := some 77, op := .call (.f f_cellrow_blank) [(.t 76)] },
      { dst := some 78, op := .iaddr ⟨5, 48⟩ (.t 69) (.t 70) },
      { dst := none, op := .store 5 (.t 78) (.t 77) }])
    .skip)))
  (.seq (.reg [
    { dst := some 79, op := .mov (.t 10) },
    { dst := some 8, op := .mov (.t 79) },
    { dst := some 9, op := .mov (.k (.int 0)) }])
  .ret)))))))))

def x_ref07_Insert (f_ref07_Check f_ref07_copied f_ref07_separate f_ref07_blank : FuncId) : XC :=
(.seq (.reg [
    { dst := some 7, op := .box ⟨3, 24⟩ (.t 3) },
    { dst := some 8, op := .mov (.k .nil) },
    { dst := some 9, op := .mov (.k (.int 0)) }])
  (.seq (.seq (.reg [
    { dst := some 15, op := .mov (.t 0) },
    { dst := some 16, op := .call (.f f_ref07_Check) [(.t 15)] },
    { dst := some 17, op := .bin .neq (.t 16) (.k (.int 0)) }])
  (.cond (.t 17)
    (.seq (.reg [
      { dst := some 8, op := .mov (.k .nil) },
      { dst := some 9, op := .mov (.k (.int 1)) }])
    .ret)
    .skip))
  (.seq (.seq (.reg [
    { dst := some 18, op := .mov (.t 1) },
    { dst := some 19, op := .bin .lss (.t 18) (.k (.int 0)) },
    { dst := some 20, op := .mov (.t 19) },
    { dst := some 21, op := .mov (.t 1), guard := some (20, false) },
    { dst := some 22, op := .mov (.t 0), guard := some (20, false) },
    { dst := some 23, op := .len false (.t 22), guard := some (20, false) },
    { dst := some 24, op := .bin .geq (.t 21) (.t 23), guard := some (20, false) },
    { dst := some 25, op := .pick (.t 20) (.k (.bool true)) (.t 24) }])
  (.cond (.t 25)
    (.seq (.reg [
      { dst := some 8, op := .mov (.k .nil) },
      { dst := some 9, op := .mov (.k (.int 2)) }])
    .ret)
    .skip))
  (.seq (.reg [
    { dst := some 26, op := .mov (.t 0) },
    { dst := some 27, op := .calle (.f f_ref07_copied) [(.t 26)] },
    { dst := some 10, op := .mov (.t 27) }])
  (.seq (.seq (.reg [
    { dst := some 28, op := .mov (.t 2) },
    { dst := some 29, op := .bin .lss (.t 28) (.k (.int 1)) }])
  (.cond (.t 29)
    (.seq (.reg [
      { dst := some 30, op := .mov (.t 10) },
      { dst := some 8, op := .mov (.t 30) },
      { dst := some 9, op := .mov (.k (.int 0)) }])
    .ret)
    .skip))
  (.seq (.reg [
    { dst := some 31, op := .mov (.t 2) },
    { dst := some 32, op := .mov (.t 0) },
    { dst := some 33, op := .len false (.t 32) },
    { dst := some 34, op := .mov (.t 1) },
    { dst := some 35, op := .bin .sub (.t 33) (.t 34) },
    { dst := some 36, op := .minmax false [(.t 31), (.t 35)] },
    { dst := some 11, op := .mov (.t 36) }])
  (.seq (.reg [
    { dst := some 37, op := .mov (.t 10) },
    { dst := some 38, op := .mov (.t 1) },
    { dst := some 39, op := .calle (.f f_ref07_separate) [(.t 37), (.t 38)] }])
  (.seq (.reg [
    { dst := some 12, op := .mov (.k .nil) }])
  (.seq (.reg [
    { dst := some 40, op := .mov (.t 12) },
    { dst := some 41, op := .mov (.t 10) },
    { dst := some 42, op := .mov (.t 1) },
    { dst := some 43, op := .slice ⟨5, 48⟩ (.t 41) none (some (.t 42)) none },
    { dst := some 44, op := .append ⟨5, 48⟩ (.t 40) (.t 43) },
    { dst := some 12, op := .mov (.t 44) }])
  (.seq (.seq (.reg [
    { dst := some 13, op := .mov (.k (.int 0)) }])
  (.block 0 (.loop (.seq (.seq (.reg [
    { dst := some 45, op := .mov (.t 13) },
    { dst := some 46, op := .mov (.t 11) },
    { dst := some 47, op := .bin .lss (.t 45) (.t 46) }])
  (.cond (.t 47)
    .skip
    (.exit 0)))
  (.seq (.block 1 (.reg [
    { dst := some 50, op := .mov (.t 12) },
    { dst := some 51, op := .faddr 1 (.t 7) },
    { dst := some 52, op := .load 1 false (.t 51) },
    { dst := some 53, op := .call (.f f_ref07_blank) [(.t 52)] },
    { dst := some 54, op := .bslice ⟨5, 48⟩ [(.str ⟨#[]⟩), (.int 0), (.int 0), (.int 0), (.int 0)] 1 [(0, (.t 53))] },
    { dst := some 55, op := .append ⟨5, 48⟩ (.t 50) (.t 54) },
    { dst := some 12, op := .mov (.t 55) }]))
  (.reg [
    { dst := some 48, op := .mov (.t 13) },
    { dst := some 49, op := .bin .add (.t 48) (.k (.int 1)) },
    { dst := some 13, op := .mov (.t 49) }]))))))
  (.seq (.reg [
    { dst := some 56, op := .mov (.t 12) },
    { dst := some 57, op := .mov (.t 10) },
    { dst := some 58, op := .mov (.t 1) },
    { dst := some 59, op := .mov (.t 10) },
    { dst := some 60, op := .len false (.t 59) },
    { dst := some 61, op := .mov (.t 11) },
    { dst := some 62, op := .bin .sub (.t 60) (.t 61) },
    { dst := some 63, op := .slice ⟨5, 48⟩ (.t 57) (some (.t 58)) (some (.t 62)) none },
    { dst := some 64, op := .append ⟨5, 48⟩ (.t 56) (.t 63) },
    { dst := some 12, op := .mov (.t 64) }])
  (.seq (.reg [
    { dst := some 65, op := .mov (.t 12) },
    { dst := some 66, op := .len false (.t 65) },
    { dst := some 67, op := .bin .sub (.t 66) (.k (.int 1)) },
    { dst := some 14, op := .mov (.t 67) }])
  (.seq (.seq (.reg [
    { dst := some 68, op := .mov (.t 12) },
    { dst := some 69, op := .mov (.t 14) },
    { dst := some 70, op := .iaddr ⟨5, 48⟩ (.t 68) (.t 69) },
    { dst := some 71, op := .faddr 1 (.t 70) },
    { dst := some 72, op := .load 1 false (.t 71) },
    { dst := some 73, op := .bin .eql (.t 72) (.k (.int 2)) }])
  (.cond (.t 73)
    (.reg [
      { dst := some 74, op := .mov (.t 12) },
      { dst := some 75, op := .mov (.t 14) },
      { dst := some 76, op := .mov (.t 12) },
      { dst := some 77, op := .mov (.t 14) },
      { dst := some 78, op := .iaddr ⟨5, 48⟩ (.t 76) (.t 77) },
      { dst := some 79, op := .faddr 2 (.t 78) },
      { dst := some 80, op := .faddr 1 (.t 79) },
      { dst := some 81, op := .load 1 false (.t 80) },
      { dst := some 82, op := .call (.f f_ref07_blank) [(.t 81)] },
      { dst := some 83, op := .iaddr ⟨5, 48⟩ (.t 74) (.t 75) },
      { dst := none, op := .store 5 (.t 83) (.t 82) }])
    .skip))
  (.seq (.reg [
    { dst := some 84, op := .mov (.t 12) },
    { dst := some 8, op := .mov (.t 84) },
    { dst := some 9, op := .mov (.k (.int 0)) }])
  .ret))))))))))))))

def x_cellrow_Delete (f_cellrow_open f_cellrow_halve f_cellrow_blanks f_slices_Concat_750 : FuncId) : XC :=
(.seq (.reg [
    { dst := some 7, op := .box ⟨3, 24⟩ (.t 3) },
    { dst := some 8, op := .mov (.k .nil) },
    { dst := some 9, op := .mov (.k (.int 0)) }])
  (.seq (.reg [
    { dst := some 15, op := .mov (.t 0) },
    { dst := some 16, op := .mov (.t 1) },
    { dst := some 17, op := .mov (.t 0) },
    { dst := some 18, op := .len false (.t 17) },
    { dst := some 19, op := .bin .sub (.t 18) (.k (.int 1)) },
    { dst := some 20, op := .calle (.f f_cellrow_open) [(.t 15), (.t 16), (.t 19)] },
    { dst := some 14, op := .mov (.t 20) },
    { dst := some 21, op := .extract 0 (.t 14) },
    { dst := some 22, op := .extract 1 (.t 14) },
    { dst := some 10, op := .mov (.t 21) },
    { dst := some 11, op := .mov (.t 22) }])
  (.seq (.seq (.reg [
    { dst := some 23, op := .mov (.t 11) },
    { dst := some 24, op := .bin .neq (.t 23) (.k (.int 0)) },
    { dst := some 25, op := .mov (.t 24) },
    { dst := some 26, op := .mov (.t 2), guard := some (25, false) },
    { dst := some 27, op := .bin .lss (.t 26) (.k (.int 1)), guard := some (25, false) },
    { dst := some 28, op := .pick (.t 25) (.k (.bool true)) (.t 27) }])
  (.cond (.t 28)
    (.seq (.reg [
      { dst := some 29, op := .mov (.t 10) },
      { dst := some 30, op := .mov (.t 11) },
      { dst := some 8, op := .mov (.t 29) },
      { dst := some 9, op := .mov (.t 30) }])
    .ret)
    .skip))
  (.seq (.reg [
    { dst := some 31, op := .mov (.t 2) },
    { dst := some 32, op := .mov (.t 0) },
    { dst := some 33, op := .len false (.t 32) },
    { dst := some 34, op := .mov (.t 1) },
    { dst := some 35, op := .bin .sub (.t 33) (.t 34) },
    { dst := some 36, op := .minmax false [(.t 31), (.t 35)] },
    { dst := some 2, op := .mov (.t 36) }])
  (.seq (.reg [
    { dst := some 37, op := .mov (.t 10) },
    { dst := some 38, op := .mov (.t 1) },
    { dst := some 39, op := .calle (.f f_cellrow_halve) [(.t 37), (.t 38)] }])
  (.seq (.reg [
    { dst := some 40, op := .mov (.t 10) },
    { dst := some 41, op := .mov (.t 1) },
    { dst := some 42, op := .mov (.t 2) },
    { dst := some 43, op := .bin .add (.t 41) (.t 42) },
    { dst := some 44, op := .calle (.f f_cellrow_halve) [(.t 40), (.t 43)] }])
  (.seq (.drw 0 [
    { dst := some 45, op := .mov (.t 10) },
    { dst := some 46, op := .mov (.t 1) },
    { dst := some 47, op := .mov (.t 1) },
    { dst := some 48, op := .slice ⟨5, 48⟩ (.t 45) none (some (.t 46)) (some (.t 47)) },
    { dst := some 49, op := .mov (.t 10) },
    { dst := some 50, op := .mov (.t 1) },
    { dst := some 51, op := .mov (.t 2) },
    { dst := some 52, op := .bin .add (.t 50) (.t 51) },
    { dst := some 53, op := .slice ⟨5, 48⟩ (.t 49) (some (.t 52)) none none },
    { dst := some 12, op := .mov (.t 48) },
    { dst := some 13, op := .mov (.t 53) }])
  (.seq (.reg [
    { dst := some 54, op := .mov (.t 12) },
    { dst := some 55, op := .mov (.t 13) },
    { dst := some 56, op := .mov (.t 2) },
    { dst := some 57, op := .faddr 1 (.t 7) },
    { dst := some 58, op := .load 1 false (.t 57) },
    { dst := some 59, op := .call (.f f_cellrow_blanks) [(.t 56), (.t 58)] },
    { dst := some 60, op := .bslice ⟨1, 24⟩ [.nil] 3 [(0, (.t 54)), (1, (.t 55)), (2, (.t 59))] },
    { dst := some 61, op := .call (.f f_slices_Concat_750) [(.t 60)] },
    { dst := some 8, op := .mov (.t 61) },
    { dst := some 9, op := .mov (.k (.int 0)) }])
  .ret))))))))

def x_ref07_Delete (f_ref07_Check f_ref07_copied f_ref07_separate f_ref07_blank : FuncId) : XC :=
(.seq (.reg [
    { dst := some 7, op := .box ⟨3, 24⟩ (.t 3) },
    { dst := some 8, op := .mov (.k .nil) },
    { dst := some 9, op := .mov (.k (.int 0)) }])
  (.seq (.seq (.reg [
    { dst := some 14, op := .mov (.t 0) },
    { dst := some 15, op := .call (.f f_ref07_Check) [(.t 14)] },
    { dst := some 16, op := .bin .neq (.t 15) (.k (.int 0)) }])
  (.cond (.t 16)
    (.seq (.reg [
      { dst := some 8, op := .mov (.k .nil) },
      { dst := some 9, op := .mov (.k (.int 1)) }])
    .ret)
    .skip))
  (.seq (.seq (.reg [
    { dst := some 17, op := .mov (.t 1) },
    { dst := some 18, op := .bin .lss (.t 17) (.k (.int 0)) },
    { dst := some 19, op := .mov (.t 18) },
    { dst := some 20, op := .mov (.t 1), guard := some (19, false) },
    { dst := some 21, op := .mov (.t 0), guard := some (19, false) },
    { dst := some 22, op := .len false (.t 21), guard := some (19, false) },
    { dst := some 23, op := .bin .geq (.t 20) (.t 22), guard := some (19, false) },
    { dst := some 24, op := .pick (.t 19) (.k (.bool true)) (.t 23) }])
  (.cond (.t 24)
    (.seq (.reg [
      { dst := some 8, op := .mov (.k .nil) },
      { dst := some 9, op := .mov (.k (.int 2)) }])
    .ret)
    .skip))
  (.seq (.reg [
    { dst := some 25, op := .mov (.t 0) },
    { dst := some 26, op := .calle (.f f_ref07_copied) [(.t 25)] },
    { dst := some 10, op := .mov (.t 26) }])
  (.seq (.seq (.reg [
    { dst := some 27, op := .mov (.t 2) },
    { dst := some 28, op := .bin .lss (.t 27) (.k (.int 1)) }])
  (.cond (.t 28)
    (.seq (.reg [
      { dst := some 29, op := .mov (.t 10) },
      { dst := some 8, op := .mov (.t 29) },
      { dst := some 9, op := .mov (.k (.int 0)) }])
    .ret)
    .skip))
  (.seq (.reg [
    { dst := some 30, op := .mov (.t 2) },
    { dst := some 31, op := .mov (.t 0) },
    { dst := some 32, op := .len false (.t 31) },
    { dst := some 33, op := .mov (.t 1) },
    { dst := some 34, op := .bin .sub (.t 32) (.t 33) },
    { dst := some 35, op := .minmax false [(.t 30), (.t 34)] },
    { dst := some 11, op := .mov (.t 35) }])
  (.seq (.reg [
    { dst := some 36, op := .mov (.t 10) },
    { dst := some 37, op := .mov (.t 1) },
    { dst := some 38, op := .calle (.f f_ref07_separate) [(.t 36), (.t 37)] }])
  (.seq (.reg [
    { dst := some 39, op := .mov (.t 10) },
    { dst := some 40, op := .mov (.t 1) },
    { dst := some 41, op := .mov (.t 11) },
    { dst := some 42, op := .bin .add (.t 40) (.t 41) },
    { dst := some 43, op := .calle (.f f_ref07_separate) [(.t 39), (.t 42)] }])
  (.seq (.reg [
    { dst := some 12, op := .mov (.k .nil) }])
  (.seq (.reg [
    { dst := some 44, op := .mov (.t 12) },
    { dst := some 45, op := .mov (.t 10) },
    { dst := some 46, op := .mov (.t 1) },
    { dst := some 47, op := .slice ⟨5, 48⟩ (.t 45) none (some (.t 46)) none },
    { dst := some 48, op := .append ⟨5, 48⟩ (.t 44) (.t 47) },
    { dst := some 12, op := .mov (.t 48) }])
  (.seq (.reg [
    { dst := some 49, op := .mov (.t 12) },
    { dst := some 50, op := .mov (.t 10) },
    { dst := some 51, op := .mov (.t 1) },
    { dst := some 52, op := .mov (.t 11) },
    { dst := some 53, op := .bin .add (.t 51) (.t 52) },
    { dst := some 54, op := .slice ⟨5, 48⟩ (.t 50) (some (.t 53)) none none },
    { dst := some 55, op := .append ⟨5, 48⟩ (.t 49) (.t 54) },
    { dst := some 12, op := .mov (.t 55) }])
  (.seq (.seq (.reg [
    { dst := some 13, op := .mov (.k (.int 0)) }])
  (.block 0 (.loop (.seq (.seq (.reg [
    { dst := some 56, op := .mov (.t 13) },
    { dst := some 57, op := .mov (.t 11) },
    { dst := some 58, op := .bin .lss (.t 56) (.t 57) }])
  (.cond (.t 58)
    .skip
    (.exit 0)))
  (.seq (.block 1 (.reg [
    { dst := some 61, op := .mov (.t 12) },
    { dst := some 62, op := .faddr 1 (.t 7) },
    { dst := some 63, op := .load 1 false (.t 62) },
    { dst := some 64, op := .call (.f f_ref07_blank) [(.t 63)] },
    { dst := some 65, op := .bslice ⟨5, 48⟩ [(.str ⟨#[]⟩), (.int 0), (.int 0), (.int 0), (.int 0)] 1 [(0, (.t 64))] },
    { dst := some 66, op := .append ⟨5, 48⟩ (.t 61) (.t 65) },
    { dst := some 12, op := .mov (.t 66) }]))
  (.reg [
    { dst := some 59, op := .mov (.t 13) },
    { dst := some 60, op := .bin .add (.t 59) (.k (.int 1)) },
    { dst := some 13, op := .mov (.t 60) }]))))))
  (.seq (.reg [
    { dst := some 67, op := .mov (.t 12) },
    { dst := some 8, op := .mov (.t 67) },
    { dst := some 9, op := .mov (.k (.int 0)) }])
  .ret)))))))))))))

def x_cellrow_Fit (f_cellrow_Check f_slices_Clone_750 f_cellrow_blanks f_cellrow_blank : FuncId) : XC :=
(.seq (.reg [
    { dst := some 4, op := .mov (.k .nil) }])
  (.seq (.seq (.reg [
    { dst := some 7, op := .mov (.t 0) },
    { dst := some 8, op := .call (.f f_cellrow_Check) [(.t 7)] },
    { dst := some 9, op := .bin .neq (.t 8) (.k (.int 0)) },
    { dst := some 10, op := .mov (.t 9) },
    { dst := some 11, op := .mov (.t 1), guard := some (10, false) },
    { dst := some 12, op := .bin .lss (.t 11) (.k (.int 1)), guard := some (10, false) },
    { dst := some 13, op := .pick (.t 10) (.k (.bool true)) (.t 12) },
    { dst := some 14, op := .mov (.t 13) },
    { dst := some 15, op := .mov (.t 1), guard := some (14, false) },
    { dst := some 16, op := .bin .gtr (.t 15) (.k (.int 132)), guard := some (14, false) },
    { dst := some 17, op := .pick (.t 14) (.k (.bool true)) (.t 16) }])
  (.cond (.t 17)
    (.seq (.reg [
      { dst := some 4, op := .mov (.k .nil) }])
    .ret)
    .skip))
  (.seq (.reg [
    { dst := some 18, op := .mov (.t 0) },
    { dst := some 19, op := .calle (.f f_slices_Clone_750) [(.t 18)] },
    { dst := some 5, op := .mov (.t 19) }])
  (.seq (.seq (.reg [
    { dst := some 20, op := .mov (.t 1) },
    { dst := some 21, op := .mov (.t 0) },
    { dst := some 22, op := .len false (.t 21) },
    { dst := some 23, op := .bin .geq (.t 20) (.t 22) }])
  (.cond (.t 23)
    (.seq (.reg [
      { dst := some 24, op := .mov (.t 5) },
      { dst := some 25, op := .mov (.t 1) },
      { dst := some 26, op := .mov (.t 0) },
      { dst := some 27, op := .len false (.t 26) },
      { dst := some 28, op := .bin .sub (.t 25) (.t 27) },
      { dst := some 29, op := .call (.f f_cellrow_blanks) [(.t 28), (.k (.int (-1)))] },
      { dst := some 30, op := .append ⟨5, 48⟩ (.t 24) (.t 29) },
      { dst := some 4, op := .mov (.t 30) }])
    .ret)
    .skip))
  (.seq (.reg [
    { dst := some 31, op := .mov (.t 5) },
    { dst := some 32, op := .mov (.t 1) },
    { dst := some 33, op := .mov (.t 1) },
    { dst := some 34, op := .slice ⟨5, 48⟩ (.t 31) none (some (.t 32)) (some (.t 33)) },
    { dst := some 5, op := .mov (.t 34) }])
  (.seq (.seq (.reg [
    { dst := some 35, op := .mov (.t 5) },
    { dst := some 36, op := .mov (.t 1) },
    { dst := some 37, op := .bin .sub (.t 36) (.k (.int 1)) },
    { dst := some 38, op := .iaddr ⟨5, 48⟩ (.t 35) (.t 37) },
    { dst := some 39, op := .load 5 true (.t 38) },
    { dst := some 6, op := .alloc ⟨5, 48⟩ [(.str ⟨#[]⟩), (.int 0), (.int 0), (.int 0), (.int 0)] },
    { dst := none, op := .store 5 (.t 6) (.t 39) }])
  (.seq (.reg [
    { dst := some 40, op := .faddr 1 (.t 6) },
    { dst := some 41, op := .load 1 false (.t 40) },
    { dst := some 42, op := .bin .eql (.t 41) (.k (.int 2)) }])
  (.cond (.t 42)
    (.reg [
      { dst := some 43, op := .mov (.t 5) },
      { dst := some 44, op := .mov (.t 1) },
      { dst := some 45, op := .bin .sub (.t 44) (.k (.int 1)) },
      { dst := some 46, op := .faddr 2 (.t 6) },
      { dst := some 47, op := .faddr 1 (.t 46) },
      { dst := some 48, op := .load 1 false (.t 47) },
      { dst := some 49, op := .call (.f f_cellrow_blank) [(.t 48)] },
      { dst := some 50, op := .iaddr ⟨5, 48⟩ (.t 43) (.t 45) },
      { dst := none, op := .store 5 (.t 50) (.t 49) }])
    .skip)))
  (.seq (.reg [
    { dst := some 51, op := .mov (.t 5) },
    { dst := some 4, op := .mov (.t 51) }])
  .ret)))))))

def x_cellrow_Erase (f_cellrow_open f_cellrow_halve f_cellrow_blanks f_slices_Concat_750 : FuncId) : XC :=
(.seq (.reg [
    { dst := some 7, op := .box ⟨3, 24⟩ (.t 3) },
    { dst := some 8, op := .mov (.k .nil) },
    { dst := some 9, op := .mov (.k (.int 0)) }])
  (.seq (.reg [
    { dst := some 15, op := .mov (.t 0) },
    { dst := some 16, op := .mov (.t 1) },
    { dst := some 17, op := .mov (.t 0) },
    { dst := some 18, op := .len false (.t 17) },
    { dst := some 19, op := .calle (.f f_cellrow_open) [(.t 15), (.t 16), (.t 18)] },
    { dst := some 14, op := .mov (.t 19) },
    { dst := some 20, op := .extract 0 (.t 14) },
    { dst := some 21, op := .extract 1 (.t 14) },
    { dst := some 10, op := .mov (.t 20) },
    { dst := some 11, op := .mov (.t 21) }])
  (.seq (.seq (.reg [
    { dst := some 22, op := .mov (.t 11) },
    { dst := some 23, op := .bin .neq (.t 22) (.k (.int 0)) }])
  (.cond (.t 23)
    (.seq (.reg [
      { dst := some 24, op := .mov (.t 11) },
      { dst := some 8, op := .mov (.k .nil) },
      { dst := some 9, op := .mov (.t 24) }])
    .ret)
    .skip))
  (.seq (.seq (.reg [
    { dst := some 25, op := .mov (.t 2) },
    { dst := some 26, op := .mov (.t 1) },
    { dst := some 27, op := .bin .lss (.t 25) (.t 26) },
    { dst := some 28, op := .mov (.t 27) },
    { dst := some 29, op := .mov (.t 2), guard := some (28, false) },
    { dst := some 30, op := .mov (.t 0), guard := some (28, false) },
    { dst := some 31, op := .len false (.t 30), guard := some (28, false) },
    { dst := some 32, op := .bin .gtr (.t 29) (.t 31), guard := some (28, false) },
    { dst := some 33, op := .pick (.t 28) (.k (.bool true)) (.t 32) }])
  (.cond (.t 33)
    (.seq (.reg [
      { dst := some 8, op := .mov (.k .nil) },
      { dst := some 9, op := .mov (.k (.int 2)) }])
    .ret)
    .skip))
  (.seq (.seq (.reg [
    { dst := some 34, op := .mov (.t 1) },
    { dst := some 35, op := .mov (.t 2) },
    { dst := some 36, op := .bin .eql (.t 34) (.t 35) }])
  (.cond (.t 36)
    (.seq (.reg [
      { dst := some 37, op := .mov (.t 10) },
      { dst := some 8, op := .mov (.t 37) },
      { dst := some 9, op := .mov (.k (.int 0)) }])
    .ret)
    .skip))
  (.seq (.reg [
    { dst := some 38, op := .mov (.t 10) },
    { dst := some 39, op := .mov (.t 1) },
    { dst := some 40, op := .calle (.f f_cellrow_halve) [(.t 38), (.t 39)] }])
  (.seq (.reg [
    { dst := some 41, op := .mov (.t 10) },
    { dst := some 42, op := .mov (.t 2) },
    { dst := some 43, op := .calle (.f f_cellrow_halve) [(.t 41), (.t 42)] }])
  (.seq (.drw 0 [
    { dst := some 44, op := .mov (.t 10) },
    { dst := some 45, op := .mov (.t 1) },
    { dst := some 46, op := .mov (.t 1) },
    { dst := some 47, op := .slice ⟨5, 48⟩ (.t 44) none (some (.t 45)) (some (.t 46)) },
    { dst := some 48, op := .mov (.t 10) },
    { dst := some 49, op := .mov (.t 2) },
    { dst := some 50, op := .slice ⟨5, 48⟩ (.t 48) (some (.t 49)) none none },
    { dst := some 12, op := .mov (.t 47) },
    { dst := some 13, op := .mov (.t 50) }])
  (.seq (.reg [
    { dst := some 51, op := .mov (.t 12) },
    { dst := some 52, op := .mov (.t 2) },
    { dst := some 53, op := .mov (.t 1) },
    { dst := some 54, op := .bin .sub (.t 52) (.t 53) },
    { dst := some 55, op := .faddr 1 (.t 7) },
    { dst := some 56, op := .load 1 false (.t 55) },
    { dst := some 57, op := .call (.f f_cellrow_blanks) [(.t 54), (.t 56)] },
    { dst := some 58, op := .mov (.t 13) },
    { dst := some 59, op := .bslice ⟨1, 24⟩ [.nil] 3 [(0, (.t 51)), (1, (.t 57)), (2, (.t 58))] },
    { dst := some 60, op := .call (.f f_slices_Concat_750) [(.t 59)] },
    { dst := some 8, op := .mov (.t 60) },
    { dst := some 9, op := .mov (.k (.int 0)) }])
  .ret)))))))))

def x_ref07_Erase (f_ref07_Check f_ref07_copied f_ref07_separate f_ref07_blank : FuncId) : XC :=
(.seq (.reg [
    { dst := some 7, op := .box ⟨3, 24⟩ (.t 3) },
    { dst := some 8, op := .mov (.k .nil) },
    { dst := some 9, op := .mov (.k (.int 0)) }])
  (.seq (.seq (.reg [
    { dst := some 12, op := .mov (.t 0) },
    { dst := some 13, op := .call (.f f_ref07_Check) [(.t 12)] },
    { dst := some 14, op := .bin .neq (.t 13) (.k (.int 0)) }])
  (.cond (.t 14)
    (.seq (.reg [
      { dst := some 8, op := .mov (.k .nil) },
      { dst := some 9, op := .mov (.k (.int 1)) }])
    .ret)
    .skip))
  (.seq (.seq (.reg [
    { dst := some 15, op := .mov (.t 1) },
    { dst := some 16, op := .bin .lss (.t 15) (.k (.int 0)) },
    { dst := some 17, op := .mov (.t 16) },
    { dst := some 18, op := .mov (.t 2), guard := some (17, false) },
    { dst := some 19, op := .mov (.t 1), guard := some (17, false) },
    { dst := some 20, op := .bin .lss (.t 18) (.t 19), guard := some (17, false) },
    { dst := some 21, op := .pick (.t 17) (.k (.bool true)) (.t 20) },
    { dst := some 22, op := .mov (.t 21) },
    { dst := some 23, op := .mov (.t 2), guard := some (22, false) },
    { dst := some 24, op := .mov (.t 0), guard := some (22, false) },
    { dst := some 25, op := .len false (.t 24), guard := some (22, false) },
    { dst := some 26, op := .bin .gtr (.t 23) (.t 25), guard := some (22, false) },
    { dst := some 27, op := .pick (.t 22) (.k (.bool true)) (.t 26) }])
  (.cond (.t 27)
    (.seq (.reg [
      { dst := some 8, op := .mov (.k .nil) },
      { dst := some 9, op := .mov (.k (.int 2)) }])
    .ret)
    .skip))
  (.seq (.reg [
    { dst := some 28, op := .mov (.t 0) },
    { dst := some 29, op := .calle (.f f_ref07_copied) [(.t 28)] },
    { dst := some 10, op := .mov (.t 29) }])
  (.seq (.seq (.reg [
    { dst := some 30, op := .mov (.t 1) },
    { dst := some 31, op := .mov (.t 2) },
    { dst := some 32, op := .bin .eql (.t 30) (.t 31) }])
  (.cond (.t 32)
    (.seq (.reg [
      { dst := some 33, op := .mov (.t 10) },
      { dst := some 8, op := .mov (.t 33) },
      { dst := some 9, op := .mov (.k (.int 0)) }])
    .ret)
    .skip))
  (.seq (.reg [
    { dst := some 34, op := .mov (.t 10) },
    { dst := some 35, op := .mov (.t 1) },
    { dst := some 36, op := .calle (.f f_ref07_separate) [(.t 34), (.t 35)] }])
  (.seq (.reg [
    { dst := some 37, op := .mov (.t 10) },
    { dst := some 38, op := .mov (.t 2) },
    { dst := some 39, op := .calle (.f f_ref07_separate) [(.t 37), (.t 38)] }])
  (.seq (.seq (.reg [
    { dst := some 40, op := .mov (.t 1) },
    { dst := some 11, op := .mov (.t 40) }])
  (.block 0 (.loop (.seq (.seq (.reg [
    { dst := some 41, op := .mov (.t 11) },
    { dst := some 42, op := .mov (.t 2) },
    { dst := some 43, op := .bin .lss (.t 41) (.t 42) }])
  (.cond (.t 43)
    .skip
    (.exit 0)))
  (.seq (.block 1 (.reg [
    { dst := some 46, op := .mov (.t 10) },
    { dst := some 47, op := .mov (.t 11) },
    { dst := some 48, op := .faddr 1 (.t 7) },
    { dst := some 49, op := .load 1 false (.t 48) },
    { dst := some 50, op := .call (.f f_ref07_blank) [(.t 49)] },
    { dst := some 51, op := .iaddr ⟨5, 48⟩ (.t 46) (.t 47) },
    { dst := none, op := .store 5 (.t 51) (.t 50) }]))
  (.reg [
    { dst := some 44, op := .mov (.t 11) },
    { dst := some 45, op := .bin .add (.t 44) (.k (.int 1)) },
    { dst := some 11, op := .mov (.t 45) }]))))))
  (.seq (.reg [
    { dst := some 52, op := .mov (.t 10) },
    { dst := some 8, op := .mov (.t 52) },
    { dst := some 9, op := .mov (.k (.int 0)) }])
  .ret)))))))))

def x_ref07_Fit (f_ref07_Check f_ref07_copied f_ref07_blank : FuncId) : XC :=
(.seq (.reg [
    { dst := some 4, op := .mov (.k .nil) }])
  (.seq (.seq (.reg [
    { dst := some 6, op := .mov (.t 0) },
    { dst := some 7, op := .call (.f f_ref07_Check) [(.t 6)] },
    { dst := some 8, op := .bin .neq (.t 7) (.k (.int 0)) },
    { dst := some 9, op := .mov (.t 8) },
    { dst := some 10, op := .mov (.t 1), guard := some (9, false) },
    { dst := some 11, op := .bin .lss (.t 10) (.k (.int 1)), guard := some (9, false) },
    { dst := some 12, op := .pick (.t 9) (.k (.bool true)) (.t 11) },
    { dst := some 13, op := .mov (.t 12) },
    { dst := some 14, op := .mov (.t 1), guard := some (13, false) },
    { dst := some 15, op := .bin .gtr (.t 14) (.k (.int 132)), guard := some (13, false) },
    { dst := some 16, op := .pick (.t 13) (.k (.bool true)) (.t 15) }])
  (.cond (.t 16)
    (.seq (.reg [
      { dst := some 4, op := .mov (.k .nil) }])
    .ret)
    .skip))
  (.seq (.reg [
    { dst := some 17, op := .mov (.t 0) },
    { dst := some 18, op := .calle (.f f_ref07_copied) [(.t 17)] },
    { dst := some 5, op := .mov (.t 18) }])
  (.seq (.block 0 (.loop (.seq (.seq (.reg [
    { dst := some 19, op := .mov (.t 5) },
    { dst := some 20, op := .len false (.t 19) },
    { dst := some 21, op := .mov (.t 1) },
    { dst := some 22, op := .bin .lss (.t 20) (.t 21) }])
  (.cond (.t 22)
    .skip
    (.exit 0)))
  (.block 1 (.reg [
    { dst := some 23, op := .mov (.t 5) },
    { dst := some 24, op := .call (.f f_ref07_blank) [(.k (.int (-1)))] },
    { dst := some 25, op := .bslice ⟨5, 48⟩ [(.str ⟨#[]⟩), (.int 0), (.int 0), (.int 0), (.int 0)] 1 [(0, (.t 24))] },
    { dst := some 26, op := .append ⟨5, 48⟩ (.t 23) (.t 25) },
    { dst := some 5, op := .mov (.t 26) }])))))
  (.seq (.reg [
    { dst := some 27, op := .mov (.t 5) },
    { dst := some 28, op := .mov (.t 1) },
    { dst := some 29, op := .slice ⟨5, 48⟩ (.t 27) none (some (.t 28)) none },
    { dst := some 5, op := .mov (.t 29) }])
  (.seq (.seq (.reg [
    { dst := some 30, op := .mov (.t 5) },
    { dst := some 31, op := .mov (.t 1) },
    { dst := some 32, op := .bin .sub (.t 31) (.k (.int 1)) },
    { dst := some 33, op := .iaddr ⟨5, 48⟩ (.t 30) (.t 32) },
    { dst := some 34, op := .faddr 1 (.t 33) },
    { dst := some 35, op := .load 1 false (.t 34) },
    { dst := some 36, op := .bin .eql (.t 35) (.k (.int 2)) }])
  (.cond (.t 36)
    (.reg [
      { dst := some 37, op := .mov (.t 5) },
      { dst := some 38, op := .mov (.t 1) },
      { dst := some 39, op := .bin .sub (.t 38) (.k (.int 1)) },
      { dst := some 40, op := .mov (.t 5) },
      { dst := some 41, op := .mov (.t 1) },
      { dst := some 42, op := .bin .sub (.t 41) (.k (.int 1)) },
      { dst := some 43, op := .iaddr ⟨5, 48⟩ (.t 40) (.t 42) },
      { dst := some 44, op := .faddr 2 (.t 43) },
      { dst := some 45, op := .faddr 1 (.t 44) },
      { dst := some 46, op := .load 1 false (.t 45) },
      { dst := some 47, op := .call (.f f_ref07_blank) [(.t 46)] },
      { dst := some 48, op := .iaddr ⟨5, 48⟩ (.t 37) (.t 39) },
      { dst := none, op := .store 5 (.t 48) (.t 47) }])
    .skip))
  (.seq (.reg [
    { dst := some 49, op := .mov (.t 5) },
    { dst := some 4, op := .mov (.t 49) }])
  .ret)))))))

def x_law07_CellrowProper_1 (f_cellrow_Check : FuncId) : XC :=
(.seq (.reg [
    { dst := some 5, op := .mov (.k (.bool false)) }])
  (.seq (.reg [
    { dst := some 6, op := .mov (.t 1) },
    { dst := some 7, op := .bin .neq (.t 6) (.k (.int 0)) },
    { dst := some 8, op := .mov (.t 7) },
    { dst := some 9, op := .mov (.t 0), guard := some (8, true) },
    { dst := some 10, op := .len false (.t 9), guard := some (8, true) },
    { dst := some 11, op := .bin .eql (.t 10) (.k (.int 0)), guard := some (8, true) },
    { dst := some 12, op := .pick (.t 8) (.t 11) (.k (.bool false)) },
    { dst := some 13, op := .mov (.t 12) },
    { dst := some 14, op := .mov (.t 1), guard := some (13, false) },
    { dst := some 15, op := .bin .eql (.t 14) (.k (.int 0)), guard := some (13, false) },
    { dst := some 16, op := .mov (.t 15), guard := some (13, false) },
    { dst := some 17, op := .mov (.t 0), guard := some (16, true) },
    { dst := some 18, op := .len false (.t 17), guard := some (16, true) },
    { dst := some 19, op := .load 1 false (.t 2), guard := some (16, true) },
    { dst := some 20, op := .len false (.t 19), guard := some (16, true) },
    { dst := some 21, op := .bin .eql (.t 18) (.t 20), guard := some (16, true) },
    { dst := some 22, op := .pick (.t 16) (.t 21) (.k (.bool false)), guard := some (13, false) },
    { dst := some 23, op := .mov (.t 22), guard := some (13, false) },
    { dst := some 24, op := .mov (.t 0), guard := some (23, true) },
    { dst := some 25, op := .call (.f f_cellrow_Check) [(.t 24)], guard := some (23, true) },
    { dst := some 26, op := .bin .eql (.t 25) (.k (.int 0)), guard := some (23, true) },
    { dst := some 27, op := .pick (.t 23) (.t 26) (.k (.bool false)), guard := some (13, false) },
    { dst := some 28, op := .pick (.t 13) (.k (.bool true)) (.t 27) },
    { dst := some 5, op := .mov (.t 28) }])
  .ret))

def x_cluster_Check (f_utf8stream_Valid f_charwidth_Width f_cluster_marked : FuncId) : XC :=
(.seq (.reg [
    { dst := some 2, op := .mov (.k (.int 0)) }])
  (.seq (.seq (.reg [
    { dst := some 4, op := .mov (.t 0) },
    { dst := some 5, op := .bin .eql (.t 4) (.k (.str ⟨#[]⟩)) },
    { dst := some 6, op := .mov (.t 5) },
    { dst := some 7, op := .mov (.t 0), guard := some (6, false) },
    { dst := some 8, op := .call (.f f_utf8stream_Valid) [(.t 7)], guard := some (6, false) },
    { dst := some 9, op := .un .not (.t 8), guard := some (6, false) },
    { dst := some 10, op := .pick (.t 6) (.k (.bool true)) (.t 9) }])
  (.cond (.t 10)
    (.seq (.reg [
      { dst := some 2, op := .mov (.k (.int 3)) }])
    .ret)
    .skip))
  (.seq (.reg [
    { dst := some 11, op := .mov (.t 0) },
    { dst := some 12, op := .s2r ⟨1, 4⟩ (.t 11) },
    { dst := some 3, op := .mov (.t 12) }])
  (.seq (.block 0 (.seq (.reg [
    { dst := some 14, op := .mov (.t 3) },
    { dst := some 15, op := .iaddr ⟨1, 4⟩ (.t 14) (.k (.int 0)) },
    { dst := some 16, op := .load 1 false (.t 15) },
    { dst := some 17, op := .call (.f f_charwidth_Width) [(.t 16)] },
    { dst := some 18, op := .bin .lss (.t 17) (.k (.int 1)) },
    { dst := some 19, op := .mov (.t 18) },
    { dst := some 20, op := .mov (.t 3), guard := some (19, false) },
    { dst := some 21, op := .slice ⟨1, 4⟩ (.t 20) (some (.k (.int 1))) none none, guard := some (19, false) },
    { dst := some 22, op := .call (.f f_cluster_marked) [(.t 21)], guard := some (19, false) },
    { dst := some 23, op := .un .not (.t 22), guard := some (19, false) },
    { dst := some 24, op := .pick (.t 19) (.k (.bool true)) (.t 23) },
    { dst := some 13, op := .mov (.t 24) }])
  (.cond (.t 13)
    (.seq (.reg [
      { dst := some 2, op := .mov (.k (.int 9)) }])
    .ret)
    (.seq (.reg [
      { dst := some 26, op := .mov (.t 3) },
      { dst := some 27, op := .len false (.t 26) },
      { dst := some 28, op := .bin .sub (.t 27) (.k (.int 1)) },
      { dst := some 29, op := .bin .gtr (.t 28) (.k (.int 3)) },
      { dst := some 25, op := .mov (.t 29) }])
    (.cond (.t 25)
      (.seq (.reg [
        { dst := some 2, op := .mov (.k (.int 5)) }])
      .ret)
      .skip)))))
  (.seq (.reg [
    { dst := some 2, op := .mov (.k (.int 0)) }])
  .ret)))))

def x_ref03_Check (f_ref01_Valid f_ref03_Characters f_ref02_Mark f_ref02_Width : FuncId) : XC :=
(.seq (.reg [
    { dst := some 2, op := .mov (.k (.int 0)) }])
  (.seq (.seq (.reg [
    { dst := some 5, op := .mov (.t 0) },
    { dst := some 6, op := .bin .eql (.t 5) (.k (.str ⟨#[]⟩)) },
    { dst := some 7, op := .mov (.t 6) },
    { dst := some 8, op := .mov (.t 0), guard := some (7, false) },
    { dst := some 9, op := .call (.f f_ref01_Valid) [(.t 8)], guard := some (7, false) },
    { dst := some 10, op := .un .not (.t 9), guard := some (7, false) },
    { dst := some 11, op := .pick (.t 7) (.k (.bool true)) (.t 10) }])
  (.cond (.t 11)
    (.seq (.reg [
      { dst := some 2, op := .mov (.k (.int 3)) }])
    .ret)
    .skip))
  (.seq (.reg [
    { dst := some 12, op := .mov (.t 0) },
    { dst := some 13, op := .call (.f f_ref03_Characters) [(.t 12)] },
    { dst := some 3, op := .mov (.t 13) }])
  (.seq (.seq (.reg [
    { dst := some 14, op := .mov (.t 3) },
    { dst := some 15, op := .iaddr ⟨1, 4⟩ (.t 14) (.k (.int 0)) },
    { dst := some 16, op := .load 1 false (.t 15) },
    { dst := some 17, op := .call (.f f_ref02_Mark) [(.t 16)] },
    { dst := some 18, op := .mov (.t 17) },
    { dst := some 19, op := .mov (.t 3), guard := some (18, false) },
    { dst := some 20, op := .iaddr ⟨1, 4⟩ (.t 19) (.k (.int 0)), guard := some (18, false) },
    { dst := some 21, op := .load 1 false (.t 20), guard := some (18, false) },
    { dst := some 22, op := .call (.f f_ref02_Width) [(.t 21)], guard := some (18, false) },
    { dst := some 23, op := .bin .lss (.t 22) (.k (.int 1)), guard := some (18, false) },
    { dst := some 24, op := .pick (.t 18) (.k (.bool true)) (.t 23) }])
  (.cond (.t 24)
    (.seq (.reg [
      { dst := some 2, op := .mov (.k (.int 9)) }])
    .ret)
    .skip))
  (.seq (.seq (.reg [
    { dst := some 4, op := .mov (.k (.int 1)) }])
  (.block 0 (.loop (.seq (.seq (.reg [
    { dst := some 25, op := .mov (.t 4) },
    { dst := some 26, op := .mov (.t 3) },
    { dst := some 27, op := .len false (.t 26) },
    { dst := some 28, op := .bin .lss (.t 25) (.t 27) }])
  (.cond (.t 28)
    .skip
    (.exit 0)))
  (.seq (.block 1 (.seq (.reg [
    { dst := some 31, op := .mov (.t 3) },
    { dst := some 32, op := .mov (.t 4) },
    { dst := some 33, op := .iaddr ⟨1, 4⟩ (.t 31) (.t 32) },
    { dst := some 34, op := .load 1 false (.t 33) },
    { dst := some 35, op := .call (.f f_ref02_Mark) [(.t 34)] },
    { dst := some 36, op := .un .not (.t 35) }])
  (.cond (.t 36)
    (.seq (.reg [
      { dst := some 2, op := .mov (.k (.int 9)) }])
    .ret)
    .skip)))
  (.reg [
    { dst := some 29, op := .mov (.t 4) },
    { dst := some 30, op := .bin .add (.t 29) (.k (.int 1)) },
    { dst := some 4, op := .mov (.t 30) }]))))))
  (.seq (.seq (.reg [
    { dst := some 37, op := .mov (.t 3) },
    { dst := some 38, op := .len false (.t 37) },
    { dst := some 39, op := .bin .gtr (.t 38) (.k (.int 4)) }])
  (.cond (.t 39)
    (.seq (.reg [
      { dst := some 2, op := .mov (.k (.int 5)) }])
    .ret)
    .skip))
  (.seq (.reg [
    { dst := some 2, op := .mov (.k (.int 0)) }])
  .ret)))))))

def x_ref03_Width (f_ref03_Check f_ref03_Characters f_ref02_Width : FuncId) : XC :=
(.seq (.reg [
    { dst := some 2, op := .mov (.k (.int 0)) }])
  (.seq (.seq (.reg [
    { dst := some 3, op := .mov (.t 0) },
    { dst := some 4, op := .call (.f f_ref03_Check) [(.t 3)] },
    { dst := some 5, op := .bin .neq (.t 4) (.k (.int 0)) }])
  (.cond (.t 5)
    (.seq (.reg [
      { dst := some 2, op := .mov (.k (.int 0)) }])
    .ret)
    .skip))
  (.seq (.reg [
    { dst := some 6, op := .mov (.t 0) },
    { dst := some 7, op := .call (.f f_ref03_Characters) [(.t 6)] },
    { dst := some 8, op := .iaddr ⟨1, 4⟩ (.t 7) (.k (.int 0)) },
    { dst := some 9, op := .load 1 false (.t 8) },
    { dst := some 10, op := .call (.f f_ref02_Width) [(.t 9)] },
    { dst := some 2, op := .mov (.t 10) }])
  .ret)))

def x_strings_Builder_WriteString (f_strings_Builder_copyCheck : FuncId) : XC :=
(.seq (.reg [
    { dst := some 4, op := .mov (.k (.int 0)) },
    { dst := some 5, op := .mov (.k (.sc .nilIface)) }])
  (.seq (.reg [
    { dst := some 6, op := .mov (.t 0) },
    { dst := some 7, op := .call (.f f_strings_Builder_copyCheck) [(.t 6)] }])
  (.seq (.reg [
    { dst := some 8, op := .mov (.t 0) },
    { dst := some 9, op := .mov (.t 0) },
    { dst := some 10, op := .nilck (.t 9) },
    { dst := some 11, op := .faddr 1 (.t 10) },
    { dst := some 12, op := .load 1 false (.t 11) },
    { dst := some 13, op := .mov (.t 1) },
    { dst := some 14, op := .append ⟨1, 1⟩ (.t 12) (.t 13) },
    { dst := some 15, op := .nilck (.t 8) },
    { dst := some 16, op := .faddr 1 (.t 15) },
    { dst := none, op := .store 1 (.t 16) (.t 14) }])
  (.seq (.reg [
    { dst := some 17, op := .mov (.t 1) },
    { dst := some 18, op := .len true (.t 17) },
    { dst := some 4, op := .mov (.t 18) },
    { dst := some 5, op := .mov (.k (.sc .nilIface)) }])
  .ret))))

def x_cellrow_blanks (f_cellrow_blank f_slices_Repeat_750 : FuncId) : XC :=
(.seq (.reg [
    { dst := some 4, op := .mov (.k .nil) }])
  (.seq (.reg [
    { dst := some 5, op := .mov (.t 1) },
    { dst := some 6, op := .call (.f f_cellrow_blank) [(.t 5)] },
    { dst := some 7, op := .bslice ⟨5, 48⟩ [(.str ⟨#[]⟩), (.int 0), (.int 0), (.int 0), (.int 0)] 1 [(0, (.t 6))] },
    { dst := some 8, op := .mov (.t 0) },
    { dst := some 9, op := .call (.f f_slices_Repeat_750) [(.t 7), (.t 8)] },
    { dst := some 4, op := .mov (.t 9) }])
  .ret))

def x_ref07_blank : XC :=
(.seq (.reg [
    { dst := some 2, op := .alloc ⟨5, 48⟩ [(.str ⟨#[]⟩), (.int 0), (.int 0), (.int 0), (.int 0)] }])
  (.seq (.reg [
    { dst := some 3, op := .mov (.t 0) },
    { dst := some 4, op := .build [(.int 0), (.int 0), (.int 0)] [(0, 1, (.k (.int (-1)))), (1, 1, (.t 3))] },
    { dst := some 5, op := .build [(.str ⟨#[]⟩), (.int 0), (.int 0), (.int 0), (.int 0)] [(0, 1, (.k (.str ⟨#[32]⟩))), (1, 1, (.k (.int 1))), (2, 3, (.t 4))] },
    { dst := none, op := .store 5 (.t 2) (.t 5) }])
  .ret))

def x_cellrow_open (f_cellrow_Check f_slices_Clone_750 : FuncId) : XC :=
(.seq (.reg [
    { dst := some 6, op := .mov (.k .nil) },
    { dst := some 7, op := .mov (.k (.int 0)) }])
  (.seq (.seq (.reg [
    { dst := some 8, op := .mov (.t 0) },
    { dst := some 9, op := .call (.f f_cellrow_Check) [(.t 8)] },
    { dst := some 10, op := .bin .neq (.t 9) (.k (.int 0)) }])
  (.cond (.t 10)
    (.seq (.reg [
      { dst := some 6, op := .mov (.k .nil) },
      { dst := some 7, op := .mov (.k (.int 1)) }])
    .ret)
    .skip))
  (.seq (.seq (.reg [
    { dst := some 11, op := .mov (.t 1) },
    { dst := some 12, op := .bin .lss (.t 11) (.k (.int 0)) },
    { dst := some 13, op := .mov (.t 12) },
    { dst := some 14, op := .mov (.t 1), guard := some (13, false) },
    { dst := some 15, op := .mov (.t 2), guard := some (13, false) },
    { dst := some 16, op := .bin .gtr (.t 14) (.t 15), guard := some (13, false) },
    { dst := some 17, op := .pick (.t 13) (.k (.bool true)) (.t 16) }])
  (.cond (.t 17)
    (.seq (.reg [
      { dst := some 6, op := .mov (.k .nil) },
      { dst := some 7, op := .mov (.k (.int 2)) }])
    .ret)
    .skip))
  (.seq (.reg [
    { dst := some 18, op := .mov (.t 0) },
    { dst := some 19, op := .calle (.f f_slices_Clone_750) [(.t 18)] },
    { dst := some 6, op := .mov (.t 19) },
    { dst := some 7, op := .mov (.k (.int 0)) }])
  .ret))))

def x_cellrow_halve (f_cellrow_blank : FuncId) : XC :=
(.seq (.reg [
    { dst := some 5, op := .mov (.t 1) },
    { dst := some 6, op := .bin .gtr (.t 5) (.k (.int 0)) },
    { dst := some 7, op := .mov (.t 6) },
    { dst := some 8, op := .mov (.t 1), guard := some (7, true) },
    { dst := some 9, op := .mov (.t 0), guard := some (7, true) },
    { dst := some 10, op := .len false (.t 9), guard := some (7, true) },
    { dst := some 11, op := .bin .lss (.t 8) (.t 10), guard := some (7, true) },
    { dst := some 12, op := .pick (.t 7) (.t 11) (.k (.bool false)) },
    { dst := some 13, op := .mov (.t 12) },
    { dst := some 14, op := .mov (.t 0), guard := some (13, true) },
    { dst := some 15, op := .mov (.t 1), guard := some (13, true) },
    { dst := some 16, op := .iaddr ⟨5, 48⟩ (.t 14) (.t 15), guard := some (13, true) },
    { dst := some 17, op := .faddr 1 (.t 16), guard := some (13, true) },
    { dst := some 18, op := .load 1 false (.t 17), guard := some (13, true) },
    { dst := some 19, op := .bin .eql (.t 18) (.k (.int 0)), guard := some (13, true) },
    { dst := some 20, op := .pick (.t 13) (.t 19) (.k (.bool false)) }])
  (.cond (.t 20)
    (.seq (.reg [
      { dst := some 21, op := .mov (.t 0) },
      { dst := some 22, op := .mov (.t 1) },
      { dst := some 23, op := .iaddr ⟨5, 48⟩ (.t 21) (.t 22) },
      { dst := some 24, op := .faddr 2 (.t 23) },
      { dst := some 25, op := .faddr 1 (.t 24) },
      { dst := some 26, op := .load 1 false (.t 25) },
      { dst := some 4, op := .mov (.t 26) }])
    (.reg [
      { dst := some 27, op := .mov (.t 0) },
      { dst := some 28, op := .mov (.t 1) },
      { dst := some 29, op := .bin .sub (.t 28) (.k (.int 1)) },
      { dst := some 30, op := .mov (.t 0) },
      { dst := some 31, op := .mov (.t 1) },
      { dst := some 32, op := .mov (.t 4) },
      { dst := some 33, op := .call (.f f_cellrow_blank) [(.t 32)] },
      { dst := some 34, op := .mov (.t 4) },
      { dst := some 35, op := .call (.f f_cellrow_blank) [(.t 34)] },
      { dst := some 36, op := .iaddr ⟨5, 48⟩ (.t 27) (.t 29) },
      { dst := none, op := .store 5 (.t 36) (.t 33) },
      { dst := some 37, op := .iaddr ⟨5, 48⟩ (.t 30) (.t 31) },
      { dst := none, op := .store 5 (.t 37) (.t 35) }]))
    .skip))

def x_ref07_copied : XC :=
(.seq (.reg [
    { dst := some 2, op := .mov (.k .nil) }])
  (.seq (.reg [
    { dst := some 3, op := .bslice ⟨5, 48⟩ [(.str ⟨#[]⟩), (.int 0), (.int 0), (.int 0), (.int 0)] 0 [] },
    { dst := some 4, op := .mov (.t 0) },
    { dst := some 5, op := .append ⟨5, 48⟩ (.t 3) (.t 4) },
    { dst := some 2, op := .mov (.t 5) }])
  .ret))

def x_ref07_separate (f_ref07_blank : FuncId) : XC :=
(.seq (.reg [
    { dst := some 4, op := .mov (.t 1) },
    { dst := some 5, op := .bin .gtr (.t 4) (.k (.int 0)) },
    { dst := some 6, op := .mov (.t 5) },
    { dst := some 7, op := .mov (.t 1), guard := some (6, true) },
    { dst := some 8, op := .mov (.t 0), guard := some (6, true) },
    { dst := some 9, op := .len false (.t 8), guard := some (6, true) },
    { dst := some 10, op := .bin .lss (.t 7) (.t 9), guard := some (6, true) },
    { dst := some 11, op := .pick (.t 6) (.t 10) (.k (.bool false)) },
    { dst := some 12, op := .mov (.t 11) },
    { dst := some 13, op := .mov (.t 0), guard := some (12, true) },
    { dst := some 14, op := .mov (.t 1), guard := some (12, true) },
    { dst := some 15, op := .iaddr ⟨5, 48⟩ (.t 13) (.t 14), guard := some (12, true) },
    { dst := some 16, op := .faddr 1 (.t 15), guard := some (12, true) },
    { dst := some 17, op := .load 1 false (.t 16), guard := some (12, true) },
    { dst := some 18, op := .bin .eql (.t 17) (.k (.int 0)), guard := some (12, true) },
    { dst := some 19, op := .pick (.t 12) (.t 18) (.k (.bool false)) }])
  (.cond (.t 19)
    (.seq (.reg [
      { dst := some 20, op := .mov (.t 0) },
      { dst := some 21, op := .mov (.t 1) },
      { dst := some 22, op := .bin .sub (.t 21) (.k (.int 1)) },
      { dst := some 23, op := .mov (.t 0) },
      { dst := some 24, op := .mov (.t 1) },
      { dst := some 25, op := .bin .sub (.t 24) (.k (.int 1)) },
      { dst := some 26, op := .iaddr ⟨5, 48⟩ (.t 23) (.t 25) },
      { dst := some 27, op := .faddr 2 (.t 26) },
      { dst := some 28, op := .faddr 1 (.t 27) },
      { dst := some 29, op := .load 1 false (.t 28) },
      { dst := some 30, op := .call (.f f_ref07_blank) [(.t 29)] },
      { dst := some 31, op := .iaddr ⟨5, 48⟩ (.t 20) (.t 22) },
      { dst := none, op := .store 5 (.t 31) (.t 30) }])
    (.reg [
      { dst := some 32, op := .mov (.t 0) },
      { dst := some 33, op := .mov (.t 1) },
      { dst := some 34, op := .mov (.t 0) },
      { dst := some 35, op := .mov (.t 1) },
      { dst := some 36, op := .iaddr ⟨5, 48⟩ (.t 34) (.t 35) },
      { dst := some 37, op := .faddr 2 (.t 36) },
      { dst := some 38, op := .faddr 1 (.t 37) },
      { dst := some 39, op := .load 1 false (.t 38) },
      { dst := some 40, op := .call (.f f_ref07_blank) [(.t 39)] },
      { dst := some 41, op := .iaddr ⟨5, 48⟩ (.t 32) (.t 33) },
      { dst := none, op := .store 5 (.t 41) (.t 40) }]))
    .skip))

def x_cluster_runes (f_cluster_Check : FuncId) : XC :=
(.seq (.reg [
    { dst := some 2, op := .mov (.k .nil) }])
  (.seq (.seq (.reg [
    { dst := some 3, op := .mov (.t 0) },
    { dst := some 4, op := .call (.f f_cluster_Check) [(.t 3)] },
    { dst := some 5, op := .bin .neq (.t 4) (.k (.int 0)) }])
  (.cond (.t 5)
    (.seq (.reg [
      { dst := some 2, op := .mov (.k .nil) }])
    .ret)
    .skip))
  (.seq (.reg [
    { dst := some 6, op := .mov (.t 0) },
    { dst := some 7, op := .s2r ⟨1, 4⟩ (.t 6) },
    { dst := some 2, op := .mov (.t 7) }])
  .ret)))

def x_charwidth_Width (f_charwidth_Mark f_charwidth_Wide f_charwidth_finder : FuncId) : XC :=
(.seq (.reg [
    { dst := some 2, op := .mov (.k (.int 0)) }])
  (.seq (.block 0 (.seq (.reg [
    { dst := some 4, op := .mov (.t 0) },
    { dst := some 5, op := .bin .lss (.t 4) (.k (.sc (.int .i32 32))) },
    { dst := some 6, op := .mov (.t 5) },
    { dst := some 7, op := .mov (.t 0), guard := some (6, false) },
    { dst := some 8, op := .bin .geq (.t 7) (.k (.sc (.int .i32 127))), guard := some (6, false) },
    { dst := some 9, op := .mov (.t 8), guard := some (6, false) },
    { dst := some 10, op := .mov (.t 0), guard := some (9, true) },
    { dst := some 11, op := .bin .leq (.t 10) (.k (.sc (.int .i32 159))), guard := some (9, true) },
    { dst := some 12, op := .pick (.t 9) (.t 11) (.k (.bool false)), guard := some (6, false) },
    { dst := some 13, op := .pick (.t 6) (.k (.bool true)) (.t 12) },
    { dst := some 3, op := .mov (.t 13) }])
  (.cond (.t 3)
    (.seq (.reg [
      { dst := some 2, op := .mov (.k (.int (-1))) }])
    .ret)
    (.seq (.reg [
      { dst := some 15, op := .mov (.t 0) },
      { dst := some 16, op := .call (.f f_charwidth_Mark) [(.t 15)] },
      { dst := some 14, op := .mov (.t 16) }])
    (.cond (.t 14)
      (.seq (.reg [
        { dst := some 2, op := .mov (.k (.int 0)) }])
      .ret)
      (.seq (.reg [
        { dst := some 18, op := .call (.f f_charwidth_Wide) [] },
        { dst := some 19, op := .call (.f f_charwidth_finder) [(.t 18)] },
        { dst := some 20, op := .mov (.t 0) },
        { dst := some 21, op := .call (.t 19) [(.t 20)] },
        { dst := some 17, op := .mov (.t 21) }])
      (.cond (.t 17)
        (.seq (.reg [
          { dst := some 2, op := .mov (.k (.int 2)) }])
        .ret)
        .skip)))))))
  (.seq (.reg [
    { dst := some 2, op := .mov (.k (.int 1)) }])
  .ret)))

def x_slices_Concat_750 (f_slices_Grow_750 : FuncId) : XC :=
(.seq (.reg [
    { dst := some 2, op := .mov (.k .nil) }])
  (.seq (.reg [
    { dst := some 3, op := .mov (.k (.int 0)) }])
  (.seq (.seq (.reg [
    { dst := some 9, op := .mov (.t 0) },
    { dst := some 10, op := .len false (.t 9) },
    { dst := some 11, op := .mov (.k (.int 0)) }])
  (.block 0 (.loop (.seq (.reg [
    { dst := some 12, op := .bin .lss (.t 11) (.t 10) }])
  (.seq (.cond (.t 12)
    .skip
    (.exit 0))
  (.seq (.block 1 (.seq (.reg [
    { dst := some 13, op := .iaddr ⟨1, 24⟩ (.t 9) (.t 11) },
    { dst := some 14, op := .load 1 false (.t 13) },
    { dst := some 5, op := .mov (.t 14) }])
  (.seq (.reg [
    { dst := some 15, op := .mov (.t 3) },
    { dst := some 16, op := .mov (.t 5) },
    { dst := some 17, op := .len false (.t 16) },
    { dst := some 18, op := .bin .add (.t 15) (.t 17) },
    { dst := some 3, op := .mov (.t 18) }])
  (.seq (.reg [
    { dst := some 19, op := .mov (.t 3) },
    { dst := some 20, op := .bin .lss (.t 19) (.k (.int 0)) }])
  (.cond (.t 20)
    .never
    .skip)))))
  (.reg [
    { dst := some 22, op := .bin .add (.t 11) (.k (.int 1)) },
    { dst := some 11, op := .mov (.t 22) }])))))))
  (.seq (.reg [
    { dst := some 23, op := .mov (.t 3) },
    { dst := some 24, op := .calle (.f f_slices_Grow_750) [(.k .nil), (.t 23)] },
    { dst := some 6, op := .mov (.t 24) }])
  (.seq (.seq (.reg [
    { dst := some 25, op := .mov (.t 0) },
    { dst := some 26, op := .len false (.t 25) },
    { dst := some 27, op := .mov (.k (.int 0)) }])
  (.block 2 (.loop (.seq (.reg [
    { dst := some 28, op := .bin .lss (.t 27) (.t 26) }])
  (.seq (.cond (.t 28)
    .skip
    (.exit 2))
  (.seq (.block 3 (.seq (.reg [
    { dst := some 29, op := .iaddr ⟨1, 24⟩ (.t 25) (.t 27) },
    { dst := some 30, op := .load 1 false (.t 29) },
    { dst := some 8, op := .mov (.t 30) }])
  (.reg [
    { dst := some 31, op := .mov (.t 6) },
    { dst := some 32, op := .mov (.t 8) },
    { dst := some 33, op := .append ⟨5, 48⟩ (.t 31) (.t 32) },
    { dst := some 6, op := .mov (.t 33) }])))
  (.reg [
    { dst := some 34, op := .bin .add (.t 27) (.k (.int 1)) },
    { dst := some 27, op := .mov (.t 34) }])))))))
  (.seq (.reg [
    { dst := some 35, op := .mov (.t 6) },
    { dst := some 2, op := .mov (.t 35) }])
  .ret))))))

def x_cellrow_blank : XC :=
(.seq (.reg [
    { dst := some 2, op := .alloc ⟨5, 48⟩ [(.str ⟨#[]⟩), (.int 0), (.int 0), (.int 0), (.int 0)] }])
  (.seq (.reg [
    { dst := some 3, op := .mov (.t 0) },
    { dst := some 4, op := .build [(.int 0), (.int 0), (.int 0)] [(0, 1, (.k (.int (-1)))), (1, 1, (.t 3))] },
    { dst := some 5, op := .build [(.str ⟨#[]⟩), (.int 0), (.int 0), (.int 0), (.int 0)] [(0, 1, (.k (.str ⟨#[32]⟩))), (1, 1, (.k (.int 1))), (2, 3, (.t 4))] },
    { dst := none, op := .store 5 (.t 2) (.t 5) }])
  .ret))

def x_slices_Clone_750 : XC :=
(.seq (.reg [
    { dst := some 2, op := .mov (.k .nil) }])
  (.seq (.seq (.reg [
    { dst := some 3, op := .mov (.t 0) },
    { dst := some 4, op := .eqnil false (.t 3) }])
  (.cond (.t 4)
    (.seq (.reg [
      { dst := some 2, op := .mov (.k .nil) }])
    .ret)
    .skip))
  (.seq (.reg [
    { dst := some 5, op := .bslice ⟨5, 48⟩ [(.str ⟨#[]⟩), (.int 0), (.int 0), (.int 0), (.int 0)] 0 [] },
    { dst := some 6, op := .mov (.t 0) },
    { dst := some 7, op := .append ⟨5, 48⟩ (.t 5) (.t 6) },
    { dst := some 2, op := .mov (.t 7) }])
  .ret)))

def x_utf8stream_Valid (f_unicode_utf8_ValidString : FuncId) : XC :=
(.seq (.reg [
    { dst := some 2, op := .mov (.k (.bool false)) }])
  (.seq (.reg [
    { dst := some 3, op := .mov (.t 0) },
    { dst := some 4, op := .call (.f f_unicode_utf8_ValidString) [(.t 3)] },
    { dst := some 2, op := .mov (.t 4) }])
  .ret))

def x_cluster_marked (f_charwidth_Mark : FuncId) : XC :=
(.seq (.reg [
    { dst := some 2, op := .mov (.k (.bool false)) }])
  (.seq (.seq (.reg [
    { dst := some 5, op := .mov (.t 0) },
    { dst := some 6, op := .len false (.t 5) },
    { dst := some 7, op := .mov (.k (.int 0)) }])
  (.block 0 (.loop (.seq (.reg [
    { dst := some 8, op := .bin .lss (.t 7) (.t 6) }])
  (.seq (.cond (.t 8)
    .skip
    (.exit 0))
  (.seq (.block 1 (.seq (.reg [
    { dst := some 9, op := .iaddr ⟨1, 4⟩ (.t 5) (.t 7) },
    { dst := some 10, op := .load 1 false (.t 9) },
    { dst := some 4, op := .mov (.t 10) }])
  (.seq (.reg [
    { dst := some 11, op := .mov (.t 4) },
    { dst := some 12, op := .call (.f f_charwidth_Mark) [(.t 11)] },
    { dst := some 13, op := .un .not (.t 12) }])
  (.cond (.t 13)
    (.seq (.reg [
      { dst := some 2, op := .mov (.k (.bool false)) }])
    .ret)
    .skip))))
  (.reg [
    { dst := some 14, op := .bin .add (.t 7) (.k (.int 1)) },
    { dst := some 7, op := .mov (.t 14) }])))))))
  (.seq (.reg [
    { dst := some 2, op := .mov (.k (.bool true)) }])
  .ret)))

def x_ref01_Valid (f_ref01_Decode f_ref01_Encode : FuncId) : XC :=
(.seq (.reg [
    { dst := some 2, op := .mov (.k (.bool false)) }])
  (.seq (.reg [
    { dst := some 6, op := .mov (.t 0) },
    { dst := some 7, op := .call (.f f_ref01_Decode) [(.k (.str ⟨#[]⟩)), (.t 6)] },
    { dst := some 5, op := .mov (.t 7) },
    { dst := some 8, op := .extract 0 (.t 5) },
    { dst := some 9, op := .extract 1 (.t 5) },
    { dst := some 3, op := .mov (.t 8) },
    { dst := some 4, op := .mov (.t 9) }])
  (.seq (.reg [
    { dst := some 10, op := .mov (.t 4) },
    { dst := some 11, op := .bin .eql (.t 10) (.k (.str ⟨#[]⟩)) },
    { dst := some 12, op := .mov (.t 11) },
    { dst := some 13, op := .mov (.t 3), guard := some (12, true) },
    { dst := some 14, op := .call (.f f_ref01_Encode) [(.t 13)], guard := some (12, true) },
    { dst := some 15, op := .mov (.t 0), guard := some (12, true) },
    { dst := some 16, op := .bin .eql (.t 14) (.t 15), guard := some (12, true) },
    { dst := some 17, op := .pick (.t 12) (.t 16) (.k (.bool false)) },
    { dst := some 2, op := .mov (.t 17) }])
  .ret)))

def x_ref03_Characters (f_ref01_Decode : FuncId) : XC :=
(.seq (.reg [
    { dst := some 2, op := .mov (.k .nil) }])
  (.seq (.reg [
    { dst := some 6, op := .mov (.t 0) },
    { dst := some 7, op := .call (.f f_ref01_Decode) [(.k (.str ⟨#[]⟩)), (.t 6)] },
    { dst := some 5, op := .mov (.t 7) },
    { dst := some 8, op := .extract 0 (.t 5) },
    { dst := some 9, op := .extract 1 (.t 5) },
    { dst := some 3, op := .mov (.t 8) },
    { dst := some 4, op := .mov (.t 9) }])
  (.seq (.reg [
    { dst := some 10, op := .mov (.t 3) },
    { dst := some 2, op := .mov (.t 10) }])
  .ret)))

def x_ref02_Mark (f_ref02_Marks f_ref02_in : FuncId) : XC :=
(.seq (.reg [
    { dst := some 2, op := .mov (.k (.bool false)) }])
  (.seq (.reg [
    { dst := some 3, op := .call (.f f_ref02_Marks) [] },
    { dst := some 4, op := .mov (.t 0) },
    { dst := some 5, op := .call (.f f_ref02_in) [(.t 3), (.t 4)] },
    { dst := some 2, op := .mov (.t 5) }])
  .ret))

def x_ref02_Width (f_ref02_Mark f_ref02_Wide f_ref02_in : FuncId) : XC :=
(.seq (.reg [
    { dst := some 2, op := .mov (.k (.int 0)) }])
  (.seq (.block 0 (.seq (.reg [
    { dst := some 4, op := .mov (.t 0) },
    { dst := some 5, op := .bin .lss (.t 4) (.k (.sc (.int .i32 32))) },
    { dst := some 6, op := .mov (.t 5) },
    { dst := some 7, op := .mov (.t 0), guard := some (6, false) },
    { dst := some 8, op := .bin .geq (.t 7) (.k (.sc (.int .i32 127))), guard := some (6, false) },
    { dst := some 9, op := .mov (.t 8), guard := some (6, false) },
    { dst := some 10, op := .mov (.t 0), guard := some (9, true) },
    { dst := some 11, op := .bin .leq (.t 10) (.k (.sc (.int .i32 159))), guard := some (9, true) },
    { dst := some 12, op := .pick (.t 9) (.t 11) (.k (.bool false)), guard := some (6, false) },
    { dst := some 13, op := .pick (.t 6) (.k (.bool true)) (.t 12) },
    { dst := some 3, op := .mov (.t 13) }])
  (.cond (.t 3)
    (.seq (.reg [
      { dst := some 2, op := .mov (.k (.int (-1))) }])
    .ret)
    (.seq (.reg [
      { dst := some 15, op := .mov (.t 0) },
      { dst := some 16, op := .call (.f f_ref02_Mark) [(.t 15)] },
      { dst := some 14, op := .mov (.t 16) }])
    (.cond (.t 14)
      (.seq (.reg [
        { dst := some 2, op := .mov (.k (.int 0)) }])
      .ret)
      (.seq (.reg [
        { dst := some 18, op := .call (.f f_ref02_Wide) [] },
        { dst := some 19, op := .mov (.t 0) },
        { dst := some 20, op := .call (.f f_ref02_in) [(.t 18), (.t 19)] },
        { dst := some 17, op := .mov (.t 20) }])
      (.cond (.t 17)
        (.seq (.reg [
          { dst := some 2, op := .mov (.k (.int 2)) }])
        .ret)
        .skip)))))))
  (.seq (.reg [
    { dst := some 2, op := .mov (.k (.int 1)) }])
  .ret)))

def x_slices_Repeat_750 (f_math_bits_Mul : FuncId) : XC :=
(.seq (.reg [
    { dst := some 4, op := .mov (.k .nil) }])
  (.seq (.seq (.reg [
    { dst := some 9, op := .mov (.t 1) },
    { dst := some 10, op := .bin .lss (.t 9) (.k (.int 0)) }])
  (.cond (.t 10)
    .never
    .skip))
  (.seq (.reg [
    { dst := some 13, op := .mov (.t 0) },
    { dst := some 14, op := .len false (.t 13) },
    { dst := some 15, op := .conv .u64 (.t 14) },
    { dst := some 16, op := .mov (.t 1) },
    { dst := some 17, op := .conv .u64 (.t 16) },
    { dst := some 18, op := .call (.f f_math_bits_Mul) [(.t 15), (.t 17)] },
    { dst := some 12, op := .mov (.t 18) },
    { dst := some 19, op := .extract 0 (.t 12) },
    { dst := some 20, op := .extract 1 (.t 12) },
    { dst := some 5, op := .mov (.t 19) },
    { dst := some 6, op := .mov (.t 20) }])
  (.seq (.seq (.reg [
    { dst := some 21, op := .mov (.t 5) },
    { dst := some 22, op := .bin .gtr (.t 21) (.k (.sc (.int .u64 0))) },
    { dst := some 23, op := .mov (.t 22) },
    { dst := some 24, op := .mov (.t 6), guard := some (23, false) },
    { dst := some 25, op := .bin .gtr (.t 24) (.k (.sc (.int .u64 9223372036854775807))), guard := some (23, false) },
    { dst := some 26, op := .pick (.t 23) (.k (.bool true)) (.t 25) }])
  (.cond (.t 26)
    .never
    .skip))
  (.seq (.reg [
    { dst := some 28, op := .mov (.t 6) },
    { dst := some 29, op := .conv .i64 (.t 28) },
    { dst := some 30, op := .make ⟨5, 48⟩ [(.str ⟨#[]⟩), (.int 0), (.int 0), (.int 0), (.int 0)] (.t 29) (.t 29) },
    { dst := some 7, op := .mov (.t 30) }])
  (.seq (.reg [
    { dst := some 31, op := .mov (.t 7) },
    { dst := some 32, op := .mov (.t 0) },
    { dst := some 33, op := .copy ⟨5, 48⟩ (.t 31) (.t 32) },
    { dst := some 8, op := .mov (.t 33) }])
  (.seq (.block 0 (.loop (.seq (.seq (.reg [
    { dst := some 34, op := .mov (.t 8) },
    { dst := some 35, op := .mov (.t 7) },
    { dst := some 36, op := .len false (.t 35) },
    { dst := some 37, op := .bin .lss (.t 34) (.t 36) }])
  (.cond (.t 37)
    .skip
    (.exit 0)))
  (.block 1 (.drw 0 [
    { dst := some 38, op := .mov (.t 8) },
    { dst := some 39, op := .mov (.t 7) },
    { dst := some 40, op := .mov (.t 8) },
    { dst := some 41, op := .slice ⟨5, 48⟩ (.t 39) (some (.t 40)) none none },
    { dst := some 42, op := .mov (.t 7) },
    { dst := some 43, op := .mov (.t 8) },
    { dst := some 44, op := .slice ⟨5, 48⟩ (.t 42) none (some (.t 43)) none },
    { dst := some 45, op := .copy ⟨5, 48⟩ (.t 41) (.t 44) },
    { dst := some 46, op := .bin .add (.t 38) (.t 45) },
    { dst := some 8, op := .mov (.t 46) }])))))
  (.seq (.reg [
    { dst := some 47, op := .mov (.t 7) },
    { dst := some 4, op := .mov (.t 47) }])
  .ret))))))))

def x_charwidth_Mark (f_charwidth_marks f_charwidth_finder : FuncId) : XC :=
(.seq (.reg [
    { dst := some 2, op := .mov (.k (.bool false)) }])
  (.seq (.reg [
    { dst := some 3, op := .call (.f f_charwidth_marks) [] },
    { dst := some 4, op := .call (.f f_charwidth_finder) [(.t 3)] },
    { dst := some 5, op := .mov (.t 0) },
    { dst := some 6, op := .call (.t 4) [(.t 5)] },
    { dst := some 2, op := .mov (.t 6) }])
  .ret))

def x_charwidth_finder (f_charwidth_finder_1 : FuncId) : XC :=
(.seq (.reg [
    { dst := some 1, op := .box ⟨1, 24⟩ (.t 0) },
    { dst := some 2, op := .mov (.k (.sc .nilFunc)) }])
  (.seq (.reg [
    { dst := some 3, op := .mkfn f_charwidth_finder_1 [(.t 1)] },
    { dst := some 2, op := .mov (.t 3) }])
  .ret))

def x_charwidth_Wide : XC :=
(.seq (.reg [
    { dst := some 0, op := .mov (.k .nil) }])
  (.seq (.reg [
    { dst := some 1, op := .build [(.sc (.int .i32 0)), (.sc (.int .i32 0))] [(0, 1, (.k (.sc (.int .i32 4352)))), (1, 1, (.k (.sc (.int .i32 4447))))] },
    { dst := some 2, op := .build [(.sc (.int .i32 0)), (.sc (.int .i32 0))] [(0, 1, (.k (.sc (.int .i32 11904)))), (1, 1, (.k (.sc (.int .i32 12350))))] },
    { dst := some 3, op := .build [(.sc (.int .i32 0)), (.sc (.int .i32 0))] [(0, 1, (.k (.sc (.int .i32 12353)))), (1, 1, (.k (.sc (.int .i32 13311))))] },
    { dst := some 4, op := .build [(.sc (.int .i32 0)), (.sc (.int .i32 0))] [(0, 1, (.k (.sc (.int .i32 13312)))), (1, 1, (.k (.sc (.int .i32 19903))))] },
    { dst := some 5, op := .build [(.sc (.int .i32 0)), (.sc (.int .i32 0))] [(0, 1, (.k (.sc (.int .i32 19968)))), (1, 1, (.k (.sc (.int .i32 40959))))] },
    { dst := some 6, op := .build [(.sc (.int .i32 0)), (.sc (.int .i32 0))] [(0, 1, (.k (.sc (.int .i32 40960)))), (1, 1, (.k (.sc (.int .i32 42191))))] },
    { dst := some 7, op := .build [(.sc (.int .i32 0)), (.sc (.int .i32 0))] [(0, 1, (.k (.sc (.int .i32 44032)))), (1, 1, (.k (.sc (.int .i32 55203))))] },
    { dst := some 8, op := .build [(.sc (.int .i32 0)), (.sc (.int .i32 0))] [(0, 1, (.k (.sc (.int .i32 63744)))), (1, 1, (.k (.sc (.int .i32 64255))))] },
    { dst := some 9, op := .build [(.sc (.int .i32 0)), (.sc (.int .i32 0))] [(0, 1, (.k (.sc (.int .i32 65072)))), (1, 1, (.k (.sc (.int .i32 65135))))] },
    { dst := some 10, op := .build [(.sc (.int .i32 0)), (.sc (.int .i32 0))] [(0, 1, (.k (.sc (.int .i32 65280)))), (1, 1, (.k (.sc (.int .i32 65376))))] },
    { dst := some 11, op := .build [(.sc (.int .i32 0)), (.sc (.int .i32 0))] [(0, 1, (.k (.sc (.int .i32 65504)))), (1, 1, (.k (.sc (.int .i32 65510))))] },
    { dst := some 12, op := .build [(.sc (.int .i32 0)), (.sc (.int .i32 0))] [(0, 1, (.k (.sc (.int .i32 127744)))), (1, 1, (.k (.sc (.int .i32 128591))))] },
    { dst := some 13, op := .build [(.sc (.int .i32 0)), (.sc (.int .i32 0))] [(0, 1, (.k (.sc (.int .i32 129280)))), (1, 1, (.k (.sc (.int .i32 129535))))] },
    { dst := some 14, op := .build [(.sc (.int .i32 0)), (.sc (.int .i32 0))] [(0, 1, (.k (.sc (.int .i32 131072)))), (1, 1, (.k (.sc (.int .i32 262141))))] },
    { dst := some 15, op := .bslice ⟨2, 8⟩ [(.sc (.int .i32 0)), (.sc (.int .i32 0))] 14 [(0, (.t 1)), (1, (.t 2)), (2, (.t 3)), (3, (.t 4)), (4, (.t 5)), (5, (.t 6)), (6, (.t 7)), (7, (.t 8)), (8, (.t 9)), (9, (.t 10)), (10, (.t 11)), (11, (.t 12)), (12, (.t 13)), (13, (.t 14))] },
    { dst := some 0, op := .mov (.t 15) }])
  .ret))

def x_unicode_utf8_ValidString (f_unicode_utf8_word_69 : FuncId) : XC :=
(.seq (.reg [
    { dst := some 2, op := .mov (.k (.bool false)) }])
  (.seq (.block 0 (.loop (.seq (.seq (.reg [
    { dst := some 7, op := .mov (.t 0) },
    { dst := some 8, op := .len true (.t 7) },
    { dst := some 9, op := .bin .gtr (.t 8) (.k (.int 0)) }])
  (.cond (.t 9)
    .skip
    (.exit 0)))
  (.block 1 (.seq (.reg [
    { dst := some 10, op := .mov (.t 0) },
    { dst := some 11, op := .sidx (.t 10) (.k (.int 0)) },
    { dst := some 3, op := .mov (.t 11) }])
  (.seq (.seq (.reg [
    { dst := some 12, op := .mov (.t 3) },
    { dst := some 13, op := .bin .lss (.t 12) (.k (.sc (.int .u8 128))) }])
  (.cond (.t 13)
    (.seq (.reg [
      { dst := some 14, op := .mov (.t 0) },
      { dst := some 15, op := .sslice (.t 14) (some (.k (.int 1))) none },
      { dst := some 0, op := .mov (.t 15) }])
    (.seq (.seq (.reg [
      { dst := some 16, op := .mov (.t 0) },
      { dst := some 17, op := .len true (.t 16) },
      { dst := some 18, op := .bin .gtr (.t 17) (.k (.int 8)) },
      { dst := some 19, op := .mov (.t 18) },
      { dst := some 20, op := .mov (.t 0), guard := some (19, true) },
      { dst := some 21, op := .call (.f f_unicode_utf8_word_69) [(.t 20)], guard := some (19, true) },
      { dst := some 22, op := .bin .and (.t 21) (.k (.sc (.int .u64 9259542123273814144))), guard := some (19, true) },
      { dst := some 23, op := .bin .eql (.t 22) (.k (.sc (.int .u64 0))), guard := some (19, true) },
      { dst := some 24, op := .pick (.t 19) (.t 23) (.k (.bool false)) }])
    (.cond (.t 24)
      (.seq (.reg [
        { dst := some 25, op := .mov (.t 0) },
        { dst := some 26, op := .sslice (.t 25) (some (.k (.int 8))) none },
        { dst := some 0, op := .mov (.t 26) }])
      (.seq (.drw 0 [
        { dst := some 27, op := .mov (.t 0) },
        { dst := some 28, op := .len true (.t 27) },
        { dst := some 29, op := .bin .gtr (.t 28) (.k (.int 16)) },
        { dst := some 30, op := .mov (.t 29) },
        { dst := some 31, op := .mov (.t 0), guard := some (30, true) },
        { dst := some 32, op := .call (.f f_unicode_utf8_word_69) [(.t 31)], guard := some (30, true) },
        { dst := some 33, op := .mov (.t 0), guard := some (30, true) },
        { dst := some 34, op := .sslice (.t 33) (some (.k (.int 8))) none, guard := some (30, true) },
        { dst := some 35, op := .call (.f f_unicode_utf8_word_69) [(.t 34)], guard := some (30, true) },
        { dst := some 36, op := .bin .or (.t 32) (.t 35), guard := some (30, true) },
        { dst := some 37, op := .bin .and (.t 36) (.k (.sc (.int .u64 9259542123273814144))), guard := some (30, true) },
        { dst := some 38, op := .bin .eql (.t 37) (.k (.sc (.int .u64 0))), guard := some (30, true) },
        { dst := some 39, op := .pick (.t 30) (.t 38) (.k (.bool false)) }])
      (.cond (.t 39)
        (.seq (.reg [
          { dst := some 40, op := .mov (.t 0) },
          { dst := some 41, op := .sslice (.t 40) (some (.k (.int 16))) none },
          { dst := some 0, op := .mov (.t 41) }])
        (.block 2 (.loop (.seq (.seq (.drw 0 [
          { dst := some 42, op := .mov (.t 0) },
          { dst := some 43, op := .len true (.t 42) },
          { dst := some 44, op := .bin .gtr (.t 43) (.k (.int 32)) },
          { dst := some 45, op := .mov (.t 44) },
          { dst := some 46, op := .mov (.t 0), guard := some (45, true) },
          { dst := some 47, op := .call (.f f_unicode_utf8_word_69) [(.t 46)], guard := some (45, true) },
          { dst := some 48, op := .mov (.t 0), guard := some (45, true) },
          { dst := some 49, op := .sslice (.t 48) (some (.k (.int 8))) none, guard := some (45, true) },
          { dst := some 50, op := .call (.f f_unicode_utf8_word_69) [(.t 49)], guard := some (45, true) },
          { dst := some 51, op := .bin .or (.t 47) (.t 50), guard := some (45, true) },
          { dst := some 52, op := .mov (.t 0), guard := some (45, true) },
          { dst := some 53, op := .sslice (.t 52) (some (.k (.int 16))) none, guard := some (45, true) },
          { dst := some 54, op := .call (.f f_unicode_utf8_word_69) [(.t 53)], guard := some (45, true) },
          { dst := some 55, op := .mov (.t 0), guard := some (45, true) },
          { dst := some 56, op := .sslice (.t 55) (some (.k (.int 24))) none, guard := some (45, true) },
          { dst := some 57, op := .call (.f f_unicode_utf8_word_69) [(.t 56)], guard := some (45, true) },
          { dst := some 58, op := .bin .or (.t 54) (.t 57), guard := some (45, true) },
          { dst := some 59, op := .bin .or (.t 51) (.t 58), guard := some (45, true) },
          { dst := some 60, op := .bin .and (.t 59) (.k (.sc (.int .u64 9259542123273814144))), guard := some (45, true) },
          { dst := some 61, op := .bin .eql (.t 60) (.k (.sc (.int .u64 0))), guard := some (45, true) },
          { dst := some 62, op := .pick (.t 45) (.t 61) (.k (.bool false)) }])
        (.cond (.t 62)
          .skip
          (.exit 2)))
        (.block 3 (.reg [
          { dst := some 63, op := .mov (.t 0) },
          { dst := some 64, op := .sslice (.t 63) (some (.k (.int 32))) none },
          { dst := some 0, op := .mov (.t 64) }]))))))
        .skip)))
      .skip))
    (.exit 1)))
    .skip))
  (.seq (.reg [
    { dst := some 65, op := .mov (.t 3) },
    { dst := some 66, op := .aaddr ⟨1, 1⟩ 256 (.t 1000000) (.t 65) },
    { dst := some 67, op := .load 1 false (.t 66) },
    { dst := some 4, op := .mov (.t 67) }])
  (.seq (.reg [
    { dst := some 68, op := .mov (.t 4) },
    { dst := some 69, op := .bin .and (.t 68) (.k (.sc (.int .u8 7))) },
    { dst := some 70, op := .conv .i64 (.t 69) },
    { dst := some 5, op := .mov (.t 70) }])
  (.seq (.reg [
    { dst := some 71, op := .mov (.t 4) },
    { dst := some 72, op := .bin .shr (.t 71) (.k (.sc (.int .u64 4))) },
    { dst := some 73, op := .aaddr ⟨2, 2⟩ 16 (.t 1000001) (.t 72) },
    { dst := some 74, op := .load 2 true (.t 73) },
    { dst := some 6, op := .alloc ⟨2, 2⟩ [(.sc (.int .u8 0)), (.sc (.int .u8 0))] },
    { dst := none, op := .store 2 (.t 6) (.t 74) }])
  (.seq (.reg [
    { dst := some 75, op := .mov (.t 5) }])
  (.block 4 (.seq (.reg [
    { dst := some 77, op := .bin .eql (.t 75) (.k (.int 2)) },
    { dst := some 76, op := .mov (.t 77) }])
  (.cond (.t 76)
    (.seq (.seq (.drw 0 [
      { dst := some 78, op := .mov (.t 0) },
      { dst := some 79, op := .len true (.t 78) },
      { dst := some 80, op := .bin .lss (.t 79) (.k (.int 2)) },
      { dst := some 81, op := .mov (.t 80) },
      { dst := some 82, op := .mov (.t 0), guard := some (81, false) },
      { dst := some 83, op := .sidx (.t 82) (.k (.int 1)), guard := some (81, false) },
      { dst := some 84, op := .faddr 0 (.t 6), guard := some (81, false) },
      { dst := some 85, op := .load 1 false (.t 84), guard := some (81, false) },
      { dst := some 86, op := .bin .lss (.t 83) (.t 85), guard := some (81, false) },
      { dst := some 87, op := .pick (.t 81) (.k (.bool true)) (.t 86) },
      { dst := some 88, op := .mov (.t 87) },
      { dst := some 89, op := .faddr 1 (.t 6), guard := some (88, false) },
      { dst := some 90, op := .load 1 false (.t 89), guard := some (88, false) },
      { dst := some 91, op := .mov (.t 0), guard := some (88, false) },
      { dst := some 92, op := .sidx (.t 91) (.k (.int 1)), guard := some (88, false) },
      { dst := some 93, op := .bin .lss (.t 90) (.t 92), guard := some (88, false) },
      { dst := some 94, op := .pick (.t 88) (.k (.bool true)) (.t 93) }])
    (.cond (.t 94)
      (.seq (.reg [
        { dst := some 2, op := .mov (.k (.bool false)) }])
      .ret)
      .skip))
    (.reg [
      { dst := some 95, op := .mov (.t 0) },
      { dst := some 96, op := .sslice (.t 95) (some (.k (.int 2))) none },
      { dst := some 0, op := .mov (.t 96) }]))
    (.seq (.reg [
      { dst := some 98, op := .bin .eql (.t 75) (.k (.int 3)) },
      { dst := some 97, op := .mov (.t 98) }])
    (.cond (.t 97)
      (.seq (.seq (.drw 0 [
        { dst := some 99, op := .mov (.t 0) },
        { dst := some 100, op := .len true (.t 99) },
        { dst := some 101, op := .bin .lss (.t 100) (.k (.int 3)) },
        { dst := some 102, op := .mov (.t 101) },
        { dst := some 103, op := .mov (.t 0), guard := some (102, false) },
        { dst := some 104, op := .sidx (.t 103) (.k (.int 1)), guard := some (102, false) },
        { dst := some 105, op := .faddr 0 (.t 6), guard := some (102, false) },
        { dst := some 106, op := .load 1 false (.t 105), guard := some (102, false) },
        { dst := some 107, op := .bin .lss (.t 104) (.t 106), guard := some (102, false) },
        { dst := some 108, op := .pick (.t 102) (.k (.bool true)) (.t 107) },
        { dst := some 109, op := .mov (.t 108) },
        { dst := some 110, op := .faddr 1 (.t 6), guard := some (109, false) },
        { dst := some 111, op := .load 1 false (.t 110), guard := some (109, false) },
        { dst := some 112, op := .mov (.t 0), guard := some (109, false) },
        { dst := some 113, op := .sidx (.t 112) (.k (.int 1)), guard := some (109, false) },
        { dst := some 114, op := .bin .lss (.t 111) (.t 113), guard := some (109, false) },
        { dst := some 115, op := .pick (.t 109) (.k (.bool true)) (.t 114) },
        { dst := some 116, op := .mov (.t 115) },
        { dst := some 117, op := .mov (.t 0), guard := some (116, false) },
        { dst := some 118, op := .sidx (.t 117) (.k (.int 2)), guard := some (116, false) },
        { dst := some 119, op := .bin .lss (.t 118) (.k (.sc (.int .u8 128))), guard := some (116, false) },
        { dst := some 120, op := .pick (.t 116) (.k (.bool true)) (.t 119) },
        { dst := some 121, op := .mov (.t 120) },
        { dst := some 122, op := .mov (.t 0), guard := some (121, false) },
        { dst := some 123, op := .sidx (.t 122) (.k (.int 2)), guard := some (121, false) },
        { dst := some 124, op := .bin .lss (.k (.sc (.int .u8 191))) (.t 123), guard := some (121, false) },
        { dst := some 125, op := .pick (.t 121) (.k (.bool true)) (.t 124) }])
      (.cond (.t 125)
        (.seq (.reg [
          { dst := some 2, op := .mov (.k (.bool false)) }])
        .ret)
        .skip))
      (.reg [
        { dst := some 126, op := .mov (.t 0) },
        { dst := some 127, op := .sslice (.t 126) (some (.k (.int 3))) none },
        { dst := some 0, op := .mov (.t 127) }]))
      (.seq (.reg [
        { dst := some 129, op := .bin .eql (.t 75) (.k (.int 4)) },
        { dst := some 128, op := .mov (.t 129) }])
      (.cond (.t 128)
        (.seq (.seq (.drw 0 [
          { dst := some 130, op := .mov (.t 0) },
          { dst := some 131, op := .len true (.t 130) },
          { dst := some 132, op := .bin .lss (.t 131) (.k (.int 4)) },
          { dst := some 133, op := .mov (.t 132) },
          { dst := some 134, op := .mov (.t 0), guard := some (133, false) },
          { dst := some 135, op := .sidx (.t 134) (.k (.int 1)), guard := some (133, false) },
          { dst := some 136, op := .faddr 0 (.t 6), guard := some (133, false) },
          { dst := some 137, op := .load 1 false (.t 136), guard := some (133, false) },
          { dst := some 138, op := .bin .lss (.t 135) (.t 137), guard := some (133, false) },
          { dst := some 139, op := .pick (.t 133) (.k (.bool true)) (.t 138) },
          { dst := some 140, op := .mov (.t 139) },
          { dst := some 141, op := .faddr 1 (.t 6), guard := some (140, false) },
          { dst := some 142, op := .load 1 false (.t 141), guard := some (140, false) },
          { dst := some 143, op := .mov (.t 0), guard := some (140, false) },
          { dst := some 144, op := .sidx (.t 143) (.k (.int 1)), guard := some (140, false) },
          { dst := some 145, op := .bin .lss (.t 142) (.t 144), guard := some (140, false) },
          { dst := some 146, op := .pick (.t 140) (.k (.bool true)) (.t 145) },
          { dst := some 147, op := .mov (.t 146) },
          { dst := some 148, op := .mov (.t 0), guard := some (147, false) },
          { dst := some 149, op := .sidx (.t 148) (.k (.int 2)), guard := some (147, false) },
          { dst := some 150, op := .bin .lss (.t 149) (.k (.sc (.int .u8 128))), guard := some (147, false) },
          { dst := some 151, op := .pick (.t 147) (.k (.bool true)) (.t 150) },
          { dst := some 152, op := .mov (.t 151) },
          { dst := some 153, op := .mov (.t 0), guard := some (152, false) },
          { dst := some 154, op := .sidx (.t 153) (.k (.int 2)), guard := some (152, false) },
          { dst := some 155, op := .bin .lss (.k (.sc (.int .u8 191))) (.t 154), guard := some (152, false) },
          { dst := some 156, op := .pick (.t 152) (.k (.bool true)) (.t 155) },
          { dst := some 157, op := .mov (.t 156) },
          { dst := some 158, op := .mov (.t 0), guard := some (157, false) },
          { dst := some 159, op := .sidx (.t 158) (.k (.int 3)), guard := some (157, false) },
          { dst := some 160, op := .bin .lss (.t 159) (.k (.sc (.int .u8 128))), guard := some (157, false) },
          { dst := some 161, op := .pick (.t 157) (.k (.bool true)) (.t 160) },
          { dst := some 162, op := .mov (.t 161) },
          { dst := some 163, op := .mov (.t 0), guard := some (162, false) },
          { dst := some 164, op := .sidx (.t 163) (.k (.int 3)), guard := some (162, false) },
          { dst := some 165, op := .bin .lss (.k (.sc (.int .u8 191))) (.t 164), guard := some (162, false) },
          { dst := some 166, op := .pick (.t 162) (.k (.bool true)) (.t 165) }])
        (.cond (.t 166)
          (.seq (.reg [
            { dst := some 2, op := .mov (.k (.bool false)) }])
          .ret)
          .skip))
        (.reg [
          { dst := some 167, op := .mov (.t 0) },
          { dst := some 168, op := .sslice (.t 167) (some (.k (.int 4))) none },
          { dst := some 0, op := .mov (.t 168) }]))
        (.seq (.reg [
          { dst := some 2, op := .mov (.k (.bool false)) }])
        .ret))))))))))))))))))
  (.seq (.reg [
    { dst := some 2, op := .mov (.k (.bool true)) }])
  .ret)))

def x_ref01_Decode (f_ref01_limits f_ref01_value : FuncId) : XC :=
(.seq (.reg [
    { dst := some 4, op := .mov (.k .nil) },
    { dst := some 5, op := .mov (.k (.str ⟨#[]⟩)) }])
  (.seq (.reg [
    { dst := some 17, op := .mov (.t 0) },
    { dst := some 18, op := .mov (.t 1) },
    { dst := some 19, op := .bin .add (.t 17) (.t 18) },
    { dst := some 6, op := .mov (.t 19) }])
  (.seq (.reg [
    { dst := some 20, op := .bslice ⟨1, 4⟩ [(.sc (.int .i32 0))] 0 [] },
    { dst := some 7, op := .mov (.t 20) }])
  (.seq (.reg [
    { dst := some 21, op := .bslice ⟨1, 1⟩ [(.sc (.int .u8 0))] 0 [] },
    { dst := some 8, op := .mov (.t 21) }])
  (.seq (.seq (.reg [
    { dst := some 9, op := .mov (.k (.int 0)) }])
  (.block 0 (.loop (.seq (.seq (.reg [
    { dst := some 22, op := .mov (.t 9) },
    { dst := some 23, op := .mov (.t 6) },
    { dst := some 24, op := .len true (.t 23) },
    { dst := some 25, op := .bin .lss (.t 22) (.t 24) }])
  (.cond (.t 25)
    .skip
    (.exit 0)))
  (.block 1 (.seq (.reg [
    { dst := some 26, op := .mov (.t 6) },
    { dst := some 27, op := .mov (.t 9) },
    { dst := some 28, op := .sidx (.t 26) (.t 27) },
    { dst := some 10, op := .mov (.t 28) }])
  (.seq (.seq (.reg [
    { dst := some 29, op := .mov (.t 8) },
    { dst := some 30, op := .len false (.t 29) },
    { dst := some 31, op := .bin .eql (.t 30) (.k (.int 0)) }])
  (.cond (.t 31)
    (.seq (.reg [
      { dst := some 32, op := .mov (.t 9) },
      { dst := some 33, op := .bin .add (.t 32) (.k (.int 1)) },
      { dst := some 9, op := .mov (.t 33) }])
    (.seq (.reg [
      { dst := some 35, op := .mov (.t 10) },
      { dst := some 36, op := .bslice ⟨1, 1⟩ [(.sc (.int .u8 0))] 1 [(0, (.t 35))] },
      { dst := some 37, op := .calle (.f f_ref01_limits) [(.t 36)] },
      { dst := some 34, op := .mov (.t 37) },
      { dst := some 38, op := .extract 0 (.t 34) },
      { dst := some 39, op := .extract 1 (.t 34) },
      { dst := some 40, op := .extract 2 (.t 34) },
      { dst := some 11, op := .mov (.t 38) },
      { dst := some 12, op := .mov (.t 39) },
      { dst := some 13, op := .mov (.t 40) }])
    (.seq (.block 2 (.seq (.reg [
      { dst := some 45, op := .mov (.t 10) },
      { dst := some 46, op := .bin .lss (.t 45) (.k (.sc (.int .u8 128))) },
      { dst := some 44, op := .mov (.t 46) }])
    (.cond (.t 44)
      (.reg [
        { dst := some 47, op := .mov (.t 7) },
        { dst := some 48, op := .mov (.t 10) },
        { dst := some 49, op := .conv .i32 (.t 48) },
        { dst := some 50, op := .bslice ⟨1, 4⟩ [(.sc (.int .i32 0))] 1 [(0, (.t 49))] },
        { dst := some 51, op := .append ⟨1, 4⟩ (.t 47) (.t 50) },
        { dst := some 7, op := .mov (.t 51) }])
      (.seq (.reg [
        { dst := some 53, op := .mov (.t 13) },
        { dst := some 54, op := .bin .gtr (.t 53) (.k (.int 0)) },
        { dst := some 52, op := .mov (.t 54) }])
      (.cond (.t 52)
        (.reg [
          { dst := some 55, op := .mov (.t 8) },
          { dst := some 56, op := .mov (.t 10) },
          { dst := some 57, op := .bslice ⟨1, 1⟩ [(.sc (.int .u8 0))] 1 [(0, (.t 56))] },
          { dst := some 58, op := .append ⟨1, 1⟩ (.t 55) (.t 57) },
          { dst := some 8, op := .mov (.t 58) }])
        (.reg [
          { dst := some 41, op := .mov (.t 7) },
          { dst := some 42, op := .bslice ⟨1, 4⟩ [(.sc (.int .i32 0))] 1 [(0, (.k (.sc (.int .i32 65533))))] },
          { dst := some 43, op := .append ⟨1, 4⟩ (.t 41) (.t 42) },
          { dst := some 7, op := .mov (.t 43) }]))))))
    (.exit 1))))
    .skip))
  (.seq (.reg [
    { dst := some 60, op := .mov (.t 8) },
    { dst := some 61, op := .calle (.f f_ref01_limits) [(.t 60)] },
    { dst := some 59, op := .mov (.t 61) },
    { dst := some 62, op := .extract 0 (.t 59) },
    { dst := some 63, op := .extract 1 (.t 59) },
    { dst := some 64, op := .extract 2 (.t 59) },
    { dst := some 14, op := .mov (.t 62) },
    { dst := some 15, op := .mov (.t 63) },
    { dst := some 16, op := .mov (.t 64) }])
  (.seq (.seq (.reg [
    { dst := some 65, op := .mov (.t 10) },
    { dst := some 66, op := .mov (.t 14) },
    { dst := some 67, op := .bin .lss (.t 65) (.t 66) },
    { dst := some 68, op := .mov (.t 67) },
    { dst := some 69, op := .mov (.t 10), guard := some (68, false) },
    { dst := some 70, op := .mov (.t 15), guard := some (68, false) },
    { dst := some 71, op := .bin .gtr (.t 69) (.t 70), guard := some (68, false) },
    { dst := some 72, op := .pick (.t 68) (.k (.bool true)) (.t 71) }])
  (.cond (.t 72)
    (.seq (.reg [
      { dst := some 73, op := .mov (.t 7) },
      { dst := some 74, op := .bslice ⟨1, 4⟩ [(.sc (.int .i32 0))] 1 [(0, (.k (.sc (.int .i32 65533))))] },
      { dst := some 75, op := .append ⟨1, 4⟩ (.t 73) (.t 74) },
      { dst := some 7, op := .mov (.t 75) }])
    (.seq (.reg [
      { dst := some 76, op := .bslice ⟨1, 1⟩ [(.sc (.int .u8 0))] 0 [] },
      { dst := some 8, op := .mov (.t 76) }])
    (.exit 1)))
    .skip))
  (.seq (.reg [
    { dst := some 77, op := .mov (.t 9) },
    { dst := some 78, op := .bin .add (.t 77) (.k (.int 1)) },
    { dst := some 9, op := .mov (.t 78) }])
  (.seq (.reg [
    { dst := some 79, op := .mov (.t 8) },
    { dst := some 80, op := .mov (.t 10) },
    { dst := some 81, op := .bslice ⟨1, 1⟩ [(.sc (.int .u8 0))] 1 [(0, (.t 80))] },
    { dst := some 82, op := .append ⟨1, 1⟩ (.t 79) (.t 81) },
    { dst := some 8, op := .mov (.t 82) }])
  (.seq (.reg [
    { dst := some 83, op := .mov (.t 8) },
    { dst := some 84, op := .len false (.t 83) },
    { dst := some 85, op := .mov (.t 16) },
    { dst := some 86, op := .bin .eql (.t 84) (.t 85) }])
  (.cond (.t 86)
    (.seq (.reg [
      { dst := some 87, op := .mov (.t 7) },
      { dst := some 88, op := .mov (.t 8) },
      { dst := some 89, op := .calle (.f f_ref01_value) [(.t 88)] },
      { dst := some 90, op := .bslice ⟨1, 4⟩ [(.sc (.int .i32 0))] 1 [(0, (.t 89))] },
      { dst := some 91, op := .append ⟨1, 4⟩ (.t 87) (.t 90) },
      { dst := some 7, op := .mov (.t 91) }])
    (.reg [
      { dst := some 92, op := .bslice ⟨1, 1⟩ [(.sc (.int .u8 0))] 0 [] },
      { dst := some 8, op := .mov (.t 92) }]))
    .skip)))))))))))))
  (.seq (.drw 0 [
    { dst := some 93, op := .mov (.t 7) },
    { dst := some 94, op := .mov (.t 8) },
    { dst := some 95, op := .b2s (.t 94) },
    { dst := some 4, op := .mov (.t 93) },
    { dst := some 5, op := .mov (.t 95) }])
  .ret))))))

def x_ref01_Encode : XC :=
(.seq (.reg [
    { dst := some 2, op := .mov (.k (.str ⟨#[]⟩)) }])
  (.seq (.reg [
    { dst := some 6, op := .bslice ⟨1, 1⟩ [(.sc (.int .u8 0))] 0 [] },
    { dst := some 3, op := .mov (.t 6) }])
  (.seq (.seq (.reg [
    { dst := some 4, op := .mov (.k (.int 0)) }])
  (.block 0 (.loop (.seq (.seq (.reg [
    { dst := some 7, op := .mov (.t 4) },
    { dst := some 8, op := .mov (.t 0) },
    { dst := some 9, op := .len false (.t 8) },
    { dst := some 10, op := .bin .lss (.t 7) (.t 9) }])
  (.cond (.t 10)
    .skip
    (.exit 0)))
  (.seq (.block 1 (.seq (.reg [
    { dst := some 13, op := .mov (.t 0) },
    { dst := some 14, op := .mov (.t 4) },
    { dst := some 15, op := .iaddr ⟨1, 4⟩ (.t 13) (.t 14) },
    { dst := some 16, op := .load 1 false (.t 15) },
    { dst := some 5, op := .mov (.t 16) }])
  (.seq (.seq (.reg [
    { dst := some 17, op := .mov (.t 5) },
    { dst := some 18, op := .bin .lss (.t 17) (.k (.sc (.int .i32 0))) },
    { dst := some 19, op := .mov (.t 18) },
    { dst := some 20, op := .mov (.t 5), guard := some (19, false) },
    { dst := some 21, op := .bin .gtr (.t 20) (.k (.sc (.int .i32 1114111))), guard := some (19, false) },
    { dst := some 22, op := .pick (.t 19) (.k (.bool true)) (.t 21) },
    { dst := some 23, op := .mov (.t 22) },
    { dst := some 24, op := .mov (.t 5), guard := some (23, false) },
    { dst := some 25, op := .bin .geq (.t 24) (.k (.sc (.int .i32 55296))), guard := some (23, false) },
    { dst := some 26, op := .mov (.t 25), guard := some (23, false) },
    { dst := some 27, op := .mov (.t 5), guard := some (26, true) },
    { dst := some 28, op := .bin .leq (.t 27) (.k (.sc (.int .i32 57343))), guard := some (26, true) },
    { dst := some 29, op := .pick (.t 26) (.t 28) (.k (.bool false)), guard := some (23, false) },
    { dst := some 30, op := .pick (.t 23) (.k (.bool true)) (.t 29) }])
  (.cond (.t 30)
    (.reg [
      { dst := some 5, op := .mov (.k (.sc (.int .i32 65533))) }])
    .skip))
  (.block 2 (.seq (.reg [
    { dst := some 53, op := .mov (.t 5) },
    { dst := some 54, op := .bin .lss (.t 53) (.k (.sc (.int .i32 128))) },
    { dst := some 52, op := .mov (.t 54) }])
  (.cond (.t 52)
    (.reg [
      { dst := some 55, op := .mov (.t 3) },
      { dst := some 56, op := .mov (.t 5) },
      { dst := some 57, op := .conv .u8 (.t 56) },
      { dst := some 58, op := .bslice ⟨1, 1⟩ [(.sc (.int .u8 0))] 1 [(0, (.t 57))] },
      { dst := some 59, op := .append ⟨1, 1⟩ (.t 55) (.t 58) },
      { dst := some 3, op := .mov (.t 59) }])
    (.seq (.reg [
      { dst := some 61, op := .mov (.t 5) },
      { dst := some 62, op := .bin .lss (.t 61) (.k (.sc (.int .i32 2048))) },
      { dst := some 60, op := .mov (.t 62) }])
    (.cond (.t 60)
      (.reg [
        { dst := some 63, op := .mov (.t 3) },
        { dst := some 64, op := .mov (.t 5) },
        { dst := some 65, op := .bin .quo (.t 64) (.k (.sc (.int .i32 64))) },
        { dst := some 66, op := .bin .add (.k (.sc (.int .i32 192))) (.t 65) },
        { dst := some 67, op := .conv .u8 (.t 66) },
        { dst := some 68, op := .mov (.t 5) },
        { dst := some 69, op := .bin .rem (.t 68) (.k (.sc (.int .i32 64))) },
        { dst := some 70, op := .bin .add (.k (.sc (.int .i32 128))) (.t 69) },
        { dst := some 71, op := .conv .u8 (.t 70) },
        { dst := some 72, op := .bslice ⟨1, 1⟩ [(.sc (.int .u8 0))] 2 [(0, (.t 67)), (1, (.t 71))] },
        { dst := some 73, op := .append ⟨1, 1⟩ (.t 63) (.t 72) },
        { dst := some 3, op := .mov (.t 73) }])
      (.seq (.reg [
        { dst := some 75, op := .mov (.t 5) },
        { dst := some 76, op := .bin .lss (.t 75) (.k (.sc (.int .i32 65536))) },
        { dst := some 74, op := .mov (.t 76) }])
      (.cond (.t 74)
        (.reg [
          { dst := some 77, op := .mov (.t 3) },
          { dst := some 78, op := .mov (.t 5) },
          { dst := some 79, op := .bin .quo (.t 78) (.k (.sc (.int .i32 4096))) },
          { dst := some 80, op := .bin .add (.k (.sc (.int .i32 224))) (.t 79) },
          { dst := some 81, op := .conv .u8 (.t 80) },
          { dst := some 82, op := .mov (.t 5) },
          { dst := some 83, op := .bin .quo (.t 82) (.k (.sc (.int .i32 64))) },
          { dst := some 84, op := .bin .rem (.t 83) (.k (.sc (.int .i32 64))) },
          { dst := some 85, op := .bin .add (.k (.sc (.int .i32 128))) (.t 84) },
          { dst := some 86, op := .conv .u8 (.t 85) },
          { dst := some 87, op := .mov (.t 5) },
          { dst := some 88, op := .bin .rem (.t 87) (.k (.sc (.int .i32 64))) },
          { dst := some 89, op := .bin .add (.k (.sc (.int .i32 128))) (.t 88) },
          { dst := some 90, op := .conv .u8 (.t 89) },
          { dst := some 91, op := .bslice ⟨1, 1⟩ [(.sc (.int .u8 0))] 3 [(0, (.t 81)), (1, (.t 86)), (2, (.t 90))] },
          { dst := some 92, op := .append ⟨1, 1⟩ (.t 77) (.t 91) },
          { dst := some 3, op := .mov (.t 92) }])
        (.reg [
          { dst := some 31, op := .mov (.t 3) },
          { dst := some 32, op := .mov (.t 5) },
          { dst := some 33, op := .bin .quo (.t 32) (.k (.sc (.int .i32 262144))) },
          { dst := some 34, op := .bin .add (.k (.sc (.int .i32 240))) (.t 33) },
          { dst := some 35, op := .conv .u8 (.t 34) },
          { dst := some 36, op := .mov (.t 5) },
          { dst := some 37, op := .bin .quo (.t 36) (.k (.sc (.int .i32 4096))) },
          { dst := some 38, op := .bin .rem (.t 37) (.k (.sc (.int .i32 64))) },
          { dst := some 39, op := .bin .add (.k (.sc (.int .i32 128))) (.t 38) },
          { dst := some 40, op := .conv .u8 (.t 39) },
          { dst := some 41, op := .mov (.t 5) },
          { dst := some 42, op := .bin .quo (.t 41) (.k (.sc (.int .i32 64))) },
          { dst := some 43, op := .bin .rem (.t 42) (.k (.sc (.int .i32 64))) },
          { dst := some 44, op := .bin .add (.k (.sc (.int .i32 128))) (.t 43) },
          { dst := some 45, op := .conv .u8 (.t 44) },
          { dst := some 46, op := .mov (.t 5) },
          { dst := some 47, op := .bin .rem (.t 46) (.k (.sc (.int .i32 64))) },
          { dst := some 48, op := .bin .add (.k (.sc (.int .i32 128))) (.t 47) },
          { dst := some 49, op := .conv .u8 (.t 48) },
          { dst := some 50, op := .bslice ⟨1, 1⟩ [(.sc (.int .u8 0))] 4 [(0, (.t 35)), (1, (.t 40)), (2, (.t 45)), (3, (.t 49))] },
          { dst := some 51, op := .append ⟨1, 1⟩ (.t 31) (.t 50) },
          { dst := some 3, op := .mov (.t 51) }])))))))))))
  (.reg [
    { dst := some 11, op := .mov (.t 4) },
    { dst := some 12, op := .bin .add (.t 11) (.k (.int 1)) },
    { dst := some 4, op := .mov (.t 12) }]))))))
  (.seq (.reg [
    { dst := some 93, op := .mov (.t 3) },
    { dst := some 94, op := .b2s (.t 93) },
    { dst := some 2, op := .mov (.t 94) }])
  .ret))))

def x_ref02_in : XC :=
(.seq (.reg [
    { dst := some 4, op := .mov (.k (.bool false)) }])
  (.seq (.seq (.reg [
    { dst := some 5, op := .mov (.k (.int 0)) }])
  (.block 0 (.loop (.seq (.seq (.reg [
    { dst := some 6, op := .mov (.t 5) },
    { dst := some 7, op := .mov (.t 0) },
    { dst := some 8, op := .len false (.t 7) },
    { dst := some 9, op := .bin .lss (.t 6) (.t 8) }])
  (.cond (.t 9)
    .skip
    (.exit 0)))
  (.seq (.block 1 (.seq (.reg [
    { dst := some 12, op := .mov (.t 1) },
    { dst := some 13, op := .mov (.t 0) },
    { dst := some 14, op := .mov (.t 5) },
    { dst := some 15, op := .iaddr ⟨2, 8⟩ (.t 13) (.t 14) },
    { dst := some 16, op := .aaddr ⟨1, 4⟩ 2 (.t 15) (.k (.int 0)) },
    { dst := some 17, op := .load 1 false (.t 16) },
    { dst := some 18, op := .bin .geq (.t 12) (.t 17) },
    { dst := some 19, op := .mov (.t 18) },
    { dst := some 20, op := .mov (.t 1), guard := some (19, true) },
    { dst := some 21, op := .mov (.t 0), guard := some (19, true) },
    { dst := some 22, op := .mov (.t 5), guard := some (19, true) },
    { dst := some 23, op := .iaddr ⟨2, 8⟩ (.t 21) (.t 22), guard := some (19, true) },
    { dst := some 24, op := .aaddr ⟨1, 4⟩ 2 (.t 23) (.k (.int 1)), guard := some (19, true) },
    { dst := some 25, op := .load 1 false (.t 24), guard := some (19, true) },
    { dst := some 26, op := .bin .leq (.t 20) (.t 25), guard := some (19, true) },
    { dst := some 27, op := .pick (.t 19) (.t 26) (.k (.bool false)) }])
  (.cond (.t 27)
    (.seq (.reg [
      { dst := some 4, op := .mov (.k (.bool true)) }])
    .ret)
    .skip)))
  (.reg [
    { dst := some 10, op := .mov (.t 5) },
    { dst := some 11, op := .bin .add (.t 10) (.k (.int 1)) },
    { dst := some 5, op := .mov (.t 11) }]))))))
  (.seq (.reg [
    { dst := some 4, op := .mov (.k (.bool false)) }])
  .ret)))

def x_ref02_Marks : XC :=
(.seq (.reg [
    { dst := some 0, op := .mov (.k .nil) }])
  (.seq (.reg [
    { dst := some 1, op := .build [(.sc (.int .i32 0)), (.sc (.int .i32 0))] [(0, 1, (.k (.sc (.int .i32 768)))), (1, 1, (.k (.sc (.int .i32 879))))] },
    { dst := some 2, op := .build [(.sc (.int .i32 0)), (.sc (.int .i32 0))] [(0, 1, (.k (.sc (.int .i32 6832)))), (1, 1, (.k (.sc (.int .i32 6911))))] },
    { dst := some 3, op := .build [(.sc (.int .i32 0)), (.sc (.int .i32 0))] [(0, 1, (.k (.sc (.int .i32 7616)))), (1, 1, (.k (.sc (.int .i32 7679))))] },
    { dst := some 4, op := .build [(.sc (.int .i32 0)), (.sc (.int .i32 0))] [(0, 1, (.k (.sc (.int .i32 8203)))), (1, 1, (.k (.sc (.int .i32 8207))))] },
    { dst := some 5, op := .build [(.sc (.int .i32 0)), (.sc (.int .i32 0))] [(0, 1, (.k (.sc (.int .i32 8400)))), (1, 1, (.k (.sc (.int .i32 8447))))] },
    { dst := some 6, op := .build [(.sc (.int .i32 0)), (.sc (.int .i32 0))] [(0, 1, (.k (.sc (.int .i32 65024)))), (1, 1, (.k (.sc (.int .i32 65039))))] },
    { dst := some 7, op := .build [(.sc (.int .i32 0)), (.sc (.int .i32 0))] [(0, 1, (.k (.sc (.int .i32 65056)))), (1, 1, (.k (.sc (.int .i32 65071))))] },
    { dst := some 8, op := .bslice ⟨2, 8⟩ [(.sc (.int .i32 0)), (.sc (.int .i32 0))] 7 [(0, (.t 1)), (1, (.t 2)), (2, (.t 3)), (3, (.t 4)), (4, (.t 5)), (5, (.t 6)), (6, (.t 7))] },
    { dst := some 0, op := .mov (.t 8) }])
  .ret))

def x_ref02_Wide : XC :=
(.seq (.reg [
    { dst := some 0, op := .mov (.k .nil) }])
  (.seq (.reg [
    { dst := some 1, op := .build [(.sc (.int .i32 0)), (.sc (.int .i32 0))] [(0, 1, (.k (.sc (.int .i32 4352)))), (1, 1, (.k (.sc (.int .i32 4447))))] },
    { dst := some 2, op := .build [(.sc (.int .i32 0)), (.sc (.int .i32 0))] [(0, 1, (.k (.sc (.int .i32 11904)))), (1, 1, (.k (.sc (.int .i32 12350))))] },
    { dst := some 3, op := .build [(.sc (.int .i32 0)), (.sc (.int .i32 0))] [(0, 1, (.k (.sc (.int .i32 12353)))), (1, 1, (.k (.sc (.int .i32 13311))))] },
    { dst := some 4, op := .build [(.sc (.int .i32 0)), (.sc (.int .i32 0))] [(0, 1, (.k (.sc (.int .i32 13312)))), (1, 1, (.k (.sc (.int .i32 19903))))] },
    { dst := some 5, op := .build [(.sc (.int .i32 0)), (.sc (.int .i32 0))] [(0, 1, (.k (.sc (.int .i32 19968)))), (1, 1, (.k (.sc (.int .i32 40959))))] },
    { dst := some 6, op := .build [(.sc (.int .i32 0)), (.sc (.int .i32 0))] [(0, 1, (.k (.sc (.int .i32 40960)))), (1, 1, (.k (.sc (.int .i32 42191))))] },
    { dst := some 7, op := .build [(.sc (.int .i32 0)), (.sc (.int .i32 0))] [(0, 1, (.k (.sc (.int .i32 44032)))), (1, 1, (.k (.sc (.int .i32 55203))))] },
    { dst := some 8, op := .build [(.sc (.int .i32 0)), (.sc (.int .i32 0))] [(0, 1, (.k (.sc (.int .i32 63744)))), (1, 1, (.k (.sc (.int .i32 64255))))] },
    { dst := some 9, op := .build [(.sc (.int .i32 0)), (.sc (.int .i32 0))] [(0, 1, (.k (.sc (.int .i32 65072)))), (1, 1, (.k (.sc (.int .i32 65135))))] },
    { dst := some 10, op := .build [(.sc (.int .i32 0)), (.sc (.int .i32 0))] [(0, 1, (.k (.sc (.int .i32 65280)))), (1, 1, (.k (.sc (.int .i32 65376))))] },
    { dst := some 11, op := .build [(.sc (.int .i32 0)), (.sc (.int .i32 0))] [(0, 1, (.k (.sc (.int .i32 65504)))), (1, 1, (.k (.sc (.int .i32 65510))))] },
    { dst := some 12, op := .build [(.sc (.int .i32 0)), (.sc (.int .i32 0))] [(0, 1, (.k (.sc (.int .i32 127744)))), (1, 1, (.k (.sc (.int .i32 128591))))] },
    { dst := some 13, op := .build [(.sc (.int .i32 0)), (.sc (.int .i32 0))] [(0, 1, (.k (.sc (.int .i32 129280)))), (1, 1, (.k (.sc (.int .i32 129535))))] },
    { dst := some 14, op := .build [(.sc (.int .i32 0)), (.sc (.int .i32 0))] [(0, 1, (.k (.sc (.int .i32 131072)))), (1, 1, (.k (.sc (.int .i32 262141))))] },
    { dst := some 15, op := .bslice ⟨2, 8⟩ [(.sc (.int .i32 0)), (.sc (.int .i32 0))] 14 [(0, (.t 1)), (1, (.t 2)), (2, (.t 3)), (3, (.t 4)), (4, (.t 5)), (5, (.t 6)), (6, (.t 7)), (7, (.t 8)), (8, (.t 9)), (9, (.t 10)), (10, (.t 11)), (11, (.t 12)), (12, (.t 13)), (13, (.t 14))] },
    { dst := some 0, op := .mov (.t 15) }])
  .ret))

def x_math_bits_Mul (f_math_bits_Mul32 f_math_bits_Mul64 : FuncId) : XC :=
(.seq (.reg [
    { dst := some 4, op := .mov (.k (.sc (.int .u64 0))) },
    { dst := some 5, op := .mov (.k (.sc (.int .u64 0))) }])
  (.seq (.cond (.k (.bool false))
    (.seq (.reg [
      { dst := some 11, op := .mov (.t 0) },
      { dst := some 12, op := .conv .u32 (.t 11) },
      { dst := some 13, op := .mov (.t 1) },
      { dst := some 14, op := .conv .u32 (.t 13) },
      { dst := some 15, op := .call (.f f_math_bits_Mul32) [(.t 12), (.t 14)] },
      { dst := some 10, op := .mov (.t 15) },
      { dst := some 16, op := .extract 0 (.t 10) },
      { dst := some 17, op := .extract 1 (.t 10) },
      { dst := some 6, op := .mov (.t 16) },
      { dst := some 7, op := .mov (.t 17) }])
    (.seq (.reg [
      { dst := some 18, op := .mov (.t 6) },
      { dst := some 19, op := .conv .u64 (.t 18) },
      { dst := some 20, op := .mov (.t 7) },
      { dst := some 21, op := .conv .u64 (.t 20) },
      { dst := some 4, op := .mov (.t 19) },
      { dst := some 5, op := .mov (.t 21) }])
    .ret))
    .skip)
  (.seq (.reg [
    { dst := some 23, op := .mov (.t 0) },
    { dst := some 24, op := .mov (.t 1) },
    { dst := some 25, op := .call (.f f_math_bits_Mul64) [(.t 23), (.t 24)] },
    { dst := some 22, op := .mov (.t 25) },
    { dst := some 26, op := .extract 0 (.t 22) },
    { dst := some 27, op := .extract 1 (.t 22) },
    { dst := some 8, op := .mov (.t 26) },
    { dst := some 9, op := .mov (.t 27) }])
  (.seq (.reg [
    { dst := some 28, op := .mov (.t 8) },
    { dst := some 29, op := .mov (.t 9) },
    { dst := some 4, op := .mov (.t 28) },
    { dst := some 5, op := .mov (.t 29) }])
  .ret))))

def x_charwidth_marks : XC :=
(.seq (.reg [
    { dst := some 0, op := .mov (.k .nil) }])
  (.seq (.reg [
    { dst := some 1, op := .build [(.sc (.int .i32 0)), (.sc (.int .i32 0))] [(0, 1, (.k (.sc (.int .i32 768)))), (1, 1, (.k (.sc (.int .i32 879))))] },
    { dst := some 2, op := .build [(.sc (.int .i32 0)), (.sc (.int .i32 0))] [(0, 1, (.k (.sc (.int .i32 6832)))), (1, 1, (.k (.sc (.int .i32 6911))))] },
    { dst := some 3, op := .build [(.sc (.int .i32 0)), (.sc (.int .i32 0))] [(0, 1, (.k (.sc (.int .i32 7616)))), (1, 1, (.k (.sc (.int .i32 7679))))] },
    { dst := some 4, op := .build [(.sc (.int .i32 0)), (.sc (.int .i32 0))] [(0, 1, (.k (.sc (.int .i32 8203)))), (1, 1, (.k (.sc (.int .i32 8207))))] },
    { dst := some 5, op := .build [(.sc (.int .i32 0)), (.sc (.int .i32 0))] [(0, 1, (.k (.sc (.int .i32 8400)))), (1, 1, (.k (.sc (.int .i32 8447))))] },
    { dst := some 6, op := .build [(.sc (.int .i32 0)), (.sc (.int .i32 0))] [(0, 1, (.k (.sc (.int .i32 65024)))), (1, 1, (.k (.sc (.int .i32 65039))))] },
    { dst := some 7, op := .build [(.sc (.int .i32 0)), (.sc (.int .i32 0))] [(0, 1, (.k (.sc (.int .i32 65056)))), (1, 1, (.k (.sc (.int .i32 65071))))] },
    { dst := some 8, op := .bslice ⟨2, 8⟩ [(.sc (.int .i32 0)), (.sc (.int .i32 0))] 7 [(0, (.t 1)), (1, (.t 2)), (2, (.t 3)), (3, (.t 4)), (4, (.t 5)), (5, (.t 6)), (6, (.t 7))] },
    { dst := some 0, op := .mov (.t 8) }])
  .ret))

def x_charwidth_finder_1 : XC :=
(.seq (.reg [
    { dst := some 3, op := .mov (.k (.bool false)) }])
  (.seq (.drw 0 [
    { dst := some 7, op := .load 1 false (.t 1) },
    { dst := some 8, op := .len false (.t 7) },
    { dst := some 4, op := .mov (.k (.int 0)) },
    { dst := some 5, op := .mov (.t 8) }])
  (.seq (.block 0 (.loop (.seq (.seq (.reg [
    { dst := some 9, op := .mov (.t 4) },
    { dst := some 10, op := .mov (.t 5) },
    { dst := some 11, op := .bin .lss (.t 9) (.t 10) }])
  (.cond (.t 11)
    .skip
    (.exit 0)))
  (.block 1 (.seq (.reg [
    { dst := some 12, op := .mov (.t 4) },
    { dst := some 13, op := .mov (.t 5) },
    { dst := some 14, op := .bin .add (.t 12) (.t 13) },
    { dst := some 15, op := .bin .quo (.t 14) (.k (.int 2)) },
    { dst := some 6, op := .mov (.t 15) }])
  (.seq (.reg [
    { dst := some 16, op := .mov (.t 0) },
    { dst := some 17, op := .load 1 false (.t 1) },
    { dst := some 18, op := .mov (.t 6) },
    { dst := some 19, op := .iaddr ⟨2, 8⟩ (.t 17) (.t 18) },
    { dst := some 20, op := .aaddr ⟨1, 4⟩ 2 (.t 19) (.k (.int 1)) },
    { dst := some 21, op := .load 1 false (.t 20) },
    { dst := some 22, op := .bin .gtr (.t 16) (.t 21) }])
  (.cond (.t 22)
    (.reg [
      { dst := some 23, op := .mov (.t 6) },
      { dst := some 24, op := .bin .add (.t 23) (.k (.int 1)) },
      { dst := some 4, op := .mov (.t 24) }])
    (.reg [
      { dst := some 25, op := .mov (.t 6) },
      { dst := some 5, op := .mov (.t 25) }]))))))))
  (.seq (.reg [
    { dst := some 26, op := .mov (.t 4) },
    { dst := some 27, op := .load 1 false (.t 1) },
    { dst := some 28, op := .len false (.t 27) },
    { dst := some 29, op := .bin .lss (.t 26) (.t 28) },
    { dst := some 30, op := .mov (.t 29) },
    { dst := some 31, op := .mov (.t 0), guard := some (30, true) },
    { dst := some 32, op := .load 1 false (.t 1), guard := some (30, true) },
    { dst := some 33, op := .mov (.t 4), guard := some (30, true) },
    { dst := some 34, op := .iaddr ⟨2, 8⟩ (.t 32) (.t 33), guard := some (30, true) },
    { dst := some 35, op := .aaddr ⟨1, 4⟩ 2 (.t 34) (.k (.int 0)), guard := some (30, true) },
    { dst := some 36, op := .load 1 false (.t 35), guard := some (30, true) },
    { dst := some 37, op := .bin .geq (.t 31) (.t 36), guard := some (30, true) },
    { dst := some 38, op := .pick (.t 30) (.t 37) (.k (.bool false)) },
    { dst := some 3, op := .mov (.t 38) }])
  .ret))))

def x_unicode_utf8_word_69 : XC :=
(.seq (.reg [
    { dst := some 2, op := .mov (.k (.sc (.int .u64 0))) }])
  (.seq (.cond (.k (.bool false))
    (.seq (.drw 0 [
      { dst := some 3, op := .mov (.t 0) },
      { dst := some 4, op := .sidx (.t 3) (.k (.int 0)) },
      { dst := some 5, op := .conv .u64 (.t 4) },
      { dst := some 6, op := .mov (.t 0) },
      { dst := some 7, op := .sidx (.t 6) (.k (.int 1)) },
      { dst := some 8, op := .conv .u64 (.t 7) },
      { dst := some 9, op := .bin .shl (.t 8) (.k (.sc (.int .u64 8))) },
      { dst := some 10, op := .bin .or (.t 5) (.t 9) },
      { dst := some 11, op := .mov (.t 0) },
      { dst := some 12, op := .sidx (.t 11) (.k (.int 2)) },
      { dst := some 13, op := .conv .u64 (.t 12) },
      { dst := some 14, op := .bin .shl (.t 13) (.k (.sc (.int .u64 16))) },
      { dst := some 15, op := .bin .or (.t 10) (.t 14) },
      { dst := some 16, op := .mov (.t 0) },
      { dst := some 17, op := .sidx (.t 16) (.k (.int 3)) },
      { dst := some 18, op := .conv .u64 (.t 17) },
      { dst := some 19, op := .bin .shl (.t 18) (.k (.sc (.int .u64 24))) },
      { dst := some 20, op := .bin .or (.t 15) (.t 19) },
      { dst := some 2, op := .mov (.t 20) }])
    .ret)
    .skip)
  (.seq (.drw 0 [
    { dst := some 21, op := .mov (.t 0) },
    { dst := some 22, op := .sidx (.t 21) (.k (.int 0)) },
    { dst := some 23, op := .conv .u64 (.t 22) },
    { dst := some 24, op := .mov (.t 0) },
    { dst := some 25, op := .sidx (.t 24) (.k (.int 1)) },
    { dst := some 26, op := .conv .u64 (.t 25) },
    { dst := some 27, op := .bin .shl (.t 26) (.k (.sc (.int .u64 8))) },
    { dst := some 28, op := .bin .or (.t 23) (.t 27) },
    { dst := some 29, op := .mov (.t 0) },
    { dst := some 30, op := .sidx (.t 29) (.k (.int 2)) },
    { dst := some 31, op := .conv .u64 (.t 30) },
    { dst := some 32, op := .bin .shl (.t 31) (.k (.sc (.int .u64 16))) },
    { dst := some 33, op := .bin .or (.t 28) (.t 32) },
    { dst := some 34, op := .mov (.t 0) },
    { dst := some 35, op := .sidx (.t 34) (.k (.int 3)) },
    { dst := some 36, op := .conv .u64 (.t 35) },
    { dst := some 37, op := .bin .shl (.t 36) (.k (.sc (.int .u64 24))) },
    { dst := some 38, op := .bin .or (.t 33) (.t 37) },
    { dst := some 39, op := .mov (.t 0) },
    { dst := some 40, op := .sidx (.t 39) (.k (.int 4)) },
    { dst := some 41, op := .conv .u64 (.t 40) },
    { dst := some 42, op := .bin .shl (.t 41) (.k (.sc (.int .u64 32))) },
    { dst := some 43, op := .bin .or (.t 38) (.t 42) },
    { dst := some 44, op := .mov (.t 0) },
    { dst := some 45, op := .sidx (.t 44) (.k (.int 5)) },
    { dst := some 46, op := .conv .u64 (.t 45) },
    { dst := some 47, op := .bin .shl (.t 46) (.k (.sc (.int .u64 40))) },
    { dst := some 48, op := .bin .or (.t 43) (.t 47) },
    { dst := some 49, op := .mov (.t 0) },
    { dst := some 50, op := .sidx (.t 49) (.k (.int 6)) },
    { dst := some 51, op := .conv .u64 (.t 50) },
    { dst := some 52, op := .bin .shl (.t 51) (.k (.sc (.int .u64 48))) },
    { dst := some 53, op := .bin .or (.t 48) (.t 52) },
    { dst := some 54, op := .mov (.t 0) },
    { dst := some 55, op := .sidx (.t 54) (.k (.int 7)) },
    { dst := some 56, op := .conv .u64 (.t 55) },
    { dst := some 57, op := .bin .shl (.t 56) (.k (.sc (.int .u64 56))) },
    { dst := some 58, op := .bin .or (.t 53) (.t 57) },
    { dst := some 2, op := .mov (.t 58) }])
  .ret)))

def x_ref01_limits : XC :=
(.seq (.reg [
    { dst := some 2, op := .mov (.k (.sc (.int .u8 0))) },
    { dst := some 3, op := .mov (.k (.sc (.int .u8 0))) },
    { dst := some 4, op := .mov (.k (.int 0)) }])
  (.seq (.seq (.reg [
    { dst := some 8, op := .mov (.t 0) },
    { dst := some 9, op := .len false (.t 8) },
    { dst := some 10, op := .bin .eql (.t 9) (.k (.int 0)) }])
  (.cond (.t 10)
    (.seq (.reg [
      { dst := some 2, op := .mov (.k (.sc (.int .u8 0))) },
      { dst := some 3, op := .mov (.k (.sc (.int .u8 255))) },
      { dst := some 4, op := .mov (.k (.int 0)) }])
    .ret)
    .skip))
  (.seq (.reg [
    { dst := some 5, op := .mov (.k (.int 0)) }])
  (.seq (.block 0 (.seq (.reg [
    { dst := some 12, op := .mov (.t 0) },
    { dst := some 13, op := .iaddr ⟨1, 1⟩ (.t 12) (.k (.int 0)) },
    { dst := some 14, op := .load 1 false (.t 13) },
    { dst := some 15, op := .bin .geq (.t 14) (.k (.sc (.int .u8 194))) },
    { dst := some 16, op := .mov (.t 15) },
    { dst := some 17, op := .mov (.t 0), guard := some (16, true) },
    { dst := some 18, op := .iaddr ⟨1, 1⟩ (.t 17) (.k (.int 0)), guard := some (16, true) },
    { dst := some 19, op := .load 1 false (.t 18), guard := some (16, true) },
    { dst := some 20, op := .bin .leq (.t 19) (.k (.sc (.int .u8 223))), guard := some (16, true) },
    { dst := some 21, op := .pick (.t 16) (.t 20) (.k (.bool false)) },
    { dst := some 11, op := .mov (.t 21) }])
  (.cond (.t 11)
    (.reg [
      { dst := some 5, op := .mov (.k (.int 2)) }])
    (.seq (.reg [
      { dst := some 23, op := .mov (.t 0) },
      { dst := some 24, op := .iaddr ⟨1, 1⟩ (.t 23) (.k (.int 0)) },
      { dst := some 25, op := .load 1 false (.t 24) },
      { dst := some 26, op := .bin .geq (.t 25) (.k (.sc (.int .u8 224))) },
      { dst := some 27, op := .mov (.t 26) },
      { dst := some 28, op := .mov (.t 0), guard := some (27, true) },
      { dst := some 29, op := .iaddr ⟨1, 1⟩ (.t 28) (.k (.int 0)), guard := some (27, true) },
      { dst := some 30, op := .load 1 false (.t 29), guard := some (27, true) },
      { dst := some 31, op := .bin .leq (.t 30) (.k (.sc (.int .u8 239))), guard := some (27, true) },
      { dst := some 32, op := .pick (.t 27) (.t 31) (.k (.bool false)) },
      { dst := some 22, op := .mov (.t 32) }])
    (.cond (.t 22)
      (.reg [
        { dst := some 5, op := .mov (.k (.int 3)) }])
      (.seq (.reg [
        { dst := some 34, op := .mov (.t 0) },
        { dst := some 35, op := .iaddr ⟨1, 1⟩ (.t 34) (.k (.int 0)) },
        { dst := some 36, op := .load 1 false (.t 35) },
        { dst := some 37, op := .bin .geq (.t 36) (.k (.sc (.int .u8 240))) },
        { dst := some 38, op := .mov (.t 37) },
        { dst := some 39, op := .mov (.t 0), guard := some (38, true) },
        { dst := some 40, op := .iaddr ⟨1, 1⟩ (.t 39) (.k (.int 0)), guard := some (38, true) },
        { dst := some 41, op := .load 1 false (.t 40), guard := some (38, true) },
        { dst := some 42, op := .bin .leq (.t 41) (.k (.sc (.int .u8 244))), guard := some (38, true) },
        { dst := some 43, op := .pick (.t 38) (.t 42) (.k (.bool false)) },
        { dst := some 33, op := .mov (.t 43) }])
      (.cond (.t 33)
        (.reg [
          { dst := some 5, op := .mov (.k (.int 4)) }])
        .skip)))))))
  (.seq (.reg [
    { dst := some 6, op := .mov (.k (.sc (.int .u8 128))) },
    { dst := some 7, op := .mov (.k (.sc (.int .u8 191))) }])
  (.seq (.seq (.reg [
    { dst := some 44, op := .mov (.t 0) },
    { dst := some 45, op := .len false (.t 44) },
    { dst := some 46, op := .bin .eql (.t 45) (.k (.int 1)) }])
  (.cond (.t 46)
    (.seq (.reg [
      { dst := some 47, op := .mov (.t 0) },
      { dst := some 48, op := .iaddr ⟨1, 1⟩ (.t 47) (.k (.int 0)) },
      { dst := some 49, op := .load 1 false (.t 48) }])
    (.block 1 (.seq (.reg [
      { dst := some 51, op := .bin .eql (.t 49) (.k (.sc (.int .u8 224))) },
      { dst := some 50, op := .mov (.t 51) }])
    (.cond (.t 50)
      (.reg [
        { dst := some 6, op := .mov (.k (.sc (.int .u8 160))) }])
      (.seq (.reg [
        { dst := some 53, op := .bin .eql (.t 49) (.k (.sc (.int .u8 237))) },
        { dst := some 52, op := .mov (.t 53) }])
      (.cond (.t 52)
        (.reg [
          { dst := some 7, op := .mov (.k (.sc (.int .u8 159))) }])
        (.seq (.reg [
          { dst := some 55, op := .bin .eql (.t 49) (.k (.sc (.int .u8 240))) },
          { dst := some 54, op := .mov (.t 55) }])
        (.cond (.t 54)
          (.reg [
            { dst := some 6, op := .mov (.k (.sc (.int .u8 144))) }])
          (.seq (.reg [
            { dst := some 57, op := .bin .eql (.t 49) (.k (.sc (.int .u8 244))) },
            { dst := some 56, op := .mov (.t 57) }])
          (.cond (.t 56)
            (.reg [
              { dst := some 7, op := .mov (.k (.sc (.int .u8 143))) }])
            .skip))))))))))
    .skip))
  (.seq (.reg [
    { dst := some 58, op := .mov (.t 6) },
    { dst := some 59, op := .mov (.t 7) },
    { dst := some 60, op := .mov (.t 5) },
    { dst := some 2, op := .mov (.t 58) },
    { dst := some 3, op := .mov (.t 59) },
    { dst := some 4, op := .mov (.t 60) }])
  .ret)))))))

def x_ref01_value : XC :=
(.seq (.reg [
    { dst := some 2, op := .mov (.k (.sc (.int .i32 0))) }])
  (.seq (.reg [
    { dst := some 3, op := .mov (.k (.sc (.int .i32 0))) }])
  (.seq (.seq (.reg [
    { dst := some 5, op := .mov (.t 0) },
    { dst := some 6, op := .len false (.t 5) }])
  (.block 0 (.seq (.reg [
    { dst := some 8, op := .bin .eql (.t 6) (.k (.int 2)) },
    { dst := some 7, op := .mov (.t 8) }])
  (.cond (.t 7)
    (.reg [
      { dst := some 9, op := .mov (.t 0) },
      { dst := some 10, op := .iaddr ⟨1, 1⟩ (.t 9) (.k (.int 0)) },
      { dst := some 11, op := .load 1 false (.t 10) },
      { dst := some 12, op := .conv .i32 (.t 11) },
      { dst := some 13, op := .bin .sub (.t 12) (.k (.sc (.int .i32 192))) },
      { dst := some 3, op := .mov (.t 13) }])
    (.seq (.reg [
      { dst := some 15, op := .bin .eql (.t 6) (.k (.int 3)) },
      { dst := some 14, op := .mov (.t 15) }])
    (.cond (.t 14)
      (.reg [
        { dst := some 16, op := .mov (.t 0) },
        { dst := some 17, op := .iaddr ⟨1, 1⟩ (.t 16) (.k (.int 0)) },
        { dst := some 18, op := .load 1 false (.t 17) },
        { dst := some 19, op := .conv .i32 (.t 18) },
        { dst := some 20, op := .bin .sub (.t 19) (.k (.sc (.int .i32 224))) },
        { dst := some 3, op := .mov (.t 20) }])
      (.seq (.reg [
        { dst := some 22, op := .bin .eql (.t 6) (.k (.int 4)) },
        { dst := some 21, op := .mov (.t 22) }])
      (.cond (.t 21)
        (.reg [
          { dst := some 23, op := .mov (.t 0) },
          { dst := some 24, op := .iaddr ⟨1, 1⟩ (.t 23) (.k (.int 0)) },
          { dst := some 25, op := .load 1 false (.t 24) },
          { dst := some 26, op := .conv .i32 (.t 25) },
          { dst := some 27, op := .bin .sub (.t 26) (.k (.sc (.int .i32 240))) },
          { dst := some 3, op := .mov (.t 27) }])
        .skip))))))))
  (.seq (.seq (.reg [
    { dst := some 4, op := .mov (.k (.int 1)) }])
  (.block 1 (.loop (.seq (.seq (.reg [
    { dst := some 28, op := .mov (.t 4) },
    { dst := some 29, op := .mov (.t 0) },
    { dst := some 30, op := .len false (.t 29) },
    { dst := some 31, op := .bin .lss (.t 28) (.t 30) }])
  (.cond (.t 31)
    .skip
    (.exit 1)))
  (.seq (.block 2 (.reg [
    { dst := some 34, op := .mov (.t 3) },
    { dst := some 35, op := .bin .mul (.t 34) (.k (.sc (.int .i32 64))) },
    { dst := some 36, op := .mov (.t 0) },
    { dst := some 37, op := .mov (.t 4) },
    { dst := some 38, op := .iaddr ⟨1, 1⟩ (.t 36) (.t 37) },
    { dst := some 39, op := .load 1 false (.t 38) },
    { dst := some 40, op := .conv .i32 (.t 39) },
    { dst := some 41, op := .bin .add (.t 35) (.t 40) },
    { dst := some 42, op := .bin .sub (.t 41) (.k (.sc (.int .i32 128))) },
    { dst := some 3, op := .mov (.t 42) }]))
  (.reg [
    { dst := some 32, op := .mov (.t 4) },
    { dst := some 33, op := .bin .add (.t 32) (.k (.int 1)) },
    { dst := some 4, op := .mov (.t 33) }]))))))
  (.seq (.reg [
    { dst := some 43, op := .mov (.t 3) },
    { dst := some 2, op := .mov (.t 43) }])
  .ret)))))

def x_math_bits_Mul32 : XC :=
(.seq (.reg [
    { dst := some 4, op := .mov (.k (.sc (.int .u32 0))) },
    { dst := some 5, op := .mov (.k (.sc (.int .u32 0))) }])
  (.seq (.reg [
    { dst := some 7, op := .mov (.t 0) },
    { dst := some 8, op := .conv .u64 (.t 7) },
    { dst := some 9, op := .mov (.t 1) },
    { dst := some 10, op := .conv .u64 (.t 9) },
    { dst := some 11, op := .bin .mul (.t 8) (.t 10) },
    { dst := some 6, op := .mov (.t 11) }])
  (.seq (.reg [
    { dst := some 12, op := .mov (.t 6) },
    { dst := some 13, op := .bin .shr (.t 12) (.k (.sc (.int .u64 32))) },
    { dst := some 14, op := .conv .u32 (.t 13) },
    { dst := some 15, op := .mov (.t 6) },
    { dst := some 16, op := .conv .u32 (.t 15) },
    { dst := some 4, op := .mov (.t 14) },
    { dst := some 5, op := .mov (.t 16) }])
  .ret)))

def x_math_bits_Mul64 : XC :=
(.seq (.reg [
    { dst := some 4, op := .mov (.k (.sc (.int .u64 0))) },
    { dst := some 5, op := .mov (.k (.sc (.int .u64 0))) }])
  (.seq (.reg [
    { dst := some 14, op := .mov (.t 0) },
    { dst := some 15, op := .bin .and (.t 14) (.k (.sc (.int .u64 4294967295))) },
    { dst := some 6, op := .mov (.t 15) }])
  (.seq (.reg [
    { dst := some 16, op := .mov (.t 0) },
    { dst := some 17, op := .bin .shr (.t 16) (.k (.sc (.int .u64 32))) },
    { dst := some 7, op := .mov (.t 17) }])
  (.seq (.reg [
    { dst := some 18, op := .mov (.t 1) },
    { dst := some 19, op := .bin .and (.t 18) (.k (.sc (.int .u64 4294967295))) },
    { dst := some 8, op := .mov (.t 19) }])
  (.seq (.reg [
    { dst := some 20, op := .mov (.t 1) },
    { dst := some 21, op := .bin .shr (.t 20) (.k (.sc (.int .u64 32))) },
    { dst := some 9, op := .mov (.t 21) }])
  (.seq (.reg [
    { dst := some 22, op := .mov (.t 6) },
    { dst := some 23, op := .mov (.t 8) },
    { dst := some 24, op := .bin .mul (.t 22) (.t 23) },
    { dst := some 10, op := .mov (.t 24) }])
  (.seq (.reg [
    { dst := some 25, op := .mov (.t 7) },
    { dst := some 26, op := .mov (.t 8) },
    { dst := some 27, op := .bin .mul (.t 25) (.t 26) },
    { dst := some 28, op := .mov (.t 10) },
    { dst := some 29, op := .bin .shr (.t 28) (.k (.sc (.int .u64 32))) },
    { dst := some 30, op := .bin .add (.t 27) (.t 29) },
    { dst := some 11, op := .mov (.t 30) }])
  (.seq (.reg [
    { dst := some 31, op := .mov (.t 11) },
    { dst := some 32, op := .bin .and (.t 31) (.k (.sc (.int .u64 4294967295))) },
    { dst := some 12, op := .mov (.t 32) }])
  (.seq (.reg [
    { dst := some 33, op := .mov (.t 11) },
    { dst := some 34, op := .bin .shr (.t 33) (.k (.sc (.int .u64 32))) },
    { dst := some 13, op := .mov (.t 34) }])
  (.seq (.reg [
    { dst := some 35, op := .mov (.t 12) },
    { dst := some 36, op := .mov (.t 6) },
    { dst := some 37, op := .mov (.t 9) },
    { dst := some 38, op := .bin .mul (.t 36) (.t 37) },
    { dst := some 39, op := .bin .add (.t 35) (.t 38) },
    { dst := some 12, op := .mov (.t 39) }])
  (.seq (.reg [
    { dst := some 40, op := .mov (.t 7) },
    { dst := some 41, op := .mov (.t 9) },
    { dst := some 42, op := .bin .mul (.t 40) (.t 41) },
    { dst := some 43, op := .mov (.t 13) },
    { dst := some 44, op := .bin .add (.t 42) (.t 43) },
    { dst := some 45, op := .mov (.t 12) },
    { dst := some 46, op := .bin .shr (.t 45) (.k (.sc (.int .u64 32))) },
    { dst := some 47, op := .bin .add (.t 44) (.t 46) },
    { dst := some 4, op := .mov (.t 47) }])
  (.seq (.reg [
    { dst := some 48, op := .mov (.t 0) },
    { dst := some 49, op := .mov (.t 1) },
    { dst := some 50, op := .bin .mul (.t 48) (.t 49) },
    { dst := some 5, op := .mov (.t 50) }])
  .ret))))))))))))

end Go.Proofs.YtckglkbbdbmdkaaDoor.Nx
