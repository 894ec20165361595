/- The statement's code. Printed by a program. -/
import Derived.Test.YtknmhbbmopnfjaaDoorNxD15
namespace Go.Proofs.YtknmhbbmopnfjaaDoor.Nx
set_option linter.unusedSimpArgs false
set_option linter.unusedVariables false
set_option linter.unnecessarySimpa false
open Go

def x_law19_ChangeScroll (f_ref15_Great f_change_Check f_law19_awake f_change_Apply f_ref15_SameRow : FuncId) : XC :=
(.seq (.reg [
    { dst := some 4, op := .box ⟨6, 64⟩ (.t 0) },
    { dst := some 8, op := .mov (.k (.bool false)) }])
  (.seq (.reg [
    { dst := some 15, op := .mov (.t 1) },
    { dst := some 16, op := .mov (.t 2) },
    { dst := some 17, op := .mov (.t 3) },
    { dst := some 18, op := .build [(.int 0), (.int 0), (.int 0), (.int 0), (.int 0), .nil] [(0, 1, (.k (.int 2))), (1, 1, (.t 15)), (4, 1, (.t 16)), (3, 1, (.t 17))] },
    { dst := some 9, op := .alloc ⟨6, 64⟩ [(.int 0), (.int 0), (.int 0), (.int 0), (.int 0), .nil] },
    { dst := none, op := .store 6 (.t 9) (.t 18) }])
  (.seq (.seq (.reg [
    { dst := some 19, op := .load 6 true (.t 4) },
    { dst := some 20, op := .call (.f f_ref15_Great) [(.t 19)] },
    { dst := some 21, op := .mov (.t 20) },
    { dst := some 22, op := .load 6 true (.t 4), guard := some (21, false) },
    { dst := some 23, op := .load 6 true (.t 9), guard := some (21, false) },
    { dst := some 24, op := .call (.f f_change_Check) [(.t 22), (.t 23)], guard := some (21, false) },
    { dst := some 25, op := .bin .neq (.t 24) (.k (.int 0)), guard := some (21, false) },
    { dst := some 26, op := .pick (.t 21) (.k (.bool true)) (.t 25) }])
  (.cond (.t 26)
    (.seq (.reg [
      { dst := some 27, op := .call (.f f_law19_awake) [] },
      { dst := some 8, op := .mov (.t 27) }])
    .ret)
    .skip))
  (.seq (.reg [
    { dst := some 29, op := .load 6 true (.t 4) },
    { dst := some 30, op := .load 6 true (.t 9) },
    { dst := some 31, op := .bslice ⟨6, 64⟩ [(.int 0), (.int 0), (.int 0), (.int 0), (.int 0), .nil] 1 [(0, (.t 30))] },
    { dst := some 32, op := .call (.f f_change_Apply) [(.t 29), (.t 31)] },
    { dst := some 28, op := .mov (.t 32) },
    { dst := some 33, op := .extract 0 (.t 28) },
    { dst := some 34, op := .extract 1 (.t 28) },
    { dst := some 35, op := .extract 2 (.t 28) },
    { dst := some 10, op := .alloc ⟨6, 64⟩ [(.int 0), (.int 0), .nil, (.int 0), (.int 0), (.bool false)] },
    { dst := none, op := .store 6 (.t 10) (.t 33) },
    { dst := some 11, op := .mov (.t 34) },
    { dst := some 12, op := .mov (.t 35) }])
  (.seq (.seq (.reg [
    { dst := some 36, op := .mov (.t 12) },
    { dst := some 37, op := .bin .neq (.t 36) (.k (.int 0)) },
    { dst := some 38, op := .mov (.t 37) },
    { dst := some 39, op := .faddr 3 (.t 10), guard := some (38, false) },
    { dst := some 40, op := .load 1 false (.t 39), guard := some (38, false) },
    { dst := some 41, op := .faddr 3 (.t 4), guard := some (38, false) },
    { dst := some 42, op := .load 1 false (.t 41), guard := some (38, false) },
    { dst := some 43, op := .bin .neq (.t 40) (.t 42), guard := some (38, false) },
    { dst := some 44, op := .pick (.t 38) (.k (.bool true)) (.t 43) },
    { dst := some 45, op := .mov (.t 44) },
    { dst := some 46, op := .faddr 4 (.t 10), guard := some (45, false) },
    { dst := some 47, op := .load 1 false (.t 46), guard := some (45, false) },
    { dst := some 48, op := .faddr 4 (.t 4), guard := some (45, false) },
    { dst := some 49, op := .load 1 false (.t 48), guard := some (45, false) },
    { dst := some 50, op := .bin .neq (.t 47) (.t 49), guard := some (45, false) },
    { dst := some 51, op := .pick (.t 45) (.k (.bool true)) (.t 50) },
    { dst := some 52, op := .mov (.t 51) },
    { dst := some 53, op := .faddr 5 (.t 10), guard := some (52, false) },
    { dst := some 54, op := .load 1 false (.t 53), guard := some (52, false) },
    { dst := some 55, op := .faddr 5 (.t 4), guard := some (52, false) },
    { dst := some 56, op := .load 1 false (.t 55), guard := some (52, false) },
    { dst := some 57, op := .eqb true (.t 54) (.t 56), guard := some (52, false) },
    { dst := some 58, op := .pick (.t 52) (.k (.bool true)) (.t 57) },
    { dst := some 59, op := .mov (.t 58) },
    { dst := some 60, op := .faddr 2 (.t 10), guard := some (59, false) },
    { dst := some 61, op := .load 1 false (.t 60), guard := some (59, false) },
    { dst := some 62, op := .len false (.t 61), guard := some (59, false) },
    { dst := some 63, op := .faddr 2 (.t 4), guard := some (59, false) },
    { dst := some 64, op := .load 1 false (.t 63), guard := some (59, false) },
    { dst := some 65, op := .len false (.t 64), guard := some (59, false) },
    { dst := some 66, op := .bin .neq (.t 62) (.t 65), guard := some (59, false) },
    { dst := some 67, op := .pick (.t 59) (.k (.bool true)) (.t 66) }])
  (.cond (.t 67)
    (.seq (.reg [
      { dst := some 8, op := .mov (.k (.bool false)) }])
    .ret)
    .skip))
  (.seq (.seq (.reg [
    { dst := some 13, op := .mov (.k (.int 0)) }])
  (.block 0 (.loop (.seq (.seq (.reg [
    { dst := some 68, op := .mov (.t 13) },
    { dst := some 69, op := .faddr 2 (.t 4) },
    { dst := some 70, op := .load 1 false (.t 69) },
    { dst := some 71, op := .len false (.t 70) },
    { dst := some 72, op := .bin .lss (.t 68) (.t 71) }])
  (.cond (.t 72)
    .skip
    (.exit 0)))
  (.seq (.block 1 (.seq (.reg [
    { dst := some 14, op := .mov (.k .nil) }])
  (.seq (.seq (.reg [
    { dst := some 75, op := .mov (.t 13) },
    { dst := some 76, op := .mov (.t 1) },
    { dst := some 77, op := .bin .lss (.t 75) (.t 76) },
    { dst := some 78, op := .mov (.t 77) },
    { dst := some 79, op := .mov (.t 13), guard := some (78, false) },
    { dst := some 80, op := .mov (.t 2), guard := some (78, false) },
    { dst := some 81, op := .bin .geq (.t 79) (.t 80), guard := some (78, false) },
    { dst := some 82, op := .pick (.t 78) (.k (.bool true)) (.t 81) }])
  (.cond (.t 82)
    (.reg [
      { dst := some 83, op := .faddr 2 (.t 4) },
      { dst := some 84, op := .load 1 false (.t 83) },
      { dst := some 85, op := .mov (.t 13) },
      { dst := some 86, op := .iaddr ⟨1, 24⟩ (.t 84) (.t 85) },
      { dst := some 87, op := .load 1 false (.t 86) },
      { dst := some 14, op := .mov (.t 87) }])
    (.seq (.reg [
      { dst := some 88, op := .mov (.t 13) },
      { dst := some 89, op := .mov (.t 3) },
      { dst := some 90, op := .bin .add (.t 88) (.t 89) },
      { dst := some 91, op := .mov (.t 1) },
      { dst := some 92, op := .bin .geq (.t 90) (.t 91) },
      { dst := some 93, op := .mov (.t 92) },
      { dst := some 94, op := .mov (.t 13), guard := some (93, true) },
      { dst := some 95, op := .mov (.t 3), guard := some (93, true) },
      { dst := some 96, op := .bin .add (.t 94) (.t 95), guard := some (93, true) },
      { dst := some 97, op := .mov (.t 2), guard := some (93, true) },
      { dst := some 98, op := .bin .lss (.t 96) (.t 97), guard := some (93, true) },
      { dst := some 99, op := .pick (.t 93) (.t 98) (.k (.bool false)) }])
    (.cond (.t 99)
      (.reg [
        { dst := some 100, op := .faddr 2 (.t 4) },
        { dst := some 101, op := .load 1 false (.t 100) },
        { dst := some 102, op := .mov (.t 13) },
        { dst := some 103, op := .mov (.t 3) },
        { dst := some 104, op := .bin .add (.t 102) (.t 103) },
        { dst := some 105, op := .iaddr ⟨1, 24⟩ (.t 101) (.t 104) },
        { dst := some 106, op := .load 1 false (.t 105) },
        { dst := some 14, op := .mov (.t 106) }])
      .skip))))
  (.seq (.reg [
    { dst := some 107, op := .faddr 2 (.t 10) },
    { dst := some 108, op := .load 1 false (.t 107) },
    { dst := some 109, op := .mov (.t 13) },
    { dst := some 110, op := .iaddr ⟨1, 24⟩ (.t 108) (.t 109) },
    { dst := some 111, op := .load 1 false (.t 110) },
    { dst := some 112, op := .mov (.t 14) },
    { dst := some 113, op := .call (.f f_ref15_SameRow) [(.t 111), (.t 112)] },
    { dst := some 114, op := .un .not (.t 113) }])
  (.cond (.t 114)
    (.seq (.reg [
      { dst := some 8, op := .mov (.k (.bool false)) }])
    .ret)
    .skip)))))
  (.reg [
    { dst := some 73, op := .mov (.t 13) },
    { dst := some 74, op := .bin .add (.t 73) (.k (.int 1)) },
    { dst := some 13, op := .mov (.t 74) }]))))))
  (.seq (.reg [
    { dst := some 115, op := .call (.f f_law19_awake) [] },
    { dst := some 8, op := .mov (.t 115) }])
  .ret)))))))

end Go.Proofs.YtknmhbbmopnfjaaDoor.Nx
