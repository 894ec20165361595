/- The statement's code. Printed by a program. -/
import Derived.Test.YtknmhbbmopnfjaaDoorNxD15
namespace Go.Proofs.YtknmhbbmopnfjaaDoor.Nx
set_option linter.unusedSimpArgs false
set_option linter.unusedVariables false
set_option linter.unnecessarySimpa false
open Go

def x_law19_ChangeNothing (f_ref15_Great f_law19_awake f_change_Apply f_change_Inverse f_view_Check f_view_Equal f_change_Rows : FuncId) : XC :=
(.seq (.reg [
    { dst := some 1, op := .box ⟨6, 64⟩ (.t 0) },
    { dst := some 2, op := .mov (.k (.bool false)) }])
  (.seq (.seq (.reg [
    { dst := some 11, op := .load 6 true (.t 1) },
    { dst := some 12, op := .call (.f f_ref15_Great) [(.t 11)] }])
  (.cond (.t 12)
    (.seq (.reg [
      { dst := some 13, op := .call (.f f_law19_awake) [] },
      { dst := some 2, op := .mov (.t 13) }])
    .ret)
    .skip))
  (.seq (.reg [
    { dst := some 15, op := .load 6 true (.t 1) },
    { dst := some 16, op := .call (.f f_change_Apply) [(.t 15), (.k .nil)] },
    { dst := some 14, op := .mov (.t 16) },
    { dst := some 17, op := .extract 0 (.t 14) },
    { dst := some 18, op := .extract 1 (.t 14) },
    { dst := some 19, op := .extract 2 (.t 14) },
    { dst := some 3, op := .alloc ⟨6, 64⟩ [(.int 0), (.int 0), .nil, (.int 0), (.int 0), (.bool false)] },
    { dst := none, op := .store 6 (.t 3) (.t 17) },
    { dst := some 4, op := .mov (.t 18) },
    { dst := some 5, op := .mov (.t 19) }])
  (.seq (.reg [
    { dst := some 21, op := .load 6 true (.t 1) },
    { dst := some 22, op := .call (.f f_change_Inverse) [(.t 21), (.k .nil)] },
    { dst := some 20, op := .mov (.t 22) },
    { dst := some 23, op := .extract 0 (.t 20) },
    { dst := some 24, op := .extract 1 (.t 20) },
    { dst := some 6, op := .mov (.t 23) },
    { dst := some 7, op := .mov (.t 24) }])
  (.seq (.seq (.reg [
    { dst := some 25, op := .load 6 true (.t 1) },
    { dst := some 26, op := .call (.f f_view_Check) [(.t 25)] },
    { dst := some 27, op := .bin .neq (.t 26) (.k (.int 0)) }])
  (.cond (.t 27)
    (.seq (.reg [
      { dst := some 28, op := .mov (.t 5) },
      { dst := some 29, op := .bin .eql (.t 28) (.k (.int 1)) },
      { dst := some 30, op := .mov (.t 29) },
      { dst := some 31, op := .mov (.t 7), guard := some (30, true) },
      { dst := some 32, op := .bin .eql (.t 31) (.k (.int 1)), guard := some (30, true) },
      { dst := some 33, op := .pick (.t 30) (.t 32) (.k (.bool false)) },
      { dst := some 34, op := .mov (.t 33) },
      { dst := some 35, op := .mov (.t 4), guard := some (34, true) },
      { dst := some 36, op := .bin .eql (.t 35) (.k (.int 0)), guard := some (34, true) },
      { dst := some 37, op := .pick (.t 34) (.t 36) (.k (.bool false)) },
      { dst := some 38, op := .mov (.t 37) },
      { dst := some 39, op := .call (.f f_law19_awake) [], guard := some (38, true) },
      { dst := some 40, op := .pick (.t 38) (.t 39) (.k (.bool false)) },
      { dst := some 2, op := .mov (.t 40) }])
    .ret)
    .skip))
  (.seq (.reg [
    { dst := some 42, op := .load 6 true (.t 1) },
    { dst := some 43, op := .mov (.t 6) },
    { dst := some 44, op := .call (.f f_change_Apply) [(.t 42), (.t 43)] },
    { dst := some 41, op := .mov (.t 44) },
    { dst := some 45, op := .extract 0 (.t 41) },
    { dst := some 46, op := .extract 1 (.t 41) },
    { dst := some 47, op := .extract 2 (.t 41) },
    { dst := some 8, op := .alloc ⟨6, 64⟩ [(.int 0), (.int 0), .nil, (.int 0), (.int 0), (.bool false)] },
    { dst := none, op := .store 6 (.t 8) (.t 45) },
    { dst := some 9, op := .mov (.t 46) },
    { dst := some 10, op := .mov (.t 47) }])
  (.seq (.reg [
    { dst := some 48, op := .mov (.t 5) },
    { dst := some 49, op := .bin .eql (.t 48) (.k (.int 0)) },
    { dst := some 50, op := .mov (.t 49) },
    { dst := some 51, op := .mov (.t 7), guard := some (50, true) },
    { dst := some 52, op := .bin .eql (.t 51) (.k (.int 0)), guard := some (50, true) },
    { dst := some 53, op := .pick (.t 50) (.t 52) (.k (.bool false)) },
    { dst := some 54, op := .mov (.t 53) },
    { dst := some 55, op := .mov (.t 10), guard := some (54, true) },
    { dst := some 56, op := .bin .eql (.t 55) (.k (.int 0)), guard := some (54, true) },
    { dst := some 57, op := .pick (.t 54) (.t 56) (.k (.bool false)) },
    { dst := some 58, op := .mov (.t 57) },
    { dst := some 59, op := .mov (.t 4), guard := some (58, true) },
    { dst := some 60, op := .bin .eql (.t 59) (.k (.int 0)), guard := some (58, true) },
    { dst := some 61, op := .pick (.t 58) (.t 60) (.k (.bool false)) },
    { dst := some 62, op := .mov (.t 61) },
    { dst := some 63, op := .load 6 true (.t 3), guard := some (62, true) },
    { dst := some 64, op := .load 6 true (.t 1), guard := some (62, true) },
    { dst := some 65, op := .call (.f f_view_Equal) [(.t 63), (.t 64)], guard := some (62, true) },
    { dst := some 66, op := .pick (.t 62) (.t 65) (.k (.bool false)) },
    { dst := some 67, op := .mov (.t 66) },
    { dst := some 68, op := .load 6 true (.t 8), guard := some (67, true) },
    { dst := some 69, op := .load 6 true (.t 1), guard := some (67, true) },
    { dst := some 70, op := .call (.f f_view_Equal) [(.t 68), (.t 69)], guard := some (67, true) },
    { dst := some 71, op := .pick (.t 67) (.t 70) (.k (.bool false)) },
    { dst := some 72, op := .mov (.t 71) },
    { dst := some 73, op := .load 6 true (.t 1), guard := some (72, true) },
    { dst := some 74, op := .call (.f f_change_Rows) [(.t 73), (.k .nil)], guard := some (72, true) },
    { dst := some 75, op := .len false (.t 74), guard := some (72, true) },
    { dst := some 76, op := .bin .eql (.t 75) (.k (.int 0)), guard := some (72, true) },
    { dst := some 77, op := .pick (.t 72) (.t 76) (.k (.bool false)) },
    { dst := some 78, op := .mov (.t 77) },
    { dst := some 79, op := .call (.f f_law19_awake) [], guard := some (78, true) },
    { dst := some 80, op := .pick (.t 78) (.t 79) (.k (.bool false)) },
    { dst := some 2, op := .mov (.t 80) }])
  .ret)))))))

end Go.Proofs.YtknmhbbmopnfjaaDoor.Nx
