/- The statement's code. Printed by a program. -/
import Derived.Test.YtknmhbbmopnfjaaDoorNxD15
namespace Go.Proofs.YtknmhbbmopnfjaaDoor.Nx
set_option linter.unusedSimpArgs false
set_option linter.unusedVariables false
set_option linter.unnecessarySimpa false
open Go

def x_law19_ChangeProper (f_law19_great f_law19_awake f_change_Apply f_ref15_Same f_view_Check : FuncId) : XC :=
(.seq (.reg [
    { dst := some 2, op := .box ⟨6, 64⟩ (.t 0) },
    { dst := some 4, op := .mov (.k (.bool false)) }])
  (.seq (.seq (.reg [
    { dst := some 8, op := .load 6 true (.t 2) },
    { dst := some 9, op := .mov (.t 1) },
    { dst := some 10, op := .call (.f f_law19_great) [(.t 8), (.t 9)] }])
  (.cond (.t 10)
    (.seq (.reg [
      { dst := some 11, op := .call (.f f_law19_awake) [] },
      { dst := some 4, op := .mov (.t 11) }])
    .ret)
    .skip))
  (.seq (.reg [
    { dst := some 13, op := .load 6 true (.t 2) },
    { dst := some 14, op := .mov (.t 1) },
    { dst := some 15, op := .call (.f f_change_Apply) [(.t 13), (.t 14)] },
    { dst := some 12, op := .mov (.t 15) },
    { dst := some 16, op := .extract 0 (.t 12) },
    { dst := some 17, op := .extract 1 (.t 12) },
    { dst := some 18, op := .extract 2 (.t 12) },
    { dst := some 5, op := .alloc ⟨6, 64⟩ [(.int 0), (.int 0), .nil, (.int 0), (.int 0), (.bool false)] },
    { dst := none, op := .store 6 (.t 5) (.t 16) },
    { dst := some 6, op := .mov (.t 17) },
    { dst := some 7, op := .mov (.t 18) }])
  (.seq (.seq (.reg [
    { dst := some 19, op := .mov (.t 7) },
    { dst := some 20, op := .bin .neq (.t 19) (.k (.int 0)) }])
  (.cond (.t 20)
    (.seq (.reg [
      { dst := some 21, op := .load 6 true (.t 5) },
      { dst := some 22, op := .build [(.int 0), (.int 0), .nil, (.int 0), (.int 0), (.bool false)] [] },
      { dst := some 23, op := .call (.f f_ref15_Same) [(.t 21), (.t 22)] },
      { dst := some 24, op := .mov (.t 23) },
      { dst := some 25, op := .mov (.t 6), guard := some (24, true) },
      { dst := some 26, op := .bin .geq (.t 25) (.k (.int 0)), guard := some (24, true) },
      { dst := some 27, op := .pick (.t 24) (.t 26) (.k (.bool false)) },
      { dst := some 28, op := .mov (.t 27) },
      { dst := some 29, op := .mov (.t 6), guard := some (28, true) },
      { dst := some 30, op := .mov (.t 1), guard := some (28, true) },
      { dst := some 31, op := .len false (.t 30), guard := some (28, true) },
      { dst := some 32, op := .bin .leq (.t 29) (.t 31), guard := some (28, true) },
      { dst := some 33, op := .pick (.t 28) (.t 32) (.k (.bool false)) },
      { dst := some 34, op := .mov (.t 33) },
      { dst := some 35, op := .call (.f f_law19_awake) [], guard := some (34, true) },
      { dst := some 36, op := .pick (.t 34) (.t 35) (.k (.bool false)) },
      { dst := some 4, op := .mov (.t 36) }])
    .ret)
    .skip))
  (.seq (.reg [
    { dst := some 37, op := .load 6 true (.t 2) },
    { dst := some 38, op := .call (.f f_view_Check) [(.t 37)] },
    { dst := some 39, op := .bin .eql (.t 38) (.k (.int 0)) },
    { dst := some 40, op := .mov (.t 39) },
    { dst := some 41, op := .load 6 true (.t 5), guard := some (40, true) },
    { dst := some 42, op := .call (.f f_view_Check) [(.t 41)], guard := some (40, true) },
    { dst := some 43, op := .bin .eql (.t 42) (.k (.int 0)), guard := some (40, true) },
    { dst := some 44, op := .pick (.t 40) (.t 43) (.k (.bool false)) },
    { dst := some 45, op := .mov (.t 44) },
    { dst := some 46, op := .mov (.t 6), guard := some (45, true) },
    { dst := some 47, op := .bin .eql (.t 46) (.k (.int 0)), guard := some (45, true) },
    { dst := some 48, op := .pick (.t 45) (.t 47) (.k (.bool false)) },
    { dst := some 49, op := .mov (.t 48) },
    { dst := some 50, op := .call (.f f_law19_awake) [], guard := some (49, true) },
    { dst := some 51, op := .pick (.t 49) (.t 50) (.k (.bool false)) },
    { dst := some 4, op := .mov (.t 51) }])
  .ret)))))

end Go.Proofs.YtknmhbbmopnfjaaDoor.Nx
