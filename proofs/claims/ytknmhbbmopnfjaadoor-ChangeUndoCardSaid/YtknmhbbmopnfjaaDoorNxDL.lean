/- The statement's code. Printed by a program. -/
import Derived.Test.YtknmhbbmopnfjaaDoorNxD15
namespace Go.Proofs.YtknmhbbmopnfjaaDoor.Nx
set_option linter.unusedSimpArgs false
set_option linter.unusedVariables false
set_option linter.unnecessarySimpa false
open Go

def x_law19_ChangeUndo (f_law19_great f_law19_awake f_change_Apply f_change_Inverse f_view_Equal : FuncId) : XC :=
(.seq (.reg [
    { dst := some 2, op := .box ⟨6, 64⟩ (.t 0) },
    { dst := some 4, op := .mov (.k (.bool false)) }])
  (.seq (.seq (.reg [
    { dst := some 13, op := .load 6 true (.t 2) },
    { dst := some 14, op := .mov (.t 1) },
    { dst := some 15, op := .call (.f f_law19_great) [(.t 13), (.t 14)] }])
  (.cond (.t 15)
    (.seq (.reg [
      { dst := some 16, op := .call (.f f_law19_awake) [] },
      { dst := some 4, op := .mov (.t 16) }])
    .ret)
    .skip))
  (.seq (.reg [
    { dst := some 18, op := .load 6 true (.t 2) },
    { dst := some 19, op := .mov (.t 1) },
    { dst := some 20, op := .call (.f f_change_Apply) [(.t 18), (.t 19)] },
    { dst := some 17, op := .mov (.t 20) },
    { dst := some 21, op := .extract 0 (.t 17) },
    { dst := some 22, op := .extract 1 (.t 17) },
    { dst := some 23, op := .extract 2 (.t 17) },
    { dst := some 5, op := .alloc ⟨6, 64⟩ [(.int 0), (.int 0), .nil, (.int 0), (.int 0), (.bool false)] },
    { dst := none, op := .store 6 (.t 5) (.t 21) },
    { dst := some 6, op := .mov (.t 22) },
    { dst := some 7, op := .mov (.t 23) }])
  (.seq (.reg [
    { dst := some 25, op := .load 6 true (.t 2) },
    { dst := some 26, op := .mov (.t 1) },
    { dst := some 27, op := .call (.f f_change_Inverse) [(.t 25), (.t 26)] },
    { dst := some 24, op := .mov (.t 27) },
    { dst := some 28, op := .extract 0 (.t 24) },
    { dst := some 29, op := .extract 1 (.t 24) },
    { dst := some 8, op := .mov (.t 28) },
    { dst := some 9, op := .mov (.t 29) }])
  (.seq (.seq (.reg [
    { dst := some 30, op := .mov (.t 7) },
    { dst := some 31, op := .bin .neq (.t 30) (.k (.int 0)) }])
  (.cond (.t 31)
    (.seq (.reg [
      { dst := some 32, op := .mov (.t 9) },
      { dst := some 33, op := .mov (.t 7) },
      { dst := some 34, op := .bin .eql (.t 32) (.t 33) },
      { dst := some 35, op := .mov (.t 34) },
      { dst := some 36, op := .mov (.t 8), guard := some (35, true) },
      { dst := some 37, op := .len false (.t 36), guard := some (35, true) },
      { dst := some 38, op := .bin .eql (.t 37) (.k (.int 0)), guard := some (35, true) },
      { dst := some 39, op := .pick (.t 35) (.t 38) (.k (.bool false)) },
      { dst := some 40, op := .mov (.t 39) },
      { dst := some 41, op := .call (.f f_law19_awake) [], guard := some (40, true) },
      { dst := some 42, op := .pick (.t 40) (.t 41) (.k (.bool false)) },
      { dst := some 4, op := .mov (.t 42) }])
    .ret)
    .skip))
  (.seq (.reg [
    { dst := some 44, op := .load 6 true (.t 5) },
    { dst := some 45, op := .mov (.t 8) },
    { dst := some 46, op := .call (.f f_change_Apply) [(.t 44), (.t 45)] },
    { dst := some 43, op := .mov (.t 46) },
    { dst := some 47, op := .extract 0 (.t 43) },
    { dst := some 48, op := .extract 1 (.t 43) },
    { dst := some 49, op := .extract 2 (.t 43) },
    { dst := some 10, op := .alloc ⟨6, 64⟩ [(.int 0), (.int 0), .nil, (.int 0), (.int 0), (.bool false)] },
    { dst := none, op := .store 6 (.t 10) (.t 47) },
    { dst := some 11, op := .mov (.t 48) },
    { dst := some 12, op := .mov (.t 49) }])
  (.seq (.reg [
    { dst := some 50, op := .mov (.t 9) },
    { dst := some 51, op := .bin .eql (.t 50) (.k (.int 0)) },
    { dst := some 52, op := .mov (.t 51) },
    { dst := some 53, op := .mov (.t 12), guard := some (52, true) },
    { dst := some 54, op := .bin .eql (.t 53) (.k (.int 0)), guard := some (52, true) },
    { dst := some 55, op := .pick (.t 52) (.t 54) (.k (.bool false)) },
    { dst := some 56, op := .mov (.t 55) },
    { dst := some 57, op := .load 6 true (.t 10), guard := some (56, true) },
    { dst := some 58, op := .load 6 true (.t 2), guard := some (56, true) },
    { dst := some 59, op := .call (.f f_view_Equal) [(.t 57), (.t 58)], guard := some (56, true) },
    { dst := some 60, op := .pick (.t 56) (.t 59) (.k (.bool false)) },
    { dst := some 61, op := .mov (.t 60) },
    { dst := some 62, op := .call (.f f_law19_awake) [], guard := some (61, true) },
    { dst := some 63, op := .pick (.t 61) (.t 62) (.k (.bool false)) },
    { dst := some 4, op := .mov (.t 63) }])
  .ret)))))))

end Go.Proofs.YtknmhbbmopnfjaaDoor.Nx
