/- The statement's code. Printed by a program. -/
import Derived.Test.YtknmhbbmopnfjaaDoorNxD15
namespace Go.Proofs.YtknmhbbmopnfjaaDoor.Nx
set_option linter.unusedSimpArgs false
set_option linter.unusedVariables false
set_option linter.unnecessarySimpa false
open Go

def x_law19_ChangeSingle (f_law19_great f_law19_awake f_change_Check f_change_Apply : FuncId) : XC :=
(.seq (.reg [
    { dst := some 2, op := .box ⟨6, 64⟩ (.t 0) },
    { dst := some 3, op := .box ⟨6, 64⟩ (.t 1) },
    { dst := some 4, op := .mov (.k (.bool false)) }])
  (.seq (.seq (.reg [
    { dst := some 9, op := .load 6 true (.t 2) },
    { dst := some 10, op := .load 6 true (.t 3) },
    { dst := some 11, op := .bslice ⟨6, 64⟩ [(.int 0), (.int 0), (.int 0), (.int 0), (.int 0), .nil] 1 [(0, (.t 10))] },
    { dst := some 12, op := .call (.f f_law19_great) [(.t 9), (.t 11)] }])
  (.cond (.t 12)
    (.seq (.reg [
      { dst := some 13, op := .call (.f f_law19_awake) [] },
      { dst := some 4, op := .mov (.t 13) }])
    .ret)
    .skip))
  (.seq (.reg [
    { dst := some 14, op := .load 6 true (.t 2) },
    { dst := some 15, op := .load 6 true (.t 3) },
    { dst := some 16, op := .call (.f f_change_Check) [(.t 14), (.t 15)] },
    { dst := some 5, op := .mov (.t 16) }])
  (.seq (.reg [
    { dst := some 18, op := .load 6 true (.t 2) },
    { dst := some 19, op := .load 6 true (.t 3) },
    { dst := some 20, op := .bslice ⟨6, 64⟩ [(.int 0), (.int 0), (.int 0), (.int 0), (.int 0), .nil] 1 [(0, (.t 19))] },
    { dst := some 21, op := .call (.f f_change_Apply) [(.t 18), (.t 20)] },
    { dst := some 17, op := .mov (.t 21) },
    { dst := some 22, op := .extract 0 (.t 17) },
    { dst := some 23, op := .extract 1 (.t 17) },
    { dst := some 24, op := .extract 2 (.t 17) },
    { dst := some 6, op := .alloc ⟨6, 64⟩ [(.int 0), (.int 0), .nil, (.int 0), (.int 0), (.bool false)] },
    { dst := none, op := .store 6 (.t 6) (.t 22) },
    { dst := some 7, op := .mov (.t 23) },
    { dst := some 8, op := .mov (.t 24) }])
  (.seq (.seq (.reg [
    { dst := some 25, op := .mov (.t 5) },
    { dst := some 26, op := .bin .neq (.t 25) (.k (.int 0)) }])
  (.cond (.t 26)
    (.seq (.reg [
      { dst := some 27, op := .mov (.t 8) },
      { dst := some 28, op := .mov (.t 5) },
      { dst := some 29, op := .bin .eql (.t 27) (.t 28) },
      { dst := some 30, op := .mov (.t 29) },
      { dst := some 31, op := .mov (.t 7), guard := some (30, true) },
      { dst := some 32, op := .bin .eql (.t 31) (.k (.int 0)), guard := some (30, true) },
      { dst := some 33, op := .pick (.t 30) (.t 32) (.k (.bool false)) },
      { dst := some 34, op := .mov (.t 33) },
      { dst := some 35, op := .call (.f f_law19_awake) [], guard := some (34, true) },
      { dst := some 36, op := .pick (.t 34) (.t 35) (.k (.bool false)) },
      { dst := some 4, op := .mov (.t 36) }])
    .ret)
    .skip))
  (.seq (.reg [
    { dst := some 37, op := .mov (.t 8) },
    { dst := some 38, op := .bin .eql (.t 37) (.k (.int 0)) },
    { dst := some 39, op := .mov (.t 38) },
    { dst := some 40, op := .mov (.t 7), guard := some (39, true) },
    { dst := some 41, op := .bin .eql (.t 40) (.k (.int 0)), guard := some (39, true) },
    { dst := some 42, op := .pick (.t 39) (.t 41) (.k (.bool false)) },
    { dst := some 43, op := .mov (.t 42) },
    { dst := some 44, op := .mov (.t 8), guard := some (43, false) },
    { dst := some 45, op := .bin .eql (.t 44) (.k (.int 12)), guard := some (43, false) },
    { dst := some 46, op := .mov (.t 45), guard := some (43, false) },
    { dst := some 47, op := .mov (.t 7), guard := some (46, true) },
    { dst := some 48, op := .bin .eql (.t 47) (.k (.int 1)), guard := some (46, true) },
    { dst := some 49, op := .pick (.t 46) (.t 48) (.k (.bool false)), guard := some (43, false) },
    { dst := some 50, op := .mov (.t 49), guard := some (43, false) },
    { dst := some 51, op := .faddr 0 (.t 3), guard := some (50, true) },
    { dst := some 52, op := .load 1 false (.t 51), guard := some (50, true) },
    { dst := some 53, op := .bin .eql (.t 52) (.k (.int 3)), guard := some (50, true) },
    { dst := some 54, op := .pick (.t 50) (.t 53) (.k (.bool false)), guard := some (43, false) },
    { dst := some 55, op := .pick (.t 43) (.k (.bool true)) (.t 54) },
    { dst := some 56, op := .mov (.t 55) },
    { dst := some 57, op := .call (.f f_law19_awake) [], guard := some (56, true) },
    { dst := some 58, op := .pick (.t 56) (.t 57) (.k (.bool false)) },
    { dst := some 4, op := .mov (.t 58) }])
  .ret))))))

end Go.Proofs.YtknmhbbmopnfjaaDoor.Nx
