/- The statement's code. Printed by a program. -/
import Derived.Test.YtknmhbbmopnfjaaDoorNxD15
namespace Go.Proofs.YtknmhbbmopnfjaaDoor.Nx
set_option linter.unusedSimpArgs false
set_option linter.unusedVariables false
set_option linter.unnecessarySimpa false
open Go

def x_law19_ChangeExchange (f_law19_great f_change_Check f_law19_awake f_change_Apply f_view_Equal : FuncId) : XC :=
(.seq (.reg [
    { dst := some 3, op := .box ⟨6, 64⟩ (.t 0) },
    { dst := some 4, op := .box ⟨6, 64⟩ (.t 1) },
    { dst := some 5, op := .box ⟨6, 64⟩ (.t 2) },
    { dst := some 6, op := .mov (.k (.bool false)) }])
  (.seq (.seq (.reg [
    { dst := some 13, op := .load 6 true (.t 3) },
    { dst := some 14, op := .load 6 true (.t 4) },
    { dst := some 15, op := .load 6 true (.t 5) },
    { dst := some 16, op := .bslice ⟨6, 64⟩ [(.int 0), (.int 0), (.int 0), (.int 0), (.int 0), .nil] 2 [(0, (.t 14)), (1, (.t 15))] },
    { dst := some 17, op := .call (.f f_law19_great) [(.t 13), (.t 16)] },
    { dst := some 18, op := .mov (.t 17) },
    { dst := some 19, op := .faddr 0 (.t 4), guard := some (18, false) },
    { dst := some 20, op := .load 1 false (.t 19), guard := some (18, false) },
    { dst := some 21, op := .bin .neq (.t 20) (.k (.int 3)), guard := some (18, false) },
    { dst := some 22, op := .pick (.t 18) (.k (.bool true)) (.t 21) },
    { dst := some 23, op := .mov (.t 22) },
    { dst := some 24, op := .faddr 0 (.t 5), guard := some (23, false) },
    { dst := some 25, op := .load 1 false (.t 24), guard := some (23, false) },
    { dst := some 26, op := .bin .neq (.t 25) (.k (.int 3)), guard := some (23, false) },
    { dst := some 27, op := .pick (.t 23) (.k (.bool true)) (.t 26) },
    { dst := some 28, op := .mov (.t 27) },
    { dst := some 29, op := .faddr 1 (.t 4), guard := some (28, false) },
    { dst := some 30, op := .load 1 false (.t 29), guard := some (28, false) },
    { dst := some 31, op := .faddr 1 (.t 5), guard := some (28, false) },
    { dst := some 32, op := .load 1 false (.t 31), guard := some (28, false) },
    { dst := some 33, op := .bin .eql (.t 30) (.t 32), guard := some (28, false) },
    { dst := some 34, op := .pick (.t 28) (.k (.bool true)) (.t 33) },
    { dst := some 35, op := .mov (.t 34) },
    { dst := some 36, op := .load 6 true (.t 3), guard := some (35, false) },
    { dst := some 37, op := .load 6 true (.t 4), guard := some (35, false) },
    { dst := some 38, op := .call (.f f_change_Check) [(.t 36), (.t 37)], guard := some (35, false) },
    { dst := some 39, op := .bin .neq (.t 38) (.k (.int 0)), guard := some (35, false) },
    { dst := some 40, op := .pick (.t 35) (.k (.bool true)) (.t 39) },
    { dst := some 41, op := .mov (.t 40) },
    { dst := some 42, op := .load 6 true (.t 3), guard := some (41, false) },
    { dst := some 43, op := .load 6 true (.t 5), guard := some (41, false) },
    { dst := some 44, op := .call (.f f_change_Check) [(.t 42), (.t 43)], guard := some (41, false) },
    { dst := some 45, op := .bin .neq (.t 44) (.k (.int 0)), guard := some (41, false) },
    { dst := some 46, op := .pick (.t 41) (.k (.bool true)) (.t 45) }])
  (.cond (.t 46)
    (.seq (.reg [
      { dst := some 47, op := .call (.f f_law19_awake) [] },
      { dst := some 6, op := .mov (.t 47) }])
    .ret)
    .skip))
  (.seq (.reg [
    { dst := some 49, op := .load 6 true (.t 3) },
    { dst := some 50, op := .load 6 true (.t 4) },
    { dst := some 51, op := .load 6 true (.t 5) },
    { dst := some 52, op := .bslice ⟨6, 64⟩ [(.int 0), (.int 0), (.int 0), (.int 0), (.int 0), .nil] 2 [(0, (.t 50)), (1, (.t 51))] },
    { dst := some 53, op := .call (.f f_change_Apply) [(.t 49), (.t 52)] },
    { dst := some 48, op := .mov (.t 53) },
    { dst := some 54, op := .extract 0 (.t 48) },
    { dst := some 55, op := .extract 1 (.t 48) },
    { dst := some 56, op := .extract 2 (.t 48) },
    { dst := some 7, op := .alloc ⟨6, 64⟩ [(.int 0), (.int 0), .nil, (.int 0), (.int 0), (.bool false)] },
    { dst := none, op := .store 6 (.t 7) (.t 54) },
    { dst := some 8, op := .mov (.t 55) },
    { dst := some 9, op := .mov (.t 56) }])
  (.seq (.reg [
    { dst := some 58, op := .load 6 true (.t 3) },
    { dst := some 59, op := .load 6 true (.t 5) },
    { dst := some 60, op := .load 6 true (.t 4) },
    { dst := some 61, op := .bslice ⟨6, 64⟩ [(.int 0), (.int 0), (.int 0), (.int 0), (.int 0), .nil] 2 [(0, (.t 59)), (1, (.t 60))] },
    { dst := some 62, op := .call (.f f_change_Apply) [(.t 58), (.t 61)] },
    { dst := some 57, op := .mov (.t 62) },
    { dst := some 63, op := .extract 0 (.t 57) },
    { dst := some 64, op := .extract 1 (.t 57) },
    { dst := some 65, op := .extract 2 (.t 57) },
    { dst := some 10, op := .alloc ⟨6, 64⟩ [(.int 0), (.int 0), .nil, (.int 0), (.int 0), (.bool false)] },
    { dst := none, op := .store 6 (.t 10) (.t 63) },
    { dst := some 11, op := .mov (.t 64) },
    { dst := some 12, op := .mov (.t 65) }])
  (.seq (.reg [
    { dst := some 66, op := .mov (.t 9) },
    { dst := some 67, op := .mov (.t 12) },
    { dst := some 68, op := .bin .eql (.t 66) (.t 67) },
    { dst := some 69, op := .mov (.t 68) },
    { dst := some 70, op := .mov (.t 8), guard := some (69, true) },
    { dst := some 71, op := .mov (.t 11), guard := some (69, true) },
    { dst := some 72, op := .bin .eql (.t 70) (.t 71), guard := some (69, true) },
    { dst := some 73, op := .pick (.t 69) (.t 72) (.k (.bool false)) },
    { dst := some 74, op := .mov (.t 73) },
    { dst := some 75, op := .load 6 true (.t 7), guard := some (74, true) },
    { dst := some 76, op := .load 6 true (.t 10), guard := some (74, true) },
    { dst := some 77, op := .call (.f f_view_Equal) [(.t 75), (.t 76)], guard := some (74, true) },
    { dst := some 78, op := .pick (.t 74) (.t 77) (.k (.bool false)) },
    { dst := some 79, op := .mov (.t 78) },
    { dst := some 80, op := .call (.f f_law19_awake) [], guard := some (79, true) },
    { dst := some 81, op := .pick (.t 79) (.t 80) (.k (.bool false)) },
    { dst := some 6, op := .mov (.t 81) }])
  .ret)))))

end Go.Proofs.YtknmhbbmopnfjaaDoor.Nx
