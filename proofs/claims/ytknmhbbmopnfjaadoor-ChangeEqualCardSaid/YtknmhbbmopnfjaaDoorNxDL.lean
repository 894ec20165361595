/- The statement's code. Printed by a program. -/
import Derived.Test.YtknmhbbmopnfjaaDoorNxD15
namespace Go.Proofs.YtknmhbbmopnfjaaDoor.Nx
set_option linter.unusedSimpArgs false
set_option linter.unusedVariables false
set_option linter.unnecessarySimpa false
open Go

def x_law19_ChangeEqual (f_ref19_Great f_law19_awake f_change_Equal f_ref19_Same : FuncId) : XC :=
(.seq (.reg [
    { dst := some 4, op := .mov (.k (.bool false)) }])
  (.seq (.seq (.reg [
    { dst := some 5, op := .mov (.t 0) },
    { dst := some 6, op := .call (.f f_ref19_Great) [(.t 5)] },
    { dst := some 7, op := .mov (.t 6) },
    { dst := some 8, op := .mov (.t 1), guard := some (7, false) },
    { dst := some 9, op := .call (.f f_ref19_Great) [(.t 8)], guard := some (7, false) },
    { dst := some 10, op := .pick (.t 7) (.k (.bool true)) (.t 9) }])
  (.cond (.t 10)
    (.seq (.reg [
      { dst := some 11, op := .call (.f f_law19_awake) [] },
      { dst := some 4, op := .mov (.t 11) }])
    .ret)
    .skip))
  (.seq (.reg [
    { dst := some 12, op := .mov (.t 0) },
    { dst := some 13, op := .mov (.t 1) },
    { dst := some 14, op := .call (.f f_change_Equal) [(.t 12), (.t 13)] },
    { dst := some 15, op := .mov (.t 0) },
    { dst := some 16, op := .mov (.t 1) },
    { dst := some 17, op := .call (.f f_ref19_Same) [(.t 15), (.t 16)] },
    { dst := some 18, op := .eqb false (.t 14) (.t 17) },
    { dst := some 19, op := .mov (.t 18) },
    { dst := some 20, op := .mov (.t 0), guard := some (19, true) },
    { dst := some 21, op := .mov (.t 0), guard := some (19, true) },
    { dst := some 22, op := .call (.f f_change_Equal) [(.t 20), (.t 21)], guard := some (19, true) },
    { dst := some 23, op := .pick (.t 19) (.t 22) (.k (.bool false)) },
    { dst := some 24, op := .mov (.t 23) },
    { dst := some 25, op := .call (.f f_law19_awake) [], guard := some (24, true) },
    { dst := some 26, op := .pick (.t 24) (.t 25) (.k (.bool false)) },
    { dst := some 4, op := .mov (.t 26) }])
  .ret)))

end Go.Proofs.YtknmhbbmopnfjaaDoor.Nx
