/- Further functions, as the abstract machine has them. Printed by a program. -/
import Derived.Test.YtmagahmklndcgaaDoorNxRange
import Derived.Test.YtmagahmklndcgaaDoorNxFact
namespace Go.Proofs.YtmagahmklndcgaaDoor.Nx
set_option linter.unusedSimpArgs false
set_option linter.unusedVariables false
set_option linter.unnecessarySimpa false
open Go

def x_law15_ViewColumns (f_ref15_GreatRow f_law15_awake f_view_Index f_view_Width : FuncId) : XC :=
(.seq (.reg [
    { dst := some 4, op := .mov (.k (.bool false)) }])
  (.seq (.seq (.reg [
    { dst := some 7, op := .mov (.t 0) },
    { dst := some 8, op := .call (.f f_ref15_GreatRow) [(.t 7)] }])
  (.cond (.t 8)
    (.seq (.reg [
      { dst := some 9, op := .call (.f f_law15_awake) [] },
      { dst := some 4, op := .mov (.t 9) }])
    .ret)
    .skip))
  (.seq (.reg [
    { dst := some 5, op := .mov (.k (.int 0)) }])
  (.seq (.seq (.reg [
    { dst := some 6, op := .mov (.k (.int 0)) }])
  (.block 0 (.loop (.seq (.seq (.reg [
    { dst := some 10, op := .mov (.t 6) },
    { dst := some 11, op := .mov (.t 0) },
    { dst := some 12, op := .len false (.t 11) },
    { dst := some 13, op := .bin .lss (.t 10) (.t 12) }])
  (.cond (.t 13)
    .skip
    (.exit 0)))
  (.seq (.block 1 (.seq (.seq (.reg [
    { dst := some 16, op := .mov (.t 0) },
    { dst := some 17, op := .mov (.t 5) },
    { dst := some 18, op := .call (.f f_view_Index) [(.t 16), (.t 17)] },
    { dst := some 19, op := .mov (.t 6) },
    { dst := some 20, op := .bin .neq (.t 18) (.t 19) },
    { dst := some 21, op := .mov (.t 20) },
    { dst := some 22, op := .mov (.t 0), guard := some (21, false) },
    { dst := some 23, op := .mov (.t 6), guard := some (21, false) },
    { dst := some 24, op := .iaddr ⟨3, 32⟩ (.t 22) (.t 23), guard := some (21, false) },
    { dst := some 25, op := .faddr 1 (.t 24), guard := some (21, false) },
    { dst := some 26, op := .load 1 false (.t 25), guard := some (21, false) },
    { dst := some 27, op := .mov (.t 26), guard := some (21, false) },
    { dst := some 28, op := .mov (.t 0), guard := some (27, true) },
    { dst := some 29, op := .mov (.t 5), guard := some (27, true) },
    { dst := some 30, op := .bin .add (.t 29) (.k (.int 1)), guard := some (27, true) },
    { dst := some 31, op := .call (.f f_view_Index) [(.t 28), (.t 30)], guard := some (27, true) },
    { dst := some 32, op := .mov (.t 6), guard := some (27, true) },
    { dst := some 33, op := .bin .neq (.t 31) (.t 32), guard := some (27, true) },
    { dst := some 34, op := .pick (.t 27) (.t 33) (.k (.bool false)), guard := some (21, false) },
    { dst := some 35, op := .pick (.t 21) (.k (.bool true)) (.t 34) }])
  (.cond (.t 35)
    (.seq (.reg [
      { dst := some 4, op := .mov (.k (.bool false)) }])
    .ret)
    .skip))
  (.reg [
    { dst := some 36, op := .mov (.t 5) },
    { dst := some 37, op := .mov (.t 0) },
    { dst := some 38, op := .mov (.t 6) },
    { dst := some 39, op := .mov (.t 6) },
    { dst := some 40, op := .bin .add (.t 39) (.k (.int 1)) },
    { dst := some 41, op := .slice ⟨3, 32⟩ (.t 37) (some (.t 38)) (some (.t 40)) none },
    { dst := some 42, op := .call (.f f_view_Width) [(.t 41)] },
    { dst := some 43, op := .bin .add (.t 36) (.t 42) },
    { dst := some 5, op := .mov (.t 43) }])))
  (.reg [
    { dst := some 14, op := .mov (.t 6) },
    { dst := some 15, op := .bin .add (.t 14) (.k (.int 1)) },
    { dst := some 6, op := .mov (.t 15) }]))))))
  (.seq (.reg [
    { dst := some 44, op := .mov (.t 5) },
    { dst := some 45, op := .mov (.t 0) },
    { dst := some 46, op := .call (.f f_view_Width) [(.t 45)] },
    { dst := some 47, op := .bin .eql (.t 44) (.t 46) },
    { dst := some 48, op := .mov (.t 47) },
    { dst := some 49, op := .mov (.t 0), guard := some (48, true) },
    { dst := some 50, op := .mov (.t 5), guard := some (48, true) },
    { dst := some 51, op := .mov (.t 1), guard := some (48, true) },
    { dst := some 52, op := .conv .i64 (.t 51), guard := some (48, true) },
    { dst := some 53, op := .bin .add (.t 50) (.t 52), guard := some (48, true) },
    { dst := some 54, op := .call (.f f_view_Index) [(.t 49), (.t 53)], guard := some (48, true) },
    { dst := some 55, op := .mov (.t 0), guard := some (48, true) },
    { dst := some 56, op := .len false (.t 55), guard := some (48, true) },
    { dst := some 57, op := .mov (.t 1), guard := some (48, true) },
    { dst := some 58, op := .conv .i64 (.t 57), guard := some (48, true) },
    { dst := some 59, op := .bin .add (.t 56) (.t 58), guard := some (48, true) },
    { dst := some 60, op := .bin .eql (.t 54) (.t 59), guard := some (48, true) },
    { dst := some 61, op := .pick (.t 48) (.t 60) (.k (.bool false)) },
    { dst := some 62, op := .mov (.t 61) },
    { dst := some 63, op := .mov (.t 0), guard := some (62, true) },
    { dst := some 64, op := .mov (.t 1), guard := some (62, true) },
    { dst := some 65, op := .conv .i64 (.t 64), guard := some (62, true) },
    { dst := some 66, op := .bin .sub (.k (.int (-1))) (.t 65), guard := some (62, true) },
    { dst := some 67, op := .call (.f f_view_Index) [(.t 63), (.t 66)], guard := some (62, true) },
    { dst := some 68, op := .bin .eql (.t 67) (.k (.int (-1))), guard := some (62, true) },
    { dst := some 69, op := .pick (.t 62) (.t 68) (.k (.bool false)) },
    { dst := some 70, op := .mov (.t 69) },
    { dst := some 71, op := .call (.f f_law15_awake) [], guard := some (70, true) },
    { dst := some 72, op := .pick (.t 70) (.t 71) (.k (.bool false)) },
    { dst := some 4, op := .mov (.t 72) }])
  .ret)))))

def x_view_Width : XC :=
(.seq (.reg [
    { dst := some 2, op := .mov (.k (.int 0)) }])
  (.seq (.reg [
    { dst := some 6, op := .mov (.t 0) },
    { dst := some 7, op := .len false (.t 6) },
    { dst := some 3, op := .mov (.t 7) }])
  (.seq (.seq (.reg [
    { dst := some 8, op := .mov (.t 0) },
    { dst := some 9, op := .len false (.t 8) },
    { dst := some 10, op := .mov (.k (.int 0)) }])
  (.block 0 (.loop (.seq (.reg [
    { dst := some 11, op := .bin .lss (.t 10) (.t 9) }])
  (.seq (.cond (.t 11)
    .skip
    (.exit 0))
  (.seq (.block 1 (.seq (.reg [
    { dst := some 12, op := .iaddr ⟨3, 32⟩ (.t 8) (.t 10) },
    { dst := some 13, op := .load 3 true (.t 12) },
    { dst := some 5, op := .alloc ⟨3, 32⟩ [(.str ⟨#[]⟩), (.bool false), (.int 0)] },
    { dst := none, op := .store 3 (.t 5) (.t 13) }])
  (.seq (.reg [
    { dst := some 14, op := .faddr 1 (.t 5) },
    { dst := some 15, op := .load 1 false (.t 14) }])
  (.cond (.t 15)
    (.reg [
      { dst := some 16, op := .mov (.t 3) },
      { dst := some 17, op := .bin .add (.t 16) (.k (.int 1)) },
      { dst := some 3, op := .mov (.t 17) }])
    .skip))))
  (.reg [
    { dst := some 18, op := .bin .add (.t 10) (.k (.int 1)) },
    { dst := some 10, op := .mov (.t 18) }])))))))
  (.seq (.reg [
    { dst := some 19, op := .mov (.t 3) },
    { dst := some 2, op := .mov (.t 19) }])
  .ret))))

end Go.Proofs.YtmagahmklndcgaaDoor.Nx
