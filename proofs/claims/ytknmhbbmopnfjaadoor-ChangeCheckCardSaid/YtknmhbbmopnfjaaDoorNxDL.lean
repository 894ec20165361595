import Derived.Test.YtknmhbbmopnfjaaDoorNxD15
set_option linter.unusedSimpArgs false
set_option linter.unusedVariables false
set_option linter.unnecessarySimpa false
namespace Go.Proofs.YtknmhbbmopnfjaaDoor.Nx
open Go
def x_law19_ChangeCheck (f_law19_great f_law19_awake f_change_Check f_ref19_Check:FuncId):XC :=
(.seq (.reg [
    {dst:=some 2,op:=.box ⟨6,64⟩ (.t 0)},
    {dst:=some 3,op:=.box ⟨6,64⟩ (.t 1)},
    {dst:=some 4,op:=.mov (.k (.bool false))}])
  (.seq (.seq (.reg [
    {dst:=some 5,op:=.load 6 true (.t 2)},
    {dst:=some 6,op:=.load 6 true (.t 3)},
    {dst:=some 7,op:=.bslice ⟨6,64⟩ [(.int 0),(.int 0),(.int 0),(.int 0),(.int 0),.nil] 1 [(0,(.t 6))]},
    {dst:=some 8,op:=.call (.f f_law19_great) [(.t 5),(.t 7)]}])
  (.cond (.t 8)
    (.seq (.reg [
      {dst:=some 9,op:=.call (.f f_law19_awake) []},
      {dst:=some 4,op:=.mov (.t 9)}])
    .ret)
    .skip))
  (.seq (.drw 0 [
    {dst:=some 10,op:=.load 6 true (.t 2)},
    {dst:=some 11,op:=.load 6 true (.t 3)},
    {dst:=some 12,op:=.call (.f f_change_Check) [(.t 10),(.t 11)]},
    {dst:=some 13,op:=.load 6 true (.t 2)},
    {dst:=some 14,op:=.load 6 true (.t 3)},
    {dst:=some 15,op:=.call (.f f_ref19_Check) [(.t 13),(.t 14)]},
    {dst:=some 16,op:=.bin .eql (.t 12) (.t 15)},
    {dst:=some 17,op:=.mov (.t 16)},
    {dst:=some 18,op:=.call (.f f_law19_awake) [],guard:=some (17,true)},
    {dst:=some 19,op:=.pick (.t 17) (.t 18) (.k (.bool false))},
    {dst:=some 4,op:=.mov (.t 19)}])
  .ret)))
end Go.Proofs.YtknmhbbmopnfjaaDoor.Nx
