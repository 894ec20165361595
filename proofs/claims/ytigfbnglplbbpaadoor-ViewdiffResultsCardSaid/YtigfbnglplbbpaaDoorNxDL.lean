import Derived.Test.YtigfbnglplbbpaaDoorNxD15
set_option linter.unusedSimpArgs false
set_option linter.unusedVariables false
set_option linter.unnecessarySimpa false
namespace Go.Proofs.YtigfbnglplbbpaaDoor.Nx
open Go
def x_law20_ViewdiffResults (f_ref15_Great f_ref19_Great f_law20_awake f_viewdiff_Cost f_ref20_Cost f_viewdiff_Rows f_ref20_Rows f_ref19_SameInts:FuncId):XC :=
(.seq (.reg [
    {dst:=some 4,op:=.box ⟨6,64⟩ (.t 1)},
    {dst:=some 5,op:=.box ⟨6,64⟩ (.t 2)},
    {dst:=some 6,op:=.mov (.k (.bool false))}])
  (.seq (.seq (.reg [
    {dst:=some 7,op:=.load 6 true (.t 4)},
    {dst:=some 8,op:=.call (.f f_ref15_Great) [(.t 7)]},
    {dst:=some 9,op:=.mov (.t 8)},
    {dst:=some 10,op:=.load 6 true (.t 5),guard:=some (9,false)},
    {dst:=some 11,op:=.call (.f f_ref15_Great) [(.t 10)],guard:=some (9,false)},
    {dst:=some 12,op:=.pick (.t 9) (.k (.bool true)) (.t 11)},
    {dst:=some 13,op:=.mov (.t 12)},
    {dst:=some 14,op:=.mov (.t 0),guard:=some (13,false)},
    {dst:=some 15,op:=.call (.f f_ref19_Great) [(.t 14)],guard:=some (13,false)},
    {dst:=some 16,op:=.pick (.t 13) (.k (.bool true)) (.t 15)}])
  (.cond (.t 16)
    (.seq (.reg [
      {dst:=some 17,op:=.call (.f f_law20_awake) []},
      {dst:=some 6,op:=.mov (.t 17)}])
    .ret)
    .skip))
  (.seq (.drw 0 [
    {dst:=some 18,op:=.mov (.t 0)},
    {dst:=some 19,op:=.call (.f f_viewdiff_Cost) [(.t 18)]},
    {dst:=some 20,op:=.mov (.t 0)},
    {dst:=some 21,op:=.call (.f f_ref20_Cost) [(.t 20)]},
    {dst:=some 22,op:=.bin .eql (.t 19) (.t 21)},
    {dst:=some 23,op:=.mov (.t 22)},
    {dst:=some 24,op:=.load 6 true (.t 4),guard:=some (23,true)},
    {dst:=some 25,op:=.load 6 true (.t 5),guard:=some (23,true)},
    {dst:=some 26,op:=.call (.f f_viewdiff_Rows) [(.t 24),(.t 25)],guard:=some (23,true)},
    {dst:=some 27,op:=.load 6 true (.t 4),guard:=some (23,true)},
    {dst:=some 28,op:=.load 6 true (.t 5),guard:=some (23,true)},
    {dst:=some 29,op:=.call (.f f_ref20_Rows) [(.t 27),(.t 28)],guard:=some (23,true)},
    {dst:=some 30,op:=.call (.f f_ref19_SameInts) [(.t 26),(.t 29)],guard:=some (23,true)},
    {dst:=some 31,op:=.pick (.t 23) (.t 30) (.k (.bool false))},
    {dst:=some 32,op:=.mov (.t 31)},
    {dst:=some 33,op:=.call (.f f_law20_awake) [],guard:=some (32,true)},
    {dst:=some 34,op:=.pick (.t 32) (.t 33) (.k (.bool false))},
    {dst:=some 6,op:=.mov (.t 34)}])
  .ret)))
end Go.Proofs.YtigfbnglplbbpaaDoor.Nx
