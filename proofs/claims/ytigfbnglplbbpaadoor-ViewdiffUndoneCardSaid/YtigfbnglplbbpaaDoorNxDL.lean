import Derived.Test.YtigfbnglplbbpaaDoorNxD15
set_option linter.unusedSimpArgs false
set_option linter.unusedVariables false
set_option linter.unnecessarySimpa false
namespace Go.Proofs.YtigfbnglplbbpaaDoor.Nx
open Go
def x_law20_ViewdiffUndone (f_law20_small f_law20_awake f_viewdiff_Diff f_change_Inverse f_change_Apply f_ref15_Same:FuncId):XC :=
(.seq (.reg [
    {dst:=some 2,op:=.box ⟨6,64⟩ (.t 0)},
    {dst:=some 3,op:=.box ⟨6,64⟩ (.t 1)},
    {dst:=some 4,op:=.mov (.k (.bool false))}])
  (.seq (.seq (.reg [
    {dst:=some 10,op:=.load 6 true (.t 2)},
    {dst:=some 11,op:=.load 6 true (.t 3)},
    {dst:=some 12,op:=.call (.f f_law20_small) [(.t 10),(.t 11)]},
    {dst:=some 13,op:=.un .not (.t 12)}])
  (.cond (.t 13)
    (.seq (.reg [
      {dst:=some 14,op:=.call (.f f_law20_awake) []},
      {dst:=some 4,op:=.mov (.t 14)}])
    .ret)
    .skip))
  (.seq (.drw 0 [
    {dst:=some 16,op:=.load 6 true (.t 2)},
    {dst:=some 17,op:=.load 6 true (.t 2)},
    {dst:=some 18,op:=.load 6 true (.t 3)},
    {dst:=some 19,op:=.call (.f f_viewdiff_Diff) [(.t 17),(.t 18)]},
    {dst:=some 20,op:=.call (.f f_change_Inverse) [(.t 16),(.t 19)]},
    {dst:=some 15,op:=.mov (.t 20)},
    {dst:=some 21,op:=.extract 0 (.t 15)},
    {dst:=some 22,op:=.extract 1 (.t 15)},
    {dst:=some 5,op:=.mov (.t 21)},
    {dst:=some 6,op:=.mov (.t 22)}])
  (.seq (.reg [
    {dst:=some 24,op:=.load 6 true (.t 3)},
    {dst:=some 25,op:=.mov (.t 5)},
    {dst:=some 26,op:=.call (.f f_change_Apply) [(.t 24),(.t 25)]},
    {dst:=some 23,op:=.mov (.t 26)},
    {dst:=some 27,op:=.extract 0 (.t 23)},
    {dst:=some 28,op:=.extract 1 (.t 23)},
    {dst:=some 29,op:=.extract 2 (.t 23)},
    {dst:=some 7,op:=.alloc ⟨6,64⟩ [(.int 0),(.int 0),.nil,(.int 0),(.int 0),(.bool false)]},
    {dst:=none,op:=.store 6 (.t 7) (.t 27)},
    {dst:=some 8,op:=.mov (.t 28)},
    {dst:=some 9,op:=.mov (.t 29)}])
  (.seq (.reg [
    {dst:=some 30,op:=.mov (.t 6)},
    {dst:=some 31,op:=.bin .eql (.t 30) (.k (.int 0))},
    {dst:=some 32,op:=.mov (.t 31)},
    {dst:=some 33,op:=.mov (.t 9),guard:=some (32,true)},
    {dst:=some 34,op:=.bin .eql (.t 33) (.k (.int 0)),guard:=some (32,true)},
    {dst:=some 35,op:=.pick (.t 32) (.t 34) (.k (.bool false))},
    {dst:=some 36,op:=.mov (.t 35)},
    {dst:=some 37,op:=.load 6 true (.t 7),guard:=some (36,true)},
    {dst:=some 38,op:=.load 6 true (.t 2),guard:=some (36,true)},
    {dst:=some 39,op:=.call (.f f_ref15_Same) [(.t 37),(.t 38)],guard:=some (36,true)},
    {dst:=some 40,op:=.pick (.t 36) (.t 39) (.k (.bool false))},
    {dst:=some 41,op:=.mov (.t 40)},
    {dst:=some 42,op:=.call (.f f_law20_awake) [],guard:=some (41,true)},
    {dst:=some 43,op:=.pick (.t 41) (.t 42) (.k (.bool false))},
    {dst:=some 4,op:=.mov (.t 43)}])
  .ret)))))
end Go.Proofs.YtigfbnglplbbpaaDoor.Nx
