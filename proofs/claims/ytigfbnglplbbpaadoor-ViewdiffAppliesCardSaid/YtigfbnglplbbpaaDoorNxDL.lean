import Derived.Test.YtigfbnglplbbpaaDoorNxD15
set_option linter.unusedSimpArgs false
set_option linter.unusedVariables false
set_option linter.unnecessarySimpa false
namespace Go.Proofs.YtigfbnglplbbpaaDoor.Nx
open Go
def x_law20_ViewdiffApplies (f_law20_small f_law20_awake f_viewdiff_Diff f_change_Apply f_ref15_Same:FuncId):XC :=
(.seq (.reg [
    {dst:=some 2,op:=.box ⟨6,64⟩ (.t 0)},
    {dst:=some 3,op:=.box ⟨6,64⟩ (.t 1)},
    {dst:=some 4,op:=.mov (.k (.bool false))}])
  (.seq (.seq (.reg [
    {dst:=some 8,op:=.load 6 true (.t 2)},
    {dst:=some 9,op:=.load 6 true (.t 3)},
    {dst:=some 10,op:=.call (.f f_law20_small) [(.t 8),(.t 9)]},
    {dst:=some 11,op:=.un .not (.t 10)}])
  (.cond (.t 11)
    (.seq (.reg [
      {dst:=some 12,op:=.call (.f f_law20_awake) []},
      {dst:=some 4,op:=.mov (.t 12)}])
    .ret)
    .skip))
  (.seq (.drw 1 [
    {dst:=some 14,op:=.load 6 true (.t 2)},
    {dst:=some 15,op:=.load 6 true (.t 2)},
    {dst:=some 16,op:=.load 6 true (.t 3)},
    {dst:=some 17,op:=.call (.f f_viewdiff_Diff) [(.t 15),(.t 16)]},
    {dst:=some 18,op:=.call (.f f_change_Apply) [(.t 14),(.t 17)]},
    {dst:=some 13,op:=.mov (.t 18)},
    {dst:=some 19,op:=.extract 0 (.t 13)},
    {dst:=some 20,op:=.extract 1 (.t 13)},
    {dst:=some 21,op:=.extract 2 (.t 13)},
    {dst:=some 5,op:=.alloc ⟨6,64⟩ [(.int 0),(.int 0),.nil,(.int 0),(.int 0),(.bool false)],pl:=some 0},
    {dst:=none,op:=.store 6 (.t 5) (.t 19)},
    {dst:=some 6,op:=.mov (.t 20)},
    {dst:=some 7,op:=.mov (.t 21)}])
  (.seq (.reg [
    {dst:=some 22,op:=.mov (.t 7)},
    {dst:=some 23,op:=.bin .eql (.t 22) (.k (.int 0))},
    {dst:=some 24,op:=.mov (.t 23)},
    {dst:=some 25,op:=.load 6 true (.t 5),guard:=some (24,true)},
    {dst:=some 26,op:=.load 6 true (.t 3),guard:=some (24,true)},
    {dst:=some 27,op:=.call (.f f_ref15_Same) [(.t 25),(.t 26)],guard:=some (24,true)},
    {dst:=some 28,op:=.pick (.t 24) (.t 27) (.k (.bool false))},
    {dst:=some 29,op:=.mov (.t 28)},
    {dst:=some 30,op:=.call (.f f_law20_awake) [],guard:=some (29,true)},
    {dst:=some 31,op:=.pick (.t 29) (.t 30) (.k (.bool false))},
    {dst:=some 4,op:=.mov (.t 31)}])
  .ret))))
end Go.Proofs.YtigfbnglplbbpaaDoor.Nx
