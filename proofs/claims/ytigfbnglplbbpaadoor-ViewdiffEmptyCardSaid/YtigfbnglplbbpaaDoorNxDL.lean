import Derived.Test.YtigfbnglplbbpaaDoorNxD15
set_option linter.unusedSimpArgs false
set_option linter.unusedVariables false
set_option linter.unnecessarySimpa false
namespace Go.Proofs.YtigfbnglplbbpaaDoor.Nx
open Go
def x_law20_ViewdiffEmpty (f_law20_small f_law20_awake f_viewdiff_Diff f_ref15_Same:FuncId):XC :=
(.seq (.reg [
    {dst:=some 2,op:=.box ⟨6,64⟩ (.t 0)},
    {dst:=some 3,op:=.box ⟨6,64⟩ (.t 1)},
    {dst:=some 4,op:=.mov (.k (.bool false))}])
  (.seq (.seq (.reg [
    {dst:=some 5,op:=.load 6 true (.t 2)},
    {dst:=some 6,op:=.load 6 true (.t 3)},
    {dst:=some 7,op:=.call (.f f_law20_small) [(.t 5),(.t 6)]},
    {dst:=some 8,op:=.un .not (.t 7)}])
  (.cond (.t 8)
    (.seq (.reg [
      {dst:=some 9,op:=.call (.f f_law20_awake) []},
      {dst:=some 4,op:=.mov (.t 9)}])
    .ret)
    .skip))
  (.seq (.drw 0 [
    {dst:=some 10,op:=.load 6 true (.t 2)},
    {dst:=some 11,op:=.load 6 true (.t 3)},
    {dst:=some 12,op:=.call (.f f_viewdiff_Diff) [(.t 10),(.t 11)]},
    {dst:=some 13,op:=.len false (.t 12)},
    {dst:=some 14,op:=.bin .eql (.t 13) (.k (.int 0))},
    {dst:=some 15,op:=.load 6 true (.t 2)},
    {dst:=some 16,op:=.load 6 true (.t 3)},
    {dst:=some 17,op:=.call (.f f_ref15_Same) [(.t 15),(.t 16)]},
    {dst:=some 18,op:=.eqb false (.t 14) (.t 17)},
    {dst:=some 19,op:=.mov (.t 18)},
    {dst:=some 20,op:=.load 6 true (.t 2),guard:=some (19,true)},
    {dst:=some 21,op:=.load 6 true (.t 2),guard:=some (19,true)},
    {dst:=some 22,op:=.call (.f f_viewdiff_Diff) [(.t 20),(.t 21)],guard:=some (19,true)},
    {dst:=some 23,op:=.len false (.t 22),guard:=some (19,true)},
    {dst:=some 24,op:=.bin .eql (.t 23) (.k (.int 0)),guard:=some (19,true)},
    {dst:=some 25,op:=.pick (.t 19) (.t 24) (.k (.bool false))},
    {dst:=some 26,op:=.mov (.t 25)},
    {dst:=some 27,op:=.call (.f f_law20_awake) [],guard:=some (26,true)},
    {dst:=some 28,op:=.pick (.t 26) (.t 27) (.k (.bool false))},
    {dst:=some 4,op:=.mov (.t 28)}])
  .ret)))
end Go.Proofs.YtigfbnglplbbpaaDoor.Nx
