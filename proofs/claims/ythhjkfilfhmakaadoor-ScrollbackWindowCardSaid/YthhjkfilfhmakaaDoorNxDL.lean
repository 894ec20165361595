import Derived.Test.YthhjkfilfhmakaaDoorNxD15
set_option linter.unusedSimpArgs false
set_option linter.unusedVariables false
set_option linter.unnecessarySimpa false
namespace Go.Proofs.YthhjkfilfhmakaaDoor.Nx
open Go
def x_law12_ScrollbackWindow (f_ref12_Great f_ref08_Great f_law12_awake f_scrollback_Window f_ref12_Window f_ref08_Same f_grid_Check:FuncId):XC :=
(.seq (.reg [
    {dst:=some 4,op:=.box ⟨3,40⟩ (.t 1)},
    {dst:=some 6,op:=.mov (.k (.bool false))}])
  (.seq (.seq (.reg [
    {dst:=some 11,op:=.mov (.t 0)},
    {dst:=some 12,op:=.call (.f f_ref12_Great) [(.t 11)]},
    {dst:=some 13,op:=.bin .gtr (.t 12) (.k (.int 0))},
    {dst:=some 14,op:=.mov (.t 13)},
    {dst:=some 15,op:=.faddr 2 (.t 4),guard:=some (14,false)},
    {dst:=some 16,op:=.load 1 false (.t 15),guard:=some (14,false)},
    {dst:=some 17,op:=.call (.f f_ref08_Great) [(.t 16)],guard:=some (14,false)},
    {dst:=some 18,op:=.bin .gtr (.t 17) (.k (.int 0)),guard:=some (14,false)},
    {dst:=some 19,op:=.pick (.t 14) (.k (.bool true)) (.t 18)}])
  (.cond (.t 19)
    (.seq (.reg [
      {dst:=some 20,op:=.call (.f f_law12_awake) []},
      {dst:=some 6,op:=.mov (.t 20)}])
    .ret)
    .skip))
  (.seq (.reg [
    {dst:=some 22,op:=.mov (.t 0)},
    {dst:=some 23,op:=.load 3 true (.t 4)},
    {dst:=some 24,op:=.mov (.t 2)},
    {dst:=some 25,op:=.call (.f f_scrollback_Window) [(.t 22),(.t 23),(.t 24)]},
    {dst:=some 21,op:=.mov (.t 25)},
    {dst:=some 26,op:=.extract 0 (.t 21)},
    {dst:=some 27,op:=.extract 1 (.t 21)},
    {dst:=some 7,op:=.alloc ⟨3,40⟩ [(.int 0),(.int 0),.nil]},
    {dst:=none,op:=.store 3 (.t 7) (.t 26)},
    {dst:=some 8,op:=.mov (.t 27)}])
  (.seq (.reg [
    {dst:=some 29,op:=.mov (.t 0)},
    {dst:=some 30,op:=.load 3 true (.t 4)},
    {dst:=some 31,op:=.mov (.t 2)},
    {dst:=some 32,op:=.call (.f f_ref12_Window) [(.t 29),(.t 30),(.t 31)]},
    {dst:=some 28,op:=.mov (.t 32)},
    {dst:=some 33,op:=.extract 0 (.t 28)},
    {dst:=some 34,op:=.extract 1 (.t 28)},
    {dst:=some 9,op:=.alloc ⟨3,40⟩ [(.int 0),(.int 0),.nil]},
    {dst:=none,op:=.store 3 (.t 9) (.t 33)},
    {dst:=some 10,op:=.mov (.t 34)}])
  (.seq (.reg [
    {dst:=some 35,op:=.load 3 true (.t 7)},
    {dst:=some 36,op:=.load 3 true (.t 9)},
    {dst:=some 37,op:=.call (.f f_ref08_Same) [(.t 35),(.t 36)]},
    {dst:=some 38,op:=.mov (.t 37)},
    {dst:=some 39,op:=.mov (.t 8),guard:=some (38,true)},
    {dst:=some 40,op:=.mov (.t 10),guard:=some (38,true)},
    {dst:=some 41,op:=.bin .eql (.t 39) (.t 40),guard:=some (38,true)},
    {dst:=some 42,op:=.pick (.t 38) (.t 41) (.k (.bool false))},
    {dst:=some 43,op:=.mov (.t 42)},
    {dst:=some 44,op:=.mov (.t 8),guard:=some (43,true)},
    {dst:=some 45,op:=.bin .neq (.t 44) (.k (.int 0)),guard:=some (43,true)},
    {dst:=some 46,op:=.mov (.t 45),guard:=some (43,true)},
    {dst:=some 47,op:=.load 3 true (.t 7),guard:=some (46,false)},
    {dst:=some 48,op:=.call (.f f_grid_Check) [(.t 47)],guard:=some (46,false)},
    {dst:=some 49,op:=.bin .eql (.t 48) (.k (.int 0)),guard:=some (46,false)},
    {dst:=some 50,op:=.pick (.t 46) (.k (.bool true)) (.t 49),guard:=some (43,true)},
    {dst:=some 51,op:=.pick (.t 43) (.t 50) (.k (.bool false))},
    {dst:=some 52,op:=.mov (.t 51)},
    {dst:=some 53,op:=.call (.f f_law12_awake) [],guard:=some (52,true)},
    {dst:=some 54,op:=.pick (.t 52) (.t 53) (.k (.bool false))},
    {dst:=some 6,op:=.mov (.t 54)}])
  .ret)))))
end Go.Proofs.YthhjkfilfhmakaaDoor.Nx
