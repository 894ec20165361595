import Derived.Test.YthhjkfilfhmakaaDoorNxD15
set_option linter.unusedSimpArgs false
set_option linter.unusedVariables false
set_option linter.unnecessarySimpa false
namespace Go.Proofs.YthhjkfilfhmakaaDoor.Nx
open Go
def x_law12_ScrollbackContinues (f_ref12_Great f_ref08_Right f_law12_awake f_grid_Scroll f_scrollback_Push f_scrollback_Window f_ref08_Same:FuncId):XC :=
(.seq (.reg [
    {dst:=some 5,op:=.box ⟨3,40⟩ (.t 1)},
    {dst:=some 7,op:=.box ⟨3,24⟩ (.t 3)},
    {dst:=some 8,op:=.mov (.k (.bool false))}])
  (.seq (.seq (.reg [
    {dst:=some 15,op:=.mov (.t 0)},
    {dst:=some 16,op:=.call (.f f_ref12_Great) [(.t 15)]},
    {dst:=some 17,op:=.bin .gtr (.t 16) (.k (.int 0))},
    {dst:=some 18,op:=.mov (.t 17)},
    {dst:=some 19,op:=.load 3 true (.t 5),guard:=some (18,false)},
    {dst:=some 20,op:=.call (.f f_ref08_Right) [(.t 19)],guard:=some (18,false)},
    {dst:=some 21,op:=.bin .eql (.t 20) (.k (.int 0)),guard:=some (18,false)},
    {dst:=some 22,op:=.pick (.t 18) (.k (.bool true)) (.t 21)}])
  (.cond (.t 22)
    (.seq (.reg [
      {dst:=some 23,op:=.call (.f f_law12_awake) []},
      {dst:=some 8,op:=.mov (.t 23)}])
    .ret)
    .skip))
  (.seq (.reg [
    {dst:=some 24,op:=.mov (.t 2)},
    {dst:=some 25,op:=.conv .i64 (.t 24)},
    {dst:=some 26,op:=.faddr 1 (.t 5)},
    {dst:=some 27,op:=.load 1 false (.t 26)},
    {dst:=some 28,op:=.bin .add (.t 27) (.k (.int 1))},
    {dst:=some 29,op:=.bin .rem (.t 25) (.t 28)},
    {dst:=some 9,op:=.mov (.t 29)}])
  (.seq (.reg [
    {dst:=some 31,op:=.load 3 true (.t 5)},
    {dst:=some 32,op:=.faddr 1 (.t 5)},
    {dst:=some 33,op:=.load 1 false (.t 32)},
    {dst:=some 34,op:=.mov (.t 9)},
    {dst:=some 35,op:=.load 3 true (.t 7)},
    {dst:=some 36,op:=.call (.f f_grid_Scroll) [(.t 31),(.k (.int 0)),(.t 33),(.t 34),(.t 35)]},
    {dst:=some 30,op:=.mov (.t 36)},
    {dst:=some 37,op:=.extract 0 (.t 30)},
    {dst:=some 38,op:=.extract 1 (.t 30)},
    {dst:=some 39,op:=.extract 2 (.t 30)},
    {dst:=some 10,op:=.alloc ⟨3,40⟩ [(.int 0),(.int 0),.nil]},
    {dst:=none,op:=.store 3 (.t 10) (.t 37)},
    {dst:=some 11,op:=.mov (.t 38)},
    {dst:=some 12,op:=.mov (.t 39)}])
  (.seq (.drw 1 [
    {dst:=some 41,op:=.mov (.t 0)},
    {dst:=some 42,op:=.mov (.t 11)},
    {dst:=some 43,op:=.call (.f f_scrollback_Push) [(.t 41),(.t 42)]},
    {dst:=some 44,op:=.load 3 true (.t 10)},
    {dst:=some 45,op:=.mov (.t 9)},
    {dst:=some 46,op:=.call (.f f_scrollback_Window) [(.t 43),(.t 44),(.t 45)]},
    {dst:=some 40,op:=.mov (.t 46)},
    {dst:=some 47,op:=.extract 0 (.t 40)},
    {dst:=some 48,op:=.extract 1 (.t 40)},
    {dst:=some 13,op:=.alloc ⟨3,40⟩ [(.int 0),(.int 0),.nil],pl:=some 0},
    {dst:=none,op:=.store 3 (.t 13) (.t 47)},
    {dst:=some 14,op:=.mov (.t 48)}])
  (.seq (.reg [
    {dst:=some 49,op:=.mov (.t 12)},
    {dst:=some 50,op:=.bin .eql (.t 49) (.k (.int 0))},
    {dst:=some 51,op:=.mov (.t 50)},
    {dst:=some 52,op:=.mov (.t 14),guard:=some (51,true)},
    {dst:=some 53,op:=.bin .eql (.t 52) (.k (.int 0)),guard:=some (51,true)},
    {dst:=some 54,op:=.pick (.t 51) (.t 53) (.k (.bool false))},
    {dst:=some 55,op:=.mov (.t 54)},
    {dst:=some 56,op:=.load 3 true (.t 13),guard:=some (55,true)},
    {dst:=some 57,op:=.load 3 true (.t 5),guard:=some (55,true)},
    {dst:=some 58,op:=.call (.f f_ref08_Same) [(.t 56),(.t 57)],guard:=some (55,true)},
    {dst:=some 59,op:=.pick (.t 55) (.t 58) (.k (.bool false))},
    {dst:=some 60,op:=.mov (.t 59)},
    {dst:=some 61,op:=.call (.f f_law12_awake) [],guard:=some (60,true)},
    {dst:=some 62,op:=.pick (.t 60) (.t 61) (.k (.bool false))},
    {dst:=some 8,op:=.mov (.t 62)}])
  .ret))))))
end Go.Proofs.YthhjkfilfhmakaaDoor.Nx
