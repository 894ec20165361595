import Derived.Test.YthhjkfilfhmakaaDoorNxD15
set_option linter.unusedSimpArgs false
set_option linter.unusedVariables false
set_option linter.unnecessarySimpa false
namespace Go.Proofs.YthhjkfilfhmakaaDoor.Nx
open Go
def x_law12_ScrollbackMoves (f_law12_proper f_ref08_Right f_law12_awake f_scrollback_Window f_ref08_Same f_scrollback_Line f_ref08_SameRows f_ref07_Fit f_ref07_Same:FuncId):XC :=
(.seq (.reg [
    {dst:=some 3,op:=.box ⟨3,40⟩ (.t 1)},
    {dst:=some 4,op:=.mov (.k (.bool false))}])
  (.seq (.seq (.reg [
    {dst:=some 12,op:=.mov (.t 0)},
    {dst:=some 13,op:=.call (.f f_law12_proper) [(.t 12)]},
    {dst:=some 14,op:=.un .not (.t 13)},
    {dst:=some 15,op:=.mov (.t 14)},
    {dst:=some 16,op:=.load 3 true (.t 3),guard:=some (15,false)},
    {dst:=some 17,op:=.call (.f f_ref08_Right) [(.t 16)],guard:=some (15,false)},
    {dst:=some 18,op:=.bin .eql (.t 17) (.k (.int 0)),guard:=some (15,false)},
    {dst:=some 19,op:=.pick (.t 15) (.k (.bool true)) (.t 18)}])
  (.cond (.t 19)
    (.seq (.reg [
      {dst:=some 20,op:=.call (.f f_law12_awake) []},
      {dst:=some 4,op:=.mov (.t 20)}])
    .ret)
    .skip))
  (.seq (.reg [
    {dst:=some 22,op:=.mov (.t 0)},
    {dst:=some 23,op:=.load 3 true (.t 3)},
    {dst:=some 24,op:=.call (.f f_scrollback_Window) [(.t 22),(.t 23),(.k (.int 0))]},
    {dst:=some 21,op:=.mov (.t 24)},
    {dst:=some 25,op:=.extract 0 (.t 21)},
    {dst:=some 26,op:=.extract 1 (.t 21)},
    {dst:=some 5,op:=.alloc ⟨3,40⟩ [(.int 0),(.int 0),.nil]},
    {dst:=none,op:=.store 3 (.t 5) (.t 25)},
    {dst:=some 6,op:=.mov (.t 26)}])
  (.seq (.seq (.reg [
    {dst:=some 27,op:=.mov (.t 6)},
    {dst:=some 28,op:=.bin .neq (.t 27) (.k (.int 0))},
    {dst:=some 29,op:=.mov (.t 28)},
    {dst:=some 30,op:=.load 3 true (.t 5),guard:=some (29,false)},
    {dst:=some 31,op:=.load 3 true (.t 3),guard:=some (29,false)},
    {dst:=some 32,op:=.call (.f f_ref08_Same) [(.t 30),(.t 31)],guard:=some (29,false)},
    {dst:=some 33,op:=.un .not (.t 32),guard:=some (29,false)},
    {dst:=some 34,op:=.pick (.t 29) (.k (.bool true)) (.t 33)}])
  (.cond (.t 34)
    (.seq (.reg [
      {dst:=some 4,op:=.mov (.k (.bool false))}])
    .ret)
    .skip))
  (.seq (.seq (.reg [
    {dst:=some 7,op:=.mov (.k (.int 1))}])
  (.block 0 (.loop (.seq (.seq (.reg [
    {dst:=some 35,op:=.mov (.t 7)},
    {dst:=some 36,op:=.mov (.t 0)},
    {dst:=some 37,op:=.len false (.t 36)},
    {dst:=some 38,op:=.bin .leq (.t 35) (.t 37)}])
  (.cond (.t 38)
    .skip
    (.exit 0)))
  (.seq (.block 1 (.seq (.reg [
    {dst:=some 42,op:=.mov (.t 0)},
    {dst:=some 43,op:=.load 3 true (.t 3)},
    {dst:=some 44,op:=.mov (.t 7)},
    {dst:=some 45,op:=.call (.f f_scrollback_Window) [(.t 42),(.t 43),(.t 44)]},
    {dst:=some 41,op:=.mov (.t 45)},
    {dst:=some 46,op:=.extract 0 (.t 41)},
    {dst:=some 47,op:=.extract 1 (.t 41)},
    {dst:=some 8,op:=.alloc ⟨3,40⟩ [(.int 0),(.int 0),.nil]},
    {dst:=none,op:=.store 3 (.t 8) (.t 46)},
    {dst:=some 9,op:=.mov (.t 47)}])
  (.seq (.reg [
    {dst:=some 49,op:=.mov (.t 0)},
    {dst:=some 50,op:=.mov (.t 7)},
    {dst:=some 51,op:=.bin .sub (.t 50) (.k (.int 1))},
    {dst:=some 52,op:=.call (.f f_scrollback_Line) [(.t 49),(.t 51)]},
    {dst:=some 48,op:=.mov (.t 52)},
    {dst:=some 53,op:=.extract 0 (.t 48)},
    {dst:=some 54,op:=.extract 1 (.t 48)},
    {dst:=some 10,op:=.mov (.t 53)},
    {dst:=some 11,op:=.mov (.t 54)}])
  (.seq (.seq (.drw 0 [
    {dst:=some 55,op:=.mov (.t 9)},
    {dst:=some 56,op:=.bin .neq (.t 55) (.k (.int 0))},
    {dst:=some 57,op:=.mov (.t 56)},
    {dst:=some 58,op:=.mov (.t 11),guard:=some (57,false)},
    {dst:=some 59,op:=.bin .neq (.t 58) (.k (.int 0)),guard:=some (57,false)},
    {dst:=some 60,op:=.pick (.t 57) (.k (.bool true)) (.t 59)},
    {dst:=some 61,op:=.mov (.t 60)},
    {dst:=some 62,op:=.faddr 2 (.t 8),guard:=some (61,false)},
    {dst:=some 63,op:=.load 1 false (.t 62),guard:=some (61,false)},
    {dst:=some 64,op:=.len false (.t 63),guard:=some (61,false)},
    {dst:=some 65,op:=.faddr 1 (.t 3),guard:=some (61,false)},
    {dst:=some 66,op:=.load 1 false (.t 65),guard:=some (61,false)},
    {dst:=some 67,op:=.bin .neq (.t 64) (.t 66),guard:=some (61,false)},
    {dst:=some 68,op:=.pick (.t 61) (.k (.bool true)) (.t 67)},
    {dst:=some 69,op:=.mov (.t 68)},
    {dst:=some 70,op:=.faddr 2 (.t 8),guard:=some (69,false)},
    {dst:=some 71,op:=.load 1 false (.t 70),guard:=some (69,false)},
    {dst:=some 72,op:=.slice ⟨1,24⟩ (.t 71) (some (.k (.int 1))) none none,guard:=some (69,false)},
    {dst:=some 73,op:=.faddr 2 (.t 5),guard:=some (69,false)},
    {dst:=some 74,op:=.load 1 false (.t 73),guard:=some (69,false)},
    {dst:=some 75,op:=.faddr 1 (.t 3),guard:=some (69,false)},
    {dst:=some 76,op:=.load 1 false (.t 75),guard:=some (69,false)},
    {dst:=some 77,op:=.bin .sub (.t 76) (.k (.int 1)),guard:=some (69,false)},
    {dst:=some 78,op:=.slice ⟨1,24⟩ (.t 74) none (some (.t 77)) none,guard:=some (69,false)},
    {dst:=some 79,op:=.call (.f f_ref08_SameRows) [(.t 72),(.t 78)],guard:=some (69,false)},
    {dst:=some 80,op:=.un .not (.t 79),guard:=some (69,false)},
    {dst:=some 81,op:=.pick (.t 69) (.k (.bool true)) (.t 80)},
    {dst:=some 82,op:=.mov (.t 81)},
    {dst:=some 83,op:=.faddr 2 (.t 8),guard:=some (82,false)},
    {dst:=some 84,op:=.load 1 false (.t 83),guard:=some (82,false)},
    {dst:=some 85,op:=.iaddr ⟨1,24⟩ (.t 84) (.k (.int 0)),guard:=some (82,false)},
    {dst:=some 86,op:=.load 1 false (.t 85),guard:=some (82,false)},
    {dst:=some 87,op:=.mov (.t 10),guard:=some (82,false)},
    {dst:=some 88,op:=.faddr 0 (.t 3),guard:=some (82,false)},
    {dst:=some 89,op:=.load 1 false (.t 88),guard:=some (82,false)},
    {dst:=some 90,op:=.call (.f f_ref07_Fit) [(.t 87),(.t 89)],guard:=some (82,false)},
    {dst:=some 91,op:=.call (.f f_ref07_Same) [(.t 86),(.t 90)],guard:=some (82,false)},
    {dst:=some 92,op:=.un .not (.t 91),guard:=some (82,false)},
    {dst:=some 93,op:=.pick (.t 82) (.k (.bool true)) (.t 92)}])
  (.cond (.t 93)
    (.seq (.reg [
      {dst:=some 4,op:=.mov (.k (.bool false))}])
    .ret)
    .skip))
  (.reg [
    {dst:=some 94,op:=.load 3 true (.t 8)},
    {dst:=none,op:=.store 3 (.t 5) (.t 94)}])))))
  (.reg [
    {dst:=some 39,op:=.mov (.t 7)},
    {dst:=some 40,op:=.bin .add (.t 39) (.k (.int 1))},
    {dst:=some 7,op:=.mov (.t 40)}]))))))
  (.seq (.reg [
    {dst:=some 95,op:=.call (.f f_law12_awake) []},
    {dst:=some 4,op:=.mov (.t 95)}])
  .ret))))))
def x_law12_proper (f_ref07_Check f_ref12_Great:FuncId):XC :=
(.seq (.reg [
    {dst:=some 2,op:=.mov (.k (.bool false))}])
  (.seq (.seq (.reg [
    {dst:=some 5,op:=.mov (.t 0)},
    {dst:=some 6,op:=.len false (.t 5)},
    {dst:=some 7,op:=.mov (.k (.int 0))}])
  (.block 0 (.loop (.seq (.reg [
    {dst:=some 8,op:=.bin .lss (.t 7) (.t 6)}])
  (.seq (.cond (.t 8)
    .skip
    (.exit 0))
  (.seq (.block 1 (.seq (.reg [
    {dst:=some 9,op:=.iaddr ⟨1,24⟩ (.t 5) (.t 7)},
    {dst:=some 10,op:=.load 1 false (.t 9)},
    {dst:=some 4,op:=.mov (.t 10)}])
  (.seq (.reg [
    {dst:=some 11,op:=.mov (.t 4)},
    {dst:=some 12,op:=.call (.f f_ref07_Check) [(.t 11)]},
    {dst:=some 13,op:=.bin .neq (.t 12) (.k (.int 0))}])
  (.cond (.t 13)
    (.seq (.reg [
      {dst:=some 2,op:=.mov (.k (.bool false))}])
    .ret)
    .skip))))
  (.reg [
    {dst:=some 14,op:=.bin .add (.t 7) (.k (.int 1))},
    {dst:=some 7,op:=.mov (.t 14)}])))))))
  (.seq (.reg [
    {dst:=some 15,op:=.mov (.t 0)},
    {dst:=some 16,op:=.call (.f f_ref12_Great) [(.t 15)]},
    {dst:=some 17,op:=.bin .eql (.t 16) (.k (.int 0))},
    {dst:=some 2,op:=.mov (.t 17)}])
  .ret)))
end Go.Proofs.YthhjkfilfhmakaaDoor.Nx
