import Derived.Test.YtadfkfgjhaijiaaDoorNxD15
set_option linter.unusedSimpArgs false
set_option linter.unusedVariables false
set_option linter.unnecessarySimpa false
namespace Go.Proofs.YtadfkfgjhaijiaaDoor.Nx
open Go
def x_law19_ChangeConcatenation (f_law19_great f_ref19_Great f_law19_awake f_change_Apply f_view_Equal:FuncId):XC :=
(.seq (.reg [
    {dst:=some 3,op:=.box ⟨6,64⟩ (.t 0)},
    {dst:=some 6,op:=.mov (.k (.bool false))}])
  (.seq (.seq (.reg [
    {dst:=some 16,op:=.load 6 true (.t 3)},
    {dst:=some 17,op:=.mov (.t 1)},
    {dst:=some 18,op:=.call (.f f_law19_great) [(.t 16),(.t 17)]},
    {dst:=some 19,op:=.mov (.t 18)},
    {dst:=some 20,op:=.mov (.t 2),guard:=some (19,false)},
    {dst:=some 21,op:=.call (.f f_ref19_Great) [(.t 20)],guard:=some (19,false)},
    {dst:=some 22,op:=.pick (.t 19) (.k (.bool true)) (.t 21)}])
  (.cond (.t 22)
    (.seq (.reg [
      {dst:=some 23,op:=.call (.f f_law19_awake) []},
      {dst:=some 6,op:=.mov (.t 23)}])
    .ret)
    .skip))
  (.seq (.reg [
    {dst:=some 25,op:=.load 6 true (.t 3)},
    {dst:=some 26,op:=.mov (.t 1)},
    {dst:=some 27,op:=.call (.f f_change_Apply) [(.t 25),(.t 26)]},
    {dst:=some 24,op:=.mov (.t 27)},
    {dst:=some 28,op:=.extract 0 (.t 24)},
    {dst:=some 29,op:=.extract 1 (.t 24)},
    {dst:=some 30,op:=.extract 2 (.t 24)},
    {dst:=some 7,op:=.alloc ⟨6,64⟩ [(.int 0),(.int 0),.nil,(.int 0),(.int 0),(.bool false)]},
    {dst:=none,op:=.store 6 (.t 7) (.t 28)},
    {dst:=some 8,op:=.mov (.t 29)},
    {dst:=some 9,op:=.mov (.t 30)}])
  (.seq (.seq (.reg [
    {dst:=some 31,op:=.mov (.t 9)},
    {dst:=some 32,op:=.bin .neq (.t 31) (.k (.int 0))}])
  (.cond (.t 32)
    (.seq (.reg [
      {dst:=some 33,op:=.call (.f f_law19_awake) []},
      {dst:=some 6,op:=.mov (.t 33)}])
    .ret)
    .skip))
  (.seq (.reg [
    {dst:=some 35,op:=.load 6 true (.t 7)},
    {dst:=some 36,op:=.mov (.t 2)},
    {dst:=some 37,op:=.call (.f f_change_Apply) [(.t 35),(.t 36)]},
    {dst:=some 34,op:=.mov (.t 37)},
    {dst:=some 38,op:=.extract 0 (.t 34)},
    {dst:=some 39,op:=.extract 1 (.t 34)},
    {dst:=some 40,op:=.extract 2 (.t 34)},
    {dst:=some 10,op:=.alloc ⟨6,64⟩ [(.int 0),(.int 0),.nil,(.int 0),(.int 0),(.bool false)]},
    {dst:=none,op:=.store 6 (.t 10) (.t 38)},
    {dst:=some 11,op:=.mov (.t 39)},
    {dst:=some 12,op:=.mov (.t 40)}])
  (.seq (.drw 4 [
    {dst:=some 42,op:=.load 6 true (.t 3)},
    {dst:=some 43,op:=.bslice ⟨6,64⟩ [(.int 0),(.int 0),(.int 0),(.int 0),(.int 0),.nil] 0 [],pl:=some 0},
    {dst:=some 44,op:=.mov (.t 1)},
    {dst:=some 45,op:=.append ⟨6,64⟩ (.t 43) (.t 44),pl:=some 1},
    {dst:=some 46,op:=.mov (.t 2)},
    {dst:=some 47,op:=.append ⟨6,64⟩ (.t 45) (.t 46),pl:=some 2},
    {dst:=some 48,op:=.calln (.f f_change_Apply) [(.t 42),(.t 47)]},
    {dst:=some 41,op:=.mov (.t 48)},
    {dst:=some 49,op:=.extract 0 (.t 41)},
    {dst:=some 50,op:=.extract 1 (.t 41)},
    {dst:=some 51,op:=.extract 2 (.t 41)},
    {dst:=some 13,op:=.alloc ⟨6,64⟩ [(.int 0),(.int 0),.nil,(.int 0),(.int 0),(.bool false)],pl:=some 3},
    {dst:=none,op:=.store 6 (.t 13) (.t 49)},
    {dst:=some 14,op:=.mov (.t 50)},
    {dst:=some 15,op:=.mov (.t 51)}] [(43,some 0),(44,none),(45,some 1000),(46,none),(47,some 1000),(13,some 3)])
  (.seq (.seq (.reg [
    {dst:=some 52,op:=.mov (.t 12)},
    {dst:=some 53,op:=.bin .neq (.t 52) (.k (.int 0))}])
  (.cond (.t 53)
    (.seq (.reg [
      {dst:=some 54,op:=.mov (.t 15)},
      {dst:=some 55,op:=.mov (.t 12)},
      {dst:=some 56,op:=.bin .eql (.t 54) (.t 55)},
      {dst:=some 57,op:=.mov (.t 56)},
      {dst:=some 58,op:=.mov (.t 14),guard:=some (57,true)},
      {dst:=some 59,op:=.mov (.t 1),guard:=some (57,true)},
      {dst:=some 60,op:=.len false (.t 59),guard:=some (57,true)},
      {dst:=some 61,op:=.mov (.t 11),guard:=some (57,true)},
      {dst:=some 62,op:=.bin .add (.t 60) (.t 61),guard:=some (57,true)},
      {dst:=some 63,op:=.bin .eql (.t 58) (.t 62),guard:=some (57,true)},
      {dst:=some 64,op:=.pick (.t 57) (.t 63) (.k (.bool false))},
      {dst:=some 65,op:=.mov (.t 64)},
      {dst:=some 66,op:=.call (.f f_law19_awake) [],guard:=some (65,true)},
      {dst:=some 67,op:=.pick (.t 65) (.t 66) (.k (.bool false))},
      {dst:=some 6,op:=.mov (.t 67)}])
    .ret)
    .skip))
  (.seq (.reg [
    {dst:=some 68,op:=.mov (.t 15)},
    {dst:=some 69,op:=.bin .eql (.t 68) (.k (.int 0))},
    {dst:=some 70,op:=.mov (.t 69)},
    {dst:=some 71,op:=.mov (.t 14),guard:=some (70,true)},
    {dst:=some 72,op:=.bin .eql (.t 71) (.k (.int 0)),guard:=some (70,true)},
    {dst:=some 73,op:=.pick (.t 70) (.t 72) (.k (.bool false))},
    {dst:=some 74,op:=.mov (.t 73)},
    {dst:=some 75,op:=.load 6 true (.t 10),guard:=some (74,true)},
    {dst:=some 76,op:=.load 6 true (.t 13),guard:=some (74,true)},
    {dst:=some 77,op:=.call (.f f_view_Equal) [(.t 75),(.t 76)],guard:=some (74,true)},
    {dst:=some 78,op:=.pick (.t 74) (.t 77) (.k (.bool false))},
    {dst:=some 79,op:=.mov (.t 78)},
    {dst:=some 80,op:=.call (.f f_law19_awake) [],guard:=some (79,true)},
    {dst:=some 81,op:=.pick (.t 79) (.t 80) (.k (.bool false))},
    {dst:=some 6,op:=.mov (.t 81)}])
  .ret))))))))
end Go.Proofs.YtadfkfgjhaijiaaDoor.Nx
