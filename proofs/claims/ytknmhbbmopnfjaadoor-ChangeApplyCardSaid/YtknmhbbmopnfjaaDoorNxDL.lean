import Derived.Test.YtknmhbbmopnfjaaDoorNxD15
set_option linter.unusedSimpArgs false
set_option linter.unusedVariables false
set_option linter.unnecessarySimpa false
namespace Go.Proofs.YtknmhbbmopnfjaaDoor.Nx
open Go
def x_law19_ChangeApply (f_law19_great f_law19_awake f_change_Apply f_ref19_Apply f_ref15_Same f_change_Rows f_ref19_Rows f_ref19_SameInts:FuncId):XC :=
(.seq (.reg [
    {dst:=some 2,op:=.box ⟨6,64⟩ (.t 0)},
    {dst:=some 4,op:=.mov (.k (.bool false))}])
  (.seq (.seq (.reg [
    {dst:=some 11,op:=.load 6 true (.t 2)},
    {dst:=some 12,op:=.mov (.t 1)},
    {dst:=some 13,op:=.call (.f f_law19_great) [(.t 11),(.t 12)]}])
  (.cond (.t 13)
    (.seq (.reg [
      {dst:=some 14,op:=.call (.f f_law19_awake) []},
      {dst:=some 4,op:=.mov (.t 14)}])
    .ret)
    .skip))
  (.seq (.reg [
    {dst:=some 16,op:=.load 6 true (.t 2)},
    {dst:=some 17,op:=.mov (.t 1)},
    {dst:=some 18,op:=.call (.f f_change_Apply) [(.t 16),(.t 17)]},
    {dst:=some 15,op:=.mov (.t 18)},
    {dst:=some 19,op:=.extract 0 (.t 15)},
    {dst:=some 20,op:=.extract 1 (.t 15)},
    {dst:=some 21,op:=.extract 2 (.t 15)},
    {dst:=some 5,op:=.alloc ⟨6,64⟩ [(.int 0),(.int 0),.nil,(.int 0),(.int 0),(.bool false)]},
    {dst:=none,op:=.store 6 (.t 5) (.t 19)},
    {dst:=some 6,op:=.mov (.t 20)},
    {dst:=some 7,op:=.mov (.t 21)}])
  (.seq (.reg [
    {dst:=some 23,op:=.load 6 true (.t 2)},
    {dst:=some 24,op:=.mov (.t 1)},
    {dst:=some 25,op:=.call (.f f_ref19_Apply) [(.t 23),(.t 24)]},
    {dst:=some 22,op:=.mov (.t 25)},
    {dst:=some 26,op:=.extract 0 (.t 22)},
    {dst:=some 27,op:=.extract 1 (.t 22)},
    {dst:=some 28,op:=.extract 2 (.t 22)},
    {dst:=some 8,op:=.alloc ⟨6,64⟩ [(.int 0),(.int 0),.nil,(.int 0),(.int 0),(.bool false)]},
    {dst:=none,op:=.store 6 (.t 8) (.t 26)},
    {dst:=some 9,op:=.mov (.t 27)},
    {dst:=some 10,op:=.mov (.t 28)}])
  (.seq (.drw 0 [
    {dst:=some 29,op:=.load 6 true (.t 5)},
    {dst:=some 30,op:=.load 6 true (.t 8)},
    {dst:=some 31,op:=.call (.f f_ref15_Same) [(.t 29),(.t 30)]},
    {dst:=some 32,op:=.mov (.t 31)},
    {dst:=some 33,op:=.mov (.t 6),guard:=some (32,true)},
    {dst:=some 34,op:=.mov (.t 9),guard:=some (32,true)},
    {dst:=some 35,op:=.bin .eql (.t 33) (.t 34),guard:=some (32,true)},
    {dst:=some 36,op:=.pick (.t 32) (.t 35) (.k (.bool false))},
    {dst:=some 37,op:=.mov (.t 36)},
    {dst:=some 38,op:=.mov (.t 7),guard:=some (37,true)},
    {dst:=some 39,op:=.mov (.t 10),guard:=some (37,true)},
    {dst:=some 40,op:=.bin .eql (.t 38) (.t 39),guard:=some (37,true)},
    {dst:=some 41,op:=.pick (.t 37) (.t 40) (.k (.bool false))},
    {dst:=some 42,op:=.mov (.t 41)},
    {dst:=some 43,op:=.load 6 true (.t 2),guard:=some (42,true)},
    {dst:=some 44,op:=.mov (.t 1),guard:=some (42,true)},
    {dst:=some 45,op:=.call (.f f_change_Rows) [(.t 43),(.t 44)],guard:=some (42,true)},
    {dst:=some 46,op:=.load 6 true (.t 2),guard:=some (42,true)},
    {dst:=some 47,op:=.mov (.t 1),guard:=some (42,true)},
    {dst:=some 48,op:=.call (.f f_ref19_Rows) [(.t 46),(.t 47)],guard:=some (42,true)},
    {dst:=some 49,op:=.call (.f f_ref19_SameInts) [(.t 45),(.t 48)],guard:=some (42,true)},
    {dst:=some 50,op:=.pick (.t 42) (.t 49) (.k (.bool false))},
    {dst:=some 51,op:=.mov (.t 50)},
    {dst:=some 52,op:=.call (.f f_law19_awake) [],guard:=some (51,true)},
    {dst:=some 53,op:=.pick (.t 51) (.t 52) (.k (.bool false))},
    {dst:=some 4,op:=.mov (.t 53)}])
  .ret)))))
end Go.Proofs.YtknmhbbmopnfjaaDoor.Nx
