import Derived.Test.YtigfbnglplbbpaaDoorNxD15
set_option linter.unusedSimpArgs false
set_option linter.unusedVariables false
set_option linter.unnecessarySimpa false
namespace Go.Proofs.YtigfbnglplbbpaaDoor.Nx
open Go
def x_law20_ViewdiffLocal (f_law20_small f_law20_awake f_viewdiff_Diff f_viewdiff_Rows f_ref19_SameInts:FuncId):XC :=
(.seq (.reg [
    {dst:=some 2,op:=.box ⟨6,64⟩ (.t 0)},
    {dst:=some 3,op:=.box ⟨6,64⟩ (.t 1)},
    {dst:=some 4,op:=.mov (.k (.bool false))}])
  (.seq (.seq (.reg [
    {dst:=some 9,op:=.load 6 true (.t 2)},
    {dst:=some 10,op:=.load 6 true (.t 3)},
    {dst:=some 11,op:=.call (.f f_law20_small) [(.t 9),(.t 10)]},
    {dst:=some 12,op:=.un .not (.t 11)},
    {dst:=some 13,op:=.mov (.t 12)},
    {dst:=some 14,op:=.faddr 0 (.t 2),guard:=some (13,false)},
    {dst:=some 15,op:=.load 1 false (.t 14),guard:=some (13,false)},
    {dst:=some 16,op:=.faddr 0 (.t 3),guard:=some (13,false)},
    {dst:=some 17,op:=.load 1 false (.t 16),guard:=some (13,false)},
    {dst:=some 18,op:=.bin .neq (.t 15) (.t 17),guard:=some (13,false)},
    {dst:=some 19,op:=.pick (.t 13) (.k (.bool true)) (.t 18)},
    {dst:=some 20,op:=.mov (.t 19)},
    {dst:=some 21,op:=.faddr 1 (.t 2),guard:=some (20,false)},
    {dst:=some 22,op:=.load 1 false (.t 21),guard:=some (20,false)},
    {dst:=some 23,op:=.faddr 1 (.t 3),guard:=some (20,false)},
    {dst:=some 24,op:=.load 1 false (.t 23),guard:=some (20,false)},
    {dst:=some 25,op:=.bin .neq (.t 22) (.t 24),guard:=some (20,false)},
    {dst:=some 26,op:=.pick (.t 20) (.k (.bool true)) (.t 25)}])
  (.cond (.t 26)
    (.seq (.reg [
      {dst:=some 27,op:=.call (.f f_law20_awake) []},
      {dst:=some 4,op:=.mov (.t 27)}])
    .ret)
    .skip))
  (.seq (.reg [
    {dst:=some 28,op:=.bslice ⟨1,8⟩ [(.int 0)] 0 []},
    {dst:=some 5,op:=.mov (.t 28)}])
  (.seq (.seq (.reg [
    {dst:=some 29,op:=.load 6 true (.t 2)},
    {dst:=some 30,op:=.load 6 true (.t 3)},
    {dst:=some 31,op:=.call (.f f_viewdiff_Diff) [(.t 29),(.t 30)]},
    {dst:=some 32,op:=.len false (.t 31)},
    {dst:=some 33,op:=.mov (.k (.int 0))}])
  (.block 0 (.loop (.seq (.reg [
    {dst:=some 34,op:=.bin .lss (.t 33) (.t 32)}])
  (.seq (.cond (.t 34)
    .skip
    (.exit 0))
  (.seq (.block 1 (.seq (.reg [
    {dst:=some 35,op:=.iaddr ⟨6,64⟩ (.t 31) (.t 33)},
    {dst:=some 36,op:=.load 6 true (.t 35)},
    {dst:=some 7,op:=.alloc ⟨6,64⟩ [(.int 0),(.int 0),(.int 0),(.int 0),(.int 0),.nil]},
    {dst:=none,op:=.store 6 (.t 7) (.t 36)}])
  (.seq (.seq (.reg [
    {dst:=some 37,op:=.faddr 0 (.t 7)},
    {dst:=some 38,op:=.load 1 false (.t 37)},
    {dst:=some 39,op:=.bin .eql (.t 38) (.k (.int 2))}])
  (.cond (.t 39)
    (.seq (.reg [
      {dst:=some 40,op:=.call (.f f_law20_awake) []},
      {dst:=some 4,op:=.mov (.t 40)}])
    .ret)
    .skip))
  (.seq (.reg [
    {dst:=some 41,op:=.mov (.t 5)},
    {dst:=some 42,op:=.len false (.t 41)},
    {dst:=some 8,op:=.mov (.t 42)}])
  (.seq (.drw 0 [
    {dst:=some 43,op:=.faddr 0 (.t 7)},
    {dst:=some 44,op:=.load 1 false (.t 43)},
    {dst:=some 45,op:=.bin .eql (.t 44) (.k (.int 3))},
    {dst:=some 46,op:=.mov (.t 45)},
    {dst:=some 47,op:=.mov (.t 8),guard:=some (46,true)},
    {dst:=some 48,op:=.bin .eql (.t 47) (.k (.int 0)),guard:=some (46,true)},
    {dst:=some 49,op:=.mov (.t 48),guard:=some (46,true)},
    {dst:=some 50,op:=.mov (.t 5),guard:=some (49,false)},
    {dst:=some 51,op:=.mov (.t 8),guard:=some (49,false)},
    {dst:=some 52,op:=.bin .sub (.t 51) (.k (.int 1)),guard:=some (49,false)},
    {dst:=some 53,op:=.iaddr ⟨1,8⟩ (.t 50) (.t 52),guard:=some (49,false)},
    {dst:=some 54,op:=.load 1 false (.t 53),guard:=some (49,false)},
    {dst:=some 55,op:=.faddr 1 (.t 7),guard:=some (49,false)},
    {dst:=some 56,op:=.load 1 false (.t 55),guard:=some (49,false)},
    {dst:=some 57,op:=.bin .neq (.t 54) (.t 56),guard:=some (49,false)},
    {dst:=some 58,op:=.pick (.t 49) (.k (.bool true)) (.t 57),guard:=some (46,true)},
    {dst:=some 59,op:=.pick (.t 46) (.t 58) (.k (.bool false))}])
  (.cond (.t 59)
    (.reg [
      {dst:=some 60,op:=.mov (.t 5)},
      {dst:=some 61,op:=.faddr 1 (.t 7)},
      {dst:=some 62,op:=.load 1 false (.t 61)},
      {dst:=some 63,op:=.bslice ⟨1,8⟩ [(.int 0)] 1 [(0,(.t 62))]},
      {dst:=some 64,op:=.append ⟨1,8⟩ (.t 60) (.t 63)},
      {dst:=some 5,op:=.mov (.t 64)}])
    .skip))))))
  (.reg [
    {dst:=some 65,op:=.bin .add (.t 33) (.k (.int 1))},
    {dst:=some 33,op:=.mov (.t 65)}])))))))
  (.seq (.reg [
    {dst:=some 66,op:=.mov (.t 5)},
    {dst:=some 67,op:=.load 6 true (.t 2)},
    {dst:=some 68,op:=.load 6 true (.t 3)},
    {dst:=some 69,op:=.call (.f f_viewdiff_Rows) [(.t 67),(.t 68)]},
    {dst:=some 70,op:=.call (.f f_ref19_SameInts) [(.t 66),(.t 69)]},
    {dst:=some 71,op:=.mov (.t 70)},
    {dst:=some 72,op:=.call (.f f_law20_awake) [],guard:=some (71,true)},
    {dst:=some 73,op:=.pick (.t 71) (.t 72) (.k (.bool false))},
    {dst:=some 4,op:=.mov (.t 73)}])
  .ret)))))
end Go.Proofs.YtigfbnglplbbpaaDoor.Nx
