import Derived.Test.YtigfbnglplbbpaaDoorNxD15
set_option linter.unusedSimpArgs false
set_option linter.unusedVariables false
set_option linter.unnecessarySimpa false
namespace Go.Proofs.YtigfbnglplbbpaaDoor.Nx
open Go
def x_law20_ViewdiffForm (f_law20_small f_law20_awake f_viewdiff_Diff:FuncId):XC :=
(.seq (.reg [
    {dst:=some 2,op:=.box ⟨6,64⟩ (.t 0)},
    {dst:=some 3,op:=.box ⟨6,64⟩ (.t 1)},
    {dst:=some 4,op:=.mov (.k (.bool false))}])
  (.seq (.seq (.reg [
    {dst:=some 10,op:=.load 6 true (.t 2)},
    {dst:=some 11,op:=.load 6 true (.t 3)},
    {dst:=some 12,op:=.call (.f f_law20_small) [(.t 10),(.t 11)]},
    {dst:=some 13,op:=.un .not (.t 12)}])
  (.cond (.t 13)
    (.seq (.reg [
      {dst:=some 14,op:=.call (.f f_law20_awake) []},
      {dst:=some 4,op:=.mov (.t 14)}])
    .ret)
    .skip))
  (.seq (.reg [
    {dst:=some 5,op:=.mov (.k (.int 0))},
    {dst:=some 6,op:=.mov (.k (.int 0))}])
  (.seq (.seq (.reg [
    {dst:=some 15,op:=.load 6 true (.t 2)},
    {dst:=some 16,op:=.load 6 true (.t 3)},
    {dst:=some 17,op:=.call (.f f_viewdiff_Diff) [(.t 15),(.t 16)]},
    {dst:=some 18,op:=.len false (.t 17)},
    {dst:=some 19,op:=.mov (.k (.int 0))}])
  (.block 0 (.loop (.seq (.reg [
    {dst:=some 20,op:=.bin .lss (.t 19) (.t 18)}])
  (.seq (.cond (.t 20)
    .skip
    (.exit 0))
  (.seq (.block 1 (.seq (.reg [
    {dst:=some 21,op:=.iaddr ⟨6,64⟩ (.t 17) (.t 19)},
    {dst:=some 22,op:=.load 6 true (.t 21)},
    {dst:=some 8,op:=.alloc ⟨6,64⟩ [(.int 0),(.int 0),(.int 0),(.int 0),(.int 0),.nil]},
    {dst:=none,op:=.store 6 (.t 8) (.t 22)}])
  (.seq (.reg [
    {dst:=some 9,op:=.mov (.k (.int 0))}])
  (.seq (.seq (.reg [
    {dst:=some 23,op:=.faddr 0 (.t 8)},
    {dst:=some 24,op:=.load 1 false (.t 23)}])
  (.block 2 (.seq (.reg [
    {dst:=some 26,op:=.bin .eql (.t 24) (.k (.int 1))},
    {dst:=some 25,op:=.mov (.t 26)}])
  (.cond (.t 25)
    (.reg [
      {dst:=some 9,op:=.mov (.k (.int 1))}])
    (.seq (.reg [
      {dst:=some 28,op:=.bin .eql (.t 24) (.k (.int 2))},
      {dst:=some 27,op:=.mov (.t 28)}])
    (.cond (.t 27)
      (.reg [
        {dst:=some 9,op:=.mov (.k (.int 2))}])
      (.seq (.reg [
        {dst:=some 30,op:=.bin .eql (.t 24) (.k (.int 3))},
        {dst:=some 29,op:=.mov (.t 30)}])
      (.cond (.t 29)
        (.reg [
          {dst:=some 9,op:=.mov (.k (.int 3))}])
        (.seq (.reg [
          {dst:=some 32,op:=.bin .eql (.t 24) (.k (.int 4))},
          {dst:=some 31,op:=.mov (.t 32)}])
        (.cond (.t 31)
          (.reg [
            {dst:=some 9,op:=.mov (.k (.int 4))}])
          .skip))))))))))
  (.seq (.seq (.reg [
    {dst:=some 33,op:=.mov (.t 9)},
    {dst:=some 34,op:=.mov (.t 5)},
    {dst:=some 35,op:=.bin .lss (.t 33) (.t 34)},
    {dst:=some 36,op:=.mov (.t 35)},
    {dst:=some 37,op:=.mov (.t 9),guard:=some (36,false)},
    {dst:=some 38,op:=.mov (.t 5),guard:=some (36,false)},
    {dst:=some 39,op:=.bin .eql (.t 37) (.t 38),guard:=some (36,false)},
    {dst:=some 40,op:=.mov (.t 39),guard:=some (36,false)},
    {dst:=some 41,op:=.mov (.t 9),guard:=some (40,true)},
    {dst:=some 42,op:=.bin .neq (.t 41) (.k (.int 3)),guard:=some (40,true)},
    {dst:=some 43,op:=.pick (.t 40) (.t 42) (.k (.bool false)),guard:=some (36,false)},
    {dst:=some 44,op:=.pick (.t 36) (.k (.bool true)) (.t 43)},
    {dst:=some 45,op:=.mov (.t 44)},
    {dst:=some 46,op:=.mov (.t 9),guard:=some (45,false)},
    {dst:=some 47,op:=.bin .eql (.t 46) (.k (.int 3)),guard:=some (45,false)},
    {dst:=some 48,op:=.mov (.t 47),guard:=some (45,false)},
    {dst:=some 49,op:=.faddr 1 (.t 8),guard:=some (48,true)},
    {dst:=some 50,op:=.load 1 false (.t 49),guard:=some (48,true)},
    {dst:=some 51,op:=.mov (.t 6),guard:=some (48,true)},
    {dst:=some 52,op:=.bin .lss (.t 50) (.t 51),guard:=some (48,true)},
    {dst:=some 53,op:=.pick (.t 48) (.t 52) (.k (.bool false)),guard:=some (45,false)},
    {dst:=some 54,op:=.pick (.t 45) (.k (.bool true)) (.t 53)}])
  (.cond (.t 54)
    (.seq (.reg [
      {dst:=some 4,op:=.mov (.k (.bool false))}])
    .ret)
    .skip))
  (.seq (.reg [
    {dst:=some 55,op:=.mov (.t 9)},
    {dst:=some 5,op:=.mov (.t 55)}])
  (.seq (.reg [
    {dst:=some 56,op:=.mov (.t 9)},
    {dst:=some 57,op:=.bin .eql (.t 56) (.k (.int 3))}])
  (.cond (.t 57)
    (.reg [
      {dst:=some 58,op:=.faddr 1 (.t 8)},
      {dst:=some 59,op:=.load 1 false (.t 58)},
      {dst:=some 6,op:=.mov (.t 59)}])
    .skip))))))))
  (.reg [
    {dst:=some 60,op:=.bin .add (.t 19) (.k (.int 1))},
    {dst:=some 19,op:=.mov (.t 60)}])))))))
  (.seq (.reg [
    {dst:=some 61,op:=.call (.f f_law20_awake) []},
    {dst:=some 4,op:=.mov (.t 61)}])
  .ret)))))
end Go.Proofs.YtigfbnglplbbpaaDoor.Nx
