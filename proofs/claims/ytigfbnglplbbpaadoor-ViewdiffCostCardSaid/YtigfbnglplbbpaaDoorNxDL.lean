import Derived.Test.YtigfbnglplbbpaaDoorNxD15
set_option linter.unusedSimpArgs false
set_option linter.unusedVariables false
set_option linter.unnecessarySimpa false
namespace Go.Proofs.YtigfbnglplbbpaaDoor.Nx
open Go
def x_law20_ViewdiffCost (f_law20_small f_law20_awake f_viewdiff_Rows f_rowdiff_Splices f_rowdiff_Cost f_viewdiff_Diff f_viewdiff_Cost:FuncId):XC :=
(.seq (.reg [
    {dst:=some 2,op:=.box ⟨6,64⟩ (.t 0)},
    {dst:=some 3,op:=.box ⟨6,64⟩ (.t 1)},
    {dst:=some 4,op:=.mov (.k (.bool false))}])
  (.seq (.seq (.reg [
    {dst:=some 10,op:=.load 6 true (.t 2)},
    {dst:=some 11,op:=.load 6 true (.t 3)},
    {dst:=some 12,op:=.call (.f f_law20_small) [(.t 10),(.t 11)]},
    {dst:=some 13,op:=.un .not (.t 12)},
    {dst:=some 14,op:=.mov (.t 13)},
    {dst:=some 15,op:=.faddr 0 (.t 2),guard:=some (14,false)},
    {dst:=some 16,op:=.load 1 false (.t 15),guard:=some (14,false)},
    {dst:=some 17,op:=.faddr 0 (.t 3),guard:=some (14,false)},
    {dst:=some 18,op:=.load 1 false (.t 17),guard:=some (14,false)},
    {dst:=some 19,op:=.bin .neq (.t 16) (.t 18),guard:=some (14,false)},
    {dst:=some 20,op:=.pick (.t 14) (.k (.bool true)) (.t 19)},
    {dst:=some 21,op:=.mov (.t 20)},
    {dst:=some 22,op:=.faddr 1 (.t 2),guard:=some (21,false)},
    {dst:=some 23,op:=.load 1 false (.t 22),guard:=some (21,false)},
    {dst:=some 24,op:=.faddr 1 (.t 3),guard:=some (21,false)},
    {dst:=some 25,op:=.load 1 false (.t 24),guard:=some (21,false)},
    {dst:=some 26,op:=.bin .neq (.t 23) (.t 25),guard:=some (21,false)},
    {dst:=some 27,op:=.pick (.t 21) (.k (.bool true)) (.t 26)}])
  (.cond (.t 27)
    (.seq (.reg [
      {dst:=some 28,op:=.call (.f f_law20_awake) []},
      {dst:=some 4,op:=.mov (.t 28)}])
    .ret)
    .skip))
  (.seq (.reg [
    {dst:=some 5,op:=.mov (.k (.int 0))},
    {dst:=some 6,op:=.mov (.k (.int 0))}])
  (.seq (.seq (.reg [
    {dst:=some 29,op:=.faddr 3 (.t 2)},
    {dst:=some 30,op:=.load 1 false (.t 29)},
    {dst:=some 31,op:=.faddr 3 (.t 3)},
    {dst:=some 32,op:=.load 1 false (.t 31)},
    {dst:=some 33,op:=.bin .neq (.t 30) (.t 32)},
    {dst:=some 34,op:=.mov (.t 33)},
    {dst:=some 35,op:=.faddr 4 (.t 2),guard:=some (34,false)},
    {dst:=some 36,op:=.load 1 false (.t 35),guard:=some (34,false)},
    {dst:=some 37,op:=.faddr 4 (.t 3),guard:=some (34,false)},
    {dst:=some 38,op:=.load 1 false (.t 37),guard:=some (34,false)},
    {dst:=some 39,op:=.bin .neq (.t 36) (.t 38),guard:=some (34,false)},
    {dst:=some 40,op:=.pick (.t 34) (.k (.bool true)) (.t 39)},
    {dst:=some 41,op:=.mov (.t 40)},
    {dst:=some 42,op:=.faddr 5 (.t 2),guard:=some (41,false)},
    {dst:=some 43,op:=.load 1 false (.t 42),guard:=some (41,false)},
    {dst:=some 44,op:=.faddr 5 (.t 3),guard:=some (41,false)},
    {dst:=some 45,op:=.load 1 false (.t 44),guard:=some (41,false)},
    {dst:=some 46,op:=.eqb true (.t 43) (.t 45),guard:=some (41,false)},
    {dst:=some 47,op:=.pick (.t 41) (.k (.bool true)) (.t 46)}])
  (.cond (.t 47)
    (.reg [
      {dst:=some 5,op:=.mov (.k (.int 1))},
      {dst:=some 6,op:=.mov (.k (.int 1))}])
    .skip))
  (.seq (.seq (.reg [
    {dst:=some 48,op:=.load 6 true (.t 2)},
    {dst:=some 49,op:=.load 6 true (.t 3)},
    {dst:=some 50,op:=.call (.f f_viewdiff_Rows) [(.t 48),(.t 49)]},
    {dst:=some 51,op:=.len false (.t 50)},
    {dst:=some 52,op:=.mov (.k (.int 0))}])
  (.block 0 (.loop (.seq (.reg [
    {dst:=some 53,op:=.bin .lss (.t 52) (.t 51)}])
  (.seq (.cond (.t 53)
    .skip
    (.exit 0))
  (.seq (.block 1 (.seq (.reg [
    {dst:=some 54,op:=.iaddr ⟨1,8⟩ (.t 50) (.t 52)},
    {dst:=some 55,op:=.load 1 false (.t 54)},
    {dst:=some 8,op:=.mov (.t 55)}])
  (.seq (.seq (.reg [
    {dst:=some 56,op:=.mov (.t 8)},
    {dst:=some 57,op:=.bin .lss (.t 56) (.k (.int 0))},
    {dst:=some 58,op:=.mov (.t 57)},
    {dst:=some 59,op:=.mov (.t 8),guard:=some (58,false)},
    {dst:=some 60,op:=.faddr 1 (.t 2),guard:=some (58,false)},
    {dst:=some 61,op:=.load 1 false (.t 60),guard:=some (58,false)},
    {dst:=some 62,op:=.bin .geq (.t 59) (.t 61),guard:=some (58,false)},
    {dst:=some 63,op:=.pick (.t 58) (.k (.bool true)) (.t 62)}])
  (.cond (.t 63)
    (.seq (.reg [
      {dst:=some 4,op:=.mov (.k (.bool false))}])
    .ret)
    .skip))
  (.seq (.drw 0 [
    {dst:=some 64,op:=.mov (.t 5)},
    {dst:=some 65,op:=.mov (.t 8)},
    {dst:=some 66,op:=.faddr 2 (.t 2)},
    {dst:=some 67,op:=.load 1 false (.t 66)},
    {dst:=some 68,op:=.mov (.t 8)},
    {dst:=some 69,op:=.iaddr ⟨1,24⟩ (.t 67) (.t 68)},
    {dst:=some 70,op:=.load 1 false (.t 69)},
    {dst:=some 71,op:=.faddr 2 (.t 3)},
    {dst:=some 72,op:=.load 1 false (.t 71)},
    {dst:=some 73,op:=.mov (.t 8)},
    {dst:=some 74,op:=.iaddr ⟨1,24⟩ (.t 72) (.t 73)},
    {dst:=some 75,op:=.load 1 false (.t 74)},
    {dst:=some 76,op:=.call (.f f_rowdiff_Splices) [(.t 65),(.t 70),(.t 75)]},
    {dst:=some 77,op:=.call (.f f_rowdiff_Cost) [(.t 76)]},
    {dst:=some 78,op:=.bin .add (.t 64) (.t 77)},
    {dst:=some 5,op:=.mov (.t 78)}])
  (.drw 0 [
    {dst:=some 79,op:=.mov (.t 6)},
    {dst:=some 80,op:=.faddr 2 (.t 2)},
    {dst:=some 81,op:=.load 1 false (.t 80)},
    {dst:=some 82,op:=.mov (.t 8)},
    {dst:=some 83,op:=.iaddr ⟨1,24⟩ (.t 81) (.t 82)},
    {dst:=some 84,op:=.load 1 false (.t 83)},
    {dst:=some 85,op:=.len false (.t 84)},
    {dst:=some 86,op:=.bin .add (.k (.int 2)) (.t 85)},
    {dst:=some 87,op:=.faddr 2 (.t 3)},
    {dst:=some 88,op:=.load 1 false (.t 87)},
    {dst:=some 89,op:=.mov (.t 8)},
    {dst:=some 90,op:=.iaddr ⟨1,24⟩ (.t 88) (.t 89)},
    {dst:=some 91,op:=.load 1 false (.t 90)},
    {dst:=some 92,op:=.len false (.t 91)},
    {dst:=some 93,op:=.bin .add (.t 86) (.t 92)},
    {dst:=some 94,op:=.bin .add (.t 79) (.t 93)},
    {dst:=some 6,op:=.mov (.t 94)}])))))
  (.reg [
    {dst:=some 95,op:=.bin .add (.t 52) (.k (.int 1))},
    {dst:=some 52,op:=.mov (.t 95)}])))))))
  (.seq (.reg [
    {dst:=some 96,op:=.load 6 true (.t 2)},
    {dst:=some 97,op:=.load 6 true (.t 3)},
    {dst:=some 98,op:=.call (.f f_viewdiff_Diff) [(.t 96),(.t 97)]},
    {dst:=some 99,op:=.call (.f f_viewdiff_Cost) [(.t 98)]},
    {dst:=some 9,op:=.mov (.t 99)}])
  (.seq (.reg [
    {dst:=some 100,op:=.mov (.t 9)},
    {dst:=some 101,op:=.mov (.t 5)},
    {dst:=some 102,op:=.bin .leq (.t 100) (.t 101)},
    {dst:=some 103,op:=.mov (.t 102)},
    {dst:=some 104,op:=.mov (.t 5),guard:=some (103,true)},
    {dst:=some 105,op:=.mov (.t 6),guard:=some (103,true)},
    {dst:=some 106,op:=.bin .leq (.t 104) (.t 105),guard:=some (103,true)},
    {dst:=some 107,op:=.pick (.t 103) (.t 106) (.k (.bool false))},
    {dst:=some 108,op:=.mov (.t 107)},
    {dst:=some 109,op:=.call (.f f_law20_awake) [],guard:=some (108,true)},
    {dst:=some 110,op:=.pick (.t 108) (.t 109) (.k (.bool false))},
    {dst:=some 4,op:=.mov (.t 110)}])
  .ret)))))))
end Go.Proofs.YtigfbnglplbbpaaDoor.Nx
