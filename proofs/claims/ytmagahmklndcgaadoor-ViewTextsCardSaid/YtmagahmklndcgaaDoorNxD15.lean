/- The functions, as the abstract machine has them. Printed by a program. -/
import Derived.Test.YtmagahmklndcgaaDoorNxRange
import Derived.Test.YtmagahmklndcgaaDoorNxWalk
namespace Go.Proofs.YtmagahmklndcgaaDoor.Nx
set_option linter.unusedSimpArgs false
set_option linter.unusedVariables false
set_option linter.unnecessarySimpa false
open Go

def x_law15_ViewOf (f_ref15_Large f_law15_awake f_view_Of f_ref15_Of f_ref15_Same : FuncId) : XC :=
(.seq (.reg [
    { dst := some 1, op := .box ⟨42, 352⟩ (.t 0) },
    { dst := some 2, op := .mov (.k (.bool false)) }])
  (.seq (.seq (.reg [
    { dst := some 3, op := .load 42 true (.t 1) },
    { dst := some 4, op := .call (.f f_ref15_Large) [(.t 3)] }])
  (.cond (.t 4)
    (.seq (.reg [
      { dst := some 5, op := .call (.f f_law15_awake) [] },
      { dst := some 2, op := .mov (.t 5) }])
    .ret)
    .skip))
  (.seq (.drw 0 [
    { dst := some 6, op := .load 42 true (.t 1) },
    { dst := some 7, op := .call (.f f_view_Of) [(.t 6)] },
    { dst := some 8, op := .load 42 true (.t 1) },
    { dst := some 9, op := .call (.f f_ref15_Of) [(.t 8)] },
    { dst := some 10, op := .call (.f f_ref15_Same) [(.t 7), (.t 9)] },
    { dst := some 11, op := .mov (.t 10) },
    { dst := some 12, op := .call (.f f_law15_awake) [], guard := some (11, true) },
    { dst := some 13, op := .pick (.t 11) (.t 12) (.k (.bool false)) },
    { dst := some 2, op := .mov (.t 13) }])
  .ret)))

def x_law15_ViewEqual (f_ref15_Great f_law15_awake f_view_Equal f_ref15_Same : FuncId) : XC :=
(.seq (.reg [
    { dst := some 2, op := .box ⟨6, 64⟩ (.t 0) },
    { dst := some 3, op := .box ⟨6, 64⟩ (.t 1) },
    { dst := some 4, op := .mov (.k (.bool false)) }])
  (.seq (.seq (.reg [
    { dst := some 5, op := .load 6 true (.t 2) },
    { dst := some 6, op := .call (.f f_ref15_Great) [(.t 5)] },
    { dst := some 7, op := .mov (.t 6) },
    { dst := some 8, op := .load 6 true (.t 3), guard := some (7, false) },
    { dst := some 9, op := .call (.f f_ref15_Great) [(.t 8)], guard := some (7, false) },
    { dst := some 10, op := .pick (.t 7) (.k (.bool true)) (.t 9) }])
  (.cond (.t 10)
    (.seq (.reg [
      { dst := some 11, op := .call (.f f_law15_awake) [] },
      { dst := some 4, op := .mov (.t 11) }])
    .ret)
    .skip))
  (.seq (.drw 0 [
    { dst := some 12, op := .load 6 true (.t 2) },
    { dst := some 13, op := .load 6 true (.t 3) },
    { dst := some 14, op := .call (.f f_view_Equal) [(.t 12), (.t 13)] },
    { dst := some 15, op := .load 6 true (.t 2) },
    { dst := some 16, op := .load 6 true (.t 3) },
    { dst := some 17, op := .call (.f f_ref15_Same) [(.t 15), (.t 16)] },
    { dst := some 18, op := .eqb false (.t 14) (.t 17) },
    { dst := some 19, op := .mov (.t 18) },
    { dst := some 20, op := .load 6 true (.t 2), guard := some (19, true) },
    { dst := some 21, op := .load 6 true (.t 2), guard := some (19, true) },
    { dst := some 22, op := .call (.f f_view_Equal) [(.t 20), (.t 21)], guard := some (19, true) },
    { dst := some 23, op := .pick (.t 19) (.t 22) (.k (.bool false)) },
    { dst := some 24, op := .mov (.t 23) },
    { dst := some 25, op := .load 6 true (.t 3), guard := some (24, true) },
    { dst := some 26, op := .load 6 true (.t 3), guard := some (24, true) },
    { dst := some 27, op := .call (.f f_view_Equal) [(.t 25), (.t 26)], guard := some (24, true) },
    { dst := some 28, op := .pick (.t 24) (.t 27) (.k (.bool false)) },
    { dst := some 29, op := .mov (.t 28) },
    { dst := some 30, op := .call (.f f_law15_awake) [], guard := some (29, true) },
    { dst := some 31, op := .pick (.t 29) (.t 30) (.k (.bool false)) },
    { dst := some 4, op := .mov (.t 31) }])
  .ret)))

def x_law15_ViewTexts (f_law15_awake f_cellrow_Check f_view_Of f_cellrow_Text f_view_Text : FuncId) : XC :=
(.seq (.reg [
    { dst := some 2, op := .mov (.k (.bool false)) }])
  (.seq (.reg [
    { dst := some 7, op := .bslice ⟨5, 48⟩ [(.str ⟨#[]⟩), (.int 0), (.int 0), (.int 0), (.int 0)] 0 [] },
    { dst := some 8, op := .mov (.t 0) },
    { dst := some 9, op := .append ⟨5, 48⟩ (.t 7) (.t 8) },
    { dst := some 3, op := .mov (.t 9) }])
  (.seq (.seq (.reg [
    { dst := some 4, op := .mov (.k (.int 0)) }])
  (.block 0 (.loop (.seq (.seq (.reg [
    { dst := some 10, op := .mov (.t 4) },
    { dst := some 11, op := .mov (.t 3) },
    { dst := some 12, op := .len false (.t 11) },
    { dst := some 13, op := .bin .lss (.t 10) (.t 12) },
    { dst := some 14, op := .mov (.t 13) },
    { dst := some 15, op := .mov (.t 4), guard := some (14, true) },
    { dst := some 16, op := .bin .lss (.t 15) (.k (.int 140)), guard := some (14, true) },
    { dst := some 17, op := .pick (.t 14) (.t 16) (.k (.bool false)) }])
  (.cond (.t 17)
    .skip
    (.exit 0)))
  (.seq (.block 1 (.seq (.seq (.reg [
    { dst := some 20, op := .mov (.t 3) },
    { dst := some 21, op := .mov (.t 4) },
    { dst := some 22, op := .iaddr ⟨5, 48⟩ (.t 20) (.t 21) },
    { dst := some 23, op := .faddr 0 (.t 22) },
    { dst := some 24, op := .load 1 false (.t 23) },
    { dst := some 25, op := .len true (.t 24) },
    { dst := some 26, op := .bin .gtr (.t 25) (.k (.int 40)) }])
  (.cond (.t 26)
    (.seq (.reg [
      { dst := some 27, op := .call (.f f_law15_awake) [] },
      { dst := some 2, op := .mov (.t 27) }])
    .ret)
    .skip))
  (.reg [
    { dst := some 28, op := .mov (.t 3) },
    { dst := some 29, op := .mov (.t 4) },
    { dst := some 30, op := .build [(.int 0), (.int 0), (.int 0)] [(0, 1, (.k (.int (-1)))), (1, 1, (.k (.int (-1))))] },
    { dst := some 31, op := .iaddr ⟨5, 48⟩ (.t 28) (.t 29) },
    { dst := some 32, op := .faddr 2 (.t 31) },
    { dst := none, op := .store 3 (.t 32) (.t 30) }])))
  (.reg [
    { dst := some 18, op := .mov (.t 4) },
    { dst := some 19, op := .bin .add (.t 18) (.k (.int 1)) },
    { dst := some 4, op := .mov (.t 19) }]))))))
  (.seq (.seq (.reg [
    { dst := some 33, op := .mov (.t 3) },
    { dst := some 34, op := .len false (.t 33) },
    { dst := some 35, op := .bin .gtr (.t 34) (.k (.int 132)) },
    { dst := some 36, op := .mov (.t 35) },
    { dst := some 37, op := .mov (.t 3), guard := some (36, false) },
    { dst := some 38, op := .call (.f f_cellrow_Check) [(.t 37)], guard := some (36, false) },
    { dst := some 39, op := .bin .neq (.t 38) (.k (.int 0)), guard := some (36, false) },
    { dst := some 40, op := .pick (.t 36) (.k (.bool true)) (.t 39) }])
  (.cond (.t 40)
    (.seq (.reg [
      { dst := some 41, op := .call (.f f_law15_awake) [] },
      { dst := some 2, op := .mov (.t 41) }])
    .ret)
    .skip))
  (.seq (.reg [
    { dst := some 42, op := .mov (.t 3) },
    { dst := some 43, op := .len false (.t 42) },
    { dst := some 44, op := .mov (.t 3) },
    { dst := some 45, op := .bslice ⟨1, 24⟩ [.nil] 1 [(0, (.t 44))] },
    { dst := some 46, op := .build [(.int 0), (.int 0), .nil] [(0, 1, (.t 43)), (1, 1, (.k (.int 1))), (2, 1, (.t 45))] },
    { dst := some 47, op := .build [(.int 0), (.int 0), .nil, (.int 0), (.int 0), .nil, (.int 0), (.int 0), (.bool false), (.int 0), (.int 0), (.bool false), (.int 0), (.int 0), (.int 0), (.bool false), (.sc (.int .u8 0)), (.sc (.int .u8 0)), (.int 0), (.int 0), (.int 0), (.int 0), (.bool false), (.bool false), (.bool false), (.bool false), (.bool false), (.bool false), (.bool false), (.bool false), (.sc (.int .u8 0)), (.sc (.int .u8 0)), (.int 0), (.int 0), (.int 0), .nil, .nil, (.int 0), (.str ⟨#[]⟩), (.str ⟨#[]⟩), (.str ⟨#[]⟩), (.str ⟨#[]⟩)] [(0, 3, (.t 46))] },
    { dst := some 48, op := .call (.f f_view_Of) [(.t 47)] },
    { dst := some 5, op := .alloc ⟨6, 64⟩ [(.int 0), (.int 0), .nil, (.int 0), (.int 0), (.bool false)] },
    { dst := none, op := .store 6 (.t 5) (.t 48) }])
  (.seq (.seq (.reg [
    { dst := some 49, op := .faddr 2 (.t 5) },
    { dst := some 50, op := .load 1 false (.t 49) },
    { dst := some 51, op := .len false (.t 50) },
    { dst := some 52, op := .bin .neq (.t 51) (.k (.int 1)) }])
  (.cond (.t 52)
    (.seq (.reg [
      { dst := some 2, op := .mov (.k (.bool false)) }])
    .ret)
    .skip))
  (.seq (.reg [
    { dst := some 53, op := .mov (.t 3) },
    { dst := some 54, op := .call (.f f_cellrow_Text) [(.t 53)] },
    { dst := some 6, op := .mov (.t 54) }])
  (.seq (.block 2 (.loop (.seq (.seq (.reg [
    { dst := some 55, op := .mov (.t 6) },
    { dst := some 56, op := .len true (.t 55) },
    { dst := some 57, op := .bin .gtr (.t 56) (.k (.int 0)) },
    { dst := some 58, op := .mov (.t 57) },
    { dst := some 59, op := .mov (.t 6), guard := some (58, true) },
    { dst := some 60, op := .mov (.t 6), guard := some (58, true) },
    { dst := some 61, op := .len true (.t 60), guard := some (58, true) },
    { dst := some 62, op := .bin .sub (.t 61) (.k (.int 1)), guard := some (58, true) },
    { dst := some 63, op := .sidx (.t 59) (.t 62), guard := some (58, true) },
    { dst := some 64, op := .bin .eql (.t 63) (.k (.sc (.int .u8 32))), guard := some (58, true) },
    { dst := some 65, op := .pick (.t 58) (.t 64) (.k (.bool false)) }])
  (.cond (.t 65)
    .skip
    (.exit 2)))
  (.block 3 (.reg [
    { dst := some 66, op := .mov (.t 6) },
    { dst := some 67, op := .mov (.t 6) },
    { dst := some 68, op := .len true (.t 67) },
    { dst := some 69, op := .bin .sub (.t 68) (.k (.int 1)) },
    { dst := some 70, op := .sslice (.t 66) none (some (.t 69)) },
    { dst := some 6, op := .mov (.t 70) }])))))
  (.seq (.reg [
    { dst := some 71, op := .faddr 2 (.t 5) },
    { dst := some 72, op := .load 1 false (.t 71) },
    { dst := some 73, op := .iaddr ⟨1, 24⟩ (.t 72) (.k (.int 0)) },
    { dst := some 74, op := .load 1 false (.t 73) },
    { dst := some 75, op := .call (.f f_view_Text) [(.t 74)] },
    { dst := some 76, op := .mov (.t 6) },
    { dst := some 77, op := .bin .eql (.t 75) (.t 76) },
    { dst := some 78, op := .mov (.t 77) },
    { dst := some 79, op := .call (.f f_law15_awake) [], guard := some (78, true) },
    { dst := some 80, op := .pick (.t 78) (.t 79) (.k (.bool false)) },
    { dst := some 2, op := .mov (.t 80) }])
  .ret)))))))))

def x_law15_ViewRows (f_ref15_GreatRow f_law15_awake f_view_Trim f_ref15_Trim f_ref15_SameRow f_view_Width f_ref15_Width f_view_Text f_ref15_Text f_view_Index f_ref15_Index : FuncId) : XC :=
(.seq (.reg [
    { dst := some 4, op := .mov (.k (.bool false)) }])
  (.seq (.seq (.reg [
    { dst := some 5, op := .mov (.t 0) },
    { dst := some 6, op := .call (.f f_ref15_GreatRow) [(.t 5)] }])
  (.cond (.t 6)
    (.seq (.reg [
      { dst := some 7, op := .call (.f f_law15_awake) [] },
      { dst := some 4, op := .mov (.t 7) }])
    .ret)
    .skip))
  (.seq (.reg [
    { dst := some 8, op := .mov (.t 0) },
    { dst := some 9, op := .call (.f f_view_Trim) [(.t 8)] },
    { dst := some 10, op := .mov (.t 0) },
    { dst := some 11, op := .call (.f f_ref15_Trim) [(.t 10)] },
    { dst := some 12, op := .call (.f f_ref15_SameRow) [(.t 9), (.t 11)] },
    { dst := some 13, op := .mov (.t 12) },
    { dst := some 14, op := .mov (.t 0), guard := some (13, true) },
    { dst := some 15, op := .call (.f f_view_Width) [(.t 14)], guard := some (13, true) },
    { dst := some 16, op := .mov (.t 0), guard := some (13, true) },
    { dst := some 17, op := .call (.f f_ref15_Width) [(.t 16)], guard := some (13, true) },
    { dst := some 18, op := .bin .eql (.t 15) (.t 17), guard := some (13, true) },
    { dst := some 19, op := .pick (.t 13) (.t 18) (.k (.bool false)) },
    { dst := some 20, op := .mov (.t 19) },
    { dst := some 21, op := .mov (.t 0), guard := some (20, true) },
    { dst := some 22, op := .call (.f f_view_Text) [(.t 21)], guard := some (20, true) },
    { dst := some 23, op := .mov (.t 0), guard := some (20, true) },
    { dst := some 24, op := .call (.f f_ref15_Text) [(.t 23)], guard := some (20, true) },
    { dst := some 25, op := .bin .eql (.t 22) (.t 24), guard := some (20, true) },
    { dst := some 26, op := .pick (.t 20) (.t 25) (.k (.bool false)) },
    { dst := some 27, op := .mov (.t 26) },
    { dst := some 28, op := .mov (.t 0), guard := some (27, true) },
    { dst := some 29, op := .mov (.t 1), guard := some (27, true) },
    { dst := some 30, op := .call (.f f_view_Index) [(.t 28), (.t 29)], guard := some (27, true) },
    { dst := some 31, op := .mov (.t 0), guard := some (27, true) },
    { dst := some 32, op := .mov (.t 1), guard := some (27, true) },
    { dst := some 33, op := .call (.f f_ref15_Index) [(.t 31), (.t 32)], guard := some (27, true) },
    { dst := some 34, op := .bin .eql (.t 30) (.t 33), guard := some (27, true) },
    { dst := some 35, op := .pick (.t 27) (.t 34) (.k (.bool false)) },
    { dst := some 36, op := .mov (.t 35) },
    { dst := some 37, op := .call (.f f_law15_awake) [], guard := some (36, true) },
    { dst := some 38, op := .pick (.t 36) (.t 37) (.k (.bool false)) },
    { dst := some 4, op := .mov (.t 38) }])
  .ret)))

def x_law15_ViewCheck (f_ref15_Great f_law15_awake f_view_Blank f_ref15_Blank f_ref15_Same f_view_Check f_ref15_Check : FuncId) : XC :=
(.seq (.reg [
    { dst := some 3, op := .box ⟨6, 64⟩ (.t 0) },
    { dst := some 6, op := .mov (.k (.bool false)) }])
  (.seq (.seq (.reg [
    { dst := some 11, op := .load 6 true (.t 3) },
    { dst := some 12, op := .call (.f f_ref15_Great) [(.t 11)] }])
  (.cond (.t 12)
    (.seq (.reg [
      { dst := some 13, op := .call (.f f_law15_awake) [] },
      { dst := some 6, op := .mov (.t 13) }])
    .ret)
    .skip))
  (.seq (.reg [
    { dst := some 15, op := .mov (.t 1) },
    { dst := some 16, op := .mov (.t 2) },
    { dst := some 17, op := .call (.f f_view_Blank) [(.t 15), (.t 16)] },
    { dst := some 14, op := .mov (.t 17) },
    { dst := some 18, op := .extract 0 (.t 14) },
    { dst := some 19, op := .extract 1 (.t 14) },
    { dst := some 7, op := .alloc ⟨6, 64⟩ [(.int 0), (.int 0), .nil, (.int 0), (.int 0), (.bool false)] },
    { dst := none, op := .store 6 (.t 7) (.t 18) },
    { dst := some 8, op := .mov (.t 19) }])
  (.seq (.reg [
    { dst := some 21, op := .mov (.t 1) },
    { dst := some 22, op := .mov (.t 2) },
    { dst := some 23, op := .call (.f f_ref15_Blank) [(.t 21), (.t 22)] },
    { dst := some 20, op := .mov (.t 23) },
    { dst := some 24, op := .extract 0 (.t 20) },
    { dst := some 25, op := .extract 1 (.t 20) },
    { dst := some 9, op := .alloc ⟨6, 64⟩ [(.int 0), (.int 0), .nil, (.int 0), (.int 0), (.bool false)] },
    { dst := none, op := .store 6 (.t 9) (.t 24) },
    { dst := some 10, op := .mov (.t 25) }])
  (.seq (.seq (.reg [
    { dst := some 26, op := .load 6 true (.t 7) },
    { dst := some 27, op := .load 6 true (.t 9) },
    { dst := some 28, op := .call (.f f_ref15_Same) [(.t 26), (.t 27)] },
    { dst := some 29, op := .un .not (.t 28) },
    { dst := some 30, op := .mov (.t 29) },
    { dst := some 31, op := .mov (.t 8), guard := some (30, false) },
    { dst := some 32, op := .bin .eql (.t 31) (.k (.int 0)), guard := some (30, false) },
    { dst := some 33, op := .mov (.t 10), guard := some (30, false) },
    { dst := some 34, op := .eqb true (.t 32) (.t 33), guard := some (30, false) },
    { dst := some 35, op := .pick (.t 30) (.k (.bool true)) (.t 34) },
    { dst := some 36, op := .mov (.t 35) },
    { dst := some 37, op := .mov (.t 10), guard := some (36, false) },
    { dst := some 38, op := .un .not (.t 37), guard := some (36, false) },
    { dst := some 39, op := .mov (.t 38), guard := some (36, false) },
    { dst := some 40, op := .mov (.t 8), guard := some (39, true) },
    { dst := some 41, op := .bin .neq (.t 40) (.k (.int 2)), guard := some (39, true) },
    { dst := some 42, op := .pick (.t 39) (.t 41) (.k (.bool false)), guard := some (36, false) },
    { dst := some 43, op := .pick (.t 36) (.k (.bool true)) (.t 42) }])
  (.cond (.t 43)
    (.seq (.reg [
      { dst := some 6, op := .mov (.k (.bool false)) }])
    .ret)
    .skip))
  (.seq (.drw 0 [
    { dst := some 44, op := .load 6 true (.t 3) },
    { dst := some 45, op := .call (.f f_view_Check) [(.t 44)] },
    { dst := some 46, op := .load 6 true (.t 3) },
    { dst := some 47, op := .call (.f f_ref15_Check) [(.t 46)] },
    { dst := some 48, op := .bin .eql (.t 45) (.t 47) },
    { dst := some 49, op := .mov (.t 48) },
    { dst := some 50, op := .call (.f f_law15_awake) [], guard := some (49, true) },
    { dst := some 51, op := .pick (.t 49) (.t 50) (.k (.bool false)) },
    { dst := some 6, op := .mov (.t 51) }])
  .ret))))))

def x_law15_ViewProper (f_ref15_Large f_law15_awake f_view_Of f_ref15_Showable f_view_Check f_view_Blank : FuncId) : XC :=
(.seq (.reg [
    { dst := some 3, op := .box ⟨42, 352⟩ (.t 0) },
    { dst := some 6, op := .mov (.k (.bool false)) }])
  (.seq (.seq (.reg [
    { dst := some 12, op := .load 42 true (.t 3) },
    { dst := some 13, op := .call (.f f_ref15_Large) [(.t 12)] }])
  (.cond (.t 13)
    (.seq (.reg [
      { dst := some 14, op := .call (.f f_law15_awake) [] },
      { dst := some 6, op := .mov (.t 14) }])
    .ret)
    .skip))
  (.seq (.reg [
    { dst := some 15, op := .load 42 true (.t 3) },
    { dst := some 16, op := .call (.f f_view_Of) [(.t 15)] },
    { dst := some 7, op := .alloc ⟨6, 64⟩ [(.int 0), (.int 0), .nil, (.int 0), (.int 0), (.bool false)] },
    { dst := none, op := .store 6 (.t 7) (.t 16) }])
  (.seq (.seq (.reg [
    { dst := some 17, op := .load 42 true (.t 3) },
    { dst := some 18, op := .call (.f f_ref15_Showable) [(.t 17)] }])
  (.cond (.t 18)
    (.seq (.reg [
      { dst := some 19, op := .load 6 true (.t 7) },
      { dst := some 20, op := .call (.f f_view_Check) [(.t 19)] },
      { dst := some 21, op := .bin .neq (.t 20) (.k (.int 0)) },
      { dst := some 22, op := .mov (.t 21) },
      { dst := some 23, op := .faddr 0 (.t 7), guard := some (22, false) },
      { dst := some 24, op := .load 1 false (.t 23), guard := some (22, false) },
      { dst := some 25, op := .faddr 0 (.t 3), guard := some (22, false) },
      { dst := some 26, op := .faddr 0 (.t 25), guard := some (22, false) },
      { dst := some 27, op := .load 1 false (.t 26), guard := some (22, false) },
      { dst := some 28, op := .bin .neq (.t 24) (.t 27), guard := some (22, false) },
      { dst := some 29, op := .pick (.t 22) (.k (.bool true)) (.t 28) },
      { dst := some 30, op := .mov (.t 29) },
      { dst := some 31, op := .faddr 1 (.t 7), guard := some (30, false) },
      { dst := some 32, op := .load 1 false (.t 31), guard := some (30, false) },
      { dst := some 33, op := .faddr 0 (.t 3), guard := some (30, false) },
      { dst := some 34, op := .faddr 1 (.t 33), guard := some (30, false) },
      { dst := some 35, op := .load 1 false (.t 34), guard := some (30, false) },
      { dst := some 36, op := .bin .neq (.t 32) (.t 35), guard := some (30, false) },
      { dst := some 37, op := .pick (.t 30) (.k (.bool true)) (.t 36) },
      { dst := some 38, op := .mov (.t 37) },
      { dst := some 39, op := .faddr 3 (.t 7), guard := some (38, false) },
      { dst := some 40, op := .load 1 false (.t 39), guard := some (38, false) },
      { dst := some 41, op := .faddr 6 (.t 3), guard := some (38, false) },
      { dst := some 42, op := .faddr 0 (.t 41), guard := some (38, false) },
      { dst := some 43, op := .load 1 false (.t 42), guard := some (38, false) },
      { dst := some 44, op := .bin .neq (.t 40) (.t 43), guard := some (38, false) },
      { dst := some 45, op := .pick (.t 38) (.k (.bool true)) (.t 44) },
      { dst := some 46, op := .mov (.t 45) },
      { dst := some 47, op := .faddr 4 (.t 7), guard := some (46, false) },
      { dst := some 48, op := .load 1 false (.t 47), guard := some (46, false) },
      { dst := some 49, op := .faddr 6 (.t 3), guard := some (46, false) },
      { dst := some 50, op := .faddr 1 (.t 49), guard := some (46, false) },
      { dst := some 51, op := .load 1 false (.t 50), guard := some (46, false) },
      { dst := some 52, op := .bin .neq (.t 48) (.t 51), guard := some (46, false) },
      { dst := some 53, op := .pick (.t 46) (.k (.bool true)) (.t 52) },
      { dst := some 54, op := .mov (.t 53) },
      { dst := some 55, op := .faddr 5 (.t 7), guard := some (54, false) },
      { dst := some 56, op := .load 1 false (.t 55), guard := some (54, false) },
      { dst := some 57, op := .faddr 22 (.t 3), guard := some (54, false) },
      { dst := some 58, op := .faddr 5 (.t 57), guard := some (54, false) },
      { dst := some 59, op := .load 1 false (.t 58), guard := some (54, false) },
      { dst := some 60, op := .eqb true (.t 56) (.t 59), guard := some (54, false) },
      { dst := some 61, op := .pick (.t 54) (.k (.bool true)) (.t 60) }])
    (.cond (.t 61)
      (.seq (.reg [
        { dst := some 6, op := .mov (.k (.bool false)) }])
      .ret)
      .skip))
    (.seq (.reg [
      { dst := some 62, op := .load 6 true (.t 7) },
      { dst := some 63, op := .call (.f f_view_Check) [(.t 62)] },
      { dst := some 64, op := .bin .eql (.t 63) (.k (.int 0)) }])
    (.cond (.t 64)
      (.seq (.reg [
        { dst := some 6, op := .mov (.k (.bool false)) }])
      .ret)
      .skip))))
  (.seq (.reg [
    { dst := some 66, op := .mov (.t 1) },
    { dst := some 67, op := .mov (.t 2) },
    { dst := some 68, op := .call (.f f_view_Blank) [(.t 66), (.t 67)] },
    { dst := some 65, op := .mov (.t 68) },
    { dst := some 69, op := .extract 0 (.t 65) },
    { dst := some 70, op := .extract 1 (.t 65) },
    { dst := some 8, op := .alloc ⟨6, 64⟩ [(.int 0), (.int 0), .nil, (.int 0), (.int 0), (.bool false)] },
    { dst := none, op := .store 6 (.t 8) (.t 69) },
    { dst := some 9, op := .mov (.t 70) }])
  (.seq (.seq (.reg [
    { dst := some 71, op := .mov (.t 9) },
    { dst := some 72, op := .bin .neq (.t 71) (.k (.int 0)) }])
  (.cond (.t 72)
    (.seq (.reg [
      { dst := some 73, op := .call (.f f_law15_awake) [] },
      { dst := some 6, op := .mov (.t 73) }])
    .ret)
    .skip))
  (.seq (.reg [
    { dst := some 10, op := .mov (.k (.int 0)) }])
  (.seq (.seq (.reg [
    { dst := some 11, op := .mov (.k (.int 0)) }])
  (.block 0 (.loop (.seq (.seq (.reg [
    { dst := some 74, op := .mov (.t 11) },
    { dst := some 75, op := .faddr 2 (.t 8) },
    { dst := some 76, op := .load 1 false (.t 75) },
    { dst := some 77, op := .len false (.t 76) },
    { dst := some 78, op := .bin .lss (.t 74) (.t 77) }])
  (.cond (.t 78)
    .skip
    (.exit 0)))
  (.seq (.block 1 (.reg [
    { dst := some 81, op := .mov (.t 10) },
    { dst := some 82, op := .faddr 2 (.t 8) },
    { dst := some 83, op := .load 1 false (.t 82) },
    { dst := some 84, op := .mov (.t 11) },
    { dst := some 85, op := .iaddr ⟨1, 24⟩ (.t 83) (.t 84) },
    { dst := some 86, op := .load 1 false (.t 85) },
    { dst := some 87, op := .len false (.t 86) },
    { dst := some 88, op := .bin .add (.t 81) (.t 87) },
    { dst := some 10, op := .mov (.t 88) }]))
  (.reg [
    { dst := some 79, op := .mov (.t 11) },
    { dst := some 80, op := .bin .add (.t 79) (.k (.int 1)) },
    { dst := some 11, op := .mov (.t 80) }]))))))
  (.seq (.reg [
    { dst := some 89, op := .load 6 true (.t 8) },
    { dst := some 90, op := .call (.f f_view_Check) [(.t 89)] },
    { dst := some 91, op := .bin .eql (.t 90) (.k (.int 0)) },
    { dst := some 92, op := .mov (.t 91) },
    { dst := some 93, op := .mov (.t 10), guard := some (92, true) },
    { dst := some 94, op := .bin .eql (.t 93) (.k (.int 0)), guard := some (92, true) },
    { dst := some 95, op := .pick (.t 92) (.t 94) (.k (.bool false)) },
    { dst := some 96, op := .mov (.t 95) },
    { dst := some 97, op := .faddr 5 (.t 8), guard := some (96, true) },
    { dst := some 98, op := .load 1 false (.t 97), guard := some (96, true) },
    { dst := some 99, op := .pick (.t 96) (.t 98) (.k (.bool false)) },
    { dst := some 100, op := .mov (.t 99) },
    { dst := some 101, op := .call (.f f_law15_awake) [], guard := some (100, true) },
    { dst := some 102, op := .pick (.t 100) (.t 101) (.k (.bool false)) },
    { dst := some 6, op := .mov (.t 102) }])
  .ret)))))))))

def x_ref15_Large (f_ref07_Great : FuncId) : XC :=
(.seq (.reg [
    { dst := some 1, op := .box ⟨42, 352⟩ (.t 0) },
    { dst := some 2, op := .mov (.k (.bool false)) }])
  (.seq (.seq (.reg [
    { dst := some 4, op := .faddr 0 (.t 1) },
    { dst := some 5, op := .faddr 2 (.t 4) },
    { dst := some 6, op := .load 1 false (.t 5) },
    { dst := some 7, op := .len false (.t 6) },
    { dst := some 8, op := .bin .gtr (.t 7) (.k (.int 12)) }])
  (.cond (.t 8)
    (.seq (.reg [
      { dst := some 2, op := .mov (.k (.bool true)) }])
    .ret)
    .skip))
  (.seq (.seq (.reg [
    { dst := some 3, op := .mov (.k (.int 0)) }])
  (.block 0 (.loop (.seq (.seq (.reg [
    { dst := some 9, op := .mov (.t 3) },
    { dst := some 10, op := .faddr 0 (.t 1) },
    { dst := some 11, op := .faddr 2 (.t 10) },
    { dst := some 12, op := .load 1 false (.t 11) },
    { dst := some 13, op := .len false (.t 12) },
    { dst := some 14, op := .bin .lss (.t 9) (.t 13) }])
  (.cond (.t 14)
    .skip
    (.exit 0)))
  (.seq (.block 1 (.seq (.reg [
    { dst := some 17, op := .faddr 0 (.t 1) },
    { dst := some 18, op := .faddr 2 (.t 17) },
    { dst := some 19, op := .load 1 false (.t 18) },
    { dst := some 20, op := .mov (.t 3) },
    { dst := some 21, op := .iaddr ⟨1, 24⟩ (.t 19) (.t 20) },
    { dst := some 22, op := .load 1 false (.t 21) },
    { dst := some 23, op := .call (.f f_ref07_Great) [(.t 22)] }])
  (.cond (.t 23)
    (.seq (.reg [
      { dst := some 2, op := .mov (.k (.bool true)) }])
    .ret)
    .skip)))
  (.reg [
    { dst := some 15, op := .mov (.t 3) },
    { dst := some 16, op := .bin .add (.t 15) (.k (.int 1)) },
    { dst := some 3, op := .mov (.t 16) }]))))))
  (.seq (.reg [
    { dst := some 2, op := .mov (.k (.bool false)) }])
  .ret))))

def x_law15_awake (f_view_Of f_ref15_SameRow f_view_Index : FuncId) : XC :=
(.seq (.reg [
    { dst := some 0, op := .mov (.k (.bool false)) }])
  (.seq (.reg [
    { dst := some 7, op := .build [(.int 0), (.int 0), (.int 0)] [(0, 1, (.k (.int (-1)))), (1, 1, (.k (.int (-1))))] },
    { dst := some 1, op := .alloc ⟨3, 24⟩ [(.int 0), (.int 0), (.int 0)] },
    { dst := none, op := .store 3 (.t 1) (.t 7) }])
  (.seq (.drw 2 [
    { dst := some 8, op := .load 3 true (.t 1) },
    { dst := some 9, op := .load 3 true (.t 1) },
    { dst := some 2, op := .alloc ⟨3, 24⟩ [(.int 0), (.int 0), (.int 0)], pl := some 0 },
    { dst := some 3, op := .alloc ⟨3, 24⟩ [(.int 0), (.int 0), (.int 0)], pl := some 1 },
    { dst := none, op := .store 3 (.t 2) (.t 8) },
    { dst := none, op := .store 3 (.t 3) (.t 9) }] [(2, some 0), (3, some 1)])
  (.seq (.reg [
    { dst := some 10, op := .faddr 2 (.t 2) },
    { dst := none, op := .store 1 (.t 10) (.k (.int 32)) }])
  (.seq (.reg [
    { dst := some 11, op := .faddr 2 (.t 3) },
    { dst := none, op := .store 1 (.t 11) (.k (.int 64)) }])
  (.seq (.reg [
    { dst := some 12, op := .load 3 true (.t 1) },
    { dst := some 13, op := .build [(.str ⟨#[]⟩), (.int 0), (.int 0), (.int 0), (.int 0)] [(0, 1, (.k (.str ⟨#[97]⟩))), (1, 1, (.k (.int 1))), (2, 3, (.t 12))] },
    { dst := some 14, op := .load 3 true (.t 2) },
    { dst := some 15, op := .build [(.str ⟨#[]⟩), (.int 0), (.int 0), (.int 0), (.int 0)] [(0, 1, (.k (.str ⟨#[230, 188, 162]⟩))), (1, 1, (.k (.int 2))), (2, 3, (.t 14))] },
    { dst := some 16, op := .load 3 true (.t 2) },
    { dst := some 17, op := .build [(.str ⟨#[]⟩), (.int 0), (.int 0), (.int 0), (.int 0)] [(2, 3, (.t 16))] },
    { dst := some 18, op := .load 3 true (.t 3) },
    { dst := some 19, op := .build [(.str ⟨#[]⟩), (.int 0), (.int 0), (.int 0), (.int 0)] [(0, 1, (.k (.str ⟨#[120]⟩))), (1, 1, (.k (.int 1))), (2, 3, (.t 18))] },
    { dst := some 20, op := .load 3 true (.t 1) },
    { dst := some 21, op := .build [(.str ⟨#[]⟩), (.int 0), (.int 0), (.int 0), (.int 0)] [(0, 1, (.k (.str ⟨#[32]⟩))), (1, 1, (.k (.int 1))), (2, 3, (.t 20))] },
    { dst := some 22, op := .bslice ⟨5, 48⟩ [(.str ⟨#[]⟩), (.int 0), (.int 0), (.int 0), (.int 0)] 5 [(0, (.t 13)), (1, (.t 15)), (2, (.t 17)), (3, (.t 19)), (4, (.t 21))] },
    { dst := some 4, op := .mov (.t 22) }])
  (.seq (.reg [
    { dst := some 23, op := .mov (.t 4) },
    { dst := some 24, op := .bslice ⟨1, 24⟩ [.nil] 1 [(0, (.t 23))] },
    { dst := some 25, op := .build [(.int 0), (.int 0), .nil] [(0, 1, (.k (.int 5))), (1, 1, (.k (.int 1))), (2, 1, (.t 24))] },
    { dst := some 26, op := .build [(.int 0), (.int 0), .nil, (.int 0), (.int 0), .nil, (.int 0), (.int 0), (.bool false), (.int 0), (.int 0), (.bool false), (.int 0), (.int 0), (.int 0), (.bool false), (.sc (.int .u8 0)), (.sc (.int .u8 0)), (.int 0), (.int 0), (.int 0), (.int 0), (.bool false), (.bool false), (.bool false), (.bool false), (.bool false), (.bool false), (.bool false), (.bool false), (.sc (.int .u8 0)), (.sc (.int .u8 0)), (.int 0), (.int 0), (.int 0), .nil, .nil, (.int 0), (.str ⟨#[]⟩), (.str ⟨#[]⟩), (.str ⟨#[]⟩), (.str ⟨#[]⟩)] [(0, 3, (.t 25))] },
    { dst := some 27, op := .call (.f f_view_Of) [(.t 26)] },
    { dst := some 5, op := .alloc ⟨6, 64⟩ [(.int 0), (.int 0), .nil, (.int 0), (.int 0), (.bool false)] },
    { dst := none, op := .store 6 (.t 5) (.t 27) }])
  (.seq (.reg [
    { dst := some 28, op := .build [(.str ⟨#[]⟩), (.bool false), (.int 0)] [(0, 1, (.k (.str ⟨#[97]⟩)))] },
    { dst := some 29, op := .build [(.str ⟨#[]⟩), (.bool false), (.int 0)] [(0, 1, (.k (.str ⟨#[230, 188, 162]⟩))), (1, 1, (.k (.bool true))), (2, 1, (.k (.int 2)))] },
    { dst := some 30, op := .build [(.str ⟨#[]⟩), (.bool false), (.int 0)] [(0, 1, (.k (.str ⟨#[42]⟩))), (2, 1, (.k (.int 3)))] },
    { dst := some 31, op := .bslice ⟨3, 32⟩ [(.str ⟨#[]⟩), (.bool false), (.int 0)] 3 [(0, (.t 28)), (1, (.t 29)), (2, (.t 30))] },
    { dst := some 6, op := .mov (.t 31) }])
  (.seq (.reg [
    { dst := some 32, op := .faddr 2 (.t 5) },
    { dst := some 33, op := .load 1 false (.t 32) },
    { dst := some 34, op := .len false (.t 33) },
    { dst := some 35, op := .bin .eql (.t 34) (.k (.int 1)) },
    { dst := some 36, op := .mov (.t 35) },
    { dst := some 37, op := .faddr 2 (.t 5), guard := some (36, true) },
    { dst := some 38, op := .load 1 false (.t 37), guard := some (36, true) },
    { dst := some 39, op := .iaddr ⟨1, 24⟩ (.t 38) (.k (.int 0)), guard := some (36, true) },
    { dst := some 40, op := .load 1 false (.t 39), guard := some (36, true) },
    { dst := some 41, op := .mov (.t 6), guard := some (36, true) },
    { dst := some 42, op := .call (.f f_ref15_SameRow) [(.t 40), (.t 41)], guard := some (36, true) },
    { dst := some 43, op := .pick (.t 36) (.t 42) (.k (.bool false)) },
    { dst := some 44, op := .mov (.t 43) },
    { dst := some 45, op := .faddr 2 (.t 5), guard := some (44, true) },
    { dst := some 46, op := .load 1 false (.t 45), guard := some (44, true) },
    { dst := some 47, op := .iaddr ⟨1, 24⟩ (.t 46) (.k (.int 0)), guard := some (44, true) },
    { dst := some 48, op := .load 1 false (.t 47), guard := some (44, true) },
    { dst := some 49, op := .call (.f f_view_Index) [(.t 48), (.k (.int 2))], guard := some (44, true) },
    { dst := some 50, op := .bin .eql (.t 49) (.k (.int 1)), guard := some (44, true) },
    { dst := some 51, op := .pick (.t 44) (.t 50) (.k (.bool false)) },
    { dst := some 52, op := .mov (.t 51) },
    { dst := some 53, op := .faddr 2 (.t 5), guard := some (52, true) },
    { dst := some 54, op := .load 1 false (.t 53), guard := some (52, true) },
    { dst := some 55, op := .iaddr ⟨1, 24⟩ (.t 54) (.k (.int 0)), guard := some (52, true) },
    { dst := some 56, op := .load 1 false (.t 55), guard := some (52, true) },
    { dst := some 57, op := .call (.f f_view_Index) [(.t 56), (.k (.int 5))], guard := some (52, true) },
    { dst := some 58, op := .bin .eql (.t 57) (.k (.int 4)), guard := some (52, true) },
    { dst := some 59, op := .pick (.t 52) (.t 58) (.k (.bool false)) },
    { dst := some 0, op := .mov (.t 59) }])
  .ret)))))))))

def x_ref15_Same (f_ref15_SameRow : FuncId) : XC :=
(.seq (.reg [
    { dst := some 2, op := .box ⟨6, 64⟩ (.t 0) },
    { dst := some 3, op := .box ⟨6, 64⟩ (.t 1) },
    { dst := some 4, op := .mov (.k (.bool false)) }])
  (.seq (.seq (.reg [
    { dst := some 6, op := .faddr 0 (.t 2) },
    { dst := some 7, op := .load 1 false (.t 6) },
    { dst := some 8, op := .faddr 0 (.t 3) },
    { dst := some 9, op := .load 1 false (.t 8) },
    { dst := some 10, op := .bin .neq (.t 7) (.t 9) },
    { dst := some 11, op := .mov (.t 10) },
    { dst := some 12, op := .faddr 1 (.t 2), guard := some (11, false) },
    { dst := some 13, op := .load 1 false (.t 12), guard := some (11, false) },
    { dst := some 14, op := .faddr 1 (.t 3), guard := some (11, false) },
    { dst := some 15, op := .load 1 false (.t 14), guard := some (11, false) },
    { dst := some 16, op := .bin .neq (.t 13) (.t 15), guard := some (11, false) },
    { dst := some 17, op := .pick (.t 11) (.k (.bool true)) (.t 16) },
    { dst := some 18, op := .mov (.t 17) },
    { dst := some 19, op := .faddr 3 (.t 2), guard := some (18, false) },
    { dst := some 20, op := .load 1 false (.t 19), guard := some (18, false) },
    { dst := some 21, op := .faddr 3 (.t 3), guard := some (18, false) },
    { dst := some 22, op := .load 1 false (.t 21), guard := some (18, false) },
    { dst := some 23, op := .bin .neq (.t 20) (.t 22), guard := some (18, false) },
    { dst := some 24, op := .pick (.t 18) (.k (.bool true)) (.t 23) },
    { dst := some 25, op := .mov (.t 24) },
    { dst := some 26, op := .faddr 4 (.t 2), guard := some (25, false) },
    { dst := some 27, op := .load 1 false (.t 26), guard := some (25, false) },
    { dst := some 28, op := .faddr 4 (.t 3), guard := some (25, false) },
    { dst := some 29, op := .load 1 false (.t 28), guard := some (25, false) },
    { dst := some 30, op := .bin .neq (.t 27) (.t 29), guard := some (25, false) },
    { dst := some 31, op := .pick (.t 25) (.k (.bool true)) (.t 30) },
    { dst := some 32, op := .mov (.t 31) },
    { dst := some 33, op := .faddr 5 (.t 2), guard := some (32, false) },
    { dst := some 34, op := .load 1 false (.t 33), guard := some (32, false) },
    { dst := some 35, op := .faddr 5 (.t 3), guard := some (32, false) },
    { dst := some 36, op := .load 1 false (.t 35), guard := some (32, false) },
    { dst := some 37, op := .eqb true (.t 34) (.t 36), guard := some (32, false) },
    { dst := some 38, op := .pick (.t 32) (.k (.bool true)) (.t 37) },
    { dst := some 39, op := .mov (.t 38) },
    { dst := some 40, op := .faddr 2 (.t 2), guard := some (39, false) },
    { dst := some 41, op := .load 1 false (.t 40), guard := some (39, false) },
    { dst := some 42, op := .len false (.t 41), guard := some (39, false) },
    { dst := some 43, op := .faddr 2 (.t 3), guard := some (39, false) },
    { dst := some 44, op := .load 1 false (.t 43), guard := some (39, false) },
    { dst := some 45, op := .len false (.t 44), guard := some (39, false) },
    { dst := some 46, op := .bin .neq (.t 42) (.t 45), guard := some (39, false) },
    { dst := some 47, op := .pick (.t 39) (.k (.bool true)) (.t 46) }])
  (.cond (.t 47)
    (.seq (.reg [
      { dst := some 4, op := .mov (.k (.bool false)) }])
    .ret)
    .skip))
  (.seq (.seq (.reg [
    { dst := some 5, op := .mov (.k (.int 0)) }])
  (.block 0 (.loop (.seq (.seq (.reg [
    { dst := some 48, op := .mov (.t 5) },
    { dst := some 49, op := .faddr 2 (.t 2) },
    { dst := some 50, op := .load 1 false (.t 49) },
    { dst := some 51, op := .len false (.t 50) },
    { dst := some 52, op := .bin .lss (.t 48) (.t 51) }])
  (.cond (.t 52)
    .skip
    (.exit 0)))
  (.seq (.block 1 (.seq (.drw 0 [
    { dst := some 55, op := .faddr 2 (.t 2) },
    { dst := some 56, op := .load 1 false (.t 55) },
    { dst := some 57, op := .mov (.t 5) },
    { dst := some 58, op := .iaddr ⟨1, 24⟩ (.t 56) (.t 57) },
    { dst := some 59, op := .load 1 false (.t 58) },
    { dst := some 60, op := .faddr 2 (.t 3) },
    { dst := some 61, op := .load 1 false (.t 60) },
    { dst := some 62, op := .mov (.t 5) },
    { dst := some 63, op := .iaddr ⟨1, 24⟩ (.t 61) (.t 62) },
    { dst := some 64, op := .load 1 false (.t 63) },
    { dst := some 65, op := .call (.f f_ref15_SameRow) [(.t 59), (.t 64)] },
    { dst := some 66, op := .un .not (.t 65) }])
  (.cond (.t 66)
    (.seq (.reg [
      { dst := some 4, op := .mov (.k (.bool false)) }])
    .ret)
    .skip)))
  (.reg [
    { dst := some 53, op := .mov (.t 5) },
    { dst := some 54, op := .bin .add (.t 53) (.k (.int 1)) },
    { dst := some 5, op := .mov (.t 54) }]))))))
  (.seq (.reg [
    { dst := some 4, op := .mov (.k (.bool true)) }])
  .ret))))

def x_view_Of (f_view_showable f_view_glyphs f_slices_Collect_365 f_view_Trim : FuncId) : XC :=
(.seq (.reg [
    { dst := some 1, op := .box ⟨42, 352⟩ (.t 0) },
    { dst := some 2, op := .alloc ⟨6, 64⟩ [(.int 0), (.int 0), .nil, (.int 0), (.int 0), (.bool false)] }])
  (.seq (.seq (.reg [
    { dst := some 6, op := .load 42 true (.t 1) },
    { dst := some 7, op := .call (.f f_view_showable) [(.t 6)] },
    { dst := some 8, op := .un .not (.t 7) }])
  (.cond (.t 8)
    (.seq (.reg [
      { dst := some 9, op := .build [(.int 0), (.int 0), .nil, (.int 0), (.int 0), (.bool false)] [] },
      { dst := none, op := .store 6 (.t 2) (.t 9) }])
    .ret)
    .skip))
  (.seq (.reg [
    { dst := some 10, op := .faddr 0 (.t 1) },
    { dst := some 11, op := .faddr 0 (.t 10) },
    { dst := some 12, op := .load 1 false (.t 11) },
    { dst := some 13, op := .faddr 0 (.t 1) },
    { dst := some 14, op := .faddr 1 (.t 13) },
    { dst := some 15, op := .load 1 false (.t 14) },
    { dst := some 16, op := .faddr 6 (.t 1) },
    { dst := some 17, op := .faddr 0 (.t 16) },
    { dst := some 18, op := .load 1 false (.t 17) },
    { dst := some 19, op := .faddr 6 (.t 1) },
    { dst := some 20, op := .faddr 1 (.t 19) },
    { dst := some 21, op := .load 1 false (.t 20) },
    { dst := some 22, op := .faddr 22 (.t 1) },
    { dst := some 23, op := .faddr 5 (.t 22) },
    { dst := some 24, op := .load 1 false (.t 23) },
    { dst := some 25, op := .build [(.int 0), (.int 0), .nil, (.int 0), (.int 0), (.bool false)] [(0, 1, (.t 12)), (1, 1, (.t 15)), (3, 1, (.t 18)), (4, 1, (.t 21)), (5, 1, (.t 24))] },
    { dst := some 3, op := .alloc ⟨6, 64⟩ [(.int 0), (.int 0), .nil, (.int 0), (.int 0), (.bool false)] },
    { dst := none, op := .store 6 (.t 3) (.t 25) }])
  (.seq (.seq (.reg [
    { dst := some 26, op := .faddr 0 (.t 1) },
    { dst := some 27, op := .faddr 2 (.t 26) },
    { dst := some 28, op := .load 1 false (.t 27) },
    { dst := some 29, op := .len false (.t 28) },
    { dst := some 30, op := .mov (.k (.int 0)) }])
  (.block 0 (.loop (.seq (.reg [
    { dst := some 31, op := .bin .lss (.t 30) (.t 29) }])
  (.seq (.cond (.t 31)
    .skip
    (.exit 0))
  (.seq (.block 1 (.seq (.reg [
    { dst := some 32, op := .iaddr ⟨1, 24⟩ (.t 28) (.t 30) },
    { dst := some 33, op := .load 1 false (.t 32) },
    { dst := some 5, op := .mov (.t 33) }])
  (.drw 2 [
    { dst := some 34, op := .faddr 2 (.t 3) },
    { dst := some 35, op := .load 1 false (.t 34) },
    { dst := some 36, op := .mov (.t 5) },
    { dst := some 37, op := .call (.f f_view_glyphs) [(.t 36)] },
    { dst := some 38, op := .call (.f f_slices_Collect_365) [(.t 37)] },
    { dst := some 39, op := .call (.f f_view_Trim) [(.t 38)] },
    { dst := some 40, op := .bslice ⟨1, 24⟩ [.nil] 1 [(0, (.t 39))], pl := some 0 },
    { dst := some 41, op := .append ⟨1, 24⟩ (.t 35) (.t 40), pl := some 1 },
    { dst := some 42, op := .faddr 2 (.t 3) },
    { dst := none, op := .store 1 (.t 42) (.t 41) }])))
  (.reg [
    { dst := some 43, op := .bin .add (.t 30) (.k (.int 1)) },
    { dst := some 30, op := .mov (.t 43) }])))))))
  (.seq (.reg [
    { dst := some 44, op := .load 6 true (.t 3) },
    { dst := none, op := .store 6 (.t 2) (.t 44) }])
  .ret)))))

def x_ref15_Of (f_ref15_Showable f_ref15_row : FuncId) : XC :=
(.seq (.reg [
    { dst := some 1, op := .box ⟨42, 352⟩ (.t 0) },
    { dst := some 2, op := .alloc ⟨6, 64⟩ [(.int 0), (.int 0), .nil, (.int 0), (.int 0), (.bool false)] }])
  (.seq (.seq (.reg [
    { dst := some 5, op := .load 42 true (.t 1) },
    { dst := some 6, op := .call (.f f_ref15_Showable) [(.t 5)] },
    { dst := some 7, op := .un .not (.t 6) }])
  (.cond (.t 7)
    (.seq (.reg [
      { dst := some 8, op := .build [(.int 0), (.int 0), .nil, (.int 0), (.int 0), (.bool false)] [] },
      { dst := none, op := .store 6 (.t 2) (.t 8) }])
    .ret)
    .skip))
  (.seq (.reg [
    { dst := some 9, op := .faddr 0 (.t 1) },
    { dst := some 10, op := .faddr 0 (.t 9) },
    { dst := some 11, op := .load 1 false (.t 10) },
    { dst := some 12, op := .faddr 0 (.t 1) },
    { dst := some 13, op := .faddr 1 (.t 12) },
    { dst := some 14, op := .load 1 false (.t 13) },
    { dst := some 15, op := .faddr 6 (.t 1) },
    { dst := some 16, op := .faddr 0 (.t 15) },
    { dst := some 17, op := .load 1 false (.t 16) },
    { dst := some 18, op := .faddr 6 (.t 1) },
    { dst := some 19, op := .faddr 1 (.t 18) },
    { dst := some 20, op := .load 1 false (.t 19) },
    { dst := some 21, op := .faddr 22 (.t 1) },
    { dst := some 22, op := .faddr 5 (.t 21) },
    { dst := some 23, op := .load 1 false (.t 22) },
    { dst := some 24, op := .build [(.int 0), (.int 0), .nil, (.int 0), (.int 0), (.bool false)] [(0, 1, (.t 11)), (1, 1, (.t 14)), (3, 1, (.t 17)), (4, 1, (.t 20)), (5, 1, (.t 23))] },
    { dst := some 3, op := .alloc ⟨6, 64⟩ [(.int 0), (.int 0), .nil, (.int 0), (.int 0), (.bool false)] },
    { dst := none, op := .store 6 (.t 3) (.t 24) }])
  (.seq (.seq (.reg [
    { dst := some 4, op := .mov (.k (.int 0)) }])
  (.block 0 (.loop (.seq (.seq (.reg [
    { dst := some 25, op := .mov (.t 4) },
    { dst := some 26, op := .faddr 0 (.t 1) },
    { dst := some 27, op := .faddr 2 (.t 26) },
    { dst := some 28, op := .load 1 false (.t 27) },
    { dst := some 29, op := .len false (.t 28) },
    { dst := some 30, op := .bin .lss (.t 25) (.t 29) }])
  (.cond (.t 30)
    .skip
    (.exit 0)))
  (.seq (.block 1 (.drw 2 [
    { dst := some 33, op := .faddr 2 (.t 3) },
    { dst := some 34, op := .load 1 false (.t 33) },
    { dst := some 35, op := .faddr 0 (.t 1) },
    { dst := some 36, op := .faddr 2 (.t 35) },
    { dst := some 37, op := .load 1 false (.t 36) },
    { dst := some 38, op := .mov (.t 4) },
    { dst := some 39, op := .iaddr ⟨1, 24⟩ (.t 37) (.t 38) },
    { dst := some 40, op := .load 1 false (.t 39) },
    { dst := some 41, op := .call (.f f_ref15_row) [(.t 40)] },
    { dst := some 42, op := .bslice ⟨1, 24⟩ [.nil] 1 [(0, (.t 41))], pl := some 0 },
    { dst := some 43, op := .append ⟨1, 24⟩ (.t 34) (.t 42), pl := some 1 },
    { dst := some 44, op := .faddr 2 (.t 3) },
    { dst := none, op := .store 1 (.t 44) (.t 43) }]))
  (.reg [
    { dst := some 31, op := .mov (.t 4) },
    { dst := some 32, op := .bin .add (.t 31) (.k (.int 1)) },
    { dst := some 4, op := .mov (.t 32) }]))))))
  (.seq (.reg [
    { dst := some 45, op := .load 6 true (.t 3) },
    { dst := none, op := .store 6 (.t 2) (.t 45) }])
  .ret)))))

def x_ref15_GreatRow : XC :=
(.seq (.reg [
    { dst := some 2, op := .mov (.k (.bool false)) }])
  (.seq (.seq (.reg [
    { dst := some 4, op := .mov (.t 0) },
    { dst := some 5, op := .len false (.t 4) },
    { dst := some 6, op := .bin .gtr (.t 5) (.k (.int 140)) }])
  (.cond (.t 6)
    (.seq (.reg [
      { dst := some 2, op := .mov (.k (.bool true)) }])
    .ret)
    .skip))
  (.seq (.seq (.reg [
    { dst := some 3, op := .mov (.k (.int 0)) }])
  (.block 0 (.loop (.seq (.seq (.reg [
    { dst := some 7, op := .mov (.t 3) },
    { dst := some 8, op := .mov (.t 0) },
    { dst := some 9, op := .len false (.t 8) },
    { dst := some 10, op := .bin .lss (.t 7) (.t 9) }])
  (.cond (.t 10)
    .skip
    (.exit 0)))
  (.seq (.block 1 (.seq (.reg [
    { dst := some 13, op := .mov (.t 0) },
    { dst := some 14, op := .mov (.t 3) },
    { dst := some 15, op := .iaddr ⟨3, 32⟩ (.t 13) (.t 14) },
    { dst := some 16, op := .faddr 0 (.t 15) },
    { dst := some 17, op := .load 1 false (.t 16) },
    { dst := some 18, op := .len true (.t 17) },
    { dst := some 19, op := .bin .gtr (.t 18) (.k (.int 40)) }])
  (.cond (.t 19)
    (.seq (.reg [
      { dst := some 2, op := .mov (.k (.bool true)) }])
    .ret)
    .skip)))
  (.reg [
    { dst := some 11, op := .mov (.t 3) },
    { dst := some 12, op := .bin .add (.t 11) (.k (.int 1)) },
    { dst := some 3, op := .mov (.t 12) }]))))))
  (.seq (.reg [
    { dst := some 2, op := .mov (.k (.bool false)) }])
  .ret))))

def x_view_Trim (f_view_blank f_slices_Clone_675 : FuncId) : XC :=
(.seq (.reg [
    { dst := some 2, op := .mov (.k .nil) }])
  (.seq (.reg [
    { dst := some 4, op := .mov (.t 0) },
    { dst := some 5, op := .len false (.t 4) },
    { dst := some 3, op := .mov (.t 5) }])
  (.seq (.block 0 (.loop (.seq (.seq (.drw 0 [
    { dst := some 6, op := .mov (.t 3) },
    { dst := some 7, op := .bin .gtr (.t 6) (.k (.int 0)) },
    { dst := some 8, op := .mov (.t 7) },
    { dst := some 9, op := .mov (.t 0), guard := some (8, true) },
    { dst := some 10, op := .mov (.t 3), guard := some (8, true) },
    { dst := some 11, op := .bin .sub (.t 10) (.k (.int 1)), guard := some (8, true) },
    { dst := some 12, op := .iaddr ⟨3, 32⟩ (.t 9) (.t 11), guard := some (8, true) },
    { dst := some 13, op := .load 3 true (.t 12), guard := some (8, true) },
    { dst := some 14, op := .call (.f f_view_blank) [], guard := some (8, true) },
    { dst := some 15, op := .eqs false 3 [(0, .s), (1, .b), (2, .i)] (.t 13) (.t 14), guard := some (8, true) },
    { dst := some 16, op := .pick (.t 8) (.t 15) (.k (.bool false)) }])
  (.cond (.t 16)
    .skip
    (.exit 0)))
  (.block 1 (.reg [
    { dst := some 17, op := .mov (.t 3) },
    { dst := some 18, op := .bin .sub (.t 17) (.k (.int 1)) },
    { dst := some 3, op := .mov (.t 18) }])))))
  (.seq (.reg [
    { dst := some 19, op := .mov (.t 0) },
    { dst := some 20, op := .mov (.t 3) },
    { dst := some 21, op := .slice ⟨3, 32⟩ (.t 19) none (some (.t 20)) none },
    { dst := some 22, op := .call (.f f_slices_Clone_675) [(.t 21)] },
    { dst := some 2, op := .mov (.t 22) }])
  .ret))))

def x_ref15_SameRow : XC :=
(.seq (.reg [
    { dst := some 4, op := .mov (.k (.bool false)) }])
  (.seq (.seq (.reg [
    { dst := some 6, op := .mov (.t 0) },
    { dst := some 7, op := .len false (.t 6) },
    { dst := some 8, op := .mov (.t 1) },
    { dst := some 9, op := .len false (.t 8) },
    { dst := some 10, op := .bin .neq (.t 7) (.t 9) }])
  (.cond (.t 10)
    (.seq (.reg [
      { dst := some 4, op := .mov (.k (.bool false)) }])
    .ret)
    .skip))
  (.seq (.seq (.reg [
    { dst := some 5, op := .mov (.k (.int 0)) }])
  (.block 0 (.loop (.seq (.seq (.reg [
    { dst := some 11, op := .mov (.t 5) },
    { dst := some 12, op := .mov (.t 0) },
    { dst := some 13, op := .len false (.t 12) },
    { dst := some 14, op := .bin .lss (.t 11) (.t 13) }])
  (.cond (.t 14)
    .skip
    (.exit 0)))
  (.seq (.block 1 (.seq (.drw 0 [
    { dst := some 17, op := .mov (.t 0) },
    { dst := some 18, op := .mov (.t 5) },
    { dst := some 19, op := .iaddr ⟨3, 32⟩ (.t 17) (.t 18) },
    { dst := some 20, op := .load 3 true (.t 19) },
    { dst := some 21, op := .mov (.t 1) },
    { dst := some 22, op := .mov (.t 5) },
    { dst := some 23, op := .iaddr ⟨3, 32⟩ (.t 21) (.t 22) },
    { dst := some 24, op := .load 3 true (.t 23) },
    { dst := some 25, op := .eqs true 3 [(0, .s), (1, .b), (2, .i)] (.t 20) (.t 24) }])
  (.cond (.t 25)
    (.seq (.reg [
      { dst := some 4, op := .mov (.k (.bool false)) }])
    .ret)
    .skip)))
  (.reg [
    { dst := some 15, op := .mov (.t 5) },
    { dst := some 16, op := .bin .add (.t 15) (.k (.int 1)) },
    { dst := some 5, op := .mov (.t 16) }]))))))
  (.seq (.reg [
    { dst := some 4, op := .mov (.k (.bool true)) }])
  .ret))))

def x_view_Index : XC :=
(.seq (.reg [
    { dst := some 4, op := .mov (.k (.int 0)) }])
  (.seq (.seq (.reg [
    { dst := some 8, op := .mov (.t 1) },
    { dst := some 9, op := .bin .lss (.t 8) (.k (.int 0)) }])
  (.cond (.t 9)
    (.seq (.reg [
      { dst := some 4, op := .mov (.k (.int (-1))) }])
    .ret)
    .skip))
  (.seq (.reg [
    { dst := some 5, op := .mov (.k (.int 0)) }])
  (.seq (.seq (.reg [
    { dst := some 10, op := .mov (.t 0) },
    { dst := some 11, op := .len false (.t 10) },
    { dst := some 12, op := .mov (.k (.int 0)) }])
  (.block 0 (.loop (.seq (.reg [
    { dst := some 13, op := .bin .lss (.t 12) (.t 11) }])
  (.seq (.cond (.t 13)
    .skip
    (.exit 0))
  (.seq (.block 1 (.seq (.reg [
    { dst := some 14, op := .mov (.t 12) },
    { dst := some 15, op := .iaddr ⟨3, 32⟩ (.t 10) (.t 12) },
    { dst := some 16, op := .load 3 true (.t 15) },
    { dst := some 7, op := .alloc ⟨3, 32⟩ [(.str ⟨#[]⟩), (.bool false), (.int 0)] },
    { dst := some 6, op := .mov (.t 14) },
    { dst := none, op := .store 3 (.t 7) (.t 16) }])
  (.seq (.reg [
    { dst := some 17, op := .mov (.t 5) },
    { dst := some 18, op := .bin .add (.t 17) (.k (.int 1)) },
    { dst := some 5, op := .mov (.t 18) }])
  (.seq (.seq (.reg [
    { dst := some 19, op := .faddr 1 (.t 7) },
    { dst := some 20, op := .load 1 false (.t 19) }])
  (.cond (.t 20)
    (.reg [
      { dst := some 21, op := .mov (.t 5) },
      { dst := some 22, op := .bin .add (.t 21) (.k (.int 1)) },
      { dst := some 5, op := .mov (.t 22) }])
    .skip))
  (.seq (.reg [
    { dst := some 23, op := .mov (.t 1) },
    { dst := some 24, op := .mov (.t 5) },
    { dst := some 25, op := .bin .lss (.t 23) (.t 24) }])
  (.cond (.t 25)
    (.seq (.reg [
      { dst := some 26, op := .mov (.t 6) },
      { dst := some 4, op := .mov (.t 26) }])
    .ret)
    .skip))))))
  (.reg [
    { dst := some 27, op := .bin .add (.t 12) (.k (.int 1)) },
    { dst := some 12, op := .mov (.t 27) }])))))))
  (.seq (.reg [
    { dst := some 28, op := .mov (.t 0) },
    { dst := some 29, op := .len false (.t 28) },
    { dst := some 30, op := .mov (.t 1) },
    { dst := some 31, op := .bin .add (.t 29) (.t 30) },
    { dst := some 32, op := .mov (.t 5) },
    { dst := some 33, op := .bin .sub (.t 31) (.t 32) },
    { dst := some 4, op := .mov (.t 33) }])
  .ret)))))

def x_view_Width : XC :=
(.seq (.reg [
    { dst := some 2, op := .mov (.k (.int 0)) }])
  (.seq (.reg [
    { dst := some 6, op := .mov (.t 0) },
    { dst := some 7, op := .len false (.t 6) },
    { dst := some 3, op := .mov (.t 7) }])
  (.seq (.seq (.reg [
    { dst := some 8, op := .mov (.t 0) },
    { dst := some 9, op := .len false (.t 8) },
    { dst := some 10, op := .mov (.k (.int 0)) }])
  (.block 0 (.loop (.seq (.reg [
    { dst := some 11, op := .bin .lss (.t 10) (.t 9) }])
  (.seq (.cond (.t 11)
    .skip
    (.exit 0))
  (.seq (.block 1 (.seq (.reg [
    { dst := some 12, op := .iaddr ⟨3, 32⟩ (.t 8) (.t 10) },
    { dst := some 13, op := .load 3 true (.t 12) },
    { dst := some 5, op := .alloc ⟨3, 32⟩ [(.str ⟨#[]⟩), (.bool false), (.int 0)] },
    { dst := none, op := .store 3 (.t 5) (.t 13) }])
  (.seq (.reg [
    { dst := some 14, op := .faddr 1 (.t 5) },
    { dst := some 15, op := .load 1 false (.t 14) }])
  (.cond (.t 15)
    (.reg [
      { dst := some 16, op := .mov (.t 3) },
      { dst := some 17, op := .bin .add (.t 16) (.k (.int 1)) },
      { dst := some 3, op := .mov (.t 17) }])
    .skip))))
  (.reg [
    { dst := some 18, op := .bin .add (.t 10) (.k (.int 1)) },
    { dst := some 10, op := .mov (.t 18) }])))))))
  (.seq (.reg [
    { dst := some 19, op := .mov (.t 3) },
    { dst := some 2, op := .mov (.t 19) }])
  .ret))))

def x_ref15_Great (f_ref15_GreatRow : FuncId) : XC :=
(.seq (.reg [
    { dst := some 1, op := .box ⟨6, 64⟩ (.t 0) },
    { dst := some 2, op := .mov (.k (.bool false)) }])
  (.seq (.seq (.reg [
    { dst := some 4, op := .faddr 2 (.t 1) },
    { dst := some 5, op := .load 1 false (.t 4) },
    { dst := some 6, op := .len false (.t 5) },
    { dst := some 7, op := .bin .gtr (.t 6) (.k (.int 12)) },
    { dst := some 8, op := .mov (.t 7) },
    { dst := some 9, op := .faddr 0 (.t 1), guard := some (8, false) },
    { dst := some 10, op := .load 1 false (.t 9), guard := some (8, false) },
    { dst := some 11, op := .bin .gtr (.t 10) (.k (.int 40)), guard := some (8, false) },
    { dst := some 12, op := .mov (.t 11), guard := some (8, false) },
    { dst := some 13, op := .faddr 2 (.t 1), guard := some (12, true) },
    { dst := some 14, op := .load 1 false (.t 13), guard := some (12, true) },
    { dst := some 15, op := .len false (.t 14), guard := some (12, true) },
    { dst := some 16, op := .bin .gtr (.t 15) (.k (.int 2)), guard := some (12, true) },
    { dst := some 17, op := .pick (.t 12) (.t 16) (.k (.bool false)), guard := some (8, false) },
    { dst := some 18, op := .pick (.t 8) (.k (.bool true)) (.t 17) }])
  (.cond (.t 18)
    (.seq (.reg [
      { dst := some 2, op := .mov (.k (.bool true)) }])
    .ret)
    .skip))
  (.seq (.seq (.reg [
    { dst := some 3, op := .mov (.k (.int 0)) }])
  (.block 0 (.loop (.seq (.seq (.reg [
    { dst := some 19, op := .mov (.t 3) },
    { dst := some 20, op := .faddr 2 (.t 1) },
    { dst := some 21, op := .load 1 false (.t 20) },
    { dst := some 22, op := .len false (.t 21) },
    { dst := some 23, op := .bin .lss (.t 19) (.t 22) }])
  (.cond (.t 23)
    .skip
    (.exit 0)))
  (.seq (.block 1 (.seq (.reg [
    { dst := some 26, op := .faddr 2 (.t 1) },
    { dst := some 27, op := .load 1 false (.t 26) },
    { dst := some 28, op := .mov (.t 3) },
    { dst := some 29, op := .iaddr ⟨1, 24⟩ (.t 27) (.t 28) },
    { dst := some 30, op := .load 1 false (.t 29) },
    { dst := some 31, op := .call (.f f_ref15_GreatRow) [(.t 30)] }])
  (.cond (.t 31)
    (.seq (.reg [
      { dst := some 2, op := .mov (.k (.bool true)) }])
    .ret)
    .skip)))
  (.reg [
    { dst := some 24, op := .mov (.t 3) },
    { dst := some 25, op := .bin .add (.t 24) (.k (.int 1)) },
    { dst := some 3, op := .mov (.t 25) }]))))))
  (.seq (.reg [
    { dst := some 2, op := .mov (.k (.bool false)) }])
  .ret))))

def x_view_Equal (f_slices_EqualFunc_833 f_slices_Equal_675 : FuncId) : XC :=
(.seq (.reg [
    { dst := some 2, op := .box ⟨6, 64⟩ (.t 0) },
    { dst := some 3, op := .box ⟨6, 64⟩ (.t 1) },
    { dst := some 4, op := .mov (.k (.bool false)) }])
  (.seq (.reg [
    { dst := some 5, op := .faddr 0 (.t 2) },
    { dst := some 6, op := .load 1 false (.t 5) },
    { dst := some 7, op := .faddr 0 (.t 3) },
    { dst := some 8, op := .load 1 false (.t 7) },
    { dst := some 9, op := .bin .eql (.t 6) (.t 8) },
    { dst := some 10, op := .mov (.t 9) },
    { dst := some 11, op := .faddr 1 (.t 2), guard := some (10, true) },
    { dst := some 12, op := .load 1 false (.t 11), guard := some (10, true) },
    { dst := some 13, op := .faddr 1 (.t 3), guard := some (10, true) },
    { dst := some 14, op := .load 1 false (.t 13), guard := some (10, true) },
    { dst := some 15, op := .bin .eql (.t 12) (.t 14), guard := some (10, true) },
    { dst := some 16, op := .pick (.t 10) (.t 15) (.k (.bool false)) },
    { dst := some 17, op := .mov (.t 16) },
    { dst := some 18, op := .faddr 3 (.t 2), guard := some (17, true) },
    { dst := some 19, op := .load 1 false (.t 18), guard := some (17, true) },
    { dst := some 20, op := .faddr 3 (.t 3), guard := some (17, true) },
    { dst := some 21, op := .load 1 false (.t 20), guard := some (17, true) },
    { dst := some 22, op := .bin .eql (.t 19) (.t 21), guard := some (17, true) },
    { dst := some 23, op := .pick (.t 17) (.t 22) (.k (.bool false)) },
    { dst := some 24, op := .mov (.t 23) },
    { dst := some 25, op := .faddr 4 (.t 2), guard := some (24, true) },
    { dst := some 26, op := .load 1 false (.t 25), guard := some (24, true) },
    { dst := some 27, op := .faddr 4 (.t 3), guard := some (24, true) },
    { dst := some 28, op := .load 1 false (.t 27), guard := some (24, true) },
    { dst := some 29, op := .bin .eql (.t 26) (.t 28), guard := some (24, true) },
    { dst := some 30, op := .pick (.t 24) (.t 29) (.k (.bool false)) },
    { dst := some 31, op := .mov (.t 30) },
    { dst := some 32, op := .faddr 5 (.t 2), guard := some (31, true) },
    { dst := some 33, op := .load 1 false (.t 32), guard := some (31, true) },
    { dst := some 34, op := .faddr 5 (.t 3), guard := some (31, true) },
    { dst := some 35, op := .load 1 false (.t 34), guard := some (31, true) },
    { dst := some 36, op := .eqb false (.t 33) (.t 35), guard := some (31, true) },
    { dst := some 37, op := .pick (.t 31) (.t 36) (.k (.bool false)) },
    { dst := some 38, op := .mov (.t 37) },
    { dst := some 39, op := .faddr 2 (.t 2), guard := some (38, true) },
    { dst := some 40, op := .load 1 false (.t 39), guard := some (38, true) },
    { dst := some 41, op := .faddr 2 (.t 3), guard := some (38, true) },
    { dst := some 42, op := .load 1 false (.t 41), guard := some (38, true) },
    { dst := some 43, op := .call (.f f_slices_EqualFunc_833) [(.t 40), (.t 42), (.f f_slices_Equal_675)], guard := some (38, true) },
    { dst := some 44, op := .pick (.t 38) (.t 43) (.k (.bool false)) },
    { dst := some 4, op := .mov (.t 44) }])
  .ret))

def x_cluster_Width (f_cluster_runes f_charwidth_Width : FuncId) : XC :=
(.seq (.reg [
    { dst := some 2, op := .mov (.k (.int 0)) }])
  (.seq (.seq (.reg [
    { dst := some 4, op := .mov (.t 0) },
    { dst := some 5, op := .call (.f f_cluster_runes) [(.t 4)] },
    { dst := some 3, op := .mov (.t 5) }])
  (.seq (.reg [
    { dst := some 6, op := .mov (.t 3) },
    { dst := some 7, op := .len false (.t 6) },
    { dst := some 8, op := .bin .gtr (.t 7) (.k (.int 0)) }])
  (.cond (.t 8)
    (.seq (.reg [
      { dst := some 9, op := .mov (.t 3) },
      { dst := some 10, op := .iaddr ⟨1, 4⟩ (.t 9) (.k (.int 0)) },
      { dst := some 11, op := .load 1 false (.t 10) },
      { dst := some 12, op := .call (.f f_charwidth_Width) [(.t 11)] },
      { dst := some 2, op := .mov (.t 12) }])
    .ret)
    .skip)))
  (.seq (.reg [
    { dst := some 2, op := .mov (.k (.int 0)) }])
  .ret)))

def x_ref15_Showable (f_ref15_Size f_ref07_Check f_ref04_Right : FuncId) : XC :=
(.seq (.reg [
    { dst := some 1, op := .box ⟨42, 352⟩ (.t 0) },
    { dst := some 2, op := .mov (.k (.bool false)) }])
  (.seq (.reg [
    { dst := some 6, op := .faddr 0 (.t 1) },
    { dst := some 7, op := .load 3 true (.t 6) },
    { dst := some 3, op := .alloc ⟨3, 40⟩ [(.int 0), (.int 0), .nil] },
    { dst := none, op := .store 3 (.t 3) (.t 7) }])
  (.seq (.seq (.reg [
    { dst := some 8, op := .faddr 0 (.t 3) },
    { dst := some 9, op := .load 1 false (.t 8) },
    { dst := some 10, op := .faddr 1 (.t 3) },
    { dst := some 11, op := .load 1 false (.t 10) },
    { dst := some 12, op := .call (.f f_ref15_Size) [(.t 9), (.t 11)] },
    { dst := some 13, op := .un .not (.t 12) },
    { dst := some 14, op := .mov (.t 13) },
    { dst := some 15, op := .faddr 2 (.t 3), guard := some (14, false) },
    { dst := some 16, op := .load 1 false (.t 15), guard := some (14, false) },
    { dst := some 17, op := .len false (.t 16), guard := some (14, false) },
    { dst := some 18, op := .faddr 1 (.t 3), guard := some (14, false) },
    { dst := some 19, op := .load 1 false (.t 18), guard := some (14, false) },
    { dst := some 20, op := .bin .neq (.t 17) (.t 19), guard := some (14, false) },
    { dst := some 21, op := .pick (.t 14) (.k (.bool true)) (.t 20) },
    { dst := some 22, op := .mov (.t 21) },
    { dst := some 23, op := .faddr 6 (.t 1), guard := some (22, false) },
    { dst := some 24, op := .faddr 0 (.t 23), guard := some (22, false) },
    { dst := some 25, op := .load 1 false (.t 24), guard := some (22, false) },
    { dst := some 26, op := .bin .lss (.t 25) (.k (.int 0)), guard := some (22, false) },
    { dst := some 27, op := .pick (.t 22) (.k (.bool true)) (.t 26) },
    { dst := some 28, op := .mov (.t 27) },
    { dst := some 29, op := .faddr 6 (.t 1), guard := some (28, false) },
    { dst := some 30, op := .faddr 0 (.t 29), guard := some (28, false) },
    { dst := some 31, op := .load 1 false (.t 30), guard := some (28, false) },
    { dst := some 32, op := .faddr 1 (.t 3), guard := some (28, false) },
    { dst := some 33, op := .load 1 false (.t 32), guard := some (28, false) },
    { dst := some 34, op := .bin .geq (.t 31) (.t 33), guard := some (28, false) },
    { dst := some 35, op := .pick (.t 28) (.k (.bool true)) (.t 34) },
    { dst := some 36, op := .mov (.t 35) },
    { dst := some 37, op := .faddr 6 (.t 1), guard := some (36, false) },
    { dst := some 38, op := .faddr 1 (.t 37), guard := some (36, false) },
    { dst := some 39, op := .load 1 false (.t 38), guard := some (36, false) },
    { dst := some 40, op := .bin .lss (.t 39) (.k (.int 0)), guard := some (36, false) },
    { dst := some 41, op := .pick (.t 36) (.k (.bool true)) (.t 40) },
    { dst := some 42, op := .mov (.t 41) },
    { dst := some 43, op := .faddr 6 (.t 1), guard := some (42, false) },
    { dst := some 44, op := .faddr 1 (.t 43), guard := some (42, false) },
    { dst := some 45, op := .load 1 false (.t 44), guard := some (42, false) },
    { dst := some 46, op := .faddr 0 (.t 3), guard := some (42, false) },
    { dst := some 47, op := .load 1 false (.t 46), guard := some (42, false) },
    { dst := some 48, op := .bin .geq (.t 45) (.t 47), guard := some (42, false) },
    { dst := some 49, op := .pick (.t 42) (.k (.bool true)) (.t 48) }])
  (.cond (.t 49)
    (.seq (.reg [
      { dst := some 2, op := .mov (.k (.bool false)) }])
    .ret)
    .skip))
  (.seq (.seq (.reg [
    { dst := some 4, op := .mov (.k (.int 0)) }])
  (.block 0 (.loop (.seq (.seq (.reg [
    { dst := some 50, op := .mov (.t 4) },
    { dst := some 51, op := .faddr 2 (.t 3) },
    { dst := some 52, op := .load 1 false (.t 51) },
    { dst := some 53, op := .len false (.t 52) },
    { dst := some 54, op := .bin .lss (.t 50) (.t 53) }])
  (.cond (.t 54)
    .skip
    (.exit 0)))
  (.seq (.block 1 (.seq (.seq (.drw 0 [
    { dst := some 57, op := .faddr 2 (.t 3) },
    { dst := some 58, op := .load 1 false (.t 57) },
    { dst := some 59, op := .mov (.t 4) },
    { dst := some 60, op := .iaddr ⟨1, 24⟩ (.t 58) (.t 59) },
    { dst := some 61, op := .load 1 false (.t 60) },
    { dst := some 62, op := .len false (.t 61) },
    { dst := some 63, op := .faddr 0 (.t 3) },
    { dst := some 64, op := .load 1 false (.t 63) },
    { dst := some 65, op := .bin .neq (.t 62) (.t 64) },
    { dst := some 66, op := .mov (.t 65) },
    { dst := some 67, op := .faddr 2 (.t 3), guard := some (66, false) },
    { dst := some 68, op := .load 1 false (.t 67), guard := some (66, false) },
    { dst := some 69, op := .mov (.t 4), guard := some (66, false) },
    { dst := some 70, op := .iaddr ⟨1, 24⟩ (.t 68) (.t 69), guard := some (66, false) },
    { dst := some 71, op := .load 1 false (.t 70), guard := some (66, false) },
    { dst := some 72, op := .call (.f f_ref07_Check) [(.t 71)], guard := some (66, false) },
    { dst := some 73, op := .bin .neq (.t 72) (.k (.int 0)), guard := some (66, false) },
    { dst := some 74, op := .pick (.t 66) (.k (.bool true)) (.t 73) }])
  (.cond (.t 74)
    (.seq (.reg [
      { dst := some 2, op := .mov (.k (.bool false)) }])
    .ret)
    .skip))
  (.seq (.reg [
    { dst := some 5, op := .mov (.k (.int 0)) }])
  (.block 2 (.loop (.seq (.seq (.reg [
    { dst := some 75, op := .mov (.t 5) },
    { dst := some 76, op := .faddr 2 (.t 3) },
    { dst := some 77, op := .load 1 false (.t 76) },
    { dst := some 78, op := .mov (.t 4) },
    { dst := some 79, op := .iaddr ⟨1, 24⟩ (.t 77) (.t 78) },
    { dst := some 80, op := .load 1 false (.t 79) },
    { dst := some 81, op := .len false (.t 80) },
    { dst := some 82, op := .bin .lss (.t 75) (.t 81) }])
  (.cond (.t 82)
    .skip
    (.exit 2)))
  (.seq (.block 3 (.seq (.reg [
    { dst := some 85, op := .faddr 2 (.t 3) },
    { dst := some 86, op := .load 1 false (.t 85) },
    { dst := some 87, op := .mov (.t 4) },
    { dst := some 88, op := .iaddr ⟨1, 24⟩ (.t 86) (.t 87) },
    { dst := some 89, op := .load 1 false (.t 88) },
    { dst := some 90, op := .mov (.t 5) },
    { dst := some 91, op := .iaddr ⟨5, 48⟩ (.t 89) (.t 90) },
    { dst := some 92, op := .faddr 2 (.t 91) },
    { dst := some 93, op := .load 3 true (.t 92) },
    { dst := some 94, op := .call (.f f_ref04_Right) [(.t 93)] },
    { dst := some 95, op := .bin .eql (.t 94) (.k (.int 0)) }])
  (.cond (.t 95)
    (.seq (.reg [
      { dst := some 2, op := .mov (.k (.bool false)) }])
    .ret)
    .skip)))
  (.reg [
    { dst := some 83, op := .mov (.t 5) },
    { dst := some 84, op := .bin .add (.t 83) (.k (.int 1)) },
    { dst := some 5, op := .mov (.t 84) }]))))))))
  (.reg [
    { dst := some 55, op := .mov (.t 4) },
    { dst := some 56, op := .bin .add (.t 55) (.k (.int 1)) },
    { dst := some 4, op := .mov (.t 56) }]))))))
  (.seq (.reg [
    { dst := some 2, op := .mov (.k (.bool true)) }])
  .ret)))))

def x_cellrow_Check (f_cluster_Check f_cluster_Width : FuncId) : XC :=
(.seq (.reg [
    { dst := some 2, op := .mov (.k (.int 0)) }])
  (.seq (.seq (.reg [
    { dst := some 5, op := .mov (.t 0) },
    { dst := some 6, op := .len false (.t 5) },
    { dst := some 7, op := .bin .lss (.t 6) (.k (.int 1)) },
    { dst := some 8, op := .mov (.t 7) },
    { dst := some 9, op := .mov (.t 0), guard := some (8, false) },
    { dst := some 10, op := .len false (.t 9), guard := some (8, false) },
    { dst := some 11, op := .bin .gtr (.t 10) (.k (.int 132)), guard := some (8, false) },
    { dst := some 12, op := .pick (.t 8) (.k (.bool true)) (.t 11) }])
  (.cond (.t 12)
    (.seq (.reg [
      { dst := some 2, op := .mov (.k (.int 5)) }])
    .ret)
    .skip))
  (.seq (.seq (.reg [
    { dst := some 3, op := .mov (.k (.int 0)) }])
  (.block 0 (.loop (.seq (.seq (.reg [
    { dst := some 13, op := .mov (.t 3) },
    { dst := some 14, op := .mov (.t 0) },
    { dst := some 15, op := .len false (.t 14) },
    { dst := some 16, op := .bin .lss (.t 13) (.t 15) }])
  (.cond (.t 16)
    .skip
    (.exit 0)))
  (.block 1 (.seq (.reg [
    { dst := some 17, op := .mov (.t 0) },
    { dst := some 18, op := .mov (.t 3) },
    { dst := some 19, op := .iaddr ⟨5, 48⟩ (.t 17) (.t 18) },
    { dst := some 20, op := .load 5 true (.t 19) },
    { dst := some 4, op := .alloc ⟨5, 48⟩ [(.str ⟨#[]⟩), (.int 0), (.int 0), (.int 0), (.int 0)] },
    { dst := none, op := .store 5 (.t 4) (.t 20) }])
  (.seq (.seq (.reg [
    { dst := some 21, op := .faddr 1 (.t 4) },
    { dst := some 22, op := .load 1 false (.t 21) },
    { dst := some 23, op := .bin .neq (.t 22) (.k (.int 1)) },
    { dst := some 24, op := .mov (.t 23) },
    { dst := some 25, op := .faddr 1 (.t 4), guard := some (24, true) },
    { dst := some 26, op := .load 1 false (.t 25), guard := some (24, true) },
    { dst := some 27, op := .bin .neq (.t 26) (.k (.int 2)), guard := some (24, true) },
    { dst := some 28, op := .pick (.t 24) (.t 27) (.k (.bool false)) }])
  (.cond (.t 28)
    (.seq (.reg [
      { dst := some 2, op := .mov (.k (.int 12)) }])
    .ret)
    .skip))
  (.seq (.seq (.reg [
    { dst := some 29, op := .faddr 0 (.t 4) },
    { dst := some 30, op := .load 1 false (.t 29) },
    { dst := some 31, op := .call (.f f_cluster_Check) [(.t 30)] },
    { dst := some 32, op := .bin .neq (.t 31) (.k (.int 0)) }])
  (.cond (.t 32)
    (.seq (.reg [
      { dst := some 2, op := .mov (.k (.int 3)) }])
    .ret)
    .skip))
  (.seq (.seq (.drw 0 [
    { dst := some 33, op := .faddr 0 (.t 4) },
    { dst := some 34, op := .load 1 false (.t 33) },
    { dst := some 35, op := .call (.f f_cluster_Width) [(.t 34)] },
    { dst := some 36, op := .faddr 1 (.t 4) },
    { dst := some 37, op := .load 1 false (.t 36) },
    { dst := some 38, op := .bin .neq (.t 35) (.t 37) }])
  (.cond (.t 38)
    (.seq (.reg [
      { dst := some 2, op := .mov (.k (.int 12)) }])
    .ret)
    .skip))
  (.seq (.seq (.drw 0 [
    { dst := some 39, op := .faddr 1 (.t 4) },
    { dst := some 40, op := .load 1 false (.t 39) },
    { dst := some 41, op := .bin .eql (.t 40) (.k (.int 2)) },
    { dst := some 42, op := .mov (.t 41) },
    { dst := some 43, op := .mov (.t 3), guard := some (42, true) },
    { dst := some 44, op := .bin .add (.t 43) (.k (.int 1)), guard := some (42, true) },
    { dst := some 45, op := .mov (.t 0), guard := some (42, true) },
    { dst := some 46, op := .len false (.t 45), guard := some (42, true) },
    { dst := some 47, op := .bin .geq (.t 44) (.t 46), guard := some (42, true) },
    { dst := some 48, op := .mov (.t 47), guard := some (42, true) },
    { dst := some 49, op := .mov (.t 0), guard := some (48, false) },
    { dst := some 50, op := .mov (.t 3), guard := some (48, false) },
    { dst := some 51, op := .bin .add (.t 50) (.k (.int 1)), guard := some (48, false) },
    { dst := some 52, op := .iaddr ⟨5, 48⟩ (.t 49) (.t 51), guard := some (48, false) },
    { dst := some 53, op := .load 5 true (.t 52), guard := some (48, false) },
    { dst := some 54, op := .faddr 2 (.t 4), guard := some (48, false) },
    { dst := some 55, op := .load 3 true (.t 54), guard := some (48, false) },
    { dst := some 56, op := .build [(.str ⟨#[]⟩), (.int 0), (.int 0), (.int 0), (.int 0)] [(2, 3, (.t 55))], guard := some (48, false) },
    { dst := some 57, op := .eqs true 5 [(0, .s), (1, .i), (2, .i), (3, .i), (4, .i)] (.t 53) (.t 56), guard := some (48, false) },
    { dst := some 58, op := .pick (.t 48) (.k (.bool true)) (.t 57), guard := some (42, true) },
    { dst := some 59, op := .pick (.t 42) (.t 58) (.k (.bool false)) }])
  (.cond (.t 59)
    (.seq (.reg [
      { dst := some 2, op := .mov (.k (.int 12)) }])
    .ret)
    .skip))
  (.reg [
    { dst := some 60, op := .mov (.t 3) },
    { dst := some 61, op := .faddr 1 (.t 4) },
    { dst := some 62, op := .load 1 false (.t 61) },
    { dst := some 63, op := .bin .add (.t 60) (.t 62) },
    { dst := some 3, op := .mov (.t 63) }])))))))))))
  (.seq (.reg [
    { dst := some 2, op := .mov (.k (.int 0)) }])
  .ret))))

def x_cellrow_Text (f_strings_Builder_WriteString f_strings_Builder_String : FuncId) : XC :=
(.seq (.reg [
    { dst := some 2, op := .mov (.k (.str ⟨#[]⟩)) }])
  (.seq (.reg [
    { dst := some 3, op := .alloc ⟨2, 32⟩ [(.sc (.pointer none)), .nil] }])
  (.seq (.seq (.reg [
    { dst := some 6, op := .mov (.t 0) },
    { dst := some 7, op := .len false (.t 6) },
    { dst := some 8, op := .mov (.k (.int 0)) }])
  (.block 0 (.loop (.seq (.reg [
    { dst := some 9, op := .bin .lss (.t 8) (.t 7) }])
  (.seq (.cond (.t 9)
    .skip
    (.exit 0))
  (.seq (.block 1 (.seq (.reg [
    { dst := some 10, op := .iaddr ⟨5, 48⟩ (.t 6) (.t 8) },
    { dst := some 11, op := .load 5 true (.t 10) },
    { dst := some 5, op := .alloc ⟨5, 48⟩ [(.str ⟨#[]⟩), (.int 0), (.int 0), (.int 0), (.int 0)] },
    { dst := none, op := .store 5 (.t 5) (.t 11) }])
  (.reg [
    { dst := some 12, op := .faddr 0 (.t 5) },
    { dst := some 13, op := .load 1 false (.t 12) },
    { dst := some 14, op := .call (.f f_strings_Builder_WriteString) [(.t 3), (.t 13)] }])))
  (.reg [
    { dst := some 15, op := .bin .add (.t 8) (.k (.int 1)) },
    { dst := some 8, op := .mov (.t 15) }])))))))
  (.seq (.reg [
    { dst := some 16, op := .call (.f f_strings_Builder_String) [(.t 3)] },
    { dst := some 2, op := .mov (.t 16) }])
  .ret))))

def x_view_Text (f_strings_Builder_WriteString f_strings_Builder_String : FuncId) : XC :=
(.seq (.reg [
    { dst := some 2, op := .mov (.k (.str ⟨#[]⟩)) }])
  (.seq (.reg [
    { dst := some 3, op := .alloc ⟨2, 32⟩ [(.sc (.pointer none)), .nil] }])
  (.seq (.seq (.reg [
    { dst := some 6, op := .mov (.t 0) },
    { dst := some 7, op := .len false (.t 6) },
    { dst := some 8, op := .mov (.k (.int 0)) }])
  (.block 0 (.loop (.seq (.reg [
    { dst := some 9, op := .bin .lss (.t 8) (.t 7) }])
  (.seq (.cond (.t 9)
    .skip
    (.exit 0))
  (.seq (.block 1 (.seq (.reg [
    { dst := some 10, op := .iaddr ⟨3, 32⟩ (.t 6) (.t 8) },
    { dst := some 11, op := .load 3 true (.t 10) },
    { dst := some 5, op := .alloc ⟨3, 32⟩ [(.str ⟨#[]⟩), (.bool false), (.int 0)] },
    { dst := none, op := .store 3 (.t 5) (.t 11) }])
  (.reg [
    { dst := some 12, op := .faddr 0 (.t 5) },
    { dst := some 13, op := .load 1 false (.t 12) },
    { dst := some 14, op := .call (.f f_strings_Builder_WriteString) [(.t 3), (.t 13)] }])))
  (.reg [
    { dst := some 15, op := .bin .add (.t 8) (.k (.int 1)) },
    { dst := some 8, op := .mov (.t 15) }])))))))
  (.seq (.reg [
    { dst := some 16, op := .call (.f f_strings_Builder_String) [(.t 3)] },
    { dst := some 2, op := .mov (.t 16) }])
  .ret))))

def x_ref15_Trim (f_ref15_blank : FuncId) : XC :=
(.seq (.reg [
    { dst := some 2, op := .mov (.k .nil) }])
  (.seq (.reg [
    { dst := some 4, op := .mov (.t 0) },
    { dst := some 5, op := .len false (.t 4) },
    { dst := some 3, op := .mov (.t 5) }])
  (.seq (.block 0 (.loop (.seq (.seq (.reg [
    { dst := some 6, op := .mov (.t 3) },
    { dst := some 7, op := .bin .gtr (.t 6) (.k (.int 0)) },
    { dst := some 8, op := .mov (.t 7) },
    { dst := some 9, op := .mov (.t 0), guard := some (8, true) },
    { dst := some 10, op := .mov (.t 3), guard := some (8, true) },
    { dst := some 11, op := .bin .sub (.t 10) (.k (.int 1)), guard := some (8, true) },
    { dst := some 12, op := .iaddr ⟨3, 32⟩ (.t 9) (.t 11), guard := some (8, true) },
    { dst := some 13, op := .load 3 true (.t 12), guard := some (8, true) },
    { dst := some 14, op := .call (.f f_ref15_blank) [(.t 13)], guard := some (8, true) },
    { dst := some 15, op := .pick (.t 8) (.t 14) (.k (.bool false)) }])
  (.cond (.t 15)
    .skip
    (.exit 0)))
  (.block 1 (.reg [
    { dst := some 16, op := .mov (.t 3) },
    { dst := some 17, op := .bin .sub (.t 16) (.k (.int 1)) },
    { dst := some 3, op := .mov (.t 17) }])))))
  (.seq (.reg [
    { dst := some 18, op := .bslice ⟨3, 32⟩ [(.str ⟨#[]⟩), (.bool false), (.int 0)] 0 [] },
    { dst := some 19, op := .mov (.t 0) },
    { dst := some 20, op := .mov (.t 3) },
    { dst := some 21, op := .slice ⟨3, 32⟩ (.t 19) none (some (.t 20)) none },
    { dst := some 22, op := .append ⟨3, 32⟩ (.t 18) (.t 21) },
    { dst := some 2, op := .mov (.t 22) }])
  .ret))))

def x_ref15_Width : XC :=
(.seq (.reg [
    { dst := some 2, op := .mov (.k (.int 0)) }])
  (.seq (.reg [
    { dst := some 3, op := .mov (.k (.int 0)) }])
  (.seq (.seq (.reg [
    { dst := some 4, op := .mov (.k (.int 0)) }])
  (.block 0 (.loop (.seq (.seq (.reg [
    { dst := some 5, op := .mov (.t 4) },
    { dst := some 6, op := .mov (.t 0) },
    { dst := some 7, op := .len false (.t 6) },
    { dst := some 8, op := .bin .lss (.t 5) (.t 7) }])
  (.cond (.t 8)
    .skip
    (.exit 0)))
  (.seq (.block 1 (.seq (.reg [
    { dst := some 11, op := .mov (.t 3) },
    { dst := some 12, op := .bin .add (.t 11) (.k (.int 1)) },
    { dst := some 3, op := .mov (.t 12) }])
  (.seq (.reg [
    { dst := some 13, op := .mov (.t 0) },
    { dst := some 14, op := .mov (.t 4) },
    { dst := some 15, op := .iaddr ⟨3, 32⟩ (.t 13) (.t 14) },
    { dst := some 16, op := .faddr 1 (.t 15) },
    { dst := some 17, op := .load 1 false (.t 16) }])
  (.cond (.t 17)
    (.reg [
      { dst := some 18, op := .mov (.t 3) },
      { dst := some 19, op := .bin .add (.t 18) (.k (.int 1)) },
      { dst := some 3, op := .mov (.t 19) }])
    .skip))))
  (.reg [
    { dst := some 9, op := .mov (.t 4) },
    { dst := some 10, op := .bin .add (.t 9) (.k (.int 1)) },
    { dst := some 4, op := .mov (.t 10) }]))))))
  (.seq (.reg [
    { dst := some 20, op := .mov (.t 3) },
    { dst := some 2, op := .mov (.t 20) }])
  .ret))))

def x_ref15_Text : XC :=
(.seq (.reg [
    { dst := some 2, op := .mov (.k (.str ⟨#[]⟩)) }])
  (.seq (.reg [
    { dst := some 3, op := .mov (.k (.str ⟨#[]⟩)) }])
  (.seq (.seq (.reg [
    { dst := some 4, op := .mov (.k (.int 0)) }])
  (.block 0 (.loop (.seq (.seq (.reg [
    { dst := some 5, op := .mov (.t 4) },
    { dst := some 6, op := .mov (.t 0) },
    { dst := some 7, op := .len false (.t 6) },
    { dst := some 8, op := .bin .lss (.t 5) (.t 7) }])
  (.cond (.t 8)
    .skip
    (.exit 0)))
  (.seq (.block 1 (.reg [
    { dst := some 11, op := .mov (.t 3) },
    { dst := some 12, op := .mov (.t 0) },
    { dst := some 13, op := .mov (.t 4) },
    { dst := some 14, op := .iaddr ⟨3, 32⟩ (.t 12) (.t 13) },
    { dst := some 15, op := .faddr 0 (.t 14) },
    { dst := some 16, op := .load 1 false (.t 15) },
    { dst := some 17, op := .bin .add (.t 11) (.t 16) },
    { dst := some 3, op := .mov (.t 17) }]))
  (.reg [
    { dst := some 9, op := .mov (.t 4) },
    { dst := some 10, op := .bin .add (.t 9) (.k (.int 1)) },
    { dst := some 4, op := .mov (.t 10) }]))))))
  (.seq (.reg [
    { dst := some 18, op := .mov (.t 3) },
    { dst := some 2, op := .mov (.t 18) }])
  .ret))))

def x_ref15_Index (f_ref15_Width : FuncId) : XC :=
(.seq (.reg [
    { dst := some 4, op := .mov (.k (.int 0)) }])
  (.seq (.seq (.reg [
    { dst := some 7, op := .mov (.t 1) },
    { dst := some 8, op := .bin .lss (.t 7) (.k (.int 0)) }])
  (.cond (.t 8)
    (.seq (.reg [
      { dst := some 4, op := .mov (.k (.int (-1))) }])
    .ret)
    .skip))
  (.seq (.reg [
    { dst := some 5, op := .mov (.k (.int 0)) }])
  (.seq (.seq (.reg [
    { dst := some 6, op := .mov (.k (.int 0)) }])
  (.block 0 (.loop (.seq (.seq (.reg [
    { dst := some 9, op := .mov (.t 6) },
    { dst := some 10, op := .mov (.t 0) },
    { dst := some 11, op := .len false (.t 10) },
    { dst := some 12, op := .bin .lss (.t 9) (.t 11) }])
  (.cond (.t 12)
    .skip
    (.exit 0)))
  (.seq (.block 1 (.seq (.reg [
    { dst := some 15, op := .mov (.t 5) },
    { dst := some 16, op := .mov (.t 0) },
    { dst := some 17, op := .mov (.t 6) },
    { dst := some 18, op := .mov (.t 6) },
    { dst := some 19, op := .bin .add (.t 18) (.k (.int 1)) },
    { dst := some 20, op := .slice ⟨3, 32⟩ (.t 16) (some (.t 17)) (some (.t 19)) none },
    { dst := some 21, op := .call (.f f_ref15_Width) [(.t 20)] },
    { dst := some 22, op := .bin .add (.t 15) (.t 21) },
    { dst := some 5, op := .mov (.t 22) }])
  (.seq (.reg [
    { dst := some 23, op := .mov (.t 1) },
    { dst := some 24, op := .mov (.t 5) },
    { dst := some 25, op := .bin .lss (.t 23) (.t 24) }])
  (.cond (.t 25)
    (.seq (.reg [
      { dst := some 26, op := .mov (.t 6) },
      { dst := some 4, op := .mov (.t 26) }])
    .ret)
    .skip))))
  (.reg [
    { dst := some 13, op := .mov (.t 6) },
    { dst := some 14, op := .bin .add (.t 13) (.k (.int 1)) },
    { dst := some 6, op := .mov (.t 14) }]))))))
  (.seq (.reg [
    { dst := some 27, op := .mov (.t 0) },
    { dst := some 28, op := .len false (.t 27) },
    { dst := some 29, op := .mov (.t 1) },
    { dst := some 30, op := .bin .add (.t 28) (.t 29) },
    { dst := some 31, op := .mov (.t 5) },
    { dst := some 32, op := .bin .sub (.t 30) (.t 31) },
    { dst := some 4, op := .mov (.t 32) }])
  .ret)))))

def x_view_Check (f_view_sized f_view_glyph f_view_Width f_view_blank : FuncId) : XC :=
(.seq (.reg [
    { dst := some 1, op := .box ⟨6, 64⟩ (.t 0) },
    { dst := some 2, op := .mov (.k (.int 0)) }])
  (.seq (.block 0 (.seq (.reg [
    { dst := some 10, op := .faddr 0 (.t 1) },
    { dst := some 11, op := .load 1 false (.t 10) },
    { dst := some 12, op := .faddr 1 (.t 1) },
    { dst := some 13, op := .load 1 false (.t 12) },
    { dst := some 14, op := .call (.f f_view_sized) [(.t 11), (.t 13)] },
    { dst := some 15, op := .un .not (.t 14) },
    { dst := some 9, op := .mov (.t 15) }])
  (.cond (.t 9)
    (.seq (.reg [
      { dst := some 2, op := .mov (.k (.int 2)) }])
    .ret)
    (.seq (.reg [
      { dst := some 17, op := .faddr 2 (.t 1) },
      { dst := some 18, op := .load 1 false (.t 17) },
      { dst := some 19, op := .len false (.t 18) },
      { dst := some 20, op := .faddr 1 (.t 1) },
      { dst := some 21, op := .load 1 false (.t 20) },
      { dst := some 22, op := .bin .neq (.t 19) (.t 21) },
      { dst := some 16, op := .mov (.t 22) }])
    (.cond (.t 16)
      (.seq (.reg [
        { dst := some 2, op := .mov (.k (.int 11)) }])
      .ret)
      (.seq (.reg [
        { dst := some 24, op := .faddr 3 (.t 1) },
        { dst := some 25, op := .load 1 false (.t 24) },
        { dst := some 26, op := .bin .lss (.t 25) (.k (.int 0)) },
        { dst := some 27, op := .mov (.t 26) },
        { dst := some 28, op := .faddr 3 (.t 1), guard := some (27, false) },
        { dst := some 29, op := .load 1 false (.t 28), guard := some (27, false) },
        { dst := some 30, op := .faddr 1 (.t 1), guard := some (27, false) },
        { dst := some 31, op := .load 1 false (.t 30), guard := some (27, false) },
        { dst := some 32, op := .bin .geq (.t 29) (.t 31), guard := some (27, false) },
        { dst := some 33, op := .pick (.t 27) (.k (.bool true)) (.t 32) },
        { dst := some 34, op := .mov (.t 33) },
        { dst := some 35, op := .faddr 4 (.t 1), guard := some (34, false) },
        { dst := some 36, op := .load 1 false (.t 35), guard := some (34, false) },
        { dst := some 37, op := .bin .lss (.t 36) (.k (.int 0)), guard := some (34, false) },
        { dst := some 38, op := .pick (.t 34) (.k (.bool true)) (.t 37) },
        { dst := some 39, op := .mov (.t 38) },
        { dst := some 40, op := .faddr 4 (.t 1), guard := some (39, false) },
        { dst := some 41, op := .load 1 false (.t 40), guard := some (39, false) },
        { dst := some 42, op := .faddr 0 (.t 1), guard := some (39, false) },
        { dst := some 43, op := .load 1 false (.t 42), guard := some (39, false) },
        { dst := some 44, op := .bin .geq (.t 41) (.t 43), guard := some (39, false) },
        { dst := some 45, op := .pick (.t 39) (.k (.bool true)) (.t 44) },
        { dst := some 23, op := .mov (.t 45) }])
      (.cond (.t 23)
        (.seq (.reg [
          { dst := some 2, op := .mov (.k (.int 2)) }])
        .ret)
        .skip)))))))
  (.seq (.seq (.reg [
    { dst := some 46, op := .faddr 2 (.t 1) },
    { dst := some 47, op := .load 1 false (.t 46) },
    { dst := some 48, op := .len false (.t 47) },
    { dst := some 49, op := .mov (.k (.int 0)) }])
  (.block 1 (.loop (.seq (.reg [
    { dst := some 50, op := .bin .lss (.t 49) (.t 48) }])
  (.seq (.cond (.t 50)
    .skip
    (.exit 1))
  (.seq (.block 2 (.seq (.reg [
    { dst := some 51, op := .iaddr ⟨1, 24⟩ (.t 47) (.t 49) },
    { dst := some 52, op := .load 1 false (.t 51) },
    { dst := some 4, op := .mov (.t 52) }])
  (.seq (.seq (.reg [
    { dst := some 53, op := .mov (.t 4) },
    { dst := some 54, op := .len false (.t 53) },
    { dst := some 55, op := .mov (.k (.int 0)) }])
  (.block 3 (.loop (.seq (.reg [
    { dst := some 56, op := .bin .lss (.t 55) (.t 54) }])
  (.seq (.cond (.t 56)
    .skip
    (.exit 3))
  (.seq (.block 4 (.seq (.reg [
    { dst := some 57, op := .iaddr ⟨3, 32⟩ (.t 53) (.t 55) },
    { dst := some 58, op := .load 3 true (.t 57) },
    { dst := some 6, op := .alloc ⟨3, 32⟩ [(.str ⟨#[]⟩), (.bool false), (.int 0)] },
    { dst := none, op := .store 3 (.t 6) (.t 58) }])
  (.seq (.reg [
    { dst := some 59, op := .load 3 true (.t 6) },
    { dst := some 60, op := .call (.f f_view_glyph) [(.t 59)] },
    { dst := some 7, op := .mov (.t 60) }])
  (.seq (.reg [
    { dst := some 61, op := .mov (.t 7) },
    { dst := some 62, op := .bin .neq (.t 61) (.k (.int 0)) }])
  (.cond (.t 62)
    (.seq (.reg [
      { dst := some 63, op := .mov (.t 7) },
      { dst := some 2, op := .mov (.t 63) }])
    .ret)
    .skip)))))
  (.reg [
    { dst := some 64, op := .bin .add (.t 55) (.k (.int 1)) },
    { dst := some 55, op := .mov (.t 64) }])))))))
  (.seq (.seq (.drw 0 [
    { dst := some 65, op := .mov (.t 4) },
    { dst := some 66, op := .call (.f f_view_Width) [(.t 65)] },
    { dst := some 67, op := .faddr 0 (.t 1) },
    { dst := some 68, op := .load 1 false (.t 67) },
    { dst := some 69, op := .bin .gtr (.t 66) (.t 68) }])
  (.cond (.t 69)
    (.seq (.reg [
      { dst := some 2, op := .mov (.k (.int 12)) }])
    .ret)
    .skip))
  (.seq (.reg [
    { dst := some 70, op := .mov (.t 4) },
    { dst := some 71, op := .len false (.t 70) },
    { dst := some 8, op := .mov (.t 71) }])
  (.seq (.drw 0 [
    { dst := some 72, op := .mov (.t 8) },
    { dst := some 73, op := .bin .gtr (.t 72) (.k (.int 0)) },
    { dst := some 74, op := .mov (.t 73) },
    { dst := some 75, op := .mov (.t 4), guard := some (74, true) },
    { dst := some 76, op := .mov (.t 8), guard := some (74, true) },
    { dst := some 77, op := .bin .sub (.t 76) (.k (.int 1)), guard := some (74, true) },
    { dst := some 78, op := .iaddr ⟨3, 32⟩ (.t 75) (.t 77), guard := some (74, true) },
    { dst := some 79, op := .load 3 true (.t 78), guard := some (74, true) },
    { dst := some 80, op := .call (.f f_view_blank) [], guard := some (74, true) },
    { dst := some 81, op := .eqs false 3 [(0, .s), (1, .b), (2, .i)] (.t 79) (.t 80), guard := some (74, true) },
    { dst := some 82, op := .pick (.t 74) (.t 81) (.k (.bool false)) }])
  (.cond (.t 82)
    (.seq (.reg [
      { dst := some 2, op := .mov (.k (.int 1)) }])
    .ret)
    .skip)))))))
  (.reg [
    { dst := some 83, op := .bin .add (.t 49) (.k (.int 1)) },
    { dst := some 49, op := .mov (.t 83) }])))))))
  (.seq (.reg [
    { dst := some 2, op := .mov (.k (.int 0)) }])
  .ret))))

def x_ref15_Check (f_ref15_Size f_ref15_Glyph f_ref15_Width f_ref15_blank : FuncId) : XC :=
(.seq (.reg [
    { dst := some 1, op := .box ⟨6, 64⟩ (.t 0) },
    { dst := some 2, op := .mov (.k (.int 0)) }])
  (.seq (.seq (.reg [
    { dst := some 7, op := .faddr 0 (.t 1) },
    { dst := some 8, op := .load 1 false (.t 7) },
    { dst := some 9, op := .faddr 1 (.t 1) },
    { dst := some 10, op := .load 1 false (.t 9) },
    { dst := some 11, op := .call (.f f_ref15_Size) [(.t 8), (.t 10)] },
    { dst := some 12, op := .un .not (.t 11) }])
  (.cond (.t 12)
    (.seq (.reg [
      { dst := some 2, op := .mov (.k (.int 2)) }])
    .ret)
    .skip))
  (.seq (.seq (.reg [
    { dst := some 13, op := .faddr 2 (.t 1) },
    { dst := some 14, op := .load 1 false (.t 13) },
    { dst := some 15, op := .len false (.t 14) },
    { dst := some 16, op := .faddr 1 (.t 1) },
    { dst := some 17, op := .load 1 false (.t 16) },
    { dst := some 18, op := .bin .neq (.t 15) (.t 17) }])
  (.cond (.t 18)
    (.seq (.reg [
      { dst := some 2, op := .mov (.k (.int 11)) }])
    .ret)
    .skip))
  (.seq (.seq (.reg [
    { dst := some 19, op := .faddr 3 (.t 1) },
    { dst := some 20, op := .load 1 false (.t 19) },
    { dst := some 21, op := .bin .lss (.t 20) (.k (.int 0)) },
    { dst := some 22, op := .mov (.t 21) },
    { dst := some 23, op := .faddr 3 (.t 1), guard := some (22, false) },
    { dst := some 24, op := .load 1 false (.t 23), guard := some (22, false) },
    { dst := some 25, op := .faddr 1 (.t 1), guard := some (22, false) },
    { dst := some 26, op := .load 1 false (.t 25), guard := some (22, false) },
    { dst := some 27, op := .bin .geq (.t 24) (.t 26), guard := some (22, false) },
    { dst := some 28, op := .pick (.t 22) (.k (.bool true)) (.t 27) },
    { dst := some 29, op := .mov (.t 28) },
    { dst := some 30, op := .faddr 4 (.t 1), guard := some (29, false) },
    { dst := some 31, op := .load 1 false (.t 30), guard := some (29, false) },
    { dst := some 32, op := .bin .lss (.t 31) (.k (.int 0)), guard := some (29, false) },
    { dst := some 33, op := .pick (.t 29) (.k (.bool true)) (.t 32) },
    { dst := some 34, op := .mov (.t 33) },
    { dst := some 35, op := .faddr 4 (.t 1), guard := some (34, false) },
    { dst := some 36, op := .load 1 false (.t 35), guard := some (34, false) },
    { dst := some 37, op := .faddr 0 (.t 1), guard := some (34, false) },
    { dst := some 38, op := .load 1 false (.t 37), guard := some (34, false) },
    { dst := some 39, op := .bin .geq (.t 36) (.t 38), guard := some (34, false) },
    { dst := some 40, op := .pick (.t 34) (.k (.bool true)) (.t 39) }])
  (.cond (.t 40)
    (.seq (.reg [
      { dst := some 2, op := .mov (.k (.int 2)) }])
    .ret)
    .skip))
  (.seq (.seq (.reg [
    { dst := some 3, op := .mov (.k (.int 0)) }])
  (.block 0 (.loop (.seq (.seq (.reg [
    { dst := some 41, op := .mov (.t 3) },
    { dst := some 42, op := .faddr 2 (.t 1) },
    { dst := some 43, op := .load 1 false (.t 42) },
    { dst := some 44, op := .len false (.t 43) },
    { dst := some 45, op := .bin .lss (.t 41) (.t 44) }])
  (.cond (.t 45)
    .skip
    (.exit 0)))
  (.seq (.block 1 (.seq (.reg [
    { dst := some 48, op := .faddr 2 (.t 1) },
    { dst := some 49, op := .load 1 false (.t 48) },
    { dst := some 50, op := .mov (.t 3) },
    { dst := some 51, op := .iaddr ⟨1, 24⟩ (.t 49) (.t 50) },
    { dst := some 52, op := .load 1 false (.t 51) },
    { dst := some 4, op := .mov (.t 52) }])
  (.seq (.seq (.reg [
    { dst := some 5, op := .mov (.k (.int 0)) }])
  (.block 2 (.loop (.seq (.seq (.reg [
    { dst := some 53, op := .mov (.t 5) },
    { dst := some 54, op := .mov (.t 4) },
    { dst := some 55, op := .len false (.t 54) },
    { dst := some 56, op := .bin .lss (.t 53) (.t 55) }])
  (.cond (.t 56)
    .skip
    (.exit 2)))
  (.seq (.block 3 (.seq (.reg [
    { dst := some 59, op := .mov (.t 4) },
    { dst := some 60, op := .mov (.t 5) },
    { dst := some 61, op := .iaddr ⟨3, 32⟩ (.t 59) (.t 60) },
    { dst := some 62, op := .load 3 true (.t 61) },
    { dst := some 63, op := .call (.f f_ref15_Glyph) [(.t 62)] },
    { dst := some 6, op := .mov (.t 63) }])
  (.seq (.reg [
    { dst := some 64, op := .mov (.t 6) },
    { dst := some 65, op := .bin .neq (.t 64) (.k (.int 0)) }])
  (.cond (.t 65)
    (.seq (.reg [
      { dst := some 66, op := .mov (.t 6) },
      { dst := some 2, op := .mov (.t 66) }])
    .ret)
    .skip))))
  (.reg [
    { dst := some 57, op := .mov (.t 5) },
    { dst := some 58, op := .bin .add (.t 57) (.k (.int 1)) },
    { dst := some 5, op := .mov (.t 58) }]))))))
  (.seq (.seq (.drw 0 [
    { dst := some 67, op := .mov (.t 4) },
    { dst := some 68, op := .call (.f f_ref15_Width) [(.t 67)] },
    { dst := some 69, op := .faddr 0 (.t 1) },
    { dst := some 70, op := .load 1 false (.t 69) },
    { dst := some 71, op := .bin .gtr (.t 68) (.t 70) }])
  (.cond (.t 71)
    (.seq (.reg [
      { dst := some 2, op := .mov (.k (.int 12)) }])
    .ret)
    .skip))
  (.seq (.reg [
    { dst := some 72, op := .mov (.t 4) },
    { dst := some 73, op := .len false (.t 72) },
    { dst := some 74, op := .bin .gtr (.t 73) (.k (.int 0)) },
    { dst := some 75, op := .mov (.t 74) },
    { dst := some 76, op := .mov (.t 4), guard := some (75, true) },
    { dst := some 77, op := .mov (.t 4), guard := some (75, true) },
    { dst := some 78, op := .len false (.t 77), guard := some (75, true) },
    { dst := some 79, op := .bin .sub (.t 78) (.k (.int 1)), guard := some (75, true) },
    { dst := some 80, op := .iaddr ⟨3, 32⟩ (.t 76) (.t 79), guard := some (75, true) },
    { dst := some 81, op := .load 3 true (.t 80), guard := some (75, true) },
    { dst := some 82, op := .call (.f f_ref15_blank) [(.t 81)], guard := some (75, true) },
    { dst := some 83, op := .pick (.t 75) (.t 82) (.k (.bool false)) }])
  (.cond (.t 83)
    (.seq (.reg [
      { dst := some 2, op := .mov (.k (.int 1)) }])
    .ret)
    .skip))))))
  (.reg [
    { dst := some 46, op := .mov (.t 3) },
    { dst := some 47, op := .bin .add (.t 46) (.k (.int 1)) },
    { dst := some 3, op := .mov (.t 47) }]))))))
  (.seq (.reg [
    { dst := some 2, op := .mov (.k (.int 0)) }])
  .ret))))))

def x_ref07_Great : XC :=
(.seq (.reg [
    { dst := some 2, op := .mov (.k (.bool false)) }])
  (.seq (.seq (.reg [
    { dst := some 4, op := .mov (.t 0) },
    { dst := some 5, op := .len false (.t 4) },
    { dst := some 6, op := .bin .gtr (.t 5) (.k (.int 140)) }])
  (.cond (.t 6)
    (.seq (.reg [
      { dst := some 2, op := .mov (.k (.bool true)) }])
    .ret)
    .skip))
  (.seq (.seq (.reg [
    { dst := some 3, op := .mov (.k (.int 0)) }])
  (.block 0 (.loop (.seq (.seq (.reg [
    { dst := some 7, op := .mov (.t 3) },
    { dst := some 8, op := .mov (.t 0) },
    { dst := some 9, op := .len false (.t 8) },
    { dst := some 10, op := .bin .lss (.t 7) (.t 9) }])
  (.cond (.t 10)
    .skip
    (.exit 0)))
  (.seq (.block 1 (.seq (.reg [
    { dst := some 13, op := .mov (.t 0) },
    { dst := some 14, op := .mov (.t 3) },
    { dst := some 15, op := .iaddr ⟨5, 48⟩ (.t 13) (.t 14) },
    { dst := some 16, op := .faddr 0 (.t 15) },
    { dst := some 17, op := .load 1 false (.t 16) },
    { dst := some 18, op := .len true (.t 17) },
    { dst := some 19, op := .bin .gtr (.t 18) (.k (.int 40)) }])
  (.cond (.t 19)
    (.seq (.reg [
      { dst := some 2, op := .mov (.k (.bool true)) }])
    .ret)
    .skip)))
  (.reg [
    { dst := some 11, op := .mov (.t 3) },
    { dst := some 12, op := .bin .add (.t 11) (.k (.int 1)) },
    { dst := some 3, op := .mov (.t 12) }]))))))
  (.seq (.reg [
    { dst := some 2, op := .mov (.k (.bool false)) }])
  .ret))))

def x_view_showable (f_view_sized f_cellrow_Check f_slices_ContainsFunc_750 f_view_showable_1 : FuncId) : XC :=
(.seq (.reg [
    { dst := some 1, op := .box ⟨42, 352⟩ (.t 0) },
    { dst := some 2, op := .mov (.k (.bool false)) }])
  (.seq (.drw 2 [
    { dst := some 7, op := .faddr 0 (.t 1) },
    { dst := some 8, op := .load 3 true (.t 7) },
    { dst := some 9, op := .faddr 6 (.t 1) },
    { dst := some 10, op := .load 3 true (.t 9) },
    { dst := some 3, op := .alloc ⟨3, 40⟩ [(.int 0), (.int 0), .nil], pl := some 0 },
    { dst := some 4, op := .alloc ⟨3, 24⟩ [(.int 0), (.int 0), (.bool false)], pl := some 1 },
    { dst := none, op := .store 3 (.t 3) (.t 8) },
    { dst := none, op := .store 3 (.t 4) (.t 10) }] [(7, none), (9, none), (3, some 0), (4, some 1)])
  (.seq (.seq (.reg [
    { dst := some 11, op := .faddr 0 (.t 3) },
    { dst := some 12, op := .load 1 false (.t 11) },
    { dst := some 13, op := .faddr 1 (.t 3) },
    { dst := some 14, op := .load 1 false (.t 13) },
    { dst := some 15, op := .call (.f f_view_sized) [(.t 12), (.t 14)] },
    { dst := some 16, op := .un .not (.t 15) },
    { dst := some 17, op := .mov (.t 16) },
    { dst := some 18, op := .faddr 2 (.t 3), guard := some (17, false) },
    { dst := some 19, op := .load 1 false (.t 18), guard := some (17, false) },
    { dst := some 20, op := .len false (.t 19), guard := some (17, false) },
    { dst := some 21, op := .faddr 1 (.t 3), guard := some (17, false) },
    { dst := some 22, op := .load 1 false (.t 21), guard := some (17, false) },
    { dst := some 23, op := .bin .neq (.t 20) (.t 22), guard := some (17, false) },
    { dst := some 24, op := .pick (.t 17) (.k (.bool true)) (.t 23) },
    { dst := some 25, op := .mov (.t 24) },
    { dst := some 26, op := .faddr 0 (.t 4), guard := some (25, false) },
    { dst := some 27, op := .load 1 false (.t 26), guard := some (25, false) },
    { dst := some 28, op := .bin .lss (.t 27) (.k (.int 0)), guard := some (25, false) },
    { dst := some 29, op := .pick (.t 25) (.k (.bool true)) (.t 28) },
    { dst := some 30, op := .mov (.t 29) },
    { dst := some 31, op := .faddr 0 (.t 4), guard := some (30, false) },
    { dst := some 32, op := .load 1 false (.t 31), guard := some (30, false) },
    { dst := some 33, op := .faddr 1 (.t 3), guard := some (30, false) },
    { dst := some 34, op := .load 1 false (.t 33), guard := some (30, false) },
    { dst := some 35, op := .bin .geq (.t 32) (.t 34), guard := some (30, false) },
    { dst := some 36, op := .pick (.t 30) (.k (.bool true)) (.t 35) },
    { dst := some 37, op := .mov (.t 36) },
    { dst := some 38, op := .faddr 1 (.t 4), guard := some (37, false) },
    { dst := some 39, op := .load 1 false (.t 38), guard := some (37, false) },
    { dst := some 40, op := .bin .lss (.t 39) (.k (.int 0)), guard := some (37, false) },
    { dst := some 41, op := .pick (.t 37) (.k (.bool true)) (.t 40) },
    { dst := some 42, op := .mov (.t 41) },
    { dst := some 43, op := .faddr 1 (.t 4), guard := some (42, false) },
    { dst := some 44, op := .load 1 false (.t 43), guard := some (42, false) },
    { dst := some 45, op := .faddr 0 (.t 3), guard := some (42, false) },
    { dst := some 46, op := .load 1 false (.t 45), guard := some (42, false) },
    { dst := some 47, op := .bin .geq (.t 44) (.t 46), guard := some (42, false) },
    { dst := some 48, op := .pick (.t 42) (.k (.bool true)) (.t 47) }])
  (.cond (.t 48)
    (.seq (.reg [
      { dst := some 2, op := .mov (.k (.bool false)) }])
    .ret)
    .skip))
  (.seq (.seq (.reg [
    { dst := some 49, op := .faddr 2 (.t 3) },
    { dst := some 50, op := .load 1 false (.t 49) },
    { dst := some 51, op := .len false (.t 50) },
    { dst := some 52, op := .mov (.k (.int 0)) }])
  (.block 0 (.loop (.seq (.reg [
    { dst := some 53, op := .bin .lss (.t 52) (.t 51) }])
  (.seq (.cond (.t 53)
    .skip
    (.exit 0))
  (.seq (.block 1 (.seq (.reg [
    { dst := some 54, op := .iaddr ⟨1, 24⟩ (.t 50) (.t 52) },
    { dst := some 55, op := .load 1 false (.t 54) },
    { dst := some 6, op := .mov (.t 55) }])
  (.seq (.reg [
    { dst := some 56, op := .mov (.t 6) },
    { dst := some 57, op := .len false (.t 56) },
    { dst := some 58, op := .faddr 0 (.t 3) },
    { dst := some 59, op := .load 1 false (.t 58) },
    { dst := some 60, op := .bin .neq (.t 57) (.t 59) },
    { dst := some 61, op := .mov (.t 60) },
    { dst := some 62, op := .mov (.t 6), guard := some (61, false) },
    { dst := some 63, op := .call (.f f_cellrow_Check) [(.t 62)], guard := some (61, false) },
    { dst := some 64, op := .bin .neq (.t 63) (.k (.int 0)), guard := some (61, false) },
    { dst := some 65, op := .pick (.t 61) (.k (.bool true)) (.t 64) },
    { dst := some 66, op := .mov (.t 65) },
    { dst := some 67, op := .mov (.t 6), guard := some (66, false) },
    { dst := some 68, op := .call (.f f_slices_ContainsFunc_750) [(.t 67), (.f f_view_showable_1)], guard := some (66, false) },
    { dst := some 69, op := .pick (.t 66) (.k (.bool true)) (.t 68) }])
  (.cond (.t 69)
    (.seq (.reg [
      { dst := some 2, op := .mov (.k (.bool false)) }])
    .ret)
    .skip))))
  (.reg [
    { dst := some 70, op := .bin .add (.t 52) (.k (.int 1)) },
    { dst := some 52, op := .mov (.t 70) }])))))))
  (.seq (.reg [
    { dst := some 2, op := .mov (.k (.bool true)) }])
  .ret)))))

def x_slices_Collect_365 (f_slices_AppendSeq_675 : FuncId) : XC :=
(.seq (.reg [
    { dst := some 2, op := .mov (.k .nil) }])
  (.seq (.reg [
    { dst := some 3, op := .mov (.t 0) },
    { dst := some 4, op := .call (.f f_slices_AppendSeq_675) [(.k .nil), (.t 3)] },
    { dst := some 2, op := .mov (.t 4) }])
  .ret))

def x_view_glyphs (f_view_glyphs_1 : FuncId) : XC :=
(.seq (.reg [
    { dst := some 1, op := .box ⟨1, 24⟩ (.t 0) },
    { dst := some 2, op := .mov (.k (.sc .nilFunc)) }])
  (.seq (.reg [
    { dst := some 3, op := .mkfn f_view_glyphs_1 [(.t 1)] },
    { dst := some 2, op := .mov (.t 3) }])
  .ret))

def x_ref15_row (f_ref04_Style f_ref15_Trim : FuncId) : XC :=
(.seq (.reg [
    { dst := some 2, op := .mov (.k .nil) }])
  (.seq (.reg [
    { dst := some 3, op := .mov (.k .nil) }])
  (.seq (.seq (.reg [
    { dst := some 4, op := .mov (.k (.int 0)) }])
  (.block 0 (.loop (.seq (.seq (.reg [
    { dst := some 6, op := .mov (.t 4) },
    { dst := some 7, op := .mov (.t 0) },
    { dst := some 8, op := .len false (.t 7) },
    { dst := some 9, op := .bin .lss (.t 6) (.t 8) }])
  (.cond (.t 9)
    .skip
    (.exit 0)))
  (.seq (.block 1 (.seq (.reg [
    { dst := some 12, op := .mov (.t 0) },
    { dst := some 13, op := .mov (.t 4) },
    { dst := some 14, op := .iaddr ⟨5, 48⟩ (.t 12) (.t 13) },
    { dst := some 15, op := .load 5 true (.t 14) },
    { dst := some 5, op := .alloc ⟨5, 48⟩ [(.str ⟨#[]⟩), (.int 0), (.int 0), (.int 0), (.int 0)] },
    { dst := none, op := .store 5 (.t 5) (.t 15) }])
  (.seq (.reg [
    { dst := some 16, op := .faddr 2 (.t 5) },
    { dst := some 17, op := .faddr 2 (.t 16) },
    { dst := some 18, op := .load 1 false (.t 17) },
    { dst := some 19, op := .bin .and (.t 18) (.k (.int 64)) },
    { dst := some 20, op := .bin .neq (.t 19) (.k (.int 0)) }])
  (.cond (.t 20)
    (.reg [
      { dst := some 21, op := .mov (.t 3) },
      { dst := some 22, op := .build [(.str ⟨#[]⟩), (.bool false), (.int 0)] [(0, 1, (.k (.str ⟨#[42]⟩))), (2, 1, (.k (.int 3)))] },
      { dst := some 23, op := .bslice ⟨3, 32⟩ [(.str ⟨#[]⟩), (.bool false), (.int 0)] 1 [(0, (.t 22))] },
      { dst := some 24, op := .append ⟨3, 32⟩ (.t 21) (.t 23) },
      { dst := some 3, op := .mov (.t 24) }])
    (.seq (.reg [
      { dst := some 25, op := .faddr 1 (.t 5) },
      { dst := some 26, op := .load 1 false (.t 25) },
      { dst := some 27, op := .bin .gtr (.t 26) (.k (.int 0)) }])
    (.cond (.t 27)
      (.drw 2 [
        { dst := some 28, op := .mov (.t 3) },
        { dst := some 29, op := .faddr 0 (.t 5) },
        { dst := some 30, op := .load 1 false (.t 29) },
        { dst := some 31, op := .faddr 1 (.t 5) },
        { dst := some 32, op := .load 1 false (.t 31) },
        { dst := some 33, op := .bin .eql (.t 32) (.k (.int 2)) },
        { dst := some 34, op := .faddr 2 (.t 5) },
        { dst := some 35, op := .load 3 true (.t 34) },
        { dst := some 36, op := .call (.f f_ref04_Style) [(.t 35)] },
        { dst := some 37, op := .build [(.str ⟨#[]⟩), (.bool false), (.int 0)] [(0, 1, (.t 30)), (1, 1, (.t 33)), (2, 1, (.t 36))] },
        { dst := some 38, op := .bslice ⟨3, 32⟩ [(.str ⟨#[]⟩), (.bool false), (.int 0)] 1 [(0, (.t 37))], pl := some 0 },
        { dst := some 39, op := .append ⟨3, 32⟩ (.t 28) (.t 38), pl := some 1 },
        { dst := some 3, op := .mov (.t 39) }])
      .skip))))))
  (.reg [
    { dst := some 10, op := .mov (.t 4) },
    { dst := some 11, op := .bin .add (.t 10) (.k (.int 1)) },
    { dst := some 4, op := .mov (.t 11) }]))))))
  (.seq (.reg [
    { dst := some 40, op := .mov (.t 3) },
    { dst := some 41, op := .call (.f f_ref15_Trim) [(.t 40)] },
    { dst := some 2, op := .mov (.t 41) }])
  .ret))))

def x_view_blank : XC :=
(.seq (.reg [
    { dst := some 0, op := .alloc ⟨3, 32⟩ [(.str ⟨#[]⟩), (.bool false), (.int 0)] }])
  (.seq (.reg [
    { dst := some 1, op := .build [(.str ⟨#[]⟩), (.bool false), (.int 0)] [(0, 1, (.k (.str ⟨#[32]⟩)))] },
    { dst := none, op := .store 3 (.t 0) (.t 1) }])
  .ret))

def x_slices_Clone_675 : XC :=
(.seq (.reg [
    { dst := some 2, op := .mov (.k .nil) }])
  (.seq (.seq (.reg [
    { dst := some 3, op := .mov (.t 0) },
    { dst := some 4, op := .eqnil false (.t 3) }])
  (.cond (.t 4)
    (.seq (.reg [
      { dst := some 2, op := .mov (.k .nil) }])
    .ret)
    .skip))
  (.seq (.reg [
    { dst := some 5, op := .bslice ⟨3, 32⟩ [(.str ⟨#[]⟩), (.bool false), (.int 0)] 0 [] },
    { dst := some 6, op := .mov (.t 0) },
    { dst := some 7, op := .append ⟨3, 32⟩ (.t 5) (.t 6) },
    { dst := some 2, op := .mov (.t 7) }])
  .ret)))

def x_slices_EqualFunc_833 : XC :=
(.seq (.reg [
    { dst := some 6, op := .mov (.k (.bool false)) }])
  (.seq (.seq (.reg [
    { dst := some 10, op := .mov (.t 0) },
    { dst := some 11, op := .len false (.t 10) },
    { dst := some 12, op := .mov (.t 1) },
    { dst := some 13, op := .len false (.t 12) },
    { dst := some 14, op := .bin .neq (.t 11) (.t 13) }])
  (.cond (.t 14)
    (.seq (.reg [
      { dst := some 6, op := .mov (.k (.bool false)) }])
    .ret)
    .skip))
  (.seq (.seq (.reg [
    { dst := some 15, op := .mov (.t 0) },
    { dst := some 16, op := .len false (.t 15) },
    { dst := some 17, op := .mov (.k (.int 0)) }])
  (.block 0 (.loop (.seq (.reg [
    { dst := some 18, op := .bin .lss (.t 17) (.t 16) }])
  (.seq (.cond (.t 18)
    .skip
    (.exit 0))
  (.seq (.block 1 (.seq (.reg [
    { dst := some 19, op := .mov (.t 17) },
    { dst := some 20, op := .iaddr ⟨1, 24⟩ (.t 15) (.t 17) },
    { dst := some 21, op := .load 1 false (.t 20) },
    { dst := some 7, op := .mov (.t 19) },
    { dst := some 8, op := .mov (.t 21) }])
  (.seq (.reg [
    { dst := some 22, op := .mov (.t 1) },
    { dst := some 23, op := .mov (.t 7) },
    { dst := some 24, op := .iaddr ⟨1, 24⟩ (.t 22) (.t 23) },
    { dst := some 25, op := .load 1 false (.t 24) },
    { dst := some 9, op := .mov (.t 25) }])
  (.seq (.reg [
    { dst := some 26, op := .mov (.t 2) },
    { dst := some 27, op := .mov (.t 8) },
    { dst := some 28, op := .mov (.t 9) },
    { dst := some 29, op := .call (.t 26) [(.t 27), (.t 28)] },
    { dst := some 30, op := .un .not (.t 29) }])
  (.cond (.t 30)
    (.seq (.reg [
      { dst := some 6, op := .mov (.k (.bool false)) }])
    .ret)
    .skip)))))
  (.reg [
    { dst := some 31, op := .bin .add (.t 17) (.k (.int 1)) },
    { dst := some 17, op := .mov (.t 31) }])))))))
  (.seq (.reg [
    { dst := some 6, op := .mov (.k (.bool true)) }])
  .ret))))

def x_slices_Equal_675 : XC :=
(.seq (.reg [
    { dst := some 4, op := .mov (.k (.bool false)) }])
  (.seq (.seq (.reg [
    { dst := some 6, op := .mov (.t 0) },
    { dst := some 7, op := .len false (.t 6) },
    { dst := some 8, op := .mov (.t 1) },
    { dst := some 9, op := .len false (.t 8) },
    { dst := some 10, op := .bin .neq (.t 7) (.t 9) }])
  (.cond (.t 10)
    (.seq (.reg [
      { dst := some 4, op := .mov (.k (.bool false)) }])
    .ret)
    .skip))
  (.seq (.seq (.reg [
    { dst := some 11, op := .mov (.t 0) },
    { dst := some 12, op := .len false (.t 11) },
    { dst := some 13, op := .mov (.k (.int 0)) }])
  (.block 0 (.loop (.seq (.reg [
    { dst := some 14, op := .bin .lss (.t 13) (.t 12) }])
  (.seq (.cond (.t 14)
    .skip
    (.exit 0))
  (.seq (.block 1 (.seq (.reg [
    { dst := some 15, op := .mov (.t 13) },
    { dst := some 5, op := .mov (.t 15) }])
  (.seq (.drw 0 [
    { dst := some 16, op := .mov (.t 0) },
    { dst := some 17, op := .mov (.t 5) },
    { dst := some 18, op := .iaddr ⟨3, 32⟩ (.t 16) (.t 17) },
    { dst := some 19, op := .load 3 true (.t 18) },
    { dst := some 20, op := .mov (.t 1) },
    { dst := some 21, op := .mov (.t 5) },
    { dst := some 22, op := .iaddr ⟨3, 32⟩ (.t 20) (.t 21) },
    { dst := some 23, op := .load 3 true (.t 22) },
    { dst := some 24, op := .eqs true 3 [(0, .s), (1, .b), (2, .i)] (.t 19) (.t 23) }])
  (.cond (.t 24)
    (.seq (.reg [
      { dst := some 4, op := .mov (.k (.bool false)) }])
    .ret)
    .skip))))
  (.reg [
    { dst := some 25, op := .bin .add (.t 13) (.k (.int 1)) },
    { dst := some 13, op := .mov (.t 25) }])))))))
  (.seq (.reg [
    { dst := some 4, op := .mov (.k (.bool true)) }])
  .ret))))

def x_cluster_runes (f_cluster_Check : FuncId) : XC :=
(.seq (.reg [
    { dst := some 2, op := .mov (.k .nil) }])
  (.seq (.seq (.reg [
    { dst := some 3, op := .mov (.t 0) },
    { dst := some 4, op := .call (.f f_cluster_Check) [(.t 3)] },
    { dst := some 5, op := .bin .neq (.t 4) (.k (.int 0)) }])
  (.cond (.t 5)
    (.seq (.reg [
      { dst := some 2, op := .mov (.k .nil) }])
    .ret)
    .skip))
  (.seq (.reg [
    { dst := some 6, op := .mov (.t 0) },
    { dst := some 7, op := .s2r ⟨1, 4⟩ (.t 6) },
    { dst := some 2, op := .mov (.t 7) }])
  .ret)))

def x_charwidth_Width (f_charwidth_Mark f_charwidth_Wide f_charwidth_finder : FuncId) : XC :=
(.seq (.reg [
    { dst := some 2, op := .mov (.k (.int 0)) }])
  (.seq (.block 0 (.seq (.reg [
    { dst := some 4, op := .mov (.t 0) },
    { dst := some 5, op := .bin .lss (.t 4) (.k (.sc (.int .i32 32))) },
    { dst := some 6, op := .mov (.t 5) },
    { dst := some 7, op := .mov (.t 0), guard := some (6, false) },
    { dst := some 8, op := .bin .geq (.t 7) (.k (.sc (.int .i32 127))), guard := some (6, false) },
    { dst := some 9, op := .mov (.t 8), guard := some (6, false) },
    { dst := some 10, op := .mov (.t 0), guard := some (9, true) },
    { dst := some 11, op := .bin .leq (.t 10) (.k (.sc (.int .i32 159))), guard := some (9, true) },
    { dst := some 12, op := .pick (.t 9) (.t 11) (.k (.bool false)), guard := some (6, false) },
    { dst := some 13, op := .pick (.t 6) (.k (.bool true)) (.t 12) },
    { dst := some 3, op := .mov (.t 13) }])
  (.cond (.t 3)
    (.seq (.reg [
      { dst := some 2, op := .mov (.k (.int (-1))) }])
    .ret)
    (.seq (.reg [
      { dst := some 15, op := .mov (.t 0) },
      { dst := some 16, op := .call (.f f_charwidth_Mark) [(.t 15)] },
      { dst := some 14, op := .mov (.t 16) }])
    (.cond (.t 14)
      (.seq (.reg [
        { dst := some 2, op := .mov (.k (.int 0)) }])
      .ret)
      (.seq (.reg [
        { dst := some 18, op := .call (.f f_charwidth_Wide) [] },
        { dst := some 19, op := .call (.f f_charwidth_finder) [(.t 18)] },
        { dst := some 20, op := .mov (.t 0) },
        { dst := some 21, op := .call (.t 19) [(.t 20)] },
        { dst := some 17, op := .mov (.t 21) }])
      (.cond (.t 17)
        (.seq (.reg [
          { dst := some 2, op := .mov (.k (.int 2)) }])
        .ret)
        .skip)))))))
  (.seq (.reg [
    { dst := some 2, op := .mov (.k (.int 1)) }])
  .ret)))

def x_ref07_Check (f_ref03_Check f_ref03_Width : FuncId) : XC :=
(.seq (.reg [
    { dst := some 2, op := .mov (.k (.int 0)) }])
  (.seq (.seq (.reg [
    { dst := some 5, op := .mov (.t 0) },
    { dst := some 6, op := .len false (.t 5) },
    { dst := some 7, op := .bin .lss (.t 6) (.k (.int 1)) },
    { dst := some 8, op := .mov (.t 7) },
    { dst := some 9, op := .mov (.t 0), guard := some (8, false) },
    { dst := some 10, op := .len false (.t 9), guard := some (8, false) },
    { dst := some 11, op := .bin .gtr (.t 10) (.k (.int 132)), guard := some (8, false) },
    { dst := some 12, op := .pick (.t 8) (.k (.bool true)) (.t 11) }])
  (.cond (.t 12)
    (.seq (.reg [
      { dst := some 2, op := .mov (.k (.int 5)) }])
    .ret)
    .skip))
  (.seq (.seq (.reg [
    { dst := some 3, op := .mov (.k (.int 0)) }])
  (.block 0 (.loop (.seq (.seq (.reg [
    { dst := some 13, op := .mov (.t 3) },
    { dst := some 14, op := .mov (.t 0) },
    { dst := some 15, op := .len false (.t 14) },
    { dst := some 16, op := .bin .lss (.t 13) (.t 15) }])
  (.cond (.t 16)
    .skip
    (.exit 0)))
  (.seq (.block 1 (.seq (.reg [
    { dst := some 19, op := .mov (.t 0) },
    { dst := some 20, op := .mov (.t 3) },
    { dst := some 21, op := .iaddr ⟨5, 48⟩ (.t 19) (.t 20) },
    { dst := some 22, op := .faddr 1 (.t 21) },
    { dst := some 23, op := .load 1 false (.t 22) },
    { dst := some 4, op := .mov (.t 23) }])
  (.seq (.seq (.reg [
    { dst := some 24, op := .mov (.t 4) },
    { dst := some 25, op := .bin .neq (.t 24) (.k (.int 1)) },
    { dst := some 26, op := .mov (.t 25) },
    { dst := some 27, op := .mov (.t 4), guard := some (26, true) },
    { dst := some 28, op := .bin .neq (.t 27) (.k (.int 2)), guard := some (26, true) },
    { dst := some 29, op := .pick (.t 26) (.t 28) (.k (.bool false)) }])
  (.cond (.t 29)
    (.seq (.reg [
      { dst := some 2, op := .mov (.k (.int 12)) }])
    .ret)
    .skip))
  (.seq (.seq (.reg [
    { dst := some 30, op := .mov (.t 0) },
    { dst := some 31, op := .mov (.t 3) },
    { dst := some 32, op := .iaddr ⟨5, 48⟩ (.t 30) (.t 31) },
    { dst := some 33, op := .faddr 0 (.t 32) },
    { dst := some 34, op := .load 1 false (.t 33) },
    { dst := some 35, op := .call (.f f_ref03_Check) [(.t 34)] },
    { dst := some 36, op := .bin .neq (.t 35) (.k (.int 0)) }])
  (.cond (.t 36)
    (.seq (.reg [
      { dst := some 2, op := .mov (.k (.int 3)) }])
    .ret)
    .skip))
  (.seq (.seq (.reg [
    { dst := some 37, op := .mov (.t 0) },
    { dst := some 38, op := .mov (.t 3) },
    { dst := some 39, op := .iaddr ⟨5, 48⟩ (.t 37) (.t 38) },
    { dst := some 40, op := .faddr 0 (.t 39) },
    { dst := some 41, op := .load 1 false (.t 40) },
    { dst := some 42, op := .call (.f f_ref03_Width) [(.t 41)] },
    { dst := some 43, op := .mov (.t 4) },
    { dst := some 44, op := .bin .neq (.t 42) (.t 43) }])
  (.cond (.t 44)
    (.seq (.reg [
      { dst := some 2, op := .mov (.k (.int 12)) }])
    .ret)
    .skip))
  (.seq (.seq (.reg [
    { dst := some 45, op := .mov (.t 4) },
    { dst := some 46, op := .bin .eql (.t 45) (.k (.int 1)) }])
  (.cond (.t 46)
    (.exit 1)
    .skip))
  (.seq (.seq (.drw 0 [
    { dst := some 47, op := .mov (.t 3) },
    { dst := some 48, op := .bin .add (.t 47) (.k (.int 1)) },
    { dst := some 49, op := .mov (.t 0) },
    { dst := some 50, op := .len false (.t 49) },
    { dst := some 51, op := .bin .eql (.t 48) (.t 50) },
    { dst := some 52, op := .mov (.t 51) },
    { dst := some 53, op := .mov (.t 0), guard := some (52, false) },
    { dst := some 54, op := .mov (.t 3), guard := some (52, false) },
    { dst := some 55, op := .bin .add (.t 54) (.k (.int 1)), guard := some (52, false) },
    { dst := some 56, op := .iaddr ⟨5, 48⟩ (.t 53) (.t 55), guard := some (52, false) },
    { dst := some 57, op := .load 5 true (.t 56), guard := some (52, false) },
    { dst := some 58, op := .mov (.t 0), guard := some (52, false) },
    { dst := some 59, op := .mov (.t 3), guard := some (52, false) },
    { dst := some 60, op := .iaddr ⟨5, 48⟩ (.t 58) (.t 59), guard := some (52, false) },
    { dst := some 61, op := .faddr 2 (.t 60), guard := some (52, false) },
    { dst := some 62, op := .load 3 true (.t 61), guard := some (52, false) },
    { dst := some 63, op := .build [(.str ⟨#[]⟩), (.int 0), (.int 0), (.int 0), (.int 0)] [(2, 3, (.t 62))], guard := some (52, false) },
    { dst := some 64, op := .eqs true 5 [(0, .s), (1, .i), (2, .i), (3, .i), (4, .i)] (.t 57) (.t 63), guard := some (52, false) },
    { dst := some 65, op := .pick (.t 52) (.k (.bool true)) (.t 64) }])
  (.cond (.t 65)
    (.seq (.reg [
      { dst := some 2, op := .mov (.k (.int 12)) }])
    .ret)
    .skip))
  (.reg [
    { dst := some 66, op := .mov (.t 3) },
    { dst := some 67, op := .bin .add (.t 66) (.k (.int 1)) },
    { dst := some 3, op := .mov (.t 67) }]))))))))
  (.reg [
    { dst := some 17, op := .mov (.t 3) },
    { dst := some 18, op := .bin .add (.t 17) (.k (.int 1)) },
    { dst := some 3, op := .mov (.t 18) }]))))))
  (.seq (.reg [
    { dst := some 2, op := .mov (.k (.int 0)) }])
  .ret))))

def x_ref04_Right : XC :=
(.seq (.reg [
    { dst := some 1, op := .box ⟨3, 24⟩ (.t 0) },
    { dst := some 2, op := .mov (.k (.int 0)) }])
  (.seq (.seq (.reg [
    { dst := some 3, op := .faddr 0 (.t 1) },
    { dst := some 4, op := .load 1 false (.t 3) },
    { dst := some 5, op := .bin .lss (.t 4) (.k (.int (-1))) },
    { dst := some 6, op := .mov (.t 5) },
    { dst := some 7, op := .faddr 0 (.t 1), guard := some (6, false) },
    { dst := some 8, op := .load 1 false (.t 7), guard := some (6, false) },
    { dst := some 9, op := .bin .gtr (.t 8) (.k (.int 255)), guard := some (6, false) },
    { dst := some 10, op := .pick (.t 6) (.k (.bool true)) (.t 9) },
    { dst := some 11, op := .mov (.t 10) },
    { dst := some 12, op := .faddr 1 (.t 1), guard := some (11, false) },
    { dst := some 13, op := .load 1 false (.t 12), guard := some (11, false) },
    { dst := some 14, op := .bin .lss (.t 13) (.k (.int (-1))), guard := some (11, false) },
    { dst := some 15, op := .pick (.t 11) (.k (.bool true)) (.t 14) },
    { dst := some 16, op := .mov (.t 15) },
    { dst := some 17, op := .faddr 1 (.t 1), guard := some (16, false) },
    { dst := some 18, op := .load 1 false (.t 17), guard := some (16, false) },
    { dst := some 19, op := .bin .gtr (.t 18) (.k (.int 255)), guard := some (16, false) },
    { dst := some 20, op := .pick (.t 16) (.k (.bool true)) (.t 19) },
    { dst := some 21, op := .mov (.t 20) },
    { dst := some 22, op := .faddr 2 (.t 1), guard := some (21, false) },
    { dst := some 23, op := .load 1 false (.t 22), guard := some (21, false) },
    { dst := some 24, op := .bin .lss (.t 23) (.k (.int 0)), guard := some (21, false) },
    { dst := some 25, op := .pick (.t 21) (.k (.bool true)) (.t 24) },
    { dst := some 26, op := .mov (.t 25) },
    { dst := some 27, op := .faddr 2 (.t 1), guard := some (26, false) },
    { dst := some 28, op := .load 1 false (.t 27), guard := some (26, false) },
    { dst := some 29, op := .bin .gtr (.t 28) (.k (.int 255)), guard := some (26, false) },
    { dst := some 30, op := .pick (.t 26) (.k (.bool true)) (.t 29) }])
  (.cond (.t 30)
    (.seq (.reg [
      { dst := some 2, op := .mov (.k (.int 0)) }])
    .ret)
    .skip))
  (.seq (.reg [
    { dst := some 2, op := .mov (.k (.int 1)) }])
  .ret)))

def x_cluster_Check (f_utf8stream_Valid f_charwidth_Width f_cluster_marked : FuncId) : XC :=
(.seq (.reg [
    { dst := some 2, op := .mov (.k (.int 0)) }])
  (.seq (.seq (.reg [
    { dst := some 4, op := .mov (.t 0) },
    { dst := some 5, op := .bin .eql (.t 4) (.k (.str ⟨#[]⟩)) },
    { dst := some 6, op := .mov (.t 5) },
    { dst := some 7, op := .mov (.t 0), guard := some (6, false) },
    { dst := some 8, op := .call (.f f_utf8stream_Valid) [(.t 7)], guard := some (6, false) },
    { dst := some 9, op := .un .not (.t 8), guard := some (6, false) },
    { dst := some 10, op := .pick (.t 6) (.k (.bool true)) (.t 9) }])
  (.cond (.t 10)
    (.seq (.reg [
      { dst := some 2, op := .mov (.k (.int 3)) }])
    .ret)
    .skip))
  (.seq (.reg [
    { dst := some 11, op := .mov (.t 0) },
    { dst := some 12, op := .s2r ⟨1, 4⟩ (.t 11) },
    { dst := some 3, op := .mov (.t 12) }])
  (.seq (.block 0 (.seq (.reg [
    { dst := some 14, op := .mov (.t 3) },
    { dst := some 15, op := .iaddr ⟨1, 4⟩ (.t 14) (.k (.int 0)) },
    { dst := some 16, op := .load 1 false (.t 15) },
    { dst := some 17, op := .call (.f f_charwidth_Width) [(.t 16)] },
    { dst := some 18, op := .bin .lss (.t 17) (.k (.int 1)) },
    { dst := some 19, op := .mov (.t 18) },
    { dst := some 20, op := .mov (.t 3), guard := some (19, false) },
    { dst := some 21, op := .slice ⟨1, 4⟩ (.t 20) (some (.k (.int 1))) none none, guard := some (19, false) },
    { dst := some 22, op := .call (.f f_cluster_marked) [(.t 21)], guard := some (19, false) },
    { dst := some 23, op := .un .not (.t 22), guard := some (19, false) },
    { dst := some 24, op := .pick (.t 19) (.k (.bool true)) (.t 23) },
    { dst := some 13, op := .mov (.t 24) }])
  (.cond (.t 13)
    (.seq (.reg [
      { dst := some 2, op := .mov (.k (.int 9)) }])
    .ret)
    (.seq (.reg [
      { dst := some 26, op := .mov (.t 3) },
      { dst := some 27, op := .len false (.t 26) },
      { dst := some 28, op := .bin .sub (.t 27) (.k (.int 1)) },
      { dst := some 29, op := .bin .gtr (.t 28) (.k (.int 3)) },
      { dst := some 25, op := .mov (.t 29) }])
    (.cond (.t 25)
      (.seq (.reg [
        { dst := some 2, op := .mov (.k (.int 5)) }])
      .ret)
      .skip)))))
  (.seq (.reg [
    { dst := some 2, op := .mov (.k (.int 0)) }])
  .ret)))))

def x_ref15_blank : XC :=
(.seq (.reg [
    { dst := some 1, op := .box ⟨3, 32⟩ (.t 0) },
    { dst := some 2, op := .mov (.k (.bool false)) }])
  (.seq (.reg [
    { dst := some 3, op := .load 3 true (.t 1) },
    { dst := some 4, op := .build [(.str ⟨#[]⟩), (.bool false), (.int 0)] [(0, 1, (.k (.str ⟨#[32]⟩)))] },
    { dst := some 5, op := .eqs false 3 [(0, .s), (1, .b), (2, .i)] (.t 3) (.t 4) },
    { dst := some 2, op := .mov (.t 5) }])
  .ret))

def x_view_sized : XC :=
(.seq (.reg [
    { dst := some 4, op := .mov (.k (.bool false)) }])
  (.seq (.reg [
    { dst := some 5, op := .mov (.t 0) },
    { dst := some 6, op := .bin .geq (.t 5) (.k (.int 1)) },
    { dst := some 7, op := .mov (.t 6) },
    { dst := some 8, op := .mov (.t 0), guard := some (7, true) },
    { dst := some 9, op := .bin .leq (.t 8) (.k (.int 132)), guard := some (7, true) },
    { dst := some 10, op := .pick (.t 7) (.t 9) (.k (.bool false)) },
    { dst := some 11, op := .mov (.t 10) },
    { dst := some 12, op := .mov (.t 1), guard := some (11, true) },
    { dst := some 13, op := .bin .geq (.t 12) (.k (.int 1)), guard := some (11, true) },
    { dst := some 14, op := .pick (.t 11) (.t 13) (.k (.bool false)) },
    { dst := some 15, op := .mov (.t 14) },
    { dst := some 16, op := .mov (.t 1), guard := some (15, true) },
    { dst := some 17, op := .bin .leq (.t 16) (.k (.int 60)), guard := some (15, true) },
    { dst := some 18, op := .pick (.t 15) (.t 17) (.k (.bool false)) },
    { dst := some 4, op := .mov (.t 18) }])
  .ret))

def x_view_glyph (f_cluster_Check f_cluster_Width : FuncId) : XC :=
(.seq (.reg [
    { dst := some 1, op := .box ⟨3, 32⟩ (.t 0) },
    { dst := some 2, op := .mov (.k (.int 0)) }])
  (.seq (.seq (.reg [
    { dst := some 3, op := .faddr 0 (.t 1) },
    { dst := some 4, op := .load 1 false (.t 3) },
    { dst := some 5, op := .call (.f f_cluster_Check) [(.t 4)] },
    { dst := some 6, op := .bin .neq (.t 5) (.k (.int 0)) }])
  (.cond (.t 6)
    (.seq (.reg [
      { dst := some 2, op := .mov (.k (.int 3)) }])
    .ret)
    .skip))
  (.seq (.seq (.drw 0 [
    { dst := some 7, op := .faddr 1 (.t 1) },
    { dst := some 8, op := .load 1 false (.t 7) },
    { dst := some 9, op := .faddr 0 (.t 1) },
    { dst := some 10, op := .load 1 false (.t 9) },
    { dst := some 11, op := .call (.f f_cluster_Width) [(.t 10)] },
    { dst := some 12, op := .bin .eql (.t 11) (.k (.int 2)) },
    { dst := some 13, op := .eqb true (.t 8) (.t 12) },
    { dst := some 14, op := .mov (.t 13) },
    { dst := some 15, op := .faddr 2 (.t 1), guard := some (14, false) },
    { dst := some 16, op := .load 1 false (.t 15), guard := some (14, false) },
    { dst := some 17, op := .bin .lss (.t 16) (.k (.int 0)), guard := some (14, false) },
    { dst := some 18, op := .pick (.t 14) (.k (.bool true)) (.t 17) },
    { dst := some 19, op := .mov (.t 18) },
    { dst := some 20, op := .faddr 2 (.t 1), guard := some (19, false) },
    { dst := some 21, op := .load 1 false (.t 20), guard := some (19, false) },
    { dst := some 22, op := .bin .gtr (.t 21) (.k (.int 3)), guard := some (19, false) },
    { dst := some 23, op := .pick (.t 19) (.k (.bool true)) (.t 22) },
    { dst := some 24, op := .mov (.t 23) },
    { dst := some 25, op := .faddr 2 (.t 1), guard := some (24, false) },
    { dst := some 26, op := .load 1 false (.t 25), guard := some (24, false) },
    { dst := some 27, op := .bin .eql (.t 26) (.k (.int 3)), guard := some (24, false) },
    { dst := some 28, op := .mov (.t 27), guard := some (24, false) },
    { dst := some 29, op := .faddr 0 (.t 1), guard := some (28, true) },
    { dst := some 30, op := .load 1 false (.t 29), guard := some (28, true) },
    { dst := some 31, op := .bin .neq (.t 30) (.k (.str ⟨#[42]⟩)), guard := some (28, true) },
    { dst := some 32, op := .pick (.t 28) (.t 31) (.k (.bool false)), guard := some (24, false) },
    { dst := some 33, op := .pick (.t 24) (.k (.bool true)) (.t 32) }])
  (.cond (.t 33)
    (.seq (.reg [
      { dst := some 2, op := .mov (.k (.int 9)) }])
    .ret)
    .skip))
  (.seq (.reg [
    { dst := some 2, op := .mov (.k (.int 0)) }])
  .ret))))

def x_slices_ContainsFunc_750 (f_slices_IndexFunc_750 : FuncId) : XC :=
(.seq (.reg [
    { dst := some 4, op := .mov (.k (.bool false)) }])
  (.seq (.reg [
    { dst := some 5, op := .mov (.t 0) },
    { dst := some 6, op := .mov (.t 1) },
    { dst := some 7, op := .call (.f f_slices_IndexFunc_750) [(.t 5), (.t 6)] },
    { dst := some 8, op := .bin .geq (.t 7) (.k (.int 0)) },
    { dst := some 4, op := .mov (.t 8) }])
  .ret))

def x_view_showable_1 (f_attr_Check : FuncId) : XC :=
(.seq (.reg [
    { dst := some 1, op := .box ⟨5, 48⟩ (.t 0) },
    { dst := some 2, op := .mov (.k (.bool false)) }])
  (.seq (.reg [
    { dst := some 3, op := .faddr 2 (.t 1) },
    { dst := some 4, op := .load 3 true (.t 3) },
    { dst := some 5, op := .call (.f f_attr_Check) [(.t 4)] },
    { dst := some 6, op := .bin .neq (.t 5) (.k (.int 0)) },
    { dst := some 2, op := .mov (.t 6) }])
  .ret))

def x_attr_Check : XC :=
(.seq (.reg [
    { dst := some 1, op := .box ⟨3, 24⟩ (.t 0) },
    { dst := some 2, op := .mov (.k (.int 0)) }])
  (.seq (.seq (.reg [
    { dst := some 5, op := .faddr 0 (.t 1) },
    { dst := some 6, op := .load 1 false (.t 5) },
    { dst := some 7, op := .faddr 1 (.t 1) },
    { dst := some 8, op := .load 1 false (.t 7) },
    { dst := some 9, op := .build [(.int 0), (.int 0)] [(0, 1, (.t 6)), (1, 1, (.t 8))] },
    { dst := some 10, op := .mov (.k (.int 0)) }])
  (.block 0 (.loop (.seq (.reg [
    { dst := some 11, op := .bin .lss (.t 10) (.k (.int 2)) }])
  (.seq (.cond (.t 11)
    .skip
    (.exit 0))
  (.seq (.block 1 (.seq (.reg [
    { dst := some 12, op := .aidx 2 1 false (.t 9) (.t 10) },
    { dst := some 4, op := .mov (.t 12) }])
  (.seq (.reg [
    { dst := some 13, op := .mov (.t 4) },
    { dst := some 14, op := .bin .lss (.t 13) (.k (.int (-1))) },
    { dst := some 15, op := .mov (.t 14) },
    { dst := some 16, op := .mov (.t 4), guard := some (15, false) },
    { dst := some 17, op := .bin .gtr (.t 16) (.k (.int 255)), guard := some (15, false) },
    { dst := some 18, op := .pick (.t 15) (.k (.bool true)) (.t 17) }])
  (.cond (.t 18)
    (.seq (.reg [
      { dst := some 2, op := .mov (.k (.int 2)) }])
    .ret)
    .skip))))
  (.reg [
    { dst := some 19, op := .bin .add (.t 10) (.k (.int 1)) },
    { dst := some 10, op := .mov (.t 19) }])))))))
  (.seq (.seq (.reg [
    { dst := some 20, op := .faddr 2 (.t 1) },
    { dst := some 21, op := .load 1 false (.t 20) },
    { dst := some 22, op := .bin .lss (.t 21) (.k (.int 0)) },
    { dst := some 23, op := .mov (.t 22) },
    { dst := some 24, op := .faddr 2 (.t 1), guard := some (23, false) },
    { dst := some 25, op := .load 1 false (.t 24), guard := some (23, false) },
    { dst := some 26, op := .bin .gtr (.t 25) (.k (.int 255)), guard := some (23, false) },
    { dst := some 27, op := .pick (.t 23) (.k (.bool true)) (.t 26) }])
  (.cond (.t 27)
    (.seq (.reg [
      { dst := some 2, op := .mov (.k (.int 2)) }])
    .ret)
    .skip))
  (.seq (.reg [
    { dst := some 2, op := .mov (.k (.int 0)) }])
  .ret))))

def x_slices_AppendSeq_675 : XC :=
(.seq (.reg [
    { dst := some 2, op := .box ⟨1, 24⟩ (.t 0) },
    { dst := some 4, op := .mov (.k .nil) }])
  (.seq (.seq (.reg [
    { dst := some 6, op := .mov (.t 1) }])
  (.block 0 (.range (.t 6) [7]
    (.reg [
      { dst := some 5, op := .alloc ⟨3, 32⟩ [(.str ⟨#[]⟩), (.bool false), (.int 0)] },
      { dst := none, op := .store 3 (.t 5) (.t 7) }])
    (.block 1 (.reg [
      { dst := some 8, op := .load 1 false (.t 2) },
      { dst := some 9, op := .load 3 true (.t 5) },
      { dst := some 10, op := .bslice ⟨3, 32⟩ [(.str ⟨#[]⟩), (.bool false), (.int 0)] 1 [(0, (.t 9))] },
      { dst := some 11, op := .append ⟨3, 32⟩ (.t 8) (.t 10) },
      { dst := none, op := .store 1 (.t 2) (.t 11) }])))))
  (.seq (.reg [
    { dst := some 12, op := .load 1 false (.t 2) },
    { dst := some 4, op := .mov (.t 12) }])
  .ret)))

def x_view_glyphs_1 (f_attr_Style : FuncId) : XC :=
(.seq (.reg [
    { dst := some 6, op := .load 1 false (.t 1) },
    { dst := some 7, op := .len false (.t 6) },
    { dst := some 8, op := .mov (.k (.int 0)) }])
  (.block 0 (.loop (.seq (.reg [
    { dst := some 9, op := .bin .lss (.t 8) (.t 7) }])
  (.seq (.cond (.t 9)
    .skip
    (.exit 0))
  (.seq (.block 1 (.seq (.reg [
    { dst := some 10, op := .iaddr ⟨5, 48⟩ (.t 6) (.t 8) },
    { dst := some 11, op := .load 5 true (.t 10) },
    { dst := some 4, op := .alloc ⟨5, 48⟩ [(.str ⟨#[]⟩), (.int 0), (.int 0), (.int 0), (.int 0)] },
    { dst := none, op := .store 5 (.t 4) (.t 11) }])
  (.seq (.drw 1 [
    { dst := some 12, op := .faddr 0 (.t 4) },
    { dst := some 13, op := .load 1 false (.t 12) },
    { dst := some 14, op := .faddr 1 (.t 4) },
    { dst := some 15, op := .load 1 false (.t 14) },
    { dst := some 16, op := .bin .eql (.t 15) (.k (.int 2)) },
    { dst := some 17, op := .faddr 2 (.t 4) },
    { dst := some 18, op := .load 3 true (.t 17) },
    { dst := some 19, op := .call (.f f_attr_Style) [(.t 18)] },
    { dst := some 20, op := .build [(.str ⟨#[]⟩), (.bool false), (.int 0)] [(0, 1, (.t 13)), (1, 1, (.t 16)), (2, 1, (.t 19))] },
    { dst := some 5, op := .alloc ⟨3, 32⟩ [(.str ⟨#[]⟩), (.bool false), (.int 0)], pl := some 0 },
    { dst := none, op := .store 3 (.t 5) (.t 20) }])
  (.seq (.seq (.reg [
    { dst := some 21, op := .faddr 2 (.t 4) },
    { dst := some 22, op := .faddr 2 (.t 21) },
    { dst := some 23, op := .load 1 false (.t 22) },
    { dst := some 24, op := .bin .and (.t 23) (.k (.int 64)) },
    { dst := some 25, op := .bin .neq (.t 24) (.k (.int 0)) }])
  (.cond (.t 25)
    (.reg [
      { dst := some 26, op := .build [(.str ⟨#[]⟩), (.bool false), (.int 0)] [(0, 1, (.k (.str ⟨#[42]⟩))), (2, 1, (.k (.int 3)))] },
      { dst := none, op := .store 3 (.t 5) (.t 26) }])
    (.seq (.reg [
      { dst := some 27, op := .faddr 1 (.t 4) },
      { dst := some 28, op := .load 1 false (.t 27) },
      { dst := some 29, op := .bin .eql (.t 28) (.k (.int 0)) }])
    (.cond (.t 29)
      (.exit 1)
      .skip))))
  (.seq (.reg [
    { dst := some 30, op := .mov (.t 0) },
    { dst := some 31, op := .load 3 true (.t 5) },
    { dst := some 32, op := .calle (.t 30) [(.t 31)] },
    { dst := some 33, op := .un .not (.t 32) }])
  (.cond (.t 33)
    .ret
    .skip))))))
  (.reg [
    { dst := some 34, op := .bin .add (.t 8) (.k (.int 1)) },
    { dst := some 8, op := .mov (.t 34) }])))))))

def x_attr_Style : XC :=
(.seq (.reg [
    { dst := some 1, op := .box ⟨3, 24⟩ (.t 0) },
    { dst := some 2, op := .mov (.k (.int 0)) }])
  (.seq (.block 0 (.seq (.reg [
    { dst := some 4, op := .faddr 2 (.t 1) },
    { dst := some 5, op := .load 1 false (.t 4) },
    { dst := some 6, op := .bin .and (.t 5) (.k (.int 64)) },
    { dst := some 7, op := .bin .neq (.t 6) (.k (.int 0)) },
    { dst := some 3, op := .mov (.t 7) }])
  (.cond (.t 3)
    (.seq (.reg [
      { dst := some 2, op := .mov (.k (.int 3)) }])
    .ret)
    (.seq (.reg [
      { dst := some 9, op := .faddr 2 (.t 1) },
      { dst := some 10, op := .load 1 false (.t 9) },
      { dst := some 11, op := .bin .and (.t 10) (.k (.int 32)) },
      { dst := some 12, op := .bin .neq (.t 11) (.k (.int 0)) },
      { dst := some 8, op := .mov (.t 12) }])
    (.cond (.t 8)
      (.seq (.reg [
        { dst := some 2, op := .mov (.k (.int 2)) }])
      .ret)
      (.seq (.reg [
        { dst := some 14, op := .faddr 2 (.t 1) },
        { dst := some 15, op := .load 1 false (.t 14) },
        { dst := some 16, op := .bin .and (.t 15) (.k (.int 29)) },
        { dst := some 17, op := .bin .neq (.t 16) (.k (.int 0)) },
        { dst := some 13, op := .mov (.t 17) }])
      (.cond (.t 13)
        (.seq (.reg [
          { dst := some 2, op := .mov (.k (.int 1)) }])
        .ret)
        .skip)))))))
  (.seq (.reg [
    { dst := some 2, op := .mov (.k (.int 0)) }])
  .ret)))

def x_ref04_Style : XC :=
(.seq (.reg [
    { dst := some 1, op := .box ⟨3, 24⟩ (.t 0) },
    { dst := some 2, op := .mov (.k (.int 0)) }])
  (.seq (.seq (.reg [
    { dst := some 3, op := .faddr 2 (.t 1) },
    { dst := some 4, op := .load 1 false (.t 3) },
    { dst := some 5, op := .bin .and (.t 4) (.k (.int 64)) },
    { dst := some 6, op := .bin .neq (.t 5) (.k (.int 0)) }])
  (.cond (.t 6)
    (.seq (.reg [
      { dst := some 2, op := .mov (.k (.int 3)) }])
    .ret)
    .skip))
  (.seq (.seq (.reg [
    { dst := some 7, op := .faddr 2 (.t 1) },
    { dst := some 8, op := .load 1 false (.t 7) },
    { dst := some 9, op := .bin .and (.t 8) (.k (.int 32)) },
    { dst := some 10, op := .bin .neq (.t 9) (.k (.int 0)) }])
  (.cond (.t 10)
    (.seq (.reg [
      { dst := some 2, op := .mov (.k (.int 2)) }])
    .ret)
    .skip))
  (.seq (.seq (.reg [
    { dst := some 11, op := .faddr 2 (.t 1) },
    { dst := some 12, op := .load 1 false (.t 11) },
    { dst := some 13, op := .bin .and (.t 12) (.k (.int 29)) },
    { dst := some 14, op := .bin .neq (.t 13) (.k (.int 0)) }])
  (.cond (.t 14)
    (.seq (.reg [
      { dst := some 2, op := .mov (.k (.int 1)) }])
    .ret)
    .skip))
  (.seq (.reg [
    { dst := some 2, op := .mov (.k (.int 0)) }])
  .ret)))))

def x_charwidth_Mark (f_charwidth_marks f_charwidth_finder : FuncId) : XC :=
(.seq (.reg [
    { dst := some 2, op := .mov (.k (.bool false)) }])
  (.seq (.reg [
    { dst := some 3, op := .call (.f f_charwidth_marks) [] },
    { dst := some 4, op := .call (.f f_charwidth_finder) [(.t 3)] },
    { dst := some 5, op := .mov (.t 0) },
    { dst := some 6, op := .call (.t 4) [(.t 5)] },
    { dst := some 2, op := .mov (.t 6) }])
  .ret))

def x_charwidth_finder (f_charwidth_finder_1 : FuncId) : XC :=
(.seq (.reg [
    { dst := some 1, op := .box ⟨1, 24⟩ (.t 0) },
    { dst := some 2, op := .mov (.k (.sc .nilFunc)) }])
  (.seq (.reg [
    { dst := some 3, op := .mkfn f_charwidth_finder_1 [(.t 1)] },
    { dst := some 2, op := .mov (.t 3) }])
  .ret))

def x_charwidth_Wide : XC :=
(.seq (.reg [
    { dst := some 0, op := .mov (.k .nil) }])
  (.seq (.reg [
    { dst := some 1, op := .build [(.sc (.int .i32 0)), (.sc (.int .i32 0))] [(0, 1, (.k (.sc (.int .i32 4352)))), (1, 1, (.k (.sc (.int .i32 4447))))] },
    { dst := some 2, op := .build [(.sc (.int .i32 0)), (.sc (.int .i32 0))] [(0, 1, (.k (.sc (.int .i32 11904)))), (1, 1, (.k (.sc (.int .i32 12350))))] },
    { dst := some 3, op := .build [(.sc (.int .i32 0)), (.sc (.int .i32 0))] [(0, 1, (.k (.sc (.int .i32 12353)))), (1, 1, (.k (.sc (.int .i32 13311))))] },
    { dst := some 4, op := .build [(.sc (.int .i32 0)), (.sc (.int .i32 0))] [(0, 1, (.k (.sc (.int .i32 13312)))), (1, 1, (.k (.sc (.int .i32 19903))))] },
    { dst := some 5, op := .build [(.sc (.int .i32 0)), (.sc (.int .i32 0))] [(0, 1, (.k (.sc (.int .i32 19968)))), (1, 1, (.k (.sc (.int .i32 40959))))] },
    { dst := some 6, op := .build [(.sc (.int .i32 0)), (.sc (.int .i32 0))] [(0, 1, (.k (.sc (.int .i32 40960)))), (1, 1, (.k (.sc (.int .i32 42191))))] },
    { dst := some 7, op := .build [(.sc (.int .i32 0)), (.sc (.int .i32 0))] [(0, 1, (.k (.sc (.int .i32 44032)))), (1, 1, (.k (.sc (.int .i32 55203))))] },
    { dst := some 8, op := .build [(.sc (.int .i32 0)), (.sc (.int .i32 0))] [(0, 1, (.k (.sc (.int .i32 63744)))), (1, 1, (.k (.sc (.int .i32 64255))))] },
    { dst := some 9, op := .build [(.sc (.int .i32 0)), (.sc (.int .i32 0))] [(0, 1, (.k (.sc (.int .i32 65072)))), (1, 1, (.k (.sc (.int .i32 65135))))] },
    { dst := some 10, op := .build [(.sc (.int .i32 0)), (.sc (.int .i32 0))] [(0, 1, (.k (.sc (.int .i32 65280)))), (1, 1, (.k (.sc (.int .i32 65376))))] },
    { dst := some 11, op := .build [(.sc (.int .i32 0)), (.sc (.int .i32 0))] [(0, 1, (.k (.sc (.int .i32 65504)))), (1, 1, (.k (.sc (.int .i32 65510))))] },
    { dst := some 12, op := .build [(.sc (.int .i32 0)), (.sc (.int .i32 0))] [(0, 1, (.k (.sc (.int .i32 127744)))), (1, 1, (.k (.sc (.int .i32 128591))))] },
    { dst := some 13, op := .build [(.sc (.int .i32 0)), (.sc (.int .i32 0))] [(0, 1, (.k (.sc (.int .i32 129280)))), (1, 1, (.k (.sc (.int .i32 129535))))] },
    { dst := some 14, op := .build [(.sc (.int .i32 0)), (.sc (.int .i32 0))] [(0, 1, (.k (.sc (.int .i32 131072)))), (1, 1, (.k (.sc (.int .i32 262141))))] },
    { dst := some 15, op := .bslice ⟨2, 8⟩ [(.sc (.int .i32 0)), (.sc (.int .i32 0))] 14 [(0, (.t 1)), (1, (.t 2)), (2, (.t 3)), (3, (.t 4)), (4, (.t 5)), (5, (.t 6)), (6, (.t 7)), (7, (.t 8)), (8, (.t 9)), (9, (.t 10)), (10, (.t 11)), (11, (.t 12)), (12, (.t 13)), (13, (.t 14))] },
    { dst := some 0, op := .mov (.t 15) }])
  .ret))

def x_ref03_Check (f_ref01_Valid f_ref03_Characters f_ref02_Mark f_ref02_Width : FuncId) : XC :=
(.seq (.reg [
    { dst := some 2, op := .mov (.k (.int 0)) }])
  (.seq (.seq (.reg [
    { dst := some 5, op := .mov (.t 0) },
    { dst := some 6, op := .bin .eql (.t 5) (.k (.str ⟨#[]⟩)) },
    { dst := some 7, op := .mov (.t 6) },
    { dst := some 8, op := .mov (.t 0), guard := some (7, false) },
    { dst := some 9, op := .call (.f f_ref01_Valid) [(.t 8)], guard := some (7, false) },
    { dst := some 10, op := .un .not (.t 9), guard := some (7, false) },
    { dst := some 11, op := .pick (.t 7) (.k (.bool true)) (.t 10) }])
  (.cond (.t 11)
    (.seq (.reg [
      { dst := some 2, op := .mov (.k (.int 3)) }])
    .ret)
    .skip))
  (.seq (.reg [
    { dst := some 12, op := .mov (.t 0) },
    { dst := some 13, op := .call (.f f_ref03_Characters) [(.t 12)] },
    { dst := some 3, op := .mov (.t 13) }])
  (.seq (.seq (.reg [
    { dst := some 14, op := .mov (.t 3) },
    { dst := some 15, op := .iaddr ⟨1, 4⟩ (.t 14) (.k (.int 0)) },
    { dst := some 16, op := .load 1 false (.t 15) },
    { dst := some 17, op := .call (.f f_ref02_Mark) [(.t 16)] },
    { dst := some 18, op := .mov (.t 17) },
    { dst := some 19, op := .mov (.t 3), guard := some (18, false) },
    { dst := some 20, op := .iaddr ⟨1, 4⟩ (.t 19) (.k (.int 0)), guard := some (18, false) },
    { dst := some 21, op := .load 1 false (.t 20), guard := some (18, false) },
    { dst := some 22, op := .call (.f f_ref02_Width) [(.t 21)], guard := some (18, false) },
    { dst := some 23, op := .bin .lss (.t 22) (.k (.int 1)), guard := some (18, false) },
    { dst := some 24, op := .pick (.t 18) (.k (.bool true)) (.t 23) }])
  (.cond (.t 24)
    (.seq (.reg [
      { dst := some 2, op := .mov (.k (.int 9)) }])
    .ret)
    .skip))
  (.seq (.seq (.reg [
    { dst := some 4, op := .mov (.k (.int 1)) }])
  (.block 0 (.loop (.seq (.seq (.reg [
    { dst := some 25, op := .mov (.t 4) },
    { dst := some 26, op := .mov (.t 3) },
    { dst := some 27, op := .len false (.t 26) },
    { dst := some 28, op := .bin .lss (.t 25) (.t 27) }])
  (.cond (.t 28)
    .skip
    (.exit 0)))
  (.seq (.block 1 (.seq (.reg [
    { dst := some 31, op := .mov (.t 3) },
    { dst := some 32, op := .mov (.t 4) },
    { dst := some 33, op := .iaddr ⟨1, 4⟩ (.t 31) (.t 32) },
    { dst := some 34, op := .load 1 false (.t 33) },
    { dst := some 35, op := .call (.f f_ref02_Mark) [(.t 34)] },
    { dst := some 36, op := .un .not (.t 35) }])
  (.cond (.t 36)
    (.seq (.reg [
      { dst := some 2, op := .mov (.k (.int 9)) }])
    .ret)
    .skip)))
  (.reg [
    { dst := some 29, op := .mov (.t 4) },
    { dst := some 30, op := .bin .add (.t 29) (.k (.int 1)) },
    { dst := some 4, op := .mov (.t 30) }]))))))
  (.seq (.seq (.reg [
    { dst := some 37, op := .mov (.t 3) },
    { dst := some 38, op := .len false (.t 37) },
    { dst := some 39, op := .bin .gtr (.t 38) (.k (.int 4)) }])
  (.cond (.t 39)
    (.seq (.reg [
      { dst := some 2, op := .mov (.k (.int 5)) }])
    .ret)
    .skip))
  (.seq (.reg [
    { dst := some 2, op := .mov (.k (.int 0)) }])
  .ret)))))))

def x_ref03_Width (f_ref03_Check f_ref03_Characters f_ref02_Width : FuncId) : XC :=
(.seq (.reg [
    { dst := some 2, op := .mov (.k (.int 0)) }])
  (.seq (.seq (.reg [
    { dst := some 3, op := .mov (.t 0) },
    { dst := some 4, op := .call (.f f_ref03_Check) [(.t 3)] },
    { dst := some 5, op := .bin .neq (.t 4) (.k (.int 0)) }])
  (.cond (.t 5)
    (.seq (.reg [
      { dst := some 2, op := .mov (.k (.int 0)) }])
    .ret)
    .skip))
  (.seq (.reg [
    { dst := some 6, op := .mov (.t 0) },
    { dst := some 7, op := .call (.f f_ref03_Characters) [(.t 6)] },
    { dst := some 8, op := .iaddr ⟨1, 4⟩ (.t 7) (.k (.int 0)) },
    { dst := some 9, op := .load 1 false (.t 8) },
    { dst := some 10, op := .call (.f f_ref02_Width) [(.t 9)] },
    { dst := some 2, op := .mov (.t 10) }])
  .ret)))

def x_utf8stream_Valid (f_unicode_utf8_ValidString : FuncId) : XC :=
(.seq (.reg [
    { dst := some 2, op := .mov (.k (.bool false)) }])
  (.seq (.reg [
    { dst := some 3, op := .mov (.t 0) },
    { dst := some 4, op := .call (.f f_unicode_utf8_ValidString) [(.t 3)] },
    { dst := some 2, op := .mov (.t 4) }])
  .ret))

def x_cluster_marked (f_charwidth_Mark : FuncId) : XC :=
(.seq (.reg [
    { dst := some 2, op := .mov (.k (.bool false)) }])
  (.seq (.seq (.reg [
    { dst := some 5, op := .mov (.t 0) },
    { dst := some 6, op := .len false (.t 5) },
    { dst := some 7, op := .mov (.k (.int 0)) }])
  (.block 0 (.loop (.seq (.reg [
    { dst := some 8, op := .bin .lss (.t 7) (.t 6) }])
  (.seq (.cond (.t 8)
    .skip
    (.exit 0))
  (.seq (.block 1 (.seq (.reg [
    { dst := some 9, op := .iaddr ⟨1, 4⟩ (.t 5) (.t 7) },
    { dst := some 10, op := .load 1 false (.t 9) },
    { dst := some 4, op := .mov (.t 10) }])
  (.seq (.reg [
    { dst := some 11, op := .mov (.t 4) },
    { dst := some 12, op := .call (.f f_charwidth_Mark) [(.t 11)] },
    { dst := some 13, op := .un .not (.t 12) }])
  (.cond (.t 13)
    (.seq (.reg [
      { dst := some 2, op := .mov (.k (.bool false)) }])
    .ret)
    .skip))))
  (.reg [
    { dst := some 14, op := .bin .add (.t 7) (.k (.int 1)) },
    { dst := some 7, op := .mov (.t 14) }])))))))
  (.seq (.reg [
    { dst := some 2, op := .mov (.k (.bool true)) }])
  .ret)))

def x_slices_IndexFunc_750 : XC :=
(.seq (.reg [
    { dst := some 4, op := .mov (.k (.int 0)) }])
  (.seq (.seq (.reg [
    { dst := some 6, op := .mov (.t 0) },
    { dst := some 7, op := .len false (.t 6) },
    { dst := some 8, op := .mov (.k (.int 0)) }])
  (.block 0 (.loop (.seq (.reg [
    { dst := some 9, op := .bin .lss (.t 8) (.t 7) }])
  (.seq (.cond (.t 9)
    .skip
    (.exit 0))
  (.seq (.block 1 (.seq (.reg [
    { dst := some 10, op := .mov (.t 8) },
    { dst := some 5, op := .mov (.t 10) }])
  (.seq (.reg [
    { dst := some 11, op := .mov (.t 1) },
    { dst := some 12, op := .mov (.t 0) },
    { dst := some 13, op := .mov (.t 5) },
    { dst := some 14, op := .iaddr ⟨5, 48⟩ (.t 12) (.t 13) },
    { dst := some 15, op := .load 5 true (.t 14) },
    { dst := some 16, op := .call (.t 11) [(.t 15)] }])
  (.cond (.t 16)
    (.seq (.reg [
      { dst := some 17, op := .mov (.t 5) },
      { dst := some 4, op := .mov (.t 17) }])
    .ret)
    .skip))))
  (.reg [
    { dst := some 18, op := .bin .add (.t 8) (.k (.int 1)) },
    { dst := some 8, op := .mov (.t 18) }])))))))
  (.seq (.reg [
    { dst := some 4, op := .mov (.k (.int (-1))) }])
  .ret)))

def x_charwidth_marks : XC :=
(.seq (.reg [
    { dst := some 0, op := .mov (.k .nil) }])
  (.seq (.reg [
    { dst := some 1, op := .build [(.sc (.int .i32 0)), (.sc (.int .i32 0))] [(0, 1, (.k (.sc (.int .i32 768)))), (1, 1, (.k (.sc (.int .i32 879))))] },
    { dst := some 2, op := .build [(.sc (.int .i32 0)), (.sc (.int .i32 0))] [(0, 1, (.k (.sc (.int .i32 6832)))), (1, 1, (.k (.sc (.int .i32 6911))))] },
    { dst := some 3, op := .build [(.sc (.int .i32 0)), (.sc (.int .i32 0))] [(0, 1, (.k (.sc (.int .i32 7616)))), (1, 1, (.k (.sc (.int .i32 7679))))] },
    { dst := some 4, op := .build [(.sc (.int .i32 0)), (.sc (.int .i32 0))] [(0, 1, (.k (.sc (.int .i32 8203)))), (1, 1, (.k (.sc (.int .i32 8207))))] },
    { dst := some 5, op := .build [(.sc (.int .i32 0)), (.sc (.int .i32 0))] [(0, 1, (.k (.sc (.int .i32 8400)))), (1, 1, (.k (.sc (.int .i32 8447))))] },
    { dst := some 6, op := .build [(.sc (.int .i32 0)), (.sc (.int .i32 0))] [(0, 1, (.k (.sc (.int .i32 65024)))), (1, 1, (.k (.sc (.int .i32 65039))))] },
    { dst := some 7, op := .build [(.sc (.int .i32 0)), (.sc (.int .i32 0))] [(0, 1, (.k (.sc (.int .i32 65056)))), (1, 1, (.k (.sc (.int .i32 65071))))] },
    { dst := some 8, op := .bslice ⟨2, 8⟩ [(.sc (.int .i32 0)), (.sc (.int .i32 0))] 7 [(0, (.t 1)), (1, (.t 2)), (2, (.t 3)), (3, (.t 4)), (4, (.t 5)), (5, (.t 6)), (6, (.t 7))] },
    { dst := some 0, op := .mov (.t 8) }])
  .ret))

def x_charwidth_finder_1 : XC :=
(.seq (.reg [
    { dst := some 3, op := .mov (.k (.bool false)) }])
  (.seq (.drw 0 [
    { dst := some 7, op := .load 1 false (.t 1) },
    { dst := some 8, op := .len false (.t 7) },
    { dst := some 4, op := .mov (.k (.int 0)) },
    { dst := some 5, op := .mov (.t 8) }])
  (.seq (.block 0 (.loop (.seq (.seq (.reg [
    { dst := some 9, op := .mov (.t 4) },
    { dst := some 10, op := .mov (.t 5) },
    { dst := some 11, op := .bin .lss (.t 9) (.t 10) }])
  (.cond (.t 11)
    .skip
    (.exit 0)))
  (.block 1 (.seq (.reg [
    { dst := some 12, op := .mov (.t 4) },
    { dst := some 13, op := .mov (.t 5) },
    { dst := some 14, op := .bin .add (.t 12) (.t 13) },
    { dst := some 15, op := .bin .quo (.t 14) (.k (.int 2)) },
    { dst := some 6, op := .mov (.t 15) }])
  (.seq (.reg [
    { dst := some 16, op := .mov (.t 0) },
    { dst := some 17, op := .load 1 false (.t 1) },
    { dst := some 18, op := .mov (.t 6) },
    { dst := some 19, op := .iaddr ⟨2, 8⟩ (.t 17) (.t 18) },
    { dst := some 20, op := .aaddr ⟨1, 4⟩ 2 (.t 19) (.k (.int 1)) },
    { dst := some 21, op := .load 1 false (.t 20) },
    { dst := some 22, op := .bin .gtr (.t 16) (.t 21) }])
  (.cond (.t 22)
    (.reg [
      { dst := some 23, op := .mov (.t 6) },
      { dst := some 24, op := .bin .add (.t 23) (.k (.int 1)) },
      { dst := some 4, op := .mov (.t 24) }])
    (.reg [
      { dst := some 25, op := .mov (.t 6) },
      { dst := some 5, op := .mov (.t 25) }]))))))))
  (.seq (.reg [
    { dst := some 26, op := .mov (.t 4) },
    { dst := some 27, op := .load 1 false (.t 1) },
    { dst := some 28, op := .len false (.t 27) },
    { dst := some 29, op := .bin .lss (.t 26) (.t 28) },
    { dst := some 30, op := .mov (.t 29) },
    { dst := some 31, op := .mov (.t 0), guard := some (30, true) },
    { dst := some 32, op := .load 1 false (.t 1), guard := some (30, true) },
    { dst := some 33, op := .mov (.t 4), guard := some (30, true) },
    { dst := some 34, op := .iaddr ⟨2, 8⟩ (.t 32) (.t 33), guard := some (30, true) },
    { dst := some 35, op := .aaddr ⟨1, 4⟩ 2 (.t 34) (.k (.int 0)), guard := some (30, true) },
    { dst := some 36, op := .load 1 false (.t 35), guard := some (30, true) },
    { dst := some 37, op := .bin .geq (.t 31) (.t 36), guard := some (30, true) },
    { dst := some 38, op := .pick (.t 30) (.t 37) (.k (.bool false)) },
    { dst := some 3, op := .mov (.t 38) }])
  .ret))))

def x_ref01_Valid (f_ref01_Decode f_ref01_Encode : FuncId) : XC :=
(.seq (.reg [
    { dst := some 2, op := .mov (.k (.bool false)) }])
  (.seq (.reg [
    { dst := some 6, op := .mov (.t 0) },
    { dst := some 7, op := .call (.f f_ref01_Decode) [(.k (.str ⟨#[]⟩)), (.t 6)] },
    { dst := some 5, op := .mov (.t 7) },
    { dst := some 8, op := .extract 0 (.t 5) },
    { dst := some 9, op := .extract 1 (.t 5) },
    { dst := some 3, op := .mov (.t 8) },
    { dst := some 4, op := .mov (.t 9) }])
  (.seq (.reg [
    { dst := some 10, op := .mov (.t 4) },
    { dst := some 11, op := .bin .eql (.t 10) (.k (.str ⟨#[]⟩)) },
    { dst := some 12, op := .mov (.t 11) },
    { dst := some 13, op := .mov (.t 3), guard := some (12, true) },
    { dst := some 14, op := .call (.f f_ref01_Encode) [(.t 13)], guard := some (12, true) },
    { dst := some 15, op := .mov (.t 0), guard := some (12, true) },
    { dst := some 16, op := .bin .eql (.t 14) (.t 15), guard := some (12, true) },
    { dst := some 17, op := .pick (.t 12) (.t 16) (.k (.bool false)) },
    { dst := some 2, op := .mov (.t 17) }])
  .ret)))

def x_ref03_Characters (f_ref01_Decode : FuncId) : XC :=
(.seq (.reg [
    { dst := some 2, op := .mov (.k .nil) }])
  (.seq (.reg [
    { dst := some 6, op := .mov (.t 0) },
    { dst := some 7, op := .call (.f f_ref01_Decode) [(.k (.str ⟨#[]⟩)), (.t 6)] },
    { dst := some 5, op := .mov (.t 7) },
    { dst := some 8, op := .extract 0 (.t 5) },
    { dst := some 9, op := .extract 1 (.t 5) },
    { dst := some 3, op := .mov (.t 8) },
    { dst := some 4, op := .mov (.t 9) }])
  (.seq (.reg [
    { dst := some 10, op := .mov (.t 3) },
    { dst := some 2, op := .mov (.t 10) }])
  .ret)))

def x_ref02_Mark (f_ref02_Marks f_ref02_in : FuncId) : XC :=
(.seq (.reg [
    { dst := some 2, op := .mov (.k (.bool false)) }])
  (.seq (.reg [
    { dst := some 3, op := .call (.f f_ref02_Marks) [] },
    { dst := some 4, op := .mov (.t 0) },
    { dst := some 5, op := .call (.f f_ref02_in) [(.t 3), (.t 4)] },
    { dst := some 2, op := .mov (.t 5) }])
  .ret))

def x_ref02_Width (f_ref02_Mark f_ref02_Wide f_ref02_in : FuncId) : XC :=
(.seq (.reg [
    { dst := some 2, op := .mov (.k (.int 0)) }])
  (.seq (.block 0 (.seq (.reg [
    { dst := some 4, op := .mov (.t 0) },
    { dst := some 5, op := .bin .lss (.t 4) (.k (.sc (.int .i32 32))) },
    { dst := some 6, op := .mov (.t 5) },
    { dst := some 7, op := .mov (.t 0), guard := some (6, false) },
    { dst := some 8, op := .bin .geq (.t 7) (.k (.sc (.int .i32 127))), guard := some (6, false) },
    { dst := some 9, op := .mov (.t 8), guard := some (6, false) },
    { dst := some 10, op := .mov (.t 0), guard := some (9, true) },
    { dst := some 11, op := .bin .leq (.t 10) (.k (.sc (.int .i32 159))), guard := some (9, true) },
    { dst := some 12, op := .pick (.t 9) (.t 11) (.k (.bool false)), guard := some (6, false) },
    { dst := some 13, op := .pick (.t 6) (.k (.bool true)) (.t 12) },
    { dst := some 3, op := .mov (.t 13) }])
  (.cond (.t 3)
    (.seq (.reg [
      { dst := some 2, op := .mov (.k (.int (-1))) }])
    .ret)
    (.seq (.reg [
      { dst := some 15, op := .mov (.t 0) },
      { dst := some 16, op := .call (.f f_ref02_Mark) [(.t 15)] },
      { dst := some 14, op := .mov (.t 16) }])
    (.cond (.t 14)
      (.seq (.reg [
        { dst := some 2, op := .mov (.k (.int 0)) }])
      .ret)
      (.seq (.reg [
        { dst := some 18, op := .call (.f f_ref02_Wide) [] },
        { dst := some 19, op := .mov (.t 0) },
        { dst := some 20, op := .call (.f f_ref02_in) [(.t 18), (.t 19)] },
        { dst := some 17, op := .mov (.t 20) }])
      (.cond (.t 17)
        (.seq (.reg [
          { dst := some 2, op := .mov (.k (.int 2)) }])
        .ret)
        .skip)))))))
  (.seq (.reg [
    { dst := some 2, op := .mov (.k (.int 1)) }])
  .ret)))

def x_unicode_utf8_ValidString (f_unicode_utf8_word_69 : FuncId) : XC :=
(.seq (.reg [
    { dst := some 2, op := .mov (.k (.bool false)) }])
  (.seq (.block 0 (.loop (.seq (.seq (.reg [
    { dst := some 7, op := .mov (.t 0) },
    { dst := some 8, op := .len true (.t 7) },
    { dst := some 9, op := .bin .gtr (.t 8) (.k (.int 0)) }])
  (.cond (.t 9)
    .skip
    (.exit 0)))
  (.block 1 (.seq (.reg [
    { dst := some 10, op := .mov (.t 0) },
    { dst := some 11, op := .sidx (.t 10) (.k (.int 0)) },
    { dst := some 3, op := .mov (.t 11) }])
  (.seq (.seq (.reg [
    { dst := some 12, op := .mov (.t 3) },
    { dst := some 13, op := .bin .lss (.t 12) (.k (.sc (.int .u8 128))) }])
  (.cond (.t 13)
    (.seq (.reg [
      { dst := some 14, op := .mov (.t 0) },
      { dst := some 15, op := .sslice (.t 14) (some (.k (.int 1))) none },
      { dst := some 0, op := .mov (.t 15) }])
    (.seq (.seq (.reg [
      { dst := some 16, op := .mov (.t 0) },
      { dst := some 17, op := .len true (.t 16) },
      { dst := some 18, op := .bin .gtr (.t 17) (.k (.int 8)) },
      { dst := some 19, op := .mov (.t 18) },
      { dst := some 20, op := .mov (.t 0), guard := some (19, true) },
      { dst := some 21, op := .call (.f f_unicode_utf8_word_69) [(.t 20)], guard := some (19, true) },
      { dst := some 22, op := .bin .and (.t 21) (.k (.sc (.int .u64 9259542123273814144))), guard := some (19, true) },
      { dst := some 23, op := .bin .eql (.t 22) (.k (.sc (.int .u64 0))), guard := some (19, true) },
      { dst := some 24, op := .pick (.t 19) (.t 23) (.k (.bool false)) }])
    (.cond (.t 24)
      (.seq (.reg [
        { dst := some 25, op := .mov (.t 0) },
        { dst := some 26, op := .sslice (.t 25) (some (.k (.int 8))) none },
        { dst := some 0, op := .mov (.t 26) }])
      (.seq (.drw 0 [
        { dst := some 27, op := .mov (.t 0) },
        { dst := some 28, op := .len true (.t 27) },
        { dst := some 29, op := .bin .gtr (.t 28) (.k (.int 16)) },
        { dst := some 30, op := .mov (.t 29) },
        { dst := some 31, op := .mov (.t 0), guard := some (30, true) },
        { dst := some 32, op := .call (.f f_unicode_utf8_word_69) [(.t 31)], guard := some (30, true) },
        { dst := some 33, op := .mov (.t 0), guard := some (30, true) },
        { dst := some 34, op := .sslice (.t 33) (some (.k (.int 8))) none, guard := some (30, true) },
        { dst := some 35, op := .call (.f f_unicode_utf8_word_69) [(.t 34)], guard := some (30, true) },
        { dst := some 36, op := .bin .or (.t 32) (.t 35), guard := some (30, true) },
        { dst := some 37, op := .bin .and (.t 36) (.k (.sc (.int .u64 9259542123273814144))), guard := some (30, true) },
        { dst := some 38, op := .bin .eql (.t 37) (.k (.sc (.int .u64 0))), guard := some (30, true) },
        { dst := some 39, op := .pick (.t 30) (.t 38) (.k (.bool false)) }])
      (.cond (.t 39)
        (.seq (.reg [
          { dst := some 40, op := .mov (.t 0) },
          { dst := some 41, op := .sslice (.t 40) (some (.k (.int 16))) none },
          { dst := some 0, op := .mov (.t 41) }])
        (.block 2 (.loop (.seq (.seq (.drw 0 [
          { dst := some 42, op := .mov (.t 0) },
          { dst := some 43, op := .len true (.t 42) },
          { dst := some 44, op := .bin .gtr (.t 43) (.k (.int 32)) },
          { dst := some 45, op := .mov (.t 44) },
          { dst := some 46, op := .mov (.t 0), guard := some (45, true) },
          { dst := some 47, op := .call (.f f_unicode_utf8_word_69) [(.t 46)], guard := some (45, true) },
          { dst := some 48, op := .mov (.t 0), guard := some (45, true) },
          { dst := some 49, op := .sslice (.t 48) (some (.k (.int 8))) none, guard := some (45, true) },
          { dst := some 50, op := .call (.f f_unicode_utf8_word_69) [(.t 49)], guard := some (45, true) },
          { dst := some 51, op := .bin .or (.t 47) (.t 50), guard := some (45, true) },
          { dst := some 52, op := .mov (.t 0), guard := some (45, true) },
          { dst := some 53, op := .sslice (.t 52) (some (.k (.int 16))) none, guard := some (45, true) },
          { dst := some 54, op := .call (.f f_unicode_utf8_word_69) [(.t 53)], guard := some (45, true) },
          { dst := some 55, op := .mov (.t 0), guard := some (45, true) },
          { dst := some 56, op := .sslice (.t 55) (some (.k (.int 24))) none, guard := some (45, true) },
          { dst := some 57, op := .call (.f f_unicode_utf8_word_69) [(.t 56)], guard := some (45, true) },
          { dst := some 58, op := .bin .or (.t 54) (.t 57), guard := some (45, true) },
          { dst := some 59, op := .bin .or (.t 51) (.t 58), guard := some (45, true) },
          { dst := some 60, op := .bin .and (.t 59) (.k (.sc (.int .u64 9259542123273814144))), guard := some (45, true) },
          { dst := some 61, op := .bin .eql (.t 60) (.k (.sc (.int .u64 0))), guard := some (45, true) },
          { dst := some 62, op := .pick (.t 45) (.t 61) (.k (.bool false)) }])
        (.cond (.t 62)
          .skip
          (.exit 2)))
        (.block 3 (.reg [
          { dst := some 63, op := .mov (.t 0) },
          { dst := some 64, op := .sslice (.t 63) (some (.k (.int 32))) none },
          { dst := some 0, op := .mov (.t 64) }]))))))
        .skip)))
      .skip))
    (.exit 1)))
    .skip))
  (.seq (.reg [
    { dst := some 65, op := .mov (.t 3) },
    { dst := some 66, op := .aaddr ⟨1, 1⟩ 256 (.t 1000000) (.t 65) },
    { dst := some 67, op := .load 1 false (.t 66) },
    { dst := some 4, op := .mov (.t 67) }])
  (.seq (.reg [
    { dst := some 68, op := .mov (.t 4) },
    { dst := some 69, op := .bin .and (.t 68) (.k (.sc (.int .u8 7))) },
    { dst := some 70, op := .conv .i64 (.t 69) },
    { dst := some 5, op := .mov (.t 70) }])
  (.seq (.reg [
    { dst := some 71, op := .mov (.t 4) },
    { dst := some 72, op := .bin .shr (.t 71) (.k (.sc (.int .u64 4))) },
    { dst := some 73, op := .aaddr ⟨2, 2⟩ 16 (.t 1000001) (.t 72) },
    { dst := some 74, op := .load 2 true (.t 73) },
    { dst := some 6, op := .alloc ⟨2, 2⟩ [(.sc (.int .u8 0)), (.sc (.int .u8 0))] },
    { dst := none, op := .store 2 (.t 6) (.t 74) }])
  (.seq (.reg [
    { dst := some 75, op := .mov (.t 5) }])
  (.block 4 (.seq (.reg [
    { dst := some 77, op := .bin .eql (.t 75) (.k (.int 2)) },
    { dst := some 76, op := .mov (.t 77) }])
  (.cond (.t 76)
    (.seq (.seq (.drw 0 [
      { dst := some 78, op := .mov (.t 0) },
      { dst := some 79, op := .len true (.t 78) },
      { dst := some 80, op := .bin .lss (.t 79) (.k (.int 2)) },
      { dst := some 81, op := .mov (.t 80) },
      { dst := some 82, op := .mov (.t 0), guard := some (81, false) },
      { dst := some 83, op := .sidx (.t 82) (.k (.int 1)), guard := some (81, false) },
      { dst := some 84, op := .faddr 0 (.t 6), guard := some (81, false) },
      { dst := some 85, op := .load 1 false (.t 84), guard := some (81, false) },
      { dst := some 86, op := .bin .lss (.t 83) (.t 85), guard := some (81, false) },
      { dst := some 87, op := .pick (.t 81) (.k (.bool true)) (.t 86) },
      { dst := some 88, op := .mov (.t 87) },
      { dst := some 89, op := .faddr 1 (.t 6), guard := some (88, false) },
      { dst := some 90, op := .load 1 false (.t 89), guard := some (88, false) },
      { dst := some 91, op := .mov (.t 0), guard := some (88, false) },
      { dst := some 92, op := .sidx (.t 91) (.k (.int 1)), guard := some (88, false) },
      { dst := some 93, op := .bin .lss (.t 90) (.t 92), guard := some (88, false) },
      { dst := some 94, op := .pick (.t 88) (.k (.bool true)) (.t 93) }])
    (.cond (.t 94)
      (.seq (.reg [
        { dst := some 2, op := .mov (.k (.bool false)) }])
      .ret)
      .skip))
    (.reg [
      { dst := some 95, op := .mov (.t 0) },
      { dst := some 96, op := .sslice (.t 95) (some (.k (.int 2))) none },
      { dst := some 0, op := .mov (.t 96) }]))
    (.seq (.reg [
      { dst := some 98, op := .bin .eql (.t 75) (.k (.int 3)) },
      { dst := some 97, op := .mov (.t 98) }])
    (.cond (.t 97)
      (.seq (.seq (.drw 0 [
        { dst := some 99, op := .mov (.t 0) },
        { dst := some 100, op := .len true (.t 99) },
        { dst := some 101, op := .bin .lss (.t 100) (.k (.int 3)) },
        { dst := some 102, op := .mov (.t 101) },
        { dst := some 103, op := .mov (.t 0), guard := some (102, false) },
        { dst := some 104, op := .sidx (.t 103) (.k (.int 1)), guard := some (102, false) },
        { dst := some 105, op := .faddr 0 (.t 6), guard := some (102, false) },
        { dst := some 106, op := .load 1 false (.t 105), guard := some (102, false) },
        { dst := some 107, op := .bin .lss (.t 104) (.t 106), guard := some (102, false) },
        { dst := some 108, op := .pick (.t 102) (.k (.bool true)) (.t 107) },
        { dst := some 109, op := .mov (.t 108) },
        { dst := some 110, op := .faddr 1 (.t 6), guard := some (109, false) },
        { dst := some 111, op := .load 1 false (.t 110), guard := some (109, false) },
        { dst := some 112, op := .mov (.t 0), guard := some (109, false) },
        { dst := some 113, op := .sidx (.t 112) (.k (.int 1)), guard := some (109, false) },
        { dst := some 114, op := .bin .lss (.t 111) (.t 113), guard := some (109, false) },
        { dst := some 115, op := .pick (.t 109) (.k (.bool true)) (.t 114) },
        { dst := some 116, op := .mov (.t 115) },
        { dst := some 117, op := .mov (.t 0), guard := some (116, false) },
        { dst := some 118, op := .sidx (.t 117) (.k (.int 2)), guard := some (116, false) },
        { dst := some 119, op := .bin .lss (.t 118) (.k (.sc (.int .u8 128))), guard := some (116, false) },
        { dst := some 120, op := .pick (.t 116) (.k (.bool true)) (.t 119) },
        { dst := some 121, op := .mov (.t 120) },
        { dst := some 122, op := .mov (.t 0), guard := some (121, false) },
        { dst := some 123, op := .sidx (.t 122) (.k (.int 2)), guard := some (121, false) },
        { dst := some 124, op := .bin .lss (.k (.sc (.int .u8 191))) (.t 123), guard := some (121, false) },
        { dst := some 125, op := .pick (.t 121) (.k (.bool true)) (.t 124) }])
      (.cond (.t 125)
        (.seq (.reg [
          { dst := some 2, op := .mov (.k (.bool false)) }])
        .ret)
        .skip))
      (.reg [
        { dst := some 126, op := .mov (.t 0) },
        { dst := some 127, op := .sslice (.t 126) (some (.k (.int 3))) none },
        { dst := some 0, op := .mov (.t 127) }]))
      (.seq (.reg [
        { dst := some 129, op := .bin .eql (.t 75) (.k (.int 4)) },
        { dst := some 128, op := .mov (.t 129) }])
      (.cond (.t 128)
        (.seq (.seq (.drw 0 [
          { dst := some 130, op := .mov (.t 0) },
          { dst := some 131, op := .len true (.t 130) },
          { dst := some 132, op := .bin .lss (.t 131) (.k (.int 4)) },
          { dst := some 133, op := .mov (.t 132) },
          { dst := some 134, op := .mov (.t 0), guard := some (133, false) },
          { dst := some 135, op := .sidx (.t 134) (.k (.int 1)), guard := some (133, false) },
          { dst := some 136, op := .faddr 0 (.t 6), guard := some (133, false) },
          { dst := some 137, op := .load 1 false (.t 136), guard := some (133, false) },
          { dst := some 138, op := .bin .lss (.t 135) (.t 137), guard := some (133, false) },
          { dst := some 139, op := .pick (.t 133) (.k (.bool true)) (.t 138) },
          { dst := some 140, op := .mov (.t 139) },
          { dst := some 141, op := .faddr 1 (.t 6), guard := some (140, false) },
          { dst := some 142, op := .load 1 false (.t 141), guard := some (140, false) },
          { dst := some 143, op := .mov (.t 0), guard := some (140, false) },
          { dst := some 144, op := .sidx (.t 143) (.k (.int 1)), guard := some (140, false) },
          { dst := some 145, op := .bin .lss (.t 142) (.t 144), guard := some (140, false) },
          { dst := some 146, op := .pick (.t 140) (.k (.bool true)) (.t 145) },
          { dst := some 147, op := .mov (.t 146) },
          { dst := some 148, op := .mov (.t 0), guard := some (147, false) },
          { dst := some 149, op := .sidx (.t 148) (.k (.int 2)), guard := some (147, false) },
          { dst := some 150, op := .bin .lss (.t 149) (.k (.sc (.int .u8 128))), guard := some (147, false) },
          { dst := some 151, op := .pick (.t 147) (.k (.bool true)) (.t 150) },
          { dst := some 152, op := .mov (.t 151) },
          { dst := some 153, op := .mov (.t 0), guard := some (152, false) },
          { dst := some 154, op := .sidx (.t 153) (.k (.int 2)), guard := some (152, false) },
          { dst := some 155, op := .bin .lss (.k (.sc (.int .u8 191))) (.t 154), guard := some (152, false) },
          { dst := some 156, op := .pick (.t 152) (.k (.bool true)) (.t 155) },
          { dst := some 157, op := .mov (.t 156) },
          { dst := some 158, op := .mov (.t 0), guard := some (157, false) },
          { dst := some 159, op := .sidx (.t 158) (.k (.int 3)), guard := some (157, false) },
          { dst := some 160, op := .bin .lss (.t 159) (.k (.sc (.int .u8 128))), guard := some (157, false) },
          { dst := some 161, op := .pick (.t 157) (.k (.bool true)) (.t 160) },
          { dst := some 162, op := .mov (.t 161) },
          { dst := some 163, op := .mov (.t 0), guard := some (162, false) },
          { dst := some 164, op := .sidx (.t 163) (.k (.int 3)), guard := some (162, false) },
          { dst := some 165, op := .bin .lss (.k (.sc (.int .u8 191))) (.t 164), guard := some (162, false) },
          { dst := some 166, op := .pick (.t 162) (.k (.bool true)) (.t 165) }])
        (.cond (.t 166)
          (.seq (.reg [
            { dst := some 2, op := .mov (.k (.bool false)) }])
          .ret)
          .skip))
        (.reg [
          { dst := some 167, op := .mov (.t 0) },
          { dst := some 168, op := .sslice (.t 167) (some (.k (.int 4))) none },
          { dst := some 0, op := .mov (.t 168) }]))
        (.seq (.reg [
          { dst := some 2, op := .mov (.k (.bool false)) }])
        .ret))))))))))))))))))
  (.seq (.reg [
    { dst := some 2, op := .mov (.k (.bool true)) }])
  .ret)))

def x_ref01_Decode (f_ref01_limits f_ref01_value : FuncId) : XC :=
(.seq (.reg [
    { dst := some 4, op := .mov (.k .nil) },
    { dst := some 5, op := .mov (.k (.str ⟨#[]⟩)) }])
  (.seq (.reg [
    { dst := some 17, op := .mov (.t 0) },
    { dst := some 18, op := .mov (.t 1) },
    { dst := some 19, op := .bin .add (.t 17) (.t 18) },
    { dst := some 6, op := .mov (.t 19) }])
  (.seq (.reg [
    { dst := some 20, op := .bslice ⟨1, 4⟩ [(.sc (.int .i32 0))] 0 [] },
    { dst := some 7, op := .mov (.t 20) }])
  (.seq (.reg [
    { dst := some 21, op := .bslice ⟨1, 1⟩ [(.sc (.int .u8 0))] 0 [] },
    { dst := some 8, op := .mov (.t 21) }])
  (.seq (.seq (.reg [
    { dst := some 9, op := .mov (.k (.int 0)) }])
  (.block 0 (.loop (.seq (.seq (.reg [
    { dst := some 22, op := .mov (.t 9) },
    { dst := some 23, op := .mov (.t 6) },
    { dst := some 24, op := .len true (.t 23) },
    { dst := some 25, op := .bin .lss (.t 22) (.t 24) }])
  (.cond (.t 25)
    .skip
    (.exit 0)))
  (.block 1 (.seq (.reg [
    { dst := some 26, op := .mov (.t 6) },
    { dst := some 27, op := .mov (.t 9) },
    { dst := some 28, op := .sidx (.t 26) (.t 27) },
    { dst := some 10, op := .mov (.t 28) }])
  (.seq (.seq (.reg [
    { dst := some 29, op := .mov (.t 8) },
    { dst := some 30, op := .len false (.t 29) },
    { dst := some 31, op := .bin .eql (.t 30) (.k (.int 0)) }])
  (.cond (.t 31)
    (.seq (.reg [
      { dst := some 32, op := .mov (.t 9) },
      { dst := some 33, op := .bin .add (.t 32) (.k (.int 1)) },
      { dst := some 9, op := .mov (.t 33) }])
    (.seq (.reg [
      { dst := some 35, op := .mov (.t 10) },
      { dst := some 36, op := .bslice ⟨1, 1⟩ [(.sc (.int .u8 0))] 1 [(0, (.t 35))] },
      { dst := some 37, op := .calle (.f f_ref01_limits) [(.t 36)] },
      { dst := some 34, op := .mov (.t 37) },
      { dst := some 38, op := .extract 0 (.t 34) },
      { dst := some 39, op := .extract 1 (.t 34) },
      { dst := some 40, op := .extract 2 (.t 34) },
      { dst := some 11, op := .mov (.t 38) },
      { dst := some 12, op := .mov (.t 39) },
      { dst := some 13, op := .mov (.t 40) }])
    (.seq (.block 2 (.seq (.reg [
      { dst := some 45, op := .mov (.t 10) },
      { dst := some 46, op := .bin .lss (.t 45) (.k (.sc (.int .u8 128))) },
      { dst := some 44, op := .mov (.t 46) }])
    (.cond (.t 44)
      (.reg [
        { dst := some 47, op := .mov (.t 7) },
        { dst := some 48, op := .mov (.t 10) },
        { dst := some 49, op := .conv .i32 (.t 48) },
        { dst := some 50, op := .bslice ⟨1, 4⟩ [(.sc (.int .i32 0))] 1 [(0, (.t 49))] },
        { dst := some 51, op := .append ⟨1, 4⟩ (.t 47) (.t 50) },
        { dst := some 7, op := .mov (.t 51) }])
      (.seq (.reg [
        { dst := some 53, op := .mov (.t 13) },
        { dst := some 54, op := .bin .gtr (.t 53) (.k (.int 0)) },
        { dst := some 52, op := .mov (.t 54) }])
      (.cond (.t 52)
        (.reg [
          { dst := some 55, op := .mov (.t 8) },
          { dst := some 56, op := .mov (.t 10) },
          { dst := some 57, op := .bslice ⟨1, 1⟩ [(.sc (.int .u8 0))] 1 [(0, (.t 56))] },
          { dst := some 58, op := .append ⟨1, 1⟩ (.t 55) (.t 57) },
          { dst := some 8, op := .mov (.t 58) }])
        (.reg [
          { dst := some 41, op := .mov (.t 7) },
          { dst := some 42, op := .bslice ⟨1, 4⟩ [(.sc (.int .i32 0))] 1 [(0, (.k (.sc (.int .i32 65533))))] },
          { dst := some 43, op := .append ⟨1, 4⟩ (.t 41) (.t 42) },
          { dst := some 7, op := .mov (.t 43) }]))))))
    (.exit 1))))
    .skip))
  (.seq (.reg [
    { dst := some 60, op := .mov (.t 8) },
    { dst := some 61, op := .calle (.f f_ref01_limits) [(.t 60)] },
    { dst := some 59, op := .mov (.t 61) },
    { dst := some 62, op := .extract 0 (.t 59) },
    { dst := some 63, op := .extract 1 (.t 59) },
    { dst := some 64, op := .extract 2 (.t 59) },
    { dst := some 14, op := .mov (.t 62) },
    { dst := some 15, op := .mov (.t 63) },
    { dst := some 16, op := .mov (.t 64) }])
  (.seq (.seq (.reg [
    { dst := some 65, op := .mov (.t 10) },
    { dst := some 66, op := .mov (.t 14) },
    { dst := some 67, op := .bin .lss (.t 65) (.t 66) },
    { dst := some 68, op := .mov (.t 67) },
    { dst := some 69, op := .mov (.t 10), guard := some (68, false) },
    { dst := some 70, op := .mov (.t 15), guard := some (68, false) },
    { dst := some 71, op := .bin .gtr (.t 69) (.t 70), guard := some (68, false) },
    { dst := some 72, op := .pick (.t 68) (.k (.bool true)) (.t 71) }])
  (.cond (.t 72)
    (.seq (.reg [
      { dst := some 73, op := .mov (.t 7) },
      { dst := some 74, op := .bslice ⟨1, 4⟩ [(.sc (.int .i32 0))] 1 [(0, (.k (.sc (.int .i32 65533))))] },
      { dst := some 75, op := .append ⟨1, 4⟩ (.t 73) (.t 74) },
      { dst := some 7, op := .mov (.t 75) }])
    (.seq (.reg [
      { dst := some 76, op := .bslice ⟨1, 1⟩ [(.sc (.int .u8 0))] 0 [] },
      { dst := some 8, op := .mov (.t 76) }])
    (.exit 1)))
    .skip))
  (.seq (.reg [
    { dst := some 77, op := .mov (.t 9) },
    { dst := some 78, op := .bin .add (.t 77) (.k (.int 1)) },
    { dst := some 9, op := .mov (.t 78) }])
  (.seq (.reg [
    { dst := some 79, op := .mov (.t 8) },
    { dst := some 80, op := .mov (.t 10) },
    { dst := some 81, op := .bslice ⟨1, 1⟩ [(.sc (.int .u8 0))] 1 [(0, (.t 80))] },
    { dst := some 82, op := .append ⟨1, 1⟩ (.t 79) (.t 81) },
    { dst := some 8, op := .mov (.t 82) }])
  (.seq (.reg [
    { dst := some 83, op := .mov (.t 8) },
    { dst := some 84, op := .len false (.t 83) },
    { dst := some 85, op := .mov (.t 16) },
    { dst := some 86, op := .bin .eql (.t 84) (.t 85) }])
  (.cond (.t 86)
    (.seq (.reg [
      { dst := some 87, op := .mov (.t 7) },
      { dst := some 88, op := .mov (.t 8) },
      { dst := some 89, op := .calle (.f f_ref01_value) [(.t 88)] },
      { dst := some 90, op := .bslice ⟨1, 4⟩ [(.sc (.int .i32 0))] 1 [(0, (.t 89))] },
      { dst := some 91, op := .append ⟨1, 4⟩ (.t 87) (.t 90) },
      { dst := some 7, op := .mov (.t 91) }])
    (.reg [
      { dst := some 92, op := .bslice ⟨1, 1⟩ [(.sc (.int .u8 0))] 0 [] },
      { dst := some 8, op := .mov (.t 92) }]))
    .skip)))))))))))))
  (.seq (.drw 0 [
    { dst := some 93, op := .mov (.t 7) },
    { dst := some 94, op := .mov (.t 8) },
    { dst := some 95, op := .b2s (.t 94) },
    { dst := some 4, op := .mov (.t 93) },
    { dst := some 5, op := .mov (.t 95) }])
  .ret))))))

def x_ref01_Encode : XC :=
(.seq (.reg [
    { dst := some 2, op := .mov (.k (.str ⟨#[]⟩)) }])
  (.seq (.reg [
    { dst := some 6, op := .bslice ⟨1, 1⟩ [(.sc (.int .u8 0))] 0 [] },
    { dst := some 3, op := .mov (.t 6) }])
  (.seq (.seq (.reg [
    { dst := some 4, op := .mov (.k (.int 0)) }])
  (.block 0 (.loop (.seq (.seq (.reg [
    { dst := some 7, op := .mov (.t 4) },
    { dst := some 8, op := .mov (.t 0) },
    { dst := some 9, op := .len false (.t 8) },
    { dst := some 10, op := .bin .lss (.t 7) (.t 9) }])
  (.cond (.t 10)
    .skip
    (.exit 0)))
  (.seq (.block 1 (.seq (.reg [
    { dst := some 13, op := .mov (.t 0) },
    { dst := some 14, op := .mov (.t 4) },
    { dst := some 15, op := .iaddr ⟨1, 4⟩ (.t 13) (.t 14) },
    { dst := some 16, op := .load 1 false (.t 15) },
    { dst := some 5, op := .mov (.t 16) }])
  (.seq (.seq (.reg [
    { dst := some 17, op := .mov (.t 5) },
    { dst := some 18, op := .bin .lss (.t 17) (.k (.sc (.int .i32 0))) },
    { dst := some 19, op := .mov (.t 18) },
    { dst := some 20, op := .mov (.t 5), guard := some (19, false) },
    { dst := some 21, op := .bin .gtr (.t 20) (.k (.sc (.int .i32 1114111))), guard := some (19, false) },
    { dst := some 22, op := .pick (.t 19) (.k (.bool true)) (.t 21) },
    { dst := some 23, op := .mov (.t 22) },
    { dst := some 24, op := .mov (.t 5), guard := some (23, false) },
    { dst := some 25, op := .bin .geq (.t 24) (.k (.sc (.int .i32 55296))), guard := some (23, false) },
    { dst := some 26, op := .mov (.t 25), guard := some (23, false) },
    { dst := some 27, op := .mov (.t 5), guard := some (26, true) },
    { dst := some 28, op := .bin .leq (.t 27) (.k (.sc (.int .i32 57343))), guard := some (26, true) },
    { dst := some 29, op := .pick (.t 26) (.t 28) (.k (.bool false)), guard := some (23, false) },
    { dst := some 30, op := .pick (.t 23) (.k (.bool true)) (.t 29) }])
  (.cond (.t 30)
    (.reg [
      { dst := some 5, op := .mov (.k (.sc (.int .i32 65533))) }])
    .skip))
  (.block 2 (.seq (.reg [
    { dst := some 53, op := .mov (.t 5) },
    { dst := some 54, op := .bin .lss (.t 53) (.k (.sc (.int .i32 128))) },
    { dst := some 52, op := .mov (.t 54) }])
  (.cond (.t 52)
    (.reg [
      { dst := some 55, op := .mov (.t 3) },
      { dst := some 56, op := .mov (.t 5) },
      { dst := some 57, op := .conv .u8 (.t 56) },
      { dst := some 58, op := .bslice ⟨1, 1⟩ [(.sc (.int .u8 0))] 1 [(0, (.t 57))] },
      { dst := some 59, op := .append ⟨1, 1⟩ (.t 55) (.t 58) },
      { dst := some 3, op := .mov (.t 59) }])
    (.seq (.reg [
      { dst := some 61, op := .mov (.t 5) },
      { dst := some 62, op := .bin .lss (.t 61) (.k (.sc (.int .i32 2048))) },
      { dst := some 60, op := .mov (.t 62) }])
    (.cond (.t 60)
      (.reg [
        { dst := some 63, op := .mov (.t 3) },
        { dst := some 64, op := .mov (.t 5) },
        { dst := some 65, op := .bin .quo (.t 64) (.k (.sc (.int .i32 64))) },
        { dst := some 66, op := .bin .add (.k (.sc (.int .i32 192))) (.t 65) },
        { dst := some 67, op := .conv .u8 (.t 66) },
        { dst := some 68, op := .mov (.t 5) },
        { dst := some 69, op := .bin .rem (.t 68) (.k (.sc (.int .i32 64))) },
        { dst := some 70, op := .bin .add (.k (.sc (.int .i32 128))) (.t 69) },
        { dst := some 71, op := .conv .u8 (.t 70) },
        { dst := some 72, op := .bslice ⟨1, 1⟩ [(.sc (.int .u8 0))] 2 [(0, (.t 67)), (1, (.t 71))] },
        { dst := some 73, op := .append ⟨1, 1⟩ (.t 63) (.t 72) },
        { dst := some 3, op := .mov (.t 73) }])
      (.seq (.reg [
        { dst := some 75, op := .mov (.t 5) },
        { dst := some 76, op := .bin .lss (.t 75) (.k (.sc (.int .i32 65536))) },
        { dst := some 74, op := .mov (.t 76) }])
      (.cond (.t 74)
        (.reg [
          { dst := some 77, op := .mov (.t 3) },
          { dst := some 78, op := .mov (.t 5) },
          { dst := some 79, op := .bin .quo (.t 78) (.k (.sc (.int .i32 4096))) },
          { dst := some 80, op := .bin .add (.k (.sc (.int .i32 224))) (.t 79) },
          { dst := some 81, op := .conv .u8 (.t 80) },
          { dst := some 82, op := .mov (.t 5) },
          { dst := some 83, op := .bin .quo (.t 82) (.k (.sc (.int .i32 64))) },
          { dst := some 84, op := .bin .rem (.t 83) (.k (.sc (.int .i32 64))) },
          { dst := some 85, op := .bin .add (.k (.sc (.int .i32 128))) (.t 84) },
          { dst := some 86, op := .conv .u8 (.t 85) },
          { dst := some 87, op := .mov (.t 5) },
          { dst := some 88, op := .bin .rem (.t 87) (.k (.sc (.int .i32 64))) },
          { dst := some 89, op := .bin .add (.k (.sc (.int .i32 128))) (.t 88) },
          { dst := some 90, op := .conv .u8 (.t 89) },
          { dst := some 91, op := .bslice ⟨1, 1⟩ [(.sc (.int .u8 0))] 3 [(0, (.t 81)), (1, (.t 86)), (2, (.t 90))] },
          { dst := some 92, op := .append ⟨1, 1⟩ (.t 77) (.t 91) },
          { dst := some 3, op := .mov (.t 92) }])
        (.reg [
          { dst := some 31, op := .mov (.t 3) },
          { dst := some 32, op := .mov (.t 5) },
          { dst := some 33, op := .bin .quo (.t 32) (.k (.sc (.int .i32 262144))) },
          { dst := some 34, op := .bin .add (.k (.sc (.int .i32 240))) (.t 33) },
          { dst := some 35, op := .conv .u8 (.t 34) },
          { dst := some 36, op := .mov (.t 5) },
          { dst := some 37, op := .bin .quo (.t 36) (.k (.sc (.int .i32 4096))) },
          { dst := some 38, op := .bin .rem (.t 37) (.k (.sc (.int .i32 64))) },
          { dst := some 39, op := .bin .add (.k (.sc (.int .i32 128))) (.t 38) },
          { dst := some 40, op := .conv .u8 (.t 39) },
          { dst := some 41, op := .mov (.t 5) },
          { dst := some 42, op := .bin .quo (.t 41) (.k (.sc (.int .i32 64))) },
          { dst := some 43, op := .bin .rem (.t 42) (.k (.sc (.int .i32 64))) },
          { dst := some 44, op := .bin .add (.k (.sc (.int .i32 128))) (.t 43) },
          { dst := some 45, op := .conv .u8 (.t 44) },
          { dst := some 46, op := .mov (.t 5) },
          { dst := some 47, op := .bin .rem (.t 46) (.k (.sc (.int .i32 64))) },
          { dst := some 48, op := .bin .add (.k (.sc (.int .i32 128))) (.t 47) },
          { dst := some 49, op := .conv .u8 (.t 48) },
          { dst := some 50, op := .bslice ⟨1, 1⟩ [(.sc (.int .u8 0))] 4 [(0, (.t 35)), (1, (.t 40)), (2, (.t 45)), (3, (.t 49))] },
          { dst := some 51, op := .append ⟨1, 1⟩ (.t 31) (.t 50) },
          { dst := some 3, op := .mov (.t 51) }])))))))))))
  (.reg [
    { dst := some 11, op := .mov (.t 4) },
    { dst := some 12, op := .bin .add (.t 11) (.k (.int 1)) },
    { dst := some 4, op := .mov (.t 12) }]))))))
  (.seq (.reg [
    { dst := some 93, op := .mov (.t 3) },
    { dst := some 94, op := .b2s (.t 93) },
    { dst := some 2, op := .mov (.t 94) }])
  .ret))))

def x_ref02_in : XC :=
(.seq (.reg [
    { dst := some 4, op := .mov (.k (.bool false)) }])
  (.seq (.seq (.reg [
    { dst := some 5, op := .mov (.k (.int 0)) }])
  (.block 0 (.loop (.seq (.seq (.reg [
    { dst := some 6, op := .mov (.t 5) },
    { dst := some 7, op := .mov (.t 0) },
    { dst := some 8, op := .len false (.t 7) },
    { dst := some 9, op := .bin .lss (.t 6) (.t 8) }])
  (.cond (.t 9)
    .skip
    (.exit 0)))
  (.seq (.block 1 (.seq (.reg [
    { dst := some 12, op := .mov (.t 1) },
    { dst := some 13, op := .mov (.t 0) },
    { dst := some 14, op := .mov (.t 5) },
    { dst := some 15, op := .iaddr ⟨2, 8⟩ (.t 13) (.t 14) },
    { dst := some 16, op := .aaddr ⟨1, 4⟩ 2 (.t 15) (.k (.int 0)) },
    { dst := some 17, op := .load 1 false (.t 16) },
    { dst := some 18, op := .bin .geq (.t 12) (.t 17) },
    { dst := some 19, op := .mov (.t 18) },
    { dst := some 20, op := .mov (.t 1), guard := some (19, true) },
    { dst := some 21, op := .mov (.t 0), guard := some (19, true) },
    { dst := some 22, op := .mov (.t 5), guard := some (19, true) },
    { dst := some 23, op := .iaddr ⟨2, 8⟩ (.t 21) (.t 22), guard := some (19, true) },
    { dst := some 24, op := .aaddr ⟨1, 4⟩ 2 (.t 23) (.k (.int 1)), guard := some (19, true) },
    { dst := some 25, op := .load 1 false (.t 24), guard := some (19, true) },
    { dst := some 26, op := .bin .leq (.t 20) (.t 25), guard := some (19, true) },
    { dst := some 27, op := .pick (.t 19) (.t 26) (.k (.bool false)) }])
  (.cond (.t 27)
    (.seq (.reg [
      { dst := some 4, op := .mov (.k (.bool true)) }])
    .ret)
    .skip)))
  (.reg [
    { dst := some 10, op := .mov (.t 5) },
    { dst := some 11, op := .bin .add (.t 10) (.k (.int 1)) },
    { dst := some 5, op := .mov (.t 11) }]))))))
  (.seq (.reg [
    { dst := some 4, op := .mov (.k (.bool false)) }])
  .ret)))

def x_ref02_Marks : XC :=
(.seq (.reg [
    { dst := some 0, op := .mov (.k .nil) }])
  (.seq (.reg [
    { dst := some 1, op := .build [(.sc (.int .i32 0)), (.sc (.int .i32 0))] [(0, 1, (.k (.sc (.int .i32 768)))), (1, 1, (.k (.sc (.int .i32 879))))] },
    { dst := some 2, op := .build [(.sc (.int .i32 0)), (.sc (.int .i32 0))] [(0, 1, (.k (.sc (.int .i32 6832)))), (1, 1, (.k (.sc (.int .i32 6911))))] },
    { dst := some 3, op := .build [(.sc (.int .i32 0)), (.sc (.int .i32 0))] [(0, 1, (.k (.sc (.int .i32 7616)))), (1, 1, (.k (.sc (.int .i32 7679))))] },
    { dst := some 4, op := .build [(.sc (.int .i32 0)), (.sc (.int .i32 0))] [(0, 1, (.k (.sc (.int .i32 8203)))), (1, 1, (.k (.sc (.int .i32 8207))))] },
    { dst := some 5, op := .build [(.sc (.int .i32 0)), (.sc (.int .i32 0))] [(0, 1, (.k (.sc (.int .i32 8400)))), (1, 1, (.k (.sc (.int .i32 8447))))] },
    { dst := some 6, op := .build [(.sc (.int .i32 0)), (.sc (.int .i32 0))] [(0, 1, (.k (.sc (.int .i32 65024)))), (1, 1, (.k (.sc (.int .i32 65039))))] },
    { dst := some 7, op := .build [(.sc (.int .i32 0)), (.sc (.int .i32 0))] [(0, 1, (.k (.sc (.int .i32 65056)))), (1, 1, (.k (.sc (.int .i32 65071))))] },
    { dst := some 8, op := .bslice ⟨2, 8⟩ [(.sc (.int .i32 0)), (.sc (.int .i32 0))] 7 [(0, (.t 1)), (1, (.t 2)), (2, (.t 3)), (3, (.t 4)), (4, (.t 5)), (5, (.t 6)), (6, (.t 7))] },
    { dst := some 0, op := .mov (.t 8) }])
  .ret))

def x_ref02_Wide : XC :=
(.seq (.reg [
    { dst := some 0, op := .mov (.k .nil) }])
  (.seq (.reg [
    { dst := some 1, op := .build [(.sc (.int .i32 0)), (.sc (.int .i32 0))] [(0, 1, (.k (.sc (.int .i32 4352)))), (1, 1, (.k (.sc (.int .i32 4447))))] },
    { dst := some 2, op := .build [(.sc (.int .i32 0)), (.sc (.int .i32 0))] [(0, 1, (.k (.sc (.int .i32 11904)))), (1, 1, (.k (.sc (.int .i32 12350))))] },
    { dst := some 3, op := .build [(.sc (.int .i32 0)), (.sc (.int .i32 0))] [(0, 1, (.k (.sc (.int .i32 12353)))), (1, 1, (.k (.sc (.int .i32 13311))))] },
    { dst := some 4, op := .build [(.sc (.int .i32 0)), (.sc (.int .i32 0))] [(0, 1, (.k (.sc (.int .i32 13312)))), (1, 1, (.k (.sc (.int .i32 19903))))] },
    { dst := some 5, op := .build [(.sc (.int .i32 0)), (.sc (.int .i32 0))] [(0, 1, (.k (.sc (.int .i32 19968)))), (1, 1, (.k (.sc (.int .i32 40959))))] },
    { dst := some 6, op := .build [(.sc (.int .i32 0)), (.sc (.int .i32 0))] [(0, 1, (.k (.sc (.int .i32 40960)))), (1, 1, (.k (.sc (.int .i32 42191))))] },
    { dst := some 7, op := .build [(.sc (.int .i32 0)), (.sc (.int .i32 0))] [(0, 1, (.k (.sc (.int .i32 44032)))), (1, 1, (.k (.sc (.int .i32 55203))))] },
    { dst := some 8, op := .build [(.sc (.int .i32 0)), (.sc (.int .i32 0))] [(0, 1, (.k (.sc (.int .i32 63744)))), (1, 1, (.k (.sc (.int .i32 64255))))] },
    { dst := some 9, op := .build [(.sc (.int .i32 0)), (.sc (.int .i32 0))] [(0, 1, (.k (.sc (.int .i32 65072)))), (1, 1, (.k (.sc (.int .i32 65135))))] },
    { dst := some 10, op := .build [(.sc (.int .i32 0)), (.sc (.int .i32 0))] [(0, 1, (.k (.sc (.int .i32 65280)))), (1, 1, (.k (.sc (.int .i32 65376))))] },
    { dst := some 11, op := .build [(.sc (.int .i32 0)), (.sc (.int .i32 0))] [(0, 1, (.k (.sc (.int .i32 65504)))), (1, 1, (.k (.sc (.int .i32 65510))))] },
    { dst := some 12, op := .build [(.sc (.int .i32 0)), (.sc (.int .i32 0))] [(0, 1, (.k (.sc (.int .i32 127744)))), (1, 1, (.k (.sc (.int .i32 128591))))] },
    { dst := some 13, op := .build [(.sc (.int .i32 0)), (.sc (.int .i32 0))] [(0, 1, (.k (.sc (.int .i32 129280)))), (1, 1, (.k (.sc (.int .i32 129535))))] },
    { dst := some 14, op := .build [(.sc (.int .i32 0)), (.sc (.int .i32 0))] [(0, 1, (.k (.sc (.int .i32 131072)))), (1, 1, (.k (.sc (.int .i32 262141))))] },
    { dst := some 15, op := .bslice ⟨2, 8⟩ [(.sc (.int .i32 0)), (.sc (.int .i32 0))] 14 [(0, (.t 1)), (1, (.t 2)), (2, (.t 3)), (3, (.t 4)), (4, (.t 5)), (5, (.t 6)), (6, (.t 7)), (7, (.t 8)), (8, (.t 9)), (9, (.t 10)), (10, (.t 11)), (11, (.t 12)), (12, (.t 13)), (13, (.t 14))] },
    { dst := some 0, op := .mov (.t 15) }])
  .ret))

def x_unicode_utf8_word_69 : XC :=
(.seq (.reg [
    { dst := some 2, op := .mov (.k (.sc (.int .u64 0))) }])
  (.seq (.cond (.k (.bool false))
    (.seq (.drw 0 [
      { dst := some 3, op := .mov (.t 0) },
      { dst := some 4, op := .sidx (.t 3) (.k (.int 0)) },
      { dst := some 5, op := .conv .u64 (.t 4) },
      { dst := some 6, op := .mov (.t 0) },
      { dst := some 7, op := .sidx (.t 6) (.k (.int 1)) },
      { dst := some 8, op := .conv .u64 (.t 7) },
      { dst := some 9, op := .bin .shl (.t 8) (.k (.sc (.int .u64 8))) },
      { dst := some 10, op := .bin .or (.t 5) (.t 9) },
      { dst := some 11, op := .mov (.t 0) },
      { dst := some 12, op := .sidx (.t 11) (.k (.int 2)) },
      { dst := some 13, op := .conv .u64 (.t 12) },
      { dst := some 14, op := .bin .shl (.t 13) (.k (.sc (.int .u64 16))) },
      { dst := some 15, op := .bin .or (.t 10) (.t 14) },
      { dst := some 16, op := .mov (.t 0) },
      { dst := some 17, op := .sidx (.t 16) (.k (.int 3)) },
      { dst := some 18, op := .conv .u64 (.t 17) },
      { dst := some 19, op := .bin .shl (.t 18) (.k (.sc (.int .u64 24))) },
      { dst := some 20, op := .bin .or (.t 15) (.t 19) },
      { dst := some 2, op := .mov (.t 20) }])
    .ret)
    .skip)
  (.seq (.drw 0 [
    { dst := some 21, op := .mov (.t 0) },
    { dst := some 22, op := .sidx (.t 21) (.k (.int 0)) },
    { dst := some 23, op := .conv .u64 (.t 22) },
    { dst := some 24, op := .mov (.t 0) },
    { dst := some 25, op := .sidx (.t 24) (.k (.int 1)) },
    { dst := some 26, op := .conv .u64 (.t 25) },
    { dst := some 27, op := .bin .shl (.t 26) (.k (.sc (.int .u64 8))) },
    { dst := some 28, op := .bin .or (.t 23) (.t 27) },
    { dst := some 29, op := .mov (.t 0) },
    { dst := some 30, op := .sidx (.t 29) (.k (.int 2)) },
    { dst := some 31, op := .conv .u64 (.t 30) },
    { dst := some 32, op := .bin .shl (.t 31) (.k (.sc (.int .u64 16))) },
    { dst := some 33, op := .bin .or (.t 28) (.t 32) },
    { dst := some 34, op := .mov (.t 0) },
    { dst := some 35, op := .sidx (.t 34) (.k (.int 3)) },
    { dst := some 36, op := .conv .u64 (.t 35) },
    { dst := some 37, op := .bin .shl (.t 36) (.k (.sc (.int .u64 24))) },
    { dst := some 38, op := .bin .or (.t 33) (.t 37) },
    { dst := some 39, op := .mov (.t 0) },
    { dst := some 40, op := .sidx (.t 39) (.k (.int 4)) },
    { dst := some 41, op := .conv .u64 (.t 40) },
    { dst := some 42, op := .bin .shl (.t 41) (.k (.sc (.int .u64 32))) },
    { dst := some 43, op := .bin .or (.t 38) (.t 42) },
    { dst := some 44, op := .mov (.t 0) },
    { dst := some 45, op := .sidx (.t 44) (.k (.int 5)) },
    { dst := some 46, op := .conv .u64 (.t 45) },
    { dst := some 47, op := .bin .shl (.t 46) (.k (.sc (.int .u64 40))) },
    { dst := some 48, op := .bin .or (.t 43) (.t 47) },
    { dst := some 49, op := .mov (.t 0) },
    { dst := some 50, op := .sidx (.t 49) (.k (.int 6)) },
    { dst := some 51, op := .conv .u64 (.t 50) },
    { dst := some 52, op := .bin .shl (.t 51) (.k (.sc (.int .u64 48))) },
    { dst := some 53, op := .bin .or (.t 48) (.t 52) },
    { dst := some 54, op := .mov (.t 0) },
    { dst := some 55, op := .sidx (.t 54) (.k (.int 7)) },
    { dst := some 56, op := .conv .u64 (.t 55) },
    { dst := some 57, op := .bin .shl (.t 56) (.k (.sc (.int .u64 56))) },
    { dst := some 58, op := .bin .or (.t 53) (.t 57) },
    { dst := some 2, op := .mov (.t 58) }])
  .ret)))

def x_ref01_limits : XC :=
(.seq (.reg [
    { dst := some 2, op := .mov (.k (.sc (.int .u8 0))) },
    { dst := some 3, op := .mov (.k (.sc (.int .u8 0))) },
    { dst := some 4, op := .mov (.k (.int 0)) }])
  (.seq (.seq (.reg [
    { dst := some 8, op := .mov (.t 0) },
    { dst := some 9, op := .len false (.t 8) },
    { dst := some 10, op := .bin .eql (.t 9) (.k (.int 0)) }])
  (.cond (.t 10)
    (.seq (.reg [
      { dst := some 2, op := .mov (.k (.sc (.int .u8 0))) },
      { dst := some 3, op := .mov (.k (.sc (.int .u8 255))) },
      { dst := some 4, op := .mov (.k (.int 0)) }])
    .ret)
    .skip))
  (.seq (.reg [
    { dst := some 5, op := .mov (.k (.int 0)) }])
  (.seq (.block 0 (.seq (.reg [
    { dst := some 12, op := .mov (.t 0) },
    { dst := some 13, op := .iaddr ⟨1, 1⟩ (.t 12) (.k (.int 0)) },
    { dst := some 14, op := .load 1 false (.t 13) },
    { dst := some 15, op := .bin .geq (.t 14) (.k (.sc (.int .u8 194))) },
    { dst := some 16, op := .mov (.t 15) },
    { dst := some 17, op := .mov (.t 0), guard := some (16, true) },
    { dst := some 18, op := .iaddr ⟨1, 1⟩ (.t 17) (.k (.int 0)), guard := some (16, true) },
    { dst := some 19, op := .load 1 false (.t 18), guard := some (16, true) },
    { dst := some 20, op := .bin .leq (.t 19) (.k (.sc (.int .u8 223))), guard := some (16, true) },
    { dst := some 21, op := .pick (.t 16) (.t 20) (.k (.bool false)) },
    { dst := some 11, op := .mov (.t 21) }])
  (.cond (.t 11)
    (.reg [
      { dst := some 5, op := .mov (.k (.int 2)) }])
    (.seq (.reg [
      { dst := some 23, op := .mov (.t 0) },
      { dst := some 24, op := .iaddr ⟨1, 1⟩ (.t 23) (.k (.int 0)) },
      { dst := some 25, op := .load 1 false (.t 24) },
      { dst := some 26, op := .bin .geq (.t 25) (.k (.sc (.int .u8 224))) },
      { dst := some 27, op := .mov (.t 26) },
      { dst := some 28, op := .mov (.t 0), guard := some (27, true) },
      { dst := some 29, op := .iaddr ⟨1, 1⟩ (.t 28) (.k (.int 0)), guard := some (27, true) },
      { dst := some 30, op := .load 1 false (.t 29), guard := some (27, true) },
      { dst := some 31, op := .bin .leq (.t 30) (.k (.sc (.int .u8 239))), guard := some (27, true) },
      { dst := some 32, op := .pick (.t 27) (.t 31) (.k (.bool false)) },
      { dst := some 22, op := .mov (.t 32) }])
    (.cond (.t 22)
      (.reg [
        { dst := some 5, op := .mov (.k (.int 3)) }])
      (.seq (.reg [
        { dst := some 34, op := .mov (.t 0) },
        { dst := some 35, op := .iaddr ⟨1, 1⟩ (.t 34) (.k (.int 0)) },
        { dst := some 36, op := .load 1 false (.t 35) },
        { dst := some 37, op := .bin .geq (.t 36) (.k (.sc (.int .u8 240))) },
        { dst := some 38, op := .mov (.t 37) },
        { dst := some 39, op := .mov (.t 0), guard := some (38, true) },
        { dst := some 40, op := .iaddr ⟨1, 1⟩ (.t 39) (.k (.int 0)), guard := some (38, true) },
        { dst := some 41, op := .load 1 false (.t 40), guard := some (38, true) },
        { dst := some 42, op := .bin .leq (.t 41) (.k (.sc (.int .u8 244))), guard := some (38, true) },
        { dst := some 43, op := .pick (.t 38) (.t 42) (.k (.bool false)) },
        { dst := some 33, op := .mov (.t 43) }])
      (.cond (.t 33)
        (.reg [
          { dst := some 5, op := .mov (.k (.int 4)) }])
        .skip)))))))
  (.seq (.reg [
    { dst := some 6, op := .mov (.k (.sc (.int .u8 128))) },
    { dst := some 7, op := .mov (.k (.sc (.int .u8 191))) }])
  (.seq (.seq (.reg [
    { dst := some 44, op := .mov (.t 0) },
    { dst := some 45, op := .len false (.t 44) },
    { dst := some 46, op := .bin .eql (.t 45) (.k (.int 1)) }])
  (.cond (.t 46)
    (.seq (.reg [
      { dst := some 47, op := .mov (.t 0) },
      { dst := some 48, op := .iaddr ⟨1, 1⟩ (.t 47) (.k (.int 0)) },
      { dst := some 49, op := .load 1 false (.t 48) }])
    (.block 1 (.seq (.reg [
      { dst := some 51, op := .bin .eql (.t 49) (.k (.sc (.int .u8 224))) },
      { dst := some 50, op := .mov (.t 51) }])
    (.cond (.t 50)
      (.reg [
        { dst := some 6, op := .mov (.k (.sc (.int .u8 160))) }])
      (.seq (.reg [
        { dst := some 53, op := .bin .eql (.t 49) (.k (.sc (.int .u8 237))) },
        { dst := some 52, op := .mov (.t 53) }])
      (.cond (.t 52)
        (.reg [
          { dst := some 7, op := .mov (.k (.sc (.int .u8 159))) }])
        (.seq (.reg [
          { dst := some 55, op := .bin .eql (.t 49) (.k (.sc (.int .u8 240))) },
          { dst := some 54, op := .mov (.t 55) }])
        (.cond (.t 54)
          (.reg [
            { dst := some 6, op := .mov (.k (.sc (.int .u8 144))) }])
          (.seq (.reg [
            { dst := some 57, op := .bin .eql (.t 49) (.k (.sc (.int .u8 244))) },
            { dst := some 56, op := .mov (.t 57) }])
          (.cond (.t 56)
            (.reg [
              { dst := some 7, op := .mov (.k (.sc (.int .u8 143))) }])
            .skip))))))))))
    .skip))
  (.seq (.reg [
    { dst := some 58, op := .mov (.t 6) },
    { dst := some 59, op := .mov (.t 7) },
    { dst := some 60, op := .mov (.t 5) },
    { dst := some 2, op := .mov (.t 58) },
    { dst := some 3, op := .mov (.t 59) },
    { dst := some 4, op := .mov (.t 60) }])
  .ret)))))))

def x_ref01_value : XC :=
(.seq (.reg [
    { dst := some 2, op := .mov (.k (.sc (.int .i32 0))) }])
  (.seq (.reg [
    { dst := some 3, op := .mov (.k (.sc (.int .i32 0))) }])
  (.seq (.seq (.reg [
    { dst := some 5, op := .mov (.t 0) },
    { dst := some 6, op := .len false (.t 5) }])
  (.block 0 (.seq (.reg [
    { dst := some 8, op := .bin .eql (.t 6) (.k (.int 2)) },
    { dst := some 7, op := .mov (.t 8) }])
  (.cond (.t 7)
    (.reg [
      { dst := some 9, op := .mov (.t 0) },
      { dst := some 10, op := .iaddr ⟨1, 1⟩ (.t 9) (.k (.int 0)) },
      { dst := some 11, op := .load 1 false (.t 10) },
      { dst := some 12, op := .conv .i32 (.t 11) },
      { dst := some 13, op := .bin .sub (.t 12) (.k (.sc (.int .i32 192))) },
      { dst := some 3, op := .mov (.t 13) }])
    (.seq (.reg [
      { dst := some 15, op := .bin .eql (.t 6) (.k (.int 3)) },
      { dst := some 14, op := .mov (.t 15) }])
    (.cond (.t 14)
      (.reg [
        { dst := some 16, op := .mov (.t 0) },
        { dst := some 17, op := .iaddr ⟨1, 1⟩ (.t 16) (.k (.int 0)) },
        { dst := some 18, op := .load 1 false (.t 17) },
        { dst := some 19, op := .conv .i32 (.t 18) },
        { dst := some 20, op := .bin .sub (.t 19) (.k (.sc (.int .i32 224))) },
        { dst := some 3, op := .mov (.t 20) }])
      (.seq (.reg [
        { dst := some 22, op := .bin .eql (.t 6) (.k (.int 4)) },
        { dst := some 21, op := .mov (.t 22) }])
      (.cond (.t 21)
        (.reg [
          { dst := some 23, op := .mov (.t 0) },
          { dst := some 24, op := .iaddr ⟨1, 1⟩ (.t 23) (.k (.int 0)) },
          { dst := some 25, op := .load 1 false (.t 24) },
          { dst := some 26, op := .conv .i32 (.t 25) },
          { dst := some 27, op := .bin .sub (.t 26) (.k (.sc (.int .i32 240))) },
          { dst := some 3, op := .mov (.t 27) }])
        .skip))))))))
  (.seq (.seq (.reg [
    { dst := some 4, op := .mov (.k (.int 1)) }])
  (.block 1 (.loop (.seq (.seq (.reg [
    { dst := some 28, op := .mov (.t 4) },
    { dst := some 29, op := .mov (.t 0) },
    { dst := some 30, op := .len false (.t 29) },
    { dst := some 31, op := .bin .lss (.t 28) (.t 30) }])
  (.cond (.t 31)
    .skip
    (.exit 1)))
  (.seq (.block 2 (.reg [
    { dst := some 34, op := .mov (.t 3) },
    { dst := some 35, op := .bin .mul (.t 34) (.k (.sc (.int .i32 64))) },
    { dst := some 36, op := .mov (.t 0) },
    { dst := some 37, op := .mov (.t 4) },
    { dst := some 38, op := .iaddr ⟨1, 1⟩ (.t 36) (.t 37) },
    { dst := some 39, op := .load 1 false (.t 38) },
    { dst := some 40, op := .conv .i32 (.t 39) },
    { dst := some 41, op := .bin .add (.t 35) (.t 40) },
    { dst := some 42, op := .bin .sub (.t 41) (.k (.sc (.int .i32 128))) },
    { dst := some 3, op := .mov (.t 42) }]))
  (.reg [
    { dst := some 32, op := .mov (.t 4) },
    { dst := some 33, op := .bin .add (.t 32) (.k (.int 1)) },
    { dst := some 4, op := .mov (.t 33) }]))))))
  (.seq (.reg [
    { dst := some 43, op := .mov (.t 3) },
    { dst := some 2, op := .mov (.t 43) }])
  .ret)))))

end Go.Proofs.YtmagahmklndcgaaDoor.Nx
