import Derived.Test.YtlllnjhgjijnkaaGreatDoorNxD15
set_option linter.all false
namespace Go.Proofs.YtlllnjhgjijnkaaGreatDoor.Nx
open Go
def mU(f0 f1 f2 f3 f4 f5 f6 f7 f8:FuncId):XC :=
(.seq (.reg [
  oW 2 false])
 (.seq (.seq (.reg [
  oM 11 0,
  oE 12 11,
  oK 13 .eql 12 0,
  oM 14 13,
  oV (oM 15 0) 14,
  oV (oC 16 f0 15) 14,
  oV (oY 17 16) 14,
  oU 18 14 17])
 (.cond (.t 18)
  (.seq (.reg [
   oP 19 (.call (.f f1) []),
   oM 2 19])
  .ret)
  .skip))
 (.seq (.drw 2 [
  oM 20 0,
  oP 21 (.iaddr ⟨7,72⟩ (.t 20) (.k (.int 0))),
  oF 22 0 21,
  oL 23 6 22,
  oM 24 0,
  oP 25 (.iaddr ⟨7,72⟩ (.t 24) (.k (.int 0))),
  oF 26 6 25,
  oA 27 26,
  oD 28 f2 23 27,
  oM 29 0,
  oP 30 (.iaddr ⟨7,72⟩ (.t 29) (.k (.int 0))),
  oF 31 0 30,
  oL 32 6 31,
  oM 33 0,
  oP 34 (.iaddr ⟨7,72⟩ (.t 33) (.k (.int 0))),
  oF 35 6 34,
  oA 36 35,
  oD 37 f3 32 36,
  {dst:=some 3,op:=.alloc ⟨9,104⟩ [(.int 0),(.int 0),(.int 0),(.int 0),.nil,(.int 0),(.int 0),(.bool false),.nil],pl:=some 0},
  {dst:=some 4,op:=.alloc ⟨9,104⟩ [(.int 0),(.int 0),(.int 0),(.int 0),.nil,(.int 0),(.int 0),(.bool false),.nil],pl:=some 1},
  oS 9 3 28,
  oS 9 4 37])
 (.seq (.seq (.reg [
  oL 38 9 3,
  oL 39 9 4,
  oD 40 f4 38 39,
  oY 41 40])
 (.cond (.t 41)
  (.seq (.reg [
   oW 2 false])
  .ret)
  .skip))
 (.seq (.seq (.reg [
  oM 42 0,
  oP 43 (.slice ⟨7,72⟩ (.t 42) (some (.k (.int 1))) none none),
  oE 44 43,
  oN 45 0])
 (.block 0 (.loop (.seq (.reg [
  oB 46 .lss 45 44])
 (.seq (.cond (.t 46)
  .skip
  (.exit 0))
 (.seq (.block 1 (.seq (.reg [
  oI 47 7 72 43 45,
  oL 48 7 47,
  oP 6 (.alloc ⟨7,72⟩ [(.int 0),(.int 0),.nil,(.int 0),(.int 0),(.bool false),(.int 0)]),
  oS 7 6 48])
 (.seq (.reg [
  oL 50 9 3,
  oF 51 0 6,
  oL 52 6 51,
  oF 53 6 6,
  oA 54 53,
  oG 55 f5 50 52 54,
  oM 49 55,
  oZ 56 0 49,
  oZ 57 1 49,
  oP 7 (.alloc ⟨9,104⟩ [(.int 0),(.int 0),(.int 0),(.int 0),.nil,(.int 0),(.int 0),(.bool false),.nil]),
  oS 9 7 56,
  oM 8 57])
 (.seq (.reg [
  oL 59 9 4,
  oF 60 0 6,
  oL 61 6 60,
  oF 62 6 6,
  oA 63 62,
  oG 64 f6 59 61 63,
  oM 58 64,
  oZ 65 0 58,
  oZ 66 1 58,
  oP 9 (.alloc ⟨9,104⟩ [(.int 0),(.int 0),(.int 0),(.int 0),.nil,(.int 0),(.int 0),(.bool false),.nil]),
  oS 9 9 65,
  oM 10 66])
 (.seq (.seq (.drw 0 [
  oL 67 9 7,
  oL 68 9 9,
  oD 69 f4 67 68,
  oY 70 69,
  oM 71 70,
  oV (oM 72 8) 71,
  oV (oM 73 10) 71,
  oV (oB 74 .neq 72 73) 71,
  oU 75 71 74,
  oM 76 75,
  oV (oL 77 9 7) 76,
  oV (oC 78 f7 77) 76,
  oV (oL 79 9 9) 76,
  oV (oC 80 f8 79) 76,
  oV (oB 81 .neq 78 80) 76,
  oU 82 76 81])
 (.cond (.t 82)
  (.seq (.reg [
   oW 2 false])
  .ret)
  .skip))
 (.seq (.reg [
  oM 83 8,
  oK 84 .eql 83 0])
 (.cond (.t 84)
  (.drw 0 [
   oL 85 9 7,
   oL 86 9 9,
   oS 9 3 85,
   oS 9 4 86] [(9,some 1001),(3,some 1002)])
  .skip)))))))
 (.reg [
  oK 87 .add 45 1,
  oM 45 87])))))))
 (.seq (.reg [
  oP 88 (.call (.f f1) []),
  oM 2 88])
 .ret))))))
end Go.Proofs.YtlllnjhgjijnkaaGreatDoor.Nx
