import Derived.Test.YtlllnjhgjijnkaaDoorNxD15
set_option linter.unusedSimpArgs false
set_option linter.unusedVariables false
set_option linter.unnecessarySimpa false
namespace Go.Proofs.YtlllnjhgjijnkaaDoor.Nx
open Go
def x_law21_TimelineSteps (f0 f1 f2 f3 f4 f5:FuncId):XC :=
(.seq (.reg [
  oW 2 false])
 (.seq (.reg [
  oM 12 0,
  oP 13 (.call (.f f0) [(.t 12)]),
  oM 11 13,
  oZ 14 0 11,
  oZ 15 1 11,
  oZ 16 2 11,
  oP 3 (.alloc ⟨9,104⟩ [(.int 0),(.int 0),(.int 0),(.int 0),.nil,(.int 0),(.int 0),(.bool false),.nil]),
  oS 9 3 14,
  oM 4 15,
  oM 5 16])
 (.seq (.seq (.reg [
  oM 17 5,
  oY 18 17])
 (.cond (.t 18)
  (.seq (.reg [
   oP 19 (.call (.f f1) []),
   oM 2 19])
  .ret)
  .skip))
 (.seq (.seq (.reg [
  oF 20 8 3,
  oA 21 20,
  oE 22 21,
  oM 23 4,
  oE 24 23,
  oK 25 .sub 24 1,
  oB 26 .neq 22 25])
 (.cond (.t 26)
  (.seq (.reg [
   oW 2 false])
  .ret)
  .skip))
 (.seq (.seq (.reg [
  oF 27 8 3,
  oA 28 27,
  oE 29 28,
  oN 30 0])
 (.block 0 (.loop (.seq (.reg [
  oB 31 .lss 30 29])
 (.seq (.cond (.t 31)
  .skip
  (.exit 0))
 (.seq (.block 1 (.seq (.reg [
  oM 32 30,
  oI 33 2 32 28 30,
  oL 34 2 33,
  oP 7 (.alloc ⟨2,32⟩ [(.int 0),.nil]),
  oM 6 32,
  oS 2 7 34])
 (.seq (.seq (.drw 0 [
  oF 35 0 7,
  oA 36 35,
  oM 37 4,
  oM 38 6,
  oK 39 .add 38 1,
  oI 40 7 72 37 39,
  oF 41 6 40,
  oA 42 41,
  oB 43 .neq 36 42,
  oM 44 43,
  oV (oF 45 1 7) 44,
  oV (oA 46 45) 44,
  oV (oM 47 4) 44,
  oV (oM 48 6) 44,
  oV (oI 49 7 72 47 48) 44,
  oV (oF 50 0 49) 44,
  oV (oL 51 6 50) 44,
  oV (oM 52 4) 44,
  oV (oM 53 6) 44,
  oV (oK 54 .add 53 1) 44,
  oV (oI 55 7 72 52 54) 44,
  oV (oF 56 0 55) 44,
  oV (oL 57 6 56) 44,
  oV (oP 58 (.call (.f f2) [(.t 51),(.t 57)])) 44,
  oV (oP 59 (.call (.f f3) [(.t 46),(.t 58)])) 44,
  oV (oY 60 59) 44,
  oU 61 44 60])
 (.cond (.t 61)
  (.seq (.reg [
   oW 2 false])
  .ret)
  .skip))
 (.seq (.drw 1 [
  oM 63 4,
  oM 64 6,
  oI 65 7 72 63 64,
  oF 66 0 65,
  oL 67 6 66,
  oF 68 1 7,
  oA 69 68,
  oP 70 (.call (.f f4) [(.t 67),(.t 69)]),
  oM 62 70,
  oZ 71 0 62,
  oZ 72 1 62,
  oZ 73 2 62,
  {dst:=some 8,op:=.alloc ⟨6,64⟩ [(.int 0),(.int 0),.nil,(.int 0),(.int 0),(.bool false)],pl:=some 0},
  oS 6 8 71,
  oM 9 72,
  oM 10 73])
 (.seq (.drw 0 [
  oM 74 10,
  oK 75 .neq 74 0,
  oM 76 75,
  oV (oL 77 6 8) 76,
  oV (oM 78 4) 76,
  oV (oM 79 6) 76,
  oV (oK 80 .add 79 1) 76,
  oV (oI 81 7 72 78 80) 76,
  oV (oF 82 0 81) 76,
  oV (oL 83 6 82) 76,
  oV (oP 84 (.call (.f f5) [(.t 77),(.t 83)])) 76,
  oV (oY 85 84) 76,
  oU 86 76 85])
 (.cond (.t 86)
  (.seq (.reg [
   oW 2 false])
  .ret)
  .skip))))))
 (.reg [
  oK 87 .add 30 1,
  oM 30 87])))))))
 (.seq (.reg [
  oP 88 (.call (.f f1) []),
  oM 2 88])
 .ret))))))
end Go.Proofs.YtlllnjhgjijnkaaDoor.Nx
