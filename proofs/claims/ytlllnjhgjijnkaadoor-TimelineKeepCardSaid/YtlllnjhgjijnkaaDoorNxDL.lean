import Derived.Test.YtlllnjhgjijnkaaDoorNxD15
set_option linter.unusedSimpArgs false
set_option linter.unusedVariables false
set_option linter.unnecessarySimpa false
namespace Go.Proofs.YtlllnjhgjijnkaaDoor.Nx
open Go
def x_law21_TimelineKeep (f0 f1 f2 f3 f4 f5 f6 f7:FuncId):XC :=
(.seq (.reg [
  oW 4 false])
 (.seq (.reg [
  oM 20 0,
  oP 21 (.call (.f f0) [(.t 20)]),
  oM 19 21,
  oZ 22 0 19,
  oZ 23 1 19,
  oZ 24 2 19,
  oP 5 (.alloc ⟨9,104⟩ [(.int 0),(.int 0),(.int 0),(.int 0),.nil,(.int 0),(.int 0),(.bool false),.nil]),
  oS 9 5 22,
  oM 6 23,
  oM 7 24])
 (.seq (.seq (.reg [
  oM 25 7,
  oY 26 25])
 (.cond (.t 26)
  (.seq (.reg [
   oP 27 (.call (.f f1) []),
   oM 4 27])
  .ret)
  .skip))
 (.seq (.reg [
  oM 28 1,
  oP 29 (.conv .i64 (.t 28)),
  oK 30 .rem 29 9,
  oK 31 .add 30 1,
  oM 8 31])
 (.seq (.reg [
  oL 33 9 5,
  oM 34 8,
  oP 35 (.call (.f f2) [(.t 33),(.t 34)]),
  oM 32 35,
  oZ 36 0 32,
  oZ 37 1 32,
  oP 9 (.alloc ⟨9,104⟩ [(.int 0),(.int 0),(.int 0),(.int 0),.nil,(.int 0),(.int 0),(.bool false),.nil]),
  oS 9 9 36,
  oM 10 37])
 (.seq (.seq (.drw 0 [
  oM 38 10,
  oK 39 .neq 38 0,
  oM 40 39,
  oV (oL 41 9 9) 40,
  oV (oP 42 (.call (.f f3) [(.t 41)])) 40,
  oV (oK 43 .neq 42 0) 40,
  oU 44 40 43,
  oM 45 44,
  oV (oL 46 9 9) 45,
  oV (oP 47 (.call (.f f4) [(.t 46)])) 45,
  oV (oL 48 9 5) 45,
  oV (oP 49 (.call (.f f4) [(.t 48)])) 45,
  oV (oB 50 .neq 47 49) 45,
  oU 51 45 50,
  oM 52 51,
  oV (oF 53 0 9) 52,
  oV (oA 54 53) 52,
  oV (oM 55 6) 52,
  oV (oE 56 55) 52,
  oV (oM 57 8) 52,
  oV (oB 58 .sub 56 57) 52,
  oV (oP 59 (.minmax true [(.k (.int 0)),(.t 58)])) 52,
  oV (oB 60 .neq 54 59) 52,
  oU 61 52 60])
 (.cond (.t 61)
  (.seq (.reg [
   oW 4 false])
  .ret)
  .skip))
 (.seq (.seq (.reg [
  oM 62 6,
  oE 63 62,
  oN 64 0])
 (.block 0 (.loop (.seq (.reg [
  oB 65 .lss 64 63])
 (.seq (.cond (.t 65)
  .skip
  (.exit 0))
 (.seq (.block 1 (.seq (.reg [
  oM 66 64,
  oI 67 7 72 62 64,
  oL 68 7 67,
  oP 12 (.alloc ⟨7,72⟩ [(.int 0),(.int 0),.nil,(.int 0),(.int 0),(.bool false),(.int 0)]),
  oM 11 66,
  oS 7 12 68])
 (.seq (.reg [
  oL 70 9 9,
  oM 71 11,
  oP 72 (.call (.f f5) [(.t 70),(.t 71)]),
  oM 69 72,
  oZ 73 0 69,
  oZ 74 1 69,
  oP 13 (.alloc ⟨6,64⟩ [(.int 0),(.int 0),.nil,(.int 0),(.int 0),(.bool false)]),
  oS 6 13 73,
  oM 14 74])
 (.seq (.seq (.reg [
  oM 75 11,
  oF 76 0 9,
  oA 77 76,
  oB 78 .lss 75 77])
 (.cond (.t 78)
  (.seq (.seq (.reg [
   oM 79 14,
   oK 80 .neq 79 2])
  (.cond (.t 80)
   (.seq (.reg [
    oW 4 false])
   .ret)
   .skip))
  (.exit 1))
  .skip))
 (.seq (.reg [
  oL 82 9 5,
  oF 83 6 12,
  oA 84 83,
  oP 85 (.call (.f f6) [(.t 82),(.t 84)]),
  oM 81 85,
  oZ 86 0 81,
  oZ 87 1 81,
  oM 15 86,
  oM 16 87])
 (.seq (.reg [
  oL 89 9 9,
  oF 90 6 12,
  oA 91 90,
  oP 92 (.call (.f f6) [(.t 89),(.t 91)]),
  oM 88 92,
  oZ 93 0 88,
  oZ 94 1 88,
  oM 17 93,
  oM 18 94])
 (.seq (.reg [
  oM 95 14,
  oK 96 .neq 95 0,
  oM 97 96,
  oV (oL 98 6 13) 97,
  oV (oF 99 0 12) 97,
  oV (oL 100 6 99) 97,
  oV (oP 101 (.call (.f f7) [(.t 98),(.t 100)])) 97,
  oV (oY 102 101) 97,
  oU 103 97 102,
  oM 104 103,
  oV (oM 105 18) 104,
  oV (oK 106 .neq 105 0) 104,
  oU 107 104 106,
  oM 108 107,
  oV (oM 109 15) 108,
  oV (oM 110 17) 108,
  oV (oB 111 .neq 109 110) 108,
  oU 112 108 111])
 (.cond (.t 112)
  (.seq (.reg [
   oW 4 false])
  .ret)
  .skip))))))))
 (.reg [
  oK 113 .add 64 1,
  oM 64 113])))))))
 (.seq (.reg [
  oP 114 (.call (.f f1) []),
  oM 4 114])
 .ret))))))))
end Go.Proofs.YtlllnjhgjijnkaaDoor.Nx
