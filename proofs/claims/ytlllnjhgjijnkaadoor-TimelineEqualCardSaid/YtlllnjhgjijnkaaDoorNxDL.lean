import Derived.Test.YtlllnjhgjijnkaaDoorNxD15
set_option linter.unusedSimpArgs false
set_option linter.unusedVariables false
set_option linter.unnecessarySimpa false
namespace Go.Proofs.YtlllnjhgjijnkaaDoor.Nx
open Go
def x_law21_TimelineEqual (f0 f1 f2 f3:FuncId):XC :=
(.seq (.reg [
  oW 4 false])
 (.seq (.reg [
  oM 15 0,
  oP 16 (.call (.f f0) [(.t 15)]),
  oM 14 16,
  oZ 17 0 14,
  oZ 18 1 14,
  oZ 19 2 14,
  oP 5 (.alloc ⟨9,104⟩ [(.int 0),(.int 0),(.int 0),(.int 0),.nil,(.int 0),(.int 0),(.bool false),.nil]),
  oS 9 5 17,
  oM 6 18,
  oM 7 19])
 (.seq (.seq (.reg [
  oM 20 7,
  oY 21 20])
 (.cond (.t 21)
  (.seq (.reg [
   oP 22 (.call (.f f1) []),
   oM 4 22])
  .ret)
  .skip))
 (.seq (.reg [
  oM 23 6,
  oM 24 6,
  oE 25 24,
  oK 26 .sub 25 1,
  oI 27 7 72 23 26,
  oL 28 7 27,
  oP 8 (.alloc ⟨7,72⟩ [(.int 0),(.int 0),.nil,(.int 0),(.int 0),(.bool false),(.int 0)]),
  oS 7 8 28])
 (.seq (.reg [
  oF 29 6 8,
  oA 30 29,
  oM 9 30])
 (.seq (.seq (.reg [
  oM 31 9,
  oK 32 .gtr 31 1099511557776])
 (.cond (.t 32)
  (.seq (.reg [
   oP 33 (.call (.f f1) []),
   oM 4 33])
  .ret)
  .skip))
 (.seq (.reg [
  oL 35 9 5,
  oF 36 0 8,
  oL 37 6 36,
  oM 38 9,
  oM 39 1,
  oP 40 (.conv .i64 (.t 39)),
  oB 41 .add 38 40,
  oP 42 (.call (.f f2) [(.t 35),(.t 37),(.t 41)]),
  oM 34 42,
  oZ 43 0 34,
  oZ 44 1 34,
  oP 10 (.alloc ⟨9,104⟩ [(.int 0),(.int 0),(.int 0),(.int 0),.nil,(.int 0),(.int 0),(.bool false),.nil]),
  oS 9 10 43,
  oM 11 44])
 (.seq (.reg [
  oL 46 9 5,
  oF 47 0 8,
  oL 48 6 47,
  oM 49 9,
  oK 50 .sub 49 1,
  oP 51 (.call (.f f2) [(.t 46),(.t 48),(.t 50)]),
  oM 45 51,
  oZ 52 0 45,
  oZ 53 1 45,
  oP 12 (.alloc ⟨9,104⟩ [(.int 0),(.int 0),(.int 0),(.int 0),.nil,(.int 0),(.int 0),(.bool false),.nil]),
  oS 9 12 52,
  oM 13 53])
 (.seq (.reg [
  oM 54 11,
  oK 55 .eql 54 0,
  oM 56 55,
  oT (oL 57 9 10) 56,
  oT (oL 58 9 5) 56,
  oT (oP 59 (.call (.f f3) [(.t 57),(.t 58)])) 56,
  oJ 60 56 59,
  oM 61 60,
  oT (oM 62 13) 61,
  oT (oK 63 .eql 62 10) 61,
  oT (oM 64 63) 61,
  oV (oM 65 9) 64,
  oV (oK 66 .eql 65 0) 64,
  oV (oM 67 66) 64,
  oT (oM 68 13) 67,
  oT (oK 69 .eql 68 2) 67,
  oV (oJ 70 67 69) 64,
  oT (oU 71 64 70) 61,
  oJ 72 61 71,
  oM 73 72,
  oT (oL 74 9 12) 73,
  oT (oP 75 (.build [(.int 0),(.int 0),(.int 0),(.int 0),.nil,(.int 0),(.int 0),(.bool false),.nil] [])) 73,
  oT (oP 76 (.call (.f f3) [(.t 74),(.t 75)])) 73,
  oJ 77 73 76,
  oM 78 77,
  oT (oP 79 (.call (.f f1) [])) 78,
  oJ 80 78 79,
  oM 4 80])
 .ret)))))))))
end Go.Proofs.YtlllnjhgjijnkaaDoor.Nx
