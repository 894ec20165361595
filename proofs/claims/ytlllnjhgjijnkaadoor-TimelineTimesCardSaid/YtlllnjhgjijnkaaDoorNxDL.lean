import Derived.Test.YtlllnjhgjijnkaaDoorNxD15
set_option linter.unusedSimpArgs false
set_option linter.unusedVariables false
set_option linter.unnecessarySimpa false
namespace Go.Proofs.YtlllnjhgjijnkaaDoor.Nx
open Go
def x_law21_TimelineTimes (f0 f1 f2:FuncId):XC :=
(.seq (.reg [
  oW 4 false])
 (.seq (.reg [
  oM 11 0,
  oP 12 (.call (.f f0) [(.t 11)]),
  oM 10 12,
  oZ 13 0 10,
  oZ 14 1 10,
  oZ 15 2 10,
  oP 5 (.alloc ⟨9,104⟩ [(.int 0),(.int 0),(.int 0),(.int 0),.nil,(.int 0),(.int 0),(.bool false),.nil]),
  oS 9 5 13,
  oM 6 14,
  oM 7 15])
 (.seq (.seq (.reg [
  oM 16 7,
  oY 17 16])
 (.cond (.t 17)
  (.seq (.reg [
   oP 18 (.call (.f f1) []),
   oM 4 18])
  .ret)
  .skip))
 (.seq (.reg [
  oL 20 9 5,
  oM 21 1,
  oP 22 (.call (.f f2) [(.t 20),(.t 21)]),
  oM 19 22,
  oZ 23 0 19,
  oZ 24 1 19,
  oM 8 23,
  oM 9 24])
 (.seq (.seq (.reg [
  oM 25 1,
  oM 26 6,
  oP 27 (.iaddr ⟨7,72⟩ (.t 26) (.k (.int 0))),
  oF 28 6 27,
  oA 29 28,
  oB 30 .lss 25 29])
 (.cond (.t 30)
  (.seq (.reg [
   oM 31 8,
   oK 32 .eql 31 0,
   oM 33 32,
   oT (oM 34 9) 33,
   oT (oK 35 .eql 34 2) 33,
   oJ 36 33 35,
   oM 37 36,
   oT (oP 38 (.call (.f f1) [])) 37,
   oJ 39 37 38,
   oM 4 39])
  .ret)
  .skip))
 (.seq (.seq (.reg [
  oM 40 9,
  oK 41 .neq 40 0,
  oM 42 41,
  oV (oM 43 8) 42,
  oV (oK 44 .lss 43 0) 42,
  oU 45 42 44,
  oM 46 45,
  oV (oM 47 8) 46,
  oV (oM 48 6) 46,
  oV (oE 49 48) 46,
  oV (oB 50 .geq 47 49) 46,
  oU 51 46 50,
  oM 52 51,
  oV (oM 53 6) 52,
  oV (oM 54 8) 52,
  oV (oI 55 7 72 53 54) 52,
  oV (oF 56 6 55) 52,
  oV (oA 57 56) 52,
  oV (oM 58 1) 52,
  oV (oB 59 .gtr 57 58) 52,
  oU 60 52 59,
  oM 61 60,
  oV (oM 62 8) 61,
  oV (oK 63 .add 62 1) 61,
  oV (oM 64 6) 61,
  oV (oE 65 64) 61,
  oV (oB 66 .lss 63 65) 61,
  oV (oM 67 66) 61,
  oT (oM 68 6) 67,
  oT (oM 69 8) 67,
  oT (oK 70 .add 69 1) 67,
  oT (oI 71 7 72 68 70) 67,
  oT (oF 72 6 71) 67,
  oT (oA 73 72) 67,
  oT (oM 74 1) 67,
  oT (oB 75 .leq 73 74) 67,
  oV (oJ 76 67 75) 61,
  oU 77 61 76])
 (.cond (.t 77)
  (.seq (.reg [
   oW 4 false])
  .ret)
  .skip))
 (.seq (.reg [
  oP 78 (.call (.f f1) []),
  oM 4 78])
 .ret)))))))
end Go.Proofs.YtlllnjhgjijnkaaDoor.Nx
