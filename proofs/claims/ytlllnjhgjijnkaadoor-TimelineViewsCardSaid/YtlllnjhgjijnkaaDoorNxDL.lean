import Derived.Test.YtlllnjhgjijnkaaDoorNxD15
set_option linter.unusedSimpArgs false
set_option linter.unusedVariables false
set_option linter.unnecessarySimpa false
namespace Go.Proofs.YtlllnjhgjijnkaaDoor.Nx
open Go
def x_law21_TimelineViews (f0 f1 f2 f3 f4 f5:FuncId):XC :=
(.seq (.reg [
  oW 2 false])
 (.seq (.reg [
  oM 15 0,
  oP 16 (.call (.f f0) [(.t 15)]),
  oM 14 16,
  oZ 17 0 14,
  oZ 18 1 14,
  oZ 19 2 14,
  oP 3 (.alloc ⟨9,104⟩ [(.int 0),(.int 0),(.int 0),(.int 0),.nil,(.int 0),(.int 0),(.bool false),.nil]),
  oS 9 3 17,
  oM 4 18,
  oM 5 19])
 (.seq (.seq (.reg [
  oM 20 5,
  oY 21 20])
 (.cond (.t 21)
  (.seq (.reg [
   oP 22 (.call (.f f1) []),
   oM 2 22])
  .ret)
  .skip))
 (.seq (.seq (.reg [
  oL 23 9 3,
  oP 24 (.call (.f f2) [(.t 23)]),
  oK 25 .neq 24 0,
  oM 26 25,
  oV (oL 27 9 3) 26,
  oV (oP 28 (.call (.f f3) [(.t 27)])) 26,
  oV (oM 29 4) 26,
  oV (oE 30 29) 26,
  oV (oK 31 .sub 30 1) 26,
  oV (oB 32 .neq 28 31) 26,
  oU 33 26 32])
 (.cond (.t 33)
  (.seq (.reg [
   oW 2 false])
  .ret)
  .skip))
 (.seq (.seq (.reg [
  oM 34 4,
  oE 35 34,
  oN 36 0])
 (.block 0 (.loop (.seq (.reg [
  oB 37 .lss 36 35])
 (.seq (.cond (.t 37)
  .skip
  (.exit 0))
 (.seq (.block 1 (.seq (.reg [
  oM 38 36,
  oI 39 7 72 34 36,
  oL 40 7 39,
  oP 7 (.alloc ⟨7,72⟩ [(.int 0),(.int 0),.nil,(.int 0),(.int 0),(.bool false),(.int 0)]),
  oM 6 38,
  oS 7 7 40])
 (.seq (.reg [
  oL 42 9 3,
  oM 43 6,
  oP 44 (.call (.f f4) [(.t 42),(.t 43)]),
  oM 41 44,
  oZ 45 0 41,
  oZ 46 1 41,
  oP 8 (.alloc ⟨6,64⟩ [(.int 0),(.int 0),.nil,(.int 0),(.int 0),(.bool false)]),
  oS 6 8 45,
  oM 9 46])
 (.seq (.reg [
  oM 47 9,
  oK 48 .neq 47 0,
  oM 49 48,
  oV (oL 50 6 8) 49,
  oV (oF 51 0 7) 49,
  oV (oL 52 6 51) 49,
  oV (oP 53 (.call (.f f5) [(.t 50),(.t 52)])) 49,
  oV (oY 54 53) 49,
  oU 55 49 54])
 (.cond (.t 55)
  (.seq (.reg [
   oW 2 false])
  .ret)
  .skip)))))
 (.reg [
  oK 56 .add 36 1,
  oM 36 56])))))))
 (.seq (.reg [
  oL 58 9 3,
  oM 59 4,
  oE 60 59,
  oP 61 (.call (.f f4) [(.t 58),(.t 60)]),
  oM 57 61,
  oZ 62 0 57,
  oZ 63 1 57,
  oP 10 (.alloc ⟨6,64⟩ [(.int 0),(.int 0),.nil,(.int 0),(.int 0),(.bool false)]),
  oS 6 10 62,
  oM 11 63])
 (.seq (.reg [
  oL 65 9 3,
  oP 66 (.call (.f f4) [(.t 65),(.k (.int (-1)))]),
  oM 64 66,
  oZ 67 0 64,
  oZ 68 1 64,
  oP 12 (.alloc ⟨6,64⟩ [(.int 0),(.int 0),.nil,(.int 0),(.int 0),(.bool false)]),
  oS 6 12 67,
  oM 13 68])
 (.seq (.reg [
  oM 69 11,
  oK 70 .eql 69 2,
  oM 71 70,
  oT (oM 72 13) 71,
  oT (oK 73 .eql 72 2) 71,
  oJ 74 71 73,
  oM 75 74,
  oT (oP 76 (.call (.f f1) [])) 75,
  oJ 77 75 76,
  oM 2 77])
 .ret))))))))
end Go.Proofs.YtlllnjhgjijnkaaDoor.Nx
