import Derived.Test.YtlllnjhgjijnkaaDoorNxD15
set_option linter.unusedSimpArgs false
set_option linter.unusedVariables false
set_option linter.unnecessarySimpa false
namespace Go.Proofs.YtlllnjhgjijnkaaDoor.Nx
open Go
def x_law21_TimelineLimit (f0 f1 f2 f3 f4 f5:FuncId):XC :=
(.seq (.reg [
  oW 2 false])
 (.seq (.reg [
  oP 11 (.bslice ⟨1,24⟩ [.nil] 1 [(0,(.k .nil))]),
  oP 12 (.build [(.int 0),(.int 0),.nil,(.int 0),(.int 0),(.bool false)] [(0,1,(.k (.int 2))),(1,1,(.k (.int 1))),(2,1,(.t 11)),(5,1,(.k (.bool true)))]),
  oP 3 (.alloc ⟨6,64⟩ [(.int 0),(.int 0),.nil,(.int 0),(.int 0),(.bool false)]),
  oS 6 3 12])
 (.seq (.reg [
  oL 13 6 3,
  oP 4 (.alloc ⟨6,64⟩ [(.int 0),(.int 0),.nil,(.int 0),(.int 0),(.bool false)]),
  oS 6 4 13])
 (.seq (.reg [
  oP 14 (.build [(.str ⟨#[]⟩),(.bool false),(.int 0)] [(0,1,(.k (.str ⟨#[120]⟩)))]),
  oP 15 (.bslice ⟨3,32⟩ [(.str ⟨#[]⟩),(.bool false),(.int 0)] 1 [(0,(.t 14))]),
  oP 16 (.bslice ⟨1,24⟩ [.nil] 1 [(0,(.t 15))]),
  oF 17 2 4,
  oS 1 17 16])
 (.seq (.reg [
  oL 18 6 3,
  oP 19 (.call (.f f0) [(.t 18),(.k (.int 0))]),
  oP 5 (.alloc ⟨9,104⟩ [(.int 0),(.int 0),(.int 0),(.int 0),.nil,(.int 0),(.int 0),(.bool false),.nil]),
  oS 9 5 19])
 (.seq (.seq (.reg [
  oN 6 1])
 (.block 0 (.loop (.seq (.seq (.reg [
  oM 20 6,
  oM 21 0,
  oP 22 (.conv .i64 (.t 21)),
  oB 23 .leq 20 22])
 (.cond (.t 23)
  .skip
  (.exit 0)))
 (.seq (.block 1 (.seq (.drw 1 [
  oL 27 9 5,
  oL 28 6 3,
  oL 29 6 4,
  oP 30 (.build [(.int 0),(.int 0),.nil,(.int 0),(.int 0),(.bool false),(.int 0),(.int 0),.nil,(.int 0),(.int 0),(.bool false)] [(0,6,(.t 28)),(6,6,(.t 29))]),
  oM 31 6,
  oK 32 .rem 31 2,
  oP 33 (.aidx 2 6 true (.t 30) (.t 32)),
  oM 34 6,
  oP 35 (.call (.f f1) [(.t 27),(.t 33),(.t 34)]),
  oM 26 35,
  oZ 36 0 26,
  oZ 37 1 26,
  {dst:=some 7,op:=.alloc ⟨9,104⟩ [(.int 0),(.int 0),(.int 0),(.int 0),.nil,(.int 0),(.int 0),(.bool false),.nil],pl:=some 0},
  oS 9 7 36,
  oM 8 37])
 (.seq (.seq (.reg [
  oM 38 8,
  oK 39 .neq 38 0])
 (.cond (.t 39)
  (.seq (.reg [
   oW 2 false])
  .ret)
  .skip))
 (.reg [
  oL 40 9 7,
  oS 9 5 40]))))
 (.reg [
  oM 24 6,
  oK 25 .add 24 1,
  oM 6 25]))))))
 (.seq (.reg [
  oL 42 9 5,
  oM 43 0,
  oP 44 (.conv .i64 (.t 43)),
  oP 45 (.call (.f f2) [(.t 42),(.t 44)]),
  oM 41 45,
  oZ 46 0 41,
  oZ 47 1 41,
  oP 9 (.alloc ⟨6,64⟩ [(.int 0),(.int 0),.nil,(.int 0),(.int 0),(.bool false)]),
  oS 6 9 46,
  oM 10 47])
 (.seq (.drw 0 [
  oM 48 10,
  oK 49 .eql 48 0,
  oM 50 49,
  oT (oL 51 6 9) 50,
  oT (oL 52 6 3) 50,
  oT (oL 53 6 4) 50,
  oT (oP 54 (.build [(.int 0),(.int 0),.nil,(.int 0),(.int 0),(.bool false),(.int 0),(.int 0),.nil,(.int 0),(.int 0),(.bool false)] [(0,6,(.t 52)),(6,6,(.t 53))])) 50,
  oT (oM 55 0) 50,
  oT (oP 56 (.conv .i64 (.t 55))) 50,
  oT (oK 57 .rem 56 2) 50,
  oT (oP 58 (.aidx 2 6 true (.t 54) (.t 57))) 50,
  oT (oP 59 (.call (.f f3) [(.t 51),(.t 58)])) 50,
  oJ 60 50 59,
  oM 61 60,
  oT (oL 62 9 5) 61,
  oT (oP 63 (.call (.f f4) [(.t 62)])) 61,
  oT (oM 64 0) 61,
  oT (oP 65 (.conv .i64 (.t 64))) 61,
  oT (oB 66 .eql 63 65) 61,
  oJ 67 61 66,
  oM 68 67,
  oT (oF 69 0 5) 68,
  oT (oA 70 69) 68,
  oT (oM 71 0) 68,
  oT (oP 72 (.conv .i64 (.t 71))) 68,
  oT (oK 73 .sub 72 200) 68,
  oT (oP 74 (.minmax true [(.k (.int 0)),(.t 73)])) 68,
  oT (oB 75 .eql 70 74) 68,
  oJ 76 68 75,
  oM 77 76,
  oT (oF 78 8 5) 77,
  oT (oA 79 78) 77,
  oT (oE 80 79) 77,
  oT (oM 81 0) 77,
  oT (oP 82 (.conv .i64 (.t 81))) 77,
  oT (oP 83 (.minmax false [(.t 82),(.k (.int 200))])) 77,
  oT (oB 84 .eql 80 83) 77,
  oJ 85 77 84,
  oM 86 85,
  oT (oF 87 1 5) 86,
  oT (oA 88 87) 86,
  oT (oF 89 0 5) 86,
  oT (oA 90 89) 86,
  oT (oB 91 .eql 88 90) 86,
  oJ 92 86 91,
  oM 93 92,
  oT (oP 94 (.call (.f f5) [])) 93,
  oJ 95 93 94,
  oM 2 95])
 .ret))))))))
end Go.Proofs.YtlllnjhgjijnkaaDoor.Nx
