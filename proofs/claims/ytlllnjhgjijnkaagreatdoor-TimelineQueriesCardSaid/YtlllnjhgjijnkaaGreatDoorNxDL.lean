import Derived.Test.YtlllnjhgjijnkaaGreatDoorNxD15
set_option linter.unusedSimpArgs false
set_option linter.unusedVariables false
set_option linter.unnecessarySimpa false
namespace Go.Proofs.YtlllnjhgjijnkaaGreatDoor.Nx
open Go
def x_law21_TimelineQueries (f0 f1 f2 f3 f4 f5 f6 f7 f8 f9 f10 f11:FuncId):XC :=
(.seq (.reg [
  oX 1 12 128 0,
  oW 2 false])
 (.seq (.drw 1 [
  oF 19 0 1,
  oL 20 9 19,
  oF 21 9 1,
  oA 22 21,
  oF 23 10 1,
  oA 24 23,
  oF 25 11 1,
  oA 26 25,
  {dst:=some 3,op:=.alloc ⟨9,104⟩ [(.int 0),(.int 0),(.int 0),(.int 0),.nil,(.int 0),(.int 0),(.bool false),.nil],pl:=some 0},
  oS 9 3 20,
  oM 4 22,
  oM 5 24,
  oM 6 26] [(19,none),(21,none),(23,none),(25,none),(3,some 0)])
 (.seq (.seq (.reg [
  oL 27 9 3,
  oP 28 (.call (.f f0) [(.t 27)])])
 (.cond (.t 28)
  (.seq (.reg [
   oP 29 (.call (.f f1) []),
   oM 2 29])
  .ret)
  .skip))
 (.seq (.reg [
  oL 31 9 3,
  oM 32 4,
  oP 33 (.call (.f f2) [(.t 31),(.t 32)]),
  oM 30 33,
  oZ 34 0 30,
  oZ 35 1 30,
  oP 7 (.alloc ⟨6,64⟩ [(.int 0),(.int 0),.nil,(.int 0),(.int 0),(.bool false)]),
  oS 6 7 34,
  oM 8 35])
 (.seq (.reg [
  oL 37 9 3,
  oM 38 4,
  oP 39 (.call (.f f3) [(.t 37),(.t 38)]),
  oM 36 39,
  oZ 40 0 36,
  oZ 41 1 36,
  oP 9 (.alloc ⟨6,64⟩ [(.int 0),(.int 0),.nil,(.int 0),(.int 0),(.bool false)]),
  oS 6 9 40,
  oM 10 41])
 (.seq (.reg [
  oL 43 9 3,
  oM 44 5,
  oP 45 (.call (.f f4) [(.t 43),(.t 44)]),
  oM 42 45,
  oZ 46 0 42,
  oZ 47 1 42,
  oM 11 46,
  oM 12 47])
 (.seq (.reg [
  oL 49 9 3,
  oM 50 5,
  oP 51 (.call (.f f5) [(.t 49),(.t 50)]),
  oM 48 51,
  oZ 52 0 48,
  oZ 53 1 48,
  oM 13 52,
  oM 14 53])
 (.seq (.reg [
  oL 55 9 3,
  oM 56 6,
  oP 57 (.call (.f f6) [(.t 55),(.t 56)]),
  oM 54 57,
  oZ 58 0 54,
  oZ 59 1 54,
  oP 15 (.alloc ⟨9,104⟩ [(.int 0),(.int 0),(.int 0),(.int 0),.nil,(.int 0),(.int 0),(.bool false),.nil]),
  oS 9 15 58,
  oM 16 59])
 (.seq (.reg [
  oL 61 9 3,
  oM 62 6,
  oP 63 (.call (.f f7) [(.t 61),(.t 62)]),
  oM 60 63,
  oZ 64 0 60,
  oZ 65 1 60,
  oP 17 (.alloc ⟨9,104⟩ [(.int 0),(.int 0),(.int 0),(.int 0),.nil,(.int 0),(.int 0),(.bool false),.nil]),
  oS 9 17 64,
  oM 18 65])
 (.seq (.drw 0 [
  oL 66 9 3,
  oP 67 (.call (.f f8) [(.t 66)]),
  oL 68 9 3,
  oP 69 (.call (.f f9) [(.t 68)]),
  oB 70 .eql 67 69,
  oM 71 70,
  oT (oL 72 6 7) 71,
  oT (oL 73 6 9) 71,
  oT (oP 74 (.call (.f f10) [(.t 72),(.t 73)])) 71,
  oJ 75 71 74,
  oM 76 75,
  oT (oM 77 8) 76,
  oT (oM 78 10) 76,
  oT (oB 79 .eql 77 78) 76,
  oJ 80 76 79,
  oM 81 80,
  oT (oM 82 11) 81,
  oT (oM 83 13) 81,
  oT (oB 84 .eql 82 83) 81,
  oJ 85 81 84,
  oM 86 85,
  oT (oM 87 12) 86,
  oT (oM 88 14) 86,
  oT (oB 89 .eql 87 88) 86,
  oJ 90 86 89,
  oM 91 90,
  oT (oL 92 9 15) 91,
  oT (oL 93 9 17) 91,
  oT (oP 94 (.call (.f f11) [(.t 92),(.t 93)])) 91,
  oJ 95 91 94,
  oM 96 95,
  oT (oM 97 16) 96,
  oT (oM 98 18) 96,
  oT (oB 99 .eql 97 98) 96,
  oJ 100 96 99,
  oM 101 100,
  oT (oP 102 (.call (.f f1) [])) 101,
  oJ 103 101 102,
  oM 2 103])
 .ret))))))))))
end Go.Proofs.YtlllnjhgjijnkaaGreatDoor.Nx
