import Derived.Test.YtigfbnglplbbpaaGreatDoorNxD15
set_option linter.unusedSimpArgs false
set_option linter.unusedVariables false
set_option linter.unnecessarySimpa false
namespace Go.Proofs.YtigfbnglplbbpaaGreatDoor.Nx
open Go
def x_law20_ViewdiffDiff (f0 f1 f2 f3 f4:FuncId):XC :=
(.seq (.reg [
  oX 2 6 64 0,
  oX 3 6 64 1,
  oW 4 false])
 (.seq (.seq (.reg [
  oL 5 6 2,
  oP 6 (.call (.f f0) [(.t 5)]),
  oM 7 6,
  oV (oL 8 6 3) 7,
  oV (oP 9 (.call (.f f0) [(.t 8)])) 7,
  oU 10 7 9])
 (.cond (.t 10)
  (.seq (.reg [
   oP 11 (.call (.f f1) []),
   oM 4 11])
  .ret)
  .skip))
 (.seq (.drw 0 [
  oL 12 6 2,
  oL 13 6 3,
  oP 14 (.call (.f f2) [(.t 12),(.t 13)]),
  oL 15 6 2,
  oL 16 6 3,
  oP 17 (.call (.f f3) [(.t 15),(.t 16)]),
  oP 18 (.call (.f f4) [(.t 14),(.t 17)]),
  oM 19 18,
  oT (oP 20 (.call (.f f1) [])) 19,
  oJ 21 19 20,
  oM 4 21])
 .ret)))
end Go.Proofs.YtigfbnglplbbpaaGreatDoor.Nx
