/- The functions of this program are those of the definitions; the example that every statement checks. -/
import Derived.Test.YtlllnjhgjijnkaaGreatDoorNxCore
import Derived.Test.YtlllnjhgjijnkaaGreatDoorNxSound
import Derived.Test.YtlllnjhgjijnkaaGreatDoorNxComp
import Derived.Test.YtlllnjhgjijnkaaGreatDoorNxDraw
import Derived.Test.YtlllnjhgjijnkaaGreatDoorNxFn
import Derived.Test.YtlllnjhgjijnkaaGreatDoorNxCheck
import Derived.Test.YtlllnjhgjijnkaaGreatDoorNxWalk
import Derived.Test.YtlllnjhgjijnkaaGreatDoorNxLink
import Derived.Test.YtlllnjhgjijnkaaGreatDoorNxEval
import Derived.Test.YtlllnjhgjijnkaaGreatDoorNxC1
import Derived.Test.YtlllnjhgjijnkaaGreatDoorNxV1
import Derived.Test.YtlllnjhgjijnkaaGreatDoorNxB0
import Derived.Test.YtlllnjhgjijnkaaGreatDoorNxP15a
import Derived.Test.YtlllnjhgjijnkaaGreatDoorNxP15i
import Derived.Test.YtlllnjhgjijnkaaGreatDoorNxP15g
import Derived.Test.YtlllnjhgjijnkaaGreatDoorNxP15k
import Derived.Test.YtlllnjhgjijnkaaGreatDoorNxP15n
import Derived.Test.YtlllnjhgjijnkaaGreatDoorNxH0
import Derived.Test.YtlllnjhgjijnkaaGreatDoorNxE0
import Derived.Test.YtlllnjhgjijnkaaGreatDoorNxE2
import Derived.Test.YtlllnjhgjijnkaaGreatDoorNxW8
import Derived.Test.YtlllnjhgjijnkaaGreatDoorNxE6
import Derived.Test.YtlllnjhgjijnkaaGreatDoorNxE13
import Derived.Test.YtlllnjhgjijnkaaGreatDoorNxE15
import Derived.Test.YtlllnjhgjijnkaaGreatDoorNxE19
import Derived.Test.YtlllnjhgjijnkaaGreatDoorNxE21
import Derived.Test.YtlllnjhgjijnkaaGreatDoorNxK3
import Derived.Test.YtlllnjhgjijnkaaGreatDoorNxT1
import Derived.Test.YtlllnjhgjijnkaaGreatDoorNxI0
import Derived.Test.YtlllnjhgjijnkaaGreatDoorNxI2
import Derived.Test.YtlllnjhgjijnkaaGreatDoorNxI6
import Derived.Test.YtlllnjhgjijnkaaGreatDoorNxC3
import Derived.Test.YtlllnjhgjijnkaaGreatDoorNxJ0
import Derived.Test.YtlllnjhgjijnkaaGreatDoorNxJ6
import Derived.Test.YtlllnjhgjijnkaaGreatDoorNxJ19
import Derived.Test.YtlllnjhgjijnkaaGreatDoorNxE29
import Derived.Test.YtlllnjhgjijnkaaGreatDoorNxI21
import Derived.Test.YtlllnjhgjijnkaaGreatDoorNxI25
import Derived.Test.YtlllnjhgjijnkaaGreatDoorNxI14
import Derived.Test.YtlllnjhgjijnkaaGreatDoorNxE34
import Derived.Test.YtlllnjhgjijnkaaGreatDoorNxI29
import Derived.Test.YtlllnjhgjijnkaaGreatDoorNxE36
import Derived.Test.YtlllnjhgjijnkaaGreatDoorNxDL
import Derived.Test.YtlllnjhgjijnkaaGreatDoorNxD15
import Derived.Test.YtlllnjhgjijnkaaGreatDoorRows
import Derived.KernelRfl
import Derived.Ground.NamesProg
import Derived.Shelf.Lay
import Derived.Shelf.Unicode.ValidAny
import Derived.Shelf.Spec.SlicesGrow
import Derived.Ground.Names7Prog
set_option linter.all false
open Nat renaming zero_le → zI
open List renaming mem_cons_self → zW, mem_cons_of_mem → zZ
open Nat renaming le_trans → aA
namespace Go.Proofs.YtlllnjhgjijnkaaGreatDoor
open Go.RowKit Go.Shelf Go.Lib
shelf_lay Lays.n196 Nm 196 at Tryz as Tryz.laysValid
end Go.Proofs.YtlllnjhgjijnkaaGreatDoor
namespace Go.Proofs.YtlllnjhgjijnkaaGreatDoor
open Go.RowKit Go.Shelf Go.Lib
shelf_lay_g Lays8.n4 Nm8 4 at Tryz 139 as Tryz.growR
end Go.Proofs.YtlllnjhgjijnkaaGreatDoor
namespace Go.Proofs.YtlllnjhgjijnkaaGreatDoor.Nx
open Go
theorem Dp:FnIs Tryz.prog 3 89 [.t 2] (mU 5 6 7 8 9 10 11 12 13):=.of (by kernel_rfl)
theorem Wg:FnIs Tryz.prog 5 18 [.t 2] (Ad 24):=.of (by kernel_rfl)
theorem Uf:FnIs Tryz.prog 6 83 [.t 0] (wM 7 10 17 15 12 25):=.of (by kernel_rfl)
theorem Pb:FnIs Tryz.prog 7 21 [.c 4 9 true] (uG 26 27):=.of (by kernel_rfl)
theorem aAS:FnIs Tryz.prog 8 17 [.c 4 9 true] (Cr 28 29):=.of (by kernel_rfl)
theorem Wh:FnIs Tryz.prog 9 71 [.t 4] (Ae 23 30):=.of (by kernel_rfl)
theorem Pc:FnIs Tryz.prog 10 63 [.c 6 9 true,.t 7] (uH 21 26 31 32 25 33 34):=.of (by kernel_rfl)
theorem aAT:FnIs Tryz.prog 11 70 [.c 6 9 true,.t 7] (Cs 35 28 29 36 23 37 38):=.of (by kernel_rfl)
theorem Mb:FnIs Tryz.prog 12 9 [.t 2] sK:=.of (by kernel_rfl)
theorem Wi:FnIs Tryz.prog 13 9 [.t 2] Af:=.of (by kernel_rfl)
theorem Ug:FnIs Tryz.prog 15 25 [.c 4 6 true,.c 5 1 false] (wN 21 40 27):=.of (by kernel_rfl)
theorem Mc:FnIs Tryz.prog 17 36 [.t 4,.t 5] (sL 21):=.of (by kernel_rfl)
theorem Kl:FnIs Tryz.prog 21 74 [.t 2] (qS 26 41):=.of (by kernel_rfl)
theorem Wj:FnIs Tryz.prog 23 67 [.t 4] (Ag 42):=.of (by kernel_rfl)
theorem Uh:FnIs Tryz.prog 24 32 [.t 2] (wO 43):=.of (by kernel_rfl)
theorem Wk:FnIs Tryz.prog 25 45 [.t 4] (Ah 44 45):=.of (by kernel_rfl)
theorem Wl:FnIs Tryz.prog 26 84 [.t 2] (Ai 46 47 48 49):=.of (by kernel_rfl)
theorem Pd:FnIs Tryz.prog 27 26 [.c 2 6 true] (uI 50 51):=.of (by kernel_rfl)
theorem Ui:FnIs Tryz.prog 28 84 [.t 2] (wP 52 53 54 55):=.of (by kernel_rfl)
theorem Wm:FnIs Tryz.prog 29 9 [.t 2] Aj:=.of (by kernel_rfl)
theorem Wn:FnIs Tryz.prog 30 68 [.t 4] (Ak 42):=.of (by kernel_rfl)
theorem Km:FnIs Tryz.prog 31 29 [.c 2 6 true,.t 3] (qT 40):=.of (by kernel_rfl)
theorem Hj:FnIs Tryz.prog 32 51 [.c 2 9 true] (pM 27 56 57 51):=.of (by kernel_rfl)
theorem Md:FnIs Tryz.prog 33 87 [.t 4] (sM 26 41 59 58 60 62):=.of (by kernel_rfl)
theorem Me:FnIs Tryz.prog 34 30 [.c 2 9 true] (sN 40):=.of (by kernel_rfl)
theorem Uj:FnIs Tryz.prog 35 82 [.t 2,.t 3] (wQ 29 28 63):=.of (by kernel_rfl)
theorem Uk:FnIs Tryz.prog 36 18 [.t 2] wS:=.of (by kernel_rfl)
theorem Wo:FnIs Tryz.prog 37 86 [.t 4] (Al 28 63 64 65 66):=.of (by kernel_rfl)
theorem Mf:FnIs Tryz.prog 38 20 [.c 4 9 true] sO:=.of (by kernel_rfl)
theorem Ul:FnIs Tryz.prog 39 19 [.t 2] (wT 43):=.of (by kernel_rfl)
theorem Kn:FnIs Tryz.prog 40 4 [.t 2] (qU 67):=.of (by kernel_rfl)
theorem Pe:FnIs Tryz.prog 41 64 [.c 4 6 true,.t 5,.t 6] (uJ 26 68 69 70 48):=.of (by kernel_rfl)
theorem yJ:FnIs Tryz.prog 42 26 [.t 4] nH:=.of (by kernel_rfl)
theorem vV:FnIs Tryz.prog 43 20 [.t 2] mC:=.of (by kernel_rfl)
theorem yK:FnIs Tryz.prog 44 32 [.t 6] iK:=.of (by kernel_rfl)
theorem tF:FnIs Tryz.prog 45 26 [.t 4] iS:=.of (by kernel_rfl)
theorem Wp:FnIs Tryz.prog 46 19 [.t 4] Am:=.of (by kernel_rfl)
theorem Wq:FnIs Tryz.prog 47 34 [.t 2] (An 71 72):=.of (by kernel_rfl)
theorem Wr:FnIs Tryz.prog 48 20 [.t 2] Ao:=.of (by kernel_rfl)
theorem xE:FnIs Tryz.prog 49 2 [.c 0 3 true] pN:=.of (by kernel_rfl)
theorem mV:FnIs Tryz.prog 50 8 [.t 2] hZ:=.of (by kernel_rfl)
theorem gG:FnIs Tryz.prog 51 8 [.t 2] fN:=.of (by kernel_rfl)
theorem Ws:FnIs Tryz.prog 52 19 [.t 4] aAf:=.of (by kernel_rfl)
theorem Um:FnIs Tryz.prog 53 34 [.t 2] (Vy 73 74):=.of (by kernel_rfl)
theorem Uo:FnIs Tryz.prog 54 21 [.t 2] wU:=.of (by kernel_rfl)
theorem Up:FnIs Tryz.prog 55 6 [.t 2] wV:=.of (by kernel_rfl)
theorem Ev:FnIs Tryz.prog 56 8 [.t 2] kQ:=.of (by kernel_rfl)
theorem Ew:FnIs Tryz.prog 57 8 [.t 2] kR:=.of (by kernel_rfl)
theorem Bz:FnIs Tryz.prog 58 5 [.t 2] (jF 75):=.of (by kernel_rfl)
theorem Mg:FnIs Tryz.prog 59 6 [.t 4] (sP 76):=.of (by kernel_rfl)
theorem Hu:FnIs Tryz.prog 60 9 [.t 3] (pO 61):=.of (by kernel_rfl)
theorem Mh:FnIs Tryz.prog 61 36 [.t 2] (sQ 78):=.of (by kernel_rfl)
theorem Ia:FnIs Tryz.prog 62 83 [.c 4 6 true,.t 5] (lO 79 80 81):=.of (by kernel_rfl)
theorem Dq:FnIs Tryz.prog 63 57 [.c 4 6 true,.t 5,.t 6] (mX 28 82 83 54):=.of (by kernel_rfl)
theorem Wt:FnIs Tryz.prog 64 62 [.t 4] (Ap 84):=.of (by kernel_rfl)
theorem Wu:FnIs Tryz.prog 65 63 [.c 4 6 true,.t 5] (tL 85 86):=.of (by kernel_rfl)
theorem Wv:FnIs Tryz.prog 66 36 [.t 2] (Aq 87):=.of (by kernel_rfl)
theorem Ex:FnIs Tryz.prog 67 48 [] (nN 41):=.of (by kernel_rfl)
theorem Dr:FnIs Tryz.prog 68 27 [.t 2] (rN 50 51):=.of (by kernel_rfl)
theorem Bg:FnIs Tryz.prog 69 35 [.t 4] (lH 88 89 90 91):=.of (by kernel_rfl)
theorem Bh:FnIs Tryz.prog 70 14 [] (lI 92 93 94 95):=.of (by kernel_rfl)
theorem Mi:FnIs Tryz.prog 71 30 [.t 2] (sR 96 97 98):=.of (by kernel_rfl)
theorem Mj:FnIs Tryz.prog 72 13 [.t 2] (sS 99 97):=.of (by kernel_rfl)
theorem Uq:FnIs Tryz.prog 73 40 [.t 2] (wW 100 101 102 103):=.of (by kernel_rfl)
theorem Ur:FnIs Tryz.prog 74 11 [.t 2] (wX 73 101 103):=.of (by kernel_rfl)
theorem yL:FnIs Tryz.prog 75 13 [.t 4] gS:=.of (by kernel_rfl)
theorem Ib:FnIs Tryz.prog 76 67 [] (lP 77):=.of (by kernel_rfl)
theorem Ic:FnIs Tryz.prog 77 64 [.t 6] (pP 104 105 51 106 78):=.of (by kernel_rfl)
theorem Bs:FnIs Tryz.prog 78 25 [.t 2] uK:=.of (by kernel_rfl)
theorem Ey:FnIs Tryz.prog 79 26 [.t 4] kS:=.of (by kernel_rfl)
theorem Ie:FnIs Tryz.prog 80 22 [.t 10] (lQ 108 107 110):=.of (by kernel_rfl)
theorem rJ:FnIs Tryz.prog 81 72 [.t 4] gH:=.of (by kernel_rfl)
theorem Ww:FnIs Tryz.prog 82 125 [.t 4] (Ar 111 112 52):=.of (by kernel_rfl)
theorem Wx:FnIs Tryz.prog 83 135 [.c 4 6 true] (As 113 114):=.of (by kernel_rfl)
theorem Mk:FnIs Tryz.prog 84 100 [.t 6] (nI 115 116 117 118 119 87):=.of (by kernel_rfl)
theorem Us:FnIs Tryz.prog 85 26 [.t 4] Fl:=.of (by kernel_rfl)
theorem Wy:FnIs Tryz.prog 86 42 [.t 10] (tM 85 120 121):=.of (by kernel_rfl)
theorem Fz:FnIs Tryz.prog 87 33 [.t 2] mD:=.of (by kernel_rfl)
theorem Ko:FnIs Tryz.prog 88 15 [.t 6] qV:=.of (by kernel_rfl)
theorem Pf:FnIs Tryz.prog 89 46 [.t 2] uL:=.of (by kernel_rfl)
theorem yM:FnIs Tryz.prog 90 124 [.t 4] (iL 88):=.of (by kernel_rfl)
theorem Ml:FnIs Tryz.prog 91 30 [.t 2] (sT 71 72 88):=.of (by kernel_rfl)
theorem Ca:FnIs Tryz.prog 92 134 [] (cZ 48 104):=.of (by kernel_rfl)
theorem yN:FnIs Tryz.prog 93 28 [] (kT 122):=.of (by kernel_rfl)
theorem yO:FnIs Tryz.prog 94 47 [] (fO 123 104):=.of (by kernel_rfl)
theorem yP:FnIs Tryz.prog 95 23 [] kU:=.of (by kernel_rfl)
theorem Ez:FnIs Tryz.prog 96 5 [.t 2] (nO 124):=.of (by kernel_rfl)
theorem Ig:FnIs Tryz.prog 97 22 [.t 2] (pQ 125 127 126):=.of (by kernel_rfl)
theorem Kp:FnIs Tryz.prog 98 15 [.t 2] (qW 125):=.of (by kernel_rfl)
theorem Mm:FnIs Tryz.prog 99 8 [.t 2] (sU 71):=.of (by kernel_rfl)
theorem Ut:FnIs Tryz.prog 100 18 [.t 2] (wY 128 129):=.of (by kernel_rfl)
theorem Fa:FnIs Tryz.prog 101 11 [.t 2] (nP 128):=.of (by kernel_rfl)
theorem Ga:FnIs Tryz.prog 102 6 [.t 2] (tN 131 130):=.of (by kernel_rfl)
theorem Uu:FnIs Tryz.prog 103 21 [.t 2] (wZ 102 132 130):=.of (by kernel_rfl)
theorem aAU:FnIs Tryz.prog 104 23 [.t 2] (Ct 49 51):=.of (by kernel_rfl)
theorem Uv:FnIs Tryz.prog 104 23 [.t 2] (xA 49 51):=.of (by kernel_rfl)
theorem xF:FnIs Tryz.prog 105 57 [.t 4] (jZ 133):=.of (by kernel_rfl)
theorem Ih:FnIs Tryz.prog 106 14 [.c 6 6 true] (pR 104):=.of (by kernel_rfl)
theorem Fb:FnIs Tryz.prog 107 21 [.t 6] kV:=.of (by kernel_rfl)
theorem Dt:FnIs Tryz.prog 108 38 [.t 7] (jW 109):=.of (by kernel_rfl)
theorem Fc:FnIs Tryz.prog 109 8 [.t 4] (kW 45):=.of (by kernel_rfl)
theorem Du:FnIs Tryz.prog 110 16 [.t 4] (jX 109):=.of (by kernel_rfl)
theorem Pg:FnIs Tryz.prog 111 76 [.t 4] (uM 112 53):=.of (by kernel_rfl)
theorem aCV:FnIs Tryz.prog 112 15 [.t 6] Gm:=.of (by kernel_rfl)
theorem Uw:FnIs Tryz.prog 113 69 [.c 6 6 true] (xB 54 114):=.of (by kernel_rfl)
theorem Wz:FnIs Tryz.prog 114 23 [.t 2] (At 55):=.of (by kernel_rfl)
theorem Xa:FnIs Tryz.prog 115 23 [.t 2] (Jh 134):=.of (by kernel_rfl)
theorem Fd:FnIs Tryz.prog 116 26 [.t 4] uN:=.of (by kernel_rfl)
theorem Mn:FnIs Tryz.prog 117 51 [.t 4,.t 5] nJ:=.of (by kernel_rfl)
theorem Ph:FnIs Tryz.prog 118 74 [.t 4] (pS 135):=.of (by kernel_rfl)
theorem Mo:FnIs Tryz.prog 119 14 [.c 6 6 true] (nK 115):=.of (by kernel_rfl)
theorem Xb:FnIs Tryz.prog 120 72 [.t 8,.t 9] (tO 136):=.of (by kernel_rfl)
theorem Ux:FnIs Tryz.prog 121 29 [.t 8] (rO 137):=.of (by kernel_rfl)
theorem Ii:FnIs Tryz.prog 122 58 [.t 8,.t 9] (pT 138 51):=.of (by kernel_rfl)
theorem Dv:FnIs Tryz.prog 123 36 [.t 2] (mQ 139):=.of (by kernel_rfl)
theorem tT:FnIs Tryz.prog 124 169 [.t 2] (uO 140):=.of (by kernel_rfl)
theorem vW:FnIs Tryz.prog 125 7 [.t 2] (mE 141 126):=.of (by kernel_rfl)
theorem tG:FnIs Tryz.prog 126 4 [.t 2] (iT 142):=.of (by kernel_rfl)
theorem Kq:FnIs Tryz.prog 127 16 [.t 0] mF:=.of (by kernel_rfl)
theorem Pi:FnIs Tryz.prog 128 96 [.t 4,.t 5] (uP 143 144):=.of (by kernel_rfl)
theorem Pj:FnIs Tryz.prog 129 95 [.t 2] uQ:=.of (by kernel_rfl)
theorem Oj:FnIs Tryz.prog 130 28 [.t 4] uR:=.of (by kernel_rfl)
theorem Dw:FnIs Tryz.prog 131 9 [.t 0] mY:=.of (by kernel_rfl)
theorem Xc:FnIs Tryz.prog 132 16 [.t 0] tP:=.of (by kernel_rfl)
theorem Bi:FnIs Tryz.prog 133 6 [.t 4] (lJ 145):=.of (by kernel_rfl)
theorem Uy:FnIs Tryz.prog 134 16 [.t 2] rP:=.of (by kernel_rfl)
theorem Xd:FnIs Tryz.prog 135 87 [.t 4] (tQ 147):=.of (by kernel_rfl)
theorem Kr:FnIs Tryz.prog 136 39 [.t 8] xU:=.of (by kernel_rfl)
theorem Mp:FnIs Tryz.prog 137 26 [.t 4] Ov:=.of (by kernel_rfl)
theorem Bj:FnIs Tryz.prog 138 39 [.t 8] lK:=.of (by kernel_rfl)
theorem Zd:FnIs Tryz.prog 140 59 [.t 2] Au:=.of (by kernel_rfl)
theorem vE:FnIs Tryz.prog 141 9 [.t 0] jG:=.of (by kernel_rfl)
theorem qN:FnIs Tryz.prog 142 39 [.t 3] iB:=.of (by kernel_rfl)
theorem Pk:FnIs Tryz.prog 143 61 [.t 2,.t 3,.t 4] pU:=.of (by kernel_rfl)
theorem Uz:FnIs Tryz.prog 144 44 [.t 2] rQ:=.of (by kernel_rfl)
theorem xG:FnIs Tryz.prog 145 88 [] (kA 146):=.of (by kernel_rfl)
theorem vN:FnIs Tryz.prog 146 90 [.t 4] jN:=.of (by kernel_rfl)
theorem Va:FnIs Tryz.prog 147 109 [.t 4] rR:=.of (by kernel_rfl)
/-- The tables that the rows list. -/
def iX:dP:=[(1,Ee),(0,Rw)]
theorem aNO : aAd Tryz.prog [("unicode/utf8.acceptRanges", Rows.laid_unicode_utf8_acceptRanges), ("unicode/utf8.first", Rows.laid_unicode_utf8_first)] = some iX := by kernel_rfl
def aJz:Option A→Bool
 | some (.d (.sc (.bool true)))=>true
 | _=>false
theorem aMd{x:Option A}(h:aJz x=true):x=some (.bool true):=by
 unfold aJz at h;split at h
 ·rfl
 ·cases h
theorem aQB:∀ s:ByteArray,s.size≤1000→FnP iX Tryz.prog 124 [.str s] (.bool (validS s)) :=
 Ry Tryz.laysValid rfl tT (by rw[show Tryz.laysValid_ren.g 3=0 from rfl];exact zZ _ (zW ..)) (by rw[show Tryz.laysValid_ren.g 4=1 from rfl];exact zW ..)
theorem aNP:∀ r,FnP iX Tryz.prog 125 [.sc (.int .i32 r)] (.bool (markC r)):=aE3 vW (by decide) vE tG (by decide) qN (by decide)
theorem aCW:∀ r,FnP iX Tryz.prog 97 [.sc (.int .i32 r)] (.int (gU r)):=aGb Ig (by decide) vW (by decide) vE Kq tG (by decide) qN (by decide)
theorem aJA:∀ l:List Nat,FnP iX Tryz.prog 98 [.d (.sl eRn (gL l))] (.bool (l.all fun n=>markC n)):=aGc Kp (by decide) aNP
theorem aLA:∀ s:ByteArray,s.size≤1000→FnP iX Tryz.prog 96 [.str s] (.bool (validS s)):=aIs Ez (by decide) aQB
theorem aAV:∀ s:ByteArray,s.size≤1000→FnP iX Tryz.prog 71 [.str s] (.int (sV s)):=aIt Mi (by decide) aLA aCW aJA
theorem aLB:∀ s:ByteArray,s.size≤1000→FnP iX Tryz.prog 99 [.str s] (.d (.sl eRn (gL (xD s)))):=aIu Mm (by decide) aAV
theorem aFt:∀ s:ByteArray,s.size≤1000→FnP iX Tryz.prog 72 [.str s] (.int (Jl s)):=aGd Mj (by decide) aLB aCW
theorem aLC:∀ w h,FnP iX Tryz.prog 46 [.int w,.int h] (.bool (xV w h)):=aBK Wp (by decide)
theorem aLD:∀ g:Gl,g.text.size≤1000→FnP iX Tryz.prog 47 [Np g] (.int (eR g)):=aBL Wq (by decide) aAV aFt
theorem aNQ:∀ l:List Gl,FnP iX Tryz.prog 48 [.d (.sl dW (cP l))] (.int (dG l)):=aIy Wr (by decide)
theorem Vb:sY iX Tryz.prog 26:=fun v hs=>aAk Wl (by decide) aLC aLD aNQ (Rz xE) v hs.txt
theorem aJB:∀ l:List Gl,FnP iX Tryz.prog 104 [.d (.sl dW (cP l))] (.d (.sl dW (cP (dE l)))):=aKV aAU (by decide) xE gG (by decide)
theorem Vc:∀ l:List Gl,sW Tryz.prog 51 (.d (.sl dW (cP l))) l:=Yj gG (by decide)
theorem aFu:∀ l:List Gl,sW Tryz.prog 104 (.d (.sl dW (cP l))) (dE l):=aIB Uv (by decide) xE gG (by decide)
theorem Mq:∀ n a b,FnP iX Tryz.prog 88 [.int n,.int a,.int b] (.bool (btw n a b)):=aDJ Ko (by decide)
theorem aHq:∀ c,FnP iX Tryz.prog 89 [pG c] (.bool (blankG c)):=aDK Pf (by decide)
theorem aJC:∀ g:Gl,g.text.size≤1000→FnP iX Tryz.prog 91 [Np g] (.int (eR g)):=aGg Ml (by decide) aAV aFt Mq
theorem aJD:aBX iX.ctx Tryz.prog 90:=fun c ed _ sm hm _ _ _ _ hb e=>aGh yM (by decide) Mq c ed sm hm hb e
theorem aJE:∀ {v:Vw} (c:Cg),Ed v→∀ {m:Nat},Sm v m→m≤100000→(∀ g∈c.gl,g.text.size≤1000)→∀ {h:cM} {id k:Nat} {R:List (List A)},EdIs h id v k R→FnD iX.ctx Tryz.prog 69 [.ptr id 1 0 0,pG c] h (.int (iM v c)) h :=
 fun c ed _ sm hm hg _ _ _ _ e=>aDL Bg (by decide) Mq aHq aJD aJC c ed sm hm hg (zI _) e
theorem aLE:sI Tryz.prog 139:=aDZ (by kernel_rfl)
theorem aHr:∀ ls:List (List Gl),ls.length≤1000→ls.flatten.length≤100000→sW Tryz.prog 123 (.d (.sl eW (dH ls))) ls.flatten:=fun ls h1 h2 Δ h hb =>
 aDI Dv (by decide) (fun n hn h _=>aGE Tryz.growR rfl aLE (by kernel_rfl) n hn h) ls h1 h2 h hb
theorem aNR:nQ iX.ctx Tryz.prog 92 (fun v c=>c.kind=1∧StepPre v c) dV:=aK2 Ca (by decide) aNQ aFu
theorem aJF:nQ iX.ctx Tryz.prog 94 (fun v c=>c.kind=3∧StepPre v c) dV:=aGk yO (by decide) aHr aFu
theorem aJG:nQ iX.ctx Tryz.prog 95 (fun _ c=>c.kind=4) dV:=aGi yP (by decide)
theorem aNS:∀ {Γ:dP} (n t b y:Int),n≤1000000000000000000→FnP Γ Tryz.prog 138 [.int n,.int t,.int b,.int y] (.bool (lW n t b y)):=fun n t b y h=>Oc Bj (by decide) n t b y h
theorem aJH:nQ iX.ctx Tryz.prog 93 (fun v c=>c.kind=2∧StepPre v c) dV:=aGr yN (by decide)
 fun Δ' _ l t b y hp hl h hb=>aDN Ii (by decide) aNS Vc (aGo gG (by decide)) l t b y hp hl h hb
theorem aJI:nQ iX.ctx Tryz.prog 70 StepPre dV:=aDO Bh (by decide) aNR aJH aJF aJG
theorem aP2:aLb iX.ctx Tryz.prog 68:=fun w h1 h2 h=>Sh Dr (by decide) (fun l hl h hb=>Js mV (by decide) l hl h hb) Vc w h1 h2 h (zI _)
theorem aNT:aNx iX.ctx Tryz.prog 68:=fun w h1 h2 h=>aGs Dr (by decide) (fun l hl h hb=>Js mV (by decide) l hl h hb) Vc w h1 h2 h (zI _)
theorem aMe:aFc iX Tryz.prog 41:=fun v l hr hl=>aGO (Δ:=iX.ctx) Pe (by decide) v l hr hl (Vb v hr.sm) (fun h1 h2 h=>aNT v h1 h2 h) aJE aJI aNQ
theorem aPu:aGz iX Tryz.prog 41:=fun v l hr hl=>(aMe v l hr hl).toP
theorem aNU:∀ a b:List Gl,a.length≤50000→b.length≤50000→FnP iX Tryz.prog 146 [.d (.sl dW (cP a)),.d (.sl dW (cP b))] (.d (.sl eW (nU a b))):=aDQ vN (by decide)
theorem aJJ:∀ a b:List Gl,a.length≤50000→b.length≤50000→FnP iX Tryz.prog 105 [.d (.sl dW (cP a)),.d (.sl dW (cP b))] (.d (.sl tD (pX (mH a b)))):=fun a b ha hb =>
 aGu (f1:=145) xF (by decide) a b ha hb (aK9 Bi (by decide) a b) (aGt xG (by decide) a b ha hb (aNU a b ha hb))
theorem aHs:∀ (row:Int) (a b:List Gl),a.length≤50000→b.length≤50000→FnP iX Tryz.prog 77 [.int row,.d (.sl dW (cP a)),.d (.sl dW (cP b))] (eV (eQ row a b)):=fun row a b ha hb =>
 aDS Ic (by decide) aJB row a b (aDT (aA (iG _) ha) (aA (iG _) hb)) (by omega) (aJJ _ _ (aA (iG _) ha) (aA (iG _) hb))
  (fun l=>Jm gG (by decide) _) (fun a b=>aDR Ih (by decide) aJB row a b) (aFa Bs (by decide))
theorem aOj:∀ l:List Cg,FnP iX Tryz.prog 39 [eV l] (.bool (Ss l)):=aDY Ul (by decide) (Nq vV (by decide))
theorem aJK:∀ v:Vw,FnP iX Tryz.prog 24 [fF v] (.bool (greatV v)):=aIx Uh (by decide) vV (by decide)
theorem aFv:Lp iX Tryz.prog 23:=aKW Wj (by decide) yJ (by decide)
theorem aCX:Lp iX Tryz.prog 25:=aAj Wk (by decide) yK (by decide) tF (by decide)
theorem aHt:∀ a b:List Gl,FnP iX Tryz.prog 42 [.d (.sl dW (cP a)),.d (.sl dW (cP b))] (.bool (decide (a=b))):=Aw yJ (by decide)
theorem aLF:vT iX Tryz.prog 45:=aBJ tF (by decide)
theorem aNV:aD6 iX Tryz.prog 58 76:=aLh Bz (by decide) yL (by decide) Ib (by decide) aHs
theorem aNW:aD5 iX Tryz.prog 62:=aLi Ia (by decide) Ey (by decide) Ie (by decide) rJ (by decide) Dt (by decide) Du (by decide) Fb (by decide) Fc (by decide) aLF
theorem aLG:Px iX Tryz.prog 78:=fun c hc=>by
 have:=aFa (Γ:=iX) Bs (by decide) [c] (by simp) (by simpa using hc);rw[aGK] at this;exact this
theorem aJL:Lu iX Tryz.prog 61:=aGL Mh (by decide) aLG
theorem aNX:Lx iX Tryz.prog 33:=aGQ (f1:=76) Md (by decide) Vb aMe (fun x b=>aLe Mg (by decide) x b) aNV (fun l w hl hw h q hq=>aIU Hu (by decide) aJL l w hl hw h q hq) aNW
theorem aMf:∀ s:ByteArray,s.size≤1000→FnP iX Tryz.prog 128 [.str ⟨#[]⟩,.str s] (aD7 (Ik s.data.toList)):=aGU Pi (by decide) Pk (by decide) Uz (by decide)
theorem aPv:∀ l:List Int,l.length≤1000→FnP iX Tryz.prog 129 [.d (.sl eRu (mS l))] (.str (aAz (vM l))):=aGX Pj (by decide)
theorem aJM:∀ s:ByteArray,s.size≤1000→FnP iX Tryz.prog 100 [.str s] (.bool (validS s)):=aCo Ut (by decide) aMf aPv
theorem aFw:∀ s:ByteArray,s.size≤1000→validS s=true→FnP iX Tryz.prog 101 [.str s] (.d (.sl eRn (gL (eI s)))):=aCp Fa (by decide) aMf
theorem aLH:∀ r,FnP iX Tryz.prog 102 [.sc (.int .i32 r)] (.bool (markC r)):=aCq Ga (by decide) Dw Oj (by decide)
theorem aCY:∀ r,FnP iX Tryz.prog 103 [.sc (.int .i32 r)] (.int (gU r)):=aG1 Uu (by decide) Ga (by decide) Dw Xc Oj (by decide)
theorem aCZ:∀ s:ByteArray,s.size≤1000→FnP iX Tryz.prog 73 [.str s] (.int (sV s)):=aG2 Uq (by decide) aJM aFw aLH aCY
theorem aPw:∀ s:ByteArray,s.size≤1000→FnP iX Tryz.prog 74 [.str s] (.int (Jl s)):=aD9 Ur (by decide) aCZ aFw aCY
theorem aMg:∀ w h,FnP iX Tryz.prog 52 [.int w,.int h] (.bool (xV w h)):=aBK Ws (by decide)
theorem aMh:∀ g:Gl,g.text.size≤1000→FnP iX Tryz.prog 53 [Np g] (.int (eR g)):=aBL (fc:=73) (fw:=74) Um (by decide) aCZ aPw
theorem aFx:∀ l:List Gl,FnP iX Tryz.prog 54 [.d (.sl dW (cP l))] (.int (dG l)):=aBN Uo (by decide)
theorem aMi:∀ g,FnP iX Tryz.prog 55 [Np g] (.bool (decide (g=eL))):=aAl Up (by decide)
theorem Es:sY iX Tryz.prog 28:=fun v hs=>aBO Ui (by decide) aMg aMh aFx aMi v hs.txt
theorem aJN:aCv iX Tryz.prog 27:=aNJ Pd (by decide) mV (by decide) (fun rows=>Jm gG (by decide) rows)
theorem aJO:aCB iX Tryz.prog 32:=fun t h=>aG5 (Δ:=iX.ctx) Hj (by decide) aJN Ev (by decide) Ew (by decide) (fun rows=>Jm gG (by decide) rows) t h (zI _)
theorem aAW:Kh iX Tryz.prog 40 67:=⟨fun t=>aI4 Kn (by decide) t,fun t lG hf hl=>aEc Ex (by decide) aPu t lG hf hl⟩
theorem Vd:Do iX Tryz.prog 21:=aG6 Kl (by decide) Vb aPu
theorem aJP:Gx iX Tryz.prog 7:=aLp Pb (by decide) Vb aJN
theorem aFy:Bf iX Tryz.prog 12:=aI6 Mb (by decide)
theorem aLI:aAE iX Tryz.prog 17:=aI7 Mc (by decide) Vd
theorem aLJ:Tr iX Tryz.prog 31:=aI9 Km (by decide) aAW
theorem aNY:aAF iX Tryz.prog 34:=aLr Me (by decide) aAW
theorem aPx:aJa iX Tryz.prog 15:=aNL Ug (by decide) Vd aAW aJN
theorem aJQ:Gz iX Tryz.prog 10:=aLs Pc (by decide) Vd Vb aLJ aJO aCX aNX aNY
theorem aNZ:aEh iX Tryz.prog 5:=aLt Wg (by decide) aJK
theorem aQC:dO awA=0:=by kernel_rfl
theorem aQD:dO awB=0:=by kernel_rfl
theorem aJR:FnP iX Tryz.prog 6 [] (.bool true):=aEi Uf aJP aJQ aLI aPx aFy aCX aQC aQD
theorem aMj:∀ n a b,FnP iX Tryz.prog 112 [.int n,.int a,.int b] (.bool (btw n a b)):=aNK aCV (by decide)
theorem aJS:aEf iX Tryz.prog 82:=fun v c ed sm hg=>aLo Ww (by decide) aMj aMg v c ed fun hk =>
 aEe Pg (by decide) aMj aMh v c hk ed.len (gF.1 ed.sz).2 sm.row hg
theorem aFz:∀ l:List Gl,l.length≤1000000→FnP iX Tryz.prog 114 [.d (.sl dW (cP l))] (.d (.sl dW (cP (dE l)))):=Oi Wz (by decide) aMi
theorem aJT:aFq iX Tryz.prog 113:=aHk Uw (by decide) aFx aFz
theorem aFA:aAO iX Tryz.prog 83:=aJu Wx (by decide) aJT aFz
theorem aN0:aMc iX Tryz.prog 63:=fun v w c sv hk hc hw Xo lG h q hq=>aCS Dq (by decide) Es aJS aFA aFx sv hk hc hw Xo lG.txt ⟨(fH.1 hk).1,hc,sv.row,lG.len⟩ hq
theorem aLK:aIV iX Tryz.prog 84:=aJx Mk (by decide) Xa (by decide) Uy (by decide) Fd (by decide) Mn (by decide) Ph (by decide) Xd (by decide) Va (by decide) Mo (by decide) Fz (by decide)
theorem aLL:aFs iX Tryz.prog 64:=fun x b h1 h2 sx sb=>aEv Wt (by decide) x b (by omega) h2 sx sb aLK
theorem aJU:vT iX Tryz.prog 137:=Aw Mp (by decide)
theorem aLM:aAQ iX Tryz.prog 65:=aJy Wu (by decide) Us (by decide) Wy (by decide) Xb (by decide) Kr (by decide) Ux (by decide) aJU
theorem aHu:Lu iX Tryz.prog 66:=aEq Wv (by decide) (aEr Fz (by decide))
theorem aLN:Lx iX Tryz.prog 37:=aEw Wo (by decide) Es aN0 aLL aLM aHu
theorem aLO:Yy iX Tryz.prog 30:=aEd Wn (by decide) aHt
theorem aPy:aGz iX Tryz.prog 63:=aHm Dq (by decide) Es aJS aFA aFx
theorem aAX:Ki iX Tryz.prog 29:=aJe Wm (by decide)
theorem aJV:Ts iX Tryz.prog 35:=aG9 Uj (by decide) aAX Es aPy
theorem aJW:Bf iX Tryz.prog 13:=aJf Wi (by decide)
theorem aLP:aAH iX Tryz.prog 38:=aCD Mf (by decide)
theorem aLQ:Gx iX Tryz.prog 8:=aJh aAS (by decide) Es aAX
theorem aN1:aEj iX Tryz.prog 36:=aHa Uk (by decide)
theorem aLR:Gz iX Tryz.prog 11:=aJi aAT (by decide) aJV Es aAX aN1 aFv aLN aLP
theorem aLS:aAG iX Tryz.prog 9:=aJd Wh (by decide) aFv aLO
/-! ### Arguments -/
def aEy:Ty:=.st [.str,.bool,.int .i64]
def aAY:Ty:=.sl ⟨3,32⟩ aEy
theorem aJX{xs:List D}(h:WT aEy xs):∃ g:Gl,xs=g.row:=by
 obtain⟨a,b,rfl,⟨s,rfl,_⟩,a2,b2,rfl,⟨w,rfl⟩,a3,b3,rfl,⟨n,rfl,_⟩,rfl⟩:=h;exact⟨⟨s,w,n⟩,rfl⟩
theorem aFB:∀ {rows:List (List D)},(∀ r∈rows,WT aEy r)→∃ l:List Gl,rows=cP l
 | [],_=>⟨[],rfl⟩
 | r::rows,h=>by
  obtain⟨g,rfl⟩:=aJX (h r (zW ..));obtain⟨l,rfl⟩:=aFB fun r hr=>h r (zZ _ hr);exact⟨g::l,rfl⟩
theorem aHv{xs:List D}(h:WT aAY xs):∃ l:List Gl,xs=[.sl dW (cP l)]:=by
 obtain⟨rows,rfl,hr⟩:=h;obtain⟨l,rfl⟩:=aFB hr;exact⟨l,rfl⟩
def aMk:Ty:=.st [.int .i64,.int .i64,.sl ⟨1,24⟩ aAY,.int .i64,.int .i64,.bool]
theorem aC0:∀ {rows:List (List D)},(∀ r∈rows,WT aAY r)→∃ l:List (List Gl),rows=dH l
 | [],_=>⟨[],rfl⟩
 | r::rows,h=>by
  obtain⟨g,rfl⟩:=aHv (h r (zW ..));obtain⟨l,rfl⟩:=aC0 fun r hr=>h r (zZ _ hr);exact⟨g::l,rfl⟩
theorem aLT{xs:List D}(h:WT aMk xs):∃ v:Vw,xs=v.ds:=by
 obtain⟨_,_,rfl,⟨w,rfl,_⟩,_,_,rfl,⟨h,rfl,_⟩,_,_,rfl,⟨rows,rfl,hr⟩,_,_,rfl,⟨r,rfl,_⟩,_,_,rfl,⟨c,rfl,_⟩,_,_,rfl,⟨b,rfl⟩,rfl⟩:=h;obtain⟨l,rfl⟩:=aC0 hr;exact⟨⟨w,h,l,r,c,b⟩,rfl⟩
def aAZ:Ty:=.st [aMk,.int .i64]
def Ks:Ty:=.sl ⟨7,72⟩ aAZ
theorem aHw{xs:List D}(h:WT aAZ xs):∃ m:Mom,xs=m.ds:=by
 obtain⟨_,_,rfl,hv,_,_,rfl,⟨n,rfl,_⟩,rfl⟩:=h;obtain⟨v,rfl⟩:=aLT hv;exact⟨⟨v,n⟩,rfl⟩
theorem Ok:∀ {rows:List (List D)},(∀ r∈rows,WT aAZ r)→∃ l:List Mom,rows=rF l
 | [],_=>⟨[],rfl⟩
 | r::rows,h=>by
  obtain⟨g,rfl⟩:=aHw (h r (zW ..));obtain⟨l,rfl⟩:=Ok fun r hr=>h r (zZ _ hr);exact⟨g::l,rfl⟩
theorem aEz{xs:List D}(h:WT Ks xs):∃ l:List Mom,xs=[.sl eMo (rF l)]:=by
 obtain⟨rows,rfl,hr⟩:=h;obtain⟨l,rfl⟩:=Ok hr;exact⟨l,rfl⟩
end Go.Proofs.YtlllnjhgjijnkaaGreatDoor.Nx
