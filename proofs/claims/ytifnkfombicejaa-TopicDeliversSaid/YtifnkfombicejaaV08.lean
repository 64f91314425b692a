import Derived.Test.YtifnkfombicejaaV06
set_option linter.all false
set_option maxHeartbeats 1000000
namespace Go.VS
def Cc:Nat:=9
def Cd:Nat:=11
def wW:Nat:=12
def qo:Nat:=14
def F6:Nat:=17
def zh:Nat:=20
def sX:Nat:=22
def F7:Nat:=25
def F8:Nat:=10025
def Ce:Nat:=26
def oH:Nat:=34
def zi:Nat:=35
def F9:Nat:=37
def Ga:Nat:=38
def Gb:Nat:=39
def Gc:Nat:=40
def Ge:Nat:=41
def qp:Nat:=42
def Gf:Nat:=43
def zj:Nat:=44
def Gg:Nat:=45
def zk:Nat:=46
def sY:Nat:=47
def Cf:Nat:=48
def Cg:Nat:=49
def Ch:Nat:=50
def Ci:Nat:=51
def Gi:Nat:=62
def Gj:Nat:=63
def zl:Nat:=66
def Cj:Nat:=67
def uT:Nat:=73
def zm:Nat:=74
def Ck:Nat:=75
def Gk:Nat:=76
def Cm:Nat:=77
def Gl:Nat:=78
def Cn:Nat:=79
def K2:Nat:=80
def Co:Nat:=81
def Cp:Nat:=82
def Gm:Nat:=83
def zn:Nat:=84
def Gn:Nat:=85
def Cq:Nat:=86
def zo:Nat:=87
def Cr:Nat:=88
def zp:Nat:=89
def Gp:Nat:=90
def Gq:Nat:=94
def Cs:Nat:=97
def QG:Nat:=98
def QH:Nat:=99
def Ct:Nat:=100
def zq:Nat:=101
def Gr:Nat:=102
def Cu:Nat:=103
def Gs:Nat:=106
def QI:Nat:=107
def Gt:Nat:=108
@[simp] def zR:List D:=[(.i .i64 0),(.i .i64 0),(.i .i64 0),(.sl 1 true []),(.sl 5 true []),(.sl 1 true []),(.sl 2 true []),(.b false),(.i .i64 0)]
@[simp] def zQ:List D:=[(.i .i64 0),(.i .i64 0),(.i .i64 0),(.i .i64 0),(.i .i64 0)]
@[simp] def k0:A:=.k (.i .i64 0)
@[simp] def iY:List D:=[(.i .i64 0),(.i .i64 0),(.i .i64 0),(.sl 1 true []),(.sl 5 true []),(.sl 1 true []),(.sl 2 true []),(.b false),(.i .i64 0),(.b false),(.i .i64 0),(.b false),(.sl 5 true [])]
@[simp] def Cv:List D:=[(.i .i64 0),(.i .i64 0),(.i .i64 0),(.b false),(.i .i64 0)]
@[simp] def rJ:A:=.k (.b true)
@[simp] def QJ:A:=.k (.b false)
@[simp] def eW(n:Int):A:=.k (.i .i64 n)
instance:Coe I J:=⟨J.op⟩
@[simp] def aa(d x:Nat):J:=.op (.mv d (.t x))
@[simp] def ko(d:Nat)(n:Int):J:=.op (.mv d (eW n))
@[simp] def dj(d:Nat):J:=.op (.mv d k0)
@[simp] def dx(d:Nat):J:=.op (.mv d QJ)
@[simp] def uU(d:Nat):J:=.op (.mv d rJ)
@[simp] def az(d x:Nat):J:=.op (.ld d (.t x) 1 false)
@[simp] def bU(d x n:Nat):J:=.op (.ld d (.t x) n true)
@[simp] def ez(d x:Nat):J:=.op (.lN d (.t x) 1 false)
@[simp] def QK(d x n:Nat):J:=.op (.lN d (.t x) n true)
@[simp] def aG(d x o:Nat):J:=.op (.fa d (.t x) o 1)
@[simp] def eO(d x o:Nat):J:=.op (.mE d (.t x) o 1)
@[simp] def dy(x y n:Nat):J:=.op (.st (.t x) (.t y) n false)
@[simp] def kZ(x y n:Nat):J:=.op (.st (.t x) (.t y) n true)
@[simp] def ew(d x n:Nat):J:=.op (.box d (.t x) n true)
@[simp] def Cw(d x n:Nat):J:=.op (.box d (.t x) n false)
@[simp] def cI(d x:Nat):J:=.op (.len d (.t x) .sl)
@[simp] def fZ(d x i:Nat):J:=.op (.ext d (.t x) i)
@[simp] def jQ(d x:Nat):J:=.op (.un d .not (.t x))
@[simp] def bQ(d x:Nat):J:=.op (.mB d (.t x))
@[simp] def eP(d x i n:Nat):J:=.op (.fD d (.t x) (.t i) n)
@[simp] def fJ(d:Nat)(z:List D):J:=.op (.new d z)
@[simp] def Cx(d:Nat)(z:List D):J:=.op (.build d z [])
@[simp] def cA(d:Nat)(o:BinOp)(x y:Nat):J:=.op (.bin d o (.t x) (.t y))
@[simp] def bI(d:Nat)(o:BinOp)(x:Nat)(n:Int):J:=.op (.bin d o (.t x) (eW n))
@[simp] def cZ(d:Nat)(o:BinOp)(x:Nat):J:=.op (.bin d o (.t x) k0)
@[simp] def K3(d f:Nat):J:=.op (.call (some d) f [])
@[simp] def oI(d f a:Nat):J:=.op (.call (some d) f [.t a])
@[simp] def jR(d f a b:Nat):J:=.op (.call (some d) f [.t a,.t b])
@[simp] def Gu(d f a b c:Nat):J:=.op (.call (some d) f [.t a,.t b,.t c])
@[simp] def Cy(d f a:Nat):J:=.op (.iS (some d) f [.t a])
@[simp] def sZ(d f a b:Nat):J:=.op (.iS (some d) f [.t a,.t b])
@[simp] def zu(d f a b c:Nat):J:=.op (.iS (some d) f [.t a,.t b,.t c])
@[simp] def Cz(d f a:Nat):J:=.op (.jJ (some d) f [.t a])
@[simp] def Gv(d x a:Nat):J:=.op (.j0 (some d) (.t x) [.t a])
@[simp] def b8(o:Bool)(d c:Nat)(l:List J)(x:Nat):J:=.sc o d c l (.t x)
@[simp] def lY(d x y n:Nat):J:=.op (.app d (.t x) (.t y) n)
@[simp] def lZ(d x a n:Nat):J:=.op (.sl d (.t x) (some (.t a)) none n)
@[simp] def s6(d x a n:Nat):J:=.op (.sl d (.t x) none (some (.t a)) n)
@[simp] def rK(d e n:Nat)(z:List D)(x:Nat):J:=.op (.jh d e n z [(0,.t x)] true)
@[simp] def aq(l:List J)(b:C):C:=.seq (.bG l) b
@[simp] def gQ(p:List Nat)(l:List J)(b:C):C:=.seq (.jk [] p l) b
@[simp] def fQ(n:Nat)(a b:C):C:=.ite (.t n) a b
@[simp] def gu(n:Nat)(a:C):C:=.ite (.t n) a .skip
@[simp] def dQ(l:List J)(n:Nat)(a b:C):C:=.seq (.seq (.bG l) (.ite (.t n) a .skip)) b
@[simp] def Gw(l:List J)(n:Nat)(a b c:C):C:=.seq (.seq (.bG l) (.ite (.t n) a b)) c
@[simp] def br(l:List J):C:=.seq (.bG l) .ret
@[simp] def aP(a b:C):C:=.seq a b
def zw:C :=aq [cA 33 .lss 32 31] (aP (fQ 33 .skip (aP (.keep []) (.exit 0))) (aP (.bL 1 (aq [eP 34 30 32 5,bU 35 34 5,fJ 9 zQ,kZ 9 35 5] (aq [bU 37 2 4,bU 38 5 9,bU 39 9 5,Gu 40 qo 37 38 39,aa 36 40,fZ 41 36 0,fZ 42 36 1,fJ 10 iY,kZ 10 41 13,aa 11 42] (dQ [aa 43 11,cZ 44 .neq 43] 44 (aP (.keep [2,5,7,30,31,32]) (.exit 1)) (dQ [aa 45 7,bU 46 9 5,bU 47 10 13,zu 48 oH 45 46 47,jQ 49 48,aa 50 49,b8 true 56 50 [aa 51 7,I.fa 52 (.t 10) 0 9,bU 53 52 9,sZ 54 zi 51 53,jQ 55 54] 55] 56 (aq [dx 4] (aP (.keep [4]) .ret)) (.bG [I.fa 57 (.t 10) 0 9,bU 58 57 9,dy 5 58 9])))))) (.bG [bI 59 .add 32 1,aa 32 59])))
def zx:F:=.mk (aq [ew 2 0 4,dx 4] (aq [bU 13 2 4,oI 14 wW 13,aa 12 14,fZ 15 12 0,fZ 16 12 1,fJ 5 zR,dy 5 15 9,aa 6 16] (dQ [aa 17 6,cZ 18 .neq 17,aa 19 18,b8 true 23 19 [aa 20 1,cI 21 20,bI 22 .gtr 21 20] 22] 23 (br [K3 24 Cd,aa 4 24]) (aq [I.mq 25,I.mq 26,I.mq 27,I.build 28 [.n8,.n8,.n8,.sl 1 true []] [(0,1,.t 25),(1,1,.t 26),(2,1,.t 27)],Cw 29 28 4,aa 7 29] (aP (aq [aa 30 1,cI 31 30,dj 32] (.bL 0 (.loop [2,5,7,30,31,32] zw))) (br [K3 60 Cd,aa 4 60])))))) [.t 4] false none
def CC:C :=aq [cA 27 .lss 26 25] (aP (fQ 27 .skip (aP (.keep [1,2,3,4]) (.exit 0))) (aP (.bL 1 (aq [eP 28 24 26 5,bU 29 28 5,fJ 6 zQ,kZ 6 29 5] (dQ [aa 30 3,cZ 31 .neq 30] 31 (aq [dx 0] (aP (.keep [0]) .ret)) (aq [bU 33 1 4,bU 34 2 9,bU 35 6 5,Gu 36 qo 33 34 35,aa 32 36,fZ 37 32 0,fZ 38 32 1,dy 4 37 13,aa 3 38] (.bG [I.fa 39 (.t 4) 0 9,bU 40 39 9,dy 2 40 9]))))) (.bG [bI 41 .add 26 1,aa 26 41])))
def Gx:F:=.mk (aq [dx 0] (aq [I.build 13 [.s [],.i .i64 0,.i .i64 0,.i .i64 0] [(1,1,eW 7),(2,1,eW 1)],fJ 1 [.s [],.i .i64 0,.i .i64 0,.i .i64 0],kZ 1 13 4] (aq [bU 15 1 4,oI 16 wW 15,aa 14 16,fZ 17 14 0,fZ 18 14 1,fJ 2 zR,dy 2 17 9,aa 3 18] (aq [fJ 4 iY] (aP (aq [I.call (some 19) sX [eW 1,eW 69,k0],I.call (some 20) sX [eW 2,eW 69,k0],I.call (some 21) sX [eW 2,eW 70,k0],I.call (some 22) sX [eW 3,eW 68,eW 7],I.call (some 23) sX [eW 3,eW 68,eW 8],I.jh 24 5 5 zQ [(0,.t 19),(1,.t 20),(2,.t 21),(3,.t 22),(4,.t 23)] true,cI 25 24,dj 26] (.bL 0 (.loop [1,2,3,4,24,25,26] CC))) (aP (gQ [0,1,2,3,4,5,6,7,8,9] [QK 43 1 4,bU 44 2 9,I.call (some 45) sX [eW 1,eW 70,k0],Gu 46 qo 43 44 45,aa 42 46,fZ 47 42 0,fZ 48 42 1,fJ 7 iY,.re (.ld 44 (.t 2) 9 true),dy 7 47 13,aa 8 48] (.kG [7])) (aq [I.fa 50 (.t 7) 0 9,bU 51 50 9,I.call (some 52) Ce [.t 51,eW 1],aa 49 52,fZ 53 49 0,fZ 54 49 1,aa 9 53,aa 10 54] (aq [I.fa 56 (.t 7) 0 9,bU 57 56 9,I.call (some 58) Ce [.t 57,eW 2],aa 55 58,fZ 59 55 0,fZ 60 55 1,aa 11 59,aa 12 60] (br [aa 61 3,cZ 62 .eql 61,aa 63 62,b8 false 66 63 [aa 64 8,cZ 65 .eql 64] 65,aa 67 66,b8 false 70 67 [aa 68 10,cZ 69 .eql 68] 69,aa 71 70,b8 false 74 71 [aa 72 12,cZ 73 .eql 72] 73,aa 75 74,b8 false 78 75 [aG 76 4 9,az 77 76] 77,aa 79 78,b8 false 83 79 [aG 80 7 10,az 81 80,bI 82 .eql 81 7] 82,aa 84 83,b8 false 87 84 [aG 85 7 11,az 86 85] 86,aa 88 87,b8 false 93 88 [aG 89 7 12,az 90 89,cI 91 90,bI 92 .eql 91 1] 92,aa 94 93,b8 false 101 94 [aG 95 7 12,az 96 95,I.fD 97 (.t 96) k0 5,aG 98 97 0,az 99 98,bI 100 .eql 99 3] 100,aa 102 101,b8 false 105 102 [aa 103 9,bI 104 .eql 103 1] 104,aa 106 105,b8 false 109 106 [aa 107 11,bI 108 .eql 107 1] 108,aa 0 109]))))))))) [.t 0] false none
def CD:F:=.mk (aq [ew 1 0 4,fJ 2 zR,dj 3] (dQ [aG 4 1 1,az 5 4,bI 6 .neq 5 7] 6 (br [Cx 7 zR,dy 2 7 9,ko 3 8]) (dQ [aG 8 1 2,az 9 8,cZ 10 .lss 9,aa 11 10,b8 true 15 11 [aG 12 1 2,az 13 12,bI 14 .gtr 13 100] 14,aa 16 15,b8 true 20 16 [aG 17 1 3,az 18 17,cZ 19 .neq 18] 19] 20 (br [Cx 21 zR,dy 2 21 9,ko 3 2]) (br [I.build 22 zR [(0,1,.k (.i .i64 (-1)))],dy 2 22 9,dj 3])))) [.c 2 9 true,.t 3] false none
def iN:F:=.mk (aq [ew 3 0 4,ew 4 1 9,ew 5 2 5,fJ 6 iY,dj 7] (dQ [bU 13 3 4,bU 14 4 9,jR 15 F6 13 14,cZ 16 .neq 15] 16 (br [Cx 17 iY,dy 6 17 13,ko 7 1]) (aP (aq [bU 18 4 9,bU 19 5 5,jR 20 F9 18 19,aa 8 20] (aq [aa 21 8,cZ 22 .neq 21] (gu 22 (br [Cx 23 iY,aa 24 8,dy 6 23 13,aa 7 24])))) (aq [bU 25 3 4,bU 26 4 9,I.jJ (some 27) Ga [.t 25,.t 26],fJ 9 [.nil],kZ 9 27 1] (aq [I.mq 28,I.iB 29 Gb [] [.t 9,.t 5],I.ji (.t 28) (eW 69) (.t 29) [.i],I.iB 30 Ge [] [.t 9,.t 5],I.ji (.t 28) (eW 71) (.t 30) [.i],I.iB 31 Gg [] [.t 9,.t 5],I.ji (.t 28) (eW 68) (.t 31) [.i],I.iB 32 Ch [] [.t 9,.t 5],I.ji (.t 28) (eW 70) (.t 32) [.i],aa 33 28,aa 10 33] (aq [aa 34 10,aG 35 5 1,az 36 35,I.jj 37 (.t 34) (.t 36) .vQ false [.i],aa 11 37] (aq [aa 38 11,I.lK (some 39) (.t 38) [],fJ 12 iY,dy 12 39 13] (gQ [0,1,2,3,4,5,6,7,8,9,10,11] [ez 40 9,bQ 41 40,I.fa 42 (.t 41) 1 9,bU 43 42 9,ez 44 9,bQ 45 44,aG 46 45 10,az 47 46,I.fa 48 (.t 12) 0 9,dy 48 43 9,.re (.fa 46 (.t 45) 10 1),.re (.ld 47 (.t 46) 1 false),aG 49 12 12,dy 49 47 1] (br [bU 50 12 13,dy 6 50 13,dj 7]))))))))) [.c 6 13 true,.t 7] false none
def uV:F:=.mk (aq [ew 2 0 4,ew 3 1 9,dj 4] (aP (aq [bU 8 2 4,oI 9 wW 8,aa 7 9,fZ 10 7 0,fZ 11 7 1,fJ 5 zR,kZ 5 10 9,aa 6 11] (aq [aa 12 6,cZ 13 .neq 12] (gu 13 (br [aa 14 6,aa 4 14])))) (dQ [aG 15 3 0,az 16 15,I.bin 17 .neq (.t 16) (.k (.i .i64 (-1))),aa 18 17,b8 true 25 18 [aG 19 2 2,az 20 19,aG 21 3 6,az 22 21,jR 23 Gi 20 22,jQ 24 23] 24,aa 26 25,b8 true 32 26 [aG 27 2 2,az 28 27,bU 29 3 9,jR 30 Gj 28 29,jQ 31 30] 31] 32 (br [ko 4 1]) (dQ [aG 33 3 1,az 34 33,cZ 35 .neq 34,aa 36 35,b8 true 40 36 [aG 37 3 2,az 38 37,cZ 39 .neq 38] 39,aa 41 40,b8 true 50 41 [aG 42 3 3,az 43 42,cI 44 43,aG 45 3 5,az 46 45,cI 47 46,cA 48 .add 44 47,cZ 49 .gtr 48] 49,aa 51 50,b8 true 54 51 [aG 52 3 7,az 53 52] 53,aa 55 54,b8 true 59 55 [aG 56 3 8,az 57 56,cZ 58 .neq 57] 58] 59 (br [ko 4 1]) (br [dj 4]))))) [.t 4] false none
def Gy:F:=.mk (aq [dx 4] (br [aa 5 0,aa 6 1,jR 7 zl 5 6,cZ 8 .geq 7,aa 4 8])) [.t 4] false none
def Gz:F:=.mk (aq [fJ 6 zQ] (br [aa 7 0,aa 8 1,aa 9 2,I.build 10 zQ [(0,1,.t 7),(1,1,.t 8),(2,1,.t 9)],dy 6 10 5])) [.c 6 5 true] false none
def rL:F:=.mk (aq [I.mv 2 (.k (.sl 1 true []))] (dQ [aa 3 0,I.jZ 4 false (.t 3) .sl] 4 (br [I.mv 2 (.k (.sl 1 true []))]) (br [I.jh 5 1 0 [.i .i64 0] [] false,aa 6 0,lY 7 5 6 1,aa 2 7]))) [.t 2] true none
def CE:F:=⟨rL.code,rL.res,false,none⟩
def CF:F:=.mk (aq [ew 2 0 9,dj 4,dj 5] (aq [bU 7 2 9,aa 8 1,jR 9 qp 7 8,aa 6 9] (dQ [aa 10 6,cZ 11 .lss 10] 11 (br [dj 4,ko 5 7]) (br [aG 12 2 6,az 13 12,aa 14 6,eP 15 13 14 2,aG 16 15 1,az 17 16,cI 18 17,aa 4 18,dj 5])))) [.t 4,.t 5] false none
def rM:F:=.mk (aq [ew 4 1 5,ew 5 2 13,dx 6] (aP (aq [aG 7 4 1,az 8 7] (.bL 0 (aq [bI 10 .eql 8 69,aa 9 10] (fQ 9 (.jk [] [0,1,2,3,4,5,6,7,8,9,10,11,12,13,14,15,16,17] [aa 11 0,bQ 12 11,aG 13 12 0,az 14 13,eO 15 4 0,ez 16 15,aa 17 0,bQ 18 17,aG 19 18 1,az 20 19,eO 21 4 0,ez 22 21,I.mu 23 (.t 14) (.t 16) (.sl 1 true []) [.i],fZ 24 23 1,I.lJ (.t 14) (.t 24) (.k (.sl 1 true [])),I.mu 25 (.t 20) (.t 22) (.sl 1 true []) [.i],fZ 26 25 1,I.lJ (.t 20) (.t 26) (.k (.sl 1 true []))]) (aq [bI 28 .eql 8 71,aa 27 28] (fQ 27 (gQ [0,1,2,3,4,5,6] [aa 29 0,bQ 30 29,aG 31 30 0,az 32 31,eO 33 4 0,ez 34 33,I.iC (.t 32) (.t 34) [.i]] (.jk [] [0,1,2,3,4,5,6] [aa 35 0,bQ 36 35,aG 37 36 1,az 38 37,eO 39 4 0,ez 40 39,I.iC (.t 38) (.t 40) [.i]])) (aq [bI 42 .eql 8 68,aa 41 42] (gu 41 (aq [aG 43 5 9,az 44 43] (fQ 44 (.jk [] [0,1,2,3,4,5,6,7,8,9,10,11,12,13,15,16,14,17,18,19,20,21,22] [aa 45 0,aa 46 0,bQ 47 46,aG 48 47 2,az 49 48,eO 50 4 0,ez 51 50,aa 52 0,bQ 53 52,aG 54 53 3,az 55 54,eO 56 4 0,ez 57 56,rK 58 1 1 [.i .i64 0] 57,eO 60 4 2,ez 61 60,lY 59 55 58 1,.re (.fa 48 (.t 47) 2 1),.re (.ld 49 (.t 48) 1 false),bQ 62 45,aG 63 62 3,dy 63 59 1,I.mu 64 (.t 49) (.t 51) (.i .i64 0) [.i],fZ 65 64 1,I.lJ (.t 49) (.t 65) (.t 61)]) (dQ [aa 66 0,bQ 67 66,aG 68 67 3,az 69 68,cI 70 69,cZ 71 .gtr 70] 71 (br [dx 6]) (.bG [aa 72 0,aG 73 4 2,az 74 73,sZ 75 uT 72 74])))))))))))) (dQ [aa 76 0,aG 77 5 12,az 78 77,sZ 79 zm 76 78,jQ 80 79] 80 (br [dx 6]) (dQ [aG 81 4 1,az 82 81,bI 83 .eql 82 70,aa 84 83,b8 false 88 84 [aG 85 5 9,az 86 85,jQ 87 86] 87] 88 (.jk [] [0,1,2,3,4,5,6,7,8,9,10,11,12,13,14,15,16,17] [aa 89 0,bQ 90 89,aG 91 90 1,az 92 91,eO 93 4 0,ez 94 93,aa 95 0,bQ 96 95,aG 97 96 1,az 98 97,eO 99 4 0,ez 100 99,I.jj 101 (.t 98) (.t 100) (.sl 1 true []) false [.i],eO 102 5 10,ez 103 102,rK 104 1 1 [.i .i64 0] 103,lY 105 101 104 1,.re (.fa 91 (.t 90) 1 1),.re (.ld 92 (.t 91) 1 false),I.ji (.t 92) (.t 94) (.t 105) [.i]]) (br [uU 6]))))) [.t 6] true none
def CG:C :=aq [cA 22 .lss 21 20] (aP (fQ 22 .skip (aP (.keep []) (.exit 0))) (aP (.bL 1 (aq [eP 23 19 21 2,bU 24 23 2,fJ 6 [.i .i64 0,.sl 1 true []],kZ 6 24 2] (gQ [0,1,2,3,4,5,6,7,8,9,10,11] [aa 26 0,bQ 27 26,aG 28 27 0,az 29 28,eO 30 6 0,ez 31 30,I.jj 32 (.t 29) (.t 31) (.sl 1 true []) true [.i],aa 25 32,fZ 33 25 0,fZ 34 25 1,aa 7 33,aa 8 34] (gQ [0,1,2,3,4,5,6,7,8,9,10,11,12,13,14,15,16,17] [aa 35 8,jQ 36 35,aa 37 36,b8 true 52 37 [aa 38 0,bQ 39 38,aG 40 39 1,az 41 40,eO 42 6 0,ez 43 42,I.oa 44 (.t 41) (.t 43) (.sl 1 true []) [.i],eO 45 6 1,ez 46 45,I.jh 47 1 2 [.sl 1 true []] [(0,.t 44),(1,.t 46)] true,oI 48 Gk 47,aa 49 7,I.calls (some 50) Ck [.t 48,.t 49],jQ 51 50] 51] (gu 52 (aq [dx 4] (aP (.keep [4]) .ret))))))) (.bG [bI 53 .add 21 1,aa 21 53])))
def GA:F:=.mk (aq [ew 3 1 9,dx 4] (aP (gQ [0,1,2,3,4,5,6,7,8] [eO 9 3 6,ez 10 9,cI 11 10,aa 12 0,bQ 13 12,aG 14 13 0,az 15 14,I.len 16 (.t 15) .mp,cA 17 .neq 11 16] (gu 17 (br [dx 4]))) (aP (aq [aG 18 3 6,az 19 18,cI 20 19,dj 21] (.bL 0 (.loop [0,19,20,21] CG))) (br [uU 4])))) [.t 4] true none
def oJ:F:=.mk (aq [ew 2 0 9,ew 3 1 5,dj 4] (dQ [aG 8 3 0,az 9 8,cZ 10 .lss 9,aa 11 10,b8 true 15 11 [aG 12 3 0,az 13 12,bI 14 .geq 13 16] 14,aa 16 15,b8 true 20 16 [aG 17 3 3,az 18 17,cZ 19 .lss 18] 19,aa 21 20,b8 true 25 21 [aG 22 3 3,az 23 22,bI 24 .gtr 23 9] 24,aa 26 25,b8 true 30 26 [aG 27 3 4,az 28 27,cZ 29 .lss 28] 29,aa 31 30,b8 true 35 31 [aG 32 3 4,az 33 32,bI 34 .gtr 33 1099511627776] 34] 35 (br [ko 4 2]) (aP (aq [aG 36 3 1,az 37 36] (.bL 0 (Gw [bI 39 .eql 37 68,aa 38 39] 38 .skip (aq [bI 40 .eql 37 69,aa 38 40] (fQ 38 .skip (aq [bI 41 .eql 37 70,aa 38 41] (fQ 38 .skip (.bG [bI 42 .eql 37 71,aa 38 42]))))) (fQ 38 .skip (br [ko 4 8]))))) (dQ [aG 43 3 1,az 44 43,bI 45 .eql 44 68,aa 46 45,b8 false 51 46 [aG 47 3 2,az 48 47,oI 49 Cm 48,jQ 50 49] 50] 51 (br [ko 4 2]) (aP (aq [aG 53 2 4,az 54 53,aG 55 3 0,az 56 55,jR 57 Cj 54 56,aa 52 57,fZ 58 52 0,fZ 59 52 1,aa 5 58,aa 6 59] (aq [aa 60 6] (gu 60 (br [ko 4 17])))) (aq [bU 61 2 9,aG 62 3 0,az 63 62,jR 64 qp 61 63,cZ 65 .geq 64,aa 7 65] (dQ [aG 66 3 1,az 67 66,bI 68 .eql 67 69,aa 69 68,b8 false 71 69 [aa 70 7] 70] 71 (br [ko 4 6]) (dQ [aG 72 3 1,az 73 72,bI 74 .eql 73 71,aa 75 74,b8 true 79 75 [aG 76 3 1,az 77 76,bI 78 .eql 77 70] 78,aa 80 79,b8 false 83 80 [aa 81 7,jQ 82 81] 82] 83 (br [ko 4 20]) (br [dj 4]))))))))) [.t 4] false none
def GB:F:=.mk (aq [Cw 2 0 4,Cw 3 1 9,I.mv 4 (.k .nil)] (aq [aG 5 3 6,az 6 5,Cz 7 Gl 6,aG 8 3 6,dy 8 7 1] (aq [aG 9 3 4,az 10 9,Cz 11 Cn 10,aG 12 3 4,dy 12 11 1] (br [aG 13 2 2,az 14 13,bU 15 3 9,I.build 16 [.i .i64 0,.i .i64 0,.i .i64 0,.i .i64 0,.sl 1 true [],.sl 5 true [],.sl 1 true [],.sl 2 true [],.b false,.i .i64 0,.sl 5 true []] [(0,1,.t 14),(1,9,.t 15)],Cw 17 16 11,aa 4 17])))) [.t 4] true none
def GC:F:=.mk (aq [fJ 2 iY] (aq [az 3 0,aG 4 1 0,az 5 4,sZ 6 Gc 3 5] (br [I.build 7 iY [(11,1,rJ)],dy 2 7 13]))) [.c 2 13 true] false none
def wX:C :=Gw [aa 5 4,aa 6 0,bQ 7 6,I.fa 8 (.t 7) 1 9,aG 9 8 6,az 10 9,cI 11 10,cA 12 .lss 5 11,aa 13 12,b8 false 25 13 [aa 14 0,bQ 15 14,I.fa 16 (.t 15) 1 9,aG 17 16 6,az 18 17,aa 19 4,eP 20 18 19 2,aG 21 20 0,az 22 21,aa 23 1,cA 24 .lss 22 23] 24] 25 .skip (aP (.keep [0,1,4]) (.exit 0)) (.bL 1 (.bG [aa 26 4,bI 27 .add 26 1,aa 4 27]))
def CH:F:=.mk (aq [dj 4] (aP (.bL 0 (.loop [0,1,4] wX)) (.bG [aa 28 0,aa 29 0,bQ 30 29,I.fa 31 (.t 30) 1 9,aG 32 31 6,az 33 32,aa 34 4,aa 35 1,I.build 36 [.i .i64 0,.sl 1 true []] [(0,1,.t 35)],rK 37 2 1 [.i .i64 0,.sl 1 true []] 36,zu 38 K2 33 34 37,bQ 39 28,I.fa 40 (.t 39) 1 9,aG 41 40 6,dy 41 38 1]))) [] true none
def CI:F:=.mk (aq [fJ 2 iY] (gQ [0,1,2,3,4,5,6,7] [az 4 0,bQ 5 4,I.fa 6 (.t 5) 1 9,bU 7 6 9,aG 8 1 0,az 9 8,I.calls (some 10) qp [.t 7,.t 9],aa 3 10] (gQ [0,1,2,3,4,5,6,7,8,9,10,11,12,13] [az 11 0,az 12 0,bQ 13 12,I.fa 14 (.t 13) 1 9,aG 15 14 6,az 16 15,aa 17 3,aa 18 3,bI 19 .add 18 1,zu 20 Gf 16 17 19,.re (.ld 11 (.t 0) 1 false),bQ 21 11,I.fa 22 (.t 21) 1 9,aG 23 22 6,dy 23 20 1] (aq [az 24 0,Cy 25 zj 24] (br [I.build 26 iY [(11,1,rJ)],dy 2 26 13]))))) [.c 2 13 true] false none
def GD:F:=.mk (aq [ew 2 0 9,ew 3 1 1,dj 4] (br [aG 5 2 6,az 6 5,I.iB 7 Cp [] [.t 3],jR 8 Co 6 7,aa 4 8])) [.t 4] false none
def CJ:F:=.mk (aq [I.mv 6 (.k (.sl 2 true []))] (aq [aa 8 0,aa 9 1,aa 10 2,aa 11 0,cI 12 11,I.lM 13 (.t 8) (.t 9) (.t 10) (.t 12) 2] (dQ [aa 14 1,aa 15 2,cA 16 .eql 14 15] 16 (br [aa 17 0,aa 6 17]) (aq [aa 18 0,cI 19 18,aa 7 19] (gQ [0,1,2,3,4,5,6,7] [aa 20 0,aa 21 1,s6 22 20 21 2,aa 23 0,aa 24 2,lZ 25 23 24 2,lY 26 22 25 2,aa 0 26] (aq [aa 27 0,aa 28 0,cI 29 28,aa 30 7,I.sl 31 (.t 27) (some (.t 29)) (some (.t 30)) 2,I.lI none (.t 31) 2 [.i .i64 0,.sl 1 true []]] (br [aa 32 0,aa 6 32]))))))) [.t 6] true none
def zy:C :=.bG [fJ 2 zQ,kZ 2 5 5]
def zA:C :=.bL 1 (aq [az 6 1,bU 7 2 5,I.iS (some 8) zn [.t 6,.t 7,k0]] (.bG [az 9 1,aG 10 2 2,az 11 10,sZ 12 Cg 9 11]))
def qq:F:=.mk (aP (aP (.r9 0 5) (.bG [ew 1 0 1])) (aq [az 3 1,Cy 4 Gm 3] (.bL 0 (.r8 (.t 4) [1] [5] zy zA)))) [] true none
def nQ:F:=.mk (aq [fJ 2 iY] (aq [az 4 0,bQ 5 4,I.fa 6 (.t 5) 1 9,aG 7 6 4,az 8 7,I.calls (some 9) zh [.t 8,.k (.fn zk [] [])],aa 3 9] (aP (gQ [0,1,2,3,4,5,6,7,8,9,10,11] [aa 10 3,aa 11 10,b8 true 21 11 [az 12 0,bQ 13 12,aG 14 13 0,az 15 14,az 16 0,bQ 17 16,I.fa 18 (.t 17) 1 9,bU 19 18 9,I.calls (some 20) sY [.t 15,.t 19]] 20] (gu 21 (aq [az 22 0,bU 23 1 5,aG 24 1 2,az 25 24,zu 26 Cf 22 23 25] (br [I.build 27 iY [(9,1,rJ)],dy 2 27 13])))) (aq [az 28 0,aG 29 1 2,az 30 29,sZ 31 Cg 28 30] (br [I.build 32 iY [(11,1,rJ)],dy 2 32 13]))))) [.c 2 13 true] false none
def GF:F:=.mk (aq [ew 1 0 5,dx 2] (br [aG 3 1 1,az 4 3,bI 5 .eql 4 68,aa 2 5])) [.t 2] false none
def GG:F:=.mk (aq [ew 2 0 1,ew 3 1 9,dx 4] (br [aG 5 3 6,az 6 5,I.iB 7 Cq [] [.t 2,.t 3],jR 8 Gn 6 7,aa 4 8])) [.t 4] false none
def CL:F:=.mk (aq [ew 4 1 5] (.jk [] [0,1,2,3,4,5,6,7,8,9,10,11,12,13,14,15,16,17,18,19] [aa 6 0,aa 7 0,bQ 8 7,I.fa 9 (.t 8) 1 9,aG 10 9 4,az 11 10,eO 12 4 0,ez 13 12,eO 14 4 1,ez 15 14,aa 16 2,eO 17 4 3,ez 18 17,I.build 19 zQ [(0,1,.t 13),(1,1,.t 15),(2,1,.t 16),(3,1,.t 18),(4,1,.k (.i .i64 (-1)))],rK 20 5 1 zQ 19,I.nj 21 (.t 11) (.t 20) 5,bQ 22 6,I.fa 23 (.t 22) 1 9,aG 24 23 4,dy 24 21 1])) [] true none
def s7:C :=aq [cA 16 .lss 15 14] (aP (fQ 16 .skip (aP (.keep [0,1]) (.exit 0))) (aP (.bL 1 (aq [aa 17 15,aa 4 17] (aq [aa 18 0,bQ 19 18,I.fa 20 (.t 19) 1 9,aG 21 20 6,az 22 21,aa 23 4,eP 24 22 23 2,aa 5 24] (gQ [0,1,2,3,4,5,6,7,8,9] [aa 25 0,bQ 26 25,I.fa 27 (.t 26) 1 9,bU 28 27 9,aa 29 5,bQ 30 29,aG 31 30 0,az 32 31,I.calls (some 33) zo [.t 28,.t 32,eW 70],jQ 34 33] (gu 34 (.bG [aa 35 5,aa 36 5,bQ 37 36,aG 38 37 1,az 39 38,Cz 40 F7 39,aa 41 1,rK 42 1 1 [.i .i64 0] 41,I.nj 43 (.t 40) (.t 42) 1,bQ 44 35,aG 45 44 1,dy 45 43 1])))))) (.bG [bI 46 .add 15 1,aa 15 46])))
def s8:C :=aq [cA 54 .lss 53 52] (aP (fQ 54 .skip (aP (.keep [0,6]) (.exit 2))) (aP (.bL 3 (aq [eP 55 51 53 5,bU 56 55 5,fJ 8 zQ,kZ 8 56 5] (aq [aG 57 8 1,az 58 57,bI 59 .eql 58 70] (fQ 59 (.bG [aa 60 0,bU 61 8 5,aa 62 1,zu 63 zn 60 61 62]) (.bG [aa 64 6,bU 65 8 5,rK 66 5 1 zQ 65,lY 67 64 66 5,aa 6 67]))))) (.bG [bI 68 .add 53 1,aa 53 68])))
def s9:F:=.mk (aP (aP (aP (.r9 0 5) (.bG [aa 9 0,bQ 10 9,I.fa 11 (.t 10) 1 9,aG 12 11 6,az 13 12,cI 14 13,dj 15])) (.bL 0 (.loop [0,1,14,15] s7))) (aq [I.mv 6 (.k (.sl 5 true []))] (aP (aq [aa 47 0,bQ 48 47,I.fa 49 (.t 48) 1 9,aG 50 49 4,az 51 50,cI 52 51,dj 53] (.bL 2 (.loop [0,1,6,51,52,53] s8))) (aP (.kG [6]) (.bG [aa 69 0,aa 70 6,bQ 71 69,I.fa 72 (.t 71) 1 9,aG 73 72 4,dy 73 70 1]))))) [] true none
def zB:F:=.mk (aq [fJ 2 iY] (br [az 3 0,bU 4 1 5,sZ 5 Ci 3 4,dy 2 5 13])) [.c 2 13 true] false none
def wY:F:=.mk (aq [ew 3 1 5,fJ 4 iY] (gQ [0,1,2,3,4,5,6,7,8,9,10,11,12,13] [aa 9 0,bQ 10 9,I.fa 11 (.t 10) 1 9,aG 12 11 6,az 13 12,aa 14 0,bQ 15 14,I.fa 16 (.t 15) 1 9,bU 17 16 9,eO 18 3 0,ez 19 18,I.calls (some 20) qp [.t 17,.t 19],eP 21 13 20 2,aa 5 21] (dQ [aa 22 5,bQ 23 22,aG 24 23 1,az 25 24,cI 26 25,cZ 27 .gtr 26] 27 (aq [aa 28 5,bQ 29 28,aG 30 29 1,az 31 30,I.fD 32 (.t 31) k0 1,az 33 32,aa 6 33] (aq [aa 34 5,aa 35 5,bQ 36 35,aG 37 36 1,az 38 37,I.sl 39 (.t 38) (some (eW 1)) none 1,oI 40 F8 39,bQ 41 34,aG 42 41 1,dy 42 40 1] (aq [aa 43 0,Cy 44 zj 43] (br [aa 45 6,I.build 46 iY [(10,1,.t 45),(11,1,rJ)],dy 4 46 13])))) (aq [aa 47 0,bU 48 3 5,I.iS (some 49) Cf [.t 47,.t 48,k0]] (aq [aa 50 0,Cy 51 zj 50] (aq [aa 52 0,bQ 53 52,aG 54 53 10,az 55 54,I.iB 56 zp [] [.t 3],I.calls (some 57) Cr [.t 55,.t 56],aa 7 57] (dQ [aa 58 7,cZ 59 .lss 58] 59 (br [I.build 60 iY [(9,1,rJ)],dy 4 60 13]) (aq [aa 61 0,bQ 62 61,aG 63 62 10,az 64 63,aa 65 7,eP 66 64 65 5,aG 67 66 2,az 68 67,aa 8 68] (aq [aa 69 0,aa 70 0,bQ 71 70,aG 72 71 10,az 73 72,aa 74 7,aa 75 7,bI 76 .add 75 1,I.lO 77 Gp [.t 73,.t 74,.t 76],bQ 78 69,aG 79 78 10,dy 79 77 1] (br [aa 80 8,I.build 81 iY [(10,1,.t 80),(11,1,rJ)],dy 4 81 13])))))))))) [.c 4 13 true] true none
def CM:C :=aq [cA 50 .lss 49 48] (aP (fQ 50 .skip (aP (.keep [0,1,9,10,11]) (.exit 2))) (aP (.bL 3 (aq [eP 51 47 49 1,az 52 51,aa 8 52] (aq [aa 53 8,oI 54 Cm 53,jQ 55 54] (gu 55 (aq [dx 4] (aP (.keep [4]) .ret)))))) (.bG [bI 56 .add 49 1,aa 49 56])))
def CN:C :=aq [cA 12 .lss 11 10] (aP (fQ 12 .skip (aP (.keep []) (.exit 0))) (aP (.bL 1 (aq [aa 13 11,eP 14 9 11 2,bU 15 14 2,fJ 6 [.i .i64 0,.sl 1 true []],aa 5 13,kZ 6 15 2] (aP (gQ [0,1,2,3,4,5,6,7,8,9,10,11,12,13,14,15,16,17,18,19,20,21,22,23,24,25,26,27,28,29] [eO 16 6 0,ez 17 16,cZ 18 .lss 17,aa 19 18,b8 true 23 19 [eO 20 6 0,ez 21 20,bI 22 .geq 21 16] 22,aa 24 23,b8 true 38 24 [aa 25 5,cZ 26 .gtr 25,aa 27 26,b8 false 37 27 [aa 28 1,aa 29 5,bI 30 .sub 29 1,eP 31 28 30 2,aG 32 31 0,az 33 32,eO 34 6 0,ez 35 34,cA 36 .geq 33 35] 36] 37,aa 39 38,b8 true 45 39 [eO 40 6 1,ez 41 40,cI 42 41,aa 43 0,cA 44 .gtr 42 43] 44] (gu 45 (aq [dx 4] (aP (.keep [4]) .ret)))) (aq [aG 46 6 1,az 47 46,cI 48 47,dj 49] (.bL 2 (.loop [0,1,9,10,11,47,48,49] CM)))))) (.bG [bI 57 .add 11 1,aa 11 57])))
def GH:F:=.mk (aq [dx 4] (aP (aq [aa 9 1,cI 10 9,dj 11] (.bL 0 (.loop [0,1,9,10,11] CN))) (br [uU 4]))) [.t 4] false none
def CO:C :=aq [cA 18 .lss 17 16] (aP (fQ 18 .skip (aP (.keep []) (.exit 0))) (aP (.bL 1 (aq [aa 19 17,eP 20 15 17 5,bU 21 20 5,fJ 6 zQ,aa 5 19,kZ 6 21 5] (aP (aq [aG 23 3 4,az 24 23,aG 25 6 0,az 26 25,jR 27 Cj 24 26,aa 22 27,fZ 28 22 0,fZ 29 22 1,aa 7 28,aa 8 29] (aq [aa 30 7,aa 31 5,cA 32 .neq 30 31,aa 33 32,b8 true 37 33 [aG 34 6 4,az 35 34,I.bin 36 .neq (.t 35) (.k (.i .i64 (-1)))] 36] (gu 37 (aq [dx 4] (aP (.keep [4]) .ret))))) (aq [aG 38 6 1,az 39 38] (.bL 2 (aq [bI 41 .eql 39 70,aa 40 41] (fQ 40 (aq [bU 42 3 9,aG 43 6 0,az 44 43,jR 45 qp 42 44,aa 9 45] (aq [aa 46 9,cZ 47 .lss 46,aa 48 47,b8 true 57 48 [aG 49 3 6,az 50 49,aa 51 9,eP 52 50 51 2,aG 53 52 1,az 54 53,cI 55 54,cZ 56 .gtr 55] 56,aa 58 57,b8 true 62 58 [aG 59 6 2,az 60 59,cZ 61 .neq 60] 61] (gu 62 (aq [dx 4] (aP (.keep [4]) .ret))))) (aq [bI 64 .eql 39 68,aa 63 64] (fQ 63 (aq [aa 65 0,bU 66 3 9,jR 67 sY 65 66,jQ 68 67] (gu 68 (aq [dx 4] (aP (.keep [4]) .ret)))) (aq [dx 4] (aP (.keep [4]) .ret))))))))))) (.bG [bI 69 .add 17 1,aa 17 69])))
def CP:F:=.mk (aq [ew 3 1 9,dx 4] (dQ [aG 10 3 4,az 11 10,I.call (some 12) Gq [eW 1,.t 11],cZ 13 .neq 12] 13 (br [dx 4]) (aP (aq [aG 14 3 4,az 15 14,cI 16 15,dj 17] (.bL 0 (.loop [0,3,15,16,17] CO))) (br [uU 4])))) [.t 4] false none
def CQ:C :=aq [cA 9 .lss 8 7] (aP (fQ 9 .skip (aP (.keep []) (.exit 0))) (aP (.bL 1 (aq [aa 10 8,aa 5 10] (aq [aa 11 1,aa 12 0,aa 13 5,eP 14 12 13 5,bU 15 14 5,Gv 16 11 15] (gu 16 (aq [aa 17 5,aa 4 17] (aP (.keep [4]) .ret)))))) (.bG [bI 18 .add 8 1,aa 8 18])))
def GI:F:=.mk (aq [dj 4] (aP (aq [aa 6 0,cI 7 6,dj 8] (.bL 0 (.loop [0,1,7,8] CQ))) (br [I.mv 4 (.k (.i .i64 (-1)))]))) [.t 4] false none
def CR:C :=aq [cA 11 .lss 10 9] (aP (fQ 11 .skip (aP (.keep []) (.exit 0))) (aP (.bL 1 (aq [aa 12 10,eP 13 8 10 5,bU 14 13 5,fJ 7 zQ,aa 6 12,kZ 7 14 5] (aq [aG 15 7 0,az 16 15,aa 17 1,cA 18 .eql 16 17] (gu 18 (aq [aa 19 6,aa 4 19,uU 5] (aP (.keep [4,5]) .ret)))))) (.bG [bI 20 .add 10 1,aa 10 20])))
def CT:F:=.mk (aq [dj 4,dx 5] (aP (aq [aa 8 0,cI 9 8,dj 10] (.bL 0 (.loop [1,8,9,10] CR))) (br [dj 4,dx 5]))) [.t 4,.t 5] false none
def CU:C :=aP (fQ 11 .skip (aP (.keep []) (.exit 0))) (.bL 1 (aq [I.ni 12 (.t 9),fZ 13 12 0,aa 4 13] (.jk [] [0,1,2,3,4,5,6,7,8,9,10,11,12,13,14] [aa 14 0,bQ 15 14,aG 16 15 0,az 17 16,aa 18 4,aa 19 0,bQ 20 19,aG 21 20 0,az 22 21,aa 23 4,I.jj 24 (.t 22) (.t 23) (.sl 1 true []) false [.i],aa 25 1,rK 26 1 1 [.i .i64 0] 25,lY 27 24 26 1,.re (.fa 16 (.t 15) 0 1),.re (.ld 17 (.t 16) 1 false),I.ji (.t 17) (.t 18) (.t 27) [.i]])))
def GJ:F:=.mk (aq [aa 5 0,bQ 6 5,aG 7 6 0,az 8 7,I.n9 9 (.t 8)] (.bL 0 (.sj [0,1,9] 10 11 9 CU))) [] true none
def zC:C :=aq [cA 10 .lss 9 8] (aP (fQ 10 .skip (aP (.keep []) (.exit 0))) (aP (.bL 1 (aq [eP 11 7 9 5,bU 12 11 5,fJ 6 Cv,kZ 6 12 5] (dQ [aG 13 6 1,az 14 13,bI 15 .eql 14 70] 15 (gQ [0,1,2,3,4,5,6,7,8,9,10,11,12,13,14,15,16,17] [aa 16 0,bQ 17 16,aG 18 17 1,az 19 18,eO 20 6 0,ez 21 20,aa 22 0,bQ 23 22,aG 24 23 1,az 25 24,eO 26 6 0,ez 27 26,I.jj 28 (.t 25) (.t 27) (.sl 1 true []) false [.i],eO 29 6 2,ez 30 29,rK 31 1 1 [.i .i64 0] 30,lY 32 28 31 1,.re (.fa 18 (.t 17) 1 1),.re (.ld 19 (.t 18) 1 false),I.ji (.t 19) (.t 21) (.t 32) [.i]] (aP (.keep [0,7,8,9]) (.exit 1))) (aP (gQ [0,1,2,3,4,5,6,7,8,9,10,11,12,13,14,15,16] [aa 33 0,bQ 34 33,aG 35 34 3,az 36 35,cI 37 36,cZ 38 .eql 37,aa 39 38,b8 true 49 39 [aa 40 0,bQ 41 40,aG 42 41 3,az 43 42,I.fD 44 (.t 43) k0 1,az 45 44,eO 46 6 0,ez 47 46,cA 48 .neq 45 47] 48] (gu 49 (aq [dx 4] (aP (.keep [4]) .ret)))) (aq [aa 50 0,aa 51 0,bQ 52 51,aG 53 52 3,az 54 53,I.sle 55 (.t 54) (some (eW 1)) none 1,bQ 56 50,aG 57 56 3,dy 57 55 1] (.jk [] [0,1,2,3,4,5,6,7,8] [aa 58 0,aa 59 0,bQ 60 59,aG 61 60 2,az 62 61,eO 63 6 0,ez 64 63,I.jj 65 (.t 62) (.t 64) (.i .i64 0) false [.i],sZ 66 uT 58 65])))))) (.bG [bI 67 .add 9 1,aa 9 67])))
def GK:F:=.mk (aq [dx 4] (aP (aq [aa 7 1,cI 8 7,dj 9] (.bL 0 (.loop [0,7,8,9] zC))) (br [uU 4]))) [.t 4] true none
def CV:C :=aq [cA 14 .lss 13 12] (aP (fQ 14 .skip (aP (.keep []) (.exit 0))) (aP (.bL 1 (aq [aa 15 13,aa 5 15] (gQ [0,1,2,3,4,5,6,7,8] [aa 16 0,aa 17 5,eP 18 16 17 1,az 19 18,aa 20 1,aa 21 5,eP 22 20 21 1,az 23 22,cA 24 .neq 19 23] (gu 24 (aq [dx 4] (aP (.keep [4]) .ret)))))) (.bG [bI 25 .add 13 1,aa 13 25])))
def GL:F:=.mk (aq [dx 4] (dQ [aa 6 0,cI 7 6,aa 8 1,cI 9 8,cA 10 .neq 7 9] 10 (br [dx 4]) (aP (aq [aa 11 0,cI 12 11,dj 13] (.bL 0 (.loop [0,1,12,13] CV))) (br [uU 4])))) [.t 4] false none
def zD:C :=aq [cA 12 .lss 11 10] (aP (fQ 12 .skip (aP (.keep [0,3]) (.exit 0))) (aP (.bL 1 (aq [eP 13 9 11 1,az 14 13,aa 5 14] (aq [aa 15 3,aa 16 5,cI 17 16,cA 18 .add 15 17,aa 3 18] (aq [aa 19 3,cZ 20 .lss 19] (gu 20 (.bG [I.bad (some 21),I.bad none])))))) (.bG [bI 22 .add 11 1,aa 11 22])))
def mQ:C :=aq [cA 28 .lss 27 26] (aP (fQ 28 .skip (aP (.keep [6]) (.exit 2))) (aP (.bL 3 (aq [eP 29 25 27 1,az 30 29,aa 8 30] (.bG [aa 31 6,aa 32 8,lY 33 31 32 1,aa 6 33]))) (.bG [bI 34 .add 27 1,aa 27 34])))
def CW:F:=.mk (aq [I.mv 2 (.k (.sl 1 true []))] (aq [dj 3] (aP (aq [aa 9 0,cI 10 9,dj 11] (.bL 0 (.loop [0,3,9,10,11] zD))) (aq [aa 23 3,I.jJ (some 24) Cs [.k (.sl 1 true []),.t 23],aa 6 24] (aP (aq [aa 25 0,cI 26 25,dj 27] (.bL 2 (.loop [6,25,26,27] mQ))) (br [aa 35 6,aa 2 35])))))) [.t 2] false none
def GM:F:=.mk (aq [dx 2] (br [aa 3 0,I.bin 4 .geq (.t 3) (.k (.i .i64 (-1099511627776))),aa 5 4,b8 false 8 5 [aa 6 0,bI 7 .leq 6 1099511627776] 7,aa 2 8])) [.t 2] false none
def zE:F:=.mk (aq [I.mv 2 (.k (.sl 2 true []))] (dQ [aa 3 0,I.jZ 4 false (.t 3) .sl] 4 (br [I.mv 2 (.k (.sl 2 true []))]) (br [I.jh 5 2 0 [.i .i64 0,.sl 1 true []] [] false,aa 6 0,lY 7 5 6 2,aa 2 7]))) [.t 2] true none
def zF:F:=.mk (aq [I.mv 2 (.k (.sl 5 true []))] (dQ [aa 3 0,I.jZ 4 false (.t 3) .sl] 4 (br [I.mv 2 (.k (.sl 5 true []))]) (br [I.jh 5 5 0 zQ [] false,aa 6 0,lY 7 5 6 5,aa 2 7]))) [.t 2] true none
def QL:F:=.mk (aq [I.mv 6 (.k (.sl 2 true []))] (aq [aa 10 0,aa 11 1,lZ 12 10 11 2] (aq [aa 13 2,cI 14 13,aa 7 14] (dQ [aa 15 7,cZ 16 .eql 15] 16 (br [aa 17 0,aa 6 17]) (aq [aa 18 0,cI 19 18,aa 8 19] (dQ [aa 20 1,aa 21 8,cA 22 .eql 20 21] 22 (br [aa 23 0,aa 24 2,lY 25 23 24 2,aa 6 25]) (dQ [aa 26 8,aa 27 7,cA 28 .add 26 27,aa 29 0,I.cap 30 (.t 29),cA 31 .gtr 28 30] 31 (aq [aa 32 0,aa 33 1,s6 34 32 33 2,aa 35 8,aa 36 7,cA 37 .add 35 36,aa 38 1,cA 39 .sub 37 38,I.mC 40 (.t 34) (.t 39) 2 [.i .i64 0,.sl 1 true []],aa 9 40] (aq [aa 41 9,aa 42 1,lZ 43 41 42 2,aa 44 2,I.copy (some 45) (.t 43) (.t 44) 2] (gQ [0,1,2,3,4,5,6,7,8] [aa 46 9,aa 47 1,aa 48 7,cA 49 .add 47 48,lZ 50 46 49 2,aa 51 0,aa 52 1,lZ 53 51 52 2,I.copy (some 54) (.t 50) (.t 53) 2] (br [aa 55 9,aa 6 55])))) (aq [aa 56 0,aa 57 8,aa 58 7,cA 59 .add 57 58,s6 60 56 59 2,aa 0 60] (dQ [aa 61 2,aa 62 0,aa 63 1,aa 64 7,cA 65 .add 63 64,lZ 66 62 65 2,I.mD 67 QG (.t 61) (.t 66) 2,jQ 68 67] 68 (gQ [0,1,2,3,4,5,6,7,8] [aa 69 0,aa 70 1,aa 71 7,cA 72 .add 70 71,lZ 73 69 72 2,aa 74 0,aa 75 1,lZ 76 74 75 2,I.copy (some 77) (.t 73) (.t 76) 2] (aq [aa 78 0,aa 79 1,lZ 80 78 79 2,aa 81 2,I.copy (some 82) (.t 80) (.t 81) 2] (br [aa 83 0,aa 6 83]))) (aq [aa 84 0,aa 85 8,lZ 86 84 85 2,aa 87 2,I.copy (some 88) (.t 86) (.t 87) 2] (aq [aa 89 0,aa 90 1,lZ 91 89 90 2,aa 92 7,jR 93 QH 91 92] (br [aa 94 0,aa 6 94])))))))))))) [.t 6] false none
def CX:C :=aq [cA 9 .lss 8 7] (aP (fQ 9 .skip (aP (.keep []) (.exit 0))) (aP (.bL 1 (aq [aa 10 8,aa 5 10] (aq [aa 11 1,aa 12 0,aa 13 5,eP 14 12 13 2,bU 15 14 2,Gv 16 11 15] (gu 16 (aq [aa 17 5,aa 4 17] (aP (.keep [4]) .ret)))))) (.bG [bI 18 .add 8 1,aa 8 18])))
def GN:F:=.mk (aq [dj 4] (aP (aq [aa 6 0,cI 7 6,dj 8] (.bL 0 (.loop [0,1,7,8] CX))) (br [I.mv 4 (.k (.i .i64 (-1)))]))) [.t 4] false none
def GO:F:=.mk (aq [ew 2 0 2,dx 3] (br [aG 4 2 0,az 5 4,az 6 1,cA 7 .eql 5 6,aa 3 7])) [.t 3] false none
def GP:F:=.mk (aq [ew 1 0 1,I.mv 2 (.k .vQ)] (br [I.iB 3 Ct [] [.t 1],aa 2 3])) [.t 2] true none
def CY:F:=.mk (aq [ew 4 1 5] (.jk [] [0,1,2,3,4,5,6,7,8,9,10,11,12,13,14,15] [aa 6 0,aa 7 0,bQ 8 7,aG 9 8 10,az 10 9,eO 11 4 0,ez 12 11,eO 13 4 1,ez 14 13,aa 15 2,I.build 16 Cv [(0,1,.t 12),(1,1,.t 14),(2,1,.t 15),(3,1,rJ),(4,1,.k (.i .i64 (-1)))],rK 17 5 1 Cv 16,lY 18 10 17 5,bQ 19 6,aG 20 19 10,dy 20 18 1])) [] true none
def GQ:F:=.mk (aq [dx 4] (br [aa 5 0,aa 6 1,jR 7 Co 5 6,cZ 8 .geq 7,aa 4 8])) [.t 4] false none
def GR:F:=.mk (aq [ew 3 0 2,dx 4] (br [aG 5 3 1,az 6 5,cI 7 6,az 8 1,cA 9 .eql 7 8,aa 10 9,b8 false 16 10 [bU 11 2 9,aG 12 3 0,az 13 12,I.call (some 14) zo [.t 11,.t 13,eW 70],jQ 15 14] 15,aa 4 16])) [.t 4] false none
def GS:F:=.mk (aq [ew 3 0 9,ew 4 1 1,ew 5 2 1,dx 6] (br [aG 7 3 4,az 8 7,I.iB 9 Cu [] [.t 4,.t 5],jR 10 zh 8 9,aa 6 10])) [.t 6] false none
def CZ:C :=aq [cA 9 .lss 8 7] (aP (fQ 9 .skip (aP (.keep []) (.exit 0))) (aP (.bL 1 (aq [aa 10 8,aa 5 10] (aq [aa 11 1,aa 12 0,aa 13 5,eP 14 12 13 5,bU 15 14 5,Gv 16 11 15] (gu 16 (aq [aa 17 5,aa 4 17] (aP (.keep [4]) .ret)))))) (.bG [bI 18 .add 8 1,aa 8 18])))
def GU:F:=.mk (aq [dj 4] (aP (aq [aa 6 0,cI 7 6,dj 8] (.bL 0 (.loop [0,1,7,8] CZ))) (br [I.mv 4 (.k (.i .i64 (-1)))]))) [.t 4] false none
def GV:F:=.mk (aq [ew 2 0 5,dx 3] (br [aG 4 2 0,az 5 4,aG 6 1 0,az 7 6,cA 8 .eql 5 7,aa 3 8])) [.t 3] false none
def C0:F:=.mk (aq [I.mv 6 (.k (.sl 5 true []))] (aq [aa 8 0,aa 9 1,aa 10 2,aa 11 0,cI 12 11,I.lM 13 (.t 8) (.t 9) (.t 10) (.t 12) 5] (dQ [aa 14 1,aa 15 2,cA 16 .eql 14 15] 16 (br [aa 17 0,aa 6 17]) (aq [aa 18 0,cI 19 18,aa 7 19] (gQ [0,1,2,3,4,5,6,7] [aa 20 0,aa 21 1,s6 22 20 21 5,aa 23 0,aa 24 2,lZ 25 23 24 5,lY 26 22 25 5,aa 0 26] (aq [aa 27 0,aa 28 0,cI 29 28,aa 30 7,I.sl 31 (.t 27) (some (.t 29)) (some (.t 30)) 5,I.lI none (.t 31) 5 Cv] (br [aa 32 0,aa 6 32]))))))) [.t 6] true none
def C1:C :=aq [cA 19 .lss 18 17] (aP (fQ 19 .skip (aP (.keep []) (.exit 0))) (aP (.bL 1 (aq [aa 20 18,eP 21 16 18 5,bU 22 21 5,fJ 6 zQ,aa 5 20,kZ 6 22 5] (dQ [bU 23 6 5,oI 24 Gs 23,jQ 25 24] 25 (aq [ko 4 2] (aP (.keep [4]) .ret)) (gQ [0,1,2,3,4,5,6,7,8,9,10,11,12,13,14,15,16] [aa 26 0,bI 27 .eql 26 2,aa 28 27,b8 false 31 28 [aa 29 5,cZ 30 .gtr 29] 30,aa 32 31,b8 false 42 32 [eO 33 6 3,ez 34 33,aa 35 1,aa 36 5,bI 37 .sub 36 1,eP 38 35 37 5,aG 39 38 3,az 40 39,cA 41 .gtr 34 40] 41] (gu 42 (aq [ko 4 9] (aP (.keep [4]) .ret))))))) (.bG [bI 43 .add 18 1,aa 18 43])))
def C2:F:=.mk (aq [dj 4] (dQ [aa 7 0,bI 8 .neq 7 1,aa 9 8,b8 false 12 9 [aa 10 0,bI 11 .neq 10 2] 11] 12 (br [ko 4 8]) (dQ [aa 13 1,cI 14 13,bI 15 .gtr 14 96] 15 (br [ko 4 4]) (aP (aq [aa 16 1,cI 17 16,dj 18] (.bL 0 (.loop [0,1,16,17,18] C1))) (br [dj 4]))))) [.t 4] false none
def C3:F:=.mk (aq [I.mv 4 (.k (.sl 1 true []))] (dQ [aa 5 1,cZ 6 .lss 5] 6 (.bG [I.bad (some 7),I.bad none]) (aP (aq [aa 8 1,aa 9 0,I.cap 10 (.t 9),aa 11 0,cI 12 11,cA 13 .sub 10 12,cA 14 .sub 8 13,aa 1 14] (aq [aa 15 1,cZ 16 .gtr 15] (gu 16 (.bG [aa 17 0,aa 18 0,I.cap 19 (.t 18),s6 20 17 19 1,aa 21 1,I.mC 22 (.t 20) (.t 21) 1 [.i .i64 0],aa 23 0,cI 24 23,s6 25 22 24 1,aa 0 25])))) (br [aa 26 0,aa 4 26])))) [.t 4] true none
def QM:F:=.mk (.bG [aa 4 0,aa 5 0,cI 6 5,aa 7 1,cA 8 .sub 6 7,jR 9 QI 4 8]) [] false none
def C4:C :=.bL 1 (aq [az 5 1,bQ 6 5,I.fa 7 (.t 6) 1 9,aG 8 7 4,az 9 8,I.call (some 10) zl [.t 9,.k (.fn zq [] [])],aa 3 10] (aP (gQ [0,1,2,3,4,5,6,7,8,9,10,11,12] [aa 11 3,cZ 12 .lss 11,aa 13 12,b8 true 23 13 [az 14 1,bQ 15 14,aG 16 15 0,az 17 16,az 18 1,bQ 19 18,I.fa 20 (.t 19) 1 9,bU 21 20 9,I.calls (some 22) sY [.t 17,.t 21]] 22] (gu 23 (aP (.keep []) .ret))) (aq [az 24 1,bQ 25 24,I.fa 26 (.t 25) 1 9,aG 27 26 4,az 28 27,aa 29 3,eP 30 28 29 5,bU 31 30 5,fJ 4 zQ,kZ 4 31 5] (gQ [0,1,2,3,4,5,7,8,9,6,10,11,12,13,14] [az 32 1,az 33 1,bQ 34 33,I.fa 35 (.t 34) 1 9,aG 36 35 4,az 37 36,aa 39 3,aa 40 3,bI 41 .add 40 1,Cz 38 Cn 37,.re (.ld 32 (.t 1) 1 false),I.lO 42 Gr [.t 38,.t 39,.t 41],.re (.ld 32 (.t 1) 1 false),bQ 43 32,I.fa 44 (.t 43) 1 9,aG 45 44 4,dy 45 42 1] (aq [aa 46 0,bU 47 4 5,I.kE (some 48) (.t 46) [.t 47],jQ 49 48] (gu 49 (aP (.keep []) .ret)))))))
def GW:F:=.mk (.bL 0 (.loop [0,1] C4)) [] false none
def GX:F:=.mk (aq [ew 1 0 5,dx 2] (br [aG 3 1 1,az 4 3,bI 5 .eql 4 68,aa 2 5])) [.t 2] false none
def C5:F:=.mk (aq [I.mv 6 (.k (.sl 5 true []))] (aq [aa 8 0,aa 9 1,aa 10 2,aa 11 0,cI 12 11,I.lM 13 (.t 8) (.t 9) (.t 10) (.t 12) 5] (dQ [aa 14 1,aa 15 2,cA 16 .eql 14 15] 16 (br [aa 17 0,aa 6 17]) (aq [aa 18 0,cI 19 18,aa 7 19] (gQ [0,1,2,3,4,5,6,7] [aa 20 0,aa 21 1,s6 22 20 21 5,aa 23 0,aa 24 2,lZ 25 23 24 5,lY 26 22 25 5,aa 0 26] (aq [aa 27 0,aa 28 0,cI 29 28,aa 30 7,I.sl 31 (.t 27) (some (.t 29)) (some (.t 30)) 5,I.lI none (.t 31) 5 zQ] (br [aa 32 0,aa 6 32]))))))) [.t 6] true none
def GY:F:=.mk (aq [ew 3 0 5,dx 4] (br [aG 5 3 0,az 6 5,az 7 1,cA 8 .eql 6 7,aa 9 8,b8 false 14 9 [aG 10 3 1,az 11 10,az 12 2,cA 13 .eql 11 12] 13,aa 4 14])) [.t 4] false none
def GZ:F:=.mk (aq [ew 1 0 5,dx 2] (aP (.bL 0 (aq [aG 4 1 0,az 5 4,cZ 6 .lss 5,aa 7 6,b8 true 11 7 [aG 8 1 0,az 9 8,bI 10 .geq 9 16] 10,aa 12 11,b8 true 16 12 [aG 13 1 1,az 14 13,bI 15 .lss 14 1] 15,aa 17 16,b8 true 21 17 [aG 18 1 1,az 19 18,bI 20 .gtr 19 99] 20,aa 22 21,b8 true 26 22 [aG 23 1 2,az 24 23,I.bin 25 .lss (.t 24) (.k (.i .i64 (-1099511627776)))] 25,aa 27 26,b8 true 31 27 [aG 28 1 2,az 29 28,bI 30 .gtr 29 1099511627776] 30,aa 3 31] (gu 3 (br [dx 2])))) (br [aG 32 1 3,az 33 32,cZ 34 .geq 33,aa 35 34,b8 false 39 35 [aG 36 1 3,az 37 36,bI 38 .leq 37 9] 38,aa 40 39,b8 false 44 40 [aG 41 1 4,az 42 41,I.bin 43 .geq (.t 42) (.k (.i .i64 (-1)))] 43,aa 45 44,b8 false 49 45 [aG 46 1 4,az 47 46,bI 48 .lss 47 6] 48,aa 2 49]))) [.t 2] false none
def QN:F:=.mk (aq [aa 4 0,aa 5 1,s6 6 4 5 2,oI 7 Gt 6] (aq [aa 8 0,aa 9 1,lZ 10 8 9 2,oI 11 Gt 10] (.bG [aa 12 0,oI 13 Gt 12]))) [] false none
def QO:C :=Gw [aa 7 2,aa 8 3,cA 9 .lss 7 8] 9 .skip (aP (.keep []) (.exit 0)) (aP (.bL 1 (.jk [] [0,1,2,3,4,5,6,7,8,9,10,11,12,13,14,15] [aa 14 0,aa 15 2,aa 16 0,aa 17 3,aa 18 0,aa 19 3,eP 20 18 19 2,bU 21 20 2,aa 22 0,aa 23 2,eP 24 22 23 2,bU 25 24 2,eP 26 14 15 2,dy 26 21 2,eP 27 16 17 2,dy 27 25 2])) (.bG [aa 10 2,bI 11 .add 10 1,aa 12 3,bI 13 .sub 12 1,aa 2 11,aa 3 13]))
def QS:F:=.mk (aq [aa 4 0,cI 5 4,bI 6 .sub 5 1,dj 2,aa 3 6] (.bL 0 (.loop [0,2,3] QO))) [] false none
def K4:F:=⟨.skip,[],true,some (wV 2)⟩
def C6:List (Nat×F):=[(9,zx),(11,Gx),(12,CD),(14,iN),(17,uV),(20,Gy),(22,Gz),(25,rL),(10025,CE),(26,CF),(34,rM),(35,GA),(37,oJ),(38,GB),(39,GC),(40,CH),(41,CI),(42,GD),(43,CJ),(44,qq),(45,nQ),(46,GF),(47,GG),(48,CL),(49,s9),(50,zB),(51,wY),(62,GH),(63,CP),(66,GI),(67,CT),(73,GJ),(74,GK),(75,GL),(76,CW),(77,GM),(78,zE),(79,zF),(81,GN),(82,GO),(83,GP),(84,CY),(85,GQ),(86,GR),(87,GS),(88,GU),(89,GV),(90,C0),(94,C2),(97,C3),(99,QM),(100,GW),(101,GX),(102,C5),(103,GY),(106,GZ),(107,QN),(108,QS)]
def P:Prog:=λn=>match C6.lookup n with
 |some F=>some F
 |none=>match n with
  | 80=>some K4
  |_=>none
theorem QT:P Cc=some zx:=rfl
theorem QU:P Cd=some Gx:=rfl
theorem QV:P wW=some CD:=rfl
theorem wZ:P qo=some iN:=rfl
theorem QW:P F6=some uV:=rfl
theorem QX:P zh=some Gy:=rfl
theorem QY:P sX=some Gz:=rfl
theorem QZ:P F7=some rL:=rfl
theorem Q2:P F8=some CE:=rfl
theorem Q3:P Ce=some CF:=rfl
theorem w4:P oH=some rM:=rfl
theorem Q4:P zi=some GA:=rfl
theorem Q5:P F9=some oJ:=rfl
theorem Q6:P Ga=some GB:=rfl
theorem Q7:P Gb=some GC:=rfl
theorem Q8:P Gc=some CH:=rfl
theorem Q9:P Ge=some CI:=rfl
theorem Ra:P qp=some GD:=rfl
theorem Rb:P Gf=some CJ:=rfl
theorem Rc:P zj=some qq:=rfl
theorem Re:P Gg=some nQ:=rfl
theorem Rf:P zk=some GF:=rfl
theorem Rg:P sY=some GG:=rfl
theorem Rh:P Cf=some CL:=rfl
theorem Ri:P Cg=some s9:=rfl
theorem K5:P Ch=some zB:=rfl
theorem K6:P Ci=some wY:=rfl
theorem Rj:P Gi=some GH:=rfl
theorem Rk:P Gj=some CP:=rfl
theorem Rl:P zl=some GI:=rfl
theorem Rn:P Cj=some CT:=rfl
theorem Ro:P uT=some GJ:=rfl
theorem Rq:P zm=some GK:=rfl
theorem Rr:P Ck=some GL:=rfl
theorem Rs:P Gk=some CW:=rfl
theorem Rt:P Cm=some GM:=rfl
theorem Ru:P Gl=some zE:=rfl
theorem Rv:P Cn=some zF:=rfl
theorem Rw:P Co=some GN:=rfl
theorem Rx:P Cp=some GO:=rfl
theorem Ry:P Gm=some GP:=rfl
theorem K7:P zn=some CY:=rfl
theorem Rz:P Gn=some GQ:=rfl
theorem RA:P Cq=some GR:=rfl
theorem RB:P zo=some GS:=rfl
theorem RC:P Cr=some GU:=rfl
theorem RD:P zp=some GV:=rfl
theorem RE:P Gp=some C0:=rfl
theorem RF:P Gq=some C2:=rfl
theorem K8:P Cs=some C3:=rfl
theorem RG:P Ct=some GW:=rfl
theorem RH:P zq=some GX:=rfl
theorem RI:P Gr=some C5:=rfl
theorem RJ:P Cu=some GY:=rfl
theorem RK:P Gs=some GZ:=rfl
theorem RL:P K2=some K4:=rfl
end Go.VS
namespace Go.VS.Tp
theorem K9{h0:List O}{i:Nat}{x:BI}{B:BB}{v:Int}(b:aE h0 i x B)(lf:Lf h0 [i,x.n1,x.n2])(hm:h0.length<=250)(hsz:B.due.length<=300/\B.got.length<=300)
  (hkeys:(B.due.map (·.1)).Nodup)(F5:∀e∈B.due,e.2.length<=1000000):
  ∃h1 x1,ev P (.call uT [.loc i 0 0,.d (iK v)] h0)=some (.val (.tu []) h1)/\aE h1 i x1 (B.cx v)/\Lf h1 [i,x1.n1,x1.n2]/\h0.length<=h1.length:=by
 have hi:i<h0.length:=b.lt i (by simp[BI.all])
 have hst:=b.st;have sM:=QC (P:=P) (m:=h0.length) (v:=v) (live:=[0,1,9]) (lx:=[]) (d:=10) (d2:=11) (it:=9) (id:=0) (c':=CU)
  (E:=λq=>[(0,.loc i 0 0),(1,.d (iK v)),(9,.loc q 0 0)]) (Ex:=[]) rfl b lf hsz hm hkeys F5 (λq=>by simp) (λq=>by simp[bC,V.ak];omega) (by simp[bC])
  (λq f hf=>by simp[eE,V.av,hf i hi]) (by simp[bC])
  (λseen q al H j p t H1 H2 H3 w hP hj h1 h2 h3 h4 h5 h6 h7=>by
   have g1:af H1 i = .cS 4 [[.mp x.n1,.mp x.n2,.mp x.n3,x.wv]]:=by rw[h6,hst]
   have g2:af H2 i = .cS 4 [[.mp x.n1,.mp x.n2,.mp x.n3,x.wv]]:=by rw[h4,hst]
   apply Exists.intro;apply And.intro
   case right =>
    conv=>lhs;arg 4;unfold CU
    simp[g1,g2,h1,h2,h3,h5,-eS,-fW,-kJ,-canon,V.cC];rfl
   case left=>simp[cO])
  (λq H=>by
   refine⟨[(11,.d (.b false)),(10,.u),(0,.loc i 0 0),(1,.d (iK v)),(9,.loc q 0 0)],rfl,?_⟩
   conv=>lhs;arg 4;unfold CU
   simp[-canon];cases canon h0.length [] [(11,.d (.b false)),(10,.u),(0,.loc i 0 0),(1,.d (iK v)),(9,.loc q 0 0)] H with
   |none=>simp
   |some p=>obtain⟨a,c⟩:=p;simp)
 obtain⟨p1,p2⟩:=gP.init b lf v;have g0:vU h0 (.mp x.n1)=some (.loc h0.length 0 0,h0++[.it x.n1 x.cd []]):=by simp[vU,b.md]
 obtain⟨H',e',r,k1,k2,k3⟩:=sM _ _ _ _ _ [(9,.loc h0.length 0 0),(8,.mp x.n1),(7,.loc i 0 0),(6,.loc i 0 0),(5,.loc i 0 0),(0,.loc i 0 0),(1,.d (iK v))] p1 p2 (bZ _) (by simp[cO])
 obtain⟨r',x',m1,m2,m3,m4,m5⟩:=k1.done b hsz (by simp[bC]) (by simp[bC];omega)
 rw[k2]at m1;simp only[bF]at m1;subst m1;obtain⟨h1,x1,n1,n2,n3,n4⟩:=Qv m3 m4 (by simpa[BB.cx]using hsz) m5 hi (by omega)
 refine⟨h1,x1,?_,n2,n3,n4⟩;rw[bD Ro rfl];simp[GJ,hst,g0,-canon,k3,n1]
abbrev I'(n:Int):D:=.i .i64 n
structure W where
 task:Int
 op:Int
 value:Int
 prio:Int
 case:Int
 deriving DecidableEq
@[simp] theorem W.eta(w:W):W.mk w.task w.op w.value w.prio w.case=w:=rfl
def W.row(w:W):List D:=[I' w.task,I' w.op,I' w.value,I' w.prio,I' w.case]
def zM(w:W):Bool:=(decide (w.task<0)||decide (16<=w.task)||decide (w.op<1)||decide (99<w.op)||decide (w.value < -1099511627776)||decide (1099511627776<w.value))
def mR(w:W):Bool:=!zM w&&(decide (0<=w.prio)&&decide (w.prio<=9)&&decide (-1<=w.case)&&decide (w.case<6))
theorem RX(a b c d e:Int):ev P (.call Gs [.d (.ag [I' a,I' b,I' c,I' d,I' e])] [])=some (.val (.d (.b (mR ⟨a,b,c,d,e⟩))) []):=by
 rw[bD RK rfl];cases h:zM ⟨a,b,c,d,e⟩<;>simp only[mR,h]<;>unfold zM at h<;>simp[GZ,W.row,h]
def l5(d:Int)(prev:Option W):List W->Int
 | []=>0
 |w::r=>if mR w=false then 2 else if d=2/\(prev.any λp=>decide (p.prio<w.prio))=true then 9 else l5 d (some w) r
theorem G8:IntKind.i64.wrap 1=1:=by decide
theorem RY(d:Int)(nl:Bool)(l:List W)(hn:l.length<=96):∀(suf pre:List W),l=pre++suf ->
  ev P (.loop 0 [0,1,16,17,18] C1 [(0,.d (I' d)),(1,.d (.sl 5 nl (l.map W.row))),(16,.d (.sl 5 nl (l.map W.row))),(17,.d (I' l.length)),(18,.d (I' pre.length))] []) =
   if l5 d pre.getLast? suf=0 then some (.out (.exit 0) [] [])else some (.out .ret [(4,.d (I' (l5 d pre.getLast? suf)))] []):=by
 intro suf;induction suf with
 |nil =>
  intro pre hl
  have:l.length=pre.length:=by simp[hl]
  rw[cq]
  conv=>lhs;arg 4;unfold C1
  simp[this,l5]
 |cons w suf ih =>
  intro pre hl;have hg:l[pre.length]?=some w:=by simp[hl]
  have hlt:(pre.length:Int)<l.length:=by simp[hl];omega
  rw[cq]
  conv=>lhs;arg 4;unfold C1
  simp[hlt,hg,W.row,RX];cases hv:mR w
  .simp[l5,hv]
  .simp
   have hnext:IntKind.i64.wrap ((pre.length:Int)+1)=pre.length+1:=wrap_i64 (by omega) (by omega)
   have cV:=ih (pre++[w]) (by simp[hl])
   simp at cV;rcases Jf pre with rfl |⟨pre',p,rfl⟩
   .simp[l5,hv,G8]at *
    exact cV
   .have td:l[pre'.length]?=some p:=by simp[hl]
    have hlen:((pre'.length:Int)+1<l.length):=by simp[hl];omega
    have hw:IntKind.i64.wrap ((pre'.length:Int)+1 - 1)=pre'.length:=by rw[wrap_i64 (by omega) (by omega)];omega
    have h0:(0:Int)<pre'.length+1:=by omega
    have kr:IntKind.i64.wrap (pre'.length:Int)=pre'.length:=wrap_i64 (by omega) (by omega)
    have uZ:IntKind.i64.wrap ((pre'.length:Int)+1+1)=pre'.length+1+1:=wrap_i64 (by omega) (by omega)
    simp at cV;by_cases hd:d=2
    .by_cases hp:p.prio<w.prio
     .subst hd
      simp[l5,hv,hp,kr,uZ,td,W.row,h0]
     .subst hd
      simp[l5,hv,hp,kr,uZ,td,W.row,h0];exact cV
    .have hd2:(d==2)=false:=by simp[hd]
     simp[l5,hv,hd,hd2,kr,uZ,td,W.row,h0];exact cV
def qt(l:List W):Int:=if 96<l.length then 4 else l5 1 none l
theorem RZ(nl:Bool)(l:List W):ev P (.call Gq [.d (I' 1),.d (.sl 5 nl (l.map W.row))] []) =
  some (.val (.d (I' (qt l))) []):=by
 unfold qt;rw[bD RF rfl];by_cases h:96<l.length
 .have h':(96:Int)<l.length:=by omega
  simp[C2,h,h']
 .have h':¬(96:Int)<l.length:=by omega
  have hl:=RY 1 nl l (by omega) l [] rfl
  simp at hl;simp[C2,h,h',hl];by_cases hc:l5 1 none l=0<;>simp[hc]
theorem Lo:∀(ds:List D),dY (ds.map V.d)=some ds
 | []=>rfl
 |d::ds=>by simp[Lo ds]
theorem G9{a b:List D}{x:D}:dY (a.map V.d++.d x::b.map V.d)=some (a++x::b):=by
 have:=Lo (a++x::b);simpa using this
def idx{α:Type}(p:α->Bool):Int->List α->Int
 |_,[]=>-1
 |k,w::r=>if p w then k else idx p (k+1) r
theorem R0{f:Nat}{first caps:List D}{p:W->Bool}(nl:Bool)(l:List W)(hn:l.length<=1000000)
  (hp:∀a b c d e,ev P (.call f (first.map V.d++[.d (.ag [I' a,I' b,I' c,I' d,I' e])]++caps.map V.d) [])=some (.val (.d (.b (p ⟨a,b,c,d,e⟩))) [])):
  ∀(suf pre:List W),l=pre++suf ->
  ev P (.loop 0 [0,1,7,8] CQ [(0,.d (.sl 5 nl (l.map W.row))),(1,.d (.fn f first caps)),(7,.d (I' l.length)),(8,.d (I' pre.length))] []) =
   if idx p pre.length suf = -1 then some (.out (.exit 0) [] [])else some (.out .ret [(4,.d (I' (idx p pre.length suf)))] []):=by
 intro suf;induction suf with
 |nil =>
  intro pre hl
  have:l.length=pre.length:=by simp[hl]
  rw[cq]
  conv=>lhs;arg 4;unfold CQ
  simp[this,idx]
 |cons w suf ih =>
  intro pre hl;have hg:l[pre.length]?=some w:=by simp[hl]
  have hlt:(pre.length:Int)<l.length:=by simp[hl];omega
  have hnext:IntKind.i64.wrap ((pre.length:Int)+1)=pre.length+1:=wrap_i64 (by omega) (by omega)
  have cV:=ih (pre++[w]) (by simp[hl])
  simp at cV hp;rw[cq]
  conv=>lhs;arg 4;unfold CQ
  simp[hlt,hg,W.row,hp,G9];cases hw:p w
  .simp[idx,hw,hnext]
   exact cV
  .have:¬(pre.length:Int) = -1:=by omega
   simp[idx,hw,this]
theorem Lp{f:Nat}{first caps:List D}{p:W->Bool}(nl:Bool)(l:List W)(hn:l.length<=1000000)
  (hp:∀a b c d e,ev P (.call f (first.map V.d++[.d (.ag [I' a,I' b,I' c,I' d,I' e])]++caps.map V.d) [])=some (.val (.d (.b (p ⟨a,b,c,d,e⟩))) [])):
  ev P (.call zl [.d (.sl 5 nl (l.map W.row)),.d (.fn f first caps)] [])=some (.val (.d (I' (idx p 0 l))) []):=by
 rw[bD Rl rfl];have hl:=R0 nl l hn hp l [] rfl;simp at hl;simp[GI,hl];by_cases hc:idx p 0 l = -1<;>simp[hc]
theorem Da{α:Type}{p:α->Bool}:∀{l:List α}{k:Int},0<=k->(0<=idx p k l↔l.any p=true)
 | [],k,_=>by simp[idx]
 |w::r,k,hk=>by
  by_cases hw:p w=true
  .simp[idx,hw,hk]
  .simp[idx,hw,Da (l:=r) (k:=k+1) (by omega)]
theorem Lq{f:Nat}{first caps:List D}{p:W->Bool}(nl:Bool)(l:List W)(hn:l.length<=1000000)
  (hp:∀a b c d e,ev P (.call f (first.map V.d++[.d (.ag [I' a,I' b,I' c,I' d,I' e])]++caps.map V.d) [])=some (.val (.d (.b (p ⟨a,b,c,d,e⟩))) [])):
  ev P (.call zh [.d (.sl 5 nl (l.map W.row)),.d (.fn f first caps)] [])=some (.val (.d (.b (l.any p))) []):=by
 rw[bD QX rfl];have hi:=Lp nl l hn hp;simp[Gy,hi];have:=Da (p:=p) (l:=l) (k:=0) (by omega)
 cases ha:l.any p
 .have hc:¬0<=idx p 0 l:=λh=>by rw[this.1 h]at ha;cases ha
  simp[hc]
 .have hc:0<=idx p 0 l:=this.2 ha
  simp[hc]
abbrev rN(l:List Int):List (List D):=l.map λx=>[I' x]
abbrev hD(n:Bool)(l:List Int):D:=.sl 1 n (rN l)
abbrev qD(n:Bool)(l:List W):D:=.sl 5 n (l.map W.row)
theorem bK{α β:Type}{f:α->β}{r:List α}:List.take r.length (r.map f)=r.map f:=fU (by simp)
def oL(q:List W)(t:Int):Int×Bool:=match q.findIdx? (λw=>w.task==t)with |some i=>(i,true) |none=>(0,false)
theorem R1(nl:Bool)(l:List W)(t:Int)(hn:l.length<=1000000):∀(suf pre:List W),l=pre++suf ->
  ev P (.loop 0 [1,8,9,10] CR [(1,.d (I' t)),(8,.d (qD nl l)),(9,.d (I' l.length)),(10,.d (I' pre.length))] []) =
   match suf.findIdx? (λw=>w.task==t)with
   |none=>some (.out (.exit 0) [] [])
   |some k=>some (.out .ret [(4,.d (I' ((pre.length+k:Nat):Int))),(5,.d (.b true))] []):=by
 intro suf;induction suf with
 |nil =>
  intro pre hl
  have:l.length=pre.length:=by simp[hl]
  rw[cq]
  conv=>lhs;arg 4;unfold CR
  simp[this]
 |cons w suf ih =>
  intro pre hl;have hg:l[pre.length]?=some w:=by simp[hl]
  have hlt:(pre.length:Int)<l.length:=by simp[hl];omega
  have hnext:IntKind.i64.wrap ((pre.length:Int)+1)=pre.length+1:=wrap_i64 (by omega) (by omega)
  have cV:=ih (pre++[w]) (by simp[hl])
  simp at cV;rw[cq]
  conv=>lhs;arg 4;unfold CR
  rw[n6];cases hw:w.task==t
  .simp[hlt,hg,W.row,hw,hnext]
   rw[cV];cases suf.findIdx? (λw=>w.task==t)with
   |none=>rfl
   |some k=>simp;omega
  .simp[hlt,hg,W.row,hw]
theorem Lr(nl:Bool)(l:List W)(t:Int)(hn:l.length<=1000000):
  ev P (.call Cj [.d (qD nl l),.d (I' t)] [])=some (.val (.tu [.d (I' (oL l t).1),.d (.b (oL l t).2)]) []):=by
 rw[bD Rn rfl];have hl:=R1 nl l t hn l [] rfl;simp at hl;unfold oL;cases h:l.findIdx? (λw=>w.task==t)with
 |none=>rw[h]at hl;simp[CT,hl]
 |some k=>rw[h]at hl;simp at hl;simp[CT,hl]
theorem R3{q:List W}{t:Int}:(oL q t).2=q.any λw=>w.task==t:=by
 unfold oL;cases h:q.findIdx? (λw=>w.task==t)with
 |none =>
  rw[Jg]at h;symm;rw[yf];intro x hx;rw[h x hx];decide
 |some k =>
  symm;obtain⟨h1,h2⟩:=tP.1 h;exact qI.2 ⟨_,m9 _,h2.1⟩
theorem W.neq{w w':W}(h:¬w=w'):(!w.task==w'.task||(!w.op==w'.op||(!w.value==w'.value||(!w.prio==w'.prio||!w.case==w'.case))))=true:=by
 cases hb:(!w.task==w'.task||(!w.op==w'.op||(!w.value==w'.value||(!w.prio==w'.prio||!w.case==w'.case))))
 .exfalso;apply h
  simp at hb;cases w;cases w';simp at hb⊢;exact hb
 .rfl
structure K where
 task:Int
 nl:Bool
 log:List Int
 deriving DecidableEq
@[simp] theorem K.eta(w:K):K.mk w.task w.nl w.log=w:=rfl
def K.row(w:K):List D:=[I' w.task,hD w.nl w.log]
abbrev cD(n:Bool)(l:List K):D:=.sl 2 n (l.map K.row)
theorem R4{f:Nat}{first caps:List D}{p:K->Bool}(nl:Bool)(l:List K)(hn:l.length<=1000000)
  (hp:∀a b c,ev P (.call f (first.map V.d++[.d (.ag [I' a,hD b c])]++caps.map V.d) [])=some (.val (.d (.b (p ⟨a,b,c⟩))) [])):
  ∀(suf pre:List K),l=pre++suf ->
  ev P (.loop 0 [0,1,7,8] CX [(0,.d (.sl 2 nl (l.map K.row))),(1,.d (.fn f first caps)),(7,.d (I' l.length)),(8,.d (I' pre.length))] []) =
   if idx p pre.length suf = -1 then some (.out (.exit 0) [] [])else some (.out .ret [(4,.d (I' (idx p pre.length suf)))] []):=by
 intro suf;induction suf with
 |nil =>
  intro pre hl
  have:l.length=pre.length:=by simp[hl]
  rw[cq]
  conv=>lhs;arg 4;unfold CX
  simp[this,idx]
 |cons w suf ih =>
  intro pre hl;have hg:l[pre.length]?=some w:=by simp[hl]
  have hlt:(pre.length:Int)<l.length:=by simp[hl];omega
  have hnext:IntKind.i64.wrap ((pre.length:Int)+1)=pre.length+1:=wrap_i64 (by omega) (by omega)
  have cV:=ih (pre++[w]) (by simp[hl])
  simp at cV;have dh:=hp w.task w.nl w.log;simp at dh;rw[cq]
  conv=>lhs;arg 4;unfold CX
  simp[hlt,hg,K.row,dh,G9];cases hw:p w
  .simp[idx,hw,hnext]
   exact cV
  .have:¬(pre.length:Int) = -1:=by omega
   simp[idx,hw,this]
theorem Ls{f:Nat}{first caps:List D}{p:K->Bool}(nl:Bool)(l:List K)(hn:l.length<=1000000)
  (hp:∀a b c,ev P (.call f (first.map V.d++[.d (.ag [I' a,hD b c])]++caps.map V.d) [])=some (.val (.d (.b (p ⟨a,b,c⟩))) [])):
  ev P (.call Co [.d (.sl 2 nl (l.map K.row)),.d (.fn f first caps)] [])=some (.val (.d (I' (idx p 0 l))) []):=by
 rw[bD Rw rfl];have hl:=R4 nl l hn hp l [] rfl;simp at hl;simp[GN,hl];by_cases hc:idx p 0 l = -1<;>simp[hc]
theorem R5{f:Nat}{first caps:List D}{p:K->Bool}(nl:Bool)(l:List K)(hn:l.length<=1000000)
  (hp:∀a b c,ev P (.call f (first.map V.d++[.d (.ag [I' a,hD b c])]++caps.map V.d) [])=some (.val (.d (.b (p ⟨a,b,c⟩))) [])):
  ev P (.call Gn [.d (.sl 2 nl (l.map K.row)),.d (.fn f first caps)] [])=some (.val (.d (.b (l.any p))) []):=by
 rw[bD Rz rfl];have hi:=Ls nl l hn hp;simp[GQ,hi];have:=Da (p:=p) (l:=l) (k:=0) (by omega)
 cases ha:l.any p
 .have hc:¬0<=idx p 0 l:=λh=>by rw[this.1 h]at ha;cases ha
  simp[hc]
 .have hc:0<=idx p 0 l:=this.2 ha
  simp[hc]
def jA(k sz ot:Int):Int:=if(k != 7)=true then 8 else if(decide (sz<0)||decide (100<sz)||ot != 0)=true then 2 else 0
def zN:List D:=[I' 0,I' 0,I' 0,.sl 1 true [],.sl 5 true [],.sl 1 true [],.sl 2 true [],.b false,I' 0]
def l6:List D:=[I' (-1),I' 0,I' 0,.sl 1 true [],.sl 5 true [],.sl 1 true [],.sl 2 true [],.b false,I' 0]
theorem tg(nm:D)(k sz ot:Int):ev P (.call wW [.d (.ag [nm,I' k,I' sz,I' ot])] []) =
  some (.val (.tu [.d (.ag (if jA k sz ot=0 then l6 else zN)),.d (I' (jA k sz ot))]) []):=by
 rw[bD QV rfl];unfold jA;cases hk:k != 7
 .cases hb:(decide (sz<0)||decide (100<sz)||ot != 0)<;>simp[CD,hk,hb,l6,zN]
 .simp[CD,hk,zN]
def num(n:Int):Bool:=decide (-1099511627776<=n)&&decide (n<=1099511627776)
theorem He(n:Int):ev P (.call Cm [.d (I' n)] [])=some (.val (.d (.b (num n))) []):=by
 rw[bD Rt rfl];unfold num;simp[GM]
theorem R6(t a:Int)(b:Bool)(c:List Int):ev P (.call Cp [.d (.ag [I' a,hD b c]),.d (.ref [I' t])] [])=some (.val (.d (.b (a==t))) []):=by
 rw[bD Rx rfl];simp[GO]
def gI(C:List K)(t:Int):Int:=idx (λc=>c.task==t) 0 C
theorem xg(d0 d1 d2 d3 d4 d5 d7 d8:D)(cn:Bool)(C:List K)(t:Int)(hn:C.length<=1000000):
  ev P (.call qp [.d (.ag [d0,d1,d2,d3,d4,d5,cD cn C,d7,d8]),.d (I' t)] [])=some (.val (.d (I' (gI C t))) []):=by
 have hI:=Ls (f:=Cp) (first:=[]) (caps:=[.ref [I' t]]) (p:=λc=>c.task==t) cn C hn (by intro a b c;simp[R6])
 rw[bD Ra rfl];unfold gI;generalize idx (λc:K=>c.task==t) 0 C=r at *
 try simp at hI
 simp[GD,dY,hI]
def eX(Q:List W)(t op:Int):Bool:=Q.any λw=>w.task==t&&w.op==op
theorem R7(t op a b c d e:Int):ev P (.call Cu [.d (.ag [I' a,I' b,I' c,I' d,I' e]),.d (.ref [I' t]),.d (.ref [I' op])] [])=some (.val (.d (.b (a==t&&b==op))) []):=by
 rw[bD RJ rfl];simp[GY]
theorem Lt(d0 d1 d2 d3 d5 d6 d7 d8:D)(qn:Bool)(Q:List W)(t op:Int)(hn:Q.length<=1000000):
  ev P (.call zo [.d (.ag [d0,d1,d2,d3,qD qn Q,d5,d6,d7,d8]),.d (I' t),.d (I' op)] [])=some (.val (.d (.b (eX Q t op))) []):=by
 have hI:=Lq (f:=Cu) (first:=[]) (caps:=[.ref [I' t],.ref [I' op]]) (p:=λw=>w.task==t&&w.op==op) qn Q hn (by intro a b c d e;simp[R7])
 rw[bD RB rfl];unfold eX;generalize (Q.any λw=>w.task==t&&w.op==op)=r at *
 try simp at hI
 simp[GS,dY,hI]
def fl(sz:Int)(C:List K)(Q:List W):Bool:=C.any λc=>(c.log.length:Int)==sz&&!eX Q c.task 70
theorem R8(sz a:Int)(b:Bool)(c:List Int)(d0 d1 d2 d3 d5 d6 d7 d8:D)(qn:Bool)(Q:List W)(hn:Q.length<=1000000):
  ev P (.call Cq [.d (.ag [I' a,hD b c]),.d (.ref [I' sz]),.d (.ref [d0,d1,d2,d3,qD qn Q,d5,d6,d7,d8])] [])=some (.val (.d (.b ((c.length:Int)==sz&&!eX Q a 70))) []):=by
 have hw:=Lt d0 d1 d2 d3 d5 d6 d7 d8 qn Q a 70 hn;rw[bD RA rfl];cases h:(c.length:Int)==sz<;>simp[GR,h,hw]
theorem Db(sz:Int)(d0 d1 d2 d3 d5 d7 d8:D)(qn:Bool)(Q:List W)(cn:Bool)(C:List K)(hn:Q.length<=1000000)(hc:C.length<=1000000):
  ev P (.call sY [.d (I' sz),.d (.ag [d0,d1,d2,d3,qD qn Q,d5,cD cn C,d7,d8])] [])=some (.val (.d (.b (fl sz C Q))) []):=by
 have hI:=R5 (f:=Cq) (first:=[]) (caps:=[.ref [I' sz],.ref [d0,d1,d2,d3,qD qn Q,d5,cD cn C,d7,d8]]) (p:=λc=>(c.log.length:Int)==sz&&!eX Q c.task 70) cn C hc (by intro a b c;simp[R8,hn])
 rw[bD Rg rfl];unfold fl;generalize (C.any λc=>(c.log.length:Int)==sz&&!eX Q c.task 70)=r at *
 try simp at hI
 simp[GG,dY,hI]
def jS(sz:Int)(prev:Option K)(c:K):Bool:=decide (c.task<0)||decide (16<=c.task)||prev.any (λp=>decide (c.task<=p.task))||decide (sz<c.log.length)
def vc(sz:Int):Option K->List K->Bool
 |_,[]=>true
 |p,c::r=>!jS sz p c&&(c.log.all num&&vc sz (some c) r)
theorem R9(sz:D)(cn:Bool)(C:List K)(k:Int)(bn:Bool)(l:List Int)(hn:l.length<=1000000):∀(suf pre:List Int),l=pre++suf ->
  ev P (.loop 0 [0,1,9,10,11,47,48,49] CM [(0,.d sz),(1,.d (cD cn C)),(9,.d (cD cn C)),(10,.d (I' C.length)),(11,.d (I' k)),(47,.d (hD bn l)),(48,.d (I' l.length)),(49,.d (I' pre.length))] []) =
   if suf.all num=true then some (.out (.exit 2) [(0,.d sz),(1,.d (cD cn C)),(9,.d (cD cn C)),(10,.d (I' C.length)),(11,.d (I' k))] [])else some (.out .ret [(4,.d (.b false))] []):=by
 intro suf;induction suf with
 |nil =>
  intro pre hl
  have:l.length=pre.length:=by simp[hl]
  rw[cq]
  conv=>lhs;arg 4;unfold CM
  simp[this]
 |cons w suf ih =>
  intro pre hl;have hg:l[pre.length]?=some w:=by simp[hl]
  have hlt:(pre.length:Int)<l.length:=by simp[hl];omega
  have hnext:IntKind.i64.wrap ((pre.length:Int)+1)=pre.length+1:=wrap_i64 (by omega) (by omega)
  have cV:=ih (pre++[w]) (by simp[hl])
  rw[qF];generalize suf.all num=dd at *;simp at cV;rw[cq]
  conv=>lhs;arg 4;unfold CM
  cases hw:num w
  .simp[hlt,hg,He,hw]
  .simp[hlt,hg,He,hw,hnext]
   exact cV
set_option maxHeartbeats 1000000 in
theorem Sa(sz:Int)(cn:Bool)(C:List K)(hn:C.length<=1000000)(gV:∀c∈C,c.log.length<=1000000):∀(suf pre:List K),C=pre++suf ->
  ev P (.loop 0 [0,1,9,10,11] CN [(0,.d (I' sz)),(1,.d (cD cn C)),(9,.d (cD cn C)),(10,.d (I' C.length)),(11,.d (I' pre.length))] []) =
   if vc sz pre.getLast? suf=true then some (.out (.exit 0) [] [])else some (.out .ret [(4,.d (.b false))] []):=by
 intro suf;induction suf with
 |nil =>
  intro pre hl
  have:C.length=pre.length:=by simp[hl]
  rw[cq]
  conv=>lhs;arg 4;unfold CN
  simp[this,vc]
 |cons c suf ih =>
  intro pre hl;have hg:C[pre.length]?=some c:=by simp[hl]
  have hlt:(pre.length:Int)<C.length:=by simp[hl];omega
  have cV:=ih (pre++[c]) (by simp[hl])
  have hN:=R9 (I' sz) cn C pre.length c.nl c.log (gV c (by simp[hl])) c.log [] rfl
  have e1:vc sz pre.getLast? (c::suf)=(!jS sz pre.getLast? c&&(c.log.all num&&vc sz (some c) suf)):=rfl;rw[e1];simp only[Jb,Jc,Option.some_or]at cV;generalize vc sz (some c) suf=dd at *;generalize c.log.all num=da at *;simp at cV hN;rw[cq]
  conv=>lhs;arg 4;unfold CN
  have hnext:IntKind.i64.wrap ((pre.length:Int)+1)=pre.length+1:=wrap_i64 (by omega) (by omega)
  cases h1:(decide (c.task<0)||decide (16<=c.task))
  .rcases Jf pre with rfl |⟨pre',p,rfl⟩
   .have jB:0<C.length:=by simp[hl]
    have nP:C[0]=c:=by simp[hl]
    cases h2:decide (sz<c.log.length)
    .have hk:jS sz none c=false:=by simp only[jS,h1,h2,Option.any_none,AV]
     simp[G8]at cV hN;cases da
     .simp at hN
      simp[jB,nP,K.row,h1,h2,hk,hN]
     .simp at hN
      simp[jB,nP,K.row,h1,h2,hk,hN,G8];exact cV
    .have hk:jS sz none c=true:=by simp only[jS,h1,h2,Option.any_none,AV,Eo]
     simp[jB,nP,K.row,h1,h2,hk]
   .have td:C[pre'.length]?=some p:=by simp[hl]
    have hlen:((pre'.length:Int)+1<C.length):=by simp[hl];omega
    have hw:IntKind.i64.wrap ((pre'.length:Int)+1 - 1)=pre'.length:=by rw[wrap_i64 (by omega) (by omega)];omega
    have h0:(0:Int)<pre'.length+1:=by omega
    have Dc:(0:Int)<=pre'.length+1:=by omega
    have kr:IntKind.i64.wrap (pre'.length:Int)=pre'.length:=wrap_i64 (by omega) (by omega)
    have uZ:IntKind.i64.wrap ((pre'.length:Int)+1+1)=pre'.length+1+1:=wrap_i64 (by omega) (by omega)
    simp only[List.concat_eq_append,eC,tU]at hg;simp at cV hN;cases h3:decide (c.task<=p.task)
    .cases h2:decide (sz<c.log.length)
     .have hk:jS sz (some p) c=false:=by simp only[jS,h1,h2,h3,Ep,AV]
      cases da
      .simp at hN
       simp[hlen,hg,td,kr,h0,Dc,K.row,h1,h2,h3,hk,hN]
      .simp at hN
       simp[hlen,hg,td,kr,h0,Dc,K.row,h1,h2,h3,hk,hN,uZ];exact cV
     .have hk:jS sz (some p) c=true:=by simp only[jS,h1,h2,h3,Ep,AV,Eo]
      simp[hlen,hg,td,kr,h0,Dc,K.row,h1,h2,h3,hk]
    .have hk:jS sz (some p) c=true:=by simp only[jS,h1,h3,Ep,Eo,Bool.true_or]
     simp[hlen,hg,td,kr,h0,Dc,K.row,h1,h3,hk]
  .have hk:jS sz pre.getLast? c=true:=by simp[jS,h1]
   simp[hlt,hg,K.row,h1,hk]
theorem Sb(sz:Int)(cn:Bool)(C:List K)(hn:C.length<=1000000)(gV:∀c∈C,c.log.length<=1000000):
  ev P (.call Gi [.d (I' sz),.d (cD cn C)] [])=some (.val (.d (.b (vc sz none C))) []):=by
 have hL:=Sa sz cn C hn gV C [] rfl;rw[bD Rj rfl];generalize hv:vc sz none C=v at *;simp[hv]at hL;cases v<;>simp at hL<;>simp[GH,hL]
theorem fd_eq{pre:List W}{w:W}{r:List W}:((oL (pre++w::r) w.task).1==(pre.length:Int))=!pre.any (λx=>x.task==w.task):=by
 unfold oL;rw[List.findIdx?_append];cases h:pre.findIdx? (λx=>x.task==w.task)with
 |none =>
  have:pre.any (λx=>x.task==w.task)=false:=by
   rw[yf];rw[Jg]at h;intro x hx;rw[h x hx];decide
  rw[this];simp[n6]
 |some k =>
  obtain⟨h1,h2⟩:=tP.1 h
  have:pre.any (λx=>x.task==w.task)=true:=qI.2 ⟨_,m9 _,h2.1⟩
  rw[this];simp;omega
theorem zO{α:Type}{p:α->Bool}:∀(l:List α)(k:Nat),(idx p (k:Int) l = -1/\l.find? p=none)\/∃(i:Nat)(c:α),idx p (k:Int) l=((k+i:Nat):Int)/\l[i]?=some c/\l.find? p=some c
 | [],k=>.inl ⟨rfl,rfl⟩
 |a::l,k=>by
  by_cases ha:p a=true
  .right
   exact⟨0,a,by simp[idx,ha],by simp,by simp[ha]⟩
  .have h:=zO (p:=p) l (k+1)
   have e:((k+1:Nat):Int)=(k:Int)+1:=by omega
   rw[e]at h;rcases h with⟨h1,h2⟩ |⟨i,c,h1,h2,h3⟩
   .left
    exact⟨by simp[idx,ha,h1],by simp[ha,h2]⟩
   .right
    refine⟨i+1,c,?_,by simpa using h2,by simp[ha,h3]⟩
    simp[idx,ha,h1];omega
def iO(C:List K)(t:Int):Option K:=C.find? λc=>c.task==t
theorem Dd(C:List K)(t:Int):(gI C t = -1/\iO C t=none)\/∃(i:Nat)(c:K),gI C t=(i:Int)/\C[i]?=some c/\iO C t=some c:=by
 have h:=zO (p:=λc:K=>c.task==t) C 0
 simpa[gI,iO]using h
def nR(C:List K)(w:W):Bool:=match iO C w.task with |some c=>!decide (0<c.log.length)&&w.value==0 |none=>false
def l7(sz:Int)(C:List K)(Q:List W)(w:W):Bool:=if w.op=70 then nR C w else if w.op=68 then fl sz C Q else false
def tq(sz:Int)(C:List K)(Q:List W):List W->List W->Bool
 |_,[]=>true
 |pre,w::r=>!pre.any (λx=>x.task==w.task)&&(w.case == -1&&(l7 sz C Q w&&tq sz C Q (pre++[w]) r))
theorem Sc(sz:Int)(d0 d1 d2 d3 d5 d7 d8:D)(qn:Bool)(Q:List W)(cn:Bool)(C:List K)(hn:Q.length<=1000000)(hc:C.length<=1000000):∀(suf pre:List W),Q=pre++suf ->
  ev P (.loop 0 [0,3,15,16,17] CO [(0,.d (I' sz)),(3,.d (.ref [d0,d1,d2,d3,qD qn Q,d5,cD cn C,d7,d8])),(15,.d (qD qn Q)),(16,.d (I' Q.length)),(17,.d (I' pre.length))] []) =
   if tq sz C Q pre suf=true then some (.out (.exit 0) [] [])else some (.out .ret [(4,.d (.b false))] []):=by
 intro suf;induction suf with
 |nil =>
  intro pre hl
  have:Q.length=pre.length:=by simp[hl]
  rw[cq]
  conv=>lhs;arg 4;unfold CO
  simp[this,tq]
 |cons w suf ih =>
  intro pre hl;have hg:Q[pre.length]?=some w:=by simp[hl]
  have hlt:(pre.length:Int)<Q.length:=by simp[hl];omega
  have hnext:IntKind.i64.wrap ((pre.length:Int)+1)=pre.length+1:=wrap_i64 (by omega) (by omega)
  have cV:=ih (pre++[w]) (by simp[hl])
  have hF:=Lr qn Q w.task hn;have l8:((oL Q w.task).1==(pre.length:Int))=!pre.any (λx=>x.task==w.task):=by rw[hl];exact fd_eq
  have l9:=xg d0 d1 d2 d3 (qD qn Q) d5 d7 d8 cn C w.task hc;have iZ:=Db sz d0 d1 d2 d3 d5 d7 d8 qn Q cn C hn hc;have e1:tq sz C Q pre (w::suf)=(!pre.any (λx=>x.task==w.task)&&(w.case == -1&&(l7 sz C Q w&&tq sz C Q (pre++[w]) suf))):=rfl
  rw[e1];generalize tq sz C Q (pre++[w]) suf=dd at *;generalize (oL Q w.task).1=fi at *;generalize (oL Q w.task).2=fb at *;simp at cV;rw[cq]
  conv=>lhs;arg 4;unfold CO
  cases ha:pre.any (λx=>x.task==w.task)
  .rw[ha]at l8
   have qu:(fi != (pre.length:Int))=false:=by simp[bne,l8]
   cases hk:w.case == -1
   .have hk2:(w.case != -1)=true:=by simp[bne,hk]
    simp[hlt,hg,W.row,hF,qu,hk2]
   .have hk2:(w.case != -1)=false:=by simp[bne,hk]
    by_cases iz:w.op=70
    .have De:(w.op==70)=true:=by simp[iz]
     have e2:l7 sz C Q w=nR C w:=by simp[l7,iz]
     rw[e2];rcases Dd C w.task with⟨f1,f2⟩ |⟨i,c,f1,f2,f3⟩
     .have e3:nR C w=false:=by simp[nR,f2]
      rw[f1]at l9;simp[hlt,hg,W.row,hF,qu,hk2,iz,l9,e3]
     .have e3:nR C w=(!decide (0<c.log.length)&&w.value==0):=by simp only[nR,f3]
      rw[f1]at l9;rw[e3];have n1:¬((i:Int)<0):=by omega
      cases p1:decide (0<c.log.length)
      .cases p2:w.value==0
       .have p3:(w.value != 0)=true:=by simp[bne,p2]
        simp at p1;simp[hlt,hg,W.row,hF,qu,hk2,iz,l9,n1,f2,K.row,p1,p3]
       .have p3:(w.value != 0)=false:=by simp[bne,p2]
        simp at p1;simp[hlt,hg,W.row,hF,qu,hk2,iz,l9,n1,f2,K.row,p1,p3,hnext];exact cV
      .simp at p1
       simp[hlt,hg,W.row,hF,qu,hk2,iz,l9,n1,f2,K.row,p1]
    .have De:(w.op==70)=false:=by simp[iz]
     by_cases cN:w.op=68
     .have e2:l7 sz C Q w=fl sz C Q:=by simp[l7,cN]
      rw[e2];cases hfl:fl sz C Q
      .rw[hfl]at iZ
       simp[hlt,hg,W.row,hF,qu,hk2,cN,iZ]
      .rw[hfl]at iZ
       simp[hlt,hg,W.row,hF,qu,hk2,cN,iZ,hnext];exact cV
     .have Hf:(w.op==68)=false:=by simp[cN]
      have e2:l7 sz C Q w=false:=by simp[l7,iz,cN]
      rw[e2];simp[hlt,hg,W.row,hF,qu,hk2,De,Hf]
  .rw[ha]at l8
   have qu:(fi != (pre.length:Int))=true:=by simp[bne,l8]
   simp[hlt,hg,W.row,hF,qu]
theorem Sd(sz:Int)(d0 d1 d2 d3 d5 d7 d8:D)(qn:Bool)(Q:List W)(cn:Bool)(C:List K)(hn:Q.length<=1000000)(hc:C.length<=1000000):
  ev P (.call Gj [.d (I' sz),.d (.ag [d0,d1,d2,d3,qD qn Q,d5,cD cn C,d7,d8])] [])=some (.val (.d (.b (qt Q==0&&tq sz C Q [] Q))) []):=by
 have hL:=Sc sz d0 d1 d2 d3 d5 d7 d8 qn Q cn C hn hc Q [] rfl;have hW:=RZ qn Q;rw[bD Rk rfl];generalize tq sz C Q [] Q=v at *;simp at hL;cases hw:qt Q==0
 .have kr:(qt Q != 0)=true:=by simp[bne,hw]
  simp[CP,hW,kr]
 .have kr:(qt Q != 0)=false:=by simp[bne,hw]
  cases v<;>simp at hL<;>simp[CP,hW,kr,hL]
structure S where
 own:Int
 cnt:Int
 time:Int
 hn:Bool
 H:List Int
 qn:Bool
 Q:List W
 bn:Bool
 B:List Int
 cn:Bool
 C:List K
 cl:Bool
 val:Int
abbrev S.row(s:S):List D:=[I' s.own,I' s.cnt,I' s.time,hD s.hn s.H,qD s.qn s.Q,hD s.bn s.B,cD s.cn s.C,.b s.cl,I' s.val]
def S.zP(s:S):Bool:=s.cnt != 0||s.time != 0||decide (0<s.H.length+s.B.length)||s.cl||s.val != 0
structure S.sm(s:S):Prop where
 h:s.H.length<=1000000
 b:s.B.length<=1000000
 q:s.Q.length<=1000000
 c:s.C.length<=1000000
 l:∀c∈s.C,c.log.length<=1000000
def S.good(sz:Int)(s:S):Bool:=s.own == -1&&(vc sz none s.C&&(qt s.Q==0&&tq sz s.C s.Q [] s.Q))&&!s.zP
def gJ(k sz ot:Int)(s:S):Int:=if jA k sz ot=0 then(if s.good sz then 0 else 1)else jA k sz ot
theorem zS(nm:D)(k sz ot:Int)(s:S)(hs:s.sm):
  ev P (.call F6 [.d (.ag [nm,I' k,I' sz,I' ot]),.d (.ag s.row)] [])=some (.val (.d (I' (gJ k sz ot s))) []):=by
 have hC:=Sb sz s.cn s.C hs.c hs.l;have hQ:=Sd sz (I' s.own) (I' s.cnt) (I' s.time) (hD s.hn s.H) (hD s.bn s.B) (.b s.cl) (I' s.val) s.qn s.Q s.cn s.C hs.q hs.c;have hh:=hs.h;have hb:=hs.b;rw[bD QW rfl];unfold gJ;cases hm:jA k sz ot==0
 .have hm':jA k sz ot≠0:=by simpa using hm
  have hm2:(jA k sz ot != 0)=true:=by simpa using hm'
  simp[uV,tg,hm',hm2,zN]
 .have hm':jA k sz ot=0:=by simpa using hm
  unfold S.good;cases ho:s.own == -1
  .have zT:(s.own != -1)=true:=by simp[bne,ho]
   simp[uV,tg,hm',l6,zT]
  .have zT:(s.own != -1)=false:=by simp[bne,ho]
   cases hv:vc sz none s.C<;>rw[hv]at hC
   .simp[uV,tg,hm',l6,zT,hC]
   .cases hq:(qt s.Q==0&&tq sz s.C s.Q [] s.Q)<;>rw[hq]at hQ
    .simp[uV,tg,hm',l6,zT,hC,hQ]
    .have hw:IntKind.i64.wrap ((s.H.length:Int)+s.B.length)=s.H.length+s.B.length:=wrap_i64 (by omega) (by omega)
     have hd:decide ((0:Int)<(s.H.length:Int)+s.B.length)=decide (0<s.H.length+s.B.length):=by
      rw[AF];simp;omega
     simp[uV,tg,hm',l6,zT,hC,hQ,hw,hd];cases hz:(s.cnt != 0||s.time != 0||decide (0<s.H.length+s.B.length)||s.cl||s.val != 0)
     .have fO:s.zP=false:=hz
      simp[fO]
     .have fO:s.zP=true:=hz
      simp[fO]
def cx(Q:List W):Int:=idx (λw=>w.op==68) 0 Q
theorem Se{Q:List W}:decide (cx Q<0)=!Q.any λw=>w.op==68:=by
 have:=Da (p:=λw:W=>w.op==68) (l:=Q) (k:=0) (by omega)
 unfold cx;cases h:Q.any λw=>w.op==68
 .rw[h]at this
  have h2:¬0<=idx (λw:W=>w.op==68) 0 Q:=λx=>by simpa using this.1 x
  simp;omega
 .have:=this.2 h
  simp;omega
def th(task prio now:Int):Bool:=decide (task<0)||decide (16<=task)||decide (prio<0)||decide (9<prio)||decide (now<0)||decide (1099511627776<now)
def eY(s:S)(task op value prio now:Int):Int :=
 if th task prio now=true then 2 else if(op==68||op==69||op==70||op==71)=false then 8 else
 if(op==68&&!num value)=true then 2 else if(s.Q.any λw=>w.task==task)=true then 17 else
 if(op==69&&decide (0<=gI s.C task))=true then 6 else if((op==71||op==70)&&!decide (0<=gI s.C task))=true then 20 else 0
theorem zU(s:S)(hs:s.sm)(task op value prio now:Int):
  ev P (.call F9 [.d (.ag s.row),.d (.ag [I' task,I' op,I' value,I' prio,I' now])] [])=some (.val (.d (I' (eY s task op value prio now))) []):=by
 have hF:=Lr s.qn s.Q task hs.q;rw[R3]at hF;have l9:=xg (I' s.own) (I' s.cnt) (I' s.time) (hD s.hn s.H) (qD s.qn s.Q) (hD s.bn s.B) (.b s.cl) (I' s.val) s.cn s.C task hs.c;have hN:=He value;unfold eY;generalize (s.Q.any λw=>w.task==task)=a at *
 generalize (oL s.Q task).1=fi at *;generalize gI s.C task=fk at *;generalize num value=nv at *;rw[bD Q5 rfl];cases hb:(decide (task<0)||decide (16<=task)||decide (prio<0)||decide (9<prio)||decide (now<0)||decide (1099511627776<now))
 .have zV:th task prio now=false:=hb
  rw[zV];by_cases cN:op=68
  .subst cN
   cases nv<;>cases a<;>simp[oJ,hb,hN,hF,l9]
  .have Hf:(op==68)=false:=by simp[cN]
   by_cases k7:op=69
   .subst k7
    cases a
    .by_cases hk:0<=fk<;>simp[oJ,hb,hF,l9,hk]
    .simp[oJ,hb,hF,l9]
   .have Sf:(op==69)=false:=by simp[k7]
    by_cases iz:op=70
    .subst iz
     cases a
     .by_cases hk:0<=fk<;>simp[oJ,hb,hF,l9,hk]
     .simp[oJ,hb,hF,l9]
    .have De:(op==70)=false:=by simp[iz]
     by_cases k8:op=71
     .subst k8
      cases a
      .by_cases hk:0<=fk<;>simp[oJ,hb,hF,l9,hk]
      .simp[oJ,hb,hF,l9]
     .have Sg:(op==71)=false:=by simp[k8]
      simp[oJ,hb,Hf,Sf,De,Sg]
 .have zV:th task prio now=true:=hb
  simp[oJ,hb,zV]
structure Z where
 o:D
 c:D
 t:D
 h:D
 b:D
 l:D
 v:D
structure Wk where
 task:Int
 op:Int
 value:Int
 deriving DecidableEq
def Wk.row(w:Wk):List D:=[I' w.task,I' w.op,I' w.value,.b true,I' (-1)]
inductive Wo where
 |nil
 |a0(l:List Wk)
 |a1(l:List Wk)
def au(z:Z)(sz:Int)(q c w:V):O:=.cS 11 [[.d (I' sz),.d z.o,.d z.c,.d z.t,.d z.h,q,.d z.b,c,.d z.l,.d z.v,w]]
def aD(z:Z)(sz:Int)(q c w:D):O:=.an 11 true [[I' sz,z.o,z.c,z.t,z.h,q,z.b,c,z.l,z.v,w]]
def hB(z:Z)(sz:Int)(q:D)(C:List K):Option (List (List D))->Wo->List O
 |none,.nil=>[aD z sz q (.sl 2 true []) (.sl 5 true [])]
 |none,.a0 l=>[au z sz (.d q) (.d (.sl 2 true [])) (.aJ 1 0 l.length),.an 5 true (l.map Wk.row)]
 |none,.a1 l=>[au z sz (.d q) (.d (.sl 2 true [])) (.aJ 2 0 l.length),.dead,.an 5 true (l.map Wk.row)]
 |some T,.nil=>[au z sz (.d q) (.aJ 1 0 C.length) (.d (.sl 5 true [])),.an 2 true (C.map K.row++T)]
 |some T,.a0 l=>[au z sz (.d q) (.aJ 1 0 C.length) (.aJ 2 0 l.length),.an 2 true (C.map K.row++T),.an 5 true (l.map Wk.row)]
 |some T,.a1 l=>[au z sz (.d q) (.aJ 1 0 C.length) (.aJ 3 0 l.length),.an 2 true (C.map K.row++T),.dead,.an 5 true (l.map Wk.row)]
theorem bt:List.range 2=[0,1]:=rfl
theorem bu:List.range 3=[0,1,2]:=rfl
theorem bR:List.range 4=[0,1,2,3]:=rfl
theorem cY:List.range 5=[0,1,2,3,4]:=rfl
theorem Hg(z:Z)(sz:Int)(q:D)(C:List K) (cs)(t op v p k x:Int):
  ev P (.call zn [.loc 0 0 0,.d (.ag [I' t,I' op,I' v,I' p,I' k]),.d (I' x)] (hB z sz q C cs .nil))=some (.val (.tu []) (hB z sz q C cs (.a0 [⟨t,op,x⟩]))):=by
 have hr:1<=room:=by unfold room;omega
 rw[bD K7 rfl];rcases cs with _ |T<;>simp[CY,hB,aD,au,Wk.row,aQ,cut,bt,bu,bR,aZ,bp,hr,V.cC]
theorem zW(z:Z)(sz:Int)(q:D)(C:List K) (cs)(l:List Wk)(t op v p k x:Int)(hl:l.length<=1000000):
  ev P (.call zn [.loc 0 0 0,.d (.ag [I' t,I' op,I' v,I' p,I' k]),.d (I' x)] (hB z sz q C cs (.a0 l)))=some (.val (.tu []) (hB z sz q C cs (.a1 (l++[⟨t,op,x⟩])))):=by
 have hr:l.length+1<=room:=by unfold room;omega
 rw[bD K7 rfl];rcases cs with _ |T<;>simp[CY,hB,aD,au,Wk.row,aQ,cut,bt,bu,bR,cY,aZ,bp,hr,V.cC,bK,vM]
theorem Lu(nl:Bool)(q:List W)(gF:nl=true->q=[])(hn:q.length<=1000000):
  ev P (.call Cn [.d (qD nl q)] [])=if nl=true then some (.val (.d (.sl 5 true [])) [])else some (.val (.aJ 0 0 q.length) [.an 5 true (q.map W.row)]):=by
 rw[bD Rv rfl];cases nl
 .have hr:q.length<=room:=by unfold room;omega
  cases q with
  |nil=>simp[zF,cK,dM,aQ,cut,bp]
  |cons a r =>
   simp at hr;simp[zF,cK,dM,aQ,cut,hr,bp]
 .simp[zF,bp]
theorem Sh(nl:Bool)(q:List K)(gF:nl=true->q=[])(hn:q.length<=1000000):
  ev P (.call Gl [.d (cD nl q)] [])=if nl=true then some (.val (.d (.sl 2 true [])) [])else some (.val (.aJ 0 0 q.length) [.an 2 true (q.map K.row)]):=by
 rw[bD Ru rfl];cases nl
 .have hr:q.length<=room:=by unfold room;omega
  cases q with
  |nil=>simp[zE,cK,dM,aQ,cut,bp]
  |cons a r =>
   simp at hr;simp[zE,cK,dM,aQ,cut,hr,bp]
 .simp[zE,bp]
def gB(z:Z)(sz:Int)(qn:Bool)(Q:List W)(cn:Bool)(C:List K):List O :=
 match qn,cn with
 |true,true=>[aD z sz (.sl 5 true []) (.sl 2 true []) (.sl 5 true [])]
 |true,false=>[au z sz (.d (.sl 5 true [])) (.aJ 1 0 C.length) (.d (.sl 5 true [])),.an 2 true (C.map K.row)]
 |false,true=>[au z sz (.aJ 1 0 Q.length) (.d (.sl 2 true [])) (.d (.sl 5 true [])),.an 5 true (Q.map W.row)]
 |false,false=>[au z sz (.aJ 1 0 Q.length) (.aJ 2 0 C.length) (.d (.sl 5 true [])),.an 5 true (Q.map W.row),.an 2 true (C.map K.row)]
theorem Df(z:Z)(x0 x1 x3:D)(sz:Int)(qn:Bool)(Q:List W)(cn:Bool)(C:List K)(h1:qn=true->Q=[])(h2:cn=true->C=[])(h3:Q.length<=1000000)(h4:C.length<=1000000):
  ev P (.call Ga [.d (.ag [x0,x1,I' sz,x3]),.d (.ag [z.o,z.c,z.t,z.h,qD qn Q,z.b,cD cn C,z.l,z.v])] [])=some (.val (.loc 0 0 0) (gB z sz qn Q cn C)):=by
 have hC:=Sh cn C h2 h4;have Lv:=Lu qn Q h1 h3;rw[bD Q6 rfl];cases qn<;>cases cn<;>simp at hC Lv <;>
  simp[GB,hC,Lv,dU,cK,dM,V.cC,gB,aD,au,aQ,cut,bt,bu,bR,cY,aZ,bp,aS]
theorem Si(nl:Bool)(q:List Int)(gF:nl=true->q=[])(hn:q.length<=1000000):
  ev P (.call F7 [.d (hD nl q)] [])=if nl=true then some (.val (.d (.sl 1 true [])) [])else some (.val (.aJ 0 0 q.length) [.an 1 true (rN q)]):=by
 rw[bD QZ rfl];cases nl
 .have hr:q.length<=room:=by unfold room;omega
  cases q with
  |nil=>simp[rL,cK,dM,aQ,cut,bp]
  |cons a r =>
   simp at hr;simp[rL,cK,dM,aQ,cut,hr,bp]
 .simp[rL,bp]
theorem Dg{α β:Type}{f:α->β}{r:List α}{x:β}:List.take (r.length+1) (r.map f++[x])=r.map f++[x]:=fU (by simp)
theorem Lw{α:Type}{A B:List α}{x y:α}{n:Nat}(h:A.length=n):(A++x::B).set n y=A++y::B:=by
 subst h;simp
theorem Dh{α:Type}{A B:List α}{x:α}{n:Nat}(h:A.length=n):(A++x::B)[n]?=some x:=by
 subst h;simp
inductive Hs where
 |b0
 |b1(l:List Wk)
 |c(Q:List W)
def hX(z:Z)(sz:Int)(q:D)(n:Nat)(R:List (List D)):Hs->List O
 | .b0=>[au z sz (.d q) (.aJ 1 0 n) (.d (.sl 5 true [])),.an 2 true R]
 | .b1 l=>[au z sz (.d q) (.aJ 1 0 n) (.aJ 2 0 l.length),.an 2 true R,.an 5 true (l.map Wk.row)]
 | .c Q=>[au z sz (.d q) (.aJ 2 0 n) (.d (.sl 5 true [])),.an 5 false (Q.map W.row),.an 2 true R]
def Hs.m:Hs->Nat
 | .b0=>2
 | .b1 _=>3
 | .c _=>3
def cW(Q:List W)(v:Int)(c:K):K:=if eX Q c.task 70=true then c else⟨c.task,false,c.log++[v]⟩
theorem Hh(z:Z)(sz:Int)(qn:Bool)(Q:List W)(v:Int)(n:Nat)(T:List (List D))(sh:Hs)(hq:Q.length<=1000000)(hn:n<=1000000):∀(suf:List K)(A:List (List D)),A.length+suf.length=n ->
  (∀c∈suf,(c.nl=true->c.log=[])/\c.log.length<=100000) ->
  ev P (.loop sh.m [0,1,14,15] s7 [(0,.loc 0 0 0),(1,.d (I' v)),(14,.d (I' n)),(15,.d (I' A.length))] (hX z sz (qD qn Q) n (A++(suf.map K.row++T)) sh)) =
   some (.out (.exit 0) [(0,.loc 0 0 0),(1,.d (I' v))] (hX z sz (qD qn Q) n (A++((suf.map (cW Q v)).map K.row++T)) sh)):=by
 intro suf;induction suf with
 |nil =>
  intro A hl _
  have:n=A.length:=by simp at hl;exact hl.symm
  rw[cq]
  conv=>lhs;arg 4;unfold s7
  cases sh<;>simp[this,hX,Hs.m,au,aQ,cut,bt,bu,aZ]
 |cons c suf ih =>
  intro A hl hc;have hlt:(A.length:Int)<n:=by simp at hl;omega
  have jB:A.length<n:=by simp at hl;omega
  have hnext:IntKind.i64.wrap ((A.length:Int)+1)=A.length+1:=wrap_i64 (by omega) (by omega)
  have hC:=Si c.nl c.log (hc c (by simp)).1 (by have:=(hc c (by simp)).2;omega)
  have hr:c.log.length+1<=room:=by have:=(hc c (by simp)).2;unfold room;omega
  have hrow:c.row=[I' c.task,hD c.nl c.log]:=rfl;have hw:∀d0 d1 d2 d3 d5 d6 d7 d8:D,ev P (.call zo [.d (.ag [d0,d1,d2,d3,qD qn Q,d5,d6,d7,d8]),.d (I' c.task),.d (I' 70)] [])=some (.val (.d (.b (eX Q c.task 70))) []):=λd0 d1 d2 d3 d5 d6 d7 d8=>Lt d0 d1 d2 d3 d5 d6 d7 d8 qn Q c.task 70 hq
  have e0:A++((c::suf).map K.row++T)=A++c.row::(suf.map K.row++T):=by simp
  have e1:A++(((c::suf).map (cW Q v)).map K.row++T)=A++[(cW Q v c).row]++((suf.map (cW Q v)).map K.row++T):=by simp
  have cV:=ih (A++[(cW Q v c).row]) (by simp at hl⊢;omega) (λx hx=>hc x (by simp[hx]))
  rw[e0,e1,<-cV];have e2:A++[(cW Q v c).row]++(suf.map K.row++T)=A++(cW Q v c).row::(suf.map K.row++T):=by simp
  rw[e2];have hB:n<=A.length+((suf.map K.row++T).length+1):=by simp at hl⊢;omega
  generalize suf.map K.row++T=B at *;have k9:=Dh (A:=A) (B:=B) (x:=c.row) (n:=A.length) rfl;have tj:=λy=>Lw (A:=A) (B:=B) (x:=c.row) (y:=y) (n:=A.length) rfl
  simp only[eC,tU];generalize hR:ev P (.loop sh.m [0,1,14,15] s7 [(0,.loc 0 0 0),(1,.d (I' v)),(14,.d (I' n)),(15,.d (I' (A.length+1:Nat)))] (hX z sz (qD qn Q) n (A++(cW Q v c).row::B) sh))=R;rw[cq]
  conv=>lhs;arg 4;unfold s7
  cases oM:eX Q c.task 70
  .have hp:cW Q v c=⟨c.task,false,c.log++[v]⟩:=by simp[cW,oM]
   rw[hp]at hR;have xh:K.row ⟨c.task,false,c.log++[v]⟩=[I' c.task,.sl 1 false (rN (c.log++[v]))]:=rfl;rw[xh]at hR;have hw':=hw;rw[oM]at hw';cases gF:c.nl
   .rw[gF]at hC hrow
    rw[hrow]at k9 tj;simp at hR hC;cases sh;all_goals
     simp[hX,Hs.m,au]at hR;simp[hlt,jB,k9,hrow,hw',hX,Hs.m,au,aQ,cut,bt,bu,aZ,hnext,hB,hC,dU,hr,tj,bK,Dg,gk,bO,bS,vM,hR]
   .rw[gF]at hC hrow
    have gf:=(hc c (by simp)).1 gF
    rw[gf]at hrow hC hR;rw[hrow]at k9 tj;simp at hR hC;have h1:1<=room:=by unfold room;omega
    cases sh;all_goals
     simp[hX,Hs.m,au]at hR;simp[hlt,jB,k9,hrow,hw',hX,Hs.m,au,aQ,cut,bt,bu,aZ,hnext,hB,hC,dU,h1,tj,bK,Dg,gk,bO,bS,vM,hR]
  .have hp:cW Q v c=c:=by simp[cW,oM]
   rw[hp]at hR;have hw':=hw;rw[oM]at hw';rw[hrow]at k9 hR;simp at hR;cases sh;all_goals
    simp[hX,Hs.m,au]at hR;simp[hlt,jB,k9,hrow,hw',hX,Hs.m,au,aQ,cut,bt,bu,aZ,hnext,hB,hR]
inductive Hk where
 |w0
 |w1(l:List Wk)
 |wc(Q:List W)
def bH(z:Z)(sz:Int)(q:D)(C:List K)(i:Nat):Option (List (List D))->Hk->List Wk->List O
 |none,.w0,[]=>[aD z sz q (.sl 2 true []) (.sl 5 true [])]
 |none,.w0,a::l=>[au z sz (.d q) (.d (.sl 2 true [])) (.aJ (1+i) 0 (a::l).length)]
 |none,.w1 l,[]=>[au z sz (.d q) (.d (.sl 2 true [])) (.aJ 1 0 l.length),.an 5 true (l.map Wk.row)]
 |none,.w1 l,a::r=>[au z sz (.d q) (.d (.sl 2 true [])) (.aJ (2+i) 0 (l++a::r).length),.dead]
 |none,.wc Q,[]=>[aD z sz q (.sl 2 true []) (.sl 5 true []),.an 5 false (Q.map W.row)]
 |none,.wc Q,a::l=>[au z sz (.d q) (.d (.sl 2 true [])) (.aJ (2+i) 0 (a::l).length),.an 5 false (Q.map W.row)]
 |some T,.w0,[]=>[au z sz (.d q) (.aJ 1 0 C.length) (.d (.sl 5 true [])),.an 2 true (C.map K.row++T)]
 |some T,.w0,a::l=>[au z sz (.d q) (.aJ 1 0 C.length) (.aJ (2+i) 0 (a::l).length),.an 2 true (C.map K.row++T)]
 |some T,.w1 l,[]=>[au z sz (.d q) (.aJ 1 0 C.length) (.aJ 2 0 l.length),.an 2 true (C.map K.row++T),.an 5 true (l.map Wk.row)]
 |some T,.w1 l,a::r=>[au z sz (.d q) (.aJ 1 0 C.length) (.aJ (3+i) 0 (l++a::r).length),.an 2 true (C.map K.row++T),.dead]
 |some T,.wc Q,[]=>[au z sz (.d q) (.aJ 2 0 C.length) (.d (.sl 5 true [])),.an 5 false (Q.map W.row),.an 2 true (C.map K.row++T)]
 |some T,.wc Q,a::l=>[au z sz (.d q) (.aJ 2 0 C.length) (.aJ (3+i) 0 (a::l).length),.an 5 false (Q.map W.row),.an 2 true (C.map K.row++T)]
def fH:Hk->List Wk->List O
 |_,[]=>[]
 | .w1 l,a::r=>[.an 5 true ((l++a::r).map Wk.row)]
 |_,a::r=>[.an 5 true ((a::r).map Wk.row)]
def oV:List W->Nat->V
 | [],_=>.d (.sl 5 true [])
 |a::l,i=>.aJ i 0 (a::l).length
def oO:List W->List O
 | []=>[]
 |a::l=>[.an 5 true ((a::l).map W.row)]
def cH(z:Z)(sz:Int)(q:D)(C:List K)(cs:Option (List (List D)))(hk:Hk)(wn:List Wk)(ot:List W):List O:=bH z sz q C (oO ot).length cs hk wn++(oO ot++fH hk wn)
def dm:Option (List (List D))->Hk->Nat
 |none,.w0=>1
 |none,_=>2
 |some _,.w0=>2
 |some _,_=>3
def zX(v:Int)(w:W):Wk:=⟨w.task,w.op,v⟩
def pW(v:Int)(Q:List W):List Wk:=(Q.filter λw=>w.op==70).map (zX v)
def pO(Q:List W):List W:=Q.filter λw=>!(w.op==70)
def Hk.len:Hk->Nat
 | .w1 l=>l.length
 |_=>0
set_option maxHeartbeats 4000000 in
theorem Sj(z:Z)(sz:Int)(qd:D)(C:List K)(cs:Option (List (List D)))(hk:Hk)(qn:Bool)(Q:List W)(v:Int)(hq:Q.length<=100000)(hh:hk.len<=100000):∀(suf pre:List W)(wn:List Wk)(ot:List W),Q=pre++suf->wn.length<=pre.length->ot.length<=pre.length ->
  ev P (.loop (dm cs hk) [0,1,6,51,52,53] s8 [(0,.loc 0 0 0),(1,.d (I' v)),(6,oV ot (dm cs hk)),(51,.d (qD qn Q)),(52,.d (I' Q.length)),(53,.d (I' pre.length))] (cH z sz qd C cs hk wn ot)) =
   some (.out (.exit 2) [(0,.loc 0 0 0),(6,oV (ot++pO suf) (dm cs hk))] (cH z sz qd C cs hk (wn++pW v suf) (ot++pO suf))):=by
 intro suf;induction suf with
 |nil =>
  intro pre wn ot hl _ _
  have:Q.length=pre.length:=by simp[hl]
  rw[cq]
  conv=>lhs;arg 4;unfold s8
  rcases cs with _ |T<;>rcases hk with _ |l |Q0<;>rcases wn with _ |⟨a,wn⟩<;>rcases ot with _ |⟨b,ot⟩ <;>
   simp[this,pW,pO,cH,bH,fH,oV,oO,dm,au,aD,aQ,cut,bt,bu,aZ]
 |cons w suf ih =>
  intro pre wn ot hl h1 h2;have hg:Q[pre.length]?=some w:=by simp[hl]
  have hlt:(pre.length:Int)<Q.length:=by simp[hl];omega
  have qZ:pre.length<Q.length:=by simp[hl]
  have hnext:IntKind.i64.wrap ((pre.length:Int)+1)=pre.length+1:=wrap_i64 (by omega) (by omega)
  cases ho:w.op==70
  .have e1:pW v (w::suf)=pW v suf:=by simp[pW,ho]
   have e2:ot++pO (w::suf)=ot++[w]++pO suf:=by simp[pO,ho]
   have cV:=ih (pre++[w]) wn (ot++[w]) (by simp[hl]) (by simp;omega) (by simp;omega)
   rw[e1,e2,<-cV];generalize hR:ev P (.loop (dm cs hk) [0,1,6,51,52,53] s8 [(0,.loc 0 0 0),(1,.d (I' v)),(6,oV (ot++[w]) (dm cs hk)),(51,.d (qD qn Q)),(52,.d (I' Q.length)),(53,.d (I' (pre++[w]).length))] (cH z sz qd C cs hk wn (ot++[w])))=R;rw[cq]
   conv=>lhs;arg 4;unfold s8
   rcases ot with _ |⟨b,ot⟩
   .have hr:1<=room:=by unfold room;omega
    rcases cs with _ |T<;>rcases hk with _ |l |Q0<;>rcases wn with _ |⟨a,wn⟩;all_goals
     simp[cH,bH,fH,oV,oO,dm,au,aD,W.row]at hR;simp[hlt,hg,W.row,ho,hnext,cH,bH,fH,oV,oO,dm,au,aD,aQ,cut,bt,bu,aZ,hr,hR]
   .have hr:ot.length+1+1<=room:=by unfold room;simp at h2;omega
    rcases cs with _ |T<;>rcases hk with _ |l |Q0<;>rcases wn with _ |⟨a,wn⟩;all_goals
     simp[cH,bH,fH,oV,oO,dm,au,aD,W.row]at hR;simp[hlt,hg,W.row,ho,hnext,cH,bH,fH,oV,oO,dm,au,aD,aQ,cut,bt,bu,aZ,hr,bK,vM,hR]
  .have e1:wn++pW v (w::suf)=wn++[⟨w.task,w.op,v⟩]++pW v suf:=by simp[pW,ho,zX]
   have e2:pO (w::suf)=pO suf:=by simp[pO,ho]
   have cV:=ih (pre++[w]) (wn++[⟨w.task,w.op,v⟩]) ot (by simp[hl]) (by simp;omega) (by simp;omega)
   rw[e1,e2,<-cV];generalize hR:ev P (.loop (dm cs hk) [0,1,6,51,52,53] s8 [(0,.loc 0 0 0),(1,.d (I' v)),(6,oV ot (dm cs hk)),(51,.d (qD qn Q)),(52,.d (I' Q.length)),(53,.d (I' (pre++[w]).length))] (cH z sz qd C cs hk (wn++[⟨w.task,w.op,v⟩]) ot))=R;rw[cq]
   conv=>lhs;arg 4;unfold s8
   rcases wn with _ |⟨a,wn⟩
   .rcases hk with _ |l |Q0
    .have hw:=Hg z sz qd C cs w.task w.op w.value w.prio w.case v
     rcases cs with _ |T<;>rcases ot with _ |⟨b,ot⟩;all_goals
      simp[hB,au,aD,Wk.row]at hw;simp[cH,bH,fH,oV,oO,dm,au,aD,Wk.row,W.row]at hR;simp[hlt,hg,W.row,ho,hnext,cH,bH,fH,oV,oO,dm,au,aD,aQ,cut,bt,bu,aZ,hw,aW,sub,bz,back,hR]
    .have hw:=zW z sz qd C cs l w.task w.op w.value w.prio w.case v (by simp[Hk.len]at hh;omega)
     rcases cs with _ |T<;>rcases ot with _ |⟨b,ot⟩;all_goals
      simp[hB,au,aD,Wk.row]at hw;simp[cH,bH,fH,oV,oO,dm,au,aD,Wk.row,W.row]at hR;simp[hlt,hg,W.row,ho,hnext,cH,bH,fH,oV,oO,dm,au,aD,aQ,cut,bt,bu,aZ,hw,aW,sub,bz,back,hR]
    .have hw:=Hg z sz qd C cs w.task w.op w.value w.prio w.case v
     rcases cs with _ |T<;>rcases ot with _ |⟨b,ot⟩;all_goals
      simp[hB,au,aD,Wk.row]at hw;simp[cH,bH,fH,oV,oO,dm,au,aD,Wk.row,W.row]at hR;simp[hlt,hg,W.row,ho,hnext,cH,bH,fH,oV,oO,dm,au,aD,aQ,cut,bt,bu,aZ,hw,aW,sub,bz,back,hR]
   .rcases hk with _ |l |Q0
    .have hw:=zW z sz qd C cs (a::wn) w.task w.op w.value w.prio w.case v (by simp at h1⊢;omega)
     rcases cs with _ |T<;>rcases ot with _ |⟨b,ot⟩;all_goals
      simp[hB,au,aD,Wk.row]at hw;simp[cH,bH,fH,oV,oO,dm,au,aD,Wk.row,W.row]at hR;simp[hlt,hg,W.row,ho,hnext,cH,bH,fH,oV,oO,dm,au,aD,Wk.row,aQ,cut,bt,bu,aZ,hw,aW,sub,bz,back,hR]
    .have hw:=zW z sz qd C cs (l++a::wn) w.task w.op w.value w.prio w.case v (by simp[Hk.len]at h1 hh⊢;omega)
     rcases cs with _ |T<;>rcases ot with _ |⟨b,ot⟩;all_goals
      simp[hB,au,aD,Wk.row]at hw;simp[cH,bH,fH,oV,oO,dm,au,aD,Wk.row,W.row]at hR;simp[hlt,hg,W.row,ho,hnext,cH,bH,fH,oV,oO,dm,au,aD,Wk.row,aQ,cut,bt,bu,aZ,hw,aW,sub,bz,back,hR]
    .have hw:=zW z sz qd C cs (a::wn) w.task w.op w.value w.prio w.case v (by simp at h1⊢;omega)
     rcases cs with _ |T<;>rcases ot with _ |⟨b,ot⟩;all_goals
      simp[hB,au,aD,Wk.row]at hw;simp[cH,bH,fH,oV,oO,dm,au,aD,Wk.row,W.row]at hR;simp[hlt,hg,W.row,ho,hnext,cH,bH,fH,oV,oO,dm,au,aD,Wk.row,aQ,cut,bt,bu,aZ,hw,aW,sub,bz,back,hR]
def pH(z:Z)(sz:Int)(qn:Bool)(Q:List W)(C:List K):Option (List (List D))->Hk->List O
 |cs,.w0=>hB z sz (qD qn Q) C cs .nil
 |cs,.w1 l=>hB z sz (qD qn Q) C cs (.a0 l)
 |none,.wc _=>[au z sz (.aJ 1 0 Q.length) (.d (.sl 2 true [])) (.d (.sl 5 true [])),.an 5 true (Q.map W.row)]
 |some T,.wc _=>[au z sz (.aJ 1 0 Q.length) (.aJ 2 0 C.length) (.d (.sl 5 true [])),.an 5 true (Q.map W.row),.an 2 true (C.map K.row++T)]
def Lz(C:List K):Prop:=∀c∈C,(c.nl=true->c.log=[])/\c.log.length<=100000
def qO(Q:List W):D:=qD (decide (Q=[])) Q
def pR(z:Z)(sz:Int)(q:D)(C:List K)(cs:Option (List (List D)))(hk:Hk)(wn:List Wk):List O:=bH z sz q C 0 cs hk wn++fH hk wn
theorem Sk(z:Z)(sz:Int)(qn:Bool)(Q:List W)(v:Int)(C:List K)(cs:Option (List (List D)))(hk:Hk)(hq:Q.length<=100000)(hh:hk.len<=100000):
  ev P (.loop (dm cs hk) [0,1,6,51,52,53] s8 [(0,.loc 0 0 0),(1,.d (I' v)),(6,.d (.sl 5 true [])),(51,.d (qD qn Q)),(52,.d (I' Q.length)),(53,.d (I' 0))] (bH z sz (qD qn Q) C 0 cs hk [])) =
   some (.out (.exit 2) [(0,.loc 0 0 0),(6,oV (pO Q) (dm cs hk))] (cH z sz (qD qn Q) C cs hk (pW v Q) (pO Q))):=by
 have h:=Sj z sz (qD qn Q) C cs hk qn Q v hq hh Q [] [] [] rfl (by simp) (by simp)
 have e1:cH z sz (qD qn Q) C cs hk [] []=bH z sz (qD qn Q) C 0 cs hk []:=by
  cases cs<;>cases hk<;>simp[cH,oO,bH,fH]
 rw[e1]at h;have e2:(([]:List W).length:Int)=0:=rfl;rw[e2,jW,jW]at h;exact h
set_option maxHeartbeats 4000000 in
theorem LA(z:Z)(sz:Int)(qn:Bool)(Q:List W)(v:Int)(C:List K)(cs:Option (List (List D)))(hk:Hk)(mS:cs=none->C=[])(hq:Q.length<=100000)(hc:C.length<=100000)(hC:Lz C)(hh:hk.len<=100000)(j8:∀Q0,hk = .wc Q0->Q0=Q/\qn=false):
  ev P (.call Cg [.loc 0 0 0,.d (I' v)] (pH z sz qn Q C cs hk))=some (.val (.tu []) (pR z sz (qO (pO Q)) (C.map (cW Q v)) cs hk (pW v Q))):=by
 have hL:=Sk z sz qn Q v (C.map (cW Q v)) cs hk hq hh;generalize hwn:pW v Q=wn at *;generalize LB:pO Q=ot at *;rw[bD Ri rfl];rcases cs with _ |T
 .obtain rfl:=mS rfl
  rcases hk with _ |l |Q0
  .rcases wn with _ |⟨a,wn⟩<;>rcases ot with _ |⟨b,ot⟩
   all_goals
    simp[cH,bH,fH,oV,oO,dm,au,aD]at hL;simp[s9,s7,cq,bO,bS,gk,pH,pR,qO,hB,cH,bH,fH,oV,oO,dm,au,aD,aQ,cut,bt,bu,aZ,bK,hL,bp,W.row]
  .rcases wn with _ |⟨a,wn⟩<;>rcases ot with _ |⟨b,ot⟩
   all_goals
    simp[cH,bH,fH,oV,oO,dm,au,aD]at hL;simp[s9,s7,cq,bO,bS,gk,pH,pR,qO,hB,cH,bH,fH,oV,oO,dm,au,aD,aQ,cut,bt,bu,aZ,bK,hL,bp,W.row]
  .obtain⟨rfl,rfl⟩:=j8 Q0 rfl
   rcases wn with _ |⟨a,wn⟩<;>rcases ot with _ |⟨b,ot⟩;all_goals
    simp[cH,bH,fH,oV,oO,dm,au,aD]at hL;simp[s9,s7,cq,bO,bS,gk,pH,pR,qO,hB,cH,bH,fH,oV,oO,dm,au,aD,aQ,cut,bt,bu,aZ,bK,hL,bp,W.row]
 .rcases hk with _ |l |Q0
  .have hM:=Hh z sz qn Q v C.length T .b0 (by omega) (by omega) C [] (by simp) hC
   rcases wn with _ |⟨a,wn⟩<;>rcases ot with _ |⟨b,ot⟩;all_goals
    simp[cH,bH,fH,oV,oO,dm,au,aD,-List.map_map]at hL;simp[hX,Hs.m,au,-List.map_map]at hM;simp[s9,bO,bS,gk,pH,pR,qO,hB,cH,bH,fH,oV,oO,dm,au,aD,aQ,cut,bt,bu,aZ,bK,hM,hL,bp,W.row,-List.map_map]
  .have hM:=Hh z sz qn Q v C.length T (.b1 l) (by omega) (by omega) C [] (by simp) hC
   rcases wn with _ |⟨a,wn⟩<;>rcases ot with _ |⟨b,ot⟩;all_goals
    simp[cH,bH,fH,oV,oO,dm,au,aD,-List.map_map]at hL;simp[hX,Hs.m,au,-List.map_map]at hM;simp[s9,bO,bS,gk,pH,pR,qO,hB,cH,bH,fH,oV,oO,dm,au,aD,aQ,cut,bt,bu,aZ,bK,hM,hL,bp,W.row,-List.map_map]
  .obtain⟨rfl,rfl⟩:=j8 Q0 rfl
   have hM:=Hh z sz false Q0 v C.length T (.c Q0) (by omega) (by omega) C [] (by simp) hC
   rcases wn with _ |⟨a,wn⟩<;>rcases ot with _ |⟨b,ot⟩;all_goals
    simp[cH,bH,fH,oV,oO,dm,au,aD,-List.map_map]at hL;simp[hX,Hs.m,au,-List.map_map]at hM;simp[s9,bO,bS,gk,pH,pR,qO,hB,cH,bH,fH,oV,oO,dm,au,aD,aQ,cut,bt,bu,aZ,bK,hM,hL,bp,W.row,-List.map_map]
def hk1:List Wk->Hk
 | []=>.w0
 |a::l=>.w1 (a::l)
set_option maxHeartbeats 4000000 in
theorem Sl(z:Z)(sz:Int)(qn:Bool)(Q:List W)(C:List K)(cs:Option (List (List D)))(wn:List Wk)(w:W)(mS:cs=none->C=[])(hq:Q.length<=100000)(hc:C.length<=100000)(hC:Lz C)(hh:wn.length<=99999):
  ev P (.round [5] zy zA [.d (.ag [I' w.task,I' w.op,I' w.value,I' w.prio,I' w.case])] [(1,.rf [.loc 0 0 0])] (pH z sz qn Q C cs (hk1 wn))) =
   some (.out .normal [] (pR z sz (qO (pO Q)) (C.map (cW Q w.value)) cs (hk1 wn) (⟨w.task,w.op,0⟩::pW w.value Q))):=by
 have hP:=LA z sz qn Q w.value C cs (.w1 (wn++[⟨w.task,w.op,0⟩])) mS hq hc hC (by simp[Hk.len];omega) (by intro Q0 h;cases h)
 generalize Di:pW w.value Q=wo at *;generalize LB:pO Q=ot at *;generalize oA:C.map (cW Q w.value)=C' at *;have hl:C'.length=C.length:=by simp[<-oA]
 rw[Qs];rcases wn with _ |⟨a,wn⟩
 .have hw:=Hg z sz (qD qn Q) C cs w.task w.op w.value w.prio w.case 0
  rcases cs with _ |T<;>rcases wo with _ |⟨b,wo⟩;all_goals
   simp[hB,au,aD,Wk.row]at hw;simp[pH,hB,pR,bH,fH,au,aD,Wk.row,qO,hl]at hP;simp[zy,zA,hk1,pH,pR,qO,hB,cH,bH,fH,oV,oO,dm,au,aD,aQ,cut,bt,bu,bR,aZ,bK,aW,sub,bz,back,hw,hP,Wk.row,hl]
 .have hw:=zW z sz (qD qn Q) C cs (a::wn) w.task w.op w.value w.prio w.case 0 (by simp at hh⊢;omega)
  rcases cs with _ |T<;>rcases wo with _ |⟨b,wo⟩;all_goals
   simp[hB,au,aD,Wk.row]at hw;simp[pH,hB,pR,bH,fH,au,aD,Wk.row,qO,hl]at hP;simp[zy,zA,hk1,pH,pR,qO,hB,cH,bH,fH,oV,oO,dm,au,aD,aQ,cut,bt,bu,bR,aZ,bK,aW,sub,bz,back,hw,hP,Wk.row,hl]
theorem Sm(A B:List (List D))(r:List D)(h:A.length+B.length<=100000):
  ev P (.call Gr [.aJ 0 0 (A.length+(B.length+1)),.d (I' A.length),.d (I' (A.length+1))] [.an 5 true (A++r::B)]) =
   some (.val (.aJ 0 0 (A.length+B.length)) [.an 5 true (A++(B++[[I' 0,I' 0,I' 0,I' 0,I' 0]]))]):=by
 have h1:(A.length:Int)<=A.length+1:=by omega
 have h2:(A.length:Int)+1<=A.length+(B.length+1):=by omega
 have h3:(0:Int)<=A.length+1:=by omega
 have h4:((A.length:Int)==A.length+1)=false:=by simp;omega
 have h7:(A.length:Int)<=A.length+(B.length+1):=by omega
 have h5:A.length+B.length<=A.length+(B.length+1):=by omega
 have h6:¬(A.length+(B.length+1)<A.length+B.length):=by omega
 rw[bD RI rfl];have tr:(A.length:Int)<A.length+1:=by omega
 rcases B with _ |⟨b,B⟩
 .have h9:¬((A.length:Int)+1=0):=by omega
  simp at h2 h5 h6 h7;simp[C5,aQ,cut,h1,h2,h3,h4,h5,h6,h7,h9,tr,bp]
 .have h8:(1:Int)<B.length+1+1:=by omega
  have h9:¬((A.length:Int)+1=0):=by omega
  have h12:A.length+1+(B.length+1)<=A.length+(B.length+1+1):=by omega
  obtain⟨x,hx⟩:∃x,List.drop (B.length+1) (r::b::B)=[x]:=Er.1 (by simp)
  have zY:¬((A.length:Int)+(B.length+1)=0):=by omega
  have zZ:(0:Int)<=(A.length:Int)+(B.length+1):=by omega
  have z0:(B.length:Int)<=B.length+1:=by omega
  have z5:(B.length:Int)<B.length+1:=by omega
  have z6:((A.length:Int)+(B.length+1)).toNat=A.length+(B.length+1):=by omega
  have z7:((A.length:Int)+(B.length+1+1) - (A.length+(B.length+1))).toNat=1:=by omega
  have tv:A.length+(B.length+1)+1<=A.length+(B.length+1+1):=by omega
  have z8:List.take (A.length+(B.length+1)) (A++b::(B++[x]))=A++b::B:=by
   have:A++b::(B++[x])=(A++b::B)++[x]:=by simp
   rw[this];exact tV (by simp)
  have z9:List.drop (A.length+(B.length+1)+1) (A++b::(B++[x]))=[]:=qH (by simp;omega)
  have u5:((A.length:Int)+(B.length+1+1) - (A.length+1)).toNat=B.length+1:=by omega
  simp at h2 h5 h6 h7;simp[C5,aQ,cut,h1,h2,h3,h4,h5,h6,h7,h8,h9,u5,tr,h12,zY,zZ,z0,z5,z6,z7,tv,z8,z9,hx,bp]
theorem Sn(A B:List (List D))(r:List D)(h:A.length+B.length<=100000):
  ev P (.call Gf [.aJ 0 0 (A.length+(B.length+1)),.d (I' A.length),.d (I' (A.length+1))] [.an 2 true (A++r::B)]) =
   some (.val (.aJ 0 0 (A.length+B.length)) [.an 2 true (A++(B++[[I' 0,.sl 1 true []]]))]):=by
 have h1:(A.length:Int)<=A.length+1:=by omega
 have h2:(A.length:Int)+1<=A.length+(B.length+1):=by omega
 have h3:(0:Int)<=A.length+1:=by omega
 have h4:((A.length:Int)==A.length+1)=false:=by simp;omega
 have h7:(A.length:Int)<=A.length+(B.length+1):=by omega
 have h5:A.length+B.length<=A.length+(B.length+1):=by omega
 have h6:¬(A.length+(B.length+1)<A.length+B.length):=by omega
 rw[bD Rb rfl];have tr:(A.length:Int)<A.length+1:=by omega
 rcases B with _ |⟨b,B⟩
 .have h9:¬((A.length:Int)+1=0):=by omega
  simp at h2 h5 h6 h7;simp[CJ,aQ,cut,h1,h2,h3,h4,h5,h6,h7,h9,tr,bp]
 .have h8:(1:Int)<B.length+1+1:=by omega
  have h9:¬((A.length:Int)+1=0):=by omega
  have h12:A.length+1+(B.length+1)<=A.length+(B.length+1+1):=by omega
  obtain⟨x,hx⟩:∃x,List.drop (B.length+1) (r::b::B)=[x]:=Er.1 (by simp)
  have zY:¬((A.length:Int)+(B.length+1)=0):=by omega
  have zZ:(0:Int)<=(A.length:Int)+(B.length+1):=by omega
  have z0:(B.length:Int)<=B.length+1:=by omega
  have z5:(B.length:Int)<B.length+1:=by omega
  have z6:((A.length:Int)+(B.length+1)).toNat=A.length+(B.length+1):=by omega
  have z7:((A.length:Int)+(B.length+1+1) - (A.length+(B.length+1))).toNat=1:=by omega
  have tv:A.length+(B.length+1)+1<=A.length+(B.length+1+1):=by omega
  have z8:List.take (A.length+(B.length+1)) (A++b::(B++[x]))=A++b::B:=by
   have:A++b::(B++[x])=(A++b::B)++[x]:=by simp
   rw[this];exact tV (by simp)
  have z9:List.drop (A.length+(B.length+1)+1) (A++b::(B++[x]))=[]:=qH (by simp;omega)
  have u5:((A.length:Int)+(B.length+1+1) - (A.length+1)).toNat=B.length+1:=by omega
  simp at h2 h5 h6 h7;simp[CJ,aQ,cut,h1,h2,h3,h4,h5,h6,h7,h8,h9,u5,tr,h12,zY,zZ,z0,z5,z6,z7,tv,z8,z9,hx,bp]
theorem So(A B:List (List D))(r:List D)(h:A.length+B.length<=100000):
  ev P (.call Gp [.aJ 0 0 (A.length+(B.length+1)),.d (I' A.length),.d (I' (A.length+1))] [.an 5 true (A++r::B)]) =
   some (.val (.aJ 0 0 (A.length+B.length)) [.an 5 true (A++(B++[[I' 0,I' 0,I' 0,.b false,I' 0]]))]):=by
 have h1:(A.length:Int)<=A.length+1:=by omega
 have h2:(A.length:Int)+1<=A.length+(B.length+1):=by omega
 have h3:(0:Int)<=A.length+1:=by omega
 have h4:((A.length:Int)==A.length+1)=false:=by simp;omega
 have h7:(A.length:Int)<=A.length+(B.length+1):=by omega
 have h5:A.length+B.length<=A.length+(B.length+1):=by omega
 have h6:¬(A.length+(B.length+1)<A.length+B.length):=by omega
 rw[bD RE rfl];have tr:(A.length:Int)<A.length+1:=by omega
 rcases B with _ |⟨b,B⟩
 .have h9:¬((A.length:Int)+1=0):=by omega
  simp at h2 h5 h6 h7;simp[C0,aQ,cut,h1,h2,h3,h4,h5,h6,h7,h9,tr,bp]
 .have h8:(1:Int)<B.length+1+1:=by omega
  have h9:¬((A.length:Int)+1=0):=by omega
  have h12:A.length+1+(B.length+1)<=A.length+(B.length+1+1):=by omega
  obtain⟨x,hx⟩:∃x,List.drop (B.length+1) (r::b::B)=[x]:=Er.1 (by simp)
  have zY:¬((A.length:Int)+(B.length+1)=0):=by omega
  have zZ:(0:Int)<=(A.length:Int)+(B.length+1):=by omega
  have z0:(B.length:Int)<=B.length+1:=by omega
  have z5:(B.length:Int)<B.length+1:=by omega
  have z6:((A.length:Int)+(B.length+1)).toNat=A.length+(B.length+1):=by omega
  have z7:((A.length:Int)+(B.length+1+1) - (A.length+(B.length+1))).toNat=1:=by omega
  have tv:A.length+(B.length+1)+1<=A.length+(B.length+1+1):=by omega
  have z8:List.take (A.length+(B.length+1)) (A++b::(B++[x]))=A++b::B:=by
   have:A++b::(B++[x])=(A++b::B)++[x]:=by simp
   rw[this];exact tV (by simp)
  have z9:List.drop (A.length+(B.length+1)+1) (A++b::(B++[x]))=[]:=qH (by simp;omega)
  have u5:((A.length:Int)+(B.length+1+1) - (A.length+1)).toNat=B.length+1:=by omega
  simp at h2 h5 h6 h7;simp[C0,aQ,cut,h1,h2,h3,h4,h5,h6,h7,h8,h9,u5,tr,h12,zY,zZ,z0,z5,z6,z7,tv,z8,z9,hx,bp]
theorem Sp(a b c d e:Int):ev P (.call zq [.d (.ag [I' a,I' b,I' c,I' d,I' e])] [])=some (.val (.d (.b (b==68))) []):=by
 rw[bD RH rfl];simp[GX]
theorem Sq(nl:Bool)(l:List W)(hn:l.length<=1000000):
  ev P (.call zl [.d (qD nl l),.d (.fn zq [] [])] [])=some (.val (.d (I' (cx l))) []):=by
 have h:=Lp (f:=zq) (first:=[]) (caps:=[]) (p:=λw=>w.op==68) nl l hn (by intro a b c d e;simp[Sp])
 exact h
theorem Sr(z:Z)(sz:Int)(q:D)(C:List K)(cs:Option (List (List D))):
  ev P (.call Gm [.loc 0 0 0] (hB z sz q C cs .nil))=some (.val (.fn Ct [] [.rf [.loc 0 0 0]]) (hB z sz q C cs .nil)):=by
 rw[bD Ry rfl];rcases cs with _ |T<;>simp[GP,hB,au,aD,aQ,cut,bt,bu,aZ,bp]
end Go.VS.Tp
