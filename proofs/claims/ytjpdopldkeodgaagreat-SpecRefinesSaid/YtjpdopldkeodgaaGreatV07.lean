import Derived.Test.YtjpdopldkeodgaaGreatV06
set_option linter.all false
set_option maxHeartbeats 1000000
namespace Go.VS
def Ed:Nat:=11
def Qe:Nat:=13
def GR:Nat:=14
def sZ:Nat:=15
def Qf:Nat:=17
def KB:Nat:=18
def Ee:Nat:=20
def KC:Nat:=23
def KD:Nat:=25
def KE:Nat:=29
def Qg:Nat:=30
def Qh:Nat:=31
def Qi:Nat:=32
def KF:Nat:=33
def Qj:Nat:=34
def Az:Nat:=35
def Qk:Nat:=36
def qt:Nat:=37
def xI:Nat:=38
def GU:Nat:=42
def Ql:Nat:=43
def Qm:Nat:=44
def GV:Nat:=45
def uD:Nat:=57
def sq:Nat:=62
def pM:Nat:=63
def AA:Nat:=64
def Xe:Nat:=65
def Xf:Nat:=66
def su:Nat:=67
def lz:Nat:=68
def pN:Nat:=69
def Xg:Nat:=70
def Xh:Nat:=71
def s9:Nat:=72
def qu:Nat:=73
def AB:Nat:=74
def Xi:Nat:=75
def Xj:Nat:=76
def tc:Nat:=77
def oF:Nat:=78
def Ci:Nat:=79
def Xk:Nat:=80
def Xl:Nat:=81
def tg:Nat:=82
def gp:Nat:=83
def iP:Nat:=84
def Xm:Nat:=85
def Xn:Nat:=86
def th:Nat:=87
def rq:Nat:=88
def vJ:Nat:=89
def Xo:Nat:=90
def Xp:Nat:=91
def tj:Nat:=92
def nT:Nat:=93
def Cj:Nat:=94
def Xq:Nat:=95
def Xr:Nat:=96
def tr:Nat:=97
def pP:Nat:=98
def Ck:Nat:=99
def Xs:Nat:=100
def Xt:Nat:=101
def Ef:Nat:=102
def GW:Nat:=103
def Cm:Nat:=104
def xJ:Nat:=123
def KG:Nat:=125
def Qn:Nat:=126
def GX:Nat:=127
def KH:Nat:=128
def xK:Nat:=129
def acT:Nat:=20129
def KI:Nat:=130
def Eg:Nat:=131
def iQ:Nat:=132
def GY:Nat:=133
def KJ:Nat:=134
def Eh:Nat:=135
def Cn:Nat:=136
def Xu:Nat:=137
def Qo:Nat:=138
def KK:Nat:=139
def tv:Nat:=140
def Qp:Nat:=141
def qv:Nat:=142
def Qq:Nat:=143
def Qr:Nat:=144
def Qt:Nat:=145
def KL:Nat:=146
def Qu:Nat:=147
def Qv:Nat:=148
def Qw:Nat:=149
def KM:Nat:=150
def GZ:Nat:=151
def Qx:Nat:=152
def sv:Nat:=153
def Qy:Nat:=10153
def Qz:Nat:=154
def KN:Nat:=155
def KO:Nat:=156
def QA:Nat:=157
def QB:Nat:=158
def QC:Nat:=159
def G0:Nat:=160
def G1:Nat:=161
def QD:Nat:=162
def QE:Nat:=163
def QF:Nat:=164
def KP:Nat:=165
def QG:Nat:=166
def QH:Nat:=167
def QI:Nat:=168
def yV:Nat:=169
def G2:Nat:=170
def Ei:Nat:=171
def QJ:Nat:=172
def G3:Nat:=173
def AD:Nat:=174
def KQ:Nat:=175
def KR:Nat:=176
def KS:Nat:=177
def KT:Nat:=178
def KU:Nat:=179
def QK:Nat:=180
def QL:Nat:=181
def KV:Nat:=182
def KW:Nat:=183
def KX:Nat:=184
def KY:Nat:=185
def QM:Nat:=186
def QN:Nat:=187
def KZ:Nat:=188
def K0:Nat:=206
def G4:Nat:=207
def K1:Nat:=208
def K2:Nat:=209
def K3:Nat:=210
def QO:Nat:=211
def acU:Nat:=20211
def QS:Nat:=30211
def Ej:Nat:=212
def K4:Nat:=213
def tw:Nat:=214
def QT:Nat:=10214
def QU:Nat:=215
def xL:Nat:=216
def QV:Nat:=217
def QW:Nat:=20217
def Ek:Nat:=218
def QX:Nat:=219
def K5:Nat:=220
def K6:Nat:=221
def K7:Nat:=222
def K8:Nat:=223
def K9:Nat:=224
def QY:Nat:=225
def G5:Nat:=226
def QZ:Nat:=227
def La:Nat:=228
def AE:Nat:=229
def yW:Nat:=230
def sw:Nat:=231
def pQ:Nat:=232
def Co:Nat:=233
def AF:Nat:=234
def Lb:Nat:=235
def G6:Nat:=236
def Q2:Nat:=237
def Lc:Nat:=238
def Q3:Nat:=239
def G7:Nat:=240
def Q4:Nat:=241
def Ld:Nat:=242
def G8:Nat:=243
def Lf:Nat:=244
def G9:Nat:=245
def Q5:Nat:=246
def Lg:Nat:=247
def Lh:Nat:=248
def Li:Nat:=249
def Q6:Nat:=257
def El:Nat:=258
def Q7:Nat:=259
def Xv:Nat:=260
def Q8:Nat:=261
def Q9:Nat:=262
def Lj:Nat:=20262
def Ra:Nat:=263
def AG:Nat:=264
def Ll:Nat:=265
def Lm:Nat:=266
def Ln:Nat:=267
def Em:Nat:=268
def Cq:Nat:=269
def uE:Nat:=270
def Cr:Nat:=271
def xM:Nat:=272
def acV:Nat:=273
def acW:Nat:=274
def Lo:Nat:=275
def He:Nat:=276
def Rb:Nat:=277
def Lp:Nat:=278
def AH:Nat:=281
def acX:Nat:=282
def acY:Nat:=283
def Hf:Nat:=284
def Cs:Nat:=285
def acZ:Nat:=286
def ac0:Nat:=287
def Lq:Nat:=288
def Lr:Nat:=289
def En:Nat:=290
def ac1:Nat:=291
def ac2:Nat:=292
def ac3:Nat:=293
def Rc:Nat:=294
def Re:Nat:=295
def Rf:Nat:=296
def vK:Nat:=312
def oG:Nat:=313
def xN:Nat:=314
def Ls:Nat:=315
def Lt:Nat:=319
def Rg:Nat:=321
def Lu:Nat:=322
def Rh:Nat:=324
def Lv:Nat:=325
def Ri:Nat:=327
def Lw:Nat:=328
def Eo:Nat:=330
def Rj:Nat:=332
def Ct:Nat:=333
def Rk:Nat:=335
def Ep:Nat:=336
def Lz:Nat:=339
def LA:Nat:=341
@[simp] def zR:List D:=[(.i .i64 0),(.i .i64 0),(.i .i64 0),(.sl 1 true []),(.sl 5 true []),(.sl 1 true []),(.sl 2 true []),(.b false),(.i .i64 0)]
@[simp] def zQ:List D:=[(.i .i64 0),(.i .i64 0),(.i .i64 0),(.i .i64 0),(.i .i64 0)]
@[simp] def k0:A:=.k (.i .i64 0)
@[simp] def cx:List D:=[(.i .i64 0),(.i .i64 0),(.i .i64 0),(.sl 1 true []),(.sl 5 true []),(.sl 1 true []),(.sl 2 true []),(.b false),(.i .i64 0),(.b false),(.i .i64 0),(.b false),(.sl 5 true [])]
@[simp] def jP:List D:=[(.i .i64 0),(.i .i64 0),(.i .i64 0),(.b false),(.i .i64 0)]
@[simp] def fO:A:=.k (.b true)
@[simp] def Hg:A:=.k (.b false)
@[simp] def cS(n:Int):A:=.k (.i .i64 n)
instance:Coe I J:=⟨J.op⟩
@[simp] def aa(d x:Nat):J:=.op (.mv d (.t x))
@[simp] def cE(d:Nat)(n:Int):J:=.op (.mv d (cS n))
@[simp] def bu(d:Nat):J:=.op (.mv d k0)
@[simp] def bQ(d:Nat):J:=.op (.mv d Hg)
@[simp] def gy(d:Nat):J:=.op (.mv d fO)
@[simp] def aj(d x:Nat):J:=.op (.ld d (.t x) 1 false)
@[simp] def aM(d x n:Nat):J:=.op (.ld d (.t x) n true)
@[simp] def eY(d x:Nat):J:=.op (.sj d (.t x) 1 false)
@[simp] def gD(d x n:Nat):J:=.op (.sj d (.t x) n true)
@[simp] def af(d x o:Nat):J:=.op (.fa d (.t x) o 1)
@[simp] def fy(d x o:Nat):J:=.op (.pJ d (.t x) o 1)
@[simp] def aP(x y n:Nat):J:=.op (.st (.t x) (.t y) n false)
@[simp] def dU(x y n:Nat):J:=.op (.st (.t x) (.t y) n true)
@[simp] def bz(d x n:Nat):J:=.op (.box d (.t x) n true)
@[simp] def iz(d x n:Nat):J:=.op (.box d (.t x) n false)
@[simp] def cu(d x:Nat):J:=.op (.len d (.t x) .sl)
@[simp] def bW(d x i:Nat):J:=.op (.ext d (.t x) i)
@[simp] def dx(d x:Nat):J:=.op (.un d .not (.t x))
@[simp] def cM(d x:Nat):J:=.op (.sX d (.t x))
@[simp] def dc(d x i n:Nat):J:=.op (.ji d (.t x) (.t i) n)
@[simp] def cg(d:Nat)(z:List D):J:=.op (.new d z)
@[simp] def dK(d:Nat)(z:List D):J:=.op (.build d z [])
@[simp] def bA(d:Nat)(o:BinOp)(x y:Nat):J:=.op (.bin d o (.t x) (.t y))
@[simp] def bp(d:Nat)(o:BinOp)(x:Nat)(n:Int):J:=.op (.bin d o (.t x) (cS n))
@[simp] def bE(d:Nat)(o:BinOp)(x:Nat):J:=.op (.bin d o (.t x) k0)
@[simp] def xO(d f:Nat):J:=.op (.call (some d) f [])
@[simp] def dP(d f a:Nat):J:=.op (.call (some d) f [.t a])
@[simp] def cU(d f a b:Nat):J:=.op (.call (some d) f [.t a,.t b])
@[simp] def mB(d f a b c:Nat):J:=.op (.call (some d) f [.t a,.t b,.t c])
@[simp] def pS(d f a:Nat):J:=.op (.jd (some d) f [.t a])
@[simp] def nU(d f a b:Nat):J:=.op (.jd (some d) f [.t a,.t b])
@[simp] def yX(d f a b c:Nat):J:=.op (.jd (some d) f [.t a,.t b,.t c])
@[simp] def lC(d f a:Nat):J:=.op (.mP (some d) f [.t a])
@[simp] def vL(d x a:Nat):J:=.op (.nR (some d) (.t x) [.t a])
@[simp] def tA(d x a b:Nat):J:=.op (.nR (some d) (.t x) [.t a,.t b])
@[simp] def LB(d x:Nat)(n:Int):J:=.op (.nR (some d) (.t x) [cS n])
@[simp] def aX(o:Bool)(d c:Nat)(l:List J)(x:Nat):J:=.sc o d c l (.t x)
@[simp] def iE(d x y n:Nat):J:=.op (.app d (.t x) (.t y) n)
@[simp] def gR(d x a n:Nat):J:=.op (.sl d (.t x) (some (.t a)) none n)
@[simp] def mS(d x a n:Nat):J:=.op (.sl d (.t x) none (some (.t a)) n)
@[simp] def iA(d e n:Nat)(z:List D)(x:Nat):J:=.op (.lf d e n z [(0,.t x)] true)
@[simp] def ah(l:List J)(b:C):C:=.seq (.cr l) b
@[simp] def eo(p:List Nat)(l:List J)(b:C):C:=.seq (.lX [] p l) b
@[simp] def cT(n:Nat)(a b:C):C:=.ite (.t n) a b
@[simp] def dg(n:Nat)(a:C):C:=.ite (.t n) a .skip
@[simp] def bU(l:List J)(n:Nat)(a b:C):C:=.seq (.seq (.cr l) (.ite (.t n) a .skip)) b
@[simp] def mT(l:List J)(n:Nat)(a b c:C):C:=.seq (.seq (.cr l) (.ite (.t n) a b)) c
@[simp] def av(l:List J):C:=.seq (.cr l) .ret
@[simp] def aQ(a b:C):C:=.seq a b
def Cu:F:=.mk (ah [bz 3 0 4,bz 4 1 9,bz 5 2 5,bQ 6] (ah [af 18 3 1,aj 19 18,dP 20 KE 19,aa 17 20,bW 21 17 0,bW 22 17 1,cg 7 [.cN,.cN,.cN,.cN,.cN],dU 7 21 5,aa 8 22] (bU [aM 23 4 9,dP 24 Qe 23,aa 25 24,aX true 28 25 [aa 26 8,dx 27 26] 27,aa 29 28,aX true 33 29 [aM 30 5 5,dP 31 Qi 30,dx 32 31] 32] 33 (av [xO 34 GR,aa 6 34]) (aQ (eo [0,1,2,3,4,5,6,7,8,9,10,11,12] [fy 36 7 2,eY 37 36,gD 38 3 4,gD 39 4 9,gD 40 5 5,dP 41 KF 40,I.nR (some 42) (.t 37) [.t 38,.t 39,.t 41],aa 35 42,bW 43 35 0,bW 44 35 1,cg 9 cx,aP 9 43 13,aa 10 44] (.oC [9])) (bU [aa 45 10,bE 46 .neq 45] 46 (av [xO 47 GR,aa 6 47]) (ah [aM 49 3 4,aM 50 4 9,cU 51 KD 49 50,aa 48 51,bW 52 48 0,bW 53 48 1,cg 11 zR,dU 11 52 9,aa 12 53] (ah [aM 55 3 4,I.fa 56 (.t 9) 0 9,aM 57 56 9,cU 58 KD 55 57,aa 54 58,bW 59 54 0,bW 60 54 1,cg 13 zR,dU 13 59 9,aa 14 60] (aQ (eo [0,1,2,3,4,5,6,7,8,9,10,11,12,13,14] [gD 62 3 4,gD 63 11 9,gD 64 3 4,gD 65 4 9,gD 66 5 5,dP 67 KF 66,gD 68 9 13,I.call (some 69) Qj [.t 64,.t 65,.t 67,.t 68],mB 70 Qg 62 63 69,aa 61 70,bW 71 61 0,bW 72 61 1,cg 15 zR,aP 15 71 9,aa 16 72] (.oC [15])) (av [aa 73 12,bE 74 .eql 73,aa 75 74,aX false 78 75 [aa 76 14,bE 77 .eql 76] 77,aa 79 78,aX false 81 79 [aa 80 16] 80,aa 82 81,aX false 86 82 [aM 83 15 9,aM 84 13 9,cU 85 Qf 83 84] 85,aa 87 86,aX false 89 87 [xO 88 GR] 88,aa 6 89]))))))))) [.t 6] false none
def LC:C :=mT [aa 26 3,af 27 1 6,aj 28 27,cu 29 28,bA 30 .lss 26 29] 30 .skip (aQ (.keep []) (.exit 0)) (aQ (.bV 1 (ah [af 33 1 6,aj 34 33,aa 35 3,dc 36 34 35 2,af 37 36 1,aj 38 37,cu 39 38,bp 40 .gtr 39 120] (dg 40 (ah [gy 2] (aQ (.keep [2]) .ret))))) (.cr [aa 31 3,bp 32 .add 31 1,aa 3 32]))
def LD:F:=.mk (ah [bz 1 0 9,bQ 2] (bU [af 4 1 3,aj 5 4,cu 6 5,bp 7 .gtr 6 40,aa 8 7,aX true 13 8 [af 9 1 4,aj 10 9,cu 11 10,bp 12 .gtr 11 40] 12,aa 14 13,aX true 19 14 [af 15 1 5,aj 16 15,cu 17 16,bp 18 .gtr 17 120] 18,aa 20 19,aX true 25 20 [af 21 1 6,aj 22 21,cu 23 22,bp 24 .gtr 23 40] 24] 25 (av [gy 2]) (aQ (ah [bu 3] (.bV 0 (.loop [1,3] LC))) (av [bQ 2])))) [.t 2] false none
def Rl:F:=.mk (ah [bQ 0] (ah [I.build 7 zQ [(0,1,cS 1),(1,1,cS 64),(2,1,cS 5)],I.build 8 zQ [(0,1,cS 2),(1,1,cS 65)],cg 1 zQ,cg 2 zQ,dU 1 7 5,dU 2 8 5] (ah [I.build 9 jP [(0,1,cS 1),(1,1,cS 64),(3,1,fO)],I.build 10 jP [(0,1,cS 2),(1,1,cS 65),(2,1,cS 5),(3,1,fO)],cg 3 jP,cg 4 jP,dU 3 9 5,dU 4 10 5] (ah [xO 12 Az,dP 13 KC 12,aa 11 13,bW 14 11 0,bW 15 11 1,cg 5 zR,dU 5 14 9,aa 6 15] (eo [0,1,2,3,4,5,6,7,8,9,10,11,12,13,14,15,16,17,18,19,20,21,22,23,24,25,26,27,28,29,30,31,32,33,34,35,36,37,38,39,40,41,42,43,44,45] [aa 16 6,bE 17 .eql 16,aa 18 17,aX false 23 18 [xO 19 Az,gD 20 5 9,gD 21 1 5,mB 22 KB 19 20 21] 22,aa 24 23,aX false 30 24 [xO 25 Az,gD 26 5 9,gD 27 2 5,mB 28 KB 25 26 27,dx 29 28] 29,aa 31 30,aX false 40 31 [xO 32 Az,gD 33 1 5,gD 34 2 5,I.lf 35 5 2 zQ [(0,.t 33),(1,.t 34)] true,gD 36 3 5,gD 37 4 5,I.lf 38 5 2 jP [(0,.t 36),(1,.t 37)] true,mB 39 Ee 32 35 38] 39,aa 41 40,aX false 49 41 [xO 42 Az,gD 43 1 5,iA 44 5 1 zQ 43,gD 45 3 5,iA 46 5 1 jP 45,mB 47 Ee 42 44 46,dx 48 47] 48,aa 50 49,aX false 60 50 [xO 51 Az,gD 52 2 5,gD 53 1 5,I.lf 54 5 2 zQ [(0,.t 52),(1,.t 53)] true,gD 55 4 5,gD 56 3 5,I.lf 57 5 2 jP [(0,.t 55),(1,.t 56)] true,mB 58 Ee 51 54 57,dx 59 58] 59,aa 0 60] .ret))))) [.t 0] false none
def dm:F:=.mk (ah [bz 3 0 4,bz 4 1 9,bz 5 2 5,cg 6 zR,bu 7,bQ 8,bu 9] (ah [I.mv 10 (.k (.fn Qk [] []))] (ah [af 19 3 1,aj 20 19,dP 21 qt 20,aa 18 21,bW 22 18 0,bW 23 18 1,aa 11 22,aa 12 23] (bU [aa 24 12,dx 25 24,aa 26 25,aX true 31 26 [af 27 4 4,aj 28 27,cu 29 28,bE 30 .gtr 29] 30,aa 32 31,aX true 38 32 [aa 33 11,aM 34 3 4,aM 35 4 9,I.inv (some 36) "nursery/spec.abstract" [(101,2,vK),(102,2,vK),(103,2,vK),(104,2,Rh),(105,2,Ri),(106,2,Rj),(107,2,vK),(108,2,vK)] (.t 33) [.t 34,.t 35],dx 37 36] 37] 38 (av [aa 39 10,LB 40 39 1,bW 41 40 0,bW 42 40 1,bW 43 40 2,bW 44 40 3,aP 6 41 9,aa 7 42,aa 8 43,aa 9 44]) (bU [af 45 5 0,aj 46 45,bE 47 .lss 46,aa 48 47,aX true 52 48 [af 49 5 0,aj 50 49,bp 51 .geq 50 16] 51,aa 53 52,aX true 57 53 [af 54 5 3,aj 55 54,bE 56 .lss 55] 56,aa 58 57,aX true 62 58 [af 59 5 3,aj 60 59,bp 61 .gtr 60 9] 61,aa 63 62,aX true 67 63 [af 64 5 4,aj 65 64,bE 66 .lss 65] 66,aa 68 67,aX true 72 68 [af 69 5 4,aj 70 69,bp 71 .gtr 70 1099511627776] 71] 72 (av [aa 73 10,LB 74 73 2,bW 75 74 0,bW 76 74 1,bW 77 74 2,bW 78 74 3,aP 6 75 9,aa 7 76,aa 8 77,aa 9 78]) (eo [0,1,3,4,2,5,6,7,8,9,10] [fy 80 3 1,eY 81 80,fy 83 5 1,eY 84 83,lC 82 xI 81,I.pG 85 (.t 82) (.t 84) (.i .i64 0) true [.i],aa 79 85,bW 86 79 0,bW 87 79 1,aa 13 86,aa 12 87] (bU [aa 88 12,dx 89 88] 89 (av [aa 90 10,LB 91 90 8,bW 92 91 0,bW 93 91 1,bW 94 91 2,bW 95 91 3,aP 6 92 9,aa 7 93,aa 8 94,aa 9 95]) (bU [aa 96 13,bp 97 .eql 96 1,aa 98 97,aX false 109 98 [af 99 5 2,aj 100 99,bp 101 .lss 100 1,aa 102 101,aX true 108 102 [af 103 5 2,aj 104 103,af 105 3 2,aj 106 105,bA 107 .gtr 104 106] 107] 108,aa 110 109,aX true 123 110 [aa 111 13,bp 112 .eql 111 2,aa 113 112,aX false 122 113 [af 114 5 2,aj 115 114,I.bin 116 .lss (.t 115) (.k (.i .i64 (-1099511627776))),aa 117 116,aX true 121 117 [af 118 5 2,aj 119 118,bp 120 .gtr 119 1099511627776] 120] 121] 122] 123 (av [aa 124 10,LB 125 124 2,bW 126 125 0,bW 127 125 1,bW 128 125 2,bW 129 125 3,aP 6 126 9,aa 7 127,aa 8 128,aa 9 129]) (ah [aa 131 11,aM 132 3 4,aM 133 4 9,aM 134 5 5,I.inv (some 135) "nursery/spec.effect" [(101,2,Ls),(102,2,Lt),(103,2,Lu),(104,2,Lv),(105,2,Lw),(106,2,Ct),(107,2,Lz),(108,2,LA)] (.t 131) [.t 132,.t 133,.t 134],aa 130 135,bW 136 130 0,bW 137 130 1,bW 138 130 2,bW 139 130 3,cg 14 zR,dU 14 136 9,aa 15 137,aa 16 138,aa 17 139] (bU [aa 140 17,bE 141 .neq 140] 141 (av [aa 142 10,aa 143 17,vL 144 142 143,bW 145 144 0,bW 146 144 1,bW 147 144 2,bW 148 144 3,aP 6 145 9,aa 7 146,aa 8 147,aa 9 148]) (av [aM 149 14 9,aa 150 15,aa 151 16,aP 6 149 9,aa 7 150,aa 8 151,bu 9]))))))))))) [.c 6 9 true,.t 7,.t 8,.t 9] false none
def LF:F:=.mk (ah [bz 2 0 9,bz 3 1 9,bQ 4] (bU [af 5 2 0,aj 6 5,af 7 3 0,aj 8 7,bA 9 .neq 6 8,aa 10 9,aX true 16 10 [af 11 2 1,aj 12 11,af 13 3 1,aj 14 13,bA 15 .neq 12 14] 15,aa 17 16,aX true 23 17 [af 18 2 2,aj 19 18,af 20 3 2,aj 21 20,bA 22 .neq 19 21] 22,aa 24 23,aX true 30 24 [af 25 2 7,aj 26 25,af 27 3 7,aj 28 27,I.rZ 29 true (.t 26) (.t 28)] 29,aa 31 30,aX true 37 31 [af 32 2 8,aj 33 32,af 34 3 8,aj 35 34,bA 36 .neq 33 35] 36] 37 (av [bQ 4]) (av [af 38 2 3,aj 39 38,af 40 3 3,aj 41 40,cU 42 GU 39 41,aa 43 42,aX false 49 43 [af 44 2 5,aj 45 44,af 46 3 5,aj 47 46,cU 48 GU 45 47] 48,aa 50 49,aX false 56 50 [af 51 2 4,aj 52 51,af 53 3 4,aj 54 53,cU 55 Ql 52 54] 55,aa 57 56,aX false 63 57 [af 58 2 6,aj 59 58,af 60 3 6,aj 61 60,cU 62 Qm 59 61] 62,aa 4 63]))) [.t 4] false none
def Rn:F:=.mk (ah [bz 3 0 4,bz 4 1 9,bz 5 2 5,bQ 6] (ah [aM 12 3 4,aM 13 4 9,aM 14 5 5,mB 15 sZ 12 13 14,aa 11 15,bW 16 11 0,bW 17 11 1,bW 18 11 2,bW 19 11 3,cg 7 zR,dU 7 16 9,aa 8 17,aa 9 18,aa 10 19] (av [aa 20 10,bE 21 .eql 20,aa 6 21]))) [.t 6] false none
def sx:C :=ah [bA 41 .lss 40 39] (aQ (cT 41 .skip (aQ (.keep [3,7]) (.exit 0))) (aQ (.bV 1 (ah [aa 42 40,dc 43 38 40 5,aM 44 43 5,cg 10 zQ,aa 9 42,dU 10 44 5] (ah [aM 46 3 4,aM 47 7 9,aM 48 10 5,mB 49 sZ 46 47 48,aa 45 49,bW 50 45 0,bW 51 45 1,bW 52 45 2,bW 53 45 3,cg 11 zR,dU 11 50 9,aa 12 51,aa 13 52,aa 14 53] (aQ (eo [0,1,2,3,4,5,6,7,8,9,10,11,12,13,14,15,16,17,18,19,20,21] [aa 54 14,bE 55 .neq 54,aa 56 55,aX true 65 56 [fy 57 10 0,eY 58 57,aa 59 2,aa 60 9,dc 61 59 60 5,af 62 61 0,aj 63 62,bA 64 .neq 58 63] 64,aa 66 65,aX true 75 66 [fy 67 10 1,eY 68 67,aa 69 2,aa 70 9,dc 71 69 70 5,af 72 71 1,aj 73 72,bA 74 .neq 68 73] 74] (dg 75 (ah [bQ 6] (aQ (.keep [6]) .ret)))) (aQ (eo [0,1,2,3,4,5,6,7,8,9,10,11,12] [aa 76 2,aa 77 9,dc 78 76 77 5,af 79 78 2,aj 80 79,aa 81 2,aa 82 9,dc 83 81 82 5,af 84 83 3,aj 85 84,cU 86 GV 80 85,cg 15 [.i .i64 0,.i .i64 0],.re (.ji 78 (.t 76) (.t 77) 5),.re (.fa 79 (.t 78) 2 1),.re (.ld 80 (.t 79) 1 false),.re (.ji 83 (.t 81) (.t 82) 5),.re (.fa 84 (.t 83) 3 1),.re (.ld 85 (.t 84) 1 false),aP 15 86 2] (.oC [15])) (eo [0,1,2,3,4,5,6,7,8,9,10,11,12,13] [fy 87 10 1,eY 88 87,bp 89 .eql 88 61,aa 90 89,aX false 94 90 [fy 91 3 3,eY 92 91,bE 93 .eql 92] 93,aa 95 94,aX false 99 95 [gD 96 15 2,I.call (some 97) GV [k0,Hg],I.eqv 98 false (.t 96) (.t 97) [.i,.i]] 98,aa 16 99] (.bV 2 (eo [0,1,2,3,4,5] [gD 101 15 2,aa 102 12,aa 103 13,cU 104 GV 102 103,I.eqv 105 false (.t 101) (.t 104) [.i,.i],aa 100 105] (cT 100 (.cr [aM 106 11 9,aP 7 106 9]) (ah [aa 108 16,dx 109 108,aa 107 109] (dg 107 (ah [bQ 6] (aQ (.keep [6]) .ret))))))))))))) (.cr [bp 110 .add 40 1,aa 40 110])))
def Cv:F:=.mk (ah [bz 3 0 4,bQ 6] (ah [aM 20 3 4,dP 21 KC 20,aa 19 21,bW 22 19 0,bW 23 19 1,cg 7 zR,aP 7 22 9,aa 8 23] (bU [aa 24 8,bE 25 .neq 24,aa 26 25,aX true 32 26 [aa 27 1,cu 28 27,aa 29 2,cu 30 29,bA 31 .neq 28 30] 31,aa 33 32,aX true 37 33 [aa 34 1,cu 35 34,bp 36 .gtr 35 1000] 36] 37 (av [bQ 6]) (aQ (ah [aa 38 1,cu 39 38,bu 40] (.bV 0 (.loop [2,3,7,38,39,40] sx))) (ah [af 112 3 1,aj 113 112,dP 114 qt 113,aa 111 114,bW 115 111 0,bW 116 111 1,aa 17 115,aa 18 116] (av [aa 117 17,aM 118 3 4,aM 119 7 9,I.inv (some 120) "nursery/spec.check" [(101,2,oG),(102,2,oG),(103,2,oG),(104,2,oG),(105,2,oG),(106,2,oG),(107,2,oG),(108,2,oG)] (.t 117) [.t 118,.t 119],bE 121 .eql 120,aa 6 121])))))) [.t 6] false none
def vM:F:=.mk (ah [bz 1 0 4,cg 2 zR,bu 3] (ah [af 7 1 1,aj 8 7,dP 9 qt 8,aa 6 9,bW 10 6 0,bW 11 6 1,aa 4 10,aa 5 11] (bU [aa 12 5,dx 13 12] 13 (av [dK 14 zR,aP 2 14 9,cE 3 8]) (av [aa 15 4,aM 16 1 4,I.inv (some 17) "nursery/spec.start" [(101,2,xN),(102,2,xN),(103,2,xN),(104,2,xN),(105,2,xN),(106,2,xN),(107,2,xN),(108,2,xN)] (.t 15) [.t 16],bW 18 17 0,bW 19 17 1,aP 2 18 9,aa 3 19])))) [.c 2 9 true,.t 3] false none
def Hh:F:=.mk (ah [bz 2 0 4,iz 3 1 9,cg 4 zR,bu 5] (ah [af 10 2 1,aj 11 10,dP 12 qt 11,aa 9 12,bW 13 9 0,bW 14 9 1,aa 6 13,aa 7 14] (bU [aa 15 7,dx 16 15] 16 (av [dK 17 zR,aP 4 17 9,cE 5 8]) (aQ (ah [aa 18 6,aM 19 2 4,aM 20 3 9,I.inv (some 21) "nursery/spec.check" [(101,2,oG),(102,2,oG),(103,2,oG),(104,2,oG),(105,2,oG),(106,2,oG),(107,2,oG),(108,2,oG)] (.t 18) [.t 19,.t 20],aa 8 21] (ah [aa 22 8,bE 23 .neq 22] (dg 23 (av [dK 24 zR,aa 25 8,aP 4 24 9,aa 5 25])))) (ah [af 26 3 4,I.st (.t 26) (.k (.sl 5 true [])) 1 false] (av [aM 27 3 9,aP 4 27 9,bu 5])))))) [.c 4 9 true,.t 5] false none
def LG:F:=.mk (ah [cg 2 [.cN,.cN,.cN,.cN,.cN],bQ 3] (aQ (ah [aa 4 0] (.bV 0 (ah [bp 6 .eql 4 1,aa 5 6] (cT 5 (av [I.build 7 [.cN,.cN,.cN,.cN,.cN] [(0,1,.k (.fn sq [] [])),(1,1,.k (.fn pM [] [])),(2,1,.k (.fn AA [] [])),(3,1,.k (.fn Xe [] [])),(4,1,.k (.fn Xf [] []))],aP 2 7 5,gy 3]) (ah [bp 9 .eql 4 2,aa 8 9] (cT 8 (av [I.build 10 [.cN,.cN,.cN,.cN,.cN] [(0,1,.k (.fn su [] [])),(1,1,.k (.fn lz [] [])),(2,1,.k (.fn pN [] [])),(3,1,.k (.fn Xg [] [])),(4,1,.k (.fn Xh [] []))],aP 2 10 5,gy 3]) (ah [bp 12 .eql 4 4,aa 11 12] (cT 11 (av [I.build 13 [.cN,.cN,.cN,.cN,.cN] [(0,1,.k (.fn s9 [] [])),(1,1,.k (.fn qu [] [])),(2,1,.k (.fn AB [] [])),(3,1,.k (.fn Xi [] [])),(4,1,.k (.fn Xj [] []))],aP 2 13 5,gy 3]) (ah [bp 15 .eql 4 5,aa 14 15] (cT 14 (av [I.build 16 [.cN,.cN,.cN,.cN,.cN] [(0,1,.k (.fn tc [] [])),(1,1,.k (.fn oF [] [])),(2,1,.k (.fn Ci [] [])),(3,1,.k (.fn Xk [] [])),(4,1,.k (.fn Xl [] []))],aP 2 16 5,gy 3]) (ah [bp 18 .eql 4 6,aa 17 18] (cT 17 (av [I.build 19 [.cN,.cN,.cN,.cN,.cN] [(0,1,.k (.fn tg [] [])),(1,1,.k (.fn gp [] [])),(2,1,.k (.fn iP [] [])),(3,1,.k (.fn Xm [] [])),(4,1,.k (.fn Xn [] []))],aP 2 19 5,gy 3]) (ah [bp 21 .eql 4 7,aa 20 21] (cT 20 (av [I.build 22 [.cN,.cN,.cN,.cN,.cN] [(0,1,.k (.fn th [] [])),(1,1,.k (.fn rq [] [])),(2,1,.k (.fn vJ [] [])),(3,1,.k (.fn Xo [] [])),(4,1,.k (.fn Xp [] []))],aP 2 22 5,gy 3]) (ah [bp 24 .eql 4 8,aa 23 24] (cT 23 (av [I.build 25 [.cN,.cN,.cN,.cN,.cN] [(0,1,.k (.fn tj [] [])),(1,1,.k (.fn nT [] [])),(2,1,.k (.fn Cj [] [])),(3,1,.k (.fn Xq [] [])),(4,1,.k (.fn Xr [] []))],aP 2 25 5,gy 3]) (ah [bp 27 .eql 4 9,aa 26 27] (dg 26 (av [I.build 28 [.cN,.cN,.cN,.cN,.cN] [(0,1,.k (.fn tr [] [])),(1,1,.k (.fn pP [] [])),(2,1,.k (.fn Ck [] [])),(3,1,.k (.fn Xs [] [])),(4,1,.k (.fn Xt [] []))],aP 2 28 5,gy 3]))))))))))))))))))) (av [dK 29 [.cN,.cN,.cN,.cN,.cN],aP 2 29 5,bQ 3]))) [.c 2 5 true,.t 3] false none
def Cw:C :=ah [bA 17 .lss 16 15] (aQ (cT 17 .skip (aQ (.keep [4,6]) (.exit 0))) (aQ (.bV 1 (ah [dc 18 14 16 10,aM 19 18 10,cg 9 [.i .i64 0,.i .i64 0,.i .i64 0,.i .i64 0,.i .i64 0,.i .i64 0,.i .i64 0,.i .i64 0,.b false,.i .i64 0],dU 9 19 10] (ah [aM 21 3 4,aM 22 4 9,I.fa 23 (.t 9) 0 5,aM 24 23 5,mB 25 sZ 21 22 24,aa 20 25,bW 26 20 0,bW 27 20 1,bW 28 20 2,bW 29 20 3,cg 10 zR,dU 10 26 9,aa 11 27,aa 12 28,aa 13 29] (bU [aa 30 13,bE 31 .neq 30] 31 (ah [aM 32 4 9,aP 6 32 9,bQ 7] (aQ (.keep [6,7]) .ret)) (bU [I.fa 33 (.t 9) 0 5,af 34 33 1,aj 35 34,bp 36 .eql 35 61,aa 37 36,aX false 41 37 [af 38 3 3,aj 39 38,bE 40 .eql 39] 40,aa 42 41,aX false 47 42 [I.fa 43 (.t 9) 5 5,af 44 43 3,aj 45 44,dx 46 45] 46,aa 48 47,aX false 53 48 [I.fa 49 (.t 9) 5 5,af 50 49 2,aj 51 50,bE 52 .eql 51] 52] 53 (aQ (.keep [3,4,6,14,15,16]) (.exit 1)) (bU [aa 54 11,I.fa 55 (.t 9) 5 5,af 56 55 2,aj 57 56,bA 58 .neq 54 57,aa 59 58,aX true 65 59 [aa 60 12,I.fa 61 (.t 9) 5 5,af 62 61 3,aj 63 62,I.rZ 64 true (.t 60) (.t 63)] 64] 65 (ah [aM 66 4 9,aP 6 66 9,bQ 7] (aQ (.keep [6,7]) .ret)) (.cr [aM 67 10 9,aP 4 67 9]))))))) (.cr [bp 68 .add 16 1,aa 16 68])))
def LH:F:=.mk (ah [bz 3 0 4,iz 4 1 9,cg 6 zR,bQ 7] (aQ (ah [aa 14 2,cu 15 14,bu 16] (.bV 0 (.loop [3,4,6,14,15,16] Cw))) (av [aM 69 4 9,aP 6 69 9,gy 7]))) [.c 6 9 true,.t 7] false none
def LI:C :=ah [bA 29 .lss 28 27] (aQ (cT 29 .skip (aQ (.keep [2,3,7,9,10,13,14,15]) (.exit 2))) (aQ (.bV 3 (ah [dc 30 26 28 5,aM 31 30 5,cg 12 zQ,dU 12 31 5] (ah [af 32 12 0,aj 33 32,af 34 9 0,aj 35 34,bA 36 .eql 33 35,aa 37 36,aX false 43 37 [af 38 12 1,aj 39 38,af 40 9 1,aj 41 40,bA 42 .eql 39 41] 42,aa 44 43,aX false 50 44 [af 45 12 4,aj 46 45,af 47 9 4,aj 48 47,bA 49 .eql 46 48] 49] (dg 50 (.lX [] [0,1,2,3,4,5,6,7] [fy 51 12 2,eY 52 51,fy 53 12 3,eY 54 53,af 55 10 2,aP 55 52 1,af 56 10 3,aP 56 54 1]))))) (.cr [bp 57 .add 28 1,aa 28 57])))
def Hi:C :=ah [bA 16 .lss 15 14] (aQ (cT 16 .skip (aQ (.keep [7]) (.exit 0))) (aQ (.bV 1 (ah [dc 17 13 15 5,aM 18 17 5,cg 9 jP,dU 9 18 5] (ah [af 19 9 0,aj 20 19,af 21 9 1,aj 22 21,aa 23 2,I.build 24 zQ [(0,1,.t 20),(1,1,.t 22),(4,1,.t 23)],cg 10 zQ,aP 10 24 5] (aQ (ah [af 25 3 4,aj 26 25,cu 27 26,bu 28] (.bV 2 (.loop [2,3,7,9,10,13,14,15,26,27,28] LI))) (.cr [aa 58 7,aM 59 10 5,aM 60 9 5,I.build 61 [.i .i64 0,.i .i64 0,.i .i64 0,.i .i64 0,.i .i64 0,.i .i64 0,.i .i64 0,.i .i64 0,.b false,.i .i64 0] [(0,5,.t 59),(5,5,.t 60)],iA 62 10 1 [.i .i64 0,.i .i64 0,.i .i64 0,.i .i64 0,.i .i64 0,.i .i64 0,.i .i64 0,.i .i64 0,.b false,.i .i64 0] 61,iE 63 58 62 10,aa 7 63]))))) (.cr [bp 64 .add 15 1,aa 15 64])))
def LJ:F:=.mk (ah [bz 3 0 9,I.mv 6 (.k (.sl 10 true []))] (ah [I.mv 7 (.k (.sl 10 true []))] (aQ (ah [aa 13 1,cu 14 13,bu 15] (.bV 0 (.loop [2,3,7,13,14,15] Hi))) (av [aa 65 7,aa 6 65])))) [.t 6] false none
def Ro:F:=.mk (ah [bz 1 0 5,bQ 2] (av [af 3 1 0,aj 4 3,bE 5 .geq 4,aa 6 5,aX false 10 6 [af 7 1 0,aj 8 7,bp 9 .lss 8 16] 9,aa 11 10,aX false 15 11 [af 12 1 3,aj 13 12,bE 14 .geq 13] 14,aa 16 15,aX false 20 16 [af 17 1 3,aj 18 17,bp 19 .leq 18 9] 19,aa 21 20,aX false 25 21 [af 22 1 4,aj 23 22,bE 24 .geq 23] 24,aa 26 25,aX false 30 26 [af 27 1 4,aj 28 27,bp 29 .leq 28 1099511627776] 29,aa 2 30])) [.t 2] false none
def LL:F:=.mk (ah [iz 1 0 5,cg 2 zQ] (bU [af 3 1 1,aj 4 3,bp 5 .eql 4 75] 5 (.cr [af 6 1 2,I.st (.t 6) (cS 1) 1 false]) (av [aM 7 1 5,aP 2 7 5]))) [.c 2 5 true] false none
def vN:F:=.mk (ah [bz 4 0 4,bz 5 1 9,bz 6 2 5,bz 7 3 13,I.mv 8 (.k (.sl 10 true []))] (ah [aM 15 5 9,af 16 7 12,aj 17 16,af 18 6 4,aj 19 18,mB 20 Qh 15 17 19,aa 9 20] (ah [aM 21 6 5,af 22 6 0,aj 23 22,af 24 6 1,aj 25 24,af 26 7 10,aj 27 26,af 28 7 11,aj 29 28,I.build 30 jP [(0,1,.t 23),(1,1,.t 25),(2,1,.t 27),(3,1,.t 29),(4,1,.k (.i .i64 (-1)))],I.build 31 [.i .i64 0,.i .i64 0,.i .i64 0,.i .i64 0,.i .i64 0,.i .i64 0,.i .i64 0,.i .i64 0,.b false,.i .i64 0] [(0,5,.t 21),(5,5,.t 30)],iA 32 10 1 [.i .i64 0,.i .i64 0,.i .i64 0,.i .i64 0,.i .i64 0,.i .i64 0,.i .i64 0,.i .i64 0,.b false,.i .i64 0] 31,aa 10 32] (bU [af 33 7 9,aj 34 33] 34 (.cr [I.mv 10 (.k (.sl 10 true []))]) (ah [af 35 6 1,aj 36 35,bp 37 .eql 36 63,aa 38 37,aX true 48 38 [af 39 6 1,aj 40 39,bp 41 .eql 40 65,aa 42 41,aX false 47 42 [af 43 5 5,aj 44 43,cu 45 44,bE 46 .eql 45] 46] 47,aa 11 48] (bU [af 49 6 1,aj 50 49,bp 51 .eql 50 70] 51 (ah [af 52 5 6,aj 53 52,I.gY 54 GW [] [.t 6],cU 55 Ef 53 54,aa 12 55] (.cr [aa 56 12,bE 57 .lss 56,aa 58 57,aX true 67 58 [af 59 5 6,aj 60 59,aa 61 12,dc 62 60 61 2,af 63 62 1,aj 64 63,cu 65 64,bE 66 .eql 65] 66,aa 11 67])) (bU [af 68 4 1,aj 69 68,bp 70 .eql 69 8] 70 (ah [aM 71 6 5,cg 13 zQ,aP 13 71 5] (ah [af 72 13 1,I.st (.t 72) (cS 75) 1 false] (ah [aM 73 13 5,af 74 6 0,aj 75 74,I.build 76 jP [(0,1,.t 75),(1,1,cS 75),(3,1,fO),(4,1,.k (.i .i64 (-1)))],I.build 77 [.i .i64 0,.i .i64 0,.i .i64 0,.i .i64 0,.i .i64 0,.i .i64 0,.i .i64 0,.i .i64 0,.b false,.i .i64 0] [(0,5,.t 73),(5,5,.t 76)],iA 78 10 1 [.i .i64 0,.i .i64 0,.i .i64 0,.i .i64 0,.i .i64 0,.i .i64 0,.i .i64 0,.i .i64 0,.b false,.i .i64 0] 77,aa 14 78] (bU [af 79 6 1,aj 80 79,bp 81 .eql 80 75] 81 (.cr [I.mv 10 (.k (.sl 10 true []))]) (av [aa 82 14,aa 83 9,aa 84 10,I.lf 85 1 3 [.sl 10 true []] [(0,.t 82),(1,.t 83),(2,.t 84)] true,dP 86 Cm 85,aa 8 86]))))) (bU [aa 87 11] 87 (av [aa 88 9,aa 89 10,I.lf 90 1 2 [.sl 10 true []] [(0,.t 88),(1,.t 89)] true,dP 91 Cm 90,aa 8 91]) (av [aa 92 10,aa 93 9,I.lf 94 1 2 [.sl 10 true []] [(0,.t 92),(1,.t 93)] true,dP 95 Cm 94,aa 8 95]))))))))) [.t 8] false none
def Rq:F:=.mk (ah [cg 0 [.s [],.i .i64 0,.i .i64 0,.i .i64 0]] (av [I.build 1 [.s [],.i .i64 0,.i .i64 0,.i .i64 0] [(1,1,cS 6)],aP 0 1 4])) [.c 0 4 true] false none
def Rr:F:=.mk (ah [cg 2 zR,bu 3,bQ 4,bu 5] (av [dK 6 zR,aa 7 0,aP 2 6 9,bu 3,bQ 4,aa 5 7])) [.c 2 9 true,.t 3,.t 4,.t 5] false none
def vO:F:=.mk (ah [I.mv 2 (.k .B3),bQ 3] (aQ (ah [aa 4 0] (.bV 0 (ah [bp 6 .eql 4 1,aa 5 6] (cT 5 (av [I.build 7 [.cN,.cN] [(0,1,.k (.fn sq [] [])),(1,1,.k (.fn pM [] []))],I.build 8 [.cN,.cN] [(0,2,.t 7)],I.nr 9 101 (.t 8),aa 2 9,gy 3]) (ah [bp 11 .eql 4 2,aa 10 11] (cT 10 (av [I.build 12 [.cN,.cN] [(0,1,.k (.fn su [] [])),(1,1,.k (.fn lz [] []))],I.build 13 [.cN,.cN] [(0,2,.t 12)],I.nr 14 102 (.t 13),aa 2 14,gy 3]) (ah [bp 16 .eql 4 4,aa 15 16] (cT 15 (av [I.build 17 [.cN,.cN] [(0,1,.k (.fn s9 [] [])),(1,1,.k (.fn qu [] []))],I.build 18 [.cN,.cN] [(0,2,.t 17)],I.nr 19 103 (.t 18),aa 2 19,gy 3]) (ah [bp 21 .eql 4 5,aa 20 21] (cT 20 (av [I.build 22 [.cN,.cN] [(0,1,.k (.fn tc [] [])),(1,1,.k (.fn oF [] []))],I.build 23 [.cN,.cN] [(0,2,.t 22)],I.nr 24 104 (.t 23),aa 2 24,gy 3]) (ah [bp 26 .eql 4 6,aa 25 26] (cT 25 (av [I.build 27 [.cN,.cN] [(0,1,.k (.fn tg [] [])),(1,1,.k (.fn gp [] []))],I.build 28 [.cN,.cN] [(0,2,.t 27)],I.nr 29 105 (.t 28),aa 2 29,gy 3]) (ah [bp 31 .eql 4 7,aa 30 31] (cT 30 (av [I.build 32 [.cN,.cN] [(0,1,.k (.fn th [] [])),(1,1,.k (.fn rq [] []))],I.build 33 [.cN,.cN] [(0,2,.t 32)],I.nr 34 106 (.t 33),aa 2 34,gy 3]) (ah [bp 36 .eql 4 8,aa 35 36] (cT 35 (av [I.build 37 [.cN,.cN] [(0,1,.k (.fn tj [] [])),(1,1,.k (.fn nT [] []))],I.build 38 [.cN,.cN] [(0,2,.t 37)],I.nr 39 107 (.t 38),aa 2 39,gy 3]) (ah [bp 41 .eql 4 9,aa 40 41] (dg 40 (av [I.build 42 [.cN,.cN] [(0,1,.k (.fn tr [] [])),(1,1,.k (.fn pP [] []))],I.build 43 [.cN,.cN] [(0,2,.t 42)],I.nr 44 108 (.t 43),aa 2 44,gy 3]))))))))))))))))))) (av [I.mv 2 (.k .B3),bQ 3]))) [.t 2,.t 3] false none
def xP:F:=.mk (ah [I.mv 2 (.k .uu)] (av [.op (.mw 3),.op (.mw 4),.op (.fA (.t 4) (cS 50) k0 [.i]),.op (.fA (.t 4) (cS 51) k0 [.i]),.op (.fA (.t 4) (cS 52) k0 [.i]),.op (.mv 5 (.t 4)),.op (.fA (.t 3) (cS 1) (.t 5) [.i]),.op (.mw 6),.op (.fA (.t 6) (cS 53) k0 [.i]),.op (.fA (.t 6) (cS 54) k0 [.i]),.op (.fA (.t 6) (cS 55) k0 [.i]),.op (.fA (.t 6) (cS 56) k0 [.i]),.op (.mv 7 (.t 6)),.op (.fA (.t 3) (cS 2) (.t 7) [.i]),.op (.mw 8),.op (.fA (.t 8) (cS 60) (cS 1) [.i]),.op (.fA (.t 8) (cS 61) (cS 1) [.i]),.op (.fA (.t 8) (cS 62) (cS 1) [.i]),.op (.mv 9 (.t 8)),.op (.fA (.t 3) (cS 4) (.t 9) [.i]),.op (.mw 10),.op (.fA (.t 10) (cS 63) k0 [.i]),.op (.mv 11 (.t 10)),.op (.fA (.t 3) (cS 5) (.t 11) [.i]),.op (.mw 12),.op (.fA (.t 12) (cS 64) (cS 2) [.i]),.op (.fA (.t 12) (cS 65) k0 [.i]),.op (.fA (.t 12) (cS 66) k0 [.i]),.op (.mv 13 (.t 12)),.op (.fA (.t 3) (cS 6) (.t 13) [.i]),.op (.mw 14),.op (.fA (.t 14) (cS 68) (cS 2) [.i]),.op (.fA (.t 14) (cS 69) k0 [.i]),.op (.fA (.t 14) (cS 70) k0 [.i]),.op (.fA (.t 14) (cS 71) k0 [.i]),.op (.mv 15 (.t 14)),.op (.fA (.t 3) (cS 7) (.t 15) [.i]),.op (.mw 16),.op (.fA (.t 16) (cS 72) (cS 1) [.i]),.op (.fA (.t 16) (cS 75) k0 [.i]),.op (.mv 17 (.t 16)),.op (.fA (.t 3) (cS 8) (.t 17) [.i]),.op (.mw 18),.op (.fA (.t 18) (cS 73) (cS 2) [.i]),.op (.fA (.t 18) (cS 74) k0 [.i]),.op (.mv 19 (.t 18)),.op (.fA (.t 3) (cS 9) (.t 19) [.i]),.op (.mv 20 (.t 3)),.op (.mv 21 (.t 0)),.op (.pG 22 (.t 20) (.t 21) .uu false [.i]),.op (.mv 2 (.t 22))])) [.t 2] true none
def LM:C :=mT [aa 11 5,aa 12 0,cu 13 12,bA 14 .lss 11 13] 14 .skip (aQ (.keep []) (.exit 0)) (aQ (.bV 1 (eo [0,1,2,3,4,5,6,7,8] [aa 17 0,aa 18 5,dc 19 17 18 1,aj 20 19,aa 21 1,aa 22 5,dc 23 21 22 1,aj 24 23,bA 25 .neq 20 24] (dg 25 (ah [bQ 4] (aQ (.keep [4]) .ret))))) (.cr [aa 15 5,bp 16 .add 15 1,aa 5 16]))
def LN:F:=.mk (ah [bQ 4] (bU [aa 6 0,cu 7 6,aa 8 1,cu 9 8,bA 10 .neq 7 9] 10 (av [bQ 4]) (aQ (ah [bu 5] (.bV 0 (.loop [0,1,5] LM))) (av [gy 4])))) [.t 4] false none
def LO:C :=mT [aa 11 5,aa 12 0,cu 13 12,bA 14 .lss 11 13] 14 .skip (aQ (.keep []) (.exit 0)) (aQ (.bV 1 (eo [0,1,2,3,4,5,6,7,8] [aa 17 0,aa 18 5,dc 19 17 18 5,aM 20 19 5,aa 21 1,aa 22 5,dc 23 21 22 5,aM 24 23 5,I.eqv 25 true (.t 20) (.t 24) [.i,.i,.i,.i,.i]] (dg 25 (ah [bQ 4] (aQ (.keep [4]) .ret))))) (.cr [aa 15 5,bp 16 .add 15 1,aa 5 16]))
def LP:F:=.mk (ah [bQ 4] (bU [aa 6 0,cu 7 6,aa 8 1,cu 9 8,bA 10 .neq 7 9] 10 (av [bQ 4]) (aQ (ah [bu 5] (.bV 0 (.loop [0,1,5] LO))) (av [gy 4])))) [.t 4] false none
def LQ:C :=mT [aa 11 5,aa 12 0,cu 13 12,bA 14 .lss 11 13] 14 .skip (aQ (.keep []) (.exit 0)) (aQ (.bV 1 (eo [0,1,2,3,4,5,6,7,8,9,10,11,12,13,14,15,16,17,18,19,20,21,22,23,24] [aa 17 0,aa 18 5,dc 19 17 18 2,af 20 19 0,aj 21 20,aa 22 1,aa 23 5,dc 24 22 23 2,af 25 24 0,aj 26 25,bA 27 .neq 21 26,aa 28 27,aX true 41 28 [aa 29 0,aa 30 5,dc 31 29 30 2,af 32 31 1,aj 33 32,aa 34 1,aa 35 5,dc 36 34 35 2,af 37 36 1,aj 38 37,cU 39 GU 33 38,dx 40 39] 40] (dg 41 (ah [bQ 4] (aQ (.keep [4]) .ret))))) (.cr [aa 15 5,bp 16 .add 15 1,aa 5 16]))
def LR:F:=.mk (ah [bQ 4] (bU [aa 6 0,cu 7 6,aa 8 1,cu 9 8,bA 10 .neq 7 9] 10 (av [bQ 4]) (aQ (ah [bu 5] (.bV 0 (.loop [0,1,5] LQ))) (av [gy 4])))) [.t 4] false none
def Rs:F:=.mk (ah [cg 4 [.i .i64 0,.i .i64 0]] (bU [aa 5 1] 5 (av [aa 6 0,I.build 7 [.i .i64 0,.i .i64 0] [(0,1,.t 6),(1,1,cS 1)],aP 4 7 2]) (av [aa 8 0,I.build 9 [.i .i64 0,.i .i64 0] [(0,1,.t 8),(1,1,k0)],aP 4 9 2]))) [.c 4 2 true] false none
def Hj:F:=.mk (ah [bQ 4] (av [aa 5 0,aa 6 1,cU 7 xJ 5 6,bE 8 .geq 7,aa 4 8])) [.t 4] false none
def Er:F:=.mk (ah [bz 1 0 4,cg 2 zR,bu 3] (aQ (.bV 0 (ah [af 5 1 1,aj 6 5,bp 7 .neq 6 1,aa 4 7] (cT 4 (av [dK 8 zR,aP 2 8 9,cE 3 8]) (ah [af 10 1 2,aj 11 10,bE 12 .neq 11,aa 13 12,aX true 17 13 [af 14 1 3,aj 15 14,bE 16 .neq 15] 16,aa 9 17] (dg 9 (av [dK 18 zR,aP 2 18 9,cE 3 2])))))) (av [I.build 19 zR [(0,1,.k (.i .i64 (-1)))],aP 2 19 9,bu 3]))) [.c 2 9 true,.t 3] false none
def Es:F:=.mk (ah [bz 2 0 4,bz 3 1 9,bu 4] (aQ (ah [aM 8 2 4,dP 9 sq 8,aa 7 9,bW 10 7 0,bW 11 7 1,cg 5 zR,dU 5 10 9,aa 6 11] (ah [aa 12 6,bE 13 .neq 12] (dg 13 (av [aa 14 6,aa 4 14])))) (bU [aM 15 3 9,dP 16 KG 15,dx 17 16] 17 (av [cE 4 1]) (av [bu 4])))) [.t 4] false none
def yY:F:=.mk (ah [bz 3 0 4,bz 4 1 9,bz 5 2 5,cg 6 cx,bu 7] (aQ (ah [aM 11 3 4,aM 12 4 9,cU 13 pM 11 12,aa 8 13] (ah [aa 14 8,bE 15 .neq 14] (dg 15 (av [dK 16 cx,aa 17 8,aP 6 16 13,aa 7 17])))) (eo [1,2,0,3,4,5,6,7,8] [fy 20 5 1,eY 21 20,I.mP (some 19) Qn [],I.pG 22 (.t 19) (.t 21) .cN true [.i],aa 18 22,bW 23 18 0,bW 24 18 1,aa 9 23,aa 10 24] (aQ (.bV 0 (ah [aa 26 10,dx 27 26,aa 25 27] (cT 25 (av [dK 28 cx,aP 6 28 13,cE 7 8]) (ah [af 30 5 0,aj 31 30,dP 32 GX 31,dx 33 32,aa 34 33,aX true 38 34 [af 35 5 3,aj 36 35,bE 37 .lss 36] 37,aa 39 38,aX true 43 39 [af 40 5 3,aj 41 40,bp 42 .gtr 41 9] 42,aa 29 43] (cT 29 (av [dK 44 cx,aP 6 44 13,cE 7 2]) (ah [aM 46 4 9,af 47 5 0,aj 48 47,cU 49 KH 46 48,aa 45 49] (dg 45 (av [dK 50 cx,aP 6 50 13,cE 7 17])))))))) (av [aa 51 9,aM 52 4 9,aM 53 5 5,tA 54 51 52 53,bW 55 54 0,bW 56 54 1,aP 6 55 13,aa 7 56]))))) [.c 6 13 true,.t 7] false none
def ac4:F:=.mk (ah [bz 3 0 4,iz 4 1 9,cg 6 cx,bu 7] (aQ (ah [aM 9 3 4,aM 10 4 9,cU 11 pM 9 10,aa 8 11] (ah [aa 12 8,bE 13 .neq 12] (dg 13 (av [dK 14 cx,aa 15 8,aP 6 14 13,aa 7 15])))) (bU [aM 16 4 9,aa 17 2,cU 18 KH 16 17,dx 19 18] 19 (av [dK 20 cx,aP 6 20 13,cE 7 7]) (ah [af 21 4 4,aj 22 21,aa 23 2,cU 24 xK 22 23,af 25 4 4,aP 25 24 1] (av [aM 26 4 9,I.build 27 cx [(0,9,.t 26)],aP 6 27 13,bu 7]))))) [.c 6 13 true,.t 7] false none
def ac5:F:=.mk (ah [bz 3 0 4,bz 4 1 9,bz 5 2 5,bQ 6] (ah [aM 10 3 4,aM 11 4 9,aM 12 5 5,mB 13 AA 10 11 12,aa 9 13,bW 14 9 0,bW 15 9 1,cg 7 cx,dU 7 14 13,aa 8 15] (av [aa 16 8,bE 17 .eql 16,aa 18 17,aX false 22 18 [af 19 7 9,aj 20 19,dx 21 20] 21,aa 6 22]))) [.t 6] false none
def Et:F:=.mk (ah [bz 1 0 4,cg 2 zR,bu 3] (bU [af 4 1 1,aj 5 4,bp 6 .neq 5 2] 6 (av [dK 7 zR,aP 2 7 9,cE 3 8]) (bU [af 8 1 2,aj 9 8,bE 10 .neq 9,aa 11 10,aX true 15 11 [af 12 1 3,aj 13 12,bE 14 .neq 13] 14] 15 (av [dK 16 zR,aP 2 16 9,cE 3 2]) (av [I.build 17 zR [(0,1,.k (.i .i64 (-1)))],aP 2 17 9,bu 3])))) [.c 2 9 true,.t 3] false none
def Eu:F:=.mk (ah [bz 2 0 4,bz 3 1 9,bu 4] (aQ (ah [aM 8 2 4,dP 9 su 8,aa 7 9,bW 10 7 0,bW 11 7 1,cg 5 zR,dU 5 10 9,aa 6 11] (ah [aa 12 6,bE 13 .neq 12] (dg 13 (av [aa 14 6,aa 4 14])))) (bU [aM 15 3 9,dP 16 KI 15,dx 17 16] 17 (av [cE 4 1]) (av [bu 4])))) [.t 4] false none
def gW:F:=.mk (ah [bz 3 0 4,bz 4 1 9,bz 5 2 5,cg 6 cx,bu 7] (bU [aM 13 3 4,aM 14 4 9,cU 15 lz 13 14,bE 16 .neq 15] 16 (av [dK 17 cx,aP 6 17 13,cE 7 1]) (bU [af 18 5 0,aj 19 18,dP 20 Eg 19,dx 21 20,aa 22 21,aX true 26 22 [af 23 5 3,aj 24 23,bE 25 .lss 24] 25,aa 27 26,aX true 31 27 [af 28 5 3,aj 29 28,bp 30 .gtr 29 9] 30,aa 32 31,aX true 36 32 [af 33 5 4,aj 34 33,bE 35 .lss 34] 35,aa 37 36,aX true 41 37 [af 38 5 4,aj 39 38,bp 40 .gtr 39 1099511627776] 40] 41 (av [dK 42 cx,aP 6 42 13,cE 7 2]) (bU [af 43 5 1,aj 44 43,bp 45 .lss 44 53,aa 46 45,aX true 50 46 [af 47 5 1,aj 48 47,bp 49 .gtr 48 56] 49] 50 (av [dK 51 cx,aP 6 51 13,cE 7 8]) (aQ (ah [af 53 4 4,aj 54 53,af 55 5 0,aj 56 55,cU 57 iQ 54 56,aa 52 57,bW 58 52 0,bW 59 52 1,aa 8 58,aa 9 59] (ah [aa 60 9] (dg 60 (av [dK 61 cx,aP 6 61 13,cE 7 17])))) (eo [0,2,3,4,1,5,6,7] [gD 62 4 9,gD 64 4 9,fy 65 5 0,eY 66 65,lC 63 GY 62,cU 67 KJ 64 66,aa 10 63,aa 11 67] (aQ (ah [af 68 5 1,aj 69 68] (.bV 0 (mT [bp 78 .eql 69 53,aa 77 78] 77 .skip (.cr [bp 79 .eql 69 55,aa 77 79]) (cT 77 (bU [aa 80 11,bE 81 .neq 80] 81 (av [dK 82 cx,aP 6 82 13,cE 7 17]) (ah [aa 83 10,pS 84 Eh 83,aa 12 84] (bU [af 85 5 1,aj 86 85,bp 87 .eql 86 53] 87 (.cr [aa 88 10,pS 89 Cn 88,dx 90 89,aa 91 90,aX false 99 91 [aa 92 10,cM 93 92,I.fa 94 (.t 93) 0 9,af 95 94 4,aj 96 95,cu 97 96,bE 98 .eql 97] 98,aa 12 99]) (av [aa 100 10,aM 101 5 5,aa 102 12,yX 103 Xu 100 101 102,aP 6 103 13,bu 7])))) (ah [bp 105 .eql 69 54,aa 104 105] (cT 104 (bU [aa 106 11,bp 107 .neq 106 1] 107 (av [dK 108 cx,aP 6 108 13,cE 7 20]) (.cr [aa 109 10,aa 110 10,cM 111 110,I.fa 112 (.t 111) 0 9,af 113 112 3,aj 114 113,I.gY 115 KK [] [.t 5],nU 116 Qo 114 115,cM 117 109,I.fa 118 (.t 117) 0 9,af 119 118 3,aP 119 116 1])) (bU [aa 70 11,bp 71 .neq 70 2] 71 (av [dK 72 cx,aP 6 72 13,cE 7 20]) (.cr [aa 73 10,cM 74 73,I.fa 75 (.t 74) 0 9,af 76 75 0,I.st (.t 76) (.k (.i .i64 (-1))) 1 false])))))))) (ah [aa 120 10,pS 121 tv 120] (av [aa 122 10,pS 123 Qp 122,aP 6 123 13,bu 7]))))))))) [.c 6 13 true,.t 7] false none
def ac6:F:=.mk (ah [bz 3 0 4,bz 4 1 9,cg 6 cx,bu 7] (bU [aM 11 3 4,aM 12 4 9,cU 13 lz 11 12,bE 14 .neq 13] 14 (av [dK 15 cx,aP 6 15 13,cE 7 1]) (aQ (ah [af 17 4 4,aj 18 17,aa 19 2,cU 20 iQ 18 19,aa 16 20,bW 21 16 0,bW 22 16 1,aa 8 21,aa 9 22] (ah [aa 23 9,dx 24 23] (dg 24 (av [dK 25 cx,aP 6 25 13,cE 7 7])))) (ah [aM 26 4 9,lC 27 GY 26,aa 10 27] (ah [aa 28 10,aa 29 10,cM 30 29,I.fa 31 (.t 30) 0 9,af 32 31 4,aj 33 32,aa 34 2,nU 35 acT 33 34,cM 36 28,I.fa 37 (.t 36) 0 9,af 38 37 4,aP 38 35 1] (ah [aa 39 10,pS 40 tv 39] (eo [0,1,2,3,4,5,6,7,8,9,10] [aa 41 10,cM 42 41,I.fa 43 (.t 42) 0 9,aM 44 43 9,aa 45 10,cM 46 45,af 47 46 9,aj 48 47,I.build 49 cx [(0,9,.t 44),(12,1,.t 48)],aP 6 49 13,bu 7] .ret))))))) [.c 6 13 true,.t 7] false none
def ac7:F:=.mk (ah [bz 3 0 4,bz 4 1 9,bz 5 2 5,bQ 6] (ah [aM 10 3 4,aM 11 4 9,aM 12 5 5,mB 13 pN 10 11 12,aa 9 13,bW 14 9 0,bW 15 9 1,cg 7 cx,dU 7 14 13,aa 8 15] (av [aa 16 8,bE 17 .eql 16,aa 18 17,aX false 22 18 [af 19 7 9,aj 20 19,dx 21 20] 21,aa 6 22]))) [.t 6] false none
def LS:F:=.mk (ah [bz 1 0 4,cg 2 zR,bu 3] (aQ (.bV 0 (ah [af 5 1 1,aj 6 5,bp 7 .neq 6 4,aa 4 7] (cT 4 (av [dK 8 zR,aP 2 8 9,cE 3 8]) (ah [af 10 1 2,aj 11 10,bp 12 .lss 11 1,aa 13 12,aX true 17 13 [af 14 1 2,aj 15 14,bp 16 .gtr 15 100] 16,aa 18 17,aX true 27 18 [af 19 1 3,aj 20 19,bE 21 .neq 20,aa 22 21,aX false 26 22 [af 23 1 3,aj 24 23,bp 25 .neq 24 1] 25] 26,aa 9 27] (dg 9 (av [dK 28 zR,aP 2 28 9,cE 3 2])))))) (av [af 29 1 2,aj 30 29,I.build 31 zR [(0,1,.k (.i .i64 (-1))),(1,1,.t 30)],aP 2 31 9,bu 3]))) [.c 2 9 true,.t 3] false none
def Ev:C :=ah [bA 41 .lss 40 39] (aQ (cT 41 .skip (aQ (.keep [3]) (.exit 0))) (aQ (.bV 1 (ah [aa 42 40,aa 7 42] (ah [aM 43 2 4,aM 44 3 9,aa 45 7,mB 46 Qq 43 44 45,dx 47 46] (dg 47 (ah [cE 4 1] (aQ (.keep [4]) .ret)))))) (.cr [bp 48 .add 40 1,aa 40 48])))
def uF:F:=.mk (ah [bz 2 0 4,bz 3 1 9,bu 4] (aQ (ah [aM 9 2 4,dP 10 s9 9,aa 8 10,bW 11 8 0,bW 12 8 1,cg 5 zR,dU 5 11 9,aa 6 12] (ah [aa 13 6,bE 14 .neq 13] (dg 14 (av [aa 15 6,aa 4 15])))) (bU [af 16 3 0,aj 17 16,I.bin 18 .neq (.t 17) (.k (.i .i64 (-1))),aa 19 18,aX true 23 19 [af 20 3 1,aj 21 20,bE 22 .lss 21] 22,aa 24 23,aX true 30 24 [af 25 3 1,aj 26 25,af 27 2 2,aj 28 27,bA 29 .gtr 26 28] 29,aa 31 30,aX true 36 31 [af 32 3 4,aj 33 32,I.call (some 34) qv [cS 1,.t 33],bE 35 .neq 34] 35] 36 (av [cE 4 1]) (aQ (ah [af 37 3 4,aj 38 37,cu 39 38,bu 40] (.bV 0 (.loop [2,3,39,40] Ev))) (bU [af 49 3 2,aj 50 49,bE 51 .neq 50,aa 52 51,aX true 65 52 [af 53 3 3,aj 54 53,cu 55 54,af 56 3 5,aj 57 56,cu 58 57,bA 59 .add 55 58,af 60 3 6,aj 61 60,cu 62 61,bA 63 .add 59 62,bE 64 .gtr 63] 64,aa 66 65,aX true 69 66 [af 67 3 7,aj 68 67] 68,aa 70 69,aX true 74 70 [af 71 3 8,aj 72 71,bE 73 .neq 72] 73] 74 (av [cE 4 1]) (av [bu 4])))))) [.t 4] false none
def yZ:F:=.mk (ah [bz 3 0 4,bz 4 1 9,bz 5 2 5,cg 6 cx,bu 7] (bU [aM 13 3 4,aM 14 4 9,cU 15 qu 13 14,bE 16 .neq 15] 16 (av [dK 17 cx,aP 6 17 13,cE 7 1]) (aQ (ah [aM 18 3 4,aM 19 4 9,aM 20 5 5,mB 21 Qr 18 19 20,aa 8 21] (ah [aa 22 8,bE 23 .neq 22] (dg 23 (av [dK 24 cx,aa 25 8,aP 6 24 13,aa 7 25])))) (ah [aM 26 4 9,af 27 3 3,aj 28 27,bp 29 .eql 28 1,I.build 30 [.i .i64 0,.i .i64 0,.i .i64 0,.sl 1 true [],.sl 5 true [],.sl 1 true [],.sl 2 true [],.b false,.i .i64 0,.b false] [(0,9,.t 26),(9,1,.t 29)],iz 31 30 10,cg 9 [.nil],dU 9 31 1] (ah [I.mw 32,I.gY 33 Qt [] [.t 9,.t 5],I.fA (.t 32) (cS 60) (.t 33) [.i],I.gY 34 Qv [] [.t 9,.t 5],I.fA (.t 32) (cS 61) (.t 34) [.i],I.gY 35 Qw [] [.t 9,.t 5],I.fA (.t 32) (cS 62) (.t 35) [.i],aa 36 32,aa 10 36] (ah [aa 37 10,af 38 5 1,aj 39 38,I.pG 40 (.t 37) (.t 39) .cN false [.i],aa 11 40] (ah [aa 41 11,I.pI (some 42) (.t 41) [],cg 12 cx,aP 12 42 13] (ah [aj 43 9,cM 44 43,I.fa 45 (.t 44) 0 9,aM 46 45 9,I.fa 47 (.t 12) 0 9,aP 47 46 9] (av [aM 48 12 13,aP 6 48 13,bu 7]))))))))) [.c 6 13 true,.t 7] false none
def ac8:F:=.mk (ah [bz 3 0 4,bz 4 1 9,cg 6 cx,bu 7] (bU [aM 12 3 4,aM 13 4 9,cU 14 qu 12 13,bE 15 .neq 14] 15 (av [dK 16 cx,aP 6 16 13,cE 7 1]) (aQ (ah [af 18 4 4,aj 19 18,aa 20 2,cU 21 iQ 19 20,aa 17 21,bW 22 17 0,bW 23 17 1,aa 8 22,aa 9 23] (ah [aa 24 9,dx 25 24] (dg 25 (av [dK 26 cx,aP 6 26 13,cE 7 7])))) (ah [aM 27 4 9,af 28 3 3,aj 29 28,bp 30 .eql 29 1,I.build 31 [.i .i64 0,.i .i64 0,.i .i64 0,.sl 1 true [],.sl 5 true [],.sl 1 true [],.sl 2 true [],.b false,.i .i64 0,.b false] [(0,9,.t 27),(9,1,.t 30)],iz 32 31 10,aa 10 32] (ah [aa 33 10,aa 34 10,cM 35 34,I.fa 36 (.t 35) 0 9,af 37 36 4,aj 38 37,aa 39 2,cU 40 xK 38 39,cM 41 33,I.fa 42 (.t 41) 0 9,af 43 42 4,aP 43 40 1] (ah [aa 44 10,pS 45 KM 44,aa 11 45] (av [aa 46 10,cM 47 46,I.fa 48 (.t 47) 0 9,aM 49 48 9,aa 50 11,I.build 51 cx [(0,9,.t 49),(12,1,.t 50)],aP 6 51 13,bu 7]))))))) [.c 6 13 true,.t 7] false none
def ac9:F:=.mk (ah [bz 3 0 4,bz 4 1 9,bz 5 2 5,bQ 6] (ah [aM 10 3 4,aM 11 4 9,aM 12 5 5,mB 13 AB 10 11 12,aa 9 13,bW 14 9 0,bW 15 9 1,cg 7 cx,dU 7 14 13,aa 8 15] (av [aa 16 8,bE 17 .eql 16,aa 18 17,aX false 22 18 [af 19 7 9,aj 20 19,dx 21 20] 21,aa 6 22]))) [.t 6] false none
def LU:F:=.mk (ah [bz 1 0 4,cg 2 zR,bu 3] (aQ (.bV 0 (ah [af 5 1 1,aj 6 5,bp 7 .neq 6 5,aa 4 7] (cT 4 (av [dK 8 zR,aP 2 8 9,cE 3 8]) (ah [af 10 1 2,aj 11 10,bp 12 .lss 11 1,aa 13 12,aX true 17 13 [af 14 1 2,aj 15 14,bp 16 .gtr 15 100] 16,aa 18 17,aX true 22 18 [af 19 1 3,aj 20 19,bE 21 .neq 20] 21,aa 9 22] (dg 9 (av [dK 23 zR,aP 2 23 9,cE 3 2])))))) (av [I.build 24 zR [(0,1,.k (.i .i64 (-1)))],aP 2 24 9,bu 3]))) [.c 2 9 true,.t 3] false none
def Ew:C :=ah [bA 74 .lss 73 72] (aQ (cT 74 .skip (aQ (.keep []) (.exit 0))) (aQ (.bV 1 (ah [aa 75 73,dc 76 71 73 5,aM 77 76 5,cg 8 zQ,aa 7 75,dU 8 77 5] (ah [af 78 8 1,aj 79 78,bp 80 .neq 79 63,aa 81 80,aX true 85 81 [af 82 8 2,aj 83 82,bE 84 .neq 83] 84,aa 86 85,aX true 90 86 [af 87 8 4,aj 88 87,I.bin 89 .neq (.t 88) (.k (.i .i64 (-1)))] 89,aa 91 90,aX true 102 91 [af 92 3 4,aj 93 92,aa 94 7,bp 95 .add 94 1,mS 96 93 95 5,dP 97 GZ 96,cu 98 97,aa 99 7,bp 100 .add 99 1,bA 101 .neq 98 100] 101] (dg 102 (ah [cE 4 1] (aQ (.keep [4]) .ret)))))) (.cr [bp 103 .add 73 1,aa 73 103])))
def uG:F:=.mk (ah [bz 2 0 4,bz 3 1 9,bu 4] (aQ (ah [aM 10 2 4,dP 11 tc 10,aa 9 11,bW 12 9 0,bW 13 9 1,cg 5 zR,dU 5 12 9,aa 6 13] (ah [aa 14 6,bE 15 .neq 14] (dg 15 (av [aa 16 6,aa 4 16])))) (bU [af 17 3 0,aj 18 17,I.bin 19 .neq (.t 18) (.k (.i .i64 (-1))),aa 20 19,aX true 24 20 [af 21 3 1,aj 22 21,bE 23 .lss 22] 23,aa 25 24,aX true 29 25 [af 26 3 1,aj 27 26,bp 28 .gtr 27 1099511627776] 28,aa 30 29,aX true 37 30 [af 31 3 4,aj 32 31,cu 33 32,af 34 2 2,aj 35 34,bA 36 .geq 33 35] 36] 37 (av [cE 4 1]) (bU [af 38 3 2,aj 39 38,bE 40 .neq 39,aa 41 40,aX true 45 41 [af 42 3 8,aj 43 42,bE 44 .neq 43] 44,aa 46 45,aX true 49 46 [af 47 3 7,aj 48 47] 48,aa 50 49,aX true 63 50 [af 51 3 3,aj 52 51,cu 53 52,af 54 3 5,aj 55 54,cu 56 55,bA 57 .add 53 56,af 58 3 6,aj 59 58,cu 60 59,bA 61 .add 57 60,bE 62 .gtr 61] 62,aa 64 63,aX true 69 64 [af 65 3 4,aj 66 65,I.call (some 67) qv [cS 1,.t 66],bE 68 .neq 67] 68] 69 (av [cE 4 1]) (aQ (ah [af 70 3 4,aj 71 70,cu 72 71,bu 73] (.bV 0 (.loop [3,71,72,73] Ew))) (av [bu 4])))))) [.t 4] false none
def rz:C :=ah [bA 24 .lss 23 22] (aQ (cT 24 .skip (aQ (.keep [3,4,5,6]) (.exit 0))) (aQ (.bV 1 (ah [dc 25 21 23 2,aM 26 25 2,cg 10 [.cN,.i .i64 0],dU 10 26 2] (ah [af 27 10 0,aj 28 27,aM 29 4 9,aM 30 5 5,tA 31 28 29 30,dx 32 31] (dg 32 (eo [0,1,2,3,4] [dK 33 cx,fy 34 10 1,eY 35 34,aP 6 33 13,aa 7 35] (aQ (.keep [6,7]) .ret)))))) (.cr [bp 36 .add 23 1,aa 23 36])))
def Hl:C :=ah [aa 12 70] (.cr [cg 13 zQ,dU 13 71 5])
def Ho:C :=.bV 3 (.cr [af 72 11 12,aj 73 72,af 74 13 0,aj 75 74,aa 76 12,I.build 77 jP [(0,1,.t 75),(1,1,cS 63),(2,1,.t 76),(3,1,fO),(4,1,.k (.i .i64 (-1)))],iA 78 5 1 jP 77,iE 79 73 78 5,af 80 11 12,aP 80 79 1])
def y4:F:=.mk (ah [bz 3 0 4,iz 4 1 9,bz 5 2 5,cg 6 cx,bu 7] (aQ (ah [aM 14 3 4,aM 15 4 9,cU 16 oF 14 15,aa 8 16] (ah [aa 17 8,bE 18 .neq 17] (dg 18 (av [dK 19 cx,aa 20 8,aP 6 19 13,aa 7 20])))) (aQ (ah [xO 21 Qx,cu 22 21,bu 23] (.bV 0 (.loop [3,4,5,6,21,22,23] rz))) (bU [af 37 4 4,aj 38 37,cu 39 38,bp 40 .add 39 1,af 41 3 2,aj 42 41,bA 43 .lss 40 42] 43 (eo [0,1,3,4,5,6,7,8,9,10,2,11,12,13] [af 44 4 4,aj 45 44,fy 47 5 0,eY 48 47,fy 49 5 1,eY 50 49,fy 51 5 3,eY 52 51,I.build 53 zQ [(0,1,.t 48),(1,1,.t 50),(3,1,.t 52),(4,1,.k (.i .i64 (-1)))],iA 54 5 1 zQ 53,lC 46 sv 45,iE 55 46 54 5,af 56 4 4,aP 56 55 1] (av [aM 57 4 9,I.build 58 cx [(0,9,.t 57),(9,1,fO)],aP 6 58 13,bu 7])) (bU [af 59 4 1,aj 60 59,bp 61 .eql 60 1099511627776] 61 (av [dK 62 cx,aP 6 62 13,cE 7 4]) (ah [af 63 3 2,aj 64 63,bp 65 .sub 64 1,I.build 66 cx [(10,1,.t 65),(11,1,fO)],cg 11 cx,aP 11 66 13] (aQ (ah [af 67 4 4,aj 68 67,lC 69 Qz 68] (.bV 2 (.sn (.t 69) [11] [70,71] Hl Ho))) (ah [af 81 4 4,I.st (.t 81) (.k (.sl 5 true [])) 1 false] (ah [af 82 4 1,aj 83 82,bp 84 .add 83 1,af 85 4 1,aP 85 84 1] (ah [aM 86 4 9,I.fa 87 (.t 11) 0 9,aP 87 86 9] (av [aM 88 11 13,aP 6 88 13,bu 7]))))))))))) [.c 6 13 true,.t 7] false none
def ada:F:=.mk (ah [bz 3 0 4,iz 4 1 9,cg 6 cx,bu 7] (aQ (ah [aM 9 3 4,aM 10 4 9,cU 11 oF 9 10,aa 8 11] (ah [aa 12 8,bE 13 .neq 12] (dg 13 (av [dK 14 cx,aa 15 8,aP 6 14 13,aa 7 15])))) (bU [aM 16 4 9,aa 17 2,cU 18 KN 16 17,dx 19 18] 19 (av [dK 20 cx,aP 6 20 13,cE 7 7]) (ah [af 21 4 4,aj 22 21,aa 23 2,cU 24 xK 22 23,af 25 4 4,aP 25 24 1] (av [aM 26 4 9,I.build 27 cx [(0,9,.t 26)],aP 6 27 13,bu 7]))))) [.c 6 13 true,.t 7] false none
def adb:F:=.mk (ah [bz 3 0 4,bz 4 1 9,bz 5 2 5,bQ 6] (ah [aM 10 3 4,aM 11 4 9,aM 12 5 5,mB 13 Ci 10 11 12,aa 9 13,bW 14 9 0,bW 15 9 1,cg 7 cx,dU 7 14 13,aa 8 15] (av [aa 16 8,bE 17 .eql 16,aa 18 17,aX false 22 18 [af 19 7 9,aj 20 19,dx 21 20] 21,aa 6 22]))) [.t 6] false none
def LV:F:=.mk (ah [bz 1 0 4,cg 2 zR,bu 3] (bU [af 4 1 1,aj 5 4,bp 6 .neq 5 6] 6 (av [dK 7 zR,aP 2 7 9,cE 3 8]) (bU [af 8 1 2,aj 9 8,bE 10 .lss 9,aa 11 10,aX true 15 11 [af 12 1 2,aj 13 12,bp 14 .gtr 13 100] 14,aa 16 15,aX true 20 16 [af 17 1 3,aj 18 17,bE 19 .neq 18] 19] 20 (av [dK 21 zR,aP 2 21 9,cE 3 2]) (av [I.build 22 zR [(0,1,.k (.i .i64 (-1)))],aP 2 22 9,bu 3])))) [.c 2 9 true,.t 3] false none
def Ey:F:=.mk (ah [bz 2 0 4,bz 3 1 9,bu 4] (aQ (ah [aM 8 2 4,dP 9 tg 8,aa 7 9,bW 10 7 0,bW 11 7 1,cg 5 zR,dU 5 10 9,aa 6 11] (ah [aa 12 6,bE 13 .neq 12] (dg 13 (av [aa 14 6,aa 4 14])))) (bU [aM 15 2 4,aM 16 3 9,cU 17 KO 15 16,dx 18 17] 18 (av [cE 4 1]) (av [bu 4])))) [.t 4] false none
def jk:F:=.mk (ah [bz 3 0 4,bz 4 1 9,bz 5 2 5,cg 6 cx,bu 7] (bU [aM 12 3 4,aM 13 4 9,cU 14 gp 12 13,bE 15 .neq 14] 15 (av [dK 16 cx,aP 6 16 13,cE 7 1]) (bU [af 17 5 0,aj 18 17,dP 19 QA 18,dx 20 19,aa 21 20,aX true 26 21 [af 22 5 3,aj 23 22,dP 24 QB 23,dx 25 24] 25,aa 27 26,aX true 31 27 [af 28 5 4,aj 29 28,bE 30 .lss 29] 30,aa 32 31,aX true 36 32 [af 33 5 4,aj 34 33,bp 35 .gtr 34 1099511627776] 35] 36 (av [dK 37 cx,aP 6 37 13,cE 7 2]) (eo [1,2,0,3,4,5,6,7,8] [fy 40 5 1,eY 41 40,I.mP (some 39) QC [],I.pG 42 (.t 39) (.t 41) .cN true [.i],aa 38 42,bW 43 38 0,bW 44 38 1,aa 8 43,aa 9 44] (bU [aa 45 9,dx 46 45] 46 (av [dK 47 cx,aP 6 47 13,cE 7 8]) (ah [af 49 4 4,aj 50 49,af 51 5 0,aj 52 51,cU 53 iQ 50 52,aa 48 53,bW 54 48 0,bW 55 48 1,aa 10 54,aa 11 55] (aQ (.bV 0 (ah [af 57 5 1,aj 58 57,bp 59 .eql 58 64,aa 60 59,aX false 65 60 [af 61 5 2,aj 62 61,dP 63 G0 62,dx 64 63] 64,aa 56 65] (cT 56 (av [dK 66 cx,aP 6 66 13,cE 7 2]) (ah [aa 68 11,aa 67 68] (cT 67 (av [dK 69 cx,aP 6 69 13,cE 7 17]) (ah [af 71 4 7,aj 72 71,aa 73 72,aX false 77 73 [af 74 5 1,aj 75 74,bp 76 .eql 75 64] 76,aa 70 77] (cT 70 (av [dK 78 cx,aP 6 78 13,cE 7 19]) (ah [af 80 4 7,aj 81 80,aa 82 81,aX false 86 82 [af 83 5 1,aj 84 83,bp 85 .eql 84 66] 85,aa 79 86] (dg 79 (av [dK 87 cx,aP 6 87 13,cE 7 17])))))))))) (eo [0,1,2,4,3,5,6,7] [aa 88 8,gD 89 3 4,gD 90 4 9,gD 92 5 5,I.mP (some 91) G1 [.t 89,.t 90],I.pI (some 93) (.t 88) [.t 91,.t 92],aP 6 93 13,bu 7] .ret)))))))) [.c 6 13 true,.t 7] false none
def ade:F:=.mk (ah [bz 3 0 4,iz 4 1 9,cg 6 cx,bu 7] (bU [aM 10 3 4,aM 11 4 9,cU 12 gp 10 11,bE 13 .neq 12] 13 (av [dK 14 cx,aP 6 14 13,cE 7 1]) (aQ (ah [af 16 4 4,aj 17 16,aa 18 2,cU 19 iQ 17 18,aa 15 19,bW 20 15 0,bW 21 15 1,aa 8 20,aa 9 21] (ah [aa 22 9,dx 23 22] (dg 23 (av [dK 24 cx,aP 6 24 13,cE 7 7])))) (ah [af 25 4 4,aj 26 25,aa 27 2,cU 28 xK 26 27,af 29 4 4,aP 29 28 1] (av [aM 30 4 9,I.build 31 cx [(0,9,.t 30)],aP 6 31 13,bu 7]))))) [.c 6 13 true,.t 7] false none
def adf:F:=.mk (ah [bz 3 0 4,bz 4 1 9,bz 5 2 5,bQ 6] (ah [aM 10 3 4,aM 11 4 9,aM 12 5 5,mB 13 iP 10 11 12,aa 9 13,bW 14 9 0,bW 15 9 1,cg 7 cx,dU 7 14 13,aa 8 15] (av [aa 16 8,bE 17 .eql 16,aa 18 17,aX false 22 18 [af 19 7 9,aj 20 19,dx 21 20] 21,aa 6 22]))) [.t 6] false none
def LW:F:=.mk (ah [bz 1 0 4,cg 2 zR,bu 3] (bU [af 4 1 1,aj 5 4,bp 6 .neq 5 7] 6 (av [dK 7 zR,aP 2 7 9,cE 3 8]) (bU [af 8 1 2,aj 9 8,bE 10 .lss 9,aa 11 10,aX true 15 11 [af 12 1 2,aj 13 12,bp 14 .gtr 13 100] 14,aa 16 15,aX true 20 16 [af 17 1 3,aj 18 17,bE 19 .neq 18] 19] 20 (av [dK 21 zR,aP 2 21 9,cE 3 2]) (av [I.build 22 zR [(0,1,.k (.i .i64 (-1)))],aP 2 22 9,bu 3])))) [.c 2 9 true,.t 3] false none
def Cx:F:=.mk (ah [bz 2 0 4,bz 3 1 9,bu 4] (aQ (ah [aM 8 2 4,dP 9 th 8,aa 7 9,bW 10 7 0,bW 11 7 1,cg 5 zR,dU 5 10 9,aa 6 11] (ah [aa 12 6,bE 13 .neq 12] (dg 13 (av [aa 14 6,aa 4 14])))) (bU [af 15 3 0,aj 16 15,I.bin 17 .neq (.t 16) (.k (.i .i64 (-1))),aa 18 17,aX true 25 18 [af 19 2 2,aj 20 19,af 21 3 6,aj 22 21,cU 23 QD 20 22,dx 24 23] 24,aa 26 25,aX true 32 26 [af 27 2 2,aj 28 27,aM 29 3 9,cU 30 QE 28 29,dx 31 30] 31] 32 (av [cE 4 1]) (bU [af 33 3 1,aj 34 33,bE 35 .neq 34,aa 36 35,aX true 40 36 [af 37 3 2,aj 38 37,bE 39 .neq 38] 39,aa 41 40,aX true 50 41 [af 42 3 3,aj 43 42,cu 44 43,af 45 3 5,aj 46 45,cu 47 46,bA 48 .add 44 47,bE 49 .gtr 48] 49,aa 51 50,aX true 54 51 [af 52 3 7,aj 53 52] 53,aa 55 54,aX true 59 55 [af 56 3 8,aj 57 56,bE 58 .neq 57] 58] 59 (av [cE 4 1]) (av [bu 4]))))) [.t 4] false none
def nu:F:=.mk (ah [bz 3 0 4,bz 4 1 9,bz 5 2 5,cg 6 cx,bu 7] (bU [aM 13 3 4,aM 14 4 9,cU 15 rq 13 14,bE 16 .neq 15] 16 (av [dK 17 cx,aP 6 17 13,cE 7 1]) (aQ (ah [aM 18 4 9,aM 19 5 5,cU 20 QF 18 19,aa 8 20] (ah [aa 21 8,bE 22 .neq 21] (dg 22 (av [dK 23 cx,aa 24 8,aP 6 23 13,aa 7 24])))) (ah [aM 25 3 4,aM 26 4 9,I.mP (some 27) KP [.t 25,.t 26],cg 9 [.nil],dU 9 27 1] (ah [I.mw 28,I.gY 29 QG [] [.t 9,.t 5],I.fA (.t 28) (cS 69) (.t 29) [.i],I.gY 30 QI [] [.t 9,.t 5],I.fA (.t 28) (cS 71) (.t 30) [.i],I.gY 31 QJ [] [.t 9,.t 5],I.fA (.t 28) (cS 68) (.t 31) [.i],I.gY 32 KS [] [.t 9,.t 5],I.fA (.t 28) (cS 70) (.t 32) [.i],aa 33 28,aa 10 33] (ah [aa 34 10,af 35 5 1,aj 36 35,I.pG 37 (.t 34) (.t 36) .cN false [.i],aa 11 37] (ah [aa 38 11,I.pI (some 39) (.t 38) [],cg 12 cx,aP 12 39 13] (eo [0,1,2,3,4,5,6,7,8,9,10,11] [eY 40 9,cM 41 40,I.fa 42 (.t 41) 1 9,aM 43 42 9,eY 44 9,cM 45 44,af 46 45 10,aj 47 46,I.fa 48 (.t 12) 0 9,aP 48 43 9,.re (.fa 46 (.t 45) 10 1),.re (.ld 47 (.t 46) 1 false),af 49 12 12,aP 49 47 1] (av [aM 50 12 13,aP 6 50 13,bu 7]))))))))) [.c 6 13 true,.t 7] false none
def adg:F:=.mk (ah [bz 3 0 4,bz 4 1 9,cg 6 cx,bu 7] (bU [aM 11 3 4,aM 12 4 9,cU 13 rq 11 12,bE 14 .neq 13] 14 (av [dK 15 cx,aP 6 15 13,cE 7 1]) (aQ (ah [af 17 4 4,aj 18 17,aa 19 2,cU 20 iQ 18 19,aa 16 20,bW 21 16 0,bW 22 16 1,aa 8 21,aa 9 22] (ah [aa 23 9,dx 24 23] (dg 24 (av [dK 25 cx,aP 6 25 13,cE 7 7])))) (ah [aM 26 3 4,aM 27 4 9,I.mP (some 28) KP [.t 26,.t 27],aa 10 28] (aQ (aQ (.xA 10 5) (.cr [aa 29 10,aa 30 10,cM 31 30,I.fa 32 (.t 31) 1 9,af 33 32 4,aj 34 33,aa 35 2,cU 36 xK 34 35,cM 37 29,I.fa 38 (.t 37) 1 9,af 39 38 4,aP 39 36 1])) (ah [aa 40 10,pS 41 Ei 40] (eo [0,1,2,3,4,5,6,7,8,9,10] [aa 42 10,cM 43 42,I.fa 44 (.t 43) 1 9,aM 45 44 9,aa 46 10,cM 47 46,af 48 47 10,aj 49 48,I.build 50 cx [(0,9,.t 45),(12,1,.t 49)],aP 6 50 13,bu 7] .ret))))))) [.c 6 13 true,.t 7] false none
def adh:F:=.mk (ah [bz 3 0 4,bz 4 1 9,bz 5 2 5,bQ 6] (ah [aM 10 3 4,aM 11 4 9,aM 12 5 5,mB 13 vJ 10 11 12,aa 9 13,bW 14 9 0,bW 15 9 1,cg 7 cx,dU 7 14 13,aa 8 15] (av [aa 16 8,bE 17 .eql 16,aa 18 17,aX false 22 18 [af 19 7 9,aj 20 19,dx 21 20] 21,aa 6 22]))) [.t 6] false none
def LX:F:=.mk (ah [bz 1 0 4,cg 2 zR,bu 3] (aQ (.bV 0 (ah [af 5 1 1,aj 6 5,bp 7 .neq 6 8,aa 4 7] (cT 4 (av [dK 8 zR,aP 2 8 9,cE 3 8]) (ah [af 10 1 2,aj 11 10,bp 12 .lss 11 1,aa 13 12,aX true 17 13 [af 14 1 2,aj 15 14,bp 16 .gtr 15 100] 16,aa 18 17,aX true 22 18 [af 19 1 3,aj 20 19,bp 21 .lss 20 1] 21,aa 23 22,aX true 27 23 [af 24 1 3,aj 25 24,bp 26 .gtr 25 1099511627776] 26,aa 9 27] (dg 9 (av [dK 28 zR,aP 2 28 9,cE 3 2])))))) (av [af 29 1 2,aj 30 29,I.build 31 zR [(0,1,.k (.i .i64 (-1))),(1,1,.t 30)],aP 2 31 9,bu 3]))) [.c 2 9 true,.t 3] false none
def Ez:C :=ah [bA 73 .lss 72 71] (aQ (cT 73 .skip (aQ (.keep []) (.exit 0))) (aQ (.bV 1 (ah [aa 74 72,dc 75 70 72 5,aM 76 75 5,cg 8 zQ,aa 7 74,dU 8 76 5] (ah [af 77 8 1,aj 78 77,bp 79 .neq 78 72,aa 80 79,aX true 84 80 [af 81 8 2,aj 82 81,bp 83 .lss 82 1] 83,aa 85 84,aX true 91 85 [af 86 8 2,aj 87 86,af 88 2 2,aj 89 88,bA 90 .gtr 87 89] 90,aa 92 91,aX true 96 92 [af 93 8 4,aj 94 93,I.bin 95 .neq (.t 94) (.k (.i .i64 (-1)))] 95,aa 97 96,aX true 108 97 [af 98 3 4,aj 99 98,aa 100 7,bp 101 .add 100 1,mS 102 99 101 5,dP 103 GZ 102,cu 104 103,aa 105 7,bp 106 .add 105 1,bA 107 .neq 104 106] 107] (dg 108 (ah [cE 4 1] (aQ (.keep [4]) .ret)))))) (.cr [bp 109 .add 72 1,aa 72 109])))
def uH:F:=.mk (ah [bz 2 0 4,bz 3 1 9,bu 4] (aQ (ah [aM 10 2 4,dP 11 tj 10,aa 9 11,bW 12 9 0,bW 13 9 1,cg 5 zR,dU 5 12 9,aa 6 13] (ah [aa 14 6,bE 15 .neq 14] (dg 15 (av [aa 16 6,aa 4 16])))) (bU [af 17 3 0,aj 18 17,I.bin 19 .neq (.t 18) (.k (.i .i64 (-1))),aa 20 19,aX true 24 20 [af 21 3 1,aj 22 21,bE 23 .lss 22] 23,aa 25 24,aX true 31 25 [af 26 3 1,aj 27 26,af 28 2 2,aj 29 28,bA 30 .gtr 27 29] 30,aa 32 31,aX true 36 32 [af 33 3 2,aj 34 33,bE 35 .lss 34] 35,aa 37 36,aX true 41 37 [af 38 3 2,aj 39 38,bp 40 .gtr 39 1099511627776] 40] 41 (av [cE 4 1]) (bU [af 42 3 8,aj 43 42,bE 44 .neq 43,aa 45 44,aX true 48 45 [af 46 3 7,aj 47 46] 47,aa 49 48,aX true 62 49 [af 50 3 3,aj 51 50,cu 52 51,af 53 3 5,aj 54 53,cu 55 54,bA 56 .add 52 55,af 57 3 6,aj 58 57,cu 59 58,bA 60 .add 56 59,bE 61 .gtr 60] 61,aa 63 62,aX true 68 63 [af 64 3 4,aj 65 64,I.call (some 66) qv [cS 1,.t 65],bE 67 .neq 66] 67] 68 (av [cE 4 1]) (aQ (ah [af 69 3 4,aj 70 69,cu 71 70,bu 72] (.bV 0 (.loop [2,3,70,71,72] Ez))) (av [bu 4])))))) [.t 4] false none
def Hp:C :=ah [cg 11 zQ,dU 11 32 5] (.cr [cg 12 zR,dU 12 33 9])
def Hq:C :=.bV 1 (ah [af 34 10 12,aj 35 34,af 36 11 0,aj 37 36,I.build 38 jP [(0,1,.t 37),(1,1,cS 72),(3,1,fO),(4,1,.k (.i .i64 (-1)))],iA 39 5 1 jP 38,iE 40 35 39 5,af 41 10 12,aP 41 40 1] (.cr [aM 42 12 9,aP 4 42 9]))
def y5:F:=.mk (ah [bz 3 0 4,iz 4 1 9,bz 5 2 5,cg 6 cx,bu 7] (aQ (ah [aM 13 3 4,aM 14 4 9,aM 15 5 5,mB 16 KU 13 14 15,aa 8 16] (ah [aa 17 8,bE 18 .neq 17] (dg 18 (av [dK 19 cx,aa 20 8,aP 6 19 13,aa 7 20])))) (ah [aM 21 3 4,aM 22 4 9,I.build 23 [.s [],.i .i64 0,.i .i64 0,.i .i64 0,.i .i64 0,.i .i64 0,.i .i64 0,.sl 1 true [],.sl 5 true [],.sl 1 true [],.sl 2 true [],.b false,.i .i64 0] [(0,4,.t 21),(4,9,.t 22)],I.gY 24 QK [.t 23] [],aa 9 24] (ah [aa 25 9,af 26 5 4,aj 27 26,vL 28 25 27,aP 4 28 9] (ah [dK 29 cx,cg 10 cx,aP 10 29 13] (aQ (ah [aM 30 4 9,lC 31 QL 30] (.bV 0 (.sn (.t 31) [4,10] [32,33] Hp Hq))) (aQ (.bV 2 (ah [af 60 5 1,aj 61 60,bp 62 .eql 61 75,aa 59 62] (cT 59 (.cr [af 63 10 11,I.st (.t 63) fO 1 false]) (ah [af 65 4 4,aj 66 65,cu 67 66,bE 68 .eql 67,aa 69 68,aX false 75 69 [af 70 4 1,aj 71 70,af 72 5 2,aj 73 72,bA 74 .geq 71 73] 74,aa 64 75] (cT 64 (ah [af 76 4 1,aj 77 76,af 78 5 2,aj 79 78,bA 80 .sub 77 79,af 81 4 1,aP 81 80 1] (.cr [af 82 10 11,I.st (.t 82) fO 1 false])) (eo [0,1,3,4,5,6,7,8,9,10,11,12,2,13,14,15] [af 43 4 4,aj 44 43,fy 46 5 0,eY 47 46,fy 48 5 1,eY 49 48,fy 50 5 2,eY 51 50,fy 52 5 3,eY 53 52,I.build 54 zQ [(0,1,.t 47),(1,1,.t 49),(2,1,.t 51),(3,1,.t 53),(4,1,.k (.i .i64 (-1)))],iA 55 5 1 zQ 54,lC 45 sv 44,iE 56 45 55 5,af 57 4 4,aP 57 56 1] (.cr [af 58 10 9,I.st (.t 58) fO 1 false]))))))) (ah [aM 83 4 9,I.fa 84 (.t 10) 0 9,aP 84 83 9] (av [aM 85 10 13,aP 6 85 13,bu 7]))))))))) [.c 6 13 true,.t 7] false none
def adi:F:=.mk (ah [bz 3 0 4,iz 4 1 9,cg 6 cx,bu 7] (aQ (ah [aM 9 3 4,aM 10 4 9,cU 11 nT 9 10,aa 8 11] (ah [aa 12 8,bE 13 .neq 12] (dg 13 (av [dK 14 cx,aa 15 8,aP 6 14 13,aa 7 15])))) (bU [aM 16 4 9,aa 17 2,cU 18 KV 16 17,dx 19 18] 19 (av [dK 20 cx,aP 6 20 13,cE 7 7]) (ah [af 21 4 4,aj 22 21,aa 23 2,cU 24 xK 22 23,af 25 4 4,aP 25 24 1] (av [aM 26 4 9,I.build 27 cx [(0,9,.t 26)],aP 6 27 13,bu 7]))))) [.c 6 13 true,.t 7] false none
def adj:F:=.mk (ah [bz 3 0 4,bz 4 1 9,bz 5 2 5,bQ 6] (ah [aM 10 3 4,aM 11 4 9,aM 12 5 5,mB 13 Cj 10 11 12,aa 9 13,bW 14 9 0,bW 15 9 1,cg 7 cx,dU 7 14 13,aa 8 15] (av [aa 16 8,bE 17 .eql 16,aa 18 17,aX false 22 18 [af 19 7 9,aj 20 19,dx 21 20] 21,aa 6 22]))) [.t 6] false none
def LY:F:=.mk (ah [bz 1 0 4,cg 2 zR,bu 3] (bU [af 4 1 1,aj 5 4,bp 6 .neq 5 9] 6 (av [dK 7 zR,aP 2 7 9,cE 3 8]) (bU [af 8 1 2,aj 9 8,bE 10 .neq 9,aa 11 10,aX true 15 11 [af 12 1 3,aj 13 12,bE 14 .neq 13] 14] 15 (av [dK 16 zR,aP 2 16 9,cE 3 2]) (av [I.build 17 zR [(0,1,.k (.i .i64 (-1)))],aP 2 17 9,bu 3])))) [.c 2 9 true,.t 3] false none
def EA:F:=.mk (ah [bz 2 0 4,bz 3 1 9,bu 4] (aQ (ah [aM 8 2 4,dP 9 tr 8,aa 7 9,bW 10 7 0,bW 11 7 1,cg 5 zR,dU 5 10 9,aa 6 11] (ah [aa 12 6,bE 13 .neq 12] (dg 13 (av [aa 14 6,aa 4 14])))) (bU [aM 15 3 9,I.build 16 zR [(0,9,.t 15)],dP 17 KW 16,dx 18 17] 18 (av [cE 4 1]) (av [bu 4])))) [.t 4] false none
def Cy:F:=.mk (ah [bz 3 0 4,bz 4 1 9,bz 5 2 5,cg 6 cx,bu 7] (bU [aM 10 3 4,aM 11 4 9,cU 12 pP 10 11,bE 13 .neq 12] 13 (av [dK 14 cx,aP 6 14 13,cE 7 1]) (bU [af 15 5 0,aj 16 15,bE 17 .lss 16,aa 18 17,aX true 22 18 [af 19 5 0,aj 20 19,bp 21 .geq 20 16] 21,aa 23 22,aX true 27 23 [af 24 5 3,aj 25 24,bE 26 .lss 25] 26,aa 28 27,aX true 32 28 [af 29 5 3,aj 30 29,bp 31 .gtr 30 9] 31,aa 33 32,aX true 37 33 [af 34 5 4,aj 35 34,bE 36 .lss 35] 36,aa 38 37,aX true 42 38 [af 39 5 4,aj 40 39,bp 41 .gtr 40 1099511627776] 41] 42 (av [dK 43 cx,aP 6 43 13,cE 7 2]) (aQ (eo [0,1,2,3,4,5,6,7] [gD 44 4 9,I.build 45 zR [(0,9,.t 44)],fy 46 5 1,eY 47 46,bp 48 .eql 47 73,cg 8 zR,aP 8 45 9,aa 9 48] (.oC [8])) (aQ (.bV 0 (ah [aa 50 9,dx 51 50,aa 52 51,aX false 56 52 [af 53 5 1,aj 54 53,bp 55 .neq 54 74] 55,aa 49 56] (cT 49 (av [dK 57 cx,aP 6 57 13,cE 7 8]) (ah [aa 59 9,aa 60 59,aX false 65 60 [af 61 5 2,aj 62 61,dP 63 KX 62,dx 64 63] 64,aa 58 65] (cT 58 (av [dK 66 cx,aP 6 66 13,cE 7 2]) (ah [aM 68 8 9,af 69 5 0,aj 70 69,cU 71 KY 68 70,aa 72 71,aX true 79 72 [aa 73 9,aa 74 73,aX false 78 74 [I.fa 75 (.t 8) 0 9,af 76 75 7,aj 77 76] 77] 78,aa 67 79] (cT 67 (av [dK 80 cx,aP 6 80 13,cE 7 17]) (ah [aa 82 9,aa 81 82] (dg 81 (av [aM 83 8 9,af 84 5 2,aj 85 84,cU 86 QM 83 85,aP 6 86 13,bu 7])))))))))) (av [aM 87 8 9,aM 88 5 5,cU 89 QN 87 88,aP 6 89 13,bu 7])))))) [.c 6 13 true,.t 7] false none
def adk:F:=.mk (ah [bz 3 0 4,iz 4 1 9,cg 6 cx,bu 7] (bU [aM 8 3 4,aM 9 4 9,cU 10 pP 8 9,bE 11 .neq 10] 11 (av [dK 12 cx,aP 6 12 13,cE 7 1]) (bU [aM 13 4 9,I.build 14 zR [(0,9,.t 13)],aa 15 2,cU 16 KY 14 15,dx 17 16] 17 (av [dK 18 cx,aP 6 18 13,cE 7 7]) (ah [af 19 4 4,aj 20 19,aa 21 2,cU 22 xK 20 21,af 23 4 4,aP 23 22 1] (av [aM 24 4 9,I.build 25 cx [(0,9,.t 24)],aP 6 25 13,bu 7]))))) [.c 6 13 true,.t 7] false none
def adl:F:=.mk (ah [bz 3 0 4,bz 4 1 9,bz 5 2 5,bQ 6] (ah [aM 10 3 4,aM 11 4 9,aM 12 5 5,mB 13 Ck 10 11 12,aa 9 13,bW 14 9 0,bW 15 9 1,cg 7 cx,dU 7 14 13,aa 8 15] (av [aa 16 8,bE 17 .eql 16,aa 18 17,aX false 22 18 [af 19 7 9,aj 20 19,dx 21 20] 21,aa 6 22]))) [.t 6] false none
def LZ:C :=ah [bA 9 .lss 8 7] (aQ (cT 9 .skip (aQ (.keep []) (.exit 0))) (aQ (.bV 1 (ah [aa 10 8,aa 5 10] (ah [aa 11 1,aa 12 0,aa 13 5,dc 14 12 13 2,aM 15 14 2,vL 16 11 15] (dg 16 (ah [aa 17 5,aa 4 17] (aQ (.keep [4]) .ret)))))) (.cr [bp 18 .add 8 1,aa 8 18])))
def Rt:F:=.mk (ah [bu 4] (aQ (ah [aa 6 0,cu 7 6,bu 8] (.bV 0 (.loop [0,1,7,8] LZ))) (av [I.mv 4 (.k (.i .i64 (-1)))]))) [.t 4] false none
def Ru:F:=.mk (ah [bz 2 0 2,bQ 3] (av [af 4 2 0,aj 5 4,af 6 1 0,aj 7 6,bA 8 .eql 5 7,aa 3 8])) [.t 3] false none
def L0:C :=ah [bA 12 .lss 11 10] (aQ (cT 12 .skip (aQ (.keep [0,3]) (.exit 0))) (aQ (.bV 1 (ah [dc 13 9 11 1,aj 14 13,aa 5 14] (ah [aa 15 3,aa 16 5,cu 17 16,bA 18 .add 15 17,aa 3 18] (ah [aa 19 3,bE 20 .lss 19] (dg 20 (.cr [I.bad (some 21),I.bad none])))))) (.cr [bp 22 .add 11 1,aa 11 22])))
def L1:C :=ah [bA 28 .lss 27 26] (aQ (cT 28 .skip (aQ (.keep [6]) (.exit 2))) (aQ (.bV 3 (ah [dc 29 25 27 1,aj 30 29,aa 8 30] (.cr [aa 31 6,aa 32 8,iE 33 31 32 10,aa 6 33]))) (.cr [bp 34 .add 27 1,aa 27 34])))
def L2:F:=.mk (ah [I.mv 2 (.k (.sl 10 true []))] (ah [bu 3] (aQ (ah [aa 9 0,cu 10 9,bu 11] (.bV 0 (.loop [0,3,9,10,11] L0))) (ah [aa 23 3,I.mP (some 24) KZ [.k (.sl 10 true []),.t 23],aa 6 24] (aQ (ah [aa 25 0,cu 26 25,bu 27] (.bV 2 (.loop [6,25,26,27] L1))) (av [aa 35 6,aa 2 35])))))) [.t 2] false none
def vP:C :=ah [bA 9 .lss 8 7] (aQ (cT 9 .skip (aQ (.keep []) (.exit 0))) (aQ (.bV 1 (ah [aa 10 8,aa 5 10] (ah [aa 11 1,aa 12 0,aa 13 5,dc 14 12 13 5,aM 15 14 5,vL 16 11 15] (dg 16 (ah [aa 17 5,aa 4 17] (aQ (.keep [4]) .ret)))))) (.cr [bp 18 .add 8 1,aa 8 18])))
def EB:F:=.mk (ah [bu 4] (aQ (ah [aa 6 0,cu 7 6,bu 8] (.bV 0 (.loop [0,1,7,8] vP))) (av [I.mv 4 (.k (.i .i64 (-1)))]))) [.t 4] false none
def EC:C :=ah [bA 64 .lss 63 62] (aQ (cT 64 .skip (aQ (.keep []) (.exit 0))) (aQ (.bV 1 (ah [aa 65 63,dc 66 61 63 5,aM 67 66 5,cg 4 zQ,aa 3 65,dU 4 67 5] (bU [af 68 4 1,aj 69 68,bp 70 .neq 69 50,aa 71 70,aX true 75 71 [af 72 4 2,aj 73 72,bE 74 .neq 73] 74,aa 76 75,aX true 80 76 [af 77 4 4,aj 78 77,I.bin 79 .neq (.t 78) (.k (.i .i64 (-1)))] 79,aa 81 80,aX true 87 81 [af 82 4 0,aj 83 82,af 84 1 0,aj 85 84,bA 86 .eql 83 85] 86] 87 (ah [bQ 2] (aQ (.keep [2]) .ret)) (ah [af 88 1 4,aj 89 88,aa 90 3,mS 91 89 90 5,I.gY 92 K0 [] [.t 4],cU 93 uD 91 92] (dg 93 (ah [bQ 2] (aQ (.keep [2]) .ret))))))) (.cr [bp 94 .add 63 1,aa 63 94])))
def ED:F:=.mk (ah [bz 1 0 9,bQ 2] (bU [af 5 1 0,aj 6 5,I.bin 7 .neq (.t 6) (.k (.i .i64 (-1))),aa 8 7,aX false 13 8 [af 9 1 0,aj 10 9,dP 11 GX 10,dx 12 11] 12,aa 14 13,aX true 24 14 [af 15 1 0,aj 16 15,I.bin 17 .eql (.t 16) (.k (.i .i64 (-1))),aa 18 17,aX false 23 18 [af 19 1 4,aj 20 19,cu 21 20,bE 22 .gtr 21] 22] 23] 24 (av [bQ 2]) (bU [af 25 1 1,aj 26 25,bE 27 .neq 26,aa 28 27,aX true 32 28 [af 29 1 2,aj 30 29,bE 31 .neq 30] 31,aa 33 32,aX true 37 33 [af 34 1 8,aj 35 34,bE 36 .neq 35] 36,aa 38 37,aX true 41 38 [af 39 1 7,aj 40 39] 40,aa 42 41,aX true 55 42 [af 43 1 3,aj 44 43,cu 45 44,af 46 1 5,aj 47 46,cu 48 47,bA 49 .add 45 48,af 50 1 6,aj 51 50,cu 52 51,bA 53 .add 49 52,bE 54 .gtr 53] 54] 55 (av [bQ 2]) (bU [af 56 1 4,aj 57 56,I.call (some 58) qv [cS 2,.t 57],bE 59 .neq 58] 59 (av [bQ 2]) (aQ (ah [af 60 1 4,aj 61 60,cu 62 61,bu 63] (.bV 0 (.loop [1,61,62,63] EC))) (av [gy 2])))))) [.t 2] false none
def Rv:F:=.mk (ah [I.mv 0 (.k .uu)] (av [I.mw 1,I.fA (.t 1) (cS 50) (.k (.fn G4 [] [])) [.i],I.fA (.t 1) (cS 51) (.k (.fn K1 [] [])) [.i],I.fA (.t 1) (cS 52) (.k (.fn K2 [] [])) [.i],aa 2 1,aa 0 2])) [.t 0] true none
def L3:F:=.mk (ah [bQ 2] (av [aa 3 0,bE 4 .geq 3,aa 5 4,aX false 8 5 [aa 6 0,bp 7 .lss 6 16] 7,aa 2 8])) [.t 2] false none
def Rw:F:=.mk (ah [bz 2 0 9,bz 3 1 1,bQ 4] (av [af 5 2 4,aj 6 5,I.gY 7 K3 [] [.t 3],cU 8 uD 6 7,aa 4 8])) [.t 4] false none
def Rx:F:=.mk (ah [bz 3 1 1,I.mv 4 (.k (.sl 5 true []))] (av [aa 5 0,I.gY 6 Ej [] [.t 3],cU 7 QO 5 6,aa 4 7])) [.t 4] false none
def adm:F:=.mk (ah [bz 3 1 1,I.mv 4 (.k (.sl 5 true []))] (av [aa 5 0,I.gY 6 Ej [] [.t 3],nU 7 acU 5 6,aa 4 7])) [.t 4] true none
def AI:C :=ah [bA 55 .lss 54 53] (aQ (cT 55 .skip (aQ (.keep [1]) (.exit 0))) (aQ (.bV 1 (ah [aa 56 54,dc 57 52 54 1,aj 58 57,aa 3 56,aa 4 58] (ah [aa 59 4,dP 60 Eg 59,dx 61 60,aa 62 61,aX true 75 62 [aa 63 3,bE 64 .gtr 63,aa 65 64,aX false 74 65 [af 66 1 3,aj 67 66,aa 68 3,bp 69 .sub 68 1,dc 70 67 69 1,aj 71 70,aa 72 4,bA 73 .geq 71 72] 73] 74] (dg 75 (ah [bQ 2] (aQ (.keep [2]) .ret)))))) (.cr [bp 76 .add 54 1,aa 54 76])))
def EE:F:=.mk (ah [bz 1 0 9,bQ 2] (bU [af 5 1 0,aj 6 5,I.bin 7 .neq (.t 6) (.k (.i .i64 (-1))),aa 8 7,aX false 19 8 [af 9 1 0,aj 10 9,dP 11 Eg 10,dx 12 11,aa 13 12,aX true 18 13 [af 14 1 3,aj 15 14,cu 16 15,bE 17 .gtr 16] 17] 18,aa 20 19,aX true 24 20 [af 21 1 1,aj 22 21,bE 23 .neq 22] 23,aa 25 24,aX true 29 25 [af 26 1 2,aj 27 26,bE 28 .neq 27] 28,aa 30 29,aX true 35 30 [af 31 1 5,aj 32 31,cu 33 32,bE 34 .gtr 33] 34,aa 36 35,aX true 41 36 [af 37 1 6,aj 38 37,cu 39 38,bE 40 .gtr 39] 40,aa 42 41,aX true 45 42 [af 43 1 7,aj 44 43] 44,aa 46 45,aX true 50 46 [af 47 1 8,aj 48 47,bE 49 .neq 48] 49] 50 (av [bQ 2]) (aQ (ah [af 51 1 3,aj 52 51,cu 53 52,bu 54] (.bV 0 (.loop [1,52,53,54] AI))) (av [aM 77 1 9,dP 78 K4 77,aa 2 78])))) [.t 2] false none
def L4:F:=.mk (ah [bQ 2] (av [aa 3 0,bE 4 .geq 3,aa 5 4,aX false 8 5 [aa 6 0,bp 7 .lss 6 16] 7,aa 2 8])) [.t 2] false none
def Cz:C :=ah [bA 11 .lss 10 9] (aQ (cT 11 .skip (aQ (.keep []) (.exit 0))) (aQ (.bV 1 (ah [aa 12 10,dc 13 8 10 5,aM 14 13 5,cg 7 zQ,aa 6 12,dU 7 14 5] (ah [af 15 7 0,aj 16 15,aa 17 1,bA 18 .eql 16 17] (dg 18 (ah [aa 19 6,aa 4 19,gy 5] (aQ (.keep [4,5]) .ret)))))) (.cr [bp 20 .add 10 1,aa 10 20])))
def EF:F:=.mk (ah [bu 4,bQ 5] (aQ (ah [aa 8 0,cu 9 8,bu 10] (.bV 0 (.loop [1,8,9,10] Cz))) (av [bu 4,bQ 5]))) [.t 4,.t 5] false none
def Rz:F:=.mk (ah [iz 1 0 9,I.mv 2 (.k .nil)] (eo [0,1,3,4,2,6,5,7,8,9] [af 3 1 3,aj 4 3,af 6 1 4,aj 7 6,lC 5 tw 4,.re (.fa 6 (.t 1) 4 1),.re (.ld 7 (.t 6) 1 false),af 9 1 3,lC 8 sv 7,.re (.fa 9 (.t 1) 3 1),aP 9 5 1,af 10 1 4,aP 10 8 1] (av [aM 11 1 9,I.build 12 [.i .i64 0,.i .i64 0,.i .i64 0,.sl 1 true [],.sl 5 true [],.sl 1 true [],.sl 2 true [],.b false,.i .i64 0,.sl 5 true []] [(0,9,.t 11)],iz 13 12 10,aa 2 13]))) [.t 2] true none
def L5:F:=.mk (ah [bz 2 0 9,bu 4] (aQ (.bV 0 (ah [aa 6 1,bE 7 .geq 6,aa 8 7,aX false 13 8 [aa 9 1,af 10 2 0,aj 11 10,bA 12 .eql 9 11] 12,aa 5 13] (cT 5 (av [cE 4 2]) (ah [af 15 2 3,aj 16 15,aa 17 1,cU 18 QU 16 17,aa 14 18] (dg 14 (av [cE 4 1])))))) (av [bu 4]))) [.t 4] false none
def EG:F:=.mk (ah [bQ 2] (av [aa 3 0,pS 4 Cn 3,dx 5 4,aa 6 5,aX false 14 6 [aa 7 0,cM 8 7,I.fa 9 (.t 8) 0 9,af 10 9 3,aj 11 10,cu 12 11,bE 13 .eql 12] 13,aa 2 14])) [.t 2] true none
def L6:F:=.mk (ah [bQ 2] (av [aa 3 0,cM 4 3,I.fa 5 (.t 4) 0 9,af 6 5 0,aj 7 6,I.bin 8 .neq (.t 7) (.k (.i .i64 (-1))),aa 2 8])) [.t 2] true none
def nx:F:=.mk (ah [bz 4 1 5,cg 6 cx] (bU [aa 7 2] 7 (ah [aa 8 0,af 9 4 0,aj 10 9,af 11 4 1,aj 12 11,yX 13 xL 8 10 12] (av [aa 14 0,pS 15 Qp 14,aP 6 15 13])) (eo [0,1,2,3,4,5,6,7,8,9,10,11,12,13,14,15,16,17,18] [aa 16 0,aa 17 0,cM 18 17,I.fa 19 (.t 18) 0 9,af 20 19 4,aj 21 20,fy 22 4 0,eY 23 22,fy 24 4 1,eY 25 24,fy 26 4 3,eY 27 26,I.build 28 zQ [(0,1,.t 23),(1,1,.t 25),(3,1,.t 27),(4,1,.k (.i .i64 (-1)))],iA 29 5 1 zQ 28,iE 30 21 29 5,cM 31 16,I.fa 32 (.t 31) 0 9,af 33 32 4,aP 33 30 1] (av [aa 34 0,cM 35 34,I.fa 36 (.t 35) 0 9,aM 37 36 9,I.build 38 cx [(0,9,.t 37),(9,1,fO)],aP 6 38 13])))) [.c 6 13 true] true none
def Hr:C :=mT [aa 16 6,aa 17 0,cu 18 17,bA 19 .lss 16 18] 19 .skip (aQ (.keep [0,5]) (.exit 0)) (aQ (.bV 1 (ah [aa 22 0,aa 23 6,dc 24 22 23 1,aj 25 24,aa 7 25] (ah [aa 26 1,aa 27 7,vL 28 26 27,dx 29 28] (dg 29 (ah [aa 30 0,aa 31 5,aa 32 7,dc 33 30 31 1,aP 33 32 1] (.cr [aa 34 5,bp 35 .add 34 1,aa 5 35])))))) (.cr [aa 20 6,bp 21 .add 20 1,aa 6 21]))
def L7:F:=.mk (ah [I.mv 4 (.k (.sl 1 true []))] (ah [aa 8 0,aa 9 1,nU 10 QW 8 9,aa 5 10] (bU [aa 11 5,I.bin 12 .eql (.t 11) (.k (.i .i64 (-1)))] 12 (av [aa 13 0,aa 4 13]) (aQ (ah [aa 14 5,bp 15 .add 14 1,aa 6 15] (.bV 0 (.loop [0,1,5,6] Hr))) (ah [aa 36 0,aa 37 5,gR 38 36 37 1,I.qp none (.t 38) 1 [.i .i64 0]] (av [aa 39 0,aa 40 5,mS 41 39 40 1,aa 4 41])))))) [.t 4] true none
def RA:F:=.mk (ah [bQ 3] (av [aa 4 0,af 5 1 0,aj 6 5,bA 7 .eql 4 6,aa 3 7])) [.t 3] false none
def j7:C :=mT [aa 3 0,cM 4 3,I.fa 5 (.t 4) 0 9,af 6 5 4,aj 7 6,cu 8 7,bE 9 .gtr 8] 9 .skip (aQ (.keep []) (.exit 0)) (.bV 1 (ah [aa 10 0,cM 11 10,I.fa 12 (.t 11) 0 9,af 13 12 4,aj 14 13,I.ji 15 (.t 14) k0 5,aM 16 15 5,cg 2 zQ,dU 2 16 5] (aQ (.bV 2 (mT [aa 18 0,pS 19 Cn 18,aa 17 19] 17 .skip (.cr [af 20 2 1,aj 21 20,bp 22 .eql 21 55,aa 23 22,aX false 27 23 [aa 24 0,pS 25 Eh 24,dx 26 25] 26,aa 17 27]) (dg 17 (aQ (.keep []) (.exit 0))))) (ah [aa 28 0,aa 29 0,cM 30 29,I.fa 31 (.t 30) 0 9,af 32 31 4,aj 33 32,I.sl 34 (.t 33) (some (cS 1)) none 5,cM 35 28,I.fa 36 (.t 35) 0 9,af 37 36 4,aP 37 34 1] (ah [aa 38 0,af 39 2 0,aj 40 39,af 41 2 1,aj 42 41,yX 43 xL 38 40 42] (.lX [] [0,1,2,3,4,5,6,7,8,9,10,11,12,13,14] [aa 44 0,aa 45 0,cM 46 45,af 47 46 9,aj 48 47,fy 49 2 0,eY 50 49,fy 51 2 1,eY 52 51,I.build 53 jP [(0,1,.t 50),(1,1,.t 52),(3,1,fO),(4,1,.k (.i .i64 (-1)))],iA 54 5 1 jP 53,iE 55 48 54 5,cM 56 44,af 57 56 9,aP 57 55 1]))))))
def AJ:F:=.mk (aQ .skip (aQ .skip (.bV 0 (.loop [0] j7)))) [] true none
def ny:F:=.mk (ah [cg 2 cx] (eo [0,1,2,3,4,5,6,7,8,9] [aa 3 0,cM 4 3,I.fa 5 (.t 4) 0 9,aM 6 5 9,aa 7 0,cM 8 7,af 9 8 9,aj 10 9,I.build 11 cx [(0,9,.t 6),(11,1,fO),(12,1,.t 10)],aP 2 11 13] .ret)) [.c 2 13 true] true none
def vQ:C :=ah [bA 19 .lss 18 17] (aQ (cT 19 .skip (aQ (.keep []) (.exit 0))) (aQ (.bV 1 (ah [aa 20 18,dc 21 16 18 5,aM 22 21 5,cg 6 zQ,aa 5 20,dU 6 22 5] (bU [aM 23 6 5,dP 24 Ek 23,dx 25 24] 25 (ah [cE 4 2] (aQ (.keep [4]) .ret)) (eo [0,1,2,3,4,5,6,7,8,9,10,11,12,13,14,15,16] [aa 26 0,bp 27 .eql 26 2,aa 28 27,aX false 31 28 [aa 29 5,bE 30 .gtr 29] 30,aa 32 31,aX false 42 32 [fy 33 6 3,eY 34 33,aa 35 1,aa 36 5,bp 37 .sub 36 1,dc 38 35 37 5,af 39 38 3,aj 40 39,bA 41 .gtr 34 40] 41] (dg 42 (ah [cE 4 9] (aQ (.keep [4]) .ret))))))) (.cr [bp 43 .add 18 1,aa 18 43])))
def y6:F:=.mk (ah [bu 4] (bU [aa 7 0,bp 8 .neq 7 1,aa 9 8,aX false 12 9 [aa 10 0,bp 11 .neq 10 2] 11] 12 (av [cE 4 8]) (bU [aa 13 1,cu 14 13,bp 15 .gtr 14 96] 15 (av [cE 4 4]) (aQ (ah [aa 16 1,cu 17 16,bu 18] (.bV 0 (.loop [0,1,16,17,18] vQ))) (av [bu 4]))))) [.t 4] false none
def EH:F:=.mk (ah [bz 3 0 4,bz 4 1 9,bQ 6] (ah [af 10 4 4,aj 11 10,aa 12 2,dc 13 11 12 5,aM 14 13 5,cg 7 zQ,dU 7 14 5] (bU [af 15 7 1,aj 16 15,bp 17 .neq 16 60,aa 18 17,aX true 22 18 [af 19 7 2,aj 20 19,bp 21 .lss 20 1] 21,aa 23 22,aX true 29 23 [af 24 7 2,aj 25 24,af 26 3 2,aj 27 26,bA 28 .gtr 25 27] 28,aa 30 29,aX true 34 30 [af 31 7 4,aj 32 31,I.bin 33 .neq (.t 32) (.k (.i .i64 (-1)))] 33] 34 (av [bQ 6]) (aQ (ah [af 36 4 4,aj 37 36,af 38 7 0,aj 39 38,cU 40 iQ 37 39,aa 35 40,bW 41 35 0,bW 42 35 1,aa 8 41,aa 9 42] (ah [aa 43 8,aa 44 2,bA 45 .neq 43 44] (dg 45 (av [bQ 6])))) (av [aa 46 2,bE 47 .gtr 46,aa 48 47,aX false 52 48 [af 49 3 3,aj 50 49,bE 51 .eql 50] 51,aa 53 52,aX true 59 53 [af 54 7 2,aj 55 54,af 56 4 1,aj 57 56,bA 58 .gtr 55 57] 58,aa 6 59]))))) [.t 6] false none
def AK:F:=.mk (ah [bz 3 0 4,bz 4 1 9,bz 5 2 5,bu 6] (bU [af 9 5 0,aj 10 9,bE 11 .lss 10,aa 12 11,aX true 16 12 [af 13 5 0,aj 14 13,bp 15 .geq 14 16] 15,aa 17 16,aX true 21 17 [af 18 5 3,aj 19 18,bE 20 .lss 19] 20,aa 22 21,aX true 26 22 [af 23 5 3,aj 24 23,bp 25 .gtr 24 9] 25,aa 27 26,aX true 31 27 [af 28 5 4,aj 29 28,bE 30 .lss 29] 30,aa 32 31,aX true 36 32 [af 33 5 4,aj 34 33,bp 35 .gtr 34 1099511627776] 35] 36 (av [cE 6 2]) (bU [af 37 5 1,aj 38 37,bp 39 .neq 38 60,aa 40 39,aX false 44 40 [af 41 5 1,aj 42 41,bp 43 .neq 42 61] 43,aa 45 44,aX false 49 45 [af 46 5 1,aj 47 46,bp 48 .neq 47 62] 48] 49 (av [cE 6 8]) (bU [af 50 5 2,aj 51 50,bp 52 .lss 51 1,aa 53 52,aX true 59 53 [af 54 5 2,aj 55 54,af 56 3 2,aj 57 56,bA 58 .gtr 55 57] 58] 59 (av [cE 6 2]) (aQ (ah [af 61 4 4,aj 62 61,af 63 5 0,aj 64 63,cU 65 iQ 62 64,aa 60 65,bW 66 60 0,bW 67 60 1,aa 7 66,aa 8 67] (ah [aa 68 8,aa 69 68,aX true 83 69 [af 70 5 1,aj 71 70,bp 72 .eql 71 62,aa 73 72,aX false 82 73 [af 74 4 1,aj 75 74,af 76 5 2,aj 77 76,bA 78 .add 75 77,af 79 3 2,aj 80 79,bA 81 .gtr 78 80] 81] 82] (dg 83 (av [cE 6 17])))) (av [bu 6])))))) [.t 6] false none
def L8:F:=.mk (ah [cg 2 cx] (bU [aj 4 0,af 5 1 2,aj 6 5,nU 7 KL 4 6] 7 (av [I.build 8 cx [(11,1,fO)],aP 2 8 13]) (ah [af 9 1 0,aj 10 9,af 11 1 1,aj 12 11,af 13 1 2,aj 14 13,af 15 1 3,aj 16 15,I.build 17 zQ [(0,1,.t 10),(1,1,.t 12),(2,1,.t 14),(3,1,.t 16),(4,1,.k (.i .i64 (-1)))],cg 3 zQ,dU 3 17 5] (eo [0,1,2,3,4,5,6,7,8,9,10,11,12,13,14] [aj 19 0,aj 20 0,cM 21 20,I.fa 22 (.t 21) 0 9,af 23 22 4,aj 24 23,gD 25 3 5,I.call (some 26) Qu [cS 1,.t 24,.t 25],aa 18 26,bW 27 18 0,bW 28 18 1,cM 29 19,I.fa 30 (.t 29) 0 9,af 31 30 4,aP 31 27 1] (av [I.build 32 cx [(9,1,fO)],aP 2 32 13]))))) [.c 2 13 true] false none
def EI:F:=.mk (ah [bQ 4] (bU [aa 5 1,aa 6 0,cM 7 6,I.fa 8 (.t 7) 0 9,af 9 8 1,aj 10 9,bA 11 .gtr 5 10,aa 12 11,aX true 27 12 [aa 13 0,cM 14 13,af 15 14 9,aj 16 15,dx 17 16,aa 18 17,aX false 26 18 [aa 19 0,cM 20 19,I.fa 21 (.t 20) 0 9,af 22 21 4,aj 23 22,cu 24 23,bE 25 .gtr 24] 25] 26] 27 (av [bQ 4]) (ah [aa 28 0,cM 29 28,I.fa 30 (.t 29) 0 9,af 31 30 1,aj 32 31,aa 33 1,bA 34 .sub 32 33,cM 35 28,I.fa 36 (.t 35) 0 9,af 37 36 1,aP 37 34 1] (av [gy 4])))) [.t 4] true none
def RB:C :=aQ (eo [0,1,2,3,4,5,6,7,8,9,10,11,12,13,14,15,16] [aa 25 0,bp 26 .eql 25 2,aa 27 26,aX false 30 27 [aa 28 9,bE 29 .gtr 28] 29,aa 31 30,aX false 41 31 [aa 32 1,aa 33 9,bp 34 .sub 33 1,dc 35 32 34 5,af 36 35 3,aj 37 36,fy 38 5 3,eY 39 38,bA 40 .lss 37 39] 40] (cT 41 .skip (aQ (.keep [1,5,9]) (.exit 0)))) (.bV 1 (.cr [aa 42 9,bp 43 .sub 42 1,aa 9 43]))
def L9:F:=.mk (ah [bz 5 2 5,I.mv 6 (.k (.sl 5 true [])),bu 7] (aQ (ah [aa 11 0,aa 12 1,cU 13 qv 11 12,aa 8 13] (ah [aa 14 8,bE 15 .neq 14] (dg 15 (av [aa 16 8,I.mv 6 (.k (.sl 5 true [])),aa 7 16])))) (bU [aM 17 5 5,dP 18 Ek 17,dx 19 18] 19 (av [I.mv 6 (.k (.sl 5 true [])),cE 7 2]) (bU [aa 20 1,cu 21 20,bp 22 .eql 21 96] 22 (av [I.mv 6 (.k (.sl 5 true [])),cE 7 4]) (ah [aa 23 1,cu 24 23,aa 9 24] (aQ (.bV 0 (.loop [0,1,5,9] RB)) (ah [aa 44 1,cu 45 44,bp 46 .add 45 1,I.vF 47 5 zQ k0 (.t 46),aa 10 47] (ah [aa 48 10,aa 49 1,aa 50 9,mS 51 49 50 5,iE 52 48 51 5,aa 10 52] (ah [aa 53 10,aM 54 5 5,iA 55 5 1 zQ 54,iE 56 53 55 5,aa 10 56] (av [aa 57 10,aa 58 1,aa 59 9,gR 60 58 59 5,iE 61 57 60 5,aa 6 61,bu 7])))))))))) [.t 6,.t 7] false none
def RC:F:=.mk (ah [cg 2 cx] (av [aj 3 0,af 4 1 2,aj 5 4,nU 6 KL 3 5,I.build 7 cx [(11,1,.t 6)],aP 2 7 13])) [.c 2 13 true] false none
def Ma:F:=.mk (ah [cg 2 cx] (eo [0,1,2,3,4,5,6,7,8,9,10,11] [aj 3 0,cM 4 3,I.fa 5 (.t 4) 0 9,af 6 5 1,aj 7 6,af 8 1 2,aj 9 8,bA 10 .add 7 9,cM 11 3,I.fa 12 (.t 11) 0 9,af 13 12 1,aP 13 10 1] (av [aj 14 0,pS 15 KM 14,I.build 16 cx [(11,1,fO),(12,1,.t 15)],aP 2 16 13]))) [.c 2 13 true] false none
def Ht:C :=ah [bA 41 .lss 40 39] (aQ (cT 41 .skip (aQ (.keep [6]) (.exit 0))) (aQ (.bV 1 (ah [dc 42 38 40 5,aM 43 42 5,cg 8 zQ,dU 8 43 5] (.cr [aa 44 6,af 45 8 0,aj 46 45,af 47 8 1,aj 48 47,I.build 49 jP [(0,1,.t 46),(1,1,.t 48),(3,1,fO),(4,1,.k (.i .i64 (-1)))],iA 50 5 1 jP 49,iE 51 44 50 5,aa 6 51]))) (.cr [bp 52 .add 40 1,aa 40 52])))
def Mb:F:=.mk (ah [I.mv 2 (.k (.sl 5 true []))] (eo [0,1,2,3,4,5,6,7,8,9,10,11,12,13,14,15,16,17,18,19,20,21] [aa 10 0,cM 11 10,I.fa 12 (.t 11) 0 9,af 13 12 4,aj 14 13,aa 15 0,cM 16 15,I.fa 17 (.t 16) 0 9,af 18 17 1,aj 19 18,aa 20 0,cM 21 20,af 22 21 9,aj 23 22,mB 24 QX 14 19 23,aa 9 24,bW 25 9 0,bW 26 9 1,bW 27 9 2,aa 3 25,aa 4 26,aa 5 27] (ah [aa 28 0,aa 29 0,aa 30 4,aa 31 5,cM 32 28,I.fa 33 (.t 32) 0 9,af 34 33 4,aP 34 30 1,cM 35 29,I.fa 36 (.t 35) 0 9,af 37 36 1,aP 37 31 1] (ah [I.mv 6 (.k (.sl 5 true []))] (aQ (ah [aa 38 3,cu 39 38,bu 40] (.bV 0 (.loop [6,38,39,40] Ht))) (av [aa 53 6,aa 2 53])))))) [.t 2] true none
def Hu:C :=ah [bA 12 .lss 11 10] (aQ (cT 12 .skip (aQ (.keep [4]) (.exit 0))) (aQ (.bV 1 (ah [aa 13 11,dc 14 9 11 5,aM 15 14 5,cg 6 zQ,aa 5 13,dU 6 15 5] (mT [af 16 6 0,aj 17 16,bE 18 .geq 17,aa 19 18,aX false 23 19 [af 20 6 0,aj 21 20,bp 22 .lss 21 16] 22] 23 (bU [af 24 6 0,aj 25 24,I.oB 26 (.t 3) (.t 25) 16 1,aj 27 26] 27 (aQ (.keep [0,3,4,9,10,11]) (.exit 1)) (.cr [af 28 6 0,aj 29 28,I.oB 30 (.t 3) (.t 29) 16 1,I.st (.t 30) fO 1 false])) (ah [aa 32 0,af 33 6 0,aj 34 33,cU 35 iQ 32 34,aa 31 35,bW 36 31 0,bW 37 31 1,aa 7 36,aa 8 37] (ah [aa 38 7,aa 39 5,bA 40 .lss 38 39] (dg 40 (aQ (.keep [0,3,4,9,10,11]) (.exit 1))))) (.cr [aa 41 4,af 42 6 0,aj 43 42,iA 44 1 1 [.i .i64 0] 43,iE 45 41 44 1,aa 4 45])))) (.cr [bp 46 .add 11 1,aa 11 46])))
def Mc:F:=.mk (ah [I.mv 2 (.k (.sl 1 true []))] (ah [cg 3 [.b false,.b false,.b false,.b false,.b false,.b false,.b false,.b false,.b false,.b false,.b false,.b false,.b false,.b false,.b false,.b false]] (ah [I.mv 4 (.k (.sl 1 true []))] (aQ (ah [aa 9 0,cu 10 9,bu 11] (.bV 0 (.loop [0,3,4,9,10,11] Hu))) (av [aa 47 4,aa 2 47]))))) [.t 2] false none
def RD:F:=.mk (ah [I.mv 0 (.k (.sl 2 true []))] (av [I.build 1 [.cN,.i .i64 0] [(0,1,.k (.fn K5 [] [])),(1,1,cS 8)],I.build 2 [.cN,.i .i64 0] [(0,1,.k (.fn K6 [] [])),(1,1,cS 2)],I.build 3 [.cN,.i .i64 0] [(0,1,.k (.fn K7 [] [])),(1,1,cS 2)],I.build 4 [.cN,.i .i64 0] [(0,1,.k (.fn K8 [] [])),(1,1,cS 17)],I.lf 5 2 4 [.cN,.i .i64 0] [(0,.t 1),(1,.t 2),(2,.t 3),(3,.t 4)] true,aa 0 5])) [.t 0] false none
def qw:F:=.mk (ah [I.mv 2 (.k (.sl 5 true []))] (bU [aa 3 0,I.qo 4 false (.t 3) .sl] 4 (av [I.mv 2 (.k (.sl 5 true []))]) (av [I.lf 5 5 0 zQ [] false,aa 6 0,iE 7 5 6 5,aa 2 7]))) [.t 2] true none
def Md:F:=⟨qw.code,qw.res,false,none⟩
def RE:F:=.mk (ah [bz 1 0 1,I.mv 2 (.k .cN)] (av [I.gY 3 K9 [] [.t 1],aa 2 3])) [.t 2] true none
def RF:F:=.mk (ah [bz 2 0 9,bQ 4] (ah [af 8 2 4,aj 9 8,aa 10 1,cU 11 iQ 9 10,aa 7 11,bW 12 7 0,bW 13 7 1,aa 5 12,aa 6 13] (av [aa 14 6,aa 4 14]))) [.t 4] false none
def EJ:C :=ah [bA 55 .lss 54 53] (aQ (cT 55 .skip (aQ (.keep [2,3]) (.exit 0))) (aQ (.bV 1 (ah [aa 56 54,aa 5 56] (ah [af 57 3 4,aj 58 57,aa 59 5,cU 60 QZ 58 59,dx 61 60] (dg 61 (ah [bQ 4] (aQ (.keep [4]) .ret)))))) (.cr [bp 62 .add 54 1,aa 54 62])))
def vR:F:=.mk (ah [bz 2 0 4,bz 3 1 9,bQ 4] (bU [af 6 3 0,aj 7 6,I.bin 8 .neq (.t 7) (.k (.i .i64 (-1))),aa 9 8,aX true 13 9 [af 10 3 1,aj 11 10,bE 12 .neq 11] 12,aa 14 13,aX true 18 14 [af 15 3 2,aj 16 15,bE 17 .neq 16] 17,aa 19 18,aX true 23 19 [af 20 3 8,aj 21 20,bE 22 .neq 21] 22,aa 24 23,aX true 33 24 [af 25 3 3,aj 26 25,cu 27 26,af 28 3 6,aj 29 28,cu 30 29,bA 31 .add 27 30,bE 32 .gtr 31] 32,aa 34 33,aX true 41 34 [af 35 3 5,aj 36 35,cu 37 36,af 38 2 2,aj 39 38,bA 40 .gtr 37 39] 40] 41 (av [bQ 4]) (bU [af 42 3 5,aj 43 42,I.call (some 44) QY [.t 43,.k (.fn G5 [] [])],aa 45 44,aX true 50 45 [af 46 3 4,aj 47 46,I.call (some 48) qv [cS 1,.t 47],bE 49 .neq 48] 49] 50 (av [bQ 4]) (aQ (ah [af 51 3 4,aj 52 51,cu 53 52,bu 54] (.bV 0 (.loop [2,3,53,54] EJ))) (av [af 63 3 7,aj 64 63,dx 65 64,aa 66 65,aX true 71 66 [af 67 3 4,aj 68 67,cu 69 68,bE 70 .eql 69] 70,aa 72 71,aX false 77 72 [aM 73 2 4,aM 74 3 9,cU 75 La 73 74,dx 76 75] 76,aa 4 77]))))) [.t 4] false none
def RG:F:=.mk (ah [bQ 2] (av [aa 3 0,bE 4 .geq 3,aa 5 4,aX false 8 5 [aa 6 0,bp 7 .lss 6 16] 7,aa 2 8])) [.t 2] false none
def RH:F:=.mk (ah [bQ 2] (av [aa 3 0,bE 4 .geq 3,aa 5 4,aX false 8 5 [aa 6 0,bp 7 .leq 6 9] 7,aa 2 8])) [.t 2] false none
def RI:F:=.mk (ah [I.mv 0 (.k .uu)] (av [I.mw 1,I.fA (.t 1) (cS 64) (.k (.fn AE [] [])) [.i],I.fA (.t 1) (cS 65) (.k (.fn sw [] [])) [.i],I.fA (.t 1) (cS 66) (.k (.fn Co [] [])) [.i],aa 2 1,aa 0 2])) [.t 0] true none
def Me:F:=.mk (ah [bQ 2] (av [aa 3 0,I.bin 4 .geq (.t 3) (.k (.i .i64 (-1099511627776))),aa 5 4,aX false 8 5 [aa 6 0,bp 7 .leq 6 1099511627776] 7,aa 2 8])) [.t 2] false none
def EK:F:=.mk (ah [iz 2 0 4,iz 3 1 9,I.mv 4 (.k .nil)] (eo [0,1,3,4,2,6,5,7,8,9] [af 5 3 5,aj 6 5,af 8 3 4,aj 9 8,lC 7 tw 6,.re (.fa 8 (.t 3) 4 1),.re (.ld 9 (.t 8) 1 false),af 11 3 5,lC 10 sv 9,.re (.fa 11 (.t 3) 5 1),aP 11 7 1,af 12 3 4,aP 12 10 1] (av [af 13 2 2,aj 14 13,aM 15 3 9,I.build 16 [.i .i64 0,.i .i64 0,.i .i64 0,.i .i64 0,.sl 1 true [],.sl 5 true [],.sl 1 true [],.sl 2 true [],.b false,.i .i64 0,.sl 5 true []] [(0,1,.t 14),(1,9,.t 15)],iz 17 16 11,aa 4 17]))) [.t 4] true none
def Mf:C :=ah [bA 50 .lss 49 48] (aQ (cT 50 .skip (aQ (.keep [0,1,9,10,11]) (.exit 2))) (aQ (.bV 3 (ah [dc 51 47 49 1,aj 52 51,aa 8 52] (ah [aa 53 8,dP 54 Lb 53,dx 55 54] (dg 55 (ah [bQ 4] (aQ (.keep [4]) .ret)))))) (.cr [bp 56 .add 49 1,aa 49 56])))
def Mg:C :=ah [bA 12 .lss 11 10] (aQ (cT 12 .skip (aQ (.keep []) (.exit 0))) (aQ (.bV 1 (ah [aa 13 11,dc 14 9 11 2,aM 15 14 2,cg 6 [.i .i64 0,.sl 1 true []],aa 5 13,dU 6 15 2] (aQ (eo [0,1,2,3,4,5,6,7,8,9,10,11,12,13,14,15,16,17,18,19,20,21,22,23,24,25,26,27,28,29] [fy 16 6 0,eY 17 16,bE 18 .lss 17,aa 19 18,aX true 23 19 [fy 20 6 0,eY 21 20,bp 22 .geq 21 16] 22,aa 24 23,aX true 38 24 [aa 25 5,bE 26 .gtr 25,aa 27 26,aX false 37 27 [aa 28 1,aa 29 5,bp 30 .sub 29 1,dc 31 28 30 2,af 32 31 0,aj 33 32,fy 34 6 0,eY 35 34,bA 36 .geq 33 35] 36] 37,aa 39 38,aX true 45 39 [fy 40 6 1,eY 41 40,cu 42 41,aa 43 0,bA 44 .gtr 42 43] 44] (dg 45 (ah [bQ 4] (aQ (.keep [4]) .ret)))) (ah [af 46 6 1,aj 47 46,cu 48 47,bu 49] (.bV 2 (.loop [0,1,9,10,11,47,48,49] Mf)))))) (.cr [bp 57 .add 11 1,aa 11 57])))
def RJ:F:=.mk (ah [bQ 4] (aQ (ah [aa 9 1,cu 10 9,bu 11] (.bV 0 (.loop [0,1,9,10,11] Mg))) (av [gy 4]))) [.t 4] false none
def Mh:C :=ah [bA 18 .lss 17 16] (aQ (cT 18 .skip (aQ (.keep []) (.exit 0))) (aQ (.bV 1 (ah [aa 19 17,dc 20 15 17 5,aM 21 20 5,cg 6 zQ,aa 5 19,dU 6 21 5] (aQ (ah [af 23 3 4,aj 24 23,af 25 6 0,aj 26 25,cU 27 iQ 24 26,aa 22 27,bW 28 22 0,bW 29 22 1,aa 7 28,aa 8 29] (ah [aa 30 7,aa 31 5,bA 32 .neq 30 31,aa 33 32,aX true 37 33 [af 34 6 4,aj 35 34,I.bin 36 .neq (.t 35) (.k (.i .i64 (-1)))] 36] (dg 37 (ah [bQ 4] (aQ (.keep [4]) .ret))))) (ah [af 38 6 1,aj 39 38] (.bV 2 (ah [bp 41 .eql 39 70,aa 40 41] (cT 40 (ah [aM 42 3 9,af 43 6 0,aj 44 43,cU 45 yV 42 44,aa 9 45] (ah [aa 46 9,bE 47 .lss 46,aa 48 47,aX true 57 48 [af 49 3 6,aj 50 49,aa 51 9,dc 52 50 51 2,af 53 52 1,aj 54 53,cu 55 54,bE 56 .gtr 55] 56,aa 58 57,aX true 62 58 [af 59 6 2,aj 60 59,bE 61 .neq 60] 61] (dg 62 (ah [bQ 4] (aQ (.keep [4]) .ret))))) (ah [bp 64 .eql 39 68,aa 63 64] (cT 63 (ah [aa 65 0,aM 66 3 9,cU 67 AD 65 66,dx 68 67] (dg 68 (ah [bQ 4] (aQ (.keep [4]) .ret)))) (ah [bQ 4] (aQ (.keep [4]) .ret))))))))))) (.cr [bp 69 .add 17 1,aa 17 69])))
def Mi:F:=.mk (ah [bz 3 1 9,bQ 4] (bU [af 10 3 4,aj 11 10,I.call (some 12) qv [cS 1,.t 11],bE 13 .neq 12] 13 (av [bQ 4]) (aQ (ah [af 14 3 4,aj 15 14,cu 16 15,bu 17] (.bV 0 (.loop [0,3,15,16,17] Mh))) (av [gy 4])))) [.t 4] false none
def vS:F:=.mk (ah [bz 2 0 9,bz 3 1 5,bu 4] (bU [af 8 3 0,aj 9 8,bE 10 .lss 9,aa 11 10,aX true 15 11 [af 12 3 0,aj 13 12,bp 14 .geq 13 16] 14,aa 16 15,aX true 20 16 [af 17 3 3,aj 18 17,bE 19 .lss 18] 19,aa 21 20,aX true 25 21 [af 22 3 3,aj 23 22,bp 24 .gtr 23 9] 24,aa 26 25,aX true 30 26 [af 27 3 4,aj 28 27,bE 29 .lss 28] 29,aa 31 30,aX true 35 31 [af 32 3 4,aj 33 32,bp 34 .gtr 33 1099511627776] 34] 35 (av [cE 4 2]) (aQ (ah [af 36 3 1,aj 37 36] (.bV 0 (mT [bp 39 .eql 37 68,aa 38 39] 38 .skip (ah [bp 40 .eql 37 69,aa 38 40] (cT 38 .skip (ah [bp 41 .eql 37 70,aa 38 41] (cT 38 .skip (.cr [bp 42 .eql 37 71,aa 38 42]))))) (cT 38 .skip (av [cE 4 8]))))) (bU [af 43 3 1,aj 44 43,bp 45 .eql 44 68,aa 46 45,aX false 51 46 [af 47 3 2,aj 48 47,dP 49 Lb 48,dx 50 49] 50] 51 (av [cE 4 2]) (aQ (ah [af 53 2 4,aj 54 53,af 55 3 0,aj 56 55,cU 57 iQ 54 56,aa 52 57,bW 58 52 0,bW 59 52 1,aa 5 58,aa 6 59] (ah [aa 60 6] (dg 60 (av [cE 4 17])))) (ah [aM 61 2 9,af 62 3 0,aj 63 62,cU 64 yV 61 63,bE 65 .geq 64,aa 7 65] (bU [af 66 3 1,aj 67 66,bp 68 .eql 67 69,aa 69 68,aX false 71 69 [aa 70 7] 70] 71 (av [cE 4 6]) (bU [af 72 3 1,aj 73 72,bp 74 .eql 73 71,aa 75 74,aX true 79 75 [af 76 3 1,aj 77 76,bp 78 .eql 77 70] 78,aa 80 79,aX false 83 80 [aa 81 7,dx 82 81] 82] 83 (av [cE 4 20]) (av [bu 4]))))))))) [.t 4] false none
def RK:F:=.mk (ah [iz 2 0 4,iz 3 1 9,I.mv 4 (.k .nil)] (ah [af 5 3 6,aj 6 5,lC 7 G6 6,af 8 3 6,aP 8 7 1] (ah [af 9 3 4,aj 10 9,lC 11 sv 10,af 12 3 4,aP 12 11 1] (av [af 13 2 2,aj 14 13,aM 15 3 9,I.build 16 [.i .i64 0,.i .i64 0,.i .i64 0,.i .i64 0,.sl 1 true [],.sl 5 true [],.sl 1 true [],.sl 2 true [],.b false,.i .i64 0,.sl 5 true []] [(0,1,.t 14),(1,9,.t 15)],iz 17 16 11,aa 4 17])))) [.t 4] true none
def RL:F:=.mk (ah [cg 2 cx] (ah [aj 3 0,af 4 1 0,aj 5 4,nU 6 QH 3 5] (av [I.build 7 cx [(11,1,fO)],aP 2 7 13]))) [.c 2 13 true] false none
def EL:C :=mT [aa 5 4,aa 6 0,cM 7 6,I.fa 8 (.t 7) 1 9,af 9 8 6,aj 10 9,cu 11 10,bA 12 .lss 5 11,aa 13 12,aX false 25 13 [aa 14 0,cM 15 14,I.fa 16 (.t 15) 1 9,af 17 16 6,aj 18 17,aa 19 4,dc 20 18 19 2,af 21 20 0,aj 22 21,aa 23 1,bA 24 .lss 22 23] 24] 25 .skip (aQ (.keep [0,1,4]) (.exit 0)) (.bV 1 (.cr [aa 26 4,bp 27 .add 26 1,aa 4 27]))
def Mj:F:=.mk (ah [bu 4] (aQ (.bV 0 (.loop [0,1,4] EL)) (.cr [aa 28 0,aa 29 0,cM 30 29,I.fa 31 (.t 30) 1 9,af 32 31 6,aj 33 32,aa 34 4,aa 35 1,I.build 36 [.i .i64 0,.sl 1 true []] [(0,1,.t 35)],iA 37 2 1 [.i .i64 0,.sl 1 true []] 36,yX 38 Q2 33 34 37,cM 39 28,I.fa 40 (.t 39) 1 9,af 41 40 6,aP 41 38 1]))) [] true none
def Mk:F:=.mk (ah [cg 2 cx] (eo [0,1,2,3,4,5,6,7] [aj 4 0,cM 5 4,I.fa 6 (.t 5) 1 9,aM 7 6 9,af 8 1 0,aj 9 8,I.calls (some 10) yV [.t 7,.t 9],aa 3 10] (eo [0,1,2,3,4,5,6,7,8,9,10,11,12,13] [aj 11 0,aj 12 0,cM 13 12,I.fa 14 (.t 13) 1 9,af 15 14 6,aj 16 15,aa 17 3,aa 18 3,bp 19 .add 18 1,yX 20 G2 16 17 19,.re (.ld 11 (.t 0) 1 false),cM 21 11,I.fa 22 (.t 21) 1 9,af 23 22 6,aP 23 20 1] (ah [aj 24 0,pS 25 Ei 24] (av [I.build 26 cx [(11,1,fO)],aP 2 26 13]))))) [.c 2 13 true] false none
def RM:F:=.mk (ah [bz 2 0 9,bz 3 1 1,bu 4] (av [af 5 2 6,aj 6 5,I.gY 7 Lc [] [.t 3],cU 8 Ef 6 7,aa 4 8])) [.t 4] false none
def EM:F:=.mk (ah [I.mv 6 (.k (.sl 2 true []))] (ah [aa 8 0,aa 9 1,aa 10 2,aa 11 0,cu 12 11,I.qW 13 (.t 8) (.t 9) (.t 10) (.t 12) 2] (bU [aa 14 1,aa 15 2,bA 16 .eql 14 15] 16 (av [aa 17 0,aa 6 17]) (ah [aa 18 0,cu 19 18,aa 7 19] (eo [0,1,2,3,4,5,6,7] [aa 20 0,aa 21 1,mS 22 20 21 2,aa 23 0,aa 24 2,gR 25 23 24 2,iE 26 22 25 2,aa 0 26] (ah [aa 27 0,aa 28 0,cu 29 28,aa 30 7,I.sl 31 (.t 27) (some (.t 29)) (some (.t 30)) 2,I.qp none (.t 31) 2 [.i .i64 0,.sl 1 true []]] (av [aa 32 0,aa 6 32]))))))) [.t 6] true none
def Hv:C :=.cr [cg 2 zQ,dU 2 5 5]
def Hw:C :=.bV 1 (ah [aj 6 1,aM 7 2 5,I.jd (some 8) G7 [.t 6,.t 7,k0]] (.cr [aj 9 1,af 10 2 2,aj 11 10,nU 12 KR 9 11]))
def xQ:F:=.mk (aQ (aQ (.xA 0 5) (.cr [bz 1 0 1])) (ah [aj 3 1,pS 4 Q3 3] (.bV 0 (.sn (.t 4) [1] [5] Hv Hw)))) [] true none
def uI:F:=.mk (ah [cg 2 cx] (ah [aj 4 0,cM 5 4,I.fa 6 (.t 5) 1 9,af 7 6 4,aj 8 7,I.calls (some 9) uD [.t 8,.k (.fn G3 [] [])],aa 3 9] (aQ (eo [0,1,2,3,4,5,6,7,8,9,10,11] [aa 10 3,aa 11 10,aX true 21 11 [aj 12 0,cM 13 12,af 14 13 0,aj 15 14,aj 16 0,cM 17 16,I.fa 18 (.t 17) 1 9,aM 19 18 9,I.calls (some 20) AD [.t 15,.t 19]] 20] (dg 21 (ah [aj 22 0,aM 23 1 5,af 24 1 2,aj 25 24,yX 26 KQ 22 23 25] (av [I.build 27 cx [(9,1,fO)],aP 2 27 13])))) (ah [aj 28 0,af 29 1 2,aj 30 29,nU 31 KR 28 30] (av [I.build 32 cx [(11,1,fO)],aP 2 32 13]))))) [.c 2 13 true] false none
def RN:F:=.mk (ah [bz 1 0 5,bQ 2] (av [af 3 1 1,aj 4 3,bp 5 .eql 4 68,aa 2 5])) [.t 2] false none
def RO:F:=.mk (ah [bz 2 0 1,bz 3 1 9,bQ 4] (av [af 5 3 6,aj 6 5,I.gY 7 Ld [] [.t 2,.t 3],cU 8 Q4 6 7,aa 4 8])) [.t 4] false none
def Ml:F:=.mk (ah [bz 4 1 5] (.lX [] [0,1,2,3,4,5,6,7,8,9,10,11,12,13,14,15,16,17,18,19] [aa 6 0,aa 7 0,cM 8 7,I.fa 9 (.t 8) 1 9,af 10 9 4,aj 11 10,fy 12 4 0,eY 13 12,fy 14 4 1,eY 15 14,aa 16 2,fy 17 4 3,eY 18 17,I.build 19 zQ [(0,1,.t 13),(1,1,.t 15),(2,1,.t 16),(3,1,.t 18),(4,1,.k (.i .i64 (-1)))],iA 20 5 1 zQ 19,I.sk 21 (.t 11) (.t 20) 5,cM 22 6,I.fa 23 (.t 22) 1 9,af 24 23 4,aP 24 21 1])) [] true none
def AL:C :=ah [bA 16 .lss 15 14] (aQ (cT 16 .skip (aQ (.keep [0,1]) (.exit 0))) (aQ (.bV 1 (ah [aa 17 15,aa 4 17] (ah [aa 18 0,cM 19 18,I.fa 20 (.t 19) 1 9,af 21 20 6,aj 22 21,aa 23 4,dc 24 22 23 2,aa 5 24] (eo [0,1,2,3,4,5,6,7,8,9] [aa 25 0,cM 26 25,I.fa 27 (.t 26) 1 9,aM 28 27 9,aa 29 5,cM 30 29,af 31 30 0,aj 32 31,I.calls (some 33) G8 [.t 28,.t 32,cS 70],dx 34 33] (dg 34 (.cr [aa 35 5,aa 36 5,cM 37 36,af 38 37 1,aj 39 38,lC 40 tw 39,aa 41 1,iA 42 1 1 [.i .i64 0] 41,I.sk 43 (.t 40) (.t 42) 1,cM 44 35,af 45 44 1,aP 45 43 1])))))) (.cr [bp 46 .add 15 1,aa 15 46])))
def AM:C :=ah [bA 54 .lss 53 52] (aQ (cT 54 .skip (aQ (.keep [0,6]) (.exit 2))) (aQ (.bV 3 (ah [dc 55 51 53 5,aM 56 55 5,cg 8 zQ,dU 8 56 5] (ah [af 57 8 1,aj 58 57,bp 59 .eql 58 70] (cT 59 (.cr [aa 60 0,aM 61 8 5,aa 62 1,yX 63 G7 60 61 62]) (.cr [aa 64 6,aM 65 8 5,iA 66 5 1 zQ 65,iE 67 64 66 5,aa 6 67]))))) (.cr [bp 68 .add 53 1,aa 53 68])))
def AN:F:=.mk (aQ (aQ (aQ (.xA 0 5) (.cr [aa 9 0,cM 10 9,I.fa 11 (.t 10) 1 9,af 12 11 6,aj 13 12,cu 14 13,bu 15])) (.bV 0 (.loop [0,1,14,15] AL))) (ah [I.mv 6 (.k (.sl 5 true []))] (aQ (ah [aa 47 0,cM 48 47,I.fa 49 (.t 48) 1 9,af 50 49 4,aj 51 50,cu 52 51,bu 53] (.bV 2 (.loop [0,1,6,51,52,53] AM))) (aQ (.oC [6]) (.cr [aa 69 0,aa 70 6,cM 71 69,I.fa 72 (.t 71) 1 9,af 73 72 4,aP 73 70 1]))))) [] true none
def Hx:F:=.mk (ah [cg 2 cx] (av [aj 3 0,aM 4 1 5,nU 5 KT 3 4,aP 2 5 13])) [.c 2 13 true] false none
def EN:F:=.mk (ah [bz 3 1 5,cg 4 cx] (eo [0,1,2,3,4,5,6,7,8,9,10,11,12,13] [aa 9 0,cM 10 9,I.fa 11 (.t 10) 1 9,af 12 11 6,aj 13 12,aa 14 0,cM 15 14,I.fa 16 (.t 15) 1 9,aM 17 16 9,fy 18 3 0,eY 19 18,I.calls (some 20) yV [.t 17,.t 19],dc 21 13 20 2,aa 5 21] (bU [aa 22 5,cM 23 22,af 24 23 1,aj 25 24,cu 26 25,bE 27 .gtr 26] 27 (ah [aa 28 5,cM 29 28,af 30 29 1,aj 31 30,I.ji 32 (.t 31) k0 1,aj 33 32,aa 6 33] (ah [aa 34 5,aa 35 5,cM 36 35,af 37 36 1,aj 38 37,I.sl 39 (.t 38) (some (cS 1)) none 1,dP 40 QT 39,cM 41 34,af 42 41 1,aP 42 40 1] (ah [aa 43 0,pS 44 Ei 43] (av [aa 45 6,I.build 46 cx [(10,1,.t 45),(11,1,fO)],aP 4 46 13])))) (ah [aa 47 0,aM 48 3 5,I.jd (some 49) KQ [.t 47,.t 48,k0]] (ah [aa 50 0,pS 51 Ei 50] (ah [aa 52 0,cM 53 52,af 54 53 10,aj 55 54,I.gY 56 G9 [] [.t 3],I.calls (some 57) Lf [.t 55,.t 56],aa 7 57] (bU [aa 58 7,bE 59 .lss 58] 59 (av [I.build 60 cx [(9,1,fO)],aP 4 60 13]) (ah [aa 61 0,cM 62 61,af 63 62 10,aj 64 63,aa 65 7,dc 66 64 65 5,af 67 66 2,aj 68 67,aa 8 68] (ah [aa 69 0,aa 70 0,cM 71 70,af 72 71 10,aj 73 72,aa 74 7,aa 75 7,bp 76 .add 75 1,I.nq 77 Q5 [.t 73,.t 74,.t 76],cM 78 69,af 79 78 10,aP 79 77 1] (av [aa 80 8,I.build 81 cx [(10,1,.t 80),(11,1,fO)],aP 4 81 13])))))))))) [.c 4 13 true] true none
def AO:F:=.mk (ah [bz 3 0 4,bz 4 1 9,bz 5 2 5,bu 6] (aQ (ah [aM 8 3 4,aM 9 4 9,cU 10 nT 8 9,aa 7 10] (ah [aa 11 7,bE 12 .neq 11] (dg 12 (av [aa 13 7,aa 6 13])))) (bU [af 14 5 1,aj 15 14,bp 16 .neq 15 72,aa 17 16,aX false 21 17 [af 18 5 1,aj 19 18,bp 20 .neq 19 75] 20] 21 (av [cE 6 8]) (bU [af 22 5 4,aj 23 22,af 24 4 2,aj 25 24,bA 26 .lss 23 25,aa 27 26,aX true 31 27 [af 28 5 4,aj 29 28,bp 30 .gtr 29 1099511627776] 30] 31 (av [cE 6 2]) (bU [af 32 5 1,aj 33 32,bp 34 .eql 33 75] 34 (av [bu 6]) (bU [af 35 5 0,aj 36 35,bE 37 .lss 36,aa 38 37,aX true 42 38 [af 39 5 0,aj 40 39,bp 41 .geq 40 16] 41,aa 43 42,aX true 47 43 [af 44 5 3,aj 45 44,bE 46 .lss 45] 46,aa 48 47,aX true 52 48 [af 49 5 3,aj 50 49,bp 51 .gtr 50 9] 51,aa 53 52,aX true 57 53 [af 54 5 2,aj 55 54,bp 56 .lss 55 1] 56,aa 58 57,aX true 64 58 [af 59 5 2,aj 60 59,af 61 3 2,aj 62 61,bA 63 .gtr 60 62] 63] 64 (av [cE 6 2]) (bU [aM 65 4 9,af 66 5 0,aj 67 66,cU 68 KV 65 67] 68 (av [cE 6 17]) (av [bu 6])))))))) [.t 6] false none
def Mm:F:=.mk (ah [bz 2 0 13,cg 4 zR] (ah [I.fa 7 (.t 2) 4 9,aM 8 7 9,cg 5 zR,aP 5 8 9] (ah [aa 9 1,af 10 5 2,aj 11 10,bA 12 .sub 9 11,I.fa 13 (.t 2) 0 4,af 14 13 3,aj 15 14,bA 16 .quo 12 15,aa 6 16] (bU [af 17 5 1,aj 18 17,aa 19 6,bA 20 .add 18 19,I.fa 21 (.t 2) 0 4,af 22 21 2,aj 23 22,bA 24 .geq 20 23] 24 (ah [I.fa 25 (.t 2) 0 4,af 26 25 2,aj 27 26,aa 28 1,af 29 5 1,aP 29 27 1,af 30 5 2,aP 30 28 1] (av [aM 31 5 9,aP 4 31 9])) (ah [af 32 5 1,aj 33 32,aa 34 6,bA 35 .add 33 34,af 36 5 1,aP 36 35 1] (ah [af 37 5 2,aj 38 37,aa 39 6,I.fa 40 (.t 2) 0 4,af 41 40 3,aj 42 41,bA 43 .mul 39 42,bA 44 .add 38 43,af 45 5 2,aP 45 44 1] (av [aM 46 5 9,aP 4 46 9]))))))) [.c 4 9 true] false none
def RP:F:=.mk (ah [iz 1 0 9,I.mv 2 (.k .cN)] (av [I.gY 3 Lg [] [.t 1],aa 2 3])) [.t 2] true none
def RQ:F:=.mk (ah [bz 2 0 9,bQ 4] (ah [af 8 2 4,aj 9 8,aa 10 1,cU 11 iQ 9 10,aa 7 11,bW 12 7 0,bW 13 7 1,aa 5 12,aa 6 13] (av [aa 14 6,aa 4 14]))) [.t 4] false none
def y7:F:=.mk (ah [bz 1 0 9,bQ 2] (bU [aM 3 1 9,dP 4 Lh 3,dx 5 4,aa 6 5,aX true 12 6 [I.fa 7 (.t 1) 0 9,af 8 7 8,aj 9 8,dP 10 KX 9,dx 11 10] 11,aa 13 12,aX true 17 13 [aM 14 1 9,dP 15 Li 14,dx 16 15] 16] 17 (av [bQ 2]) (bU [I.fa 18 (.t 1) 0 9,af 19 18 7,aj 20 19] 20 (av [I.fa 21 (.t 1) 0 9,af 22 21 4,aj 23 22,cu 24 23,bE 25 .eql 24,aa 2 25]) (av [I.fa 26 (.t 1) 0 9,af 27 26 8,aj 28 27,bE 29 .eql 28,aa 2 29])))) [.t 2] false none
def RS:F:=.mk (ah [bQ 2] (av [aa 3 0,I.bin 4 .geq (.t 3) (.k (.i .i64 (-1099511627776))),aa 5 4,aX false 8 5 [aa 6 0,bp 7 .leq 6 1099511627776] 7,aa 2 8])) [.t 2] false none
def RT:F:=.mk (ah [bz 2 0 9,bQ 4] (ah [I.fa 8 (.t 2) 0 9,af 9 8 4,aj 10 9,aa 11 1,cU 12 iQ 10 11,aa 7 12,bW 13 7 0,bW 14 7 1,aa 5 13,aa 6 14] (av [aa 15 6,aa 4 15]))) [.t 4] false none
def Mn:C :=ah [bA 13 .lss 12 11] (aQ (cT 13 .skip (aQ (.keep [1,2,4,5]) (.exit 0))) (aQ (.bV 1 (ah [dc 14 10 12 5,aM 15 14 5,cg 7 zQ,dU 7 15 5] (.cr [aa 16 5,af 17 7 0,aj 18 17,af 19 7 1,aj 20 19,aa 21 1,I.build 22 jP [(0,1,.t 18),(1,1,.t 20),(2,1,.t 21),(3,1,fO),(4,1,.k (.i .i64 (-1)))],iA 23 5 1 jP 22,iE 24 16 23 5,aa 5 24]))) (.cr [bp 25 .add 12 1,aa 12 25])))
def Mo:F:=.mk (ah [iz 2 0 9,cg 4 cx] (ah [I.mv 5 (.k (.sl 5 true []))] (aQ (ah [I.fa 8 (.t 2) 0 9,af 9 8 4,aj 10 9,cu 11 10,bu 12] (.bV 0 (.loop [1,2,4,5,10,11,12] Mn))) (ah [aa 26 1,I.fa 27 (.t 2) 0 9,af 28 27 7,I.st (.t 28) fO 1 false,I.fa 29 (.t 2) 0 9,af 30 29 8,aP 30 26 1,I.fa 31 (.t 2) 0 9,af 32 31 4,I.st (.t 32) (.k (.sl 5 true [])) 1 false] (av [I.fa 33 (.t 2) 0 9,aM 34 33 9,aa 35 5,I.build 36 cx [(0,9,.t 34),(11,1,fO),(12,1,.t 35)],aP 4 36 13]))))) [.c 4 13 true] false none
def Hy:F:=.mk (ah [iz 2 0 9,bz 3 1 5,cg 4 cx] (bU [I.fa 5 (.t 2) 0 9,af 6 5 7,aj 7 6] 7 (av [I.fa 8 (.t 2) 0 9,aM 9 8 9,I.fa 10 (.t 2) 0 9,af 11 10 8,aj 12 11,I.build 13 cx [(0,9,.t 9),(10,1,.t 12),(11,1,fO)],aP 4 13 13]) (eo [0,1,2,4,5,6,7,8,9,3,10,11,12,13] [I.fa 14 (.t 2) 0 9,af 15 14 4,aj 16 15,fy 18 3 0,eY 19 18,fy 20 3 3,eY 21 20,I.build 22 zQ [(0,1,.t 19),(1,1,cS 74),(3,1,.t 21),(4,1,.k (.i .i64 (-1)))],iA 23 5 1 zQ 22,lC 17 sv 16,iE 24 17 23 5,I.fa 25 (.t 2) 0 9,af 26 25 4,aP 26 24 1] (av [I.fa 27 (.t 2) 0 9,aM 28 27 9,I.build 29 cx [(0,9,.t 28),(9,1,fO)],aP 4 29 13])))) [.c 4 13 true] false none
def Mp:F:=.mk (ah [I.mv 4 (.k (.sl 10 true []))] (bU [aa 5 1,bE 6 .lss 5] 6 (.cr [I.bad (some 7),I.bad none]) (aQ (ah [aa 8 1,aa 9 0,I.cap 10 (.t 9),aa 11 0,cu 12 11,bA 13 .sub 10 12,bA 14 .sub 8 13,aa 1 14] (ah [aa 15 1,bE 16 .gtr 15] (dg 16 (.cr [aa 17 0,aa 18 0,I.cap 19 (.t 18),mS 20 17 19 10,aa 21 1,I.qX 22 (.t 20) (.t 21) 10 [.i .i64 0,.i .i64 0,.i .i64 0,.i .i64 0,.i .i64 0,.i .i64 0,.i .i64 0,.i .i64 0,.b false,.i .i64 0],aa 23 0,cu 24 23,mS 25 22 24 10,aa 0 25])))) (av [aa 26 0,aa 4 26])))) [.t 4] true none
def RU:F:=.mk (ah [bz 2 0 5,bQ 3] (av [af 4 2 0,aj 5 4,af 6 1 0,aj 7 6,bA 8 .eql 5 7,aa 3 8])) [.t 3] false none
def EO:F:=.mk (ah [iz 2 0 9,bz 3 1 5,cg 4 cx,bu 5] (aQ (ah [af 9 2 0,aj 10 9] (.bV 0 (ah [I.bin 12 .eql (.t 10) (.k (.i .i64 (-1))),aa 11 12] (cT 11 (ah [af 13 3 0,aj 14 13,af 15 2 0,aP 15 14 1] (av [aM 16 2 9,I.build 17 cx [(0,9,.t 16),(11,1,fO)],aP 4 17 13,bu 5])) (ah [af 19 3 0,aj 20 19,bA 21 .eql 10 20,aa 18 21] (dg 18 (av [dK 22 cx,aP 4 22 13,cE 5 17]))))))) (ah [af 24 2 4,aj 25 24,af 26 3 3,aj 27 26,I.call (some 28) Q6 [.t 25,.t 27,.k (.fn El [] [])],aa 23 28,bW 29 23 0,bW 30 23 1,aa 6 29,aa 7 30] (ah [af 31 3 0,aj 32 31,af 33 3 3,aj 34 33,I.build 35 zQ [(0,1,.t 32),(1,1,cS 50),(3,1,.t 34),(4,1,.k (.i .i64 (-1)))],cg 8 zQ,dU 8 35 5] (eo [0,1,3,4,5,2,6,7,8] [af 36 2 4,aj 37 36,aa 39 6,gD 40 8 5,iA 41 5 1 zQ 40,lC 38 sv 37,yX 42 Xv 38 39 41,af 43 2 4,aP 43 42 1] (av [aM 44 2 9,I.build 45 cx [(0,9,.t 44),(9,1,fO)],aP 4 45 13,bu 5])))))) [.c 4 13 true,.t 5] false none
def Mq:F:=.mk (ah [bz 2 0 9,bz 3 1 5,cg 4 cx,bu 5] (bU [af 6 2 0,aj 7 6,bE 8 .geq 7] 8 (av [aM 9 2 9,I.build 10 cx [(0,9,.t 9)],aP 4 10 13,bu 5]) (av [aM 11 2 9,aM 12 3 5,cU 13 G4 11 12,bW 14 13 0,bW 15 13 1,aP 4 14 13,aa 5 15]))) [.c 4 13 true,.t 5] false none
def Hz:F:=.mk (ah [iz 2 0 9,bz 3 1 5,cg 4 cx,bu 5] (bU [af 6 2 0,aj 7 6,af 8 3 0,aj 9 8,bA 10 .neq 7 9] 10 (av [dK 11 cx,aP 4 11 13,cE 5 20]) (bU [af 12 2 4,aj 13 12,cu 14 13,bE 15 .eql 14] 15 (ah [af 16 2 0,I.st (.t 16) (.k (.i .i64 (-1))) 1 false] (av [aM 17 2 9,I.build 18 cx [(0,9,.t 17),(11,1,fO)],aP 4 18 13,bu 5])) (ah [af 19 2 4,aj 20 19,I.ji 21 (.t 20) k0 5,af 22 21 0,aj 23 22,af 24 2 0,aP 24 23 1] (ah [af 25 2 4,aj 26 25,I.sl 27 (.t 26) (some (cS 1)) none 5,lC 28 sv 27,af 29 2 4,aP 29 28 1] (av [aM 30 2 9,af 31 2 0,aj 32 31,I.build 33 jP [(0,1,.t 32),(1,1,cS 50),(3,1,fO),(4,1,.k (.i .i64 (-1)))],iA 34 5 1 jP 33,I.build 35 cx [(0,9,.t 30),(11,1,fO),(12,1,.t 34)],aP 4 35 13,bu 5])))))) [.c 4 13 true,.t 5] false none
def RW:F:=.mk (ah [bz 2 0 5,bQ 3] (av [af 4 2 0,aj 5 4,aj 6 1,bA 7 .eql 5 6,aa 3 7])) [.t 3] false none
def Mr:C :=ah [bA 11 .lss 10 9] (aQ (cT 11 .skip (aQ (.keep [5]) (.exit 0))) (aQ (.bV 1 (ah [dc 12 8 10 5,aM 13 12 5,cg 7 zQ,dU 7 13 5] (ah [aa 14 1,aM 15 7 5,vL 16 14 15] (dg 16 (.cr [aa 17 5,aM 18 7 5,iA 19 5 1 zQ 18,iE 20 17 19 5,aa 5 20]))))) (.cr [bp 21 .add 10 1,aa 10 21])))
def Ms:F:=.mk (ah [I.mv 4 (.k (.sl 5 true []))] (ah [I.mv 5 (.k (.sl 5 true []))] (aQ (ah [aa 8 0,cu 9 8,bu 10] (.bV 0 (.loop [1,5,8,9,10] Mr))) (av [aa 22 5,aa 4 22])))) [.t 4] false none
def adn:C :=ah [bA 11 .lss 10 9] (aQ (cT 11 .skip (aQ (.keep [5]) (.exit 0))) (aQ (.bV 1 (ah [dc 12 8 10 5,aM 13 12 5,cg 7 zQ,dU 7 13 5] (ah [aa 14 1,aM 15 7 5,vL 16 14 15] (dg 16 (.cr [aa 17 5,aM 18 7 5,iA 19 5 1 zQ 18,iE 20 17 19 5,aa 5 20]))))) (.cr [bp 21 .add 10 1,aa 10 21])))
def ado:F:=.mk (ah [I.mv 4 (.k (.sl 5 true []))] (ah [I.mv 5 (.k (.sl 5 true []))] (aQ (ah [aa 8 0,cu 9 8,bu 10] (.bV 0 (.loop [1,5,8,9,10] adn))) (av [aa 22 5,aa 4 22])))) [.t 4] true none
def EP:C :=ah [bA 11 .lss 10 9] (aQ (cT 11 .skip (aQ (.keep [5]) (.exit 0))) (aQ (.bV 1 (ah [dc 12 8 10 5,aM 13 12 5,cg 7 zQ,dU 7 13 5] (ah [aa 14 1,aM 15 7 5,I.pI (some 16) (.t 14) [.t 15]] (dg 16 (.cr [aa 17 5,aM 18 7 5,iA 19 5 1 zQ 18,iE 20 17 19 5,aa 5 20]))))) (.cr [bp 21 .add 10 1,aa 10 21])))
def RX:F:=.mk (ah [I.mv 4 (.k (.sl 5 true []))] (ah [I.mv 5 (.k (.sl 5 true []))] (aQ (ah [aa 8 0,cu 9 8,bu 10] (.bV 0 (.loop [1,5,8,9,10] EP))) (av [aa 22 5,aa 4 22])))) [.t 4] true none
def RY:F:=.mk (ah [bz 2 0 5,bQ 3] (av [af 4 2 0,aj 5 4,aj 6 1,bA 7 .neq 5 6,aa 3 7])) [.t 3] false none
def ER:C :=ah [bA 16 .lss 15 14] (aQ (cT 16 .skip (aQ (.keep [1]) (.exit 0))) (aQ (.bV 1 (ah [aa 17 15,dc 18 13 15 5,aM 19 18 5,cg 4 zQ,aa 3 17,dU 4 19 5] (ah [af 21 1 4,aj 22 21,af 23 4 0,aj 24 23,cU 25 iQ 22 24,aa 20 25,bW 26 20 0,bW 27 20 1,aa 5 26,aa 6 27] (ah [aa 28 5,aa 29 3,bA 30 .neq 28 29,aa 31 30,aX true 40 31 [af 32 4 1,aj 33 32,bp 34 .neq 33 53,aa 35 34,aX false 39 35 [af 36 4 1,aj 37 36,bp 38 .neq 37 55] 38] 39,aa 41 40,aX true 45 41 [af 42 4 2,aj 43 42,bE 44 .neq 43] 44,aa 46 45,aX true 50 46 [af 47 4 4,aj 48 47,I.bin 49 .neq (.t 48) (.k (.i .i64 (-1)))] 49,aa 51 50,aX true 57 51 [aM 52 1 9,af 53 4 0,aj 54 53,cU 55 KJ 52 54,bE 56 .neq 55] 56] (dg 57 (ah [bQ 2] (aQ (.keep [2]) .ret))))))) (.cr [bp 58 .add 15 1,aa 15 58])))
def tB:F:=.mk (ah [bz 1 0 9,bQ 2] (bU [af 8 1 4,aj 9 8,I.call (some 10) qv [cS 1,.t 9],bE 11 .neq 10] 11 (av [bQ 2]) (aQ (ah [af 12 1 4,aj 13 12,cu 14 13,bu 15] (.bV 0 (.loop [1,13,14,15] ER))) (bU [af 59 1 4,aj 60 59,cu 61 60,bE 62 .eql 61] 62 (av [gy 2]) (ah [aM 63 1 9,lC 64 GY 63,aa 7 64] (ah [aa 65 7,pS 66 tv 65] (av [aa 67 7,cM 68 67,af 69 68 9,aj 70 69,cu 71 70,bE 72 .eql 71,aa 2 72]))))))) [.t 2] false none
def rA:F:=.mk (ah [I.mv 2 (.k (.sl 1 true []))] (bU [aa 3 0,I.qo 4 false (.t 3) .sl] 4 (av [I.mv 2 (.k (.sl 1 true []))]) (av [I.lf 5 1 0 [.i .i64 0] [] false,aa 6 0,iE 7 5 6 1,aa 2 7]))) [.t 2] true none
def Mt:F:=⟨rA.code,rA.res,false,none⟩
def RZ:F:=.mk (ah [bQ 4] (av [aa 5 0,aa 6 1,cU 7 Q8 5 6,bE 8 .geq 7,aa 4 8])) [.t 4] false none
def CC:F:=.mk (bU [aa 8 2,bp 9 .eql 8 55] 9 (av [aa 10 0,aa 11 1,cM 12 10,I.fa 13 (.t 12) 0 9,af 14 13 0,aP 14 11 1]) (ah [aa 16 0,cM 17 16,I.fa 18 (.t 17) 0 9,af 19 18 3,aj 20 19,aa 21 1,nU 22 Lj 20 21,aa 15 22,bW 23 15 0,bW 24 15 1,aa 6 23,aa 7 24] (.cr [aa 25 0,aa 26 0,cM 27 26,I.fa 28 (.t 27) 0 9,af 29 28 3,aj 30 29,aa 31 6,aa 32 1,iA 33 1 1 [.i .i64 0] 32,yX 34 Ra 30 31 33,cM 35 25,I.fa 36 (.t 35) 0 9,af 37 36 3,aP 37 34 1]))) [] true none
def Mu:C :=ah [bA 9 .lss 8 7] (aQ (cT 9 .skip (aQ (.keep []) (.exit 0))) (aQ (.bV 1 (ah [aa 10 8,aa 5 10] (ah [aa 11 1,aa 12 0,aa 13 5,dc 14 12 13 1,aj 15 14,vL 16 11 15] (dg 16 (ah [aa 17 5,aa 4 17] (aQ (.keep [4]) .ret)))))) (.cr [bp 18 .add 8 1,aa 8 18])))
def R0:F:=.mk (ah [bu 4] (aQ (ah [aa 6 0,cu 7 6,bu 8] (.bV 0 (.loop [0,1,7,8] Mu))) (av [I.mv 4 (.k (.i .i64 (-1)))]))) [.t 4] false none
def Mv:C :=ah [bA 9 .lss 8 7] (aQ (cT 9 .skip (aQ (.keep []) (.exit 0))) (aQ (.bV 1 (ah [aa 10 8,aa 5 10] (ah [aa 11 1,aa 12 0,aa 13 5,dc 14 12 13 1,aj 15 14,vL 16 11 15] (dg 16 (ah [aa 17 5,aa 4 17] (aQ (.keep [4]) .ret)))))) (.cr [bp 18 .add 8 1,aa 8 18])))
def R1:F:=.mk (ah [bu 4] (aQ (ah [aa 6 0,cu 7 6,bu 8] (.bV 0 (.loop [0,1,7,8] Mv))) (av [I.mv 4 (.k (.i .i64 (-1)))]))) [.t 4] true none
def HA:F:=.mk (ah [bz 1 0 5,bQ 2] (aQ (.bV 0 (ah [af 4 1 0,aj 5 4,bE 6 .lss 5,aa 7 6,aX true 11 7 [af 8 1 0,aj 9 8,bp 10 .geq 9 16] 10,aa 12 11,aX true 16 12 [af 13 1 1,aj 14 13,bp 15 .lss 14 1] 15,aa 17 16,aX true 21 17 [af 18 1 1,aj 19 18,bp 20 .gtr 19 99] 20,aa 22 21,aX true 26 22 [af 23 1 2,aj 24 23,I.bin 25 .lss (.t 24) (.k (.i .i64 (-1099511627776)))] 25,aa 27 26,aX true 31 27 [af 28 1 2,aj 29 28,bp 30 .gtr 29 1099511627776] 30,aa 3 31] (dg 3 (av [bQ 2])))) (av [af 32 1 3,aj 33 32,bE 34 .geq 33,aa 35 34,aX false 39 35 [af 36 1 3,aj 37 36,bp 38 .leq 37 9] 38,aa 40 39,aX false 44 40 [af 41 1 4,aj 42 41,I.bin 43 .geq (.t 42) (.k (.i .i64 (-1)))] 43,aa 45 44,aX false 49 45 [af 46 1 4,aj 47 46,bp 48 .lss 47 6] 48,aa 2 49]))) [.t 2] false none
def R2:F:=.mk (ah [bz 5 2 1,I.mv 6 (.k (.sl 5 true [])),I.mv 7 (.k (.sl 5 true [])),bu 8] (ah [aa 13 1,cg 9 [.i .i64 0],cg 10 [.b false],aP 9 13 1,I.st (.t 10) Hg 1 false] (ah [cg 11 [.sl 5 true []]] (ah [aa 14 0,I.gY 15 AG [] [.t 10,.t 9,.t 5,.t 11],nU 16 QS 14 15,aa 12 16] (eo [0,1,2,3,4,5] [aa 17 12,aj 18 11,aj 19 9,aa 6 17,aa 7 18,aa 8 19] .ret))))) [.t 6,.t 7,.t 8] false none
def R3:F:=.mk (ah [bz 2 0 9,bz 3 1 5,bQ 4] (av [af 5 3 1,aj 6 5,bp 7 .eql 6 63,aa 4 7])) [.t 4] false none
def R5:F:=.mk (ah [bz 2 0 9,bz 3 1 5,bQ 4] (av [af 5 3 0,aj 6 5,bE 7 .geq 6,aa 8 7,aX false 12 8 [af 9 3 0,aj 10 9,bp 11 .lss 10 16] 11,aa 4 12])) [.t 4] false none
def R6:F:=.mk (ah [bz 2 0 9,bz 3 1 5,bQ 4] (av [af 5 3 3,aj 6 5,bE 7 .geq 6,aa 8 7,aX false 12 8 [af 9 3 3,aj 10 9,bp 11 .leq 10 9] 11,aa 4 12])) [.t 4] false none
def R7:F:=.mk (ah [bz 2 0 9,bz 3 1 5,bQ 4] (av [aM 5 2 9,af 6 3 0,aj 7 6,cU 8 KN 5 7,dx 9 8,aa 4 9])) [.t 4] false none
def HB:C :=ah [bA 8 .lss 7 6] (aQ (cT 8 .skip (aQ (.keep []) (.exit 0))) (aQ (.bV 1 (ah [aa 9 7,dc 10 5 7 5,aM 11 10 5,cg 4 zQ,aa 3 9,dU 4 11 5] (ah [aa 12 0,aa 13 3,aM 14 4 5,I.pK (some 15) (.t 12) [.t 13,.t 14],dx 16 15] (dg 16 (aQ (.keep []) .ret))))) (.cr [bp 17 .add 7 1,aa 7 17])))
def Mw:F:=.mk (ah [aj 5 1,cu 6 5,bu 7] (.bV 0 (.loop [0,5,6,7] HB))) [] false none
def Mx:F:=.mk (ah [bQ 4] (av [aa 5 0,aa 6 1,cU 7 QV 5 6,bE 8 .geq 7,aa 4 8])) [.t 4] false none
def R8:F:=.mk (ah [bQ 2] (av [aa 3 0,dP 4 G0 3,dx 5 4,aa 2 5])) [.t 2] false none
def My:F:=.mk (ah [bQ 4] (ah [aa 6 0,aa 7 1,dc 8 6 7 5,aM 9 8 5,cg 5 zQ,dU 5 9 5] (bU [af 10 5 1,aj 11 10,bp 12 .neq 11 64,aa 13 12,aX false 22 13 [af 14 5 1,aj 15 14,bp 16 .neq 15 65,aa 17 16,aX true 21 17 [af 18 5 2,aj 19 18,bE 20 .neq 19] 20] 21] 22 (av [bQ 4]) (av [aa 23 0,aa 24 1,mS 25 23 24 5,I.gY 26 Ll [] [.t 5],cU 27 uD 25 26,dx 28 27,aa 4 28])))) [.t 4] false none
def Mz:F:=.mk (ah [bz 2 0 4,bz 3 1 9,bQ 4] (av [af 5 3 4,aj 6 5,I.gY 7 Lm [] [.t 3,.t 2],cU 8 uD 6 7,aa 4 8])) [.t 4] false none
def y8:F:=.mk (ah [bz 3 1 5,cg 4 cx] (av [aa 5 0,aM 6 3 5,nU 7 yW 5 6,aP 4 7 13])) [.c 4 13 true] false none
def uJ:F:=.mk (ah [bz 3 1 5,cg 4 cx] (aQ (ah [aa 8 0,I.jd (some 9) Em [.t 8,cS 65],aa 7 9,bW 10 7 0,bW 11 7 1,cg 5 zQ,dU 5 10 5,aa 6 11] (ah [aa 12 6] (dg 12 (ah [aa 13 0,aM 14 5 5,af 15 3 2,aj 16 15,I.jd (some 17) Cq [.t 13,.t 14,.t 16,fO]] (av [aa 18 0,I.jd (some 19) uE [.t 18,k0,fO],aP 4 19 13]))))) (aQ (eo [0,1,2,3,4,5,6,7,8,9,10] [aa 20 0,cM 21 20,I.fa 22 (.t 21) 1 9,af 23 22 5,aj 24 23,cu 25 24,aa 26 0,cM 27 26,af 28 27 0,aj 29 28,bA 30 .lss 25 29] (dg 30 (ah [aa 31 0,af 32 3 2,aj 33 32,nU 34 Cr 31 33] (av [aa 35 0,I.jd (some 36) uE [.t 35,k0,fO],aP 4 36 13])))) (av [aa 37 0,aM 38 3 5,nU 39 xM 37 38,aP 4 39 13])))) [.c 4 13 true] true none
def rB:F:=.mk (ah [bz 3 1 5,cg 4 cx] (av [aa 5 0,aM 6 3 5,nU 7 pQ 5 6,aP 4 7 13])) [.c 4 13 true] false none
def oH:F:=.mk (ah [bz 3 1 5,cg 4 cx] (ah [aa 9 0,I.jd (some 10) Em [.t 9,cS 64],aa 8 10,bW 11 8 0,bW 12 8 1,cg 5 zQ,dU 5 11 5,aa 6 12] (aQ (.bV 0 (ah [aa 14 0,cM 15 14,I.fa 16 (.t 15) 1 9,af 17 16 5,aj 18 17,cu 19 18,bE 20 .gtr 19,aa 13 20] (cT 13 (ah [aa 21 0,cM 22 21,I.fa 23 (.t 22) 1 9,af 24 23 5,aj 25 24,I.ji 26 (.t 25) k0 1,aj 27 26,aa 7 27] (ah [aa 28 0,aa 29 0,cM 30 29,I.fa 31 (.t 30) 1 9,af 32 31 5,aj 33 32,I.sle 34 (.t 33) (some (cS 1)) none 1,cM 35 28,I.fa 36 (.t 35) 1 9,af 37 36 5,aP 37 34 1] (bU [aa 38 6] 38 (ah [aa 39 0,af 40 5 2,aj 41 40,nU 42 Cr 39 41] (.cr [aa 43 0,aM 44 5 5,I.jd (some 45) Cq [.t 43,.t 44,k0,fO]])) (av [aa 46 0,aa 47 7,I.jd (some 48) uE [.t 46,.t 47,fO],aP 4 48 13])))) (ah [aa 50 6,aa 49 50] (cT 49 (ah [aa 51 0,aM 52 5 5,I.jd (some 53) Cq [.t 51,.t 52,k0,fO]] (av [aa 54 0,af 55 5 2,aj 56 55,I.jd (some 57) uE [.t 54,.t 56,fO],aP 4 57 13])) (ah [aa 59 0,cM 60 59,I.fa 61 (.t 60) 1 9,af 62 61 7,aj 63 62,aa 58 63] (dg 58 (av [aa 64 0,I.jd (some 65) uE [.t 64,k0,Hg],aP 4 65 13])))))))) (av [aa 66 0,aM 67 3 5,nU 68 xM 66 67,aP 4 68 13])))) [.c 4 13 true] true none
def ET:F:=.mk (ah [bz 3 1 5,cg 4 cx] (av [aa 5 0,aM 6 3 5,nU 7 AF 5 6,aP 4 7 13])) [.c 4 13 true] false none
def rC:C :=mT [aa 9 0,cM 10 9,I.fa 11 (.t 10) 1 9,af 12 11 4,aj 13 12,cu 14 13,bE 15 .gtr 14] 15 .skip (aQ (.keep [0,4]) (.exit 0)) (.bV 1 (.cr [aa 16 0,aa 17 0,cM 18 17,I.fa 19 (.t 18) 1 9,af 20 19 4,aj 21 20,I.ji 22 (.t 21) k0 5,aM 23 22 5,I.jd (some 24) Cq [.t 16,.t 23,k0,Hg]]))
def AP:F:=.mk (ah [bz 3 1 5,cg 4 cx] (ah [aa 5 0,cM 6 5,I.fa 7 (.t 6) 1 9,af 8 7 7,I.st (.t 8) fO 1 false] (aQ (.bV 0 (.loop [0,4] rC)) (av [aa 25 0,I.jd (some 26) uE [.t 25,k0,fO],aP 4 26 13])))) [.c 4 13 true] true none
def R9:F:=.mk (ah [bQ 2] (av [aa 3 0,I.bin 4 .geq (.t 3) (.k (.i .i64 (-1099511627776))),aa 5 4,aX false 8 5 [aa 6 0,bp 7 .leq 6 1099511627776] 7,aa 2 8])) [.t 2] false none
def AQ:F:=.mk (ah [I.mv 2 (.k (.sl 2 true []))] (bU [aa 3 0,I.qo 4 false (.t 3) .sl] 4 (av [I.mv 2 (.k (.sl 2 true []))]) (av [I.lf 5 2 0 [.i .i64 0,.sl 1 true []] [] false,aa 6 0,iE 7 5 6 2,aa 2 7]))) [.t 2] true none
def adp:F:=.mk (ah [I.mv 6 (.k (.sl 2 true []))] (ah [aa 10 0,aa 11 1,gR 12 10 11 2] (ah [aa 13 2,cu 14 13,aa 7 14] (bU [aa 15 7,bE 16 .eql 15] 16 (av [aa 17 0,aa 6 17]) (ah [aa 18 0,cu 19 18,aa 8 19] (bU [aa 20 1,aa 21 8,bA 22 .eql 20 21] 22 (av [aa 23 0,aa 24 2,iE 25 23 24 2,aa 6 25]) (bU [aa 26 8,aa 27 7,bA 28 .add 26 27,aa 29 0,I.cap 30 (.t 29),bA 31 .gtr 28 30] 31 (ah [aa 32 0,aa 33 1,mS 34 32 33 2,aa 35 8,aa 36 7,bA 37 .add 35 36,aa 38 1,bA 39 .sub 37 38,I.qX 40 (.t 34) (.t 39) 2 [.i .i64 0,.sl 1 true []],aa 9 40] (ah [aa 41 9,aa 42 1,gR 43 41 42 2,aa 44 2,I.copy (some 45) (.t 43) (.t 44) 2] (eo [0,1,2,3,4,5,6,7,8] [aa 46 9,aa 47 1,aa 48 7,bA 49 .add 47 48,gR 50 46 49 2,aa 51 0,aa 52 1,gR 53 51 52 2,I.copy (some 54) (.t 50) (.t 53) 2] (av [aa 55 9,aa 6 55])))) (ah [aa 56 0,aa 57 8,aa 58 7,bA 59 .add 57 58,mS 60 56 59 2,aa 0 60] (bU [aa 61 2,aa 62 0,aa 63 1,aa 64 7,bA 65 .add 63 64,gR 66 62 65 2,I.qY 67 acV (.t 61) (.t 66) 2,dx 68 67] 68 (eo [0,1,2,3,4,5,6,7,8] [aa 69 0,aa 70 1,aa 71 7,bA 72 .add 70 71,gR 73 69 72 2,aa 74 0,aa 75 1,gR 76 74 75 2,I.copy (some 77) (.t 73) (.t 76) 2] (ah [aa 78 0,aa 79 1,gR 80 78 79 2,aa 81 2,I.copy (some 82) (.t 80) (.t 81) 2] (av [aa 83 0,aa 6 83]))) (ah [aa 84 0,aa 85 8,gR 86 84 85 2,aa 87 2,I.copy (some 88) (.t 86) (.t 87) 2] (ah [aa 89 0,aa 90 1,gR 91 89 90 2,aa 92 7,cU 93 acW 91 92] (av [aa 94 0,aa 6 94])))))))))))) [.t 6] false none
def Sa:F:=.mk (ah [bz 2 0 2,bQ 3] (av [af 4 2 0,aj 5 4,aj 6 1,bA 7 .eql 5 6,aa 3 7])) [.t 3] false none
def Sb:F:=.mk (ah [bz 1 0 1,I.mv 2 (.k .cN)] (av [I.gY 3 Lo [] [.t 1],aa 2 3])) [.t 2] true none
def MA:F:=.mk (ah [bz 4 1 5] (.lX [] [0,1,2,3,4,5,6,7,8,9,10,11,12,13,14,15] [aa 6 0,aa 7 0,cM 8 7,af 9 8 10,aj 10 9,fy 11 4 0,eY 12 11,fy 13 4 1,eY 14 13,aa 15 2,I.build 16 jP [(0,1,.t 12),(1,1,.t 14),(2,1,.t 15),(3,1,fO),(4,1,.k (.i .i64 (-1)))],iA 17 5 1 jP 16,iE 18 10 17 5,cM 19 6,af 20 19 10,aP 20 18 1])) [] true none
def Sc:F:=.mk (ah [bQ 4] (av [aa 5 0,aa 6 1,cU 7 Ef 5 6,bE 8 .geq 7,aa 4 8])) [.t 4] false none
def Sd:F:=.mk (ah [bz 3 0 2,bQ 4] (av [af 5 3 1,aj 6 5,cu 7 6,aj 8 1,bA 9 .eql 7 8,aa 10 9,aX false 16 10 [aM 11 2 9,af 12 3 0,aj 13 12,I.call (some 14) G8 [.t 11,.t 13,cS 70],dx 15 14] 15,aa 4 16])) [.t 4] false none
def Se:F:=.mk (ah [bz 3 0 9,bz 4 1 1,bz 5 2 1,bQ 6] (av [af 7 3 4,aj 8 7,I.gY 9 Lp [] [.t 4,.t 5],cU 10 uD 8 9,aa 6 10])) [.t 6] false none
def MB:C :=ah [bA 9 .lss 8 7] (aQ (cT 9 .skip (aQ (.keep []) (.exit 0))) (aQ (.bV 1 (ah [aa 10 8,aa 5 10] (ah [aa 11 1,aa 12 0,aa 13 5,dc 14 12 13 5,aM 15 14 5,vL 16 11 15] (dg 16 (ah [aa 17 5,aa 4 17] (aQ (.keep [4]) .ret)))))) (.cr [bp 18 .add 8 1,aa 8 18])))
def Sf:F:=.mk (ah [bu 4] (aQ (ah [aa 6 0,cu 7 6,bu 8] (.bV 0 (.loop [0,1,7,8] MB))) (av [I.mv 4 (.k (.i .i64 (-1)))]))) [.t 4] false none
def Sg:F:=.mk (ah [bz 2 0 5,bQ 3] (av [af 4 2 0,aj 5 4,af 6 1 0,aj 7 6,bA 8 .eql 5 7,aa 3 8])) [.t 3] false none
def MC:F:=.mk (ah [I.mv 6 (.k (.sl 5 true []))] (ah [aa 8 0,aa 9 1,aa 10 2,aa 11 0,cu 12 11,I.qW 13 (.t 8) (.t 9) (.t 10) (.t 12) 5] (bU [aa 14 1,aa 15 2,bA 16 .eql 14 15] 16 (av [aa 17 0,aa 6 17]) (ah [aa 18 0,cu 19 18,aa 7 19] (eo [0,1,2,3,4,5,6,7] [aa 20 0,aa 21 1,mS 22 20 21 5,aa 23 0,aa 24 2,gR 25 23 24 5,iE 26 22 25 5,aa 0 26] (ah [aa 27 0,aa 28 0,cu 29 28,aa 30 7,I.sl 31 (.t 27) (some (.t 29)) (some (.t 30)) 5,I.qp none (.t 31) 5 jP] (av [aa 32 0,aa 6 32]))))))) [.t 6] true none
def HC:C :=aQ (eo [0,1,2,3,4,5,6,7,8,9,10,11,12,13] [af 4 1 4,aj 5 4,cu 6 5,bE 7 .gtr 6,aa 8 7,aX false 17 8 [af 9 1 4,aj 10 9,I.ji 11 (.t 10) k0 5,af 12 11 2,aj 13 12,af 14 1 1,aj 15 14,bA 16 .leq 13 15] 16] (cT 17 .skip (aQ (.keep []) (.exit 0)))) (.bV 1 (ah [af 18 1 4,aj 19 18,I.ji 20 (.t 19) k0 5,aM 21 20 5,cg 3 zQ,dU 3 21 5] (ah [af 22 1 4,aj 23 22,I.sl 24 (.t 23) (some (cS 1)) none 5,dP 25 Qy 24,af 26 1 4,aP 26 25 1] (ah [af 27 1 1,aj 28 27,af 29 3 2,aj 30 29,bA 31 .sub 28 30,af 32 1 1,aP 32 31 1] (ah [aa 33 0,aM 34 3 5,aM 35 1 9,I.pK (some 36) (.t 33) [.t 34,.t 35],dx 37 36] (dg 37 (aQ (.keep []) .ret)))))))
def Sh:F:=.mk (.bV 0 (.loop [0,1] HC)) [] false none
def MD:F:=.mk (ah [bz 1 0 9,bQ 2] (av [I.fa 3 (.t 1) 0 9,af 4 3 0,aj 5 4,I.bin 6 .eql (.t 5) (.k (.i .i64 (-1))),aa 7 6,aX false 12 7 [I.fa 8 (.t 1) 0 9,af 9 8 1,aj 10 9,bE 11 .eql 10] 11,aa 13 12,aX false 18 13 [I.fa 14 (.t 1) 0 9,af 15 14 2,aj 16 15,bE 17 .eql 16] 17,aa 19 18,aX false 25 19 [I.fa 20 (.t 1) 0 9,af 21 20 3,aj 22 21,cu 23 22,bE 24 .eql 23] 24,aa 26 25,aX false 32 26 [I.fa 27 (.t 1) 0 9,af 28 27 5,aj 29 28,cu 30 29,bE 31 .eql 30] 31,aa 33 32,aX false 39 33 [I.fa 34 (.t 1) 0 9,af 35 34 6,aj 36 35,cu 37 36,bE 38 .eql 37] 38,aa 2 39])) [.t 2] false none
def EU:C :=ah [bA 12 .lss 11 10] (aQ (cT 12 .skip (aQ (.keep [1]) (.exit 0))) (aQ (.bV 1 (ah [aa 13 11,dc 14 9 11 5,aM 15 14 5,cg 4 zQ,aa 3 13,dU 4 15 5] (ah [I.fa 17 (.t 1) 0 9,af 18 17 4,aj 19 18,af 20 4 0,aj 21 20,cU 22 iQ 19 21,aa 16 22,bW 23 16 0,bW 24 16 1,aa 5 23,aa 6 24] (ah [aa 25 5,aa 26 3,bA 27 .neq 25 26,aa 28 27,aX true 32 28 [af 29 4 1,aj 30 29,bp 31 .neq 30 74] 31,aa 33 32,aX true 37 33 [af 34 4 2,aj 35 34,bE 36 .neq 35] 36,aa 38 37,aX true 42 38 [af 39 4 4,aj 40 39,I.bin 41 .neq (.t 40) (.k (.i .i64 (-1)))] 41] (dg 42 (ah [bQ 2] (aQ (.keep [2]) .ret))))))) (.cr [bp 43 .add 11 1,aa 11 43])))
def HD:F:=.mk (ah [bz 1 0 9,bQ 2] (aQ (ah [I.fa 7 (.t 1) 0 9,af 8 7 4,aj 9 8,cu 10 9,bu 11] (.bV 0 (.loop [1,9,10,11] EU))) (av [I.fa 44 (.t 1) 0 9,af 45 44 4,aj 46 45,I.call (some 47) qv [cS 1,.t 46],bE 48 .eql 47,aa 2 48]))) [.t 2] false none
def HE:C :=mT [aa 15 9,aa 16 10,bA 17 .lss 15 16] 17 .skip (aQ (.keep [0,1,2,8,9]) (.exit 0)) (.bV 1 (ah [aa 18 9,aa 19 10,bA 20 .add 18 19,I.kB 21 .u64 (.t 20),I.bin 22 .shr (.t 21) (.k (.i .u64 1)),I.kB 23 .i64 (.t 22),aa 11 23] (ah [aa 24 2,aa 25 0,aa 26 11,dc 27 25 26 5,aM 28 27 5,aa 29 1,tA 30 24 28 29,bE 31 .lss 30] (cT 31 (.cr [aa 32 11,bp 33 .add 32 1,aa 9 33]) (.cr [aa 34 11,aa 10 34])))))
def Si:F:=.mk (ah [bu 6,bQ 7] (ah [aa 12 0,cu 13 12,aa 8 13] (ah [aa 14 8,bu 9,aa 10 14] (aQ (.bV 0 (.loop [0,1,2,8,9,10] HE)) (av [aa 35 9,aa 36 9,aa 37 8,bA 38 .lss 36 37,aa 39 38,aX false 48 39 [aa 40 2,aa 41 0,aa 42 9,dc 43 41 42 5,aM 44 43 5,aa 45 1,tA 46 40 44 45,bE 47 .eql 46] 47,aa 6 35,aa 7 48]))))) [.t 6,.t 7] false none
def ME:F:=.mk (ah [bz 2 0 5,bu 4] (bU [af 5 2 3,aj 6 5,aa 7 1,bA 8 .geq 6 7] 8 (av [I.mv 4 (.k (.i .i64 (-1)))]) (av [aa 9 1,af 10 2 3,aj 11 10,cU 12 Q7 9 11,aa 4 12]))) [.t 4] false none
def Sj:F:=.mk (ah [bu 4] (ah [aa 7 0,dP 8 AH 7,aa 5 8] (ah [aa 9 1,dP 10 AH 9,aa 6 10] (bU [aa 11 5] 11 (bU [aa 12 6] 12 (av [bu 4]) (av [I.mv 4 (.k (.i .i64 (-1)))])) (bU [aa 13 6] 13 (av [cE 4 1]) (bU [aa 14 0,aa 15 1,bA 16 .lss 14 15] 16 (av [I.mv 4 (.k (.i .i64 (-1)))]) (bU [aa 17 0,aa 18 1,bA 19 .gtr 17 18] 19 (av [cE 4 1]) (av [bu 4])))))))) [.t 4] false none
def adq:F:=.mk (ah [I.mv 6 (.k (.sl 5 true []))] (ah [aa 10 0,aa 11 1,gR 12 10 11 5] (ah [aa 13 2,cu 14 13,aa 7 14] (bU [aa 15 7,bE 16 .eql 15] 16 (av [aa 17 0,aa 6 17]) (ah [aa 18 0,cu 19 18,aa 8 19] (bU [aa 20 1,aa 21 8,bA 22 .eql 20 21] 22 (av [aa 23 0,aa 24 2,iE 25 23 24 5,aa 6 25]) (bU [aa 26 8,aa 27 7,bA 28 .add 26 27,aa 29 0,I.cap 30 (.t 29),bA 31 .gtr 28 30] 31 (ah [aa 32 0,aa 33 1,mS 34 32 33 5,aa 35 8,aa 36 7,bA 37 .add 35 36,aa 38 1,bA 39 .sub 37 38,I.qX 40 (.t 34) (.t 39) 5 zQ,aa 9 40] (ah [aa 41 9,aa 42 1,gR 43 41 42 5,aa 44 2,I.copy (some 45) (.t 43) (.t 44) 5] (eo [0,1,2,3,4,5,6,7,8] [aa 46 9,aa 47 1,aa 48 7,bA 49 .add 47 48,gR 50 46 49 5,aa 51 0,aa 52 1,gR 53 51 52 5,I.copy (some 54) (.t 50) (.t 53) 5] (av [aa 55 9,aa 6 55])))) (ah [aa 56 0,aa 57 8,aa 58 7,bA 59 .add 57 58,mS 60 56 59 5,aa 0 60] (bU [aa 61 2,aa 62 0,aa 63 1,aa 64 7,bA 65 .add 63 64,gR 66 62 65 5,I.qY 67 acX (.t 61) (.t 66) 5,dx 68 67] 68 (eo [0,1,2,3,4,5,6,7,8] [aa 69 0,aa 70 1,aa 71 7,bA 72 .add 70 71,gR 73 69 72 5,aa 74 0,aa 75 1,gR 76 74 75 5,I.copy (some 77) (.t 73) (.t 76) 5] (ah [aa 78 0,aa 79 1,gR 80 78 79 5,aa 81 2,I.copy (some 82) (.t 80) (.t 81) 5] (av [aa 83 0,aa 6 83]))) (ah [aa 84 0,aa 85 8,gR 86 84 85 5,aa 87 2,I.copy (some 88) (.t 86) (.t 87) 5] (ah [aa 89 0,aa 90 1,gR 91 89 90 5,aa 92 7,cU 93 acY 91 92] (av [aa 94 0,aa 6 94])))))))))))) [.t 6] false none
def MF:C :=ah [bA 9 .lss 8 7] (aQ (cT 9 .skip (aQ (.keep []) (.exit 0))) (aQ (.bV 1 (ah [aa 10 8,aa 5 10] (ah [aa 11 1,aa 12 0,aa 13 5,dc 14 12 13 1,aj 15 14,bA 16 .eql 11 15] (dg 16 (ah [aa 17 5,aa 4 17] (aQ (.keep [4]) .ret)))))) (.cr [bp 18 .add 8 1,aa 8 18])))
def Sk:F:=.mk (ah [bu 4] (aQ (ah [aa 6 0,cu 7 6,bu 8] (.bV 0 (.loop [0,1,7,8] MF))) (av [I.mv 4 (.k (.i .i64 (-1)))]))) [.t 4] false none
def HF:C :=mT [aa 13 7,aa 14 8,bA 15 .lss 13 14] 15 .skip (aQ (.keep [0,1,6,7]) (.exit 0)) (.bV 1 (ah [aa 16 7,aa 17 8,bA 18 .add 16 17,I.kB 19 .u64 (.t 18),I.bin 20 .shr (.t 19) (.k (.i .u64 1)),I.kB 21 .i64 (.t 20),aa 9 21] (ah [aa 22 0,aa 23 9,dc 24 22 23 1,aj 25 24,aa 26 1,cU 27 Hf 25 26] (cT 27 (.cr [aa 28 9,bp 29 .add 28 1,aa 7 29]) (.cr [aa 30 9,aa 8 30])))))
def HG:F:=.mk (ah [bu 4,bQ 5] (ah [aa 10 0,cu 11 10,aa 6 11] (ah [aa 12 6,bu 7,aa 8 12] (aQ (.bV 0 (.loop [0,1,6,7,8] HF)) (av [aa 31 7,aa 32 7,aa 33 6,bA 34 .lss 32 33,aa 35 34,aX false 53 35 [aa 36 0,aa 37 7,dc 38 36 37 1,aj 39 38,aa 40 1,bA 41 .eql 39 40,aa 42 41,aX true 52 42 [aa 43 0,aa 44 7,dc 45 43 44 1,aj 46 45,dP 47 Cs 46,aa 48 47,aX false 51 48 [aa 49 1,dP 50 Cs 49] 50] 51] 52,aa 4 31,aa 5 53]))))) [.t 4,.t 5] false none
def CD:C :=mT [aa 13 7,aa 14 8,bA 15 .lss 13 14] 15 .skip (aQ (.keep [0,1,6,7]) (.exit 0)) (.bV 1 (ah [aa 16 7,aa 17 8,bA 18 .add 16 17,I.kB 19 .u64 (.t 18),I.bin 20 .shr (.t 19) (.k (.i .u64 1)),I.kB 21 .i64 (.t 20),aa 9 21] (ah [aa 22 0,aa 23 9,dc 24 22 23 1,aj 25 24,aa 26 1,cU 27 Hf 25 26] (cT 27 (.cr [aa 28 9,bp 29 .add 28 1,aa 7 29]) (.cr [aa 30 9,aa 8 30])))))
def EV:F:=.mk (ah [bu 4,bQ 5] (ah [aa 10 0,cu 11 10,aa 6 11] (ah [aa 12 6,bu 7,aa 8 12] (aQ (.bV 0 (.loop [0,1,6,7,8] CD)) (av [aa 31 7,aa 32 7,aa 33 6,bA 34 .lss 32 33,aa 35 34,aX false 53 35 [aa 36 0,aa 37 7,dc 38 36 37 1,aj 39 38,aa 40 1,bA 41 .eql 39 40,aa 42 41,aX true 52 42 [aa 43 0,aa 44 7,dc 45 43 44 1,aj 46 45,dP 47 Cs 46,aa 48 47,aX false 51 48 [aa 49 1,dP 50 Cs 49] 50] 51] 52,aa 4 31,aa 5 53]))))) [.t 4,.t 5] true none
def adr:F:=.mk (ah [I.mv 6 (.k (.sl 1 true []))] (ah [aa 10 0,aa 11 1,gR 12 10 11 1] (ah [aa 13 2,cu 14 13,aa 7 14] (bU [aa 15 7,bE 16 .eql 15] 16 (av [aa 17 0,aa 6 17]) (ah [aa 18 0,cu 19 18,aa 8 19] (bU [aa 20 1,aa 21 8,bA 22 .eql 20 21] 22 (av [aa 23 0,aa 24 2,iE 25 23 24 1,aa 6 25]) (bU [aa 26 8,aa 27 7,bA 28 .add 26 27,aa 29 0,I.cap 30 (.t 29),bA 31 .gtr 28 30] 31 (ah [aa 32 0,aa 33 1,mS 34 32 33 1,aa 35 8,aa 36 7,bA 37 .add 35 36,aa 38 1,bA 39 .sub 37 38,I.qX 40 (.t 34) (.t 39) 1 [.i .i64 0],aa 9 40] (ah [aa 41 9,aa 42 1,gR 43 41 42 1,aa 44 2,I.copy (some 45) (.t 43) (.t 44) 1] (eo [0,1,2,3,4,5,6,7,8] [aa 46 9,aa 47 1,aa 48 7,bA 49 .add 47 48,gR 50 46 49 1,aa 51 0,aa 52 1,gR 53 51 52 1,I.copy (some 54) (.t 50) (.t 53) 1] (av [aa 55 9,aa 6 55])))) (ah [aa 56 0,aa 57 8,aa 58 7,bA 59 .add 57 58,mS 60 56 59 1,aa 0 60] (bU [aa 61 2,aa 62 0,aa 63 1,aa 64 7,bA 65 .add 63 64,gR 66 62 65 1,I.qY 67 acZ (.t 61) (.t 66) 1,dx 68 67] 68 (eo [0,1,2,3,4,5,6,7,8] [aa 69 0,aa 70 1,aa 71 7,bA 72 .add 70 71,gR 73 69 72 1,aa 74 0,aa 75 1,gR 76 74 75 1,I.copy (some 77) (.t 73) (.t 76) 1] (ah [aa 78 0,aa 79 1,gR 80 78 79 1,aa 81 2,I.copy (some 82) (.t 80) (.t 81) 1] (av [aa 83 0,aa 6 83]))) (ah [aa 84 0,aa 85 8,gR 86 84 85 1,aa 87 2,I.copy (some 88) (.t 86) (.t 87) 1] (ah [aa 89 0,aa 90 1,gR 91 89 90 1,aa 92 7,cU 93 ac0 91 92] (av [aa 94 0,aa 6 94])))))))))))) [.t 6] false none
def EW:F:=.mk (ah [bz 5 0 5,bQ 6] (bU [aj 7 1,dx 8 7,aa 9 8,aX false 13 9 [af 10 5 2,aj 11 10,bE 12 .geq 11] 12,aa 14 13,aX false 19 14 [af 15 5 2,aj 16 15,aj 17 2,bA 18 .leq 16 17] 18] 19 (ah [aj 20 2,af 21 5 2,aj 22 21,bA 23 .sub 20 22,aP 2 23 1] (av [gy 6])) (ah [aj 24 1,aa 25 24,aX true 28 25 [aj 26 3,dx 27 26] 27,aP 1 28 1] (ah [aj 29 4,aM 30 5 5,iA 31 5 1 zQ 30,iE 32 29 31 5,aP 4 32 1] (av [bQ 6]))))) [.t 6] false none
def HH:F:=.mk (ah [bz 2 0 5,bQ 3] (av [af 4 2 0,aj 5 4,af 6 1 0,aj 7 6,bA 8 .eql 5 7,aa 9 8,aX false 25 9 [af 10 2 4,aj 11 10,I.bin 12 .eql (.t 11) (.k (.i .i64 (-1))),aa 13 12,aX true 17 13 [af 14 1 4,aj 15 14,I.bin 16 .eql (.t 15) (.k (.i .i64 (-1)))] 16,aa 18 17,aX true 24 18 [af 19 2 4,aj 20 19,af 21 1 4,aj 22 21,bA 23 .eql 20 22] 23] 24,aa 3 25])) [.t 3] false none
def EX:F:=.mk (ah [bz 3 0 5,bQ 4] (bU [af 5 3 1,aj 6 5,bp 7 .eql 6 64] 7 (av [af 8 1 5,aj 9 8,cu 10 9,af 11 2 2,aj 12 11,bA 13 .neq 10 12,aa 14 13,aX true 20 14 [af 15 1 4,aj 16 15,af 17 3 0,aj 18 17,I.call (some 19) Ln [.t 16,cS 65,.t 18]] 19,aa 4 20]) (av [af 21 1 5,aj 22 21,cu 23 22,bE 24 .gtr 23,aa 25 24,aX true 31 25 [af 26 1 4,aj 27 26,af 28 3 0,aj 29 28,I.call (some 30) Ln [.t 27,cS 64,.t 29]] 30,aa 4 31]))) [.t 4] false none
def Sl:F:=.mk (ah [bz 4 1 1,bz 5 2 1,bQ 6] (av [aa 7 0,I.gY 8 Lq [] [.t 4,.t 5],cU 9 uD 7 8,aa 6 9])) [.t 6] false none
def EY:F:=.mk (ah [bz 3 1 1,cg 4 zQ,bQ 5] (av [aa 6 0,cM 7 6,I.fa 8 (.t 7) 1 9,af 9 8 4,aj 10 9,I.gY 11 En [] [.t 3],I.calls (some 12) Lr [.t 10,.t 11],bW 13 12 0,bW 14 12 1,aP 4 13 5,aa 5 14])) [.c 4 5 true,.t 5] true none
def MG:F:=.mk (ah [bz 5 1 5] (aQ (aQ (.xA 0 5) (.lX [] [0,1,2,3,4,5,6,7,8,9,10,11,12] [aa 8 0,aa 9 0,cM 10 9,I.fa 11 (.t 10) 1 9,af 12 11 4,aj 13 12,fy 14 5 0,eY 15 14,cU 16 xK 13 15,cM 17 8,I.fa 18 (.t 17) 1 9,af 19 18 4,aP 19 16 1])) (.lX [] [0,1,2,3,4,5,6,7,8,9,10,11,12,13,14,15,16,17,18] [aa 20 0,aa 21 0,cM 22 21,af 23 22 10,aj 24 23,fy 25 5 0,eY 26 25,fy 27 5 1,eY 28 27,aa 29 2,aa 30 3,fy 31 5 4,eY 32 31,I.build 33 jP [(0,1,.t 26),(1,1,.t 28),(2,1,.t 29),(3,1,.t 30),(4,1,.t 32)],iA 34 5 1 jP 33,iE 35 24 34 5,cM 36 20,af 37 36 10,aP 37 35 1]))) [] true none
def CE:F:=.mk (ah [cg 6 cx] (eo [0,1,2,3,4,5,6,7,8,9,10,11] [aa 7 0,cM 8 7,I.fa 9 (.t 8) 1 9,aM 10 9 9,aa 11 1,aa 12 2,aa 13 0,cM 14 13,af 15 14 10,aj 16 15,I.build 17 cx [(0,9,.t 10),(10,1,.t 11),(11,1,.t 12),(12,1,.t 16)],aP 6 17 13] .ret)) [.c 6 13 true] true none
def CF:F:=.mk (.cr [aa 4 0,aa 5 0,cM 6 5,I.fa 7 (.t 6) 1 9,af 8 7 5,aj 9 8,aa 10 1,iA 11 1 1 [.i .i64 0] 10,iE 12 9 11 1,cM 13 4,I.fa 14 (.t 13) 1 9,af 15 14 5,aP 15 12 1]) [] true none
def AR:F:=.mk (ah [bz 3 1 5,cg 4 cx] (ah [af 6 3 0,aj 7 6,af 8 3 1,aj 9 8,af 10 3 3,aj 11 10,I.build 12 zQ [(0,1,.t 7),(1,1,.t 9),(3,1,.t 11),(4,1,.k (.i .i64 (-1)))],cg 5 zQ,aP 5 12 5] (bU [af 13 3 1,aj 14 13,bp 15 .eql 14 64] 15 (.cr [af 16 3 2,aj 17 16,af 18 5 2,aP 18 17 1]) (eo [0,1,2,3,4,5,6,7,8,9,10,11,12] [aa 19 0,aa 20 0,cM 21 20,I.fa 22 (.t 21) 1 9,af 23 22 4,aj 24 23,aM 25 5 5,iA 26 5 1 zQ 25,iE 27 24 26 5,cM 28 19,I.fa 29 (.t 28) 1 9,af 30 29 4,aP 30 27 1] (av [aa 31 0,cM 32 31,I.fa 33 (.t 32) 1 9,aM 34 33 9,I.build 35 cx [(0,9,.t 34),(9,1,fO)],aP 4 35 13]))))) [.c 4 13 true] true none
def ads:F:=.mk (.cr [aa 4 0,aa 5 0,cu 6 5,aa 7 1,bA 8 .sub 6 7,cU 9 ac1 4 8]) [] false none
def MH:C :=.bV 1 (ah [aj 5 1,cM 6 5,I.fa 7 (.t 6) 1 9,af 8 7 4,aj 9 8,I.call (some 10) xJ [.t 9,.k (.fn He [] [])],aa 3 10] (aQ (eo [0,1,2,3,4,5,6,7,8,9,10,11,12] [aa 11 3,bE 12 .lss 11,aa 13 12,aX true 23 13 [aj 14 1,cM 15 14,af 16 15 0,aj 17 16,aj 18 1,cM 19 18,I.fa 20 (.t 19) 1 9,aM 21 20 9,I.calls (some 22) AD [.t 17,.t 21]] 22] (dg 23 (aQ (.keep []) .ret))) (ah [aj 24 1,cM 25 24,I.fa 26 (.t 25) 1 9,af 27 26 4,aj 28 27,aa 29 3,dc 30 28 29 5,aM 31 30 5,cg 4 zQ,dU 4 31 5] (eo [0,1,2,3,4,5,7,8,9,6,10,11,12,13,14] [aj 32 1,aj 33 1,cM 34 33,I.fa 35 (.t 34) 1 9,af 36 35 4,aj 37 36,aa 39 3,aa 40 3,bp 41 .add 40 1,lC 38 sv 37,.re (.ld 32 (.t 1) 1 false),I.nq 42 Rb [.t 38,.t 39,.t 41],.re (.ld 32 (.t 1) 1 false),cM 43 32,I.fa 44 (.t 43) 1 9,af 45 44 4,aP 45 42 1] (ah [aa 46 0,aM 47 4 5,I.pK (some 48) (.t 46) [.t 47],dx 49 48] (dg 49 (aQ (.keep []) .ret)))))))
def Sm:F:=.mk (.bV 0 (.loop [0,1] MH)) [] false none
def Sn:F:=.mk (ah [bz 1 0 5,bQ 2] (av [af 3 1 1,aj 4 3,bp 5 .eql 4 68,aa 2 5])) [.t 2] false none
def MI:F:=.mk (ah [I.mv 6 (.k (.sl 5 true []))] (ah [aa 8 0,aa 9 1,aa 10 2,aa 11 0,cu 12 11,I.qW 13 (.t 8) (.t 9) (.t 10) (.t 12) 5] (bU [aa 14 1,aa 15 2,bA 16 .eql 14 15] 16 (av [aa 17 0,aa 6 17]) (ah [aa 18 0,cu 19 18,aa 7 19] (eo [0,1,2,3,4,5,6,7] [aa 20 0,aa 21 1,mS 22 20 21 5,aa 23 0,aa 24 2,gR 25 23 24 5,iE 26 22 25 5,aa 0 26] (ah [aa 27 0,aa 28 0,cu 29 28,aa 30 7,I.sl 31 (.t 27) (some (.t 29)) (some (.t 30)) 5,I.qp none (.t 31) 5 zQ] (av [aa 32 0,aa 6 32]))))))) [.t 6] true none
def So:F:=.mk (ah [bz 3 0 5,bQ 4] (av [af 5 3 0,aj 6 5,aj 7 1,bA 8 .eql 6 7,aa 9 8,aX false 14 9 [af 10 3 1,aj 11 10,aj 12 2,bA 13 .eql 11 12] 13,aa 4 14])) [.t 4] false none
def HI:F:=.mk (ah [bQ 2] (av [aa 3 0,aa 4 0,bA 5 .neq 3 4,aa 2 5])) [.t 2] false none
def adt:F:=.mk (.cr [aa 4 0,aa 5 0,cu 6 5,aa 7 1,bA 8 .sub 6 7,cU 9 ac2 4 8]) [] false none
def MJ:F:=.mk (ah [bQ 4] (av [aa 5 0,dP 6 AH 5,aa 7 6,aX false 11 7 [aa 8 1,dP 9 AH 8,dx 10 9] 10,aa 12 11,aX true 16 12 [aa 13 0,aa 14 1,bA 15 .lss 13 14] 15,aa 4 16])) [.t 4] false none
def MK:F:=.mk (ah [bQ 2] (av [aa 3 0,aa 4 0,bA 5 .neq 3 4,aa 2 5])) [.t 2] false none
def adu:F:=.mk (.cr [aa 4 0,aa 5 0,cu 6 5,aa 7 1,bA 8 .sub 6 7,cU 9 ac3 4 8]) [] false none
def Sq:F:=.mk (ah [bz 3 0 5,bQ 4] (av [af 5 3 1,aj 6 5,aj 7 1,bA 8 .eql 6 7,aa 9 8,aX false 14 9 [af 10 3 0,aj 11 10,aj 12 2,bA 13 .neq 11 12] 13,aa 4 14])) [.t 4] false none
def HJ:F:=.mk (ah [cg 4 zQ,bQ 5] (ah [cg 6 zQ] (ah [aa 8 0,aa 9 1,cU 10 xJ 8 9,aa 7 10] (bU [aa 11 7,bE 12 .lss 11] 12 (av [aM 13 6 5,aP 4 13 5,bQ 5]) (av [aa 14 0,aa 15 7,dc 16 14 15 5,aM 17 16 5,aP 4 17 5,gy 5]))))) [.c 4 5 true,.t 5] false none
def Sr:F:=.mk (ah [bz 2 0 5,bQ 3] (av [af 4 2 1,aj 5 4,aj 6 1,bA 7 .eql 5 6,aa 3 7])) [.t 3] false none
def adw:F:=.mk (ah [aa 4 0,aa 5 1,mS 6 4 5 2,dP 7 Rc 6] (ah [aa 8 0,aa 9 1,gR 10 8 9 2,dP 11 Rc 10] (.cr [aa 12 0,dP 13 Rc 12]))) [] false none
def adx:F:=.mk (ah [aa 4 0,aa 5 1,mS 6 4 5 5,dP 7 Re 6] (ah [aa 8 0,aa 9 1,gR 10 8 9 5,dP 11 Re 10] (.cr [aa 12 0,dP 13 Re 12]))) [] false none
def ady:F:=.mk (ah [aa 4 0,aa 5 1,mS 6 4 5 1,dP 7 Rf 6] (ah [aa 8 0,aa 9 1,gR 10 8 9 1,dP 11 Rf 10] (.cr [aa 12 0,dP 13 Rf 12]))) [] false none
def adz:C :=mT [aa 7 2,aa 8 3,bA 9 .lss 7 8] 9 .skip (aQ (.keep []) (.exit 0)) (aQ (.bV 1 (.lX [] [0,1,2,3,4,5,6,7,8,9,10,11,12,13,14,15] [aa 14 0,aa 15 2,aa 16 0,aa 17 3,aa 18 0,aa 19 3,dc 20 18 19 2,aM 21 20 2,aa 22 0,aa 23 2,dc 24 22 23 2,aM 25 24 2,dc 26 14 15 2,aP 26 21 2,dc 27 16 17 2,aP 27 25 2])) (.cr [aa 10 2,bp 11 .add 10 1,aa 12 3,bp 13 .sub 12 1,aa 2 11,aa 3 13]))
def adA:F:=.mk (ah [aa 4 0,cu 5 4,bp 6 .sub 5 1,bu 2,aa 3 6] (.bV 0 (.loop [0,2,3] adz))) [] false none
def adB:C :=mT [aa 7 2,aa 8 3,bA 9 .lss 7 8] 9 .skip (aQ (.keep []) (.exit 0)) (aQ (.bV 1 (.lX [] [0,1,2,3,4,5,6,7,8,9,10,11,12,13,14,15] [aa 14 0,aa 15 2,aa 16 0,aa 17 3,aa 18 0,aa 19 3,dc 20 18 19 5,aM 21 20 5,aa 22 0,aa 23 2,dc 24 22 23 5,aM 25 24 5,dc 26 14 15 5,aP 26 21 5,dc 27 16 17 5,aP 27 25 5])) (.cr [aa 10 2,bp 11 .add 10 1,aa 12 3,bp 13 .sub 12 1,aa 2 11,aa 3 13]))
def adC:F:=.mk (ah [aa 4 0,cu 5 4,bp 6 .sub 5 1,bu 2,aa 3 6] (.bV 0 (.loop [0,2,3] adB))) [] false none
def adD:C :=mT [aa 7 2,aa 8 3,bA 9 .lss 7 8] 9 .skip (aQ (.keep []) (.exit 0)) (aQ (.bV 1 (.lX [] [0,1,2,3,4,5,6,7,8,9,10,11,12,13,14,15] [aa 14 0,aa 15 2,aa 16 0,aa 17 3,aa 18 0,aa 19 3,dc 20 18 19 1,aj 21 20,aa 22 0,aa 23 2,dc 24 22 23 1,aj 25 24,dc 26 14 15 1,aP 26 21 1,dc 27 16 17 1,aP 27 25 1])) (.cr [aa 10 2,bp 11 .add 10 1,aa 12 3,bp 13 .sub 12 1,aa 2 11,aa 3 13]))
def adE:F:=.mk (ah [aa 4 0,cu 5 4,bp 6 .sub 5 1,bu 2,aa 3 6] (.bV 0 (.loop [0,2,3] adD))) [] false none
def CG:F:=.mk (ah [bz 3 0 2,bz 4 1 4,bz 5 2 9,bQ 6] (av [af 7 3 1,aj 8 7,aM 9 4 4,aM 10 5 9,tA 11 8 9 10,bE 12 .eql 11,aa 6 12])) [.t 6] false none
def Ss:F:=.mk (ah [bz 3 0 2,bz 4 1 4,bz 5 2 9,bu 6] (av [af 7 3 1,aj 8 7,aM 9 4 4,aM 10 5 9,tA 11 8 9 10,aa 6 11])) [.t 6] false none
def ML:F:=.mk (ah [bz 2 0 2,bz 3 1 4,cg 4 zR,bu 5] (av [af 6 2 0,aj 7 6,aM 8 3 4,vL 9 7 8,bW 10 9 0,bW 11 9 1,aP 4 10 9,aa 5 11])) [.c 4 9 true,.t 5] false none
def AS:F:=.mk (ah [bz 4 0 2,bz 5 1 4,iz 6 2 9,bz 7 3 5,cg 8 zR,bu 9,bQ 10,bu 11] (aQ (.bV 0 (ah [af 14 7 1,aj 15 14,bp 16 .eql 15 52,aa 17 16,aX false 23 17 [af 18 6 0,aj 19 18,af 20 7 0,aj 21 20,bA 22 .neq 19 21] 22,aa 13 23] (cT 13 (av [aM 24 6 9,aP 8 24 9,bu 9,bQ 10,cE 11 20]) (ah [af 26 7 1,aj 27 26,bp 28 .eql 27 52,aa 25 28] (cT 25 (.cr [af 29 6 0,I.st (.t 29) (.k (.i .i64 (-1))) 1 false]) (ah [af 31 6 0,aj 32 31,bE 33 .lss 32,aa 30 33] (cT 30 (.cr [af 34 7 0,aj 35 34,af 36 6 0,aP 36 35 1]) (ah [af 38 7 1,aj 39 38,bp 40 .eql 39 51,aa 37 40] (cT 37 (av [aM 41 6 9,aP 8 41 9,bu 9,bQ 10,bu 11]) (ah [af 43 6 0,aj 44 43,af 45 7 0,aj 46 45,bA 47 .eql 44 46,aa 42 47] (cT 42 (av [aM 48 6 9,aP 8 48 9,bu 9,bQ 10,cE 11 17]) (av [aM 12 6 9,aP 8 12 9,bu 9,bQ 10,cE 11 29])))))))))))) (av [aM 49 6 9,aP 8 49 9,bu 9,gy 10,bu 11]))) [.c 8 9 true,.t 9,.t 10,.t 11] false none
def vT:F:=.mk (ah [bz 4 0 2,bz 5 1 4,iz 6 2 9,bz 7 3 5,cg 8 zR,bu 9,bQ 10,bu 11] (ah [af 15 6 3,aj 16 15,af 17 7 0,aj 18 17,cU 19 Q9 16 18,aa 14 19,bW 20 14 0,bW 21 14 1,aa 12 20,aa 13 21] (aQ (ah [af 22 7 1,aj 23 22] (.bV 0 (ah [bp 25 .eql 23 54,aa 24 25] (cT 24 (bU [aa 26 13,dx 27 26] 27 (av [aM 28 6 9,aP 8 28 9,bu 9,bQ 10,cE 11 20]) (ah [af 29 6 3,aj 30 29,lC 31 tw 30,aa 32 12,aa 33 12,bp 34 .add 33 1,I.nq 35 Rg [.t 31,.t 32,.t 34],af 36 6 3,aP 36 35 1] (av [aM 37 6 9,aP 8 37 9,bu 9,gy 10,bu 11]))) (ah [bp 39 .eql 23 56,aa 38 39] (dg 38 (bU [af 40 6 0,aj 41 40,af 42 7 0,aj 43 42,bA 44 .neq 41 43] 44 (av [aM 45 6 9,aP 8 45 9,bu 9,bQ 10,cE 11 20]) (ah [af 46 6 0,I.st (.t 46) (.k (.i .i64 (-1))) 1 false] (av [aM 47 6 9,aP 8 47 9,bu 9,gy 10,bu 11]))))))))) (bU [aa 48 13,aa 49 48,aX true 55 49 [af 50 6 0,aj 51 50,af 52 7 0,aj 53 52,bA 54 .eql 51 53] 54] 55 (av [aM 56 6 9,aP 8 56 9,bu 9,bQ 10,cE 11 17]) (bU [af 57 6 0,aj 58 57,bE 59 .geq 58,aa 60 59,aX true 70 60 [af 61 7 1,aj 62 61,bp 63 .eql 62 55,aa 64 63,aX false 69 64 [af 65 6 3,aj 66 65,cu 67 66,bE 68 .gtr 67] 68] 69] 70 (av [aM 71 6 9,aP 8 71 9,bu 9,bQ 10,cE 11 29]) (mT [af 72 7 1,aj 73 72,bp 74 .eql 73 55] 74 (.cr [af 75 7 0,aj 76 75,af 77 6 0,aP 77 76 1]) (.lX [] [0,1,3,4,5,6,2,7,8,9] [af 78 6 3,aj 79 78,aa 81 12,fy 82 7 0,eY 83 82,iA 84 1 1 [.i .i64 0] 83,lC 80 tw 79,I.nq 85 Ra [.t 80,.t 81,.t 84],af 86 6 3,aP 86 85 1]) (av [aM 87 6 9,aP 8 87 9,bu 9,gy 10,bu 11]))))))) [.c 8 9 true,.t 9,.t 10,.t 11] false none
def MM:F:=.mk (ah [I.mv 6 (.k (.sl 1 true []))] (ah [aa 8 0,aa 9 1,aa 10 2,aa 11 0,cu 12 11,I.qW 13 (.t 8) (.t 9) (.t 10) (.t 12) 1] (bU [aa 14 1,aa 15 2,bA 16 .eql 14 15] 16 (av [aa 17 0,aa 6 17]) (ah [aa 18 0,cu 19 18,aa 7 19] (eo [0,1,2,3,4,5,6,7] [aa 20 0,aa 21 1,mS 22 20 21 1,aa 23 0,aa 24 2,gR 25 23 24 1,iE 26 22 25 1,aa 0 26] (ah [aa 27 0,aa 28 0,cu 29 28,aa 30 7,I.sl 31 (.t 27) (some (.t 29)) (some (.t 30)) 1,I.qp none (.t 31) 1 [.i .i64 0]] (av [aa 32 0,aa 6 32]))))))) [.t 6] true none
def CH:F:=.mk (ah [bz 4 0 2,bz 5 1 4,iz 6 2 9,bz 7 3 5,cg 8 zR,bu 9,bQ 10,bu 11] (aQ (.bV 0 (ah [af 14 7 1,aj 15 14,bp 16 .eql 15 62,aa 17 16,aX false 26 17 [af 18 6 1,aj 19 18,af 20 7 2,aj 21 20,bA 22 .add 19 21,af 23 5 2,aj 24 23,bA 25 .gtr 22 24] 25,aa 13 26] (cT 13 (av [aM 27 6 9,aP 8 27 9,bu 9,bQ 10,cE 11 17]) (ah [af 29 7 1,aj 30 29,bp 31 .eql 30 62,aa 28 31] (cT 28 (.cr [af 32 6 1,aj 33 32,af 34 7 2,aj 35 34,bA 36 .add 33 35,af 37 6 1,aP 37 36 1]) (ah [af 39 6 1,aj 40 39,af 41 7 2,aj 42 41,bA 43 .geq 40 42,aa 38 43] (cT 38 (.cr [af 44 6 1,aj 45 44,af 46 7 2,aj 47 46,bA 48 .sub 45 47,af 49 6 1,aP 49 48 1]) (ah [af 51 7 1,aj 52 51,bp 53 .eql 52 61,aa 50 53] (cT 50 (av [aM 54 6 9,aP 8 54 9,bu 9,bQ 10,bu 11]) (av [aM 12 6 9,aP 8 12 9,bu 9,bQ 10,cE 11 29])))))))))) (av [aM 55 6 9,aP 8 55 9,bu 9,gy 10,bu 11]))) [.c 8 9 true,.t 9,.t 10,.t 11] false none
def HK:F:=.mk (ah [bz 3 0 2,bz 4 1 4,iz 5 2 9,bQ 6] (ah [af 8 5 8,aj 9 8,aa 7 9] (ah [af 10 5 8,I.st (.t 10) k0 1 false] (av [aa 11 7,bE 12 .geq 11,aa 13 12,aX false 18 13 [aa 14 7,af 15 4 2,aj 16 15,bA 17 .lss 14 16] 17,aa 19 18,aX false 27 19 [I.fa 20 (.t 3) 0 2,af 21 20 1,aj 22 21,aM 23 4 4,aM 24 5 9,tA 25 22 23 24,bE 26 .eql 25] 26,aa 6 27])))) [.t 6] false none
def HL:F:=.mk (ah [bz 4 0 2,bz 5 1 4,iz 6 2 9,bz 7 3 5,cg 8 zR,bu 9,bQ 10,bu 11] (ah [af 13 6 8,aj 14 13,aa 12 14] (ah [af 15 6 8,aj 16 15,bp 17 .add 16 1,af 18 6 8,aP 18 17 1] (bU [af 19 6 8,aj 20 19,af 21 5 2,aj 22 21,bA 23 .eql 20 22] 23 (bU [af 24 6 1,aj 25 24,bp 26 .eql 25 1099511627776] 26 (av [aM 27 6 9,aP 8 27 9,bu 9,bQ 10,cE 11 4]) (ah [af 28 6 8,I.st (.t 28) k0 1 false] (.cr [af 29 6 1,aj 30 29,bp 31 .add 30 1,af 32 6 1,aP 32 31 1]))) (av [aM 33 6 9,aa 34 12,aP 8 33 9,aa 9 34,gy 10,bu 11]))))) [.c 8 9 true,.t 9,.t 10,.t 11] false none
def MN:F:=.mk (ah [bz 3 0 2,bz 4 1 4,bz 5 2 9,bQ 6] (eo [0,1,2,3,4,5,6,7,8,9,10,11,12,13,14,15,16,17] [I.pJ 7 (.t 3) 0 2,fy 8 7 1,eY 9 8,gD 10 4 4,I.build 11 zR [(0,1,.k (.i .i64 (-1)))],tA 12 9 10 11,bE 13 .eql 12,aa 14 13,aX false 23 14 [I.pJ 15 (.t 3) 0 2,fy 16 15 1,eY 17 16,gD 18 4 4,dP 19 Eo 18,gD 20 5 9,tA 21 17 19 20,bE 22 .eql 21] 22,aa 6 23] .ret)) [.t 6] false none
def vU:F:=.mk (ah [bz 4 0 2,bz 5 1 4,iz 6 2 9,bz 7 3 5,cg 8 zR,bu 9,bQ 10,bu 11] (aQ (ah [af 13 7 1,aj 14 13] (.bV 0 (ah [bp 20 .eql 14 64,aa 19 20] (cT 19 (bU [af 21 6 7,aj 22 21] 22 (av [aM 23 6 9,aP 8 23 9,bu 9,bQ 10,bu 11]) (aQ (eo [0,1,2,3,4,5,6] [af 24 6 5,aj 25 24,cu 26 25,gD 27 5 4,dP 28 Eo 27,I.rY 29 (.t 28) 2 1 false,bA 30 .geq 26 29] (dg 30 (av [aM 31 6 9,aP 8 31 9,bu 9,bQ 10,cE 11 29]))) (.lX [] [0,1,3,4,5,2,6,7,8] [af 32 6 5,aj 33 32,fy 35 7 2,eY 36 35,iA 37 1 1 [.i .i64 0] 36,lC 34 tw 33,I.sk 38 (.t 34) (.t 37) 1,af 39 6 5,aP 39 38 1]))) (ah [bp 41 .eql 14 65,aa 40 41] (cT 40 (bU [af 42 6 5,aj 43 42,cu 44 43,bE 45 .eql 44] 45 (bU [af 46 6 7,aj 47 46] 47 (av [aM 48 6 9,aP 8 48 9,bu 9,bQ 10,bu 11]) (av [aM 49 6 9,aP 8 49 9,bu 9,bQ 10,cE 11 29])) (ah [af 50 6 5,aj 51 50,I.ji 52 (.t 51) k0 1,aj 53 52,aa 12 53] (ah [af 54 6 5,aj 55 54,I.sl 56 (.t 55) (some (cS 1)) none 1,I.nq 57 tw [.t 56],af 58 6 5,aP 58 57 1] (av [aM 59 6 9,aa 60 12,aP 8 59 9,aa 9 60,gy 10,bu 11])))) (bU [af 15 6 7,aj 16 15] 16 (av [aM 17 6 9,aP 8 17 9,bu 9,bQ 10,cE 11 17]) (.cr [af 18 6 7,I.st (.t 18) fO 1 false])))))))) (av [aM 61 6 9,aP 8 61 9,bu 9,gy 10,bu 11]))) [.c 8 9 true,.t 9,.t 10,.t 11] false none
def Su:F:=.mk (ah [iz 1 0 4,cg 2 [.s [],.i .i64 0,.i .i64 0,.i .i64 0]] (ah [af 3 1 2,aj 4 3,I.mx 5 (cS 1) (.t 4),af 6 1 2,aP 6 5 1] (av [aM 7 1 4,aP 2 7 4]))) [.c 2 4 true] false none
def MO:F:=.mk (ah [bz 3 0 2,bz 4 1 4,bz 5 2 9,bQ 6] (eo [0,1,2,3,4,5,6,7,8,9,10,11,12,13,14,15,16,17] [I.pJ 7 (.t 3) 0 2,fy 8 7 1,eY 9 8,gD 10 4 4,I.build 11 zR [(0,1,.k (.i .i64 (-1)))],tA 12 9 10 11,bE 13 .eql 12,aa 14 13,aX false 23 14 [I.pJ 15 (.t 3) 0 2,fy 16 15 1,eY 17 16,gD 18 4 4,dP 19 Eo 18,gD 20 5 9,tA 21 17 19 20,bE 22 .eql 21] 22,aa 6 23] .ret)) [.t 6] false none
def EZ:C :=ah [bA 33 .lss 32 31] (aQ (cT 33 .skip (aQ (.keep [6,8,14,15]) (.exit 1))) (aQ (.bV 2 (ah [aa 34 32,aa 16 34] (aQ (eo [0,1,2,3,4,5,6,7,8,9] [aa 35 14,aa 36 16,dc 37 35 36 2,af 38 37 1,aj 39 38,cu 40 39,gD 41 5 4,dP 42 Eo 41,I.rY 43 (.t 42) 2 1 false,bA 44 .geq 40 43] (dg 44 (ah [aM 45 6 9,aP 8 45 9,bu 9,bQ 10,cE 11 29] (aQ (.keep [8,9,10,11]) .ret)))) (.lX [] [0,1,2,3,4,5,6,8,9,10,7,11,12,13,14] [aa 46 14,aa 47 16,aa 48 14,aa 49 16,dc 50 48 49 2,af 51 50 1,aj 52 51,fy 54 7 2,eY 55 54,iA 56 1 1 [.i .i64 0] 55,lC 53 tw 52,I.sk 57 (.t 53) (.t 56) 1,dc 58 46 47 2,af 59 58 1,aP 59 57 1])))) (.cr [bp 60 .add 32 1,aa 32 60])))
def qx:F:=.mk (ah [bz 4 0 2,bz 5 1 4,iz 6 2 9,bz 7 3 5,cg 8 zR,bu 9,bQ 10,bu 11] (ah [af 18 6 6,aj 19 18,af 20 7 0,aj 21 20,I.call (some 22) Rk [.t 19,.t 21,.k (.fn Ep [] [])],aa 17 22,bW 23 17 0,bW 24 17 1,aa 12 23,aa 13 24] (ah [af 25 6 6,aj 26 25,lC 27 G6 26,aa 14 27] (ah [bu 15] (aQ (ah [af 28 7 1,aj 29 28] (.bV 0 (ah [bp 62 .eql 29 69,aa 61 62] (cT 61 (bU [aa 63 13] 63 (av [aM 64 6 9,aP 8 64 9,bu 9,bQ 10,cE 11 6]) (.cr [aa 65 14,aa 66 12,af 67 7 0,aj 68 67,I.build 69 [.i .i64 0,.sl 1 true []] [(0,1,.t 68)],iA 70 2 1 [.i .i64 0,.sl 1 true []] 69,I.nq 71 Q2 [.t 65,.t 66,.t 70],aa 14 71])) (ah [bp 73 .eql 29 71,aa 72 73] (cT 72 (bU [aa 74 13,dx 75 74] 75 (av [aM 76 6 9,aP 8 76 9,bu 9,bQ 10,cE 11 20]) (.cr [aa 77 14,aa 78 12,aa 79 12,bp 80 .add 79 1,I.nq 81 G2 [.t 77,.t 78,.t 80],aa 14 81])) (ah [bp 83 .eql 29 70,aa 82 83] (cT 82 (bU [aa 84 13,dx 85 84] 85 (av [aM 86 6 9,aP 8 86 9,bu 9,bQ 10,cE 11 20]) (bU [aa 87 14,aa 88 12,dc 89 87 88 2,af 90 89 1,aj 91 90,cu 92 91,bE 93 .eql 92] 93 (av [aM 94 6 9,aP 8 94 9,bu 9,bQ 10,cE 11 29]) (ah [aa 95 14,aa 96 12,dc 97 95 96 2,af 98 97 1,aj 99 98,I.ji 100 (.t 99) k0 1,aj 101 100,aa 15 101] (.cr [aa 102 14,aa 103 12,aa 104 14,aa 105 12,dc 106 104 105 2,af 107 106 1,aj 108 107,I.sl 109 (.t 108) (some (cS 1)) none 1,I.nq 110 tw [.t 109],dc 111 102 103 2,af 112 111 1,aP 112 110 1])))) (ah [aa 30 14,cu 31 30,bu 32] (.bV 1 (.loop [5,6,7,8,14,15,31,32] EZ))))))))))) (ah [aa 113 14,af 114 6 6,aP 114 113 1] (av [aM 115 6 9,aa 116 15,aP 8 115 9,aa 9 116,gy 10,bu 11]))))))) [.c 8 9 true,.t 9,.t 10,.t 11] false none
def HM:C :=mT [aa 15 9,aa 16 10,bA 17 .lss 15 16] 17 .skip (aQ (.keep [0,1,2,8,9]) (.exit 0)) (.bV 1 (ah [aa 18 9,aa 19 10,bA 20 .add 18 19,I.kB 21 .u64 (.t 20),I.bin 22 .shr (.t 21) (.k (.i .u64 1)),I.kB 23 .i64 (.t 22),aa 11 23] (ah [aa 24 2,aa 25 0,aa 26 11,dc 27 25 26 2,aM 28 27 2,aa 29 1,tA 30 24 28 29,bE 31 .lss 30] (cT 31 (.cr [aa 32 11,bp 33 .add 32 1,aa 9 33]) (.cr [aa 34 11,aa 10 34])))))
def MP:F:=.mk (ah [bu 6,bQ 7] (ah [aa 12 0,cu 13 12,aa 8 13] (ah [aa 14 8,bu 9,aa 10 14] (aQ (.bV 0 (.loop [0,1,2,8,9,10] HM)) (av [aa 35 9,aa 36 9,aa 37 8,bA 38 .lss 36 37,aa 39 38,aX false 48 39 [aa 40 2,aa 41 0,aa 42 9,dc 43 41 42 2,aM 44 43 2,aa 45 1,tA 46 40 44 45,bE 47 .eql 46] 47,aa 6 35,aa 7 48]))))) [.t 6,.t 7] false none
def Sv:F:=.mk (ah [bz 2 0 2,bu 4] (av [af 5 2 0,aj 6 5,aa 7 1,bA 8 .sub 6 7,aa 4 8])) [.t 4] false none
def AT:F:=.mk (ah [bz 4 0 2,bz 5 1 4,iz 6 2 9,bz 7 3 5,cg 8 zR,bu 9,bQ 10,bu 11] (bU [af 13 7 4,aj 14 13,af 15 6 2,aj 16 15,bA 17 .lss 14 16] 17 (av [aM 18 6 9,aP 8 18 9,bu 9,bQ 10,cE 11 2]) (ah [af 19 7 4,aj 20 19,af 21 6 2,aj 22 21,bA 23 .sub 20 22,af 24 5 3,aj 25 24,bA 26 .quo 23 25,aa 12 26] (mT [aa 27 12,af 28 5 2,aj 29 28,af 30 6 1,aj 31 30,bA 32 .sub 29 31,bA 33 .geq 27 32] 33 (.lX [] [0,1,2,3,4,5,6,7] [fy 34 5 2,eY 35 34,fy 36 7 4,eY 37 36,af 38 6 1,aP 38 35 1,af 39 6 2,aP 39 37 1]) (.lX [] [0,1,2,3,4,5,6,7,8,9,10,11,12,13,14] [af 40 6 1,aj 41 40,aa 42 12,bA 43 .add 41 42,af 44 6 2,aj 45 44,aa 46 12,fy 47 5 3,eY 48 47,bA 49 .mul 46 48,bA 50 .add 45 49,af 51 6 1,aP 51 43 1,af 52 6 2,aP 52 50 1]) (bU [af 53 7 1,aj 54 53,bp 55 .eql 54 72] 55 (bU [af 56 6 1,aj 57 56,af 58 7 2,aj 59 58,bA 60 .lss 57 59] 60 (av [aM 61 6 9,aP 8 61 9,bu 9,bQ 10,cE 11 29]) (.cr [af 62 6 1,aj 63 62,af 64 7 2,aj 65 64,bA 66 .sub 63 65,af 67 6 1,aP 67 66 1])) (av [aM 68 6 9,aP 8 68 9,bu 9,gy 10,bu 11])))))) [.c 8 9 true,.t 9,.t 10,.t 11] false none
def E0:F:=.mk (ah [bz 4 0 2,bz 5 1 4,iz 6 2 9,bz 7 3 5,cg 8 zR,bu 9,bQ 10,bu 11] (aQ (.bV 0 (ah [af 13 7 1,aj 14 13,bp 15 .eql 14 74,aa 16 15,aX false 20 16 [af 17 6 7,aj 18 17,dx 19 18] 19,aa 12 20] (cT 12 (av [aM 21 6 9,aP 8 21 9,bu 9,bQ 10,cE 11 29]) (ah [af 23 7 1,aj 24 23,bp 25 .eql 24 74,aa 22 25] (cT 22 (eo [0,1,2,3,4,5,6] [aM 26 6 9,af 27 6 8,aj 28 27,aP 8 26 9,.re (.fa 27 (.t 6) 8 1),.re (.ld 28 (.t 27) 1 false),aa 9 28,gy 10,bu 11] .ret) (ah [af 30 6 7,aj 31 30,aa 29 31] (dg 29 (av [aM 32 6 9,aP 8 32 9,bu 9,bQ 10,cE 11 17])))))))) (eo [0,1,2,3,4,5] [fy 33 7 2,eY 34 33,af 35 6 7,I.st (.t 35) fO 1 false,af 36 6 8,aP 36 34 1] (av [aM 37 6 9,aP 8 37 9,bu 9,gy 10,bu 11])))) [.c 8 9 true,.t 9,.t 10,.t 11] false none
def Xw:F:=⟨.skip,[],true,some (l5 1)⟩
def Xx:F:=⟨.skip,[],true,some (l5 2)⟩
def Xy:F:=⟨.skip,[],true,some (l5 5)⟩
def MQ:List (Nat×F):=[(11,Cu),(13,LD),(14,Rl),(15,dm),(17,LF),(18,Rn),(20,Cv),(23,vM),(25,Hh),(29,LG),(30,LH),(31,LJ),(32,Ro),(33,LL),(34,vN),(35,Rq),(36,Rr),(37,vO),(38,xP),(42,LN),(43,LP),(44,LR),(45,Rs),(57,Hj),(62,Er),(63,Es),(64,yY),(65,ac4),(66,ac5),(67,Et),(68,Eu),(69,gW),(70,ac6),(71,ac7),(72,LS),(73,uF),(74,yZ),(75,ac8),(76,ac9),(77,LU),(78,uG),(79,y4),(80,ada),(81,adb),(82,LV),(83,Ey),(84,jk),(85,ade),(86,adf),(87,LW),(88,Cx),(89,nu),(90,adg),(91,adh),(92,LX),(93,uH),(94,y5),(95,adi),(96,adj),(97,LY),(98,EA),(99,Cy),(100,adk),(101,adl),(102,Rt),(103,Ru),(104,L2),(123,EB),(125,ED),(126,Rv),(127,L3),(128,Rw),(129,Rx),(20129,adm),(130,EE),(131,L4),(132,EF),(133,Rz),(134,L5),(135,EG),(136,L6),(137,nx),(138,L7),(139,RA),(140,AJ),(141,ny),(142,y6),(143,EH),(144,AK),(145,L8),(146,EI),(147,L9),(148,RC),(149,Ma),(150,Mb),(151,Mc),(152,RD),(153,qw),(10153,Md),(154,RE),(155,RF),(156,vR),(157,RG),(158,RH),(159,RI),(160,Me),(161,EK),(162,RJ),(163,Mi),(164,vS),(165,RK),(166,RL),(167,Mj),(168,Mk),(169,RM),(170,EM),(171,xQ),(172,uI),(173,RN),(174,RO),(175,Ml),(176,AN),(177,Hx),(178,EN),(179,AO),(180,Mm),(181,RP),(182,RQ),(183,y7),(184,RS),(185,RT),(186,Mo),(187,Hy),(188,Mp),(206,RU),(207,EO),(208,Mq),(209,Hz),(210,RW),(211,Ms),(20211,ado),(30211,RX),(212,RY),(213,tB),(214,rA),(10214,Mt),(215,RZ),(216,CC),(217,R0),(20217,R1),(218,HA),(219,R2),(220,R3),(221,R5),(222,R6),(223,R7),(224,Mw),(225,Mx),(226,R8),(227,My),(228,Mz),(229,y8),(230,uJ),(231,rB),(232,oH),(233,ET),(234,AP),(235,R9),(236,AQ),(238,Sa),(239,Sb),(240,MA),(241,Sc),(242,Sd),(243,Se),(244,Sf),(245,Sg),(246,MC),(247,Sh),(248,MD),(249,HD),(257,Si),(258,ME),(259,Sj),(261,Sk),(262,HG),(20262,EV),(264,EW),(265,HH),(266,EX),(267,Sl),(268,EY),(269,MG),(270,CE),(271,CF),(272,AR),(274,ads),(275,Sm),(276,Sn),(277,MI),(278,So),(281,HI),(283,adt),(284,MJ),(285,MK),(287,adu),(288,Sq),(289,HJ),(290,Sr),(291,adw),(292,adx),(293,ady),(294,adA),(295,adC),(296,adE),(312,CG),(313,Ss),(314,ML),(315,AS),(319,vT),(321,MM),(322,CH),(324,HK),(325,HL),(327,MN),(328,vU),(330,Su),(332,MO),(333,qx),(335,MP),(336,Sv),(339,AT),(341,E0)]
def P:Prog:=λn=>match MQ.lookup n with
 |some F=>some F
 |none=>match n with
  | 263=>some Xw
  | 237=>some Xx
  | 260=>some Xy
  |_=>none
theorem Xz:P Ed=some Cu:=rfl
theorem adF:P Qe=some LD:=rfl
theorem adG:P GR=some Rl:=rfl
theorem y9:P sZ=some dm:=rfl
theorem adH:P Qf=some LF:=rfl
theorem adI:P KB=some Rn:=rfl
theorem XA:P Ee=some Cv:=rfl
theorem adJ:P KC=some vM:=rfl
theorem adK:P KD=some Hh:=rfl
theorem XB:P KE=some LG:=rfl
theorem adL:P Qg=some LH:=rfl
theorem adM:P Qh=some LJ:=rfl
theorem adN:P Qi=some Ro:=rfl
theorem adO:P KF=some LL:=rfl
theorem adP:P Qj=some vN:=rfl
theorem adQ:P Az=some Rq:=rfl
theorem adR:P Qk=some Rr:=rfl
theorem za:P qt=some vO:=rfl
theorem AU:P xI=some xP:=rfl
theorem adS:P GU=some LN:=rfl
theorem adT:P Ql=some LP:=rfl
theorem adU:P Qm=some LR:=rfl
theorem adV:P GV=some Rs:=rfl
theorem Sw:P uD=some Hj:=rfl
theorem XC:P sq=some Er:=rfl
theorem XD:P pM=some Es:=rfl
theorem CI:P AA=some yY:=rfl
theorem XE:P su=some Et:=rfl
theorem XF:P lz=some Eu:=rfl
theorem oI:P pN=some gW:=rfl
theorem adW:P s9=some LS:=rfl
theorem XG:P qu=some uF:=rfl
theorem Sx:P AB=some yZ:=rfl
theorem adX:P tc=some LU:=rfl
theorem XH:P oF=some uG:=rfl
theorem XI:P Ci=some y4:=rfl
theorem adY:P tg=some LV:=rfl
theorem XJ:P gp=some Ey:=rfl
theorem j8:P iP=some jk:=rfl
theorem adZ:P th=some LW:=rfl
theorem ad0:P rq=some Cx:=rfl
theorem E1:P vJ=some nu:=rfl
theorem ad1:P tj=some LX:=rfl
theorem XK:P nT=some uH:=rfl
theorem XL:P Cj=some y5:=rfl
theorem ad2:P tr=some LY:=rfl
theorem XM:P pP=some EA:=rfl
theorem XN:P Ck=some Cy:=rfl
theorem ad3:P Ef=some Rt:=rfl
theorem ad4:P GW=some Ru:=rfl
theorem ad5:P Cm=some L2:=rfl
theorem MR:P xJ=some EB:=rfl
theorem XO:P KG=some ED:=rfl
theorem ad6:P Qn=some Rv:=rfl
theorem XP:P GX=some L3:=rfl
theorem ad7:P KH=some Rw:=rfl
theorem ad8:P xK=some Rx:=rfl
theorem XQ:P KI=some EE:=rfl
theorem XR:P Eg=some L4:=rfl
theorem XS:P iQ=some EF:=rfl
theorem ad9:P GY=some Rz:=rfl
theorem aea:P KJ=some L5:=rfl
theorem XT:P Eh=some EG:=rfl
theorem XU:P Cn=some L6:=rfl
theorem oJ:P Xu=some nx:=rfl
theorem aeb:P Qo=some L7:=rfl
theorem aec:P KK=some RA:=rfl
theorem E2:P tv=some AJ:=rfl
theorem oK:P Qp=some ny:=rfl
theorem MS:P qv=some y6:=rfl
theorem aed:P Qq=some EH:=rfl
theorem aee:P Qr=some AK:=rfl
theorem aef:P Qt=some L8:=rfl
theorem aeg:P KL=some EI:=rfl
theorem aeh:P Qu=some L9:=rfl
theorem aei:P Qv=some RC:=rfl
theorem aej:P Qw=some Ma:=rfl
theorem aek:P KM=some Mb:=rfl
theorem ael:P GZ=some Mc:=rfl
theorem aem:P Qx=some RD:=rfl
theorem MT:P sv=some qw:=rfl
theorem aen:P Qy=some Md:=rfl
theorem aeo:P Qz=some RE:=rfl
theorem aep:P KN=some RF:=rfl
theorem XV:P KO=some vR:=rfl
theorem aer:P QA=some RG:=rfl
theorem aes:P QB=some RH:=rfl
theorem aet:P QC=some RI:=rfl
theorem XW:P G0=some Me:=rfl
theorem Sy:P G1=some EK:=rfl
theorem aeu:P QD=some RJ:=rfl
theorem aev:P QE=some Mi:=rfl
theorem aew:P QF=some vS:=rfl
theorem aex:P KP=some RK:=rfl
theorem aey:P QG=some RL:=rfl
theorem aez:P QH=some Mj:=rfl
theorem aeA:P QI=some Mk:=rfl
theorem aeB:P yV=some RM:=rfl
theorem XX:P G2=some EM:=rfl
theorem aeC:P Ei=some xQ:=rfl
theorem aeD:P QJ=some uI:=rfl
theorem aeE:P G3=some RN:=rfl
theorem aeF:P AD=some RO:=rfl
theorem aeG:P KQ=some Ml:=rfl
theorem aeH:P KR=some AN:=rfl
theorem XY:P KS=some Hx:=rfl
theorem XZ:P KT=some EN:=rfl
theorem X0:P KU=some AO:=rfl
theorem aeI:P QK=some Mm:=rfl
theorem aeJ:P QL=some RP:=rfl
theorem aeK:P KV=some RQ:=rfl
theorem X1:P KW=some y7:=rfl
theorem aeL:P KX=some RS:=rfl
theorem aeM:P KY=some RT:=rfl
theorem aeN:P QM=some Mo:=rfl
theorem aeO:P QN=some Hy:=rfl
theorem X2:P KZ=some Mp:=rfl
theorem aeP:P K0=some RU:=rfl
theorem Sz:P G4=some EO:=rfl
theorem X3:P K1=some Mq:=rfl
theorem SA:P K2=some Hz:=rfl
theorem aeQ:P K3=some RW:=rfl
theorem aeR:P QO=some Ms:=rfl
theorem aeS:P QS=some RX:=rfl
theorem aeT:P Ej=some RY:=rfl
theorem X4:P K4=some tB:=rfl
theorem SB:P tw=some rA:=rfl
theorem aeU:P QT=some Mt:=rfl
theorem aeV:P QU=some RZ:=rfl
theorem HN:P xL=some CC:=rfl
theorem aeW:P QV=some R0:=rfl
theorem aeX:P QW=some R1:=rfl
theorem SC:P Ek=some HA:=rfl
theorem aeY:P QX=some R2:=rfl
theorem aeZ:P K5=some R3:=rfl
theorem ae0:P K6=some R5:=rfl
theorem ae1:P K7=some R6:=rfl
theorem ae2:P K8=some R7:=rfl
theorem ae3:P K9=some Mw:=rfl
theorem ae4:P QY=some Mx:=rfl
theorem ae5:P G5=some R8:=rfl
theorem ae6:P QZ=some My:=rfl
theorem X5:P La=some Mz:=rfl
theorem HO:P AE=some y8:=rfl
theorem HP:P yW=some uJ:=rfl
theorem vV:P sw=some rB:=rfl
theorem vW:P pQ=some oH:=rfl
theorem MU:P Co=some ET:=rfl
theorem MW:P AF=some AP:=rfl
theorem ae7:P Lb=some R9:=rfl
theorem X6:P G6=some AQ:=rfl
theorem ae8:P Lc=some Sa:=rfl
theorem ae9:P Q3=some Sb:=rfl
theorem X7:P G7=some MA:=rfl
theorem afa:P Q4=some Sc:=rfl
theorem afb:P Ld=some Sd:=rfl
theorem afc:P G8=some Se:=rfl
theorem afd:P Lf=some Sf:=rfl
theorem afe:P G9=some Sg:=rfl
theorem aff:P Q5=some MC:=rfl
theorem afg:P Lg=some Sh:=rfl
theorem X8:P Lh=some MD:=rfl
theorem X9:P Li=some HD:=rfl
theorem afh:P Q6=some Si:=rfl
theorem afi:P El=some ME:=rfl
theorem afj:P Q7=some Sj:=rfl
theorem afk:P Q8=some Sk:=rfl
theorem SD:P Q9=some HG:=rfl
theorem MX:P Lj=some EV:=rfl
theorem SE:P AG=some EW:=rfl
theorem afl:P Ll=some HH:=rfl
theorem afm:P Lm=some EX:=rfl
theorem afn:P Ln=some Sl:=rfl
theorem SF:P Em=some EY:=rfl
theorem Ya:P Cq=some MG:=rfl
theorem HQ:P uE=some CE:=rfl
theorem MY:P Cr=some CF:=rfl
theorem SG:P xM=some AR:=rfl
theorem afo:P Lo=some Sm:=rfl
theorem afp:P He=some Sn:=rfl
theorem afq:P Rb=some MI:=rfl
theorem afr:P Lp=some So:=rfl
theorem SH:P AH=some HI:=rfl
theorem Yb:P Hf=some MJ:=rfl
theorem Yc:P Cs=some MK:=rfl
theorem afs:P Lq=some Sq:=rfl
theorem Yd:P Lr=some HJ:=rfl
theorem aft:P En=some Sr:=rfl
theorem HR:P vK=some CG:=rfl
theorem afu:P oG=some Ss:=rfl
theorem afv:P xN=some ML:=rfl
theorem afw:P Ls=some AS:=rfl
theorem afx:P Lt=some vT:=rfl
theorem afy:P Rg=some MM:=rfl
theorem afz:P Lu=some CH:=rfl
theorem afA:P Rh=some HK:=rfl
theorem afB:P Lv=some HL:=rfl
theorem afC:P Ri=some MN:=rfl
theorem afD:P Lw=some vU:=rfl
theorem afE:P Eo=some Su:=rfl
theorem afF:P Rj=some MO:=rfl
theorem HS:P Ct=some qx:=rfl
theorem Ye:P Rk=some MP:=rfl
theorem afG:P Ep=some Sv:=rfl
theorem afH:P Lz=some AT:=rfl
theorem afI:P LA=some E0:=rfl
theorem MZ:P Ra=some Xw:=rfl
theorem Yf:P Q2=some Xx:=rfl
theorem afJ:P Xv=some Xy:=rfl
end Go.VS
