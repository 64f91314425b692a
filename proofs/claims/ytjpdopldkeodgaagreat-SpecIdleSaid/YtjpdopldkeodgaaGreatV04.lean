import Derived.Test.YtjpdopldkeodgaaGreatV03
set_option linter.all false
set_option maxHeartbeats 1000000
namespace Go.VS
def EC:Nat:=12
def Q8:Nat:=13
def Lo:Nat:=14
def uM:Nat:=15
def ED:Nat:=18
def EE:Nat:=20
def Lp:Nat:=23
def x7:Nat:=27
def Lq:Nat:=29
def A4:Nat:=35
def Q9:Nat:=36
def qK:Nat:=37
def x8:Nat:=38
def HC:Nat:=45
def qL:Nat:=57
def HD:Nat:=58
def sM:Nat:=62
def oS:Nat:=63
def A5:Nat:=64
def EF:Nat:=65
def Ya:Nat:=66
def sN:Nat:=67
def jB:Nat:=68
def oT:Nat:=69
def A6:Nat:=70
def Yb:Nat:=71
def tF:Nat:=72
def p8:Nat:=73
def zu:Nat:=74
def CN:Nat:=75
def Yc:Nat:=76
def tG:Nat:=77
def nJ:Nat:=78
def A7:Nat:=79
def Lr:Nat:=80
def Yd:Nat:=81
def tH:Nat:=82
def gn:Nat:=83
def iR:Nat:=84
def Ls:Nat:=85
def Ye:Nat:=86
def tJ:Nat:=87
def rS:Nat:=88
def uN:Nat:=89
def HE:Nat:=90
def Yf:Nat:=91
def tK:Nat:=92
def ng:Nat:=93
def zw:Nat:=94
def Lt:Nat:=95
def Yg:Nat:=96
def tL:Nat:=97
def oU:Nat:=98
def A8:Nat:=99
def Lu:Nat:=100
def Yh:Nat:=101
def Lv:Nat:=102
def x9:Nat:=123
def Lw:Nat:=125
def Ra:Nat:=126
def HF:Nat:=127
def Lz:Nat:=128
def vW:Nat:=129
def Rb:Nat:=20129
def LA:Nat:=130
def EG:Nat:=131
def jd:Nat:=132
def HG:Nat:=133
def LB:Nat:=134
def EH:Nat:=135
def CO:Nat:=136
def Yi:Nat:=137
def Rc:Nat:=138
def LC:Nat:=139
def tM:Nat:=140
def Re:Nat:=141
def qM:Nat:=142
def Rf:Nat:=143
def Rg:Nat:=144
def Rh:Nat:=145
def LD:Nat:=146
def Ri:Nat:=147
def Rj:Nat:=148
def Rk:Nat:=149
def LF:Nat:=150
def HH:Nat:=151
def Rl:Nat:=152
def sO:Nat:=153
def Rn:Nat:=10153
def Ro:Nat:=154
def HI:Nat:=155
def LG:Nat:=156
def Rq:Nat:=157
def Rr:Nat:=158
def Rs:Nat:=159
def HJ:Nat:=160
def HK:Nat:=161
def Rt:Nat:=162
def Ru:Nat:=163
def Rv:Nat:=164
def LH:Nat:=165
def Rw:Nat:=166
def Rx:Nat:=167
def Rz:Nat:=168
def zx:Nat:=169
def HL:Nat:=170
def EI:Nat:=171
def RA:Nat:=172
def HM:Nat:=173
def A9:Nat:=174
def LI:Nat:=175
def LJ:Nat:=176
def LL:Nat:=177
def LM:Nat:=178
def LN:Nat:=179
def RB:Nat:=180
def RC:Nat:=181
def HN:Nat:=182
def LO:Nat:=183
def LP:Nat:=184
def HO:Nat:=185
def RD:Nat:=186
def RE:Nat:=187
def LQ:Nat:=206
def HP:Nat:=207
def LR:Nat:=208
def LS:Nat:=209
def LU:Nat:=210
def LV:Nat:=211
def RF:Nat:=20211
def RG:Nat:=30211
def uO:Nat:=212
def LW:Nat:=213
def tN:Nat:=214
def RH:Nat:=10214
def RI:Nat:=215
def ya:Nat:=216
def RJ:Nat:=217
def RK:Nat:=20217
def EJ:Nat:=218
def RL:Nat:=219
def LX:Nat:=220
def LY:Nat:=221
def LZ:Nat:=222
def L0:Nat:=223
def L1:Nat:=224
def RM:Nat:=225
def HQ:Nat:=226
def RN:Nat:=227
def L2:Nat:=228
def Ba:Nat:=229
def zy:Nat:=230
def sP:Nat:=231
def p9:Nat:=232
def CP:Nat:=233
def Bb:Nat:=234
def L3:Nat:=235
def HR:Nat:=236
def RO:Nat:=237
def L4:Nat:=238
def RP:Nat:=239
def HS:Nat:=240
def L5:Nat:=241
def L6:Nat:=242
def HT:Nat:=243
def L7:Nat:=244
def HU:Nat:=245
def RQ:Nat:=246
def L8:Nat:=247
def L9:Nat:=248
def Ma:Nat:=249
def RS:Nat:=257
def EK:Nat:=258
def RT:Nat:=259
def Yj:Nat:=260
def RU:Nat:=261
def RW:Nat:=262
def Mb:Nat:=20262
def RX:Nat:=263
def Bc:Nat:=264
def Mc:Nat:=265
def Md:Nat:=266
def Me:Nat:=267
def EL:Nat:=268
def CQ:Nat:=269
def uP:Nat:=270
def CR:Nat:=271
def yc:Nat:=272
def acR:Nat:=273
def acT:Nat:=274
def Mf:Nat:=275
def HV:Nat:=276
def RY:Nat:=277
def Mg:Nat:=278
def Bd:Nat:=281
def acU:Nat:=282
def acV:Nat:=283
def HW:Nat:=284
def CT:Nat:=285
def acW:Nat:=286
def acX:Nat:=287
def Mh:Nat:=288
def Mi:Nat:=289
def EM:Nat:=290
def acY:Nat:=291
def acZ:Nat:=292
def ac0:Nat:=293
def RZ:Nat:=294
def R0:Nat:=295
def R1:Nat:=296
def vX:Nat:=312
def oW:Nat:=313
def yd:Nat:=314
def Mj:Nat:=315
def R2:Nat:=316
def EN:Nat:=317
def CU:Nat:=318
def Mk:Nat:=319
def R3:Nat:=320
def R5:Nat:=321
def Ml:Nat:=322
def R6:Nat:=323
def R7:Nat:=324
def Mm:Nat:=325
def R8:Nat:=326
def R9:Nat:=327
def Mn:Nat:=328
def Sa:Nat:=329
def EO:Nat:=330
def Mo:Nat:=331
def Sb:Nat:=332
def CV:Nat:=333
def Sc:Nat:=334
def Sd:Nat:=335
def EP:Nat:=336
def Mp:Nat:=337
def Mq:Nat:=338
def Mr:Nat:=339
def Se:Nat:=340
def Ms:Nat:=341
def Sf:Nat:=342
@[simp] def zR:List D:=[(.i .i64 0),(.i .i64 0),(.i .i64 0),(.sl 1 true []),(.sl 5 true []),(.sl 1 true []),(.sl 2 true []),(.b false),(.i .i64 0)]
@[simp] def zQ:List D:=[(.i .i64 0),(.i .i64 0),(.i .i64 0),(.i .i64 0),(.i .i64 0)]
@[simp] def k0:A:=.k (.i .i64 0)
@[simp] def ct:List D:=[(.i .i64 0),(.i .i64 0),(.i .i64 0),(.sl 1 true []),(.sl 5 true []),(.sl 1 true []),(.sl 2 true []),(.b false),(.i .i64 0),(.b false),(.i .i64 0),(.b false),(.sl 5 true [])]
@[simp] def lI:List D:=[(.i .i64 0),(.i .i64 0),(.i .i64 0),(.b false),(.i .i64 0)]
@[simp] def fR:A:=.k (.b true)
@[simp] def HX:A:=.k (.b false)
@[simp] def cW(n:Int):A:=.k (.i .i64 n)
instance:Coe I J:=⟨J.op⟩
@[simp] def aa(d x:Nat):J:=.op (.mv d (.t x))
@[simp] def cF(d:Nat)(n:Int):J:=.op (.mv d (cW n))
@[simp] def bz(d:Nat):J:=.op (.mv d k0)
@[simp] def bS(d:Nat):J:=.op (.mv d HX)
@[simp] def ia(d:Nat):J:=.op (.mv d fR)
@[simp] def aj(d x:Nat):J:=.op (.ld d (.t x) 1 false)
@[simp] def aM(d x n:Nat):J:=.op (.ld d (.t x) n true)
@[simp] def fE(d x:Nat):J:=.op (.sI d (.t x) 1 false)
@[simp] def iD(d x n:Nat):J:=.op (.sI d (.t x) n true)
@[simp] def af(d x o:Nat):J:=.op (.fa d (.t x) o 1)
@[simp] def fJ(d x o:Nat):J:=.op (.p5 d (.t x) o 1)
@[simp] def aQ(x y n:Nat):J:=.op (.st (.t x) (.t y) n false)
@[simp] def eD(x y n:Nat):J:=.op (.st (.t x) (.t y) n true)
@[simp] def bp(d x n:Nat):J:=.op (.box d (.t x) n true)
@[simp] def iS(d x n:Nat):J:=.op (.box d (.t x) n false)
@[simp] def cA(d x:Nat):J:=.op (.len d (.t x) .sl)
@[simp] def cg(d x i:Nat):J:=.op (.ext d (.t x) i)
@[simp] def dj(d x:Nat):J:=.op (.un d .not (.t x))
@[simp] def cL(d x:Nat):J:=.op (.tD d (.t x))
@[simp] def dI(d x i n:Nat):J:=.op (.jm d (.t x) (.t i) n)
@[simp] def cm(d:Nat)(z:List D):J:=.op (.new d z)
@[simp] def dS(d:Nat)(z:List D):J:=.op (.build d z [])
@[simp] def bJ(d:Nat)(o:BinOp)(x y:Nat):J:=.op (.bin d o (.t x) (.t y))
@[simp] def bu(d:Nat)(o:BinOp)(x:Nat)(n:Int):J:=.op (.bin d o (.t x) (cW n))
@[simp] def bM(d:Nat)(o:BinOp)(x:Nat):J:=.op (.bin d o (.t x) k0)
@[simp] def zA(d f:Nat):J:=.op (.call (some d) f [])
@[simp] def eH(d f a:Nat):J:=.op (.call (some d) f [.t a])
@[simp] def cU(d f a b:Nat):J:=.op (.call (some d) f [.t a,.t b])
@[simp] def jC(d f a b c:Nat):J:=.op (.call (some d) f [.t a,.t b,.t c])
@[simp] def qg(d f a:Nat):J:=.op (.jo (some d) f [.t a])
@[simp] def oq(d f a b:Nat):J:=.op (.jo (some d) f [.t a,.t b])
@[simp] def zB(d f a b c:Nat):J:=.op (.jo (some d) f [.t a,.t b,.t c])
@[simp] def lJ(d f a:Nat):J:=.op (.nF (some d) f [.t a])
@[simp] def uQ(d x a:Nat):J:=.op (.nG (some d) (.t x) [.t a])
@[simp] def tP(d x a b:Nat):J:=.op (.nG (some d) (.t x) [.t a,.t b])
@[simp] def Mt(d x:Nat)(n:Int):J:=.op (.nG (some d) (.t x) [cW n])
@[simp] def bk(o:Bool)(d c:Nat)(l:List J)(x:Nat):J:=.sc o d c l (.t x)
@[simp] def je(d x y n:Nat):J:=.op (.app d (.t x) (.t y) n)
@[simp] def gR(d x a n:Nat):J:=.op (.sl d (.t x) (some (.t a)) none n)
@[simp] def ou(d x a n:Nat):J:=.op (.sl d (.t x) none (some (.t a)) n)
@[simp] def jf(d e n:Nat)(z:List D)(x:Nat):J:=.op (.mZ d e n z [(0,.t x)] true)
@[simp] def ah(l:List J)(b:C):C:=.seq (.cB l) b
@[simp] def fy(p:List Nat)(l:List J)(b:C):C:=.seq (.mG [] p l) b
@[simp] def cX(n:Nat)(a b:C):C:=.ite (.t n) a b
@[simp] def dA(n:Nat)(a:C):C:=.ite (.t n) a .skip
@[simp] def bZ(l:List J)(n:Nat)(a b:C):C:=.seq (.seq (.cB l) (.ite (.t n) a .skip)) b
@[simp] def oX(l:List J)(n:Nat)(a b c:C):C:=.seq (.seq (.cB l) (.ite (.t n) a b)) c
@[simp] def aA(l:List J):C:=.seq (.cB l) .ret
@[simp] def br(a b:C):C:=.seq a b
def HY:F:=.mk (ah [bp 4 0 4,bp 5 1 9,bp 6 2 5,bS 8] (ah [af 18 4 1,aj 19 18,eH 20 Lq 19,aa 17 20,cg 21 17 0,cg 22 17 1,cm 9 [.cN,.cN,.cN,.cN,.cN],eD 9 21 5,aa 10 22] (bZ [aM 23 5 9,eH 24 Q8 23,aa 25 24,bk true 28 25 [aa 26 10,dj 27 26] 27] 28 (aA [aa 29 10,aa 30 29,bk true 35 30 [aM 31 4 4,aM 32 5 9,cU 33 x7 31 32,dj 34 33] 34,aa 36 35,bk false 38 36 [zA 37 Lo] 37,aa 8 38]) (ah [af 40 9 0,aj 41 40,aM 42 4 4,uQ 43 41 42,aa 39 43,cg 44 39 0,cg 45 39 1,cm 11 zR,eD 11 44 9,aa 12 45] (ah [af 47 9 2,aj 48 47,aM 49 4 4,aM 50 5 9,aM 51 6 5,I.nG (some 52) (.t 48) [.t 49,.t 50,.t 51],aa 46 52,cg 53 46 0,cg 54 46 1,cm 13 ct,eD 13 53 13,aa 14 54] (ah [af 56 9 3,aj 57 56,aM 58 4 4,aM 59 5 9,aa 60 3,I.nG (some 61) (.t 57) [.t 58,.t 59,.t 60],aa 55 61,cg 62 55 0,cg 63 55 1,cm 15 ct,eD 15 62 13,aa 16 63] (bZ [aa 64 12,bM 65 .eql 64,aa 66 65,bk false 71 66 [aM 67 4 4,aM 68 11 9,cU 69 x7 67 68,dj 70 69] 70,aa 72 71,bk true 82 72 [aa 73 14,bM 74 .eql 73,aa 75 74,bk false 81 75 [aM 76 4 4,I.fa 77 (.t 13) 0 9,aM 78 77 9,cU 79 x7 76 78,dj 80 79] 80] 81] 82 (aA [bS 8]) (aA [aa 83 16,bM 84 .neq 83,aa 85 84,bk true 89 85 [af 86 4 1,aj 87 86,bu 88 .eql 87 8] 88,aa 90 89,bk true 95 90 [aM 91 4 4,I.fa 92 (.t 15) 0 9,aM 93 92 9,cU 94 x7 91 93] 94,aa 96 95,bk false 98 96 [zA 97 Lo] 97,aa 8 98])))))))) [.t 8] false none
def Mu:C :=oX [aa 26 3,af 27 1 6,aj 28 27,cA 29 28,bJ 30 .lss 26 29] 30 .skip (br (.keep []) (.exit 0)) (br (.cr 1 (ah [af 33 1 6,aj 34 33,aa 35 3,dI 36 34 35 2,af 37 36 1,aj 38 37,cA 39 38,bu 40 .gtr 39 120] (dA 40 (ah [ia 2] (br (.keep [2]) .ret))))) (.cB [aa 31 3,bu 32 .add 31 1,aa 3 32]))
def Mv:F:=.mk (ah [bp 1 0 9,bS 2] (bZ [af 4 1 3,aj 5 4,cA 6 5,bu 7 .gtr 6 40,aa 8 7,bk true 13 8 [af 9 1 4,aj 10 9,cA 11 10,bu 12 .gtr 11 40] 12,aa 14 13,bk true 19 14 [af 15 1 5,aj 16 15,cA 17 16,bu 18 .gtr 17 120] 18,aa 20 19,bk true 25 20 [af 21 1 6,aj 22 21,cA 23 22,bu 24 .gtr 23 40] 24] 25 (aA [ia 2]) (br (ah [bz 3] (.cr 0 (.loop [1,3] Mu))) (aA [bS 2])))) [.t 2] false none
def Sg:F:=.mk (ah [bS 0] (ah [I.build 7 zQ [(0,1,cW 1),(1,1,cW 64),(2,1,cW 5)],I.build 8 zQ [(0,1,cW 2),(1,1,cW 65)],cm 1 zQ,cm 2 zQ,eD 1 7 5,eD 2 8 5] (ah [I.build 9 lI [(0,1,cW 1),(1,1,cW 64),(3,1,fR)],I.build 10 lI [(0,1,cW 2),(1,1,cW 65),(2,1,cW 5),(3,1,fR)],cm 3 lI,cm 4 lI,eD 3 9 5,eD 4 10 5] (ah [zA 12 A4,eH 13 Lp 12,aa 11 13,cg 14 11 0,cg 15 11 1,cm 5 zR,eD 5 14 9,aa 6 15] (fy [0,1,2,3,4,5,6,7,8,9,10,11,12,13,14,15,16,17,18,19,20,21,22,23,24,25,26,27,28,29,30,31,32,33,34,35,36,37,38,39,40,41,42,43,44,45] [aa 16 6,bM 17 .eql 16,aa 18 17,bk false 23 18 [zA 19 A4,iD 20 5 9,iD 21 1 5,jC 22 ED 19 20 21] 22,aa 24 23,bk false 30 24 [zA 25 A4,iD 26 5 9,iD 27 2 5,jC 28 ED 25 26 27,dj 29 28] 29,aa 31 30,bk false 40 31 [zA 32 A4,iD 33 1 5,iD 34 2 5,I.mZ 35 5 2 zQ [(0,.t 33),(1,.t 34)] true,iD 36 3 5,iD 37 4 5,I.mZ 38 5 2 lI [(0,.t 36),(1,.t 37)] true,jC 39 EE 32 35 38] 39,aa 41 40,bk false 49 41 [zA 42 A4,iD 43 1 5,jf 44 5 1 zQ 43,iD 45 3 5,jf 46 5 1 lI 45,jC 47 EE 42 44 46,dj 48 47] 48,aa 50 49,bk false 60 50 [zA 51 A4,iD 52 2 5,iD 53 1 5,I.mZ 54 5 2 zQ [(0,.t 52),(1,.t 53)] true,iD 55 4 5,iD 56 3 5,I.mZ 57 5 2 lI [(0,.t 55),(1,.t 56)] true,jC 58 EE 51 54 57,dj 59 58] 59,aa 0 60] .ret))))) [.t 0] false none
def dn:F:=.mk (ah [bp 3 0 4,bp 4 1 9,bp 5 2 5,cm 6 zR,bz 7,bS 8,bz 9] (ah [I.mv 10 (.k (.fn Q9 [] []))] (ah [af 19 3 1,aj 20 19,eH 21 qK 20,aa 18 21,cg 22 18 0,cg 23 18 1,aa 11 22,aa 12 23] (bZ [aa 24 12,dj 25 24,aa 26 25,bk true 31 26 [af 27 4 4,aj 28 27,cA 29 28,bM 30 .gtr 29] 30,aa 32 31,bk true 38 32 [aa 33 11,aM 34 3 4,aM 35 4 9,I.inv (some 36) "nursery/spec.abstract" [(101,2,vX),(102,2,vX),(103,2,vX),(104,2,R7),(105,2,R9),(106,2,Sb),(107,2,vX),(108,2,vX)] (.t 33) [.t 34,.t 35],dj 37 36] 37] 38 (aA [aa 39 10,Mt 40 39 1,cg 41 40 0,cg 42 40 1,cg 43 40 2,cg 44 40 3,aQ 6 41 9,aa 7 42,aa 8 43,aa 9 44]) (bZ [af 45 5 0,aj 46 45,bM 47 .lss 46,aa 48 47,bk true 52 48 [af 49 5 0,aj 50 49,bu 51 .geq 50 16] 51,aa 53 52,bk true 57 53 [af 54 5 3,aj 55 54,bM 56 .lss 55] 56,aa 58 57,bk true 62 58 [af 59 5 3,aj 60 59,bu 61 .gtr 60 9] 61,aa 63 62,bk true 67 63 [af 64 5 4,aj 65 64,bM 66 .lss 65] 66,aa 68 67,bk true 72 68 [af 69 5 4,aj 70 69,bu 71 .gtr 70 1099511627776] 71] 72 (aA [aa 73 10,Mt 74 73 2,cg 75 74 0,cg 76 74 1,cg 77 74 2,cg 78 74 3,aQ 6 75 9,aa 7 76,aa 8 77,aa 9 78]) (fy [0,1,3,4,2,5,6,7,8,9,10] [fJ 80 3 1,fE 81 80,fJ 83 5 1,fE 84 83,lJ 82 x8 81,I.pY 85 (.t 82) (.t 84) (.i .i64 0) true [.i],aa 79 85,cg 86 79 0,cg 87 79 1,aa 13 86,aa 12 87] (bZ [aa 88 12,dj 89 88] 89 (aA [aa 90 10,Mt 91 90 8,cg 92 91 0,cg 93 91 1,cg 94 91 2,cg 95 91 3,aQ 6 92 9,aa 7 93,aa 8 94,aa 9 95]) (bZ [aa 96 13,bu 97 .eql 96 1,aa 98 97,bk false 109 98 [af 99 5 2,aj 100 99,bu 101 .lss 100 1,aa 102 101,bk true 108 102 [af 103 5 2,aj 104 103,af 105 3 2,aj 106 105,bJ 107 .gtr 104 106] 107] 108,aa 110 109,bk true 123 110 [aa 111 13,bu 112 .eql 111 2,aa 113 112,bk false 122 113 [af 114 5 2,aj 115 114,I.bin 116 .lss (.t 115) (.k (.i .i64 (-1099511627776))),aa 117 116,bk true 121 117 [af 118 5 2,aj 119 118,bu 120 .gtr 119 1099511627776] 120] 121] 122] 123 (aA [aa 124 10,Mt 125 124 2,cg 126 125 0,cg 127 125 1,cg 128 125 2,cg 129 125 3,aQ 6 126 9,aa 7 127,aa 8 128,aa 9 129]) (ah [aa 131 11,aM 132 3 4,aM 133 4 9,aM 134 5 5,I.inv (some 135) "nursery/spec.effect" [(101,2,Mj),(102,2,Mk),(103,2,Ml),(104,2,Mm),(105,2,Mn),(106,2,CV),(107,2,Mr),(108,2,Ms)] (.t 131) [.t 132,.t 133,.t 134],aa 130 135,cg 136 130 0,cg 137 130 1,cg 138 130 2,cg 139 130 3,cm 14 zR,eD 14 136 9,aa 15 137,aa 16 138,aa 17 139] (bZ [aa 140 17,bM 141 .neq 140] 141 (aA [aa 142 10,aa 143 17,uQ 144 142 143,cg 145 144 0,cg 146 144 1,cg 147 144 2,cg 148 144 3,aQ 6 145 9,aa 7 146,aa 8 147,aa 9 148]) (aA [aM 149 14 9,aa 150 15,aa 151 16,aQ 6 149 9,aa 7 150,aa 8 151,bz 9]))))))))))) [.c 6 9 true,.t 7,.t 8,.t 9] false none
def Sh:F:=.mk (ah [bp 3 0 4,bp 4 1 9,bp 5 2 5,bS 6] (ah [aM 12 3 4,aM 13 4 9,aM 14 5 5,jC 15 uM 12 13 14,aa 11 15,cg 16 11 0,cg 17 11 1,cg 18 11 2,cg 19 11 3,cm 7 zR,eD 7 16 9,aa 8 17,aa 9 18,aa 10 19] (aA [aa 20 10,bM 21 .eql 20,aa 6 21]))) [.t 6] false none
def sQ:C :=ah [bJ 41 .lss 40 39] (br (cX 41 .skip (br (.keep [3,7]) (.exit 0))) (br (.cr 1 (ah [aa 42 40,dI 43 38 40 5,aM 44 43 5,cm 10 zQ,aa 9 42,eD 10 44 5] (ah [aM 46 3 4,aM 47 7 9,aM 48 10 5,jC 49 uM 46 47 48,aa 45 49,cg 50 45 0,cg 51 45 1,cg 52 45 2,cg 53 45 3,cm 11 zR,eD 11 50 9,aa 12 51,aa 13 52,aa 14 53] (br (fy [0,1,2,3,4,5,6,7,8,9,10,11,12,13,14,15,16,17,18,19,20,21] [aa 54 14,bM 55 .neq 54,aa 56 55,bk true 65 56 [fJ 57 10 0,fE 58 57,aa 59 2,aa 60 9,dI 61 59 60 5,af 62 61 0,aj 63 62,bJ 64 .neq 58 63] 64,aa 66 65,bk true 75 66 [fJ 67 10 1,fE 68 67,aa 69 2,aa 70 9,dI 71 69 70 5,af 72 71 1,aj 73 72,bJ 74 .neq 68 73] 74] (dA 75 (ah [bS 6] (br (.keep [6]) .ret)))) (br (fy [0,1,2,3,4,5,6,7,8,9,10,11,12] [aa 76 2,aa 77 9,dI 78 76 77 5,af 79 78 2,aj 80 79,aa 81 2,aa 82 9,dI 83 81 82 5,af 84 83 3,aj 85 84,cU 86 HC 80 85,cm 15 [.i .i64 0,.i .i64 0],.re (.jm 78 (.t 76) (.t 77) 5),.re (.fa 79 (.t 78) 2 1),.re (.ld 80 (.t 79) 1 false),.re (.jm 83 (.t 81) (.t 82) 5),.re (.fa 84 (.t 83) 3 1),.re (.ld 85 (.t 84) 1 false),aQ 15 86 2] (.qJ [15])) (fy [0,1,2,3,4,5,6,7,8,9,10,11,12,13] [fJ 87 10 1,fE 88 87,bu 89 .eql 88 61,aa 90 89,bk false 94 90 [fJ 91 3 3,fE 92 91,bM 93 .eql 92] 93,aa 95 94,bk false 99 95 [iD 96 15 2,I.call (some 97) HC [k0,HX],I.eqv 98 false (.t 96) (.t 97) [.i,.i]] 98,aa 16 99] (.cr 2 (fy [0,1,2,3,4,5] [iD 101 15 2,aa 102 12,aa 103 13,cU 104 HC 102 103,I.eqv 105 false (.t 101) (.t 104) [.i,.i],aa 100 105] (cX 100 (.cB [aM 106 11 9,aQ 7 106 9]) (ah [aa 108 16,dj 109 108,aa 107 109] (dA 107 (ah [bS 6] (br (.keep [6]) .ret))))))))))))) (.cB [bu 110 .add 40 1,aa 40 110])))
def CW:F:=.mk (ah [bp 3 0 4,bS 6] (ah [aM 20 3 4,eH 21 Lp 20,aa 19 21,cg 22 19 0,cg 23 19 1,cm 7 zR,aQ 7 22 9,aa 8 23] (bZ [aa 24 8,bM 25 .neq 24,aa 26 25,bk true 32 26 [aa 27 1,cA 28 27,aa 29 2,cA 30 29,bJ 31 .neq 28 30] 31,aa 33 32,bk true 37 33 [aa 34 1,cA 35 34,bu 36 .gtr 35 1000] 36] 37 (aA [bS 6]) (br (ah [aa 38 1,cA 39 38,bz 40] (.cr 0 (.loop [2,3,7,38,39,40] sQ))) (ah [af 112 3 1,aj 113 112,eH 114 qK 113,aa 111 114,cg 115 111 0,cg 116 111 1,aa 17 115,aa 18 116] (aA [aa 117 17,aM 118 3 4,aM 119 7 9,I.inv (some 120) "nursery/spec.check" [(101,2,oW),(102,2,oW),(103,2,oW),(104,2,oW),(105,2,oW),(106,2,oW),(107,2,oW),(108,2,oW)] (.t 117) [.t 118,.t 119],bM 121 .eql 120,aa 6 121])))))) [.t 6] false none
def vY:F:=.mk (ah [bp 1 0 4,cm 2 zR,bz 3] (ah [af 7 1 1,aj 8 7,eH 9 qK 8,aa 6 9,cg 10 6 0,cg 11 6 1,aa 4 10,aa 5 11] (bZ [aa 12 5,dj 13 12] 13 (aA [dS 14 zR,aQ 2 14 9,cF 3 8]) (aA [aa 15 4,aM 16 1 4,I.inv (some 17) "nursery/spec.start" [(101,2,yd),(102,2,yd),(103,2,yd),(104,2,yd),(105,2,yd),(106,2,yd),(107,2,yd),(108,2,yd)] (.t 15) [.t 16],cg 18 17 0,cg 19 17 1,aQ 2 18 9,aa 3 19])))) [.c 2 9 true,.t 3] false none
def ER:F:=.mk (ah [bp 2 0 4,bp 3 1 9,bS 4] (ah [af 8 2 1,aj 9 8,eH 10 qK 9,aa 7 10,cg 11 7 0,cg 12 7 1,cm 5 [.AV],eD 5 11 1,aa 6 12] (bZ [aa 13 6,dj 14 13,aa 15 14,bk true 21 15 [aj 16 5,aM 17 2 4,aM 18 3 9,I.inv (some 19) "nursery/spec.check" [(101,2,oW),(102,2,oW),(103,2,oW),(104,2,oW),(105,2,oW),(106,2,oW),(107,2,oW),(108,2,oW)] (.t 16) [.t 17,.t 18],bM 20 .neq 19] 20] 21 (aA [bS 4]) (aA [af 22 3 4,aj 23 22,I.gJ 24 HD [] [.t 5,.t 2,.t 3],cU 25 qL 23 24,dj 26 25,aa 4 26])))) [.t 4] false none
def Mw:F:=.mk (ah [cm 2 [.cN,.cN,.cN,.cN,.cN],bS 3] (br (ah [aa 4 0] (.cr 0 (ah [bu 6 .eql 4 1,aa 5 6] (cX 5 (aA [I.build 7 [.cN,.cN,.cN,.cN,.cN] [(0,1,.k (.fn sM [] [])),(1,1,.k (.fn oS [] [])),(2,1,.k (.fn A5 [] [])),(3,1,.k (.fn EF [] [])),(4,1,.k (.fn Ya [] []))],aQ 2 7 5,ia 3]) (ah [bu 9 .eql 4 2,aa 8 9] (cX 8 (aA [I.build 10 [.cN,.cN,.cN,.cN,.cN] [(0,1,.k (.fn sN [] [])),(1,1,.k (.fn jB [] [])),(2,1,.k (.fn oT [] [])),(3,1,.k (.fn A6 [] [])),(4,1,.k (.fn Yb [] []))],aQ 2 10 5,ia 3]) (ah [bu 12 .eql 4 4,aa 11 12] (cX 11 (aA [I.build 13 [.cN,.cN,.cN,.cN,.cN] [(0,1,.k (.fn tF [] [])),(1,1,.k (.fn p8 [] [])),(2,1,.k (.fn zu [] [])),(3,1,.k (.fn CN [] [])),(4,1,.k (.fn Yc [] []))],aQ 2 13 5,ia 3]) (ah [bu 15 .eql 4 5,aa 14 15] (cX 14 (aA [I.build 16 [.cN,.cN,.cN,.cN,.cN] [(0,1,.k (.fn tG [] [])),(1,1,.k (.fn nJ [] [])),(2,1,.k (.fn A7 [] [])),(3,1,.k (.fn Lr [] [])),(4,1,.k (.fn Yd [] []))],aQ 2 16 5,ia 3]) (ah [bu 18 .eql 4 6,aa 17 18] (cX 17 (aA [I.build 19 [.cN,.cN,.cN,.cN,.cN] [(0,1,.k (.fn tH [] [])),(1,1,.k (.fn gn [] [])),(2,1,.k (.fn iR [] [])),(3,1,.k (.fn Ls [] [])),(4,1,.k (.fn Ye [] []))],aQ 2 19 5,ia 3]) (ah [bu 21 .eql 4 7,aa 20 21] (cX 20 (aA [I.build 22 [.cN,.cN,.cN,.cN,.cN] [(0,1,.k (.fn tJ [] [])),(1,1,.k (.fn rS [] [])),(2,1,.k (.fn uN [] [])),(3,1,.k (.fn HE [] [])),(4,1,.k (.fn Yf [] []))],aQ 2 22 5,ia 3]) (ah [bu 24 .eql 4 8,aa 23 24] (cX 23 (aA [I.build 25 [.cN,.cN,.cN,.cN,.cN] [(0,1,.k (.fn tK [] [])),(1,1,.k (.fn ng [] [])),(2,1,.k (.fn zw [] [])),(3,1,.k (.fn Lt [] [])),(4,1,.k (.fn Yg [] []))],aQ 2 25 5,ia 3]) (ah [bu 27 .eql 4 9,aa 26 27] (dA 26 (aA [I.build 28 [.cN,.cN,.cN,.cN,.cN] [(0,1,.k (.fn tL [] [])),(1,1,.k (.fn oU [] [])),(2,1,.k (.fn A8 [] [])),(3,1,.k (.fn Lu [] [])),(4,1,.k (.fn Yh [] []))],aQ 2 28 5,ia 3]))))))))))))))))))) (aA [dS 29 [.cN,.cN,.cN,.cN,.cN],aQ 2 29 5,bS 3]))) [.c 2 5 true,.t 3] false none
def Si:F:=.mk (ah [cm 0 [.s [],.i .i64 0,.i .i64 0,.i .i64 0]] (aA [I.build 1 [.s [],.i .i64 0,.i .i64 0,.i .i64 0] [(1,1,cW 6)],aQ 0 1 4])) [.c 0 4 true] false none
def Sj:F:=.mk (ah [cm 2 zR,bz 3,bS 4,bz 5] (aA [dS 6 zR,aa 7 0,aQ 2 6 9,bz 3,bS 4,aa 5 7])) [.c 2 9 true,.t 3,.t 4,.t 5] false none
def vZ:F:=.mk (ah [I.mv 2 (.k .AV),bS 3] (br (ah [aa 4 0] (.cr 0 (ah [bu 6 .eql 4 1,aa 5 6] (cX 5 (aA [I.build 7 [.cN,.cN] [(0,1,.k (.fn sM [] [])),(1,1,.k (.fn oS [] []))],I.build 8 [.cN,.cN] [(0,2,.t 7)],I.nI 9 101 (.t 8),aa 2 9,ia 3]) (ah [bu 11 .eql 4 2,aa 10 11] (cX 10 (aA [I.build 12 [.cN,.cN] [(0,1,.k (.fn sN [] [])),(1,1,.k (.fn jB [] []))],I.build 13 [.cN,.cN] [(0,2,.t 12)],I.nI 14 102 (.t 13),aa 2 14,ia 3]) (ah [bu 16 .eql 4 4,aa 15 16] (cX 15 (aA [I.build 17 [.cN,.cN] [(0,1,.k (.fn tF [] [])),(1,1,.k (.fn p8 [] []))],I.build 18 [.cN,.cN] [(0,2,.t 17)],I.nI 19 103 (.t 18),aa 2 19,ia 3]) (ah [bu 21 .eql 4 5,aa 20 21] (cX 20 (aA [I.build 22 [.cN,.cN] [(0,1,.k (.fn tG [] [])),(1,1,.k (.fn nJ [] []))],I.build 23 [.cN,.cN] [(0,2,.t 22)],I.nI 24 104 (.t 23),aa 2 24,ia 3]) (ah [bu 26 .eql 4 6,aa 25 26] (cX 25 (aA [I.build 27 [.cN,.cN] [(0,1,.k (.fn tH [] [])),(1,1,.k (.fn gn [] []))],I.build 28 [.cN,.cN] [(0,2,.t 27)],I.nI 29 105 (.t 28),aa 2 29,ia 3]) (ah [bu 31 .eql 4 7,aa 30 31] (cX 30 (aA [I.build 32 [.cN,.cN] [(0,1,.k (.fn tJ [] [])),(1,1,.k (.fn rS [] []))],I.build 33 [.cN,.cN] [(0,2,.t 32)],I.nI 34 106 (.t 33),aa 2 34,ia 3]) (ah [bu 36 .eql 4 8,aa 35 36] (cX 35 (aA [I.build 37 [.cN,.cN] [(0,1,.k (.fn tK [] [])),(1,1,.k (.fn ng [] []))],I.build 38 [.cN,.cN] [(0,2,.t 37)],I.nI 39 107 (.t 38),aa 2 39,ia 3]) (ah [bu 41 .eql 4 9,aa 40 41] (dA 40 (aA [I.build 42 [.cN,.cN] [(0,1,.k (.fn tL [] [])),(1,1,.k (.fn oU [] []))],I.build 43 [.cN,.cN] [(0,2,.t 42)],I.nI 44 108 (.t 43),aa 2 44,ia 3]))))))))))))))))))) (aA [I.mv 2 (.k .AV),bS 3]))) [.t 2,.t 3] false none
def yf:F:=.mk (ah [I.mv 2 (.k .uE)] (aA [.op (.mF 3),.op (.mF 4),.op (.fI (.t 4) (cW 50) k0 [.i]),.op (.fI (.t 4) (cW 51) k0 [.i]),.op (.fI (.t 4) (cW 52) k0 [.i]),.op (.mv 5 (.t 4)),.op (.fI (.t 3) (cW 1) (.t 5) [.i]),.op (.mF 6),.op (.fI (.t 6) (cW 53) k0 [.i]),.op (.fI (.t 6) (cW 54) k0 [.i]),.op (.fI (.t 6) (cW 55) k0 [.i]),.op (.fI (.t 6) (cW 56) k0 [.i]),.op (.mv 7 (.t 6)),.op (.fI (.t 3) (cW 2) (.t 7) [.i]),.op (.mF 8),.op (.fI (.t 8) (cW 60) (cW 1) [.i]),.op (.fI (.t 8) (cW 61) (cW 1) [.i]),.op (.fI (.t 8) (cW 62) (cW 1) [.i]),.op (.mv 9 (.t 8)),.op (.fI (.t 3) (cW 4) (.t 9) [.i]),.op (.mF 10),.op (.fI (.t 10) (cW 63) k0 [.i]),.op (.mv 11 (.t 10)),.op (.fI (.t 3) (cW 5) (.t 11) [.i]),.op (.mF 12),.op (.fI (.t 12) (cW 64) (cW 2) [.i]),.op (.fI (.t 12) (cW 65) k0 [.i]),.op (.fI (.t 12) (cW 66) k0 [.i]),.op (.mv 13 (.t 12)),.op (.fI (.t 3) (cW 6) (.t 13) [.i]),.op (.mF 14),.op (.fI (.t 14) (cW 68) (cW 2) [.i]),.op (.fI (.t 14) (cW 69) k0 [.i]),.op (.fI (.t 14) (cW 70) k0 [.i]),.op (.fI (.t 14) (cW 71) k0 [.i]),.op (.mv 15 (.t 14)),.op (.fI (.t 3) (cW 7) (.t 15) [.i]),.op (.mF 16),.op (.fI (.t 16) (cW 72) (cW 1) [.i]),.op (.fI (.t 16) (cW 75) k0 [.i]),.op (.mv 17 (.t 16)),.op (.fI (.t 3) (cW 8) (.t 17) [.i]),.op (.mF 18),.op (.fI (.t 18) (cW 73) (cW 2) [.i]),.op (.fI (.t 18) (cW 74) k0 [.i]),.op (.mv 19 (.t 18)),.op (.fI (.t 3) (cW 9) (.t 19) [.i]),.op (.mv 20 (.t 3)),.op (.mv 21 (.t 0)),.op (.pY 22 (.t 20) (.t 21) .uE false [.i]),.op (.mv 2 (.t 22))])) [.t 2] true none
def Sk:F:=.mk (ah [cm 4 [.i .i64 0,.i .i64 0]] (bZ [aa 5 1] 5 (aA [aa 6 0,I.build 7 [.i .i64 0,.i .i64 0] [(0,1,.t 6),(1,1,cW 1)],aQ 4 7 2]) (aA [aa 8 0,I.build 9 [.i .i64 0,.i .i64 0] [(0,1,.t 8),(1,1,k0)],aQ 4 9 2]))) [.c 4 2 true] false none
def HZ:F:=.mk (ah [bS 4] (aA [aa 5 0,aa 6 1,cU 7 x9 5 6,bM 8 .geq 7,aa 4 8])) [.t 4] false none
def yg:F:=.mk (ah [bp 4 0 5,bS 5] (aA [aj 6 1,aM 7 2 4,aM 8 3 9,aM 9 4 5,I.inv (some 10) "nursery/spec.vain" [(101,2,R2),(102,2,R3),(103,2,R6),(104,2,R8),(105,2,Sa),(106,2,Sc),(107,2,Se),(108,2,Sf)] (.t 6) [.t 7,.t 8,.t 9],aa 5 10])) [.t 5] false none
def ET:F:=.mk (ah [bp 1 0 4,cm 2 zR,bz 3] (br (.cr 0 (ah [af 5 1 1,aj 6 5,bu 7 .neq 6 1,aa 4 7] (cX 4 (aA [dS 8 zR,aQ 2 8 9,cF 3 8]) (ah [af 10 1 2,aj 11 10,bM 12 .neq 11,aa 13 12,bk true 17 13 [af 14 1 3,aj 15 14,bM 16 .neq 15] 16,aa 9 17] (dA 9 (aA [dS 18 zR,aQ 2 18 9,cF 3 2])))))) (aA [I.build 19 zR [(0,1,.k (.i .i64 (-1)))],aQ 2 19 9,bz 3]))) [.c 2 9 true,.t 3] false none
def EU:F:=.mk (ah [bp 2 0 4,bp 3 1 9,bz 4] (br (ah [aM 8 2 4,eH 9 sM 8,aa 7 9,cg 10 7 0,cg 11 7 1,cm 5 zR,eD 5 10 9,aa 6 11] (ah [aa 12 6,bM 13 .neq 12] (dA 13 (aA [aa 14 6,aa 4 14])))) (bZ [aM 15 3 9,eH 16 Lw 15,dj 17 16] 17 (aA [cF 4 1]) (aA [bz 4])))) [.t 4] false none
def zC:F:=.mk (ah [bp 3 0 4,bp 4 1 9,bp 5 2 5,cm 6 ct,bz 7] (br (ah [aM 11 3 4,aM 12 4 9,cU 13 oS 11 12,aa 8 13] (ah [aa 14 8,bM 15 .neq 14] (dA 15 (aA [dS 16 ct,aa 17 8,aQ 6 16 13,aa 7 17])))) (fy [1,2,0,3,4,5,6,7,8] [fJ 20 5 1,fE 21 20,I.nF (some 19) Ra [],I.pY 22 (.t 19) (.t 21) .cN true [.i],aa 18 22,cg 23 18 0,cg 24 18 1,aa 9 23,aa 10 24] (br (.cr 0 (ah [aa 26 10,dj 27 26,aa 25 27] (cX 25 (aA [dS 28 ct,aQ 6 28 13,cF 7 8]) (ah [af 30 5 0,aj 31 30,eH 32 HF 31,dj 33 32,aa 34 33,bk true 38 34 [af 35 5 3,aj 36 35,bM 37 .lss 36] 37,aa 39 38,bk true 43 39 [af 40 5 3,aj 41 40,bu 42 .gtr 41 9] 42,aa 29 43] (cX 29 (aA [dS 44 ct,aQ 6 44 13,cF 7 2]) (ah [aM 46 4 9,af 47 5 0,aj 48 47,cU 49 Lz 46 48,aa 45 49] (dA 45 (aA [dS 50 ct,aQ 6 50 13,cF 7 17])))))))) (aA [aa 51 9,aM 52 4 9,aM 53 5 5,tP 54 51 52 53,cg 55 54 0,cg 56 54 1,aQ 6 55 13,aa 7 56]))))) [.c 6 13 true,.t 7] false none
def H6:F:=.mk (ah [bp 3 0 4,iS 4 1 9,cm 6 ct,bz 7] (br (ah [aM 9 3 4,aM 10 4 9,cU 11 oS 9 10,aa 8 11] (ah [aa 12 8,bM 13 .neq 12] (dA 13 (aA [dS 14 ct,aa 15 8,aQ 6 14 13,aa 7 15])))) (bZ [aM 16 4 9,aa 17 2,cU 18 Lz 16 17,dj 19 18] 19 (aA [dS 20 ct,aQ 6 20 13,cF 7 7]) (ah [af 21 4 4,aj 22 21,aa 23 2,cU 24 vW 22 23,af 25 4 4,aQ 25 24 1] (aA [aM 26 4 9,I.build 27 ct [(0,9,.t 26)],aQ 6 27 13,bz 7]))))) [.c 6 13 true,.t 7] false none
def ac1:F:=.mk (ah [bp 3 0 4,bp 4 1 9,bp 5 2 5,bS 6] (ah [aM 10 3 4,aM 11 4 9,aM 12 5 5,jC 13 A5 10 11 12,aa 9 13,cg 14 9 0,cg 15 9 1,cm 7 ct,eD 7 14 13,aa 8 15] (aA [aa 16 8,bM 17 .eql 16,aa 18 17,bk false 22 18 [af 19 7 9,aj 20 19,dj 21 20] 21,aa 6 22]))) [.t 6] false none
def EV:F:=.mk (ah [bp 1 0 4,cm 2 zR,bz 3] (bZ [af 4 1 1,aj 5 4,bu 6 .neq 5 2] 6 (aA [dS 7 zR,aQ 2 7 9,cF 3 8]) (bZ [af 8 1 2,aj 9 8,bM 10 .neq 9,aa 11 10,bk true 15 11 [af 12 1 3,aj 13 12,bM 14 .neq 13] 14] 15 (aA [dS 16 zR,aQ 2 16 9,cF 3 2]) (aA [I.build 17 zR [(0,1,.k (.i .i64 (-1)))],aQ 2 17 9,bz 3])))) [.c 2 9 true,.t 3] false none
def EW:F:=.mk (ah [bp 2 0 4,bp 3 1 9,bz 4] (br (ah [aM 8 2 4,eH 9 sN 8,aa 7 9,cg 10 7 0,cg 11 7 1,cm 5 zR,eD 5 10 9,aa 6 11] (ah [aa 12 6,bM 13 .neq 12] (dA 13 (aA [aa 14 6,aa 4 14])))) (bZ [aM 15 3 9,eH 16 LA 15,dj 17 16] 17 (aA [cF 4 1]) (aA [bz 4])))) [.t 4] false none
def ig:F:=.mk (ah [bp 3 0 4,bp 4 1 9,bp 5 2 5,cm 6 ct,bz 7] (bZ [aM 13 3 4,aM 14 4 9,cU 15 jB 13 14,bM 16 .neq 15] 16 (aA [dS 17 ct,aQ 6 17 13,cF 7 1]) (bZ [af 18 5 0,aj 19 18,eH 20 EG 19,dj 21 20,aa 22 21,bk true 26 22 [af 23 5 3,aj 24 23,bM 25 .lss 24] 25,aa 27 26,bk true 31 27 [af 28 5 3,aj 29 28,bu 30 .gtr 29 9] 30,aa 32 31,bk true 36 32 [af 33 5 4,aj 34 33,bM 35 .lss 34] 35,aa 37 36,bk true 41 37 [af 38 5 4,aj 39 38,bu 40 .gtr 39 1099511627776] 40] 41 (aA [dS 42 ct,aQ 6 42 13,cF 7 2]) (bZ [af 43 5 1,aj 44 43,bu 45 .lss 44 53,aa 46 45,bk true 50 46 [af 47 5 1,aj 48 47,bu 49 .gtr 48 56] 49] 50 (aA [dS 51 ct,aQ 6 51 13,cF 7 8]) (br (ah [af 53 4 4,aj 54 53,af 55 5 0,aj 56 55,cU 57 jd 54 56,aa 52 57,cg 58 52 0,cg 59 52 1,aa 8 58,aa 9 59] (ah [aa 60 9] (dA 60 (aA [dS 61 ct,aQ 6 61 13,cF 7 17])))) (fy [0,2,3,4,1,5,6,7] [iD 62 4 9,iD 64 4 9,fJ 65 5 0,fE 66 65,lJ 63 HG 62,cU 67 LB 64 66,aa 10 63,aa 11 67] (br (ah [af 68 5 1,aj 69 68] (.cr 0 (oX [bu 78 .eql 69 53,aa 77 78] 77 .skip (.cB [bu 79 .eql 69 55,aa 77 79]) (cX 77 (bZ [aa 80 11,bM 81 .neq 80] 81 (aA [dS 82 ct,aQ 6 82 13,cF 7 17]) (ah [aa 83 10,qg 84 EH 83,aa 12 84] (bZ [af 85 5 1,aj 86 85,bu 87 .eql 86 53] 87 (.cB [aa 88 10,qg 89 CO 88,dj 90 89,aa 91 90,bk false 99 91 [aa 92 10,cL 93 92,I.fa 94 (.t 93) 0 9,af 95 94 4,aj 96 95,cA 97 96,bM 98 .eql 97] 98,aa 12 99]) (aA [aa 100 10,aM 101 5 5,aa 102 12,zB 103 Yi 100 101 102,aQ 6 103 13,bz 7])))) (ah [bu 105 .eql 69 54,aa 104 105] (cX 104 (bZ [aa 106 11,bu 107 .neq 106 1] 107 (aA [dS 108 ct,aQ 6 108 13,cF 7 20]) (.cB [aa 109 10,aa 110 10,cL 111 110,I.fa 112 (.t 111) 0 9,af 113 112 3,aj 114 113,I.gJ 115 LC [] [.t 5],oq 116 Rc 114 115,cL 117 109,I.fa 118 (.t 117) 0 9,af 119 118 3,aQ 119 116 1])) (bZ [aa 70 11,bu 71 .neq 70 2] 71 (aA [dS 72 ct,aQ 6 72 13,cF 7 20]) (.cB [aa 73 10,cL 74 73,I.fa 75 (.t 74) 0 9,af 76 75 0,I.st (.t 76) (.k (.i .i64 (-1))) 1 false])))))))) (ah [aa 120 10,qg 121 tM 120] (aA [aa 122 10,qg 123 Re 122,aQ 6 123 13,bz 7]))))))))) [.c 6 13 true,.t 7] false none
def yh:F:=.mk (ah [bp 3 0 4,bp 4 1 9,cm 6 ct,bz 7] (bZ [aM 11 3 4,aM 12 4 9,cU 13 jB 11 12,bM 14 .neq 13] 14 (aA [dS 15 ct,aQ 6 15 13,cF 7 1]) (br (ah [af 17 4 4,aj 18 17,aa 19 2,cU 20 jd 18 19,aa 16 20,cg 21 16 0,cg 22 16 1,aa 8 21,aa 9 22] (ah [aa 23 9,dj 24 23] (dA 24 (aA [dS 25 ct,aQ 6 25 13,cF 7 7])))) (ah [aM 26 4 9,lJ 27 HG 26,aa 10 27] (ah [aa 28 10,aa 29 10,cL 30 29,I.fa 31 (.t 30) 0 9,af 32 31 4,aj 33 32,aa 34 2,oq 35 Rb 33 34,cL 36 28,I.fa 37 (.t 36) 0 9,af 38 37 4,aQ 38 35 1] (ah [aa 39 10,qg 40 tM 39] (fy [0,1,2,3,4,5,6,7,8,9,10] [aa 41 10,cL 42 41,I.fa 43 (.t 42) 0 9,aM 44 43 9,aa 45 10,cL 46 45,af 47 46 9,aj 48 47,I.build 49 ct [(0,9,.t 44),(12,1,.t 48)],aQ 6 49 13,bz 7] .ret))))))) [.c 6 13 true,.t 7] false none
def ac2:F:=.mk (ah [bp 3 0 4,bp 4 1 9,bp 5 2 5,bS 6] (ah [aM 10 3 4,aM 11 4 9,aM 12 5 5,jC 13 oT 10 11 12,aa 9 13,cg 14 9 0,cg 15 9 1,cm 7 ct,eD 7 14 13,aa 8 15] (aA [aa 16 8,bM 17 .eql 16,aa 18 17,bk false 22 18 [af 19 7 9,aj 20 19,dj 21 20] 21,aa 6 22]))) [.t 6] false none
def Mx:F:=.mk (ah [bp 1 0 4,cm 2 zR,bz 3] (br (.cr 0 (ah [af 5 1 1,aj 6 5,bu 7 .neq 6 4,aa 4 7] (cX 4 (aA [dS 8 zR,aQ 2 8 9,cF 3 8]) (ah [af 10 1 2,aj 11 10,bu 12 .lss 11 1,aa 13 12,bk true 17 13 [af 14 1 2,aj 15 14,bu 16 .gtr 15 100] 16,aa 18 17,bk true 27 18 [af 19 1 3,aj 20 19,bM 21 .neq 20,aa 22 21,bk false 26 22 [af 23 1 3,aj 24 23,bu 25 .neq 24 1] 25] 26,aa 9 27] (dA 9 (aA [dS 28 zR,aQ 2 28 9,cF 3 2])))))) (aA [af 29 1 2,aj 30 29,I.build 31 zR [(0,1,.k (.i .i64 (-1))),(1,1,.t 30)],aQ 2 31 9,bz 3]))) [.c 2 9 true,.t 3] false none
def EX:C :=ah [bJ 41 .lss 40 39] (br (cX 41 .skip (br (.keep [3]) (.exit 0))) (br (.cr 1 (ah [aa 42 40,aa 7 42] (ah [aM 43 2 4,aM 44 3 9,aa 45 7,jC 46 Rf 43 44 45,dj 47 46] (dA 47 (ah [cF 4 1] (br (.keep [4]) .ret)))))) (.cB [bu 48 .add 40 1,aa 40 48])))
def uR:F:=.mk (ah [bp 2 0 4,bp 3 1 9,bz 4] (br (ah [aM 9 2 4,eH 10 tF 9,aa 8 10,cg 11 8 0,cg 12 8 1,cm 5 zR,eD 5 11 9,aa 6 12] (ah [aa 13 6,bM 14 .neq 13] (dA 14 (aA [aa 15 6,aa 4 15])))) (bZ [af 16 3 0,aj 17 16,I.bin 18 .neq (.t 17) (.k (.i .i64 (-1))),aa 19 18,bk true 23 19 [af 20 3 1,aj 21 20,bM 22 .lss 21] 22,aa 24 23,bk true 30 24 [af 25 3 1,aj 26 25,af 27 2 2,aj 28 27,bJ 29 .gtr 26 28] 29,aa 31 30,bk true 36 31 [af 32 3 4,aj 33 32,I.call (some 34) qM [cW 1,.t 33],bM 35 .neq 34] 35] 36 (aA [cF 4 1]) (br (ah [af 37 3 4,aj 38 37,cA 39 38,bz 40] (.cr 0 (.loop [2,3,39,40] EX))) (bZ [af 49 3 2,aj 50 49,bM 51 .neq 50,aa 52 51,bk true 65 52 [af 53 3 3,aj 54 53,cA 55 54,af 56 3 5,aj 57 56,cA 58 57,bJ 59 .add 55 58,af 60 3 6,aj 61 60,cA 62 61,bJ 63 .add 59 62,bM 64 .gtr 63] 64,aa 66 65,bk true 69 66 [af 67 3 7,aj 68 67] 68,aa 70 69,bk true 74 70 [af 71 3 8,aj 72 71,bM 73 .neq 72] 73] 74 (aA [cF 4 1]) (aA [bz 4])))))) [.t 4] false none
def zD:F:=.mk (ah [bp 3 0 4,bp 4 1 9,bp 5 2 5,cm 6 ct,bz 7] (bZ [aM 13 3 4,aM 14 4 9,cU 15 p8 13 14,bM 16 .neq 15] 16 (aA [dS 17 ct,aQ 6 17 13,cF 7 1]) (br (ah [aM 18 3 4,aM 19 4 9,aM 20 5 5,jC 21 Rg 18 19 20,aa 8 21] (ah [aa 22 8,bM 23 .neq 22] (dA 23 (aA [dS 24 ct,aa 25 8,aQ 6 24 13,aa 7 25])))) (ah [aM 26 4 9,af 27 3 3,aj 28 27,bu 29 .eql 28 1,I.build 30 [.i .i64 0,.i .i64 0,.i .i64 0,.sl 1 true [],.sl 5 true [],.sl 1 true [],.sl 2 true [],.b false,.i .i64 0,.b false] [(0,9,.t 26),(9,1,.t 29)],iS 31 30 10,cm 9 [.nil],eD 9 31 1] (ah [I.mF 32,I.gJ 33 Rh [] [.t 9,.t 5],I.fI (.t 32) (cW 60) (.t 33) [.i],I.gJ 34 Rj [] [.t 9,.t 5],I.fI (.t 32) (cW 61) (.t 34) [.i],I.gJ 35 Rk [] [.t 9,.t 5],I.fI (.t 32) (cW 62) (.t 35) [.i],aa 36 32,aa 10 36] (ah [aa 37 10,af 38 5 1,aj 39 38,I.pY 40 (.t 37) (.t 39) .cN false [.i],aa 11 40] (ah [aa 41 11,I.pZ (some 42) (.t 41) [],cm 12 ct,aQ 12 42 13] (ah [aj 43 9,cL 44 43,I.fa 45 (.t 44) 0 9,aM 46 45 9,I.fa 47 (.t 12) 0 9,aQ 47 46 9] (aA [aM 48 12 13,aQ 6 48 13,bz 7]))))))))) [.c 6 13 true,.t 7] false none
def CX:F:=.mk (ah [bp 3 0 4,bp 4 1 9,cm 6 ct,bz 7] (bZ [aM 12 3 4,aM 13 4 9,cU 14 p8 12 13,bM 15 .neq 14] 15 (aA [dS 16 ct,aQ 6 16 13,cF 7 1]) (br (ah [af 18 4 4,aj 19 18,aa 20 2,cU 21 jd 19 20,aa 17 21,cg 22 17 0,cg 23 17 1,aa 8 22,aa 9 23] (ah [aa 24 9,dj 25 24] (dA 25 (aA [dS 26 ct,aQ 6 26 13,cF 7 7])))) (ah [aM 27 4 9,af 28 3 3,aj 29 28,bu 30 .eql 29 1,I.build 31 [.i .i64 0,.i .i64 0,.i .i64 0,.sl 1 true [],.sl 5 true [],.sl 1 true [],.sl 2 true [],.b false,.i .i64 0,.b false] [(0,9,.t 27),(9,1,.t 30)],iS 32 31 10,aa 10 32] (ah [aa 33 10,aa 34 10,cL 35 34,I.fa 36 (.t 35) 0 9,af 37 36 4,aj 38 37,aa 39 2,cU 40 vW 38 39,cL 41 33,I.fa 42 (.t 41) 0 9,af 43 42 4,aQ 43 40 1] (ah [aa 44 10,qg 45 LF 44,aa 11 45] (aA [aa 46 10,cL 47 46,I.fa 48 (.t 47) 0 9,aM 49 48 9,aa 50 11,I.build 51 ct [(0,9,.t 49),(12,1,.t 50)],aQ 6 51 13,bz 7]))))))) [.c 6 13 true,.t 7] false none
def ac3:F:=.mk (ah [bp 3 0 4,bp 4 1 9,bp 5 2 5,bS 6] (ah [aM 10 3 4,aM 11 4 9,aM 12 5 5,jC 13 zu 10 11 12,aa 9 13,cg 14 9 0,cg 15 9 1,cm 7 ct,eD 7 14 13,aa 8 15] (aA [aa 16 8,bM 17 .eql 16,aa 18 17,bk false 22 18 [af 19 7 9,aj 20 19,dj 21 20] 21,aa 6 22]))) [.t 6] false none
def My:F:=.mk (ah [bp 1 0 4,cm 2 zR,bz 3] (br (.cr 0 (ah [af 5 1 1,aj 6 5,bu 7 .neq 6 5,aa 4 7] (cX 4 (aA [dS 8 zR,aQ 2 8 9,cF 3 8]) (ah [af 10 1 2,aj 11 10,bu 12 .lss 11 1,aa 13 12,bk true 17 13 [af 14 1 2,aj 15 14,bu 16 .gtr 15 100] 16,aa 18 17,bk true 22 18 [af 19 1 3,aj 20 19,bM 21 .neq 20] 21,aa 9 22] (dA 9 (aA [dS 23 zR,aQ 2 23 9,cF 3 2])))))) (aA [I.build 24 zR [(0,1,.k (.i .i64 (-1)))],aQ 2 24 9,bz 3]))) [.c 2 9 true,.t 3] false none
def EY:C :=ah [bJ 74 .lss 73 72] (br (cX 74 .skip (br (.keep []) (.exit 0))) (br (.cr 1 (ah [aa 75 73,dI 76 71 73 5,aM 77 76 5,cm 8 zQ,aa 7 75,eD 8 77 5] (ah [af 78 8 1,aj 79 78,bu 80 .neq 79 63,aa 81 80,bk true 85 81 [af 82 8 2,aj 83 82,bM 84 .neq 83] 84,aa 86 85,bk true 90 86 [af 87 8 4,aj 88 87,I.bin 89 .neq (.t 88) (.k (.i .i64 (-1)))] 89,aa 91 90,bk true 102 91 [af 92 3 4,aj 93 92,aa 94 7,bu 95 .add 94 1,ou 96 93 95 5,eH 97 HH 96,cA 98 97,aa 99 7,bu 100 .add 99 1,bJ 101 .neq 98 100] 101] (dA 102 (ah [cF 4 1] (br (.keep [4]) .ret)))))) (.cB [bu 103 .add 73 1,aa 73 103])))
def uS:F:=.mk (ah [bp 2 0 4,bp 3 1 9,bz 4] (br (ah [aM 10 2 4,eH 11 tG 10,aa 9 11,cg 12 9 0,cg 13 9 1,cm 5 zR,eD 5 12 9,aa 6 13] (ah [aa 14 6,bM 15 .neq 14] (dA 15 (aA [aa 16 6,aa 4 16])))) (bZ [af 17 3 0,aj 18 17,I.bin 19 .neq (.t 18) (.k (.i .i64 (-1))),aa 20 19,bk true 24 20 [af 21 3 1,aj 22 21,bM 23 .lss 22] 23,aa 25 24,bk true 29 25 [af 26 3 1,aj 27 26,bu 28 .gtr 27 1099511627776] 28,aa 30 29,bk true 37 30 [af 31 3 4,aj 32 31,cA 33 32,af 34 2 2,aj 35 34,bJ 36 .geq 33 35] 36] 37 (aA [cF 4 1]) (bZ [af 38 3 2,aj 39 38,bM 40 .neq 39,aa 41 40,bk true 45 41 [af 42 3 8,aj 43 42,bM 44 .neq 43] 44,aa 46 45,bk true 49 46 [af 47 3 7,aj 48 47] 48,aa 50 49,bk true 63 50 [af 51 3 3,aj 52 51,cA 53 52,af 54 3 5,aj 55 54,cA 56 55,bJ 57 .add 53 56,af 58 3 6,aj 59 58,cA 60 59,bJ 61 .add 57 60,bM 62 .gtr 61] 62,aa 64 63,bk true 69 64 [af 65 3 4,aj 66 65,I.call (some 67) qM [cW 1,.t 66],bM 68 .neq 67] 68] 69 (aA [cF 4 1]) (br (ah [af 70 3 4,aj 71 70,cA 72 71,bz 73] (.cr 0 (.loop [3,71,72,73] EY))) (aA [bz 4])))))) [.t 4] false none
def rT:C :=ah [bJ 24 .lss 23 22] (br (cX 24 .skip (br (.keep [3,4,5,6]) (.exit 0))) (br (.cr 1 (ah [dI 25 21 23 2,aM 26 25 2,cm 10 [.cN,.i .i64 0],eD 10 26 2] (ah [af 27 10 0,aj 28 27,aM 29 4 9,aM 30 5 5,tP 31 28 29 30,dj 32 31] (dA 32 (fy [0,1,2,3,4] [dS 33 ct,fJ 34 10 1,fE 35 34,aQ 6 33 13,aa 7 35] (br (.keep [6,7]) .ret)))))) (.cB [bu 36 .add 23 1,aa 23 36])))
def H7:C :=ah [aa 12 70] (.cB [cm 13 zQ,eD 13 71 5])
def H8:C :=.cr 3 (.cB [af 72 11 12,aj 73 72,af 74 13 0,aj 75 74,aa 76 12,I.build 77 lI [(0,1,.t 75),(1,1,cW 63),(2,1,.t 76),(3,1,fR),(4,1,.k (.i .i64 (-1)))],jf 78 5 1 lI 77,je 79 73 78 5,af 80 11 12,aQ 80 79 1])
def zE:F:=.mk (ah [bp 3 0 4,iS 4 1 9,bp 5 2 5,cm 6 ct,bz 7] (br (ah [aM 14 3 4,aM 15 4 9,cU 16 nJ 14 15,aa 8 16] (ah [aa 17 8,bM 18 .neq 17] (dA 18 (aA [dS 19 ct,aa 20 8,aQ 6 19 13,aa 7 20])))) (br (ah [zA 21 Rl,cA 22 21,bz 23] (.cr 0 (.loop [3,4,5,6,21,22,23] rT))) (bZ [af 37 4 4,aj 38 37,cA 39 38,bu 40 .add 39 1,af 41 3 2,aj 42 41,bJ 43 .lss 40 42] 43 (fy [0,1,3,4,5,6,7,8,9,10,2,11,12,13] [af 44 4 4,aj 45 44,fJ 47 5 0,fE 48 47,fJ 49 5 1,fE 50 49,fJ 51 5 3,fE 52 51,I.build 53 zQ [(0,1,.t 48),(1,1,.t 50),(3,1,.t 52),(4,1,.k (.i .i64 (-1)))],jf 54 5 1 zQ 53,lJ 46 sO 45,je 55 46 54 5,af 56 4 4,aQ 56 55 1] (aA [aM 57 4 9,I.build 58 ct [(0,9,.t 57),(9,1,fR)],aQ 6 58 13,bz 7])) (bZ [af 59 4 1,aj 60 59,bu 61 .eql 60 1099511627776] 61 (aA [dS 62 ct,aQ 6 62 13,cF 7 4]) (ah [af 63 3 2,aj 64 63,bu 65 .sub 64 1,I.build 66 ct [(10,1,.t 65),(11,1,fR)],cm 11 ct,aQ 11 66 13] (br (ah [af 67 4 4,aj 68 67,lJ 69 Ro 68] (.cr 2 (.sK (.t 69) [11] [70,71] H7 H8))) (ah [af 81 4 4,I.st (.t 81) (.k (.sl 5 true [])) 1 false] (ah [af 82 4 1,aj 83 82,bu 84 .add 83 1,af 85 4 1,aQ 85 84 1] (ah [aM 86 4 9,I.fa 87 (.t 11) 0 9,aQ 87 86 9] (aA [aM 88 11 13,aQ 6 88 13,bz 7]))))))))))) [.c 6 13 true,.t 7] false none
def H9:F:=.mk (ah [bp 3 0 4,iS 4 1 9,cm 6 ct,bz 7] (br (ah [aM 9 3 4,aM 10 4 9,cU 11 nJ 9 10,aa 8 11] (ah [aa 12 8,bM 13 .neq 12] (dA 13 (aA [dS 14 ct,aa 15 8,aQ 6 14 13,aa 7 15])))) (bZ [aM 16 4 9,aa 17 2,cU 18 HI 16 17,dj 19 18] 19 (aA [dS 20 ct,aQ 6 20 13,cF 7 7]) (ah [af 21 4 4,aj 22 21,aa 23 2,cU 24 vW 22 23,af 25 4 4,aQ 25 24 1] (aA [aM 26 4 9,I.build 27 ct [(0,9,.t 26)],aQ 6 27 13,bz 7]))))) [.c 6 13 true,.t 7] false none
def ac4:F:=.mk (ah [bp 3 0 4,bp 4 1 9,bp 5 2 5,bS 6] (ah [aM 10 3 4,aM 11 4 9,aM 12 5 5,jC 13 A7 10 11 12,aa 9 13,cg 14 9 0,cg 15 9 1,cm 7 ct,eD 7 14 13,aa 8 15] (aA [aa 16 8,bM 17 .eql 16,aa 18 17,bk false 22 18 [af 19 7 9,aj 20 19,dj 21 20] 21,aa 6 22]))) [.t 6] false none
def Mz:F:=.mk (ah [bp 1 0 4,cm 2 zR,bz 3] (bZ [af 4 1 1,aj 5 4,bu 6 .neq 5 6] 6 (aA [dS 7 zR,aQ 2 7 9,cF 3 8]) (bZ [af 8 1 2,aj 9 8,bM 10 .lss 9,aa 11 10,bk true 15 11 [af 12 1 2,aj 13 12,bu 14 .gtr 13 100] 14,aa 16 15,bk true 20 16 [af 17 1 3,aj 18 17,bM 19 .neq 18] 19] 20 (aA [dS 21 zR,aQ 2 21 9,cF 3 2]) (aA [I.build 22 zR [(0,1,.k (.i .i64 (-1)))],aQ 2 22 9,bz 3])))) [.c 2 9 true,.t 3] false none
def EZ:F:=.mk (ah [bp 2 0 4,bp 3 1 9,bz 4] (br (ah [aM 8 2 4,eH 9 tH 8,aa 7 9,cg 10 7 0,cg 11 7 1,cm 5 zR,eD 5 10 9,aa 6 11] (ah [aa 12 6,bM 13 .neq 12] (dA 13 (aA [aa 14 6,aa 4 14])))) (bZ [aM 15 2 4,aM 16 3 9,cU 17 LG 15 16,dj 18 17] 18 (aA [cF 4 1]) (aA [bz 4])))) [.t 4] false none
def jw:F:=.mk (ah [bp 3 0 4,bp 4 1 9,bp 5 2 5,cm 6 ct,bz 7] (bZ [aM 12 3 4,aM 13 4 9,cU 14 gn 12 13,bM 15 .neq 14] 15 (aA [dS 16 ct,aQ 6 16 13,cF 7 1]) (bZ [af 17 5 0,aj 18 17,eH 19 Rq 18,dj 20 19,aa 21 20,bk true 26 21 [af 22 5 3,aj 23 22,eH 24 Rr 23,dj 25 24] 25,aa 27 26,bk true 31 27 [af 28 5 4,aj 29 28,bM 30 .lss 29] 30,aa 32 31,bk true 36 32 [af 33 5 4,aj 34 33,bu 35 .gtr 34 1099511627776] 35] 36 (aA [dS 37 ct,aQ 6 37 13,cF 7 2]) (fy [1,2,0,3,4,5,6,7,8] [fJ 40 5 1,fE 41 40,I.nF (some 39) Rs [],I.pY 42 (.t 39) (.t 41) .cN true [.i],aa 38 42,cg 43 38 0,cg 44 38 1,aa 8 43,aa 9 44] (bZ [aa 45 9,dj 46 45] 46 (aA [dS 47 ct,aQ 6 47 13,cF 7 8]) (ah [af 49 4 4,aj 50 49,af 51 5 0,aj 52 51,cU 53 jd 50 52,aa 48 53,cg 54 48 0,cg 55 48 1,aa 10 54,aa 11 55] (br (.cr 0 (ah [af 57 5 1,aj 58 57,bu 59 .eql 58 64,aa 60 59,bk false 65 60 [af 61 5 2,aj 62 61,eH 63 HJ 62,dj 64 63] 64,aa 56 65] (cX 56 (aA [dS 66 ct,aQ 6 66 13,cF 7 2]) (ah [aa 68 11,aa 67 68] (cX 67 (aA [dS 69 ct,aQ 6 69 13,cF 7 17]) (ah [af 71 4 7,aj 72 71,aa 73 72,bk false 77 73 [af 74 5 1,aj 75 74,bu 76 .eql 75 64] 76,aa 70 77] (cX 70 (aA [dS 78 ct,aQ 6 78 13,cF 7 19]) (ah [af 80 4 7,aj 81 80,aa 82 81,bk false 86 82 [af 83 5 1,aj 84 83,bu 85 .eql 84 66] 85,aa 79 86] (dA 79 (aA [dS 87 ct,aQ 6 87 13,cF 7 17])))))))))) (fy [0,1,2,4,3,5,6,7] [aa 88 8,iD 89 3 4,iD 90 4 9,iD 92 5 5,I.nF (some 91) HK [.t 89,.t 90],I.pZ (some 93) (.t 88) [.t 91,.t 92],aQ 6 93 13,bz 7] .ret)))))))) [.c 6 13 true,.t 7] false none
def Ia:F:=.mk (ah [bp 3 0 4,iS 4 1 9,cm 6 ct,bz 7] (bZ [aM 10 3 4,aM 11 4 9,cU 12 gn 10 11,bM 13 .neq 12] 13 (aA [dS 14 ct,aQ 6 14 13,cF 7 1]) (br (ah [af 16 4 4,aj 17 16,aa 18 2,cU 19 jd 17 18,aa 15 19,cg 20 15 0,cg 21 15 1,aa 8 20,aa 9 21] (ah [aa 22 9,dj 23 22] (dA 23 (aA [dS 24 ct,aQ 6 24 13,cF 7 7])))) (ah [af 25 4 4,aj 26 25,aa 27 2,cU 28 vW 26 27,af 29 4 4,aQ 29 28 1] (aA [aM 30 4 9,I.build 31 ct [(0,9,.t 30)],aQ 6 31 13,bz 7]))))) [.c 6 13 true,.t 7] false none
def ac5:F:=.mk (ah [bp 3 0 4,bp 4 1 9,bp 5 2 5,bS 6] (ah [aM 10 3 4,aM 11 4 9,aM 12 5 5,jC 13 iR 10 11 12,aa 9 13,cg 14 9 0,cg 15 9 1,cm 7 ct,eD 7 14 13,aa 8 15] (aA [aa 16 8,bM 17 .eql 16,aa 18 17,bk false 22 18 [af 19 7 9,aj 20 19,dj 21 20] 21,aa 6 22]))) [.t 6] false none
def MA:F:=.mk (ah [bp 1 0 4,cm 2 zR,bz 3] (bZ [af 4 1 1,aj 5 4,bu 6 .neq 5 7] 6 (aA [dS 7 zR,aQ 2 7 9,cF 3 8]) (bZ [af 8 1 2,aj 9 8,bM 10 .lss 9,aa 11 10,bk true 15 11 [af 12 1 2,aj 13 12,bu 14 .gtr 13 100] 14,aa 16 15,bk true 20 16 [af 17 1 3,aj 18 17,bM 19 .neq 18] 19] 20 (aA [dS 21 zR,aQ 2 21 9,cF 3 2]) (aA [I.build 22 zR [(0,1,.k (.i .i64 (-1)))],aQ 2 22 9,bz 3])))) [.c 2 9 true,.t 3] false none
def CY:F:=.mk (ah [bp 2 0 4,bp 3 1 9,bz 4] (br (ah [aM 8 2 4,eH 9 tJ 8,aa 7 9,cg 10 7 0,cg 11 7 1,cm 5 zR,eD 5 10 9,aa 6 11] (ah [aa 12 6,bM 13 .neq 12] (dA 13 (aA [aa 14 6,aa 4 14])))) (bZ [af 15 3 0,aj 16 15,I.bin 17 .neq (.t 16) (.k (.i .i64 (-1))),aa 18 17,bk true 25 18 [af 19 2 2,aj 20 19,af 21 3 6,aj 22 21,cU 23 Rt 20 22,dj 24 23] 24,aa 26 25,bk true 32 26 [af 27 2 2,aj 28 27,aM 29 3 9,cU 30 Ru 28 29,dj 31 30] 31] 32 (aA [cF 4 1]) (bZ [af 33 3 1,aj 34 33,bM 35 .neq 34,aa 36 35,bk true 40 36 [af 37 3 2,aj 38 37,bM 39 .neq 38] 39,aa 41 40,bk true 50 41 [af 42 3 3,aj 43 42,cA 44 43,af 45 3 5,aj 46 45,cA 47 46,bJ 48 .add 44 47,bM 49 .gtr 48] 49,aa 51 50,bk true 54 51 [af 52 3 7,aj 53 52] 53,aa 55 54,bk true 59 55 [af 56 3 8,aj 57 56,bM 58 .neq 57] 58] 59 (aA [cF 4 1]) (aA [bz 4]))))) [.t 4] false none
def nK:F:=.mk (ah [bp 3 0 4,bp 4 1 9,bp 5 2 5,cm 6 ct,bz 7] (bZ [aM 13 3 4,aM 14 4 9,cU 15 rS 13 14,bM 16 .neq 15] 16 (aA [dS 17 ct,aQ 6 17 13,cF 7 1]) (br (ah [aM 18 4 9,aM 19 5 5,cU 20 Rv 18 19,aa 8 20] (ah [aa 21 8,bM 22 .neq 21] (dA 22 (aA [dS 23 ct,aa 24 8,aQ 6 23 13,aa 7 24])))) (ah [aM 25 3 4,aM 26 4 9,I.nF (some 27) LH [.t 25,.t 26],cm 9 [.nil],eD 9 27 1] (ah [I.mF 28,I.gJ 29 Rw [] [.t 9,.t 5],I.fI (.t 28) (cW 69) (.t 29) [.i],I.gJ 30 Rz [] [.t 9,.t 5],I.fI (.t 28) (cW 71) (.t 30) [.i],I.gJ 31 RA [] [.t 9,.t 5],I.fI (.t 28) (cW 68) (.t 31) [.i],I.gJ 32 LL [] [.t 9,.t 5],I.fI (.t 28) (cW 70) (.t 32) [.i],aa 33 28,aa 10 33] (ah [aa 34 10,af 35 5 1,aj 36 35,I.pY 37 (.t 34) (.t 36) .cN false [.i],aa 11 37] (ah [aa 38 11,I.pZ (some 39) (.t 38) [],cm 12 ct,aQ 12 39 13] (fy [0,1,2,3,4,5,6,7,8,9,10,11] [fE 40 9,cL 41 40,I.fa 42 (.t 41) 1 9,aM 43 42 9,fE 44 9,cL 45 44,af 46 45 10,aj 47 46,I.fa 48 (.t 12) 0 9,aQ 48 43 9,.re (.fa 46 (.t 45) 10 1),.re (.ld 47 (.t 46) 1 false),af 49 12 12,aQ 49 47 1] (aA [aM 50 12 13,aQ 6 50 13,bz 7]))))))))) [.c 6 13 true,.t 7] false none
def Ib:F:=.mk (ah [bp 3 0 4,bp 4 1 9,cm 6 ct,bz 7] (bZ [aM 11 3 4,aM 12 4 9,cU 13 rS 11 12,bM 14 .neq 13] 14 (aA [dS 15 ct,aQ 6 15 13,cF 7 1]) (br (ah [af 17 4 4,aj 18 17,aa 19 2,cU 20 jd 18 19,aa 16 20,cg 21 16 0,cg 22 16 1,aa 8 21,aa 9 22] (ah [aa 23 9,dj 24 23] (dA 24 (aA [dS 25 ct,aQ 6 25 13,cF 7 7])))) (ah [aM 26 3 4,aM 27 4 9,I.nF (some 28) LH [.t 26,.t 27],aa 10 28] (br (br (.xT 10 5) (.cB [aa 29 10,aa 30 10,cL 31 30,I.fa 32 (.t 31) 1 9,af 33 32 4,aj 34 33,aa 35 2,cU 36 vW 34 35,cL 37 29,I.fa 38 (.t 37) 1 9,af 39 38 4,aQ 39 36 1])) (ah [aa 40 10,qg 41 EI 40] (fy [0,1,2,3,4,5,6,7,8,9,10] [aa 42 10,cL 43 42,I.fa 44 (.t 43) 1 9,aM 45 44 9,aa 46 10,cL 47 46,af 48 47 10,aj 49 48,I.build 50 ct [(0,9,.t 45),(12,1,.t 49)],aQ 6 50 13,bz 7] .ret))))))) [.c 6 13 true,.t 7] false none
def ac6:F:=.mk (ah [bp 3 0 4,bp 4 1 9,bp 5 2 5,bS 6] (ah [aM 10 3 4,aM 11 4 9,aM 12 5 5,jC 13 uN 10 11 12,aa 9 13,cg 14 9 0,cg 15 9 1,cm 7 ct,eD 7 14 13,aa 8 15] (aA [aa 16 8,bM 17 .eql 16,aa 18 17,bk false 22 18 [af 19 7 9,aj 20 19,dj 21 20] 21,aa 6 22]))) [.t 6] false none
def MB:F:=.mk (ah [bp 1 0 4,cm 2 zR,bz 3] (br (.cr 0 (ah [af 5 1 1,aj 6 5,bu 7 .neq 6 8,aa 4 7] (cX 4 (aA [dS 8 zR,aQ 2 8 9,cF 3 8]) (ah [af 10 1 2,aj 11 10,bu 12 .lss 11 1,aa 13 12,bk true 17 13 [af 14 1 2,aj 15 14,bu 16 .gtr 15 100] 16,aa 18 17,bk true 22 18 [af 19 1 3,aj 20 19,bu 21 .lss 20 1] 21,aa 23 22,bk true 27 23 [af 24 1 3,aj 25 24,bu 26 .gtr 25 1099511627776] 26,aa 9 27] (dA 9 (aA [dS 28 zR,aQ 2 28 9,cF 3 2])))))) (aA [af 29 1 2,aj 30 29,I.build 31 zR [(0,1,.k (.i .i64 (-1))),(1,1,.t 30)],aQ 2 31 9,bz 3]))) [.c 2 9 true,.t 3] false none
def E0:C :=ah [bJ 73 .lss 72 71] (br (cX 73 .skip (br (.keep []) (.exit 0))) (br (.cr 1 (ah [aa 74 72,dI 75 70 72 5,aM 76 75 5,cm 8 zQ,aa 7 74,eD 8 76 5] (ah [af 77 8 1,aj 78 77,bu 79 .neq 78 72,aa 80 79,bk true 84 80 [af 81 8 2,aj 82 81,bu 83 .lss 82 1] 83,aa 85 84,bk true 91 85 [af 86 8 2,aj 87 86,af 88 2 2,aj 89 88,bJ 90 .gtr 87 89] 90,aa 92 91,bk true 96 92 [af 93 8 4,aj 94 93,I.bin 95 .neq (.t 94) (.k (.i .i64 (-1)))] 95,aa 97 96,bk true 108 97 [af 98 3 4,aj 99 98,aa 100 7,bu 101 .add 100 1,ou 102 99 101 5,eH 103 HH 102,cA 104 103,aa 105 7,bu 106 .add 105 1,bJ 107 .neq 104 106] 107] (dA 108 (ah [cF 4 1] (br (.keep [4]) .ret)))))) (.cB [bu 109 .add 72 1,aa 72 109])))
def uT:F:=.mk (ah [bp 2 0 4,bp 3 1 9,bz 4] (br (ah [aM 10 2 4,eH 11 tK 10,aa 9 11,cg 12 9 0,cg 13 9 1,cm 5 zR,eD 5 12 9,aa 6 13] (ah [aa 14 6,bM 15 .neq 14] (dA 15 (aA [aa 16 6,aa 4 16])))) (bZ [af 17 3 0,aj 18 17,I.bin 19 .neq (.t 18) (.k (.i .i64 (-1))),aa 20 19,bk true 24 20 [af 21 3 1,aj 22 21,bM 23 .lss 22] 23,aa 25 24,bk true 31 25 [af 26 3 1,aj 27 26,af 28 2 2,aj 29 28,bJ 30 .gtr 27 29] 30,aa 32 31,bk true 36 32 [af 33 3 2,aj 34 33,bM 35 .lss 34] 35,aa 37 36,bk true 41 37 [af 38 3 2,aj 39 38,bu 40 .gtr 39 1099511627776] 40] 41 (aA [cF 4 1]) (bZ [af 42 3 8,aj 43 42,bM 44 .neq 43,aa 45 44,bk true 48 45 [af 46 3 7,aj 47 46] 47,aa 49 48,bk true 62 49 [af 50 3 3,aj 51 50,cA 52 51,af 53 3 5,aj 54 53,cA 55 54,bJ 56 .add 52 55,af 57 3 6,aj 58 57,cA 59 58,bJ 60 .add 56 59,bM 61 .gtr 60] 61,aa 63 62,bk true 68 63 [af 64 3 4,aj 65 64,I.call (some 66) qM [cW 1,.t 65],bM 67 .neq 66] 67] 68 (aA [cF 4 1]) (br (ah [af 69 3 4,aj 70 69,cA 71 70,bz 72] (.cr 0 (.loop [2,3,70,71,72] E0))) (aA [bz 4])))))) [.t 4] false none
def Ic:C :=ah [cm 11 zQ,eD 11 32 5] (.cB [cm 12 zR,eD 12 33 9])
def Ie:C :=.cr 1 (ah [af 34 10 12,aj 35 34,af 36 11 0,aj 37 36,I.build 38 lI [(0,1,.t 37),(1,1,cW 72),(3,1,fR),(4,1,.k (.i .i64 (-1)))],jf 39 5 1 lI 38,je 40 35 39 5,af 41 10 12,aQ 41 40 1] (.cB [aM 42 12 9,aQ 4 42 9]))
def zF:F:=.mk (ah [bp 3 0 4,iS 4 1 9,bp 5 2 5,cm 6 ct,bz 7] (br (ah [aM 13 3 4,aM 14 4 9,aM 15 5 5,jC 16 LN 13 14 15,aa 8 16] (ah [aa 17 8,bM 18 .neq 17] (dA 18 (aA [dS 19 ct,aa 20 8,aQ 6 19 13,aa 7 20])))) (ah [aM 21 3 4,aM 22 4 9,I.build 23 [.s [],.i .i64 0,.i .i64 0,.i .i64 0,.i .i64 0,.i .i64 0,.i .i64 0,.sl 1 true [],.sl 5 true [],.sl 1 true [],.sl 2 true [],.b false,.i .i64 0] [(0,4,.t 21),(4,9,.t 22)],I.gJ 24 RB [.t 23] [],aa 9 24] (ah [aa 25 9,af 26 5 4,aj 27 26,uQ 28 25 27,aQ 4 28 9] (ah [dS 29 ct,cm 10 ct,aQ 10 29 13] (br (ah [aM 30 4 9,lJ 31 RC 30] (.cr 0 (.sK (.t 31) [4,10] [32,33] Ic Ie))) (br (.cr 2 (ah [af 60 5 1,aj 61 60,bu 62 .eql 61 75,aa 59 62] (cX 59 (.cB [af 63 10 11,I.st (.t 63) fR 1 false]) (ah [af 65 4 4,aj 66 65,cA 67 66,bM 68 .eql 67,aa 69 68,bk false 75 69 [af 70 4 1,aj 71 70,af 72 5 2,aj 73 72,bJ 74 .geq 71 73] 74,aa 64 75] (cX 64 (ah [af 76 4 1,aj 77 76,af 78 5 2,aj 79 78,bJ 80 .sub 77 79,af 81 4 1,aQ 81 80 1] (.cB [af 82 10 11,I.st (.t 82) fR 1 false])) (fy [0,1,3,4,5,6,7,8,9,10,11,12,2,13,14,15] [af 43 4 4,aj 44 43,fJ 46 5 0,fE 47 46,fJ 48 5 1,fE 49 48,fJ 50 5 2,fE 51 50,fJ 52 5 3,fE 53 52,I.build 54 zQ [(0,1,.t 47),(1,1,.t 49),(2,1,.t 51),(3,1,.t 53),(4,1,.k (.i .i64 (-1)))],jf 55 5 1 zQ 54,lJ 45 sO 44,je 56 45 55 5,af 57 4 4,aQ 57 56 1] (.cB [af 58 10 9,I.st (.t 58) fR 1 false]))))))) (ah [aM 83 4 9,I.fa 84 (.t 10) 0 9,aQ 84 83 9] (aA [aM 85 10 13,aQ 6 85 13,bz 7]))))))))) [.c 6 13 true,.t 7] false none
def Ig:F:=.mk (ah [bp 3 0 4,iS 4 1 9,cm 6 ct,bz 7] (br (ah [aM 9 3 4,aM 10 4 9,cU 11 ng 9 10,aa 8 11] (ah [aa 12 8,bM 13 .neq 12] (dA 13 (aA [dS 14 ct,aa 15 8,aQ 6 14 13,aa 7 15])))) (bZ [aM 16 4 9,aa 17 2,cU 18 HN 16 17,dj 19 18] 19 (aA [dS 20 ct,aQ 6 20 13,cF 7 7]) (ah [af 21 4 4,aj 22 21,aa 23 2,cU 24 vW 22 23,af 25 4 4,aQ 25 24 1] (aA [aM 26 4 9,I.build 27 ct [(0,9,.t 26)],aQ 6 27 13,bz 7]))))) [.c 6 13 true,.t 7] false none
def ac7:F:=.mk (ah [bp 3 0 4,bp 4 1 9,bp 5 2 5,bS 6] (ah [aM 10 3 4,aM 11 4 9,aM 12 5 5,jC 13 zw 10 11 12,aa 9 13,cg 14 9 0,cg 15 9 1,cm 7 ct,eD 7 14 13,aa 8 15] (aA [aa 16 8,bM 17 .eql 16,aa 18 17,bk false 22 18 [af 19 7 9,aj 20 19,dj 21 20] 21,aa 6 22]))) [.t 6] false none
def MC:F:=.mk (ah [bp 1 0 4,cm 2 zR,bz 3] (bZ [af 4 1 1,aj 5 4,bu 6 .neq 5 9] 6 (aA [dS 7 zR,aQ 2 7 9,cF 3 8]) (bZ [af 8 1 2,aj 9 8,bM 10 .neq 9,aa 11 10,bk true 15 11 [af 12 1 3,aj 13 12,bM 14 .neq 13] 14] 15 (aA [dS 16 zR,aQ 2 16 9,cF 3 2]) (aA [I.build 17 zR [(0,1,.k (.i .i64 (-1)))],aQ 2 17 9,bz 3])))) [.c 2 9 true,.t 3] false none
def E1:F:=.mk (ah [bp 2 0 4,bp 3 1 9,bz 4] (br (ah [aM 8 2 4,eH 9 tL 8,aa 7 9,cg 10 7 0,cg 11 7 1,cm 5 zR,eD 5 10 9,aa 6 11] (ah [aa 12 6,bM 13 .neq 12] (dA 13 (aA [aa 14 6,aa 4 14])))) (bZ [aM 15 3 9,I.build 16 zR [(0,9,.t 15)],eH 17 LO 16,dj 18 17] 18 (aA [cF 4 1]) (aA [bz 4])))) [.t 4] false none
def CZ:F:=.mk (ah [bp 3 0 4,bp 4 1 9,bp 5 2 5,cm 6 ct,bz 7] (bZ [aM 10 3 4,aM 11 4 9,cU 12 oU 10 11,bM 13 .neq 12] 13 (aA [dS 14 ct,aQ 6 14 13,cF 7 1]) (bZ [af 15 5 0,aj 16 15,bM 17 .lss 16,aa 18 17,bk true 22 18 [af 19 5 0,aj 20 19,bu 21 .geq 20 16] 21,aa 23 22,bk true 27 23 [af 24 5 3,aj 25 24,bM 26 .lss 25] 26,aa 28 27,bk true 32 28 [af 29 5 3,aj 30 29,bu 31 .gtr 30 9] 31,aa 33 32,bk true 37 33 [af 34 5 4,aj 35 34,bM 36 .lss 35] 36,aa 38 37,bk true 42 38 [af 39 5 4,aj 40 39,bu 41 .gtr 40 1099511627776] 41] 42 (aA [dS 43 ct,aQ 6 43 13,cF 7 2]) (br (fy [0,1,2,3,4,5,6,7] [iD 44 4 9,I.build 45 zR [(0,9,.t 44)],fJ 46 5 1,fE 47 46,bu 48 .eql 47 73,cm 8 zR,aQ 8 45 9,aa 9 48] (.qJ [8])) (br (.cr 0 (ah [aa 50 9,dj 51 50,aa 52 51,bk false 56 52 [af 53 5 1,aj 54 53,bu 55 .neq 54 74] 55,aa 49 56] (cX 49 (aA [dS 57 ct,aQ 6 57 13,cF 7 8]) (ah [aa 59 9,aa 60 59,bk false 65 60 [af 61 5 2,aj 62 61,eH 63 LP 62,dj 64 63] 64,aa 58 65] (cX 58 (aA [dS 66 ct,aQ 6 66 13,cF 7 2]) (ah [aM 68 8 9,af 69 5 0,aj 70 69,cU 71 HO 68 70,aa 72 71,bk true 79 72 [aa 73 9,aa 74 73,bk false 78 74 [I.fa 75 (.t 8) 0 9,af 76 75 7,aj 77 76] 77] 78,aa 67 79] (cX 67 (aA [dS 80 ct,aQ 6 80 13,cF 7 17]) (ah [aa 82 9,aa 81 82] (dA 81 (aA [aM 83 8 9,af 84 5 2,aj 85 84,cU 86 RD 83 85,aQ 6 86 13,bz 7])))))))))) (aA [aM 87 8 9,aM 88 5 5,cU 89 RE 87 88,aQ 6 89 13,bz 7])))))) [.c 6 13 true,.t 7] false none
def Ih:F:=.mk (ah [bp 3 0 4,iS 4 1 9,cm 6 ct,bz 7] (bZ [aM 8 3 4,aM 9 4 9,cU 10 oU 8 9,bM 11 .neq 10] 11 (aA [dS 12 ct,aQ 6 12 13,cF 7 1]) (bZ [aM 13 4 9,I.build 14 zR [(0,9,.t 13)],aa 15 2,cU 16 HO 14 15,dj 17 16] 17 (aA [dS 18 ct,aQ 6 18 13,cF 7 7]) (ah [af 19 4 4,aj 20 19,aa 21 2,cU 22 vW 20 21,af 23 4 4,aQ 23 22 1] (aA [aM 24 4 9,I.build 25 ct [(0,9,.t 24)],aQ 6 25 13,bz 7]))))) [.c 6 13 true,.t 7] false none
def ac8:F:=.mk (ah [bp 3 0 4,bp 4 1 9,bp 5 2 5,bS 6] (ah [aM 10 3 4,aM 11 4 9,aM 12 5 5,jC 13 A8 10 11 12,aa 9 13,cg 14 9 0,cg 15 9 1,cm 7 ct,eD 7 14 13,aa 8 15] (aA [aa 16 8,bM 17 .eql 16,aa 18 17,bk false 22 18 [af 19 7 9,aj 20 19,dj 21 20] 21,aa 6 22]))) [.t 6] false none
def MD:C :=ah [bJ 9 .lss 8 7] (br (cX 9 .skip (br (.keep []) (.exit 0))) (br (.cr 1 (ah [aa 10 8,aa 5 10] (ah [aa 11 1,aa 12 0,aa 13 5,dI 14 12 13 2,aM 15 14 2,uQ 16 11 15] (dA 16 (ah [aa 17 5,aa 4 17] (br (.keep [4]) .ret)))))) (.cB [bu 18 .add 8 1,aa 8 18])))
def Sl:F:=.mk (ah [bz 4] (br (ah [aa 6 0,cA 7 6,bz 8] (.cr 0 (.loop [0,1,7,8] MD))) (aA [I.mv 4 (.k (.i .i64 (-1)))]))) [.t 4] false none
def v5:C :=ah [bJ 9 .lss 8 7] (br (cX 9 .skip (br (.keep []) (.exit 0))) (br (.cr 1 (ah [aa 10 8,aa 5 10] (ah [aa 11 1,aa 12 0,aa 13 5,dI 14 12 13 5,aM 15 14 5,uQ 16 11 15] (dA 16 (ah [aa 17 5,aa 4 17] (br (.keep [4]) .ret)))))) (.cB [bu 18 .add 8 1,aa 8 18])))
def E2:F:=.mk (ah [bz 4] (br (ah [aa 6 0,cA 7 6,bz 8] (.cr 0 (.loop [0,1,7,8] v5))) (aA [I.mv 4 (.k (.i .i64 (-1)))]))) [.t 4] false none
def E3:C :=ah [bJ 64 .lss 63 62] (br (cX 64 .skip (br (.keep []) (.exit 0))) (br (.cr 1 (ah [aa 65 63,dI 66 61 63 5,aM 67 66 5,cm 4 zQ,aa 3 65,eD 4 67 5] (bZ [af 68 4 1,aj 69 68,bu 70 .neq 69 50,aa 71 70,bk true 75 71 [af 72 4 2,aj 73 72,bM 74 .neq 73] 74,aa 76 75,bk true 80 76 [af 77 4 4,aj 78 77,I.bin 79 .neq (.t 78) (.k (.i .i64 (-1)))] 79,aa 81 80,bk true 87 81 [af 82 4 0,aj 83 82,af 84 1 0,aj 85 84,bJ 86 .eql 83 85] 86] 87 (ah [bS 2] (br (.keep [2]) .ret)) (ah [af 88 1 4,aj 89 88,aa 90 3,ou 91 89 90 5,I.gJ 92 LQ [] [.t 4],cU 93 qL 91 92] (dA 93 (ah [bS 2] (br (.keep [2]) .ret))))))) (.cB [bu 94 .add 63 1,aa 63 94])))
def E4:F:=.mk (ah [bp 1 0 9,bS 2] (bZ [af 5 1 0,aj 6 5,I.bin 7 .neq (.t 6) (.k (.i .i64 (-1))),aa 8 7,bk false 13 8 [af 9 1 0,aj 10 9,eH 11 HF 10,dj 12 11] 12,aa 14 13,bk true 24 14 [af 15 1 0,aj 16 15,I.bin 17 .eql (.t 16) (.k (.i .i64 (-1))),aa 18 17,bk false 23 18 [af 19 1 4,aj 20 19,cA 21 20,bM 22 .gtr 21] 22] 23] 24 (aA [bS 2]) (bZ [af 25 1 1,aj 26 25,bM 27 .neq 26,aa 28 27,bk true 32 28 [af 29 1 2,aj 30 29,bM 31 .neq 30] 31,aa 33 32,bk true 37 33 [af 34 1 8,aj 35 34,bM 36 .neq 35] 36,aa 38 37,bk true 41 38 [af 39 1 7,aj 40 39] 40,aa 42 41,bk true 55 42 [af 43 1 3,aj 44 43,cA 45 44,af 46 1 5,aj 47 46,cA 48 47,bJ 49 .add 45 48,af 50 1 6,aj 51 50,cA 52 51,bJ 53 .add 49 52,bM 54 .gtr 53] 54] 55 (aA [bS 2]) (bZ [af 56 1 4,aj 57 56,I.call (some 58) qM [cW 2,.t 57],bM 59 .neq 58] 59 (aA [bS 2]) (br (ah [af 60 1 4,aj 61 60,cA 62 61,bz 63] (.cr 0 (.loop [1,61,62,63] E3))) (aA [ia 2])))))) [.t 2] false none
def Sm:F:=.mk (ah [I.mv 0 (.k .uE)] (aA [I.mF 1,I.fI (.t 1) (cW 50) (.k (.fn HP [] [])) [.i],I.fI (.t 1) (cW 51) (.k (.fn LR [] [])) [.i],I.fI (.t 1) (cW 52) (.k (.fn LS [] [])) [.i],aa 2 1,aa 0 2])) [.t 0] true none
def ME:F:=.mk (ah [bS 2] (aA [aa 3 0,bM 4 .geq 3,aa 5 4,bk false 8 5 [aa 6 0,bu 7 .lss 6 16] 7,aa 2 8])) [.t 2] false none
def Sn:F:=.mk (ah [bp 2 0 9,bp 3 1 1,bS 4] (aA [af 5 2 4,aj 6 5,I.gJ 7 LU [] [.t 3],cU 8 qL 6 7,aa 4 8])) [.t 4] false none
def MF:F:=.mk (ah [bp 3 1 1,I.mv 4 (.k (.sl 5 true []))] (aA [aa 5 0,I.gJ 6 uO [] [.t 3],cU 7 LV 5 6,aa 4 7])) [.t 4] false none
def MG:F:=.mk (ah [bp 3 1 1,I.mv 4 (.k (.sl 5 true []))] (aA [aa 5 0,I.gJ 6 uO [] [.t 3],oq 7 RF 5 6,aa 4 7])) [.t 4] true none
def Be:C :=ah [bJ 55 .lss 54 53] (br (cX 55 .skip (br (.keep [1]) (.exit 0))) (br (.cr 1 (ah [aa 56 54,dI 57 52 54 1,aj 58 57,aa 3 56,aa 4 58] (ah [aa 59 4,eH 60 EG 59,dj 61 60,aa 62 61,bk true 75 62 [aa 63 3,bM 64 .gtr 63,aa 65 64,bk false 74 65 [af 66 1 3,aj 67 66,aa 68 3,bu 69 .sub 68 1,dI 70 67 69 1,aj 71 70,aa 72 4,bJ 73 .geq 71 72] 73] 74] (dA 75 (ah [bS 2] (br (.keep [2]) .ret)))))) (.cB [bu 76 .add 54 1,aa 54 76])))
def E5:F:=.mk (ah [bp 1 0 9,bS 2] (bZ [af 5 1 0,aj 6 5,I.bin 7 .neq (.t 6) (.k (.i .i64 (-1))),aa 8 7,bk false 19 8 [af 9 1 0,aj 10 9,eH 11 EG 10,dj 12 11,aa 13 12,bk true 18 13 [af 14 1 3,aj 15 14,cA 16 15,bM 17 .gtr 16] 17] 18,aa 20 19,bk true 24 20 [af 21 1 1,aj 22 21,bM 23 .neq 22] 23,aa 25 24,bk true 29 25 [af 26 1 2,aj 27 26,bM 28 .neq 27] 28,aa 30 29,bk true 35 30 [af 31 1 5,aj 32 31,cA 33 32,bM 34 .gtr 33] 34,aa 36 35,bk true 41 36 [af 37 1 6,aj 38 37,cA 39 38,bM 40 .gtr 39] 40,aa 42 41,bk true 45 42 [af 43 1 7,aj 44 43] 44,aa 46 45,bk true 50 46 [af 47 1 8,aj 48 47,bM 49 .neq 48] 49] 50 (aA [bS 2]) (br (ah [af 51 1 3,aj 52 51,cA 53 52,bz 54] (.cr 0 (.loop [1,52,53,54] Be))) (aA [aM 77 1 9,eH 78 LW 77,aa 2 78])))) [.t 2] false none
def MH:F:=.mk (ah [bS 2] (aA [aa 3 0,bM 4 .geq 3,aa 5 4,bk false 8 5 [aa 6 0,bu 7 .lss 6 16] 7,aa 2 8])) [.t 2] false none
def C0:C :=ah [bJ 11 .lss 10 9] (br (cX 11 .skip (br (.keep []) (.exit 0))) (br (.cr 1 (ah [aa 12 10,dI 13 8 10 5,aM 14 13 5,cm 7 zQ,aa 6 12,eD 7 14 5] (ah [af 15 7 0,aj 16 15,aa 17 1,bJ 18 .eql 16 17] (dA 18 (ah [aa 19 6,aa 4 19,ia 5] (br (.keep [4,5]) .ret)))))) (.cB [bu 20 .add 10 1,aa 10 20])))
def E6:F:=.mk (ah [bz 4,bS 5] (br (ah [aa 8 0,cA 9 8,bz 10] (.cr 0 (.loop [1,8,9,10] C0))) (aA [bz 4,bS 5]))) [.t 4,.t 5] false none
def So:F:=.mk (ah [iS 1 0 9,I.mv 2 (.k .nil)] (fy [0,1,3,4,2,6,5,7,8,9] [af 3 1 3,aj 4 3,af 6 1 4,aj 7 6,lJ 5 tN 4,.re (.fa 6 (.t 1) 4 1),.re (.ld 7 (.t 6) 1 false),af 9 1 3,lJ 8 sO 7,.re (.fa 9 (.t 1) 3 1),aQ 9 5 1,af 10 1 4,aQ 10 8 1] (aA [aM 11 1 9,I.build 12 [.i .i64 0,.i .i64 0,.i .i64 0,.sl 1 true [],.sl 5 true [],.sl 1 true [],.sl 2 true [],.b false,.i .i64 0,.sl 5 true []] [(0,9,.t 11)],iS 13 12 10,aa 2 13]))) [.t 2] true none
def MI:F:=.mk (ah [bp 2 0 9,bz 4] (br (.cr 0 (ah [aa 6 1,bM 7 .geq 6,aa 8 7,bk false 13 8 [aa 9 1,af 10 2 0,aj 11 10,bJ 12 .eql 9 11] 12,aa 5 13] (cX 5 (aA [cF 4 2]) (ah [af 15 2 3,aj 16 15,aa 17 1,cU 18 RI 16 17,aa 14 18] (dA 14 (aA [cF 4 1])))))) (aA [bz 4]))) [.t 4] false none
def E7:F:=.mk (ah [bS 2] (aA [aa 3 0,qg 4 CO 3,dj 5 4,aa 6 5,bk false 14 6 [aa 7 0,cL 8 7,I.fa 9 (.t 8) 0 9,af 10 9 3,aj 11 10,cA 12 11,bM 13 .eql 12] 13,aa 2 14])) [.t 2] true none
def MJ:F:=.mk (ah [bS 2] (aA [aa 3 0,cL 4 3,I.fa 5 (.t 4) 0 9,af 6 5 0,aj 7 6,I.bin 8 .neq (.t 7) (.k (.i .i64 (-1))),aa 2 8])) [.t 2] true none
def nL:F:=.mk (ah [bp 4 1 5,cm 6 ct] (bZ [aa 7 2] 7 (ah [aa 8 0,af 9 4 0,aj 10 9,af 11 4 1,aj 12 11,zB 13 ya 8 10 12] (aA [aa 14 0,qg 15 Re 14,aQ 6 15 13])) (fy [0,1,2,3,4,5,6,7,8,9,10,11,12,13,14,15,16,17,18] [aa 16 0,aa 17 0,cL 18 17,I.fa 19 (.t 18) 0 9,af 20 19 4,aj 21 20,fJ 22 4 0,fE 23 22,fJ 24 4 1,fE 25 24,fJ 26 4 3,fE 27 26,I.build 28 zQ [(0,1,.t 23),(1,1,.t 25),(3,1,.t 27),(4,1,.k (.i .i64 (-1)))],jf 29 5 1 zQ 28,je 30 21 29 5,cL 31 16,I.fa 32 (.t 31) 0 9,af 33 32 4,aQ 33 30 1] (aA [aa 34 0,cL 35 34,I.fa 36 (.t 35) 0 9,aM 37 36 9,I.build 38 ct [(0,9,.t 37),(9,1,fR)],aQ 6 38 13])))) [.c 6 13 true] true none
def Ii:C :=oX [aa 16 6,aa 17 0,cA 18 17,bJ 19 .lss 16 18] 19 .skip (br (.keep [0,5]) (.exit 0)) (br (.cr 1 (ah [aa 22 0,aa 23 6,dI 24 22 23 1,aj 25 24,aa 7 25] (ah [aa 26 1,aa 27 7,uQ 28 26 27,dj 29 28] (dA 29 (ah [aa 30 0,aa 31 5,aa 32 7,dI 33 30 31 1,aQ 33 32 1] (.cB [aa 34 5,bu 35 .add 34 1,aa 5 35])))))) (.cB [aa 20 6,bu 21 .add 20 1,aa 6 21]))
def MK:F:=.mk (ah [I.mv 4 (.k (.sl 1 true []))] (ah [aa 8 0,aa 9 1,oq 10 RK 8 9,aa 5 10] (bZ [aa 11 5,I.bin 12 .eql (.t 11) (.k (.i .i64 (-1)))] 12 (aA [aa 13 0,aa 4 13]) (br (ah [aa 14 5,bu 15 .add 14 1,aa 6 15] (.cr 0 (.loop [0,1,5,6] Ii))) (ah [aa 36 0,aa 37 5,gR 38 36 37 1,I.qI none (.t 38) 1 [.i .i64 0]] (aA [aa 39 0,aa 40 5,ou 41 39 40 1,aa 4 41])))))) [.t 4] true none
def Sq:F:=.mk (ah [bS 3] (aA [aa 4 0,af 5 1 0,aj 6 5,bJ 7 .eql 4 6,aa 3 7])) [.t 3] false none
def ku:C :=oX [aa 3 0,cL 4 3,I.fa 5 (.t 4) 0 9,af 6 5 4,aj 7 6,cA 8 7,bM 9 .gtr 8] 9 .skip (br (.keep []) (.exit 0)) (.cr 1 (ah [aa 10 0,cL 11 10,I.fa 12 (.t 11) 0 9,af 13 12 4,aj 14 13,I.jm 15 (.t 14) k0 5,aM 16 15 5,cm 2 zQ,eD 2 16 5] (br (.cr 2 (oX [aa 18 0,qg 19 CO 18,aa 17 19] 17 .skip (.cB [af 20 2 1,aj 21 20,bu 22 .eql 21 55,aa 23 22,bk false 27 23 [aa 24 0,qg 25 EH 24,dj 26 25] 26,aa 17 27]) (dA 17 (br (.keep []) (.exit 0))))) (ah [aa 28 0,aa 29 0,cL 30 29,I.fa 31 (.t 30) 0 9,af 32 31 4,aj 33 32,I.sl 34 (.t 33) (some (cW 1)) none 5,cL 35 28,I.fa 36 (.t 35) 0 9,af 37 36 4,aQ 37 34 1] (ah [aa 38 0,af 39 2 0,aj 40 39,af 41 2 1,aj 42 41,zB 43 ya 38 40 42] (.mG [] [0,1,2,3,4,5,6,7,8,9,10,11,12,13,14] [aa 44 0,aa 45 0,cL 46 45,af 47 46 9,aj 48 47,fJ 49 2 0,fE 50 49,fJ 51 2 1,fE 52 51,I.build 53 lI [(0,1,.t 50),(1,1,.t 52),(3,1,fR),(4,1,.k (.i .i64 (-1)))],jf 54 5 1 lI 53,je 55 48 54 5,cL 56 44,af 57 56 9,aQ 57 55 1]))))))
def Bf:F:=.mk (br .skip (br .skip (.cr 0 (.loop [0] ku)))) [] true none
def nM:F:=.mk (ah [cm 2 ct] (fy [0,1,2,3,4,5,6,7,8,9] [aa 3 0,cL 4 3,I.fa 5 (.t 4) 0 9,aM 6 5 9,aa 7 0,cL 8 7,af 9 8 9,aj 10 9,I.build 11 ct [(0,9,.t 6),(11,1,fR),(12,1,.t 10)],aQ 2 11 13] .ret)) [.c 2 13 true] true none
def v7:C :=ah [bJ 19 .lss 18 17] (br (cX 19 .skip (br (.keep []) (.exit 0))) (br (.cr 1 (ah [aa 20 18,dI 21 16 18 5,aM 22 21 5,cm 6 zQ,aa 5 20,eD 6 22 5] (bZ [aM 23 6 5,eH 24 EJ 23,dj 25 24] 25 (ah [cF 4 2] (br (.keep [4]) .ret)) (fy [0,1,2,3,4,5,6,7,8,9,10,11,12,13,14,15,16] [aa 26 0,bu 27 .eql 26 2,aa 28 27,bk false 31 28 [aa 29 5,bM 30 .gtr 29] 30,aa 32 31,bk false 42 32 [fJ 33 6 3,fE 34 33,aa 35 1,aa 36 5,bu 37 .sub 36 1,dI 38 35 37 5,af 39 38 3,aj 40 39,bJ 41 .gtr 34 40] 41] (dA 42 (ah [cF 4 9] (br (.keep [4]) .ret))))))) (.cB [bu 43 .add 18 1,aa 18 43])))
def zG:F:=.mk (ah [bz 4] (bZ [aa 7 0,bu 8 .neq 7 1,aa 9 8,bk false 12 9 [aa 10 0,bu 11 .neq 10 2] 11] 12 (aA [cF 4 8]) (bZ [aa 13 1,cA 14 13,bu 15 .gtr 14 96] 15 (aA [cF 4 4]) (br (ah [aa 16 1,cA 17 16,bz 18] (.cr 0 (.loop [0,1,16,17,18] v7))) (aA [bz 4]))))) [.t 4] false none
def E8:F:=.mk (ah [bp 3 0 4,bp 4 1 9,bS 6] (ah [af 10 4 4,aj 11 10,aa 12 2,dI 13 11 12 5,aM 14 13 5,cm 7 zQ,eD 7 14 5] (bZ [af 15 7 1,aj 16 15,bu 17 .neq 16 60,aa 18 17,bk true 22 18 [af 19 7 2,aj 20 19,bu 21 .lss 20 1] 21,aa 23 22,bk true 29 23 [af 24 7 2,aj 25 24,af 26 3 2,aj 27 26,bJ 28 .gtr 25 27] 28,aa 30 29,bk true 34 30 [af 31 7 4,aj 32 31,I.bin 33 .neq (.t 32) (.k (.i .i64 (-1)))] 33] 34 (aA [bS 6]) (br (ah [af 36 4 4,aj 37 36,af 38 7 0,aj 39 38,cU 40 jd 37 39,aa 35 40,cg 41 35 0,cg 42 35 1,aa 8 41,aa 9 42] (ah [aa 43 8,aa 44 2,bJ 45 .neq 43 44] (dA 45 (aA [bS 6])))) (aA [aa 46 2,bM 47 .gtr 46,aa 48 47,bk false 52 48 [af 49 3 3,aj 50 49,bM 51 .eql 50] 51,aa 53 52,bk true 59 53 [af 54 7 2,aj 55 54,af 56 4 1,aj 57 56,bJ 58 .gtr 55 57] 58,aa 6 59]))))) [.t 6] false none
def Bg:F:=.mk (ah [bp 3 0 4,bp 4 1 9,bp 5 2 5,bz 6] (bZ [af 9 5 0,aj 10 9,bM 11 .lss 10,aa 12 11,bk true 16 12 [af 13 5 0,aj 14 13,bu 15 .geq 14 16] 15,aa 17 16,bk true 21 17 [af 18 5 3,aj 19 18,bM 20 .lss 19] 20,aa 22 21,bk true 26 22 [af 23 5 3,aj 24 23,bu 25 .gtr 24 9] 25,aa 27 26,bk true 31 27 [af 28 5 4,aj 29 28,bM 30 .lss 29] 30,aa 32 31,bk true 36 32 [af 33 5 4,aj 34 33,bu 35 .gtr 34 1099511627776] 35] 36 (aA [cF 6 2]) (bZ [af 37 5 1,aj 38 37,bu 39 .neq 38 60,aa 40 39,bk false 44 40 [af 41 5 1,aj 42 41,bu 43 .neq 42 61] 43,aa 45 44,bk false 49 45 [af 46 5 1,aj 47 46,bu 48 .neq 47 62] 48] 49 (aA [cF 6 8]) (bZ [af 50 5 2,aj 51 50,bu 52 .lss 51 1,aa 53 52,bk true 59 53 [af 54 5 2,aj 55 54,af 56 3 2,aj 57 56,bJ 58 .gtr 55 57] 58] 59 (aA [cF 6 2]) (br (ah [af 61 4 4,aj 62 61,af 63 5 0,aj 64 63,cU 65 jd 62 64,aa 60 65,cg 66 60 0,cg 67 60 1,aa 7 66,aa 8 67] (ah [aa 68 8,aa 69 68,bk true 83 69 [af 70 5 1,aj 71 70,bu 72 .eql 71 62,aa 73 72,bk false 82 73 [af 74 4 1,aj 75 74,af 76 5 2,aj 77 76,bJ 78 .add 75 77,af 79 3 2,aj 80 79,bJ 81 .gtr 78 80] 81] 82] (dA 83 (aA [cF 6 17])))) (aA [bz 6])))))) [.t 6] false none
def ML:F:=.mk (ah [cm 2 ct] (bZ [aj 4 0,af 5 1 2,aj 6 5,oq 7 LD 4 6] 7 (aA [I.build 8 ct [(11,1,fR)],aQ 2 8 13]) (ah [af 9 1 0,aj 10 9,af 11 1 1,aj 12 11,af 13 1 2,aj 14 13,af 15 1 3,aj 16 15,I.build 17 zQ [(0,1,.t 10),(1,1,.t 12),(2,1,.t 14),(3,1,.t 16),(4,1,.k (.i .i64 (-1)))],cm 3 zQ,eD 3 17 5] (fy [0,1,2,3,4,5,6,7,8,9,10,11,12,13,14] [aj 19 0,aj 20 0,cL 21 20,I.fa 22 (.t 21) 0 9,af 23 22 4,aj 24 23,iD 25 3 5,I.call (some 26) Ri [cW 1,.t 24,.t 25],aa 18 26,cg 27 18 0,cg 28 18 1,cL 29 19,I.fa 30 (.t 29) 0 9,af 31 30 4,aQ 31 27 1] (aA [I.build 32 ct [(9,1,fR)],aQ 2 32 13]))))) [.c 2 13 true] false none
def E9:F:=.mk (ah [bS 4] (bZ [aa 5 1,aa 6 0,cL 7 6,I.fa 8 (.t 7) 0 9,af 9 8 1,aj 10 9,bJ 11 .gtr 5 10,aa 12 11,bk true 27 12 [aa 13 0,cL 14 13,af 15 14 9,aj 16 15,dj 17 16,aa 18 17,bk false 26 18 [aa 19 0,cL 20 19,I.fa 21 (.t 20) 0 9,af 22 21 4,aj 23 22,cA 24 23,bM 25 .gtr 24] 25] 26] 27 (aA [bS 4]) (ah [aa 28 0,cL 29 28,I.fa 30 (.t 29) 0 9,af 31 30 1,aj 32 31,aa 33 1,bJ 34 .sub 32 33,cL 35 28,I.fa 36 (.t 35) 0 9,af 37 36 1,aQ 37 34 1] (aA [ia 4])))) [.t 4] true none
def Sr:C :=br (fy [0,1,2,3,4,5,6,7,8,9,10,11,12,13,14,15,16] [aa 25 0,bu 26 .eql 25 2,aa 27 26,bk false 30 27 [aa 28 9,bM 29 .gtr 28] 29,aa 31 30,bk false 41 31 [aa 32 1,aa 33 9,bu 34 .sub 33 1,dI 35 32 34 5,af 36 35 3,aj 37 36,fJ 38 5 3,fE 39 38,bJ 40 .lss 37 39] 40] (cX 41 .skip (br (.keep [1,5,9]) (.exit 0)))) (.cr 1 (.cB [aa 42 9,bu 43 .sub 42 1,aa 9 43]))
def MM:F:=.mk (ah [bp 5 2 5,I.mv 6 (.k (.sl 5 true [])),bz 7] (br (ah [aa 11 0,aa 12 1,cU 13 qM 11 12,aa 8 13] (ah [aa 14 8,bM 15 .neq 14] (dA 15 (aA [aa 16 8,I.mv 6 (.k (.sl 5 true [])),aa 7 16])))) (bZ [aM 17 5 5,eH 18 EJ 17,dj 19 18] 19 (aA [I.mv 6 (.k (.sl 5 true [])),cF 7 2]) (bZ [aa 20 1,cA 21 20,bu 22 .eql 21 96] 22 (aA [I.mv 6 (.k (.sl 5 true [])),cF 7 4]) (ah [aa 23 1,cA 24 23,aa 9 24] (br (.cr 0 (.loop [0,1,5,9] Sr)) (ah [aa 44 1,cA 45 44,bu 46 .add 45 1,I.vS 47 5 zQ k0 (.t 46),aa 10 47] (ah [aa 48 10,aa 49 1,aa 50 9,ou 51 49 50 5,je 52 48 51 5,aa 10 52] (ah [aa 53 10,aM 54 5 5,jf 55 5 1 zQ 54,je 56 53 55 5,aa 10 56] (aA [aa 57 10,aa 58 1,aa 59 9,gR 60 58 59 5,je 61 57 60 5,aa 6 61,bz 7])))))))))) [.t 6,.t 7] false none
def Ss:F:=.mk (ah [cm 2 ct] (aA [aj 3 0,af 4 1 2,aj 5 4,oq 6 LD 3 5,I.build 7 ct [(11,1,.t 6)],aQ 2 7 13])) [.c 2 13 true] false none
def MN:F:=.mk (ah [cm 2 ct] (fy [0,1,2,3,4,5,6,7,8,9,10,11] [aj 3 0,cL 4 3,I.fa 5 (.t 4) 0 9,af 6 5 1,aj 7 6,af 8 1 2,aj 9 8,bJ 10 .add 7 9,cL 11 3,I.fa 12 (.t 11) 0 9,af 13 12 1,aQ 13 10 1] (aA [aj 14 0,qg 15 LF 14,I.build 16 ct [(11,1,fR),(12,1,.t 15)],aQ 2 16 13]))) [.c 2 13 true] false none
def Ij:C :=ah [bJ 41 .lss 40 39] (br (cX 41 .skip (br (.keep [6]) (.exit 0))) (br (.cr 1 (ah [dI 42 38 40 5,aM 43 42 5,cm 8 zQ,eD 8 43 5] (.cB [aa 44 6,af 45 8 0,aj 46 45,af 47 8 1,aj 48 47,I.build 49 lI [(0,1,.t 46),(1,1,.t 48),(3,1,fR),(4,1,.k (.i .i64 (-1)))],jf 50 5 1 lI 49,je 51 44 50 5,aa 6 51]))) (.cB [bu 52 .add 40 1,aa 40 52])))
def MO:F:=.mk (ah [I.mv 2 (.k (.sl 5 true []))] (fy [0,1,2,3,4,5,6,7,8,9,10,11,12,13,14,15,16,17,18,19,20,21] [aa 10 0,cL 11 10,I.fa 12 (.t 11) 0 9,af 13 12 4,aj 14 13,aa 15 0,cL 16 15,I.fa 17 (.t 16) 0 9,af 18 17 1,aj 19 18,aa 20 0,cL 21 20,af 22 21 9,aj 23 22,jC 24 RL 14 19 23,aa 9 24,cg 25 9 0,cg 26 9 1,cg 27 9 2,aa 3 25,aa 4 26,aa 5 27] (ah [aa 28 0,aa 29 0,aa 30 4,aa 31 5,cL 32 28,I.fa 33 (.t 32) 0 9,af 34 33 4,aQ 34 30 1,cL 35 29,I.fa 36 (.t 35) 0 9,af 37 36 1,aQ 37 31 1] (ah [I.mv 6 (.k (.sl 5 true []))] (br (ah [aa 38 3,cA 39 38,bz 40] (.cr 0 (.loop [6,38,39,40] Ij))) (aA [aa 53 6,aa 2 53])))))) [.t 2] true none
def Ik:C :=ah [bJ 12 .lss 11 10] (br (cX 12 .skip (br (.keep [4]) (.exit 0))) (br (.cr 1 (ah [aa 13 11,dI 14 9 11 5,aM 15 14 5,cm 6 zQ,aa 5 13,eD 6 15 5] (oX [af 16 6 0,aj 17 16,bM 18 .geq 17,aa 19 18,bk false 23 19 [af 20 6 0,aj 21 20,bu 22 .lss 21 16] 22] 23 (bZ [af 24 6 0,aj 25 24,I.oP 26 (.t 3) (.t 25) 16 1,aj 27 26] 27 (br (.keep [0,3,4,9,10,11]) (.exit 1)) (.cB [af 28 6 0,aj 29 28,I.oP 30 (.t 3) (.t 29) 16 1,I.st (.t 30) fR 1 false])) (ah [aa 32 0,af 33 6 0,aj 34 33,cU 35 jd 32 34,aa 31 35,cg 36 31 0,cg 37 31 1,aa 7 36,aa 8 37] (ah [aa 38 7,aa 39 5,bJ 40 .lss 38 39] (dA 40 (br (.keep [0,3,4,9,10,11]) (.exit 1))))) (.cB [aa 41 4,af 42 6 0,aj 43 42,jf 44 1 1 [.i .i64 0] 43,je 45 41 44 1,aa 4 45])))) (.cB [bu 46 .add 11 1,aa 11 46])))
def MP:F:=.mk (ah [I.mv 2 (.k (.sl 1 true []))] (ah [cm 3 [.b false,.b false,.b false,.b false,.b false,.b false,.b false,.b false,.b false,.b false,.b false,.b false,.b false,.b false,.b false,.b false]] (ah [I.mv 4 (.k (.sl 1 true []))] (br (ah [aa 9 0,cA 10 9,bz 11] (.cr 0 (.loop [0,3,4,9,10,11] Ik))) (aA [aa 47 4,aa 2 47]))))) [.t 2] false none
def Su:F:=.mk (ah [I.mv 0 (.k (.sl 2 true []))] (aA [I.build 1 [.cN,.i .i64 0] [(0,1,.k (.fn LX [] [])),(1,1,cW 8)],I.build 2 [.cN,.i .i64 0] [(0,1,.k (.fn LY [] [])),(1,1,cW 2)],I.build 3 [.cN,.i .i64 0] [(0,1,.k (.fn LZ [] [])),(1,1,cW 2)],I.build 4 [.cN,.i .i64 0] [(0,1,.k (.fn L0 [] [])),(1,1,cW 17)],I.mZ 5 2 4 [.cN,.i .i64 0] [(0,.t 1),(1,.t 2),(2,.t 3),(3,.t 4)] true,aa 0 5])) [.t 0] false none
def qN:F:=.mk (ah [I.mv 2 (.k (.sl 5 true []))] (bZ [aa 3 0,I.qH 4 false (.t 3) .sl] 4 (aA [I.mv 2 (.k (.sl 5 true []))]) (aA [I.mZ 5 5 0 zQ [] false,aa 6 0,je 7 5 6 5,aa 2 7]))) [.t 2] true none
def MQ:F:=⟨qN.code,qN.res,false,none⟩
def Sv:F:=.mk (ah [bp 1 0 1,I.mv 2 (.k .cN)] (aA [I.gJ 3 L1 [] [.t 1],aa 2 3])) [.t 2] true none
def MR:F:=.mk (ah [bp 2 0 9,bS 4] (ah [af 8 2 4,aj 9 8,aa 10 1,cU 11 jd 9 10,aa 7 11,cg 12 7 0,cg 13 7 1,aa 5 12,aa 6 13] (aA [aa 14 6,aa 4 14]))) [.t 4] false none
def Fa:C :=ah [bJ 55 .lss 54 53] (br (cX 55 .skip (br (.keep [2,3]) (.exit 0))) (br (.cr 1 (ah [aa 56 54,aa 5 56] (ah [af 57 3 4,aj 58 57,aa 59 5,cU 60 RN 58 59,dj 61 60] (dA 61 (ah [bS 4] (br (.keep [4]) .ret)))))) (.cB [bu 62 .add 54 1,aa 54 62])))
def v8:F:=.mk (ah [bp 2 0 4,bp 3 1 9,bS 4] (bZ [af 6 3 0,aj 7 6,I.bin 8 .neq (.t 7) (.k (.i .i64 (-1))),aa 9 8,bk true 13 9 [af 10 3 1,aj 11 10,bM 12 .neq 11] 12,aa 14 13,bk true 18 14 [af 15 3 2,aj 16 15,bM 17 .neq 16] 17,aa 19 18,bk true 23 19 [af 20 3 8,aj 21 20,bM 22 .neq 21] 22,aa 24 23,bk true 33 24 [af 25 3 3,aj 26 25,cA 27 26,af 28 3 6,aj 29 28,cA 30 29,bJ 31 .add 27 30,bM 32 .gtr 31] 32,aa 34 33,bk true 41 34 [af 35 3 5,aj 36 35,cA 37 36,af 38 2 2,aj 39 38,bJ 40 .gtr 37 39] 40] 41 (aA [bS 4]) (bZ [af 42 3 5,aj 43 42,I.call (some 44) RM [.t 43,.k (.fn HQ [] [])],aa 45 44,bk true 50 45 [af 46 3 4,aj 47 46,I.call (some 48) qM [cW 1,.t 47],bM 49 .neq 48] 49] 50 (aA [bS 4]) (br (ah [af 51 3 4,aj 52 51,cA 53 52,bz 54] (.cr 0 (.loop [2,3,53,54] Fa))) (aA [af 63 3 7,aj 64 63,dj 65 64,aa 66 65,bk true 71 66 [af 67 3 4,aj 68 67,cA 69 68,bM 70 .eql 69] 70,aa 72 71,bk false 77 72 [aM 73 2 4,aM 74 3 9,cU 75 L2 73 74,dj 76 75] 76,aa 4 77]))))) [.t 4] false none
def Sw:F:=.mk (ah [bS 2] (aA [aa 3 0,bM 4 .geq 3,aa 5 4,bk false 8 5 [aa 6 0,bu 7 .lss 6 16] 7,aa 2 8])) [.t 2] false none
def Sx:F:=.mk (ah [bS 2] (aA [aa 3 0,bM 4 .geq 3,aa 5 4,bk false 8 5 [aa 6 0,bu 7 .leq 6 9] 7,aa 2 8])) [.t 2] false none
def Sy:F:=.mk (ah [I.mv 0 (.k .uE)] (aA [I.mF 1,I.fI (.t 1) (cW 64) (.k (.fn Ba [] [])) [.i],I.fI (.t 1) (cW 65) (.k (.fn sP [] [])) [.i],I.fI (.t 1) (cW 66) (.k (.fn CP [] [])) [.i],aa 2 1,aa 0 2])) [.t 0] true none
def MS:F:=.mk (ah [bS 2] (aA [aa 3 0,I.bin 4 .geq (.t 3) (.k (.i .i64 (-1099511627776))),aa 5 4,bk false 8 5 [aa 6 0,bu 7 .leq 6 1099511627776] 7,aa 2 8])) [.t 2] false none
def Fb:F:=.mk (ah [iS 2 0 4,iS 3 1 9,I.mv 4 (.k .nil)] (fy [0,1,3,4,2,6,5,7,8,9] [af 5 3 5,aj 6 5,af 8 3 4,aj 9 8,lJ 7 tN 6,.re (.fa 8 (.t 3) 4 1),.re (.ld 9 (.t 8) 1 false),af 11 3 5,lJ 10 sO 9,.re (.fa 11 (.t 3) 5 1),aQ 11 7 1,af 12 3 4,aQ 12 10 1] (aA [af 13 2 2,aj 14 13,aM 15 3 9,I.build 16 [.i .i64 0,.i .i64 0,.i .i64 0,.i .i64 0,.sl 1 true [],.sl 5 true [],.sl 1 true [],.sl 2 true [],.b false,.i .i64 0,.sl 5 true []] [(0,1,.t 14),(1,9,.t 15)],iS 17 16 11,aa 4 17]))) [.t 4] true none
def MT:C :=ah [bJ 50 .lss 49 48] (br (cX 50 .skip (br (.keep [0,1,9,10,11]) (.exit 2))) (br (.cr 3 (ah [dI 51 47 49 1,aj 52 51,aa 8 52] (ah [aa 53 8,eH 54 L3 53,dj 55 54] (dA 55 (ah [bS 4] (br (.keep [4]) .ret)))))) (.cB [bu 56 .add 49 1,aa 49 56])))
def MU:C :=ah [bJ 12 .lss 11 10] (br (cX 12 .skip (br (.keep []) (.exit 0))) (br (.cr 1 (ah [aa 13 11,dI 14 9 11 2,aM 15 14 2,cm 6 [.i .i64 0,.sl 1 true []],aa 5 13,eD 6 15 2] (br (fy [0,1,2,3,4,5,6,7,8,9,10,11,12,13,14,15,16,17,18,19,20,21,22,23,24,25,26,27,28,29] [fJ 16 6 0,fE 17 16,bM 18 .lss 17,aa 19 18,bk true 23 19 [fJ 20 6 0,fE 21 20,bu 22 .geq 21 16] 22,aa 24 23,bk true 38 24 [aa 25 5,bM 26 .gtr 25,aa 27 26,bk false 37 27 [aa 28 1,aa 29 5,bu 30 .sub 29 1,dI 31 28 30 2,af 32 31 0,aj 33 32,fJ 34 6 0,fE 35 34,bJ 36 .geq 33 35] 36] 37,aa 39 38,bk true 45 39 [fJ 40 6 1,fE 41 40,cA 42 41,aa 43 0,bJ 44 .gtr 42 43] 44] (dA 45 (ah [bS 4] (br (.keep [4]) .ret)))) (ah [af 46 6 1,aj 47 46,cA 48 47,bz 49] (.cr 2 (.loop [0,1,9,10,11,47,48,49] MT)))))) (.cB [bu 57 .add 11 1,aa 11 57])))
def Sz:F:=.mk (ah [bS 4] (br (ah [aa 9 1,cA 10 9,bz 11] (.cr 0 (.loop [0,1,9,10,11] MU))) (aA [ia 4]))) [.t 4] false none
def MW:C :=ah [bJ 18 .lss 17 16] (br (cX 18 .skip (br (.keep []) (.exit 0))) (br (.cr 1 (ah [aa 19 17,dI 20 15 17 5,aM 21 20 5,cm 6 zQ,aa 5 19,eD 6 21 5] (br (ah [af 23 3 4,aj 24 23,af 25 6 0,aj 26 25,cU 27 jd 24 26,aa 22 27,cg 28 22 0,cg 29 22 1,aa 7 28,aa 8 29] (ah [aa 30 7,aa 31 5,bJ 32 .neq 30 31,aa 33 32,bk true 37 33 [af 34 6 4,aj 35 34,I.bin 36 .neq (.t 35) (.k (.i .i64 (-1)))] 36] (dA 37 (ah [bS 4] (br (.keep [4]) .ret))))) (ah [af 38 6 1,aj 39 38] (.cr 2 (ah [bu 41 .eql 39 70,aa 40 41] (cX 40 (ah [aM 42 3 9,af 43 6 0,aj 44 43,cU 45 zx 42 44,aa 9 45] (ah [aa 46 9,bM 47 .lss 46,aa 48 47,bk true 57 48 [af 49 3 6,aj 50 49,aa 51 9,dI 52 50 51 2,af 53 52 1,aj 54 53,cA 55 54,bM 56 .gtr 55] 56,aa 58 57,bk true 62 58 [af 59 6 2,aj 60 59,bM 61 .neq 60] 61] (dA 62 (ah [bS 4] (br (.keep [4]) .ret))))) (ah [bu 64 .eql 39 68,aa 63 64] (cX 63 (ah [aa 65 0,aM 66 3 9,cU 67 A9 65 66,dj 68 67] (dA 68 (ah [bS 4] (br (.keep [4]) .ret)))) (ah [bS 4] (br (.keep [4]) .ret))))))))))) (.cB [bu 69 .add 17 1,aa 17 69])))
def MX:F:=.mk (ah [bp 3 1 9,bS 4] (bZ [af 10 3 4,aj 11 10,I.call (some 12) qM [cW 1,.t 11],bM 13 .neq 12] 13 (aA [bS 4]) (br (ah [af 14 3 4,aj 15 14,cA 16 15,bz 17] (.cr 0 (.loop [0,3,15,16,17] MW))) (aA [ia 4])))) [.t 4] false none
def v9:F:=.mk (ah [bp 2 0 9,bp 3 1 5,bz 4] (bZ [af 8 3 0,aj 9 8,bM 10 .lss 9,aa 11 10,bk true 15 11 [af 12 3 0,aj 13 12,bu 14 .geq 13 16] 14,aa 16 15,bk true 20 16 [af 17 3 3,aj 18 17,bM 19 .lss 18] 19,aa 21 20,bk true 25 21 [af 22 3 3,aj 23 22,bu 24 .gtr 23 9] 24,aa 26 25,bk true 30 26 [af 27 3 4,aj 28 27,bM 29 .lss 28] 29,aa 31 30,bk true 35 31 [af 32 3 4,aj 33 32,bu 34 .gtr 33 1099511627776] 34] 35 (aA [cF 4 2]) (br (ah [af 36 3 1,aj 37 36] (.cr 0 (oX [bu 39 .eql 37 68,aa 38 39] 38 .skip (ah [bu 40 .eql 37 69,aa 38 40] (cX 38 .skip (ah [bu 41 .eql 37 70,aa 38 41] (cX 38 .skip (.cB [bu 42 .eql 37 71,aa 38 42]))))) (cX 38 .skip (aA [cF 4 8]))))) (bZ [af 43 3 1,aj 44 43,bu 45 .eql 44 68,aa 46 45,bk false 51 46 [af 47 3 2,aj 48 47,eH 49 L3 48,dj 50 49] 50] 51 (aA [cF 4 2]) (br (ah [af 53 2 4,aj 54 53,af 55 3 0,aj 56 55,cU 57 jd 54 56,aa 52 57,cg 58 52 0,cg 59 52 1,aa 5 58,aa 6 59] (ah [aa 60 6] (dA 60 (aA [cF 4 17])))) (ah [aM 61 2 9,af 62 3 0,aj 63 62,cU 64 zx 61 63,bM 65 .geq 64,aa 7 65] (bZ [af 66 3 1,aj 67 66,bu 68 .eql 67 69,aa 69 68,bk false 71 69 [aa 70 7] 70] 71 (aA [cF 4 6]) (bZ [af 72 3 1,aj 73 72,bu 74 .eql 73 71,aa 75 74,bk true 79 75 [af 76 3 1,aj 77 76,bu 78 .eql 77 70] 78,aa 80 79,bk false 83 80 [aa 81 7,dj 82 81] 82] 83 (aA [cF 4 20]) (aA [bz 4]))))))))) [.t 4] false none
def SA:F:=.mk (ah [iS 2 0 4,iS 3 1 9,I.mv 4 (.k .nil)] (ah [af 5 3 6,aj 6 5,lJ 7 HR 6,af 8 3 6,aQ 8 7 1] (ah [af 9 3 4,aj 10 9,lJ 11 sO 10,af 12 3 4,aQ 12 11 1] (aA [af 13 2 2,aj 14 13,aM 15 3 9,I.build 16 [.i .i64 0,.i .i64 0,.i .i64 0,.i .i64 0,.sl 1 true [],.sl 5 true [],.sl 1 true [],.sl 2 true [],.b false,.i .i64 0,.sl 5 true []] [(0,1,.t 14),(1,9,.t 15)],iS 17 16 11,aa 4 17])))) [.t 4] true none
def SB:F:=.mk (ah [cm 2 ct] (ah [aj 3 0,af 4 1 0,aj 5 4,oq 6 Rx 3 5] (aA [I.build 7 ct [(11,1,fR)],aQ 2 7 13]))) [.c 2 13 true] false none
def Fc:C :=oX [aa 5 4,aa 6 0,cL 7 6,I.fa 8 (.t 7) 1 9,af 9 8 6,aj 10 9,cA 11 10,bJ 12 .lss 5 11,aa 13 12,bk false 25 13 [aa 14 0,cL 15 14,I.fa 16 (.t 15) 1 9,af 17 16 6,aj 18 17,aa 19 4,dI 20 18 19 2,af 21 20 0,aj 22 21,aa 23 1,bJ 24 .lss 22 23] 24] 25 .skip (br (.keep [0,1,4]) (.exit 0)) (.cr 1 (.cB [aa 26 4,bu 27 .add 26 1,aa 4 27]))
def MY:F:=.mk (ah [bz 4] (br (.cr 0 (.loop [0,1,4] Fc)) (.cB [aa 28 0,aa 29 0,cL 30 29,I.fa 31 (.t 30) 1 9,af 32 31 6,aj 33 32,aa 34 4,aa 35 1,I.build 36 [.i .i64 0,.sl 1 true []] [(0,1,.t 35)],jf 37 2 1 [.i .i64 0,.sl 1 true []] 36,zB 38 RO 33 34 37,cL 39 28,I.fa 40 (.t 39) 1 9,af 41 40 6,aQ 41 38 1]))) [] true none
def MZ:F:=.mk (ah [cm 2 ct] (fy [0,1,2,3,4,5,6,7] [aj 4 0,cL 5 4,I.fa 6 (.t 5) 1 9,aM 7 6 9,af 8 1 0,aj 9 8,I.calls (some 10) zx [.t 7,.t 9],aa 3 10] (fy [0,1,2,3,4,5,6,7,8,9,10,11,12,13] [aj 11 0,aj 12 0,cL 13 12,I.fa 14 (.t 13) 1 9,af 15 14 6,aj 16 15,aa 17 3,aa 18 3,bu 19 .add 18 1,zB 20 HL 16 17 19,.re (.ld 11 (.t 0) 1 false),cL 21 11,I.fa 22 (.t 21) 1 9,af 23 22 6,aQ 23 20 1] (ah [aj 24 0,qg 25 EI 24] (aA [I.build 26 ct [(11,1,fR)],aQ 2 26 13]))))) [.c 2 13 true] false none
def SC:F:=.mk (ah [bp 2 0 9,bp 3 1 1,bz 4] (aA [af 5 2 6,aj 6 5,I.gJ 7 L4 [] [.t 3],cU 8 Lv 6 7,aa 4 8])) [.t 4] false none
def Fe:F:=.mk (ah [I.mv 6 (.k (.sl 2 true []))] (ah [aa 8 0,aa 9 1,aa 10 2,aa 11 0,cA 12 11,I.rN 13 (.t 8) (.t 9) (.t 10) (.t 12) 2] (bZ [aa 14 1,aa 15 2,bJ 16 .eql 14 15] 16 (aA [aa 17 0,aa 6 17]) (ah [aa 18 0,cA 19 18,aa 7 19] (fy [0,1,2,3,4,5,6,7] [aa 20 0,aa 21 1,ou 22 20 21 2,aa 23 0,aa 24 2,gR 25 23 24 2,je 26 22 25 2,aa 0 26] (ah [aa 27 0,aa 28 0,cA 29 28,aa 30 7,I.sl 31 (.t 27) (some (.t 29)) (some (.t 30)) 2,I.qI none (.t 31) 2 [.i .i64 0,.sl 1 true []]] (aA [aa 32 0,aa 6 32]))))))) [.t 6] true none
def Il:C :=.cB [cm 2 zQ,eD 2 5 5]
def Im:C :=.cr 1 (ah [aj 6 1,aM 7 2 5,I.jo (some 8) HS [.t 6,.t 7,k0]] (.cB [aj 9 1,af 10 2 2,aj 11 10,oq 12 LJ 9 11]))
def yj:F:=.mk (br (br (.xT 0 5) (.cB [bp 1 0 1])) (ah [aj 3 1,qg 4 RP 3] (.cr 0 (.sK (.t 4) [1] [5] Il Im)))) [] true none
def uU:F:=.mk (ah [cm 2 ct] (ah [aj 4 0,cL 5 4,I.fa 6 (.t 5) 1 9,af 7 6 4,aj 8 7,I.calls (some 9) qL [.t 8,.k (.fn HM [] [])],aa 3 9] (br (fy [0,1,2,3,4,5,6,7,8,9,10,11] [aa 10 3,aa 11 10,bk true 21 11 [aj 12 0,cL 13 12,af 14 13 0,aj 15 14,aj 16 0,cL 17 16,I.fa 18 (.t 17) 1 9,aM 19 18 9,I.calls (some 20) A9 [.t 15,.t 19]] 20] (dA 21 (ah [aj 22 0,aM 23 1 5,af 24 1 2,aj 25 24,zB 26 LI 22 23 25] (aA [I.build 27 ct [(9,1,fR)],aQ 2 27 13])))) (ah [aj 28 0,af 29 1 2,aj 30 29,oq 31 LJ 28 30] (aA [I.build 32 ct [(11,1,fR)],aQ 2 32 13]))))) [.c 2 13 true] false none
def SD:F:=.mk (ah [bp 1 0 5,bS 2] (aA [af 3 1 1,aj 4 3,bu 5 .eql 4 68,aa 2 5])) [.t 2] false none
def SE:F:=.mk (ah [bp 2 0 1,bp 3 1 9,bS 4] (aA [af 5 3 6,aj 6 5,I.gJ 7 L6 [] [.t 2,.t 3],cU 8 L5 6 7,aa 4 8])) [.t 4] false none
def M0:F:=.mk (ah [bp 4 1 5] (.mG [] [0,1,2,3,4,5,6,7,8,9,10,11,12,13,14,15,16,17,18,19] [aa 6 0,aa 7 0,cL 8 7,I.fa 9 (.t 8) 1 9,af 10 9 4,aj 11 10,fJ 12 4 0,fE 13 12,fJ 14 4 1,fE 15 14,aa 16 2,fJ 17 4 3,fE 18 17,I.build 19 zQ [(0,1,.t 13),(1,1,.t 15),(2,1,.t 16),(3,1,.t 18),(4,1,.k (.i .i64 (-1)))],jf 20 5 1 zQ 19,I.sJ 21 (.t 11) (.t 20) 5,cL 22 6,I.fa 23 (.t 22) 1 9,af 24 23 4,aQ 24 21 1])) [] true none
def Bh:C :=ah [bJ 16 .lss 15 14] (br (cX 16 .skip (br (.keep [0,1]) (.exit 0))) (br (.cr 1 (ah [aa 17 15,aa 4 17] (ah [aa 18 0,cL 19 18,I.fa 20 (.t 19) 1 9,af 21 20 6,aj 22 21,aa 23 4,dI 24 22 23 2,aa 5 24] (fy [0,1,2,3,4,5,6,7,8,9] [aa 25 0,cL 26 25,I.fa 27 (.t 26) 1 9,aM 28 27 9,aa 29 5,cL 30 29,af 31 30 0,aj 32 31,I.calls (some 33) HT [.t 28,.t 32,cW 70],dj 34 33] (dA 34 (.cB [aa 35 5,aa 36 5,cL 37 36,af 38 37 1,aj 39 38,lJ 40 tN 39,aa 41 1,jf 42 1 1 [.i .i64 0] 41,I.sJ 43 (.t 40) (.t 42) 1,cL 44 35,af 45 44 1,aQ 45 43 1])))))) (.cB [bu 46 .add 15 1,aa 15 46])))
def Bi:C :=ah [bJ 54 .lss 53 52] (br (cX 54 .skip (br (.keep [0,6]) (.exit 2))) (br (.cr 3 (ah [dI 55 51 53 5,aM 56 55 5,cm 8 zQ,eD 8 56 5] (ah [af 57 8 1,aj 58 57,bu 59 .eql 58 70] (cX 59 (.cB [aa 60 0,aM 61 8 5,aa 62 1,zB 63 HS 60 61 62]) (.cB [aa 64 6,aM 65 8 5,jf 66 5 1 zQ 65,je 67 64 66 5,aa 6 67]))))) (.cB [bu 68 .add 53 1,aa 53 68])))
def Bj:F:=.mk (br (br (br (.xT 0 5) (.cB [aa 9 0,cL 10 9,I.fa 11 (.t 10) 1 9,af 12 11 6,aj 13 12,cA 14 13,bz 15])) (.cr 0 (.loop [0,1,14,15] Bh))) (ah [I.mv 6 (.k (.sl 5 true []))] (br (ah [aa 47 0,cL 48 47,I.fa 49 (.t 48) 1 9,af 50 49 4,aj 51 50,cA 52 51,bz 53] (.cr 2 (.loop [0,1,6,51,52,53] Bi))) (br (.qJ [6]) (.cB [aa 69 0,aa 70 6,cL 71 69,I.fa 72 (.t 71) 1 9,af 73 72 4,aQ 73 70 1]))))) [] true none
def Io:F:=.mk (ah [cm 2 ct] (aA [aj 3 0,aM 4 1 5,oq 5 LM 3 4,aQ 2 5 13])) [.c 2 13 true] false none
def Ff:F:=.mk (ah [bp 3 1 5,cm 4 ct] (fy [0,1,2,3,4,5,6,7,8,9,10,11,12,13] [aa 9 0,cL 10 9,I.fa 11 (.t 10) 1 9,af 12 11 6,aj 13 12,aa 14 0,cL 15 14,I.fa 16 (.t 15) 1 9,aM 17 16 9,fJ 18 3 0,fE 19 18,I.calls (some 20) zx [.t 17,.t 19],dI 21 13 20 2,aa 5 21] (bZ [aa 22 5,cL 23 22,af 24 23 1,aj 25 24,cA 26 25,bM 27 .gtr 26] 27 (ah [aa 28 5,cL 29 28,af 30 29 1,aj 31 30,I.jm 32 (.t 31) k0 1,aj 33 32,aa 6 33] (ah [aa 34 5,aa 35 5,cL 36 35,af 37 36 1,aj 38 37,I.sl 39 (.t 38) (some (cW 1)) none 1,eH 40 RH 39,cL 41 34,af 42 41 1,aQ 42 40 1] (ah [aa 43 0,qg 44 EI 43] (aA [aa 45 6,I.build 46 ct [(10,1,.t 45),(11,1,fR)],aQ 4 46 13])))) (ah [aa 47 0,aM 48 3 5,I.jo (some 49) LI [.t 47,.t 48,k0]] (ah [aa 50 0,qg 51 EI 50] (ah [aa 52 0,cL 53 52,af 54 53 10,aj 55 54,I.gJ 56 HU [] [.t 3],I.calls (some 57) L7 [.t 55,.t 56],aa 7 57] (bZ [aa 58 7,bM 59 .lss 58] 59 (aA [I.build 60 ct [(9,1,fR)],aQ 4 60 13]) (ah [aa 61 0,cL 62 61,af 63 62 10,aj 64 63,aa 65 7,dI 66 64 65 5,af 67 66 2,aj 68 67,aa 8 68] (ah [aa 69 0,aa 70 0,cL 71 70,af 72 71 10,aj 73 72,aa 74 7,aa 75 7,bu 76 .add 75 1,I.nH 77 RQ [.t 73,.t 74,.t 76],cL 78 69,af 79 78 10,aQ 79 77 1] (aA [aa 80 8,I.build 81 ct [(10,1,.t 80),(11,1,fR)],aQ 4 81 13])))))))))) [.c 4 13 true] true none
def Bk:F:=.mk (ah [bp 3 0 4,bp 4 1 9,bp 5 2 5,bz 6] (br (ah [aM 8 3 4,aM 9 4 9,cU 10 ng 8 9,aa 7 10] (ah [aa 11 7,bM 12 .neq 11] (dA 12 (aA [aa 13 7,aa 6 13])))) (bZ [af 14 5 1,aj 15 14,bu 16 .neq 15 72,aa 17 16,bk false 21 17 [af 18 5 1,aj 19 18,bu 20 .neq 19 75] 20] 21 (aA [cF 6 8]) (bZ [af 22 5 4,aj 23 22,af 24 4 2,aj 25 24,bJ 26 .lss 23 25,aa 27 26,bk true 31 27 [af 28 5 4,aj 29 28,bu 30 .gtr 29 1099511627776] 30] 31 (aA [cF 6 2]) (bZ [af 32 5 1,aj 33 32,bu 34 .eql 33 75] 34 (aA [bz 6]) (bZ [af 35 5 0,aj 36 35,bM 37 .lss 36,aa 38 37,bk true 42 38 [af 39 5 0,aj 40 39,bu 41 .geq 40 16] 41,aa 43 42,bk true 47 43 [af 44 5 3,aj 45 44,bM 46 .lss 45] 46,aa 48 47,bk true 52 48 [af 49 5 3,aj 50 49,bu 51 .gtr 50 9] 51,aa 53 52,bk true 57 53 [af 54 5 2,aj 55 54,bu 56 .lss 55 1] 56,aa 58 57,bk true 64 58 [af 59 5 2,aj 60 59,af 61 3 2,aj 62 61,bJ 63 .gtr 60 62] 63] 64 (aA [cF 6 2]) (bZ [aM 65 4 9,af 66 5 0,aj 67 66,cU 68 HN 65 67] 68 (aA [cF 6 17]) (aA [bz 6])))))))) [.t 6] false none
def M1:F:=.mk (ah [bp 2 0 13,cm 4 zR] (ah [I.fa 7 (.t 2) 4 9,aM 8 7 9,cm 5 zR,aQ 5 8 9] (ah [aa 9 1,af 10 5 2,aj 11 10,bJ 12 .sub 9 11,I.fa 13 (.t 2) 0 4,af 14 13 3,aj 15 14,bJ 16 .quo 12 15,aa 6 16] (bZ [af 17 5 1,aj 18 17,aa 19 6,bJ 20 .add 18 19,I.fa 21 (.t 2) 0 4,af 22 21 2,aj 23 22,bJ 24 .geq 20 23] 24 (ah [I.fa 25 (.t 2) 0 4,af 26 25 2,aj 27 26,aa 28 1,af 29 5 1,aQ 29 27 1,af 30 5 2,aQ 30 28 1] (aA [aM 31 5 9,aQ 4 31 9])) (ah [af 32 5 1,aj 33 32,aa 34 6,bJ 35 .add 33 34,af 36 5 1,aQ 36 35 1] (ah [af 37 5 2,aj 38 37,aa 39 6,I.fa 40 (.t 2) 0 4,af 41 40 3,aj 42 41,bJ 43 .mul 39 42,bJ 44 .add 38 43,af 45 5 2,aQ 45 44 1] (aA [aM 46 5 9,aQ 4 46 9]))))))) [.c 4 9 true] false none
def SF:F:=.mk (ah [iS 1 0 9,I.mv 2 (.k .cN)] (aA [I.gJ 3 L8 [] [.t 1],aa 2 3])) [.t 2] true none
def M3:F:=.mk (ah [bp 2 0 9,bS 4] (ah [af 8 2 4,aj 9 8,aa 10 1,cU 11 jd 9 10,aa 7 11,cg 12 7 0,cg 13 7 1,aa 5 12,aa 6 13] (aA [aa 14 6,aa 4 14]))) [.t 4] false none
def zH:F:=.mk (ah [bp 1 0 9,bS 2] (bZ [aM 3 1 9,eH 4 L9 3,dj 5 4,aa 6 5,bk true 12 6 [I.fa 7 (.t 1) 0 9,af 8 7 8,aj 9 8,eH 10 LP 9,dj 11 10] 11,aa 13 12,bk true 17 13 [aM 14 1 9,eH 15 Ma 14,dj 16 15] 16] 17 (aA [bS 2]) (bZ [I.fa 18 (.t 1) 0 9,af 19 18 7,aj 20 19] 20 (aA [I.fa 21 (.t 1) 0 9,af 22 21 4,aj 23 22,cA 24 23,bM 25 .eql 24,aa 2 25]) (aA [I.fa 26 (.t 1) 0 9,af 27 26 8,aj 28 27,bM 29 .eql 28,aa 2 29])))) [.t 2] false none
def SG:F:=.mk (ah [bS 2] (aA [aa 3 0,I.bin 4 .geq (.t 3) (.k (.i .i64 (-1099511627776))),aa 5 4,bk false 8 5 [aa 6 0,bu 7 .leq 6 1099511627776] 7,aa 2 8])) [.t 2] false none
def M4:F:=.mk (ah [bp 2 0 9,bS 4] (ah [I.fa 8 (.t 2) 0 9,af 9 8 4,aj 10 9,aa 11 1,cU 12 jd 10 11,aa 7 12,cg 13 7 0,cg 14 7 1,aa 5 13,aa 6 14] (aA [aa 15 6,aa 4 15]))) [.t 4] false none
def M5:C :=ah [bJ 13 .lss 12 11] (br (cX 13 .skip (br (.keep [1,2,4,5]) (.exit 0))) (br (.cr 1 (ah [dI 14 10 12 5,aM 15 14 5,cm 7 zQ,eD 7 15 5] (.cB [aa 16 5,af 17 7 0,aj 18 17,af 19 7 1,aj 20 19,aa 21 1,I.build 22 lI [(0,1,.t 18),(1,1,.t 20),(2,1,.t 21),(3,1,fR),(4,1,.k (.i .i64 (-1)))],jf 23 5 1 lI 22,je 24 16 23 5,aa 5 24]))) (.cB [bu 25 .add 12 1,aa 12 25])))
def M6:F:=.mk (ah [iS 2 0 9,cm 4 ct] (ah [I.mv 5 (.k (.sl 5 true []))] (br (ah [I.fa 8 (.t 2) 0 9,af 9 8 4,aj 10 9,cA 11 10,bz 12] (.cr 0 (.loop [1,2,4,5,10,11,12] M5))) (ah [aa 26 1,I.fa 27 (.t 2) 0 9,af 28 27 7,I.st (.t 28) fR 1 false,I.fa 29 (.t 2) 0 9,af 30 29 8,aQ 30 26 1,I.fa 31 (.t 2) 0 9,af 32 31 4,I.st (.t 32) (.k (.sl 5 true [])) 1 false] (aA [I.fa 33 (.t 2) 0 9,aM 34 33 9,aa 35 5,I.build 36 ct [(0,9,.t 34),(11,1,fR),(12,1,.t 35)],aQ 4 36 13]))))) [.c 4 13 true] false none
def Ip:F:=.mk (ah [iS 2 0 9,bp 3 1 5,cm 4 ct] (bZ [I.fa 5 (.t 2) 0 9,af 6 5 7,aj 7 6] 7 (aA [I.fa 8 (.t 2) 0 9,aM 9 8 9,I.fa 10 (.t 2) 0 9,af 11 10 8,aj 12 11,I.build 13 ct [(0,9,.t 9),(10,1,.t 12),(11,1,fR)],aQ 4 13 13]) (fy [0,1,2,4,5,6,7,8,9,3,10,11,12,13] [I.fa 14 (.t 2) 0 9,af 15 14 4,aj 16 15,fJ 18 3 0,fE 19 18,fJ 20 3 3,fE 21 20,I.build 22 zQ [(0,1,.t 19),(1,1,cW 74),(3,1,.t 21),(4,1,.k (.i .i64 (-1)))],jf 23 5 1 zQ 22,lJ 17 sO 16,je 24 17 23 5,I.fa 25 (.t 2) 0 9,af 26 25 4,aQ 26 24 1] (aA [I.fa 27 (.t 2) 0 9,aM 28 27 9,I.build 29 ct [(0,9,.t 28),(9,1,fR)],aQ 4 29 13])))) [.c 4 13 true] false none
def SH:F:=.mk (ah [bp 2 0 5,bS 3] (aA [af 4 2 0,aj 5 4,af 6 1 0,aj 7 6,bJ 8 .eql 5 7,aa 3 8])) [.t 3] false none
def Fg:F:=.mk (ah [iS 2 0 9,bp 3 1 5,cm 4 ct,bz 5] (br (ah [af 9 2 0,aj 10 9] (.cr 0 (ah [I.bin 12 .eql (.t 10) (.k (.i .i64 (-1))),aa 11 12] (cX 11 (ah [af 13 3 0,aj 14 13,af 15 2 0,aQ 15 14 1] (aA [aM 16 2 9,I.build 17 ct [(0,9,.t 16),(11,1,fR)],aQ 4 17 13,bz 5])) (ah [af 19 3 0,aj 20 19,bJ 21 .eql 10 20,aa 18 21] (dA 18 (aA [dS 22 ct,aQ 4 22 13,cF 5 17]))))))) (ah [af 24 2 4,aj 25 24,af 26 3 3,aj 27 26,I.call (some 28) RS [.t 25,.t 27,.k (.fn EK [] [])],aa 23 28,cg 29 23 0,cg 30 23 1,aa 6 29,aa 7 30] (ah [af 31 3 0,aj 32 31,af 33 3 3,aj 34 33,I.build 35 zQ [(0,1,.t 32),(1,1,cW 50),(3,1,.t 34),(4,1,.k (.i .i64 (-1)))],cm 8 zQ,eD 8 35 5] (fy [0,1,3,4,5,2,6,7,8] [af 36 2 4,aj 37 36,aa 39 6,iD 40 8 5,jf 41 5 1 zQ 40,lJ 38 sO 37,zB 42 Yj 38 39 41,af 43 2 4,aQ 43 42 1] (aA [aM 44 2 9,I.build 45 ct [(0,9,.t 44),(9,1,fR)],aQ 4 45 13,bz 5])))))) [.c 4 13 true,.t 5] false none
def M7:F:=.mk (ah [bp 2 0 9,bp 3 1 5,cm 4 ct,bz 5] (bZ [af 6 2 0,aj 7 6,bM 8 .geq 7] 8 (aA [aM 9 2 9,I.build 10 ct [(0,9,.t 9)],aQ 4 10 13,bz 5]) (aA [aM 11 2 9,aM 12 3 5,cU 13 HP 11 12,cg 14 13 0,cg 15 13 1,aQ 4 14 13,aa 5 15]))) [.c 4 13 true,.t 5] false none
def Iq:F:=.mk (ah [iS 2 0 9,bp 3 1 5,cm 4 ct,bz 5] (bZ [af 6 2 0,aj 7 6,af 8 3 0,aj 9 8,bJ 10 .neq 7 9] 10 (aA [dS 11 ct,aQ 4 11 13,cF 5 20]) (bZ [af 12 2 4,aj 13 12,cA 14 13,bM 15 .eql 14] 15 (ah [af 16 2 0,I.st (.t 16) (.k (.i .i64 (-1))) 1 false] (aA [aM 17 2 9,I.build 18 ct [(0,9,.t 17),(11,1,fR)],aQ 4 18 13,bz 5])) (ah [af 19 2 4,aj 20 19,I.jm 21 (.t 20) k0 5,af 22 21 0,aj 23 22,af 24 2 0,aQ 24 23 1] (ah [af 25 2 4,aj 26 25,I.sl 27 (.t 26) (some (cW 1)) none 5,lJ 28 sO 27,af 29 2 4,aQ 29 28 1] (aA [aM 30 2 9,af 31 2 0,aj 32 31,I.build 33 lI [(0,1,.t 32),(1,1,cW 50),(3,1,fR),(4,1,.k (.i .i64 (-1)))],jf 34 5 1 lI 33,I.build 35 ct [(0,9,.t 30),(11,1,fR),(12,1,.t 34)],aQ 4 35 13,bz 5])))))) [.c 4 13 true,.t 5] false none
def SI:F:=.mk (ah [bp 2 0 5,bS 3] (aA [af 4 2 0,aj 5 4,aj 6 1,bJ 7 .eql 5 6,aa 3 7])) [.t 3] false none
def C1:C :=ah [bJ 11 .lss 10 9] (br (cX 11 .skip (br (.keep [5]) (.exit 0))) (br (.cr 1 (ah [dI 12 8 10 5,aM 13 12 5,cm 7 zQ,eD 7 13 5] (ah [aa 14 1,aM 15 7 5,uQ 16 14 15] (dA 16 (.cB [aa 17 5,aM 18 7 5,jf 19 5 1 zQ 18,je 20 17 19 5,aa 5 20]))))) (.cB [bu 21 .add 10 1,aa 10 21])))
def Ir:F:=.mk (ah [I.mv 4 (.k (.sl 5 true []))] (ah [I.mv 5 (.k (.sl 5 true []))] (br (ah [aa 8 0,cA 9 8,bz 10] (.cr 0 (.loop [1,5,8,9,10] C1))) (aA [aa 22 5,aa 4 22])))) [.t 4] false none
def M8:C :=ah [bJ 11 .lss 10 9] (br (cX 11 .skip (br (.keep [5]) (.exit 0))) (br (.cr 1 (ah [dI 12 8 10 5,aM 13 12 5,cm 7 zQ,eD 7 13 5] (ah [aa 14 1,aM 15 7 5,uQ 16 14 15] (dA 16 (.cB [aa 17 5,aM 18 7 5,jf 19 5 1 zQ 18,je 20 17 19 5,aa 5 20]))))) (.cB [bu 21 .add 10 1,aa 10 21])))
def M9:F:=.mk (ah [I.mv 4 (.k (.sl 5 true []))] (ah [I.mv 5 (.k (.sl 5 true []))] (br (ah [aa 8 0,cA 9 8,bz 10] (.cr 0 (.loop [1,5,8,9,10] M8))) (aA [aa 22 5,aa 4 22])))) [.t 4] true none
def Fh:C :=ah [bJ 11 .lss 10 9] (br (cX 11 .skip (br (.keep [5]) (.exit 0))) (br (.cr 1 (ah [dI 12 8 10 5,aM 13 12 5,cm 7 zQ,eD 7 13 5] (ah [aa 14 1,aM 15 7 5,I.pZ (some 16) (.t 14) [.t 15]] (dA 16 (.cB [aa 17 5,aM 18 7 5,jf 19 5 1 zQ 18,je 20 17 19 5,aa 5 20]))))) (.cB [bu 21 .add 10 1,aa 10 21])))
def SJ:F:=.mk (ah [I.mv 4 (.k (.sl 5 true []))] (ah [I.mv 5 (.k (.sl 5 true []))] (br (ah [aa 8 0,cA 9 8,bz 10] (.cr 0 (.loop [1,5,8,9,10] Fh))) (aA [aa 22 5,aa 4 22])))) [.t 4] true none
def Is:F:=.mk (ah [bp 2 0 5,bS 3] (aA [af 4 2 0,aj 5 4,aj 6 1,bJ 7 .neq 5 6,aa 3 7])) [.t 3] false none
def Fi:C :=ah [bJ 16 .lss 15 14] (br (cX 16 .skip (br (.keep [1]) (.exit 0))) (br (.cr 1 (ah [aa 17 15,dI 18 13 15 5,aM 19 18 5,cm 4 zQ,aa 3 17,eD 4 19 5] (ah [af 21 1 4,aj 22 21,af 23 4 0,aj 24 23,cU 25 jd 22 24,aa 20 25,cg 26 20 0,cg 27 20 1,aa 5 26,aa 6 27] (ah [aa 28 5,aa 29 3,bJ 30 .neq 28 29,aa 31 30,bk true 40 31 [af 32 4 1,aj 33 32,bu 34 .neq 33 53,aa 35 34,bk false 39 35 [af 36 4 1,aj 37 36,bu 38 .neq 37 55] 38] 39,aa 41 40,bk true 45 41 [af 42 4 2,aj 43 42,bM 44 .neq 43] 44,aa 46 45,bk true 50 46 [af 47 4 4,aj 48 47,I.bin 49 .neq (.t 48) (.k (.i .i64 (-1)))] 49,aa 51 50,bk true 57 51 [aM 52 1 9,af 53 4 0,aj 54 53,cU 55 LB 52 54,bM 56 .neq 55] 56] (dA 57 (ah [bS 2] (br (.keep [2]) .ret))))))) (.cB [bu 58 .add 15 1,aa 15 58])))
def tQ:F:=.mk (ah [bp 1 0 9,bS 2] (bZ [af 8 1 4,aj 9 8,I.call (some 10) qM [cW 1,.t 9],bM 11 .neq 10] 11 (aA [bS 2]) (br (ah [af 12 1 4,aj 13 12,cA 14 13,bz 15] (.cr 0 (.loop [1,13,14,15] Fi))) (bZ [af 59 1 4,aj 60 59,cA 61 60,bM 62 .eql 61] 62 (aA [ia 2]) (ah [aM 63 1 9,lJ 64 HG 63,aa 7 64] (ah [aa 65 7,qg 66 tM 65] (aA [aa 67 7,cL 68 67,af 69 68 9,aj 70 69,cA 71 70,bM 72 .eql 71,aa 2 72]))))))) [.t 2] false none
def rU:F:=.mk (ah [I.mv 2 (.k (.sl 1 true []))] (bZ [aa 3 0,I.qH 4 false (.t 3) .sl] 4 (aA [I.mv 2 (.k (.sl 1 true []))]) (aA [I.mZ 5 1 0 [.i .i64 0] [] false,aa 6 0,je 7 5 6 1,aa 2 7]))) [.t 2] true none
def Na:F:=⟨rU.code,rU.res,false,none⟩
def SK:F:=.mk (ah [bS 4] (aA [aa 5 0,aa 6 1,cU 7 RU 5 6,bM 8 .geq 7,aa 4 8])) [.t 4] false none
def C2:F:=.mk (bZ [aa 8 2,bu 9 .eql 8 55] 9 (aA [aa 10 0,aa 11 1,cL 12 10,I.fa 13 (.t 12) 0 9,af 14 13 0,aQ 14 11 1]) (ah [aa 16 0,cL 17 16,I.fa 18 (.t 17) 0 9,af 19 18 3,aj 20 19,aa 21 1,oq 22 Mb 20 21,aa 15 22,cg 23 15 0,cg 24 15 1,aa 6 23,aa 7 24] (.cB [aa 25 0,aa 26 0,cL 27 26,I.fa 28 (.t 27) 0 9,af 29 28 3,aj 30 29,aa 31 6,aa 32 1,jf 33 1 1 [.i .i64 0] 32,zB 34 RX 30 31 33,cL 35 25,I.fa 36 (.t 35) 0 9,af 37 36 3,aQ 37 34 1]))) [] true none
def Nb:C :=ah [bJ 9 .lss 8 7] (br (cX 9 .skip (br (.keep []) (.exit 0))) (br (.cr 1 (ah [aa 10 8,aa 5 10] (ah [aa 11 1,aa 12 0,aa 13 5,dI 14 12 13 1,aj 15 14,uQ 16 11 15] (dA 16 (ah [aa 17 5,aa 4 17] (br (.keep [4]) .ret)))))) (.cB [bu 18 .add 8 1,aa 8 18])))
def SL:F:=.mk (ah [bz 4] (br (ah [aa 6 0,cA 7 6,bz 8] (.cr 0 (.loop [0,1,7,8] Nb))) (aA [I.mv 4 (.k (.i .i64 (-1)))]))) [.t 4] false none
def Nc:C :=ah [bJ 9 .lss 8 7] (br (cX 9 .skip (br (.keep []) (.exit 0))) (br (.cr 1 (ah [aa 10 8,aa 5 10] (ah [aa 11 1,aa 12 0,aa 13 5,dI 14 12 13 1,aj 15 14,uQ 16 11 15] (dA 16 (ah [aa 17 5,aa 4 17] (br (.keep [4]) .ret)))))) (.cB [bu 18 .add 8 1,aa 8 18])))
def SM:F:=.mk (ah [bz 4] (br (ah [aa 6 0,cA 7 6,bz 8] (.cr 0 (.loop [0,1,7,8] Nc))) (aA [I.mv 4 (.k (.i .i64 (-1)))]))) [.t 4] true none
def It:F:=.mk (ah [bp 1 0 5,bS 2] (br (.cr 0 (ah [af 4 1 0,aj 5 4,bM 6 .lss 5,aa 7 6,bk true 11 7 [af 8 1 0,aj 9 8,bu 10 .geq 9 16] 10,aa 12 11,bk true 16 12 [af 13 1 1,aj 14 13,bu 15 .lss 14 1] 15,aa 17 16,bk true 21 17 [af 18 1 1,aj 19 18,bu 20 .gtr 19 99] 20,aa 22 21,bk true 26 22 [af 23 1 2,aj 24 23,I.bin 25 .lss (.t 24) (.k (.i .i64 (-1099511627776)))] 25,aa 27 26,bk true 31 27 [af 28 1 2,aj 29 28,bu 30 .gtr 29 1099511627776] 30,aa 3 31] (dA 3 (aA [bS 2])))) (aA [af 32 1 3,aj 33 32,bM 34 .geq 33,aa 35 34,bk false 39 35 [af 36 1 3,aj 37 36,bu 38 .leq 37 9] 38,aa 40 39,bk false 44 40 [af 41 1 4,aj 42 41,I.bin 43 .geq (.t 42) (.k (.i .i64 (-1)))] 43,aa 45 44,bk false 49 45 [af 46 1 4,aj 47 46,bu 48 .lss 47 6] 48,aa 2 49]))) [.t 2] false none
def SN:F:=.mk (ah [bp 5 2 1,I.mv 6 (.k (.sl 5 true [])),I.mv 7 (.k (.sl 5 true [])),bz 8] (ah [aa 13 1,cm 9 [.i .i64 0],cm 10 [.b false],aQ 9 13 1,I.st (.t 10) HX 1 false] (ah [cm 11 [.sl 5 true []]] (ah [aa 14 0,I.gJ 15 Bc [] [.t 10,.t 9,.t 5,.t 11],oq 16 RG 14 15,aa 12 16] (fy [0,1,2,3,4,5] [aa 17 12,aj 18 11,aj 19 9,aa 6 17,aa 7 18,aa 8 19] .ret))))) [.t 6,.t 7,.t 8] false none
def SO:F:=.mk (ah [bp 2 0 9,bp 3 1 5,bS 4] (aA [af 5 3 1,aj 6 5,bu 7 .eql 6 63,aa 4 7])) [.t 4] false none
def SP:F:=.mk (ah [bp 2 0 9,bp 3 1 5,bS 4] (aA [af 5 3 0,aj 6 5,bM 7 .geq 6,aa 8 7,bk false 12 8 [af 9 3 0,aj 10 9,bu 11 .lss 10 16] 11,aa 4 12])) [.t 4] false none
def SQ:F:=.mk (ah [bp 2 0 9,bp 3 1 5,bS 4] (aA [af 5 3 3,aj 6 5,bM 7 .geq 6,aa 8 7,bk false 12 8 [af 9 3 3,aj 10 9,bu 11 .leq 10 9] 11,aa 4 12])) [.t 4] false none
def SR:F:=.mk (ah [bp 2 0 9,bp 3 1 5,bS 4] (aA [aM 5 2 9,af 6 3 0,aj 7 6,cU 8 HI 5 7,dj 9 8,aa 4 9])) [.t 4] false none
def Iu:C :=ah [bJ 8 .lss 7 6] (br (cX 8 .skip (br (.keep []) (.exit 0))) (br (.cr 1 (ah [aa 9 7,dI 10 5 7 5,aM 11 10 5,cm 4 zQ,aa 3 9,eD 4 11 5] (ah [aa 12 0,aa 13 3,aM 14 4 5,I.p6 (some 15) (.t 12) [.t 13,.t 14],dj 16 15] (dA 16 (br (.keep []) .ret))))) (.cB [bu 17 .add 7 1,aa 7 17])))
def Nd:F:=.mk (ah [aj 5 1,cA 6 5,bz 7] (.cr 0 (.loop [0,5,6,7] Iu))) [] false none
def Nf:F:=.mk (ah [bS 4] (aA [aa 5 0,aa 6 1,cU 7 RJ 5 6,bM 8 .geq 7,aa 4 8])) [.t 4] false none
def SS:F:=.mk (ah [bS 2] (aA [aa 3 0,eH 4 HJ 3,dj 5 4,aa 2 5])) [.t 2] false none
def Ng:F:=.mk (ah [bS 4] (ah [aa 6 0,aa 7 1,dI 8 6 7 5,aM 9 8 5,cm 5 zQ,eD 5 9 5] (bZ [af 10 5 1,aj 11 10,bu 12 .neq 11 64,aa 13 12,bk false 22 13 [af 14 5 1,aj 15 14,bu 16 .neq 15 65,aa 17 16,bk true 21 17 [af 18 5 2,aj 19 18,bM 20 .neq 19] 20] 21] 22 (aA [bS 4]) (aA [aa 23 0,aa 24 1,ou 25 23 24 5,I.gJ 26 Mc [] [.t 5],cU 27 qL 25 26,dj 28 27,aa 4 28])))) [.t 4] false none
def Nh:F:=.mk (ah [bp 2 0 4,bp 3 1 9,bS 4] (aA [af 5 3 4,aj 6 5,I.gJ 7 Md [] [.t 3,.t 2],cU 8 qL 6 7,aa 4 8])) [.t 4] false none
def zI:F:=.mk (ah [bp 3 1 5,cm 4 ct] (aA [aa 5 0,aM 6 3 5,oq 7 zy 5 6,aQ 4 7 13])) [.c 4 13 true] false none
def uV:F:=.mk (ah [bp 3 1 5,cm 4 ct] (br (ah [aa 8 0,I.jo (some 9) EL [.t 8,cW 65],aa 7 9,cg 10 7 0,cg 11 7 1,cm 5 zQ,eD 5 10 5,aa 6 11] (ah [aa 12 6] (dA 12 (ah [aa 13 0,aM 14 5 5,af 15 3 2,aj 16 15,I.jo (some 17) CQ [.t 13,.t 14,.t 16,fR]] (aA [aa 18 0,I.jo (some 19) uP [.t 18,k0,fR],aQ 4 19 13]))))) (br (fy [0,1,2,3,4,5,6,7,8,9,10] [aa 20 0,cL 21 20,I.fa 22 (.t 21) 1 9,af 23 22 5,aj 24 23,cA 25 24,aa 26 0,cL 27 26,af 28 27 0,aj 29 28,bJ 30 .lss 25 29] (dA 30 (ah [aa 31 0,af 32 3 2,aj 33 32,oq 34 CR 31 33] (aA [aa 35 0,I.jo (some 36) uP [.t 35,k0,fR],aQ 4 36 13])))) (aA [aa 37 0,aM 38 3 5,oq 39 yc 37 38,aQ 4 39 13])))) [.c 4 13 true] true none
def rV:F:=.mk (ah [bp 3 1 5,cm 4 ct] (aA [aa 5 0,aM 6 3 5,oq 7 p9 5 6,aQ 4 7 13])) [.c 4 13 true] false none
def oY:F:=.mk (ah [bp 3 1 5,cm 4 ct] (ah [aa 9 0,I.jo (some 10) EL [.t 9,cW 64],aa 8 10,cg 11 8 0,cg 12 8 1,cm 5 zQ,eD 5 11 5,aa 6 12] (br (.cr 0 (ah [aa 14 0,cL 15 14,I.fa 16 (.t 15) 1 9,af 17 16 5,aj 18 17,cA 19 18,bM 20 .gtr 19,aa 13 20] (cX 13 (ah [aa 21 0,cL 22 21,I.fa 23 (.t 22) 1 9,af 24 23 5,aj 25 24,I.jm 26 (.t 25) k0 1,aj 27 26,aa 7 27] (ah [aa 28 0,aa 29 0,cL 30 29,I.fa 31 (.t 30) 1 9,af 32 31 5,aj 33 32,I.sle 34 (.t 33) (some (cW 1)) none 1,cL 35 28,I.fa 36 (.t 35) 1 9,af 37 36 5,aQ 37 34 1] (bZ [aa 38 6] 38 (ah [aa 39 0,af 40 5 2,aj 41 40,oq 42 CR 39 41] (.cB [aa 43 0,aM 44 5 5,I.jo (some 45) CQ [.t 43,.t 44,k0,fR]])) (aA [aa 46 0,aa 47 7,I.jo (some 48) uP [.t 46,.t 47,fR],aQ 4 48 13])))) (ah [aa 50 6,aa 49 50] (cX 49 (ah [aa 51 0,aM 52 5 5,I.jo (some 53) CQ [.t 51,.t 52,k0,fR]] (aA [aa 54 0,af 55 5 2,aj 56 55,I.jo (some 57) uP [.t 54,.t 56,fR],aQ 4 57 13])) (ah [aa 59 0,cL 60 59,I.fa 61 (.t 60) 1 9,af 62 61 7,aj 63 62,aa 58 63] (dA 58 (aA [aa 64 0,I.jo (some 65) uP [.t 64,k0,HX],aQ 4 65 13])))))))) (aA [aa 66 0,aM 67 3 5,oq 68 yc 66 67,aQ 4 68 13])))) [.c 4 13 true] true none
def Fj:F:=.mk (ah [bp 3 1 5,cm 4 ct] (aA [aa 5 0,aM 6 3 5,oq 7 Bb 5 6,aQ 4 7 13])) [.c 4 13 true] false none
def rW:C :=oX [aa 9 0,cL 10 9,I.fa 11 (.t 10) 1 9,af 12 11 4,aj 13 12,cA 14 13,bM 15 .gtr 14] 15 .skip (br (.keep [0,4]) (.exit 0)) (.cr 1 (.cB [aa 16 0,aa 17 0,cL 18 17,I.fa 19 (.t 18) 1 9,af 20 19 4,aj 21 20,I.jm 22 (.t 21) k0 5,aM 23 22 5,I.jo (some 24) CQ [.t 16,.t 23,k0,HX]]))
def Bl:F:=.mk (ah [bp 3 1 5,cm 4 ct] (ah [aa 5 0,cL 6 5,I.fa 7 (.t 6) 1 9,af 8 7 7,I.st (.t 8) fR 1 false] (br (.cr 0 (.loop [0,4] rW)) (aA [aa 25 0,I.jo (some 26) uP [.t 25,k0,fR],aQ 4 26 13])))) [.c 4 13 true] true none
def SU:F:=.mk (ah [bS 2] (aA [aa 3 0,I.bin 4 .geq (.t 3) (.k (.i .i64 (-1099511627776))),aa 5 4,bk false 8 5 [aa 6 0,bu 7 .leq 6 1099511627776] 7,aa 2 8])) [.t 2] false none
def Bm:F:=.mk (ah [I.mv 2 (.k (.sl 2 true []))] (bZ [aa 3 0,I.qH 4 false (.t 3) .sl] 4 (aA [I.mv 2 (.k (.sl 2 true []))]) (aA [I.mZ 5 2 0 [.i .i64 0,.sl 1 true []] [] false,aa 6 0,je 7 5 6 2,aa 2 7]))) [.t 2] true none
def ac9:F:=.mk (ah [I.mv 6 (.k (.sl 2 true []))] (ah [aa 10 0,aa 11 1,gR 12 10 11 2] (ah [aa 13 2,cA 14 13,aa 7 14] (bZ [aa 15 7,bM 16 .eql 15] 16 (aA [aa 17 0,aa 6 17]) (ah [aa 18 0,cA 19 18,aa 8 19] (bZ [aa 20 1,aa 21 8,bJ 22 .eql 20 21] 22 (aA [aa 23 0,aa 24 2,je 25 23 24 2,aa 6 25]) (bZ [aa 26 8,aa 27 7,bJ 28 .add 26 27,aa 29 0,I.cap 30 (.t 29),bJ 31 .gtr 28 30] 31 (ah [aa 32 0,aa 33 1,ou 34 32 33 2,aa 35 8,aa 36 7,bJ 37 .add 35 36,aa 38 1,bJ 39 .sub 37 38,I.sH 40 (.t 34) (.t 39) 2 [.i .i64 0,.sl 1 true []],aa 9 40] (ah [aa 41 9,aa 42 1,gR 43 41 42 2,aa 44 2,I.copy (some 45) (.t 43) (.t 44) 2] (fy [0,1,2,3,4,5,6,7,8] [aa 46 9,aa 47 1,aa 48 7,bJ 49 .add 47 48,gR 50 46 49 2,aa 51 0,aa 52 1,gR 53 51 52 2,I.copy (some 54) (.t 50) (.t 53) 2] (aA [aa 55 9,aa 6 55])))) (ah [aa 56 0,aa 57 8,aa 58 7,bJ 59 .add 57 58,ou 60 56 59 2,aa 0 60] (bZ [aa 61 2,aa 62 0,aa 63 1,aa 64 7,bJ 65 .add 63 64,gR 66 62 65 2,I.rO 67 acR (.t 61) (.t 66) 2,dj 68 67] 68 (fy [0,1,2,3,4,5,6,7,8] [aa 69 0,aa 70 1,aa 71 7,bJ 72 .add 70 71,gR 73 69 72 2,aa 74 0,aa 75 1,gR 76 74 75 2,I.copy (some 77) (.t 73) (.t 76) 2] (ah [aa 78 0,aa 79 1,gR 80 78 79 2,aa 81 2,I.copy (some 82) (.t 80) (.t 81) 2] (aA [aa 83 0,aa 6 83]))) (ah [aa 84 0,aa 85 8,gR 86 84 85 2,aa 87 2,I.copy (some 88) (.t 86) (.t 87) 2] (ah [aa 89 0,aa 90 1,gR 91 89 90 2,aa 92 7,cU 93 acT 91 92] (aA [aa 94 0,aa 6 94])))))))))))) [.t 6] false none
def SV:F:=.mk (ah [bp 2 0 2,bS 3] (aA [af 4 2 0,aj 5 4,aj 6 1,bJ 7 .eql 5 6,aa 3 7])) [.t 3] false none
def SX:F:=.mk (ah [bp 1 0 1,I.mv 2 (.k .cN)] (aA [I.gJ 3 Mf [] [.t 1],aa 2 3])) [.t 2] true none
def Ni:F:=.mk (ah [bp 4 1 5] (.mG [] [0,1,2,3,4,5,6,7,8,9,10,11,12,13,14,15] [aa 6 0,aa 7 0,cL 8 7,af 9 8 10,aj 10 9,fJ 11 4 0,fE 12 11,fJ 13 4 1,fE 14 13,aa 15 2,I.build 16 lI [(0,1,.t 12),(1,1,.t 14),(2,1,.t 15),(3,1,fR),(4,1,.k (.i .i64 (-1)))],jf 17 5 1 lI 16,je 18 10 17 5,cL 19 6,af 20 19 10,aQ 20 18 1])) [] true none
def SY:F:=.mk (ah [bS 4] (aA [aa 5 0,aa 6 1,cU 7 Lv 5 6,bM 8 .geq 7,aa 4 8])) [.t 4] false none
def SZ:F:=.mk (ah [bp 3 0 2,bS 4] (aA [af 5 3 1,aj 6 5,cA 7 6,aj 8 1,bJ 9 .eql 7 8,aa 10 9,bk false 16 10 [aM 11 2 9,af 12 3 0,aj 13 12,I.call (some 14) HT [.t 11,.t 13,cW 70],dj 15 14] 15,aa 4 16])) [.t 4] false none
def S1:F:=.mk (ah [bp 3 0 9,bp 4 1 1,bp 5 2 1,bS 6] (aA [af 7 3 4,aj 8 7,I.gJ 9 Mg [] [.t 4,.t 5],cU 10 qL 8 9,aa 6 10])) [.t 6] false none
def Nj:C :=ah [bJ 9 .lss 8 7] (br (cX 9 .skip (br (.keep []) (.exit 0))) (br (.cr 1 (ah [aa 10 8,aa 5 10] (ah [aa 11 1,aa 12 0,aa 13 5,dI 14 12 13 5,aM 15 14 5,uQ 16 11 15] (dA 16 (ah [aa 17 5,aa 4 17] (br (.keep [4]) .ret)))))) (.cB [bu 18 .add 8 1,aa 8 18])))
def S2:F:=.mk (ah [bz 4] (br (ah [aa 6 0,cA 7 6,bz 8] (.cr 0 (.loop [0,1,7,8] Nj))) (aA [I.mv 4 (.k (.i .i64 (-1)))]))) [.t 4] false none
def S3:F:=.mk (ah [bp 2 0 5,bS 3] (aA [af 4 2 0,aj 5 4,af 6 1 0,aj 7 6,bJ 8 .eql 5 7,aa 3 8])) [.t 3] false none
def Nk:F:=.mk (ah [I.mv 6 (.k (.sl 5 true []))] (ah [aa 8 0,aa 9 1,aa 10 2,aa 11 0,cA 12 11,I.rN 13 (.t 8) (.t 9) (.t 10) (.t 12) 5] (bZ [aa 14 1,aa 15 2,bJ 16 .eql 14 15] 16 (aA [aa 17 0,aa 6 17]) (ah [aa 18 0,cA 19 18,aa 7 19] (fy [0,1,2,3,4,5,6,7] [aa 20 0,aa 21 1,ou 22 20 21 5,aa 23 0,aa 24 2,gR 25 23 24 5,je 26 22 25 5,aa 0 26] (ah [aa 27 0,aa 28 0,cA 29 28,aa 30 7,I.sl 31 (.t 27) (some (.t 29)) (some (.t 30)) 5,I.qI none (.t 31) 5 lI] (aA [aa 32 0,aa 6 32]))))))) [.t 6] true none
def Iv:C :=br (fy [0,1,2,3,4,5,6,7,8,9,10,11,12,13] [af 4 1 4,aj 5 4,cA 6 5,bM 7 .gtr 6,aa 8 7,bk false 17 8 [af 9 1 4,aj 10 9,I.jm 11 (.t 10) k0 5,af 12 11 2,aj 13 12,af 14 1 1,aj 15 14,bJ 16 .leq 13 15] 16] (cX 17 .skip (br (.keep []) (.exit 0)))) (.cr 1 (ah [af 18 1 4,aj 19 18,I.jm 20 (.t 19) k0 5,aM 21 20 5,cm 3 zQ,eD 3 21 5] (ah [af 22 1 4,aj 23 22,I.sl 24 (.t 23) (some (cW 1)) none 5,eH 25 Rn 24,af 26 1 4,aQ 26 25 1] (ah [af 27 1 1,aj 28 27,af 29 3 2,aj 30 29,bJ 31 .sub 28 30,af 32 1 1,aQ 32 31 1] (ah [aa 33 0,aM 34 3 5,aM 35 1 9,I.p6 (some 36) (.t 33) [.t 34,.t 35],dj 37 36] (dA 37 (br (.keep []) .ret)))))))
def S4:F:=.mk (.cr 0 (.loop [0,1] Iv)) [] false none
def Nl:F:=.mk (ah [bp 1 0 9,bS 2] (aA [I.fa 3 (.t 1) 0 9,af 4 3 0,aj 5 4,I.bin 6 .eql (.t 5) (.k (.i .i64 (-1))),aa 7 6,bk false 12 7 [I.fa 8 (.t 1) 0 9,af 9 8 1,aj 10 9,bM 11 .eql 10] 11,aa 13 12,bk false 18 13 [I.fa 14 (.t 1) 0 9,af 15 14 2,aj 16 15,bM 17 .eql 16] 17,aa 19 18,bk false 25 19 [I.fa 20 (.t 1) 0 9,af 21 20 3,aj 22 21,cA 23 22,bM 24 .eql 23] 24,aa 26 25,bk false 32 26 [I.fa 27 (.t 1) 0 9,af 28 27 5,aj 29 28,cA 30 29,bM 31 .eql 30] 31,aa 33 32,bk false 39 33 [I.fa 34 (.t 1) 0 9,af 35 34 6,aj 36 35,cA 37 36,bM 38 .eql 37] 38,aa 2 39])) [.t 2] false none
def Fk:C :=ah [bJ 12 .lss 11 10] (br (cX 12 .skip (br (.keep [1]) (.exit 0))) (br (.cr 1 (ah [aa 13 11,dI 14 9 11 5,aM 15 14 5,cm 4 zQ,aa 3 13,eD 4 15 5] (ah [I.fa 17 (.t 1) 0 9,af 18 17 4,aj 19 18,af 20 4 0,aj 21 20,cU 22 jd 19 21,aa 16 22,cg 23 16 0,cg 24 16 1,aa 5 23,aa 6 24] (ah [aa 25 5,aa 26 3,bJ 27 .neq 25 26,aa 28 27,bk true 32 28 [af 29 4 1,aj 30 29,bu 31 .neq 30 74] 31,aa 33 32,bk true 37 33 [af 34 4 2,aj 35 34,bM 36 .neq 35] 36,aa 38 37,bk true 42 38 [af 39 4 4,aj 40 39,I.bin 41 .neq (.t 40) (.k (.i .i64 (-1)))] 41] (dA 42 (ah [bS 2] (br (.keep [2]) .ret))))))) (.cB [bu 43 .add 11 1,aa 11 43])))
def Iw:F:=.mk (ah [bp 1 0 9,bS 2] (br (ah [I.fa 7 (.t 1) 0 9,af 8 7 4,aj 9 8,cA 10 9,bz 11] (.cr 0 (.loop [1,9,10,11] Fk))) (aA [I.fa 44 (.t 1) 0 9,af 45 44 4,aj 46 45,I.call (some 47) qM [cW 1,.t 46],bM 48 .eql 47,aa 2 48]))) [.t 2] false none
def Ix:C :=oX [aa 15 9,aa 16 10,bJ 17 .lss 15 16] 17 .skip (br (.keep [0,1,2,8,9]) (.exit 0)) (.cr 1 (ah [aa 18 9,aa 19 10,bJ 20 .add 18 19,I.kP 21 .u64 (.t 20),I.bin 22 .shr (.t 21) (.k (.i .u64 1)),I.kP 23 .i64 (.t 22),aa 11 23] (ah [aa 24 2,aa 25 0,aa 26 11,dI 27 25 26 5,aM 28 27 5,aa 29 1,tP 30 24 28 29,bM 31 .lss 30] (cX 31 (.cB [aa 32 11,bu 33 .add 32 1,aa 9 33]) (.cB [aa 34 11,aa 10 34])))))
def S5:F:=.mk (ah [bz 6,bS 7] (ah [aa 12 0,cA 13 12,aa 8 13] (ah [aa 14 8,bz 9,aa 10 14] (br (.cr 0 (.loop [0,1,2,8,9,10] Ix)) (aA [aa 35 9,aa 36 9,aa 37 8,bJ 38 .lss 36 37,aa 39 38,bk false 48 39 [aa 40 2,aa 41 0,aa 42 9,dI 43 41 42 5,aM 44 43 5,aa 45 1,tP 46 40 44 45,bM 47 .eql 46] 47,aa 6 35,aa 7 48]))))) [.t 6,.t 7] false none
def Nm:F:=.mk (ah [bp 2 0 5,bz 4] (bZ [af 5 2 3,aj 6 5,aa 7 1,bJ 8 .geq 6 7] 8 (aA [I.mv 4 (.k (.i .i64 (-1)))]) (aA [aa 9 1,af 10 2 3,aj 11 10,cU 12 RT 9 11,aa 4 12]))) [.t 4] false none
def S6:F:=.mk (ah [bz 4] (ah [aa 7 0,eH 8 Bd 7,aa 5 8] (ah [aa 9 1,eH 10 Bd 9,aa 6 10] (bZ [aa 11 5] 11 (bZ [aa 12 6] 12 (aA [bz 4]) (aA [I.mv 4 (.k (.i .i64 (-1)))])) (bZ [aa 13 6] 13 (aA [cF 4 1]) (bZ [aa 14 0,aa 15 1,bJ 16 .lss 14 15] 16 (aA [I.mv 4 (.k (.i .i64 (-1)))]) (bZ [aa 17 0,aa 18 1,bJ 19 .gtr 17 18] 19 (aA [cF 4 1]) (aA [bz 4])))))))) [.t 4] false none
def ada:F:=.mk (ah [I.mv 6 (.k (.sl 5 true []))] (ah [aa 10 0,aa 11 1,gR 12 10 11 5] (ah [aa 13 2,cA 14 13,aa 7 14] (bZ [aa 15 7,bM 16 .eql 15] 16 (aA [aa 17 0,aa 6 17]) (ah [aa 18 0,cA 19 18,aa 8 19] (bZ [aa 20 1,aa 21 8,bJ 22 .eql 20 21] 22 (aA [aa 23 0,aa 24 2,je 25 23 24 5,aa 6 25]) (bZ [aa 26 8,aa 27 7,bJ 28 .add 26 27,aa 29 0,I.cap 30 (.t 29),bJ 31 .gtr 28 30] 31 (ah [aa 32 0,aa 33 1,ou 34 32 33 5,aa 35 8,aa 36 7,bJ 37 .add 35 36,aa 38 1,bJ 39 .sub 37 38,I.sH 40 (.t 34) (.t 39) 5 zQ,aa 9 40] (ah [aa 41 9,aa 42 1,gR 43 41 42 5,aa 44 2,I.copy (some 45) (.t 43) (.t 44) 5] (fy [0,1,2,3,4,5,6,7,8] [aa 46 9,aa 47 1,aa 48 7,bJ 49 .add 47 48,gR 50 46 49 5,aa 51 0,aa 52 1,gR 53 51 52 5,I.copy (some 54) (.t 50) (.t 53) 5] (aA [aa 55 9,aa 6 55])))) (ah [aa 56 0,aa 57 8,aa 58 7,bJ 59 .add 57 58,ou 60 56 59 5,aa 0 60] (bZ [aa 61 2,aa 62 0,aa 63 1,aa 64 7,bJ 65 .add 63 64,gR 66 62 65 5,I.rO 67 acU (.t 61) (.t 66) 5,dj 68 67] 68 (fy [0,1,2,3,4,5,6,7,8] [aa 69 0,aa 70 1,aa 71 7,bJ 72 .add 70 71,gR 73 69 72 5,aa 74 0,aa 75 1,gR 76 74 75 5,I.copy (some 77) (.t 73) (.t 76) 5] (ah [aa 78 0,aa 79 1,gR 80 78 79 5,aa 81 2,I.copy (some 82) (.t 80) (.t 81) 5] (aA [aa 83 0,aa 6 83]))) (ah [aa 84 0,aa 85 8,gR 86 84 85 5,aa 87 2,I.copy (some 88) (.t 86) (.t 87) 5] (ah [aa 89 0,aa 90 1,gR 91 89 90 5,aa 92 7,cU 93 acV 91 92] (aA [aa 94 0,aa 6 94])))))))))))) [.t 6] false none
def Nn:C :=ah [bJ 9 .lss 8 7] (br (cX 9 .skip (br (.keep []) (.exit 0))) (br (.cr 1 (ah [aa 10 8,aa 5 10] (ah [aa 11 1,aa 12 0,aa 13 5,dI 14 12 13 1,aj 15 14,bJ 16 .eql 11 15] (dA 16 (ah [aa 17 5,aa 4 17] (br (.keep [4]) .ret)))))) (.cB [bu 18 .add 8 1,aa 8 18])))
def S7:F:=.mk (ah [bz 4] (br (ah [aa 6 0,cA 7 6,bz 8] (.cr 0 (.loop [0,1,7,8] Nn))) (aA [I.mv 4 (.k (.i .i64 (-1)))]))) [.t 4] false none
def Iy:C :=oX [aa 13 7,aa 14 8,bJ 15 .lss 13 14] 15 .skip (br (.keep [0,1,6,7]) (.exit 0)) (.cr 1 (ah [aa 16 7,aa 17 8,bJ 18 .add 16 17,I.kP 19 .u64 (.t 18),I.bin 20 .shr (.t 19) (.k (.i .u64 1)),I.kP 21 .i64 (.t 20),aa 9 21] (ah [aa 22 0,aa 23 9,dI 24 22 23 1,aj 25 24,aa 26 1,cU 27 HW 25 26] (cX 27 (.cB [aa 28 9,bu 29 .add 28 1,aa 7 29]) (.cB [aa 30 9,aa 8 30])))))
def Iz:F:=.mk (ah [bz 4,bS 5] (ah [aa 10 0,cA 11 10,aa 6 11] (ah [aa 12 6,bz 7,aa 8 12] (br (.cr 0 (.loop [0,1,6,7,8] Iy)) (aA [aa 31 7,aa 32 7,aa 33 6,bJ 34 .lss 32 33,aa 35 34,bk false 53 35 [aa 36 0,aa 37 7,dI 38 36 37 1,aj 39 38,aa 40 1,bJ 41 .eql 39 40,aa 42 41,bk true 52 42 [aa 43 0,aa 44 7,dI 45 43 44 1,aj 46 45,eH 47 CT 46,aa 48 47,bk false 51 48 [aa 49 1,eH 50 CT 49] 50] 51] 52,aa 4 31,aa 5 53]))))) [.t 4,.t 5] false none
def C3:C :=oX [aa 13 7,aa 14 8,bJ 15 .lss 13 14] 15 .skip (br (.keep [0,1,6,7]) (.exit 0)) (.cr 1 (ah [aa 16 7,aa 17 8,bJ 18 .add 16 17,I.kP 19 .u64 (.t 18),I.bin 20 .shr (.t 19) (.k (.i .u64 1)),I.kP 21 .i64 (.t 20),aa 9 21] (ah [aa 22 0,aa 23 9,dI 24 22 23 1,aj 25 24,aa 26 1,cU 27 HW 25 26] (cX 27 (.cB [aa 28 9,bu 29 .add 28 1,aa 7 29]) (.cB [aa 30 9,aa 8 30])))))
def Fl:F:=.mk (ah [bz 4,bS 5] (ah [aa 10 0,cA 11 10,aa 6 11] (ah [aa 12 6,bz 7,aa 8 12] (br (.cr 0 (.loop [0,1,6,7,8] C3)) (aA [aa 31 7,aa 32 7,aa 33 6,bJ 34 .lss 32 33,aa 35 34,bk false 53 35 [aa 36 0,aa 37 7,dI 38 36 37 1,aj 39 38,aa 40 1,bJ 41 .eql 39 40,aa 42 41,bk true 52 42 [aa 43 0,aa 44 7,dI 45 43 44 1,aj 46 45,eH 47 CT 46,aa 48 47,bk false 51 48 [aa 49 1,eH 50 CT 49] 50] 51] 52,aa 4 31,aa 5 53]))))) [.t 4,.t 5] true none
def adb:F:=.mk (ah [I.mv 6 (.k (.sl 1 true []))] (ah [aa 10 0,aa 11 1,gR 12 10 11 1] (ah [aa 13 2,cA 14 13,aa 7 14] (bZ [aa 15 7,bM 16 .eql 15] 16 (aA [aa 17 0,aa 6 17]) (ah [aa 18 0,cA 19 18,aa 8 19] (bZ [aa 20 1,aa 21 8,bJ 22 .eql 20 21] 22 (aA [aa 23 0,aa 24 2,je 25 23 24 1,aa 6 25]) (bZ [aa 26 8,aa 27 7,bJ 28 .add 26 27,aa 29 0,I.cap 30 (.t 29),bJ 31 .gtr 28 30] 31 (ah [aa 32 0,aa 33 1,ou 34 32 33 1,aa 35 8,aa 36 7,bJ 37 .add 35 36,aa 38 1,bJ 39 .sub 37 38,I.sH 40 (.t 34) (.t 39) 1 [.i .i64 0],aa 9 40] (ah [aa 41 9,aa 42 1,gR 43 41 42 1,aa 44 2,I.copy (some 45) (.t 43) (.t 44) 1] (fy [0,1,2,3,4,5,6,7,8] [aa 46 9,aa 47 1,aa 48 7,bJ 49 .add 47 48,gR 50 46 49 1,aa 51 0,aa 52 1,gR 53 51 52 1,I.copy (some 54) (.t 50) (.t 53) 1] (aA [aa 55 9,aa 6 55])))) (ah [aa 56 0,aa 57 8,aa 58 7,bJ 59 .add 57 58,ou 60 56 59 1,aa 0 60] (bZ [aa 61 2,aa 62 0,aa 63 1,aa 64 7,bJ 65 .add 63 64,gR 66 62 65 1,I.rO 67 acW (.t 61) (.t 66) 1,dj 68 67] 68 (fy [0,1,2,3,4,5,6,7,8] [aa 69 0,aa 70 1,aa 71 7,bJ 72 .add 70 71,gR 73 69 72 1,aa 74 0,aa 75 1,gR 76 74 75 1,I.copy (some 77) (.t 73) (.t 76) 1] (ah [aa 78 0,aa 79 1,gR 80 78 79 1,aa 81 2,I.copy (some 82) (.t 80) (.t 81) 1] (aA [aa 83 0,aa 6 83]))) (ah [aa 84 0,aa 85 8,gR 86 84 85 1,aa 87 2,I.copy (some 88) (.t 86) (.t 87) 1] (ah [aa 89 0,aa 90 1,gR 91 89 90 1,aa 92 7,cU 93 acX 91 92] (aA [aa 94 0,aa 6 94])))))))))))) [.t 6] false none
def Fm:F:=.mk (ah [bp 5 0 5,bS 6] (bZ [aj 7 1,dj 8 7,aa 9 8,bk false 13 9 [af 10 5 2,aj 11 10,bM 12 .geq 11] 12,aa 14 13,bk false 19 14 [af 15 5 2,aj 16 15,aj 17 2,bJ 18 .leq 16 17] 18] 19 (ah [aj 20 2,af 21 5 2,aj 22 21,bJ 23 .sub 20 22,aQ 2 23 1] (aA [ia 6])) (ah [aj 24 1,aa 25 24,bk true 28 25 [aj 26 3,dj 27 26] 27,aQ 1 28 1] (ah [aj 29 4,aM 30 5 5,jf 31 5 1 zQ 30,je 32 29 31 5,aQ 4 32 1] (aA [bS 6]))))) [.t 6] false none
def IA:F:=.mk (ah [bp 2 0 5,bS 3] (aA [af 4 2 0,aj 5 4,af 6 1 0,aj 7 6,bJ 8 .eql 5 7,aa 9 8,bk false 25 9 [af 10 2 4,aj 11 10,I.bin 12 .eql (.t 11) (.k (.i .i64 (-1))),aa 13 12,bk true 17 13 [af 14 1 4,aj 15 14,I.bin 16 .eql (.t 15) (.k (.i .i64 (-1)))] 16,aa 18 17,bk true 24 18 [af 19 2 4,aj 20 19,af 21 1 4,aj 22 21,bJ 23 .eql 20 22] 23] 24,aa 3 25])) [.t 3] false none
def Fo:F:=.mk (ah [bp 3 0 5,bS 4] (bZ [af 5 3 1,aj 6 5,bu 7 .eql 6 64] 7 (aA [af 8 1 5,aj 9 8,cA 10 9,af 11 2 2,aj 12 11,bJ 13 .neq 10 12,aa 14 13,bk true 20 14 [af 15 1 4,aj 16 15,af 17 3 0,aj 18 17,I.call (some 19) Me [.t 16,cW 65,.t 18]] 19,aa 4 20]) (aA [af 21 1 5,aj 22 21,cA 23 22,bM 24 .gtr 23,aa 25 24,bk true 31 25 [af 26 1 4,aj 27 26,af 28 3 0,aj 29 28,I.call (some 30) Me [.t 27,cW 64,.t 29]] 30,aa 4 31]))) [.t 4] false none
def S8:F:=.mk (ah [bp 4 1 1,bp 5 2 1,bS 6] (aA [aa 7 0,I.gJ 8 Mh [] [.t 4,.t 5],cU 9 qL 7 8,aa 6 9])) [.t 6] false none
def Fp:F:=.mk (ah [bp 3 1 1,cm 4 zQ,bS 5] (aA [aa 6 0,cL 7 6,I.fa 8 (.t 7) 1 9,af 9 8 4,aj 10 9,I.gJ 11 EM [] [.t 3],I.calls (some 12) Mi [.t 10,.t 11],cg 13 12 0,cg 14 12 1,aQ 4 13 5,aa 5 14])) [.c 4 5 true,.t 5] true none
def No:F:=.mk (ah [bp 5 1 5] (br (br (.xT 0 5) (.mG [] [0,1,2,3,4,5,6,7,8,9,10,11,12] [aa 8 0,aa 9 0,cL 10 9,I.fa 11 (.t 10) 1 9,af 12 11 4,aj 13 12,fJ 14 5 0,fE 15 14,cU 16 vW 13 15,cL 17 8,I.fa 18 (.t 17) 1 9,af 19 18 4,aQ 19 16 1])) (.mG [] [0,1,2,3,4,5,6,7,8,9,10,11,12,13,14,15,16,17,18] [aa 20 0,aa 21 0,cL 22 21,af 23 22 10,aj 24 23,fJ 25 5 0,fE 26 25,fJ 27 5 1,fE 28 27,aa 29 2,aa 30 3,fJ 31 5 4,fE 32 31,I.build 33 lI [(0,1,.t 26),(1,1,.t 28),(2,1,.t 29),(3,1,.t 30),(4,1,.t 32)],jf 34 5 1 lI 33,je 35 24 34 5,cL 36 20,af 37 36 10,aQ 37 35 1]))) [] true none
def C4:F:=.mk (ah [cm 6 ct] (fy [0,1,2,3,4,5,6,7,8,9,10,11] [aa 7 0,cL 8 7,I.fa 9 (.t 8) 1 9,aM 10 9 9,aa 11 1,aa 12 2,aa 13 0,cL 14 13,af 15 14 10,aj 16 15,I.build 17 ct [(0,9,.t 10),(10,1,.t 11),(11,1,.t 12),(12,1,.t 16)],aQ 6 17 13] .ret)) [.c 6 13 true] true none
def C5:F:=.mk (.cB [aa 4 0,aa 5 0,cL 6 5,I.fa 7 (.t 6) 1 9,af 8 7 5,aj 9 8,aa 10 1,jf 11 1 1 [.i .i64 0] 10,je 12 9 11 1,cL 13 4,I.fa 14 (.t 13) 1 9,af 15 14 5,aQ 15 12 1]) [] true none
def Bn:F:=.mk (ah [bp 3 1 5,cm 4 ct] (ah [af 6 3 0,aj 7 6,af 8 3 1,aj 9 8,af 10 3 3,aj 11 10,I.build 12 zQ [(0,1,.t 7),(1,1,.t 9),(3,1,.t 11),(4,1,.k (.i .i64 (-1)))],cm 5 zQ,aQ 5 12 5] (bZ [af 13 3 1,aj 14 13,bu 15 .eql 14 64] 15 (.cB [af 16 3 2,aj 17 16,af 18 5 2,aQ 18 17 1]) (fy [0,1,2,3,4,5,6,7,8,9,10,11,12] [aa 19 0,aa 20 0,cL 21 20,I.fa 22 (.t 21) 1 9,af 23 22 4,aj 24 23,aM 25 5 5,jf 26 5 1 zQ 25,je 27 24 26 5,cL 28 19,I.fa 29 (.t 28) 1 9,af 30 29 4,aQ 30 27 1] (aA [aa 31 0,cL 32 31,I.fa 33 (.t 32) 1 9,aM 34 33 9,I.build 35 ct [(0,9,.t 34),(9,1,fR)],aQ 4 35 13]))))) [.c 4 13 true] true none
def ade:F:=.mk (.cB [aa 4 0,aa 5 0,cA 6 5,aa 7 1,bJ 8 .sub 6 7,cU 9 acY 4 8]) [] false none
def Np:C :=.cr 1 (ah [aj 5 1,cL 6 5,I.fa 7 (.t 6) 1 9,af 8 7 4,aj 9 8,I.call (some 10) x9 [.t 9,.k (.fn HV [] [])],aa 3 10] (br (fy [0,1,2,3,4,5,6,7,8,9,10,11,12] [aa 11 3,bM 12 .lss 11,aa 13 12,bk true 23 13 [aj 14 1,cL 15 14,af 16 15 0,aj 17 16,aj 18 1,cL 19 18,I.fa 20 (.t 19) 1 9,aM 21 20 9,I.calls (some 22) A9 [.t 17,.t 21]] 22] (dA 23 (br (.keep []) .ret))) (ah [aj 24 1,cL 25 24,I.fa 26 (.t 25) 1 9,af 27 26 4,aj 28 27,aa 29 3,dI 30 28 29 5,aM 31 30 5,cm 4 zQ,eD 4 31 5] (fy [0,1,2,3,4,5,7,8,9,6,10,11,12,13,14] [aj 32 1,aj 33 1,cL 34 33,I.fa 35 (.t 34) 1 9,af 36 35 4,aj 37 36,aa 39 3,aa 40 3,bu 41 .add 40 1,lJ 38 sO 37,.re (.ld 32 (.t 1) 1 false),I.nH 42 RY [.t 38,.t 39,.t 41],.re (.ld 32 (.t 1) 1 false),cL 43 32,I.fa 44 (.t 43) 1 9,af 45 44 4,aQ 45 42 1] (ah [aa 46 0,aM 47 4 5,I.p6 (some 48) (.t 46) [.t 47],dj 49 48] (dA 49 (br (.keep []) .ret)))))))
def S9:F:=.mk (.cr 0 (.loop [0,1] Np)) [] false none
def Ta:F:=.mk (ah [bp 1 0 5,bS 2] (aA [af 3 1 1,aj 4 3,bu 5 .eql 4 68,aa 2 5])) [.t 2] false none
def Nq:F:=.mk (ah [I.mv 6 (.k (.sl 5 true []))] (ah [aa 8 0,aa 9 1,aa 10 2,aa 11 0,cA 12 11,I.rN 13 (.t 8) (.t 9) (.t 10) (.t 12) 5] (bZ [aa 14 1,aa 15 2,bJ 16 .eql 14 15] 16 (aA [aa 17 0,aa 6 17]) (ah [aa 18 0,cA 19 18,aa 7 19] (fy [0,1,2,3,4,5,6,7] [aa 20 0,aa 21 1,ou 22 20 21 5,aa 23 0,aa 24 2,gR 25 23 24 5,je 26 22 25 5,aa 0 26] (ah [aa 27 0,aa 28 0,cA 29 28,aa 30 7,I.sl 31 (.t 27) (some (.t 29)) (some (.t 30)) 5,I.qI none (.t 31) 5 zQ] (aA [aa 32 0,aa 6 32]))))))) [.t 6] true none
def Tb:F:=.mk (ah [bp 3 0 5,bS 4] (aA [af 5 3 0,aj 6 5,aj 7 1,bJ 8 .eql 6 7,aa 9 8,bk false 14 9 [af 10 3 1,aj 11 10,aj 12 2,bJ 13 .eql 11 12] 13,aa 4 14])) [.t 4] false none
def IB:F:=.mk (ah [bS 2] (aA [aa 3 0,aa 4 0,bJ 5 .neq 3 4,aa 2 5])) [.t 2] false none
def adf:F:=.mk (.cB [aa 4 0,aa 5 0,cA 6 5,aa 7 1,bJ 8 .sub 6 7,cU 9 acZ 4 8]) [] false none
def Nr:F:=.mk (ah [bS 4] (aA [aa 5 0,eH 6 Bd 5,aa 7 6,bk false 11 7 [aa 8 1,eH 9 Bd 8,dj 10 9] 10,aa 12 11,bk true 16 12 [aa 13 0,aa 14 1,bJ 15 .lss 13 14] 15,aa 4 16])) [.t 4] false none
def Ns:F:=.mk (ah [bS 2] (aA [aa 3 0,aa 4 0,bJ 5 .neq 3 4,aa 2 5])) [.t 2] false none
def adg:F:=.mk (.cB [aa 4 0,aa 5 0,cA 6 5,aa 7 1,bJ 8 .sub 6 7,cU 9 ac0 4 8]) [] false none
def Tc:F:=.mk (ah [bp 3 0 5,bS 4] (aA [af 5 3 1,aj 6 5,aj 7 1,bJ 8 .eql 6 7,aa 9 8,bk false 14 9 [af 10 3 0,aj 11 10,aj 12 2,bJ 13 .neq 11 12] 13,aa 4 14])) [.t 4] false none
def IC:F:=.mk (ah [cm 4 zQ,bS 5] (ah [cm 6 zQ] (ah [aa 8 0,aa 9 1,cU 10 x9 8 9,aa 7 10] (bZ [aa 11 7,bM 12 .lss 11] 12 (aA [aM 13 6 5,aQ 4 13 5,bS 5]) (aA [aa 14 0,aa 15 7,dI 16 14 15 5,aM 17 16 5,aQ 4 17 5,ia 5]))))) [.c 4 5 true,.t 5] false none
def Td:F:=.mk (ah [bp 2 0 5,bS 3] (aA [af 4 2 1,aj 5 4,aj 6 1,bJ 7 .eql 5 6,aa 3 7])) [.t 3] false none
def adh:F:=.mk (ah [aa 4 0,aa 5 1,ou 6 4 5 2,eH 7 RZ 6] (ah [aa 8 0,aa 9 1,gR 10 8 9 2,eH 11 RZ 10] (.cB [aa 12 0,eH 13 RZ 12]))) [] false none
def adi:F:=.mk (ah [aa 4 0,aa 5 1,ou 6 4 5 5,eH 7 R0 6] (ah [aa 8 0,aa 9 1,gR 10 8 9 5,eH 11 R0 10] (.cB [aa 12 0,eH 13 R0 12]))) [] false none
def adj:F:=.mk (ah [aa 4 0,aa 5 1,ou 6 4 5 1,eH 7 R1 6] (ah [aa 8 0,aa 9 1,gR 10 8 9 1,eH 11 R1 10] (.cB [aa 12 0,eH 13 R1 12]))) [] false none
def adk:C :=oX [aa 7 2,aa 8 3,bJ 9 .lss 7 8] 9 .skip (br (.keep []) (.exit 0)) (br (.cr 1 (.mG [] [0,1,2,3,4,5,6,7,8,9,10,11,12,13,14,15] [aa 14 0,aa 15 2,aa 16 0,aa 17 3,aa 18 0,aa 19 3,dI 20 18 19 2,aM 21 20 2,aa 22 0,aa 23 2,dI 24 22 23 2,aM 25 24 2,dI 26 14 15 2,aQ 26 21 2,dI 27 16 17 2,aQ 27 25 2])) (.cB [aa 10 2,bu 11 .add 10 1,aa 12 3,bu 13 .sub 12 1,aa 2 11,aa 3 13]))
def adl:F:=.mk (ah [aa 4 0,cA 5 4,bu 6 .sub 5 1,bz 2,aa 3 6] (.cr 0 (.loop [0,2,3] adk))) [] false none
def adm:C :=oX [aa 7 2,aa 8 3,bJ 9 .lss 7 8] 9 .skip (br (.keep []) (.exit 0)) (br (.cr 1 (.mG [] [0,1,2,3,4,5,6,7,8,9,10,11,12,13,14,15] [aa 14 0,aa 15 2,aa 16 0,aa 17 3,aa 18 0,aa 19 3,dI 20 18 19 5,aM 21 20 5,aa 22 0,aa 23 2,dI 24 22 23 5,aM 25 24 5,dI 26 14 15 5,aQ 26 21 5,dI 27 16 17 5,aQ 27 25 5])) (.cB [aa 10 2,bu 11 .add 10 1,aa 12 3,bu 13 .sub 12 1,aa 2 11,aa 3 13]))
def adn:F:=.mk (ah [aa 4 0,cA 5 4,bu 6 .sub 5 1,bz 2,aa 3 6] (.cr 0 (.loop [0,2,3] adm))) [] false none
def ado:C :=oX [aa 7 2,aa 8 3,bJ 9 .lss 7 8] 9 .skip (br (.keep []) (.exit 0)) (br (.cr 1 (.mG [] [0,1,2,3,4,5,6,7,8,9,10,11,12,13,14,15] [aa 14 0,aa 15 2,aa 16 0,aa 17 3,aa 18 0,aa 19 3,dI 20 18 19 1,aj 21 20,aa 22 0,aa 23 2,dI 24 22 23 1,aj 25 24,dI 26 14 15 1,aQ 26 21 1,dI 27 16 17 1,aQ 27 25 1])) (.cB [aa 10 2,bu 11 .add 10 1,aa 12 3,bu 13 .sub 12 1,aa 2 11,aa 3 13]))
def adp:F:=.mk (ah [aa 4 0,cA 5 4,bu 6 .sub 5 1,bz 2,aa 3 6] (.cr 0 (.loop [0,2,3] ado))) [] false none
def C6:F:=.mk (ah [bp 3 0 2,bp 4 1 4,bp 5 2 9,bS 6] (aA [af 7 3 1,aj 8 7,aM 9 4 4,aM 10 5 9,tP 11 8 9 10,bM 12 .eql 11,aa 6 12])) [.t 6] false none
def Te:F:=.mk (ah [bp 3 0 2,bp 4 1 4,bp 5 2 9,bz 6] (aA [af 7 3 1,aj 8 7,aM 9 4 4,aM 10 5 9,tP 11 8 9 10,aa 6 11])) [.t 6] false none
def Nt:F:=.mk (ah [bp 2 0 2,bp 3 1 4,cm 4 zR,bz 5] (aA [af 6 2 0,aj 7 6,aM 8 3 4,uQ 9 7 8,cg 10 9 0,cg 11 9 1,aQ 4 10 9,aa 5 11])) [.c 4 9 true,.t 5] false none
def Bo:F:=.mk (ah [bp 4 0 2,bp 5 1 4,iS 6 2 9,bp 7 3 5,cm 8 zR,bz 9,bS 10,bz 11] (br (.cr 0 (ah [af 14 7 1,aj 15 14,bu 16 .eql 15 52,aa 17 16,bk false 23 17 [af 18 6 0,aj 19 18,af 20 7 0,aj 21 20,bJ 22 .neq 19 21] 22,aa 13 23] (cX 13 (aA [aM 24 6 9,aQ 8 24 9,bz 9,bS 10,cF 11 20]) (ah [af 26 7 1,aj 27 26,bu 28 .eql 27 52,aa 25 28] (cX 25 (.cB [af 29 6 0,I.st (.t 29) (.k (.i .i64 (-1))) 1 false]) (ah [af 31 6 0,aj 32 31,bM 33 .lss 32,aa 30 33] (cX 30 (.cB [af 34 7 0,aj 35 34,af 36 6 0,aQ 36 35 1]) (ah [af 38 7 1,aj 39 38,bu 40 .eql 39 51,aa 37 40] (cX 37 (aA [aM 41 6 9,aQ 8 41 9,bz 9,bS 10,bz 11]) (ah [af 43 6 0,aj 44 43,af 45 7 0,aj 46 45,bJ 47 .eql 44 46,aa 42 47] (cX 42 (aA [aM 48 6 9,aQ 8 48 9,bz 9,bS 10,cF 11 17]) (aA [aM 12 6 9,aQ 8 12 9,bz 9,bS 10,cF 11 29])))))))))))) (aA [aM 49 6 9,aQ 8 49 9,bz 9,ia 10,bz 11]))) [.c 8 9 true,.t 9,.t 10,.t 11] false none
def Tf:F:=.mk (ah [bp 4 0 2,bp 5 1 4,bp 6 2 9,bp 7 3 5,bS 8] (aA [aM 9 5 4,aM 10 6 9,aM 11 7 5,jC 12 EN 9 10 11,aa 8 12])) [.t 8] false none
def Nu:F:=.mk (ah [bp 3 0 4,bp 4 1 9,bp 5 2 5,bS 6] (fy [0,1,2,3,4,5,6,7,8,9,10,11,12,13,14] [fJ 7 4 4,fE 8 7,I.jm 9 (.t 8) k0 5,af 10 9 0,aj 11 10,fJ 12 5 0,fE 13 12,bJ 14 .eql 11 13,aa 15 14,bk false 20 15 [iD 16 3 4,iD 17 4 9,iD 18 5 5,jC 19 CU 16 17 18] 19,aa 6 20] .ret)) [.t 6] false none
def Tg:F:=.mk (ah [bp 3 0 4,iS 4 1 9,bp 5 2 5,bS 6] (ah [af 8 4 2,aj 9 8,aa 7 9] (ah [af 10 4 4,I.st (.t 10) (.k (.sl 5 true [])) 1 false] (aA [aM 11 3 4,aM 12 4 9,af 13 5 0,aj 14 13,af 15 5 1,aj 16 15,af 17 5 2,aj 18 17,af 19 5 3,aj 20 19,aa 21 7,I.build 22 zQ [(0,1,.t 14),(1,1,.t 16),(2,1,.t 18),(3,1,.t 20),(4,1,.t 21)],jC 23 ED 11 12 22,aa 6 23])))) [.t 6] false none
def we:F:=.mk (ah [bp 4 0 2,bp 5 1 4,iS 6 2 9,bp 7 3 5,cm 8 zR,bz 9,bS 10,bz 11] (ah [af 15 6 3,aj 16 15,af 17 7 0,aj 18 17,cU 19 RW 16 18,aa 14 19,cg 20 14 0,cg 21 14 1,aa 12 20,aa 13 21] (br (ah [af 22 7 1,aj 23 22] (.cr 0 (ah [bu 25 .eql 23 54,aa 24 25] (cX 24 (bZ [aa 26 13,dj 27 26] 27 (aA [aM 28 6 9,aQ 8 28 9,bz 9,bS 10,cF 11 20]) (ah [af 29 6 3,aj 30 29,lJ 31 tN 30,aa 32 12,aa 33 12,bu 34 .add 33 1,I.nH 35 R5 [.t 31,.t 32,.t 34],af 36 6 3,aQ 36 35 1] (aA [aM 37 6 9,aQ 8 37 9,bz 9,ia 10,bz 11]))) (ah [bu 39 .eql 23 56,aa 38 39] (dA 38 (bZ [af 40 6 0,aj 41 40,af 42 7 0,aj 43 42,bJ 44 .neq 41 43] 44 (aA [aM 45 6 9,aQ 8 45 9,bz 9,bS 10,cF 11 20]) (ah [af 46 6 0,I.st (.t 46) (.k (.i .i64 (-1))) 1 false] (aA [aM 47 6 9,aQ 8 47 9,bz 9,ia 10,bz 11]))))))))) (bZ [aa 48 13,aa 49 48,bk true 55 49 [af 50 6 0,aj 51 50,af 52 7 0,aj 53 52,bJ 54 .eql 51 53] 54] 55 (aA [aM 56 6 9,aQ 8 56 9,bz 9,bS 10,cF 11 17]) (bZ [af 57 6 0,aj 58 57,bM 59 .geq 58,aa 60 59,bk true 70 60 [af 61 7 1,aj 62 61,bu 63 .eql 62 55,aa 64 63,bk false 69 64 [af 65 6 3,aj 66 65,cA 67 66,bM 68 .gtr 67] 68] 69] 70 (aA [aM 71 6 9,aQ 8 71 9,bz 9,bS 10,cF 11 29]) (oX [af 72 7 1,aj 73 72,bu 74 .eql 73 55] 74 (.cB [af 75 7 0,aj 76 75,af 77 6 0,aQ 77 76 1]) (.mG [] [0,1,3,4,5,6,2,7,8,9] [af 78 6 3,aj 79 78,aa 81 12,fJ 82 7 0,fE 83 82,jf 84 1 1 [.i .i64 0] 83,lJ 80 tN 79,I.nH 85 RX [.t 80,.t 81,.t 84],af 86 6 3,aQ 86 85 1]) (aA [aM 87 6 9,aQ 8 87 9,bz 9,ia 10,bz 11]))))))) [.c 8 9 true,.t 9,.t 10,.t 11] false none
def Th:F:=.mk (ah [bp 4 0 2,bp 5 1 4,bp 6 2 9,bp 7 3 5,bS 8] (aA [aM 9 5 4,aM 10 6 9,aM 11 7 5,jC 12 EN 9 10 11,aa 8 12])) [.t 8] false none
def Nv:F:=.mk (ah [I.mv 6 (.k (.sl 1 true []))] (ah [aa 8 0,aa 9 1,aa 10 2,aa 11 0,cA 12 11,I.rN 13 (.t 8) (.t 9) (.t 10) (.t 12) 1] (bZ [aa 14 1,aa 15 2,bJ 16 .eql 14 15] 16 (aA [aa 17 0,aa 6 17]) (ah [aa 18 0,cA 19 18,aa 7 19] (fy [0,1,2,3,4,5,6,7] [aa 20 0,aa 21 1,ou 22 20 21 1,aa 23 0,aa 24 2,gR 25 23 24 1,je 26 22 25 1,aa 0 26] (ah [aa 27 0,aa 28 0,cA 29 28,aa 30 7,I.sl 31 (.t 27) (some (.t 29)) (some (.t 30)) 1,I.qI none (.t 31) 1 [.i .i64 0]] (aA [aa 32 0,aa 6 32]))))))) [.t 6] true none
def C7:F:=.mk (ah [bp 4 0 2,bp 5 1 4,iS 6 2 9,bp 7 3 5,cm 8 zR,bz 9,bS 10,bz 11] (br (.cr 0 (ah [af 14 7 1,aj 15 14,bu 16 .eql 15 62,aa 17 16,bk false 26 17 [af 18 6 1,aj 19 18,af 20 7 2,aj 21 20,bJ 22 .add 19 21,af 23 5 2,aj 24 23,bJ 25 .gtr 22 24] 25,aa 13 26] (cX 13 (aA [aM 27 6 9,aQ 8 27 9,bz 9,bS 10,cF 11 17]) (ah [af 29 7 1,aj 30 29,bu 31 .eql 30 62,aa 28 31] (cX 28 (.cB [af 32 6 1,aj 33 32,af 34 7 2,aj 35 34,bJ 36 .add 33 35,af 37 6 1,aQ 37 36 1]) (ah [af 39 6 1,aj 40 39,af 41 7 2,aj 42 41,bJ 43 .geq 40 42,aa 38 43] (cX 38 (.cB [af 44 6 1,aj 45 44,af 46 7 2,aj 47 46,bJ 48 .sub 45 47,af 49 6 1,aQ 49 48 1]) (ah [af 51 7 1,aj 52 51,bu 53 .eql 52 61,aa 50 53] (cX 50 (aA [aM 54 6 9,aQ 8 54 9,bz 9,bS 10,bz 11]) (aA [aM 12 6 9,aQ 8 12 9,bz 9,bS 10,cF 11 29])))))))))) (aA [aM 55 6 9,aQ 8 55 9,bz 9,ia 10,bz 11]))) [.c 8 9 true,.t 9,.t 10,.t 11] false none
def Nw:F:=.mk (ah [bp 4 0 2,bp 5 1 4,bp 6 2 9,bp 7 3 5,bS 8] (bZ [af 9 5 3,aj 10 9,bM 11 .eql 10] 11 (aA [aM 12 5 4,aM 13 6 9,aM 14 7 5,jC 15 EN 12 13 14,aa 8 15]) (aA [aM 16 5 4,aM 17 6 9,aM 18 7 5,jC 19 CU 16 17 18,aa 8 19]))) [.t 8] false none
def ID:F:=.mk (ah [bp 3 0 2,bp 4 1 4,iS 5 2 9,bS 6] (ah [af 8 5 8,aj 9 8,aa 7 9] (ah [af 10 5 8,I.st (.t 10) k0 1 false] (aA [aa 11 7,bM 12 .geq 11,aa 13 12,bk false 18 13 [aa 14 7,af 15 4 2,aj 16 15,bJ 17 .lss 14 16] 17,aa 19 18,bk false 27 19 [I.fa 20 (.t 3) 0 2,af 21 20 1,aj 22 21,aM 23 4 4,aM 24 5 9,tP 25 22 23 24,bM 26 .eql 25] 26,aa 6 27])))) [.t 6] false none
def IE:F:=.mk (ah [bp 4 0 2,bp 5 1 4,iS 6 2 9,bp 7 3 5,cm 8 zR,bz 9,bS 10,bz 11] (ah [af 13 6 8,aj 14 13,aa 12 14] (ah [af 15 6 8,aj 16 15,bu 17 .add 16 1,af 18 6 8,aQ 18 17 1] (bZ [af 19 6 8,aj 20 19,af 21 5 2,aj 22 21,bJ 23 .eql 20 22] 23 (bZ [af 24 6 1,aj 25 24,bu 26 .eql 25 1099511627776] 26 (aA [aM 27 6 9,aQ 8 27 9,bz 9,bS 10,cF 11 4]) (ah [af 28 6 8,I.st (.t 28) k0 1 false] (.cB [af 29 6 1,aj 30 29,bu 31 .add 30 1,af 32 6 1,aQ 32 31 1]))) (aA [aM 33 6 9,aa 34 12,aQ 8 33 9,aa 9 34,ia 10,bz 11]))))) [.c 8 9 true,.t 9,.t 10,.t 11] false none
def Ti:F:=.mk (ah [bp 4 0 2,bp 5 1 4,bp 6 2 9,bp 7 3 5,bS 8] (aA [af 9 6 4,aj 10 9,cA 11 10,af 12 5 2,aj 13 12,bJ 14 .geq 11 13,aa 8 14])) [.t 8] false none
def Nx:F:=.mk (ah [bp 3 0 2,bp 4 1 4,bp 5 2 9,bS 6] (fy [0,1,2,3,4,5,6,7,8,9,10,11,12,13,14,15,16,17] [I.p5 7 (.t 3) 0 2,fJ 8 7 1,fE 9 8,iD 10 4 4,I.build 11 zR [(0,1,.k (.i .i64 (-1)))],tP 12 9 10 11,bM 13 .eql 12,aa 14 13,bk false 23 14 [I.p5 15 (.t 3) 0 2,fJ 16 15 1,fE 17 16,iD 18 4 4,eH 19 EO 18,iD 20 5 9,tP 21 17 19 20,bM 22 .eql 21] 22,aa 6 23] .ret)) [.t 6] false none
def wg:F:=.mk (ah [bp 4 0 2,bp 5 1 4,iS 6 2 9,bp 7 3 5,cm 8 zR,bz 9,bS 10,bz 11] (br (ah [af 13 7 1,aj 14 13] (.cr 0 (ah [bu 20 .eql 14 64,aa 19 20] (cX 19 (bZ [af 21 6 7,aj 22 21] 22 (aA [aM 23 6 9,aQ 8 23 9,bz 9,bS 10,bz 11]) (br (fy [0,1,2,3,4,5,6] [af 24 6 5,aj 25 24,cA 26 25,iD 27 5 4,eH 28 EO 27,I.sG 29 (.t 28) 2 1 false,bJ 30 .geq 26 29] (dA 30 (aA [aM 31 6 9,aQ 8 31 9,bz 9,bS 10,cF 11 29]))) (.mG [] [0,1,3,4,5,2,6,7,8] [af 32 6 5,aj 33 32,fJ 35 7 2,fE 36 35,jf 37 1 1 [.i .i64 0] 36,lJ 34 tN 33,I.sJ 38 (.t 34) (.t 37) 1,af 39 6 5,aQ 39 38 1]))) (ah [bu 41 .eql 14 65,aa 40 41] (cX 40 (bZ [af 42 6 5,aj 43 42,cA 44 43,bM 45 .eql 44] 45 (bZ [af 46 6 7,aj 47 46] 47 (aA [aM 48 6 9,aQ 8 48 9,bz 9,bS 10,bz 11]) (aA [aM 49 6 9,aQ 8 49 9,bz 9,bS 10,cF 11 29])) (ah [af 50 6 5,aj 51 50,I.jm 52 (.t 51) k0 1,aj 53 52,aa 12 53] (ah [af 54 6 5,aj 55 54,I.sl 56 (.t 55) (some (cW 1)) none 1,I.nH 57 tN [.t 56],af 58 6 5,aQ 58 57 1] (aA [aM 59 6 9,aa 60 12,aQ 8 59 9,aa 9 60,ia 10,bz 11])))) (bZ [af 15 6 7,aj 16 15] 16 (aA [aM 17 6 9,aQ 8 17 9,bz 9,bS 10,cF 11 17]) (.cB [af 18 6 7,I.st (.t 18) fR 1 false])))))))) (aA [aM 61 6 9,aQ 8 61 9,bz 9,ia 10,bz 11]))) [.c 8 9 true,.t 9,.t 10,.t 11] false none
def IF:F:=.mk (ah [bp 4 0 2,bp 5 1 4,bp 6 2 9,bp 7 3 5,bS 8] (bZ [af 9 5 2,aj 10 9,bM 11 .eql 10,aa 12 11,bk false 16 12 [af 13 7 1,aj 14 13,bu 15 .eql 14 64] 15] 16 (aA [af 17 6 4,aj 18 17,I.gJ 19 Mo [] [.t 7],cU 20 qL 18 19,aa 8 20]) (aA [aM 21 5 4,aM 22 6 9,aM 23 7 5,jC 24 CU 21 22 23,aa 8 24]))) [.t 8] false none
def Tj:F:=.mk (ah [iS 1 0 4,cm 2 [.s [],.i .i64 0,.i .i64 0,.i .i64 0]] (ah [af 3 1 2,aj 4 3,I.mx 5 (cW 1) (.t 4),af 6 1 2,aQ 6 5 1] (aA [aM 7 1 4,aQ 2 7 4]))) [.c 2 4 true] false none
def Tk:F:=.mk (ah [bp 2 0 5,bS 3] (aA [af 4 2 1,aj 5 4,bu 6 .eql 5 65,aa 7 6,bk false 13 7 [af 8 2 0,aj 9 8,af 10 1 0,aj 11 10,bJ 12 .neq 9 11] 12,aa 3 13])) [.t 3] false none
def Ny:F:=.mk (ah [bp 3 0 2,bp 4 1 4,bp 5 2 9,bS 6] (fy [0,1,2,3,4,5,6,7,8,9,10,11,12,13,14,15,16,17] [I.p5 7 (.t 3) 0 2,fJ 8 7 1,fE 9 8,iD 10 4 4,I.build 11 zR [(0,1,.k (.i .i64 (-1)))],tP 12 9 10 11,bM 13 .eql 12,aa 14 13,bk false 23 14 [I.p5 15 (.t 3) 0 2,fJ 16 15 1,fE 17 16,iD 18 4 4,eH 19 EO 18,iD 20 5 9,tP 21 17 19 20,bM 22 .eql 21] 22,aa 6 23] .ret)) [.t 6] false none
def Fq:C :=ah [bJ 33 .lss 32 31] (br (cX 33 .skip (br (.keep [6,8,14,15]) (.exit 1))) (br (.cr 2 (ah [aa 34 32,aa 16 34] (br (fy [0,1,2,3,4,5,6,7,8,9] [aa 35 14,aa 36 16,dI 37 35 36 2,af 38 37 1,aj 39 38,cA 40 39,iD 41 5 4,eH 42 EO 41,I.sG 43 (.t 42) 2 1 false,bJ 44 .geq 40 43] (dA 44 (ah [aM 45 6 9,aQ 8 45 9,bz 9,bS 10,cF 11 29] (br (.keep [8,9,10,11]) .ret)))) (.mG [] [0,1,2,3,4,5,6,8,9,10,7,11,12,13,14] [aa 46 14,aa 47 16,aa 48 14,aa 49 16,dI 50 48 49 2,af 51 50 1,aj 52 51,fJ 54 7 2,fE 55 54,jf 56 1 1 [.i .i64 0] 55,lJ 53 tN 52,I.sJ 57 (.t 53) (.t 56) 1,dI 58 46 47 2,af 59 58 1,aQ 59 57 1])))) (.cB [bu 60 .add 32 1,aa 32 60])))
def qP:F:=.mk (ah [bp 4 0 2,bp 5 1 4,iS 6 2 9,bp 7 3 5,cm 8 zR,bz 9,bS 10,bz 11] (ah [af 18 6 6,aj 19 18,af 20 7 0,aj 21 20,I.call (some 22) Sd [.t 19,.t 21,.k (.fn EP [] [])],aa 17 22,cg 23 17 0,cg 24 17 1,aa 12 23,aa 13 24] (ah [af 25 6 6,aj 26 25,lJ 27 HR 26,aa 14 27] (ah [bz 15] (br (ah [af 28 7 1,aj 29 28] (.cr 0 (ah [bu 62 .eql 29 69,aa 61 62] (cX 61 (bZ [aa 63 13] 63 (aA [aM 64 6 9,aQ 8 64 9,bz 9,bS 10,cF 11 6]) (.cB [aa 65 14,aa 66 12,af 67 7 0,aj 68 67,I.build 69 [.i .i64 0,.sl 1 true []] [(0,1,.t 68)],jf 70 2 1 [.i .i64 0,.sl 1 true []] 69,I.nH 71 RO [.t 65,.t 66,.t 70],aa 14 71])) (ah [bu 73 .eql 29 71,aa 72 73] (cX 72 (bZ [aa 74 13,dj 75 74] 75 (aA [aM 76 6 9,aQ 8 76 9,bz 9,bS 10,cF 11 20]) (.cB [aa 77 14,aa 78 12,aa 79 12,bu 80 .add 79 1,I.nH 81 HL [.t 77,.t 78,.t 80],aa 14 81])) (ah [bu 83 .eql 29 70,aa 82 83] (cX 82 (bZ [aa 84 13,dj 85 84] 85 (aA [aM 86 6 9,aQ 8 86 9,bz 9,bS 10,cF 11 20]) (bZ [aa 87 14,aa 88 12,dI 89 87 88 2,af 90 89 1,aj 91 90,cA 92 91,bM 93 .eql 92] 93 (aA [aM 94 6 9,aQ 8 94 9,bz 9,bS 10,cF 11 29]) (ah [aa 95 14,aa 96 12,dI 97 95 96 2,af 98 97 1,aj 99 98,I.jm 100 (.t 99) k0 1,aj 101 100,aa 15 101] (.cB [aa 102 14,aa 103 12,aa 104 14,aa 105 12,dI 106 104 105 2,af 107 106 1,aj 108 107,I.sl 109 (.t 108) (some (cW 1)) none 1,I.nH 110 tN [.t 109],dI 111 102 103 2,af 112 111 1,aQ 112 110 1])))) (ah [aa 30 14,cA 31 30,bz 32] (.cr 1 (.loop [5,6,7,8,14,15,31,32] Fq))))))))))) (ah [aa 113 14,af 114 6 6,aQ 114 113 1] (aA [aM 115 6 9,aa 116 15,aQ 8 115 9,aa 9 116,ia 10,bz 11]))))))) [.c 8 9 true,.t 9,.t 10,.t 11] false none
def Nz:F:=.mk (ah [bp 4 0 2,bp 5 1 4,bp 6 2 9,bp 7 3 5,bS 8] (bZ [af 9 7 1,aj 10 9,bu 11 .neq 10 68] 11 (aA [aM 12 5 4,aM 13 6 9,aM 14 7 5,jC 15 CU 12 13 14,aa 8 15]) (aA [af 16 6 6,aj 17 16,I.gJ 18 Mp [] [.t 6,.t 5],cU 19 L5 17 18,dj 20 19,aa 8 20]))) [.t 8] false none
def IG:C :=oX [aa 15 9,aa 16 10,bJ 17 .lss 15 16] 17 .skip (br (.keep [0,1,2,8,9]) (.exit 0)) (.cr 1 (ah [aa 18 9,aa 19 10,bJ 20 .add 18 19,I.kP 21 .u64 (.t 20),I.bin 22 .shr (.t 21) (.k (.i .u64 1)),I.kP 23 .i64 (.t 22),aa 11 23] (ah [aa 24 2,aa 25 0,aa 26 11,dI 27 25 26 2,aM 28 27 2,aa 29 1,tP 30 24 28 29,bM 31 .lss 30] (cX 31 (.cB [aa 32 11,bu 33 .add 32 1,aa 9 33]) (.cB [aa 34 11,aa 10 34])))))
def NA:F:=.mk (ah [bz 6,bS 7] (ah [aa 12 0,cA 13 12,aa 8 13] (ah [aa 14 8,bz 9,aa 10 14] (br (.cr 0 (.loop [0,1,2,8,9,10] IG)) (aA [aa 35 9,aa 36 9,aa 37 8,bJ 38 .lss 36 37,aa 39 38,bk false 48 39 [aa 40 2,aa 41 0,aa 42 9,dI 43 41 42 2,aM 44 43 2,aa 45 1,tP 46 40 44 45,bM 47 .eql 46] 47,aa 6 35,aa 7 48]))))) [.t 6,.t 7] false none
def Tl:F:=.mk (ah [bp 2 0 2,bz 4] (aA [af 5 2 0,aj 6 5,aa 7 1,bJ 8 .sub 6 7,aa 4 8])) [.t 4] false none
def Tm:F:=.mk (ah [bp 3 0 2,bS 4] (ah [af 6 1 4,aj 7 6,I.gJ 8 Mq [] [.t 3],cU 9 qL 7 8,aa 5 9] (aA [aa 10 5,dj 11 10,aa 12 11,bk false 19 12 [af 13 3 1,aj 14 13,cA 15 14,af 16 2 2,aj 17 16,bJ 18 .geq 15 17] 18,aa 4 19]))) [.t 4] false none
def Tn:F:=.mk (ah [bp 2 0 5,bS 3] (aA [af 4 2 0,aj 5 4,af 6 1 0,aj 7 6,bJ 8 .eql 5 7,aa 9 8,bk false 13 9 [af 10 2 1,aj 11 10,bu 12 .eql 11 70] 12,aa 3 13])) [.t 3] false none
def Bp:F:=.mk (ah [bp 4 0 2,bp 5 1 4,iS 6 2 9,bp 7 3 5,cm 8 zR,bz 9,bS 10,bz 11] (bZ [af 13 7 4,aj 14 13,af 15 6 2,aj 16 15,bJ 17 .lss 14 16] 17 (aA [aM 18 6 9,aQ 8 18 9,bz 9,bS 10,cF 11 2]) (ah [af 19 7 4,aj 20 19,af 21 6 2,aj 22 21,bJ 23 .sub 20 22,af 24 5 3,aj 25 24,bJ 26 .quo 23 25,aa 12 26] (oX [aa 27 12,af 28 5 2,aj 29 28,af 30 6 1,aj 31 30,bJ 32 .sub 29 31,bJ 33 .geq 27 32] 33 (.mG [] [0,1,2,3,4,5,6,7] [fJ 34 5 2,fE 35 34,fJ 36 7 4,fE 37 36,af 38 6 1,aQ 38 35 1,af 39 6 2,aQ 39 37 1]) (.mG [] [0,1,2,3,4,5,6,7,8,9,10,11,12,13,14] [af 40 6 1,aj 41 40,aa 42 12,bJ 43 .add 41 42,af 44 6 2,aj 45 44,aa 46 12,fJ 47 5 3,fE 48 47,bJ 49 .mul 46 48,bJ 50 .add 45 49,af 51 6 1,aQ 51 43 1,af 52 6 2,aQ 52 50 1]) (bZ [af 53 7 1,aj 54 53,bu 55 .eql 54 72] 55 (bZ [af 56 6 1,aj 57 56,af 58 7 2,aj 59 58,bJ 60 .lss 57 59] 60 (aA [aM 61 6 9,aQ 8 61 9,bz 9,bS 10,cF 11 29]) (.cB [af 62 6 1,aj 63 62,af 64 7 2,aj 65 64,bJ 66 .sub 63 65,af 67 6 1,aQ 67 66 1])) (aA [aM 68 6 9,aQ 8 68 9,bz 9,ia 10,bz 11])))))) [.c 8 9 true,.t 9,.t 10,.t 11] false none
def To:F:=.mk (ah [bp 4 0 2,bp 5 1 4,bp 6 2 9,bp 7 3 5,bS 8] (aA [aM 9 5 4,aM 10 6 9,aM 11 7 5,jC 12 EN 9 10 11,aa 8 12])) [.t 8] false none
def Ft:F:=.mk (ah [bp 4 0 2,bp 5 1 4,iS 6 2 9,bp 7 3 5,cm 8 zR,bz 9,bS 10,bz 11] (br (.cr 0 (ah [af 13 7 1,aj 14 13,bu 15 .eql 14 74,aa 16 15,bk false 20 16 [af 17 6 7,aj 18 17,dj 19 18] 19,aa 12 20] (cX 12 (aA [aM 21 6 9,aQ 8 21 9,bz 9,bS 10,cF 11 29]) (ah [af 23 7 1,aj 24 23,bu 25 .eql 24 74,aa 22 25] (cX 22 (fy [0,1,2,3,4,5,6] [aM 26 6 9,af 27 6 8,aj 28 27,aQ 8 26 9,.re (.fa 27 (.t 6) 8 1),.re (.ld 28 (.t 27) 1 false),aa 9 28,ia 10,bz 11] .ret) (ah [af 30 6 7,aj 31 30,aa 29 31] (dA 29 (aA [aM 32 6 9,aQ 8 32 9,bz 9,bS 10,cF 11 17])))))))) (fy [0,1,2,3,4,5] [fJ 33 7 2,fE 34 33,af 35 6 7,I.st (.t 35) fR 1 false,af 36 6 8,aQ 36 34 1] (aA [aM 37 6 9,aQ 8 37 9,bz 9,ia 10,bz 11])))) [.c 8 9 true,.t 9,.t 10,.t 11] false none
def Tp:F:=.mk (ah [bp 4 0 2,bp 5 1 4,bp 6 2 9,bp 7 3 5,bS 8] (aA [aM 9 5 4,aM 10 6 9,aM 11 7 5,jC 12 CU 9 10 11,aa 8 12])) [.t 8] false none
def Yk:F:=⟨.skip,[],true,some (mh 1)⟩
def Yl:F:=⟨.skip,[],true,some (mh 2)⟩
def Ym:F:=⟨.skip,[],true,some (mh 5)⟩
def NB:List (Nat×F):=[(12,HY),(13,Mv),(14,Sg),(15,dn),(18,Sh),(20,CW),(23,vY),(27,ER),(29,Mw),(35,Si),(36,Sj),(37,vZ),(38,yf),(45,Sk),(57,HZ),(58,yg),(62,ET),(63,EU),(64,zC),(65,H6),(66,ac1),(67,EV),(68,EW),(69,ig),(70,yh),(71,ac2),(72,Mx),(73,uR),(74,zD),(75,CX),(76,ac3),(77,My),(78,uS),(79,zE),(80,H9),(81,ac4),(82,Mz),(83,EZ),(84,jw),(85,Ia),(86,ac5),(87,MA),(88,CY),(89,nK),(90,Ib),(91,ac6),(92,MB),(93,uT),(94,zF),(95,Ig),(96,ac7),(97,MC),(98,E1),(99,CZ),(100,Ih),(101,ac8),(102,Sl),(123,E2),(125,E4),(126,Sm),(127,ME),(128,Sn),(129,MF),(20129,MG),(130,E5),(131,MH),(132,E6),(133,So),(134,MI),(135,E7),(136,MJ),(137,nL),(138,MK),(139,Sq),(140,Bf),(141,nM),(142,zG),(143,E8),(144,Bg),(145,ML),(146,E9),(147,MM),(148,Ss),(149,MN),(150,MO),(151,MP),(152,Su),(153,qN),(10153,MQ),(154,Sv),(155,MR),(156,v8),(157,Sw),(158,Sx),(159,Sy),(160,MS),(161,Fb),(162,Sz),(163,MX),(164,v9),(165,SA),(166,SB),(167,MY),(168,MZ),(169,SC),(170,Fe),(171,yj),(172,uU),(173,SD),(174,SE),(175,M0),(176,Bj),(177,Io),(178,Ff),(179,Bk),(180,M1),(181,SF),(182,M3),(183,zH),(184,SG),(185,M4),(186,M6),(187,Ip),(206,SH),(207,Fg),(208,M7),(209,Iq),(210,SI),(211,Ir),(20211,M9),(30211,SJ),(212,Is),(213,tQ),(214,rU),(10214,Na),(215,SK),(216,C2),(217,SL),(20217,SM),(218,It),(219,SN),(220,SO),(221,SP),(222,SQ),(223,SR),(224,Nd),(225,Nf),(226,SS),(227,Ng),(228,Nh),(229,zI),(230,uV),(231,rV),(232,oY),(233,Fj),(234,Bl),(235,SU),(236,Bm),(238,SV),(239,SX),(240,Ni),(241,SY),(242,SZ),(243,S1),(244,S2),(245,S3),(246,Nk),(247,S4),(248,Nl),(249,Iw),(257,S5),(258,Nm),(259,S6),(261,S7),(262,Iz),(20262,Fl),(264,Fm),(265,IA),(266,Fo),(267,S8),(268,Fp),(269,No),(270,C4),(271,C5),(272,Bn),(274,ade),(275,S9),(276,Ta),(277,Nq),(278,Tb),(281,IB),(283,adf),(284,Nr),(285,Ns),(287,adg),(288,Tc),(289,IC),(290,Td),(291,adh),(292,adi),(293,adj),(294,adl),(295,adn),(296,adp),(312,C6),(313,Te),(314,Nt),(315,Bo),(316,Tf),(317,Nu),(318,Tg),(319,we),(320,Th),(321,Nv),(322,C7),(323,Nw),(324,ID),(325,IE),(326,Ti),(327,Nx),(328,wg),(329,IF),(330,Tj),(331,Tk),(332,Ny),(333,qP),(334,Nz),(335,NA),(336,Tl),(337,Tm),(338,Tn),(339,Bp),(340,To),(341,Ft),(342,Tp)]
def P:Prog:=λn=>match NB.lookup n with
 |some F=>some F
 |none=>match n with
  | 263=>some Yk
  | 237=>some Yl
  | 260=>some Ym
  |_=>none
theorem Yn:P EC=some HY:=rfl
theorem adq:P Q8=some Mv:=rfl
theorem adr:P Lo=some Sg:=rfl
theorem zJ:P uM=some dn:=rfl
theorem ads:P ED=some Sh:=rfl
theorem Yo:P EE=some CW:=rfl
theorem adt:P Lp=some vY:=rfl
theorem Yp:P x7=some ER:=rfl
theorem Yq:P Lq=some Mw:=rfl
theorem adu:P A4=some Si:=rfl
theorem adw:P Q9=some Sj:=rfl
theorem zK:P qK=some vZ:=rfl
theorem Bq:P x8=some yf:=rfl
theorem adx:P HC=some Sk:=rfl
theorem Tq:P qL=some HZ:=rfl
theorem ady:P HD=some yg:=rfl
theorem Yr:P sM=some ET:=rfl
theorem Ys:P oS=some EU:=rfl
theorem C8:P A5=some zC:=rfl
theorem Tr:P EF=some H6:=rfl
theorem Yt:P sN=some EV:=rfl
theorem Yu:P jB=some EW:=rfl
theorem oZ:P oT=some ig:=rfl
theorem Fu:P A6=some yh:=rfl
theorem adz:P tF=some Mx:=rfl
theorem Yv:P p8=some uR:=rfl
theorem Ts:P zu=some zD:=rfl
theorem Yw:P CN=some CX:=rfl
theorem adA:P tG=some My:=rfl
theorem Yx:P nJ=some uS:=rfl
theorem Yy:P A7=some zE:=rfl
theorem adB:P Lr=some H9:=rfl
theorem adC:P tH=some Mz:=rfl
theorem Yz:P gn=some EZ:=rfl
theorem kA:P iR=some jw:=rfl
theorem adD:P Ls=some Ia:=rfl
theorem adE:P tJ=some MA:=rfl
theorem adF:P rS=some CY:=rfl
theorem Fv:P uN=some nK:=rfl
theorem adG:P HE=some Ib:=rfl
theorem adH:P tK=some MB:=rfl
theorem YA:P ng=some uT:=rfl
theorem YB:P zw=some zF:=rfl
theorem adI:P Lt=some Ig:=rfl
theorem adJ:P tL=some MC:=rfl
theorem YC:P oU=some E1:=rfl
theorem YD:P A8=some CZ:=rfl
theorem adK:P Lu=some Ih:=rfl
theorem adL:P Lv=some Sl:=rfl
theorem NC:P x9=some E2:=rfl
theorem YE:P Lw=some E4:=rfl
theorem adM:P Ra=some Sm:=rfl
theorem YF:P HF=some ME:=rfl
theorem adN:P Lz=some Sn:=rfl
theorem YG:P vW=some MF:=rfl
theorem adO:P Rb=some MG:=rfl
theorem YH:P LA=some E5:=rfl
theorem YI:P EG=some MH:=rfl
theorem YJ:P jd=some E6:=rfl
theorem adP:P HG=some So:=rfl
theorem adQ:P LB=some MI:=rfl
theorem YK:P EH=some E7:=rfl
theorem YL:P CO=some MJ:=rfl
theorem o7:P Yi=some nL:=rfl
theorem adR:P Rc=some MK:=rfl
theorem adS:P LC=some Sq:=rfl
theorem Fw:P tM=some Bf:=rfl
theorem o8:P Re=some nM:=rfl
theorem ND:P qM=some zG:=rfl
theorem adT:P Rf=some E8:=rfl
theorem adU:P Rg=some Bg:=rfl
theorem adV:P Rh=some ML:=rfl
theorem adW:P LD=some E9:=rfl
theorem adX:P Ri=some MM:=rfl
theorem adY:P Rj=some Ss:=rfl
theorem adZ:P Rk=some MN:=rfl
theorem ad0:P LF=some MO:=rfl
theorem ad1:P HH=some MP:=rfl
theorem ad2:P Rl=some Su:=rfl
theorem NF:P sO=some qN:=rfl
theorem ad3:P Rn=some MQ:=rfl
theorem ad4:P Ro=some Sv:=rfl
theorem YM:P HI=some MR:=rfl
theorem YN:P LG=some v8:=rfl
theorem ad5:P Rq=some Sw:=rfl
theorem ad6:P Rr=some Sx:=rfl
theorem ad7:P Rs=some Sy:=rfl
theorem YO:P HJ=some MS:=rfl
theorem Tt:P HK=some Fb:=rfl
theorem ad8:P Rt=some Sz:=rfl
theorem ad9:P Ru=some MX:=rfl
theorem aea:P Rv=some v9:=rfl
theorem aeb:P LH=some SA:=rfl
theorem aec:P Rw=some SB:=rfl
theorem aed:P Rx=some MY:=rfl
theorem aee:P Rz=some MZ:=rfl
theorem aef:P zx=some SC:=rfl
theorem YP:P HL=some Fe:=rfl
theorem aeg:P EI=some yj:=rfl
theorem aeh:P RA=some uU:=rfl
theorem aei:P HM=some SD:=rfl
theorem aej:P A9=some SE:=rfl
theorem aek:P LI=some M0:=rfl
theorem ael:P LJ=some Bj:=rfl
theorem YQ:P LL=some Io:=rfl
theorem YR:P LM=some Ff:=rfl
theorem YS:P LN=some Bk:=rfl
theorem aem:P RB=some M1:=rfl
theorem aen:P RC=some SF:=rfl
theorem YT:P HN=some M3:=rfl
theorem YU:P LO=some zH:=rfl
theorem aeo:P LP=some SG:=rfl
theorem YV:P HO=some M4:=rfl
theorem aep:P RD=some M6:=rfl
theorem aer:P RE=some Ip:=rfl
theorem aes:P LQ=some SH:=rfl
theorem Tu:P HP=some Fg:=rfl
theorem YW:P LR=some M7:=rfl
theorem Tv:P LS=some Iq:=rfl
theorem aet:P LU=some SI:=rfl
theorem YX:P LV=some Ir:=rfl
theorem aeu:P RF=some M9:=rfl
theorem aev:P RG=some SJ:=rfl
theorem Tw:P uO=some Is:=rfl
theorem YY:P LW=some tQ:=rfl
theorem Tx:P tN=some rU:=rfl
theorem aew:P RH=some Na:=rfl
theorem aex:P RI=some SK:=rfl
theorem II:P ya=some C2:=rfl
theorem aey:P RJ=some SL:=rfl
theorem aez:P RK=some SM:=rfl
theorem Tz:P EJ=some It:=rfl
theorem aeA:P RL=some SN:=rfl
theorem aeB:P LX=some SO:=rfl
theorem aeC:P LY=some SP:=rfl
theorem aeD:P LZ=some SQ:=rfl
theorem aeE:P L0=some SR:=rfl
theorem aeF:P L1=some Nd:=rfl
theorem aeG:P RM=some Nf:=rfl
theorem aeH:P HQ=some SS:=rfl
theorem aeI:P RN=some Ng:=rfl
theorem YZ:P L2=some Nh:=rfl
theorem IJ:P Ba=some zI:=rfl
theorem IK:P zy=some uV:=rfl
theorem wh:P sP=some rV:=rfl
theorem wj:P p9=some oY:=rfl
theorem NG:P CP=some Fj:=rfl
theorem NH:P Bb=some Bl:=rfl
theorem aeJ:P L3=some SU:=rfl
theorem Y0:P HR=some Bm:=rfl
theorem aeK:P L4=some SV:=rfl
theorem aeL:P RP=some SX:=rfl
theorem Y1:P HS=some Ni:=rfl
theorem aeM:P L5=some SY:=rfl
theorem aeN:P L6=some SZ:=rfl
theorem aeO:P HT=some S1:=rfl
theorem aeP:P L7=some S2:=rfl
theorem aeQ:P HU=some S3:=rfl
theorem aeR:P RQ=some Nk:=rfl
theorem aeS:P L8=some S4:=rfl
theorem Y2:P L9=some Nl:=rfl
theorem Y3:P Ma=some Iw:=rfl
theorem aeT:P RS=some S5:=rfl
theorem aeU:P EK=some Nm:=rfl
theorem aeV:P RT=some S6:=rfl
theorem aeW:P RU=some S7:=rfl
theorem TC:P RW=some Iz:=rfl
theorem NI:P Mb=some Fl:=rfl
theorem TD:P Bc=some Fm:=rfl
theorem aeX:P Mc=some IA:=rfl
theorem aeY:P Md=some Fo:=rfl
theorem aeZ:P Me=some S8:=rfl
theorem TE:P EL=some Fp:=rfl
theorem Y4:P CQ=some No:=rfl
theorem IL:P uP=some C4:=rfl
theorem NJ:P CR=some C5:=rfl
theorem TF:P yc=some Bn:=rfl
theorem ae0:P Mf=some S9:=rfl
theorem ae1:P HV=some Ta:=rfl
theorem ae2:P RY=some Nq:=rfl
theorem ae3:P Mg=some Tb:=rfl
theorem TG:P Bd=some IB:=rfl
theorem Y5:P HW=some Nr:=rfl
theorem Y6:P CT=some Ns:=rfl
theorem ae4:P Mh=some Tc:=rfl
theorem Y7:P Mi=some IC:=rfl
theorem ae5:P EM=some Td:=rfl
theorem IM:P vX=some C6:=rfl
theorem ae6:P oW=some Te:=rfl
theorem ae7:P yd=some Nt:=rfl
theorem ae8:P Mj=some Bo:=rfl
theorem ae9:P R2=some Tf:=rfl
theorem afa:P EN=some Nu:=rfl
theorem afb:P CU=some Tg:=rfl
theorem afc:P Mk=some we:=rfl
theorem afd:P R3=some Th:=rfl
theorem afe:P R5=some Nv:=rfl
theorem aff:P Ml=some C7:=rfl
theorem afg:P R6=some Nw:=rfl
theorem afh:P R7=some ID:=rfl
theorem afi:P Mm=some IE:=rfl
theorem afj:P R8=some Ti:=rfl
theorem afk:P R9=some Nx:=rfl
theorem afl:P Mn=some wg:=rfl
theorem afm:P Sa=some IF:=rfl
theorem afn:P EO=some Tj:=rfl
theorem afo:P Mo=some Tk:=rfl
theorem afp:P Sb=some Ny:=rfl
theorem IN:P CV=some qP:=rfl
theorem afq:P Sc=some Nz:=rfl
theorem Y8:P Sd=some NA:=rfl
theorem afr:P EP=some Tl:=rfl
theorem afs:P Mp=some Tm:=rfl
theorem aft:P Mq=some Tn:=rfl
theorem afu:P Mr=some Bp:=rfl
theorem afv:P Se=some To:=rfl
theorem afw:P Ms=some Ft:=rfl
theorem afx:P Sf=some Tp:=rfl
theorem NL:P RX=some Yk:=rfl
theorem Y9:P RO=some Yl:=rfl
theorem afy:P Yj=some Ym:=rfl
end Go.VS
namespace Go.VS.Sp
abbrev I'(n:Int):D:=.i .i64 n
structure W where
 task:Int
 op:Int
 value:Int
 prio:Int
 case:Int
 deriving DecidableEq
@[simp] theorem W.eta(w:W):W.mk w.task w.op w.value w.prio w.case=w:=rfl
def W.row(w:W):List D:=[I' w.task,I' w.op,I' w.value,I' w.prio,I' w.case]
def kR(w:W):Bool:=(decide (w.task<0)||decide (16<=w.task)||decide (w.op<1)||decide (99<w.op)||decide (w.value < -1099511627776)||decide (1099511627776<w.value))
def dU(w:W):Bool:=!kR w&&(decide (0<=w.prio)&&decide (w.prio<=9)&&decide (-1<=w.case)&&decide (w.case<6))
theorem Fx(a b c d e:Int):ev P (.call EJ [.d (.ag [I' a,I' b,I' c,I' d,I' e])] [])=some (.val (.d (.b (dU ⟨a,b,c,d,e⟩))) []):=by
 rw[au Tz rfl];cases h:kR ⟨a,b,c,d,e⟩<;>simp only[dU,h]<;>unfold kR at h<;>simp[It,W.row,h]
def fT(d:Int)(prev:Option W):List W->Int
 | []=>0
 |w::r=>if dU w=false then 2 else if d=2/\(prev.any λp=>decide (p.prio<w.prio))=true then 9 else fT d (some w) r
theorem wm:IntKind.i64.wrap 1=1:=by decide
theorem Fy(d:Int)(nl:Bool)(l:List W)(hn:l.length<=96):∀(suf pre:List W),l=pre++suf ->
  ev P (.loop 0 [0,1,16,17,18] v7 [(0,.d (I' d)),(1,.d (.sl 5 nl (l.map W.row))),(16,.d (.sl 5 nl (l.map W.row))),(17,.d (I' l.length)),(18,.d (I' pre.length))] []) =
   if fT d pre.getLast? suf=0 then some (.out (.exit 0) [] [])else some (.out .ret [(4,.d (I' (fT d pre.getLast? suf)))] []):=by
 intro suf;induction suf with
 |nil =>
  intro pre hl
  have:l.length=pre.length:=by simp[hl]
  rw[bY]
  conv=>lhs;arg 4;unfold v7
  simp[this,fT]
 |cons w suf ih =>
  intro pre hl;have hg:l[pre.length]?=some w:=by simp[hl]
  have hlt:(pre.length:Int)<l.length:=by simp[hl];omega
  rw[bY]
  conv=>lhs;arg 4;unfold v7
  simp[hlt,hg,W.row,Fx];cases hv:dU w
  .simp[fT,hv]
  .simp
   have hnext:IntKind.i64.wrap ((pre.length:Int)+1)=pre.length+1:=wrap_i64 (by omega) (by omega)
   have bE:=ih (pre++[w]) (by simp[hl])
   simp at bE;rcases AN pre with rfl |⟨pre',p,rfl⟩
   .simp[fT,hv,wm]at *
    exact bE
   .have mH:l[pre'.length]?=some p:=by simp[hl]
    have hlen:((pre'.length:Int)+1<l.length):=by simp[hl];omega
    have hw:IntKind.i64.wrap ((pre'.length:Int)+1 - 1)=pre'.length:=by rw[wrap_i64 (by omega) (by omega)];omega
    have h0:(0:Int)<pre'.length+1:=by omega
    have dV:IntKind.i64.wrap (pre'.length:Int)=pre'.length:=wrap_i64 (by omega) (by omega)
    have jV:IntKind.i64.wrap ((pre'.length:Int)+1+1)=pre'.length+1+1:=wrap_i64 (by omega) (by omega)
    simp at bE;by_cases hd:d=2
    .by_cases hp:p.prio<w.prio
     .subst hd
      simp[fT,hv,hp,dV,jV,mH,W.row,h0]
     .subst hd
      simp[fT,hv,hp,dV,jV,mH,W.row,h0];exact bE
    .have hd2:(d==2)=false:=by simp[hd]
     simp[fT,hv,hd,hd2,dV,jV,mH,W.row,h0];exact bE
def dY(l:List W):Int:=if 96<l.length then 4 else fT 1 none l
theorem uW(nl:Bool)(l:List W):ev P (.call qM [.d (I' 1),.d (.sl 5 nl (l.map W.row))] []) =
  some (.val (.d (I' (dY l))) []):=by
 unfold dY;rw[au ND rfl];by_cases h:96<l.length
 .have h':(96:Int)<l.length:=by omega
  simp[zG,h,h']
 .have h':¬(96:Int)<l.length:=by omega
  have hl:=Fy 1 nl l (by omega) l [] rfl
  simp at hl;simp[zG,h,h',hl];by_cases hc:fT 1 none l=0<;>simp[hc]
theorem zL:∀(ds:List D),eY (ds.map V.d)=some ds
 | []=>rfl
 |d::ds=>by simp[zL ds]
theorem oy{a b:List D}{x:D}:eY (a.map V.d++.d x::b.map V.d)=some (a++x::b):=by
 have:=zL (a++x::b);simpa using this
def idx{α:Type}(p:α->Bool):Int->List α->Int
 |_,[]=>-1
 |k,w::r=>if p w then k else idx p (k+1) r
theorem TH{f:Nat}{first caps:List D}{p:W->Bool}(nl:Bool)(l:List W)(hn:l.length<=1000000)
  (hp:∀a b c d e,ev P (.call f (first.map V.d++[.d (.ag [I' a,I' b,I' c,I' d,I' e])]++caps.map V.d) [])=some (.val (.d (.b (p ⟨a,b,c,d,e⟩))) [])):
  ∀(suf pre:List W),l=pre++suf ->
  ev P (.loop 0 [0,1,7,8] v5 [(0,.d (.sl 5 nl (l.map W.row))),(1,.d (.fn f first caps)),(7,.d (I' l.length)),(8,.d (I' pre.length))] []) =
   if idx p pre.length suf = -1 then some (.out (.exit 0) [] [])else some (.out .ret [(4,.d (I' (idx p pre.length suf)))] []):=by
 intro suf;induction suf with
 |nil =>
  intro pre hl
  have:l.length=pre.length:=by simp[hl]
  rw[bY]
  conv=>lhs;arg 4;unfold v5
  simp[this,idx]
 |cons w suf ih =>
  intro pre hl;have hg:l[pre.length]?=some w:=by simp[hl]
  have hlt:(pre.length:Int)<l.length:=by simp[hl];omega
  have hnext:IntKind.i64.wrap ((pre.length:Int)+1)=pre.length+1:=wrap_i64 (by omega) (by omega)
  have bE:=ih (pre++[w]) (by simp[hl])
  simp at bE hp;rw[bY]
  conv=>lhs;arg 4;unfold v5
  simp[hlt,hg,W.row,hp,oy];cases hw:p w
  .simp[idx,hw,hnext]
   exact bE
  .have:¬(pre.length:Int) = -1:=by omega
   simp[idx,hw,this]
theorem IP{f:Nat}{first caps:List D}{p:W->Bool}(nl:Bool)(l:List W)(hn:l.length<=1000000)
  (hp:∀a b c d e,ev P (.call f (first.map V.d++[.d (.ag [I' a,I' b,I' c,I' d,I' e])]++caps.map V.d) [])=some (.val (.d (.b (p ⟨a,b,c,d,e⟩))) [])):
  ev P (.call x9 [.d (.sl 5 nl (l.map W.row)),.d (.fn f first caps)] [])=some (.val (.d (I' (idx p 0 l))) []):=by
 rw[au NC rfl];have hl:=TH nl l hn hp l [] rfl;simp at hl;simp[E2,hl];by_cases hc:idx p 0 l = -1<;>simp[hc]
theorem Br{α:Type}{p:α->Bool}:∀{l:List α}{k:Int},0<=k->(0<=idx p k l↔l.any p=true)
 | [],k,_=>by simp[idx]
 |w::r,k,hk=>by
  by_cases hw:p w=true
  .simp[idx,hw,hk]
  .simp[idx,hw,Br (l:=r) (k:=k+1) (by omega)]
theorem wq{f:Nat}{first caps:List D}{p:W->Bool}(nl:Bool)(l:List W)(hn:l.length<=1000000)
  (hp:∀a b c d e,ev P (.call f (first.map V.d++[.d (.ag [I' a,I' b,I' c,I' d,I' e])]++caps.map V.d) [])=some (.val (.d (.b (p ⟨a,b,c,d,e⟩))) [])):
  ev P (.call qL [.d (.sl 5 nl (l.map W.row)),.d (.fn f first caps)] [])=some (.val (.d (.b (l.any p))) []):=by
 rw[au Tq rfl];have hi:=IP nl l hn hp;simp[HZ,hi];have:=Br (p:=p) (l:=l) (k:=0) (by omega)
 cases ha:l.any p
 .have hc:¬0<=idx p 0 l:=λh=>by rw[this.1 h]at ha;cases ha
  simp[hc]
 .have hc:0<=idx p 0 l:=this.2 ha
  simp[hc]
abbrev bW(l:List Int):List (List D):=l.map λx=>[I' x]
abbrev hD(n:Bool)(l:List Int):D:=.sl 1 n (bW l)
abbrev qD(n:Bool)(l:List W):D:=.sl 5 n (l.map W.row)
def lK(es:Nat)(z:V):List (List D)->V
 | []=>z
 |r::rs=>.aR 0 0 (r::rs).length
def lM(es:Nat):List (List D)->List O
 | []=>[]
 |r::rs=>[.aI es true (r::rs)]
theorem aZ{α β:Type}{f:α->β}{r:List α}:List.take r.length (r.map f)=r.map f:=gD (by simp)
theorem cG{α β:Type}{f:α->β}{r:List α}:List.drop (r.length+1) (r.map f)=[]:=qB (by simp)
def jg(q:List W)(t:Int):Int×Bool:=match q.findIdx? (λw=>w.task==t)with |some i=>(i,true) |none=>(0,false)
theorem TI(nl:Bool)(l:List W)(t:Int)(hn:l.length<=1000000):∀(suf pre:List W),l=pre++suf ->
  ev P (.loop 0 [1,8,9,10] C0 [(1,.d (I' t)),(8,.d (qD nl l)),(9,.d (I' l.length)),(10,.d (I' pre.length))] []) =
   match suf.findIdx? (λw=>w.task==t)with
   |none=>some (.out (.exit 0) [] [])
   |some k=>some (.out .ret [(4,.d (I' ((pre.length+k:Nat):Int))),(5,.d (.b true))] []):=by
 intro suf;induction suf with
 |nil =>
  intro pre hl
  have:l.length=pre.length:=by simp[hl]
  rw[bY]
  conv=>lhs;arg 4;unfold C0
  simp[this]
 |cons w suf ih =>
  intro pre hl;have hg:l[pre.length]?=some w:=by simp[hl]
  have hlt:(pre.length:Int)<l.length:=by simp[hl];omega
  have hnext:IntKind.i64.wrap ((pre.length:Int)+1)=pre.length+1:=wrap_i64 (by omega) (by omega)
  have bE:=ih (pre++[w]) (by simp[hl])
  simp at bE;rw[bY]
  conv=>lhs;arg 4;unfold C0
  rw[xJ];cases hw:w.task==t
  .simp[hlt,hg,W.row,hw,hnext]
   rw[bE];cases suf.findIdx? (λw=>w.task==t)with
   |none=>rfl
   |some k=>simp;omega
  .simp[hlt,hg,W.row,hw]
theorem jW(nl:Bool)(l:List W)(t:Int)(hn:l.length<=1000000):
  ev P (.call jd [.d (qD nl l),.d (I' t)] [])=some (.val (.tu [.d (I' (jg l t).1),.d (.b (jg l t).2)]) []):=by
 rw[au YJ rfl];have hl:=TI nl l t hn l [] rfl;simp at hl;unfold jg;cases h:l.findIdx? (λw=>w.task==t)with
 |none=>rw[h]at hl;simp[E6,hl]
 |some k=>rw[h]at hl;simp at hl;simp[E6,hl]
theorem wu{q:List W}{t:Int}:(jg q t).2=q.any λw=>w.task==t:=by
 unfold jg;cases h:q.findIdx? (λw=>w.task==t)with
 |none =>
  rw[Kx]at h;symm;rw[oK];intro x hx;rw[h x hx];decide
 |some k =>
  symm;obtain⟨h1,h2⟩:=G5.1 h;exact qC.2 ⟨_,vN _,h2.1⟩
structure K where
 task:Int
 nl:Bool
 log:List Int
 deriving DecidableEq
@[simp] theorem K.eta(w:K):K.mk w.task w.nl w.log=w:=rfl
def K.row(w:K):List D:=[I' w.task,hD w.nl w.log]
abbrev cD(n:Bool)(l:List K):D:=.sl 2 n (l.map K.row)
theorem afz{f:Nat}{first caps:List D}{p:K->Bool}(nl:Bool)(l:List K)(hn:l.length<=1000000)
  (hp:∀a b c,ev P (.call f (first.map V.d++[.d (.ag [I' a,hD b c])]++caps.map V.d) [])=some (.val (.d (.b (p ⟨a,b,c⟩))) [])):
  ∀(suf pre:List K),l=pre++suf ->
  ev P (.loop 0 [0,1,7,8] MD [(0,.d (.sl 2 nl (l.map K.row))),(1,.d (.fn f first caps)),(7,.d (I' l.length)),(8,.d (I' pre.length))] []) =
   if idx p pre.length suf = -1 then some (.out (.exit 0) [] [])else some (.out .ret [(4,.d (I' (idx p pre.length suf)))] []):=by
 intro suf;induction suf with
 |nil =>
  intro pre hl
  have:l.length=pre.length:=by simp[hl]
  rw[bY]
  conv=>lhs;arg 4;unfold MD
  simp[this,idx]
 |cons w suf ih =>
  intro pre hl;have hg:l[pre.length]?=some w:=by simp[hl]
  have hlt:(pre.length:Int)<l.length:=by simp[hl];omega
  have hnext:IntKind.i64.wrap ((pre.length:Int)+1)=pre.length+1:=wrap_i64 (by omega) (by omega)
  have bE:=ih (pre++[w]) (by simp[hl])
  simp at bE;have iT:=hp w.task w.nl w.log;simp at iT;rw[bY]
  conv=>lhs;arg 4;unfold MD
  simp[hlt,hg,K.row,iT,oy];cases hw:p w
  .simp[idx,hw,hnext]
   exact bE
  .have:¬(pre.length:Int) = -1:=by omega
   simp[idx,hw,this]
theorem Za{f:Nat}{first caps:List D}{p:K->Bool}(nl:Bool)(l:List K)(hn:l.length<=1000000)
  (hp:∀a b c,ev P (.call f (first.map V.d++[.d (.ag [I' a,hD b c])]++caps.map V.d) [])=some (.val (.d (.b (p ⟨a,b,c⟩))) [])):
  ev P (.call Lv [.d (.sl 2 nl (l.map K.row)),.d (.fn f first caps)] [])=some (.val (.d (I' (idx p 0 l))) []):=by
 rw[au adL rfl];have hl:=afz nl l hn hp l [] rfl;simp at hl;simp[Sl,hl];by_cases hc:idx p 0 l = -1<;>simp[hc]
theorem Zb{f:Nat}{first caps:List D}{p:K->Bool}(nl:Bool)(l:List K)(hn:l.length<=1000000)
  (hp:∀a b c,ev P (.call f (first.map V.d++[.d (.ag [I' a,hD b c])]++caps.map V.d) [])=some (.val (.d (.b (p ⟨a,b,c⟩))) [])):
  ev P (.call L5 [.d (.sl 2 nl (l.map K.row)),.d (.fn f first caps)] [])=some (.val (.d (.b (l.any p))) []):=by
 rw[au aeM rfl];have hi:=Za nl l hn hp;simp[SY,hi];have:=Br (p:=p) (l:=l) (k:=0) (by omega)
 cases ha:l.any p
 .have hc:¬0<=idx p 0 l:=λh=>by rw[this.1 h]at ha;cases ha
  simp[hc]
 .have hc:0<=idx p 0 l:=this.2 ha
  simp[hc]
def dN(k sz ot:Int):Int:=if(k != 7)=true then 8 else if(decide (sz<0)||decide (100<sz)||ot != 0)=true then 2 else 0
def cq:List D:=[I' 0,I' 0,I' 0,.sl 1 true [],.sl 5 true [],.sl 1 true [],.sl 2 true [],.b false,I' 0]
def gp:List D:=[I' (-1),I' 0,I' 0,.sl 1 true [],.sl 5 true [],.sl 1 true [],.sl 2 true [],.b false,I' 0]
theorem tR(nm:D)(k sz ot:Int):ev P (.call tJ [.d (.ag [nm,I' k,I' sz,I' ot])] []) =
  some (.val (.tu [.d (.ag (if dN k sz ot=0 then gp else cq)),.d (I' (dN k sz ot))]) []):=by
 rw[au adE rfl];unfold dN;cases hk:k != 7
 .cases hb:(decide (sz<0)||decide (100<sz)||ot != 0)<;>simp[MA,hk,hb,gp,cq]
 .simp[MA,hk,cq]
def num(n:Int):Bool:=decide (-1099511627776<=n)&&decide (n<=1099511627776)
theorem TJ(n:Int):ev P (.call L3 [.d (I' n)] [])=some (.val (.d (.b (num n))) []):=by
 rw[au aeJ rfl];unfold num;simp[SU]
theorem afA(t a:Int)(b:Bool)(c:List Int):ev P (.call L4 [.d (.ag [I' a,hD b c]),.d (.ref [I' t])] [])=some (.val (.d (.b (a==t))) []):=by
 rw[au aeK rfl];simp[SV]
def lQ(C:List K)(t:Int):Int:=idx (λc=>c.task==t) 0 C
theorem IQ(d0 d1 d2 d3 d4 d5 d7 d8:D)(cn:Bool)(C:List K)(t:Int)(hn:C.length<=1000000):
  ev P (.call zx [.d (.ag [d0,d1,d2,d3,d4,d5,cD cn C,d7,d8]),.d (I' t)] [])=some (.val (.d (I' (lQ C t))) []):=by
 have hI:=Za (f:=L4) (first:=[]) (caps:=[.ref [I' t]]) (p:=λc=>c.task==t) cn C hn (by intro a b c;simp[afA])
 rw[au aef rfl];unfold lQ;generalize idx (λc:K=>c.task==t) 0 C=r at *
 try simp at hI
 simp[SC,eY,hI]
def iE(Q:List W)(t op:Int):Bool:=Q.any λw=>w.task==t&&w.op==op
theorem afB(t op a b c d e:Int):ev P (.call Mg [.d (.ag [I' a,I' b,I' c,I' d,I' e]),.d (.ref [I' t]),.d (.ref [I' op])] [])=some (.val (.d (.b (a==t&&b==op))) []):=by
 rw[au ae3 rfl];simp[Tb]
theorem Zc(d0 d1 d2 d3 d5 d6 d7 d8:D)(qn:Bool)(Q:List W)(t op:Int)(hn:Q.length<=1000000):
  ev P (.call HT [.d (.ag [d0,d1,d2,d3,qD qn Q,d5,d6,d7,d8]),.d (I' t),.d (I' op)] [])=some (.val (.d (.b (iE Q t op))) []):=by
 have hI:=wq (f:=Mg) (first:=[]) (caps:=[.ref [I' t],.ref [I' op]]) (p:=λw=>w.task==t&&w.op==op) qn Q hn (by intro a b c d e;simp[afB])
 rw[au aeO rfl];unfold iE;generalize (Q.any λw=>w.task==t&&w.op==op)=r at *
 try simp at hI
 simp[S1,eY,hI]
def fl(sz:Int)(C:List K)(Q:List W):Bool:=C.any λc=>(c.log.length:Int)==sz&&!iE Q c.task 70
theorem afC(sz a:Int)(b:Bool)(c:List Int)(d0 d1 d2 d3 d5 d6 d7 d8:D)(qn:Bool)(Q:List W)(hn:Q.length<=1000000):
  ev P (.call L6 [.d (.ag [I' a,hD b c]),.d (.ref [I' sz]),.d (.ref [d0,d1,d2,d3,qD qn Q,d5,d6,d7,d8])] [])=some (.val (.d (.b ((c.length:Int)==sz&&!iE Q a 70))) []):=by
 have hw:=Zc d0 d1 d2 d3 d5 d6 d7 d8 qn Q a 70 hn;rw[au aeN rfl];cases h:(c.length:Int)==sz<;>simp[SZ,h,hw]
theorem NM(sz:Int)(d0 d1 d2 d3 d5 d7 d8:D)(qn:Bool)(Q:List W)(cn:Bool)(C:List K)(hn:Q.length<=1000000)(hc:C.length<=1000000):
  ev P (.call A9 [.d (I' sz),.d (.ag [d0,d1,d2,d3,qD qn Q,d5,cD cn C,d7,d8])] [])=some (.val (.d (.b (fl sz C Q))) []):=by
 have hI:=Zb (f:=L6) (first:=[]) (caps:=[.ref [I' sz],.ref [d0,d1,d2,d3,qD qn Q,d5,cD cn C,d7,d8]]) (p:=λc=>(c.log.length:Int)==sz&&!iE Q c.task 70) cn C hc (by intro a b c;simp[afC,hn])
 rw[au aej rfl];unfold fl;generalize (C.any λc=>(c.log.length:Int)==sz&&!iE Q c.task 70)=r at *
 try simp at hI
 simp[SE,eY,hI]
def lR(sz:Int)(prev:Option K)(c:K):Bool:=decide (c.task<0)||decide (16<=c.task)||prev.any (λp=>decide (c.task<=p.task))||decide (sz<c.log.length)
def vc(sz:Int):Option K->List K->Bool
 |_,[]=>true
 |p,c::r=>!lR sz p c&&(c.log.all num&&vc sz (some c) r)
theorem afD(sz:D)(cn:Bool)(C:List K)(k:Int)(bn:Bool)(l:List Int)(hn:l.length<=1000000):∀(suf pre:List Int),l=pre++suf ->
  ev P (.loop 0 [0,1,9,10,11,47,48,49] MT [(0,.d sz),(1,.d (cD cn C)),(9,.d (cD cn C)),(10,.d (I' C.length)),(11,.d (I' k)),(47,.d (hD bn l)),(48,.d (I' l.length)),(49,.d (I' pre.length))] []) =
   if suf.all num=true then some (.out (.exit 2) [(0,.d sz),(1,.d (cD cn C)),(9,.d (cD cn C)),(10,.d (I' C.length)),(11,.d (I' k))] [])else some (.out .ret [(4,.d (.b false))] []):=by
 intro suf;induction suf with
 |nil =>
  intro pre hl
  have:l.length=pre.length:=by simp[hl]
  rw[bY]
  conv=>lhs;arg 4;unfold MT
  simp[this]
 |cons w suf ih =>
  intro pre hl;have hg:l[pre.length]?=some w:=by simp[hl]
  have hlt:(pre.length:Int)<l.length:=by simp[hl];omega
  have hnext:IntKind.i64.wrap ((pre.length:Int)+1)=pre.length+1:=wrap_i64 (by omega) (by omega)
  have bE:=ih (pre++[w]) (by simp[hl])
  rw[xK];generalize suf.all num=dd at *;simp at bE;rw[bY]
  conv=>lhs;arg 4;unfold MT
  cases hw:num w
  .simp[hlt,hg,TJ,hw]
  .simp[hlt,hg,TJ,hw,hnext]
   exact bE
set_option maxHeartbeats 1000000 in
theorem afE(sz:Int)(cn:Bool)(C:List K)(hn:C.length<=1000000)(ql:∀c∈C,c.log.length<=1000000):∀(suf pre:List K),C=pre++suf ->
  ev P (.loop 0 [0,1,9,10,11] MU [(0,.d (I' sz)),(1,.d (cD cn C)),(9,.d (cD cn C)),(10,.d (I' C.length)),(11,.d (I' pre.length))] []) =
   if vc sz pre.getLast? suf=true then some (.out (.exit 0) [] [])else some (.out .ret [(4,.d (.b false))] []):=by
 intro suf;induction suf with
 |nil =>
  intro pre hl
  have:C.length=pre.length:=by simp[hl]
  rw[bY]
  conv=>lhs;arg 4;unfold MU
  simp[this,vc]
 |cons c suf ih =>
  intro pre hl;have hg:C[pre.length]?=some c:=by simp[hl]
  have hlt:(pre.length:Int)<C.length:=by simp[hl];omega
  have bE:=ih (pre++[c]) (by simp[hl])
  have hN:=afD (I' sz) cn C pre.length c.nl c.log (ql c (by simp[hl])) c.log [] rfl
  have e1:vc sz pre.getLast? (c::suf)=(!lR sz pre.getLast? c&&(c.log.all num&&vc sz (some c) suf)):=rfl;rw[e1];simp only[Xs,Xt,Option.some_or]at bE;generalize vc sz (some c) suf=dd at *;generalize c.log.all num=da at *;simp at bE hN;rw[bY]
  conv=>lhs;arg 4;unfold MU
  have hnext:IntKind.i64.wrap ((pre.length:Int)+1)=pre.length+1:=wrap_i64 (by omega) (by omega)
  cases h1:(decide (c.task<0)||decide (16<=c.task))
  .rcases AN pre with rfl |⟨pre',p,rfl⟩
   .have iK:0<C.length:=by simp[hl]
    have C9:C[0]=c:=by simp[hl]
    cases h2:decide (sz<c.log.length)
    .have hk:lR sz none c=false:=by simp only[lR,h1,h2,Option.any_none,G6]
     simp[wm]at bE hN;cases da
     .simp at hN
      simp[iK,C9,K.row,h1,h2,hk,hN]
     .simp at hN
      simp[iK,C9,K.row,h1,h2,hk,hN,wm];exact bE
    .have hk:lR sz none c=true:=by simp only[lR,h1,h2,Option.any_none,G6,Qb]
     simp[iK,C9,K.row,h1,h2,hk]
   .have mH:C[pre'.length]?=some p:=by simp[hl]
    have hlen:((pre'.length:Int)+1<C.length):=by simp[hl];omega
    have hw:IntKind.i64.wrap ((pre'.length:Int)+1 - 1)=pre'.length:=by rw[wrap_i64 (by omega) (by omega)];omega
    have h0:(0:Int)<pre'.length+1:=by omega
    have Da:(0:Int)<=pre'.length+1:=by omega
    have dV:IntKind.i64.wrap (pre'.length:Int)=pre'.length:=wrap_i64 (by omega) (by omega)
    have jV:IntKind.i64.wrap ((pre'.length:Int)+1+1)=pre'.length+1+1:=wrap_i64 (by omega) (by omega)
    simp only[G7,l6,vO]at hg;simp at bE hN;cases h3:decide (c.task<=p.task)
    .cases h2:decide (sz<c.log.length)
     .have hk:lR sz (some p) c=false:=by simp only[lR,h1,h2,h3,Qc,G6]
      cases da
      .simp at hN
       simp[hlen,hg,mH,dV,h0,Da,K.row,h1,h2,h3,hk,hN]
      .simp at hN
       simp[hlen,hg,mH,dV,h0,Da,K.row,h1,h2,h3,hk,hN,jV];exact bE
     .have hk:lR sz (some p) c=true:=by simp only[lR,h1,h2,h3,Qc,G6,Qb]
      simp[hlen,hg,mH,dV,h0,Da,K.row,h1,h2,h3,hk]
    .have hk:lR sz (some p) c=true:=by simp only[lR,h1,h3,Qc,Qb,Bool.true_or]
     simp[hlen,hg,mH,dV,h0,Da,K.row,h1,h3,hk]
  .have hk:lR sz pre.getLast? c=true:=by simp[lR,h1]
   simp[hlt,hg,K.row,h1,hk]
theorem afF(sz:Int)(cn:Bool)(C:List K)(hn:C.length<=1000000)(ql:∀c∈C,c.log.length<=1000000):
  ev P (.call Rt [.d (I' sz),.d (cD cn C)] [])=some (.val (.d (.b (vc sz none C))) []):=by
 have hL:=afE sz cn C hn ql C [] rfl;rw[au ad8 rfl];generalize hv:vc sz none C=v at *;simp[hv]at hL;cases v<;>simp at hL<;>simp[Sz,hL]
theorem fd_eq{pre:List W}{w:W}{r:List W}:((jg (pre++w::r) w.task).1==(pre.length:Int))=!pre.any (λx=>x.task==w.task):=by
 unfold jg;rw[Xu];cases h:pre.findIdx? (λx=>x.task==w.task)with
 |none =>
  have:pre.any (λx=>x.task==w.task)=false:=by
   rw[oK];rw[Kx]at h;intro x hx;rw[h x hx];decide
  rw[this];simp[xJ]
 |some k =>
  obtain⟨h1,h2⟩:=G5.1 h
  have:pre.any (λx=>x.task==w.task)=true:=qC.2 ⟨_,vN _,h2.1⟩
  rw[this];simp;omega
theorem IS{Q:List W}(h:dY Q=0):Q.length<=96/\∀w,w∈Q->dU w=true:=by
 unfold dY at h;by_cases h1:96<Q.length
 .rw[aN h1]at h;cases h
 .rw[aG h1]at h
  refine⟨by omega,?_⟩
  have:∀(l:List W)(p:Option W),fT 1 p l=0->∀w,w∈l->dU w=true:=by
   intro l;induction l with
   |nil=>simp
   |cons a r ih =>
    intro p h w hw;unfold fT at h;cases hv:dU a
    .rw[hv]at h;simp at h
    .rw[hv]at h
     simp at h;rcases dD.1 hw with e |hw
     .rw[e];exact hv
     .exact ih _ h w hw
  exact this Q none h
theorem sR{w:W}(h:dU w=true):0<=w.task/\w.task<16:=by
 unfold dU kR at h;simp at h;omega
theorem Db{α:Type}{p:α->Bool}:∀(l:List α)(k:Nat),(idx p (k:Int) l = -1/\l.find? p=none)\/∃(i:Nat)(c:α),idx p (k:Int) l=((k+i:Nat):Int)/\l[i]?=some c/\l.find? p=some c
 | [],k=>.inl ⟨rfl,rfl⟩
 |a::l,k=>by
  by_cases ha:p a=true
  .right
   exact⟨0,a,by simp[idx,ha],by simp,by simp[ha]⟩
  .have h:=Db (p:=p) l (k+1)
   have e:((k+1:Nat):Int)=(k:Int)+1:=by omega
   rw[e]at h;rcases h with⟨h1,h2⟩ |⟨i,c,h1,h2,h3⟩
   .left
    exact⟨by simp[idx,ha,h1],by simp[ha,h2]⟩
   .right
    refine⟨i+1,c,?_,by simpa using h2,by simp[ha,h3]⟩
    simp[idx,ha,h1];omega
def mI(C:List K)(t:Int):Option K:=C.find? λc=>c.task==t
theorem TK(C:List K)(t:Int):(lQ C t = -1/\mI C t=none)\/∃(i:Nat)(c:K),lQ C t=(i:Int)/\C[i]?=some c/\mI C t=some c:=by
 have h:=Db (p:=λc:K=>c.task==t) C 0
 simpa[lQ,mI]using h
def uX(C:List K)(w:W):Bool:=match mI C w.task with |some c=>!decide (0<c.log.length)&&w.value==0 |none=>false
def sS(sz:Int)(C:List K)(Q:List W)(w:W):Bool:=if w.op=70 then uX C w else if w.op=68 then fl sz C Q else false
def tq(sz:Int)(C:List K)(Q:List W):List W->List W->Bool
 |_,[]=>true
 |pre,w::r=>!pre.any (λx=>x.task==w.task)&&(w.case == -1&&(sS sz C Q w&&tq sz C Q (pre++[w]) r))
theorem afG(sz:Int)(d0 d1 d2 d3 d5 d7 d8:D)(qn:Bool)(Q:List W)(cn:Bool)(C:List K)(hn:Q.length<=1000000)(hc:C.length<=1000000):∀(suf pre:List W),Q=pre++suf ->
  ev P (.loop 0 [0,3,15,16,17] MW [(0,.d (I' sz)),(3,.d (.ref [d0,d1,d2,d3,qD qn Q,d5,cD cn C,d7,d8])),(15,.d (qD qn Q)),(16,.d (I' Q.length)),(17,.d (I' pre.length))] []) =
   if tq sz C Q pre suf=true then some (.out (.exit 0) [] [])else some (.out .ret [(4,.d (.b false))] []):=by
 intro suf;induction suf with
 |nil =>
  intro pre hl
  have:Q.length=pre.length:=by simp[hl]
  rw[bY]
  conv=>lhs;arg 4;unfold MW
  simp[this,tq]
 |cons w suf ih =>
  intro pre hl;have hg:Q[pre.length]?=some w:=by simp[hl]
  have hlt:(pre.length:Int)<Q.length:=by simp[hl];omega
  have hnext:IntKind.i64.wrap ((pre.length:Int)+1)=pre.length+1:=wrap_i64 (by omega) (by omega)
  have bE:=ih (pre++[w]) (by simp[hl])
  have hF:=jW qn Q w.task hn;have oz:((jg Q w.task).1==(pre.length:Int))=!pre.any (λx=>x.task==w.task):=by rw[hl];exact fd_eq
  have nh:=IQ d0 d1 d2 d3 (qD qn Q) d5 d7 d8 cn C w.task hc;have nN:=NM sz d0 d1 d2 d3 d5 d7 d8 qn Q cn C hn hc;have e1:tq sz C Q pre (w::suf)=(!pre.any (λx=>x.task==w.task)&&(w.case == -1&&(sS sz C Q w&&tq sz C Q (pre++[w]) suf))):=rfl
  rw[e1];generalize tq sz C Q (pre++[w]) suf=dd at *;generalize (jg Q w.task).1=fi at *;generalize (jg Q w.task).2=fb at *;simp at bE;rw[bY]
  conv=>lhs;arg 4;unfold MW
  cases ha:pre.any (λx=>x.task==w.task)
  .rw[ha]at oz
   have rX:(fi != (pre.length:Int))=false:=by simp[bne,oz]
   cases hk:w.case == -1
   .have hk2:(w.case != -1)=true:=by simp[bne,hk]
    simp[hlt,hg,W.row,hF,rX,hk2]
   .have hk2:(w.case != -1)=false:=by simp[bne,hk]
    by_cases gL:w.op=70
    .have NN:(w.op==70)=true:=by simp[gL]
     have e2:sS sz C Q w=uX C w:=by simp[sS,gL]
     rw[e2];rcases TK C w.task with⟨f1,f2⟩ |⟨i,c,f1,f2,f3⟩
     .have e3:uX C w=false:=by simp[uX,f2]
      rw[f1]at nh;simp[hlt,hg,W.row,hF,rX,hk2,gL,nh,e3]
     .have e3:uX C w=(!decide (0<c.log.length)&&w.value==0):=by simp only[uX,f3]
      rw[f1]at nh;rw[e3];have n1:¬((i:Int)<0):=by omega
      cases p1:decide (0<c.log.length)
      .cases p2:w.value==0
       .have p3:(w.value != 0)=true:=by simp[bne,p2]
        simp at p1;simp[hlt,hg,W.row,hF,rX,hk2,gL,nh,n1,f2,K.row,p1,p3]
       .have p3:(w.value != 0)=false:=by simp[bne,p2]
        simp at p1;simp[hlt,hg,W.row,hF,rX,hk2,gL,nh,n1,f2,K.row,p1,p3,hnext];exact bE
      .simp at p1
       simp[hlt,hg,W.row,hF,rX,hk2,gL,nh,n1,f2,K.row,p1]
    .have NN:(w.op==70)=false:=by simp[gL]
     by_cases eR:w.op=68
     .have e2:sS sz C Q w=fl sz C Q:=by simp[sS,eR]
      rw[e2];cases hfl:fl sz C Q
      .rw[hfl]at nN
       simp[hlt,hg,W.row,hF,rX,hk2,eR,nN]
      .rw[hfl]at nN
       simp[hlt,hg,W.row,hF,rX,hk2,eR,nN,hnext];exact bE
     .have TL:(w.op==68)=false:=by simp[eR]
      have e2:sS sz C Q w=false:=by simp[sS,gL,eR]
      rw[e2];simp[hlt,hg,W.row,hF,rX,hk2,NN,TL]
  .rw[ha]at oz
   have rX:(fi != (pre.length:Int))=true:=by simp[bne,oz]
   simp[hlt,hg,W.row,hF,rX]
theorem afH(sz:Int)(d0 d1 d2 d3 d5 d7 d8:D)(qn:Bool)(Q:List W)(cn:Bool)(C:List K)(hn:Q.length<=1000000)(hc:C.length<=1000000):
  ev P (.call Ru [.d (I' sz),.d (.ag [d0,d1,d2,d3,qD qn Q,d5,cD cn C,d7,d8])] [])=some (.val (.d (.b (dY Q==0&&tq sz C Q [] Q))) []):=by
 have hL:=afG sz d0 d1 d2 d3 d5 d7 d8 qn Q cn C hn hc Q [] rfl;have hW:=uW qn Q;rw[au ad9 rfl];generalize tq sz C Q [] Q=v at *;simp at hL;cases hw:dY Q==0
 .have dV:(dY Q != 0)=true:=by simp[bne,hw]
  simp[MX,hW,dV]
 .have dV:(dY Q != 0)=false:=by simp[bne,hw]
  cases v<;>simp at hL<;>simp[MX,hW,dV,hL]
structure S where
 own:Int
 cnt:Int
 time:Int
 hn:Bool
 H:List Int
 qn:Bool
 Q:List W
 bn:Bool
 B:List Int
 cn:Bool
 C:List K
 cl:Bool
 val:Int
 deriving DecidableEq
abbrev S.row(s:S):List D:=[I' s.own,I' s.cnt,I' s.time,hD s.hn s.H,qD s.qn s.Q,hD s.bn s.B,cD s.cn s.C,.b s.cl,I' s.val]
def S.uY(s:S):Bool:=s.cnt != 0||s.time != 0||decide (0<s.H.length+s.B.length)||s.cl||s.val != 0
structure S.sm(s:S):Prop where
 h:s.H.length<=1000000
 b:s.B.length<=1000000
 q:s.Q.length<=1000000
 c:s.C.length<=1000000
 l:∀c∈s.C,c.log.length<=1000000
def S.good(sz:Int)(s:S):Bool:=s.own == -1&&(vc sz none s.C&&(dY s.Q==0&&tq sz s.C s.Q [] s.Q))&&!s.uY
def dX(k sz ot:Int)(s:S):Int:=if dN k sz ot=0 then(if s.good sz then 0 else 1)else dN k sz ot
theorem oA(nm:D)(k sz ot:Int)(s:S)(hs:s.sm):
  ev P (.call rS [.d (.ag [nm,I' k,I' sz,I' ot]),.d (.ag s.row)] [])=some (.val (.d (I' (dX k sz ot s))) []):=by
 have hC:=afF sz s.cn s.C hs.c hs.l;have hQ:=afH sz (I' s.own) (I' s.cnt) (I' s.time) (hD s.hn s.H) (hD s.bn s.B) (.b s.cl) (I' s.val) s.qn s.Q s.cn s.C hs.q hs.c;have hh:=hs.h;have hb:=hs.b;rw[au adF rfl];unfold dX;cases hm:dN k sz ot==0
 .have hm':dN k sz ot≠0:=by simpa using hm
  have hm2:(dN k sz ot != 0)=true:=by simpa using hm'
  simp[CY,tR,hm',hm2,cq]
 .have hm':dN k sz ot=0:=by simpa using hm
  unfold S.good;cases ho:s.own == -1
  .have fA:(s.own != -1)=true:=by simp[bne,ho]
   simp[CY,tR,hm',gp,fA]
  .have fA:(s.own != -1)=false:=by simp[bne,ho]
   cases hv:vc sz none s.C<;>rw[hv]at hC
   .simp[CY,tR,hm',gp,fA,hC]
   .cases hq:(dY s.Q==0&&tq sz s.C s.Q [] s.Q)<;>rw[hq]at hQ
    .simp[CY,tR,hm',gp,fA,hC,hQ]
    .have hw:IntKind.i64.wrap ((s.H.length:Int)+s.B.length)=s.H.length+s.B.length:=wrap_i64 (by omega) (by omega)
     have hd:decide ((0:Int)<(s.H.length:Int)+s.B.length)=decide (0<s.H.length+s.B.length):=by
      rw[y9];simp;omega
     simp[CY,tR,hm',gp,fA,hC,hQ,hw,hd];cases hz:(s.cnt != 0||s.time != 0||decide (0<s.H.length+s.B.length)||s.cl||s.val != 0)
     .have wv:s.uY=false:=hz
      simp[wv]
     .have wv:s.uY=true:=hz
      simp[wv]
def kB(Q:List W):Int:=idx (λw=>w.op==68) 0 Q
def rqo(C:List K)(w:W):Bool:=(w.op==70||w.op==68)&&(if w.op=70 then uX C w else true)
def rq(C:List K):List W->List W->Bool
 |_,[]=>true
 |pre,w::r=>!pre.any (λx=>x.task==w.task)&&(w.case == -1&&(rqo C w&&rq C (pre++[w]) r))
theorem Zd{Q:List W}:decide (kB Q<0)=!Q.any λw=>w.op==68:=by
 have:=Br (p:=λw:W=>w.op==68) (l:=Q) (k:=0) (by omega)
 unfold kB;cases h:Q.any λw=>w.op==68
 .rw[h]at this
  have h2:¬0<=idx (λw:W=>w.op==68) 0 Q:=λx=>by simpa using this.1 x
  simp;omega
 .have:=this.2 h
  simp;omega
def dM(K k sz ot:Int):Int:=if(k != K)=true then 8 else if(sz != 0||ot != 0)=true then 2 else 0
def iU(k sz ot:Int):Int:=if(k != 4)=true then 8 else if(decide (sz<1)||decide (100<sz)||(ot != 0&&ot != 1))=true then 2 else 0
def iF(k sz ot:Int):Int:=if(k != 5)=true then 8 else if(decide (sz<1)||decide (100<sz)||ot != 0)=true then 2 else 0
def gM(k sz ot:Int):Int:=if(k != 6)=true then 8 else if(decide (sz<0)||decide (100<sz)||ot != 0)=true then 2 else 0
def jh(k sz ot:Int):Int:=if(k != 8)=true then 8 else if(decide (sz<1)||decide (100<sz)||decide (ot<1)||decide (1099511627776<ot))=true then 2 else 0
def grow(n:Int):List D:=[I' (-1),I' n,I' 0,.sl 1 true [],.sl 5 true [],.sl 1 true [],.sl 2 true [],.b false,I' 0]
abbrev qQ(e:Int)(r:List D):Option dL:=some (.val (.tu [.d (.ag (if e=0 then r else cq)),.d (I' e)]) [])
theorem NO(nm:D)(k sz ot:Int):ev P (.call sM [.d (.ag [nm,I' k,I' sz,I' ot])] [])=qQ (dM 1 k sz ot) gp:=by
 rw[au Yr rfl];unfold dM;cases hk:k != 1
 .cases hb:(sz != 0||ot != 0)<;>simp[ET,hk,hb,gp,cq]
 .simp[ET,hk,cq]
theorem NP(nm:D)(k sz ot:Int):ev P (.call sN [.d (.ag [nm,I' k,I' sz,I' ot])] [])=qQ (dM 2 k sz ot) gp:=by
 rw[au Yt rfl];unfold dM;cases hk:k != 2
 .cases hb:(sz != 0||ot != 0)<;>simp[EV,hk,hb,gp,cq]
 .simp[EV,hk,cq]
theorem Fz(nm:D)(k sz ot:Int):ev P (.call tL [.d (.ag [nm,I' k,I' sz,I' ot])] [])=qQ (dM 9 k sz ot) gp:=by
 rw[au adJ rfl];unfold dM;cases hk:k != 9
 .cases hb:(sz != 0||ot != 0)<;>simp[MC,hk,hb,gp,cq]
 .simp[MC,hk,cq]
theorem uZ(nm:D)(k sz ot:Int):ev P (.call tF [.d (.ag [nm,I' k,I' sz,I' ot])] [])=qQ (iU k sz ot) (grow sz):=by
 rw[au adz rfl];unfold iU;cases hk:k != 4
 .cases hb:(decide (sz<1)||decide (100<sz)||(ot != 0&&ot != 1))<;>simp[Mx,hk,hb,grow,cq]
 .simp[Mx,hk,cq]
theorem u5(nm:D)(k sz ot:Int):ev P (.call tG [.d (.ag [nm,I' k,I' sz,I' ot])] [])=qQ (iF k sz ot) gp:=by
 rw[au adA rfl];unfold iF;cases hk:k != 5
 .cases hb:(decide (sz<1)||decide (100<sz)||ot != 0)<;>simp[My,hk,hb,gp,cq]
 .simp[My,hk,cq]
theorem FA(nm:D)(k sz ot:Int):ev P (.call tH [.d (.ag [nm,I' k,I' sz,I' ot])] [])=qQ (gM k sz ot) gp:=by
 rw[au adC rfl];unfold gM;cases hk:k != 6
 .cases hb:(decide (sz<0)||decide (100<sz)||ot != 0)<;>simp[Mz,hk,hb,gp,cq]
 .simp[Mz,hk,cq]
theorem u6(nm:D)(k sz ot:Int):ev P (.call tK [.d (.ag [nm,I' k,I' sz,I' ot])] [])=qQ (jh k sz ot) (grow sz):=by
 rw[au adH rfl];unfold jh;cases hk:k != 8
 .cases hb:(decide (sz<1)||decide (100<sz)||decide (ot<1)||decide (1099511627776<ot))<;>simp[MB,hk,hb,grow,cq]
 .simp[MB,hk,cq]
end Go.VS.Sp
