import Derived.Test.YtjpdopldkeodgaaGreatV06
set_option linter.all false
set_option maxHeartbeats 1000000
namespace Go.VS
def Em:Nat:=10
def G7:Nat:=14
def uq:Nat:=15
def KL:Nat:=18
def Ct:Nat:=20
def KM:Nat:=23
def KN:Nat:=29
def Ql:Nat:=31
def Qm:Nat:=32
def KO:Nat:=33
def Qn:Nat:=34
def AG:Nat:=35
def Qo:Nat:=36
def sq:Nat:=37
def xM:Nat:=38
def G8:Nat:=45
def ur:Nat:=57
def sX:Nat:=62
def ql:Nat:=63
def yW:Nat:=64
def W9:Nat:=65
def Xa:Nat:=66
def sY:Nat:=67
def l5:Nat:=68
def pJ:Nat:=69
def Xb:Nat:=70
def Xc:Nat:=71
def uu:Nat:=72
def qZ:Nat:=73
def AH:Nat:=74
def Xd:Nat:=75
def Xe:Nat:=76
def uw:Nat:=77
def oG:Nat:=78
def AI:Nat:=79
def Xf:Nat:=80
def Xg:Nat:=81
def ux:Nat:=82
def gr:Nat:=83
def iM:Nat:=84
def Xh:Nat:=85
def Xi:Nat:=86
def uy:Nat:=87
def su:Nat:=88
def vL:Nat:=89
def Xj:Nat:=90
def Xk:Nat:=91
def uz:Nat:=92
def nU:Nat:=93
def AJ:Nat:=94
def Xl:Nat:=95
def Xm:Nat:=96
def uA:Nat:=97
def qm:Nat:=98
def Cu:Nat:=99
def Xn:Nat:=100
def Xo:Nat:=101
def En:Nat:=102
def G9:Nat:=103
def Cv:Nat:=104
def xN:Nat:=123
def KP:Nat:=125
def Qp:Nat:=126
def He:Nat:=127
def KQ:Nat:=128
def xO:Nat:=129
def acR:Nat:=20129
def KR:Nat:=130
def Eo:Nat:=131
def iU:Nat:=132
def Hf:Nat:=133
def KS:Nat:=134
def Ep:Nat:=135
def Cw:Nat:=136
def Xp:Nat:=137
def Qq:Nat:=138
def KT:Nat:=139
def sZ:Nat:=140
def Qr:Nat:=141
def qo:Nat:=142
def Qt:Nat:=143
def Qu:Nat:=144
def Qv:Nat:=145
def KU:Nat:=146
def Qw:Nat:=147
def Qx:Nat:=148
def Qy:Nat:=149
def KV:Nat:=150
def Hg:Nat:=151
def Qz:Nat:=152
def sv:Nat:=153
def QA:Nat:=10153
def QB:Nat:=154
def KW:Nat:=155
def KX:Nat:=156
def QC:Nat:=157
def QD:Nat:=158
def QE:Nat:=159
def Hh:Nat:=160
def Hi:Nat:=161
def QF:Nat:=162
def QG:Nat:=163
def QH:Nat:=164
def KY:Nat:=165
def QI:Nat:=166
def QJ:Nat:=167
def QK:Nat:=168
def yX:Nat:=169
def Hj:Nat:=170
def Er:Nat:=171
def QL:Nat:=172
def Hl:Nat:=173
def AK:Nat:=174
def KZ:Nat:=175
def K0:Nat:=176
def K1:Nat:=177
def K2:Nat:=178
def K3:Nat:=179
def QM:Nat:=180
def QN:Nat:=181
def K4:Nat:=182
def K5:Nat:=183
def K6:Nat:=184
def K7:Nat:=185
def QO:Nat:=186
def QS:Nat:=187
def K8:Nat:=188
def K9:Nat:=206
def Ho:Nat:=207
def La:Nat:=208
def Lb:Nat:=209
def Lc:Nat:=210
def QT:Nat:=211
def acT:Nat:=20211
def QU:Nat:=30211
def Es:Nat:=212
def Ld:Nat:=213
def s9:Nat:=214
def QV:Nat:=10214
def QW:Nat:=215
def xP:Nat:=216
def QX:Nat:=217
def QY:Nat:=20217
def Et:Nat:=218
def QZ:Nat:=219
def Lf:Nat:=220
def Lg:Nat:=221
def Lh:Nat:=222
def Li:Nat:=223
def Lj:Nat:=224
def Q2:Nat:=225
def Hp:Nat:=226
def Q3:Nat:=227
def Ll:Nat:=228
def AL:Nat:=229
def yY:Nat:=230
def sw:Nat:=231
def pK:Nat:=232
def Cx:Nat:=233
def AM:Nat:=234
def Lm:Nat:=235
def Hq:Nat:=236
def Q4:Nat:=237
def Ln:Nat:=238
def Q5:Nat:=239
def Hr:Nat:=240
def Q6:Nat:=241
def Lo:Nat:=242
def Ht:Nat:=243
def Lp:Nat:=244
def Hu:Nat:=245
def Q7:Nat:=246
def Lq:Nat:=247
def Lr:Nat:=248
def Ls:Nat:=249
def Q8:Nat:=257
def Eu:Nat:=258
def Q9:Nat:=259
def Xq:Nat:=260
def Ra:Nat:=261
def Rb:Nat:=262
def Lt:Nat:=20262
def Rc:Nat:=263
def AN:Nat:=264
def Lu:Nat:=265
def Lv:Nat:=266
def Lw:Nat:=267
def Ev:Nat:=268
def Cy:Nat:=269
def uB:Nat:=270
def Cz:Nat:=271
def xQ:Nat:=272
def acU:Nat:=273
def acV:Nat:=274
def Lz:Nat:=275
def Hv:Nat:=276
def Re:Nat:=277
def LA:Nat:=278
def AO:Nat:=281
def acW:Nat:=282
def acX:Nat:=283
def Hw:Nat:=284
def CC:Nat:=285
def acY:Nat:=286
def acZ:Nat:=287
def LB:Nat:=288
def LC:Nat:=289
def Ew:Nat:=290
def ac0:Nat:=291
def ac1:Nat:=292
def ac2:Nat:=293
def Rf:Nat:=294
def Rg:Nat:=295
def Rh:Nat:=296
def vM:Nat:=312
def xR:Nat:=313
def xS:Nat:=314
def LD:Nat:=315
def LF:Nat:=319
def Ri:Nat:=321
def LG:Nat:=322
def Rj:Nat:=324
def LH:Nat:=325
def Rk:Nat:=327
def LI:Nat:=328
def Ey:Nat:=330
def Rl:Nat:=332
def CD:Nat:=333
def Rn:Nat:=335
def Ez:Nat:=336
def LJ:Nat:=339
def LL:Nat:=341
@[simp] def zR:List D:=[(.i .i64 0),(.i .i64 0),(.i .i64 0),(.sl 1 true []),(.sl 5 true []),(.sl 1 true []),(.sl 2 true []),(.b false),(.i .i64 0)]
@[simp] def zQ:List D:=[(.i .i64 0),(.i .i64 0),(.i .i64 0),(.i .i64 0),(.i .i64 0)]
@[simp] def k0:A:=.k (.i .i64 0)
@[simp] def cu:List D:=[(.i .i64 0),(.i .i64 0),(.i .i64 0),(.sl 1 true []),(.sl 5 true []),(.sl 1 true []),(.sl 2 true []),(.b false),(.i .i64 0),(.b false),(.i .i64 0),(.b false),(.sl 5 true [])]
@[simp] def jE:List D:=[(.i .i64 0),(.i .i64 0),(.i .i64 0),(.b false),(.i .i64 0)]
@[simp] def fP:A:=.k (.b true)
@[simp] def Hx:A:=.k (.b false)
@[simp] def cT(n:Int):A:=.k (.i .i64 n)
instance:Coe I J:=⟨J.op⟩
@[simp] def aa(d x:Nat):J:=.op (.mv d (.t x))
@[simp] def cF(d:Nat)(n:Int):J:=.op (.mv d (cT n))
@[simp] def bu(d:Nat):J:=.op (.mv d k0)
@[simp] def bU(d:Nat):J:=.op (.mv d Hx)
@[simp] def iA(d:Nat):J:=.op (.mv d fP)
@[simp] def aj(d x:Nat):J:=.op (.ld d (.t x) 1 false)
@[simp] def aP(d x n:Nat):J:=.op (.ld d (.t x) n true)
@[simp] def fm(d x:Nat):J:=.op (.sk d (.t x) 1 false)
@[simp] def gS(d x n:Nat):J:=.op (.sk d (.t x) n true)
@[simp] def af(d x o:Nat):J:=.op (.fa d (.t x) o 1)
@[simp] def fD(d x o:Nat):J:=.op (.nS d (.t x) o 1)
@[simp] def aO(x y n:Nat):J:=.op (.st (.t x) (.t y) n false)
@[simp] def ep(x y n:Nat):J:=.op (.st (.t x) (.t y) n true)
@[simp] def bz(d x n:Nat):J:=.op (.box d (.t x) n true)
@[simp] def iN(d x n:Nat):J:=.op (.box d (.t x) n false)
@[simp] def cx(d x:Nat):J:=.op (.len d (.t x) .sl)
@[simp] def cr(d x i:Nat):J:=.op (.ext d (.t x) i)
@[simp] def dz(d x:Nat):J:=.op (.un d .not (.t x))
@[simp] def cL(d x:Nat):J:=.op (.sV d (.t x))
@[simp] def dy(d x i n:Nat):J:=.op (.jk d (.t x) (.t i) n)
@[simp] def cj(d:Nat)(z:List D):J:=.op (.new d z)
@[simp] def dK(d:Nat)(z:List D):J:=.op (.build d z [])
@[simp] def bB(d:Nat)(o:BinOp)(x y:Nat):J:=.op (.bin d o (.t x) (.t y))
@[simp] def br(d:Nat)(o:BinOp)(x:Nat)(n:Int):J:=.op (.bin d o (.t x) (cT n))
@[simp] def bJ(d:Nat)(o:BinOp)(x:Nat):J:=.op (.bin d o (.t x) k0)
@[simp] def xT(d f:Nat):J:=.op (.call (some d) f [])
@[simp] def dS(d f a:Nat):J:=.op (.call (some d) f [.t a])
@[simp] def cZ(d f a b:Nat):J:=.op (.call (some d) f [.t a,.t b])
@[simp] def mR(d f a b c:Nat):J:=.op (.call (some d) f [.t a,.t b,.t c])
@[simp] def pL(d f a:Nat):J:=.op (.jf (some d) f [.t a])
@[simp] def nV(d f a b:Nat):J:=.op (.jf (some d) f [.t a,.t b])
@[simp] def yZ(d f a b c:Nat):J:=.op (.jf (some d) f [.t a,.t b,.t c])
@[simp] def lC(d f a:Nat):J:=.op (.mO (some d) f [.t a])
@[simp] def uC(d x a:Nat):J:=.op (.nR (some d) (.t x) [.t a])
@[simp] def tc(d x a b:Nat):J:=.op (.nR (some d) (.t x) [.t a,.t b])
@[simp] def LM(d x:Nat)(n:Int):J:=.op (.nR (some d) (.t x) [cT n])
@[simp] def bg(o:Bool)(d c:Nat)(l:List J)(x:Nat):J:=.sc o d c l (.t x)
@[simp] def iB(d x y n:Nat):J:=.op (.app d (.t x) (.t y) n)
@[simp] def gT(d x a n:Nat):J:=.op (.sl d (.t x) (some (.t a)) none n)
@[simp] def mS(d x a n:Nat):J:=.op (.sl d (.t x) none (some (.t a)) n)
@[simp] def iu(d e n:Nat)(z:List D)(x:Nat):J:=.op (.lq d e n z [(0,.t x)] true)
@[simp] def ah(l:List J)(b:C):C:=.seq (.cq l) b
@[simp] def eU(p:List Nat)(l:List J)(b:C):C:=.seq (.lu [] p l) b
@[simp] def cS(n:Nat)(a b:C):C:=.ite (.t n) a b
@[simp] def dr(n:Nat)(a:C):C:=.ite (.t n) a .skip
@[simp] def bV(l:List J)(n:Nat)(a b:C):C:=.seq (.seq (.cq l) (.ite (.t n) a .skip)) b
@[simp] def pM(l:List J)(n:Nat)(a b c:C):C:=.seq (.seq (.cq l) (.ite (.t n) a b)) c
@[simp] def aA(l:List J):C:=.seq (.cq l) .ret
@[simp] def aY(a b:C):C:=.seq a b
def LN:C :=ah [bB 72 .lss 71 70] (aY (cS 72 .skip (aY (.keep [2,5,7,9,10,13,41,42,43]) (.exit 2))) (aY (.bY 3 (ah [dy 73 69 71 10,aP 74 73 10,cj 16 [.i .i64 0,.i .i64 0,.i .i64 0,.i .i64 0,.i .i64 0,.i .i64 0,.i .i64 0,.i .i64 0,.b false,.i .i64 0],ep 16 74 10] (.lu [] [0,1,2,3,5,6,7,8,4,9,10,11] [aa 75 9,I.nS 76 (.t 16) 0 5,gS 77 76 5,iu 78 5 1 zQ 77,aa 80 10,I.nS 81 (.t 16) 5 5,gS 82 81 5,iu 83 5 1 jE 82,iB 79 75 78 5,iB 84 80 83 5,aa 9 79,aa 10 84]))) (.cq [br 85 .add 71 1,aa 71 85])))
def Hy:C :=ah [bB 44 .lss 43 42] (aY (cS 44 .skip (aY (.keep [2,9,10]) (.exit 0))) (aY (.bY 1 (ah [dy 45 41 43 5,aP 46 45 5,cj 12 zQ,ep 12 46 5] (aY (eU [0,1,2,3,4,5,6,7,8,9,10,11,12] [fD 48 5 2,fm 49 48,gS 50 2 4,aP 51 7 9,gS 52 12 5,dS 53 KO 52,I.nR (some 54) (.t 49) [.t 50,.t 51,.t 53],aa 47 54,cr 55 47 0,cr 56 47 1,cj 13 cu,.re (.ld 51 (.t 7) 9 true),aO 13 55 13,aa 14 56] (.oD [13])) (bV [aa 57 14,bJ 58 .neq 57,aa 59 58,bg true 63 59 [aP 60 12 5,dS 61 Qm 60,dz 62 61] 62] 63 (aY (.keep [2,5,7,9,10,41,42,43]) (.exit 1)) (aY (eU [0,1,2,3,4,5,6,7] [gS 64 2 4,aP 65 7 9,gS 66 12 5,dS 67 KO 66,gS 68 13 13,I.call (some 69) Qn [.t 64,.t 65,.t 67,.t 68],cx 70 69,bu 71] (.bY 2 (.loop [2,5,7,9,10,13,41,42,43,69,70,71] LN))) (.cq [I.fa 86 (.t 13) 0 9,aP 87 86 9,aO 7 87 9])))))) (.cq [br 88 .add 43 1,aa 43 88])))
def AP:F:=.mk (ah [bz 2 0 4,bU 4] (ah [af 18 2 1,aj 19 18,dS 20 KN 19,aa 17 20,cr 21 17 0,cr 22 17 1,cj 5 [.cM,.cM,.cM,.cM,.cM],ep 5 21 5,aa 6 22] (bV [aa 23 6,dz 24 23,aa 25 24,bg true 29 25 [aa 26 1,cx 27 26,br 28 .gtr 27 30] 28] 29 (aA [xT 30 G7,aa 4 30]) (ah [af 32 5 0,aj 33 32,aP 34 2 4,uC 35 33 34,aa 31 35,cr 36 31 0,cr 37 31 1,cj 7 zR,aO 7 36 9,aa 8 37] (bV [aa 38 8,bJ 39 .neq 38] 39 (aA [xT 40 G7,aa 4 40]) (ah [I.mv 9 (.k (.sl 5 true []))] (ah [I.mv 10 (.k (.sl 5 true []))] (aY (ah [aa 41 1,cx 42 41,bu 43] (.bY 0 (.loop [2,5,7,9,10,41,42,43] Hy))) (aY (aY (.oD [9,10]) (.cq [aa 89 9,cx 90 89,br 91 .gtr 90 1000,aa 92 91,bg true 100 92 [aP 93 2 4,aa 94 9,aa 95 10,mR 96 Ct 93 94 95,aa 97 96,bg false 99 97 [xT 98 G7] 98] 99,aa 4 100])) .ret))))))))) [.t 4] false none
def Ro:F:=.mk (ah [bU 0] (ah [I.build 7 zQ [(0,1,cT 1),(1,1,cT 64),(2,1,cT 5)],I.build 8 zQ [(0,1,cT 2),(1,1,cT 65)],cj 1 zQ,cj 2 zQ,ep 1 7 5,ep 2 8 5] (ah [I.build 9 jE [(0,1,cT 1),(1,1,cT 64),(3,1,fP)],I.build 10 jE [(0,1,cT 2),(1,1,cT 65),(2,1,cT 5),(3,1,fP)],cj 3 jE,cj 4 jE,ep 3 9 5,ep 4 10 5] (ah [xT 12 AG,dS 13 KM 12,aa 11 13,cr 14 11 0,cr 15 11 1,cj 5 zR,ep 5 14 9,aa 6 15] (eU [0,1,2,3,4,5,6,7,8,9,10,11,12,13,14,15,16,17,18,19,20,21,22,23,24,25,26,27,28,29,30,31,32,33,34,35,36,37,38,39,40,41,42,43,44,45] [aa 16 6,bJ 17 .eql 16,aa 18 17,bg false 23 18 [xT 19 AG,gS 20 5 9,gS 21 1 5,mR 22 KL 19 20 21] 22,aa 24 23,bg false 30 24 [xT 25 AG,gS 26 5 9,gS 27 2 5,mR 28 KL 25 26 27,dz 29 28] 29,aa 31 30,bg false 40 31 [xT 32 AG,gS 33 1 5,gS 34 2 5,I.lq 35 5 2 zQ [(0,.t 33),(1,.t 34)] true,gS 36 3 5,gS 37 4 5,I.lq 38 5 2 jE [(0,.t 36),(1,.t 37)] true,mR 39 Ct 32 35 38] 39,aa 41 40,bg false 49 41 [xT 42 AG,gS 43 1 5,iu 44 5 1 zQ 43,gS 45 3 5,iu 46 5 1 jE 45,mR 47 Ct 42 44 46,dz 48 47] 48,aa 50 49,bg false 60 50 [xT 51 AG,gS 52 2 5,gS 53 1 5,I.lq 54 5 2 zQ [(0,.t 52),(1,.t 53)] true,gS 55 4 5,gS 56 3 5,I.lq 57 5 2 jE [(0,.t 55),(1,.t 56)] true,mR 58 Ct 51 54 57,dz 59 58] 59,aa 0 60] .ret))))) [.t 0] false none
def dh:F:=.mk (ah [bz 3 0 4,bz 4 1 9,bz 5 2 5,cj 6 zR,bu 7,bU 8,bu 9] (ah [I.mv 10 (.k (.fn Qo [] []))] (ah [af 19 3 1,aj 20 19,dS 21 sq 20,aa 18 21,cr 22 18 0,cr 23 18 1,aa 11 22,aa 12 23] (bV [aa 24 12,dz 25 24,aa 26 25,bg true 31 26 [af 27 4 4,aj 28 27,cx 29 28,bJ 30 .gtr 29] 30,aa 32 31,bg true 38 32 [aa 33 11,aP 34 3 4,aP 35 4 9,I.inv (some 36) "nursery/spec.abstract" [(101,2,vM),(102,2,vM),(103,2,vM),(104,2,Rj),(105,2,Rk),(106,2,Rl),(107,2,vM),(108,2,vM)] (.t 33) [.t 34,.t 35],dz 37 36] 37] 38 (aA [aa 39 10,LM 40 39 1,cr 41 40 0,cr 42 40 1,cr 43 40 2,cr 44 40 3,aO 6 41 9,aa 7 42,aa 8 43,aa 9 44]) (bV [af 45 5 0,aj 46 45,bJ 47 .lss 46,aa 48 47,bg true 52 48 [af 49 5 0,aj 50 49,br 51 .geq 50 16] 51,aa 53 52,bg true 57 53 [af 54 5 3,aj 55 54,bJ 56 .lss 55] 56,aa 58 57,bg true 62 58 [af 59 5 3,aj 60 59,br 61 .gtr 60 9] 61,aa 63 62,bg true 67 63 [af 64 5 4,aj 65 64,bJ 66 .lss 65] 66,aa 68 67,bg true 72 68 [af 69 5 4,aj 70 69,br 71 .gtr 70 1099511627776] 71] 72 (aA [aa 73 10,LM 74 73 2,cr 75 74 0,cr 76 74 1,cr 77 74 2,cr 78 74 3,aO 6 75 9,aa 7 76,aa 8 77,aa 9 78]) (eU [0,1,3,4,2,5,6,7,8,9,10] [fD 80 3 1,fm 81 80,fD 83 5 1,fm 84 83,lC 82 xM 81,I.pE 85 (.t 82) (.t 84) (.i .i64 0) true [.i],aa 79 85,cr 86 79 0,cr 87 79 1,aa 13 86,aa 12 87] (bV [aa 88 12,dz 89 88] 89 (aA [aa 90 10,LM 91 90 8,cr 92 91 0,cr 93 91 1,cr 94 91 2,cr 95 91 3,aO 6 92 9,aa 7 93,aa 8 94,aa 9 95]) (bV [aa 96 13,br 97 .eql 96 1,aa 98 97,bg false 109 98 [af 99 5 2,aj 100 99,br 101 .lss 100 1,aa 102 101,bg true 108 102 [af 103 5 2,aj 104 103,af 105 3 2,aj 106 105,bB 107 .gtr 104 106] 107] 108,aa 110 109,bg true 123 110 [aa 111 13,br 112 .eql 111 2,aa 113 112,bg false 122 113 [af 114 5 2,aj 115 114,I.bin 116 .lss (.t 115) (.k (.i .i64 (-1099511627776))),aa 117 116,bg true 121 117 [af 118 5 2,aj 119 118,br 120 .gtr 119 1099511627776] 120] 121] 122] 123 (aA [aa 124 10,LM 125 124 2,cr 126 125 0,cr 127 125 1,cr 128 125 2,cr 129 125 3,aO 6 126 9,aa 7 127,aa 8 128,aa 9 129]) (ah [aa 131 11,aP 132 3 4,aP 133 4 9,aP 134 5 5,I.inv (some 135) "nursery/spec.effect" [(101,2,LD),(102,2,LF),(103,2,LG),(104,2,LH),(105,2,LI),(106,2,CD),(107,2,LJ),(108,2,LL)] (.t 131) [.t 132,.t 133,.t 134],aa 130 135,cr 136 130 0,cr 137 130 1,cr 138 130 2,cr 139 130 3,cj 14 zR,ep 14 136 9,aa 15 137,aa 16 138,aa 17 139] (bV [aa 140 17,bJ 141 .neq 140] 141 (aA [aa 142 10,aa 143 17,uC 144 142 143,cr 145 144 0,cr 146 144 1,cr 147 144 2,cr 148 144 3,aO 6 145 9,aa 7 146,aa 8 147,aa 9 148]) (aA [aP 149 14 9,aa 150 15,aa 151 16,aO 6 149 9,aa 7 150,aa 8 151,bu 9]))))))))))) [.c 6 9 true,.t 7,.t 8,.t 9] false none
def Rq:F:=.mk (ah [bz 3 0 4,bz 4 1 9,bz 5 2 5,bU 6] (ah [aP 12 3 4,aP 13 4 9,aP 14 5 5,mR 15 uq 12 13 14,aa 11 15,cr 16 11 0,cr 17 11 1,cr 18 11 2,cr 19 11 3,cj 7 zR,ep 7 16 9,aa 8 17,aa 9 18,aa 10 19] (aA [aa 20 10,bJ 21 .eql 20,aa 6 21]))) [.t 6] false none
def sx:C :=ah [bB 41 .lss 40 39] (aY (cS 41 .skip (aY (.keep [3,7]) (.exit 0))) (aY (.bY 1 (ah [aa 42 40,dy 43 38 40 5,aP 44 43 5,cj 10 zQ,aa 9 42,ep 10 44 5] (ah [aP 46 3 4,aP 47 7 9,aP 48 10 5,mR 49 uq 46 47 48,aa 45 49,cr 50 45 0,cr 51 45 1,cr 52 45 2,cr 53 45 3,cj 11 zR,ep 11 50 9,aa 12 51,aa 13 52,aa 14 53] (aY (eU [0,1,2,3,4,5,6,7,8,9,10,11,12,13,14,15,16,17,18,19,20,21] [aa 54 14,bJ 55 .neq 54,aa 56 55,bg true 65 56 [fD 57 10 0,fm 58 57,aa 59 2,aa 60 9,dy 61 59 60 5,af 62 61 0,aj 63 62,bB 64 .neq 58 63] 64,aa 66 65,bg true 75 66 [fD 67 10 1,fm 68 67,aa 69 2,aa 70 9,dy 71 69 70 5,af 72 71 1,aj 73 72,bB 74 .neq 68 73] 74] (dr 75 (ah [bU 6] (aY (.keep [6]) .ret)))) (aY (eU [0,1,2,3,4,5,6,7,8,9,10,11,12] [aa 76 2,aa 77 9,dy 78 76 77 5,af 79 78 2,aj 80 79,aa 81 2,aa 82 9,dy 83 81 82 5,af 84 83 3,aj 85 84,cZ 86 G8 80 85,cj 15 [.i .i64 0,.i .i64 0],.re (.jk 78 (.t 76) (.t 77) 5),.re (.fa 79 (.t 78) 2 1),.re (.ld 80 (.t 79) 1 false),.re (.jk 83 (.t 81) (.t 82) 5),.re (.fa 84 (.t 83) 3 1),.re (.ld 85 (.t 84) 1 false),aO 15 86 2] (.oD [15])) (eU [0,1,2,3,4,5,6,7,8,9,10,11,12,13] [fD 87 10 1,fm 88 87,br 89 .eql 88 61,aa 90 89,bg false 94 90 [fD 91 3 3,fm 92 91,bJ 93 .eql 92] 93,aa 95 94,bg false 99 95 [gS 96 15 2,I.call (some 97) G8 [k0,Hx],I.eqv 98 false (.t 96) (.t 97) [.i,.i]] 98,aa 16 99] (.bY 2 (eU [0,1,2,3,4,5] [gS 101 15 2,aa 102 12,aa 103 13,cZ 104 G8 102 103,I.eqv 105 false (.t 101) (.t 104) [.i,.i],aa 100 105] (cS 100 (.cq [aP 106 11 9,aO 7 106 9]) (ah [aa 108 16,dz 109 108,aa 107 109] (dr 107 (ah [bU 6] (aY (.keep [6]) .ret))))))))))))) (.cq [br 110 .add 40 1,aa 40 110])))
def CE:F:=.mk (ah [bz 3 0 4,bU 6] (ah [aP 20 3 4,dS 21 KM 20,aa 19 21,cr 22 19 0,cr 23 19 1,cj 7 zR,aO 7 22 9,aa 8 23] (bV [aa 24 8,bJ 25 .neq 24,aa 26 25,bg true 32 26 [aa 27 1,cx 28 27,aa 29 2,cx 30 29,bB 31 .neq 28 30] 31,aa 33 32,bg true 37 33 [aa 34 1,cx 35 34,br 36 .gtr 35 1000] 36] 37 (aA [bU 6]) (aY (ah [aa 38 1,cx 39 38,bu 40] (.bY 0 (.loop [2,3,7,38,39,40] sx))) (ah [af 112 3 1,aj 113 112,dS 114 sq 113,aa 111 114,cr 115 111 0,cr 116 111 1,aa 17 115,aa 18 116] (aA [aa 117 17,aP 118 3 4,aP 119 7 9,I.inv (some 120) "nursery/spec.check" [(101,2,xR),(102,2,xR),(103,2,xR),(104,2,xR),(105,2,xR),(106,2,xR),(107,2,xR),(108,2,xR)] (.t 117) [.t 118,.t 119],bJ 121 .eql 120,aa 6 121])))))) [.t 6] false none
def vN:F:=.mk (ah [bz 1 0 4,cj 2 zR,bu 3] (ah [af 7 1 1,aj 8 7,dS 9 sq 8,aa 6 9,cr 10 6 0,cr 11 6 1,aa 4 10,aa 5 11] (bV [aa 12 5,dz 13 12] 13 (aA [dK 14 zR,aO 2 14 9,cF 3 8]) (aA [aa 15 4,aP 16 1 4,I.inv (some 17) "nursery/spec.start" [(101,2,xS),(102,2,xS),(103,2,xS),(104,2,xS),(105,2,xS),(106,2,xS),(107,2,xS),(108,2,xS)] (.t 15) [.t 16],cr 18 17 0,cr 19 17 1,aO 2 18 9,aa 3 19])))) [.c 2 9 true,.t 3] false none
def LO:F:=.mk (ah [cj 2 [.cM,.cM,.cM,.cM,.cM],bU 3] (aY (ah [aa 4 0] (.bY 0 (ah [br 6 .eql 4 1,aa 5 6] (cS 5 (aA [I.build 7 [.cM,.cM,.cM,.cM,.cM] [(0,1,.k (.fn sX [] [])),(1,1,.k (.fn ql [] [])),(2,1,.k (.fn yW [] [])),(3,1,.k (.fn W9 [] [])),(4,1,.k (.fn Xa [] []))],aO 2 7 5,iA 3]) (ah [br 9 .eql 4 2,aa 8 9] (cS 8 (aA [I.build 10 [.cM,.cM,.cM,.cM,.cM] [(0,1,.k (.fn sY [] [])),(1,1,.k (.fn l5 [] [])),(2,1,.k (.fn pJ [] [])),(3,1,.k (.fn Xb [] [])),(4,1,.k (.fn Xc [] []))],aO 2 10 5,iA 3]) (ah [br 12 .eql 4 4,aa 11 12] (cS 11 (aA [I.build 13 [.cM,.cM,.cM,.cM,.cM] [(0,1,.k (.fn uu [] [])),(1,1,.k (.fn qZ [] [])),(2,1,.k (.fn AH [] [])),(3,1,.k (.fn Xd [] [])),(4,1,.k (.fn Xe [] []))],aO 2 13 5,iA 3]) (ah [br 15 .eql 4 5,aa 14 15] (cS 14 (aA [I.build 16 [.cM,.cM,.cM,.cM,.cM] [(0,1,.k (.fn uw [] [])),(1,1,.k (.fn oG [] [])),(2,1,.k (.fn AI [] [])),(3,1,.k (.fn Xf [] [])),(4,1,.k (.fn Xg [] []))],aO 2 16 5,iA 3]) (ah [br 18 .eql 4 6,aa 17 18] (cS 17 (aA [I.build 19 [.cM,.cM,.cM,.cM,.cM] [(0,1,.k (.fn ux [] [])),(1,1,.k (.fn gr [] [])),(2,1,.k (.fn iM [] [])),(3,1,.k (.fn Xh [] [])),(4,1,.k (.fn Xi [] []))],aO 2 19 5,iA 3]) (ah [br 21 .eql 4 7,aa 20 21] (cS 20 (aA [I.build 22 [.cM,.cM,.cM,.cM,.cM] [(0,1,.k (.fn uy [] [])),(1,1,.k (.fn su [] [])),(2,1,.k (.fn vL [] [])),(3,1,.k (.fn Xj [] [])),(4,1,.k (.fn Xk [] []))],aO 2 22 5,iA 3]) (ah [br 24 .eql 4 8,aa 23 24] (cS 23 (aA [I.build 25 [.cM,.cM,.cM,.cM,.cM] [(0,1,.k (.fn uz [] [])),(1,1,.k (.fn nU [] [])),(2,1,.k (.fn AJ [] [])),(3,1,.k (.fn Xl [] [])),(4,1,.k (.fn Xm [] []))],aO 2 25 5,iA 3]) (ah [br 27 .eql 4 9,aa 26 27] (dr 26 (aA [I.build 28 [.cM,.cM,.cM,.cM,.cM] [(0,1,.k (.fn uA [] [])),(1,1,.k (.fn qm [] [])),(2,1,.k (.fn Cu [] [])),(3,1,.k (.fn Xn [] [])),(4,1,.k (.fn Xo [] []))],aO 2 28 5,iA 3]))))))))))))))))))) (aA [dK 29 [.cM,.cM,.cM,.cM,.cM],aO 2 29 5,bU 3]))) [.c 2 5 true,.t 3] false none
def LP:C :=ah [bB 29 .lss 28 27] (aY (cS 29 .skip (aY (.keep [2,3,7,9,10,13,14,15]) (.exit 2))) (aY (.bY 3 (ah [dy 30 26 28 5,aP 31 30 5,cj 12 zQ,ep 12 31 5] (ah [af 32 12 0,aj 33 32,af 34 9 0,aj 35 34,bB 36 .eql 33 35,aa 37 36,bg false 43 37 [af 38 12 1,aj 39 38,af 40 9 1,aj 41 40,bB 42 .eql 39 41] 42,aa 44 43,bg false 50 44 [af 45 12 4,aj 46 45,af 47 9 4,aj 48 47,bB 49 .eql 46 48] 49] (dr 50 (.lu [] [0,1,2,3,4,5,6,7] [fD 51 12 2,fm 52 51,fD 53 12 3,fm 54 53,af 55 10 2,aO 55 52 1,af 56 10 3,aO 56 54 1]))))) (.cq [br 57 .add 28 1,aa 28 57])))
def Hz:C :=ah [bB 16 .lss 15 14] (aY (cS 16 .skip (aY (.keep [7]) (.exit 0))) (aY (.bY 1 (ah [dy 17 13 15 5,aP 18 17 5,cj 9 jE,ep 9 18 5] (ah [af 19 9 0,aj 20 19,af 21 9 1,aj 22 21,aa 23 2,I.build 24 zQ [(0,1,.t 20),(1,1,.t 22),(4,1,.t 23)],cj 10 zQ,aO 10 24 5] (aY (ah [af 25 3 4,aj 26 25,cx 27 26,bu 28] (.bY 2 (.loop [2,3,7,9,10,13,14,15,26,27,28] LP))) (.cq [aa 58 7,aP 59 10 5,aP 60 9 5,I.build 61 [.i .i64 0,.i .i64 0,.i .i64 0,.i .i64 0,.i .i64 0,.i .i64 0,.i .i64 0,.i .i64 0,.b false,.i .i64 0] [(0,5,.t 59),(5,5,.t 60)],iu 62 10 1 [.i .i64 0,.i .i64 0,.i .i64 0,.i .i64 0,.i .i64 0,.i .i64 0,.i .i64 0,.i .i64 0,.b false,.i .i64 0] 61,iB 63 58 62 10,aa 7 63]))))) (.cq [br 64 .add 15 1,aa 15 64])))
def LQ:F:=.mk (ah [bz 3 0 9,I.mv 6 (.k (.sl 10 true []))] (ah [I.mv 7 (.k (.sl 10 true []))] (aY (ah [aa 13 1,cx 14 13,bu 15] (.bY 0 (.loop [2,3,7,13,14,15] Hz))) (aA [aa 65 7,aa 6 65])))) [.t 6] false none
def Rr:F:=.mk (ah [bz 1 0 5,bU 2] (aA [af 3 1 0,aj 4 3,bJ 5 .geq 4,aa 6 5,bg false 10 6 [af 7 1 0,aj 8 7,br 9 .lss 8 16] 9,aa 11 10,bg false 15 11 [af 12 1 3,aj 13 12,bJ 14 .geq 13] 14,aa 16 15,bg false 20 16 [af 17 1 3,aj 18 17,br 19 .leq 18 9] 19,aa 21 20,bg false 25 21 [af 22 1 4,aj 23 22,bJ 24 .geq 23] 24,aa 26 25,bg false 30 26 [af 27 1 4,aj 28 27,br 29 .leq 28 1099511627776] 29,aa 2 30])) [.t 2] false none
def LR:F:=.mk (ah [iN 1 0 5,cj 2 zQ] (bV [af 3 1 1,aj 4 3,br 5 .eql 4 75] 5 (.cq [af 6 1 2,I.st (.t 6) (cT 1) 1 false]) (aA [aP 7 1 5,aO 2 7 5]))) [.c 2 5 true] false none
def vO:F:=.mk (ah [bz 4 0 4,bz 5 1 9,bz 6 2 5,bz 7 3 13,I.mv 8 (.k (.sl 10 true []))] (ah [aP 15 5 9,af 16 7 12,aj 17 16,af 18 6 4,aj 19 18,mR 20 Ql 15 17 19,aa 9 20] (ah [aP 21 6 5,af 22 6 0,aj 23 22,af 24 6 1,aj 25 24,af 26 7 10,aj 27 26,af 28 7 11,aj 29 28,I.build 30 jE [(0,1,.t 23),(1,1,.t 25),(2,1,.t 27),(3,1,.t 29),(4,1,.k (.i .i64 (-1)))],I.build 31 [.i .i64 0,.i .i64 0,.i .i64 0,.i .i64 0,.i .i64 0,.i .i64 0,.i .i64 0,.i .i64 0,.b false,.i .i64 0] [(0,5,.t 21),(5,5,.t 30)],iu 32 10 1 [.i .i64 0,.i .i64 0,.i .i64 0,.i .i64 0,.i .i64 0,.i .i64 0,.i .i64 0,.i .i64 0,.b false,.i .i64 0] 31,aa 10 32] (bV [af 33 7 9,aj 34 33] 34 (.cq [I.mv 10 (.k (.sl 10 true []))]) (ah [af 35 6 1,aj 36 35,br 37 .eql 36 63,aa 38 37,bg true 48 38 [af 39 6 1,aj 40 39,br 41 .eql 40 65,aa 42 41,bg false 47 42 [af 43 5 5,aj 44 43,cx 45 44,bJ 46 .eql 45] 46] 47,aa 11 48] (bV [af 49 6 1,aj 50 49,br 51 .eql 50 70] 51 (ah [af 52 5 6,aj 53 52,I.ij 54 G9 [] [.t 6],cZ 55 En 53 54,aa 12 55] (.cq [aa 56 12,bJ 57 .lss 56,aa 58 57,bg true 67 58 [af 59 5 6,aj 60 59,aa 61 12,dy 62 60 61 2,af 63 62 1,aj 64 63,cx 65 64,bJ 66 .eql 65] 66,aa 11 67])) (bV [af 68 4 1,aj 69 68,br 70 .eql 69 8] 70 (ah [aP 71 6 5,cj 13 zQ,aO 13 71 5] (ah [af 72 13 1,I.st (.t 72) (cT 75) 1 false] (ah [aP 73 13 5,af 74 6 0,aj 75 74,I.build 76 jE [(0,1,.t 75),(1,1,cT 75),(3,1,fP),(4,1,.k (.i .i64 (-1)))],I.build 77 [.i .i64 0,.i .i64 0,.i .i64 0,.i .i64 0,.i .i64 0,.i .i64 0,.i .i64 0,.i .i64 0,.b false,.i .i64 0] [(0,5,.t 73),(5,5,.t 76)],iu 78 10 1 [.i .i64 0,.i .i64 0,.i .i64 0,.i .i64 0,.i .i64 0,.i .i64 0,.i .i64 0,.i .i64 0,.b false,.i .i64 0] 77,aa 14 78] (bV [af 79 6 1,aj 80 79,br 81 .eql 80 75] 81 (.cq [I.mv 10 (.k (.sl 10 true []))]) (aA [aa 82 14,aa 83 9,aa 84 10,I.lq 85 1 3 [.sl 10 true []] [(0,.t 82),(1,.t 83),(2,.t 84)] true,dS 86 Cv 85,aa 8 86]))))) (bV [aa 87 11] 87 (aA [aa 88 9,aa 89 10,I.lq 90 1 2 [.sl 10 true []] [(0,.t 88),(1,.t 89)] true,dS 91 Cv 90,aa 8 91]) (aA [aa 92 10,aa 93 9,I.lq 94 1 2 [.sl 10 true []] [(0,.t 92),(1,.t 93)] true,dS 95 Cv 94,aa 8 95]))))))))) [.t 8] false none
def Rs:F:=.mk (ah [cj 0 [.s [],.i .i64 0,.i .i64 0,.i .i64 0]] (aA [I.build 1 [.s [],.i .i64 0,.i .i64 0,.i .i64 0] [(1,1,cT 6)],aO 0 1 4])) [.c 0 4 true] false none
def Rt:F:=.mk (ah [cj 2 zR,bu 3,bU 4,bu 5] (aA [dK 6 zR,aa 7 0,aO 2 6 9,bu 3,bU 4,aa 5 7])) [.c 2 9 true,.t 3,.t 4,.t 5] false none
def vP:F:=.mk (ah [I.mv 2 (.k .Cc),bU 3] (aY (ah [aa 4 0] (.bY 0 (ah [br 6 .eql 4 1,aa 5 6] (cS 5 (aA [I.build 7 [.cM,.cM] [(0,1,.k (.fn sX [] [])),(1,1,.k (.fn ql [] []))],I.build 8 [.cM,.cM] [(0,2,.t 7)],I.nk 9 101 (.t 8),aa 2 9,iA 3]) (ah [br 11 .eql 4 2,aa 10 11] (cS 10 (aA [I.build 12 [.cM,.cM] [(0,1,.k (.fn sY [] [])),(1,1,.k (.fn l5 [] []))],I.build 13 [.cM,.cM] [(0,2,.t 12)],I.nk 14 102 (.t 13),aa 2 14,iA 3]) (ah [br 16 .eql 4 4,aa 15 16] (cS 15 (aA [I.build 17 [.cM,.cM] [(0,1,.k (.fn uu [] [])),(1,1,.k (.fn qZ [] []))],I.build 18 [.cM,.cM] [(0,2,.t 17)],I.nk 19 103 (.t 18),aa 2 19,iA 3]) (ah [br 21 .eql 4 5,aa 20 21] (cS 20 (aA [I.build 22 [.cM,.cM] [(0,1,.k (.fn uw [] [])),(1,1,.k (.fn oG [] []))],I.build 23 [.cM,.cM] [(0,2,.t 22)],I.nk 24 104 (.t 23),aa 2 24,iA 3]) (ah [br 26 .eql 4 6,aa 25 26] (cS 25 (aA [I.build 27 [.cM,.cM] [(0,1,.k (.fn ux [] [])),(1,1,.k (.fn gr [] []))],I.build 28 [.cM,.cM] [(0,2,.t 27)],I.nk 29 105 (.t 28),aa 2 29,iA 3]) (ah [br 31 .eql 4 7,aa 30 31] (cS 30 (aA [I.build 32 [.cM,.cM] [(0,1,.k (.fn uy [] [])),(1,1,.k (.fn su [] []))],I.build 33 [.cM,.cM] [(0,2,.t 32)],I.nk 34 106 (.t 33),aa 2 34,iA 3]) (ah [br 36 .eql 4 8,aa 35 36] (cS 35 (aA [I.build 37 [.cM,.cM] [(0,1,.k (.fn uz [] [])),(1,1,.k (.fn nU [] []))],I.build 38 [.cM,.cM] [(0,2,.t 37)],I.nk 39 107 (.t 38),aa 2 39,iA 3]) (ah [br 41 .eql 4 9,aa 40 41] (dr 40 (aA [I.build 42 [.cM,.cM] [(0,1,.k (.fn uA [] [])),(1,1,.k (.fn qm [] []))],I.build 43 [.cM,.cM] [(0,2,.t 42)],I.nk 44 108 (.t 43),aa 2 44,iA 3]))))))))))))))))))) (aA [I.mv 2 (.k .Cc),bU 3]))) [.t 2,.t 3] false none
def xU:F:=.mk (ah [I.mv 2 (.k .ue)] (aA [.op (.mB 3),.op (.mB 4),.op (.fE (.t 4) (cT 50) k0 [.i]),.op (.fE (.t 4) (cT 51) k0 [.i]),.op (.fE (.t 4) (cT 52) k0 [.i]),.op (.mv 5 (.t 4)),.op (.fE (.t 3) (cT 1) (.t 5) [.i]),.op (.mB 6),.op (.fE (.t 6) (cT 53) k0 [.i]),.op (.fE (.t 6) (cT 54) k0 [.i]),.op (.fE (.t 6) (cT 55) k0 [.i]),.op (.fE (.t 6) (cT 56) k0 [.i]),.op (.mv 7 (.t 6)),.op (.fE (.t 3) (cT 2) (.t 7) [.i]),.op (.mB 8),.op (.fE (.t 8) (cT 60) (cT 1) [.i]),.op (.fE (.t 8) (cT 61) (cT 1) [.i]),.op (.fE (.t 8) (cT 62) (cT 1) [.i]),.op (.mv 9 (.t 8)),.op (.fE (.t 3) (cT 4) (.t 9) [.i]),.op (.mB 10),.op (.fE (.t 10) (cT 63) k0 [.i]),.op (.mv 11 (.t 10)),.op (.fE (.t 3) (cT 5) (.t 11) [.i]),.op (.mB 12),.op (.fE (.t 12) (cT 64) (cT 2) [.i]),.op (.fE (.t 12) (cT 65) k0 [.i]),.op (.fE (.t 12) (cT 66) k0 [.i]),.op (.mv 13 (.t 12)),.op (.fE (.t 3) (cT 6) (.t 13) [.i]),.op (.mB 14),.op (.fE (.t 14) (cT 68) (cT 2) [.i]),.op (.fE (.t 14) (cT 69) k0 [.i]),.op (.fE (.t 14) (cT 70) k0 [.i]),.op (.fE (.t 14) (cT 71) k0 [.i]),.op (.mv 15 (.t 14)),.op (.fE (.t 3) (cT 7) (.t 15) [.i]),.op (.mB 16),.op (.fE (.t 16) (cT 72) (cT 1) [.i]),.op (.fE (.t 16) (cT 75) k0 [.i]),.op (.mv 17 (.t 16)),.op (.fE (.t 3) (cT 8) (.t 17) [.i]),.op (.mB 18),.op (.fE (.t 18) (cT 73) (cT 2) [.i]),.op (.fE (.t 18) (cT 74) k0 [.i]),.op (.mv 19 (.t 18)),.op (.fE (.t 3) (cT 9) (.t 19) [.i]),.op (.mv 20 (.t 3)),.op (.mv 21 (.t 0)),.op (.pE 22 (.t 20) (.t 21) .ue false [.i]),.op (.mv 2 (.t 22))])) [.t 2] true none
def Ru:F:=.mk (ah [cj 4 [.i .i64 0,.i .i64 0]] (bV [aa 5 1] 5 (aA [aa 6 0,I.build 7 [.i .i64 0,.i .i64 0] [(0,1,.t 6),(1,1,cT 1)],aO 4 7 2]) (aA [aa 8 0,I.build 9 [.i .i64 0,.i .i64 0] [(0,1,.t 8),(1,1,k0)],aO 4 9 2]))) [.c 4 2 true] false none
def HA:F:=.mk (ah [bU 4] (aA [aa 5 0,aa 6 1,cZ 7 xN 5 6,bJ 8 .geq 7,aa 4 8])) [.t 4] false none
def EA:F:=.mk (ah [bz 1 0 4,cj 2 zR,bu 3] (aY (.bY 0 (ah [af 5 1 1,aj 6 5,br 7 .neq 6 1,aa 4 7] (cS 4 (aA [dK 8 zR,aO 2 8 9,cF 3 8]) (ah [af 10 1 2,aj 11 10,bJ 12 .neq 11,aa 13 12,bg true 17 13 [af 14 1 3,aj 15 14,bJ 16 .neq 15] 16,aa 9 17] (dr 9 (aA [dK 18 zR,aO 2 18 9,cF 3 2])))))) (aA [I.build 19 zR [(0,1,.k (.i .i64 (-1)))],aO 2 19 9,bu 3]))) [.c 2 9 true,.t 3] false none
def EB:F:=.mk (ah [bz 2 0 4,bz 3 1 9,bu 4] (aY (ah [aP 8 2 4,dS 9 sX 8,aa 7 9,cr 10 7 0,cr 11 7 1,cj 5 zR,ep 5 10 9,aa 6 11] (ah [aa 12 6,bJ 13 .neq 12] (dr 13 (aA [aa 14 6,aa 4 14])))) (bV [aP 15 3 9,dS 16 KP 15,dz 17 16] 17 (aA [cF 4 1]) (aA [bu 4])))) [.t 4] false none
def y4:F:=.mk (ah [bz 3 0 4,bz 4 1 9,bz 5 2 5,cj 6 cu,bu 7] (aY (ah [aP 11 3 4,aP 12 4 9,cZ 13 ql 11 12,aa 8 13] (ah [aa 14 8,bJ 15 .neq 14] (dr 15 (aA [dK 16 cu,aa 17 8,aO 6 16 13,aa 7 17])))) (eU [1,2,0,3,4,5,6,7,8] [fD 20 5 1,fm 21 20,I.mO (some 19) Qp [],I.pE 22 (.t 19) (.t 21) .cM true [.i],aa 18 22,cr 23 18 0,cr 24 18 1,aa 9 23,aa 10 24] (aY (.bY 0 (ah [aa 26 10,dz 27 26,aa 25 27] (cS 25 (aA [dK 28 cu,aO 6 28 13,cF 7 8]) (ah [af 30 5 0,aj 31 30,dS 32 He 31,dz 33 32,aa 34 33,bg true 38 34 [af 35 5 3,aj 36 35,bJ 37 .lss 36] 37,aa 39 38,bg true 43 39 [af 40 5 3,aj 41 40,br 42 .gtr 41 9] 42,aa 29 43] (cS 29 (aA [dK 44 cu,aO 6 44 13,cF 7 2]) (ah [aP 46 4 9,af 47 5 0,aj 48 47,cZ 49 KQ 46 48,aa 45 49] (dr 45 (aA [dK 50 cu,aO 6 50 13,cF 7 17])))))))) (aA [aa 51 9,aP 52 4 9,aP 53 5 5,tc 54 51 52 53,cr 55 54 0,cr 56 54 1,aO 6 55 13,aa 7 56]))))) [.c 6 13 true,.t 7] false none
def ac3:F:=.mk (ah [bz 3 0 4,iN 4 1 9,cj 6 cu,bu 7] (aY (ah [aP 9 3 4,aP 10 4 9,cZ 11 ql 9 10,aa 8 11] (ah [aa 12 8,bJ 13 .neq 12] (dr 13 (aA [dK 14 cu,aa 15 8,aO 6 14 13,aa 7 15])))) (bV [aP 16 4 9,aa 17 2,cZ 18 KQ 16 17,dz 19 18] 19 (aA [dK 20 cu,aO 6 20 13,cF 7 7]) (ah [af 21 4 4,aj 22 21,aa 23 2,cZ 24 xO 22 23,af 25 4 4,aO 25 24 1] (aA [aP 26 4 9,I.build 27 cu [(0,9,.t 26)],aO 6 27 13,bu 7]))))) [.c 6 13 true,.t 7] false none
def ac4:F:=.mk (ah [bz 3 0 4,bz 4 1 9,bz 5 2 5,bU 6] (ah [aP 10 3 4,aP 11 4 9,aP 12 5 5,mR 13 yW 10 11 12,aa 9 13,cr 14 9 0,cr 15 9 1,cj 7 cu,ep 7 14 13,aa 8 15] (aA [aa 16 8,bJ 17 .eql 16,aa 18 17,bg false 22 18 [af 19 7 9,aj 20 19,dz 21 20] 21,aa 6 22]))) [.t 6] false none
def EC:F:=.mk (ah [bz 1 0 4,cj 2 zR,bu 3] (bV [af 4 1 1,aj 5 4,br 6 .neq 5 2] 6 (aA [dK 7 zR,aO 2 7 9,cF 3 8]) (bV [af 8 1 2,aj 9 8,bJ 10 .neq 9,aa 11 10,bg true 15 11 [af 12 1 3,aj 13 12,bJ 14 .neq 13] 14] 15 (aA [dK 16 zR,aO 2 16 9,cF 3 2]) (aA [I.build 17 zR [(0,1,.k (.i .i64 (-1)))],aO 2 17 9,bu 3])))) [.c 2 9 true,.t 3] false none
def ED:F:=.mk (ah [bz 2 0 4,bz 3 1 9,bu 4] (aY (ah [aP 8 2 4,dS 9 sY 8,aa 7 9,cr 10 7 0,cr 11 7 1,cj 5 zR,ep 5 10 9,aa 6 11] (ah [aa 12 6,bJ 13 .neq 12] (dr 13 (aA [aa 14 6,aa 4 14])))) (bV [aP 15 3 9,dS 16 KR 15,dz 17 16] 17 (aA [cF 4 1]) (aA [bu 4])))) [.t 4] false none
def gY:F:=.mk (ah [bz 3 0 4,bz 4 1 9,bz 5 2 5,cj 6 cu,bu 7] (bV [aP 13 3 4,aP 14 4 9,cZ 15 l5 13 14,bJ 16 .neq 15] 16 (aA [dK 17 cu,aO 6 17 13,cF 7 1]) (bV [af 18 5 0,aj 19 18,dS 20 Eo 19,dz 21 20,aa 22 21,bg true 26 22 [af 23 5 3,aj 24 23,bJ 25 .lss 24] 25,aa 27 26,bg true 31 27 [af 28 5 3,aj 29 28,br 30 .gtr 29 9] 30,aa 32 31,bg true 36 32 [af 33 5 4,aj 34 33,bJ 35 .lss 34] 35,aa 37 36,bg true 41 37 [af 38 5 4,aj 39 38,br 40 .gtr 39 1099511627776] 40] 41 (aA [dK 42 cu,aO 6 42 13,cF 7 2]) (bV [af 43 5 1,aj 44 43,br 45 .lss 44 53,aa 46 45,bg true 50 46 [af 47 5 1,aj 48 47,br 49 .gtr 48 56] 49] 50 (aA [dK 51 cu,aO 6 51 13,cF 7 8]) (aY (ah [af 53 4 4,aj 54 53,af 55 5 0,aj 56 55,cZ 57 iU 54 56,aa 52 57,cr 58 52 0,cr 59 52 1,aa 8 58,aa 9 59] (ah [aa 60 9] (dr 60 (aA [dK 61 cu,aO 6 61 13,cF 7 17])))) (eU [0,2,3,4,1,5,6,7] [gS 62 4 9,gS 64 4 9,fD 65 5 0,fm 66 65,lC 63 Hf 62,cZ 67 KS 64 66,aa 10 63,aa 11 67] (aY (ah [af 68 5 1,aj 69 68] (.bY 0 (pM [br 78 .eql 69 53,aa 77 78] 77 .skip (.cq [br 79 .eql 69 55,aa 77 79]) (cS 77 (bV [aa 80 11,bJ 81 .neq 80] 81 (aA [dK 82 cu,aO 6 82 13,cF 7 17]) (ah [aa 83 10,pL 84 Ep 83,aa 12 84] (bV [af 85 5 1,aj 86 85,br 87 .eql 86 53] 87 (.cq [aa 88 10,pL 89 Cw 88,dz 90 89,aa 91 90,bg false 99 91 [aa 92 10,cL 93 92,I.fa 94 (.t 93) 0 9,af 95 94 4,aj 96 95,cx 97 96,bJ 98 .eql 97] 98,aa 12 99]) (aA [aa 100 10,aP 101 5 5,aa 102 12,yZ 103 Xp 100 101 102,aO 6 103 13,bu 7])))) (ah [br 105 .eql 69 54,aa 104 105] (cS 104 (bV [aa 106 11,br 107 .neq 106 1] 107 (aA [dK 108 cu,aO 6 108 13,cF 7 20]) (.cq [aa 109 10,aa 110 10,cL 111 110,I.fa 112 (.t 111) 0 9,af 113 112 3,aj 114 113,I.ij 115 KT [] [.t 5],nV 116 Qq 114 115,cL 117 109,I.fa 118 (.t 117) 0 9,af 119 118 3,aO 119 116 1])) (bV [aa 70 11,br 71 .neq 70 2] 71 (aA [dK 72 cu,aO 6 72 13,cF 7 20]) (.cq [aa 73 10,cL 74 73,I.fa 75 (.t 74) 0 9,af 76 75 0,I.st (.t 76) (.k (.i .i64 (-1))) 1 false])))))))) (ah [aa 120 10,pL 121 sZ 120] (aA [aa 122 10,pL 123 Qr 122,aO 6 123 13,bu 7]))))))))) [.c 6 13 true,.t 7] false none
def ac5:F:=.mk (ah [bz 3 0 4,bz 4 1 9,cj 6 cu,bu 7] (bV [aP 11 3 4,aP 12 4 9,cZ 13 l5 11 12,bJ 14 .neq 13] 14 (aA [dK 15 cu,aO 6 15 13,cF 7 1]) (aY (ah [af 17 4 4,aj 18 17,aa 19 2,cZ 20 iU 18 19,aa 16 20,cr 21 16 0,cr 22 16 1,aa 8 21,aa 9 22] (ah [aa 23 9,dz 24 23] (dr 24 (aA [dK 25 cu,aO 6 25 13,cF 7 7])))) (ah [aP 26 4 9,lC 27 Hf 26,aa 10 27] (ah [aa 28 10,aa 29 10,cL 30 29,I.fa 31 (.t 30) 0 9,af 32 31 4,aj 33 32,aa 34 2,nV 35 acR 33 34,cL 36 28,I.fa 37 (.t 36) 0 9,af 38 37 4,aO 38 35 1] (ah [aa 39 10,pL 40 sZ 39] (eU [0,1,2,3,4,5,6,7,8,9,10] [aa 41 10,cL 42 41,I.fa 43 (.t 42) 0 9,aP 44 43 9,aa 45 10,cL 46 45,af 47 46 9,aj 48 47,I.build 49 cu [(0,9,.t 44),(12,1,.t 48)],aO 6 49 13,bu 7] .ret))))))) [.c 6 13 true,.t 7] false none
def ac6:F:=.mk (ah [bz 3 0 4,bz 4 1 9,bz 5 2 5,bU 6] (ah [aP 10 3 4,aP 11 4 9,aP 12 5 5,mR 13 pJ 10 11 12,aa 9 13,cr 14 9 0,cr 15 9 1,cj 7 cu,ep 7 14 13,aa 8 15] (aA [aa 16 8,bJ 17 .eql 16,aa 18 17,bg false 22 18 [af 19 7 9,aj 20 19,dz 21 20] 21,aa 6 22]))) [.t 6] false none
def LS:F:=.mk (ah [bz 1 0 4,cj 2 zR,bu 3] (aY (.bY 0 (ah [af 5 1 1,aj 6 5,br 7 .neq 6 4,aa 4 7] (cS 4 (aA [dK 8 zR,aO 2 8 9,cF 3 8]) (ah [af 10 1 2,aj 11 10,br 12 .lss 11 1,aa 13 12,bg true 17 13 [af 14 1 2,aj 15 14,br 16 .gtr 15 100] 16,aa 18 17,bg true 27 18 [af 19 1 3,aj 20 19,bJ 21 .neq 20,aa 22 21,bg false 26 22 [af 23 1 3,aj 24 23,br 25 .neq 24 1] 25] 26,aa 9 27] (dr 9 (aA [dK 28 zR,aO 2 28 9,cF 3 2])))))) (aA [af 29 1 2,aj 30 29,I.build 31 zR [(0,1,.k (.i .i64 (-1))),(1,1,.t 30)],aO 2 31 9,bu 3]))) [.c 2 9 true,.t 3] false none
def EE:C :=ah [bB 41 .lss 40 39] (aY (cS 41 .skip (aY (.keep [3]) (.exit 0))) (aY (.bY 1 (ah [aa 42 40,aa 7 42] (ah [aP 43 2 4,aP 44 3 9,aa 45 7,mR 46 Qt 43 44 45,dz 47 46] (dr 47 (ah [cF 4 1] (aY (.keep [4]) .ret)))))) (.cq [br 48 .add 40 1,aa 40 48])))
def uD:F:=.mk (ah [bz 2 0 4,bz 3 1 9,bu 4] (aY (ah [aP 9 2 4,dS 10 uu 9,aa 8 10,cr 11 8 0,cr 12 8 1,cj 5 zR,ep 5 11 9,aa 6 12] (ah [aa 13 6,bJ 14 .neq 13] (dr 14 (aA [aa 15 6,aa 4 15])))) (bV [af 16 3 0,aj 17 16,I.bin 18 .neq (.t 17) (.k (.i .i64 (-1))),aa 19 18,bg true 23 19 [af 20 3 1,aj 21 20,bJ 22 .lss 21] 22,aa 24 23,bg true 30 24 [af 25 3 1,aj 26 25,af 27 2 2,aj 28 27,bB 29 .gtr 26 28] 29,aa 31 30,bg true 36 31 [af 32 3 4,aj 33 32,I.call (some 34) qo [cT 1,.t 33],bJ 35 .neq 34] 35] 36 (aA [cF 4 1]) (aY (ah [af 37 3 4,aj 38 37,cx 39 38,bu 40] (.bY 0 (.loop [2,3,39,40] EE))) (bV [af 49 3 2,aj 50 49,bJ 51 .neq 50,aa 52 51,bg true 65 52 [af 53 3 3,aj 54 53,cx 55 54,af 56 3 5,aj 57 56,cx 58 57,bB 59 .add 55 58,af 60 3 6,aj 61 60,cx 62 61,bB 63 .add 59 62,bJ 64 .gtr 63] 64,aa 66 65,bg true 69 66 [af 67 3 7,aj 68 67] 68,aa 70 69,bg true 74 70 [af 71 3 8,aj 72 71,bJ 73 .neq 72] 73] 74 (aA [cF 4 1]) (aA [bu 4])))))) [.t 4] false none
def y5:F:=.mk (ah [bz 3 0 4,bz 4 1 9,bz 5 2 5,cj 6 cu,bu 7] (bV [aP 13 3 4,aP 14 4 9,cZ 15 qZ 13 14,bJ 16 .neq 15] 16 (aA [dK 17 cu,aO 6 17 13,cF 7 1]) (aY (ah [aP 18 3 4,aP 19 4 9,aP 20 5 5,mR 21 Qu 18 19 20,aa 8 21] (ah [aa 22 8,bJ 23 .neq 22] (dr 23 (aA [dK 24 cu,aa 25 8,aO 6 24 13,aa 7 25])))) (ah [aP 26 4 9,af 27 3 3,aj 28 27,br 29 .eql 28 1,I.build 30 [.i .i64 0,.i .i64 0,.i .i64 0,.sl 1 true [],.sl 5 true [],.sl 1 true [],.sl 2 true [],.b false,.i .i64 0,.b false] [(0,9,.t 26),(9,1,.t 29)],iN 31 30 10,cj 9 [.nil],ep 9 31 1] (ah [I.mB 32,I.ij 33 Qv [] [.t 9,.t 5],I.fE (.t 32) (cT 60) (.t 33) [.i],I.ij 34 Qx [] [.t 9,.t 5],I.fE (.t 32) (cT 61) (.t 34) [.i],I.ij 35 Qy [] [.t 9,.t 5],I.fE (.t 32) (cT 62) (.t 35) [.i],aa 36 32,aa 10 36] (ah [aa 37 10,af 38 5 1,aj 39 38,I.pE 40 (.t 37) (.t 39) .cM false [.i],aa 11 40] (ah [aa 41 11,I.pF (some 42) (.t 41) [],cj 12 cu,aO 12 42 13] (ah [aj 43 9,cL 44 43,I.fa 45 (.t 44) 0 9,aP 46 45 9,I.fa 47 (.t 12) 0 9,aO 47 46 9] (aA [aP 48 12 13,aO 6 48 13,bu 7]))))))))) [.c 6 13 true,.t 7] false none
def ac7:F:=.mk (ah [bz 3 0 4,bz 4 1 9,cj 6 cu,bu 7] (bV [aP 12 3 4,aP 13 4 9,cZ 14 qZ 12 13,bJ 15 .neq 14] 15 (aA [dK 16 cu,aO 6 16 13,cF 7 1]) (aY (ah [af 18 4 4,aj 19 18,aa 20 2,cZ 21 iU 19 20,aa 17 21,cr 22 17 0,cr 23 17 1,aa 8 22,aa 9 23] (ah [aa 24 9,dz 25 24] (dr 25 (aA [dK 26 cu,aO 6 26 13,cF 7 7])))) (ah [aP 27 4 9,af 28 3 3,aj 29 28,br 30 .eql 29 1,I.build 31 [.i .i64 0,.i .i64 0,.i .i64 0,.sl 1 true [],.sl 5 true [],.sl 1 true [],.sl 2 true [],.b false,.i .i64 0,.b false] [(0,9,.t 27),(9,1,.t 30)],iN 32 31 10,aa 10 32] (ah [aa 33 10,aa 34 10,cL 35 34,I.fa 36 (.t 35) 0 9,af 37 36 4,aj 38 37,aa 39 2,cZ 40 xO 38 39,cL 41 33,I.fa 42 (.t 41) 0 9,af 43 42 4,aO 43 40 1] (ah [aa 44 10,pL 45 KV 44,aa 11 45] (aA [aa 46 10,cL 47 46,I.fa 48 (.t 47) 0 9,aP 49 48 9,aa 50 11,I.build 51 cu [(0,9,.t 49),(12,1,.t 50)],aO 6 51 13,bu 7]))))))) [.c 6 13 true,.t 7] false none
def ac8:F:=.mk (ah [bz 3 0 4,bz 4 1 9,bz 5 2 5,bU 6] (ah [aP 10 3 4,aP 11 4 9,aP 12 5 5,mR 13 AH 10 11 12,aa 9 13,cr 14 9 0,cr 15 9 1,cj 7 cu,ep 7 14 13,aa 8 15] (aA [aa 16 8,bJ 17 .eql 16,aa 18 17,bg false 22 18 [af 19 7 9,aj 20 19,dz 21 20] 21,aa 6 22]))) [.t 6] false none
def LU:F:=.mk (ah [bz 1 0 4,cj 2 zR,bu 3] (aY (.bY 0 (ah [af 5 1 1,aj 6 5,br 7 .neq 6 5,aa 4 7] (cS 4 (aA [dK 8 zR,aO 2 8 9,cF 3 8]) (ah [af 10 1 2,aj 11 10,br 12 .lss 11 1,aa 13 12,bg true 17 13 [af 14 1 2,aj 15 14,br 16 .gtr 15 100] 16,aa 18 17,bg true 22 18 [af 19 1 3,aj 20 19,bJ 21 .neq 20] 21,aa 9 22] (dr 9 (aA [dK 23 zR,aO 2 23 9,cF 3 2])))))) (aA [I.build 24 zR [(0,1,.k (.i .i64 (-1)))],aO 2 24 9,bu 3]))) [.c 2 9 true,.t 3] false none
def EF:C :=ah [bB 74 .lss 73 72] (aY (cS 74 .skip (aY (.keep []) (.exit 0))) (aY (.bY 1 (ah [aa 75 73,dy 76 71 73 5,aP 77 76 5,cj 8 zQ,aa 7 75,ep 8 77 5] (ah [af 78 8 1,aj 79 78,br 80 .neq 79 63,aa 81 80,bg true 85 81 [af 82 8 2,aj 83 82,bJ 84 .neq 83] 84,aa 86 85,bg true 90 86 [af 87 8 4,aj 88 87,I.bin 89 .neq (.t 88) (.k (.i .i64 (-1)))] 89,aa 91 90,bg true 102 91 [af 92 3 4,aj 93 92,aa 94 7,br 95 .add 94 1,mS 96 93 95 5,dS 97 Hg 96,cx 98 97,aa 99 7,br 100 .add 99 1,bB 101 .neq 98 100] 101] (dr 102 (ah [cF 4 1] (aY (.keep [4]) .ret)))))) (.cq [br 103 .add 73 1,aa 73 103])))
def uE:F:=.mk (ah [bz 2 0 4,bz 3 1 9,bu 4] (aY (ah [aP 10 2 4,dS 11 uw 10,aa 9 11,cr 12 9 0,cr 13 9 1,cj 5 zR,ep 5 12 9,aa 6 13] (ah [aa 14 6,bJ 15 .neq 14] (dr 15 (aA [aa 16 6,aa 4 16])))) (bV [af 17 3 0,aj 18 17,I.bin 19 .neq (.t 18) (.k (.i .i64 (-1))),aa 20 19,bg true 24 20 [af 21 3 1,aj 22 21,bJ 23 .lss 22] 23,aa 25 24,bg true 29 25 [af 26 3 1,aj 27 26,br 28 .gtr 27 1099511627776] 28,aa 30 29,bg true 37 30 [af 31 3 4,aj 32 31,cx 33 32,af 34 2 2,aj 35 34,bB 36 .geq 33 35] 36] 37 (aA [cF 4 1]) (bV [af 38 3 2,aj 39 38,bJ 40 .neq 39,aa 41 40,bg true 45 41 [af 42 3 8,aj 43 42,bJ 44 .neq 43] 44,aa 46 45,bg true 49 46 [af 47 3 7,aj 48 47] 48,aa 50 49,bg true 63 50 [af 51 3 3,aj 52 51,cx 53 52,af 54 3 5,aj 55 54,cx 56 55,bB 57 .add 53 56,af 58 3 6,aj 59 58,cx 60 59,bB 61 .add 57 60,bJ 62 .gtr 61] 62,aa 64 63,bg true 69 64 [af 65 3 4,aj 66 65,I.call (some 67) qo [cT 1,.t 66],bJ 68 .neq 67] 68] 69 (aA [cF 4 1]) (aY (ah [af 70 3 4,aj 71 70,cx 72 71,bu 73] (.bY 0 (.loop [3,71,72,73] EF))) (aA [bu 4])))))) [.t 4] false none
def q9:C :=ah [bB 24 .lss 23 22] (aY (cS 24 .skip (aY (.keep [3,4,5,6]) (.exit 0))) (aY (.bY 1 (ah [dy 25 21 23 2,aP 26 25 2,cj 10 [.cM,.i .i64 0],ep 10 26 2] (ah [af 27 10 0,aj 28 27,aP 29 4 9,aP 30 5 5,tc 31 28 29 30,dz 32 31] (dr 32 (eU [0,1,2,3,4] [dK 33 cu,fD 34 10 1,fm 35 34,aO 6 33 13,aa 7 35] (aY (.keep [6,7]) .ret)))))) (.cq [br 36 .add 23 1,aa 23 36])))
def HB:C :=ah [aa 12 70] (.cq [cj 13 zQ,ep 13 71 5])
def HC:C :=.bY 3 (.cq [af 72 11 12,aj 73 72,af 74 13 0,aj 75 74,aa 76 12,I.build 77 jE [(0,1,.t 75),(1,1,cT 63),(2,1,.t 76),(3,1,fP),(4,1,.k (.i .i64 (-1)))],iu 78 5 1 jE 77,iB 79 73 78 5,af 80 11 12,aO 80 79 1])
def y6:F:=.mk (ah [bz 3 0 4,iN 4 1 9,bz 5 2 5,cj 6 cu,bu 7] (aY (ah [aP 14 3 4,aP 15 4 9,cZ 16 oG 14 15,aa 8 16] (ah [aa 17 8,bJ 18 .neq 17] (dr 18 (aA [dK 19 cu,aa 20 8,aO 6 19 13,aa 7 20])))) (aY (ah [xT 21 Qz,cx 22 21,bu 23] (.bY 0 (.loop [3,4,5,6,21,22,23] q9))) (bV [af 37 4 4,aj 38 37,cx 39 38,br 40 .add 39 1,af 41 3 2,aj 42 41,bB 43 .lss 40 42] 43 (eU [0,1,3,4,5,6,7,8,9,10,2,11,12,13] [af 44 4 4,aj 45 44,fD 47 5 0,fm 48 47,fD 49 5 1,fm 50 49,fD 51 5 3,fm 52 51,I.build 53 zQ [(0,1,.t 48),(1,1,.t 50),(3,1,.t 52),(4,1,.k (.i .i64 (-1)))],iu 54 5 1 zQ 53,lC 46 sv 45,iB 55 46 54 5,af 56 4 4,aO 56 55 1] (aA [aP 57 4 9,I.build 58 cu [(0,9,.t 57),(9,1,fP)],aO 6 58 13,bu 7])) (bV [af 59 4 1,aj 60 59,br 61 .eql 60 1099511627776] 61 (aA [dK 62 cu,aO 6 62 13,cF 7 4]) (ah [af 63 3 2,aj 64 63,br 65 .sub 64 1,I.build 66 cu [(10,1,.t 65),(11,1,fP)],cj 11 cu,aO 11 66 13] (aY (ah [af 67 4 4,aj 68 67,lC 69 QB 68] (.bY 2 (.qU (.t 69) [11] [70,71] HB HC))) (ah [af 81 4 4,I.st (.t 81) (.k (.sl 5 true [])) 1 false] (ah [af 82 4 1,aj 83 82,br 84 .add 83 1,af 85 4 1,aO 85 84 1] (ah [aP 86 4 9,I.fa 87 (.t 11) 0 9,aO 87 86 9] (aA [aP 88 11 13,aO 6 88 13,bu 7]))))))))))) [.c 6 13 true,.t 7] false none
def ac9:F:=.mk (ah [bz 3 0 4,iN 4 1 9,cj 6 cu,bu 7] (aY (ah [aP 9 3 4,aP 10 4 9,cZ 11 oG 9 10,aa 8 11] (ah [aa 12 8,bJ 13 .neq 12] (dr 13 (aA [dK 14 cu,aa 15 8,aO 6 14 13,aa 7 15])))) (bV [aP 16 4 9,aa 17 2,cZ 18 KW 16 17,dz 19 18] 19 (aA [dK 20 cu,aO 6 20 13,cF 7 7]) (ah [af 21 4 4,aj 22 21,aa 23 2,cZ 24 xO 22 23,af 25 4 4,aO 25 24 1] (aA [aP 26 4 9,I.build 27 cu [(0,9,.t 26)],aO 6 27 13,bu 7]))))) [.c 6 13 true,.t 7] false none
def ada:F:=.mk (ah [bz 3 0 4,bz 4 1 9,bz 5 2 5,bU 6] (ah [aP 10 3 4,aP 11 4 9,aP 12 5 5,mR 13 AI 10 11 12,aa 9 13,cr 14 9 0,cr 15 9 1,cj 7 cu,ep 7 14 13,aa 8 15] (aA [aa 16 8,bJ 17 .eql 16,aa 18 17,bg false 22 18 [af 19 7 9,aj 20 19,dz 21 20] 21,aa 6 22]))) [.t 6] false none
def LV:F:=.mk (ah [bz 1 0 4,cj 2 zR,bu 3] (bV [af 4 1 1,aj 5 4,br 6 .neq 5 6] 6 (aA [dK 7 zR,aO 2 7 9,cF 3 8]) (bV [af 8 1 2,aj 9 8,bJ 10 .lss 9,aa 11 10,bg true 15 11 [af 12 1 2,aj 13 12,br 14 .gtr 13 100] 14,aa 16 15,bg true 20 16 [af 17 1 3,aj 18 17,bJ 19 .neq 18] 19] 20 (aA [dK 21 zR,aO 2 21 9,cF 3 2]) (aA [I.build 22 zR [(0,1,.k (.i .i64 (-1)))],aO 2 22 9,bu 3])))) [.c 2 9 true,.t 3] false none
def EG:F:=.mk (ah [bz 2 0 4,bz 3 1 9,bu 4] (aY (ah [aP 8 2 4,dS 9 ux 8,aa 7 9,cr 10 7 0,cr 11 7 1,cj 5 zR,ep 5 10 9,aa 6 11] (ah [aa 12 6,bJ 13 .neq 12] (dr 13 (aA [aa 14 6,aa 4 14])))) (bV [aP 15 2 4,aP 16 3 9,cZ 17 KX 15 16,dz 18 17] 18 (aA [cF 4 1]) (aA [bu 4])))) [.t 4] false none
def jm:F:=.mk (ah [bz 3 0 4,bz 4 1 9,bz 5 2 5,cj 6 cu,bu 7] (bV [aP 12 3 4,aP 13 4 9,cZ 14 gr 12 13,bJ 15 .neq 14] 15 (aA [dK 16 cu,aO 6 16 13,cF 7 1]) (bV [af 17 5 0,aj 18 17,dS 19 QC 18,dz 20 19,aa 21 20,bg true 26 21 [af 22 5 3,aj 23 22,dS 24 QD 23,dz 25 24] 25,aa 27 26,bg true 31 27 [af 28 5 4,aj 29 28,bJ 30 .lss 29] 30,aa 32 31,bg true 36 32 [af 33 5 4,aj 34 33,br 35 .gtr 34 1099511627776] 35] 36 (aA [dK 37 cu,aO 6 37 13,cF 7 2]) (eU [1,2,0,3,4,5,6,7,8] [fD 40 5 1,fm 41 40,I.mO (some 39) QE [],I.pE 42 (.t 39) (.t 41) .cM true [.i],aa 38 42,cr 43 38 0,cr 44 38 1,aa 8 43,aa 9 44] (bV [aa 45 9,dz 46 45] 46 (aA [dK 47 cu,aO 6 47 13,cF 7 8]) (ah [af 49 4 4,aj 50 49,af 51 5 0,aj 52 51,cZ 53 iU 50 52,aa 48 53,cr 54 48 0,cr 55 48 1,aa 10 54,aa 11 55] (aY (.bY 0 (ah [af 57 5 1,aj 58 57,br 59 .eql 58 64,aa 60 59,bg false 65 60 [af 61 5 2,aj 62 61,dS 63 Hh 62,dz 64 63] 64,aa 56 65] (cS 56 (aA [dK 66 cu,aO 6 66 13,cF 7 2]) (ah [aa 68 11,aa 67 68] (cS 67 (aA [dK 69 cu,aO 6 69 13,cF 7 17]) (ah [af 71 4 7,aj 72 71,aa 73 72,bg false 77 73 [af 74 5 1,aj 75 74,br 76 .eql 75 64] 76,aa 70 77] (cS 70 (aA [dK 78 cu,aO 6 78 13,cF 7 19]) (ah [af 80 4 7,aj 81 80,aa 82 81,bg false 86 82 [af 83 5 1,aj 84 83,br 85 .eql 84 66] 85,aa 79 86] (dr 79 (aA [dK 87 cu,aO 6 87 13,cF 7 17])))))))))) (eU [0,1,2,4,3,5,6,7] [aa 88 8,gS 89 3 4,gS 90 4 9,gS 92 5 5,I.mO (some 91) Hi [.t 89,.t 90],I.pF (some 93) (.t 88) [.t 91,.t 92],aO 6 93 13,bu 7] .ret)))))))) [.c 6 13 true,.t 7] false none
def adb:F:=.mk (ah [bz 3 0 4,iN 4 1 9,cj 6 cu,bu 7] (bV [aP 10 3 4,aP 11 4 9,cZ 12 gr 10 11,bJ 13 .neq 12] 13 (aA [dK 14 cu,aO 6 14 13,cF 7 1]) (aY (ah [af 16 4 4,aj 17 16,aa 18 2,cZ 19 iU 17 18,aa 15 19,cr 20 15 0,cr 21 15 1,aa 8 20,aa 9 21] (ah [aa 22 9,dz 23 22] (dr 23 (aA [dK 24 cu,aO 6 24 13,cF 7 7])))) (ah [af 25 4 4,aj 26 25,aa 27 2,cZ 28 xO 26 27,af 29 4 4,aO 29 28 1] (aA [aP 30 4 9,I.build 31 cu [(0,9,.t 30)],aO 6 31 13,bu 7]))))) [.c 6 13 true,.t 7] false none
def ade:F:=.mk (ah [bz 3 0 4,bz 4 1 9,bz 5 2 5,bU 6] (ah [aP 10 3 4,aP 11 4 9,aP 12 5 5,mR 13 iM 10 11 12,aa 9 13,cr 14 9 0,cr 15 9 1,cj 7 cu,ep 7 14 13,aa 8 15] (aA [aa 16 8,bJ 17 .eql 16,aa 18 17,bg false 22 18 [af 19 7 9,aj 20 19,dz 21 20] 21,aa 6 22]))) [.t 6] false none
def LW:F:=.mk (ah [bz 1 0 4,cj 2 zR,bu 3] (bV [af 4 1 1,aj 5 4,br 6 .neq 5 7] 6 (aA [dK 7 zR,aO 2 7 9,cF 3 8]) (bV [af 8 1 2,aj 9 8,bJ 10 .lss 9,aa 11 10,bg true 15 11 [af 12 1 2,aj 13 12,br 14 .gtr 13 100] 14,aa 16 15,bg true 20 16 [af 17 1 3,aj 18 17,bJ 19 .neq 18] 19] 20 (aA [dK 21 zR,aO 2 21 9,cF 3 2]) (aA [I.build 22 zR [(0,1,.k (.i .i64 (-1)))],aO 2 22 9,bu 3])))) [.c 2 9 true,.t 3] false none
def CF:F:=.mk (ah [bz 2 0 4,bz 3 1 9,bu 4] (aY (ah [aP 8 2 4,dS 9 uy 8,aa 7 9,cr 10 7 0,cr 11 7 1,cj 5 zR,ep 5 10 9,aa 6 11] (ah [aa 12 6,bJ 13 .neq 12] (dr 13 (aA [aa 14 6,aa 4 14])))) (bV [af 15 3 0,aj 16 15,I.bin 17 .neq (.t 16) (.k (.i .i64 (-1))),aa 18 17,bg true 25 18 [af 19 2 2,aj 20 19,af 21 3 6,aj 22 21,cZ 23 QF 20 22,dz 24 23] 24,aa 26 25,bg true 32 26 [af 27 2 2,aj 28 27,aP 29 3 9,cZ 30 QG 28 29,dz 31 30] 31] 32 (aA [cF 4 1]) (bV [af 33 3 1,aj 34 33,bJ 35 .neq 34,aa 36 35,bg true 40 36 [af 37 3 2,aj 38 37,bJ 39 .neq 38] 39,aa 41 40,bg true 50 41 [af 42 3 3,aj 43 42,cx 44 43,af 45 3 5,aj 46 45,cx 47 46,bB 48 .add 44 47,bJ 49 .gtr 48] 49,aa 51 50,bg true 54 51 [af 52 3 7,aj 53 52] 53,aa 55 54,bg true 59 55 [af 56 3 8,aj 57 56,bJ 58 .neq 57] 58] 59 (aA [cF 4 1]) (aA [bu 4]))))) [.t 4] false none
def nq:F:=.mk (ah [bz 3 0 4,bz 4 1 9,bz 5 2 5,cj 6 cu,bu 7] (bV [aP 13 3 4,aP 14 4 9,cZ 15 su 13 14,bJ 16 .neq 15] 16 (aA [dK 17 cu,aO 6 17 13,cF 7 1]) (aY (ah [aP 18 4 9,aP 19 5 5,cZ 20 QH 18 19,aa 8 20] (ah [aa 21 8,bJ 22 .neq 21] (dr 22 (aA [dK 23 cu,aa 24 8,aO 6 23 13,aa 7 24])))) (ah [aP 25 3 4,aP 26 4 9,I.mO (some 27) KY [.t 25,.t 26],cj 9 [.nil],ep 9 27 1] (ah [I.mB 28,I.ij 29 QI [] [.t 9,.t 5],I.fE (.t 28) (cT 69) (.t 29) [.i],I.ij 30 QK [] [.t 9,.t 5],I.fE (.t 28) (cT 71) (.t 30) [.i],I.ij 31 QL [] [.t 9,.t 5],I.fE (.t 28) (cT 68) (.t 31) [.i],I.ij 32 K1 [] [.t 9,.t 5],I.fE (.t 28) (cT 70) (.t 32) [.i],aa 33 28,aa 10 33] (ah [aa 34 10,af 35 5 1,aj 36 35,I.pE 37 (.t 34) (.t 36) .cM false [.i],aa 11 37] (ah [aa 38 11,I.pF (some 39) (.t 38) [],cj 12 cu,aO 12 39 13] (eU [0,1,2,3,4,5,6,7,8,9,10,11] [fm 40 9,cL 41 40,I.fa 42 (.t 41) 1 9,aP 43 42 9,fm 44 9,cL 45 44,af 46 45 10,aj 47 46,I.fa 48 (.t 12) 0 9,aO 48 43 9,.re (.fa 46 (.t 45) 10 1),.re (.ld 47 (.t 46) 1 false),af 49 12 12,aO 49 47 1] (aA [aP 50 12 13,aO 6 50 13,bu 7]))))))))) [.c 6 13 true,.t 7] false none
def adf:F:=.mk (ah [bz 3 0 4,bz 4 1 9,cj 6 cu,bu 7] (bV [aP 11 3 4,aP 12 4 9,cZ 13 su 11 12,bJ 14 .neq 13] 14 (aA [dK 15 cu,aO 6 15 13,cF 7 1]) (aY (ah [af 17 4 4,aj 18 17,aa 19 2,cZ 20 iU 18 19,aa 16 20,cr 21 16 0,cr 22 16 1,aa 8 21,aa 9 22] (ah [aa 23 9,dz 24 23] (dr 24 (aA [dK 25 cu,aO 6 25 13,cF 7 7])))) (ah [aP 26 3 4,aP 27 4 9,I.mO (some 28) KY [.t 26,.t 27],aa 10 28] (aY (aY (.xE 10 5) (.cq [aa 29 10,aa 30 10,cL 31 30,I.fa 32 (.t 31) 1 9,af 33 32 4,aj 34 33,aa 35 2,cZ 36 xO 34 35,cL 37 29,I.fa 38 (.t 37) 1 9,af 39 38 4,aO 39 36 1])) (ah [aa 40 10,pL 41 Er 40] (eU [0,1,2,3,4,5,6,7,8,9,10] [aa 42 10,cL 43 42,I.fa 44 (.t 43) 1 9,aP 45 44 9,aa 46 10,cL 47 46,af 48 47 10,aj 49 48,I.build 50 cu [(0,9,.t 45),(12,1,.t 49)],aO 6 50 13,bu 7] .ret))))))) [.c 6 13 true,.t 7] false none
def adg:F:=.mk (ah [bz 3 0 4,bz 4 1 9,bz 5 2 5,bU 6] (ah [aP 10 3 4,aP 11 4 9,aP 12 5 5,mR 13 vL 10 11 12,aa 9 13,cr 14 9 0,cr 15 9 1,cj 7 cu,ep 7 14 13,aa 8 15] (aA [aa 16 8,bJ 17 .eql 16,aa 18 17,bg false 22 18 [af 19 7 9,aj 20 19,dz 21 20] 21,aa 6 22]))) [.t 6] false none
def LX:F:=.mk (ah [bz 1 0 4,cj 2 zR,bu 3] (aY (.bY 0 (ah [af 5 1 1,aj 6 5,br 7 .neq 6 8,aa 4 7] (cS 4 (aA [dK 8 zR,aO 2 8 9,cF 3 8]) (ah [af 10 1 2,aj 11 10,br 12 .lss 11 1,aa 13 12,bg true 17 13 [af 14 1 2,aj 15 14,br 16 .gtr 15 100] 16,aa 18 17,bg true 22 18 [af 19 1 3,aj 20 19,br 21 .lss 20 1] 21,aa 23 22,bg true 27 23 [af 24 1 3,aj 25 24,br 26 .gtr 25 1099511627776] 26,aa 9 27] (dr 9 (aA [dK 28 zR,aO 2 28 9,cF 3 2])))))) (aA [af 29 1 2,aj 30 29,I.build 31 zR [(0,1,.k (.i .i64 (-1))),(1,1,.t 30)],aO 2 31 9,bu 3]))) [.c 2 9 true,.t 3] false none
def EH:C :=ah [bB 73 .lss 72 71] (aY (cS 73 .skip (aY (.keep []) (.exit 0))) (aY (.bY 1 (ah [aa 74 72,dy 75 70 72 5,aP 76 75 5,cj 8 zQ,aa 7 74,ep 8 76 5] (ah [af 77 8 1,aj 78 77,br 79 .neq 78 72,aa 80 79,bg true 84 80 [af 81 8 2,aj 82 81,br 83 .lss 82 1] 83,aa 85 84,bg true 91 85 [af 86 8 2,aj 87 86,af 88 2 2,aj 89 88,bB 90 .gtr 87 89] 90,aa 92 91,bg true 96 92 [af 93 8 4,aj 94 93,I.bin 95 .neq (.t 94) (.k (.i .i64 (-1)))] 95,aa 97 96,bg true 108 97 [af 98 3 4,aj 99 98,aa 100 7,br 101 .add 100 1,mS 102 99 101 5,dS 103 Hg 102,cx 104 103,aa 105 7,br 106 .add 105 1,bB 107 .neq 104 106] 107] (dr 108 (ah [cF 4 1] (aY (.keep [4]) .ret)))))) (.cq [br 109 .add 72 1,aa 72 109])))
def uF:F:=.mk (ah [bz 2 0 4,bz 3 1 9,bu 4] (aY (ah [aP 10 2 4,dS 11 uz 10,aa 9 11,cr 12 9 0,cr 13 9 1,cj 5 zR,ep 5 12 9,aa 6 13] (ah [aa 14 6,bJ 15 .neq 14] (dr 15 (aA [aa 16 6,aa 4 16])))) (bV [af 17 3 0,aj 18 17,I.bin 19 .neq (.t 18) (.k (.i .i64 (-1))),aa 20 19,bg true 24 20 [af 21 3 1,aj 22 21,bJ 23 .lss 22] 23,aa 25 24,bg true 31 25 [af 26 3 1,aj 27 26,af 28 2 2,aj 29 28,bB 30 .gtr 27 29] 30,aa 32 31,bg true 36 32 [af 33 3 2,aj 34 33,bJ 35 .lss 34] 35,aa 37 36,bg true 41 37 [af 38 3 2,aj 39 38,br 40 .gtr 39 1099511627776] 40] 41 (aA [cF 4 1]) (bV [af 42 3 8,aj 43 42,bJ 44 .neq 43,aa 45 44,bg true 48 45 [af 46 3 7,aj 47 46] 47,aa 49 48,bg true 62 49 [af 50 3 3,aj 51 50,cx 52 51,af 53 3 5,aj 54 53,cx 55 54,bB 56 .add 52 55,af 57 3 6,aj 58 57,cx 59 58,bB 60 .add 56 59,bJ 61 .gtr 60] 61,aa 63 62,bg true 68 63 [af 64 3 4,aj 65 64,I.call (some 66) qo [cT 1,.t 65],bJ 67 .neq 66] 67] 68 (aA [cF 4 1]) (aY (ah [af 69 3 4,aj 70 69,cx 71 70,bu 72] (.bY 0 (.loop [2,3,70,71,72] EH))) (aA [bu 4])))))) [.t 4] false none
def HD:C :=ah [cj 11 zQ,ep 11 32 5] (.cq [cj 12 zR,ep 12 33 9])
def HE:C :=.bY 1 (ah [af 34 10 12,aj 35 34,af 36 11 0,aj 37 36,I.build 38 jE [(0,1,.t 37),(1,1,cT 72),(3,1,fP),(4,1,.k (.i .i64 (-1)))],iu 39 5 1 jE 38,iB 40 35 39 5,af 41 10 12,aO 41 40 1] (.cq [aP 42 12 9,aO 4 42 9]))
def y7:F:=.mk (ah [bz 3 0 4,iN 4 1 9,bz 5 2 5,cj 6 cu,bu 7] (aY (ah [aP 13 3 4,aP 14 4 9,aP 15 5 5,mR 16 K3 13 14 15,aa 8 16] (ah [aa 17 8,bJ 18 .neq 17] (dr 18 (aA [dK 19 cu,aa 20 8,aO 6 19 13,aa 7 20])))) (ah [aP 21 3 4,aP 22 4 9,I.build 23 [.s [],.i .i64 0,.i .i64 0,.i .i64 0,.i .i64 0,.i .i64 0,.i .i64 0,.sl 1 true [],.sl 5 true [],.sl 1 true [],.sl 2 true [],.b false,.i .i64 0] [(0,4,.t 21),(4,9,.t 22)],I.ij 24 QM [.t 23] [],aa 9 24] (ah [aa 25 9,af 26 5 4,aj 27 26,uC 28 25 27,aO 4 28 9] (ah [dK 29 cu,cj 10 cu,aO 10 29 13] (aY (ah [aP 30 4 9,lC 31 QN 30] (.bY 0 (.qU (.t 31) [4,10] [32,33] HD HE))) (aY (.bY 2 (ah [af 60 5 1,aj 61 60,br 62 .eql 61 75,aa 59 62] (cS 59 (.cq [af 63 10 11,I.st (.t 63) fP 1 false]) (ah [af 65 4 4,aj 66 65,cx 67 66,bJ 68 .eql 67,aa 69 68,bg false 75 69 [af 70 4 1,aj 71 70,af 72 5 2,aj 73 72,bB 74 .geq 71 73] 74,aa 64 75] (cS 64 (ah [af 76 4 1,aj 77 76,af 78 5 2,aj 79 78,bB 80 .sub 77 79,af 81 4 1,aO 81 80 1] (.cq [af 82 10 11,I.st (.t 82) fP 1 false])) (eU [0,1,3,4,5,6,7,8,9,10,11,12,2,13,14,15] [af 43 4 4,aj 44 43,fD 46 5 0,fm 47 46,fD 48 5 1,fm 49 48,fD 50 5 2,fm 51 50,fD 52 5 3,fm 53 52,I.build 54 zQ [(0,1,.t 47),(1,1,.t 49),(2,1,.t 51),(3,1,.t 53),(4,1,.k (.i .i64 (-1)))],iu 55 5 1 zQ 54,lC 45 sv 44,iB 56 45 55 5,af 57 4 4,aO 57 56 1] (.cq [af 58 10 9,I.st (.t 58) fP 1 false]))))))) (ah [aP 83 4 9,I.fa 84 (.t 10) 0 9,aO 84 83 9] (aA [aP 85 10 13,aO 6 85 13,bu 7]))))))))) [.c 6 13 true,.t 7] false none
def adh:F:=.mk (ah [bz 3 0 4,iN 4 1 9,cj 6 cu,bu 7] (aY (ah [aP 9 3 4,aP 10 4 9,cZ 11 nU 9 10,aa 8 11] (ah [aa 12 8,bJ 13 .neq 12] (dr 13 (aA [dK 14 cu,aa 15 8,aO 6 14 13,aa 7 15])))) (bV [aP 16 4 9,aa 17 2,cZ 18 K4 16 17,dz 19 18] 19 (aA [dK 20 cu,aO 6 20 13,cF 7 7]) (ah [af 21 4 4,aj 22 21,aa 23 2,cZ 24 xO 22 23,af 25 4 4,aO 25 24 1] (aA [aP 26 4 9,I.build 27 cu [(0,9,.t 26)],aO 6 27 13,bu 7]))))) [.c 6 13 true,.t 7] false none
def adi:F:=.mk (ah [bz 3 0 4,bz 4 1 9,bz 5 2 5,bU 6] (ah [aP 10 3 4,aP 11 4 9,aP 12 5 5,mR 13 AJ 10 11 12,aa 9 13,cr 14 9 0,cr 15 9 1,cj 7 cu,ep 7 14 13,aa 8 15] (aA [aa 16 8,bJ 17 .eql 16,aa 18 17,bg false 22 18 [af 19 7 9,aj 20 19,dz 21 20] 21,aa 6 22]))) [.t 6] false none
def LY:F:=.mk (ah [bz 1 0 4,cj 2 zR,bu 3] (bV [af 4 1 1,aj 5 4,br 6 .neq 5 9] 6 (aA [dK 7 zR,aO 2 7 9,cF 3 8]) (bV [af 8 1 2,aj 9 8,bJ 10 .neq 9,aa 11 10,bg true 15 11 [af 12 1 3,aj 13 12,bJ 14 .neq 13] 14] 15 (aA [dK 16 zR,aO 2 16 9,cF 3 2]) (aA [I.build 17 zR [(0,1,.k (.i .i64 (-1)))],aO 2 17 9,bu 3])))) [.c 2 9 true,.t 3] false none
def EI:F:=.mk (ah [bz 2 0 4,bz 3 1 9,bu 4] (aY (ah [aP 8 2 4,dS 9 uA 8,aa 7 9,cr 10 7 0,cr 11 7 1,cj 5 zR,ep 5 10 9,aa 6 11] (ah [aa 12 6,bJ 13 .neq 12] (dr 13 (aA [aa 14 6,aa 4 14])))) (bV [aP 15 3 9,I.build 16 zR [(0,9,.t 15)],dS 17 K5 16,dz 18 17] 18 (aA [cF 4 1]) (aA [bu 4])))) [.t 4] false none
def CG:F:=.mk (ah [bz 3 0 4,bz 4 1 9,bz 5 2 5,cj 6 cu,bu 7] (bV [aP 10 3 4,aP 11 4 9,cZ 12 qm 10 11,bJ 13 .neq 12] 13 (aA [dK 14 cu,aO 6 14 13,cF 7 1]) (bV [af 15 5 0,aj 16 15,bJ 17 .lss 16,aa 18 17,bg true 22 18 [af 19 5 0,aj 20 19,br 21 .geq 20 16] 21,aa 23 22,bg true 27 23 [af 24 5 3,aj 25 24,bJ 26 .lss 25] 26,aa 28 27,bg true 32 28 [af 29 5 3,aj 30 29,br 31 .gtr 30 9] 31,aa 33 32,bg true 37 33 [af 34 5 4,aj 35 34,bJ 36 .lss 35] 36,aa 38 37,bg true 42 38 [af 39 5 4,aj 40 39,br 41 .gtr 40 1099511627776] 41] 42 (aA [dK 43 cu,aO 6 43 13,cF 7 2]) (aY (eU [0,1,2,3,4,5,6,7] [gS 44 4 9,I.build 45 zR [(0,9,.t 44)],fD 46 5 1,fm 47 46,br 48 .eql 47 73,cj 8 zR,aO 8 45 9,aa 9 48] (.oD [8])) (aY (.bY 0 (ah [aa 50 9,dz 51 50,aa 52 51,bg false 56 52 [af 53 5 1,aj 54 53,br 55 .neq 54 74] 55,aa 49 56] (cS 49 (aA [dK 57 cu,aO 6 57 13,cF 7 8]) (ah [aa 59 9,aa 60 59,bg false 65 60 [af 61 5 2,aj 62 61,dS 63 K6 62,dz 64 63] 64,aa 58 65] (cS 58 (aA [dK 66 cu,aO 6 66 13,cF 7 2]) (ah [aP 68 8 9,af 69 5 0,aj 70 69,cZ 71 K7 68 70,aa 72 71,bg true 79 72 [aa 73 9,aa 74 73,bg false 78 74 [I.fa 75 (.t 8) 0 9,af 76 75 7,aj 77 76] 77] 78,aa 67 79] (cS 67 (aA [dK 80 cu,aO 6 80 13,cF 7 17]) (ah [aa 82 9,aa 81 82] (dr 81 (aA [aP 83 8 9,af 84 5 2,aj 85 84,cZ 86 QO 83 85,aO 6 86 13,bu 7])))))))))) (aA [aP 87 8 9,aP 88 5 5,cZ 89 QS 87 88,aO 6 89 13,bu 7])))))) [.c 6 13 true,.t 7] false none
def adj:F:=.mk (ah [bz 3 0 4,iN 4 1 9,cj 6 cu,bu 7] (bV [aP 8 3 4,aP 9 4 9,cZ 10 qm 8 9,bJ 11 .neq 10] 11 (aA [dK 12 cu,aO 6 12 13,cF 7 1]) (bV [aP 13 4 9,I.build 14 zR [(0,9,.t 13)],aa 15 2,cZ 16 K7 14 15,dz 17 16] 17 (aA [dK 18 cu,aO 6 18 13,cF 7 7]) (ah [af 19 4 4,aj 20 19,aa 21 2,cZ 22 xO 20 21,af 23 4 4,aO 23 22 1] (aA [aP 24 4 9,I.build 25 cu [(0,9,.t 24)],aO 6 25 13,bu 7]))))) [.c 6 13 true,.t 7] false none
def adk:F:=.mk (ah [bz 3 0 4,bz 4 1 9,bz 5 2 5,bU 6] (ah [aP 10 3 4,aP 11 4 9,aP 12 5 5,mR 13 Cu 10 11 12,aa 9 13,cr 14 9 0,cr 15 9 1,cj 7 cu,ep 7 14 13,aa 8 15] (aA [aa 16 8,bJ 17 .eql 16,aa 18 17,bg false 22 18 [af 19 7 9,aj 20 19,dz 21 20] 21,aa 6 22]))) [.t 6] false none
def LZ:C :=ah [bB 9 .lss 8 7] (aY (cS 9 .skip (aY (.keep []) (.exit 0))) (aY (.bY 1 (ah [aa 10 8,aa 5 10] (ah [aa 11 1,aa 12 0,aa 13 5,dy 14 12 13 2,aP 15 14 2,uC 16 11 15] (dr 16 (ah [aa 17 5,aa 4 17] (aY (.keep [4]) .ret)))))) (.cq [br 18 .add 8 1,aa 8 18])))
def Rv:F:=.mk (ah [bu 4] (aY (ah [aa 6 0,cx 7 6,bu 8] (.bY 0 (.loop [0,1,7,8] LZ))) (aA [I.mv 4 (.k (.i .i64 (-1)))]))) [.t 4] false none
def Rw:F:=.mk (ah [bz 2 0 2,bU 3] (aA [af 4 2 0,aj 5 4,af 6 1 0,aj 7 6,bB 8 .eql 5 7,aa 3 8])) [.t 3] false none
def L0:C :=ah [bB 12 .lss 11 10] (aY (cS 12 .skip (aY (.keep [0,3]) (.exit 0))) (aY (.bY 1 (ah [dy 13 9 11 1,aj 14 13,aa 5 14] (ah [aa 15 3,aa 16 5,cx 17 16,bB 18 .add 15 17,aa 3 18] (ah [aa 19 3,bJ 20 .lss 19] (dr 20 (.cq [I.bad (some 21),I.bad none])))))) (.cq [br 22 .add 11 1,aa 11 22])))
def L1:C :=ah [bB 28 .lss 27 26] (aY (cS 28 .skip (aY (.keep [6]) (.exit 2))) (aY (.bY 3 (ah [dy 29 25 27 1,aj 30 29,aa 8 30] (.cq [aa 31 6,aa 32 8,iB 33 31 32 10,aa 6 33]))) (.cq [br 34 .add 27 1,aa 27 34])))
def L2:F:=.mk (ah [I.mv 2 (.k (.sl 10 true []))] (ah [bu 3] (aY (ah [aa 9 0,cx 10 9,bu 11] (.bY 0 (.loop [0,3,9,10,11] L0))) (ah [aa 23 3,I.mO (some 24) K8 [.k (.sl 10 true []),.t 23],aa 6 24] (aY (ah [aa 25 0,cx 26 25,bu 27] (.bY 2 (.loop [6,25,26,27] L1))) (aA [aa 35 6,aa 2 35])))))) [.t 2] false none
def vQ:C :=ah [bB 9 .lss 8 7] (aY (cS 9 .skip (aY (.keep []) (.exit 0))) (aY (.bY 1 (ah [aa 10 8,aa 5 10] (ah [aa 11 1,aa 12 0,aa 13 5,dy 14 12 13 5,aP 15 14 5,uC 16 11 15] (dr 16 (ah [aa 17 5,aa 4 17] (aY (.keep [4]) .ret)))))) (.cq [br 18 .add 8 1,aa 8 18])))
def EJ:F:=.mk (ah [bu 4] (aY (ah [aa 6 0,cx 7 6,bu 8] (.bY 0 (.loop [0,1,7,8] vQ))) (aA [I.mv 4 (.k (.i .i64 (-1)))]))) [.t 4] false none
def EK:C :=ah [bB 64 .lss 63 62] (aY (cS 64 .skip (aY (.keep []) (.exit 0))) (aY (.bY 1 (ah [aa 65 63,dy 66 61 63 5,aP 67 66 5,cj 4 zQ,aa 3 65,ep 4 67 5] (bV [af 68 4 1,aj 69 68,br 70 .neq 69 50,aa 71 70,bg true 75 71 [af 72 4 2,aj 73 72,bJ 74 .neq 73] 74,aa 76 75,bg true 80 76 [af 77 4 4,aj 78 77,I.bin 79 .neq (.t 78) (.k (.i .i64 (-1)))] 79,aa 81 80,bg true 87 81 [af 82 4 0,aj 83 82,af 84 1 0,aj 85 84,bB 86 .eql 83 85] 86] 87 (ah [bU 2] (aY (.keep [2]) .ret)) (ah [af 88 1 4,aj 89 88,aa 90 3,mS 91 89 90 5,I.ij 92 K9 [] [.t 4],cZ 93 ur 91 92] (dr 93 (ah [bU 2] (aY (.keep [2]) .ret))))))) (.cq [br 94 .add 63 1,aa 63 94])))
def EL:F:=.mk (ah [bz 1 0 9,bU 2] (bV [af 5 1 0,aj 6 5,I.bin 7 .neq (.t 6) (.k (.i .i64 (-1))),aa 8 7,bg false 13 8 [af 9 1 0,aj 10 9,dS 11 He 10,dz 12 11] 12,aa 14 13,bg true 24 14 [af 15 1 0,aj 16 15,I.bin 17 .eql (.t 16) (.k (.i .i64 (-1))),aa 18 17,bg false 23 18 [af 19 1 4,aj 20 19,cx 21 20,bJ 22 .gtr 21] 22] 23] 24 (aA [bU 2]) (bV [af 25 1 1,aj 26 25,bJ 27 .neq 26,aa 28 27,bg true 32 28 [af 29 1 2,aj 30 29,bJ 31 .neq 30] 31,aa 33 32,bg true 37 33 [af 34 1 8,aj 35 34,bJ 36 .neq 35] 36,aa 38 37,bg true 41 38 [af 39 1 7,aj 40 39] 40,aa 42 41,bg true 55 42 [af 43 1 3,aj 44 43,cx 45 44,af 46 1 5,aj 47 46,cx 48 47,bB 49 .add 45 48,af 50 1 6,aj 51 50,cx 52 51,bB 53 .add 49 52,bJ 54 .gtr 53] 54] 55 (aA [bU 2]) (bV [af 56 1 4,aj 57 56,I.call (some 58) qo [cT 2,.t 57],bJ 59 .neq 58] 59 (aA [bU 2]) (aY (ah [af 60 1 4,aj 61 60,cx 62 61,bu 63] (.bY 0 (.loop [1,61,62,63] EK))) (aA [iA 2])))))) [.t 2] false none
def Rx:F:=.mk (ah [I.mv 0 (.k .ue)] (aA [I.mB 1,I.fE (.t 1) (cT 50) (.k (.fn Ho [] [])) [.i],I.fE (.t 1) (cT 51) (.k (.fn La [] [])) [.i],I.fE (.t 1) (cT 52) (.k (.fn Lb [] [])) [.i],aa 2 1,aa 0 2])) [.t 0] true none
def L3:F:=.mk (ah [bU 2] (aA [aa 3 0,bJ 4 .geq 3,aa 5 4,bg false 8 5 [aa 6 0,br 7 .lss 6 16] 7,aa 2 8])) [.t 2] false none
def Rz:F:=.mk (ah [bz 2 0 9,bz 3 1 1,bU 4] (aA [af 5 2 4,aj 6 5,I.ij 7 Lc [] [.t 3],cZ 8 ur 6 7,aa 4 8])) [.t 4] false none
def RA:F:=.mk (ah [bz 3 1 1,I.mv 4 (.k (.sl 5 true []))] (aA [aa 5 0,I.ij 6 Es [] [.t 3],cZ 7 QT 5 6,aa 4 7])) [.t 4] false none
def adl:F:=.mk (ah [bz 3 1 1,I.mv 4 (.k (.sl 5 true []))] (aA [aa 5 0,I.ij 6 Es [] [.t 3],nV 7 acT 5 6,aa 4 7])) [.t 4] true none
def AQ:C :=ah [bB 55 .lss 54 53] (aY (cS 55 .skip (aY (.keep [1]) (.exit 0))) (aY (.bY 1 (ah [aa 56 54,dy 57 52 54 1,aj 58 57,aa 3 56,aa 4 58] (ah [aa 59 4,dS 60 Eo 59,dz 61 60,aa 62 61,bg true 75 62 [aa 63 3,bJ 64 .gtr 63,aa 65 64,bg false 74 65 [af 66 1 3,aj 67 66,aa 68 3,br 69 .sub 68 1,dy 70 67 69 1,aj 71 70,aa 72 4,bB 73 .geq 71 72] 73] 74] (dr 75 (ah [bU 2] (aY (.keep [2]) .ret)))))) (.cq [br 76 .add 54 1,aa 54 76])))
def EM:F:=.mk (ah [bz 1 0 9,bU 2] (bV [af 5 1 0,aj 6 5,I.bin 7 .neq (.t 6) (.k (.i .i64 (-1))),aa 8 7,bg false 19 8 [af 9 1 0,aj 10 9,dS 11 Eo 10,dz 12 11,aa 13 12,bg true 18 13 [af 14 1 3,aj 15 14,cx 16 15,bJ 17 .gtr 16] 17] 18,aa 20 19,bg true 24 20 [af 21 1 1,aj 22 21,bJ 23 .neq 22] 23,aa 25 24,bg true 29 25 [af 26 1 2,aj 27 26,bJ 28 .neq 27] 28,aa 30 29,bg true 35 30 [af 31 1 5,aj 32 31,cx 33 32,bJ 34 .gtr 33] 34,aa 36 35,bg true 41 36 [af 37 1 6,aj 38 37,cx 39 38,bJ 40 .gtr 39] 40,aa 42 41,bg true 45 42 [af 43 1 7,aj 44 43] 44,aa 46 45,bg true 50 46 [af 47 1 8,aj 48 47,bJ 49 .neq 48] 49] 50 (aA [bU 2]) (aY (ah [af 51 1 3,aj 52 51,cx 53 52,bu 54] (.bY 0 (.loop [1,52,53,54] AQ))) (aA [aP 77 1 9,dS 78 Ld 77,aa 2 78])))) [.t 2] false none
def L4:F:=.mk (ah [bU 2] (aA [aa 3 0,bJ 4 .geq 3,aa 5 4,bg false 8 5 [aa 6 0,br 7 .lss 6 16] 7,aa 2 8])) [.t 2] false none
def CH:C :=ah [bB 11 .lss 10 9] (aY (cS 11 .skip (aY (.keep []) (.exit 0))) (aY (.bY 1 (ah [aa 12 10,dy 13 8 10 5,aP 14 13 5,cj 7 zQ,aa 6 12,ep 7 14 5] (ah [af 15 7 0,aj 16 15,aa 17 1,bB 18 .eql 16 17] (dr 18 (ah [aa 19 6,aa 4 19,iA 5] (aY (.keep [4,5]) .ret)))))) (.cq [br 20 .add 10 1,aa 10 20])))
def EN:F:=.mk (ah [bu 4,bU 5] (aY (ah [aa 8 0,cx 9 8,bu 10] (.bY 0 (.loop [1,8,9,10] CH))) (aA [bu 4,bU 5]))) [.t 4,.t 5] false none
def RB:F:=.mk (ah [iN 1 0 9,I.mv 2 (.k .nil)] (eU [0,1,3,4,2,6,5,7,8,9] [af 3 1 3,aj 4 3,af 6 1 4,aj 7 6,lC 5 s9 4,.re (.fa 6 (.t 1) 4 1),.re (.ld 7 (.t 6) 1 false),af 9 1 3,lC 8 sv 7,.re (.fa 9 (.t 1) 3 1),aO 9 5 1,af 10 1 4,aO 10 8 1] (aA [aP 11 1 9,I.build 12 [.i .i64 0,.i .i64 0,.i .i64 0,.sl 1 true [],.sl 5 true [],.sl 1 true [],.sl 2 true [],.b false,.i .i64 0,.sl 5 true []] [(0,9,.t 11)],iN 13 12 10,aa 2 13]))) [.t 2] true none
def L5:F:=.mk (ah [bz 2 0 9,bu 4] (aY (.bY 0 (ah [aa 6 1,bJ 7 .geq 6,aa 8 7,bg false 13 8 [aa 9 1,af 10 2 0,aj 11 10,bB 12 .eql 9 11] 12,aa 5 13] (cS 5 (aA [cF 4 2]) (ah [af 15 2 3,aj 16 15,aa 17 1,cZ 18 QW 16 17,aa 14 18] (dr 14 (aA [cF 4 1])))))) (aA [bu 4]))) [.t 4] false none
def EO:F:=.mk (ah [bU 2] (aA [aa 3 0,pL 4 Cw 3,dz 5 4,aa 6 5,bg false 14 6 [aa 7 0,cL 8 7,I.fa 9 (.t 8) 0 9,af 10 9 3,aj 11 10,cx 12 11,bJ 13 .eql 12] 13,aa 2 14])) [.t 2] true none
def L6:F:=.mk (ah [bU 2] (aA [aa 3 0,cL 4 3,I.fa 5 (.t 4) 0 9,af 6 5 0,aj 7 6,I.bin 8 .neq (.t 7) (.k (.i .i64 (-1))),aa 2 8])) [.t 2] true none
def nr:F:=.mk (ah [bz 4 1 5,cj 6 cu] (bV [aa 7 2] 7 (ah [aa 8 0,af 9 4 0,aj 10 9,af 11 4 1,aj 12 11,yZ 13 xP 8 10 12] (aA [aa 14 0,pL 15 Qr 14,aO 6 15 13])) (eU [0,1,2,3,4,5,6,7,8,9,10,11,12,13,14,15,16,17,18] [aa 16 0,aa 17 0,cL 18 17,I.fa 19 (.t 18) 0 9,af 20 19 4,aj 21 20,fD 22 4 0,fm 23 22,fD 24 4 1,fm 25 24,fD 26 4 3,fm 27 26,I.build 28 zQ [(0,1,.t 23),(1,1,.t 25),(3,1,.t 27),(4,1,.k (.i .i64 (-1)))],iu 29 5 1 zQ 28,iB 30 21 29 5,cL 31 16,I.fa 32 (.t 31) 0 9,af 33 32 4,aO 33 30 1] (aA [aa 34 0,cL 35 34,I.fa 36 (.t 35) 0 9,aP 37 36 9,I.build 38 cu [(0,9,.t 37),(9,1,fP)],aO 6 38 13])))) [.c 6 13 true] true none
def HF:C :=pM [aa 16 6,aa 17 0,cx 18 17,bB 19 .lss 16 18] 19 .skip (aY (.keep [0,5]) (.exit 0)) (aY (.bY 1 (ah [aa 22 0,aa 23 6,dy 24 22 23 1,aj 25 24,aa 7 25] (ah [aa 26 1,aa 27 7,uC 28 26 27,dz 29 28] (dr 29 (ah [aa 30 0,aa 31 5,aa 32 7,dy 33 30 31 1,aO 33 32 1] (.cq [aa 34 5,br 35 .add 34 1,aa 5 35])))))) (.cq [aa 20 6,br 21 .add 20 1,aa 6 21]))
def L7:F:=.mk (ah [I.mv 4 (.k (.sl 1 true []))] (ah [aa 8 0,aa 9 1,nV 10 QY 8 9,aa 5 10] (bV [aa 11 5,I.bin 12 .eql (.t 11) (.k (.i .i64 (-1)))] 12 (aA [aa 13 0,aa 4 13]) (aY (ah [aa 14 5,br 15 .add 14 1,aa 6 15] (.bY 0 (.loop [0,1,5,6] HF))) (ah [aa 36 0,aa 37 5,gT 38 36 37 1,I.qg none (.t 38) 1 [.i .i64 0]] (aA [aa 39 0,aa 40 5,mS 41 39 40 1,aa 4 41])))))) [.t 4] true none
def RC:F:=.mk (ah [bU 3] (aA [aa 4 0,af 5 1 0,aj 6 5,bB 7 .eql 4 6,aa 3 7])) [.t 3] false none
def j9:C :=pM [aa 3 0,cL 4 3,I.fa 5 (.t 4) 0 9,af 6 5 4,aj 7 6,cx 8 7,bJ 9 .gtr 8] 9 .skip (aY (.keep []) (.exit 0)) (.bY 1 (ah [aa 10 0,cL 11 10,I.fa 12 (.t 11) 0 9,af 13 12 4,aj 14 13,I.jk 15 (.t 14) k0 5,aP 16 15 5,cj 2 zQ,ep 2 16 5] (aY (.bY 2 (pM [aa 18 0,pL 19 Cw 18,aa 17 19] 17 .skip (.cq [af 20 2 1,aj 21 20,br 22 .eql 21 55,aa 23 22,bg false 27 23 [aa 24 0,pL 25 Ep 24,dz 26 25] 26,aa 17 27]) (dr 17 (aY (.keep []) (.exit 0))))) (ah [aa 28 0,aa 29 0,cL 30 29,I.fa 31 (.t 30) 0 9,af 32 31 4,aj 33 32,I.sl 34 (.t 33) (some (cT 1)) none 5,cL 35 28,I.fa 36 (.t 35) 0 9,af 37 36 4,aO 37 34 1] (ah [aa 38 0,af 39 2 0,aj 40 39,af 41 2 1,aj 42 41,yZ 43 xP 38 40 42] (.lu [] [0,1,2,3,4,5,6,7,8,9,10,11,12,13,14] [aa 44 0,aa 45 0,cL 46 45,af 47 46 9,aj 48 47,fD 49 2 0,fm 50 49,fD 51 2 1,fm 52 51,I.build 53 jE [(0,1,.t 50),(1,1,.t 52),(3,1,fP),(4,1,.k (.i .i64 (-1)))],iu 54 5 1 jE 53,iB 55 48 54 5,cL 56 44,af 57 56 9,aO 57 55 1]))))))
def AR:F:=.mk (aY .skip (aY .skip (.bY 0 (.loop [0] j9)))) [] true none
def nu:F:=.mk (ah [cj 2 cu] (eU [0,1,2,3,4,5,6,7,8,9] [aa 3 0,cL 4 3,I.fa 5 (.t 4) 0 9,aP 6 5 9,aa 7 0,cL 8 7,af 9 8 9,aj 10 9,I.build 11 cu [(0,9,.t 6),(11,1,fP),(12,1,.t 10)],aO 2 11 13] .ret)) [.c 2 13 true] true none
def vR:C :=ah [bB 19 .lss 18 17] (aY (cS 19 .skip (aY (.keep []) (.exit 0))) (aY (.bY 1 (ah [aa 20 18,dy 21 16 18 5,aP 22 21 5,cj 6 zQ,aa 5 20,ep 6 22 5] (bV [aP 23 6 5,dS 24 Et 23,dz 25 24] 25 (ah [cF 4 2] (aY (.keep [4]) .ret)) (eU [0,1,2,3,4,5,6,7,8,9,10,11,12,13,14,15,16] [aa 26 0,br 27 .eql 26 2,aa 28 27,bg false 31 28 [aa 29 5,bJ 30 .gtr 29] 30,aa 32 31,bg false 42 32 [fD 33 6 3,fm 34 33,aa 35 1,aa 36 5,br 37 .sub 36 1,dy 38 35 37 5,af 39 38 3,aj 40 39,bB 41 .gtr 34 40] 41] (dr 42 (ah [cF 4 9] (aY (.keep [4]) .ret))))))) (.cq [br 43 .add 18 1,aa 18 43])))
def y8:F:=.mk (ah [bu 4] (bV [aa 7 0,br 8 .neq 7 1,aa 9 8,bg false 12 9 [aa 10 0,br 11 .neq 10 2] 11] 12 (aA [cF 4 8]) (bV [aa 13 1,cx 14 13,br 15 .gtr 14 96] 15 (aA [cF 4 4]) (aY (ah [aa 16 1,cx 17 16,bu 18] (.bY 0 (.loop [0,1,16,17,18] vR))) (aA [bu 4]))))) [.t 4] false none
def EP:F:=.mk (ah [bz 3 0 4,bz 4 1 9,bU 6] (ah [af 10 4 4,aj 11 10,aa 12 2,dy 13 11 12 5,aP 14 13 5,cj 7 zQ,ep 7 14 5] (bV [af 15 7 1,aj 16 15,br 17 .neq 16 60,aa 18 17,bg true 22 18 [af 19 7 2,aj 20 19,br 21 .lss 20 1] 21,aa 23 22,bg true 29 23 [af 24 7 2,aj 25 24,af 26 3 2,aj 27 26,bB 28 .gtr 25 27] 28,aa 30 29,bg true 34 30 [af 31 7 4,aj 32 31,I.bin 33 .neq (.t 32) (.k (.i .i64 (-1)))] 33] 34 (aA [bU 6]) (aY (ah [af 36 4 4,aj 37 36,af 38 7 0,aj 39 38,cZ 40 iU 37 39,aa 35 40,cr 41 35 0,cr 42 35 1,aa 8 41,aa 9 42] (ah [aa 43 8,aa 44 2,bB 45 .neq 43 44] (dr 45 (aA [bU 6])))) (aA [aa 46 2,bJ 47 .gtr 46,aa 48 47,bg false 52 48 [af 49 3 3,aj 50 49,bJ 51 .eql 50] 51,aa 53 52,bg true 59 53 [af 54 7 2,aj 55 54,af 56 4 1,aj 57 56,bB 58 .gtr 55 57] 58,aa 6 59]))))) [.t 6] false none
def AS:F:=.mk (ah [bz 3 0 4,bz 4 1 9,bz 5 2 5,bu 6] (bV [af 9 5 0,aj 10 9,bJ 11 .lss 10,aa 12 11,bg true 16 12 [af 13 5 0,aj 14 13,br 15 .geq 14 16] 15,aa 17 16,bg true 21 17 [af 18 5 3,aj 19 18,bJ 20 .lss 19] 20,aa 22 21,bg true 26 22 [af 23 5 3,aj 24 23,br 25 .gtr 24 9] 25,aa 27 26,bg true 31 27 [af 28 5 4,aj 29 28,bJ 30 .lss 29] 30,aa 32 31,bg true 36 32 [af 33 5 4,aj 34 33,br 35 .gtr 34 1099511627776] 35] 36 (aA [cF 6 2]) (bV [af 37 5 1,aj 38 37,br 39 .neq 38 60,aa 40 39,bg false 44 40 [af 41 5 1,aj 42 41,br 43 .neq 42 61] 43,aa 45 44,bg false 49 45 [af 46 5 1,aj 47 46,br 48 .neq 47 62] 48] 49 (aA [cF 6 8]) (bV [af 50 5 2,aj 51 50,br 52 .lss 51 1,aa 53 52,bg true 59 53 [af 54 5 2,aj 55 54,af 56 3 2,aj 57 56,bB 58 .gtr 55 57] 58] 59 (aA [cF 6 2]) (aY (ah [af 61 4 4,aj 62 61,af 63 5 0,aj 64 63,cZ 65 iU 62 64,aa 60 65,cr 66 60 0,cr 67 60 1,aa 7 66,aa 8 67] (ah [aa 68 8,aa 69 68,bg true 83 69 [af 70 5 1,aj 71 70,br 72 .eql 71 62,aa 73 72,bg false 82 73 [af 74 4 1,aj 75 74,af 76 5 2,aj 77 76,bB 78 .add 75 77,af 79 3 2,aj 80 79,bB 81 .gtr 78 80] 81] 82] (dr 83 (aA [cF 6 17])))) (aA [bu 6])))))) [.t 6] false none
def L8:F:=.mk (ah [cj 2 cu] (bV [aj 4 0,af 5 1 2,aj 6 5,nV 7 KU 4 6] 7 (aA [I.build 8 cu [(11,1,fP)],aO 2 8 13]) (ah [af 9 1 0,aj 10 9,af 11 1 1,aj 12 11,af 13 1 2,aj 14 13,af 15 1 3,aj 16 15,I.build 17 zQ [(0,1,.t 10),(1,1,.t 12),(2,1,.t 14),(3,1,.t 16),(4,1,.k (.i .i64 (-1)))],cj 3 zQ,ep 3 17 5] (eU [0,1,2,3,4,5,6,7,8,9,10,11,12,13,14] [aj 19 0,aj 20 0,cL 21 20,I.fa 22 (.t 21) 0 9,af 23 22 4,aj 24 23,gS 25 3 5,I.call (some 26) Qw [cT 1,.t 24,.t 25],aa 18 26,cr 27 18 0,cr 28 18 1,cL 29 19,I.fa 30 (.t 29) 0 9,af 31 30 4,aO 31 27 1] (aA [I.build 32 cu [(9,1,fP)],aO 2 32 13]))))) [.c 2 13 true] false none
def ER:F:=.mk (ah [bU 4] (bV [aa 5 1,aa 6 0,cL 7 6,I.fa 8 (.t 7) 0 9,af 9 8 1,aj 10 9,bB 11 .gtr 5 10,aa 12 11,bg true 27 12 [aa 13 0,cL 14 13,af 15 14 9,aj 16 15,dz 17 16,aa 18 17,bg false 26 18 [aa 19 0,cL 20 19,I.fa 21 (.t 20) 0 9,af 22 21 4,aj 23 22,cx 24 23,bJ 25 .gtr 24] 25] 26] 27 (aA [bU 4]) (ah [aa 28 0,cL 29 28,I.fa 30 (.t 29) 0 9,af 31 30 1,aj 32 31,aa 33 1,bB 34 .sub 32 33,cL 35 28,I.fa 36 (.t 35) 0 9,af 37 36 1,aO 37 34 1] (aA [iA 4])))) [.t 4] true none
def RD:C :=aY (eU [0,1,2,3,4,5,6,7,8,9,10,11,12,13,14,15,16] [aa 25 0,br 26 .eql 25 2,aa 27 26,bg false 30 27 [aa 28 9,bJ 29 .gtr 28] 29,aa 31 30,bg false 41 31 [aa 32 1,aa 33 9,br 34 .sub 33 1,dy 35 32 34 5,af 36 35 3,aj 37 36,fD 38 5 3,fm 39 38,bB 40 .lss 37 39] 40] (cS 41 .skip (aY (.keep [1,5,9]) (.exit 0)))) (.bY 1 (.cq [aa 42 9,br 43 .sub 42 1,aa 9 43]))
def L9:F:=.mk (ah [bz 5 2 5,I.mv 6 (.k (.sl 5 true [])),bu 7] (aY (ah [aa 11 0,aa 12 1,cZ 13 qo 11 12,aa 8 13] (ah [aa 14 8,bJ 15 .neq 14] (dr 15 (aA [aa 16 8,I.mv 6 (.k (.sl 5 true [])),aa 7 16])))) (bV [aP 17 5 5,dS 18 Et 17,dz 19 18] 19 (aA [I.mv 6 (.k (.sl 5 true [])),cF 7 2]) (bV [aa 20 1,cx 21 20,br 22 .eql 21 96] 22 (aA [I.mv 6 (.k (.sl 5 true [])),cF 7 4]) (ah [aa 23 1,cx 24 23,aa 9 24] (aY (.bY 0 (.loop [0,1,5,9] RD)) (ah [aa 44 1,cx 45 44,br 46 .add 45 1,I.vH 47 5 zQ k0 (.t 46),aa 10 47] (ah [aa 48 10,aa 49 1,aa 50 9,mS 51 49 50 5,iB 52 48 51 5,aa 10 52] (ah [aa 53 10,aP 54 5 5,iu 55 5 1 zQ 54,iB 56 53 55 5,aa 10 56] (aA [aa 57 10,aa 58 1,aa 59 9,gT 60 58 59 5,iB 61 57 60 5,aa 6 61,bu 7])))))))))) [.t 6,.t 7] false none
def RE:F:=.mk (ah [cj 2 cu] (aA [aj 3 0,af 4 1 2,aj 5 4,nV 6 KU 3 5,I.build 7 cu [(11,1,.t 6)],aO 2 7 13])) [.c 2 13 true] false none
def Ma:F:=.mk (ah [cj 2 cu] (eU [0,1,2,3,4,5,6,7,8,9,10,11] [aj 3 0,cL 4 3,I.fa 5 (.t 4) 0 9,af 6 5 1,aj 7 6,af 8 1 2,aj 9 8,bB 10 .add 7 9,cL 11 3,I.fa 12 (.t 11) 0 9,af 13 12 1,aO 13 10 1] (aA [aj 14 0,pL 15 KV 14,I.build 16 cu [(11,1,fP),(12,1,.t 15)],aO 2 16 13]))) [.c 2 13 true] false none
def HG:C :=ah [bB 41 .lss 40 39] (aY (cS 41 .skip (aY (.keep [6]) (.exit 0))) (aY (.bY 1 (ah [dy 42 38 40 5,aP 43 42 5,cj 8 zQ,ep 8 43 5] (.cq [aa 44 6,af 45 8 0,aj 46 45,af 47 8 1,aj 48 47,I.build 49 jE [(0,1,.t 46),(1,1,.t 48),(3,1,fP),(4,1,.k (.i .i64 (-1)))],iu 50 5 1 jE 49,iB 51 44 50 5,aa 6 51]))) (.cq [br 52 .add 40 1,aa 40 52])))
def Mb:F:=.mk (ah [I.mv 2 (.k (.sl 5 true []))] (eU [0,1,2,3,4,5,6,7,8,9,10,11,12,13,14,15,16,17,18,19,20,21] [aa 10 0,cL 11 10,I.fa 12 (.t 11) 0 9,af 13 12 4,aj 14 13,aa 15 0,cL 16 15,I.fa 17 (.t 16) 0 9,af 18 17 1,aj 19 18,aa 20 0,cL 21 20,af 22 21 9,aj 23 22,mR 24 QZ 14 19 23,aa 9 24,cr 25 9 0,cr 26 9 1,cr 27 9 2,aa 3 25,aa 4 26,aa 5 27] (ah [aa 28 0,aa 29 0,aa 30 4,aa 31 5,cL 32 28,I.fa 33 (.t 32) 0 9,af 34 33 4,aO 34 30 1,cL 35 29,I.fa 36 (.t 35) 0 9,af 37 36 1,aO 37 31 1] (ah [I.mv 6 (.k (.sl 5 true []))] (aY (ah [aa 38 3,cx 39 38,bu 40] (.bY 0 (.loop [6,38,39,40] HG))) (aA [aa 53 6,aa 2 53])))))) [.t 2] true none
def HH:C :=ah [bB 12 .lss 11 10] (aY (cS 12 .skip (aY (.keep [4]) (.exit 0))) (aY (.bY 1 (ah [aa 13 11,dy 14 9 11 5,aP 15 14 5,cj 6 zQ,aa 5 13,ep 6 15 5] (pM [af 16 6 0,aj 17 16,bJ 18 .geq 17,aa 19 18,bg false 23 19 [af 20 6 0,aj 21 20,br 22 .lss 21 16] 22] 23 (bV [af 24 6 0,aj 25 24,I.oC 26 (.t 3) (.t 25) 16 1,aj 27 26] 27 (aY (.keep [0,3,4,9,10,11]) (.exit 1)) (.cq [af 28 6 0,aj 29 28,I.oC 30 (.t 3) (.t 29) 16 1,I.st (.t 30) fP 1 false])) (ah [aa 32 0,af 33 6 0,aj 34 33,cZ 35 iU 32 34,aa 31 35,cr 36 31 0,cr 37 31 1,aa 7 36,aa 8 37] (ah [aa 38 7,aa 39 5,bB 40 .lss 38 39] (dr 40 (aY (.keep [0,3,4,9,10,11]) (.exit 1))))) (.cq [aa 41 4,af 42 6 0,aj 43 42,iu 44 1 1 [.i .i64 0] 43,iB 45 41 44 1,aa 4 45])))) (.cq [br 46 .add 11 1,aa 11 46])))
def Mc:F:=.mk (ah [I.mv 2 (.k (.sl 1 true []))] (ah [cj 3 [.b false,.b false,.b false,.b false,.b false,.b false,.b false,.b false,.b false,.b false,.b false,.b false,.b false,.b false,.b false,.b false]] (ah [I.mv 4 (.k (.sl 1 true []))] (aY (ah [aa 9 0,cx 10 9,bu 11] (.bY 0 (.loop [0,3,4,9,10,11] HH))) (aA [aa 47 4,aa 2 47]))))) [.t 2] false none
def RF:F:=.mk (ah [I.mv 0 (.k (.sl 2 true []))] (aA [I.build 1 [.cM,.i .i64 0] [(0,1,.k (.fn Lf [] [])),(1,1,cT 8)],I.build 2 [.cM,.i .i64 0] [(0,1,.k (.fn Lg [] [])),(1,1,cT 2)],I.build 3 [.cM,.i .i64 0] [(0,1,.k (.fn Lh [] [])),(1,1,cT 2)],I.build 4 [.cM,.i .i64 0] [(0,1,.k (.fn Li [] [])),(1,1,cT 17)],I.lq 5 2 4 [.cM,.i .i64 0] [(0,.t 1),(1,.t 2),(2,.t 3),(3,.t 4)] true,aa 0 5])) [.t 0] false none
def qp:F:=.mk (ah [I.mv 2 (.k (.sl 5 true []))] (bV [aa 3 0,I.p9 4 false (.t 3) .sl] 4 (aA [I.mv 2 (.k (.sl 5 true []))]) (aA [I.lq 5 5 0 zQ [] false,aa 6 0,iB 7 5 6 5,aa 2 7]))) [.t 2] true none
def Md:F:=⟨qp.code,qp.res,false,none⟩
def RG:F:=.mk (ah [bz 1 0 1,I.mv 2 (.k .cM)] (aA [I.ij 3 Lj [] [.t 1],aa 2 3])) [.t 2] true none
def RH:F:=.mk (ah [bz 2 0 9,bU 4] (ah [af 8 2 4,aj 9 8,aa 10 1,cZ 11 iU 9 10,aa 7 11,cr 12 7 0,cr 13 7 1,aa 5 12,aa 6 13] (aA [aa 14 6,aa 4 14]))) [.t 4] false none
def ET:C :=ah [bB 55 .lss 54 53] (aY (cS 55 .skip (aY (.keep [2,3]) (.exit 0))) (aY (.bY 1 (ah [aa 56 54,aa 5 56] (ah [af 57 3 4,aj 58 57,aa 59 5,cZ 60 Q3 58 59,dz 61 60] (dr 61 (ah [bU 4] (aY (.keep [4]) .ret)))))) (.cq [br 62 .add 54 1,aa 54 62])))
def vS:F:=.mk (ah [bz 2 0 4,bz 3 1 9,bU 4] (bV [af 6 3 0,aj 7 6,I.bin 8 .neq (.t 7) (.k (.i .i64 (-1))),aa 9 8,bg true 13 9 [af 10 3 1,aj 11 10,bJ 12 .neq 11] 12,aa 14 13,bg true 18 14 [af 15 3 2,aj 16 15,bJ 17 .neq 16] 17,aa 19 18,bg true 23 19 [af 20 3 8,aj 21 20,bJ 22 .neq 21] 22,aa 24 23,bg true 33 24 [af 25 3 3,aj 26 25,cx 27 26,af 28 3 6,aj 29 28,cx 30 29,bB 31 .add 27 30,bJ 32 .gtr 31] 32,aa 34 33,bg true 41 34 [af 35 3 5,aj 36 35,cx 37 36,af 38 2 2,aj 39 38,bB 40 .gtr 37 39] 40] 41 (aA [bU 4]) (bV [af 42 3 5,aj 43 42,I.call (some 44) Q2 [.t 43,.k (.fn Hp [] [])],aa 45 44,bg true 50 45 [af 46 3 4,aj 47 46,I.call (some 48) qo [cT 1,.t 47],bJ 49 .neq 48] 49] 50 (aA [bU 4]) (aY (ah [af 51 3 4,aj 52 51,cx 53 52,bu 54] (.bY 0 (.loop [2,3,53,54] ET))) (aA [af 63 3 7,aj 64 63,dz 65 64,aa 66 65,bg true 71 66 [af 67 3 4,aj 68 67,cx 69 68,bJ 70 .eql 69] 70,aa 72 71,bg false 77 72 [aP 73 2 4,aP 74 3 9,cZ 75 Ll 73 74,dz 76 75] 76,aa 4 77]))))) [.t 4] false none
def RI:F:=.mk (ah [bU 2] (aA [aa 3 0,bJ 4 .geq 3,aa 5 4,bg false 8 5 [aa 6 0,br 7 .lss 6 16] 7,aa 2 8])) [.t 2] false none
def RJ:F:=.mk (ah [bU 2] (aA [aa 3 0,bJ 4 .geq 3,aa 5 4,bg false 8 5 [aa 6 0,br 7 .leq 6 9] 7,aa 2 8])) [.t 2] false none
def RK:F:=.mk (ah [I.mv 0 (.k .ue)] (aA [I.mB 1,I.fE (.t 1) (cT 64) (.k (.fn AL [] [])) [.i],I.fE (.t 1) (cT 65) (.k (.fn sw [] [])) [.i],I.fE (.t 1) (cT 66) (.k (.fn Cx [] [])) [.i],aa 2 1,aa 0 2])) [.t 0] true none
def Me:F:=.mk (ah [bU 2] (aA [aa 3 0,I.bin 4 .geq (.t 3) (.k (.i .i64 (-1099511627776))),aa 5 4,bg false 8 5 [aa 6 0,br 7 .leq 6 1099511627776] 7,aa 2 8])) [.t 2] false none
def EU:F:=.mk (ah [iN 2 0 4,iN 3 1 9,I.mv 4 (.k .nil)] (eU [0,1,3,4,2,6,5,7,8,9] [af 5 3 5,aj 6 5,af 8 3 4,aj 9 8,lC 7 s9 6,.re (.fa 8 (.t 3) 4 1),.re (.ld 9 (.t 8) 1 false),af 11 3 5,lC 10 sv 9,.re (.fa 11 (.t 3) 5 1),aO 11 7 1,af 12 3 4,aO 12 10 1] (aA [af 13 2 2,aj 14 13,aP 15 3 9,I.build 16 [.i .i64 0,.i .i64 0,.i .i64 0,.i .i64 0,.sl 1 true [],.sl 5 true [],.sl 1 true [],.sl 2 true [],.b false,.i .i64 0,.sl 5 true []] [(0,1,.t 14),(1,9,.t 15)],iN 17 16 11,aa 4 17]))) [.t 4] true none
def Mf:C :=ah [bB 50 .lss 49 48] (aY (cS 50 .skip (aY (.keep [0,1,9,10,11]) (.exit 2))) (aY (.bY 3 (ah [dy 51 47 49 1,aj 52 51,aa 8 52] (ah [aa 53 8,dS 54 Lm 53,dz 55 54] (dr 55 (ah [bU 4] (aY (.keep [4]) .ret)))))) (.cq [br 56 .add 49 1,aa 49 56])))
def Mg:C :=ah [bB 12 .lss 11 10] (aY (cS 12 .skip (aY (.keep []) (.exit 0))) (aY (.bY 1 (ah [aa 13 11,dy 14 9 11 2,aP 15 14 2,cj 6 [.i .i64 0,.sl 1 true []],aa 5 13,ep 6 15 2] (aY (eU [0,1,2,3,4,5,6,7,8,9,10,11,12,13,14,15,16,17,18,19,20,21,22,23,24,25,26,27,28,29] [fD 16 6 0,fm 17 16,bJ 18 .lss 17,aa 19 18,bg true 23 19 [fD 20 6 0,fm 21 20,br 22 .geq 21 16] 22,aa 24 23,bg true 38 24 [aa 25 5,bJ 26 .gtr 25,aa 27 26,bg false 37 27 [aa 28 1,aa 29 5,br 30 .sub 29 1,dy 31 28 30 2,af 32 31 0,aj 33 32,fD 34 6 0,fm 35 34,bB 36 .geq 33 35] 36] 37,aa 39 38,bg true 45 39 [fD 40 6 1,fm 41 40,cx 42 41,aa 43 0,bB 44 .gtr 42 43] 44] (dr 45 (ah [bU 4] (aY (.keep [4]) .ret)))) (ah [af 46 6 1,aj 47 46,cx 48 47,bu 49] (.bY 2 (.loop [0,1,9,10,11,47,48,49] Mf)))))) (.cq [br 57 .add 11 1,aa 11 57])))
def RL:F:=.mk (ah [bU 4] (aY (ah [aa 9 1,cx 10 9,bu 11] (.bY 0 (.loop [0,1,9,10,11] Mg))) (aA [iA 4]))) [.t 4] false none
def Mh:C :=ah [bB 18 .lss 17 16] (aY (cS 18 .skip (aY (.keep []) (.exit 0))) (aY (.bY 1 (ah [aa 19 17,dy 20 15 17 5,aP 21 20 5,cj 6 zQ,aa 5 19,ep 6 21 5] (aY (ah [af 23 3 4,aj 24 23,af 25 6 0,aj 26 25,cZ 27 iU 24 26,aa 22 27,cr 28 22 0,cr 29 22 1,aa 7 28,aa 8 29] (ah [aa 30 7,aa 31 5,bB 32 .neq 30 31,aa 33 32,bg true 37 33 [af 34 6 4,aj 35 34,I.bin 36 .neq (.t 35) (.k (.i .i64 (-1)))] 36] (dr 37 (ah [bU 4] (aY (.keep [4]) .ret))))) (ah [af 38 6 1,aj 39 38] (.bY 2 (ah [br 41 .eql 39 70,aa 40 41] (cS 40 (ah [aP 42 3 9,af 43 6 0,aj 44 43,cZ 45 yX 42 44,aa 9 45] (ah [aa 46 9,bJ 47 .lss 46,aa 48 47,bg true 57 48 [af 49 3 6,aj 50 49,aa 51 9,dy 52 50 51 2,af 53 52 1,aj 54 53,cx 55 54,bJ 56 .gtr 55] 56,aa 58 57,bg true 62 58 [af 59 6 2,aj 60 59,bJ 61 .neq 60] 61] (dr 62 (ah [bU 4] (aY (.keep [4]) .ret))))) (ah [br 64 .eql 39 68,aa 63 64] (cS 63 (ah [aa 65 0,aP 66 3 9,cZ 67 AK 65 66,dz 68 67] (dr 68 (ah [bU 4] (aY (.keep [4]) .ret)))) (ah [bU 4] (aY (.keep [4]) .ret))))))))))) (.cq [br 69 .add 17 1,aa 17 69])))
def Mi:F:=.mk (ah [bz 3 1 9,bU 4] (bV [af 10 3 4,aj 11 10,I.call (some 12) qo [cT 1,.t 11],bJ 13 .neq 12] 13 (aA [bU 4]) (aY (ah [af 14 3 4,aj 15 14,cx 16 15,bu 17] (.bY 0 (.loop [0,3,15,16,17] Mh))) (aA [iA 4])))) [.t 4] false none
def vT:F:=.mk (ah [bz 2 0 9,bz 3 1 5,bu 4] (bV [af 8 3 0,aj 9 8,bJ 10 .lss 9,aa 11 10,bg true 15 11 [af 12 3 0,aj 13 12,br 14 .geq 13 16] 14,aa 16 15,bg true 20 16 [af 17 3 3,aj 18 17,bJ 19 .lss 18] 19,aa 21 20,bg true 25 21 [af 22 3 3,aj 23 22,br 24 .gtr 23 9] 24,aa 26 25,bg true 30 26 [af 27 3 4,aj 28 27,bJ 29 .lss 28] 29,aa 31 30,bg true 35 31 [af 32 3 4,aj 33 32,br 34 .gtr 33 1099511627776] 34] 35 (aA [cF 4 2]) (aY (ah [af 36 3 1,aj 37 36] (.bY 0 (pM [br 39 .eql 37 68,aa 38 39] 38 .skip (ah [br 40 .eql 37 69,aa 38 40] (cS 38 .skip (ah [br 41 .eql 37 70,aa 38 41] (cS 38 .skip (.cq [br 42 .eql 37 71,aa 38 42]))))) (cS 38 .skip (aA [cF 4 8]))))) (bV [af 43 3 1,aj 44 43,br 45 .eql 44 68,aa 46 45,bg false 51 46 [af 47 3 2,aj 48 47,dS 49 Lm 48,dz 50 49] 50] 51 (aA [cF 4 2]) (aY (ah [af 53 2 4,aj 54 53,af 55 3 0,aj 56 55,cZ 57 iU 54 56,aa 52 57,cr 58 52 0,cr 59 52 1,aa 5 58,aa 6 59] (ah [aa 60 6] (dr 60 (aA [cF 4 17])))) (ah [aP 61 2 9,af 62 3 0,aj 63 62,cZ 64 yX 61 63,bJ 65 .geq 64,aa 7 65] (bV [af 66 3 1,aj 67 66,br 68 .eql 67 69,aa 69 68,bg false 71 69 [aa 70 7] 70] 71 (aA [cF 4 6]) (bV [af 72 3 1,aj 73 72,br 74 .eql 73 71,aa 75 74,bg true 79 75 [af 76 3 1,aj 77 76,br 78 .eql 77 70] 78,aa 80 79,bg false 83 80 [aa 81 7,dz 82 81] 82] 83 (aA [cF 4 20]) (aA [bu 4]))))))))) [.t 4] false none
def RM:F:=.mk (ah [iN 2 0 4,iN 3 1 9,I.mv 4 (.k .nil)] (ah [af 5 3 6,aj 6 5,lC 7 Hq 6,af 8 3 6,aO 8 7 1] (ah [af 9 3 4,aj 10 9,lC 11 sv 10,af 12 3 4,aO 12 11 1] (aA [af 13 2 2,aj 14 13,aP 15 3 9,I.build 16 [.i .i64 0,.i .i64 0,.i .i64 0,.i .i64 0,.sl 1 true [],.sl 5 true [],.sl 1 true [],.sl 2 true [],.b false,.i .i64 0,.sl 5 true []] [(0,1,.t 14),(1,9,.t 15)],iN 17 16 11,aa 4 17])))) [.t 4] true none
def RN:F:=.mk (ah [cj 2 cu] (ah [aj 3 0,af 4 1 0,aj 5 4,nV 6 QJ 3 5] (aA [I.build 7 cu [(11,1,fP)],aO 2 7 13]))) [.c 2 13 true] false none
def EV:C :=pM [aa 5 4,aa 6 0,cL 7 6,I.fa 8 (.t 7) 1 9,af 9 8 6,aj 10 9,cx 11 10,bB 12 .lss 5 11,aa 13 12,bg false 25 13 [aa 14 0,cL 15 14,I.fa 16 (.t 15) 1 9,af 17 16 6,aj 18 17,aa 19 4,dy 20 18 19 2,af 21 20 0,aj 22 21,aa 23 1,bB 24 .lss 22 23] 24] 25 .skip (aY (.keep [0,1,4]) (.exit 0)) (.bY 1 (.cq [aa 26 4,br 27 .add 26 1,aa 4 27]))
def Mj:F:=.mk (ah [bu 4] (aY (.bY 0 (.loop [0,1,4] EV)) (.cq [aa 28 0,aa 29 0,cL 30 29,I.fa 31 (.t 30) 1 9,af 32 31 6,aj 33 32,aa 34 4,aa 35 1,I.build 36 [.i .i64 0,.sl 1 true []] [(0,1,.t 35)],iu 37 2 1 [.i .i64 0,.sl 1 true []] 36,yZ 38 Q4 33 34 37,cL 39 28,I.fa 40 (.t 39) 1 9,af 41 40 6,aO 41 38 1]))) [] true none
def Mk:F:=.mk (ah [cj 2 cu] (eU [0,1,2,3,4,5,6,7] [aj 4 0,cL 5 4,I.fa 6 (.t 5) 1 9,aP 7 6 9,af 8 1 0,aj 9 8,I.calls (some 10) yX [.t 7,.t 9],aa 3 10] (eU [0,1,2,3,4,5,6,7,8,9,10,11,12,13] [aj 11 0,aj 12 0,cL 13 12,I.fa 14 (.t 13) 1 9,af 15 14 6,aj 16 15,aa 17 3,aa 18 3,br 19 .add 18 1,yZ 20 Hj 16 17 19,.re (.ld 11 (.t 0) 1 false),cL 21 11,I.fa 22 (.t 21) 1 9,af 23 22 6,aO 23 20 1] (ah [aj 24 0,pL 25 Er 24] (aA [I.build 26 cu [(11,1,fP)],aO 2 26 13]))))) [.c 2 13 true] false none
def RO:F:=.mk (ah [bz 2 0 9,bz 3 1 1,bu 4] (aA [af 5 2 6,aj 6 5,I.ij 7 Ln [] [.t 3],cZ 8 En 6 7,aa 4 8])) [.t 4] false none
def EW:F:=.mk (ah [I.mv 6 (.k (.sl 2 true []))] (ah [aa 8 0,aa 9 1,aa 10 2,aa 11 0,cx 12 11,I.qQ 13 (.t 8) (.t 9) (.t 10) (.t 12) 2] (bV [aa 14 1,aa 15 2,bB 16 .eql 14 15] 16 (aA [aa 17 0,aa 6 17]) (ah [aa 18 0,cx 19 18,aa 7 19] (eU [0,1,2,3,4,5,6,7] [aa 20 0,aa 21 1,mS 22 20 21 2,aa 23 0,aa 24 2,gT 25 23 24 2,iB 26 22 25 2,aa 0 26] (ah [aa 27 0,aa 28 0,cx 29 28,aa 30 7,I.sl 31 (.t 27) (some (.t 29)) (some (.t 30)) 2,I.qg none (.t 31) 2 [.i .i64 0,.sl 1 true []]] (aA [aa 32 0,aa 6 32]))))))) [.t 6] true none
def HI:C :=.cq [cj 2 zQ,ep 2 5 5]
def HJ:C :=.bY 1 (ah [aj 6 1,aP 7 2 5,I.jf (some 8) Hr [.t 6,.t 7,k0]] (.cq [aj 9 1,af 10 2 2,aj 11 10,nV 12 K0 9 11]))
def xV:F:=.mk (aY (aY (.xE 0 5) (.cq [bz 1 0 1])) (ah [aj 3 1,pL 4 Q5 3] (.bY 0 (.qU (.t 4) [1] [5] HI HJ)))) [] true none
def uG:F:=.mk (ah [cj 2 cu] (ah [aj 4 0,cL 5 4,I.fa 6 (.t 5) 1 9,af 7 6 4,aj 8 7,I.calls (some 9) ur [.t 8,.k (.fn Hl [] [])],aa 3 9] (aY (eU [0,1,2,3,4,5,6,7,8,9,10,11] [aa 10 3,aa 11 10,bg true 21 11 [aj 12 0,cL 13 12,af 14 13 0,aj 15 14,aj 16 0,cL 17 16,I.fa 18 (.t 17) 1 9,aP 19 18 9,I.calls (some 20) AK [.t 15,.t 19]] 20] (dr 21 (ah [aj 22 0,aP 23 1 5,af 24 1 2,aj 25 24,yZ 26 KZ 22 23 25] (aA [I.build 27 cu [(9,1,fP)],aO 2 27 13])))) (ah [aj 28 0,af 29 1 2,aj 30 29,nV 31 K0 28 30] (aA [I.build 32 cu [(11,1,fP)],aO 2 32 13]))))) [.c 2 13 true] false none
def RP:F:=.mk (ah [bz 1 0 5,bU 2] (aA [af 3 1 1,aj 4 3,br 5 .eql 4 68,aa 2 5])) [.t 2] false none
def RQ:F:=.mk (ah [bz 2 0 1,bz 3 1 9,bU 4] (aA [af 5 3 6,aj 6 5,I.ij 7 Lo [] [.t 2,.t 3],cZ 8 Q6 6 7,aa 4 8])) [.t 4] false none
def Ml:F:=.mk (ah [bz 4 1 5] (.lu [] [0,1,2,3,4,5,6,7,8,9,10,11,12,13,14,15,16,17,18,19] [aa 6 0,aa 7 0,cL 8 7,I.fa 9 (.t 8) 1 9,af 10 9 4,aj 11 10,fD 12 4 0,fm 13 12,fD 14 4 1,fm 15 14,aa 16 2,fD 17 4 3,fm 18 17,I.build 19 zQ [(0,1,.t 13),(1,1,.t 15),(2,1,.t 16),(3,1,.t 18),(4,1,.k (.i .i64 (-1)))],iu 20 5 1 zQ 19,I.sn 21 (.t 11) (.t 20) 5,cL 22 6,I.fa 23 (.t 22) 1 9,af 24 23 4,aO 24 21 1])) [] true none
def AT:C :=ah [bB 16 .lss 15 14] (aY (cS 16 .skip (aY (.keep [0,1]) (.exit 0))) (aY (.bY 1 (ah [aa 17 15,aa 4 17] (ah [aa 18 0,cL 19 18,I.fa 20 (.t 19) 1 9,af 21 20 6,aj 22 21,aa 23 4,dy 24 22 23 2,aa 5 24] (eU [0,1,2,3,4,5,6,7,8,9] [aa 25 0,cL 26 25,I.fa 27 (.t 26) 1 9,aP 28 27 9,aa 29 5,cL 30 29,af 31 30 0,aj 32 31,I.calls (some 33) Ht [.t 28,.t 32,cT 70],dz 34 33] (dr 34 (.cq [aa 35 5,aa 36 5,cL 37 36,af 38 37 1,aj 39 38,lC 40 s9 39,aa 41 1,iu 42 1 1 [.i .i64 0] 41,I.sn 43 (.t 40) (.t 42) 1,cL 44 35,af 45 44 1,aO 45 43 1])))))) (.cq [br 46 .add 15 1,aa 15 46])))
def AU:C :=ah [bB 54 .lss 53 52] (aY (cS 54 .skip (aY (.keep [0,6]) (.exit 2))) (aY (.bY 3 (ah [dy 55 51 53 5,aP 56 55 5,cj 8 zQ,ep 8 56 5] (ah [af 57 8 1,aj 58 57,br 59 .eql 58 70] (cS 59 (.cq [aa 60 0,aP 61 8 5,aa 62 1,yZ 63 Hr 60 61 62]) (.cq [aa 64 6,aP 65 8 5,iu 66 5 1 zQ 65,iB 67 64 66 5,aa 6 67]))))) (.cq [br 68 .add 53 1,aa 53 68])))
def AV:F:=.mk (aY (aY (aY (.xE 0 5) (.cq [aa 9 0,cL 10 9,I.fa 11 (.t 10) 1 9,af 12 11 6,aj 13 12,cx 14 13,bu 15])) (.bY 0 (.loop [0,1,14,15] AT))) (ah [I.mv 6 (.k (.sl 5 true []))] (aY (ah [aa 47 0,cL 48 47,I.fa 49 (.t 48) 1 9,af 50 49 4,aj 51 50,cx 52 51,bu 53] (.bY 2 (.loop [0,1,6,51,52,53] AU))) (aY (.oD [6]) (.cq [aa 69 0,aa 70 6,cL 71 69,I.fa 72 (.t 71) 1 9,af 73 72 4,aO 73 70 1]))))) [] true none
def HK:F:=.mk (ah [cj 2 cu] (aA [aj 3 0,aP 4 1 5,nV 5 K2 3 4,aO 2 5 13])) [.c 2 13 true] false none
def EX:F:=.mk (ah [bz 3 1 5,cj 4 cu] (eU [0,1,2,3,4,5,6,7,8,9,10,11,12,13] [aa 9 0,cL 10 9,I.fa 11 (.t 10) 1 9,af 12 11 6,aj 13 12,aa 14 0,cL 15 14,I.fa 16 (.t 15) 1 9,aP 17 16 9,fD 18 3 0,fm 19 18,I.calls (some 20) yX [.t 17,.t 19],dy 21 13 20 2,aa 5 21] (bV [aa 22 5,cL 23 22,af 24 23 1,aj 25 24,cx 26 25,bJ 27 .gtr 26] 27 (ah [aa 28 5,cL 29 28,af 30 29 1,aj 31 30,I.jk 32 (.t 31) k0 1,aj 33 32,aa 6 33] (ah [aa 34 5,aa 35 5,cL 36 35,af 37 36 1,aj 38 37,I.sl 39 (.t 38) (some (cT 1)) none 1,dS 40 QV 39,cL 41 34,af 42 41 1,aO 42 40 1] (ah [aa 43 0,pL 44 Er 43] (aA [aa 45 6,I.build 46 cu [(10,1,.t 45),(11,1,fP)],aO 4 46 13])))) (ah [aa 47 0,aP 48 3 5,I.jf (some 49) KZ [.t 47,.t 48,k0]] (ah [aa 50 0,pL 51 Er 50] (ah [aa 52 0,cL 53 52,af 54 53 10,aj 55 54,I.ij 56 Hu [] [.t 3],I.calls (some 57) Lp [.t 55,.t 56],aa 7 57] (bV [aa 58 7,bJ 59 .lss 58] 59 (aA [I.build 60 cu [(9,1,fP)],aO 4 60 13]) (ah [aa 61 0,cL 62 61,af 63 62 10,aj 64 63,aa 65 7,dy 66 64 65 5,af 67 66 2,aj 68 67,aa 8 68] (ah [aa 69 0,aa 70 0,cL 71 70,af 72 71 10,aj 73 72,aa 74 7,aa 75 7,br 76 .add 75 1,I.nj 77 Q7 [.t 73,.t 74,.t 76],cL 78 69,af 79 78 10,aO 79 77 1] (aA [aa 80 8,I.build 81 cu [(10,1,.t 80),(11,1,fP)],aO 4 81 13])))))))))) [.c 4 13 true] true none
def AW:F:=.mk (ah [bz 3 0 4,bz 4 1 9,bz 5 2 5,bu 6] (aY (ah [aP 8 3 4,aP 9 4 9,cZ 10 nU 8 9,aa 7 10] (ah [aa 11 7,bJ 12 .neq 11] (dr 12 (aA [aa 13 7,aa 6 13])))) (bV [af 14 5 1,aj 15 14,br 16 .neq 15 72,aa 17 16,bg false 21 17 [af 18 5 1,aj 19 18,br 20 .neq 19 75] 20] 21 (aA [cF 6 8]) (bV [af 22 5 4,aj 23 22,af 24 4 2,aj 25 24,bB 26 .lss 23 25,aa 27 26,bg true 31 27 [af 28 5 4,aj 29 28,br 30 .gtr 29 1099511627776] 30] 31 (aA [cF 6 2]) (bV [af 32 5 1,aj 33 32,br 34 .eql 33 75] 34 (aA [bu 6]) (bV [af 35 5 0,aj 36 35,bJ 37 .lss 36,aa 38 37,bg true 42 38 [af 39 5 0,aj 40 39,br 41 .geq 40 16] 41,aa 43 42,bg true 47 43 [af 44 5 3,aj 45 44,bJ 46 .lss 45] 46,aa 48 47,bg true 52 48 [af 49 5 3,aj 50 49,br 51 .gtr 50 9] 51,aa 53 52,bg true 57 53 [af 54 5 2,aj 55 54,br 56 .lss 55 1] 56,aa 58 57,bg true 64 58 [af 59 5 2,aj 60 59,af 61 3 2,aj 62 61,bB 63 .gtr 60 62] 63] 64 (aA [cF 6 2]) (bV [aP 65 4 9,af 66 5 0,aj 67 66,cZ 68 K4 65 67] 68 (aA [cF 6 17]) (aA [bu 6])))))))) [.t 6] false none
def Mm:F:=.mk (ah [bz 2 0 13,cj 4 zR] (ah [I.fa 7 (.t 2) 4 9,aP 8 7 9,cj 5 zR,aO 5 8 9] (ah [aa 9 1,af 10 5 2,aj 11 10,bB 12 .sub 9 11,I.fa 13 (.t 2) 0 4,af 14 13 3,aj 15 14,bB 16 .quo 12 15,aa 6 16] (bV [af 17 5 1,aj 18 17,aa 19 6,bB 20 .add 18 19,I.fa 21 (.t 2) 0 4,af 22 21 2,aj 23 22,bB 24 .geq 20 23] 24 (ah [I.fa 25 (.t 2) 0 4,af 26 25 2,aj 27 26,aa 28 1,af 29 5 1,aO 29 27 1,af 30 5 2,aO 30 28 1] (aA [aP 31 5 9,aO 4 31 9])) (ah [af 32 5 1,aj 33 32,aa 34 6,bB 35 .add 33 34,af 36 5 1,aO 36 35 1] (ah [af 37 5 2,aj 38 37,aa 39 6,I.fa 40 (.t 2) 0 4,af 41 40 3,aj 42 41,bB 43 .mul 39 42,bB 44 .add 38 43,af 45 5 2,aO 45 44 1] (aA [aP 46 5 9,aO 4 46 9]))))))) [.c 4 9 true] false none
def RS:F:=.mk (ah [iN 1 0 9,I.mv 2 (.k .cM)] (aA [I.ij 3 Lq [] [.t 1],aa 2 3])) [.t 2] true none
def RT:F:=.mk (ah [bz 2 0 9,bU 4] (ah [af 8 2 4,aj 9 8,aa 10 1,cZ 11 iU 9 10,aa 7 11,cr 12 7 0,cr 13 7 1,aa 5 12,aa 6 13] (aA [aa 14 6,aa 4 14]))) [.t 4] false none
def y9:F:=.mk (ah [bz 1 0 9,bU 2] (bV [aP 3 1 9,dS 4 Lr 3,dz 5 4,aa 6 5,bg true 12 6 [I.fa 7 (.t 1) 0 9,af 8 7 8,aj 9 8,dS 10 K6 9,dz 11 10] 11,aa 13 12,bg true 17 13 [aP 14 1 9,dS 15 Ls 14,dz 16 15] 16] 17 (aA [bU 2]) (bV [I.fa 18 (.t 1) 0 9,af 19 18 7,aj 20 19] 20 (aA [I.fa 21 (.t 1) 0 9,af 22 21 4,aj 23 22,cx 24 23,bJ 25 .eql 24,aa 2 25]) (aA [I.fa 26 (.t 1) 0 9,af 27 26 8,aj 28 27,bJ 29 .eql 28,aa 2 29])))) [.t 2] false none
def RU:F:=.mk (ah [bU 2] (aA [aa 3 0,I.bin 4 .geq (.t 3) (.k (.i .i64 (-1099511627776))),aa 5 4,bg false 8 5 [aa 6 0,br 7 .leq 6 1099511627776] 7,aa 2 8])) [.t 2] false none
def RW:F:=.mk (ah [bz 2 0 9,bU 4] (ah [I.fa 8 (.t 2) 0 9,af 9 8 4,aj 10 9,aa 11 1,cZ 12 iU 10 11,aa 7 12,cr 13 7 0,cr 14 7 1,aa 5 13,aa 6 14] (aA [aa 15 6,aa 4 15]))) [.t 4] false none
def Mn:C :=ah [bB 13 .lss 12 11] (aY (cS 13 .skip (aY (.keep [1,2,4,5]) (.exit 0))) (aY (.bY 1 (ah [dy 14 10 12 5,aP 15 14 5,cj 7 zQ,ep 7 15 5] (.cq [aa 16 5,af 17 7 0,aj 18 17,af 19 7 1,aj 20 19,aa 21 1,I.build 22 jE [(0,1,.t 18),(1,1,.t 20),(2,1,.t 21),(3,1,fP),(4,1,.k (.i .i64 (-1)))],iu 23 5 1 jE 22,iB 24 16 23 5,aa 5 24]))) (.cq [br 25 .add 12 1,aa 12 25])))
def Mo:F:=.mk (ah [iN 2 0 9,cj 4 cu] (ah [I.mv 5 (.k (.sl 5 true []))] (aY (ah [I.fa 8 (.t 2) 0 9,af 9 8 4,aj 10 9,cx 11 10,bu 12] (.bY 0 (.loop [1,2,4,5,10,11,12] Mn))) (ah [aa 26 1,I.fa 27 (.t 2) 0 9,af 28 27 7,I.st (.t 28) fP 1 false,I.fa 29 (.t 2) 0 9,af 30 29 8,aO 30 26 1,I.fa 31 (.t 2) 0 9,af 32 31 4,I.st (.t 32) (.k (.sl 5 true [])) 1 false] (aA [I.fa 33 (.t 2) 0 9,aP 34 33 9,aa 35 5,I.build 36 cu [(0,9,.t 34),(11,1,fP),(12,1,.t 35)],aO 4 36 13]))))) [.c 4 13 true] false none
def HL:F:=.mk (ah [iN 2 0 9,bz 3 1 5,cj 4 cu] (bV [I.fa 5 (.t 2) 0 9,af 6 5 7,aj 7 6] 7 (aA [I.fa 8 (.t 2) 0 9,aP 9 8 9,I.fa 10 (.t 2) 0 9,af 11 10 8,aj 12 11,I.build 13 cu [(0,9,.t 9),(10,1,.t 12),(11,1,fP)],aO 4 13 13]) (eU [0,1,2,4,5,6,7,8,9,3,10,11,12,13] [I.fa 14 (.t 2) 0 9,af 15 14 4,aj 16 15,fD 18 3 0,fm 19 18,fD 20 3 3,fm 21 20,I.build 22 zQ [(0,1,.t 19),(1,1,cT 74),(3,1,.t 21),(4,1,.k (.i .i64 (-1)))],iu 23 5 1 zQ 22,lC 17 sv 16,iB 24 17 23 5,I.fa 25 (.t 2) 0 9,af 26 25 4,aO 26 24 1] (aA [I.fa 27 (.t 2) 0 9,aP 28 27 9,I.build 29 cu [(0,9,.t 28),(9,1,fP)],aO 4 29 13])))) [.c 4 13 true] false none
def Mp:F:=.mk (ah [I.mv 4 (.k (.sl 10 true []))] (bV [aa 5 1,bJ 6 .lss 5] 6 (.cq [I.bad (some 7),I.bad none]) (aY (ah [aa 8 1,aa 9 0,I.cap 10 (.t 9),aa 11 0,cx 12 11,bB 13 .sub 10 12,bB 14 .sub 8 13,aa 1 14] (ah [aa 15 1,bJ 16 .gtr 15] (dr 16 (.cq [aa 17 0,aa 18 0,I.cap 19 (.t 18),mS 20 17 19 10,aa 21 1,I.qR 22 (.t 20) (.t 21) 10 [.i .i64 0,.i .i64 0,.i .i64 0,.i .i64 0,.i .i64 0,.i .i64 0,.i .i64 0,.i .i64 0,.b false,.i .i64 0],aa 23 0,cx 24 23,mS 25 22 24 10,aa 0 25])))) (aA [aa 26 0,aa 4 26])))) [.t 4] true none
def RX:F:=.mk (ah [bz 2 0 5,bU 3] (aA [af 4 2 0,aj 5 4,af 6 1 0,aj 7 6,bB 8 .eql 5 7,aa 3 8])) [.t 3] false none
def EY:F:=.mk (ah [iN 2 0 9,bz 3 1 5,cj 4 cu,bu 5] (aY (ah [af 9 2 0,aj 10 9] (.bY 0 (ah [I.bin 12 .eql (.t 10) (.k (.i .i64 (-1))),aa 11 12] (cS 11 (ah [af 13 3 0,aj 14 13,af 15 2 0,aO 15 14 1] (aA [aP 16 2 9,I.build 17 cu [(0,9,.t 16),(11,1,fP)],aO 4 17 13,bu 5])) (ah [af 19 3 0,aj 20 19,bB 21 .eql 10 20,aa 18 21] (dr 18 (aA [dK 22 cu,aO 4 22 13,cF 5 17]))))))) (ah [af 24 2 4,aj 25 24,af 26 3 3,aj 27 26,I.call (some 28) Q8 [.t 25,.t 27,.k (.fn Eu [] [])],aa 23 28,cr 29 23 0,cr 30 23 1,aa 6 29,aa 7 30] (ah [af 31 3 0,aj 32 31,af 33 3 3,aj 34 33,I.build 35 zQ [(0,1,.t 32),(1,1,cT 50),(3,1,.t 34),(4,1,.k (.i .i64 (-1)))],cj 8 zQ,ep 8 35 5] (eU [0,1,3,4,5,2,6,7,8] [af 36 2 4,aj 37 36,aa 39 6,gS 40 8 5,iu 41 5 1 zQ 40,lC 38 sv 37,yZ 42 Xq 38 39 41,af 43 2 4,aO 43 42 1] (aA [aP 44 2 9,I.build 45 cu [(0,9,.t 44),(9,1,fP)],aO 4 45 13,bu 5])))))) [.c 4 13 true,.t 5] false none
def Mq:F:=.mk (ah [bz 2 0 9,bz 3 1 5,cj 4 cu,bu 5] (bV [af 6 2 0,aj 7 6,bJ 8 .geq 7] 8 (aA [aP 9 2 9,I.build 10 cu [(0,9,.t 9)],aO 4 10 13,bu 5]) (aA [aP 11 2 9,aP 12 3 5,cZ 13 Ho 11 12,cr 14 13 0,cr 15 13 1,aO 4 14 13,aa 5 15]))) [.c 4 13 true,.t 5] false none
def HM:F:=.mk (ah [iN 2 0 9,bz 3 1 5,cj 4 cu,bu 5] (bV [af 6 2 0,aj 7 6,af 8 3 0,aj 9 8,bB 10 .neq 7 9] 10 (aA [dK 11 cu,aO 4 11 13,cF 5 20]) (bV [af 12 2 4,aj 13 12,cx 14 13,bJ 15 .eql 14] 15 (ah [af 16 2 0,I.st (.t 16) (.k (.i .i64 (-1))) 1 false] (aA [aP 17 2 9,I.build 18 cu [(0,9,.t 17),(11,1,fP)],aO 4 18 13,bu 5])) (ah [af 19 2 4,aj 20 19,I.jk 21 (.t 20) k0 5,af 22 21 0,aj 23 22,af 24 2 0,aO 24 23 1] (ah [af 25 2 4,aj 26 25,I.sl 27 (.t 26) (some (cT 1)) none 5,lC 28 sv 27,af 29 2 4,aO 29 28 1] (aA [aP 30 2 9,af 31 2 0,aj 32 31,I.build 33 jE [(0,1,.t 32),(1,1,cT 50),(3,1,fP),(4,1,.k (.i .i64 (-1)))],iu 34 5 1 jE 33,I.build 35 cu [(0,9,.t 30),(11,1,fP),(12,1,.t 34)],aO 4 35 13,bu 5])))))) [.c 4 13 true,.t 5] false none
def RY:F:=.mk (ah [bz 2 0 5,bU 3] (aA [af 4 2 0,aj 5 4,aj 6 1,bB 7 .eql 5 6,aa 3 7])) [.t 3] false none
def Mr:C :=ah [bB 11 .lss 10 9] (aY (cS 11 .skip (aY (.keep [5]) (.exit 0))) (aY (.bY 1 (ah [dy 12 8 10 5,aP 13 12 5,cj 7 zQ,ep 7 13 5] (ah [aa 14 1,aP 15 7 5,uC 16 14 15] (dr 16 (.cq [aa 17 5,aP 18 7 5,iu 19 5 1 zQ 18,iB 20 17 19 5,aa 5 20]))))) (.cq [br 21 .add 10 1,aa 10 21])))
def Ms:F:=.mk (ah [I.mv 4 (.k (.sl 5 true []))] (ah [I.mv 5 (.k (.sl 5 true []))] (aY (ah [aa 8 0,cx 9 8,bu 10] (.bY 0 (.loop [1,5,8,9,10] Mr))) (aA [aa 22 5,aa 4 22])))) [.t 4] false none
def adm:C :=ah [bB 11 .lss 10 9] (aY (cS 11 .skip (aY (.keep [5]) (.exit 0))) (aY (.bY 1 (ah [dy 12 8 10 5,aP 13 12 5,cj 7 zQ,ep 7 13 5] (ah [aa 14 1,aP 15 7 5,uC 16 14 15] (dr 16 (.cq [aa 17 5,aP 18 7 5,iu 19 5 1 zQ 18,iB 20 17 19 5,aa 5 20]))))) (.cq [br 21 .add 10 1,aa 10 21])))
def adn:F:=.mk (ah [I.mv 4 (.k (.sl 5 true []))] (ah [I.mv 5 (.k (.sl 5 true []))] (aY (ah [aa 8 0,cx 9 8,bu 10] (.bY 0 (.loop [1,5,8,9,10] adm))) (aA [aa 22 5,aa 4 22])))) [.t 4] true none
def EZ:C :=ah [bB 11 .lss 10 9] (aY (cS 11 .skip (aY (.keep [5]) (.exit 0))) (aY (.bY 1 (ah [dy 12 8 10 5,aP 13 12 5,cj 7 zQ,ep 7 13 5] (ah [aa 14 1,aP 15 7 5,I.pF (some 16) (.t 14) [.t 15]] (dr 16 (.cq [aa 17 5,aP 18 7 5,iu 19 5 1 zQ 18,iB 20 17 19 5,aa 5 20]))))) (.cq [br 21 .add 10 1,aa 10 21])))
def RZ:F:=.mk (ah [I.mv 4 (.k (.sl 5 true []))] (ah [I.mv 5 (.k (.sl 5 true []))] (aY (ah [aa 8 0,cx 9 8,bu 10] (.bY 0 (.loop [1,5,8,9,10] EZ))) (aA [aa 22 5,aa 4 22])))) [.t 4] true none
def R0:F:=.mk (ah [bz 2 0 5,bU 3] (aA [af 4 2 0,aj 5 4,aj 6 1,bB 7 .neq 5 6,aa 3 7])) [.t 3] false none
def E0:C :=ah [bB 16 .lss 15 14] (aY (cS 16 .skip (aY (.keep [1]) (.exit 0))) (aY (.bY 1 (ah [aa 17 15,dy 18 13 15 5,aP 19 18 5,cj 4 zQ,aa 3 17,ep 4 19 5] (ah [af 21 1 4,aj 22 21,af 23 4 0,aj 24 23,cZ 25 iU 22 24,aa 20 25,cr 26 20 0,cr 27 20 1,aa 5 26,aa 6 27] (ah [aa 28 5,aa 29 3,bB 30 .neq 28 29,aa 31 30,bg true 40 31 [af 32 4 1,aj 33 32,br 34 .neq 33 53,aa 35 34,bg false 39 35 [af 36 4 1,aj 37 36,br 38 .neq 37 55] 38] 39,aa 41 40,bg true 45 41 [af 42 4 2,aj 43 42,bJ 44 .neq 43] 44,aa 46 45,bg true 50 46 [af 47 4 4,aj 48 47,I.bin 49 .neq (.t 48) (.k (.i .i64 (-1)))] 49,aa 51 50,bg true 57 51 [aP 52 1 9,af 53 4 0,aj 54 53,cZ 55 KS 52 54,bJ 56 .neq 55] 56] (dr 57 (ah [bU 2] (aY (.keep [2]) .ret))))))) (.cq [br 58 .add 15 1,aa 15 58])))
def tg:F:=.mk (ah [bz 1 0 9,bU 2] (bV [af 8 1 4,aj 9 8,I.call (some 10) qo [cT 1,.t 9],bJ 11 .neq 10] 11 (aA [bU 2]) (aY (ah [af 12 1 4,aj 13 12,cx 14 13,bu 15] (.bY 0 (.loop [1,13,14,15] E0))) (bV [af 59 1 4,aj 60 59,cx 61 60,bJ 62 .eql 61] 62 (aA [iA 2]) (ah [aP 63 1 9,lC 64 Hf 63,aa 7 64] (ah [aa 65 7,pL 66 sZ 65] (aA [aa 67 7,cL 68 67,af 69 68 9,aj 70 69,cx 71 70,bJ 72 .eql 71,aa 2 72]))))))) [.t 2] false none
def rj:F:=.mk (ah [I.mv 2 (.k (.sl 1 true []))] (bV [aa 3 0,I.p9 4 false (.t 3) .sl] 4 (aA [I.mv 2 (.k (.sl 1 true []))]) (aA [I.lq 5 1 0 [.i .i64 0] [] false,aa 6 0,iB 7 5 6 1,aa 2 7]))) [.t 2] true none
def Mt:F:=⟨rj.code,rj.res,false,none⟩
def R1:F:=.mk (ah [bU 4] (aA [aa 5 0,aa 6 1,cZ 7 Ra 5 6,bJ 8 .geq 7,aa 4 8])) [.t 4] false none
def CI:F:=.mk (bV [aa 8 2,br 9 .eql 8 55] 9 (aA [aa 10 0,aa 11 1,cL 12 10,I.fa 13 (.t 12) 0 9,af 14 13 0,aO 14 11 1]) (ah [aa 16 0,cL 17 16,I.fa 18 (.t 17) 0 9,af 19 18 3,aj 20 19,aa 21 1,nV 22 Lt 20 21,aa 15 22,cr 23 15 0,cr 24 15 1,aa 6 23,aa 7 24] (.cq [aa 25 0,aa 26 0,cL 27 26,I.fa 28 (.t 27) 0 9,af 29 28 3,aj 30 29,aa 31 6,aa 32 1,iu 33 1 1 [.i .i64 0] 32,yZ 34 Rc 30 31 33,cL 35 25,I.fa 36 (.t 35) 0 9,af 37 36 3,aO 37 34 1]))) [] true none
def Mu:C :=ah [bB 9 .lss 8 7] (aY (cS 9 .skip (aY (.keep []) (.exit 0))) (aY (.bY 1 (ah [aa 10 8,aa 5 10] (ah [aa 11 1,aa 12 0,aa 13 5,dy 14 12 13 1,aj 15 14,uC 16 11 15] (dr 16 (ah [aa 17 5,aa 4 17] (aY (.keep [4]) .ret)))))) (.cq [br 18 .add 8 1,aa 8 18])))
def R2:F:=.mk (ah [bu 4] (aY (ah [aa 6 0,cx 7 6,bu 8] (.bY 0 (.loop [0,1,7,8] Mu))) (aA [I.mv 4 (.k (.i .i64 (-1)))]))) [.t 4] false none
def Mv:C :=ah [bB 9 .lss 8 7] (aY (cS 9 .skip (aY (.keep []) (.exit 0))) (aY (.bY 1 (ah [aa 10 8,aa 5 10] (ah [aa 11 1,aa 12 0,aa 13 5,dy 14 12 13 1,aj 15 14,uC 16 11 15] (dr 16 (ah [aa 17 5,aa 4 17] (aY (.keep [4]) .ret)))))) (.cq [br 18 .add 8 1,aa 8 18])))
def R3:F:=.mk (ah [bu 4] (aY (ah [aa 6 0,cx 7 6,bu 8] (.bY 0 (.loop [0,1,7,8] Mv))) (aA [I.mv 4 (.k (.i .i64 (-1)))]))) [.t 4] true none
def HN:F:=.mk (ah [bz 1 0 5,bU 2] (aY (.bY 0 (ah [af 4 1 0,aj 5 4,bJ 6 .lss 5,aa 7 6,bg true 11 7 [af 8 1 0,aj 9 8,br 10 .geq 9 16] 10,aa 12 11,bg true 16 12 [af 13 1 1,aj 14 13,br 15 .lss 14 1] 15,aa 17 16,bg true 21 17 [af 18 1 1,aj 19 18,br 20 .gtr 19 99] 20,aa 22 21,bg true 26 22 [af 23 1 2,aj 24 23,I.bin 25 .lss (.t 24) (.k (.i .i64 (-1099511627776)))] 25,aa 27 26,bg true 31 27 [af 28 1 2,aj 29 28,br 30 .gtr 29 1099511627776] 30,aa 3 31] (dr 3 (aA [bU 2])))) (aA [af 32 1 3,aj 33 32,bJ 34 .geq 33,aa 35 34,bg false 39 35 [af 36 1 3,aj 37 36,br 38 .leq 37 9] 38,aa 40 39,bg false 44 40 [af 41 1 4,aj 42 41,I.bin 43 .geq (.t 42) (.k (.i .i64 (-1)))] 43,aa 45 44,bg false 49 45 [af 46 1 4,aj 47 46,br 48 .lss 47 6] 48,aa 2 49]))) [.t 2] false none
def R5:F:=.mk (ah [bz 5 2 1,I.mv 6 (.k (.sl 5 true [])),I.mv 7 (.k (.sl 5 true [])),bu 8] (ah [aa 13 1,cj 9 [.i .i64 0],cj 10 [.b false],aO 9 13 1,I.st (.t 10) Hx 1 false] (ah [cj 11 [.sl 5 true []]] (ah [aa 14 0,I.ij 15 AN [] [.t 10,.t 9,.t 5,.t 11],nV 16 QU 14 15,aa 12 16] (eU [0,1,2,3,4,5] [aa 17 12,aj 18 11,aj 19 9,aa 6 17,aa 7 18,aa 8 19] .ret))))) [.t 6,.t 7,.t 8] false none
def R6:F:=.mk (ah [bz 2 0 9,bz 3 1 5,bU 4] (aA [af 5 3 1,aj 6 5,br 7 .eql 6 63,aa 4 7])) [.t 4] false none
def R7:F:=.mk (ah [bz 2 0 9,bz 3 1 5,bU 4] (aA [af 5 3 0,aj 6 5,bJ 7 .geq 6,aa 8 7,bg false 12 8 [af 9 3 0,aj 10 9,br 11 .lss 10 16] 11,aa 4 12])) [.t 4] false none
def R8:F:=.mk (ah [bz 2 0 9,bz 3 1 5,bU 4] (aA [af 5 3 3,aj 6 5,bJ 7 .geq 6,aa 8 7,bg false 12 8 [af 9 3 3,aj 10 9,br 11 .leq 10 9] 11,aa 4 12])) [.t 4] false none
def R9:F:=.mk (ah [bz 2 0 9,bz 3 1 5,bU 4] (aA [aP 5 2 9,af 6 3 0,aj 7 6,cZ 8 KW 5 7,dz 9 8,aa 4 9])) [.t 4] false none
def HO:C :=ah [bB 8 .lss 7 6] (aY (cS 8 .skip (aY (.keep []) (.exit 0))) (aY (.bY 1 (ah [aa 9 7,dy 10 5 7 5,aP 11 10 5,cj 4 zQ,aa 3 9,ep 4 11 5] (ah [aa 12 0,aa 13 3,aP 14 4 5,I.pG (some 15) (.t 12) [.t 13,.t 14],dz 16 15] (dr 16 (aY (.keep []) .ret))))) (.cq [br 17 .add 7 1,aa 7 17])))
def Mw:F:=.mk (ah [aj 5 1,cx 6 5,bu 7] (.bY 0 (.loop [0,5,6,7] HO))) [] false none
def Mx:F:=.mk (ah [bU 4] (aA [aa 5 0,aa 6 1,cZ 7 QX 5 6,bJ 8 .geq 7,aa 4 8])) [.t 4] false none
def Sa:F:=.mk (ah [bU 2] (aA [aa 3 0,dS 4 Hh 3,dz 5 4,aa 2 5])) [.t 2] false none
def My:F:=.mk (ah [bU 4] (ah [aa 6 0,aa 7 1,dy 8 6 7 5,aP 9 8 5,cj 5 zQ,ep 5 9 5] (bV [af 10 5 1,aj 11 10,br 12 .neq 11 64,aa 13 12,bg false 22 13 [af 14 5 1,aj 15 14,br 16 .neq 15 65,aa 17 16,bg true 21 17 [af 18 5 2,aj 19 18,bJ 20 .neq 19] 20] 21] 22 (aA [bU 4]) (aA [aa 23 0,aa 24 1,mS 25 23 24 5,I.ij 26 Lu [] [.t 5],cZ 27 ur 25 26,dz 28 27,aa 4 28])))) [.t 4] false none
def Mz:F:=.mk (ah [bz 2 0 4,bz 3 1 9,bU 4] (aA [af 5 3 4,aj 6 5,I.ij 7 Lv [] [.t 3,.t 2],cZ 8 ur 6 7,aa 4 8])) [.t 4] false none
def za:F:=.mk (ah [bz 3 1 5,cj 4 cu] (aA [aa 5 0,aP 6 3 5,nV 7 yY 5 6,aO 4 7 13])) [.c 4 13 true] false none
def uH:F:=.mk (ah [bz 3 1 5,cj 4 cu] (aY (ah [aa 8 0,I.jf (some 9) Ev [.t 8,cT 65],aa 7 9,cr 10 7 0,cr 11 7 1,cj 5 zQ,ep 5 10 5,aa 6 11] (ah [aa 12 6] (dr 12 (ah [aa 13 0,aP 14 5 5,af 15 3 2,aj 16 15,I.jf (some 17) Cy [.t 13,.t 14,.t 16,fP]] (aA [aa 18 0,I.jf (some 19) uB [.t 18,k0,fP],aO 4 19 13]))))) (aY (eU [0,1,2,3,4,5,6,7,8,9,10] [aa 20 0,cL 21 20,I.fa 22 (.t 21) 1 9,af 23 22 5,aj 24 23,cx 25 24,aa 26 0,cL 27 26,af 28 27 0,aj 29 28,bB 30 .lss 25 29] (dr 30 (ah [aa 31 0,af 32 3 2,aj 33 32,nV 34 Cz 31 33] (aA [aa 35 0,I.jf (some 36) uB [.t 35,k0,fP],aO 4 36 13])))) (aA [aa 37 0,aP 38 3 5,nV 39 xQ 37 38,aO 4 39 13])))) [.c 4 13 true] true none
def rq:F:=.mk (ah [bz 3 1 5,cj 4 cu] (aA [aa 5 0,aP 6 3 5,nV 7 pK 5 6,aO 4 7 13])) [.c 4 13 true] false none
def oH:F:=.mk (ah [bz 3 1 5,cj 4 cu] (ah [aa 9 0,I.jf (some 10) Ev [.t 9,cT 64],aa 8 10,cr 11 8 0,cr 12 8 1,cj 5 zQ,ep 5 11 5,aa 6 12] (aY (.bY 0 (ah [aa 14 0,cL 15 14,I.fa 16 (.t 15) 1 9,af 17 16 5,aj 18 17,cx 19 18,bJ 20 .gtr 19,aa 13 20] (cS 13 (ah [aa 21 0,cL 22 21,I.fa 23 (.t 22) 1 9,af 24 23 5,aj 25 24,I.jk 26 (.t 25) k0 1,aj 27 26,aa 7 27] (ah [aa 28 0,aa 29 0,cL 30 29,I.fa 31 (.t 30) 1 9,af 32 31 5,aj 33 32,I.sle 34 (.t 33) (some (cT 1)) none 1,cL 35 28,I.fa 36 (.t 35) 1 9,af 37 36 5,aO 37 34 1] (bV [aa 38 6] 38 (ah [aa 39 0,af 40 5 2,aj 41 40,nV 42 Cz 39 41] (.cq [aa 43 0,aP 44 5 5,I.jf (some 45) Cy [.t 43,.t 44,k0,fP]])) (aA [aa 46 0,aa 47 7,I.jf (some 48) uB [.t 46,.t 47,fP],aO 4 48 13])))) (ah [aa 50 6,aa 49 50] (cS 49 (ah [aa 51 0,aP 52 5 5,I.jf (some 53) Cy [.t 51,.t 52,k0,fP]] (aA [aa 54 0,af 55 5 2,aj 56 55,I.jf (some 57) uB [.t 54,.t 56,fP],aO 4 57 13])) (ah [aa 59 0,cL 60 59,I.fa 61 (.t 60) 1 9,af 62 61 7,aj 63 62,aa 58 63] (dr 58 (aA [aa 64 0,I.jf (some 65) uB [.t 64,k0,Hx],aO 4 65 13])))))))) (aA [aa 66 0,aP 67 3 5,nV 68 xQ 66 67,aO 4 68 13])))) [.c 4 13 true] true none
def E1:F:=.mk (ah [bz 3 1 5,cj 4 cu] (aA [aa 5 0,aP 6 3 5,nV 7 AM 5 6,aO 4 7 13])) [.c 4 13 true] false none
def rz:C :=pM [aa 9 0,cL 10 9,I.fa 11 (.t 10) 1 9,af 12 11 4,aj 13 12,cx 14 13,bJ 15 .gtr 14] 15 .skip (aY (.keep [0,4]) (.exit 0)) (.bY 1 (.cq [aa 16 0,aa 17 0,cL 18 17,I.fa 19 (.t 18) 1 9,af 20 19 4,aj 21 20,I.jk 22 (.t 21) k0 5,aP 23 22 5,I.jf (some 24) Cy [.t 16,.t 23,k0,Hx]]))
def AX:F:=.mk (ah [bz 3 1 5,cj 4 cu] (ah [aa 5 0,cL 6 5,I.fa 7 (.t 6) 1 9,af 8 7 7,I.st (.t 8) fP 1 false] (aY (.bY 0 (.loop [0,4] rz)) (aA [aa 25 0,I.jf (some 26) uB [.t 25,k0,fP],aO 4 26 13])))) [.c 4 13 true] true none
def Sb:F:=.mk (ah [bU 2] (aA [aa 3 0,I.bin 4 .geq (.t 3) (.k (.i .i64 (-1099511627776))),aa 5 4,bg false 8 5 [aa 6 0,br 7 .leq 6 1099511627776] 7,aa 2 8])) [.t 2] false none
def AY:F:=.mk (ah [I.mv 2 (.k (.sl 2 true []))] (bV [aa 3 0,I.p9 4 false (.t 3) .sl] 4 (aA [I.mv 2 (.k (.sl 2 true []))]) (aA [I.lq 5 2 0 [.i .i64 0,.sl 1 true []] [] false,aa 6 0,iB 7 5 6 2,aa 2 7]))) [.t 2] true none
def ado:F:=.mk (ah [I.mv 6 (.k (.sl 2 true []))] (ah [aa 10 0,aa 11 1,gT 12 10 11 2] (ah [aa 13 2,cx 14 13,aa 7 14] (bV [aa 15 7,bJ 16 .eql 15] 16 (aA [aa 17 0,aa 6 17]) (ah [aa 18 0,cx 19 18,aa 8 19] (bV [aa 20 1,aa 21 8,bB 22 .eql 20 21] 22 (aA [aa 23 0,aa 24 2,iB 25 23 24 2,aa 6 25]) (bV [aa 26 8,aa 27 7,bB 28 .add 26 27,aa 29 0,I.cap 30 (.t 29),bB 31 .gtr 28 30] 31 (ah [aa 32 0,aa 33 1,mS 34 32 33 2,aa 35 8,aa 36 7,bB 37 .add 35 36,aa 38 1,bB 39 .sub 37 38,I.qR 40 (.t 34) (.t 39) 2 [.i .i64 0,.sl 1 true []],aa 9 40] (ah [aa 41 9,aa 42 1,gT 43 41 42 2,aa 44 2,I.copy (some 45) (.t 43) (.t 44) 2] (eU [0,1,2,3,4,5,6,7,8] [aa 46 9,aa 47 1,aa 48 7,bB 49 .add 47 48,gT 50 46 49 2,aa 51 0,aa 52 1,gT 53 51 52 2,I.copy (some 54) (.t 50) (.t 53) 2] (aA [aa 55 9,aa 6 55])))) (ah [aa 56 0,aa 57 8,aa 58 7,bB 59 .add 57 58,mS 60 56 59 2,aa 0 60] (bV [aa 61 2,aa 62 0,aa 63 1,aa 64 7,bB 65 .add 63 64,gT 66 62 65 2,I.qT 67 acU (.t 61) (.t 66) 2,dz 68 67] 68 (eU [0,1,2,3,4,5,6,7,8] [aa 69 0,aa 70 1,aa 71 7,bB 72 .add 70 71,gT 73 69 72 2,aa 74 0,aa 75 1,gT 76 74 75 2,I.copy (some 77) (.t 73) (.t 76) 2] (ah [aa 78 0,aa 79 1,gT 80 78 79 2,aa 81 2,I.copy (some 82) (.t 80) (.t 81) 2] (aA [aa 83 0,aa 6 83]))) (ah [aa 84 0,aa 85 8,gT 86 84 85 2,aa 87 2,I.copy (some 88) (.t 86) (.t 87) 2] (ah [aa 89 0,aa 90 1,gT 91 89 90 2,aa 92 7,cZ 93 acV 91 92] (aA [aa 94 0,aa 6 94])))))))))))) [.t 6] false none
def Sc:F:=.mk (ah [bz 2 0 2,bU 3] (aA [af 4 2 0,aj 5 4,aj 6 1,bB 7 .eql 5 6,aa 3 7])) [.t 3] false none
def Sd:F:=.mk (ah [bz 1 0 1,I.mv 2 (.k .cM)] (aA [I.ij 3 Lz [] [.t 1],aa 2 3])) [.t 2] true none
def MA:F:=.mk (ah [bz 4 1 5] (.lu [] [0,1,2,3,4,5,6,7,8,9,10,11,12,13,14,15] [aa 6 0,aa 7 0,cL 8 7,af 9 8 10,aj 10 9,fD 11 4 0,fm 12 11,fD 13 4 1,fm 14 13,aa 15 2,I.build 16 jE [(0,1,.t 12),(1,1,.t 14),(2,1,.t 15),(3,1,fP),(4,1,.k (.i .i64 (-1)))],iu 17 5 1 jE 16,iB 18 10 17 5,cL 19 6,af 20 19 10,aO 20 18 1])) [] true none
def Se:F:=.mk (ah [bU 4] (aA [aa 5 0,aa 6 1,cZ 7 En 5 6,bJ 8 .geq 7,aa 4 8])) [.t 4] false none
def Sf:F:=.mk (ah [bz 3 0 2,bU 4] (aA [af 5 3 1,aj 6 5,cx 7 6,aj 8 1,bB 9 .eql 7 8,aa 10 9,bg false 16 10 [aP 11 2 9,af 12 3 0,aj 13 12,I.call (some 14) Ht [.t 11,.t 13,cT 70],dz 15 14] 15,aa 4 16])) [.t 4] false none
def Sg:F:=.mk (ah [bz 3 0 9,bz 4 1 1,bz 5 2 1,bU 6] (aA [af 7 3 4,aj 8 7,I.ij 9 LA [] [.t 4,.t 5],cZ 10 ur 8 9,aa 6 10])) [.t 6] false none
def MB:C :=ah [bB 9 .lss 8 7] (aY (cS 9 .skip (aY (.keep []) (.exit 0))) (aY (.bY 1 (ah [aa 10 8,aa 5 10] (ah [aa 11 1,aa 12 0,aa 13 5,dy 14 12 13 5,aP 15 14 5,uC 16 11 15] (dr 16 (ah [aa 17 5,aa 4 17] (aY (.keep [4]) .ret)))))) (.cq [br 18 .add 8 1,aa 8 18])))
def Sh:F:=.mk (ah [bu 4] (aY (ah [aa 6 0,cx 7 6,bu 8] (.bY 0 (.loop [0,1,7,8] MB))) (aA [I.mv 4 (.k (.i .i64 (-1)))]))) [.t 4] false none
def Si:F:=.mk (ah [bz 2 0 5,bU 3] (aA [af 4 2 0,aj 5 4,af 6 1 0,aj 7 6,bB 8 .eql 5 7,aa 3 8])) [.t 3] false none
def MC:F:=.mk (ah [I.mv 6 (.k (.sl 5 true []))] (ah [aa 8 0,aa 9 1,aa 10 2,aa 11 0,cx 12 11,I.qQ 13 (.t 8) (.t 9) (.t 10) (.t 12) 5] (bV [aa 14 1,aa 15 2,bB 16 .eql 14 15] 16 (aA [aa 17 0,aa 6 17]) (ah [aa 18 0,cx 19 18,aa 7 19] (eU [0,1,2,3,4,5,6,7] [aa 20 0,aa 21 1,mS 22 20 21 5,aa 23 0,aa 24 2,gT 25 23 24 5,iB 26 22 25 5,aa 0 26] (ah [aa 27 0,aa 28 0,cx 29 28,aa 30 7,I.sl 31 (.t 27) (some (.t 29)) (some (.t 30)) 5,I.qg none (.t 31) 5 jE] (aA [aa 32 0,aa 6 32]))))))) [.t 6] true none
def HP:C :=aY (eU [0,1,2,3,4,5,6,7,8,9,10,11,12,13] [af 4 1 4,aj 5 4,cx 6 5,bJ 7 .gtr 6,aa 8 7,bg false 17 8 [af 9 1 4,aj 10 9,I.jk 11 (.t 10) k0 5,af 12 11 2,aj 13 12,af 14 1 1,aj 15 14,bB 16 .leq 13 15] 16] (cS 17 .skip (aY (.keep []) (.exit 0)))) (.bY 1 (ah [af 18 1 4,aj 19 18,I.jk 20 (.t 19) k0 5,aP 21 20 5,cj 3 zQ,ep 3 21 5] (ah [af 22 1 4,aj 23 22,I.sl 24 (.t 23) (some (cT 1)) none 5,dS 25 QA 24,af 26 1 4,aO 26 25 1] (ah [af 27 1 1,aj 28 27,af 29 3 2,aj 30 29,bB 31 .sub 28 30,af 32 1 1,aO 32 31 1] (ah [aa 33 0,aP 34 3 5,aP 35 1 9,I.pG (some 36) (.t 33) [.t 34,.t 35],dz 37 36] (dr 37 (aY (.keep []) .ret)))))))
def Sj:F:=.mk (.bY 0 (.loop [0,1] HP)) [] false none
def MD:F:=.mk (ah [bz 1 0 9,bU 2] (aA [I.fa 3 (.t 1) 0 9,af 4 3 0,aj 5 4,I.bin 6 .eql (.t 5) (.k (.i .i64 (-1))),aa 7 6,bg false 12 7 [I.fa 8 (.t 1) 0 9,af 9 8 1,aj 10 9,bJ 11 .eql 10] 11,aa 13 12,bg false 18 13 [I.fa 14 (.t 1) 0 9,af 15 14 2,aj 16 15,bJ 17 .eql 16] 17,aa 19 18,bg false 25 19 [I.fa 20 (.t 1) 0 9,af 21 20 3,aj 22 21,cx 23 22,bJ 24 .eql 23] 24,aa 26 25,bg false 32 26 [I.fa 27 (.t 1) 0 9,af 28 27 5,aj 29 28,cx 30 29,bJ 31 .eql 30] 31,aa 33 32,bg false 39 33 [I.fa 34 (.t 1) 0 9,af 35 34 6,aj 36 35,cx 37 36,bJ 38 .eql 37] 38,aa 2 39])) [.t 2] false none
def E2:C :=ah [bB 12 .lss 11 10] (aY (cS 12 .skip (aY (.keep [1]) (.exit 0))) (aY (.bY 1 (ah [aa 13 11,dy 14 9 11 5,aP 15 14 5,cj 4 zQ,aa 3 13,ep 4 15 5] (ah [I.fa 17 (.t 1) 0 9,af 18 17 4,aj 19 18,af 20 4 0,aj 21 20,cZ 22 iU 19 21,aa 16 22,cr 23 16 0,cr 24 16 1,aa 5 23,aa 6 24] (ah [aa 25 5,aa 26 3,bB 27 .neq 25 26,aa 28 27,bg true 32 28 [af 29 4 1,aj 30 29,br 31 .neq 30 74] 31,aa 33 32,bg true 37 33 [af 34 4 2,aj 35 34,bJ 36 .neq 35] 36,aa 38 37,bg true 42 38 [af 39 4 4,aj 40 39,I.bin 41 .neq (.t 40) (.k (.i .i64 (-1)))] 41] (dr 42 (ah [bU 2] (aY (.keep [2]) .ret))))))) (.cq [br 43 .add 11 1,aa 11 43])))
def HQ:F:=.mk (ah [bz 1 0 9,bU 2] (aY (ah [I.fa 7 (.t 1) 0 9,af 8 7 4,aj 9 8,cx 10 9,bu 11] (.bY 0 (.loop [1,9,10,11] E2))) (aA [I.fa 44 (.t 1) 0 9,af 45 44 4,aj 46 45,I.call (some 47) qo [cT 1,.t 46],bJ 48 .eql 47,aa 2 48]))) [.t 2] false none
def HR:C :=pM [aa 15 9,aa 16 10,bB 17 .lss 15 16] 17 .skip (aY (.keep [0,1,2,8,9]) (.exit 0)) (.bY 1 (ah [aa 18 9,aa 19 10,bB 20 .add 18 19,I.kE 21 .u64 (.t 20),I.bin 22 .shr (.t 21) (.k (.i .u64 1)),I.kE 23 .i64 (.t 22),aa 11 23] (ah [aa 24 2,aa 25 0,aa 26 11,dy 27 25 26 5,aP 28 27 5,aa 29 1,tc 30 24 28 29,bJ 31 .lss 30] (cS 31 (.cq [aa 32 11,br 33 .add 32 1,aa 9 33]) (.cq [aa 34 11,aa 10 34])))))
def Sk:F:=.mk (ah [bu 6,bU 7] (ah [aa 12 0,cx 13 12,aa 8 13] (ah [aa 14 8,bu 9,aa 10 14] (aY (.bY 0 (.loop [0,1,2,8,9,10] HR)) (aA [aa 35 9,aa 36 9,aa 37 8,bB 38 .lss 36 37,aa 39 38,bg false 48 39 [aa 40 2,aa 41 0,aa 42 9,dy 43 41 42 5,aP 44 43 5,aa 45 1,tc 46 40 44 45,bJ 47 .eql 46] 47,aa 6 35,aa 7 48]))))) [.t 6,.t 7] false none
def ME:F:=.mk (ah [bz 2 0 5,bu 4] (bV [af 5 2 3,aj 6 5,aa 7 1,bB 8 .geq 6 7] 8 (aA [I.mv 4 (.k (.i .i64 (-1)))]) (aA [aa 9 1,af 10 2 3,aj 11 10,cZ 12 Q9 9 11,aa 4 12]))) [.t 4] false none
def Sl:F:=.mk (ah [bu 4] (ah [aa 7 0,dS 8 AO 7,aa 5 8] (ah [aa 9 1,dS 10 AO 9,aa 6 10] (bV [aa 11 5] 11 (bV [aa 12 6] 12 (aA [bu 4]) (aA [I.mv 4 (.k (.i .i64 (-1)))])) (bV [aa 13 6] 13 (aA [cF 4 1]) (bV [aa 14 0,aa 15 1,bB 16 .lss 14 15] 16 (aA [I.mv 4 (.k (.i .i64 (-1)))]) (bV [aa 17 0,aa 18 1,bB 19 .gtr 17 18] 19 (aA [cF 4 1]) (aA [bu 4])))))))) [.t 4] false none
def adp:F:=.mk (ah [I.mv 6 (.k (.sl 5 true []))] (ah [aa 10 0,aa 11 1,gT 12 10 11 5] (ah [aa 13 2,cx 14 13,aa 7 14] (bV [aa 15 7,bJ 16 .eql 15] 16 (aA [aa 17 0,aa 6 17]) (ah [aa 18 0,cx 19 18,aa 8 19] (bV [aa 20 1,aa 21 8,bB 22 .eql 20 21] 22 (aA [aa 23 0,aa 24 2,iB 25 23 24 5,aa 6 25]) (bV [aa 26 8,aa 27 7,bB 28 .add 26 27,aa 29 0,I.cap 30 (.t 29),bB 31 .gtr 28 30] 31 (ah [aa 32 0,aa 33 1,mS 34 32 33 5,aa 35 8,aa 36 7,bB 37 .add 35 36,aa 38 1,bB 39 .sub 37 38,I.qR 40 (.t 34) (.t 39) 5 zQ,aa 9 40] (ah [aa 41 9,aa 42 1,gT 43 41 42 5,aa 44 2,I.copy (some 45) (.t 43) (.t 44) 5] (eU [0,1,2,3,4,5,6,7,8] [aa 46 9,aa 47 1,aa 48 7,bB 49 .add 47 48,gT 50 46 49 5,aa 51 0,aa 52 1,gT 53 51 52 5,I.copy (some 54) (.t 50) (.t 53) 5] (aA [aa 55 9,aa 6 55])))) (ah [aa 56 0,aa 57 8,aa 58 7,bB 59 .add 57 58,mS 60 56 59 5,aa 0 60] (bV [aa 61 2,aa 62 0,aa 63 1,aa 64 7,bB 65 .add 63 64,gT 66 62 65 5,I.qT 67 acW (.t 61) (.t 66) 5,dz 68 67] 68 (eU [0,1,2,3,4,5,6,7,8] [aa 69 0,aa 70 1,aa 71 7,bB 72 .add 70 71,gT 73 69 72 5,aa 74 0,aa 75 1,gT 76 74 75 5,I.copy (some 77) (.t 73) (.t 76) 5] (ah [aa 78 0,aa 79 1,gT 80 78 79 5,aa 81 2,I.copy (some 82) (.t 80) (.t 81) 5] (aA [aa 83 0,aa 6 83]))) (ah [aa 84 0,aa 85 8,gT 86 84 85 5,aa 87 2,I.copy (some 88) (.t 86) (.t 87) 5] (ah [aa 89 0,aa 90 1,gT 91 89 90 5,aa 92 7,cZ 93 acX 91 92] (aA [aa 94 0,aa 6 94])))))))))))) [.t 6] false none
def MF:C :=ah [bB 9 .lss 8 7] (aY (cS 9 .skip (aY (.keep []) (.exit 0))) (aY (.bY 1 (ah [aa 10 8,aa 5 10] (ah [aa 11 1,aa 12 0,aa 13 5,dy 14 12 13 1,aj 15 14,bB 16 .eql 11 15] (dr 16 (ah [aa 17 5,aa 4 17] (aY (.keep [4]) .ret)))))) (.cq [br 18 .add 8 1,aa 8 18])))
def Sm:F:=.mk (ah [bu 4] (aY (ah [aa 6 0,cx 7 6,bu 8] (.bY 0 (.loop [0,1,7,8] MF))) (aA [I.mv 4 (.k (.i .i64 (-1)))]))) [.t 4] false none
def HS:C :=pM [aa 13 7,aa 14 8,bB 15 .lss 13 14] 15 .skip (aY (.keep [0,1,6,7]) (.exit 0)) (.bY 1 (ah [aa 16 7,aa 17 8,bB 18 .add 16 17,I.kE 19 .u64 (.t 18),I.bin 20 .shr (.t 19) (.k (.i .u64 1)),I.kE 21 .i64 (.t 20),aa 9 21] (ah [aa 22 0,aa 23 9,dy 24 22 23 1,aj 25 24,aa 26 1,cZ 27 Hw 25 26] (cS 27 (.cq [aa 28 9,br 29 .add 28 1,aa 7 29]) (.cq [aa 30 9,aa 8 30])))))
def HT:F:=.mk (ah [bu 4,bU 5] (ah [aa 10 0,cx 11 10,aa 6 11] (ah [aa 12 6,bu 7,aa 8 12] (aY (.bY 0 (.loop [0,1,6,7,8] HS)) (aA [aa 31 7,aa 32 7,aa 33 6,bB 34 .lss 32 33,aa 35 34,bg false 53 35 [aa 36 0,aa 37 7,dy 38 36 37 1,aj 39 38,aa 40 1,bB 41 .eql 39 40,aa 42 41,bg true 52 42 [aa 43 0,aa 44 7,dy 45 43 44 1,aj 46 45,dS 47 CC 46,aa 48 47,bg false 51 48 [aa 49 1,dS 50 CC 49] 50] 51] 52,aa 4 31,aa 5 53]))))) [.t 4,.t 5] false none
def CJ:C :=pM [aa 13 7,aa 14 8,bB 15 .lss 13 14] 15 .skip (aY (.keep [0,1,6,7]) (.exit 0)) (.bY 1 (ah [aa 16 7,aa 17 8,bB 18 .add 16 17,I.kE 19 .u64 (.t 18),I.bin 20 .shr (.t 19) (.k (.i .u64 1)),I.kE 21 .i64 (.t 20),aa 9 21] (ah [aa 22 0,aa 23 9,dy 24 22 23 1,aj 25 24,aa 26 1,cZ 27 Hw 25 26] (cS 27 (.cq [aa 28 9,br 29 .add 28 1,aa 7 29]) (.cq [aa 30 9,aa 8 30])))))
def E3:F:=.mk (ah [bu 4,bU 5] (ah [aa 10 0,cx 11 10,aa 6 11] (ah [aa 12 6,bu 7,aa 8 12] (aY (.bY 0 (.loop [0,1,6,7,8] CJ)) (aA [aa 31 7,aa 32 7,aa 33 6,bB 34 .lss 32 33,aa 35 34,bg false 53 35 [aa 36 0,aa 37 7,dy 38 36 37 1,aj 39 38,aa 40 1,bB 41 .eql 39 40,aa 42 41,bg true 52 42 [aa 43 0,aa 44 7,dy 45 43 44 1,aj 46 45,dS 47 CC 46,aa 48 47,bg false 51 48 [aa 49 1,dS 50 CC 49] 50] 51] 52,aa 4 31,aa 5 53]))))) [.t 4,.t 5] true none
def adq:F:=.mk (ah [I.mv 6 (.k (.sl 1 true []))] (ah [aa 10 0,aa 11 1,gT 12 10 11 1] (ah [aa 13 2,cx 14 13,aa 7 14] (bV [aa 15 7,bJ 16 .eql 15] 16 (aA [aa 17 0,aa 6 17]) (ah [aa 18 0,cx 19 18,aa 8 19] (bV [aa 20 1,aa 21 8,bB 22 .eql 20 21] 22 (aA [aa 23 0,aa 24 2,iB 25 23 24 1,aa 6 25]) (bV [aa 26 8,aa 27 7,bB 28 .add 26 27,aa 29 0,I.cap 30 (.t 29),bB 31 .gtr 28 30] 31 (ah [aa 32 0,aa 33 1,mS 34 32 33 1,aa 35 8,aa 36 7,bB 37 .add 35 36,aa 38 1,bB 39 .sub 37 38,I.qR 40 (.t 34) (.t 39) 1 [.i .i64 0],aa 9 40] (ah [aa 41 9,aa 42 1,gT 43 41 42 1,aa 44 2,I.copy (some 45) (.t 43) (.t 44) 1] (eU [0,1,2,3,4,5,6,7,8] [aa 46 9,aa 47 1,aa 48 7,bB 49 .add 47 48,gT 50 46 49 1,aa 51 0,aa 52 1,gT 53 51 52 1,I.copy (some 54) (.t 50) (.t 53) 1] (aA [aa 55 9,aa 6 55])))) (ah [aa 56 0,aa 57 8,aa 58 7,bB 59 .add 57 58,mS 60 56 59 1,aa 0 60] (bV [aa 61 2,aa 62 0,aa 63 1,aa 64 7,bB 65 .add 63 64,gT 66 62 65 1,I.qT 67 acY (.t 61) (.t 66) 1,dz 68 67] 68 (eU [0,1,2,3,4,5,6,7,8] [aa 69 0,aa 70 1,aa 71 7,bB 72 .add 70 71,gT 73 69 72 1,aa 74 0,aa 75 1,gT 76 74 75 1,I.copy (some 77) (.t 73) (.t 76) 1] (ah [aa 78 0,aa 79 1,gT 80 78 79 1,aa 81 2,I.copy (some 82) (.t 80) (.t 81) 1] (aA [aa 83 0,aa 6 83]))) (ah [aa 84 0,aa 85 8,gT 86 84 85 1,aa 87 2,I.copy (some 88) (.t 86) (.t 87) 1] (ah [aa 89 0,aa 90 1,gT 91 89 90 1,aa 92 7,cZ 93 acZ 91 92] (aA [aa 94 0,aa 6 94])))))))))))) [.t 6] false none
def E4:F:=.mk (ah [bz 5 0 5,bU 6] (bV [aj 7 1,dz 8 7,aa 9 8,bg false 13 9 [af 10 5 2,aj 11 10,bJ 12 .geq 11] 12,aa 14 13,bg false 19 14 [af 15 5 2,aj 16 15,aj 17 2,bB 18 .leq 16 17] 18] 19 (ah [aj 20 2,af 21 5 2,aj 22 21,bB 23 .sub 20 22,aO 2 23 1] (aA [iA 6])) (ah [aj 24 1,aa 25 24,bg true 28 25 [aj 26 3,dz 27 26] 27,aO 1 28 1] (ah [aj 29 4,aP 30 5 5,iu 31 5 1 zQ 30,iB 32 29 31 5,aO 4 32 1] (aA [bU 6]))))) [.t 6] false none
def HU:F:=.mk (ah [bz 2 0 5,bU 3] (aA [af 4 2 0,aj 5 4,af 6 1 0,aj 7 6,bB 8 .eql 5 7,aa 9 8,bg false 25 9 [af 10 2 4,aj 11 10,I.bin 12 .eql (.t 11) (.k (.i .i64 (-1))),aa 13 12,bg true 17 13 [af 14 1 4,aj 15 14,I.bin 16 .eql (.t 15) (.k (.i .i64 (-1)))] 16,aa 18 17,bg true 24 18 [af 19 2 4,aj 20 19,af 21 1 4,aj 22 21,bB 23 .eql 20 22] 23] 24,aa 3 25])) [.t 3] false none
def E5:F:=.mk (ah [bz 3 0 5,bU 4] (bV [af 5 3 1,aj 6 5,br 7 .eql 6 64] 7 (aA [af 8 1 5,aj 9 8,cx 10 9,af 11 2 2,aj 12 11,bB 13 .neq 10 12,aa 14 13,bg true 20 14 [af 15 1 4,aj 16 15,af 17 3 0,aj 18 17,I.call (some 19) Lw [.t 16,cT 65,.t 18]] 19,aa 4 20]) (aA [af 21 1 5,aj 22 21,cx 23 22,bJ 24 .gtr 23,aa 25 24,bg true 31 25 [af 26 1 4,aj 27 26,af 28 3 0,aj 29 28,I.call (some 30) Lw [.t 27,cT 64,.t 29]] 30,aa 4 31]))) [.t 4] false none
def Sn:F:=.mk (ah [bz 4 1 1,bz 5 2 1,bU 6] (aA [aa 7 0,I.ij 8 LB [] [.t 4,.t 5],cZ 9 ur 7 8,aa 6 9])) [.t 6] false none
def E6:F:=.mk (ah [bz 3 1 1,cj 4 zQ,bU 5] (aA [aa 6 0,cL 7 6,I.fa 8 (.t 7) 1 9,af 9 8 4,aj 10 9,I.ij 11 Ew [] [.t 3],I.calls (some 12) LC [.t 10,.t 11],cr 13 12 0,cr 14 12 1,aO 4 13 5,aa 5 14])) [.c 4 5 true,.t 5] true none
def MG:F:=.mk (ah [bz 5 1 5] (aY (aY (.xE 0 5) (.lu [] [0,1,2,3,4,5,6,7,8,9,10,11,12] [aa 8 0,aa 9 0,cL 10 9,I.fa 11 (.t 10) 1 9,af 12 11 4,aj 13 12,fD 14 5 0,fm 15 14,cZ 16 xO 13 15,cL 17 8,I.fa 18 (.t 17) 1 9,af 19 18 4,aO 19 16 1])) (.lu [] [0,1,2,3,4,5,6,7,8,9,10,11,12,13,14,15,16,17,18] [aa 20 0,aa 21 0,cL 22 21,af 23 22 10,aj 24 23,fD 25 5 0,fm 26 25,fD 27 5 1,fm 28 27,aa 29 2,aa 30 3,fD 31 5 4,fm 32 31,I.build 33 jE [(0,1,.t 26),(1,1,.t 28),(2,1,.t 29),(3,1,.t 30),(4,1,.t 32)],iu 34 5 1 jE 33,iB 35 24 34 5,cL 36 20,af 37 36 10,aO 37 35 1]))) [] true none
def CL:F:=.mk (ah [cj 6 cu] (eU [0,1,2,3,4,5,6,7,8,9,10,11] [aa 7 0,cL 8 7,I.fa 9 (.t 8) 1 9,aP 10 9 9,aa 11 1,aa 12 2,aa 13 0,cL 14 13,af 15 14 10,aj 16 15,I.build 17 cu [(0,9,.t 10),(10,1,.t 11),(11,1,.t 12),(12,1,.t 16)],aO 6 17 13] .ret)) [.c 6 13 true] true none
def CM:F:=.mk (.cq [aa 4 0,aa 5 0,cL 6 5,I.fa 7 (.t 6) 1 9,af 8 7 5,aj 9 8,aa 10 1,iu 11 1 1 [.i .i64 0] 10,iB 12 9 11 1,cL 13 4,I.fa 14 (.t 13) 1 9,af 15 14 5,aO 15 12 1]) [] true none
def AZ:F:=.mk (ah [bz 3 1 5,cj 4 cu] (ah [af 6 3 0,aj 7 6,af 8 3 1,aj 9 8,af 10 3 3,aj 11 10,I.build 12 zQ [(0,1,.t 7),(1,1,.t 9),(3,1,.t 11),(4,1,.k (.i .i64 (-1)))],cj 5 zQ,aO 5 12 5] (bV [af 13 3 1,aj 14 13,br 15 .eql 14 64] 15 (.cq [af 16 3 2,aj 17 16,af 18 5 2,aO 18 17 1]) (eU [0,1,2,3,4,5,6,7,8,9,10,11,12] [aa 19 0,aa 20 0,cL 21 20,I.fa 22 (.t 21) 1 9,af 23 22 4,aj 24 23,aP 25 5 5,iu 26 5 1 zQ 25,iB 27 24 26 5,cL 28 19,I.fa 29 (.t 28) 1 9,af 30 29 4,aO 30 27 1] (aA [aa 31 0,cL 32 31,I.fa 33 (.t 32) 1 9,aP 34 33 9,I.build 35 cu [(0,9,.t 34),(9,1,fP)],aO 4 35 13]))))) [.c 4 13 true] true none
def adr:F:=.mk (.cq [aa 4 0,aa 5 0,cx 6 5,aa 7 1,bB 8 .sub 6 7,cZ 9 ac0 4 8]) [] false none
def MH:C :=.bY 1 (ah [aj 5 1,cL 6 5,I.fa 7 (.t 6) 1 9,af 8 7 4,aj 9 8,I.call (some 10) xN [.t 9,.k (.fn Hv [] [])],aa 3 10] (aY (eU [0,1,2,3,4,5,6,7,8,9,10,11,12] [aa 11 3,bJ 12 .lss 11,aa 13 12,bg true 23 13 [aj 14 1,cL 15 14,af 16 15 0,aj 17 16,aj 18 1,cL 19 18,I.fa 20 (.t 19) 1 9,aP 21 20 9,I.calls (some 22) AK [.t 17,.t 21]] 22] (dr 23 (aY (.keep []) .ret))) (ah [aj 24 1,cL 25 24,I.fa 26 (.t 25) 1 9,af 27 26 4,aj 28 27,aa 29 3,dy 30 28 29 5,aP 31 30 5,cj 4 zQ,ep 4 31 5] (eU [0,1,2,3,4,5,7,8,9,6,10,11,12,13,14] [aj 32 1,aj 33 1,cL 34 33,I.fa 35 (.t 34) 1 9,af 36 35 4,aj 37 36,aa 39 3,aa 40 3,br 41 .add 40 1,lC 38 sv 37,.re (.ld 32 (.t 1) 1 false),I.nj 42 Re [.t 38,.t 39,.t 41],.re (.ld 32 (.t 1) 1 false),cL 43 32,I.fa 44 (.t 43) 1 9,af 45 44 4,aO 45 42 1] (ah [aa 46 0,aP 47 4 5,I.pG (some 48) (.t 46) [.t 47],dz 49 48] (dr 49 (aY (.keep []) .ret)))))))
def So:F:=.mk (.bY 0 (.loop [0,1] MH)) [] false none
def Sq:F:=.mk (ah [bz 1 0 5,bU 2] (aA [af 3 1 1,aj 4 3,br 5 .eql 4 68,aa 2 5])) [.t 2] false none
def MI:F:=.mk (ah [I.mv 6 (.k (.sl 5 true []))] (ah [aa 8 0,aa 9 1,aa 10 2,aa 11 0,cx 12 11,I.qQ 13 (.t 8) (.t 9) (.t 10) (.t 12) 5] (bV [aa 14 1,aa 15 2,bB 16 .eql 14 15] 16 (aA [aa 17 0,aa 6 17]) (ah [aa 18 0,cx 19 18,aa 7 19] (eU [0,1,2,3,4,5,6,7] [aa 20 0,aa 21 1,mS 22 20 21 5,aa 23 0,aa 24 2,gT 25 23 24 5,iB 26 22 25 5,aa 0 26] (ah [aa 27 0,aa 28 0,cx 29 28,aa 30 7,I.sl 31 (.t 27) (some (.t 29)) (some (.t 30)) 5,I.qg none (.t 31) 5 zQ] (aA [aa 32 0,aa 6 32]))))))) [.t 6] true none
def Sr:F:=.mk (ah [bz 3 0 5,bU 4] (aA [af 5 3 0,aj 6 5,aj 7 1,bB 8 .eql 6 7,aa 9 8,bg false 14 9 [af 10 3 1,aj 11 10,aj 12 2,bB 13 .eql 11 12] 13,aa 4 14])) [.t 4] false none
def HV:F:=.mk (ah [bU 2] (aA [aa 3 0,aa 4 0,bB 5 .neq 3 4,aa 2 5])) [.t 2] false none
def ads:F:=.mk (.cq [aa 4 0,aa 5 0,cx 6 5,aa 7 1,bB 8 .sub 6 7,cZ 9 ac1 4 8]) [] false none
def MJ:F:=.mk (ah [bU 4] (aA [aa 5 0,dS 6 AO 5,aa 7 6,bg false 11 7 [aa 8 1,dS 9 AO 8,dz 10 9] 10,aa 12 11,bg true 16 12 [aa 13 0,aa 14 1,bB 15 .lss 13 14] 15,aa 4 16])) [.t 4] false none
def MK:F:=.mk (ah [bU 2] (aA [aa 3 0,aa 4 0,bB 5 .neq 3 4,aa 2 5])) [.t 2] false none
def adt:F:=.mk (.cq [aa 4 0,aa 5 0,cx 6 5,aa 7 1,bB 8 .sub 6 7,cZ 9 ac2 4 8]) [] false none
def Ss:F:=.mk (ah [bz 3 0 5,bU 4] (aA [af 5 3 1,aj 6 5,aj 7 1,bB 8 .eql 6 7,aa 9 8,bg false 14 9 [af 10 3 0,aj 11 10,aj 12 2,bB 13 .neq 11 12] 13,aa 4 14])) [.t 4] false none
def HW:F:=.mk (ah [cj 4 zQ,bU 5] (ah [cj 6 zQ] (ah [aa 8 0,aa 9 1,cZ 10 xN 8 9,aa 7 10] (bV [aa 11 7,bJ 12 .lss 11] 12 (aA [aP 13 6 5,aO 4 13 5,bU 5]) (aA [aa 14 0,aa 15 7,dy 16 14 15 5,aP 17 16 5,aO 4 17 5,iA 5]))))) [.c 4 5 true,.t 5] false none
def Su:F:=.mk (ah [bz 2 0 5,bU 3] (aA [af 4 2 1,aj 5 4,aj 6 1,bB 7 .eql 5 6,aa 3 7])) [.t 3] false none
def adu:F:=.mk (ah [aa 4 0,aa 5 1,mS 6 4 5 2,dS 7 Rf 6] (ah [aa 8 0,aa 9 1,gT 10 8 9 2,dS 11 Rf 10] (.cq [aa 12 0,dS 13 Rf 12]))) [] false none
def adw:F:=.mk (ah [aa 4 0,aa 5 1,mS 6 4 5 5,dS 7 Rg 6] (ah [aa 8 0,aa 9 1,gT 10 8 9 5,dS 11 Rg 10] (.cq [aa 12 0,dS 13 Rg 12]))) [] false none
def adx:F:=.mk (ah [aa 4 0,aa 5 1,mS 6 4 5 1,dS 7 Rh 6] (ah [aa 8 0,aa 9 1,gT 10 8 9 1,dS 11 Rh 10] (.cq [aa 12 0,dS 13 Rh 12]))) [] false none
def ady:C :=pM [aa 7 2,aa 8 3,bB 9 .lss 7 8] 9 .skip (aY (.keep []) (.exit 0)) (aY (.bY 1 (.lu [] [0,1,2,3,4,5,6,7,8,9,10,11,12,13,14,15] [aa 14 0,aa 15 2,aa 16 0,aa 17 3,aa 18 0,aa 19 3,dy 20 18 19 2,aP 21 20 2,aa 22 0,aa 23 2,dy 24 22 23 2,aP 25 24 2,dy 26 14 15 2,aO 26 21 2,dy 27 16 17 2,aO 27 25 2])) (.cq [aa 10 2,br 11 .add 10 1,aa 12 3,br 13 .sub 12 1,aa 2 11,aa 3 13]))
def adz:F:=.mk (ah [aa 4 0,cx 5 4,br 6 .sub 5 1,bu 2,aa 3 6] (.bY 0 (.loop [0,2,3] ady))) [] false none
def adA:C :=pM [aa 7 2,aa 8 3,bB 9 .lss 7 8] 9 .skip (aY (.keep []) (.exit 0)) (aY (.bY 1 (.lu [] [0,1,2,3,4,5,6,7,8,9,10,11,12,13,14,15] [aa 14 0,aa 15 2,aa 16 0,aa 17 3,aa 18 0,aa 19 3,dy 20 18 19 5,aP 21 20 5,aa 22 0,aa 23 2,dy 24 22 23 5,aP 25 24 5,dy 26 14 15 5,aO 26 21 5,dy 27 16 17 5,aO 27 25 5])) (.cq [aa 10 2,br 11 .add 10 1,aa 12 3,br 13 .sub 12 1,aa 2 11,aa 3 13]))
def adB:F:=.mk (ah [aa 4 0,cx 5 4,br 6 .sub 5 1,bu 2,aa 3 6] (.bY 0 (.loop [0,2,3] adA))) [] false none
def adC:C :=pM [aa 7 2,aa 8 3,bB 9 .lss 7 8] 9 .skip (aY (.keep []) (.exit 0)) (aY (.bY 1 (.lu [] [0,1,2,3,4,5,6,7,8,9,10,11,12,13,14,15] [aa 14 0,aa 15 2,aa 16 0,aa 17 3,aa 18 0,aa 19 3,dy 20 18 19 1,aj 21 20,aa 22 0,aa 23 2,dy 24 22 23 1,aj 25 24,dy 26 14 15 1,aO 26 21 1,dy 27 16 17 1,aO 27 25 1])) (.cq [aa 10 2,br 11 .add 10 1,aa 12 3,br 13 .sub 12 1,aa 2 11,aa 3 13]))
def adD:F:=.mk (ah [aa 4 0,cx 5 4,br 6 .sub 5 1,bu 2,aa 3 6] (.bY 0 (.loop [0,2,3] adC))) [] false none
def CN:F:=.mk (ah [bz 3 0 2,bz 4 1 4,bz 5 2 9,bU 6] (aA [af 7 3 1,aj 8 7,aP 9 4 4,aP 10 5 9,tc 11 8 9 10,bJ 12 .eql 11,aa 6 12])) [.t 6] false none
def Sv:F:=.mk (ah [bz 3 0 2,bz 4 1 4,bz 5 2 9,bu 6] (aA [af 7 3 1,aj 8 7,aP 9 4 4,aP 10 5 9,tc 11 8 9 10,aa 6 11])) [.t 6] false none
def ML:F:=.mk (ah [bz 2 0 2,bz 3 1 4,cj 4 zR,bu 5] (aA [af 6 2 0,aj 7 6,aP 8 3 4,uC 9 7 8,cr 10 9 0,cr 11 9 1,aO 4 10 9,aa 5 11])) [.c 4 9 true,.t 5] false none
def A0:F:=.mk (ah [bz 4 0 2,bz 5 1 4,iN 6 2 9,bz 7 3 5,cj 8 zR,bu 9,bU 10,bu 11] (aY (.bY 0 (ah [af 14 7 1,aj 15 14,br 16 .eql 15 52,aa 17 16,bg false 23 17 [af 18 6 0,aj 19 18,af 20 7 0,aj 21 20,bB 22 .neq 19 21] 22,aa 13 23] (cS 13 (aA [aP 24 6 9,aO 8 24 9,bu 9,bU 10,cF 11 20]) (ah [af 26 7 1,aj 27 26,br 28 .eql 27 52,aa 25 28] (cS 25 (.cq [af 29 6 0,I.st (.t 29) (.k (.i .i64 (-1))) 1 false]) (ah [af 31 6 0,aj 32 31,bJ 33 .lss 32,aa 30 33] (cS 30 (.cq [af 34 7 0,aj 35 34,af 36 6 0,aO 36 35 1]) (ah [af 38 7 1,aj 39 38,br 40 .eql 39 51,aa 37 40] (cS 37 (aA [aP 41 6 9,aO 8 41 9,bu 9,bU 10,bu 11]) (ah [af 43 6 0,aj 44 43,af 45 7 0,aj 46 45,bB 47 .eql 44 46,aa 42 47] (cS 42 (aA [aP 48 6 9,aO 8 48 9,bu 9,bU 10,cF 11 17]) (aA [aP 12 6 9,aO 8 12 9,bu 9,bU 10,cF 11 29])))))))))))) (aA [aP 49 6 9,aO 8 49 9,bu 9,iA 10,bu 11]))) [.c 8 9 true,.t 9,.t 10,.t 11] false none
def vU:F:=.mk (ah [bz 4 0 2,bz 5 1 4,iN 6 2 9,bz 7 3 5,cj 8 zR,bu 9,bU 10,bu 11] (ah [af 15 6 3,aj 16 15,af 17 7 0,aj 18 17,cZ 19 Rb 16 18,aa 14 19,cr 20 14 0,cr 21 14 1,aa 12 20,aa 13 21] (aY (ah [af 22 7 1,aj 23 22] (.bY 0 (ah [br 25 .eql 23 54,aa 24 25] (cS 24 (bV [aa 26 13,dz 27 26] 27 (aA [aP 28 6 9,aO 8 28 9,bu 9,bU 10,cF 11 20]) (ah [af 29 6 3,aj 30 29,lC 31 s9 30,aa 32 12,aa 33 12,br 34 .add 33 1,I.nj 35 Ri [.t 31,.t 32,.t 34],af 36 6 3,aO 36 35 1] (aA [aP 37 6 9,aO 8 37 9,bu 9,iA 10,bu 11]))) (ah [br 39 .eql 23 56,aa 38 39] (dr 38 (bV [af 40 6 0,aj 41 40,af 42 7 0,aj 43 42,bB 44 .neq 41 43] 44 (aA [aP 45 6 9,aO 8 45 9,bu 9,bU 10,cF 11 20]) (ah [af 46 6 0,I.st (.t 46) (.k (.i .i64 (-1))) 1 false] (aA [aP 47 6 9,aO 8 47 9,bu 9,iA 10,bu 11]))))))))) (bV [aa 48 13,aa 49 48,bg true 55 49 [af 50 6 0,aj 51 50,af 52 7 0,aj 53 52,bB 54 .eql 51 53] 54] 55 (aA [aP 56 6 9,aO 8 56 9,bu 9,bU 10,cF 11 17]) (bV [af 57 6 0,aj 58 57,bJ 59 .geq 58,aa 60 59,bg true 70 60 [af 61 7 1,aj 62 61,br 63 .eql 62 55,aa 64 63,bg false 69 64 [af 65 6 3,aj 66 65,cx 67 66,bJ 68 .gtr 67] 68] 69] 70 (aA [aP 71 6 9,aO 8 71 9,bu 9,bU 10,cF 11 29]) (pM [af 72 7 1,aj 73 72,br 74 .eql 73 55] 74 (.cq [af 75 7 0,aj 76 75,af 77 6 0,aO 77 76 1]) (.lu [] [0,1,3,4,5,6,2,7,8,9] [af 78 6 3,aj 79 78,aa 81 12,fD 82 7 0,fm 83 82,iu 84 1 1 [.i .i64 0] 83,lC 80 s9 79,I.nj 85 Rc [.t 80,.t 81,.t 84],af 86 6 3,aO 86 85 1]) (aA [aP 87 6 9,aO 8 87 9,bu 9,iA 10,bu 11]))))))) [.c 8 9 true,.t 9,.t 10,.t 11] false none
def MM:F:=.mk (ah [I.mv 6 (.k (.sl 1 true []))] (ah [aa 8 0,aa 9 1,aa 10 2,aa 11 0,cx 12 11,I.qQ 13 (.t 8) (.t 9) (.t 10) (.t 12) 1] (bV [aa 14 1,aa 15 2,bB 16 .eql 14 15] 16 (aA [aa 17 0,aa 6 17]) (ah [aa 18 0,cx 19 18,aa 7 19] (eU [0,1,2,3,4,5,6,7] [aa 20 0,aa 21 1,mS 22 20 21 1,aa 23 0,aa 24 2,gT 25 23 24 1,iB 26 22 25 1,aa 0 26] (ah [aa 27 0,aa 28 0,cx 29 28,aa 30 7,I.sl 31 (.t 27) (some (.t 29)) (some (.t 30)) 1,I.qg none (.t 31) 1 [.i .i64 0]] (aA [aa 32 0,aa 6 32]))))))) [.t 6] true none
def CO:F:=.mk (ah [bz 4 0 2,bz 5 1 4,iN 6 2 9,bz 7 3 5,cj 8 zR,bu 9,bU 10,bu 11] (aY (.bY 0 (ah [af 14 7 1,aj 15 14,br 16 .eql 15 62,aa 17 16,bg false 26 17 [af 18 6 1,aj 19 18,af 20 7 2,aj 21 20,bB 22 .add 19 21,af 23 5 2,aj 24 23,bB 25 .gtr 22 24] 25,aa 13 26] (cS 13 (aA [aP 27 6 9,aO 8 27 9,bu 9,bU 10,cF 11 17]) (ah [af 29 7 1,aj 30 29,br 31 .eql 30 62,aa 28 31] (cS 28 (.cq [af 32 6 1,aj 33 32,af 34 7 2,aj 35 34,bB 36 .add 33 35,af 37 6 1,aO 37 36 1]) (ah [af 39 6 1,aj 40 39,af 41 7 2,aj 42 41,bB 43 .geq 40 42,aa 38 43] (cS 38 (.cq [af 44 6 1,aj 45 44,af 46 7 2,aj 47 46,bB 48 .sub 45 47,af 49 6 1,aO 49 48 1]) (ah [af 51 7 1,aj 52 51,br 53 .eql 52 61,aa 50 53] (cS 50 (aA [aP 54 6 9,aO 8 54 9,bu 9,bU 10,bu 11]) (aA [aP 12 6 9,aO 8 12 9,bu 9,bU 10,cF 11 29])))))))))) (aA [aP 55 6 9,aO 8 55 9,bu 9,iA 10,bu 11]))) [.c 8 9 true,.t 9,.t 10,.t 11] false none
def HX:F:=.mk (ah [bz 3 0 2,bz 4 1 4,iN 5 2 9,bU 6] (ah [af 8 5 8,aj 9 8,aa 7 9] (ah [af 10 5 8,I.st (.t 10) k0 1 false] (aA [aa 11 7,bJ 12 .geq 11,aa 13 12,bg false 18 13 [aa 14 7,af 15 4 2,aj 16 15,bB 17 .lss 14 16] 17,aa 19 18,bg false 27 19 [I.fa 20 (.t 3) 0 2,af 21 20 1,aj 22 21,aP 23 4 4,aP 24 5 9,tc 25 22 23 24,bJ 26 .eql 25] 26,aa 6 27])))) [.t 6] false none
def HY:F:=.mk (ah [bz 4 0 2,bz 5 1 4,iN 6 2 9,bz 7 3 5,cj 8 zR,bu 9,bU 10,bu 11] (ah [af 13 6 8,aj 14 13,aa 12 14] (ah [af 15 6 8,aj 16 15,br 17 .add 16 1,af 18 6 8,aO 18 17 1] (bV [af 19 6 8,aj 20 19,af 21 5 2,aj 22 21,bB 23 .eql 20 22] 23 (bV [af 24 6 1,aj 25 24,br 26 .eql 25 1099511627776] 26 (aA [aP 27 6 9,aO 8 27 9,bu 9,bU 10,cF 11 4]) (ah [af 28 6 8,I.st (.t 28) k0 1 false] (.cq [af 29 6 1,aj 30 29,br 31 .add 30 1,af 32 6 1,aO 32 31 1]))) (aA [aP 33 6 9,aa 34 12,aO 8 33 9,aa 9 34,iA 10,bu 11]))))) [.c 8 9 true,.t 9,.t 10,.t 11] false none
def MN:F:=.mk (ah [bz 3 0 2,bz 4 1 4,bz 5 2 9,bU 6] (eU [0,1,2,3,4,5,6,7,8,9,10,11,12,13,14,15,16,17] [I.nS 7 (.t 3) 0 2,fD 8 7 1,fm 9 8,gS 10 4 4,I.build 11 zR [(0,1,.k (.i .i64 (-1)))],tc 12 9 10 11,bJ 13 .eql 12,aa 14 13,bg false 23 14 [I.nS 15 (.t 3) 0 2,fD 16 15 1,fm 17 16,gS 18 4 4,dS 19 Ey 18,gS 20 5 9,tc 21 17 19 20,bJ 22 .eql 21] 22,aa 6 23] .ret)) [.t 6] false none
def vV:F:=.mk (ah [bz 4 0 2,bz 5 1 4,iN 6 2 9,bz 7 3 5,cj 8 zR,bu 9,bU 10,bu 11] (aY (ah [af 13 7 1,aj 14 13] (.bY 0 (ah [br 20 .eql 14 64,aa 19 20] (cS 19 (bV [af 21 6 7,aj 22 21] 22 (aA [aP 23 6 9,aO 8 23 9,bu 9,bU 10,bu 11]) (aY (eU [0,1,2,3,4,5,6] [af 24 6 5,aj 25 24,cx 26 25,gS 27 5 4,dS 28 Ey 27,I.sj 29 (.t 28) 2 1 false,bB 30 .geq 26 29] (dr 30 (aA [aP 31 6 9,aO 8 31 9,bu 9,bU 10,cF 11 29]))) (.lu [] [0,1,3,4,5,2,6,7,8] [af 32 6 5,aj 33 32,fD 35 7 2,fm 36 35,iu 37 1 1 [.i .i64 0] 36,lC 34 s9 33,I.sn 38 (.t 34) (.t 37) 1,af 39 6 5,aO 39 38 1]))) (ah [br 41 .eql 14 65,aa 40 41] (cS 40 (bV [af 42 6 5,aj 43 42,cx 44 43,bJ 45 .eql 44] 45 (bV [af 46 6 7,aj 47 46] 47 (aA [aP 48 6 9,aO 8 48 9,bu 9,bU 10,bu 11]) (aA [aP 49 6 9,aO 8 49 9,bu 9,bU 10,cF 11 29])) (ah [af 50 6 5,aj 51 50,I.jk 52 (.t 51) k0 1,aj 53 52,aa 12 53] (ah [af 54 6 5,aj 55 54,I.sl 56 (.t 55) (some (cT 1)) none 1,I.nj 57 s9 [.t 56],af 58 6 5,aO 58 57 1] (aA [aP 59 6 9,aa 60 12,aO 8 59 9,aa 9 60,iA 10,bu 11])))) (bV [af 15 6 7,aj 16 15] 16 (aA [aP 17 6 9,aO 8 17 9,bu 9,bU 10,cF 11 17]) (.cq [af 18 6 7,I.st (.t 18) fP 1 false])))))))) (aA [aP 61 6 9,aO 8 61 9,bu 9,iA 10,bu 11]))) [.c 8 9 true,.t 9,.t 10,.t 11] false none
def Sw:F:=.mk (ah [iN 1 0 4,cj 2 [.s [],.i .i64 0,.i .i64 0,.i .i64 0]] (ah [af 3 1 2,aj 4 3,I.mx 5 (cT 1) (.t 4),af 6 1 2,aO 6 5 1] (aA [aP 7 1 4,aO 2 7 4]))) [.c 2 4 true] false none
def MO:F:=.mk (ah [bz 3 0 2,bz 4 1 4,bz 5 2 9,bU 6] (eU [0,1,2,3,4,5,6,7,8,9,10,11,12,13,14,15,16,17] [I.nS 7 (.t 3) 0 2,fD 8 7 1,fm 9 8,gS 10 4 4,I.build 11 zR [(0,1,.k (.i .i64 (-1)))],tc 12 9 10 11,bJ 13 .eql 12,aa 14 13,bg false 23 14 [I.nS 15 (.t 3) 0 2,fD 16 15 1,fm 17 16,gS 18 4 4,dS 19 Ey 18,gS 20 5 9,tc 21 17 19 20,bJ 22 .eql 21] 22,aa 6 23] .ret)) [.t 6] false none
def E7:C :=ah [bB 33 .lss 32 31] (aY (cS 33 .skip (aY (.keep [6,8,14,15]) (.exit 1))) (aY (.bY 2 (ah [aa 34 32,aa 16 34] (aY (eU [0,1,2,3,4,5,6,7,8,9] [aa 35 14,aa 36 16,dy 37 35 36 2,af 38 37 1,aj 39 38,cx 40 39,gS 41 5 4,dS 42 Ey 41,I.sj 43 (.t 42) 2 1 false,bB 44 .geq 40 43] (dr 44 (ah [aP 45 6 9,aO 8 45 9,bu 9,bU 10,cF 11 29] (aY (.keep [8,9,10,11]) .ret)))) (.lu [] [0,1,2,3,4,5,6,8,9,10,7,11,12,13,14] [aa 46 14,aa 47 16,aa 48 14,aa 49 16,dy 50 48 49 2,af 51 50 1,aj 52 51,fD 54 7 2,fm 55 54,iu 56 1 1 [.i .i64 0] 55,lC 53 s9 52,I.sn 57 (.t 53) (.t 56) 1,dy 58 46 47 2,af 59 58 1,aO 59 57 1])))) (.cq [br 60 .add 32 1,aa 32 60])))
def qt:F:=.mk (ah [bz 4 0 2,bz 5 1 4,iN 6 2 9,bz 7 3 5,cj 8 zR,bu 9,bU 10,bu 11] (ah [af 18 6 6,aj 19 18,af 20 7 0,aj 21 20,I.call (some 22) Rn [.t 19,.t 21,.k (.fn Ez [] [])],aa 17 22,cr 23 17 0,cr 24 17 1,aa 12 23,aa 13 24] (ah [af 25 6 6,aj 26 25,lC 27 Hq 26,aa 14 27] (ah [bu 15] (aY (ah [af 28 7 1,aj 29 28] (.bY 0 (ah [br 62 .eql 29 69,aa 61 62] (cS 61 (bV [aa 63 13] 63 (aA [aP 64 6 9,aO 8 64 9,bu 9,bU 10,cF 11 6]) (.cq [aa 65 14,aa 66 12,af 67 7 0,aj 68 67,I.build 69 [.i .i64 0,.sl 1 true []] [(0,1,.t 68)],iu 70 2 1 [.i .i64 0,.sl 1 true []] 69,I.nj 71 Q4 [.t 65,.t 66,.t 70],aa 14 71])) (ah [br 73 .eql 29 71,aa 72 73] (cS 72 (bV [aa 74 13,dz 75 74] 75 (aA [aP 76 6 9,aO 8 76 9,bu 9,bU 10,cF 11 20]) (.cq [aa 77 14,aa 78 12,aa 79 12,br 80 .add 79 1,I.nj 81 Hj [.t 77,.t 78,.t 80],aa 14 81])) (ah [br 83 .eql 29 70,aa 82 83] (cS 82 (bV [aa 84 13,dz 85 84] 85 (aA [aP 86 6 9,aO 8 86 9,bu 9,bU 10,cF 11 20]) (bV [aa 87 14,aa 88 12,dy 89 87 88 2,af 90 89 1,aj 91 90,cx 92 91,bJ 93 .eql 92] 93 (aA [aP 94 6 9,aO 8 94 9,bu 9,bU 10,cF 11 29]) (ah [aa 95 14,aa 96 12,dy 97 95 96 2,af 98 97 1,aj 99 98,I.jk 100 (.t 99) k0 1,aj 101 100,aa 15 101] (.cq [aa 102 14,aa 103 12,aa 104 14,aa 105 12,dy 106 104 105 2,af 107 106 1,aj 108 107,I.sl 109 (.t 108) (some (cT 1)) none 1,I.nj 110 s9 [.t 109],dy 111 102 103 2,af 112 111 1,aO 112 110 1])))) (ah [aa 30 14,cx 31 30,bu 32] (.bY 1 (.loop [5,6,7,8,14,15,31,32] E7))))))))))) (ah [aa 113 14,af 114 6 6,aO 114 113 1] (aA [aP 115 6 9,aa 116 15,aO 8 115 9,aa 9 116,iA 10,bu 11]))))))) [.c 8 9 true,.t 9,.t 10,.t 11] false none
def HZ:C :=pM [aa 15 9,aa 16 10,bB 17 .lss 15 16] 17 .skip (aY (.keep [0,1,2,8,9]) (.exit 0)) (.bY 1 (ah [aa 18 9,aa 19 10,bB 20 .add 18 19,I.kE 21 .u64 (.t 20),I.bin 22 .shr (.t 21) (.k (.i .u64 1)),I.kE 23 .i64 (.t 22),aa 11 23] (ah [aa 24 2,aa 25 0,aa 26 11,dy 27 25 26 2,aP 28 27 2,aa 29 1,tc 30 24 28 29,bJ 31 .lss 30] (cS 31 (.cq [aa 32 11,br 33 .add 32 1,aa 9 33]) (.cq [aa 34 11,aa 10 34])))))
def MP:F:=.mk (ah [bu 6,bU 7] (ah [aa 12 0,cx 13 12,aa 8 13] (ah [aa 14 8,bu 9,aa 10 14] (aY (.bY 0 (.loop [0,1,2,8,9,10] HZ)) (aA [aa 35 9,aa 36 9,aa 37 8,bB 38 .lss 36 37,aa 39 38,bg false 48 39 [aa 40 2,aa 41 0,aa 42 9,dy 43 41 42 2,aP 44 43 2,aa 45 1,tc 46 40 44 45,bJ 47 .eql 46] 47,aa 6 35,aa 7 48]))))) [.t 6,.t 7] false none
def Sx:F:=.mk (ah [bz 2 0 2,bu 4] (aA [af 5 2 0,aj 6 5,aa 7 1,bB 8 .sub 6 7,aa 4 8])) [.t 4] false none
def A1:F:=.mk (ah [bz 4 0 2,bz 5 1 4,iN 6 2 9,bz 7 3 5,cj 8 zR,bu 9,bU 10,bu 11] (bV [af 13 7 4,aj 14 13,af 15 6 2,aj 16 15,bB 17 .lss 14 16] 17 (aA [aP 18 6 9,aO 8 18 9,bu 9,bU 10,cF 11 2]) (ah [af 19 7 4,aj 20 19,af 21 6 2,aj 22 21,bB 23 .sub 20 22,af 24 5 3,aj 25 24,bB 26 .quo 23 25,aa 12 26] (pM [aa 27 12,af 28 5 2,aj 29 28,af 30 6 1,aj 31 30,bB 32 .sub 29 31,bB 33 .geq 27 32] 33 (.lu [] [0,1,2,3,4,5,6,7] [fD 34 5 2,fm 35 34,fD 36 7 4,fm 37 36,af 38 6 1,aO 38 35 1,af 39 6 2,aO 39 37 1]) (.lu [] [0,1,2,3,4,5,6,7,8,9,10,11,12,13,14] [af 40 6 1,aj 41 40,aa 42 12,bB 43 .add 41 42,af 44 6 2,aj 45 44,aa 46 12,fD 47 5 3,fm 48 47,bB 49 .mul 46 48,bB 50 .add 45 49,af 51 6 1,aO 51 43 1,af 52 6 2,aO 52 50 1]) (bV [af 53 7 1,aj 54 53,br 55 .eql 54 72] 55 (bV [af 56 6 1,aj 57 56,af 58 7 2,aj 59 58,bB 60 .lss 57 59] 60 (aA [aP 61 6 9,aO 8 61 9,bu 9,bU 10,cF 11 29]) (.cq [af 62 6 1,aj 63 62,af 64 7 2,aj 65 64,bB 66 .sub 63 65,af 67 6 1,aO 67 66 1])) (aA [aP 68 6 9,aO 8 68 9,bu 9,iA 10,bu 11])))))) [.c 8 9 true,.t 9,.t 10,.t 11] false none
def E8:F:=.mk (ah [bz 4 0 2,bz 5 1 4,iN 6 2 9,bz 7 3 5,cj 8 zR,bu 9,bU 10,bu 11] (aY (.bY 0 (ah [af 13 7 1,aj 14 13,br 15 .eql 14 74,aa 16 15,bg false 20 16 [af 17 6 7,aj 18 17,dz 19 18] 19,aa 12 20] (cS 12 (aA [aP 21 6 9,aO 8 21 9,bu 9,bU 10,cF 11 29]) (ah [af 23 7 1,aj 24 23,br 25 .eql 24 74,aa 22 25] (cS 22 (eU [0,1,2,3,4,5,6] [aP 26 6 9,af 27 6 8,aj 28 27,aO 8 26 9,.re (.fa 27 (.t 6) 8 1),.re (.ld 28 (.t 27) 1 false),aa 9 28,iA 10,bu 11] .ret) (ah [af 30 6 7,aj 31 30,aa 29 31] (dr 29 (aA [aP 32 6 9,aO 8 32 9,bu 9,bU 10,cF 11 17])))))))) (eU [0,1,2,3,4,5] [fD 33 7 2,fm 34 33,af 35 6 7,I.st (.t 35) fP 1 false,af 36 6 8,aO 36 34 1] (aA [aP 37 6 9,aO 8 37 9,bu 9,iA 10,bu 11])))) [.c 8 9 true,.t 9,.t 10,.t 11] false none
def Xr:F:=⟨.skip,[],true,some (lZ 1)⟩
def Xs:F:=⟨.skip,[],true,some (lZ 2)⟩
def Xt:F:=⟨.skip,[],true,some (lZ 5)⟩
def MQ:List (Nat×F):=[(10,AP),(14,Ro),(15,dh),(18,Rq),(20,CE),(23,vN),(29,LO),(31,LQ),(32,Rr),(33,LR),(34,vO),(35,Rs),(36,Rt),(37,vP),(38,xU),(45,Ru),(57,HA),(62,EA),(63,EB),(64,y4),(65,ac3),(66,ac4),(67,EC),(68,ED),(69,gY),(70,ac5),(71,ac6),(72,LS),(73,uD),(74,y5),(75,ac7),(76,ac8),(77,LU),(78,uE),(79,y6),(80,ac9),(81,ada),(82,LV),(83,EG),(84,jm),(85,adb),(86,ade),(87,LW),(88,CF),(89,nq),(90,adf),(91,adg),(92,LX),(93,uF),(94,y7),(95,adh),(96,adi),(97,LY),(98,EI),(99,CG),(100,adj),(101,adk),(102,Rv),(103,Rw),(104,L2),(123,EJ),(125,EL),(126,Rx),(127,L3),(128,Rz),(129,RA),(20129,adl),(130,EM),(131,L4),(132,EN),(133,RB),(134,L5),(135,EO),(136,L6),(137,nr),(138,L7),(139,RC),(140,AR),(141,nu),(142,y8),(143,EP),(144,AS),(145,L8),(146,ER),(147,L9),(148,RE),(149,Ma),(150,Mb),(151,Mc),(152,RF),(153,qp),(10153,Md),(154,RG),(155,RH),(156,vS),(157,RI),(158,RJ),(159,RK),(160,Me),(161,EU),(162,RL),(163,Mi),(164,vT),(165,RM),(166,RN),(167,Mj),(168,Mk),(169,RO),(170,EW),(171,xV),(172,uG),(173,RP),(174,RQ),(175,Ml),(176,AV),(177,HK),(178,EX),(179,AW),(180,Mm),(181,RS),(182,RT),(183,y9),(184,RU),(185,RW),(186,Mo),(187,HL),(188,Mp),(206,RX),(207,EY),(208,Mq),(209,HM),(210,RY),(211,Ms),(20211,adn),(30211,RZ),(212,R0),(213,tg),(214,rj),(10214,Mt),(215,R1),(216,CI),(217,R2),(20217,R3),(218,HN),(219,R5),(220,R6),(221,R7),(222,R8),(223,R9),(224,Mw),(225,Mx),(226,Sa),(227,My),(228,Mz),(229,za),(230,uH),(231,rq),(232,oH),(233,E1),(234,AX),(235,Sb),(236,AY),(238,Sc),(239,Sd),(240,MA),(241,Se),(242,Sf),(243,Sg),(244,Sh),(245,Si),(246,MC),(247,Sj),(248,MD),(249,HQ),(257,Sk),(258,ME),(259,Sl),(261,Sm),(262,HT),(20262,E3),(264,E4),(265,HU),(266,E5),(267,Sn),(268,E6),(269,MG),(270,CL),(271,CM),(272,AZ),(274,adr),(275,So),(276,Sq),(277,MI),(278,Sr),(281,HV),(283,ads),(284,MJ),(285,MK),(287,adt),(288,Ss),(289,HW),(290,Su),(291,adu),(292,adw),(293,adx),(294,adz),(295,adB),(296,adD),(312,CN),(313,Sv),(314,ML),(315,A0),(319,vU),(321,MM),(322,CO),(324,HX),(325,HY),(327,MN),(328,vV),(330,Sw),(332,MO),(333,qt),(335,MP),(336,Sx),(339,A1),(341,E8)]
def P:Prog:=λn=>match MQ.lookup n with
 |some F=>some F
 |none=>match n with
  | 263=>some Xr
  | 237=>some Xs
  | 260=>some Xt
  |_=>none
theorem Xu:P Em=some AP:=rfl
theorem adE:P G7=some Ro:=rfl
theorem zb:P uq=some dh:=rfl
theorem adF:P KL=some Rq:=rfl
theorem Xv:P Ct=some CE:=rfl
theorem adG:P KM=some vN:=rfl
theorem Xw:P KN=some LO:=rfl
theorem adH:P Ql=some LQ:=rfl
theorem adI:P Qm=some Rr:=rfl
theorem adJ:P KO=some LR:=rfl
theorem adK:P Qn=some vO:=rfl
theorem adL:P AG=some Rs:=rfl
theorem adM:P Qo=some Rt:=rfl
theorem zc:P sq=some vP:=rfl
theorem A3:P xM=some xU:=rfl
theorem adN:P G8=some Ru:=rfl
theorem Sy:P ur=some HA:=rfl
theorem Xx:P sX=some EA:=rfl
theorem Xy:P ql=some EB:=rfl
theorem CP:P yW=some y4:=rfl
theorem Xz:P sY=some EC:=rfl
theorem XA:P l5=some ED:=rfl
theorem oI:P pJ=some gY:=rfl
theorem adO:P uu=some LS:=rfl
theorem XB:P qZ=some uD:=rfl
theorem Sz:P AH=some y5:=rfl
theorem adP:P uw=some LU:=rfl
theorem XC:P oG=some uE:=rfl
theorem XD:P AI=some y6:=rfl
theorem adQ:P ux=some LV:=rfl
theorem XE:P gr=some EG:=rfl
theorem ke:P iM=some jm:=rfl
theorem adR:P uy=some LW:=rfl
theorem adS:P su=some CF:=rfl
theorem E9:P vL=some nq:=rfl
theorem adT:P uz=some LX:=rfl
theorem XF:P nU=some uF:=rfl
theorem XG:P AJ=some y7:=rfl
theorem adU:P uA=some LY:=rfl
theorem XH:P qm=some EI:=rfl
theorem XI:P Cu=some CG:=rfl
theorem adV:P En=some Rv:=rfl
theorem adW:P G9=some Rw:=rfl
theorem adX:P Cv=some L2:=rfl
theorem MR:P xN=some EJ:=rfl
theorem XJ:P KP=some EL:=rfl
theorem adY:P Qp=some Rx:=rfl
theorem XK:P He=some L3:=rfl
theorem adZ:P KQ=some Rz:=rfl
theorem ad0:P xO=some RA:=rfl
theorem XL:P KR=some EM:=rfl
theorem XM:P Eo=some L4:=rfl
theorem XN:P iU=some EN:=rfl
theorem ad1:P Hf=some RB:=rfl
theorem ad2:P KS=some L5:=rfl
theorem XO:P Ep=some EO:=rfl
theorem XP:P Cw=some L6:=rfl
theorem oJ:P Xp=some nr:=rfl
theorem ad3:P Qq=some L7:=rfl
theorem ad4:P KT=some RC:=rfl
theorem Fa:P sZ=some AR:=rfl
theorem oK:P Qr=some nu:=rfl
theorem MS:P qo=some y8:=rfl
theorem ad5:P Qt=some EP:=rfl
theorem ad6:P Qu=some AS:=rfl
theorem ad7:P Qv=some L8:=rfl
theorem ad8:P KU=some ER:=rfl
theorem ad9:P Qw=some L9:=rfl
theorem aea:P Qx=some RE:=rfl
theorem aeb:P Qy=some Ma:=rfl
theorem aec:P KV=some Mb:=rfl
theorem aed:P Hg=some Mc:=rfl
theorem aee:P Qz=some RF:=rfl
theorem MT:P sv=some qp:=rfl
theorem aef:P QA=some Md:=rfl
theorem aeg:P QB=some RG:=rfl
theorem aeh:P KW=some RH:=rfl
theorem XQ:P KX=some vS:=rfl
theorem aei:P QC=some RI:=rfl
theorem aej:P QD=some RJ:=rfl
theorem aek:P QE=some RK:=rfl
theorem XS:P Hh=some Me:=rfl
theorem SA:P Hi=some EU:=rfl
theorem ael:P QF=some RL:=rfl
theorem aem:P QG=some Mi:=rfl
theorem aen:P QH=some vT:=rfl
theorem aeo:P KY=some RM:=rfl
theorem aep:P QI=some RN:=rfl
theorem aer:P QJ=some Mj:=rfl
theorem aes:P QK=some Mk:=rfl
theorem aet:P yX=some RO:=rfl
theorem XT:P Hj=some EW:=rfl
theorem aeu:P Er=some xV:=rfl
theorem aev:P QL=some uG:=rfl
theorem aew:P Hl=some RP:=rfl
theorem aex:P AK=some RQ:=rfl
theorem aey:P KZ=some Ml:=rfl
theorem aez:P K0=some AV:=rfl
theorem XU:P K1=some HK:=rfl
theorem XV:P K2=some EX:=rfl
theorem XW:P K3=some AW:=rfl
theorem aeA:P QM=some Mm:=rfl
theorem aeB:P QN=some RS:=rfl
theorem aeC:P K4=some RT:=rfl
theorem XX:P K5=some y9:=rfl
theorem aeD:P K6=some RU:=rfl
theorem aeE:P K7=some RW:=rfl
theorem aeF:P QO=some Mo:=rfl
theorem aeG:P QS=some HL:=rfl
theorem XY:P K8=some Mp:=rfl
theorem aeH:P K9=some RX:=rfl
theorem SB:P Ho=some EY:=rfl
theorem XZ:P La=some Mq:=rfl
theorem SC:P Lb=some HM:=rfl
theorem aeI:P Lc=some RY:=rfl
theorem aeJ:P QT=some Ms:=rfl
theorem aeK:P QU=some RZ:=rfl
theorem aeL:P Es=some R0:=rfl
theorem X0:P Ld=some tg:=rfl
theorem SD:P s9=some rj:=rfl
theorem aeM:P QV=some Mt:=rfl
theorem aeN:P QW=some R1:=rfl
theorem H6:P xP=some CI:=rfl
theorem aeO:P QX=some R2:=rfl
theorem aeP:P QY=some R3:=rfl
theorem SE:P Et=some HN:=rfl
theorem aeQ:P QZ=some R5:=rfl
theorem aeR:P Lf=some R6:=rfl
theorem aeS:P Lg=some R7:=rfl
theorem aeT:P Lh=some R8:=rfl
theorem aeU:P Li=some R9:=rfl
theorem aeV:P Lj=some Mw:=rfl
theorem aeW:P Q2=some Mx:=rfl
theorem aeX:P Hp=some Sa:=rfl
theorem aeY:P Q3=some My:=rfl
theorem X1:P Ll=some Mz:=rfl
theorem H7:P AL=some za:=rfl
theorem H8:P yY=some uH:=rfl
theorem vW:P sw=some rq:=rfl
theorem vX:P pK=some oH:=rfl
theorem MU:P Cx=some E1:=rfl
theorem MW:P AM=some AX:=rfl
theorem aeZ:P Lm=some Sb:=rfl
theorem X2:P Hq=some AY:=rfl
theorem ae0:P Ln=some Sc:=rfl
theorem ae1:P Q5=some Sd:=rfl
theorem X3:P Hr=some MA:=rfl
theorem ae2:P Q6=some Se:=rfl
theorem ae3:P Lo=some Sf:=rfl
theorem ae4:P Ht=some Sg:=rfl
theorem ae5:P Lp=some Sh:=rfl
theorem ae6:P Hu=some Si:=rfl
theorem ae7:P Q7=some MC:=rfl
theorem ae8:P Lq=some Sj:=rfl
theorem X4:P Lr=some MD:=rfl
theorem X5:P Ls=some HQ:=rfl
theorem ae9:P Q8=some Sk:=rfl
theorem afa:P Eu=some ME:=rfl
theorem afb:P Q9=some Sl:=rfl
theorem afc:P Ra=some Sm:=rfl
theorem SF:P Rb=some HT:=rfl
theorem MX:P Lt=some E3:=rfl
theorem SG:P AN=some E4:=rfl
theorem afd:P Lu=some HU:=rfl
theorem afe:P Lv=some E5:=rfl
theorem aff:P Lw=some Sn:=rfl
theorem SH:P Ev=some E6:=rfl
theorem X6:P Cy=some MG:=rfl
theorem H9:P uB=some CL:=rfl
theorem MY:P Cz=some CM:=rfl
theorem SI:P xQ=some AZ:=rfl
theorem afg:P Lz=some So:=rfl
theorem afh:P Hv=some Sq:=rfl
theorem afi:P Re=some MI:=rfl
theorem afj:P LA=some Sr:=rfl
theorem SJ:P AO=some HV:=rfl
theorem X7:P Hw=some MJ:=rfl
theorem X8:P CC=some MK:=rfl
theorem afk:P LB=some Ss:=rfl
theorem X9:P LC=some HW:=rfl
theorem afl:P Ew=some Su:=rfl
theorem Ia:P vM=some CN:=rfl
theorem afm:P xR=some Sv:=rfl
theorem afn:P xS=some ML:=rfl
theorem afo:P LD=some A0:=rfl
theorem afp:P LF=some vU:=rfl
theorem afq:P Ri=some MM:=rfl
theorem afr:P LG=some CO:=rfl
theorem afs:P Rj=some HX:=rfl
theorem aft:P LH=some HY:=rfl
theorem afu:P Rk=some MN:=rfl
theorem afv:P LI=some vV:=rfl
theorem afw:P Ey=some Sw:=rfl
theorem afx:P Rl=some MO:=rfl
theorem Ib:P CD=some qt:=rfl
theorem Ya:P Rn=some MP:=rfl
theorem afy:P Ez=some Sx:=rfl
theorem afz:P LJ=some A1:=rfl
theorem afA:P LL=some E8:=rfl
theorem MZ:P Rc=some Xr:=rfl
theorem Yb:P Q4=some Xs:=rfl
theorem afB:P Xq=some Xt:=rfl
end Go.VS
