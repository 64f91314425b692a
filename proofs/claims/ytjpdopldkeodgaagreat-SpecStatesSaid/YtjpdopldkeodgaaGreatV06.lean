import Derived.Test.YtjpdopldkeodgaaGreatV05
set_option linter.all false
namespace Go.VS
def z_7:Nat:=7
def z_13:Nat:=13
def z_14:Nat:=14
def z_15:Nat:=15
def z_16:Nat:=16
def z_17:Nat:=17
def z_18:Nat:=18
def z_19:Nat:=19
def z_20:Nat:=20
def z_22:Nat:=22
def z_23:Nat:=23
def z_24:Nat:=24
def z_25:Nat:=25
def z_26:Nat:=26
def z_27:Nat:=27
def z_28:Nat:=28
def z_35:Nat:=35
def z_36:Nat:=36
def z_37:Nat:=37
def z_38:Nat:=38
def z_39:Nat:=39
def z_40:Nat:=40
def z_41:Nat:=41
def z_42:Nat:=42
def z_43:Nat:=43
def z_44:Nat:=44
def z_45:Nat:=45
def z_47:Nat:=47
def z_48:Nat:=48
def z_49:Nat:=49
def z_50:Nat:=50
def z_51:Nat:=51
def z_52:Nat:=52
def z_53:Nat:=53
def z_54:Nat:=54
def z_55:Nat:=55
def z_56:Nat:=56
def z_57:Nat:=57
def z_58:Nat:=58
def z_59:Nat:=59
def z_60:Nat:=60
def z_61:Nat:=61
def z_62:Nat:=62
def z_63:Nat:=63
def z_67:Nat:=67
def z_68:Nat:=68
def z_72:Nat:=72
def z_73:Nat:=73
def z_77:Nat:=77
def z_78:Nat:=78
def z_82:Nat:=82
def z_83:Nat:=83
def z_87:Nat:=87
def z_88:Nat:=88
def z_92:Nat:=92
def z_93:Nat:=93
def z_97:Nat:=97
def z_98:Nat:=98
def z_102:Nat:=102
def z_105:Nat:=105
def z_106:Nat:=106
def z_107:Nat:=107
def z_108:Nat:=108
def z_109:Nat:=109
def z_110:Nat:=110
def z_111:Nat:=111
def z_112:Nat:=112
def z_113:Nat:=113
def z_114:Nat:=114
def z_115:Nat:=115
def z_116:Nat:=116
def z_117:Nat:=117
def z_118:Nat:=118
def z_119:Nat:=119
def z_120:Nat:=120
def z_121:Nat:=121
def z_122:Nat:=122
def z_123:Nat:=123
def z_124:Nat:=124
def z_125:Nat:=125
def z_127:Nat:=127
def z_128:Nat:=128
def z_130:Nat:=130
def z_131:Nat:=131
def z_132:Nat:=132
def z_133:Nat:=133
def z_134:Nat:=134
def z_135:Nat:=135
def z_136:Nat:=136
def z_140:Nat:=140
def z_142:Nat:=142
def z_143:Nat:=143
def z_151:Nat:=151
def z_153:Nat:=153
def z_156:Nat:=156
def z_160:Nat:=160
def z_162:Nat:=162
def z_163:Nat:=163
def z_169:Nat:=169
def z_170:Nat:=170
def z_174:Nat:=174
def z_183:Nat:=183
def z_184:Nat:=184
def z_189:Nat:=189
def z_190:Nat:=190
def z_191:Nat:=191
def z_192:Nat:=192
def z_193:Nat:=193
def z_194:Nat:=194
def z_195:Nat:=195
def z_196:Nat:=196
def z_197:Nat:=197
def z_198:Nat:=198
def z_199:Nat:=199
def z_200:Nat:=200
def z_201:Nat:=201
def z_202:Nat:=202
def z_203:Nat:=203
def z_204:Nat:=204
def z_205:Nat:=205
def z_206:Nat:=206
def z_210:Nat:=210
def z_213:Nat:=213
def z_214:Nat:=214
def z_215:Nat:=215
def z_216:Nat:=216
def z_217:Nat:=217
def z_218:Nat:=218
def z_225:Nat:=225
def z_226:Nat:=226
def z_227:Nat:=227
def z_228:Nat:=228
def z_235:Nat:=235
def z_236:Nat:=236
def z_237:Nat:=237
def z_238:Nat:=238
def z_241:Nat:=241
def z_242:Nat:=242
def z_243:Nat:=243
def z_248:Nat:=248
def z_249:Nat:=249
def z_250:Nat:=250
def z_251:Nat:=251
def z_252:Nat:=252
def z_253:Nat:=253
def z_254:Nat:=254
def z_255:Nat:=255
def z_256:Nat:=256
def z_261:Nat:=261
def z_262:Nat:=262
def z_262q:Nat:=20262
def z_263:Nat:=263
def z_265:Nat:=265
def z_266:Nat:=266
def z_267:Nat:=267
def z_273:Nat:=273
def z_274:Nat:=274
def z_278:Nat:=278
def z_279:Nat:=279
def z_280:Nat:=280
def z_281:Nat:=281
def z_284:Nat:=284
def z_285:Nat:=285
def z_286:Nat:=286
def z_287:Nat:=287
def z_288:Nat:=288
def z_291:Nat:=291
def z_293:Nat:=293
def z_294:Nat:=294
def z_296:Nat:=296
def z_312:Nat:=312
def z_313:Nat:=313
def z_314:Nat:=314
def z_315:Nat:=315
def z_316:Nat:=316
def z_317:Nat:=317
def z_318:Nat:=318
def z_319:Nat:=319
def z_320:Nat:=320
def z_321:Nat:=321
def z_322:Nat:=322
def z_323:Nat:=323
def z_324:Nat:=324
def z_325:Nat:=325
def z_326:Nat:=326
def z_327:Nat:=327
def z_328:Nat:=328
def z_329:Nat:=329
def z_330:Nat:=330
def z_331:Nat:=331
def z_332:Nat:=332
def z_333:Nat:=333
def z_334:Nat:=334
def z_335:Nat:=335
def z_336:Nat:=336
def z_337:Nat:=337
def z_338:Nat:=338
def z_339:Nat:=339
def z_340:Nat:=340
def z_341:Nat:=341
def z_342:Nat:=342
@[simp] def zR:List D:=[(.i .i64 0),(.i .i64 0),(.i .i64 0),(.sl 1 true []),(.sl 5 true []),(.sl 1 true []),(.sl 2 true []),(.b false),(.i .i64 0)]
@[simp] def zQ:List D:=[(.i .i64 0),(.i .i64 0),(.i .i64 0),(.i .i64 0),(.i .i64 0)]
@[simp] def k0:A:=.k (.i .i64 0)
instance:Coe I J:=⟨J.op⟩
def F_z_7:F:=.mk
 ((.seq (.reg [I.box 2 (.t 0) 4 true,I.box 3 (.t 1) 9 true,I.mv 4 (.k (.b false))])
 ((.seq ((.seq (.reg [I.ld 13 (.t 3) 9 true,I.call (some 14) z_13 [(.t 13)]])
 (.ite (.t 14)
 ((.seq (.reg [I.call (some 15) z_14 [],I.mv 4 (.t 15)])
 (.ret)))
 (.skip))))
 ((.seq (.reg [I.ld 17 (.t 2) 4 true,I.call (some 18) z_23 [(.t 17)],I.mv 16 (.t 18),I.ext 19 (.t 16) 0,I.ext 20 (.t 16) 1,I.new 5 zR,I.st (.t 5) (.t 19) 9 true,I.mv 6 (.t 20)])
 ((.seq (.reg [I.ld 22 (.t 2) 4 true,I.call (some 23) z_24 [(.t 22)],I.mv 21 (.t 23),I.ext 24 (.t 21) 0,I.ext 25 (.t 21) 1,I.new 7 zR,I.st (.t 7) (.t 24) 9 true,I.mv 8 (.t 25)])
 ((.seq (.reg [I.ld 27 (.t 2) 4 true,I.ld 28 (.t 3) 9 true,I.call (some 29) z_25 [(.t 27),(.t 28)],I.mv 26 (.t 29),I.ext 30 (.t 26) 0,I.ext 31 (.t 26) 1,I.new 9 zR,I.st (.t 9) (.t 30) 9 true,I.mv 10 (.t 31)])
 ((.seq (.reg [I.ld 33 (.t 2) 4 true,I.ld 34 (.t 3) 9 true,I.call (some 35) z_26 [(.t 33),(.t 34)],I.mv 32 (.t 35),I.ext 36 (.t 32) 0,I.ext 37 (.t 32) 1,I.new 11 zR,I.st (.t 11) (.t 36) 9 true,I.mv 12 (.t 37)])
 ((.seq (.drw [] [0,1,2,3,4,5,6,7,8,9,10,11,12,13,14,15,16,17,18,19,20,21,22,23,24,25,26,27,28,29,30] [I.ldd 38 (.t 5) 9 true,I.ldd 39 (.t 7) 9 true,I.call (some 40) z_17 [(.t 38),(.t 39)],I.mv 41 (.t 40),.sc false 45 41 [I.mv 42 (.t 6),I.mv 43 (.t 8),I.bin 44 .eql (.t 42) (.t 43)] (.t 44),I.mv 46 (.t 45),.sc false 50 46 [I.ldd 47 (.t 9) 9 true,I.ldd 48 (.t 11) 9 true,I.call (some 49) z_17 [(.t 47),(.t 48)]] (.t 49),I.mv 51 (.t 50),.sc false 55 51 [I.mv 52 (.t 10),I.mv 53 (.t 12),I.bin 54 .eql (.t 52) (.t 53)] (.t 54),I.mv 56 (.t 55),.sc false 64 56 [I.ldd 57 (.t 2) 4 true,I.ldd 58 (.t 3) 9 true,I.call (some 59) z_27 [(.t 57),(.t 58)],I.ldd 60 (.t 2) 4 true,I.ldd 61 (.t 3) 9 true,I.call (some 62) z_28 [(.t 60),(.t 61)],I.eqb 63 false (.t 59) (.t 62)] (.t 63),I.mv 65 (.t 64),.sc false 67 65 [I.call (some 66) z_14 []] (.t 66),I.mv 4 (.t 67)])
 (.ret)))))))))))))))
 [.t 4] false none
def F_z_13_L0:C :=
 (.seq ((.seq (.reg [I.mv 26 (.t 3),I.fa 27 (.t 1) 6 1,I.ld 28 (.t 27) 1 false,I.len 29 (.t 28) .sl,I.bin 30 .lss (.t 26) (.t 29)])
 (.ite (.t 30)
 (.skip)
 (.seq (.keep []) (.exit 0)))))
 ((.seq (.blk 1 ((.seq (.reg [I.fa 33 (.t 1) 6 1,I.ld 34 (.t 33) 1 false,I.mv 35 (.t 3),I.ixs 36 (.t 34) (.t 35) 2,I.fa 37 (.t 36) 1 1,I.ld 38 (.t 37) 1 false,I.len 39 (.t 38) .sl,I.bin 40 .gtr (.t 39) (.k (.i .i64 120))])
 (.ite (.t 40)
 ((.seq (.reg [I.mv 2 (.k (.b true))])
 (.seq (.keep [2]) .ret)))
 (.skip)))))
 (.reg [I.mv 31 (.t 3),I.bin 32 .add (.t 31) (.k (.i .i64 1)),I.mv 3 (.t 32)]))))
def F_z_13:F:=.mk
 ((.seq (.reg [I.box 1 (.t 0) 9 true,I.mv 2 (.k (.b false))])
 ((.seq ((.seq (.reg [I.fa 4 (.t 1) 3 1,I.ld 5 (.t 4) 1 false,I.len 6 (.t 5) .sl,I.bin 7 .gtr (.t 6) (.k (.i .i64 40)),I.mv 8 (.t 7),.sc true 13 8 [I.fa 9 (.t 1) 4 1,I.ld 10 (.t 9) 1 false,I.len 11 (.t 10) .sl,I.bin 12 .gtr (.t 11) (.k (.i .i64 40))] (.t 12),I.mv 14 (.t 13),.sc true 19 14 [I.fa 15 (.t 1) 5 1,I.ld 16 (.t 15) 1 false,I.len 17 (.t 16) .sl,I.bin 18 .gtr (.t 17) (.k (.i .i64 120))] (.t 18),I.mv 20 (.t 19),.sc true 25 20 [I.fa 21 (.t 1) 6 1,I.ld 22 (.t 21) 1 false,I.len 23 (.t 22) .sl,I.bin 24 .gtr (.t 23) (.k (.i .i64 40))] (.t 24)])
 (.ite (.t 25)
 ((.seq (.reg [I.mv 2 (.k (.b true))])
 (.ret)))
 (.skip))))
 ((.seq ((.seq (.reg [I.mv 3 k0])
 (.blk 0 (.loop [1,3] F_z_13_L0))))
 ((.seq (.reg [I.mv 2 (.k (.b false))])
 (.ret)))))))))
 [.t 2] false none
def F_z_14:F:=.mk
 ((.seq (.reg [I.mv 0 (.k (.b false))])
 ((.seq (.reg [I.build 7 zQ [(0,1,(.k (.i .i64 1))),(1,1,(.k (.i .i64 64))),(2,1,(.k (.i .i64 5)))],I.build 8 zQ [(0,1,(.k (.i .i64 2))),(1,1,(.k (.i .i64 65)))],I.new 1 zQ,I.new 2 zQ,I.st (.t 1) (.t 7) 5 true,I.st (.t 2) (.t 8) 5 true])
 ((.seq (.reg [I.build 9 [(.i .i64 0),(.i .i64 0),(.i .i64 0),(.b false),(.i .i64 0)] [(0,1,(.k (.i .i64 1))),(1,1,(.k (.i .i64 64))),(3,1,(.k (.b true)))],I.build 10 [(.i .i64 0),(.i .i64 0),(.i .i64 0),(.b false),(.i .i64 0)] [(0,1,(.k (.i .i64 2))),(1,1,(.k (.i .i64 65))),(2,1,(.k (.i .i64 5))),(3,1,(.k (.b true)))],I.new 3 [(.i .i64 0),(.i .i64 0),(.i .i64 0),(.b false),(.i .i64 0)],I.new 4 [(.i .i64 0),(.i .i64 0),(.i .i64 0),(.b false),(.i .i64 0)],I.st (.t 3) (.t 9) 5 true,I.st (.t 4) (.t 10) 5 true])
 ((.seq (.reg [I.call (some 12) z_35 [],I.call (some 13) z_23 [(.t 12)],I.mv 11 (.t 13),I.ext 14 (.t 11) 0,I.ext 15 (.t 11) 1,I.new 5 zR,I.st (.t 5) (.t 14) 9 true,I.mv 6 (.t 15)])
 ((.seq (.drw [] [0,1,2,3,4,5,6,7,8,9,10,11,12,13,14,15,16,17,18,19,20,21,22,23,24,25,26,27,28,29,30,31,32,33,34,35,36,37,38,39,40,41,42,43,44,45] [I.mv 16 (.t 6),I.bin 17 .eql (.t 16) k0,I.mv 18 (.t 17),.sc false 23 18 [I.call (some 19) z_35 [],I.ldd 20 (.t 5) 9 true,I.ldd 21 (.t 1) 5 true,I.call (some 22) z_18 [(.t 19),(.t 20),(.t 21)]] (.t 22),I.mv 24 (.t 23),.sc false 30 24 [I.call (some 25) z_35 [],I.ldd 26 (.t 5) 9 true,I.ldd 27 (.t 2) 5 true,I.call (some 28) z_18 [(.t 25),(.t 26),(.t 27)],I.un 29 .not (.t 28)] (.t 29),I.mv 31 (.t 30),.sc false 40 31 [I.call (some 32) z_35 [],I.ldd 33 (.t 1) 5 true,I.ldd 34 (.t 2) 5 true,I.buildSl 35 5 2 zQ [(0,(.t 33)),(1,(.t 34))] true,I.ldd 36 (.t 3) 5 true,I.ldd 37 (.t 4) 5 true,I.buildSl 38 5 2 [(.i .i64 0),(.i .i64 0),(.i .i64 0),(.b false),(.i .i64 0)] [(0,(.t 36)),(1,(.t 37))] true,I.call (some 39) z_20 [(.t 32),(.t 35),(.t 38)]] (.t 39),I.mv 41 (.t 40),.sc false 49 41 [I.call (some 42) z_35 [],I.ldd 43 (.t 1) 5 true,I.buildSl 44 5 1 zQ [(0,(.t 43))] true,I.ldd 45 (.t 3) 5 true,I.buildSl 46 5 1 [(.i .i64 0),(.i .i64 0),(.i .i64 0),(.b false),(.i .i64 0)] [(0,(.t 45))] true,I.call (some 47) z_20 [(.t 42),(.t 44),(.t 46)],I.un 48 .not (.t 47)] (.t 48),I.mv 50 (.t 49),.sc false 60 50 [I.call (some 51) z_35 [],I.ldd 52 (.t 2) 5 true,I.ldd 53 (.t 1) 5 true,I.buildSl 54 5 2 zQ [(0,(.t 52)),(1,(.t 53))] true,I.ldd 55 (.t 4) 5 true,I.ldd 56 (.t 3) 5 true,I.buildSl 57 5 2 [(.i .i64 0),(.i .i64 0),(.i .i64 0),(.b false),(.i .i64 0)] [(0,(.t 55)),(1,(.t 56))] true,I.call (some 58) z_20 [(.t 51),(.t 54),(.t 57)],I.un 59 .not (.t 58)] (.t 59),I.mv 0 (.t 60)])
 (.ret)))))))))))
 [.t 0] false none
def F_z_15:F:=.mk
 ((.seq (.reg [I.box 3 (.t 0) 4 true,I.box 4 (.t 1) 9 true,I.box 5 (.t 2) 5 true,I.new 6 zR,I.mv 7 k0,I.mv 8 (.k (.b false)),I.mv 9 k0])
 ((.seq (.reg [I.mv 10 (.k (.fn z_36 [] []))])
 ((.seq (.reg [I.fa 19 (.t 3) 1 1,I.ld 20 (.t 19) 1 false,I.call (some 21) z_37 [(.t 20)],I.mv 18 (.t 21),I.ext 22 (.t 18) 0,I.ext 23 (.t 18) 1,I.mv 11 (.t 22),I.mv 12 (.t 23)])
 ((.seq ((.seq (.reg [I.mv 24 (.t 12),I.un 25 .not (.t 24),I.mv 26 (.t 25),.sc true 31 26 [I.fa 27 (.t 4) 4 1,I.ld 28 (.t 27) 1 false,I.len 29 (.t 28) .sl,I.bin 30 .gtr (.t 29) k0] (.t 30),I.mv 32 (.t 31),.sc true 38 32 [I.mv 33 (.t 11),I.ld 34 (.t 3) 4 true,I.ld 35 (.t 4) 9 true,I.inv (some 36) "nursery/spec.abstract" [(101,2,z_312),(102,2,z_312),(103,2,z_312),(104,2,z_324),(105,2,z_327),(106,2,z_332),(107,2,z_312),(108,2,z_312)] (.t 33) [(.t 34),(.t 35)],I.un 37 .not (.t 36)] (.t 37)])
 (.ite (.t 38)
 ((.seq (.reg [I.mv 39 (.t 10),I.callv (some 40) (.t 39) [(.k (.i .i64 1))],I.ext 41 (.t 40) 0,I.ext 42 (.t 40) 1,I.ext 43 (.t 40) 2,I.ext 44 (.t 40) 3,I.st (.t 6) (.t 41) 9 false,I.mv 7 (.t 42),I.mv 8 (.t 43),I.mv 9 (.t 44)])
 (.ret)))
 (.skip))))
 ((.seq ((.seq (.reg [I.fa 45 (.t 5) 0 1,I.ld 46 (.t 45) 1 false,I.bin 47 .lss (.t 46) k0,I.mv 48 (.t 47),.sc true 52 48 [I.fa 49 (.t 5) 0 1,I.ld 50 (.t 49) 1 false,I.bin 51 .geq (.t 50) (.k (.i .i64 16))] (.t 51),I.mv 53 (.t 52),.sc true 57 53 [I.fa 54 (.t 5) 3 1,I.ld 55 (.t 54) 1 false,I.bin 56 .lss (.t 55) k0] (.t 56),I.mv 58 (.t 57),.sc true 62 58 [I.fa 59 (.t 5) 3 1,I.ld 60 (.t 59) 1 false,I.bin 61 .gtr (.t 60) (.k (.i .i64 9))] (.t 61),I.mv 63 (.t 62),.sc true 67 63 [I.fa 64 (.t 5) 4 1,I.ld 65 (.t 64) 1 false,I.bin 66 .lss (.t 65) k0] (.t 66),I.mv 68 (.t 67),.sc true 72 68 [I.fa 69 (.t 5) 4 1,I.ld 70 (.t 69) 1 false,I.bin 71 .gtr (.t 70) (.k (.i .i64 1099511627776))] (.t 71)])
 (.ite (.t 72)
 ((.seq (.reg [I.mv 73 (.t 10),I.callv (some 74) (.t 73) [(.k (.i .i64 2))],I.ext 75 (.t 74) 0,I.ext 76 (.t 74) 1,I.ext 77 (.t 74) 2,I.ext 78 (.t 74) 3,I.st (.t 6) (.t 75) 9 false,I.mv 7 (.t 76),I.mv 8 (.t 77),I.mv 9 (.t 78)])
 (.ret)))
 (.skip))))
 ((.seq (.drw [] [0,1,3,4,2,5,6,7,8,9,10] [I.fad 80 (.t 3) 1 1,I.ldd 81 (.t 80) 1 false,I.fad 83 (.t 5) 1 1,I.ldd 84 (.t 83) 1 false,I.callk (some 82) z_38 [(.t 81)],I.mget 85 (.t 82) (.t 84) (.i .i64 0) true [.i],I.mv 79 (.t 85),I.ext 86 (.t 79) 0,I.ext 87 (.t 79) 1,I.mv 13 (.t 86),I.mv 12 (.t 87)])
 ((.seq ((.seq (.reg [I.mv 88 (.t 12),I.un 89 .not (.t 88)])
 (.ite (.t 89)
 ((.seq (.reg [I.mv 90 (.t 10),I.callv (some 91) (.t 90) [(.k (.i .i64 8))],I.ext 92 (.t 91) 0,I.ext 93 (.t 91) 1,I.ext 94 (.t 91) 2,I.ext 95 (.t 91) 3,I.st (.t 6) (.t 92) 9 false,I.mv 7 (.t 93),I.mv 8 (.t 94),I.mv 9 (.t 95)])
 (.ret)))
 (.skip))))
 ((.seq ((.seq (.reg [I.mv 96 (.t 13),I.bin 97 .eql (.t 96) (.k (.i .i64 1)),I.mv 98 (.t 97),.sc false 109 98 [I.fa 99 (.t 5) 2 1,I.ld 100 (.t 99) 1 false,I.bin 101 .lss (.t 100) (.k (.i .i64 1)),I.mv 102 (.t 101),.sc true 108 102 [I.fa 103 (.t 5) 2 1,I.ld 104 (.t 103) 1 false,I.fa 105 (.t 3) 2 1,I.ld 106 (.t 105) 1 false,I.bin 107 .gtr (.t 104) (.t 106)] (.t 107)] (.t 108),I.mv 110 (.t 109),.sc true 123 110 [I.mv 111 (.t 13),I.bin 112 .eql (.t 111) (.k (.i .i64 2)),I.mv 113 (.t 112),.sc false 122 113 [I.fa 114 (.t 5) 2 1,I.ld 115 (.t 114) 1 false,I.bin 116 .lss (.t 115) (.k (.i .i64 (-1099511627776))),I.mv 117 (.t 116),.sc true 121 117 [I.fa 118 (.t 5) 2 1,I.ld 119 (.t 118) 1 false,I.bin 120 .gtr (.t 119) (.k (.i .i64 1099511627776))] (.t 120)] (.t 121)] (.t 122)])
 (.ite (.t 123)
 ((.seq (.reg [I.mv 124 (.t 10),I.callv (some 125) (.t 124) [(.k (.i .i64 2))],I.ext 126 (.t 125) 0,I.ext 127 (.t 125) 1,I.ext 128 (.t 125) 2,I.ext 129 (.t 125) 3,I.st (.t 6) (.t 126) 9 false,I.mv 7 (.t 127),I.mv 8 (.t 128),I.mv 9 (.t 129)])
 (.ret)))
 (.skip))))
 ((.seq (.reg [I.mv 131 (.t 11),I.ld 132 (.t 3) 4 true,I.ld 133 (.t 4) 9 true,I.ld 134 (.t 5) 5 true,I.inv (some 135) "nursery/spec.effect" [(101,2,z_315),(102,2,z_319),(103,2,z_322),(104,2,z_325),(105,2,z_328),(106,2,z_333),(107,2,z_339),(108,2,z_341)] (.t 131) [(.t 132),(.t 133),(.t 134)],I.mv 130 (.t 135),I.ext 136 (.t 130) 0,I.ext 137 (.t 130) 1,I.ext 138 (.t 130) 2,I.ext 139 (.t 130) 3,I.new 14 zR,I.st (.t 14) (.t 136) 9 true,I.mv 15 (.t 137),I.mv 16 (.t 138),I.mv 17 (.t 139)])
 ((.seq ((.seq (.reg [I.mv 140 (.t 17),I.bin 141 .neq (.t 140) k0])
 (.ite (.t 141)
 ((.seq (.reg [I.mv 142 (.t 10),I.mv 143 (.t 17),I.callv (some 144) (.t 142) [(.t 143)],I.ext 145 (.t 144) 0,I.ext 146 (.t 144) 1,I.ext 147 (.t 144) 2,I.ext 148 (.t 144) 3,I.st (.t 6) (.t 145) 9 false,I.mv 7 (.t 146),I.mv 8 (.t 147),I.mv 9 (.t 148)])
 (.ret)))
 (.skip))))
 ((.seq (.reg [I.ld 149 (.t 14) 9 true,I.mv 150 (.t 15),I.mv 151 (.t 16),I.st (.t 6) (.t 149) 9 false,I.mv 7 (.t 150),I.mv 8 (.t 151),I.mv 9 k0])
 (.ret)))))))))))))))))))))))
 [.c 6 9 true,.t 7,.t 8,.t 9] false none
def F_z_16:F:=.mk
 ((.seq (.reg [I.box 3 (.t 0) 4 true,I.box 4 (.t 1) 9 true,I.box 5 (.t 2) 5 true,I.new 6 zR,I.mv 7 k0,I.mv 8 (.k (.b false)),I.mv 9 k0])
 ((.seq (.reg [I.build 15 zR [],I.new 10 zR,I.st (.t 10) (.t 15) 9 true])
 ((.seq ((.seq (.reg [I.ld 16 (.t 3) 4 true,I.ld 17 (.t 4) 9 true,I.call (some 18) z_22 [(.t 16),(.t 17)],I.un 19 .not (.t 18)])
 (.ite (.t 19)
 ((.seq (.reg [I.ld 20 (.t 10) 9 true,I.st (.t 6) (.t 20) 9 false,I.mv 7 k0,I.mv 8 (.k (.b false)),I.mv 9 (.k (.i .i64 1))])
 (.ret)))
 (.skip))))
 ((.seq ((.seq (.reg [I.fa 21 (.t 5) 0 1,I.ld 22 (.t 21) 1 false,I.bin 23 .lss (.t 22) k0,I.mv 24 (.t 23),.sc true 28 24 [I.fa 25 (.t 5) 0 1,I.ld 26 (.t 25) 1 false,I.bin 27 .geq (.t 26) (.k (.i .i64 16))] (.t 27),I.mv 29 (.t 28),.sc true 33 29 [I.fa 30 (.t 5) 3 1,I.ld 31 (.t 30) 1 false,I.bin 32 .lss (.t 31) k0] (.t 32),I.mv 34 (.t 33),.sc true 38 34 [I.fa 35 (.t 5) 3 1,I.ld 36 (.t 35) 1 false,I.bin 37 .gtr (.t 36) (.k (.i .i64 9))] (.t 37),I.mv 39 (.t 38),.sc true 43 39 [I.fa 40 (.t 5) 4 1,I.ld 41 (.t 40) 1 false,I.bin 42 .lss (.t 41) k0] (.t 42),I.mv 44 (.t 43),.sc true 48 44 [I.fa 45 (.t 5) 4 1,I.ld 46 (.t 45) 1 false,I.bin 47 .gtr (.t 46) (.k (.i .i64 1099511627776))] (.t 47)])
 (.ite (.t 48)
 ((.seq (.reg [I.ld 49 (.t 10) 9 true,I.st (.t 6) (.t 49) 9 false,I.mv 7 k0,I.mv 8 (.k (.b false)),I.mv 9 (.k (.i .i64 2))])
 (.ret)))
 (.skip))))
 ((.seq ((.seq (.reg [I.fa 50 (.t 3) 1 1,I.ld 51 (.t 50) 1 false,I.fa 52 (.t 5) 1 1,I.ld 53 (.t 52) 1 false,I.call (some 54) z_39 [(.t 51),(.t 53)],I.un 55 .not (.t 54)])
 (.ite (.t 55)
 ((.seq (.reg [I.ld 56 (.t 10) 9 true,I.st (.t 6) (.t 56) 9 false,I.mv 7 k0,I.mv 8 (.k (.b false)),I.mv 9 (.k (.i .i64 8))])
 (.ret)))
 (.skip))))
 ((.seq ((.seq (.reg [I.ld 57 (.t 3) 4 true,I.ld 58 (.t 5) 5 true,I.call (some 59) z_40 [(.t 57),(.t 58)],I.un 60 .not (.t 59)])
 (.ite (.t 60)
 ((.seq (.reg [I.ld 61 (.t 10) 9 true,I.st (.t 6) (.t 61) 9 false,I.mv 7 k0,I.mv 8 (.k (.b false)),I.mv 9 (.k (.i .i64 2))])
 (.ret)))
 (.skip))))
 ((.seq (.reg [I.ld 63 (.t 3) 4 true,I.ld 64 (.t 4) 9 true,I.ld 65 (.t 5) 5 true,I.call (some 66) z_41 [(.t 63),(.t 64),(.t 65)],I.mv 62 (.t 66),I.ext 67 (.t 62) 0,I.ext 68 (.t 62) 1,I.ext 69 (.t 62) 2,I.ext 70 (.t 62) 3,I.new 11 zR,I.st (.t 11) (.t 67) 9 true,I.mv 12 (.t 68),I.mv 13 (.t 69),I.mv 14 (.t 70)])
 ((.seq ((.seq (.reg [I.mv 71 (.t 14),I.bin 72 .neq (.t 71) k0])
 (.ite (.t 72)
 ((.seq (.reg [I.ld 73 (.t 10) 9 true,I.mv 74 (.t 14),I.st (.t 6) (.t 73) 9 false,I.mv 7 k0,I.mv 8 (.k (.b false)),I.mv 9 (.t 74)])
 (.ret)))
 (.skip))))
 ((.seq (.reg [I.ld 75 (.t 11) 9 true,I.mv 76 (.t 12),I.mv 77 (.t 13),I.st (.t 6) (.t 75) 9 false,I.mv 7 (.t 76),I.mv 8 (.t 77),I.mv 9 k0])
 (.ret)))))))))))))))))))
 [.c 6 9 true,.t 7,.t 8,.t 9] false none
def F_z_17:F:=.mk
 ((.seq (.reg [I.box 2 (.t 0) 9 true,I.box 3 (.t 1) 9 true,I.mv 4 (.k (.b false))])
 ((.seq ((.seq (.reg [I.fa 5 (.t 2) 0 1,I.ld 6 (.t 5) 1 false,I.fa 7 (.t 3) 0 1,I.ld 8 (.t 7) 1 false,I.bin 9 .neq (.t 6) (.t 8),I.mv 10 (.t 9),.sc true 16 10 [I.fa 11 (.t 2) 1 1,I.ld 12 (.t 11) 1 false,I.fa 13 (.t 3) 1 1,I.ld 14 (.t 13) 1 false,I.bin 15 .neq (.t 12) (.t 14)] (.t 15),I.mv 17 (.t 16),.sc true 23 17 [I.fa 18 (.t 2) 2 1,I.ld 19 (.t 18) 1 false,I.fa 20 (.t 3) 2 1,I.ld 21 (.t 20) 1 false,I.bin 22 .neq (.t 19) (.t 21)] (.t 22),I.mv 24 (.t 23),.sc true 30 24 [I.fa 25 (.t 2) 7 1,I.ld 26 (.t 25) 1 false,I.fa 27 (.t 3) 7 1,I.ld 28 (.t 27) 1 false,I.eqb 29 true (.t 26) (.t 28)] (.t 29),I.mv 31 (.t 30),.sc true 37 31 [I.fa 32 (.t 2) 8 1,I.ld 33 (.t 32) 1 false,I.fa 34 (.t 3) 8 1,I.ld 35 (.t 34) 1 false,I.bin 36 .neq (.t 33) (.t 35)] (.t 36)])
 (.ite (.t 37)
 ((.seq (.reg [I.mv 4 (.k (.b false))])
 (.ret)))
 (.skip))))
 ((.seq (.reg [I.fa 38 (.t 2) 3 1,I.ld 39 (.t 38) 1 false,I.fa 40 (.t 3) 3 1,I.ld 41 (.t 40) 1 false,I.call (some 42) z_42 [(.t 39),(.t 41)],I.mv 43 (.t 42),.sc false 49 43 [I.fa 44 (.t 2) 5 1,I.ld 45 (.t 44) 1 false,I.fa 46 (.t 3) 5 1,I.ld 47 (.t 46) 1 false,I.call (some 48) z_42 [(.t 45),(.t 47)]] (.t 48),I.mv 50 (.t 49),.sc false 56 50 [I.fa 51 (.t 2) 4 1,I.ld 52 (.t 51) 1 false,I.fa 53 (.t 3) 4 1,I.ld 54 (.t 53) 1 false,I.call (some 55) z_43 [(.t 52),(.t 54)]] (.t 55),I.mv 57 (.t 56),.sc false 63 57 [I.fa 58 (.t 2) 6 1,I.ld 59 (.t 58) 1 false,I.fa 60 (.t 3) 6 1,I.ld 61 (.t 60) 1 false,I.call (some 62) z_44 [(.t 59),(.t 61)]] (.t 62),I.mv 4 (.t 63)])
 (.ret)))))))
 [.t 4] false none
def F_z_18:F:=.mk
 ((.seq (.reg [I.box 3 (.t 0) 4 true,I.box 4 (.t 1) 9 true,I.box 5 (.t 2) 5 true,I.mv 6 (.k (.b false))])
 ((.seq (.reg [I.ld 12 (.t 3) 4 true,I.ld 13 (.t 4) 9 true,I.ld 14 (.t 5) 5 true,I.call (some 15) z_15 [(.t 12),(.t 13),(.t 14)],I.mv 11 (.t 15),I.ext 16 (.t 11) 0,I.ext 17 (.t 11) 1,I.ext 18 (.t 11) 2,I.ext 19 (.t 11) 3,I.new 7 zR,I.st (.t 7) (.t 16) 9 true,I.mv 8 (.t 17),I.mv 9 (.t 18),I.mv 10 (.t 19)])
 ((.seq (.reg [I.mv 20 (.t 10),I.bin 21 .eql (.t 20) k0,I.mv 6 (.t 21)])
 (.ret)))))))
 [.t 6] false none
def F_z_19:F:=.mk
 ((.seq (.reg [I.box 3 (.t 0) 4 true,I.box 4 (.t 1) 9 true,I.box 5 (.t 2) 5 true,I.mv 6 (.k (.b false))])
 ((.seq (.reg [I.ld 12 (.t 3) 4 true,I.ld 13 (.t 4) 9 true,I.ld 14 (.t 5) 5 true,I.call (some 15) z_16 [(.t 12),(.t 13),(.t 14)],I.mv 11 (.t 15),I.ext 16 (.t 11) 0,I.ext 17 (.t 11) 1,I.ext 18 (.t 11) 2,I.ext 19 (.t 11) 3,I.new 7 zR,I.st (.t 7) (.t 16) 9 true,I.mv 8 (.t 17),I.mv 9 (.t 18),I.mv 10 (.t 19)])
 ((.seq (.reg [I.mv 20 (.t 10),I.bin 21 .eql (.t 20) k0,I.mv 6 (.t 21)])
 (.ret)))))))
 [.t 6] false none
def F_z_20_L0:C :=
 (.seq (.reg [I.bin 41 .lss (.t 40) (.t 39)])
 ((.seq (.ite (.t 41)
 (.skip)
 (.seq (.keep [3,7]) (.exit 0)))
 ((.seq (.blk 1 ((.seq (.reg [I.mv 42 (.t 40),I.ixs 43 (.t 38) (.t 40) 5,I.ld 44 (.t 43) 5 true,I.new 10 zQ,I.mv 9 (.t 42),I.st (.t 10) (.t 44) 5 true])
 ((.seq (.reg [I.ld 46 (.t 3) 4 true,I.ld 47 (.t 7) 9 true,I.ld 48 (.t 10) 5 true,I.call (some 49) z_15 [(.t 46),(.t 47),(.t 48)],I.mv 45 (.t 49),I.ext 50 (.t 45) 0,I.ext 51 (.t 45) 1,I.ext 52 (.t 45) 2,I.ext 53 (.t 45) 3,I.new 11 zR,I.st (.t 11) (.t 50) 9 true,I.mv 12 (.t 51),I.mv 13 (.t 52),I.mv 14 (.t 53)])
 ((.seq ((.seq (.drw [] [0,1,2,3,4,5,6,7,8,9,10,11,12,13,14,15,16,17,18,19,20,21] [I.mv 54 (.t 14),I.bin 55 .neq (.t 54) k0,I.mv 56 (.t 55),.sc true 65 56 [I.fad 57 (.t 10) 0 1,I.ldd 58 (.t 57) 1 false,I.mv 59 (.t 2),I.mv 60 (.t 9),I.ixs 61 (.t 59) (.t 60) 5,I.fa 62 (.t 61) 0 1,I.ld 63 (.t 62) 1 false,I.bin 64 .neq (.t 58) (.t 63)] (.t 64),I.mv 66 (.t 65),.sc true 75 66 [I.fad 67 (.t 10) 1 1,I.ldd 68 (.t 67) 1 false,I.mv 69 (.t 2),I.mv 70 (.t 9),I.ixs 71 (.t 69) (.t 70) 5,I.fa 72 (.t 71) 1 1,I.ld 73 (.t 72) 1 false,I.bin 74 .neq (.t 68) (.t 73)] (.t 74)])
 (.ite (.t 75)
 ((.seq (.reg [I.mv 6 (.k (.b false))])
 (.seq (.keep [6]) .ret)))
 (.skip))))
 ((.seq (.seq (.drw [] [0,1,2,3,4,5,6,7,8,9,10,11,12] [I.mv 76 (.t 2),I.mv 77 (.t 9),I.ixs 78 (.t 76) (.t 77) 5,I.fa 79 (.t 78) 2 1,I.ld 80 (.t 79) 1 false,I.mv 81 (.t 2),I.mv 82 (.t 9),I.ixs 83 (.t 81) (.t 82) 5,I.fa 84 (.t 83) 3 1,I.ld 85 (.t 84) 1 false,I.call (some 86) z_45 [(.t 80),(.t 85)],I.new 15 [(.i .i64 0),(.i .i64 0)],.re (.ixs 78 (.t 76) (.t 77) 5),.re (.fa 79 (.t 78) 2 1),.re (.ld 80 (.t 79) 1 false),.re (.ixs 83 (.t 81) (.t 82) 5),.re (.fa 84 (.t 83) 3 1),.re (.ld 85 (.t 84) 1 false),I.st (.t 15) (.t 86) 2 false])
 (.frz [15]))
 ((.seq (.drw [] [0,1,2,3,4,5,6,7,8,9,10,11,12,13] [I.fad 87 (.t 10) 1 1,I.ldd 88 (.t 87) 1 false,I.bin 89 .eql (.t 88) (.k (.i .i64 61)),I.mv 90 (.t 89),.sc false 94 90 [I.fad 91 (.t 3) 3 1,I.ldd 92 (.t 91) 1 false,I.bin 93 .eql (.t 92) k0] (.t 93),I.mv 95 (.t 94),.sc false 99 95 [I.ldd 96 (.t 15) 2 true,I.call (some 97) z_45 [k0,(.k (.b false))],I.eqv 98 false (.t 96) (.t 97) [.i,.i]] (.t 98),I.mv 16 (.t 99)])
 (.blk 2 ((.seq (.drw [] [0,1,2,3,4,5] [I.ldd 101 (.t 15) 2 true,I.mv 102 (.t 12),I.mv 103 (.t 13),I.call (some 104) z_45 [(.t 102),(.t 103)],I.eqv 105 false (.t 101) (.t 104) [.i,.i],I.mv 100 (.t 105)])
 (.ite (.t 100)
 (.reg [I.ld 106 (.t 11) 9 true,I.st (.t 7) (.t 106) 9 false])
 ((.seq (.reg [I.mv 108 (.t 16),I.un 109 .not (.t 108),I.mv 107 (.t 109)])
 (.ite (.t 107)
 ((.seq (.reg [I.mv 6 (.k (.b false))])
 (.seq (.keep [6]) .ret)))
 (.skip)))))))))))))))))))
 (.reg [I.bin 110 .add (.t 40) (.k (.i .i64 1)),I.mv 40 (.t 110)]))))))
def F_z_20:F:=.mk
 ((.seq (.reg [I.box 3 (.t 0) 4 true,I.mv 6 (.k (.b false))])
 ((.seq (.reg [I.ld 20 (.t 3) 4 true,I.call (some 21) z_23 [(.t 20)],I.mv 19 (.t 21),I.ext 22 (.t 19) 0,I.ext 23 (.t 19) 1,I.new 7 zR,I.st (.t 7) (.t 22) 9 false,I.mv 8 (.t 23)])
 ((.seq ((.seq (.reg [I.mv 24 (.t 8),I.bin 25 .neq (.t 24) k0,I.mv 26 (.t 25),.sc true 32 26 [I.mv 27 (.t 1),I.len 28 (.t 27) .sl,I.mv 29 (.t 2),I.len 30 (.t 29) .sl,I.bin 31 .neq (.t 28) (.t 30)] (.t 31),I.mv 33 (.t 32),.sc true 37 33 [I.mv 34 (.t 1),I.len 35 (.t 34) .sl,I.bin 36 .gtr (.t 35) (.k (.i .i64 1000))] (.t 36)])
 (.ite (.t 37)
 ((.seq (.reg [I.mv 6 (.k (.b false))])
 (.ret)))
 (.skip))))
 ((.seq ((.seq (.reg [I.mv 38 (.t 1),I.len 39 (.t 38) .sl,I.mv 40 k0])
 (.blk 0 (.loop [2,3,7,38,39,40] F_z_20_L0))))
 ((.seq (.reg [I.fa 112 (.t 3) 1 1,I.ld 113 (.t 112) 1 false,I.call (some 114) z_37 [(.t 113)],I.mv 111 (.t 114),I.ext 115 (.t 111) 0,I.ext 116 (.t 111) 1,I.mv 17 (.t 115),I.mv 18 (.t 116)])
 ((.seq (.reg [I.mv 117 (.t 17),I.ld 118 (.t 3) 4 true,I.ld 119 (.t 7) 9 true,I.inv (some 120) "nursery/spec.check" [(101,2,z_313),(102,2,z_313),(103,2,z_313),(104,2,z_313),(105,2,z_313),(106,2,z_313),(107,2,z_313),(108,2,z_313)] (.t 117) [(.t 118),(.t 119)],I.bin 121 .eql (.t 120) k0,I.mv 6 (.t 121)])
 (.ret)))))))))))))
 [.t 6] false none
def F_z_22:F:=.mk
 ((.seq (.reg [I.box 2 (.t 0) 4 false,I.box 3 (.t 1) 9 false,I.mv 4 (.k (.b false))])
 ((.seq ((.seq (.reg [I.ld 8 (.t 2) 4 true,I.call (some 9) z_24 [(.t 8)],I.mv 7 (.t 9),I.ext 10 (.t 7) 0,I.ext 11 (.t 7) 1,I.new 5 zR,I.st (.t 5) (.t 10) 9 true,I.mv 6 (.t 11)])
 ((.seq (.reg [I.mv 12 (.t 6),I.bin 13 .neq (.t 12) k0,I.mv 14 (.t 13),.sc true 19 14 [I.fa 15 (.t 3) 4 1,I.ld 16 (.t 15) 1 false,I.len 17 (.t 16) .sl,I.bin 18 .gtr (.t 17) k0] (.t 18)])
 (.ite (.t 19)
 ((.seq (.reg [I.mv 4 (.k (.b false))])
 (.ret)))
 (.skip))))))
 ((.seq ((.seq (.reg [I.fa 20 (.t 2) 1 1,I.ld 21 (.t 20) 1 false,I.bin 22 .eql (.t 21) (.k (.i .i64 6)),I.mv 23 (.t 22),.sc true 27 23 [I.fa 24 (.t 2) 1 1,I.ld 25 (.t 24) 1 false,I.bin 26 .eql (.t 25) (.k (.i .i64 7))] (.t 26)])
 (.ite (.t 27)
 (.reg [I.ld 28 (.t 2) 4 true,I.call (some 29) z_47 [(.t 28)],I.fa 30 (.t 2) 2 1,I.st (.t 30) (.t 29) 1 false])
 (.skip))))
 ((.seq ((.seq (.reg [I.fa 31 (.t 2) 1 1,I.ld 32 (.t 31) 1 false,I.bin 33 .eql (.t 32) (.k (.i .i64 5))])
 (.ite (.t 33)
 ((.seq ((.seq (.reg [I.fa 34 (.t 3) 8 1,I.ld 35 (.t 34) 1 false,I.bin 36 .lss (.t 35) k0,I.mv 37 (.t 36),.sc true 43 37 [I.fa 38 (.t 3) 8 1,I.ld 39 (.t 38) 1 false,I.fa 40 (.t 2) 2 1,I.ld 41 (.t 40) 1 false,I.bin 42 .geq (.t 39) (.t 41)] (.t 42)])
 (.ite (.t 43)
 ((.seq (.reg [I.mv 4 (.k (.b false))])
 (.ret)))
 (.skip))))
 (.reg [I.fa 44 (.t 3) 8 1,I.st (.t 44) k0 1 false])))
 (.skip))))
 ((.seq (.reg [I.ld 45 (.t 2) 4 true,I.ld 46 (.t 3) 9 true,I.call (some 47) z_48 [(.t 45),(.t 46)],I.bin 48 .eql (.t 47) k0,I.mv 4 (.t 48)])
 (.ret)))))))))))
 [.t 4] false none
def F_z_23:F:=.mk
 ((.seq (.reg [I.box 1 (.t 0) 4 true,I.new 2 zR,I.mv 3 k0])
 ((.seq (.reg [I.fa 7 (.t 1) 1 1,I.ld 8 (.t 7) 1 false,I.call (some 9) z_37 [(.t 8)],I.mv 6 (.t 9),I.ext 10 (.t 6) 0,I.ext 11 (.t 6) 1,I.mv 4 (.t 10),I.mv 5 (.t 11)])
 ((.seq ((.seq (.reg [I.mv 12 (.t 5),I.un 13 .not (.t 12)])
 (.ite (.t 13)
 ((.seq (.reg [I.build 14 zR [],I.st (.t 2) (.t 14) 9 false,I.mv 3 (.k (.i .i64 8))])
 (.ret)))
 (.skip))))
 ((.seq (.reg [I.mv 15 (.t 4),I.ld 16 (.t 1) 4 true,I.inv (some 17) "nursery/spec.start" [(101,2,z_314),(102,2,z_314),(103,2,z_314),(104,2,z_314),(105,2,z_314),(106,2,z_314),(107,2,z_314),(108,2,z_314)] (.t 15) [(.t 16)],I.ext 18 (.t 17) 0,I.ext 19 (.t 17) 1,I.st (.t 2) (.t 18) 9 false,I.mv 3 (.t 19)])
 (.ret)))))))))
 [.c 2 9 true,.t 3] false none
def F_z_24:F:=.mk
 ((.seq (.reg [I.box 1 (.t 0) 4 true,I.new 2 zR,I.mv 3 k0])
 ((.seq ((.seq (.reg [I.fa 4 (.t 1) 1 1,I.ld 5 (.t 4) 1 false,I.bin 6 .eql (.t 5) (.k (.i .i64 1))])
 (.ite (.t 6)
 ((.seq (.reg [I.ld 7 (.t 1) 4 true,I.call (some 8) z_49 [(.t 7)],I.ext 9 (.t 8) 0,I.ext 10 (.t 8) 1,I.st (.t 2) (.t 9) 9 false,I.mv 3 (.t 10)])
 (.ret)))
 (.skip))))
 ((.seq ((.seq (.reg [I.fa 11 (.t 1) 1 1,I.ld 12 (.t 11) 1 false,I.bin 13 .eql (.t 12) (.k (.i .i64 2))])
 (.ite (.t 13)
 ((.seq (.reg [I.ld 14 (.t 1) 4 true,I.call (some 15) z_50 [(.t 14)],I.ext 16 (.t 15) 0,I.ext 17 (.t 15) 1,I.st (.t 2) (.t 16) 9 false,I.mv 3 (.t 17)])
 (.ret)))
 (.skip))))
 ((.seq ((.seq (.reg [I.fa 18 (.t 1) 1 1,I.ld 19 (.t 18) 1 false,I.bin 20 .eql (.t 19) (.k (.i .i64 4))])
 (.ite (.t 20)
 ((.seq (.reg [I.ld 21 (.t 1) 4 true,I.call (some 22) z_51 [(.t 21)],I.ext 23 (.t 22) 0,I.ext 24 (.t 22) 1,I.st (.t 2) (.t 23) 9 false,I.mv 3 (.t 24)])
 (.ret)))
 (.skip))))
 ((.seq ((.seq (.reg [I.fa 25 (.t 1) 1 1,I.ld 26 (.t 25) 1 false,I.bin 27 .eql (.t 26) (.k (.i .i64 5))])
 (.ite (.t 27)
 ((.seq (.reg [I.ld 28 (.t 1) 4 true,I.call (some 29) z_52 [(.t 28)],I.ext 30 (.t 29) 0,I.ext 31 (.t 29) 1,I.st (.t 2) (.t 30) 9 false,I.mv 3 (.t 31)])
 (.ret)))
 (.skip))))
 ((.seq ((.seq (.reg [I.fa 32 (.t 1) 1 1,I.ld 33 (.t 32) 1 false,I.bin 34 .eql (.t 33) (.k (.i .i64 6))])
 (.ite (.t 34)
 ((.seq (.reg [I.ld 35 (.t 1) 4 true,I.call (some 36) z_53 [(.t 35)],I.ext 37 (.t 36) 0,I.ext 38 (.t 36) 1,I.st (.t 2) (.t 37) 9 false,I.mv 3 (.t 38)])
 (.ret)))
 (.skip))))
 ((.seq ((.seq (.reg [I.fa 39 (.t 1) 1 1,I.ld 40 (.t 39) 1 false,I.bin 41 .eql (.t 40) (.k (.i .i64 7))])
 (.ite (.t 41)
 ((.seq (.reg [I.ld 42 (.t 1) 4 true,I.call (some 43) z_54 [(.t 42)],I.ext 44 (.t 43) 0,I.ext 45 (.t 43) 1,I.st (.t 2) (.t 44) 9 false,I.mv 3 (.t 45)])
 (.ret)))
 (.skip))))
 ((.seq ((.seq (.reg [I.fa 46 (.t 1) 1 1,I.ld 47 (.t 46) 1 false,I.bin 48 .eql (.t 47) (.k (.i .i64 8))])
 (.ite (.t 48)
 ((.seq (.reg [I.ld 49 (.t 1) 4 true,I.call (some 50) z_55 [(.t 49)],I.ext 51 (.t 50) 0,I.ext 52 (.t 50) 1,I.st (.t 2) (.t 51) 9 false,I.mv 3 (.t 52)])
 (.ret)))
 (.skip))))
 ((.seq ((.seq (.reg [I.fa 53 (.t 1) 1 1,I.ld 54 (.t 53) 1 false,I.bin 55 .eql (.t 54) (.k (.i .i64 9))])
 (.ite (.t 55)
 ((.seq (.reg [I.ld 56 (.t 1) 4 true,I.call (some 57) z_56 [(.t 56)],I.ext 58 (.t 57) 0,I.ext 59 (.t 57) 1,I.st (.t 2) (.t 58) 9 false,I.mv 3 (.t 59)])
 (.ret)))
 (.skip))))
 ((.seq (.reg [I.build 60 zR [],I.st (.t 2) (.t 60) 9 false,I.mv 3 (.k (.i .i64 8))])
 (.ret)))))))))))))))))))))
 [.c 2 9 true,.t 3] false none
def F_z_25:F:=.mk
 ((.seq (.reg [I.box 2 (.t 0) 4 true,I.box 3 (.t 1) 9 false,I.new 4 zR,I.mv 5 k0])
 ((.seq (.reg [I.fa 10 (.t 2) 1 1,I.ld 11 (.t 10) 1 false,I.call (some 12) z_37 [(.t 11)],I.mv 9 (.t 12),I.ext 13 (.t 9) 0,I.ext 14 (.t 9) 1,I.mv 6 (.t 13),I.mv 7 (.t 14)])
 ((.seq ((.seq (.reg [I.mv 15 (.t 7),I.un 16 .not (.t 15)])
 (.ite (.t 16)
 ((.seq (.reg [I.build 17 zR [],I.st (.t 4) (.t 17) 9 false,I.mv 5 (.k (.i .i64 8))])
 (.ret)))
 (.skip))))
 ((.seq ((.seq (.reg [I.mv 18 (.t 6),I.ld 19 (.t 2) 4 true,I.ld 20 (.t 3) 9 true,I.inv (some 21) "nursery/spec.check" [(101,2,z_313),(102,2,z_313),(103,2,z_313),(104,2,z_313),(105,2,z_313),(106,2,z_313),(107,2,z_313),(108,2,z_313)] (.t 18) [(.t 19),(.t 20)],I.mv 8 (.t 21)])
 ((.seq (.reg [I.mv 22 (.t 8),I.bin 23 .neq (.t 22) k0])
 (.ite (.t 23)
 ((.seq (.reg [I.build 24 zR [],I.mv 25 (.t 8),I.st (.t 4) (.t 24) 9 false,I.mv 5 (.t 25)])
 (.ret)))
 (.skip))))))
 ((.seq (.reg [I.fa 26 (.t 3) 4 1,I.st (.t 26) (.k (.sl 5 true [])) 1 false])
 ((.seq (.reg [I.ld 27 (.t 3) 9 true,I.st (.t 4) (.t 27) 9 false,I.mv 5 k0])
 (.ret)))))))))))))
 [.c 4 9 true,.t 5] false none
def F_z_26:F:=.mk
 ((.seq (.reg [I.box 2 (.t 0) 4 true,I.box 3 (.t 1) 9 false,I.new 4 zR,I.mv 5 k0])
 ((.seq ((.seq (.reg [I.ld 7 (.t 2) 4 true,I.ld 8 (.t 3) 9 true,I.call (some 9) z_48 [(.t 7),(.t 8)],I.mv 6 (.t 9)])
 ((.seq (.reg [I.mv 10 (.t 6),I.bin 11 .neq (.t 10) k0])
 (.ite (.t 11)
 ((.seq (.reg [I.build 12 zR [],I.mv 13 (.t 6),I.st (.t 4) (.t 12) 9 false,I.mv 5 (.t 13)])
 (.ret)))
 (.skip))))))
 ((.seq (.reg [I.buildSl 14 5 0 zQ [] false,I.fa 15 (.t 3) 4 1,I.st (.t 15) (.t 14) 1 false])
 ((.seq (.reg [I.ld 16 (.t 3) 9 true,I.st (.t 4) (.t 16) 9 false,I.mv 5 k0])
 (.ret)))))))))
 [.c 4 9 true,.t 5] false none
def F_z_27:F:=.mk
 ((.seq (.reg [I.box 2 (.t 0) 4 true,I.box 3 (.t 1) 9 true,I.mv 4 (.k (.b false))])
 ((.seq (.reg [I.fa 8 (.t 2) 1 1,I.ld 9 (.t 8) 1 false,I.call (some 10) z_37 [(.t 9)],I.mv 7 (.t 10),I.ext 11 (.t 7) 0,I.ext 12 (.t 7) 1,I.new 5 [.nilifc],I.st (.t 5) (.t 11) 1 true,I.mv 6 (.t 12)])
 ((.seq ((.seq (.reg [I.mv 13 (.t 6),I.un 14 .not (.t 13),I.mv 15 (.t 14),.sc true 21 15 [I.ld 16 (.t 5) 1 false,I.ld 17 (.t 2) 4 true,I.ld 18 (.t 3) 9 true,I.inv (some 19) "nursery/spec.check" [(101,2,z_313),(102,2,z_313),(103,2,z_313),(104,2,z_313),(105,2,z_313),(106,2,z_313),(107,2,z_313),(108,2,z_313)] (.t 16) [(.t 17),(.t 18)],I.bin 20 .neq (.t 19) k0] (.t 20)])
 (.ite (.t 21)
 ((.seq (.reg [I.mv 4 (.k (.b false))])
 (.ret)))
 (.skip))))
 ((.seq (.reg [I.fa 22 (.t 3) 4 1,I.ld 23 (.t 22) 1 false,I.mkf 24 z_58 [] [(.t 5),(.t 2),(.t 3)],I.call (some 25) z_57 [(.t 23),(.t 24)],I.un 26 .not (.t 25),I.mv 4 (.t 26)])
 (.ret)))))))))
 [.t 4] false none
def F_z_28_L0:C :=
 (.seq ((.seq (.reg [I.mv 27 (.t 7),I.fa 28 (.t 3) 4 1,I.ld 29 (.t 28) 1 false,I.len 30 (.t 29) .sl,I.bin 31 .lss (.t 27) (.t 30)])
 (.ite (.t 31)
 (.skip)
 (.seq (.keep []) (.exit 0)))))
 ((.seq (.blk 1 ((.seq (.reg [I.fa 34 (.t 3) 4 1,I.ld 35 (.t 34) 1 false,I.mv 36 (.t 7),I.ixs 37 (.t 35) (.t 36) 5,I.ld 38 (.t 37) 5 true,I.new 8 zQ,I.st (.t 8) (.t 38) 5 true])
 ((.seq (.reg [I.fa 39 (.t 2) 1 1,I.ld 40 (.t 39) 1 false,I.bin 41 .eql (.t 40) (.k (.i .i64 1)),I.mv 42 (.t 41),.sc true 46 42 [I.fa 43 (.t 2) 1 1,I.ld 44 (.t 43) 1 false,I.bin 45 .eql (.t 44) (.k (.i .i64 2))] (.t 45),I.mv 47 (.t 46),.sc true 56 47 [I.fa 48 (.t 2) 1 1,I.ld 49 (.t 48) 1 false,I.bin 50 .eql (.t 49) (.k (.i .i64 4)),I.mv 51 (.t 50),.sc false 55 51 [I.fa 52 (.t 2) 3 1,I.ld 53 (.t 52) 1 false,I.bin 54 .eql (.t 53) k0] (.t 54)] (.t 55),I.mv 57 (.t 56),.sc true 61 57 [I.fa 58 (.t 2) 1 1,I.ld 59 (.t 58) 1 false,I.bin 60 .eql (.t 59) (.k (.i .i64 8))] (.t 60),I.mv 9 (.t 61)])
 ((.seq ((.seq (.reg [I.mv 62 (.t 9),I.mv 63 (.t 62),.sc false 66 63 [I.mv 64 (.t 7),I.bin 65 .gtr (.t 64) k0] (.t 65)])
 (.ite (.t 66)
 ((.seq (.reg [I.mv 4 (.k (.b true))])
 (.seq (.keep [4]) .ret)))
 (.skip))))
 ((.seq ((.seq (.reg [I.fa 67 (.t 8) 1 1,I.ld 68 (.t 67) 1 false,I.bin 69 .eql (.t 68) (.k (.i .i64 68))])
 (.ite (.t 69)
 ((.seq ((.seq (.reg [I.ld 70 (.t 2) 4 true,I.ld 71 (.t 3) 9 true,I.call (some 72) z_59 [(.t 70),(.t 71)],I.un 73 .not (.t 72)])
 (.ite (.t 73)
 ((.seq (.reg [I.mv 4 (.k (.b false))])
 (.seq (.keep [4]) .ret)))
 (.skip))))
 (.seq (.keep [2,3,5,7]) (.exit 1))))
 (.skip))))
 ((.seq ((.seq (.reg [I.fa 74 (.t 8) 1 1,I.ld 75 (.t 74) 1 false,I.bin 76 .eql (.t 75) (.k (.i .i64 64)),I.mv 77 (.t 76),.sc false 81 77 [I.fa 78 (.t 2) 2 1,I.ld 79 (.t 78) 1 false,I.bin 80 .eql (.t 79) k0] (.t 80)])
 (.ite (.t 81)
 ((.seq ((.seq (.reg [I.fa 82 (.t 3) 4 1,I.ld 83 (.t 82) 1 false,I.fa 84 (.t 8) 0 1,I.ld 85 (.t 84) 1 false,I.call (some 86) z_60 [(.t 83),(.k (.i .i64 65)),(.t 85)]])
 (.ite (.t 86)
 ((.seq (.reg [I.mv 4 (.k (.b false))])
 (.seq (.keep [4]) .ret)))
 (.skip))))
 (.seq (.keep [2,3,5,7]) (.exit 1))))
 (.skip))))
 ((.seq (.reg [I.ld 87 (.t 2) 4 true,I.ld 88 (.t 5) 9 true,I.ld 89 (.t 8) 5 true,I.call (some 90) z_61 [(.t 87),(.t 88),(.t 89)]])
 (.ite (.t 90)
 ((.seq (.reg [I.mv 4 (.k (.b false))])
 (.seq (.keep [4]) .ret)))
 (.skip)))))))))))))))
 (.reg [I.mv 32 (.t 7),I.bin 33 .add (.t 32) (.k (.i .i64 1)),I.mv 7 (.t 33)]))))
def F_z_28:F:=.mk
 ((.seq (.reg [I.box 2 (.t 0) 4 true,I.box 3 (.t 1) 9 true,I.mv 4 (.k (.b false))])
 ((.seq (.reg [I.ld 11 (.t 2) 4 true,I.ld 12 (.t 3) 9 true,I.call (some 13) z_26 [(.t 11),(.t 12)],I.mv 10 (.t 13),I.ext 14 (.t 10) 0,I.ext 15 (.t 10) 1,I.new 5 zR,I.st (.t 5) (.t 14) 9 true,I.mv 6 (.t 15)])
 ((.seq ((.seq (.reg [I.mv 16 (.t 6),I.bin 17 .neq (.t 16) k0])
 (.ite (.t 17)
 ((.seq (.reg [I.mv 4 (.k (.b false))])
 (.ret)))
 (.skip))))
 ((.seq ((.seq (.reg [I.fa 18 (.t 2) 1 1,I.ld 19 (.t 18) 1 false,I.bin 20 .eql (.t 19) (.k (.i .i64 5))])
 (.ite (.t 20)
 ((.seq (.reg [I.fa 21 (.t 3) 4 1,I.ld 22 (.t 21) 1 false,I.len 23 (.t 22) .sl,I.fa 24 (.t 2) 2 1,I.ld 25 (.t 24) 1 false,I.bin 26 .lss (.t 23) (.t 25),I.mv 4 (.t 26)])
 (.ret)))
 (.skip))))
 ((.seq ((.seq (.reg [I.mv 7 k0])
 (.blk 0 (.loop [2,3,5,7] F_z_28_L0))))
 ((.seq (.reg [I.mv 4 (.k (.b true))])
 (.ret)))))))))))))
 [.t 4] false none
def F_z_35:F:=.mk
 ((.seq (.reg [I.new 0 [(.s []),(.i .i64 0),(.i .i64 0),(.i .i64 0)]])
 ((.seq (.reg [I.build 1 [(.s []),(.i .i64 0),(.i .i64 0),(.i .i64 0)] [(1,1,(.k (.i .i64 6)))],I.st (.t 0) (.t 1) 4 false])
 (.ret)))))
 [.c 0 4 true] false none
def F_z_36:F:=.mk
 ((.seq (.reg [I.new 2 zR,I.mv 3 k0,I.mv 4 (.k (.b false)),I.mv 5 k0])
 ((.seq (.reg [I.build 6 zR [],I.mv 7 (.t 0),I.st (.t 2) (.t 6) 9 false,I.mv 3 k0,I.mv 4 (.k (.b false)),I.mv 5 (.t 7)])
 (.ret)))))
 [.c 2 9 true,.t 3,.t 4,.t 5] false none
def F_z_37:F:=.mk
 ((.seq (.reg [I.mv 2 (.k .nilifc),I.mv 3 (.k (.b false))])
 ((.seq ((.seq (.reg [I.mv 4 (.t 0)])
 (.blk 0 ((.seq (.reg [I.bin 6 .eql (.t 4) (.k (.i .i64 1)),I.mv 5 (.t 6)])
 (.ite (.t 5)
 ((.seq (.reg [I.build 7 [.nilfn,.nilfn] [(0,1,(.k (.fn z_62 [] []))),(1,1,(.k (.fn z_63 [] [])))],I.build 8 [.nilfn,.nilfn] [(0,2,(.t 7))],I.mki 9 101 (.t 8),I.mv 2 (.t 9),I.mv 3 (.k (.b true))])
 (.ret)))
 ((.seq (.reg [I.bin 11 .eql (.t 4) (.k (.i .i64 2)),I.mv 10 (.t 11)])
 (.ite (.t 10)
 ((.seq (.reg [I.build 12 [.nilfn,.nilfn] [(0,1,(.k (.fn z_67 [] []))),(1,1,(.k (.fn z_68 [] [])))],I.build 13 [.nilfn,.nilfn] [(0,2,(.t 12))],I.mki 14 102 (.t 13),I.mv 2 (.t 14),I.mv 3 (.k (.b true))])
 (.ret)))
 ((.seq (.reg [I.bin 16 .eql (.t 4) (.k (.i .i64 4)),I.mv 15 (.t 16)])
 (.ite (.t 15)
 ((.seq (.reg [I.build 17 [.nilfn,.nilfn] [(0,1,(.k (.fn z_72 [] []))),(1,1,(.k (.fn z_73 [] [])))],I.build 18 [.nilfn,.nilfn] [(0,2,(.t 17))],I.mki 19 103 (.t 18),I.mv 2 (.t 19),I.mv 3 (.k (.b true))])
 (.ret)))
 ((.seq (.reg [I.bin 21 .eql (.t 4) (.k (.i .i64 5)),I.mv 20 (.t 21)])
 (.ite (.t 20)
 ((.seq (.reg [I.build 22 [.nilfn,.nilfn] [(0,1,(.k (.fn z_77 [] []))),(1,1,(.k (.fn z_78 [] [])))],I.build 23 [.nilfn,.nilfn] [(0,2,(.t 22))],I.mki 24 104 (.t 23),I.mv 2 (.t 24),I.mv 3 (.k (.b true))])
 (.ret)))
 ((.seq (.reg [I.bin 26 .eql (.t 4) (.k (.i .i64 6)),I.mv 25 (.t 26)])
 (.ite (.t 25)
 ((.seq (.reg [I.build 27 [.nilfn,.nilfn] [(0,1,(.k (.fn z_82 [] []))),(1,1,(.k (.fn z_83 [] [])))],I.build 28 [.nilfn,.nilfn] [(0,2,(.t 27))],I.mki 29 105 (.t 28),I.mv 2 (.t 29),I.mv 3 (.k (.b true))])
 (.ret)))
 ((.seq (.reg [I.bin 31 .eql (.t 4) (.k (.i .i64 7)),I.mv 30 (.t 31)])
 (.ite (.t 30)
 ((.seq (.reg [I.build 32 [.nilfn,.nilfn] [(0,1,(.k (.fn z_87 [] []))),(1,1,(.k (.fn z_88 [] [])))],I.build 33 [.nilfn,.nilfn] [(0,2,(.t 32))],I.mki 34 106 (.t 33),I.mv 2 (.t 34),I.mv 3 (.k (.b true))])
 (.ret)))
 ((.seq (.reg [I.bin 36 .eql (.t 4) (.k (.i .i64 8)),I.mv 35 (.t 36)])
 (.ite (.t 35)
 ((.seq (.reg [I.build 37 [.nilfn,.nilfn] [(0,1,(.k (.fn z_92 [] []))),(1,1,(.k (.fn z_93 [] [])))],I.build 38 [.nilfn,.nilfn] [(0,2,(.t 37))],I.mki 39 107 (.t 38),I.mv 2 (.t 39),I.mv 3 (.k (.b true))])
 (.ret)))
 ((.seq (.reg [I.bin 41 .eql (.t 4) (.k (.i .i64 9)),I.mv 40 (.t 41)])
 (.ite (.t 40)
 ((.seq (.reg [I.build 42 [.nilfn,.nilfn] [(0,1,(.k (.fn z_97 [] []))),(1,1,(.k (.fn z_98 [] [])))],I.build 43 [.nilfn,.nilfn] [(0,2,(.t 42))],I.mki 44 108 (.t 43),I.mv 2 (.t 44),I.mv 3 (.k (.b true))])
 (.ret)))
 (.skip))))))))))))))))))))))))))))
 ((.seq (.reg [I.mv 2 (.k .nilifc),I.mv 3 (.k (.b false))])
 (.ret)))))))
 [.t 2,.t 3] false none
def F_z_38:F:=.mk
 ((.seq (.reg [I.mv 2 (.k .nilmap)])
 ((.seq (.reg [.op (.mkm 3),.op (.mkm 4),.op (.mput (.t 4) (.k (.i .i64 50)) k0 [.i]),.op (.mput (.t 4) (.k (.i .i64 51)) k0 [.i]),.op (.mput (.t 4) (.k (.i .i64 52)) k0 [.i]),.op (.mv 5 (.t 4)),.op (.mput (.t 3) (.k (.i .i64 1)) (.t 5) [.i]),.op (.mkm 6),.op (.mput (.t 6) (.k (.i .i64 53)) k0 [.i]),.op (.mput (.t 6) (.k (.i .i64 54)) k0 [.i]),.op (.mput (.t 6) (.k (.i .i64 55)) k0 [.i]),.op (.mput (.t 6) (.k (.i .i64 56)) k0 [.i]),.op (.mv 7 (.t 6)),.op (.mput (.t 3) (.k (.i .i64 2)) (.t 7) [.i]),.op (.mkm 8),.op (.mput (.t 8) (.k (.i .i64 60)) (.k (.i .i64 1)) [.i]),.op (.mput (.t 8) (.k (.i .i64 61)) (.k (.i .i64 1)) [.i]),.op (.mput (.t 8) (.k (.i .i64 62)) (.k (.i .i64 1)) [.i]),.op (.mv 9 (.t 8)),.op (.mput (.t 3) (.k (.i .i64 4)) (.t 9) [.i]),.op (.mkm 10),.op (.mput (.t 10) (.k (.i .i64 63)) k0 [.i]),.op (.mv 11 (.t 10)),.op (.mput (.t 3) (.k (.i .i64 5)) (.t 11) [.i]),.op (.mkm 12),.op (.mput (.t 12) (.k (.i .i64 64)) (.k (.i .i64 2)) [.i]),.op (.mput (.t 12) (.k (.i .i64 65)) k0 [.i]),.op (.mput (.t 12) (.k (.i .i64 66)) k0 [.i]),.op (.mv 13 (.t 12)),.op (.mput (.t 3) (.k (.i .i64 6)) (.t 13) [.i]),.op (.mkm 14),.op (.mput (.t 14) (.k (.i .i64 68)) (.k (.i .i64 2)) [.i]),.op (.mput (.t 14) (.k (.i .i64 69)) k0 [.i]),.op (.mput (.t 14) (.k (.i .i64 70)) k0 [.i]),.op (.mput (.t 14) (.k (.i .i64 71)) k0 [.i]),.op (.mv 15 (.t 14)),.op (.mput (.t 3) (.k (.i .i64 7)) (.t 15) [.i]),.op (.mkm 16),.op (.mput (.t 16) (.k (.i .i64 72)) (.k (.i .i64 1)) [.i]),.op (.mput (.t 16) (.k (.i .i64 75)) k0 [.i]),.op (.mv 17 (.t 16)),.op (.mput (.t 3) (.k (.i .i64 8)) (.t 17) [.i]),.op (.mkm 18),.op (.mput (.t 18) (.k (.i .i64 73)) (.k (.i .i64 2)) [.i]),.op (.mput (.t 18) (.k (.i .i64 74)) k0 [.i]),.op (.mv 19 (.t 18)),.op (.mput (.t 3) (.k (.i .i64 9)) (.t 19) [.i]),.op (.mv 20 (.t 3)),.op (.mv 21 (.t 0)),.op (.mget 22 (.t 20) (.t 21) .nilmap false [.i]),.op (.mv 2 (.t 22))])
 (.ret)))))
 [.t 2] true none
def F_z_39:F:=.mk
 ((.seq (.reg [I.mv 4 (.k (.b false))])
 ((.seq ((.seq (.reg [I.mv 5 (.t 0),I.bin 6 .eql (.t 5) (.k (.i .i64 1))])
 (.ite (.t 6)
 ((.seq (.reg [I.mv 7 (.t 1),I.bin 8 .geq (.t 7) (.k (.i .i64 50)),I.mv 9 (.t 8),.sc false 12 9 [I.mv 10 (.t 1),I.bin 11 .leq (.t 10) (.k (.i .i64 52))] (.t 11),I.mv 4 (.t 12)])
 (.ret)))
 (.skip))))
 ((.seq ((.seq (.reg [I.mv 13 (.t 0),I.bin 14 .eql (.t 13) (.k (.i .i64 2))])
 (.ite (.t 14)
 ((.seq (.reg [I.mv 15 (.t 1),I.bin 16 .geq (.t 15) (.k (.i .i64 53)),I.mv 17 (.t 16),.sc false 20 17 [I.mv 18 (.t 1),I.bin 19 .leq (.t 18) (.k (.i .i64 56))] (.t 19),I.mv 4 (.t 20)])
 (.ret)))
 (.skip))))
 ((.seq ((.seq (.reg [I.mv 21 (.t 0),I.bin 22 .eql (.t 21) (.k (.i .i64 4))])
 (.ite (.t 22)
 ((.seq (.reg [I.mv 23 (.t 1),I.bin 24 .geq (.t 23) (.k (.i .i64 60)),I.mv 25 (.t 24),.sc false 28 25 [I.mv 26 (.t 1),I.bin 27 .leq (.t 26) (.k (.i .i64 62))] (.t 27),I.mv 4 (.t 28)])
 (.ret)))
 (.skip))))
 ((.seq ((.seq (.reg [I.mv 29 (.t 0),I.bin 30 .eql (.t 29) (.k (.i .i64 5))])
 (.ite (.t 30)
 ((.seq (.reg [I.mv 31 (.t 1),I.bin 32 .eql (.t 31) (.k (.i .i64 63)),I.mv 4 (.t 32)])
 (.ret)))
 (.skip))))
 ((.seq ((.seq (.reg [I.mv 33 (.t 0),I.bin 34 .eql (.t 33) (.k (.i .i64 6))])
 (.ite (.t 34)
 ((.seq (.reg [I.mv 35 (.t 1),I.bin 36 .geq (.t 35) (.k (.i .i64 64)),I.mv 37 (.t 36),.sc false 40 37 [I.mv 38 (.t 1),I.bin 39 .leq (.t 38) (.k (.i .i64 66))] (.t 39),I.mv 4 (.t 40)])
 (.ret)))
 (.skip))))
 ((.seq ((.seq (.reg [I.mv 41 (.t 0),I.bin 42 .eql (.t 41) (.k (.i .i64 7))])
 (.ite (.t 42)
 ((.seq (.reg [I.mv 43 (.t 1),I.bin 44 .geq (.t 43) (.k (.i .i64 68)),I.mv 45 (.t 44),.sc false 48 45 [I.mv 46 (.t 1),I.bin 47 .leq (.t 46) (.k (.i .i64 71))] (.t 47),I.mv 4 (.t 48)])
 (.ret)))
 (.skip))))
 ((.seq ((.seq (.reg [I.mv 49 (.t 0),I.bin 50 .eql (.t 49) (.k (.i .i64 8))])
 (.ite (.t 50)
 ((.seq (.reg [I.mv 51 (.t 1),I.bin 52 .eql (.t 51) (.k (.i .i64 72)),I.mv 53 (.t 52),.sc true 56 53 [I.mv 54 (.t 1),I.bin 55 .eql (.t 54) (.k (.i .i64 75))] (.t 55),I.mv 4 (.t 56)])
 (.ret)))
 (.skip))))
 ((.seq (.reg [I.mv 57 (.t 1),I.bin 58 .eql (.t 57) (.k (.i .i64 73)),I.mv 59 (.t 58),.sc true 62 59 [I.mv 60 (.t 1),I.bin 61 .eql (.t 60) (.k (.i .i64 74))] (.t 61),I.mv 4 (.t 62)])
 (.ret)))))))))))))))))))
 [.t 4] false none
def F_z_40:F:=.mk
 ((.seq (.reg [I.box 2 (.t 0) 4 true,I.box 3 (.t 1) 5 true,I.mv 4 (.k (.b false))])
 ((.seq ((.seq (.reg [I.fa 5 (.t 2) 1 1,I.ld 6 (.t 5) 1 false,I.bin 7 .eql (.t 6) (.k (.i .i64 4)),I.mv 8 (.t 7),.sc true 12 8 [I.fa 9 (.t 3) 1 1,I.ld 10 (.t 9) 1 false,I.bin 11 .eql (.t 10) (.k (.i .i64 72))] (.t 11)])
 (.ite (.t 12)
 ((.seq (.reg [I.fa 13 (.t 3) 2 1,I.ld 14 (.t 13) 1 false,I.bin 15 .geq (.t 14) (.k (.i .i64 1)),I.mv 16 (.t 15),.sc false 22 16 [I.fa 17 (.t 3) 2 1,I.ld 18 (.t 17) 1 false,I.fa 19 (.t 2) 2 1,I.ld 20 (.t 19) 1 false,I.bin 21 .leq (.t 18) (.t 20)] (.t 21),I.mv 4 (.t 22)])
 (.ret)))
 (.skip))))
 ((.seq ((.seq (.reg [I.fa 23 (.t 3) 1 1,I.ld 24 (.t 23) 1 false,I.bin 25 .eql (.t 24) (.k (.i .i64 64)),I.mv 26 (.t 25),.sc true 30 26 [I.fa 27 (.t 3) 1 1,I.ld 28 (.t 27) 1 false,I.bin 29 .eql (.t 28) (.k (.i .i64 68))] (.t 29),I.mv 31 (.t 30),.sc true 35 31 [I.fa 32 (.t 3) 1 1,I.ld 33 (.t 32) 1 false,I.bin 34 .eql (.t 33) (.k (.i .i64 73))] (.t 34)])
 (.ite (.t 35)
 ((.seq (.reg [I.fa 36 (.t 3) 2 1,I.ld 37 (.t 36) 1 false,I.bin 38 .geq (.t 37) (.k (.i .i64 (-1099511627776))),I.mv 39 (.t 38),.sc false 43 39 [I.fa 40 (.t 3) 2 1,I.ld 41 (.t 40) 1 false,I.bin 42 .leq (.t 41) (.k (.i .i64 1099511627776))] (.t 42),I.mv 4 (.t 43)])
 (.ret)))
 (.skip))))
 ((.seq (.reg [I.mv 4 (.k (.b true))])
 (.ret)))))))))
 [.t 4] false none
def F_z_41:F:=.mk
 ((.seq (.reg [I.box 3 (.t 0) 4 true,I.box 4 (.t 1) 9 true,I.box 5 (.t 2) 5 true,I.new 6 zR,I.mv 7 k0,I.mv 8 (.k (.b false)),I.mv 9 k0])
 ((.seq ((.seq (.reg [I.fa 10 (.t 3) 1 1,I.ld 11 (.t 10) 1 false,I.bin 12 .eql (.t 11) (.k (.i .i64 1))])
 (.ite (.t 12)
 ((.seq (.reg [I.ld 13 (.t 4) 9 true,I.ld 14 (.t 5) 5 true,I.call (some 15) z_105 [(.t 13),(.t 14)],I.ext 16 (.t 15) 0,I.ext 17 (.t 15) 1,I.ext 18 (.t 15) 2,I.ext 19 (.t 15) 3,I.st (.t 6) (.t 16) 9 false,I.mv 7 (.t 17),I.mv 8 (.t 18),I.mv 9 (.t 19)])
 (.ret)))
 (.skip))))
 ((.seq ((.seq (.reg [I.fa 20 (.t 3) 1 1,I.ld 21 (.t 20) 1 false,I.bin 22 .eql (.t 21) (.k (.i .i64 2))])
 (.ite (.t 22)
 ((.seq (.reg [I.ld 23 (.t 4) 9 true,I.ld 24 (.t 5) 5 true,I.call (some 25) z_106 [(.t 23),(.t 24)],I.ext 26 (.t 25) 0,I.ext 27 (.t 25) 1,I.ext 28 (.t 25) 2,I.ext 29 (.t 25) 3,I.st (.t 6) (.t 26) 9 false,I.mv 7 (.t 27),I.mv 8 (.t 28),I.mv 9 (.t 29)])
 (.ret)))
 (.skip))))
 ((.seq ((.seq (.reg [I.fa 30 (.t 3) 1 1,I.ld 31 (.t 30) 1 false,I.bin 32 .eql (.t 31) (.k (.i .i64 4))])
 (.ite (.t 32)
 ((.seq (.reg [I.ld 33 (.t 3) 4 true,I.ld 34 (.t 4) 9 true,I.ld 35 (.t 5) 5 true,I.call (some 36) z_107 [(.t 33),(.t 34),(.t 35)],I.ext 37 (.t 36) 0,I.ext 38 (.t 36) 1,I.ext 39 (.t 36) 2,I.ext 40 (.t 36) 3,I.st (.t 6) (.t 37) 9 false,I.mv 7 (.t 38),I.mv 8 (.t 39),I.mv 9 (.t 40)])
 (.ret)))
 (.skip))))
 ((.seq ((.seq (.reg [I.fa 41 (.t 3) 1 1,I.ld 42 (.t 41) 1 false,I.bin 43 .eql (.t 42) (.k (.i .i64 5))])
 (.ite (.t 43)
 ((.seq (.reg [I.ld 44 (.t 3) 4 true,I.ld 45 (.t 4) 9 true,I.call (some 46) z_108 [(.t 44),(.t 45)],I.ext 47 (.t 46) 0,I.ext 48 (.t 46) 1,I.ext 49 (.t 46) 2,I.ext 50 (.t 46) 3,I.st (.t 6) (.t 47) 9 false,I.mv 7 (.t 48),I.mv 8 (.t 49),I.mv 9 (.t 50)])
 (.ret)))
 (.skip))))
 ((.seq ((.seq (.reg [I.fa 51 (.t 3) 1 1,I.ld 52 (.t 51) 1 false,I.bin 53 .eql (.t 52) (.k (.i .i64 6))])
 (.ite (.t 53)
 ((.seq (.reg [I.ld 54 (.t 3) 4 true,I.ld 55 (.t 4) 9 true,I.ld 56 (.t 5) 5 true,I.call (some 57) z_109 [(.t 54),(.t 55),(.t 56)],I.ext 58 (.t 57) 0,I.ext 59 (.t 57) 1,I.ext 60 (.t 57) 2,I.ext 61 (.t 57) 3,I.st (.t 6) (.t 58) 9 false,I.mv 7 (.t 59),I.mv 8 (.t 60),I.mv 9 (.t 61)])
 (.ret)))
 (.skip))))
 ((.seq ((.seq (.reg [I.fa 62 (.t 3) 1 1,I.ld 63 (.t 62) 1 false,I.bin 64 .eql (.t 63) (.k (.i .i64 7))])
 (.ite (.t 64)
 ((.seq (.reg [I.ld 65 (.t 3) 4 true,I.ld 66 (.t 4) 9 true,I.ld 67 (.t 5) 5 true,I.call (some 68) z_110 [(.t 65),(.t 66),(.t 67)],I.ext 69 (.t 68) 0,I.ext 70 (.t 68) 1,I.ext 71 (.t 68) 2,I.ext 72 (.t 68) 3,I.st (.t 6) (.t 69) 9 false,I.mv 7 (.t 70),I.mv 8 (.t 71),I.mv 9 (.t 72)])
 (.ret)))
 (.skip))))
 ((.seq ((.seq (.reg [I.fa 73 (.t 3) 1 1,I.ld 74 (.t 73) 1 false,I.bin 75 .eql (.t 74) (.k (.i .i64 8))])
 (.ite (.t 75)
 ((.seq (.reg [I.ld 76 (.t 3) 4 true,I.ld 77 (.t 4) 9 true,I.ld 78 (.t 5) 5 true,I.call (some 79) z_111 [(.t 76),(.t 77),(.t 78)],I.ext 80 (.t 79) 0,I.ext 81 (.t 79) 1,I.ext 82 (.t 79) 2,I.ext 83 (.t 79) 3,I.st (.t 6) (.t 80) 9 false,I.mv 7 (.t 81),I.mv 8 (.t 82),I.mv 9 (.t 83)])
 (.ret)))
 (.skip))))
 ((.seq (.reg [I.ld 84 (.t 4) 9 true,I.ld 85 (.t 5) 5 true,I.call (some 86) z_112 [(.t 84),(.t 85)],I.ext 87 (.t 86) 0,I.ext 88 (.t 86) 1,I.ext 89 (.t 86) 2,I.ext 90 (.t 86) 3,I.st (.t 6) (.t 87) 9 false,I.mv 7 (.t 88),I.mv 8 (.t 89),I.mv 9 (.t 90)])
 (.ret)))))))))))))))))))
 [.c 6 9 true,.t 7,.t 8,.t 9] false none
def F_z_42_L0:C :=
 (.seq ((.seq (.reg [I.mv 11 (.t 5),I.mv 12 (.t 0),I.len 13 (.t 12) .sl,I.bin 14 .lss (.t 11) (.t 13)])
 (.ite (.t 14)
 (.skip)
 (.seq (.keep []) (.exit 0)))))
 ((.seq (.blk 1 ((.seq (.drw [] [0,1,2,3,4,5,6,7,8] [I.mv 17 (.t 0),I.mv 18 (.t 5),I.ixs 19 (.t 17) (.t 18) 1,I.ld 20 (.t 19) 1 false,I.mv 21 (.t 1),I.mv 22 (.t 5),I.ixs 23 (.t 21) (.t 22) 1,I.ld 24 (.t 23) 1 false,I.bin 25 .neq (.t 20) (.t 24)])
 (.ite (.t 25)
 ((.seq (.reg [I.mv 4 (.k (.b false))])
 (.seq (.keep [4]) .ret)))
 (.skip)))))
 (.reg [I.mv 15 (.t 5),I.bin 16 .add (.t 15) (.k (.i .i64 1)),I.mv 5 (.t 16)]))))
def F_z_42:F:=.mk
 ((.seq (.reg [I.mv 4 (.k (.b false))])
 ((.seq ((.seq (.reg [I.mv 6 (.t 0),I.len 7 (.t 6) .sl,I.mv 8 (.t 1),I.len 9 (.t 8) .sl,I.bin 10 .neq (.t 7) (.t 9)])
 (.ite (.t 10)
 ((.seq (.reg [I.mv 4 (.k (.b false))])
 (.ret)))
 (.skip))))
 ((.seq ((.seq (.reg [I.mv 5 k0])
 (.blk 0 (.loop [0,1,5] F_z_42_L0))))
 ((.seq (.reg [I.mv 4 (.k (.b true))])
 (.ret)))))))))
 [.t 4] false none
def F_z_43_L0:C :=
 (.seq ((.seq (.reg [I.mv 11 (.t 5),I.mv 12 (.t 0),I.len 13 (.t 12) .sl,I.bin 14 .lss (.t 11) (.t 13)])
 (.ite (.t 14)
 (.skip)
 (.seq (.keep []) (.exit 0)))))
 ((.seq (.blk 1 ((.seq (.drw [] [0,1,2,3,4,5,6,7,8] [I.mv 17 (.t 0),I.mv 18 (.t 5),I.ixs 19 (.t 17) (.t 18) 5,I.ld 20 (.t 19) 5 true,I.mv 21 (.t 1),I.mv 22 (.t 5),I.ixs 23 (.t 21) (.t 22) 5,I.ld 24 (.t 23) 5 true,I.eqv 25 true (.t 20) (.t 24) [.i,.i,.i,.i,.i]])
 (.ite (.t 25)
 ((.seq (.reg [I.mv 4 (.k (.b false))])
 (.seq (.keep [4]) .ret)))
 (.skip)))))
 (.reg [I.mv 15 (.t 5),I.bin 16 .add (.t 15) (.k (.i .i64 1)),I.mv 5 (.t 16)]))))
def F_z_43:F:=.mk
 ((.seq (.reg [I.mv 4 (.k (.b false))])
 ((.seq ((.seq (.reg [I.mv 6 (.t 0),I.len 7 (.t 6) .sl,I.mv 8 (.t 1),I.len 9 (.t 8) .sl,I.bin 10 .neq (.t 7) (.t 9)])
 (.ite (.t 10)
 ((.seq (.reg [I.mv 4 (.k (.b false))])
 (.ret)))
 (.skip))))
 ((.seq ((.seq (.reg [I.mv 5 k0])
 (.blk 0 (.loop [0,1,5] F_z_43_L0))))
 ((.seq (.reg [I.mv 4 (.k (.b true))])
 (.ret)))))))))
 [.t 4] false none
def F_z_44_L0:C :=
 (.seq ((.seq (.reg [I.mv 11 (.t 5),I.mv 12 (.t 0),I.len 13 (.t 12) .sl,I.bin 14 .lss (.t 11) (.t 13)])
 (.ite (.t 14)
 (.skip)
 (.seq (.keep []) (.exit 0)))))
 ((.seq (.blk 1 ((.seq (.drw [] [0,1,2,3,4,5,6,7,8,9,10,11,12,13,14,15,16,17,18,19,20,21,22,23,24] [I.mv 17 (.t 0),I.mv 18 (.t 5),I.ixs 19 (.t 17) (.t 18) 2,I.fa 20 (.t 19) 0 1,I.ld 21 (.t 20) 1 false,I.mv 22 (.t 1),I.mv 23 (.t 5),I.ixs 24 (.t 22) (.t 23) 2,I.fa 25 (.t 24) 0 1,I.ld 26 (.t 25) 1 false,I.bin 27 .neq (.t 21) (.t 26),I.mv 28 (.t 27),.sc true 41 28 [I.mv 29 (.t 0),I.mv 30 (.t 5),I.ixs 31 (.t 29) (.t 30) 2,I.fa 32 (.t 31) 1 1,I.ld 33 (.t 32) 1 false,I.mv 34 (.t 1),I.mv 35 (.t 5),I.ixs 36 (.t 34) (.t 35) 2,I.fa 37 (.t 36) 1 1,I.ld 38 (.t 37) 1 false,I.call (some 39) z_42 [(.t 33),(.t 38)],I.un 40 .not (.t 39)] (.t 40)])
 (.ite (.t 41)
 ((.seq (.reg [I.mv 4 (.k (.b false))])
 (.seq (.keep [4]) .ret)))
 (.skip)))))
 (.reg [I.mv 15 (.t 5),I.bin 16 .add (.t 15) (.k (.i .i64 1)),I.mv 5 (.t 16)]))))
def F_z_44:F:=.mk
 ((.seq (.reg [I.mv 4 (.k (.b false))])
 ((.seq ((.seq (.reg [I.mv 6 (.t 0),I.len 7 (.t 6) .sl,I.mv 8 (.t 1),I.len 9 (.t 8) .sl,I.bin 10 .neq (.t 7) (.t 9)])
 (.ite (.t 10)
 ((.seq (.reg [I.mv 4 (.k (.b false))])
 (.ret)))
 (.skip))))
 ((.seq ((.seq (.reg [I.mv 5 k0])
 (.blk 0 (.loop [0,1,5] F_z_44_L0))))
 ((.seq (.reg [I.mv 4 (.k (.b true))])
 (.ret)))))))))
 [.t 4] false none
def F_z_45:F:=.mk
 ((.seq (.reg [I.new 4 [(.i .i64 0),(.i .i64 0)]])
 ((.seq ((.seq (.reg [I.mv 5 (.t 1)])
 (.ite (.t 5)
 ((.seq (.reg [I.mv 6 (.t 0),I.build 7 [(.i .i64 0),(.i .i64 0)] [(0,1,(.t 6)),(1,1,(.k (.i .i64 1)))],I.st (.t 4) (.t 7) 2 false])
 (.ret)))
 (.skip))))
 ((.seq (.reg [I.mv 8 (.t 0),I.build 9 [(.i .i64 0),(.i .i64 0)] [(0,1,(.t 8)),(1,1,k0)],I.st (.t 4) (.t 9) 2 false])
 (.ret)))))))
 [.c 4 2 true] false none
def F_z_47:F:=.mk
 ((.seq (.reg [I.box 1 (.t 0) 4 true,I.mv 2 k0])
 ((.seq (.reg [I.fa 3 (.t 1) 2 1,I.ld 4 (.t 3) 1 false,I.mx 5 (.k (.i .i64 1)) (.t 4),I.mv 2 (.t 5)])
 (.ret)))))
 [.t 2] false none
def F_z_48:F:=.mk
 ((.seq (.reg [I.box 2 (.t 0) 4 true,I.box 3 (.t 1) 9 true,I.mv 4 k0])
 ((.seq ((.seq (.reg [I.fa 5 (.t 2) 1 1,I.ld 6 (.t 5) 1 false,I.bin 7 .eql (.t 6) (.k (.i .i64 1))])
 (.ite (.t 7)
 ((.seq (.reg [I.ld 8 (.t 2) 4 true,I.ld 9 (.t 3) 9 true,I.call (some 10) z_113 [(.t 8),(.t 9)],I.mv 4 (.t 10)])
 (.ret)))
 (.skip))))
 ((.seq ((.seq (.reg [I.fa 11 (.t 2) 1 1,I.ld 12 (.t 11) 1 false,I.bin 13 .eql (.t 12) (.k (.i .i64 2))])
 (.ite (.t 13)
 ((.seq (.reg [I.ld 14 (.t 2) 4 true,I.ld 15 (.t 3) 9 true,I.call (some 16) z_114 [(.t 14),(.t 15)],I.mv 4 (.t 16)])
 (.ret)))
 (.skip))))
 ((.seq ((.seq (.reg [I.fa 17 (.t 2) 1 1,I.ld 18 (.t 17) 1 false,I.bin 19 .eql (.t 18) (.k (.i .i64 4))])
 (.ite (.t 19)
 ((.seq (.reg [I.ld 20 (.t 2) 4 true,I.ld 21 (.t 3) 9 true,I.call (some 22) z_115 [(.t 20),(.t 21)],I.mv 4 (.t 22)])
 (.ret)))
 (.skip))))
 ((.seq ((.seq (.reg [I.fa 23 (.t 2) 1 1,I.ld 24 (.t 23) 1 false,I.bin 25 .eql (.t 24) (.k (.i .i64 5))])
 (.ite (.t 25)
 ((.seq (.reg [I.ld 26 (.t 2) 4 true,I.ld 27 (.t 3) 9 true,I.call (some 28) z_116 [(.t 26),(.t 27)],I.mv 4 (.t 28)])
 (.ret)))
 (.skip))))
 ((.seq ((.seq (.reg [I.fa 29 (.t 2) 1 1,I.ld 30 (.t 29) 1 false,I.bin 31 .eql (.t 30) (.k (.i .i64 6))])
 (.ite (.t 31)
 ((.seq (.reg [I.ld 32 (.t 2) 4 true,I.ld 33 (.t 3) 9 true,I.call (some 34) z_117 [(.t 32),(.t 33)],I.mv 4 (.t 34)])
 (.ret)))
 (.skip))))
 ((.seq ((.seq (.reg [I.fa 35 (.t 2) 1 1,I.ld 36 (.t 35) 1 false,I.bin 37 .eql (.t 36) (.k (.i .i64 7))])
 (.ite (.t 37)
 ((.seq (.reg [I.ld 38 (.t 2) 4 true,I.ld 39 (.t 3) 9 true,I.call (some 40) z_118 [(.t 38),(.t 39)],I.mv 4 (.t 40)])
 (.ret)))
 (.skip))))
 ((.seq ((.seq (.reg [I.fa 41 (.t 2) 1 1,I.ld 42 (.t 41) 1 false,I.bin 43 .eql (.t 42) (.k (.i .i64 8))])
 (.ite (.t 43)
 ((.seq (.reg [I.ld 44 (.t 2) 4 true,I.ld 45 (.t 3) 9 true,I.call (some 46) z_119 [(.t 44),(.t 45)],I.mv 4 (.t 46)])
 (.ret)))
 (.skip))))
 ((.seq ((.seq (.reg [I.fa 47 (.t 2) 1 1,I.ld 48 (.t 47) 1 false,I.bin 49 .eql (.t 48) (.k (.i .i64 9))])
 (.ite (.t 49)
 ((.seq (.reg [I.ld 50 (.t 2) 4 true,I.ld 51 (.t 3) 9 true,I.call (some 52) z_120 [(.t 50),(.t 51)],I.mv 4 (.t 52)])
 (.ret)))
 (.skip))))
 ((.seq (.reg [I.mv 4 (.k (.i .i64 8))])
 (.ret)))))))))))))))))))))
 [.t 4] false none
def F_z_49:F:=.mk
 ((.seq (.reg [I.box 1 (.t 0) 4 true,I.new 2 zR,I.mv 3 k0])
 ((.seq ((.seq (.reg [I.fa 4 (.t 1) 1 1,I.ld 5 (.t 4) 1 false,I.bin 6 .neq (.t 5) (.k (.i .i64 1))])
 (.ite (.t 6)
 ((.seq (.reg [I.build 7 zR [],I.st (.t 2) (.t 7) 9 false,I.mv 3 (.k (.i .i64 8))])
 (.ret)))
 (.skip))))
 ((.seq ((.seq (.reg [I.fa 8 (.t 1) 2 1,I.ld 9 (.t 8) 1 false,I.bin 10 .neq (.t 9) k0,I.mv 11 (.t 10),.sc true 15 11 [I.fa 12 (.t 1) 3 1,I.ld 13 (.t 12) 1 false,I.bin 14 .neq (.t 13) k0] (.t 14)])
 (.ite (.t 15)
 ((.seq (.reg [I.build 16 zR [],I.st (.t 2) (.t 16) 9 false,I.mv 3 (.k (.i .i64 2))])
 (.ret)))
 (.skip))))
 ((.seq (.reg [I.build 17 zR [(0,1,(.k (.i .i64 (-1))))],I.st (.t 2) (.t 17) 9 false,I.mv 3 k0])
 (.ret)))))))))
 [.c 2 9 true,.t 3] false none
def F_z_50:F:=.mk
 ((.seq (.reg [I.box 1 (.t 0) 4 true,I.new 2 zR,I.mv 3 k0])
 ((.seq ((.seq (.reg [I.fa 4 (.t 1) 1 1,I.ld 5 (.t 4) 1 false,I.bin 6 .neq (.t 5) (.k (.i .i64 2))])
 (.ite (.t 6)
 ((.seq (.reg [I.build 7 zR [],I.st (.t 2) (.t 7) 9 false,I.mv 3 (.k (.i .i64 8))])
 (.ret)))
 (.skip))))
 ((.seq ((.seq (.reg [I.fa 8 (.t 1) 2 1,I.ld 9 (.t 8) 1 false,I.bin 10 .neq (.t 9) k0,I.mv 11 (.t 10),.sc true 15 11 [I.fa 12 (.t 1) 3 1,I.ld 13 (.t 12) 1 false,I.bin 14 .neq (.t 13) k0] (.t 14)])
 (.ite (.t 15)
 ((.seq (.reg [I.build 16 zR [],I.st (.t 2) (.t 16) 9 false,I.mv 3 (.k (.i .i64 2))])
 (.ret)))
 (.skip))))
 ((.seq (.reg [I.build 17 zR [(0,1,(.k (.i .i64 (-1))))],I.st (.t 2) (.t 17) 9 false,I.mv 3 k0])
 (.ret)))))))))
 [.c 2 9 true,.t 3] false none
def F_z_51:F:=.mk
 ((.seq (.reg [I.box 1 (.t 0) 4 true,I.new 2 zR,I.mv 3 k0])
 ((.seq ((.seq (.reg [I.fa 4 (.t 1) 1 1,I.ld 5 (.t 4) 1 false,I.bin 6 .neq (.t 5) (.k (.i .i64 4))])
 (.ite (.t 6)
 ((.seq (.reg [I.build 7 zR [],I.st (.t 2) (.t 7) 9 false,I.mv 3 (.k (.i .i64 8))])
 (.ret)))
 (.skip))))
 ((.seq ((.seq (.reg [I.fa 8 (.t 1) 2 1,I.ld 9 (.t 8) 1 false,I.call (some 10) z_121 [(.t 9),(.k (.i .i64 1)),(.k (.i .i64 100))],I.un 11 .not (.t 10),I.mv 12 (.t 11),.sc true 17 12 [I.fa 13 (.t 1) 3 1,I.ld 14 (.t 13) 1 false,I.call (some 15) z_121 [(.t 14),k0,(.k (.i .i64 1))],I.un 16 .not (.t 15)] (.t 16)])
 (.ite (.t 17)
 ((.seq (.reg [I.build 18 zR [],I.st (.t 2) (.t 18) 9 false,I.mv 3 (.k (.i .i64 2))])
 (.ret)))
 (.skip))))
 ((.seq (.reg [I.fa 19 (.t 1) 2 1,I.ld 20 (.t 19) 1 false,I.build 21 zR [(0,1,(.k (.i .i64 (-1)))),(1,1,(.t 20))],I.st (.t 2) (.t 21) 9 false,I.mv 3 k0])
 (.ret)))))))))
 [.c 2 9 true,.t 3] false none
def F_z_52:F:=.mk
 ((.seq (.reg [I.box 1 (.t 0) 4 true,I.new 2 zR,I.mv 3 k0])
 ((.seq ((.seq (.reg [I.fa 4 (.t 1) 1 1,I.ld 5 (.t 4) 1 false,I.bin 6 .neq (.t 5) (.k (.i .i64 5))])
 (.ite (.t 6)
 ((.seq (.reg [I.build 7 zR [],I.st (.t 2) (.t 7) 9 false,I.mv 3 (.k (.i .i64 8))])
 (.ret)))
 (.skip))))
 ((.seq ((.seq (.reg [I.fa 8 (.t 1) 2 1,I.ld 9 (.t 8) 1 false,I.bin 10 .lss (.t 9) (.k (.i .i64 1)),I.mv 11 (.t 10),.sc true 15 11 [I.fa 12 (.t 1) 2 1,I.ld 13 (.t 12) 1 false,I.bin 14 .gtr (.t 13) (.k (.i .i64 100))] (.t 14),I.mv 16 (.t 15),.sc true 20 16 [I.fa 17 (.t 1) 3 1,I.ld 18 (.t 17) 1 false,I.bin 19 .neq (.t 18) k0] (.t 19)])
 (.ite (.t 20)
 ((.seq (.reg [I.build 21 zR [],I.st (.t 2) (.t 21) 9 false,I.mv 3 (.k (.i .i64 2))])
 (.ret)))
 (.skip))))
 ((.seq (.reg [I.build 22 zR [(0,1,(.k (.i .i64 (-1))))],I.st (.t 2) (.t 22) 9 false,I.mv 3 k0])
 (.ret)))))))))
 [.c 2 9 true,.t 3] false none
def F_z_53:F:=.mk
 ((.seq (.reg [I.box 1 (.t 0) 4 true,I.new 2 zR,I.mv 3 k0])
 ((.seq ((.seq (.reg [I.fa 4 (.t 1) 1 1,I.ld 5 (.t 4) 1 false,I.bin 6 .neq (.t 5) (.k (.i .i64 6))])
 (.ite (.t 6)
 ((.seq (.reg [I.build 7 zR [],I.st (.t 2) (.t 7) 9 false,I.mv 3 (.k (.i .i64 8))])
 (.ret)))
 (.skip))))
 ((.seq ((.seq (.reg [I.fa 8 (.t 1) 2 1,I.ld 9 (.t 8) 1 false,I.bin 10 .lss (.t 9) k0,I.mv 11 (.t 10),.sc true 15 11 [I.fa 12 (.t 1) 2 1,I.ld 13 (.t 12) 1 false,I.bin 14 .gtr (.t 13) (.k (.i .i64 100))] (.t 14),I.mv 16 (.t 15),.sc true 20 16 [I.fa 17 (.t 1) 3 1,I.ld 18 (.t 17) 1 false,I.bin 19 .neq (.t 18) k0] (.t 19)])
 (.ite (.t 20)
 ((.seq (.reg [I.build 21 zR [],I.st (.t 2) (.t 21) 9 false,I.mv 3 (.k (.i .i64 2))])
 (.ret)))
 (.skip))))
 ((.seq (.reg [I.build 22 zR [(0,1,(.k (.i .i64 (-1))))],I.st (.t 2) (.t 22) 9 false,I.mv 3 k0])
 (.ret)))))))))
 [.c 2 9 true,.t 3] false none
def F_z_54:F:=.mk
 ((.seq (.reg [I.box 1 (.t 0) 4 true,I.new 2 zR,I.mv 3 k0])
 ((.seq ((.seq (.reg [I.fa 4 (.t 1) 1 1,I.ld 5 (.t 4) 1 false,I.bin 6 .neq (.t 5) (.k (.i .i64 7))])
 (.ite (.t 6)
 ((.seq (.reg [I.build 7 zR [],I.st (.t 2) (.t 7) 9 false,I.mv 3 (.k (.i .i64 8))])
 (.ret)))
 (.skip))))
 ((.seq ((.seq (.reg [I.fa 8 (.t 1) 2 1,I.ld 9 (.t 8) 1 false,I.call (some 10) z_122 [(.t 9),k0,(.k (.i .i64 100))],I.un 11 .not (.t 10),I.mv 12 (.t 11),.sc true 16 12 [I.fa 13 (.t 1) 3 1,I.ld 14 (.t 13) 1 false,I.bin 15 .neq (.t 14) k0] (.t 15)])
 (.ite (.t 16)
 ((.seq (.reg [I.build 17 zR [],I.st (.t 2) (.t 17) 9 false,I.mv 3 (.k (.i .i64 2))])
 (.ret)))
 (.skip))))
 ((.seq (.reg [I.build 18 zR [(0,1,(.k (.i .i64 (-1))))],I.st (.t 2) (.t 18) 9 false,I.mv 3 k0])
 (.ret)))))))))
 [.c 2 9 true,.t 3] false none
def F_z_55:F:=.mk
 ((.seq (.reg [I.box 1 (.t 0) 4 true,I.new 2 zR,I.mv 3 k0])
 ((.seq ((.seq (.reg [I.fa 4 (.t 1) 1 1,I.ld 5 (.t 4) 1 false,I.bin 6 .neq (.t 5) (.k (.i .i64 8))])
 (.ite (.t 6)
 ((.seq (.reg [I.build 7 zR [],I.st (.t 2) (.t 7) 9 false,I.mv 3 (.k (.i .i64 8))])
 (.ret)))
 (.skip))))
 ((.seq ((.seq (.reg [I.fa 8 (.t 1) 2 1,I.ld 9 (.t 8) 1 false,I.bin 10 .lss (.t 9) (.k (.i .i64 1)),I.mv 11 (.t 10),.sc true 15 11 [I.fa 12 (.t 1) 2 1,I.ld 13 (.t 12) 1 false,I.bin 14 .gtr (.t 13) (.k (.i .i64 100))] (.t 14),I.mv 16 (.t 15),.sc true 20 16 [I.fa 17 (.t 1) 3 1,I.ld 18 (.t 17) 1 false,I.bin 19 .lss (.t 18) (.k (.i .i64 1))] (.t 19),I.mv 21 (.t 20),.sc true 25 21 [I.fa 22 (.t 1) 3 1,I.ld 23 (.t 22) 1 false,I.bin 24 .gtr (.t 23) (.k (.i .i64 1099511627776))] (.t 24)])
 (.ite (.t 25)
 ((.seq (.reg [I.build 26 zR [],I.st (.t 2) (.t 26) 9 false,I.mv 3 (.k (.i .i64 2))])
 (.ret)))
 (.skip))))
 ((.seq (.reg [I.fa 27 (.t 1) 2 1,I.ld 28 (.t 27) 1 false,I.build 29 zR [(0,1,(.k (.i .i64 (-1)))),(1,1,(.t 28))],I.st (.t 2) (.t 29) 9 false,I.mv 3 k0])
 (.ret)))))))))
 [.c 2 9 true,.t 3] false none
def F_z_56:F:=.mk
 ((.seq (.reg [I.box 1 (.t 0) 4 true,I.new 2 zR,I.mv 3 k0])
 ((.seq ((.seq (.reg [I.fa 4 (.t 1) 1 1,I.ld 5 (.t 4) 1 false,I.bin 6 .neq (.t 5) (.k (.i .i64 9))])
 (.ite (.t 6)
 ((.seq (.reg [I.build 7 zR [],I.st (.t 2) (.t 7) 9 false,I.mv 3 (.k (.i .i64 8))])
 (.ret)))
 (.skip))))
 ((.seq ((.seq (.reg [I.fa 8 (.t 1) 2 1,I.ld 9 (.t 8) 1 false,I.bin 10 .neq (.t 9) k0,I.mv 11 (.t 10),.sc true 15 11 [I.fa 12 (.t 1) 3 1,I.ld 13 (.t 12) 1 false,I.bin 14 .neq (.t 13) k0] (.t 14)])
 (.ite (.t 15)
 ((.seq (.reg [I.build 16 zR [],I.st (.t 2) (.t 16) 9 false,I.mv 3 (.k (.i .i64 2))])
 (.ret)))
 (.skip))))
 ((.seq (.reg [I.build 17 zR [(0,1,(.k (.i .i64 (-1))))],I.st (.t 2) (.t 17) 9 false,I.mv 3 k0])
 (.ret)))))))))
 [.c 2 9 true,.t 3] false none
def F_z_57:F:=.mk
 ((.seq (.reg [I.mv 4 (.k (.b false))])
 ((.seq (.reg [I.mv 5 (.t 0),I.mv 6 (.t 1),I.call (some 7) z_123 [(.t 5),(.t 6)],I.bin 8 .geq (.t 7) k0,I.mv 4 (.t 8)])
 (.ret)))))
 [.t 4] false none
def F_z_58:F:=.mk
 ((.seq (.reg [I.box 4 (.t 0) 5 true,I.mv 5 (.k (.b false))])
 ((.seq (.reg [I.ld 6 (.t 1) 1 false,I.ld 7 (.t 2) 4 true,I.ld 8 (.t 3) 9 true,I.ld 9 (.t 4) 5 true,I.inv (some 10) "nursery/spec.vain" [(101,2,z_316),(102,2,z_320),(103,2,z_323),(104,2,z_326),(105,2,z_329),(106,2,z_334),(107,2,z_340),(108,2,z_342)] (.t 6) [(.t 7),(.t 8),(.t 9)],I.mv 5 (.t 10)])
 (.ret)))))
 [.t 5] false none
def F_z_59_L0:C :=
 (.seq ((.seq (.reg [I.mv 6 (.t 5),I.fa 7 (.t 3) 6 1,I.ld 8 (.t 7) 1 false,I.len 9 (.t 8) .sl,I.bin 10 .lss (.t 6) (.t 9)])
 (.ite (.t 10)
 (.skip)
 (.seq (.keep []) (.exit 0)))))
 ((.seq (.blk 1 ((.seq (.drw [] [0,1,2,3,4,5,6,7,8,9,10,11,12,13,14,15,16,17,18,19,20,21] [I.fad 13 (.t 3) 6 1,I.ldd 14 (.t 13) 1 false,I.mv 15 (.t 5),I.ixs 16 (.t 14) (.t 15) 2,I.fa 17 (.t 16) 1 1,I.ld 18 (.t 17) 1 false,I.len 19 (.t 18) .sl,I.fad 20 (.t 2) 2 1,I.ldd 21 (.t 20) 1 false,I.bin 22 .geq (.t 19) (.t 21),I.mv 23 (.t 22),.sc false 34 23 [I.fad 24 (.t 3) 4 1,I.ldd 25 (.t 24) 1 false,I.fad 26 (.t 3) 6 1,I.ldd 27 (.t 26) 1 false,I.mv 28 (.t 5),I.ixs 29 (.t 27) (.t 28) 2,I.fa 30 (.t 29) 0 1,I.ld 31 (.t 30) 1 false,I.call (some 32) z_124 [(.t 25),(.t 31)],I.un 33 .not (.t 32)] (.t 33)])
 (.ite (.t 34)
 ((.seq (.reg [I.mv 4 (.k (.b true))])
 (.seq (.keep [4]) .ret)))
 (.skip)))))
 (.reg [I.mv 11 (.t 5),I.bin 12 .add (.t 11) (.k (.i .i64 1)),I.mv 5 (.t 12)]))))
def F_z_59:F:=.mk
 ((.seq (.reg [I.box 2 (.t 0) 4 true,I.box 3 (.t 1) 9 true,I.mv 4 (.k (.b false))])
 ((.seq ((.seq (.reg [I.mv 5 k0])
 (.blk 0 (.loop [2,3,5] F_z_59_L0))))
 ((.seq (.reg [I.mv 4 (.k (.b false))])
 (.ret)))))))
 [.t 4] false none
def F_z_60_L0:C :=
 (.seq ((.seq (.reg [I.mv 8 (.t 7),I.mv 9 (.t 0),I.len 10 (.t 9) .sl,I.bin 11 .lss (.t 8) (.t 10)])
 (.ite (.t 11)
 (.skip)
 (.seq (.keep []) (.exit 0)))))
 ((.seq (.blk 1 ((.seq (.reg [I.mv 14 (.t 0),I.mv 15 (.t 7),I.ixs 16 (.t 14) (.t 15) 5,I.fa 17 (.t 16) 1 1,I.ld 18 (.t 17) 1 false,I.mv 19 (.t 1),I.bin 20 .eql (.t 18) (.t 19),I.mv 21 (.t 20),.sc false 29 21 [I.mv 22 (.t 0),I.mv 23 (.t 7),I.ixs 24 (.t 22) (.t 23) 5,I.fa 25 (.t 24) 0 1,I.ld 26 (.t 25) 1 false,I.mv 27 (.t 2),I.bin 28 .neq (.t 26) (.t 27)] (.t 28)])
 (.ite (.t 29)
 ((.seq (.reg [I.mv 6 (.k (.b true))])
 (.seq (.keep [6]) .ret)))
 (.skip)))))
 (.reg [I.mv 12 (.t 7),I.bin 13 .add (.t 12) (.k (.i .i64 1)),I.mv 7 (.t 13)]))))
def F_z_60:F:=.mk
 ((.seq (.reg [I.mv 6 (.k (.b false))])
 ((.seq ((.seq (.reg [I.mv 7 k0])
 (.blk 0 (.loop [0,1,2,7] F_z_60_L0))))
 ((.seq (.reg [I.mv 6 (.k (.b false))])
 (.ret)))))))
 [.t 6] false none
def F_z_61:F:=.mk
 ((.seq (.reg [I.box 3 (.t 0) 4 true,I.box 4 (.t 1) 9 true,I.box 5 (.t 2) 5 true,I.mv 6 (.k (.b false))])
 ((.seq (.reg [I.ld 7 (.t 3) 4 true,I.ld 8 (.t 4) 9 true,I.fa 9 (.t 5) 0 1,I.ld 10 (.t 9) 1 false,I.fa 11 (.t 5) 1 1,I.ld 12 (.t 11) 1 false,I.fa 13 (.t 5) 2 1,I.ld 14 (.t 13) 1 false,I.fa 15 (.t 5) 3 1,I.ld 16 (.t 15) 1 false,I.fa 17 (.t 4) 2 1,I.ld 18 (.t 17) 1 false,I.build 19 zQ [(0,1,(.t 10)),(1,1,(.t 12)),(2,1,(.t 14)),(3,1,(.t 16)),(4,1,(.t 18))],I.call (some 20) z_19 [(.t 7),(.t 8),(.t 19)],I.mv 6 (.t 20)])
 (.ret)))))
 [.t 6] false none
def F_z_62:F:=.mk
 ((.seq (.reg [I.box 1 (.t 0) 4 true,I.new 2 zR,I.mv 3 k0])
 ((.seq (.blk 0 ((.seq (.reg [I.fa 5 (.t 1) 1 1,I.ld 6 (.t 5) 1 false,I.bin 7 .neq (.t 6) (.k (.i .i64 1)),I.mv 4 (.t 7)])
 (.ite (.t 4)
 ((.seq (.reg [I.build 8 zR [],I.st (.t 2) (.t 8) 9 false,I.mv 3 (.k (.i .i64 8))])
 (.ret)))
 ((.seq (.reg [I.fa 10 (.t 1) 2 1,I.ld 11 (.t 10) 1 false,I.bin 12 .neq (.t 11) k0,I.mv 13 (.t 12),.sc true 17 13 [I.fa 14 (.t 1) 3 1,I.ld 15 (.t 14) 1 false,I.bin 16 .neq (.t 15) k0] (.t 16),I.mv 9 (.t 17)])
 (.ite (.t 9)
 ((.seq (.reg [I.build 18 zR [],I.st (.t 2) (.t 18) 9 false,I.mv 3 (.k (.i .i64 2))])
 (.ret)))
 (.skip))))))))
 ((.seq (.reg [I.build 19 zR [(0,1,(.k (.i .i64 (-1))))],I.st (.t 2) (.t 19) 9 false,I.mv 3 k0])
 (.ret)))))))
 [.c 2 9 true,.t 3] false none
def F_z_63:F:=.mk
 ((.seq (.reg [I.box 2 (.t 0) 4 true,I.box 3 (.t 1) 9 true,I.mv 4 k0])
 ((.seq ((.seq (.reg [I.ld 8 (.t 2) 4 true,I.call (some 9) z_62 [(.t 8)],I.mv 7 (.t 9),I.ext 10 (.t 7) 0,I.ext 11 (.t 7) 1,I.new 5 zR,I.st (.t 5) (.t 10) 9 true,I.mv 6 (.t 11)])
 ((.seq (.reg [I.mv 12 (.t 6),I.bin 13 .neq (.t 12) k0])
 (.ite (.t 13)
 ((.seq (.reg [I.mv 14 (.t 6),I.mv 4 (.t 14)])
 (.ret)))
 (.skip))))))
 ((.seq ((.seq (.reg [I.ld 15 (.t 3) 9 true,I.call (some 16) z_125 [(.t 15)],I.un 17 .not (.t 16)])
 (.ite (.t 17)
 ((.seq (.reg [I.mv 4 (.k (.i .i64 1))])
 (.ret)))
 (.skip))))
 ((.seq (.reg [I.mv 4 k0])
 (.ret)))))))))
 [.t 4] false none
def F_z_67:F:=.mk
 ((.seq (.reg [I.box 1 (.t 0) 4 true,I.new 2 zR,I.mv 3 k0])
 ((.seq ((.seq (.reg [I.fa 4 (.t 1) 1 1,I.ld 5 (.t 4) 1 false,I.bin 6 .neq (.t 5) (.k (.i .i64 2))])
 (.ite (.t 6)
 ((.seq (.reg [I.build 7 zR [],I.st (.t 2) (.t 7) 9 false,I.mv 3 (.k (.i .i64 8))])
 (.ret)))
 (.skip))))
 ((.seq ((.seq (.reg [I.fa 8 (.t 1) 2 1,I.ld 9 (.t 8) 1 false,I.bin 10 .neq (.t 9) k0,I.mv 11 (.t 10),.sc true 15 11 [I.fa 12 (.t 1) 3 1,I.ld 13 (.t 12) 1 false,I.bin 14 .neq (.t 13) k0] (.t 14)])
 (.ite (.t 15)
 ((.seq (.reg [I.build 16 zR [],I.st (.t 2) (.t 16) 9 false,I.mv 3 (.k (.i .i64 2))])
 (.ret)))
 (.skip))))
 ((.seq (.reg [I.build 17 zR [(0,1,(.k (.i .i64 (-1))))],I.st (.t 2) (.t 17) 9 false,I.mv 3 k0])
 (.ret)))))))))
 [.c 2 9 true,.t 3] false none
def F_z_68:F:=.mk
 ((.seq (.reg [I.box 2 (.t 0) 4 true,I.box 3 (.t 1) 9 true,I.mv 4 k0])
 ((.seq ((.seq (.reg [I.ld 8 (.t 2) 4 true,I.call (some 9) z_67 [(.t 8)],I.mv 7 (.t 9),I.ext 10 (.t 7) 0,I.ext 11 (.t 7) 1,I.new 5 zR,I.st (.t 5) (.t 10) 9 true,I.mv 6 (.t 11)])
 ((.seq (.reg [I.mv 12 (.t 6),I.bin 13 .neq (.t 12) k0])
 (.ite (.t 13)
 ((.seq (.reg [I.mv 14 (.t 6),I.mv 4 (.t 14)])
 (.ret)))
 (.skip))))))
 ((.seq ((.seq (.reg [I.ld 15 (.t 3) 9 true,I.call (some 16) z_130 [(.t 15)],I.un 17 .not (.t 16)])
 (.ite (.t 17)
 ((.seq (.reg [I.mv 4 (.k (.i .i64 1))])
 (.ret)))
 (.skip))))
 ((.seq (.reg [I.mv 4 k0])
 (.ret)))))))))
 [.t 4] false none
def F_z_72:F:=.mk
 ((.seq (.reg [I.box 1 (.t 0) 4 true,I.new 2 zR,I.mv 3 k0])
 ((.seq (.blk 0 ((.seq (.reg [I.fa 5 (.t 1) 1 1,I.ld 6 (.t 5) 1 false,I.bin 7 .neq (.t 6) (.k (.i .i64 4)),I.mv 4 (.t 7)])
 (.ite (.t 4)
 ((.seq (.reg [I.build 8 zR [],I.st (.t 2) (.t 8) 9 false,I.mv 3 (.k (.i .i64 8))])
 (.ret)))
 ((.seq (.reg [I.fa 10 (.t 1) 2 1,I.ld 11 (.t 10) 1 false,I.bin 12 .lss (.t 11) (.k (.i .i64 1)),I.mv 13 (.t 12),.sc true 17 13 [I.fa 14 (.t 1) 2 1,I.ld 15 (.t 14) 1 false,I.bin 16 .gtr (.t 15) (.k (.i .i64 100))] (.t 16),I.mv 18 (.t 17),.sc true 27 18 [I.fa 19 (.t 1) 3 1,I.ld 20 (.t 19) 1 false,I.bin 21 .neq (.t 20) k0,I.mv 22 (.t 21),.sc false 26 22 [I.fa 23 (.t 1) 3 1,I.ld 24 (.t 23) 1 false,I.bin 25 .neq (.t 24) (.k (.i .i64 1))] (.t 25)] (.t 26),I.mv 9 (.t 27)])
 (.ite (.t 9)
 ((.seq (.reg [I.build 28 zR [],I.st (.t 2) (.t 28) 9 false,I.mv 3 (.k (.i .i64 2))])
 (.ret)))
 (.skip))))))))
 ((.seq (.reg [I.fa 29 (.t 1) 2 1,I.ld 30 (.t 29) 1 false,I.build 31 zR [(0,1,(.k (.i .i64 (-1)))),(1,1,(.t 30))],I.st (.t 2) (.t 31) 9 false,I.mv 3 k0])
 (.ret)))))))
 [.c 2 9 true,.t 3] false none
def F_z_73_L0:C :=
 (.seq (.reg [I.bin 41 .lss (.t 40) (.t 39)])
 ((.seq (.ite (.t 41)
 (.skip)
 (.seq (.keep [3]) (.exit 0)))
 ((.seq (.blk 1 ((.seq (.reg [I.mv 42 (.t 40),I.mv 7 (.t 42)])
 ((.seq (.reg [I.ld 43 (.t 2) 4 true,I.ld 44 (.t 3) 9 true,I.mv 45 (.t 7),I.call (some 46) z_143 [(.t 43),(.t 44),(.t 45)],I.un 47 .not (.t 46)])
 (.ite (.t 47)
 ((.seq (.reg [I.mv 4 (.k (.i .i64 1))])
 (.seq (.keep [4]) .ret)))
 (.skip)))))))
 (.reg [I.bin 48 .add (.t 40) (.k (.i .i64 1)),I.mv 40 (.t 48)]))))))
def F_z_73:F:=.mk
 ((.seq (.reg [I.box 2 (.t 0) 4 true,I.box 3 (.t 1) 9 true,I.mv 4 k0])
 ((.seq ((.seq (.reg [I.ld 9 (.t 2) 4 true,I.call (some 10) z_72 [(.t 9)],I.mv 8 (.t 10),I.ext 11 (.t 8) 0,I.ext 12 (.t 8) 1,I.new 5 zR,I.st (.t 5) (.t 11) 9 true,I.mv 6 (.t 12)])
 ((.seq (.reg [I.mv 13 (.t 6),I.bin 14 .neq (.t 13) k0])
 (.ite (.t 14)
 ((.seq (.reg [I.mv 15 (.t 6),I.mv 4 (.t 15)])
 (.ret)))
 (.skip))))))
 ((.seq ((.seq (.reg [I.fa 16 (.t 3) 0 1,I.ld 17 (.t 16) 1 false,I.bin 18 .neq (.t 17) (.k (.i .i64 (-1))),I.mv 19 (.t 18),.sc true 23 19 [I.fa 20 (.t 3) 1 1,I.ld 21 (.t 20) 1 false,I.bin 22 .lss (.t 21) k0] (.t 22),I.mv 24 (.t 23),.sc true 30 24 [I.fa 25 (.t 3) 1 1,I.ld 26 (.t 25) 1 false,I.fa 27 (.t 2) 2 1,I.ld 28 (.t 27) 1 false,I.bin 29 .gtr (.t 26) (.t 28)] (.t 29),I.mv 31 (.t 30),.sc true 36 31 [I.fa 32 (.t 3) 4 1,I.ld 33 (.t 32) 1 false,I.call (some 34) z_142 [(.k (.i .i64 1)),(.t 33)],I.bin 35 .neq (.t 34) k0] (.t 35)])
 (.ite (.t 36)
 ((.seq (.reg [I.mv 4 (.k (.i .i64 1))])
 (.ret)))
 (.skip))))
 ((.seq ((.seq (.reg [I.fa 37 (.t 3) 4 1,I.ld 38 (.t 37) 1 false,I.len 39 (.t 38) .sl,I.mv 40 k0])
 (.blk 0 (.loop [2,3,39,40] F_z_73_L0))))
 ((.seq ((.seq (.reg [I.fa 49 (.t 3) 2 1,I.ld 50 (.t 49) 1 false,I.bin 51 .neq (.t 50) k0,I.mv 52 (.t 51),.sc true 65 52 [I.fa 53 (.t 3) 3 1,I.ld 54 (.t 53) 1 false,I.len 55 (.t 54) .sl,I.fa 56 (.t 3) 5 1,I.ld 57 (.t 56) 1 false,I.len 58 (.t 57) .sl,I.bin 59 .add (.t 55) (.t 58),I.fa 60 (.t 3) 6 1,I.ld 61 (.t 60) 1 false,I.len 62 (.t 61) .sl,I.bin 63 .add (.t 59) (.t 62),I.bin 64 .gtr (.t 63) k0] (.t 64),I.mv 66 (.t 65),.sc true 69 66 [I.fa 67 (.t 3) 7 1,I.ld 68 (.t 67) 1 false] (.t 68),I.mv 70 (.t 69),.sc true 74 70 [I.fa 71 (.t 3) 8 1,I.ld 72 (.t 71) 1 false,I.bin 73 .neq (.t 72) k0] (.t 73)])
 (.ite (.t 74)
 ((.seq (.reg [I.mv 4 (.k (.i .i64 1))])
 (.ret)))
 (.skip))))
 ((.seq (.reg [I.mv 4 k0])
 (.ret)))))))))))))
 [.t 4] false none
def F_z_77:F:=.mk
 ((.seq (.reg [I.box 1 (.t 0) 4 true,I.new 2 zR,I.mv 3 k0])
 ((.seq (.blk 0 ((.seq (.reg [I.fa 5 (.t 1) 1 1,I.ld 6 (.t 5) 1 false,I.bin 7 .neq (.t 6) (.k (.i .i64 5)),I.mv 4 (.t 7)])
 (.ite (.t 4)
 ((.seq (.reg [I.build 8 zR [],I.st (.t 2) (.t 8) 9 false,I.mv 3 (.k (.i .i64 8))])
 (.ret)))
 ((.seq (.reg [I.fa 10 (.t 1) 2 1,I.ld 11 (.t 10) 1 false,I.bin 12 .lss (.t 11) (.k (.i .i64 1)),I.mv 13 (.t 12),.sc true 17 13 [I.fa 14 (.t 1) 2 1,I.ld 15 (.t 14) 1 false,I.bin 16 .gtr (.t 15) (.k (.i .i64 100))] (.t 16),I.mv 18 (.t 17),.sc true 22 18 [I.fa 19 (.t 1) 3 1,I.ld 20 (.t 19) 1 false,I.bin 21 .neq (.t 20) k0] (.t 21),I.mv 9 (.t 22)])
 (.ite (.t 9)
 ((.seq (.reg [I.build 23 zR [],I.st (.t 2) (.t 23) 9 false,I.mv 3 (.k (.i .i64 2))])
 (.ret)))
 (.skip))))))))
 ((.seq (.reg [I.build 24 zR [(0,1,(.k (.i .i64 (-1))))],I.st (.t 2) (.t 24) 9 false,I.mv 3 k0])
 (.ret)))))))
 [.c 2 9 true,.t 3] false none
def F_z_78_L0:C :=
 (.seq (.reg [I.bin 74 .lss (.t 73) (.t 72)])
 ((.seq (.ite (.t 74)
 (.skip)
 (.seq (.keep []) (.exit 0)))
 ((.seq (.blk 1 ((.seq (.reg [I.mv 75 (.t 73),I.ixs 76 (.t 71) (.t 73) 5,I.ld 77 (.t 76) 5 true,I.new 8 zQ,I.mv 7 (.t 75),I.st (.t 8) (.t 77) 5 true])
 ((.seq (.reg [I.fa 78 (.t 8) 1 1,I.ld 79 (.t 78) 1 false,I.bin 80 .neq (.t 79) (.k (.i .i64 63)),I.mv 81 (.t 80),.sc true 85 81 [I.fa 82 (.t 8) 2 1,I.ld 83 (.t 82) 1 false,I.bin 84 .neq (.t 83) k0] (.t 84),I.mv 86 (.t 85),.sc true 90 86 [I.fa 87 (.t 8) 4 1,I.ld 88 (.t 87) 1 false,I.bin 89 .neq (.t 88) (.k (.i .i64 (-1)))] (.t 89),I.mv 91 (.t 90),.sc true 102 91 [I.fa 92 (.t 3) 4 1,I.ld 93 (.t 92) 1 false,I.mv 94 (.t 7),I.bin 95 .add (.t 94) (.k (.i .i64 1)),I.sl 96 (.t 93) none (some (.t 95)) 5,I.call (some 97) z_151 [(.t 96)],I.len 98 (.t 97) .sl,I.mv 99 (.t 7),I.bin 100 .add (.t 99) (.k (.i .i64 1)),I.bin 101 .neq (.t 98) (.t 100)] (.t 101)])
 (.ite (.t 102)
 ((.seq (.reg [I.mv 4 (.k (.i .i64 1))])
 (.seq (.keep [4]) .ret)))
 (.skip)))))))
 (.reg [I.bin 103 .add (.t 73) (.k (.i .i64 1)),I.mv 73 (.t 103)]))))))
def F_z_78:F:=.mk
 ((.seq (.reg [I.box 2 (.t 0) 4 true,I.box 3 (.t 1) 9 true,I.mv 4 k0])
 ((.seq ((.seq (.reg [I.ld 10 (.t 2) 4 true,I.call (some 11) z_77 [(.t 10)],I.mv 9 (.t 11),I.ext 12 (.t 9) 0,I.ext 13 (.t 9) 1,I.new 5 zR,I.st (.t 5) (.t 12) 9 true,I.mv 6 (.t 13)])
 ((.seq (.reg [I.mv 14 (.t 6),I.bin 15 .neq (.t 14) k0])
 (.ite (.t 15)
 ((.seq (.reg [I.mv 16 (.t 6),I.mv 4 (.t 16)])
 (.ret)))
 (.skip))))))
 ((.seq ((.seq (.reg [I.fa 17 (.t 3) 0 1,I.ld 18 (.t 17) 1 false,I.bin 19 .neq (.t 18) (.k (.i .i64 (-1))),I.mv 20 (.t 19),.sc true 24 20 [I.fa 21 (.t 3) 1 1,I.ld 22 (.t 21) 1 false,I.bin 23 .lss (.t 22) k0] (.t 23),I.mv 25 (.t 24),.sc true 29 25 [I.fa 26 (.t 3) 1 1,I.ld 27 (.t 26) 1 false,I.bin 28 .gtr (.t 27) (.k (.i .i64 1099511627776))] (.t 28),I.mv 30 (.t 29),.sc true 37 30 [I.fa 31 (.t 3) 4 1,I.ld 32 (.t 31) 1 false,I.len 33 (.t 32) .sl,I.fa 34 (.t 2) 2 1,I.ld 35 (.t 34) 1 false,I.bin 36 .geq (.t 33) (.t 35)] (.t 36)])
 (.ite (.t 37)
 ((.seq (.reg [I.mv 4 (.k (.i .i64 1))])
 (.ret)))
 (.skip))))
 ((.seq ((.seq (.reg [I.fa 38 (.t 3) 2 1,I.ld 39 (.t 38) 1 false,I.bin 40 .neq (.t 39) k0,I.mv 41 (.t 40),.sc true 45 41 [I.fa 42 (.t 3) 8 1,I.ld 43 (.t 42) 1 false,I.bin 44 .neq (.t 43) k0] (.t 44),I.mv 46 (.t 45),.sc true 49 46 [I.fa 47 (.t 3) 7 1,I.ld 48 (.t 47) 1 false] (.t 48),I.mv 50 (.t 49),.sc true 63 50 [I.fa 51 (.t 3) 3 1,I.ld 52 (.t 51) 1 false,I.len 53 (.t 52) .sl,I.fa 54 (.t 3) 5 1,I.ld 55 (.t 54) 1 false,I.len 56 (.t 55) .sl,I.bin 57 .add (.t 53) (.t 56),I.fa 58 (.t 3) 6 1,I.ld 59 (.t 58) 1 false,I.len 60 (.t 59) .sl,I.bin 61 .add (.t 57) (.t 60),I.bin 62 .gtr (.t 61) k0] (.t 62),I.mv 64 (.t 63),.sc true 69 64 [I.fa 65 (.t 3) 4 1,I.ld 66 (.t 65) 1 false,I.call (some 67) z_142 [(.k (.i .i64 1)),(.t 66)],I.bin 68 .neq (.t 67) k0] (.t 68)])
 (.ite (.t 69)
 ((.seq (.reg [I.mv 4 (.k (.i .i64 1))])
 (.ret)))
 (.skip))))
 ((.seq ((.seq (.reg [I.fa 70 (.t 3) 4 1,I.ld 71 (.t 70) 1 false,I.len 72 (.t 71) .sl,I.mv 73 k0])
 (.blk 0 (.loop [3,71,72,73] F_z_78_L0))))
 ((.seq (.reg [I.mv 4 k0])
 (.ret)))))))))))))
 [.t 4] false none
def F_z_82:F:=.mk
 ((.seq (.reg [I.box 1 (.t 0) 4 true,I.new 2 zR,I.mv 3 k0])
 ((.seq ((.seq (.reg [I.fa 4 (.t 1) 1 1,I.ld 5 (.t 4) 1 false,I.bin 6 .neq (.t 5) (.k (.i .i64 6))])
 (.ite (.t 6)
 ((.seq (.reg [I.build 7 zR [],I.st (.t 2) (.t 7) 9 false,I.mv 3 (.k (.i .i64 8))])
 (.ret)))
 (.skip))))
 ((.seq ((.seq (.reg [I.fa 8 (.t 1) 2 1,I.ld 9 (.t 8) 1 false,I.bin 10 .lss (.t 9) k0,I.mv 11 (.t 10),.sc true 15 11 [I.fa 12 (.t 1) 2 1,I.ld 13 (.t 12) 1 false,I.bin 14 .gtr (.t 13) (.k (.i .i64 100))] (.t 14),I.mv 16 (.t 15),.sc true 20 16 [I.fa 17 (.t 1) 3 1,I.ld 18 (.t 17) 1 false,I.bin 19 .neq (.t 18) k0] (.t 19)])
 (.ite (.t 20)
 ((.seq (.reg [I.build 21 zR [],I.st (.t 2) (.t 21) 9 false,I.mv 3 (.k (.i .i64 2))])
 (.ret)))
 (.skip))))
 ((.seq (.reg [I.build 22 zR [(0,1,(.k (.i .i64 (-1))))],I.st (.t 2) (.t 22) 9 false,I.mv 3 k0])
 (.ret)))))))))
 [.c 2 9 true,.t 3] false none
def F_z_83:F:=.mk
 ((.seq (.reg [I.box 2 (.t 0) 4 true,I.box 3 (.t 1) 9 true,I.mv 4 k0])
 ((.seq ((.seq (.reg [I.ld 8 (.t 2) 4 true,I.call (some 9) z_82 [(.t 8)],I.mv 7 (.t 9),I.ext 10 (.t 7) 0,I.ext 11 (.t 7) 1,I.new 5 zR,I.st (.t 5) (.t 10) 9 true,I.mv 6 (.t 11)])
 ((.seq (.reg [I.mv 12 (.t 6),I.bin 13 .neq (.t 12) k0])
 (.ite (.t 13)
 ((.seq (.reg [I.mv 14 (.t 6),I.mv 4 (.t 14)])
 (.ret)))
 (.skip))))))
 ((.seq ((.seq (.reg [I.ld 15 (.t 2) 4 true,I.ld 16 (.t 3) 9 true,I.call (some 17) z_156 [(.t 15),(.t 16)],I.un 18 .not (.t 17)])
 (.ite (.t 18)
 ((.seq (.reg [I.mv 4 (.k (.i .i64 1))])
 (.ret)))
 (.skip))))
 ((.seq (.reg [I.mv 4 k0])
 (.ret)))))))))
 [.t 4] false none
def F_z_87:F:=.mk
 ((.seq (.reg [I.box 1 (.t 0) 4 true,I.new 2 zR,I.mv 3 k0])
 ((.seq ((.seq (.reg [I.fa 4 (.t 1) 1 1,I.ld 5 (.t 4) 1 false,I.bin 6 .neq (.t 5) (.k (.i .i64 7))])
 (.ite (.t 6)
 ((.seq (.reg [I.build 7 zR [],I.st (.t 2) (.t 7) 9 false,I.mv 3 (.k (.i .i64 8))])
 (.ret)))
 (.skip))))
 ((.seq ((.seq (.reg [I.fa 8 (.t 1) 2 1,I.ld 9 (.t 8) 1 false,I.bin 10 .lss (.t 9) k0,I.mv 11 (.t 10),.sc true 15 11 [I.fa 12 (.t 1) 2 1,I.ld 13 (.t 12) 1 false,I.bin 14 .gtr (.t 13) (.k (.i .i64 100))] (.t 14),I.mv 16 (.t 15),.sc true 20 16 [I.fa 17 (.t 1) 3 1,I.ld 18 (.t 17) 1 false,I.bin 19 .neq (.t 18) k0] (.t 19)])
 (.ite (.t 20)
 ((.seq (.reg [I.build 21 zR [],I.st (.t 2) (.t 21) 9 false,I.mv 3 (.k (.i .i64 2))])
 (.ret)))
 (.skip))))
 ((.seq (.reg [I.build 22 zR [(0,1,(.k (.i .i64 (-1))))],I.st (.t 2) (.t 22) 9 false,I.mv 3 k0])
 (.ret)))))))))
 [.c 2 9 true,.t 3] false none
def F_z_88:F:=.mk
 ((.seq (.reg [I.box 2 (.t 0) 4 true,I.box 3 (.t 1) 9 true,I.mv 4 k0])
 ((.seq ((.seq (.reg [I.ld 8 (.t 2) 4 true,I.call (some 9) z_87 [(.t 8)],I.mv 7 (.t 9),I.ext 10 (.t 7) 0,I.ext 11 (.t 7) 1,I.new 5 zR,I.st (.t 5) (.t 10) 9 true,I.mv 6 (.t 11)])
 ((.seq (.reg [I.mv 12 (.t 6),I.bin 13 .neq (.t 12) k0])
 (.ite (.t 13)
 ((.seq (.reg [I.mv 14 (.t 6),I.mv 4 (.t 14)])
 (.ret)))
 (.skip))))))
 ((.seq ((.seq (.reg [I.fa 15 (.t 3) 0 1,I.ld 16 (.t 15) 1 false,I.bin 17 .neq (.t 16) (.k (.i .i64 (-1))),I.mv 18 (.t 17),.sc true 25 18 [I.fa 19 (.t 2) 2 1,I.ld 20 (.t 19) 1 false,I.fa 21 (.t 3) 6 1,I.ld 22 (.t 21) 1 false,I.call (some 23) z_162 [(.t 20),(.t 22)],I.un 24 .not (.t 23)] (.t 24),I.mv 26 (.t 25),.sc true 32 26 [I.fa 27 (.t 2) 2 1,I.ld 28 (.t 27) 1 false,I.ld 29 (.t 3) 9 true,I.call (some 30) z_163 [(.t 28),(.t 29)],I.un 31 .not (.t 30)] (.t 31)])
 (.ite (.t 32)
 ((.seq (.reg [I.mv 4 (.k (.i .i64 1))])
 (.ret)))
 (.skip))))
 ((.seq ((.seq (.reg [I.fa 33 (.t 3) 1 1,I.ld 34 (.t 33) 1 false,I.bin 35 .neq (.t 34) k0,I.mv 36 (.t 35),.sc true 40 36 [I.fa 37 (.t 3) 2 1,I.ld 38 (.t 37) 1 false,I.bin 39 .neq (.t 38) k0] (.t 39),I.mv 41 (.t 40),.sc true 50 41 [I.fa 42 (.t 3) 3 1,I.ld 43 (.t 42) 1 false,I.len 44 (.t 43) .sl,I.fa 45 (.t 3) 5 1,I.ld 46 (.t 45) 1 false,I.len 47 (.t 46) .sl,I.bin 48 .add (.t 44) (.t 47),I.bin 49 .gtr (.t 48) k0] (.t 49),I.mv 51 (.t 50),.sc true 54 51 [I.fa 52 (.t 3) 7 1,I.ld 53 (.t 52) 1 false] (.t 53),I.mv 55 (.t 54),.sc true 59 55 [I.fa 56 (.t 3) 8 1,I.ld 57 (.t 56) 1 false,I.bin 58 .neq (.t 57) k0] (.t 58)])
 (.ite (.t 59)
 ((.seq (.reg [I.mv 4 (.k (.i .i64 1))])
 (.ret)))
 (.skip))))
 ((.seq (.reg [I.mv 4 k0])
 (.ret)))))))))))
 [.t 4] false none
def F_z_92:F:=.mk
 ((.seq (.reg [I.box 1 (.t 0) 4 true,I.new 2 zR,I.mv 3 k0])
 ((.seq (.blk 0 ((.seq (.reg [I.fa 5 (.t 1) 1 1,I.ld 6 (.t 5) 1 false,I.bin 7 .neq (.t 6) (.k (.i .i64 8)),I.mv 4 (.t 7)])
 (.ite (.t 4)
 ((.seq (.reg [I.build 8 zR [],I.st (.t 2) (.t 8) 9 false,I.mv 3 (.k (.i .i64 8))])
 (.ret)))
 ((.seq (.reg [I.fa 10 (.t 1) 2 1,I.ld 11 (.t 10) 1 false,I.bin 12 .lss (.t 11) (.k (.i .i64 1)),I.mv 13 (.t 12),.sc true 17 13 [I.fa 14 (.t 1) 2 1,I.ld 15 (.t 14) 1 false,I.bin 16 .gtr (.t 15) (.k (.i .i64 100))] (.t 16),I.mv 18 (.t 17),.sc true 22 18 [I.fa 19 (.t 1) 3 1,I.ld 20 (.t 19) 1 false,I.bin 21 .lss (.t 20) (.k (.i .i64 1))] (.t 21),I.mv 23 (.t 22),.sc true 27 23 [I.fa 24 (.t 1) 3 1,I.ld 25 (.t 24) 1 false,I.bin 26 .gtr (.t 25) (.k (.i .i64 1099511627776))] (.t 26),I.mv 9 (.t 27)])
 (.ite (.t 9)
 ((.seq (.reg [I.build 28 zR [],I.st (.t 2) (.t 28) 9 false,I.mv 3 (.k (.i .i64 2))])
 (.ret)))
 (.skip))))))))
 ((.seq (.reg [I.fa 29 (.t 1) 2 1,I.ld 30 (.t 29) 1 false,I.build 31 zR [(0,1,(.k (.i .i64 (-1)))),(1,1,(.t 30))],I.st (.t 2) (.t 31) 9 false,I.mv 3 k0])
 (.ret)))))))
 [.c 2 9 true,.t 3] false none
def F_z_93_L0:C :=
 (.seq (.reg [I.bin 73 .lss (.t 72) (.t 71)])
 ((.seq (.ite (.t 73)
 (.skip)
 (.seq (.keep []) (.exit 0)))
 ((.seq (.blk 1 ((.seq (.reg [I.mv 74 (.t 72),I.ixs 75 (.t 70) (.t 72) 5,I.ld 76 (.t 75) 5 true,I.new 8 zQ,I.mv 7 (.t 74),I.st (.t 8) (.t 76) 5 true])
 ((.seq (.reg [I.fa 77 (.t 8) 1 1,I.ld 78 (.t 77) 1 false,I.bin 79 .neq (.t 78) (.k (.i .i64 72)),I.mv 80 (.t 79),.sc true 84 80 [I.fa 81 (.t 8) 2 1,I.ld 82 (.t 81) 1 false,I.bin 83 .lss (.t 82) (.k (.i .i64 1))] (.t 83),I.mv 85 (.t 84),.sc true 91 85 [I.fa 86 (.t 8) 2 1,I.ld 87 (.t 86) 1 false,I.fa 88 (.t 2) 2 1,I.ld 89 (.t 88) 1 false,I.bin 90 .gtr (.t 87) (.t 89)] (.t 90),I.mv 92 (.t 91),.sc true 96 92 [I.fa 93 (.t 8) 4 1,I.ld 94 (.t 93) 1 false,I.bin 95 .neq (.t 94) (.k (.i .i64 (-1)))] (.t 95),I.mv 97 (.t 96),.sc true 108 97 [I.fa 98 (.t 3) 4 1,I.ld 99 (.t 98) 1 false,I.mv 100 (.t 7),I.bin 101 .add (.t 100) (.k (.i .i64 1)),I.sl 102 (.t 99) none (some (.t 101)) 5,I.call (some 103) z_151 [(.t 102)],I.len 104 (.t 103) .sl,I.mv 105 (.t 7),I.bin 106 .add (.t 105) (.k (.i .i64 1)),I.bin 107 .neq (.t 104) (.t 106)] (.t 107)])
 (.ite (.t 108)
 ((.seq (.reg [I.mv 4 (.k (.i .i64 1))])
 (.seq (.keep [4]) .ret)))
 (.skip)))))))
 (.reg [I.bin 109 .add (.t 72) (.k (.i .i64 1)),I.mv 72 (.t 109)]))))))
def F_z_93:F:=.mk
 ((.seq (.reg [I.box 2 (.t 0) 4 true,I.box 3 (.t 1) 9 true,I.mv 4 k0])
 ((.seq ((.seq (.reg [I.ld 10 (.t 2) 4 true,I.call (some 11) z_92 [(.t 10)],I.mv 9 (.t 11),I.ext 12 (.t 9) 0,I.ext 13 (.t 9) 1,I.new 5 zR,I.st (.t 5) (.t 12) 9 true,I.mv 6 (.t 13)])
 ((.seq (.reg [I.mv 14 (.t 6),I.bin 15 .neq (.t 14) k0])
 (.ite (.t 15)
 ((.seq (.reg [I.mv 16 (.t 6),I.mv 4 (.t 16)])
 (.ret)))
 (.skip))))))
 ((.seq ((.seq (.reg [I.fa 17 (.t 3) 0 1,I.ld 18 (.t 17) 1 false,I.bin 19 .neq (.t 18) (.k (.i .i64 (-1))),I.mv 20 (.t 19),.sc true 24 20 [I.fa 21 (.t 3) 1 1,I.ld 22 (.t 21) 1 false,I.bin 23 .lss (.t 22) k0] (.t 23),I.mv 25 (.t 24),.sc true 31 25 [I.fa 26 (.t 3) 1 1,I.ld 27 (.t 26) 1 false,I.fa 28 (.t 2) 2 1,I.ld 29 (.t 28) 1 false,I.bin 30 .gtr (.t 27) (.t 29)] (.t 30),I.mv 32 (.t 31),.sc true 36 32 [I.fa 33 (.t 3) 2 1,I.ld 34 (.t 33) 1 false,I.bin 35 .lss (.t 34) k0] (.t 35),I.mv 37 (.t 36),.sc true 41 37 [I.fa 38 (.t 3) 2 1,I.ld 39 (.t 38) 1 false,I.bin 40 .gtr (.t 39) (.k (.i .i64 1099511627776))] (.t 40)])
 (.ite (.t 41)
 ((.seq (.reg [I.mv 4 (.k (.i .i64 1))])
 (.ret)))
 (.skip))))
 ((.seq ((.seq (.reg [I.fa 42 (.t 3) 8 1,I.ld 43 (.t 42) 1 false,I.bin 44 .neq (.t 43) k0,I.mv 45 (.t 44),.sc true 48 45 [I.fa 46 (.t 3) 7 1,I.ld 47 (.t 46) 1 false] (.t 47),I.mv 49 (.t 48),.sc true 62 49 [I.fa 50 (.t 3) 3 1,I.ld 51 (.t 50) 1 false,I.len 52 (.t 51) .sl,I.fa 53 (.t 3) 5 1,I.ld 54 (.t 53) 1 false,I.len 55 (.t 54) .sl,I.bin 56 .add (.t 52) (.t 55),I.fa 57 (.t 3) 6 1,I.ld 58 (.t 57) 1 false,I.len 59 (.t 58) .sl,I.bin 60 .add (.t 56) (.t 59),I.bin 61 .gtr (.t 60) k0] (.t 61),I.mv 63 (.t 62),.sc true 68 63 [I.fa 64 (.t 3) 4 1,I.ld 65 (.t 64) 1 false,I.call (some 66) z_142 [(.k (.i .i64 1)),(.t 65)],I.bin 67 .neq (.t 66) k0] (.t 67)])
 (.ite (.t 68)
 ((.seq (.reg [I.mv 4 (.k (.i .i64 1))])
 (.ret)))
 (.skip))))
 ((.seq ((.seq (.reg [I.fa 69 (.t 3) 4 1,I.ld 70 (.t 69) 1 false,I.len 71 (.t 70) .sl,I.mv 72 k0])
 (.blk 0 (.loop [2,3,70,71,72] F_z_93_L0))))
 ((.seq (.reg [I.mv 4 k0])
 (.ret)))))))))))))
 [.t 4] false none
def F_z_97:F:=.mk
 ((.seq (.reg [I.box 1 (.t 0) 4 true,I.new 2 zR,I.mv 3 k0])
 ((.seq ((.seq (.reg [I.fa 4 (.t 1) 1 1,I.ld 5 (.t 4) 1 false,I.bin 6 .neq (.t 5) (.k (.i .i64 9))])
 (.ite (.t 6)
 ((.seq (.reg [I.build 7 zR [],I.st (.t 2) (.t 7) 9 false,I.mv 3 (.k (.i .i64 8))])
 (.ret)))
 (.skip))))
 ((.seq ((.seq (.reg [I.fa 8 (.t 1) 2 1,I.ld 9 (.t 8) 1 false,I.bin 10 .neq (.t 9) k0,I.mv 11 (.t 10),.sc true 15 11 [I.fa 12 (.t 1) 3 1,I.ld 13 (.t 12) 1 false,I.bin 14 .neq (.t 13) k0] (.t 14)])
 (.ite (.t 15)
 ((.seq (.reg [I.build 16 zR [],I.st (.t 2) (.t 16) 9 false,I.mv 3 (.k (.i .i64 2))])
 (.ret)))
 (.skip))))
 ((.seq (.reg [I.build 17 zR [(0,1,(.k (.i .i64 (-1))))],I.st (.t 2) (.t 17) 9 false,I.mv 3 k0])
 (.ret)))))))))
 [.c 2 9 true,.t 3] false none
def F_z_98:F:=.mk
 ((.seq (.reg [I.box 2 (.t 0) 4 true,I.box 3 (.t 1) 9 true,I.mv 4 k0])
 ((.seq ((.seq (.reg [I.ld 8 (.t 2) 4 true,I.call (some 9) z_97 [(.t 8)],I.mv 7 (.t 9),I.ext 10 (.t 7) 0,I.ext 11 (.t 7) 1,I.new 5 zR,I.st (.t 5) (.t 10) 9 true,I.mv 6 (.t 11)])
 ((.seq (.reg [I.mv 12 (.t 6),I.bin 13 .neq (.t 12) k0])
 (.ite (.t 13)
 ((.seq (.reg [I.mv 14 (.t 6),I.mv 4 (.t 14)])
 (.ret)))
 (.skip))))))
 ((.seq ((.seq (.reg [I.ld 15 (.t 3) 9 true,I.build 16 zR [(0,9,(.t 15))],I.call (some 17) z_183 [(.t 16)],I.un 18 .not (.t 17)])
 (.ite (.t 18)
 ((.seq (.reg [I.mv 4 (.k (.i .i64 1))])
 (.ret)))
 (.skip))))
 ((.seq (.reg [I.mv 4 k0])
 (.ret)))))))))
 [.t 4] false none
def F_z_102_L0:C :=
 (.seq (.reg [I.bin 9 .lss (.t 8) (.t 7)])
 ((.seq (.ite (.t 9)
 (.skip)
 (.seq (.keep []) (.exit 0)))
 ((.seq (.blk 1 ((.seq (.reg [I.mv 10 (.t 8),I.mv 5 (.t 10)])
 ((.seq (.reg [I.mv 11 (.t 1),I.mv 12 (.t 0),I.mv 13 (.t 5),I.ixs 14 (.t 12) (.t 13) 2,I.ld 15 (.t 14) 2 true,I.callv (some 16) (.t 11) [(.t 15)]])
 (.ite (.t 16)
 ((.seq (.reg [I.mv 17 (.t 5),I.mv 4 (.t 17)])
 (.seq (.keep [4]) .ret)))
 (.skip)))))))
 (.reg [I.bin 18 .add (.t 8) (.k (.i .i64 1)),I.mv 8 (.t 18)]))))))
def F_z_102:F:=.mk
 ((.seq (.reg [I.mv 4 k0])
 ((.seq ((.seq (.reg [I.mv 6 (.t 0),I.len 7 (.t 6) .sl,I.mv 8 k0])
 (.blk 0 (.loop [0,1,7,8] F_z_102_L0))))
 ((.seq (.reg [I.mv 4 (.k (.i .i64 (-1)))])
 (.ret)))))))
 [.t 4] false none
def F_z_105:F:=.mk
 ((.seq (.reg [I.box 2 (.t 0) 9 false,I.box 3 (.t 1) 5 true,I.new 4 zR,I.mv 5 k0,I.mv 6 (.k (.b false)),I.mv 7 k0])
 ((.seq ((.seq (.reg [I.fa 8 (.t 3) 1 1,I.ld 9 (.t 8) 1 false,I.bin 10 .eql (.t 9) (.k (.i .i64 52))])
 (.ite (.t 10)
 ((.seq ((.seq (.reg [I.fa 11 (.t 2) 0 1,I.ld 12 (.t 11) 1 false,I.fa 13 (.t 3) 0 1,I.ld 14 (.t 13) 1 false,I.bin 15 .neq (.t 12) (.t 14)])
 (.ite (.t 15)
 ((.seq (.reg [I.ld 16 (.t 2) 9 true,I.st (.t 4) (.t 16) 9 false,I.mv 5 k0,I.mv 6 (.k (.b false)),I.mv 7 (.k (.i .i64 20))])
 (.ret)))
 (.skip))))
 ((.seq (.reg [I.fa 17 (.t 2) 0 1,I.st (.t 17) (.k (.i .i64 (-1))) 1 false])
 ((.seq (.reg [I.ld 18 (.t 2) 9 true,I.st (.t 4) (.t 18) 9 false,I.mv 5 k0,I.mv 6 (.k (.b true)),I.mv 7 k0])
 (.ret)))))))
 (.skip))))
 ((.seq ((.seq (.reg [I.fa 19 (.t 2) 0 1,I.ld 20 (.t 19) 1 false,I.bin 21 .eql (.t 20) (.k (.i .i64 (-1)))])
 (.ite (.t 21)
 ((.seq (.reg [I.fa 22 (.t 3) 0 1,I.ld 23 (.t 22) 1 false,I.fa 24 (.t 2) 0 1,I.st (.t 24) (.t 23) 1 false])
 ((.seq (.reg [I.ld 25 (.t 2) 9 true,I.st (.t 4) (.t 25) 9 false,I.mv 5 k0,I.mv 6 (.k (.b true)),I.mv 7 k0])
 (.ret)))))
 (.skip))))
 ((.seq ((.seq (.reg [I.fa 26 (.t 3) 1 1,I.ld 27 (.t 26) 1 false,I.bin 28 .eql (.t 27) (.k (.i .i64 51))])
 (.ite (.t 28)
 ((.seq (.reg [I.ld 29 (.t 2) 9 true,I.st (.t 4) (.t 29) 9 false,I.mv 5 k0,I.mv 6 (.k (.b false)),I.mv 7 k0])
 (.ret)))
 (.skip))))
 ((.seq ((.seq (.reg [I.fa 30 (.t 2) 0 1,I.ld 31 (.t 30) 1 false,I.fa 32 (.t 3) 0 1,I.ld 33 (.t 32) 1 false,I.bin 34 .eql (.t 31) (.t 33)])
 (.ite (.t 34)
 ((.seq (.reg [I.ld 35 (.t 2) 9 true,I.st (.t 4) (.t 35) 9 false,I.mv 5 k0,I.mv 6 (.k (.b false)),I.mv 7 (.k (.i .i64 17))])
 (.ret)))
 (.skip))))
 ((.seq (.reg [I.ld 36 (.t 2) 9 true,I.st (.t 4) (.t 36) 9 false,I.mv 5 k0,I.mv 6 (.k (.b false)),I.mv 7 (.k (.i .i64 29))])
 (.ret)))))))))))))
 [.c 4 9 true,.t 5,.t 6,.t 7] false none
def F_z_106:F:=.mk
 ((.seq (.reg [I.box 2 (.t 0) 9 false,I.box 3 (.t 1) 5 true,I.new 4 zR,I.mv 5 k0,I.mv 6 (.k (.b false)),I.mv 7 k0])
 ((.seq (.reg [I.ld 9 (.t 2) 9 true,I.fa 10 (.t 3) 0 1,I.ld 11 (.t 10) 1 false,I.call (some 12) z_189 [(.t 9),(.t 11)],I.mv 8 (.t 12)])
 ((.seq ((.seq (.reg [I.fa 13 (.t 3) 1 1,I.ld 14 (.t 13) 1 false,I.bin 15 .eql (.t 14) (.k (.i .i64 54)),I.mv 16 (.t 15),.sc true 20 16 [I.fa 17 (.t 3) 1 1,I.ld 18 (.t 17) 1 false,I.bin 19 .eql (.t 18) (.k (.i .i64 56))] (.t 19)])
 (.ite (.t 20)
 ((.seq ((.seq (.reg [I.fa 21 (.t 3) 1 1,I.ld 22 (.t 21) 1 false,I.bin 23 .eql (.t 22) (.k (.i .i64 54)),I.mv 24 (.t 23),.sc false 27 24 [I.mv 25 (.t 8),I.bin 26 .neq (.t 25) (.k (.i .i64 1))] (.t 26),I.mv 28 (.t 27),.sc true 36 28 [I.fa 29 (.t 3) 1 1,I.ld 30 (.t 29) 1 false,I.bin 31 .eql (.t 30) (.k (.i .i64 56)),I.mv 32 (.t 31),.sc false 35 32 [I.mv 33 (.t 8),I.bin 34 .neq (.t 33) (.k (.i .i64 2))] (.t 34)] (.t 35)])
 (.ite (.t 36)
 ((.seq (.reg [I.ld 37 (.t 2) 9 true,I.st (.t 4) (.t 37) 9 false,I.mv 5 k0,I.mv 6 (.k (.b false)),I.mv 7 (.k (.i .i64 20))])
 (.ret)))
 (.skip))))
 ((.seq ((.seq (.reg [I.mv 38 (.t 8),I.bin 39 .eql (.t 38) (.k (.i .i64 2))])
 (.ite (.t 39)
 (.reg [I.fa 40 (.t 2) 0 1,I.st (.t 40) (.k (.i .i64 (-1))) 1 false])
 (.skip))))
 ((.seq (.reg [I.fa 41 (.t 2) 3 1,I.ld 42 (.t 41) 1 false,I.fa 43 (.t 3) 0 1,I.ld 44 (.t 43) 1 false,I.call (some 45) z_190 [(.t 42),(.t 44)],I.fa 46 (.t 2) 3 1,I.st (.t 46) (.t 45) 1 false])
 ((.seq (.reg [I.ld 47 (.t 2) 9 true,I.st (.t 4) (.t 47) 9 false,I.mv 5 k0,I.mv 6 (.k (.b true)),I.mv 7 k0])
 (.ret)))))))))
 (.skip))))
 ((.seq ((.seq (.reg [I.mv 48 (.t 8),I.bin 49 .neq (.t 48) k0])
 (.ite (.t 49)
 ((.seq (.reg [I.ld 50 (.t 2) 9 true,I.st (.t 4) (.t 50) 9 false,I.mv 5 k0,I.mv 6 (.k (.b false)),I.mv 7 (.k (.i .i64 17))])
 (.ret)))
 (.skip))))
 ((.seq ((.seq (.reg [I.fa 51 (.t 2) 0 1,I.ld 52 (.t 51) 1 false,I.bin 53 .neq (.t 52) (.k (.i .i64 (-1))),I.mv 54 (.t 53),.sc true 64 54 [I.fa 55 (.t 3) 1 1,I.ld 56 (.t 55) 1 false,I.bin 57 .eql (.t 56) (.k (.i .i64 55)),I.mv 58 (.t 57),.sc false 63 58 [I.fa 59 (.t 2) 3 1,I.ld 60 (.t 59) 1 false,I.len 61 (.t 60) .sl,I.bin 62 .gtr (.t 61) k0] (.t 62)] (.t 63)])
 (.ite (.t 64)
 ((.seq (.reg [I.ld 65 (.t 2) 9 true,I.st (.t 4) (.t 65) 9 false,I.mv 5 k0,I.mv 6 (.k (.b false)),I.mv 7 (.k (.i .i64 29))])
 (.ret)))
 (.skip))))
 ((.seq ((.seq (.reg [I.fa 66 (.t 3) 1 1,I.ld 67 (.t 66) 1 false,I.bin 68 .eql (.t 67) (.k (.i .i64 55))])
 (.ite (.t 68)
 (.reg [I.fa 69 (.t 3) 0 1,I.ld 70 (.t 69) 1 false,I.fa 71 (.t 2) 0 1,I.st (.t 71) (.t 70) 1 false])
 (.reg [I.fa 72 (.t 2) 3 1,I.ld 73 (.t 72) 1 false,I.fa 74 (.t 3) 0 1,I.ld 75 (.t 74) 1 false,I.call (some 76) z_191 [(.t 73),(.t 75)],I.fa 77 (.t 2) 3 1,I.st (.t 77) (.t 76) 1 false]))))
 ((.seq (.reg [I.ld 78 (.t 2) 9 true,I.st (.t 4) (.t 78) 9 false,I.mv 5 k0,I.mv 6 (.k (.b true)),I.mv 7 k0])
 (.ret)))))))))))))))
 [.c 4 9 true,.t 5,.t 6,.t 7] false none
def F_z_107:F:=.mk
 ((.seq (.reg [I.box 3 (.t 0) 4 true,I.box 4 (.t 1) 9 false,I.box 5 (.t 2) 5 true,I.new 6 zR,I.mv 7 k0,I.mv 8 (.k (.b false)),I.mv 9 k0])
 ((.seq ((.seq (.reg [I.fa 10 (.t 5) 1 1,I.ld 11 (.t 10) 1 false,I.bin 12 .eql (.t 11) (.k (.i .i64 62))])
 (.ite (.t 12)
 ((.seq ((.seq (.reg [I.fa 13 (.t 4) 1 1,I.ld 14 (.t 13) 1 false,I.fa 15 (.t 5) 2 1,I.ld 16 (.t 15) 1 false,I.bin 17 .add (.t 14) (.t 16),I.fa 18 (.t 3) 2 1,I.ld 19 (.t 18) 1 false,I.bin 20 .gtr (.t 17) (.t 19)])
 (.ite (.t 20)
 ((.seq (.reg [I.ld 21 (.t 4) 9 true,I.st (.t 6) (.t 21) 9 false,I.mv 7 k0,I.mv 8 (.k (.b false)),I.mv 9 (.k (.i .i64 17))])
 (.ret)))
 (.skip))))
 ((.seq (.reg [I.fa 22 (.t 4) 1 1,I.ld 23 (.t 22) 1 false,I.fa 24 (.t 5) 2 1,I.ld 25 (.t 24) 1 false,I.bin 26 .add (.t 23) (.t 25),I.fa 27 (.t 4) 1 1,I.st (.t 27) (.t 26) 1 false])
 ((.seq (.reg [I.ld 28 (.t 4) 9 true,I.st (.t 6) (.t 28) 9 false,I.mv 7 k0,I.mv 8 (.k (.b true)),I.mv 9 k0])
 (.ret)))))))
 (.skip))))
 ((.seq ((.seq (.reg [I.fa 29 (.t 4) 1 1,I.ld 30 (.t 29) 1 false,I.fa 31 (.t 5) 2 1,I.ld 32 (.t 31) 1 false,I.bin 33 .geq (.t 30) (.t 32)])
 (.ite (.t 33)
 ((.seq (.reg [I.fa 34 (.t 4) 1 1,I.ld 35 (.t 34) 1 false,I.fa 36 (.t 5) 2 1,I.ld 37 (.t 36) 1 false,I.bin 38 .sub (.t 35) (.t 37),I.fa 39 (.t 4) 1 1,I.st (.t 39) (.t 38) 1 false])
 ((.seq (.reg [I.ld 40 (.t 4) 9 true,I.st (.t 6) (.t 40) 9 false,I.mv 7 k0,I.mv 8 (.k (.b true)),I.mv 9 k0])
 (.ret)))))
 (.skip))))
 ((.seq ((.seq (.reg [I.fa 41 (.t 5) 1 1,I.ld 42 (.t 41) 1 false,I.bin 43 .eql (.t 42) (.k (.i .i64 61))])
 (.ite (.t 43)
 ((.seq (.reg [I.ld 44 (.t 4) 9 true,I.st (.t 6) (.t 44) 9 false,I.mv 7 k0,I.mv 8 (.k (.b false)),I.mv 9 k0])
 (.ret)))
 (.skip))))
 ((.seq (.reg [I.ld 45 (.t 4) 9 true,I.st (.t 6) (.t 45) 9 false,I.mv 7 k0,I.mv 8 (.k (.b false)),I.mv 9 (.k (.i .i64 29))])
 (.ret)))))))))))
 [.c 6 9 true,.t 7,.t 8,.t 9] false none
def F_z_108:F:=.mk
 ((.seq (.reg [I.box 2 (.t 0) 4 true,I.box 3 (.t 1) 9 false,I.new 4 zR,I.mv 5 k0,I.mv 6 (.k (.b false)),I.mv 7 k0])
 ((.seq (.reg [I.fa 9 (.t 3) 8 1,I.ld 10 (.t 9) 1 false,I.mv 8 (.t 10)])
 ((.seq (.reg [I.fa 11 (.t 3) 8 1,I.ld 12 (.t 11) 1 false,I.bin 13 .add (.t 12) (.k (.i .i64 1)),I.fa 14 (.t 3) 8 1,I.st (.t 14) (.t 13) 1 false])
 ((.seq ((.seq (.reg [I.fa 15 (.t 3) 8 1,I.ld 16 (.t 15) 1 false,I.fa 17 (.t 2) 2 1,I.ld 18 (.t 17) 1 false,I.bin 19 .eql (.t 16) (.t 18)])
 (.ite (.t 19)
 ((.seq ((.seq (.reg [I.fa 20 (.t 3) 1 1,I.ld 21 (.t 20) 1 false,I.bin 22 .eql (.t 21) (.k (.i .i64 1099511627776))])
 (.ite (.t 22)
 ((.seq (.reg [I.ld 23 (.t 3) 9 true,I.st (.t 4) (.t 23) 9 false,I.mv 5 k0,I.mv 6 (.k (.b false)),I.mv 7 (.k (.i .i64 4))])
 (.ret)))
 (.skip))))
 (.reg [I.fa 24 (.t 3) 1 1,I.ld 25 (.t 24) 1 false,I.bin 26 .add (.t 25) (.k (.i .i64 1)),I.fa 27 (.t 3) 8 1,I.st (.t 27) k0 1 false,I.fa 28 (.t 3) 1 1,I.st (.t 28) (.t 26) 1 false])))
 (.skip))))
 ((.seq (.reg [I.ld 29 (.t 3) 9 true,I.mv 30 (.t 8),I.st (.t 4) (.t 29) 9 false,I.mv 5 (.t 30),I.mv 6 (.k (.b true)),I.mv 7 k0])
 (.ret)))))))))))
 [.c 4 9 true,.t 5,.t 6,.t 7] false none
def F_z_109:F:=.mk
 ((.seq (.reg [I.box 3 (.t 0) 4 true,I.box 4 (.t 1) 9 false,I.box 5 (.t 2) 5 true,I.new 6 zR,I.mv 7 k0,I.mv 8 (.k (.b false)),I.mv 9 k0])
 ((.seq ((.seq (.reg [I.fa 11 (.t 5) 1 1,I.ld 12 (.t 11) 1 false,I.bin 13 .eql (.t 12) (.k (.i .i64 66))])
 (.ite (.t 13)
 ((.seq ((.seq (.reg [I.fa 14 (.t 4) 7 1,I.ld 15 (.t 14) 1 false])
 (.ite (.t 15)
 ((.seq (.reg [I.ld 16 (.t 4) 9 true,I.st (.t 6) (.t 16) 9 false,I.mv 7 k0,I.mv 8 (.k (.b false)),I.mv 9 (.k (.i .i64 17))])
 (.ret)))
 (.skip))))
 ((.seq (.reg [I.fa 17 (.t 4) 7 1,I.st (.t 17) (.k (.b true)) 1 false])
 ((.seq (.reg [I.ld 18 (.t 4) 9 true,I.st (.t 6) (.t 18) 9 false,I.mv 7 k0,I.mv 8 (.k (.b true)),I.mv 9 k0])
 (.ret)))))))
 (.skip))))
 ((.seq ((.seq (.reg [I.fa 19 (.t 5) 1 1,I.ld 20 (.t 19) 1 false,I.bin 21 .eql (.t 20) (.k (.i .i64 64))])
 (.ite (.t 21)
 ((.seq ((.seq (.reg [I.fa 22 (.t 4) 7 1,I.ld 23 (.t 22) 1 false])
 (.ite (.t 23)
 ((.seq (.reg [I.ld 24 (.t 4) 9 true,I.st (.t 6) (.t 24) 9 false,I.mv 7 k0,I.mv 8 (.k (.b false)),I.mv 9 k0])
 (.ret)))
 (.skip))))
 ((.seq ((.seq (.drw [] [0,1,2,3,4,5] [I.fa 25 (.t 4) 5 1,I.ld 26 (.t 25) 1 false,I.len 27 (.t 26) .sl,I.ldd 28 (.t 3) 4 true,I.call (some 29) z_47 [(.t 28)],I.bin 30 .geq (.t 27) (.t 29)])
 (.ite (.t 30)
 ((.seq (.reg [I.ld 31 (.t 4) 9 true,I.st (.t 6) (.t 31) 9 false,I.mv 7 k0,I.mv 8 (.k (.b false)),I.mv 9 (.k (.i .i64 29))])
 (.ret)))
 (.skip))))
 ((.seq (.drw [] [0,1,2,4,5,6,3,7,8,9] [I.lit0 32 1 [(.i .i64 0)],I.fa 33 (.t 4) 5 1,I.ld 34 (.t 33) 1 false,I.fad 36 (.t 5) 2 1,I.ldd 37 (.t 36) 1 false,I.buildSl 38 1 1 [(.i .i64 0)] [(0,(.t 37))] true,I.app 35 (.t 32) (.t 34) 1,I.apk 39 (.t 35) (.t 38) 1,I.fa 40 (.t 4) 5 1,I.st (.t 40) (.t 39) 1 false])
 ((.seq (.reg [I.ld 41 (.t 4) 9 true,I.st (.t 6) (.t 41) 9 false,I.mv 7 k0,I.mv 8 (.k (.b true)),I.mv 9 k0])
 (.ret)))))))))
 (.skip))))
 ((.seq ((.seq (.reg [I.fa 42 (.t 4) 5 1,I.ld 43 (.t 42) 1 false,I.len 44 (.t 43) .sl,I.bin 45 .gtr (.t 44) k0])
 (.ite (.t 45)
 ((.seq (.reg [I.fa 46 (.t 4) 5 1,I.ld 47 (.t 46) 1 false,I.ixs 48 (.t 47) k0 1,I.ld 49 (.t 48) 1 false,I.mv 10 (.t 49)])
 ((.seq (.reg [I.lit0 50 1 [(.i .i64 0)],I.fa 51 (.t 4) 5 1,I.ld 52 (.t 51) 1 false,I.sl 53 (.t 52) (some (.k (.i .i64 1))) none 1,I.apk 54 (.t 50) (.t 53) 1,I.fa 55 (.t 4) 5 1,I.st (.t 55) (.t 54) 1 false])
 ((.seq (.reg [I.ld 56 (.t 4) 9 true,I.mv 57 (.t 10),I.st (.t 6) (.t 56) 9 false,I.mv 7 (.t 57),I.mv 8 (.k (.b true)),I.mv 9 k0])
 (.ret)))))))
 (.skip))))
 ((.seq ((.seq (.reg [I.fa 58 (.t 4) 7 1,I.ld 59 (.t 58) 1 false])
 (.ite (.t 59)
 ((.seq (.reg [I.ld 60 (.t 4) 9 true,I.st (.t 6) (.t 60) 9 false,I.mv 7 k0,I.mv 8 (.k (.b false)),I.mv 9 k0])
 (.ret)))
 (.skip))))
 ((.seq (.reg [I.ld 61 (.t 4) 9 true,I.st (.t 6) (.t 61) 9 false,I.mv 7 k0,I.mv 8 (.k (.b false)),I.mv 9 (.k (.i .i64 29))])
 (.ret)))))))))))))
 [.c 6 9 true,.t 7,.t 8,.t 9] false none
def F_z_110_L0:C :=
 (.seq ((.seq (.reg [I.mv 50 (.t 13),I.mv 51 (.t 10),I.len 52 (.t 51) .sl,I.bin 53 .lss (.t 50) (.t 52)])
 (.ite (.t 53)
 (.skip)
 (.seq (.keep [4,6,10]) (.exit 0)))))
 ((.seq (.blk 1 ((.seq ((.seq (.drw [] [0,1,2,3,4,5,6,7,8] [I.mv 56 (.t 10),I.mv 57 (.t 13),I.ixs 58 (.t 56) (.t 57) 2,I.fa 59 (.t 58) 1 1,I.ld 60 (.t 59) 1 false,I.len 61 (.t 60) .sl,I.ldd 62 (.t 3) 4 true,I.call (some 63) z_47 [(.t 62)],I.bin 64 .geq (.t 61) (.t 63)])
 (.ite (.t 64)
 ((.seq (.reg [I.ld 65 (.t 4) 9 true,I.st (.t 6) (.t 65) 9 false,I.mv 7 k0,I.mv 8 (.k (.b false)),I.mv 9 (.k (.i .i64 29))])
 (.seq (.keep [6,7,8,9]) .ret)))
 (.skip))))
 (.drw [] [0,1,2,3,4,5,6,7,9,10,11,8,12,13,14,15] [I.mv 66 (.t 10),I.mv 67 (.t 13),I.lit0 68 1 [(.i .i64 0)],I.mv 69 (.t 10),I.mv 70 (.t 13),I.ixs 71 (.t 69) (.t 70) 2,I.fa 72 (.t 71) 1 1,I.ld 73 (.t 72) 1 false,I.fad 75 (.t 5) 2 1,I.ldd 76 (.t 75) 1 false,I.buildSl 77 1 1 [(.i .i64 0)] [(0,(.t 76))] true,I.app 74 (.t 68) (.t 73) 1,I.apk 78 (.t 74) (.t 77) 1,I.ixs 79 (.t 66) (.t 67) 2,I.fa 80 (.t 79) 1 1,I.st (.t 80) (.t 78) 1 false]))))
 (.reg [I.mv 54 (.t 13),I.bin 55 .add (.t 54) (.k (.i .i64 1)),I.mv 13 (.t 55)]))))
def F_z_110:F:=.mk
 ((.seq (.reg [I.box 3 (.t 0) 4 true,I.box 4 (.t 1) 9 false,I.box 5 (.t 2) 5 true,I.new 6 zR,I.mv 7 k0,I.mv 8 (.k (.b false)),I.mv 9 k0])
 ((.seq (.reg [I.buildSl 15 2 0 [(.i .i64 0),(.sl 1 true [])] [] false,I.fa 16 (.t 4) 6 1,I.ld 17 (.t 16) 1 false,I.app 18 (.t 15) (.t 17) 2,I.mv 10 (.t 18)])
 ((.seq (.reg [I.ld 20 (.t 4) 9 true,I.fa 21 (.t 5) 0 1,I.ld 22 (.t 21) 1 false,I.call (some 23) z_192 [(.t 20),(.t 22)],I.mv 19 (.t 23),I.ext 24 (.t 19) 0,I.ext 25 (.t 19) 1,I.mv 11 (.t 24),I.mv 12 (.t 25)])
 ((.seq ((.seq (.reg [I.fa 26 (.t 5) 1 1,I.ld 27 (.t 26) 1 false,I.bin 28 .eql (.t 27) (.k (.i .i64 69))])
 (.ite (.t 28)
 ((.seq ((.seq (.reg [I.mv 29 (.t 12)])
 (.ite (.t 29)
 ((.seq (.reg [I.ld 30 (.t 4) 9 true,I.st (.t 6) (.t 30) 9 false,I.mv 7 k0,I.mv 8 (.k (.b false)),I.mv 9 (.k (.i .i64 6))])
 (.ret)))
 (.skip))))
 ((.seq (.drw [] [0,1,2,3,5,6,7,8,10,11,12,4,9,13,14,15] [I.lit0 31 2 [(.i .i64 0),(.sl 1 true [])],I.mv 32 (.t 10),I.mv 33 (.t 11),I.sl 34 (.t 32) none (some (.t 33)) 2,I.fad 36 (.t 5) 0 1,I.ldd 37 (.t 36) 1 false,I.build 38 [(.i .i64 0),(.sl 1 true [])] [(0,1,(.t 37))],I.buildSl 39 2 1 [(.i .i64 0),(.sl 1 true [])] [(0,(.t 38))] true,I.mv 41 (.t 10),I.mv 42 (.t 11),I.sl 43 (.t 41) (some (.t 42)) none 2,I.app 35 (.t 31) (.t 34) 2,.re (.sl 43 (.t 41) (some (.t 42)) none 2),I.app 40 (.t 35) (.t 39) 2,.re (.sl 43 (.t 41) (some (.t 42)) none 2),I.apk 44 (.t 40) (.t 43) 2,I.fa 45 (.t 4) 6 1,I.st (.t 45) (.t 44) 1 false])
 ((.seq (.reg [I.ld 46 (.t 4) 9 true,I.st (.t 6) (.t 46) 9 false,I.mv 7 k0,I.mv 8 (.k (.b true)),I.mv 9 k0])
 (.ret)))))))
 (.skip))))
 ((.seq ((.seq (.reg [I.fa 47 (.t 5) 1 1,I.ld 48 (.t 47) 1 false,I.bin 49 .eql (.t 48) (.k (.i .i64 68))])
 (.ite (.t 49)
 ((.seq ((.seq (.reg [I.mv 13 k0])
 (.blk 0 (.loop [3,4,5,6,10,13] F_z_110_L0))))
 ((.seq (.reg [I.mv 81 (.t 10),I.fa 82 (.t 4) 6 1,I.st (.t 82) (.t 81) 1 false])
 ((.seq (.reg [I.ld 83 (.t 4) 9 true,I.st (.t 6) (.t 83) 9 false,I.mv 7 k0,I.mv 8 (.k (.b true)),I.mv 9 k0])
 (.ret)))))))
 (.skip))))
 ((.seq ((.seq (.reg [I.mv 84 (.t 12),I.un 85 .not (.t 84)])
 (.ite (.t 85)
 ((.seq (.reg [I.ld 86 (.t 4) 9 true,I.st (.t 6) (.t 86) 9 false,I.mv 7 k0,I.mv 8 (.k (.b false)),I.mv 9 (.k (.i .i64 20))])
 (.ret)))
 (.skip))))
 ((.seq ((.seq (.reg [I.fa 87 (.t 5) 1 1,I.ld 88 (.t 87) 1 false,I.bin 89 .eql (.t 88) (.k (.i .i64 71))])
 (.ite (.t 89)
 ((.seq (.drw [] [0,1,2,3,5,6,7,8,4,9,10,11] [I.lit0 90 2 [(.i .i64 0),(.sl 1 true [])],I.mv 91 (.t 10),I.mv 92 (.t 11),I.sl 93 (.t 91) none (some (.t 92)) 2,I.mv 95 (.t 10),I.mv 96 (.t 11),I.bin 97 .add (.t 96) (.k (.i .i64 1)),I.sl 98 (.t 95) (some (.t 97)) none 2,I.app 94 (.t 90) (.t 93) 2,.re (.sl 98 (.t 95) (some (.t 97)) none 2),I.apk 99 (.t 94) (.t 98) 2,I.fa 100 (.t 4) 6 1,I.st (.t 100) (.t 99) 1 false])
 ((.seq (.reg [I.ld 101 (.t 4) 9 true,I.st (.t 6) (.t 101) 9 false,I.mv 7 k0,I.mv 8 (.k (.b true)),I.mv 9 k0])
 (.ret)))))
 (.skip))))
 ((.seq ((.seq (.reg [I.mv 102 (.t 10),I.mv 103 (.t 11),I.ixs 104 (.t 102) (.t 103) 2,I.fa 105 (.t 104) 1 1,I.ld 106 (.t 105) 1 false,I.len 107 (.t 106) .sl,I.bin 108 .eql (.t 107) k0])
 (.ite (.t 108)
 ((.seq (.reg [I.ld 109 (.t 4) 9 true,I.st (.t 6) (.t 109) 9 false,I.mv 7 k0,I.mv 8 (.k (.b false)),I.mv 9 (.k (.i .i64 29))])
 (.ret)))
 (.skip))))
 ((.seq (.reg [I.mv 110 (.t 10),I.mv 111 (.t 11),I.ixs 112 (.t 110) (.t 111) 2,I.fa 113 (.t 112) 1 1,I.ld 114 (.t 113) 1 false,I.ixs 115 (.t 114) k0 1,I.ld 116 (.t 115) 1 false,I.mv 14 (.t 116)])
 ((.seq (.reg [I.mv 117 (.t 10),I.mv 118 (.t 11),I.lit0 119 1 [(.i .i64 0)],I.mv 120 (.t 10),I.mv 121 (.t 11),I.ixs 122 (.t 120) (.t 121) 2,I.fa 123 (.t 122) 1 1,I.ld 124 (.t 123) 1 false,I.sl 125 (.t 124) (some (.k (.i .i64 1))) none 1,I.apk 126 (.t 119) (.t 125) 1,I.ixs 127 (.t 117) (.t 118) 2,I.fa 128 (.t 127) 1 1,I.st (.t 128) (.t 126) 1 false])
 ((.seq (.reg [I.mv 129 (.t 10),I.fa 130 (.t 4) 6 1,I.st (.t 130) (.t 129) 1 false])
 ((.seq (.reg [I.ld 131 (.t 4) 9 true,I.mv 132 (.t 14),I.st (.t 6) (.t 131) 9 false,I.mv 7 (.t 132),I.mv 8 (.k (.b true)),I.mv 9 k0])
 (.ret)))))))))))))))))))))))))
 [.c 6 9 true,.t 7,.t 8,.t 9] false none
def F_z_111:F:=.mk
 ((.seq (.reg [I.box 3 (.t 0) 4 true,I.box 4 (.t 1) 9 false,I.box 5 (.t 2) 5 true,I.new 6 zR,I.mv 7 k0,I.mv 8 (.k (.b false)),I.mv 9 k0])
 ((.seq ((.seq (.reg [I.fa 11 (.t 5) 4 1,I.ld 12 (.t 11) 1 false,I.fa 13 (.t 4) 2 1,I.ld 14 (.t 13) 1 false,I.bin 15 .lss (.t 12) (.t 14)])
 (.ite (.t 15)
 ((.seq (.reg [I.ld 16 (.t 4) 9 true,I.st (.t 6) (.t 16) 9 false,I.mv 7 k0,I.mv 8 (.k (.b false)),I.mv 9 (.k (.i .i64 2))])
 (.ret)))
 (.skip))))
 ((.seq (.reg [I.fa 17 (.t 5) 4 1,I.ld 18 (.t 17) 1 false,I.fa 19 (.t 4) 2 1,I.ld 20 (.t 19) 1 false,I.bin 21 .sub (.t 18) (.t 20),I.fa 22 (.t 3) 3 1,I.ld 23 (.t 22) 1 false,I.bin 24 .quo (.t 21) (.t 23),I.mv 10 (.t 24)])
 ((.seq ((.seq (.reg [I.fa 25 (.t 4) 1 1,I.ld 26 (.t 25) 1 false,I.mv 27 (.t 10),I.bin 28 .add (.t 26) (.t 27),I.fa 29 (.t 3) 2 1,I.ld 30 (.t 29) 1 false,I.bin 31 .geq (.t 28) (.t 30)])
 (.ite (.t 31)
 (.drw [] [0,1,2,3,4,5,6,7] [I.fad 32 (.t 3) 2 1,I.ldd 33 (.t 32) 1 false,I.fad 34 (.t 5) 4 1,I.ldd 35 (.t 34) 1 false,I.fa 36 (.t 4) 1 1,I.st (.t 36) (.t 33) 1 false,I.fa 37 (.t 4) 2 1,I.st (.t 37) (.t 35) 1 false])
 (.drw [] [0,1,2,3,4,5,6,7,8,9,10,11,12,13,14] [I.fa 38 (.t 4) 1 1,I.ld 39 (.t 38) 1 false,I.mv 40 (.t 10),I.bin 41 .add (.t 39) (.t 40),I.fa 42 (.t 4) 2 1,I.ld 43 (.t 42) 1 false,I.mv 44 (.t 10),I.fad 45 (.t 3) 3 1,I.ldd 46 (.t 45) 1 false,I.bin 47 .mul (.t 44) (.t 46),I.bin 48 .add (.t 43) (.t 47),I.fa 49 (.t 4) 1 1,I.st (.t 49) (.t 41) 1 false,I.fa 50 (.t 4) 2 1,I.st (.t 50) (.t 48) 1 false]))))
 ((.seq ((.seq (.reg [I.fa 51 (.t 5) 1 1,I.ld 52 (.t 51) 1 false,I.bin 53 .eql (.t 52) (.k (.i .i64 75))])
 (.ite (.t 53)
 ((.seq (.reg [I.ld 54 (.t 4) 9 true,I.st (.t 6) (.t 54) 9 false,I.mv 7 k0,I.mv 8 (.k (.b true)),I.mv 9 k0])
 (.ret)))
 (.skip))))
 ((.seq ((.seq (.reg [I.fa 55 (.t 4) 1 1,I.ld 56 (.t 55) 1 false,I.fa 57 (.t 5) 2 1,I.ld 58 (.t 57) 1 false,I.bin 59 .lss (.t 56) (.t 58)])
 (.ite (.t 59)
 ((.seq (.reg [I.ld 60 (.t 4) 9 true,I.st (.t 6) (.t 60) 9 false,I.mv 7 k0,I.mv 8 (.k (.b false)),I.mv 9 (.k (.i .i64 29))])
 (.ret)))
 (.skip))))
 ((.seq (.reg [I.fa 61 (.t 4) 1 1,I.ld 62 (.t 61) 1 false,I.fa 63 (.t 5) 2 1,I.ld 64 (.t 63) 1 false,I.bin 65 .sub (.t 62) (.t 64),I.fa 66 (.t 4) 1 1,I.st (.t 66) (.t 65) 1 false])
 ((.seq (.reg [I.ld 67 (.t 4) 9 true,I.st (.t 6) (.t 67) 9 false,I.mv 7 k0,I.mv 8 (.k (.b true)),I.mv 9 k0])
 (.ret)))))))))))))))))
 [.c 6 9 true,.t 7,.t 8,.t 9] false none
def F_z_112:F:=.mk
 ((.seq (.reg [I.box 2 (.t 0) 9 false,I.box 3 (.t 1) 5 true,I.new 4 zR,I.mv 5 k0,I.mv 6 (.k (.b false)),I.mv 7 k0])
 ((.seq ((.seq (.reg [I.fa 8 (.t 3) 1 1,I.ld 9 (.t 8) 1 false,I.bin 10 .eql (.t 9) (.k (.i .i64 73))])
 (.ite (.t 10)
 ((.seq ((.seq (.reg [I.fa 11 (.t 2) 7 1,I.ld 12 (.t 11) 1 false])
 (.ite (.t 12)
 ((.seq (.reg [I.ld 13 (.t 2) 9 true,I.st (.t 4) (.t 13) 9 false,I.mv 5 k0,I.mv 6 (.k (.b false)),I.mv 7 (.k (.i .i64 17))])
 (.ret)))
 (.skip))))
 ((.seq (.drw [] [0,1,2,3,4,5] [I.fad 14 (.t 3) 2 1,I.ldd 15 (.t 14) 1 false,I.fa 16 (.t 2) 7 1,I.st (.t 16) (.k (.b true)) 1 false,I.fa 17 (.t 2) 8 1,I.st (.t 17) (.t 15) 1 false])
 ((.seq (.reg [I.ld 18 (.t 2) 9 true,I.st (.t 4) (.t 18) 9 false,I.mv 5 k0,I.mv 6 (.k (.b true)),I.mv 7 k0])
 (.ret)))))))
 (.skip))))
 ((.seq ((.seq (.reg [I.fa 19 (.t 2) 7 1,I.ld 20 (.t 19) 1 false,I.un 21 .not (.t 20)])
 (.ite (.t 21)
 ((.seq (.reg [I.ld 22 (.t 2) 9 true,I.st (.t 4) (.t 22) 9 false,I.mv 5 k0,I.mv 6 (.k (.b false)),I.mv 7 (.k (.i .i64 29))])
 (.ret)))
 (.skip))))
 ((.seq (.drw [] [0,1,2,3,4,5,6] [I.ld 23 (.t 2) 9 true,I.fa 24 (.t 2) 8 1,I.ld 25 (.t 24) 1 false,I.st (.t 4) (.t 23) 9 false,.re (.fa 24 (.t 2) 8 1),.re (.ld 25 (.t 24) 1 false),I.mv 5 (.t 25),I.mv 6 (.k (.b true)),I.mv 7 k0])
 (.ret)))))))))
 [.c 4 9 true,.t 5,.t 6,.t 7] false none
def F_z_113:F:=.mk
 ((.seq (.reg [I.box 2 (.t 0) 4 true,I.box 3 (.t 1) 9 true,I.mv 4 k0])
 ((.seq ((.seq (.reg [I.ld 8 (.t 2) 4 true,I.call (some 9) z_49 [(.t 8)],I.mv 7 (.t 9),I.ext 10 (.t 7) 0,I.ext 11 (.t 7) 1,I.new 5 zR,I.st (.t 5) (.t 10) 9 true,I.mv 6 (.t 11)])
 ((.seq (.reg [I.mv 12 (.t 6),I.bin 13 .neq (.t 12) k0])
 (.ite (.t 13)
 ((.seq (.reg [I.mv 14 (.t 6),I.mv 4 (.t 14)])
 (.ret)))
 (.skip))))))
 ((.seq ((.seq (.reg [I.fa 15 (.t 3) 0 1,I.ld 16 (.t 15) 1 false,I.bin 17 .neq (.t 16) (.k (.i .i64 (-1))),I.mv 18 (.t 17),.sc false 23 18 [I.fa 19 (.t 3) 0 1,I.ld 20 (.t 19) 1 false,I.call (some 21) z_193 [(.t 20)],I.un 22 .not (.t 21)] (.t 22),I.mv 24 (.t 23),.sc true 31 24 [I.fa 25 (.t 3) 0 1,I.ld 26 (.t 25) 1 false,I.fa 27 (.t 3) 4 1,I.ld 28 (.t 27) 1 false,I.call (some 29) z_194 [(.t 26),(.t 28)],I.un 30 .not (.t 29)] (.t 30)])
 (.ite (.t 31)
 ((.seq (.reg [I.mv 4 (.k (.i .i64 1))])
 (.ret)))
 (.skip))))
 ((.seq ((.seq (.reg [I.ld 32 (.t 3) 9 true,I.fa 33 (.t 3) 0 1,I.ld 34 (.t 33) 1 false,I.fa 35 (.t 3) 4 1,I.ld 36 (.t 35) 1 false,I.build 37 zR [(0,1,(.t 34)),(4,1,(.t 36))],I.call (some 38) z_17 [(.t 32),(.t 37)],I.un 39 .not (.t 38)])
 (.ite (.t 39)
 ((.seq (.reg [I.mv 4 (.k (.i .i64 1))])
 (.ret)))
 (.skip))))
 ((.seq (.reg [I.mv 4 k0])
 (.ret)))))))))))
 [.t 4] false none
def F_z_114:F:=.mk
 ((.seq (.reg [I.box 2 (.t 0) 4 true,I.box 3 (.t 1) 9 true,I.mv 4 k0])
 ((.seq ((.seq (.reg [I.ld 8 (.t 2) 4 true,I.call (some 9) z_50 [(.t 8)],I.mv 7 (.t 9),I.ext 10 (.t 7) 0,I.ext 11 (.t 7) 1,I.new 5 zR,I.st (.t 5) (.t 10) 9 true,I.mv 6 (.t 11)])
 ((.seq (.reg [I.mv 12 (.t 6),I.bin 13 .neq (.t 12) k0])
 (.ite (.t 13)
 ((.seq (.reg [I.mv 14 (.t 6),I.mv 4 (.t 14)])
 (.ret)))
 (.skip))))))
 ((.seq ((.seq (.reg [I.ld 15 (.t 3) 9 true,I.call (some 16) z_195 [(.t 15)],I.un 17 .not (.t 16),I.mv 18 (.t 17),.sc true 21 18 [I.ld 19 (.t 3) 9 true,I.call (some 20) z_196 [(.t 19)]] (.t 20)])
 (.ite (.t 21)
 ((.seq (.reg [I.mv 4 (.k (.i .i64 1))])
 (.ret)))
 (.skip))))
 ((.seq (.reg [I.mv 4 k0])
 (.ret)))))))))
 [.t 4] false none
def F_z_115_L0:C :=
 (.seq ((.seq (.reg [I.mv 64 (.t 7),I.fa 65 (.t 3) 4 1,I.ld 66 (.t 65) 1 false,I.len 67 (.t 66) .sl,I.bin 68 .lss (.t 64) (.t 67)])
 (.ite (.t 68)
 (.skip)
 (.seq (.keep []) (.exit 0)))))
 ((.seq (.blk 1 ((.seq (.reg [I.fa 71 (.t 3) 4 1,I.ld 72 (.t 71) 1 false,I.mv 73 (.t 7),I.ixs 74 (.t 72) (.t 73) 5,I.ld 75 (.t 74) 5 true,I.new 8 zQ,I.st (.t 8) (.t 75) 5 true])
 ((.seq (.reg [I.fa 77 (.t 3) 4 1,I.ld 78 (.t 77) 1 false,I.fa 79 (.t 8) 0 1,I.ld 80 (.t 79) 1 false,I.call (some 81) z_198 [(.t 78),(.t 80)],I.mv 76 (.t 81),I.ext 82 (.t 76) 0,I.ext 83 (.t 76) 1,I.mv 9 (.t 82),I.mv 10 (.t 83)])
 ((.seq (.reg [I.fa 84 (.t 8) 1 1,I.ld 85 (.t 84) 1 false,I.bin 86 .neq (.t 85) (.k (.i .i64 60)),I.mv 87 (.t 86),.sc true 94 87 [I.fa 88 (.t 8) 2 1,I.ld 89 (.t 88) 1 false,I.fa 90 (.t 2) 2 1,I.ld 91 (.t 90) 1 false,I.call (some 92) z_121 [(.t 89),(.k (.i .i64 1)),(.t 91)],I.un 93 .not (.t 92)] (.t 93),I.mv 95 (.t 94),.sc true 99 95 [I.fa 96 (.t 8) 4 1,I.ld 97 (.t 96) 1 false,I.bin 98 .neq (.t 97) (.k (.i .i64 (-1)))] (.t 98),I.mv 100 (.t 99),.sc true 104 100 [I.mv 101 (.t 9),I.mv 102 (.t 7),I.bin 103 .neq (.t 101) (.t 102)] (.t 103),I.mv 105 (.t 104),.sc true 120 105 [I.fa 106 (.t 8) 2 1,I.ld 107 (.t 106) 1 false,I.fa 108 (.t 3) 1 1,I.ld 109 (.t 108) 1 false,I.bin 110 .leq (.t 107) (.t 109),I.mv 111 (.t 110),.sc false 119 111 [I.mv 112 (.t 7),I.bin 113 .eql (.t 112) k0,I.mv 114 (.t 113),.sc true 118 114 [I.fa 115 (.t 2) 3 1,I.ld 116 (.t 115) 1 false,I.bin 117 .eql (.t 116) (.k (.i .i64 1))] (.t 117)] (.t 118)] (.t 119)])
 (.ite (.t 120)
 ((.seq (.reg [I.mv 4 (.k (.i .i64 1))])
 (.seq (.keep [4]) .ret)))
 (.skip)))))))))
 (.reg [I.mv 69 (.t 7),I.bin 70 .add (.t 69) (.k (.i .i64 1)),I.mv 7 (.t 70)]))))
def F_z_115:F:=.mk
 ((.seq (.reg [I.box 2 (.t 0) 4 true,I.box 3 (.t 1) 9 true,I.mv 4 k0])
 ((.seq ((.seq (.reg [I.ld 12 (.t 2) 4 true,I.call (some 13) z_51 [(.t 12)],I.mv 11 (.t 13),I.ext 14 (.t 11) 0,I.ext 15 (.t 11) 1,I.new 5 zR,I.st (.t 5) (.t 14) 9 true,I.mv 6 (.t 15)])
 ((.seq (.reg [I.mv 16 (.t 6),I.bin 17 .neq (.t 16) k0])
 (.ite (.t 17)
 ((.seq (.reg [I.mv 18 (.t 6),I.mv 4 (.t 18)])
 (.ret)))
 (.skip))))))
 ((.seq ((.seq (.reg [I.fa 19 (.t 3) 0 1,I.ld 20 (.t 19) 1 false,I.bin 21 .neq (.t 20) (.k (.i .i64 (-1))),I.mv 22 (.t 21),.sc true 29 22 [I.fa 23 (.t 3) 1 1,I.ld 24 (.t 23) 1 false,I.fa 25 (.t 2) 2 1,I.ld 26 (.t 25) 1 false,I.call (some 27) z_121 [(.t 24),k0,(.t 26)],I.un 28 .not (.t 27)] (.t 28),I.mv 30 (.t 29),.sc true 34 30 [I.fa 31 (.t 3) 2 1,I.ld 32 (.t 31) 1 false,I.bin 33 .neq (.t 32) k0] (.t 33),I.mv 35 (.t 34),.sc true 48 35 [I.fa 36 (.t 3) 3 1,I.ld 37 (.t 36) 1 false,I.len 38 (.t 37) .sl,I.fa 39 (.t 3) 5 1,I.ld 40 (.t 39) 1 false,I.len 41 (.t 40) .sl,I.bin 42 .add (.t 38) (.t 41),I.fa 43 (.t 3) 6 1,I.ld 44 (.t 43) 1 false,I.len 45 (.t 44) .sl,I.bin 46 .add (.t 42) (.t 45),I.bin 47 .gtr (.t 46) k0] (.t 47),I.mv 49 (.t 48),.sc true 52 49 [I.fa 50 (.t 3) 7 1,I.ld 51 (.t 50) 1 false] (.t 51),I.mv 53 (.t 52),.sc true 57 53 [I.fa 54 (.t 3) 8 1,I.ld 55 (.t 54) 1 false,I.bin 56 .neq (.t 55) k0] (.t 56),I.mv 58 (.t 57),.sc true 63 58 [I.fa 59 (.t 3) 4 1,I.ld 60 (.t 59) 1 false,I.call (some 61) z_197 [(.k (.i .i64 1)),(.t 60)],I.bin 62 .neq (.t 61) k0] (.t 62)])
 (.ite (.t 63)
 ((.seq (.reg [I.mv 4 (.k (.i .i64 1))])
 (.ret)))
 (.skip))))
 ((.seq ((.seq (.reg [I.mv 7 k0])
 (.blk 0 (.loop [2,3,7] F_z_115_L0))))
 ((.seq (.reg [I.mv 4 k0])
 (.ret)))))))))))
 [.t 4] false none
def F_z_116_L0:C :=
 (.seq ((.seq (.reg [I.mv 33 (.t 7),I.fa 34 (.t 3) 4 1,I.ld 35 (.t 34) 1 false,I.len 36 (.t 35) .sl,I.bin 37 .lss (.t 33) (.t 36)])
 (.ite (.t 37)
 (.skip)
 (.seq (.keep [3]) (.exit 0)))))
 ((.seq (.blk 1 ((.seq (.reg [I.fa 40 (.t 3) 4 1,I.ld 41 (.t 40) 1 false,I.mv 42 (.t 7),I.ixs 43 (.t 41) (.t 42) 5,I.ld 44 (.t 43) 5 true,I.new 8 zQ,I.st (.t 8) (.t 44) 5 true])
 ((.seq (.drw [] [0,1,2,3,4,5,6,7,8,9,10,11,12,13,14,15,16,17,18,19,20,21,22,23,24,25,26,27,28,29,30,31,32,33,34,35,36,37] [I.fad 45 (.t 8) 0 1,I.ldd 46 (.t 45) 1 false,I.call (some 47) z_193 [(.t 46)],I.un 48 .not (.t 47),I.mv 49 (.t 48),.sc true 57 49 [I.fad 50 (.t 3) 4 1,I.ldd 51 (.t 50) 1 false,I.mv 52 (.t 7),I.sl 53 (.t 51) none (some (.t 52)) 5,I.fad 54 (.t 8) 0 1,I.ldd 55 (.t 54) 1 false,I.call (some 56) z_199 [(.t 53),(.t 55)]] (.t 56),I.mv 58 (.t 57),.sc true 62 58 [I.fad 59 (.t 8) 1 1,I.ldd 60 (.t 59) 1 false,I.bin 61 .neq (.t 60) (.k (.i .i64 63))] (.t 61),I.mv 63 (.t 62),.sc true 67 63 [I.fad 64 (.t 8) 2 1,I.ldd 65 (.t 64) 1 false,I.bin 66 .neq (.t 65) k0] (.t 66),I.mv 68 (.t 67),.sc true 72 68 [I.fad 69 (.t 8) 3 1,I.ldd 70 (.t 69) 1 false,I.bin 71 .lss (.t 70) k0] (.t 71),I.mv 73 (.t 72),.sc true 77 73 [I.fad 74 (.t 8) 3 1,I.ldd 75 (.t 74) 1 false,I.bin 76 .gtr (.t 75) (.k (.i .i64 9))] (.t 76),I.mv 78 (.t 77),.sc true 82 78 [I.fad 79 (.t 8) 4 1,I.ldd 80 (.t 79) 1 false,I.bin 81 .neq (.t 80) (.k (.i .i64 (-1)))] (.t 81)])
 (.ite (.t 82)
 ((.seq (.reg [I.mv 4 (.k (.i .i64 1))])
 (.seq (.keep [4]) .ret)))
 (.skip)))))))
 (.reg [I.mv 38 (.t 7),I.bin 39 .add (.t 38) (.k (.i .i64 1)),I.mv 7 (.t 39)]))))
def F_z_116:F:=.mk
 ((.seq (.reg [I.box 2 (.t 0) 4 true,I.box 3 (.t 1) 9 true,I.mv 4 k0])
 ((.seq ((.seq (.reg [I.ld 10 (.t 2) 4 true,I.call (some 11) z_52 [(.t 10)],I.mv 9 (.t 11),I.ext 12 (.t 9) 0,I.ext 13 (.t 9) 1,I.new 5 zR,I.st (.t 5) (.t 12) 9 true,I.mv 6 (.t 13)])
 ((.seq (.reg [I.mv 14 (.t 6),I.bin 15 .neq (.t 14) k0])
 (.ite (.t 15)
 ((.seq (.reg [I.mv 16 (.t 6),I.mv 4 (.t 16)])
 (.ret)))
 (.skip))))))
 ((.seq ((.seq (.reg [I.fa 17 (.t 3) 1 1,I.ld 18 (.t 17) 1 false,I.bin 19 .lss (.t 18) k0,I.mv 20 (.t 19),.sc true 24 20 [I.fa 21 (.t 3) 1 1,I.ld 22 (.t 21) 1 false,I.bin 23 .gtr (.t 22) (.k (.i .i64 1099511627776))] (.t 23),I.mv 25 (.t 24),.sc true 32 25 [I.fa 26 (.t 3) 4 1,I.ld 27 (.t 26) 1 false,I.len 28 (.t 27) .sl,I.fa 29 (.t 2) 2 1,I.ld 30 (.t 29) 1 false,I.bin 31 .geq (.t 28) (.t 30)] (.t 31)])
 (.ite (.t 32)
 ((.seq (.reg [I.mv 4 (.k (.i .i64 1))])
 (.ret)))
 (.skip))))
 ((.seq ((.seq (.reg [I.mv 7 k0])
 (.blk 0 (.loop [3,7] F_z_116_L0))))
 ((.seq ((.seq (.reg [I.ld 83 (.t 3) 9 true,I.fa 84 (.t 3) 1 1,I.ld 85 (.t 84) 1 false,I.fa 86 (.t 3) 4 1,I.ld 87 (.t 86) 1 false,I.build 88 zR [(0,1,(.k (.i .i64 (-1)))),(1,1,(.t 85)),(4,1,(.t 87))],I.call (some 89) z_17 [(.t 83),(.t 88)],I.un 90 .not (.t 89)])
 (.ite (.t 90)
 ((.seq (.reg [I.mv 4 (.k (.i .i64 1))])
 (.ret)))
 (.skip))))
 ((.seq (.reg [I.mv 4 k0])
 (.ret)))))))))))))
 [.t 4] false none
def F_z_117_L0:C :=
 (.seq ((.seq (.reg [I.mv 54 (.t 7),I.fa 55 (.t 3) 5 1,I.ld 56 (.t 55) 1 false,I.len 57 (.t 56) .sl,I.bin 58 .lss (.t 54) (.t 57)])
 (.ite (.t 58)
 (.skip)
 (.seq (.keep [2,3]) (.exit 0)))))
 ((.seq (.blk 1 ((.seq (.reg [I.fa 61 (.t 3) 5 1,I.ld 62 (.t 61) 1 false,I.mv 63 (.t 7),I.ixs 64 (.t 62) (.t 63) 1,I.ld 65 (.t 64) 1 false,I.call (some 66) z_200 [(.t 65)],I.un 67 .not (.t 66)])
 (.ite (.t 67)
 ((.seq (.reg [I.mv 4 (.k (.i .i64 1))])
 (.seq (.keep [4]) .ret)))
 (.skip)))))
 (.reg [I.mv 59 (.t 7),I.bin 60 .add (.t 59) (.k (.i .i64 1)),I.mv 7 (.t 60)]))))
def F_z_117:F:=.mk
 ((.seq (.reg [I.box 2 (.t 0) 4 true,I.box 3 (.t 1) 9 true,I.mv 4 k0])
 ((.seq ((.seq (.reg [I.ld 9 (.t 2) 4 true,I.call (some 10) z_53 [(.t 9)],I.mv 8 (.t 10),I.ext 11 (.t 8) 0,I.ext 12 (.t 8) 1,I.new 5 zR,I.st (.t 5) (.t 11) 9 true,I.mv 6 (.t 12)])
 ((.seq (.reg [I.mv 13 (.t 6),I.bin 14 .neq (.t 13) k0])
 (.ite (.t 14)
 ((.seq (.reg [I.mv 15 (.t 6),I.mv 4 (.t 15)])
 (.ret)))
 (.skip))))))
 ((.seq ((.seq (.reg [I.fa 16 (.t 3) 0 1,I.ld 17 (.t 16) 1 false,I.bin 18 .neq (.t 17) (.k (.i .i64 (-1))),I.mv 19 (.t 18),.sc true 23 19 [I.fa 20 (.t 3) 1 1,I.ld 21 (.t 20) 1 false,I.bin 22 .neq (.t 21) k0] (.t 22),I.mv 24 (.t 23),.sc true 28 24 [I.fa 25 (.t 3) 2 1,I.ld 26 (.t 25) 1 false,I.bin 27 .neq (.t 26) k0] (.t 27),I.mv 29 (.t 28),.sc true 34 29 [I.fa 30 (.t 3) 3 1,I.ld 31 (.t 30) 1 false,I.len 32 (.t 31) .sl,I.bin 33 .gtr (.t 32) k0] (.t 33),I.mv 35 (.t 34),.sc true 40 35 [I.fa 36 (.t 3) 6 1,I.ld 37 (.t 36) 1 false,I.len 38 (.t 37) .sl,I.bin 39 .gtr (.t 38) k0] (.t 39),I.mv 41 (.t 40),.sc true 45 41 [I.fa 42 (.t 3) 8 1,I.ld 43 (.t 42) 1 false,I.bin 44 .neq (.t 43) k0] (.t 44),I.mv 46 (.t 45),.sc true 53 46 [I.fa 47 (.t 3) 5 1,I.ld 48 (.t 47) 1 false,I.len 49 (.t 48) .sl,I.fa 50 (.t 2) 2 1,I.ld 51 (.t 50) 1 false,I.bin 52 .gtr (.t 49) (.t 51)] (.t 52)])
 (.ite (.t 53)
 ((.seq (.reg [I.mv 4 (.k (.i .i64 1))])
 (.ret)))
 (.skip))))
 ((.seq ((.seq (.reg [I.mv 7 k0])
 (.blk 0 (.loop [2,3,7] F_z_117_L0))))
 ((.seq ((.seq (.reg [I.fa 68 (.t 3) 4 1,I.ld 69 (.t 68) 1 false,I.call (some 70) z_201 [(.t 69)],I.un 71 .not (.t 70),I.mv 72 (.t 71),.sc true 76 72 [I.ld 73 (.t 2) 4 true,I.ld 74 (.t 3) 9 true,I.call (some 75) z_202 [(.t 73),(.t 74)]] (.t 75)])
 (.ite (.t 76)
 ((.seq (.reg [I.mv 4 (.k (.i .i64 1))])
 (.ret)))
 (.skip))))
 ((.seq (.reg [I.mv 4 k0])
 (.ret)))))))))))))
 [.t 4] false none
def F_z_118:F:=.mk
 ((.seq (.reg [I.box 2 (.t 0) 4 true,I.box 3 (.t 1) 9 true,I.mv 4 k0])
 ((.seq ((.seq (.reg [I.ld 8 (.t 2) 4 true,I.call (some 9) z_54 [(.t 8)],I.mv 7 (.t 9),I.ext 10 (.t 7) 0,I.ext 11 (.t 7) 1,I.new 5 zR,I.st (.t 5) (.t 10) 9 true,I.mv 6 (.t 11)])
 ((.seq (.reg [I.mv 12 (.t 6),I.bin 13 .neq (.t 12) k0])
 (.ite (.t 13)
 ((.seq (.reg [I.mv 14 (.t 6),I.mv 4 (.t 14)])
 (.ret)))
 (.skip))))))
 ((.seq ((.seq (.reg [I.fa 15 (.t 3) 0 1,I.ld 16 (.t 15) 1 false,I.bin 17 .neq (.t 16) (.k (.i .i64 (-1))),I.mv 18 (.t 17),.sc true 22 18 [I.fa 19 (.t 3) 1 1,I.ld 20 (.t 19) 1 false,I.bin 21 .neq (.t 20) k0] (.t 21),I.mv 23 (.t 22),.sc true 27 23 [I.fa 24 (.t 3) 2 1,I.ld 25 (.t 24) 1 false,I.bin 26 .neq (.t 25) k0] (.t 26),I.mv 28 (.t 27),.sc true 37 28 [I.fa 29 (.t 3) 3 1,I.ld 30 (.t 29) 1 false,I.len 31 (.t 30) .sl,I.fa 32 (.t 3) 5 1,I.ld 33 (.t 32) 1 false,I.len 34 (.t 33) .sl,I.bin 35 .add (.t 31) (.t 34),I.bin 36 .gtr (.t 35) k0] (.t 36),I.mv 38 (.t 37),.sc true 41 38 [I.fa 39 (.t 3) 7 1,I.ld 40 (.t 39) 1 false] (.t 40),I.mv 42 (.t 41),.sc true 46 42 [I.fa 43 (.t 3) 8 1,I.ld 44 (.t 43) 1 false,I.bin 45 .neq (.t 44) k0] (.t 45),I.mv 47 (.t 46),.sc true 52 47 [I.ld 48 (.t 2) 4 true,I.ld 49 (.t 3) 9 true,I.call (some 50) z_203 [(.t 48),(.t 49)],I.un 51 .not (.t 50)] (.t 51),I.mv 53 (.t 52),.sc true 58 53 [I.ld 54 (.t 2) 4 true,I.ld 55 (.t 3) 9 true,I.call (some 56) z_204 [(.t 54),(.t 55)],I.un 57 .not (.t 56)] (.t 57)])
 (.ite (.t 58)
 ((.seq (.reg [I.mv 4 (.k (.i .i64 1))])
 (.ret)))
 (.skip))))
 ((.seq (.reg [I.mv 4 k0])
 (.ret)))))))))
 [.t 4] false none
def F_z_119_L0:C :=
 (.seq ((.seq (.reg [I.mv 37 (.t 7),I.fa 38 (.t 3) 4 1,I.ld 39 (.t 38) 1 false,I.len 40 (.t 39) .sl,I.bin 41 .lss (.t 37) (.t 40)])
 (.ite (.t 41)
 (.skip)
 (.seq (.keep [3]) (.exit 0)))))
 ((.seq (.blk 1 ((.seq (.reg [I.fa 44 (.t 3) 4 1,I.ld 45 (.t 44) 1 false,I.mv 46 (.t 7),I.ixs 47 (.t 45) (.t 46) 5,I.ld 48 (.t 47) 5 true,I.new 8 zQ,I.st (.t 8) (.t 48) 5 true])
 ((.seq (.drw [] [0,1,2,3,4,5,6,7,8,9,10,11,12,13,14,15,16,17,18,19,20,21,22,23,24,25,26,27,28,29,30,31,32,33,34,35,36,37,38,39,40,41,42,43,44] [I.fad 49 (.t 8) 0 1,I.ldd 50 (.t 49) 1 false,I.call (some 51) z_193 [(.t 50)],I.un 52 .not (.t 51),I.mv 53 (.t 52),.sc true 61 53 [I.fad 54 (.t 3) 4 1,I.ldd 55 (.t 54) 1 false,I.mv 56 (.t 7),I.sl 57 (.t 55) none (some (.t 56)) 5,I.fad 58 (.t 8) 0 1,I.ldd 59 (.t 58) 1 false,I.call (some 60) z_199 [(.t 57),(.t 59)]] (.t 60),I.mv 62 (.t 61),.sc true 66 62 [I.fad 63 (.t 8) 1 1,I.ldd 64 (.t 63) 1 false,I.bin 65 .neq (.t 64) (.k (.i .i64 72))] (.t 65),I.mv 67 (.t 66),.sc true 71 67 [I.fad 68 (.t 8) 2 1,I.ldd 69 (.t 68) 1 false,I.bin 70 .lss (.t 69) (.k (.i .i64 1))] (.t 70),I.mv 72 (.t 71),.sc true 78 72 [I.fad 73 (.t 8) 2 1,I.ldd 74 (.t 73) 1 false,I.fad 75 (.t 2) 2 1,I.ldd 76 (.t 75) 1 false,I.bin 77 .gtr (.t 74) (.t 76)] (.t 77),I.mv 79 (.t 78),.sc true 83 79 [I.fad 80 (.t 8) 3 1,I.ldd 81 (.t 80) 1 false,I.bin 82 .lss (.t 81) k0] (.t 82),I.mv 84 (.t 83),.sc true 88 84 [I.fad 85 (.t 8) 3 1,I.ldd 86 (.t 85) 1 false,I.bin 87 .gtr (.t 86) (.k (.i .i64 9))] (.t 87),I.mv 89 (.t 88),.sc true 93 89 [I.fad 90 (.t 8) 4 1,I.ldd 91 (.t 90) 1 false,I.bin 92 .neq (.t 91) (.k (.i .i64 (-1)))] (.t 92)])
 (.ite (.t 93)
 ((.seq (.reg [I.mv 4 (.k (.i .i64 1))])
 (.seq (.keep [4]) .ret)))
 (.skip)))))))
 (.reg [I.mv 42 (.t 7),I.bin 43 .add (.t 42) (.k (.i .i64 1)),I.mv 7 (.t 43)]))))
def F_z_119:F:=.mk
 ((.seq (.reg [I.box 2 (.t 0) 4 true,I.box 3 (.t 1) 9 true,I.mv 4 k0])
 ((.seq ((.seq (.reg [I.ld 10 (.t 2) 4 true,I.call (some 11) z_55 [(.t 10)],I.mv 9 (.t 11),I.ext 12 (.t 9) 0,I.ext 13 (.t 9) 1,I.new 5 zR,I.st (.t 5) (.t 12) 9 true,I.mv 6 (.t 13)])
 ((.seq (.reg [I.mv 14 (.t 6),I.bin 15 .neq (.t 14) k0])
 (.ite (.t 15)
 ((.seq (.reg [I.mv 16 (.t 6),I.mv 4 (.t 16)])
 (.ret)))
 (.skip))))))
 ((.seq ((.seq (.reg [I.fa 17 (.t 3) 1 1,I.ld 18 (.t 17) 1 false,I.bin 19 .lss (.t 18) k0,I.mv 20 (.t 19),.sc true 26 20 [I.fa 21 (.t 3) 1 1,I.ld 22 (.t 21) 1 false,I.fa 23 (.t 2) 2 1,I.ld 24 (.t 23) 1 false,I.bin 25 .gtr (.t 22) (.t 24)] (.t 25),I.mv 27 (.t 26),.sc true 31 27 [I.fa 28 (.t 3) 2 1,I.ld 29 (.t 28) 1 false,I.bin 30 .lss (.t 29) k0] (.t 30),I.mv 32 (.t 31),.sc true 36 32 [I.fa 33 (.t 3) 2 1,I.ld 34 (.t 33) 1 false,I.bin 35 .gtr (.t 34) (.k (.i .i64 1099511627776))] (.t 35)])
 (.ite (.t 36)
 ((.seq (.reg [I.mv 4 (.k (.i .i64 1))])
 (.ret)))
 (.skip))))
 ((.seq ((.seq (.reg [I.mv 7 k0])
 (.blk 0 (.loop [2,3,7] F_z_119_L0))))
 ((.seq ((.seq (.reg [I.ld 94 (.t 3) 9 true,I.fa 95 (.t 3) 1 1,I.ld 96 (.t 95) 1 false,I.fa 97 (.t 3) 2 1,I.ld 98 (.t 97) 1 false,I.fa 99 (.t 3) 4 1,I.ld 100 (.t 99) 1 false,I.build 101 zR [(0,1,(.k (.i .i64 (-1)))),(1,1,(.t 96)),(2,1,(.t 98)),(4,1,(.t 100))],I.call (some 102) z_17 [(.t 94),(.t 101)],I.un 103 .not (.t 102)])
 (.ite (.t 103)
 ((.seq (.reg [I.mv 4 (.k (.i .i64 1))])
 (.ret)))
 (.skip))))
 ((.seq (.reg [I.mv 4 k0])
 (.ret)))))))))))))
 [.t 4] false none
def F_z_120_L0:C :=
 (.seq ((.seq (.reg [I.mv 110 (.t 8),I.mv 111 (.t 7),I.bin 112 .lss (.t 110) (.t 111)])
 (.ite (.t 112)
 (.skip)
 (.seq (.keep [3,7]) (.exit 2)))))
 ((.seq (.blk 3 ((.seq (.drw [] [0,1,2,3,4,5,6,7,8,9,10,11,12] [I.fad 115 (.t 3) 4 1,I.ldd 116 (.t 115) 1 false,I.mv 117 (.t 8),I.ixs 118 (.t 116) (.t 117) 5,I.fa 119 (.t 118) 0 1,I.ld 120 (.t 119) 1 false,I.fad 121 (.t 3) 4 1,I.ldd 122 (.t 121) 1 false,I.mv 123 (.t 7),I.ixs 124 (.t 122) (.t 123) 5,I.fa 125 (.t 124) 0 1,I.ld 126 (.t 125) 1 false,I.bin 127 .eql (.t 120) (.t 126)])
 (.ite (.t 127)
 ((.seq (.reg [I.mv 4 (.k (.i .i64 1))])
 (.seq (.keep [4]) .ret)))
 (.skip)))))
 (.reg [I.mv 113 (.t 8),I.bin 114 .add (.t 113) (.k (.i .i64 1)),I.mv 8 (.t 114)]))))
def F_z_120_L1:C :=
 (.seq ((.seq (.reg [I.mv 78 (.t 7),I.fa 79 (.t 3) 4 1,I.ld 80 (.t 79) 1 false,I.len 81 (.t 80) .sl,I.bin 82 .lss (.t 78) (.t 81)])
 (.ite (.t 82)
 (.skip)
 (.seq (.keep []) (.exit 0)))))
 ((.seq (.blk 1 ((.seq ((.seq (.reg [I.fa 85 (.t 3) 4 1,I.ld 86 (.t 85) 1 false,I.mv 87 (.t 7),I.ixs 88 (.t 86) (.t 87) 5,I.fa 89 (.t 88) 1 1,I.ld 90 (.t 89) 1 false,I.bin 91 .neq (.t 90) (.k (.i .i64 74)),I.mv 92 (.t 91),.sc true 100 92 [I.fa 93 (.t 3) 4 1,I.ld 94 (.t 93) 1 false,I.mv 95 (.t 7),I.ixs 96 (.t 94) (.t 95) 5,I.fa 97 (.t 96) 2 1,I.ld 98 (.t 97) 1 false,I.bin 99 .neq (.t 98) k0] (.t 99),I.mv 101 (.t 100),.sc true 109 101 [I.fa 102 (.t 3) 4 1,I.ld 103 (.t 102) 1 false,I.mv 104 (.t 7),I.ixs 105 (.t 103) (.t 104) 5,I.fa 106 (.t 105) 4 1,I.ld 107 (.t 106) 1 false,I.bin 108 .neq (.t 107) (.k (.i .i64 (-1)))] (.t 108)])
 (.ite (.t 109)
 ((.seq (.reg [I.mv 4 (.k (.i .i64 1))])
 (.seq (.keep [4]) .ret)))
 (.skip))))
 ((.seq (.reg [I.mv 8 k0])
 (.blk 2 (.loop [3,7,8] F_z_120_L0)))))))
 (.reg [I.mv 83 (.t 7),I.bin 84 .add (.t 83) (.k (.i .i64 1)),I.mv 7 (.t 84)]))))
def F_z_120:F:=.mk
 ((.seq (.reg [I.box 2 (.t 0) 4 true,I.box 3 (.t 1) 9 true,I.mv 4 k0])
 ((.seq ((.seq (.reg [I.ld 10 (.t 2) 4 true,I.call (some 11) z_56 [(.t 10)],I.mv 9 (.t 11),I.ext 12 (.t 9) 0,I.ext 13 (.t 9) 1,I.new 5 zR,I.st (.t 5) (.t 12) 9 true,I.mv 6 (.t 13)])
 ((.seq (.reg [I.mv 14 (.t 6),I.bin 15 .neq (.t 14) k0])
 (.ite (.t 15)
 ((.seq (.reg [I.mv 16 (.t 6),I.mv 4 (.t 16)])
 (.ret)))
 (.skip))))))
 ((.seq ((.seq (.reg [I.fa 17 (.t 3) 0 1,I.ld 18 (.t 17) 1 false,I.bin 19 .neq (.t 18) (.k (.i .i64 (-1))),I.mv 20 (.t 19),.sc true 24 20 [I.fa 21 (.t 3) 1 1,I.ld 22 (.t 21) 1 false,I.bin 23 .neq (.t 22) k0] (.t 23),I.mv 25 (.t 24),.sc true 29 25 [I.fa 26 (.t 3) 2 1,I.ld 27 (.t 26) 1 false,I.bin 28 .neq (.t 27) k0] (.t 28),I.mv 30 (.t 29),.sc true 35 30 [I.fa 31 (.t 3) 3 1,I.ld 32 (.t 31) 1 false,I.len 33 (.t 32) .sl,I.bin 34 .gtr (.t 33) k0] (.t 34),I.mv 36 (.t 35),.sc true 41 36 [I.fa 37 (.t 3) 5 1,I.ld 38 (.t 37) 1 false,I.len 39 (.t 38) .sl,I.bin 40 .gtr (.t 39) k0] (.t 40),I.mv 42 (.t 41),.sc true 47 42 [I.fa 43 (.t 3) 6 1,I.ld 44 (.t 43) 1 false,I.len 45 (.t 44) .sl,I.bin 46 .gtr (.t 45) k0] (.t 46)])
 (.ite (.t 47)
 ((.seq (.reg [I.mv 4 (.k (.i .i64 1))])
 (.ret)))
 (.skip))))
 ((.seq ((.seq (.reg [I.fa 48 (.t 3) 8 1,I.ld 49 (.t 48) 1 false,I.call (some 50) z_205 [(.t 49)],I.un 51 .not (.t 50),I.mv 52 (.t 51),.sc true 61 52 [I.fa 53 (.t 3) 7 1,I.ld 54 (.t 53) 1 false,I.un 55 .not (.t 54),I.mv 56 (.t 55),.sc false 60 56 [I.fa 57 (.t 3) 8 1,I.ld 58 (.t 57) 1 false,I.bin 59 .neq (.t 58) k0] (.t 59)] (.t 60),I.mv 62 (.t 61),.sc true 71 62 [I.fa 63 (.t 3) 7 1,I.ld 64 (.t 63) 1 false,I.mv 65 (.t 64),.sc false 70 65 [I.fa 66 (.t 3) 4 1,I.ld 67 (.t 66) 1 false,I.len 68 (.t 67) .sl,I.bin 69 .gtr (.t 68) k0] (.t 69)] (.t 70),I.mv 72 (.t 71),.sc true 77 72 [I.fa 73 (.t 3) 4 1,I.ld 74 (.t 73) 1 false,I.call (some 75) z_197 [(.k (.i .i64 1)),(.t 74)],I.bin 76 .neq (.t 75) k0] (.t 76)])
 (.ite (.t 77)
 ((.seq (.reg [I.mv 4 (.k (.i .i64 1))])
 (.ret)))
 (.skip))))
 ((.seq ((.seq (.reg [I.mv 7 k0])
 (.blk 0 (.loop [3,7] F_z_120_L1))))
 ((.seq (.reg [I.mv 4 k0])
 (.ret)))))))))))))
 [.t 4] false none
def F_z_121:F:=.mk
 ((.seq (.reg [I.mv 6 (.k (.b false))])
 ((.seq (.reg [I.mv 7 (.t 0),I.mv 8 (.t 1),I.bin 9 .geq (.t 7) (.t 8),I.mv 10 (.t 9),.sc false 14 10 [I.mv 11 (.t 0),I.mv 12 (.t 2),I.bin 13 .leq (.t 11) (.t 12)] (.t 13),I.mv 6 (.t 14)])
 (.ret)))))
 [.t 6] false none
def F_z_122:F:=.mk
 ((.seq (.reg [I.mv 6 (.k (.b false))])
 ((.seq (.reg [I.mv 7 (.t 0),I.mv 8 (.t 1),I.bin 9 .geq (.t 7) (.t 8),I.mv 10 (.t 9),.sc false 14 10 [I.mv 11 (.t 0),I.mv 12 (.t 2),I.bin 13 .leq (.t 11) (.t 12)] (.t 13),I.mv 6 (.t 14)])
 (.ret)))))
 [.t 6] false none
def F_z_123_L0:C :=
 (.seq (.reg [I.bin 9 .lss (.t 8) (.t 7)])
 ((.seq (.ite (.t 9)
 (.skip)
 (.seq (.keep []) (.exit 0)))
 ((.seq (.blk 1 ((.seq (.reg [I.mv 10 (.t 8),I.mv 5 (.t 10)])
 ((.seq (.reg [I.mv 11 (.t 1),I.mv 12 (.t 0),I.mv 13 (.t 5),I.ixs 14 (.t 12) (.t 13) 5,I.ld 15 (.t 14) 5 true,I.callv (some 16) (.t 11) [(.t 15)]])
 (.ite (.t 16)
 ((.seq (.reg [I.mv 17 (.t 5),I.mv 4 (.t 17)])
 (.seq (.keep [4]) .ret)))
 (.skip)))))))
 (.reg [I.bin 18 .add (.t 8) (.k (.i .i64 1)),I.mv 8 (.t 18)]))))))
def F_z_123:F:=.mk
 ((.seq (.reg [I.mv 4 k0])
 ((.seq ((.seq (.reg [I.mv 6 (.t 0),I.len 7 (.t 6) .sl,I.mv 8 k0])
 (.blk 0 (.loop [0,1,7,8] F_z_123_L0))))
 ((.seq (.reg [I.mv 4 (.k (.i .i64 (-1)))])
 (.ret)))))))
 [.t 4] false none
def F_z_124_L0:C :=
 (.seq ((.seq (.reg [I.mv 6 (.t 5),I.mv 7 (.t 0),I.len 8 (.t 7) .sl,I.bin 9 .lss (.t 6) (.t 8)])
 (.ite (.t 9)
 (.skip)
 (.seq (.keep []) (.exit 0)))))
 ((.seq (.blk 1 ((.seq (.reg [I.mv 12 (.t 0),I.mv 13 (.t 5),I.ixs 14 (.t 12) (.t 13) 5,I.fa 15 (.t 14) 1 1,I.ld 16 (.t 15) 1 false,I.bin 17 .eql (.t 16) (.k (.i .i64 70)),I.mv 18 (.t 17),.sc false 26 18 [I.mv 19 (.t 0),I.mv 20 (.t 5),I.ixs 21 (.t 19) (.t 20) 5,I.fa 22 (.t 21) 0 1,I.ld 23 (.t 22) 1 false,I.mv 24 (.t 1),I.bin 25 .eql (.t 23) (.t 24)] (.t 25)])
 (.ite (.t 26)
 ((.seq (.reg [I.mv 4 (.k (.b true))])
 (.seq (.keep [4]) .ret)))
 (.skip)))))
 (.reg [I.mv 10 (.t 5),I.bin 11 .add (.t 10) (.k (.i .i64 1)),I.mv 5 (.t 11)]))))
def F_z_124:F:=.mk
 ((.seq (.reg [I.mv 4 (.k (.b false))])
 ((.seq ((.seq (.reg [I.mv 5 k0])
 (.blk 0 (.loop [0,1,5] F_z_124_L0))))
 ((.seq (.reg [I.mv 4 (.k (.b false))])
 (.ret)))))))
 [.t 4] false none
def F_z_125_L0:C :=
 (.seq (.reg [I.bin 64 .lss (.t 63) (.t 62)])
 ((.seq (.ite (.t 64)
 (.skip)
 (.seq (.keep []) (.exit 0)))
 ((.seq (.blk 1 ((.seq (.reg [I.mv 65 (.t 63),I.ixs 66 (.t 61) (.t 63) 5,I.ld 67 (.t 66) 5 true,I.new 4 zQ,I.mv 3 (.t 65),I.st (.t 4) (.t 67) 5 true])
 ((.seq ((.seq (.reg [I.fa 68 (.t 4) 1 1,I.ld 69 (.t 68) 1 false,I.bin 70 .neq (.t 69) (.k (.i .i64 50)),I.mv 71 (.t 70),.sc true 75 71 [I.fa 72 (.t 4) 2 1,I.ld 73 (.t 72) 1 false,I.bin 74 .neq (.t 73) k0] (.t 74),I.mv 76 (.t 75),.sc true 80 76 [I.fa 77 (.t 4) 4 1,I.ld 78 (.t 77) 1 false,I.bin 79 .neq (.t 78) (.k (.i .i64 (-1)))] (.t 79),I.mv 81 (.t 80),.sc true 87 81 [I.fa 82 (.t 4) 0 1,I.ld 83 (.t 82) 1 false,I.fa 84 (.t 1) 0 1,I.ld 85 (.t 84) 1 false,I.bin 86 .eql (.t 83) (.t 85)] (.t 86)])
 (.ite (.t 87)
 ((.seq (.reg [I.mv 2 (.k (.b false))])
 (.seq (.keep [2]) .ret)))
 (.skip))))
 ((.seq (.reg [I.fa 88 (.t 1) 4 1,I.ld 89 (.t 88) 1 false,I.mv 90 (.t 3),I.sl 91 (.t 89) none (some (.t 90)) 5,I.mkf 92 z_206 [] [(.t 4)],I.call (some 93) z_57 [(.t 91),(.t 92)]])
 (.ite (.t 93)
 ((.seq (.reg [I.mv 2 (.k (.b false))])
 (.seq (.keep [2]) .ret)))
 (.skip)))))))))
 (.reg [I.bin 94 .add (.t 63) (.k (.i .i64 1)),I.mv 63 (.t 94)]))))))
def F_z_125:F:=.mk
 ((.seq (.reg [I.box 1 (.t 0) 9 true,I.mv 2 (.k (.b false))])
 ((.seq ((.seq (.reg [I.fa 5 (.t 1) 0 1,I.ld 6 (.t 5) 1 false,I.bin 7 .neq (.t 6) (.k (.i .i64 (-1))),I.mv 8 (.t 7),.sc false 13 8 [I.fa 9 (.t 1) 0 1,I.ld 10 (.t 9) 1 false,I.call (some 11) z_127 [(.t 10)],I.un 12 .not (.t 11)] (.t 12),I.mv 14 (.t 13),.sc true 24 14 [I.fa 15 (.t 1) 0 1,I.ld 16 (.t 15) 1 false,I.bin 17 .eql (.t 16) (.k (.i .i64 (-1))),I.mv 18 (.t 17),.sc false 23 18 [I.fa 19 (.t 1) 4 1,I.ld 20 (.t 19) 1 false,I.len 21 (.t 20) .sl,I.bin 22 .gtr (.t 21) k0] (.t 22)] (.t 23)])
 (.ite (.t 24)
 ((.seq (.reg [I.mv 2 (.k (.b false))])
 (.ret)))
 (.skip))))
 ((.seq ((.seq (.reg [I.fa 25 (.t 1) 1 1,I.ld 26 (.t 25) 1 false,I.bin 27 .neq (.t 26) k0,I.mv 28 (.t 27),.sc true 32 28 [I.fa 29 (.t 1) 2 1,I.ld 30 (.t 29) 1 false,I.bin 31 .neq (.t 30) k0] (.t 31),I.mv 33 (.t 32),.sc true 37 33 [I.fa 34 (.t 1) 8 1,I.ld 35 (.t 34) 1 false,I.bin 36 .neq (.t 35) k0] (.t 36),I.mv 38 (.t 37),.sc true 41 38 [I.fa 39 (.t 1) 7 1,I.ld 40 (.t 39) 1 false] (.t 40),I.mv 42 (.t 41),.sc true 55 42 [I.fa 43 (.t 1) 3 1,I.ld 44 (.t 43) 1 false,I.len 45 (.t 44) .sl,I.fa 46 (.t 1) 5 1,I.ld 47 (.t 46) 1 false,I.len 48 (.t 47) .sl,I.bin 49 .add (.t 45) (.t 48),I.fa 50 (.t 1) 6 1,I.ld 51 (.t 50) 1 false,I.len 52 (.t 51) .sl,I.bin 53 .add (.t 49) (.t 52),I.bin 54 .gtr (.t 53) k0] (.t 54)])
 (.ite (.t 55)
 ((.seq (.reg [I.mv 2 (.k (.b false))])
 (.ret)))
 (.skip))))
 ((.seq ((.seq (.reg [I.fa 56 (.t 1) 4 1,I.ld 57 (.t 56) 1 false,I.call (some 58) z_142 [(.k (.i .i64 2)),(.t 57)],I.bin 59 .neq (.t 58) k0])
 (.ite (.t 59)
 ((.seq (.reg [I.mv 2 (.k (.b false))])
 (.ret)))
 (.skip))))
 ((.seq ((.seq (.reg [I.fa 60 (.t 1) 4 1,I.ld 61 (.t 60) 1 false,I.len 62 (.t 61) .sl,I.mv 63 k0])
 (.blk 0 (.loop [1,61,62,63] F_z_125_L0))))
 ((.seq (.reg [I.mv 2 (.k (.b true))])
 (.ret)))))))))))))
 [.t 2] false none
def F_z_127:F:=.mk
 ((.seq (.reg [I.mv 2 (.k (.b false))])
 ((.seq (.reg [I.mv 3 (.t 0),I.bin 4 .geq (.t 3) k0,I.mv 5 (.t 4),.sc false 8 5 [I.mv 6 (.t 0),I.bin 7 .lss (.t 6) (.k (.i .i64 16))] (.t 7),I.mv 2 (.t 8)])
 (.ret)))))
 [.t 2] false none
def F_z_128:F:=.mk
 ((.seq (.reg [I.box 2 (.t 0) 9 true,I.box 3 (.t 1) 1 true,I.mv 4 (.k (.b false))])
 ((.seq (.reg [I.fa 5 (.t 2) 4 1,I.ld 6 (.t 5) 1 false,I.mkf 7 z_210 [] [(.t 3)],I.call (some 8) z_57 [(.t 6),(.t 7)],I.mv 4 (.t 8)])
 (.ret)))))
 [.t 4] false none
def F_z_130_L0:C :=
 (.seq (.reg [I.bin 55 .lss (.t 54) (.t 53)])
 ((.seq (.ite (.t 55)
 (.skip)
 (.seq (.keep [1]) (.exit 0)))
 ((.seq (.blk 1 ((.seq (.reg [I.mv 56 (.t 54),I.ixs 57 (.t 52) (.t 54) 1,I.ld 58 (.t 57) 1 false,I.mv 3 (.t 56),I.mv 4 (.t 58)])
 ((.seq (.reg [I.mv 59 (.t 4),I.call (some 60) z_131 [(.t 59)],I.un 61 .not (.t 60),I.mv 62 (.t 61),.sc true 75 62 [I.mv 63 (.t 3),I.bin 64 .gtr (.t 63) k0,I.mv 65 (.t 64),.sc false 74 65 [I.fa 66 (.t 1) 3 1,I.ld 67 (.t 66) 1 false,I.mv 68 (.t 3),I.bin 69 .sub (.t 68) (.k (.i .i64 1)),I.ixs 70 (.t 67) (.t 69) 1,I.ld 71 (.t 70) 1 false,I.mv 72 (.t 4),I.bin 73 .geq (.t 71) (.t 72)] (.t 73)] (.t 74)])
 (.ite (.t 75)
 ((.seq (.reg [I.mv 2 (.k (.b false))])
 (.seq (.keep [2]) .ret)))
 (.skip)))))))
 (.reg [I.bin 76 .add (.t 54) (.k (.i .i64 1)),I.mv 54 (.t 76)]))))))
def F_z_130:F:=.mk
 ((.seq (.reg [I.box 1 (.t 0) 9 true,I.mv 2 (.k (.b false))])
 ((.seq ((.seq (.reg [I.fa 5 (.t 1) 0 1,I.ld 6 (.t 5) 1 false,I.bin 7 .neq (.t 6) (.k (.i .i64 (-1))),I.mv 8 (.t 7),.sc false 19 8 [I.fa 9 (.t 1) 0 1,I.ld 10 (.t 9) 1 false,I.call (some 11) z_131 [(.t 10)],I.un 12 .not (.t 11),I.mv 13 (.t 12),.sc true 18 13 [I.fa 14 (.t 1) 3 1,I.ld 15 (.t 14) 1 false,I.len 16 (.t 15) .sl,I.bin 17 .gtr (.t 16) k0] (.t 17)] (.t 18),I.mv 20 (.t 19),.sc true 24 20 [I.fa 21 (.t 1) 1 1,I.ld 22 (.t 21) 1 false,I.bin 23 .neq (.t 22) k0] (.t 23),I.mv 25 (.t 24),.sc true 29 25 [I.fa 26 (.t 1) 2 1,I.ld 27 (.t 26) 1 false,I.bin 28 .neq (.t 27) k0] (.t 28),I.mv 30 (.t 29),.sc true 35 30 [I.fa 31 (.t 1) 5 1,I.ld 32 (.t 31) 1 false,I.len 33 (.t 32) .sl,I.bin 34 .gtr (.t 33) k0] (.t 34),I.mv 36 (.t 35),.sc true 41 36 [I.fa 37 (.t 1) 6 1,I.ld 38 (.t 37) 1 false,I.len 39 (.t 38) .sl,I.bin 40 .gtr (.t 39) k0] (.t 40),I.mv 42 (.t 41),.sc true 45 42 [I.fa 43 (.t 1) 7 1,I.ld 44 (.t 43) 1 false] (.t 44),I.mv 46 (.t 45),.sc true 50 46 [I.fa 47 (.t 1) 8 1,I.ld 48 (.t 47) 1 false,I.bin 49 .neq (.t 48) k0] (.t 49)])
 (.ite (.t 50)
 ((.seq (.reg [I.mv 2 (.k (.b false))])
 (.ret)))
 (.skip))))
 ((.seq ((.seq (.reg [I.fa 51 (.t 1) 3 1,I.ld 52 (.t 51) 1 false,I.len 53 (.t 52) .sl,I.mv 54 k0])
 (.blk 0 (.loop [1,52,53,54] F_z_130_L0))))
 ((.seq (.reg [I.ld 77 (.t 1) 9 true,I.call (some 78) z_213 [(.t 77)],I.mv 2 (.t 78)])
 (.ret)))))))))
 [.t 2] false none
def F_z_131:F:=.mk
 ((.seq (.reg [I.mv 2 (.k (.b false))])
 ((.seq (.reg [I.mv 3 (.t 0),I.bin 4 .geq (.t 3) k0,I.mv 5 (.t 4),.sc false 8 5 [I.mv 6 (.t 0),I.bin 7 .lss (.t 6) (.k (.i .i64 16))] (.t 7),I.mv 2 (.t 8)])
 (.ret)))))
 [.t 2] false none
def F_z_132_L0:C :=
 (.seq (.reg [I.bin 11 .lss (.t 10) (.t 9)])
 ((.seq (.ite (.t 11)
 (.skip)
 (.seq (.keep []) (.exit 0)))
 ((.seq (.blk 1 ((.seq (.reg [I.mv 12 (.t 10),I.ixs 13 (.t 8) (.t 10) 5,I.ld 14 (.t 13) 5 true,I.new 7 zQ,I.mv 6 (.t 12),I.st (.t 7) (.t 14) 5 true])
 ((.seq (.reg [I.fa 15 (.t 7) 0 1,I.ld 16 (.t 15) 1 false,I.mv 17 (.t 1),I.bin 18 .eql (.t 16) (.t 17)])
 (.ite (.t 18)
 ((.seq (.reg [I.mv 19 (.t 6),I.mv 4 (.t 19),I.mv 5 (.k (.b true))])
 (.seq (.keep [4,5]) .ret)))
 (.skip)))))))
 (.reg [I.bin 20 .add (.t 10) (.k (.i .i64 1)),I.mv 10 (.t 20)]))))))
def F_z_132:F:=.mk
 ((.seq (.reg [I.mv 4 k0,I.mv 5 (.k (.b false))])
 ((.seq ((.seq (.reg [I.mv 8 (.t 0),I.len 9 (.t 8) .sl,I.mv 10 k0])
 (.blk 0 (.loop [1,8,9,10] F_z_132_L0))))
 ((.seq (.reg [I.mv 4 k0,I.mv 5 (.k (.b false))])
 (.ret)))))))
 [.t 4,.t 5] false none
def F_z_133:F:=.mk
 ((.seq (.reg [I.box 1 (.t 0) 9 false,I.mv 2 (.k .nil)])
 ((.seq (.drw [] [0,1,3,4,2,6,5,7,8,9] [I.fa 3 (.t 1) 3 1,I.ld 4 (.t 3) 1 false,I.fa 6 (.t 1) 4 1,I.ld 7 (.t 6) 1 false,I.callk (some 5) z_214 [(.t 4)],.re (.fa 6 (.t 1) 4 1),.re (.ld 7 (.t 6) 1 false),I.fa 9 (.t 1) 3 1,I.callk (some 8) z_153 [(.t 7)],.re (.fa 9 (.t 1) 3 1),I.st (.t 9) (.t 5) 1 false,I.fa 10 (.t 1) 4 1,I.st (.t 10) (.t 8) 1 false])
 ((.seq (.reg [I.ld 11 (.t 1) 9 true,I.build 12 [(.i .i64 0),(.i .i64 0),(.i .i64 0),(.sl 1 true []),(.sl 5 true []),(.sl 1 true []),(.sl 2 true []),(.b false),(.i .i64 0),(.sl 5 true [])] [(0,9,(.t 11))],I.box 13 (.t 12) 10 false,I.mv 2 (.t 13)])
 (.ret)))))))
 [.t 2] true none
def F_z_134:F:=.mk
 ((.seq (.reg [I.box 2 (.t 0) 9 true,I.mv 4 k0])
 ((.seq (.blk 0 ((.seq (.reg [I.mv 6 (.t 1),I.bin 7 .geq (.t 6) k0,I.mv 8 (.t 7),.sc false 13 8 [I.mv 9 (.t 1),I.fa 10 (.t 2) 0 1,I.ld 11 (.t 10) 1 false,I.bin 12 .eql (.t 9) (.t 11)] (.t 12),I.mv 5 (.t 13)])
 (.ite (.t 5)
 ((.seq (.reg [I.mv 4 (.k (.i .i64 2))])
 (.ret)))
 ((.seq (.reg [I.fa 15 (.t 2) 3 1,I.ld 16 (.t 15) 1 false,I.mv 17 (.t 1),I.call (some 18) z_215 [(.t 16),(.t 17)],I.mv 14 (.t 18)])
 (.ite (.t 14)
 ((.seq (.reg [I.mv 4 (.k (.i .i64 1))])
 (.ret)))
 (.skip))))))))
 ((.seq (.reg [I.mv 4 k0])
 (.ret)))))))
 [.t 4] false none
def F_z_135:F:=.mk
 ((.seq (.reg [I.mv 2 (.k (.b false))])
 ((.seq (.reg [I.mv 3 (.t 0),I.callr (some 4) z_136 [(.t 3)],I.un 5 .not (.t 4),I.mv 6 (.t 5),.sc false 14 6 [I.mv 7 (.t 0),I.nck 8 (.t 7),I.fa 9 (.t 8) 0 9,I.fa 10 (.t 9) 3 1,I.ld 11 (.t 10) 1 false,I.len 12 (.t 11) .sl,I.bin 13 .eql (.t 12) k0] (.t 13),I.mv 2 (.t 14)])
 (.ret)))))
 [.t 2] true none
def F_z_136:F:=.mk
 ((.seq (.reg [I.mv 2 (.k (.b false))])
 ((.seq (.reg [I.mv 3 (.t 0),I.nck 4 (.t 3),I.fa 5 (.t 4) 0 9,I.fa 6 (.t 5) 0 1,I.ld 7 (.t 6) 1 false,I.bin 8 .neq (.t 7) (.k (.i .i64 (-1))),I.mv 2 (.t 8)])
 (.ret)))))
 [.t 2] true none
def F_z_140_L0:C :=
 (.seq ((.seq (.reg [I.mv 3 (.t 0),I.nck 4 (.t 3),I.fa 5 (.t 4) 0 9,I.fa 6 (.t 5) 4 1,I.ld 7 (.t 6) 1 false,I.len 8 (.t 7) .sl,I.bin 9 .gtr (.t 8) k0])
 (.ite (.t 9)
 (.skip)
 (.seq (.keep []) (.exit 0)))))
 (.blk 1 ((.seq (.reg [I.mv 10 (.t 0),I.nck 11 (.t 10),I.fa 12 (.t 11) 0 9,I.fa 13 (.t 12) 4 1,I.ld 14 (.t 13) 1 false,I.ixs 15 (.t 14) k0 5,I.ld 16 (.t 15) 5 true,I.new 2 zQ,I.st (.t 2) (.t 16) 5 true])
 ((.seq (.blk 2 ((.seq ((.seq (.reg [I.mv 18 (.t 0),I.callr (some 19) z_136 [(.t 18)],I.mv 17 (.t 19)])
 (.ite (.t 17)
 (.skip)
 (.reg [I.fa 20 (.t 2) 1 1,I.ld 21 (.t 20) 1 false,I.bin 22 .eql (.t 21) (.k (.i .i64 55)),I.mv 23 (.t 22),.sc false 27 23 [I.mv 24 (.t 0),I.callr (some 25) z_135 [(.t 24)],I.un 26 .not (.t 25)] (.t 26),I.mv 17 (.t 27)]))))
 (.ite (.t 17)
 (.seq (.keep []) (.exit 0))
 (.skip)))))
 ((.seq (.reg [I.mv 28 (.t 0),I.mv 29 (.t 0),I.nck 30 (.t 29),I.fa 31 (.t 30) 0 9,I.fa 32 (.t 31) 4 1,I.ld 33 (.t 32) 1 false,I.sl 34 (.t 33) (some (.k (.i .i64 1))) none 5,I.nck 35 (.t 28),I.fa 36 (.t 35) 0 9,I.fa 37 (.t 36) 4 1,I.st (.t 37) (.t 34) 1 false])
 ((.seq (.reg [I.mv 38 (.t 0),I.fa 39 (.t 2) 0 1,I.ld 40 (.t 39) 1 false,I.fa 41 (.t 2) 1 1,I.ld 42 (.t 41) 1 false,I.callr (some 43) z_216 [(.t 38),(.t 40),(.t 42)]])
 (.drw [] [0,1,2,3,4,5,6,7,8,9,10,11,12,13,14] [I.mv 44 (.t 0),I.mv 45 (.t 0),I.nck 46 (.t 45),I.fa 47 (.t 46) 9 1,I.ld 48 (.t 47) 1 false,I.fad 49 (.t 2) 0 1,I.ldd 50 (.t 49) 1 false,I.fad 51 (.t 2) 1 1,I.ldd 52 (.t 51) 1 false,I.build 53 [(.i .i64 0),(.i .i64 0),(.i .i64 0),(.b false),(.i .i64 0)] [(0,1,(.t 50)),(1,1,(.t 52)),(3,1,(.k (.b true))),(4,1,(.k (.i .i64 (-1))))],I.buildSl 54 5 1 [(.i .i64 0),(.i .i64 0),(.i .i64 0),(.b false),(.i .i64 0)] [(0,(.t 53))] true,I.app 55 (.t 48) (.t 54) 5,I.nck 56 (.t 44),I.fa 57 (.t 56) 9 1,I.st (.t 57) (.t 55) 1 false])))))))))))
def F_z_140:F:=.mk
 ((.seq .skip ((.seq (.skip)
 (.blk 0 (.loop [0] F_z_140_L0))))))
 [] true none
def F_z_142_L0:C :=
 (.seq (.reg [I.bin 19 .lss (.t 18) (.t 17)])
 ((.seq (.ite (.t 19)
 (.skip)
 (.seq (.keep []) (.exit 0)))
 ((.seq (.blk 1 ((.seq (.reg [I.mv 20 (.t 18),I.ixs 21 (.t 16) (.t 18) 5,I.ld 22 (.t 21) 5 true,I.new 6 zQ,I.mv 5 (.t 20),I.st (.t 6) (.t 22) 5 true])
 ((.seq ((.seq (.reg [I.ld 23 (.t 6) 5 true,I.call (some 24) z_218 [(.t 23)],I.un 25 .not (.t 24)])
 (.ite (.t 25)
 ((.seq (.reg [I.mv 4 (.k (.i .i64 2))])
 (.seq (.keep [4]) .ret)))
 (.skip))))
 ((.seq (.drw [] [0,1,2,3,4,5,6,7,8,9,10,11,12,13,14,15,16] [I.mv 26 (.t 0),I.bin 27 .eql (.t 26) (.k (.i .i64 2)),I.mv 28 (.t 27),.sc false 31 28 [I.mv 29 (.t 5),I.bin 30 .gtr (.t 29) k0] (.t 30),I.mv 32 (.t 31),.sc false 42 32 [I.fad 33 (.t 6) 3 1,I.ldd 34 (.t 33) 1 false,I.mv 35 (.t 1),I.mv 36 (.t 5),I.bin 37 .sub (.t 36) (.k (.i .i64 1)),I.ixs 38 (.t 35) (.t 37) 5,I.fa 39 (.t 38) 3 1,I.ld 40 (.t 39) 1 false,I.bin 41 .gtr (.t 34) (.t 40)] (.t 41)])
 (.ite (.t 42)
 ((.seq (.reg [I.mv 4 (.k (.i .i64 9))])
 (.seq (.keep [4]) .ret)))
 (.skip)))))))))
 (.reg [I.bin 43 .add (.t 18) (.k (.i .i64 1)),I.mv 18 (.t 43)]))))))
def F_z_142:F:=.mk
 ((.seq (.reg [I.mv 4 k0])
 ((.seq ((.seq (.reg [I.mv 7 (.t 0),I.bin 8 .neq (.t 7) (.k (.i .i64 1)),I.mv 9 (.t 8),.sc false 12 9 [I.mv 10 (.t 0),I.bin 11 .neq (.t 10) (.k (.i .i64 2))] (.t 11)])
 (.ite (.t 12)
 ((.seq (.reg [I.mv 4 (.k (.i .i64 8))])
 (.ret)))
 (.skip))))
 ((.seq ((.seq (.reg [I.mv 13 (.t 1),I.len 14 (.t 13) .sl,I.bin 15 .gtr (.t 14) (.k (.i .i64 96))])
 (.ite (.t 15)
 ((.seq (.reg [I.mv 4 (.k (.i .i64 4))])
 (.ret)))
 (.skip))))
 ((.seq ((.seq (.reg [I.mv 16 (.t 1),I.len 17 (.t 16) .sl,I.mv 18 k0])
 (.blk 0 (.loop [0,1,16,17,18] F_z_142_L0))))
 ((.seq (.reg [I.mv 4 k0])
 (.ret)))))))))))
 [.t 4] false none
def F_z_143:F:=.mk
 ((.seq (.reg [I.box 3 (.t 0) 4 true,I.box 4 (.t 1) 9 true,I.mv 6 (.k (.b false))])
 ((.seq (.reg [I.fa 10 (.t 4) 4 1,I.ld 11 (.t 10) 1 false,I.mv 12 (.t 2),I.ixs 13 (.t 11) (.t 12) 5,I.ld 14 (.t 13) 5 true,I.new 7 zQ,I.st (.t 7) (.t 14) 5 true])
 ((.seq ((.seq (.reg [I.fa 15 (.t 7) 1 1,I.ld 16 (.t 15) 1 false,I.bin 17 .neq (.t 16) (.k (.i .i64 60)),I.mv 18 (.t 17),.sc true 22 18 [I.fa 19 (.t 7) 2 1,I.ld 20 (.t 19) 1 false,I.bin 21 .lss (.t 20) (.k (.i .i64 1))] (.t 21),I.mv 23 (.t 22),.sc true 29 23 [I.fa 24 (.t 7) 2 1,I.ld 25 (.t 24) 1 false,I.fa 26 (.t 3) 2 1,I.ld 27 (.t 26) 1 false,I.bin 28 .gtr (.t 25) (.t 27)] (.t 28),I.mv 30 (.t 29),.sc true 34 30 [I.fa 31 (.t 7) 4 1,I.ld 32 (.t 31) 1 false,I.bin 33 .neq (.t 32) (.k (.i .i64 (-1)))] (.t 33)])
 (.ite (.t 34)
 ((.seq (.reg [I.mv 6 (.k (.b false))])
 (.ret)))
 (.skip))))
 ((.seq ((.seq (.reg [I.fa 36 (.t 4) 4 1,I.ld 37 (.t 36) 1 false,I.fa 38 (.t 7) 0 1,I.ld 39 (.t 38) 1 false,I.call (some 40) z_132 [(.t 37),(.t 39)],I.mv 35 (.t 40),I.ext 41 (.t 35) 0,I.ext 42 (.t 35) 1,I.mv 8 (.t 41),I.mv 9 (.t 42)])
 ((.seq (.reg [I.mv 43 (.t 8),I.mv 44 (.t 2),I.bin 45 .neq (.t 43) (.t 44)])
 (.ite (.t 45)
 ((.seq (.reg [I.mv 6 (.k (.b false))])
 (.ret)))
 (.skip))))))
 ((.seq (.reg [I.mv 46 (.t 2),I.bin 47 .gtr (.t 46) k0,I.mv 48 (.t 47),.sc false 52 48 [I.fa 49 (.t 3) 3 1,I.ld 50 (.t 49) 1 false,I.bin 51 .eql (.t 50) k0] (.t 51),I.mv 53 (.t 52),.sc true 59 53 [I.fa 54 (.t 7) 2 1,I.ld 55 (.t 54) 1 false,I.fa 56 (.t 4) 1 1,I.ld 57 (.t 56) 1 false,I.bin 58 .gtr (.t 55) (.t 57)] (.t 58),I.mv 6 (.t 59)])
 (.ret)))))))))))
 [.t 6] false none
def F_z_151_L0:C :=
 (.seq (.reg [I.bin 12 .lss (.t 11) (.t 10)])
 ((.seq (.ite (.t 12)
 (.skip)
 (.seq (.keep [4]) (.exit 0)))
 ((.seq (.blk 1 ((.seq (.reg [I.mv 13 (.t 11),I.ixs 14 (.t 9) (.t 11) 5,I.ld 15 (.t 14) 5 true,I.new 6 zQ,I.mv 5 (.t 13),I.st (.t 6) (.t 15) 5 true])
 ((.seq ((.seq (.reg [I.fa 16 (.t 6) 0 1,I.ld 17 (.t 16) 1 false,I.bin 18 .geq (.t 17) k0,I.mv 19 (.t 18),.sc false 23 19 [I.fa 20 (.t 6) 0 1,I.ld 21 (.t 20) 1 false,I.bin 22 .lss (.t 21) (.k (.i .i64 16))] (.t 22)])
 (.ite (.t 23)
 ((.seq ((.seq (.reg [I.fa 24 (.t 6) 0 1,I.ld 25 (.t 24) 1 false,I.ixa 26 (.t 3) (.t 25) 16 1,I.ld 27 (.t 26) 1 false])
 (.ite (.t 27)
 (.seq (.keep [0,3,4,9,10,11]) (.exit 1))
 (.skip))))
 (.reg [I.fa 28 (.t 6) 0 1,I.ld 29 (.t 28) 1 false,I.ixa 30 (.t 3) (.t 29) 16 1,I.st (.t 30) (.k (.b true)) 1 false])))
 ((.seq (.reg [I.mv 32 (.t 0),I.fa 33 (.t 6) 0 1,I.ld 34 (.t 33) 1 false,I.call (some 35) z_132 [(.t 32),(.t 34)],I.mv 31 (.t 35),I.ext 36 (.t 31) 0,I.ext 37 (.t 31) 1,I.mv 7 (.t 36),I.mv 8 (.t 37)])
 ((.seq (.reg [I.mv 38 (.t 7),I.mv 39 (.t 5),I.bin 40 .lss (.t 38) (.t 39)])
 (.ite (.t 40)
 (.seq (.keep [0,3,4,9,10,11]) (.exit 1))
 (.skip)))))))))
 (.reg [I.mv 41 (.t 4),I.fa 42 (.t 6) 0 1,I.ld 43 (.t 42) 1 false,I.buildSl 44 1 1 [(.i .i64 0)] [(0,(.t 43))] true,I.app 45 (.t 41) (.t 44) 1,I.mv 4 (.t 45)]))))))
 (.reg [I.bin 46 .add (.t 11) (.k (.i .i64 1)),I.mv 11 (.t 46)]))))))
def F_z_151:F:=.mk
 ((.seq (.reg [I.mv 2 (.k (.sl 1 true []))])
 ((.seq (.reg [I.new 3 [(.b false),(.b false),(.b false),(.b false),(.b false),(.b false),(.b false),(.b false),(.b false),(.b false),(.b false),(.b false),(.b false),(.b false),(.b false),(.b false)]])
 ((.seq (.reg [I.mv 4 (.k (.sl 1 true []))])
 ((.seq ((.seq (.reg [I.mv 9 (.t 0),I.len 10 (.t 9) .sl,I.mv 11 k0])
 (.blk 0 (.loop [0,3,4,9,10,11] F_z_151_L0))))
 ((.seq (.reg [I.mv 47 (.t 4),I.mv 2 (.t 47)])
 (.ret)))))))))))
 [.t 2] false none
def F_z_153:F:=.mk
 ((.seq (.reg [I.mv 2 (.k (.sl 5 true []))])
 ((.seq ((.seq (.reg [I.mv 3 (.t 0),I.isnil 4 false (.t 3) .sl])
 (.ite (.t 4)
 ((.seq (.reg [I.mv 2 (.k (.sl 5 true []))])
 (.ret)))
 (.skip))))
 ((.seq (.reg [I.buildSl 5 5 0 zQ [] false,I.mv 6 (.t 0),I.app 7 (.t 5) (.t 6) 5,I.mv 2 (.t 7)])
 (.ret)))))))
 [.t 2] true none
def F_z_156_L0:C :=
 (.seq (.reg [I.bin 55 .lss (.t 54) (.t 53)])
 ((.seq (.ite (.t 55)
 (.skip)
 (.seq (.keep [2,3]) (.exit 0)))
 ((.seq (.blk 1 ((.seq (.reg [I.mv 56 (.t 54),I.mv 5 (.t 56)])
 ((.seq (.reg [I.fa 57 (.t 3) 4 1,I.ld 58 (.t 57) 1 false,I.mv 59 (.t 5),I.call (some 60) z_227 [(.t 58),(.t 59)],I.un 61 .not (.t 60)])
 (.ite (.t 61)
 ((.seq (.reg [I.mv 4 (.k (.b false))])
 (.seq (.keep [4]) .ret)))
 (.skip)))))))
 (.reg [I.bin 62 .add (.t 54) (.k (.i .i64 1)),I.mv 54 (.t 62)]))))))
def F_z_156:F:=.mk
 ((.seq (.reg [I.box 2 (.t 0) 4 true,I.box 3 (.t 1) 9 true,I.mv 4 (.k (.b false))])
 ((.seq ((.seq (.reg [I.fa 6 (.t 3) 0 1,I.ld 7 (.t 6) 1 false,I.bin 8 .neq (.t 7) (.k (.i .i64 (-1))),I.mv 9 (.t 8),.sc true 13 9 [I.fa 10 (.t 3) 1 1,I.ld 11 (.t 10) 1 false,I.bin 12 .neq (.t 11) k0] (.t 12),I.mv 14 (.t 13),.sc true 18 14 [I.fa 15 (.t 3) 2 1,I.ld 16 (.t 15) 1 false,I.bin 17 .neq (.t 16) k0] (.t 17),I.mv 19 (.t 18),.sc true 23 19 [I.fa 20 (.t 3) 8 1,I.ld 21 (.t 20) 1 false,I.bin 22 .neq (.t 21) k0] (.t 22),I.mv 24 (.t 23),.sc true 33 24 [I.fa 25 (.t 3) 3 1,I.ld 26 (.t 25) 1 false,I.len 27 (.t 26) .sl,I.fa 28 (.t 3) 6 1,I.ld 29 (.t 28) 1 false,I.len 30 (.t 29) .sl,I.bin 31 .add (.t 27) (.t 30),I.bin 32 .gtr (.t 31) k0] (.t 32),I.mv 34 (.t 33),.sc true 41 34 [I.fa 35 (.t 3) 5 1,I.ld 36 (.t 35) 1 false,I.len 37 (.t 36) .sl,I.fa 38 (.t 2) 2 1,I.ld 39 (.t 38) 1 false,I.bin 40 .gtr (.t 37) (.t 39)] (.t 40)])
 (.ite (.t 41)
 ((.seq (.reg [I.mv 4 (.k (.b false))])
 (.ret)))
 (.skip))))
 ((.seq ((.seq (.reg [I.fa 42 (.t 3) 5 1,I.ld 43 (.t 42) 1 false,I.call (some 44) z_225 [(.t 43),(.k (.fn z_226 [] []))],I.mv 45 (.t 44),.sc true 50 45 [I.fa 46 (.t 3) 4 1,I.ld 47 (.t 46) 1 false,I.call (some 48) z_142 [(.k (.i .i64 1)),(.t 47)],I.bin 49 .neq (.t 48) k0] (.t 49)])
 (.ite (.t 50)
 ((.seq (.reg [I.mv 4 (.k (.b false))])
 (.ret)))
 (.skip))))
 ((.seq ((.seq (.reg [I.fa 51 (.t 3) 4 1,I.ld 52 (.t 51) 1 false,I.len 53 (.t 52) .sl,I.mv 54 k0])
 (.blk 0 (.loop [2,3,53,54] F_z_156_L0))))
 ((.seq (.reg [I.fa 63 (.t 3) 7 1,I.ld 64 (.t 63) 1 false,I.un 65 .not (.t 64),I.mv 66 (.t 65),.sc true 71 66 [I.fa 67 (.t 3) 4 1,I.ld 68 (.t 67) 1 false,I.len 69 (.t 68) .sl,I.bin 70 .eql (.t 69) k0] (.t 70),I.mv 72 (.t 71),.sc false 77 72 [I.ld 73 (.t 2) 4 true,I.ld 74 (.t 3) 9 true,I.call (some 75) z_228 [(.t 73),(.t 74)],I.un 76 .not (.t 75)] (.t 76),I.mv 4 (.t 77)])
 (.ret)))))))))))
 [.t 4] false none
def F_z_160:F:=.mk
 ((.seq (.reg [I.mv 2 (.k (.b false))])
 ((.seq (.reg [I.mv 3 (.t 0),I.bin 4 .geq (.t 3) (.k (.i .i64 (-1099511627776))),I.mv 5 (.t 4),.sc false 8 5 [I.mv 6 (.t 0),I.bin 7 .leq (.t 6) (.k (.i .i64 1099511627776))] (.t 7),I.mv 2 (.t 8)])
 (.ret)))))
 [.t 2] false none
def F_z_162_L0:C :=
 (.seq (.reg [I.bin 50 .lss (.t 49) (.t 48)])
 ((.seq (.ite (.t 50)
 (.skip)
 (.seq (.keep [0,1,9,10,11]) (.exit 2)))
 ((.seq (.blk 3 ((.seq (.reg [I.ixs 51 (.t 47) (.t 49) 1,I.ld 52 (.t 51) 1 false,I.mv 8 (.t 52)])
 ((.seq (.reg [I.mv 53 (.t 8),I.call (some 54) z_235 [(.t 53)],I.un 55 .not (.t 54)])
 (.ite (.t 55)
 ((.seq (.reg [I.mv 4 (.k (.b false))])
 (.seq (.keep [4]) .ret)))
 (.skip)))))))
 (.reg [I.bin 56 .add (.t 49) (.k (.i .i64 1)),I.mv 49 (.t 56)]))))))
def F_z_162_L1:C :=
 (.seq (.reg [I.bin 12 .lss (.t 11) (.t 10)])
 ((.seq (.ite (.t 12)
 (.skip)
 (.seq (.keep []) (.exit 0)))
 ((.seq (.blk 1 ((.seq (.reg [I.mv 13 (.t 11),I.ixs 14 (.t 9) (.t 11) 2,I.ld 15 (.t 14) 2 true,I.new 6 [(.i .i64 0),(.sl 1 true [])],I.mv 5 (.t 13),I.st (.t 6) (.t 15) 2 true])
 ((.seq ((.seq (.drw [] [0,1,2,3,4,5,6,7,8,9,10,11,12,13,14,15,16,17,18,19,20,21,22,23,24,25,26,27,28,29] [I.fad 16 (.t 6) 0 1,I.ldd 17 (.t 16) 1 false,I.bin 18 .lss (.t 17) k0,I.mv 19 (.t 18),.sc true 23 19 [I.fad 20 (.t 6) 0 1,I.ldd 21 (.t 20) 1 false,I.bin 22 .geq (.t 21) (.k (.i .i64 16))] (.t 22),I.mv 24 (.t 23),.sc true 38 24 [I.mv 25 (.t 5),I.bin 26 .gtr (.t 25) k0,I.mv 27 (.t 26),.sc false 37 27 [I.mv 28 (.t 1),I.mv 29 (.t 5),I.bin 30 .sub (.t 29) (.k (.i .i64 1)),I.ixs 31 (.t 28) (.t 30) 2,I.fa 32 (.t 31) 0 1,I.ld 33 (.t 32) 1 false,I.fad 34 (.t 6) 0 1,I.ldd 35 (.t 34) 1 false,I.bin 36 .geq (.t 33) (.t 35)] (.t 36)] (.t 37),I.mv 39 (.t 38),.sc true 45 39 [I.fad 40 (.t 6) 1 1,I.ldd 41 (.t 40) 1 false,I.len 42 (.t 41) .sl,I.mv 43 (.t 0),I.bin 44 .gtr (.t 42) (.t 43)] (.t 44)])
 (.ite (.t 45)
 ((.seq (.reg [I.mv 4 (.k (.b false))])
 (.seq (.keep [4]) .ret)))
 (.skip))))
 ((.seq (.reg [I.fa 46 (.t 6) 1 1,I.ld 47 (.t 46) 1 false,I.len 48 (.t 47) .sl,I.mv 49 k0])
 (.blk 2 (.loop [0,1,9,10,11,47,48,49] F_z_162_L0)))))))))
 (.reg [I.bin 57 .add (.t 11) (.k (.i .i64 1)),I.mv 11 (.t 57)]))))))
def F_z_162:F:=.mk
 ((.seq (.reg [I.mv 4 (.k (.b false))])
 ((.seq ((.seq (.reg [I.mv 9 (.t 1),I.len 10 (.t 9) .sl,I.mv 11 k0])
 (.blk 0 (.loop [0,1,9,10,11] F_z_162_L1))))
 ((.seq (.reg [I.mv 4 (.k (.b true))])
 (.ret)))))))
 [.t 4] false none
def F_z_163_L0:C :=
 (.seq (.reg [I.bin 18 .lss (.t 17) (.t 16)])
 ((.seq (.ite (.t 18)
 (.skip)
 (.seq (.keep []) (.exit 0)))
 ((.seq (.blk 1 ((.seq (.reg [I.mv 19 (.t 17),I.ixs 20 (.t 15) (.t 17) 5,I.ld 21 (.t 20) 5 true,I.new 6 zQ,I.mv 5 (.t 19),I.st (.t 6) (.t 21) 5 true])
 ((.seq ((.seq (.reg [I.fa 23 (.t 3) 4 1,I.ld 24 (.t 23) 1 false,I.fa 25 (.t 6) 0 1,I.ld 26 (.t 25) 1 false,I.call (some 27) z_132 [(.t 24),(.t 26)],I.mv 22 (.t 27),I.ext 28 (.t 22) 0,I.ext 29 (.t 22) 1,I.mv 7 (.t 28),I.mv 8 (.t 29)])
 ((.seq (.reg [I.mv 30 (.t 7),I.mv 31 (.t 5),I.bin 32 .neq (.t 30) (.t 31),I.mv 33 (.t 32),.sc true 37 33 [I.fa 34 (.t 6) 4 1,I.ld 35 (.t 34) 1 false,I.bin 36 .neq (.t 35) (.k (.i .i64 (-1)))] (.t 36)])
 (.ite (.t 37)
 ((.seq (.reg [I.mv 4 (.k (.b false))])
 (.seq (.keep [4]) .ret)))
 (.skip))))))
 ((.seq (.reg [I.fa 38 (.t 6) 1 1,I.ld 39 (.t 38) 1 false])
 (.blk 2 ((.seq (.reg [I.bin 41 .eql (.t 39) (.k (.i .i64 70)),I.mv 40 (.t 41)])
 (.ite (.t 40)
 ((.seq (.reg [I.ld 42 (.t 3) 9 true,I.fa 43 (.t 6) 0 1,I.ld 44 (.t 43) 1 false,I.call (some 45) z_169 [(.t 42),(.t 44)],I.mv 9 (.t 45)])
 ((.seq (.reg [I.mv 46 (.t 9),I.bin 47 .lss (.t 46) k0,I.mv 48 (.t 47),.sc true 57 48 [I.fa 49 (.t 3) 6 1,I.ld 50 (.t 49) 1 false,I.mv 51 (.t 9),I.ixs 52 (.t 50) (.t 51) 2,I.fa 53 (.t 52) 1 1,I.ld 54 (.t 53) 1 false,I.len 55 (.t 54) .sl,I.bin 56 .gtr (.t 55) k0] (.t 56),I.mv 58 (.t 57),.sc true 62 58 [I.fa 59 (.t 6) 2 1,I.ld 60 (.t 59) 1 false,I.bin 61 .neq (.t 60) k0] (.t 61)])
 (.ite (.t 62)
 ((.seq (.reg [I.mv 4 (.k (.b false))])
 (.seq (.keep [4]) .ret)))
 (.skip))))))
 ((.seq (.reg [I.bin 64 .eql (.t 39) (.k (.i .i64 68)),I.mv 63 (.t 64)])
 (.ite (.t 63)
 ((.seq (.reg [I.mv 65 (.t 0),I.ld 66 (.t 3) 9 true,I.call (some 67) z_174 [(.t 65),(.t 66)],I.un 68 .not (.t 67)])
 (.ite (.t 68)
 ((.seq (.reg [I.mv 4 (.k (.b false))])
 (.seq (.keep [4]) .ret)))
 (.skip))))
 ((.seq (.reg [I.mv 4 (.k (.b false))])
 (.seq (.keep [4]) .ret)))))))))))))))))
 (.reg [I.bin 69 .add (.t 17) (.k (.i .i64 1)),I.mv 17 (.t 69)]))))))
def F_z_163:F:=.mk
 ((.seq (.reg [I.box 3 (.t 1) 9 true,I.mv 4 (.k (.b false))])
 ((.seq ((.seq (.reg [I.fa 10 (.t 3) 4 1,I.ld 11 (.t 10) 1 false,I.call (some 12) z_142 [(.k (.i .i64 1)),(.t 11)],I.bin 13 .neq (.t 12) k0])
 (.ite (.t 13)
 ((.seq (.reg [I.mv 4 (.k (.b false))])
 (.ret)))
 (.skip))))
 ((.seq ((.seq (.reg [I.fa 14 (.t 3) 4 1,I.ld 15 (.t 14) 1 false,I.len 16 (.t 15) .sl,I.mv 17 k0])
 (.blk 0 (.loop [0,3,15,16,17] F_z_163_L0))))
 ((.seq (.reg [I.mv 4 (.k (.b true))])
 (.ret)))))))))
 [.t 4] false none
def F_z_169:F:=.mk
 ((.seq (.reg [I.box 2 (.t 0) 9 true,I.box 3 (.t 1) 1 true,I.mv 4 k0])
 ((.seq (.reg [I.fa 5 (.t 2) 6 1,I.ld 6 (.t 5) 1 false,I.mkf 7 z_238 [] [(.t 3)],I.call (some 8) z_102 [(.t 6),(.t 7)],I.mv 4 (.t 8)])
 (.ret)))))
 [.t 4] false none
def F_z_170:F:=.mk
 ((.seq (.reg [I.mv 6 (.k (.sl 2 true []))])
 ((.seq (.reg [I.mv 8 (.t 0),I.mv 9 (.t 1),I.mv 10 (.t 2),I.mv 11 (.t 0),I.len 12 (.t 11) .sl,I.sl3 13 (.t 8) (.t 9) (.t 10) (.t 12) 2])
 ((.seq ((.seq (.reg [I.mv 14 (.t 1),I.mv 15 (.t 2),I.bin 16 .eql (.t 14) (.t 15)])
 (.ite (.t 16)
 ((.seq (.reg [I.mv 17 (.t 0),I.mv 6 (.t 17)])
 (.ret)))
 (.skip))))
 ((.seq (.reg [I.mv 18 (.t 0),I.len 19 (.t 18) .sl,I.mv 7 (.t 19)])
 ((.seq (.drw [] [0,1,2,3,4,5,6,7] [I.mv 20 (.t 0),I.mv 21 (.t 1),I.sl 22 (.t 20) none (some (.t 21)) 2,I.mv 23 (.t 0),I.mv 24 (.t 2),I.sl 25 (.t 23) (some (.t 24)) none 2,I.app 26 (.t 22) (.t 25) 2,I.mv 0 (.t 26)])
 ((.seq (.reg [I.mv 27 (.t 0),I.mv 28 (.t 0),I.len 29 (.t 28) .sl,I.mv 30 (.t 7),I.sl 31 (.t 27) (some (.t 29)) (some (.t 30)) 2,I.clr none (.t 31) 2 [(.i .i64 0),(.sl 1 true [])]])
 ((.seq (.reg [I.mv 32 (.t 0),I.mv 6 (.t 32)])
 (.ret)))))))))))))))
 [.t 6] true none
def F_z_174:F:=.mk
 ((.seq (.reg [I.box 2 (.t 0) 1 true,I.box 3 (.t 1) 9 true,I.mv 4 (.k (.b false))])
 ((.seq (.reg [I.fa 5 (.t 3) 6 1,I.ld 6 (.t 5) 1 false,I.mkf 7 z_242 [] [(.t 2),(.t 3)],I.call (some 8) z_241 [(.t 6),(.t 7)],I.mv 4 (.t 8)])
 (.ret)))))
 [.t 4] false none
def F_z_183:F:=.mk
 ((.seq (.reg [I.box 1 (.t 0) 9 true,I.mv 2 (.k (.b false))])
 ((.seq ((.seq (.reg [I.ld 3 (.t 1) 9 true,I.call (some 4) z_248 [(.t 3)],I.un 5 .not (.t 4),I.mv 6 (.t 5),.sc true 12 6 [I.fa 7 (.t 1) 0 9,I.fa 8 (.t 7) 8 1,I.ld 9 (.t 8) 1 false,I.call (some 10) z_184 [(.t 9)],I.un 11 .not (.t 10)] (.t 11),I.mv 13 (.t 12),.sc true 17 13 [I.ld 14 (.t 1) 9 true,I.call (some 15) z_249 [(.t 14)],I.un 16 .not (.t 15)] (.t 16)])
 (.ite (.t 17)
 ((.seq (.reg [I.mv 2 (.k (.b false))])
 (.ret)))
 (.skip))))
 ((.seq ((.seq (.reg [I.fa 18 (.t 1) 0 9,I.fa 19 (.t 18) 7 1,I.ld 20 (.t 19) 1 false])
 (.ite (.t 20)
 ((.seq (.reg [I.fa 21 (.t 1) 0 9,I.fa 22 (.t 21) 4 1,I.ld 23 (.t 22) 1 false,I.len 24 (.t 23) .sl,I.bin 25 .eql (.t 24) k0,I.mv 2 (.t 25)])
 (.ret)))
 (.skip))))
 ((.seq (.reg [I.fa 26 (.t 1) 0 9,I.fa 27 (.t 26) 8 1,I.ld 28 (.t 27) 1 false,I.bin 29 .eql (.t 28) k0,I.mv 2 (.t 29)])
 (.ret)))))))))
 [.t 2] false none
def F_z_184:F:=.mk
 ((.seq (.reg [I.mv 2 (.k (.b false))])
 ((.seq (.reg [I.mv 3 (.t 0),I.bin 4 .geq (.t 3) (.k (.i .i64 (-1099511627776))),I.mv 5 (.t 4),.sc false 8 5 [I.mv 6 (.t 0),I.bin 7 .leq (.t 6) (.k (.i .i64 1099511627776))] (.t 7),I.mv 2 (.t 8)])
 (.ret)))))
 [.t 2] false none
def F_z_189:F:=.mk
 ((.seq (.reg [I.box 2 (.t 0) 9 true,I.mv 4 k0])
 ((.seq ((.seq (.reg [I.mv 5 (.t 1),I.bin 6 .geq (.t 5) k0,I.mv 7 (.t 6),.sc false 12 7 [I.fa 8 (.t 2) 0 1,I.ld 9 (.t 8) 1 false,I.mv 10 (.t 1),I.bin 11 .eql (.t 9) (.t 10)] (.t 11)])
 (.ite (.t 12)
 ((.seq (.reg [I.mv 4 (.k (.i .i64 2))])
 (.ret)))
 (.skip))))
 ((.seq ((.seq (.reg [I.ld 13 (.t 2) 9 true,I.mv 14 (.t 1),I.call (some 15) z_250 [(.t 13),(.t 14)]])
 (.ite (.t 15)
 ((.seq (.reg [I.mv 4 (.k (.i .i64 1))])
 (.ret)))
 (.skip))))
 ((.seq (.reg [I.mv 4 k0])
 (.ret)))))))))
 [.t 4] false none
def F_z_190_L0:C :=
 (.seq ((.seq (.reg [I.mv 8 (.t 6),I.mv 9 (.t 0),I.len 10 (.t 9) .sl,I.bin 11 .lss (.t 8) (.t 10)])
 (.ite (.t 11)
 (.skip)
 (.seq (.keep [5]) (.exit 0)))))
 ((.seq (.blk 1 ((.seq (.reg [I.mv 14 (.t 0),I.mv 15 (.t 6),I.ixs 16 (.t 14) (.t 15) 1,I.ld 17 (.t 16) 1 false,I.mv 18 (.t 1),I.bin 19 .neq (.t 17) (.t 18)])
 (.ite (.t 19)
 (.reg [I.mv 20 (.t 5),I.mv 21 (.t 0),I.mv 22 (.t 6),I.ixs 23 (.t 21) (.t 22) 1,I.ld 24 (.t 23) 1 false,I.buildSl 25 1 1 [(.i .i64 0)] [(0,(.t 24))] true,I.app 26 (.t 20) (.t 25) 1,I.mv 5 (.t 26)])
 (.skip)))))
 (.reg [I.mv 12 (.t 6),I.bin 13 .add (.t 12) (.k (.i .i64 1)),I.mv 6 (.t 13)]))))
def F_z_190:F:=.mk
 ((.seq (.reg [I.mv 4 (.k (.sl 1 true []))])
 ((.seq (.reg [I.buildSl 7 1 0 [(.i .i64 0)] [] false,I.mv 5 (.t 7)])
 ((.seq ((.seq (.reg [I.mv 6 k0])
 (.blk 0 (.loop [0,1,5,6] F_z_190_L0))))
 ((.seq (.reg [I.mv 27 (.t 5),I.mv 4 (.t 27)])
 (.ret)))))))))
 [.t 4] false none
def F_z_191_L0:C :=
 (.seq ((.seq (.reg [I.mv 6 (.t 5),I.mv 7 (.t 0),I.len 8 (.t 7) .sl,I.bin 9 .lss (.t 6) (.t 8),I.mv 10 (.t 9),.sc false 17 10 [I.mv 11 (.t 0),I.mv 12 (.t 5),I.ixs 13 (.t 11) (.t 12) 1,I.ld 14 (.t 13) 1 false,I.mv 15 (.t 1),I.bin 16 .lss (.t 14) (.t 15)] (.t 16)])
 (.ite (.t 17)
 (.skip)
 (.seq (.keep [0,1,5]) (.exit 0)))))
 (.blk 1 (.reg [I.mv 18 (.t 5),I.bin 19 .add (.t 18) (.k (.i .i64 1)),I.mv 5 (.t 19)])))
def F_z_191:F:=.mk
 ((.seq (.reg [I.mv 4 (.k (.sl 1 true []))])
 ((.seq (.reg [I.mv 5 k0])
 ((.seq (.blk 0 (.loop [0,1,5] F_z_191_L0))
 ((.seq (.drw [] [0,1,2,3,5,6,8,9,10,4,7,11,12] [I.lit0 20 1 [(.i .i64 0)],I.mv 21 (.t 0),I.mv 22 (.t 5),I.sl 23 (.t 21) none (some (.t 22)) 1,I.mv 25 (.t 1),I.buildSl 26 1 1 [(.i .i64 0)] [(0,(.t 25))] true,I.mv 28 (.t 0),I.mv 29 (.t 5),I.sl 30 (.t 28) (some (.t 29)) none 1,I.app 24 (.t 20) (.t 23) 1,.re (.sl 30 (.t 28) (some (.t 29)) none 1),I.app 27 (.t 24) (.t 26) 1,.re (.sl 30 (.t 28) (some (.t 29)) none 1),I.apk 31 (.t 27) (.t 30) 1,I.mv 4 (.t 31)])
 (.ret)))))))))
 [.t 4] false none
def F_z_192_L0:C :=
 (.seq ((.seq (.reg [I.mv 7 (.t 6),I.fa 8 (.t 2) 6 1,I.ld 9 (.t 8) 1 false,I.len 10 (.t 9) .sl,I.bin 11 .lss (.t 7) (.t 10),I.mv 12 (.t 11),.sc false 21 12 [I.fa 13 (.t 2) 6 1,I.ld 14 (.t 13) 1 false,I.mv 15 (.t 6),I.ixs 16 (.t 14) (.t 15) 2,I.fa 17 (.t 16) 0 1,I.ld 18 (.t 17) 1 false,I.mv 19 (.t 1),I.bin 20 .lss (.t 18) (.t 19)] (.t 20)])
 (.ite (.t 21)
 (.skip)
 (.seq (.keep [1,2,6]) (.exit 0)))))
 (.blk 1 (.reg [I.mv 22 (.t 6),I.bin 23 .add (.t 22) (.k (.i .i64 1)),I.mv 6 (.t 23)])))
def F_z_192:F:=.mk
 ((.seq (.reg [I.box 2 (.t 0) 9 true,I.mv 4 k0,I.mv 5 (.k (.b false))])
 ((.seq (.reg [I.mv 6 k0])
 ((.seq (.blk 0 (.loop [1,2,6] F_z_192_L0))
 ((.seq (.drw [] [0,1,2,3,4,5,6,7,8,9,10,11,12,13,14,15,16,17] [I.mv 24 (.t 6),I.mv 25 (.t 6),I.fad 26 (.t 2) 6 1,I.ldd 27 (.t 26) 1 false,I.len 28 (.t 27) .sl,I.bin 29 .lss (.t 25) (.t 28),I.mv 30 (.t 29),.sc false 39 30 [I.fad 31 (.t 2) 6 1,I.ldd 32 (.t 31) 1 false,I.mv 33 (.t 6),I.ixs 34 (.t 32) (.t 33) 2,I.fa 35 (.t 34) 0 1,I.ld 36 (.t 35) 1 false,I.mv 37 (.t 1),I.bin 38 .eql (.t 36) (.t 37)] (.t 38),I.mv 4 (.t 24),I.mv 5 (.t 39)])
 (.ret)))))))))
 [.t 4,.t 5] false none
def F_z_193:F:=.mk
 ((.seq (.reg [I.mv 2 (.k (.b false))])
 ((.seq (.reg [I.mv 3 (.t 0),I.bin 4 .geq (.t 3) k0,I.mv 5 (.t 4),.sc false 8 5 [I.mv 6 (.t 0),I.bin 7 .lss (.t 6) (.k (.i .i64 16))] (.t 7),I.mv 2 (.t 8)])
 (.ret)))))
 [.t 2] false none
def F_z_194_L0:C :=
 (.seq ((.seq (.reg [I.mv 7 (.t 5),I.mv 8 (.t 1),I.len 9 (.t 8) .sl,I.bin 10 .lss (.t 7) (.t 9)])
 (.ite (.t 10)
 (.skip)
 (.seq (.keep [0,1]) (.exit 0)))))
 ((.seq (.blk 1 ((.seq (.reg [I.mv 13 (.t 1),I.mv 14 (.t 5),I.ixs 15 (.t 13) (.t 14) 5,I.ld 16 (.t 15) 5 true,I.new 6 zQ,I.st (.t 6) (.t 16) 5 true])
 ((.seq ((.seq (.drw [] [0,1,2,3,4,5,6,7,8,9,10,11,12,13,14,15,16,17,18,19,20,21,22,23,24,25,26,27,28,29,30,31,32,33,34,35,36,37,38,39,40,41,42] [I.fad 17 (.t 6) 0 1,I.ldd 18 (.t 17) 1 false,I.call (some 19) z_193 [(.t 18)],I.un 20 .not (.t 19),I.mv 21 (.t 20),.sc true 26 21 [I.fad 22 (.t 6) 0 1,I.ldd 23 (.t 22) 1 false,I.mv 24 (.t 0),I.bin 25 .eql (.t 23) (.t 24)] (.t 25),I.mv 27 (.t 26),.sc true 34 27 [I.mv 28 (.t 1),I.mv 29 (.t 5),I.sl 30 (.t 28) none (some (.t 29)) 5,I.fad 31 (.t 6) 0 1,I.ldd 32 (.t 31) 1 false,I.call (some 33) z_199 [(.t 30),(.t 32)]] (.t 33),I.mv 35 (.t 34),.sc true 39 35 [I.fad 36 (.t 6) 1 1,I.ldd 37 (.t 36) 1 false,I.bin 38 .neq (.t 37) (.k (.i .i64 50))] (.t 38),I.mv 40 (.t 39),.sc true 44 40 [I.fad 41 (.t 6) 2 1,I.ldd 42 (.t 41) 1 false,I.bin 43 .neq (.t 42) k0] (.t 43),I.mv 45 (.t 44),.sc true 49 45 [I.fad 46 (.t 6) 3 1,I.ldd 47 (.t 46) 1 false,I.bin 48 .lss (.t 47) k0] (.t 48),I.mv 50 (.t 49),.sc true 54 50 [I.fad 51 (.t 6) 3 1,I.ldd 52 (.t 51) 1 false,I.bin 53 .gtr (.t 52) (.k (.i .i64 9))] (.t 53),I.mv 55 (.t 54),.sc true 59 55 [I.fad 56 (.t 6) 4 1,I.ldd 57 (.t 56) 1 false,I.bin 58 .neq (.t 57) (.k (.i .i64 (-1)))] (.t 58)])
 (.ite (.t 59)
 ((.seq (.reg [I.mv 4 (.k (.b false))])
 (.seq (.keep [4]) .ret)))
 (.skip))))
 ((.seq (.drw [] [0,1,2,3,4,5,6,7,8,9,10,11,12] [I.mv 60 (.t 5),I.bin 61 .gtr (.t 60) k0,I.mv 62 (.t 61),.sc false 72 62 [I.mv 63 (.t 1),I.mv 64 (.t 5),I.bin 65 .sub (.t 64) (.k (.i .i64 1)),I.ixs 66 (.t 63) (.t 65) 5,I.fa 67 (.t 66) 3 1,I.ld 68 (.t 67) 1 false,I.fad 69 (.t 6) 3 1,I.ldd 70 (.t 69) 1 false,I.bin 71 .lss (.t 68) (.t 70)] (.t 71)])
 (.ite (.t 72)
 ((.seq (.reg [I.mv 4 (.k (.b false))])
 (.seq (.keep [4]) .ret)))
 (.skip)))))))))
 (.reg [I.mv 11 (.t 5),I.bin 12 .add (.t 11) (.k (.i .i64 1)),I.mv 5 (.t 12)]))))
def F_z_194:F:=.mk
 ((.seq (.reg [I.mv 4 (.k (.b false))])
 ((.seq ((.seq (.reg [I.mv 5 k0])
 (.blk 0 (.loop [0,1,5] F_z_194_L0))))
 ((.seq (.reg [I.mv 73 (.t 1),I.len 74 (.t 73) .sl,I.bin 75 .eql (.t 74) k0,I.mv 76 (.t 75),.sc true 79 76 [I.mv 77 (.t 0),I.bin 78 .neq (.t 77) (.k (.i .i64 (-1)))] (.t 78),I.mv 4 (.t 79)])
 (.ret)))))))
 [.t 4] false none
def F_z_195_L0:C :=
 (.seq ((.seq (.reg [I.mv 47 (.t 3),I.fa 48 (.t 1) 3 1,I.ld 49 (.t 48) 1 false,I.len 50 (.t 49) .sl,I.bin 51 .lss (.t 47) (.t 50)])
 (.ite (.t 51)
 (.skip)
 (.seq (.keep [1]) (.exit 0)))))
 ((.seq (.blk 1 ((.seq (.drw [] [0,1,2,3,4,5,6,7,8,9,10,11,12,13,14,15,16,17,18,19,20,21,22,23,24,25,26,27,28,29] [I.fad 54 (.t 1) 3 1,I.ldd 55 (.t 54) 1 false,I.mv 56 (.t 3),I.ixs 57 (.t 55) (.t 56) 1,I.ld 58 (.t 57) 1 false,I.call (some 59) z_251 [(.t 58)],I.un 60 .not (.t 59),I.mv 61 (.t 60),.sc true 78 61 [I.mv 62 (.t 3),I.bin 63 .gtr (.t 62) k0,I.mv 64 (.t 63),.sc false 77 64 [I.fad 65 (.t 1) 3 1,I.ldd 66 (.t 65) 1 false,I.mv 67 (.t 3),I.bin 68 .sub (.t 67) (.k (.i .i64 1)),I.ixs 69 (.t 66) (.t 68) 1,I.ld 70 (.t 69) 1 false,I.fad 71 (.t 1) 3 1,I.ldd 72 (.t 71) 1 false,I.mv 73 (.t 3),I.ixs 74 (.t 72) (.t 73) 1,I.ld 75 (.t 74) 1 false,I.bin 76 .geq (.t 70) (.t 75)] (.t 76)] (.t 77),I.mv 79 (.t 78),.sc true 83 79 [I.fad 80 (.t 1) 0 1,I.ldd 81 (.t 80) 1 false,I.bin 82 .geq (.t 81) k0] (.t 82)])
 (.ite (.t 83)
 ((.seq (.reg [I.mv 2 (.k (.b false))])
 (.seq (.keep [2]) .ret)))
 (.skip)))))
 (.reg [I.mv 52 (.t 3),I.bin 53 .add (.t 52) (.k (.i .i64 1)),I.mv 3 (.t 53)]))))
def F_z_195_L1:C :=
 (.seq ((.seq (.reg [I.mv 125 (.t 6),I.mv 126 (.t 4),I.bin 127 .lss (.t 125) (.t 126)])
 (.ite (.t 127)
 (.skip)
 (.seq (.keep [1,4]) (.exit 4)))))
 ((.seq (.blk 5 ((.seq (.drw [] [0,1,2,3,4,5,6,7,8] [I.fad 130 (.t 1) 4 1,I.ldd 131 (.t 130) 1 false,I.mv 132 (.t 6),I.ixs 133 (.t 131) (.t 132) 5,I.fa 134 (.t 133) 0 1,I.ld 135 (.t 134) 1 false,I.fad 136 (.t 5) 0 1,I.ldd 137 (.t 136) 1 false,I.bin 138 .eql (.t 135) (.t 137)])
 (.ite (.t 138)
 ((.seq (.reg [I.mv 2 (.k (.b false))])
 (.seq (.keep [2]) .ret)))
 (.skip)))))
 (.reg [I.mv 128 (.t 6),I.bin 129 .add (.t 128) (.k (.i .i64 1)),I.mv 6 (.t 129)]))))
def F_z_195_L2:C :=
 (.seq ((.seq (.reg [I.mv 88 (.t 4),I.fa 89 (.t 1) 4 1,I.ld 90 (.t 89) 1 false,I.len 91 (.t 90) .sl,I.bin 92 .lss (.t 88) (.t 91)])
 (.ite (.t 92)
 (.skip)
 (.seq (.keep []) (.exit 2)))))
 ((.seq (.blk 3 ((.seq (.reg [I.fa 95 (.t 1) 4 1,I.ld 96 (.t 95) 1 false,I.mv 97 (.t 4),I.ixs 98 (.t 96) (.t 97) 5,I.ld 99 (.t 98) 5 true,I.new 5 zQ,I.st (.t 5) (.t 99) 5 true])
 ((.seq ((.seq (.reg [I.fa 100 (.t 5) 1 1,I.ld 101 (.t 100) 1 false,I.bin 102 .neq (.t 101) (.k (.i .i64 53)),I.mv 103 (.t 102),.sc false 107 103 [I.fa 104 (.t 5) 1 1,I.ld 105 (.t 104) 1 false,I.bin 106 .neq (.t 105) (.k (.i .i64 55))] (.t 106),I.mv 108 (.t 107),.sc true 112 108 [I.fa 109 (.t 5) 2 1,I.ld 110 (.t 109) 1 false,I.bin 111 .neq (.t 110) k0] (.t 111),I.mv 113 (.t 112),.sc true 117 113 [I.fa 114 (.t 5) 4 1,I.ld 115 (.t 114) 1 false,I.bin 116 .neq (.t 115) (.k (.i .i64 (-1)))] (.t 116),I.mv 118 (.t 117),.sc true 124 118 [I.ld 119 (.t 1) 9 true,I.fa 120 (.t 5) 0 1,I.ld 121 (.t 120) 1 false,I.call (some 122) z_189 [(.t 119),(.t 121)],I.bin 123 .neq (.t 122) k0] (.t 123)])
 (.ite (.t 124)
 ((.seq (.reg [I.mv 2 (.k (.b false))])
 (.seq (.keep [2]) .ret)))
 (.skip))))
 ((.seq (.reg [I.mv 6 k0])
 (.blk 4 (.loop [1,4,5,6] F_z_195_L1)))))))))
 (.reg [I.mv 93 (.t 4),I.bin 94 .add (.t 93) (.k (.i .i64 1)),I.mv 4 (.t 94)]))))
def F_z_195:F:=.mk
 ((.seq (.reg [I.box 1 (.t 0) 9 true,I.mv 2 (.k (.b false))])
 ((.seq ((.seq (.reg [I.fa 7 (.t 1) 0 1,I.ld 8 (.t 7) 1 false,I.bin 9 .neq (.t 8) (.k (.i .i64 (-1))),I.mv 10 (.t 9),.sc false 15 10 [I.fa 11 (.t 1) 0 1,I.ld 12 (.t 11) 1 false,I.call (some 13) z_251 [(.t 12)],I.un 14 .not (.t 13)] (.t 14),I.mv 16 (.t 15),.sc true 20 16 [I.fa 17 (.t 1) 1 1,I.ld 18 (.t 17) 1 false,I.bin 19 .neq (.t 18) k0] (.t 19),I.mv 21 (.t 20),.sc true 25 21 [I.fa 22 (.t 1) 2 1,I.ld 23 (.t 22) 1 false,I.bin 24 .neq (.t 23) k0] (.t 24),I.mv 26 (.t 25),.sc true 31 26 [I.fa 27 (.t 1) 5 1,I.ld 28 (.t 27) 1 false,I.len 29 (.t 28) .sl,I.bin 30 .gtr (.t 29) k0] (.t 30),I.mv 32 (.t 31),.sc true 37 32 [I.fa 33 (.t 1) 6 1,I.ld 34 (.t 33) 1 false,I.len 35 (.t 34) .sl,I.bin 36 .gtr (.t 35) k0] (.t 36),I.mv 38 (.t 37),.sc true 41 38 [I.fa 39 (.t 1) 7 1,I.ld 40 (.t 39) 1 false] (.t 40),I.mv 42 (.t 41),.sc true 46 42 [I.fa 43 (.t 1) 8 1,I.ld 44 (.t 43) 1 false,I.bin 45 .neq (.t 44) k0] (.t 45)])
 (.ite (.t 46)
 ((.seq (.reg [I.mv 2 (.k (.b false))])
 (.ret)))
 (.skip))))
 ((.seq ((.seq (.reg [I.mv 3 k0])
 (.blk 0 (.loop [1,3] F_z_195_L0))))
 ((.seq ((.seq (.reg [I.fa 84 (.t 1) 4 1,I.ld 85 (.t 84) 1 false,I.call (some 86) z_197 [(.k (.i .i64 1)),(.t 85)],I.bin 87 .neq (.t 86) k0])
 (.ite (.t 87)
 ((.seq (.reg [I.mv 2 (.k (.b false))])
 (.ret)))
 (.skip))))
 ((.seq ((.seq (.reg [I.mv 4 k0])
 (.blk 2 (.loop [1,4] F_z_195_L2))))
 ((.seq (.reg [I.mv 2 (.k (.b true))])
 (.ret)))))))))))))
 [.t 2] false none
def F_z_196:F:=.mk
 ((.seq (.reg [I.box 1 (.t 0) 9 true,I.mv 2 (.k (.b false))])
 ((.seq ((.seq (.reg [I.fa 3 (.t 1) 4 1,I.ld 4 (.t 3) 1 false,I.len 5 (.t 4) .sl,I.bin 6 .eql (.t 5) k0])
 (.ite (.t 6)
 ((.seq (.reg [I.mv 2 (.k (.b false))])
 (.ret)))
 (.skip))))
 ((.seq ((.seq (.reg [I.fa 7 (.t 1) 4 1,I.ld 8 (.t 7) 1 false,I.ixs 9 (.t 8) k0 5,I.fa 10 (.t 9) 1 1,I.ld 11 (.t 10) 1 false,I.bin 12 .eql (.t 11) (.k (.i .i64 53))])
 (.ite (.t 12)
 ((.seq (.reg [I.fa 13 (.t 1) 0 1,I.ld 14 (.t 13) 1 false,I.bin 15 .lss (.t 14) k0,I.mv 2 (.t 15)])
 (.ret)))
 (.skip))))
 ((.seq (.reg [I.fa 16 (.t 1) 0 1,I.ld 17 (.t 16) 1 false,I.bin 18 .lss (.t 17) k0,I.mv 19 (.t 18),.sc false 24 19 [I.fa 20 (.t 1) 3 1,I.ld 21 (.t 20) 1 false,I.len 22 (.t 21) .sl,I.bin 23 .eql (.t 22) k0] (.t 23),I.mv 2 (.t 24)])
 (.ret)))))))))
 [.t 2] false none
def F_z_197_L0:C :=
 (.seq ((.seq (.reg [I.mv 15 (.t 5),I.mv 16 (.t 1),I.len 17 (.t 16) .sl,I.bin 18 .lss (.t 15) (.t 17)])
 (.ite (.t 18)
 (.skip)
 (.seq (.keep []) (.exit 0)))))
 ((.seq (.blk 1 ((.seq ((.seq (.reg [I.mv 21 (.t 1),I.mv 22 (.t 5),I.ixs 23 (.t 21) (.t 22) 5,I.ld 24 (.t 23) 5 true,I.call (some 25) z_252 [(.t 24)],I.un 26 .not (.t 25)])
 (.ite (.t 26)
 ((.seq (.reg [I.mv 4 (.k (.i .i64 2))])
 (.seq (.keep [4]) .ret)))
 (.skip))))
 ((.seq (.drw [] [0,1,2,3,4,5,6,7,8,9,10,11,12,13,14,15,16,17,18,19] [I.mv 27 (.t 0),I.bin 28 .eql (.t 27) (.k (.i .i64 2)),I.mv 29 (.t 28),.sc false 32 29 [I.mv 30 (.t 5),I.bin 31 .gtr (.t 30) k0] (.t 31),I.mv 33 (.t 32),.sc false 46 33 [I.mv 34 (.t 1),I.mv 35 (.t 5),I.ixs 36 (.t 34) (.t 35) 5,I.fa 37 (.t 36) 3 1,I.ld 38 (.t 37) 1 false,I.mv 39 (.t 1),I.mv 40 (.t 5),I.bin 41 .sub (.t 40) (.k (.i .i64 1)),I.ixs 42 (.t 39) (.t 41) 5,I.fa 43 (.t 42) 3 1,I.ld 44 (.t 43) 1 false,I.bin 45 .gtr (.t 38) (.t 44)] (.t 45)])
 (.ite (.t 46)
 ((.seq (.reg [I.mv 4 (.k (.i .i64 9))])
 (.seq (.keep [4]) .ret)))
 (.skip)))))))
 (.reg [I.mv 19 (.t 5),I.bin 20 .add (.t 19) (.k (.i .i64 1)),I.mv 5 (.t 20)]))))
def F_z_197:F:=.mk
 ((.seq (.reg [I.mv 4 k0])
 ((.seq ((.seq (.reg [I.mv 6 (.t 0),I.bin 7 .neq (.t 6) (.k (.i .i64 1)),I.mv 8 (.t 7),.sc false 11 8 [I.mv 9 (.t 0),I.bin 10 .neq (.t 9) (.k (.i .i64 2))] (.t 10)])
 (.ite (.t 11)
 ((.seq (.reg [I.mv 4 (.k (.i .i64 8))])
 (.ret)))
 (.skip))))
 ((.seq ((.seq (.reg [I.mv 12 (.t 1),I.len 13 (.t 12) .sl,I.bin 14 .gtr (.t 13) (.k (.i .i64 96))])
 (.ite (.t 14)
 ((.seq (.reg [I.mv 4 (.k (.i .i64 4))])
 (.ret)))
 (.skip))))
 ((.seq ((.seq (.reg [I.mv 5 k0])
 (.blk 0 (.loop [0,1,5] F_z_197_L0))))
 ((.seq (.reg [I.mv 4 k0])
 (.ret)))))))))))
 [.t 4] false none
def F_z_198_L0:C :=
 (.seq ((.seq (.reg [I.mv 7 (.t 6),I.mv 8 (.t 0),I.len 9 (.t 8) .sl,I.bin 10 .lss (.t 7) (.t 9)])
 (.ite (.t 10)
 (.skip)
 (.seq (.keep []) (.exit 0)))))
 ((.seq (.blk 1 ((.seq (.reg [I.mv 13 (.t 0),I.mv 14 (.t 6),I.ixs 15 (.t 13) (.t 14) 5,I.fa 16 (.t 15) 0 1,I.ld 17 (.t 16) 1 false,I.mv 18 (.t 1),I.bin 19 .eql (.t 17) (.t 18)])
 (.ite (.t 19)
 ((.seq (.reg [I.mv 20 (.t 6),I.mv 4 (.t 20),I.mv 5 (.k (.b true))])
 (.seq (.keep [4,5]) .ret)))
 (.skip)))))
 (.reg [I.mv 11 (.t 6),I.bin 12 .add (.t 11) (.k (.i .i64 1)),I.mv 6 (.t 12)]))))
def F_z_198:F:=.mk
 ((.seq (.reg [I.mv 4 k0,I.mv 5 (.k (.b false))])
 ((.seq ((.seq (.reg [I.mv 6 k0])
 (.blk 0 (.loop [0,1,6] F_z_198_L0))))
 ((.seq (.reg [I.mv 4 k0,I.mv 5 (.k (.b false))])
 (.ret)))))))
 [.t 4,.t 5] false none
def F_z_199_L0:C :=
 (.seq ((.seq (.reg [I.mv 6 (.t 5),I.mv 7 (.t 0),I.len 8 (.t 7) .sl,I.bin 9 .lss (.t 6) (.t 8)])
 (.ite (.t 9)
 (.skip)
 (.seq (.keep []) (.exit 0)))))
 ((.seq (.blk 1 ((.seq (.reg [I.mv 12 (.t 0),I.mv 13 (.t 5),I.ixs 14 (.t 12) (.t 13) 5,I.fa 15 (.t 14) 0 1,I.ld 16 (.t 15) 1 false,I.mv 17 (.t 1),I.bin 18 .eql (.t 16) (.t 17)])
 (.ite (.t 18)
 ((.seq (.reg [I.mv 4 (.k (.b true))])
 (.seq (.keep [4]) .ret)))
 (.skip)))))
 (.reg [I.mv 10 (.t 5),I.bin 11 .add (.t 10) (.k (.i .i64 1)),I.mv 5 (.t 11)]))))
def F_z_199:F:=.mk
 ((.seq (.reg [I.mv 4 (.k (.b false))])
 ((.seq ((.seq (.reg [I.mv 5 k0])
 (.blk 0 (.loop [0,1,5] F_z_199_L0))))
 ((.seq (.reg [I.mv 4 (.k (.b false))])
 (.ret)))))))
 [.t 4] false none
def F_z_200:F:=.mk
 ((.seq (.reg [I.mv 2 (.k (.b false))])
 ((.seq (.reg [I.mv 3 (.t 0),I.bin 4 .geq (.t 3) (.k (.i .i64 (-1099511627776))),I.mv 5 (.t 4),.sc false 8 5 [I.mv 6 (.t 0),I.bin 7 .leq (.t 6) (.k (.i .i64 1099511627776))] (.t 7),I.mv 2 (.t 8)])
 (.ret)))))
 [.t 2] false none
def F_z_201_L0:C :=
 (.seq ((.seq (.reg [I.mv 44 (.t 4),I.mv 45 (.t 3),I.bin 46 .lss (.t 44) (.t 45)])
 (.ite (.t 46)
 (.skip)
 (.seq (.keep [0,3]) (.exit 2)))))
 ((.seq (.blk 3 ((.seq (.drw [] [0,1,2,3,4,5,6,7,8,9,10,11,12,13,14,15,16,17,18,19,20,21,22,23,24,25,26,27,28,29,30,31,32,33,34,35,36,37,38,39] [I.mv 49 (.t 0),I.mv 50 (.t 4),I.ixs 51 (.t 49) (.t 50) 5,I.fa 52 (.t 51) 0 1,I.ld 53 (.t 52) 1 false,I.mv 54 (.t 0),I.mv 55 (.t 3),I.ixs 56 (.t 54) (.t 55) 5,I.fa 57 (.t 56) 0 1,I.ld 58 (.t 57) 1 false,I.bin 59 .eql (.t 53) (.t 58),I.mv 60 (.t 59),.sc false 88 60 [I.mv 61 (.t 0),I.mv 62 (.t 4),I.ixs 63 (.t 61) (.t 62) 5,I.fa 64 (.t 63) 4 1,I.ld 65 (.t 64) 1 false,I.bin 66 .eql (.t 65) (.k (.i .i64 (-1))),I.mv 67 (.t 66),.sc true 74 67 [I.mv 68 (.t 0),I.mv 69 (.t 3),I.ixs 70 (.t 68) (.t 69) 5,I.fa 71 (.t 70) 4 1,I.ld 72 (.t 71) 1 false,I.bin 73 .eql (.t 72) (.k (.i .i64 (-1)))] (.t 73),I.mv 75 (.t 74),.sc true 87 75 [I.mv 76 (.t 0),I.mv 77 (.t 4),I.ixs 78 (.t 76) (.t 77) 5,I.fa 79 (.t 78) 4 1,I.ld 80 (.t 79) 1 false,I.mv 81 (.t 0),I.mv 82 (.t 3),I.ixs 83 (.t 81) (.t 82) 5,I.fa 84 (.t 83) 4 1,I.ld 85 (.t 84) 1 false,I.bin 86 .eql (.t 80) (.t 85)] (.t 86)] (.t 87)])
 (.ite (.t 88)
 ((.seq (.reg [I.mv 2 (.k (.b false))])
 (.seq (.keep [2]) .ret)))
 (.skip)))))
 (.reg [I.mv 47 (.t 4),I.bin 48 .add (.t 47) (.k (.i .i64 1)),I.mv 4 (.t 48)]))))
def F_z_201_L1:C :=
 (.seq ((.seq (.reg [I.mv 8 (.t 3),I.mv 9 (.t 0),I.len 10 (.t 9) .sl,I.bin 11 .lss (.t 8) (.t 10)])
 (.ite (.t 11)
 (.skip)
 (.seq (.keep []) (.exit 0)))))
 ((.seq (.blk 1 ((.seq ((.seq (.reg [I.mv 14 (.t 0),I.mv 15 (.t 3),I.ixs 16 (.t 14) (.t 15) 5,I.fa 17 (.t 16) 1 1,I.ld 18 (.t 17) 1 false,I.bin 19 .neq (.t 18) (.k (.i .i64 64)),I.mv 20 (.t 19),.sc false 27 20 [I.mv 21 (.t 0),I.mv 22 (.t 3),I.ixs 23 (.t 21) (.t 22) 5,I.fa 24 (.t 23) 1 1,I.ld 25 (.t 24) 1 false,I.bin 26 .neq (.t 25) (.k (.i .i64 65))] (.t 26),I.mv 28 (.t 27),.sc true 43 28 [I.mv 29 (.t 0),I.mv 30 (.t 3),I.ixs 31 (.t 29) (.t 30) 5,I.fa 32 (.t 31) 1 1,I.ld 33 (.t 32) 1 false,I.bin 34 .eql (.t 33) (.k (.i .i64 65)),I.mv 35 (.t 34),.sc false 42 35 [I.mv 36 (.t 0),I.mv 37 (.t 3),I.ixs 38 (.t 36) (.t 37) 5,I.fa 39 (.t 38) 2 1,I.ld 40 (.t 39) 1 false,I.bin 41 .neq (.t 40) k0] (.t 41)] (.t 42)])
 (.ite (.t 43)
 ((.seq (.reg [I.mv 2 (.k (.b false))])
 (.seq (.keep [2]) .ret)))
 (.skip))))
 ((.seq (.reg [I.mv 4 k0])
 (.blk 2 (.loop [0,3,4] F_z_201_L0)))))))
 (.reg [I.mv 12 (.t 3),I.bin 13 .add (.t 12) (.k (.i .i64 1)),I.mv 3 (.t 13)]))))
def F_z_201:F:=.mk
 ((.seq (.reg [I.mv 2 (.k (.b false))])
 ((.seq ((.seq (.reg [I.mv 5 (.t 0),I.call (some 6) z_197 [(.k (.i .i64 1)),(.t 5)],I.bin 7 .neq (.t 6) k0])
 (.ite (.t 7)
 ((.seq (.reg [I.mv 2 (.k (.b false))])
 (.ret)))
 (.skip))))
 ((.seq ((.seq (.reg [I.mv 3 k0])
 (.blk 0 (.loop [0,3] F_z_201_L1))))
 ((.seq (.reg [I.mv 2 (.k (.b true))])
 (.ret)))))))))
 [.t 2] false none
def F_z_202_L0:C :=
 (.seq ((.seq (.reg [I.mv 7 (.t 5),I.fa 8 (.t 3) 4 1,I.ld 9 (.t 8) 1 false,I.len 10 (.t 9) .sl,I.bin 11 .lss (.t 7) (.t 10)])
 (.ite (.t 11)
 (.skip)
 (.seq (.keep []) (.exit 0)))))
 ((.seq (.blk 1 ((.seq (.reg [I.fa 14 (.t 3) 4 1,I.ld 15 (.t 14) 1 false,I.mv 16 (.t 5),I.ixs 17 (.t 15) (.t 16) 5,I.ld 18 (.t 17) 5 true,I.new 6 zQ,I.st (.t 6) (.t 18) 5 true])
 ((.seq ((.seq (.reg [I.fa 19 (.t 3) 7 1,I.ld 20 (.t 19) 1 false])
 (.ite (.t 20)
 ((.seq (.reg [I.mv 4 (.k (.b true))])
 (.seq (.keep [4]) .ret)))
 (.skip))))
 ((.seq ((.seq (.reg [I.fa 21 (.t 6) 1 1,I.ld 22 (.t 21) 1 false,I.bin 23 .eql (.t 22) (.k (.i .i64 64)),I.mv 24 (.t 23),.sc false 39 24 [I.fa 25 (.t 3) 5 1,I.ld 26 (.t 25) 1 false,I.len 27 (.t 26) .sl,I.fa 28 (.t 2) 2 1,I.ld 29 (.t 28) 1 false,I.bin 30 .lss (.t 27) (.t 29),I.mv 31 (.t 30),.sc true 38 31 [I.fa 32 (.t 3) 4 1,I.ld 33 (.t 32) 1 false,I.fa 34 (.t 6) 0 1,I.ld 35 (.t 34) 1 false,I.call (some 36) z_253 [(.t 33),(.k (.i .i64 65)),(.t 35)],I.bin 37 .geq (.t 36) k0] (.t 37)] (.t 38)])
 (.ite (.t 39)
 ((.seq (.reg [I.mv 4 (.k (.b true))])
 (.seq (.keep [4]) .ret)))
 (.skip))))
 ((.seq (.reg [I.fa 40 (.t 6) 1 1,I.ld 41 (.t 40) 1 false,I.bin 42 .eql (.t 41) (.k (.i .i64 65)),I.mv 43 (.t 42),.sc false 56 43 [I.fa 44 (.t 3) 5 1,I.ld 45 (.t 44) 1 false,I.len 46 (.t 45) .sl,I.bin 47 .gtr (.t 46) k0,I.mv 48 (.t 47),.sc true 55 48 [I.fa 49 (.t 3) 4 1,I.ld 50 (.t 49) 1 false,I.fa 51 (.t 6) 0 1,I.ld 52 (.t 51) 1 false,I.call (some 53) z_253 [(.t 50),(.k (.i .i64 64)),(.t 52)],I.bin 54 .geq (.t 53) k0] (.t 54)] (.t 55)])
 (.ite (.t 56)
 ((.seq (.reg [I.mv 4 (.k (.b true))])
 (.seq (.keep [4]) .ret)))
 (.skip)))))))))))
 (.reg [I.mv 12 (.t 5),I.bin 13 .add (.t 12) (.k (.i .i64 1)),I.mv 5 (.t 13)]))))
def F_z_202:F:=.mk
 ((.seq (.reg [I.box 2 (.t 0) 4 true,I.box 3 (.t 1) 9 true,I.mv 4 (.k (.b false))])
 ((.seq ((.seq (.reg [I.mv 5 k0])
 (.blk 0 (.loop [2,3,5] F_z_202_L0))))
 ((.seq (.reg [I.mv 4 (.k (.b false))])
 (.ret)))))))
 [.t 4] false none
def F_z_203_L0:C :=
 (.seq ((.seq (.reg [I.mv 48 (.t 7),I.fa 49 (.t 6) 1 1,I.ld 50 (.t 49) 1 false,I.len 51 (.t 50) .sl,I.bin 52 .lss (.t 48) (.t 51)])
 (.ite (.t 52)
 (.skip)
 (.seq (.keep [2,3,5]) (.exit 2)))))
 ((.seq (.blk 3 ((.seq (.reg [I.fa 55 (.t 6) 1 1,I.ld 56 (.t 55) 1 false,I.mv 57 (.t 7),I.ixs 58 (.t 56) (.t 57) 1,I.ld 59 (.t 58) 1 false,I.call (some 60) z_122 [(.t 59),(.k (.i .i64 (-1099511627776))),(.k (.i .i64 1099511627776))],I.un 61 .not (.t 60)])
 (.ite (.t 61)
 ((.seq (.reg [I.mv 4 (.k (.b false))])
 (.seq (.keep [4]) .ret)))
 (.skip)))))
 (.reg [I.mv 53 (.t 7),I.bin 54 .add (.t 53) (.k (.i .i64 1)),I.mv 7 (.t 54)]))))
def F_z_203_L1:C :=
 (.seq ((.seq (.reg [I.mv 8 (.t 5),I.fa 9 (.t 3) 6 1,I.ld 10 (.t 9) 1 false,I.len 11 (.t 10) .sl,I.bin 12 .lss (.t 8) (.t 11)])
 (.ite (.t 12)
 (.skip)
 (.seq (.keep []) (.exit 0)))))
 ((.seq (.blk 1 ((.seq (.reg [I.fa 15 (.t 3) 6 1,I.ld 16 (.t 15) 1 false,I.mv 17 (.t 5),I.ixs 18 (.t 16) (.t 17) 2,I.ld 19 (.t 18) 2 true,I.new 6 [(.i .i64 0),(.sl 1 true [])],I.st (.t 6) (.t 19) 2 true])
 ((.seq ((.seq (.drw [] [0,1,2,3,4,5,6,7,8,9,10,11,12,13,14,15,16,17,18,19,20,21,22,23,24,25,26,27] [I.fad 20 (.t 6) 0 1,I.ldd 21 (.t 20) 1 false,I.call (some 22) z_122 [(.t 21),k0,(.k (.i .i64 15))],I.un 23 .not (.t 22),I.mv 24 (.t 23),.sc true 39 24 [I.mv 25 (.t 5),I.bin 26 .gtr (.t 25) k0,I.mv 27 (.t 26),.sc false 38 27 [I.fad 28 (.t 6) 0 1,I.ldd 29 (.t 28) 1 false,I.fad 30 (.t 3) 6 1,I.ldd 31 (.t 30) 1 false,I.mv 32 (.t 5),I.bin 33 .sub (.t 32) (.k (.i .i64 1)),I.ixs 34 (.t 31) (.t 33) 2,I.fa 35 (.t 34) 0 1,I.ld 36 (.t 35) 1 false,I.bin 37 .leq (.t 29) (.t 36)] (.t 37)] (.t 38),I.mv 40 (.t 39),.sc true 47 40 [I.fad 41 (.t 6) 1 1,I.ldd 42 (.t 41) 1 false,I.len 43 (.t 42) .sl,I.fad 44 (.t 2) 2 1,I.ldd 45 (.t 44) 1 false,I.bin 46 .gtr (.t 43) (.t 45)] (.t 46)])
 (.ite (.t 47)
 ((.seq (.reg [I.mv 4 (.k (.b false))])
 (.seq (.keep [4]) .ret)))
 (.skip))))
 ((.seq (.reg [I.mv 7 k0])
 (.blk 2 (.loop [2,3,5,6,7] F_z_203_L0)))))))))
 (.reg [I.mv 13 (.t 5),I.bin 14 .add (.t 13) (.k (.i .i64 1)),I.mv 5 (.t 14)]))))
def F_z_203:F:=.mk
 ((.seq (.reg [I.box 2 (.t 0) 4 true,I.box 3 (.t 1) 9 true,I.mv 4 (.k (.b false))])
 ((.seq ((.seq (.reg [I.mv 5 k0])
 (.blk 0 (.loop [2,3,5] F_z_203_L1))))
 ((.seq (.reg [I.mv 4 (.k (.b true))])
 (.ret)))))))
 [.t 4] false none
def F_z_204_L0:C :=
 (.seq ((.seq (.reg [I.mv 14 (.t 5),I.fa 15 (.t 3) 4 1,I.ld 16 (.t 15) 1 false,I.len 17 (.t 16) .sl,I.bin 18 .lss (.t 14) (.t 17)])
 (.ite (.t 18)
 (.skip)
 (.seq (.keep [2,3]) (.exit 0)))))
 ((.seq (.blk 1 ((.seq (.reg [I.fa 21 (.t 3) 4 1,I.ld 22 (.t 21) 1 false,I.mv 23 (.t 5),I.ixs 24 (.t 22) (.t 23) 5,I.ld 25 (.t 24) 5 true,I.new 6 zQ,I.st (.t 6) (.t 25) 5 true])
 ((.seq (.reg [I.fa 27 (.t 3) 4 1,I.ld 28 (.t 27) 1 false,I.fa 29 (.t 6) 0 1,I.ld 30 (.t 29) 1 false,I.call (some 31) z_198 [(.t 28),(.t 30)],I.mv 26 (.t 31),I.ext 32 (.t 26) 0,I.ext 33 (.t 26) 1,I.mv 7 (.t 32),I.mv 8 (.t 33)])
 ((.seq ((.seq (.reg [I.fa 34 (.t 6) 1 1,I.ld 35 (.t 34) 1 false,I.bin 36 .neq (.t 35) (.k (.i .i64 70)),I.mv 37 (.t 36),.sc false 41 37 [I.fa 38 (.t 6) 1 1,I.ld 39 (.t 38) 1 false,I.bin 40 .neq (.t 39) (.k (.i .i64 68))] (.t 40),I.mv 42 (.t 41),.sc true 46 42 [I.fa 43 (.t 6) 4 1,I.ld 44 (.t 43) 1 false,I.bin 45 .neq (.t 44) (.k (.i .i64 (-1)))] (.t 45),I.mv 47 (.t 46),.sc true 51 47 [I.mv 48 (.t 7),I.mv 49 (.t 5),I.bin 50 .neq (.t 48) (.t 49)] (.t 50)])
 (.ite (.t 51)
 ((.seq (.reg [I.mv 4 (.k (.b false))])
 (.seq (.keep [4]) .ret)))
 (.skip))))
 ((.seq (.reg [I.fa 52 (.t 6) 1 1,I.ld 53 (.t 52) 1 false,I.bin 54 .eql (.t 53) (.k (.i .i64 70))])
 (.ite (.t 54)
 ((.seq (.reg [I.ld 55 (.t 3) 9 true,I.fa 56 (.t 6) 0 1,I.ld 57 (.t 56) 1 false,I.call (some 58) z_254 [(.t 55),(.t 57)],I.mv 9 (.t 58)])
 ((.seq (.reg [I.mv 59 (.t 9),I.bin 60 .lss (.t 59) k0,I.mv 61 (.t 60),.sc true 70 61 [I.fa 62 (.t 3) 6 1,I.ld 63 (.t 62) 1 false,I.mv 64 (.t 9),I.ixs 65 (.t 63) (.t 64) 2,I.fa 66 (.t 65) 1 1,I.ld 67 (.t 66) 1 false,I.len 68 (.t 67) .sl,I.bin 69 .gtr (.t 68) k0] (.t 69),I.mv 71 (.t 70),.sc true 75 71 [I.fa 72 (.t 6) 2 1,I.ld 73 (.t 72) 1 false,I.bin 74 .neq (.t 73) k0] (.t 74)])
 (.ite (.t 75)
 ((.seq (.reg [I.mv 4 (.k (.b false))])
 (.seq (.keep [4]) .ret)))
 (.skip))))))
 (.skip)))))))))))
 (.reg [I.mv 19 (.t 5),I.bin 20 .add (.t 19) (.k (.i .i64 1)),I.mv 5 (.t 20)]))))
def F_z_204:F:=.mk
 ((.seq (.reg [I.box 2 (.t 0) 4 true,I.box 3 (.t 1) 9 true,I.mv 4 (.k (.b false))])
 ((.seq ((.seq (.reg [I.fa 10 (.t 3) 4 1,I.ld 11 (.t 10) 1 false,I.call (some 12) z_197 [(.k (.i .i64 1)),(.t 11)],I.bin 13 .neq (.t 12) k0])
 (.ite (.t 13)
 ((.seq (.reg [I.mv 4 (.k (.b false))])
 (.ret)))
 (.skip))))
 ((.seq ((.seq (.reg [I.mv 5 k0])
 (.blk 0 (.loop [2,3,5] F_z_204_L0))))
 ((.seq (.reg [I.ld 76 (.t 3) 9 true,I.call (some 77) z_255 [(.t 76)],I.bin 78 .lss (.t 77) k0,I.mv 79 (.t 78),.sc true 83 79 [I.ld 80 (.t 2) 4 true,I.ld 81 (.t 3) 9 true,I.call (some 82) z_256 [(.t 80),(.t 81)]] (.t 82),I.mv 4 (.t 83)])
 (.ret)))))))))
 [.t 4] false none
def F_z_205:F:=.mk
 ((.seq (.reg [I.mv 2 (.k (.b false))])
 ((.seq (.reg [I.mv 3 (.t 0),I.bin 4 .geq (.t 3) (.k (.i .i64 (-1099511627776))),I.mv 5 (.t 4),.sc false 8 5 [I.mv 6 (.t 0),I.bin 7 .leq (.t 6) (.k (.i .i64 1099511627776))] (.t 7),I.mv 2 (.t 8)])
 (.ret)))))
 [.t 2] false none
def F_z_206:F:=.mk
 ((.seq (.reg [I.box 2 (.t 0) 5 true,I.mv 3 (.k (.b false))])
 ((.seq (.reg [I.fa 4 (.t 2) 0 1,I.ld 5 (.t 4) 1 false,I.fa 6 (.t 1) 0 1,I.ld 7 (.t 6) 1 false,I.bin 8 .eql (.t 5) (.t 7),I.mv 3 (.t 8)])
 (.ret)))))
 [.t 3] false none
def F_z_210:F:=.mk
 ((.seq (.reg [I.box 2 (.t 0) 5 true,I.mv 3 (.k (.b false))])
 ((.seq (.reg [I.fa 4 (.t 2) 0 1,I.ld 5 (.t 4) 1 false,I.ld 6 (.t 1) 1 false,I.bin 7 .eql (.t 5) (.t 6),I.mv 3 (.t 7)])
 (.ret)))))
 [.t 3] false none
def F_z_213_L0:C :=
 (.seq (.reg [I.bin 16 .lss (.t 15) (.t 14)])
 ((.seq (.ite (.t 16)
 (.skip)
 (.seq (.keep [1]) (.exit 0)))
 ((.seq (.blk 1 ((.seq (.reg [I.mv 17 (.t 15),I.ixs 18 (.t 13) (.t 15) 5,I.ld 19 (.t 18) 5 true,I.new 4 zQ,I.mv 3 (.t 17),I.st (.t 4) (.t 19) 5 true])
 ((.seq (.reg [I.fa 21 (.t 1) 4 1,I.ld 22 (.t 21) 1 false,I.fa 23 (.t 4) 0 1,I.ld 24 (.t 23) 1 false,I.call (some 25) z_132 [(.t 22),(.t 24)],I.mv 20 (.t 25),I.ext 26 (.t 20) 0,I.ext 27 (.t 20) 1,I.mv 5 (.t 26),I.mv 6 (.t 27)])
 ((.seq (.reg [I.mv 28 (.t 5),I.mv 29 (.t 3),I.bin 30 .neq (.t 28) (.t 29),I.mv 31 (.t 30),.sc true 40 31 [I.fa 32 (.t 4) 1 1,I.ld 33 (.t 32) 1 false,I.bin 34 .neq (.t 33) (.k (.i .i64 53)),I.mv 35 (.t 34),.sc false 39 35 [I.fa 36 (.t 4) 1 1,I.ld 37 (.t 36) 1 false,I.bin 38 .neq (.t 37) (.k (.i .i64 55))] (.t 38)] (.t 39),I.mv 41 (.t 40),.sc true 45 41 [I.fa 42 (.t 4) 2 1,I.ld 43 (.t 42) 1 false,I.bin 44 .neq (.t 43) k0] (.t 44),I.mv 46 (.t 45),.sc true 50 46 [I.fa 47 (.t 4) 4 1,I.ld 48 (.t 47) 1 false,I.bin 49 .neq (.t 48) (.k (.i .i64 (-1)))] (.t 49),I.mv 51 (.t 50),.sc true 57 51 [I.ld 52 (.t 1) 9 true,I.fa 53 (.t 4) 0 1,I.ld 54 (.t 53) 1 false,I.call (some 55) z_134 [(.t 52),(.t 54)],I.bin 56 .neq (.t 55) k0] (.t 56)])
 (.ite (.t 57)
 ((.seq (.reg [I.mv 2 (.k (.b false))])
 (.seq (.keep [2]) .ret)))
 (.skip)))))))))
 (.reg [I.bin 58 .add (.t 15) (.k (.i .i64 1)),I.mv 15 (.t 58)]))))))
def F_z_213:F:=.mk
 ((.seq (.reg [I.box 1 (.t 0) 9 true,I.mv 2 (.k (.b false))])
 ((.seq ((.seq (.reg [I.fa 8 (.t 1) 4 1,I.ld 9 (.t 8) 1 false,I.call (some 10) z_142 [(.k (.i .i64 1)),(.t 9)],I.bin 11 .neq (.t 10) k0])
 (.ite (.t 11)
 ((.seq (.reg [I.mv 2 (.k (.b false))])
 (.ret)))
 (.skip))))
 ((.seq ((.seq (.reg [I.fa 12 (.t 1) 4 1,I.ld 13 (.t 12) 1 false,I.len 14 (.t 13) .sl,I.mv 15 k0])
 (.blk 0 (.loop [1,13,14,15] F_z_213_L0))))
 ((.seq ((.seq (.reg [I.fa 59 (.t 1) 4 1,I.ld 60 (.t 59) 1 false,I.len 61 (.t 60) .sl,I.bin 62 .eql (.t 61) k0])
 (.ite (.t 62)
 ((.seq (.reg [I.mv 2 (.k (.b true))])
 (.ret)))
 (.skip))))
 ((.seq (.reg [I.ld 63 (.t 1) 9 true,I.callk (some 64) z_133 [(.t 63)],I.mv 7 (.t 64)])
 ((.seq (.reg [I.mv 65 (.t 7),I.callr (some 66) z_140 [(.t 65)]])
 ((.seq (.reg [I.mv 67 (.t 7),I.nck 68 (.t 67),I.fa 69 (.t 68) 9 1,I.ld 70 (.t 69) 1 false,I.len 71 (.t 70) .sl,I.bin 72 .eql (.t 71) k0,I.mv 2 (.t 72)])
 (.ret)))))))))))))))
 [.t 2] false none
def F_z_214:F:=.mk
 ((.seq (.reg [I.mv 2 (.k (.sl 1 true []))])
 ((.seq ((.seq (.reg [I.mv 3 (.t 0),I.isnil 4 false (.t 3) .sl])
 (.ite (.t 4)
 ((.seq (.reg [I.mv 2 (.k (.sl 1 true []))])
 (.ret)))
 (.skip))))
 ((.seq (.reg [I.buildSl 5 1 0 [(.i .i64 0)] [] false,I.mv 6 (.t 0),I.app 7 (.t 5) (.t 6) 1,I.mv 2 (.t 7)])
 (.ret)))))))
 [.t 2] true none
def F_z_214p:F:=⟨F_z_214.code,F_z_214.res,false,none⟩
def F_z_215:F:=.mk
 ((.seq (.reg [I.mv 4 (.k (.b false))])
 ((.seq (.reg [I.mv 5 (.t 0),I.mv 6 (.t 1),I.call (some 7) z_261 [(.t 5),(.t 6)],I.bin 8 .geq (.t 7) k0,I.mv 4 (.t 8)])
 (.ret)))))
 [.t 4] false none
def F_z_216:F:=.mk
 ((.seq ((.seq (.reg [I.mv 8 (.t 2),I.bin 9 .eql (.t 8) (.k (.i .i64 55))])
 (.ite (.t 9)
 ((.seq (.reg [I.mv 10 (.t 0),I.mv 11 (.t 1),I.nck 12 (.t 10),I.fa 13 (.t 12) 0 9,I.fa 14 (.t 13) 0 1,I.st (.t 14) (.t 11) 1 false])
 (.ret)))
 (.skip))))
 ((.seq (.reg [I.mv 16 (.t 0),I.nck 17 (.t 16),I.fa 18 (.t 17) 0 9,I.fa 19 (.t 18) 3 1,I.ld 20 (.t 19) 1 false,I.mv 21 (.t 1),I.callr (some 22) z_262q [(.t 20),(.t 21)],I.mv 15 (.t 22),I.ext 23 (.t 15) 0,I.ext 24 (.t 15) 1,I.mv 6 (.t 23),I.mv 7 (.t 24)])
 (.reg [I.mv 25 (.t 0),I.mv 26 (.t 0),I.nck 27 (.t 26),I.fa 28 (.t 27) 0 9,I.fa 29 (.t 28) 3 1,I.ld 30 (.t 29) 1 false,I.mv 31 (.t 6),I.mv 32 (.t 1),I.buildSl 33 1 1 [(.i .i64 0)] [(0,(.t 32))] true,I.callr (some 34) z_263 [(.t 30),(.t 31),(.t 33)],I.nck 35 (.t 25),I.fa 36 (.t 35) 0 9,I.fa 37 (.t 36) 3 1,I.st (.t 37) (.t 34) 1 false])))))
 [] true none
def F_z_217_L0:C :=
 (.seq (.reg [I.bin 9 .lss (.t 8) (.t 7)])
 ((.seq (.ite (.t 9)
 (.skip)
 (.seq (.keep []) (.exit 0)))
 ((.seq (.blk 1 ((.seq (.reg [I.mv 10 (.t 8),I.mv 5 (.t 10)])
 ((.seq (.reg [I.mv 11 (.t 1),I.mv 12 (.t 0),I.mv 13 (.t 5),I.ixs 14 (.t 12) (.t 13) 1,I.ld 15 (.t 14) 1 false,I.callv (some 16) (.t 11) [(.t 15)]])
 (.ite (.t 16)
 ((.seq (.reg [I.mv 17 (.t 5),I.mv 4 (.t 17)])
 (.seq (.keep [4]) .ret)))
 (.skip)))))))
 (.reg [I.bin 18 .add (.t 8) (.k (.i .i64 1)),I.mv 8 (.t 18)]))))))
def F_z_217:F:=.mk
 ((.seq (.reg [I.mv 4 k0])
 ((.seq ((.seq (.reg [I.mv 6 (.t 0),I.len 7 (.t 6) .sl,I.mv 8 k0])
 (.blk 0 (.loop [0,1,7,8] F_z_217_L0))))
 ((.seq (.reg [I.mv 4 (.k (.i .i64 (-1)))])
 (.ret)))))))
 [.t 4] false none
def F_z_218:F:=.mk
 ((.seq (.reg [I.box 1 (.t 0) 5 true,I.mv 2 (.k (.b false))])
 ((.seq (.blk 0 ((.seq (.reg [I.fa 4 (.t 1) 0 1,I.ld 5 (.t 4) 1 false,I.bin 6 .lss (.t 5) k0,I.mv 7 (.t 6),.sc true 11 7 [I.fa 8 (.t 1) 0 1,I.ld 9 (.t 8) 1 false,I.bin 10 .geq (.t 9) (.k (.i .i64 16))] (.t 10),I.mv 12 (.t 11),.sc true 16 12 [I.fa 13 (.t 1) 1 1,I.ld 14 (.t 13) 1 false,I.bin 15 .lss (.t 14) (.k (.i .i64 1))] (.t 15),I.mv 17 (.t 16),.sc true 21 17 [I.fa 18 (.t 1) 1 1,I.ld 19 (.t 18) 1 false,I.bin 20 .gtr (.t 19) (.k (.i .i64 99))] (.t 20),I.mv 22 (.t 21),.sc true 26 22 [I.fa 23 (.t 1) 2 1,I.ld 24 (.t 23) 1 false,I.bin 25 .lss (.t 24) (.k (.i .i64 (-1099511627776)))] (.t 25),I.mv 27 (.t 26),.sc true 31 27 [I.fa 28 (.t 1) 2 1,I.ld 29 (.t 28) 1 false,I.bin 30 .gtr (.t 29) (.k (.i .i64 1099511627776))] (.t 30),I.mv 3 (.t 31)])
 (.ite (.t 3)
 ((.seq (.reg [I.mv 2 (.k (.b false))])
 (.ret)))
 (.skip)))))
 ((.seq (.reg [I.fa 32 (.t 1) 3 1,I.ld 33 (.t 32) 1 false,I.bin 34 .geq (.t 33) k0,I.mv 35 (.t 34),.sc false 39 35 [I.fa 36 (.t 1) 3 1,I.ld 37 (.t 36) 1 false,I.bin 38 .leq (.t 37) (.k (.i .i64 9))] (.t 38),I.mv 40 (.t 39),.sc false 44 40 [I.fa 41 (.t 1) 4 1,I.ld 42 (.t 41) 1 false,I.bin 43 .geq (.t 42) (.k (.i .i64 (-1)))] (.t 43),I.mv 45 (.t 44),.sc false 49 45 [I.fa 46 (.t 1) 4 1,I.ld 47 (.t 46) 1 false,I.bin 48 .lss (.t 47) (.k (.i .i64 6))] (.t 48),I.mv 2 (.t 49)])
 (.ret)))))))
 [.t 2] false none
def F_z_225:F:=.mk
 ((.seq (.reg [I.mv 4 (.k (.b false))])
 ((.seq (.reg [I.mv 5 (.t 0),I.mv 6 (.t 1),I.call (some 7) z_217 [(.t 5),(.t 6)],I.bin 8 .geq (.t 7) k0,I.mv 4 (.t 8)])
 (.ret)))))
 [.t 4] false none
def F_z_226:F:=.mk
 ((.seq (.reg [I.mv 2 (.k (.b false))])
 ((.seq (.reg [I.mv 3 (.t 0),I.call (some 4) z_160 [(.t 3)],I.un 5 .not (.t 4),I.mv 2 (.t 5)])
 (.ret)))))
 [.t 2] false none
def F_z_227:F:=.mk
 ((.seq (.reg [I.mv 4 (.k (.b false))])
 ((.seq (.reg [I.mv 6 (.t 0),I.mv 7 (.t 1),I.ixs 8 (.t 6) (.t 7) 5,I.ld 9 (.t 8) 5 true,I.new 5 zQ,I.st (.t 5) (.t 9) 5 true])
 ((.seq ((.seq (.reg [I.fa 10 (.t 5) 1 1,I.ld 11 (.t 10) 1 false,I.bin 12 .neq (.t 11) (.k (.i .i64 64)),I.mv 13 (.t 12),.sc false 22 13 [I.fa 14 (.t 5) 1 1,I.ld 15 (.t 14) 1 false,I.bin 16 .neq (.t 15) (.k (.i .i64 65)),I.mv 17 (.t 16),.sc true 21 17 [I.fa 18 (.t 5) 2 1,I.ld 19 (.t 18) 1 false,I.bin 20 .neq (.t 19) k0] (.t 20)] (.t 21)])
 (.ite (.t 22)
 ((.seq (.reg [I.mv 4 (.k (.b false))])
 (.ret)))
 (.skip))))
 ((.seq (.reg [I.mv 23 (.t 0),I.mv 24 (.t 1),I.sl 25 (.t 23) none (some (.t 24)) 5,I.mkf 26 z_265 [] [(.t 5)],I.call (some 27) z_57 [(.t 25),(.t 26)],I.un 28 .not (.t 27),I.mv 4 (.t 28)])
 (.ret)))))))))
 [.t 4] false none
def F_z_228:F:=.mk
 ((.seq (.reg [I.box 2 (.t 0) 4 true,I.box 3 (.t 1) 9 true,I.mv 4 (.k (.b false))])
 ((.seq (.reg [I.fa 5 (.t 3) 4 1,I.ld 6 (.t 5) 1 false,I.mkf 7 z_266 [] [(.t 3),(.t 2)],I.call (some 8) z_57 [(.t 6),(.t 7)],I.mv 4 (.t 8)])
 (.ret)))))
 [.t 4] false none
def F_z_235:F:=.mk
 ((.seq (.reg [I.mv 2 (.k (.b false))])
 ((.seq (.reg [I.mv 3 (.t 0),I.bin 4 .geq (.t 3) (.k (.i .i64 (-1099511627776))),I.mv 5 (.t 4),.sc false 8 5 [I.mv 6 (.t 0),I.bin 7 .leq (.t 6) (.k (.i .i64 1099511627776))] (.t 7),I.mv 2 (.t 8)])
 (.ret)))))
 [.t 2] false none
def F_z_236:F:=.mk
 ((.seq (.reg [I.mv 2 (.k (.sl 2 true []))])
 ((.seq ((.seq (.reg [I.mv 3 (.t 0),I.isnil 4 false (.t 3) .sl])
 (.ite (.t 4)
 ((.seq (.reg [I.mv 2 (.k (.sl 2 true []))])
 (.ret)))
 (.skip))))
 ((.seq (.reg [I.buildSl 5 2 0 [(.i .i64 0),(.sl 1 true [])] [] false,I.mv 6 (.t 0),I.app 7 (.t 5) (.t 6) 2,I.mv 2 (.t 7)])
 (.ret)))))))
 [.t 2] true none
def R_z_237:F:=.mk
 ((.seq (.reg [I.mv 6 (.k (.sl 2 true []))])
 ((.seq (.reg [I.mv 10 (.t 0),I.mv 11 (.t 1),I.sl 12 (.t 10) (some (.t 11)) none 2])
 ((.seq (.reg [I.mv 13 (.t 2),I.len 14 (.t 13) .sl,I.mv 7 (.t 14)])
 ((.seq ((.seq (.reg [I.mv 15 (.t 7),I.bin 16 .eql (.t 15) k0])
 (.ite (.t 16)
 ((.seq (.reg [I.mv 17 (.t 0),I.mv 6 (.t 17)])
 (.ret)))
 (.skip))))
 ((.seq (.reg [I.mv 18 (.t 0),I.len 19 (.t 18) .sl,I.mv 8 (.t 19)])
 ((.seq ((.seq (.reg [I.mv 20 (.t 1),I.mv 21 (.t 8),I.bin 22 .eql (.t 20) (.t 21)])
 (.ite (.t 22)
 ((.seq (.reg [I.mv 23 (.t 0),I.mv 24 (.t 2),I.app 25 (.t 23) (.t 24) 2,I.mv 6 (.t 25)])
 (.ret)))
 (.skip))))
 ((.seq ((.seq (.reg [I.mv 26 (.t 8),I.mv 27 (.t 7),I.bin 28 .add (.t 26) (.t 27),I.mv 29 (.t 0),I.cap 30 (.t 29),I.bin 31 .gtr (.t 28) (.t 30)])
 (.ite (.t 31)
 ((.seq (.reg [I.mv 32 (.t 0),I.mv 33 (.t 1),I.sl 34 (.t 32) none (some (.t 33)) 2,I.mv 35 (.t 8),I.mv 36 (.t 7),I.bin 37 .add (.t 35) (.t 36),I.mv 38 (.t 1),I.bin 39 .sub (.t 37) (.t 38),I.appz 40 (.t 34) (.t 39) 2 [(.i .i64 0),(.sl 1 true [])],I.mv 9 (.t 40)])
 ((.seq (.reg [I.mv 41 (.t 9),I.mv 42 (.t 1),I.sl 43 (.t 41) (some (.t 42)) none 2,I.mv 44 (.t 2),I.copy (some 45) (.t 43) (.t 44) 2])
 ((.seq (.drw [] [0,1,2,3,4,5,6,7,8] [I.mv 46 (.t 9),I.mv 47 (.t 1),I.mv 48 (.t 7),I.bin 49 .add (.t 47) (.t 48),I.sl 50 (.t 46) (some (.t 49)) none 2,I.mv 51 (.t 0),I.mv 52 (.t 1),I.sl 53 (.t 51) (some (.t 52)) none 2,I.copy (some 54) (.t 50) (.t 53) 2])
 ((.seq (.reg [I.mv 55 (.t 9),I.mv 6 (.t 55)])
 (.ret)))))))))
 (.skip))))
 ((.seq (.reg [I.mv 56 (.t 0),I.mv 57 (.t 8),I.mv 58 (.t 7),I.bin 59 .add (.t 57) (.t 58),I.sl 60 (.t 56) none (some (.t 59)) 2,I.mv 0 (.t 60)])
 ((.seq ((.seq (.reg [I.mv 61 (.t 2),I.mv 62 (.t 0),I.mv 63 (.t 1),I.mv 64 (.t 7),I.bin 65 .add (.t 63) (.t 64),I.sl 66 (.t 62) (some (.t 65)) none 2,I.ovl 67 z_273 (.t 61) (.t 66) 2,I.un 68 .not (.t 67)])
 (.ite (.t 68)
 ((.seq (.drw [] [0,1,2,3,4,5,6,7,8] [I.mv 69 (.t 0),I.mv 70 (.t 1),I.mv 71 (.t 7),I.bin 72 .add (.t 70) (.t 71),I.sl 73 (.t 69) (some (.t 72)) none 2,I.mv 74 (.t 0),I.mv 75 (.t 1),I.sl 76 (.t 74) (some (.t 75)) none 2,I.copy (some 77) (.t 73) (.t 76) 2])
 ((.seq (.reg [I.mv 78 (.t 0),I.mv 79 (.t 1),I.sl 80 (.t 78) (some (.t 79)) none 2,I.mv 81 (.t 2),I.copy (some 82) (.t 80) (.t 81) 2])
 ((.seq (.reg [I.mv 83 (.t 0),I.mv 6 (.t 83)])
 (.ret)))))))
 (.skip))))
 ((.seq (.reg [I.mv 84 (.t 0),I.mv 85 (.t 8),I.sl 86 (.t 84) (some (.t 85)) none 2,I.mv 87 (.t 2),I.copy (some 88) (.t 86) (.t 87) 2])
 ((.seq (.reg [I.mv 89 (.t 0),I.mv 90 (.t 1),I.sl 91 (.t 89) (some (.t 90)) none 2,I.mv 92 (.t 7),I.call (some 93) z_274 [(.t 91),(.t 92)]])
 ((.seq (.reg [I.mv 94 (.t 0),I.mv 6 (.t 94)])
 (.ret)))))))))))))))))))))))))
 [.t 6] false none
def F_z_238:F:=.mk
 ((.seq (.reg [I.box 2 (.t 0) 2 true,I.mv 3 (.k (.b false))])
 ((.seq (.reg [I.fa 4 (.t 2) 0 1,I.ld 5 (.t 4) 1 false,I.ld 6 (.t 1) 1 false,I.bin 7 .eql (.t 5) (.t 6),I.mv 3 (.t 7)])
 (.ret)))))
 [.t 3] false none
def F_z_241:F:=.mk
 ((.seq (.reg [I.mv 4 (.k (.b false))])
 ((.seq (.reg [I.mv 5 (.t 0),I.mv 6 (.t 1),I.call (some 7) z_102 [(.t 5),(.t 6)],I.bin 8 .geq (.t 7) k0,I.mv 4 (.t 8)])
 (.ret)))))
 [.t 4] false none
def F_z_242:F:=.mk
 ((.seq (.reg [I.box 3 (.t 0) 2 true,I.mv 4 (.k (.b false))])
 ((.seq (.reg [I.fa 5 (.t 3) 1 1,I.ld 6 (.t 5) 1 false,I.len 7 (.t 6) .sl,I.ld 8 (.t 1) 1 false,I.bin 9 .eql (.t 7) (.t 8),I.mv 10 (.t 9),.sc false 16 10 [I.ld 11 (.t 2) 9 true,I.fa 12 (.t 3) 0 1,I.ld 13 (.t 12) 1 false,I.call (some 14) z_243 [(.t 11),(.t 13),(.k (.i .i64 70))],I.un 15 .not (.t 14)] (.t 15),I.mv 4 (.t 16)])
 (.ret)))))
 [.t 4] false none
def F_z_243:F:=.mk
 ((.seq (.reg [I.box 3 (.t 0) 9 true,I.box 4 (.t 1) 1 true,I.box 5 (.t 2) 1 true,I.mv 6 (.k (.b false))])
 ((.seq (.reg [I.fa 7 (.t 3) 4 1,I.ld 8 (.t 7) 1 false,I.mkf 9 z_278 [] [(.t 4),(.t 5)],I.call (some 10) z_57 [(.t 8),(.t 9)],I.mv 6 (.t 10)])
 (.ret)))))
 [.t 6] false none
def F_z_248:F:=.mk
 ((.seq (.reg [I.box 1 (.t 0) 9 true,I.mv 2 (.k (.b false))])
 ((.seq (.reg [I.fa 3 (.t 1) 0 9,I.fa 4 (.t 3) 0 1,I.ld 5 (.t 4) 1 false,I.bin 6 .eql (.t 5) (.k (.i .i64 (-1))),I.mv 7 (.t 6),.sc false 12 7 [I.fa 8 (.t 1) 0 9,I.fa 9 (.t 8) 1 1,I.ld 10 (.t 9) 1 false,I.bin 11 .eql (.t 10) k0] (.t 11),I.mv 13 (.t 12),.sc false 18 13 [I.fa 14 (.t 1) 0 9,I.fa 15 (.t 14) 2 1,I.ld 16 (.t 15) 1 false,I.bin 17 .eql (.t 16) k0] (.t 17),I.mv 19 (.t 18),.sc false 25 19 [I.fa 20 (.t 1) 0 9,I.fa 21 (.t 20) 3 1,I.ld 22 (.t 21) 1 false,I.len 23 (.t 22) .sl,I.bin 24 .eql (.t 23) k0] (.t 24),I.mv 26 (.t 25),.sc false 32 26 [I.fa 27 (.t 1) 0 9,I.fa 28 (.t 27) 5 1,I.ld 29 (.t 28) 1 false,I.len 30 (.t 29) .sl,I.bin 31 .eql (.t 30) k0] (.t 31),I.mv 33 (.t 32),.sc false 39 33 [I.fa 34 (.t 1) 0 9,I.fa 35 (.t 34) 6 1,I.ld 36 (.t 35) 1 false,I.len 37 (.t 36) .sl,I.bin 38 .eql (.t 37) k0] (.t 38),I.mv 2 (.t 39)])
 (.ret)))))
 [.t 2] false none
def F_z_249_L0:C :=
 (.seq (.reg [I.bin 12 .lss (.t 11) (.t 10)])
 ((.seq (.ite (.t 12)
 (.skip)
 (.seq (.keep [1]) (.exit 0)))
 ((.seq (.blk 1 ((.seq (.reg [I.mv 13 (.t 11),I.ixs 14 (.t 9) (.t 11) 5,I.ld 15 (.t 14) 5 true,I.new 4 zQ,I.mv 3 (.t 13),I.st (.t 4) (.t 15) 5 true])
 ((.seq (.reg [I.fa 17 (.t 1) 0 9,I.fa 18 (.t 17) 4 1,I.ld 19 (.t 18) 1 false,I.fa 20 (.t 4) 0 1,I.ld 21 (.t 20) 1 false,I.call (some 22) z_132 [(.t 19),(.t 21)],I.mv 16 (.t 22),I.ext 23 (.t 16) 0,I.ext 24 (.t 16) 1,I.mv 5 (.t 23),I.mv 6 (.t 24)])
 ((.seq (.reg [I.mv 25 (.t 5),I.mv 26 (.t 3),I.bin 27 .neq (.t 25) (.t 26),I.mv 28 (.t 27),.sc true 32 28 [I.fa 29 (.t 4) 1 1,I.ld 30 (.t 29) 1 false,I.bin 31 .neq (.t 30) (.k (.i .i64 74))] (.t 31),I.mv 33 (.t 32),.sc true 37 33 [I.fa 34 (.t 4) 2 1,I.ld 35 (.t 34) 1 false,I.bin 36 .neq (.t 35) k0] (.t 36),I.mv 38 (.t 37),.sc true 42 38 [I.fa 39 (.t 4) 4 1,I.ld 40 (.t 39) 1 false,I.bin 41 .neq (.t 40) (.k (.i .i64 (-1)))] (.t 41)])
 (.ite (.t 42)
 ((.seq (.reg [I.mv 2 (.k (.b false))])
 (.seq (.keep [2]) .ret)))
 (.skip)))))))))
 (.reg [I.bin 43 .add (.t 11) (.k (.i .i64 1)),I.mv 11 (.t 43)]))))))
def F_z_249:F:=.mk
 ((.seq (.reg [I.box 1 (.t 0) 9 true,I.mv 2 (.k (.b false))])
 ((.seq ((.seq (.reg [I.fa 7 (.t 1) 0 9,I.fa 8 (.t 7) 4 1,I.ld 9 (.t 8) 1 false,I.len 10 (.t 9) .sl,I.mv 11 k0])
 (.blk 0 (.loop [1,9,10,11] F_z_249_L0))))
 ((.seq (.reg [I.fa 44 (.t 1) 0 9,I.fa 45 (.t 44) 4 1,I.ld 46 (.t 45) 1 false,I.call (some 47) z_142 [(.k (.i .i64 1)),(.t 46)],I.bin 48 .eql (.t 47) k0,I.mv 2 (.t 48)])
 (.ret)))))))
 [.t 2] false none
def F_z_250_L0:C :=
 (.seq ((.seq (.reg [I.mv 6 (.t 5),I.fa 7 (.t 2) 3 1,I.ld 8 (.t 7) 1 false,I.len 9 (.t 8) .sl,I.bin 10 .lss (.t 6) (.t 9)])
 (.ite (.t 10)
 (.skip)
 (.seq (.keep []) (.exit 0)))))
 ((.seq (.blk 1 ((.seq (.reg [I.fa 13 (.t 2) 3 1,I.ld 14 (.t 13) 1 false,I.mv 15 (.t 5),I.ixs 16 (.t 14) (.t 15) 1,I.ld 17 (.t 16) 1 false,I.mv 18 (.t 1),I.bin 19 .eql (.t 17) (.t 18)])
 (.ite (.t 19)
 ((.seq (.reg [I.mv 4 (.k (.b true))])
 (.seq (.keep [4]) .ret)))
 (.skip)))))
 (.reg [I.mv 11 (.t 5),I.bin 12 .add (.t 11) (.k (.i .i64 1)),I.mv 5 (.t 12)]))))
def F_z_250:F:=.mk
 ((.seq (.reg [I.box 2 (.t 0) 9 true,I.mv 4 (.k (.b false))])
 ((.seq ((.seq (.reg [I.mv 5 k0])
 (.blk 0 (.loop [1,2,5] F_z_250_L0))))
 ((.seq (.reg [I.mv 4 (.k (.b false))])
 (.ret)))))))
 [.t 4] false none
def F_z_251:F:=.mk
 ((.seq (.reg [I.mv 2 (.k (.b false))])
 ((.seq (.reg [I.mv 3 (.t 0),I.bin 4 .geq (.t 3) k0,I.mv 5 (.t 4),.sc false 8 5 [I.mv 6 (.t 0),I.bin 7 .lss (.t 6) (.k (.i .i64 16))] (.t 7),I.mv 2 (.t 8)])
 (.ret)))))
 [.t 2] false none
def F_z_252:F:=.mk
 ((.seq (.reg [I.box 1 (.t 0) 5 true,I.mv 2 (.k (.b false))])
 ((.seq (.reg [I.fa 3 (.t 1) 0 1,I.ld 4 (.t 3) 1 false,I.call (some 5) z_279 [(.t 4),k0,(.k (.i .i64 15))],I.mv 6 (.t 5),.sc false 10 6 [I.fa 7 (.t 1) 1 1,I.ld 8 (.t 7) 1 false,I.call (some 9) z_279 [(.t 8),(.k (.i .i64 1)),(.k (.i .i64 99))]] (.t 9),I.mv 11 (.t 10),.sc false 15 11 [I.fa 12 (.t 1) 2 1,I.ld 13 (.t 12) 1 false,I.call (some 14) z_279 [(.t 13),(.k (.i .i64 (-1099511627776))),(.k (.i .i64 1099511627776))]] (.t 14),I.mv 16 (.t 15),.sc false 20 16 [I.fa 17 (.t 1) 3 1,I.ld 18 (.t 17) 1 false,I.call (some 19) z_279 [(.t 18),k0,(.k (.i .i64 9))]] (.t 19),I.mv 21 (.t 20),.sc false 25 21 [I.fa 22 (.t 1) 4 1,I.ld 23 (.t 22) 1 false,I.call (some 24) z_279 [(.t 23),(.k (.i .i64 (-1))),(.k (.i .i64 5))]] (.t 24),I.mv 2 (.t 25)])
 (.ret)))))
 [.t 2] false none
def F_z_253_L0:C :=
 (.seq ((.seq (.reg [I.mv 8 (.t 7),I.mv 9 (.t 0),I.len 10 (.t 9) .sl,I.bin 11 .lss (.t 8) (.t 10)])
 (.ite (.t 11)
 (.skip)
 (.seq (.keep []) (.exit 0)))))
 ((.seq (.blk 1 ((.seq (.reg [I.mv 14 (.t 0),I.mv 15 (.t 7),I.ixs 16 (.t 14) (.t 15) 5,I.fa 17 (.t 16) 1 1,I.ld 18 (.t 17) 1 false,I.mv 19 (.t 1),I.bin 20 .eql (.t 18) (.t 19),I.mv 21 (.t 20),.sc false 29 21 [I.mv 22 (.t 0),I.mv 23 (.t 7),I.ixs 24 (.t 22) (.t 23) 5,I.fa 25 (.t 24) 0 1,I.ld 26 (.t 25) 1 false,I.mv 27 (.t 2),I.bin 28 .neq (.t 26) (.t 27)] (.t 28)])
 (.ite (.t 29)
 ((.seq (.reg [I.mv 30 (.t 7),I.mv 6 (.t 30)])
 (.seq (.keep [6]) .ret)))
 (.skip)))))
 (.reg [I.mv 12 (.t 7),I.bin 13 .add (.t 12) (.k (.i .i64 1)),I.mv 7 (.t 13)]))))
def F_z_253:F:=.mk
 ((.seq (.reg [I.mv 6 k0])
 ((.seq ((.seq (.reg [I.mv 7 k0])
 (.blk 0 (.loop [0,1,2,7] F_z_253_L0))))
 ((.seq (.reg [I.mv 6 (.k (.i .i64 (-1)))])
 (.ret)))))))
 [.t 6] false none
def F_z_254_L0:C :=
 (.seq ((.seq (.reg [I.mv 6 (.t 5),I.fa 7 (.t 2) 6 1,I.ld 8 (.t 7) 1 false,I.len 9 (.t 8) .sl,I.bin 10 .lss (.t 6) (.t 9)])
 (.ite (.t 10)
 (.skip)
 (.seq (.keep []) (.exit 0)))))
 ((.seq (.blk 1 ((.seq (.reg [I.fa 13 (.t 2) 6 1,I.ld 14 (.t 13) 1 false,I.mv 15 (.t 5),I.ixs 16 (.t 14) (.t 15) 2,I.fa 17 (.t 16) 0 1,I.ld 18 (.t 17) 1 false,I.mv 19 (.t 1),I.bin 20 .eql (.t 18) (.t 19)])
 (.ite (.t 20)
 ((.seq (.reg [I.mv 21 (.t 5),I.mv 4 (.t 21)])
 (.seq (.keep [4]) .ret)))
 (.skip)))))
 (.reg [I.mv 11 (.t 5),I.bin 12 .add (.t 11) (.k (.i .i64 1)),I.mv 5 (.t 12)]))))
def F_z_254:F:=.mk
 ((.seq (.reg [I.box 2 (.t 0) 9 true,I.mv 4 k0])
 ((.seq ((.seq (.reg [I.mv 5 k0])
 (.blk 0 (.loop [1,2,5] F_z_254_L0))))
 ((.seq (.reg [I.mv 4 (.k (.i .i64 (-1)))])
 (.ret)))))))
 [.t 4] false none
def F_z_255_L0:C :=
 (.seq ((.seq (.reg [I.mv 4 (.t 3),I.fa 5 (.t 1) 4 1,I.ld 6 (.t 5) 1 false,I.len 7 (.t 6) .sl,I.bin 8 .lss (.t 4) (.t 7)])
 (.ite (.t 8)
 (.skip)
 (.seq (.keep []) (.exit 0)))))
 ((.seq (.blk 1 ((.seq (.reg [I.fa 11 (.t 1) 4 1,I.ld 12 (.t 11) 1 false,I.mv 13 (.t 3),I.ixs 14 (.t 12) (.t 13) 5,I.fa 15 (.t 14) 1 1,I.ld 16 (.t 15) 1 false,I.bin 17 .eql (.t 16) (.k (.i .i64 68))])
 (.ite (.t 17)
 ((.seq (.reg [I.mv 18 (.t 3),I.mv 2 (.t 18)])
 (.seq (.keep [2]) .ret)))
 (.skip)))))
 (.reg [I.mv 9 (.t 3),I.bin 10 .add (.t 9) (.k (.i .i64 1)),I.mv 3 (.t 10)]))))
def F_z_255:F:=.mk
 ((.seq (.reg [I.box 1 (.t 0) 9 true,I.mv 2 k0])
 ((.seq ((.seq (.reg [I.mv 3 k0])
 (.blk 0 (.loop [1,3] F_z_255_L0))))
 ((.seq (.reg [I.mv 2 (.k (.i .i64 (-1)))])
 (.ret)))))))
 [.t 2] false none
def F_z_256_L0:C :=
 (.seq ((.seq (.reg [I.mv 6 (.t 5),I.fa 7 (.t 3) 6 1,I.ld 8 (.t 7) 1 false,I.len 9 (.t 8) .sl,I.bin 10 .lss (.t 6) (.t 9)])
 (.ite (.t 10)
 (.skip)
 (.seq (.keep []) (.exit 0)))))
 ((.seq (.blk 1 ((.seq (.drw [] [0,1,2,3,4,5,6,7,8,9,10,11,12,13,14,15,16,17,18,19,20] [I.fad 13 (.t 3) 6 1,I.ldd 14 (.t 13) 1 false,I.mv 15 (.t 5),I.ixs 16 (.t 14) (.t 15) 2,I.fa 17 (.t 16) 1 1,I.ld 18 (.t 17) 1 false,I.len 19 (.t 18) .sl,I.fad 20 (.t 2) 2 1,I.ldd 21 (.t 20) 1 false,I.bin 22 .geq (.t 19) (.t 21),I.mv 23 (.t 22),.sc false 33 23 [I.ldd 24 (.t 3) 9 true,I.fad 25 (.t 3) 6 1,I.ldd 26 (.t 25) 1 false,I.mv 27 (.t 5),I.ixs 28 (.t 26) (.t 27) 2,I.fa 29 (.t 28) 0 1,I.ld 30 (.t 29) 1 false,I.call (some 31) z_280 [(.t 24),(.t 30),(.k (.i .i64 70))],I.un 32 .not (.t 31)] (.t 32)])
 (.ite (.t 33)
 ((.seq (.reg [I.mv 4 (.k (.b true))])
 (.seq (.keep [4]) .ret)))
 (.skip)))))
 (.reg [I.mv 11 (.t 5),I.bin 12 .add (.t 11) (.k (.i .i64 1)),I.mv 5 (.t 12)]))))
def F_z_256:F:=.mk
 ((.seq (.reg [I.box 2 (.t 0) 4 true,I.box 3 (.t 1) 9 true,I.mv 4 (.k (.b false))])
 ((.seq ((.seq (.reg [I.mv 5 k0])
 (.blk 0 (.loop [2,3,5] F_z_256_L0))))
 ((.seq (.reg [I.mv 4 (.k (.b false))])
 (.ret)))))))
 [.t 4] false none
def F_z_261_L0:C :=
 (.seq (.reg [I.bin 9 .lss (.t 8) (.t 7)])
 ((.seq (.ite (.t 9)
 (.skip)
 (.seq (.keep []) (.exit 0)))
 ((.seq (.blk 1 ((.seq (.reg [I.mv 10 (.t 8),I.mv 5 (.t 10)])
 ((.seq (.reg [I.mv 11 (.t 1),I.mv 12 (.t 0),I.mv 13 (.t 5),I.ixs 14 (.t 12) (.t 13) 1,I.ld 15 (.t 14) 1 false,I.bin 16 .eql (.t 11) (.t 15)])
 (.ite (.t 16)
 ((.seq (.reg [I.mv 17 (.t 5),I.mv 4 (.t 17)])
 (.seq (.keep [4]) .ret)))
 (.skip)))))))
 (.reg [I.bin 18 .add (.t 8) (.k (.i .i64 1)),I.mv 8 (.t 18)]))))))
def F_z_261:F:=.mk
 ((.seq (.reg [I.mv 4 k0])
 ((.seq ((.seq (.reg [I.mv 6 (.t 0),I.len 7 (.t 6) .sl,I.mv 8 k0])
 (.blk 0 (.loop [0,1,7,8] F_z_261_L0))))
 ((.seq (.reg [I.mv 4 (.k (.i .i64 (-1)))])
 (.ret)))))))
 [.t 4] false none
def F_z_262_L0:C :=
 (.seq ((.seq (.reg [I.mv 13 (.t 7),I.mv 14 (.t 8),I.bin 15 .lss (.t 13) (.t 14)])
 (.ite (.t 15)
 (.skip)
 (.seq (.keep [0,1,6,7]) (.exit 0)))))
 (.blk 1 ((.seq (.reg [I.mv 16 (.t 7),I.mv 17 (.t 8),I.bin 18 .add (.t 16) (.t 17),I.cvi 19 .u64 (.t 18),I.bin 20 .shr (.t 19) (.k (.i .u64 1)),I.cvi 21 .i64 (.t 20),I.mv 9 (.t 21)])
 ((.seq (.reg [I.mv 22 (.t 0),I.mv 23 (.t 9),I.ixs 24 (.t 22) (.t 23) 1,I.ld 25 (.t 24) 1 false,I.mv 26 (.t 1),I.call (some 27) z_284 [(.t 25),(.t 26)]])
 (.ite (.t 27)
 (.reg [I.mv 28 (.t 9),I.bin 29 .add (.t 28) (.k (.i .i64 1)),I.mv 7 (.t 29)])
 (.reg [I.mv 30 (.t 9),I.mv 8 (.t 30)]))))))))
def F_z_262:F:=.mk
 ((.seq (.reg [I.mv 4 k0,I.mv 5 (.k (.b false))])
 ((.seq (.reg [I.mv 10 (.t 0),I.len 11 (.t 10) .sl,I.mv 6 (.t 11)])
 ((.seq (.reg [I.mv 12 (.t 6),I.mv 7 k0,I.mv 8 (.t 12)])
 ((.seq (.blk 0 (.loop [0,1,6,7,8] F_z_262_L0))
 ((.seq (.reg [I.mv 31 (.t 7),I.mv 32 (.t 7),I.mv 33 (.t 6),I.bin 34 .lss (.t 32) (.t 33),I.mv 35 (.t 34),.sc false 53 35 [I.mv 36 (.t 0),I.mv 37 (.t 7),I.ixs 38 (.t 36) (.t 37) 1,I.ld 39 (.t 38) 1 false,I.mv 40 (.t 1),I.bin 41 .eql (.t 39) (.t 40),I.mv 42 (.t 41),.sc true 52 42 [I.mv 43 (.t 0),I.mv 44 (.t 7),I.ixs 45 (.t 43) (.t 44) 1,I.ld 46 (.t 45) 1 false,I.call (some 47) z_285 [(.t 46)],I.mv 48 (.t 47),.sc false 51 48 [I.mv 49 (.t 1),I.call (some 50) z_285 [(.t 49)]] (.t 50)] (.t 51)] (.t 52),I.mv 4 (.t 31),I.mv 5 (.t 53)])
 (.ret)))))))))))
 [.t 4,.t 5] false none
def F_z_262q_L0:C :=
 (.seq ((.seq (.reg [I.mv 13 (.t 7),I.mv 14 (.t 8),I.bin 15 .lss (.t 13) (.t 14)])
 (.ite (.t 15)
 (.skip)
 (.seq (.keep [0,1,6,7]) (.exit 0)))))
 (.blk 1 ((.seq (.reg [I.mv 16 (.t 7),I.mv 17 (.t 8),I.bin 18 .add (.t 16) (.t 17),I.cvi 19 .u64 (.t 18),I.bin 20 .shr (.t 19) (.k (.i .u64 1)),I.cvi 21 .i64 (.t 20),I.mv 9 (.t 21)])
 ((.seq (.reg [I.mv 22 (.t 0),I.mv 23 (.t 9),I.ixs 24 (.t 22) (.t 23) 1,I.ld 25 (.t 24) 1 false,I.mv 26 (.t 1),I.call (some 27) z_284 [(.t 25),(.t 26)]])
 (.ite (.t 27)
 (.reg [I.mv 28 (.t 9),I.bin 29 .add (.t 28) (.k (.i .i64 1)),I.mv 7 (.t 29)])
 (.reg [I.mv 30 (.t 9),I.mv 8 (.t 30)]))))))))
def F_z_262q:F:=.mk
 ((.seq (.reg [I.mv 4 k0,I.mv 5 (.k (.b false))])
 ((.seq (.reg [I.mv 10 (.t 0),I.len 11 (.t 10) .sl,I.mv 6 (.t 11)])
 ((.seq (.reg [I.mv 12 (.t 6),I.mv 7 k0,I.mv 8 (.t 12)])
 ((.seq (.blk 0 (.loop [0,1,6,7,8] F_z_262q_L0))
 ((.seq (.reg [I.mv 31 (.t 7),I.mv 32 (.t 7),I.mv 33 (.t 6),I.bin 34 .lss (.t 32) (.t 33),I.mv 35 (.t 34),.sc false 53 35 [I.mv 36 (.t 0),I.mv 37 (.t 7),I.ixs 38 (.t 36) (.t 37) 1,I.ld 39 (.t 38) 1 false,I.mv 40 (.t 1),I.bin 41 .eql (.t 39) (.t 40),I.mv 42 (.t 41),.sc true 52 42 [I.mv 43 (.t 0),I.mv 44 (.t 7),I.ixs 45 (.t 43) (.t 44) 1,I.ld 46 (.t 45) 1 false,I.call (some 47) z_285 [(.t 46)],I.mv 48 (.t 47),.sc false 51 48 [I.mv 49 (.t 1),I.call (some 50) z_285 [(.t 49)]] (.t 50)] (.t 51)] (.t 52),I.mv 4 (.t 31),I.mv 5 (.t 53)])
 (.ret)))))))))))
 [.t 4,.t 5] true none
def R_z_263:F:=.mk
 ((.seq (.reg [I.mv 6 (.k (.sl 1 true []))])
 ((.seq (.reg [I.mv 10 (.t 0),I.mv 11 (.t 1),I.sl 12 (.t 10) (some (.t 11)) none 1])
 ((.seq (.reg [I.mv 13 (.t 2),I.len 14 (.t 13) .sl,I.mv 7 (.t 14)])
 ((.seq ((.seq (.reg [I.mv 15 (.t 7),I.bin 16 .eql (.t 15) k0])
 (.ite (.t 16)
 ((.seq (.reg [I.mv 17 (.t 0),I.mv 6 (.t 17)])
 (.ret)))
 (.skip))))
 ((.seq (.reg [I.mv 18 (.t 0),I.len 19 (.t 18) .sl,I.mv 8 (.t 19)])
 ((.seq ((.seq (.reg [I.mv 20 (.t 1),I.mv 21 (.t 8),I.bin 22 .eql (.t 20) (.t 21)])
 (.ite (.t 22)
 ((.seq (.reg [I.mv 23 (.t 0),I.mv 24 (.t 2),I.app 25 (.t 23) (.t 24) 1,I.mv 6 (.t 25)])
 (.ret)))
 (.skip))))
 ((.seq ((.seq (.reg [I.mv 26 (.t 8),I.mv 27 (.t 7),I.bin 28 .add (.t 26) (.t 27),I.mv 29 (.t 0),I.cap 30 (.t 29),I.bin 31 .gtr (.t 28) (.t 30)])
 (.ite (.t 31)
 ((.seq (.reg [I.mv 32 (.t 0),I.mv 33 (.t 1),I.sl 34 (.t 32) none (some (.t 33)) 1,I.mv 35 (.t 8),I.mv 36 (.t 7),I.bin 37 .add (.t 35) (.t 36),I.mv 38 (.t 1),I.bin 39 .sub (.t 37) (.t 38),I.appz 40 (.t 34) (.t 39) 1 [(.i .i64 0)],I.mv 9 (.t 40)])
 ((.seq (.reg [I.mv 41 (.t 9),I.mv 42 (.t 1),I.sl 43 (.t 41) (some (.t 42)) none 1,I.mv 44 (.t 2),I.copy (some 45) (.t 43) (.t 44) 1])
 ((.seq (.drw [] [0,1,2,3,4,5,6,7,8] [I.mv 46 (.t 9),I.mv 47 (.t 1),I.mv 48 (.t 7),I.bin 49 .add (.t 47) (.t 48),I.sl 50 (.t 46) (some (.t 49)) none 1,I.mv 51 (.t 0),I.mv 52 (.t 1),I.sl 53 (.t 51) (some (.t 52)) none 1,I.copy (some 54) (.t 50) (.t 53) 1])
 ((.seq (.reg [I.mv 55 (.t 9),I.mv 6 (.t 55)])
 (.ret)))))))))
 (.skip))))
 ((.seq (.reg [I.mv 56 (.t 0),I.mv 57 (.t 8),I.mv 58 (.t 7),I.bin 59 .add (.t 57) (.t 58),I.sl 60 (.t 56) none (some (.t 59)) 1,I.mv 0 (.t 60)])
 ((.seq ((.seq (.reg [I.mv 61 (.t 2),I.mv 62 (.t 0),I.mv 63 (.t 1),I.mv 64 (.t 7),I.bin 65 .add (.t 63) (.t 64),I.sl 66 (.t 62) (some (.t 65)) none 1,I.ovl 67 z_286 (.t 61) (.t 66) 1,I.un 68 .not (.t 67)])
 (.ite (.t 68)
 ((.seq (.drw [] [0,1,2,3,4,5,6,7,8] [I.mv 69 (.t 0),I.mv 70 (.t 1),I.mv 71 (.t 7),I.bin 72 .add (.t 70) (.t 71),I.sl 73 (.t 69) (some (.t 72)) none 1,I.mv 74 (.t 0),I.mv 75 (.t 1),I.sl 76 (.t 74) (some (.t 75)) none 1,I.copy (some 77) (.t 73) (.t 76) 1])
 ((.seq (.reg [I.mv 78 (.t 0),I.mv 79 (.t 1),I.sl 80 (.t 78) (some (.t 79)) none 1,I.mv 81 (.t 2),I.copy (some 82) (.t 80) (.t 81) 1])
 ((.seq (.reg [I.mv 83 (.t 0),I.mv 6 (.t 83)])
 (.ret)))))))
 (.skip))))
 ((.seq (.reg [I.mv 84 (.t 0),I.mv 85 (.t 8),I.sl 86 (.t 84) (some (.t 85)) none 1,I.mv 87 (.t 2),I.copy (some 88) (.t 86) (.t 87) 1])
 ((.seq (.reg [I.mv 89 (.t 0),I.mv 90 (.t 1),I.sl 91 (.t 89) (some (.t 90)) none 1,I.mv 92 (.t 7),I.call (some 93) z_287 [(.t 91),(.t 92)]])
 ((.seq (.reg [I.mv 94 (.t 0),I.mv 6 (.t 94)])
 (.ret)))))))))))))))))))))))))
 [.t 6] false none
def F_z_265:F:=.mk
 ((.seq (.reg [I.box 2 (.t 0) 5 true,I.mv 3 (.k (.b false))])
 ((.seq (.reg [I.fa 4 (.t 2) 0 1,I.ld 5 (.t 4) 1 false,I.fa 6 (.t 1) 0 1,I.ld 7 (.t 6) 1 false,I.bin 8 .eql (.t 5) (.t 7),I.mv 9 (.t 8),.sc false 25 9 [I.fa 10 (.t 2) 4 1,I.ld 11 (.t 10) 1 false,I.bin 12 .eql (.t 11) (.k (.i .i64 (-1))),I.mv 13 (.t 12),.sc true 17 13 [I.fa 14 (.t 1) 4 1,I.ld 15 (.t 14) 1 false,I.bin 16 .eql (.t 15) (.k (.i .i64 (-1)))] (.t 16),I.mv 18 (.t 17),.sc true 24 18 [I.fa 19 (.t 2) 4 1,I.ld 20 (.t 19) 1 false,I.fa 21 (.t 1) 4 1,I.ld 22 (.t 21) 1 false,I.bin 23 .eql (.t 20) (.t 22)] (.t 23)] (.t 24),I.mv 3 (.t 25)])
 (.ret)))))
 [.t 3] false none
def F_z_266:F:=.mk
 ((.seq (.reg [I.box 3 (.t 0) 5 true,I.mv 4 (.k (.b false))])
 ((.seq ((.seq (.reg [I.fa 5 (.t 3) 1 1,I.ld 6 (.t 5) 1 false,I.bin 7 .eql (.t 6) (.k (.i .i64 64))])
 (.ite (.t 7)
 ((.seq (.reg [I.fa 8 (.t 1) 5 1,I.ld 9 (.t 8) 1 false,I.len 10 (.t 9) .sl,I.fa 11 (.t 2) 2 1,I.ld 12 (.t 11) 1 false,I.bin 13 .neq (.t 10) (.t 12),I.mv 14 (.t 13),.sc true 20 14 [I.fa 15 (.t 1) 4 1,I.ld 16 (.t 15) 1 false,I.fa 17 (.t 3) 0 1,I.ld 18 (.t 17) 1 false,I.call (some 19) z_267 [(.t 16),(.k (.i .i64 65)),(.t 18)]] (.t 19),I.mv 4 (.t 20)])
 (.ret)))
 (.skip))))
 ((.seq (.reg [I.fa 21 (.t 1) 5 1,I.ld 22 (.t 21) 1 false,I.len 23 (.t 22) .sl,I.bin 24 .gtr (.t 23) k0,I.mv 25 (.t 24),.sc true 31 25 [I.fa 26 (.t 1) 4 1,I.ld 27 (.t 26) 1 false,I.fa 28 (.t 3) 0 1,I.ld 29 (.t 28) 1 false,I.call (some 30) z_267 [(.t 27),(.k (.i .i64 64)),(.t 29)]] (.t 30),I.mv 4 (.t 31)])
 (.ret)))))))
 [.t 4] false none
def F_z_267:F:=.mk
 ((.seq (.reg [I.box 4 (.t 1) 1 true,I.box 5 (.t 2) 1 true,I.mv 6 (.k (.b false))])
 ((.seq (.reg [I.mv 7 (.t 0),I.mkf 8 z_288 [] [(.t 4),(.t 5)],I.call (some 9) z_57 [(.t 7),(.t 8)],I.mv 6 (.t 9)])
 (.ret)))))
 [.t 6] false none
def F_z_274:F:=.mk
 (.reg [I.mv 4 (.t 0),I.mv 5 (.t 0),I.len 6 (.t 5) .sl,I.mv 7 (.t 1),I.bin 8 .sub (.t 6) (.t 7),I.call (some 9) z_291 [(.t 4),(.t 8)]])
 [] false none
def F_z_278:F:=.mk
 ((.seq (.reg [I.box 3 (.t 0) 5 true,I.mv 4 (.k (.b false))])
 ((.seq (.reg [I.fa 5 (.t 3) 0 1,I.ld 6 (.t 5) 1 false,I.ld 7 (.t 1) 1 false,I.bin 8 .eql (.t 6) (.t 7),I.mv 9 (.t 8),.sc false 14 9 [I.fa 10 (.t 3) 1 1,I.ld 11 (.t 10) 1 false,I.ld 12 (.t 2) 1 false,I.bin 13 .eql (.t 11) (.t 12)] (.t 13),I.mv 4 (.t 14)])
 (.ret)))))
 [.t 4] false none
def F_z_279:F:=.mk
 ((.seq (.reg [I.mv 6 (.k (.b false))])
 ((.seq (.reg [I.mv 7 (.t 0),I.mv 8 (.t 1),I.bin 9 .geq (.t 7) (.t 8),I.mv 10 (.t 9),.sc false 14 10 [I.mv 11 (.t 0),I.mv 12 (.t 2),I.bin 13 .leq (.t 11) (.t 12)] (.t 13),I.mv 6 (.t 14)])
 (.ret)))))
 [.t 6] false none
def F_z_280_L0:C :=
 (.seq ((.seq (.reg [I.mv 8 (.t 7),I.fa 9 (.t 3) 4 1,I.ld 10 (.t 9) 1 false,I.len 11 (.t 10) .sl,I.bin 12 .lss (.t 8) (.t 11)])
 (.ite (.t 12)
 (.skip)
 (.seq (.keep []) (.exit 0)))))
 ((.seq (.blk 1 ((.seq (.reg [I.fa 15 (.t 3) 4 1,I.ld 16 (.t 15) 1 false,I.mv 17 (.t 7),I.ixs 18 (.t 16) (.t 17) 5,I.fa 19 (.t 18) 0 1,I.ld 20 (.t 19) 1 false,I.mv 21 (.t 1),I.bin 22 .eql (.t 20) (.t 21),I.mv 23 (.t 22),.sc false 32 23 [I.fa 24 (.t 3) 4 1,I.ld 25 (.t 24) 1 false,I.mv 26 (.t 7),I.ixs 27 (.t 25) (.t 26) 5,I.fa 28 (.t 27) 1 1,I.ld 29 (.t 28) 1 false,I.mv 30 (.t 2),I.bin 31 .eql (.t 29) (.t 30)] (.t 31)])
 (.ite (.t 32)
 ((.seq (.reg [I.mv 6 (.k (.b true))])
 (.seq (.keep [6]) .ret)))
 (.skip)))))
 (.reg [I.mv 13 (.t 7),I.bin 14 .add (.t 13) (.k (.i .i64 1)),I.mv 7 (.t 14)]))))
def F_z_280:F:=.mk
 ((.seq (.reg [I.box 3 (.t 0) 9 true,I.mv 6 (.k (.b false))])
 ((.seq ((.seq (.reg [I.mv 7 k0])
 (.blk 0 (.loop [1,2,3,7] F_z_280_L0))))
 ((.seq (.reg [I.mv 6 (.k (.b false))])
 (.ret)))))))
 [.t 6] false none
def F_z_281:F:=.mk
 ((.seq (.reg [I.mv 2 (.k (.b false))])
 ((.seq (.reg [I.mv 3 (.t 0),I.mv 4 (.t 0),I.bin 5 .neq (.t 3) (.t 4),I.mv 2 (.t 5)])
 (.ret)))))
 [.t 2] false none
def F_z_284:F:=.mk
 ((.seq (.reg [I.mv 4 (.k (.b false))])
 ((.seq (.reg [I.mv 5 (.t 0),I.call (some 6) z_281 [(.t 5)],I.mv 7 (.t 6),.sc false 11 7 [I.mv 8 (.t 1),I.call (some 9) z_281 [(.t 8)],I.un 10 .not (.t 9)] (.t 10),I.mv 12 (.t 11),.sc true 16 12 [I.mv 13 (.t 0),I.mv 14 (.t 1),I.bin 15 .lss (.t 13) (.t 14)] (.t 15),I.mv 4 (.t 16)])
 (.ret)))))
 [.t 4] false none
def F_z_285:F:=.mk
 ((.seq (.reg [I.mv 2 (.k (.b false))])
 ((.seq (.reg [I.mv 3 (.t 0),I.mv 4 (.t 0),I.bin 5 .neq (.t 3) (.t 4),I.mv 2 (.t 5)])
 (.ret)))))
 [.t 2] false none
def F_z_287:F:=.mk
 (.reg [I.mv 4 (.t 0),I.mv 5 (.t 0),I.len 6 (.t 5) .sl,I.mv 7 (.t 1),I.bin 8 .sub (.t 6) (.t 7),I.call (some 9) z_293 [(.t 4),(.t 8)]])
 [] false none
def F_z_288:F:=.mk
 ((.seq (.reg [I.box 3 (.t 0) 5 true,I.mv 4 (.k (.b false))])
 ((.seq (.reg [I.fa 5 (.t 3) 1 1,I.ld 6 (.t 5) 1 false,I.ld 7 (.t 1) 1 false,I.bin 8 .eql (.t 6) (.t 7),I.mv 9 (.t 8),.sc false 14 9 [I.fa 10 (.t 3) 0 1,I.ld 11 (.t 10) 1 false,I.ld 12 (.t 2) 1 false,I.bin 13 .neq (.t 11) (.t 12)] (.t 13),I.mv 4 (.t 14)])
 (.ret)))))
 [.t 4] false none
def F_z_291:F:=.mk
 ((.seq (.reg [I.mv 4 (.t 0),I.mv 5 (.t 1),I.sl 6 (.t 4) none (some (.t 5)) 2,I.call (some 7) z_294 [(.t 6)]])
 ((.seq (.reg [I.mv 8 (.t 0),I.mv 9 (.t 1),I.sl 10 (.t 8) (some (.t 9)) none 2,I.call (some 11) z_294 [(.t 10)]])
 (.reg [I.mv 12 (.t 0),I.call (some 13) z_294 [(.t 12)]])))))
 [] false none
def F_z_293:F:=.mk
 ((.seq (.reg [I.mv 4 (.t 0),I.mv 5 (.t 1),I.sl 6 (.t 4) none (some (.t 5)) 1,I.call (some 7) z_296 [(.t 6)]])
 ((.seq (.reg [I.mv 8 (.t 0),I.mv 9 (.t 1),I.sl 10 (.t 8) (some (.t 9)) none 1,I.call (some 11) z_296 [(.t 10)]])
 (.reg [I.mv 12 (.t 0),I.call (some 13) z_296 [(.t 12)]])))))
 [] false none
def F_z_294_L0:C :=
 (.seq ((.seq (.reg [I.mv 7 (.t 2),I.mv 8 (.t 3),I.bin 9 .lss (.t 7) (.t 8)])
 (.ite (.t 9)
 (.skip)
 (.seq (.keep []) (.exit 0)))))
 ((.seq (.blk 1 (.drw [] [0,1,2,3,4,5,6,7,8,9,10,11,12,13,14,15] [I.mv 14 (.t 0),I.mv 15 (.t 2),I.mv 16 (.t 0),I.mv 17 (.t 3),I.mv 18 (.t 0),I.mv 19 (.t 3),I.ixs 20 (.t 18) (.t 19) 2,I.ld 21 (.t 20) 2 true,I.mv 22 (.t 0),I.mv 23 (.t 2),I.ixs 24 (.t 22) (.t 23) 2,I.ld 25 (.t 24) 2 true,I.ixs 26 (.t 14) (.t 15) 2,I.st (.t 26) (.t 21) 2 false,I.ixs 27 (.t 16) (.t 17) 2,I.st (.t 27) (.t 25) 2 false]))
 (.reg [I.mv 10 (.t 2),I.bin 11 .add (.t 10) (.k (.i .i64 1)),I.mv 12 (.t 3),I.bin 13 .sub (.t 12) (.k (.i .i64 1)),I.mv 2 (.t 11),I.mv 3 (.t 13)]))))
def F_z_294:F:=.mk
 ((.seq (.reg [I.mv 4 (.t 0),I.len 5 (.t 4) .sl,I.bin 6 .sub (.t 5) (.k (.i .i64 1)),I.mv 2 k0,I.mv 3 (.t 6)])
 (.blk 0 (.loop [0,2,3] F_z_294_L0))))
 [] false none
def F_z_296_L0:C :=
 (.seq ((.seq (.reg [I.mv 7 (.t 2),I.mv 8 (.t 3),I.bin 9 .lss (.t 7) (.t 8)])
 (.ite (.t 9)
 (.skip)
 (.seq (.keep []) (.exit 0)))))
 ((.seq (.blk 1 (.drw [] [0,1,2,3,4,5,6,7,8,9,10,11,12,13,14,15] [I.mv 14 (.t 0),I.mv 15 (.t 2),I.mv 16 (.t 0),I.mv 17 (.t 3),I.mv 18 (.t 0),I.mv 19 (.t 3),I.ixs 20 (.t 18) (.t 19) 1,I.ld 21 (.t 20) 1 false,I.mv 22 (.t 0),I.mv 23 (.t 2),I.ixs 24 (.t 22) (.t 23) 1,I.ld 25 (.t 24) 1 false,I.ixs 26 (.t 14) (.t 15) 1,I.st (.t 26) (.t 21) 1 false,I.ixs 27 (.t 16) (.t 17) 1,I.st (.t 27) (.t 25) 1 false]))
 (.reg [I.mv 10 (.t 2),I.bin 11 .add (.t 10) (.k (.i .i64 1)),I.mv 12 (.t 3),I.bin 13 .sub (.t 12) (.k (.i .i64 1)),I.mv 2 (.t 11),I.mv 3 (.t 13)]))))
def F_z_296:F:=.mk
 ((.seq (.reg [I.mv 4 (.t 0),I.len 5 (.t 4) .sl,I.bin 6 .sub (.t 5) (.k (.i .i64 1)),I.mv 2 k0,I.mv 3 (.t 6)])
 (.blk 0 (.loop [0,2,3] F_z_296_L0))))
 [] false none
def F_z_312:F:=.mk
 ((.seq (.reg [I.box 3 (.t 0) 2 true,I.box 4 (.t 1) 4 true,I.box 5 (.t 2) 9 true,I.mv 6 (.k (.b false))])
 ((.seq (.reg [I.fa 7 (.t 3) 1 1,I.ld 8 (.t 7) 1 false,I.ld 9 (.t 4) 4 true,I.ld 10 (.t 5) 9 true,I.callv (some 11) (.t 8) [(.t 9),(.t 10)],I.bin 12 .eql (.t 11) k0,I.mv 6 (.t 12)])
 (.ret)))))
 [.t 6] false none
def F_z_313:F:=.mk
 ((.seq (.reg [I.box 3 (.t 0) 2 true,I.box 4 (.t 1) 4 true,I.box 5 (.t 2) 9 true,I.mv 6 k0])
 ((.seq (.reg [I.fa 7 (.t 3) 1 1,I.ld 8 (.t 7) 1 false,I.ld 9 (.t 4) 4 true,I.ld 10 (.t 5) 9 true,I.callv (some 11) (.t 8) [(.t 9),(.t 10)],I.mv 6 (.t 11)])
 (.ret)))))
 [.t 6] false none
def F_z_314:F:=.mk
 ((.seq (.reg [I.box 2 (.t 0) 2 true,I.box 3 (.t 1) 4 true,I.new 4 zR,I.mv 5 k0])
 ((.seq (.reg [I.fa 6 (.t 2) 0 1,I.ld 7 (.t 6) 1 false,I.ld 8 (.t 3) 4 true,I.callv (some 9) (.t 7) [(.t 8)],I.ext 10 (.t 9) 0,I.ext 11 (.t 9) 1,I.st (.t 4) (.t 10) 9 false,I.mv 5 (.t 11)])
 (.ret)))))
 [.c 4 9 true,.t 5] false none
def F_z_315:F:=.mk
 ((.seq (.reg [I.box 4 (.t 0) 2 true,I.box 5 (.t 1) 4 true,I.box 6 (.t 2) 9 false,I.box 7 (.t 3) 5 true,I.new 8 zR,I.mv 9 k0,I.mv 10 (.k (.b false)),I.mv 11 k0])
 ((.seq (.blk 0 ((.seq (.reg [I.fa 14 (.t 7) 1 1,I.ld 15 (.t 14) 1 false,I.bin 16 .eql (.t 15) (.k (.i .i64 52)),I.mv 17 (.t 16),.sc false 23 17 [I.fa 18 (.t 6) 0 1,I.ld 19 (.t 18) 1 false,I.fa 20 (.t 7) 0 1,I.ld 21 (.t 20) 1 false,I.bin 22 .neq (.t 19) (.t 21)] (.t 22),I.mv 13 (.t 23)])
 (.ite (.t 13)
 ((.seq (.reg [I.ld 24 (.t 6) 9 true,I.st (.t 8) (.t 24) 9 false,I.mv 9 k0,I.mv 10 (.k (.b false)),I.mv 11 (.k (.i .i64 20))])
 (.ret)))
 ((.seq (.reg [I.fa 26 (.t 7) 1 1,I.ld 27 (.t 26) 1 false,I.bin 28 .eql (.t 27) (.k (.i .i64 52)),I.mv 25 (.t 28)])
 (.ite (.t 25)
 (.reg [I.fa 29 (.t 6) 0 1,I.st (.t 29) (.k (.i .i64 (-1))) 1 false])
 ((.seq (.reg [I.fa 31 (.t 6) 0 1,I.ld 32 (.t 31) 1 false,I.bin 33 .lss (.t 32) k0,I.mv 30 (.t 33)])
 (.ite (.t 30)
 (.reg [I.fa 34 (.t 7) 0 1,I.ld 35 (.t 34) 1 false,I.fa 36 (.t 6) 0 1,I.st (.t 36) (.t 35) 1 false])
 ((.seq (.reg [I.fa 38 (.t 7) 1 1,I.ld 39 (.t 38) 1 false,I.bin 40 .eql (.t 39) (.k (.i .i64 51)),I.mv 37 (.t 40)])
 (.ite (.t 37)
 ((.seq (.reg [I.ld 41 (.t 6) 9 true,I.st (.t 8) (.t 41) 9 false,I.mv 9 k0,I.mv 10 (.k (.b false)),I.mv 11 k0])
 (.ret)))
 ((.seq (.reg [I.fa 43 (.t 6) 0 1,I.ld 44 (.t 43) 1 false,I.fa 45 (.t 7) 0 1,I.ld 46 (.t 45) 1 false,I.bin 47 .eql (.t 44) (.t 46),I.mv 42 (.t 47)])
 (.ite (.t 42)
 ((.seq (.reg [I.ld 48 (.t 6) 9 true,I.st (.t 8) (.t 48) 9 false,I.mv 9 k0,I.mv 10 (.k (.b false)),I.mv 11 (.k (.i .i64 17))])
 (.ret)))
 ((.seq (.reg [I.ld 12 (.t 6) 9 true,I.st (.t 8) (.t 12) 9 false,I.mv 9 k0,I.mv 10 (.k (.b false)),I.mv 11 (.k (.i .i64 29))])
 (.ret)))))))))))))))))))
 ((.seq (.reg [I.ld 49 (.t 6) 9 true,I.st (.t 8) (.t 49) 9 false,I.mv 9 k0,I.mv 10 (.k (.b true)),I.mv 11 k0])
 (.ret)))))))
 [.c 8 9 true,.t 9,.t 10,.t 11] false none
def F_z_316:F:=.mk
 ((.seq (.reg [I.box 4 (.t 0) 2 true,I.box 5 (.t 1) 4 true,I.box 6 (.t 2) 9 true,I.box 7 (.t 3) 5 true,I.mv 8 (.k (.b false))])
 ((.seq (.reg [I.ld 9 (.t 5) 4 true,I.ld 10 (.t 6) 9 true,I.ld 11 (.t 7) 5 true,I.call (some 12) z_317 [(.t 9),(.t 10),(.t 11)],I.mv 8 (.t 12)])
 (.ret)))))
 [.t 8] false none
def F_z_317:F:=.mk
 ((.seq (.reg [I.box 3 (.t 0) 4 true,I.box 4 (.t 1) 9 true,I.box 5 (.t 2) 5 true,I.mv 6 (.k (.b false))])
 ((.seq (.drw [] [0,1,2,3,4,5,6,7,8,9,10,11,12,13,14] [I.fad 7 (.t 4) 4 1,I.ldd 8 (.t 7) 1 false,I.ixs 9 (.t 8) k0 5,I.fa 10 (.t 9) 0 1,I.ld 11 (.t 10) 1 false,I.fad 12 (.t 5) 0 1,I.ldd 13 (.t 12) 1 false,I.bin 14 .eql (.t 11) (.t 13),I.mv 15 (.t 14),.sc false 20 15 [I.ldd 16 (.t 3) 4 true,I.ldd 17 (.t 4) 9 true,I.ldd 18 (.t 5) 5 true,I.call (some 19) z_318 [(.t 16),(.t 17),(.t 18)]] (.t 19),I.mv 6 (.t 20)])
 (.ret)))))
 [.t 6] false none
def F_z_318:F:=.mk
 ((.seq (.reg [I.box 3 (.t 0) 4 true,I.box 4 (.t 1) 9 false,I.box 5 (.t 2) 5 true,I.mv 6 (.k (.b false))])
 ((.seq (.reg [I.fa 8 (.t 4) 2 1,I.ld 9 (.t 8) 1 false,I.mv 7 (.t 9)])
 ((.seq (.reg [I.fa 10 (.t 4) 4 1,I.st (.t 10) (.k (.sl 5 true [])) 1 false])
 ((.seq (.reg [I.ld 11 (.t 3) 4 true,I.ld 12 (.t 4) 9 true,I.fa 13 (.t 5) 0 1,I.ld 14 (.t 13) 1 false,I.fa 15 (.t 5) 1 1,I.ld 16 (.t 15) 1 false,I.fa 17 (.t 5) 2 1,I.ld 18 (.t 17) 1 false,I.fa 19 (.t 5) 3 1,I.ld 20 (.t 19) 1 false,I.mv 21 (.t 7),I.build 22 zQ [(0,1,(.t 14)),(1,1,(.t 16)),(2,1,(.t 18)),(3,1,(.t 20)),(4,1,(.t 21))],I.call (some 23) z_18 [(.t 11),(.t 12),(.t 22)],I.mv 6 (.t 23)])
 (.ret)))))))))
 [.t 6] false none
def F_z_319:F:=.mk
 ((.seq (.reg [I.box 4 (.t 0) 2 true,I.box 5 (.t 1) 4 true,I.box 6 (.t 2) 9 false,I.box 7 (.t 3) 5 true,I.new 8 zR,I.mv 9 k0,I.mv 10 (.k (.b false)),I.mv 11 k0])
 ((.seq (.reg [I.fa 15 (.t 6) 3 1,I.ld 16 (.t 15) 1 false,I.fa 17 (.t 7) 0 1,I.ld 18 (.t 17) 1 false,I.call (some 19) z_262 [(.t 16),(.t 18)],I.mv 14 (.t 19),I.ext 20 (.t 14) 0,I.ext 21 (.t 14) 1,I.mv 12 (.t 20),I.mv 13 (.t 21)])
 ((.seq ((.seq (.reg [I.fa 22 (.t 7) 1 1,I.ld 23 (.t 22) 1 false])
 (.blk 0 ((.seq (.reg [I.bin 25 .eql (.t 23) (.k (.i .i64 54)),I.mv 24 (.t 25)])
 (.ite (.t 24)
 ((.seq ((.seq (.reg [I.mv 26 (.t 13),I.un 27 .not (.t 26)])
 (.ite (.t 27)
 ((.seq (.reg [I.ld 28 (.t 6) 9 true,I.st (.t 8) (.t 28) 9 false,I.mv 9 k0,I.mv 10 (.k (.b false)),I.mv 11 (.k (.i .i64 20))])
 (.ret)))
 (.skip))))
 ((.seq (.reg [I.fa 29 (.t 6) 3 1,I.ld 30 (.t 29) 1 false,I.callk (some 31) z_214 [(.t 30)],I.mv 32 (.t 12),I.mv 33 (.t 12),I.bin 34 .add (.t 33) (.k (.i .i64 1)),I.callz 35 z_321 [(.t 31),(.t 32),(.t 34)],I.fa 36 (.t 6) 3 1,I.st (.t 36) (.t 35) 1 false])
 ((.seq (.reg [I.ld 37 (.t 6) 9 true,I.st (.t 8) (.t 37) 9 false,I.mv 9 k0,I.mv 10 (.k (.b true)),I.mv 11 k0])
 (.ret)))))))
 ((.seq (.reg [I.bin 39 .eql (.t 23) (.k (.i .i64 56)),I.mv 38 (.t 39)])
 (.ite (.t 38)
 ((.seq ((.seq (.reg [I.fa 40 (.t 6) 0 1,I.ld 41 (.t 40) 1 false,I.fa 42 (.t 7) 0 1,I.ld 43 (.t 42) 1 false,I.bin 44 .neq (.t 41) (.t 43)])
 (.ite (.t 44)
 ((.seq (.reg [I.ld 45 (.t 6) 9 true,I.st (.t 8) (.t 45) 9 false,I.mv 9 k0,I.mv 10 (.k (.b false)),I.mv 11 (.k (.i .i64 20))])
 (.ret)))
 (.skip))))
 ((.seq (.reg [I.fa 46 (.t 6) 0 1,I.st (.t 46) (.k (.i .i64 (-1))) 1 false])
 ((.seq (.reg [I.ld 47 (.t 6) 9 true,I.st (.t 8) (.t 47) 9 false,I.mv 9 k0,I.mv 10 (.k (.b true)),I.mv 11 k0])
 (.ret)))))))
 (.skip))))))))))
 ((.seq ((.seq (.reg [I.mv 48 (.t 13),I.mv 49 (.t 48),.sc true 55 49 [I.fa 50 (.t 6) 0 1,I.ld 51 (.t 50) 1 false,I.fa 52 (.t 7) 0 1,I.ld 53 (.t 52) 1 false,I.bin 54 .eql (.t 51) (.t 53)] (.t 54)])
 (.ite (.t 55)
 ((.seq (.reg [I.ld 56 (.t 6) 9 true,I.st (.t 8) (.t 56) 9 false,I.mv 9 k0,I.mv 10 (.k (.b false)),I.mv 11 (.k (.i .i64 17))])
 (.ret)))
 (.skip))))
 ((.seq ((.seq (.reg [I.fa 57 (.t 6) 0 1,I.ld 58 (.t 57) 1 false,I.bin 59 .geq (.t 58) k0,I.mv 60 (.t 59),.sc true 70 60 [I.fa 61 (.t 7) 1 1,I.ld 62 (.t 61) 1 false,I.bin 63 .eql (.t 62) (.k (.i .i64 55)),I.mv 64 (.t 63),.sc false 69 64 [I.fa 65 (.t 6) 3 1,I.ld 66 (.t 65) 1 false,I.len 67 (.t 66) .sl,I.bin 68 .gtr (.t 67) k0] (.t 68)] (.t 69)])
 (.ite (.t 70)
 ((.seq (.reg [I.ld 71 (.t 6) 9 true,I.st (.t 8) (.t 71) 9 false,I.mv 9 k0,I.mv 10 (.k (.b false)),I.mv 11 (.k (.i .i64 29))])
 (.ret)))
 (.skip))))
 ((.seq ((.seq (.reg [I.fa 72 (.t 7) 1 1,I.ld 73 (.t 72) 1 false,I.bin 74 .eql (.t 73) (.k (.i .i64 55))])
 (.ite (.t 74)
 (.reg [I.fa 75 (.t 7) 0 1,I.ld 76 (.t 75) 1 false,I.fa 77 (.t 6) 0 1,I.st (.t 77) (.t 76) 1 false])
 (.drw [] [0,1,3,4,5,6,2,7,8,9] [I.fa 78 (.t 6) 3 1,I.ld 79 (.t 78) 1 false,I.mv 81 (.t 12),I.fad 82 (.t 7) 0 1,I.ldd 83 (.t 82) 1 false,I.buildSl 84 1 1 [(.i .i64 0)] [(0,(.t 83))] true,I.callk (some 80) z_214 [(.t 79)],I.callz 85 z_263 [(.t 80),(.t 81),(.t 84)],I.fa 86 (.t 6) 3 1,I.st (.t 86) (.t 85) 1 false]))))
 ((.seq (.reg [I.ld 87 (.t 6) 9 true,I.st (.t 8) (.t 87) 9 false,I.mv 9 k0,I.mv 10 (.k (.b true)),I.mv 11 k0])
 (.ret)))))))))))))))
 [.c 8 9 true,.t 9,.t 10,.t 11] false none
def F_z_320:F:=.mk
 ((.seq (.reg [I.box 4 (.t 0) 2 true,I.box 5 (.t 1) 4 true,I.box 6 (.t 2) 9 true,I.box 7 (.t 3) 5 true,I.mv 8 (.k (.b false))])
 ((.seq (.reg [I.ld 9 (.t 5) 4 true,I.ld 10 (.t 6) 9 true,I.ld 11 (.t 7) 5 true,I.call (some 12) z_317 [(.t 9),(.t 10),(.t 11)],I.mv 8 (.t 12)])
 (.ret)))))
 [.t 8] false none
def F_z_321:F:=.mk
 ((.seq (.reg [I.mv 6 (.k (.sl 1 true []))])
 ((.seq (.reg [I.mv 8 (.t 0),I.mv 9 (.t 1),I.mv 10 (.t 2),I.mv 11 (.t 0),I.len 12 (.t 11) .sl,I.sl3 13 (.t 8) (.t 9) (.t 10) (.t 12) 1])
 ((.seq ((.seq (.reg [I.mv 14 (.t 1),I.mv 15 (.t 2),I.bin 16 .eql (.t 14) (.t 15)])
 (.ite (.t 16)
 ((.seq (.reg [I.mv 17 (.t 0),I.mv 6 (.t 17)])
 (.ret)))
 (.skip))))
 ((.seq (.reg [I.mv 18 (.t 0),I.len 19 (.t 18) .sl,I.mv 7 (.t 19)])
 ((.seq (.drw [] [0,1,2,3,4,5,6,7] [I.mv 20 (.t 0),I.mv 21 (.t 1),I.sl 22 (.t 20) none (some (.t 21)) 1,I.mv 23 (.t 0),I.mv 24 (.t 2),I.sl 25 (.t 23) (some (.t 24)) none 1,I.app 26 (.t 22) (.t 25) 1,I.mv 0 (.t 26)])
 ((.seq (.reg [I.mv 27 (.t 0),I.mv 28 (.t 0),I.len 29 (.t 28) .sl,I.mv 30 (.t 7),I.sl 31 (.t 27) (some (.t 29)) (some (.t 30)) 1,I.clr none (.t 31) 1 [(.i .i64 0)]])
 ((.seq (.reg [I.mv 32 (.t 0),I.mv 6 (.t 32)])
 (.ret)))))))))))))))
 [.t 6] true none
def F_z_322:F:=.mk
 ((.seq (.reg [I.box 4 (.t 0) 2 true,I.box 5 (.t 1) 4 true,I.box 6 (.t 2) 9 false,I.box 7 (.t 3) 5 true,I.new 8 zR,I.mv 9 k0,I.mv 10 (.k (.b false)),I.mv 11 k0])
 ((.seq (.blk 0 ((.seq (.reg [I.fa 14 (.t 7) 1 1,I.ld 15 (.t 14) 1 false,I.bin 16 .eql (.t 15) (.k (.i .i64 62)),I.mv 17 (.t 16),.sc false 26 17 [I.fa 18 (.t 6) 1 1,I.ld 19 (.t 18) 1 false,I.fa 20 (.t 7) 2 1,I.ld 21 (.t 20) 1 false,I.bin 22 .add (.t 19) (.t 21),I.fa 23 (.t 5) 2 1,I.ld 24 (.t 23) 1 false,I.bin 25 .gtr (.t 22) (.t 24)] (.t 25),I.mv 13 (.t 26)])
 (.ite (.t 13)
 ((.seq (.reg [I.ld 27 (.t 6) 9 true,I.st (.t 8) (.t 27) 9 false,I.mv 9 k0,I.mv 10 (.k (.b false)),I.mv 11 (.k (.i .i64 17))])
 (.ret)))
 ((.seq (.reg [I.fa 29 (.t 7) 1 1,I.ld 30 (.t 29) 1 false,I.bin 31 .eql (.t 30) (.k (.i .i64 62)),I.mv 28 (.t 31)])
 (.ite (.t 28)
 (.reg [I.fa 32 (.t 6) 1 1,I.ld 33 (.t 32) 1 false,I.fa 34 (.t 7) 2 1,I.ld 35 (.t 34) 1 false,I.bin 36 .add (.t 33) (.t 35),I.fa 37 (.t 6) 1 1,I.st (.t 37) (.t 36) 1 false])
 ((.seq (.reg [I.fa 39 (.t 6) 1 1,I.ld 40 (.t 39) 1 false,I.fa 41 (.t 7) 2 1,I.ld 42 (.t 41) 1 false,I.bin 43 .geq (.t 40) (.t 42),I.mv 38 (.t 43)])
 (.ite (.t 38)
 (.reg [I.fa 44 (.t 6) 1 1,I.ld 45 (.t 44) 1 false,I.fa 46 (.t 7) 2 1,I.ld 47 (.t 46) 1 false,I.bin 48 .sub (.t 45) (.t 47),I.fa 49 (.t 6) 1 1,I.st (.t 49) (.t 48) 1 false])
 ((.seq (.reg [I.fa 51 (.t 7) 1 1,I.ld 52 (.t 51) 1 false,I.bin 53 .eql (.t 52) (.k (.i .i64 61)),I.mv 50 (.t 53)])
 (.ite (.t 50)
 ((.seq (.reg [I.ld 54 (.t 6) 9 true,I.st (.t 8) (.t 54) 9 false,I.mv 9 k0,I.mv 10 (.k (.b false)),I.mv 11 k0])
 (.ret)))
 ((.seq (.reg [I.ld 12 (.t 6) 9 true,I.st (.t 8) (.t 12) 9 false,I.mv 9 k0,I.mv 10 (.k (.b false)),I.mv 11 (.k (.i .i64 29))])
 (.ret))))))))))))))))
 ((.seq (.reg [I.ld 55 (.t 6) 9 true,I.st (.t 8) (.t 55) 9 false,I.mv 9 k0,I.mv 10 (.k (.b true)),I.mv 11 k0])
 (.ret)))))))
 [.c 8 9 true,.t 9,.t 10,.t 11] false none
def F_z_323:F:=.mk
 ((.seq (.reg [I.box 4 (.t 0) 2 true,I.box 5 (.t 1) 4 true,I.box 6 (.t 2) 9 true,I.box 7 (.t 3) 5 true,I.mv 8 (.k (.b false))])
 ((.seq ((.seq (.reg [I.fa 9 (.t 5) 3 1,I.ld 10 (.t 9) 1 false,I.bin 11 .eql (.t 10) k0])
 (.ite (.t 11)
 ((.seq (.reg [I.ld 12 (.t 5) 4 true,I.ld 13 (.t 6) 9 true,I.ld 14 (.t 7) 5 true,I.call (some 15) z_317 [(.t 12),(.t 13),(.t 14)],I.mv 8 (.t 15)])
 (.ret)))
 (.skip))))
 ((.seq (.reg [I.ld 16 (.t 5) 4 true,I.ld 17 (.t 6) 9 true,I.ld 18 (.t 7) 5 true,I.call (some 19) z_318 [(.t 16),(.t 17),(.t 18)],I.mv 8 (.t 19)])
 (.ret)))))))
 [.t 8] false none
def F_z_324:F:=.mk
 ((.seq (.reg [I.box 3 (.t 0) 2 true,I.box 4 (.t 1) 4 true,I.box 5 (.t 2) 9 false,I.mv 6 (.k (.b false))])
 ((.seq (.reg [I.fa 8 (.t 5) 8 1,I.ld 9 (.t 8) 1 false,I.mv 7 (.t 9)])
 ((.seq (.reg [I.fa 10 (.t 5) 8 1,I.st (.t 10) k0 1 false])
 ((.seq (.reg [I.mv 11 (.t 7),I.bin 12 .geq (.t 11) k0,I.mv 13 (.t 12),.sc false 18 13 [I.mv 14 (.t 7),I.fa 15 (.t 4) 2 1,I.ld 16 (.t 15) 1 false,I.bin 17 .lss (.t 14) (.t 16)] (.t 17),I.mv 19 (.t 18),.sc false 27 19 [I.fa 20 (.t 3) 0 2,I.fa 21 (.t 20) 1 1,I.ld 22 (.t 21) 1 false,I.ld 23 (.t 4) 4 true,I.ld 24 (.t 5) 9 true,I.callv (some 25) (.t 22) [(.t 23),(.t 24)],I.bin 26 .eql (.t 25) k0] (.t 26),I.mv 6 (.t 27)])
 (.ret)))))))))
 [.t 6] false none
def F_z_325:F:=.mk
 ((.seq (.reg [I.box 4 (.t 0) 2 true,I.box 5 (.t 1) 4 true,I.box 6 (.t 2) 9 false,I.box 7 (.t 3) 5 true,I.new 8 zR,I.mv 9 k0,I.mv 10 (.k (.b false)),I.mv 11 k0])
 ((.seq (.reg [I.fa 13 (.t 6) 8 1,I.ld 14 (.t 13) 1 false,I.mv 12 (.t 14)])
 ((.seq (.reg [I.fa 15 (.t 6) 8 1,I.ld 16 (.t 15) 1 false,I.bin 17 .add (.t 16) (.k (.i .i64 1)),I.fa 18 (.t 6) 8 1,I.st (.t 18) (.t 17) 1 false])
 ((.seq ((.seq (.reg [I.fa 19 (.t 6) 8 1,I.ld 20 (.t 19) 1 false,I.fa 21 (.t 5) 2 1,I.ld 22 (.t 21) 1 false,I.bin 23 .eql (.t 20) (.t 22)])
 (.ite (.t 23)
 ((.seq ((.seq (.reg [I.fa 24 (.t 6) 1 1,I.ld 25 (.t 24) 1 false,I.bin 26 .eql (.t 25) (.k (.i .i64 1099511627776))])
 (.ite (.t 26)
 ((.seq (.reg [I.ld 27 (.t 6) 9 true,I.st (.t 8) (.t 27) 9 false,I.mv 9 k0,I.mv 10 (.k (.b false)),I.mv 11 (.k (.i .i64 4))])
 (.ret)))
 (.skip))))
 ((.seq (.reg [I.fa 28 (.t 6) 8 1,I.st (.t 28) k0 1 false])
 (.reg [I.fa 29 (.t 6) 1 1,I.ld 30 (.t 29) 1 false,I.bin 31 .add (.t 30) (.k (.i .i64 1)),I.fa 32 (.t 6) 1 1,I.st (.t 32) (.t 31) 1 false])))))
 (.skip))))
 ((.seq (.reg [I.ld 33 (.t 6) 9 true,I.mv 34 (.t 12),I.st (.t 8) (.t 33) 9 false,I.mv 9 (.t 34),I.mv 10 (.k (.b true)),I.mv 11 k0])
 (.ret)))))))))))
 [.c 8 9 true,.t 9,.t 10,.t 11] false none
def F_z_326:F:=.mk
 ((.seq (.reg [I.box 4 (.t 0) 2 true,I.box 5 (.t 1) 4 true,I.box 6 (.t 2) 9 true,I.box 7 (.t 3) 5 true,I.mv 8 (.k (.b false))])
 ((.seq (.reg [I.fa 9 (.t 6) 4 1,I.ld 10 (.t 9) 1 false,I.len 11 (.t 10) .sl,I.fa 12 (.t 5) 2 1,I.ld 13 (.t 12) 1 false,I.bin 14 .geq (.t 11) (.t 13),I.mv 8 (.t 14)])
 (.ret)))))
 [.t 8] false none
def F_z_327:F:=.mk
 ((.seq (.reg [I.box 3 (.t 0) 2 true,I.box 4 (.t 1) 4 true,I.box 5 (.t 2) 9 true,I.mv 6 (.k (.b false))])
 ((.seq (.drw [] [0,1,2,3,4,5,6,7,8,9,10,11,12,13,14,15,16,17] [I.fad 7 (.t 3) 0 2,I.fad 8 (.t 7) 1 1,I.ldd 9 (.t 8) 1 false,I.ldd 10 (.t 4) 4 true,I.build 11 zR [(0,1,(.k (.i .i64 (-1))))],I.callv (some 12) (.t 9) [(.t 10),(.t 11)],I.bin 13 .eql (.t 12) k0,I.mv 14 (.t 13),.sc false 23 14 [I.fad 15 (.t 3) 0 2,I.fad 16 (.t 15) 1 1,I.ldd 17 (.t 16) 1 false,I.ldd 18 (.t 4) 4 true,I.call (some 19) z_330 [(.t 18)],I.ldd 20 (.t 5) 9 true,I.callv (some 21) (.t 17) [(.t 19),(.t 20)],I.bin 22 .eql (.t 21) k0] (.t 22),I.mv 6 (.t 23)])
 (.ret)))))
 [.t 6] false none
def F_z_328:F:=.mk
 ((.seq (.reg [I.box 4 (.t 0) 2 true,I.box 5 (.t 1) 4 true,I.box 6 (.t 2) 9 false,I.box 7 (.t 3) 5 true,I.new 8 zR,I.mv 9 k0,I.mv 10 (.k (.b false)),I.mv 11 k0])
 ((.seq ((.seq (.reg [I.fa 13 (.t 7) 1 1,I.ld 14 (.t 13) 1 false])
 (.blk 0 ((.seq (.reg [I.bin 20 .eql (.t 14) (.k (.i .i64 64)),I.mv 19 (.t 20)])
 (.ite (.t 19)
 ((.seq ((.seq (.reg [I.fa 21 (.t 6) 7 1,I.ld 22 (.t 21) 1 false])
 (.ite (.t 22)
 ((.seq (.reg [I.ld 23 (.t 6) 9 true,I.st (.t 8) (.t 23) 9 false,I.mv 9 k0,I.mv 10 (.k (.b false)),I.mv 11 k0])
 (.ret)))
 (.skip))))
 ((.seq ((.seq (.drw [] [0,1,2,3,4,5,6] [I.fa 24 (.t 6) 5 1,I.ld 25 (.t 24) 1 false,I.len 26 (.t 25) .sl,I.ldd 27 (.t 5) 4 true,I.call (some 28) z_330 [(.t 27)],I.fld 29 (.t 28) 2 1 false,I.bin 30 .geq (.t 26) (.t 29)])
 (.ite (.t 30)
 ((.seq (.reg [I.ld 31 (.t 6) 9 true,I.st (.t 8) (.t 31) 9 false,I.mv 9 k0,I.mv 10 (.k (.b false)),I.mv 11 (.k (.i .i64 29))])
 (.ret)))
 (.skip))))
 (.drw [] [0,1,3,4,5,2,6,7,8] [I.fa 32 (.t 6) 5 1,I.ld 33 (.t 32) 1 false,I.fad 35 (.t 7) 2 1,I.ldd 36 (.t 35) 1 false,I.buildSl 37 1 1 [(.i .i64 0)] [(0,(.t 36))] true,I.callk (some 34) z_214 [(.t 33)],I.apk 38 (.t 34) (.t 37) 1,I.fa 39 (.t 6) 5 1,I.st (.t 39) (.t 38) 1 false])))))
 ((.seq (.reg [I.bin 41 .eql (.t 14) (.k (.i .i64 65)),I.mv 40 (.t 41)])
 (.ite (.t 40)
 ((.seq ((.seq (.reg [I.fa 42 (.t 6) 5 1,I.ld 43 (.t 42) 1 false,I.len 44 (.t 43) .sl,I.bin 45 .eql (.t 44) k0])
 (.ite (.t 45)
 ((.seq ((.seq (.reg [I.fa 46 (.t 6) 7 1,I.ld 47 (.t 46) 1 false])
 (.ite (.t 47)
 ((.seq (.reg [I.ld 48 (.t 6) 9 true,I.st (.t 8) (.t 48) 9 false,I.mv 9 k0,I.mv 10 (.k (.b false)),I.mv 11 k0])
 (.ret)))
 (.skip))))
 ((.seq (.reg [I.ld 49 (.t 6) 9 true,I.st (.t 8) (.t 49) 9 false,I.mv 9 k0,I.mv 10 (.k (.b false)),I.mv 11 (.k (.i .i64 29))])
 (.ret)))))
 (.skip))))
 ((.seq (.reg [I.fa 50 (.t 6) 5 1,I.ld 51 (.t 50) 1 false,I.ixs 52 (.t 51) k0 1,I.ld 53 (.t 52) 1 false,I.mv 12 (.t 53)])
 ((.seq (.reg [I.fa 54 (.t 6) 5 1,I.ld 55 (.t 54) 1 false,I.sl 56 (.t 55) (some (.k (.i .i64 1))) none 1,I.callz 57 z_214 [(.t 56)],I.fa 58 (.t 6) 5 1,I.st (.t 58) (.t 57) 1 false])
 ((.seq (.reg [I.ld 59 (.t 6) 9 true,I.mv 60 (.t 12),I.st (.t 8) (.t 59) 9 false,I.mv 9 (.t 60),I.mv 10 (.k (.b true)),I.mv 11 k0])
 (.ret)))))))))
 ((.seq ((.seq (.reg [I.fa 15 (.t 6) 7 1,I.ld 16 (.t 15) 1 false])
 (.ite (.t 16)
 ((.seq (.reg [I.ld 17 (.t 6) 9 true,I.st (.t 8) (.t 17) 9 false,I.mv 9 k0,I.mv 10 (.k (.b false)),I.mv 11 (.k (.i .i64 17))])
 (.ret)))
 (.skip))))
 (.reg [I.fa 18 (.t 6) 7 1,I.st (.t 18) (.k (.b true)) 1 false]))))))))))))
 ((.seq (.reg [I.ld 61 (.t 6) 9 true,I.st (.t 8) (.t 61) 9 false,I.mv 9 k0,I.mv 10 (.k (.b true)),I.mv 11 k0])
 (.ret)))))))
 [.c 8 9 true,.t 9,.t 10,.t 11] false none
def F_z_329:F:=.mk
 ((.seq (.reg [I.box 4 (.t 0) 2 true,I.box 5 (.t 1) 4 true,I.box 6 (.t 2) 9 true,I.box 7 (.t 3) 5 true,I.mv 8 (.k (.b false))])
 ((.seq ((.seq (.reg [I.fa 9 (.t 5) 2 1,I.ld 10 (.t 9) 1 false,I.bin 11 .eql (.t 10) k0,I.mv 12 (.t 11),.sc false 16 12 [I.fa 13 (.t 7) 1 1,I.ld 14 (.t 13) 1 false,I.bin 15 .eql (.t 14) (.k (.i .i64 64))] (.t 15)])
 (.ite (.t 16)
 ((.seq (.reg [I.fa 17 (.t 6) 4 1,I.ld 18 (.t 17) 1 false,I.mkf 19 z_331 [] [(.t 7)],I.call (some 20) z_57 [(.t 18),(.t 19)],I.mv 8 (.t 20)])
 (.ret)))
 (.skip))))
 ((.seq (.reg [I.ld 21 (.t 5) 4 true,I.ld 22 (.t 6) 9 true,I.ld 23 (.t 7) 5 true,I.call (some 24) z_318 [(.t 21),(.t 22),(.t 23)],I.mv 8 (.t 24)])
 (.ret)))))))
 [.t 8] false none
def F_z_330:F:=.mk
 ((.seq (.reg [I.box 1 (.t 0) 4 false,I.new 2 [(.s []),(.i .i64 0),(.i .i64 0),(.i .i64 0)]])
 ((.seq (.reg [I.fa 3 (.t 1) 2 1,I.ld 4 (.t 3) 1 false,I.mx 5 (.k (.i .i64 1)) (.t 4),I.fa 6 (.t 1) 2 1,I.st (.t 6) (.t 5) 1 false])
 ((.seq (.reg [I.ld 7 (.t 1) 4 true,I.st (.t 2) (.t 7) 4 false])
 (.ret)))))))
 [.c 2 4 true] false none
def F_z_331:F:=.mk
 ((.seq (.reg [I.box 2 (.t 0) 5 true,I.mv 3 (.k (.b false))])
 ((.seq (.reg [I.fa 4 (.t 2) 1 1,I.ld 5 (.t 4) 1 false,I.bin 6 .eql (.t 5) (.k (.i .i64 65)),I.mv 7 (.t 6),.sc false 13 7 [I.fa 8 (.t 2) 0 1,I.ld 9 (.t 8) 1 false,I.fa 10 (.t 1) 0 1,I.ld 11 (.t 10) 1 false,I.bin 12 .neq (.t 9) (.t 11)] (.t 12),I.mv 3 (.t 13)])
 (.ret)))))
 [.t 3] false none
def F_z_332:F:=.mk
 ((.seq (.reg [I.box 3 (.t 0) 2 true,I.box 4 (.t 1) 4 true,I.box 5 (.t 2) 9 true,I.mv 6 (.k (.b false))])
 ((.seq (.drw [] [0,1,2,3,4,5,6,7,8,9,10,11,12,13,14,15,16,17] [I.fad 7 (.t 3) 0 2,I.fad 8 (.t 7) 1 1,I.ldd 9 (.t 8) 1 false,I.ldd 10 (.t 4) 4 true,I.build 11 zR [(0,1,(.k (.i .i64 (-1))))],I.callv (some 12) (.t 9) [(.t 10),(.t 11)],I.bin 13 .eql (.t 12) k0,I.mv 14 (.t 13),.sc false 23 14 [I.fad 15 (.t 3) 0 2,I.fad 16 (.t 15) 1 1,I.ldd 17 (.t 16) 1 false,I.ldd 18 (.t 4) 4 true,I.call (some 19) z_330 [(.t 18)],I.ldd 20 (.t 5) 9 true,I.callv (some 21) (.t 17) [(.t 19),(.t 20)],I.bin 22 .eql (.t 21) k0] (.t 22),I.mv 6 (.t 23)])
 (.ret)))))
 [.t 6] false none
def F_z_333_L0:C :=
 (.seq (.reg [I.bin 33 .lss (.t 32) (.t 31)])
 ((.seq (.ite (.t 33)
 (.skip)
 (.seq (.keep [6,8,14,15]) (.exit 1)))
 ((.seq (.blk 2 ((.seq (.reg [I.mv 34 (.t 32),I.mv 16 (.t 34)])
 ((.seq ((.seq (.drw [] [0,1,2,3,4,5,6,7,8,9] [I.mv 35 (.t 14),I.mv 36 (.t 16),I.ixs 37 (.t 35) (.t 36) 2,I.fa 38 (.t 37) 1 1,I.ld 39 (.t 38) 1 false,I.len 40 (.t 39) .sl,I.ldd 41 (.t 5) 4 true,I.call (some 42) z_330 [(.t 41)],I.fld 43 (.t 42) 2 1 false,I.bin 44 .geq (.t 40) (.t 43)])
 (.ite (.t 44)
 ((.seq (.reg [I.ld 45 (.t 6) 9 true,I.st (.t 8) (.t 45) 9 false,I.mv 9 k0,I.mv 10 (.k (.b false)),I.mv 11 (.k (.i .i64 29))])
 (.seq (.keep [8,9,10,11]) .ret)))
 (.skip))))
 (.drw [] [0,1,2,3,4,5,6,8,9,10,7,11,12,13,14] [I.mv 46 (.t 14),I.mv 47 (.t 16),I.mv 48 (.t 14),I.mv 49 (.t 16),I.ixs 50 (.t 48) (.t 49) 2,I.fa 51 (.t 50) 1 1,I.ld 52 (.t 51) 1 false,I.fad 54 (.t 7) 2 1,I.ldd 55 (.t 54) 1 false,I.buildSl 56 1 1 [(.i .i64 0)] [(0,(.t 55))] true,I.callk (some 53) z_214 [(.t 52)],I.apk 57 (.t 53) (.t 56) 1,I.ixs 58 (.t 46) (.t 47) 2,I.fa 59 (.t 58) 1 1,I.st (.t 59) (.t 57) 1 false]))))))
 (.reg [I.bin 60 .add (.t 32) (.k (.i .i64 1)),I.mv 32 (.t 60)]))))))
def F_z_333:F:=.mk
 ((.seq (.reg [I.box 4 (.t 0) 2 true,I.box 5 (.t 1) 4 true,I.box 6 (.t 2) 9 false,I.box 7 (.t 3) 5 true,I.new 8 zR,I.mv 9 k0,I.mv 10 (.k (.b false)),I.mv 11 k0])
 ((.seq (.reg [I.fa 18 (.t 6) 6 1,I.ld 19 (.t 18) 1 false,I.fa 20 (.t 7) 0 1,I.ld 21 (.t 20) 1 false,I.call (some 22) z_335 [(.t 19),(.t 21),(.k (.fn z_336 [] []))],I.mv 17 (.t 22),I.ext 23 (.t 17) 0,I.ext 24 (.t 17) 1,I.mv 12 (.t 23),I.mv 13 (.t 24)])
 ((.seq (.reg [I.fa 25 (.t 6) 6 1,I.ld 26 (.t 25) 1 false,I.callk (some 27) z_236 [(.t 26)],I.mv 14 (.t 27)])
 ((.seq (.reg [I.mv 15 k0])
 ((.seq ((.seq (.reg [I.fa 28 (.t 7) 1 1,I.ld 29 (.t 28) 1 false])
 (.blk 0 ((.seq (.reg [I.bin 62 .eql (.t 29) (.k (.i .i64 69)),I.mv 61 (.t 62)])
 (.ite (.t 61)
 ((.seq ((.seq (.reg [I.mv 63 (.t 13)])
 (.ite (.t 63)
 ((.seq (.reg [I.ld 64 (.t 6) 9 true,I.st (.t 8) (.t 64) 9 false,I.mv 9 k0,I.mv 10 (.k (.b false)),I.mv 11 (.k (.i .i64 6))])
 (.ret)))
 (.skip))))
 (.reg [I.mv 65 (.t 14),I.mv 66 (.t 12),I.fa 67 (.t 7) 0 1,I.ld 68 (.t 67) 1 false,I.build 69 [(.i .i64 0),(.sl 1 true [])] [(0,1,(.t 68))],I.buildSl 70 2 1 [(.i .i64 0),(.sl 1 true [])] [(0,(.t 69))] true,I.callz 71 z_237 [(.t 65),(.t 66),(.t 70)],I.mv 14 (.t 71)])))
 ((.seq (.reg [I.bin 73 .eql (.t 29) (.k (.i .i64 71)),I.mv 72 (.t 73)])
 (.ite (.t 72)
 ((.seq ((.seq (.reg [I.mv 74 (.t 13),I.un 75 .not (.t 74)])
 (.ite (.t 75)
 ((.seq (.reg [I.ld 76 (.t 6) 9 true,I.st (.t 8) (.t 76) 9 false,I.mv 9 k0,I.mv 10 (.k (.b false)),I.mv 11 (.k (.i .i64 20))])
 (.ret)))
 (.skip))))
 (.reg [I.mv 77 (.t 14),I.mv 78 (.t 12),I.mv 79 (.t 12),I.bin 80 .add (.t 79) (.k (.i .i64 1)),I.callz 81 z_170 [(.t 77),(.t 78),(.t 80)],I.mv 14 (.t 81)])))
 ((.seq (.reg [I.bin 83 .eql (.t 29) (.k (.i .i64 70)),I.mv 82 (.t 83)])
 (.ite (.t 82)
 ((.seq ((.seq (.reg [I.mv 84 (.t 13),I.un 85 .not (.t 84)])
 (.ite (.t 85)
 ((.seq (.reg [I.ld 86 (.t 6) 9 true,I.st (.t 8) (.t 86) 9 false,I.mv 9 k0,I.mv 10 (.k (.b false)),I.mv 11 (.k (.i .i64 20))])
 (.ret)))
 (.skip))))
 ((.seq ((.seq (.reg [I.mv 87 (.t 14),I.mv 88 (.t 12),I.ixs 89 (.t 87) (.t 88) 2,I.fa 90 (.t 89) 1 1,I.ld 91 (.t 90) 1 false,I.len 92 (.t 91) .sl,I.bin 93 .eql (.t 92) k0])
 (.ite (.t 93)
 ((.seq (.reg [I.ld 94 (.t 6) 9 true,I.st (.t 8) (.t 94) 9 false,I.mv 9 k0,I.mv 10 (.k (.b false)),I.mv 11 (.k (.i .i64 29))])
 (.ret)))
 (.skip))))
 ((.seq (.reg [I.mv 95 (.t 14),I.mv 96 (.t 12),I.ixs 97 (.t 95) (.t 96) 2,I.fa 98 (.t 97) 1 1,I.ld 99 (.t 98) 1 false,I.ixs 100 (.t 99) k0 1,I.ld 101 (.t 100) 1 false,I.mv 15 (.t 101)])
 (.reg [I.mv 102 (.t 14),I.mv 103 (.t 12),I.mv 104 (.t 14),I.mv 105 (.t 12),I.ixs 106 (.t 104) (.t 105) 2,I.fa 107 (.t 106) 1 1,I.ld 108 (.t 107) 1 false,I.sl 109 (.t 108) (some (.k (.i .i64 1))) none 1,I.callz 110 z_214 [(.t 109)],I.ixs 111 (.t 102) (.t 103) 2,I.fa 112 (.t 111) 1 1,I.st (.t 112) (.t 110) 1 false])))))))
 ((.seq (.reg [I.mv 30 (.t 14),I.len 31 (.t 30) .sl,I.mv 32 k0])
 (.blk 1 (.loop [5,6,7,8,14,15,31,32] F_z_333_L0))))))))))))))))
 ((.seq (.reg [I.mv 113 (.t 14),I.fa 114 (.t 6) 6 1,I.st (.t 114) (.t 113) 1 false])
 ((.seq (.reg [I.ld 115 (.t 6) 9 true,I.mv 116 (.t 15),I.st (.t 8) (.t 115) 9 false,I.mv 9 (.t 116),I.mv 10 (.k (.b true)),I.mv 11 k0])
 (.ret)))))))))))))))
 [.c 8 9 true,.t 9,.t 10,.t 11] false none
def F_z_334:F:=.mk
 ((.seq (.reg [I.box 4 (.t 0) 2 true,I.box 5 (.t 1) 4 true,I.box 6 (.t 2) 9 true,I.box 7 (.t 3) 5 true,I.mv 8 (.k (.b false))])
 ((.seq ((.seq (.reg [I.fa 9 (.t 7) 1 1,I.ld 10 (.t 9) 1 false,I.bin 11 .neq (.t 10) (.k (.i .i64 68))])
 (.ite (.t 11)
 ((.seq (.reg [I.ld 12 (.t 5) 4 true,I.ld 13 (.t 6) 9 true,I.ld 14 (.t 7) 5 true,I.call (some 15) z_318 [(.t 12),(.t 13),(.t 14)],I.mv 8 (.t 15)])
 (.ret)))
 (.skip))))
 ((.seq (.reg [I.fa 16 (.t 6) 6 1,I.ld 17 (.t 16) 1 false,I.mkf 18 z_337 [] [(.t 6),(.t 5)],I.call (some 19) z_241 [(.t 17),(.t 18)],I.un 20 .not (.t 19),I.mv 8 (.t 20)])
 (.ret)))))))
 [.t 8] false none
def F_z_335_L0:C :=
 (.seq ((.seq (.reg [I.mv 15 (.t 9),I.mv 16 (.t 10),I.bin 17 .lss (.t 15) (.t 16)])
 (.ite (.t 17)
 (.skip)
 (.seq (.keep [0,1,2,8,9]) (.exit 0)))))
 (.blk 1 ((.seq (.reg [I.mv 18 (.t 9),I.mv 19 (.t 10),I.bin 20 .add (.t 18) (.t 19),I.cvi 21 .u64 (.t 20),I.bin 22 .shr (.t 21) (.k (.i .u64 1)),I.cvi 23 .i64 (.t 22),I.mv 11 (.t 23)])
 ((.seq (.reg [I.mv 24 (.t 2),I.mv 25 (.t 0),I.mv 26 (.t 11),I.ixs 27 (.t 25) (.t 26) 2,I.ld 28 (.t 27) 2 true,I.mv 29 (.t 1),I.callv (some 30) (.t 24) [(.t 28),(.t 29)],I.bin 31 .lss (.t 30) k0])
 (.ite (.t 31)
 (.reg [I.mv 32 (.t 11),I.bin 33 .add (.t 32) (.k (.i .i64 1)),I.mv 9 (.t 33)])
 (.reg [I.mv 34 (.t 11),I.mv 10 (.t 34)]))))))))
def F_z_335:F:=.mk
 ((.seq (.reg [I.mv 6 k0,I.mv 7 (.k (.b false))])
 ((.seq (.reg [I.mv 12 (.t 0),I.len 13 (.t 12) .sl,I.mv 8 (.t 13)])
 ((.seq (.reg [I.mv 14 (.t 8),I.mv 9 k0,I.mv 10 (.t 14)])
 ((.seq (.blk 0 (.loop [0,1,2,8,9,10] F_z_335_L0))
 ((.seq (.reg [I.mv 35 (.t 9),I.mv 36 (.t 9),I.mv 37 (.t 8),I.bin 38 .lss (.t 36) (.t 37),I.mv 39 (.t 38),.sc false 48 39 [I.mv 40 (.t 2),I.mv 41 (.t 0),I.mv 42 (.t 9),I.ixs 43 (.t 41) (.t 42) 2,I.ld 44 (.t 43) 2 true,I.mv 45 (.t 1),I.callv (some 46) (.t 40) [(.t 44),(.t 45)],I.bin 47 .eql (.t 46) k0] (.t 47),I.mv 6 (.t 35),I.mv 7 (.t 48)])
 (.ret)))))))))))
 [.t 6,.t 7] false none
def F_z_336:F:=.mk
 ((.seq (.reg [I.box 2 (.t 0) 2 true,I.mv 4 k0])
 ((.seq (.reg [I.fa 5 (.t 2) 0 1,I.ld 6 (.t 5) 1 false,I.mv 7 (.t 1),I.bin 8 .sub (.t 6) (.t 7),I.mv 4 (.t 8)])
 (.ret)))))
 [.t 4] false none
def F_z_337:F:=.mk
 ((.seq (.reg [I.box 3 (.t 0) 2 true,I.mv 4 (.k (.b false))])
 ((.seq (.reg [I.fa 6 (.t 1) 4 1,I.ld 7 (.t 6) 1 false,I.mkf 8 z_338 [] [(.t 3)],I.call (some 9) z_57 [(.t 7),(.t 8)],I.mv 5 (.t 9)])
 ((.seq (.reg [I.mv 10 (.t 5),I.un 11 .not (.t 10),I.mv 12 (.t 11),.sc false 19 12 [I.fa 13 (.t 3) 1 1,I.ld 14 (.t 13) 1 false,I.len 15 (.t 14) .sl,I.fa 16 (.t 2) 2 1,I.ld 17 (.t 16) 1 false,I.bin 18 .geq (.t 15) (.t 17)] (.t 18),I.mv 4 (.t 19)])
 (.ret)))))))
 [.t 4] false none
def F_z_338:F:=.mk
 ((.seq (.reg [I.box 2 (.t 0) 5 true,I.mv 3 (.k (.b false))])
 ((.seq (.reg [I.fa 4 (.t 2) 0 1,I.ld 5 (.t 4) 1 false,I.fa 6 (.t 1) 0 1,I.ld 7 (.t 6) 1 false,I.bin 8 .eql (.t 5) (.t 7),I.mv 9 (.t 8),.sc false 13 9 [I.fa 10 (.t 2) 1 1,I.ld 11 (.t 10) 1 false,I.bin 12 .eql (.t 11) (.k (.i .i64 70))] (.t 12),I.mv 3 (.t 13)])
 (.ret)))))
 [.t 3] false none
def F_z_339:F:=.mk
 ((.seq (.reg [I.box 4 (.t 0) 2 true,I.box 5 (.t 1) 4 true,I.box 6 (.t 2) 9 false,I.box 7 (.t 3) 5 true,I.new 8 zR,I.mv 9 k0,I.mv 10 (.k (.b false)),I.mv 11 k0])
 ((.seq ((.seq (.reg [I.fa 13 (.t 7) 4 1,I.ld 14 (.t 13) 1 false,I.fa 15 (.t 6) 2 1,I.ld 16 (.t 15) 1 false,I.bin 17 .lss (.t 14) (.t 16)])
 (.ite (.t 17)
 ((.seq (.reg [I.ld 18 (.t 6) 9 true,I.st (.t 8) (.t 18) 9 false,I.mv 9 k0,I.mv 10 (.k (.b false)),I.mv 11 (.k (.i .i64 2))])
 (.ret)))
 (.skip))))
 ((.seq (.reg [I.fa 19 (.t 7) 4 1,I.ld 20 (.t 19) 1 false,I.fa 21 (.t 6) 2 1,I.ld 22 (.t 21) 1 false,I.bin 23 .sub (.t 20) (.t 22),I.fa 24 (.t 5) 3 1,I.ld 25 (.t 24) 1 false,I.bin 26 .quo (.t 23) (.t 25),I.mv 12 (.t 26)])
 ((.seq ((.seq (.reg [I.mv 27 (.t 12),I.fa 28 (.t 5) 2 1,I.ld 29 (.t 28) 1 false,I.fa 30 (.t 6) 1 1,I.ld 31 (.t 30) 1 false,I.bin 32 .sub (.t 29) (.t 31),I.bin 33 .geq (.t 27) (.t 32)])
 (.ite (.t 33)
 (.drw [] [0,1,2,3,4,5,6,7] [I.fad 34 (.t 5) 2 1,I.ldd 35 (.t 34) 1 false,I.fad 36 (.t 7) 4 1,I.ldd 37 (.t 36) 1 false,I.fa 38 (.t 6) 1 1,I.st (.t 38) (.t 35) 1 false,I.fa 39 (.t 6) 2 1,I.st (.t 39) (.t 37) 1 false])
 (.drw [] [0,1,2,3,4,5,6,7,8,9,10,11,12,13,14] [I.fa 40 (.t 6) 1 1,I.ld 41 (.t 40) 1 false,I.mv 42 (.t 12),I.bin 43 .add (.t 41) (.t 42),I.fa 44 (.t 6) 2 1,I.ld 45 (.t 44) 1 false,I.mv 46 (.t 12),I.fad 47 (.t 5) 3 1,I.ldd 48 (.t 47) 1 false,I.bin 49 .mul (.t 46) (.t 48),I.bin 50 .add (.t 45) (.t 49),I.fa 51 (.t 6) 1 1,I.st (.t 51) (.t 43) 1 false,I.fa 52 (.t 6) 2 1,I.st (.t 52) (.t 50) 1 false]))))
 ((.seq ((.seq (.reg [I.fa 53 (.t 7) 1 1,I.ld 54 (.t 53) 1 false,I.bin 55 .eql (.t 54) (.k (.i .i64 72))])
 (.ite (.t 55)
 ((.seq ((.seq (.reg [I.fa 56 (.t 6) 1 1,I.ld 57 (.t 56) 1 false,I.fa 58 (.t 7) 2 1,I.ld 59 (.t 58) 1 false,I.bin 60 .lss (.t 57) (.t 59)])
 (.ite (.t 60)
 ((.seq (.reg [I.ld 61 (.t 6) 9 true,I.st (.t 8) (.t 61) 9 false,I.mv 9 k0,I.mv 10 (.k (.b false)),I.mv 11 (.k (.i .i64 29))])
 (.ret)))
 (.skip))))
 (.reg [I.fa 62 (.t 6) 1 1,I.ld 63 (.t 62) 1 false,I.fa 64 (.t 7) 2 1,I.ld 65 (.t 64) 1 false,I.bin 66 .sub (.t 63) (.t 65),I.fa 67 (.t 6) 1 1,I.st (.t 67) (.t 66) 1 false])))
 (.skip))))
 ((.seq (.reg [I.ld 68 (.t 6) 9 true,I.st (.t 8) (.t 68) 9 false,I.mv 9 k0,I.mv 10 (.k (.b true)),I.mv 11 k0])
 (.ret)))))))))))))
 [.c 8 9 true,.t 9,.t 10,.t 11] false none
def F_z_340:F:=.mk
 ((.seq (.reg [I.box 4 (.t 0) 2 true,I.box 5 (.t 1) 4 true,I.box 6 (.t 2) 9 true,I.box 7 (.t 3) 5 true,I.mv 8 (.k (.b false))])
 ((.seq (.reg [I.ld 9 (.t 5) 4 true,I.ld 10 (.t 6) 9 true,I.ld 11 (.t 7) 5 true,I.call (some 12) z_317 [(.t 9),(.t 10),(.t 11)],I.mv 8 (.t 12)])
 (.ret)))))
 [.t 8] false none
def F_z_341:F:=.mk
 ((.seq (.reg [I.box 4 (.t 0) 2 true,I.box 5 (.t 1) 4 true,I.box 6 (.t 2) 9 false,I.box 7 (.t 3) 5 true,I.new 8 zR,I.mv 9 k0,I.mv 10 (.k (.b false)),I.mv 11 k0])
 ((.seq (.blk 0 ((.seq (.reg [I.fa 13 (.t 7) 1 1,I.ld 14 (.t 13) 1 false,I.bin 15 .eql (.t 14) (.k (.i .i64 74)),I.mv 16 (.t 15),.sc false 20 16 [I.fa 17 (.t 6) 7 1,I.ld 18 (.t 17) 1 false,I.un 19 .not (.t 18)] (.t 19),I.mv 12 (.t 20)])
 (.ite (.t 12)
 ((.seq (.reg [I.ld 21 (.t 6) 9 true,I.st (.t 8) (.t 21) 9 false,I.mv 9 k0,I.mv 10 (.k (.b false)),I.mv 11 (.k (.i .i64 29))])
 (.ret)))
 ((.seq (.reg [I.fa 23 (.t 7) 1 1,I.ld 24 (.t 23) 1 false,I.bin 25 .eql (.t 24) (.k (.i .i64 74)),I.mv 22 (.t 25)])
 (.ite (.t 22)
 ((.seq (.drw [] [0,1,2,3,4,5,6] [I.ld 26 (.t 6) 9 true,I.fa 27 (.t 6) 8 1,I.ld 28 (.t 27) 1 false,I.st (.t 8) (.t 26) 9 false,.re (.fa 27 (.t 6) 8 1),.re (.ld 28 (.t 27) 1 false),I.mv 9 (.t 28),I.mv 10 (.k (.b true)),I.mv 11 k0])
 (.ret)))
 ((.seq (.reg [I.fa 30 (.t 6) 7 1,I.ld 31 (.t 30) 1 false,I.mv 29 (.t 31)])
 (.ite (.t 29)
 ((.seq (.reg [I.ld 32 (.t 6) 9 true,I.st (.t 8) (.t 32) 9 false,I.mv 9 k0,I.mv 10 (.k (.b false)),I.mv 11 (.k (.i .i64 17))])
 (.ret)))
 (.skip)))))))))))
 ((.seq (.drw [] [0,1,2,3,4,5] [I.fad 33 (.t 7) 2 1,I.ldd 34 (.t 33) 1 false,I.fa 35 (.t 6) 7 1,I.st (.t 35) (.k (.b true)) 1 false,I.fa 36 (.t 6) 8 1,I.st (.t 36) (.t 34) 1 false])
 ((.seq (.reg [I.ld 37 (.t 6) 9 true,I.st (.t 8) (.t 37) 9 false,I.mv 9 k0,I.mv 10 (.k (.b true)),I.mv 11 k0])
 (.ret)))))))))
 [.c 8 9 true,.t 9,.t 10,.t 11] false none
def F_z_342:F:=.mk
 ((.seq (.reg [I.box 4 (.t 0) 2 true,I.box 5 (.t 1) 4 true,I.box 6 (.t 2) 9 true,I.box 7 (.t 3) 5 true,I.mv 8 (.k (.b false))])
 ((.seq (.reg [I.ld 9 (.t 5) 4 true,I.ld 10 (.t 6) 9 true,I.ld 11 (.t 7) 5 true,I.call (some 12) z_318 [(.t 9),(.t 10),(.t 11)],I.mv 8 (.t 12)])
 (.ret)))))
 [.t 8] false none
def F_z_263:F:=⟨.skip,[],true,some (insP 1)⟩
def F_z_237:F:=⟨.skip,[],true,some (insP 2)⟩
def tab:List (Nat×F):=[(7,F_z_7),(13,F_z_13),(14,F_z_14),(15,F_z_15),(16,F_z_16),(17,F_z_17),(18,F_z_18),(19,F_z_19),(20,F_z_20),(22,F_z_22),(23,F_z_23),(24,F_z_24),(25,F_z_25),(26,F_z_26),(27,F_z_27),(28,F_z_28),(35,F_z_35),(36,F_z_36),(37,F_z_37),(38,F_z_38),(39,F_z_39),(40,F_z_40),(41,F_z_41),(42,F_z_42),(43,F_z_43),(44,F_z_44),(45,F_z_45),(47,F_z_47),(48,F_z_48),(49,F_z_49),(50,F_z_50),(51,F_z_51),(52,F_z_52),(53,F_z_53),(54,F_z_54),(55,F_z_55),(56,F_z_56),(57,F_z_57),(58,F_z_58),(59,F_z_59),(60,F_z_60),(61,F_z_61),(62,F_z_62),(63,F_z_63),(67,F_z_67),(68,F_z_68),(72,F_z_72),(73,F_z_73),(77,F_z_77),(78,F_z_78),(82,F_z_82),(83,F_z_83),(87,F_z_87),(88,F_z_88),(92,F_z_92),(93,F_z_93),(97,F_z_97),(98,F_z_98),(102,F_z_102),(105,F_z_105),(106,F_z_106),(107,F_z_107),(108,F_z_108),(109,F_z_109),(110,F_z_110),(111,F_z_111),(112,F_z_112),(113,F_z_113),(114,F_z_114),(115,F_z_115),(116,F_z_116),(117,F_z_117),(118,F_z_118),(119,F_z_119),(120,F_z_120),(121,F_z_121),(122,F_z_122),(123,F_z_123),(124,F_z_124),(125,F_z_125),(127,F_z_127),(128,F_z_128),(130,F_z_130),(131,F_z_131),(132,F_z_132),(133,F_z_133),(134,F_z_134),(135,F_z_135),(136,F_z_136),(140,F_z_140),(142,F_z_142),(143,F_z_143),(151,F_z_151),(153,F_z_153),(156,F_z_156),(160,F_z_160),(162,F_z_162),(163,F_z_163),(169,F_z_169),(170,F_z_170),(174,F_z_174),(183,F_z_183),(184,F_z_184),(189,F_z_189),(190,F_z_190),(191,F_z_191),(192,F_z_192),(193,F_z_193),(194,F_z_194),(195,F_z_195),(196,F_z_196),(197,F_z_197),(198,F_z_198),(199,F_z_199),(200,F_z_200),(201,F_z_201),(202,F_z_202),(203,F_z_203),(204,F_z_204),(205,F_z_205),(206,F_z_206),(210,F_z_210),(213,F_z_213),(214,F_z_214),(10214,F_z_214p),(215,F_z_215),(216,F_z_216),(217,F_z_217),(218,F_z_218),(225,F_z_225),(226,F_z_226),(227,F_z_227),(228,F_z_228),(235,F_z_235),(236,F_z_236),(238,F_z_238),(241,F_z_241),(242,F_z_242),(243,F_z_243),(248,F_z_248),(249,F_z_249),(250,F_z_250),(251,F_z_251),(252,F_z_252),(253,F_z_253),(254,F_z_254),(255,F_z_255),(256,F_z_256),(261,F_z_261),(262,F_z_262),(20262,F_z_262q),(265,F_z_265),(266,F_z_266),(267,F_z_267),(274,F_z_274),(278,F_z_278),(279,F_z_279),(280,F_z_280),(281,F_z_281),(284,F_z_284),(285,F_z_285),(287,F_z_287),(288,F_z_288),(291,F_z_291),(293,F_z_293),(294,F_z_294),(296,F_z_296),(312,F_z_312),(313,F_z_313),(314,F_z_314),(315,F_z_315),(316,F_z_316),(317,F_z_317),(318,F_z_318),(319,F_z_319),(320,F_z_320),(321,F_z_321),(322,F_z_322),(323,F_z_323),(324,F_z_324),(325,F_z_325),(326,F_z_326),(327,F_z_327),(328,F_z_328),(329,F_z_329),(330,F_z_330),(331,F_z_331),(332,F_z_332),(333,F_z_333),(334,F_z_334),(335,F_z_335),(336,F_z_336),(337,F_z_337),(338,F_z_338),(339,F_z_339),(340,F_z_340),(341,F_z_341),(342,F_z_342)]
def P:Prog:=fun n=>match tab.lookup n with
 | some F=>some F
 | none=>match n with
  | 263=>some F_z_263
  | 237=>some F_z_237
  | _=>none
theorem P_z_7:P z_7=some F_z_7:=rfl
theorem P_z_13:P z_13=some F_z_13:=rfl
theorem P_z_14:P z_14=some F_z_14:=rfl
theorem P_z_15:P z_15=some F_z_15:=rfl
theorem P_z_16:P z_16=some F_z_16:=rfl
theorem P_z_17:P z_17=some F_z_17:=rfl
theorem P_z_18:P z_18=some F_z_18:=rfl
theorem P_z_19:P z_19=some F_z_19:=rfl
theorem P_z_20:P z_20=some F_z_20:=rfl
theorem P_z_22:P z_22=some F_z_22:=rfl
theorem P_z_23:P z_23=some F_z_23:=rfl
theorem P_z_24:P z_24=some F_z_24:=rfl
theorem P_z_25:P z_25=some F_z_25:=rfl
theorem P_z_26:P z_26=some F_z_26:=rfl
theorem P_z_27:P z_27=some F_z_27:=rfl
theorem P_z_28:P z_28=some F_z_28:=rfl
theorem P_z_35:P z_35=some F_z_35:=rfl
theorem P_z_36:P z_36=some F_z_36:=rfl
theorem P_z_37:P z_37=some F_z_37:=rfl
theorem P_z_38:P z_38=some F_z_38:=rfl
theorem P_z_39:P z_39=some F_z_39:=rfl
theorem P_z_40:P z_40=some F_z_40:=rfl
theorem P_z_41:P z_41=some F_z_41:=rfl
theorem P_z_42:P z_42=some F_z_42:=rfl
theorem P_z_43:P z_43=some F_z_43:=rfl
theorem P_z_44:P z_44=some F_z_44:=rfl
theorem P_z_45:P z_45=some F_z_45:=rfl
theorem P_z_47:P z_47=some F_z_47:=rfl
theorem P_z_48:P z_48=some F_z_48:=rfl
theorem P_z_49:P z_49=some F_z_49:=rfl
theorem P_z_50:P z_50=some F_z_50:=rfl
theorem P_z_51:P z_51=some F_z_51:=rfl
theorem P_z_52:P z_52=some F_z_52:=rfl
theorem P_z_53:P z_53=some F_z_53:=rfl
theorem P_z_54:P z_54=some F_z_54:=rfl
theorem P_z_55:P z_55=some F_z_55:=rfl
theorem P_z_56:P z_56=some F_z_56:=rfl
theorem P_z_57:P z_57=some F_z_57:=rfl
theorem P_z_58:P z_58=some F_z_58:=rfl
theorem P_z_59:P z_59=some F_z_59:=rfl
theorem P_z_60:P z_60=some F_z_60:=rfl
theorem P_z_61:P z_61=some F_z_61:=rfl
theorem P_z_62:P z_62=some F_z_62:=rfl
theorem P_z_63:P z_63=some F_z_63:=rfl
theorem P_z_67:P z_67=some F_z_67:=rfl
theorem P_z_68:P z_68=some F_z_68:=rfl
theorem P_z_72:P z_72=some F_z_72:=rfl
theorem P_z_73:P z_73=some F_z_73:=rfl
theorem P_z_77:P z_77=some F_z_77:=rfl
theorem P_z_78:P z_78=some F_z_78:=rfl
theorem P_z_82:P z_82=some F_z_82:=rfl
theorem P_z_83:P z_83=some F_z_83:=rfl
theorem P_z_87:P z_87=some F_z_87:=rfl
theorem P_z_88:P z_88=some F_z_88:=rfl
theorem P_z_92:P z_92=some F_z_92:=rfl
theorem P_z_93:P z_93=some F_z_93:=rfl
theorem P_z_97:P z_97=some F_z_97:=rfl
theorem P_z_98:P z_98=some F_z_98:=rfl
theorem P_z_102:P z_102=some F_z_102:=rfl
theorem P_z_105:P z_105=some F_z_105:=rfl
theorem P_z_106:P z_106=some F_z_106:=rfl
theorem P_z_107:P z_107=some F_z_107:=rfl
theorem P_z_108:P z_108=some F_z_108:=rfl
theorem P_z_109:P z_109=some F_z_109:=rfl
theorem P_z_110:P z_110=some F_z_110:=rfl
theorem P_z_111:P z_111=some F_z_111:=rfl
theorem P_z_112:P z_112=some F_z_112:=rfl
theorem P_z_113:P z_113=some F_z_113:=rfl
theorem P_z_114:P z_114=some F_z_114:=rfl
theorem P_z_115:P z_115=some F_z_115:=rfl
theorem P_z_116:P z_116=some F_z_116:=rfl
theorem P_z_117:P z_117=some F_z_117:=rfl
theorem P_z_118:P z_118=some F_z_118:=rfl
theorem P_z_119:P z_119=some F_z_119:=rfl
theorem P_z_120:P z_120=some F_z_120:=rfl
theorem P_z_121:P z_121=some F_z_121:=rfl
theorem P_z_122:P z_122=some F_z_122:=rfl
theorem P_z_123:P z_123=some F_z_123:=rfl
theorem P_z_124:P z_124=some F_z_124:=rfl
theorem P_z_125:P z_125=some F_z_125:=rfl
theorem P_z_127:P z_127=some F_z_127:=rfl
theorem P_z_128:P z_128=some F_z_128:=rfl
theorem P_z_130:P z_130=some F_z_130:=rfl
theorem P_z_131:P z_131=some F_z_131:=rfl
theorem P_z_132:P z_132=some F_z_132:=rfl
theorem P_z_133:P z_133=some F_z_133:=rfl
theorem P_z_134:P z_134=some F_z_134:=rfl
theorem P_z_135:P z_135=some F_z_135:=rfl
theorem P_z_136:P z_136=some F_z_136:=rfl
theorem P_z_140:P z_140=some F_z_140:=rfl
theorem P_z_142:P z_142=some F_z_142:=rfl
theorem P_z_143:P z_143=some F_z_143:=rfl
theorem P_z_151:P z_151=some F_z_151:=rfl
theorem P_z_153:P z_153=some F_z_153:=rfl
theorem P_z_156:P z_156=some F_z_156:=rfl
theorem P_z_160:P z_160=some F_z_160:=rfl
theorem P_z_162:P z_162=some F_z_162:=rfl
theorem P_z_163:P z_163=some F_z_163:=rfl
theorem P_z_169:P z_169=some F_z_169:=rfl
theorem P_z_170:P z_170=some F_z_170:=rfl
theorem P_z_174:P z_174=some F_z_174:=rfl
theorem P_z_183:P z_183=some F_z_183:=rfl
theorem P_z_184:P z_184=some F_z_184:=rfl
theorem P_z_189:P z_189=some F_z_189:=rfl
theorem P_z_190:P z_190=some F_z_190:=rfl
theorem P_z_191:P z_191=some F_z_191:=rfl
theorem P_z_192:P z_192=some F_z_192:=rfl
theorem P_z_193:P z_193=some F_z_193:=rfl
theorem P_z_194:P z_194=some F_z_194:=rfl
theorem P_z_195:P z_195=some F_z_195:=rfl
theorem P_z_196:P z_196=some F_z_196:=rfl
theorem P_z_197:P z_197=some F_z_197:=rfl
theorem P_z_198:P z_198=some F_z_198:=rfl
theorem P_z_199:P z_199=some F_z_199:=rfl
theorem P_z_200:P z_200=some F_z_200:=rfl
theorem P_z_201:P z_201=some F_z_201:=rfl
theorem P_z_202:P z_202=some F_z_202:=rfl
theorem P_z_203:P z_203=some F_z_203:=rfl
theorem P_z_204:P z_204=some F_z_204:=rfl
theorem P_z_205:P z_205=some F_z_205:=rfl
theorem P_z_206:P z_206=some F_z_206:=rfl
theorem P_z_210:P z_210=some F_z_210:=rfl
theorem P_z_213:P z_213=some F_z_213:=rfl
theorem P_z_214:P z_214=some F_z_214:=rfl
theorem P_z_215:P z_215=some F_z_215:=rfl
theorem P_z_216:P z_216=some F_z_216:=rfl
theorem P_z_217:P z_217=some F_z_217:=rfl
theorem P_z_218:P z_218=some F_z_218:=rfl
theorem P_z_225:P z_225=some F_z_225:=rfl
theorem P_z_226:P z_226=some F_z_226:=rfl
theorem P_z_227:P z_227=some F_z_227:=rfl
theorem P_z_228:P z_228=some F_z_228:=rfl
theorem P_z_235:P z_235=some F_z_235:=rfl
theorem P_z_236:P z_236=some F_z_236:=rfl
theorem P_z_238:P z_238=some F_z_238:=rfl
theorem P_z_241:P z_241=some F_z_241:=rfl
theorem P_z_242:P z_242=some F_z_242:=rfl
theorem P_z_243:P z_243=some F_z_243:=rfl
theorem P_z_248:P z_248=some F_z_248:=rfl
theorem P_z_249:P z_249=some F_z_249:=rfl
theorem P_z_250:P z_250=some F_z_250:=rfl
theorem P_z_251:P z_251=some F_z_251:=rfl
theorem P_z_252:P z_252=some F_z_252:=rfl
theorem P_z_253:P z_253=some F_z_253:=rfl
theorem P_z_254:P z_254=some F_z_254:=rfl
theorem P_z_255:P z_255=some F_z_255:=rfl
theorem P_z_256:P z_256=some F_z_256:=rfl
theorem P_z_261:P z_261=some F_z_261:=rfl
theorem P_z_262:P z_262=some F_z_262:=rfl
theorem P_z_262q:P z_262q=some F_z_262q:=rfl
theorem P_z_265:P z_265=some F_z_265:=rfl
theorem P_z_266:P z_266=some F_z_266:=rfl
theorem P_z_267:P z_267=some F_z_267:=rfl
theorem P_z_278:P z_278=some F_z_278:=rfl
theorem P_z_279:P z_279=some F_z_279:=rfl
theorem P_z_280:P z_280=some F_z_280:=rfl
theorem P_z_281:P z_281=some F_z_281:=rfl
theorem P_z_284:P z_284=some F_z_284:=rfl
theorem P_z_285:P z_285=some F_z_285:=rfl
theorem P_z_288:P z_288=some F_z_288:=rfl
theorem P_z_312:P z_312=some F_z_312:=rfl
theorem P_z_313:P z_313=some F_z_313:=rfl
theorem P_z_314:P z_314=some F_z_314:=rfl
theorem P_z_315:P z_315=some F_z_315:=rfl
theorem P_z_316:P z_316=some F_z_316:=rfl
theorem P_z_317:P z_317=some F_z_317:=rfl
theorem P_z_318:P z_318=some F_z_318:=rfl
theorem P_z_319:P z_319=some F_z_319:=rfl
theorem P_z_320:P z_320=some F_z_320:=rfl
theorem P_z_321:P z_321=some F_z_321:=rfl
theorem P_z_322:P z_322=some F_z_322:=rfl
theorem P_z_323:P z_323=some F_z_323:=rfl
theorem P_z_324:P z_324=some F_z_324:=rfl
theorem P_z_325:P z_325=some F_z_325:=rfl
theorem P_z_326:P z_326=some F_z_326:=rfl
theorem P_z_327:P z_327=some F_z_327:=rfl
theorem P_z_328:P z_328=some F_z_328:=rfl
theorem P_z_329:P z_329=some F_z_329:=rfl
theorem P_z_330:P z_330=some F_z_330:=rfl
theorem P_z_331:P z_331=some F_z_331:=rfl
theorem P_z_332:P z_332=some F_z_332:=rfl
theorem P_z_333:P z_333=some F_z_333:=rfl
theorem P_z_334:P z_334=some F_z_334:=rfl
theorem P_z_335:P z_335=some F_z_335:=rfl
theorem P_z_336:P z_336=some F_z_336:=rfl
theorem P_z_337:P z_337=some F_z_337:=rfl
theorem P_z_338:P z_338=some F_z_338:=rfl
theorem P_z_339:P z_339=some F_z_339:=rfl
theorem P_z_340:P z_340=some F_z_340:=rfl
theorem P_z_341:P z_341=some F_z_341:=rfl
theorem P_z_342:P z_342=some F_z_342:=rfl
theorem P_z_263:P z_263=some F_z_263:=rfl
theorem P_z_237:P z_237=some F_z_237:=rfl
end Go.VS
