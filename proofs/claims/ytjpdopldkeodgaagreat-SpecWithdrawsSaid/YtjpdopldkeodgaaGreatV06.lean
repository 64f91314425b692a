import Derived.Test.YtjpdopldkeodgaaGreatV05
set_option linter.all false
namespace Go.VS
def z_8:Nat:=8
def z_13:Nat:=13
def z_14:Nat:=14
def z_15:Nat:=15
def z_17:Nat:=17
def z_18:Nat:=18
def z_20:Nat:=20
def z_23:Nat:=23
def z_25:Nat:=25
def z_29:Nat:=29
def z_30:Nat:=30
def z_31:Nat:=31
def z_35:Nat:=35
def z_36:Nat:=36
def z_37:Nat:=37
def z_38:Nat:=38
def z_42:Nat:=42
def z_43:Nat:=43
def z_44:Nat:=44
def z_45:Nat:=45
def z_57:Nat:=57
def z_62:Nat:=62
def z_63:Nat:=63
def z_64:Nat:=64
def z_65:Nat:=65
def z_66:Nat:=66
def z_67:Nat:=67
def z_68:Nat:=68
def z_69:Nat:=69
def z_70:Nat:=70
def z_71:Nat:=71
def z_72:Nat:=72
def z_73:Nat:=73
def z_74:Nat:=74
def z_75:Nat:=75
def z_76:Nat:=76
def z_77:Nat:=77
def z_78:Nat:=78
def z_79:Nat:=79
def z_80:Nat:=80
def z_81:Nat:=81
def z_82:Nat:=82
def z_83:Nat:=83
def z_84:Nat:=84
def z_85:Nat:=85
def z_86:Nat:=86
def z_87:Nat:=87
def z_88:Nat:=88
def z_89:Nat:=89
def z_90:Nat:=90
def z_91:Nat:=91
def z_92:Nat:=92
def z_93:Nat:=93
def z_94:Nat:=94
def z_95:Nat:=95
def z_96:Nat:=96
def z_97:Nat:=97
def z_98:Nat:=98
def z_99:Nat:=99
def z_100:Nat:=100
def z_101:Nat:=101
def z_102:Nat:=102
def z_123:Nat:=123
def z_125:Nat:=125
def z_126:Nat:=126
def z_127:Nat:=127
def z_128:Nat:=128
def z_129:Nat:=129
def z_129q:Nat:=20129
def z_130:Nat:=130
def z_131:Nat:=131
def z_132:Nat:=132
def z_133:Nat:=133
def z_134:Nat:=134
def z_135:Nat:=135
def z_136:Nat:=136
def z_137:Nat:=137
def z_138:Nat:=138
def z_139:Nat:=139
def z_140:Nat:=140
def z_141:Nat:=141
def z_142:Nat:=142
def z_143:Nat:=143
def z_144:Nat:=144
def z_145:Nat:=145
def z_146:Nat:=146
def z_147:Nat:=147
def z_148:Nat:=148
def z_149:Nat:=149
def z_150:Nat:=150
def z_151:Nat:=151
def z_152:Nat:=152
def z_153:Nat:=153
def z_154:Nat:=154
def z_155:Nat:=155
def z_156:Nat:=156
def z_157:Nat:=157
def z_158:Nat:=158
def z_159:Nat:=159
def z_160:Nat:=160
def z_161:Nat:=161
def z_162:Nat:=162
def z_163:Nat:=163
def z_164:Nat:=164
def z_165:Nat:=165
def z_166:Nat:=166
def z_167:Nat:=167
def z_168:Nat:=168
def z_169:Nat:=169
def z_170:Nat:=170
def z_171:Nat:=171
def z_172:Nat:=172
def z_173:Nat:=173
def z_174:Nat:=174
def z_175:Nat:=175
def z_176:Nat:=176
def z_177:Nat:=177
def z_178:Nat:=178
def z_179:Nat:=179
def z_180:Nat:=180
def z_181:Nat:=181
def z_182:Nat:=182
def z_183:Nat:=183
def z_184:Nat:=184
def z_185:Nat:=185
def z_186:Nat:=186
def z_187:Nat:=187
def z_206:Nat:=206
def z_207:Nat:=207
def z_208:Nat:=208
def z_209:Nat:=209
def z_210:Nat:=210
def z_211:Nat:=211
def z_211q:Nat:=20211
def z_211r:Nat:=30211
def z_212:Nat:=212
def z_213:Nat:=213
def z_214:Nat:=214
def z_214p:Nat:=10214
def z_215:Nat:=215
def z_216:Nat:=216
def z_217:Nat:=217
def z_217q:Nat:=20217
def z_218:Nat:=218
def z_219:Nat:=219
def z_220:Nat:=220
def z_221:Nat:=221
def z_222:Nat:=222
def z_223:Nat:=223
def z_224:Nat:=224
def z_225:Nat:=225
def z_226:Nat:=226
def z_227:Nat:=227
def z_228:Nat:=228
def z_229:Nat:=229
def z_230:Nat:=230
def z_231:Nat:=231
def z_232:Nat:=232
def z_233:Nat:=233
def z_234:Nat:=234
def z_235:Nat:=235
def z_236:Nat:=236
def z_237:Nat:=237
def z_238:Nat:=238
def z_239:Nat:=239
def z_240:Nat:=240
def z_241:Nat:=241
def z_242:Nat:=242
def z_243:Nat:=243
def z_244:Nat:=244
def z_245:Nat:=245
def z_246:Nat:=246
def z_247:Nat:=247
def z_248:Nat:=248
def z_249:Nat:=249
def z_257:Nat:=257
def z_258:Nat:=258
def z_259:Nat:=259
def z_260:Nat:=260
def z_261:Nat:=261
def z_262:Nat:=262
def z_262q:Nat:=20262
def z_263:Nat:=263
def z_264:Nat:=264
def z_265:Nat:=265
def z_266:Nat:=266
def z_267:Nat:=267
def z_268:Nat:=268
def z_269:Nat:=269
def z_270:Nat:=270
def z_271:Nat:=271
def z_272:Nat:=272
def z_273:Nat:=273
def z_274:Nat:=274
def z_275:Nat:=275
def z_276:Nat:=276
def z_277:Nat:=277
def z_278:Nat:=278
def z_281:Nat:=281
def z_282:Nat:=282
def z_283:Nat:=283
def z_284:Nat:=284
def z_285:Nat:=285
def z_286:Nat:=286
def z_287:Nat:=287
def z_288:Nat:=288
def z_289:Nat:=289
def z_290:Nat:=290
def z_291:Nat:=291
def z_292:Nat:=292
def z_293:Nat:=293
def z_294:Nat:=294
def z_295:Nat:=295
def z_296:Nat:=296
def z_312:Nat:=312
def z_313:Nat:=313
def z_314:Nat:=314
def z_315:Nat:=315
def z_319:Nat:=319
def z_321:Nat:=321
def z_322:Nat:=322
def z_324:Nat:=324
def z_325:Nat:=325
def z_327:Nat:=327
def z_328:Nat:=328
def z_330:Nat:=330
def z_332:Nat:=332
def z_333:Nat:=333
def z_335:Nat:=335
def z_336:Nat:=336
def z_339:Nat:=339
def z_341:Nat:=341
@[simp] def zR:List D:=[(.i .i64 0),(.i .i64 0),(.i .i64 0),(.sl 1 true []),(.sl 5 true []),(.sl 1 true []),(.sl 2 true []),(.b false),(.i .i64 0)]
@[simp] def zQ:List D:=[(.i .i64 0),(.i .i64 0),(.i .i64 0),(.i .i64 0),(.i .i64 0)]
@[simp] def k0:A:=.k (.i .i64 0)
@[simp] def zPP:List D:=[(.i .i64 0),(.i .i64 0),(.i .i64 0),(.sl 1 true []),(.sl 5 true []),(.sl 1 true []),(.sl 2 true []),(.b false),(.i .i64 0),(.b false),(.i .i64 0),(.b false),(.sl 5 true [])]
@[simp] def zWW:List D:=[(.i .i64 0),(.i .i64 0),(.i .i64 0),(.b false),(.i .i64 0)]
@[simp] def kTT:A:=.k (.b true)
@[simp] def kFF:A:=.k (.b false)
@[simp] def kII (n:Int):A:=.k (.i .i64 n)
instance:Coe I J:=⟨J.op⟩
def F_z_8:F:=.mk
 ((.seq (.reg [I.box 3 (.t 0) 4 true,I.box 4 (.t 1) 9 true,I.mv 6 kFF])
 ((.seq (.reg [I.fa 18 (.t 3) 1 1,I.ld 19 (.t 18) 1 false,I.call (some 20) z_29 [(.t 19)],I.mv 17 (.t 20),I.ext 21 (.t 17) 0,I.ext 22 (.t 17) 1,I.new 7 [.nilfn,.nilfn,.nilfn,.nilfn,.nilfn],I.st (.t 7) (.t 21) 5 true,I.mv 8 (.t 22)])
 ((.seq ((.seq (.reg [I.ld 23 (.t 4) 9 true,I.call (some 24) z_13 [(.t 23)],I.mv 25 (.t 24),.sc true 28 25 [I.mv 26 (.t 8),I.un 27 .not (.t 26)] (.t 27)])
 (.ite (.t 28)
 ((.seq (.reg [I.call (some 29) z_14 [],I.mv 6 (.t 29)])
 (.ret)))
 (.skip))))
 ((.seq (.reg [I.fa 31 (.t 7) 3 1,I.ld 32 (.t 31) 1 false,I.ld 33 (.t 3) 4 true,I.ld 34 (.t 4) 9 true,I.mv 35 (.t 2),I.callv (some 36) (.t 32) [(.t 33),(.t 34),(.t 35)],I.mv 30 (.t 36),I.ext 37 (.t 30) 0,I.ext 38 (.t 30) 1,I.new 9 zPP,I.st (.t 9) (.t 37) 13 true,I.mv 10 (.t 38)])
 ((.seq ((.seq (.reg [I.mv 39 (.t 10),I.bin 40 .neq (.t 39) k0])
 (.ite (.t 40)
 ((.seq (.reg [I.call (some 41) z_14 [],I.mv 6 (.t 41)])
 (.ret)))
 (.skip))))
 ((.seq (.reg [I.ld 43 (.t 3) 4 true,I.ld 44 (.t 4) 9 true,I.call (some 45) z_25 [(.t 43),(.t 44)],I.mv 42 (.t 45),I.ext 46 (.t 42) 0,I.ext 47 (.t 42) 1,I.new 11 zR,I.st (.t 11) (.t 46) 9 true,I.mv 12 (.t 47)])
 ((.seq (.reg [I.ld 49 (.t 3) 4 true,I.fa 50 (.t 9) 0 9,I.ld 51 (.t 50) 9 true,I.call (some 52) z_25 [(.t 49),(.t 51)],I.mv 48 (.t 52),I.ext 53 (.t 48) 0,I.ext 54 (.t 48) 1,I.new 13 zR,I.st (.t 13) (.t 53) 9 true,I.mv 14 (.t 54)])
 ((.seq (.seq (.drw [] [0,1,2,3,4,5,6,7,8,9,10,11,12,13,14] [I.ldd 56 (.t 3) 4 true,I.ldd 57 (.t 11) 9 true,I.ldd 58 (.t 4) 9 true,I.fad 59 (.t 9) 12 1,I.ldd 60 (.t 59) 1 false,I.fad 61 (.t 4) 2 1,I.ldd 62 (.t 61) 1 false,I.call (some 63) z_31 [(.t 58),(.t 60),(.t 62)],I.call (some 64) z_30 [(.t 56),(.t 57),(.t 63)],I.mv 55 (.t 64),I.ext 65 (.t 55) 0,I.ext 66 (.t 55) 1,I.new 15 zR,I.st (.t 15) (.t 65) 9 false,I.mv 16 (.t 66)])
 (.frz [15]))
 ((.seq (.reg [I.mv 67 (.t 12),I.bin 68 .eql (.t 67) k0,I.mv 69 (.t 68),.sc false 72 69 [I.mv 70 (.t 14),I.bin 71 .eql (.t 70) k0] (.t 71),I.mv 73 (.t 72),.sc false 75 73 [I.mv 74 (.t 16)] (.t 74),I.mv 76 (.t 75),.sc false 80 76 [I.ld 77 (.t 15) 9 true,I.ld 78 (.t 13) 9 true,I.call (some 79) z_17 [(.t 77),(.t 78)]] (.t 79),I.mv 81 (.t 80),.sc false 83 81 [I.call (some 82) z_14 []] (.t 82),I.mv 6 (.t 83)])
 (.ret)))))))))))))))))))
 [.t 6] false none
def F_z_13_L0:C :=
 (.seq ((.seq (.reg [I.mv 26 (.t 3),I.fa 27 (.t 1) 6 1,I.ld 28 (.t 27) 1 false,I.len 29 (.t 28) .sl,I.bin 30 .lss (.t 26) (.t 29)])
 (.ite (.t 30)
 (.skip)
 (.seq (.keep []) (.exit 0)))))
 ((.seq (.blk 1 ((.seq (.reg [I.fa 33 (.t 1) 6 1,I.ld 34 (.t 33) 1 false,I.mv 35 (.t 3),I.ixs 36 (.t 34) (.t 35) 2,I.fa 37 (.t 36) 1 1,I.ld 38 (.t 37) 1 false,I.len 39 (.t 38) .sl,I.bin 40 .gtr (.t 39) (kII 120)])
 (.ite (.t 40)
 ((.seq (.reg [I.mv 2 kTT])
 (.seq (.keep [2]) .ret)))
 (.skip)))))
 (.reg [I.mv 31 (.t 3),I.bin 32 .add (.t 31) (kII 1),I.mv 3 (.t 32)]))))
def F_z_13:F:=.mk
 ((.seq (.reg [I.box 1 (.t 0) 9 true,I.mv 2 kFF])
 ((.seq ((.seq (.reg [I.fa 4 (.t 1) 3 1,I.ld 5 (.t 4) 1 false,I.len 6 (.t 5) .sl,I.bin 7 .gtr (.t 6) (kII 40),I.mv 8 (.t 7),.sc true 13 8 [I.fa 9 (.t 1) 4 1,I.ld 10 (.t 9) 1 false,I.len 11 (.t 10) .sl,I.bin 12 .gtr (.t 11) (kII 40)] (.t 12),I.mv 14 (.t 13),.sc true 19 14 [I.fa 15 (.t 1) 5 1,I.ld 16 (.t 15) 1 false,I.len 17 (.t 16) .sl,I.bin 18 .gtr (.t 17) (kII 120)] (.t 18),I.mv 20 (.t 19),.sc true 25 20 [I.fa 21 (.t 1) 6 1,I.ld 22 (.t 21) 1 false,I.len 23 (.t 22) .sl,I.bin 24 .gtr (.t 23) (kII 40)] (.t 24)])
 (.ite (.t 25)
 ((.seq (.reg [I.mv 2 kTT])
 (.ret)))
 (.skip))))
 ((.seq ((.seq (.reg [I.mv 3 k0])
 (.blk 0 (.loop [1,3] F_z_13_L0))))
 ((.seq (.reg [I.mv 2 kFF])
 (.ret)))))))))
 [.t 2] false none
def F_z_14:F:=.mk
 ((.seq (.reg [I.mv 0 kFF])
 ((.seq (.reg [I.build 7 zQ [(0,1,(kII 1)),(1,1,(kII 64)),(2,1,(kII 5))],I.build 8 zQ [(0,1,(kII 2)),(1,1,(kII 65))],I.new 1 zQ,I.new 2 zQ,I.st (.t 1) (.t 7) 5 true,I.st (.t 2) (.t 8) 5 true])
 ((.seq (.reg [I.build 9 zWW [(0,1,(kII 1)),(1,1,(kII 64)),(3,1,kTT)],I.build 10 zWW [(0,1,(kII 2)),(1,1,(kII 65)),(2,1,(kII 5)),(3,1,kTT)],I.new 3 zWW,I.new 4 zWW,I.st (.t 3) (.t 9) 5 true,I.st (.t 4) (.t 10) 5 true])
 ((.seq (.reg [I.call (some 12) z_35 [],I.call (some 13) z_23 [(.t 12)],I.mv 11 (.t 13),I.ext 14 (.t 11) 0,I.ext 15 (.t 11) 1,I.new 5 zR,I.st (.t 5) (.t 14) 9 true,I.mv 6 (.t 15)])
 ((.seq (.drw [] [0,1,2,3,4,5,6,7,8,9,10,11,12,13,14,15,16,17,18,19,20,21,22,23,24,25,26,27,28,29,30,31,32,33,34,35,36,37,38,39,40,41,42,43,44,45] [I.mv 16 (.t 6),I.bin 17 .eql (.t 16) k0,I.mv 18 (.t 17),.sc false 23 18 [I.call (some 19) z_35 [],I.ldd 20 (.t 5) 9 true,I.ldd 21 (.t 1) 5 true,I.call (some 22) z_18 [(.t 19),(.t 20),(.t 21)]] (.t 22),I.mv 24 (.t 23),.sc false 30 24 [I.call (some 25) z_35 [],I.ldd 26 (.t 5) 9 true,I.ldd 27 (.t 2) 5 true,I.call (some 28) z_18 [(.t 25),(.t 26),(.t 27)],I.un 29 .not (.t 28)] (.t 29),I.mv 31 (.t 30),.sc false 40 31 [I.call (some 32) z_35 [],I.ldd 33 (.t 1) 5 true,I.ldd 34 (.t 2) 5 true,I.buildSl 35 5 2 zQ [(0,(.t 33)),(1,(.t 34))] true,I.ldd 36 (.t 3) 5 true,I.ldd 37 (.t 4) 5 true,I.buildSl 38 5 2 zWW [(0,(.t 36)),(1,(.t 37))] true,I.call (some 39) z_20 [(.t 32),(.t 35),(.t 38)]] (.t 39),I.mv 41 (.t 40),.sc false 49 41 [I.call (some 42) z_35 [],I.ldd 43 (.t 1) 5 true,I.buildSl 44 5 1 zQ [(0,(.t 43))] true,I.ldd 45 (.t 3) 5 true,I.buildSl 46 5 1 zWW [(0,(.t 45))] true,I.call (some 47) z_20 [(.t 42),(.t 44),(.t 46)],I.un 48 .not (.t 47)] (.t 48),I.mv 50 (.t 49),.sc false 60 50 [I.call (some 51) z_35 [],I.ldd 52 (.t 2) 5 true,I.ldd 53 (.t 1) 5 true,I.buildSl 54 5 2 zQ [(0,(.t 52)),(1,(.t 53))] true,I.ldd 55 (.t 4) 5 true,I.ldd 56 (.t 3) 5 true,I.buildSl 57 5 2 zWW [(0,(.t 55)),(1,(.t 56))] true,I.call (some 58) z_20 [(.t 51),(.t 54),(.t 57)],I.un 59 .not (.t 58)] (.t 59),I.mv 0 (.t 60)])
 (.ret)))))))))))
 [.t 0] false none
def F_z_15:F:=.mk
 ((.seq (.reg [I.box 3 (.t 0) 4 true,I.box 4 (.t 1) 9 true,I.box 5 (.t 2) 5 true,I.new 6 zR,I.mv 7 k0,I.mv 8 kFF,I.mv 9 k0])
 ((.seq (.reg [I.mv 10 (.k (.fn z_36 [] []))])
 ((.seq (.reg [I.fa 19 (.t 3) 1 1,I.ld 20 (.t 19) 1 false,I.call (some 21) z_37 [(.t 20)],I.mv 18 (.t 21),I.ext 22 (.t 18) 0,I.ext 23 (.t 18) 1,I.mv 11 (.t 22),I.mv 12 (.t 23)])
 ((.seq ((.seq (.reg [I.mv 24 (.t 12),I.un 25 .not (.t 24),I.mv 26 (.t 25),.sc true 31 26 [I.fa 27 (.t 4) 4 1,I.ld 28 (.t 27) 1 false,I.len 29 (.t 28) .sl,I.bin 30 .gtr (.t 29) k0] (.t 30),I.mv 32 (.t 31),.sc true 38 32 [I.mv 33 (.t 11),I.ld 34 (.t 3) 4 true,I.ld 35 (.t 4) 9 true,I.inv (some 36) "nursery/spec.abstract" [(101,2,z_312),(102,2,z_312),(103,2,z_312),(104,2,z_324),(105,2,z_327),(106,2,z_332),(107,2,z_312),(108,2,z_312)] (.t 33) [(.t 34),(.t 35)],I.un 37 .not (.t 36)] (.t 37)])
 (.ite (.t 38)
 ((.seq (.reg [I.mv 39 (.t 10),I.callv (some 40) (.t 39) [(kII 1)],I.ext 41 (.t 40) 0,I.ext 42 (.t 40) 1,I.ext 43 (.t 40) 2,I.ext 44 (.t 40) 3,I.st (.t 6) (.t 41) 9 false,I.mv 7 (.t 42),I.mv 8 (.t 43),I.mv 9 (.t 44)])
 (.ret)))
 (.skip))))
 ((.seq ((.seq (.reg [I.fa 45 (.t 5) 0 1,I.ld 46 (.t 45) 1 false,I.bin 47 .lss (.t 46) k0,I.mv 48 (.t 47),.sc true 52 48 [I.fa 49 (.t 5) 0 1,I.ld 50 (.t 49) 1 false,I.bin 51 .geq (.t 50) (kII 16)] (.t 51),I.mv 53 (.t 52),.sc true 57 53 [I.fa 54 (.t 5) 3 1,I.ld 55 (.t 54) 1 false,I.bin 56 .lss (.t 55) k0] (.t 56),I.mv 58 (.t 57),.sc true 62 58 [I.fa 59 (.t 5) 3 1,I.ld 60 (.t 59) 1 false,I.bin 61 .gtr (.t 60) (kII 9)] (.t 61),I.mv 63 (.t 62),.sc true 67 63 [I.fa 64 (.t 5) 4 1,I.ld 65 (.t 64) 1 false,I.bin 66 .lss (.t 65) k0] (.t 66),I.mv 68 (.t 67),.sc true 72 68 [I.fa 69 (.t 5) 4 1,I.ld 70 (.t 69) 1 false,I.bin 71 .gtr (.t 70) (kII 1099511627776)] (.t 71)])
 (.ite (.t 72)
 ((.seq (.reg [I.mv 73 (.t 10),I.callv (some 74) (.t 73) [(kII 2)],I.ext 75 (.t 74) 0,I.ext 76 (.t 74) 1,I.ext 77 (.t 74) 2,I.ext 78 (.t 74) 3,I.st (.t 6) (.t 75) 9 false,I.mv 7 (.t 76),I.mv 8 (.t 77),I.mv 9 (.t 78)])
 (.ret)))
 (.skip))))
 ((.seq (.drw [] [0,1,3,4,2,5,6,7,8,9,10] [I.fad 80 (.t 3) 1 1,I.ldd 81 (.t 80) 1 false,I.fad 83 (.t 5) 1 1,I.ldd 84 (.t 83) 1 false,I.callk (some 82) z_38 [(.t 81)],I.mget 85 (.t 82) (.t 84) (.i .i64 0) true [.i],I.mv 79 (.t 85),I.ext 86 (.t 79) 0,I.ext 87 (.t 79) 1,I.mv 13 (.t 86),I.mv 12 (.t 87)])
 ((.seq ((.seq (.reg [I.mv 88 (.t 12),I.un 89 .not (.t 88)])
 (.ite (.t 89)
 ((.seq (.reg [I.mv 90 (.t 10),I.callv (some 91) (.t 90) [(kII 8)],I.ext 92 (.t 91) 0,I.ext 93 (.t 91) 1,I.ext 94 (.t 91) 2,I.ext 95 (.t 91) 3,I.st (.t 6) (.t 92) 9 false,I.mv 7 (.t 93),I.mv 8 (.t 94),I.mv 9 (.t 95)])
 (.ret)))
 (.skip))))
 ((.seq ((.seq (.reg [I.mv 96 (.t 13),I.bin 97 .eql (.t 96) (kII 1),I.mv 98 (.t 97),.sc false 109 98 [I.fa 99 (.t 5) 2 1,I.ld 100 (.t 99) 1 false,I.bin 101 .lss (.t 100) (kII 1),I.mv 102 (.t 101),.sc true 108 102 [I.fa 103 (.t 5) 2 1,I.ld 104 (.t 103) 1 false,I.fa 105 (.t 3) 2 1,I.ld 106 (.t 105) 1 false,I.bin 107 .gtr (.t 104) (.t 106)] (.t 107)] (.t 108),I.mv 110 (.t 109),.sc true 123 110 [I.mv 111 (.t 13),I.bin 112 .eql (.t 111) (kII 2),I.mv 113 (.t 112),.sc false 122 113 [I.fa 114 (.t 5) 2 1,I.ld 115 (.t 114) 1 false,I.bin 116 .lss (.t 115) (.k (.i .i64 (-1099511627776))),I.mv 117 (.t 116),.sc true 121 117 [I.fa 118 (.t 5) 2 1,I.ld 119 (.t 118) 1 false,I.bin 120 .gtr (.t 119) (kII 1099511627776)] (.t 120)] (.t 121)] (.t 122)])
 (.ite (.t 123)
 ((.seq (.reg [I.mv 124 (.t 10),I.callv (some 125) (.t 124) [(kII 2)],I.ext 126 (.t 125) 0,I.ext 127 (.t 125) 1,I.ext 128 (.t 125) 2,I.ext 129 (.t 125) 3,I.st (.t 6) (.t 126) 9 false,I.mv 7 (.t 127),I.mv 8 (.t 128),I.mv 9 (.t 129)])
 (.ret)))
 (.skip))))
 ((.seq (.reg [I.mv 131 (.t 11),I.ld 132 (.t 3) 4 true,I.ld 133 (.t 4) 9 true,I.ld 134 (.t 5) 5 true,I.inv (some 135) "nursery/spec.effect" [(101,2,z_315),(102,2,z_319),(103,2,z_322),(104,2,z_325),(105,2,z_328),(106,2,z_333),(107,2,z_339),(108,2,z_341)] (.t 131) [(.t 132),(.t 133),(.t 134)],I.mv 130 (.t 135),I.ext 136 (.t 130) 0,I.ext 137 (.t 130) 1,I.ext 138 (.t 130) 2,I.ext 139 (.t 130) 3,I.new 14 zR,I.st (.t 14) (.t 136) 9 true,I.mv 15 (.t 137),I.mv 16 (.t 138),I.mv 17 (.t 139)])
 ((.seq ((.seq (.reg [I.mv 140 (.t 17),I.bin 141 .neq (.t 140) k0])
 (.ite (.t 141)
 ((.seq (.reg [I.mv 142 (.t 10),I.mv 143 (.t 17),I.callv (some 144) (.t 142) [(.t 143)],I.ext 145 (.t 144) 0,I.ext 146 (.t 144) 1,I.ext 147 (.t 144) 2,I.ext 148 (.t 144) 3,I.st (.t 6) (.t 145) 9 false,I.mv 7 (.t 146),I.mv 8 (.t 147),I.mv 9 (.t 148)])
 (.ret)))
 (.skip))))
 ((.seq (.reg [I.ld 149 (.t 14) 9 true,I.mv 150 (.t 15),I.mv 151 (.t 16),I.st (.t 6) (.t 149) 9 false,I.mv 7 (.t 150),I.mv 8 (.t 151),I.mv 9 k0])
 (.ret)))))))))))))))))))))))
 [.c 6 9 true,.t 7,.t 8,.t 9] false none
def F_z_17:F:=.mk
 ((.seq (.reg [I.box 2 (.t 0) 9 true,I.box 3 (.t 1) 9 true,I.mv 4 kFF])
 ((.seq ((.seq (.reg [I.fa 5 (.t 2) 0 1,I.ld 6 (.t 5) 1 false,I.fa 7 (.t 3) 0 1,I.ld 8 (.t 7) 1 false,I.bin 9 .neq (.t 6) (.t 8),I.mv 10 (.t 9),.sc true 16 10 [I.fa 11 (.t 2) 1 1,I.ld 12 (.t 11) 1 false,I.fa 13 (.t 3) 1 1,I.ld 14 (.t 13) 1 false,I.bin 15 .neq (.t 12) (.t 14)] (.t 15),I.mv 17 (.t 16),.sc true 23 17 [I.fa 18 (.t 2) 2 1,I.ld 19 (.t 18) 1 false,I.fa 20 (.t 3) 2 1,I.ld 21 (.t 20) 1 false,I.bin 22 .neq (.t 19) (.t 21)] (.t 22),I.mv 24 (.t 23),.sc true 30 24 [I.fa 25 (.t 2) 7 1,I.ld 26 (.t 25) 1 false,I.fa 27 (.t 3) 7 1,I.ld 28 (.t 27) 1 false,I.eqb 29 true (.t 26) (.t 28)] (.t 29),I.mv 31 (.t 30),.sc true 37 31 [I.fa 32 (.t 2) 8 1,I.ld 33 (.t 32) 1 false,I.fa 34 (.t 3) 8 1,I.ld 35 (.t 34) 1 false,I.bin 36 .neq (.t 33) (.t 35)] (.t 36)])
 (.ite (.t 37)
 ((.seq (.reg [I.mv 4 kFF])
 (.ret)))
 (.skip))))
 ((.seq (.reg [I.fa 38 (.t 2) 3 1,I.ld 39 (.t 38) 1 false,I.fa 40 (.t 3) 3 1,I.ld 41 (.t 40) 1 false,I.call (some 42) z_42 [(.t 39),(.t 41)],I.mv 43 (.t 42),.sc false 49 43 [I.fa 44 (.t 2) 5 1,I.ld 45 (.t 44) 1 false,I.fa 46 (.t 3) 5 1,I.ld 47 (.t 46) 1 false,I.call (some 48) z_42 [(.t 45),(.t 47)]] (.t 48),I.mv 50 (.t 49),.sc false 56 50 [I.fa 51 (.t 2) 4 1,I.ld 52 (.t 51) 1 false,I.fa 53 (.t 3) 4 1,I.ld 54 (.t 53) 1 false,I.call (some 55) z_43 [(.t 52),(.t 54)]] (.t 55),I.mv 57 (.t 56),.sc false 63 57 [I.fa 58 (.t 2) 6 1,I.ld 59 (.t 58) 1 false,I.fa 60 (.t 3) 6 1,I.ld 61 (.t 60) 1 false,I.call (some 62) z_44 [(.t 59),(.t 61)]] (.t 62),I.mv 4 (.t 63)])
 (.ret)))))))
 [.t 4] false none
def F_z_18:F:=.mk
 ((.seq (.reg [I.box 3 (.t 0) 4 true,I.box 4 (.t 1) 9 true,I.box 5 (.t 2) 5 true,I.mv 6 kFF])
 ((.seq (.reg [I.ld 12 (.t 3) 4 true,I.ld 13 (.t 4) 9 true,I.ld 14 (.t 5) 5 true,I.call (some 15) z_15 [(.t 12),(.t 13),(.t 14)],I.mv 11 (.t 15),I.ext 16 (.t 11) 0,I.ext 17 (.t 11) 1,I.ext 18 (.t 11) 2,I.ext 19 (.t 11) 3,I.new 7 zR,I.st (.t 7) (.t 16) 9 true,I.mv 8 (.t 17),I.mv 9 (.t 18),I.mv 10 (.t 19)])
 ((.seq (.reg [I.mv 20 (.t 10),I.bin 21 .eql (.t 20) k0,I.mv 6 (.t 21)])
 (.ret)))))))
 [.t 6] false none
def F_z_20_L0:C :=
 (.seq (.reg [I.bin 41 .lss (.t 40) (.t 39)])
 ((.seq (.ite (.t 41)
 (.skip)
 (.seq (.keep [3,7]) (.exit 0)))
 ((.seq (.blk 1 ((.seq (.reg [I.mv 42 (.t 40),I.ixs 43 (.t 38) (.t 40) 5,I.ld 44 (.t 43) 5 true,I.new 10 zQ,I.mv 9 (.t 42),I.st (.t 10) (.t 44) 5 true])
 ((.seq (.reg [I.ld 46 (.t 3) 4 true,I.ld 47 (.t 7) 9 true,I.ld 48 (.t 10) 5 true,I.call (some 49) z_15 [(.t 46),(.t 47),(.t 48)],I.mv 45 (.t 49),I.ext 50 (.t 45) 0,I.ext 51 (.t 45) 1,I.ext 52 (.t 45) 2,I.ext 53 (.t 45) 3,I.new 11 zR,I.st (.t 11) (.t 50) 9 true,I.mv 12 (.t 51),I.mv 13 (.t 52),I.mv 14 (.t 53)])
 ((.seq ((.seq (.drw [] [0,1,2,3,4,5,6,7,8,9,10,11,12,13,14,15,16,17,18,19,20,21] [I.mv 54 (.t 14),I.bin 55 .neq (.t 54) k0,I.mv 56 (.t 55),.sc true 65 56 [I.fad 57 (.t 10) 0 1,I.ldd 58 (.t 57) 1 false,I.mv 59 (.t 2),I.mv 60 (.t 9),I.ixs 61 (.t 59) (.t 60) 5,I.fa 62 (.t 61) 0 1,I.ld 63 (.t 62) 1 false,I.bin 64 .neq (.t 58) (.t 63)] (.t 64),I.mv 66 (.t 65),.sc true 75 66 [I.fad 67 (.t 10) 1 1,I.ldd 68 (.t 67) 1 false,I.mv 69 (.t 2),I.mv 70 (.t 9),I.ixs 71 (.t 69) (.t 70) 5,I.fa 72 (.t 71) 1 1,I.ld 73 (.t 72) 1 false,I.bin 74 .neq (.t 68) (.t 73)] (.t 74)])
 (.ite (.t 75)
 ((.seq (.reg [I.mv 6 kFF])
 (.seq (.keep [6]) .ret)))
 (.skip))))
 ((.seq (.seq (.drw [] [0,1,2,3,4,5,6,7,8,9,10,11,12] [I.mv 76 (.t 2),I.mv 77 (.t 9),I.ixs 78 (.t 76) (.t 77) 5,I.fa 79 (.t 78) 2 1,I.ld 80 (.t 79) 1 false,I.mv 81 (.t 2),I.mv 82 (.t 9),I.ixs 83 (.t 81) (.t 82) 5,I.fa 84 (.t 83) 3 1,I.ld 85 (.t 84) 1 false,I.call (some 86) z_45 [(.t 80),(.t 85)],I.new 15 [(.i .i64 0),(.i .i64 0)],.re (.ixs 78 (.t 76) (.t 77) 5),.re (.fa 79 (.t 78) 2 1),.re (.ld 80 (.t 79) 1 false),.re (.ixs 83 (.t 81) (.t 82) 5),.re (.fa 84 (.t 83) 3 1),.re (.ld 85 (.t 84) 1 false),I.st (.t 15) (.t 86) 2 false])
 (.frz [15]))
 ((.seq (.drw [] [0,1,2,3,4,5,6,7,8,9,10,11,12,13] [I.fad 87 (.t 10) 1 1,I.ldd 88 (.t 87) 1 false,I.bin 89 .eql (.t 88) (kII 61),I.mv 90 (.t 89),.sc false 94 90 [I.fad 91 (.t 3) 3 1,I.ldd 92 (.t 91) 1 false,I.bin 93 .eql (.t 92) k0] (.t 93),I.mv 95 (.t 94),.sc false 99 95 [I.ldd 96 (.t 15) 2 true,I.call (some 97) z_45 [k0,kFF],I.eqv 98 false (.t 96) (.t 97) [.i,.i]] (.t 98),I.mv 16 (.t 99)])
 (.blk 2 ((.seq (.drw [] [0,1,2,3,4,5] [I.ldd 101 (.t 15) 2 true,I.mv 102 (.t 12),I.mv 103 (.t 13),I.call (some 104) z_45 [(.t 102),(.t 103)],I.eqv 105 false (.t 101) (.t 104) [.i,.i],I.mv 100 (.t 105)])
 (.ite (.t 100)
 (.reg [I.ld 106 (.t 11) 9 true,I.st (.t 7) (.t 106) 9 false])
 ((.seq (.reg [I.mv 108 (.t 16),I.un 109 .not (.t 108),I.mv 107 (.t 109)])
 (.ite (.t 107)
 ((.seq (.reg [I.mv 6 kFF])
 (.seq (.keep [6]) .ret)))
 (.skip)))))))))))))))))))
 (.reg [I.bin 110 .add (.t 40) (kII 1),I.mv 40 (.t 110)]))))))
def F_z_20:F:=.mk
 ((.seq (.reg [I.box 3 (.t 0) 4 true,I.mv 6 kFF])
 ((.seq (.reg [I.ld 20 (.t 3) 4 true,I.call (some 21) z_23 [(.t 20)],I.mv 19 (.t 21),I.ext 22 (.t 19) 0,I.ext 23 (.t 19) 1,I.new 7 zR,I.st (.t 7) (.t 22) 9 false,I.mv 8 (.t 23)])
 ((.seq ((.seq (.reg [I.mv 24 (.t 8),I.bin 25 .neq (.t 24) k0,I.mv 26 (.t 25),.sc true 32 26 [I.mv 27 (.t 1),I.len 28 (.t 27) .sl,I.mv 29 (.t 2),I.len 30 (.t 29) .sl,I.bin 31 .neq (.t 28) (.t 30)] (.t 31),I.mv 33 (.t 32),.sc true 37 33 [I.mv 34 (.t 1),I.len 35 (.t 34) .sl,I.bin 36 .gtr (.t 35) (kII 1000)] (.t 36)])
 (.ite (.t 37)
 ((.seq (.reg [I.mv 6 kFF])
 (.ret)))
 (.skip))))
 ((.seq ((.seq (.reg [I.mv 38 (.t 1),I.len 39 (.t 38) .sl,I.mv 40 k0])
 (.blk 0 (.loop [2,3,7,38,39,40] F_z_20_L0))))
 ((.seq (.reg [I.fa 112 (.t 3) 1 1,I.ld 113 (.t 112) 1 false,I.call (some 114) z_37 [(.t 113)],I.mv 111 (.t 114),I.ext 115 (.t 111) 0,I.ext 116 (.t 111) 1,I.mv 17 (.t 115),I.mv 18 (.t 116)])
 ((.seq (.reg [I.mv 117 (.t 17),I.ld 118 (.t 3) 4 true,I.ld 119 (.t 7) 9 true,I.inv (some 120) "nursery/spec.check" [(101,2,z_313),(102,2,z_313),(103,2,z_313),(104,2,z_313),(105,2,z_313),(106,2,z_313),(107,2,z_313),(108,2,z_313)] (.t 117) [(.t 118),(.t 119)],I.bin 121 .eql (.t 120) k0,I.mv 6 (.t 121)])
 (.ret)))))))))))))
 [.t 6] false none
def F_z_23:F:=.mk
 ((.seq (.reg [I.box 1 (.t 0) 4 true,I.new 2 zR,I.mv 3 k0])
 ((.seq (.reg [I.fa 7 (.t 1) 1 1,I.ld 8 (.t 7) 1 false,I.call (some 9) z_37 [(.t 8)],I.mv 6 (.t 9),I.ext 10 (.t 6) 0,I.ext 11 (.t 6) 1,I.mv 4 (.t 10),I.mv 5 (.t 11)])
 ((.seq ((.seq (.reg [I.mv 12 (.t 5),I.un 13 .not (.t 12)])
 (.ite (.t 13)
 ((.seq (.reg [I.build 14 zR [],I.st (.t 2) (.t 14) 9 false,I.mv 3 (kII 8)])
 (.ret)))
 (.skip))))
 ((.seq (.reg [I.mv 15 (.t 4),I.ld 16 (.t 1) 4 true,I.inv (some 17) "nursery/spec.start" [(101,2,z_314),(102,2,z_314),(103,2,z_314),(104,2,z_314),(105,2,z_314),(106,2,z_314),(107,2,z_314),(108,2,z_314)] (.t 15) [(.t 16)],I.ext 18 (.t 17) 0,I.ext 19 (.t 17) 1,I.st (.t 2) (.t 18) 9 false,I.mv 3 (.t 19)])
 (.ret)))))))))
 [.c 2 9 true,.t 3] false none
def F_z_25:F:=.mk
 ((.seq (.reg [I.box 2 (.t 0) 4 true,I.box 3 (.t 1) 9 false,I.new 4 zR,I.mv 5 k0])
 ((.seq (.reg [I.fa 10 (.t 2) 1 1,I.ld 11 (.t 10) 1 false,I.call (some 12) z_37 [(.t 11)],I.mv 9 (.t 12),I.ext 13 (.t 9) 0,I.ext 14 (.t 9) 1,I.mv 6 (.t 13),I.mv 7 (.t 14)])
 ((.seq ((.seq (.reg [I.mv 15 (.t 7),I.un 16 .not (.t 15)])
 (.ite (.t 16)
 ((.seq (.reg [I.build 17 zR [],I.st (.t 4) (.t 17) 9 false,I.mv 5 (kII 8)])
 (.ret)))
 (.skip))))
 ((.seq ((.seq (.reg [I.mv 18 (.t 6),I.ld 19 (.t 2) 4 true,I.ld 20 (.t 3) 9 true,I.inv (some 21) "nursery/spec.check" [(101,2,z_313),(102,2,z_313),(103,2,z_313),(104,2,z_313),(105,2,z_313),(106,2,z_313),(107,2,z_313),(108,2,z_313)] (.t 18) [(.t 19),(.t 20)],I.mv 8 (.t 21)])
 ((.seq (.reg [I.mv 22 (.t 8),I.bin 23 .neq (.t 22) k0])
 (.ite (.t 23)
 ((.seq (.reg [I.build 24 zR [],I.mv 25 (.t 8),I.st (.t 4) (.t 24) 9 false,I.mv 5 (.t 25)])
 (.ret)))
 (.skip))))))
 ((.seq (.reg [I.fa 26 (.t 3) 4 1,I.st (.t 26) (.k (.sl 5 true [])) 1 false])
 ((.seq (.reg [I.ld 27 (.t 3) 9 true,I.st (.t 4) (.t 27) 9 false,I.mv 5 k0])
 (.ret)))))))))))))
 [.c 4 9 true,.t 5] false none
def F_z_29:F:=.mk
 ((.seq (.reg [I.new 2 [.nilfn,.nilfn,.nilfn,.nilfn,.nilfn],I.mv 3 kFF])
 ((.seq ((.seq (.reg [I.mv 4 (.t 0)])
 (.blk 0 ((.seq (.reg [I.bin 6 .eql (.t 4) (kII 1),I.mv 5 (.t 6)])
 (.ite (.t 5)
 ((.seq (.reg [I.build 7 [.nilfn,.nilfn,.nilfn,.nilfn,.nilfn] [(0,1,(.k (.fn z_62 [] []))),(1,1,(.k (.fn z_63 [] []))),(2,1,(.k (.fn z_64 [] []))),(3,1,(.k (.fn z_65 [] []))),(4,1,(.k (.fn z_66 [] [])))],I.st (.t 2) (.t 7) 5 false,I.mv 3 kTT])
 (.ret)))
 ((.seq (.reg [I.bin 9 .eql (.t 4) (kII 2),I.mv 8 (.t 9)])
 (.ite (.t 8)
 ((.seq (.reg [I.build 10 [.nilfn,.nilfn,.nilfn,.nilfn,.nilfn] [(0,1,(.k (.fn z_67 [] []))),(1,1,(.k (.fn z_68 [] []))),(2,1,(.k (.fn z_69 [] []))),(3,1,(.k (.fn z_70 [] []))),(4,1,(.k (.fn z_71 [] [])))],I.st (.t 2) (.t 10) 5 false,I.mv 3 kTT])
 (.ret)))
 ((.seq (.reg [I.bin 12 .eql (.t 4) (kII 4),I.mv 11 (.t 12)])
 (.ite (.t 11)
 ((.seq (.reg [I.build 13 [.nilfn,.nilfn,.nilfn,.nilfn,.nilfn] [(0,1,(.k (.fn z_72 [] []))),(1,1,(.k (.fn z_73 [] []))),(2,1,(.k (.fn z_74 [] []))),(3,1,(.k (.fn z_75 [] []))),(4,1,(.k (.fn z_76 [] [])))],I.st (.t 2) (.t 13) 5 false,I.mv 3 kTT])
 (.ret)))
 ((.seq (.reg [I.bin 15 .eql (.t 4) (kII 5),I.mv 14 (.t 15)])
 (.ite (.t 14)
 ((.seq (.reg [I.build 16 [.nilfn,.nilfn,.nilfn,.nilfn,.nilfn] [(0,1,(.k (.fn z_77 [] []))),(1,1,(.k (.fn z_78 [] []))),(2,1,(.k (.fn z_79 [] []))),(3,1,(.k (.fn z_80 [] []))),(4,1,(.k (.fn z_81 [] [])))],I.st (.t 2) (.t 16) 5 false,I.mv 3 kTT])
 (.ret)))
 ((.seq (.reg [I.bin 18 .eql (.t 4) (kII 6),I.mv 17 (.t 18)])
 (.ite (.t 17)
 ((.seq (.reg [I.build 19 [.nilfn,.nilfn,.nilfn,.nilfn,.nilfn] [(0,1,(.k (.fn z_82 [] []))),(1,1,(.k (.fn z_83 [] []))),(2,1,(.k (.fn z_84 [] []))),(3,1,(.k (.fn z_85 [] []))),(4,1,(.k (.fn z_86 [] [])))],I.st (.t 2) (.t 19) 5 false,I.mv 3 kTT])
 (.ret)))
 ((.seq (.reg [I.bin 21 .eql (.t 4) (kII 7),I.mv 20 (.t 21)])
 (.ite (.t 20)
 ((.seq (.reg [I.build 22 [.nilfn,.nilfn,.nilfn,.nilfn,.nilfn] [(0,1,(.k (.fn z_87 [] []))),(1,1,(.k (.fn z_88 [] []))),(2,1,(.k (.fn z_89 [] []))),(3,1,(.k (.fn z_90 [] []))),(4,1,(.k (.fn z_91 [] [])))],I.st (.t 2) (.t 22) 5 false,I.mv 3 kTT])
 (.ret)))
 ((.seq (.reg [I.bin 24 .eql (.t 4) (kII 8),I.mv 23 (.t 24)])
 (.ite (.t 23)
 ((.seq (.reg [I.build 25 [.nilfn,.nilfn,.nilfn,.nilfn,.nilfn] [(0,1,(.k (.fn z_92 [] []))),(1,1,(.k (.fn z_93 [] []))),(2,1,(.k (.fn z_94 [] []))),(3,1,(.k (.fn z_95 [] []))),(4,1,(.k (.fn z_96 [] [])))],I.st (.t 2) (.t 25) 5 false,I.mv 3 kTT])
 (.ret)))
 ((.seq (.reg [I.bin 27 .eql (.t 4) (kII 9),I.mv 26 (.t 27)])
 (.ite (.t 26)
 ((.seq (.reg [I.build 28 [.nilfn,.nilfn,.nilfn,.nilfn,.nilfn] [(0,1,(.k (.fn z_97 [] []))),(1,1,(.k (.fn z_98 [] []))),(2,1,(.k (.fn z_99 [] []))),(3,1,(.k (.fn z_100 [] []))),(4,1,(.k (.fn z_101 [] [])))],I.st (.t 2) (.t 28) 5 false,I.mv 3 kTT])
 (.ret)))
 (.skip))))))))))))))))))))))))))))
 ((.seq (.reg [I.build 29 [.nilfn,.nilfn,.nilfn,.nilfn,.nilfn] [],I.st (.t 2) (.t 29) 5 false,I.mv 3 kFF])
 (.ret)))))))
 [.c 2 5 true,.t 3] false none
def F_z_30_L0:C :=
 (.seq (.reg [I.bin 17 .lss (.t 16) (.t 15)])
 ((.seq (.ite (.t 17)
 (.skip)
 (.seq (.keep [4,6]) (.exit 0)))
 ((.seq (.blk 1 ((.seq (.reg [I.ixs 18 (.t 14) (.t 16) 10,I.ld 19 (.t 18) 10 true,I.new 9 [(.i .i64 0),(.i .i64 0),(.i .i64 0),(.i .i64 0),(.i .i64 0),(.i .i64 0),(.i .i64 0),(.i .i64 0),(.b false),(.i .i64 0)],I.st (.t 9) (.t 19) 10 true])
 ((.seq (.reg [I.ld 21 (.t 3) 4 true,I.ld 22 (.t 4) 9 true,I.fa 23 (.t 9) 0 5,I.ld 24 (.t 23) 5 true,I.call (some 25) z_15 [(.t 21),(.t 22),(.t 24)],I.mv 20 (.t 25),I.ext 26 (.t 20) 0,I.ext 27 (.t 20) 1,I.ext 28 (.t 20) 2,I.ext 29 (.t 20) 3,I.new 10 zR,I.st (.t 10) (.t 26) 9 true,I.mv 11 (.t 27),I.mv 12 (.t 28),I.mv 13 (.t 29)])
 ((.seq ((.seq (.reg [I.mv 30 (.t 13),I.bin 31 .neq (.t 30) k0])
 (.ite (.t 31)
 ((.seq (.reg [I.ld 32 (.t 4) 9 true,I.st (.t 6) (.t 32) 9 false,I.mv 7 kFF])
 (.seq (.keep [6,7]) .ret)))
 (.skip))))
 ((.seq ((.seq (.reg [I.fa 33 (.t 9) 0 5,I.fa 34 (.t 33) 1 1,I.ld 35 (.t 34) 1 false,I.bin 36 .eql (.t 35) (kII 61),I.mv 37 (.t 36),.sc false 41 37 [I.fa 38 (.t 3) 3 1,I.ld 39 (.t 38) 1 false,I.bin 40 .eql (.t 39) k0] (.t 40),I.mv 42 (.t 41),.sc false 47 42 [I.fa 43 (.t 9) 5 5,I.fa 44 (.t 43) 3 1,I.ld 45 (.t 44) 1 false,I.un 46 .not (.t 45)] (.t 46),I.mv 48 (.t 47),.sc false 53 48 [I.fa 49 (.t 9) 5 5,I.fa 50 (.t 49) 2 1,I.ld 51 (.t 50) 1 false,I.bin 52 .eql (.t 51) k0] (.t 52)])
 (.ite (.t 53)
 (.seq (.keep [3,4,6,14,15,16]) (.exit 1))
 (.skip))))
 ((.seq ((.seq (.reg [I.mv 54 (.t 11),I.fa 55 (.t 9) 5 5,I.fa 56 (.t 55) 2 1,I.ld 57 (.t 56) 1 false,I.bin 58 .neq (.t 54) (.t 57),I.mv 59 (.t 58),.sc true 65 59 [I.mv 60 (.t 12),I.fa 61 (.t 9) 5 5,I.fa 62 (.t 61) 3 1,I.ld 63 (.t 62) 1 false,I.eqb 64 true (.t 60) (.t 63)] (.t 64)])
 (.ite (.t 65)
 ((.seq (.reg [I.ld 66 (.t 4) 9 true,I.st (.t 6) (.t 66) 9 false,I.mv 7 kFF])
 (.seq (.keep [6,7]) .ret)))
 (.skip))))
 (.reg [I.ld 67 (.t 10) 9 true,I.st (.t 4) (.t 67) 9 false]))))))))))))
 (.reg [I.bin 68 .add (.t 16) (kII 1),I.mv 16 (.t 68)]))))))
def F_z_30:F:=.mk
 ((.seq (.reg [I.box 3 (.t 0) 4 true,I.box 4 (.t 1) 9 false,I.new 6 zR,I.mv 7 kFF])
 ((.seq ((.seq (.reg [I.mv 14 (.t 2),I.len 15 (.t 14) .sl,I.mv 16 k0])
 (.blk 0 (.loop [3,4,6,14,15,16] F_z_30_L0))))
 ((.seq (.reg [I.ld 69 (.t 4) 9 true,I.st (.t 6) (.t 69) 9 false,I.mv 7 kTT])
 (.ret)))))))
 [.c 6 9 true,.t 7] false none
def F_z_31_L0:C :=
 (.seq (.reg [I.bin 29 .lss (.t 28) (.t 27)])
 ((.seq (.ite (.t 29)
 (.skip)
 (.seq (.keep [2,3,7,9,10,13,14,15]) (.exit 2)))
 ((.seq (.blk 3 ((.seq (.reg [I.ixs 30 (.t 26) (.t 28) 5,I.ld 31 (.t 30) 5 true,I.new 12 zQ,I.st (.t 12) (.t 31) 5 true])
 ((.seq (.reg [I.fa 32 (.t 12) 0 1,I.ld 33 (.t 32) 1 false,I.fa 34 (.t 9) 0 1,I.ld 35 (.t 34) 1 false,I.bin 36 .eql (.t 33) (.t 35),I.mv 37 (.t 36),.sc false 43 37 [I.fa 38 (.t 12) 1 1,I.ld 39 (.t 38) 1 false,I.fa 40 (.t 9) 1 1,I.ld 41 (.t 40) 1 false,I.bin 42 .eql (.t 39) (.t 41)] (.t 42),I.mv 44 (.t 43),.sc false 50 44 [I.fa 45 (.t 12) 4 1,I.ld 46 (.t 45) 1 false,I.fa 47 (.t 9) 4 1,I.ld 48 (.t 47) 1 false,I.bin 49 .eql (.t 46) (.t 48)] (.t 49)])
 (.ite (.t 50)
 (.drw [] [0,1,2,3,4,5,6,7] [I.fad 51 (.t 12) 2 1,I.ldd 52 (.t 51) 1 false,I.fad 53 (.t 12) 3 1,I.ldd 54 (.t 53) 1 false,I.fa 55 (.t 10) 2 1,I.st (.t 55) (.t 52) 1 false,I.fa 56 (.t 10) 3 1,I.st (.t 56) (.t 54) 1 false])
 (.skip)))))))
 (.reg [I.bin 57 .add (.t 28) (kII 1),I.mv 28 (.t 57)]))))))
def F_z_31_L1:C :=
 (.seq (.reg [I.bin 16 .lss (.t 15) (.t 14)])
 ((.seq (.ite (.t 16)
 (.skip)
 (.seq (.keep [7]) (.exit 0)))
 ((.seq (.blk 1 ((.seq (.reg [I.ixs 17 (.t 13) (.t 15) 5,I.ld 18 (.t 17) 5 true,I.new 9 zWW,I.st (.t 9) (.t 18) 5 true])
 ((.seq (.reg [I.fa 19 (.t 9) 0 1,I.ld 20 (.t 19) 1 false,I.fa 21 (.t 9) 1 1,I.ld 22 (.t 21) 1 false,I.mv 23 (.t 2),I.build 24 zQ [(0,1,(.t 20)),(1,1,(.t 22)),(4,1,(.t 23))],I.new 10 zQ,I.st (.t 10) (.t 24) 5 false])
 ((.seq ((.seq (.reg [I.fa 25 (.t 3) 4 1,I.ld 26 (.t 25) 1 false,I.len 27 (.t 26) .sl,I.mv 28 k0])
 (.blk 2 (.loop [2,3,7,9,10,13,14,15,26,27,28] F_z_31_L0))))
 (.reg [I.mv 58 (.t 7),I.ld 59 (.t 10) 5 true,I.ld 60 (.t 9) 5 true,I.build 61 [(.i .i64 0),(.i .i64 0),(.i .i64 0),(.i .i64 0),(.i .i64 0),(.i .i64 0),(.i .i64 0),(.i .i64 0),(.b false),(.i .i64 0)] [(0,5,(.t 59)),(5,5,(.t 60))],I.buildSl 62 10 1 [(.i .i64 0),(.i .i64 0),(.i .i64 0),(.i .i64 0),(.i .i64 0),(.i .i64 0),(.i .i64 0),(.i .i64 0),(.b false),(.i .i64 0)] [(0,(.t 61))] true,I.app 63 (.t 58) (.t 62) 10,I.mv 7 (.t 63)]))))))))
 (.reg [I.bin 64 .add (.t 15) (kII 1),I.mv 15 (.t 64)]))))))
def F_z_31:F:=.mk
 ((.seq (.reg [I.box 3 (.t 0) 9 true,I.mv 6 (.k (.sl 10 true []))])
 ((.seq (.reg [I.mv 7 (.k (.sl 10 true []))])
 ((.seq ((.seq (.reg [I.mv 13 (.t 1),I.len 14 (.t 13) .sl,I.mv 15 k0])
 (.blk 0 (.loop [2,3,7,13,14,15] F_z_31_L1))))
 ((.seq (.reg [I.mv 65 (.t 7),I.mv 6 (.t 65)])
 (.ret)))))))))
 [.t 6] false none
def F_z_35:F:=.mk
 ((.seq (.reg [I.new 0 [(.s []),(.i .i64 0),(.i .i64 0),(.i .i64 0)]])
 ((.seq (.reg [I.build 1 [(.s []),(.i .i64 0),(.i .i64 0),(.i .i64 0)] [(1,1,(kII 6))],I.st (.t 0) (.t 1) 4 false])
 (.ret)))))
 [.c 0 4 true] false none
def F_z_36:F:=.mk
 ((.seq (.reg [I.new 2 zR,I.mv 3 k0,I.mv 4 kFF,I.mv 5 k0])
 ((.seq (.reg [I.build 6 zR [],I.mv 7 (.t 0),I.st (.t 2) (.t 6) 9 false,I.mv 3 k0,I.mv 4 kFF,I.mv 5 (.t 7)])
 (.ret)))))
 [.c 2 9 true,.t 3,.t 4,.t 5] false none
def F_z_37:F:=.mk
 ((.seq (.reg [I.mv 2 (.k .nilifc),I.mv 3 kFF])
 ((.seq ((.seq (.reg [I.mv 4 (.t 0)])
 (.blk 0 ((.seq (.reg [I.bin 6 .eql (.t 4) (kII 1),I.mv 5 (.t 6)])
 (.ite (.t 5)
 ((.seq (.reg [I.build 7 [.nilfn,.nilfn] [(0,1,(.k (.fn z_62 [] []))),(1,1,(.k (.fn z_63 [] [])))],I.build 8 [.nilfn,.nilfn] [(0,2,(.t 7))],I.mki 9 101 (.t 8),I.mv 2 (.t 9),I.mv 3 kTT])
 (.ret)))
 ((.seq (.reg [I.bin 11 .eql (.t 4) (kII 2),I.mv 10 (.t 11)])
 (.ite (.t 10)
 ((.seq (.reg [I.build 12 [.nilfn,.nilfn] [(0,1,(.k (.fn z_67 [] []))),(1,1,(.k (.fn z_68 [] [])))],I.build 13 [.nilfn,.nilfn] [(0,2,(.t 12))],I.mki 14 102 (.t 13),I.mv 2 (.t 14),I.mv 3 kTT])
 (.ret)))
 ((.seq (.reg [I.bin 16 .eql (.t 4) (kII 4),I.mv 15 (.t 16)])
 (.ite (.t 15)
 ((.seq (.reg [I.build 17 [.nilfn,.nilfn] [(0,1,(.k (.fn z_72 [] []))),(1,1,(.k (.fn z_73 [] [])))],I.build 18 [.nilfn,.nilfn] [(0,2,(.t 17))],I.mki 19 103 (.t 18),I.mv 2 (.t 19),I.mv 3 kTT])
 (.ret)))
 ((.seq (.reg [I.bin 21 .eql (.t 4) (kII 5),I.mv 20 (.t 21)])
 (.ite (.t 20)
 ((.seq (.reg [I.build 22 [.nilfn,.nilfn] [(0,1,(.k (.fn z_77 [] []))),(1,1,(.k (.fn z_78 [] [])))],I.build 23 [.nilfn,.nilfn] [(0,2,(.t 22))],I.mki 24 104 (.t 23),I.mv 2 (.t 24),I.mv 3 kTT])
 (.ret)))
 ((.seq (.reg [I.bin 26 .eql (.t 4) (kII 6),I.mv 25 (.t 26)])
 (.ite (.t 25)
 ((.seq (.reg [I.build 27 [.nilfn,.nilfn] [(0,1,(.k (.fn z_82 [] []))),(1,1,(.k (.fn z_83 [] [])))],I.build 28 [.nilfn,.nilfn] [(0,2,(.t 27))],I.mki 29 105 (.t 28),I.mv 2 (.t 29),I.mv 3 kTT])
 (.ret)))
 ((.seq (.reg [I.bin 31 .eql (.t 4) (kII 7),I.mv 30 (.t 31)])
 (.ite (.t 30)
 ((.seq (.reg [I.build 32 [.nilfn,.nilfn] [(0,1,(.k (.fn z_87 [] []))),(1,1,(.k (.fn z_88 [] [])))],I.build 33 [.nilfn,.nilfn] [(0,2,(.t 32))],I.mki 34 106 (.t 33),I.mv 2 (.t 34),I.mv 3 kTT])
 (.ret)))
 ((.seq (.reg [I.bin 36 .eql (.t 4) (kII 8),I.mv 35 (.t 36)])
 (.ite (.t 35)
 ((.seq (.reg [I.build 37 [.nilfn,.nilfn] [(0,1,(.k (.fn z_92 [] []))),(1,1,(.k (.fn z_93 [] [])))],I.build 38 [.nilfn,.nilfn] [(0,2,(.t 37))],I.mki 39 107 (.t 38),I.mv 2 (.t 39),I.mv 3 kTT])
 (.ret)))
 ((.seq (.reg [I.bin 41 .eql (.t 4) (kII 9),I.mv 40 (.t 41)])
 (.ite (.t 40)
 ((.seq (.reg [I.build 42 [.nilfn,.nilfn] [(0,1,(.k (.fn z_97 [] []))),(1,1,(.k (.fn z_98 [] [])))],I.build 43 [.nilfn,.nilfn] [(0,2,(.t 42))],I.mki 44 108 (.t 43),I.mv 2 (.t 44),I.mv 3 kTT])
 (.ret)))
 (.skip))))))))))))))))))))))))))))
 ((.seq (.reg [I.mv 2 (.k .nilifc),I.mv 3 kFF])
 (.ret)))))))
 [.t 2,.t 3] false none
def F_z_38:F:=.mk
 ((.seq (.reg [I.mv 2 (.k .nilmap)])
 ((.seq (.reg [.op (.mkm 3),.op (.mkm 4),.op (.mput (.t 4) (kII 50) k0 [.i]),.op (.mput (.t 4) (kII 51) k0 [.i]),.op (.mput (.t 4) (kII 52) k0 [.i]),.op (.mv 5 (.t 4)),.op (.mput (.t 3) (kII 1) (.t 5) [.i]),.op (.mkm 6),.op (.mput (.t 6) (kII 53) k0 [.i]),.op (.mput (.t 6) (kII 54) k0 [.i]),.op (.mput (.t 6) (kII 55) k0 [.i]),.op (.mput (.t 6) (kII 56) k0 [.i]),.op (.mv 7 (.t 6)),.op (.mput (.t 3) (kII 2) (.t 7) [.i]),.op (.mkm 8),.op (.mput (.t 8) (kII 60) (kII 1) [.i]),.op (.mput (.t 8) (kII 61) (kII 1) [.i]),.op (.mput (.t 8) (kII 62) (kII 1) [.i]),.op (.mv 9 (.t 8)),.op (.mput (.t 3) (kII 4) (.t 9) [.i]),.op (.mkm 10),.op (.mput (.t 10) (kII 63) k0 [.i]),.op (.mv 11 (.t 10)),.op (.mput (.t 3) (kII 5) (.t 11) [.i]),.op (.mkm 12),.op (.mput (.t 12) (kII 64) (kII 2) [.i]),.op (.mput (.t 12) (kII 65) k0 [.i]),.op (.mput (.t 12) (kII 66) k0 [.i]),.op (.mv 13 (.t 12)),.op (.mput (.t 3) (kII 6) (.t 13) [.i]),.op (.mkm 14),.op (.mput (.t 14) (kII 68) (kII 2) [.i]),.op (.mput (.t 14) (kII 69) k0 [.i]),.op (.mput (.t 14) (kII 70) k0 [.i]),.op (.mput (.t 14) (kII 71) k0 [.i]),.op (.mv 15 (.t 14)),.op (.mput (.t 3) (kII 7) (.t 15) [.i]),.op (.mkm 16),.op (.mput (.t 16) (kII 72) (kII 1) [.i]),.op (.mput (.t 16) (kII 75) k0 [.i]),.op (.mv 17 (.t 16)),.op (.mput (.t 3) (kII 8) (.t 17) [.i]),.op (.mkm 18),.op (.mput (.t 18) (kII 73) (kII 2) [.i]),.op (.mput (.t 18) (kII 74) k0 [.i]),.op (.mv 19 (.t 18)),.op (.mput (.t 3) (kII 9) (.t 19) [.i]),.op (.mv 20 (.t 3)),.op (.mv 21 (.t 0)),.op (.mget 22 (.t 20) (.t 21) .nilmap false [.i]),.op (.mv 2 (.t 22))])
 (.ret)))))
 [.t 2] true none
def F_z_42_L0:C :=
 (.seq ((.seq (.reg [I.mv 11 (.t 5),I.mv 12 (.t 0),I.len 13 (.t 12) .sl,I.bin 14 .lss (.t 11) (.t 13)])
 (.ite (.t 14)
 (.skip)
 (.seq (.keep []) (.exit 0)))))
 ((.seq (.blk 1 ((.seq (.drw [] [0,1,2,3,4,5,6,7,8] [I.mv 17 (.t 0),I.mv 18 (.t 5),I.ixs 19 (.t 17) (.t 18) 1,I.ld 20 (.t 19) 1 false,I.mv 21 (.t 1),I.mv 22 (.t 5),I.ixs 23 (.t 21) (.t 22) 1,I.ld 24 (.t 23) 1 false,I.bin 25 .neq (.t 20) (.t 24)])
 (.ite (.t 25)
 ((.seq (.reg [I.mv 4 kFF])
 (.seq (.keep [4]) .ret)))
 (.skip)))))
 (.reg [I.mv 15 (.t 5),I.bin 16 .add (.t 15) (kII 1),I.mv 5 (.t 16)]))))
def F_z_42:F:=.mk
 ((.seq (.reg [I.mv 4 kFF])
 ((.seq ((.seq (.reg [I.mv 6 (.t 0),I.len 7 (.t 6) .sl,I.mv 8 (.t 1),I.len 9 (.t 8) .sl,I.bin 10 .neq (.t 7) (.t 9)])
 (.ite (.t 10)
 ((.seq (.reg [I.mv 4 kFF])
 (.ret)))
 (.skip))))
 ((.seq ((.seq (.reg [I.mv 5 k0])
 (.blk 0 (.loop [0,1,5] F_z_42_L0))))
 ((.seq (.reg [I.mv 4 kTT])
 (.ret)))))))))
 [.t 4] false none
def F_z_43_L0:C :=
 (.seq ((.seq (.reg [I.mv 11 (.t 5),I.mv 12 (.t 0),I.len 13 (.t 12) .sl,I.bin 14 .lss (.t 11) (.t 13)])
 (.ite (.t 14)
 (.skip)
 (.seq (.keep []) (.exit 0)))))
 ((.seq (.blk 1 ((.seq (.drw [] [0,1,2,3,4,5,6,7,8] [I.mv 17 (.t 0),I.mv 18 (.t 5),I.ixs 19 (.t 17) (.t 18) 5,I.ld 20 (.t 19) 5 true,I.mv 21 (.t 1),I.mv 22 (.t 5),I.ixs 23 (.t 21) (.t 22) 5,I.ld 24 (.t 23) 5 true,I.eqv 25 true (.t 20) (.t 24) [.i,.i,.i,.i,.i]])
 (.ite (.t 25)
 ((.seq (.reg [I.mv 4 kFF])
 (.seq (.keep [4]) .ret)))
 (.skip)))))
 (.reg [I.mv 15 (.t 5),I.bin 16 .add (.t 15) (kII 1),I.mv 5 (.t 16)]))))
def F_z_43:F:=.mk
 ((.seq (.reg [I.mv 4 kFF])
 ((.seq ((.seq (.reg [I.mv 6 (.t 0),I.len 7 (.t 6) .sl,I.mv 8 (.t 1),I.len 9 (.t 8) .sl,I.bin 10 .neq (.t 7) (.t 9)])
 (.ite (.t 10)
 ((.seq (.reg [I.mv 4 kFF])
 (.ret)))
 (.skip))))
 ((.seq ((.seq (.reg [I.mv 5 k0])
 (.blk 0 (.loop [0,1,5] F_z_43_L0))))
 ((.seq (.reg [I.mv 4 kTT])
 (.ret)))))))))
 [.t 4] false none
def F_z_44_L0:C :=
 (.seq ((.seq (.reg [I.mv 11 (.t 5),I.mv 12 (.t 0),I.len 13 (.t 12) .sl,I.bin 14 .lss (.t 11) (.t 13)])
 (.ite (.t 14)
 (.skip)
 (.seq (.keep []) (.exit 0)))))
 ((.seq (.blk 1 ((.seq (.drw [] [0,1,2,3,4,5,6,7,8,9,10,11,12,13,14,15,16,17,18,19,20,21,22,23,24] [I.mv 17 (.t 0),I.mv 18 (.t 5),I.ixs 19 (.t 17) (.t 18) 2,I.fa 20 (.t 19) 0 1,I.ld 21 (.t 20) 1 false,I.mv 22 (.t 1),I.mv 23 (.t 5),I.ixs 24 (.t 22) (.t 23) 2,I.fa 25 (.t 24) 0 1,I.ld 26 (.t 25) 1 false,I.bin 27 .neq (.t 21) (.t 26),I.mv 28 (.t 27),.sc true 41 28 [I.mv 29 (.t 0),I.mv 30 (.t 5),I.ixs 31 (.t 29) (.t 30) 2,I.fa 32 (.t 31) 1 1,I.ld 33 (.t 32) 1 false,I.mv 34 (.t 1),I.mv 35 (.t 5),I.ixs 36 (.t 34) (.t 35) 2,I.fa 37 (.t 36) 1 1,I.ld 38 (.t 37) 1 false,I.call (some 39) z_42 [(.t 33),(.t 38)],I.un 40 .not (.t 39)] (.t 40)])
 (.ite (.t 41)
 ((.seq (.reg [I.mv 4 kFF])
 (.seq (.keep [4]) .ret)))
 (.skip)))))
 (.reg [I.mv 15 (.t 5),I.bin 16 .add (.t 15) (kII 1),I.mv 5 (.t 16)]))))
def F_z_44:F:=.mk
 ((.seq (.reg [I.mv 4 kFF])
 ((.seq ((.seq (.reg [I.mv 6 (.t 0),I.len 7 (.t 6) .sl,I.mv 8 (.t 1),I.len 9 (.t 8) .sl,I.bin 10 .neq (.t 7) (.t 9)])
 (.ite (.t 10)
 ((.seq (.reg [I.mv 4 kFF])
 (.ret)))
 (.skip))))
 ((.seq ((.seq (.reg [I.mv 5 k0])
 (.blk 0 (.loop [0,1,5] F_z_44_L0))))
 ((.seq (.reg [I.mv 4 kTT])
 (.ret)))))))))
 [.t 4] false none
def F_z_45:F:=.mk
 ((.seq (.reg [I.new 4 [(.i .i64 0),(.i .i64 0)]])
 ((.seq ((.seq (.reg [I.mv 5 (.t 1)])
 (.ite (.t 5)
 ((.seq (.reg [I.mv 6 (.t 0),I.build 7 [(.i .i64 0),(.i .i64 0)] [(0,1,(.t 6)),(1,1,(kII 1))],I.st (.t 4) (.t 7) 2 false])
 (.ret)))
 (.skip))))
 ((.seq (.reg [I.mv 8 (.t 0),I.build 9 [(.i .i64 0),(.i .i64 0)] [(0,1,(.t 8)),(1,1,k0)],I.st (.t 4) (.t 9) 2 false])
 (.ret)))))))
 [.c 4 2 true] false none
def F_z_57:F:=.mk
 ((.seq (.reg [I.mv 4 kFF])
 ((.seq (.reg [I.mv 5 (.t 0),I.mv 6 (.t 1),I.call (some 7) z_123 [(.t 5),(.t 6)],I.bin 8 .geq (.t 7) k0,I.mv 4 (.t 8)])
 (.ret)))))
 [.t 4] false none
def F_z_62:F:=.mk
 ((.seq (.reg [I.box 1 (.t 0) 4 true,I.new 2 zR,I.mv 3 k0])
 ((.seq (.blk 0 ((.seq (.reg [I.fa 5 (.t 1) 1 1,I.ld 6 (.t 5) 1 false,I.bin 7 .neq (.t 6) (kII 1),I.mv 4 (.t 7)])
 (.ite (.t 4)
 ((.seq (.reg [I.build 8 zR [],I.st (.t 2) (.t 8) 9 false,I.mv 3 (kII 8)])
 (.ret)))
 ((.seq (.reg [I.fa 10 (.t 1) 2 1,I.ld 11 (.t 10) 1 false,I.bin 12 .neq (.t 11) k0,I.mv 13 (.t 12),.sc true 17 13 [I.fa 14 (.t 1) 3 1,I.ld 15 (.t 14) 1 false,I.bin 16 .neq (.t 15) k0] (.t 16),I.mv 9 (.t 17)])
 (.ite (.t 9)
 ((.seq (.reg [I.build 18 zR [],I.st (.t 2) (.t 18) 9 false,I.mv 3 (kII 2)])
 (.ret)))
 (.skip))))))))
 ((.seq (.reg [I.build 19 zR [(0,1,(.k (.i .i64 (-1))))],I.st (.t 2) (.t 19) 9 false,I.mv 3 k0])
 (.ret)))))))
 [.c 2 9 true,.t 3] false none
def F_z_63:F:=.mk
 ((.seq (.reg [I.box 2 (.t 0) 4 true,I.box 3 (.t 1) 9 true,I.mv 4 k0])
 ((.seq ((.seq (.reg [I.ld 8 (.t 2) 4 true,I.call (some 9) z_62 [(.t 8)],I.mv 7 (.t 9),I.ext 10 (.t 7) 0,I.ext 11 (.t 7) 1,I.new 5 zR,I.st (.t 5) (.t 10) 9 true,I.mv 6 (.t 11)])
 ((.seq (.reg [I.mv 12 (.t 6),I.bin 13 .neq (.t 12) k0])
 (.ite (.t 13)
 ((.seq (.reg [I.mv 14 (.t 6),I.mv 4 (.t 14)])
 (.ret)))
 (.skip))))))
 ((.seq ((.seq (.reg [I.ld 15 (.t 3) 9 true,I.call (some 16) z_125 [(.t 15)],I.un 17 .not (.t 16)])
 (.ite (.t 17)
 ((.seq (.reg [I.mv 4 (kII 1)])
 (.ret)))
 (.skip))))
 ((.seq (.reg [I.mv 4 k0])
 (.ret)))))))))
 [.t 4] false none
def F_z_64:F:=.mk
 ((.seq (.reg [I.box 3 (.t 0) 4 true,I.box 4 (.t 1) 9 true,I.box 5 (.t 2) 5 true,I.new 6 zPP,I.mv 7 k0])
 ((.seq ((.seq (.reg [I.ld 11 (.t 3) 4 true,I.ld 12 (.t 4) 9 true,I.call (some 13) z_63 [(.t 11),(.t 12)],I.mv 8 (.t 13)])
 ((.seq (.reg [I.mv 14 (.t 8),I.bin 15 .neq (.t 14) k0])
 (.ite (.t 15)
 ((.seq (.reg [I.build 16 zPP [],I.mv 17 (.t 8),I.st (.t 6) (.t 16) 13 false,I.mv 7 (.t 17)])
 (.ret)))
 (.skip))))))
 ((.seq (.drw [] [1,2,0,3,4,5,6,7,8] [I.fad 20 (.t 5) 1 1,I.ldd 21 (.t 20) 1 false,I.callk (some 19) z_126 [],I.mget 22 (.t 19) (.t 21) .nilfn true [.i],I.mv 18 (.t 22),I.ext 23 (.t 18) 0,I.ext 24 (.t 18) 1,I.mv 9 (.t 23),I.mv 10 (.t 24)])
 ((.seq (.blk 0 ((.seq (.reg [I.mv 26 (.t 10),I.un 27 .not (.t 26),I.mv 25 (.t 27)])
 (.ite (.t 25)
 ((.seq (.reg [I.build 28 zPP [],I.st (.t 6) (.t 28) 13 false,I.mv 7 (kII 8)])
 (.ret)))
 ((.seq (.reg [I.fa 30 (.t 5) 0 1,I.ld 31 (.t 30) 1 false,I.call (some 32) z_127 [(.t 31)],I.un 33 .not (.t 32),I.mv 34 (.t 33),.sc true 38 34 [I.fa 35 (.t 5) 3 1,I.ld 36 (.t 35) 1 false,I.bin 37 .lss (.t 36) k0] (.t 37),I.mv 39 (.t 38),.sc true 43 39 [I.fa 40 (.t 5) 3 1,I.ld 41 (.t 40) 1 false,I.bin 42 .gtr (.t 41) (kII 9)] (.t 42),I.mv 29 (.t 43)])
 (.ite (.t 29)
 ((.seq (.reg [I.build 44 zPP [],I.st (.t 6) (.t 44) 13 false,I.mv 7 (kII 2)])
 (.ret)))
 ((.seq (.reg [I.ld 46 (.t 4) 9 true,I.fa 47 (.t 5) 0 1,I.ld 48 (.t 47) 1 false,I.call (some 49) z_128 [(.t 46),(.t 48)],I.mv 45 (.t 49)])
 (.ite (.t 45)
 ((.seq (.reg [I.build 50 zPP [],I.st (.t 6) (.t 50) 13 false,I.mv 7 (kII 17)])
 (.ret)))
 (.skip)))))))))))
 ((.seq (.reg [I.mv 51 (.t 9),I.ld 52 (.t 4) 9 true,I.ld 53 (.t 5) 5 true,I.callv (some 54) (.t 51) [(.t 52),(.t 53)],I.ext 55 (.t 54) 0,I.ext 56 (.t 54) 1,I.st (.t 6) (.t 55) 13 false,I.mv 7 (.t 56)])
 (.ret)))))))))))
 [.c 6 13 true,.t 7] false none
def F_z_65:F:=.mk
 ((.seq (.reg [I.box 3 (.t 0) 4 true,I.box 4 (.t 1) 9 false,I.new 6 zPP,I.mv 7 k0])
 ((.seq ((.seq (.reg [I.ld 9 (.t 3) 4 true,I.ld 10 (.t 4) 9 true,I.call (some 11) z_63 [(.t 9),(.t 10)],I.mv 8 (.t 11)])
 ((.seq (.reg [I.mv 12 (.t 8),I.bin 13 .neq (.t 12) k0])
 (.ite (.t 13)
 ((.seq (.reg [I.build 14 zPP [],I.mv 15 (.t 8),I.st (.t 6) (.t 14) 13 false,I.mv 7 (.t 15)])
 (.ret)))
 (.skip))))))
 ((.seq ((.seq (.reg [I.ld 16 (.t 4) 9 true,I.mv 17 (.t 2),I.call (some 18) z_128 [(.t 16),(.t 17)],I.un 19 .not (.t 18)])
 (.ite (.t 19)
 ((.seq (.reg [I.build 20 zPP [],I.st (.t 6) (.t 20) 13 false,I.mv 7 (kII 7)])
 (.ret)))
 (.skip))))
 ((.seq (.reg [I.fa 21 (.t 4) 4 1,I.ld 22 (.t 21) 1 false,I.mv 23 (.t 2),I.call (some 24) z_129 [(.t 22),(.t 23)],I.fa 25 (.t 4) 4 1,I.st (.t 25) (.t 24) 1 false])
 ((.seq (.reg [I.ld 26 (.t 4) 9 true,I.build 27 zPP [(0,9,(.t 26))],I.st (.t 6) (.t 27) 13 false,I.mv 7 k0])
 (.ret)))))))))))
 [.c 6 13 true,.t 7] false none
def F_z_66:F:=.mk
 ((.seq (.reg [I.box 3 (.t 0) 4 true,I.box 4 (.t 1) 9 true,I.box 5 (.t 2) 5 true,I.mv 6 kFF])
 ((.seq (.reg [I.ld 10 (.t 3) 4 true,I.ld 11 (.t 4) 9 true,I.ld 12 (.t 5) 5 true,I.call (some 13) z_64 [(.t 10),(.t 11),(.t 12)],I.mv 9 (.t 13),I.ext 14 (.t 9) 0,I.ext 15 (.t 9) 1,I.new 7 zPP,I.st (.t 7) (.t 14) 13 true,I.mv 8 (.t 15)])
 ((.seq (.reg [I.mv 16 (.t 8),I.bin 17 .eql (.t 16) k0,I.mv 18 (.t 17),.sc false 22 18 [I.fa 19 (.t 7) 9 1,I.ld 20 (.t 19) 1 false,I.un 21 .not (.t 20)] (.t 21),I.mv 6 (.t 22)])
 (.ret)))))))
 [.t 6] false none
def F_z_67:F:=.mk
 ((.seq (.reg [I.box 1 (.t 0) 4 true,I.new 2 zR,I.mv 3 k0])
 ((.seq ((.seq (.reg [I.fa 4 (.t 1) 1 1,I.ld 5 (.t 4) 1 false,I.bin 6 .neq (.t 5) (kII 2)])
 (.ite (.t 6)
 ((.seq (.reg [I.build 7 zR [],I.st (.t 2) (.t 7) 9 false,I.mv 3 (kII 8)])
 (.ret)))
 (.skip))))
 ((.seq ((.seq (.reg [I.fa 8 (.t 1) 2 1,I.ld 9 (.t 8) 1 false,I.bin 10 .neq (.t 9) k0,I.mv 11 (.t 10),.sc true 15 11 [I.fa 12 (.t 1) 3 1,I.ld 13 (.t 12) 1 false,I.bin 14 .neq (.t 13) k0] (.t 14)])
 (.ite (.t 15)
 ((.seq (.reg [I.build 16 zR [],I.st (.t 2) (.t 16) 9 false,I.mv 3 (kII 2)])
 (.ret)))
 (.skip))))
 ((.seq (.reg [I.build 17 zR [(0,1,(.k (.i .i64 (-1))))],I.st (.t 2) (.t 17) 9 false,I.mv 3 k0])
 (.ret)))))))))
 [.c 2 9 true,.t 3] false none
def F_z_68:F:=.mk
 ((.seq (.reg [I.box 2 (.t 0) 4 true,I.box 3 (.t 1) 9 true,I.mv 4 k0])
 ((.seq ((.seq (.reg [I.ld 8 (.t 2) 4 true,I.call (some 9) z_67 [(.t 8)],I.mv 7 (.t 9),I.ext 10 (.t 7) 0,I.ext 11 (.t 7) 1,I.new 5 zR,I.st (.t 5) (.t 10) 9 true,I.mv 6 (.t 11)])
 ((.seq (.reg [I.mv 12 (.t 6),I.bin 13 .neq (.t 12) k0])
 (.ite (.t 13)
 ((.seq (.reg [I.mv 14 (.t 6),I.mv 4 (.t 14)])
 (.ret)))
 (.skip))))))
 ((.seq ((.seq (.reg [I.ld 15 (.t 3) 9 true,I.call (some 16) z_130 [(.t 15)],I.un 17 .not (.t 16)])
 (.ite (.t 17)
 ((.seq (.reg [I.mv 4 (kII 1)])
 (.ret)))
 (.skip))))
 ((.seq (.reg [I.mv 4 k0])
 (.ret)))))))))
 [.t 4] false none
def F_z_69:F:=.mk
 ((.seq (.reg [I.box 3 (.t 0) 4 true,I.box 4 (.t 1) 9 true,I.box 5 (.t 2) 5 true,I.new 6 zPP,I.mv 7 k0])
 ((.seq ((.seq (.reg [I.ld 13 (.t 3) 4 true,I.ld 14 (.t 4) 9 true,I.call (some 15) z_68 [(.t 13),(.t 14)],I.bin 16 .neq (.t 15) k0])
 (.ite (.t 16)
 ((.seq (.reg [I.build 17 zPP [],I.st (.t 6) (.t 17) 13 false,I.mv 7 (kII 1)])
 (.ret)))
 (.skip))))
 ((.seq ((.seq (.reg [I.fa 18 (.t 5) 0 1,I.ld 19 (.t 18) 1 false,I.call (some 20) z_131 [(.t 19)],I.un 21 .not (.t 20),I.mv 22 (.t 21),.sc true 26 22 [I.fa 23 (.t 5) 3 1,I.ld 24 (.t 23) 1 false,I.bin 25 .lss (.t 24) k0] (.t 25),I.mv 27 (.t 26),.sc true 31 27 [I.fa 28 (.t 5) 3 1,I.ld 29 (.t 28) 1 false,I.bin 30 .gtr (.t 29) (kII 9)] (.t 30),I.mv 32 (.t 31),.sc true 36 32 [I.fa 33 (.t 5) 4 1,I.ld 34 (.t 33) 1 false,I.bin 35 .lss (.t 34) k0] (.t 35),I.mv 37 (.t 36),.sc true 41 37 [I.fa 38 (.t 5) 4 1,I.ld 39 (.t 38) 1 false,I.bin 40 .gtr (.t 39) (kII 1099511627776)] (.t 40)])
 (.ite (.t 41)
 ((.seq (.reg [I.build 42 zPP [],I.st (.t 6) (.t 42) 13 false,I.mv 7 (kII 2)])
 (.ret)))
 (.skip))))
 ((.seq ((.seq (.reg [I.fa 43 (.t 5) 1 1,I.ld 44 (.t 43) 1 false,I.bin 45 .lss (.t 44) (kII 53),I.mv 46 (.t 45),.sc true 50 46 [I.fa 47 (.t 5) 1 1,I.ld 48 (.t 47) 1 false,I.bin 49 .gtr (.t 48) (kII 56)] (.t 49)])
 (.ite (.t 50)
 ((.seq (.reg [I.build 51 zPP [],I.st (.t 6) (.t 51) 13 false,I.mv 7 (kII 8)])
 (.ret)))
 (.skip))))
 ((.seq ((.seq (.reg [I.fa 53 (.t 4) 4 1,I.ld 54 (.t 53) 1 false,I.fa 55 (.t 5) 0 1,I.ld 56 (.t 55) 1 false,I.call (some 57) z_132 [(.t 54),(.t 56)],I.mv 52 (.t 57),I.ext 58 (.t 52) 0,I.ext 59 (.t 52) 1,I.mv 8 (.t 58),I.mv 9 (.t 59)])
 ((.seq (.reg [I.mv 60 (.t 9)])
 (.ite (.t 60)
 ((.seq (.reg [I.build 61 zPP [],I.st (.t 6) (.t 61) 13 false,I.mv 7 (kII 17)])
 (.ret)))
 (.skip))))))
 ((.seq (.drw [] [0,2,3,4,1,5,6,7] [I.ldd 62 (.t 4) 9 true,I.ldd 64 (.t 4) 9 true,I.fad 65 (.t 5) 0 1,I.ldd 66 (.t 65) 1 false,I.callk (some 63) z_133 [(.t 62)],I.call (some 67) z_134 [(.t 64),(.t 66)],I.mv 10 (.t 63),I.mv 11 (.t 67)])
 ((.seq ((.seq (.reg [I.fa 68 (.t 5) 1 1,I.ld 69 (.t 68) 1 false])
 (.blk 0 ((.seq ((.seq (.reg [I.bin 78 .eql (.t 69) (kII 53),I.mv 77 (.t 78)])
 (.ite (.t 77)
 (.skip)
 (.reg [I.bin 79 .eql (.t 69) (kII 55),I.mv 77 (.t 79)]))))
 (.ite (.t 77)
 ((.seq ((.seq (.reg [I.mv 80 (.t 11),I.bin 81 .neq (.t 80) k0])
 (.ite (.t 81)
 ((.seq (.reg [I.build 82 zPP [],I.st (.t 6) (.t 82) 13 false,I.mv 7 (kII 17)])
 (.ret)))
 (.skip))))
 ((.seq (.reg [I.mv 83 (.t 10),I.callr (some 84) z_135 [(.t 83)],I.mv 12 (.t 84)])
 ((.seq ((.seq (.reg [I.fa 85 (.t 5) 1 1,I.ld 86 (.t 85) 1 false,I.bin 87 .eql (.t 86) (kII 53)])
 (.ite (.t 87)
 (.reg [I.mv 88 (.t 10),I.callr (some 89) z_136 [(.t 88)],I.un 90 .not (.t 89),I.mv 91 (.t 90),.sc false 99 91 [I.mv 92 (.t 10),I.nck 93 (.t 92),I.fa 94 (.t 93) 0 9,I.fa 95 (.t 94) 4 1,I.ld 96 (.t 95) 1 false,I.len 97 (.t 96) .sl,I.bin 98 .eql (.t 97) k0] (.t 98),I.mv 12 (.t 99)])
 (.skip))))
 ((.seq (.reg [I.mv 100 (.t 10),I.ld 101 (.t 5) 5 true,I.mv 102 (.t 12),I.callr (some 103) z_137 [(.t 100),(.t 101),(.t 102)],I.st (.t 6) (.t 103) 13 false,I.mv 7 k0])
 (.ret)))))))))
 ((.seq (.reg [I.bin 105 .eql (.t 69) (kII 54),I.mv 104 (.t 105)])
 (.ite (.t 104)
 ((.seq ((.seq (.reg [I.mv 106 (.t 11),I.bin 107 .neq (.t 106) (kII 1)])
 (.ite (.t 107)
 ((.seq (.reg [I.build 108 zPP [],I.st (.t 6) (.t 108) 13 false,I.mv 7 (kII 20)])
 (.ret)))
 (.skip))))
 (.reg [I.mv 109 (.t 10),I.mv 110 (.t 10),I.nck 111 (.t 110),I.fa 112 (.t 111) 0 9,I.fa 113 (.t 112) 3 1,I.ld 114 (.t 113) 1 false,I.mkf 115 z_139 [] [(.t 5)],I.callr (some 116) z_138 [(.t 114),(.t 115)],I.nck 117 (.t 109),I.fa 118 (.t 117) 0 9,I.fa 119 (.t 118) 3 1,I.st (.t 119) (.t 116) 1 false])))
 ((.seq ((.seq (.reg [I.mv 70 (.t 11),I.bin 71 .neq (.t 70) (kII 2)])
 (.ite (.t 71)
 ((.seq (.reg [I.build 72 zPP [],I.st (.t 6) (.t 72) 13 false,I.mv 7 (kII 20)])
 (.ret)))
 (.skip))))
 (.reg [I.mv 73 (.t 10),I.nck 74 (.t 73),I.fa 75 (.t 74) 0 9,I.fa 76 (.t 75) 0 1,I.st (.t 76) (.k (.i .i64 (-1))) 1 false]))))))))))))
 ((.seq (.reg [I.mv 120 (.t 10),I.callr (some 121) z_140 [(.t 120)]])
 ((.seq (.reg [I.mv 122 (.t 10),I.callr (some 123) z_141 [(.t 122)],I.st (.t 6) (.t 123) 13 false,I.mv 7 k0])
 (.ret)))))))))))))))))))
 [.c 6 13 true,.t 7] false none
def F_z_70:F:=.mk
 ((.seq (.reg [I.box 3 (.t 0) 4 true,I.box 4 (.t 1) 9 true,I.new 6 zPP,I.mv 7 k0])
 ((.seq ((.seq (.reg [I.ld 11 (.t 3) 4 true,I.ld 12 (.t 4) 9 true,I.call (some 13) z_68 [(.t 11),(.t 12)],I.bin 14 .neq (.t 13) k0])
 (.ite (.t 14)
 ((.seq (.reg [I.build 15 zPP [],I.st (.t 6) (.t 15) 13 false,I.mv 7 (kII 1)])
 (.ret)))
 (.skip))))
 ((.seq ((.seq (.reg [I.fa 17 (.t 4) 4 1,I.ld 18 (.t 17) 1 false,I.mv 19 (.t 2),I.call (some 20) z_132 [(.t 18),(.t 19)],I.mv 16 (.t 20),I.ext 21 (.t 16) 0,I.ext 22 (.t 16) 1,I.mv 8 (.t 21),I.mv 9 (.t 22)])
 ((.seq (.reg [I.mv 23 (.t 9),I.un 24 .not (.t 23)])
 (.ite (.t 24)
 ((.seq (.reg [I.build 25 zPP [],I.st (.t 6) (.t 25) 13 false,I.mv 7 (kII 7)])
 (.ret)))
 (.skip))))))
 ((.seq (.reg [I.ld 26 (.t 4) 9 true,I.callk (some 27) z_133 [(.t 26)],I.mv 10 (.t 27)])
 ((.seq (.reg [I.mv 28 (.t 10),I.mv 29 (.t 10),I.nck 30 (.t 29),I.fa 31 (.t 30) 0 9,I.fa 32 (.t 31) 4 1,I.ld 33 (.t 32) 1 false,I.mv 34 (.t 2),I.callr (some 35) z_129q [(.t 33),(.t 34)],I.nck 36 (.t 28),I.fa 37 (.t 36) 0 9,I.fa 38 (.t 37) 4 1,I.st (.t 38) (.t 35) 1 false])
 ((.seq (.reg [I.mv 39 (.t 10),I.callr (some 40) z_140 [(.t 39)]])
 ((.seq (.drw [] [0,1,2,3,4,5,6,7,8,9,10] [I.mv 41 (.t 10),I.nck 42 (.t 41),I.fa 43 (.t 42) 0 9,I.ld 44 (.t 43) 9 true,I.mv 45 (.t 10),I.nck 46 (.t 45),I.fa 47 (.t 46) 9 1,I.ld 48 (.t 47) 1 false,I.build 49 zPP [(0,9,(.t 44)),(12,1,(.t 48))],I.st (.t 6) (.t 49) 13 false,I.mv 7 k0])
 (.ret)))))))))))))))
 [.c 6 13 true,.t 7] false none
def F_z_71:F:=.mk
 ((.seq (.reg [I.box 3 (.t 0) 4 true,I.box 4 (.t 1) 9 true,I.box 5 (.t 2) 5 true,I.mv 6 kFF])
 ((.seq (.reg [I.ld 10 (.t 3) 4 true,I.ld 11 (.t 4) 9 true,I.ld 12 (.t 5) 5 true,I.call (some 13) z_69 [(.t 10),(.t 11),(.t 12)],I.mv 9 (.t 13),I.ext 14 (.t 9) 0,I.ext 15 (.t 9) 1,I.new 7 zPP,I.st (.t 7) (.t 14) 13 true,I.mv 8 (.t 15)])
 ((.seq (.reg [I.mv 16 (.t 8),I.bin 17 .eql (.t 16) k0,I.mv 18 (.t 17),.sc false 22 18 [I.fa 19 (.t 7) 9 1,I.ld 20 (.t 19) 1 false,I.un 21 .not (.t 20)] (.t 21),I.mv 6 (.t 22)])
 (.ret)))))))
 [.t 6] false none
def F_z_72:F:=.mk
 ((.seq (.reg [I.box 1 (.t 0) 4 true,I.new 2 zR,I.mv 3 k0])
 ((.seq (.blk 0 ((.seq (.reg [I.fa 5 (.t 1) 1 1,I.ld 6 (.t 5) 1 false,I.bin 7 .neq (.t 6) (kII 4),I.mv 4 (.t 7)])
 (.ite (.t 4)
 ((.seq (.reg [I.build 8 zR [],I.st (.t 2) (.t 8) 9 false,I.mv 3 (kII 8)])
 (.ret)))
 ((.seq (.reg [I.fa 10 (.t 1) 2 1,I.ld 11 (.t 10) 1 false,I.bin 12 .lss (.t 11) (kII 1),I.mv 13 (.t 12),.sc true 17 13 [I.fa 14 (.t 1) 2 1,I.ld 15 (.t 14) 1 false,I.bin 16 .gtr (.t 15) (kII 100)] (.t 16),I.mv 18 (.t 17),.sc true 27 18 [I.fa 19 (.t 1) 3 1,I.ld 20 (.t 19) 1 false,I.bin 21 .neq (.t 20) k0,I.mv 22 (.t 21),.sc false 26 22 [I.fa 23 (.t 1) 3 1,I.ld 24 (.t 23) 1 false,I.bin 25 .neq (.t 24) (kII 1)] (.t 25)] (.t 26),I.mv 9 (.t 27)])
 (.ite (.t 9)
 ((.seq (.reg [I.build 28 zR [],I.st (.t 2) (.t 28) 9 false,I.mv 3 (kII 2)])
 (.ret)))
 (.skip))))))))
 ((.seq (.reg [I.fa 29 (.t 1) 2 1,I.ld 30 (.t 29) 1 false,I.build 31 zR [(0,1,(.k (.i .i64 (-1)))),(1,1,(.t 30))],I.st (.t 2) (.t 31) 9 false,I.mv 3 k0])
 (.ret)))))))
 [.c 2 9 true,.t 3] false none
def F_z_73_L0:C :=
 (.seq (.reg [I.bin 41 .lss (.t 40) (.t 39)])
 ((.seq (.ite (.t 41)
 (.skip)
 (.seq (.keep [3]) (.exit 0)))
 ((.seq (.blk 1 ((.seq (.reg [I.mv 42 (.t 40),I.mv 7 (.t 42)])
 ((.seq (.reg [I.ld 43 (.t 2) 4 true,I.ld 44 (.t 3) 9 true,I.mv 45 (.t 7),I.call (some 46) z_143 [(.t 43),(.t 44),(.t 45)],I.un 47 .not (.t 46)])
 (.ite (.t 47)
 ((.seq (.reg [I.mv 4 (kII 1)])
 (.seq (.keep [4]) .ret)))
 (.skip)))))))
 (.reg [I.bin 48 .add (.t 40) (kII 1),I.mv 40 (.t 48)]))))))
def F_z_73:F:=.mk
 ((.seq (.reg [I.box 2 (.t 0) 4 true,I.box 3 (.t 1) 9 true,I.mv 4 k0])
 ((.seq ((.seq (.reg [I.ld 9 (.t 2) 4 true,I.call (some 10) z_72 [(.t 9)],I.mv 8 (.t 10),I.ext 11 (.t 8) 0,I.ext 12 (.t 8) 1,I.new 5 zR,I.st (.t 5) (.t 11) 9 true,I.mv 6 (.t 12)])
 ((.seq (.reg [I.mv 13 (.t 6),I.bin 14 .neq (.t 13) k0])
 (.ite (.t 14)
 ((.seq (.reg [I.mv 15 (.t 6),I.mv 4 (.t 15)])
 (.ret)))
 (.skip))))))
 ((.seq ((.seq (.reg [I.fa 16 (.t 3) 0 1,I.ld 17 (.t 16) 1 false,I.bin 18 .neq (.t 17) (.k (.i .i64 (-1))),I.mv 19 (.t 18),.sc true 23 19 [I.fa 20 (.t 3) 1 1,I.ld 21 (.t 20) 1 false,I.bin 22 .lss (.t 21) k0] (.t 22),I.mv 24 (.t 23),.sc true 30 24 [I.fa 25 (.t 3) 1 1,I.ld 26 (.t 25) 1 false,I.fa 27 (.t 2) 2 1,I.ld 28 (.t 27) 1 false,I.bin 29 .gtr (.t 26) (.t 28)] (.t 29),I.mv 31 (.t 30),.sc true 36 31 [I.fa 32 (.t 3) 4 1,I.ld 33 (.t 32) 1 false,I.call (some 34) z_142 [(kII 1),(.t 33)],I.bin 35 .neq (.t 34) k0] (.t 35)])
 (.ite (.t 36)
 ((.seq (.reg [I.mv 4 (kII 1)])
 (.ret)))
 (.skip))))
 ((.seq ((.seq (.reg [I.fa 37 (.t 3) 4 1,I.ld 38 (.t 37) 1 false,I.len 39 (.t 38) .sl,I.mv 40 k0])
 (.blk 0 (.loop [2,3,39,40] F_z_73_L0))))
 ((.seq ((.seq (.reg [I.fa 49 (.t 3) 2 1,I.ld 50 (.t 49) 1 false,I.bin 51 .neq (.t 50) k0,I.mv 52 (.t 51),.sc true 65 52 [I.fa 53 (.t 3) 3 1,I.ld 54 (.t 53) 1 false,I.len 55 (.t 54) .sl,I.fa 56 (.t 3) 5 1,I.ld 57 (.t 56) 1 false,I.len 58 (.t 57) .sl,I.bin 59 .add (.t 55) (.t 58),I.fa 60 (.t 3) 6 1,I.ld 61 (.t 60) 1 false,I.len 62 (.t 61) .sl,I.bin 63 .add (.t 59) (.t 62),I.bin 64 .gtr (.t 63) k0] (.t 64),I.mv 66 (.t 65),.sc true 69 66 [I.fa 67 (.t 3) 7 1,I.ld 68 (.t 67) 1 false] (.t 68),I.mv 70 (.t 69),.sc true 74 70 [I.fa 71 (.t 3) 8 1,I.ld 72 (.t 71) 1 false,I.bin 73 .neq (.t 72) k0] (.t 73)])
 (.ite (.t 74)
 ((.seq (.reg [I.mv 4 (kII 1)])
 (.ret)))
 (.skip))))
 ((.seq (.reg [I.mv 4 k0])
 (.ret)))))))))))))
 [.t 4] false none
def F_z_74:F:=.mk
 ((.seq (.reg [I.box 3 (.t 0) 4 true,I.box 4 (.t 1) 9 true,I.box 5 (.t 2) 5 true,I.new 6 zPP,I.mv 7 k0])
 ((.seq ((.seq (.reg [I.ld 13 (.t 3) 4 true,I.ld 14 (.t 4) 9 true,I.call (some 15) z_73 [(.t 13),(.t 14)],I.bin 16 .neq (.t 15) k0])
 (.ite (.t 16)
 ((.seq (.reg [I.build 17 zPP [],I.st (.t 6) (.t 17) 13 false,I.mv 7 (kII 1)])
 (.ret)))
 (.skip))))
 ((.seq ((.seq (.reg [I.ld 18 (.t 3) 4 true,I.ld 19 (.t 4) 9 true,I.ld 20 (.t 5) 5 true,I.call (some 21) z_144 [(.t 18),(.t 19),(.t 20)],I.mv 8 (.t 21)])
 ((.seq (.reg [I.mv 22 (.t 8),I.bin 23 .neq (.t 22) k0])
 (.ite (.t 23)
 ((.seq (.reg [I.build 24 zPP [],I.mv 25 (.t 8),I.st (.t 6) (.t 24) 13 false,I.mv 7 (.t 25)])
 (.ret)))
 (.skip))))))
 ((.seq (.reg [I.ld 26 (.t 4) 9 true,I.fa 27 (.t 3) 3 1,I.ld 28 (.t 27) 1 false,I.bin 29 .eql (.t 28) (kII 1),I.build 30 [(.i .i64 0),(.i .i64 0),(.i .i64 0),(.sl 1 true []),(.sl 5 true []),(.sl 1 true []),(.sl 2 true []),(.b false),(.i .i64 0),(.b false)] [(0,9,(.t 26)),(9,1,(.t 29))],I.box 31 (.t 30) 10 false,I.new 9 [.nil],I.st (.t 9) (.t 31) 1 true])
 ((.seq (.reg [I.mkm 32,I.mkf 33 z_145 [] [(.t 9),(.t 5)],I.mput (.t 32) (kII 60) (.t 33) [.i],I.mkf 34 z_148 [] [(.t 9),(.t 5)],I.mput (.t 32) (kII 61) (.t 34) [.i],I.mkf 35 z_149 [] [(.t 9),(.t 5)],I.mput (.t 32) (kII 62) (.t 35) [.i],I.mv 36 (.t 32),I.mv 10 (.t 36)])
 ((.seq (.reg [I.mv 37 (.t 10),I.fa 38 (.t 5) 1 1,I.ld 39 (.t 38) 1 false,I.mget 40 (.t 37) (.t 39) .nilfn false [.i],I.mv 11 (.t 40)])
 ((.seq (.reg [I.mv 41 (.t 11),I.callvr (some 42) (.t 41) [],I.new 12 zPP,I.st (.t 12) (.t 42) 13 false])
 ((.seq (.reg [I.ld 43 (.t 9) 1 false,I.nck 44 (.t 43),I.fa 45 (.t 44) 0 9,I.ld 46 (.t 45) 9 true,I.fa 47 (.t 12) 0 9,I.st (.t 47) (.t 46) 9 false])
 ((.seq (.reg [I.ld 48 (.t 12) 13 true,I.st (.t 6) (.t 48) 13 false,I.mv 7 k0])
 (.ret)))))))))))))))))))
 [.c 6 13 true,.t 7] false none
def F_z_75:F:=.mk
 ((.seq (.reg [I.box 3 (.t 0) 4 true,I.box 4 (.t 1) 9 true,I.new 6 zPP,I.mv 7 k0])
 ((.seq ((.seq (.reg [I.ld 12 (.t 3) 4 true,I.ld 13 (.t 4) 9 true,I.call (some 14) z_73 [(.t 12),(.t 13)],I.bin 15 .neq (.t 14) k0])
 (.ite (.t 15)
 ((.seq (.reg [I.build 16 zPP [],I.st (.t 6) (.t 16) 13 false,I.mv 7 (kII 1)])
 (.ret)))
 (.skip))))
 ((.seq ((.seq (.reg [I.fa 18 (.t 4) 4 1,I.ld 19 (.t 18) 1 false,I.mv 20 (.t 2),I.call (some 21) z_132 [(.t 19),(.t 20)],I.mv 17 (.t 21),I.ext 22 (.t 17) 0,I.ext 23 (.t 17) 1,I.mv 8 (.t 22),I.mv 9 (.t 23)])
 ((.seq (.reg [I.mv 24 (.t 9),I.un 25 .not (.t 24)])
 (.ite (.t 25)
 ((.seq (.reg [I.build 26 zPP [],I.st (.t 6) (.t 26) 13 false,I.mv 7 (kII 7)])
 (.ret)))
 (.skip))))))
 ((.seq (.reg [I.ld 27 (.t 4) 9 true,I.fa 28 (.t 3) 3 1,I.ld 29 (.t 28) 1 false,I.bin 30 .eql (.t 29) (kII 1),I.build 31 [(.i .i64 0),(.i .i64 0),(.i .i64 0),(.sl 1 true []),(.sl 5 true []),(.sl 1 true []),(.sl 2 true []),(.b false),(.i .i64 0),(.b false)] [(0,9,(.t 27)),(9,1,(.t 30))],I.box 32 (.t 31) 10 false,I.mv 10 (.t 32)])
 ((.seq (.reg [I.mv 33 (.t 10),I.mv 34 (.t 10),I.nck 35 (.t 34),I.fa 36 (.t 35) 0 9,I.fa 37 (.t 36) 4 1,I.ld 38 (.t 37) 1 false,I.mv 39 (.t 2),I.call (some 40) z_129 [(.t 38),(.t 39)],I.nck 41 (.t 33),I.fa 42 (.t 41) 0 9,I.fa 43 (.t 42) 4 1,I.st (.t 43) (.t 40) 1 false])
 ((.seq (.reg [I.mv 44 (.t 10),I.callr (some 45) z_150 [(.t 44)],I.mv 11 (.t 45)])
 ((.seq (.reg [I.mv 46 (.t 10),I.nck 47 (.t 46),I.fa 48 (.t 47) 0 9,I.ld 49 (.t 48) 9 true,I.mv 50 (.t 11),I.build 51 zPP [(0,9,(.t 49)),(12,1,(.t 50))],I.st (.t 6) (.t 51) 13 false,I.mv 7 k0])
 (.ret)))))))))))))))
 [.c 6 13 true,.t 7] false none
def F_z_76:F:=.mk
 ((.seq (.reg [I.box 3 (.t 0) 4 true,I.box 4 (.t 1) 9 true,I.box 5 (.t 2) 5 true,I.mv 6 kFF])
 ((.seq (.reg [I.ld 10 (.t 3) 4 true,I.ld 11 (.t 4) 9 true,I.ld 12 (.t 5) 5 true,I.call (some 13) z_74 [(.t 10),(.t 11),(.t 12)],I.mv 9 (.t 13),I.ext 14 (.t 9) 0,I.ext 15 (.t 9) 1,I.new 7 zPP,I.st (.t 7) (.t 14) 13 true,I.mv 8 (.t 15)])
 ((.seq (.reg [I.mv 16 (.t 8),I.bin 17 .eql (.t 16) k0,I.mv 18 (.t 17),.sc false 22 18 [I.fa 19 (.t 7) 9 1,I.ld 20 (.t 19) 1 false,I.un 21 .not (.t 20)] (.t 21),I.mv 6 (.t 22)])
 (.ret)))))))
 [.t 6] false none
def F_z_77:F:=.mk
 ((.seq (.reg [I.box 1 (.t 0) 4 true,I.new 2 zR,I.mv 3 k0])
 ((.seq (.blk 0 ((.seq (.reg [I.fa 5 (.t 1) 1 1,I.ld 6 (.t 5) 1 false,I.bin 7 .neq (.t 6) (kII 5),I.mv 4 (.t 7)])
 (.ite (.t 4)
 ((.seq (.reg [I.build 8 zR [],I.st (.t 2) (.t 8) 9 false,I.mv 3 (kII 8)])
 (.ret)))
 ((.seq (.reg [I.fa 10 (.t 1) 2 1,I.ld 11 (.t 10) 1 false,I.bin 12 .lss (.t 11) (kII 1),I.mv 13 (.t 12),.sc true 17 13 [I.fa 14 (.t 1) 2 1,I.ld 15 (.t 14) 1 false,I.bin 16 .gtr (.t 15) (kII 100)] (.t 16),I.mv 18 (.t 17),.sc true 22 18 [I.fa 19 (.t 1) 3 1,I.ld 20 (.t 19) 1 false,I.bin 21 .neq (.t 20) k0] (.t 21),I.mv 9 (.t 22)])
 (.ite (.t 9)
 ((.seq (.reg [I.build 23 zR [],I.st (.t 2) (.t 23) 9 false,I.mv 3 (kII 2)])
 (.ret)))
 (.skip))))))))
 ((.seq (.reg [I.build 24 zR [(0,1,(.k (.i .i64 (-1))))],I.st (.t 2) (.t 24) 9 false,I.mv 3 k0])
 (.ret)))))))
 [.c 2 9 true,.t 3] false none
def F_z_78_L0:C :=
 (.seq (.reg [I.bin 74 .lss (.t 73) (.t 72)])
 ((.seq (.ite (.t 74)
 (.skip)
 (.seq (.keep []) (.exit 0)))
 ((.seq (.blk 1 ((.seq (.reg [I.mv 75 (.t 73),I.ixs 76 (.t 71) (.t 73) 5,I.ld 77 (.t 76) 5 true,I.new 8 zQ,I.mv 7 (.t 75),I.st (.t 8) (.t 77) 5 true])
 ((.seq (.reg [I.fa 78 (.t 8) 1 1,I.ld 79 (.t 78) 1 false,I.bin 80 .neq (.t 79) (kII 63),I.mv 81 (.t 80),.sc true 85 81 [I.fa 82 (.t 8) 2 1,I.ld 83 (.t 82) 1 false,I.bin 84 .neq (.t 83) k0] (.t 84),I.mv 86 (.t 85),.sc true 90 86 [I.fa 87 (.t 8) 4 1,I.ld 88 (.t 87) 1 false,I.bin 89 .neq (.t 88) (.k (.i .i64 (-1)))] (.t 89),I.mv 91 (.t 90),.sc true 102 91 [I.fa 92 (.t 3) 4 1,I.ld 93 (.t 92) 1 false,I.mv 94 (.t 7),I.bin 95 .add (.t 94) (kII 1),I.sl 96 (.t 93) none (some (.t 95)) 5,I.call (some 97) z_151 [(.t 96)],I.len 98 (.t 97) .sl,I.mv 99 (.t 7),I.bin 100 .add (.t 99) (kII 1),I.bin 101 .neq (.t 98) (.t 100)] (.t 101)])
 (.ite (.t 102)
 ((.seq (.reg [I.mv 4 (kII 1)])
 (.seq (.keep [4]) .ret)))
 (.skip)))))))
 (.reg [I.bin 103 .add (.t 73) (kII 1),I.mv 73 (.t 103)]))))))
def F_z_78:F:=.mk
 ((.seq (.reg [I.box 2 (.t 0) 4 true,I.box 3 (.t 1) 9 true,I.mv 4 k0])
 ((.seq ((.seq (.reg [I.ld 10 (.t 2) 4 true,I.call (some 11) z_77 [(.t 10)],I.mv 9 (.t 11),I.ext 12 (.t 9) 0,I.ext 13 (.t 9) 1,I.new 5 zR,I.st (.t 5) (.t 12) 9 true,I.mv 6 (.t 13)])
 ((.seq (.reg [I.mv 14 (.t 6),I.bin 15 .neq (.t 14) k0])
 (.ite (.t 15)
 ((.seq (.reg [I.mv 16 (.t 6),I.mv 4 (.t 16)])
 (.ret)))
 (.skip))))))
 ((.seq ((.seq (.reg [I.fa 17 (.t 3) 0 1,I.ld 18 (.t 17) 1 false,I.bin 19 .neq (.t 18) (.k (.i .i64 (-1))),I.mv 20 (.t 19),.sc true 24 20 [I.fa 21 (.t 3) 1 1,I.ld 22 (.t 21) 1 false,I.bin 23 .lss (.t 22) k0] (.t 23),I.mv 25 (.t 24),.sc true 29 25 [I.fa 26 (.t 3) 1 1,I.ld 27 (.t 26) 1 false,I.bin 28 .gtr (.t 27) (kII 1099511627776)] (.t 28),I.mv 30 (.t 29),.sc true 37 30 [I.fa 31 (.t 3) 4 1,I.ld 32 (.t 31) 1 false,I.len 33 (.t 32) .sl,I.fa 34 (.t 2) 2 1,I.ld 35 (.t 34) 1 false,I.bin 36 .geq (.t 33) (.t 35)] (.t 36)])
 (.ite (.t 37)
 ((.seq (.reg [I.mv 4 (kII 1)])
 (.ret)))
 (.skip))))
 ((.seq ((.seq (.reg [I.fa 38 (.t 3) 2 1,I.ld 39 (.t 38) 1 false,I.bin 40 .neq (.t 39) k0,I.mv 41 (.t 40),.sc true 45 41 [I.fa 42 (.t 3) 8 1,I.ld 43 (.t 42) 1 false,I.bin 44 .neq (.t 43) k0] (.t 44),I.mv 46 (.t 45),.sc true 49 46 [I.fa 47 (.t 3) 7 1,I.ld 48 (.t 47) 1 false] (.t 48),I.mv 50 (.t 49),.sc true 63 50 [I.fa 51 (.t 3) 3 1,I.ld 52 (.t 51) 1 false,I.len 53 (.t 52) .sl,I.fa 54 (.t 3) 5 1,I.ld 55 (.t 54) 1 false,I.len 56 (.t 55) .sl,I.bin 57 .add (.t 53) (.t 56),I.fa 58 (.t 3) 6 1,I.ld 59 (.t 58) 1 false,I.len 60 (.t 59) .sl,I.bin 61 .add (.t 57) (.t 60),I.bin 62 .gtr (.t 61) k0] (.t 62),I.mv 64 (.t 63),.sc true 69 64 [I.fa 65 (.t 3) 4 1,I.ld 66 (.t 65) 1 false,I.call (some 67) z_142 [(kII 1),(.t 66)],I.bin 68 .neq (.t 67) k0] (.t 68)])
 (.ite (.t 69)
 ((.seq (.reg [I.mv 4 (kII 1)])
 (.ret)))
 (.skip))))
 ((.seq ((.seq (.reg [I.fa 70 (.t 3) 4 1,I.ld 71 (.t 70) 1 false,I.len 72 (.t 71) .sl,I.mv 73 k0])
 (.blk 0 (.loop [3,71,72,73] F_z_78_L0))))
 ((.seq (.reg [I.mv 4 k0])
 (.ret)))))))))))))
 [.t 4] false none
def F_z_79_L0:C :=
 (.seq (.reg [I.bin 24 .lss (.t 23) (.t 22)])
 ((.seq (.ite (.t 24)
 (.skip)
 (.seq (.keep [3,4,5,6]) (.exit 0)))
 ((.seq (.blk 1 ((.seq (.reg [I.ixs 25 (.t 21) (.t 23) 2,I.ld 26 (.t 25) 2 true,I.new 10 [.nilfn,(.i .i64 0)],I.st (.t 10) (.t 26) 2 true])
 ((.seq (.reg [I.fa 27 (.t 10) 0 1,I.ld 28 (.t 27) 1 false,I.ld 29 (.t 4) 9 true,I.ld 30 (.t 5) 5 true,I.callv (some 31) (.t 28) [(.t 29),(.t 30)],I.un 32 .not (.t 31)])
 (.ite (.t 32)
 ((.seq (.drw [] [0,1,2,3,4] [I.build 33 zPP [],I.fad 34 (.t 10) 1 1,I.ldd 35 (.t 34) 1 false,I.st (.t 6) (.t 33) 13 false,I.mv 7 (.t 35)])
 (.seq (.keep [6,7]) .ret)))
 (.skip)))))))
 (.reg [I.bin 36 .add (.t 23) (kII 1),I.mv 23 (.t 36)]))))))
def F_z_79_A1:C :=
 (.seq (.reg [I.mv 12 (.t 70)])
 (.reg [I.new 13 zQ,I.st (.t 13) (.t 71) 5 true]))
def F_z_79_B1:C :=
 .blk 3 (.reg [I.fa 72 (.t 11) 12 1,I.ld 73 (.t 72) 1 false,I.fa 74 (.t 13) 0 1,I.ld 75 (.t 74) 1 false,I.mv 76 (.t 12),I.build 77 zWW [(0,1,(.t 75)),(1,1,(kII 63)),(2,1,(.t 76)),(3,1,kTT),(4,1,(.k (.i .i64 (-1))))],I.buildSl 78 5 1 zWW [(0,(.t 77))] true,I.app 79 (.t 73) (.t 78) 5,I.fa 80 (.t 11) 12 1,I.st (.t 80) (.t 79) 1 false])
def F_z_79:F:=.mk
 ((.seq (.reg [I.box 3 (.t 0) 4 true,I.box 4 (.t 1) 9 false,I.box 5 (.t 2) 5 true,I.new 6 zPP,I.mv 7 k0])
 ((.seq ((.seq (.reg [I.ld 14 (.t 3) 4 true,I.ld 15 (.t 4) 9 true,I.call (some 16) z_78 [(.t 14),(.t 15)],I.mv 8 (.t 16)])
 ((.seq (.reg [I.mv 17 (.t 8),I.bin 18 .neq (.t 17) k0])
 (.ite (.t 18)
 ((.seq (.reg [I.build 19 zPP [],I.mv 20 (.t 8),I.st (.t 6) (.t 19) 13 false,I.mv 7 (.t 20)])
 (.ret)))
 (.skip))))))
 ((.seq ((.seq (.reg [I.call (some 21) z_152 [],I.len 22 (.t 21) .sl,I.mv 23 k0])
 (.blk 0 (.loop [3,4,5,6,21,22,23] F_z_79_L0))))
 ((.seq ((.seq (.reg [I.fa 37 (.t 4) 4 1,I.ld 38 (.t 37) 1 false,I.len 39 (.t 38) .sl,I.bin 40 .add (.t 39) (kII 1),I.fa 41 (.t 3) 2 1,I.ld 42 (.t 41) 1 false,I.bin 43 .lss (.t 40) (.t 42)])
 (.ite (.t 43)
 ((.seq (.drw [] [0,1,3,4,5,6,7,8,9,10,2,11,12,13] [I.fa 44 (.t 4) 4 1,I.ld 45 (.t 44) 1 false,I.fad 47 (.t 5) 0 1,I.ldd 48 (.t 47) 1 false,I.fad 49 (.t 5) 1 1,I.ldd 50 (.t 49) 1 false,I.fad 51 (.t 5) 3 1,I.ldd 52 (.t 51) 1 false,I.build 53 zQ [(0,1,(.t 48)),(1,1,(.t 50)),(3,1,(.t 52)),(4,1,(.k (.i .i64 (-1))))],I.buildSl 54 5 1 zQ [(0,(.t 53))] true,I.callk (some 46) z_153 [(.t 45)],I.app 55 (.t 46) (.t 54) 5,I.fa 56 (.t 4) 4 1,I.st (.t 56) (.t 55) 1 false])
 ((.seq (.reg [I.ld 57 (.t 4) 9 true,I.build 58 zPP [(0,9,(.t 57)),(9,1,kTT)],I.st (.t 6) (.t 58) 13 false,I.mv 7 k0])
 (.ret)))))
 (.skip))))
 ((.seq ((.seq (.reg [I.fa 59 (.t 4) 1 1,I.ld 60 (.t 59) 1 false,I.bin 61 .eql (.t 60) (kII 1099511627776)])
 (.ite (.t 61)
 ((.seq (.reg [I.build 62 zPP [],I.st (.t 6) (.t 62) 13 false,I.mv 7 (kII 4)])
 (.ret)))
 (.skip))))
 ((.seq (.reg [I.fa 63 (.t 3) 2 1,I.ld 64 (.t 63) 1 false,I.bin 65 .sub (.t 64) (kII 1),I.build 66 zPP [(10,1,(.t 65)),(11,1,kTT)],I.new 11 zPP,I.st (.t 11) (.t 66) 13 false])
 ((.seq ((.seq (.reg [I.fa 67 (.t 4) 4 1,I.ld 68 (.t 67) 1 false,I.callk (some 69) z_154 [(.t 68)]])
 (.blk 2 (.rng (.t 69) [11] [70,71] F_z_79_A1 F_z_79_B1))))
 ((.seq (.reg [I.fa 81 (.t 4) 4 1,I.st (.t 81) (.k (.sl 5 true [])) 1 false])
 ((.seq (.reg [I.fa 82 (.t 4) 1 1,I.ld 83 (.t 82) 1 false,I.bin 84 .add (.t 83) (kII 1),I.fa 85 (.t 4) 1 1,I.st (.t 85) (.t 84) 1 false])
 ((.seq (.reg [I.ld 86 (.t 4) 9 true,I.fa 87 (.t 11) 0 9,I.st (.t 87) (.t 86) 9 false])
 ((.seq (.reg [I.ld 88 (.t 11) 13 true,I.st (.t 6) (.t 88) 13 false,I.mv 7 k0])
 (.ret)))))))))))))))))))))))
 [.c 6 13 true,.t 7] false none
def F_z_80:F:=.mk
 ((.seq (.reg [I.box 3 (.t 0) 4 true,I.box 4 (.t 1) 9 false,I.new 6 zPP,I.mv 7 k0])
 ((.seq ((.seq (.reg [I.ld 9 (.t 3) 4 true,I.ld 10 (.t 4) 9 true,I.call (some 11) z_78 [(.t 9),(.t 10)],I.mv 8 (.t 11)])
 ((.seq (.reg [I.mv 12 (.t 8),I.bin 13 .neq (.t 12) k0])
 (.ite (.t 13)
 ((.seq (.reg [I.build 14 zPP [],I.mv 15 (.t 8),I.st (.t 6) (.t 14) 13 false,I.mv 7 (.t 15)])
 (.ret)))
 (.skip))))))
 ((.seq ((.seq (.reg [I.ld 16 (.t 4) 9 true,I.mv 17 (.t 2),I.call (some 18) z_155 [(.t 16),(.t 17)],I.un 19 .not (.t 18)])
 (.ite (.t 19)
 ((.seq (.reg [I.build 20 zPP [],I.st (.t 6) (.t 20) 13 false,I.mv 7 (kII 7)])
 (.ret)))
 (.skip))))
 ((.seq (.reg [I.fa 21 (.t 4) 4 1,I.ld 22 (.t 21) 1 false,I.mv 23 (.t 2),I.call (some 24) z_129 [(.t 22),(.t 23)],I.fa 25 (.t 4) 4 1,I.st (.t 25) (.t 24) 1 false])
 ((.seq (.reg [I.ld 26 (.t 4) 9 true,I.build 27 zPP [(0,9,(.t 26))],I.st (.t 6) (.t 27) 13 false,I.mv 7 k0])
 (.ret)))))))))))
 [.c 6 13 true,.t 7] false none
def F_z_81:F:=.mk
 ((.seq (.reg [I.box 3 (.t 0) 4 true,I.box 4 (.t 1) 9 true,I.box 5 (.t 2) 5 true,I.mv 6 kFF])
 ((.seq (.reg [I.ld 10 (.t 3) 4 true,I.ld 11 (.t 4) 9 true,I.ld 12 (.t 5) 5 true,I.call (some 13) z_79 [(.t 10),(.t 11),(.t 12)],I.mv 9 (.t 13),I.ext 14 (.t 9) 0,I.ext 15 (.t 9) 1,I.new 7 zPP,I.st (.t 7) (.t 14) 13 true,I.mv 8 (.t 15)])
 ((.seq (.reg [I.mv 16 (.t 8),I.bin 17 .eql (.t 16) k0,I.mv 18 (.t 17),.sc false 22 18 [I.fa 19 (.t 7) 9 1,I.ld 20 (.t 19) 1 false,I.un 21 .not (.t 20)] (.t 21),I.mv 6 (.t 22)])
 (.ret)))))))
 [.t 6] false none
def F_z_82:F:=.mk
 ((.seq (.reg [I.box 1 (.t 0) 4 true,I.new 2 zR,I.mv 3 k0])
 ((.seq ((.seq (.reg [I.fa 4 (.t 1) 1 1,I.ld 5 (.t 4) 1 false,I.bin 6 .neq (.t 5) (kII 6)])
 (.ite (.t 6)
 ((.seq (.reg [I.build 7 zR [],I.st (.t 2) (.t 7) 9 false,I.mv 3 (kII 8)])
 (.ret)))
 (.skip))))
 ((.seq ((.seq (.reg [I.fa 8 (.t 1) 2 1,I.ld 9 (.t 8) 1 false,I.bin 10 .lss (.t 9) k0,I.mv 11 (.t 10),.sc true 15 11 [I.fa 12 (.t 1) 2 1,I.ld 13 (.t 12) 1 false,I.bin 14 .gtr (.t 13) (kII 100)] (.t 14),I.mv 16 (.t 15),.sc true 20 16 [I.fa 17 (.t 1) 3 1,I.ld 18 (.t 17) 1 false,I.bin 19 .neq (.t 18) k0] (.t 19)])
 (.ite (.t 20)
 ((.seq (.reg [I.build 21 zR [],I.st (.t 2) (.t 21) 9 false,I.mv 3 (kII 2)])
 (.ret)))
 (.skip))))
 ((.seq (.reg [I.build 22 zR [(0,1,(.k (.i .i64 (-1))))],I.st (.t 2) (.t 22) 9 false,I.mv 3 k0])
 (.ret)))))))))
 [.c 2 9 true,.t 3] false none
def F_z_83:F:=.mk
 ((.seq (.reg [I.box 2 (.t 0) 4 true,I.box 3 (.t 1) 9 true,I.mv 4 k0])
 ((.seq ((.seq (.reg [I.ld 8 (.t 2) 4 true,I.call (some 9) z_82 [(.t 8)],I.mv 7 (.t 9),I.ext 10 (.t 7) 0,I.ext 11 (.t 7) 1,I.new 5 zR,I.st (.t 5) (.t 10) 9 true,I.mv 6 (.t 11)])
 ((.seq (.reg [I.mv 12 (.t 6),I.bin 13 .neq (.t 12) k0])
 (.ite (.t 13)
 ((.seq (.reg [I.mv 14 (.t 6),I.mv 4 (.t 14)])
 (.ret)))
 (.skip))))))
 ((.seq ((.seq (.reg [I.ld 15 (.t 2) 4 true,I.ld 16 (.t 3) 9 true,I.call (some 17) z_156 [(.t 15),(.t 16)],I.un 18 .not (.t 17)])
 (.ite (.t 18)
 ((.seq (.reg [I.mv 4 (kII 1)])
 (.ret)))
 (.skip))))
 ((.seq (.reg [I.mv 4 k0])
 (.ret)))))))))
 [.t 4] false none
def F_z_84:F:=.mk
 ((.seq (.reg [I.box 3 (.t 0) 4 true,I.box 4 (.t 1) 9 true,I.box 5 (.t 2) 5 true,I.new 6 zPP,I.mv 7 k0])
 ((.seq ((.seq (.reg [I.ld 12 (.t 3) 4 true,I.ld 13 (.t 4) 9 true,I.call (some 14) z_83 [(.t 12),(.t 13)],I.bin 15 .neq (.t 14) k0])
 (.ite (.t 15)
 ((.seq (.reg [I.build 16 zPP [],I.st (.t 6) (.t 16) 13 false,I.mv 7 (kII 1)])
 (.ret)))
 (.skip))))
 ((.seq ((.seq (.reg [I.fa 17 (.t 5) 0 1,I.ld 18 (.t 17) 1 false,I.call (some 19) z_157 [(.t 18)],I.un 20 .not (.t 19),I.mv 21 (.t 20),.sc true 26 21 [I.fa 22 (.t 5) 3 1,I.ld 23 (.t 22) 1 false,I.call (some 24) z_158 [(.t 23)],I.un 25 .not (.t 24)] (.t 25),I.mv 27 (.t 26),.sc true 31 27 [I.fa 28 (.t 5) 4 1,I.ld 29 (.t 28) 1 false,I.bin 30 .lss (.t 29) k0] (.t 30),I.mv 32 (.t 31),.sc true 36 32 [I.fa 33 (.t 5) 4 1,I.ld 34 (.t 33) 1 false,I.bin 35 .gtr (.t 34) (kII 1099511627776)] (.t 35)])
 (.ite (.t 36)
 ((.seq (.reg [I.build 37 zPP [],I.st (.t 6) (.t 37) 13 false,I.mv 7 (kII 2)])
 (.ret)))
 (.skip))))
 ((.seq (.drw [] [1,2,0,3,4,5,6,7,8] [I.fad 40 (.t 5) 1 1,I.ldd 41 (.t 40) 1 false,I.callk (some 39) z_159 [],I.mget 42 (.t 39) (.t 41) .nilfn true [.i],I.mv 38 (.t 42),I.ext 43 (.t 38) 0,I.ext 44 (.t 38) 1,I.mv 8 (.t 43),I.mv 9 (.t 44)])
 ((.seq ((.seq (.reg [I.mv 45 (.t 9),I.un 46 .not (.t 45)])
 (.ite (.t 46)
 ((.seq (.reg [I.build 47 zPP [],I.st (.t 6) (.t 47) 13 false,I.mv 7 (kII 8)])
 (.ret)))
 (.skip))))
 ((.seq (.reg [I.fa 49 (.t 4) 4 1,I.ld 50 (.t 49) 1 false,I.fa 51 (.t 5) 0 1,I.ld 52 (.t 51) 1 false,I.call (some 53) z_132 [(.t 50),(.t 52)],I.mv 48 (.t 53),I.ext 54 (.t 48) 0,I.ext 55 (.t 48) 1,I.mv 10 (.t 54),I.mv 11 (.t 55)])
 ((.seq (.blk 0 ((.seq (.reg [I.fa 57 (.t 5) 1 1,I.ld 58 (.t 57) 1 false,I.bin 59 .eql (.t 58) (kII 64),I.mv 60 (.t 59),.sc false 65 60 [I.fa 61 (.t 5) 2 1,I.ld 62 (.t 61) 1 false,I.call (some 63) z_160 [(.t 62)],I.un 64 .not (.t 63)] (.t 64),I.mv 56 (.t 65)])
 (.ite (.t 56)
 ((.seq (.reg [I.build 66 zPP [],I.st (.t 6) (.t 66) 13 false,I.mv 7 (kII 2)])
 (.ret)))
 ((.seq (.reg [I.mv 68 (.t 11),I.mv 67 (.t 68)])
 (.ite (.t 67)
 ((.seq (.reg [I.build 69 zPP [],I.st (.t 6) (.t 69) 13 false,I.mv 7 (kII 17)])
 (.ret)))
 ((.seq (.reg [I.fa 71 (.t 4) 7 1,I.ld 72 (.t 71) 1 false,I.mv 73 (.t 72),.sc false 77 73 [I.fa 74 (.t 5) 1 1,I.ld 75 (.t 74) 1 false,I.bin 76 .eql (.t 75) (kII 64)] (.t 76),I.mv 70 (.t 77)])
 (.ite (.t 70)
 ((.seq (.reg [I.build 78 zPP [],I.st (.t 6) (.t 78) 13 false,I.mv 7 (kII 19)])
 (.ret)))
 ((.seq (.reg [I.fa 80 (.t 4) 7 1,I.ld 81 (.t 80) 1 false,I.mv 82 (.t 81),.sc false 86 82 [I.fa 83 (.t 5) 1 1,I.ld 84 (.t 83) 1 false,I.bin 85 .eql (.t 84) (kII 66)] (.t 85),I.mv 79 (.t 86)])
 (.ite (.t 79)
 ((.seq (.reg [I.build 87 zPP [],I.st (.t 6) (.t 87) 13 false,I.mv 7 (kII 17)])
 (.ret)))
 (.skip))))))))))))))
 ((.seq (.drw [] [0,1,2,4,3,5,6,7] [I.mv 88 (.t 8),I.ldd 89 (.t 3) 4 true,I.ldd 90 (.t 4) 9 true,I.ldd 92 (.t 5) 5 true,I.callk (some 91) z_161 [(.t 89),(.t 90)],I.callvr (some 93) (.t 88) [(.t 91),(.t 92)],I.st (.t 6) (.t 93) 13 false,I.mv 7 k0])
 (.ret)))))))))))))))))
 [.c 6 13 true,.t 7] false none
def F_z_85:F:=.mk
 ((.seq (.reg [I.box 3 (.t 0) 4 true,I.box 4 (.t 1) 9 false,I.new 6 zPP,I.mv 7 k0])
 ((.seq ((.seq (.reg [I.ld 10 (.t 3) 4 true,I.ld 11 (.t 4) 9 true,I.call (some 12) z_83 [(.t 10),(.t 11)],I.bin 13 .neq (.t 12) k0])
 (.ite (.t 13)
 ((.seq (.reg [I.build 14 zPP [],I.st (.t 6) (.t 14) 13 false,I.mv 7 (kII 1)])
 (.ret)))
 (.skip))))
 ((.seq ((.seq (.reg [I.fa 16 (.t 4) 4 1,I.ld 17 (.t 16) 1 false,I.mv 18 (.t 2),I.call (some 19) z_132 [(.t 17),(.t 18)],I.mv 15 (.t 19),I.ext 20 (.t 15) 0,I.ext 21 (.t 15) 1,I.mv 8 (.t 20),I.mv 9 (.t 21)])
 ((.seq (.reg [I.mv 22 (.t 9),I.un 23 .not (.t 22)])
 (.ite (.t 23)
 ((.seq (.reg [I.build 24 zPP [],I.st (.t 6) (.t 24) 13 false,I.mv 7 (kII 7)])
 (.ret)))
 (.skip))))))
 ((.seq (.reg [I.fa 25 (.t 4) 4 1,I.ld 26 (.t 25) 1 false,I.mv 27 (.t 2),I.call (some 28) z_129 [(.t 26),(.t 27)],I.fa 29 (.t 4) 4 1,I.st (.t 29) (.t 28) 1 false])
 ((.seq (.reg [I.ld 30 (.t 4) 9 true,I.build 31 zPP [(0,9,(.t 30))],I.st (.t 6) (.t 31) 13 false,I.mv 7 k0])
 (.ret)))))))))))
 [.c 6 13 true,.t 7] false none
def F_z_86:F:=.mk
 ((.seq (.reg [I.box 3 (.t 0) 4 true,I.box 4 (.t 1) 9 true,I.box 5 (.t 2) 5 true,I.mv 6 kFF])
 ((.seq (.reg [I.ld 10 (.t 3) 4 true,I.ld 11 (.t 4) 9 true,I.ld 12 (.t 5) 5 true,I.call (some 13) z_84 [(.t 10),(.t 11),(.t 12)],I.mv 9 (.t 13),I.ext 14 (.t 9) 0,I.ext 15 (.t 9) 1,I.new 7 zPP,I.st (.t 7) (.t 14) 13 true,I.mv 8 (.t 15)])
 ((.seq (.reg [I.mv 16 (.t 8),I.bin 17 .eql (.t 16) k0,I.mv 18 (.t 17),.sc false 22 18 [I.fa 19 (.t 7) 9 1,I.ld 20 (.t 19) 1 false,I.un 21 .not (.t 20)] (.t 21),I.mv 6 (.t 22)])
 (.ret)))))))
 [.t 6] false none
def F_z_87:F:=.mk
 ((.seq (.reg [I.box 1 (.t 0) 4 true,I.new 2 zR,I.mv 3 k0])
 ((.seq ((.seq (.reg [I.fa 4 (.t 1) 1 1,I.ld 5 (.t 4) 1 false,I.bin 6 .neq (.t 5) (kII 7)])
 (.ite (.t 6)
 ((.seq (.reg [I.build 7 zR [],I.st (.t 2) (.t 7) 9 false,I.mv 3 (kII 8)])
 (.ret)))
 (.skip))))
 ((.seq ((.seq (.reg [I.fa 8 (.t 1) 2 1,I.ld 9 (.t 8) 1 false,I.bin 10 .lss (.t 9) k0,I.mv 11 (.t 10),.sc true 15 11 [I.fa 12 (.t 1) 2 1,I.ld 13 (.t 12) 1 false,I.bin 14 .gtr (.t 13) (kII 100)] (.t 14),I.mv 16 (.t 15),.sc true 20 16 [I.fa 17 (.t 1) 3 1,I.ld 18 (.t 17) 1 false,I.bin 19 .neq (.t 18) k0] (.t 19)])
 (.ite (.t 20)
 ((.seq (.reg [I.build 21 zR [],I.st (.t 2) (.t 21) 9 false,I.mv 3 (kII 2)])
 (.ret)))
 (.skip))))
 ((.seq (.reg [I.build 22 zR [(0,1,(.k (.i .i64 (-1))))],I.st (.t 2) (.t 22) 9 false,I.mv 3 k0])
 (.ret)))))))))
 [.c 2 9 true,.t 3] false none
def F_z_88:F:=.mk
 ((.seq (.reg [I.box 2 (.t 0) 4 true,I.box 3 (.t 1) 9 true,I.mv 4 k0])
 ((.seq ((.seq (.reg [I.ld 8 (.t 2) 4 true,I.call (some 9) z_87 [(.t 8)],I.mv 7 (.t 9),I.ext 10 (.t 7) 0,I.ext 11 (.t 7) 1,I.new 5 zR,I.st (.t 5) (.t 10) 9 true,I.mv 6 (.t 11)])
 ((.seq (.reg [I.mv 12 (.t 6),I.bin 13 .neq (.t 12) k0])
 (.ite (.t 13)
 ((.seq (.reg [I.mv 14 (.t 6),I.mv 4 (.t 14)])
 (.ret)))
 (.skip))))))
 ((.seq ((.seq (.reg [I.fa 15 (.t 3) 0 1,I.ld 16 (.t 15) 1 false,I.bin 17 .neq (.t 16) (.k (.i .i64 (-1))),I.mv 18 (.t 17),.sc true 25 18 [I.fa 19 (.t 2) 2 1,I.ld 20 (.t 19) 1 false,I.fa 21 (.t 3) 6 1,I.ld 22 (.t 21) 1 false,I.call (some 23) z_162 [(.t 20),(.t 22)],I.un 24 .not (.t 23)] (.t 24),I.mv 26 (.t 25),.sc true 32 26 [I.fa 27 (.t 2) 2 1,I.ld 28 (.t 27) 1 false,I.ld 29 (.t 3) 9 true,I.call (some 30) z_163 [(.t 28),(.t 29)],I.un 31 .not (.t 30)] (.t 31)])
 (.ite (.t 32)
 ((.seq (.reg [I.mv 4 (kII 1)])
 (.ret)))
 (.skip))))
 ((.seq ((.seq (.reg [I.fa 33 (.t 3) 1 1,I.ld 34 (.t 33) 1 false,I.bin 35 .neq (.t 34) k0,I.mv 36 (.t 35),.sc true 40 36 [I.fa 37 (.t 3) 2 1,I.ld 38 (.t 37) 1 false,I.bin 39 .neq (.t 38) k0] (.t 39),I.mv 41 (.t 40),.sc true 50 41 [I.fa 42 (.t 3) 3 1,I.ld 43 (.t 42) 1 false,I.len 44 (.t 43) .sl,I.fa 45 (.t 3) 5 1,I.ld 46 (.t 45) 1 false,I.len 47 (.t 46) .sl,I.bin 48 .add (.t 44) (.t 47),I.bin 49 .gtr (.t 48) k0] (.t 49),I.mv 51 (.t 50),.sc true 54 51 [I.fa 52 (.t 3) 7 1,I.ld 53 (.t 52) 1 false] (.t 53),I.mv 55 (.t 54),.sc true 59 55 [I.fa 56 (.t 3) 8 1,I.ld 57 (.t 56) 1 false,I.bin 58 .neq (.t 57) k0] (.t 58)])
 (.ite (.t 59)
 ((.seq (.reg [I.mv 4 (kII 1)])
 (.ret)))
 (.skip))))
 ((.seq (.reg [I.mv 4 k0])
 (.ret)))))))))))
 [.t 4] false none
def F_z_89:F:=.mk
 ((.seq (.reg [I.box 3 (.t 0) 4 true,I.box 4 (.t 1) 9 true,I.box 5 (.t 2) 5 true,I.new 6 zPP,I.mv 7 k0])
 ((.seq ((.seq (.reg [I.ld 13 (.t 3) 4 true,I.ld 14 (.t 4) 9 true,I.call (some 15) z_88 [(.t 13),(.t 14)],I.bin 16 .neq (.t 15) k0])
 (.ite (.t 16)
 ((.seq (.reg [I.build 17 zPP [],I.st (.t 6) (.t 17) 13 false,I.mv 7 (kII 1)])
 (.ret)))
 (.skip))))
 ((.seq ((.seq (.reg [I.ld 18 (.t 4) 9 true,I.ld 19 (.t 5) 5 true,I.call (some 20) z_164 [(.t 18),(.t 19)],I.mv 8 (.t 20)])
 ((.seq (.reg [I.mv 21 (.t 8),I.bin 22 .neq (.t 21) k0])
 (.ite (.t 22)
 ((.seq (.reg [I.build 23 zPP [],I.mv 24 (.t 8),I.st (.t 6) (.t 23) 13 false,I.mv 7 (.t 24)])
 (.ret)))
 (.skip))))))
 ((.seq (.reg [I.ld 25 (.t 3) 4 true,I.ld 26 (.t 4) 9 true,I.callk (some 27) z_165 [(.t 25),(.t 26)],I.new 9 [.nil],I.st (.t 9) (.t 27) 1 true])
 ((.seq (.reg [I.mkm 28,I.mkf 29 z_166 [] [(.t 9),(.t 5)],I.mput (.t 28) (kII 69) (.t 29) [.i],I.mkf 30 z_168 [] [(.t 9),(.t 5)],I.mput (.t 28) (kII 71) (.t 30) [.i],I.mkf 31 z_172 [] [(.t 9),(.t 5)],I.mput (.t 28) (kII 68) (.t 31) [.i],I.mkf 32 z_177 [] [(.t 9),(.t 5)],I.mput (.t 28) (kII 70) (.t 32) [.i],I.mv 33 (.t 28),I.mv 10 (.t 33)])
 ((.seq (.reg [I.mv 34 (.t 10),I.fa 35 (.t 5) 1 1,I.ld 36 (.t 35) 1 false,I.mget 37 (.t 34) (.t 36) .nilfn false [.i],I.mv 11 (.t 37)])
 ((.seq (.reg [I.mv 38 (.t 11),I.callvr (some 39) (.t 38) [],I.new 12 zPP,I.st (.t 12) (.t 39) 13 false])
 ((.seq (.drw [] [0,1,2,3,4,5,6,7,8,9,10,11] [I.ldd 40 (.t 9) 1 false,I.nck 41 (.t 40),I.fa 42 (.t 41) 1 9,I.ld 43 (.t 42) 9 true,I.ldd 44 (.t 9) 1 false,I.nck 45 (.t 44),I.fa 46 (.t 45) 10 1,I.ld 47 (.t 46) 1 false,I.fa 48 (.t 12) 0 9,I.st (.t 48) (.t 43) 9 false,.re (.fa 46 (.t 45) 10 1),.re (.ld 47 (.t 46) 1 false),I.fa 49 (.t 12) 12 1,I.st (.t 49) (.t 47) 1 false])
 ((.seq (.reg [I.ld 50 (.t 12) 13 true,I.st (.t 6) (.t 50) 13 false,I.mv 7 k0])
 (.ret)))))))))))))))))))
 [.c 6 13 true,.t 7] false none
def F_z_90:F:=.mk
 ((.seq (.reg [I.box 3 (.t 0) 4 true,I.box 4 (.t 1) 9 true,I.new 6 zPP,I.mv 7 k0])
 ((.seq ((.seq (.reg [I.ld 11 (.t 3) 4 true,I.ld 12 (.t 4) 9 true,I.call (some 13) z_88 [(.t 11),(.t 12)],I.bin 14 .neq (.t 13) k0])
 (.ite (.t 14)
 ((.seq (.reg [I.build 15 zPP [],I.st (.t 6) (.t 15) 13 false,I.mv 7 (kII 1)])
 (.ret)))
 (.skip))))
 ((.seq ((.seq (.reg [I.fa 17 (.t 4) 4 1,I.ld 18 (.t 17) 1 false,I.mv 19 (.t 2),I.call (some 20) z_132 [(.t 18),(.t 19)],I.mv 16 (.t 20),I.ext 21 (.t 16) 0,I.ext 22 (.t 16) 1,I.mv 8 (.t 21),I.mv 9 (.t 22)])
 ((.seq (.reg [I.mv 23 (.t 9),I.un 24 .not (.t 23)])
 (.ite (.t 24)
 ((.seq (.reg [I.build 25 zPP [],I.st (.t 6) (.t 25) 13 false,I.mv 7 (kII 7)])
 (.ret)))
 (.skip))))))
 ((.seq (.reg [I.ld 26 (.t 3) 4 true,I.ld 27 (.t 4) 9 true,I.callk (some 28) z_165 [(.t 26),(.t 27)],I.mv 10 (.t 28)])
 ((.seq (.seq (.fzc 10 5)
 (.reg [I.mv 29 (.t 10),I.mv 30 (.t 10),I.nck 31 (.t 30),I.fa 32 (.t 31) 1 9,I.fa 33 (.t 32) 4 1,I.ld 34 (.t 33) 1 false,I.mv 35 (.t 2),I.call (some 36) z_129 [(.t 34),(.t 35)],I.nck 37 (.t 29),I.fa 38 (.t 37) 1 9,I.fa 39 (.t 38) 4 1,I.st (.t 39) (.t 36) 1 false]))
 ((.seq (.reg [I.mv 40 (.t 10),I.callr (some 41) z_171 [(.t 40)]])
 ((.seq (.drw [] [0,1,2,3,4,5,6,7,8,9,10] [I.mv 42 (.t 10),I.nck 43 (.t 42),I.fa 44 (.t 43) 1 9,I.ld 45 (.t 44) 9 true,I.mv 46 (.t 10),I.nck 47 (.t 46),I.fa 48 (.t 47) 10 1,I.ld 49 (.t 48) 1 false,I.build 50 zPP [(0,9,(.t 45)),(12,1,(.t 49))],I.st (.t 6) (.t 50) 13 false,I.mv 7 k0])
 (.ret)))))))))))))))
 [.c 6 13 true,.t 7] false none
def F_z_91:F:=.mk
 ((.seq (.reg [I.box 3 (.t 0) 4 true,I.box 4 (.t 1) 9 true,I.box 5 (.t 2) 5 true,I.mv 6 kFF])
 ((.seq (.reg [I.ld 10 (.t 3) 4 true,I.ld 11 (.t 4) 9 true,I.ld 12 (.t 5) 5 true,I.call (some 13) z_89 [(.t 10),(.t 11),(.t 12)],I.mv 9 (.t 13),I.ext 14 (.t 9) 0,I.ext 15 (.t 9) 1,I.new 7 zPP,I.st (.t 7) (.t 14) 13 true,I.mv 8 (.t 15)])
 ((.seq (.reg [I.mv 16 (.t 8),I.bin 17 .eql (.t 16) k0,I.mv 18 (.t 17),.sc false 22 18 [I.fa 19 (.t 7) 9 1,I.ld 20 (.t 19) 1 false,I.un 21 .not (.t 20)] (.t 21),I.mv 6 (.t 22)])
 (.ret)))))))
 [.t 6] false none
def F_z_92:F:=.mk
 ((.seq (.reg [I.box 1 (.t 0) 4 true,I.new 2 zR,I.mv 3 k0])
 ((.seq (.blk 0 ((.seq (.reg [I.fa 5 (.t 1) 1 1,I.ld 6 (.t 5) 1 false,I.bin 7 .neq (.t 6) (kII 8),I.mv 4 (.t 7)])
 (.ite (.t 4)
 ((.seq (.reg [I.build 8 zR [],I.st (.t 2) (.t 8) 9 false,I.mv 3 (kII 8)])
 (.ret)))
 ((.seq (.reg [I.fa 10 (.t 1) 2 1,I.ld 11 (.t 10) 1 false,I.bin 12 .lss (.t 11) (kII 1),I.mv 13 (.t 12),.sc true 17 13 [I.fa 14 (.t 1) 2 1,I.ld 15 (.t 14) 1 false,I.bin 16 .gtr (.t 15) (kII 100)] (.t 16),I.mv 18 (.t 17),.sc true 22 18 [I.fa 19 (.t 1) 3 1,I.ld 20 (.t 19) 1 false,I.bin 21 .lss (.t 20) (kII 1)] (.t 21),I.mv 23 (.t 22),.sc true 27 23 [I.fa 24 (.t 1) 3 1,I.ld 25 (.t 24) 1 false,I.bin 26 .gtr (.t 25) (kII 1099511627776)] (.t 26),I.mv 9 (.t 27)])
 (.ite (.t 9)
 ((.seq (.reg [I.build 28 zR [],I.st (.t 2) (.t 28) 9 false,I.mv 3 (kII 2)])
 (.ret)))
 (.skip))))))))
 ((.seq (.reg [I.fa 29 (.t 1) 2 1,I.ld 30 (.t 29) 1 false,I.build 31 zR [(0,1,(.k (.i .i64 (-1)))),(1,1,(.t 30))],I.st (.t 2) (.t 31) 9 false,I.mv 3 k0])
 (.ret)))))))
 [.c 2 9 true,.t 3] false none
def F_z_93_L0:C :=
 (.seq (.reg [I.bin 73 .lss (.t 72) (.t 71)])
 ((.seq (.ite (.t 73)
 (.skip)
 (.seq (.keep []) (.exit 0)))
 ((.seq (.blk 1 ((.seq (.reg [I.mv 74 (.t 72),I.ixs 75 (.t 70) (.t 72) 5,I.ld 76 (.t 75) 5 true,I.new 8 zQ,I.mv 7 (.t 74),I.st (.t 8) (.t 76) 5 true])
 ((.seq (.reg [I.fa 77 (.t 8) 1 1,I.ld 78 (.t 77) 1 false,I.bin 79 .neq (.t 78) (kII 72),I.mv 80 (.t 79),.sc true 84 80 [I.fa 81 (.t 8) 2 1,I.ld 82 (.t 81) 1 false,I.bin 83 .lss (.t 82) (kII 1)] (.t 83),I.mv 85 (.t 84),.sc true 91 85 [I.fa 86 (.t 8) 2 1,I.ld 87 (.t 86) 1 false,I.fa 88 (.t 2) 2 1,I.ld 89 (.t 88) 1 false,I.bin 90 .gtr (.t 87) (.t 89)] (.t 90),I.mv 92 (.t 91),.sc true 96 92 [I.fa 93 (.t 8) 4 1,I.ld 94 (.t 93) 1 false,I.bin 95 .neq (.t 94) (.k (.i .i64 (-1)))] (.t 95),I.mv 97 (.t 96),.sc true 108 97 [I.fa 98 (.t 3) 4 1,I.ld 99 (.t 98) 1 false,I.mv 100 (.t 7),I.bin 101 .add (.t 100) (kII 1),I.sl 102 (.t 99) none (some (.t 101)) 5,I.call (some 103) z_151 [(.t 102)],I.len 104 (.t 103) .sl,I.mv 105 (.t 7),I.bin 106 .add (.t 105) (kII 1),I.bin 107 .neq (.t 104) (.t 106)] (.t 107)])
 (.ite (.t 108)
 ((.seq (.reg [I.mv 4 (kII 1)])
 (.seq (.keep [4]) .ret)))
 (.skip)))))))
 (.reg [I.bin 109 .add (.t 72) (kII 1),I.mv 72 (.t 109)]))))))
def F_z_93:F:=.mk
 ((.seq (.reg [I.box 2 (.t 0) 4 true,I.box 3 (.t 1) 9 true,I.mv 4 k0])
 ((.seq ((.seq (.reg [I.ld 10 (.t 2) 4 true,I.call (some 11) z_92 [(.t 10)],I.mv 9 (.t 11),I.ext 12 (.t 9) 0,I.ext 13 (.t 9) 1,I.new 5 zR,I.st (.t 5) (.t 12) 9 true,I.mv 6 (.t 13)])
 ((.seq (.reg [I.mv 14 (.t 6),I.bin 15 .neq (.t 14) k0])
 (.ite (.t 15)
 ((.seq (.reg [I.mv 16 (.t 6),I.mv 4 (.t 16)])
 (.ret)))
 (.skip))))))
 ((.seq ((.seq (.reg [I.fa 17 (.t 3) 0 1,I.ld 18 (.t 17) 1 false,I.bin 19 .neq (.t 18) (.k (.i .i64 (-1))),I.mv 20 (.t 19),.sc true 24 20 [I.fa 21 (.t 3) 1 1,I.ld 22 (.t 21) 1 false,I.bin 23 .lss (.t 22) k0] (.t 23),I.mv 25 (.t 24),.sc true 31 25 [I.fa 26 (.t 3) 1 1,I.ld 27 (.t 26) 1 false,I.fa 28 (.t 2) 2 1,I.ld 29 (.t 28) 1 false,I.bin 30 .gtr (.t 27) (.t 29)] (.t 30),I.mv 32 (.t 31),.sc true 36 32 [I.fa 33 (.t 3) 2 1,I.ld 34 (.t 33) 1 false,I.bin 35 .lss (.t 34) k0] (.t 35),I.mv 37 (.t 36),.sc true 41 37 [I.fa 38 (.t 3) 2 1,I.ld 39 (.t 38) 1 false,I.bin 40 .gtr (.t 39) (kII 1099511627776)] (.t 40)])
 (.ite (.t 41)
 ((.seq (.reg [I.mv 4 (kII 1)])
 (.ret)))
 (.skip))))
 ((.seq ((.seq (.reg [I.fa 42 (.t 3) 8 1,I.ld 43 (.t 42) 1 false,I.bin 44 .neq (.t 43) k0,I.mv 45 (.t 44),.sc true 48 45 [I.fa 46 (.t 3) 7 1,I.ld 47 (.t 46) 1 false] (.t 47),I.mv 49 (.t 48),.sc true 62 49 [I.fa 50 (.t 3) 3 1,I.ld 51 (.t 50) 1 false,I.len 52 (.t 51) .sl,I.fa 53 (.t 3) 5 1,I.ld 54 (.t 53) 1 false,I.len 55 (.t 54) .sl,I.bin 56 .add (.t 52) (.t 55),I.fa 57 (.t 3) 6 1,I.ld 58 (.t 57) 1 false,I.len 59 (.t 58) .sl,I.bin 60 .add (.t 56) (.t 59),I.bin 61 .gtr (.t 60) k0] (.t 61),I.mv 63 (.t 62),.sc true 68 63 [I.fa 64 (.t 3) 4 1,I.ld 65 (.t 64) 1 false,I.call (some 66) z_142 [(kII 1),(.t 65)],I.bin 67 .neq (.t 66) k0] (.t 67)])
 (.ite (.t 68)
 ((.seq (.reg [I.mv 4 (kII 1)])
 (.ret)))
 (.skip))))
 ((.seq ((.seq (.reg [I.fa 69 (.t 3) 4 1,I.ld 70 (.t 69) 1 false,I.len 71 (.t 70) .sl,I.mv 72 k0])
 (.blk 0 (.loop [2,3,70,71,72] F_z_93_L0))))
 ((.seq (.reg [I.mv 4 k0])
 (.ret)))))))))))))
 [.t 4] false none
def F_z_94_A0:C :=
 (.seq (.reg [I.new 11 zQ,I.st (.t 11) (.t 32) 5 true])
 (.reg [I.new 12 zR,I.st (.t 12) (.t 33) 9 true]))
def F_z_94_B0:C :=
 .blk 1 ((.seq (.reg [I.fa 34 (.t 10) 12 1,I.ld 35 (.t 34) 1 false,I.fa 36 (.t 11) 0 1,I.ld 37 (.t 36) 1 false,I.build 38 zWW [(0,1,(.t 37)),(1,1,(kII 72)),(3,1,kTT),(4,1,(.k (.i .i64 (-1))))],I.buildSl 39 5 1 zWW [(0,(.t 38))] true,I.app 40 (.t 35) (.t 39) 5,I.fa 41 (.t 10) 12 1,I.st (.t 41) (.t 40) 1 false])
 (.reg [I.ld 42 (.t 12) 9 true,I.st (.t 4) (.t 42) 9 false])))
def F_z_94:F:=.mk
 ((.seq (.reg [I.box 3 (.t 0) 4 true,I.box 4 (.t 1) 9 false,I.box 5 (.t 2) 5 true,I.new 6 zPP,I.mv 7 k0])
 ((.seq ((.seq (.reg [I.ld 13 (.t 3) 4 true,I.ld 14 (.t 4) 9 true,I.ld 15 (.t 5) 5 true,I.call (some 16) z_179 [(.t 13),(.t 14),(.t 15)],I.mv 8 (.t 16)])
 ((.seq (.reg [I.mv 17 (.t 8),I.bin 18 .neq (.t 17) k0])
 (.ite (.t 18)
 ((.seq (.reg [I.build 19 zPP [],I.mv 20 (.t 8),I.st (.t 6) (.t 19) 13 false,I.mv 7 (.t 20)])
 (.ret)))
 (.skip))))))
 ((.seq (.reg [I.ld 21 (.t 3) 4 true,I.ld 22 (.t 4) 9 true,I.build 23 [(.s []),(.i .i64 0),(.i .i64 0),(.i .i64 0),(.i .i64 0),(.i .i64 0),(.i .i64 0),(.sl 1 true []),(.sl 5 true []),(.sl 1 true []),(.sl 2 true []),(.b false),(.i .i64 0)] [(0,4,(.t 21)),(4,9,(.t 22))],I.mkf 24 z_180 [(.t 23)] [],I.mv 9 (.t 24)])
 ((.seq (.reg [I.mv 25 (.t 9),I.fa 26 (.t 5) 4 1,I.ld 27 (.t 26) 1 false,I.callv (some 28) (.t 25) [(.t 27)],I.st (.t 4) (.t 28) 9 false])
 ((.seq (.reg [I.build 29 zPP [],I.new 10 zPP,I.st (.t 10) (.t 29) 13 false])
 ((.seq ((.seq (.reg [I.ld 30 (.t 4) 9 true,I.callk (some 31) z_181 [(.t 30)]])
 (.blk 0 (.rng (.t 31) [4,10] [32,33] F_z_94_A0 F_z_94_B0))))
 ((.seq (.blk 2 ((.seq (.reg [I.fa 60 (.t 5) 1 1,I.ld 61 (.t 60) 1 false,I.bin 62 .eql (.t 61) (kII 75),I.mv 59 (.t 62)])
 (.ite (.t 59)
 (.reg [I.fa 63 (.t 10) 11 1,I.st (.t 63) kTT 1 false])
 ((.seq (.reg [I.fa 65 (.t 4) 4 1,I.ld 66 (.t 65) 1 false,I.len 67 (.t 66) .sl,I.bin 68 .eql (.t 67) k0,I.mv 69 (.t 68),.sc false 75 69 [I.fa 70 (.t 4) 1 1,I.ld 71 (.t 70) 1 false,I.fa 72 (.t 5) 2 1,I.ld 73 (.t 72) 1 false,I.bin 74 .geq (.t 71) (.t 73)] (.t 74),I.mv 64 (.t 75)])
 (.ite (.t 64)
 ((.seq (.reg [I.fa 76 (.t 4) 1 1,I.ld 77 (.t 76) 1 false,I.fa 78 (.t 5) 2 1,I.ld 79 (.t 78) 1 false,I.bin 80 .sub (.t 77) (.t 79),I.fa 81 (.t 4) 1 1,I.st (.t 81) (.t 80) 1 false])
 (.reg [I.fa 82 (.t 10) 11 1,I.st (.t 82) kTT 1 false])))
 ((.seq (.drw [] [0,1,3,4,5,6,7,8,9,10,11,12,2,13,14,15] [I.fa 43 (.t 4) 4 1,I.ld 44 (.t 43) 1 false,I.fad 46 (.t 5) 0 1,I.ldd 47 (.t 46) 1 false,I.fad 48 (.t 5) 1 1,I.ldd 49 (.t 48) 1 false,I.fad 50 (.t 5) 2 1,I.ldd 51 (.t 50) 1 false,I.fad 52 (.t 5) 3 1,I.ldd 53 (.t 52) 1 false,I.build 54 zQ [(0,1,(.t 47)),(1,1,(.t 49)),(2,1,(.t 51)),(3,1,(.t 53)),(4,1,(.k (.i .i64 (-1))))],I.buildSl 55 5 1 zQ [(0,(.t 54))] true,I.callk (some 45) z_153 [(.t 44)],I.app 56 (.t 45) (.t 55) 5,I.fa 57 (.t 4) 4 1,I.st (.t 57) (.t 56) 1 false])
 (.reg [I.fa 58 (.t 10) 9 1,I.st (.t 58) kTT 1 false]))))))))))
 ((.seq (.reg [I.ld 83 (.t 4) 9 true,I.fa 84 (.t 10) 0 9,I.st (.t 84) (.t 83) 9 false])
 ((.seq (.reg [I.ld 85 (.t 10) 13 true,I.st (.t 6) (.t 85) 13 false,I.mv 7 k0])
 (.ret)))))))))))))))))))
 [.c 6 13 true,.t 7] false none
def F_z_95:F:=.mk
 ((.seq (.reg [I.box 3 (.t 0) 4 true,I.box 4 (.t 1) 9 false,I.new 6 zPP,I.mv 7 k0])
 ((.seq ((.seq (.reg [I.ld 9 (.t 3) 4 true,I.ld 10 (.t 4) 9 true,I.call (some 11) z_93 [(.t 9),(.t 10)],I.mv 8 (.t 11)])
 ((.seq (.reg [I.mv 12 (.t 8),I.bin 13 .neq (.t 12) k0])
 (.ite (.t 13)
 ((.seq (.reg [I.build 14 zPP [],I.mv 15 (.t 8),I.st (.t 6) (.t 14) 13 false,I.mv 7 (.t 15)])
 (.ret)))
 (.skip))))))
 ((.seq ((.seq (.reg [I.ld 16 (.t 4) 9 true,I.mv 17 (.t 2),I.call (some 18) z_182 [(.t 16),(.t 17)],I.un 19 .not (.t 18)])
 (.ite (.t 19)
 ((.seq (.reg [I.build 20 zPP [],I.st (.t 6) (.t 20) 13 false,I.mv 7 (kII 7)])
 (.ret)))
 (.skip))))
 ((.seq (.reg [I.fa 21 (.t 4) 4 1,I.ld 22 (.t 21) 1 false,I.mv 23 (.t 2),I.call (some 24) z_129 [(.t 22),(.t 23)],I.fa 25 (.t 4) 4 1,I.st (.t 25) (.t 24) 1 false])
 ((.seq (.reg [I.ld 26 (.t 4) 9 true,I.build 27 zPP [(0,9,(.t 26))],I.st (.t 6) (.t 27) 13 false,I.mv 7 k0])
 (.ret)))))))))))
 [.c 6 13 true,.t 7] false none
def F_z_96:F:=.mk
 ((.seq (.reg [I.box 3 (.t 0) 4 true,I.box 4 (.t 1) 9 true,I.box 5 (.t 2) 5 true,I.mv 6 kFF])
 ((.seq (.reg [I.ld 10 (.t 3) 4 true,I.ld 11 (.t 4) 9 true,I.ld 12 (.t 5) 5 true,I.call (some 13) z_94 [(.t 10),(.t 11),(.t 12)],I.mv 9 (.t 13),I.ext 14 (.t 9) 0,I.ext 15 (.t 9) 1,I.new 7 zPP,I.st (.t 7) (.t 14) 13 true,I.mv 8 (.t 15)])
 ((.seq (.reg [I.mv 16 (.t 8),I.bin 17 .eql (.t 16) k0,I.mv 18 (.t 17),.sc false 22 18 [I.fa 19 (.t 7) 9 1,I.ld 20 (.t 19) 1 false,I.un 21 .not (.t 20)] (.t 21),I.mv 6 (.t 22)])
 (.ret)))))))
 [.t 6] false none
def F_z_97:F:=.mk
 ((.seq (.reg [I.box 1 (.t 0) 4 true,I.new 2 zR,I.mv 3 k0])
 ((.seq ((.seq (.reg [I.fa 4 (.t 1) 1 1,I.ld 5 (.t 4) 1 false,I.bin 6 .neq (.t 5) (kII 9)])
 (.ite (.t 6)
 ((.seq (.reg [I.build 7 zR [],I.st (.t 2) (.t 7) 9 false,I.mv 3 (kII 8)])
 (.ret)))
 (.skip))))
 ((.seq ((.seq (.reg [I.fa 8 (.t 1) 2 1,I.ld 9 (.t 8) 1 false,I.bin 10 .neq (.t 9) k0,I.mv 11 (.t 10),.sc true 15 11 [I.fa 12 (.t 1) 3 1,I.ld 13 (.t 12) 1 false,I.bin 14 .neq (.t 13) k0] (.t 14)])
 (.ite (.t 15)
 ((.seq (.reg [I.build 16 zR [],I.st (.t 2) (.t 16) 9 false,I.mv 3 (kII 2)])
 (.ret)))
 (.skip))))
 ((.seq (.reg [I.build 17 zR [(0,1,(.k (.i .i64 (-1))))],I.st (.t 2) (.t 17) 9 false,I.mv 3 k0])
 (.ret)))))))))
 [.c 2 9 true,.t 3] false none
def F_z_98:F:=.mk
 ((.seq (.reg [I.box 2 (.t 0) 4 true,I.box 3 (.t 1) 9 true,I.mv 4 k0])
 ((.seq ((.seq (.reg [I.ld 8 (.t 2) 4 true,I.call (some 9) z_97 [(.t 8)],I.mv 7 (.t 9),I.ext 10 (.t 7) 0,I.ext 11 (.t 7) 1,I.new 5 zR,I.st (.t 5) (.t 10) 9 true,I.mv 6 (.t 11)])
 ((.seq (.reg [I.mv 12 (.t 6),I.bin 13 .neq (.t 12) k0])
 (.ite (.t 13)
 ((.seq (.reg [I.mv 14 (.t 6),I.mv 4 (.t 14)])
 (.ret)))
 (.skip))))))
 ((.seq ((.seq (.reg [I.ld 15 (.t 3) 9 true,I.build 16 zR [(0,9,(.t 15))],I.call (some 17) z_183 [(.t 16)],I.un 18 .not (.t 17)])
 (.ite (.t 18)
 ((.seq (.reg [I.mv 4 (kII 1)])
 (.ret)))
 (.skip))))
 ((.seq (.reg [I.mv 4 k0])
 (.ret)))))))))
 [.t 4] false none
def F_z_99:F:=.mk
 ((.seq (.reg [I.box 3 (.t 0) 4 true,I.box 4 (.t 1) 9 true,I.box 5 (.t 2) 5 true,I.new 6 zPP,I.mv 7 k0])
 ((.seq ((.seq (.reg [I.ld 10 (.t 3) 4 true,I.ld 11 (.t 4) 9 true,I.call (some 12) z_98 [(.t 10),(.t 11)],I.bin 13 .neq (.t 12) k0])
 (.ite (.t 13)
 ((.seq (.reg [I.build 14 zPP [],I.st (.t 6) (.t 14) 13 false,I.mv 7 (kII 1)])
 (.ret)))
 (.skip))))
 ((.seq ((.seq (.reg [I.fa 15 (.t 5) 0 1,I.ld 16 (.t 15) 1 false,I.bin 17 .lss (.t 16) k0,I.mv 18 (.t 17),.sc true 22 18 [I.fa 19 (.t 5) 0 1,I.ld 20 (.t 19) 1 false,I.bin 21 .geq (.t 20) (kII 16)] (.t 21),I.mv 23 (.t 22),.sc true 27 23 [I.fa 24 (.t 5) 3 1,I.ld 25 (.t 24) 1 false,I.bin 26 .lss (.t 25) k0] (.t 26),I.mv 28 (.t 27),.sc true 32 28 [I.fa 29 (.t 5) 3 1,I.ld 30 (.t 29) 1 false,I.bin 31 .gtr (.t 30) (kII 9)] (.t 31),I.mv 33 (.t 32),.sc true 37 33 [I.fa 34 (.t 5) 4 1,I.ld 35 (.t 34) 1 false,I.bin 36 .lss (.t 35) k0] (.t 36),I.mv 38 (.t 37),.sc true 42 38 [I.fa 39 (.t 5) 4 1,I.ld 40 (.t 39) 1 false,I.bin 41 .gtr (.t 40) (kII 1099511627776)] (.t 41)])
 (.ite (.t 42)
 ((.seq (.reg [I.build 43 zPP [],I.st (.t 6) (.t 43) 13 false,I.mv 7 (kII 2)])
 (.ret)))
 (.skip))))
 ((.seq (.seq (.drw [] [0,1,2,3,4,5,6,7] [I.ldd 44 (.t 4) 9 true,I.build 45 zR [(0,9,(.t 44))],I.fad 46 (.t 5) 1 1,I.ldd 47 (.t 46) 1 false,I.bin 48 .eql (.t 47) (kII 73),I.new 8 zR,I.st (.t 8) (.t 45) 9 false,I.mv 9 (.t 48)])
 (.frz [8]))
 ((.seq (.blk 0 ((.seq (.reg [I.mv 50 (.t 9),I.un 51 .not (.t 50),I.mv 52 (.t 51),.sc false 56 52 [I.fa 53 (.t 5) 1 1,I.ld 54 (.t 53) 1 false,I.bin 55 .neq (.t 54) (kII 74)] (.t 55),I.mv 49 (.t 56)])
 (.ite (.t 49)
 ((.seq (.reg [I.build 57 zPP [],I.st (.t 6) (.t 57) 13 false,I.mv 7 (kII 8)])
 (.ret)))
 ((.seq (.reg [I.mv 59 (.t 9),I.mv 60 (.t 59),.sc false 65 60 [I.fa 61 (.t 5) 2 1,I.ld 62 (.t 61) 1 false,I.call (some 63) z_184 [(.t 62)],I.un 64 .not (.t 63)] (.t 64),I.mv 58 (.t 65)])
 (.ite (.t 58)
 ((.seq (.reg [I.build 66 zPP [],I.st (.t 6) (.t 66) 13 false,I.mv 7 (kII 2)])
 (.ret)))
 ((.seq (.reg [I.ld 68 (.t 8) 9 true,I.fa 69 (.t 5) 0 1,I.ld 70 (.t 69) 1 false,I.call (some 71) z_185 [(.t 68),(.t 70)],I.mv 72 (.t 71),.sc true 79 72 [I.mv 73 (.t 9),I.mv 74 (.t 73),.sc false 78 74 [I.fa 75 (.t 8) 0 9,I.fa 76 (.t 75) 7 1,I.ld 77 (.t 76) 1 false] (.t 77)] (.t 78),I.mv 67 (.t 79)])
 (.ite (.t 67)
 ((.seq (.reg [I.build 80 zPP [],I.st (.t 6) (.t 80) 13 false,I.mv 7 (kII 17)])
 (.ret)))
 ((.seq (.reg [I.mv 82 (.t 9),I.mv 81 (.t 82)])
 (.ite (.t 81)
 ((.seq (.reg [I.ld 83 (.t 8) 9 true,I.fa 84 (.t 5) 2 1,I.ld 85 (.t 84) 1 false,I.call (some 86) z_186 [(.t 83),(.t 85)],I.st (.t 6) (.t 86) 13 false,I.mv 7 k0])
 (.ret)))
 (.skip))))))))))))))
 ((.seq (.reg [I.ld 87 (.t 8) 9 true,I.ld 88 (.t 5) 5 true,I.call (some 89) z_187 [(.t 87),(.t 88)],I.st (.t 6) (.t 89) 13 false,I.mv 7 k0])
 (.ret)))))))))))))
 [.c 6 13 true,.t 7] false none
def F_z_100:F:=.mk
 ((.seq (.reg [I.box 3 (.t 0) 4 true,I.box 4 (.t 1) 9 false,I.new 6 zPP,I.mv 7 k0])
 ((.seq ((.seq (.reg [I.ld 8 (.t 3) 4 true,I.ld 9 (.t 4) 9 true,I.call (some 10) z_98 [(.t 8),(.t 9)],I.bin 11 .neq (.t 10) k0])
 (.ite (.t 11)
 ((.seq (.reg [I.build 12 zPP [],I.st (.t 6) (.t 12) 13 false,I.mv 7 (kII 1)])
 (.ret)))
 (.skip))))
 ((.seq ((.seq (.reg [I.ld 13 (.t 4) 9 true,I.build 14 zR [(0,9,(.t 13))],I.mv 15 (.t 2),I.call (some 16) z_185 [(.t 14),(.t 15)],I.un 17 .not (.t 16)])
 (.ite (.t 17)
 ((.seq (.reg [I.build 18 zPP [],I.st (.t 6) (.t 18) 13 false,I.mv 7 (kII 7)])
 (.ret)))
 (.skip))))
 ((.seq (.reg [I.fa 19 (.t 4) 4 1,I.ld 20 (.t 19) 1 false,I.mv 21 (.t 2),I.call (some 22) z_129 [(.t 20),(.t 21)],I.fa 23 (.t 4) 4 1,I.st (.t 23) (.t 22) 1 false])
 ((.seq (.reg [I.ld 24 (.t 4) 9 true,I.build 25 zPP [(0,9,(.t 24))],I.st (.t 6) (.t 25) 13 false,I.mv 7 k0])
 (.ret)))))))))))
 [.c 6 13 true,.t 7] false none
def F_z_101:F:=.mk
 ((.seq (.reg [I.box 3 (.t 0) 4 true,I.box 4 (.t 1) 9 true,I.box 5 (.t 2) 5 true,I.mv 6 kFF])
 ((.seq (.reg [I.ld 10 (.t 3) 4 true,I.ld 11 (.t 4) 9 true,I.ld 12 (.t 5) 5 true,I.call (some 13) z_99 [(.t 10),(.t 11),(.t 12)],I.mv 9 (.t 13),I.ext 14 (.t 9) 0,I.ext 15 (.t 9) 1,I.new 7 zPP,I.st (.t 7) (.t 14) 13 true,I.mv 8 (.t 15)])
 ((.seq (.reg [I.mv 16 (.t 8),I.bin 17 .eql (.t 16) k0,I.mv 18 (.t 17),.sc false 22 18 [I.fa 19 (.t 7) 9 1,I.ld 20 (.t 19) 1 false,I.un 21 .not (.t 20)] (.t 21),I.mv 6 (.t 22)])
 (.ret)))))))
 [.t 6] false none
def F_z_102_L0:C :=
 (.seq (.reg [I.bin 9 .lss (.t 8) (.t 7)])
 ((.seq (.ite (.t 9)
 (.skip)
 (.seq (.keep []) (.exit 0)))
 ((.seq (.blk 1 ((.seq (.reg [I.mv 10 (.t 8),I.mv 5 (.t 10)])
 ((.seq (.reg [I.mv 11 (.t 1),I.mv 12 (.t 0),I.mv 13 (.t 5),I.ixs 14 (.t 12) (.t 13) 2,I.ld 15 (.t 14) 2 true,I.callv (some 16) (.t 11) [(.t 15)]])
 (.ite (.t 16)
 ((.seq (.reg [I.mv 17 (.t 5),I.mv 4 (.t 17)])
 (.seq (.keep [4]) .ret)))
 (.skip)))))))
 (.reg [I.bin 18 .add (.t 8) (kII 1),I.mv 8 (.t 18)]))))))
def F_z_102:F:=.mk
 ((.seq (.reg [I.mv 4 k0])
 ((.seq ((.seq (.reg [I.mv 6 (.t 0),I.len 7 (.t 6) .sl,I.mv 8 k0])
 (.blk 0 (.loop [0,1,7,8] F_z_102_L0))))
 ((.seq (.reg [I.mv 4 (.k (.i .i64 (-1)))])
 (.ret)))))))
 [.t 4] false none
def F_z_123_L0:C :=
 (.seq (.reg [I.bin 9 .lss (.t 8) (.t 7)])
 ((.seq (.ite (.t 9)
 (.skip)
 (.seq (.keep []) (.exit 0)))
 ((.seq (.blk 1 ((.seq (.reg [I.mv 10 (.t 8),I.mv 5 (.t 10)])
 ((.seq (.reg [I.mv 11 (.t 1),I.mv 12 (.t 0),I.mv 13 (.t 5),I.ixs 14 (.t 12) (.t 13) 5,I.ld 15 (.t 14) 5 true,I.callv (some 16) (.t 11) [(.t 15)]])
 (.ite (.t 16)
 ((.seq (.reg [I.mv 17 (.t 5),I.mv 4 (.t 17)])
 (.seq (.keep [4]) .ret)))
 (.skip)))))))
 (.reg [I.bin 18 .add (.t 8) (kII 1),I.mv 8 (.t 18)]))))))
def F_z_123:F:=.mk
 ((.seq (.reg [I.mv 4 k0])
 ((.seq ((.seq (.reg [I.mv 6 (.t 0),I.len 7 (.t 6) .sl,I.mv 8 k0])
 (.blk 0 (.loop [0,1,7,8] F_z_123_L0))))
 ((.seq (.reg [I.mv 4 (.k (.i .i64 (-1)))])
 (.ret)))))))
 [.t 4] false none
def F_z_125_L0:C :=
 (.seq (.reg [I.bin 64 .lss (.t 63) (.t 62)])
 ((.seq (.ite (.t 64)
 (.skip)
 (.seq (.keep []) (.exit 0)))
 ((.seq (.blk 1 ((.seq (.reg [I.mv 65 (.t 63),I.ixs 66 (.t 61) (.t 63) 5,I.ld 67 (.t 66) 5 true,I.new 4 zQ,I.mv 3 (.t 65),I.st (.t 4) (.t 67) 5 true])
 ((.seq ((.seq (.reg [I.fa 68 (.t 4) 1 1,I.ld 69 (.t 68) 1 false,I.bin 70 .neq (.t 69) (kII 50),I.mv 71 (.t 70),.sc true 75 71 [I.fa 72 (.t 4) 2 1,I.ld 73 (.t 72) 1 false,I.bin 74 .neq (.t 73) k0] (.t 74),I.mv 76 (.t 75),.sc true 80 76 [I.fa 77 (.t 4) 4 1,I.ld 78 (.t 77) 1 false,I.bin 79 .neq (.t 78) (.k (.i .i64 (-1)))] (.t 79),I.mv 81 (.t 80),.sc true 87 81 [I.fa 82 (.t 4) 0 1,I.ld 83 (.t 82) 1 false,I.fa 84 (.t 1) 0 1,I.ld 85 (.t 84) 1 false,I.bin 86 .eql (.t 83) (.t 85)] (.t 86)])
 (.ite (.t 87)
 ((.seq (.reg [I.mv 2 kFF])
 (.seq (.keep [2]) .ret)))
 (.skip))))
 ((.seq (.reg [I.fa 88 (.t 1) 4 1,I.ld 89 (.t 88) 1 false,I.mv 90 (.t 3),I.sl 91 (.t 89) none (some (.t 90)) 5,I.mkf 92 z_206 [] [(.t 4)],I.call (some 93) z_57 [(.t 91),(.t 92)]])
 (.ite (.t 93)
 ((.seq (.reg [I.mv 2 kFF])
 (.seq (.keep [2]) .ret)))
 (.skip)))))))))
 (.reg [I.bin 94 .add (.t 63) (kII 1),I.mv 63 (.t 94)]))))))
def F_z_125:F:=.mk
 ((.seq (.reg [I.box 1 (.t 0) 9 true,I.mv 2 kFF])
 ((.seq ((.seq (.reg [I.fa 5 (.t 1) 0 1,I.ld 6 (.t 5) 1 false,I.bin 7 .neq (.t 6) (.k (.i .i64 (-1))),I.mv 8 (.t 7),.sc false 13 8 [I.fa 9 (.t 1) 0 1,I.ld 10 (.t 9) 1 false,I.call (some 11) z_127 [(.t 10)],I.un 12 .not (.t 11)] (.t 12),I.mv 14 (.t 13),.sc true 24 14 [I.fa 15 (.t 1) 0 1,I.ld 16 (.t 15) 1 false,I.bin 17 .eql (.t 16) (.k (.i .i64 (-1))),I.mv 18 (.t 17),.sc false 23 18 [I.fa 19 (.t 1) 4 1,I.ld 20 (.t 19) 1 false,I.len 21 (.t 20) .sl,I.bin 22 .gtr (.t 21) k0] (.t 22)] (.t 23)])
 (.ite (.t 24)
 ((.seq (.reg [I.mv 2 kFF])
 (.ret)))
 (.skip))))
 ((.seq ((.seq (.reg [I.fa 25 (.t 1) 1 1,I.ld 26 (.t 25) 1 false,I.bin 27 .neq (.t 26) k0,I.mv 28 (.t 27),.sc true 32 28 [I.fa 29 (.t 1) 2 1,I.ld 30 (.t 29) 1 false,I.bin 31 .neq (.t 30) k0] (.t 31),I.mv 33 (.t 32),.sc true 37 33 [I.fa 34 (.t 1) 8 1,I.ld 35 (.t 34) 1 false,I.bin 36 .neq (.t 35) k0] (.t 36),I.mv 38 (.t 37),.sc true 41 38 [I.fa 39 (.t 1) 7 1,I.ld 40 (.t 39) 1 false] (.t 40),I.mv 42 (.t 41),.sc true 55 42 [I.fa 43 (.t 1) 3 1,I.ld 44 (.t 43) 1 false,I.len 45 (.t 44) .sl,I.fa 46 (.t 1) 5 1,I.ld 47 (.t 46) 1 false,I.len 48 (.t 47) .sl,I.bin 49 .add (.t 45) (.t 48),I.fa 50 (.t 1) 6 1,I.ld 51 (.t 50) 1 false,I.len 52 (.t 51) .sl,I.bin 53 .add (.t 49) (.t 52),I.bin 54 .gtr (.t 53) k0] (.t 54)])
 (.ite (.t 55)
 ((.seq (.reg [I.mv 2 kFF])
 (.ret)))
 (.skip))))
 ((.seq ((.seq (.reg [I.fa 56 (.t 1) 4 1,I.ld 57 (.t 56) 1 false,I.call (some 58) z_142 [(kII 2),(.t 57)],I.bin 59 .neq (.t 58) k0])
 (.ite (.t 59)
 ((.seq (.reg [I.mv 2 kFF])
 (.ret)))
 (.skip))))
 ((.seq ((.seq (.reg [I.fa 60 (.t 1) 4 1,I.ld 61 (.t 60) 1 false,I.len 62 (.t 61) .sl,I.mv 63 k0])
 (.blk 0 (.loop [1,61,62,63] F_z_125_L0))))
 ((.seq (.reg [I.mv 2 kTT])
 (.ret)))))))))))))
 [.t 2] false none
def F_z_126:F:=.mk
 ((.seq (.reg [I.mv 0 (.k .nilmap)])
 ((.seq (.reg [I.mkm 1,I.mput (.t 1) (kII 50) (.k (.fn z_207 [] [])) [.i],I.mput (.t 1) (kII 51) (.k (.fn z_208 [] [])) [.i],I.mput (.t 1) (kII 52) (.k (.fn z_209 [] [])) [.i],I.mv 2 (.t 1),I.mv 0 (.t 2)])
 (.ret)))))
 [.t 0] true none
def F_z_127:F:=.mk
 ((.seq (.reg [I.mv 2 kFF])
 ((.seq (.reg [I.mv 3 (.t 0),I.bin 4 .geq (.t 3) k0,I.mv 5 (.t 4),.sc false 8 5 [I.mv 6 (.t 0),I.bin 7 .lss (.t 6) (kII 16)] (.t 7),I.mv 2 (.t 8)])
 (.ret)))))
 [.t 2] false none
def F_z_128:F:=.mk
 ((.seq (.reg [I.box 2 (.t 0) 9 true,I.box 3 (.t 1) 1 true,I.mv 4 kFF])
 ((.seq (.reg [I.fa 5 (.t 2) 4 1,I.ld 6 (.t 5) 1 false,I.mkf 7 z_210 [] [(.t 3)],I.call (some 8) z_57 [(.t 6),(.t 7)],I.mv 4 (.t 8)])
 (.ret)))))
 [.t 4] false none
def F_z_129:F:=.mk
 ((.seq (.reg [I.box 3 (.t 1) 1 true,I.mv 4 (.k (.sl 5 true []))])
 ((.seq (.reg [I.mv 5 (.t 0),I.mkf 6 z_212 [] [(.t 3)],I.call (some 7) z_211 [(.t 5),(.t 6)],I.mv 4 (.t 7)])
 (.ret)))))
 [.t 4] false none
def F_z_129q:F:=.mk
 ((.seq (.reg [I.box 3 (.t 1) 1 true,I.mv 4 (.k (.sl 5 true []))])
 ((.seq (.reg [I.mv 5 (.t 0),I.mkf 6 z_212 [] [(.t 3)],I.callr (some 7) z_211q [(.t 5),(.t 6)],I.mv 4 (.t 7)])
 (.ret)))))
 [.t 4] true none
def F_z_130_L0:C :=
 (.seq (.reg [I.bin 55 .lss (.t 54) (.t 53)])
 ((.seq (.ite (.t 55)
 (.skip)
 (.seq (.keep [1]) (.exit 0)))
 ((.seq (.blk 1 ((.seq (.reg [I.mv 56 (.t 54),I.ixs 57 (.t 52) (.t 54) 1,I.ld 58 (.t 57) 1 false,I.mv 3 (.t 56),I.mv 4 (.t 58)])
 ((.seq (.reg [I.mv 59 (.t 4),I.call (some 60) z_131 [(.t 59)],I.un 61 .not (.t 60),I.mv 62 (.t 61),.sc true 75 62 [I.mv 63 (.t 3),I.bin 64 .gtr (.t 63) k0,I.mv 65 (.t 64),.sc false 74 65 [I.fa 66 (.t 1) 3 1,I.ld 67 (.t 66) 1 false,I.mv 68 (.t 3),I.bin 69 .sub (.t 68) (kII 1),I.ixs 70 (.t 67) (.t 69) 1,I.ld 71 (.t 70) 1 false,I.mv 72 (.t 4),I.bin 73 .geq (.t 71) (.t 72)] (.t 73)] (.t 74)])
 (.ite (.t 75)
 ((.seq (.reg [I.mv 2 kFF])
 (.seq (.keep [2]) .ret)))
 (.skip)))))))
 (.reg [I.bin 76 .add (.t 54) (kII 1),I.mv 54 (.t 76)]))))))
def F_z_130:F:=.mk
 ((.seq (.reg [I.box 1 (.t 0) 9 true,I.mv 2 kFF])
 ((.seq ((.seq (.reg [I.fa 5 (.t 1) 0 1,I.ld 6 (.t 5) 1 false,I.bin 7 .neq (.t 6) (.k (.i .i64 (-1))),I.mv 8 (.t 7),.sc false 19 8 [I.fa 9 (.t 1) 0 1,I.ld 10 (.t 9) 1 false,I.call (some 11) z_131 [(.t 10)],I.un 12 .not (.t 11),I.mv 13 (.t 12),.sc true 18 13 [I.fa 14 (.t 1) 3 1,I.ld 15 (.t 14) 1 false,I.len 16 (.t 15) .sl,I.bin 17 .gtr (.t 16) k0] (.t 17)] (.t 18),I.mv 20 (.t 19),.sc true 24 20 [I.fa 21 (.t 1) 1 1,I.ld 22 (.t 21) 1 false,I.bin 23 .neq (.t 22) k0] (.t 23),I.mv 25 (.t 24),.sc true 29 25 [I.fa 26 (.t 1) 2 1,I.ld 27 (.t 26) 1 false,I.bin 28 .neq (.t 27) k0] (.t 28),I.mv 30 (.t 29),.sc true 35 30 [I.fa 31 (.t 1) 5 1,I.ld 32 (.t 31) 1 false,I.len 33 (.t 32) .sl,I.bin 34 .gtr (.t 33) k0] (.t 34),I.mv 36 (.t 35),.sc true 41 36 [I.fa 37 (.t 1) 6 1,I.ld 38 (.t 37) 1 false,I.len 39 (.t 38) .sl,I.bin 40 .gtr (.t 39) k0] (.t 40),I.mv 42 (.t 41),.sc true 45 42 [I.fa 43 (.t 1) 7 1,I.ld 44 (.t 43) 1 false] (.t 44),I.mv 46 (.t 45),.sc true 50 46 [I.fa 47 (.t 1) 8 1,I.ld 48 (.t 47) 1 false,I.bin 49 .neq (.t 48) k0] (.t 49)])
 (.ite (.t 50)
 ((.seq (.reg [I.mv 2 kFF])
 (.ret)))
 (.skip))))
 ((.seq ((.seq (.reg [I.fa 51 (.t 1) 3 1,I.ld 52 (.t 51) 1 false,I.len 53 (.t 52) .sl,I.mv 54 k0])
 (.blk 0 (.loop [1,52,53,54] F_z_130_L0))))
 ((.seq (.reg [I.ld 77 (.t 1) 9 true,I.call (some 78) z_213 [(.t 77)],I.mv 2 (.t 78)])
 (.ret)))))))))
 [.t 2] false none
def F_z_131:F:=.mk
 ((.seq (.reg [I.mv 2 kFF])
 ((.seq (.reg [I.mv 3 (.t 0),I.bin 4 .geq (.t 3) k0,I.mv 5 (.t 4),.sc false 8 5 [I.mv 6 (.t 0),I.bin 7 .lss (.t 6) (kII 16)] (.t 7),I.mv 2 (.t 8)])
 (.ret)))))
 [.t 2] false none
def F_z_132_L0:C :=
 (.seq (.reg [I.bin 11 .lss (.t 10) (.t 9)])
 ((.seq (.ite (.t 11)
 (.skip)
 (.seq (.keep []) (.exit 0)))
 ((.seq (.blk 1 ((.seq (.reg [I.mv 12 (.t 10),I.ixs 13 (.t 8) (.t 10) 5,I.ld 14 (.t 13) 5 true,I.new 7 zQ,I.mv 6 (.t 12),I.st (.t 7) (.t 14) 5 true])
 ((.seq (.reg [I.fa 15 (.t 7) 0 1,I.ld 16 (.t 15) 1 false,I.mv 17 (.t 1),I.bin 18 .eql (.t 16) (.t 17)])
 (.ite (.t 18)
 ((.seq (.reg [I.mv 19 (.t 6),I.mv 4 (.t 19),I.mv 5 kTT])
 (.seq (.keep [4,5]) .ret)))
 (.skip)))))))
 (.reg [I.bin 20 .add (.t 10) (kII 1),I.mv 10 (.t 20)]))))))
def F_z_132:F:=.mk
 ((.seq (.reg [I.mv 4 k0,I.mv 5 kFF])
 ((.seq ((.seq (.reg [I.mv 8 (.t 0),I.len 9 (.t 8) .sl,I.mv 10 k0])
 (.blk 0 (.loop [1,8,9,10] F_z_132_L0))))
 ((.seq (.reg [I.mv 4 k0,I.mv 5 kFF])
 (.ret)))))))
 [.t 4,.t 5] false none
def F_z_133:F:=.mk
 ((.seq (.reg [I.box 1 (.t 0) 9 false,I.mv 2 (.k .nil)])
 ((.seq (.drw [] [0,1,3,4,2,6,5,7,8,9] [I.fa 3 (.t 1) 3 1,I.ld 4 (.t 3) 1 false,I.fa 6 (.t 1) 4 1,I.ld 7 (.t 6) 1 false,I.callk (some 5) z_214 [(.t 4)],.re (.fa 6 (.t 1) 4 1),.re (.ld 7 (.t 6) 1 false),I.fa 9 (.t 1) 3 1,I.callk (some 8) z_153 [(.t 7)],.re (.fa 9 (.t 1) 3 1),I.st (.t 9) (.t 5) 1 false,I.fa 10 (.t 1) 4 1,I.st (.t 10) (.t 8) 1 false])
 ((.seq (.reg [I.ld 11 (.t 1) 9 true,I.build 12 [(.i .i64 0),(.i .i64 0),(.i .i64 0),(.sl 1 true []),(.sl 5 true []),(.sl 1 true []),(.sl 2 true []),(.b false),(.i .i64 0),(.sl 5 true [])] [(0,9,(.t 11))],I.box 13 (.t 12) 10 false,I.mv 2 (.t 13)])
 (.ret)))))))
 [.t 2] true none
def F_z_134:F:=.mk
 ((.seq (.reg [I.box 2 (.t 0) 9 true,I.mv 4 k0])
 ((.seq (.blk 0 ((.seq (.reg [I.mv 6 (.t 1),I.bin 7 .geq (.t 6) k0,I.mv 8 (.t 7),.sc false 13 8 [I.mv 9 (.t 1),I.fa 10 (.t 2) 0 1,I.ld 11 (.t 10) 1 false,I.bin 12 .eql (.t 9) (.t 11)] (.t 12),I.mv 5 (.t 13)])
 (.ite (.t 5)
 ((.seq (.reg [I.mv 4 (kII 2)])
 (.ret)))
 ((.seq (.reg [I.fa 15 (.t 2) 3 1,I.ld 16 (.t 15) 1 false,I.mv 17 (.t 1),I.call (some 18) z_215 [(.t 16),(.t 17)],I.mv 14 (.t 18)])
 (.ite (.t 14)
 ((.seq (.reg [I.mv 4 (kII 1)])
 (.ret)))
 (.skip))))))))
 ((.seq (.reg [I.mv 4 k0])
 (.ret)))))))
 [.t 4] false none
def F_z_135:F:=.mk
 ((.seq (.reg [I.mv 2 kFF])
 ((.seq (.reg [I.mv 3 (.t 0),I.callr (some 4) z_136 [(.t 3)],I.un 5 .not (.t 4),I.mv 6 (.t 5),.sc false 14 6 [I.mv 7 (.t 0),I.nck 8 (.t 7),I.fa 9 (.t 8) 0 9,I.fa 10 (.t 9) 3 1,I.ld 11 (.t 10) 1 false,I.len 12 (.t 11) .sl,I.bin 13 .eql (.t 12) k0] (.t 13),I.mv 2 (.t 14)])
 (.ret)))))
 [.t 2] true none
def F_z_136:F:=.mk
 ((.seq (.reg [I.mv 2 kFF])
 ((.seq (.reg [I.mv 3 (.t 0),I.nck 4 (.t 3),I.fa 5 (.t 4) 0 9,I.fa 6 (.t 5) 0 1,I.ld 7 (.t 6) 1 false,I.bin 8 .neq (.t 7) (.k (.i .i64 (-1))),I.mv 2 (.t 8)])
 (.ret)))))
 [.t 2] true none
def F_z_137:F:=.mk
 ((.seq (.reg [I.box 4 (.t 1) 5 true,I.new 6 zPP])
 ((.seq ((.seq (.reg [I.mv 7 (.t 2)])
 (.ite (.t 7)
 ((.seq (.reg [I.mv 8 (.t 0),I.fa 9 (.t 4) 0 1,I.ld 10 (.t 9) 1 false,I.fa 11 (.t 4) 1 1,I.ld 12 (.t 11) 1 false,I.callr (some 13) z_216 [(.t 8),(.t 10),(.t 12)]])
 ((.seq (.reg [I.mv 14 (.t 0),I.callr (some 15) z_141 [(.t 14)],I.st (.t 6) (.t 15) 13 false])
 (.ret)))))
 (.skip))))
 ((.seq (.drw [] [0,1,2,3,4,5,6,7,8,9,10,11,12,13,14,15,16,17,18] [I.mv 16 (.t 0),I.mv 17 (.t 0),I.nck 18 (.t 17),I.fa 19 (.t 18) 0 9,I.fa 20 (.t 19) 4 1,I.ld 21 (.t 20) 1 false,I.fad 22 (.t 4) 0 1,I.ldd 23 (.t 22) 1 false,I.fad 24 (.t 4) 1 1,I.ldd 25 (.t 24) 1 false,I.fad 26 (.t 4) 3 1,I.ldd 27 (.t 26) 1 false,I.build 28 zQ [(0,1,(.t 23)),(1,1,(.t 25)),(3,1,(.t 27)),(4,1,(.k (.i .i64 (-1))))],I.buildSl 29 5 1 zQ [(0,(.t 28))] true,I.app 30 (.t 21) (.t 29) 5,I.nck 31 (.t 16),I.fa 32 (.t 31) 0 9,I.fa 33 (.t 32) 4 1,I.st (.t 33) (.t 30) 1 false])
 ((.seq (.reg [I.mv 34 (.t 0),I.nck 35 (.t 34),I.fa 36 (.t 35) 0 9,I.ld 37 (.t 36) 9 true,I.build 38 zPP [(0,9,(.t 37)),(9,1,kTT)],I.st (.t 6) (.t 38) 13 false])
 (.ret)))))))))
 [.c 6 13 true] true none
def F_z_138_L0:C :=
 (.seq ((.seq (.reg [I.mv 16 (.t 6),I.mv 17 (.t 0),I.len 18 (.t 17) .sl,I.bin 19 .lss (.t 16) (.t 18)])
 (.ite (.t 19)
 (.skip)
 (.seq (.keep [0,5]) (.exit 0)))))
 ((.seq (.blk 1 ((.seq (.reg [I.mv 22 (.t 0),I.mv 23 (.t 6),I.ixs 24 (.t 22) (.t 23) 1,I.ld 25 (.t 24) 1 false,I.mv 7 (.t 25)])
 ((.seq (.reg [I.mv 26 (.t 1),I.mv 27 (.t 7),I.callv (some 28) (.t 26) [(.t 27)],I.un 29 .not (.t 28)])
 (.ite (.t 29)
 ((.seq (.reg [I.mv 30 (.t 0),I.mv 31 (.t 5),I.mv 32 (.t 7),I.ixs 33 (.t 30) (.t 31) 1,I.st (.t 33) (.t 32) 1 false])
 (.reg [I.mv 34 (.t 5),I.bin 35 .add (.t 34) (kII 1),I.mv 5 (.t 35)])))
 (.skip)))))))
 (.reg [I.mv 20 (.t 6),I.bin 21 .add (.t 20) (kII 1),I.mv 6 (.t 21)]))))
def F_z_138:F:=.mk
 ((.seq (.reg [I.mv 4 (.k (.sl 1 true []))])
 ((.seq (.reg [I.mv 8 (.t 0),I.mv 9 (.t 1),I.callr (some 10) z_217q [(.t 8),(.t 9)],I.mv 5 (.t 10)])
 ((.seq ((.seq (.reg [I.mv 11 (.t 5),I.bin 12 .eql (.t 11) (.k (.i .i64 (-1)))])
 (.ite (.t 12)
 ((.seq (.reg [I.mv 13 (.t 0),I.mv 4 (.t 13)])
 (.ret)))
 (.skip))))
 ((.seq ((.seq (.reg [I.mv 14 (.t 5),I.bin 15 .add (.t 14) (kII 1),I.mv 6 (.t 15)])
 (.blk 0 (.loop [0,1,5,6] F_z_138_L0))))
 ((.seq (.reg [I.mv 36 (.t 0),I.mv 37 (.t 5),I.sl 38 (.t 36) (some (.t 37)) none 1,I.clr none (.t 38) 1 [(.i .i64 0)]])
 ((.seq (.reg [I.mv 39 (.t 0),I.mv 40 (.t 5),I.sl 41 (.t 39) none (some (.t 40)) 1,I.mv 4 (.t 41)])
 (.ret)))))))))))))
 [.t 4] true none
def F_z_139:F:=.mk
 ((.seq (.reg [I.mv 3 kFF])
 ((.seq (.reg [I.mv 4 (.t 0),I.fa 5 (.t 1) 0 1,I.ld 6 (.t 5) 1 false,I.bin 7 .eql (.t 4) (.t 6),I.mv 3 (.t 7)])
 (.ret)))))
 [.t 3] false none
def F_z_140_L0:C :=
 (.seq ((.seq (.reg [I.mv 3 (.t 0),I.nck 4 (.t 3),I.fa 5 (.t 4) 0 9,I.fa 6 (.t 5) 4 1,I.ld 7 (.t 6) 1 false,I.len 8 (.t 7) .sl,I.bin 9 .gtr (.t 8) k0])
 (.ite (.t 9)
 (.skip)
 (.seq (.keep []) (.exit 0)))))
 (.blk 1 ((.seq (.reg [I.mv 10 (.t 0),I.nck 11 (.t 10),I.fa 12 (.t 11) 0 9,I.fa 13 (.t 12) 4 1,I.ld 14 (.t 13) 1 false,I.ixs 15 (.t 14) k0 5,I.ld 16 (.t 15) 5 true,I.new 2 zQ,I.st (.t 2) (.t 16) 5 true])
 ((.seq (.blk 2 ((.seq ((.seq (.reg [I.mv 18 (.t 0),I.callr (some 19) z_136 [(.t 18)],I.mv 17 (.t 19)])
 (.ite (.t 17)
 (.skip)
 (.reg [I.fa 20 (.t 2) 1 1,I.ld 21 (.t 20) 1 false,I.bin 22 .eql (.t 21) (kII 55),I.mv 23 (.t 22),.sc false 27 23 [I.mv 24 (.t 0),I.callr (some 25) z_135 [(.t 24)],I.un 26 .not (.t 25)] (.t 26),I.mv 17 (.t 27)]))))
 (.ite (.t 17)
 (.seq (.keep []) (.exit 0))
 (.skip)))))
 ((.seq (.reg [I.mv 28 (.t 0),I.mv 29 (.t 0),I.nck 30 (.t 29),I.fa 31 (.t 30) 0 9,I.fa 32 (.t 31) 4 1,I.ld 33 (.t 32) 1 false,I.sl 34 (.t 33) (some (kII 1)) none 5,I.nck 35 (.t 28),I.fa 36 (.t 35) 0 9,I.fa 37 (.t 36) 4 1,I.st (.t 37) (.t 34) 1 false])
 ((.seq (.reg [I.mv 38 (.t 0),I.fa 39 (.t 2) 0 1,I.ld 40 (.t 39) 1 false,I.fa 41 (.t 2) 1 1,I.ld 42 (.t 41) 1 false,I.callr (some 43) z_216 [(.t 38),(.t 40),(.t 42)]])
 (.drw [] [0,1,2,3,4,5,6,7,8,9,10,11,12,13,14] [I.mv 44 (.t 0),I.mv 45 (.t 0),I.nck 46 (.t 45),I.fa 47 (.t 46) 9 1,I.ld 48 (.t 47) 1 false,I.fad 49 (.t 2) 0 1,I.ldd 50 (.t 49) 1 false,I.fad 51 (.t 2) 1 1,I.ldd 52 (.t 51) 1 false,I.build 53 zWW [(0,1,(.t 50)),(1,1,(.t 52)),(3,1,kTT),(4,1,(.k (.i .i64 (-1))))],I.buildSl 54 5 1 zWW [(0,(.t 53))] true,I.app 55 (.t 48) (.t 54) 5,I.nck 56 (.t 44),I.fa 57 (.t 56) 9 1,I.st (.t 57) (.t 55) 1 false])))))))))))
def F_z_140:F:=.mk
 ((.seq .skip ((.seq (.skip)
 (.blk 0 (.loop [0] F_z_140_L0))))))
 [] true none
def F_z_141:F:=.mk
 ((.seq (.reg [I.new 2 zPP])
 ((.seq (.drw [] [0,1,2,3,4,5,6,7,8,9] [I.mv 3 (.t 0),I.nck 4 (.t 3),I.fa 5 (.t 4) 0 9,I.ld 6 (.t 5) 9 true,I.mv 7 (.t 0),I.nck 8 (.t 7),I.fa 9 (.t 8) 9 1,I.ld 10 (.t 9) 1 false,I.build 11 zPP [(0,9,(.t 6)),(11,1,kTT),(12,1,(.t 10))],I.st (.t 2) (.t 11) 13 false])
 (.ret)))))
 [.c 2 13 true] true none
def F_z_142_L0:C :=
 (.seq (.reg [I.bin 19 .lss (.t 18) (.t 17)])
 ((.seq (.ite (.t 19)
 (.skip)
 (.seq (.keep []) (.exit 0)))
 ((.seq (.blk 1 ((.seq (.reg [I.mv 20 (.t 18),I.ixs 21 (.t 16) (.t 18) 5,I.ld 22 (.t 21) 5 true,I.new 6 zQ,I.mv 5 (.t 20),I.st (.t 6) (.t 22) 5 true])
 ((.seq ((.seq (.reg [I.ld 23 (.t 6) 5 true,I.call (some 24) z_218 [(.t 23)],I.un 25 .not (.t 24)])
 (.ite (.t 25)
 ((.seq (.reg [I.mv 4 (kII 2)])
 (.seq (.keep [4]) .ret)))
 (.skip))))
 ((.seq (.drw [] [0,1,2,3,4,5,6,7,8,9,10,11,12,13,14,15,16] [I.mv 26 (.t 0),I.bin 27 .eql (.t 26) (kII 2),I.mv 28 (.t 27),.sc false 31 28 [I.mv 29 (.t 5),I.bin 30 .gtr (.t 29) k0] (.t 30),I.mv 32 (.t 31),.sc false 42 32 [I.fad 33 (.t 6) 3 1,I.ldd 34 (.t 33) 1 false,I.mv 35 (.t 1),I.mv 36 (.t 5),I.bin 37 .sub (.t 36) (kII 1),I.ixs 38 (.t 35) (.t 37) 5,I.fa 39 (.t 38) 3 1,I.ld 40 (.t 39) 1 false,I.bin 41 .gtr (.t 34) (.t 40)] (.t 41)])
 (.ite (.t 42)
 ((.seq (.reg [I.mv 4 (kII 9)])
 (.seq (.keep [4]) .ret)))
 (.skip)))))))))
 (.reg [I.bin 43 .add (.t 18) (kII 1),I.mv 18 (.t 43)]))))))
def F_z_142:F:=.mk
 ((.seq (.reg [I.mv 4 k0])
 ((.seq ((.seq (.reg [I.mv 7 (.t 0),I.bin 8 .neq (.t 7) (kII 1),I.mv 9 (.t 8),.sc false 12 9 [I.mv 10 (.t 0),I.bin 11 .neq (.t 10) (kII 2)] (.t 11)])
 (.ite (.t 12)
 ((.seq (.reg [I.mv 4 (kII 8)])
 (.ret)))
 (.skip))))
 ((.seq ((.seq (.reg [I.mv 13 (.t 1),I.len 14 (.t 13) .sl,I.bin 15 .gtr (.t 14) (kII 96)])
 (.ite (.t 15)
 ((.seq (.reg [I.mv 4 (kII 4)])
 (.ret)))
 (.skip))))
 ((.seq ((.seq (.reg [I.mv 16 (.t 1),I.len 17 (.t 16) .sl,I.mv 18 k0])
 (.blk 0 (.loop [0,1,16,17,18] F_z_142_L0))))
 ((.seq (.reg [I.mv 4 k0])
 (.ret)))))))))))
 [.t 4] false none
def F_z_143:F:=.mk
 ((.seq (.reg [I.box 3 (.t 0) 4 true,I.box 4 (.t 1) 9 true,I.mv 6 kFF])
 ((.seq (.reg [I.fa 10 (.t 4) 4 1,I.ld 11 (.t 10) 1 false,I.mv 12 (.t 2),I.ixs 13 (.t 11) (.t 12) 5,I.ld 14 (.t 13) 5 true,I.new 7 zQ,I.st (.t 7) (.t 14) 5 true])
 ((.seq ((.seq (.reg [I.fa 15 (.t 7) 1 1,I.ld 16 (.t 15) 1 false,I.bin 17 .neq (.t 16) (kII 60),I.mv 18 (.t 17),.sc true 22 18 [I.fa 19 (.t 7) 2 1,I.ld 20 (.t 19) 1 false,I.bin 21 .lss (.t 20) (kII 1)] (.t 21),I.mv 23 (.t 22),.sc true 29 23 [I.fa 24 (.t 7) 2 1,I.ld 25 (.t 24) 1 false,I.fa 26 (.t 3) 2 1,I.ld 27 (.t 26) 1 false,I.bin 28 .gtr (.t 25) (.t 27)] (.t 28),I.mv 30 (.t 29),.sc true 34 30 [I.fa 31 (.t 7) 4 1,I.ld 32 (.t 31) 1 false,I.bin 33 .neq (.t 32) (.k (.i .i64 (-1)))] (.t 33)])
 (.ite (.t 34)
 ((.seq (.reg [I.mv 6 kFF])
 (.ret)))
 (.skip))))
 ((.seq ((.seq (.reg [I.fa 36 (.t 4) 4 1,I.ld 37 (.t 36) 1 false,I.fa 38 (.t 7) 0 1,I.ld 39 (.t 38) 1 false,I.call (some 40) z_132 [(.t 37),(.t 39)],I.mv 35 (.t 40),I.ext 41 (.t 35) 0,I.ext 42 (.t 35) 1,I.mv 8 (.t 41),I.mv 9 (.t 42)])
 ((.seq (.reg [I.mv 43 (.t 8),I.mv 44 (.t 2),I.bin 45 .neq (.t 43) (.t 44)])
 (.ite (.t 45)
 ((.seq (.reg [I.mv 6 kFF])
 (.ret)))
 (.skip))))))
 ((.seq (.reg [I.mv 46 (.t 2),I.bin 47 .gtr (.t 46) k0,I.mv 48 (.t 47),.sc false 52 48 [I.fa 49 (.t 3) 3 1,I.ld 50 (.t 49) 1 false,I.bin 51 .eql (.t 50) k0] (.t 51),I.mv 53 (.t 52),.sc true 59 53 [I.fa 54 (.t 7) 2 1,I.ld 55 (.t 54) 1 false,I.fa 56 (.t 4) 1 1,I.ld 57 (.t 56) 1 false,I.bin 58 .gtr (.t 55) (.t 57)] (.t 58),I.mv 6 (.t 59)])
 (.ret)))))))))))
 [.t 6] false none
def F_z_144:F:=.mk
 ((.seq (.reg [I.box 3 (.t 0) 4 true,I.box 4 (.t 1) 9 true,I.box 5 (.t 2) 5 true,I.mv 6 k0])
 ((.seq ((.seq (.reg [I.fa 9 (.t 5) 0 1,I.ld 10 (.t 9) 1 false,I.bin 11 .lss (.t 10) k0,I.mv 12 (.t 11),.sc true 16 12 [I.fa 13 (.t 5) 0 1,I.ld 14 (.t 13) 1 false,I.bin 15 .geq (.t 14) (kII 16)] (.t 15),I.mv 17 (.t 16),.sc true 21 17 [I.fa 18 (.t 5) 3 1,I.ld 19 (.t 18) 1 false,I.bin 20 .lss (.t 19) k0] (.t 20),I.mv 22 (.t 21),.sc true 26 22 [I.fa 23 (.t 5) 3 1,I.ld 24 (.t 23) 1 false,I.bin 25 .gtr (.t 24) (kII 9)] (.t 25),I.mv 27 (.t 26),.sc true 31 27 [I.fa 28 (.t 5) 4 1,I.ld 29 (.t 28) 1 false,I.bin 30 .lss (.t 29) k0] (.t 30),I.mv 32 (.t 31),.sc true 36 32 [I.fa 33 (.t 5) 4 1,I.ld 34 (.t 33) 1 false,I.bin 35 .gtr (.t 34) (kII 1099511627776)] (.t 35)])
 (.ite (.t 36)
 ((.seq (.reg [I.mv 6 (kII 2)])
 (.ret)))
 (.skip))))
 ((.seq ((.seq (.reg [I.fa 37 (.t 5) 1 1,I.ld 38 (.t 37) 1 false,I.bin 39 .neq (.t 38) (kII 60),I.mv 40 (.t 39),.sc false 44 40 [I.fa 41 (.t 5) 1 1,I.ld 42 (.t 41) 1 false,I.bin 43 .neq (.t 42) (kII 61)] (.t 43),I.mv 45 (.t 44),.sc false 49 45 [I.fa 46 (.t 5) 1 1,I.ld 47 (.t 46) 1 false,I.bin 48 .neq (.t 47) (kII 62)] (.t 48)])
 (.ite (.t 49)
 ((.seq (.reg [I.mv 6 (kII 8)])
 (.ret)))
 (.skip))))
 ((.seq ((.seq (.reg [I.fa 50 (.t 5) 2 1,I.ld 51 (.t 50) 1 false,I.bin 52 .lss (.t 51) (kII 1),I.mv 53 (.t 52),.sc true 59 53 [I.fa 54 (.t 5) 2 1,I.ld 55 (.t 54) 1 false,I.fa 56 (.t 3) 2 1,I.ld 57 (.t 56) 1 false,I.bin 58 .gtr (.t 55) (.t 57)] (.t 58)])
 (.ite (.t 59)
 ((.seq (.reg [I.mv 6 (kII 2)])
 (.ret)))
 (.skip))))
 ((.seq ((.seq (.reg [I.fa 61 (.t 4) 4 1,I.ld 62 (.t 61) 1 false,I.fa 63 (.t 5) 0 1,I.ld 64 (.t 63) 1 false,I.call (some 65) z_132 [(.t 62),(.t 64)],I.mv 60 (.t 65),I.ext 66 (.t 60) 0,I.ext 67 (.t 60) 1,I.mv 7 (.t 66),I.mv 8 (.t 67)])
 ((.seq (.reg [I.mv 68 (.t 8),I.mv 69 (.t 68),.sc true 83 69 [I.fa 70 (.t 5) 1 1,I.ld 71 (.t 70) 1 false,I.bin 72 .eql (.t 71) (kII 62),I.mv 73 (.t 72),.sc false 82 73 [I.fa 74 (.t 4) 1 1,I.ld 75 (.t 74) 1 false,I.fa 76 (.t 5) 2 1,I.ld 77 (.t 76) 1 false,I.bin 78 .add (.t 75) (.t 77),I.fa 79 (.t 3) 2 1,I.ld 80 (.t 79) 1 false,I.bin 81 .gtr (.t 78) (.t 80)] (.t 81)] (.t 82)])
 (.ite (.t 83)
 ((.seq (.reg [I.mv 6 (kII 17)])
 (.ret)))
 (.skip))))))
 ((.seq (.reg [I.mv 6 k0])
 (.ret)))))))))))))
 [.t 6] false none
def F_z_145:F:=.mk
 ((.seq (.reg [I.new 2 zPP])
 ((.seq ((.seq (.reg [I.ld 4 (.t 0) 1 false,I.fa 5 (.t 1) 2 1,I.ld 6 (.t 5) 1 false,I.callr (some 7) z_146 [(.t 4),(.t 6)]])
 (.ite (.t 7)
 ((.seq (.reg [I.build 8 zPP [(11,1,kTT)],I.st (.t 2) (.t 8) 13 false])
 (.ret)))
 (.skip))))
 ((.seq (.reg [I.fa 9 (.t 1) 0 1,I.ld 10 (.t 9) 1 false,I.fa 11 (.t 1) 1 1,I.ld 12 (.t 11) 1 false,I.fa 13 (.t 1) 2 1,I.ld 14 (.t 13) 1 false,I.fa 15 (.t 1) 3 1,I.ld 16 (.t 15) 1 false,I.build 17 zQ [(0,1,(.t 10)),(1,1,(.t 12)),(2,1,(.t 14)),(3,1,(.t 16)),(4,1,(.k (.i .i64 (-1))))],I.new 3 zQ,I.st (.t 3) (.t 17) 5 true])
 ((.seq (.drw [] [0,1,2,3,4,5,6,7,8,9,10,11,12,13,14] [I.ld 19 (.t 0) 1 false,I.ld 20 (.t 0) 1 false,I.nck 21 (.t 20),I.fa 22 (.t 21) 0 9,I.fa 23 (.t 22) 4 1,I.ld 24 (.t 23) 1 false,I.ldd 25 (.t 3) 5 true,I.call (some 26) z_147 [(kII 1),(.t 24),(.t 25)],I.mv 18 (.t 26),I.ext 27 (.t 18) 0,I.ext 28 (.t 18) 1,I.nck 29 (.t 19),I.fa 30 (.t 29) 0 9,I.fa 31 (.t 30) 4 1,I.st (.t 31) (.t 27) 1 false])
 ((.seq (.reg [I.build 32 zPP [(9,1,kTT)],I.st (.t 2) (.t 32) 13 false])
 (.ret)))))))))))
 [.c 2 13 true] false none
def F_z_146:F:=.mk
 ((.seq (.reg [I.mv 4 kFF])
 ((.seq ((.seq (.reg [I.mv 5 (.t 1),I.mv 6 (.t 0),I.nck 7 (.t 6),I.fa 8 (.t 7) 0 9,I.fa 9 (.t 8) 1 1,I.ld 10 (.t 9) 1 false,I.bin 11 .gtr (.t 5) (.t 10),I.mv 12 (.t 11),.sc true 27 12 [I.mv 13 (.t 0),I.nck 14 (.t 13),I.fa 15 (.t 14) 9 1,I.ld 16 (.t 15) 1 false,I.un 17 .not (.t 16),I.mv 18 (.t 17),.sc false 26 18 [I.mv 19 (.t 0),I.nck 20 (.t 19),I.fa 21 (.t 20) 0 9,I.fa 22 (.t 21) 4 1,I.ld 23 (.t 22) 1 false,I.len 24 (.t 23) .sl,I.bin 25 .gtr (.t 24) k0] (.t 25)] (.t 26)])
 (.ite (.t 27)
 ((.seq (.reg [I.mv 4 kFF])
 (.ret)))
 (.skip))))
 ((.seq (.reg [I.mv 28 (.t 0),I.nck 29 (.t 28),I.fa 30 (.t 29) 0 9,I.fa 31 (.t 30) 1 1,I.ld 32 (.t 31) 1 false,I.mv 33 (.t 1),I.bin 34 .sub (.t 32) (.t 33),I.nck 35 (.t 28),I.fa 36 (.t 35) 0 9,I.fa 37 (.t 36) 1 1,I.st (.t 37) (.t 34) 1 false])
 ((.seq (.reg [I.mv 4 kTT])
 (.ret)))))))))
 [.t 4] true none
def F_z_147_L0:C :=
 (.seq ((.seq (.drw [] [0,1,2,3,4,5,6,7,8,9,10,11,12,13,14,15,16] [I.mv 25 (.t 0),I.bin 26 .eql (.t 25) (kII 2),I.mv 27 (.t 26),.sc false 30 27 [I.mv 28 (.t 9),I.bin 29 .gtr (.t 28) k0] (.t 29),I.mv 31 (.t 30),.sc false 41 31 [I.mv 32 (.t 1),I.mv 33 (.t 9),I.bin 34 .sub (.t 33) (kII 1),I.ixs 35 (.t 32) (.t 34) 5,I.fa 36 (.t 35) 3 1,I.ld 37 (.t 36) 1 false,I.fad 38 (.t 5) 3 1,I.ldd 39 (.t 38) 1 false,I.bin 40 .lss (.t 37) (.t 39)] (.t 40)])
 (.ite (.t 41)
 (.skip)
 (.seq (.keep [1,5,9]) (.exit 0)))))
 (.blk 1 (.reg [I.mv 42 (.t 9),I.bin 43 .sub (.t 42) (kII 1),I.mv 9 (.t 43)])))
def F_z_147:F:=.mk
 ((.seq (.reg [I.box 5 (.t 2) 5 true,I.mv 6 (.k (.sl 5 true [])),I.mv 7 k0])
 ((.seq ((.seq (.reg [I.mv 11 (.t 0),I.mv 12 (.t 1),I.call (some 13) z_142 [(.t 11),(.t 12)],I.mv 8 (.t 13)])
 ((.seq (.reg [I.mv 14 (.t 8),I.bin 15 .neq (.t 14) k0])
 (.ite (.t 15)
 ((.seq (.reg [I.mv 16 (.t 8),I.mv 6 (.k (.sl 5 true [])),I.mv 7 (.t 16)])
 (.ret)))
 (.skip))))))
 ((.seq ((.seq (.reg [I.ld 17 (.t 5) 5 true,I.call (some 18) z_218 [(.t 17)],I.un 19 .not (.t 18)])
 (.ite (.t 19)
 ((.seq (.reg [I.mv 6 (.k (.sl 5 true [])),I.mv 7 (kII 2)])
 (.ret)))
 (.skip))))
 ((.seq ((.seq (.reg [I.mv 20 (.t 1),I.len 21 (.t 20) .sl,I.bin 22 .eql (.t 21) (kII 96)])
 (.ite (.t 22)
 ((.seq (.reg [I.mv 6 (.k (.sl 5 true [])),I.mv 7 (kII 4)])
 (.ret)))
 (.skip))))
 ((.seq (.reg [I.mv 23 (.t 1),I.len 24 (.t 23) .sl,I.mv 9 (.t 24)])
 ((.seq (.blk 0 (.loop [0,1,5,9] F_z_147_L0))
 ((.seq (.reg [I.mv 44 (.t 1),I.len 45 (.t 44) .sl,I.bin 46 .add (.t 45) (kII 1),I.mks 47 5 zQ k0 (.t 46),I.mv 10 (.t 47)])
 ((.seq (.reg [I.mv 48 (.t 10),I.mv 49 (.t 1),I.mv 50 (.t 9),I.sl 51 (.t 49) none (some (.t 50)) 5,I.app 52 (.t 48) (.t 51) 5,I.mv 10 (.t 52)])
 ((.seq (.reg [I.mv 53 (.t 10),I.ld 54 (.t 5) 5 true,I.buildSl 55 5 1 zQ [(0,(.t 54))] true,I.app 56 (.t 53) (.t 55) 5,I.mv 10 (.t 56)])
 ((.seq (.reg [I.mv 57 (.t 10),I.mv 58 (.t 1),I.mv 59 (.t 9),I.sl 60 (.t 58) (some (.t 59)) none 5,I.app 61 (.t 57) (.t 60) 5,I.mv 6 (.t 61),I.mv 7 k0])
 (.ret)))))))))))))))))))))
 [.t 6,.t 7] false none
def F_z_148:F:=.mk
 ((.seq (.reg [I.new 2 zPP])
 ((.seq (.reg [I.ld 3 (.t 0) 1 false,I.fa 4 (.t 1) 2 1,I.ld 5 (.t 4) 1 false,I.callr (some 6) z_146 [(.t 3),(.t 5)],I.build 7 zPP [(11,1,(.t 6))],I.st (.t 2) (.t 7) 13 false])
 (.ret)))))
 [.c 2 13 true] false none
def F_z_149:F:=.mk
 ((.seq (.reg [I.new 2 zPP])
 ((.seq (.drw [] [0,1,2,3,4,5,6,7,8,9,10,11] [I.ld 3 (.t 0) 1 false,I.nck 4 (.t 3),I.fa 5 (.t 4) 0 9,I.fa 6 (.t 5) 1 1,I.ld 7 (.t 6) 1 false,I.fa 8 (.t 1) 2 1,I.ld 9 (.t 8) 1 false,I.bin 10 .add (.t 7) (.t 9),I.nck 11 (.t 3),I.fa 12 (.t 11) 0 9,I.fa 13 (.t 12) 1 1,I.st (.t 13) (.t 10) 1 false])
 ((.seq (.reg [I.ld 14 (.t 0) 1 false,I.callr (some 15) z_150 [(.t 14)],I.build 16 zPP [(11,1,kTT),(12,1,(.t 15))],I.st (.t 2) (.t 16) 13 false])
 (.ret)))))))
 [.c 2 13 true] false none
def F_z_150_L0:C :=
 (.seq (.reg [I.bin 41 .lss (.t 40) (.t 39)])
 ((.seq (.ite (.t 41)
 (.skip)
 (.seq (.keep [6]) (.exit 0)))
 ((.seq (.blk 1 ((.seq (.reg [I.ixs 42 (.t 38) (.t 40) 5,I.ld 43 (.t 42) 5 true,I.new 8 zQ,I.st (.t 8) (.t 43) 5 true])
 (.reg [I.mv 44 (.t 6),I.fa 45 (.t 8) 0 1,I.ld 46 (.t 45) 1 false,I.fa 47 (.t 8) 1 1,I.ld 48 (.t 47) 1 false,I.build 49 zWW [(0,1,(.t 46)),(1,1,(.t 48)),(3,1,kTT),(4,1,(.k (.i .i64 (-1))))],I.buildSl 50 5 1 zWW [(0,(.t 49))] true,I.app 51 (.t 44) (.t 50) 5,I.mv 6 (.t 51)]))))
 (.reg [I.bin 52 .add (.t 40) (kII 1),I.mv 40 (.t 52)]))))))
def F_z_150:F:=.mk
 ((.seq (.reg [I.mv 2 (.k (.sl 5 true []))])
 ((.seq (.drw [] [0,1,2,3,4,5,6,7,8,9,10,11,12,13,14,15,16,17,18,19,20,21] [I.mv 10 (.t 0),I.nck 11 (.t 10),I.fa 12 (.t 11) 0 9,I.fa 13 (.t 12) 4 1,I.ld 14 (.t 13) 1 false,I.mv 15 (.t 0),I.nck 16 (.t 15),I.fa 17 (.t 16) 0 9,I.fa 18 (.t 17) 1 1,I.ld 19 (.t 18) 1 false,I.mv 20 (.t 0),I.nck 21 (.t 20),I.fa 22 (.t 21) 9 1,I.ld 23 (.t 22) 1 false,I.call (some 24) z_219 [(.t 14),(.t 19),(.t 23)],I.mv 9 (.t 24),I.ext 25 (.t 9) 0,I.ext 26 (.t 9) 1,I.ext 27 (.t 9) 2,I.mv 3 (.t 25),I.mv 4 (.t 26),I.mv 5 (.t 27)])
 ((.seq (.reg [I.mv 28 (.t 0),I.mv 29 (.t 0),I.mv 30 (.t 4),I.mv 31 (.t 5),I.nck 32 (.t 28),I.fa 33 (.t 32) 0 9,I.fa 34 (.t 33) 4 1,I.st (.t 34) (.t 30) 1 false,I.nck 35 (.t 29),I.fa 36 (.t 35) 0 9,I.fa 37 (.t 36) 1 1,I.st (.t 37) (.t 31) 1 false])
 ((.seq (.reg [I.mv 6 (.k (.sl 5 true []))])
 ((.seq ((.seq (.reg [I.mv 38 (.t 3),I.len 39 (.t 38) .sl,I.mv 40 k0])
 (.blk 0 (.loop [6,38,39,40] F_z_150_L0))))
 ((.seq (.reg [I.mv 53 (.t 6),I.mv 2 (.t 53)])
 (.ret)))))))))))))
 [.t 2] true none
def F_z_151_L0:C :=
 (.seq (.reg [I.bin 12 .lss (.t 11) (.t 10)])
 ((.seq (.ite (.t 12)
 (.skip)
 (.seq (.keep [4]) (.exit 0)))
 ((.seq (.blk 1 ((.seq (.reg [I.mv 13 (.t 11),I.ixs 14 (.t 9) (.t 11) 5,I.ld 15 (.t 14) 5 true,I.new 6 zQ,I.mv 5 (.t 13),I.st (.t 6) (.t 15) 5 true])
 ((.seq ((.seq (.reg [I.fa 16 (.t 6) 0 1,I.ld 17 (.t 16) 1 false,I.bin 18 .geq (.t 17) k0,I.mv 19 (.t 18),.sc false 23 19 [I.fa 20 (.t 6) 0 1,I.ld 21 (.t 20) 1 false,I.bin 22 .lss (.t 21) (kII 16)] (.t 22)])
 (.ite (.t 23)
 ((.seq ((.seq (.reg [I.fa 24 (.t 6) 0 1,I.ld 25 (.t 24) 1 false,I.ixa 26 (.t 3) (.t 25) 16 1,I.ld 27 (.t 26) 1 false])
 (.ite (.t 27)
 (.seq (.keep [0,3,4,9,10,11]) (.exit 1))
 (.skip))))
 (.reg [I.fa 28 (.t 6) 0 1,I.ld 29 (.t 28) 1 false,I.ixa 30 (.t 3) (.t 29) 16 1,I.st (.t 30) kTT 1 false])))
 ((.seq (.reg [I.mv 32 (.t 0),I.fa 33 (.t 6) 0 1,I.ld 34 (.t 33) 1 false,I.call (some 35) z_132 [(.t 32),(.t 34)],I.mv 31 (.t 35),I.ext 36 (.t 31) 0,I.ext 37 (.t 31) 1,I.mv 7 (.t 36),I.mv 8 (.t 37)])
 ((.seq (.reg [I.mv 38 (.t 7),I.mv 39 (.t 5),I.bin 40 .lss (.t 38) (.t 39)])
 (.ite (.t 40)
 (.seq (.keep [0,3,4,9,10,11]) (.exit 1))
 (.skip)))))))))
 (.reg [I.mv 41 (.t 4),I.fa 42 (.t 6) 0 1,I.ld 43 (.t 42) 1 false,I.buildSl 44 1 1 [(.i .i64 0)] [(0,(.t 43))] true,I.app 45 (.t 41) (.t 44) 1,I.mv 4 (.t 45)]))))))
 (.reg [I.bin 46 .add (.t 11) (kII 1),I.mv 11 (.t 46)]))))))
def F_z_151:F:=.mk
 ((.seq (.reg [I.mv 2 (.k (.sl 1 true []))])
 ((.seq (.reg [I.new 3 [(.b false),(.b false),(.b false),(.b false),(.b false),(.b false),(.b false),(.b false),(.b false),(.b false),(.b false),(.b false),(.b false),(.b false),(.b false),(.b false)]])
 ((.seq (.reg [I.mv 4 (.k (.sl 1 true []))])
 ((.seq ((.seq (.reg [I.mv 9 (.t 0),I.len 10 (.t 9) .sl,I.mv 11 k0])
 (.blk 0 (.loop [0,3,4,9,10,11] F_z_151_L0))))
 ((.seq (.reg [I.mv 47 (.t 4),I.mv 2 (.t 47)])
 (.ret)))))))))))
 [.t 2] false none
def F_z_152:F:=.mk
 ((.seq (.reg [I.mv 0 (.k (.sl 2 true []))])
 ((.seq (.reg [I.build 1 [.nilfn,(.i .i64 0)] [(0,1,(.k (.fn z_220 [] []))),(1,1,(kII 8))],I.build 2 [.nilfn,(.i .i64 0)] [(0,1,(.k (.fn z_221 [] []))),(1,1,(kII 2))],I.build 3 [.nilfn,(.i .i64 0)] [(0,1,(.k (.fn z_222 [] []))),(1,1,(kII 2))],I.build 4 [.nilfn,(.i .i64 0)] [(0,1,(.k (.fn z_223 [] []))),(1,1,(kII 17))],I.buildSl 5 2 4 [.nilfn,(.i .i64 0)] [(0,(.t 1)),(1,(.t 2)),(2,(.t 3)),(3,(.t 4))] true,I.mv 0 (.t 5)])
 (.ret)))))
 [.t 0] false none
def F_z_153:F:=.mk
 ((.seq (.reg [I.mv 2 (.k (.sl 5 true []))])
 ((.seq ((.seq (.reg [I.mv 3 (.t 0),I.isnil 4 false (.t 3) .sl])
 (.ite (.t 4)
 ((.seq (.reg [I.mv 2 (.k (.sl 5 true []))])
 (.ret)))
 (.skip))))
 ((.seq (.reg [I.buildSl 5 5 0 zQ [] false,I.mv 6 (.t 0),I.app 7 (.t 5) (.t 6) 5,I.mv 2 (.t 7)])
 (.ret)))))))
 [.t 2] true none
def F_z_154:F:=.mk
 ((.seq (.reg [I.box 1 (.t 0) 1 true,I.mv 2 (.k .nilfn)])
 ((.seq (.reg [I.mkf 3 z_224 [] [(.t 1)],I.mv 2 (.t 3)])
 (.ret)))))
 [.t 2] true none
def F_z_155:F:=.mk
 ((.seq (.reg [I.box 2 (.t 0) 9 true,I.mv 4 kFF])
 ((.seq (.reg [I.fa 8 (.t 2) 4 1,I.ld 9 (.t 8) 1 false,I.mv 10 (.t 1),I.call (some 11) z_132 [(.t 9),(.t 10)],I.mv 7 (.t 11),I.ext 12 (.t 7) 0,I.ext 13 (.t 7) 1,I.mv 5 (.t 12),I.mv 6 (.t 13)])
 ((.seq (.reg [I.mv 14 (.t 6),I.mv 4 (.t 14)])
 (.ret)))))))
 [.t 4] false none
def F_z_156_L0:C :=
 (.seq (.reg [I.bin 55 .lss (.t 54) (.t 53)])
 ((.seq (.ite (.t 55)
 (.skip)
 (.seq (.keep [2,3]) (.exit 0)))
 ((.seq (.blk 1 ((.seq (.reg [I.mv 56 (.t 54),I.mv 5 (.t 56)])
 ((.seq (.reg [I.fa 57 (.t 3) 4 1,I.ld 58 (.t 57) 1 false,I.mv 59 (.t 5),I.call (some 60) z_227 [(.t 58),(.t 59)],I.un 61 .not (.t 60)])
 (.ite (.t 61)
 ((.seq (.reg [I.mv 4 kFF])
 (.seq (.keep [4]) .ret)))
 (.skip)))))))
 (.reg [I.bin 62 .add (.t 54) (kII 1),I.mv 54 (.t 62)]))))))
def F_z_156:F:=.mk
 ((.seq (.reg [I.box 2 (.t 0) 4 true,I.box 3 (.t 1) 9 true,I.mv 4 kFF])
 ((.seq ((.seq (.reg [I.fa 6 (.t 3) 0 1,I.ld 7 (.t 6) 1 false,I.bin 8 .neq (.t 7) (.k (.i .i64 (-1))),I.mv 9 (.t 8),.sc true 13 9 [I.fa 10 (.t 3) 1 1,I.ld 11 (.t 10) 1 false,I.bin 12 .neq (.t 11) k0] (.t 12),I.mv 14 (.t 13),.sc true 18 14 [I.fa 15 (.t 3) 2 1,I.ld 16 (.t 15) 1 false,I.bin 17 .neq (.t 16) k0] (.t 17),I.mv 19 (.t 18),.sc true 23 19 [I.fa 20 (.t 3) 8 1,I.ld 21 (.t 20) 1 false,I.bin 22 .neq (.t 21) k0] (.t 22),I.mv 24 (.t 23),.sc true 33 24 [I.fa 25 (.t 3) 3 1,I.ld 26 (.t 25) 1 false,I.len 27 (.t 26) .sl,I.fa 28 (.t 3) 6 1,I.ld 29 (.t 28) 1 false,I.len 30 (.t 29) .sl,I.bin 31 .add (.t 27) (.t 30),I.bin 32 .gtr (.t 31) k0] (.t 32),I.mv 34 (.t 33),.sc true 41 34 [I.fa 35 (.t 3) 5 1,I.ld 36 (.t 35) 1 false,I.len 37 (.t 36) .sl,I.fa 38 (.t 2) 2 1,I.ld 39 (.t 38) 1 false,I.bin 40 .gtr (.t 37) (.t 39)] (.t 40)])
 (.ite (.t 41)
 ((.seq (.reg [I.mv 4 kFF])
 (.ret)))
 (.skip))))
 ((.seq ((.seq (.reg [I.fa 42 (.t 3) 5 1,I.ld 43 (.t 42) 1 false,I.call (some 44) z_225 [(.t 43),(.k (.fn z_226 [] []))],I.mv 45 (.t 44),.sc true 50 45 [I.fa 46 (.t 3) 4 1,I.ld 47 (.t 46) 1 false,I.call (some 48) z_142 [(kII 1),(.t 47)],I.bin 49 .neq (.t 48) k0] (.t 49)])
 (.ite (.t 50)
 ((.seq (.reg [I.mv 4 kFF])
 (.ret)))
 (.skip))))
 ((.seq ((.seq (.reg [I.fa 51 (.t 3) 4 1,I.ld 52 (.t 51) 1 false,I.len 53 (.t 52) .sl,I.mv 54 k0])
 (.blk 0 (.loop [2,3,53,54] F_z_156_L0))))
 ((.seq (.reg [I.fa 63 (.t 3) 7 1,I.ld 64 (.t 63) 1 false,I.un 65 .not (.t 64),I.mv 66 (.t 65),.sc true 71 66 [I.fa 67 (.t 3) 4 1,I.ld 68 (.t 67) 1 false,I.len 69 (.t 68) .sl,I.bin 70 .eql (.t 69) k0] (.t 70),I.mv 72 (.t 71),.sc false 77 72 [I.ld 73 (.t 2) 4 true,I.ld 74 (.t 3) 9 true,I.call (some 75) z_228 [(.t 73),(.t 74)],I.un 76 .not (.t 75)] (.t 76),I.mv 4 (.t 77)])
 (.ret)))))))))))
 [.t 4] false none
def F_z_157:F:=.mk
 ((.seq (.reg [I.mv 2 kFF])
 ((.seq (.reg [I.mv 3 (.t 0),I.bin 4 .geq (.t 3) k0,I.mv 5 (.t 4),.sc false 8 5 [I.mv 6 (.t 0),I.bin 7 .lss (.t 6) (kII 16)] (.t 7),I.mv 2 (.t 8)])
 (.ret)))))
 [.t 2] false none
def F_z_158:F:=.mk
 ((.seq (.reg [I.mv 2 kFF])
 ((.seq (.reg [I.mv 3 (.t 0),I.bin 4 .geq (.t 3) k0,I.mv 5 (.t 4),.sc false 8 5 [I.mv 6 (.t 0),I.bin 7 .leq (.t 6) (kII 9)] (.t 7),I.mv 2 (.t 8)])
 (.ret)))))
 [.t 2] false none
def F_z_159:F:=.mk
 ((.seq (.reg [I.mv 0 (.k .nilmap)])
 ((.seq (.reg [I.mkm 1,I.mput (.t 1) (kII 64) (.k (.fn z_229 [] [])) [.i],I.mput (.t 1) (kII 65) (.k (.fn z_231 [] [])) [.i],I.mput (.t 1) (kII 66) (.k (.fn z_233 [] [])) [.i],I.mv 2 (.t 1),I.mv 0 (.t 2)])
 (.ret)))))
 [.t 0] true none
def F_z_160:F:=.mk
 ((.seq (.reg [I.mv 2 kFF])
 ((.seq (.reg [I.mv 3 (.t 0),I.bin 4 .geq (.t 3) (.k (.i .i64 (-1099511627776))),I.mv 5 (.t 4),.sc false 8 5 [I.mv 6 (.t 0),I.bin 7 .leq (.t 6) (kII 1099511627776)] (.t 7),I.mv 2 (.t 8)])
 (.ret)))))
 [.t 2] false none
def F_z_161:F:=.mk
 ((.seq (.reg [I.box 2 (.t 0) 4 false,I.box 3 (.t 1) 9 false,I.mv 4 (.k .nil)])
 ((.seq (.drw [] [0,1,3,4,2,6,5,7,8,9] [I.fa 5 (.t 3) 5 1,I.ld 6 (.t 5) 1 false,I.fa 8 (.t 3) 4 1,I.ld 9 (.t 8) 1 false,I.callk (some 7) z_214 [(.t 6)],.re (.fa 8 (.t 3) 4 1),.re (.ld 9 (.t 8) 1 false),I.fa 11 (.t 3) 5 1,I.callk (some 10) z_153 [(.t 9)],.re (.fa 11 (.t 3) 5 1),I.st (.t 11) (.t 7) 1 false,I.fa 12 (.t 3) 4 1,I.st (.t 12) (.t 10) 1 false])
 ((.seq (.reg [I.fa 13 (.t 2) 2 1,I.ld 14 (.t 13) 1 false,I.ld 15 (.t 3) 9 true,I.build 16 [(.i .i64 0),(.i .i64 0),(.i .i64 0),(.i .i64 0),(.sl 1 true []),(.sl 5 true []),(.sl 1 true []),(.sl 2 true []),(.b false),(.i .i64 0),(.sl 5 true [])] [(0,1,(.t 14)),(1,9,(.t 15))],I.box 17 (.t 16) 11 false,I.mv 4 (.t 17)])
 (.ret)))))))
 [.t 4] true none
def F_z_162_L0:C :=
 (.seq (.reg [I.bin 50 .lss (.t 49) (.t 48)])
 ((.seq (.ite (.t 50)
 (.skip)
 (.seq (.keep [0,1,9,10,11]) (.exit 2)))
 ((.seq (.blk 3 ((.seq (.reg [I.ixs 51 (.t 47) (.t 49) 1,I.ld 52 (.t 51) 1 false,I.mv 8 (.t 52)])
 ((.seq (.reg [I.mv 53 (.t 8),I.call (some 54) z_235 [(.t 53)],I.un 55 .not (.t 54)])
 (.ite (.t 55)
 ((.seq (.reg [I.mv 4 kFF])
 (.seq (.keep [4]) .ret)))
 (.skip)))))))
 (.reg [I.bin 56 .add (.t 49) (kII 1),I.mv 49 (.t 56)]))))))
def F_z_162_L1:C :=
 (.seq (.reg [I.bin 12 .lss (.t 11) (.t 10)])
 ((.seq (.ite (.t 12)
 (.skip)
 (.seq (.keep []) (.exit 0)))
 ((.seq (.blk 1 ((.seq (.reg [I.mv 13 (.t 11),I.ixs 14 (.t 9) (.t 11) 2,I.ld 15 (.t 14) 2 true,I.new 6 [(.i .i64 0),(.sl 1 true [])],I.mv 5 (.t 13),I.st (.t 6) (.t 15) 2 true])
 ((.seq ((.seq (.drw [] [0,1,2,3,4,5,6,7,8,9,10,11,12,13,14,15,16,17,18,19,20,21,22,23,24,25,26,27,28,29] [I.fad 16 (.t 6) 0 1,I.ldd 17 (.t 16) 1 false,I.bin 18 .lss (.t 17) k0,I.mv 19 (.t 18),.sc true 23 19 [I.fad 20 (.t 6) 0 1,I.ldd 21 (.t 20) 1 false,I.bin 22 .geq (.t 21) (kII 16)] (.t 22),I.mv 24 (.t 23),.sc true 38 24 [I.mv 25 (.t 5),I.bin 26 .gtr (.t 25) k0,I.mv 27 (.t 26),.sc false 37 27 [I.mv 28 (.t 1),I.mv 29 (.t 5),I.bin 30 .sub (.t 29) (kII 1),I.ixs 31 (.t 28) (.t 30) 2,I.fa 32 (.t 31) 0 1,I.ld 33 (.t 32) 1 false,I.fad 34 (.t 6) 0 1,I.ldd 35 (.t 34) 1 false,I.bin 36 .geq (.t 33) (.t 35)] (.t 36)] (.t 37),I.mv 39 (.t 38),.sc true 45 39 [I.fad 40 (.t 6) 1 1,I.ldd 41 (.t 40) 1 false,I.len 42 (.t 41) .sl,I.mv 43 (.t 0),I.bin 44 .gtr (.t 42) (.t 43)] (.t 44)])
 (.ite (.t 45)
 ((.seq (.reg [I.mv 4 kFF])
 (.seq (.keep [4]) .ret)))
 (.skip))))
 ((.seq (.reg [I.fa 46 (.t 6) 1 1,I.ld 47 (.t 46) 1 false,I.len 48 (.t 47) .sl,I.mv 49 k0])
 (.blk 2 (.loop [0,1,9,10,11,47,48,49] F_z_162_L0)))))))))
 (.reg [I.bin 57 .add (.t 11) (kII 1),I.mv 11 (.t 57)]))))))
def F_z_162:F:=.mk
 ((.seq (.reg [I.mv 4 kFF])
 ((.seq ((.seq (.reg [I.mv 9 (.t 1),I.len 10 (.t 9) .sl,I.mv 11 k0])
 (.blk 0 (.loop [0,1,9,10,11] F_z_162_L1))))
 ((.seq (.reg [I.mv 4 kTT])
 (.ret)))))))
 [.t 4] false none
def F_z_163_L0:C :=
 (.seq (.reg [I.bin 18 .lss (.t 17) (.t 16)])
 ((.seq (.ite (.t 18)
 (.skip)
 (.seq (.keep []) (.exit 0)))
 ((.seq (.blk 1 ((.seq (.reg [I.mv 19 (.t 17),I.ixs 20 (.t 15) (.t 17) 5,I.ld 21 (.t 20) 5 true,I.new 6 zQ,I.mv 5 (.t 19),I.st (.t 6) (.t 21) 5 true])
 ((.seq ((.seq (.reg [I.fa 23 (.t 3) 4 1,I.ld 24 (.t 23) 1 false,I.fa 25 (.t 6) 0 1,I.ld 26 (.t 25) 1 false,I.call (some 27) z_132 [(.t 24),(.t 26)],I.mv 22 (.t 27),I.ext 28 (.t 22) 0,I.ext 29 (.t 22) 1,I.mv 7 (.t 28),I.mv 8 (.t 29)])
 ((.seq (.reg [I.mv 30 (.t 7),I.mv 31 (.t 5),I.bin 32 .neq (.t 30) (.t 31),I.mv 33 (.t 32),.sc true 37 33 [I.fa 34 (.t 6) 4 1,I.ld 35 (.t 34) 1 false,I.bin 36 .neq (.t 35) (.k (.i .i64 (-1)))] (.t 36)])
 (.ite (.t 37)
 ((.seq (.reg [I.mv 4 kFF])
 (.seq (.keep [4]) .ret)))
 (.skip))))))
 ((.seq (.reg [I.fa 38 (.t 6) 1 1,I.ld 39 (.t 38) 1 false])
 (.blk 2 ((.seq (.reg [I.bin 41 .eql (.t 39) (kII 70),I.mv 40 (.t 41)])
 (.ite (.t 40)
 ((.seq (.reg [I.ld 42 (.t 3) 9 true,I.fa 43 (.t 6) 0 1,I.ld 44 (.t 43) 1 false,I.call (some 45) z_169 [(.t 42),(.t 44)],I.mv 9 (.t 45)])
 ((.seq (.reg [I.mv 46 (.t 9),I.bin 47 .lss (.t 46) k0,I.mv 48 (.t 47),.sc true 57 48 [I.fa 49 (.t 3) 6 1,I.ld 50 (.t 49) 1 false,I.mv 51 (.t 9),I.ixs 52 (.t 50) (.t 51) 2,I.fa 53 (.t 52) 1 1,I.ld 54 (.t 53) 1 false,I.len 55 (.t 54) .sl,I.bin 56 .gtr (.t 55) k0] (.t 56),I.mv 58 (.t 57),.sc true 62 58 [I.fa 59 (.t 6) 2 1,I.ld 60 (.t 59) 1 false,I.bin 61 .neq (.t 60) k0] (.t 61)])
 (.ite (.t 62)
 ((.seq (.reg [I.mv 4 kFF])
 (.seq (.keep [4]) .ret)))
 (.skip))))))
 ((.seq (.reg [I.bin 64 .eql (.t 39) (kII 68),I.mv 63 (.t 64)])
 (.ite (.t 63)
 ((.seq (.reg [I.mv 65 (.t 0),I.ld 66 (.t 3) 9 true,I.call (some 67) z_174 [(.t 65),(.t 66)],I.un 68 .not (.t 67)])
 (.ite (.t 68)
 ((.seq (.reg [I.mv 4 kFF])
 (.seq (.keep [4]) .ret)))
 (.skip))))
 ((.seq (.reg [I.mv 4 kFF])
 (.seq (.keep [4]) .ret)))))))))))))))))
 (.reg [I.bin 69 .add (.t 17) (kII 1),I.mv 17 (.t 69)]))))))
def F_z_163:F:=.mk
 ((.seq (.reg [I.box 3 (.t 1) 9 true,I.mv 4 kFF])
 ((.seq ((.seq (.reg [I.fa 10 (.t 3) 4 1,I.ld 11 (.t 10) 1 false,I.call (some 12) z_142 [(kII 1),(.t 11)],I.bin 13 .neq (.t 12) k0])
 (.ite (.t 13)
 ((.seq (.reg [I.mv 4 kFF])
 (.ret)))
 (.skip))))
 ((.seq ((.seq (.reg [I.fa 14 (.t 3) 4 1,I.ld 15 (.t 14) 1 false,I.len 16 (.t 15) .sl,I.mv 17 k0])
 (.blk 0 (.loop [0,3,15,16,17] F_z_163_L0))))
 ((.seq (.reg [I.mv 4 kTT])
 (.ret)))))))))
 [.t 4] false none
def F_z_164:F:=.mk
 ((.seq (.reg [I.box 2 (.t 0) 9 true,I.box 3 (.t 1) 5 true,I.mv 4 k0])
 ((.seq ((.seq (.reg [I.fa 8 (.t 3) 0 1,I.ld 9 (.t 8) 1 false,I.bin 10 .lss (.t 9) k0,I.mv 11 (.t 10),.sc true 15 11 [I.fa 12 (.t 3) 0 1,I.ld 13 (.t 12) 1 false,I.bin 14 .geq (.t 13) (kII 16)] (.t 14),I.mv 16 (.t 15),.sc true 20 16 [I.fa 17 (.t 3) 3 1,I.ld 18 (.t 17) 1 false,I.bin 19 .lss (.t 18) k0] (.t 19),I.mv 21 (.t 20),.sc true 25 21 [I.fa 22 (.t 3) 3 1,I.ld 23 (.t 22) 1 false,I.bin 24 .gtr (.t 23) (kII 9)] (.t 24),I.mv 26 (.t 25),.sc true 30 26 [I.fa 27 (.t 3) 4 1,I.ld 28 (.t 27) 1 false,I.bin 29 .lss (.t 28) k0] (.t 29),I.mv 31 (.t 30),.sc true 35 31 [I.fa 32 (.t 3) 4 1,I.ld 33 (.t 32) 1 false,I.bin 34 .gtr (.t 33) (kII 1099511627776)] (.t 34)])
 (.ite (.t 35)
 ((.seq (.reg [I.mv 4 (kII 2)])
 (.ret)))
 (.skip))))
 ((.seq ((.seq (.reg [I.fa 36 (.t 3) 1 1,I.ld 37 (.t 36) 1 false])
 (.blk 0 ((.seq ((.seq (.reg [I.bin 39 .eql (.t 37) (kII 68),I.mv 38 (.t 39)])
 (.ite (.t 38)
 (.skip)
 ((.seq (.reg [I.bin 40 .eql (.t 37) (kII 69),I.mv 38 (.t 40)])
 (.ite (.t 38)
 (.skip)
 ((.seq (.reg [I.bin 41 .eql (.t 37) (kII 70),I.mv 38 (.t 41)])
 (.ite (.t 38)
 (.skip)
 (.reg [I.bin 42 .eql (.t 37) (kII 71),I.mv 38 (.t 42)]))))))))))
 (.ite (.t 38)
 (.skip)
 ((.seq (.reg [I.mv 4 (kII 8)])
 (.ret)))))))))
 ((.seq ((.seq (.reg [I.fa 43 (.t 3) 1 1,I.ld 44 (.t 43) 1 false,I.bin 45 .eql (.t 44) (kII 68),I.mv 46 (.t 45),.sc false 51 46 [I.fa 47 (.t 3) 2 1,I.ld 48 (.t 47) 1 false,I.call (some 49) z_235 [(.t 48)],I.un 50 .not (.t 49)] (.t 50)])
 (.ite (.t 51)
 ((.seq (.reg [I.mv 4 (kII 2)])
 (.ret)))
 (.skip))))
 ((.seq ((.seq (.reg [I.fa 53 (.t 2) 4 1,I.ld 54 (.t 53) 1 false,I.fa 55 (.t 3) 0 1,I.ld 56 (.t 55) 1 false,I.call (some 57) z_132 [(.t 54),(.t 56)],I.mv 52 (.t 57),I.ext 58 (.t 52) 0,I.ext 59 (.t 52) 1,I.mv 5 (.t 58),I.mv 6 (.t 59)])
 ((.seq (.reg [I.mv 60 (.t 6)])
 (.ite (.t 60)
 ((.seq (.reg [I.mv 4 (kII 17)])
 (.ret)))
 (.skip))))))
 ((.seq (.reg [I.ld 61 (.t 2) 9 true,I.fa 62 (.t 3) 0 1,I.ld 63 (.t 62) 1 false,I.call (some 64) z_169 [(.t 61),(.t 63)],I.bin 65 .geq (.t 64) k0,I.mv 7 (.t 65)])
 ((.seq ((.seq (.reg [I.fa 66 (.t 3) 1 1,I.ld 67 (.t 66) 1 false,I.bin 68 .eql (.t 67) (kII 69),I.mv 69 (.t 68),.sc false 71 69 [I.mv 70 (.t 7)] (.t 70)])
 (.ite (.t 71)
 ((.seq (.reg [I.mv 4 (kII 6)])
 (.ret)))
 (.skip))))
 ((.seq ((.seq (.reg [I.fa 72 (.t 3) 1 1,I.ld 73 (.t 72) 1 false,I.bin 74 .eql (.t 73) (kII 71),I.mv 75 (.t 74),.sc true 79 75 [I.fa 76 (.t 3) 1 1,I.ld 77 (.t 76) 1 false,I.bin 78 .eql (.t 77) (kII 70)] (.t 78),I.mv 80 (.t 79),.sc false 83 80 [I.mv 81 (.t 7),I.un 82 .not (.t 81)] (.t 82)])
 (.ite (.t 83)
 ((.seq (.reg [I.mv 4 (kII 20)])
 (.ret)))
 (.skip))))
 ((.seq (.reg [I.mv 4 k0])
 (.ret)))))))))))))))))))
 [.t 4] false none
def F_z_165:F:=.mk
 ((.seq (.reg [I.box 2 (.t 0) 4 false,I.box 3 (.t 1) 9 false,I.mv 4 (.k .nil)])
 ((.seq (.reg [I.fa 5 (.t 3) 6 1,I.ld 6 (.t 5) 1 false,I.callk (some 7) z_236 [(.t 6)],I.fa 8 (.t 3) 6 1,I.st (.t 8) (.t 7) 1 false])
 ((.seq (.reg [I.fa 9 (.t 3) 4 1,I.ld 10 (.t 9) 1 false,I.callk (some 11) z_153 [(.t 10)],I.fa 12 (.t 3) 4 1,I.st (.t 12) (.t 11) 1 false])
 ((.seq (.reg [I.fa 13 (.t 2) 2 1,I.ld 14 (.t 13) 1 false,I.ld 15 (.t 3) 9 true,I.build 16 [(.i .i64 0),(.i .i64 0),(.i .i64 0),(.i .i64 0),(.sl 1 true []),(.sl 5 true []),(.sl 1 true []),(.sl 2 true []),(.b false),(.i .i64 0),(.sl 5 true [])] [(0,1,(.t 14)),(1,9,(.t 15))],I.box 17 (.t 16) 11 false,I.mv 4 (.t 17)])
 (.ret)))))))))
 [.t 4] true none
def F_z_166:F:=.mk
 ((.seq (.reg [I.new 2 zPP])
 ((.seq (.reg [I.ld 3 (.t 0) 1 false,I.fa 4 (.t 1) 0 1,I.ld 5 (.t 4) 1 false,I.callr (some 6) z_167 [(.t 3),(.t 5)]])
 ((.seq (.reg [I.build 7 zPP [(11,1,kTT)],I.st (.t 2) (.t 7) 13 false])
 (.ret)))))))
 [.c 2 13 true] false none
def F_z_167_L0:C :=
 (.seq ((.seq (.reg [I.mv 5 (.t 4),I.mv 6 (.t 0),I.nck 7 (.t 6),I.fa 8 (.t 7) 1 9,I.fa 9 (.t 8) 6 1,I.ld 10 (.t 9) 1 false,I.len 11 (.t 10) .sl,I.bin 12 .lss (.t 5) (.t 11),I.mv 13 (.t 12),.sc false 25 13 [I.mv 14 (.t 0),I.nck 15 (.t 14),I.fa 16 (.t 15) 1 9,I.fa 17 (.t 16) 6 1,I.ld 18 (.t 17) 1 false,I.mv 19 (.t 4),I.ixs 20 (.t 18) (.t 19) 2,I.fa 21 (.t 20) 0 1,I.ld 22 (.t 21) 1 false,I.mv 23 (.t 1),I.bin 24 .lss (.t 22) (.t 23)] (.t 24)])
 (.ite (.t 25)
 (.skip)
 (.seq (.keep [0,1,4]) (.exit 0)))))
 (.blk 1 (.reg [I.mv 26 (.t 4),I.bin 27 .add (.t 26) (kII 1),I.mv 4 (.t 27)])))
def F_z_167:F:=.mk
 ((.seq (.reg [I.mv 4 k0])
 ((.seq (.blk 0 (.loop [0,1,4] F_z_167_L0))
 (.reg [I.mv 28 (.t 0),I.mv 29 (.t 0),I.nck 30 (.t 29),I.fa 31 (.t 30) 1 9,I.fa 32 (.t 31) 6 1,I.ld 33 (.t 32) 1 false,I.mv 34 (.t 4),I.mv 35 (.t 1),I.build 36 [(.i .i64 0),(.sl 1 true [])] [(0,1,(.t 35))],I.buildSl 37 2 1 [(.i .i64 0),(.sl 1 true [])] [(0,(.t 36))] true,I.callr (some 38) z_237 [(.t 33),(.t 34),(.t 37)],I.nck 39 (.t 28),I.fa 40 (.t 39) 1 9,I.fa 41 (.t 40) 6 1,I.st (.t 41) (.t 38) 1 false])))))
 [] true none
def F_z_168:F:=.mk
 ((.seq (.reg [I.new 2 zPP])
 ((.seq (.drw [] [0,1,2,3,4,5,6,7] [I.ld 4 (.t 0) 1 false,I.nck 5 (.t 4),I.fa 6 (.t 5) 1 9,I.ld 7 (.t 6) 9 true,I.fa 8 (.t 1) 0 1,I.ld 9 (.t 8) 1 false,I.calls (some 10) z_169 [(.t 7),(.t 9)],I.mv 3 (.t 10)])
 ((.seq (.drw [] [0,1,2,3,4,5,6,7,8,9,10,11,12,13] [I.ld 11 (.t 0) 1 false,I.ld 12 (.t 0) 1 false,I.nck 13 (.t 12),I.fa 14 (.t 13) 1 9,I.fa 15 (.t 14) 6 1,I.ld 16 (.t 15) 1 false,I.mv 17 (.t 3),I.mv 18 (.t 3),I.bin 19 .add (.t 18) (kII 1),I.callr (some 20) z_170 [(.t 16),(.t 17),(.t 19)],.re (.ld 11 (.t 0) 1 false),I.nck 21 (.t 11),I.fa 22 (.t 21) 1 9,I.fa 23 (.t 22) 6 1,I.st (.t 23) (.t 20) 1 false])
 ((.seq (.reg [I.ld 24 (.t 0) 1 false,I.callr (some 25) z_171 [(.t 24)]])
 ((.seq (.reg [I.build 26 zPP [(11,1,kTT)],I.st (.t 2) (.t 26) 13 false])
 (.ret)))))))))))
 [.c 2 13 true] false none
def F_z_169:F:=.mk
 ((.seq (.reg [I.box 2 (.t 0) 9 true,I.box 3 (.t 1) 1 true,I.mv 4 k0])
 ((.seq (.reg [I.fa 5 (.t 2) 6 1,I.ld 6 (.t 5) 1 false,I.mkf 7 z_238 [] [(.t 3)],I.call (some 8) z_102 [(.t 6),(.t 7)],I.mv 4 (.t 8)])
 (.ret)))))
 [.t 4] false none
def F_z_170:F:=.mk
 ((.seq (.reg [I.mv 6 (.k (.sl 2 true []))])
 ((.seq (.reg [I.mv 8 (.t 0),I.mv 9 (.t 1),I.mv 10 (.t 2),I.mv 11 (.t 0),I.len 12 (.t 11) .sl,I.sl3 13 (.t 8) (.t 9) (.t 10) (.t 12) 2])
 ((.seq ((.seq (.reg [I.mv 14 (.t 1),I.mv 15 (.t 2),I.bin 16 .eql (.t 14) (.t 15)])
 (.ite (.t 16)
 ((.seq (.reg [I.mv 17 (.t 0),I.mv 6 (.t 17)])
 (.ret)))
 (.skip))))
 ((.seq (.reg [I.mv 18 (.t 0),I.len 19 (.t 18) .sl,I.mv 7 (.t 19)])
 ((.seq (.drw [] [0,1,2,3,4,5,6,7] [I.mv 20 (.t 0),I.mv 21 (.t 1),I.sl 22 (.t 20) none (some (.t 21)) 2,I.mv 23 (.t 0),I.mv 24 (.t 2),I.sl 25 (.t 23) (some (.t 24)) none 2,I.app 26 (.t 22) (.t 25) 2,I.mv 0 (.t 26)])
 ((.seq (.reg [I.mv 27 (.t 0),I.mv 28 (.t 0),I.len 29 (.t 28) .sl,I.mv 30 (.t 7),I.sl 31 (.t 27) (some (.t 29)) (some (.t 30)) 2,I.clr none (.t 31) 2 [(.i .i64 0),(.sl 1 true [])]])
 ((.seq (.reg [I.mv 32 (.t 0),I.mv 6 (.t 32)])
 (.ret)))))))))))))))
 [.t 6] true none
def F_z_171_A0:C :=
 .reg [I.new 2 zQ,I.st (.t 2) (.t 5) 5 true]
def F_z_171_B0:C :=
 .blk 1 ((.seq (.reg [I.ld 6 (.t 1) 1 false,I.ld 7 (.t 2) 5 true,I.callr (some 8) z_240 [(.t 6),(.t 7),k0]])
 (.reg [I.ld 9 (.t 1) 1 false,I.fa 10 (.t 2) 2 1,I.ld 11 (.t 10) 1 false,I.callr (some 12) z_176 [(.t 9),(.t 11)]])))
def F_z_171:F:=.mk
 ((.seq (.seq (.fzc 0 5)
 (.reg [I.box 1 (.t 0) 1 true]))
 ((.seq (.reg [I.ld 3 (.t 1) 1 false,I.callr (some 4) z_239 [(.t 3)]])
 (.blk 0 (.rng (.t 4) [1] [5] F_z_171_A0 F_z_171_B0))))))
 [] true none
def F_z_172:F:=.mk
 ((.seq (.reg [I.new 2 zPP])
 ((.seq (.reg [I.ld 4 (.t 0) 1 false,I.nck 5 (.t 4),I.fa 6 (.t 5) 1 9,I.fa 7 (.t 6) 4 1,I.ld 8 (.t 7) 1 false,I.calls (some 9) z_57 [(.t 8),(.k (.fn z_173 [] []))],I.mv 3 (.t 9)])
 ((.seq ((.seq (.drw [] [0,1,2,3,4,5,6,7,8,9,10,11] [I.mv 10 (.t 3),I.mv 11 (.t 10),.sc true 21 11 [I.ld 12 (.t 0) 1 false,I.nck 13 (.t 12),I.fa 14 (.t 13) 0 1,I.ld 15 (.t 14) 1 false,I.ld 16 (.t 0) 1 false,I.nck 17 (.t 16),I.fa 18 (.t 17) 1 9,I.ld 19 (.t 18) 9 true,I.calls (some 20) z_174 [(.t 15),(.t 19)]] (.t 20)])
 (.ite (.t 21)
 ((.seq (.reg [I.ld 22 (.t 0) 1 false,I.ld 23 (.t 1) 5 true,I.fa 24 (.t 1) 2 1,I.ld 25 (.t 24) 1 false,I.callr (some 26) z_175 [(.t 22),(.t 23),(.t 25)]])
 ((.seq (.reg [I.build 27 zPP [(9,1,kTT)],I.st (.t 2) (.t 27) 13 false])
 (.ret)))))
 (.skip))))
 ((.seq (.reg [I.ld 28 (.t 0) 1 false,I.fa 29 (.t 1) 2 1,I.ld 30 (.t 29) 1 false,I.callr (some 31) z_176 [(.t 28),(.t 30)]])
 ((.seq (.reg [I.build 32 zPP [(11,1,kTT)],I.st (.t 2) (.t 32) 13 false])
 (.ret)))))))))))
 [.c 2 13 true] false none
def F_z_173:F:=.mk
 ((.seq (.reg [I.box 1 (.t 0) 5 true,I.mv 2 kFF])
 ((.seq (.reg [I.fa 3 (.t 1) 1 1,I.ld 4 (.t 3) 1 false,I.bin 5 .eql (.t 4) (kII 68),I.mv 2 (.t 5)])
 (.ret)))))
 [.t 2] false none
def F_z_174:F:=.mk
 ((.seq (.reg [I.box 2 (.t 0) 1 true,I.box 3 (.t 1) 9 true,I.mv 4 kFF])
 ((.seq (.reg [I.fa 5 (.t 3) 6 1,I.ld 6 (.t 5) 1 false,I.mkf 7 z_242 [] [(.t 2),(.t 3)],I.call (some 8) z_241 [(.t 6),(.t 7)],I.mv 4 (.t 8)])
 (.ret)))))
 [.t 4] false none
def F_z_175:F:=.mk
 ((.seq (.reg [I.box 4 (.t 1) 5 true])
 (.drw [] [0,1,2,3,4,5,6,7,8,9,10,11,12,13,14,15,16,17,18,19] [I.mv 6 (.t 0),I.mv 7 (.t 0),I.nck 8 (.t 7),I.fa 9 (.t 8) 1 9,I.fa 10 (.t 9) 4 1,I.ld 11 (.t 10) 1 false,I.fad 12 (.t 4) 0 1,I.ldd 13 (.t 12) 1 false,I.fad 14 (.t 4) 1 1,I.ldd 15 (.t 14) 1 false,I.mv 16 (.t 2),I.fad 17 (.t 4) 3 1,I.ldd 18 (.t 17) 1 false,I.build 19 zQ [(0,1,(.t 13)),(1,1,(.t 15)),(2,1,(.t 16)),(3,1,(.t 18)),(4,1,(.k (.i .i64 (-1))))],I.buildSl 20 5 1 zQ [(0,(.t 19))] true,I.apk 21 (.t 11) (.t 20) 5,I.nck 22 (.t 6),I.fa 23 (.t 22) 1 9,I.fa 24 (.t 23) 4 1,I.st (.t 24) (.t 21) 1 false])))
 [] true none
def F_z_176_L0:C :=
 (.seq (.reg [I.bin 16 .lss (.t 15) (.t 14)])
 ((.seq (.ite (.t 16)
 (.skip)
 (.seq (.keep [0,1]) (.exit 0)))
 ((.seq (.blk 1 ((.seq (.reg [I.mv 17 (.t 15),I.mv 4 (.t 17)])
 ((.seq (.reg [I.mv 18 (.t 0),I.nck 19 (.t 18),I.fa 20 (.t 19) 1 9,I.fa 21 (.t 20) 6 1,I.ld 22 (.t 21) 1 false,I.mv 23 (.t 4),I.ixs 24 (.t 22) (.t 23) 2,I.mv 5 (.t 24)])
 ((.seq (.drw [] [0,1,2,3,4,5,6,7,8,9] [I.mv 25 (.t 0),I.nck 26 (.t 25),I.fa 27 (.t 26) 1 9,I.ld 28 (.t 27) 9 true,I.mv 29 (.t 5),I.nck 30 (.t 29),I.fa 31 (.t 30) 0 1,I.ld 32 (.t 31) 1 false,I.calls (some 33) z_243 [(.t 28),(.t 32),(kII 70)],I.un 34 .not (.t 33)])
 (.ite (.t 34)
 (.reg [I.mv 35 (.t 5),I.mv 36 (.t 5),I.nck 37 (.t 36),I.fa 38 (.t 37) 1 1,I.ld 39 (.t 38) 1 false,I.callk (some 40) z_214 [(.t 39)],I.mv 41 (.t 1),I.buildSl 42 1 1 [(.i .i64 0)] [(0,(.t 41))] true,I.apk 43 (.t 40) (.t 42) 1,I.nck 44 (.t 35),I.fa 45 (.t 44) 1 1,I.st (.t 45) (.t 43) 1 false])
 (.skip)))))))))
 (.reg [I.bin 46 .add (.t 15) (kII 1),I.mv 15 (.t 46)]))))))
def F_z_176_L1:C :=
 (.seq (.reg [I.bin 54 .lss (.t 53) (.t 52)])
 ((.seq (.ite (.t 54)
 (.skip)
 (.seq (.keep [0,6]) (.exit 2)))
 ((.seq (.blk 3 ((.seq (.reg [I.ixs 55 (.t 51) (.t 53) 5,I.ld 56 (.t 55) 5 true,I.new 8 zQ,I.st (.t 8) (.t 56) 5 true])
 ((.seq (.reg [I.fa 57 (.t 8) 1 1,I.ld 58 (.t 57) 1 false,I.bin 59 .eql (.t 58) (kII 70)])
 (.ite (.t 59)
 (.reg [I.mv 60 (.t 0),I.ld 61 (.t 8) 5 true,I.mv 62 (.t 1),I.callr (some 63) z_240 [(.t 60),(.t 61),(.t 62)]])
 (.reg [I.mv 64 (.t 6),I.ld 65 (.t 8) 5 true,I.buildSl 66 5 1 zQ [(0,(.t 65))] true,I.app 67 (.t 64) (.t 66) 5,I.mv 6 (.t 67)])))))))
 (.reg [I.bin 68 .add (.t 53) (kII 1),I.mv 53 (.t 68)]))))))
def F_z_176:F:=.mk
 ((.seq ((.seq (.seq (.fzc 0 5)
 (.reg [I.mv 9 (.t 0),I.nck 10 (.t 9),I.fa 11 (.t 10) 1 9,I.fa 12 (.t 11) 6 1,I.ld 13 (.t 12) 1 false,I.len 14 (.t 13) .sl,I.mv 15 k0]))
 (.blk 0 (.loop [0,1,14,15] F_z_176_L0))))
 ((.seq (.reg [I.mv 6 (.k (.sl 5 true []))])
 ((.seq ((.seq (.reg [I.mv 47 (.t 0),I.nck 48 (.t 47),I.fa 49 (.t 48) 1 9,I.fa 50 (.t 49) 4 1,I.ld 51 (.t 50) 1 false,I.len 52 (.t 51) .sl,I.mv 53 k0])
 (.blk 2 (.loop [0,1,6,51,52,53] F_z_176_L1))))
 (.seq (.frz [6])
 (.reg [I.mv 69 (.t 0),I.mv 70 (.t 6),I.nck 71 (.t 69),I.fa 72 (.t 71) 1 9,I.fa 73 (.t 72) 4 1,I.st (.t 73) (.t 70) 1 false]))))))))
 [] true none
def F_z_177:F:=.mk
 ((.seq (.reg [I.new 2 zPP])
 ((.seq (.reg [I.ld 3 (.t 0) 1 false,I.ld 4 (.t 1) 5 true,I.callr (some 5) z_178 [(.t 3),(.t 4)],I.st (.t 2) (.t 5) 13 false])
 (.ret)))))
 [.c 2 13 true] false none
def F_z_178:F:=.mk
 ((.seq (.reg [I.box 3 (.t 1) 5 true,I.new 4 zPP])
 ((.seq (.drw [] [0,1,2,3,4,5,6,7,8,9,10,11,12,13] [I.mv 9 (.t 0),I.nck 10 (.t 9),I.fa 11 (.t 10) 1 9,I.fa 12 (.t 11) 6 1,I.ld 13 (.t 12) 1 false,I.mv 14 (.t 0),I.nck 15 (.t 14),I.fa 16 (.t 15) 1 9,I.ld 17 (.t 16) 9 true,I.fad 18 (.t 3) 0 1,I.ldd 19 (.t 18) 1 false,I.calls (some 20) z_169 [(.t 17),(.t 19)],I.ixs 21 (.t 13) (.t 20) 2,I.mv 5 (.t 21)])
 ((.seq ((.seq (.reg [I.mv 22 (.t 5),I.nck 23 (.t 22),I.fa 24 (.t 23) 1 1,I.ld 25 (.t 24) 1 false,I.len 26 (.t 25) .sl,I.bin 27 .gtr (.t 26) k0])
 (.ite (.t 27)
 ((.seq (.reg [I.mv 28 (.t 5),I.nck 29 (.t 28),I.fa 30 (.t 29) 1 1,I.ld 31 (.t 30) 1 false,I.ixs 32 (.t 31) k0 1,I.ld 33 (.t 32) 1 false,I.mv 6 (.t 33)])
 ((.seq (.reg [I.mv 34 (.t 5),I.mv 35 (.t 5),I.nck 36 (.t 35),I.fa 37 (.t 36) 1 1,I.ld 38 (.t 37) 1 false,I.sl 39 (.t 38) (some (kII 1)) none 1,I.call (some 40) z_214p [(.t 39)],I.nck 41 (.t 34),I.fa 42 (.t 41) 1 1,I.st (.t 42) (.t 40) 1 false])
 ((.seq (.reg [I.mv 43 (.t 0),I.callr (some 44) z_171 [(.t 43)]])
 ((.seq (.reg [I.mv 45 (.t 6),I.build 46 zPP [(10,1,(.t 45)),(11,1,kTT)],I.st (.t 4) (.t 46) 13 false])
 (.ret)))))))))
 (.skip))))
 ((.seq (.reg [I.mv 47 (.t 0),I.ld 48 (.t 3) 5 true,I.callr (some 49) z_175 [(.t 47),(.t 48),k0]])
 ((.seq (.reg [I.mv 50 (.t 0),I.callr (some 51) z_171 [(.t 50)]])
 ((.seq (.reg [I.mv 52 (.t 0),I.nck 53 (.t 52),I.fa 54 (.t 53) 10 1,I.ld 55 (.t 54) 1 false,I.mkf 56 z_245 [] [(.t 3)],I.calls (some 57) z_244 [(.t 55),(.t 56)],I.mv 7 (.t 57)])
 ((.seq ((.seq (.reg [I.mv 58 (.t 7),I.bin 59 .lss (.t 58) k0])
 (.ite (.t 59)
 ((.seq (.reg [I.build 60 zPP [(9,1,kTT)],I.st (.t 4) (.t 60) 13 false])
 (.ret)))
 (.skip))))
 ((.seq (.reg [I.mv 61 (.t 0),I.nck 62 (.t 61),I.fa 63 (.t 62) 10 1,I.ld 64 (.t 63) 1 false,I.mv 65 (.t 7),I.ixs 66 (.t 64) (.t 65) 5,I.fa 67 (.t 66) 2 1,I.ld 68 (.t 67) 1 false,I.mv 8 (.t 68)])
 ((.seq (.reg [I.mv 69 (.t 0),I.mv 70 (.t 0),I.nck 71 (.t 70),I.fa 72 (.t 71) 10 1,I.ld 73 (.t 72) 1 false,I.mv 74 (.t 7),I.mv 75 (.t 7),I.bin 76 .add (.t 75) (kII 1),I.callz 77 z_246 [(.t 73),(.t 74),(.t 76)],I.nck 78 (.t 69),I.fa 79 (.t 78) 10 1,I.st (.t 79) (.t 77) 1 false])
 ((.seq (.reg [I.mv 80 (.t 8),I.build 81 zPP [(10,1,(.t 80)),(11,1,kTT)],I.st (.t 4) (.t 81) 13 false])
 (.ret)))))))))))))))))))))
 [.c 4 13 true] true none
def F_z_179:F:=.mk
 ((.seq (.reg [I.box 3 (.t 0) 4 true,I.box 4 (.t 1) 9 true,I.box 5 (.t 2) 5 true,I.mv 6 k0])
 ((.seq ((.seq (.reg [I.ld 8 (.t 3) 4 true,I.ld 9 (.t 4) 9 true,I.call (some 10) z_93 [(.t 8),(.t 9)],I.mv 7 (.t 10)])
 ((.seq (.reg [I.mv 11 (.t 7),I.bin 12 .neq (.t 11) k0])
 (.ite (.t 12)
 ((.seq (.reg [I.mv 13 (.t 7),I.mv 6 (.t 13)])
 (.ret)))
 (.skip))))))
 ((.seq ((.seq (.reg [I.fa 14 (.t 5) 1 1,I.ld 15 (.t 14) 1 false,I.bin 16 .neq (.t 15) (kII 72),I.mv 17 (.t 16),.sc false 21 17 [I.fa 18 (.t 5) 1 1,I.ld 19 (.t 18) 1 false,I.bin 20 .neq (.t 19) (kII 75)] (.t 20)])
 (.ite (.t 21)
 ((.seq (.reg [I.mv 6 (kII 8)])
 (.ret)))
 (.skip))))
 ((.seq ((.seq (.reg [I.fa 22 (.t 5) 4 1,I.ld 23 (.t 22) 1 false,I.fa 24 (.t 4) 2 1,I.ld 25 (.t 24) 1 false,I.bin 26 .lss (.t 23) (.t 25),I.mv 27 (.t 26),.sc true 31 27 [I.fa 28 (.t 5) 4 1,I.ld 29 (.t 28) 1 false,I.bin 30 .gtr (.t 29) (kII 1099511627776)] (.t 30)])
 (.ite (.t 31)
 ((.seq (.reg [I.mv 6 (kII 2)])
 (.ret)))
 (.skip))))
 ((.seq ((.seq (.reg [I.fa 32 (.t 5) 1 1,I.ld 33 (.t 32) 1 false,I.bin 34 .eql (.t 33) (kII 75)])
 (.ite (.t 34)
 ((.seq (.reg [I.mv 6 k0])
 (.ret)))
 (.skip))))
 ((.seq ((.seq (.reg [I.fa 35 (.t 5) 0 1,I.ld 36 (.t 35) 1 false,I.bin 37 .lss (.t 36) k0,I.mv 38 (.t 37),.sc true 42 38 [I.fa 39 (.t 5) 0 1,I.ld 40 (.t 39) 1 false,I.bin 41 .geq (.t 40) (kII 16)] (.t 41),I.mv 43 (.t 42),.sc true 47 43 [I.fa 44 (.t 5) 3 1,I.ld 45 (.t 44) 1 false,I.bin 46 .lss (.t 45) k0] (.t 46),I.mv 48 (.t 47),.sc true 52 48 [I.fa 49 (.t 5) 3 1,I.ld 50 (.t 49) 1 false,I.bin 51 .gtr (.t 50) (kII 9)] (.t 51),I.mv 53 (.t 52),.sc true 57 53 [I.fa 54 (.t 5) 2 1,I.ld 55 (.t 54) 1 false,I.bin 56 .lss (.t 55) (kII 1)] (.t 56),I.mv 58 (.t 57),.sc true 64 58 [I.fa 59 (.t 5) 2 1,I.ld 60 (.t 59) 1 false,I.fa 61 (.t 3) 2 1,I.ld 62 (.t 61) 1 false,I.bin 63 .gtr (.t 60) (.t 62)] (.t 63)])
 (.ite (.t 64)
 ((.seq (.reg [I.mv 6 (kII 2)])
 (.ret)))
 (.skip))))
 ((.seq ((.seq (.reg [I.ld 65 (.t 4) 9 true,I.fa 66 (.t 5) 0 1,I.ld 67 (.t 66) 1 false,I.call (some 68) z_182 [(.t 65),(.t 67)]])
 (.ite (.t 68)
 ((.seq (.reg [I.mv 6 (kII 17)])
 (.ret)))
 (.skip))))
 ((.seq (.reg [I.mv 6 k0])
 (.ret)))))))))))))))))
 [.t 6] false none
def F_z_180:F:=.mk
 ((.seq (.reg [I.box 2 (.t 0) 13 true,I.new 4 zR])
 ((.seq (.reg [I.fa 7 (.t 2) 4 9,I.ld 8 (.t 7) 9 true,I.new 5 zR,I.st (.t 5) (.t 8) 9 false])
 ((.seq (.reg [I.mv 9 (.t 1),I.fa 10 (.t 5) 2 1,I.ld 11 (.t 10) 1 false,I.bin 12 .sub (.t 9) (.t 11),I.fa 13 (.t 2) 0 4,I.fa 14 (.t 13) 3 1,I.ld 15 (.t 14) 1 false,I.bin 16 .quo (.t 12) (.t 15),I.mv 6 (.t 16)])
 ((.seq ((.seq (.reg [I.fa 17 (.t 5) 1 1,I.ld 18 (.t 17) 1 false,I.mv 19 (.t 6),I.bin 20 .add (.t 18) (.t 19),I.fa 21 (.t 2) 0 4,I.fa 22 (.t 21) 2 1,I.ld 23 (.t 22) 1 false,I.bin 24 .geq (.t 20) (.t 23)])
 (.ite (.t 24)
 ((.seq (.reg [I.fa 25 (.t 2) 0 4,I.fa 26 (.t 25) 2 1,I.ld 27 (.t 26) 1 false,I.mv 28 (.t 1),I.fa 29 (.t 5) 1 1,I.st (.t 29) (.t 27) 1 false,I.fa 30 (.t 5) 2 1,I.st (.t 30) (.t 28) 1 false])
 ((.seq (.reg [I.ld 31 (.t 5) 9 true,I.st (.t 4) (.t 31) 9 false])
 (.ret)))))
 (.skip))))
 ((.seq (.reg [I.fa 32 (.t 5) 1 1,I.ld 33 (.t 32) 1 false,I.mv 34 (.t 6),I.bin 35 .add (.t 33) (.t 34),I.fa 36 (.t 5) 1 1,I.st (.t 36) (.t 35) 1 false])
 ((.seq (.reg [I.fa 37 (.t 5) 2 1,I.ld 38 (.t 37) 1 false,I.mv 39 (.t 6),I.fa 40 (.t 2) 0 4,I.fa 41 (.t 40) 3 1,I.ld 42 (.t 41) 1 false,I.bin 43 .mul (.t 39) (.t 42),I.bin 44 .add (.t 38) (.t 43),I.fa 45 (.t 5) 2 1,I.st (.t 45) (.t 44) 1 false])
 ((.seq (.reg [I.ld 46 (.t 5) 9 true,I.st (.t 4) (.t 46) 9 false])
 (.ret)))))))))))))))
 [.c 4 9 true] false none
def F_z_181:F:=.mk
 ((.seq (.reg [I.box 1 (.t 0) 9 false,I.mv 2 (.k .nilfn)])
 ((.seq (.reg [I.mkf 3 z_247 [] [(.t 1)],I.mv 2 (.t 3)])
 (.ret)))))
 [.t 2] true none
def F_z_182:F:=.mk
 ((.seq (.reg [I.box 2 (.t 0) 9 true,I.mv 4 kFF])
 ((.seq (.reg [I.fa 8 (.t 2) 4 1,I.ld 9 (.t 8) 1 false,I.mv 10 (.t 1),I.call (some 11) z_132 [(.t 9),(.t 10)],I.mv 7 (.t 11),I.ext 12 (.t 7) 0,I.ext 13 (.t 7) 1,I.mv 5 (.t 12),I.mv 6 (.t 13)])
 ((.seq (.reg [I.mv 14 (.t 6),I.mv 4 (.t 14)])
 (.ret)))))))
 [.t 4] false none
def F_z_183:F:=.mk
 ((.seq (.reg [I.box 1 (.t 0) 9 true,I.mv 2 kFF])
 ((.seq ((.seq (.reg [I.ld 3 (.t 1) 9 true,I.call (some 4) z_248 [(.t 3)],I.un 5 .not (.t 4),I.mv 6 (.t 5),.sc true 12 6 [I.fa 7 (.t 1) 0 9,I.fa 8 (.t 7) 8 1,I.ld 9 (.t 8) 1 false,I.call (some 10) z_184 [(.t 9)],I.un 11 .not (.t 10)] (.t 11),I.mv 13 (.t 12),.sc true 17 13 [I.ld 14 (.t 1) 9 true,I.call (some 15) z_249 [(.t 14)],I.un 16 .not (.t 15)] (.t 16)])
 (.ite (.t 17)
 ((.seq (.reg [I.mv 2 kFF])
 (.ret)))
 (.skip))))
 ((.seq ((.seq (.reg [I.fa 18 (.t 1) 0 9,I.fa 19 (.t 18) 7 1,I.ld 20 (.t 19) 1 false])
 (.ite (.t 20)
 ((.seq (.reg [I.fa 21 (.t 1) 0 9,I.fa 22 (.t 21) 4 1,I.ld 23 (.t 22) 1 false,I.len 24 (.t 23) .sl,I.bin 25 .eql (.t 24) k0,I.mv 2 (.t 25)])
 (.ret)))
 (.skip))))
 ((.seq (.reg [I.fa 26 (.t 1) 0 9,I.fa 27 (.t 26) 8 1,I.ld 28 (.t 27) 1 false,I.bin 29 .eql (.t 28) k0,I.mv 2 (.t 29)])
 (.ret)))))))))
 [.t 2] false none
def F_z_184:F:=.mk
 ((.seq (.reg [I.mv 2 kFF])
 ((.seq (.reg [I.mv 3 (.t 0),I.bin 4 .geq (.t 3) (.k (.i .i64 (-1099511627776))),I.mv 5 (.t 4),.sc false 8 5 [I.mv 6 (.t 0),I.bin 7 .leq (.t 6) (kII 1099511627776)] (.t 7),I.mv 2 (.t 8)])
 (.ret)))))
 [.t 2] false none
def F_z_185:F:=.mk
 ((.seq (.reg [I.box 2 (.t 0) 9 true,I.mv 4 kFF])
 ((.seq (.reg [I.fa 8 (.t 2) 0 9,I.fa 9 (.t 8) 4 1,I.ld 10 (.t 9) 1 false,I.mv 11 (.t 1),I.call (some 12) z_132 [(.t 10),(.t 11)],I.mv 7 (.t 12),I.ext 13 (.t 7) 0,I.ext 14 (.t 7) 1,I.mv 5 (.t 13),I.mv 6 (.t 14)])
 ((.seq (.reg [I.mv 15 (.t 6),I.mv 4 (.t 15)])
 (.ret)))))))
 [.t 4] false none
def F_z_186_L0:C :=
 (.seq (.reg [I.bin 13 .lss (.t 12) (.t 11)])
 ((.seq (.ite (.t 13)
 (.skip)
 (.seq (.keep [1,2,4,5]) (.exit 0)))
 ((.seq (.blk 1 ((.seq (.reg [I.ixs 14 (.t 10) (.t 12) 5,I.ld 15 (.t 14) 5 true,I.new 7 zQ,I.st (.t 7) (.t 15) 5 true])
 (.reg [I.mv 16 (.t 5),I.fa 17 (.t 7) 0 1,I.ld 18 (.t 17) 1 false,I.fa 19 (.t 7) 1 1,I.ld 20 (.t 19) 1 false,I.mv 21 (.t 1),I.build 22 zWW [(0,1,(.t 18)),(1,1,(.t 20)),(2,1,(.t 21)),(3,1,kTT),(4,1,(.k (.i .i64 (-1))))],I.buildSl 23 5 1 zWW [(0,(.t 22))] true,I.app 24 (.t 16) (.t 23) 5,I.mv 5 (.t 24)]))))
 (.reg [I.bin 25 .add (.t 12) (kII 1),I.mv 12 (.t 25)]))))))
def F_z_186:F:=.mk
 ((.seq (.reg [I.box 2 (.t 0) 9 false,I.new 4 zPP])
 ((.seq (.reg [I.mv 5 (.k (.sl 5 true []))])
 ((.seq ((.seq (.reg [I.fa 8 (.t 2) 0 9,I.fa 9 (.t 8) 4 1,I.ld 10 (.t 9) 1 false,I.len 11 (.t 10) .sl,I.mv 12 k0])
 (.blk 0 (.loop [1,2,4,5,10,11,12] F_z_186_L0))))
 ((.seq (.reg [I.mv 26 (.t 1),I.fa 27 (.t 2) 0 9,I.fa 28 (.t 27) 7 1,I.st (.t 28) kTT 1 false,I.fa 29 (.t 2) 0 9,I.fa 30 (.t 29) 8 1,I.st (.t 30) (.t 26) 1 false,I.fa 31 (.t 2) 0 9,I.fa 32 (.t 31) 4 1,I.st (.t 32) (.k (.sl 5 true [])) 1 false])
 ((.seq (.reg [I.fa 33 (.t 2) 0 9,I.ld 34 (.t 33) 9 true,I.mv 35 (.t 5),I.build 36 zPP [(0,9,(.t 34)),(11,1,kTT),(12,1,(.t 35))],I.st (.t 4) (.t 36) 13 false])
 (.ret)))))))))))
 [.c 4 13 true] false none
def F_z_187:F:=.mk
 ((.seq (.reg [I.box 2 (.t 0) 9 false,I.box 3 (.t 1) 5 true,I.new 4 zPP])
 ((.seq ((.seq (.reg [I.fa 5 (.t 2) 0 9,I.fa 6 (.t 5) 7 1,I.ld 7 (.t 6) 1 false])
 (.ite (.t 7)
 ((.seq (.reg [I.fa 8 (.t 2) 0 9,I.ld 9 (.t 8) 9 true,I.fa 10 (.t 2) 0 9,I.fa 11 (.t 10) 8 1,I.ld 12 (.t 11) 1 false,I.build 13 zPP [(0,9,(.t 9)),(10,1,(.t 12)),(11,1,kTT)],I.st (.t 4) (.t 13) 13 false])
 (.ret)))
 (.skip))))
 ((.seq (.drw [] [0,1,2,4,5,6,7,8,9,3,10,11,12,13] [I.fa 14 (.t 2) 0 9,I.fa 15 (.t 14) 4 1,I.ld 16 (.t 15) 1 false,I.fad 18 (.t 3) 0 1,I.ldd 19 (.t 18) 1 false,I.fad 20 (.t 3) 3 1,I.ldd 21 (.t 20) 1 false,I.build 22 zQ [(0,1,(.t 19)),(1,1,(kII 74)),(3,1,(.t 21)),(4,1,(.k (.i .i64 (-1))))],I.buildSl 23 5 1 zQ [(0,(.t 22))] true,I.callk (some 17) z_153 [(.t 16)],I.app 24 (.t 17) (.t 23) 5,I.fa 25 (.t 2) 0 9,I.fa 26 (.t 25) 4 1,I.st (.t 26) (.t 24) 1 false])
 ((.seq (.reg [I.fa 27 (.t 2) 0 9,I.ld 28 (.t 27) 9 true,I.build 29 zPP [(0,9,(.t 28)),(9,1,kTT)],I.st (.t 4) (.t 29) 13 false])
 (.ret)))))))))
 [.c 4 13 true] false none
def F_z_206:F:=.mk
 ((.seq (.reg [I.box 2 (.t 0) 5 true,I.mv 3 kFF])
 ((.seq (.reg [I.fa 4 (.t 2) 0 1,I.ld 5 (.t 4) 1 false,I.fa 6 (.t 1) 0 1,I.ld 7 (.t 6) 1 false,I.bin 8 .eql (.t 5) (.t 7),I.mv 3 (.t 8)])
 (.ret)))))
 [.t 3] false none
def F_z_207:F:=.mk
 ((.seq (.reg [I.box 2 (.t 0) 9 false,I.box 3 (.t 1) 5 true,I.new 4 zPP,I.mv 5 k0])
 ((.seq ((.seq (.reg [I.fa 9 (.t 2) 0 1,I.ld 10 (.t 9) 1 false])
 (.blk 0 ((.seq (.reg [I.bin 12 .eql (.t 10) (.k (.i .i64 (-1))),I.mv 11 (.t 12)])
 (.ite (.t 11)
 ((.seq (.reg [I.fa 13 (.t 3) 0 1,I.ld 14 (.t 13) 1 false,I.fa 15 (.t 2) 0 1,I.st (.t 15) (.t 14) 1 false])
 ((.seq (.reg [I.ld 16 (.t 2) 9 true,I.build 17 zPP [(0,9,(.t 16)),(11,1,kTT)],I.st (.t 4) (.t 17) 13 false,I.mv 5 k0])
 (.ret)))))
 ((.seq (.reg [I.fa 19 (.t 3) 0 1,I.ld 20 (.t 19) 1 false,I.bin 21 .eql (.t 10) (.t 20),I.mv 18 (.t 21)])
 (.ite (.t 18)
 ((.seq (.reg [I.build 22 zPP [],I.st (.t 4) (.t 22) 13 false,I.mv 5 (kII 17)])
 (.ret)))
 (.skip))))))))))
 ((.seq (.reg [I.fa 24 (.t 2) 4 1,I.ld 25 (.t 24) 1 false,I.fa 26 (.t 3) 3 1,I.ld 27 (.t 26) 1 false,I.call (some 28) z_257 [(.t 25),(.t 27),(.k (.fn z_258 [] []))],I.mv 23 (.t 28),I.ext 29 (.t 23) 0,I.ext 30 (.t 23) 1,I.mv 6 (.t 29),I.mv 7 (.t 30)])
 ((.seq (.reg [I.fa 31 (.t 3) 0 1,I.ld 32 (.t 31) 1 false,I.fa 33 (.t 3) 3 1,I.ld 34 (.t 33) 1 false,I.build 35 zQ [(0,1,(.t 32)),(1,1,(kII 50)),(3,1,(.t 34)),(4,1,(.k (.i .i64 (-1))))],I.new 8 zQ,I.st (.t 8) (.t 35) 5 true])
 ((.seq (.drw [] [0,1,3,4,5,2,6,7,8] [I.fa 36 (.t 2) 4 1,I.ld 37 (.t 36) 1 false,I.mv 39 (.t 6),I.ldd 40 (.t 8) 5 true,I.buildSl 41 5 1 zQ [(0,(.t 40))] true,I.callk (some 38) z_153 [(.t 37)],I.callr (some 42) z_260 [(.t 38),(.t 39),(.t 41)],I.fa 43 (.t 2) 4 1,I.st (.t 43) (.t 42) 1 false])
 ((.seq (.reg [I.ld 44 (.t 2) 9 true,I.build 45 zPP [(0,9,(.t 44)),(9,1,kTT)],I.st (.t 4) (.t 45) 13 false,I.mv 5 k0])
 (.ret)))))))))))))
 [.c 4 13 true,.t 5] false none
def F_z_208:F:=.mk
 ((.seq (.reg [I.box 2 (.t 0) 9 true,I.box 3 (.t 1) 5 true,I.new 4 zPP,I.mv 5 k0])
 ((.seq ((.seq (.reg [I.fa 6 (.t 2) 0 1,I.ld 7 (.t 6) 1 false,I.bin 8 .geq (.t 7) k0])
 (.ite (.t 8)
 ((.seq (.reg [I.ld 9 (.t 2) 9 true,I.build 10 zPP [(0,9,(.t 9))],I.st (.t 4) (.t 10) 13 false,I.mv 5 k0])
 (.ret)))
 (.skip))))
 ((.seq (.reg [I.ld 11 (.t 2) 9 true,I.ld 12 (.t 3) 5 true,I.call (some 13) z_207 [(.t 11),(.t 12)],I.ext 14 (.t 13) 0,I.ext 15 (.t 13) 1,I.st (.t 4) (.t 14) 13 false,I.mv 5 (.t 15)])
 (.ret)))))))
 [.c 4 13 true,.t 5] false none
def F_z_209:F:=.mk
 ((.seq (.reg [I.box 2 (.t 0) 9 false,I.box 3 (.t 1) 5 true,I.new 4 zPP,I.mv 5 k0])
 ((.seq ((.seq (.reg [I.fa 6 (.t 2) 0 1,I.ld 7 (.t 6) 1 false,I.fa 8 (.t 3) 0 1,I.ld 9 (.t 8) 1 false,I.bin 10 .neq (.t 7) (.t 9)])
 (.ite (.t 10)
 ((.seq (.reg [I.build 11 zPP [],I.st (.t 4) (.t 11) 13 false,I.mv 5 (kII 20)])
 (.ret)))
 (.skip))))
 ((.seq ((.seq (.reg [I.fa 12 (.t 2) 4 1,I.ld 13 (.t 12) 1 false,I.len 14 (.t 13) .sl,I.bin 15 .eql (.t 14) k0])
 (.ite (.t 15)
 ((.seq (.reg [I.fa 16 (.t 2) 0 1,I.st (.t 16) (.k (.i .i64 (-1))) 1 false])
 ((.seq (.reg [I.ld 17 (.t 2) 9 true,I.build 18 zPP [(0,9,(.t 17)),(11,1,kTT)],I.st (.t 4) (.t 18) 13 false,I.mv 5 k0])
 (.ret)))))
 (.skip))))
 ((.seq (.reg [I.fa 19 (.t 2) 4 1,I.ld 20 (.t 19) 1 false,I.ixs 21 (.t 20) k0 5,I.fa 22 (.t 21) 0 1,I.ld 23 (.t 22) 1 false,I.fa 24 (.t 2) 0 1,I.st (.t 24) (.t 23) 1 false])
 ((.seq (.reg [I.fa 25 (.t 2) 4 1,I.ld 26 (.t 25) 1 false,I.sl 27 (.t 26) (some (kII 1)) none 5,I.callk (some 28) z_153 [(.t 27)],I.fa 29 (.t 2) 4 1,I.st (.t 29) (.t 28) 1 false])
 ((.seq (.reg [I.ld 30 (.t 2) 9 true,I.fa 31 (.t 2) 0 1,I.ld 32 (.t 31) 1 false,I.build 33 zWW [(0,1,(.t 32)),(1,1,(kII 50)),(3,1,kTT),(4,1,(.k (.i .i64 (-1))))],I.buildSl 34 5 1 zWW [(0,(.t 33))] true,I.build 35 zPP [(0,9,(.t 30)),(11,1,kTT),(12,1,(.t 34))],I.st (.t 4) (.t 35) 13 false,I.mv 5 k0])
 (.ret)))))))))))))
 [.c 4 13 true,.t 5] false none
def F_z_210:F:=.mk
 ((.seq (.reg [I.box 2 (.t 0) 5 true,I.mv 3 kFF])
 ((.seq (.reg [I.fa 4 (.t 2) 0 1,I.ld 5 (.t 4) 1 false,I.ld 6 (.t 1) 1 false,I.bin 7 .eql (.t 5) (.t 6),I.mv 3 (.t 7)])
 (.ret)))))
 [.t 3] false none
def F_z_211_L0:C :=
 (.seq (.reg [I.bin 11 .lss (.t 10) (.t 9)])
 ((.seq (.ite (.t 11)
 (.skip)
 (.seq (.keep [5]) (.exit 0)))
 ((.seq (.blk 1 ((.seq (.reg [I.ixs 12 (.t 8) (.t 10) 5,I.ld 13 (.t 12) 5 true,I.new 7 zQ,I.st (.t 7) (.t 13) 5 true])
 ((.seq (.reg [I.mv 14 (.t 1),I.ld 15 (.t 7) 5 true,I.callv (some 16) (.t 14) [(.t 15)]])
 (.ite (.t 16)
 (.reg [I.mv 17 (.t 5),I.ld 18 (.t 7) 5 true,I.buildSl 19 5 1 zQ [(0,(.t 18))] true,I.app 20 (.t 17) (.t 19) 5,I.mv 5 (.t 20)])
 (.skip)))))))
 (.reg [I.bin 21 .add (.t 10) (kII 1),I.mv 10 (.t 21)]))))))
def F_z_211:F:=.mk
 ((.seq (.reg [I.mv 4 (.k (.sl 5 true []))])
 ((.seq (.reg [I.mv 5 (.k (.sl 5 true []))])
 ((.seq ((.seq (.reg [I.mv 8 (.t 0),I.len 9 (.t 8) .sl,I.mv 10 k0])
 (.blk 0 (.loop [1,5,8,9,10] F_z_211_L0))))
 ((.seq (.reg [I.mv 22 (.t 5),I.mv 4 (.t 22)])
 (.ret)))))))))
 [.t 4] false none
def F_z_211q_L0:C :=
 (.seq (.reg [I.bin 11 .lss (.t 10) (.t 9)])
 ((.seq (.ite (.t 11)
 (.skip)
 (.seq (.keep [5]) (.exit 0)))
 ((.seq (.blk 1 ((.seq (.reg [I.ixs 12 (.t 8) (.t 10) 5,I.ld 13 (.t 12) 5 true,I.new 7 zQ,I.st (.t 7) (.t 13) 5 true])
 ((.seq (.reg [I.mv 14 (.t 1),I.ld 15 (.t 7) 5 true,I.callv (some 16) (.t 14) [(.t 15)]])
 (.ite (.t 16)
 (.reg [I.mv 17 (.t 5),I.ld 18 (.t 7) 5 true,I.buildSl 19 5 1 zQ [(0,(.t 18))] true,I.app 20 (.t 17) (.t 19) 5,I.mv 5 (.t 20)])
 (.skip)))))))
 (.reg [I.bin 21 .add (.t 10) (kII 1),I.mv 10 (.t 21)]))))))
def F_z_211q:F:=.mk
 ((.seq (.reg [I.mv 4 (.k (.sl 5 true []))])
 ((.seq (.reg [I.mv 5 (.k (.sl 5 true []))])
 ((.seq ((.seq (.reg [I.mv 8 (.t 0),I.len 9 (.t 8) .sl,I.mv 10 k0])
 (.blk 0 (.loop [1,5,8,9,10] F_z_211q_L0))))
 ((.seq (.reg [I.mv 22 (.t 5),I.mv 4 (.t 22)])
 (.ret)))))))))
 [.t 4] true none
def F_z_211r_L0:C :=
 (.seq (.reg [I.bin 11 .lss (.t 10) (.t 9)])
 ((.seq (.ite (.t 11)
 (.skip)
 (.seq (.keep [5]) (.exit 0)))
 ((.seq (.blk 1 ((.seq (.reg [I.ixs 12 (.t 8) (.t 10) 5,I.ld 13 (.t 12) 5 true,I.new 7 zQ,I.st (.t 7) (.t 13) 5 true])
 ((.seq (.reg [I.mv 14 (.t 1),I.ld 15 (.t 7) 5 true,I.callvr (some 16) (.t 14) [(.t 15)]])
 (.ite (.t 16)
 (.reg [I.mv 17 (.t 5),I.ld 18 (.t 7) 5 true,I.buildSl 19 5 1 zQ [(0,(.t 18))] true,I.app 20 (.t 17) (.t 19) 5,I.mv 5 (.t 20)])
 (.skip)))))))
 (.reg [I.bin 21 .add (.t 10) (kII 1),I.mv 10 (.t 21)]))))))
def F_z_211r:F:=.mk
 ((.seq (.reg [I.mv 4 (.k (.sl 5 true []))])
 ((.seq (.reg [I.mv 5 (.k (.sl 5 true []))])
 ((.seq ((.seq (.reg [I.mv 8 (.t 0),I.len 9 (.t 8) .sl,I.mv 10 k0])
 (.blk 0 (.loop [1,5,8,9,10] F_z_211r_L0))))
 ((.seq (.reg [I.mv 22 (.t 5),I.mv 4 (.t 22)])
 (.ret)))))))))
 [.t 4] true none
def F_z_212:F:=.mk
 ((.seq (.reg [I.box 2 (.t 0) 5 true,I.mv 3 kFF])
 ((.seq (.reg [I.fa 4 (.t 2) 0 1,I.ld 5 (.t 4) 1 false,I.ld 6 (.t 1) 1 false,I.bin 7 .neq (.t 5) (.t 6),I.mv 3 (.t 7)])
 (.ret)))))
 [.t 3] false none
def F_z_213_L0:C :=
 (.seq (.reg [I.bin 16 .lss (.t 15) (.t 14)])
 ((.seq (.ite (.t 16)
 (.skip)
 (.seq (.keep [1]) (.exit 0)))
 ((.seq (.blk 1 ((.seq (.reg [I.mv 17 (.t 15),I.ixs 18 (.t 13) (.t 15) 5,I.ld 19 (.t 18) 5 true,I.new 4 zQ,I.mv 3 (.t 17),I.st (.t 4) (.t 19) 5 true])
 ((.seq (.reg [I.fa 21 (.t 1) 4 1,I.ld 22 (.t 21) 1 false,I.fa 23 (.t 4) 0 1,I.ld 24 (.t 23) 1 false,I.call (some 25) z_132 [(.t 22),(.t 24)],I.mv 20 (.t 25),I.ext 26 (.t 20) 0,I.ext 27 (.t 20) 1,I.mv 5 (.t 26),I.mv 6 (.t 27)])
 ((.seq (.reg [I.mv 28 (.t 5),I.mv 29 (.t 3),I.bin 30 .neq (.t 28) (.t 29),I.mv 31 (.t 30),.sc true 40 31 [I.fa 32 (.t 4) 1 1,I.ld 33 (.t 32) 1 false,I.bin 34 .neq (.t 33) (kII 53),I.mv 35 (.t 34),.sc false 39 35 [I.fa 36 (.t 4) 1 1,I.ld 37 (.t 36) 1 false,I.bin 38 .neq (.t 37) (kII 55)] (.t 38)] (.t 39),I.mv 41 (.t 40),.sc true 45 41 [I.fa 42 (.t 4) 2 1,I.ld 43 (.t 42) 1 false,I.bin 44 .neq (.t 43) k0] (.t 44),I.mv 46 (.t 45),.sc true 50 46 [I.fa 47 (.t 4) 4 1,I.ld 48 (.t 47) 1 false,I.bin 49 .neq (.t 48) (.k (.i .i64 (-1)))] (.t 49),I.mv 51 (.t 50),.sc true 57 51 [I.ld 52 (.t 1) 9 true,I.fa 53 (.t 4) 0 1,I.ld 54 (.t 53) 1 false,I.call (some 55) z_134 [(.t 52),(.t 54)],I.bin 56 .neq (.t 55) k0] (.t 56)])
 (.ite (.t 57)
 ((.seq (.reg [I.mv 2 kFF])
 (.seq (.keep [2]) .ret)))
 (.skip)))))))))
 (.reg [I.bin 58 .add (.t 15) (kII 1),I.mv 15 (.t 58)]))))))
def F_z_213:F:=.mk
 ((.seq (.reg [I.box 1 (.t 0) 9 true,I.mv 2 kFF])
 ((.seq ((.seq (.reg [I.fa 8 (.t 1) 4 1,I.ld 9 (.t 8) 1 false,I.call (some 10) z_142 [(kII 1),(.t 9)],I.bin 11 .neq (.t 10) k0])
 (.ite (.t 11)
 ((.seq (.reg [I.mv 2 kFF])
 (.ret)))
 (.skip))))
 ((.seq ((.seq (.reg [I.fa 12 (.t 1) 4 1,I.ld 13 (.t 12) 1 false,I.len 14 (.t 13) .sl,I.mv 15 k0])
 (.blk 0 (.loop [1,13,14,15] F_z_213_L0))))
 ((.seq ((.seq (.reg [I.fa 59 (.t 1) 4 1,I.ld 60 (.t 59) 1 false,I.len 61 (.t 60) .sl,I.bin 62 .eql (.t 61) k0])
 (.ite (.t 62)
 ((.seq (.reg [I.mv 2 kTT])
 (.ret)))
 (.skip))))
 ((.seq (.reg [I.ld 63 (.t 1) 9 true,I.callk (some 64) z_133 [(.t 63)],I.mv 7 (.t 64)])
 ((.seq (.reg [I.mv 65 (.t 7),I.callr (some 66) z_140 [(.t 65)]])
 ((.seq (.reg [I.mv 67 (.t 7),I.nck 68 (.t 67),I.fa 69 (.t 68) 9 1,I.ld 70 (.t 69) 1 false,I.len 71 (.t 70) .sl,I.bin 72 .eql (.t 71) k0,I.mv 2 (.t 72)])
 (.ret)))))))))))))))
 [.t 2] false none
def F_z_214:F:=.mk
 ((.seq (.reg [I.mv 2 (.k (.sl 1 true []))])
 ((.seq ((.seq (.reg [I.mv 3 (.t 0),I.isnil 4 false (.t 3) .sl])
 (.ite (.t 4)
 ((.seq (.reg [I.mv 2 (.k (.sl 1 true []))])
 (.ret)))
 (.skip))))
 ((.seq (.reg [I.buildSl 5 1 0 [(.i .i64 0)] [] false,I.mv 6 (.t 0),I.app 7 (.t 5) (.t 6) 1,I.mv 2 (.t 7)])
 (.ret)))))))
 [.t 2] true none
def F_z_214p:F:=⟨F_z_214.code,F_z_214.res,false,none⟩
def F_z_215:F:=.mk
 ((.seq (.reg [I.mv 4 kFF])
 ((.seq (.reg [I.mv 5 (.t 0),I.mv 6 (.t 1),I.call (some 7) z_261 [(.t 5),(.t 6)],I.bin 8 .geq (.t 7) k0,I.mv 4 (.t 8)])
 (.ret)))))
 [.t 4] false none
def F_z_216:F:=.mk
 ((.seq ((.seq (.reg [I.mv 8 (.t 2),I.bin 9 .eql (.t 8) (kII 55)])
 (.ite (.t 9)
 ((.seq (.reg [I.mv 10 (.t 0),I.mv 11 (.t 1),I.nck 12 (.t 10),I.fa 13 (.t 12) 0 9,I.fa 14 (.t 13) 0 1,I.st (.t 14) (.t 11) 1 false])
 (.ret)))
 (.skip))))
 ((.seq (.reg [I.mv 16 (.t 0),I.nck 17 (.t 16),I.fa 18 (.t 17) 0 9,I.fa 19 (.t 18) 3 1,I.ld 20 (.t 19) 1 false,I.mv 21 (.t 1),I.callr (some 22) z_262q [(.t 20),(.t 21)],I.mv 15 (.t 22),I.ext 23 (.t 15) 0,I.ext 24 (.t 15) 1,I.mv 6 (.t 23),I.mv 7 (.t 24)])
 (.reg [I.mv 25 (.t 0),I.mv 26 (.t 0),I.nck 27 (.t 26),I.fa 28 (.t 27) 0 9,I.fa 29 (.t 28) 3 1,I.ld 30 (.t 29) 1 false,I.mv 31 (.t 6),I.mv 32 (.t 1),I.buildSl 33 1 1 [(.i .i64 0)] [(0,(.t 32))] true,I.callr (some 34) z_263 [(.t 30),(.t 31),(.t 33)],I.nck 35 (.t 25),I.fa 36 (.t 35) 0 9,I.fa 37 (.t 36) 3 1,I.st (.t 37) (.t 34) 1 false])))))
 [] true none
def F_z_217_L0:C :=
 (.seq (.reg [I.bin 9 .lss (.t 8) (.t 7)])
 ((.seq (.ite (.t 9)
 (.skip)
 (.seq (.keep []) (.exit 0)))
 ((.seq (.blk 1 ((.seq (.reg [I.mv 10 (.t 8),I.mv 5 (.t 10)])
 ((.seq (.reg [I.mv 11 (.t 1),I.mv 12 (.t 0),I.mv 13 (.t 5),I.ixs 14 (.t 12) (.t 13) 1,I.ld 15 (.t 14) 1 false,I.callv (some 16) (.t 11) [(.t 15)]])
 (.ite (.t 16)
 ((.seq (.reg [I.mv 17 (.t 5),I.mv 4 (.t 17)])
 (.seq (.keep [4]) .ret)))
 (.skip)))))))
 (.reg [I.bin 18 .add (.t 8) (kII 1),I.mv 8 (.t 18)]))))))
def F_z_217:F:=.mk
 ((.seq (.reg [I.mv 4 k0])
 ((.seq ((.seq (.reg [I.mv 6 (.t 0),I.len 7 (.t 6) .sl,I.mv 8 k0])
 (.blk 0 (.loop [0,1,7,8] F_z_217_L0))))
 ((.seq (.reg [I.mv 4 (.k (.i .i64 (-1)))])
 (.ret)))))))
 [.t 4] false none
def F_z_217q_L0:C :=
 (.seq (.reg [I.bin 9 .lss (.t 8) (.t 7)])
 ((.seq (.ite (.t 9)
 (.skip)
 (.seq (.keep []) (.exit 0)))
 ((.seq (.blk 1 ((.seq (.reg [I.mv 10 (.t 8),I.mv 5 (.t 10)])
 ((.seq (.reg [I.mv 11 (.t 1),I.mv 12 (.t 0),I.mv 13 (.t 5),I.ixs 14 (.t 12) (.t 13) 1,I.ld 15 (.t 14) 1 false,I.callv (some 16) (.t 11) [(.t 15)]])
 (.ite (.t 16)
 ((.seq (.reg [I.mv 17 (.t 5),I.mv 4 (.t 17)])
 (.seq (.keep [4]) .ret)))
 (.skip)))))))
 (.reg [I.bin 18 .add (.t 8) (kII 1),I.mv 8 (.t 18)]))))))
def F_z_217q:F:=.mk
 ((.seq (.reg [I.mv 4 k0])
 ((.seq ((.seq (.reg [I.mv 6 (.t 0),I.len 7 (.t 6) .sl,I.mv 8 k0])
 (.blk 0 (.loop [0,1,7,8] F_z_217q_L0))))
 ((.seq (.reg [I.mv 4 (.k (.i .i64 (-1)))])
 (.ret)))))))
 [.t 4] true none
def F_z_218:F:=.mk
 ((.seq (.reg [I.box 1 (.t 0) 5 true,I.mv 2 kFF])
 ((.seq (.blk 0 ((.seq (.reg [I.fa 4 (.t 1) 0 1,I.ld 5 (.t 4) 1 false,I.bin 6 .lss (.t 5) k0,I.mv 7 (.t 6),.sc true 11 7 [I.fa 8 (.t 1) 0 1,I.ld 9 (.t 8) 1 false,I.bin 10 .geq (.t 9) (kII 16)] (.t 10),I.mv 12 (.t 11),.sc true 16 12 [I.fa 13 (.t 1) 1 1,I.ld 14 (.t 13) 1 false,I.bin 15 .lss (.t 14) (kII 1)] (.t 15),I.mv 17 (.t 16),.sc true 21 17 [I.fa 18 (.t 1) 1 1,I.ld 19 (.t 18) 1 false,I.bin 20 .gtr (.t 19) (kII 99)] (.t 20),I.mv 22 (.t 21),.sc true 26 22 [I.fa 23 (.t 1) 2 1,I.ld 24 (.t 23) 1 false,I.bin 25 .lss (.t 24) (.k (.i .i64 (-1099511627776)))] (.t 25),I.mv 27 (.t 26),.sc true 31 27 [I.fa 28 (.t 1) 2 1,I.ld 29 (.t 28) 1 false,I.bin 30 .gtr (.t 29) (kII 1099511627776)] (.t 30),I.mv 3 (.t 31)])
 (.ite (.t 3)
 ((.seq (.reg [I.mv 2 kFF])
 (.ret)))
 (.skip)))))
 ((.seq (.reg [I.fa 32 (.t 1) 3 1,I.ld 33 (.t 32) 1 false,I.bin 34 .geq (.t 33) k0,I.mv 35 (.t 34),.sc false 39 35 [I.fa 36 (.t 1) 3 1,I.ld 37 (.t 36) 1 false,I.bin 38 .leq (.t 37) (kII 9)] (.t 38),I.mv 40 (.t 39),.sc false 44 40 [I.fa 41 (.t 1) 4 1,I.ld 42 (.t 41) 1 false,I.bin 43 .geq (.t 42) (.k (.i .i64 (-1)))] (.t 43),I.mv 45 (.t 44),.sc false 49 45 [I.fa 46 (.t 1) 4 1,I.ld 47 (.t 46) 1 false,I.bin 48 .lss (.t 47) (kII 6)] (.t 48),I.mv 2 (.t 49)])
 (.ret)))))))
 [.t 2] false none
def F_z_219:F:=.mk
 ((.seq (.reg [I.box 5 (.t 2) 1 true,I.mv 6 (.k (.sl 5 true [])),I.mv 7 (.k (.sl 5 true [])),I.mv 8 k0])
 ((.seq (.reg [I.mv 13 (.t 1),I.new 9 [(.i .i64 0)],I.new 10 [(.b false)],I.st (.t 9) (.t 13) 1 false,I.st (.t 10) kFF 1 false])
 ((.seq (.reg [I.new 11 [(.sl 5 true [])]])
 ((.seq (.reg [I.mv 14 (.t 0),I.mkf 15 z_264 [] [(.t 10),(.t 9),(.t 5),(.t 11)],I.callr (some 16) z_211r [(.t 14),(.t 15)],I.mv 12 (.t 16)])
 ((.seq (.drw [] [0,1,2,3,4,5] [I.mv 17 (.t 12),I.ld 18 (.t 11) 1 false,I.ld 19 (.t 9) 1 false,I.mv 6 (.t 17),I.mv 7 (.t 18),I.mv 8 (.t 19)])
 (.ret)))))))))))
 [.t 6,.t 7,.t 8] false none
def F_z_220:F:=.mk
 ((.seq (.reg [I.box 2 (.t 0) 9 true,I.box 3 (.t 1) 5 true,I.mv 4 kFF])
 ((.seq (.reg [I.fa 5 (.t 3) 1 1,I.ld 6 (.t 5) 1 false,I.bin 7 .eql (.t 6) (kII 63),I.mv 4 (.t 7)])
 (.ret)))))
 [.t 4] false none
def F_z_221:F:=.mk
 ((.seq (.reg [I.box 2 (.t 0) 9 true,I.box 3 (.t 1) 5 true,I.mv 4 kFF])
 ((.seq (.reg [I.fa 5 (.t 3) 0 1,I.ld 6 (.t 5) 1 false,I.bin 7 .geq (.t 6) k0,I.mv 8 (.t 7),.sc false 12 8 [I.fa 9 (.t 3) 0 1,I.ld 10 (.t 9) 1 false,I.bin 11 .lss (.t 10) (kII 16)] (.t 11),I.mv 4 (.t 12)])
 (.ret)))))
 [.t 4] false none
def F_z_222:F:=.mk
 ((.seq (.reg [I.box 2 (.t 0) 9 true,I.box 3 (.t 1) 5 true,I.mv 4 kFF])
 ((.seq (.reg [I.fa 5 (.t 3) 3 1,I.ld 6 (.t 5) 1 false,I.bin 7 .geq (.t 6) k0,I.mv 8 (.t 7),.sc false 12 8 [I.fa 9 (.t 3) 3 1,I.ld 10 (.t 9) 1 false,I.bin 11 .leq (.t 10) (kII 9)] (.t 11),I.mv 4 (.t 12)])
 (.ret)))))
 [.t 4] false none
def F_z_223:F:=.mk
 ((.seq (.reg [I.box 2 (.t 0) 9 true,I.box 3 (.t 1) 5 true,I.mv 4 kFF])
 ((.seq (.reg [I.ld 5 (.t 2) 9 true,I.fa 6 (.t 3) 0 1,I.ld 7 (.t 6) 1 false,I.call (some 8) z_155 [(.t 5),(.t 7)],I.un 9 .not (.t 8),I.mv 4 (.t 9)])
 (.ret)))))
 [.t 4] false none
def F_z_224_L0:C :=
 (.seq (.reg [I.bin 8 .lss (.t 7) (.t 6)])
 ((.seq (.ite (.t 8)
 (.skip)
 (.seq (.keep []) (.exit 0)))
 ((.seq (.blk 1 ((.seq (.reg [I.mv 9 (.t 7),I.ixs 10 (.t 5) (.t 7) 5,I.ld 11 (.t 10) 5 true,I.new 4 zQ,I.mv 3 (.t 9),I.st (.t 4) (.t 11) 5 true])
 ((.seq (.reg [I.mv 12 (.t 0),I.mv 13 (.t 3),I.ld 14 (.t 4) 5 true,I.cally (some 15) (.t 12) [(.t 13),(.t 14)],I.un 16 .not (.t 15)])
 (.ite (.t 16)
 (.seq (.keep []) .ret)
 (.skip)))))))
 (.reg [I.bin 17 .add (.t 7) (kII 1),I.mv 7 (.t 17)]))))))
def F_z_224:F:=.mk
 ((.seq (.reg [I.ld 5 (.t 1) 1 false,I.len 6 (.t 5) .sl,I.mv 7 k0])
 (.blk 0 (.loop [0,5,6,7] F_z_224_L0))))
 [] false none
def F_z_225:F:=.mk
 ((.seq (.reg [I.mv 4 kFF])
 ((.seq (.reg [I.mv 5 (.t 0),I.mv 6 (.t 1),I.call (some 7) z_217 [(.t 5),(.t 6)],I.bin 8 .geq (.t 7) k0,I.mv 4 (.t 8)])
 (.ret)))))
 [.t 4] false none
def F_z_226:F:=.mk
 ((.seq (.reg [I.mv 2 kFF])
 ((.seq (.reg [I.mv 3 (.t 0),I.call (some 4) z_160 [(.t 3)],I.un 5 .not (.t 4),I.mv 2 (.t 5)])
 (.ret)))))
 [.t 2] false none
def F_z_227:F:=.mk
 ((.seq (.reg [I.mv 4 kFF])
 ((.seq (.reg [I.mv 6 (.t 0),I.mv 7 (.t 1),I.ixs 8 (.t 6) (.t 7) 5,I.ld 9 (.t 8) 5 true,I.new 5 zQ,I.st (.t 5) (.t 9) 5 true])
 ((.seq ((.seq (.reg [I.fa 10 (.t 5) 1 1,I.ld 11 (.t 10) 1 false,I.bin 12 .neq (.t 11) (kII 64),I.mv 13 (.t 12),.sc false 22 13 [I.fa 14 (.t 5) 1 1,I.ld 15 (.t 14) 1 false,I.bin 16 .neq (.t 15) (kII 65),I.mv 17 (.t 16),.sc true 21 17 [I.fa 18 (.t 5) 2 1,I.ld 19 (.t 18) 1 false,I.bin 20 .neq (.t 19) k0] (.t 20)] (.t 21)])
 (.ite (.t 22)
 ((.seq (.reg [I.mv 4 kFF])
 (.ret)))
 (.skip))))
 ((.seq (.reg [I.mv 23 (.t 0),I.mv 24 (.t 1),I.sl 25 (.t 23) none (some (.t 24)) 5,I.mkf 26 z_265 [] [(.t 5)],I.call (some 27) z_57 [(.t 25),(.t 26)],I.un 28 .not (.t 27),I.mv 4 (.t 28)])
 (.ret)))))))))
 [.t 4] false none
def F_z_228:F:=.mk
 ((.seq (.reg [I.box 2 (.t 0) 4 true,I.box 3 (.t 1) 9 true,I.mv 4 kFF])
 ((.seq (.reg [I.fa 5 (.t 3) 4 1,I.ld 6 (.t 5) 1 false,I.mkf 7 z_266 [] [(.t 3),(.t 2)],I.call (some 8) z_57 [(.t 6),(.t 7)],I.mv 4 (.t 8)])
 (.ret)))))
 [.t 4] false none
def F_z_229:F:=.mk
 ((.seq (.reg [I.box 3 (.t 1) 5 true,I.new 4 zPP])
 ((.seq (.reg [I.mv 5 (.t 0),I.ld 6 (.t 3) 5 true,I.callr (some 7) z_230 [(.t 5),(.t 6)],I.st (.t 4) (.t 7) 13 false])
 (.ret)))))
 [.c 4 13 true] false none
def F_z_230:F:=.mk
 ((.seq (.reg [I.box 3 (.t 1) 5 true,I.new 4 zPP])
 ((.seq ((.seq (.reg [I.mv 8 (.t 0),I.callr (some 9) z_268 [(.t 8),(kII 65)],I.mv 7 (.t 9),I.ext 10 (.t 7) 0,I.ext 11 (.t 7) 1,I.new 5 zQ,I.st (.t 5) (.t 10) 5 true,I.mv 6 (.t 11)])
 ((.seq (.reg [I.mv 12 (.t 6)])
 (.ite (.t 12)
 ((.seq (.reg [I.mv 13 (.t 0),I.ld 14 (.t 5) 5 true,I.fa 15 (.t 3) 2 1,I.ld 16 (.t 15) 1 false,I.callr (some 17) z_269 [(.t 13),(.t 14),(.t 16),kTT]])
 ((.seq (.reg [I.mv 18 (.t 0),I.callr (some 19) z_270 [(.t 18),k0,kTT],I.st (.t 4) (.t 19) 13 false])
 (.ret)))))
 (.skip))))))
 ((.seq ((.seq (.drw [] [0,1,2,3,4,5,6,7,8,9,10] [I.mv 20 (.t 0),I.nck 21 (.t 20),I.fa 22 (.t 21) 1 9,I.fa 23 (.t 22) 5 1,I.ld 24 (.t 23) 1 false,I.len 25 (.t 24) .sl,I.mv 26 (.t 0),I.nck 27 (.t 26),I.fa 28 (.t 27) 0 1,I.ld 29 (.t 28) 1 false,I.bin 30 .lss (.t 25) (.t 29)])
 (.ite (.t 30)
 ((.seq (.reg [I.mv 31 (.t 0),I.fa 32 (.t 3) 2 1,I.ld 33 (.t 32) 1 false,I.callr (some 34) z_271 [(.t 31),(.t 33)]])
 ((.seq (.reg [I.mv 35 (.t 0),I.callr (some 36) z_270 [(.t 35),k0,kTT],I.st (.t 4) (.t 36) 13 false])
 (.ret)))))
 (.skip))))
 ((.seq (.reg [I.mv 37 (.t 0),I.ld 38 (.t 3) 5 true,I.callr (some 39) z_272 [(.t 37),(.t 38)],I.st (.t 4) (.t 39) 13 false])
 (.ret)))))))))
 [.c 4 13 true] true none
def F_z_231:F:=.mk
 ((.seq (.reg [I.box 3 (.t 1) 5 true,I.new 4 zPP])
 ((.seq (.reg [I.mv 5 (.t 0),I.ld 6 (.t 3) 5 true,I.callr (some 7) z_232 [(.t 5),(.t 6)],I.st (.t 4) (.t 7) 13 false])
 (.ret)))))
 [.c 4 13 true] false none
def F_z_232:F:=.mk
 ((.seq (.reg [I.box 3 (.t 1) 5 true,I.new 4 zPP])
 ((.seq (.reg [I.mv 9 (.t 0),I.callr (some 10) z_268 [(.t 9),(kII 64)],I.mv 8 (.t 10),I.ext 11 (.t 8) 0,I.ext 12 (.t 8) 1,I.new 5 zQ,I.st (.t 5) (.t 11) 5 true,I.mv 6 (.t 12)])
 ((.seq (.blk 0 ((.seq (.reg [I.mv 14 (.t 0),I.nck 15 (.t 14),I.fa 16 (.t 15) 1 9,I.fa 17 (.t 16) 5 1,I.ld 18 (.t 17) 1 false,I.len 19 (.t 18) .sl,I.bin 20 .gtr (.t 19) k0,I.mv 13 (.t 20)])
 (.ite (.t 13)
 ((.seq (.reg [I.mv 21 (.t 0),I.nck 22 (.t 21),I.fa 23 (.t 22) 1 9,I.fa 24 (.t 23) 5 1,I.ld 25 (.t 24) 1 false,I.ixs 26 (.t 25) k0 1,I.ld 27 (.t 26) 1 false,I.mv 7 (.t 27)])
 ((.seq (.reg [I.mv 28 (.t 0),I.mv 29 (.t 0),I.nck 30 (.t 29),I.fa 31 (.t 30) 1 9,I.fa 32 (.t 31) 5 1,I.ld 33 (.t 32) 1 false,I.sl 34 (.t 33) (some (kII 1)) none 1,I.nck 35 (.t 28),I.fa 36 (.t 35) 1 9,I.fa 37 (.t 36) 5 1,I.st (.t 37) (.t 34) 1 false])
 ((.seq ((.seq (.reg [I.mv 38 (.t 6)])
 (.ite (.t 38)
 ((.seq (.reg [I.mv 39 (.t 0),I.fa 40 (.t 5) 2 1,I.ld 41 (.t 40) 1 false,I.callr (some 42) z_271 [(.t 39),(.t 41)]])
 (.reg [I.mv 43 (.t 0),I.ld 44 (.t 5) 5 true,I.callr (some 45) z_269 [(.t 43),(.t 44),k0,kTT]])))
 (.skip))))
 ((.seq (.reg [I.mv 46 (.t 0),I.mv 47 (.t 7),I.callr (some 48) z_270 [(.t 46),(.t 47),kTT],I.st (.t 4) (.t 48) 13 false])
 (.ret)))))))))
 ((.seq (.reg [I.mv 50 (.t 6),I.mv 49 (.t 50)])
 (.ite (.t 49)
 ((.seq (.reg [I.mv 51 (.t 0),I.ld 52 (.t 5) 5 true,I.callr (some 53) z_269 [(.t 51),(.t 52),k0,kTT]])
 ((.seq (.reg [I.mv 54 (.t 0),I.fa 55 (.t 5) 2 1,I.ld 56 (.t 55) 1 false,I.callr (some 57) z_270 [(.t 54),(.t 56),kTT],I.st (.t 4) (.t 57) 13 false])
 (.ret)))))
 ((.seq (.reg [I.mv 59 (.t 0),I.nck 60 (.t 59),I.fa 61 (.t 60) 1 9,I.fa 62 (.t 61) 7 1,I.ld 63 (.t 62) 1 false,I.mv 58 (.t 63)])
 (.ite (.t 58)
 ((.seq (.reg [I.mv 64 (.t 0),I.callr (some 65) z_270 [(.t 64),k0,kFF],I.st (.t 4) (.t 65) 13 false])
 (.ret)))
 (.skip)))))))))))
 ((.seq (.reg [I.mv 66 (.t 0),I.ld 67 (.t 3) 5 true,I.callr (some 68) z_272 [(.t 66),(.t 67)],I.st (.t 4) (.t 68) 13 false])
 (.ret)))))))))
 [.c 4 13 true] true none
def F_z_233:F:=.mk
 ((.seq (.reg [I.box 3 (.t 1) 5 true,I.new 4 zPP])
 ((.seq (.reg [I.mv 5 (.t 0),I.ld 6 (.t 3) 5 true,I.callr (some 7) z_234 [(.t 5),(.t 6)],I.st (.t 4) (.t 7) 13 false])
 (.ret)))))
 [.c 4 13 true] false none
def F_z_234_L0:C :=
 (.seq ((.seq (.reg [I.mv 9 (.t 0),I.nck 10 (.t 9),I.fa 11 (.t 10) 1 9,I.fa 12 (.t 11) 4 1,I.ld 13 (.t 12) 1 false,I.len 14 (.t 13) .sl,I.bin 15 .gtr (.t 14) k0])
 (.ite (.t 15)
 (.skip)
 (.seq (.keep [0,4]) (.exit 0)))))
 (.blk 1 (.reg [I.mv 16 (.t 0),I.mv 17 (.t 0),I.nck 18 (.t 17),I.fa 19 (.t 18) 1 9,I.fa 20 (.t 19) 4 1,I.ld 21 (.t 20) 1 false,I.ixs 22 (.t 21) k0 5,I.ld 23 (.t 22) 5 true,I.callr (some 24) z_269 [(.t 16),(.t 23),k0,kFF]])))
def F_z_234:F:=.mk
 ((.seq (.reg [I.box 3 (.t 1) 5 true,I.new 4 zPP])
 ((.seq (.reg [I.mv 5 (.t 0),I.nck 6 (.t 5),I.fa 7 (.t 6) 1 9,I.fa 8 (.t 7) 7 1,I.st (.t 8) kTT 1 false])
 ((.seq (.blk 0 (.loop [0,4] F_z_234_L0))
 ((.seq (.reg [I.mv 25 (.t 0),I.callr (some 26) z_270 [(.t 25),k0,kTT],I.st (.t 4) (.t 26) 13 false])
 (.ret)))))))))
 [.c 4 13 true] true none
def F_z_235:F:=.mk
 ((.seq (.reg [I.mv 2 kFF])
 ((.seq (.reg [I.mv 3 (.t 0),I.bin 4 .geq (.t 3) (.k (.i .i64 (-1099511627776))),I.mv 5 (.t 4),.sc false 8 5 [I.mv 6 (.t 0),I.bin 7 .leq (.t 6) (kII 1099511627776)] (.t 7),I.mv 2 (.t 8)])
 (.ret)))))
 [.t 2] false none
def F_z_236:F:=.mk
 ((.seq (.reg [I.mv 2 (.k (.sl 2 true []))])
 ((.seq ((.seq (.reg [I.mv 3 (.t 0),I.isnil 4 false (.t 3) .sl])
 (.ite (.t 4)
 ((.seq (.reg [I.mv 2 (.k (.sl 2 true []))])
 (.ret)))
 (.skip))))
 ((.seq (.reg [I.buildSl 5 2 0 [(.i .i64 0),(.sl 1 true [])] [] false,I.mv 6 (.t 0),I.app 7 (.t 5) (.t 6) 2,I.mv 2 (.t 7)])
 (.ret)))))))
 [.t 2] true none
def R_z_237:F:=.mk
 ((.seq (.reg [I.mv 6 (.k (.sl 2 true []))])
 ((.seq (.reg [I.mv 10 (.t 0),I.mv 11 (.t 1),I.sl 12 (.t 10) (some (.t 11)) none 2])
 ((.seq (.reg [I.mv 13 (.t 2),I.len 14 (.t 13) .sl,I.mv 7 (.t 14)])
 ((.seq ((.seq (.reg [I.mv 15 (.t 7),I.bin 16 .eql (.t 15) k0])
 (.ite (.t 16)
 ((.seq (.reg [I.mv 17 (.t 0),I.mv 6 (.t 17)])
 (.ret)))
 (.skip))))
 ((.seq (.reg [I.mv 18 (.t 0),I.len 19 (.t 18) .sl,I.mv 8 (.t 19)])
 ((.seq ((.seq (.reg [I.mv 20 (.t 1),I.mv 21 (.t 8),I.bin 22 .eql (.t 20) (.t 21)])
 (.ite (.t 22)
 ((.seq (.reg [I.mv 23 (.t 0),I.mv 24 (.t 2),I.app 25 (.t 23) (.t 24) 2,I.mv 6 (.t 25)])
 (.ret)))
 (.skip))))
 ((.seq ((.seq (.reg [I.mv 26 (.t 8),I.mv 27 (.t 7),I.bin 28 .add (.t 26) (.t 27),I.mv 29 (.t 0),I.cap 30 (.t 29),I.bin 31 .gtr (.t 28) (.t 30)])
 (.ite (.t 31)
 ((.seq (.reg [I.mv 32 (.t 0),I.mv 33 (.t 1),I.sl 34 (.t 32) none (some (.t 33)) 2,I.mv 35 (.t 8),I.mv 36 (.t 7),I.bin 37 .add (.t 35) (.t 36),I.mv 38 (.t 1),I.bin 39 .sub (.t 37) (.t 38),I.appz 40 (.t 34) (.t 39) 2 [(.i .i64 0),(.sl 1 true [])],I.mv 9 (.t 40)])
 ((.seq (.reg [I.mv 41 (.t 9),I.mv 42 (.t 1),I.sl 43 (.t 41) (some (.t 42)) none 2,I.mv 44 (.t 2),I.copy (some 45) (.t 43) (.t 44) 2])
 ((.seq (.drw [] [0,1,2,3,4,5,6,7,8] [I.mv 46 (.t 9),I.mv 47 (.t 1),I.mv 48 (.t 7),I.bin 49 .add (.t 47) (.t 48),I.sl 50 (.t 46) (some (.t 49)) none 2,I.mv 51 (.t 0),I.mv 52 (.t 1),I.sl 53 (.t 51) (some (.t 52)) none 2,I.copy (some 54) (.t 50) (.t 53) 2])
 ((.seq (.reg [I.mv 55 (.t 9),I.mv 6 (.t 55)])
 (.ret)))))))))
 (.skip))))
 ((.seq (.reg [I.mv 56 (.t 0),I.mv 57 (.t 8),I.mv 58 (.t 7),I.bin 59 .add (.t 57) (.t 58),I.sl 60 (.t 56) none (some (.t 59)) 2,I.mv 0 (.t 60)])
 ((.seq ((.seq (.reg [I.mv 61 (.t 2),I.mv 62 (.t 0),I.mv 63 (.t 1),I.mv 64 (.t 7),I.bin 65 .add (.t 63) (.t 64),I.sl 66 (.t 62) (some (.t 65)) none 2,I.ovl 67 z_273 (.t 61) (.t 66) 2,I.un 68 .not (.t 67)])
 (.ite (.t 68)
 ((.seq (.drw [] [0,1,2,3,4,5,6,7,8] [I.mv 69 (.t 0),I.mv 70 (.t 1),I.mv 71 (.t 7),I.bin 72 .add (.t 70) (.t 71),I.sl 73 (.t 69) (some (.t 72)) none 2,I.mv 74 (.t 0),I.mv 75 (.t 1),I.sl 76 (.t 74) (some (.t 75)) none 2,I.copy (some 77) (.t 73) (.t 76) 2])
 ((.seq (.reg [I.mv 78 (.t 0),I.mv 79 (.t 1),I.sl 80 (.t 78) (some (.t 79)) none 2,I.mv 81 (.t 2),I.copy (some 82) (.t 80) (.t 81) 2])
 ((.seq (.reg [I.mv 83 (.t 0),I.mv 6 (.t 83)])
 (.ret)))))))
 (.skip))))
 ((.seq (.reg [I.mv 84 (.t 0),I.mv 85 (.t 8),I.sl 86 (.t 84) (some (.t 85)) none 2,I.mv 87 (.t 2),I.copy (some 88) (.t 86) (.t 87) 2])
 ((.seq (.reg [I.mv 89 (.t 0),I.mv 90 (.t 1),I.sl 91 (.t 89) (some (.t 90)) none 2,I.mv 92 (.t 7),I.call (some 93) z_274 [(.t 91),(.t 92)]])
 ((.seq (.reg [I.mv 94 (.t 0),I.mv 6 (.t 94)])
 (.ret)))))))))))))))))))))))))
 [.t 6] false none
def F_z_238:F:=.mk
 ((.seq (.reg [I.box 2 (.t 0) 2 true,I.mv 3 kFF])
 ((.seq (.reg [I.fa 4 (.t 2) 0 1,I.ld 5 (.t 4) 1 false,I.ld 6 (.t 1) 1 false,I.bin 7 .eql (.t 5) (.t 6),I.mv 3 (.t 7)])
 (.ret)))))
 [.t 3] false none
def F_z_239:F:=.mk
 ((.seq (.reg [I.box 1 (.t 0) 1 true,I.mv 2 (.k .nilfn)])
 ((.seq (.reg [I.mkf 3 z_275 [] [(.t 1)],I.mv 2 (.t 3)])
 (.ret)))))
 [.t 2] true none
def F_z_240:F:=.mk
 ((.seq (.reg [I.box 4 (.t 1) 5 true])
 (.drw [] [0,1,2,3,4,5,6,7,8,9,10,11,12,13,14,15] [I.mv 6 (.t 0),I.mv 7 (.t 0),I.nck 8 (.t 7),I.fa 9 (.t 8) 10 1,I.ld 10 (.t 9) 1 false,I.fad 11 (.t 4) 0 1,I.ldd 12 (.t 11) 1 false,I.fad 13 (.t 4) 1 1,I.ldd 14 (.t 13) 1 false,I.mv 15 (.t 2),I.build 16 zWW [(0,1,(.t 12)),(1,1,(.t 14)),(2,1,(.t 15)),(3,1,kTT),(4,1,(.k (.i .i64 (-1))))],I.buildSl 17 5 1 zWW [(0,(.t 16))] true,I.app 18 (.t 10) (.t 17) 5,I.nck 19 (.t 6),I.fa 20 (.t 19) 10 1,I.st (.t 20) (.t 18) 1 false])))
 [] true none
def F_z_241:F:=.mk
 ((.seq (.reg [I.mv 4 kFF])
 ((.seq (.reg [I.mv 5 (.t 0),I.mv 6 (.t 1),I.call (some 7) z_102 [(.t 5),(.t 6)],I.bin 8 .geq (.t 7) k0,I.mv 4 (.t 8)])
 (.ret)))))
 [.t 4] false none
def F_z_242:F:=.mk
 ((.seq (.reg [I.box 3 (.t 0) 2 true,I.mv 4 kFF])
 ((.seq (.reg [I.fa 5 (.t 3) 1 1,I.ld 6 (.t 5) 1 false,I.len 7 (.t 6) .sl,I.ld 8 (.t 1) 1 false,I.bin 9 .eql (.t 7) (.t 8),I.mv 10 (.t 9),.sc false 16 10 [I.ld 11 (.t 2) 9 true,I.fa 12 (.t 3) 0 1,I.ld 13 (.t 12) 1 false,I.call (some 14) z_243 [(.t 11),(.t 13),(kII 70)],I.un 15 .not (.t 14)] (.t 15),I.mv 4 (.t 16)])
 (.ret)))))
 [.t 4] false none
def F_z_243:F:=.mk
 ((.seq (.reg [I.box 3 (.t 0) 9 true,I.box 4 (.t 1) 1 true,I.box 5 (.t 2) 1 true,I.mv 6 kFF])
 ((.seq (.reg [I.fa 7 (.t 3) 4 1,I.ld 8 (.t 7) 1 false,I.mkf 9 z_278 [] [(.t 4),(.t 5)],I.call (some 10) z_57 [(.t 8),(.t 9)],I.mv 6 (.t 10)])
 (.ret)))))
 [.t 6] false none
def F_z_244_L0:C :=
 (.seq (.reg [I.bin 9 .lss (.t 8) (.t 7)])
 ((.seq (.ite (.t 9)
 (.skip)
 (.seq (.keep []) (.exit 0)))
 ((.seq (.blk 1 ((.seq (.reg [I.mv 10 (.t 8),I.mv 5 (.t 10)])
 ((.seq (.reg [I.mv 11 (.t 1),I.mv 12 (.t 0),I.mv 13 (.t 5),I.ixs 14 (.t 12) (.t 13) 5,I.ld 15 (.t 14) 5 true,I.callv (some 16) (.t 11) [(.t 15)]])
 (.ite (.t 16)
 ((.seq (.reg [I.mv 17 (.t 5),I.mv 4 (.t 17)])
 (.seq (.keep [4]) .ret)))
 (.skip)))))))
 (.reg [I.bin 18 .add (.t 8) (kII 1),I.mv 8 (.t 18)]))))))
def F_z_244:F:=.mk
 ((.seq (.reg [I.mv 4 k0])
 ((.seq ((.seq (.reg [I.mv 6 (.t 0),I.len 7 (.t 6) .sl,I.mv 8 k0])
 (.blk 0 (.loop [0,1,7,8] F_z_244_L0))))
 ((.seq (.reg [I.mv 4 (.k (.i .i64 (-1)))])
 (.ret)))))))
 [.t 4] false none
def F_z_245:F:=.mk
 ((.seq (.reg [I.box 2 (.t 0) 5 true,I.mv 3 kFF])
 ((.seq (.reg [I.fa 4 (.t 2) 0 1,I.ld 5 (.t 4) 1 false,I.fa 6 (.t 1) 0 1,I.ld 7 (.t 6) 1 false,I.bin 8 .eql (.t 5) (.t 7),I.mv 3 (.t 8)])
 (.ret)))))
 [.t 3] false none
def F_z_246:F:=.mk
 ((.seq (.reg [I.mv 6 (.k (.sl 5 true []))])
 ((.seq (.reg [I.mv 8 (.t 0),I.mv 9 (.t 1),I.mv 10 (.t 2),I.mv 11 (.t 0),I.len 12 (.t 11) .sl,I.sl3 13 (.t 8) (.t 9) (.t 10) (.t 12) 5])
 ((.seq ((.seq (.reg [I.mv 14 (.t 1),I.mv 15 (.t 2),I.bin 16 .eql (.t 14) (.t 15)])
 (.ite (.t 16)
 ((.seq (.reg [I.mv 17 (.t 0),I.mv 6 (.t 17)])
 (.ret)))
 (.skip))))
 ((.seq (.reg [I.mv 18 (.t 0),I.len 19 (.t 18) .sl,I.mv 7 (.t 19)])
 ((.seq (.drw [] [0,1,2,3,4,5,6,7] [I.mv 20 (.t 0),I.mv 21 (.t 1),I.sl 22 (.t 20) none (some (.t 21)) 5,I.mv 23 (.t 0),I.mv 24 (.t 2),I.sl 25 (.t 23) (some (.t 24)) none 5,I.app 26 (.t 22) (.t 25) 5,I.mv 0 (.t 26)])
 ((.seq (.reg [I.mv 27 (.t 0),I.mv 28 (.t 0),I.len 29 (.t 28) .sl,I.mv 30 (.t 7),I.sl 31 (.t 27) (some (.t 29)) (some (.t 30)) 5,I.clr none (.t 31) 5 zWW])
 ((.seq (.reg [I.mv 32 (.t 0),I.mv 6 (.t 32)])
 (.ret)))))))))))))))
 [.t 6] true none
def F_z_247_L0:C :=
 (.seq ((.seq (.drw [] [0,1,2,3,4,5,6,7,8,9,10,11,12,13] [I.fa 4 (.t 1) 4 1,I.ld 5 (.t 4) 1 false,I.len 6 (.t 5) .sl,I.bin 7 .gtr (.t 6) k0,I.mv 8 (.t 7),.sc false 17 8 [I.fa 9 (.t 1) 4 1,I.ld 10 (.t 9) 1 false,I.ixs 11 (.t 10) k0 5,I.fa 12 (.t 11) 2 1,I.ld 13 (.t 12) 1 false,I.fa 14 (.t 1) 1 1,I.ld 15 (.t 14) 1 false,I.bin 16 .leq (.t 13) (.t 15)] (.t 16)])
 (.ite (.t 17)
 (.skip)
 (.seq (.keep []) (.exit 0)))))
 (.blk 1 ((.seq (.reg [I.fa 18 (.t 1) 4 1,I.ld 19 (.t 18) 1 false,I.ixs 20 (.t 19) k0 5,I.ld 21 (.t 20) 5 true,I.new 3 zQ,I.st (.t 3) (.t 21) 5 true])
 ((.seq (.reg [I.fa 22 (.t 1) 4 1,I.ld 23 (.t 22) 1 false,I.sl 24 (.t 23) (some (kII 1)) none 5,I.callk (some 25) z_153 [(.t 24)],I.fa 26 (.t 1) 4 1,I.st (.t 26) (.t 25) 1 false])
 ((.seq (.reg [I.fa 27 (.t 1) 1 1,I.ld 28 (.t 27) 1 false,I.fa 29 (.t 3) 2 1,I.ld 30 (.t 29) 1 false,I.bin 31 .sub (.t 28) (.t 30),I.fa 32 (.t 1) 1 1,I.st (.t 32) (.t 31) 1 false])
 ((.seq (.reg [I.mv 33 (.t 0),I.ld 34 (.t 3) 5 true,I.ld 35 (.t 1) 9 true,I.cally (some 36) (.t 33) [(.t 34),(.t 35)],I.un 37 .not (.t 36)])
 (.ite (.t 37)
 (.seq (.keep []) .ret)
 (.skip))))))))))))
def F_z_247:F:=.mk
 (.blk 0 (.loop [0,1] F_z_247_L0))
 [] false none
def F_z_248:F:=.mk
 ((.seq (.reg [I.box 1 (.t 0) 9 true,I.mv 2 kFF])
 ((.seq (.reg [I.fa 3 (.t 1) 0 9,I.fa 4 (.t 3) 0 1,I.ld 5 (.t 4) 1 false,I.bin 6 .eql (.t 5) (.k (.i .i64 (-1))),I.mv 7 (.t 6),.sc false 12 7 [I.fa 8 (.t 1) 0 9,I.fa 9 (.t 8) 1 1,I.ld 10 (.t 9) 1 false,I.bin 11 .eql (.t 10) k0] (.t 11),I.mv 13 (.t 12),.sc false 18 13 [I.fa 14 (.t 1) 0 9,I.fa 15 (.t 14) 2 1,I.ld 16 (.t 15) 1 false,I.bin 17 .eql (.t 16) k0] (.t 17),I.mv 19 (.t 18),.sc false 25 19 [I.fa 20 (.t 1) 0 9,I.fa 21 (.t 20) 3 1,I.ld 22 (.t 21) 1 false,I.len 23 (.t 22) .sl,I.bin 24 .eql (.t 23) k0] (.t 24),I.mv 26 (.t 25),.sc false 32 26 [I.fa 27 (.t 1) 0 9,I.fa 28 (.t 27) 5 1,I.ld 29 (.t 28) 1 false,I.len 30 (.t 29) .sl,I.bin 31 .eql (.t 30) k0] (.t 31),I.mv 33 (.t 32),.sc false 39 33 [I.fa 34 (.t 1) 0 9,I.fa 35 (.t 34) 6 1,I.ld 36 (.t 35) 1 false,I.len 37 (.t 36) .sl,I.bin 38 .eql (.t 37) k0] (.t 38),I.mv 2 (.t 39)])
 (.ret)))))
 [.t 2] false none
def F_z_249_L0:C :=
 (.seq (.reg [I.bin 12 .lss (.t 11) (.t 10)])
 ((.seq (.ite (.t 12)
 (.skip)
 (.seq (.keep [1]) (.exit 0)))
 ((.seq (.blk 1 ((.seq (.reg [I.mv 13 (.t 11),I.ixs 14 (.t 9) (.t 11) 5,I.ld 15 (.t 14) 5 true,I.new 4 zQ,I.mv 3 (.t 13),I.st (.t 4) (.t 15) 5 true])
 ((.seq (.reg [I.fa 17 (.t 1) 0 9,I.fa 18 (.t 17) 4 1,I.ld 19 (.t 18) 1 false,I.fa 20 (.t 4) 0 1,I.ld 21 (.t 20) 1 false,I.call (some 22) z_132 [(.t 19),(.t 21)],I.mv 16 (.t 22),I.ext 23 (.t 16) 0,I.ext 24 (.t 16) 1,I.mv 5 (.t 23),I.mv 6 (.t 24)])
 ((.seq (.reg [I.mv 25 (.t 5),I.mv 26 (.t 3),I.bin 27 .neq (.t 25) (.t 26),I.mv 28 (.t 27),.sc true 32 28 [I.fa 29 (.t 4) 1 1,I.ld 30 (.t 29) 1 false,I.bin 31 .neq (.t 30) (kII 74)] (.t 31),I.mv 33 (.t 32),.sc true 37 33 [I.fa 34 (.t 4) 2 1,I.ld 35 (.t 34) 1 false,I.bin 36 .neq (.t 35) k0] (.t 36),I.mv 38 (.t 37),.sc true 42 38 [I.fa 39 (.t 4) 4 1,I.ld 40 (.t 39) 1 false,I.bin 41 .neq (.t 40) (.k (.i .i64 (-1)))] (.t 41)])
 (.ite (.t 42)
 ((.seq (.reg [I.mv 2 kFF])
 (.seq (.keep [2]) .ret)))
 (.skip)))))))))
 (.reg [I.bin 43 .add (.t 11) (kII 1),I.mv 11 (.t 43)]))))))
def F_z_249:F:=.mk
 ((.seq (.reg [I.box 1 (.t 0) 9 true,I.mv 2 kFF])
 ((.seq ((.seq (.reg [I.fa 7 (.t 1) 0 9,I.fa 8 (.t 7) 4 1,I.ld 9 (.t 8) 1 false,I.len 10 (.t 9) .sl,I.mv 11 k0])
 (.blk 0 (.loop [1,9,10,11] F_z_249_L0))))
 ((.seq (.reg [I.fa 44 (.t 1) 0 9,I.fa 45 (.t 44) 4 1,I.ld 46 (.t 45) 1 false,I.call (some 47) z_142 [(kII 1),(.t 46)],I.bin 48 .eql (.t 47) k0,I.mv 2 (.t 48)])
 (.ret)))))))
 [.t 2] false none
def F_z_257_L0:C :=
 (.seq ((.seq (.reg [I.mv 15 (.t 9),I.mv 16 (.t 10),I.bin 17 .lss (.t 15) (.t 16)])
 (.ite (.t 17)
 (.skip)
 (.seq (.keep [0,1,2,8,9]) (.exit 0)))))
 (.blk 1 ((.seq (.reg [I.mv 18 (.t 9),I.mv 19 (.t 10),I.bin 20 .add (.t 18) (.t 19),I.cvi 21 .u64 (.t 20),I.bin 22 .shr (.t 21) (.k (.i .u64 1)),I.cvi 23 .i64 (.t 22),I.mv 11 (.t 23)])
 ((.seq (.reg [I.mv 24 (.t 2),I.mv 25 (.t 0),I.mv 26 (.t 11),I.ixs 27 (.t 25) (.t 26) 5,I.ld 28 (.t 27) 5 true,I.mv 29 (.t 1),I.callv (some 30) (.t 24) [(.t 28),(.t 29)],I.bin 31 .lss (.t 30) k0])
 (.ite (.t 31)
 (.reg [I.mv 32 (.t 11),I.bin 33 .add (.t 32) (kII 1),I.mv 9 (.t 33)])
 (.reg [I.mv 34 (.t 11),I.mv 10 (.t 34)]))))))))
def F_z_257:F:=.mk
 ((.seq (.reg [I.mv 6 k0,I.mv 7 kFF])
 ((.seq (.reg [I.mv 12 (.t 0),I.len 13 (.t 12) .sl,I.mv 8 (.t 13)])
 ((.seq (.reg [I.mv 14 (.t 8),I.mv 9 k0,I.mv 10 (.t 14)])
 ((.seq (.blk 0 (.loop [0,1,2,8,9,10] F_z_257_L0))
 ((.seq (.reg [I.mv 35 (.t 9),I.mv 36 (.t 9),I.mv 37 (.t 8),I.bin 38 .lss (.t 36) (.t 37),I.mv 39 (.t 38),.sc false 48 39 [I.mv 40 (.t 2),I.mv 41 (.t 0),I.mv 42 (.t 9),I.ixs 43 (.t 41) (.t 42) 5,I.ld 44 (.t 43) 5 true,I.mv 45 (.t 1),I.callv (some 46) (.t 40) [(.t 44),(.t 45)],I.bin 47 .eql (.t 46) k0] (.t 47),I.mv 6 (.t 35),I.mv 7 (.t 48)])
 (.ret)))))))))))
 [.t 6,.t 7] false none
def F_z_258:F:=.mk
 ((.seq (.reg [I.box 2 (.t 0) 5 true,I.mv 4 k0])
 ((.seq ((.seq (.reg [I.fa 5 (.t 2) 3 1,I.ld 6 (.t 5) 1 false,I.mv 7 (.t 1),I.bin 8 .geq (.t 6) (.t 7)])
 (.ite (.t 8)
 ((.seq (.reg [I.mv 4 (.k (.i .i64 (-1)))])
 (.ret)))
 (.skip))))
 ((.seq (.reg [I.mv 9 (.t 1),I.fa 10 (.t 2) 3 1,I.ld 11 (.t 10) 1 false,I.call (some 12) z_259 [(.t 9),(.t 11)],I.mv 4 (.t 12)])
 (.ret)))))))
 [.t 4] false none
def F_z_259:F:=.mk
 ((.seq (.reg [I.mv 4 k0])
 ((.seq (.reg [I.mv 7 (.t 0),I.call (some 8) z_281 [(.t 7)],I.mv 5 (.t 8)])
 ((.seq (.reg [I.mv 9 (.t 1),I.call (some 10) z_281 [(.t 9)],I.mv 6 (.t 10)])
 ((.seq ((.seq (.reg [I.mv 11 (.t 5)])
 (.ite (.t 11)
 ((.seq ((.seq (.reg [I.mv 12 (.t 6)])
 (.ite (.t 12)
 ((.seq (.reg [I.mv 4 k0])
 (.ret)))
 (.skip))))
 ((.seq (.reg [I.mv 4 (.k (.i .i64 (-1)))])
 (.ret)))))
 (.skip))))
 ((.seq ((.seq (.reg [I.mv 13 (.t 6)])
 (.ite (.t 13)
 ((.seq (.reg [I.mv 4 (kII 1)])
 (.ret)))
 (.skip))))
 ((.seq ((.seq (.reg [I.mv 14 (.t 0),I.mv 15 (.t 1),I.bin 16 .lss (.t 14) (.t 15)])
 (.ite (.t 16)
 ((.seq (.reg [I.mv 4 (.k (.i .i64 (-1)))])
 (.ret)))
 (.skip))))
 ((.seq ((.seq (.reg [I.mv 17 (.t 0),I.mv 18 (.t 1),I.bin 19 .gtr (.t 17) (.t 18)])
 (.ite (.t 19)
 ((.seq (.reg [I.mv 4 (kII 1)])
 (.ret)))
 (.skip))))
 ((.seq (.reg [I.mv 4 k0])
 (.ret)))))))))))))))))
 [.t 4] false none
def R_z_260:F:=.mk
 ((.seq (.reg [I.mv 6 (.k (.sl 5 true []))])
 ((.seq (.reg [I.mv 10 (.t 0),I.mv 11 (.t 1),I.sl 12 (.t 10) (some (.t 11)) none 5])
 ((.seq (.reg [I.mv 13 (.t 2),I.len 14 (.t 13) .sl,I.mv 7 (.t 14)])
 ((.seq ((.seq (.reg [I.mv 15 (.t 7),I.bin 16 .eql (.t 15) k0])
 (.ite (.t 16)
 ((.seq (.reg [I.mv 17 (.t 0),I.mv 6 (.t 17)])
 (.ret)))
 (.skip))))
 ((.seq (.reg [I.mv 18 (.t 0),I.len 19 (.t 18) .sl,I.mv 8 (.t 19)])
 ((.seq ((.seq (.reg [I.mv 20 (.t 1),I.mv 21 (.t 8),I.bin 22 .eql (.t 20) (.t 21)])
 (.ite (.t 22)
 ((.seq (.reg [I.mv 23 (.t 0),I.mv 24 (.t 2),I.app 25 (.t 23) (.t 24) 5,I.mv 6 (.t 25)])
 (.ret)))
 (.skip))))
 ((.seq ((.seq (.reg [I.mv 26 (.t 8),I.mv 27 (.t 7),I.bin 28 .add (.t 26) (.t 27),I.mv 29 (.t 0),I.cap 30 (.t 29),I.bin 31 .gtr (.t 28) (.t 30)])
 (.ite (.t 31)
 ((.seq (.reg [I.mv 32 (.t 0),I.mv 33 (.t 1),I.sl 34 (.t 32) none (some (.t 33)) 5,I.mv 35 (.t 8),I.mv 36 (.t 7),I.bin 37 .add (.t 35) (.t 36),I.mv 38 (.t 1),I.bin 39 .sub (.t 37) (.t 38),I.appz 40 (.t 34) (.t 39) 5 zQ,I.mv 9 (.t 40)])
 ((.seq (.reg [I.mv 41 (.t 9),I.mv 42 (.t 1),I.sl 43 (.t 41) (some (.t 42)) none 5,I.mv 44 (.t 2),I.copy (some 45) (.t 43) (.t 44) 5])
 ((.seq (.drw [] [0,1,2,3,4,5,6,7,8] [I.mv 46 (.t 9),I.mv 47 (.t 1),I.mv 48 (.t 7),I.bin 49 .add (.t 47) (.t 48),I.sl 50 (.t 46) (some (.t 49)) none 5,I.mv 51 (.t 0),I.mv 52 (.t 1),I.sl 53 (.t 51) (some (.t 52)) none 5,I.copy (some 54) (.t 50) (.t 53) 5])
 ((.seq (.reg [I.mv 55 (.t 9),I.mv 6 (.t 55)])
 (.ret)))))))))
 (.skip))))
 ((.seq (.reg [I.mv 56 (.t 0),I.mv 57 (.t 8),I.mv 58 (.t 7),I.bin 59 .add (.t 57) (.t 58),I.sl 60 (.t 56) none (some (.t 59)) 5,I.mv 0 (.t 60)])
 ((.seq ((.seq (.reg [I.mv 61 (.t 2),I.mv 62 (.t 0),I.mv 63 (.t 1),I.mv 64 (.t 7),I.bin 65 .add (.t 63) (.t 64),I.sl 66 (.t 62) (some (.t 65)) none 5,I.ovl 67 z_282 (.t 61) (.t 66) 5,I.un 68 .not (.t 67)])
 (.ite (.t 68)
 ((.seq (.drw [] [0,1,2,3,4,5,6,7,8] [I.mv 69 (.t 0),I.mv 70 (.t 1),I.mv 71 (.t 7),I.bin 72 .add (.t 70) (.t 71),I.sl 73 (.t 69) (some (.t 72)) none 5,I.mv 74 (.t 0),I.mv 75 (.t 1),I.sl 76 (.t 74) (some (.t 75)) none 5,I.copy (some 77) (.t 73) (.t 76) 5])
 ((.seq (.reg [I.mv 78 (.t 0),I.mv 79 (.t 1),I.sl 80 (.t 78) (some (.t 79)) none 5,I.mv 81 (.t 2),I.copy (some 82) (.t 80) (.t 81) 5])
 ((.seq (.reg [I.mv 83 (.t 0),I.mv 6 (.t 83)])
 (.ret)))))))
 (.skip))))
 ((.seq (.reg [I.mv 84 (.t 0),I.mv 85 (.t 8),I.sl 86 (.t 84) (some (.t 85)) none 5,I.mv 87 (.t 2),I.copy (some 88) (.t 86) (.t 87) 5])
 ((.seq (.reg [I.mv 89 (.t 0),I.mv 90 (.t 1),I.sl 91 (.t 89) (some (.t 90)) none 5,I.mv 92 (.t 7),I.call (some 93) z_283 [(.t 91),(.t 92)]])
 ((.seq (.reg [I.mv 94 (.t 0),I.mv 6 (.t 94)])
 (.ret)))))))))))))))))))))))))
 [.t 6] false none
def F_z_261_L0:C :=
 (.seq (.reg [I.bin 9 .lss (.t 8) (.t 7)])
 ((.seq (.ite (.t 9)
 (.skip)
 (.seq (.keep []) (.exit 0)))
 ((.seq (.blk 1 ((.seq (.reg [I.mv 10 (.t 8),I.mv 5 (.t 10)])
 ((.seq (.reg [I.mv 11 (.t 1),I.mv 12 (.t 0),I.mv 13 (.t 5),I.ixs 14 (.t 12) (.t 13) 1,I.ld 15 (.t 14) 1 false,I.bin 16 .eql (.t 11) (.t 15)])
 (.ite (.t 16)
 ((.seq (.reg [I.mv 17 (.t 5),I.mv 4 (.t 17)])
 (.seq (.keep [4]) .ret)))
 (.skip)))))))
 (.reg [I.bin 18 .add (.t 8) (kII 1),I.mv 8 (.t 18)]))))))
def F_z_261:F:=.mk
 ((.seq (.reg [I.mv 4 k0])
 ((.seq ((.seq (.reg [I.mv 6 (.t 0),I.len 7 (.t 6) .sl,I.mv 8 k0])
 (.blk 0 (.loop [0,1,7,8] F_z_261_L0))))
 ((.seq (.reg [I.mv 4 (.k (.i .i64 (-1)))])
 (.ret)))))))
 [.t 4] false none
def F_z_262_L0:C :=
 (.seq ((.seq (.reg [I.mv 13 (.t 7),I.mv 14 (.t 8),I.bin 15 .lss (.t 13) (.t 14)])
 (.ite (.t 15)
 (.skip)
 (.seq (.keep [0,1,6,7]) (.exit 0)))))
 (.blk 1 ((.seq (.reg [I.mv 16 (.t 7),I.mv 17 (.t 8),I.bin 18 .add (.t 16) (.t 17),I.cvi 19 .u64 (.t 18),I.bin 20 .shr (.t 19) (.k (.i .u64 1)),I.cvi 21 .i64 (.t 20),I.mv 9 (.t 21)])
 ((.seq (.reg [I.mv 22 (.t 0),I.mv 23 (.t 9),I.ixs 24 (.t 22) (.t 23) 1,I.ld 25 (.t 24) 1 false,I.mv 26 (.t 1),I.call (some 27) z_284 [(.t 25),(.t 26)]])
 (.ite (.t 27)
 (.reg [I.mv 28 (.t 9),I.bin 29 .add (.t 28) (kII 1),I.mv 7 (.t 29)])
 (.reg [I.mv 30 (.t 9),I.mv 8 (.t 30)]))))))))
def F_z_262:F:=.mk
 ((.seq (.reg [I.mv 4 k0,I.mv 5 kFF])
 ((.seq (.reg [I.mv 10 (.t 0),I.len 11 (.t 10) .sl,I.mv 6 (.t 11)])
 ((.seq (.reg [I.mv 12 (.t 6),I.mv 7 k0,I.mv 8 (.t 12)])
 ((.seq (.blk 0 (.loop [0,1,6,7,8] F_z_262_L0))
 ((.seq (.reg [I.mv 31 (.t 7),I.mv 32 (.t 7),I.mv 33 (.t 6),I.bin 34 .lss (.t 32) (.t 33),I.mv 35 (.t 34),.sc false 53 35 [I.mv 36 (.t 0),I.mv 37 (.t 7),I.ixs 38 (.t 36) (.t 37) 1,I.ld 39 (.t 38) 1 false,I.mv 40 (.t 1),I.bin 41 .eql (.t 39) (.t 40),I.mv 42 (.t 41),.sc true 52 42 [I.mv 43 (.t 0),I.mv 44 (.t 7),I.ixs 45 (.t 43) (.t 44) 1,I.ld 46 (.t 45) 1 false,I.call (some 47) z_285 [(.t 46)],I.mv 48 (.t 47),.sc false 51 48 [I.mv 49 (.t 1),I.call (some 50) z_285 [(.t 49)]] (.t 50)] (.t 51)] (.t 52),I.mv 4 (.t 31),I.mv 5 (.t 53)])
 (.ret)))))))))))
 [.t 4,.t 5] false none
def F_z_262q_L0:C :=
 (.seq ((.seq (.reg [I.mv 13 (.t 7),I.mv 14 (.t 8),I.bin 15 .lss (.t 13) (.t 14)])
 (.ite (.t 15)
 (.skip)
 (.seq (.keep [0,1,6,7]) (.exit 0)))))
 (.blk 1 ((.seq (.reg [I.mv 16 (.t 7),I.mv 17 (.t 8),I.bin 18 .add (.t 16) (.t 17),I.cvi 19 .u64 (.t 18),I.bin 20 .shr (.t 19) (.k (.i .u64 1)),I.cvi 21 .i64 (.t 20),I.mv 9 (.t 21)])
 ((.seq (.reg [I.mv 22 (.t 0),I.mv 23 (.t 9),I.ixs 24 (.t 22) (.t 23) 1,I.ld 25 (.t 24) 1 false,I.mv 26 (.t 1),I.call (some 27) z_284 [(.t 25),(.t 26)]])
 (.ite (.t 27)
 (.reg [I.mv 28 (.t 9),I.bin 29 .add (.t 28) (kII 1),I.mv 7 (.t 29)])
 (.reg [I.mv 30 (.t 9),I.mv 8 (.t 30)]))))))))
def F_z_262q:F:=.mk
 ((.seq (.reg [I.mv 4 k0,I.mv 5 kFF])
 ((.seq (.reg [I.mv 10 (.t 0),I.len 11 (.t 10) .sl,I.mv 6 (.t 11)])
 ((.seq (.reg [I.mv 12 (.t 6),I.mv 7 k0,I.mv 8 (.t 12)])
 ((.seq (.blk 0 (.loop [0,1,6,7,8] F_z_262q_L0))
 ((.seq (.reg [I.mv 31 (.t 7),I.mv 32 (.t 7),I.mv 33 (.t 6),I.bin 34 .lss (.t 32) (.t 33),I.mv 35 (.t 34),.sc false 53 35 [I.mv 36 (.t 0),I.mv 37 (.t 7),I.ixs 38 (.t 36) (.t 37) 1,I.ld 39 (.t 38) 1 false,I.mv 40 (.t 1),I.bin 41 .eql (.t 39) (.t 40),I.mv 42 (.t 41),.sc true 52 42 [I.mv 43 (.t 0),I.mv 44 (.t 7),I.ixs 45 (.t 43) (.t 44) 1,I.ld 46 (.t 45) 1 false,I.call (some 47) z_285 [(.t 46)],I.mv 48 (.t 47),.sc false 51 48 [I.mv 49 (.t 1),I.call (some 50) z_285 [(.t 49)]] (.t 50)] (.t 51)] (.t 52),I.mv 4 (.t 31),I.mv 5 (.t 53)])
 (.ret)))))))))))
 [.t 4,.t 5] true none
def R_z_263:F:=.mk
 ((.seq (.reg [I.mv 6 (.k (.sl 1 true []))])
 ((.seq (.reg [I.mv 10 (.t 0),I.mv 11 (.t 1),I.sl 12 (.t 10) (some (.t 11)) none 1])
 ((.seq (.reg [I.mv 13 (.t 2),I.len 14 (.t 13) .sl,I.mv 7 (.t 14)])
 ((.seq ((.seq (.reg [I.mv 15 (.t 7),I.bin 16 .eql (.t 15) k0])
 (.ite (.t 16)
 ((.seq (.reg [I.mv 17 (.t 0),I.mv 6 (.t 17)])
 (.ret)))
 (.skip))))
 ((.seq (.reg [I.mv 18 (.t 0),I.len 19 (.t 18) .sl,I.mv 8 (.t 19)])
 ((.seq ((.seq (.reg [I.mv 20 (.t 1),I.mv 21 (.t 8),I.bin 22 .eql (.t 20) (.t 21)])
 (.ite (.t 22)
 ((.seq (.reg [I.mv 23 (.t 0),I.mv 24 (.t 2),I.app 25 (.t 23) (.t 24) 1,I.mv 6 (.t 25)])
 (.ret)))
 (.skip))))
 ((.seq ((.seq (.reg [I.mv 26 (.t 8),I.mv 27 (.t 7),I.bin 28 .add (.t 26) (.t 27),I.mv 29 (.t 0),I.cap 30 (.t 29),I.bin 31 .gtr (.t 28) (.t 30)])
 (.ite (.t 31)
 ((.seq (.reg [I.mv 32 (.t 0),I.mv 33 (.t 1),I.sl 34 (.t 32) none (some (.t 33)) 1,I.mv 35 (.t 8),I.mv 36 (.t 7),I.bin 37 .add (.t 35) (.t 36),I.mv 38 (.t 1),I.bin 39 .sub (.t 37) (.t 38),I.appz 40 (.t 34) (.t 39) 1 [(.i .i64 0)],I.mv 9 (.t 40)])
 ((.seq (.reg [I.mv 41 (.t 9),I.mv 42 (.t 1),I.sl 43 (.t 41) (some (.t 42)) none 1,I.mv 44 (.t 2),I.copy (some 45) (.t 43) (.t 44) 1])
 ((.seq (.drw [] [0,1,2,3,4,5,6,7,8] [I.mv 46 (.t 9),I.mv 47 (.t 1),I.mv 48 (.t 7),I.bin 49 .add (.t 47) (.t 48),I.sl 50 (.t 46) (some (.t 49)) none 1,I.mv 51 (.t 0),I.mv 52 (.t 1),I.sl 53 (.t 51) (some (.t 52)) none 1,I.copy (some 54) (.t 50) (.t 53) 1])
 ((.seq (.reg [I.mv 55 (.t 9),I.mv 6 (.t 55)])
 (.ret)))))))))
 (.skip))))
 ((.seq (.reg [I.mv 56 (.t 0),I.mv 57 (.t 8),I.mv 58 (.t 7),I.bin 59 .add (.t 57) (.t 58),I.sl 60 (.t 56) none (some (.t 59)) 1,I.mv 0 (.t 60)])
 ((.seq ((.seq (.reg [I.mv 61 (.t 2),I.mv 62 (.t 0),I.mv 63 (.t 1),I.mv 64 (.t 7),I.bin 65 .add (.t 63) (.t 64),I.sl 66 (.t 62) (some (.t 65)) none 1,I.ovl 67 z_286 (.t 61) (.t 66) 1,I.un 68 .not (.t 67)])
 (.ite (.t 68)
 ((.seq (.drw [] [0,1,2,3,4,5,6,7,8] [I.mv 69 (.t 0),I.mv 70 (.t 1),I.mv 71 (.t 7),I.bin 72 .add (.t 70) (.t 71),I.sl 73 (.t 69) (some (.t 72)) none 1,I.mv 74 (.t 0),I.mv 75 (.t 1),I.sl 76 (.t 74) (some (.t 75)) none 1,I.copy (some 77) (.t 73) (.t 76) 1])
 ((.seq (.reg [I.mv 78 (.t 0),I.mv 79 (.t 1),I.sl 80 (.t 78) (some (.t 79)) none 1,I.mv 81 (.t 2),I.copy (some 82) (.t 80) (.t 81) 1])
 ((.seq (.reg [I.mv 83 (.t 0),I.mv 6 (.t 83)])
 (.ret)))))))
 (.skip))))
 ((.seq (.reg [I.mv 84 (.t 0),I.mv 85 (.t 8),I.sl 86 (.t 84) (some (.t 85)) none 1,I.mv 87 (.t 2),I.copy (some 88) (.t 86) (.t 87) 1])
 ((.seq (.reg [I.mv 89 (.t 0),I.mv 90 (.t 1),I.sl 91 (.t 89) (some (.t 90)) none 1,I.mv 92 (.t 7),I.call (some 93) z_287 [(.t 91),(.t 92)]])
 ((.seq (.reg [I.mv 94 (.t 0),I.mv 6 (.t 94)])
 (.ret)))))))))))))))))))))))))
 [.t 6] false none
def F_z_264:F:=.mk
 ((.seq (.reg [I.box 5 (.t 0) 5 true,I.mv 6 kFF])
 ((.seq ((.seq (.reg [I.ld 7 (.t 1) 1 false,I.un 8 .not (.t 7),I.mv 9 (.t 8),.sc false 13 9 [I.fa 10 (.t 5) 2 1,I.ld 11 (.t 10) 1 false,I.bin 12 .geq (.t 11) k0] (.t 12),I.mv 14 (.t 13),.sc false 19 14 [I.fa 15 (.t 5) 2 1,I.ld 16 (.t 15) 1 false,I.ld 17 (.t 2) 1 false,I.bin 18 .leq (.t 16) (.t 17)] (.t 18)])
 (.ite (.t 19)
 ((.seq (.reg [I.ld 20 (.t 2) 1 false,I.fa 21 (.t 5) 2 1,I.ld 22 (.t 21) 1 false,I.bin 23 .sub (.t 20) (.t 22),I.st (.t 2) (.t 23) 1 false])
 ((.seq (.reg [I.mv 6 kTT])
 (.ret)))))
 (.skip))))
 ((.seq (.reg [I.ld 24 (.t 1) 1 false,I.mv 25 (.t 24),.sc true 28 25 [I.ld 26 (.t 3) 1 false,I.un 27 .not (.t 26)] (.t 27),I.st (.t 1) (.t 28) 1 false])
 ((.seq (.reg [I.ld 29 (.t 4) 1 false,I.ld 30 (.t 5) 5 true,I.buildSl 31 5 1 zQ [(0,(.t 30))] true,I.app 32 (.t 29) (.t 31) 5,I.st (.t 4) (.t 32) 1 false])
 ((.seq (.reg [I.mv 6 kFF])
 (.ret)))))))))))
 [.t 6] false none
def F_z_265:F:=.mk
 ((.seq (.reg [I.box 2 (.t 0) 5 true,I.mv 3 kFF])
 ((.seq (.reg [I.fa 4 (.t 2) 0 1,I.ld 5 (.t 4) 1 false,I.fa 6 (.t 1) 0 1,I.ld 7 (.t 6) 1 false,I.bin 8 .eql (.t 5) (.t 7),I.mv 9 (.t 8),.sc false 25 9 [I.fa 10 (.t 2) 4 1,I.ld 11 (.t 10) 1 false,I.bin 12 .eql (.t 11) (.k (.i .i64 (-1))),I.mv 13 (.t 12),.sc true 17 13 [I.fa 14 (.t 1) 4 1,I.ld 15 (.t 14) 1 false,I.bin 16 .eql (.t 15) (.k (.i .i64 (-1)))] (.t 16),I.mv 18 (.t 17),.sc true 24 18 [I.fa 19 (.t 2) 4 1,I.ld 20 (.t 19) 1 false,I.fa 21 (.t 1) 4 1,I.ld 22 (.t 21) 1 false,I.bin 23 .eql (.t 20) (.t 22)] (.t 23)] (.t 24),I.mv 3 (.t 25)])
 (.ret)))))
 [.t 3] false none
def F_z_266:F:=.mk
 ((.seq (.reg [I.box 3 (.t 0) 5 true,I.mv 4 kFF])
 ((.seq ((.seq (.reg [I.fa 5 (.t 3) 1 1,I.ld 6 (.t 5) 1 false,I.bin 7 .eql (.t 6) (kII 64)])
 (.ite (.t 7)
 ((.seq (.reg [I.fa 8 (.t 1) 5 1,I.ld 9 (.t 8) 1 false,I.len 10 (.t 9) .sl,I.fa 11 (.t 2) 2 1,I.ld 12 (.t 11) 1 false,I.bin 13 .neq (.t 10) (.t 12),I.mv 14 (.t 13),.sc true 20 14 [I.fa 15 (.t 1) 4 1,I.ld 16 (.t 15) 1 false,I.fa 17 (.t 3) 0 1,I.ld 18 (.t 17) 1 false,I.call (some 19) z_267 [(.t 16),(kII 65),(.t 18)]] (.t 19),I.mv 4 (.t 20)])
 (.ret)))
 (.skip))))
 ((.seq (.reg [I.fa 21 (.t 1) 5 1,I.ld 22 (.t 21) 1 false,I.len 23 (.t 22) .sl,I.bin 24 .gtr (.t 23) k0,I.mv 25 (.t 24),.sc true 31 25 [I.fa 26 (.t 1) 4 1,I.ld 27 (.t 26) 1 false,I.fa 28 (.t 3) 0 1,I.ld 29 (.t 28) 1 false,I.call (some 30) z_267 [(.t 27),(kII 64),(.t 29)]] (.t 30),I.mv 4 (.t 31)])
 (.ret)))))))
 [.t 4] false none
def F_z_267:F:=.mk
 ((.seq (.reg [I.box 4 (.t 1) 1 true,I.box 5 (.t 2) 1 true,I.mv 6 kFF])
 ((.seq (.reg [I.mv 7 (.t 0),I.mkf 8 z_288 [] [(.t 4),(.t 5)],I.call (some 9) z_57 [(.t 7),(.t 8)],I.mv 6 (.t 9)])
 (.ret)))))
 [.t 6] false none
def F_z_268:F:=.mk
 ((.seq (.reg [I.box 3 (.t 1) 1 true,I.new 4 zQ,I.mv 5 kFF])
 ((.seq (.reg [I.mv 6 (.t 0),I.nck 7 (.t 6),I.fa 8 (.t 7) 1 9,I.fa 9 (.t 8) 4 1,I.ld 10 (.t 9) 1 false,I.mkf 11 z_290 [] [(.t 3)],I.call (some 12) z_289 [(.t 10),(.t 11)],I.ext 13 (.t 12) 0,I.ext 14 (.t 12) 1,I.st (.t 4) (.t 13) 5 false,I.mv 5 (.t 14)])
 (.ret)))))
 [.c 4 5 true,.t 5] true none
def F_z_269:F:=.mk
 ((.seq (.reg [I.box 5 (.t 1) 5 true])
 ((.seq (.drw [] [0,1,2,3,4,5,6,7,8,9,10,11,12] [I.mv 8 (.t 0),I.mv 9 (.t 0),I.nck 10 (.t 9),I.fa 11 (.t 10) 1 9,I.fa 12 (.t 11) 4 1,I.ld 13 (.t 12) 1 false,I.fad 14 (.t 5) 0 1,I.ldd 15 (.t 14) 1 false,I.call (some 16) z_129 [(.t 13),(.t 15)],I.nck 17 (.t 8),I.fa 18 (.t 17) 1 9,I.fa 19 (.t 18) 4 1,I.st (.t 19) (.t 16) 1 false])
 (.drw [] [0,1,2,3,4,5,6,7,8,9,10,11,12,13,14,15,16,17,18] [I.mv 20 (.t 0),I.mv 21 (.t 0),I.nck 22 (.t 21),I.fa 23 (.t 22) 10 1,I.ld 24 (.t 23) 1 false,I.fad 25 (.t 5) 0 1,I.ldd 26 (.t 25) 1 false,I.fad 27 (.t 5) 1 1,I.ldd 28 (.t 27) 1 false,I.mv 29 (.t 2),I.mv 30 (.t 3),I.fad 31 (.t 5) 4 1,I.ldd 32 (.t 31) 1 false,I.build 33 zWW [(0,1,(.t 26)),(1,1,(.t 28)),(2,1,(.t 29)),(3,1,(.t 30)),(4,1,(.t 32))],I.buildSl 34 5 1 zWW [(0,(.t 33))] true,I.app 35 (.t 24) (.t 34) 5,I.nck 36 (.t 20),I.fa 37 (.t 36) 10 1,I.st (.t 37) (.t 35) 1 false])))))
 [] true none
def F_z_270:F:=.mk
 ((.seq (.reg [I.new 6 zPP])
 ((.seq (.drw [] [0,1,2,3,4,5,6,7,8,9,10,11] [I.mv 7 (.t 0),I.nck 8 (.t 7),I.fa 9 (.t 8) 1 9,I.ld 10 (.t 9) 9 true,I.mv 11 (.t 1),I.mv 12 (.t 2),I.mv 13 (.t 0),I.nck 14 (.t 13),I.fa 15 (.t 14) 10 1,I.ld 16 (.t 15) 1 false,I.build 17 zPP [(0,9,(.t 10)),(10,1,(.t 11)),(11,1,(.t 12)),(12,1,(.t 16))],I.st (.t 6) (.t 17) 13 false])
 (.ret)))))
 [.c 6 13 true] true none
def F_z_271:F:=.mk
 (.reg [I.mv 4 (.t 0),I.mv 5 (.t 0),I.nck 6 (.t 5),I.fa 7 (.t 6) 1 9,I.fa 8 (.t 7) 5 1,I.ld 9 (.t 8) 1 false,I.mv 10 (.t 1),I.buildSl 11 1 1 [(.i .i64 0)] [(0,(.t 10))] true,I.app 12 (.t 9) (.t 11) 1,I.nck 13 (.t 4),I.fa 14 (.t 13) 1 9,I.fa 15 (.t 14) 5 1,I.st (.t 15) (.t 12) 1 false])
 [] true none
def F_z_272:F:=.mk
 ((.seq (.reg [I.box 3 (.t 1) 5 true,I.new 4 zPP])
 ((.seq (.reg [I.fa 6 (.t 3) 0 1,I.ld 7 (.t 6) 1 false,I.fa 8 (.t 3) 1 1,I.ld 9 (.t 8) 1 false,I.fa 10 (.t 3) 3 1,I.ld 11 (.t 10) 1 false,I.build 12 zQ [(0,1,(.t 7)),(1,1,(.t 9)),(3,1,(.t 11)),(4,1,(.k (.i .i64 (-1))))],I.new 5 zQ,I.st (.t 5) (.t 12) 5 false])
 ((.seq ((.seq (.reg [I.fa 13 (.t 3) 1 1,I.ld 14 (.t 13) 1 false,I.bin 15 .eql (.t 14) (kII 64)])
 (.ite (.t 15)
 (.reg [I.fa 16 (.t 3) 2 1,I.ld 17 (.t 16) 1 false,I.fa 18 (.t 5) 2 1,I.st (.t 18) (.t 17) 1 false])
 (.skip))))
 ((.seq (.drw [] [0,1,2,3,4,5,6,7,8,9,10,11,12] [I.mv 19 (.t 0),I.mv 20 (.t 0),I.nck 21 (.t 20),I.fa 22 (.t 21) 1 9,I.fa 23 (.t 22) 4 1,I.ld 24 (.t 23) 1 false,I.ld 25 (.t 5) 5 true,I.buildSl 26 5 1 zQ [(0,(.t 25))] true,I.app 27 (.t 24) (.t 26) 5,I.nck 28 (.t 19),I.fa 29 (.t 28) 1 9,I.fa 30 (.t 29) 4 1,I.st (.t 30) (.t 27) 1 false])
 ((.seq (.reg [I.mv 31 (.t 0),I.nck 32 (.t 31),I.fa 33 (.t 32) 1 9,I.ld 34 (.t 33) 9 true,I.build 35 zPP [(0,9,(.t 34)),(9,1,kTT)],I.st (.t 4) (.t 35) 13 false])
 (.ret)))))))))))
 [.c 4 13 true] true none
def F_z_274:F:=.mk
 (.reg [I.mv 4 (.t 0),I.mv 5 (.t 0),I.len 6 (.t 5) .sl,I.mv 7 (.t 1),I.bin 8 .sub (.t 6) (.t 7),I.call (some 9) z_291 [(.t 4),(.t 8)]])
 [] false none
def F_z_275_L0:C :=
 .blk 1 ((.seq (.reg [I.ld 5 (.t 1) 1 false,I.nck 6 (.t 5),I.fa 7 (.t 6) 1 9,I.fa 8 (.t 7) 4 1,I.ld 9 (.t 8) 1 false,I.call (some 10) z_123 [(.t 9),(.k (.fn z_276 [] []))],I.mv 3 (.t 10)])
 ((.seq ((.seq (.drw [] [0,1,2,3,4,5,6,7,8,9,10,11,12] [I.mv 11 (.t 3),I.bin 12 .lss (.t 11) k0,I.mv 13 (.t 12),.sc true 23 13 [I.ld 14 (.t 1) 1 false,I.nck 15 (.t 14),I.fa 16 (.t 15) 0 1,I.ld 17 (.t 16) 1 false,I.ld 18 (.t 1) 1 false,I.nck 19 (.t 18),I.fa 20 (.t 19) 1 9,I.ld 21 (.t 20) 9 true,I.calls (some 22) z_174 [(.t 17),(.t 21)]] (.t 22)])
 (.ite (.t 23)
 (.seq (.keep []) .ret)
 (.skip))))
 ((.seq (.reg [I.ld 24 (.t 1) 1 false,I.nck 25 (.t 24),I.fa 26 (.t 25) 1 9,I.fa 27 (.t 26) 4 1,I.ld 28 (.t 27) 1 false,I.mv 29 (.t 3),I.ixs 30 (.t 28) (.t 29) 5,I.ld 31 (.t 30) 5 true,I.new 4 zQ,I.st (.t 4) (.t 31) 5 true])
 ((.seq (.drw [] [0,1,2,3,4,5,7,8,9,6,10,11,12,13,14] [I.ld 32 (.t 1) 1 false,I.ld 33 (.t 1) 1 false,I.nck 34 (.t 33),I.fa 35 (.t 34) 1 9,I.fa 36 (.t 35) 4 1,I.ld 37 (.t 36) 1 false,I.mv 39 (.t 3),I.mv 40 (.t 3),I.bin 41 .add (.t 40) (kII 1),I.callk (some 38) z_153 [(.t 37)],.re (.ld 32 (.t 1) 1 false),I.callz 42 z_277 [(.t 38),(.t 39),(.t 41)],.re (.ld 32 (.t 1) 1 false),I.nck 43 (.t 32),I.fa 44 (.t 43) 1 9,I.fa 45 (.t 44) 4 1,I.st (.t 45) (.t 42) 1 false])
 ((.seq (.reg [I.mv 46 (.t 0),I.ld 47 (.t 4) 5 true,I.cally (some 48) (.t 46) [(.t 47)],I.un 49 .not (.t 48)])
 (.ite (.t 49)
 (.seq (.keep []) .ret)
 (.skip))))))))))))
def F_z_275:F:=.mk
 (.blk 0 (.loop [0,1] F_z_275_L0))
 [] false none
def F_z_276:F:=.mk
 ((.seq (.reg [I.box 1 (.t 0) 5 true,I.mv 2 kFF])
 ((.seq (.reg [I.fa 3 (.t 1) 1 1,I.ld 4 (.t 3) 1 false,I.bin 5 .eql (.t 4) (kII 68),I.mv 2 (.t 5)])
 (.ret)))))
 [.t 2] false none
def F_z_277:F:=.mk
 ((.seq (.reg [I.mv 6 (.k (.sl 5 true []))])
 ((.seq (.reg [I.mv 8 (.t 0),I.mv 9 (.t 1),I.mv 10 (.t 2),I.mv 11 (.t 0),I.len 12 (.t 11) .sl,I.sl3 13 (.t 8) (.t 9) (.t 10) (.t 12) 5])
 ((.seq ((.seq (.reg [I.mv 14 (.t 1),I.mv 15 (.t 2),I.bin 16 .eql (.t 14) (.t 15)])
 (.ite (.t 16)
 ((.seq (.reg [I.mv 17 (.t 0),I.mv 6 (.t 17)])
 (.ret)))
 (.skip))))
 ((.seq (.reg [I.mv 18 (.t 0),I.len 19 (.t 18) .sl,I.mv 7 (.t 19)])
 ((.seq (.drw [] [0,1,2,3,4,5,6,7] [I.mv 20 (.t 0),I.mv 21 (.t 1),I.sl 22 (.t 20) none (some (.t 21)) 5,I.mv 23 (.t 0),I.mv 24 (.t 2),I.sl 25 (.t 23) (some (.t 24)) none 5,I.app 26 (.t 22) (.t 25) 5,I.mv 0 (.t 26)])
 ((.seq (.reg [I.mv 27 (.t 0),I.mv 28 (.t 0),I.len 29 (.t 28) .sl,I.mv 30 (.t 7),I.sl 31 (.t 27) (some (.t 29)) (some (.t 30)) 5,I.clr none (.t 31) 5 zQ])
 ((.seq (.reg [I.mv 32 (.t 0),I.mv 6 (.t 32)])
 (.ret)))))))))))))))
 [.t 6] true none
def F_z_278:F:=.mk
 ((.seq (.reg [I.box 3 (.t 0) 5 true,I.mv 4 kFF])
 ((.seq (.reg [I.fa 5 (.t 3) 0 1,I.ld 6 (.t 5) 1 false,I.ld 7 (.t 1) 1 false,I.bin 8 .eql (.t 6) (.t 7),I.mv 9 (.t 8),.sc false 14 9 [I.fa 10 (.t 3) 1 1,I.ld 11 (.t 10) 1 false,I.ld 12 (.t 2) 1 false,I.bin 13 .eql (.t 11) (.t 12)] (.t 13),I.mv 4 (.t 14)])
 (.ret)))))
 [.t 4] false none
def F_z_281:F:=.mk
 ((.seq (.reg [I.mv 2 kFF])
 ((.seq (.reg [I.mv 3 (.t 0),I.mv 4 (.t 0),I.bin 5 .neq (.t 3) (.t 4),I.mv 2 (.t 5)])
 (.ret)))))
 [.t 2] false none
def F_z_283:F:=.mk
 (.reg [I.mv 4 (.t 0),I.mv 5 (.t 0),I.len 6 (.t 5) .sl,I.mv 7 (.t 1),I.bin 8 .sub (.t 6) (.t 7),I.call (some 9) z_292 [(.t 4),(.t 8)]])
 [] false none
def F_z_284:F:=.mk
 ((.seq (.reg [I.mv 4 kFF])
 ((.seq (.reg [I.mv 5 (.t 0),I.call (some 6) z_281 [(.t 5)],I.mv 7 (.t 6),.sc false 11 7 [I.mv 8 (.t 1),I.call (some 9) z_281 [(.t 8)],I.un 10 .not (.t 9)] (.t 10),I.mv 12 (.t 11),.sc true 16 12 [I.mv 13 (.t 0),I.mv 14 (.t 1),I.bin 15 .lss (.t 13) (.t 14)] (.t 15),I.mv 4 (.t 16)])
 (.ret)))))
 [.t 4] false none
def F_z_285:F:=.mk
 ((.seq (.reg [I.mv 2 kFF])
 ((.seq (.reg [I.mv 3 (.t 0),I.mv 4 (.t 0),I.bin 5 .neq (.t 3) (.t 4),I.mv 2 (.t 5)])
 (.ret)))))
 [.t 2] false none
def F_z_287:F:=.mk
 (.reg [I.mv 4 (.t 0),I.mv 5 (.t 0),I.len 6 (.t 5) .sl,I.mv 7 (.t 1),I.bin 8 .sub (.t 6) (.t 7),I.call (some 9) z_293 [(.t 4),(.t 8)]])
 [] false none
def F_z_288:F:=.mk
 ((.seq (.reg [I.box 3 (.t 0) 5 true,I.mv 4 kFF])
 ((.seq (.reg [I.fa 5 (.t 3) 1 1,I.ld 6 (.t 5) 1 false,I.ld 7 (.t 1) 1 false,I.bin 8 .eql (.t 6) (.t 7),I.mv 9 (.t 8),.sc false 14 9 [I.fa 10 (.t 3) 0 1,I.ld 11 (.t 10) 1 false,I.ld 12 (.t 2) 1 false,I.bin 13 .neq (.t 11) (.t 12)] (.t 13),I.mv 4 (.t 14)])
 (.ret)))))
 [.t 4] false none
def F_z_289:F:=.mk
 ((.seq (.reg [I.new 4 zQ,I.mv 5 kFF])
 ((.seq (.reg [I.new 6 zQ])
 ((.seq (.reg [I.mv 8 (.t 0),I.mv 9 (.t 1),I.call (some 10) z_123 [(.t 8),(.t 9)],I.mv 7 (.t 10)])
 ((.seq ((.seq (.reg [I.mv 11 (.t 7),I.bin 12 .lss (.t 11) k0])
 (.ite (.t 12)
 ((.seq (.reg [I.ld 13 (.t 6) 5 true,I.st (.t 4) (.t 13) 5 false,I.mv 5 kFF])
 (.ret)))
 (.skip))))
 ((.seq (.reg [I.mv 14 (.t 0),I.mv 15 (.t 7),I.ixs 16 (.t 14) (.t 15) 5,I.ld 17 (.t 16) 5 true,I.st (.t 4) (.t 17) 5 false,I.mv 5 kTT])
 (.ret)))))))))))
 [.c 4 5 true,.t 5] false none
def F_z_290:F:=.mk
 ((.seq (.reg [I.box 2 (.t 0) 5 true,I.mv 3 kFF])
 ((.seq (.reg [I.fa 4 (.t 2) 1 1,I.ld 5 (.t 4) 1 false,I.ld 6 (.t 1) 1 false,I.bin 7 .eql (.t 5) (.t 6),I.mv 3 (.t 7)])
 (.ret)))))
 [.t 3] false none
def F_z_291:F:=.mk
 ((.seq (.reg [I.mv 4 (.t 0),I.mv 5 (.t 1),I.sl 6 (.t 4) none (some (.t 5)) 2,I.call (some 7) z_294 [(.t 6)]])
 ((.seq (.reg [I.mv 8 (.t 0),I.mv 9 (.t 1),I.sl 10 (.t 8) (some (.t 9)) none 2,I.call (some 11) z_294 [(.t 10)]])
 (.reg [I.mv 12 (.t 0),I.call (some 13) z_294 [(.t 12)]])))))
 [] false none
def F_z_292:F:=.mk
 ((.seq (.reg [I.mv 4 (.t 0),I.mv 5 (.t 1),I.sl 6 (.t 4) none (some (.t 5)) 5,I.call (some 7) z_295 [(.t 6)]])
 ((.seq (.reg [I.mv 8 (.t 0),I.mv 9 (.t 1),I.sl 10 (.t 8) (some (.t 9)) none 5,I.call (some 11) z_295 [(.t 10)]])
 (.reg [I.mv 12 (.t 0),I.call (some 13) z_295 [(.t 12)]])))))
 [] false none
def F_z_293:F:=.mk
 ((.seq (.reg [I.mv 4 (.t 0),I.mv 5 (.t 1),I.sl 6 (.t 4) none (some (.t 5)) 1,I.call (some 7) z_296 [(.t 6)]])
 ((.seq (.reg [I.mv 8 (.t 0),I.mv 9 (.t 1),I.sl 10 (.t 8) (some (.t 9)) none 1,I.call (some 11) z_296 [(.t 10)]])
 (.reg [I.mv 12 (.t 0),I.call (some 13) z_296 [(.t 12)]])))))
 [] false none
def F_z_294_L0:C :=
 (.seq ((.seq (.reg [I.mv 7 (.t 2),I.mv 8 (.t 3),I.bin 9 .lss (.t 7) (.t 8)])
 (.ite (.t 9)
 (.skip)
 (.seq (.keep []) (.exit 0)))))
 ((.seq (.blk 1 (.drw [] [0,1,2,3,4,5,6,7,8,9,10,11,12,13,14,15] [I.mv 14 (.t 0),I.mv 15 (.t 2),I.mv 16 (.t 0),I.mv 17 (.t 3),I.mv 18 (.t 0),I.mv 19 (.t 3),I.ixs 20 (.t 18) (.t 19) 2,I.ld 21 (.t 20) 2 true,I.mv 22 (.t 0),I.mv 23 (.t 2),I.ixs 24 (.t 22) (.t 23) 2,I.ld 25 (.t 24) 2 true,I.ixs 26 (.t 14) (.t 15) 2,I.st (.t 26) (.t 21) 2 false,I.ixs 27 (.t 16) (.t 17) 2,I.st (.t 27) (.t 25) 2 false]))
 (.reg [I.mv 10 (.t 2),I.bin 11 .add (.t 10) (kII 1),I.mv 12 (.t 3),I.bin 13 .sub (.t 12) (kII 1),I.mv 2 (.t 11),I.mv 3 (.t 13)]))))
def F_z_294:F:=.mk
 ((.seq (.reg [I.mv 4 (.t 0),I.len 5 (.t 4) .sl,I.bin 6 .sub (.t 5) (kII 1),I.mv 2 k0,I.mv 3 (.t 6)])
 (.blk 0 (.loop [0,2,3] F_z_294_L0))))
 [] false none
def F_z_295_L0:C :=
 (.seq ((.seq (.reg [I.mv 7 (.t 2),I.mv 8 (.t 3),I.bin 9 .lss (.t 7) (.t 8)])
 (.ite (.t 9)
 (.skip)
 (.seq (.keep []) (.exit 0)))))
 ((.seq (.blk 1 (.drw [] [0,1,2,3,4,5,6,7,8,9,10,11,12,13,14,15] [I.mv 14 (.t 0),I.mv 15 (.t 2),I.mv 16 (.t 0),I.mv 17 (.t 3),I.mv 18 (.t 0),I.mv 19 (.t 3),I.ixs 20 (.t 18) (.t 19) 5,I.ld 21 (.t 20) 5 true,I.mv 22 (.t 0),I.mv 23 (.t 2),I.ixs 24 (.t 22) (.t 23) 5,I.ld 25 (.t 24) 5 true,I.ixs 26 (.t 14) (.t 15) 5,I.st (.t 26) (.t 21) 5 false,I.ixs 27 (.t 16) (.t 17) 5,I.st (.t 27) (.t 25) 5 false]))
 (.reg [I.mv 10 (.t 2),I.bin 11 .add (.t 10) (kII 1),I.mv 12 (.t 3),I.bin 13 .sub (.t 12) (kII 1),I.mv 2 (.t 11),I.mv 3 (.t 13)]))))
def F_z_295:F:=.mk
 ((.seq (.reg [I.mv 4 (.t 0),I.len 5 (.t 4) .sl,I.bin 6 .sub (.t 5) (kII 1),I.mv 2 k0,I.mv 3 (.t 6)])
 (.blk 0 (.loop [0,2,3] F_z_295_L0))))
 [] false none
def F_z_296_L0:C :=
 (.seq ((.seq (.reg [I.mv 7 (.t 2),I.mv 8 (.t 3),I.bin 9 .lss (.t 7) (.t 8)])
 (.ite (.t 9)
 (.skip)
 (.seq (.keep []) (.exit 0)))))
 ((.seq (.blk 1 (.drw [] [0,1,2,3,4,5,6,7,8,9,10,11,12,13,14,15] [I.mv 14 (.t 0),I.mv 15 (.t 2),I.mv 16 (.t 0),I.mv 17 (.t 3),I.mv 18 (.t 0),I.mv 19 (.t 3),I.ixs 20 (.t 18) (.t 19) 1,I.ld 21 (.t 20) 1 false,I.mv 22 (.t 0),I.mv 23 (.t 2),I.ixs 24 (.t 22) (.t 23) 1,I.ld 25 (.t 24) 1 false,I.ixs 26 (.t 14) (.t 15) 1,I.st (.t 26) (.t 21) 1 false,I.ixs 27 (.t 16) (.t 17) 1,I.st (.t 27) (.t 25) 1 false]))
 (.reg [I.mv 10 (.t 2),I.bin 11 .add (.t 10) (kII 1),I.mv 12 (.t 3),I.bin 13 .sub (.t 12) (kII 1),I.mv 2 (.t 11),I.mv 3 (.t 13)]))))
def F_z_296:F:=.mk
 ((.seq (.reg [I.mv 4 (.t 0),I.len 5 (.t 4) .sl,I.bin 6 .sub (.t 5) (kII 1),I.mv 2 k0,I.mv 3 (.t 6)])
 (.blk 0 (.loop [0,2,3] F_z_296_L0))))
 [] false none
def F_z_312:F:=.mk
 ((.seq (.reg [I.box 3 (.t 0) 2 true,I.box 4 (.t 1) 4 true,I.box 5 (.t 2) 9 true,I.mv 6 kFF])
 ((.seq (.reg [I.fa 7 (.t 3) 1 1,I.ld 8 (.t 7) 1 false,I.ld 9 (.t 4) 4 true,I.ld 10 (.t 5) 9 true,I.callv (some 11) (.t 8) [(.t 9),(.t 10)],I.bin 12 .eql (.t 11) k0,I.mv 6 (.t 12)])
 (.ret)))))
 [.t 6] false none
def F_z_313:F:=.mk
 ((.seq (.reg [I.box 3 (.t 0) 2 true,I.box 4 (.t 1) 4 true,I.box 5 (.t 2) 9 true,I.mv 6 k0])
 ((.seq (.reg [I.fa 7 (.t 3) 1 1,I.ld 8 (.t 7) 1 false,I.ld 9 (.t 4) 4 true,I.ld 10 (.t 5) 9 true,I.callv (some 11) (.t 8) [(.t 9),(.t 10)],I.mv 6 (.t 11)])
 (.ret)))))
 [.t 6] false none
def F_z_314:F:=.mk
 ((.seq (.reg [I.box 2 (.t 0) 2 true,I.box 3 (.t 1) 4 true,I.new 4 zR,I.mv 5 k0])
 ((.seq (.reg [I.fa 6 (.t 2) 0 1,I.ld 7 (.t 6) 1 false,I.ld 8 (.t 3) 4 true,I.callv (some 9) (.t 7) [(.t 8)],I.ext 10 (.t 9) 0,I.ext 11 (.t 9) 1,I.st (.t 4) (.t 10) 9 false,I.mv 5 (.t 11)])
 (.ret)))))
 [.c 4 9 true,.t 5] false none
def F_z_315:F:=.mk
 ((.seq (.reg [I.box 4 (.t 0) 2 true,I.box 5 (.t 1) 4 true,I.box 6 (.t 2) 9 false,I.box 7 (.t 3) 5 true,I.new 8 zR,I.mv 9 k0,I.mv 10 kFF,I.mv 11 k0])
 ((.seq (.blk 0 ((.seq (.reg [I.fa 14 (.t 7) 1 1,I.ld 15 (.t 14) 1 false,I.bin 16 .eql (.t 15) (kII 52),I.mv 17 (.t 16),.sc false 23 17 [I.fa 18 (.t 6) 0 1,I.ld 19 (.t 18) 1 false,I.fa 20 (.t 7) 0 1,I.ld 21 (.t 20) 1 false,I.bin 22 .neq (.t 19) (.t 21)] (.t 22),I.mv 13 (.t 23)])
 (.ite (.t 13)
 ((.seq (.reg [I.ld 24 (.t 6) 9 true,I.st (.t 8) (.t 24) 9 false,I.mv 9 k0,I.mv 10 kFF,I.mv 11 (kII 20)])
 (.ret)))
 ((.seq (.reg [I.fa 26 (.t 7) 1 1,I.ld 27 (.t 26) 1 false,I.bin 28 .eql (.t 27) (kII 52),I.mv 25 (.t 28)])
 (.ite (.t 25)
 (.reg [I.fa 29 (.t 6) 0 1,I.st (.t 29) (.k (.i .i64 (-1))) 1 false])
 ((.seq (.reg [I.fa 31 (.t 6) 0 1,I.ld 32 (.t 31) 1 false,I.bin 33 .lss (.t 32) k0,I.mv 30 (.t 33)])
 (.ite (.t 30)
 (.reg [I.fa 34 (.t 7) 0 1,I.ld 35 (.t 34) 1 false,I.fa 36 (.t 6) 0 1,I.st (.t 36) (.t 35) 1 false])
 ((.seq (.reg [I.fa 38 (.t 7) 1 1,I.ld 39 (.t 38) 1 false,I.bin 40 .eql (.t 39) (kII 51),I.mv 37 (.t 40)])
 (.ite (.t 37)
 ((.seq (.reg [I.ld 41 (.t 6) 9 true,I.st (.t 8) (.t 41) 9 false,I.mv 9 k0,I.mv 10 kFF,I.mv 11 k0])
 (.ret)))
 ((.seq (.reg [I.fa 43 (.t 6) 0 1,I.ld 44 (.t 43) 1 false,I.fa 45 (.t 7) 0 1,I.ld 46 (.t 45) 1 false,I.bin 47 .eql (.t 44) (.t 46),I.mv 42 (.t 47)])
 (.ite (.t 42)
 ((.seq (.reg [I.ld 48 (.t 6) 9 true,I.st (.t 8) (.t 48) 9 false,I.mv 9 k0,I.mv 10 kFF,I.mv 11 (kII 17)])
 (.ret)))
 ((.seq (.reg [I.ld 12 (.t 6) 9 true,I.st (.t 8) (.t 12) 9 false,I.mv 9 k0,I.mv 10 kFF,I.mv 11 (kII 29)])
 (.ret)))))))))))))))))))
 ((.seq (.reg [I.ld 49 (.t 6) 9 true,I.st (.t 8) (.t 49) 9 false,I.mv 9 k0,I.mv 10 kTT,I.mv 11 k0])
 (.ret)))))))
 [.c 8 9 true,.t 9,.t 10,.t 11] false none
def F_z_319:F:=.mk
 ((.seq (.reg [I.box 4 (.t 0) 2 true,I.box 5 (.t 1) 4 true,I.box 6 (.t 2) 9 false,I.box 7 (.t 3) 5 true,I.new 8 zR,I.mv 9 k0,I.mv 10 kFF,I.mv 11 k0])
 ((.seq (.reg [I.fa 15 (.t 6) 3 1,I.ld 16 (.t 15) 1 false,I.fa 17 (.t 7) 0 1,I.ld 18 (.t 17) 1 false,I.call (some 19) z_262 [(.t 16),(.t 18)],I.mv 14 (.t 19),I.ext 20 (.t 14) 0,I.ext 21 (.t 14) 1,I.mv 12 (.t 20),I.mv 13 (.t 21)])
 ((.seq ((.seq (.reg [I.fa 22 (.t 7) 1 1,I.ld 23 (.t 22) 1 false])
 (.blk 0 ((.seq (.reg [I.bin 25 .eql (.t 23) (kII 54),I.mv 24 (.t 25)])
 (.ite (.t 24)
 ((.seq ((.seq (.reg [I.mv 26 (.t 13),I.un 27 .not (.t 26)])
 (.ite (.t 27)
 ((.seq (.reg [I.ld 28 (.t 6) 9 true,I.st (.t 8) (.t 28) 9 false,I.mv 9 k0,I.mv 10 kFF,I.mv 11 (kII 20)])
 (.ret)))
 (.skip))))
 ((.seq (.reg [I.fa 29 (.t 6) 3 1,I.ld 30 (.t 29) 1 false,I.callk (some 31) z_214 [(.t 30)],I.mv 32 (.t 12),I.mv 33 (.t 12),I.bin 34 .add (.t 33) (kII 1),I.callz 35 z_321 [(.t 31),(.t 32),(.t 34)],I.fa 36 (.t 6) 3 1,I.st (.t 36) (.t 35) 1 false])
 ((.seq (.reg [I.ld 37 (.t 6) 9 true,I.st (.t 8) (.t 37) 9 false,I.mv 9 k0,I.mv 10 kTT,I.mv 11 k0])
 (.ret)))))))
 ((.seq (.reg [I.bin 39 .eql (.t 23) (kII 56),I.mv 38 (.t 39)])
 (.ite (.t 38)
 ((.seq ((.seq (.reg [I.fa 40 (.t 6) 0 1,I.ld 41 (.t 40) 1 false,I.fa 42 (.t 7) 0 1,I.ld 43 (.t 42) 1 false,I.bin 44 .neq (.t 41) (.t 43)])
 (.ite (.t 44)
 ((.seq (.reg [I.ld 45 (.t 6) 9 true,I.st (.t 8) (.t 45) 9 false,I.mv 9 k0,I.mv 10 kFF,I.mv 11 (kII 20)])
 (.ret)))
 (.skip))))
 ((.seq (.reg [I.fa 46 (.t 6) 0 1,I.st (.t 46) (.k (.i .i64 (-1))) 1 false])
 ((.seq (.reg [I.ld 47 (.t 6) 9 true,I.st (.t 8) (.t 47) 9 false,I.mv 9 k0,I.mv 10 kTT,I.mv 11 k0])
 (.ret)))))))
 (.skip))))))))))
 ((.seq ((.seq (.reg [I.mv 48 (.t 13),I.mv 49 (.t 48),.sc true 55 49 [I.fa 50 (.t 6) 0 1,I.ld 51 (.t 50) 1 false,I.fa 52 (.t 7) 0 1,I.ld 53 (.t 52) 1 false,I.bin 54 .eql (.t 51) (.t 53)] (.t 54)])
 (.ite (.t 55)
 ((.seq (.reg [I.ld 56 (.t 6) 9 true,I.st (.t 8) (.t 56) 9 false,I.mv 9 k0,I.mv 10 kFF,I.mv 11 (kII 17)])
 (.ret)))
 (.skip))))
 ((.seq ((.seq (.reg [I.fa 57 (.t 6) 0 1,I.ld 58 (.t 57) 1 false,I.bin 59 .geq (.t 58) k0,I.mv 60 (.t 59),.sc true 70 60 [I.fa 61 (.t 7) 1 1,I.ld 62 (.t 61) 1 false,I.bin 63 .eql (.t 62) (kII 55),I.mv 64 (.t 63),.sc false 69 64 [I.fa 65 (.t 6) 3 1,I.ld 66 (.t 65) 1 false,I.len 67 (.t 66) .sl,I.bin 68 .gtr (.t 67) k0] (.t 68)] (.t 69)])
 (.ite (.t 70)
 ((.seq (.reg [I.ld 71 (.t 6) 9 true,I.st (.t 8) (.t 71) 9 false,I.mv 9 k0,I.mv 10 kFF,I.mv 11 (kII 29)])
 (.ret)))
 (.skip))))
 ((.seq ((.seq (.reg [I.fa 72 (.t 7) 1 1,I.ld 73 (.t 72) 1 false,I.bin 74 .eql (.t 73) (kII 55)])
 (.ite (.t 74)
 (.reg [I.fa 75 (.t 7) 0 1,I.ld 76 (.t 75) 1 false,I.fa 77 (.t 6) 0 1,I.st (.t 77) (.t 76) 1 false])
 (.drw [] [0,1,3,4,5,6,2,7,8,9] [I.fa 78 (.t 6) 3 1,I.ld 79 (.t 78) 1 false,I.mv 81 (.t 12),I.fad 82 (.t 7) 0 1,I.ldd 83 (.t 82) 1 false,I.buildSl 84 1 1 [(.i .i64 0)] [(0,(.t 83))] true,I.callk (some 80) z_214 [(.t 79)],I.callz 85 z_263 [(.t 80),(.t 81),(.t 84)],I.fa 86 (.t 6) 3 1,I.st (.t 86) (.t 85) 1 false]))))
 ((.seq (.reg [I.ld 87 (.t 6) 9 true,I.st (.t 8) (.t 87) 9 false,I.mv 9 k0,I.mv 10 kTT,I.mv 11 k0])
 (.ret)))))))))))))))
 [.c 8 9 true,.t 9,.t 10,.t 11] false none
def F_z_321:F:=.mk
 ((.seq (.reg [I.mv 6 (.k (.sl 1 true []))])
 ((.seq (.reg [I.mv 8 (.t 0),I.mv 9 (.t 1),I.mv 10 (.t 2),I.mv 11 (.t 0),I.len 12 (.t 11) .sl,I.sl3 13 (.t 8) (.t 9) (.t 10) (.t 12) 1])
 ((.seq ((.seq (.reg [I.mv 14 (.t 1),I.mv 15 (.t 2),I.bin 16 .eql (.t 14) (.t 15)])
 (.ite (.t 16)
 ((.seq (.reg [I.mv 17 (.t 0),I.mv 6 (.t 17)])
 (.ret)))
 (.skip))))
 ((.seq (.reg [I.mv 18 (.t 0),I.len 19 (.t 18) .sl,I.mv 7 (.t 19)])
 ((.seq (.drw [] [0,1,2,3,4,5,6,7] [I.mv 20 (.t 0),I.mv 21 (.t 1),I.sl 22 (.t 20) none (some (.t 21)) 1,I.mv 23 (.t 0),I.mv 24 (.t 2),I.sl 25 (.t 23) (some (.t 24)) none 1,I.app 26 (.t 22) (.t 25) 1,I.mv 0 (.t 26)])
 ((.seq (.reg [I.mv 27 (.t 0),I.mv 28 (.t 0),I.len 29 (.t 28) .sl,I.mv 30 (.t 7),I.sl 31 (.t 27) (some (.t 29)) (some (.t 30)) 1,I.clr none (.t 31) 1 [(.i .i64 0)]])
 ((.seq (.reg [I.mv 32 (.t 0),I.mv 6 (.t 32)])
 (.ret)))))))))))))))
 [.t 6] true none
def F_z_322:F:=.mk
 ((.seq (.reg [I.box 4 (.t 0) 2 true,I.box 5 (.t 1) 4 true,I.box 6 (.t 2) 9 false,I.box 7 (.t 3) 5 true,I.new 8 zR,I.mv 9 k0,I.mv 10 kFF,I.mv 11 k0])
 ((.seq (.blk 0 ((.seq (.reg [I.fa 14 (.t 7) 1 1,I.ld 15 (.t 14) 1 false,I.bin 16 .eql (.t 15) (kII 62),I.mv 17 (.t 16),.sc false 26 17 [I.fa 18 (.t 6) 1 1,I.ld 19 (.t 18) 1 false,I.fa 20 (.t 7) 2 1,I.ld 21 (.t 20) 1 false,I.bin 22 .add (.t 19) (.t 21),I.fa 23 (.t 5) 2 1,I.ld 24 (.t 23) 1 false,I.bin 25 .gtr (.t 22) (.t 24)] (.t 25),I.mv 13 (.t 26)])
 (.ite (.t 13)
 ((.seq (.reg [I.ld 27 (.t 6) 9 true,I.st (.t 8) (.t 27) 9 false,I.mv 9 k0,I.mv 10 kFF,I.mv 11 (kII 17)])
 (.ret)))
 ((.seq (.reg [I.fa 29 (.t 7) 1 1,I.ld 30 (.t 29) 1 false,I.bin 31 .eql (.t 30) (kII 62),I.mv 28 (.t 31)])
 (.ite (.t 28)
 (.reg [I.fa 32 (.t 6) 1 1,I.ld 33 (.t 32) 1 false,I.fa 34 (.t 7) 2 1,I.ld 35 (.t 34) 1 false,I.bin 36 .add (.t 33) (.t 35),I.fa 37 (.t 6) 1 1,I.st (.t 37) (.t 36) 1 false])
 ((.seq (.reg [I.fa 39 (.t 6) 1 1,I.ld 40 (.t 39) 1 false,I.fa 41 (.t 7) 2 1,I.ld 42 (.t 41) 1 false,I.bin 43 .geq (.t 40) (.t 42),I.mv 38 (.t 43)])
 (.ite (.t 38)
 (.reg [I.fa 44 (.t 6) 1 1,I.ld 45 (.t 44) 1 false,I.fa 46 (.t 7) 2 1,I.ld 47 (.t 46) 1 false,I.bin 48 .sub (.t 45) (.t 47),I.fa 49 (.t 6) 1 1,I.st (.t 49) (.t 48) 1 false])
 ((.seq (.reg [I.fa 51 (.t 7) 1 1,I.ld 52 (.t 51) 1 false,I.bin 53 .eql (.t 52) (kII 61),I.mv 50 (.t 53)])
 (.ite (.t 50)
 ((.seq (.reg [I.ld 54 (.t 6) 9 true,I.st (.t 8) (.t 54) 9 false,I.mv 9 k0,I.mv 10 kFF,I.mv 11 k0])
 (.ret)))
 ((.seq (.reg [I.ld 12 (.t 6) 9 true,I.st (.t 8) (.t 12) 9 false,I.mv 9 k0,I.mv 10 kFF,I.mv 11 (kII 29)])
 (.ret))))))))))))))))
 ((.seq (.reg [I.ld 55 (.t 6) 9 true,I.st (.t 8) (.t 55) 9 false,I.mv 9 k0,I.mv 10 kTT,I.mv 11 k0])
 (.ret)))))))
 [.c 8 9 true,.t 9,.t 10,.t 11] false none
def F_z_324:F:=.mk
 ((.seq (.reg [I.box 3 (.t 0) 2 true,I.box 4 (.t 1) 4 true,I.box 5 (.t 2) 9 false,I.mv 6 kFF])
 ((.seq (.reg [I.fa 8 (.t 5) 8 1,I.ld 9 (.t 8) 1 false,I.mv 7 (.t 9)])
 ((.seq (.reg [I.fa 10 (.t 5) 8 1,I.st (.t 10) k0 1 false])
 ((.seq (.reg [I.mv 11 (.t 7),I.bin 12 .geq (.t 11) k0,I.mv 13 (.t 12),.sc false 18 13 [I.mv 14 (.t 7),I.fa 15 (.t 4) 2 1,I.ld 16 (.t 15) 1 false,I.bin 17 .lss (.t 14) (.t 16)] (.t 17),I.mv 19 (.t 18),.sc false 27 19 [I.fa 20 (.t 3) 0 2,I.fa 21 (.t 20) 1 1,I.ld 22 (.t 21) 1 false,I.ld 23 (.t 4) 4 true,I.ld 24 (.t 5) 9 true,I.callv (some 25) (.t 22) [(.t 23),(.t 24)],I.bin 26 .eql (.t 25) k0] (.t 26),I.mv 6 (.t 27)])
 (.ret)))))))))
 [.t 6] false none
def F_z_325:F:=.mk
 ((.seq (.reg [I.box 4 (.t 0) 2 true,I.box 5 (.t 1) 4 true,I.box 6 (.t 2) 9 false,I.box 7 (.t 3) 5 true,I.new 8 zR,I.mv 9 k0,I.mv 10 kFF,I.mv 11 k0])
 ((.seq (.reg [I.fa 13 (.t 6) 8 1,I.ld 14 (.t 13) 1 false,I.mv 12 (.t 14)])
 ((.seq (.reg [I.fa 15 (.t 6) 8 1,I.ld 16 (.t 15) 1 false,I.bin 17 .add (.t 16) (kII 1),I.fa 18 (.t 6) 8 1,I.st (.t 18) (.t 17) 1 false])
 ((.seq ((.seq (.reg [I.fa 19 (.t 6) 8 1,I.ld 20 (.t 19) 1 false,I.fa 21 (.t 5) 2 1,I.ld 22 (.t 21) 1 false,I.bin 23 .eql (.t 20) (.t 22)])
 (.ite (.t 23)
 ((.seq ((.seq (.reg [I.fa 24 (.t 6) 1 1,I.ld 25 (.t 24) 1 false,I.bin 26 .eql (.t 25) (kII 1099511627776)])
 (.ite (.t 26)
 ((.seq (.reg [I.ld 27 (.t 6) 9 true,I.st (.t 8) (.t 27) 9 false,I.mv 9 k0,I.mv 10 kFF,I.mv 11 (kII 4)])
 (.ret)))
 (.skip))))
 ((.seq (.reg [I.fa 28 (.t 6) 8 1,I.st (.t 28) k0 1 false])
 (.reg [I.fa 29 (.t 6) 1 1,I.ld 30 (.t 29) 1 false,I.bin 31 .add (.t 30) (kII 1),I.fa 32 (.t 6) 1 1,I.st (.t 32) (.t 31) 1 false])))))
 (.skip))))
 ((.seq (.reg [I.ld 33 (.t 6) 9 true,I.mv 34 (.t 12),I.st (.t 8) (.t 33) 9 false,I.mv 9 (.t 34),I.mv 10 kTT,I.mv 11 k0])
 (.ret)))))))))))
 [.c 8 9 true,.t 9,.t 10,.t 11] false none
def F_z_327:F:=.mk
 ((.seq (.reg [I.box 3 (.t 0) 2 true,I.box 4 (.t 1) 4 true,I.box 5 (.t 2) 9 true,I.mv 6 kFF])
 ((.seq (.drw [] [0,1,2,3,4,5,6,7,8,9,10,11,12,13,14,15,16,17] [I.fad 7 (.t 3) 0 2,I.fad 8 (.t 7) 1 1,I.ldd 9 (.t 8) 1 false,I.ldd 10 (.t 4) 4 true,I.build 11 zR [(0,1,(.k (.i .i64 (-1))))],I.callv (some 12) (.t 9) [(.t 10),(.t 11)],I.bin 13 .eql (.t 12) k0,I.mv 14 (.t 13),.sc false 23 14 [I.fad 15 (.t 3) 0 2,I.fad 16 (.t 15) 1 1,I.ldd 17 (.t 16) 1 false,I.ldd 18 (.t 4) 4 true,I.call (some 19) z_330 [(.t 18)],I.ldd 20 (.t 5) 9 true,I.callv (some 21) (.t 17) [(.t 19),(.t 20)],I.bin 22 .eql (.t 21) k0] (.t 22),I.mv 6 (.t 23)])
 (.ret)))))
 [.t 6] false none
def F_z_328:F:=.mk
 ((.seq (.reg [I.box 4 (.t 0) 2 true,I.box 5 (.t 1) 4 true,I.box 6 (.t 2) 9 false,I.box 7 (.t 3) 5 true,I.new 8 zR,I.mv 9 k0,I.mv 10 kFF,I.mv 11 k0])
 ((.seq ((.seq (.reg [I.fa 13 (.t 7) 1 1,I.ld 14 (.t 13) 1 false])
 (.blk 0 ((.seq (.reg [I.bin 20 .eql (.t 14) (kII 64),I.mv 19 (.t 20)])
 (.ite (.t 19)
 ((.seq ((.seq (.reg [I.fa 21 (.t 6) 7 1,I.ld 22 (.t 21) 1 false])
 (.ite (.t 22)
 ((.seq (.reg [I.ld 23 (.t 6) 9 true,I.st (.t 8) (.t 23) 9 false,I.mv 9 k0,I.mv 10 kFF,I.mv 11 k0])
 (.ret)))
 (.skip))))
 ((.seq ((.seq (.drw [] [0,1,2,3,4,5,6] [I.fa 24 (.t 6) 5 1,I.ld 25 (.t 24) 1 false,I.len 26 (.t 25) .sl,I.ldd 27 (.t 5) 4 true,I.call (some 28) z_330 [(.t 27)],I.fld 29 (.t 28) 2 1 false,I.bin 30 .geq (.t 26) (.t 29)])
 (.ite (.t 30)
 ((.seq (.reg [I.ld 31 (.t 6) 9 true,I.st (.t 8) (.t 31) 9 false,I.mv 9 k0,I.mv 10 kFF,I.mv 11 (kII 29)])
 (.ret)))
 (.skip))))
 (.drw [] [0,1,3,4,5,2,6,7,8] [I.fa 32 (.t 6) 5 1,I.ld 33 (.t 32) 1 false,I.fad 35 (.t 7) 2 1,I.ldd 36 (.t 35) 1 false,I.buildSl 37 1 1 [(.i .i64 0)] [(0,(.t 36))] true,I.callk (some 34) z_214 [(.t 33)],I.apk 38 (.t 34) (.t 37) 1,I.fa 39 (.t 6) 5 1,I.st (.t 39) (.t 38) 1 false])))))
 ((.seq (.reg [I.bin 41 .eql (.t 14) (kII 65),I.mv 40 (.t 41)])
 (.ite (.t 40)
 ((.seq ((.seq (.reg [I.fa 42 (.t 6) 5 1,I.ld 43 (.t 42) 1 false,I.len 44 (.t 43) .sl,I.bin 45 .eql (.t 44) k0])
 (.ite (.t 45)
 ((.seq ((.seq (.reg [I.fa 46 (.t 6) 7 1,I.ld 47 (.t 46) 1 false])
 (.ite (.t 47)
 ((.seq (.reg [I.ld 48 (.t 6) 9 true,I.st (.t 8) (.t 48) 9 false,I.mv 9 k0,I.mv 10 kFF,I.mv 11 k0])
 (.ret)))
 (.skip))))
 ((.seq (.reg [I.ld 49 (.t 6) 9 true,I.st (.t 8) (.t 49) 9 false,I.mv 9 k0,I.mv 10 kFF,I.mv 11 (kII 29)])
 (.ret)))))
 (.skip))))
 ((.seq (.reg [I.fa 50 (.t 6) 5 1,I.ld 51 (.t 50) 1 false,I.ixs 52 (.t 51) k0 1,I.ld 53 (.t 52) 1 false,I.mv 12 (.t 53)])
 ((.seq (.reg [I.fa 54 (.t 6) 5 1,I.ld 55 (.t 54) 1 false,I.sl 56 (.t 55) (some (kII 1)) none 1,I.callz 57 z_214 [(.t 56)],I.fa 58 (.t 6) 5 1,I.st (.t 58) (.t 57) 1 false])
 ((.seq (.reg [I.ld 59 (.t 6) 9 true,I.mv 60 (.t 12),I.st (.t 8) (.t 59) 9 false,I.mv 9 (.t 60),I.mv 10 kTT,I.mv 11 k0])
 (.ret)))))))))
 ((.seq ((.seq (.reg [I.fa 15 (.t 6) 7 1,I.ld 16 (.t 15) 1 false])
 (.ite (.t 16)
 ((.seq (.reg [I.ld 17 (.t 6) 9 true,I.st (.t 8) (.t 17) 9 false,I.mv 9 k0,I.mv 10 kFF,I.mv 11 (kII 17)])
 (.ret)))
 (.skip))))
 (.reg [I.fa 18 (.t 6) 7 1,I.st (.t 18) kTT 1 false]))))))))))))
 ((.seq (.reg [I.ld 61 (.t 6) 9 true,I.st (.t 8) (.t 61) 9 false,I.mv 9 k0,I.mv 10 kTT,I.mv 11 k0])
 (.ret)))))))
 [.c 8 9 true,.t 9,.t 10,.t 11] false none
def F_z_330:F:=.mk
 ((.seq (.reg [I.box 1 (.t 0) 4 false,I.new 2 [(.s []),(.i .i64 0),(.i .i64 0),(.i .i64 0)]])
 ((.seq (.reg [I.fa 3 (.t 1) 2 1,I.ld 4 (.t 3) 1 false,I.mx 5 (kII 1) (.t 4),I.fa 6 (.t 1) 2 1,I.st (.t 6) (.t 5) 1 false])
 ((.seq (.reg [I.ld 7 (.t 1) 4 true,I.st (.t 2) (.t 7) 4 false])
 (.ret)))))))
 [.c 2 4 true] false none
def F_z_332:F:=.mk
 ((.seq (.reg [I.box 3 (.t 0) 2 true,I.box 4 (.t 1) 4 true,I.box 5 (.t 2) 9 true,I.mv 6 kFF])
 ((.seq (.drw [] [0,1,2,3,4,5,6,7,8,9,10,11,12,13,14,15,16,17] [I.fad 7 (.t 3) 0 2,I.fad 8 (.t 7) 1 1,I.ldd 9 (.t 8) 1 false,I.ldd 10 (.t 4) 4 true,I.build 11 zR [(0,1,(.k (.i .i64 (-1))))],I.callv (some 12) (.t 9) [(.t 10),(.t 11)],I.bin 13 .eql (.t 12) k0,I.mv 14 (.t 13),.sc false 23 14 [I.fad 15 (.t 3) 0 2,I.fad 16 (.t 15) 1 1,I.ldd 17 (.t 16) 1 false,I.ldd 18 (.t 4) 4 true,I.call (some 19) z_330 [(.t 18)],I.ldd 20 (.t 5) 9 true,I.callv (some 21) (.t 17) [(.t 19),(.t 20)],I.bin 22 .eql (.t 21) k0] (.t 22),I.mv 6 (.t 23)])
 (.ret)))))
 [.t 6] false none
def F_z_333_L0:C :=
 (.seq (.reg [I.bin 33 .lss (.t 32) (.t 31)])
 ((.seq (.ite (.t 33)
 (.skip)
 (.seq (.keep [6,8,14,15]) (.exit 1)))
 ((.seq (.blk 2 ((.seq (.reg [I.mv 34 (.t 32),I.mv 16 (.t 34)])
 ((.seq ((.seq (.drw [] [0,1,2,3,4,5,6,7,8,9] [I.mv 35 (.t 14),I.mv 36 (.t 16),I.ixs 37 (.t 35) (.t 36) 2,I.fa 38 (.t 37) 1 1,I.ld 39 (.t 38) 1 false,I.len 40 (.t 39) .sl,I.ldd 41 (.t 5) 4 true,I.call (some 42) z_330 [(.t 41)],I.fld 43 (.t 42) 2 1 false,I.bin 44 .geq (.t 40) (.t 43)])
 (.ite (.t 44)
 ((.seq (.reg [I.ld 45 (.t 6) 9 true,I.st (.t 8) (.t 45) 9 false,I.mv 9 k0,I.mv 10 kFF,I.mv 11 (kII 29)])
 (.seq (.keep [8,9,10,11]) .ret)))
 (.skip))))
 (.drw [] [0,1,2,3,4,5,6,8,9,10,7,11,12,13,14] [I.mv 46 (.t 14),I.mv 47 (.t 16),I.mv 48 (.t 14),I.mv 49 (.t 16),I.ixs 50 (.t 48) (.t 49) 2,I.fa 51 (.t 50) 1 1,I.ld 52 (.t 51) 1 false,I.fad 54 (.t 7) 2 1,I.ldd 55 (.t 54) 1 false,I.buildSl 56 1 1 [(.i .i64 0)] [(0,(.t 55))] true,I.callk (some 53) z_214 [(.t 52)],I.apk 57 (.t 53) (.t 56) 1,I.ixs 58 (.t 46) (.t 47) 2,I.fa 59 (.t 58) 1 1,I.st (.t 59) (.t 57) 1 false]))))))
 (.reg [I.bin 60 .add (.t 32) (kII 1),I.mv 32 (.t 60)]))))))
def F_z_333:F:=.mk
 ((.seq (.reg [I.box 4 (.t 0) 2 true,I.box 5 (.t 1) 4 true,I.box 6 (.t 2) 9 false,I.box 7 (.t 3) 5 true,I.new 8 zR,I.mv 9 k0,I.mv 10 kFF,I.mv 11 k0])
 ((.seq (.reg [I.fa 18 (.t 6) 6 1,I.ld 19 (.t 18) 1 false,I.fa 20 (.t 7) 0 1,I.ld 21 (.t 20) 1 false,I.call (some 22) z_335 [(.t 19),(.t 21),(.k (.fn z_336 [] []))],I.mv 17 (.t 22),I.ext 23 (.t 17) 0,I.ext 24 (.t 17) 1,I.mv 12 (.t 23),I.mv 13 (.t 24)])
 ((.seq (.reg [I.fa 25 (.t 6) 6 1,I.ld 26 (.t 25) 1 false,I.callk (some 27) z_236 [(.t 26)],I.mv 14 (.t 27)])
 ((.seq (.reg [I.mv 15 k0])
 ((.seq ((.seq (.reg [I.fa 28 (.t 7) 1 1,I.ld 29 (.t 28) 1 false])
 (.blk 0 ((.seq (.reg [I.bin 62 .eql (.t 29) (kII 69),I.mv 61 (.t 62)])
 (.ite (.t 61)
 ((.seq ((.seq (.reg [I.mv 63 (.t 13)])
 (.ite (.t 63)
 ((.seq (.reg [I.ld 64 (.t 6) 9 true,I.st (.t 8) (.t 64) 9 false,I.mv 9 k0,I.mv 10 kFF,I.mv 11 (kII 6)])
 (.ret)))
 (.skip))))
 (.reg [I.mv 65 (.t 14),I.mv 66 (.t 12),I.fa 67 (.t 7) 0 1,I.ld 68 (.t 67) 1 false,I.build 69 [(.i .i64 0),(.sl 1 true [])] [(0,1,(.t 68))],I.buildSl 70 2 1 [(.i .i64 0),(.sl 1 true [])] [(0,(.t 69))] true,I.callz 71 z_237 [(.t 65),(.t 66),(.t 70)],I.mv 14 (.t 71)])))
 ((.seq (.reg [I.bin 73 .eql (.t 29) (kII 71),I.mv 72 (.t 73)])
 (.ite (.t 72)
 ((.seq ((.seq (.reg [I.mv 74 (.t 13),I.un 75 .not (.t 74)])
 (.ite (.t 75)
 ((.seq (.reg [I.ld 76 (.t 6) 9 true,I.st (.t 8) (.t 76) 9 false,I.mv 9 k0,I.mv 10 kFF,I.mv 11 (kII 20)])
 (.ret)))
 (.skip))))
 (.reg [I.mv 77 (.t 14),I.mv 78 (.t 12),I.mv 79 (.t 12),I.bin 80 .add (.t 79) (kII 1),I.callz 81 z_170 [(.t 77),(.t 78),(.t 80)],I.mv 14 (.t 81)])))
 ((.seq (.reg [I.bin 83 .eql (.t 29) (kII 70),I.mv 82 (.t 83)])
 (.ite (.t 82)
 ((.seq ((.seq (.reg [I.mv 84 (.t 13),I.un 85 .not (.t 84)])
 (.ite (.t 85)
 ((.seq (.reg [I.ld 86 (.t 6) 9 true,I.st (.t 8) (.t 86) 9 false,I.mv 9 k0,I.mv 10 kFF,I.mv 11 (kII 20)])
 (.ret)))
 (.skip))))
 ((.seq ((.seq (.reg [I.mv 87 (.t 14),I.mv 88 (.t 12),I.ixs 89 (.t 87) (.t 88) 2,I.fa 90 (.t 89) 1 1,I.ld 91 (.t 90) 1 false,I.len 92 (.t 91) .sl,I.bin 93 .eql (.t 92) k0])
 (.ite (.t 93)
 ((.seq (.reg [I.ld 94 (.t 6) 9 true,I.st (.t 8) (.t 94) 9 false,I.mv 9 k0,I.mv 10 kFF,I.mv 11 (kII 29)])
 (.ret)))
 (.skip))))
 ((.seq (.reg [I.mv 95 (.t 14),I.mv 96 (.t 12),I.ixs 97 (.t 95) (.t 96) 2,I.fa 98 (.t 97) 1 1,I.ld 99 (.t 98) 1 false,I.ixs 100 (.t 99) k0 1,I.ld 101 (.t 100) 1 false,I.mv 15 (.t 101)])
 (.reg [I.mv 102 (.t 14),I.mv 103 (.t 12),I.mv 104 (.t 14),I.mv 105 (.t 12),I.ixs 106 (.t 104) (.t 105) 2,I.fa 107 (.t 106) 1 1,I.ld 108 (.t 107) 1 false,I.sl 109 (.t 108) (some (kII 1)) none 1,I.callz 110 z_214 [(.t 109)],I.ixs 111 (.t 102) (.t 103) 2,I.fa 112 (.t 111) 1 1,I.st (.t 112) (.t 110) 1 false])))))))
 ((.seq (.reg [I.mv 30 (.t 14),I.len 31 (.t 30) .sl,I.mv 32 k0])
 (.blk 1 (.loop [5,6,7,8,14,15,31,32] F_z_333_L0))))))))))))))))
 ((.seq (.reg [I.mv 113 (.t 14),I.fa 114 (.t 6) 6 1,I.st (.t 114) (.t 113) 1 false])
 ((.seq (.reg [I.ld 115 (.t 6) 9 true,I.mv 116 (.t 15),I.st (.t 8) (.t 115) 9 false,I.mv 9 (.t 116),I.mv 10 kTT,I.mv 11 k0])
 (.ret)))))))))))))))
 [.c 8 9 true,.t 9,.t 10,.t 11] false none
def F_z_335_L0:C :=
 (.seq ((.seq (.reg [I.mv 15 (.t 9),I.mv 16 (.t 10),I.bin 17 .lss (.t 15) (.t 16)])
 (.ite (.t 17)
 (.skip)
 (.seq (.keep [0,1,2,8,9]) (.exit 0)))))
 (.blk 1 ((.seq (.reg [I.mv 18 (.t 9),I.mv 19 (.t 10),I.bin 20 .add (.t 18) (.t 19),I.cvi 21 .u64 (.t 20),I.bin 22 .shr (.t 21) (.k (.i .u64 1)),I.cvi 23 .i64 (.t 22),I.mv 11 (.t 23)])
 ((.seq (.reg [I.mv 24 (.t 2),I.mv 25 (.t 0),I.mv 26 (.t 11),I.ixs 27 (.t 25) (.t 26) 2,I.ld 28 (.t 27) 2 true,I.mv 29 (.t 1),I.callv (some 30) (.t 24) [(.t 28),(.t 29)],I.bin 31 .lss (.t 30) k0])
 (.ite (.t 31)
 (.reg [I.mv 32 (.t 11),I.bin 33 .add (.t 32) (kII 1),I.mv 9 (.t 33)])
 (.reg [I.mv 34 (.t 11),I.mv 10 (.t 34)]))))))))
def F_z_335:F:=.mk
 ((.seq (.reg [I.mv 6 k0,I.mv 7 kFF])
 ((.seq (.reg [I.mv 12 (.t 0),I.len 13 (.t 12) .sl,I.mv 8 (.t 13)])
 ((.seq (.reg [I.mv 14 (.t 8),I.mv 9 k0,I.mv 10 (.t 14)])
 ((.seq (.blk 0 (.loop [0,1,2,8,9,10] F_z_335_L0))
 ((.seq (.reg [I.mv 35 (.t 9),I.mv 36 (.t 9),I.mv 37 (.t 8),I.bin 38 .lss (.t 36) (.t 37),I.mv 39 (.t 38),.sc false 48 39 [I.mv 40 (.t 2),I.mv 41 (.t 0),I.mv 42 (.t 9),I.ixs 43 (.t 41) (.t 42) 2,I.ld 44 (.t 43) 2 true,I.mv 45 (.t 1),I.callv (some 46) (.t 40) [(.t 44),(.t 45)],I.bin 47 .eql (.t 46) k0] (.t 47),I.mv 6 (.t 35),I.mv 7 (.t 48)])
 (.ret)))))))))))
 [.t 6,.t 7] false none
def F_z_336:F:=.mk
 ((.seq (.reg [I.box 2 (.t 0) 2 true,I.mv 4 k0])
 ((.seq (.reg [I.fa 5 (.t 2) 0 1,I.ld 6 (.t 5) 1 false,I.mv 7 (.t 1),I.bin 8 .sub (.t 6) (.t 7),I.mv 4 (.t 8)])
 (.ret)))))
 [.t 4] false none
def F_z_339:F:=.mk
 ((.seq (.reg [I.box 4 (.t 0) 2 true,I.box 5 (.t 1) 4 true,I.box 6 (.t 2) 9 false,I.box 7 (.t 3) 5 true,I.new 8 zR,I.mv 9 k0,I.mv 10 kFF,I.mv 11 k0])
 ((.seq ((.seq (.reg [I.fa 13 (.t 7) 4 1,I.ld 14 (.t 13) 1 false,I.fa 15 (.t 6) 2 1,I.ld 16 (.t 15) 1 false,I.bin 17 .lss (.t 14) (.t 16)])
 (.ite (.t 17)
 ((.seq (.reg [I.ld 18 (.t 6) 9 true,I.st (.t 8) (.t 18) 9 false,I.mv 9 k0,I.mv 10 kFF,I.mv 11 (kII 2)])
 (.ret)))
 (.skip))))
 ((.seq (.reg [I.fa 19 (.t 7) 4 1,I.ld 20 (.t 19) 1 false,I.fa 21 (.t 6) 2 1,I.ld 22 (.t 21) 1 false,I.bin 23 .sub (.t 20) (.t 22),I.fa 24 (.t 5) 3 1,I.ld 25 (.t 24) 1 false,I.bin 26 .quo (.t 23) (.t 25),I.mv 12 (.t 26)])
 ((.seq ((.seq (.reg [I.mv 27 (.t 12),I.fa 28 (.t 5) 2 1,I.ld 29 (.t 28) 1 false,I.fa 30 (.t 6) 1 1,I.ld 31 (.t 30) 1 false,I.bin 32 .sub (.t 29) (.t 31),I.bin 33 .geq (.t 27) (.t 32)])
 (.ite (.t 33)
 (.drw [] [0,1,2,3,4,5,6,7] [I.fad 34 (.t 5) 2 1,I.ldd 35 (.t 34) 1 false,I.fad 36 (.t 7) 4 1,I.ldd 37 (.t 36) 1 false,I.fa 38 (.t 6) 1 1,I.st (.t 38) (.t 35) 1 false,I.fa 39 (.t 6) 2 1,I.st (.t 39) (.t 37) 1 false])
 (.drw [] [0,1,2,3,4,5,6,7,8,9,10,11,12,13,14] [I.fa 40 (.t 6) 1 1,I.ld 41 (.t 40) 1 false,I.mv 42 (.t 12),I.bin 43 .add (.t 41) (.t 42),I.fa 44 (.t 6) 2 1,I.ld 45 (.t 44) 1 false,I.mv 46 (.t 12),I.fad 47 (.t 5) 3 1,I.ldd 48 (.t 47) 1 false,I.bin 49 .mul (.t 46) (.t 48),I.bin 50 .add (.t 45) (.t 49),I.fa 51 (.t 6) 1 1,I.st (.t 51) (.t 43) 1 false,I.fa 52 (.t 6) 2 1,I.st (.t 52) (.t 50) 1 false]))))
 ((.seq ((.seq (.reg [I.fa 53 (.t 7) 1 1,I.ld 54 (.t 53) 1 false,I.bin 55 .eql (.t 54) (kII 72)])
 (.ite (.t 55)
 ((.seq ((.seq (.reg [I.fa 56 (.t 6) 1 1,I.ld 57 (.t 56) 1 false,I.fa 58 (.t 7) 2 1,I.ld 59 (.t 58) 1 false,I.bin 60 .lss (.t 57) (.t 59)])
 (.ite (.t 60)
 ((.seq (.reg [I.ld 61 (.t 6) 9 true,I.st (.t 8) (.t 61) 9 false,I.mv 9 k0,I.mv 10 kFF,I.mv 11 (kII 29)])
 (.ret)))
 (.skip))))
 (.reg [I.fa 62 (.t 6) 1 1,I.ld 63 (.t 62) 1 false,I.fa 64 (.t 7) 2 1,I.ld 65 (.t 64) 1 false,I.bin 66 .sub (.t 63) (.t 65),I.fa 67 (.t 6) 1 1,I.st (.t 67) (.t 66) 1 false])))
 (.skip))))
 ((.seq (.reg [I.ld 68 (.t 6) 9 true,I.st (.t 8) (.t 68) 9 false,I.mv 9 k0,I.mv 10 kTT,I.mv 11 k0])
 (.ret)))))))))))))
 [.c 8 9 true,.t 9,.t 10,.t 11] false none
def F_z_341:F:=.mk
 ((.seq (.reg [I.box 4 (.t 0) 2 true,I.box 5 (.t 1) 4 true,I.box 6 (.t 2) 9 false,I.box 7 (.t 3) 5 true,I.new 8 zR,I.mv 9 k0,I.mv 10 kFF,I.mv 11 k0])
 ((.seq (.blk 0 ((.seq (.reg [I.fa 13 (.t 7) 1 1,I.ld 14 (.t 13) 1 false,I.bin 15 .eql (.t 14) (kII 74),I.mv 16 (.t 15),.sc false 20 16 [I.fa 17 (.t 6) 7 1,I.ld 18 (.t 17) 1 false,I.un 19 .not (.t 18)] (.t 19),I.mv 12 (.t 20)])
 (.ite (.t 12)
 ((.seq (.reg [I.ld 21 (.t 6) 9 true,I.st (.t 8) (.t 21) 9 false,I.mv 9 k0,I.mv 10 kFF,I.mv 11 (kII 29)])
 (.ret)))
 ((.seq (.reg [I.fa 23 (.t 7) 1 1,I.ld 24 (.t 23) 1 false,I.bin 25 .eql (.t 24) (kII 74),I.mv 22 (.t 25)])
 (.ite (.t 22)
 ((.seq (.drw [] [0,1,2,3,4,5,6] [I.ld 26 (.t 6) 9 true,I.fa 27 (.t 6) 8 1,I.ld 28 (.t 27) 1 false,I.st (.t 8) (.t 26) 9 false,.re (.fa 27 (.t 6) 8 1),.re (.ld 28 (.t 27) 1 false),I.mv 9 (.t 28),I.mv 10 kTT,I.mv 11 k0])
 (.ret)))
 ((.seq (.reg [I.fa 30 (.t 6) 7 1,I.ld 31 (.t 30) 1 false,I.mv 29 (.t 31)])
 (.ite (.t 29)
 ((.seq (.reg [I.ld 32 (.t 6) 9 true,I.st (.t 8) (.t 32) 9 false,I.mv 9 k0,I.mv 10 kFF,I.mv 11 (kII 17)])
 (.ret)))
 (.skip)))))))))))
 ((.seq (.drw [] [0,1,2,3,4,5] [I.fad 33 (.t 7) 2 1,I.ldd 34 (.t 33) 1 false,I.fa 35 (.t 6) 7 1,I.st (.t 35) kTT 1 false,I.fa 36 (.t 6) 8 1,I.st (.t 36) (.t 34) 1 false])
 ((.seq (.reg [I.ld 37 (.t 6) 9 true,I.st (.t 8) (.t 37) 9 false,I.mv 9 k0,I.mv 10 kTT,I.mv 11 k0])
 (.ret)))))))))
 [.c 8 9 true,.t 9,.t 10,.t 11] false none
def F_z_263:F:=⟨.skip,[],true,some (insP 1)⟩
def F_z_237:F:=⟨.skip,[],true,some (insP 2)⟩
def F_z_260:F:=⟨.skip,[],true,some (insP 5)⟩
def tab:List (Nat×F):=[(8,F_z_8),(13,F_z_13),(14,F_z_14),(15,F_z_15),(17,F_z_17),(18,F_z_18),(20,F_z_20),(23,F_z_23),(25,F_z_25),(29,F_z_29),(30,F_z_30),(31,F_z_31),(35,F_z_35),(36,F_z_36),(37,F_z_37),(38,F_z_38),(42,F_z_42),(43,F_z_43),(44,F_z_44),(45,F_z_45),(57,F_z_57),(62,F_z_62),(63,F_z_63),(64,F_z_64),(65,F_z_65),(66,F_z_66),(67,F_z_67),(68,F_z_68),(69,F_z_69),(70,F_z_70),(71,F_z_71),(72,F_z_72),(73,F_z_73),(74,F_z_74),(75,F_z_75),(76,F_z_76),(77,F_z_77),(78,F_z_78),(79,F_z_79),(80,F_z_80),(81,F_z_81),(82,F_z_82),(83,F_z_83),(84,F_z_84),(85,F_z_85),(86,F_z_86),(87,F_z_87),(88,F_z_88),(89,F_z_89),(90,F_z_90),(91,F_z_91),(92,F_z_92),(93,F_z_93),(94,F_z_94),(95,F_z_95),(96,F_z_96),(97,F_z_97),(98,F_z_98),(99,F_z_99),(100,F_z_100),(101,F_z_101),(102,F_z_102),(123,F_z_123),(125,F_z_125),(126,F_z_126),(127,F_z_127),(128,F_z_128),(129,F_z_129),(20129,F_z_129q),(130,F_z_130),(131,F_z_131),(132,F_z_132),(133,F_z_133),(134,F_z_134),(135,F_z_135),(136,F_z_136),(137,F_z_137),(138,F_z_138),(139,F_z_139),(140,F_z_140),(141,F_z_141),(142,F_z_142),(143,F_z_143),(144,F_z_144),(145,F_z_145),(146,F_z_146),(147,F_z_147),(148,F_z_148),(149,F_z_149),(150,F_z_150),(151,F_z_151),(152,F_z_152),(153,F_z_153),(154,F_z_154),(155,F_z_155),(156,F_z_156),(157,F_z_157),(158,F_z_158),(159,F_z_159),(160,F_z_160),(161,F_z_161),(162,F_z_162),(163,F_z_163),(164,F_z_164),(165,F_z_165),(166,F_z_166),(167,F_z_167),(168,F_z_168),(169,F_z_169),(170,F_z_170),(171,F_z_171),(172,F_z_172),(173,F_z_173),(174,F_z_174),(175,F_z_175),(176,F_z_176),(177,F_z_177),(178,F_z_178),(179,F_z_179),(180,F_z_180),(181,F_z_181),(182,F_z_182),(183,F_z_183),(184,F_z_184),(185,F_z_185),(186,F_z_186),(187,F_z_187),(206,F_z_206),(207,F_z_207),(208,F_z_208),(209,F_z_209),(210,F_z_210),(211,F_z_211),(20211,F_z_211q),(30211,F_z_211r),(212,F_z_212),(213,F_z_213),(214,F_z_214),(10214,F_z_214p),(215,F_z_215),(216,F_z_216),(217,F_z_217),(20217,F_z_217q),(218,F_z_218),(219,F_z_219),(220,F_z_220),(221,F_z_221),(222,F_z_222),(223,F_z_223),(224,F_z_224),(225,F_z_225),(226,F_z_226),(227,F_z_227),(228,F_z_228),(229,F_z_229),(230,F_z_230),(231,F_z_231),(232,F_z_232),(233,F_z_233),(234,F_z_234),(235,F_z_235),(236,F_z_236),(238,F_z_238),(239,F_z_239),(240,F_z_240),(241,F_z_241),(242,F_z_242),(243,F_z_243),(244,F_z_244),(245,F_z_245),(246,F_z_246),(247,F_z_247),(248,F_z_248),(249,F_z_249),(257,F_z_257),(258,F_z_258),(259,F_z_259),(261,F_z_261),(262,F_z_262),(20262,F_z_262q),(264,F_z_264),(265,F_z_265),(266,F_z_266),(267,F_z_267),(268,F_z_268),(269,F_z_269),(270,F_z_270),(271,F_z_271),(272,F_z_272),(274,F_z_274),(275,F_z_275),(276,F_z_276),(277,F_z_277),(278,F_z_278),(281,F_z_281),(283,F_z_283),(284,F_z_284),(285,F_z_285),(287,F_z_287),(288,F_z_288),(289,F_z_289),(290,F_z_290),(291,F_z_291),(292,F_z_292),(293,F_z_293),(294,F_z_294),(295,F_z_295),(296,F_z_296),(312,F_z_312),(313,F_z_313),(314,F_z_314),(315,F_z_315),(319,F_z_319),(321,F_z_321),(322,F_z_322),(324,F_z_324),(325,F_z_325),(327,F_z_327),(328,F_z_328),(330,F_z_330),(332,F_z_332),(333,F_z_333),(335,F_z_335),(336,F_z_336),(339,F_z_339),(341,F_z_341)]
def P:Prog:=fun n=>match tab.lookup n with
 | some F=>some F
 | none=>match n with
  | 263=>some F_z_263
  | 237=>some F_z_237
  | 260=>some F_z_260
  | _=>none
theorem P_z_8:P z_8=some F_z_8:=rfl
theorem P_z_13:P z_13=some F_z_13:=rfl
theorem P_z_14:P z_14=some F_z_14:=rfl
theorem P_z_15:P z_15=some F_z_15:=rfl
theorem P_z_17:P z_17=some F_z_17:=rfl
theorem P_z_18:P z_18=some F_z_18:=rfl
theorem P_z_20:P z_20=some F_z_20:=rfl
theorem P_z_23:P z_23=some F_z_23:=rfl
theorem P_z_25:P z_25=some F_z_25:=rfl
theorem P_z_29:P z_29=some F_z_29:=rfl
theorem P_z_30:P z_30=some F_z_30:=rfl
theorem P_z_31:P z_31=some F_z_31:=rfl
theorem P_z_35:P z_35=some F_z_35:=rfl
theorem P_z_36:P z_36=some F_z_36:=rfl
theorem P_z_37:P z_37=some F_z_37:=rfl
theorem P_z_38:P z_38=some F_z_38:=rfl
theorem P_z_42:P z_42=some F_z_42:=rfl
theorem P_z_43:P z_43=some F_z_43:=rfl
theorem P_z_44:P z_44=some F_z_44:=rfl
theorem P_z_45:P z_45=some F_z_45:=rfl
theorem P_z_57:P z_57=some F_z_57:=rfl
theorem P_z_62:P z_62=some F_z_62:=rfl
theorem P_z_63:P z_63=some F_z_63:=rfl
theorem P_z_65:P z_65=some F_z_65:=rfl
theorem P_z_67:P z_67=some F_z_67:=rfl
theorem P_z_68:P z_68=some F_z_68:=rfl
theorem P_z_70:P z_70=some F_z_70:=rfl
theorem P_z_72:P z_72=some F_z_72:=rfl
theorem P_z_73:P z_73=some F_z_73:=rfl
theorem P_z_75:P z_75=some F_z_75:=rfl
theorem P_z_77:P z_77=some F_z_77:=rfl
theorem P_z_78:P z_78=some F_z_78:=rfl
theorem P_z_80:P z_80=some F_z_80:=rfl
theorem P_z_82:P z_82=some F_z_82:=rfl
theorem P_z_83:P z_83=some F_z_83:=rfl
theorem P_z_85:P z_85=some F_z_85:=rfl
theorem P_z_87:P z_87=some F_z_87:=rfl
theorem P_z_88:P z_88=some F_z_88:=rfl
theorem P_z_90:P z_90=some F_z_90:=rfl
theorem P_z_92:P z_92=some F_z_92:=rfl
theorem P_z_93:P z_93=some F_z_93:=rfl
theorem P_z_95:P z_95=some F_z_95:=rfl
theorem P_z_97:P z_97=some F_z_97:=rfl
theorem P_z_98:P z_98=some F_z_98:=rfl
theorem P_z_100:P z_100=some F_z_100:=rfl
theorem P_z_102:P z_102=some F_z_102:=rfl
theorem P_z_123:P z_123=some F_z_123:=rfl
theorem P_z_125:P z_125=some F_z_125:=rfl
theorem P_z_127:P z_127=some F_z_127:=rfl
theorem P_z_128:P z_128=some F_z_128:=rfl
theorem P_z_129:P z_129=some F_z_129:=rfl
theorem P_z_129q:P z_129q=some F_z_129q:=rfl
theorem P_z_130:P z_130=some F_z_130:=rfl
theorem P_z_131:P z_131=some F_z_131:=rfl
theorem P_z_132:P z_132=some F_z_132:=rfl
theorem P_z_133:P z_133=some F_z_133:=rfl
theorem P_z_134:P z_134=some F_z_134:=rfl
theorem P_z_135:P z_135=some F_z_135:=rfl
theorem P_z_136:P z_136=some F_z_136:=rfl
theorem P_z_140:P z_140=some F_z_140:=rfl
theorem P_z_142:P z_142=some F_z_142:=rfl
theorem P_z_143:P z_143=some F_z_143:=rfl
theorem P_z_150:P z_150=some F_z_150:=rfl
theorem P_z_151:P z_151=some F_z_151:=rfl
theorem P_z_153:P z_153=some F_z_153:=rfl
theorem P_z_155:P z_155=some F_z_155:=rfl
theorem P_z_156:P z_156=some F_z_156:=rfl
theorem P_z_160:P z_160=some F_z_160:=rfl
theorem P_z_162:P z_162=some F_z_162:=rfl
theorem P_z_163:P z_163=some F_z_163:=rfl
theorem P_z_165:P z_165=some F_z_165:=rfl
theorem P_z_169:P z_169=some F_z_169:=rfl
theorem P_z_170:P z_170=some F_z_170:=rfl
theorem P_z_171:P z_171=some F_z_171:=rfl
theorem P_z_174:P z_174=some F_z_174:=rfl
theorem P_z_176:P z_176=some F_z_176:=rfl
theorem P_z_182:P z_182=some F_z_182:=rfl
theorem P_z_183:P z_183=some F_z_183:=rfl
theorem P_z_184:P z_184=some F_z_184:=rfl
theorem P_z_185:P z_185=some F_z_185:=rfl
theorem P_z_206:P z_206=some F_z_206:=rfl
theorem P_z_210:P z_210=some F_z_210:=rfl
theorem P_z_211:P z_211=some F_z_211:=rfl
theorem P_z_211q:P z_211q=some F_z_211q:=rfl
theorem P_z_211r:P z_211r=some F_z_211r:=rfl
theorem P_z_212:P z_212=some F_z_212:=rfl
theorem P_z_213:P z_213=some F_z_213:=rfl
theorem P_z_214:P z_214=some F_z_214:=rfl
theorem P_z_215:P z_215=some F_z_215:=rfl
theorem P_z_216:P z_216=some F_z_216:=rfl
theorem P_z_217:P z_217=some F_z_217:=rfl
theorem P_z_218:P z_218=some F_z_218:=rfl
theorem P_z_219:P z_219=some F_z_219:=rfl
theorem P_z_225:P z_225=some F_z_225:=rfl
theorem P_z_226:P z_226=some F_z_226:=rfl
theorem P_z_227:P z_227=some F_z_227:=rfl
theorem P_z_228:P z_228=some F_z_228:=rfl
theorem P_z_235:P z_235=some F_z_235:=rfl
theorem P_z_236:P z_236=some F_z_236:=rfl
theorem P_z_238:P z_238=some F_z_238:=rfl
theorem P_z_239:P z_239=some F_z_239:=rfl
theorem P_z_240:P z_240=some F_z_240:=rfl
theorem P_z_241:P z_241=some F_z_241:=rfl
theorem P_z_242:P z_242=some F_z_242:=rfl
theorem P_z_243:P z_243=some F_z_243:=rfl
theorem P_z_248:P z_248=some F_z_248:=rfl
theorem P_z_249:P z_249=some F_z_249:=rfl
theorem P_z_261:P z_261=some F_z_261:=rfl
theorem P_z_262:P z_262=some F_z_262:=rfl
theorem P_z_262q:P z_262q=some F_z_262q:=rfl
theorem P_z_264:P z_264=some F_z_264:=rfl
theorem P_z_265:P z_265=some F_z_265:=rfl
theorem P_z_266:P z_266=some F_z_266:=rfl
theorem P_z_267:P z_267=some F_z_267:=rfl
theorem P_z_275:P z_275=some F_z_275:=rfl
theorem P_z_276:P z_276=some F_z_276:=rfl
theorem P_z_277:P z_277=some F_z_277:=rfl
theorem P_z_278:P z_278=some F_z_278:=rfl
theorem P_z_281:P z_281=some F_z_281:=rfl
theorem P_z_284:P z_284=some F_z_284:=rfl
theorem P_z_285:P z_285=some F_z_285:=rfl
theorem P_z_288:P z_288=some F_z_288:=rfl
theorem P_z_312:P z_312=some F_z_312:=rfl
theorem P_z_313:P z_313=some F_z_313:=rfl
theorem P_z_314:P z_314=some F_z_314:=rfl
theorem P_z_315:P z_315=some F_z_315:=rfl
theorem P_z_319:P z_319=some F_z_319:=rfl
theorem P_z_321:P z_321=some F_z_321:=rfl
theorem P_z_322:P z_322=some F_z_322:=rfl
theorem P_z_324:P z_324=some F_z_324:=rfl
theorem P_z_325:P z_325=some F_z_325:=rfl
theorem P_z_327:P z_327=some F_z_327:=rfl
theorem P_z_328:P z_328=some F_z_328:=rfl
theorem P_z_330:P z_330=some F_z_330:=rfl
theorem P_z_332:P z_332=some F_z_332:=rfl
theorem P_z_333:P z_333=some F_z_333:=rfl
theorem P_z_335:P z_335=some F_z_335:=rfl
theorem P_z_336:P z_336=some F_z_336:=rfl
theorem P_z_339:P z_339=some F_z_339:=rfl
theorem P_z_341:P z_341=some F_z_341:=rfl
theorem P_z_263:P z_263=some F_z_263:=rfl
theorem P_z_237:P z_237=some F_z_237:=rfl
end Go.VS
