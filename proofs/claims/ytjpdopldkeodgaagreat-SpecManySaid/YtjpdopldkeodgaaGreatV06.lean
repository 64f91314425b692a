import Derived.Test.YtjpdopldkeodgaaGreatV05
set_option linter.all false
namespace Go.VS
def nurserylaw26_SpecMany : Nat := 5
def nurserylaw26_awake : Nat := 14
def spec_Effect : Nat := 15
def spec_Enabled : Nat := 18
def spec_Accepts : Nat := 20
def spec_Initial : Nat := 23
def nurserylaw26_object : Nat := 35
def spec_EffectC1 : Nat := 36
def spec_of : Nat := 37
def spec_operations : Nat := 38
def spec_result : Nat := 45
def slices_ContainsFunc_api_Waiter_api_Waiter : Nat := 57
def mutex_New : Nat := 62
def mutex_Check : Nat := 63
def rwlock_New : Nat := 67
def rwlock_Check : Nat := 68
def semaphore_New : Nat := 72
def semaphore_Check : Nat := 73
def barrier_New : Nat := 77
def barrier_Check : Nat := 78
def channel_New : Nat := 82
def channel_Check : Nat := 83
def topic_New : Nat := 87
def topic_Check : Nat := 88
def limiter_New : Nat := 92
def limiter_Check : Nat := 93
def future_New : Nat := 97
def future_Check : Nat := 98
def slices_IndexFunc_api_Cursor_api_Cursor : Nat := 102
def slices_IndexFunc_api_Waiter_api_Waiter : Nat := 123
def mutex_valid : Nat := 125
def mutex_isTask : Nat := 127
def rwlock_valid : Nat := 130
def rwlock_isTask : Nat := 131
def waitlist_Find : Nat := 132
def rwlock_changed : Nat := 133
def rwlock_holds : Nat := 134
def rwlock_lock_free : Nat := 135
def rwlock_lock_writes : Nat := 136
def rwlock_lock_serve : Nat := 140
def waitlist_Check : Nat := 142
def semaphore_waits : Nat := 143
def waitlist_Tasks : Nat := 151
def slices_Clone_api_Waiter_api_Waiter : Nat := 153
def channel_valid : Nat := 156
def channel_number : Nat := 160
def topic_cursors : Nat := 162
def topic_queue : Nat := 163
def topic_find : Nat := 169
def slices_Delete_api_Cursor_api_Cursor : Nat := 170
def topic_full : Nat := 174
def future_cell_valid : Nat := 183
def future_number : Nat := 184
def mutex_validC1 : Nat := 206
def rwlock_queued : Nat := 213
def slices_Clone_int_int : Nat := 214
def slices_Contains_int_int : Nat := 215
def rwlock_lock_grant : Nat := 216
def slices_IndexFunc_int_int : Nat := 217
def waitlist_valid : Nat := 218
def slices_ContainsFunc_int_int : Nat := 225
def channel_validC1 : Nat := 226
def channel_fine : Nat := 227
def channel_vain : Nat := 228
def topic_number : Nat := 235
def slices_Clone_api_Cursor_api_Cursor : Nat := 236
def slices_Insert_api_Cursor_api_Cursor : Nat := 237
def topic_findC1 : Nat := 238
def slices_ContainsFunc_api_Cursor_api_Cursor : Nat := 241
def topic_fullC1 : Nat := 242
def topic_waiting : Nat := 243
def future_cell_plain : Nat := 248
def future_cell_queued : Nat := 249
def slices_Index_int_int : Nat := 261
def slices_BinarySearch_int_int : Nat := 262
def slices_Insert_int_int : Nat := 263
def channel_fineC1 : Nat := 265
def channel_vainC1 : Nat := 266
def channel_foreign : Nat := 267
def slices_overlaps_api_Cursor : Nat := 273
def slices_rotateRight_api_Cursor : Nat := 274
def topic_waitingC1 : Nat := 278
def cmp_isNaN_int : Nat := 281
def cmp_Less_int : Nat := 284
def slices_isNaN_int : Nat := 285
def slices_overlaps_int : Nat := 286
def slices_rotateRight_int : Nat := 287
def channel_foreignC1 : Nat := 288
def slices_rotateLeft_api_Cursor : Nat := 291
def slices_rotateLeft_int : Nat := 293
def slices_Reverse_api_Cursor_api_Cursor : Nat := 294
def slices_Reverse_int_int : Nat := 296
def spec_layer_abstract : Nat := 312
def spec_layer_check : Nat := 313
def spec_layer_start : Nat := 314
def spec_mutexes_effect : Nat := 315
def spec_locks_effect : Nat := 319
def slices_Delete_int_int : Nat := 321
def spec_semaphores_effect : Nat := 322
def spec_barriers_abstract : Nat := 324
def spec_barriers_effect : Nat := 325
def spec_channels_abstract : Nat := 327
def spec_channels_effect : Nat := 328
def spec_room : Nat := 330
def spec_topics_abstract : Nat := 332
def spec_topics_effect : Nat := 333
def slices_BinarySearchFunc_api_Cursor_api_Cursor_int : Nat := 335
def spec_topics_effectC1 : Nat := 336
def spec_limiters_effect : Nat := 339
def spec_futures_effect : Nat := 341
@[simp] def zR : List D := [(.i .i64 0), (.i .i64 0), (.i .i64 0), (.sl 1 true []), (.sl 5 true []), (.sl 1 true []), (.sl 2 true []), (.b false), (.i .i64 0)]
@[simp] def zQ : List D := [(.i .i64 0), (.i .i64 0), (.i .i64 0), (.i .i64 0), (.i .i64 0)]
@[simp] def k0 : A := .k (.i .i64 0)
def F_nurserylaw26_SpecMany_L0 : C :=
 (.seq (.reg [.op (.bin 19 .lss (.t 18) (.t 17))])
 ((.seq (.ite (.t 19)
 (.skip)
 (.seq (.keep [5,6,7]) (.exit 0)))
 ((.seq (.blk 1 ((.seq (.reg [.op (.mv 20 (.t 18)),.op (.mv 8 (.t 20))])
 ((.seq (.reg [.op (.mv 21 (.t 8)),.op (.bin 22 .rem (.t 21) (.k (.i .i64 2))),.op (.bin 23 .mul (.k (.i .i64 2)) (.t 22)),.op (.bin 24 .add (.k (.i .i64 50)) (.t 23)),.op (.mv 9 (.t 24))])
 ((.seq (.reg [.op (.mv 25 (.t 6)),.op (.mv 26 (.t 9)),.op (.build 27 zQ [(0,1,(.k (.i .i64 1))),(1,1,(.t 26))]),.op (.buildSl 28 5 1 zQ [(0,(.t 27))] true),.op (.app 29 (.t 25) (.t 28) 5),.op (.mv 6 (.t 29))])
 (.reg [.op (.mv 30 (.t 7)),.op (.mv 31 (.t 9)),.op (.build 32 [(.i .i64 0),(.i .i64 0),(.i .i64 0),(.b false),(.i .i64 0)] [(0,1,(.k (.i .i64 1))),(1,1,(.t 31)),(3,1,(.k (.b true)))]),.op (.buildSl 33 5 1 [(.i .i64 0),(.i .i64 0),(.i .i64 0),(.b false),(.i .i64 0)] [(0,(.t 32))] true),.op (.app 34 (.t 30) (.t 33) 5),.op (.mv 7 (.t 34))]))))))))
 (.reg [.op (.bin 35 .add (.t 18) (.k (.i .i64 1))),.op (.mv 18 (.t 35))]))))))
def F_nurserylaw26_SpecMany : F := .mk
 ((.seq (.reg [.op (.mv 4 (.k (.b false)))])
 ((.seq (.reg [.op (.mv 10 (.t 0)),.op (.cvi 11 .i64 (.t 10)),.op (.bin 12 .rem (.t 11) (.k (.i .i64 3))),.op (.bin 13 .mul (.k (.i .i64 2)) (.t 12)),.op (.mv 5 (.t 13))])
 ((.seq ((.seq (.reg [.op (.mv 14 (.t 1))])
 (.ite (.t 14)
 (.reg [.op (.mv 15 (.t 5)),.op (.bin 16 .add (.k (.i .i64 998)) (.t 15)),.op (.mv 5 (.t 16))])
 (.skip))))
 ((.seq (.reg [.op (.mv 6 (.k (.sl 5 true [])))])
 ((.seq (.reg [.op (.mv 7 (.k (.sl 5 true [])))])
 ((.seq ((.seq (.reg [.op (.mv 17 (.t 5)),.op (.mv 18 k0)])
 (.blk 0 (.loop [5,6,7,17,18] F_nurserylaw26_SpecMany_L0))))
 ((.seq (.seq (.frz [6,7])
 (.reg [.op (.build 36 [(.s []),(.i .i64 0),(.i .i64 0),(.i .i64 0)] [(1,1,(.k (.i .i64 1)))]),.op (.mv 37 (.t 6)),.op (.mv 38 (.t 7)),.op (.call (some 39) spec_Accepts [(.t 36),(.t 37),(.t 38)]),.op (.mv 40 (.t 5)),.op (.bin 41 .leq (.t 40) (.k (.i .i64 1000))),.op (.eqb 42 false (.t 39) (.t 41)),.op (.mv 43 (.t 42)),.sc false 45 43 [.op (.call (some 44) nurserylaw26_awake [])] (.t 44),.op (.mv 4 (.t 45))]))
 (.ret)))))))))))))))
 [.t 4] false none
def F_nurserylaw26_awake : F := .mk
 ((.seq (.reg [.op (.mv 0 (.k (.b false)))])
 ((.seq (.reg [.op (.build 7 zQ [(0,1,(.k (.i .i64 1))),(1,1,(.k (.i .i64 64))),(2,1,(.k (.i .i64 5)))]),.op (.build 8 zQ [(0,1,(.k (.i .i64 2))),(1,1,(.k (.i .i64 65)))]),.op (.new 1 zQ),.op (.new 2 zQ),.op (.st (.t 1) (.t 7) 5 true),.op (.st (.t 2) (.t 8) 5 true)])
 ((.seq (.reg [.op (.build 9 [(.i .i64 0),(.i .i64 0),(.i .i64 0),(.b false),(.i .i64 0)] [(0,1,(.k (.i .i64 1))),(1,1,(.k (.i .i64 64))),(3,1,(.k (.b true)))]),.op (.build 10 [(.i .i64 0),(.i .i64 0),(.i .i64 0),(.b false),(.i .i64 0)] [(0,1,(.k (.i .i64 2))),(1,1,(.k (.i .i64 65))),(2,1,(.k (.i .i64 5))),(3,1,(.k (.b true)))]),.op (.new 3 [(.i .i64 0),(.i .i64 0),(.i .i64 0),(.b false),(.i .i64 0)]),.op (.new 4 [(.i .i64 0),(.i .i64 0),(.i .i64 0),(.b false),(.i .i64 0)]),.op (.st (.t 3) (.t 9) 5 true),.op (.st (.t 4) (.t 10) 5 true)])
 ((.seq (.reg [.op (.call (some 12) nurserylaw26_object []),.op (.call (some 13) spec_Initial [(.t 12)]),.op (.mv 11 (.t 13)),.op (.ext 14 (.t 11) 0),.op (.ext 15 (.t 11) 1),.op (.new 5 zR),.op (.st (.t 5) (.t 14) 9 true),.op (.mv 6 (.t 15))])
 ((.seq (.drw [] [0,1,2,3,4,5,6,7,8,9,10,11,12,13,14,15,16,17,18,19,20,21,22,23,24,25,26,27,28,29,30,31,32,33,34,35,36,37,38,39,40,41,42,43,44,45] [.op (.mv 16 (.t 6)),.op (.bin 17 .eql (.t 16) k0),.op (.mv 18 (.t 17)),.sc false 23 18 [.op (.call (some 19) nurserylaw26_object []),.op (.ldd 20 (.t 5) 9 true),.op (.ldd 21 (.t 1) 5 true),.op (.call (some 22) spec_Enabled [(.t 19),(.t 20),(.t 21)])] (.t 22),.op (.mv 24 (.t 23)),.sc false 30 24 [.op (.call (some 25) nurserylaw26_object []),.op (.ldd 26 (.t 5) 9 true),.op (.ldd 27 (.t 2) 5 true),.op (.call (some 28) spec_Enabled [(.t 25),(.t 26),(.t 27)]),.op (.un 29 .not (.t 28))] (.t 29),.op (.mv 31 (.t 30)),.sc false 40 31 [.op (.call (some 32) nurserylaw26_object []),.op (.ldd 33 (.t 1) 5 true),.op (.ldd 34 (.t 2) 5 true),.op (.buildSl 35 5 2 zQ [(0,(.t 33)),(1,(.t 34))] true),.op (.ldd 36 (.t 3) 5 true),.op (.ldd 37 (.t 4) 5 true),.op (.buildSl 38 5 2 [(.i .i64 0),(.i .i64 0),(.i .i64 0),(.b false),(.i .i64 0)] [(0,(.t 36)),(1,(.t 37))] true),.op (.call (some 39) spec_Accepts [(.t 32),(.t 35),(.t 38)])] (.t 39),.op (.mv 41 (.t 40)),.sc false 49 41 [.op (.call (some 42) nurserylaw26_object []),.op (.ldd 43 (.t 1) 5 true),.op (.buildSl 44 5 1 zQ [(0,(.t 43))] true),.op (.ldd 45 (.t 3) 5 true),.op (.buildSl 46 5 1 [(.i .i64 0),(.i .i64 0),(.i .i64 0),(.b false),(.i .i64 0)] [(0,(.t 45))] true),.op (.call (some 47) spec_Accepts [(.t 42),(.t 44),(.t 46)]),.op (.un 48 .not (.t 47))] (.t 48),.op (.mv 50 (.t 49)),.sc false 60 50 [.op (.call (some 51) nurserylaw26_object []),.op (.ldd 52 (.t 2) 5 true),.op (.ldd 53 (.t 1) 5 true),.op (.buildSl 54 5 2 zQ [(0,(.t 52)),(1,(.t 53))] true),.op (.ldd 55 (.t 4) 5 true),.op (.ldd 56 (.t 3) 5 true),.op (.buildSl 57 5 2 [(.i .i64 0),(.i .i64 0),(.i .i64 0),(.b false),(.i .i64 0)] [(0,(.t 55)),(1,(.t 56))] true),.op (.call (some 58) spec_Accepts [(.t 51),(.t 54),(.t 57)]),.op (.un 59 .not (.t 58))] (.t 59),.op (.mv 0 (.t 60))])
 (.ret)))))))))))
 [.t 0] false none
def F_spec_Effect : F := .mk
 ((.seq (.reg [.op (.box 3 (.t 0) 4 true),.op (.box 4 (.t 1) 9 true),.op (.box 5 (.t 2) 5 true),.op (.new 6 zR),.op (.mv 7 k0),.op (.mv 8 (.k (.b false))),.op (.mv 9 k0)])
 ((.seq (.reg [.op (.mv 10 (.k (.fn spec_EffectC1 [] [])))])
 ((.seq (.reg [.op (.fa 19 (.t 3) 1 1),.op (.ld 20 (.t 19) 1 false),.op (.call (some 21) spec_of [(.t 20)]),.op (.mv 18 (.t 21)),.op (.ext 22 (.t 18) 0),.op (.ext 23 (.t 18) 1),.op (.mv 11 (.t 22)),.op (.mv 12 (.t 23))])
 ((.seq ((.seq (.reg [.op (.mv 24 (.t 12)),.op (.un 25 .not (.t 24)),.op (.mv 26 (.t 25)),.sc true 31 26 [.op (.fa 27 (.t 4) 4 1),.op (.ld 28 (.t 27) 1 false),.op (.len 29 (.t 28) .sl),.op (.bin 30 .gtr (.t 29) k0)] (.t 30),.op (.mv 32 (.t 31)),.sc true 38 32 [.op (.mv 33 (.t 11)),.op (.ld 34 (.t 3) 4 true),.op (.ld 35 (.t 4) 9 true),.op (.inv (some 36) "nursery/spec.abstract" [(101,2,spec_layer_abstract),(102,2,spec_layer_abstract),(103,2,spec_layer_abstract),(104,2,spec_barriers_abstract),(105,2,spec_channels_abstract),(106,2,spec_topics_abstract),(107,2,spec_layer_abstract),(108,2,spec_layer_abstract)] (.t 33) [(.t 34),(.t 35)]),.op (.un 37 .not (.t 36))] (.t 37)])
 (.ite (.t 38)
 ((.seq (.reg [.op (.mv 39 (.t 10)),.op (.callv (some 40) (.t 39) [(.k (.i .i64 1))]),.op (.ext 41 (.t 40) 0),.op (.ext 42 (.t 40) 1),.op (.ext 43 (.t 40) 2),.op (.ext 44 (.t 40) 3),.op (.st (.t 6) (.t 41) 9 false),.op (.mv 7 (.t 42)),.op (.mv 8 (.t 43)),.op (.mv 9 (.t 44))])
 (.ret)))
 (.skip))))
 ((.seq ((.seq (.reg [.op (.fa 45 (.t 5) 0 1),.op (.ld 46 (.t 45) 1 false),.op (.bin 47 .lss (.t 46) k0),.op (.mv 48 (.t 47)),.sc true 52 48 [.op (.fa 49 (.t 5) 0 1),.op (.ld 50 (.t 49) 1 false),.op (.bin 51 .geq (.t 50) (.k (.i .i64 16)))] (.t 51),.op (.mv 53 (.t 52)),.sc true 57 53 [.op (.fa 54 (.t 5) 3 1),.op (.ld 55 (.t 54) 1 false),.op (.bin 56 .lss (.t 55) k0)] (.t 56),.op (.mv 58 (.t 57)),.sc true 62 58 [.op (.fa 59 (.t 5) 3 1),.op (.ld 60 (.t 59) 1 false),.op (.bin 61 .gtr (.t 60) (.k (.i .i64 9)))] (.t 61),.op (.mv 63 (.t 62)),.sc true 67 63 [.op (.fa 64 (.t 5) 4 1),.op (.ld 65 (.t 64) 1 false),.op (.bin 66 .lss (.t 65) k0)] (.t 66),.op (.mv 68 (.t 67)),.sc true 72 68 [.op (.fa 69 (.t 5) 4 1),.op (.ld 70 (.t 69) 1 false),.op (.bin 71 .gtr (.t 70) (.k (.i .i64 1099511627776)))] (.t 71)])
 (.ite (.t 72)
 ((.seq (.reg [.op (.mv 73 (.t 10)),.op (.callv (some 74) (.t 73) [(.k (.i .i64 2))]),.op (.ext 75 (.t 74) 0),.op (.ext 76 (.t 74) 1),.op (.ext 77 (.t 74) 2),.op (.ext 78 (.t 74) 3),.op (.st (.t 6) (.t 75) 9 false),.op (.mv 7 (.t 76)),.op (.mv 8 (.t 77)),.op (.mv 9 (.t 78))])
 (.ret)))
 (.skip))))
 ((.seq (.drw [] [0,1,3,4,2,5,6,7,8,9,10] [.op (.fad 80 (.t 3) 1 1),.op (.ldd 81 (.t 80) 1 false),.op (.fad 83 (.t 5) 1 1),.op (.ldd 84 (.t 83) 1 false),.op (.callk (some 82) spec_operations [(.t 81)]),.op (.mget 85 (.t 82) (.t 84) (.i .i64 0) true [.i]),.op (.mv 79 (.t 85)),.op (.ext 86 (.t 79) 0),.op (.ext 87 (.t 79) 1),.op (.mv 13 (.t 86)),.op (.mv 12 (.t 87))])
 ((.seq ((.seq (.reg [.op (.mv 88 (.t 12)),.op (.un 89 .not (.t 88))])
 (.ite (.t 89)
 ((.seq (.reg [.op (.mv 90 (.t 10)),.op (.callv (some 91) (.t 90) [(.k (.i .i64 8))]),.op (.ext 92 (.t 91) 0),.op (.ext 93 (.t 91) 1),.op (.ext 94 (.t 91) 2),.op (.ext 95 (.t 91) 3),.op (.st (.t 6) (.t 92) 9 false),.op (.mv 7 (.t 93)),.op (.mv 8 (.t 94)),.op (.mv 9 (.t 95))])
 (.ret)))
 (.skip))))
 ((.seq ((.seq (.reg [.op (.mv 96 (.t 13)),.op (.bin 97 .eql (.t 96) (.k (.i .i64 1))),.op (.mv 98 (.t 97)),.sc false 109 98 [.op (.fa 99 (.t 5) 2 1),.op (.ld 100 (.t 99) 1 false),.op (.bin 101 .lss (.t 100) (.k (.i .i64 1))),.op (.mv 102 (.t 101)),.sc true 108 102 [.op (.fa 103 (.t 5) 2 1),.op (.ld 104 (.t 103) 1 false),.op (.fa 105 (.t 3) 2 1),.op (.ld 106 (.t 105) 1 false),.op (.bin 107 .gtr (.t 104) (.t 106))] (.t 107)] (.t 108),.op (.mv 110 (.t 109)),.sc true 123 110 [.op (.mv 111 (.t 13)),.op (.bin 112 .eql (.t 111) (.k (.i .i64 2))),.op (.mv 113 (.t 112)),.sc false 122 113 [.op (.fa 114 (.t 5) 2 1),.op (.ld 115 (.t 114) 1 false),.op (.bin 116 .lss (.t 115) (.k (.i .i64 (-1099511627776)))),.op (.mv 117 (.t 116)),.sc true 121 117 [.op (.fa 118 (.t 5) 2 1),.op (.ld 119 (.t 118) 1 false),.op (.bin 120 .gtr (.t 119) (.k (.i .i64 1099511627776)))] (.t 120)] (.t 121)] (.t 122)])
 (.ite (.t 123)
 ((.seq (.reg [.op (.mv 124 (.t 10)),.op (.callv (some 125) (.t 124) [(.k (.i .i64 2))]),.op (.ext 126 (.t 125) 0),.op (.ext 127 (.t 125) 1),.op (.ext 128 (.t 125) 2),.op (.ext 129 (.t 125) 3),.op (.st (.t 6) (.t 126) 9 false),.op (.mv 7 (.t 127)),.op (.mv 8 (.t 128)),.op (.mv 9 (.t 129))])
 (.ret)))
 (.skip))))
 ((.seq (.reg [.op (.mv 131 (.t 11)),.op (.ld 132 (.t 3) 4 true),.op (.ld 133 (.t 4) 9 true),.op (.ld 134 (.t 5) 5 true),.op (.inv (some 135) "nursery/spec.effect" [(101,2,spec_mutexes_effect),(102,2,spec_locks_effect),(103,2,spec_semaphores_effect),(104,2,spec_barriers_effect),(105,2,spec_channels_effect),(106,2,spec_topics_effect),(107,2,spec_limiters_effect),(108,2,spec_futures_effect)] (.t 131) [(.t 132),(.t 133),(.t 134)]),.op (.mv 130 (.t 135)),.op (.ext 136 (.t 130) 0),.op (.ext 137 (.t 130) 1),.op (.ext 138 (.t 130) 2),.op (.ext 139 (.t 130) 3),.op (.new 14 zR),.op (.st (.t 14) (.t 136) 9 true),.op (.mv 15 (.t 137)),.op (.mv 16 (.t 138)),.op (.mv 17 (.t 139))])
 ((.seq ((.seq (.reg [.op (.mv 140 (.t 17)),.op (.bin 141 .neq (.t 140) k0)])
 (.ite (.t 141)
 ((.seq (.reg [.op (.mv 142 (.t 10)),.op (.mv 143 (.t 17)),.op (.callv (some 144) (.t 142) [(.t 143)]),.op (.ext 145 (.t 144) 0),.op (.ext 146 (.t 144) 1),.op (.ext 147 (.t 144) 2),.op (.ext 148 (.t 144) 3),.op (.st (.t 6) (.t 145) 9 false),.op (.mv 7 (.t 146)),.op (.mv 8 (.t 147)),.op (.mv 9 (.t 148))])
 (.ret)))
 (.skip))))
 ((.seq (.reg [.op (.ld 149 (.t 14) 9 true),.op (.mv 150 (.t 15)),.op (.mv 151 (.t 16)),.op (.st (.t 6) (.t 149) 9 false),.op (.mv 7 (.t 150)),.op (.mv 8 (.t 151)),.op (.mv 9 k0)])
 (.ret)))))))))))))))))))))))
 [.c 6 9 true,.t 7,.t 8,.t 9] false none
def F_spec_Enabled : F := .mk
 ((.seq (.reg [.op (.box 3 (.t 0) 4 true),.op (.box 4 (.t 1) 9 true),.op (.box 5 (.t 2) 5 true),.op (.mv 6 (.k (.b false)))])
 ((.seq (.reg [.op (.ld 12 (.t 3) 4 true),.op (.ld 13 (.t 4) 9 true),.op (.ld 14 (.t 5) 5 true),.op (.call (some 15) spec_Effect [(.t 12),(.t 13),(.t 14)]),.op (.mv 11 (.t 15)),.op (.ext 16 (.t 11) 0),.op (.ext 17 (.t 11) 1),.op (.ext 18 (.t 11) 2),.op (.ext 19 (.t 11) 3),.op (.new 7 zR),.op (.st (.t 7) (.t 16) 9 true),.op (.mv 8 (.t 17)),.op (.mv 9 (.t 18)),.op (.mv 10 (.t 19))])
 ((.seq (.reg [.op (.mv 20 (.t 10)),.op (.bin 21 .eql (.t 20) k0),.op (.mv 6 (.t 21))])
 (.ret)))))))
 [.t 6] false none
def F_spec_Accepts_L0 : C :=
 (.seq (.reg [.op (.bin 41 .lss (.t 40) (.t 39))])
 ((.seq (.ite (.t 41)
 (.skip)
 (.seq (.keep [3,7]) (.exit 0)))
 ((.seq (.blk 1 ((.seq (.reg [.op (.mv 42 (.t 40)),.op (.ixs 43 (.t 38) (.t 40) 5),.op (.ld 44 (.t 43) 5 true),.op (.new 10 zQ),.op (.mv 9 (.t 42)),.op (.st (.t 10) (.t 44) 5 true)])
 ((.seq (.reg [.op (.ld 46 (.t 3) 4 true),.op (.ld 47 (.t 7) 9 true),.op (.ld 48 (.t 10) 5 true),.op (.call (some 49) spec_Effect [(.t 46),(.t 47),(.t 48)]),.op (.mv 45 (.t 49)),.op (.ext 50 (.t 45) 0),.op (.ext 51 (.t 45) 1),.op (.ext 52 (.t 45) 2),.op (.ext 53 (.t 45) 3),.op (.new 11 zR),.op (.st (.t 11) (.t 50) 9 true),.op (.mv 12 (.t 51)),.op (.mv 13 (.t 52)),.op (.mv 14 (.t 53))])
 ((.seq ((.seq (.drw [] [0,1,2,3,4,5,6,7,8,9,10,11,12,13,14,15,16,17,18,19,20,21] [.op (.mv 54 (.t 14)),.op (.bin 55 .neq (.t 54) k0),.op (.mv 56 (.t 55)),.sc true 65 56 [.op (.fad 57 (.t 10) 0 1),.op (.ldd 58 (.t 57) 1 false),.op (.mv 59 (.t 2)),.op (.mv 60 (.t 9)),.op (.ixs 61 (.t 59) (.t 60) 5),.op (.fa 62 (.t 61) 0 1),.op (.ld 63 (.t 62) 1 false),.op (.bin 64 .neq (.t 58) (.t 63))] (.t 64),.op (.mv 66 (.t 65)),.sc true 75 66 [.op (.fad 67 (.t 10) 1 1),.op (.ldd 68 (.t 67) 1 false),.op (.mv 69 (.t 2)),.op (.mv 70 (.t 9)),.op (.ixs 71 (.t 69) (.t 70) 5),.op (.fa 72 (.t 71) 1 1),.op (.ld 73 (.t 72) 1 false),.op (.bin 74 .neq (.t 68) (.t 73))] (.t 74)])
 (.ite (.t 75)
 ((.seq (.reg [.op (.mv 6 (.k (.b false)))])
 (.seq (.keep [6]) .ret)))
 (.skip))))
 ((.seq (.seq (.drw [] [0,1,2,3,4,5,6,7,8,9,10,11,12] [.op (.mv 76 (.t 2)),.op (.mv 77 (.t 9)),.op (.ixs 78 (.t 76) (.t 77) 5),.op (.fa 79 (.t 78) 2 1),.op (.ld 80 (.t 79) 1 false),.op (.mv 81 (.t 2)),.op (.mv 82 (.t 9)),.op (.ixs 83 (.t 81) (.t 82) 5),.op (.fa 84 (.t 83) 3 1),.op (.ld 85 (.t 84) 1 false),.op (.call (some 86) spec_result [(.t 80),(.t 85)]),.op (.new 15 [(.i .i64 0),(.i .i64 0)]),.re (.ixs 78 (.t 76) (.t 77) 5),.re (.fa 79 (.t 78) 2 1),.re (.ld 80 (.t 79) 1 false),.re (.ixs 83 (.t 81) (.t 82) 5),.re (.fa 84 (.t 83) 3 1),.re (.ld 85 (.t 84) 1 false),.op (.st (.t 15) (.t 86) 2 false)])
 (.frz [15]))
 ((.seq (.drw [] [0,1,2,3,4,5,6,7,8,9,10,11,12,13] [.op (.fad 87 (.t 10) 1 1),.op (.ldd 88 (.t 87) 1 false),.op (.bin 89 .eql (.t 88) (.k (.i .i64 61))),.op (.mv 90 (.t 89)),.sc false 94 90 [.op (.fad 91 (.t 3) 3 1),.op (.ldd 92 (.t 91) 1 false),.op (.bin 93 .eql (.t 92) k0)] (.t 93),.op (.mv 95 (.t 94)),.sc false 99 95 [.op (.ldd 96 (.t 15) 2 true),.op (.call (some 97) spec_result [k0,(.k (.b false))]),.op (.eqv 98 false (.t 96) (.t 97) [.i,.i])] (.t 98),.op (.mv 16 (.t 99))])
 (.blk 2 ((.seq (.drw [] [0,1,2,3,4,5] [.op (.ldd 101 (.t 15) 2 true),.op (.mv 102 (.t 12)),.op (.mv 103 (.t 13)),.op (.call (some 104) spec_result [(.t 102),(.t 103)]),.op (.eqv 105 false (.t 101) (.t 104) [.i,.i]),.op (.mv 100 (.t 105))])
 (.ite (.t 100)
 (.reg [.op (.ld 106 (.t 11) 9 true),.op (.st (.t 7) (.t 106) 9 false)])
 ((.seq (.reg [.op (.mv 108 (.t 16)),.op (.un 109 .not (.t 108)),.op (.mv 107 (.t 109))])
 (.ite (.t 107)
 ((.seq (.reg [.op (.mv 6 (.k (.b false)))])
 (.seq (.keep [6]) .ret)))
 (.skip)))))))))))))))))))
 (.reg [.op (.bin 110 .add (.t 40) (.k (.i .i64 1))),.op (.mv 40 (.t 110))]))))))
def F_spec_Accepts : F := .mk
 ((.seq (.reg [.op (.box 3 (.t 0) 4 true),.op (.mv 6 (.k (.b false)))])
 ((.seq (.reg [.op (.ld 20 (.t 3) 4 true),.op (.call (some 21) spec_Initial [(.t 20)]),.op (.mv 19 (.t 21)),.op (.ext 22 (.t 19) 0),.op (.ext 23 (.t 19) 1),.op (.new 7 zR),.op (.st (.t 7) (.t 22) 9 false),.op (.mv 8 (.t 23))])
 ((.seq ((.seq (.reg [.op (.mv 24 (.t 8)),.op (.bin 25 .neq (.t 24) k0),.op (.mv 26 (.t 25)),.sc true 32 26 [.op (.mv 27 (.t 1)),.op (.len 28 (.t 27) .sl),.op (.mv 29 (.t 2)),.op (.len 30 (.t 29) .sl),.op (.bin 31 .neq (.t 28) (.t 30))] (.t 31),.op (.mv 33 (.t 32)),.sc true 37 33 [.op (.mv 34 (.t 1)),.op (.len 35 (.t 34) .sl),.op (.bin 36 .gtr (.t 35) (.k (.i .i64 1000)))] (.t 36)])
 (.ite (.t 37)
 ((.seq (.reg [.op (.mv 6 (.k (.b false)))])
 (.ret)))
 (.skip))))
 ((.seq ((.seq (.reg [.op (.mv 38 (.t 1)),.op (.len 39 (.t 38) .sl),.op (.mv 40 k0)])
 (.blk 0 (.loop [2,3,7,38,39,40] F_spec_Accepts_L0))))
 ((.seq (.reg [.op (.fa 112 (.t 3) 1 1),.op (.ld 113 (.t 112) 1 false),.op (.call (some 114) spec_of [(.t 113)]),.op (.mv 111 (.t 114)),.op (.ext 115 (.t 111) 0),.op (.ext 116 (.t 111) 1),.op (.mv 17 (.t 115)),.op (.mv 18 (.t 116))])
 ((.seq (.reg [.op (.mv 117 (.t 17)),.op (.ld 118 (.t 3) 4 true),.op (.ld 119 (.t 7) 9 true),.op (.inv (some 120) "nursery/spec.check" [(101,2,spec_layer_check),(102,2,spec_layer_check),(103,2,spec_layer_check),(104,2,spec_layer_check),(105,2,spec_layer_check),(106,2,spec_layer_check),(107,2,spec_layer_check),(108,2,spec_layer_check)] (.t 117) [(.t 118),(.t 119)]),.op (.bin 121 .eql (.t 120) k0),.op (.mv 6 (.t 121))])
 (.ret)))))))))))))
 [.t 6] false none
def F_spec_Initial : F := .mk
 ((.seq (.reg [.op (.box 1 (.t 0) 4 true),.op (.new 2 zR),.op (.mv 3 k0)])
 ((.seq (.reg [.op (.fa 7 (.t 1) 1 1),.op (.ld 8 (.t 7) 1 false),.op (.call (some 9) spec_of [(.t 8)]),.op (.mv 6 (.t 9)),.op (.ext 10 (.t 6) 0),.op (.ext 11 (.t 6) 1),.op (.mv 4 (.t 10)),.op (.mv 5 (.t 11))])
 ((.seq ((.seq (.reg [.op (.mv 12 (.t 5)),.op (.un 13 .not (.t 12))])
 (.ite (.t 13)
 ((.seq (.reg [.op (.build 14 zR []),.op (.st (.t 2) (.t 14) 9 false),.op (.mv 3 (.k (.i .i64 8)))])
 (.ret)))
 (.skip))))
 ((.seq (.reg [.op (.mv 15 (.t 4)),.op (.ld 16 (.t 1) 4 true),.op (.inv (some 17) "nursery/spec.start" [(101,2,spec_layer_start),(102,2,spec_layer_start),(103,2,spec_layer_start),(104,2,spec_layer_start),(105,2,spec_layer_start),(106,2,spec_layer_start),(107,2,spec_layer_start),(108,2,spec_layer_start)] (.t 15) [(.t 16)]),.op (.ext 18 (.t 17) 0),.op (.ext 19 (.t 17) 1),.op (.st (.t 2) (.t 18) 9 false),.op (.mv 3 (.t 19))])
 (.ret)))))))))
 [.c 2 9 true,.t 3] false none
def F_nurserylaw26_object : F := .mk
 ((.seq (.reg [.op (.new 0 [(.s []),(.i .i64 0),(.i .i64 0),(.i .i64 0)])])
 ((.seq (.reg [.op (.build 1 [(.s []),(.i .i64 0),(.i .i64 0),(.i .i64 0)] [(1,1,(.k (.i .i64 6)))]),.op (.st (.t 0) (.t 1) 4 false)])
 (.ret)))))
 [.c 0 4 true] false none
def F_spec_EffectC1 : F := .mk
 ((.seq (.reg [.op (.new 2 zR),.op (.mv 3 k0),.op (.mv 4 (.k (.b false))),.op (.mv 5 k0)])
 ((.seq (.reg [.op (.build 6 zR []),.op (.mv 7 (.t 0)),.op (.st (.t 2) (.t 6) 9 false),.op (.mv 3 k0),.op (.mv 4 (.k (.b false))),.op (.mv 5 (.t 7))])
 (.ret)))))
 [.c 2 9 true,.t 3,.t 4,.t 5] false none
def F_spec_of : F := .mk
 ((.seq (.reg [.op (.mv 2 (.k .nilifc)),.op (.mv 3 (.k (.b false)))])
 ((.seq ((.seq (.reg [.op (.mv 4 (.t 0))])
 (.blk 0 ((.seq (.reg [.op (.bin 6 .eql (.t 4) (.k (.i .i64 1))),.op (.mv 5 (.t 6))])
 (.ite (.t 5)
 ((.seq (.reg [.op (.build 7 [.nilfn,.nilfn] [(0,1,(.k (.fn mutex_New [] []))),(1,1,(.k (.fn mutex_Check [] [])))]),.op (.build 8 [.nilfn,.nilfn] [(0,2,(.t 7))]),.op (.mki 9 101 (.t 8)),.op (.mv 2 (.t 9)),.op (.mv 3 (.k (.b true)))])
 (.ret)))
 ((.seq (.reg [.op (.bin 11 .eql (.t 4) (.k (.i .i64 2))),.op (.mv 10 (.t 11))])
 (.ite (.t 10)
 ((.seq (.reg [.op (.build 12 [.nilfn,.nilfn] [(0,1,(.k (.fn rwlock_New [] []))),(1,1,(.k (.fn rwlock_Check [] [])))]),.op (.build 13 [.nilfn,.nilfn] [(0,2,(.t 12))]),.op (.mki 14 102 (.t 13)),.op (.mv 2 (.t 14)),.op (.mv 3 (.k (.b true)))])
 (.ret)))
 ((.seq (.reg [.op (.bin 16 .eql (.t 4) (.k (.i .i64 4))),.op (.mv 15 (.t 16))])
 (.ite (.t 15)
 ((.seq (.reg [.op (.build 17 [.nilfn,.nilfn] [(0,1,(.k (.fn semaphore_New [] []))),(1,1,(.k (.fn semaphore_Check [] [])))]),.op (.build 18 [.nilfn,.nilfn] [(0,2,(.t 17))]),.op (.mki 19 103 (.t 18)),.op (.mv 2 (.t 19)),.op (.mv 3 (.k (.b true)))])
 (.ret)))
 ((.seq (.reg [.op (.bin 21 .eql (.t 4) (.k (.i .i64 5))),.op (.mv 20 (.t 21))])
 (.ite (.t 20)
 ((.seq (.reg [.op (.build 22 [.nilfn,.nilfn] [(0,1,(.k (.fn barrier_New [] []))),(1,1,(.k (.fn barrier_Check [] [])))]),.op (.build 23 [.nilfn,.nilfn] [(0,2,(.t 22))]),.op (.mki 24 104 (.t 23)),.op (.mv 2 (.t 24)),.op (.mv 3 (.k (.b true)))])
 (.ret)))
 ((.seq (.reg [.op (.bin 26 .eql (.t 4) (.k (.i .i64 6))),.op (.mv 25 (.t 26))])
 (.ite (.t 25)
 ((.seq (.reg [.op (.build 27 [.nilfn,.nilfn] [(0,1,(.k (.fn channel_New [] []))),(1,1,(.k (.fn channel_Check [] [])))]),.op (.build 28 [.nilfn,.nilfn] [(0,2,(.t 27))]),.op (.mki 29 105 (.t 28)),.op (.mv 2 (.t 29)),.op (.mv 3 (.k (.b true)))])
 (.ret)))
 ((.seq (.reg [.op (.bin 31 .eql (.t 4) (.k (.i .i64 7))),.op (.mv 30 (.t 31))])
 (.ite (.t 30)
 ((.seq (.reg [.op (.build 32 [.nilfn,.nilfn] [(0,1,(.k (.fn topic_New [] []))),(1,1,(.k (.fn topic_Check [] [])))]),.op (.build 33 [.nilfn,.nilfn] [(0,2,(.t 32))]),.op (.mki 34 106 (.t 33)),.op (.mv 2 (.t 34)),.op (.mv 3 (.k (.b true)))])
 (.ret)))
 ((.seq (.reg [.op (.bin 36 .eql (.t 4) (.k (.i .i64 8))),.op (.mv 35 (.t 36))])
 (.ite (.t 35)
 ((.seq (.reg [.op (.build 37 [.nilfn,.nilfn] [(0,1,(.k (.fn limiter_New [] []))),(1,1,(.k (.fn limiter_Check [] [])))]),.op (.build 38 [.nilfn,.nilfn] [(0,2,(.t 37))]),.op (.mki 39 107 (.t 38)),.op (.mv 2 (.t 39)),.op (.mv 3 (.k (.b true)))])
 (.ret)))
 ((.seq (.reg [.op (.bin 41 .eql (.t 4) (.k (.i .i64 9))),.op (.mv 40 (.t 41))])
 (.ite (.t 40)
 ((.seq (.reg [.op (.build 42 [.nilfn,.nilfn] [(0,1,(.k (.fn future_New [] []))),(1,1,(.k (.fn future_Check [] [])))]),.op (.build 43 [.nilfn,.nilfn] [(0,2,(.t 42))]),.op (.mki 44 108 (.t 43)),.op (.mv 2 (.t 44)),.op (.mv 3 (.k (.b true)))])
 (.ret)))
 (.skip))))))))))))))))))))))))))))
 ((.seq (.reg [.op (.mv 2 (.k .nilifc)),.op (.mv 3 (.k (.b false)))])
 (.ret)))))))
 [.t 2,.t 3] false none
def F_spec_operations : F := .mk
 ((.seq (.reg [.op (.mv 2 (.k .nilmap))])
 ((.seq (.reg [.op (.mkm 3),.op (.mkm 4),.op (.mput (.t 4) (.k (.i .i64 50)) k0 [.i]),.op (.mput (.t 4) (.k (.i .i64 51)) k0 [.i]),.op (.mput (.t 4) (.k (.i .i64 52)) k0 [.i]),.op (.mv 5 (.t 4)),.op (.mput (.t 3) (.k (.i .i64 1)) (.t 5) [.i]),.op (.mkm 6),.op (.mput (.t 6) (.k (.i .i64 53)) k0 [.i]),.op (.mput (.t 6) (.k (.i .i64 54)) k0 [.i]),.op (.mput (.t 6) (.k (.i .i64 55)) k0 [.i]),.op (.mput (.t 6) (.k (.i .i64 56)) k0 [.i]),.op (.mv 7 (.t 6)),.op (.mput (.t 3) (.k (.i .i64 2)) (.t 7) [.i]),.op (.mkm 8),.op (.mput (.t 8) (.k (.i .i64 60)) (.k (.i .i64 1)) [.i]),.op (.mput (.t 8) (.k (.i .i64 61)) (.k (.i .i64 1)) [.i]),.op (.mput (.t 8) (.k (.i .i64 62)) (.k (.i .i64 1)) [.i]),.op (.mv 9 (.t 8)),.op (.mput (.t 3) (.k (.i .i64 4)) (.t 9) [.i]),.op (.mkm 10),.op (.mput (.t 10) (.k (.i .i64 63)) k0 [.i]),.op (.mv 11 (.t 10)),.op (.mput (.t 3) (.k (.i .i64 5)) (.t 11) [.i]),.op (.mkm 12),.op (.mput (.t 12) (.k (.i .i64 64)) (.k (.i .i64 2)) [.i]),.op (.mput (.t 12) (.k (.i .i64 65)) k0 [.i]),.op (.mput (.t 12) (.k (.i .i64 66)) k0 [.i]),.op (.mv 13 (.t 12)),.op (.mput (.t 3) (.k (.i .i64 6)) (.t 13) [.i]),.op (.mkm 14),.op (.mput (.t 14) (.k (.i .i64 68)) (.k (.i .i64 2)) [.i]),.op (.mput (.t 14) (.k (.i .i64 69)) k0 [.i]),.op (.mput (.t 14) (.k (.i .i64 70)) k0 [.i]),.op (.mput (.t 14) (.k (.i .i64 71)) k0 [.i]),.op (.mv 15 (.t 14)),.op (.mput (.t 3) (.k (.i .i64 7)) (.t 15) [.i]),.op (.mkm 16),.op (.mput (.t 16) (.k (.i .i64 72)) (.k (.i .i64 1)) [.i]),.op (.mput (.t 16) (.k (.i .i64 75)) k0 [.i]),.op (.mv 17 (.t 16)),.op (.mput (.t 3) (.k (.i .i64 8)) (.t 17) [.i]),.op (.mkm 18),.op (.mput (.t 18) (.k (.i .i64 73)) (.k (.i .i64 2)) [.i]),.op (.mput (.t 18) (.k (.i .i64 74)) k0 [.i]),.op (.mv 19 (.t 18)),.op (.mput (.t 3) (.k (.i .i64 9)) (.t 19) [.i]),.op (.mv 20 (.t 3)),.op (.mv 21 (.t 0)),.op (.mget 22 (.t 20) (.t 21) .nilmap false [.i]),.op (.mv 2 (.t 22))])
 (.ret)))))
 [.t 2] true none
def F_spec_result : F := .mk
 ((.seq (.reg [.op (.new 4 [(.i .i64 0),(.i .i64 0)])])
 ((.seq ((.seq (.reg [.op (.mv 5 (.t 1))])
 (.ite (.t 5)
 ((.seq (.reg [.op (.mv 6 (.t 0)),.op (.build 7 [(.i .i64 0),(.i .i64 0)] [(0,1,(.t 6)),(1,1,(.k (.i .i64 1)))]),.op (.st (.t 4) (.t 7) 2 false)])
 (.ret)))
 (.skip))))
 ((.seq (.reg [.op (.mv 8 (.t 0)),.op (.build 9 [(.i .i64 0),(.i .i64 0)] [(0,1,(.t 8)),(1,1,k0)]),.op (.st (.t 4) (.t 9) 2 false)])
 (.ret)))))))
 [.c 4 2 true] false none
def F_slices_ContainsFunc_api_Waiter_api_Waiter : F := .mk
 ((.seq (.reg [.op (.mv 4 (.k (.b false)))])
 ((.seq (.reg [.op (.mv 5 (.t 0)),.op (.mv 6 (.t 1)),.op (.call (some 7) slices_IndexFunc_api_Waiter_api_Waiter [(.t 5),(.t 6)]),.op (.bin 8 .geq (.t 7) k0),.op (.mv 4 (.t 8))])
 (.ret)))))
 [.t 4] false none
def F_mutex_New : F := .mk
 ((.seq (.reg [.op (.box 1 (.t 0) 4 true),.op (.new 2 zR),.op (.mv 3 k0)])
 ((.seq (.blk 0 ((.seq (.reg [.op (.fa 5 (.t 1) 1 1),.op (.ld 6 (.t 5) 1 false),.op (.bin 7 .neq (.t 6) (.k (.i .i64 1))),.op (.mv 4 (.t 7))])
 (.ite (.t 4)
 ((.seq (.reg [.op (.build 8 zR []),.op (.st (.t 2) (.t 8) 9 false),.op (.mv 3 (.k (.i .i64 8)))])
 (.ret)))
 ((.seq (.reg [.op (.fa 10 (.t 1) 2 1),.op (.ld 11 (.t 10) 1 false),.op (.bin 12 .neq (.t 11) k0),.op (.mv 13 (.t 12)),.sc true 17 13 [.op (.fa 14 (.t 1) 3 1),.op (.ld 15 (.t 14) 1 false),.op (.bin 16 .neq (.t 15) k0)] (.t 16),.op (.mv 9 (.t 17))])
 (.ite (.t 9)
 ((.seq (.reg [.op (.build 18 zR []),.op (.st (.t 2) (.t 18) 9 false),.op (.mv 3 (.k (.i .i64 2)))])
 (.ret)))
 (.skip))))))))
 ((.seq (.reg [.op (.build 19 zR [(0,1,(.k (.i .i64 (-1))))]),.op (.st (.t 2) (.t 19) 9 false),.op (.mv 3 k0)])
 (.ret)))))))
 [.c 2 9 true,.t 3] false none
def F_mutex_Check : F := .mk
 ((.seq (.reg [.op (.box 2 (.t 0) 4 true),.op (.box 3 (.t 1) 9 true),.op (.mv 4 k0)])
 ((.seq ((.seq (.reg [.op (.ld 8 (.t 2) 4 true),.op (.call (some 9) mutex_New [(.t 8)]),.op (.mv 7 (.t 9)),.op (.ext 10 (.t 7) 0),.op (.ext 11 (.t 7) 1),.op (.new 5 zR),.op (.st (.t 5) (.t 10) 9 true),.op (.mv 6 (.t 11))])
 ((.seq (.reg [.op (.mv 12 (.t 6)),.op (.bin 13 .neq (.t 12) k0)])
 (.ite (.t 13)
 ((.seq (.reg [.op (.mv 14 (.t 6)),.op (.mv 4 (.t 14))])
 (.ret)))
 (.skip))))))
 ((.seq ((.seq (.reg [.op (.ld 15 (.t 3) 9 true),.op (.call (some 16) mutex_valid [(.t 15)]),.op (.un 17 .not (.t 16))])
 (.ite (.t 17)
 ((.seq (.reg [.op (.mv 4 (.k (.i .i64 1)))])
 (.ret)))
 (.skip))))
 ((.seq (.reg [.op (.mv 4 k0)])
 (.ret)))))))))
 [.t 4] false none
def F_rwlock_New : F := .mk
 ((.seq (.reg [.op (.box 1 (.t 0) 4 true),.op (.new 2 zR),.op (.mv 3 k0)])
 ((.seq ((.seq (.reg [.op (.fa 4 (.t 1) 1 1),.op (.ld 5 (.t 4) 1 false),.op (.bin 6 .neq (.t 5) (.k (.i .i64 2)))])
 (.ite (.t 6)
 ((.seq (.reg [.op (.build 7 zR []),.op (.st (.t 2) (.t 7) 9 false),.op (.mv 3 (.k (.i .i64 8)))])
 (.ret)))
 (.skip))))
 ((.seq ((.seq (.reg [.op (.fa 8 (.t 1) 2 1),.op (.ld 9 (.t 8) 1 false),.op (.bin 10 .neq (.t 9) k0),.op (.mv 11 (.t 10)),.sc true 15 11 [.op (.fa 12 (.t 1) 3 1),.op (.ld 13 (.t 12) 1 false),.op (.bin 14 .neq (.t 13) k0)] (.t 14)])
 (.ite (.t 15)
 ((.seq (.reg [.op (.build 16 zR []),.op (.st (.t 2) (.t 16) 9 false),.op (.mv 3 (.k (.i .i64 2)))])
 (.ret)))
 (.skip))))
 ((.seq (.reg [.op (.build 17 zR [(0,1,(.k (.i .i64 (-1))))]),.op (.st (.t 2) (.t 17) 9 false),.op (.mv 3 k0)])
 (.ret)))))))))
 [.c 2 9 true,.t 3] false none
def F_rwlock_Check : F := .mk
 ((.seq (.reg [.op (.box 2 (.t 0) 4 true),.op (.box 3 (.t 1) 9 true),.op (.mv 4 k0)])
 ((.seq ((.seq (.reg [.op (.ld 8 (.t 2) 4 true),.op (.call (some 9) rwlock_New [(.t 8)]),.op (.mv 7 (.t 9)),.op (.ext 10 (.t 7) 0),.op (.ext 11 (.t 7) 1),.op (.new 5 zR),.op (.st (.t 5) (.t 10) 9 true),.op (.mv 6 (.t 11))])
 ((.seq (.reg [.op (.mv 12 (.t 6)),.op (.bin 13 .neq (.t 12) k0)])
 (.ite (.t 13)
 ((.seq (.reg [.op (.mv 14 (.t 6)),.op (.mv 4 (.t 14))])
 (.ret)))
 (.skip))))))
 ((.seq ((.seq (.reg [.op (.ld 15 (.t 3) 9 true),.op (.call (some 16) rwlock_valid [(.t 15)]),.op (.un 17 .not (.t 16))])
 (.ite (.t 17)
 ((.seq (.reg [.op (.mv 4 (.k (.i .i64 1)))])
 (.ret)))
 (.skip))))
 ((.seq (.reg [.op (.mv 4 k0)])
 (.ret)))))))))
 [.t 4] false none
def F_semaphore_New : F := .mk
 ((.seq (.reg [.op (.box 1 (.t 0) 4 true),.op (.new 2 zR),.op (.mv 3 k0)])
 ((.seq (.blk 0 ((.seq (.reg [.op (.fa 5 (.t 1) 1 1),.op (.ld 6 (.t 5) 1 false),.op (.bin 7 .neq (.t 6) (.k (.i .i64 4))),.op (.mv 4 (.t 7))])
 (.ite (.t 4)
 ((.seq (.reg [.op (.build 8 zR []),.op (.st (.t 2) (.t 8) 9 false),.op (.mv 3 (.k (.i .i64 8)))])
 (.ret)))
 ((.seq (.reg [.op (.fa 10 (.t 1) 2 1),.op (.ld 11 (.t 10) 1 false),.op (.bin 12 .lss (.t 11) (.k (.i .i64 1))),.op (.mv 13 (.t 12)),.sc true 17 13 [.op (.fa 14 (.t 1) 2 1),.op (.ld 15 (.t 14) 1 false),.op (.bin 16 .gtr (.t 15) (.k (.i .i64 100)))] (.t 16),.op (.mv 18 (.t 17)),.sc true 27 18 [.op (.fa 19 (.t 1) 3 1),.op (.ld 20 (.t 19) 1 false),.op (.bin 21 .neq (.t 20) k0),.op (.mv 22 (.t 21)),.sc false 26 22 [.op (.fa 23 (.t 1) 3 1),.op (.ld 24 (.t 23) 1 false),.op (.bin 25 .neq (.t 24) (.k (.i .i64 1)))] (.t 25)] (.t 26),.op (.mv 9 (.t 27))])
 (.ite (.t 9)
 ((.seq (.reg [.op (.build 28 zR []),.op (.st (.t 2) (.t 28) 9 false),.op (.mv 3 (.k (.i .i64 2)))])
 (.ret)))
 (.skip))))))))
 ((.seq (.reg [.op (.fa 29 (.t 1) 2 1),.op (.ld 30 (.t 29) 1 false),.op (.build 31 zR [(0,1,(.k (.i .i64 (-1)))),(1,1,(.t 30))]),.op (.st (.t 2) (.t 31) 9 false),.op (.mv 3 k0)])
 (.ret)))))))
 [.c 2 9 true,.t 3] false none
def F_semaphore_Check_L0 : C :=
 (.seq (.reg [.op (.bin 41 .lss (.t 40) (.t 39))])
 ((.seq (.ite (.t 41)
 (.skip)
 (.seq (.keep [3]) (.exit 0)))
 ((.seq (.blk 1 ((.seq (.reg [.op (.mv 42 (.t 40)),.op (.mv 7 (.t 42))])
 ((.seq (.reg [.op (.ld 43 (.t 2) 4 true),.op (.ld 44 (.t 3) 9 true),.op (.mv 45 (.t 7)),.op (.call (some 46) semaphore_waits [(.t 43),(.t 44),(.t 45)]),.op (.un 47 .not (.t 46))])
 (.ite (.t 47)
 ((.seq (.reg [.op (.mv 4 (.k (.i .i64 1)))])
 (.seq (.keep [4]) .ret)))
 (.skip)))))))
 (.reg [.op (.bin 48 .add (.t 40) (.k (.i .i64 1))),.op (.mv 40 (.t 48))]))))))
def F_semaphore_Check : F := .mk
 ((.seq (.reg [.op (.box 2 (.t 0) 4 true),.op (.box 3 (.t 1) 9 true),.op (.mv 4 k0)])
 ((.seq ((.seq (.reg [.op (.ld 9 (.t 2) 4 true),.op (.call (some 10) semaphore_New [(.t 9)]),.op (.mv 8 (.t 10)),.op (.ext 11 (.t 8) 0),.op (.ext 12 (.t 8) 1),.op (.new 5 zR),.op (.st (.t 5) (.t 11) 9 true),.op (.mv 6 (.t 12))])
 ((.seq (.reg [.op (.mv 13 (.t 6)),.op (.bin 14 .neq (.t 13) k0)])
 (.ite (.t 14)
 ((.seq (.reg [.op (.mv 15 (.t 6)),.op (.mv 4 (.t 15))])
 (.ret)))
 (.skip))))))
 ((.seq ((.seq (.reg [.op (.fa 16 (.t 3) 0 1),.op (.ld 17 (.t 16) 1 false),.op (.bin 18 .neq (.t 17) (.k (.i .i64 (-1)))),.op (.mv 19 (.t 18)),.sc true 23 19 [.op (.fa 20 (.t 3) 1 1),.op (.ld 21 (.t 20) 1 false),.op (.bin 22 .lss (.t 21) k0)] (.t 22),.op (.mv 24 (.t 23)),.sc true 30 24 [.op (.fa 25 (.t 3) 1 1),.op (.ld 26 (.t 25) 1 false),.op (.fa 27 (.t 2) 2 1),.op (.ld 28 (.t 27) 1 false),.op (.bin 29 .gtr (.t 26) (.t 28))] (.t 29),.op (.mv 31 (.t 30)),.sc true 36 31 [.op (.fa 32 (.t 3) 4 1),.op (.ld 33 (.t 32) 1 false),.op (.call (some 34) waitlist_Check [(.k (.i .i64 1)),(.t 33)]),.op (.bin 35 .neq (.t 34) k0)] (.t 35)])
 (.ite (.t 36)
 ((.seq (.reg [.op (.mv 4 (.k (.i .i64 1)))])
 (.ret)))
 (.skip))))
 ((.seq ((.seq (.reg [.op (.fa 37 (.t 3) 4 1),.op (.ld 38 (.t 37) 1 false),.op (.len 39 (.t 38) .sl),.op (.mv 40 k0)])
 (.blk 0 (.loop [2,3,39,40] F_semaphore_Check_L0))))
 ((.seq ((.seq (.reg [.op (.fa 49 (.t 3) 2 1),.op (.ld 50 (.t 49) 1 false),.op (.bin 51 .neq (.t 50) k0),.op (.mv 52 (.t 51)),.sc true 65 52 [.op (.fa 53 (.t 3) 3 1),.op (.ld 54 (.t 53) 1 false),.op (.len 55 (.t 54) .sl),.op (.fa 56 (.t 3) 5 1),.op (.ld 57 (.t 56) 1 false),.op (.len 58 (.t 57) .sl),.op (.bin 59 .add (.t 55) (.t 58)),.op (.fa 60 (.t 3) 6 1),.op (.ld 61 (.t 60) 1 false),.op (.len 62 (.t 61) .sl),.op (.bin 63 .add (.t 59) (.t 62)),.op (.bin 64 .gtr (.t 63) k0)] (.t 64),.op (.mv 66 (.t 65)),.sc true 69 66 [.op (.fa 67 (.t 3) 7 1),.op (.ld 68 (.t 67) 1 false)] (.t 68),.op (.mv 70 (.t 69)),.sc true 74 70 [.op (.fa 71 (.t 3) 8 1),.op (.ld 72 (.t 71) 1 false),.op (.bin 73 .neq (.t 72) k0)] (.t 73)])
 (.ite (.t 74)
 ((.seq (.reg [.op (.mv 4 (.k (.i .i64 1)))])
 (.ret)))
 (.skip))))
 ((.seq (.reg [.op (.mv 4 k0)])
 (.ret)))))))))))))
 [.t 4] false none
def F_barrier_New : F := .mk
 ((.seq (.reg [.op (.box 1 (.t 0) 4 true),.op (.new 2 zR),.op (.mv 3 k0)])
 ((.seq (.blk 0 ((.seq (.reg [.op (.fa 5 (.t 1) 1 1),.op (.ld 6 (.t 5) 1 false),.op (.bin 7 .neq (.t 6) (.k (.i .i64 5))),.op (.mv 4 (.t 7))])
 (.ite (.t 4)
 ((.seq (.reg [.op (.build 8 zR []),.op (.st (.t 2) (.t 8) 9 false),.op (.mv 3 (.k (.i .i64 8)))])
 (.ret)))
 ((.seq (.reg [.op (.fa 10 (.t 1) 2 1),.op (.ld 11 (.t 10) 1 false),.op (.bin 12 .lss (.t 11) (.k (.i .i64 1))),.op (.mv 13 (.t 12)),.sc true 17 13 [.op (.fa 14 (.t 1) 2 1),.op (.ld 15 (.t 14) 1 false),.op (.bin 16 .gtr (.t 15) (.k (.i .i64 100)))] (.t 16),.op (.mv 18 (.t 17)),.sc true 22 18 [.op (.fa 19 (.t 1) 3 1),.op (.ld 20 (.t 19) 1 false),.op (.bin 21 .neq (.t 20) k0)] (.t 21),.op (.mv 9 (.t 22))])
 (.ite (.t 9)
 ((.seq (.reg [.op (.build 23 zR []),.op (.st (.t 2) (.t 23) 9 false),.op (.mv 3 (.k (.i .i64 2)))])
 (.ret)))
 (.skip))))))))
 ((.seq (.reg [.op (.build 24 zR [(0,1,(.k (.i .i64 (-1))))]),.op (.st (.t 2) (.t 24) 9 false),.op (.mv 3 k0)])
 (.ret)))))))
 [.c 2 9 true,.t 3] false none
def F_barrier_Check_L0 : C :=
 (.seq (.reg [.op (.bin 74 .lss (.t 73) (.t 72))])
 ((.seq (.ite (.t 74)
 (.skip)
 (.seq (.keep []) (.exit 0)))
 ((.seq (.blk 1 ((.seq (.reg [.op (.mv 75 (.t 73)),.op (.ixs 76 (.t 71) (.t 73) 5),.op (.ld 77 (.t 76) 5 true),.op (.new 8 zQ),.op (.mv 7 (.t 75)),.op (.st (.t 8) (.t 77) 5 true)])
 ((.seq (.reg [.op (.fa 78 (.t 8) 1 1),.op (.ld 79 (.t 78) 1 false),.op (.bin 80 .neq (.t 79) (.k (.i .i64 63))),.op (.mv 81 (.t 80)),.sc true 85 81 [.op (.fa 82 (.t 8) 2 1),.op (.ld 83 (.t 82) 1 false),.op (.bin 84 .neq (.t 83) k0)] (.t 84),.op (.mv 86 (.t 85)),.sc true 90 86 [.op (.fa 87 (.t 8) 4 1),.op (.ld 88 (.t 87) 1 false),.op (.bin 89 .neq (.t 88) (.k (.i .i64 (-1))))] (.t 89),.op (.mv 91 (.t 90)),.sc true 102 91 [.op (.fa 92 (.t 3) 4 1),.op (.ld 93 (.t 92) 1 false),.op (.mv 94 (.t 7)),.op (.bin 95 .add (.t 94) (.k (.i .i64 1))),.op (.sl 96 (.t 93) none (some (.t 95)) 5),.op (.call (some 97) waitlist_Tasks [(.t 96)]),.op (.len 98 (.t 97) .sl),.op (.mv 99 (.t 7)),.op (.bin 100 .add (.t 99) (.k (.i .i64 1))),.op (.bin 101 .neq (.t 98) (.t 100))] (.t 101)])
 (.ite (.t 102)
 ((.seq (.reg [.op (.mv 4 (.k (.i .i64 1)))])
 (.seq (.keep [4]) .ret)))
 (.skip)))))))
 (.reg [.op (.bin 103 .add (.t 73) (.k (.i .i64 1))),.op (.mv 73 (.t 103))]))))))
def F_barrier_Check : F := .mk
 ((.seq (.reg [.op (.box 2 (.t 0) 4 true),.op (.box 3 (.t 1) 9 true),.op (.mv 4 k0)])
 ((.seq ((.seq (.reg [.op (.ld 10 (.t 2) 4 true),.op (.call (some 11) barrier_New [(.t 10)]),.op (.mv 9 (.t 11)),.op (.ext 12 (.t 9) 0),.op (.ext 13 (.t 9) 1),.op (.new 5 zR),.op (.st (.t 5) (.t 12) 9 true),.op (.mv 6 (.t 13))])
 ((.seq (.reg [.op (.mv 14 (.t 6)),.op (.bin 15 .neq (.t 14) k0)])
 (.ite (.t 15)
 ((.seq (.reg [.op (.mv 16 (.t 6)),.op (.mv 4 (.t 16))])
 (.ret)))
 (.skip))))))
 ((.seq ((.seq (.reg [.op (.fa 17 (.t 3) 0 1),.op (.ld 18 (.t 17) 1 false),.op (.bin 19 .neq (.t 18) (.k (.i .i64 (-1)))),.op (.mv 20 (.t 19)),.sc true 24 20 [.op (.fa 21 (.t 3) 1 1),.op (.ld 22 (.t 21) 1 false),.op (.bin 23 .lss (.t 22) k0)] (.t 23),.op (.mv 25 (.t 24)),.sc true 29 25 [.op (.fa 26 (.t 3) 1 1),.op (.ld 27 (.t 26) 1 false),.op (.bin 28 .gtr (.t 27) (.k (.i .i64 1099511627776)))] (.t 28),.op (.mv 30 (.t 29)),.sc true 37 30 [.op (.fa 31 (.t 3) 4 1),.op (.ld 32 (.t 31) 1 false),.op (.len 33 (.t 32) .sl),.op (.fa 34 (.t 2) 2 1),.op (.ld 35 (.t 34) 1 false),.op (.bin 36 .geq (.t 33) (.t 35))] (.t 36)])
 (.ite (.t 37)
 ((.seq (.reg [.op (.mv 4 (.k (.i .i64 1)))])
 (.ret)))
 (.skip))))
 ((.seq ((.seq (.reg [.op (.fa 38 (.t 3) 2 1),.op (.ld 39 (.t 38) 1 false),.op (.bin 40 .neq (.t 39) k0),.op (.mv 41 (.t 40)),.sc true 45 41 [.op (.fa 42 (.t 3) 8 1),.op (.ld 43 (.t 42) 1 false),.op (.bin 44 .neq (.t 43) k0)] (.t 44),.op (.mv 46 (.t 45)),.sc true 49 46 [.op (.fa 47 (.t 3) 7 1),.op (.ld 48 (.t 47) 1 false)] (.t 48),.op (.mv 50 (.t 49)),.sc true 63 50 [.op (.fa 51 (.t 3) 3 1),.op (.ld 52 (.t 51) 1 false),.op (.len 53 (.t 52) .sl),.op (.fa 54 (.t 3) 5 1),.op (.ld 55 (.t 54) 1 false),.op (.len 56 (.t 55) .sl),.op (.bin 57 .add (.t 53) (.t 56)),.op (.fa 58 (.t 3) 6 1),.op (.ld 59 (.t 58) 1 false),.op (.len 60 (.t 59) .sl),.op (.bin 61 .add (.t 57) (.t 60)),.op (.bin 62 .gtr (.t 61) k0)] (.t 62),.op (.mv 64 (.t 63)),.sc true 69 64 [.op (.fa 65 (.t 3) 4 1),.op (.ld 66 (.t 65) 1 false),.op (.call (some 67) waitlist_Check [(.k (.i .i64 1)),(.t 66)]),.op (.bin 68 .neq (.t 67) k0)] (.t 68)])
 (.ite (.t 69)
 ((.seq (.reg [.op (.mv 4 (.k (.i .i64 1)))])
 (.ret)))
 (.skip))))
 ((.seq ((.seq (.reg [.op (.fa 70 (.t 3) 4 1),.op (.ld 71 (.t 70) 1 false),.op (.len 72 (.t 71) .sl),.op (.mv 73 k0)])
 (.blk 0 (.loop [3,71,72,73] F_barrier_Check_L0))))
 ((.seq (.reg [.op (.mv 4 k0)])
 (.ret)))))))))))))
 [.t 4] false none
def F_channel_New : F := .mk
 ((.seq (.reg [.op (.box 1 (.t 0) 4 true),.op (.new 2 zR),.op (.mv 3 k0)])
 ((.seq ((.seq (.reg [.op (.fa 4 (.t 1) 1 1),.op (.ld 5 (.t 4) 1 false),.op (.bin 6 .neq (.t 5) (.k (.i .i64 6)))])
 (.ite (.t 6)
 ((.seq (.reg [.op (.build 7 zR []),.op (.st (.t 2) (.t 7) 9 false),.op (.mv 3 (.k (.i .i64 8)))])
 (.ret)))
 (.skip))))
 ((.seq ((.seq (.reg [.op (.fa 8 (.t 1) 2 1),.op (.ld 9 (.t 8) 1 false),.op (.bin 10 .lss (.t 9) k0),.op (.mv 11 (.t 10)),.sc true 15 11 [.op (.fa 12 (.t 1) 2 1),.op (.ld 13 (.t 12) 1 false),.op (.bin 14 .gtr (.t 13) (.k (.i .i64 100)))] (.t 14),.op (.mv 16 (.t 15)),.sc true 20 16 [.op (.fa 17 (.t 1) 3 1),.op (.ld 18 (.t 17) 1 false),.op (.bin 19 .neq (.t 18) k0)] (.t 19)])
 (.ite (.t 20)
 ((.seq (.reg [.op (.build 21 zR []),.op (.st (.t 2) (.t 21) 9 false),.op (.mv 3 (.k (.i .i64 2)))])
 (.ret)))
 (.skip))))
 ((.seq (.reg [.op (.build 22 zR [(0,1,(.k (.i .i64 (-1))))]),.op (.st (.t 2) (.t 22) 9 false),.op (.mv 3 k0)])
 (.ret)))))))))
 [.c 2 9 true,.t 3] false none
def F_channel_Check : F := .mk
 ((.seq (.reg [.op (.box 2 (.t 0) 4 true),.op (.box 3 (.t 1) 9 true),.op (.mv 4 k0)])
 ((.seq ((.seq (.reg [.op (.ld 8 (.t 2) 4 true),.op (.call (some 9) channel_New [(.t 8)]),.op (.mv 7 (.t 9)),.op (.ext 10 (.t 7) 0),.op (.ext 11 (.t 7) 1),.op (.new 5 zR),.op (.st (.t 5) (.t 10) 9 true),.op (.mv 6 (.t 11))])
 ((.seq (.reg [.op (.mv 12 (.t 6)),.op (.bin 13 .neq (.t 12) k0)])
 (.ite (.t 13)
 ((.seq (.reg [.op (.mv 14 (.t 6)),.op (.mv 4 (.t 14))])
 (.ret)))
 (.skip))))))
 ((.seq ((.seq (.reg [.op (.ld 15 (.t 2) 4 true),.op (.ld 16 (.t 3) 9 true),.op (.call (some 17) channel_valid [(.t 15),(.t 16)]),.op (.un 18 .not (.t 17))])
 (.ite (.t 18)
 ((.seq (.reg [.op (.mv 4 (.k (.i .i64 1)))])
 (.ret)))
 (.skip))))
 ((.seq (.reg [.op (.mv 4 k0)])
 (.ret)))))))))
 [.t 4] false none
def F_topic_New : F := .mk
 ((.seq (.reg [.op (.box 1 (.t 0) 4 true),.op (.new 2 zR),.op (.mv 3 k0)])
 ((.seq ((.seq (.reg [.op (.fa 4 (.t 1) 1 1),.op (.ld 5 (.t 4) 1 false),.op (.bin 6 .neq (.t 5) (.k (.i .i64 7)))])
 (.ite (.t 6)
 ((.seq (.reg [.op (.build 7 zR []),.op (.st (.t 2) (.t 7) 9 false),.op (.mv 3 (.k (.i .i64 8)))])
 (.ret)))
 (.skip))))
 ((.seq ((.seq (.reg [.op (.fa 8 (.t 1) 2 1),.op (.ld 9 (.t 8) 1 false),.op (.bin 10 .lss (.t 9) k0),.op (.mv 11 (.t 10)),.sc true 15 11 [.op (.fa 12 (.t 1) 2 1),.op (.ld 13 (.t 12) 1 false),.op (.bin 14 .gtr (.t 13) (.k (.i .i64 100)))] (.t 14),.op (.mv 16 (.t 15)),.sc true 20 16 [.op (.fa 17 (.t 1) 3 1),.op (.ld 18 (.t 17) 1 false),.op (.bin 19 .neq (.t 18) k0)] (.t 19)])
 (.ite (.t 20)
 ((.seq (.reg [.op (.build 21 zR []),.op (.st (.t 2) (.t 21) 9 false),.op (.mv 3 (.k (.i .i64 2)))])
 (.ret)))
 (.skip))))
 ((.seq (.reg [.op (.build 22 zR [(0,1,(.k (.i .i64 (-1))))]),.op (.st (.t 2) (.t 22) 9 false),.op (.mv 3 k0)])
 (.ret)))))))))
 [.c 2 9 true,.t 3] false none
def F_topic_Check : F := .mk
 ((.seq (.reg [.op (.box 2 (.t 0) 4 true),.op (.box 3 (.t 1) 9 true),.op (.mv 4 k0)])
 ((.seq ((.seq (.reg [.op (.ld 8 (.t 2) 4 true),.op (.call (some 9) topic_New [(.t 8)]),.op (.mv 7 (.t 9)),.op (.ext 10 (.t 7) 0),.op (.ext 11 (.t 7) 1),.op (.new 5 zR),.op (.st (.t 5) (.t 10) 9 true),.op (.mv 6 (.t 11))])
 ((.seq (.reg [.op (.mv 12 (.t 6)),.op (.bin 13 .neq (.t 12) k0)])
 (.ite (.t 13)
 ((.seq (.reg [.op (.mv 14 (.t 6)),.op (.mv 4 (.t 14))])
 (.ret)))
 (.skip))))))
 ((.seq ((.seq (.reg [.op (.fa 15 (.t 3) 0 1),.op (.ld 16 (.t 15) 1 false),.op (.bin 17 .neq (.t 16) (.k (.i .i64 (-1)))),.op (.mv 18 (.t 17)),.sc true 25 18 [.op (.fa 19 (.t 2) 2 1),.op (.ld 20 (.t 19) 1 false),.op (.fa 21 (.t 3) 6 1),.op (.ld 22 (.t 21) 1 false),.op (.call (some 23) topic_cursors [(.t 20),(.t 22)]),.op (.un 24 .not (.t 23))] (.t 24),.op (.mv 26 (.t 25)),.sc true 32 26 [.op (.fa 27 (.t 2) 2 1),.op (.ld 28 (.t 27) 1 false),.op (.ld 29 (.t 3) 9 true),.op (.call (some 30) topic_queue [(.t 28),(.t 29)]),.op (.un 31 .not (.t 30))] (.t 31)])
 (.ite (.t 32)
 ((.seq (.reg [.op (.mv 4 (.k (.i .i64 1)))])
 (.ret)))
 (.skip))))
 ((.seq ((.seq (.reg [.op (.fa 33 (.t 3) 1 1),.op (.ld 34 (.t 33) 1 false),.op (.bin 35 .neq (.t 34) k0),.op (.mv 36 (.t 35)),.sc true 40 36 [.op (.fa 37 (.t 3) 2 1),.op (.ld 38 (.t 37) 1 false),.op (.bin 39 .neq (.t 38) k0)] (.t 39),.op (.mv 41 (.t 40)),.sc true 50 41 [.op (.fa 42 (.t 3) 3 1),.op (.ld 43 (.t 42) 1 false),.op (.len 44 (.t 43) .sl),.op (.fa 45 (.t 3) 5 1),.op (.ld 46 (.t 45) 1 false),.op (.len 47 (.t 46) .sl),.op (.bin 48 .add (.t 44) (.t 47)),.op (.bin 49 .gtr (.t 48) k0)] (.t 49),.op (.mv 51 (.t 50)),.sc true 54 51 [.op (.fa 52 (.t 3) 7 1),.op (.ld 53 (.t 52) 1 false)] (.t 53),.op (.mv 55 (.t 54)),.sc true 59 55 [.op (.fa 56 (.t 3) 8 1),.op (.ld 57 (.t 56) 1 false),.op (.bin 58 .neq (.t 57) k0)] (.t 58)])
 (.ite (.t 59)
 ((.seq (.reg [.op (.mv 4 (.k (.i .i64 1)))])
 (.ret)))
 (.skip))))
 ((.seq (.reg [.op (.mv 4 k0)])
 (.ret)))))))))))
 [.t 4] false none
def F_limiter_New : F := .mk
 ((.seq (.reg [.op (.box 1 (.t 0) 4 true),.op (.new 2 zR),.op (.mv 3 k0)])
 ((.seq (.blk 0 ((.seq (.reg [.op (.fa 5 (.t 1) 1 1),.op (.ld 6 (.t 5) 1 false),.op (.bin 7 .neq (.t 6) (.k (.i .i64 8))),.op (.mv 4 (.t 7))])
 (.ite (.t 4)
 ((.seq (.reg [.op (.build 8 zR []),.op (.st (.t 2) (.t 8) 9 false),.op (.mv 3 (.k (.i .i64 8)))])
 (.ret)))
 ((.seq (.reg [.op (.fa 10 (.t 1) 2 1),.op (.ld 11 (.t 10) 1 false),.op (.bin 12 .lss (.t 11) (.k (.i .i64 1))),.op (.mv 13 (.t 12)),.sc true 17 13 [.op (.fa 14 (.t 1) 2 1),.op (.ld 15 (.t 14) 1 false),.op (.bin 16 .gtr (.t 15) (.k (.i .i64 100)))] (.t 16),.op (.mv 18 (.t 17)),.sc true 22 18 [.op (.fa 19 (.t 1) 3 1),.op (.ld 20 (.t 19) 1 false),.op (.bin 21 .lss (.t 20) (.k (.i .i64 1)))] (.t 21),.op (.mv 23 (.t 22)),.sc true 27 23 [.op (.fa 24 (.t 1) 3 1),.op (.ld 25 (.t 24) 1 false),.op (.bin 26 .gtr (.t 25) (.k (.i .i64 1099511627776)))] (.t 26),.op (.mv 9 (.t 27))])
 (.ite (.t 9)
 ((.seq (.reg [.op (.build 28 zR []),.op (.st (.t 2) (.t 28) 9 false),.op (.mv 3 (.k (.i .i64 2)))])
 (.ret)))
 (.skip))))))))
 ((.seq (.reg [.op (.fa 29 (.t 1) 2 1),.op (.ld 30 (.t 29) 1 false),.op (.build 31 zR [(0,1,(.k (.i .i64 (-1)))),(1,1,(.t 30))]),.op (.st (.t 2) (.t 31) 9 false),.op (.mv 3 k0)])
 (.ret)))))))
 [.c 2 9 true,.t 3] false none
def F_limiter_Check_L0 : C :=
 (.seq (.reg [.op (.bin 73 .lss (.t 72) (.t 71))])
 ((.seq (.ite (.t 73)
 (.skip)
 (.seq (.keep []) (.exit 0)))
 ((.seq (.blk 1 ((.seq (.reg [.op (.mv 74 (.t 72)),.op (.ixs 75 (.t 70) (.t 72) 5),.op (.ld 76 (.t 75) 5 true),.op (.new 8 zQ),.op (.mv 7 (.t 74)),.op (.st (.t 8) (.t 76) 5 true)])
 ((.seq (.reg [.op (.fa 77 (.t 8) 1 1),.op (.ld 78 (.t 77) 1 false),.op (.bin 79 .neq (.t 78) (.k (.i .i64 72))),.op (.mv 80 (.t 79)),.sc true 84 80 [.op (.fa 81 (.t 8) 2 1),.op (.ld 82 (.t 81) 1 false),.op (.bin 83 .lss (.t 82) (.k (.i .i64 1)))] (.t 83),.op (.mv 85 (.t 84)),.sc true 91 85 [.op (.fa 86 (.t 8) 2 1),.op (.ld 87 (.t 86) 1 false),.op (.fa 88 (.t 2) 2 1),.op (.ld 89 (.t 88) 1 false),.op (.bin 90 .gtr (.t 87) (.t 89))] (.t 90),.op (.mv 92 (.t 91)),.sc true 96 92 [.op (.fa 93 (.t 8) 4 1),.op (.ld 94 (.t 93) 1 false),.op (.bin 95 .neq (.t 94) (.k (.i .i64 (-1))))] (.t 95),.op (.mv 97 (.t 96)),.sc true 108 97 [.op (.fa 98 (.t 3) 4 1),.op (.ld 99 (.t 98) 1 false),.op (.mv 100 (.t 7)),.op (.bin 101 .add (.t 100) (.k (.i .i64 1))),.op (.sl 102 (.t 99) none (some (.t 101)) 5),.op (.call (some 103) waitlist_Tasks [(.t 102)]),.op (.len 104 (.t 103) .sl),.op (.mv 105 (.t 7)),.op (.bin 106 .add (.t 105) (.k (.i .i64 1))),.op (.bin 107 .neq (.t 104) (.t 106))] (.t 107)])
 (.ite (.t 108)
 ((.seq (.reg [.op (.mv 4 (.k (.i .i64 1)))])
 (.seq (.keep [4]) .ret)))
 (.skip)))))))
 (.reg [.op (.bin 109 .add (.t 72) (.k (.i .i64 1))),.op (.mv 72 (.t 109))]))))))
def F_limiter_Check : F := .mk
 ((.seq (.reg [.op (.box 2 (.t 0) 4 true),.op (.box 3 (.t 1) 9 true),.op (.mv 4 k0)])
 ((.seq ((.seq (.reg [.op (.ld 10 (.t 2) 4 true),.op (.call (some 11) limiter_New [(.t 10)]),.op (.mv 9 (.t 11)),.op (.ext 12 (.t 9) 0),.op (.ext 13 (.t 9) 1),.op (.new 5 zR),.op (.st (.t 5) (.t 12) 9 true),.op (.mv 6 (.t 13))])
 ((.seq (.reg [.op (.mv 14 (.t 6)),.op (.bin 15 .neq (.t 14) k0)])
 (.ite (.t 15)
 ((.seq (.reg [.op (.mv 16 (.t 6)),.op (.mv 4 (.t 16))])
 (.ret)))
 (.skip))))))
 ((.seq ((.seq (.reg [.op (.fa 17 (.t 3) 0 1),.op (.ld 18 (.t 17) 1 false),.op (.bin 19 .neq (.t 18) (.k (.i .i64 (-1)))),.op (.mv 20 (.t 19)),.sc true 24 20 [.op (.fa 21 (.t 3) 1 1),.op (.ld 22 (.t 21) 1 false),.op (.bin 23 .lss (.t 22) k0)] (.t 23),.op (.mv 25 (.t 24)),.sc true 31 25 [.op (.fa 26 (.t 3) 1 1),.op (.ld 27 (.t 26) 1 false),.op (.fa 28 (.t 2) 2 1),.op (.ld 29 (.t 28) 1 false),.op (.bin 30 .gtr (.t 27) (.t 29))] (.t 30),.op (.mv 32 (.t 31)),.sc true 36 32 [.op (.fa 33 (.t 3) 2 1),.op (.ld 34 (.t 33) 1 false),.op (.bin 35 .lss (.t 34) k0)] (.t 35),.op (.mv 37 (.t 36)),.sc true 41 37 [.op (.fa 38 (.t 3) 2 1),.op (.ld 39 (.t 38) 1 false),.op (.bin 40 .gtr (.t 39) (.k (.i .i64 1099511627776)))] (.t 40)])
 (.ite (.t 41)
 ((.seq (.reg [.op (.mv 4 (.k (.i .i64 1)))])
 (.ret)))
 (.skip))))
 ((.seq ((.seq (.reg [.op (.fa 42 (.t 3) 8 1),.op (.ld 43 (.t 42) 1 false),.op (.bin 44 .neq (.t 43) k0),.op (.mv 45 (.t 44)),.sc true 48 45 [.op (.fa 46 (.t 3) 7 1),.op (.ld 47 (.t 46) 1 false)] (.t 47),.op (.mv 49 (.t 48)),.sc true 62 49 [.op (.fa 50 (.t 3) 3 1),.op (.ld 51 (.t 50) 1 false),.op (.len 52 (.t 51) .sl),.op (.fa 53 (.t 3) 5 1),.op (.ld 54 (.t 53) 1 false),.op (.len 55 (.t 54) .sl),.op (.bin 56 .add (.t 52) (.t 55)),.op (.fa 57 (.t 3) 6 1),.op (.ld 58 (.t 57) 1 false),.op (.len 59 (.t 58) .sl),.op (.bin 60 .add (.t 56) (.t 59)),.op (.bin 61 .gtr (.t 60) k0)] (.t 61),.op (.mv 63 (.t 62)),.sc true 68 63 [.op (.fa 64 (.t 3) 4 1),.op (.ld 65 (.t 64) 1 false),.op (.call (some 66) waitlist_Check [(.k (.i .i64 1)),(.t 65)]),.op (.bin 67 .neq (.t 66) k0)] (.t 67)])
 (.ite (.t 68)
 ((.seq (.reg [.op (.mv 4 (.k (.i .i64 1)))])
 (.ret)))
 (.skip))))
 ((.seq ((.seq (.reg [.op (.fa 69 (.t 3) 4 1),.op (.ld 70 (.t 69) 1 false),.op (.len 71 (.t 70) .sl),.op (.mv 72 k0)])
 (.blk 0 (.loop [2,3,70,71,72] F_limiter_Check_L0))))
 ((.seq (.reg [.op (.mv 4 k0)])
 (.ret)))))))))))))
 [.t 4] false none
def F_future_New : F := .mk
 ((.seq (.reg [.op (.box 1 (.t 0) 4 true),.op (.new 2 zR),.op (.mv 3 k0)])
 ((.seq ((.seq (.reg [.op (.fa 4 (.t 1) 1 1),.op (.ld 5 (.t 4) 1 false),.op (.bin 6 .neq (.t 5) (.k (.i .i64 9)))])
 (.ite (.t 6)
 ((.seq (.reg [.op (.build 7 zR []),.op (.st (.t 2) (.t 7) 9 false),.op (.mv 3 (.k (.i .i64 8)))])
 (.ret)))
 (.skip))))
 ((.seq ((.seq (.reg [.op (.fa 8 (.t 1) 2 1),.op (.ld 9 (.t 8) 1 false),.op (.bin 10 .neq (.t 9) k0),.op (.mv 11 (.t 10)),.sc true 15 11 [.op (.fa 12 (.t 1) 3 1),.op (.ld 13 (.t 12) 1 false),.op (.bin 14 .neq (.t 13) k0)] (.t 14)])
 (.ite (.t 15)
 ((.seq (.reg [.op (.build 16 zR []),.op (.st (.t 2) (.t 16) 9 false),.op (.mv 3 (.k (.i .i64 2)))])
 (.ret)))
 (.skip))))
 ((.seq (.reg [.op (.build 17 zR [(0,1,(.k (.i .i64 (-1))))]),.op (.st (.t 2) (.t 17) 9 false),.op (.mv 3 k0)])
 (.ret)))))))))
 [.c 2 9 true,.t 3] false none
def F_future_Check : F := .mk
 ((.seq (.reg [.op (.box 2 (.t 0) 4 true),.op (.box 3 (.t 1) 9 true),.op (.mv 4 k0)])
 ((.seq ((.seq (.reg [.op (.ld 8 (.t 2) 4 true),.op (.call (some 9) future_New [(.t 8)]),.op (.mv 7 (.t 9)),.op (.ext 10 (.t 7) 0),.op (.ext 11 (.t 7) 1),.op (.new 5 zR),.op (.st (.t 5) (.t 10) 9 true),.op (.mv 6 (.t 11))])
 ((.seq (.reg [.op (.mv 12 (.t 6)),.op (.bin 13 .neq (.t 12) k0)])
 (.ite (.t 13)
 ((.seq (.reg [.op (.mv 14 (.t 6)),.op (.mv 4 (.t 14))])
 (.ret)))
 (.skip))))))
 ((.seq ((.seq (.reg [.op (.ld 15 (.t 3) 9 true),.op (.build 16 zR [(0,9,(.t 15))]),.op (.call (some 17) future_cell_valid [(.t 16)]),.op (.un 18 .not (.t 17))])
 (.ite (.t 18)
 ((.seq (.reg [.op (.mv 4 (.k (.i .i64 1)))])
 (.ret)))
 (.skip))))
 ((.seq (.reg [.op (.mv 4 k0)])
 (.ret)))))))))
 [.t 4] false none
def F_slices_IndexFunc_api_Cursor_api_Cursor_L0 : C :=
 (.seq (.reg [.op (.bin 9 .lss (.t 8) (.t 7))])
 ((.seq (.ite (.t 9)
 (.skip)
 (.seq (.keep []) (.exit 0)))
 ((.seq (.blk 1 ((.seq (.reg [.op (.mv 10 (.t 8)),.op (.mv 5 (.t 10))])
 ((.seq (.reg [.op (.mv 11 (.t 1)),.op (.mv 12 (.t 0)),.op (.mv 13 (.t 5)),.op (.ixs 14 (.t 12) (.t 13) 2),.op (.ld 15 (.t 14) 2 true),.op (.callv (some 16) (.t 11) [(.t 15)])])
 (.ite (.t 16)
 ((.seq (.reg [.op (.mv 17 (.t 5)),.op (.mv 4 (.t 17))])
 (.seq (.keep [4]) .ret)))
 (.skip)))))))
 (.reg [.op (.bin 18 .add (.t 8) (.k (.i .i64 1))),.op (.mv 8 (.t 18))]))))))
def F_slices_IndexFunc_api_Cursor_api_Cursor : F := .mk
 ((.seq (.reg [.op (.mv 4 k0)])
 ((.seq ((.seq (.reg [.op (.mv 6 (.t 0)),.op (.len 7 (.t 6) .sl),.op (.mv 8 k0)])
 (.blk 0 (.loop [0,1,7,8] F_slices_IndexFunc_api_Cursor_api_Cursor_L0))))
 ((.seq (.reg [.op (.mv 4 (.k (.i .i64 (-1))))])
 (.ret)))))))
 [.t 4] false none
def F_slices_IndexFunc_api_Waiter_api_Waiter_L0 : C :=
 (.seq (.reg [.op (.bin 9 .lss (.t 8) (.t 7))])
 ((.seq (.ite (.t 9)
 (.skip)
 (.seq (.keep []) (.exit 0)))
 ((.seq (.blk 1 ((.seq (.reg [.op (.mv 10 (.t 8)),.op (.mv 5 (.t 10))])
 ((.seq (.reg [.op (.mv 11 (.t 1)),.op (.mv 12 (.t 0)),.op (.mv 13 (.t 5)),.op (.ixs 14 (.t 12) (.t 13) 5),.op (.ld 15 (.t 14) 5 true),.op (.callv (some 16) (.t 11) [(.t 15)])])
 (.ite (.t 16)
 ((.seq (.reg [.op (.mv 17 (.t 5)),.op (.mv 4 (.t 17))])
 (.seq (.keep [4]) .ret)))
 (.skip)))))))
 (.reg [.op (.bin 18 .add (.t 8) (.k (.i .i64 1))),.op (.mv 8 (.t 18))]))))))
def F_slices_IndexFunc_api_Waiter_api_Waiter : F := .mk
 ((.seq (.reg [.op (.mv 4 k0)])
 ((.seq ((.seq (.reg [.op (.mv 6 (.t 0)),.op (.len 7 (.t 6) .sl),.op (.mv 8 k0)])
 (.blk 0 (.loop [0,1,7,8] F_slices_IndexFunc_api_Waiter_api_Waiter_L0))))
 ((.seq (.reg [.op (.mv 4 (.k (.i .i64 (-1))))])
 (.ret)))))))
 [.t 4] false none
def F_mutex_valid_L0 : C :=
 (.seq (.reg [.op (.bin 64 .lss (.t 63) (.t 62))])
 ((.seq (.ite (.t 64)
 (.skip)
 (.seq (.keep []) (.exit 0)))
 ((.seq (.blk 1 ((.seq (.reg [.op (.mv 65 (.t 63)),.op (.ixs 66 (.t 61) (.t 63) 5),.op (.ld 67 (.t 66) 5 true),.op (.new 4 zQ),.op (.mv 3 (.t 65)),.op (.st (.t 4) (.t 67) 5 true)])
 ((.seq ((.seq (.reg [.op (.fa 68 (.t 4) 1 1),.op (.ld 69 (.t 68) 1 false),.op (.bin 70 .neq (.t 69) (.k (.i .i64 50))),.op (.mv 71 (.t 70)),.sc true 75 71 [.op (.fa 72 (.t 4) 2 1),.op (.ld 73 (.t 72) 1 false),.op (.bin 74 .neq (.t 73) k0)] (.t 74),.op (.mv 76 (.t 75)),.sc true 80 76 [.op (.fa 77 (.t 4) 4 1),.op (.ld 78 (.t 77) 1 false),.op (.bin 79 .neq (.t 78) (.k (.i .i64 (-1))))] (.t 79),.op (.mv 81 (.t 80)),.sc true 87 81 [.op (.fa 82 (.t 4) 0 1),.op (.ld 83 (.t 82) 1 false),.op (.fa 84 (.t 1) 0 1),.op (.ld 85 (.t 84) 1 false),.op (.bin 86 .eql (.t 83) (.t 85))] (.t 86)])
 (.ite (.t 87)
 ((.seq (.reg [.op (.mv 2 (.k (.b false)))])
 (.seq (.keep [2]) .ret)))
 (.skip))))
 ((.seq (.reg [.op (.fa 88 (.t 1) 4 1),.op (.ld 89 (.t 88) 1 false),.op (.mv 90 (.t 3)),.op (.sl 91 (.t 89) none (some (.t 90)) 5),.op (.mkf 92 mutex_validC1 [] [(.t 4)]),.op (.call (some 93) slices_ContainsFunc_api_Waiter_api_Waiter [(.t 91),(.t 92)])])
 (.ite (.t 93)
 ((.seq (.reg [.op (.mv 2 (.k (.b false)))])
 (.seq (.keep [2]) .ret)))
 (.skip)))))))))
 (.reg [.op (.bin 94 .add (.t 63) (.k (.i .i64 1))),.op (.mv 63 (.t 94))]))))))
def F_mutex_valid : F := .mk
 ((.seq (.reg [.op (.box 1 (.t 0) 9 true),.op (.mv 2 (.k (.b false)))])
 ((.seq ((.seq (.reg [.op (.fa 5 (.t 1) 0 1),.op (.ld 6 (.t 5) 1 false),.op (.bin 7 .neq (.t 6) (.k (.i .i64 (-1)))),.op (.mv 8 (.t 7)),.sc false 13 8 [.op (.fa 9 (.t 1) 0 1),.op (.ld 10 (.t 9) 1 false),.op (.call (some 11) mutex_isTask [(.t 10)]),.op (.un 12 .not (.t 11))] (.t 12),.op (.mv 14 (.t 13)),.sc true 24 14 [.op (.fa 15 (.t 1) 0 1),.op (.ld 16 (.t 15) 1 false),.op (.bin 17 .eql (.t 16) (.k (.i .i64 (-1)))),.op (.mv 18 (.t 17)),.sc false 23 18 [.op (.fa 19 (.t 1) 4 1),.op (.ld 20 (.t 19) 1 false),.op (.len 21 (.t 20) .sl),.op (.bin 22 .gtr (.t 21) k0)] (.t 22)] (.t 23)])
 (.ite (.t 24)
 ((.seq (.reg [.op (.mv 2 (.k (.b false)))])
 (.ret)))
 (.skip))))
 ((.seq ((.seq (.reg [.op (.fa 25 (.t 1) 1 1),.op (.ld 26 (.t 25) 1 false),.op (.bin 27 .neq (.t 26) k0),.op (.mv 28 (.t 27)),.sc true 32 28 [.op (.fa 29 (.t 1) 2 1),.op (.ld 30 (.t 29) 1 false),.op (.bin 31 .neq (.t 30) k0)] (.t 31),.op (.mv 33 (.t 32)),.sc true 37 33 [.op (.fa 34 (.t 1) 8 1),.op (.ld 35 (.t 34) 1 false),.op (.bin 36 .neq (.t 35) k0)] (.t 36),.op (.mv 38 (.t 37)),.sc true 41 38 [.op (.fa 39 (.t 1) 7 1),.op (.ld 40 (.t 39) 1 false)] (.t 40),.op (.mv 42 (.t 41)),.sc true 55 42 [.op (.fa 43 (.t 1) 3 1),.op (.ld 44 (.t 43) 1 false),.op (.len 45 (.t 44) .sl),.op (.fa 46 (.t 1) 5 1),.op (.ld 47 (.t 46) 1 false),.op (.len 48 (.t 47) .sl),.op (.bin 49 .add (.t 45) (.t 48)),.op (.fa 50 (.t 1) 6 1),.op (.ld 51 (.t 50) 1 false),.op (.len 52 (.t 51) .sl),.op (.bin 53 .add (.t 49) (.t 52)),.op (.bin 54 .gtr (.t 53) k0)] (.t 54)])
 (.ite (.t 55)
 ((.seq (.reg [.op (.mv 2 (.k (.b false)))])
 (.ret)))
 (.skip))))
 ((.seq ((.seq (.reg [.op (.fa 56 (.t 1) 4 1),.op (.ld 57 (.t 56) 1 false),.op (.call (some 58) waitlist_Check [(.k (.i .i64 2)),(.t 57)]),.op (.bin 59 .neq (.t 58) k0)])
 (.ite (.t 59)
 ((.seq (.reg [.op (.mv 2 (.k (.b false)))])
 (.ret)))
 (.skip))))
 ((.seq ((.seq (.reg [.op (.fa 60 (.t 1) 4 1),.op (.ld 61 (.t 60) 1 false),.op (.len 62 (.t 61) .sl),.op (.mv 63 k0)])
 (.blk 0 (.loop [1,61,62,63] F_mutex_valid_L0))))
 ((.seq (.reg [.op (.mv 2 (.k (.b true)))])
 (.ret)))))))))))))
 [.t 2] false none
def F_mutex_isTask : F := .mk
 ((.seq (.reg [.op (.mv 2 (.k (.b false)))])
 ((.seq (.reg [.op (.mv 3 (.t 0)),.op (.bin 4 .geq (.t 3) k0),.op (.mv 5 (.t 4)),.sc false 8 5 [.op (.mv 6 (.t 0)),.op (.bin 7 .lss (.t 6) (.k (.i .i64 16)))] (.t 7),.op (.mv 2 (.t 8))])
 (.ret)))))
 [.t 2] false none
def F_rwlock_valid_L0 : C :=
 (.seq (.reg [.op (.bin 55 .lss (.t 54) (.t 53))])
 ((.seq (.ite (.t 55)
 (.skip)
 (.seq (.keep [1]) (.exit 0)))
 ((.seq (.blk 1 ((.seq (.reg [.op (.mv 56 (.t 54)),.op (.ixs 57 (.t 52) (.t 54) 1),.op (.ld 58 (.t 57) 1 false),.op (.mv 3 (.t 56)),.op (.mv 4 (.t 58))])
 ((.seq (.reg [.op (.mv 59 (.t 4)),.op (.call (some 60) rwlock_isTask [(.t 59)]),.op (.un 61 .not (.t 60)),.op (.mv 62 (.t 61)),.sc true 75 62 [.op (.mv 63 (.t 3)),.op (.bin 64 .gtr (.t 63) k0),.op (.mv 65 (.t 64)),.sc false 74 65 [.op (.fa 66 (.t 1) 3 1),.op (.ld 67 (.t 66) 1 false),.op (.mv 68 (.t 3)),.op (.bin 69 .sub (.t 68) (.k (.i .i64 1))),.op (.ixs 70 (.t 67) (.t 69) 1),.op (.ld 71 (.t 70) 1 false),.op (.mv 72 (.t 4)),.op (.bin 73 .geq (.t 71) (.t 72))] (.t 73)] (.t 74)])
 (.ite (.t 75)
 ((.seq (.reg [.op (.mv 2 (.k (.b false)))])
 (.seq (.keep [2]) .ret)))
 (.skip)))))))
 (.reg [.op (.bin 76 .add (.t 54) (.k (.i .i64 1))),.op (.mv 54 (.t 76))]))))))
def F_rwlock_valid : F := .mk
 ((.seq (.reg [.op (.box 1 (.t 0) 9 true),.op (.mv 2 (.k (.b false)))])
 ((.seq ((.seq (.reg [.op (.fa 5 (.t 1) 0 1),.op (.ld 6 (.t 5) 1 false),.op (.bin 7 .neq (.t 6) (.k (.i .i64 (-1)))),.op (.mv 8 (.t 7)),.sc false 19 8 [.op (.fa 9 (.t 1) 0 1),.op (.ld 10 (.t 9) 1 false),.op (.call (some 11) rwlock_isTask [(.t 10)]),.op (.un 12 .not (.t 11)),.op (.mv 13 (.t 12)),.sc true 18 13 [.op (.fa 14 (.t 1) 3 1),.op (.ld 15 (.t 14) 1 false),.op (.len 16 (.t 15) .sl),.op (.bin 17 .gtr (.t 16) k0)] (.t 17)] (.t 18),.op (.mv 20 (.t 19)),.sc true 24 20 [.op (.fa 21 (.t 1) 1 1),.op (.ld 22 (.t 21) 1 false),.op (.bin 23 .neq (.t 22) k0)] (.t 23),.op (.mv 25 (.t 24)),.sc true 29 25 [.op (.fa 26 (.t 1) 2 1),.op (.ld 27 (.t 26) 1 false),.op (.bin 28 .neq (.t 27) k0)] (.t 28),.op (.mv 30 (.t 29)),.sc true 35 30 [.op (.fa 31 (.t 1) 5 1),.op (.ld 32 (.t 31) 1 false),.op (.len 33 (.t 32) .sl),.op (.bin 34 .gtr (.t 33) k0)] (.t 34),.op (.mv 36 (.t 35)),.sc true 41 36 [.op (.fa 37 (.t 1) 6 1),.op (.ld 38 (.t 37) 1 false),.op (.len 39 (.t 38) .sl),.op (.bin 40 .gtr (.t 39) k0)] (.t 40),.op (.mv 42 (.t 41)),.sc true 45 42 [.op (.fa 43 (.t 1) 7 1),.op (.ld 44 (.t 43) 1 false)] (.t 44),.op (.mv 46 (.t 45)),.sc true 50 46 [.op (.fa 47 (.t 1) 8 1),.op (.ld 48 (.t 47) 1 false),.op (.bin 49 .neq (.t 48) k0)] (.t 49)])
 (.ite (.t 50)
 ((.seq (.reg [.op (.mv 2 (.k (.b false)))])
 (.ret)))
 (.skip))))
 ((.seq ((.seq (.reg [.op (.fa 51 (.t 1) 3 1),.op (.ld 52 (.t 51) 1 false),.op (.len 53 (.t 52) .sl),.op (.mv 54 k0)])
 (.blk 0 (.loop [1,52,53,54] F_rwlock_valid_L0))))
 ((.seq (.reg [.op (.ld 77 (.t 1) 9 true),.op (.call (some 78) rwlock_queued [(.t 77)]),.op (.mv 2 (.t 78))])
 (.ret)))))))))
 [.t 2] false none
def F_rwlock_isTask : F := .mk
 ((.seq (.reg [.op (.mv 2 (.k (.b false)))])
 ((.seq (.reg [.op (.mv 3 (.t 0)),.op (.bin 4 .geq (.t 3) k0),.op (.mv 5 (.t 4)),.sc false 8 5 [.op (.mv 6 (.t 0)),.op (.bin 7 .lss (.t 6) (.k (.i .i64 16)))] (.t 7),.op (.mv 2 (.t 8))])
 (.ret)))))
 [.t 2] false none
def F_waitlist_Find_L0 : C :=
 (.seq (.reg [.op (.bin 11 .lss (.t 10) (.t 9))])
 ((.seq (.ite (.t 11)
 (.skip)
 (.seq (.keep []) (.exit 0)))
 ((.seq (.blk 1 ((.seq (.reg [.op (.mv 12 (.t 10)),.op (.ixs 13 (.t 8) (.t 10) 5),.op (.ld 14 (.t 13) 5 true),.op (.new 7 zQ),.op (.mv 6 (.t 12)),.op (.st (.t 7) (.t 14) 5 true)])
 ((.seq (.reg [.op (.fa 15 (.t 7) 0 1),.op (.ld 16 (.t 15) 1 false),.op (.mv 17 (.t 1)),.op (.bin 18 .eql (.t 16) (.t 17))])
 (.ite (.t 18)
 ((.seq (.reg [.op (.mv 19 (.t 6)),.op (.mv 4 (.t 19)),.op (.mv 5 (.k (.b true)))])
 (.seq (.keep [4,5]) .ret)))
 (.skip)))))))
 (.reg [.op (.bin 20 .add (.t 10) (.k (.i .i64 1))),.op (.mv 10 (.t 20))]))))))
def F_waitlist_Find : F := .mk
 ((.seq (.reg [.op (.mv 4 k0),.op (.mv 5 (.k (.b false)))])
 ((.seq ((.seq (.reg [.op (.mv 8 (.t 0)),.op (.len 9 (.t 8) .sl),.op (.mv 10 k0)])
 (.blk 0 (.loop [1,8,9,10] F_waitlist_Find_L0))))
 ((.seq (.reg [.op (.mv 4 k0),.op (.mv 5 (.k (.b false)))])
 (.ret)))))))
 [.t 4,.t 5] false none
def F_rwlock_changed : F := .mk
 ((.seq (.reg [.op (.box 1 (.t 0) 9 false),.op (.mv 2 (.k .nil))])
 ((.seq (.drw [] [0,1,3,4,2,6,5,7,8,9] [.op (.fa 3 (.t 1) 3 1),.op (.ld 4 (.t 3) 1 false),.op (.fa 6 (.t 1) 4 1),.op (.ld 7 (.t 6) 1 false),.op (.callk (some 5) slices_Clone_int_int [(.t 4)]),.re (.fa 6 (.t 1) 4 1),.re (.ld 7 (.t 6) 1 false),.op (.fa 9 (.t 1) 3 1),.op (.callk (some 8) slices_Clone_api_Waiter_api_Waiter [(.t 7)]),.re (.fa 9 (.t 1) 3 1),.op (.st (.t 9) (.t 5) 1 false),.op (.fa 10 (.t 1) 4 1),.op (.st (.t 10) (.t 8) 1 false)])
 ((.seq (.reg [.op (.ld 11 (.t 1) 9 true),.op (.build 12 [(.i .i64 0),(.i .i64 0),(.i .i64 0),(.sl 1 true []),(.sl 5 true []),(.sl 1 true []),(.sl 2 true []),(.b false),(.i .i64 0),(.sl 5 true [])] [(0,9,(.t 11))]),.op (.box 13 (.t 12) 10 true),.op (.mv 2 (.t 13))])
 (.ret)))))))
 [.t 2] false none
def F_rwlock_holds : F := .mk
 ((.seq (.reg [.op (.box 2 (.t 0) 9 true),.op (.mv 4 k0)])
 ((.seq (.blk 0 ((.seq (.reg [.op (.mv 6 (.t 1)),.op (.bin 7 .geq (.t 6) k0),.op (.mv 8 (.t 7)),.sc false 13 8 [.op (.mv 9 (.t 1)),.op (.fa 10 (.t 2) 0 1),.op (.ld 11 (.t 10) 1 false),.op (.bin 12 .eql (.t 9) (.t 11))] (.t 12),.op (.mv 5 (.t 13))])
 (.ite (.t 5)
 ((.seq (.reg [.op (.mv 4 (.k (.i .i64 2)))])
 (.ret)))
 ((.seq (.reg [.op (.fa 15 (.t 2) 3 1),.op (.ld 16 (.t 15) 1 false),.op (.mv 17 (.t 1)),.op (.call (some 18) slices_Contains_int_int [(.t 16),(.t 17)]),.op (.mv 14 (.t 18))])
 (.ite (.t 14)
 ((.seq (.reg [.op (.mv 4 (.k (.i .i64 1)))])
 (.ret)))
 (.skip))))))))
 ((.seq (.reg [.op (.mv 4 k0)])
 (.ret)))))))
 [.t 4] false none
def F_rwlock_lock_free : F := .mk
 ((.seq (.reg [.op (.mv 2 (.k (.b false)))])
 ((.seq (.reg [.op (.mv 3 (.t 0)),.op (.call (some 4) rwlock_lock_writes [(.t 3)]),.op (.un 5 .not (.t 4)),.op (.mv 6 (.t 5)),.sc false 14 6 [.op (.mv 7 (.t 0)),.op (.nck 8 (.t 7)),.op (.fa 9 (.t 8) 0 9),.op (.fa 10 (.t 9) 3 1),.op (.ld 11 (.t 10) 1 false),.op (.len 12 (.t 11) .sl),.op (.bin 13 .eql (.t 12) k0)] (.t 13),.op (.mv 2 (.t 14))])
 (.ret)))))
 [.t 2] false none
def F_rwlock_lock_writes : F := .mk
 ((.seq (.reg [.op (.mv 2 (.k (.b false)))])
 ((.seq (.reg [.op (.mv 3 (.t 0)),.op (.nck 4 (.t 3)),.op (.fa 5 (.t 4) 0 9),.op (.fa 6 (.t 5) 0 1),.op (.ld 7 (.t 6) 1 false),.op (.bin 8 .neq (.t 7) (.k (.i .i64 (-1)))),.op (.mv 2 (.t 8))])
 (.ret)))))
 [.t 2] false none
def F_rwlock_lock_serve_L0 : C :=
 (.seq ((.seq (.reg [.op (.mv 3 (.t 0)),.op (.nck 4 (.t 3)),.op (.fa 5 (.t 4) 0 9),.op (.fa 6 (.t 5) 4 1),.op (.ld 7 (.t 6) 1 false),.op (.len 8 (.t 7) .sl),.op (.bin 9 .gtr (.t 8) k0)])
 (.ite (.t 9)
 (.skip)
 (.seq (.keep []) (.exit 0)))))
 (.blk 1 ((.seq (.reg [.op (.mv 10 (.t 0)),.op (.nck 11 (.t 10)),.op (.fa 12 (.t 11) 0 9),.op (.fa 13 (.t 12) 4 1),.op (.ld 14 (.t 13) 1 false),.op (.ixs 15 (.t 14) k0 5),.op (.ld 16 (.t 15) 5 true),.op (.new 2 zQ),.op (.st (.t 2) (.t 16) 5 true)])
 ((.seq (.blk 2 ((.seq ((.seq (.reg [.op (.mv 18 (.t 0)),.op (.call (some 19) rwlock_lock_writes [(.t 18)]),.op (.mv 17 (.t 19))])
 (.ite (.t 17)
 (.skip)
 (.reg [.op (.fa 20 (.t 2) 1 1),.op (.ld 21 (.t 20) 1 false),.op (.bin 22 .eql (.t 21) (.k (.i .i64 55))),.op (.mv 23 (.t 22)),.sc false 27 23 [.op (.mv 24 (.t 0)),.op (.call (some 25) rwlock_lock_free [(.t 24)]),.op (.un 26 .not (.t 25))] (.t 26),.op (.mv 17 (.t 27))]))))
 (.ite (.t 17)
 (.seq (.keep []) (.exit 0))
 (.skip)))))
 ((.seq (.reg [.op (.mv 28 (.t 0)),.op (.mv 29 (.t 0)),.op (.nck 30 (.t 29)),.op (.fa 31 (.t 30) 0 9),.op (.fa 32 (.t 31) 4 1),.op (.ld 33 (.t 32) 1 false),.op (.sl 34 (.t 33) (some (.k (.i .i64 1))) none 5),.op (.nck 35 (.t 28)),.op (.fa 36 (.t 35) 0 9),.op (.fa 37 (.t 36) 4 1),.op (.st (.t 37) (.t 34) 1 false)])
 ((.seq (.reg [.op (.mv 38 (.t 0)),.op (.fa 39 (.t 2) 0 1),.op (.ld 40 (.t 39) 1 false),.op (.fa 41 (.t 2) 1 1),.op (.ld 42 (.t 41) 1 false),.op (.call (some 43) rwlock_lock_grant [(.t 38),(.t 40),(.t 42)])])
 (.drw [] [0,1,2,3,4,5,6,7,8,9,10,11,12,13,14] [.op (.mv 44 (.t 0)),.op (.mv 45 (.t 0)),.op (.nck 46 (.t 45)),.op (.fa 47 (.t 46) 9 1),.op (.ld 48 (.t 47) 1 false),.op (.fad 49 (.t 2) 0 1),.op (.ldd 50 (.t 49) 1 false),.op (.fad 51 (.t 2) 1 1),.op (.ldd 52 (.t 51) 1 false),.op (.build 53 [(.i .i64 0),(.i .i64 0),(.i .i64 0),(.b false),(.i .i64 0)] [(0,1,(.t 50)),(1,1,(.t 52)),(3,1,(.k (.b true))),(4,1,(.k (.i .i64 (-1))))]),.op (.buildSl 54 5 1 [(.i .i64 0),(.i .i64 0),(.i .i64 0),(.b false),(.i .i64 0)] [(0,(.t 53))] true),.op (.app 55 (.t 48) (.t 54) 5),.op (.nck 56 (.t 44)),.op (.fa 57 (.t 56) 9 1),.op (.st (.t 57) (.t 55) 1 false)])))))))))))
def F_rwlock_lock_serve : F := .mk
 ((.seq .skip ((.seq (.skip)
 (.blk 0 (.loop [0] F_rwlock_lock_serve_L0))))))
 [] false none
def F_waitlist_Check_L0 : C :=
 (.seq (.reg [.op (.bin 19 .lss (.t 18) (.t 17))])
 ((.seq (.ite (.t 19)
 (.skip)
 (.seq (.keep []) (.exit 0)))
 ((.seq (.blk 1 ((.seq (.reg [.op (.mv 20 (.t 18)),.op (.ixs 21 (.t 16) (.t 18) 5),.op (.ld 22 (.t 21) 5 true),.op (.new 6 zQ),.op (.mv 5 (.t 20)),.op (.st (.t 6) (.t 22) 5 true)])
 ((.seq ((.seq (.reg [.op (.ld 23 (.t 6) 5 true),.op (.call (some 24) waitlist_valid [(.t 23)]),.op (.un 25 .not (.t 24))])
 (.ite (.t 25)
 ((.seq (.reg [.op (.mv 4 (.k (.i .i64 2)))])
 (.seq (.keep [4]) .ret)))
 (.skip))))
 ((.seq (.drw [] [0,1,2,3,4,5,6,7,8,9,10,11,12,13,14,15,16] [.op (.mv 26 (.t 0)),.op (.bin 27 .eql (.t 26) (.k (.i .i64 2))),.op (.mv 28 (.t 27)),.sc false 31 28 [.op (.mv 29 (.t 5)),.op (.bin 30 .gtr (.t 29) k0)] (.t 30),.op (.mv 32 (.t 31)),.sc false 42 32 [.op (.fad 33 (.t 6) 3 1),.op (.ldd 34 (.t 33) 1 false),.op (.mv 35 (.t 1)),.op (.mv 36 (.t 5)),.op (.bin 37 .sub (.t 36) (.k (.i .i64 1))),.op (.ixs 38 (.t 35) (.t 37) 5),.op (.fa 39 (.t 38) 3 1),.op (.ld 40 (.t 39) 1 false),.op (.bin 41 .gtr (.t 34) (.t 40))] (.t 41)])
 (.ite (.t 42)
 ((.seq (.reg [.op (.mv 4 (.k (.i .i64 9)))])
 (.seq (.keep [4]) .ret)))
 (.skip)))))))))
 (.reg [.op (.bin 43 .add (.t 18) (.k (.i .i64 1))),.op (.mv 18 (.t 43))]))))))
def F_waitlist_Check : F := .mk
 ((.seq (.reg [.op (.mv 4 k0)])
 ((.seq ((.seq (.reg [.op (.mv 7 (.t 0)),.op (.bin 8 .neq (.t 7) (.k (.i .i64 1))),.op (.mv 9 (.t 8)),.sc false 12 9 [.op (.mv 10 (.t 0)),.op (.bin 11 .neq (.t 10) (.k (.i .i64 2)))] (.t 11)])
 (.ite (.t 12)
 ((.seq (.reg [.op (.mv 4 (.k (.i .i64 8)))])
 (.ret)))
 (.skip))))
 ((.seq ((.seq (.reg [.op (.mv 13 (.t 1)),.op (.len 14 (.t 13) .sl),.op (.bin 15 .gtr (.t 14) (.k (.i .i64 96)))])
 (.ite (.t 15)
 ((.seq (.reg [.op (.mv 4 (.k (.i .i64 4)))])
 (.ret)))
 (.skip))))
 ((.seq ((.seq (.reg [.op (.mv 16 (.t 1)),.op (.len 17 (.t 16) .sl),.op (.mv 18 k0)])
 (.blk 0 (.loop [0,1,16,17,18] F_waitlist_Check_L0))))
 ((.seq (.reg [.op (.mv 4 k0)])
 (.ret)))))))))))
 [.t 4] false none
def F_semaphore_waits : F := .mk
 ((.seq (.reg [.op (.box 3 (.t 0) 4 true),.op (.box 4 (.t 1) 9 true),.op (.mv 6 (.k (.b false)))])
 ((.seq (.reg [.op (.fa 10 (.t 4) 4 1),.op (.ld 11 (.t 10) 1 false),.op (.mv 12 (.t 2)),.op (.ixs 13 (.t 11) (.t 12) 5),.op (.ld 14 (.t 13) 5 true),.op (.new 7 zQ),.op (.st (.t 7) (.t 14) 5 true)])
 ((.seq ((.seq (.reg [.op (.fa 15 (.t 7) 1 1),.op (.ld 16 (.t 15) 1 false),.op (.bin 17 .neq (.t 16) (.k (.i .i64 60))),.op (.mv 18 (.t 17)),.sc true 22 18 [.op (.fa 19 (.t 7) 2 1),.op (.ld 20 (.t 19) 1 false),.op (.bin 21 .lss (.t 20) (.k (.i .i64 1)))] (.t 21),.op (.mv 23 (.t 22)),.sc true 29 23 [.op (.fa 24 (.t 7) 2 1),.op (.ld 25 (.t 24) 1 false),.op (.fa 26 (.t 3) 2 1),.op (.ld 27 (.t 26) 1 false),.op (.bin 28 .gtr (.t 25) (.t 27))] (.t 28),.op (.mv 30 (.t 29)),.sc true 34 30 [.op (.fa 31 (.t 7) 4 1),.op (.ld 32 (.t 31) 1 false),.op (.bin 33 .neq (.t 32) (.k (.i .i64 (-1))))] (.t 33)])
 (.ite (.t 34)
 ((.seq (.reg [.op (.mv 6 (.k (.b false)))])
 (.ret)))
 (.skip))))
 ((.seq ((.seq (.reg [.op (.fa 36 (.t 4) 4 1),.op (.ld 37 (.t 36) 1 false),.op (.fa 38 (.t 7) 0 1),.op (.ld 39 (.t 38) 1 false),.op (.call (some 40) waitlist_Find [(.t 37),(.t 39)]),.op (.mv 35 (.t 40)),.op (.ext 41 (.t 35) 0),.op (.ext 42 (.t 35) 1),.op (.mv 8 (.t 41)),.op (.mv 9 (.t 42))])
 ((.seq (.reg [.op (.mv 43 (.t 8)),.op (.mv 44 (.t 2)),.op (.bin 45 .neq (.t 43) (.t 44))])
 (.ite (.t 45)
 ((.seq (.reg [.op (.mv 6 (.k (.b false)))])
 (.ret)))
 (.skip))))))
 ((.seq (.reg [.op (.mv 46 (.t 2)),.op (.bin 47 .gtr (.t 46) k0),.op (.mv 48 (.t 47)),.sc false 52 48 [.op (.fa 49 (.t 3) 3 1),.op (.ld 50 (.t 49) 1 false),.op (.bin 51 .eql (.t 50) k0)] (.t 51),.op (.mv 53 (.t 52)),.sc true 59 53 [.op (.fa 54 (.t 7) 2 1),.op (.ld 55 (.t 54) 1 false),.op (.fa 56 (.t 4) 1 1),.op (.ld 57 (.t 56) 1 false),.op (.bin 58 .gtr (.t 55) (.t 57))] (.t 58),.op (.mv 6 (.t 59))])
 (.ret)))))))))))
 [.t 6] false none
def F_waitlist_Tasks_L0 : C :=
 (.seq (.reg [.op (.bin 12 .lss (.t 11) (.t 10))])
 ((.seq (.ite (.t 12)
 (.skip)
 (.seq (.keep [4]) (.exit 0)))
 ((.seq (.blk 1 ((.seq (.reg [.op (.mv 13 (.t 11)),.op (.ixs 14 (.t 9) (.t 11) 5),.op (.ld 15 (.t 14) 5 true),.op (.new 6 zQ),.op (.mv 5 (.t 13)),.op (.st (.t 6) (.t 15) 5 true)])
 ((.seq ((.seq (.reg [.op (.fa 16 (.t 6) 0 1),.op (.ld 17 (.t 16) 1 false),.op (.bin 18 .geq (.t 17) k0),.op (.mv 19 (.t 18)),.sc false 23 19 [.op (.fa 20 (.t 6) 0 1),.op (.ld 21 (.t 20) 1 false),.op (.bin 22 .lss (.t 21) (.k (.i .i64 16)))] (.t 22)])
 (.ite (.t 23)
 ((.seq ((.seq (.reg [.op (.fa 24 (.t 6) 0 1),.op (.ld 25 (.t 24) 1 false),.op (.ixa 26 (.t 3) (.t 25) 16 1),.op (.ld 27 (.t 26) 1 false)])
 (.ite (.t 27)
 (.seq (.keep [0,3,4,9,10,11]) (.exit 1))
 (.skip))))
 (.reg [.op (.fa 28 (.t 6) 0 1),.op (.ld 29 (.t 28) 1 false),.op (.ixa 30 (.t 3) (.t 29) 16 1),.op (.st (.t 30) (.k (.b true)) 1 false)])))
 ((.seq (.reg [.op (.mv 32 (.t 0)),.op (.fa 33 (.t 6) 0 1),.op (.ld 34 (.t 33) 1 false),.op (.call (some 35) waitlist_Find [(.t 32),(.t 34)]),.op (.mv 31 (.t 35)),.op (.ext 36 (.t 31) 0),.op (.ext 37 (.t 31) 1),.op (.mv 7 (.t 36)),.op (.mv 8 (.t 37))])
 ((.seq (.reg [.op (.mv 38 (.t 7)),.op (.mv 39 (.t 5)),.op (.bin 40 .lss (.t 38) (.t 39))])
 (.ite (.t 40)
 (.seq (.keep [0,3,4,9,10,11]) (.exit 1))
 (.skip)))))))))
 (.reg [.op (.mv 41 (.t 4)),.op (.fa 42 (.t 6) 0 1),.op (.ld 43 (.t 42) 1 false),.op (.buildSl 44 1 1 [(.i .i64 0)] [(0,(.t 43))] true),.op (.app 45 (.t 41) (.t 44) 1),.op (.mv 4 (.t 45))]))))))
 (.reg [.op (.bin 46 .add (.t 11) (.k (.i .i64 1))),.op (.mv 11 (.t 46))]))))))
def F_waitlist_Tasks : F := .mk
 ((.seq (.reg [.op (.mv 2 (.k (.sl 1 true [])))])
 ((.seq (.reg [.op (.new 3 [(.b false),(.b false),(.b false),(.b false),(.b false),(.b false),(.b false),(.b false),(.b false),(.b false),(.b false),(.b false),(.b false),(.b false),(.b false),(.b false)])])
 ((.seq (.reg [.op (.mv 4 (.k (.sl 1 true [])))])
 ((.seq ((.seq (.reg [.op (.mv 9 (.t 0)),.op (.len 10 (.t 9) .sl),.op (.mv 11 k0)])
 (.blk 0 (.loop [0,3,4,9,10,11] F_waitlist_Tasks_L0))))
 ((.seq (.reg [.op (.mv 47 (.t 4)),.op (.mv 2 (.t 47))])
 (.ret)))))))))))
 [.t 2] false none
def F_slices_Clone_api_Waiter_api_Waiter : F := .mk
 ((.seq (.reg [.op (.mv 2 (.k (.sl 5 true [])))])
 ((.seq ((.seq (.reg [.op (.mv 3 (.t 0)),.op (.isnil 4 false (.t 3) .sl)])
 (.ite (.t 4)
 ((.seq (.reg [.op (.mv 2 (.k (.sl 5 true [])))])
 (.ret)))
 (.skip))))
 ((.seq (.reg [.op (.buildSl 5 5 0 zQ [] false),.op (.mv 6 (.t 0)),.op (.app 7 (.t 5) (.t 6) 5),.op (.mv 2 (.t 7))])
 (.ret)))))))
 [.t 2] true none
def F_channel_valid_L0 : C :=
 (.seq (.reg [.op (.bin 55 .lss (.t 54) (.t 53))])
 ((.seq (.ite (.t 55)
 (.skip)
 (.seq (.keep [2,3]) (.exit 0)))
 ((.seq (.blk 1 ((.seq (.reg [.op (.mv 56 (.t 54)),.op (.mv 5 (.t 56))])
 ((.seq (.reg [.op (.fa 57 (.t 3) 4 1),.op (.ld 58 (.t 57) 1 false),.op (.mv 59 (.t 5)),.op (.call (some 60) channel_fine [(.t 58),(.t 59)]),.op (.un 61 .not (.t 60))])
 (.ite (.t 61)
 ((.seq (.reg [.op (.mv 4 (.k (.b false)))])
 (.seq (.keep [4]) .ret)))
 (.skip)))))))
 (.reg [.op (.bin 62 .add (.t 54) (.k (.i .i64 1))),.op (.mv 54 (.t 62))]))))))
def F_channel_valid : F := .mk
 ((.seq (.reg [.op (.box 2 (.t 0) 4 true),.op (.box 3 (.t 1) 9 true),.op (.mv 4 (.k (.b false)))])
 ((.seq ((.seq (.reg [.op (.fa 6 (.t 3) 0 1),.op (.ld 7 (.t 6) 1 false),.op (.bin 8 .neq (.t 7) (.k (.i .i64 (-1)))),.op (.mv 9 (.t 8)),.sc true 13 9 [.op (.fa 10 (.t 3) 1 1),.op (.ld 11 (.t 10) 1 false),.op (.bin 12 .neq (.t 11) k0)] (.t 12),.op (.mv 14 (.t 13)),.sc true 18 14 [.op (.fa 15 (.t 3) 2 1),.op (.ld 16 (.t 15) 1 false),.op (.bin 17 .neq (.t 16) k0)] (.t 17),.op (.mv 19 (.t 18)),.sc true 23 19 [.op (.fa 20 (.t 3) 8 1),.op (.ld 21 (.t 20) 1 false),.op (.bin 22 .neq (.t 21) k0)] (.t 22),.op (.mv 24 (.t 23)),.sc true 33 24 [.op (.fa 25 (.t 3) 3 1),.op (.ld 26 (.t 25) 1 false),.op (.len 27 (.t 26) .sl),.op (.fa 28 (.t 3) 6 1),.op (.ld 29 (.t 28) 1 false),.op (.len 30 (.t 29) .sl),.op (.bin 31 .add (.t 27) (.t 30)),.op (.bin 32 .gtr (.t 31) k0)] (.t 32),.op (.mv 34 (.t 33)),.sc true 41 34 [.op (.fa 35 (.t 3) 5 1),.op (.ld 36 (.t 35) 1 false),.op (.len 37 (.t 36) .sl),.op (.fa 38 (.t 2) 2 1),.op (.ld 39 (.t 38) 1 false),.op (.bin 40 .gtr (.t 37) (.t 39))] (.t 40)])
 (.ite (.t 41)
 ((.seq (.reg [.op (.mv 4 (.k (.b false)))])
 (.ret)))
 (.skip))))
 ((.seq ((.seq (.reg [.op (.fa 42 (.t 3) 5 1),.op (.ld 43 (.t 42) 1 false),.op (.call (some 44) slices_ContainsFunc_int_int [(.t 43),(.k (.fn channel_validC1 [] []))]),.op (.mv 45 (.t 44)),.sc true 50 45 [.op (.fa 46 (.t 3) 4 1),.op (.ld 47 (.t 46) 1 false),.op (.call (some 48) waitlist_Check [(.k (.i .i64 1)),(.t 47)]),.op (.bin 49 .neq (.t 48) k0)] (.t 49)])
 (.ite (.t 50)
 ((.seq (.reg [.op (.mv 4 (.k (.b false)))])
 (.ret)))
 (.skip))))
 ((.seq ((.seq (.reg [.op (.fa 51 (.t 3) 4 1),.op (.ld 52 (.t 51) 1 false),.op (.len 53 (.t 52) .sl),.op (.mv 54 k0)])
 (.blk 0 (.loop [2,3,53,54] F_channel_valid_L0))))
 ((.seq (.reg [.op (.fa 63 (.t 3) 7 1),.op (.ld 64 (.t 63) 1 false),.op (.un 65 .not (.t 64)),.op (.mv 66 (.t 65)),.sc true 71 66 [.op (.fa 67 (.t 3) 4 1),.op (.ld 68 (.t 67) 1 false),.op (.len 69 (.t 68) .sl),.op (.bin 70 .eql (.t 69) k0)] (.t 70),.op (.mv 72 (.t 71)),.sc false 77 72 [.op (.ld 73 (.t 2) 4 true),.op (.ld 74 (.t 3) 9 true),.op (.call (some 75) channel_vain [(.t 73),(.t 74)]),.op (.un 76 .not (.t 75))] (.t 76),.op (.mv 4 (.t 77))])
 (.ret)))))))))))
 [.t 4] false none
def F_channel_number : F := .mk
 ((.seq (.reg [.op (.mv 2 (.k (.b false)))])
 ((.seq (.reg [.op (.mv 3 (.t 0)),.op (.bin 4 .geq (.t 3) (.k (.i .i64 (-1099511627776)))),.op (.mv 5 (.t 4)),.sc false 8 5 [.op (.mv 6 (.t 0)),.op (.bin 7 .leq (.t 6) (.k (.i .i64 1099511627776)))] (.t 7),.op (.mv 2 (.t 8))])
 (.ret)))))
 [.t 2] false none
def F_topic_cursors_L0 : C :=
 (.seq (.reg [.op (.bin 50 .lss (.t 49) (.t 48))])
 ((.seq (.ite (.t 50)
 (.skip)
 (.seq (.keep [0,1,9,10,11]) (.exit 2)))
 ((.seq (.blk 3 ((.seq (.reg [.op (.ixs 51 (.t 47) (.t 49) 1),.op (.ld 52 (.t 51) 1 false),.op (.mv 8 (.t 52))])
 ((.seq (.reg [.op (.mv 53 (.t 8)),.op (.call (some 54) topic_number [(.t 53)]),.op (.un 55 .not (.t 54))])
 (.ite (.t 55)
 ((.seq (.reg [.op (.mv 4 (.k (.b false)))])
 (.seq (.keep [4]) .ret)))
 (.skip)))))))
 (.reg [.op (.bin 56 .add (.t 49) (.k (.i .i64 1))),.op (.mv 49 (.t 56))]))))))
def F_topic_cursors_L1 : C :=
 (.seq (.reg [.op (.bin 12 .lss (.t 11) (.t 10))])
 ((.seq (.ite (.t 12)
 (.skip)
 (.seq (.keep []) (.exit 0)))
 ((.seq (.blk 1 ((.seq (.reg [.op (.mv 13 (.t 11)),.op (.ixs 14 (.t 9) (.t 11) 2),.op (.ld 15 (.t 14) 2 true),.op (.new 6 [(.i .i64 0),(.sl 1 true [])]),.op (.mv 5 (.t 13)),.op (.st (.t 6) (.t 15) 2 true)])
 ((.seq ((.seq (.drw [] [0,1,2,3,4,5,6,7,8,9,10,11,12,13,14,15,16,17,18,19,20,21,22,23,24,25,26,27,28,29] [.op (.fad 16 (.t 6) 0 1),.op (.ldd 17 (.t 16) 1 false),.op (.bin 18 .lss (.t 17) k0),.op (.mv 19 (.t 18)),.sc true 23 19 [.op (.fad 20 (.t 6) 0 1),.op (.ldd 21 (.t 20) 1 false),.op (.bin 22 .geq (.t 21) (.k (.i .i64 16)))] (.t 22),.op (.mv 24 (.t 23)),.sc true 38 24 [.op (.mv 25 (.t 5)),.op (.bin 26 .gtr (.t 25) k0),.op (.mv 27 (.t 26)),.sc false 37 27 [.op (.mv 28 (.t 1)),.op (.mv 29 (.t 5)),.op (.bin 30 .sub (.t 29) (.k (.i .i64 1))),.op (.ixs 31 (.t 28) (.t 30) 2),.op (.fa 32 (.t 31) 0 1),.op (.ld 33 (.t 32) 1 false),.op (.fad 34 (.t 6) 0 1),.op (.ldd 35 (.t 34) 1 false),.op (.bin 36 .geq (.t 33) (.t 35))] (.t 36)] (.t 37),.op (.mv 39 (.t 38)),.sc true 45 39 [.op (.fad 40 (.t 6) 1 1),.op (.ldd 41 (.t 40) 1 false),.op (.len 42 (.t 41) .sl),.op (.mv 43 (.t 0)),.op (.bin 44 .gtr (.t 42) (.t 43))] (.t 44)])
 (.ite (.t 45)
 ((.seq (.reg [.op (.mv 4 (.k (.b false)))])
 (.seq (.keep [4]) .ret)))
 (.skip))))
 ((.seq (.reg [.op (.fa 46 (.t 6) 1 1),.op (.ld 47 (.t 46) 1 false),.op (.len 48 (.t 47) .sl),.op (.mv 49 k0)])
 (.blk 2 (.loop [0,1,9,10,11,47,48,49] F_topic_cursors_L0)))))))))
 (.reg [.op (.bin 57 .add (.t 11) (.k (.i .i64 1))),.op (.mv 11 (.t 57))]))))))
def F_topic_cursors : F := .mk
 ((.seq (.reg [.op (.mv 4 (.k (.b false)))])
 ((.seq ((.seq (.reg [.op (.mv 9 (.t 1)),.op (.len 10 (.t 9) .sl),.op (.mv 11 k0)])
 (.blk 0 (.loop [0,1,9,10,11] F_topic_cursors_L1))))
 ((.seq (.reg [.op (.mv 4 (.k (.b true)))])
 (.ret)))))))
 [.t 4] false none
def F_topic_queue_L0 : C :=
 (.seq (.reg [.op (.bin 18 .lss (.t 17) (.t 16))])
 ((.seq (.ite (.t 18)
 (.skip)
 (.seq (.keep []) (.exit 0)))
 ((.seq (.blk 1 ((.seq (.reg [.op (.mv 19 (.t 17)),.op (.ixs 20 (.t 15) (.t 17) 5),.op (.ld 21 (.t 20) 5 true),.op (.new 6 zQ),.op (.mv 5 (.t 19)),.op (.st (.t 6) (.t 21) 5 true)])
 ((.seq ((.seq (.reg [.op (.fa 23 (.t 3) 4 1),.op (.ld 24 (.t 23) 1 false),.op (.fa 25 (.t 6) 0 1),.op (.ld 26 (.t 25) 1 false),.op (.call (some 27) waitlist_Find [(.t 24),(.t 26)]),.op (.mv 22 (.t 27)),.op (.ext 28 (.t 22) 0),.op (.ext 29 (.t 22) 1),.op (.mv 7 (.t 28)),.op (.mv 8 (.t 29))])
 ((.seq (.reg [.op (.mv 30 (.t 7)),.op (.mv 31 (.t 5)),.op (.bin 32 .neq (.t 30) (.t 31)),.op (.mv 33 (.t 32)),.sc true 37 33 [.op (.fa 34 (.t 6) 4 1),.op (.ld 35 (.t 34) 1 false),.op (.bin 36 .neq (.t 35) (.k (.i .i64 (-1))))] (.t 36)])
 (.ite (.t 37)
 ((.seq (.reg [.op (.mv 4 (.k (.b false)))])
 (.seq (.keep [4]) .ret)))
 (.skip))))))
 ((.seq (.reg [.op (.fa 38 (.t 6) 1 1),.op (.ld 39 (.t 38) 1 false)])
 (.blk 2 ((.seq (.reg [.op (.bin 41 .eql (.t 39) (.k (.i .i64 70))),.op (.mv 40 (.t 41))])
 (.ite (.t 40)
 ((.seq (.reg [.op (.ld 42 (.t 3) 9 true),.op (.fa 43 (.t 6) 0 1),.op (.ld 44 (.t 43) 1 false),.op (.call (some 45) topic_find [(.t 42),(.t 44)]),.op (.mv 9 (.t 45))])
 ((.seq (.reg [.op (.mv 46 (.t 9)),.op (.bin 47 .lss (.t 46) k0),.op (.mv 48 (.t 47)),.sc true 57 48 [.op (.fa 49 (.t 3) 6 1),.op (.ld 50 (.t 49) 1 false),.op (.mv 51 (.t 9)),.op (.ixs 52 (.t 50) (.t 51) 2),.op (.fa 53 (.t 52) 1 1),.op (.ld 54 (.t 53) 1 false),.op (.len 55 (.t 54) .sl),.op (.bin 56 .gtr (.t 55) k0)] (.t 56),.op (.mv 58 (.t 57)),.sc true 62 58 [.op (.fa 59 (.t 6) 2 1),.op (.ld 60 (.t 59) 1 false),.op (.bin 61 .neq (.t 60) k0)] (.t 61)])
 (.ite (.t 62)
 ((.seq (.reg [.op (.mv 4 (.k (.b false)))])
 (.seq (.keep [4]) .ret)))
 (.skip))))))
 ((.seq (.reg [.op (.bin 64 .eql (.t 39) (.k (.i .i64 68))),.op (.mv 63 (.t 64))])
 (.ite (.t 63)
 ((.seq (.reg [.op (.mv 65 (.t 0)),.op (.ld 66 (.t 3) 9 true),.op (.call (some 67) topic_full [(.t 65),(.t 66)]),.op (.un 68 .not (.t 67))])
 (.ite (.t 68)
 ((.seq (.reg [.op (.mv 4 (.k (.b false)))])
 (.seq (.keep [4]) .ret)))
 (.skip))))
 ((.seq (.reg [.op (.mv 4 (.k (.b false)))])
 (.seq (.keep [4]) .ret)))))))))))))))))
 (.reg [.op (.bin 69 .add (.t 17) (.k (.i .i64 1))),.op (.mv 17 (.t 69))]))))))
def F_topic_queue : F := .mk
 ((.seq (.reg [.op (.box 3 (.t 1) 9 true),.op (.mv 4 (.k (.b false)))])
 ((.seq ((.seq (.reg [.op (.fa 10 (.t 3) 4 1),.op (.ld 11 (.t 10) 1 false),.op (.call (some 12) waitlist_Check [(.k (.i .i64 1)),(.t 11)]),.op (.bin 13 .neq (.t 12) k0)])
 (.ite (.t 13)
 ((.seq (.reg [.op (.mv 4 (.k (.b false)))])
 (.ret)))
 (.skip))))
 ((.seq ((.seq (.reg [.op (.fa 14 (.t 3) 4 1),.op (.ld 15 (.t 14) 1 false),.op (.len 16 (.t 15) .sl),.op (.mv 17 k0)])
 (.blk 0 (.loop [0,3,15,16,17] F_topic_queue_L0))))
 ((.seq (.reg [.op (.mv 4 (.k (.b true)))])
 (.ret)))))))))
 [.t 4] false none
def F_topic_find : F := .mk
 ((.seq (.reg [.op (.box 2 (.t 0) 9 true),.op (.box 3 (.t 1) 1 true),.op (.mv 4 k0)])
 ((.seq (.reg [.op (.fa 5 (.t 2) 6 1),.op (.ld 6 (.t 5) 1 false),.op (.mkf 7 topic_findC1 [] [(.t 3)]),.op (.call (some 8) slices_IndexFunc_api_Cursor_api_Cursor [(.t 6),(.t 7)]),.op (.mv 4 (.t 8))])
 (.ret)))))
 [.t 4] false none
def F_slices_Delete_api_Cursor_api_Cursor : F := .mk
 ((.seq (.reg [.op (.mv 6 (.k (.sl 2 true [])))])
 ((.seq (.reg [.op (.mv 8 (.t 0)),.op (.mv 9 (.t 1)),.op (.mv 10 (.t 2)),.op (.mv 11 (.t 0)),.op (.len 12 (.t 11) .sl),.op (.sl3 13 (.t 8) (.t 9) (.t 10) (.t 12) 2)])
 ((.seq ((.seq (.reg [.op (.mv 14 (.t 1)),.op (.mv 15 (.t 2)),.op (.bin 16 .eql (.t 14) (.t 15))])
 (.ite (.t 16)
 ((.seq (.reg [.op (.mv 17 (.t 0)),.op (.mv 6 (.t 17))])
 (.ret)))
 (.skip))))
 ((.seq (.reg [.op (.mv 18 (.t 0)),.op (.len 19 (.t 18) .sl),.op (.mv 7 (.t 19))])
 ((.seq (.drw [] [0,1,2,3,4,5,6,7] [.op (.mv 20 (.t 0)),.op (.mv 21 (.t 1)),.op (.sl 22 (.t 20) none (some (.t 21)) 2),.op (.mv 23 (.t 0)),.op (.mv 24 (.t 2)),.op (.sl 25 (.t 23) (some (.t 24)) none 2),.op (.app 26 (.t 22) (.t 25) 2),.op (.mv 0 (.t 26))])
 ((.seq (.reg [.op (.mv 27 (.t 0)),.op (.mv 28 (.t 0)),.op (.len 29 (.t 28) .sl),.op (.mv 30 (.t 7)),.op (.sl 31 (.t 27) (some (.t 29)) (some (.t 30)) 2),.op (.clr none (.t 31) 2 [(.i .i64 0),(.sl 1 true [])])])
 ((.seq (.reg [.op (.mv 32 (.t 0)),.op (.mv 6 (.t 32))])
 (.ret)))))))))))))))
 [.t 6] true none
def F_topic_full : F := .mk
 ((.seq (.reg [.op (.box 2 (.t 0) 1 true),.op (.box 3 (.t 1) 9 true),.op (.mv 4 (.k (.b false)))])
 ((.seq (.reg [.op (.fa 5 (.t 3) 6 1),.op (.ld 6 (.t 5) 1 false),.op (.mkf 7 topic_fullC1 [] [(.t 2),(.t 3)]),.op (.call (some 8) slices_ContainsFunc_api_Cursor_api_Cursor [(.t 6),(.t 7)]),.op (.mv 4 (.t 8))])
 (.ret)))))
 [.t 4] false none
def F_future_cell_valid : F := .mk
 ((.seq (.reg [.op (.box 1 (.t 0) 9 true),.op (.mv 2 (.k (.b false)))])
 ((.seq ((.seq (.reg [.op (.ld 3 (.t 1) 9 true),.op (.call (some 4) future_cell_plain [(.t 3)]),.op (.un 5 .not (.t 4)),.op (.mv 6 (.t 5)),.sc true 12 6 [.op (.fa 7 (.t 1) 0 9),.op (.fa 8 (.t 7) 8 1),.op (.ld 9 (.t 8) 1 false),.op (.call (some 10) future_number [(.t 9)]),.op (.un 11 .not (.t 10))] (.t 11),.op (.mv 13 (.t 12)),.sc true 17 13 [.op (.ld 14 (.t 1) 9 true),.op (.call (some 15) future_cell_queued [(.t 14)]),.op (.un 16 .not (.t 15))] (.t 16)])
 (.ite (.t 17)
 ((.seq (.reg [.op (.mv 2 (.k (.b false)))])
 (.ret)))
 (.skip))))
 ((.seq ((.seq (.reg [.op (.fa 18 (.t 1) 0 9),.op (.fa 19 (.t 18) 7 1),.op (.ld 20 (.t 19) 1 false)])
 (.ite (.t 20)
 ((.seq (.reg [.op (.fa 21 (.t 1) 0 9),.op (.fa 22 (.t 21) 4 1),.op (.ld 23 (.t 22) 1 false),.op (.len 24 (.t 23) .sl),.op (.bin 25 .eql (.t 24) k0),.op (.mv 2 (.t 25))])
 (.ret)))
 (.skip))))
 ((.seq (.reg [.op (.fa 26 (.t 1) 0 9),.op (.fa 27 (.t 26) 8 1),.op (.ld 28 (.t 27) 1 false),.op (.bin 29 .eql (.t 28) k0),.op (.mv 2 (.t 29))])
 (.ret)))))))))
 [.t 2] false none
def F_future_number : F := .mk
 ((.seq (.reg [.op (.mv 2 (.k (.b false)))])
 ((.seq (.reg [.op (.mv 3 (.t 0)),.op (.bin 4 .geq (.t 3) (.k (.i .i64 (-1099511627776)))),.op (.mv 5 (.t 4)),.sc false 8 5 [.op (.mv 6 (.t 0)),.op (.bin 7 .leq (.t 6) (.k (.i .i64 1099511627776)))] (.t 7),.op (.mv 2 (.t 8))])
 (.ret)))))
 [.t 2] false none
def F_mutex_validC1 : F := .mk
 ((.seq (.reg [.op (.box 2 (.t 0) 5 true),.op (.mv 3 (.k (.b false)))])
 ((.seq (.reg [.op (.fa 4 (.t 2) 0 1),.op (.ld 5 (.t 4) 1 false),.op (.fa 6 (.t 1) 0 1),.op (.ld 7 (.t 6) 1 false),.op (.bin 8 .eql (.t 5) (.t 7)),.op (.mv 3 (.t 8))])
 (.ret)))))
 [.t 3] false none
def F_rwlock_queued_L0 : C :=
 (.seq (.reg [.op (.bin 16 .lss (.t 15) (.t 14))])
 ((.seq (.ite (.t 16)
 (.skip)
 (.seq (.keep [1]) (.exit 0)))
 ((.seq (.blk 1 ((.seq (.reg [.op (.mv 17 (.t 15)),.op (.ixs 18 (.t 13) (.t 15) 5),.op (.ld 19 (.t 18) 5 true),.op (.new 4 zQ),.op (.mv 3 (.t 17)),.op (.st (.t 4) (.t 19) 5 true)])
 ((.seq (.reg [.op (.fa 21 (.t 1) 4 1),.op (.ld 22 (.t 21) 1 false),.op (.fa 23 (.t 4) 0 1),.op (.ld 24 (.t 23) 1 false),.op (.call (some 25) waitlist_Find [(.t 22),(.t 24)]),.op (.mv 20 (.t 25)),.op (.ext 26 (.t 20) 0),.op (.ext 27 (.t 20) 1),.op (.mv 5 (.t 26)),.op (.mv 6 (.t 27))])
 ((.seq (.reg [.op (.mv 28 (.t 5)),.op (.mv 29 (.t 3)),.op (.bin 30 .neq (.t 28) (.t 29)),.op (.mv 31 (.t 30)),.sc true 40 31 [.op (.fa 32 (.t 4) 1 1),.op (.ld 33 (.t 32) 1 false),.op (.bin 34 .neq (.t 33) (.k (.i .i64 53))),.op (.mv 35 (.t 34)),.sc false 39 35 [.op (.fa 36 (.t 4) 1 1),.op (.ld 37 (.t 36) 1 false),.op (.bin 38 .neq (.t 37) (.k (.i .i64 55)))] (.t 38)] (.t 39),.op (.mv 41 (.t 40)),.sc true 45 41 [.op (.fa 42 (.t 4) 2 1),.op (.ld 43 (.t 42) 1 false),.op (.bin 44 .neq (.t 43) k0)] (.t 44),.op (.mv 46 (.t 45)),.sc true 50 46 [.op (.fa 47 (.t 4) 4 1),.op (.ld 48 (.t 47) 1 false),.op (.bin 49 .neq (.t 48) (.k (.i .i64 (-1))))] (.t 49),.op (.mv 51 (.t 50)),.sc true 57 51 [.op (.ld 52 (.t 1) 9 true),.op (.fa 53 (.t 4) 0 1),.op (.ld 54 (.t 53) 1 false),.op (.call (some 55) rwlock_holds [(.t 52),(.t 54)]),.op (.bin 56 .neq (.t 55) k0)] (.t 56)])
 (.ite (.t 57)
 ((.seq (.reg [.op (.mv 2 (.k (.b false)))])
 (.seq (.keep [2]) .ret)))
 (.skip)))))))))
 (.reg [.op (.bin 58 .add (.t 15) (.k (.i .i64 1))),.op (.mv 15 (.t 58))]))))))
def F_rwlock_queued : F := .mk
 ((.seq (.reg [.op (.box 1 (.t 0) 9 true),.op (.mv 2 (.k (.b false)))])
 ((.seq ((.seq (.reg [.op (.fa 8 (.t 1) 4 1),.op (.ld 9 (.t 8) 1 false),.op (.call (some 10) waitlist_Check [(.k (.i .i64 1)),(.t 9)]),.op (.bin 11 .neq (.t 10) k0)])
 (.ite (.t 11)
 ((.seq (.reg [.op (.mv 2 (.k (.b false)))])
 (.ret)))
 (.skip))))
 ((.seq ((.seq (.reg [.op (.fa 12 (.t 1) 4 1),.op (.ld 13 (.t 12) 1 false),.op (.len 14 (.t 13) .sl),.op (.mv 15 k0)])
 (.blk 0 (.loop [1,13,14,15] F_rwlock_queued_L0))))
 ((.seq ((.seq (.reg [.op (.fa 59 (.t 1) 4 1),.op (.ld 60 (.t 59) 1 false),.op (.len 61 (.t 60) .sl),.op (.bin 62 .eql (.t 61) k0)])
 (.ite (.t 62)
 ((.seq (.reg [.op (.mv 2 (.k (.b true)))])
 (.ret)))
 (.skip))))
 ((.seq (.reg [.op (.ld 63 (.t 1) 9 true),.op (.call (some 64) rwlock_changed [(.t 63)]),.op (.mv 7 (.t 64))])
 ((.seq (.reg [.op (.mv 65 (.t 7)),.op (.call (some 66) rwlock_lock_serve [(.t 65)])])
 ((.seq (.reg [.op (.mv 67 (.t 7)),.op (.nck 68 (.t 67)),.op (.fa 69 (.t 68) 9 1),.op (.ld 70 (.t 69) 1 false),.op (.len 71 (.t 70) .sl),.op (.bin 72 .eql (.t 71) k0),.op (.mv 2 (.t 72))])
 (.ret)))))))))))))))
 [.t 2] false none
def F_slices_Clone_int_int : F := .mk
 ((.seq (.reg [.op (.mv 2 (.k (.sl 1 true [])))])
 ((.seq ((.seq (.reg [.op (.mv 3 (.t 0)),.op (.isnil 4 false (.t 3) .sl)])
 (.ite (.t 4)
 ((.seq (.reg [.op (.mv 2 (.k (.sl 1 true [])))])
 (.ret)))
 (.skip))))
 ((.seq (.reg [.op (.buildSl 5 1 0 [(.i .i64 0)] [] false),.op (.mv 6 (.t 0)),.op (.app 7 (.t 5) (.t 6) 1),.op (.mv 2 (.t 7))])
 (.ret)))))))
 [.t 2] true none
def F_slices_Contains_int_int : F := .mk
 ((.seq (.reg [.op (.mv 4 (.k (.b false)))])
 ((.seq (.reg [.op (.mv 5 (.t 0)),.op (.mv 6 (.t 1)),.op (.call (some 7) slices_Index_int_int [(.t 5),(.t 6)]),.op (.bin 8 .geq (.t 7) k0),.op (.mv 4 (.t 8))])
 (.ret)))))
 [.t 4] false none
def F_rwlock_lock_grant : F := .mk
 ((.seq ((.seq (.reg [.op (.mv 8 (.t 2)),.op (.bin 9 .eql (.t 8) (.k (.i .i64 55)))])
 (.ite (.t 9)
 ((.seq (.reg [.op (.mv 10 (.t 0)),.op (.mv 11 (.t 1)),.op (.nck 12 (.t 10)),.op (.fa 13 (.t 12) 0 9),.op (.fa 14 (.t 13) 0 1),.op (.st (.t 14) (.t 11) 1 false)])
 (.ret)))
 (.skip))))
 ((.seq (.reg [.op (.mv 16 (.t 0)),.op (.nck 17 (.t 16)),.op (.fa 18 (.t 17) 0 9),.op (.fa 19 (.t 18) 3 1),.op (.ld 20 (.t 19) 1 false),.op (.mv 21 (.t 1)),.op (.call (some 22) slices_BinarySearch_int_int [(.t 20),(.t 21)]),.op (.mv 15 (.t 22)),.op (.ext 23 (.t 15) 0),.op (.ext 24 (.t 15) 1),.op (.mv 6 (.t 23)),.op (.mv 7 (.t 24))])
 (.reg [.op (.mv 25 (.t 0)),.op (.mv 26 (.t 0)),.op (.nck 27 (.t 26)),.op (.fa 28 (.t 27) 0 9),.op (.fa 29 (.t 28) 3 1),.op (.ld 30 (.t 29) 1 false),.op (.mv 31 (.t 6)),.op (.mv 32 (.t 1)),.op (.buildSl 33 1 1 [(.i .i64 0)] [(0,(.t 32))] true),.op (.callr (some 34) slices_Insert_int_int [(.t 30),(.t 31),(.t 33)]),.op (.nck 35 (.t 25)),.op (.fa 36 (.t 35) 0 9),.op (.fa 37 (.t 36) 3 1),.op (.st (.t 37) (.t 34) 1 false)])))))
 [] false none
def F_slices_IndexFunc_int_int_L0 : C :=
 (.seq (.reg [.op (.bin 9 .lss (.t 8) (.t 7))])
 ((.seq (.ite (.t 9)
 (.skip)
 (.seq (.keep []) (.exit 0)))
 ((.seq (.blk 1 ((.seq (.reg [.op (.mv 10 (.t 8)),.op (.mv 5 (.t 10))])
 ((.seq (.reg [.op (.mv 11 (.t 1)),.op (.mv 12 (.t 0)),.op (.mv 13 (.t 5)),.op (.ixs 14 (.t 12) (.t 13) 1),.op (.ld 15 (.t 14) 1 false),.op (.callv (some 16) (.t 11) [(.t 15)])])
 (.ite (.t 16)
 ((.seq (.reg [.op (.mv 17 (.t 5)),.op (.mv 4 (.t 17))])
 (.seq (.keep [4]) .ret)))
 (.skip)))))))
 (.reg [.op (.bin 18 .add (.t 8) (.k (.i .i64 1))),.op (.mv 8 (.t 18))]))))))
def F_slices_IndexFunc_int_int : F := .mk
 ((.seq (.reg [.op (.mv 4 k0)])
 ((.seq ((.seq (.reg [.op (.mv 6 (.t 0)),.op (.len 7 (.t 6) .sl),.op (.mv 8 k0)])
 (.blk 0 (.loop [0,1,7,8] F_slices_IndexFunc_int_int_L0))))
 ((.seq (.reg [.op (.mv 4 (.k (.i .i64 (-1))))])
 (.ret)))))))
 [.t 4] false none
def F_waitlist_valid : F := .mk
 ((.seq (.reg [.op (.box 1 (.t 0) 5 true),.op (.mv 2 (.k (.b false)))])
 ((.seq (.blk 0 ((.seq (.reg [.op (.fa 4 (.t 1) 0 1),.op (.ld 5 (.t 4) 1 false),.op (.bin 6 .lss (.t 5) k0),.op (.mv 7 (.t 6)),.sc true 11 7 [.op (.fa 8 (.t 1) 0 1),.op (.ld 9 (.t 8) 1 false),.op (.bin 10 .geq (.t 9) (.k (.i .i64 16)))] (.t 10),.op (.mv 12 (.t 11)),.sc true 16 12 [.op (.fa 13 (.t 1) 1 1),.op (.ld 14 (.t 13) 1 false),.op (.bin 15 .lss (.t 14) (.k (.i .i64 1)))] (.t 15),.op (.mv 17 (.t 16)),.sc true 21 17 [.op (.fa 18 (.t 1) 1 1),.op (.ld 19 (.t 18) 1 false),.op (.bin 20 .gtr (.t 19) (.k (.i .i64 99)))] (.t 20),.op (.mv 22 (.t 21)),.sc true 26 22 [.op (.fa 23 (.t 1) 2 1),.op (.ld 24 (.t 23) 1 false),.op (.bin 25 .lss (.t 24) (.k (.i .i64 (-1099511627776))))] (.t 25),.op (.mv 27 (.t 26)),.sc true 31 27 [.op (.fa 28 (.t 1) 2 1),.op (.ld 29 (.t 28) 1 false),.op (.bin 30 .gtr (.t 29) (.k (.i .i64 1099511627776)))] (.t 30),.op (.mv 3 (.t 31))])
 (.ite (.t 3)
 ((.seq (.reg [.op (.mv 2 (.k (.b false)))])
 (.ret)))
 (.skip)))))
 ((.seq (.reg [.op (.fa 32 (.t 1) 3 1),.op (.ld 33 (.t 32) 1 false),.op (.bin 34 .geq (.t 33) k0),.op (.mv 35 (.t 34)),.sc false 39 35 [.op (.fa 36 (.t 1) 3 1),.op (.ld 37 (.t 36) 1 false),.op (.bin 38 .leq (.t 37) (.k (.i .i64 9)))] (.t 38),.op (.mv 40 (.t 39)),.sc false 44 40 [.op (.fa 41 (.t 1) 4 1),.op (.ld 42 (.t 41) 1 false),.op (.bin 43 .geq (.t 42) (.k (.i .i64 (-1))))] (.t 43),.op (.mv 45 (.t 44)),.sc false 49 45 [.op (.fa 46 (.t 1) 4 1),.op (.ld 47 (.t 46) 1 false),.op (.bin 48 .lss (.t 47) (.k (.i .i64 6)))] (.t 48),.op (.mv 2 (.t 49))])
 (.ret)))))))
 [.t 2] false none
def F_slices_ContainsFunc_int_int : F := .mk
 ((.seq (.reg [.op (.mv 4 (.k (.b false)))])
 ((.seq (.reg [.op (.mv 5 (.t 0)),.op (.mv 6 (.t 1)),.op (.call (some 7) slices_IndexFunc_int_int [(.t 5),(.t 6)]),.op (.bin 8 .geq (.t 7) k0),.op (.mv 4 (.t 8))])
 (.ret)))))
 [.t 4] false none
def F_channel_validC1 : F := .mk
 ((.seq (.reg [.op (.mv 2 (.k (.b false)))])
 ((.seq (.reg [.op (.mv 3 (.t 0)),.op (.call (some 4) channel_number [(.t 3)]),.op (.un 5 .not (.t 4)),.op (.mv 2 (.t 5))])
 (.ret)))))
 [.t 2] false none
def F_channel_fine : F := .mk
 ((.seq (.reg [.op (.mv 4 (.k (.b false)))])
 ((.seq (.reg [.op (.mv 6 (.t 0)),.op (.mv 7 (.t 1)),.op (.ixs 8 (.t 6) (.t 7) 5),.op (.ld 9 (.t 8) 5 true),.op (.new 5 zQ),.op (.st (.t 5) (.t 9) 5 true)])
 ((.seq ((.seq (.reg [.op (.fa 10 (.t 5) 1 1),.op (.ld 11 (.t 10) 1 false),.op (.bin 12 .neq (.t 11) (.k (.i .i64 64))),.op (.mv 13 (.t 12)),.sc false 22 13 [.op (.fa 14 (.t 5) 1 1),.op (.ld 15 (.t 14) 1 false),.op (.bin 16 .neq (.t 15) (.k (.i .i64 65))),.op (.mv 17 (.t 16)),.sc true 21 17 [.op (.fa 18 (.t 5) 2 1),.op (.ld 19 (.t 18) 1 false),.op (.bin 20 .neq (.t 19) k0)] (.t 20)] (.t 21)])
 (.ite (.t 22)
 ((.seq (.reg [.op (.mv 4 (.k (.b false)))])
 (.ret)))
 (.skip))))
 ((.seq (.reg [.op (.mv 23 (.t 0)),.op (.mv 24 (.t 1)),.op (.sl 25 (.t 23) none (some (.t 24)) 5),.op (.mkf 26 channel_fineC1 [] [(.t 5)]),.op (.call (some 27) slices_ContainsFunc_api_Waiter_api_Waiter [(.t 25),(.t 26)]),.op (.un 28 .not (.t 27)),.op (.mv 4 (.t 28))])
 (.ret)))))))))
 [.t 4] false none
def F_channel_vain : F := .mk
 ((.seq (.reg [.op (.box 2 (.t 0) 4 true),.op (.box 3 (.t 1) 9 true),.op (.mv 4 (.k (.b false)))])
 ((.seq (.reg [.op (.fa 5 (.t 3) 4 1),.op (.ld 6 (.t 5) 1 false),.op (.mkf 7 channel_vainC1 [] [(.t 3),(.t 2)]),.op (.call (some 8) slices_ContainsFunc_api_Waiter_api_Waiter [(.t 6),(.t 7)]),.op (.mv 4 (.t 8))])
 (.ret)))))
 [.t 4] false none
def F_topic_number : F := .mk
 ((.seq (.reg [.op (.mv 2 (.k (.b false)))])
 ((.seq (.reg [.op (.mv 3 (.t 0)),.op (.bin 4 .geq (.t 3) (.k (.i .i64 (-1099511627776)))),.op (.mv 5 (.t 4)),.sc false 8 5 [.op (.mv 6 (.t 0)),.op (.bin 7 .leq (.t 6) (.k (.i .i64 1099511627776)))] (.t 7),.op (.mv 2 (.t 8))])
 (.ret)))))
 [.t 2] false none
def F_slices_Clone_api_Cursor_api_Cursor : F := .mk
 ((.seq (.reg [.op (.mv 2 (.k (.sl 2 true [])))])
 ((.seq ((.seq (.reg [.op (.mv 3 (.t 0)),.op (.isnil 4 false (.t 3) .sl)])
 (.ite (.t 4)
 ((.seq (.reg [.op (.mv 2 (.k (.sl 2 true [])))])
 (.ret)))
 (.skip))))
 ((.seq (.reg [.op (.buildSl 5 2 0 [(.i .i64 0),(.sl 1 true [])] [] false),.op (.mv 6 (.t 0)),.op (.app 7 (.t 5) (.t 6) 2),.op (.mv 2 (.t 7))])
 (.ret)))))))
 [.t 2] true none
def R_slices_Insert_api_Cursor_api_Cursor : F := .mk
 ((.seq (.reg [.op (.mv 6 (.k (.sl 2 true [])))])
 ((.seq (.reg [.op (.mv 10 (.t 0)),.op (.mv 11 (.t 1)),.op (.sl 12 (.t 10) (some (.t 11)) none 2)])
 ((.seq (.reg [.op (.mv 13 (.t 2)),.op (.len 14 (.t 13) .sl),.op (.mv 7 (.t 14))])
 ((.seq ((.seq (.reg [.op (.mv 15 (.t 7)),.op (.bin 16 .eql (.t 15) k0)])
 (.ite (.t 16)
 ((.seq (.reg [.op (.mv 17 (.t 0)),.op (.mv 6 (.t 17))])
 (.ret)))
 (.skip))))
 ((.seq (.reg [.op (.mv 18 (.t 0)),.op (.len 19 (.t 18) .sl),.op (.mv 8 (.t 19))])
 ((.seq ((.seq (.reg [.op (.mv 20 (.t 1)),.op (.mv 21 (.t 8)),.op (.bin 22 .eql (.t 20) (.t 21))])
 (.ite (.t 22)
 ((.seq (.reg [.op (.mv 23 (.t 0)),.op (.mv 24 (.t 2)),.op (.app 25 (.t 23) (.t 24) 2),.op (.mv 6 (.t 25))])
 (.ret)))
 (.skip))))
 ((.seq ((.seq (.reg [.op (.mv 26 (.t 8)),.op (.mv 27 (.t 7)),.op (.bin 28 .add (.t 26) (.t 27)),.op (.mv 29 (.t 0)),.op (.cap 30 (.t 29)),.op (.bin 31 .gtr (.t 28) (.t 30))])
 (.ite (.t 31)
 ((.seq (.reg [.op (.mv 32 (.t 0)),.op (.mv 33 (.t 1)),.op (.sl 34 (.t 32) none (some (.t 33)) 2),.op (.mv 35 (.t 8)),.op (.mv 36 (.t 7)),.op (.bin 37 .add (.t 35) (.t 36)),.op (.mv 38 (.t 1)),.op (.bin 39 .sub (.t 37) (.t 38)),.op (.appz 40 (.t 34) (.t 39) 2 [(.i .i64 0),(.sl 1 true [])]),.op (.mv 9 (.t 40))])
 ((.seq (.reg [.op (.mv 41 (.t 9)),.op (.mv 42 (.t 1)),.op (.sl 43 (.t 41) (some (.t 42)) none 2),.op (.mv 44 (.t 2)),.op (.copy (some 45) (.t 43) (.t 44) 2)])
 ((.seq (.drw [] [0,1,2,3,4,5,6,7,8] [.op (.mv 46 (.t 9)),.op (.mv 47 (.t 1)),.op (.mv 48 (.t 7)),.op (.bin 49 .add (.t 47) (.t 48)),.op (.sl 50 (.t 46) (some (.t 49)) none 2),.op (.mv 51 (.t 0)),.op (.mv 52 (.t 1)),.op (.sl 53 (.t 51) (some (.t 52)) none 2),.op (.copy (some 54) (.t 50) (.t 53) 2)])
 ((.seq (.reg [.op (.mv 55 (.t 9)),.op (.mv 6 (.t 55))])
 (.ret)))))))))
 (.skip))))
 ((.seq (.reg [.op (.mv 56 (.t 0)),.op (.mv 57 (.t 8)),.op (.mv 58 (.t 7)),.op (.bin 59 .add (.t 57) (.t 58)),.op (.sl 60 (.t 56) none (some (.t 59)) 2),.op (.mv 0 (.t 60))])
 ((.seq ((.seq (.reg [.op (.mv 61 (.t 2)),.op (.mv 62 (.t 0)),.op (.mv 63 (.t 1)),.op (.mv 64 (.t 7)),.op (.bin 65 .add (.t 63) (.t 64)),.op (.sl 66 (.t 62) (some (.t 65)) none 2),.op (.ovl 67 slices_overlaps_api_Cursor (.t 61) (.t 66) 2),.op (.un 68 .not (.t 67))])
 (.ite (.t 68)
 ((.seq (.drw [] [0,1,2,3,4,5,6,7,8] [.op (.mv 69 (.t 0)),.op (.mv 70 (.t 1)),.op (.mv 71 (.t 7)),.op (.bin 72 .add (.t 70) (.t 71)),.op (.sl 73 (.t 69) (some (.t 72)) none 2),.op (.mv 74 (.t 0)),.op (.mv 75 (.t 1)),.op (.sl 76 (.t 74) (some (.t 75)) none 2),.op (.copy (some 77) (.t 73) (.t 76) 2)])
 ((.seq (.reg [.op (.mv 78 (.t 0)),.op (.mv 79 (.t 1)),.op (.sl 80 (.t 78) (some (.t 79)) none 2),.op (.mv 81 (.t 2)),.op (.copy (some 82) (.t 80) (.t 81) 2)])
 ((.seq (.reg [.op (.mv 83 (.t 0)),.op (.mv 6 (.t 83))])
 (.ret)))))))
 (.skip))))
 ((.seq (.reg [.op (.mv 84 (.t 0)),.op (.mv 85 (.t 8)),.op (.sl 86 (.t 84) (some (.t 85)) none 2),.op (.mv 87 (.t 2)),.op (.copy (some 88) (.t 86) (.t 87) 2)])
 ((.seq (.reg [.op (.mv 89 (.t 0)),.op (.mv 90 (.t 1)),.op (.sl 91 (.t 89) (some (.t 90)) none 2),.op (.mv 92 (.t 7)),.op (.call (some 93) slices_rotateRight_api_Cursor [(.t 91),(.t 92)])])
 ((.seq (.reg [.op (.mv 94 (.t 0)),.op (.mv 6 (.t 94))])
 (.ret)))))))))))))))))))))))))
 [.t 6] false none
def F_topic_findC1 : F := .mk
 ((.seq (.reg [.op (.box 2 (.t 0) 2 true),.op (.mv 3 (.k (.b false)))])
 ((.seq (.reg [.op (.fa 4 (.t 2) 0 1),.op (.ld 5 (.t 4) 1 false),.op (.ld 6 (.t 1) 1 false),.op (.bin 7 .eql (.t 5) (.t 6)),.op (.mv 3 (.t 7))])
 (.ret)))))
 [.t 3] false none
def F_slices_ContainsFunc_api_Cursor_api_Cursor : F := .mk
 ((.seq (.reg [.op (.mv 4 (.k (.b false)))])
 ((.seq (.reg [.op (.mv 5 (.t 0)),.op (.mv 6 (.t 1)),.op (.call (some 7) slices_IndexFunc_api_Cursor_api_Cursor [(.t 5),(.t 6)]),.op (.bin 8 .geq (.t 7) k0),.op (.mv 4 (.t 8))])
 (.ret)))))
 [.t 4] false none
def F_topic_fullC1 : F := .mk
 ((.seq (.reg [.op (.box 3 (.t 0) 2 true),.op (.mv 4 (.k (.b false)))])
 ((.seq (.reg [.op (.fa 5 (.t 3) 1 1),.op (.ld 6 (.t 5) 1 false),.op (.len 7 (.t 6) .sl),.op (.ld 8 (.t 1) 1 false),.op (.bin 9 .eql (.t 7) (.t 8)),.op (.mv 10 (.t 9)),.sc false 16 10 [.op (.ld 11 (.t 2) 9 true),.op (.fa 12 (.t 3) 0 1),.op (.ld 13 (.t 12) 1 false),.op (.call (some 14) topic_waiting [(.t 11),(.t 13),(.k (.i .i64 70))]),.op (.un 15 .not (.t 14))] (.t 15),.op (.mv 4 (.t 16))])
 (.ret)))))
 [.t 4] false none
def F_topic_waiting : F := .mk
 ((.seq (.reg [.op (.box 3 (.t 0) 9 true),.op (.box 4 (.t 1) 1 true),.op (.box 5 (.t 2) 1 true),.op (.mv 6 (.k (.b false)))])
 ((.seq (.reg [.op (.fa 7 (.t 3) 4 1),.op (.ld 8 (.t 7) 1 false),.op (.mkf 9 topic_waitingC1 [] [(.t 4),(.t 5)]),.op (.call (some 10) slices_ContainsFunc_api_Waiter_api_Waiter [(.t 8),(.t 9)]),.op (.mv 6 (.t 10))])
 (.ret)))))
 [.t 6] false none
def F_future_cell_plain : F := .mk
 ((.seq (.reg [.op (.box 1 (.t 0) 9 true),.op (.mv 2 (.k (.b false)))])
 ((.seq (.reg [.op (.fa 3 (.t 1) 0 9),.op (.fa 4 (.t 3) 0 1),.op (.ld 5 (.t 4) 1 false),.op (.bin 6 .eql (.t 5) (.k (.i .i64 (-1)))),.op (.mv 7 (.t 6)),.sc false 12 7 [.op (.fa 8 (.t 1) 0 9),.op (.fa 9 (.t 8) 1 1),.op (.ld 10 (.t 9) 1 false),.op (.bin 11 .eql (.t 10) k0)] (.t 11),.op (.mv 13 (.t 12)),.sc false 18 13 [.op (.fa 14 (.t 1) 0 9),.op (.fa 15 (.t 14) 2 1),.op (.ld 16 (.t 15) 1 false),.op (.bin 17 .eql (.t 16) k0)] (.t 17),.op (.mv 19 (.t 18)),.sc false 25 19 [.op (.fa 20 (.t 1) 0 9),.op (.fa 21 (.t 20) 3 1),.op (.ld 22 (.t 21) 1 false),.op (.len 23 (.t 22) .sl),.op (.bin 24 .eql (.t 23) k0)] (.t 24),.op (.mv 26 (.t 25)),.sc false 32 26 [.op (.fa 27 (.t 1) 0 9),.op (.fa 28 (.t 27) 5 1),.op (.ld 29 (.t 28) 1 false),.op (.len 30 (.t 29) .sl),.op (.bin 31 .eql (.t 30) k0)] (.t 31),.op (.mv 33 (.t 32)),.sc false 39 33 [.op (.fa 34 (.t 1) 0 9),.op (.fa 35 (.t 34) 6 1),.op (.ld 36 (.t 35) 1 false),.op (.len 37 (.t 36) .sl),.op (.bin 38 .eql (.t 37) k0)] (.t 38),.op (.mv 2 (.t 39))])
 (.ret)))))
 [.t 2] false none
def F_future_cell_queued_L0 : C :=
 (.seq (.reg [.op (.bin 12 .lss (.t 11) (.t 10))])
 ((.seq (.ite (.t 12)
 (.skip)
 (.seq (.keep [1]) (.exit 0)))
 ((.seq (.blk 1 ((.seq (.reg [.op (.mv 13 (.t 11)),.op (.ixs 14 (.t 9) (.t 11) 5),.op (.ld 15 (.t 14) 5 true),.op (.new 4 zQ),.op (.mv 3 (.t 13)),.op (.st (.t 4) (.t 15) 5 true)])
 ((.seq (.reg [.op (.fa 17 (.t 1) 0 9),.op (.fa 18 (.t 17) 4 1),.op (.ld 19 (.t 18) 1 false),.op (.fa 20 (.t 4) 0 1),.op (.ld 21 (.t 20) 1 false),.op (.call (some 22) waitlist_Find [(.t 19),(.t 21)]),.op (.mv 16 (.t 22)),.op (.ext 23 (.t 16) 0),.op (.ext 24 (.t 16) 1),.op (.mv 5 (.t 23)),.op (.mv 6 (.t 24))])
 ((.seq (.reg [.op (.mv 25 (.t 5)),.op (.mv 26 (.t 3)),.op (.bin 27 .neq (.t 25) (.t 26)),.op (.mv 28 (.t 27)),.sc true 32 28 [.op (.fa 29 (.t 4) 1 1),.op (.ld 30 (.t 29) 1 false),.op (.bin 31 .neq (.t 30) (.k (.i .i64 74)))] (.t 31),.op (.mv 33 (.t 32)),.sc true 37 33 [.op (.fa 34 (.t 4) 2 1),.op (.ld 35 (.t 34) 1 false),.op (.bin 36 .neq (.t 35) k0)] (.t 36),.op (.mv 38 (.t 37)),.sc true 42 38 [.op (.fa 39 (.t 4) 4 1),.op (.ld 40 (.t 39) 1 false),.op (.bin 41 .neq (.t 40) (.k (.i .i64 (-1))))] (.t 41)])
 (.ite (.t 42)
 ((.seq (.reg [.op (.mv 2 (.k (.b false)))])
 (.seq (.keep [2]) .ret)))
 (.skip)))))))))
 (.reg [.op (.bin 43 .add (.t 11) (.k (.i .i64 1))),.op (.mv 11 (.t 43))]))))))
def F_future_cell_queued : F := .mk
 ((.seq (.reg [.op (.box 1 (.t 0) 9 true),.op (.mv 2 (.k (.b false)))])
 ((.seq ((.seq (.reg [.op (.fa 7 (.t 1) 0 9),.op (.fa 8 (.t 7) 4 1),.op (.ld 9 (.t 8) 1 false),.op (.len 10 (.t 9) .sl),.op (.mv 11 k0)])
 (.blk 0 (.loop [1,9,10,11] F_future_cell_queued_L0))))
 ((.seq (.reg [.op (.fa 44 (.t 1) 0 9),.op (.fa 45 (.t 44) 4 1),.op (.ld 46 (.t 45) 1 false),.op (.call (some 47) waitlist_Check [(.k (.i .i64 1)),(.t 46)]),.op (.bin 48 .eql (.t 47) k0),.op (.mv 2 (.t 48))])
 (.ret)))))))
 [.t 2] false none
def F_slices_Index_int_int_L0 : C :=
 (.seq (.reg [.op (.bin 9 .lss (.t 8) (.t 7))])
 ((.seq (.ite (.t 9)
 (.skip)
 (.seq (.keep []) (.exit 0)))
 ((.seq (.blk 1 ((.seq (.reg [.op (.mv 10 (.t 8)),.op (.mv 5 (.t 10))])
 ((.seq (.reg [.op (.mv 11 (.t 1)),.op (.mv 12 (.t 0)),.op (.mv 13 (.t 5)),.op (.ixs 14 (.t 12) (.t 13) 1),.op (.ld 15 (.t 14) 1 false),.op (.bin 16 .eql (.t 11) (.t 15))])
 (.ite (.t 16)
 ((.seq (.reg [.op (.mv 17 (.t 5)),.op (.mv 4 (.t 17))])
 (.seq (.keep [4]) .ret)))
 (.skip)))))))
 (.reg [.op (.bin 18 .add (.t 8) (.k (.i .i64 1))),.op (.mv 8 (.t 18))]))))))
def F_slices_Index_int_int : F := .mk
 ((.seq (.reg [.op (.mv 4 k0)])
 ((.seq ((.seq (.reg [.op (.mv 6 (.t 0)),.op (.len 7 (.t 6) .sl),.op (.mv 8 k0)])
 (.blk 0 (.loop [0,1,7,8] F_slices_Index_int_int_L0))))
 ((.seq (.reg [.op (.mv 4 (.k (.i .i64 (-1))))])
 (.ret)))))))
 [.t 4] false none
def F_slices_BinarySearch_int_int_L0 : C :=
 (.seq ((.seq (.reg [.op (.mv 13 (.t 7)),.op (.mv 14 (.t 8)),.op (.bin 15 .lss (.t 13) (.t 14))])
 (.ite (.t 15)
 (.skip)
 (.seq (.keep [0,1,6,7]) (.exit 0)))))
 (.blk 1 ((.seq (.reg [.op (.mv 16 (.t 7)),.op (.mv 17 (.t 8)),.op (.bin 18 .add (.t 16) (.t 17)),.op (.cvi 19 .u64 (.t 18)),.op (.bin 20 .shr (.t 19) (.k (.i .u64 1))),.op (.cvi 21 .i64 (.t 20)),.op (.mv 9 (.t 21))])
 ((.seq (.reg [.op (.mv 22 (.t 0)),.op (.mv 23 (.t 9)),.op (.ixs 24 (.t 22) (.t 23) 1),.op (.ld 25 (.t 24) 1 false),.op (.mv 26 (.t 1)),.op (.call (some 27) cmp_Less_int [(.t 25),(.t 26)])])
 (.ite (.t 27)
 (.reg [.op (.mv 28 (.t 9)),.op (.bin 29 .add (.t 28) (.k (.i .i64 1))),.op (.mv 7 (.t 29))])
 (.reg [.op (.mv 30 (.t 9)),.op (.mv 8 (.t 30))]))))))))
def F_slices_BinarySearch_int_int : F := .mk
 ((.seq (.reg [.op (.mv 4 k0),.op (.mv 5 (.k (.b false)))])
 ((.seq (.reg [.op (.mv 10 (.t 0)),.op (.len 11 (.t 10) .sl),.op (.mv 6 (.t 11))])
 ((.seq (.reg [.op (.mv 12 (.t 6)),.op (.mv 7 k0),.op (.mv 8 (.t 12))])
 ((.seq (.blk 0 (.loop [0,1,6,7,8] F_slices_BinarySearch_int_int_L0))
 ((.seq (.reg [.op (.mv 31 (.t 7)),.op (.mv 32 (.t 7)),.op (.mv 33 (.t 6)),.op (.bin 34 .lss (.t 32) (.t 33)),.op (.mv 35 (.t 34)),.sc false 53 35 [.op (.mv 36 (.t 0)),.op (.mv 37 (.t 7)),.op (.ixs 38 (.t 36) (.t 37) 1),.op (.ld 39 (.t 38) 1 false),.op (.mv 40 (.t 1)),.op (.bin 41 .eql (.t 39) (.t 40)),.op (.mv 42 (.t 41)),.sc true 52 42 [.op (.mv 43 (.t 0)),.op (.mv 44 (.t 7)),.op (.ixs 45 (.t 43) (.t 44) 1),.op (.ld 46 (.t 45) 1 false),.op (.call (some 47) slices_isNaN_int [(.t 46)]),.op (.mv 48 (.t 47)),.sc false 51 48 [.op (.mv 49 (.t 1)),.op (.call (some 50) slices_isNaN_int [(.t 49)])] (.t 50)] (.t 51)] (.t 52),.op (.mv 4 (.t 31)),.op (.mv 5 (.t 53))])
 (.ret)))))))))))
 [.t 4,.t 5] false none
def R_slices_Insert_int_int : F := .mk
 ((.seq (.reg [.op (.mv 6 (.k (.sl 1 true [])))])
 ((.seq (.reg [.op (.mv 10 (.t 0)),.op (.mv 11 (.t 1)),.op (.sl 12 (.t 10) (some (.t 11)) none 1)])
 ((.seq (.reg [.op (.mv 13 (.t 2)),.op (.len 14 (.t 13) .sl),.op (.mv 7 (.t 14))])
 ((.seq ((.seq (.reg [.op (.mv 15 (.t 7)),.op (.bin 16 .eql (.t 15) k0)])
 (.ite (.t 16)
 ((.seq (.reg [.op (.mv 17 (.t 0)),.op (.mv 6 (.t 17))])
 (.ret)))
 (.skip))))
 ((.seq (.reg [.op (.mv 18 (.t 0)),.op (.len 19 (.t 18) .sl),.op (.mv 8 (.t 19))])
 ((.seq ((.seq (.reg [.op (.mv 20 (.t 1)),.op (.mv 21 (.t 8)),.op (.bin 22 .eql (.t 20) (.t 21))])
 (.ite (.t 22)
 ((.seq (.reg [.op (.mv 23 (.t 0)),.op (.mv 24 (.t 2)),.op (.app 25 (.t 23) (.t 24) 1),.op (.mv 6 (.t 25))])
 (.ret)))
 (.skip))))
 ((.seq ((.seq (.reg [.op (.mv 26 (.t 8)),.op (.mv 27 (.t 7)),.op (.bin 28 .add (.t 26) (.t 27)),.op (.mv 29 (.t 0)),.op (.cap 30 (.t 29)),.op (.bin 31 .gtr (.t 28) (.t 30))])
 (.ite (.t 31)
 ((.seq (.reg [.op (.mv 32 (.t 0)),.op (.mv 33 (.t 1)),.op (.sl 34 (.t 32) none (some (.t 33)) 1),.op (.mv 35 (.t 8)),.op (.mv 36 (.t 7)),.op (.bin 37 .add (.t 35) (.t 36)),.op (.mv 38 (.t 1)),.op (.bin 39 .sub (.t 37) (.t 38)),.op (.appz 40 (.t 34) (.t 39) 1 [(.i .i64 0)]),.op (.mv 9 (.t 40))])
 ((.seq (.reg [.op (.mv 41 (.t 9)),.op (.mv 42 (.t 1)),.op (.sl 43 (.t 41) (some (.t 42)) none 1),.op (.mv 44 (.t 2)),.op (.copy (some 45) (.t 43) (.t 44) 1)])
 ((.seq (.drw [] [0,1,2,3,4,5,6,7,8] [.op (.mv 46 (.t 9)),.op (.mv 47 (.t 1)),.op (.mv 48 (.t 7)),.op (.bin 49 .add (.t 47) (.t 48)),.op (.sl 50 (.t 46) (some (.t 49)) none 1),.op (.mv 51 (.t 0)),.op (.mv 52 (.t 1)),.op (.sl 53 (.t 51) (some (.t 52)) none 1),.op (.copy (some 54) (.t 50) (.t 53) 1)])
 ((.seq (.reg [.op (.mv 55 (.t 9)),.op (.mv 6 (.t 55))])
 (.ret)))))))))
 (.skip))))
 ((.seq (.reg [.op (.mv 56 (.t 0)),.op (.mv 57 (.t 8)),.op (.mv 58 (.t 7)),.op (.bin 59 .add (.t 57) (.t 58)),.op (.sl 60 (.t 56) none (some (.t 59)) 1),.op (.mv 0 (.t 60))])
 ((.seq ((.seq (.reg [.op (.mv 61 (.t 2)),.op (.mv 62 (.t 0)),.op (.mv 63 (.t 1)),.op (.mv 64 (.t 7)),.op (.bin 65 .add (.t 63) (.t 64)),.op (.sl 66 (.t 62) (some (.t 65)) none 1),.op (.ovl 67 slices_overlaps_int (.t 61) (.t 66) 1),.op (.un 68 .not (.t 67))])
 (.ite (.t 68)
 ((.seq (.drw [] [0,1,2,3,4,5,6,7,8] [.op (.mv 69 (.t 0)),.op (.mv 70 (.t 1)),.op (.mv 71 (.t 7)),.op (.bin 72 .add (.t 70) (.t 71)),.op (.sl 73 (.t 69) (some (.t 72)) none 1),.op (.mv 74 (.t 0)),.op (.mv 75 (.t 1)),.op (.sl 76 (.t 74) (some (.t 75)) none 1),.op (.copy (some 77) (.t 73) (.t 76) 1)])
 ((.seq (.reg [.op (.mv 78 (.t 0)),.op (.mv 79 (.t 1)),.op (.sl 80 (.t 78) (some (.t 79)) none 1),.op (.mv 81 (.t 2)),.op (.copy (some 82) (.t 80) (.t 81) 1)])
 ((.seq (.reg [.op (.mv 83 (.t 0)),.op (.mv 6 (.t 83))])
 (.ret)))))))
 (.skip))))
 ((.seq (.reg [.op (.mv 84 (.t 0)),.op (.mv 85 (.t 8)),.op (.sl 86 (.t 84) (some (.t 85)) none 1),.op (.mv 87 (.t 2)),.op (.copy (some 88) (.t 86) (.t 87) 1)])
 ((.seq (.reg [.op (.mv 89 (.t 0)),.op (.mv 90 (.t 1)),.op (.sl 91 (.t 89) (some (.t 90)) none 1),.op (.mv 92 (.t 7)),.op (.call (some 93) slices_rotateRight_int [(.t 91),(.t 92)])])
 ((.seq (.reg [.op (.mv 94 (.t 0)),.op (.mv 6 (.t 94))])
 (.ret)))))))))))))))))))))))))
 [.t 6] false none
def F_channel_fineC1 : F := .mk
 ((.seq (.reg [.op (.box 2 (.t 0) 5 true),.op (.mv 3 (.k (.b false)))])
 ((.seq (.reg [.op (.fa 4 (.t 2) 0 1),.op (.ld 5 (.t 4) 1 false),.op (.fa 6 (.t 1) 0 1),.op (.ld 7 (.t 6) 1 false),.op (.bin 8 .eql (.t 5) (.t 7)),.op (.mv 9 (.t 8)),.sc false 25 9 [.op (.fa 10 (.t 2) 4 1),.op (.ld 11 (.t 10) 1 false),.op (.bin 12 .eql (.t 11) (.k (.i .i64 (-1)))),.op (.mv 13 (.t 12)),.sc true 17 13 [.op (.fa 14 (.t 1) 4 1),.op (.ld 15 (.t 14) 1 false),.op (.bin 16 .eql (.t 15) (.k (.i .i64 (-1))))] (.t 16),.op (.mv 18 (.t 17)),.sc true 24 18 [.op (.fa 19 (.t 2) 4 1),.op (.ld 20 (.t 19) 1 false),.op (.fa 21 (.t 1) 4 1),.op (.ld 22 (.t 21) 1 false),.op (.bin 23 .eql (.t 20) (.t 22))] (.t 23)] (.t 24),.op (.mv 3 (.t 25))])
 (.ret)))))
 [.t 3] false none
def F_channel_vainC1 : F := .mk
 ((.seq (.reg [.op (.box 3 (.t 0) 5 true),.op (.mv 4 (.k (.b false)))])
 ((.seq ((.seq (.reg [.op (.fa 5 (.t 3) 1 1),.op (.ld 6 (.t 5) 1 false),.op (.bin 7 .eql (.t 6) (.k (.i .i64 64)))])
 (.ite (.t 7)
 ((.seq (.reg [.op (.fa 8 (.t 1) 5 1),.op (.ld 9 (.t 8) 1 false),.op (.len 10 (.t 9) .sl),.op (.fa 11 (.t 2) 2 1),.op (.ld 12 (.t 11) 1 false),.op (.bin 13 .neq (.t 10) (.t 12)),.op (.mv 14 (.t 13)),.sc true 20 14 [.op (.fa 15 (.t 1) 4 1),.op (.ld 16 (.t 15) 1 false),.op (.fa 17 (.t 3) 0 1),.op (.ld 18 (.t 17) 1 false),.op (.call (some 19) channel_foreign [(.t 16),(.k (.i .i64 65)),(.t 18)])] (.t 19),.op (.mv 4 (.t 20))])
 (.ret)))
 (.skip))))
 ((.seq (.reg [.op (.fa 21 (.t 1) 5 1),.op (.ld 22 (.t 21) 1 false),.op (.len 23 (.t 22) .sl),.op (.bin 24 .gtr (.t 23) k0),.op (.mv 25 (.t 24)),.sc true 31 25 [.op (.fa 26 (.t 1) 4 1),.op (.ld 27 (.t 26) 1 false),.op (.fa 28 (.t 3) 0 1),.op (.ld 29 (.t 28) 1 false),.op (.call (some 30) channel_foreign [(.t 27),(.k (.i .i64 64)),(.t 29)])] (.t 30),.op (.mv 4 (.t 31))])
 (.ret)))))))
 [.t 4] false none
def F_channel_foreign : F := .mk
 ((.seq (.reg [.op (.box 4 (.t 1) 1 true),.op (.box 5 (.t 2) 1 true),.op (.mv 6 (.k (.b false)))])
 ((.seq (.reg [.op (.mv 7 (.t 0)),.op (.mkf 8 channel_foreignC1 [] [(.t 4),(.t 5)]),.op (.call (some 9) slices_ContainsFunc_api_Waiter_api_Waiter [(.t 7),(.t 8)]),.op (.mv 6 (.t 9))])
 (.ret)))))
 [.t 6] false none
def F_slices_rotateRight_api_Cursor : F := .mk
 (.reg [.op (.mv 4 (.t 0)),.op (.mv 5 (.t 0)),.op (.len 6 (.t 5) .sl),.op (.mv 7 (.t 1)),.op (.bin 8 .sub (.t 6) (.t 7)),.op (.call (some 9) slices_rotateLeft_api_Cursor [(.t 4),(.t 8)])])
 [] false none
def F_topic_waitingC1 : F := .mk
 ((.seq (.reg [.op (.box 3 (.t 0) 5 true),.op (.mv 4 (.k (.b false)))])
 ((.seq (.reg [.op (.fa 5 (.t 3) 0 1),.op (.ld 6 (.t 5) 1 false),.op (.ld 7 (.t 1) 1 false),.op (.bin 8 .eql (.t 6) (.t 7)),.op (.mv 9 (.t 8)),.sc false 14 9 [.op (.fa 10 (.t 3) 1 1),.op (.ld 11 (.t 10) 1 false),.op (.ld 12 (.t 2) 1 false),.op (.bin 13 .eql (.t 11) (.t 12))] (.t 13),.op (.mv 4 (.t 14))])
 (.ret)))))
 [.t 4] false none
def F_cmp_isNaN_int : F := .mk
 ((.seq (.reg [.op (.mv 2 (.k (.b false)))])
 ((.seq (.reg [.op (.mv 3 (.t 0)),.op (.mv 4 (.t 0)),.op (.bin 5 .neq (.t 3) (.t 4)),.op (.mv 2 (.t 5))])
 (.ret)))))
 [.t 2] false none
def F_cmp_Less_int : F := .mk
 ((.seq (.reg [.op (.mv 4 (.k (.b false)))])
 ((.seq (.reg [.op (.mv 5 (.t 0)),.op (.call (some 6) cmp_isNaN_int [(.t 5)]),.op (.mv 7 (.t 6)),.sc false 11 7 [.op (.mv 8 (.t 1)),.op (.call (some 9) cmp_isNaN_int [(.t 8)]),.op (.un 10 .not (.t 9))] (.t 10),.op (.mv 12 (.t 11)),.sc true 16 12 [.op (.mv 13 (.t 0)),.op (.mv 14 (.t 1)),.op (.bin 15 .lss (.t 13) (.t 14))] (.t 15),.op (.mv 4 (.t 16))])
 (.ret)))))
 [.t 4] false none
def F_slices_isNaN_int : F := .mk
 ((.seq (.reg [.op (.mv 2 (.k (.b false)))])
 ((.seq (.reg [.op (.mv 3 (.t 0)),.op (.mv 4 (.t 0)),.op (.bin 5 .neq (.t 3) (.t 4)),.op (.mv 2 (.t 5))])
 (.ret)))))
 [.t 2] false none
def F_slices_rotateRight_int : F := .mk
 (.reg [.op (.mv 4 (.t 0)),.op (.mv 5 (.t 0)),.op (.len 6 (.t 5) .sl),.op (.mv 7 (.t 1)),.op (.bin 8 .sub (.t 6) (.t 7)),.op (.call (some 9) slices_rotateLeft_int [(.t 4),(.t 8)])])
 [] false none
def F_channel_foreignC1 : F := .mk
 ((.seq (.reg [.op (.box 3 (.t 0) 5 true),.op (.mv 4 (.k (.b false)))])
 ((.seq (.reg [.op (.fa 5 (.t 3) 1 1),.op (.ld 6 (.t 5) 1 false),.op (.ld 7 (.t 1) 1 false),.op (.bin 8 .eql (.t 6) (.t 7)),.op (.mv 9 (.t 8)),.sc false 14 9 [.op (.fa 10 (.t 3) 0 1),.op (.ld 11 (.t 10) 1 false),.op (.ld 12 (.t 2) 1 false),.op (.bin 13 .neq (.t 11) (.t 12))] (.t 13),.op (.mv 4 (.t 14))])
 (.ret)))))
 [.t 4] false none
def F_slices_rotateLeft_api_Cursor : F := .mk
 ((.seq (.reg [.op (.mv 4 (.t 0)),.op (.mv 5 (.t 1)),.op (.sl 6 (.t 4) none (some (.t 5)) 2),.op (.call (some 7) slices_Reverse_api_Cursor_api_Cursor [(.t 6)])])
 ((.seq (.reg [.op (.mv 8 (.t 0)),.op (.mv 9 (.t 1)),.op (.sl 10 (.t 8) (some (.t 9)) none 2),.op (.call (some 11) slices_Reverse_api_Cursor_api_Cursor [(.t 10)])])
 (.reg [.op (.mv 12 (.t 0)),.op (.call (some 13) slices_Reverse_api_Cursor_api_Cursor [(.t 12)])])))))
 [] false none
def F_slices_rotateLeft_int : F := .mk
 ((.seq (.reg [.op (.mv 4 (.t 0)),.op (.mv 5 (.t 1)),.op (.sl 6 (.t 4) none (some (.t 5)) 1),.op (.call (some 7) slices_Reverse_int_int [(.t 6)])])
 ((.seq (.reg [.op (.mv 8 (.t 0)),.op (.mv 9 (.t 1)),.op (.sl 10 (.t 8) (some (.t 9)) none 1),.op (.call (some 11) slices_Reverse_int_int [(.t 10)])])
 (.reg [.op (.mv 12 (.t 0)),.op (.call (some 13) slices_Reverse_int_int [(.t 12)])])))))
 [] false none
def F_slices_Reverse_api_Cursor_api_Cursor_L0 : C :=
 (.seq ((.seq (.reg [.op (.mv 7 (.t 2)),.op (.mv 8 (.t 3)),.op (.bin 9 .lss (.t 7) (.t 8))])
 (.ite (.t 9)
 (.skip)
 (.seq (.keep []) (.exit 0)))))
 ((.seq (.blk 1 (.drw [] [0,1,2,3,4,5,6,7,8,9,10,11,12,13,14,15] [.op (.mv 14 (.t 0)),.op (.mv 15 (.t 2)),.op (.mv 16 (.t 0)),.op (.mv 17 (.t 3)),.op (.mv 18 (.t 0)),.op (.mv 19 (.t 3)),.op (.ixs 20 (.t 18) (.t 19) 2),.op (.ld 21 (.t 20) 2 true),.op (.mv 22 (.t 0)),.op (.mv 23 (.t 2)),.op (.ixs 24 (.t 22) (.t 23) 2),.op (.ld 25 (.t 24) 2 true),.op (.ixs 26 (.t 14) (.t 15) 2),.op (.st (.t 26) (.t 21) 2 false),.op (.ixs 27 (.t 16) (.t 17) 2),.op (.st (.t 27) (.t 25) 2 false)]))
 (.reg [.op (.mv 10 (.t 2)),.op (.bin 11 .add (.t 10) (.k (.i .i64 1))),.op (.mv 12 (.t 3)),.op (.bin 13 .sub (.t 12) (.k (.i .i64 1))),.op (.mv 2 (.t 11)),.op (.mv 3 (.t 13))]))))
def F_slices_Reverse_api_Cursor_api_Cursor : F := .mk
 ((.seq (.reg [.op (.mv 4 (.t 0)),.op (.len 5 (.t 4) .sl),.op (.bin 6 .sub (.t 5) (.k (.i .i64 1))),.op (.mv 2 k0),.op (.mv 3 (.t 6))])
 (.blk 0 (.loop [0,2,3] F_slices_Reverse_api_Cursor_api_Cursor_L0))))
 [] false none
def F_slices_Reverse_int_int_L0 : C :=
 (.seq ((.seq (.reg [.op (.mv 7 (.t 2)),.op (.mv 8 (.t 3)),.op (.bin 9 .lss (.t 7) (.t 8))])
 (.ite (.t 9)
 (.skip)
 (.seq (.keep []) (.exit 0)))))
 ((.seq (.blk 1 (.drw [] [0,1,2,3,4,5,6,7,8,9,10,11,12,13,14,15] [.op (.mv 14 (.t 0)),.op (.mv 15 (.t 2)),.op (.mv 16 (.t 0)),.op (.mv 17 (.t 3)),.op (.mv 18 (.t 0)),.op (.mv 19 (.t 3)),.op (.ixs 20 (.t 18) (.t 19) 1),.op (.ld 21 (.t 20) 1 false),.op (.mv 22 (.t 0)),.op (.mv 23 (.t 2)),.op (.ixs 24 (.t 22) (.t 23) 1),.op (.ld 25 (.t 24) 1 false),.op (.ixs 26 (.t 14) (.t 15) 1),.op (.st (.t 26) (.t 21) 1 false),.op (.ixs 27 (.t 16) (.t 17) 1),.op (.st (.t 27) (.t 25) 1 false)]))
 (.reg [.op (.mv 10 (.t 2)),.op (.bin 11 .add (.t 10) (.k (.i .i64 1))),.op (.mv 12 (.t 3)),.op (.bin 13 .sub (.t 12) (.k (.i .i64 1))),.op (.mv 2 (.t 11)),.op (.mv 3 (.t 13))]))))
def F_slices_Reverse_int_int : F := .mk
 ((.seq (.reg [.op (.mv 4 (.t 0)),.op (.len 5 (.t 4) .sl),.op (.bin 6 .sub (.t 5) (.k (.i .i64 1))),.op (.mv 2 k0),.op (.mv 3 (.t 6))])
 (.blk 0 (.loop [0,2,3] F_slices_Reverse_int_int_L0))))
 [] false none
def F_spec_layer_abstract : F := .mk
 ((.seq (.reg [.op (.box 3 (.t 0) 2 true),.op (.box 4 (.t 1) 4 true),.op (.box 5 (.t 2) 9 true),.op (.mv 6 (.k (.b false)))])
 ((.seq (.reg [.op (.fa 7 (.t 3) 1 1),.op (.ld 8 (.t 7) 1 false),.op (.ld 9 (.t 4) 4 true),.op (.ld 10 (.t 5) 9 true),.op (.callv (some 11) (.t 8) [(.t 9),(.t 10)]),.op (.bin 12 .eql (.t 11) k0),.op (.mv 6 (.t 12))])
 (.ret)))))
 [.t 6] false none
def F_spec_layer_check : F := .mk
 ((.seq (.reg [.op (.box 3 (.t 0) 2 true),.op (.box 4 (.t 1) 4 true),.op (.box 5 (.t 2) 9 true),.op (.mv 6 k0)])
 ((.seq (.reg [.op (.fa 7 (.t 3) 1 1),.op (.ld 8 (.t 7) 1 false),.op (.ld 9 (.t 4) 4 true),.op (.ld 10 (.t 5) 9 true),.op (.callv (some 11) (.t 8) [(.t 9),(.t 10)]),.op (.mv 6 (.t 11))])
 (.ret)))))
 [.t 6] false none
def F_spec_layer_start : F := .mk
 ((.seq (.reg [.op (.box 2 (.t 0) 2 true),.op (.box 3 (.t 1) 4 true),.op (.new 4 zR),.op (.mv 5 k0)])
 ((.seq (.reg [.op (.fa 6 (.t 2) 0 1),.op (.ld 7 (.t 6) 1 false),.op (.ld 8 (.t 3) 4 true),.op (.callv (some 9) (.t 7) [(.t 8)]),.op (.ext 10 (.t 9) 0),.op (.ext 11 (.t 9) 1),.op (.st (.t 4) (.t 10) 9 false),.op (.mv 5 (.t 11))])
 (.ret)))))
 [.c 4 9 true,.t 5] false none
def F_spec_mutexes_effect : F := .mk
 ((.seq (.reg [.op (.box 4 (.t 0) 2 true),.op (.box 5 (.t 1) 4 true),.op (.box 6 (.t 2) 9 false),.op (.box 7 (.t 3) 5 true),.op (.new 8 zR),.op (.mv 9 k0),.op (.mv 10 (.k (.b false))),.op (.mv 11 k0)])
 ((.seq (.blk 0 ((.seq (.reg [.op (.fa 14 (.t 7) 1 1),.op (.ld 15 (.t 14) 1 false),.op (.bin 16 .eql (.t 15) (.k (.i .i64 52))),.op (.mv 17 (.t 16)),.sc false 23 17 [.op (.fa 18 (.t 6) 0 1),.op (.ld 19 (.t 18) 1 false),.op (.fa 20 (.t 7) 0 1),.op (.ld 21 (.t 20) 1 false),.op (.bin 22 .neq (.t 19) (.t 21))] (.t 22),.op (.mv 13 (.t 23))])
 (.ite (.t 13)
 ((.seq (.reg [.op (.ld 24 (.t 6) 9 true),.op (.st (.t 8) (.t 24) 9 false),.op (.mv 9 k0),.op (.mv 10 (.k (.b false))),.op (.mv 11 (.k (.i .i64 20)))])
 (.ret)))
 ((.seq (.reg [.op (.fa 26 (.t 7) 1 1),.op (.ld 27 (.t 26) 1 false),.op (.bin 28 .eql (.t 27) (.k (.i .i64 52))),.op (.mv 25 (.t 28))])
 (.ite (.t 25)
 (.reg [.op (.fa 29 (.t 6) 0 1),.op (.st (.t 29) (.k (.i .i64 (-1))) 1 false)])
 ((.seq (.reg [.op (.fa 31 (.t 6) 0 1),.op (.ld 32 (.t 31) 1 false),.op (.bin 33 .lss (.t 32) k0),.op (.mv 30 (.t 33))])
 (.ite (.t 30)
 (.reg [.op (.fa 34 (.t 7) 0 1),.op (.ld 35 (.t 34) 1 false),.op (.fa 36 (.t 6) 0 1),.op (.st (.t 36) (.t 35) 1 false)])
 ((.seq (.reg [.op (.fa 38 (.t 7) 1 1),.op (.ld 39 (.t 38) 1 false),.op (.bin 40 .eql (.t 39) (.k (.i .i64 51))),.op (.mv 37 (.t 40))])
 (.ite (.t 37)
 ((.seq (.reg [.op (.ld 41 (.t 6) 9 true),.op (.st (.t 8) (.t 41) 9 false),.op (.mv 9 k0),.op (.mv 10 (.k (.b false))),.op (.mv 11 k0)])
 (.ret)))
 ((.seq (.reg [.op (.fa 43 (.t 6) 0 1),.op (.ld 44 (.t 43) 1 false),.op (.fa 45 (.t 7) 0 1),.op (.ld 46 (.t 45) 1 false),.op (.bin 47 .eql (.t 44) (.t 46)),.op (.mv 42 (.t 47))])
 (.ite (.t 42)
 ((.seq (.reg [.op (.ld 48 (.t 6) 9 true),.op (.st (.t 8) (.t 48) 9 false),.op (.mv 9 k0),.op (.mv 10 (.k (.b false))),.op (.mv 11 (.k (.i .i64 17)))])
 (.ret)))
 ((.seq (.reg [.op (.ld 12 (.t 6) 9 true),.op (.st (.t 8) (.t 12) 9 false),.op (.mv 9 k0),.op (.mv 10 (.k (.b false))),.op (.mv 11 (.k (.i .i64 29)))])
 (.ret)))))))))))))))))))
 ((.seq (.reg [.op (.ld 49 (.t 6) 9 true),.op (.st (.t 8) (.t 49) 9 false),.op (.mv 9 k0),.op (.mv 10 (.k (.b true))),.op (.mv 11 k0)])
 (.ret)))))))
 [.c 8 9 true,.t 9,.t 10,.t 11] false none
def F_spec_locks_effect : F := .mk
 ((.seq (.reg [.op (.box 4 (.t 0) 2 true),.op (.box 5 (.t 1) 4 true),.op (.box 6 (.t 2) 9 false),.op (.box 7 (.t 3) 5 true),.op (.new 8 zR),.op (.mv 9 k0),.op (.mv 10 (.k (.b false))),.op (.mv 11 k0)])
 ((.seq (.reg [.op (.fa 15 (.t 6) 3 1),.op (.ld 16 (.t 15) 1 false),.op (.fa 17 (.t 7) 0 1),.op (.ld 18 (.t 17) 1 false),.op (.call (some 19) slices_BinarySearch_int_int [(.t 16),(.t 18)]),.op (.mv 14 (.t 19)),.op (.ext 20 (.t 14) 0),.op (.ext 21 (.t 14) 1),.op (.mv 12 (.t 20)),.op (.mv 13 (.t 21))])
 ((.seq ((.seq (.reg [.op (.fa 22 (.t 7) 1 1),.op (.ld 23 (.t 22) 1 false)])
 (.blk 0 ((.seq (.reg [.op (.bin 25 .eql (.t 23) (.k (.i .i64 54))),.op (.mv 24 (.t 25))])
 (.ite (.t 24)
 ((.seq ((.seq (.reg [.op (.mv 26 (.t 13)),.op (.un 27 .not (.t 26))])
 (.ite (.t 27)
 ((.seq (.reg [.op (.ld 28 (.t 6) 9 true),.op (.st (.t 8) (.t 28) 9 false),.op (.mv 9 k0),.op (.mv 10 (.k (.b false))),.op (.mv 11 (.k (.i .i64 20)))])
 (.ret)))
 (.skip))))
 ((.seq (.reg [.op (.fa 29 (.t 6) 3 1),.op (.ld 30 (.t 29) 1 false),.op (.callk (some 31) slices_Clone_int_int [(.t 30)]),.op (.mv 32 (.t 12)),.op (.mv 33 (.t 12)),.op (.bin 34 .add (.t 33) (.k (.i .i64 1))),.op (.callz 35 slices_Delete_int_int [(.t 31),(.t 32),(.t 34)]),.op (.fa 36 (.t 6) 3 1),.op (.st (.t 36) (.t 35) 1 false)])
 ((.seq (.reg [.op (.ld 37 (.t 6) 9 true),.op (.st (.t 8) (.t 37) 9 false),.op (.mv 9 k0),.op (.mv 10 (.k (.b true))),.op (.mv 11 k0)])
 (.ret)))))))
 ((.seq (.reg [.op (.bin 39 .eql (.t 23) (.k (.i .i64 56))),.op (.mv 38 (.t 39))])
 (.ite (.t 38)
 ((.seq ((.seq (.reg [.op (.fa 40 (.t 6) 0 1),.op (.ld 41 (.t 40) 1 false),.op (.fa 42 (.t 7) 0 1),.op (.ld 43 (.t 42) 1 false),.op (.bin 44 .neq (.t 41) (.t 43))])
 (.ite (.t 44)
 ((.seq (.reg [.op (.ld 45 (.t 6) 9 true),.op (.st (.t 8) (.t 45) 9 false),.op (.mv 9 k0),.op (.mv 10 (.k (.b false))),.op (.mv 11 (.k (.i .i64 20)))])
 (.ret)))
 (.skip))))
 ((.seq (.reg [.op (.fa 46 (.t 6) 0 1),.op (.st (.t 46) (.k (.i .i64 (-1))) 1 false)])
 ((.seq (.reg [.op (.ld 47 (.t 6) 9 true),.op (.st (.t 8) (.t 47) 9 false),.op (.mv 9 k0),.op (.mv 10 (.k (.b true))),.op (.mv 11 k0)])
 (.ret)))))))
 (.skip))))))))))
 ((.seq ((.seq (.reg [.op (.mv 48 (.t 13)),.op (.mv 49 (.t 48)),.sc true 55 49 [.op (.fa 50 (.t 6) 0 1),.op (.ld 51 (.t 50) 1 false),.op (.fa 52 (.t 7) 0 1),.op (.ld 53 (.t 52) 1 false),.op (.bin 54 .eql (.t 51) (.t 53))] (.t 54)])
 (.ite (.t 55)
 ((.seq (.reg [.op (.ld 56 (.t 6) 9 true),.op (.st (.t 8) (.t 56) 9 false),.op (.mv 9 k0),.op (.mv 10 (.k (.b false))),.op (.mv 11 (.k (.i .i64 17)))])
 (.ret)))
 (.skip))))
 ((.seq ((.seq (.reg [.op (.fa 57 (.t 6) 0 1),.op (.ld 58 (.t 57) 1 false),.op (.bin 59 .geq (.t 58) k0),.op (.mv 60 (.t 59)),.sc true 70 60 [.op (.fa 61 (.t 7) 1 1),.op (.ld 62 (.t 61) 1 false),.op (.bin 63 .eql (.t 62) (.k (.i .i64 55))),.op (.mv 64 (.t 63)),.sc false 69 64 [.op (.fa 65 (.t 6) 3 1),.op (.ld 66 (.t 65) 1 false),.op (.len 67 (.t 66) .sl),.op (.bin 68 .gtr (.t 67) k0)] (.t 68)] (.t 69)])
 (.ite (.t 70)
 ((.seq (.reg [.op (.ld 71 (.t 6) 9 true),.op (.st (.t 8) (.t 71) 9 false),.op (.mv 9 k0),.op (.mv 10 (.k (.b false))),.op (.mv 11 (.k (.i .i64 29)))])
 (.ret)))
 (.skip))))
 ((.seq ((.seq (.reg [.op (.fa 72 (.t 7) 1 1),.op (.ld 73 (.t 72) 1 false),.op (.bin 74 .eql (.t 73) (.k (.i .i64 55)))])
 (.ite (.t 74)
 (.reg [.op (.fa 75 (.t 7) 0 1),.op (.ld 76 (.t 75) 1 false),.op (.fa 77 (.t 6) 0 1),.op (.st (.t 77) (.t 76) 1 false)])
 (.drw [] [0,1,3,4,5,6,2,7,8,9] [.op (.fa 78 (.t 6) 3 1),.op (.ld 79 (.t 78) 1 false),.op (.mv 81 (.t 12)),.op (.fad 82 (.t 7) 0 1),.op (.ldd 83 (.t 82) 1 false),.op (.buildSl 84 1 1 [(.i .i64 0)] [(0,(.t 83))] true),.op (.callk (some 80) slices_Clone_int_int [(.t 79)]),.op (.callz 85 slices_Insert_int_int [(.t 80),(.t 81),(.t 84)]),.op (.fa 86 (.t 6) 3 1),.op (.st (.t 86) (.t 85) 1 false)]))))
 ((.seq (.reg [.op (.ld 87 (.t 6) 9 true),.op (.st (.t 8) (.t 87) 9 false),.op (.mv 9 k0),.op (.mv 10 (.k (.b true))),.op (.mv 11 k0)])
 (.ret)))))))))))))))
 [.c 8 9 true,.t 9,.t 10,.t 11] false none
def F_slices_Delete_int_int : F := .mk
 ((.seq (.reg [.op (.mv 6 (.k (.sl 1 true [])))])
 ((.seq (.reg [.op (.mv 8 (.t 0)),.op (.mv 9 (.t 1)),.op (.mv 10 (.t 2)),.op (.mv 11 (.t 0)),.op (.len 12 (.t 11) .sl),.op (.sl3 13 (.t 8) (.t 9) (.t 10) (.t 12) 1)])
 ((.seq ((.seq (.reg [.op (.mv 14 (.t 1)),.op (.mv 15 (.t 2)),.op (.bin 16 .eql (.t 14) (.t 15))])
 (.ite (.t 16)
 ((.seq (.reg [.op (.mv 17 (.t 0)),.op (.mv 6 (.t 17))])
 (.ret)))
 (.skip))))
 ((.seq (.reg [.op (.mv 18 (.t 0)),.op (.len 19 (.t 18) .sl),.op (.mv 7 (.t 19))])
 ((.seq (.drw [] [0,1,2,3,4,5,6,7] [.op (.mv 20 (.t 0)),.op (.mv 21 (.t 1)),.op (.sl 22 (.t 20) none (some (.t 21)) 1),.op (.mv 23 (.t 0)),.op (.mv 24 (.t 2)),.op (.sl 25 (.t 23) (some (.t 24)) none 1),.op (.app 26 (.t 22) (.t 25) 1),.op (.mv 0 (.t 26))])
 ((.seq (.reg [.op (.mv 27 (.t 0)),.op (.mv 28 (.t 0)),.op (.len 29 (.t 28) .sl),.op (.mv 30 (.t 7)),.op (.sl 31 (.t 27) (some (.t 29)) (some (.t 30)) 1),.op (.clr none (.t 31) 1 [(.i .i64 0)])])
 ((.seq (.reg [.op (.mv 32 (.t 0)),.op (.mv 6 (.t 32))])
 (.ret)))))))))))))))
 [.t 6] true none
def F_spec_semaphores_effect : F := .mk
 ((.seq (.reg [.op (.box 4 (.t 0) 2 true),.op (.box 5 (.t 1) 4 true),.op (.box 6 (.t 2) 9 false),.op (.box 7 (.t 3) 5 true),.op (.new 8 zR),.op (.mv 9 k0),.op (.mv 10 (.k (.b false))),.op (.mv 11 k0)])
 ((.seq (.blk 0 ((.seq (.reg [.op (.fa 14 (.t 7) 1 1),.op (.ld 15 (.t 14) 1 false),.op (.bin 16 .eql (.t 15) (.k (.i .i64 62))),.op (.mv 17 (.t 16)),.sc false 26 17 [.op (.fa 18 (.t 6) 1 1),.op (.ld 19 (.t 18) 1 false),.op (.fa 20 (.t 7) 2 1),.op (.ld 21 (.t 20) 1 false),.op (.bin 22 .add (.t 19) (.t 21)),.op (.fa 23 (.t 5) 2 1),.op (.ld 24 (.t 23) 1 false),.op (.bin 25 .gtr (.t 22) (.t 24))] (.t 25),.op (.mv 13 (.t 26))])
 (.ite (.t 13)
 ((.seq (.reg [.op (.ld 27 (.t 6) 9 true),.op (.st (.t 8) (.t 27) 9 false),.op (.mv 9 k0),.op (.mv 10 (.k (.b false))),.op (.mv 11 (.k (.i .i64 17)))])
 (.ret)))
 ((.seq (.reg [.op (.fa 29 (.t 7) 1 1),.op (.ld 30 (.t 29) 1 false),.op (.bin 31 .eql (.t 30) (.k (.i .i64 62))),.op (.mv 28 (.t 31))])
 (.ite (.t 28)
 (.reg [.op (.fa 32 (.t 6) 1 1),.op (.ld 33 (.t 32) 1 false),.op (.fa 34 (.t 7) 2 1),.op (.ld 35 (.t 34) 1 false),.op (.bin 36 .add (.t 33) (.t 35)),.op (.fa 37 (.t 6) 1 1),.op (.st (.t 37) (.t 36) 1 false)])
 ((.seq (.reg [.op (.fa 39 (.t 6) 1 1),.op (.ld 40 (.t 39) 1 false),.op (.fa 41 (.t 7) 2 1),.op (.ld 42 (.t 41) 1 false),.op (.bin 43 .geq (.t 40) (.t 42)),.op (.mv 38 (.t 43))])
 (.ite (.t 38)
 (.reg [.op (.fa 44 (.t 6) 1 1),.op (.ld 45 (.t 44) 1 false),.op (.fa 46 (.t 7) 2 1),.op (.ld 47 (.t 46) 1 false),.op (.bin 48 .sub (.t 45) (.t 47)),.op (.fa 49 (.t 6) 1 1),.op (.st (.t 49) (.t 48) 1 false)])
 ((.seq (.reg [.op (.fa 51 (.t 7) 1 1),.op (.ld 52 (.t 51) 1 false),.op (.bin 53 .eql (.t 52) (.k (.i .i64 61))),.op (.mv 50 (.t 53))])
 (.ite (.t 50)
 ((.seq (.reg [.op (.ld 54 (.t 6) 9 true),.op (.st (.t 8) (.t 54) 9 false),.op (.mv 9 k0),.op (.mv 10 (.k (.b false))),.op (.mv 11 k0)])
 (.ret)))
 ((.seq (.reg [.op (.ld 12 (.t 6) 9 true),.op (.st (.t 8) (.t 12) 9 false),.op (.mv 9 k0),.op (.mv 10 (.k (.b false))),.op (.mv 11 (.k (.i .i64 29)))])
 (.ret))))))))))))))))
 ((.seq (.reg [.op (.ld 55 (.t 6) 9 true),.op (.st (.t 8) (.t 55) 9 false),.op (.mv 9 k0),.op (.mv 10 (.k (.b true))),.op (.mv 11 k0)])
 (.ret)))))))
 [.c 8 9 true,.t 9,.t 10,.t 11] false none
def F_spec_barriers_abstract : F := .mk
 ((.seq (.reg [.op (.box 3 (.t 0) 2 true),.op (.box 4 (.t 1) 4 true),.op (.box 5 (.t 2) 9 false),.op (.mv 6 (.k (.b false)))])
 ((.seq (.reg [.op (.fa 8 (.t 5) 8 1),.op (.ld 9 (.t 8) 1 false),.op (.mv 7 (.t 9))])
 ((.seq (.reg [.op (.fa 10 (.t 5) 8 1),.op (.st (.t 10) k0 1 false)])
 ((.seq (.reg [.op (.mv 11 (.t 7)),.op (.bin 12 .geq (.t 11) k0),.op (.mv 13 (.t 12)),.sc false 18 13 [.op (.mv 14 (.t 7)),.op (.fa 15 (.t 4) 2 1),.op (.ld 16 (.t 15) 1 false),.op (.bin 17 .lss (.t 14) (.t 16))] (.t 17),.op (.mv 19 (.t 18)),.sc false 27 19 [.op (.fa 20 (.t 3) 0 2),.op (.fa 21 (.t 20) 1 1),.op (.ld 22 (.t 21) 1 false),.op (.ld 23 (.t 4) 4 true),.op (.ld 24 (.t 5) 9 true),.op (.callv (some 25) (.t 22) [(.t 23),(.t 24)]),.op (.bin 26 .eql (.t 25) k0)] (.t 26),.op (.mv 6 (.t 27))])
 (.ret)))))))))
 [.t 6] false none
def F_spec_barriers_effect : F := .mk
 ((.seq (.reg [.op (.box 4 (.t 0) 2 true),.op (.box 5 (.t 1) 4 true),.op (.box 6 (.t 2) 9 false),.op (.box 7 (.t 3) 5 true),.op (.new 8 zR),.op (.mv 9 k0),.op (.mv 10 (.k (.b false))),.op (.mv 11 k0)])
 ((.seq (.reg [.op (.fa 13 (.t 6) 8 1),.op (.ld 14 (.t 13) 1 false),.op (.mv 12 (.t 14))])
 ((.seq (.reg [.op (.fa 15 (.t 6) 8 1),.op (.ld 16 (.t 15) 1 false),.op (.bin 17 .add (.t 16) (.k (.i .i64 1))),.op (.fa 18 (.t 6) 8 1),.op (.st (.t 18) (.t 17) 1 false)])
 ((.seq ((.seq (.reg [.op (.fa 19 (.t 6) 8 1),.op (.ld 20 (.t 19) 1 false),.op (.fa 21 (.t 5) 2 1),.op (.ld 22 (.t 21) 1 false),.op (.bin 23 .eql (.t 20) (.t 22))])
 (.ite (.t 23)
 ((.seq ((.seq (.reg [.op (.fa 24 (.t 6) 1 1),.op (.ld 25 (.t 24) 1 false),.op (.bin 26 .eql (.t 25) (.k (.i .i64 1099511627776)))])
 (.ite (.t 26)
 ((.seq (.reg [.op (.ld 27 (.t 6) 9 true),.op (.st (.t 8) (.t 27) 9 false),.op (.mv 9 k0),.op (.mv 10 (.k (.b false))),.op (.mv 11 (.k (.i .i64 4)))])
 (.ret)))
 (.skip))))
 ((.seq (.reg [.op (.fa 28 (.t 6) 8 1),.op (.st (.t 28) k0 1 false)])
 (.reg [.op (.fa 29 (.t 6) 1 1),.op (.ld 30 (.t 29) 1 false),.op (.bin 31 .add (.t 30) (.k (.i .i64 1))),.op (.fa 32 (.t 6) 1 1),.op (.st (.t 32) (.t 31) 1 false)])))))
 (.skip))))
 ((.seq (.reg [.op (.ld 33 (.t 6) 9 true),.op (.mv 34 (.t 12)),.op (.st (.t 8) (.t 33) 9 false),.op (.mv 9 (.t 34)),.op (.mv 10 (.k (.b true))),.op (.mv 11 k0)])
 (.ret)))))))))))
 [.c 8 9 true,.t 9,.t 10,.t 11] false none
def F_spec_channels_abstract : F := .mk
 ((.seq (.reg [.op (.box 3 (.t 0) 2 true),.op (.box 4 (.t 1) 4 true),.op (.box 5 (.t 2) 9 true),.op (.mv 6 (.k (.b false)))])
 ((.seq (.drw [] [0,1,2,3,4,5,6,7,8,9,10,11,12,13,14,15,16,17] [.op (.fad 7 (.t 3) 0 2),.op (.fad 8 (.t 7) 1 1),.op (.ldd 9 (.t 8) 1 false),.op (.ldd 10 (.t 4) 4 true),.op (.build 11 zR [(0,1,(.k (.i .i64 (-1))))]),.op (.callv (some 12) (.t 9) [(.t 10),(.t 11)]),.op (.bin 13 .eql (.t 12) k0),.op (.mv 14 (.t 13)),.sc false 23 14 [.op (.fad 15 (.t 3) 0 2),.op (.fad 16 (.t 15) 1 1),.op (.ldd 17 (.t 16) 1 false),.op (.ldd 18 (.t 4) 4 true),.op (.call (some 19) spec_room [(.t 18)]),.op (.ldd 20 (.t 5) 9 true),.op (.callv (some 21) (.t 17) [(.t 19),(.t 20)]),.op (.bin 22 .eql (.t 21) k0)] (.t 22),.op (.mv 6 (.t 23))])
 (.ret)))))
 [.t 6] false none
def F_spec_channels_effect : F := .mk
 ((.seq (.reg [.op (.box 4 (.t 0) 2 true),.op (.box 5 (.t 1) 4 true),.op (.box 6 (.t 2) 9 false),.op (.box 7 (.t 3) 5 true),.op (.new 8 zR),.op (.mv 9 k0),.op (.mv 10 (.k (.b false))),.op (.mv 11 k0)])
 ((.seq ((.seq (.reg [.op (.fa 13 (.t 7) 1 1),.op (.ld 14 (.t 13) 1 false)])
 (.blk 0 ((.seq (.reg [.op (.bin 20 .eql (.t 14) (.k (.i .i64 64))),.op (.mv 19 (.t 20))])
 (.ite (.t 19)
 ((.seq ((.seq (.reg [.op (.fa 21 (.t 6) 7 1),.op (.ld 22 (.t 21) 1 false)])
 (.ite (.t 22)
 ((.seq (.reg [.op (.ld 23 (.t 6) 9 true),.op (.st (.t 8) (.t 23) 9 false),.op (.mv 9 k0),.op (.mv 10 (.k (.b false))),.op (.mv 11 k0)])
 (.ret)))
 (.skip))))
 ((.seq ((.seq (.drw [] [0,1,2,3,4,5,6] [.op (.fa 24 (.t 6) 5 1),.op (.ld 25 (.t 24) 1 false),.op (.len 26 (.t 25) .sl),.op (.ldd 27 (.t 5) 4 true),.op (.call (some 28) spec_room [(.t 27)]),.op (.fld 29 (.t 28) 2 1 false),.op (.bin 30 .geq (.t 26) (.t 29))])
 (.ite (.t 30)
 ((.seq (.reg [.op (.ld 31 (.t 6) 9 true),.op (.st (.t 8) (.t 31) 9 false),.op (.mv 9 k0),.op (.mv 10 (.k (.b false))),.op (.mv 11 (.k (.i .i64 29)))])
 (.ret)))
 (.skip))))
 (.drw [] [0,1,3,4,5,2,6,7,8] [.op (.fa 32 (.t 6) 5 1),.op (.ld 33 (.t 32) 1 false),.op (.fad 35 (.t 7) 2 1),.op (.ldd 36 (.t 35) 1 false),.op (.buildSl 37 1 1 [(.i .i64 0)] [(0,(.t 36))] true),.op (.callk (some 34) slices_Clone_int_int [(.t 33)]),.op (.apk 38 (.t 34) (.t 37) 1),.op (.fa 39 (.t 6) 5 1),.op (.st (.t 39) (.t 38) 1 false)])))))
 ((.seq (.reg [.op (.bin 41 .eql (.t 14) (.k (.i .i64 65))),.op (.mv 40 (.t 41))])
 (.ite (.t 40)
 ((.seq ((.seq (.reg [.op (.fa 42 (.t 6) 5 1),.op (.ld 43 (.t 42) 1 false),.op (.len 44 (.t 43) .sl),.op (.bin 45 .eql (.t 44) k0)])
 (.ite (.t 45)
 ((.seq ((.seq (.reg [.op (.fa 46 (.t 6) 7 1),.op (.ld 47 (.t 46) 1 false)])
 (.ite (.t 47)
 ((.seq (.reg [.op (.ld 48 (.t 6) 9 true),.op (.st (.t 8) (.t 48) 9 false),.op (.mv 9 k0),.op (.mv 10 (.k (.b false))),.op (.mv 11 k0)])
 (.ret)))
 (.skip))))
 ((.seq (.reg [.op (.ld 49 (.t 6) 9 true),.op (.st (.t 8) (.t 49) 9 false),.op (.mv 9 k0),.op (.mv 10 (.k (.b false))),.op (.mv 11 (.k (.i .i64 29)))])
 (.ret)))))
 (.skip))))
 ((.seq (.reg [.op (.fa 50 (.t 6) 5 1),.op (.ld 51 (.t 50) 1 false),.op (.ixs 52 (.t 51) k0 1),.op (.ld 53 (.t 52) 1 false),.op (.mv 12 (.t 53))])
 ((.seq (.reg [.op (.fa 54 (.t 6) 5 1),.op (.ld 55 (.t 54) 1 false),.op (.sl 56 (.t 55) (some (.k (.i .i64 1))) none 1),.op (.callz 57 slices_Clone_int_int [(.t 56)]),.op (.fa 58 (.t 6) 5 1),.op (.st (.t 58) (.t 57) 1 false)])
 ((.seq (.reg [.op (.ld 59 (.t 6) 9 true),.op (.mv 60 (.t 12)),.op (.st (.t 8) (.t 59) 9 false),.op (.mv 9 (.t 60)),.op (.mv 10 (.k (.b true))),.op (.mv 11 k0)])
 (.ret)))))))))
 ((.seq ((.seq (.reg [.op (.fa 15 (.t 6) 7 1),.op (.ld 16 (.t 15) 1 false)])
 (.ite (.t 16)
 ((.seq (.reg [.op (.ld 17 (.t 6) 9 true),.op (.st (.t 8) (.t 17) 9 false),.op (.mv 9 k0),.op (.mv 10 (.k (.b false))),.op (.mv 11 (.k (.i .i64 17)))])
 (.ret)))
 (.skip))))
 (.reg [.op (.fa 18 (.t 6) 7 1),.op (.st (.t 18) (.k (.b true)) 1 false)]))))))))))))
 ((.seq (.reg [.op (.ld 61 (.t 6) 9 true),.op (.st (.t 8) (.t 61) 9 false),.op (.mv 9 k0),.op (.mv 10 (.k (.b true))),.op (.mv 11 k0)])
 (.ret)))))))
 [.c 8 9 true,.t 9,.t 10,.t 11] false none
def F_spec_room : F := .mk
 ((.seq (.reg [.op (.box 1 (.t 0) 4 false),.op (.new 2 [(.s []),(.i .i64 0),(.i .i64 0),(.i .i64 0)])])
 ((.seq (.reg [.op (.fa 3 (.t 1) 2 1),.op (.ld 4 (.t 3) 1 false),.op (.mx 5 (.k (.i .i64 1)) (.t 4)),.op (.fa 6 (.t 1) 2 1),.op (.st (.t 6) (.t 5) 1 false)])
 ((.seq (.reg [.op (.ld 7 (.t 1) 4 true),.op (.st (.t 2) (.t 7) 4 false)])
 (.ret)))))))
 [.c 2 4 true] false none
def F_spec_topics_abstract : F := .mk
 ((.seq (.reg [.op (.box 3 (.t 0) 2 true),.op (.box 4 (.t 1) 4 true),.op (.box 5 (.t 2) 9 true),.op (.mv 6 (.k (.b false)))])
 ((.seq (.drw [] [0,1,2,3,4,5,6,7,8,9,10,11,12,13,14,15,16,17] [.op (.fad 7 (.t 3) 0 2),.op (.fad 8 (.t 7) 1 1),.op (.ldd 9 (.t 8) 1 false),.op (.ldd 10 (.t 4) 4 true),.op (.build 11 zR [(0,1,(.k (.i .i64 (-1))))]),.op (.callv (some 12) (.t 9) [(.t 10),(.t 11)]),.op (.bin 13 .eql (.t 12) k0),.op (.mv 14 (.t 13)),.sc false 23 14 [.op (.fad 15 (.t 3) 0 2),.op (.fad 16 (.t 15) 1 1),.op (.ldd 17 (.t 16) 1 false),.op (.ldd 18 (.t 4) 4 true),.op (.call (some 19) spec_room [(.t 18)]),.op (.ldd 20 (.t 5) 9 true),.op (.callv (some 21) (.t 17) [(.t 19),(.t 20)]),.op (.bin 22 .eql (.t 21) k0)] (.t 22),.op (.mv 6 (.t 23))])
 (.ret)))))
 [.t 6] false none
def F_spec_topics_effect_L0 : C :=
 (.seq (.reg [.op (.bin 33 .lss (.t 32) (.t 31))])
 ((.seq (.ite (.t 33)
 (.skip)
 (.seq (.keep [6,8,14,15]) (.exit 1)))
 ((.seq (.blk 2 ((.seq (.reg [.op (.mv 34 (.t 32)),.op (.mv 16 (.t 34))])
 ((.seq ((.seq (.drw [] [0,1,2,3,4,5,6,7,8,9] [.op (.mv 35 (.t 14)),.op (.mv 36 (.t 16)),.op (.ixs 37 (.t 35) (.t 36) 2),.op (.fa 38 (.t 37) 1 1),.op (.ld 39 (.t 38) 1 false),.op (.len 40 (.t 39) .sl),.op (.ldd 41 (.t 5) 4 true),.op (.call (some 42) spec_room [(.t 41)]),.op (.fld 43 (.t 42) 2 1 false),.op (.bin 44 .geq (.t 40) (.t 43))])
 (.ite (.t 44)
 ((.seq (.reg [.op (.ld 45 (.t 6) 9 true),.op (.st (.t 8) (.t 45) 9 false),.op (.mv 9 k0),.op (.mv 10 (.k (.b false))),.op (.mv 11 (.k (.i .i64 29)))])
 (.seq (.keep [8,9,10,11]) .ret)))
 (.skip))))
 (.drw [] [0,1,2,3,4,5,6,8,9,10,7,11,12,13,14] [.op (.mv 46 (.t 14)),.op (.mv 47 (.t 16)),.op (.mv 48 (.t 14)),.op (.mv 49 (.t 16)),.op (.ixs 50 (.t 48) (.t 49) 2),.op (.fa 51 (.t 50) 1 1),.op (.ld 52 (.t 51) 1 false),.op (.fad 54 (.t 7) 2 1),.op (.ldd 55 (.t 54) 1 false),.op (.buildSl 56 1 1 [(.i .i64 0)] [(0,(.t 55))] true),.op (.callk (some 53) slices_Clone_int_int [(.t 52)]),.op (.apk 57 (.t 53) (.t 56) 1),.op (.ixs 58 (.t 46) (.t 47) 2),.op (.fa 59 (.t 58) 1 1),.op (.st (.t 59) (.t 57) 1 false)]))))))
 (.reg [.op (.bin 60 .add (.t 32) (.k (.i .i64 1))),.op (.mv 32 (.t 60))]))))))
def F_spec_topics_effect : F := .mk
 ((.seq (.reg [.op (.box 4 (.t 0) 2 true),.op (.box 5 (.t 1) 4 true),.op (.box 6 (.t 2) 9 false),.op (.box 7 (.t 3) 5 true),.op (.new 8 zR),.op (.mv 9 k0),.op (.mv 10 (.k (.b false))),.op (.mv 11 k0)])
 ((.seq (.reg [.op (.fa 18 (.t 6) 6 1),.op (.ld 19 (.t 18) 1 false),.op (.fa 20 (.t 7) 0 1),.op (.ld 21 (.t 20) 1 false),.op (.call (some 22) slices_BinarySearchFunc_api_Cursor_api_Cursor_int [(.t 19),(.t 21),(.k (.fn spec_topics_effectC1 [] []))]),.op (.mv 17 (.t 22)),.op (.ext 23 (.t 17) 0),.op (.ext 24 (.t 17) 1),.op (.mv 12 (.t 23)),.op (.mv 13 (.t 24))])
 ((.seq (.reg [.op (.fa 25 (.t 6) 6 1),.op (.ld 26 (.t 25) 1 false),.op (.callk (some 27) slices_Clone_api_Cursor_api_Cursor [(.t 26)]),.op (.mv 14 (.t 27))])
 ((.seq (.reg [.op (.mv 15 k0)])
 ((.seq ((.seq (.reg [.op (.fa 28 (.t 7) 1 1),.op (.ld 29 (.t 28) 1 false)])
 (.blk 0 ((.seq (.reg [.op (.bin 62 .eql (.t 29) (.k (.i .i64 69))),.op (.mv 61 (.t 62))])
 (.ite (.t 61)
 ((.seq ((.seq (.reg [.op (.mv 63 (.t 13))])
 (.ite (.t 63)
 ((.seq (.reg [.op (.ld 64 (.t 6) 9 true),.op (.st (.t 8) (.t 64) 9 false),.op (.mv 9 k0),.op (.mv 10 (.k (.b false))),.op (.mv 11 (.k (.i .i64 6)))])
 (.ret)))
 (.skip))))
 (.reg [.op (.mv 65 (.t 14)),.op (.mv 66 (.t 12)),.op (.fa 67 (.t 7) 0 1),.op (.ld 68 (.t 67) 1 false),.op (.build 69 [(.i .i64 0),(.sl 1 true [])] [(0,1,(.t 68))]),.op (.buildSl 70 2 1 [(.i .i64 0),(.sl 1 true [])] [(0,(.t 69))] true),.op (.callz 71 slices_Insert_api_Cursor_api_Cursor [(.t 65),(.t 66),(.t 70)]),.op (.mv 14 (.t 71))])))
 ((.seq (.reg [.op (.bin 73 .eql (.t 29) (.k (.i .i64 71))),.op (.mv 72 (.t 73))])
 (.ite (.t 72)
 ((.seq ((.seq (.reg [.op (.mv 74 (.t 13)),.op (.un 75 .not (.t 74))])
 (.ite (.t 75)
 ((.seq (.reg [.op (.ld 76 (.t 6) 9 true),.op (.st (.t 8) (.t 76) 9 false),.op (.mv 9 k0),.op (.mv 10 (.k (.b false))),.op (.mv 11 (.k (.i .i64 20)))])
 (.ret)))
 (.skip))))
 (.reg [.op (.mv 77 (.t 14)),.op (.mv 78 (.t 12)),.op (.mv 79 (.t 12)),.op (.bin 80 .add (.t 79) (.k (.i .i64 1))),.op (.callz 81 slices_Delete_api_Cursor_api_Cursor [(.t 77),(.t 78),(.t 80)]),.op (.mv 14 (.t 81))])))
 ((.seq (.reg [.op (.bin 83 .eql (.t 29) (.k (.i .i64 70))),.op (.mv 82 (.t 83))])
 (.ite (.t 82)
 ((.seq ((.seq (.reg [.op (.mv 84 (.t 13)),.op (.un 85 .not (.t 84))])
 (.ite (.t 85)
 ((.seq (.reg [.op (.ld 86 (.t 6) 9 true),.op (.st (.t 8) (.t 86) 9 false),.op (.mv 9 k0),.op (.mv 10 (.k (.b false))),.op (.mv 11 (.k (.i .i64 20)))])
 (.ret)))
 (.skip))))
 ((.seq ((.seq (.reg [.op (.mv 87 (.t 14)),.op (.mv 88 (.t 12)),.op (.ixs 89 (.t 87) (.t 88) 2),.op (.fa 90 (.t 89) 1 1),.op (.ld 91 (.t 90) 1 false),.op (.len 92 (.t 91) .sl),.op (.bin 93 .eql (.t 92) k0)])
 (.ite (.t 93)
 ((.seq (.reg [.op (.ld 94 (.t 6) 9 true),.op (.st (.t 8) (.t 94) 9 false),.op (.mv 9 k0),.op (.mv 10 (.k (.b false))),.op (.mv 11 (.k (.i .i64 29)))])
 (.ret)))
 (.skip))))
 ((.seq (.reg [.op (.mv 95 (.t 14)),.op (.mv 96 (.t 12)),.op (.ixs 97 (.t 95) (.t 96) 2),.op (.fa 98 (.t 97) 1 1),.op (.ld 99 (.t 98) 1 false),.op (.ixs 100 (.t 99) k0 1),.op (.ld 101 (.t 100) 1 false),.op (.mv 15 (.t 101))])
 (.reg [.op (.mv 102 (.t 14)),.op (.mv 103 (.t 12)),.op (.mv 104 (.t 14)),.op (.mv 105 (.t 12)),.op (.ixs 106 (.t 104) (.t 105) 2),.op (.fa 107 (.t 106) 1 1),.op (.ld 108 (.t 107) 1 false),.op (.sl 109 (.t 108) (some (.k (.i .i64 1))) none 1),.op (.callz 110 slices_Clone_int_int [(.t 109)]),.op (.ixs 111 (.t 102) (.t 103) 2),.op (.fa 112 (.t 111) 1 1),.op (.st (.t 112) (.t 110) 1 false)])))))))
 ((.seq (.reg [.op (.mv 30 (.t 14)),.op (.len 31 (.t 30) .sl),.op (.mv 32 k0)])
 (.blk 1 (.loop [5,6,7,8,14,15,31,32] F_spec_topics_effect_L0))))))))))))))))
 ((.seq (.reg [.op (.mv 113 (.t 14)),.op (.fa 114 (.t 6) 6 1),.op (.st (.t 114) (.t 113) 1 false)])
 ((.seq (.reg [.op (.ld 115 (.t 6) 9 true),.op (.mv 116 (.t 15)),.op (.st (.t 8) (.t 115) 9 false),.op (.mv 9 (.t 116)),.op (.mv 10 (.k (.b true))),.op (.mv 11 k0)])
 (.ret)))))))))))))))
 [.c 8 9 true,.t 9,.t 10,.t 11] false none
def F_slices_BinarySearchFunc_api_Cursor_api_Cursor_int_L0 : C :=
 (.seq ((.seq (.reg [.op (.mv 15 (.t 9)),.op (.mv 16 (.t 10)),.op (.bin 17 .lss (.t 15) (.t 16))])
 (.ite (.t 17)
 (.skip)
 (.seq (.keep [0,1,2,8,9]) (.exit 0)))))
 (.blk 1 ((.seq (.reg [.op (.mv 18 (.t 9)),.op (.mv 19 (.t 10)),.op (.bin 20 .add (.t 18) (.t 19)),.op (.cvi 21 .u64 (.t 20)),.op (.bin 22 .shr (.t 21) (.k (.i .u64 1))),.op (.cvi 23 .i64 (.t 22)),.op (.mv 11 (.t 23))])
 ((.seq (.reg [.op (.mv 24 (.t 2)),.op (.mv 25 (.t 0)),.op (.mv 26 (.t 11)),.op (.ixs 27 (.t 25) (.t 26) 2),.op (.ld 28 (.t 27) 2 true),.op (.mv 29 (.t 1)),.op (.callv (some 30) (.t 24) [(.t 28),(.t 29)]),.op (.bin 31 .lss (.t 30) k0)])
 (.ite (.t 31)
 (.reg [.op (.mv 32 (.t 11)),.op (.bin 33 .add (.t 32) (.k (.i .i64 1))),.op (.mv 9 (.t 33))])
 (.reg [.op (.mv 34 (.t 11)),.op (.mv 10 (.t 34))]))))))))
def F_slices_BinarySearchFunc_api_Cursor_api_Cursor_int : F := .mk
 ((.seq (.reg [.op (.mv 6 k0),.op (.mv 7 (.k (.b false)))])
 ((.seq (.reg [.op (.mv 12 (.t 0)),.op (.len 13 (.t 12) .sl),.op (.mv 8 (.t 13))])
 ((.seq (.reg [.op (.mv 14 (.t 8)),.op (.mv 9 k0),.op (.mv 10 (.t 14))])
 ((.seq (.blk 0 (.loop [0,1,2,8,9,10] F_slices_BinarySearchFunc_api_Cursor_api_Cursor_int_L0))
 ((.seq (.reg [.op (.mv 35 (.t 9)),.op (.mv 36 (.t 9)),.op (.mv 37 (.t 8)),.op (.bin 38 .lss (.t 36) (.t 37)),.op (.mv 39 (.t 38)),.sc false 48 39 [.op (.mv 40 (.t 2)),.op (.mv 41 (.t 0)),.op (.mv 42 (.t 9)),.op (.ixs 43 (.t 41) (.t 42) 2),.op (.ld 44 (.t 43) 2 true),.op (.mv 45 (.t 1)),.op (.callv (some 46) (.t 40) [(.t 44),(.t 45)]),.op (.bin 47 .eql (.t 46) k0)] (.t 47),.op (.mv 6 (.t 35)),.op (.mv 7 (.t 48))])
 (.ret)))))))))))
 [.t 6,.t 7] false none
def F_spec_topics_effectC1 : F := .mk
 ((.seq (.reg [.op (.box 2 (.t 0) 2 true),.op (.mv 4 k0)])
 ((.seq (.reg [.op (.fa 5 (.t 2) 0 1),.op (.ld 6 (.t 5) 1 false),.op (.mv 7 (.t 1)),.op (.bin 8 .sub (.t 6) (.t 7)),.op (.mv 4 (.t 8))])
 (.ret)))))
 [.t 4] false none
def F_spec_limiters_effect : F := .mk
 ((.seq (.reg [.op (.box 4 (.t 0) 2 true),.op (.box 5 (.t 1) 4 true),.op (.box 6 (.t 2) 9 false),.op (.box 7 (.t 3) 5 true),.op (.new 8 zR),.op (.mv 9 k0),.op (.mv 10 (.k (.b false))),.op (.mv 11 k0)])
 ((.seq ((.seq (.reg [.op (.fa 13 (.t 7) 4 1),.op (.ld 14 (.t 13) 1 false),.op (.fa 15 (.t 6) 2 1),.op (.ld 16 (.t 15) 1 false),.op (.bin 17 .lss (.t 14) (.t 16))])
 (.ite (.t 17)
 ((.seq (.reg [.op (.ld 18 (.t 6) 9 true),.op (.st (.t 8) (.t 18) 9 false),.op (.mv 9 k0),.op (.mv 10 (.k (.b false))),.op (.mv 11 (.k (.i .i64 2)))])
 (.ret)))
 (.skip))))
 ((.seq (.reg [.op (.fa 19 (.t 7) 4 1),.op (.ld 20 (.t 19) 1 false),.op (.fa 21 (.t 6) 2 1),.op (.ld 22 (.t 21) 1 false),.op (.bin 23 .sub (.t 20) (.t 22)),.op (.fa 24 (.t 5) 3 1),.op (.ld 25 (.t 24) 1 false),.op (.bin 26 .quo (.t 23) (.t 25)),.op (.mv 12 (.t 26))])
 ((.seq ((.seq (.reg [.op (.mv 27 (.t 12)),.op (.fa 28 (.t 5) 2 1),.op (.ld 29 (.t 28) 1 false),.op (.fa 30 (.t 6) 1 1),.op (.ld 31 (.t 30) 1 false),.op (.bin 32 .sub (.t 29) (.t 31)),.op (.bin 33 .geq (.t 27) (.t 32))])
 (.ite (.t 33)
 (.drw [] [0,1,2,3,4,5,6,7] [.op (.fad 34 (.t 5) 2 1),.op (.ldd 35 (.t 34) 1 false),.op (.fad 36 (.t 7) 4 1),.op (.ldd 37 (.t 36) 1 false),.op (.fa 38 (.t 6) 1 1),.op (.st (.t 38) (.t 35) 1 false),.op (.fa 39 (.t 6) 2 1),.op (.st (.t 39) (.t 37) 1 false)])
 (.drw [] [0,1,2,3,4,5,6,7,8,9,10,11,12,13,14] [.op (.fa 40 (.t 6) 1 1),.op (.ld 41 (.t 40) 1 false),.op (.mv 42 (.t 12)),.op (.bin 43 .add (.t 41) (.t 42)),.op (.fa 44 (.t 6) 2 1),.op (.ld 45 (.t 44) 1 false),.op (.mv 46 (.t 12)),.op (.fad 47 (.t 5) 3 1),.op (.ldd 48 (.t 47) 1 false),.op (.bin 49 .mul (.t 46) (.t 48)),.op (.bin 50 .add (.t 45) (.t 49)),.op (.fa 51 (.t 6) 1 1),.op (.st (.t 51) (.t 43) 1 false),.op (.fa 52 (.t 6) 2 1),.op (.st (.t 52) (.t 50) 1 false)]))))
 ((.seq ((.seq (.reg [.op (.fa 53 (.t 7) 1 1),.op (.ld 54 (.t 53) 1 false),.op (.bin 55 .eql (.t 54) (.k (.i .i64 72)))])
 (.ite (.t 55)
 ((.seq ((.seq (.reg [.op (.fa 56 (.t 6) 1 1),.op (.ld 57 (.t 56) 1 false),.op (.fa 58 (.t 7) 2 1),.op (.ld 59 (.t 58) 1 false),.op (.bin 60 .lss (.t 57) (.t 59))])
 (.ite (.t 60)
 ((.seq (.reg [.op (.ld 61 (.t 6) 9 true),.op (.st (.t 8) (.t 61) 9 false),.op (.mv 9 k0),.op (.mv 10 (.k (.b false))),.op (.mv 11 (.k (.i .i64 29)))])
 (.ret)))
 (.skip))))
 (.reg [.op (.fa 62 (.t 6) 1 1),.op (.ld 63 (.t 62) 1 false),.op (.fa 64 (.t 7) 2 1),.op (.ld 65 (.t 64) 1 false),.op (.bin 66 .sub (.t 63) (.t 65)),.op (.fa 67 (.t 6) 1 1),.op (.st (.t 67) (.t 66) 1 false)])))
 (.skip))))
 ((.seq (.reg [.op (.ld 68 (.t 6) 9 true),.op (.st (.t 8) (.t 68) 9 false),.op (.mv 9 k0),.op (.mv 10 (.k (.b true))),.op (.mv 11 k0)])
 (.ret)))))))))))))
 [.c 8 9 true,.t 9,.t 10,.t 11] false none
def F_spec_futures_effect : F := .mk
 ((.seq (.reg [.op (.box 4 (.t 0) 2 true),.op (.box 5 (.t 1) 4 true),.op (.box 6 (.t 2) 9 false),.op (.box 7 (.t 3) 5 true),.op (.new 8 zR),.op (.mv 9 k0),.op (.mv 10 (.k (.b false))),.op (.mv 11 k0)])
 ((.seq (.blk 0 ((.seq (.reg [.op (.fa 13 (.t 7) 1 1),.op (.ld 14 (.t 13) 1 false),.op (.bin 15 .eql (.t 14) (.k (.i .i64 74))),.op (.mv 16 (.t 15)),.sc false 20 16 [.op (.fa 17 (.t 6) 7 1),.op (.ld 18 (.t 17) 1 false),.op (.un 19 .not (.t 18))] (.t 19),.op (.mv 12 (.t 20))])
 (.ite (.t 12)
 ((.seq (.reg [.op (.ld 21 (.t 6) 9 true),.op (.st (.t 8) (.t 21) 9 false),.op (.mv 9 k0),.op (.mv 10 (.k (.b false))),.op (.mv 11 (.k (.i .i64 29)))])
 (.ret)))
 ((.seq (.reg [.op (.fa 23 (.t 7) 1 1),.op (.ld 24 (.t 23) 1 false),.op (.bin 25 .eql (.t 24) (.k (.i .i64 74))),.op (.mv 22 (.t 25))])
 (.ite (.t 22)
 ((.seq (.drw [] [0,1,2,3,4,5,6] [.op (.ld 26 (.t 6) 9 true),.op (.fa 27 (.t 6) 8 1),.op (.ld 28 (.t 27) 1 false),.op (.st (.t 8) (.t 26) 9 false),.re (.fa 27 (.t 6) 8 1),.re (.ld 28 (.t 27) 1 false),.op (.mv 9 (.t 28)),.op (.mv 10 (.k (.b true))),.op (.mv 11 k0)])
 (.ret)))
 ((.seq (.reg [.op (.fa 30 (.t 6) 7 1),.op (.ld 31 (.t 30) 1 false),.op (.mv 29 (.t 31))])
 (.ite (.t 29)
 ((.seq (.reg [.op (.ld 32 (.t 6) 9 true),.op (.st (.t 8) (.t 32) 9 false),.op (.mv 9 k0),.op (.mv 10 (.k (.b false))),.op (.mv 11 (.k (.i .i64 17)))])
 (.ret)))
 (.skip)))))))))))
 ((.seq (.drw [] [0,1,2,3,4,5] [.op (.fad 33 (.t 7) 2 1),.op (.ldd 34 (.t 33) 1 false),.op (.fa 35 (.t 6) 7 1),.op (.st (.t 35) (.k (.b true)) 1 false),.op (.fa 36 (.t 6) 8 1),.op (.st (.t 36) (.t 34) 1 false)])
 ((.seq (.reg [.op (.ld 37 (.t 6) 9 true),.op (.st (.t 8) (.t 37) 9 false),.op (.mv 9 k0),.op (.mv 10 (.k (.b true))),.op (.mv 11 k0)])
 (.ret)))))))))
 [.c 8 9 true,.t 9,.t 10,.t 11] false none
def F_slices_Insert_int_int : F := ⟨.skip, [], true, some (insP 1)⟩
def F_slices_Insert_api_Cursor_api_Cursor : F := ⟨.skip, [], true, some (insP 2)⟩
def P1 : Prog := fun n => match n with
  | 225 => some F_slices_ContainsFunc_int_int
  | 226 => some F_channel_validC1
  | 227 => some F_channel_fine
  | 228 => some F_channel_vain
  | 235 => some F_topic_number
  | 236 => some F_slices_Clone_api_Cursor_api_Cursor
  | 238 => some F_topic_findC1
  | 241 => some F_slices_ContainsFunc_api_Cursor_api_Cursor
  | 242 => some F_topic_fullC1
  | 243 => some F_topic_waiting
  | 248 => some F_future_cell_plain
  | 249 => some F_future_cell_queued
  | 261 => some F_slices_Index_int_int
  | 262 => some F_slices_BinarySearch_int_int
  | 265 => some F_channel_fineC1
  | 266 => some F_channel_vainC1
  | 267 => some F_channel_foreign
  | 274 => some F_slices_rotateRight_api_Cursor
  | 278 => some F_topic_waitingC1
  | 281 => some F_cmp_isNaN_int
  | 284 => some F_cmp_Less_int
  | 285 => some F_slices_isNaN_int
  | 287 => some F_slices_rotateRight_int
  | 288 => some F_channel_foreignC1
  | 291 => some F_slices_rotateLeft_api_Cursor
  | 293 => some F_slices_rotateLeft_int
  | 294 => some F_slices_Reverse_api_Cursor_api_Cursor
  | 296 => some F_slices_Reverse_int_int
  | 312 => some F_spec_layer_abstract
  | 313 => some F_spec_layer_check
  | 314 => some F_spec_layer_start
  | 315 => some F_spec_mutexes_effect
  | 319 => some F_spec_locks_effect
  | 321 => some F_slices_Delete_int_int
  | 322 => some F_spec_semaphores_effect
  | 324 => some F_spec_barriers_abstract
  | 325 => some F_spec_barriers_effect
  | 327 => some F_spec_channels_abstract
  | 328 => some F_spec_channels_effect
  | 330 => some F_spec_room
  | 332 => some F_spec_topics_abstract
  | 333 => some F_spec_topics_effect
  | 335 => some F_slices_BinarySearchFunc_api_Cursor_api_Cursor_int
  | 336 => some F_spec_topics_effectC1
  | 339 => some F_spec_limiters_effect
  | 341 => some F_spec_futures_effect
  | 263 => some F_slices_Insert_int_int
  | 237 => some F_slices_Insert_api_Cursor_api_Cursor
  | _ => none
def P : Prog := fun n => match n with
  | 5 => some F_nurserylaw26_SpecMany
  | 14 => some F_nurserylaw26_awake
  | 15 => some F_spec_Effect
  | 18 => some F_spec_Enabled
  | 20 => some F_spec_Accepts
  | 23 => some F_spec_Initial
  | 35 => some F_nurserylaw26_object
  | 36 => some F_spec_EffectC1
  | 37 => some F_spec_of
  | 38 => some F_spec_operations
  | 45 => some F_spec_result
  | 57 => some F_slices_ContainsFunc_api_Waiter_api_Waiter
  | 62 => some F_mutex_New
  | 63 => some F_mutex_Check
  | 67 => some F_rwlock_New
  | 68 => some F_rwlock_Check
  | 72 => some F_semaphore_New
  | 73 => some F_semaphore_Check
  | 77 => some F_barrier_New
  | 78 => some F_barrier_Check
  | 82 => some F_channel_New
  | 83 => some F_channel_Check
  | 87 => some F_topic_New
  | 88 => some F_topic_Check
  | 92 => some F_limiter_New
  | 93 => some F_limiter_Check
  | 97 => some F_future_New
  | 98 => some F_future_Check
  | 102 => some F_slices_IndexFunc_api_Cursor_api_Cursor
  | 123 => some F_slices_IndexFunc_api_Waiter_api_Waiter
  | 125 => some F_mutex_valid
  | 127 => some F_mutex_isTask
  | 130 => some F_rwlock_valid
  | 131 => some F_rwlock_isTask
  | 132 => some F_waitlist_Find
  | 133 => some F_rwlock_changed
  | 134 => some F_rwlock_holds
  | 135 => some F_rwlock_lock_free
  | 136 => some F_rwlock_lock_writes
  | 140 => some F_rwlock_lock_serve
  | 142 => some F_waitlist_Check
  | 143 => some F_semaphore_waits
  | 151 => some F_waitlist_Tasks
  | 153 => some F_slices_Clone_api_Waiter_api_Waiter
  | 156 => some F_channel_valid
  | 160 => some F_channel_number
  | 162 => some F_topic_cursors
  | 163 => some F_topic_queue
  | 169 => some F_topic_find
  | 170 => some F_slices_Delete_api_Cursor_api_Cursor
  | 174 => some F_topic_full
  | 183 => some F_future_cell_valid
  | 184 => some F_future_number
  | 206 => some F_mutex_validC1
  | 213 => some F_rwlock_queued
  | 214 => some F_slices_Clone_int_int
  | 215 => some F_slices_Contains_int_int
  | 216 => some F_rwlock_lock_grant
  | 217 => some F_slices_IndexFunc_int_int
  | 218 => some F_waitlist_valid
  | n => P1 n
theorem P_nurserylaw26_SpecMany : P nurserylaw26_SpecMany = some F_nurserylaw26_SpecMany := rfl
theorem P_nurserylaw26_awake : P nurserylaw26_awake = some F_nurserylaw26_awake := rfl
theorem P_spec_Effect : P spec_Effect = some F_spec_Effect := rfl
theorem P_spec_Enabled : P spec_Enabled = some F_spec_Enabled := rfl
theorem P_spec_Accepts : P spec_Accepts = some F_spec_Accepts := rfl
theorem P_spec_Initial : P spec_Initial = some F_spec_Initial := rfl
theorem P_nurserylaw26_object : P nurserylaw26_object = some F_nurserylaw26_object := rfl
theorem P_spec_EffectC1 : P spec_EffectC1 = some F_spec_EffectC1 := rfl
theorem P_spec_of : P spec_of = some F_spec_of := rfl
theorem P_spec_operations : P spec_operations = some F_spec_operations := rfl
theorem P_spec_result : P spec_result = some F_spec_result := rfl
theorem P_slices_ContainsFunc_api_Waiter_api_Waiter : P slices_ContainsFunc_api_Waiter_api_Waiter = some F_slices_ContainsFunc_api_Waiter_api_Waiter := rfl
theorem P_mutex_New : P mutex_New = some F_mutex_New := rfl
theorem P_mutex_Check : P mutex_Check = some F_mutex_Check := rfl
theorem P_rwlock_New : P rwlock_New = some F_rwlock_New := rfl
theorem P_rwlock_Check : P rwlock_Check = some F_rwlock_Check := rfl
theorem P_semaphore_New : P semaphore_New = some F_semaphore_New := rfl
theorem P_semaphore_Check : P semaphore_Check = some F_semaphore_Check := rfl
theorem P_barrier_New : P barrier_New = some F_barrier_New := rfl
theorem P_barrier_Check : P barrier_Check = some F_barrier_Check := rfl
theorem P_channel_New : P channel_New = some F_channel_New := rfl
theorem P_channel_Check : P channel_Check = some F_channel_Check := rfl
theorem P_topic_New : P topic_New = some F_topic_New := rfl
theorem P_topic_Check : P topic_Check = some F_topic_Check := rfl
theorem P_limiter_New : P limiter_New = some F_limiter_New := rfl
theorem P_limiter_Check : P limiter_Check = some F_limiter_Check := rfl
theorem P_future_New : P future_New = some F_future_New := rfl
theorem P_future_Check : P future_Check = some F_future_Check := rfl
theorem P_slices_IndexFunc_api_Cursor_api_Cursor : P slices_IndexFunc_api_Cursor_api_Cursor = some F_slices_IndexFunc_api_Cursor_api_Cursor := rfl
theorem P_slices_IndexFunc_api_Waiter_api_Waiter : P slices_IndexFunc_api_Waiter_api_Waiter = some F_slices_IndexFunc_api_Waiter_api_Waiter := rfl
theorem P_mutex_valid : P mutex_valid = some F_mutex_valid := rfl
theorem P_mutex_isTask : P mutex_isTask = some F_mutex_isTask := rfl
theorem P_rwlock_valid : P rwlock_valid = some F_rwlock_valid := rfl
theorem P_rwlock_isTask : P rwlock_isTask = some F_rwlock_isTask := rfl
theorem P_waitlist_Find : P waitlist_Find = some F_waitlist_Find := rfl
theorem P_waitlist_Check : P waitlist_Check = some F_waitlist_Check := rfl
theorem P_channel_valid : P channel_valid = some F_channel_valid := rfl
theorem P_channel_number : P channel_number = some F_channel_number := rfl
theorem P_topic_cursors : P topic_cursors = some F_topic_cursors := rfl
theorem P_topic_queue : P topic_queue = some F_topic_queue := rfl
theorem P_topic_find : P topic_find = some F_topic_find := rfl
theorem P_slices_Delete_api_Cursor_api_Cursor : P slices_Delete_api_Cursor_api_Cursor = some F_slices_Delete_api_Cursor_api_Cursor := rfl
theorem P_topic_full : P topic_full = some F_topic_full := rfl
theorem P_future_cell_valid : P future_cell_valid = some F_future_cell_valid := rfl
theorem P_future_number : P future_number = some F_future_number := rfl
theorem P_rwlock_queued : P rwlock_queued = some F_rwlock_queued := rfl
theorem P_slices_Clone_int_int : P slices_Clone_int_int = some F_slices_Clone_int_int := rfl
theorem P_slices_IndexFunc_int_int : P slices_IndexFunc_int_int = some F_slices_IndexFunc_int_int := rfl
theorem P_waitlist_valid : P waitlist_valid = some F_waitlist_valid := rfl
theorem P_slices_ContainsFunc_int_int : P slices_ContainsFunc_int_int = some F_slices_ContainsFunc_int_int := rfl
theorem P_channel_validC1 : P channel_validC1 = some F_channel_validC1 := rfl
theorem P_channel_vain : P channel_vain = some F_channel_vain := rfl
theorem P_topic_number : P topic_number = some F_topic_number := rfl
theorem P_slices_Clone_api_Cursor_api_Cursor : P slices_Clone_api_Cursor_api_Cursor = some F_slices_Clone_api_Cursor_api_Cursor := rfl
theorem P_topic_findC1 : P topic_findC1 = some F_topic_findC1 := rfl
theorem P_slices_ContainsFunc_api_Cursor_api_Cursor : P slices_ContainsFunc_api_Cursor_api_Cursor = some F_slices_ContainsFunc_api_Cursor_api_Cursor := rfl
theorem P_topic_fullC1 : P topic_fullC1 = some F_topic_fullC1 := rfl
theorem P_topic_waiting : P topic_waiting = some F_topic_waiting := rfl
theorem P_future_cell_plain : P future_cell_plain = some F_future_cell_plain := rfl
theorem P_future_cell_queued : P future_cell_queued = some F_future_cell_queued := rfl
theorem P_slices_BinarySearch_int_int : P slices_BinarySearch_int_int = some F_slices_BinarySearch_int_int := rfl
theorem P_topic_waitingC1 : P topic_waitingC1 = some F_topic_waitingC1 := rfl
theorem P_cmp_isNaN_int : P cmp_isNaN_int = some F_cmp_isNaN_int := rfl
theorem P_cmp_Less_int : P cmp_Less_int = some F_cmp_Less_int := rfl
theorem P_slices_isNaN_int : P slices_isNaN_int = some F_slices_isNaN_int := rfl
theorem P_spec_layer_abstract : P spec_layer_abstract = some F_spec_layer_abstract := rfl
theorem P_spec_layer_check : P spec_layer_check = some F_spec_layer_check := rfl
theorem P_spec_layer_start : P spec_layer_start = some F_spec_layer_start := rfl
theorem P_spec_mutexes_effect : P spec_mutexes_effect = some F_spec_mutexes_effect := rfl
theorem P_spec_locks_effect : P spec_locks_effect = some F_spec_locks_effect := rfl
theorem P_slices_Delete_int_int : P slices_Delete_int_int = some F_slices_Delete_int_int := rfl
theorem P_spec_semaphores_effect : P spec_semaphores_effect = some F_spec_semaphores_effect := rfl
theorem P_spec_barriers_abstract : P spec_barriers_abstract = some F_spec_barriers_abstract := rfl
theorem P_spec_barriers_effect : P spec_barriers_effect = some F_spec_barriers_effect := rfl
theorem P_spec_channels_abstract : P spec_channels_abstract = some F_spec_channels_abstract := rfl
theorem P_spec_channels_effect : P spec_channels_effect = some F_spec_channels_effect := rfl
theorem P_spec_room : P spec_room = some F_spec_room := rfl
theorem P_spec_topics_abstract : P spec_topics_abstract = some F_spec_topics_abstract := rfl
theorem P_spec_topics_effect : P spec_topics_effect = some F_spec_topics_effect := rfl
theorem P_slices_BinarySearchFunc_api_Cursor_api_Cursor_int : P slices_BinarySearchFunc_api_Cursor_api_Cursor_int = some F_slices_BinarySearchFunc_api_Cursor_api_Cursor_int := rfl
theorem P_spec_topics_effectC1 : P spec_topics_effectC1 = some F_spec_topics_effectC1 := rfl
theorem P_spec_limiters_effect : P spec_limiters_effect = some F_spec_limiters_effect := rfl
theorem P_spec_futures_effect : P spec_futures_effect = some F_spec_futures_effect := rfl
theorem P_slices_Insert_int_int : P slices_Insert_int_int = some F_slices_Insert_int_int := rfl
theorem P_slices_Insert_api_Cursor_api_Cursor : P slices_Insert_api_Cursor_api_Cursor = some F_slices_Insert_api_Cursor_api_Cursor := rfl
end Go.VS
