import Derived.Test.YtjkgnelkochemaaV05
set_option linter.all false
namespace Go.VS
def gosem_cut_init : Nat := 2
def nurserylaw17_RwlockWithdraw : Nat := 3
def nurserylaw17_RwlockValid : Nat := 4
def nurserylaw17_RwlockApply : Nat := 5
def nurserylaw17_RwlockUndo : Nat := 6
def nurserylaw17_RwlockProgress : Nat := 7
def nurserylaw17_RwlockFair : Nat := 8
def nurseryref17_Great : Nat := 9
def nurserylaw17_awake : Nat := 10
def rwlock_Withdraw : Nat := 11
def nurseryref17_Withdraw : Nat := 12
def nurseryref17_SameReply : Nat := 13
def rwlock_Holds : Nat := 14
def nurseryref17_Holds : Nat := 15
def rwlock_New : Nat := 16
def nurserylaw17_lock : Nat := 17
def rwlock_Check : Nat := 18
def rwlock_Apply : Nat := 19
def nurseryref17_New : Nat := 20
def nurseryref17_Apply : Nat := 21
def nurseryref17_SameState : Nat := 22
def nurseryref17_Check : Nat := 23
def rwlock_Ready : Nat := 24
def nurseryref17_Ready : Nat := 25
def slices_Equal_int_int : Nat := 26
def nurserylaw17_play : Nat := 27
def nurserylaw17_RwlockFairC1 : Nat := 28
def slices_ContainsFunc_api_Waiter_api_Waiter : Nat := 29
def nurserylaw17_RwlockFairC1C1 : Nat := 30
def waitlist_Find : Nat := 31
def rwlock_changed : Nat := 32
def waitlist_Remove : Nat := 33
def rwlock_lock_serve : Nat := 34
def nurseryref07_Find : Nat := 35
def nurseryref07_Remove : Nat := 36
def nurseryref17_serve : Nat := 37
def rwlock_holds : Nat := 38
def nurseryref17_reads : Nat := 39
def rwlock_valid : Nat := 40
def rwlock_isTask : Nat := 41
def rwlock_lock_free : Nat := 42
def rwlock_lock_writes : Nat := 43
def rwlock_lock_acquire : Nat := 44
def slices_DeleteFunc_int_int : Nat := 45
def rwlock_ApplyC1 : Nat := 46
def rwlock_lock_reply : Nat := 47
def nurseryref17_check : Nat := 48
def nurseryref17_with : Nat := 49
def nurseryref17_without : Nat := 50
def nurseryref07_Same : Nat := 51
def nurseryref01_Same : Nat := 52
def nurseryref17_valid : Nat := 53
def nurseryref17_vain : Nat := 54
def slices_IndexFunc_api_Waiter_api_Waiter : Nat := 55
def slices_Clone_int_int : Nat := 56
def slices_Clone_api_Waiter_api_Waiter : Nat := 57
def waitlist_filter : Nat := 58
def waitlist_RemoveC1 : Nat := 59
def rwlock_lock_grant : Nat := 60
def slices_Contains_int_int : Nat := 61
def rwlock_queued : Nat := 62
def slices_IndexFunc_int_int : Nat := 63
def nurseryref17_Caller : Nat := 64
def nurseryref17_IsTask : Nat := 65
def nurseryref07_Check : Nat := 66
def slices_BinarySearch_int_int : Nat := 67
def slices_Insert_int_int : Nat := 68
def slices_Index_int_int : Nat := 69
def waitlist_Check : Nat := 70
def nurseryref07_Valid : Nat := 71
def cmp_Less_int : Nat := 72
def slices_isNaN_int : Nat := 73
def slices_overlaps_int : Nat := 74
def slices_rotateRight_int : Nat := 75
def waitlist_valid : Nat := 76
def nurseryref07_within : Nat := 77
def cmp_isNaN_int : Nat := 78
def slices_rotateLeft_int : Nat := 79
def slices_Reverse_int_int : Nat := 80
/-- nursery/nurserylaw17.RwlockWithdraw -/
def F_nurserylaw17_RwlockWithdraw : F := .mk
  ((.seq (.reg [.op (.box 3 (.t 0) 4 true),
    .op (.box 4 (.t 1) 9 true),
    .op (.mv 6 (.k (.b false)))])
  ((.seq ((.seq (.reg [.op (.ld 11 (.t 4) 9 true),
    .op (.call (some 12) nurseryref17_Great [(.t 11)])])
  (.ite (.t 12)
    ((.seq (.reg [.op (.call (some 13) nurserylaw17_awake []),
      .op (.mv 6 (.t 13))])
    (.ret)))
    (.skip))))
  ((.seq (.reg [.op (.ld 15 (.t 3) 4 true),
    .op (.ld 16 (.t 4) 9 true),
    .op (.mv 17 (.t 2)),
    .op (.call (some 18) rwlock_Withdraw [(.t 15), (.t 16), (.t 17)]),
    .op (.mv 14 (.t 18)),
    .op (.ext 19 (.t 14) 0),
    .op (.ext 20 (.t 14) 1),
    .op (.new 7 [(.i .i64 0), (.i .i64 0), (.i .i64 0), (.sl 1 true []), (.sl 5 true []), (.sl 1 true []), (.sl 2 true []), (.b false), (.i .i64 0), (.b false), (.i .i64 0), (.b false), (.sl 5 true [])]),
    .op (.st (.t 7) (.t 19) 13 true),
    .op (.mv 8 (.t 20))])
  ((.seq (.reg [.op (.ld 22 (.t 3) 4 true),
    .op (.ld 23 (.t 4) 9 true),
    .op (.mv 24 (.t 2)),
    .op (.call (some 25) nurseryref17_Withdraw [(.t 22), (.t 23), (.t 24)]),
    .op (.mv 21 (.t 25)),
    .op (.ext 26 (.t 21) 0),
    .op (.ext 27 (.t 21) 1),
    .op (.new 9 [(.i .i64 0), (.i .i64 0), (.i .i64 0), (.sl 1 true []), (.sl 5 true []), (.sl 1 true []), (.sl 2 true []), (.b false), (.i .i64 0), (.b false), (.i .i64 0), (.b false), (.sl 5 true [])]),
    .op (.st (.t 9) (.t 26) 13 true),
    .op (.mv 10 (.t 27))])
  ((.seq (.drw [] [0, 1, 2, 3, 4, 5, 6, 7, 8, 9, 10, 11, 12, 13, 14, 15, 16, 17, 18, 19, 20] [.op (.ldd 28 (.t 7) 13 true),
    .op (.ldd 29 (.t 9) 13 true),
    .op (.call (some 30) nurseryref17_SameReply [(.t 28), (.t 29)]),
    .op (.mv 31 (.t 30)),
    .sc false 35 31 [.op (.mv 32 (.t 8)), .op (.mv 33 (.t 10)), .op (.bin 34 .eql (.t 32) (.t 33))] (.t 34),
    .op (.mv 36 (.t 35)),
    .sc false 44 36 [.op (.ldd 37 (.t 4) 9 true), .op (.mv 38 (.t 2)), .op (.call (some 39) rwlock_Holds [(.t 37), (.t 38)]), .op (.ldd 40 (.t 4) 9 true), .op (.mv 41 (.t 2)), .op (.call (some 42) nurseryref17_Holds [(.t 40), (.t 41)]), .op (.bin 43 .eql (.t 39) (.t 42))] (.t 43),
    .op (.mv 45 (.t 44)),
    .sc false 47 45 [.op (.call (some 46) nurserylaw17_awake [])] (.t 46),
    .op (.mv 6 (.t 47))])
  (.ret)))))))))))
  [.t 6] false none

def F_nurserylaw17_RwlockValid_L0 : C :=
  (.seq (.reg [.op (.bin 86 .lss (.t 85) (.k (.i .i64 16)))])
  ((.seq (.ite (.t 86)
    (.skip)
    (.seq (.keep [11, 12]) (.exit 0)))
  ((.seq (.blk 1 ((.seq (.reg [.op (.mv 87 (.t 85)),
     .op (.mv 13 (.t 87))])
   ((.seq (.reg [.op (.ld 88 (.t 2) 9 true),
     .op (.mv 89 (.t 13)),
     .op (.call (some 90) rwlock_Holds [(.t 88), (.t 89)]),
     .op (.mv 14 (.t 90))])
   ((.seq ((.seq (.reg [.op (.mv 91 (.t 14)),
     .op (.bin 92 .lss (.t 91) (.k (.i .i64 0))),
     .op (.mv 93 (.t 92)),
     .sc true 96 93 [.op (.mv 94 (.t 14)), .op (.bin 95 .gtr (.t 94) (.k (.i .i64 2)))] (.t 95)])
   (.ite (.t 96)
     ((.seq (.reg [.op (.mv 4 (.k (.b false)))])
     (.seq (.keep [4]) .ret)))
     (.skip))))
   ((.seq ((.seq (.reg [.op (.mv 97 (.t 14)),
     .op (.bin 98 .gtr (.t 97) (.k (.i .i64 0)))])
   (.ite (.t 98)
     (.reg [.op (.mv 99 (.t 11)),
       .op (.bin 100 .add (.t 99) (.k (.i .i64 1))),
       .op (.mv 11 (.t 100))])
     (.skip))))
   (.reg [.op (.mv 101 (.t 12)),
     .op (.mv 102 (.t 101)),
     .sc true 105 102 [.op (.mv 103 (.t 14)), .op (.bin 104 .eql (.t 103) (.k (.i .i64 2)))] (.t 104),
     .op (.mv 12 (.t 105))]))))))))))
  (.reg [.op (.bin 106 .add (.t 85) (.k (.i .i64 1))),
    .op (.mv 85 (.t 106))]))))))

/-- nursery/nurserylaw17.RwlockValid -/
def F_nurserylaw17_RwlockValid : F := .mk
  ((.seq (.reg [.op (.box 2 (.t 0) 9 true),
    .op (.box 3 (.t 1) 5 true),
    .op (.mv 4 (.k (.b false)))])
  ((.seq (.reg [.op (.call (some 16) nurserylaw17_lock []),
    .op (.call (some 17) rwlock_New [(.t 16)]),
    .op (.mv 15 (.t 17)),
    .op (.ext 18 (.t 15) 0),
    .op (.ext 19 (.t 15) 1),
    .op (.new 5 [(.i .i64 0), (.i .i64 0), (.i .i64 0), (.sl 1 true []), (.sl 5 true []), (.sl 1 true []), (.sl 2 true []), (.b false), (.i .i64 0)]),
    .op (.st (.t 5) (.t 18) 9 true),
    .op (.mv 6 (.t 19))])
  ((.seq ((.seq (.drw [] [0, 1, 2, 3, 4, 5, 6, 7, 8, 9, 10, 11] [.op (.ldd 20 (.t 2) 9 true),
    .op (.call (some 21) nurseryref17_Great [(.t 20)]),
    .op (.mv 22 (.t 21)),
    .sc true 25 22 [.op (.mv 23 (.t 6)), .op (.bin 24 .neq (.t 23) (.k (.i .i64 0)))] (.t 24),
    .op (.mv 26 (.t 25)),
    .sc true 31 26 [.op (.call (some 27) nurserylaw17_lock []), .op (.ldd 28 (.t 5) 9 true), .op (.call (some 29) rwlock_Check [(.t 27), (.t 28)]), .op (.bin 30 .neq (.t 29) (.k (.i .i64 0)))] (.t 30)])
  (.ite (.t 31)
    ((.seq (.reg [.op (.mv 32 (.t 6)),
      .op (.bin 33 .eql (.t 32) (.k (.i .i64 0))),
      .op (.mv 34 (.t 33)),
      .sc false 36 34 [.op (.call (some 35) nurserylaw17_awake [])] (.t 35),
      .op (.mv 4 (.t 36))])
    (.ret)))
    (.skip))))
  ((.seq (.seq (.drw [] [0, 1, 2, 3, 4, 5, 6, 7, 8, 9] [.op (.call (some 38) nurserylaw17_lock []),
    .op (.ldd 39 (.t 2) 9 true),
    .op (.ldd 40 (.t 3) 5 true),
    .op (.call (some 41) rwlock_Apply [(.t 38), (.t 39), (.t 40)]),
    .op (.mv 37 (.t 41)),
    .op (.ext 42 (.t 37) 0),
    .op (.ext 43 (.t 37) 1),
    .op (.new 7 [(.i .i64 0), (.i .i64 0), (.i .i64 0), (.sl 1 true []), (.sl 5 true []), (.sl 1 true []), (.sl 2 true []), (.b false), (.i .i64 0), (.b false), (.i .i64 0), (.b false), (.sl 5 true [])]),
    .op (.st (.t 7) (.t 42) 13 false),
    .op (.mv 8 (.t 43))])
  (.frz [7]))
  ((.seq (.seq (.drw [] [0, 1, 2, 3, 4, 5, 6, 7, 8, 9, 10] [.op (.call (some 45) nurserylaw17_lock []),
    .op (.ldd 46 (.t 2) 9 true),
    .op (.fad 47 (.t 3) 0 1),
    .op (.ldd 48 (.t 47) 1 false),
    .op (.call (some 49) rwlock_Withdraw [(.t 45), (.t 46), (.t 48)]),
    .op (.mv 44 (.t 49)),
    .op (.ext 50 (.t 44) 0),
    .op (.ext 51 (.t 44) 1),
    .op (.new 9 [(.i .i64 0), (.i .i64 0), (.i .i64 0), (.sl 1 true []), (.sl 5 true []), (.sl 1 true []), (.sl 2 true []), (.b false), (.i .i64 0), (.b false), (.i .i64 0), (.b false), (.sl 5 true [])]),
    .op (.st (.t 9) (.t 50) 13 false),
    .op (.mv 10 (.t 51))])
  (.frz [9]))
  ((.seq ((.seq (.drw [] [0, 1, 2, 3, 4, 5, 6, 7, 8, 9, 10, 11, 12, 13, 14, 15, 16, 17, 18, 19] [.op (.mv 52 (.t 8)),
    .op (.bin 53 .eql (.t 52) (.k (.i .i64 0))),
    .op (.mv 54 (.t 53)),
    .sc false 60 54 [.op (.call (some 55) nurserylaw17_lock []), .op (.fad 56 (.t 7) 0 9), .op (.ldd 57 (.t 56) 9 true), .op (.call (some 58) rwlock_Check [(.t 55), (.t 57)]), .op (.bin 59 .neq (.t 58) (.k (.i .i64 0)))] (.t 59),
    .op (.mv 61 (.t 60)),
    .sc true 71 61 [.op (.mv 62 (.t 10)), .op (.bin 63 .eql (.t 62) (.k (.i .i64 0))), .op (.mv 64 (.t 63)), .sc false 70 64 [.op (.call (some 65) nurserylaw17_lock []), .op (.fad 66 (.t 9) 0 9), .op (.ldd 67 (.t 66) 9 true), .op (.call (some 68) rwlock_Check [(.t 65), (.t 67)]), .op (.bin 69 .neq (.t 68) (.k (.i .i64 0)))] (.t 69)] (.t 70)])
  (.ite (.t 71)
    ((.seq (.reg [.op (.mv 4 (.k (.b false)))])
    (.ret)))
    (.skip))))
  ((.seq ((.seq (.drw [] [0, 1, 2, 3] [.op (.call (some 72) nurserylaw17_lock []),
    .op (.ldd 73 (.t 2) 9 true),
    .op (.call (some 74) rwlock_Check [(.t 72), (.t 73)]),
    .op (.bin 75 .neq (.t 74) (.k (.i .i64 0)))])
  (.ite (.t 75)
    ((.seq (.reg [.op (.mv 76 (.t 8)),
      .op (.bin 77 .eql (.t 76) (.k (.i .i64 1))),
      .op (.mv 78 (.t 77)),
      .sc false 81 78 [.op (.mv 79 (.t 10)), .op (.bin 80 .eql (.t 79) (.k (.i .i64 1)))] (.t 80),
      .op (.mv 82 (.t 81)),
      .sc false 84 82 [.op (.call (some 83) nurserylaw17_awake [])] (.t 83),
      .op (.mv 4 (.t 84))])
    (.ret)))
    (.skip))))
  ((.seq (.reg [.op (.mv 11 (.k (.i .i64 0)))])
  ((.seq (.reg [.op (.mv 12 (.k (.b false)))])
  ((.seq ((.seq (.reg [.op (.mv 85 (.k (.i .i64 0)))])
  (.blk 0 (.loop [2, 11, 12, 85] F_nurserylaw17_RwlockValid_L0))))
  ((.seq (.reg [.op (.mv 107 (.t 12)),
    .op (.un 108 .not (.t 107)),
    .op (.mv 109 (.t 108)),
    .sc true 112 109 [.op (.mv 110 (.t 11)), .op (.bin 111 .eql (.t 110) (.k (.i .i64 1)))] (.t 111),
    .op (.mv 113 (.t 112)),
    .sc false 115 113 [.op (.call (some 114) nurserylaw17_awake [])] (.t 114),
    .op (.mv 4 (.t 115))])
  (.ret)))))))))))))))))))))))
  [.t 4] false none

/-- nursery/nurserylaw17.RwlockApply -/
def F_nurserylaw17_RwlockApply : F := .mk
  ((.seq (.reg [.op (.box 3 (.t 0) 4 true),
    .op (.box 4 (.t 1) 9 true),
    .op (.box 5 (.t 2) 5 true),
    .op (.mv 6 (.k (.b false)))])
  ((.seq ((.seq (.reg [.op (.ld 15 (.t 4) 9 true),
    .op (.call (some 16) nurseryref17_Great [(.t 15)])])
  (.ite (.t 16)
    ((.seq (.reg [.op (.call (some 17) nurserylaw17_awake []),
      .op (.mv 6 (.t 17))])
    (.ret)))
    (.skip))))
  ((.seq (.reg [.op (.ld 19 (.t 3) 4 true),
    .op (.call (some 20) rwlock_New [(.t 19)]),
    .op (.mv 18 (.t 20)),
    .op (.ext 21 (.t 18) 0),
    .op (.ext 22 (.t 18) 1),
    .op (.new 7 [(.i .i64 0), (.i .i64 0), (.i .i64 0), (.sl 1 true []), (.sl 5 true []), (.sl 1 true []), (.sl 2 true []), (.b false), (.i .i64 0)]),
    .op (.st (.t 7) (.t 21) 9 true),
    .op (.mv 8 (.t 22))])
  ((.seq (.reg [.op (.ld 24 (.t 3) 4 true),
    .op (.call (some 25) nurseryref17_New [(.t 24)]),
    .op (.mv 23 (.t 25)),
    .op (.ext 26 (.t 23) 0),
    .op (.ext 27 (.t 23) 1),
    .op (.new 9 [(.i .i64 0), (.i .i64 0), (.i .i64 0), (.sl 1 true []), (.sl 5 true []), (.sl 1 true []), (.sl 2 true []), (.b false), (.i .i64 0)]),
    .op (.st (.t 9) (.t 26) 9 true),
    .op (.mv 10 (.t 27))])
  ((.seq (.reg [.op (.ld 29 (.t 3) 4 true),
    .op (.ld 30 (.t 4) 9 true),
    .op (.ld 31 (.t 5) 5 true),
    .op (.call (some 32) rwlock_Apply [(.t 29), (.t 30), (.t 31)]),
    .op (.mv 28 (.t 32)),
    .op (.ext 33 (.t 28) 0),
    .op (.ext 34 (.t 28) 1),
    .op (.new 11 [(.i .i64 0), (.i .i64 0), (.i .i64 0), (.sl 1 true []), (.sl 5 true []), (.sl 1 true []), (.sl 2 true []), (.b false), (.i .i64 0), (.b false), (.i .i64 0), (.b false), (.sl 5 true [])]),
    .op (.st (.t 11) (.t 33) 13 true),
    .op (.mv 12 (.t 34))])
  ((.seq (.reg [.op (.ld 36 (.t 3) 4 true),
    .op (.ld 37 (.t 4) 9 true),
    .op (.ld 38 (.t 5) 5 true),
    .op (.call (some 39) nurseryref17_Apply [(.t 36), (.t 37), (.t 38)]),
    .op (.mv 35 (.t 39)),
    .op (.ext 40 (.t 35) 0),
    .op (.ext 41 (.t 35) 1),
    .op (.new 13 [(.i .i64 0), (.i .i64 0), (.i .i64 0), (.sl 1 true []), (.sl 5 true []), (.sl 1 true []), (.sl 2 true []), (.b false), (.i .i64 0), (.b false), (.i .i64 0), (.b false), (.sl 5 true [])]),
    .op (.st (.t 13) (.t 40) 13 true),
    .op (.mv 14 (.t 41))])
  ((.seq (.drw [] [0, 1, 2, 3, 4, 5, 6, 7, 8, 9, 10, 11, 12, 13, 14, 15, 16, 17, 18, 19, 20, 21, 22, 23, 24, 25, 26, 27, 28, 29, 30, 31, 32, 33, 34, 35, 36, 37, 38, 39, 40, 41] [.op (.ldd 42 (.t 7) 9 true),
    .op (.ldd 43 (.t 9) 9 true),
    .op (.call (some 44) nurseryref17_SameState [(.t 42), (.t 43)]),
    .op (.mv 45 (.t 44)),
    .sc false 49 45 [.op (.mv 46 (.t 8)), .op (.mv 47 (.t 10)), .op (.bin 48 .eql (.t 46) (.t 47))] (.t 48),
    .op (.mv 50 (.t 49)),
    .sc false 58 50 [.op (.ldd 51 (.t 3) 4 true), .op (.ldd 52 (.t 4) 9 true), .op (.call (some 53) rwlock_Check [(.t 51), (.t 52)]), .op (.ldd 54 (.t 3) 4 true), .op (.ldd 55 (.t 4) 9 true), .op (.call (some 56) nurseryref17_Check [(.t 54), (.t 55)]), .op (.bin 57 .eql (.t 53) (.t 56))] (.t 57),
    .op (.mv 59 (.t 58)),
    .sc false 63 59 [.op (.ldd 60 (.t 11) 13 true), .op (.ldd 61 (.t 13) 13 true), .op (.call (some 62) nurseryref17_SameReply [(.t 60), (.t 61)])] (.t 62),
    .op (.mv 64 (.t 63)),
    .sc false 68 64 [.op (.mv 65 (.t 12)), .op (.mv 66 (.t 14)), .op (.bin 67 .eql (.t 65) (.t 66))] (.t 67),
    .op (.mv 69 (.t 68)),
    .sc false 79 69 [.op (.ldd 70 (.t 3) 4 true), .op (.ldd 71 (.t 4) 9 true), .op (.ldd 72 (.t 5) 5 true), .op (.call (some 73) rwlock_Ready [(.t 70), (.t 71), (.t 72)]), .op (.ldd 74 (.t 3) 4 true), .op (.ldd 75 (.t 4) 9 true), .op (.ldd 76 (.t 5) 5 true), .op (.call (some 77) nurseryref17_Ready [(.t 74), (.t 75), (.t 76)]), .op (.eqb 78 false (.t 73) (.t 77))] (.t 78),
    .op (.mv 80 (.t 79)),
    .sc false 82 80 [.op (.call (some 81) nurserylaw17_awake [])] (.t 81),
    .op (.mv 6 (.t 82))])
  (.ret)))))))))))))))
  [.t 6] false none

/-- nursery/nurserylaw17.RwlockUndo -/
def F_nurserylaw17_RwlockUndo : F := .mk
  ((.seq (.reg [.op (.box 4 (.t 0) 9 true),
    .op (.mv 8 (.k (.b false)))])
  ((.seq ((.seq (.drw [] [0, 1, 2, 3, 4, 5, 6, 7] [.op (.ldd 15 (.t 4) 9 true),
    .op (.call (some 16) nurseryref17_Great [(.t 15)]),
    .op (.mv 17 (.t 16)),
    .sc true 22 17 [.op (.call (some 18) nurserylaw17_lock []), .op (.ldd 19 (.t 4) 9 true), .op (.call (some 20) nurseryref17_Check [(.t 18), (.t 19)]), .op (.bin 21 .neq (.t 20) (.k (.i .i64 0)))] (.t 21)])
  (.ite (.t 22)
    ((.seq (.reg [.op (.call (some 23) nurserylaw17_awake []),
      .op (.mv 8 (.t 23))])
    (.ret)))
    (.skip))))
  ((.seq (.reg [.op (.mv 24 (.t 1)),
    .op (.cvi 25 .i64 (.t 24)),
    .op (.bin 26 .rem (.t 25) (.k (.i .i64 16))),
    .op (.mv 27 (.t 2)),
    .op (.cvi 28 .i64 (.t 27)),
    .op (.bin 29 .rem (.t 28) (.k (.i .i64 10))),
    .op (.build 30 [(.i .i64 0), (.i .i64 0), (.i .i64 0), (.i .i64 0), (.i .i64 0)] [(0, 1, (.t 26)), (1, 1, (.k (.i .i64 53))), (3, 1, (.t 29))]),
    .op (.new 9 [(.i .i64 0), (.i .i64 0), (.i .i64 0), (.i .i64 0), (.i .i64 0)]),
    .op (.st (.t 9) (.t 30) 5 false)])
  ((.seq (.reg [.op (.ld 31 (.t 9) 5 true),
    .op (.new 10 [(.i .i64 0), (.i .i64 0), (.i .i64 0), (.i .i64 0), (.i .i64 0)]),
    .op (.st (.t 10) (.t 31) 5 false)])
  ((.seq (.reg [.op (.fa 32 (.t 10) 1 1),
    .op (.st (.t 32) (.k (.i .i64 54)) 1 false)])
  ((.seq ((.seq (.reg [.op (.mv 33 (.t 3))])
  (.ite (.t 33)
    (.reg [.op (.fa 34 (.t 9) 1 1),
      .op (.st (.t 34) (.k (.i .i64 55)) 1 false),
      .op (.fa 35 (.t 10) 1 1),
      .op (.st (.t 35) (.k (.i .i64 56)) 1 false)])
    (.skip))))
  ((.seq (.seq (.drw [] [0, 1, 2, 3, 4, 5, 6, 7, 8, 9] [.op (.call (some 37) nurserylaw17_lock []),
    .op (.ldd 38 (.t 4) 9 true),
    .op (.ld 39 (.t 9) 5 true),
    .op (.call (some 40) rwlock_Apply [(.t 37), (.t 38), (.t 39)]),
    .op (.mv 36 (.t 40)),
    .op (.ext 41 (.t 36) 0),
    .op (.ext 42 (.t 36) 1),
    .op (.new 11 [(.i .i64 0), (.i .i64 0), (.i .i64 0), (.sl 1 true []), (.sl 5 true []), (.sl 1 true []), (.sl 2 true []), (.b false), (.i .i64 0), (.b false), (.i .i64 0), (.b false), (.sl 5 true [])]),
    .re (.ld 39 (.t 9) 5 true),
    .op (.st (.t 11) (.t 41) 13 false),
    .op (.mv 12 (.t 42))])
  (.frz [11]))
  ((.seq ((.seq (.reg [.op (.mv 43 (.t 12)),
    .op (.bin 44 .neq (.t 43) (.k (.i .i64 0)))])
  (.ite (.t 44)
    ((.seq (.drw [] [0, 1, 2, 3, 4, 5, 6, 7, 8, 9, 10, 11, 12] [.op (.mv 45 (.t 12)),
      .op (.bin 46 .eql (.t 45) (.k (.i .i64 17))),
      .op (.mv 47 (.t 46)),
      .sc false 53 47 [.op (.call (some 48) nurserylaw17_lock []), .op (.ldd 49 (.t 4) 9 true), .op (.ld 50 (.t 9) 5 true), .op (.call (some 51) rwlock_Ready [(.t 48), (.t 49), (.t 50)]), .op (.un 52 .not (.t 51))] (.t 52),
      .op (.mv 54 (.t 53)),
      .sc false 56 54 [.op (.call (some 55) nurserylaw17_awake [])] (.t 55),
      .op (.mv 8 (.t 56))])
    (.ret)))
    (.skip))))
  ((.seq (.drw [] [0, 1, 2, 3, 4, 5, 6, 7, 8, 9, 10] [.op (.call (some 58) nurserylaw17_lock []),
    .op (.fad 59 (.t 11) 0 9),
    .op (.ldd 60 (.t 59) 9 true),
    .op (.ld 61 (.t 10) 5 true),
    .op (.call (some 62) rwlock_Apply [(.t 58), (.t 60), (.t 61)]),
    .op (.mv 57 (.t 62)),
    .op (.ext 63 (.t 57) 0),
    .op (.ext 64 (.t 57) 1),
    .op (.new 13 [(.i .i64 0), (.i .i64 0), (.i .i64 0), (.sl 1 true []), (.sl 5 true []), (.sl 1 true []), (.sl 2 true []), (.b false), (.i .i64 0), (.b false), (.i .i64 0), (.b false), (.sl 5 true [])]),
    .re (.ld 61 (.t 10) 5 true),
    .op (.st (.t 13) (.t 63) 13 false),
    .op (.mv 14 (.t 64))])
  ((.seq ((.seq (.reg [.op (.fa 65 (.t 11) 9 1),
    .op (.ld 66 (.t 65) 1 false)])
  (.ite (.t 66)
    (.drw [] [0, 1, 2, 3, 4, 5, 6, 7, 8, 9, 10] [.op (.call (some 68) nurserylaw17_lock []),
      .op (.fad 69 (.t 11) 0 9),
      .op (.ldd 70 (.t 69) 9 true),
      .op (.fa 71 (.t 9) 0 1),
      .op (.ld 72 (.t 71) 1 false),
      .op (.call (some 73) rwlock_Withdraw [(.t 68), (.t 70), (.t 72)]),
      .op (.mv 67 (.t 73)),
      .op (.ext 74 (.t 67) 0),
      .op (.ext 75 (.t 67) 1),
      .op (.st (.t 13) (.t 74) 13 false),
      .op (.mv 14 (.t 75))])
    (.skip))))
  ((.seq (.drw [] [0, 1, 2, 3, 4, 5, 6, 7, 8, 9, 10, 11, 12, 13, 14, 15, 16, 17, 18, 19, 20, 21, 22, 23, 24, 25, 26, 27, 28, 29, 30, 31] [.op (.mv 76 (.t 14)),
    .op (.bin 77 .eql (.t 76) (.k (.i .i64 0))),
    .op (.mv 78 (.t 77)),
    .sc false 83 78 [.op (.fa 79 (.t 13) 0 9), .op (.ld 80 (.t 79) 9 true), .op (.ldd 81 (.t 4) 9 true), .op (.call (some 82) nurseryref17_SameState [(.t 80), (.t 81)])] (.t 82),
    .op (.mv 84 (.t 83)),
    .sc false 93 84 [.op (.fad 85 (.t 11) 12 1), .op (.ldd 86 (.t 85) 1 false), .op (.len 87 (.t 86) .sl), .op (.fa 88 (.t 13) 12 1), .op (.ld 89 (.t 88) 1 false), .op (.len 90 (.t 89) .sl), .op (.bin 91 .add (.t 87) (.t 90)), .op (.bin 92 .eql (.t 91) (.k (.i .i64 0)))] (.t 92),
    .op (.mv 94 (.t 93)),
    .sc false 103 94 [.op (.call (some 95) nurserylaw17_lock []), .op (.ldd 96 (.t 4) 9 true), .op (.ld 97 (.t 9) 5 true), .op (.call (some 98) rwlock_Ready [(.t 95), (.t 96), (.t 97)]), .op (.fad 99 (.t 11) 9 1), .op (.ldd 100 (.t 99) 1 false), .op (.un 101 .not (.t 100)), .op (.eqb 102 false (.t 98) (.t 101))] (.t 102),
    .op (.mv 104 (.t 103)),
    .sc false 106 104 [.op (.call (some 105) nurserylaw17_awake [])] (.t 105),
    .op (.mv 8 (.t 106))])
  (.ret)))))))))))))))))))))))
  [.t 8] false none

def F_nurserylaw17_RwlockProgress_L0 : C :=
  (.seq (.reg [.op (.bin 44 .lss (.t 43) (.t 42))])
  ((.seq (.ite (.t 44)
    (.skip)
    (.seq (.keep [1, 3]) (.exit 0)))
  ((.seq (.blk 1 ((.seq (.reg [.op (.mv 45 (.t 43)),
     .op (.ixs 46 (.t 41) (.t 43) 5),
     .op (.ld 47 (.t 46) 5 true),
     .op (.new 5 [(.i .i64 0), (.i .i64 0), (.i .i64 0), (.i .i64 0), (.i .i64 0)]),
     .op (.mv 4 (.t 45)),
     .op (.st (.t 5) (.t 47) 5 true)])
   ((.seq ((.seq (.reg [.op (.mv 48 (.t 4)),
     .op (.bin 49 .gtr (.t 48) (.k (.i .i64 0))),
     .op (.mv 50 (.t 49)),
     .sc false 62 50 [.op (.fa 51 (.t 5) 1 1), .op (.ld 52 (.t 51) 1 false), .op (.bin 53 .eql (.t 52) (.k (.i .i64 55))), .op (.mv 54 (.t 53)), .sc true 61 54 [.op (.fa 55 (.t 1) 4 1), .op (.ld 56 (.t 55) 1 false), .op (.ixs 57 (.t 56) (.k (.i .i64 0)) 5), .op (.fa 58 (.t 57) 1 1), .op (.ld 59 (.t 58) 1 false), .op (.bin 60 .eql (.t 59) (.k (.i .i64 55)))] (.t 60)] (.t 61)])
   (.ite (.t 62)
     (.seq (.keep [1, 3]) (.exit 0))
     (.skip))))
   (.reg [.op (.mv 63 (.t 3)),
     .op (.fa 64 (.t 5) 0 1),
     .op (.ld 65 (.t 64) 1 false),
     .op (.buildSl 66 1 1 [(.i .i64 0)] [(0, (.t 65))] true),
     .op (.app 67 (.t 63) (.t 66) 1),
     .op (.mv 3 (.t 67))]))))))
  (.reg [.op (.bin 68 .add (.t 43) (.k (.i .i64 1))),
    .op (.mv 43 (.t 68))]))))))

def F_nurserylaw17_RwlockProgress_L1 : C :=
  (.seq (.reg [.op (.bin 105 .lss (.t 104) (.t 103))])
  ((.seq (.ite (.t 105)
    (.skip)
    (.seq (.keep [1, 3, 7, 8, 77, 78, 79]) (.exit 4)))
  ((.seq (.blk 5 ((.seq (.reg [.op (.ixs 106 (.t 102) (.t 104) 5),
     .op (.ld 107 (.t 106) 5 true),
     .op (.new 14 [(.i .i64 0), (.i .i64 0), (.i .i64 0), (.b false), (.i .i64 0)]),
     .op (.st (.t 14) (.t 107) 5 true)])
   (.reg [.op (.mv 108 (.t 8)),
     .op (.fa 109 (.t 14) 0 1),
     .op (.ld 110 (.t 109) 1 false),
     .op (.buildSl 111 1 1 [(.i .i64 0)] [(0, (.t 110))] true),
     .op (.app 112 (.t 108) (.t 111) 1),
     .op (.mv 8 (.t 112))]))))
  (.reg [.op (.bin 113 .add (.t 104) (.k (.i .i64 1))),
    .op (.mv 104 (.t 113))]))))))

def F_nurserylaw17_RwlockProgress_L2 : C :=
  (.seq (.reg [.op (.bin 80 .lss (.t 79) (.t 78))])
  ((.seq (.ite (.t 80)
    (.skip)
    (.seq (.keep [3, 8]) (.exit 2)))
  ((.seq (.blk 3 ((.seq (.reg [.op (.ixs 81 (.t 77) (.t 79) 1),
     .op (.ld 82 (.t 81) 1 false),
     .op (.mv 10 (.t 82))])
   ((.seq (.seq (.drw [] [0, 1, 2, 3, 4, 5, 6, 7, 8, 9, 10, 11] [.op (.call (some 84) nurserylaw17_lock []),
     .op (.ld 85 (.t 1) 9 true),
     .op (.mv 86 (.t 10)),
     .op (.mv 87 (.t 7)),
     .op (.build 88 [(.i .i64 0), (.i .i64 0), (.i .i64 0), (.i .i64 0), (.i .i64 0)] [(0, 1, (.t 86)), (1, 1, (.t 87))]),
     .op (.call (some 89) rwlock_Apply [(.t 84), (.t 85), (.t 88)]),
     .op (.mv 83 (.t 89)),
     .op (.ext 90 (.t 83) 0),
     .op (.ext 91 (.t 83) 1),
     .op (.new 11 [(.i .i64 0), (.i .i64 0), (.i .i64 0), (.sl 1 true []), (.sl 5 true []), (.sl 1 true []), (.sl 2 true []), (.b false), (.i .i64 0), (.b false), (.i .i64 0), (.b false), (.sl 5 true [])]),
     .re (.ld 85 (.t 1) 9 true),
     .op (.st (.t 11) (.t 90) 13 false),
     .op (.mv 12 (.t 91))])
   (.frz [11]))
   ((.seq ((.seq (.reg [.op (.mv 92 (.t 12)),
     .op (.bin 93 .neq (.t 92) (.k (.i .i64 0))),
     .op (.mv 94 (.t 93)),
     .sc true 98 94 [.op (.mv 95 (.t 8)), .op (.len 96 (.t 95) .sl), .op (.bin 97 .gtr (.t 96) (.k (.i .i64 0)))] (.t 97)])
   (.ite (.t 98)
     ((.seq (.reg [.op (.mv 2 (.k (.b false)))])
     (.seq (.keep [2]) .ret)))
     (.skip))))
   ((.seq (.reg [.op (.fa 99 (.t 11) 0 9),
     .op (.ld 100 (.t 99) 9 true),
     .op (.st (.t 1) (.t 100) 9 false)])
   ((.seq (.reg [.op (.fa 101 (.t 11) 12 1),
     .op (.ld 102 (.t 101) 1 false),
     .op (.len 103 (.t 102) .sl),
     .op (.mv 104 (.k (.i .i64 0)))])
   (.blk 4 (.loop [1, 3, 7, 8, 77, 78, 79, 102, 103, 104] F_nurserylaw17_RwlockProgress_L1)))))))))))))
  (.reg [.op (.bin 114 .add (.t 79) (.k (.i .i64 1))),
    .op (.mv 79 (.t 114))]))))))

/-- nursery/nurserylaw17.RwlockProgress -/
def F_nurserylaw17_RwlockProgress : F := .mk
  ((.seq (.reg [.op (.box 1 (.t 0) 9 false),
    .op (.mv 2 (.k (.b false)))])
  ((.seq ((.seq (.drw [] [0, 1, 2, 3, 4, 5, 6, 7] [.op (.ld 15 (.t 1) 9 true),
    .op (.call (some 16) nurseryref17_Great [(.t 15)]),
    .op (.mv 17 (.t 16)),
    .sc true 22 17 [.op (.call (some 18) nurserylaw17_lock []), .op (.ld 19 (.t 1) 9 true), .op (.call (some 20) nurseryref17_Check [(.t 18), (.t 19)]), .op (.bin 21 .neq (.t 20) (.k (.i .i64 0)))] (.t 21)])
  (.ite (.t 22)
    ((.seq (.reg [.op (.call (some 23) nurserylaw17_awake []),
      .op (.mv 2 (.t 23))])
    (.ret)))
    (.skip))))
  ((.seq ((.seq (.reg [.op (.fa 24 (.t 1) 0 1),
    .op (.ld 25 (.t 24) 1 false),
    .op (.bin 26 .lss (.t 25) (.k (.i .i64 0))),
    .op (.mv 27 (.t 26)),
    .sc false 32 27 [.op (.fa 28 (.t 1) 3 1), .op (.ld 29 (.t 28) 1 false), .op (.len 30 (.t 29) .sl), .op (.bin 31 .eql (.t 30) (.k (.i .i64 0)))] (.t 31)])
  (.ite (.t 32)
    ((.seq (.reg [.op (.fa 33 (.t 1) 4 1),
      .op (.ld 34 (.t 33) 1 false),
      .op (.len 35 (.t 34) .sl),
      .op (.bin 36 .eql (.t 35) (.k (.i .i64 0))),
      .op (.mv 37 (.t 36)),
      .sc false 39 37 [.op (.call (some 38) nurserylaw17_awake [])] (.t 38),
      .op (.mv 2 (.t 39))])
    (.ret)))
    (.skip))))
  ((.seq (.reg [.op (.mv 3 (.k (.sl 1 true [])))])
  ((.seq ((.seq (.reg [.op (.fa 40 (.t 1) 4 1),
    .op (.ld 41 (.t 40) 1 false),
    .op (.len 42 (.t 41) .sl),
    .op (.mv 43 (.k (.i .i64 0)))])
  (.blk 0 (.loop [1, 3, 41, 42, 43] F_nurserylaw17_RwlockProgress_L0))))
  ((.seq (.reg [.op (.fa 69 (.t 1) 3 1),
    .op (.ld 70 (.t 69) 1 false),
    .op (.mv 6 (.t 70))])
  ((.seq (.reg [.op (.mv 7 (.k (.i .i64 54)))])
  ((.seq ((.seq (.reg [.op (.fa 71 (.t 1) 0 1),
    .op (.ld 72 (.t 71) 1 false),
    .op (.bin 73 .geq (.t 72) (.k (.i .i64 0)))])
  (.ite (.t 73)
    (.reg [.op (.fa 74 (.t 1) 0 1),
      .op (.ld 75 (.t 74) 1 false),
      .op (.buildSl 76 1 1 [(.i .i64 0)] [(0, (.t 75))] true),
      .op (.mv 6 (.t 76)),
      .op (.mv 7 (.k (.i .i64 56)))])
    (.skip))))
  ((.seq (.reg [.op (.mv 8 (.k (.sl 1 true [])))])
  ((.seq ((.seq (.reg [.op (.mv 77 (.t 6)),
    .op (.len 78 (.t 77) .sl),
    .op (.mv 79 (.k (.i .i64 0)))])
  (.blk 2 (.loop [1, 3, 7, 8, 77, 78, 79] F_nurserylaw17_RwlockProgress_L2))))
  ((.seq (.seq (.frz [8, 3])
  (.reg [.op (.mv 115 (.t 8)),
    .op (.mv 116 (.t 3)),
    .op (.call (some 117) slices_Equal_int_int [(.t 115), (.t 116)]),
    .op (.mv 118 (.t 117)),
    .sc false 120 118 [.op (.call (some 119) nurserylaw17_awake [])] (.t 119),
    .op (.mv 2 (.t 120))]))
  (.ret)))))))))))))))))))))))
  [.t 2] false none

def F_nurserylaw17_RwlockFair_L0 : C :=
  (.seq ((.seq (.reg [.op (.mv 101 (.t 15)),
    .op (.bin 102 .geq (.t 101) (.k (.i .i64 0)))])
  (.ite (.t 102)
    (.skip)
    (.seq (.keep [0, 3, 4, 11, 12, 24, 25, 26]) (.exit 2)))))
  ((.seq (.blk 3 ((.seq (.drw [] [0, 1, 2, 3, 4, 5, 6, 7, 8, 9, 10] [.op (.mv 105 (.t 3)),
     .op (.mv 106 (.t 15)),
     .op (.ixs 107 (.t 105) (.t 106) 1),
     .op (.ld 108 (.t 107) 1 false),
     .op (.ldd 109 (.t 7) 1 false),
     .op (.bin 110 .eql (.t 108) (.t 109)),
     .op (.mv 111 (.t 110)),
     .sc false 115 111 [.op (.mv 112 (.t 4)), .op (.mv 113 (.t 15)), .op (.mget 114 (.t 112) (.t 113) (.b false) false [.i])] (.t 114)])
   (.ite (.t 115)
     ((.seq (.reg [.op (.mv 116 (.t 4)),
       .op (.mv 117 (.t 15)),
       .op (.mdel (.t 116) (.t 117) [.i])])
     (.seq (.keep [0, 3, 4, 11, 12, 24, 25, 26]) (.exit 2))))
     (.skip)))))
  (.reg [.op (.mv 103 (.t 15)),
    .op (.bin 104 .sub (.t 103) (.k (.i .i64 1))),
    .op (.mv 15 (.t 104))]))))

def F_nurserylaw17_RwlockFair_L1 : C :=
  (.seq (.reg [.op (.bin 121 .lss (.t 120) (.t 119))])
  ((.seq (.ite (.t 121)
    (.skip)
    (.seq (.keep [0, 3, 4, 11, 12, 16, 24, 25, 26]) (.exit 4)))
  ((.seq (.blk 5 ((.seq (.reg [.op (.mv 122 (.t 120)),
     .op (.ixs 123 (.t 118) (.t 120) 1),
     .op (.ld 124 (.t 123) 1 false),
     .op (.mv 17 (.t 122)),
     .op (.mv 18 (.t 124))])
   ((.seq (.reg [.op (.mv 125 (.t 4)),
     .op (.mv 126 (.t 17)),
     .op (.mget 127 (.t 125) (.t 126) (.b false) false [.i])])
   (.ite (.t 127)
     (.reg [.op (.mv 128 (.t 16)),
       .op (.mv 129 (.t 18)),
       .op (.buildSl 130 1 1 [(.i .i64 0)] [(0, (.t 129))] true),
       .op (.app 131 (.t 128) (.t 130) 1),
       .op (.mv 16 (.t 131))])
     (.skip)))))))
  (.reg [.op (.bin 132 .add (.t 120) (.k (.i .i64 1))),
    .op (.mv 120 (.t 132))]))))))

def F_nurserylaw17_RwlockFair_L2 : C :=
  (.seq (.reg [.op (.bin 27 .lss (.t 26) (.t 25))])
  ((.seq (.ite (.t 27)
    (.skip)
    (.seq (.keep []) (.exit 0)))
  ((.seq (.blk 1 ((.seq (.reg [.op (.mv 28 (.t 26)),
     .op (.ixs 29 (.t 24) (.t 26) 2),
     .op (.ld 30 (.t 29) 2 true),
     .op (.new 6 [(.i .u8 0), (.i .u8 0)]),
     .op (.mv 5 (.t 28)),
     .op (.st (.t 6) (.t 30) 2 true)])
   ((.seq (.reg [.op (.fa 31 (.t 6) 0 1),
     .op (.ld 32 (.t 31) 1 false),
     .op (.cvi 33 .i64 (.t 32)),
     .op (.bin 34 .rem (.t 33) (.k (.i .i64 4))),
     .op (.new 7 [(.i .i64 0)]),
     .op (.st (.t 7) (.t 34) 1 true)])
   ((.seq (.reg [.op (.mv 36 (.t 0)),
     .op (.mv 37 (.t 5)),
     .op (.sl 38 (.t 36) none (some (.t 37)) 2),
     .op (.call (some 39) nurserylaw17_play [(.t 38)]),
     .op (.mv 35 (.t 39)),
     .op (.ext 40 (.t 35) 0),
     .op (.ext 41 (.t 35) 1),
     .op (.ext 42 (.t 35) 2),
     .op (.new 8 [(.i .i64 0), (.i .i64 0), (.i .i64 0), (.sl 1 true []), (.sl 5 true []), (.sl 1 true []), (.sl 2 true []), (.b false), (.i .i64 0)]),
     .op (.st (.t 8) (.t 40) 9 true),
     .op (.mv 9 (.t 41)),
     .op (.mv 10 (.t 42))])
   ((.seq (.reg [.op (.mv 44 (.t 0)),
     .op (.mv 45 (.t 5)),
     .op (.bin 46 .add (.t 45) (.k (.i .i64 1))),
     .op (.sl 47 (.t 44) none (some (.t 46)) 2),
     .op (.call (some 48) nurserylaw17_play [(.t 47)]),
     .op (.mv 43 (.t 48)),
     .op (.ext 49 (.t 43) 0),
     .op (.ext 50 (.t 43) 1),
     .op (.ext 51 (.t 43) 2),
     .op (.new 11 [(.i .i64 0), (.i .i64 0), (.i .i64 0), (.sl 1 true []), (.sl 5 true []), (.sl 1 true []), (.sl 2 true []), (.b false), (.i .i64 0)]),
     .op (.st (.t 11) (.t 49) 9 true),
     .op (.mv 12 (.t 50)),
     .op (.mv 13 (.t 51))])
   ((.seq ((.seq (.reg [.op (.mv 52 (.t 10)),
     .op (.un 53 .not (.t 52)),
     .op (.mv 54 (.t 53)),
     .sc true 57 54 [.op (.mv 55 (.t 13)), .op (.un 56 .not (.t 55))] (.t 56)])
   (.ite (.t 57)
     ((.seq (.reg [.op (.mv 2 (.k (.b false)))])
     (.seq (.keep [2]) .ret)))
     (.skip))))
   ((.seq (.reg [.op (.mkf 58 nurserylaw17_RwlockFairC1 [] [(.t 7)]),
     .op (.mv 14 (.t 58))])
   ((.seq ((.seq (.reg [.op (.fa 59 (.t 6) 1 1),
     .op (.ld 60 (.t 59) 1 false),
     .op (.bin 61 .rem (.t 60) (.k (.i .u8 4))),
     .op (.bin 62 .lss (.t 61) (.k (.i .u8 2))),
     .op (.mv 63 (.t 62)),
     .sc false 68 63 [.op (.mv 64 (.t 14)), .op (.ld 65 (.t 8) 9 true), .op (.callv (some 66) (.t 64) [(.t 65)]), .op (.un 67 .not (.t 66))] (.t 67),
     .op (.mv 69 (.t 68)),
     .sc false 74 69 [.op (.ld 70 (.t 8) 9 true), .op (.ld 71 (.t 7) 1 false), .op (.call (some 72) rwlock_Holds [(.t 70), (.t 71)]), .op (.bin 73 .eql (.t 72) (.k (.i .i64 0)))] (.t 73)])
   (.ite (.t 74)
     ((.seq (.reg [.op (.mv 75 (.t 3)),
       .op (.ld 76 (.t 7) 1 false),
       .op (.buildSl 77 1 1 [(.i .i64 0)] [(0, (.t 76))] true),
       .op (.app 78 (.t 75) (.t 77) 1),
       .op (.mv 3 (.t 78))])
     (.reg [.op (.mv 79 (.t 4)),
       .op (.mv 80 (.t 3)),
       .op (.len 81 (.t 80) .sl),
       .op (.bin 82 .sub (.t 81) (.k (.i .i64 1))),
       .op (.mput (.t 79) (.t 82) (.k (.b true)) [.i])])))
     (.skip))))
   ((.seq ((.seq (.reg [.op (.fa 83 (.t 6) 1 1),
     .op (.ld 84 (.t 83) 1 false),
     .op (.bin 85 .rem (.t 84) (.k (.i .u8 4))),
     .op (.bin 86 .eql (.t 85) (.k (.i .u8 3))),
     .op (.mv 87 (.t 86)),
     .sc false 91 87 [.op (.mv 88 (.t 14)), .op (.ld 89 (.t 8) 9 true), .op (.callv (some 90) (.t 88) [(.t 89)])] (.t 90),
     .op (.mv 92 (.t 91)),
     .sc false 97 92 [.op (.mv 93 (.t 14)), .op (.ld 94 (.t 11) 9 true), .op (.callv (some 95) (.t 93) [(.t 94)]), .op (.un 96 .not (.t 95))] (.t 96)])
   (.ite (.t 97)
     ((.seq (.reg [.op (.mv 98 (.t 3)),
       .op (.len 99 (.t 98) .sl),
       .op (.bin 100 .sub (.t 99) (.k (.i .i64 1))),
       .op (.mv 15 (.t 100))])
     (.blk 2 (.loop [0, 3, 4, 7, 11, 12, 15, 24, 25, 26] F_nurserylaw17_RwlockFair_L0))))
     (.skip))))
   ((.seq (.reg [.op (.mv 16 (.k (.sl 1 true [])))])
   ((.seq ((.seq (.reg [.op (.mv 118 (.t 3)),
     .op (.len 119 (.t 118) .sl),
     .op (.mv 120 (.k (.i .i64 0)))])
   (.blk 4 (.loop [0, 3, 4, 11, 12, 16, 24, 25, 26, 118, 119, 120] F_nurserylaw17_RwlockFair_L1))))
   ((.seq (.seq (.frz [16])
   (.reg [.op (.mv 133 (.t 12)),
     .op (.len 134 (.t 133) .sl),
     .op (.mv 135 (.t 16)),
     .op (.len 136 (.t 135) .sl),
     .op (.bin 137 .gtr (.t 134) (.t 136)),
     .op (.mv 138 (.t 137)),
     .sc true 146 138 [.op (.mv 139 (.t 12)), .op (.mv 140 (.t 16)), .op (.mv 141 (.t 12)), .op (.len 142 (.t 141) .sl), .op (.sl 143 (.t 140) none (some (.t 142)) 1), .op (.call (some 144) slices_Equal_int_int [(.t 139), (.t 143)]), .op (.un 145 .not (.t 144))] (.t 145),
     .op (.mv 147 (.t 146)),
     .sc true 157 147 [.op (.mv 148 (.t 16)), .op (.len 149 (.t 148) .sl), .op (.mv 150 (.t 12)), .op (.len 151 (.t 150) .sl), .op (.bin 152 .sub (.t 149) (.t 151)), .op (.fa 153 (.t 11) 4 1), .op (.ld 154 (.t 153) 1 false), .op (.len 155 (.t 154) .sl), .op (.bin 156 .neq (.t 152) (.t 155))] (.t 156)]))
   (.ite (.t 157)
     ((.seq (.reg [.op (.mv 2 (.k (.b false)))])
     (.seq (.keep [2]) .ret)))
     (.skip)))))))))))))))))))))))))
  (.reg [.op (.bin 158 .add (.t 26) (.k (.i .i64 1))),
    .op (.mv 26 (.t 158))]))))))

/-- nursery/nurserylaw17.RwlockFair -/
def F_nurserylaw17_RwlockFair : F := .mk
  ((.seq (.reg [.op (.mv 2 (.k (.b false)))])
  ((.seq ((.seq (.reg [.op (.mv 19 (.t 0)),
    .op (.len 20 (.t 19) .sl),
    .op (.bin 21 .gtr (.t 20) (.k (.i .i64 24)))])
  (.ite (.t 21)
    ((.seq (.reg [.op (.call (some 22) nurserylaw17_awake []),
      .op (.mv 2 (.t 22))])
    (.ret)))
    (.skip))))
  ((.seq (.reg [.op (.mv 3 (.k (.sl 1 true [])))])
  ((.seq (.reg [.op (.mkm 23),
    .op (.mv 4 (.t 23))])
  ((.seq ((.seq (.reg [.op (.mv 24 (.t 0)),
    .op (.len 25 (.t 24) .sl),
    .op (.mv 26 (.k (.i .i64 0)))])
  (.blk 0 (.loop [0, 3, 4, 24, 25, 26] F_nurserylaw17_RwlockFair_L2))))
  ((.seq (.reg [.op (.call (some 159) nurserylaw17_awake []),
    .op (.mv 2 (.t 159))])
  (.ret)))))))))))))
  [.t 2] false none

def F_nurseryref17_Great_L0 : C :=
  (.seq ((.seq (.reg [.op (.mv 26 (.t 3)),
    .op (.fa 27 (.t 1) 6 1),
    .op (.ld 28 (.t 27) 1 false),
    .op (.len 29 (.t 28) .sl),
    .op (.bin 30 .lss (.t 26) (.t 29))])
  (.ite (.t 30)
    (.skip)
    (.seq (.keep []) (.exit 0)))))
  ((.seq (.blk 1 ((.seq (.reg [.op (.fa 33 (.t 1) 6 1),
     .op (.ld 34 (.t 33) 1 false),
     .op (.mv 35 (.t 3)),
     .op (.ixs 36 (.t 34) (.t 35) 2),
     .op (.fa 37 (.t 36) 1 1),
     .op (.ld 38 (.t 37) 1 false),
     .op (.len 39 (.t 38) .sl),
     .op (.bin 40 .gtr (.t 39) (.k (.i .i64 17)))])
   (.ite (.t 40)
     ((.seq (.reg [.op (.mv 2 (.k (.b true)))])
     (.seq (.keep [2]) .ret)))
     (.skip)))))
  (.reg [.op (.mv 31 (.t 3)),
    .op (.bin 32 .add (.t 31) (.k (.i .i64 1))),
    .op (.mv 3 (.t 32))]))))

/-- nursery/nurseryref17.Great -/
def F_nurseryref17_Great : F := .mk
  ((.seq (.reg [.op (.box 1 (.t 0) 9 true),
    .op (.mv 2 (.k (.b false)))])
  ((.seq ((.seq (.reg [.op (.fa 4 (.t 1) 4 1),
    .op (.ld 5 (.t 4) 1 false),
    .op (.len 6 (.t 5) .sl),
    .op (.bin 7 .gtr (.t 6) (.k (.i .i64 17))),
    .op (.mv 8 (.t 7)),
    .sc true 13 8 [.op (.fa 9 (.t 1) 3 1), .op (.ld 10 (.t 9) 1 false), .op (.len 11 (.t 10) .sl), .op (.bin 12 .gtr (.t 11) (.k (.i .i64 17)))] (.t 12),
    .op (.mv 14 (.t 13)),
    .sc true 19 14 [.op (.fa 15 (.t 1) 5 1), .op (.ld 16 (.t 15) 1 false), .op (.len 17 (.t 16) .sl), .op (.bin 18 .gtr (.t 17) (.k (.i .i64 17)))] (.t 18),
    .op (.mv 20 (.t 19)),
    .sc true 25 20 [.op (.fa 21 (.t 1) 6 1), .op (.ld 22 (.t 21) 1 false), .op (.len 23 (.t 22) .sl), .op (.bin 24 .gtr (.t 23) (.k (.i .i64 17)))] (.t 24)])
  (.ite (.t 25)
    ((.seq (.reg [.op (.mv 2 (.k (.b true)))])
    (.ret)))
    (.skip))))
  ((.seq ((.seq (.reg [.op (.mv 3 (.k (.i .i64 0)))])
  (.blk 0 (.loop [1, 3] F_nurseryref17_Great_L0))))
  ((.seq (.reg [.op (.mv 2 (.k (.b false)))])
  (.ret)))))))))
  [.t 2] false none

/-- nursery/nurserylaw17.awake -/
def F_nurserylaw17_awake : F := .mk
  ((.seq (.reg [.op (.mv 0 (.k (.b false)))])
  ((.seq (.reg [.op (.call (some 14) nurserylaw17_lock []),
    .op (.call (some 15) rwlock_New [(.t 14)]),
    .op (.mv 13 (.t 15)),
    .op (.ext 16 (.t 13) 0),
    .op (.ext 17 (.t 13) 1),
    .op (.new 1 [(.i .i64 0), (.i .i64 0), (.i .i64 0), (.sl 1 true []), (.sl 5 true []), (.sl 1 true []), (.sl 2 true []), (.b false), (.i .i64 0)]),
    .op (.st (.t 1) (.t 16) 9 true),
    .op (.mv 2 (.t 17))])
  ((.seq (.seq (.drw [] [0, 1, 2, 3, 4, 5, 6, 7, 8, 9] [.op (.call (some 19) nurserylaw17_lock []),
    .op (.ldd 20 (.t 1) 9 true),
    .op (.build 21 [(.i .i64 0), (.i .i64 0), (.i .i64 0), (.i .i64 0), (.i .i64 0)] [(0, 1, (.k (.i .i64 1))), (1, 1, (.k (.i .i64 53)))]),
    .op (.call (some 22) rwlock_Apply [(.t 19), (.t 20), (.t 21)]),
    .op (.mv 18 (.t 22)),
    .op (.ext 23 (.t 18) 0),
    .op (.ext 24 (.t 18) 1),
    .op (.new 3 [(.i .i64 0), (.i .i64 0), (.i .i64 0), (.sl 1 true []), (.sl 5 true []), (.sl 1 true []), (.sl 2 true []), (.b false), (.i .i64 0), (.b false), (.i .i64 0), (.b false), (.sl 5 true [])]),
    .op (.st (.t 3) (.t 23) 13 false),
    .op (.mv 4 (.t 24))])
  (.frz [3]))
  ((.seq (.seq (.drw [] [0, 1, 2, 3, 4, 5, 6, 7, 8, 9, 10] [.op (.call (some 26) nurserylaw17_lock []),
    .op (.fad 27 (.t 3) 0 9),
    .op (.ldd 28 (.t 27) 9 true),
    .op (.build 29 [(.i .i64 0), (.i .i64 0), (.i .i64 0), (.i .i64 0), (.i .i64 0)] [(0, 1, (.k (.i .i64 2))), (1, 1, (.k (.i .i64 55)))]),
    .op (.call (some 30) rwlock_Apply [(.t 26), (.t 28), (.t 29)]),
    .op (.mv 25 (.t 30)),
    .op (.ext 31 (.t 25) 0),
    .op (.ext 32 (.t 25) 1),
    .op (.new 5 [(.i .i64 0), (.i .i64 0), (.i .i64 0), (.sl 1 true []), (.sl 5 true []), (.sl 1 true []), (.sl 2 true []), (.b false), (.i .i64 0), (.b false), (.i .i64 0), (.b false), (.sl 5 true [])]),
    .op (.st (.t 5) (.t 31) 13 false),
    .op (.mv 6 (.t 32))])
  (.frz [5]))
  ((.seq (.seq (.drw [] [0, 1, 2, 3, 4, 5, 6, 7, 8, 9, 10] [.op (.call (some 34) nurserylaw17_lock []),
    .op (.fad 35 (.t 5) 0 9),
    .op (.ldd 36 (.t 35) 9 true),
    .op (.build 37 [(.i .i64 0), (.i .i64 0), (.i .i64 0), (.i .i64 0), (.i .i64 0)] [(0, 1, (.k (.i .i64 3))), (1, 1, (.k (.i .i64 53)))]),
    .op (.call (some 38) rwlock_Apply [(.t 34), (.t 36), (.t 37)]),
    .op (.mv 33 (.t 38)),
    .op (.ext 39 (.t 33) 0),
    .op (.ext 40 (.t 33) 1),
    .op (.new 7 [(.i .i64 0), (.i .i64 0), (.i .i64 0), (.sl 1 true []), (.sl 5 true []), (.sl 1 true []), (.sl 2 true []), (.b false), (.i .i64 0), (.b false), (.i .i64 0), (.b false), (.sl 5 true [])]),
    .op (.st (.t 7) (.t 39) 13 false),
    .op (.mv 8 (.t 40))])
  (.frz [7]))
  ((.seq (.seq (.drw [] [0, 1, 2, 3, 4, 5, 6, 7, 8, 9, 10] [.op (.call (some 42) nurserylaw17_lock []),
    .op (.fad 43 (.t 7) 0 9),
    .op (.ldd 44 (.t 43) 9 true),
    .op (.build 45 [(.i .i64 0), (.i .i64 0), (.i .i64 0), (.i .i64 0), (.i .i64 0)] [(0, 1, (.k (.i .i64 1))), (1, 1, (.k (.i .i64 54)))]),
    .op (.call (some 46) rwlock_Apply [(.t 42), (.t 44), (.t 45)]),
    .op (.mv 41 (.t 46)),
    .op (.ext 47 (.t 41) 0),
    .op (.ext 48 (.t 41) 1),
    .op (.new 9 [(.i .i64 0), (.i .i64 0), (.i .i64 0), (.sl 1 true []), (.sl 5 true []), (.sl 1 true []), (.sl 2 true []), (.b false), (.i .i64 0), (.b false), (.i .i64 0), (.b false), (.sl 5 true [])]),
    .op (.st (.t 9) (.t 47) 13 false),
    .op (.mv 10 (.t 48))])
  (.frz [9]))
  ((.seq (.seq (.drw [] [0, 1, 2, 3, 4, 5, 6, 7, 8, 9] [.op (.call (some 50) nurserylaw17_lock []),
    .op (.fad 51 (.t 7) 0 9),
    .op (.ldd 52 (.t 51) 9 true),
    .op (.call (some 53) rwlock_Withdraw [(.t 50), (.t 52), (.k (.i .i64 2))]),
    .op (.mv 49 (.t 53)),
    .op (.ext 54 (.t 49) 0),
    .op (.ext 55 (.t 49) 1),
    .op (.new 11 [(.i .i64 0), (.i .i64 0), (.i .i64 0), (.sl 1 true []), (.sl 5 true []), (.sl 1 true []), (.sl 2 true []), (.b false), (.i .i64 0), (.b false), (.i .i64 0), (.b false), (.sl 5 true [])]),
    .op (.st (.t 11) (.t 54) 13 false),
    .op (.mv 12 (.t 55))])
  (.frz [11]))
  ((.seq ((.seq (.reg [.op (.mv 56 (.t 2)),
    .op (.bin 57 .neq (.t 56) (.k (.i .i64 0))),
    .op (.mv 58 (.t 57)),
    .sc true 61 58 [.op (.mv 59 (.t 4)), .op (.bin 60 .neq (.t 59) (.k (.i .i64 0)))] (.t 60),
    .op (.mv 62 (.t 61)),
    .sc true 65 62 [.op (.mv 63 (.t 6)), .op (.bin 64 .neq (.t 63) (.k (.i .i64 0)))] (.t 64),
    .op (.mv 66 (.t 65)),
    .sc true 69 66 [.op (.mv 67 (.t 8)), .op (.bin 68 .neq (.t 67) (.k (.i .i64 0)))] (.t 68),
    .op (.mv 70 (.t 69)),
    .sc true 73 70 [.op (.mv 71 (.t 10)), .op (.bin 72 .neq (.t 71) (.k (.i .i64 0)))] (.t 72),
    .op (.mv 74 (.t 73)),
    .sc true 77 74 [.op (.mv 75 (.t 12)), .op (.bin 76 .neq (.t 75) (.k (.i .i64 0)))] (.t 76),
    .op (.mv 78 (.t 77)),
    .sc true 81 78 [.op (.fa 79 (.t 3) 9 1), .op (.ld 80 (.t 79) 1 false)] (.t 80),
    .op (.mv 82 (.t 81)),
    .sc true 86 82 [.op (.fa 83 (.t 5) 9 1), .op (.ld 84 (.t 83) 1 false), .op (.un 85 .not (.t 84))] (.t 85),
    .op (.mv 87 (.t 86)),
    .sc true 91 87 [.op (.fa 88 (.t 7) 9 1), .op (.ld 89 (.t 88) 1 false), .op (.un 90 .not (.t 89))] (.t 90)])
  (.ite (.t 91)
    ((.seq (.reg [.op (.mv 0 (.k (.b false)))])
    (.ret)))
    (.skip))))
  ((.seq (.reg [.op (.fa 92 (.t 9) 12 1),
    .op (.ld 93 (.t 92) 1 false),
    .op (.len 94 (.t 93) .sl),
    .op (.bin 95 .eql (.t 94) (.k (.i .i64 1))),
    .op (.mv 96 (.t 95)),
    .sc false 103 96 [.op (.fa 97 (.t 9) 12 1), .op (.ld 98 (.t 97) 1 false), .op (.ixs 99 (.t 98) (.k (.i .i64 0)) 5), .op (.fa 100 (.t 99) 0 1), .op (.ld 101 (.t 100) 1 false), .op (.bin 102 .eql (.t 101) (.k (.i .i64 2)))] (.t 102),
    .op (.mv 104 (.t 103)),
    .sc false 109 104 [.op (.fa 105 (.t 9) 0 9), .op (.fa 106 (.t 105) 0 1), .op (.ld 107 (.t 106) 1 false), .op (.bin 108 .eql (.t 107) (.k (.i .i64 2)))] (.t 108),
    .op (.mv 110 (.t 109)),
    .sc false 115 110 [.op (.fa 111 (.t 11) 12 1), .op (.ld 112 (.t 111) 1 false), .op (.len 113 (.t 112) .sl), .op (.bin 114 .eql (.t 113) (.k (.i .i64 1)))] (.t 114),
    .op (.mv 116 (.t 115)),
    .sc false 123 116 [.op (.fa 117 (.t 11) 12 1), .op (.ld 118 (.t 117) 1 false), .op (.ixs 119 (.t 118) (.k (.i .i64 0)) 5), .op (.fa 120 (.t 119) 0 1), .op (.ld 121 (.t 120) 1 false), .op (.bin 122 .eql (.t 121) (.k (.i .i64 3)))] (.t 122),
    .op (.mv 0 (.t 123))])
  (.ret)))))))))))))))))))
  [.t 0] false none

/-- nursery/rwlock.Withdraw -/
def F_rwlock_Withdraw : F := .mk
  ((.seq (.reg [.op (.box 3 (.t 0) 4 true),
    .op (.box 4 (.t 1) 9 true),
    .op (.new 6 [(.i .i64 0), (.i .i64 0), (.i .i64 0), (.sl 1 true []), (.sl 5 true []), (.sl 1 true []), (.sl 2 true []), (.b false), (.i .i64 0), (.b false), (.i .i64 0), (.b false), (.sl 5 true [])]),
    .op (.mv 7 (.k (.i .i64 0)))])
  ((.seq ((.seq (.reg [.op (.ld 11 (.t 3) 4 true),
    .op (.ld 12 (.t 4) 9 true),
    .op (.call (some 13) rwlock_Check [(.t 11), (.t 12)]),
    .op (.bin 14 .neq (.t 13) (.k (.i .i64 0)))])
  (.ite (.t 14)
    ((.seq (.reg [.op (.build 15 [(.i .i64 0), (.i .i64 0), (.i .i64 0), (.sl 1 true []), (.sl 5 true []), (.sl 1 true []), (.sl 2 true []), (.b false), (.i .i64 0), (.b false), (.i .i64 0), (.b false), (.sl 5 true [])] []),
      .op (.st (.t 6) (.t 15) 13 false),
      .op (.mv 7 (.k (.i .i64 1)))])
    (.ret)))
    (.skip))))
  ((.seq ((.seq (.reg [.op (.fa 17 (.t 4) 4 1),
    .op (.ld 18 (.t 17) 1 false),
    .op (.mv 19 (.t 2)),
    .op (.call (some 20) waitlist_Find [(.t 18), (.t 19)]),
    .op (.mv 16 (.t 20)),
    .op (.ext 21 (.t 16) 0),
    .op (.ext 22 (.t 16) 1),
    .op (.mv 8 (.t 21)),
    .op (.mv 9 (.t 22))])
  ((.seq (.reg [.op (.mv 23 (.t 9)),
    .op (.un 24 .not (.t 23))])
  (.ite (.t 24)
    ((.seq (.reg [.op (.build 25 [(.i .i64 0), (.i .i64 0), (.i .i64 0), (.sl 1 true []), (.sl 5 true []), (.sl 1 true []), (.sl 2 true []), (.b false), (.i .i64 0), (.b false), (.i .i64 0), (.b false), (.sl 5 true [])] []),
      .op (.st (.t 6) (.t 25) 13 false),
      .op (.mv 7 (.k (.i .i64 7)))])
    (.ret)))
    (.skip))))))
  ((.seq (.reg [.op (.ld 26 (.t 4) 9 true),
    .op (.callk (some 27) rwlock_changed [(.t 26)]),
    .op (.mv 10 (.t 27))])
  ((.seq (.reg [.op (.mv 28 (.t 10)),
    .op (.mv 29 (.t 10)),
    .op (.nck 30 (.t 29)),
    .op (.fa 31 (.t 30) 0 9),
    .op (.fa 32 (.t 31) 4 1),
    .op (.ld 33 (.t 32) 1 false),
    .op (.mv 34 (.t 2)),
    .op (.callr (some 35) waitlist_Remove [(.t 33), (.t 34)]),
    .op (.nck 36 (.t 28)),
    .op (.fa 37 (.t 36) 0 9),
    .op (.fa 38 (.t 37) 4 1),
    .op (.st (.t 38) (.t 35) 1 false)])
  ((.seq (.reg [.op (.mv 39 (.t 10)),
    .op (.callr (some 40) rwlock_lock_serve [(.t 39)])])
  ((.seq (.drw [] [0, 1, 2, 3, 4, 5, 6, 7, 8, 9, 10] [.op (.mv 41 (.t 10)),
    .op (.nck 42 (.t 41)),
    .op (.fa 43 (.t 42) 0 9),
    .op (.ld 44 (.t 43) 9 true),
    .op (.mv 45 (.t 10)),
    .op (.nck 46 (.t 45)),
    .op (.fa 47 (.t 46) 9 1),
    .op (.ld 48 (.t 47) 1 false),
    .op (.build 49 [(.i .i64 0), (.i .i64 0), (.i .i64 0), (.sl 1 true []), (.sl 5 true []), (.sl 1 true []), (.sl 2 true []), (.b false), (.i .i64 0), (.b false), (.i .i64 0), (.b false), (.sl 5 true [])] [(0, 9, (.t 44)), (12, 1, (.t 48))]),
    .op (.st (.t 6) (.t 49) 13 false),
    .op (.mv 7 (.k (.i .i64 0)))])
  (.ret)))))))))))))))
  [.c 6 13 true, .t 7] false none

/-- nursery/nurseryref17.Withdraw -/
def F_nurseryref17_Withdraw : F := .mk
  ((.seq (.reg [.op (.box 3 (.t 0) 4 true),
    .op (.box 4 (.t 1) 9 false),
    .op (.new 6 [(.i .i64 0), (.i .i64 0), (.i .i64 0), (.sl 1 true []), (.sl 5 true []), (.sl 1 true []), (.sl 2 true []), (.b false), (.i .i64 0), (.b false), (.i .i64 0), (.b false), (.sl 5 true [])]),
    .op (.mv 7 (.k (.i .i64 0)))])
  ((.seq ((.seq (.reg [.op (.ld 10 (.t 3) 4 true),
    .op (.ld 11 (.t 4) 9 true),
    .op (.call (some 12) nurseryref17_Check [(.t 10), (.t 11)]),
    .op (.bin 13 .neq (.t 12) (.k (.i .i64 0)))])
  (.ite (.t 13)
    ((.seq (.reg [.op (.build 14 [(.i .i64 0), (.i .i64 0), (.i .i64 0), (.sl 1 true []), (.sl 5 true []), (.sl 1 true []), (.sl 2 true []), (.b false), (.i .i64 0), (.b false), (.i .i64 0), (.b false), (.sl 5 true [])] []),
      .op (.st (.t 6) (.t 14) 13 false),
      .op (.mv 7 (.k (.i .i64 1)))])
    (.ret)))
    (.skip))))
  ((.seq ((.seq (.reg [.op (.fa 16 (.t 4) 4 1),
    .op (.ld 17 (.t 16) 1 false),
    .op (.mv 18 (.t 2)),
    .op (.call (some 19) nurseryref07_Find [(.t 17), (.t 18)]),
    .op (.mv 15 (.t 19)),
    .op (.ext 20 (.t 15) 0),
    .op (.ext 21 (.t 15) 1),
    .op (.mv 8 (.t 20)),
    .op (.mv 9 (.t 21))])
  ((.seq (.reg [.op (.mv 22 (.t 9)),
    .op (.un 23 .not (.t 22))])
  (.ite (.t 23)
    ((.seq (.reg [.op (.build 24 [(.i .i64 0), (.i .i64 0), (.i .i64 0), (.sl 1 true []), (.sl 5 true []), (.sl 1 true []), (.sl 2 true []), (.b false), (.i .i64 0), (.b false), (.i .i64 0), (.b false), (.sl 5 true [])] []),
      .op (.st (.t 6) (.t 24) 13 false),
      .op (.mv 7 (.k (.i .i64 7)))])
    (.ret)))
    (.skip))))))
  ((.seq (.reg [.op (.fa 25 (.t 4) 4 1),
    .op (.ld 26 (.t 25) 1 false),
    .op (.mv 27 (.t 2)),
    .op (.call (some 28) nurseryref07_Remove [(.t 26), (.t 27)]),
    .op (.fa 29 (.t 4) 4 1),
    .op (.st (.t 29) (.t 28) 1 false)])
  ((.seq (.reg [.op (.ld 30 (.t 4) 9 true),
    .op (.call (some 31) nurseryref17_serve [(.t 30)]),
    .op (.st (.t 6) (.t 31) 13 false),
    .op (.mv 7 (.k (.i .i64 0)))])
  (.ret)))))))))))
  [.c 6 13 true, .t 7] false none

def F_nurseryref17_SameReply_L0 : C :=
  (.seq ((.seq (.reg [.op (.mv 13 (.t 5)),
    .op (.fa 14 (.t 2) 12 1),
    .op (.ld 15 (.t 14) 1 false),
    .op (.len 16 (.t 15) .sl),
    .op (.bin 17 .lss (.t 13) (.t 16))])
  (.ite (.t 17)
    (.skip)
    (.seq (.keep [2, 3]) (.exit 0)))))
  ((.seq (.blk 1 ((.seq (.drw [] [0, 1, 2, 3, 4, 5, 6, 7, 8, 9, 10] [.op (.fad 20 (.t 2) 12 1),
     .op (.ldd 21 (.t 20) 1 false),
     .op (.mv 22 (.t 5)),
     .op (.ixs 23 (.t 21) (.t 22) 5),
     .op (.ld 24 (.t 23) 5 true),
     .op (.fad 25 (.t 3) 12 1),
     .op (.ldd 26 (.t 25) 1 false),
     .op (.mv 27 (.t 5)),
     .op (.ixs 28 (.t 26) (.t 27) 5),
     .op (.ld 29 (.t 28) 5 true),
     .op (.eqv 30 true (.t 24) (.t 29) [.i, .i, .i, .b, .i])])
   (.ite (.t 30)
     ((.seq (.reg [.op (.mv 4 (.k (.b false)))])
     (.seq (.keep [4]) .ret)))
     (.skip)))))
  (.reg [.op (.mv 18 (.t 5)),
    .op (.bin 19 .add (.t 18) (.k (.i .i64 1))),
    .op (.mv 5 (.t 19))]))))

/-- nursery/nurseryref17.SameReply -/
def F_nurseryref17_SameReply : F := .mk
  ((.seq (.reg [.op (.box 2 (.t 0) 13 true),
    .op (.box 3 (.t 1) 13 true),
    .op (.mv 4 (.k (.b false)))])
  ((.seq ((.seq (.reg [.op (.fa 6 (.t 2) 12 1),
    .op (.ld 7 (.t 6) 1 false),
    .op (.len 8 (.t 7) .sl),
    .op (.fa 9 (.t 3) 12 1),
    .op (.ld 10 (.t 9) 1 false),
    .op (.len 11 (.t 10) .sl),
    .op (.bin 12 .neq (.t 8) (.t 11))])
  (.ite (.t 12)
    ((.seq (.reg [.op (.mv 4 (.k (.b false)))])
    (.ret)))
    (.skip))))
  ((.seq ((.seq (.reg [.op (.mv 5 (.k (.i .i64 0)))])
  (.blk 0 (.loop [2, 3, 5] F_nurseryref17_SameReply_L0))))
  ((.seq (.reg [.op (.fa 31 (.t 2) 0 9),
    .op (.ld 32 (.t 31) 9 true),
    .op (.fa 33 (.t 3) 0 9),
    .op (.ld 34 (.t 33) 9 true),
    .op (.call (some 35) nurseryref17_SameState [(.t 32), (.t 34)]),
    .op (.mv 36 (.t 35)),
    .sc false 42 36 [.op (.fa 37 (.t 2) 9 1), .op (.ld 38 (.t 37) 1 false), .op (.fa 39 (.t 3) 9 1), .op (.ld 40 (.t 39) 1 false), .op (.eqb 41 false (.t 38) (.t 40))] (.t 41),
    .op (.mv 43 (.t 42)),
    .sc false 49 43 [.op (.fa 44 (.t 2) 10 1), .op (.ld 45 (.t 44) 1 false), .op (.fa 46 (.t 3) 10 1), .op (.ld 47 (.t 46) 1 false), .op (.bin 48 .eql (.t 45) (.t 47))] (.t 48),
    .op (.mv 50 (.t 49)),
    .sc false 56 50 [.op (.fa 51 (.t 2) 11 1), .op (.ld 52 (.t 51) 1 false), .op (.fa 53 (.t 3) 11 1), .op (.ld 54 (.t 53) 1 false), .op (.eqb 55 false (.t 52) (.t 54))] (.t 55),
    .op (.mv 4 (.t 56))])
  (.ret)))))))))
  [.t 4] false none

/-- nursery/rwlock.Holds -/
def F_rwlock_Holds : F := .mk
  ((.seq (.reg [.op (.box 2 (.t 0) 9 true),
    .op (.mv 4 (.k (.i .i64 0)))])
  ((.seq (.reg [.op (.ld 5 (.t 2) 9 true),
    .op (.mv 6 (.t 1)),
    .op (.call (some 7) rwlock_holds [(.t 5), (.t 6)]),
    .op (.mv 4 (.t 7))])
  (.ret)))))
  [.t 4] false none

/-- nursery/nurseryref17.Holds -/
def F_nurseryref17_Holds : F := .mk
  ((.seq (.reg [.op (.box 2 (.t 0) 9 true),
    .op (.mv 4 (.k (.i .i64 0)))])
  ((.seq ((.seq (.reg [.op (.mv 5 (.t 1)),
    .op (.bin 6 .geq (.t 5) (.k (.i .i64 0))),
    .op (.mv 7 (.t 6)),
    .sc false 12 7 [.op (.fa 8 (.t 2) 0 1), .op (.ld 9 (.t 8) 1 false), .op (.mv 10 (.t 1)), .op (.bin 11 .eql (.t 9) (.t 10))] (.t 11)])
  (.ite (.t 12)
    ((.seq (.reg [.op (.mv 4 (.k (.i .i64 2)))])
    (.ret)))
    (.skip))))
  ((.seq ((.seq (.reg [.op (.ld 13 (.t 2) 9 true),
    .op (.mv 14 (.t 1)),
    .op (.call (some 15) nurseryref17_reads [(.t 13), (.t 14)])])
  (.ite (.t 15)
    ((.seq (.reg [.op (.mv 4 (.k (.i .i64 1)))])
    (.ret)))
    (.skip))))
  ((.seq (.reg [.op (.mv 4 (.k (.i .i64 0)))])
  (.ret)))))))))
  [.t 4] false none

/-- nursery/rwlock.New -/
def F_rwlock_New : F := .mk
  ((.seq (.reg [.op (.box 1 (.t 0) 4 true),
    .op (.new 2 [(.i .i64 0), (.i .i64 0), (.i .i64 0), (.sl 1 true []), (.sl 5 true []), (.sl 1 true []), (.sl 2 true []), (.b false), (.i .i64 0)]),
    .op (.mv 3 (.k (.i .i64 0)))])
  ((.seq ((.seq (.reg [.op (.fa 4 (.t 1) 1 1),
    .op (.ld 5 (.t 4) 1 false),
    .op (.bin 6 .neq (.t 5) (.k (.i .i64 2)))])
  (.ite (.t 6)
    ((.seq (.reg [.op (.build 7 [(.i .i64 0), (.i .i64 0), (.i .i64 0), (.sl 1 true []), (.sl 5 true []), (.sl 1 true []), (.sl 2 true []), (.b false), (.i .i64 0)] []),
      .op (.st (.t 2) (.t 7) 9 false),
      .op (.mv 3 (.k (.i .i64 8)))])
    (.ret)))
    (.skip))))
  ((.seq ((.seq (.reg [.op (.fa 8 (.t 1) 2 1),
    .op (.ld 9 (.t 8) 1 false),
    .op (.bin 10 .neq (.t 9) (.k (.i .i64 0))),
    .op (.mv 11 (.t 10)),
    .sc true 15 11 [.op (.fa 12 (.t 1) 3 1), .op (.ld 13 (.t 12) 1 false), .op (.bin 14 .neq (.t 13) (.k (.i .i64 0)))] (.t 14)])
  (.ite (.t 15)
    ((.seq (.reg [.op (.build 16 [(.i .i64 0), (.i .i64 0), (.i .i64 0), (.sl 1 true []), (.sl 5 true []), (.sl 1 true []), (.sl 2 true []), (.b false), (.i .i64 0)] []),
      .op (.st (.t 2) (.t 16) 9 false),
      .op (.mv 3 (.k (.i .i64 2)))])
    (.ret)))
    (.skip))))
  ((.seq (.reg [.op (.build 17 [(.i .i64 0), (.i .i64 0), (.i .i64 0), (.sl 1 true []), (.sl 5 true []), (.sl 1 true []), (.sl 2 true []), (.b false), (.i .i64 0)] [(0, 1, (.k (.i .i64 (-1))))]),
    .op (.st (.t 2) (.t 17) 9 false),
    .op (.mv 3 (.k (.i .i64 0)))])
  (.ret)))))))))
  [.c 2 9 true, .t 3] false none

/-- nursery/nurserylaw17.lock -/
def F_nurserylaw17_lock : F := .mk
  ((.seq (.reg [.op (.new 0 [(.s []), (.i .i64 0), (.i .i64 0), (.i .i64 0)])])
  ((.seq (.reg [.op (.build 1 [(.s []), (.i .i64 0), (.i .i64 0), (.i .i64 0)] [(0, 1, (.k (.s [108]))), (1, 1, (.k (.i .i64 2)))]),
    .op (.st (.t 0) (.t 1) 4 false)])
  (.ret)))))
  [.c 0 4 true] false none

/-- nursery/rwlock.Check -/
def F_rwlock_Check : F := .mk
  ((.seq (.reg [.op (.box 2 (.t 0) 4 true),
    .op (.box 3 (.t 1) 9 true),
    .op (.mv 4 (.k (.i .i64 0)))])
  ((.seq ((.seq (.reg [.op (.ld 8 (.t 2) 4 true),
    .op (.call (some 9) rwlock_New [(.t 8)]),
    .op (.mv 7 (.t 9)),
    .op (.ext 10 (.t 7) 0),
    .op (.ext 11 (.t 7) 1),
    .op (.new 5 [(.i .i64 0), (.i .i64 0), (.i .i64 0), (.sl 1 true []), (.sl 5 true []), (.sl 1 true []), (.sl 2 true []), (.b false), (.i .i64 0)]),
    .op (.st (.t 5) (.t 10) 9 true),
    .op (.mv 6 (.t 11))])
  ((.seq (.reg [.op (.mv 12 (.t 6)),
    .op (.bin 13 .neq (.t 12) (.k (.i .i64 0)))])
  (.ite (.t 13)
    ((.seq (.reg [.op (.mv 14 (.t 6)),
      .op (.mv 4 (.t 14))])
    (.ret)))
    (.skip))))))
  ((.seq ((.seq (.reg [.op (.ld 15 (.t 3) 9 true),
    .op (.call (some 16) rwlock_valid [(.t 15)]),
    .op (.un 17 .not (.t 16))])
  (.ite (.t 17)
    ((.seq (.reg [.op (.mv 4 (.k (.i .i64 1)))])
    (.ret)))
    (.skip))))
  ((.seq (.reg [.op (.mv 4 (.k (.i .i64 0)))])
  (.ret)))))))))
  [.t 4] false none

/-- nursery/rwlock.Apply -/
def F_rwlock_Apply : F := .mk
  ((.seq (.reg [.op (.box 3 (.t 0) 4 true),
    .op (.box 4 (.t 1) 9 true),
    .op (.box 5 (.t 2) 5 true),
    .op (.new 6 [(.i .i64 0), (.i .i64 0), (.i .i64 0), (.sl 1 true []), (.sl 5 true []), (.sl 1 true []), (.sl 2 true []), (.b false), (.i .i64 0), (.b false), (.i .i64 0), (.b false), (.sl 5 true [])]),
    .op (.mv 7 (.k (.i .i64 0)))])
  ((.seq ((.seq (.reg [.op (.ld 13 (.t 3) 4 true),
    .op (.ld 14 (.t 4) 9 true),
    .op (.call (some 15) rwlock_Check [(.t 13), (.t 14)]),
    .op (.bin 16 .neq (.t 15) (.k (.i .i64 0)))])
  (.ite (.t 16)
    ((.seq (.reg [.op (.build 17 [(.i .i64 0), (.i .i64 0), (.i .i64 0), (.sl 1 true []), (.sl 5 true []), (.sl 1 true []), (.sl 2 true []), (.b false), (.i .i64 0), (.b false), (.i .i64 0), (.b false), (.sl 5 true [])] []),
      .op (.st (.t 6) (.t 17) 13 false),
      .op (.mv 7 (.k (.i .i64 1)))])
    (.ret)))
    (.skip))))
  ((.seq ((.seq (.reg [.op (.fa 18 (.t 5) 0 1),
    .op (.ld 19 (.t 18) 1 false),
    .op (.call (some 20) rwlock_isTask [(.t 19)]),
    .op (.un 21 .not (.t 20)),
    .op (.mv 22 (.t 21)),
    .sc true 26 22 [.op (.fa 23 (.t 5) 3 1), .op (.ld 24 (.t 23) 1 false), .op (.bin 25 .lss (.t 24) (.k (.i .i64 0)))] (.t 25),
    .op (.mv 27 (.t 26)),
    .sc true 31 27 [.op (.fa 28 (.t 5) 3 1), .op (.ld 29 (.t 28) 1 false), .op (.bin 30 .gtr (.t 29) (.k (.i .i64 9)))] (.t 30),
    .op (.mv 32 (.t 31)),
    .sc true 36 32 [.op (.fa 33 (.t 5) 4 1), .op (.ld 34 (.t 33) 1 false), .op (.bin 35 .lss (.t 34) (.k (.i .i64 0)))] (.t 35),
    .op (.mv 37 (.t 36)),
    .sc true 41 37 [.op (.fa 38 (.t 5) 4 1), .op (.ld 39 (.t 38) 1 false), .op (.bin 40 .gtr (.t 39) (.k (.i .i64 1099511627776)))] (.t 40)])
  (.ite (.t 41)
    ((.seq (.reg [.op (.build 42 [(.i .i64 0), (.i .i64 0), (.i .i64 0), (.sl 1 true []), (.sl 5 true []), (.sl 1 true []), (.sl 2 true []), (.b false), (.i .i64 0), (.b false), (.i .i64 0), (.b false), (.sl 5 true [])] []),
      .op (.st (.t 6) (.t 42) 13 false),
      .op (.mv 7 (.k (.i .i64 2)))])
    (.ret)))
    (.skip))))
  ((.seq ((.seq (.reg [.op (.fa 43 (.t 5) 1 1),
    .op (.ld 44 (.t 43) 1 false),
    .op (.bin 45 .lss (.t 44) (.k (.i .i64 53))),
    .op (.mv 46 (.t 45)),
    .sc true 50 46 [.op (.fa 47 (.t 5) 1 1), .op (.ld 48 (.t 47) 1 false), .op (.bin 49 .gtr (.t 48) (.k (.i .i64 56)))] (.t 49)])
  (.ite (.t 50)
    ((.seq (.reg [.op (.build 51 [(.i .i64 0), (.i .i64 0), (.i .i64 0), (.sl 1 true []), (.sl 5 true []), (.sl 1 true []), (.sl 2 true []), (.b false), (.i .i64 0), (.b false), (.i .i64 0), (.b false), (.sl 5 true [])] []),
      .op (.st (.t 6) (.t 51) 13 false),
      .op (.mv 7 (.k (.i .i64 8)))])
    (.ret)))
    (.skip))))
  ((.seq ((.seq (.reg [.op (.fa 53 (.t 4) 4 1),
    .op (.ld 54 (.t 53) 1 false),
    .op (.fa 55 (.t 5) 0 1),
    .op (.ld 56 (.t 55) 1 false),
    .op (.call (some 57) waitlist_Find [(.t 54), (.t 56)]),
    .op (.mv 52 (.t 57)),
    .op (.ext 58 (.t 52) 0),
    .op (.ext 59 (.t 52) 1),
    .op (.mv 8 (.t 58)),
    .op (.mv 9 (.t 59))])
  ((.seq (.reg [.op (.mv 60 (.t 9))])
  (.ite (.t 60)
    ((.seq (.reg [.op (.build 61 [(.i .i64 0), (.i .i64 0), (.i .i64 0), (.sl 1 true []), (.sl 5 true []), (.sl 1 true []), (.sl 2 true []), (.b false), (.i .i64 0), (.b false), (.i .i64 0), (.b false), (.sl 5 true [])] []),
      .op (.st (.t 6) (.t 61) 13 false),
      .op (.mv 7 (.k (.i .i64 17)))])
    (.ret)))
    (.skip))))))
  ((.seq (.drw [] [0, 2, 3, 4, 1, 5, 6, 7] [.op (.ldd 62 (.t 4) 9 true),
    .op (.ldd 64 (.t 4) 9 true),
    .op (.fad 65 (.t 5) 0 1),
    .op (.ldd 66 (.t 65) 1 false),
    .op (.callk (some 63) rwlock_changed [(.t 62)]),
    .op (.call (some 67) rwlock_holds [(.t 64), (.t 66)]),
    .op (.mv 10 (.t 63)),
    .op (.mv 11 (.t 67))])
  ((.seq ((.seq (.reg [.op (.fa 68 (.t 5) 1 1),
    .op (.ld 69 (.t 68) 1 false)])
  (.blk 0 ((.seq ((.seq (.reg [.op (.bin 78 .eql (.t 69) (.k (.i .i64 53))),
     .op (.mv 77 (.t 78))])
   (.ite (.t 77)
     (.skip)
     (.reg [.op (.bin 79 .eql (.t 69) (.k (.i .i64 55))),
       .op (.mv 77 (.t 79))]))))
   (.ite (.t 77)
     ((.seq ((.seq (.reg [.op (.mv 80 (.t 11)),
       .op (.bin 81 .neq (.t 80) (.k (.i .i64 0)))])
     (.ite (.t 81)
       ((.seq (.reg [.op (.build 82 [(.i .i64 0), (.i .i64 0), (.i .i64 0), (.sl 1 true []), (.sl 5 true []), (.sl 1 true []), (.sl 2 true []), (.b false), (.i .i64 0), (.b false), (.i .i64 0), (.b false), (.sl 5 true [])] []),
         .op (.st (.t 6) (.t 82) 13 false),
         .op (.mv 7 (.k (.i .i64 17)))])
       (.ret)))
       (.skip))))
     ((.seq (.reg [.op (.mv 83 (.t 10)),
       .op (.callr (some 84) rwlock_lock_free [(.t 83)]),
       .op (.mv 12 (.t 84))])
     ((.seq ((.seq (.reg [.op (.fa 85 (.t 5) 1 1),
       .op (.ld 86 (.t 85) 1 false),
       .op (.bin 87 .eql (.t 86) (.k (.i .i64 53)))])
     (.ite (.t 87)
       (.reg [.op (.mv 88 (.t 10)),
         .op (.callr (some 89) rwlock_lock_writes [(.t 88)]),
         .op (.un 90 .not (.t 89)),
         .op (.mv 91 (.t 90)),
         .sc false 99 91 [.op (.mv 92 (.t 10)), .op (.nck 93 (.t 92)), .op (.fa 94 (.t 93) 0 9), .op (.fa 95 (.t 94) 4 1), .op (.ld 96 (.t 95) 1 false), .op (.len 97 (.t 96) .sl), .op (.bin 98 .eql (.t 97) (.k (.i .i64 0)))] (.t 98),
         .op (.mv 12 (.t 99))])
       (.skip))))
     ((.seq (.reg [.op (.mv 100 (.t 10)),
       .op (.ld 101 (.t 5) 5 true),
       .op (.mv 102 (.t 12)),
       .op (.callr (some 103) rwlock_lock_acquire [(.t 100), (.t 101), (.t 102)]),
       .op (.st (.t 6) (.t 103) 13 false),
       .op (.mv 7 (.k (.i .i64 0)))])
     (.ret)))))))))
     ((.seq (.reg [.op (.bin 105 .eql (.t 69) (.k (.i .i64 54))),
       .op (.mv 104 (.t 105))])
     (.ite (.t 104)
       ((.seq ((.seq (.reg [.op (.mv 106 (.t 11)),
         .op (.bin 107 .neq (.t 106) (.k (.i .i64 1)))])
       (.ite (.t 107)
         ((.seq (.reg [.op (.build 108 [(.i .i64 0), (.i .i64 0), (.i .i64 0), (.sl 1 true []), (.sl 5 true []), (.sl 1 true []), (.sl 2 true []), (.b false), (.i .i64 0), (.b false), (.i .i64 0), (.b false), (.sl 5 true [])] []),
           .op (.st (.t 6) (.t 108) 13 false),
           .op (.mv 7 (.k (.i .i64 20)))])
         (.ret)))
         (.skip))))
       (.reg [.op (.mv 109 (.t 10)),
         .op (.mv 110 (.t 10)),
         .op (.nck 111 (.t 110)),
         .op (.fa 112 (.t 111) 0 9),
         .op (.fa 113 (.t 112) 3 1),
         .op (.ld 114 (.t 113) 1 false),
         .op (.mkf 115 rwlock_ApplyC1 [] [(.t 5)]),
         .op (.callr (some 116) slices_DeleteFunc_int_int [(.t 114), (.t 115)]),
         .op (.nck 117 (.t 109)),
         .op (.fa 118 (.t 117) 0 9),
         .op (.fa 119 (.t 118) 3 1),
         .op (.st (.t 119) (.t 116) 1 false)])))
       ((.seq ((.seq (.reg [.op (.mv 70 (.t 11)),
         .op (.bin 71 .neq (.t 70) (.k (.i .i64 2)))])
       (.ite (.t 71)
         ((.seq (.reg [.op (.build 72 [(.i .i64 0), (.i .i64 0), (.i .i64 0), (.sl 1 true []), (.sl 5 true []), (.sl 1 true []), (.sl 2 true []), (.b false), (.i .i64 0), (.b false), (.i .i64 0), (.b false), (.sl 5 true [])] []),
           .op (.st (.t 6) (.t 72) 13 false),
           .op (.mv 7 (.k (.i .i64 20)))])
         (.ret)))
         (.skip))))
       (.reg [.op (.mv 73 (.t 10)),
         .op (.nck 74 (.t 73)),
         .op (.fa 75 (.t 74) 0 9),
         .op (.fa 76 (.t 75) 0 1),
         .op (.st (.t 76) (.k (.i .i64 (-1))) 1 false)]))))))))))))
  ((.seq (.reg [.op (.mv 120 (.t 10)),
    .op (.callr (some 121) rwlock_lock_serve [(.t 120)])])
  ((.seq (.reg [.op (.mv 122 (.t 10)),
    .op (.callr (some 123) rwlock_lock_reply [(.t 122)]),
    .op (.st (.t 6) (.t 123) 13 false),
    .op (.mv 7 (.k (.i .i64 0)))])
  (.ret)))))))))))))))))))
  [.c 6 13 true, .t 7] false none

/-- nursery/nurseryref17.New -/
def F_nurseryref17_New : F := .mk
  ((.seq (.reg [.op (.box 1 (.t 0) 4 true),
    .op (.new 2 [(.i .i64 0), (.i .i64 0), (.i .i64 0), (.sl 1 true []), (.sl 5 true []), (.sl 1 true []), (.sl 2 true []), (.b false), (.i .i64 0)]),
    .op (.mv 3 (.k (.i .i64 0)))])
  ((.seq ((.seq (.reg [.op (.fa 4 (.t 1) 1 1),
    .op (.ld 5 (.t 4) 1 false),
    .op (.bin 6 .neq (.t 5) (.k (.i .i64 2)))])
  (.ite (.t 6)
    ((.seq (.reg [.op (.build 7 [(.i .i64 0), (.i .i64 0), (.i .i64 0), (.sl 1 true []), (.sl 5 true []), (.sl 1 true []), (.sl 2 true []), (.b false), (.i .i64 0)] []),
      .op (.st (.t 2) (.t 7) 9 false),
      .op (.mv 3 (.k (.i .i64 8)))])
    (.ret)))
    (.skip))))
  ((.seq ((.seq (.reg [.op (.fa 8 (.t 1) 2 1),
    .op (.ld 9 (.t 8) 1 false),
    .op (.bin 10 .neq (.t 9) (.k (.i .i64 0))),
    .op (.mv 11 (.t 10)),
    .sc true 15 11 [.op (.fa 12 (.t 1) 3 1), .op (.ld 13 (.t 12) 1 false), .op (.bin 14 .neq (.t 13) (.k (.i .i64 0)))] (.t 14)])
  (.ite (.t 15)
    ((.seq (.reg [.op (.build 16 [(.i .i64 0), (.i .i64 0), (.i .i64 0), (.sl 1 true []), (.sl 5 true []), (.sl 1 true []), (.sl 2 true []), (.b false), (.i .i64 0)] []),
      .op (.st (.t 2) (.t 16) 9 false),
      .op (.mv 3 (.k (.i .i64 2)))])
    (.ret)))
    (.skip))))
  ((.seq (.reg [.op (.build 17 [(.i .i64 0), (.i .i64 0), (.i .i64 0), (.sl 1 true []), (.sl 5 true []), (.sl 1 true []), (.sl 2 true []), (.b false), (.i .i64 0)] [(0, 1, (.k (.i .i64 (-1))))]),
    .op (.st (.t 2) (.t 17) 9 false),
    .op (.mv 3 (.k (.i .i64 0)))])
  (.ret)))))))))
  [.c 2 9 true, .t 3] false none

/-- nursery/nurseryref17.Apply -/
def F_nurseryref17_Apply : F := .mk
  ((.seq (.reg [.op (.box 3 (.t 0) 4 true),
    .op (.box 4 (.t 1) 9 false),
    .op (.box 5 (.t 2) 5 true),
    .op (.new 6 [(.i .i64 0), (.i .i64 0), (.i .i64 0), (.sl 1 true []), (.sl 5 true []), (.sl 1 true []), (.sl 2 true []), (.b false), (.i .i64 0), (.b false), (.i .i64 0), (.b false), (.sl 5 true [])]),
    .op (.mv 7 (.k (.i .i64 0)))])
  ((.seq ((.seq (.reg [.op (.ld 11 (.t 3) 4 true),
    .op (.ld 12 (.t 4) 9 true),
    .op (.ld 13 (.t 5) 5 true),
    .op (.call (some 14) nurseryref17_check [(.t 11), (.t 12), (.t 13)]),
    .op (.mv 8 (.t 14))])
  ((.seq (.reg [.op (.mv 15 (.t 8)),
    .op (.bin 16 .neq (.t 15) (.k (.i .i64 0)))])
  (.ite (.t 16)
    ((.seq (.reg [.op (.build 17 [(.i .i64 0), (.i .i64 0), (.i .i64 0), (.sl 1 true []), (.sl 5 true []), (.sl 1 true []), (.sl 2 true []), (.b false), (.i .i64 0), (.b false), (.i .i64 0), (.b false), (.sl 5 true [])] []),
      .op (.mv 18 (.t 8)),
      .op (.st (.t 6) (.t 17) 13 false),
      .op (.mv 7 (.t 18))])
    (.ret)))
    (.skip))))))
  ((.seq (.reg [.op (.fa 19 (.t 4) 0 1),
    .op (.ld 20 (.t 19) 1 false),
    .op (.bin 21 .lss (.t 20) (.k (.i .i64 0))),
    .op (.mv 22 (.t 21)),
    .sc false 27 22 [.op (.fa 23 (.t 4) 4 1), .op (.ld 24 (.t 23) 1 false), .op (.len 25 (.t 24) .sl), .op (.bin 26 .eql (.t 25) (.k (.i .i64 0)))] (.t 26),
    .op (.mv 9 (.t 27))])
  ((.seq (.reg [.op (.build 28 [(.i .i64 0), (.i .i64 0), (.i .i64 0), (.sl 1 true []), (.sl 5 true []), (.sl 1 true []), (.sl 2 true []), (.b false), (.i .i64 0), (.b false), (.i .i64 0), (.b false), (.sl 5 true [])] []),
    .op (.new 10 [(.i .i64 0), (.i .i64 0), (.i .i64 0), (.sl 1 true []), (.sl 5 true []), (.sl 1 true []), (.sl 2 true []), (.b false), (.i .i64 0), (.b false), (.i .i64 0), (.b false), (.sl 5 true [])]),
    .op (.st (.t 10) (.t 28) 13 false)])
  ((.seq (.blk 0 ((.seq (.reg [.op (.fa 46 (.t 5) 1 1),
     .op (.ld 47 (.t 46) 1 false),
     .op (.bin 48 .eql (.t 47) (.k (.i .i64 53))),
     .op (.mv 49 (.t 48)),
     .sc false 51 49 [.op (.mv 50 (.t 9))] (.t 50),
     .op (.mv 45 (.t 51))])
   (.ite (.t 45)
     ((.seq (.reg [.op (.fa 52 (.t 4) 3 1),
       .op (.ld 53 (.t 52) 1 false),
       .op (.fa 54 (.t 5) 0 1),
       .op (.ld 55 (.t 54) 1 false),
       .op (.call (some 56) nurseryref17_with [(.t 53), (.t 55)]),
       .op (.fa 57 (.t 4) 3 1),
       .op (.st (.t 57) (.t 56) 1 false)])
     (.reg [.op (.ld 58 (.t 4) 9 true),
       .op (.fa 59 (.t 10) 0 9),
       .op (.st (.t 59) (.t 58) 9 false)])))
     ((.seq (.reg [.op (.fa 61 (.t 5) 1 1),
       .op (.ld 62 (.t 61) 1 false),
       .op (.bin 63 .eql (.t 62) (.k (.i .i64 55))),
       .op (.mv 64 (.t 63)),
       .sc false 66 64 [.op (.mv 65 (.t 9))] (.t 65),
       .op (.mv 67 (.t 66)),
       .sc false 72 67 [.op (.fa 68 (.t 4) 3 1), .op (.ld 69 (.t 68) 1 false), .op (.len 70 (.t 69) .sl), .op (.bin 71 .eql (.t 70) (.k (.i .i64 0)))] (.t 71),
       .op (.mv 60 (.t 72))])
     (.ite (.t 60)
       ((.seq (.reg [.op (.fa 73 (.t 5) 0 1),
         .op (.ld 74 (.t 73) 1 false),
         .op (.fa 75 (.t 4) 0 1),
         .op (.st (.t 75) (.t 74) 1 false)])
       (.reg [.op (.ld 76 (.t 4) 9 true),
         .op (.fa 77 (.t 10) 0 9),
         .op (.st (.t 77) (.t 76) 9 false)])))
       ((.seq (.reg [.op (.fa 79 (.t 5) 1 1),
         .op (.ld 80 (.t 79) 1 false),
         .op (.bin 81 .eql (.t 80) (.k (.i .i64 54))),
         .op (.mv 78 (.t 81))])
       (.ite (.t 78)
         ((.seq (.reg [.op (.fa 82 (.t 4) 3 1),
           .op (.ld 83 (.t 82) 1 false),
           .op (.fa 84 (.t 5) 0 1),
           .op (.ld 85 (.t 84) 1 false),
           .op (.call (some 86) nurseryref17_without [(.t 83), (.t 85)]),
           .op (.fa 87 (.t 4) 3 1),
           .op (.st (.t 87) (.t 86) 1 false)])
         (.reg [.op (.ld 88 (.t 4) 9 true),
           .op (.call (some 89) nurseryref17_serve [(.t 88)]),
           .op (.st (.t 10) (.t 89) 13 false)])))
         ((.seq (.reg [.op (.fa 91 (.t 5) 1 1),
           .op (.ld 92 (.t 91) 1 false),
           .op (.bin 93 .eql (.t 92) (.k (.i .i64 56))),
           .op (.mv 90 (.t 93))])
         (.ite (.t 90)
           ((.seq (.reg [.op (.fa 94 (.t 4) 0 1),
             .op (.st (.t 94) (.k (.i .i64 (-1))) 1 false)])
           (.reg [.op (.ld 95 (.t 4) 9 true),
             .op (.call (some 96) nurseryref17_serve [(.t 95)]),
             .op (.st (.t 10) (.t 96) 13 false)])))
           ((.seq (.drw [] [1, 2, 4, 5, 6, 7, 8, 9, 10, 11, 0, 3, 12, 13, 14] [.op (.fa 30 (.t 4) 4 1),
             .op (.ld 31 (.t 30) 1 false),
             .op (.fad 33 (.t 5) 0 1),
             .op (.ldd 34 (.t 33) 1 false),
             .op (.fad 35 (.t 5) 1 1),
             .op (.ldd 36 (.t 35) 1 false),
             .op (.fad 37 (.t 5) 3 1),
             .op (.ldd 38 (.t 37) 1 false),
             .op (.build 39 [(.i .i64 0), (.i .i64 0), (.i .i64 0), (.i .i64 0), (.i .i64 0)] [(0, 1, (.t 34)), (1, 1, (.t 36)), (3, 1, (.t 38)), (4, 1, (.k (.i .i64 (-1))))]),
             .op (.buildSl 40 5 1 [(.i .i64 0), (.i .i64 0), (.i .i64 0), (.i .i64 0), (.i .i64 0)] [(0, (.t 39))] true),
             .op (.buildSl 29 5 0 [(.i .i64 0), (.i .i64 0), (.i .i64 0), (.i .i64 0), (.i .i64 0)] [] false),
             .re (.fa 30 (.t 4) 4 1),
             .re (.ld 31 (.t 30) 1 false),
             .op (.app 32 (.t 29) (.t 31) 5),
             .op (.app 41 (.t 32) (.t 40) 5),
             .op (.fa 42 (.t 4) 4 1),
             .op (.st (.t 42) (.t 41) 1 false)])
           ((.seq (.reg [.op (.ld 43 (.t 4) 9 true),
             .op (.build 44 [(.i .i64 0), (.i .i64 0), (.i .i64 0), (.sl 1 true []), (.sl 5 true []), (.sl 1 true []), (.sl 2 true []), (.b false), (.i .i64 0), (.b false), (.i .i64 0), (.b false), (.sl 5 true [])] [(0, 9, (.t 43)), (9, 1, (.k (.b true)))]),
             .op (.st (.t 6) (.t 44) 13 false),
             .op (.mv 7 (.k (.i .i64 0)))])
           (.ret))))))))))))))))))
  ((.seq (.reg [.op (.fa 97 (.t 10) 11 1),
    .op (.st (.t 97) (.k (.b true)) 1 false)])
  ((.seq (.reg [.op (.ld 98 (.t 10) 13 true),
    .op (.st (.t 6) (.t 98) 13 false),
    .op (.mv 7 (.k (.i .i64 0)))])
  (.ret)))))))))))))))
  [.c 6 13 true, .t 7] false none

def F_nurseryref17_SameState_L0 : C :=
  (.seq ((.seq (.reg [.op (.mv 72 (.t 5)),
    .op (.fa 73 (.t 2) 6 1),
    .op (.ld 74 (.t 73) 1 false),
    .op (.len 75 (.t 74) .sl),
    .op (.bin 76 .lss (.t 72) (.t 75))])
  (.ite (.t 76)
    (.skip)
    (.seq (.keep []) (.exit 0)))))
  ((.seq (.blk 1 ((.seq (.drw [] [0, 1, 2, 3, 4, 5, 6, 7, 8, 9, 10, 11, 12, 13, 14, 15, 16, 17, 18, 19, 20, 21, 22, 23, 24, 25, 26, 27, 28] [.op (.fad 79 (.t 2) 6 1),
     .op (.ldd 80 (.t 79) 1 false),
     .op (.mv 81 (.t 5)),
     .op (.ixs 82 (.t 80) (.t 81) 2),
     .op (.fa 83 (.t 82) 0 1),
     .op (.ld 84 (.t 83) 1 false),
     .op (.fad 85 (.t 3) 6 1),
     .op (.ldd 86 (.t 85) 1 false),
     .op (.mv 87 (.t 5)),
     .op (.ixs 88 (.t 86) (.t 87) 2),
     .op (.fa 89 (.t 88) 0 1),
     .op (.ld 90 (.t 89) 1 false),
     .op (.bin 91 .neq (.t 84) (.t 90)),
     .op (.mv 92 (.t 91)),
     .sc true 107 92 [.op (.fad 93 (.t 2) 6 1), .op (.ldd 94 (.t 93) 1 false), .op (.mv 95 (.t 5)), .op (.ixs 96 (.t 94) (.t 95) 2), .op (.fa 97 (.t 96) 1 1), .op (.ld 98 (.t 97) 1 false), .op (.fad 99 (.t 3) 6 1), .op (.ldd 100 (.t 99) 1 false), .op (.mv 101 (.t 5)), .op (.ixs 102 (.t 100) (.t 101) 2), .op (.fa 103 (.t 102) 1 1), .op (.ld 104 (.t 103) 1 false), .op (.call (some 105) nurseryref01_Same [(.t 98), (.t 104)]), .op (.un 106 .not (.t 105))] (.t 106)])
   (.ite (.t 107)
     ((.seq (.reg [.op (.mv 4 (.k (.b false)))])
     (.seq (.keep [4]) .ret)))
     (.skip)))))
  (.reg [.op (.mv 77 (.t 5)),
    .op (.bin 78 .add (.t 77) (.k (.i .i64 1))),
    .op (.mv 5 (.t 78))]))))

/-- nursery/nurseryref17.SameState -/
def F_nurseryref17_SameState : F := .mk
  ((.seq (.reg [.op (.box 2 (.t 0) 9 true),
    .op (.box 3 (.t 1) 9 true),
    .op (.mv 4 (.k (.b false)))])
  ((.seq ((.seq (.reg [.op (.fa 6 (.t 2) 0 1),
    .op (.ld 7 (.t 6) 1 false),
    .op (.fa 8 (.t 3) 0 1),
    .op (.ld 9 (.t 8) 1 false),
    .op (.bin 10 .neq (.t 7) (.t 9)),
    .op (.mv 11 (.t 10)),
    .sc true 17 11 [.op (.fa 12 (.t 2) 1 1), .op (.ld 13 (.t 12) 1 false), .op (.fa 14 (.t 3) 1 1), .op (.ld 15 (.t 14) 1 false), .op (.bin 16 .neq (.t 13) (.t 15))] (.t 16),
    .op (.mv 18 (.t 17)),
    .sc true 24 18 [.op (.fa 19 (.t 2) 2 1), .op (.ld 20 (.t 19) 1 false), .op (.fa 21 (.t 3) 2 1), .op (.ld 22 (.t 21) 1 false), .op (.bin 23 .neq (.t 20) (.t 22))] (.t 23),
    .op (.mv 25 (.t 24)),
    .sc true 31 25 [.op (.fa 26 (.t 2) 7 1), .op (.ld 27 (.t 26) 1 false), .op (.fa 28 (.t 3) 7 1), .op (.ld 29 (.t 28) 1 false), .op (.eqb 30 true (.t 27) (.t 29))] (.t 30),
    .op (.mv 32 (.t 31)),
    .sc true 38 32 [.op (.fa 33 (.t 2) 8 1), .op (.ld 34 (.t 33) 1 false), .op (.fa 35 (.t 3) 8 1), .op (.ld 36 (.t 35) 1 false), .op (.bin 37 .neq (.t 34) (.t 36))] (.t 37),
    .op (.mv 39 (.t 38)),
    .sc true 46 39 [.op (.fa 40 (.t 2) 4 1), .op (.ld 41 (.t 40) 1 false), .op (.fa 42 (.t 3) 4 1), .op (.ld 43 (.t 42) 1 false), .op (.call (some 44) nurseryref07_Same [(.t 41), (.t 43)]), .op (.un 45 .not (.t 44))] (.t 45),
    .op (.mv 47 (.t 46)),
    .sc true 54 47 [.op (.fa 48 (.t 2) 3 1), .op (.ld 49 (.t 48) 1 false), .op (.fa 50 (.t 3) 3 1), .op (.ld 51 (.t 50) 1 false), .op (.call (some 52) nurseryref01_Same [(.t 49), (.t 51)]), .op (.un 53 .not (.t 52))] (.t 53),
    .op (.mv 55 (.t 54)),
    .sc true 62 55 [.op (.fa 56 (.t 2) 5 1), .op (.ld 57 (.t 56) 1 false), .op (.fa 58 (.t 3) 5 1), .op (.ld 59 (.t 58) 1 false), .op (.call (some 60) nurseryref01_Same [(.t 57), (.t 59)]), .op (.un 61 .not (.t 60))] (.t 61),
    .op (.mv 63 (.t 62)),
    .sc true 71 63 [.op (.fa 64 (.t 2) 6 1), .op (.ld 65 (.t 64) 1 false), .op (.len 66 (.t 65) .sl), .op (.fa 67 (.t 3) 6 1), .op (.ld 68 (.t 67) 1 false), .op (.len 69 (.t 68) .sl), .op (.bin 70 .neq (.t 66) (.t 69))] (.t 70)])
  (.ite (.t 71)
    ((.seq (.reg [.op (.mv 4 (.k (.b false)))])
    (.ret)))
    (.skip))))
  ((.seq ((.seq (.reg [.op (.mv 5 (.k (.i .i64 0)))])
  (.blk 0 (.loop [2, 3, 5] F_nurseryref17_SameState_L0))))
  ((.seq (.reg [.op (.mv 4 (.k (.b true)))])
  (.ret)))))))))
  [.t 4] false none

/-- nursery/nurseryref17.Check -/
def F_nurseryref17_Check : F := .mk
  ((.seq (.reg [.op (.box 2 (.t 0) 4 true),
    .op (.box 3 (.t 1) 9 true),
    .op (.mv 4 (.k (.i .i64 0)))])
  ((.seq ((.seq (.reg [.op (.ld 8 (.t 2) 4 true),
    .op (.call (some 9) nurseryref17_New [(.t 8)]),
    .op (.mv 7 (.t 9)),
    .op (.ext 10 (.t 7) 0),
    .op (.ext 11 (.t 7) 1),
    .op (.new 5 [(.i .i64 0), (.i .i64 0), (.i .i64 0), (.sl 1 true []), (.sl 5 true []), (.sl 1 true []), (.sl 2 true []), (.b false), (.i .i64 0)]),
    .op (.st (.t 5) (.t 10) 9 true),
    .op (.mv 6 (.t 11))])
  ((.seq (.reg [.op (.mv 12 (.t 6)),
    .op (.bin 13 .neq (.t 12) (.k (.i .i64 0)))])
  (.ite (.t 13)
    ((.seq (.reg [.op (.mv 14 (.t 6)),
      .op (.mv 4 (.t 14))])
    (.ret)))
    (.skip))))))
  ((.seq ((.seq (.reg [.op (.ld 15 (.t 3) 9 true),
    .op (.call (some 16) nurseryref17_valid [(.t 15)]),
    .op (.un 17 .not (.t 16)),
    .op (.mv 18 (.t 17)),
    .sc true 21 18 [.op (.ld 19 (.t 3) 9 true), .op (.callr (some 20) nurseryref17_vain [(.t 19)])] (.t 20)])
  (.ite (.t 21)
    ((.seq (.reg [.op (.mv 4 (.k (.i .i64 1)))])
    (.ret)))
    (.skip))))
  ((.seq (.reg [.op (.mv 4 (.k (.i .i64 0)))])
  (.ret)))))))))
  [.t 4] false none

/-- nursery/rwlock.Ready -/
def F_rwlock_Ready : F := .mk
  ((.seq (.reg [.op (.box 3 (.t 0) 4 true),
    .op (.box 4 (.t 1) 9 true),
    .op (.box 5 (.t 2) 5 true),
    .op (.mv 6 (.k (.b false)))])
  ((.seq (.reg [.op (.ld 10 (.t 3) 4 true),
    .op (.ld 11 (.t 4) 9 true),
    .op (.ld 12 (.t 5) 5 true),
    .op (.call (some 13) rwlock_Apply [(.t 10), (.t 11), (.t 12)]),
    .op (.mv 9 (.t 13)),
    .op (.ext 14 (.t 9) 0),
    .op (.ext 15 (.t 9) 1),
    .op (.new 7 [(.i .i64 0), (.i .i64 0), (.i .i64 0), (.sl 1 true []), (.sl 5 true []), (.sl 1 true []), (.sl 2 true []), (.b false), (.i .i64 0), (.b false), (.i .i64 0), (.b false), (.sl 5 true [])]),
    .op (.st (.t 7) (.t 14) 13 true),
    .op (.mv 8 (.t 15))])
  ((.seq (.reg [.op (.mv 16 (.t 8)),
    .op (.bin 17 .eql (.t 16) (.k (.i .i64 0))),
    .op (.mv 18 (.t 17)),
    .sc false 22 18 [.op (.fa 19 (.t 7) 9 1), .op (.ld 20 (.t 19) 1 false), .op (.un 21 .not (.t 20))] (.t 21),
    .op (.mv 6 (.t 22))])
  (.ret)))))))
  [.t 6] false none

/-- nursery/nurseryref17.Ready -/
def F_nurseryref17_Ready : F := .mk
  ((.seq (.reg [.op (.box 3 (.t 0) 4 true),
    .op (.box 4 (.t 1) 9 true),
    .op (.box 5 (.t 2) 5 true),
    .op (.mv 6 (.k (.b false)))])
  ((.seq (.reg [.op (.ld 10 (.t 3) 4 true),
    .op (.ld 11 (.t 4) 9 true),
    .op (.ld 12 (.t 5) 5 true),
    .op (.call (some 13) nurseryref17_Apply [(.t 10), (.t 11), (.t 12)]),
    .op (.mv 9 (.t 13)),
    .op (.ext 14 (.t 9) 0),
    .op (.ext 15 (.t 9) 1),
    .op (.new 7 [(.i .i64 0), (.i .i64 0), (.i .i64 0), (.sl 1 true []), (.sl 5 true []), (.sl 1 true []), (.sl 2 true []), (.b false), (.i .i64 0), (.b false), (.i .i64 0), (.b false), (.sl 5 true [])]),
    .op (.st (.t 7) (.t 14) 13 true),
    .op (.mv 8 (.t 15))])
  ((.seq (.reg [.op (.mv 16 (.t 8)),
    .op (.bin 17 .eql (.t 16) (.k (.i .i64 0))),
    .op (.mv 18 (.t 17)),
    .sc false 22 18 [.op (.fa 19 (.t 7) 9 1), .op (.ld 20 (.t 19) 1 false), .op (.un 21 .not (.t 20))] (.t 21),
    .op (.mv 6 (.t 22))])
  (.ret)))))))
  [.t 6] false none

def F_slices_Equal_int_int_L0 : C :=
  (.seq (.reg [.op (.bin 14 .lss (.t 13) (.t 12))])
  ((.seq (.ite (.t 14)
    (.skip)
    (.seq (.keep []) (.exit 0)))
  ((.seq (.blk 1 ((.seq (.reg [.op (.mv 15 (.t 13)),
     .op (.mv 5 (.t 15))])
   ((.seq (.drw [] [0, 1, 2, 3, 4, 5, 6, 7, 8] [.op (.mv 16 (.t 0)),
     .op (.mv 17 (.t 5)),
     .op (.ixs 18 (.t 16) (.t 17) 1),
     .op (.ld 19 (.t 18) 1 false),
     .op (.mv 20 (.t 1)),
     .op (.mv 21 (.t 5)),
     .op (.ixs 22 (.t 20) (.t 21) 1),
     .op (.ld 23 (.t 22) 1 false),
     .op (.bin 24 .neq (.t 19) (.t 23))])
   (.ite (.t 24)
     ((.seq (.reg [.op (.mv 4 (.k (.b false)))])
     (.seq (.keep [4]) .ret)))
     (.skip)))))))
  (.reg [.op (.bin 25 .add (.t 13) (.k (.i .i64 1))),
    .op (.mv 13 (.t 25))]))))))

/-- slices.Equal[[]int,int] -/
def F_slices_Equal_int_int : F := .mk
  ((.seq (.reg [.op (.mv 4 (.k (.b false)))])
  ((.seq ((.seq (.reg [.op (.mv 6 (.t 0)),
    .op (.len 7 (.t 6) .sl),
    .op (.mv 8 (.t 1)),
    .op (.len 9 (.t 8) .sl),
    .op (.bin 10 .neq (.t 7) (.t 9))])
  (.ite (.t 10)
    ((.seq (.reg [.op (.mv 4 (.k (.b false)))])
    (.ret)))
    (.skip))))
  ((.seq ((.seq (.reg [.op (.mv 11 (.t 0)),
    .op (.len 12 (.t 11) .sl),
    .op (.mv 13 (.k (.i .i64 0)))])
  (.blk 0 (.loop [0, 1, 12, 13] F_slices_Equal_int_int_L0))))
  ((.seq (.reg [.op (.mv 4 (.k (.b true)))])
  (.ret)))))))))
  [.t 4] false none

def F_nurserylaw17_play_L0 : C :=
  (.seq (.reg [.op (.bin 88 .lss (.t 87) (.t 86))])
  ((.seq (.ite (.t 88)
    (.skip)
    (.seq (.keep [2, 5, 6, 7, 21, 22, 23]) (.exit 2)))
  ((.seq (.blk 3 ((.seq (.reg [.op (.ixs 89 (.t 85) (.t 87) 5),
     .op (.ld 90 (.t 89) 5 true),
     .op (.new 15 [(.i .i64 0), (.i .i64 0), (.i .i64 0), (.b false), (.i .i64 0)]),
     .op (.st (.t 15) (.t 90) 5 true)])
   (.reg [.op (.mv 91 (.t 7)),
     .op (.fa 92 (.t 15) 0 1),
     .op (.ld 93 (.t 92) 1 false),
     .op (.buildSl 94 1 1 [(.i .i64 0)] [(0, (.t 93))] true),
     .op (.app 95 (.t 91) (.t 94) 1),
     .op (.mv 7 (.t 95))]))))
  (.reg [.op (.bin 96 .add (.t 87) (.k (.i .i64 1))),
    .op (.mv 87 (.t 96))]))))))

def F_nurserylaw17_play_L1 : C :=
  (.seq (.reg [.op (.bin 24 .lss (.t 23) (.t 22))])
  ((.seq (.ite (.t 24)
    (.skip)
    (.seq (.keep [2, 5, 6, 7]) (.exit 0)))
  ((.seq (.blk 1 ((.seq (.reg [.op (.ixs 25 (.t 21) (.t 23) 2),
     .op (.ld 26 (.t 25) 2 true),
     .op (.new 9 [(.i .u8 0), (.i .u8 0)]),
     .op (.st (.t 9) (.t 26) 2 true)])
   ((.seq (.reg [.op (.fa 27 (.t 9) 0 1),
     .op (.ld 28 (.t 27) 1 false),
     .op (.cvi 29 .i64 (.t 28)),
     .op (.bin 30 .rem (.t 29) (.k (.i .i64 4))),
     .op (.mv 10 (.t 30))])
   ((.seq (.reg [.op (.buildSl 31 1 3 [(.i .i64 0)] [(0, (.k (.i .i64 53))), (1, (.k (.i .i64 55))), (2, (.k (.i .i64 54)))] true),
     .op (.fa 32 (.t 9) 1 1),
     .op (.ld 33 (.t 32) 1 false),
     .op (.cvi 34 .i64 (.t 33)),
     .op (.bin 35 .rem (.t 34) (.k (.i .i64 4))),
     .op (.mn 36 (.t 35) (.k (.i .i64 2))),
     .op (.ixs 37 (.t 31) (.t 36) 1),
     .op (.ld 38 (.t 37) 1 false),
     .op (.mv 11 (.t 38))])
   ((.seq ((.seq (.reg [.op (.ld 39 (.t 5) 9 true),
     .op (.mv 40 (.t 10)),
     .op (.call (some 41) rwlock_Holds [(.t 39), (.t 40)]),
     .op (.bin 42 .eql (.t 41) (.k (.i .i64 2))),
     .op (.mv 43 (.t 42)),
     .sc false 46 43 [.op (.mv 44 (.t 11)), .op (.bin 45 .eql (.t 44) (.k (.i .i64 54)))] (.t 45)])
   (.ite (.t 46)
     (.reg [.op (.mv 11 (.k (.i .i64 56)))])
     (.skip))))
   ((.seq (.drw [] [0, 1, 2, 3, 4, 5, 6, 7, 8, 9, 10, 11] [.op (.call (some 48) nurserylaw17_lock []),
     .op (.ld 49 (.t 5) 9 true),
     .op (.mv 50 (.t 10)),
     .op (.mv 51 (.t 11)),
     .op (.build 52 [(.i .i64 0), (.i .i64 0), (.i .i64 0), (.i .i64 0), (.i .i64 0)] [(0, 1, (.t 50)), (1, 1, (.t 51))]),
     .op (.call (some 53) rwlock_Apply [(.t 48), (.t 49), (.t 52)]),
     .op (.mv 47 (.t 53)),
     .op (.ext 54 (.t 47) 0),
     .op (.ext 55 (.t 47) 1),
     .op (.new 12 [(.i .i64 0), (.i .i64 0), (.i .i64 0), (.sl 1 true []), (.sl 5 true []), (.sl 1 true []), (.sl 2 true []), (.b false), (.i .i64 0), (.b false), (.i .i64 0), (.b false), (.sl 5 true [])]),
     .re (.ld 49 (.t 5) 9 true),
     .op (.st (.t 12) (.t 54) 13 false),
     .op (.mv 13 (.t 55))])
   ((.seq ((.seq (.reg [.op (.fa 56 (.t 9) 1 1),
     .op (.ld 57 (.t 56) 1 false),
     .op (.bin 58 .rem (.t 57) (.k (.i .u8 4))),
     .op (.bin 59 .eql (.t 58) (.k (.i .u8 3)))])
   (.ite (.t 59)
     (.drw [] [0, 1, 2, 3, 4, 5, 6, 7, 8] [.op (.call (some 61) nurserylaw17_lock []),
       .op (.ld 62 (.t 5) 9 true),
       .op (.mv 63 (.t 10)),
       .op (.call (some 64) rwlock_Withdraw [(.t 61), (.t 62), (.t 63)]),
       .op (.mv 60 (.t 64)),
       .op (.ext 65 (.t 60) 0),
       .op (.ext 66 (.t 60) 1),
       .op (.st (.t 12) (.t 65) 13 false),
       .op (.mv 13 (.t 66))])
     (.skip))))
   ((.seq ((.seq (.reg [.op (.mv 67 (.t 13)),
     .op (.bin 68 .neq (.t 67) (.k (.i .i64 0)))])
   (.ite (.t 68)
     (.seq (.keep [2, 5, 6, 7, 21, 22, 23]) (.exit 1))
     (.skip))))
   ((.seq (.reg [.op (.fa 69 (.t 12) 0 9),
     .op (.ld 70 (.t 69) 9 true),
     .op (.st (.t 5) (.t 70) 9 false)])
   ((.seq ((.seq (.reg [.op (.fa 71 (.t 9) 1 1),
     .op (.ld 72 (.t 71) 1 false),
     .op (.bin 73 .rem (.t 72) (.k (.i .u8 4))),
     .op (.bin 74 .lss (.t 73) (.k (.i .u8 2))),
     .op (.mv 75 (.t 74)),
     .sc false 79 75 [.op (.fa 76 (.t 12) 9 1), .op (.ld 77 (.t 76) 1 false), .op (.un 78 .not (.t 77))] (.t 78)])
   (.ite (.t 79)
     (.reg [.op (.mv 80 (.t 7)),
       .op (.mv 81 (.t 10)),
       .op (.buildSl 82 1 1 [(.i .i64 0)] [(0, (.t 81))] true),
       .op (.app 83 (.t 80) (.t 82) 1),
       .op (.mv 7 (.t 83))])
     (.skip))))
   ((.seq (.reg [.op (.fa 84 (.t 12) 12 1),
     .op (.ld 85 (.t 84) 1 false),
     .op (.len 86 (.t 85) .sl),
     .op (.mv 87 (.k (.i .i64 0)))])
   (.blk 2 (.loop [2, 5, 6, 7, 21, 22, 23, 85, 86, 87] F_nurserylaw17_play_L0)))))))))))))))))))))))
  (.reg [.op (.bin 97 .add (.t 23) (.k (.i .i64 1))),
    .op (.mv 23 (.t 97))]))))))

/-- nursery/nurserylaw17.play -/
def F_nurserylaw17_play : F := .mk
  ((.seq (.reg [.op (.new 2 [(.i .i64 0), (.i .i64 0), (.i .i64 0), (.sl 1 true []), (.sl 5 true []), (.sl 1 true []), (.sl 2 true []), (.b false), (.i .i64 0)]),
    .op (.mv 3 (.k (.sl 1 true []))),
    .op (.mv 4 (.k (.b false)))])
  ((.seq (.reg [.op (.call (some 17) nurserylaw17_lock []),
    .op (.call (some 18) rwlock_New [(.t 17)]),
    .op (.mv 16 (.t 18)),
    .op (.ext 19 (.t 16) 0),
    .op (.ext 20 (.t 16) 1),
    .op (.new 5 [(.i .i64 0), (.i .i64 0), (.i .i64 0), (.sl 1 true []), (.sl 5 true []), (.sl 1 true []), (.sl 2 true []), (.b false), (.i .i64 0)]),
    .op (.st (.t 5) (.t 19) 9 false),
    .op (.mv 6 (.t 20))])
  ((.seq (.reg [.op (.mv 7 (.k (.sl 1 true [])))])
  ((.seq ((.seq (.reg [.op (.mv 21 (.t 0)),
    .op (.len 22 (.t 21) .sl),
    .op (.mv 23 (.k (.i .i64 0)))])
  (.blk 0 (.loop [2, 5, 6, 7, 21, 22, 23] F_nurserylaw17_play_L1))))
  ((.seq (.reg [.op (.ld 98 (.t 5) 9 true),
    .op (.mv 99 (.t 7)),
    .op (.mv 100 (.t 6)),
    .op (.bin 101 .eql (.t 100) (.k (.i .i64 0))),
    .op (.st (.t 2) (.t 98) 9 false),
    .op (.mv 3 (.t 99)),
    .op (.mv 4 (.t 101))])
  (.ret)))))))))))
  [.c 2 9 true, .t 3, .t 4] false none

/-- nursery/nurserylaw17.RwlockFair$1 -/
def F_nurserylaw17_RwlockFairC1 : F := .mk
  ((.seq (.reg [.op (.box 2 (.t 0) 9 true),
    .op (.mv 3 (.k (.b false)))])
  ((.seq (.reg [.op (.fa 4 (.t 2) 4 1),
    .op (.ld 5 (.t 4) 1 false),
    .op (.mkf 6 nurserylaw17_RwlockFairC1C1 [] [(.t 1)]),
    .op (.call (some 7) slices_ContainsFunc_api_Waiter_api_Waiter [(.t 5), (.t 6)]),
    .op (.mv 3 (.t 7))])
  (.ret)))))
  [.t 3] false none

/-- slices.ContainsFunc[[]nursery/api.Waiter,nursery/api.Waiter] -/
def F_slices_ContainsFunc_api_Waiter_api_Waiter : F := .mk
  ((.seq (.reg [.op (.mv 4 (.k (.b false)))])
  ((.seq (.reg [.op (.mv 5 (.t 0)),
    .op (.mv 6 (.t 1)),
    .op (.call (some 7) slices_IndexFunc_api_Waiter_api_Waiter [(.t 5), (.t 6)]),
    .op (.bin 8 .geq (.t 7) (.k (.i .i64 0))),
    .op (.mv 4 (.t 8))])
  (.ret)))))
  [.t 4] false none

/-- nursery/nurserylaw17.RwlockFair$1$1 -/
def F_nurserylaw17_RwlockFairC1C1 : F := .mk
  ((.seq (.reg [.op (.box 2 (.t 0) 5 true),
    .op (.mv 3 (.k (.b false)))])
  ((.seq (.reg [.op (.fa 4 (.t 2) 0 1),
    .op (.ld 5 (.t 4) 1 false),
    .op (.ld 6 (.t 1) 1 false),
    .op (.bin 7 .eql (.t 5) (.t 6)),
    .op (.mv 3 (.t 7))])
  (.ret)))))
  [.t 3] false none

def F_waitlist_Find_L0 : C :=
  (.seq (.reg [.op (.bin 11 .lss (.t 10) (.t 9))])
  ((.seq (.ite (.t 11)
    (.skip)
    (.seq (.keep []) (.exit 0)))
  ((.seq (.blk 1 ((.seq (.reg [.op (.mv 12 (.t 10)),
     .op (.ixs 13 (.t 8) (.t 10) 5),
     .op (.ld 14 (.t 13) 5 true),
     .op (.new 7 [(.i .i64 0), (.i .i64 0), (.i .i64 0), (.i .i64 0), (.i .i64 0)]),
     .op (.mv 6 (.t 12)),
     .op (.st (.t 7) (.t 14) 5 true)])
   ((.seq (.reg [.op (.fa 15 (.t 7) 0 1),
     .op (.ld 16 (.t 15) 1 false),
     .op (.mv 17 (.t 1)),
     .op (.bin 18 .eql (.t 16) (.t 17))])
   (.ite (.t 18)
     ((.seq (.reg [.op (.mv 19 (.t 6)),
       .op (.mv 4 (.t 19)),
       .op (.mv 5 (.k (.b true)))])
     (.seq (.keep [4, 5]) .ret)))
     (.skip)))))))
  (.reg [.op (.bin 20 .add (.t 10) (.k (.i .i64 1))),
    .op (.mv 10 (.t 20))]))))))

/-- nursery/waitlist.Find -/
def F_waitlist_Find : F := .mk
  ((.seq (.reg [.op (.mv 4 (.k (.i .i64 0))),
    .op (.mv 5 (.k (.b false)))])
  ((.seq ((.seq (.reg [.op (.mv 8 (.t 0)),
    .op (.len 9 (.t 8) .sl),
    .op (.mv 10 (.k (.i .i64 0)))])
  (.blk 0 (.loop [1, 8, 9, 10] F_waitlist_Find_L0))))
  ((.seq (.reg [.op (.mv 4 (.k (.i .i64 0))),
    .op (.mv 5 (.k (.b false)))])
  (.ret)))))))
  [.t 4, .t 5] false none

/-- nursery/rwlock.changed -/
def F_rwlock_changed : F := .mk
  ((.seq (.reg [.op (.box 1 (.t 0) 9 false),
    .op (.mv 2 (.k .nil))])
  ((.seq (.drw [] [0, 1, 3, 4, 2, 6, 5, 7, 8, 9] [.op (.fa 3 (.t 1) 3 1),
    .op (.ld 4 (.t 3) 1 false),
    .op (.fa 6 (.t 1) 4 1),
    .op (.ld 7 (.t 6) 1 false),
    .op (.callk (some 5) slices_Clone_int_int [(.t 4)]),
    .re (.fa 6 (.t 1) 4 1),
    .re (.ld 7 (.t 6) 1 false),
    .op (.fa 9 (.t 1) 3 1),
    .op (.callk (some 8) slices_Clone_api_Waiter_api_Waiter [(.t 7)]),
    .re (.fa 9 (.t 1) 3 1),
    .op (.st (.t 9) (.t 5) 1 false),
    .op (.fa 10 (.t 1) 4 1),
    .op (.st (.t 10) (.t 8) 1 false)])
  ((.seq (.reg [.op (.ld 11 (.t 1) 9 true),
    .op (.build 12 [(.i .i64 0), (.i .i64 0), (.i .i64 0), (.sl 1 true []), (.sl 5 true []), (.sl 1 true []), (.sl 2 true []), (.b false), (.i .i64 0), (.sl 5 true [])] [(0, 9, (.t 11))]),
    .op (.box 13 (.t 12) 10 false),
    .op (.mv 2 (.t 13))])
  (.ret)))))))
  [.t 2] true none

/-- nursery/waitlist.Remove -/
def F_waitlist_Remove : F := .mk
  ((.seq (.reg [.op (.box 3 (.t 1) 1 true),
    .op (.mv 4 (.k (.sl 5 true [])))])
  ((.seq (.reg [.op (.mv 5 (.t 0)),
    .op (.mkf 6 waitlist_RemoveC1 [] [(.t 3)]),
    .op (.callr (some 7) waitlist_filter [(.t 5), (.t 6)]),
    .op (.mv 4 (.t 7))])
  (.ret)))))
  [.t 4] true none

def F_rwlock_lock_serve_L0 : C :=
  (.seq ((.seq (.reg [.op (.mv 3 (.t 0)),
    .op (.nck 4 (.t 3)),
    .op (.fa 5 (.t 4) 0 9),
    .op (.fa 6 (.t 5) 4 1),
    .op (.ld 7 (.t 6) 1 false),
    .op (.len 8 (.t 7) .sl),
    .op (.bin 9 .gtr (.t 8) (.k (.i .i64 0)))])
  (.ite (.t 9)
    (.skip)
    (.seq (.keep []) (.exit 0)))))
  (.blk 1 ((.seq (.reg [.op (.mv 10 (.t 0)),
     .op (.nck 11 (.t 10)),
     .op (.fa 12 (.t 11) 0 9),
     .op (.fa 13 (.t 12) 4 1),
     .op (.ld 14 (.t 13) 1 false),
     .op (.ixs 15 (.t 14) (.k (.i .i64 0)) 5),
     .op (.ld 16 (.t 15) 5 true),
     .op (.new 2 [(.i .i64 0), (.i .i64 0), (.i .i64 0), (.i .i64 0), (.i .i64 0)]),
     .op (.st (.t 2) (.t 16) 5 true)])
   ((.seq (.blk 2 ((.seq ((.seq (.reg [.op (.mv 18 (.t 0)),
      .op (.callr (some 19) rwlock_lock_writes [(.t 18)]),
      .op (.mv 17 (.t 19))])
    (.ite (.t 17)
      (.skip)
      (.reg [.op (.fa 20 (.t 2) 1 1),
        .op (.ld 21 (.t 20) 1 false),
        .op (.bin 22 .eql (.t 21) (.k (.i .i64 55))),
        .op (.mv 23 (.t 22)),
        .sc false 27 23 [.op (.mv 24 (.t 0)), .op (.callr (some 25) rwlock_lock_free [(.t 24)]), .op (.un 26 .not (.t 25))] (.t 26),
        .op (.mv 17 (.t 27))]))))
    (.ite (.t 17)
      (.seq (.keep []) (.exit 0))
      (.skip)))))
   ((.seq (.reg [.op (.mv 28 (.t 0)),
     .op (.mv 29 (.t 0)),
     .op (.nck 30 (.t 29)),
     .op (.fa 31 (.t 30) 0 9),
     .op (.fa 32 (.t 31) 4 1),
     .op (.ld 33 (.t 32) 1 false),
     .op (.sl 34 (.t 33) (some (.k (.i .i64 1))) none 5),
     .op (.nck 35 (.t 28)),
     .op (.fa 36 (.t 35) 0 9),
     .op (.fa 37 (.t 36) 4 1),
     .op (.st (.t 37) (.t 34) 1 false)])
   ((.seq (.reg [.op (.mv 38 (.t 0)),
     .op (.fa 39 (.t 2) 0 1),
     .op (.ld 40 (.t 39) 1 false),
     .op (.fa 41 (.t 2) 1 1),
     .op (.ld 42 (.t 41) 1 false),
     .op (.callr (some 43) rwlock_lock_grant [(.t 38), (.t 40), (.t 42)])])
   (.drw [] [0, 1, 2, 3, 4, 5, 6, 7, 8, 9, 10, 11, 12, 13, 14] [.op (.mv 44 (.t 0)),
     .op (.mv 45 (.t 0)),
     .op (.nck 46 (.t 45)),
     .op (.fa 47 (.t 46) 9 1),
     .op (.ld 48 (.t 47) 1 false),
     .op (.fad 49 (.t 2) 0 1),
     .op (.ldd 50 (.t 49) 1 false),
     .op (.fad 51 (.t 2) 1 1),
     .op (.ldd 52 (.t 51) 1 false),
     .op (.build 53 [(.i .i64 0), (.i .i64 0), (.i .i64 0), (.b false), (.i .i64 0)] [(0, 1, (.t 50)), (1, 1, (.t 52)), (3, 1, (.k (.b true))), (4, 1, (.k (.i .i64 (-1))))]),
     .op (.buildSl 54 5 1 [(.i .i64 0), (.i .i64 0), (.i .i64 0), (.b false), (.i .i64 0)] [(0, (.t 53))] true),
     .op (.app 55 (.t 48) (.t 54) 5),
     .op (.nck 56 (.t 44)),
     .op (.fa 57 (.t 56) 9 1),
     .op (.st (.t 57) (.t 55) 1 false)])))))))))))

/-- (*nursery/rwlock.lock).serve -/
def F_rwlock_lock_serve : F := .mk
  ((.seq .skip ((.seq (.skip)
  (.blk 0 (.loop [0] F_rwlock_lock_serve_L0))))))
  [] true none

def F_nurseryref07_Find_L0 : C :=
  (.seq ((.seq (.reg [.op (.mv 7 (.t 6)),
    .op (.mv 8 (.t 0)),
    .op (.len 9 (.t 8) .sl),
    .op (.bin 10 .lss (.t 7) (.t 9))])
  (.ite (.t 10)
    (.skip)
    (.seq (.keep []) (.exit 0)))))
  ((.seq (.blk 1 ((.seq (.reg [.op (.mv 13 (.t 0)),
     .op (.mv 14 (.t 6)),
     .op (.ixs 15 (.t 13) (.t 14) 5),
     .op (.fa 16 (.t 15) 0 1),
     .op (.ld 17 (.t 16) 1 false),
     .op (.mv 18 (.t 1)),
     .op (.bin 19 .eql (.t 17) (.t 18))])
   (.ite (.t 19)
     ((.seq (.reg [.op (.mv 20 (.t 6)),
       .op (.mv 4 (.t 20)),
       .op (.mv 5 (.k (.b true)))])
     (.seq (.keep [4, 5]) .ret)))
     (.skip)))))
  (.reg [.op (.mv 11 (.t 6)),
    .op (.bin 12 .add (.t 11) (.k (.i .i64 1))),
    .op (.mv 6 (.t 12))]))))

/-- nursery/nurseryref07.Find -/
def F_nurseryref07_Find : F := .mk
  ((.seq (.reg [.op (.mv 4 (.k (.i .i64 0))),
    .op (.mv 5 (.k (.b false)))])
  ((.seq ((.seq (.reg [.op (.mv 6 (.k (.i .i64 0)))])
  (.blk 0 (.loop [0, 1, 6] F_nurseryref07_Find_L0))))
  ((.seq (.reg [.op (.mv 4 (.k (.i .i64 0))),
    .op (.mv 5 (.k (.b false)))])
  (.ret)))))))
  [.t 4, .t 5] false none

def F_nurseryref07_Remove_L0 : C :=
  (.seq ((.seq (.reg [.op (.mv 8 (.t 6)),
    .op (.mv 9 (.t 0)),
    .op (.len 10 (.t 9) .sl),
    .op (.bin 11 .lss (.t 8) (.t 10))])
  (.ite (.t 11)
    (.skip)
    (.seq (.keep [5]) (.exit 0)))))
  ((.seq (.blk 1 ((.seq (.reg [.op (.mv 14 (.t 0)),
     .op (.mv 15 (.t 6)),
     .op (.ixs 16 (.t 14) (.t 15) 5),
     .op (.fa 17 (.t 16) 0 1),
     .op (.ld 18 (.t 17) 1 false),
     .op (.mv 19 (.t 1)),
     .op (.bin 20 .neq (.t 18) (.t 19))])
   (.ite (.t 20)
     (.reg [.op (.mv 21 (.t 5)),
       .op (.mv 22 (.t 0)),
       .op (.mv 23 (.t 6)),
       .op (.ixs 24 (.t 22) (.t 23) 5),
       .op (.ld 25 (.t 24) 5 true),
       .op (.buildSl 26 5 1 [(.i .i64 0), (.i .i64 0), (.i .i64 0), (.i .i64 0), (.i .i64 0)] [(0, (.t 25))] true),
       .op (.app 27 (.t 21) (.t 26) 5),
       .op (.mv 5 (.t 27))])
     (.skip)))))
  (.reg [.op (.mv 12 (.t 6)),
    .op (.bin 13 .add (.t 12) (.k (.i .i64 1))),
    .op (.mv 6 (.t 13))]))))

/-- nursery/nurseryref07.Remove -/
def F_nurseryref07_Remove : F := .mk
  ((.seq (.reg [.op (.mv 4 (.k (.sl 5 true [])))])
  ((.seq (.reg [.op (.buildSl 7 5 0 [(.i .i64 0), (.i .i64 0), (.i .i64 0), (.i .i64 0), (.i .i64 0)] [] false),
    .op (.mv 5 (.t 7))])
  ((.seq ((.seq (.reg [.op (.mv 6 (.k (.i .i64 0)))])
  (.blk 0 (.loop [0, 1, 5, 6] F_nurseryref07_Remove_L0))))
  ((.seq (.reg [.op (.mv 28 (.t 5)),
    .op (.mv 4 (.t 28))])
  (.ret)))))))))
  [.t 4] false none

def F_nurseryref17_serve_L0 : C :=
  (.seq ((.seq (.reg [.op (.ld 6 (.t 1) 9 true),
    .op (.callr (some 7) nurseryref17_vain [(.t 6)])])
  (.ite (.t 7)
    (.skip)
    (.seq (.keep [1, 2, 3]) (.exit 0)))))
  (.blk 1 ((.seq (.reg [.op (.fa 8 (.t 1) 4 1),
     .op (.ld 9 (.t 8) 1 false),
     .op (.ixs 10 (.t 9) (.k (.i .i64 0)) 5),
     .op (.ld 11 (.t 10) 5 true),
     .op (.new 4 [(.i .i64 0), (.i .i64 0), (.i .i64 0), (.i .i64 0), (.i .i64 0)]),
     .op (.st (.t 4) (.t 11) 5 true)])
   ((.seq (.reg [.op (.buildSl 12 5 0 [(.i .i64 0), (.i .i64 0), (.i .i64 0), (.i .i64 0), (.i .i64 0)] [] false),
     .op (.fa 13 (.t 1) 4 1),
     .op (.ld 14 (.t 13) 1 false),
     .op (.sl 15 (.t 14) (some (.k (.i .i64 1))) none 5),
     .op (.app 16 (.t 12) (.t 15) 5),
     .op (.fa 17 (.t 1) 4 1),
     .op (.st (.t 17) (.t 16) 1 false)])
   ((.seq ((.seq (.reg [.op (.fa 18 (.t 4) 1 1),
     .op (.ld 19 (.t 18) 1 false),
     .op (.bin 20 .eql (.t 19) (.k (.i .i64 53)))])
   (.ite (.t 20)
     (.reg [.op (.fa 21 (.t 1) 3 1),
       .op (.ld 22 (.t 21) 1 false),
       .op (.fa 23 (.t 4) 0 1),
       .op (.ld 24 (.t 23) 1 false),
       .op (.call (some 25) nurseryref17_with [(.t 22), (.t 24)]),
       .op (.fa 26 (.t 1) 3 1),
       .op (.st (.t 26) (.t 25) 1 false)])
     (.reg [.op (.fa 27 (.t 4) 0 1),
       .op (.ld 28 (.t 27) 1 false),
       .op (.fa 29 (.t 1) 0 1),
       .op (.st (.t 29) (.t 28) 1 false)]))))
   (.reg [.op (.fa 30 (.t 3) 12 1),
     .op (.ld 31 (.t 30) 1 false),
     .op (.fa 32 (.t 4) 0 1),
     .op (.ld 33 (.t 32) 1 false),
     .op (.fa 34 (.t 4) 1 1),
     .op (.ld 35 (.t 34) 1 false),
     .op (.build 36 [(.i .i64 0), (.i .i64 0), (.i .i64 0), (.b false), (.i .i64 0)] [(0, 1, (.t 33)), (1, 1, (.t 35)), (3, 1, (.k (.b true))), (4, 1, (.k (.i .i64 (-1))))]),
     .op (.buildSl 37 5 1 [(.i .i64 0), (.i .i64 0), (.i .i64 0), (.b false), (.i .i64 0)] [(0, (.t 36))] true),
     .op (.app 38 (.t 31) (.t 37) 5),
     .op (.fa 39 (.t 3) 12 1),
     .op (.st (.t 39) (.t 38) 1 false)])))))))))

/-- nursery/nurseryref17.serve -/
def F_nurseryref17_serve : F := .mk
  ((.seq (.reg [.op (.box 1 (.t 0) 9 false),
    .op (.new 2 [(.i .i64 0), (.i .i64 0), (.i .i64 0), (.sl 1 true []), (.sl 5 true []), (.sl 1 true []), (.sl 2 true []), (.b false), (.i .i64 0), (.b false), (.i .i64 0), (.b false), (.sl 5 true [])])])
  ((.seq (.reg [.op (.build 5 [(.i .i64 0), (.i .i64 0), (.i .i64 0), (.sl 1 true []), (.sl 5 true []), (.sl 1 true []), (.sl 2 true []), (.b false), (.i .i64 0), (.b false), (.i .i64 0), (.b false), (.sl 5 true [])] []),
    .op (.new 3 [(.i .i64 0), (.i .i64 0), (.i .i64 0), (.sl 1 true []), (.sl 5 true []), (.sl 1 true []), (.sl 2 true []), (.b false), (.i .i64 0), (.b false), (.i .i64 0), (.b false), (.sl 5 true [])]),
    .op (.st (.t 3) (.t 5) 13 false)])
  ((.seq (.blk 0 (.loop [1, 2, 3] F_nurseryref17_serve_L0))
  ((.seq (.reg [.op (.ld 40 (.t 1) 9 true),
    .op (.fa 41 (.t 3) 0 9),
    .op (.st (.t 41) (.t 40) 9 false)])
  ((.seq (.reg [.op (.ld 42 (.t 3) 13 true),
    .op (.st (.t 2) (.t 42) 13 false)])
  (.ret)))))))))))
  [.c 2 13 true] false none

/-- nursery/rwlock.holds -/
def F_rwlock_holds : F := .mk
  ((.seq (.reg [.op (.box 2 (.t 0) 9 true),
    .op (.mv 4 (.k (.i .i64 0)))])
  ((.seq (.blk 0 ((.seq (.reg [.op (.mv 6 (.t 1)),
     .op (.bin 7 .geq (.t 6) (.k (.i .i64 0))),
     .op (.mv 8 (.t 7)),
     .sc false 13 8 [.op (.mv 9 (.t 1)), .op (.fa 10 (.t 2) 0 1), .op (.ld 11 (.t 10) 1 false), .op (.bin 12 .eql (.t 9) (.t 11))] (.t 12),
     .op (.mv 5 (.t 13))])
   (.ite (.t 5)
     ((.seq (.reg [.op (.mv 4 (.k (.i .i64 2)))])
     (.ret)))
     ((.seq (.reg [.op (.fa 15 (.t 2) 3 1),
       .op (.ld 16 (.t 15) 1 false),
       .op (.mv 17 (.t 1)),
       .op (.call (some 18) slices_Contains_int_int [(.t 16), (.t 17)]),
       .op (.mv 14 (.t 18))])
     (.ite (.t 14)
       ((.seq (.reg [.op (.mv 4 (.k (.i .i64 1)))])
       (.ret)))
       (.skip))))))))
  ((.seq (.reg [.op (.mv 4 (.k (.i .i64 0)))])
  (.ret)))))))
  [.t 4] false none

def F_nurseryref17_reads_L0 : C :=
  (.seq ((.seq (.reg [.op (.mv 6 (.t 5)),
    .op (.fa 7 (.t 2) 3 1),
    .op (.ld 8 (.t 7) 1 false),
    .op (.len 9 (.t 8) .sl),
    .op (.bin 10 .lss (.t 6) (.t 9))])
  (.ite (.t 10)
    (.skip)
    (.seq (.keep []) (.exit 0)))))
  ((.seq (.blk 1 ((.seq (.reg [.op (.fa 13 (.t 2) 3 1),
     .op (.ld 14 (.t 13) 1 false),
     .op (.mv 15 (.t 5)),
     .op (.ixs 16 (.t 14) (.t 15) 1),
     .op (.ld 17 (.t 16) 1 false),
     .op (.mv 18 (.t 1)),
     .op (.bin 19 .eql (.t 17) (.t 18))])
   (.ite (.t 19)
     ((.seq (.reg [.op (.mv 4 (.k (.b true)))])
     (.seq (.keep [4]) .ret)))
     (.skip)))))
  (.reg [.op (.mv 11 (.t 5)),
    .op (.bin 12 .add (.t 11) (.k (.i .i64 1))),
    .op (.mv 5 (.t 12))]))))

/-- nursery/nurseryref17.reads -/
def F_nurseryref17_reads : F := .mk
  ((.seq (.reg [.op (.box 2 (.t 0) 9 true),
    .op (.mv 4 (.k (.b false)))])
  ((.seq ((.seq (.reg [.op (.mv 5 (.k (.i .i64 0)))])
  (.blk 0 (.loop [1, 2, 5] F_nurseryref17_reads_L0))))
  ((.seq (.reg [.op (.mv 4 (.k (.b false)))])
  (.ret)))))))
  [.t 4] false none

def F_rwlock_valid_L0 : C :=
  (.seq (.reg [.op (.bin 55 .lss (.t 54) (.t 53))])
  ((.seq (.ite (.t 55)
    (.skip)
    (.seq (.keep [1]) (.exit 0)))
  ((.seq (.blk 1 ((.seq (.reg [.op (.mv 56 (.t 54)),
     .op (.ixs 57 (.t 52) (.t 54) 1),
     .op (.ld 58 (.t 57) 1 false),
     .op (.mv 3 (.t 56)),
     .op (.mv 4 (.t 58))])
   ((.seq (.reg [.op (.mv 59 (.t 4)),
     .op (.call (some 60) rwlock_isTask [(.t 59)]),
     .op (.un 61 .not (.t 60)),
     .op (.mv 62 (.t 61)),
     .sc true 75 62 [.op (.mv 63 (.t 3)), .op (.bin 64 .gtr (.t 63) (.k (.i .i64 0))), .op (.mv 65 (.t 64)), .sc false 74 65 [.op (.fa 66 (.t 1) 3 1), .op (.ld 67 (.t 66) 1 false), .op (.mv 68 (.t 3)), .op (.bin 69 .sub (.t 68) (.k (.i .i64 1))), .op (.ixs 70 (.t 67) (.t 69) 1), .op (.ld 71 (.t 70) 1 false), .op (.mv 72 (.t 4)), .op (.bin 73 .geq (.t 71) (.t 72))] (.t 73)] (.t 74)])
   (.ite (.t 75)
     ((.seq (.reg [.op (.mv 2 (.k (.b false)))])
     (.seq (.keep [2]) .ret)))
     (.skip)))))))
  (.reg [.op (.bin 76 .add (.t 54) (.k (.i .i64 1))),
    .op (.mv 54 (.t 76))]))))))

/-- nursery/rwlock.valid -/
def F_rwlock_valid : F := .mk
  ((.seq (.reg [.op (.box 1 (.t 0) 9 true),
    .op (.mv 2 (.k (.b false)))])
  ((.seq ((.seq (.reg [.op (.fa 5 (.t 1) 0 1),
    .op (.ld 6 (.t 5) 1 false),
    .op (.bin 7 .neq (.t 6) (.k (.i .i64 (-1)))),
    .op (.mv 8 (.t 7)),
    .sc false 19 8 [.op (.fa 9 (.t 1) 0 1), .op (.ld 10 (.t 9) 1 false), .op (.call (some 11) rwlock_isTask [(.t 10)]), .op (.un 12 .not (.t 11)), .op (.mv 13 (.t 12)), .sc true 18 13 [.op (.fa 14 (.t 1) 3 1), .op (.ld 15 (.t 14) 1 false), .op (.len 16 (.t 15) .sl), .op (.bin 17 .gtr (.t 16) (.k (.i .i64 0)))] (.t 17)] (.t 18),
    .op (.mv 20 (.t 19)),
    .sc true 24 20 [.op (.fa 21 (.t 1) 1 1), .op (.ld 22 (.t 21) 1 false), .op (.bin 23 .neq (.t 22) (.k (.i .i64 0)))] (.t 23),
    .op (.mv 25 (.t 24)),
    .sc true 29 25 [.op (.fa 26 (.t 1) 2 1), .op (.ld 27 (.t 26) 1 false), .op (.bin 28 .neq (.t 27) (.k (.i .i64 0)))] (.t 28),
    .op (.mv 30 (.t 29)),
    .sc true 35 30 [.op (.fa 31 (.t 1) 5 1), .op (.ld 32 (.t 31) 1 false), .op (.len 33 (.t 32) .sl), .op (.bin 34 .gtr (.t 33) (.k (.i .i64 0)))] (.t 34),
    .op (.mv 36 (.t 35)),
    .sc true 41 36 [.op (.fa 37 (.t 1) 6 1), .op (.ld 38 (.t 37) 1 false), .op (.len 39 (.t 38) .sl), .op (.bin 40 .gtr (.t 39) (.k (.i .i64 0)))] (.t 40),
    .op (.mv 42 (.t 41)),
    .sc true 45 42 [.op (.fa 43 (.t 1) 7 1), .op (.ld 44 (.t 43) 1 false)] (.t 44),
    .op (.mv 46 (.t 45)),
    .sc true 50 46 [.op (.fa 47 (.t 1) 8 1), .op (.ld 48 (.t 47) 1 false), .op (.bin 49 .neq (.t 48) (.k (.i .i64 0)))] (.t 49)])
  (.ite (.t 50)
    ((.seq (.reg [.op (.mv 2 (.k (.b false)))])
    (.ret)))
    (.skip))))
  ((.seq ((.seq (.reg [.op (.fa 51 (.t 1) 3 1),
    .op (.ld 52 (.t 51) 1 false),
    .op (.len 53 (.t 52) .sl),
    .op (.mv 54 (.k (.i .i64 0)))])
  (.blk 0 (.loop [1, 52, 53, 54] F_rwlock_valid_L0))))
  ((.seq (.reg [.op (.ld 77 (.t 1) 9 true),
    .op (.call (some 78) rwlock_queued [(.t 77)]),
    .op (.mv 2 (.t 78))])
  (.ret)))))))))
  [.t 2] false none

/-- nursery/rwlock.isTask -/
def F_rwlock_isTask : F := .mk
  ((.seq (.reg [.op (.mv 2 (.k (.b false)))])
  ((.seq (.reg [.op (.mv 3 (.t 0)),
    .op (.bin 4 .geq (.t 3) (.k (.i .i64 0))),
    .op (.mv 5 (.t 4)),
    .sc false 8 5 [.op (.mv 6 (.t 0)), .op (.bin 7 .lss (.t 6) (.k (.i .i64 16)))] (.t 7),
    .op (.mv 2 (.t 8))])
  (.ret)))))
  [.t 2] false none

/-- (*nursery/rwlock.lock).free -/
def F_rwlock_lock_free : F := .mk
  ((.seq (.reg [.op (.mv 2 (.k (.b false)))])
  ((.seq (.reg [.op (.mv 3 (.t 0)),
    .op (.callr (some 4) rwlock_lock_writes [(.t 3)]),
    .op (.un 5 .not (.t 4)),
    .op (.mv 6 (.t 5)),
    .sc false 14 6 [.op (.mv 7 (.t 0)), .op (.nck 8 (.t 7)), .op (.fa 9 (.t 8) 0 9), .op (.fa 10 (.t 9) 3 1), .op (.ld 11 (.t 10) 1 false), .op (.len 12 (.t 11) .sl), .op (.bin 13 .eql (.t 12) (.k (.i .i64 0)))] (.t 13),
    .op (.mv 2 (.t 14))])
  (.ret)))))
  [.t 2] true none

/-- (*nursery/rwlock.lock).writes -/
def F_rwlock_lock_writes : F := .mk
  ((.seq (.reg [.op (.mv 2 (.k (.b false)))])
  ((.seq (.reg [.op (.mv 3 (.t 0)),
    .op (.nck 4 (.t 3)),
    .op (.fa 5 (.t 4) 0 9),
    .op (.fa 6 (.t 5) 0 1),
    .op (.ld 7 (.t 6) 1 false),
    .op (.bin 8 .neq (.t 7) (.k (.i .i64 (-1)))),
    .op (.mv 2 (.t 8))])
  (.ret)))))
  [.t 2] true none

/-- (*nursery/rwlock.lock).acquire -/
def F_rwlock_lock_acquire : F := .mk
  ((.seq (.reg [.op (.box 4 (.t 1) 5 true),
    .op (.new 6 [(.i .i64 0), (.i .i64 0), (.i .i64 0), (.sl 1 true []), (.sl 5 true []), (.sl 1 true []), (.sl 2 true []), (.b false), (.i .i64 0), (.b false), (.i .i64 0), (.b false), (.sl 5 true [])])])
  ((.seq ((.seq (.reg [.op (.mv 7 (.t 2))])
  (.ite (.t 7)
    ((.seq (.reg [.op (.mv 8 (.t 0)),
      .op (.fa 9 (.t 4) 0 1),
      .op (.ld 10 (.t 9) 1 false),
      .op (.fa 11 (.t 4) 1 1),
      .op (.ld 12 (.t 11) 1 false),
      .op (.callr (some 13) rwlock_lock_grant [(.t 8), (.t 10), (.t 12)])])
    ((.seq (.reg [.op (.mv 14 (.t 0)),
      .op (.callr (some 15) rwlock_lock_reply [(.t 14)]),
      .op (.st (.t 6) (.t 15) 13 false)])
    (.ret)))))
    (.skip))))
  ((.seq (.drw [] [0, 1, 2, 3, 4, 5, 6, 7, 8, 9, 10, 11, 12, 13, 14, 15, 16, 17, 18] [.op (.mv 16 (.t 0)),
    .op (.mv 17 (.t 0)),
    .op (.nck 18 (.t 17)),
    .op (.fa 19 (.t 18) 0 9),
    .op (.fa 20 (.t 19) 4 1),
    .op (.ld 21 (.t 20) 1 false),
    .op (.fad 22 (.t 4) 0 1),
    .op (.ldd 23 (.t 22) 1 false),
    .op (.fad 24 (.t 4) 1 1),
    .op (.ldd 25 (.t 24) 1 false),
    .op (.fad 26 (.t 4) 3 1),
    .op (.ldd 27 (.t 26) 1 false),
    .op (.build 28 [(.i .i64 0), (.i .i64 0), (.i .i64 0), (.i .i64 0), (.i .i64 0)] [(0, 1, (.t 23)), (1, 1, (.t 25)), (3, 1, (.t 27)), (4, 1, (.k (.i .i64 (-1))))]),
    .op (.buildSl 29 5 1 [(.i .i64 0), (.i .i64 0), (.i .i64 0), (.i .i64 0), (.i .i64 0)] [(0, (.t 28))] true),
    .op (.app 30 (.t 21) (.t 29) 5),
    .op (.nck 31 (.t 16)),
    .op (.fa 32 (.t 31) 0 9),
    .op (.fa 33 (.t 32) 4 1),
    .op (.st (.t 33) (.t 30) 1 false)])
  ((.seq (.reg [.op (.mv 34 (.t 0)),
    .op (.nck 35 (.t 34)),
    .op (.fa 36 (.t 35) 0 9),
    .op (.ld 37 (.t 36) 9 true),
    .op (.build 38 [(.i .i64 0), (.i .i64 0), (.i .i64 0), (.sl 1 true []), (.sl 5 true []), (.sl 1 true []), (.sl 2 true []), (.b false), (.i .i64 0), (.b false), (.i .i64 0), (.b false), (.sl 5 true [])] [(0, 9, (.t 37)), (9, 1, (.k (.b true)))]),
    .op (.st (.t 6) (.t 38) 13 false)])
  (.ret)))))))))
  [.c 6 13 true] true none

def F_slices_DeleteFunc_int_int_L0 : C :=
  (.seq ((.seq (.reg [.op (.mv 16 (.t 6)),
    .op (.mv 17 (.t 0)),
    .op (.len 18 (.t 17) .sl),
    .op (.bin 19 .lss (.t 16) (.t 18))])
  (.ite (.t 19)
    (.skip)
    (.seq (.keep [0, 5]) (.exit 0)))))
  ((.seq (.blk 1 ((.seq (.reg [.op (.mv 22 (.t 0)),
     .op (.mv 23 (.t 6)),
     .op (.ixs 24 (.t 22) (.t 23) 1),
     .op (.ld 25 (.t 24) 1 false),
     .op (.mv 7 (.t 25))])
   ((.seq (.reg [.op (.mv 26 (.t 1)),
     .op (.mv 27 (.t 7)),
     .op (.callv (some 28) (.t 26) [(.t 27)]),
     .op (.un 29 .not (.t 28))])
   (.ite (.t 29)
     ((.seq (.reg [.op (.mv 30 (.t 0)),
       .op (.mv 31 (.t 5)),
       .op (.mv 32 (.t 7)),
       .op (.ixs 33 (.t 30) (.t 31) 1),
       .op (.st (.t 33) (.t 32) 1 false)])
     (.reg [.op (.mv 34 (.t 5)),
       .op (.bin 35 .add (.t 34) (.k (.i .i64 1))),
       .op (.mv 5 (.t 35))])))
     (.skip)))))))
  (.reg [.op (.mv 20 (.t 6)),
    .op (.bin 21 .add (.t 20) (.k (.i .i64 1))),
    .op (.mv 6 (.t 21))]))))

/-- slices.DeleteFunc[[]int,int] -/
def F_slices_DeleteFunc_int_int : F := .mk
  ((.seq (.reg [.op (.mv 4 (.k (.sl 1 true [])))])
  ((.seq (.reg [.op (.mv 8 (.t 0)),
    .op (.mv 9 (.t 1)),
    .op (.callr (some 10) slices_IndexFunc_int_int [(.t 8), (.t 9)]),
    .op (.mv 5 (.t 10))])
  ((.seq ((.seq (.reg [.op (.mv 11 (.t 5)),
    .op (.bin 12 .eql (.t 11) (.k (.i .i64 (-1))))])
  (.ite (.t 12)
    ((.seq (.reg [.op (.mv 13 (.t 0)),
      .op (.mv 4 (.t 13))])
    (.ret)))
    (.skip))))
  ((.seq ((.seq (.reg [.op (.mv 14 (.t 5)),
    .op (.bin 15 .add (.t 14) (.k (.i .i64 1))),
    .op (.mv 6 (.t 15))])
  (.blk 0 (.loop [0, 1, 5, 6] F_slices_DeleteFunc_int_int_L0))))
  ((.seq (.reg [.op (.mv 36 (.t 0)),
    .op (.mv 37 (.t 5)),
    .op (.sl 38 (.t 36) (some (.t 37)) none 1),
    .op (.clr none (.t 38) 1 [(.i .i64 0)])])
  ((.seq (.reg [.op (.mv 39 (.t 0)),
    .op (.mv 40 (.t 5)),
    .op (.sl 41 (.t 39) none (some (.t 40)) 1),
    .op (.mv 4 (.t 41))])
  (.ret)))))))))))))
  [.t 4] true none

/-- nursery/rwlock.Apply$1 -/
def F_rwlock_ApplyC1 : F := .mk
  ((.seq (.reg [.op (.mv 3 (.k (.b false)))])
  ((.seq (.reg [.op (.mv 4 (.t 0)),
    .op (.fa 5 (.t 1) 0 1),
    .op (.ld 6 (.t 5) 1 false),
    .op (.bin 7 .eql (.t 4) (.t 6)),
    .op (.mv 3 (.t 7))])
  (.ret)))))
  [.t 3] false none

/-- (*nursery/rwlock.lock).reply -/
def F_rwlock_lock_reply : F := .mk
  ((.seq (.reg [.op (.new 2 [(.i .i64 0), (.i .i64 0), (.i .i64 0), (.sl 1 true []), (.sl 5 true []), (.sl 1 true []), (.sl 2 true []), (.b false), (.i .i64 0), (.b false), (.i .i64 0), (.b false), (.sl 5 true [])])])
  ((.seq (.drw [] [0, 1, 2, 3, 4, 5, 6, 7, 8, 9] [.op (.mv 3 (.t 0)),
    .op (.nck 4 (.t 3)),
    .op (.fa 5 (.t 4) 0 9),
    .op (.ld 6 (.t 5) 9 true),
    .op (.mv 7 (.t 0)),
    .op (.nck 8 (.t 7)),
    .op (.fa 9 (.t 8) 9 1),
    .op (.ld 10 (.t 9) 1 false),
    .op (.build 11 [(.i .i64 0), (.i .i64 0), (.i .i64 0), (.sl 1 true []), (.sl 5 true []), (.sl 1 true []), (.sl 2 true []), (.b false), (.i .i64 0), (.b false), (.i .i64 0), (.b false), (.sl 5 true [])] [(0, 9, (.t 6)), (11, 1, (.k (.b true))), (12, 1, (.t 10))]),
    .op (.st (.t 2) (.t 11) 13 false)])
  (.ret)))))
  [.c 2 13 true] true none

/-- nursery/nurseryref17.check -/
def F_nurseryref17_check : F := .mk
  ((.seq (.reg [.op (.box 3 (.t 0) 4 true),
    .op (.box 4 (.t 1) 9 true),
    .op (.box 5 (.t 2) 5 true),
    .op (.mv 6 (.k (.i .i64 0)))])
  ((.seq ((.seq (.reg [.op (.ld 10 (.t 3) 4 true),
    .op (.ld 11 (.t 4) 9 true),
    .op (.call (some 12) nurseryref17_Check [(.t 10), (.t 11)]),
    .op (.bin 13 .neq (.t 12) (.k (.i .i64 0)))])
  (.ite (.t 13)
    ((.seq (.reg [.op (.mv 6 (.k (.i .i64 1)))])
    (.ret)))
    (.skip))))
  ((.seq ((.seq (.reg [.op (.ld 14 (.t 5) 5 true),
    .op (.call (some 15) nurseryref17_Caller [(.t 14)]),
    .op (.un 16 .not (.t 15))])
  (.ite (.t 16)
    ((.seq (.reg [.op (.mv 6 (.k (.i .i64 2)))])
    (.ret)))
    (.skip))))
  ((.seq ((.seq (.reg [.op (.fa 17 (.t 5) 1 1),
    .op (.ld 18 (.t 17) 1 false),
    .op (.bin 19 .lss (.t 18) (.k (.i .i64 53))),
    .op (.mv 20 (.t 19)),
    .sc true 24 20 [.op (.fa 21 (.t 5) 1 1), .op (.ld 22 (.t 21) 1 false), .op (.bin 23 .gtr (.t 22) (.k (.i .i64 56)))] (.t 23)])
  (.ite (.t 24)
    ((.seq (.reg [.op (.mv 6 (.k (.i .i64 8)))])
    (.ret)))
    (.skip))))
  ((.seq (.reg [.op (.fa 25 (.t 5) 1 1),
    .op (.ld 26 (.t 25) 1 false),
    .op (.bin 27 .eql (.t 26) (.k (.i .i64 53))),
    .op (.mv 28 (.t 27)),
    .sc true 32 28 [.op (.fa 29 (.t 5) 1 1), .op (.ld 30 (.t 29) 1 false), .op (.bin 31 .eql (.t 30) (.k (.i .i64 55)))] (.t 31),
    .op (.mv 7 (.t 32))])
  ((.seq ((.seq (.reg [.op (.fa 34 (.t 4) 4 1),
    .op (.ld 35 (.t 34) 1 false),
    .op (.fa 36 (.t 5) 0 1),
    .op (.ld 37 (.t 36) 1 false),
    .op (.call (some 38) nurseryref07_Find [(.t 35), (.t 37)]),
    .op (.mv 33 (.t 38)),
    .op (.ext 39 (.t 33) 0),
    .op (.ext 40 (.t 33) 1),
    .op (.mv 8 (.t 39)),
    .op (.mv 9 (.t 40))])
  ((.seq (.reg [.op (.mv 41 (.t 9)),
    .op (.mv 42 (.t 41)),
    .sc true 51 42 [.op (.mv 43 (.t 7)), .op (.mv 44 (.t 43)), .sc false 50 44 [.op (.ld 45 (.t 4) 9 true), .op (.fa 46 (.t 5) 0 1), .op (.ld 47 (.t 46) 1 false), .op (.call (some 48) nurseryref17_Holds [(.t 45), (.t 47)]), .op (.bin 49 .neq (.t 48) (.k (.i .i64 0)))] (.t 49)] (.t 50)])
  (.ite (.t 51)
    ((.seq (.reg [.op (.mv 6 (.k (.i .i64 17)))])
    (.ret)))
    (.skip))))))
  ((.seq ((.seq (.reg [.op (.fa 52 (.t 5) 1 1),
    .op (.ld 53 (.t 52) 1 false),
    .op (.bin 54 .eql (.t 53) (.k (.i .i64 54))),
    .op (.mv 55 (.t 54)),
    .sc false 61 55 [.op (.ld 56 (.t 4) 9 true), .op (.fa 57 (.t 5) 0 1), .op (.ld 58 (.t 57) 1 false), .op (.call (some 59) nurseryref17_Holds [(.t 56), (.t 58)]), .op (.bin 60 .neq (.t 59) (.k (.i .i64 1)))] (.t 60),
    .op (.mv 62 (.t 61)),
    .sc true 73 62 [.op (.fa 63 (.t 5) 1 1), .op (.ld 64 (.t 63) 1 false), .op (.bin 65 .eql (.t 64) (.k (.i .i64 56))), .op (.mv 66 (.t 65)), .sc false 72 66 [.op (.ld 67 (.t 4) 9 true), .op (.fa 68 (.t 5) 0 1), .op (.ld 69 (.t 68) 1 false), .op (.call (some 70) nurseryref17_Holds [(.t 67), (.t 69)]), .op (.bin 71 .neq (.t 70) (.k (.i .i64 2)))] (.t 71)] (.t 72)])
  (.ite (.t 73)
    ((.seq (.reg [.op (.mv 6 (.k (.i .i64 20)))])
    (.ret)))
    (.skip))))
  ((.seq (.reg [.op (.mv 6 (.k (.i .i64 0)))])
  (.ret)))))))))))))))))
  [.t 6] false none

def F_nurseryref17_with_L0 : C :=
  (.seq ((.seq (.reg [.op (.mv 9 (.t 7)),
    .op (.mv 10 (.t 0)),
    .op (.len 11 (.t 10) .sl),
    .op (.bin 12 .lss (.t 9) (.t 11))])
  (.ite (.t 12)
    (.skip)
    (.seq (.keep [1, 5, 6]) (.exit 0)))))
  ((.seq (.blk 1 ((.seq ((.seq (.reg [.op (.mv 15 (.t 6)),
     .op (.un 16 .not (.t 15)),
     .op (.mv 17 (.t 16)),
     .sc false 24 17 [.op (.mv 18 (.t 1)), .op (.mv 19 (.t 0)), .op (.mv 20 (.t 7)), .op (.ixs 21 (.t 19) (.t 20) 1), .op (.ld 22 (.t 21) 1 false), .op (.bin 23 .lss (.t 18) (.t 22))] (.t 23)])
   (.ite (.t 24)
     ((.seq (.reg [.op (.mv 25 (.t 5)),
       .op (.mv 26 (.t 1)),
       .op (.buildSl 27 1 1 [(.i .i64 0)] [(0, (.t 26))] true),
       .op (.app 28 (.t 25) (.t 27) 1),
       .op (.mv 5 (.t 28))])
     (.reg [.op (.mv 6 (.k (.b true)))])))
     (.skip))))
   (.reg [.op (.mv 29 (.t 5)),
     .op (.mv 30 (.t 0)),
     .op (.mv 31 (.t 7)),
     .op (.ixs 32 (.t 30) (.t 31) 1),
     .op (.ld 33 (.t 32) 1 false),
     .op (.buildSl 34 1 1 [(.i .i64 0)] [(0, (.t 33))] true),
     .op (.app 35 (.t 29) (.t 34) 1),
     .op (.mv 5 (.t 35))]))))
  (.reg [.op (.mv 13 (.t 7)),
    .op (.bin 14 .add (.t 13) (.k (.i .i64 1))),
    .op (.mv 7 (.t 14))]))))

/-- nursery/nurseryref17.with -/
def F_nurseryref17_with : F := .mk
  ((.seq (.reg [.op (.mv 4 (.k (.sl 1 true [])))])
  ((.seq (.reg [.op (.buildSl 8 1 0 [(.i .i64 0)] [] false),
    .op (.mv 5 (.t 8))])
  ((.seq (.reg [.op (.mv 6 (.k (.b false)))])
  ((.seq ((.seq (.reg [.op (.mv 7 (.k (.i .i64 0)))])
  (.blk 0 (.loop [0, 1, 5, 6, 7] F_nurseryref17_with_L0))))
  ((.seq ((.seq (.reg [.op (.mv 36 (.t 6)),
    .op (.un 37 .not (.t 36))])
  (.ite (.t 37)
    (.reg [.op (.mv 38 (.t 5)),
      .op (.mv 39 (.t 1)),
      .op (.buildSl 40 1 1 [(.i .i64 0)] [(0, (.t 39))] true),
      .op (.app 41 (.t 38) (.t 40) 1),
      .op (.mv 5 (.t 41))])
    (.skip))))
  ((.seq (.reg [.op (.mv 42 (.t 5)),
    .op (.mv 4 (.t 42))])
  (.ret)))))))))))))
  [.t 4] false none

def F_nurseryref17_without_L0 : C :=
  (.seq ((.seq (.reg [.op (.mv 8 (.t 6)),
    .op (.mv 9 (.t 0)),
    .op (.len 10 (.t 9) .sl),
    .op (.bin 11 .lss (.t 8) (.t 10))])
  (.ite (.t 11)
    (.skip)
    (.seq (.keep [5]) (.exit 0)))))
  ((.seq (.blk 1 ((.seq (.reg [.op (.mv 14 (.t 0)),
     .op (.mv 15 (.t 6)),
     .op (.ixs 16 (.t 14) (.t 15) 1),
     .op (.ld 17 (.t 16) 1 false),
     .op (.mv 18 (.t 1)),
     .op (.bin 19 .neq (.t 17) (.t 18))])
   (.ite (.t 19)
     (.reg [.op (.mv 20 (.t 5)),
       .op (.mv 21 (.t 0)),
       .op (.mv 22 (.t 6)),
       .op (.ixs 23 (.t 21) (.t 22) 1),
       .op (.ld 24 (.t 23) 1 false),
       .op (.buildSl 25 1 1 [(.i .i64 0)] [(0, (.t 24))] true),
       .op (.app 26 (.t 20) (.t 25) 1),
       .op (.mv 5 (.t 26))])
     (.skip)))))
  (.reg [.op (.mv 12 (.t 6)),
    .op (.bin 13 .add (.t 12) (.k (.i .i64 1))),
    .op (.mv 6 (.t 13))]))))

/-- nursery/nurseryref17.without -/
def F_nurseryref17_without : F := .mk
  ((.seq (.reg [.op (.mv 4 (.k (.sl 1 true [])))])
  ((.seq (.reg [.op (.buildSl 7 1 0 [(.i .i64 0)] [] false),
    .op (.mv 5 (.t 7))])
  ((.seq ((.seq (.reg [.op (.mv 6 (.k (.i .i64 0)))])
  (.blk 0 (.loop [0, 1, 5, 6] F_nurseryref17_without_L0))))
  ((.seq (.reg [.op (.mv 27 (.t 5)),
    .op (.mv 4 (.t 27))])
  (.ret)))))))))
  [.t 4] false none

def F_nurseryref07_Same_L0 : C :=
  (.seq ((.seq (.reg [.op (.mv 11 (.t 5)),
    .op (.mv 12 (.t 0)),
    .op (.len 13 (.t 12) .sl),
    .op (.bin 14 .lss (.t 11) (.t 13))])
  (.ite (.t 14)
    (.skip)
    (.seq (.keep []) (.exit 0)))))
  ((.seq (.blk 1 ((.seq (.drw [] [0, 1, 2, 3, 4, 5, 6, 7, 8] [.op (.mv 17 (.t 0)),
     .op (.mv 18 (.t 5)),
     .op (.ixs 19 (.t 17) (.t 18) 5),
     .op (.ld 20 (.t 19) 5 true),
     .op (.mv 21 (.t 1)),
     .op (.mv 22 (.t 5)),
     .op (.ixs 23 (.t 21) (.t 22) 5),
     .op (.ld 24 (.t 23) 5 true),
     .op (.eqv 25 true (.t 20) (.t 24) [.i, .i, .i, .i, .i])])
   (.ite (.t 25)
     ((.seq (.reg [.op (.mv 4 (.k (.b false)))])
     (.seq (.keep [4]) .ret)))
     (.skip)))))
  (.reg [.op (.mv 15 (.t 5)),
    .op (.bin 16 .add (.t 15) (.k (.i .i64 1))),
    .op (.mv 5 (.t 16))]))))

/-- nursery/nurseryref07.Same -/
def F_nurseryref07_Same : F := .mk
  ((.seq (.reg [.op (.mv 4 (.k (.b false)))])
  ((.seq ((.seq (.reg [.op (.mv 6 (.t 0)),
    .op (.len 7 (.t 6) .sl),
    .op (.mv 8 (.t 1)),
    .op (.len 9 (.t 8) .sl),
    .op (.bin 10 .neq (.t 7) (.t 9))])
  (.ite (.t 10)
    ((.seq (.reg [.op (.mv 4 (.k (.b false)))])
    (.ret)))
    (.skip))))
  ((.seq ((.seq (.reg [.op (.mv 5 (.k (.i .i64 0)))])
  (.blk 0 (.loop [0, 1, 5] F_nurseryref07_Same_L0))))
  ((.seq (.reg [.op (.mv 4 (.k (.b true)))])
  (.ret)))))))))
  [.t 4] false none

def F_nurseryref01_Same_L0 : C :=
  (.seq ((.seq (.reg [.op (.mv 11 (.t 5)),
    .op (.mv 12 (.t 0)),
    .op (.len 13 (.t 12) .sl),
    .op (.bin 14 .lss (.t 11) (.t 13))])
  (.ite (.t 14)
    (.skip)
    (.seq (.keep []) (.exit 0)))))
  ((.seq (.blk 1 ((.seq (.drw [] [0, 1, 2, 3, 4, 5, 6, 7, 8] [.op (.mv 17 (.t 0)),
     .op (.mv 18 (.t 5)),
     .op (.ixs 19 (.t 17) (.t 18) 1),
     .op (.ld 20 (.t 19) 1 false),
     .op (.mv 21 (.t 1)),
     .op (.mv 22 (.t 5)),
     .op (.ixs 23 (.t 21) (.t 22) 1),
     .op (.ld 24 (.t 23) 1 false),
     .op (.bin 25 .neq (.t 20) (.t 24))])
   (.ite (.t 25)
     ((.seq (.reg [.op (.mv 4 (.k (.b false)))])
     (.seq (.keep [4]) .ret)))
     (.skip)))))
  (.reg [.op (.mv 15 (.t 5)),
    .op (.bin 16 .add (.t 15) (.k (.i .i64 1))),
    .op (.mv 5 (.t 16))]))))

/-- nursery/nurseryref01.Same -/
def F_nurseryref01_Same : F := .mk
  ((.seq (.reg [.op (.mv 4 (.k (.b false)))])
  ((.seq ((.seq (.reg [.op (.mv 6 (.t 0)),
    .op (.len 7 (.t 6) .sl),
    .op (.mv 8 (.t 1)),
    .op (.len 9 (.t 8) .sl),
    .op (.bin 10 .neq (.t 7) (.t 9))])
  (.ite (.t 10)
    ((.seq (.reg [.op (.mv 4 (.k (.b false)))])
    (.ret)))
    (.skip))))
  ((.seq ((.seq (.reg [.op (.mv 5 (.k (.i .i64 0)))])
  (.blk 0 (.loop [0, 1, 5] F_nurseryref01_Same_L0))))
  ((.seq (.reg [.op (.mv 4 (.k (.b true)))])
  (.ret)))))))))
  [.t 4] false none

def F_nurseryref17_valid_L0 : C :=
  (.seq ((.seq (.reg [.op (.mv 47 (.t 3)),
    .op (.fa 48 (.t 1) 3 1),
    .op (.ld 49 (.t 48) 1 false),
    .op (.len 50 (.t 49) .sl),
    .op (.bin 51 .lss (.t 47) (.t 50))])
  (.ite (.t 51)
    (.skip)
    (.seq (.keep [1]) (.exit 0)))))
  ((.seq (.blk 1 ((.seq (.drw [] [0, 1, 2, 3, 4, 5, 6, 7, 8, 9, 10, 11, 12, 13, 14, 15, 16, 17, 18, 19, 20, 21, 22, 23, 24, 25, 26, 27, 28, 29] [.op (.fad 54 (.t 1) 3 1),
     .op (.ldd 55 (.t 54) 1 false),
     .op (.mv 56 (.t 3)),
     .op (.ixs 57 (.t 55) (.t 56) 1),
     .op (.ld 58 (.t 57) 1 false),
     .op (.call (some 59) nurseryref17_IsTask [(.t 58)]),
     .op (.un 60 .not (.t 59)),
     .op (.mv 61 (.t 60)),
     .sc true 78 61 [.op (.mv 62 (.t 3)), .op (.bin 63 .gtr (.t 62) (.k (.i .i64 0))), .op (.mv 64 (.t 63)), .sc false 77 64 [.op (.fad 65 (.t 1) 3 1), .op (.ldd 66 (.t 65) 1 false), .op (.mv 67 (.t 3)), .op (.bin 68 .sub (.t 67) (.k (.i .i64 1))), .op (.ixs 69 (.t 66) (.t 68) 1), .op (.ld 70 (.t 69) 1 false), .op (.fad 71 (.t 1) 3 1), .op (.ldd 72 (.t 71) 1 false), .op (.mv 73 (.t 3)), .op (.ixs 74 (.t 72) (.t 73) 1), .op (.ld 75 (.t 74) 1 false), .op (.bin 76 .geq (.t 70) (.t 75))] (.t 76)] (.t 77),
     .op (.mv 79 (.t 78)),
     .sc true 83 79 [.op (.fad 80 (.t 1) 0 1), .op (.ldd 81 (.t 80) 1 false), .op (.bin 82 .geq (.t 81) (.k (.i .i64 0)))] (.t 82)])
   (.ite (.t 83)
     ((.seq (.reg [.op (.mv 2 (.k (.b false)))])
     (.seq (.keep [2]) .ret)))
     (.skip)))))
  (.reg [.op (.mv 52 (.t 3)),
    .op (.bin 53 .add (.t 52) (.k (.i .i64 1))),
    .op (.mv 3 (.t 53))]))))

def F_nurseryref17_valid_L1 : C :=
  (.seq ((.seq (.reg [.op (.mv 125 (.t 6)),
    .op (.mv 126 (.t 4)),
    .op (.bin 127 .lss (.t 125) (.t 126))])
  (.ite (.t 127)
    (.skip)
    (.seq (.keep [1, 4]) (.exit 4)))))
  ((.seq (.blk 5 ((.seq (.drw [] [0, 1, 2, 3, 4, 5, 6, 7, 8] [.op (.fad 130 (.t 1) 4 1),
     .op (.ldd 131 (.t 130) 1 false),
     .op (.mv 132 (.t 6)),
     .op (.ixs 133 (.t 131) (.t 132) 5),
     .op (.fa 134 (.t 133) 0 1),
     .op (.ld 135 (.t 134) 1 false),
     .op (.fad 136 (.t 5) 0 1),
     .op (.ldd 137 (.t 136) 1 false),
     .op (.bin 138 .eql (.t 135) (.t 137))])
   (.ite (.t 138)
     ((.seq (.reg [.op (.mv 2 (.k (.b false)))])
     (.seq (.keep [2]) .ret)))
     (.skip)))))
  (.reg [.op (.mv 128 (.t 6)),
    .op (.bin 129 .add (.t 128) (.k (.i .i64 1))),
    .op (.mv 6 (.t 129))]))))

def F_nurseryref17_valid_L2 : C :=
  (.seq ((.seq (.reg [.op (.mv 88 (.t 4)),
    .op (.fa 89 (.t 1) 4 1),
    .op (.ld 90 (.t 89) 1 false),
    .op (.len 91 (.t 90) .sl),
    .op (.bin 92 .lss (.t 88) (.t 91))])
  (.ite (.t 92)
    (.skip)
    (.seq (.keep []) (.exit 2)))))
  ((.seq (.blk 3 ((.seq (.reg [.op (.fa 95 (.t 1) 4 1),
     .op (.ld 96 (.t 95) 1 false),
     .op (.mv 97 (.t 4)),
     .op (.ixs 98 (.t 96) (.t 97) 5),
     .op (.ld 99 (.t 98) 5 true),
     .op (.new 5 [(.i .i64 0), (.i .i64 0), (.i .i64 0), (.i .i64 0), (.i .i64 0)]),
     .op (.st (.t 5) (.t 99) 5 true)])
   ((.seq ((.seq (.reg [.op (.fa 100 (.t 5) 1 1),
     .op (.ld 101 (.t 100) 1 false),
     .op (.bin 102 .neq (.t 101) (.k (.i .i64 53))),
     .op (.mv 103 (.t 102)),
     .sc false 107 103 [.op (.fa 104 (.t 5) 1 1), .op (.ld 105 (.t 104) 1 false), .op (.bin 106 .neq (.t 105) (.k (.i .i64 55)))] (.t 106),
     .op (.mv 108 (.t 107)),
     .sc true 112 108 [.op (.fa 109 (.t 5) 2 1), .op (.ld 110 (.t 109) 1 false), .op (.bin 111 .neq (.t 110) (.k (.i .i64 0)))] (.t 111),
     .op (.mv 113 (.t 112)),
     .sc true 117 113 [.op (.fa 114 (.t 5) 4 1), .op (.ld 115 (.t 114) 1 false), .op (.bin 116 .neq (.t 115) (.k (.i .i64 (-1))))] (.t 116),
     .op (.mv 118 (.t 117)),
     .sc true 124 118 [.op (.ld 119 (.t 1) 9 true), .op (.fa 120 (.t 5) 0 1), .op (.ld 121 (.t 120) 1 false), .op (.call (some 122) nurseryref17_Holds [(.t 119), (.t 121)]), .op (.bin 123 .neq (.t 122) (.k (.i .i64 0)))] (.t 123)])
   (.ite (.t 124)
     ((.seq (.reg [.op (.mv 2 (.k (.b false)))])
     (.seq (.keep [2]) .ret)))
     (.skip))))
   ((.seq (.reg [.op (.mv 6 (.k (.i .i64 0)))])
   (.blk 4 (.loop [1, 4, 5, 6] F_nurseryref17_valid_L1)))))))))
  (.reg [.op (.mv 93 (.t 4)),
    .op (.bin 94 .add (.t 93) (.k (.i .i64 1))),
    .op (.mv 4 (.t 94))]))))

/-- nursery/nurseryref17.valid -/
def F_nurseryref17_valid : F := .mk
  ((.seq (.reg [.op (.box 1 (.t 0) 9 true),
    .op (.mv 2 (.k (.b false)))])
  ((.seq ((.seq (.reg [.op (.fa 7 (.t 1) 0 1),
    .op (.ld 8 (.t 7) 1 false),
    .op (.bin 9 .neq (.t 8) (.k (.i .i64 (-1)))),
    .op (.mv 10 (.t 9)),
    .sc false 15 10 [.op (.fa 11 (.t 1) 0 1), .op (.ld 12 (.t 11) 1 false), .op (.call (some 13) nurseryref17_IsTask [(.t 12)]), .op (.un 14 .not (.t 13))] (.t 14),
    .op (.mv 16 (.t 15)),
    .sc true 20 16 [.op (.fa 17 (.t 1) 1 1), .op (.ld 18 (.t 17) 1 false), .op (.bin 19 .neq (.t 18) (.k (.i .i64 0)))] (.t 19),
    .op (.mv 21 (.t 20)),
    .sc true 25 21 [.op (.fa 22 (.t 1) 2 1), .op (.ld 23 (.t 22) 1 false), .op (.bin 24 .neq (.t 23) (.k (.i .i64 0)))] (.t 24),
    .op (.mv 26 (.t 25)),
    .sc true 31 26 [.op (.fa 27 (.t 1) 5 1), .op (.ld 28 (.t 27) 1 false), .op (.len 29 (.t 28) .sl), .op (.bin 30 .gtr (.t 29) (.k (.i .i64 0)))] (.t 30),
    .op (.mv 32 (.t 31)),
    .sc true 37 32 [.op (.fa 33 (.t 1) 6 1), .op (.ld 34 (.t 33) 1 false), .op (.len 35 (.t 34) .sl), .op (.bin 36 .gtr (.t 35) (.k (.i .i64 0)))] (.t 36),
    .op (.mv 38 (.t 37)),
    .sc true 41 38 [.op (.fa 39 (.t 1) 7 1), .op (.ld 40 (.t 39) 1 false)] (.t 40),
    .op (.mv 42 (.t 41)),
    .sc true 46 42 [.op (.fa 43 (.t 1) 8 1), .op (.ld 44 (.t 43) 1 false), .op (.bin 45 .neq (.t 44) (.k (.i .i64 0)))] (.t 45)])
  (.ite (.t 46)
    ((.seq (.reg [.op (.mv 2 (.k (.b false)))])
    (.ret)))
    (.skip))))
  ((.seq ((.seq (.reg [.op (.mv 3 (.k (.i .i64 0)))])
  (.blk 0 (.loop [1, 3] F_nurseryref17_valid_L0))))
  ((.seq ((.seq (.reg [.op (.fa 84 (.t 1) 4 1),
    .op (.ld 85 (.t 84) 1 false),
    .op (.call (some 86) nurseryref07_Check [(.k (.i .i64 1)), (.t 85)]),
    .op (.bin 87 .neq (.t 86) (.k (.i .i64 0)))])
  (.ite (.t 87)
    ((.seq (.reg [.op (.mv 2 (.k (.b false)))])
    (.ret)))
    (.skip))))
  ((.seq ((.seq (.reg [.op (.mv 4 (.k (.i .i64 0)))])
  (.blk 2 (.loop [1, 4] F_nurseryref17_valid_L2))))
  ((.seq (.reg [.op (.mv 2 (.k (.b true)))])
  (.ret)))))))))))))
  [.t 2] false none

/-- nursery/nurseryref17.vain -/
def F_nurseryref17_vain : F := .mk
  ((.seq (.reg [.op (.box 1 (.t 0) 9 false),
    .op (.mv 2 (.k (.b false)))])
  ((.seq ((.seq (.reg [.op (.fa 3 (.t 1) 4 1),
    .op (.ld 4 (.t 3) 1 false),
    .op (.len 5 (.t 4) .sl),
    .op (.bin 6 .eql (.t 5) (.k (.i .i64 0)))])
  (.ite (.t 6)
    ((.seq (.reg [.op (.mv 2 (.k (.b false)))])
    (.ret)))
    (.skip))))
  ((.seq ((.seq (.reg [.op (.fa 7 (.t 1) 4 1),
    .op (.ld 8 (.t 7) 1 false),
    .op (.ixs 9 (.t 8) (.k (.i .i64 0)) 5),
    .op (.fa 10 (.t 9) 1 1),
    .op (.ld 11 (.t 10) 1 false),
    .op (.bin 12 .eql (.t 11) (.k (.i .i64 53)))])
  (.ite (.t 12)
    ((.seq (.reg [.op (.fa 13 (.t 1) 0 1),
      .op (.ld 14 (.t 13) 1 false),
      .op (.bin 15 .lss (.t 14) (.k (.i .i64 0))),
      .op (.mv 2 (.t 15))])
    (.ret)))
    (.skip))))
  ((.seq (.reg [.op (.fa 16 (.t 1) 0 1),
    .op (.ld 17 (.t 16) 1 false),
    .op (.bin 18 .lss (.t 17) (.k (.i .i64 0))),
    .op (.mv 19 (.t 18)),
    .sc false 24 19 [.op (.fa 20 (.t 1) 3 1), .op (.ld 21 (.t 20) 1 false), .op (.len 22 (.t 21) .sl), .op (.bin 23 .eql (.t 22) (.k (.i .i64 0)))] (.t 23),
    .op (.mv 2 (.t 24))])
  (.ret)))))))))
  [.t 2] true none

def F_slices_IndexFunc_api_Waiter_api_Waiter_L0 : C :=
  (.seq (.reg [.op (.bin 9 .lss (.t 8) (.t 7))])
  ((.seq (.ite (.t 9)
    (.skip)
    (.seq (.keep []) (.exit 0)))
  ((.seq (.blk 1 ((.seq (.reg [.op (.mv 10 (.t 8)),
     .op (.mv 5 (.t 10))])
   ((.seq (.reg [.op (.mv 11 (.t 1)),
     .op (.mv 12 (.t 0)),
     .op (.mv 13 (.t 5)),
     .op (.ixs 14 (.t 12) (.t 13) 5),
     .op (.ld 15 (.t 14) 5 true),
     .op (.callv (some 16) (.t 11) [(.t 15)])])
   (.ite (.t 16)
     ((.seq (.reg [.op (.mv 17 (.t 5)),
       .op (.mv 4 (.t 17))])
     (.seq (.keep [4]) .ret)))
     (.skip)))))))
  (.reg [.op (.bin 18 .add (.t 8) (.k (.i .i64 1))),
    .op (.mv 8 (.t 18))]))))))

/-- slices.IndexFunc[[]nursery/api.Waiter,nursery/api.Waiter] -/
def F_slices_IndexFunc_api_Waiter_api_Waiter : F := .mk
  ((.seq (.reg [.op (.mv 4 (.k (.i .i64 0)))])
  ((.seq ((.seq (.reg [.op (.mv 6 (.t 0)),
    .op (.len 7 (.t 6) .sl),
    .op (.mv 8 (.k (.i .i64 0)))])
  (.blk 0 (.loop [0, 1, 7, 8] F_slices_IndexFunc_api_Waiter_api_Waiter_L0))))
  ((.seq (.reg [.op (.mv 4 (.k (.i .i64 (-1))))])
  (.ret)))))))
  [.t 4] false none

/-- slices.Clone[[]int,int] -/
def F_slices_Clone_int_int : F := .mk
  ((.seq (.reg [.op (.mv 2 (.k (.sl 1 true [])))])
  ((.seq ((.seq (.reg [.op (.mv 3 (.t 0)),
    .op (.isnil 4 false (.t 3) .sl)])
  (.ite (.t 4)
    ((.seq (.reg [.op (.mv 2 (.k (.sl 1 true [])))])
    (.ret)))
    (.skip))))
  ((.seq (.reg [.op (.buildSl 5 1 0 [(.i .i64 0)] [] false),
    .op (.mv 6 (.t 0)),
    .op (.app 7 (.t 5) (.t 6) 1),
    .op (.mv 2 (.t 7))])
  (.ret)))))))
  [.t 2] true none

/-- slices.Clone[[]nursery/api.Waiter,nursery/api.Waiter] -/
def F_slices_Clone_api_Waiter_api_Waiter : F := .mk
  ((.seq (.reg [.op (.mv 2 (.k (.sl 5 true [])))])
  ((.seq ((.seq (.reg [.op (.mv 3 (.t 0)),
    .op (.isnil 4 false (.t 3) .sl)])
  (.ite (.t 4)
    ((.seq (.reg [.op (.mv 2 (.k (.sl 5 true [])))])
    (.ret)))
    (.skip))))
  ((.seq (.reg [.op (.buildSl 5 5 0 [(.i .i64 0), (.i .i64 0), (.i .i64 0), (.i .i64 0), (.i .i64 0)] [] false),
    .op (.mv 6 (.t 0)),
    .op (.app 7 (.t 5) (.t 6) 5),
    .op (.mv 2 (.t 7))])
  (.ret)))))))
  [.t 2] true none

def F_waitlist_filter_L0 : C :=
  (.seq (.reg [.op (.bin 11 .lss (.t 10) (.t 9))])
  ((.seq (.ite (.t 11)
    (.skip)
    (.seq (.keep [5]) (.exit 0)))
  ((.seq (.blk 1 ((.seq (.reg [.op (.ixs 12 (.t 8) (.t 10) 5),
     .op (.ld 13 (.t 12) 5 true),
     .op (.new 7 [(.i .i64 0), (.i .i64 0), (.i .i64 0), (.i .i64 0), (.i .i64 0)]),
     .op (.st (.t 7) (.t 13) 5 true)])
   ((.seq (.reg [.op (.mv 14 (.t 1)),
     .op (.ld 15 (.t 7) 5 true),
     .op (.callv (some 16) (.t 14) [(.t 15)])])
   (.ite (.t 16)
     (.reg [.op (.mv 17 (.t 5)),
       .op (.ld 18 (.t 7) 5 true),
       .op (.buildSl 19 5 1 [(.i .i64 0), (.i .i64 0), (.i .i64 0), (.i .i64 0), (.i .i64 0)] [(0, (.t 18))] true),
       .op (.app 20 (.t 17) (.t 19) 5),
       .op (.mv 5 (.t 20))])
     (.skip)))))))
  (.reg [.op (.bin 21 .add (.t 10) (.k (.i .i64 1))),
    .op (.mv 10 (.t 21))]))))))

/-- nursery/waitlist.filter -/
def F_waitlist_filter : F := .mk
  ((.seq (.reg [.op (.mv 4 (.k (.sl 5 true [])))])
  ((.seq (.reg [.op (.mv 5 (.k (.sl 5 true [])))])
  ((.seq ((.seq (.reg [.op (.mv 8 (.t 0)),
    .op (.len 9 (.t 8) .sl),
    .op (.mv 10 (.k (.i .i64 0)))])
  (.blk 0 (.loop [1, 5, 8, 9, 10] F_waitlist_filter_L0))))
  ((.seq (.reg [.op (.mv 22 (.t 5)),
    .op (.mv 4 (.t 22))])
  (.ret)))))))))
  [.t 4] true none

/-- nursery/waitlist.Remove$1 -/
def F_waitlist_RemoveC1 : F := .mk
  ((.seq (.reg [.op (.box 2 (.t 0) 5 true),
    .op (.mv 3 (.k (.b false)))])
  ((.seq (.reg [.op (.fa 4 (.t 2) 0 1),
    .op (.ld 5 (.t 4) 1 false),
    .op (.ld 6 (.t 1) 1 false),
    .op (.bin 7 .neq (.t 5) (.t 6)),
    .op (.mv 3 (.t 7))])
  (.ret)))))
  [.t 3] false none

/-- (*nursery/rwlock.lock).grant -/
def F_rwlock_lock_grant : F := .mk
  ((.seq ((.seq (.reg [.op (.mv 8 (.t 2)),
    .op (.bin 9 .eql (.t 8) (.k (.i .i64 55)))])
  (.ite (.t 9)
    ((.seq (.reg [.op (.mv 10 (.t 0)),
      .op (.mv 11 (.t 1)),
      .op (.nck 12 (.t 10)),
      .op (.fa 13 (.t 12) 0 9),
      .op (.fa 14 (.t 13) 0 1),
      .op (.st (.t 14) (.t 11) 1 false)])
    (.ret)))
    (.skip))))
  ((.seq (.reg [.op (.mv 16 (.t 0)),
    .op (.nck 17 (.t 16)),
    .op (.fa 18 (.t 17) 0 9),
    .op (.fa 19 (.t 18) 3 1),
    .op (.ld 20 (.t 19) 1 false),
    .op (.mv 21 (.t 1)),
    .op (.callr (some 22) slices_BinarySearch_int_int [(.t 20), (.t 21)]),
    .op (.mv 15 (.t 22)),
    .op (.ext 23 (.t 15) 0),
    .op (.ext 24 (.t 15) 1),
    .op (.mv 6 (.t 23)),
    .op (.mv 7 (.t 24))])
  (.reg [.op (.mv 25 (.t 0)),
    .op (.mv 26 (.t 0)),
    .op (.nck 27 (.t 26)),
    .op (.fa 28 (.t 27) 0 9),
    .op (.fa 29 (.t 28) 3 1),
    .op (.ld 30 (.t 29) 1 false),
    .op (.mv 31 (.t 6)),
    .op (.mv 32 (.t 1)),
    .op (.buildSl 33 1 1 [(.i .i64 0)] [(0, (.t 32))] true),
    .op (.callr (some 34) slices_Insert_int_int [(.t 30), (.t 31), (.t 33)]),
    .op (.nck 35 (.t 25)),
    .op (.fa 36 (.t 35) 0 9),
    .op (.fa 37 (.t 36) 3 1),
    .op (.st (.t 37) (.t 34) 1 false)])))))
  [] true none

/-- slices.Contains[[]int,int] -/
def F_slices_Contains_int_int : F := .mk
  ((.seq (.reg [.op (.mv 4 (.k (.b false)))])
  ((.seq (.reg [.op (.mv 5 (.t 0)),
    .op (.mv 6 (.t 1)),
    .op (.call (some 7) slices_Index_int_int [(.t 5), (.t 6)]),
    .op (.bin 8 .geq (.t 7) (.k (.i .i64 0))),
    .op (.mv 4 (.t 8))])
  (.ret)))))
  [.t 4] false none

def F_rwlock_queued_L0 : C :=
  (.seq (.reg [.op (.bin 16 .lss (.t 15) (.t 14))])
  ((.seq (.ite (.t 16)
    (.skip)
    (.seq (.keep [1]) (.exit 0)))
  ((.seq (.blk 1 ((.seq (.reg [.op (.mv 17 (.t 15)),
     .op (.ixs 18 (.t 13) (.t 15) 5),
     .op (.ld 19 (.t 18) 5 true),
     .op (.new 4 [(.i .i64 0), (.i .i64 0), (.i .i64 0), (.i .i64 0), (.i .i64 0)]),
     .op (.mv 3 (.t 17)),
     .op (.st (.t 4) (.t 19) 5 true)])
   ((.seq (.reg [.op (.fa 21 (.t 1) 4 1),
     .op (.ld 22 (.t 21) 1 false),
     .op (.fa 23 (.t 4) 0 1),
     .op (.ld 24 (.t 23) 1 false),
     .op (.call (some 25) waitlist_Find [(.t 22), (.t 24)]),
     .op (.mv 20 (.t 25)),
     .op (.ext 26 (.t 20) 0),
     .op (.ext 27 (.t 20) 1),
     .op (.mv 5 (.t 26)),
     .op (.mv 6 (.t 27))])
   ((.seq (.reg [.op (.mv 28 (.t 5)),
     .op (.mv 29 (.t 3)),
     .op (.bin 30 .neq (.t 28) (.t 29)),
     .op (.mv 31 (.t 30)),
     .sc true 40 31 [.op (.fa 32 (.t 4) 1 1), .op (.ld 33 (.t 32) 1 false), .op (.bin 34 .neq (.t 33) (.k (.i .i64 53))), .op (.mv 35 (.t 34)), .sc false 39 35 [.op (.fa 36 (.t 4) 1 1), .op (.ld 37 (.t 36) 1 false), .op (.bin 38 .neq (.t 37) (.k (.i .i64 55)))] (.t 38)] (.t 39),
     .op (.mv 41 (.t 40)),
     .sc true 45 41 [.op (.fa 42 (.t 4) 2 1), .op (.ld 43 (.t 42) 1 false), .op (.bin 44 .neq (.t 43) (.k (.i .i64 0)))] (.t 44),
     .op (.mv 46 (.t 45)),
     .sc true 50 46 [.op (.fa 47 (.t 4) 4 1), .op (.ld 48 (.t 47) 1 false), .op (.bin 49 .neq (.t 48) (.k (.i .i64 (-1))))] (.t 49),
     .op (.mv 51 (.t 50)),
     .sc true 57 51 [.op (.ld 52 (.t 1) 9 true), .op (.fa 53 (.t 4) 0 1), .op (.ld 54 (.t 53) 1 false), .op (.call (some 55) rwlock_holds [(.t 52), (.t 54)]), .op (.bin 56 .neq (.t 55) (.k (.i .i64 0)))] (.t 56)])
   (.ite (.t 57)
     ((.seq (.reg [.op (.mv 2 (.k (.b false)))])
     (.seq (.keep [2]) .ret)))
     (.skip)))))))))
  (.reg [.op (.bin 58 .add (.t 15) (.k (.i .i64 1))),
    .op (.mv 15 (.t 58))]))))))

/-- nursery/rwlock.queued -/
def F_rwlock_queued : F := .mk
  ((.seq (.reg [.op (.box 1 (.t 0) 9 true),
    .op (.mv 2 (.k (.b false)))])
  ((.seq ((.seq (.reg [.op (.fa 8 (.t 1) 4 1),
    .op (.ld 9 (.t 8) 1 false),
    .op (.call (some 10) waitlist_Check [(.k (.i .i64 1)), (.t 9)]),
    .op (.bin 11 .neq (.t 10) (.k (.i .i64 0)))])
  (.ite (.t 11)
    ((.seq (.reg [.op (.mv 2 (.k (.b false)))])
    (.ret)))
    (.skip))))
  ((.seq ((.seq (.reg [.op (.fa 12 (.t 1) 4 1),
    .op (.ld 13 (.t 12) 1 false),
    .op (.len 14 (.t 13) .sl),
    .op (.mv 15 (.k (.i .i64 0)))])
  (.blk 0 (.loop [1, 13, 14, 15] F_rwlock_queued_L0))))
  ((.seq ((.seq (.reg [.op (.fa 59 (.t 1) 4 1),
    .op (.ld 60 (.t 59) 1 false),
    .op (.len 61 (.t 60) .sl),
    .op (.bin 62 .eql (.t 61) (.k (.i .i64 0)))])
  (.ite (.t 62)
    ((.seq (.reg [.op (.mv 2 (.k (.b true)))])
    (.ret)))
    (.skip))))
  ((.seq (.reg [.op (.ld 63 (.t 1) 9 true),
    .op (.callk (some 64) rwlock_changed [(.t 63)]),
    .op (.mv 7 (.t 64))])
  ((.seq (.reg [.op (.mv 65 (.t 7)),
    .op (.callr (some 66) rwlock_lock_serve [(.t 65)])])
  ((.seq (.reg [.op (.mv 67 (.t 7)),
    .op (.nck 68 (.t 67)),
    .op (.fa 69 (.t 68) 9 1),
    .op (.ld 70 (.t 69) 1 false),
    .op (.len 71 (.t 70) .sl),
    .op (.bin 72 .eql (.t 71) (.k (.i .i64 0))),
    .op (.mv 2 (.t 72))])
  (.ret)))))))))))))))
  [.t 2] false none

def F_slices_IndexFunc_int_int_L0 : C :=
  (.seq (.reg [.op (.bin 9 .lss (.t 8) (.t 7))])
  ((.seq (.ite (.t 9)
    (.skip)
    (.seq (.keep []) (.exit 0)))
  ((.seq (.blk 1 ((.seq (.reg [.op (.mv 10 (.t 8)),
     .op (.mv 5 (.t 10))])
   ((.seq (.reg [.op (.mv 11 (.t 1)),
     .op (.mv 12 (.t 0)),
     .op (.mv 13 (.t 5)),
     .op (.ixs 14 (.t 12) (.t 13) 1),
     .op (.ld 15 (.t 14) 1 false),
     .op (.callv (some 16) (.t 11) [(.t 15)])])
   (.ite (.t 16)
     ((.seq (.reg [.op (.mv 17 (.t 5)),
       .op (.mv 4 (.t 17))])
     (.seq (.keep [4]) .ret)))
     (.skip)))))))
  (.reg [.op (.bin 18 .add (.t 8) (.k (.i .i64 1))),
    .op (.mv 8 (.t 18))]))))))

/-- slices.IndexFunc[[]int,int] -/
def F_slices_IndexFunc_int_int : F := .mk
  ((.seq (.reg [.op (.mv 4 (.k (.i .i64 0)))])
  ((.seq ((.seq (.reg [.op (.mv 6 (.t 0)),
    .op (.len 7 (.t 6) .sl),
    .op (.mv 8 (.k (.i .i64 0)))])
  (.blk 0 (.loop [0, 1, 7, 8] F_slices_IndexFunc_int_int_L0))))
  ((.seq (.reg [.op (.mv 4 (.k (.i .i64 (-1))))])
  (.ret)))))))
  [.t 4] true none

/-- nursery/nurseryref17.Caller -/
def F_nurseryref17_Caller : F := .mk
  ((.seq (.reg [.op (.box 1 (.t 0) 5 true),
    .op (.mv 2 (.k (.b false)))])
  ((.seq (.reg [.op (.fa 3 (.t 1) 0 1),
    .op (.ld 4 (.t 3) 1 false),
    .op (.call (some 5) nurseryref17_IsTask [(.t 4)]),
    .op (.mv 6 (.t 5)),
    .sc false 10 6 [.op (.fa 7 (.t 1) 3 1), .op (.ld 8 (.t 7) 1 false), .op (.bin 9 .geq (.t 8) (.k (.i .i64 0)))] (.t 9),
    .op (.mv 11 (.t 10)),
    .sc false 15 11 [.op (.fa 12 (.t 1) 3 1), .op (.ld 13 (.t 12) 1 false), .op (.bin 14 .leq (.t 13) (.k (.i .i64 9)))] (.t 14),
    .op (.mv 16 (.t 15)),
    .sc false 20 16 [.op (.fa 17 (.t 1) 4 1), .op (.ld 18 (.t 17) 1 false), .op (.bin 19 .geq (.t 18) (.k (.i .i64 0)))] (.t 19),
    .op (.mv 21 (.t 20)),
    .sc false 25 21 [.op (.fa 22 (.t 1) 4 1), .op (.ld 23 (.t 22) 1 false), .op (.bin 24 .leq (.t 23) (.k (.i .i64 1099511627776)))] (.t 24),
    .op (.mv 2 (.t 25))])
  (.ret)))))
  [.t 2] false none

/-- nursery/nurseryref17.IsTask -/
def F_nurseryref17_IsTask : F := .mk
  ((.seq (.reg [.op (.mv 2 (.k (.b false)))])
  ((.seq (.reg [.op (.mv 3 (.t 0)),
    .op (.bin 4 .geq (.t 3) (.k (.i .i64 0))),
    .op (.mv 5 (.t 4)),
    .sc false 8 5 [.op (.mv 6 (.t 0)), .op (.bin 7 .lss (.t 6) (.k (.i .i64 16)))] (.t 7),
    .op (.mv 2 (.t 8))])
  (.ret)))))
  [.t 2] false none

def F_nurseryref07_Check_L0 : C :=
  (.seq ((.seq (.reg [.op (.mv 15 (.t 5)),
    .op (.mv 16 (.t 1)),
    .op (.len 17 (.t 16) .sl),
    .op (.bin 18 .lss (.t 15) (.t 17))])
  (.ite (.t 18)
    (.skip)
    (.seq (.keep []) (.exit 0)))))
  ((.seq (.blk 1 ((.seq ((.seq (.reg [.op (.mv 21 (.t 1)),
     .op (.mv 22 (.t 5)),
     .op (.ixs 23 (.t 21) (.t 22) 5),
     .op (.ld 24 (.t 23) 5 true),
     .op (.call (some 25) nurseryref07_Valid [(.t 24)]),
     .op (.un 26 .not (.t 25))])
   (.ite (.t 26)
     ((.seq (.reg [.op (.mv 4 (.k (.i .i64 2)))])
     (.seq (.keep [4]) .ret)))
     (.skip))))
   ((.seq (.drw [] [0, 1, 2, 3, 4, 5, 6, 7, 8, 9, 10, 11, 12, 13, 14, 15, 16, 17, 18, 19] [.op (.mv 27 (.t 0)),
     .op (.bin 28 .eql (.t 27) (.k (.i .i64 2))),
     .op (.mv 29 (.t 28)),
     .sc false 32 29 [.op (.mv 30 (.t 5)), .op (.bin 31 .gtr (.t 30) (.k (.i .i64 0)))] (.t 31),
     .op (.mv 33 (.t 32)),
     .sc false 46 33 [.op (.mv 34 (.t 1)), .op (.mv 35 (.t 5)), .op (.ixs 36 (.t 34) (.t 35) 5), .op (.fa 37 (.t 36) 3 1), .op (.ld 38 (.t 37) 1 false), .op (.mv 39 (.t 1)), .op (.mv 40 (.t 5)), .op (.bin 41 .sub (.t 40) (.k (.i .i64 1))), .op (.ixs 42 (.t 39) (.t 41) 5), .op (.fa 43 (.t 42) 3 1), .op (.ld 44 (.t 43) 1 false), .op (.bin 45 .gtr (.t 38) (.t 44))] (.t 45)])
   (.ite (.t 46)
     ((.seq (.reg [.op (.mv 4 (.k (.i .i64 9)))])
     (.seq (.keep [4]) .ret)))
     (.skip)))))))
  (.reg [.op (.mv 19 (.t 5)),
    .op (.bin 20 .add (.t 19) (.k (.i .i64 1))),
    .op (.mv 5 (.t 20))]))))

/-- nursery/nurseryref07.Check -/
def F_nurseryref07_Check : F := .mk
  ((.seq (.reg [.op (.mv 4 (.k (.i .i64 0)))])
  ((.seq ((.seq (.reg [.op (.mv 6 (.t 0)),
    .op (.bin 7 .neq (.t 6) (.k (.i .i64 1))),
    .op (.mv 8 (.t 7)),
    .sc false 11 8 [.op (.mv 9 (.t 0)), .op (.bin 10 .neq (.t 9) (.k (.i .i64 2)))] (.t 10)])
  (.ite (.t 11)
    ((.seq (.reg [.op (.mv 4 (.k (.i .i64 8)))])
    (.ret)))
    (.skip))))
  ((.seq ((.seq (.reg [.op (.mv 12 (.t 1)),
    .op (.len 13 (.t 12) .sl),
    .op (.bin 14 .gtr (.t 13) (.k (.i .i64 96)))])
  (.ite (.t 14)
    ((.seq (.reg [.op (.mv 4 (.k (.i .i64 4)))])
    (.ret)))
    (.skip))))
  ((.seq ((.seq (.reg [.op (.mv 5 (.k (.i .i64 0)))])
  (.blk 0 (.loop [0, 1, 5] F_nurseryref07_Check_L0))))
  ((.seq (.reg [.op (.mv 4 (.k (.i .i64 0)))])
  (.ret)))))))))))
  [.t 4] false none

def F_slices_BinarySearch_int_int_L0 : C :=
  (.seq ((.seq (.reg [.op (.mv 13 (.t 7)),
    .op (.mv 14 (.t 8)),
    .op (.bin 15 .lss (.t 13) (.t 14))])
  (.ite (.t 15)
    (.skip)
    (.seq (.keep [0, 1, 6, 7]) (.exit 0)))))
  (.blk 1 ((.seq (.reg [.op (.mv 16 (.t 7)),
     .op (.mv 17 (.t 8)),
     .op (.bin 18 .add (.t 16) (.t 17)),
     .op (.cvi 19 .u64 (.t 18)),
     .op (.bin 20 .shr (.t 19) (.k (.i .u64 1))),
     .op (.cvi 21 .i64 (.t 20)),
     .op (.mv 9 (.t 21))])
   ((.seq (.reg [.op (.mv 22 (.t 0)),
     .op (.mv 23 (.t 9)),
     .op (.ixs 24 (.t 22) (.t 23) 1),
     .op (.ld 25 (.t 24) 1 false),
     .op (.mv 26 (.t 1)),
     .op (.call (some 27) cmp_Less_int [(.t 25), (.t 26)])])
   (.ite (.t 27)
     (.reg [.op (.mv 28 (.t 9)),
       .op (.bin 29 .add (.t 28) (.k (.i .i64 1))),
       .op (.mv 7 (.t 29))])
     (.reg [.op (.mv 30 (.t 9)),
       .op (.mv 8 (.t 30))]))))))))

/-- slices.BinarySearch[[]int,int] -/
def F_slices_BinarySearch_int_int : F := .mk
  ((.seq (.reg [.op (.mv 4 (.k (.i .i64 0))),
    .op (.mv 5 (.k (.b false)))])
  ((.seq (.reg [.op (.mv 10 (.t 0)),
    .op (.len 11 (.t 10) .sl),
    .op (.mv 6 (.t 11))])
  ((.seq (.reg [.op (.mv 12 (.t 6)),
    .op (.mv 7 (.k (.i .i64 0))),
    .op (.mv 8 (.t 12))])
  ((.seq (.blk 0 (.loop [0, 1, 6, 7, 8] F_slices_BinarySearch_int_int_L0))
  ((.seq (.reg [.op (.mv 31 (.t 7)),
    .op (.mv 32 (.t 7)),
    .op (.mv 33 (.t 6)),
    .op (.bin 34 .lss (.t 32) (.t 33)),
    .op (.mv 35 (.t 34)),
    .sc false 53 35 [.op (.mv 36 (.t 0)), .op (.mv 37 (.t 7)), .op (.ixs 38 (.t 36) (.t 37) 1), .op (.ld 39 (.t 38) 1 false), .op (.mv 40 (.t 1)), .op (.bin 41 .eql (.t 39) (.t 40)), .op (.mv 42 (.t 41)), .sc true 52 42 [.op (.mv 43 (.t 0)), .op (.mv 44 (.t 7)), .op (.ixs 45 (.t 43) (.t 44) 1), .op (.ld 46 (.t 45) 1 false), .op (.call (some 47) slices_isNaN_int [(.t 46)]), .op (.mv 48 (.t 47)), .sc false 51 48 [.op (.mv 49 (.t 1)), .op (.call (some 50) slices_isNaN_int [(.t 49)])] (.t 50)] (.t 51)] (.t 52),
    .op (.mv 4 (.t 31)),
    .op (.mv 5 (.t 53))])
  (.ret)))))))))))
  [.t 4, .t 5] true none

/-- slices.Insert[[]int,int] -/
def R_slices_Insert_int_int : F := .mk
  ((.seq (.reg [.op (.mv 6 (.k (.sl 1 true [])))])
  ((.seq (.reg [.op (.mv 10 (.t 0)),
    .op (.mv 11 (.t 1)),
    .op (.sl 12 (.t 10) (some (.t 11)) none 1)])
  ((.seq (.reg [.op (.mv 13 (.t 2)),
    .op (.len 14 (.t 13) .sl),
    .op (.mv 7 (.t 14))])
  ((.seq ((.seq (.reg [.op (.mv 15 (.t 7)),
    .op (.bin 16 .eql (.t 15) (.k (.i .i64 0)))])
  (.ite (.t 16)
    ((.seq (.reg [.op (.mv 17 (.t 0)),
      .op (.mv 6 (.t 17))])
    (.ret)))
    (.skip))))
  ((.seq (.reg [.op (.mv 18 (.t 0)),
    .op (.len 19 (.t 18) .sl),
    .op (.mv 8 (.t 19))])
  ((.seq ((.seq (.reg [.op (.mv 20 (.t 1)),
    .op (.mv 21 (.t 8)),
    .op (.bin 22 .eql (.t 20) (.t 21))])
  (.ite (.t 22)
    ((.seq (.reg [.op (.mv 23 (.t 0)),
      .op (.mv 24 (.t 2)),
      .op (.app 25 (.t 23) (.t 24) 1),
      .op (.mv 6 (.t 25))])
    (.ret)))
    (.skip))))
  ((.seq ((.seq (.reg [.op (.mv 26 (.t 8)),
    .op (.mv 27 (.t 7)),
    .op (.bin 28 .add (.t 26) (.t 27)),
    .op (.mv 29 (.t 0)),
    .op (.cap 30 (.t 29)),
    .op (.bin 31 .gtr (.t 28) (.t 30))])
  (.ite (.t 31)
    ((.seq (.reg [.op (.mv 32 (.t 0)),
      .op (.mv 33 (.t 1)),
      .op (.sl 34 (.t 32) none (some (.t 33)) 1),
      .op (.mv 35 (.t 8)),
      .op (.mv 36 (.t 7)),
      .op (.bin 37 .add (.t 35) (.t 36)),
      .op (.mv 38 (.t 1)),
      .op (.bin 39 .sub (.t 37) (.t 38)),
      .op (.appz 40 (.t 34) (.t 39) 1 [(.i .i64 0)]),
      .op (.mv 9 (.t 40))])
    ((.seq (.reg [.op (.mv 41 (.t 9)),
      .op (.mv 42 (.t 1)),
      .op (.sl 43 (.t 41) (some (.t 42)) none 1),
      .op (.mv 44 (.t 2)),
      .op (.copy (some 45) (.t 43) (.t 44) 1)])
    ((.seq (.drw [] [0, 1, 2, 3, 4, 5, 6, 7, 8] [.op (.mv 46 (.t 9)),
      .op (.mv 47 (.t 1)),
      .op (.mv 48 (.t 7)),
      .op (.bin 49 .add (.t 47) (.t 48)),
      .op (.sl 50 (.t 46) (some (.t 49)) none 1),
      .op (.mv 51 (.t 0)),
      .op (.mv 52 (.t 1)),
      .op (.sl 53 (.t 51) (some (.t 52)) none 1),
      .op (.copy (some 54) (.t 50) (.t 53) 1)])
    ((.seq (.reg [.op (.mv 55 (.t 9)),
      .op (.mv 6 (.t 55))])
    (.ret)))))))))
    (.skip))))
  ((.seq (.reg [.op (.mv 56 (.t 0)),
    .op (.mv 57 (.t 8)),
    .op (.mv 58 (.t 7)),
    .op (.bin 59 .add (.t 57) (.t 58)),
    .op (.sl 60 (.t 56) none (some (.t 59)) 1),
    .op (.mv 0 (.t 60))])
  ((.seq ((.seq (.reg [.op (.mv 61 (.t 2)),
    .op (.mv 62 (.t 0)),
    .op (.mv 63 (.t 1)),
    .op (.mv 64 (.t 7)),
    .op (.bin 65 .add (.t 63) (.t 64)),
    .op (.sl 66 (.t 62) (some (.t 65)) none 1),
    .op (.ovl 67 slices_overlaps_int (.t 61) (.t 66) 1),
    .op (.un 68 .not (.t 67))])
  (.ite (.t 68)
    ((.seq (.drw [] [0, 1, 2, 3, 4, 5, 6, 7, 8] [.op (.mv 69 (.t 0)),
      .op (.mv 70 (.t 1)),
      .op (.mv 71 (.t 7)),
      .op (.bin 72 .add (.t 70) (.t 71)),
      .op (.sl 73 (.t 69) (some (.t 72)) none 1),
      .op (.mv 74 (.t 0)),
      .op (.mv 75 (.t 1)),
      .op (.sl 76 (.t 74) (some (.t 75)) none 1),
      .op (.copy (some 77) (.t 73) (.t 76) 1)])
    ((.seq (.reg [.op (.mv 78 (.t 0)),
      .op (.mv 79 (.t 1)),
      .op (.sl 80 (.t 78) (some (.t 79)) none 1),
      .op (.mv 81 (.t 2)),
      .op (.copy (some 82) (.t 80) (.t 81) 1)])
    ((.seq (.reg [.op (.mv 83 (.t 0)),
      .op (.mv 6 (.t 83))])
    (.ret)))))))
    (.skip))))
  ((.seq (.reg [.op (.mv 84 (.t 0)),
    .op (.mv 85 (.t 8)),
    .op (.sl 86 (.t 84) (some (.t 85)) none 1),
    .op (.mv 87 (.t 2)),
    .op (.copy (some 88) (.t 86) (.t 87) 1)])
  ((.seq (.reg [.op (.mv 89 (.t 0)),
    .op (.mv 90 (.t 1)),
    .op (.sl 91 (.t 89) (some (.t 90)) none 1),
    .op (.mv 92 (.t 7)),
    .op (.call (some 93) slices_rotateRight_int [(.t 91), (.t 92)])])
  ((.seq (.reg [.op (.mv 94 (.t 0)),
    .op (.mv 6 (.t 94))])
  (.ret)))))))))))))))))))))))))
  [.t 6] false none

def F_slices_Index_int_int_L0 : C :=
  (.seq (.reg [.op (.bin 9 .lss (.t 8) (.t 7))])
  ((.seq (.ite (.t 9)
    (.skip)
    (.seq (.keep []) (.exit 0)))
  ((.seq (.blk 1 ((.seq (.reg [.op (.mv 10 (.t 8)),
     .op (.mv 5 (.t 10))])
   ((.seq (.reg [.op (.mv 11 (.t 1)),
     .op (.mv 12 (.t 0)),
     .op (.mv 13 (.t 5)),
     .op (.ixs 14 (.t 12) (.t 13) 1),
     .op (.ld 15 (.t 14) 1 false),
     .op (.bin 16 .eql (.t 11) (.t 15))])
   (.ite (.t 16)
     ((.seq (.reg [.op (.mv 17 (.t 5)),
       .op (.mv 4 (.t 17))])
     (.seq (.keep [4]) .ret)))
     (.skip)))))))
  (.reg [.op (.bin 18 .add (.t 8) (.k (.i .i64 1))),
    .op (.mv 8 (.t 18))]))))))

/-- slices.Index[[]int,int] -/
def F_slices_Index_int_int : F := .mk
  ((.seq (.reg [.op (.mv 4 (.k (.i .i64 0)))])
  ((.seq ((.seq (.reg [.op (.mv 6 (.t 0)),
    .op (.len 7 (.t 6) .sl),
    .op (.mv 8 (.k (.i .i64 0)))])
  (.blk 0 (.loop [0, 1, 7, 8] F_slices_Index_int_int_L0))))
  ((.seq (.reg [.op (.mv 4 (.k (.i .i64 (-1))))])
  (.ret)))))))
  [.t 4] false none

def F_waitlist_Check_L0 : C :=
  (.seq (.reg [.op (.bin 19 .lss (.t 18) (.t 17))])
  ((.seq (.ite (.t 19)
    (.skip)
    (.seq (.keep []) (.exit 0)))
  ((.seq (.blk 1 ((.seq (.reg [.op (.mv 20 (.t 18)),
     .op (.ixs 21 (.t 16) (.t 18) 5),
     .op (.ld 22 (.t 21) 5 true),
     .op (.new 6 [(.i .i64 0), (.i .i64 0), (.i .i64 0), (.i .i64 0), (.i .i64 0)]),
     .op (.mv 5 (.t 20)),
     .op (.st (.t 6) (.t 22) 5 true)])
   ((.seq ((.seq (.reg [.op (.ld 23 (.t 6) 5 true),
     .op (.call (some 24) waitlist_valid [(.t 23)]),
     .op (.un 25 .not (.t 24))])
   (.ite (.t 25)
     ((.seq (.reg [.op (.mv 4 (.k (.i .i64 2)))])
     (.seq (.keep [4]) .ret)))
     (.skip))))
   ((.seq (.drw [] [0, 1, 2, 3, 4, 5, 6, 7, 8, 9, 10, 11, 12, 13, 14, 15, 16] [.op (.mv 26 (.t 0)),
     .op (.bin 27 .eql (.t 26) (.k (.i .i64 2))),
     .op (.mv 28 (.t 27)),
     .sc false 31 28 [.op (.mv 29 (.t 5)), .op (.bin 30 .gtr (.t 29) (.k (.i .i64 0)))] (.t 30),
     .op (.mv 32 (.t 31)),
     .sc false 42 32 [.op (.fad 33 (.t 6) 3 1), .op (.ldd 34 (.t 33) 1 false), .op (.mv 35 (.t 1)), .op (.mv 36 (.t 5)), .op (.bin 37 .sub (.t 36) (.k (.i .i64 1))), .op (.ixs 38 (.t 35) (.t 37) 5), .op (.fa 39 (.t 38) 3 1), .op (.ld 40 (.t 39) 1 false), .op (.bin 41 .gtr (.t 34) (.t 40))] (.t 41)])
   (.ite (.t 42)
     ((.seq (.reg [.op (.mv 4 (.k (.i .i64 9)))])
     (.seq (.keep [4]) .ret)))
     (.skip)))))))))
  (.reg [.op (.bin 43 .add (.t 18) (.k (.i .i64 1))),
    .op (.mv 18 (.t 43))]))))))

/-- nursery/waitlist.Check -/
def F_waitlist_Check : F := .mk
  ((.seq (.reg [.op (.mv 4 (.k (.i .i64 0)))])
  ((.seq ((.seq (.reg [.op (.mv 7 (.t 0)),
    .op (.bin 8 .neq (.t 7) (.k (.i .i64 1))),
    .op (.mv 9 (.t 8)),
    .sc false 12 9 [.op (.mv 10 (.t 0)), .op (.bin 11 .neq (.t 10) (.k (.i .i64 2)))] (.t 11)])
  (.ite (.t 12)
    ((.seq (.reg [.op (.mv 4 (.k (.i .i64 8)))])
    (.ret)))
    (.skip))))
  ((.seq ((.seq (.reg [.op (.mv 13 (.t 1)),
    .op (.len 14 (.t 13) .sl),
    .op (.bin 15 .gtr (.t 14) (.k (.i .i64 96)))])
  (.ite (.t 15)
    ((.seq (.reg [.op (.mv 4 (.k (.i .i64 4)))])
    (.ret)))
    (.skip))))
  ((.seq ((.seq (.reg [.op (.mv 16 (.t 1)),
    .op (.len 17 (.t 16) .sl),
    .op (.mv 18 (.k (.i .i64 0)))])
  (.blk 0 (.loop [0, 1, 16, 17, 18] F_waitlist_Check_L0))))
  ((.seq (.reg [.op (.mv 4 (.k (.i .i64 0)))])
  (.ret)))))))))))
  [.t 4] false none

/-- nursery/nurseryref07.Valid -/
def F_nurseryref07_Valid : F := .mk
  ((.seq (.reg [.op (.box 1 (.t 0) 5 true),
    .op (.mv 2 (.k (.b false)))])
  ((.seq (.reg [.op (.fa 3 (.t 1) 0 1),
    .op (.ld 4 (.t 3) 1 false),
    .op (.call (some 5) nurseryref07_within [(.t 4), (.k (.i .i64 0)), (.k (.i .i64 15))]),
    .op (.mv 6 (.t 5)),
    .sc false 10 6 [.op (.fa 7 (.t 1) 1 1), .op (.ld 8 (.t 7) 1 false), .op (.call (some 9) nurseryref07_within [(.t 8), (.k (.i .i64 1)), (.k (.i .i64 99))])] (.t 9),
    .op (.mv 11 (.t 10)),
    .sc false 15 11 [.op (.fa 12 (.t 1) 2 1), .op (.ld 13 (.t 12) 1 false), .op (.call (some 14) nurseryref07_within [(.t 13), (.k (.i .i64 (-1099511627776))), (.k (.i .i64 1099511627776))])] (.t 14),
    .op (.mv 16 (.t 15)),
    .sc false 20 16 [.op (.fa 17 (.t 1) 3 1), .op (.ld 18 (.t 17) 1 false), .op (.call (some 19) nurseryref07_within [(.t 18), (.k (.i .i64 0)), (.k (.i .i64 9))])] (.t 19),
    .op (.mv 21 (.t 20)),
    .sc false 25 21 [.op (.fa 22 (.t 1) 4 1), .op (.ld 23 (.t 22) 1 false), .op (.call (some 24) nurseryref07_within [(.t 23), (.k (.i .i64 (-1))), (.k (.i .i64 5))])] (.t 24),
    .op (.mv 2 (.t 25))])
  (.ret)))))
  [.t 2] false none

/-- cmp.Less[int] -/
def F_cmp_Less_int : F := .mk
  ((.seq (.reg [.op (.mv 4 (.k (.b false)))])
  ((.seq (.reg [.op (.mv 5 (.t 0)),
    .op (.call (some 6) cmp_isNaN_int [(.t 5)]),
    .op (.mv 7 (.t 6)),
    .sc false 11 7 [.op (.mv 8 (.t 1)), .op (.call (some 9) cmp_isNaN_int [(.t 8)]), .op (.un 10 .not (.t 9))] (.t 10),
    .op (.mv 12 (.t 11)),
    .sc true 16 12 [.op (.mv 13 (.t 0)), .op (.mv 14 (.t 1)), .op (.bin 15 .lss (.t 13) (.t 14))] (.t 15),
    .op (.mv 4 (.t 16))])
  (.ret)))))
  [.t 4] false none

/-- slices.isNaN[int] -/
def F_slices_isNaN_int : F := .mk
  ((.seq (.reg [.op (.mv 2 (.k (.b false)))])
  ((.seq (.reg [.op (.mv 3 (.t 0)),
    .op (.mv 4 (.t 0)),
    .op (.bin 5 .neq (.t 3) (.t 4)),
    .op (.mv 2 (.t 5))])
  (.ret)))))
  [.t 2] false none

/-- slices.rotateRight[int] -/
def F_slices_rotateRight_int : F := .mk
  (.reg [.op (.mv 4 (.t 0)),
    .op (.mv 5 (.t 0)),
    .op (.len 6 (.t 5) .sl),
    .op (.mv 7 (.t 1)),
    .op (.bin 8 .sub (.t 6) (.t 7)),
    .op (.call (some 9) slices_rotateLeft_int [(.t 4), (.t 8)])])
  [] false none

/-- nursery/waitlist.valid -/
def F_waitlist_valid : F := .mk
  ((.seq (.reg [.op (.box 1 (.t 0) 5 true),
    .op (.mv 2 (.k (.b false)))])
  ((.seq (.blk 0 ((.seq (.reg [.op (.fa 4 (.t 1) 0 1),
     .op (.ld 5 (.t 4) 1 false),
     .op (.bin 6 .lss (.t 5) (.k (.i .i64 0))),
     .op (.mv 7 (.t 6)),
     .sc true 11 7 [.op (.fa 8 (.t 1) 0 1), .op (.ld 9 (.t 8) 1 false), .op (.bin 10 .geq (.t 9) (.k (.i .i64 16)))] (.t 10),
     .op (.mv 12 (.t 11)),
     .sc true 16 12 [.op (.fa 13 (.t 1) 1 1), .op (.ld 14 (.t 13) 1 false), .op (.bin 15 .lss (.t 14) (.k (.i .i64 1)))] (.t 15),
     .op (.mv 17 (.t 16)),
     .sc true 21 17 [.op (.fa 18 (.t 1) 1 1), .op (.ld 19 (.t 18) 1 false), .op (.bin 20 .gtr (.t 19) (.k (.i .i64 99)))] (.t 20),
     .op (.mv 22 (.t 21)),
     .sc true 26 22 [.op (.fa 23 (.t 1) 2 1), .op (.ld 24 (.t 23) 1 false), .op (.bin 25 .lss (.t 24) (.k (.i .i64 (-1099511627776))))] (.t 25),
     .op (.mv 27 (.t 26)),
     .sc true 31 27 [.op (.fa 28 (.t 1) 2 1), .op (.ld 29 (.t 28) 1 false), .op (.bin 30 .gtr (.t 29) (.k (.i .i64 1099511627776)))] (.t 30),
     .op (.mv 3 (.t 31))])
   (.ite (.t 3)
     ((.seq (.reg [.op (.mv 2 (.k (.b false)))])
     (.ret)))
     (.skip)))))
  ((.seq (.reg [.op (.fa 32 (.t 1) 3 1),
    .op (.ld 33 (.t 32) 1 false),
    .op (.bin 34 .geq (.t 33) (.k (.i .i64 0))),
    .op (.mv 35 (.t 34)),
    .sc false 39 35 [.op (.fa 36 (.t 1) 3 1), .op (.ld 37 (.t 36) 1 false), .op (.bin 38 .leq (.t 37) (.k (.i .i64 9)))] (.t 38),
    .op (.mv 40 (.t 39)),
    .sc false 44 40 [.op (.fa 41 (.t 1) 4 1), .op (.ld 42 (.t 41) 1 false), .op (.bin 43 .geq (.t 42) (.k (.i .i64 (-1))))] (.t 43),
    .op (.mv 45 (.t 44)),
    .sc false 49 45 [.op (.fa 46 (.t 1) 4 1), .op (.ld 47 (.t 46) 1 false), .op (.bin 48 .lss (.t 47) (.k (.i .i64 6)))] (.t 48),
    .op (.mv 2 (.t 49))])
  (.ret)))))))
  [.t 2] false none

/-- nursery/nurseryref07.within -/
def F_nurseryref07_within : F := .mk
  ((.seq (.reg [.op (.mv 6 (.k (.b false)))])
  ((.seq (.reg [.op (.mv 7 (.t 0)),
    .op (.mv 8 (.t 1)),
    .op (.bin 9 .geq (.t 7) (.t 8)),
    .op (.mv 10 (.t 9)),
    .sc false 14 10 [.op (.mv 11 (.t 0)), .op (.mv 12 (.t 2)), .op (.bin 13 .leq (.t 11) (.t 12))] (.t 13),
    .op (.mv 6 (.t 14))])
  (.ret)))))
  [.t 6] false none

/-- cmp.isNaN[int] -/
def F_cmp_isNaN_int : F := .mk
  ((.seq (.reg [.op (.mv 2 (.k (.b false)))])
  ((.seq (.reg [.op (.mv 3 (.t 0)),
    .op (.mv 4 (.t 0)),
    .op (.bin 5 .neq (.t 3) (.t 4)),
    .op (.mv 2 (.t 5))])
  (.ret)))))
  [.t 2] false none

/-- slices.rotateLeft[int] -/
def F_slices_rotateLeft_int : F := .mk
  ((.seq (.reg [.op (.mv 4 (.t 0)),
    .op (.mv 5 (.t 1)),
    .op (.sl 6 (.t 4) none (some (.t 5)) 1),
    .op (.call (some 7) slices_Reverse_int_int [(.t 6)])])
  ((.seq (.reg [.op (.mv 8 (.t 0)),
    .op (.mv 9 (.t 1)),
    .op (.sl 10 (.t 8) (some (.t 9)) none 1),
    .op (.call (some 11) slices_Reverse_int_int [(.t 10)])])
  (.reg [.op (.mv 12 (.t 0)),
    .op (.call (some 13) slices_Reverse_int_int [(.t 12)])])))))
  [] false none

def F_slices_Reverse_int_int_L0 : C :=
  (.seq ((.seq (.reg [.op (.mv 7 (.t 2)),
    .op (.mv 8 (.t 3)),
    .op (.bin 9 .lss (.t 7) (.t 8))])
  (.ite (.t 9)
    (.skip)
    (.seq (.keep []) (.exit 0)))))
  ((.seq (.blk 1 (.drw [] [0, 1, 2, 3, 4, 5, 6, 7, 8, 9, 10, 11, 12, 13, 14, 15] [.op (.mv 14 (.t 0)),
     .op (.mv 15 (.t 2)),
     .op (.mv 16 (.t 0)),
     .op (.mv 17 (.t 3)),
     .op (.mv 18 (.t 0)),
     .op (.mv 19 (.t 3)),
     .op (.ixs 20 (.t 18) (.t 19) 1),
     .op (.ld 21 (.t 20) 1 false),
     .op (.mv 22 (.t 0)),
     .op (.mv 23 (.t 2)),
     .op (.ixs 24 (.t 22) (.t 23) 1),
     .op (.ld 25 (.t 24) 1 false),
     .op (.ixs 26 (.t 14) (.t 15) 1),
     .op (.st (.t 26) (.t 21) 1 false),
     .op (.ixs 27 (.t 16) (.t 17) 1),
     .op (.st (.t 27) (.t 25) 1 false)]))
  (.reg [.op (.mv 10 (.t 2)),
    .op (.bin 11 .add (.t 10) (.k (.i .i64 1))),
    .op (.mv 12 (.t 3)),
    .op (.bin 13 .sub (.t 12) (.k (.i .i64 1))),
    .op (.mv 2 (.t 11)),
    .op (.mv 3 (.t 13))]))))

/-- slices.Reverse[[]int,int] -/
def F_slices_Reverse_int_int : F := .mk
  ((.seq (.reg [.op (.mv 4 (.t 0)),
    .op (.len 5 (.t 4) .sl),
    .op (.bin 6 .sub (.t 5) (.k (.i .i64 1))),
    .op (.mv 2 (.k (.i .i64 0))),
    .op (.mv 3 (.t 6))])
  (.blk 0 (.loop [0, 2, 3] F_slices_Reverse_int_int_L0))))
  [] false none
def F_slices_Insert_int_int : F := ⟨.skip, [], true, some (insP 1)⟩
def P : Prog := fun n => match n with
  | 3 => some F_nurserylaw17_RwlockWithdraw
  | 4 => some F_nurserylaw17_RwlockValid
  | 5 => some F_nurserylaw17_RwlockApply
  | 6 => some F_nurserylaw17_RwlockUndo
  | 7 => some F_nurserylaw17_RwlockProgress
  | 8 => some F_nurserylaw17_RwlockFair
  | 9 => some F_nurseryref17_Great
  | 10 => some F_nurserylaw17_awake
  | 11 => some F_rwlock_Withdraw
  | 12 => some F_nurseryref17_Withdraw
  | 13 => some F_nurseryref17_SameReply
  | 14 => some F_rwlock_Holds
  | 15 => some F_nurseryref17_Holds
  | 16 => some F_rwlock_New
  | 17 => some F_nurserylaw17_lock
  | 18 => some F_rwlock_Check
  | 19 => some F_rwlock_Apply
  | 20 => some F_nurseryref17_New
  | 21 => some F_nurseryref17_Apply
  | 22 => some F_nurseryref17_SameState
  | 23 => some F_nurseryref17_Check
  | 24 => some F_rwlock_Ready
  | 25 => some F_nurseryref17_Ready
  | 26 => some F_slices_Equal_int_int
  | 27 => some F_nurserylaw17_play
  | 28 => some F_nurserylaw17_RwlockFairC1
  | 29 => some F_slices_ContainsFunc_api_Waiter_api_Waiter
  | 30 => some F_nurserylaw17_RwlockFairC1C1
  | 31 => some F_waitlist_Find
  | 32 => some F_rwlock_changed
  | 33 => some F_waitlist_Remove
  | 34 => some F_rwlock_lock_serve
  | 35 => some F_nurseryref07_Find
  | 36 => some F_nurseryref07_Remove
  | 37 => some F_nurseryref17_serve
  | 38 => some F_rwlock_holds
  | 39 => some F_nurseryref17_reads
  | 40 => some F_rwlock_valid
  | 41 => some F_rwlock_isTask
  | 42 => some F_rwlock_lock_free
  | 43 => some F_rwlock_lock_writes
  | 44 => some F_rwlock_lock_acquire
  | 45 => some F_slices_DeleteFunc_int_int
  | 46 => some F_rwlock_ApplyC1
  | 47 => some F_rwlock_lock_reply
  | 48 => some F_nurseryref17_check
  | 49 => some F_nurseryref17_with
  | 50 => some F_nurseryref17_without
  | 51 => some F_nurseryref07_Same
  | 52 => some F_nurseryref01_Same
  | 53 => some F_nurseryref17_valid
  | 54 => some F_nurseryref17_vain
  | 55 => some F_slices_IndexFunc_api_Waiter_api_Waiter
  | 56 => some F_slices_Clone_int_int
  | 57 => some F_slices_Clone_api_Waiter_api_Waiter
  | 58 => some F_waitlist_filter
  | 59 => some F_waitlist_RemoveC1
  | 60 => some F_rwlock_lock_grant
  | 61 => some F_slices_Contains_int_int
  | 62 => some F_rwlock_queued
  | 63 => some F_slices_IndexFunc_int_int
  | 64 => some F_nurseryref17_Caller
  | 65 => some F_nurseryref17_IsTask
  | 66 => some F_nurseryref07_Check
  | 67 => some F_slices_BinarySearch_int_int
  | 69 => some F_slices_Index_int_int
  | 70 => some F_waitlist_Check
  | 71 => some F_nurseryref07_Valid
  | 72 => some F_cmp_Less_int
  | 73 => some F_slices_isNaN_int
  | 75 => some F_slices_rotateRight_int
  | 76 => some F_waitlist_valid
  | 77 => some F_nurseryref07_within
  | 78 => some F_cmp_isNaN_int
  | 79 => some F_slices_rotateLeft_int
  | 80 => some F_slices_Reverse_int_int
  | 68 => some F_slices_Insert_int_int
  | _ => none
theorem P_nurserylaw17_RwlockWithdraw : P nurserylaw17_RwlockWithdraw = some F_nurserylaw17_RwlockWithdraw := rfl
theorem P_nurserylaw17_RwlockValid : P nurserylaw17_RwlockValid = some F_nurserylaw17_RwlockValid := rfl
theorem P_nurserylaw17_RwlockApply : P nurserylaw17_RwlockApply = some F_nurserylaw17_RwlockApply := rfl
theorem P_nurserylaw17_RwlockUndo : P nurserylaw17_RwlockUndo = some F_nurserylaw17_RwlockUndo := rfl
theorem P_nurserylaw17_RwlockProgress : P nurserylaw17_RwlockProgress = some F_nurserylaw17_RwlockProgress := rfl
theorem P_nurserylaw17_RwlockFair : P nurserylaw17_RwlockFair = some F_nurserylaw17_RwlockFair := rfl
theorem P_nurseryref17_Great : P nurseryref17_Great = some F_nurseryref17_Great := rfl
theorem P_nurserylaw17_awake : P nurserylaw17_awake = some F_nurserylaw17_awake := rfl
theorem P_rwlock_Withdraw : P rwlock_Withdraw = some F_rwlock_Withdraw := rfl
theorem P_nurseryref17_Withdraw : P nurseryref17_Withdraw = some F_nurseryref17_Withdraw := rfl
theorem P_nurseryref17_SameReply : P nurseryref17_SameReply = some F_nurseryref17_SameReply := rfl
theorem P_rwlock_Holds : P rwlock_Holds = some F_rwlock_Holds := rfl
theorem P_nurseryref17_Holds : P nurseryref17_Holds = some F_nurseryref17_Holds := rfl
theorem P_rwlock_New : P rwlock_New = some F_rwlock_New := rfl
theorem P_nurserylaw17_lock : P nurserylaw17_lock = some F_nurserylaw17_lock := rfl
theorem P_rwlock_Check : P rwlock_Check = some F_rwlock_Check := rfl
theorem P_rwlock_Apply : P rwlock_Apply = some F_rwlock_Apply := rfl
theorem P_nurseryref17_New : P nurseryref17_New = some F_nurseryref17_New := rfl
theorem P_nurseryref17_Apply : P nurseryref17_Apply = some F_nurseryref17_Apply := rfl
theorem P_nurseryref17_SameState : P nurseryref17_SameState = some F_nurseryref17_SameState := rfl
theorem P_nurseryref17_Check : P nurseryref17_Check = some F_nurseryref17_Check := rfl
theorem P_rwlock_Ready : P rwlock_Ready = some F_rwlock_Ready := rfl
theorem P_nurseryref17_Ready : P nurseryref17_Ready = some F_nurseryref17_Ready := rfl
theorem P_slices_Equal_int_int : P slices_Equal_int_int = some F_slices_Equal_int_int := rfl
theorem P_nurserylaw17_play : P nurserylaw17_play = some F_nurserylaw17_play := rfl
theorem P_nurserylaw17_RwlockFairC1 : P nurserylaw17_RwlockFairC1 = some F_nurserylaw17_RwlockFairC1 := rfl
theorem P_slices_ContainsFunc_api_Waiter_api_Waiter : P slices_ContainsFunc_api_Waiter_api_Waiter = some F_slices_ContainsFunc_api_Waiter_api_Waiter := rfl
theorem P_nurserylaw17_RwlockFairC1C1 : P nurserylaw17_RwlockFairC1C1 = some F_nurserylaw17_RwlockFairC1C1 := rfl
theorem P_waitlist_Find : P waitlist_Find = some F_waitlist_Find := rfl
theorem P_rwlock_changed : P rwlock_changed = some F_rwlock_changed := rfl
theorem P_waitlist_Remove : P waitlist_Remove = some F_waitlist_Remove := rfl
theorem P_rwlock_lock_serve : P rwlock_lock_serve = some F_rwlock_lock_serve := rfl
theorem P_nurseryref07_Find : P nurseryref07_Find = some F_nurseryref07_Find := rfl
theorem P_nurseryref07_Remove : P nurseryref07_Remove = some F_nurseryref07_Remove := rfl
theorem P_nurseryref17_serve : P nurseryref17_serve = some F_nurseryref17_serve := rfl
theorem P_rwlock_holds : P rwlock_holds = some F_rwlock_holds := rfl
theorem P_nurseryref17_reads : P nurseryref17_reads = some F_nurseryref17_reads := rfl
theorem P_rwlock_valid : P rwlock_valid = some F_rwlock_valid := rfl
theorem P_rwlock_isTask : P rwlock_isTask = some F_rwlock_isTask := rfl
theorem P_rwlock_lock_free : P rwlock_lock_free = some F_rwlock_lock_free := rfl
theorem P_rwlock_lock_writes : P rwlock_lock_writes = some F_rwlock_lock_writes := rfl
theorem P_rwlock_lock_acquire : P rwlock_lock_acquire = some F_rwlock_lock_acquire := rfl
theorem P_slices_DeleteFunc_int_int : P slices_DeleteFunc_int_int = some F_slices_DeleteFunc_int_int := rfl
theorem P_rwlock_ApplyC1 : P rwlock_ApplyC1 = some F_rwlock_ApplyC1 := rfl
theorem P_rwlock_lock_reply : P rwlock_lock_reply = some F_rwlock_lock_reply := rfl
theorem P_nurseryref17_check : P nurseryref17_check = some F_nurseryref17_check := rfl
theorem P_nurseryref17_with : P nurseryref17_with = some F_nurseryref17_with := rfl
theorem P_nurseryref17_without : P nurseryref17_without = some F_nurseryref17_without := rfl
theorem P_nurseryref07_Same : P nurseryref07_Same = some F_nurseryref07_Same := rfl
theorem P_nurseryref01_Same : P nurseryref01_Same = some F_nurseryref01_Same := rfl
theorem P_nurseryref17_valid : P nurseryref17_valid = some F_nurseryref17_valid := rfl
theorem P_nurseryref17_vain : P nurseryref17_vain = some F_nurseryref17_vain := rfl
theorem P_slices_IndexFunc_api_Waiter_api_Waiter : P slices_IndexFunc_api_Waiter_api_Waiter = some F_slices_IndexFunc_api_Waiter_api_Waiter := rfl
theorem P_slices_Clone_int_int : P slices_Clone_int_int = some F_slices_Clone_int_int := rfl
theorem P_slices_Clone_api_Waiter_api_Waiter : P slices_Clone_api_Waiter_api_Waiter = some F_slices_Clone_api_Waiter_api_Waiter := rfl
theorem P_waitlist_filter : P waitlist_filter = some F_waitlist_filter := rfl
theorem P_waitlist_RemoveC1 : P waitlist_RemoveC1 = some F_waitlist_RemoveC1 := rfl
theorem P_rwlock_lock_grant : P rwlock_lock_grant = some F_rwlock_lock_grant := rfl
theorem P_slices_Contains_int_int : P slices_Contains_int_int = some F_slices_Contains_int_int := rfl
theorem P_rwlock_queued : P rwlock_queued = some F_rwlock_queued := rfl
theorem P_slices_IndexFunc_int_int : P slices_IndexFunc_int_int = some F_slices_IndexFunc_int_int := rfl
theorem P_nurseryref17_Caller : P nurseryref17_Caller = some F_nurseryref17_Caller := rfl
theorem P_nurseryref17_IsTask : P nurseryref17_IsTask = some F_nurseryref17_IsTask := rfl
theorem P_nurseryref07_Check : P nurseryref07_Check = some F_nurseryref07_Check := rfl
theorem P_slices_BinarySearch_int_int : P slices_BinarySearch_int_int = some F_slices_BinarySearch_int_int := rfl
theorem P_slices_Index_int_int : P slices_Index_int_int = some F_slices_Index_int_int := rfl
theorem P_waitlist_Check : P waitlist_Check = some F_waitlist_Check := rfl
theorem P_nurseryref07_Valid : P nurseryref07_Valid = some F_nurseryref07_Valid := rfl
theorem P_cmp_Less_int : P cmp_Less_int = some F_cmp_Less_int := rfl
theorem P_slices_isNaN_int : P slices_isNaN_int = some F_slices_isNaN_int := rfl
theorem P_slices_rotateRight_int : P slices_rotateRight_int = some F_slices_rotateRight_int := rfl
theorem P_waitlist_valid : P waitlist_valid = some F_waitlist_valid := rfl
theorem P_nurseryref07_within : P nurseryref07_within = some F_nurseryref07_within := rfl
theorem P_cmp_isNaN_int : P cmp_isNaN_int = some F_cmp_isNaN_int := rfl
theorem P_slices_rotateLeft_int : P slices_rotateLeft_int = some F_slices_rotateLeft_int := rfl
theorem P_slices_Reverse_int_int : P slices_Reverse_int_int = some F_slices_Reverse_int_int := rfl
theorem P_slices_Insert_int_int : P slices_Insert_int_int = some F_slices_Insert_int_int := rfl
end Go.VS
