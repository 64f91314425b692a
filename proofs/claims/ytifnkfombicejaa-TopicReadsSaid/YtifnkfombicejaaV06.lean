import Derived.Test.YtifnkfombicejaaV05
set_option linter.all false
namespace Go.VS
def gosem_cut_init : Nat := 2
def nurserylaw23_TopicApply : Nat := 3
def nurserylaw23_TopicLeaves : Nat := 4
def nurserylaw23_TopicReads : Nat := 5
def nurserylaw23_TopicValid : Nat := 6
def nurserylaw23_TopicUndo : Nat := 7
def nurserylaw23_TopicWithdraw : Nat := 8
def nurserylaw23_TopicDelivers : Nat := 9
def nurseryref19_Great : Nat := 10
def nurserylaw23_awake : Nat := 11
def topic_New : Nat := 12
def nurseryref23_New : Nat := 13
def topic_Apply : Nat := 14
def nurseryref23_Apply : Nat := 15
def nurseryref19_SameState : Nat := 16
def topic_Check : Nat := 17
def nurseryref23_Check : Nat := 18
def nurseryref19_SameReply : Nat := 19
def slices_ContainsFunc_api_Waiter_api_Waiter : Nat := 20
def nurserylaw23_TopicLeavesC1 : Nat := 21
def nurserylaw23_call : Nat := 22
def nurserylaw23_TopicLeavesC2 : Nat := 23
def nurserylaw23_TopicReadsC1 : Nat := 24
def slices_Clone_int_int : Nat := 25
def slices_Clone_int_int_p : Nat := 10025
def topic_Lag : Nat := 26
def topic_Withdraw : Nat := 27
def nurserylaw23_TopicValidC1 : Nat := 28
def nurseryref23_Full : Nat := 29
def nurseryref23_Withdraw : Nat := 30
def nurseryref23_Lag : Nat := 31
def topic_Ready : Nat := 32
def nurseryref23_Ready : Nat := 33
def nurserylaw23_book_note : Nat := 34
def nurserylaw23_book_fine : Nat := 35
def nurseryref23_within : Nat := 36
def topic_call : Nat := 37
def topic_begin : Nat := 38
def topic_ApplyC1 : Nat := 39
def topic_board_subscribe : Nat := 40
def topic_ApplyC2 : Nat := 41
def topic_find : Nat := 42
def slices_Delete_api_Cursor_api_Cursor : Nat := 43
def topic_board_advance : Nat := 44
def topic_ApplyC3 : Nat := 45
def topic_ApplyC3C1 : Nat := 46
def topic_full : Nat := 47
def topic_board_wait : Nat := 48
def topic_board_publish : Nat := 49
def topic_ApplyC4 : Nat := 50
def topic_board_next : Nat := 51
def nurseryref23_check : Nat := 52
def nurseryref23_subscribe : Nat := 53
def nurseryref23_advance : Nat := 54
def nurseryref23_without : Nat := 55
def nurseryref23_next : Nat := 56
def nurseryref23_publisher : Nat := 57
def nurseryref23_published : Nat := 58
def nurseryref07_Push : Nat := 59
def nurseryref07_Same : Nat := 60
def nurseryref19_sameInts : Nat := 61
def topic_cursors : Nat := 62
def topic_queue : Nat := 63
def nurseryref23_checkCursors : Nat := 64
def nurseryref23_checkQueue : Nat := 65
def slices_IndexFunc_api_Waiter_api_Waiter : Nat := 66
def waitlist_Find : Nat := 67
def waitlist_Remove : Nat := 68
def nurseryref23_waits : Nat := 69
def nurseryref07_Find : Nat := 70
def nurseryref07_Remove : Nat := 71
def nurseryref23_cursor : Nat := 72
def nurserylaw23_book_publish : Nat := 73
def nurserylaw23_book_wake : Nat := 74
def slices_Equal_int_int : Nat := 75
def slices_Concat_int_int : Nat := 76
def topic_number : Nat := 77
def slices_Clone_api_Cursor_api_Cursor : Nat := 78
def slices_Clone_api_Waiter_api_Waiter : Nat := 79
def slices_Insert_api_Cursor_api_Cursor : Nat := 80
def slices_IndexFunc_api_Cursor_api_Cursor : Nat := 81
def topic_findC1 : Nat := 82
def topic_board_publishers : Nat := 83
def topic_board_wake : Nat := 84
def slices_ContainsFunc_api_Cursor_api_Cursor : Nat := 85
def topic_fullC1 : Nat := 86
def topic_waiting : Nat := 87
def slices_IndexFunc_api_Wake_api_Wake : Nat := 88
def topic_board_nextC1 : Nat := 89
def slices_Delete_api_Wake_api_Wake : Nat := 90
def nurseryref19_Caller : Nat := 91
def nurseryref07_Check : Nat := 92
def nurseryref07_Valid : Nat := 93
def waitlist_Check : Nat := 94
def waitlist_filter : Nat := 95
def waitlist_RemoveC1 : Nat := 96
def slices_Grow_int_int : Nat := 97
def slices_overlaps_api_Cursor : Nat := 98
def slices_rotateRight_api_Cursor : Nat := 99
def topic_board_publishersC1 : Nat := 100
def topic_board_publishersC1C1 : Nat := 101
def slices_Delete_api_Waiter_api_Waiter : Nat := 102
def topic_waitingC1 : Nat := 103
def nurseryref19_within : Nat := 104
def nurseryref07_within : Nat := 105
def waitlist_valid : Nat := 106
def slices_rotateLeft_api_Cursor : Nat := 107
def slices_Reverse_api_Cursor_api_Cursor : Nat := 108
/-- nursery/nurserylaw23.TopicApply -/
def F_nurserylaw23_TopicApply : F := .mk
  ((.seq (.reg [.op (.box 3 (.t 0) 4 true),
    .op (.box 4 (.t 1) 9 true),
    .op (.box 5 (.t 2) 5 true),
    .op (.mv 6 (.k (.b false)))])
  ((.seq ((.seq (.reg [.op (.ld 15 (.t 4) 9 true),
    .op (.call (some 16) nurseryref19_Great [(.t 15)])])
  (.ite (.t 16)
    ((.seq (.reg [.op (.call (some 17) nurserylaw23_awake []),
      .op (.mv 6 (.t 17))])
    (.ret)))
    (.skip))))
  ((.seq (.reg [.op (.ld 19 (.t 3) 4 true),
    .op (.call (some 20) topic_New [(.t 19)]),
    .op (.mv 18 (.t 20)),
    .op (.ext 21 (.t 18) 0),
    .op (.ext 22 (.t 18) 1),
    .op (.new 7 [(.i .i64 0), (.i .i64 0), (.i .i64 0), (.sl 1 true []), (.sl 5 true []), (.sl 1 true []), (.sl 2 true []), (.b false), (.i .i64 0)]),
    .op (.st (.t 7) (.t 21) 9 true),
    .op (.mv 8 (.t 22))])
  ((.seq (.reg [.op (.ld 24 (.t 3) 4 true),
    .op (.call (some 25) nurseryref23_New [(.t 24)]),
    .op (.mv 23 (.t 25)),
    .op (.ext 26 (.t 23) 0),
    .op (.ext 27 (.t 23) 1),
    .op (.new 9 [(.i .i64 0), (.i .i64 0), (.i .i64 0), (.sl 1 true []), (.sl 5 true []), (.sl 1 true []), (.sl 2 true []), (.b false), (.i .i64 0)]),
    .op (.st (.t 9) (.t 26) 9 true),
    .op (.mv 10 (.t 27))])
  ((.seq (.reg [.op (.ld 29 (.t 3) 4 true),
    .op (.ld 30 (.t 4) 9 true),
    .op (.ld 31 (.t 5) 5 true),
    .op (.call (some 32) topic_Apply [(.t 29), (.t 30), (.t 31)]),
    .op (.mv 28 (.t 32)),
    .op (.ext 33 (.t 28) 0),
    .op (.ext 34 (.t 28) 1),
    .op (.new 11 [(.i .i64 0), (.i .i64 0), (.i .i64 0), (.sl 1 true []), (.sl 5 true []), (.sl 1 true []), (.sl 2 true []), (.b false), (.i .i64 0), (.b false), (.i .i64 0), (.b false), (.sl 5 true [])]),
    .op (.st (.t 11) (.t 33) 13 true),
    .op (.mv 12 (.t 34))])
  ((.seq (.reg [.op (.ld 36 (.t 3) 4 true),
    .op (.ld 37 (.t 4) 9 true),
    .op (.ld 38 (.t 5) 5 true),
    .op (.call (some 39) nurseryref23_Apply [(.t 36), (.t 37), (.t 38)]),
    .op (.mv 35 (.t 39)),
    .op (.ext 40 (.t 35) 0),
    .op (.ext 41 (.t 35) 1),
    .op (.new 13 [(.i .i64 0), (.i .i64 0), (.i .i64 0), (.sl 1 true []), (.sl 5 true []), (.sl 1 true []), (.sl 2 true []), (.b false), (.i .i64 0), (.b false), (.i .i64 0), (.b false), (.sl 5 true [])]),
    .op (.st (.t 13) (.t 40) 13 true),
    .op (.mv 14 (.t 41))])
  ((.seq (.drw [] [0, 1, 2, 3, 4, 5, 6, 7, 8, 9, 10, 11, 12, 13, 14, 15, 16, 17, 18, 19, 20, 21, 22, 23, 24, 25, 26, 27, 28, 29, 30] [.op (.ldd 42 (.t 7) 9 true),
    .op (.ldd 43 (.t 9) 9 true),
    .op (.call (some 44) nurseryref19_SameState [(.t 42), (.t 43)]),
    .op (.mv 45 (.t 44)),
    .sc false 49 45 [.op (.mv 46 (.t 8)), .op (.mv 47 (.t 10)), .op (.bin 48 .eql (.t 46) (.t 47))] (.t 48),
    .op (.mv 50 (.t 49)),
    .sc false 58 50 [.op (.ldd 51 (.t 3) 4 true), .op (.ldd 52 (.t 4) 9 true), .op (.call (some 53) topic_Check [(.t 51), (.t 52)]), .op (.ldd 54 (.t 3) 4 true), .op (.ldd 55 (.t 4) 9 true), .op (.call (some 56) nurseryref23_Check [(.t 54), (.t 55)]), .op (.bin 57 .eql (.t 53) (.t 56))] (.t 57),
    .op (.mv 59 (.t 58)),
    .sc false 63 59 [.op (.ldd 60 (.t 11) 13 true), .op (.ldd 61 (.t 13) 13 true), .op (.call (some 62) nurseryref19_SameReply [(.t 60), (.t 61)])] (.t 62),
    .op (.mv 64 (.t 63)),
    .sc false 68 64 [.op (.mv 65 (.t 12)), .op (.mv 66 (.t 14)), .op (.bin 67 .eql (.t 65) (.t 66))] (.t 67),
    .op (.mv 69 (.t 68)),
    .sc false 71 69 [.op (.call (some 70) nurserylaw23_awake [])] (.t 70),
    .op (.mv 6 (.t 71))])
  (.ret)))))))))))))))
  [.t 6] false none

def F_nurserylaw23_TopicLeaves_L0 : C :=
  (.seq (.reg [.op (.bin 24 .lss (.t 23) (.t 22))])
  ((.seq (.ite (.t 24)
    (.skip)
    (.seq (.keep [2, 3, 18]) (.exit 2)))
  ((.seq (.blk 3 ((.seq (.reg [.op (.ixs 25 (.t 21) (.t 23) 2),
     .op (.ld 26 (.t 25) 2 true),
     .op (.new 6 [(.i .i64 0), (.sl 1 true [])]),
     .op (.st (.t 6) (.t 26) 2 true)])
   ((.seq ((.seq (.reg [.op (.fa 27 (.t 3) 4 1),
     .op (.ld 28 (.t 27) 1 false),
     .op (.mkf 29 nurserylaw23_TopicLeavesC1 [] [(.t 6)]),
     .op (.call (some 30) slices_ContainsFunc_api_Waiter_api_Waiter [(.t 28), (.t 29)])])
   (.ite (.t 30)
     ((.seq (.reg [.op (.call (some 31) nurserylaw23_awake []),
       .op (.mv 4 (.t 31))])
     (.seq (.keep [4]) .ret)))
     (.skip))))
   ((.seq (.seq (.drw [] [0, 1, 2, 3, 4, 5, 6, 7, 8, 9, 10, 11] [.op (.ldd 33 (.t 2) 4 true),
     .op (.ld 34 (.t 3) 9 true),
     .op (.fad 35 (.t 6) 0 1),
     .op (.ldd 36 (.t 35) 1 false),
     .op (.call (some 37) nurserylaw23_call [(.t 36), (.k (.i .i64 71)), (.k (.i .i64 0))]),
     .op (.call (some 38) topic_Apply [(.t 33), (.t 34), (.t 37)]),
     .op (.mv 32 (.t 38)),
     .op (.ext 39 (.t 32) 0),
     .op (.ext 40 (.t 32) 1),
     .op (.new 7 [(.i .i64 0), (.i .i64 0), (.i .i64 0), (.sl 1 true []), (.sl 5 true []), (.sl 1 true []), (.sl 2 true []), (.b false), (.i .i64 0), (.b false), (.i .i64 0), (.b false), (.sl 5 true [])]),
     .re (.ld 34 (.t 3) 9 true),
     .op (.st (.t 7) (.t 39) 13 false),
     .op (.mv 8 (.t 40))])
   (.frz [7]))
   ((.seq (.reg [.op (.mv 41 (.t 8)),
     .op (.bin 42 .eql (.t 41) (.k (.i .i64 0)))])
   (.ite (.t 42)
     (.reg [.op (.fa 43 (.t 7) 0 9),
       .op (.ld 44 (.t 43) 9 true),
       .op (.st (.t 3) (.t 44) 9 false)])
     (.skip)))))))))))
  (.reg [.op (.bin 45 .add (.t 23) (.k (.i .i64 1))),
    .op (.mv 23 (.t 45))]))))))

def F_nurserylaw23_TopicLeaves_L1 : C :=
  (.seq (.reg [.op (.bin 19 .lss (.t 18) (.k (.i .i64 3)))])
  ((.seq (.ite (.t 19)
    (.skip)
    (.seq (.keep [3]) (.exit 0)))
  ((.seq (.blk 1 ((.seq (.reg [.op (.fa 20 (.t 3) 6 1),
     .op (.ld 21 (.t 20) 1 false),
     .op (.len 22 (.t 21) .sl),
     .op (.mv 23 (.k (.i .i64 0)))])
   (.blk 2 (.loop [2, 3, 18, 21, 22, 23] F_nurserylaw23_TopicLeaves_L0)))))
  (.reg [.op (.bin 46 .add (.t 18) (.k (.i .i64 1))),
    .op (.mv 18 (.t 46))]))))))

/-- nursery/nurserylaw23.TopicLeaves -/
def F_nurserylaw23_TopicLeaves : F := .mk
  ((.seq (.reg [.op (.box 2 (.t 0) 4 true),
    .op (.box 3 (.t 1) 9 false),
    .op (.mv 4 (.k (.b false)))])
  ((.seq ((.seq (.reg [.op (.ld 9 (.t 3) 9 true),
    .op (.call (some 10) nurseryref19_Great [(.t 9)]),
    .op (.mv 11 (.t 10)),
    .sc true 16 11 [.op (.ld 12 (.t 2) 4 true), .op (.ld 13 (.t 3) 9 true), .op (.call (some 14) topic_Check [(.t 12), (.t 13)]), .op (.bin 15 .neq (.t 14) (.k (.i .i64 0)))] (.t 15)])
  (.ite (.t 16)
    ((.seq (.reg [.op (.call (some 17) nurserylaw23_awake []),
      .op (.mv 4 (.t 17))])
    (.ret)))
    (.skip))))
  ((.seq ((.seq (.reg [.op (.mv 18 (.k (.i .i64 0)))])
  (.blk 0 (.loop [2, 3, 18] F_nurserylaw23_TopicLeaves_L1))))
  ((.seq (.reg [.op (.fa 47 (.t 3) 4 1),
    .op (.ld 48 (.t 47) 1 false),
    .op (.call (some 49) slices_ContainsFunc_api_Waiter_api_Waiter [(.t 48), (.k (.fn nurserylaw23_TopicLeavesC2 [] []))]),
    .op (.un 50 .not (.t 49)),
    .op (.mv 51 (.t 50)),
    .sc false 53 51 [.op (.call (some 52) nurserylaw23_awake [])] (.t 52),
    .op (.mv 4 (.t 53))])
  (.ret)))))))))
  [.t 4] false none

def F_nurserylaw23_TopicReads_L0 : C :=
  (.seq (.reg [.op (.bin 46 .lss (.t 45) (.t 44))])
  ((.seq (.ite (.t 46)
    (.skip)
    (.seq (.keep [2, 3, 5, 6]) (.exit 0)))
  ((.seq (.blk 1 ((.seq (.reg [.op (.ixs 47 (.t 43) (.t 45) 5),
     .op (.ld 48 (.t 47) 5 true),
     .op (.new 8 [(.i .i64 0), (.i .i64 0), (.i .i64 0), (.i .i64 0), (.i .i64 0)]),
     .op (.st (.t 8) (.t 48) 5 true)])
   (.reg [.op (.mv 49 (.t 6)),
     .op (.fa 50 (.t 8) 2 1),
     .op (.ld 51 (.t 50) 1 false),
     .op (.buildSl 52 1 1 [(.i .i64 0)] [(0, (.t 51))] true),
     .op (.app 53 (.t 49) (.t 52) 1),
     .op (.mv 6 (.t 53))]))))
  (.reg [.op (.bin 54 .add (.t 45) (.k (.i .i64 1))),
    .op (.mv 45 (.t 54))]))))))

def F_nurserylaw23_TopicReads_L1 : C :=
  (.seq (.reg [.op (.bin 58 .lss (.t 57) (.t 56))])
  ((.seq (.ite (.t 58)
    (.skip)
    (.seq (.keep [3, 5]) (.exit 2)))
  ((.seq (.blk 3 ((.seq (.reg [.op (.ixs 59 (.t 55) (.t 57) 1),
     .op (.ld 60 (.t 59) 1 false),
     .op (.mv 10 (.t 60))])
   ((.seq (.seq (.drw [] [0, 1, 2, 3, 4, 5, 6, 7, 8, 9, 10, 11] [.op (.ldd 62 (.t 2) 4 true),
     .op (.ld 63 (.t 3) 9 true),
     .op (.fad 64 (.t 5) 0 1),
     .op (.ldd 65 (.t 64) 1 false),
     .op (.call (some 66) nurserylaw23_call [(.t 65), (.k (.i .i64 70)), (.k (.i .i64 0))]),
     .op (.call (some 67) topic_Apply [(.t 62), (.t 63), (.t 66)]),
     .op (.mv 61 (.t 67)),
     .op (.ext 68 (.t 61) 0),
     .op (.ext 69 (.t 61) 1),
     .op (.new 11 [(.i .i64 0), (.i .i64 0), (.i .i64 0), (.sl 1 true []), (.sl 5 true []), (.sl 1 true []), (.sl 2 true []), (.b false), (.i .i64 0), (.b false), (.i .i64 0), (.b false), (.sl 5 true [])]),
     .re (.ld 63 (.t 3) 9 true),
     .op (.st (.t 11) (.t 68) 13 false),
     .op (.mv 12 (.t 69))])
   (.frz [11]))
   ((.seq ((.seq (.reg [.op (.mv 70 (.t 12)),
     .op (.bin 71 .neq (.t 70) (.k (.i .i64 0))),
     .op (.mv 72 (.t 71)),
     .sc true 75 72 [.op (.fa 73 (.t 11) 9 1), .op (.ld 74 (.t 73) 1 false)] (.t 74),
     .op (.mv 76 (.t 75)),
     .sc true 80 76 [.op (.fa 77 (.t 11) 11 1), .op (.ld 78 (.t 77) 1 false), .op (.un 79 .not (.t 78))] (.t 79),
     .op (.mv 81 (.t 80)),
     .sc true 86 81 [.op (.fa 82 (.t 11) 10 1), .op (.ld 83 (.t 82) 1 false), .op (.mv 84 (.t 10)), .op (.bin 85 .neq (.t 83) (.t 84))] (.t 85)])
   (.ite (.t 86)
     ((.seq (.reg [.op (.mv 4 (.k (.b false)))])
     (.seq (.keep [4]) .ret)))
     (.skip))))
   (.reg [.op (.fa 87 (.t 11) 0 9),
     .op (.ld 88 (.t 87) 9 true),
     .op (.st (.t 3) (.t 88) 9 false)]))))))))
  (.reg [.op (.bin 89 .add (.t 57) (.k (.i .i64 1))),
    .op (.mv 57 (.t 89))]))))))

/-- nursery/nurserylaw23.TopicReads -/
def F_nurserylaw23_TopicReads : F := .mk
  ((.seq (.reg [.op (.box 2 (.t 0) 4 true),
    .op (.box 3 (.t 1) 9 false),
    .op (.mv 4 (.k (.b false)))])
  ((.seq ((.seq (.reg [.op (.ld 15 (.t 3) 9 true),
    .op (.call (some 16) nurseryref19_Great [(.t 15)]),
    .op (.mv 17 (.t 16)),
    .sc true 22 17 [.op (.ld 18 (.t 2) 4 true), .op (.ld 19 (.t 3) 9 true), .op (.call (some 20) topic_Check [(.t 18), (.t 19)]), .op (.bin 21 .neq (.t 20) (.k (.i .i64 0)))] (.t 21),
    .op (.mv 23 (.t 22)),
    .sc true 28 23 [.op (.fa 24 (.t 3) 6 1), .op (.ld 25 (.t 24) 1 false), .op (.len 26 (.t 25) .sl), .op (.bin 27 .neq (.t 26) (.k (.i .i64 1)))] (.t 27)])
  (.ite (.t 28)
    ((.seq (.reg [.op (.call (some 29) nurserylaw23_awake []),
      .op (.mv 4 (.t 29))])
    (.ret)))
    (.skip))))
  ((.seq (.reg [.op (.fa 30 (.t 3) 6 1),
    .op (.ld 31 (.t 30) 1 false),
    .op (.ixs 32 (.t 31) (.k (.i .i64 0)) 2),
    .op (.ld 33 (.t 32) 2 true),
    .op (.new 5 [(.i .i64 0), (.sl 1 true [])]),
    .op (.st (.t 5) (.t 33) 2 true)])
  ((.seq ((.seq (.reg [.op (.fa 34 (.t 3) 4 1),
    .op (.ld 35 (.t 34) 1 false),
    .op (.mkf 36 nurserylaw23_TopicReadsC1 [] [(.t 5)]),
    .op (.call (some 37) slices_ContainsFunc_api_Waiter_api_Waiter [(.t 35), (.t 36)])])
  (.ite (.t 37)
    ((.seq (.reg [.op (.call (some 38) nurserylaw23_awake []),
      .op (.mv 4 (.t 38))])
    (.ret)))
    (.skip))))
  ((.seq (.reg [.op (.fa 39 (.t 5) 1 1),
    .op (.ld 40 (.t 39) 1 false),
    .op (.callk (some 41) slices_Clone_int_int [(.t 40)]),
    .op (.mv 6 (.t 41))])
  ((.seq ((.seq (.reg [.op (.fa 42 (.t 3) 4 1),
    .op (.ld 43 (.t 42) 1 false),
    .op (.len 44 (.t 43) .sl),
    .op (.mv 45 (.k (.i .i64 0)))])
  (.blk 0 (.loop [2, 3, 5, 6, 43, 44, 45] F_nurserylaw23_TopicReads_L0))))
  ((.seq ((.seq (.reg [.op (.mv 55 (.t 6)),
    .op (.len 56 (.t 55) .sl),
    .op (.mv 57 (.k (.i .i64 0)))])
  (.blk 2 (.loop [2, 3, 5, 55, 56, 57] F_nurserylaw23_TopicReads_L1))))
  ((.seq (.reg [.op (.ld 91 (.t 3) 9 true),
    .op (.fa 92 (.t 5) 0 1),
    .op (.ld 93 (.t 92) 1 false),
    .op (.call (some 94) topic_Lag [(.t 91), (.t 93)]),
    .op (.mv 90 (.t 94)),
    .op (.ext 95 (.t 90) 0),
    .op (.ext 96 (.t 90) 1),
    .op (.mv 13 (.t 95)),
    .op (.mv 14 (.t 96))])
  ((.seq (.reg [.op (.mv 97 (.t 14)),
    .op (.bin 98 .eql (.t 97) (.k (.i .i64 0))),
    .op (.mv 99 (.t 98)),
    .sc false 102 99 [.op (.mv 100 (.t 13)), .op (.bin 101 .eql (.t 100) (.k (.i .i64 0)))] (.t 101),
    .op (.mv 103 (.t 102)),
    .sc false 108 103 [.op (.fa 104 (.t 3) 4 1), .op (.ld 105 (.t 104) 1 false), .op (.len 106 (.t 105) .sl), .op (.bin 107 .eql (.t 106) (.k (.i .i64 0)))] (.t 107),
    .op (.mv 109 (.t 108)),
    .sc false 111 109 [.op (.call (some 110) nurserylaw23_awake [])] (.t 110),
    .op (.mv 4 (.t 111))])
  (.ret)))))))))))))))))))
  [.t 4] false none

def F_nurserylaw23_TopicValid_L0 : C :=
  (.seq (.reg [.op (.bin 77 .lss (.t 76) (.t 75))])
  ((.seq (.ite (.t 77)
    (.skip)
    (.seq (.keep [4, 10, 12, 39, 40, 41]) (.exit 2)))
  ((.seq (.blk 3 ((.seq (.reg [.op (.ixs 78 (.t 74) (.t 76) 2),
     .op (.ld 79 (.t 78) 2 true),
     .op (.new 17 [(.i .i64 0), (.sl 1 true [])]),
     .op (.st (.t 17) (.t 79) 2 true)])
   ((.seq (.reg [.op (.fa 81 (.t 14) 0 9),
     .op (.ld 82 (.t 81) 9 true),
     .op (.fa 83 (.t 17) 0 1),
     .op (.ld 84 (.t 83) 1 false),
     .op (.call (some 85) topic_Lag [(.t 82), (.t 84)]),
     .op (.mv 80 (.t 85)),
     .op (.ext 86 (.t 80) 0),
     .op (.ext 87 (.t 80) 1),
     .op (.mv 18 (.t 86)),
     .op (.mv 19 (.t 87))])
   ((.seq (.reg [.op (.mv 88 (.t 19)),
     .op (.bin 89 .neq (.t 88) (.k (.i .i64 0))),
     .op (.mv 90 (.t 89)),
     .sc true 95 90 [.op (.mv 91 (.t 18)), .op (.fa 92 (.t 4) 2 1), .op (.ld 93 (.t 92) 1 false), .op (.bin 94 .gtr (.t 91) (.t 93))] (.t 94)])
   (.ite (.t 95)
     ((.seq (.reg [.op (.mv 8 (.k (.b false)))])
     (.seq (.keep [8]) .ret)))
     (.skip)))))))))
  (.reg [.op (.bin 96 .add (.t 76) (.k (.i .i64 1))),
    .op (.mv 76 (.t 96))]))))))

def F_nurserylaw23_TopicValid_L1 : C :=
  (.seq (.reg [.op (.bin 42 .lss (.t 41) (.t 40))])
  ((.seq (.ite (.t 42)
    (.skip)
    (.seq (.keep []) (.exit 0)))
  ((.seq (.blk 1 ((.seq (.reg [.op (.mv 43 (.t 41)),
     .op (.ixs 44 (.t 39) (.t 41) 13),
     .op (.ld 45 (.t 44) 13 true),
     .op (.new 14 [(.i .i64 0), (.i .i64 0), (.i .i64 0), (.sl 1 true []), (.sl 5 true []), (.sl 1 true []), (.sl 2 true []), (.b false), (.i .i64 0), (.b false), (.i .i64 0), (.b false), (.sl 5 true [])]),
     .op (.mv 13 (.t 43)),
     .op (.st (.t 14) (.t 45) 13 true)])
   ((.seq ((.seq (.reg [.op (.mv 46 (.t 10)),
     .op (.mv 47 (.t 12)),
     .op (.buildSl 48 1 2 [(.i .i64 0)] [(0, (.t 46)), (1, (.t 47))] true),
     .op (.mv 49 (.t 13)),
     .op (.ixs 50 (.t 48) (.t 49) 1),
     .op (.ld 51 (.t 50) 1 false),
     .op (.bin 52 .neq (.t 51) (.k (.i .i64 0)))])
   (.ite (.t 52)
     (.seq (.keep [4, 10, 12, 39, 40, 41]) (.exit 1))
     (.skip))))
   ((.seq (.reg [.op (.fa 53 (.t 14) 0 9),
     .op (.fa 54 (.t 53) 4 1),
     .op (.ld 55 (.t 54) 1 false),
     .op (.call (some 56) slices_ContainsFunc_api_Waiter_api_Waiter [(.t 55), (.k (.fn nurserylaw23_TopicValidC1 [] []))]),
     .op (.mv 15 (.t 56))])
   ((.seq ((.seq (.reg [.op (.ld 57 (.t 4) 4 true),
     .op (.fa 58 (.t 14) 0 9),
     .op (.ld 59 (.t 58) 9 true),
     .op (.call (some 60) topic_Check [(.t 57), (.t 59)]),
     .op (.bin 61 .neq (.t 60) (.k (.i .i64 0))),
     .op (.mv 62 (.t 61)),
     .sc true 71 62 [.op (.mv 63 (.t 15)), .op (.mv 64 (.t 63)), .sc false 70 64 [.op (.ld 65 (.t 4) 4 true), .op (.fa 66 (.t 14) 0 9), .op (.ld 67 (.t 66) 9 true), .op (.call (some 68) nurseryref23_Full [(.t 65), (.t 67)]), .op (.un 69 .not (.t 68))] (.t 69)] (.t 70)])
   (.ite (.t 71)
     ((.seq (.reg [.op (.mv 8 (.k (.b false)))])
     (.seq (.keep [8]) .ret)))
     (.skip))))
   ((.seq (.reg [.op (.fa 72 (.t 14) 0 9),
     .op (.fa 73 (.t 72) 6 1),
     .op (.ld 74 (.t 73) 1 false),
     .op (.len 75 (.t 74) .sl),
     .op (.mv 76 (.k (.i .i64 0)))])
   (.blk 2 (.loop [4, 10, 12, 14, 39, 40, 41, 74, 75, 76] F_nurserylaw23_TopicValid_L0)))))))))))))
  (.reg [.op (.bin 97 .add (.t 41) (.k (.i .i64 1))),
    .op (.mv 41 (.t 97))]))))))

/-- nursery/nurserylaw23.TopicValid -/
def F_nurserylaw23_TopicValid : F := .mk
  ((.seq (.reg [.op (.box 4 (.t 0) 4 true),
    .op (.box 5 (.t 1) 9 true),
    .op (.box 6 (.t 2) 5 true),
    .op (.mv 8 (.k (.b false)))])
  ((.seq ((.seq (.reg [.op (.ld 20 (.t 5) 9 true),
    .op (.call (some 21) nurseryref19_Great [(.t 20)])])
  (.ite (.t 21)
    ((.seq (.reg [.op (.call (some 22) nurserylaw23_awake []),
      .op (.mv 8 (.t 22))])
    (.ret)))
    (.skip))))
  ((.seq (.reg [.op (.ld 24 (.t 4) 4 true),
    .op (.ld 25 (.t 5) 9 true),
    .op (.ld 26 (.t 6) 5 true),
    .op (.call (some 27) topic_Apply [(.t 24), (.t 25), (.t 26)]),
    .op (.mv 23 (.t 27)),
    .op (.ext 28 (.t 23) 0),
    .op (.ext 29 (.t 23) 1),
    .op (.new 9 [(.i .i64 0), (.i .i64 0), (.i .i64 0), (.sl 1 true []), (.sl 5 true []), (.sl 1 true []), (.sl 2 true []), (.b false), (.i .i64 0), (.b false), (.i .i64 0), (.b false), (.sl 5 true [])]),
    .op (.st (.t 9) (.t 28) 13 true),
    .op (.mv 10 (.t 29))])
  ((.seq (.reg [.op (.ld 31 (.t 4) 4 true),
    .op (.ld 32 (.t 5) 9 true),
    .op (.mv 33 (.t 3)),
    .op (.call (some 34) topic_Withdraw [(.t 31), (.t 32), (.t 33)]),
    .op (.mv 30 (.t 34)),
    .op (.ext 35 (.t 30) 0),
    .op (.ext 36 (.t 30) 1),
    .op (.new 11 [(.i .i64 0), (.i .i64 0), (.i .i64 0), (.sl 1 true []), (.sl 5 true []), (.sl 1 true []), (.sl 2 true []), (.b false), (.i .i64 0), (.b false), (.i .i64 0), (.b false), (.sl 5 true [])]),
    .op (.st (.t 11) (.t 35) 13 true),
    .op (.mv 12 (.t 36))])
  ((.seq ((.seq (.reg [.op (.ld 37 (.t 9) 13 true),
    .op (.ld 38 (.t 11) 13 true),
    .op (.buildSl 39 13 2 [(.i .i64 0), (.i .i64 0), (.i .i64 0), (.sl 1 true []), (.sl 5 true []), (.sl 1 true []), (.sl 2 true []), (.b false), (.i .i64 0), (.b false), (.i .i64 0), (.b false), (.sl 5 true [])] [(0, (.t 37)), (1, (.t 38))] true),
    .op (.len 40 (.t 39) .sl),
    .op (.mv 41 (.k (.i .i64 0)))])
  (.blk 0 (.loop [4, 10, 12, 39, 40, 41] F_nurserylaw23_TopicValid_L1))))
  ((.seq (.reg [.op (.call (some 98) nurserylaw23_awake []),
    .op (.mv 8 (.t 98))])
  (.ret)))))))))))))
  [.t 8] false none

/-- nursery/nurserylaw23.TopicUndo -/
def F_nurserylaw23_TopicUndo : F := .mk
  ((.seq (.reg [.op (.box 4 (.t 0) 4 true),
    .op (.box 5 (.t 1) 9 true),
    .op (.box 6 (.t 2) 5 true),
    .op (.mv 8 (.k (.b false)))])
  ((.seq ((.seq (.reg [.op (.ld 14 (.t 5) 9 true),
    .op (.call (some 15) nurseryref19_Great [(.t 14)])])
  (.ite (.t 15)
    ((.seq (.reg [.op (.call (some 16) nurserylaw23_awake []),
      .op (.mv 8 (.t 16))])
    (.ret)))
    (.skip))))
  ((.seq (.reg [.op (.ld 18 (.t 4) 4 true),
    .op (.ld 19 (.t 5) 9 true),
    .op (.mv 20 (.t 3)),
    .op (.call (some 21) topic_Withdraw [(.t 18), (.t 19), (.t 20)]),
    .op (.mv 17 (.t 21)),
    .op (.ext 22 (.t 17) 0),
    .op (.ext 23 (.t 17) 1),
    .op (.new 9 [(.i .i64 0), (.i .i64 0), (.i .i64 0), (.sl 1 true []), (.sl 5 true []), (.sl 1 true []), (.sl 2 true []), (.b false), (.i .i64 0), (.b false), (.i .i64 0), (.b false), (.sl 5 true [])]),
    .op (.st (.t 9) (.t 22) 13 false),
    .op (.mv 10 (.t 23))])
  ((.seq ((.seq (.reg [.op (.mv 24 (.t 10)),
    .op (.bin 25 .eql (.t 24) (.k (.i .i64 0)))])
  (.ite (.t 25)
    ((.seq (.reg [.op (.fa 26 (.t 9) 0 9),
      .op (.ld 27 (.t 26) 9 true),
      .op (.new 11 [(.i .i64 0), (.i .i64 0), (.i .i64 0), (.sl 1 true []), (.sl 5 true []), (.sl 1 true []), (.sl 2 true []), (.b false), (.i .i64 0)]),
      .op (.st (.t 11) (.t 27) 9 false)])
    ((.seq (.reg [.op (.fa 28 (.t 5) 4 1),
      .op (.ld 29 (.t 28) 1 false),
      .op (.fa 30 (.t 11) 4 1),
      .op (.st (.t 30) (.t 29) 1 false)])
    ((.seq (.reg [.op (.fa 31 (.t 9) 12 1),
      .op (.ld 32 (.t 31) 1 false),
      .op (.len 33 (.t 32) .sl),
      .op (.bin 34 .gtr (.t 33) (.k (.i .i64 0))),
      .op (.mv 35 (.t 34)),
      .sc true 40 35 [.op (.ld 36 (.t 11) 9 true), .op (.ld 37 (.t 5) 9 true), .op (.call (some 38) nurseryref19_SameState [(.t 36), (.t 37)]), .op (.un 39 .not (.t 38))] (.t 39),
      .op (.mv 41 (.t 40)),
      .sc true 51 41 [.op (.fa 42 (.t 9) 0 9), .op (.fa 43 (.t 42) 4 1), .op (.ld 44 (.t 43) 1 false), .op (.len 45 (.t 44) .sl), .op (.fa 46 (.t 5) 4 1), .op (.ld 47 (.t 46) 1 false), .op (.len 48 (.t 47) .sl), .op (.bin 49 .sub (.t 48) (.k (.i .i64 1))), .op (.bin 50 .neq (.t 45) (.t 49))] (.t 50)])
    (.ite (.t 51)
      ((.seq (.reg [.op (.mv 8 (.k (.b false)))])
      (.ret)))
      (.skip))))))))
    (.skip))))
  ((.seq (.reg [.op (.ld 53 (.t 4) 4 true),
    .op (.ld 54 (.t 5) 9 true),
    .op (.ld 55 (.t 6) 5 true),
    .op (.call (some 56) topic_Apply [(.t 53), (.t 54), (.t 55)]),
    .op (.mv 52 (.t 56)),
    .op (.ext 57 (.t 52) 0),
    .op (.ext 58 (.t 52) 1),
    .op (.new 12 [(.i .i64 0), (.i .i64 0), (.i .i64 0), (.sl 1 true []), (.sl 5 true []), (.sl 1 true []), (.sl 2 true []), (.b false), (.i .i64 0), (.b false), (.i .i64 0), (.b false), (.sl 5 true [])]),
    .op (.st (.t 12) (.t 57) 13 true),
    .op (.mv 13 (.t 58))])
  ((.seq ((.seq (.reg [.op (.mv 59 (.t 13)),
    .op (.bin 60 .neq (.t 59) (.k (.i .i64 0))),
    .op (.mv 61 (.t 60)),
    .sc true 65 61 [.op (.fa 62 (.t 12) 9 1), .op (.ld 63 (.t 62) 1 false), .op (.un 64 .not (.t 63))] (.t 64)])
  (.ite (.t 65)
    ((.seq (.reg [.op (.call (some 66) nurserylaw23_awake []),
      .op (.mv 8 (.t 66))])
    (.ret)))
    (.skip))))
  ((.seq (.reg [.op (.ld 68 (.t 4) 4 true),
    .op (.fa 69 (.t 12) 0 9),
    .op (.ld 70 (.t 69) 9 true),
    .op (.fa 71 (.t 6) 0 1),
    .op (.ld 72 (.t 71) 1 false),
    .op (.call (some 73) topic_Withdraw [(.t 68), (.t 70), (.t 72)]),
    .op (.mv 67 (.t 73)),
    .op (.ext 74 (.t 67) 0),
    .op (.ext 75 (.t 67) 1),
    .op (.st (.t 9) (.t 74) 13 false),
    .op (.mv 10 (.t 75))])
  ((.seq (.reg [.op (.mv 76 (.t 10)),
    .op (.bin 77 .eql (.t 76) (.k (.i .i64 0))),
    .op (.mv 78 (.t 77)),
    .sc false 83 78 [.op (.fa 79 (.t 9) 0 9), .op (.ld 80 (.t 79) 9 true), .op (.ld 81 (.t 5) 9 true), .op (.call (some 82) nurseryref19_SameState [(.t 80), (.t 81)])] (.t 82),
    .op (.mv 84 (.t 83)),
    .sc false 89 84 [.op (.fa 85 (.t 12) 12 1), .op (.ld 86 (.t 85) 1 false), .op (.len 87 (.t 86) .sl), .op (.bin 88 .eql (.t 87) (.k (.i .i64 0)))] (.t 88),
    .op (.mv 90 (.t 89)),
    .sc false 92 90 [.op (.call (some 91) nurserylaw23_awake [])] (.t 91),
    .op (.mv 8 (.t 92))])
  (.ret)))))))))))))))))
  [.t 8] false none

/-- nursery/nurserylaw23.TopicWithdraw -/
def F_nurserylaw23_TopicWithdraw : F := .mk
  ((.seq (.reg [.op (.box 4 (.t 0) 4 true),
    .op (.box 5 (.t 1) 9 true),
    .op (.box 6 (.t 2) 5 true),
    .op (.mv 8 (.k (.b false)))])
  ((.seq ((.seq (.reg [.op (.ld 17 (.t 5) 9 true),
    .op (.call (some 18) nurseryref19_Great [(.t 17)])])
  (.ite (.t 18)
    ((.seq (.reg [.op (.call (some 19) nurserylaw23_awake []),
      .op (.mv 8 (.t 19))])
    (.ret)))
    (.skip))))
  ((.seq (.reg [.op (.ld 21 (.t 4) 4 true),
    .op (.ld 22 (.t 5) 9 true),
    .op (.mv 23 (.t 3)),
    .op (.call (some 24) topic_Withdraw [(.t 21), (.t 22), (.t 23)]),
    .op (.mv 20 (.t 24)),
    .op (.ext 25 (.t 20) 0),
    .op (.ext 26 (.t 20) 1),
    .op (.new 9 [(.i .i64 0), (.i .i64 0), (.i .i64 0), (.sl 1 true []), (.sl 5 true []), (.sl 1 true []), (.sl 2 true []), (.b false), (.i .i64 0), (.b false), (.i .i64 0), (.b false), (.sl 5 true [])]),
    .op (.st (.t 9) (.t 25) 13 true),
    .op (.mv 10 (.t 26))])
  ((.seq (.reg [.op (.ld 28 (.t 4) 4 true),
    .op (.ld 29 (.t 5) 9 true),
    .op (.mv 30 (.t 3)),
    .op (.call (some 31) nurseryref23_Withdraw [(.t 28), (.t 29), (.t 30)]),
    .op (.mv 27 (.t 31)),
    .op (.ext 32 (.t 27) 0),
    .op (.ext 33 (.t 27) 1),
    .op (.new 11 [(.i .i64 0), (.i .i64 0), (.i .i64 0), (.sl 1 true []), (.sl 5 true []), (.sl 1 true []), (.sl 2 true []), (.b false), (.i .i64 0), (.b false), (.i .i64 0), (.b false), (.sl 5 true [])]),
    .op (.st (.t 11) (.t 32) 13 true),
    .op (.mv 12 (.t 33))])
  ((.seq (.reg [.op (.ld 35 (.t 5) 9 true),
    .op (.mv 36 (.t 3)),
    .op (.call (some 37) topic_Lag [(.t 35), (.t 36)]),
    .op (.mv 34 (.t 37)),
    .op (.ext 38 (.t 34) 0),
    .op (.ext 39 (.t 34) 1),
    .op (.mv 13 (.t 38)),
    .op (.mv 14 (.t 39))])
  ((.seq (.reg [.op (.ld 41 (.t 5) 9 true),
    .op (.mv 42 (.t 3)),
    .op (.call (some 43) nurseryref23_Lag [(.t 41), (.t 42)]),
    .op (.mv 40 (.t 43)),
    .op (.ext 44 (.t 40) 0),
    .op (.ext 45 (.t 40) 1),
    .op (.mv 15 (.t 44)),
    .op (.mv 16 (.t 45))])
  ((.seq (.drw [] [0, 1, 2, 3, 4, 5, 6, 7, 8, 9, 10, 11, 12, 13, 14, 15, 16, 17, 18, 19, 20, 21, 22, 23, 24, 25, 26, 27, 28, 29, 30, 31, 32] [.op (.ldd 46 (.t 9) 13 true),
    .op (.ldd 47 (.t 11) 13 true),
    .op (.call (some 48) nurseryref19_SameReply [(.t 46), (.t 47)]),
    .op (.mv 49 (.t 48)),
    .sc false 53 49 [.op (.mv 50 (.t 10)), .op (.mv 51 (.t 12)), .op (.bin 52 .eql (.t 50) (.t 51))] (.t 52),
    .op (.mv 54 (.t 53)),
    .sc false 64 54 [.op (.ldd 55 (.t 4) 4 true), .op (.ldd 56 (.t 5) 9 true), .op (.ldd 57 (.t 6) 5 true), .op (.call (some 58) topic_Ready [(.t 55), (.t 56), (.t 57)]), .op (.ldd 59 (.t 4) 4 true), .op (.ldd 60 (.t 5) 9 true), .op (.ldd 61 (.t 6) 5 true), .op (.call (some 62) nurseryref23_Ready [(.t 59), (.t 60), (.t 61)]), .op (.eqb 63 false (.t 58) (.t 62))] (.t 63),
    .op (.mv 65 (.t 64)),
    .sc false 69 65 [.op (.mv 66 (.t 13)), .op (.mv 67 (.t 15)), .op (.bin 68 .eql (.t 66) (.t 67))] (.t 68),
    .op (.mv 70 (.t 69)),
    .sc false 74 70 [.op (.mv 71 (.t 14)), .op (.mv 72 (.t 16)), .op (.bin 73 .eql (.t 71) (.t 72))] (.t 73),
    .op (.mv 75 (.t 74)),
    .sc false 77 75 [.op (.call (some 76) nurserylaw23_awake [])] (.t 76),
    .op (.mv 8 (.t 77))])
  (.ret)))))))))))))))
  [.t 8] false none

def F_nurserylaw23_TopicDelivers_L0 : C :=
  (.seq (.reg [.op (.bin 33 .lss (.t 32) (.t 31))])
  ((.seq (.ite (.t 33)
    (.skip)
    (.seq (.keep []) (.exit 0)))
  ((.seq (.blk 1 ((.seq (.reg [.op (.ixs 34 (.t 30) (.t 32) 5),
     .op (.ld 35 (.t 34) 5 true),
     .op (.new 9 [(.i .i64 0), (.i .i64 0), (.i .i64 0), (.i .i64 0), (.i .i64 0)]),
     .op (.st (.t 9) (.t 35) 5 true)])
   ((.seq (.reg [.op (.ld 37 (.t 2) 4 true),
     .op (.ld 38 (.t 5) 9 true),
     .op (.ld 39 (.t 9) 5 true),
     .op (.call (some 40) topic_Apply [(.t 37), (.t 38), (.t 39)]),
     .op (.mv 36 (.t 40)),
     .op (.ext 41 (.t 36) 0),
     .op (.ext 42 (.t 36) 1),
     .op (.new 10 [(.i .i64 0), (.i .i64 0), (.i .i64 0), (.sl 1 true []), (.sl 5 true []), (.sl 1 true []), (.sl 2 true []), (.b false), (.i .i64 0), (.b false), (.i .i64 0), (.b false), (.sl 5 true [])]),
     .op (.st (.t 10) (.t 41) 13 true),
     .op (.mv 11 (.t 42))])
   ((.seq ((.seq (.reg [.op (.mv 43 (.t 11)),
     .op (.bin 44 .neq (.t 43) (.k (.i .i64 0)))])
   (.ite (.t 44)
     (.seq (.keep [2, 5, 7, 30, 31, 32]) (.exit 1))
     (.skip))))
   ((.seq ((.seq (.reg [.op (.mv 45 (.t 7)),
     .op (.ld 46 (.t 9) 5 true),
     .op (.ld 47 (.t 10) 13 true),
     .op (.call (some 48) nurserylaw23_book_note [(.t 45), (.t 46), (.t 47)]),
     .op (.un 49 .not (.t 48)),
     .op (.mv 50 (.t 49)),
     .sc true 56 50 [.op (.mv 51 (.t 7)), .op (.fa 52 (.t 10) 0 9), .op (.ld 53 (.t 52) 9 true), .op (.call (some 54) nurserylaw23_book_fine [(.t 51), (.t 53)]), .op (.un 55 .not (.t 54))] (.t 55)])
   (.ite (.t 56)
     ((.seq (.reg [.op (.mv 4 (.k (.b false)))])
     (.seq (.keep [4]) .ret)))
     (.skip))))
   (.reg [.op (.fa 57 (.t 10) 0 9),
     .op (.ld 58 (.t 57) 9 true),
     .op (.st (.t 5) (.t 58) 9 false)]))))))))))
  (.reg [.op (.bin 59 .add (.t 32) (.k (.i .i64 1))),
    .op (.mv 32 (.t 59))]))))))

/-- nursery/nurserylaw23.TopicDelivers -/
def F_nurserylaw23_TopicDelivers : F := .mk
  ((.seq (.reg [.op (.box 2 (.t 0) 4 true),
    .op (.mv 4 (.k (.b false)))])
  ((.seq (.reg [.op (.ld 13 (.t 2) 4 true),
    .op (.call (some 14) topic_New [(.t 13)]),
    .op (.mv 12 (.t 14)),
    .op (.ext 15 (.t 12) 0),
    .op (.ext 16 (.t 12) 1),
    .op (.new 5 [(.i .i64 0), (.i .i64 0), (.i .i64 0), (.sl 1 true []), (.sl 5 true []), (.sl 1 true []), (.sl 2 true []), (.b false), (.i .i64 0)]),
    .op (.st (.t 5) (.t 15) 9 false),
    .op (.mv 6 (.t 16))])
  ((.seq ((.seq (.reg [.op (.mv 17 (.t 6)),
    .op (.bin 18 .neq (.t 17) (.k (.i .i64 0))),
    .op (.mv 19 (.t 18)),
    .sc true 23 19 [.op (.mv 20 (.t 1)), .op (.len 21 (.t 20) .sl), .op (.bin 22 .gtr (.t 21) (.k (.i .i64 20)))] (.t 22)])
  (.ite (.t 23)
    ((.seq (.reg [.op (.call (some 24) nurserylaw23_awake []),
      .op (.mv 4 (.t 24))])
    (.ret)))
    (.skip))))
  ((.seq (.reg [.op (.mkm 25),
    .op (.mkm 26),
    .op (.mkm 27),
    .op (.build 28 [.nilmap, .nilmap, .nilmap, (.sl 1 true [])] [(0, 1, (.t 25)), (1, 1, (.t 26)), (2, 1, (.t 27))]),
    .op (.box 29 (.t 28) 4 false),
    .op (.mv 7 (.t 29))])
  ((.seq ((.seq (.reg [.op (.mv 30 (.t 1)),
    .op (.len 31 (.t 30) .sl),
    .op (.mv 32 (.k (.i .i64 0)))])
  (.blk 0 (.loop [2, 5, 7, 30, 31, 32] F_nurserylaw23_TopicDelivers_L0))))
  ((.seq (.reg [.op (.call (some 60) nurserylaw23_awake []),
    .op (.mv 4 (.t 60))])
  (.ret)))))))))))))
  [.t 4] false none

def F_nurseryref19_Great_L0 : C :=
  (.seq ((.seq (.reg [.op (.mv 26 (.t 3)),
    .op (.fa 27 (.t 1) 6 1),
    .op (.ld 28 (.t 27) 1 false),
    .op (.len 29 (.t 28) .sl),
    .op (.bin 30 .lss (.t 26) (.t 29))])
  (.ite (.t 30)
    (.skip)
    (.seq (.keep []) (.exit 0)))))
  ((.seq (.blk 1 ((.seq (.reg [.op (.fa 33 (.t 1) 6 1),
     .op (.ld 34 (.t 33) 1 false),
     .op (.mv 35 (.t 3)),
     .op (.ixs 36 (.t 34) (.t 35) 2),
     .op (.fa 37 (.t 36) 1 1),
     .op (.ld 38 (.t 37) 1 false),
     .op (.len 39 (.t 38) .sl),
     .op (.bin 40 .gtr (.t 39) (.k (.i .i64 12)))])
   (.ite (.t 40)
     ((.seq (.reg [.op (.mv 2 (.k (.b true)))])
     (.seq (.keep [2]) .ret)))
     (.skip)))))
  (.reg [.op (.mv 31 (.t 3)),
    .op (.bin 32 .add (.t 31) (.k (.i .i64 1))),
    .op (.mv 3 (.t 32))]))))

/-- nursery/nurseryref19.Great -/
def F_nurseryref19_Great : F := .mk
  ((.seq (.reg [.op (.box 1 (.t 0) 9 true),
    .op (.mv 2 (.k (.b false)))])
  ((.seq ((.seq (.reg [.op (.fa 4 (.t 1) 4 1),
    .op (.ld 5 (.t 4) 1 false),
    .op (.len 6 (.t 5) .sl),
    .op (.bin 7 .gtr (.t 6) (.k (.i .i64 12))),
    .op (.mv 8 (.t 7)),
    .sc true 13 8 [.op (.fa 9 (.t 1) 3 1), .op (.ld 10 (.t 9) 1 false), .op (.len 11 (.t 10) .sl), .op (.bin 12 .gtr (.t 11) (.k (.i .i64 12)))] (.t 12),
    .op (.mv 14 (.t 13)),
    .sc true 19 14 [.op (.fa 15 (.t 1) 5 1), .op (.ld 16 (.t 15) 1 false), .op (.len 17 (.t 16) .sl), .op (.bin 18 .gtr (.t 17) (.k (.i .i64 12)))] (.t 18),
    .op (.mv 20 (.t 19)),
    .sc true 25 20 [.op (.fa 21 (.t 1) 6 1), .op (.ld 22 (.t 21) 1 false), .op (.len 23 (.t 22) .sl), .op (.bin 24 .gtr (.t 23) (.k (.i .i64 12)))] (.t 24)])
  (.ite (.t 25)
    ((.seq (.reg [.op (.mv 2 (.k (.b true)))])
    (.ret)))
    (.skip))))
  ((.seq ((.seq (.reg [.op (.mv 3 (.k (.i .i64 0)))])
  (.blk 0 (.loop [1, 3] F_nurseryref19_Great_L0))))
  ((.seq (.reg [.op (.mv 2 (.k (.b false)))])
  (.ret)))))))))
  [.t 2] false none

def F_nurserylaw23_awake_L0 : C :=
  (.seq (.reg [.op (.bin 27 .lss (.t 26) (.t 25))])
  ((.seq (.ite (.t 27)
    (.skip)
    (.seq (.keep [1, 2, 3, 4]) (.exit 0)))
  ((.seq (.blk 1 ((.seq (.reg [.op (.ixs 28 (.t 24) (.t 26) 5),
     .op (.ld 29 (.t 28) 5 true),
     .op (.new 6 [(.i .i64 0), (.i .i64 0), (.i .i64 0), (.i .i64 0), (.i .i64 0)]),
     .op (.st (.t 6) (.t 29) 5 true)])
   ((.seq ((.seq (.reg [.op (.mv 30 (.t 3)),
     .op (.bin 31 .neq (.t 30) (.k (.i .i64 0)))])
   (.ite (.t 31)
     ((.seq (.reg [.op (.mv 0 (.k (.b false)))])
     (.seq (.keep [0]) .ret)))
     (.skip))))
   ((.seq (.reg [.op (.ld 33 (.t 1) 4 true),
     .op (.ld 34 (.t 2) 9 true),
     .op (.ld 35 (.t 6) 5 true),
     .op (.call (some 36) topic_Apply [(.t 33), (.t 34), (.t 35)]),
     .op (.mv 32 (.t 36)),
     .op (.ext 37 (.t 32) 0),
     .op (.ext 38 (.t 32) 1),
     .op (.st (.t 4) (.t 37) 13 false),
     .op (.mv 3 (.t 38))])
   (.reg [.op (.fa 39 (.t 4) 0 9),
     .op (.ld 40 (.t 39) 9 true),
     .op (.st (.t 2) (.t 40) 9 false)]))))))))
  (.reg [.op (.bin 41 .add (.t 26) (.k (.i .i64 1))),
    .op (.mv 26 (.t 41))]))))))

/-- nursery/nurserylaw23.awake -/
def F_nurserylaw23_awake : F := .mk
  ((.seq (.reg [.op (.mv 0 (.k (.b false)))])
  ((.seq (.reg [.op (.build 13 [(.s []), (.i .i64 0), (.i .i64 0), (.i .i64 0)] [(1, 1, (.k (.i .i64 7))), (2, 1, (.k (.i .i64 1)))]),
    .op (.new 1 [(.s []), (.i .i64 0), (.i .i64 0), (.i .i64 0)]),
    .op (.st (.t 1) (.t 13) 4 true)])
  ((.seq (.reg [.op (.ld 15 (.t 1) 4 true),
    .op (.call (some 16) topic_New [(.t 15)]),
    .op (.mv 14 (.t 16)),
    .op (.ext 17 (.t 14) 0),
    .op (.ext 18 (.t 14) 1),
    .op (.new 2 [(.i .i64 0), (.i .i64 0), (.i .i64 0), (.sl 1 true []), (.sl 5 true []), (.sl 1 true []), (.sl 2 true []), (.b false), (.i .i64 0)]),
    .op (.st (.t 2) (.t 17) 9 false),
    .op (.mv 3 (.t 18))])
  ((.seq (.reg [.op (.new 4 [(.i .i64 0), (.i .i64 0), (.i .i64 0), (.sl 1 true []), (.sl 5 true []), (.sl 1 true []), (.sl 2 true []), (.b false), (.i .i64 0), (.b false), (.i .i64 0), (.b false), (.sl 5 true [])])])
  ((.seq ((.seq (.reg [.op (.call (some 19) nurserylaw23_call [(.k (.i .i64 1)), (.k (.i .i64 69)), (.k (.i .i64 0))]),
    .op (.call (some 20) nurserylaw23_call [(.k (.i .i64 2)), (.k (.i .i64 69)), (.k (.i .i64 0))]),
    .op (.call (some 21) nurserylaw23_call [(.k (.i .i64 2)), (.k (.i .i64 70)), (.k (.i .i64 0))]),
    .op (.call (some 22) nurserylaw23_call [(.k (.i .i64 3)), (.k (.i .i64 68)), (.k (.i .i64 7))]),
    .op (.call (some 23) nurserylaw23_call [(.k (.i .i64 3)), (.k (.i .i64 68)), (.k (.i .i64 8))]),
    .op (.buildSl 24 5 5 [(.i .i64 0), (.i .i64 0), (.i .i64 0), (.i .i64 0), (.i .i64 0)] [(0, (.t 19)), (1, (.t 20)), (2, (.t 21)), (3, (.t 22)), (4, (.t 23))] true),
    .op (.len 25 (.t 24) .sl),
    .op (.mv 26 (.k (.i .i64 0)))])
  (.blk 0 (.loop [1, 2, 3, 4, 24, 25, 26] F_nurserylaw23_awake_L0))))
  ((.seq (.seq (.drw [] [0, 1, 2, 3, 4, 5, 6, 7, 8, 9] [.op (.ldd 43 (.t 1) 4 true),
    .op (.ld 44 (.t 2) 9 true),
    .op (.call (some 45) nurserylaw23_call [(.k (.i .i64 1)), (.k (.i .i64 70)), (.k (.i .i64 0))]),
    .op (.call (some 46) topic_Apply [(.t 43), (.t 44), (.t 45)]),
    .op (.mv 42 (.t 46)),
    .op (.ext 47 (.t 42) 0),
    .op (.ext 48 (.t 42) 1),
    .op (.new 7 [(.i .i64 0), (.i .i64 0), (.i .i64 0), (.sl 1 true []), (.sl 5 true []), (.sl 1 true []), (.sl 2 true []), (.b false), (.i .i64 0), (.b false), (.i .i64 0), (.b false), (.sl 5 true [])]),
    .re (.ld 44 (.t 2) 9 true),
    .op (.st (.t 7) (.t 47) 13 false),
    .op (.mv 8 (.t 48))])
  (.frz [7]))
  ((.seq (.reg [.op (.fa 50 (.t 7) 0 9),
    .op (.ld 51 (.t 50) 9 true),
    .op (.call (some 52) topic_Lag [(.t 51), (.k (.i .i64 1))]),
    .op (.mv 49 (.t 52)),
    .op (.ext 53 (.t 49) 0),
    .op (.ext 54 (.t 49) 1),
    .op (.mv 9 (.t 53)),
    .op (.mv 10 (.t 54))])
  ((.seq (.reg [.op (.fa 56 (.t 7) 0 9),
    .op (.ld 57 (.t 56) 9 true),
    .op (.call (some 58) topic_Lag [(.t 57), (.k (.i .i64 2))]),
    .op (.mv 55 (.t 58)),
    .op (.ext 59 (.t 55) 0),
    .op (.ext 60 (.t 55) 1),
    .op (.mv 11 (.t 59)),
    .op (.mv 12 (.t 60))])
  ((.seq (.reg [.op (.mv 61 (.t 3)),
    .op (.bin 62 .eql (.t 61) (.k (.i .i64 0))),
    .op (.mv 63 (.t 62)),
    .sc false 66 63 [.op (.mv 64 (.t 8)), .op (.bin 65 .eql (.t 64) (.k (.i .i64 0)))] (.t 65),
    .op (.mv 67 (.t 66)),
    .sc false 70 67 [.op (.mv 68 (.t 10)), .op (.bin 69 .eql (.t 68) (.k (.i .i64 0)))] (.t 69),
    .op (.mv 71 (.t 70)),
    .sc false 74 71 [.op (.mv 72 (.t 12)), .op (.bin 73 .eql (.t 72) (.k (.i .i64 0)))] (.t 73),
    .op (.mv 75 (.t 74)),
    .sc false 78 75 [.op (.fa 76 (.t 4) 9 1), .op (.ld 77 (.t 76) 1 false)] (.t 77),
    .op (.mv 79 (.t 78)),
    .sc false 83 79 [.op (.fa 80 (.t 7) 10 1), .op (.ld 81 (.t 80) 1 false), .op (.bin 82 .eql (.t 81) (.k (.i .i64 7)))] (.t 82),
    .op (.mv 84 (.t 83)),
    .sc false 87 84 [.op (.fa 85 (.t 7) 11 1), .op (.ld 86 (.t 85) 1 false)] (.t 86),
    .op (.mv 88 (.t 87)),
    .sc false 93 88 [.op (.fa 89 (.t 7) 12 1), .op (.ld 90 (.t 89) 1 false), .op (.len 91 (.t 90) .sl), .op (.bin 92 .eql (.t 91) (.k (.i .i64 1)))] (.t 92),
    .op (.mv 94 (.t 93)),
    .sc false 101 94 [.op (.fa 95 (.t 7) 12 1), .op (.ld 96 (.t 95) 1 false), .op (.ixs 97 (.t 96) (.k (.i .i64 0)) 5), .op (.fa 98 (.t 97) 0 1), .op (.ld 99 (.t 98) 1 false), .op (.bin 100 .eql (.t 99) (.k (.i .i64 3)))] (.t 100),
    .op (.mv 102 (.t 101)),
    .sc false 105 102 [.op (.mv 103 (.t 9)), .op (.bin 104 .eql (.t 103) (.k (.i .i64 1)))] (.t 104),
    .op (.mv 106 (.t 105)),
    .sc false 109 106 [.op (.mv 107 (.t 11)), .op (.bin 108 .eql (.t 107) (.k (.i .i64 1)))] (.t 108),
    .op (.mv 0 (.t 109))])
  (.ret)))))))))))))))))))
  [.t 0] false none

/-- nursery/topic.New -/
def F_topic_New : F := .mk
  ((.seq (.reg [.op (.box 1 (.t 0) 4 true),
    .op (.new 2 [(.i .i64 0), (.i .i64 0), (.i .i64 0), (.sl 1 true []), (.sl 5 true []), (.sl 1 true []), (.sl 2 true []), (.b false), (.i .i64 0)]),
    .op (.mv 3 (.k (.i .i64 0)))])
  ((.seq ((.seq (.reg [.op (.fa 4 (.t 1) 1 1),
    .op (.ld 5 (.t 4) 1 false),
    .op (.bin 6 .neq (.t 5) (.k (.i .i64 7)))])
  (.ite (.t 6)
    ((.seq (.reg [.op (.build 7 [(.i .i64 0), (.i .i64 0), (.i .i64 0), (.sl 1 true []), (.sl 5 true []), (.sl 1 true []), (.sl 2 true []), (.b false), (.i .i64 0)] []),
      .op (.st (.t 2) (.t 7) 9 false),
      .op (.mv 3 (.k (.i .i64 8)))])
    (.ret)))
    (.skip))))
  ((.seq ((.seq (.reg [.op (.fa 8 (.t 1) 2 1),
    .op (.ld 9 (.t 8) 1 false),
    .op (.bin 10 .lss (.t 9) (.k (.i .i64 0))),
    .op (.mv 11 (.t 10)),
    .sc true 15 11 [.op (.fa 12 (.t 1) 2 1), .op (.ld 13 (.t 12) 1 false), .op (.bin 14 .gtr (.t 13) (.k (.i .i64 100)))] (.t 14),
    .op (.mv 16 (.t 15)),
    .sc true 20 16 [.op (.fa 17 (.t 1) 3 1), .op (.ld 18 (.t 17) 1 false), .op (.bin 19 .neq (.t 18) (.k (.i .i64 0)))] (.t 19)])
  (.ite (.t 20)
    ((.seq (.reg [.op (.build 21 [(.i .i64 0), (.i .i64 0), (.i .i64 0), (.sl 1 true []), (.sl 5 true []), (.sl 1 true []), (.sl 2 true []), (.b false), (.i .i64 0)] []),
      .op (.st (.t 2) (.t 21) 9 false),
      .op (.mv 3 (.k (.i .i64 2)))])
    (.ret)))
    (.skip))))
  ((.seq (.reg [.op (.build 22 [(.i .i64 0), (.i .i64 0), (.i .i64 0), (.sl 1 true []), (.sl 5 true []), (.sl 1 true []), (.sl 2 true []), (.b false), (.i .i64 0)] [(0, 1, (.k (.i .i64 (-1))))]),
    .op (.st (.t 2) (.t 22) 9 false),
    .op (.mv 3 (.k (.i .i64 0)))])
  (.ret)))))))))
  [.c 2 9 true, .t 3] false none

/-- nursery/nurseryref23.New -/
def F_nurseryref23_New : F := .mk
  ((.seq (.reg [.op (.box 1 (.t 0) 4 true),
    .op (.new 2 [(.i .i64 0), (.i .i64 0), (.i .i64 0), (.sl 1 true []), (.sl 5 true []), (.sl 1 true []), (.sl 2 true []), (.b false), (.i .i64 0)]),
    .op (.mv 3 (.k (.i .i64 0)))])
  ((.seq ((.seq (.reg [.op (.fa 4 (.t 1) 1 1),
    .op (.ld 5 (.t 4) 1 false),
    .op (.bin 6 .neq (.t 5) (.k (.i .i64 7)))])
  (.ite (.t 6)
    ((.seq (.reg [.op (.build 7 [(.i .i64 0), (.i .i64 0), (.i .i64 0), (.sl 1 true []), (.sl 5 true []), (.sl 1 true []), (.sl 2 true []), (.b false), (.i .i64 0)] []),
      .op (.st (.t 2) (.t 7) 9 false),
      .op (.mv 3 (.k (.i .i64 8)))])
    (.ret)))
    (.skip))))
  ((.seq ((.seq (.reg [.op (.fa 8 (.t 1) 2 1),
    .op (.ld 9 (.t 8) 1 false),
    .op (.call (some 10) nurseryref23_within [(.t 9), (.k (.i .i64 0)), (.k (.i .i64 100))]),
    .op (.un 11 .not (.t 10)),
    .op (.mv 12 (.t 11)),
    .sc true 16 12 [.op (.fa 13 (.t 1) 3 1), .op (.ld 14 (.t 13) 1 false), .op (.bin 15 .neq (.t 14) (.k (.i .i64 0)))] (.t 15)])
  (.ite (.t 16)
    ((.seq (.reg [.op (.build 17 [(.i .i64 0), (.i .i64 0), (.i .i64 0), (.sl 1 true []), (.sl 5 true []), (.sl 1 true []), (.sl 2 true []), (.b false), (.i .i64 0)] []),
      .op (.st (.t 2) (.t 17) 9 false),
      .op (.mv 3 (.k (.i .i64 2)))])
    (.ret)))
    (.skip))))
  ((.seq (.reg [.op (.build 18 [(.i .i64 0), (.i .i64 0), (.i .i64 0), (.sl 1 true []), (.sl 5 true []), (.sl 1 true []), (.sl 2 true []), (.b false), (.i .i64 0)] [(0, 1, (.k (.i .i64 (-1))))]),
    .op (.st (.t 2) (.t 18) 9 false),
    .op (.mv 3 (.k (.i .i64 0)))])
  (.ret)))))))))
  [.c 2 9 true, .t 3] false none

/-- nursery/topic.Apply -/
def F_topic_Apply : F := .mk
  ((.seq (.reg [.op (.box 3 (.t 0) 4 true),
    .op (.box 4 (.t 1) 9 true),
    .op (.box 5 (.t 2) 5 true),
    .op (.new 6 [(.i .i64 0), (.i .i64 0), (.i .i64 0), (.sl 1 true []), (.sl 5 true []), (.sl 1 true []), (.sl 2 true []), (.b false), (.i .i64 0), (.b false), (.i .i64 0), (.b false), (.sl 5 true [])]),
    .op (.mv 7 (.k (.i .i64 0)))])
  ((.seq ((.seq (.reg [.op (.ld 13 (.t 3) 4 true),
    .op (.ld 14 (.t 4) 9 true),
    .op (.call (some 15) topic_Check [(.t 13), (.t 14)]),
    .op (.bin 16 .neq (.t 15) (.k (.i .i64 0)))])
  (.ite (.t 16)
    ((.seq (.reg [.op (.build 17 [(.i .i64 0), (.i .i64 0), (.i .i64 0), (.sl 1 true []), (.sl 5 true []), (.sl 1 true []), (.sl 2 true []), (.b false), (.i .i64 0), (.b false), (.i .i64 0), (.b false), (.sl 5 true [])] []),
      .op (.st (.t 6) (.t 17) 13 false),
      .op (.mv 7 (.k (.i .i64 1)))])
    (.ret)))
    (.skip))))
  ((.seq ((.seq (.reg [.op (.ld 18 (.t 4) 9 true),
    .op (.ld 19 (.t 5) 5 true),
    .op (.call (some 20) topic_call [(.t 18), (.t 19)]),
    .op (.mv 8 (.t 20))])
  ((.seq (.reg [.op (.mv 21 (.t 8)),
    .op (.bin 22 .neq (.t 21) (.k (.i .i64 0)))])
  (.ite (.t 22)
    ((.seq (.reg [.op (.build 23 [(.i .i64 0), (.i .i64 0), (.i .i64 0), (.sl 1 true []), (.sl 5 true []), (.sl 1 true []), (.sl 2 true []), (.b false), (.i .i64 0), (.b false), (.i .i64 0), (.b false), (.sl 5 true [])] []),
      .op (.mv 24 (.t 8)),
      .op (.st (.t 6) (.t 23) 13 false),
      .op (.mv 7 (.t 24))])
    (.ret)))
    (.skip))))))
  ((.seq (.reg [.op (.ld 25 (.t 3) 4 true),
    .op (.ld 26 (.t 4) 9 true),
    .op (.callk (some 27) topic_begin [(.t 25), (.t 26)]),
    .op (.new 9 [.nil]),
    .op (.st (.t 9) (.t 27) 1 true)])
  ((.seq (.reg [.op (.mkm 28),
    .op (.mkf 29 topic_ApplyC1 [] [(.t 9), (.t 5)]),
    .op (.mput (.t 28) (.k (.i .i64 69)) (.t 29) [.i]),
    .op (.mkf 30 topic_ApplyC2 [] [(.t 9), (.t 5)]),
    .op (.mput (.t 28) (.k (.i .i64 71)) (.t 30) [.i]),
    .op (.mkf 31 topic_ApplyC3 [] [(.t 9), (.t 5)]),
    .op (.mput (.t 28) (.k (.i .i64 68)) (.t 31) [.i]),
    .op (.mkf 32 topic_ApplyC4 [] [(.t 9), (.t 5)]),
    .op (.mput (.t 28) (.k (.i .i64 70)) (.t 32) [.i]),
    .op (.mv 33 (.t 28)),
    .op (.mv 10 (.t 33))])
  ((.seq (.reg [.op (.mv 34 (.t 10)),
    .op (.fa 35 (.t 5) 1 1),
    .op (.ld 36 (.t 35) 1 false),
    .op (.mget 37 (.t 34) (.t 36) .nilfn false [.i]),
    .op (.mv 11 (.t 37))])
  ((.seq (.reg [.op (.mv 38 (.t 11)),
    .op (.callvr (some 39) (.t 38) []),
    .op (.new 12 [(.i .i64 0), (.i .i64 0), (.i .i64 0), (.sl 1 true []), (.sl 5 true []), (.sl 1 true []), (.sl 2 true []), (.b false), (.i .i64 0), (.b false), (.i .i64 0), (.b false), (.sl 5 true [])]),
    .op (.st (.t 12) (.t 39) 13 false)])
  ((.seq (.drw [] [0, 1, 2, 3, 4, 5, 6, 7, 8, 9, 10, 11] [.op (.ldd 40 (.t 9) 1 false),
    .op (.nck 41 (.t 40)),
    .op (.fa 42 (.t 41) 1 9),
    .op (.ld 43 (.t 42) 9 true),
    .op (.ldd 44 (.t 9) 1 false),
    .op (.nck 45 (.t 44)),
    .op (.fa 46 (.t 45) 10 1),
    .op (.ld 47 (.t 46) 1 false),
    .op (.fa 48 (.t 12) 0 9),
    .op (.st (.t 48) (.t 43) 9 false),
    .re (.fa 46 (.t 45) 10 1),
    .re (.ld 47 (.t 46) 1 false),
    .op (.fa 49 (.t 12) 12 1),
    .op (.st (.t 49) (.t 47) 1 false)])
  ((.seq (.reg [.op (.ld 50 (.t 12) 13 true),
    .op (.st (.t 6) (.t 50) 13 false),
    .op (.mv 7 (.k (.i .i64 0)))])
  (.ret)))))))))))))))))))
  [.c 6 13 true, .t 7] false none

/-- nursery/nurseryref23.Apply -/
def F_nurseryref23_Apply : F := .mk
  ((.seq (.reg [.op (.box 3 (.t 0) 4 true),
    .op (.box 4 (.t 1) 9 false),
    .op (.box 5 (.t 2) 5 true),
    .op (.new 6 [(.i .i64 0), (.i .i64 0), (.i .i64 0), (.sl 1 true []), (.sl 5 true []), (.sl 1 true []), (.sl 2 true []), (.b false), (.i .i64 0), (.b false), (.i .i64 0), (.b false), (.sl 5 true [])]),
    .op (.mv 7 (.k (.i .i64 0)))])
  ((.seq ((.seq (.reg [.op (.ld 13 (.t 3) 4 true),
    .op (.ld 14 (.t 4) 9 true),
    .op (.ld 15 (.t 5) 5 true),
    .op (.call (some 16) nurseryref23_check [(.t 13), (.t 14), (.t 15)]),
    .op (.mv 8 (.t 16))])
  ((.seq (.reg [.op (.mv 17 (.t 8)),
    .op (.bin 18 .neq (.t 17) (.k (.i .i64 0)))])
  (.ite (.t 18)
    ((.seq (.reg [.op (.build 19 [(.i .i64 0), (.i .i64 0), (.i .i64 0), (.sl 1 true []), (.sl 5 true []), (.sl 1 true []), (.sl 2 true []), (.b false), (.i .i64 0), (.b false), (.i .i64 0), (.b false), (.sl 5 true [])] []),
      .op (.mv 20 (.t 8)),
      .op (.st (.t 6) (.t 19) 13 false),
      .op (.mv 7 (.t 20))])
    (.ret)))
    (.skip))))))
  ((.seq ((.seq (.reg [.op (.fa 21 (.t 5) 1 1),
    .op (.ld 22 (.t 21) 1 false)])
  (.blk 0 ((.seq (.reg [.op (.bin 24 .eql (.t 22) (.k (.i .i64 69))),
     .op (.mv 23 (.t 24))])
   (.ite (.t 23)
     ((.seq (.reg [.op (.ld 25 (.t 4) 9 true),
       .op (.fa 26 (.t 5) 0 1),
       .op (.ld 27 (.t 26) 1 false),
       .op (.call (some 28) nurseryref23_subscribe [(.t 25), (.t 27)]),
       .op (.build 29 [(.i .i64 0), (.i .i64 0), (.i .i64 0), (.sl 1 true []), (.sl 5 true []), (.sl 1 true []), (.sl 2 true []), (.b false), (.i .i64 0), (.b false), (.i .i64 0), (.b false), (.sl 5 true [])] [(0, 9, (.t 28)), (11, 1, (.k (.b true)))]),
       .op (.st (.t 6) (.t 29) 13 false),
       .op (.mv 7 (.k (.i .i64 0)))])
     (.ret)))
     ((.seq (.reg [.op (.bin 31 .eql (.t 22) (.k (.i .i64 71))),
       .op (.mv 30 (.t 31))])
     (.ite (.t 30)
       ((.seq (.seq (.drw [] [0, 1, 2, 3, 4, 5, 6, 7, 8, 9, 10, 11] [.op (.ldd 33 (.t 3) 4 true),
         .op (.ld 34 (.t 4) 9 true),
         .op (.fad 35 (.t 5) 0 1),
         .op (.ldd 36 (.t 35) 1 false),
         .op (.call (some 37) nurseryref23_without [(.t 34), (.t 36)]),
         .op (.call (some 38) nurseryref23_advance [(.t 33), (.t 37)]),
         .op (.mv 32 (.t 38)),
         .op (.ext 39 (.t 32) 0),
         .op (.ext 40 (.t 32) 1),
         .op (.new 9 [(.i .i64 0), (.i .i64 0), (.i .i64 0), (.sl 1 true []), (.sl 5 true []), (.sl 1 true []), (.sl 2 true []), (.b false), (.i .i64 0)]),
         .re (.ld 34 (.t 4) 9 true),
         .op (.st (.t 9) (.t 39) 9 false),
         .op (.mv 10 (.t 40))])
       (.frz [9]))
       ((.seq (.reg [.op (.ld 41 (.t 9) 9 true),
         .op (.mv 42 (.t 10)),
         .op (.build 43 [(.i .i64 0), (.i .i64 0), (.i .i64 0), (.sl 1 true []), (.sl 5 true []), (.sl 1 true []), (.sl 2 true []), (.b false), (.i .i64 0), (.b false), (.i .i64 0), (.b false), (.sl 5 true [])] [(0, 9, (.t 41)), (11, 1, (.k (.b true))), (12, 1, (.t 42))]),
         .op (.st (.t 6) (.t 43) 13 false),
         .op (.mv 7 (.k (.i .i64 0)))])
       (.ret)))))
       ((.seq (.reg [.op (.bin 45 .eql (.t 22) (.k (.i .i64 70))),
         .op (.mv 44 (.t 45))])
       (.ite (.t 44)
         ((.seq (.reg [.op (.ld 46 (.t 3) 4 true),
           .op (.ld 47 (.t 4) 9 true),
           .op (.ld 48 (.t 5) 5 true),
           .op (.call (some 49) nurseryref23_next [(.t 46), (.t 47), (.t 48)]),
           .op (.st (.t 6) (.t 49) 13 false),
           .op (.mv 7 (.k (.i .i64 0)))])
         (.ret)))
         (.skip)))))))))))))
  ((.seq ((.seq (.reg [.op (.ld 50 (.t 4) 9 true),
    .op (.call (some 51) nurseryref23_publisher [(.t 50)]),
    .op (.bin 52 .lss (.t 51) (.k (.i .i64 0))),
    .op (.mv 53 (.t 52)),
    .sc false 58 53 [.op (.ld 54 (.t 3) 4 true), .op (.ld 55 (.t 4) 9 true), .op (.call (some 56) nurseryref23_Full [(.t 54), (.t 55)]), .op (.un 57 .not (.t 56))] (.t 57)])
  (.ite (.t 58)
    ((.seq (.reg [.op (.ld 60 (.t 4) 9 true),
      .op (.fa 61 (.t 5) 2 1),
      .op (.ld 62 (.t 61) 1 false),
      .op (.call (some 63) nurseryref23_published [(.t 60), (.t 62)]),
      .op (.mv 59 (.t 63)),
      .op (.ext 64 (.t 59) 0),
      .op (.ext 65 (.t 59) 1),
      .op (.new 11 [(.i .i64 0), (.i .i64 0), (.i .i64 0), (.sl 1 true []), (.sl 5 true []), (.sl 1 true []), (.sl 2 true []), (.b false), (.i .i64 0)]),
      .op (.st (.t 11) (.t 64) 9 true),
      .op (.mv 12 (.t 65))])
    ((.seq (.reg [.op (.ld 66 (.t 11) 9 true),
      .op (.mv 67 (.t 12)),
      .op (.build 68 [(.i .i64 0), (.i .i64 0), (.i .i64 0), (.sl 1 true []), (.sl 5 true []), (.sl 1 true []), (.sl 2 true []), (.b false), (.i .i64 0), (.b false), (.i .i64 0), (.b false), (.sl 5 true [])] [(0, 9, (.t 66)), (11, 1, (.k (.b true))), (12, 1, (.t 67))]),
      .op (.st (.t 6) (.t 68) 13 false),
      .op (.mv 7 (.k (.i .i64 0)))])
    (.ret)))))
    (.skip))))
  ((.seq (.reg [.op (.fa 70 (.t 4) 4 1),
    .op (.ld 71 (.t 70) 1 false),
    .op (.fa 72 (.t 5) 0 1),
    .op (.ld 73 (.t 72) 1 false),
    .op (.fa 74 (.t 5) 1 1),
    .op (.ld 75 (.t 74) 1 false),
    .op (.fa 76 (.t 5) 2 1),
    .op (.ld 77 (.t 76) 1 false),
    .op (.fa 78 (.t 5) 3 1),
    .op (.ld 79 (.t 78) 1 false),
    .op (.build 80 [(.i .i64 0), (.i .i64 0), (.i .i64 0), (.i .i64 0), (.i .i64 0)] [(0, 1, (.t 73)), (1, 1, (.t 75)), (2, 1, (.t 77)), (3, 1, (.t 79)), (4, 1, (.k (.i .i64 (-1))))]),
    .op (.call (some 81) nurseryref07_Push [(.k (.i .i64 1)), (.t 71), (.t 80)]),
    .op (.mv 69 (.t 81)),
    .op (.ext 82 (.t 69) 0),
    .op (.ext 83 (.t 69) 1),
    .op (.fa 84 (.t 4) 4 1),
    .op (.st (.t 84) (.t 82) 1 false)])
  ((.seq (.reg [.op (.ld 85 (.t 4) 9 true),
    .op (.build 86 [(.i .i64 0), (.i .i64 0), (.i .i64 0), (.sl 1 true []), (.sl 5 true []), (.sl 1 true []), (.sl 2 true []), (.b false), (.i .i64 0), (.b false), (.i .i64 0), (.b false), (.sl 5 true [])] [(0, 9, (.t 85)), (9, 1, (.k (.b true)))]),
    .op (.st (.t 6) (.t 86) 13 false),
    .op (.mv 7 (.k (.i .i64 0)))])
  (.ret)))))))))))))
  [.c 6 13 true, .t 7] false none

def F_nurseryref19_SameState_L0 : C :=
  (.seq ((.seq (.reg [.op (.mv 72 (.t 5)),
    .op (.fa 73 (.t 2) 6 1),
    .op (.ld 74 (.t 73) 1 false),
    .op (.len 75 (.t 74) .sl),
    .op (.bin 76 .lss (.t 72) (.t 75))])
  (.ite (.t 76)
    (.skip)
    (.seq (.keep []) (.exit 0)))))
  ((.seq (.blk 1 ((.seq (.drw [] [0, 1, 2, 3, 4, 5, 6, 7, 8, 9, 10, 11, 12, 13, 14, 15, 16, 17, 18, 19, 20, 21, 22, 23, 24, 25, 26, 27, 28] [.op (.fad 79 (.t 2) 6 1),
     .op (.ldd 80 (.t 79) 1 false),
     .op (.mv 81 (.t 5)),
     .op (.ixs 82 (.t 80) (.t 81) 2),
     .op (.fa 83 (.t 82) 0 1),
     .op (.ld 84 (.t 83) 1 false),
     .op (.fad 85 (.t 3) 6 1),
     .op (.ldd 86 (.t 85) 1 false),
     .op (.mv 87 (.t 5)),
     .op (.ixs 88 (.t 86) (.t 87) 2),
     .op (.fa 89 (.t 88) 0 1),
     .op (.ld 90 (.t 89) 1 false),
     .op (.bin 91 .neq (.t 84) (.t 90)),
     .op (.mv 92 (.t 91)),
     .sc true 107 92 [.op (.fad 93 (.t 2) 6 1), .op (.ldd 94 (.t 93) 1 false), .op (.mv 95 (.t 5)), .op (.ixs 96 (.t 94) (.t 95) 2), .op (.fa 97 (.t 96) 1 1), .op (.ld 98 (.t 97) 1 false), .op (.fad 99 (.t 3) 6 1), .op (.ldd 100 (.t 99) 1 false), .op (.mv 101 (.t 5)), .op (.ixs 102 (.t 100) (.t 101) 2), .op (.fa 103 (.t 102) 1 1), .op (.ld 104 (.t 103) 1 false), .op (.call (some 105) nurseryref19_sameInts [(.t 98), (.t 104)]), .op (.un 106 .not (.t 105))] (.t 106)])
   (.ite (.t 107)
     ((.seq (.reg [.op (.mv 4 (.k (.b false)))])
     (.seq (.keep [4]) .ret)))
     (.skip)))))
  (.reg [.op (.mv 77 (.t 5)),
    .op (.bin 78 .add (.t 77) (.k (.i .i64 1))),
    .op (.mv 5 (.t 78))]))))

/-- nursery/nurseryref19.SameState -/
def F_nurseryref19_SameState : F := .mk
  ((.seq (.reg [.op (.box 2 (.t 0) 9 true),
    .op (.box 3 (.t 1) 9 true),
    .op (.mv 4 (.k (.b false)))])
  ((.seq ((.seq (.reg [.op (.fa 6 (.t 2) 0 1),
    .op (.ld 7 (.t 6) 1 false),
    .op (.fa 8 (.t 3) 0 1),
    .op (.ld 9 (.t 8) 1 false),
    .op (.bin 10 .neq (.t 7) (.t 9)),
    .op (.mv 11 (.t 10)),
    .sc true 17 11 [.op (.fa 12 (.t 2) 1 1), .op (.ld 13 (.t 12) 1 false), .op (.fa 14 (.t 3) 1 1), .op (.ld 15 (.t 14) 1 false), .op (.bin 16 .neq (.t 13) (.t 15))] (.t 16),
    .op (.mv 18 (.t 17)),
    .sc true 24 18 [.op (.fa 19 (.t 2) 2 1), .op (.ld 20 (.t 19) 1 false), .op (.fa 21 (.t 3) 2 1), .op (.ld 22 (.t 21) 1 false), .op (.bin 23 .neq (.t 20) (.t 22))] (.t 23),
    .op (.mv 25 (.t 24)),
    .sc true 31 25 [.op (.fa 26 (.t 2) 7 1), .op (.ld 27 (.t 26) 1 false), .op (.fa 28 (.t 3) 7 1), .op (.ld 29 (.t 28) 1 false), .op (.eqb 30 true (.t 27) (.t 29))] (.t 30),
    .op (.mv 32 (.t 31)),
    .sc true 38 32 [.op (.fa 33 (.t 2) 8 1), .op (.ld 34 (.t 33) 1 false), .op (.fa 35 (.t 3) 8 1), .op (.ld 36 (.t 35) 1 false), .op (.bin 37 .neq (.t 34) (.t 36))] (.t 37),
    .op (.mv 39 (.t 38)),
    .sc true 46 39 [.op (.fa 40 (.t 2) 4 1), .op (.ld 41 (.t 40) 1 false), .op (.fa 42 (.t 3) 4 1), .op (.ld 43 (.t 42) 1 false), .op (.call (some 44) nurseryref07_Same [(.t 41), (.t 43)]), .op (.un 45 .not (.t 44))] (.t 45),
    .op (.mv 47 (.t 46)),
    .sc true 54 47 [.op (.fa 48 (.t 2) 3 1), .op (.ld 49 (.t 48) 1 false), .op (.fa 50 (.t 3) 3 1), .op (.ld 51 (.t 50) 1 false), .op (.call (some 52) nurseryref19_sameInts [(.t 49), (.t 51)]), .op (.un 53 .not (.t 52))] (.t 53),
    .op (.mv 55 (.t 54)),
    .sc true 62 55 [.op (.fa 56 (.t 2) 5 1), .op (.ld 57 (.t 56) 1 false), .op (.fa 58 (.t 3) 5 1), .op (.ld 59 (.t 58) 1 false), .op (.call (some 60) nurseryref19_sameInts [(.t 57), (.t 59)]), .op (.un 61 .not (.t 60))] (.t 61),
    .op (.mv 63 (.t 62)),
    .sc true 71 63 [.op (.fa 64 (.t 2) 6 1), .op (.ld 65 (.t 64) 1 false), .op (.len 66 (.t 65) .sl), .op (.fa 67 (.t 3) 6 1), .op (.ld 68 (.t 67) 1 false), .op (.len 69 (.t 68) .sl), .op (.bin 70 .neq (.t 66) (.t 69))] (.t 70)])
  (.ite (.t 71)
    ((.seq (.reg [.op (.mv 4 (.k (.b false)))])
    (.ret)))
    (.skip))))
  ((.seq ((.seq (.reg [.op (.mv 5 (.k (.i .i64 0)))])
  (.blk 0 (.loop [2, 3, 5] F_nurseryref19_SameState_L0))))
  ((.seq (.reg [.op (.mv 4 (.k (.b true)))])
  (.ret)))))))))
  [.t 4] false none

/-- nursery/topic.Check -/
def F_topic_Check : F := .mk
  ((.seq (.reg [.op (.box 2 (.t 0) 4 true),
    .op (.box 3 (.t 1) 9 true),
    .op (.mv 4 (.k (.i .i64 0)))])
  ((.seq ((.seq (.reg [.op (.ld 8 (.t 2) 4 true),
    .op (.call (some 9) topic_New [(.t 8)]),
    .op (.mv 7 (.t 9)),
    .op (.ext 10 (.t 7) 0),
    .op (.ext 11 (.t 7) 1),
    .op (.new 5 [(.i .i64 0), (.i .i64 0), (.i .i64 0), (.sl 1 true []), (.sl 5 true []), (.sl 1 true []), (.sl 2 true []), (.b false), (.i .i64 0)]),
    .op (.st (.t 5) (.t 10) 9 true),
    .op (.mv 6 (.t 11))])
  ((.seq (.reg [.op (.mv 12 (.t 6)),
    .op (.bin 13 .neq (.t 12) (.k (.i .i64 0)))])
  (.ite (.t 13)
    ((.seq (.reg [.op (.mv 14 (.t 6)),
      .op (.mv 4 (.t 14))])
    (.ret)))
    (.skip))))))
  ((.seq ((.seq (.reg [.op (.fa 15 (.t 3) 0 1),
    .op (.ld 16 (.t 15) 1 false),
    .op (.bin 17 .neq (.t 16) (.k (.i .i64 (-1)))),
    .op (.mv 18 (.t 17)),
    .sc true 25 18 [.op (.fa 19 (.t 2) 2 1), .op (.ld 20 (.t 19) 1 false), .op (.fa 21 (.t 3) 6 1), .op (.ld 22 (.t 21) 1 false), .op (.call (some 23) topic_cursors [(.t 20), (.t 22)]), .op (.un 24 .not (.t 23))] (.t 24),
    .op (.mv 26 (.t 25)),
    .sc true 32 26 [.op (.fa 27 (.t 2) 2 1), .op (.ld 28 (.t 27) 1 false), .op (.ld 29 (.t 3) 9 true), .op (.call (some 30) topic_queue [(.t 28), (.t 29)]), .op (.un 31 .not (.t 30))] (.t 31)])
  (.ite (.t 32)
    ((.seq (.reg [.op (.mv 4 (.k (.i .i64 1)))])
    (.ret)))
    (.skip))))
  ((.seq ((.seq (.reg [.op (.fa 33 (.t 3) 1 1),
    .op (.ld 34 (.t 33) 1 false),
    .op (.bin 35 .neq (.t 34) (.k (.i .i64 0))),
    .op (.mv 36 (.t 35)),
    .sc true 40 36 [.op (.fa 37 (.t 3) 2 1), .op (.ld 38 (.t 37) 1 false), .op (.bin 39 .neq (.t 38) (.k (.i .i64 0)))] (.t 39),
    .op (.mv 41 (.t 40)),
    .sc true 50 41 [.op (.fa 42 (.t 3) 3 1), .op (.ld 43 (.t 42) 1 false), .op (.len 44 (.t 43) .sl), .op (.fa 45 (.t 3) 5 1), .op (.ld 46 (.t 45) 1 false), .op (.len 47 (.t 46) .sl), .op (.bin 48 .add (.t 44) (.t 47)), .op (.bin 49 .gtr (.t 48) (.k (.i .i64 0)))] (.t 49),
    .op (.mv 51 (.t 50)),
    .sc true 54 51 [.op (.fa 52 (.t 3) 7 1), .op (.ld 53 (.t 52) 1 false)] (.t 53),
    .op (.mv 55 (.t 54)),
    .sc true 59 55 [.op (.fa 56 (.t 3) 8 1), .op (.ld 57 (.t 56) 1 false), .op (.bin 58 .neq (.t 57) (.k (.i .i64 0)))] (.t 58)])
  (.ite (.t 59)
    ((.seq (.reg [.op (.mv 4 (.k (.i .i64 1)))])
    (.ret)))
    (.skip))))
  ((.seq (.reg [.op (.mv 4 (.k (.i .i64 0)))])
  (.ret)))))))))))
  [.t 4] false none

/-- nursery/nurseryref23.Check -/
def F_nurseryref23_Check : F := .mk
  ((.seq (.reg [.op (.box 2 (.t 0) 4 true),
    .op (.box 3 (.t 1) 9 true),
    .op (.mv 4 (.k (.i .i64 0)))])
  ((.seq ((.seq (.reg [.op (.ld 8 (.t 2) 4 true),
    .op (.call (some 9) nurseryref23_New [(.t 8)]),
    .op (.mv 7 (.t 9)),
    .op (.ext 10 (.t 7) 0),
    .op (.ext 11 (.t 7) 1),
    .op (.new 5 [(.i .i64 0), (.i .i64 0), (.i .i64 0), (.sl 1 true []), (.sl 5 true []), (.sl 1 true []), (.sl 2 true []), (.b false), (.i .i64 0)]),
    .op (.st (.t 5) (.t 10) 9 true),
    .op (.mv 6 (.t 11))])
  ((.seq (.reg [.op (.mv 12 (.t 6)),
    .op (.bin 13 .neq (.t 12) (.k (.i .i64 0)))])
  (.ite (.t 13)
    ((.seq (.reg [.op (.mv 14 (.t 6)),
      .op (.mv 4 (.t 14))])
    (.ret)))
    (.skip))))))
  ((.seq ((.seq (.reg [.op (.fa 15 (.t 3) 0 1),
    .op (.ld 16 (.t 15) 1 false),
    .op (.bin 17 .neq (.t 16) (.k (.i .i64 (-1)))),
    .op (.mv 18 (.t 17)),
    .sc true 22 18 [.op (.fa 19 (.t 3) 1 1), .op (.ld 20 (.t 19) 1 false), .op (.bin 21 .neq (.t 20) (.k (.i .i64 0)))] (.t 21),
    .op (.mv 23 (.t 22)),
    .sc true 27 23 [.op (.fa 24 (.t 3) 2 1), .op (.ld 25 (.t 24) 1 false), .op (.bin 26 .neq (.t 25) (.k (.i .i64 0)))] (.t 26),
    .op (.mv 28 (.t 27)),
    .sc true 37 28 [.op (.fa 29 (.t 3) 3 1), .op (.ld 30 (.t 29) 1 false), .op (.len 31 (.t 30) .sl), .op (.fa 32 (.t 3) 5 1), .op (.ld 33 (.t 32) 1 false), .op (.len 34 (.t 33) .sl), .op (.bin 35 .add (.t 31) (.t 34)), .op (.bin 36 .gtr (.t 35) (.k (.i .i64 0)))] (.t 36),
    .op (.mv 38 (.t 37)),
    .sc true 41 38 [.op (.fa 39 (.t 3) 7 1), .op (.ld 40 (.t 39) 1 false)] (.t 40),
    .op (.mv 42 (.t 41)),
    .sc true 46 42 [.op (.fa 43 (.t 3) 8 1), .op (.ld 44 (.t 43) 1 false), .op (.bin 45 .neq (.t 44) (.k (.i .i64 0)))] (.t 45),
    .op (.mv 47 (.t 46)),
    .sc true 52 47 [.op (.ld 48 (.t 2) 4 true), .op (.ld 49 (.t 3) 9 true), .op (.call (some 50) nurseryref23_checkCursors [(.t 48), (.t 49)]), .op (.un 51 .not (.t 50))] (.t 51),
    .op (.mv 53 (.t 52)),
    .sc true 58 53 [.op (.ld 54 (.t 2) 4 true), .op (.ld 55 (.t 3) 9 true), .op (.call (some 56) nurseryref23_checkQueue [(.t 54), (.t 55)]), .op (.un 57 .not (.t 56))] (.t 57)])
  (.ite (.t 58)
    ((.seq (.reg [.op (.mv 4 (.k (.i .i64 1)))])
    (.ret)))
    (.skip))))
  ((.seq (.reg [.op (.mv 4 (.k (.i .i64 0)))])
  (.ret)))))))))
  [.t 4] false none

def F_nurseryref19_SameReply_L0 : C :=
  (.seq ((.seq (.reg [.op (.mv 13 (.t 5)),
    .op (.fa 14 (.t 2) 12 1),
    .op (.ld 15 (.t 14) 1 false),
    .op (.len 16 (.t 15) .sl),
    .op (.bin 17 .lss (.t 13) (.t 16))])
  (.ite (.t 17)
    (.skip)
    (.seq (.keep [2, 3]) (.exit 0)))))
  ((.seq (.blk 1 ((.seq (.drw [] [0, 1, 2, 3, 4, 5, 6, 7, 8, 9, 10] [.op (.fad 20 (.t 2) 12 1),
     .op (.ldd 21 (.t 20) 1 false),
     .op (.mv 22 (.t 5)),
     .op (.ixs 23 (.t 21) (.t 22) 5),
     .op (.ld 24 (.t 23) 5 true),
     .op (.fad 25 (.t 3) 12 1),
     .op (.ldd 26 (.t 25) 1 false),
     .op (.mv 27 (.t 5)),
     .op (.ixs 28 (.t 26) (.t 27) 5),
     .op (.ld 29 (.t 28) 5 true),
     .op (.eqv 30 true (.t 24) (.t 29) [.i, .i, .i, .b, .i])])
   (.ite (.t 30)
     ((.seq (.reg [.op (.mv 4 (.k (.b false)))])
     (.seq (.keep [4]) .ret)))
     (.skip)))))
  (.reg [.op (.mv 18 (.t 5)),
    .op (.bin 19 .add (.t 18) (.k (.i .i64 1))),
    .op (.mv 5 (.t 19))]))))

/-- nursery/nurseryref19.SameReply -/
def F_nurseryref19_SameReply : F := .mk
  ((.seq (.reg [.op (.box 2 (.t 0) 13 true),
    .op (.box 3 (.t 1) 13 true),
    .op (.mv 4 (.k (.b false)))])
  ((.seq ((.seq (.reg [.op (.fa 6 (.t 2) 12 1),
    .op (.ld 7 (.t 6) 1 false),
    .op (.len 8 (.t 7) .sl),
    .op (.fa 9 (.t 3) 12 1),
    .op (.ld 10 (.t 9) 1 false),
    .op (.len 11 (.t 10) .sl),
    .op (.bin 12 .neq (.t 8) (.t 11))])
  (.ite (.t 12)
    ((.seq (.reg [.op (.mv 4 (.k (.b false)))])
    (.ret)))
    (.skip))))
  ((.seq ((.seq (.reg [.op (.mv 5 (.k (.i .i64 0)))])
  (.blk 0 (.loop [2, 3, 5] F_nurseryref19_SameReply_L0))))
  ((.seq (.reg [.op (.fa 31 (.t 2) 0 9),
    .op (.ld 32 (.t 31) 9 true),
    .op (.fa 33 (.t 3) 0 9),
    .op (.ld 34 (.t 33) 9 true),
    .op (.call (some 35) nurseryref19_SameState [(.t 32), (.t 34)]),
    .op (.mv 36 (.t 35)),
    .sc false 42 36 [.op (.fa 37 (.t 2) 9 1), .op (.ld 38 (.t 37) 1 false), .op (.fa 39 (.t 3) 9 1), .op (.ld 40 (.t 39) 1 false), .op (.eqb 41 false (.t 38) (.t 40))] (.t 41),
    .op (.mv 43 (.t 42)),
    .sc false 49 43 [.op (.fa 44 (.t 2) 10 1), .op (.ld 45 (.t 44) 1 false), .op (.fa 46 (.t 3) 10 1), .op (.ld 47 (.t 46) 1 false), .op (.bin 48 .eql (.t 45) (.t 47))] (.t 48),
    .op (.mv 50 (.t 49)),
    .sc false 56 50 [.op (.fa 51 (.t 2) 11 1), .op (.ld 52 (.t 51) 1 false), .op (.fa 53 (.t 3) 11 1), .op (.ld 54 (.t 53) 1 false), .op (.eqb 55 false (.t 52) (.t 54))] (.t 55),
    .op (.mv 4 (.t 56))])
  (.ret)))))))))
  [.t 4] false none

/-- slices.ContainsFunc[[]nursery/api.Waiter,nursery/api.Waiter] -/
def F_slices_ContainsFunc_api_Waiter_api_Waiter : F := .mk
  ((.seq (.reg [.op (.mv 4 (.k (.b false)))])
  ((.seq (.reg [.op (.mv 5 (.t 0)),
    .op (.mv 6 (.t 1)),
    .op (.call (some 7) slices_IndexFunc_api_Waiter_api_Waiter [(.t 5), (.t 6)]),
    .op (.bin 8 .geq (.t 7) (.k (.i .i64 0))),
    .op (.mv 4 (.t 8))])
  (.ret)))))
  [.t 4] false none

/-- nursery/nurserylaw23.TopicLeaves$1 -/
def F_nurserylaw23_TopicLeavesC1 : F := .mk
  ((.seq (.reg [.op (.box 2 (.t 0) 5 true),
    .op (.mv 3 (.k (.b false)))])
  ((.seq (.reg [.op (.fa 4 (.t 2) 0 1),
    .op (.ld 5 (.t 4) 1 false),
    .op (.fa 6 (.t 1) 0 1),
    .op (.ld 7 (.t 6) 1 false),
    .op (.bin 8 .eql (.t 5) (.t 7)),
    .op (.mv 9 (.t 8)),
    .sc false 13 9 [.op (.fa 10 (.t 2) 1 1), .op (.ld 11 (.t 10) 1 false), .op (.bin 12 .eql (.t 11) (.k (.i .i64 68)))] (.t 12),
    .op (.mv 3 (.t 13))])
  (.ret)))))
  [.t 3] false none

/-- nursery/nurserylaw23.call -/
def F_nurserylaw23_call : F := .mk
  ((.seq (.reg [.op (.new 6 [(.i .i64 0), (.i .i64 0), (.i .i64 0), (.i .i64 0), (.i .i64 0)])])
  ((.seq (.reg [.op (.mv 7 (.t 0)),
    .op (.mv 8 (.t 1)),
    .op (.mv 9 (.t 2)),
    .op (.build 10 [(.i .i64 0), (.i .i64 0), (.i .i64 0), (.i .i64 0), (.i .i64 0)] [(0, 1, (.t 7)), (1, 1, (.t 8)), (2, 1, (.t 9))]),
    .op (.st (.t 6) (.t 10) 5 false)])
  (.ret)))))
  [.c 6 5 true] false none

/-- nursery/nurserylaw23.TopicLeaves$2 -/
def F_nurserylaw23_TopicLeavesC2 : F := .mk
  ((.seq (.reg [.op (.box 1 (.t 0) 5 true),
    .op (.mv 2 (.k (.b false)))])
  ((.seq (.reg [.op (.fa 3 (.t 1) 1 1),
    .op (.ld 4 (.t 3) 1 false),
    .op (.bin 5 .eql (.t 4) (.k (.i .i64 68))),
    .op (.mv 2 (.t 5))])
  (.ret)))))
  [.t 2] false none

/-- nursery/nurserylaw23.TopicReads$1 -/
def F_nurserylaw23_TopicReadsC1 : F := .mk
  ((.seq (.reg [.op (.box 2 (.t 0) 5 true),
    .op (.mv 3 (.k (.b false)))])
  ((.seq (.reg [.op (.fa 4 (.t 2) 0 1),
    .op (.ld 5 (.t 4) 1 false),
    .op (.fa 6 (.t 1) 0 1),
    .op (.ld 7 (.t 6) 1 false),
    .op (.bin 8 .eql (.t 5) (.t 7)),
    .op (.mv 3 (.t 8))])
  (.ret)))))
  [.t 3] false none

/-- slices.Clone[[]int,int] -/
def F_slices_Clone_int_int : F := .mk
  ((.seq (.reg [.op (.mv 2 (.k (.sl 1 true [])))])
  ((.seq ((.seq (.reg [.op (.mv 3 (.t 0)),
    .op (.isnil 4 false (.t 3) .sl)])
  (.ite (.t 4)
    ((.seq (.reg [.op (.mv 2 (.k (.sl 1 true [])))])
    (.ret)))
    (.skip))))
  ((.seq (.reg [.op (.buildSl 5 1 0 [(.i .i64 0)] [] false),
    .op (.mv 6 (.t 0)),
    .op (.app 7 (.t 5) (.t 6) 1),
    .op (.mv 2 (.t 7))])
  (.ret)))))))
  [.t 2] true none

def F_slices_Clone_int_int_p : F := ⟨F_slices_Clone_int_int.code, F_slices_Clone_int_int.res, false, none⟩

/-- nursery/topic.Lag -/
def F_topic_Lag : F := .mk
  ((.seq (.reg [.op (.box 2 (.t 0) 9 true),
    .op (.mv 4 (.k (.i .i64 0))),
    .op (.mv 5 (.k (.i .i64 0)))])
  ((.seq (.reg [.op (.ld 7 (.t 2) 9 true),
    .op (.mv 8 (.t 1)),
    .op (.call (some 9) topic_find [(.t 7), (.t 8)]),
    .op (.mv 6 (.t 9))])
  ((.seq ((.seq (.reg [.op (.mv 10 (.t 6)),
    .op (.bin 11 .lss (.t 10) (.k (.i .i64 0)))])
  (.ite (.t 11)
    ((.seq (.reg [.op (.mv 4 (.k (.i .i64 0))),
      .op (.mv 5 (.k (.i .i64 7)))])
    (.ret)))
    (.skip))))
  ((.seq (.reg [.op (.fa 12 (.t 2) 6 1),
    .op (.ld 13 (.t 12) 1 false),
    .op (.mv 14 (.t 6)),
    .op (.ixs 15 (.t 13) (.t 14) 2),
    .op (.fa 16 (.t 15) 1 1),
    .op (.ld 17 (.t 16) 1 false),
    .op (.len 18 (.t 17) .sl),
    .op (.mv 4 (.t 18)),
    .op (.mv 5 (.k (.i .i64 0)))])
  (.ret)))))))))
  [.t 4, .t 5] false none

/-- nursery/topic.Withdraw -/
def F_topic_Withdraw : F := .mk
  ((.seq (.reg [.op (.box 3 (.t 0) 4 true),
    .op (.box 4 (.t 1) 9 true),
    .op (.new 6 [(.i .i64 0), (.i .i64 0), (.i .i64 0), (.sl 1 true []), (.sl 5 true []), (.sl 1 true []), (.sl 2 true []), (.b false), (.i .i64 0), (.b false), (.i .i64 0), (.b false), (.sl 5 true [])]),
    .op (.mv 7 (.k (.i .i64 0)))])
  ((.seq ((.seq (.reg [.op (.ld 11 (.t 3) 4 true),
    .op (.ld 12 (.t 4) 9 true),
    .op (.call (some 13) topic_Check [(.t 11), (.t 12)]),
    .op (.bin 14 .neq (.t 13) (.k (.i .i64 0)))])
  (.ite (.t 14)
    ((.seq (.reg [.op (.build 15 [(.i .i64 0), (.i .i64 0), (.i .i64 0), (.sl 1 true []), (.sl 5 true []), (.sl 1 true []), (.sl 2 true []), (.b false), (.i .i64 0), (.b false), (.i .i64 0), (.b false), (.sl 5 true [])] []),
      .op (.st (.t 6) (.t 15) 13 false),
      .op (.mv 7 (.k (.i .i64 1)))])
    (.ret)))
    (.skip))))
  ((.seq ((.seq (.reg [.op (.fa 17 (.t 4) 4 1),
    .op (.ld 18 (.t 17) 1 false),
    .op (.mv 19 (.t 2)),
    .op (.call (some 20) waitlist_Find [(.t 18), (.t 19)]),
    .op (.mv 16 (.t 20)),
    .op (.ext 21 (.t 16) 0),
    .op (.ext 22 (.t 16) 1),
    .op (.mv 8 (.t 21)),
    .op (.mv 9 (.t 22))])
  ((.seq (.reg [.op (.mv 23 (.t 9)),
    .op (.un 24 .not (.t 23))])
  (.ite (.t 24)
    ((.seq (.reg [.op (.build 25 [(.i .i64 0), (.i .i64 0), (.i .i64 0), (.sl 1 true []), (.sl 5 true []), (.sl 1 true []), (.sl 2 true []), (.b false), (.i .i64 0), (.b false), (.i .i64 0), (.b false), (.sl 5 true [])] []),
      .op (.st (.t 6) (.t 25) 13 false),
      .op (.mv 7 (.k (.i .i64 7)))])
    (.ret)))
    (.skip))))))
  ((.seq (.reg [.op (.ld 26 (.t 3) 4 true),
    .op (.ld 27 (.t 4) 9 true),
    .op (.callk (some 28) topic_begin [(.t 26), (.t 27)]),
    .op (.mv 10 (.t 28))])
  ((.seq (.seq (.fzc 10 5)
  (.reg [.op (.mv 29 (.t 10)),
    .op (.mv 30 (.t 10)),
    .op (.nck 31 (.t 30)),
    .op (.fa 32 (.t 31) 1 9),
    .op (.fa 33 (.t 32) 4 1),
    .op (.ld 34 (.t 33) 1 false),
    .op (.mv 35 (.t 2)),
    .op (.call (some 36) waitlist_Remove [(.t 34), (.t 35)]),
    .op (.nck 37 (.t 29)),
    .op (.fa 38 (.t 37) 1 9),
    .op (.fa 39 (.t 38) 4 1),
    .op (.st (.t 39) (.t 36) 1 false)]))
  ((.seq (.reg [.op (.mv 40 (.t 10)),
    .op (.callr (some 41) topic_board_advance [(.t 40)])])
  ((.seq (.drw [] [0, 1, 2, 3, 4, 5, 6, 7, 8, 9, 10] [.op (.mv 42 (.t 10)),
    .op (.nck 43 (.t 42)),
    .op (.fa 44 (.t 43) 1 9),
    .op (.ld 45 (.t 44) 9 true),
    .op (.mv 46 (.t 10)),
    .op (.nck 47 (.t 46)),
    .op (.fa 48 (.t 47) 10 1),
    .op (.ld 49 (.t 48) 1 false),
    .op (.build 50 [(.i .i64 0), (.i .i64 0), (.i .i64 0), (.sl 1 true []), (.sl 5 true []), (.sl 1 true []), (.sl 2 true []), (.b false), (.i .i64 0), (.b false), (.i .i64 0), (.b false), (.sl 5 true [])] [(0, 9, (.t 45)), (12, 1, (.t 49))]),
    .op (.st (.t 6) (.t 50) 13 false),
    .op (.mv 7 (.k (.i .i64 0)))])
  (.ret)))))))))))))))
  [.c 6 13 true, .t 7] false none

/-- nursery/nurserylaw23.TopicValid$1 -/
def F_nurserylaw23_TopicValidC1 : F := .mk
  ((.seq (.reg [.op (.box 1 (.t 0) 5 true),
    .op (.mv 2 (.k (.b false)))])
  ((.seq (.reg [.op (.fa 3 (.t 1) 1 1),
    .op (.ld 4 (.t 3) 1 false),
    .op (.bin 5 .eql (.t 4) (.k (.i .i64 68))),
    .op (.mv 2 (.t 5))])
  (.ret)))))
  [.t 2] false none

def F_nurseryref23_Full_L0 : C :=
  (.seq ((.seq (.reg [.op (.mv 6 (.t 5)),
    .op (.fa 7 (.t 3) 6 1),
    .op (.ld 8 (.t 7) 1 false),
    .op (.len 9 (.t 8) .sl),
    .op (.bin 10 .lss (.t 6) (.t 9))])
  (.ite (.t 10)
    (.skip)
    (.seq (.keep []) (.exit 0)))))
  ((.seq (.blk 1 ((.seq (.drw [] [0, 1, 2, 3, 4, 5, 6, 7, 8, 9, 10, 11, 12, 13, 14, 15, 16, 17, 18, 19, 20] [.op (.fad 13 (.t 3) 6 1),
     .op (.ldd 14 (.t 13) 1 false),
     .op (.mv 15 (.t 5)),
     .op (.ixs 16 (.t 14) (.t 15) 2),
     .op (.fa 17 (.t 16) 1 1),
     .op (.ld 18 (.t 17) 1 false),
     .op (.len 19 (.t 18) .sl),
     .op (.fad 20 (.t 2) 2 1),
     .op (.ldd 21 (.t 20) 1 false),
     .op (.bin 22 .geq (.t 19) (.t 21)),
     .op (.mv 23 (.t 22)),
     .sc false 33 23 [.op (.ldd 24 (.t 3) 9 true), .op (.fad 25 (.t 3) 6 1), .op (.ldd 26 (.t 25) 1 false), .op (.mv 27 (.t 5)), .op (.ixs 28 (.t 26) (.t 27) 2), .op (.fa 29 (.t 28) 0 1), .op (.ld 30 (.t 29) 1 false), .op (.call (some 31) nurseryref23_waits [(.t 24), (.t 30), (.k (.i .i64 70))]), .op (.un 32 .not (.t 31))] (.t 32)])
   (.ite (.t 33)
     ((.seq (.reg [.op (.mv 4 (.k (.b true)))])
     (.seq (.keep [4]) .ret)))
     (.skip)))))
  (.reg [.op (.mv 11 (.t 5)),
    .op (.bin 12 .add (.t 11) (.k (.i .i64 1))),
    .op (.mv 5 (.t 12))]))))

/-- nursery/nurseryref23.Full -/
def F_nurseryref23_Full : F := .mk
  ((.seq (.reg [.op (.box 2 (.t 0) 4 true),
    .op (.box 3 (.t 1) 9 true),
    .op (.mv 4 (.k (.b false)))])
  ((.seq ((.seq (.reg [.op (.mv 5 (.k (.i .i64 0)))])
  (.blk 0 (.loop [2, 3, 5] F_nurseryref23_Full_L0))))
  ((.seq (.reg [.op (.mv 4 (.k (.b false)))])
  (.ret)))))))
  [.t 4] false none

/-- nursery/nurseryref23.Withdraw -/
def F_nurseryref23_Withdraw : F := .mk
  ((.seq (.reg [.op (.box 3 (.t 0) 4 true),
    .op (.box 4 (.t 1) 9 false),
    .op (.new 6 [(.i .i64 0), (.i .i64 0), (.i .i64 0), (.sl 1 true []), (.sl 5 true []), (.sl 1 true []), (.sl 2 true []), (.b false), (.i .i64 0), (.b false), (.i .i64 0), (.b false), (.sl 5 true [])]),
    .op (.mv 7 (.k (.i .i64 0)))])
  ((.seq ((.seq (.reg [.op (.ld 12 (.t 3) 4 true),
    .op (.ld 13 (.t 4) 9 true),
    .op (.call (some 14) nurseryref23_Check [(.t 12), (.t 13)]),
    .op (.bin 15 .neq (.t 14) (.k (.i .i64 0)))])
  (.ite (.t 15)
    ((.seq (.reg [.op (.build 16 [(.i .i64 0), (.i .i64 0), (.i .i64 0), (.sl 1 true []), (.sl 5 true []), (.sl 1 true []), (.sl 2 true []), (.b false), (.i .i64 0), (.b false), (.i .i64 0), (.b false), (.sl 5 true [])] []),
      .op (.st (.t 6) (.t 16) 13 false),
      .op (.mv 7 (.k (.i .i64 1)))])
    (.ret)))
    (.skip))))
  ((.seq ((.seq (.reg [.op (.fa 18 (.t 4) 4 1),
    .op (.ld 19 (.t 18) 1 false),
    .op (.mv 20 (.t 2)),
    .op (.call (some 21) nurseryref07_Find [(.t 19), (.t 20)]),
    .op (.mv 17 (.t 21)),
    .op (.ext 22 (.t 17) 0),
    .op (.ext 23 (.t 17) 1),
    .op (.mv 8 (.t 22)),
    .op (.mv 9 (.t 23))])
  ((.seq (.reg [.op (.mv 24 (.t 9)),
    .op (.un 25 .not (.t 24))])
  (.ite (.t 25)
    ((.seq (.reg [.op (.build 26 [(.i .i64 0), (.i .i64 0), (.i .i64 0), (.sl 1 true []), (.sl 5 true []), (.sl 1 true []), (.sl 2 true []), (.b false), (.i .i64 0), (.b false), (.i .i64 0), (.b false), (.sl 5 true [])] []),
      .op (.st (.t 6) (.t 26) 13 false),
      .op (.mv 7 (.k (.i .i64 7)))])
    (.ret)))
    (.skip))))))
  ((.seq (.reg [.op (.fa 27 (.t 4) 4 1),
    .op (.ld 28 (.t 27) 1 false),
    .op (.mv 29 (.t 2)),
    .op (.call (some 30) nurseryref07_Remove [(.t 28), (.t 29)]),
    .op (.fa 31 (.t 4) 4 1),
    .op (.st (.t 31) (.t 30) 1 false)])
  ((.seq (.reg [.op (.ld 33 (.t 3) 4 true),
    .op (.ld 34 (.t 4) 9 true),
    .op (.call (some 35) nurseryref23_advance [(.t 33), (.t 34)]),
    .op (.mv 32 (.t 35)),
    .op (.ext 36 (.t 32) 0),
    .op (.ext 37 (.t 32) 1),
    .op (.new 10 [(.i .i64 0), (.i .i64 0), (.i .i64 0), (.sl 1 true []), (.sl 5 true []), (.sl 1 true []), (.sl 2 true []), (.b false), (.i .i64 0)]),
    .op (.st (.t 10) (.t 36) 9 true),
    .op (.mv 11 (.t 37))])
  ((.seq (.reg [.op (.ld 38 (.t 10) 9 true),
    .op (.mv 39 (.t 11)),
    .op (.build 40 [(.i .i64 0), (.i .i64 0), (.i .i64 0), (.sl 1 true []), (.sl 5 true []), (.sl 1 true []), (.sl 2 true []), (.b false), (.i .i64 0), (.b false), (.i .i64 0), (.b false), (.sl 5 true [])] [(0, 9, (.t 38)), (12, 1, (.t 39))]),
    .op (.st (.t 6) (.t 40) 13 false),
    .op (.mv 7 (.k (.i .i64 0)))])
  (.ret)))))))))))))
  [.c 6 13 true, .t 7] false none

/-- nursery/nurseryref23.Lag -/
def F_nurseryref23_Lag : F := .mk
  ((.seq (.reg [.op (.box 2 (.t 0) 9 true),
    .op (.mv 4 (.k (.i .i64 0))),
    .op (.mv 5 (.k (.i .i64 0)))])
  ((.seq (.reg [.op (.ld 7 (.t 2) 9 true),
    .op (.mv 8 (.t 1)),
    .op (.call (some 9) nurseryref23_cursor [(.t 7), (.t 8)]),
    .op (.mv 6 (.t 9))])
  ((.seq ((.seq (.reg [.op (.mv 10 (.t 6)),
    .op (.bin 11 .lss (.t 10) (.k (.i .i64 0)))])
  (.ite (.t 11)
    ((.seq (.reg [.op (.mv 4 (.k (.i .i64 0))),
      .op (.mv 5 (.k (.i .i64 7)))])
    (.ret)))
    (.skip))))
  ((.seq (.reg [.op (.fa 12 (.t 2) 6 1),
    .op (.ld 13 (.t 12) 1 false),
    .op (.mv 14 (.t 6)),
    .op (.ixs 15 (.t 13) (.t 14) 2),
    .op (.fa 16 (.t 15) 1 1),
    .op (.ld 17 (.t 16) 1 false),
    .op (.len 18 (.t 17) .sl),
    .op (.mv 4 (.t 18)),
    .op (.mv 5 (.k (.i .i64 0)))])
  (.ret)))))))))
  [.t 4, .t 5] false none

/-- nursery/topic.Ready -/
def F_topic_Ready : F := .mk
  ((.seq (.reg [.op (.box 3 (.t 0) 4 true),
    .op (.box 4 (.t 1) 9 true),
    .op (.box 5 (.t 2) 5 true),
    .op (.mv 6 (.k (.b false)))])
  ((.seq (.reg [.op (.ld 10 (.t 3) 4 true),
    .op (.ld 11 (.t 4) 9 true),
    .op (.ld 12 (.t 5) 5 true),
    .op (.call (some 13) topic_Apply [(.t 10), (.t 11), (.t 12)]),
    .op (.mv 9 (.t 13)),
    .op (.ext 14 (.t 9) 0),
    .op (.ext 15 (.t 9) 1),
    .op (.new 7 [(.i .i64 0), (.i .i64 0), (.i .i64 0), (.sl 1 true []), (.sl 5 true []), (.sl 1 true []), (.sl 2 true []), (.b false), (.i .i64 0), (.b false), (.i .i64 0), (.b false), (.sl 5 true [])]),
    .op (.st (.t 7) (.t 14) 13 true),
    .op (.mv 8 (.t 15))])
  ((.seq (.reg [.op (.mv 16 (.t 8)),
    .op (.bin 17 .eql (.t 16) (.k (.i .i64 0))),
    .op (.mv 18 (.t 17)),
    .sc false 22 18 [.op (.fa 19 (.t 7) 9 1), .op (.ld 20 (.t 19) 1 false), .op (.un 21 .not (.t 20))] (.t 21),
    .op (.mv 6 (.t 22))])
  (.ret)))))))
  [.t 6] false none

/-- nursery/nurseryref23.Ready -/
def F_nurseryref23_Ready : F := .mk
  ((.seq (.reg [.op (.box 3 (.t 0) 4 true),
    .op (.box 4 (.t 1) 9 true),
    .op (.box 5 (.t 2) 5 true),
    .op (.mv 6 (.k (.b false)))])
  ((.seq (.reg [.op (.ld 10 (.t 3) 4 true),
    .op (.ld 11 (.t 4) 9 true),
    .op (.ld 12 (.t 5) 5 true),
    .op (.call (some 13) nurseryref23_Apply [(.t 10), (.t 11), (.t 12)]),
    .op (.mv 9 (.t 13)),
    .op (.ext 14 (.t 9) 0),
    .op (.ext 15 (.t 9) 1),
    .op (.new 7 [(.i .i64 0), (.i .i64 0), (.i .i64 0), (.sl 1 true []), (.sl 5 true []), (.sl 1 true []), (.sl 2 true []), (.b false), (.i .i64 0), (.b false), (.i .i64 0), (.b false), (.sl 5 true [])]),
    .op (.st (.t 7) (.t 14) 13 true),
    .op (.mv 8 (.t 15))])
  ((.seq (.reg [.op (.mv 16 (.t 8)),
    .op (.bin 17 .eql (.t 16) (.k (.i .i64 0))),
    .op (.mv 18 (.t 17)),
    .sc false 22 18 [.op (.fa 19 (.t 7) 9 1), .op (.ld 20 (.t 19) 1 false), .op (.un 21 .not (.t 20))] (.t 21),
    .op (.mv 6 (.t 22))])
  (.ret)))))))
  [.t 6] false none

def F_nurserylaw23_book_fine_L0 : C :=
  (.seq (.reg [.op (.bin 22 .lss (.t 21) (.t 20))])
  ((.seq (.ite (.t 22)
    (.skip)
    (.seq (.keep []) (.exit 0)))
  ((.seq (.blk 1 ((.seq (.reg [.op (.ixs 23 (.t 19) (.t 21) 2),
     .op (.ld 24 (.t 23) 2 true),
     .op (.new 6 [(.i .i64 0), (.sl 1 true [])]),
     .op (.st (.t 6) (.t 24) 2 true)])
   ((.seq (.drw [] [0, 1, 2, 3, 4, 5, 6, 7, 8, 9, 10, 11] [.op (.mv 26 (.t 0)),
     .op (.nck 27 (.t 26)),
     .op (.fa 28 (.t 27) 0 1),
     .op (.ld 29 (.t 28) 1 false),
     .op (.fad 30 (.t 6) 0 1),
     .op (.ldd 31 (.t 30) 1 false),
     .op (.mget 32 (.t 29) (.t 31) (.sl 0 true []) true [.i]),
     .op (.mv 25 (.t 32)),
     .op (.ext 33 (.t 25) 0),
     .op (.ext 34 (.t 25) 1),
     .op (.mv 7 (.t 33)),
     .op (.mv 8 (.t 34))])
   ((.seq (.drw [] [0, 1, 2, 3, 4, 5, 6, 7, 8, 9, 10, 11, 12, 13, 14, 15, 16, 17] [.op (.mv 35 (.t 8)),
     .op (.un 36 .not (.t 35)),
     .op (.mv 37 (.t 36)),
     .sc true 52 37 [.op (.mv 38 (.t 0)), .op (.nck 39 (.t 38)), .op (.fa 40 (.t 39) 1 1), .op (.ld 41 (.t 40) 1 false), .op (.fad 42 (.t 6) 0 1), .op (.ldd 43 (.t 42) 1 false), .op (.mget 44 (.t 41) (.t 43) (.sl 0 true []) false [.i]), .op (.fad 45 (.t 6) 1 1), .op (.ldd 46 (.t 45) 1 false), .op (.buildSl 47 1 2 [(.sl 1 true [])] [(0, (.t 44)), (1, (.t 46))] true), .op (.call (some 48) slices_Concat_int_int [(.t 47)]), .op (.mv 49 (.t 7)), .op (.call (some 50) slices_Equal_int_int [(.t 48), (.t 49)]), .op (.un 51 .not (.t 50))] (.t 51)])
   (.ite (.t 52)
     ((.seq (.reg [.op (.mv 4 (.k (.b false)))])
     (.seq (.keep [4]) .ret)))
     (.skip)))))))))
  (.reg [.op (.bin 53 .add (.t 21) (.k (.i .i64 1))),
    .op (.mv 21 (.t 53))]))))))

/-- (*nursery/nurserylaw23.book).fine -/
def F_nurserylaw23_book_fine : F := .mk
  ((.seq (.reg [.op (.box 3 (.t 1) 9 true),
    .op (.mv 4 (.k (.b false)))])
  ((.seq ((.seq (.drw [] [0, 1, 2, 3, 4, 5, 6, 7, 8] [.op (.fad 9 (.t 3) 6 1),
    .op (.ldd 10 (.t 9) 1 false),
    .op (.len 11 (.t 10) .sl),
    .op (.mv 12 (.t 0)),
    .op (.nck 13 (.t 12)),
    .op (.fa 14 (.t 13) 0 1),
    .op (.ld 15 (.t 14) 1 false),
    .op (.len 16 (.t 15) .mp),
    .op (.bin 17 .neq (.t 11) (.t 16))])
  (.ite (.t 17)
    ((.seq (.reg [.op (.mv 4 (.k (.b false)))])
    (.ret)))
    (.skip))))
  ((.seq ((.seq (.reg [.op (.fa 18 (.t 3) 6 1),
    .op (.ld 19 (.t 18) 1 false),
    .op (.len 20 (.t 19) .sl),
    .op (.mv 21 (.k (.i .i64 0)))])
  (.blk 0 (.loop [0, 19, 20, 21] F_nurserylaw23_book_fine_L0))))
  ((.seq (.reg [.op (.mv 4 (.k (.b true)))])
  (.ret)))))))))
  [.t 4] false none

/-- nursery/nurseryref23.within -/
def F_nurseryref23_within : F := .mk
  ((.seq (.reg [.op (.mv 6 (.k (.b false)))])
  ((.seq (.reg [.op (.mv 7 (.t 0)),
    .op (.mv 8 (.t 1)),
    .op (.bin 9 .geq (.t 7) (.t 8)),
    .op (.mv 10 (.t 9)),
    .sc false 14 10 [.op (.mv 11 (.t 0)), .op (.mv 12 (.t 2)), .op (.bin 13 .leq (.t 11) (.t 12))] (.t 13),
    .op (.mv 6 (.t 14))])
  (.ret)))))
  [.t 6] false none

/-- nursery/topic.call -/
def F_topic_call : F := .mk
  ((.seq (.reg [.op (.box 2 (.t 0) 9 true),
    .op (.box 3 (.t 1) 5 true),
    .op (.mv 4 (.k (.i .i64 0)))])
  ((.seq ((.seq (.reg [.op (.fa 8 (.t 3) 0 1),
    .op (.ld 9 (.t 8) 1 false),
    .op (.bin 10 .lss (.t 9) (.k (.i .i64 0))),
    .op (.mv 11 (.t 10)),
    .sc true 15 11 [.op (.fa 12 (.t 3) 0 1), .op (.ld 13 (.t 12) 1 false), .op (.bin 14 .geq (.t 13) (.k (.i .i64 16)))] (.t 14),
    .op (.mv 16 (.t 15)),
    .sc true 20 16 [.op (.fa 17 (.t 3) 3 1), .op (.ld 18 (.t 17) 1 false), .op (.bin 19 .lss (.t 18) (.k (.i .i64 0)))] (.t 19),
    .op (.mv 21 (.t 20)),
    .sc true 25 21 [.op (.fa 22 (.t 3) 3 1), .op (.ld 23 (.t 22) 1 false), .op (.bin 24 .gtr (.t 23) (.k (.i .i64 9)))] (.t 24),
    .op (.mv 26 (.t 25)),
    .sc true 30 26 [.op (.fa 27 (.t 3) 4 1), .op (.ld 28 (.t 27) 1 false), .op (.bin 29 .lss (.t 28) (.k (.i .i64 0)))] (.t 29),
    .op (.mv 31 (.t 30)),
    .sc true 35 31 [.op (.fa 32 (.t 3) 4 1), .op (.ld 33 (.t 32) 1 false), .op (.bin 34 .gtr (.t 33) (.k (.i .i64 1099511627776)))] (.t 34)])
  (.ite (.t 35)
    ((.seq (.reg [.op (.mv 4 (.k (.i .i64 2)))])
    (.ret)))
    (.skip))))
  ((.seq ((.seq (.reg [.op (.fa 36 (.t 3) 1 1),
    .op (.ld 37 (.t 36) 1 false)])
  (.blk 0 ((.seq ((.seq (.reg [.op (.bin 39 .eql (.t 37) (.k (.i .i64 68))),
     .op (.mv 38 (.t 39))])
   (.ite (.t 38)
     (.skip)
     ((.seq (.reg [.op (.bin 40 .eql (.t 37) (.k (.i .i64 69))),
       .op (.mv 38 (.t 40))])
     (.ite (.t 38)
       (.skip)
       ((.seq (.reg [.op (.bin 41 .eql (.t 37) (.k (.i .i64 70))),
         .op (.mv 38 (.t 41))])
       (.ite (.t 38)
         (.skip)
         (.reg [.op (.bin 42 .eql (.t 37) (.k (.i .i64 71))),
           .op (.mv 38 (.t 42))]))))))))))
   (.ite (.t 38)
     (.skip)
     ((.seq (.reg [.op (.mv 4 (.k (.i .i64 8)))])
     (.ret)))))))))
  ((.seq ((.seq (.reg [.op (.fa 43 (.t 3) 1 1),
    .op (.ld 44 (.t 43) 1 false),
    .op (.bin 45 .eql (.t 44) (.k (.i .i64 68))),
    .op (.mv 46 (.t 45)),
    .sc false 51 46 [.op (.fa 47 (.t 3) 2 1), .op (.ld 48 (.t 47) 1 false), .op (.call (some 49) topic_number [(.t 48)]), .op (.un 50 .not (.t 49))] (.t 50)])
  (.ite (.t 51)
    ((.seq (.reg [.op (.mv 4 (.k (.i .i64 2)))])
    (.ret)))
    (.skip))))
  ((.seq ((.seq (.reg [.op (.fa 53 (.t 2) 4 1),
    .op (.ld 54 (.t 53) 1 false),
    .op (.fa 55 (.t 3) 0 1),
    .op (.ld 56 (.t 55) 1 false),
    .op (.call (some 57) waitlist_Find [(.t 54), (.t 56)]),
    .op (.mv 52 (.t 57)),
    .op (.ext 58 (.t 52) 0),
    .op (.ext 59 (.t 52) 1),
    .op (.mv 5 (.t 58)),
    .op (.mv 6 (.t 59))])
  ((.seq (.reg [.op (.mv 60 (.t 6))])
  (.ite (.t 60)
    ((.seq (.reg [.op (.mv 4 (.k (.i .i64 17)))])
    (.ret)))
    (.skip))))))
  ((.seq (.reg [.op (.ld 61 (.t 2) 9 true),
    .op (.fa 62 (.t 3) 0 1),
    .op (.ld 63 (.t 62) 1 false),
    .op (.call (some 64) topic_find [(.t 61), (.t 63)]),
    .op (.bin 65 .geq (.t 64) (.k (.i .i64 0))),
    .op (.mv 7 (.t 65))])
  ((.seq ((.seq (.reg [.op (.fa 66 (.t 3) 1 1),
    .op (.ld 67 (.t 66) 1 false),
    .op (.bin 68 .eql (.t 67) (.k (.i .i64 69))),
    .op (.mv 69 (.t 68)),
    .sc false 71 69 [.op (.mv 70 (.t 7))] (.t 70)])
  (.ite (.t 71)
    ((.seq (.reg [.op (.mv 4 (.k (.i .i64 6)))])
    (.ret)))
    (.skip))))
  ((.seq ((.seq (.reg [.op (.fa 72 (.t 3) 1 1),
    .op (.ld 73 (.t 72) 1 false),
    .op (.bin 74 .eql (.t 73) (.k (.i .i64 71))),
    .op (.mv 75 (.t 74)),
    .sc true 79 75 [.op (.fa 76 (.t 3) 1 1), .op (.ld 77 (.t 76) 1 false), .op (.bin 78 .eql (.t 77) (.k (.i .i64 70)))] (.t 78),
    .op (.mv 80 (.t 79)),
    .sc false 83 80 [.op (.mv 81 (.t 7)), .op (.un 82 .not (.t 81))] (.t 82)])
  (.ite (.t 83)
    ((.seq (.reg [.op (.mv 4 (.k (.i .i64 20)))])
    (.ret)))
    (.skip))))
  ((.seq (.reg [.op (.mv 4 (.k (.i .i64 0)))])
  (.ret)))))))))))))))))))
  [.t 4] false none

/-- nursery/topic.begin -/
def F_topic_begin : F := .mk
  ((.seq (.reg [.op (.box 2 (.t 0) 4 false),
    .op (.box 3 (.t 1) 9 false),
    .op (.mv 4 (.k .nil))])
  ((.seq (.reg [.op (.fa 5 (.t 3) 6 1),
    .op (.ld 6 (.t 5) 1 false),
    .op (.callk (some 7) slices_Clone_api_Cursor_api_Cursor [(.t 6)]),
    .op (.fa 8 (.t 3) 6 1),
    .op (.st (.t 8) (.t 7) 1 false)])
  ((.seq (.reg [.op (.fa 9 (.t 3) 4 1),
    .op (.ld 10 (.t 9) 1 false),
    .op (.callk (some 11) slices_Clone_api_Waiter_api_Waiter [(.t 10)]),
    .op (.fa 12 (.t 3) 4 1),
    .op (.st (.t 12) (.t 11) 1 false)])
  ((.seq (.reg [.op (.fa 13 (.t 2) 2 1),
    .op (.ld 14 (.t 13) 1 false),
    .op (.ld 15 (.t 3) 9 true),
    .op (.build 16 [(.i .i64 0), (.i .i64 0), (.i .i64 0), (.i .i64 0), (.sl 1 true []), (.sl 5 true []), (.sl 1 true []), (.sl 2 true []), (.b false), (.i .i64 0), (.sl 5 true [])] [(0, 1, (.t 14)), (1, 9, (.t 15))]),
    .op (.box 17 (.t 16) 11 false),
    .op (.mv 4 (.t 17))])
  (.ret)))))))))
  [.t 4] true none

/-- nursery/topic.Apply$1 -/
def F_topic_ApplyC1 : F := .mk
  ((.seq (.reg [.op (.new 2 [(.i .i64 0), (.i .i64 0), (.i .i64 0), (.sl 1 true []), (.sl 5 true []), (.sl 1 true []), (.sl 2 true []), (.b false), (.i .i64 0), (.b false), (.i .i64 0), (.b false), (.sl 5 true [])])])
  ((.seq (.reg [.op (.ld 3 (.t 0) 1 false),
    .op (.fa 4 (.t 1) 0 1),
    .op (.ld 5 (.t 4) 1 false),
    .op (.callr (some 6) topic_board_subscribe [(.t 3), (.t 5)])])
  ((.seq (.reg [.op (.build 7 [(.i .i64 0), (.i .i64 0), (.i .i64 0), (.sl 1 true []), (.sl 5 true []), (.sl 1 true []), (.sl 2 true []), (.b false), (.i .i64 0), (.b false), (.i .i64 0), (.b false), (.sl 5 true [])] [(11, 1, (.k (.b true)))]),
    .op (.st (.t 2) (.t 7) 13 false)])
  (.ret)))))))
  [.c 2 13 true] false none

def F_topic_board_subscribe_L0 : C :=
  (.seq ((.seq (.reg [.op (.mv 5 (.t 4)),
    .op (.mv 6 (.t 0)),
    .op (.nck 7 (.t 6)),
    .op (.fa 8 (.t 7) 1 9),
    .op (.fa 9 (.t 8) 6 1),
    .op (.ld 10 (.t 9) 1 false),
    .op (.len 11 (.t 10) .sl),
    .op (.bin 12 .lss (.t 5) (.t 11)),
    .op (.mv 13 (.t 12)),
    .sc false 25 13 [.op (.mv 14 (.t 0)), .op (.nck 15 (.t 14)), .op (.fa 16 (.t 15) 1 9), .op (.fa 17 (.t 16) 6 1), .op (.ld 18 (.t 17) 1 false), .op (.mv 19 (.t 4)), .op (.ixs 20 (.t 18) (.t 19) 2), .op (.fa 21 (.t 20) 0 1), .op (.ld 22 (.t 21) 1 false), .op (.mv 23 (.t 1)), .op (.bin 24 .lss (.t 22) (.t 23))] (.t 24)])
  (.ite (.t 25)
    (.skip)
    (.seq (.keep [0, 1, 4]) (.exit 0)))))
  (.blk 1 (.reg [.op (.mv 26 (.t 4)),
     .op (.bin 27 .add (.t 26) (.k (.i .i64 1))),
     .op (.mv 4 (.t 27))])))

/-- (*nursery/topic.board).subscribe -/
def F_topic_board_subscribe : F := .mk
  ((.seq (.reg [.op (.mv 4 (.k (.i .i64 0)))])
  ((.seq (.blk 0 (.loop [0, 1, 4] F_topic_board_subscribe_L0))
  (.reg [.op (.mv 28 (.t 0)),
    .op (.mv 29 (.t 0)),
    .op (.nck 30 (.t 29)),
    .op (.fa 31 (.t 30) 1 9),
    .op (.fa 32 (.t 31) 6 1),
    .op (.ld 33 (.t 32) 1 false),
    .op (.mv 34 (.t 4)),
    .op (.mv 35 (.t 1)),
    .op (.build 36 [(.i .i64 0), (.sl 1 true [])] [(0, 1, (.t 35))]),
    .op (.buildSl 37 2 1 [(.i .i64 0), (.sl 1 true [])] [(0, (.t 36))] true),
    .op (.callr (some 38) slices_Insert_api_Cursor_api_Cursor [(.t 33), (.t 34), (.t 37)]),
    .op (.nck 39 (.t 28)),
    .op (.fa 40 (.t 39) 1 9),
    .op (.fa 41 (.t 40) 6 1),
    .op (.st (.t 41) (.t 38) 1 false)])))))
  [] true none

/-- nursery/topic.Apply$2 -/
def F_topic_ApplyC2 : F := .mk
  ((.seq (.reg [.op (.new 2 [(.i .i64 0), (.i .i64 0), (.i .i64 0), (.sl 1 true []), (.sl 5 true []), (.sl 1 true []), (.sl 2 true []), (.b false), (.i .i64 0), (.b false), (.i .i64 0), (.b false), (.sl 5 true [])])])
  ((.seq (.drw [] [0, 1, 2, 3, 4, 5, 6, 7] [.op (.ld 4 (.t 0) 1 false),
    .op (.nck 5 (.t 4)),
    .op (.fa 6 (.t 5) 1 9),
    .op (.ld 7 (.t 6) 9 true),
    .op (.fa 8 (.t 1) 0 1),
    .op (.ld 9 (.t 8) 1 false),
    .op (.calls (some 10) topic_find [(.t 7), (.t 9)]),
    .op (.mv 3 (.t 10))])
  ((.seq (.drw [] [0, 1, 2, 3, 4, 5, 6, 7, 8, 9, 10, 11, 12, 13] [.op (.ld 11 (.t 0) 1 false),
    .op (.ld 12 (.t 0) 1 false),
    .op (.nck 13 (.t 12)),
    .op (.fa 14 (.t 13) 1 9),
    .op (.fa 15 (.t 14) 6 1),
    .op (.ld 16 (.t 15) 1 false),
    .op (.mv 17 (.t 3)),
    .op (.mv 18 (.t 3)),
    .op (.bin 19 .add (.t 18) (.k (.i .i64 1))),
    .op (.callr (some 20) slices_Delete_api_Cursor_api_Cursor [(.t 16), (.t 17), (.t 19)]),
    .re (.ld 11 (.t 0) 1 false),
    .op (.nck 21 (.t 11)),
    .op (.fa 22 (.t 21) 1 9),
    .op (.fa 23 (.t 22) 6 1),
    .op (.st (.t 23) (.t 20) 1 false)])
  ((.seq (.reg [.op (.ld 24 (.t 0) 1 false),
    .op (.callr (some 25) topic_board_advance [(.t 24)])])
  ((.seq (.reg [.op (.build 26 [(.i .i64 0), (.i .i64 0), (.i .i64 0), (.sl 1 true []), (.sl 5 true []), (.sl 1 true []), (.sl 2 true []), (.b false), (.i .i64 0), (.b false), (.i .i64 0), (.b false), (.sl 5 true [])] [(11, 1, (.k (.b true)))]),
    .op (.st (.t 2) (.t 26) 13 false)])
  (.ret)))))))))))
  [.c 2 13 true] false none

/-- nursery/topic.find -/
def F_topic_find : F := .mk
  ((.seq (.reg [.op (.box 2 (.t 0) 9 true),
    .op (.box 3 (.t 1) 1 true),
    .op (.mv 4 (.k (.i .i64 0)))])
  ((.seq (.reg [.op (.fa 5 (.t 2) 6 1),
    .op (.ld 6 (.t 5) 1 false),
    .op (.mkf 7 topic_findC1 [] [(.t 3)]),
    .op (.call (some 8) slices_IndexFunc_api_Cursor_api_Cursor [(.t 6), (.t 7)]),
    .op (.mv 4 (.t 8))])
  (.ret)))))
  [.t 4] false none

/-- slices.Delete[[]nursery/api.Cursor,nursery/api.Cursor] -/
def F_slices_Delete_api_Cursor_api_Cursor : F := .mk
  ((.seq (.reg [.op (.mv 6 (.k (.sl 2 true [])))])
  ((.seq (.reg [.op (.mv 8 (.t 0)),
    .op (.mv 9 (.t 1)),
    .op (.mv 10 (.t 2)),
    .op (.mv 11 (.t 0)),
    .op (.len 12 (.t 11) .sl),
    .op (.sl3 13 (.t 8) (.t 9) (.t 10) (.t 12) 2)])
  ((.seq ((.seq (.reg [.op (.mv 14 (.t 1)),
    .op (.mv 15 (.t 2)),
    .op (.bin 16 .eql (.t 14) (.t 15))])
  (.ite (.t 16)
    ((.seq (.reg [.op (.mv 17 (.t 0)),
      .op (.mv 6 (.t 17))])
    (.ret)))
    (.skip))))
  ((.seq (.reg [.op (.mv 18 (.t 0)),
    .op (.len 19 (.t 18) .sl),
    .op (.mv 7 (.t 19))])
  ((.seq (.drw [] [0, 1, 2, 3, 4, 5, 6, 7] [.op (.mv 20 (.t 0)),
    .op (.mv 21 (.t 1)),
    .op (.sl 22 (.t 20) none (some (.t 21)) 2),
    .op (.mv 23 (.t 0)),
    .op (.mv 24 (.t 2)),
    .op (.sl 25 (.t 23) (some (.t 24)) none 2),
    .op (.app 26 (.t 22) (.t 25) 2),
    .op (.mv 0 (.t 26))])
  ((.seq (.reg [.op (.mv 27 (.t 0)),
    .op (.mv 28 (.t 0)),
    .op (.len 29 (.t 28) .sl),
    .op (.mv 30 (.t 7)),
    .op (.sl 31 (.t 27) (some (.t 29)) (some (.t 30)) 2),
    .op (.clr none (.t 31) 2 [(.i .i64 0), (.sl 1 true [])])])
  ((.seq (.reg [.op (.mv 32 (.t 0)),
    .op (.mv 6 (.t 32))])
  (.ret)))))))))))))))
  [.t 6] true none

def F_topic_board_advance_A0 : C :=
  .reg [.op (.new 2 [(.i .i64 0), (.i .i64 0), (.i .i64 0), (.i .i64 0), (.i .i64 0)]),
    .op (.st (.t 2) (.t 5) 5 true)]

def F_topic_board_advance_B0 : C :=
  .blk 1 ((.seq (.reg [.op (.ld 6 (.t 1) 1 false),
     .op (.ld 7 (.t 2) 5 true),
     .op (.callr (some 8) topic_board_wake [(.t 6), (.t 7), (.k (.i .i64 0))])])
   (.reg [.op (.ld 9 (.t 1) 1 false),
     .op (.fa 10 (.t 2) 2 1),
     .op (.ld 11 (.t 10) 1 false),
     .op (.callr (some 12) topic_board_publish [(.t 9), (.t 11)])])))

/-- (*nursery/topic.board).advance -/
def F_topic_board_advance : F := .mk
  ((.seq (.seq (.fzc 0 5)
  (.reg [.op (.box 1 (.t 0) 1 true)]))
  ((.seq (.reg [.op (.ld 3 (.t 1) 1 false),
    .op (.callr (some 4) topic_board_publishers [(.t 3)])])
  (.blk 0 (.rng (.t 4) [1] [5] F_topic_board_advance_A0 F_topic_board_advance_B0))))))
  [] true none

/-- nursery/topic.Apply$3 -/
def F_topic_ApplyC3 : F := .mk
  ((.seq (.reg [.op (.new 2 [(.i .i64 0), (.i .i64 0), (.i .i64 0), (.sl 1 true []), (.sl 5 true []), (.sl 1 true []), (.sl 2 true []), (.b false), (.i .i64 0), (.b false), (.i .i64 0), (.b false), (.sl 5 true [])])])
  ((.seq (.reg [.op (.ld 4 (.t 0) 1 false),
    .op (.nck 5 (.t 4)),
    .op (.fa 6 (.t 5) 1 9),
    .op (.fa 7 (.t 6) 4 1),
    .op (.ld 8 (.t 7) 1 false),
    .op (.calls (some 9) slices_ContainsFunc_api_Waiter_api_Waiter [(.t 8), (.k (.fn topic_ApplyC3C1 [] []))]),
    .op (.mv 3 (.t 9))])
  ((.seq ((.seq (.drw [] [0, 1, 2, 3, 4, 5, 6, 7, 8, 9, 10, 11] [.op (.mv 10 (.t 3)),
    .op (.mv 11 (.t 10)),
    .sc true 21 11 [.op (.ld 12 (.t 0) 1 false), .op (.nck 13 (.t 12)), .op (.fa 14 (.t 13) 0 1), .op (.ld 15 (.t 14) 1 false), .op (.ld 16 (.t 0) 1 false), .op (.nck 17 (.t 16)), .op (.fa 18 (.t 17) 1 9), .op (.ld 19 (.t 18) 9 true), .op (.calls (some 20) topic_full [(.t 15), (.t 19)])] (.t 20)])
  (.ite (.t 21)
    ((.seq (.reg [.op (.ld 22 (.t 0) 1 false),
      .op (.ld 23 (.t 1) 5 true),
      .op (.fa 24 (.t 1) 2 1),
      .op (.ld 25 (.t 24) 1 false),
      .op (.callr (some 26) topic_board_wait [(.t 22), (.t 23), (.t 25)])])
    ((.seq (.reg [.op (.build 27 [(.i .i64 0), (.i .i64 0), (.i .i64 0), (.sl 1 true []), (.sl 5 true []), (.sl 1 true []), (.sl 2 true []), (.b false), (.i .i64 0), (.b false), (.i .i64 0), (.b false), (.sl 5 true [])] [(9, 1, (.k (.b true)))]),
      .op (.st (.t 2) (.t 27) 13 false)])
    (.ret)))))
    (.skip))))
  ((.seq (.reg [.op (.ld 28 (.t 0) 1 false),
    .op (.fa 29 (.t 1) 2 1),
    .op (.ld 30 (.t 29) 1 false),
    .op (.callr (some 31) topic_board_publish [(.t 28), (.t 30)])])
  ((.seq (.reg [.op (.build 32 [(.i .i64 0), (.i .i64 0), (.i .i64 0), (.sl 1 true []), (.sl 5 true []), (.sl 1 true []), (.sl 2 true []), (.b false), (.i .i64 0), (.b false), (.i .i64 0), (.b false), (.sl 5 true [])] [(11, 1, (.k (.b true)))]),
    .op (.st (.t 2) (.t 32) 13 false)])
  (.ret)))))))))))
  [.c 2 13 true] false none

/-- nursery/topic.Apply$3$1 -/
def F_topic_ApplyC3C1 : F := .mk
  ((.seq (.reg [.op (.box 1 (.t 0) 5 true),
    .op (.mv 2 (.k (.b false)))])
  ((.seq (.reg [.op (.fa 3 (.t 1) 1 1),
    .op (.ld 4 (.t 3) 1 false),
    .op (.bin 5 .eql (.t 4) (.k (.i .i64 68))),
    .op (.mv 2 (.t 5))])
  (.ret)))))
  [.t 2] false none

/-- nursery/topic.full -/
def F_topic_full : F := .mk
  ((.seq (.reg [.op (.box 2 (.t 0) 1 true),
    .op (.box 3 (.t 1) 9 true),
    .op (.mv 4 (.k (.b false)))])
  ((.seq (.reg [.op (.fa 5 (.t 3) 6 1),
    .op (.ld 6 (.t 5) 1 false),
    .op (.mkf 7 topic_fullC1 [] [(.t 2), (.t 3)]),
    .op (.call (some 8) slices_ContainsFunc_api_Cursor_api_Cursor [(.t 6), (.t 7)]),
    .op (.mv 4 (.t 8))])
  (.ret)))))
  [.t 4] false none

/-- (*nursery/topic.board).wait -/
def F_topic_board_wait : F := .mk
  ((.seq (.reg [.op (.box 4 (.t 1) 5 true)])
  (.drw [] [0, 1, 2, 3, 4, 5, 6, 7, 8, 9, 10, 11, 12, 13, 14, 15, 16, 17, 18, 19] [.op (.mv 6 (.t 0)),
    .op (.mv 7 (.t 0)),
    .op (.nck 8 (.t 7)),
    .op (.fa 9 (.t 8) 1 9),
    .op (.fa 10 (.t 9) 4 1),
    .op (.ld 11 (.t 10) 1 false),
    .op (.fad 12 (.t 4) 0 1),
    .op (.ldd 13 (.t 12) 1 false),
    .op (.fad 14 (.t 4) 1 1),
    .op (.ldd 15 (.t 14) 1 false),
    .op (.mv 16 (.t 2)),
    .op (.fad 17 (.t 4) 3 1),
    .op (.ldd 18 (.t 17) 1 false),
    .op (.build 19 [(.i .i64 0), (.i .i64 0), (.i .i64 0), (.i .i64 0), (.i .i64 0)] [(0, 1, (.t 13)), (1, 1, (.t 15)), (2, 1, (.t 16)), (3, 1, (.t 18)), (4, 1, (.k (.i .i64 (-1))))]),
    .op (.buildSl 20 5 1 [(.i .i64 0), (.i .i64 0), (.i .i64 0), (.i .i64 0), (.i .i64 0)] [(0, (.t 19))] true),
    .op (.apk 21 (.t 11) (.t 20) 5),
    .op (.nck 22 (.t 6)),
    .op (.fa 23 (.t 22) 1 9),
    .op (.fa 24 (.t 23) 4 1),
    .op (.st (.t 24) (.t 21) 1 false)])))
  [] true none

def F_topic_board_publish_L0 : C :=
  (.seq (.reg [.op (.bin 16 .lss (.t 15) (.t 14))])
  ((.seq (.ite (.t 16)
    (.skip)
    (.seq (.keep [0, 1]) (.exit 0)))
  ((.seq (.blk 1 ((.seq (.reg [.op (.mv 17 (.t 15)),
     .op (.mv 4 (.t 17))])
   ((.seq (.reg [.op (.mv 18 (.t 0)),
     .op (.nck 19 (.t 18)),
     .op (.fa 20 (.t 19) 1 9),
     .op (.fa 21 (.t 20) 6 1),
     .op (.ld 22 (.t 21) 1 false),
     .op (.mv 23 (.t 4)),
     .op (.ixs 24 (.t 22) (.t 23) 2),
     .op (.mv 5 (.t 24))])
   ((.seq (.drw [] [0, 1, 2, 3, 4, 5, 6, 7, 8, 9] [.op (.mv 25 (.t 0)),
     .op (.nck 26 (.t 25)),
     .op (.fa 27 (.t 26) 1 9),
     .op (.ld 28 (.t 27) 9 true),
     .op (.mv 29 (.t 5)),
     .op (.nck 30 (.t 29)),
     .op (.fa 31 (.t 30) 0 1),
     .op (.ld 32 (.t 31) 1 false),
     .op (.calls (some 33) topic_waiting [(.t 28), (.t 32), (.k (.i .i64 70))]),
     .op (.un 34 .not (.t 33))])
   (.ite (.t 34)
     (.reg [.op (.mv 35 (.t 5)),
       .op (.mv 36 (.t 5)),
       .op (.nck 37 (.t 36)),
       .op (.fa 38 (.t 37) 1 1),
       .op (.ld 39 (.t 38) 1 false),
       .op (.callk (some 40) slices_Clone_int_int [(.t 39)]),
       .op (.mv 41 (.t 1)),
       .op (.buildSl 42 1 1 [(.i .i64 0)] [(0, (.t 41))] true),
       .op (.apk 43 (.t 40) (.t 42) 1),
       .op (.nck 44 (.t 35)),
       .op (.fa 45 (.t 44) 1 1),
       .op (.st (.t 45) (.t 43) 1 false)])
     (.skip)))))))))
  (.reg [.op (.bin 46 .add (.t 15) (.k (.i .i64 1))),
    .op (.mv 15 (.t 46))]))))))

def F_topic_board_publish_L1 : C :=
  (.seq (.reg [.op (.bin 54 .lss (.t 53) (.t 52))])
  ((.seq (.ite (.t 54)
    (.skip)
    (.seq (.keep [0, 6]) (.exit 2)))
  ((.seq (.blk 3 ((.seq (.reg [.op (.ixs 55 (.t 51) (.t 53) 5),
     .op (.ld 56 (.t 55) 5 true),
     .op (.new 8 [(.i .i64 0), (.i .i64 0), (.i .i64 0), (.i .i64 0), (.i .i64 0)]),
     .op (.st (.t 8) (.t 56) 5 true)])
   ((.seq (.reg [.op (.fa 57 (.t 8) 1 1),
     .op (.ld 58 (.t 57) 1 false),
     .op (.bin 59 .eql (.t 58) (.k (.i .i64 70)))])
   (.ite (.t 59)
     (.reg [.op (.mv 60 (.t 0)),
       .op (.ld 61 (.t 8) 5 true),
       .op (.mv 62 (.t 1)),
       .op (.callr (some 63) topic_board_wake [(.t 60), (.t 61), (.t 62)])])
     (.reg [.op (.mv 64 (.t 6)),
       .op (.ld 65 (.t 8) 5 true),
       .op (.buildSl 66 5 1 [(.i .i64 0), (.i .i64 0), (.i .i64 0), (.i .i64 0), (.i .i64 0)] [(0, (.t 65))] true),
       .op (.app 67 (.t 64) (.t 66) 5),
       .op (.mv 6 (.t 67))])))))))
  (.reg [.op (.bin 68 .add (.t 53) (.k (.i .i64 1))),
    .op (.mv 53 (.t 68))]))))))

/-- (*nursery/topic.board).publish -/
def F_topic_board_publish : F := .mk
  ((.seq ((.seq (.seq (.fzc 0 5)
  (.reg [.op (.mv 9 (.t 0)),
    .op (.nck 10 (.t 9)),
    .op (.fa 11 (.t 10) 1 9),
    .op (.fa 12 (.t 11) 6 1),
    .op (.ld 13 (.t 12) 1 false),
    .op (.len 14 (.t 13) .sl),
    .op (.mv 15 (.k (.i .i64 0)))]))
  (.blk 0 (.loop [0, 1, 14, 15] F_topic_board_publish_L0))))
  ((.seq (.reg [.op (.mv 6 (.k (.sl 5 true [])))])
  ((.seq ((.seq (.reg [.op (.mv 47 (.t 0)),
    .op (.nck 48 (.t 47)),
    .op (.fa 49 (.t 48) 1 9),
    .op (.fa 50 (.t 49) 4 1),
    .op (.ld 51 (.t 50) 1 false),
    .op (.len 52 (.t 51) .sl),
    .op (.mv 53 (.k (.i .i64 0)))])
  (.blk 2 (.loop [0, 1, 6, 51, 52, 53] F_topic_board_publish_L1))))
  (.seq (.frz [6])
  (.reg [.op (.mv 69 (.t 0)),
    .op (.mv 70 (.t 6)),
    .op (.nck 71 (.t 69)),
    .op (.fa 72 (.t 71) 1 9),
    .op (.fa 73 (.t 72) 4 1),
    .op (.st (.t 73) (.t 70) 1 false)]))))))))
  [] true none

/-- nursery/topic.Apply$4 -/
def F_topic_ApplyC4 : F := .mk
  ((.seq (.reg [.op (.new 2 [(.i .i64 0), (.i .i64 0), (.i .i64 0), (.sl 1 true []), (.sl 5 true []), (.sl 1 true []), (.sl 2 true []), (.b false), (.i .i64 0), (.b false), (.i .i64 0), (.b false), (.sl 5 true [])])])
  ((.seq (.reg [.op (.ld 3 (.t 0) 1 false),
    .op (.ld 4 (.t 1) 5 true),
    .op (.callr (some 5) topic_board_next [(.t 3), (.t 4)]),
    .op (.st (.t 2) (.t 5) 13 false)])
  (.ret)))))
  [.c 2 13 true] false none

/-- (*nursery/topic.board).next -/
def F_topic_board_next : F := .mk
  ((.seq (.reg [.op (.box 3 (.t 1) 5 true),
    .op (.new 4 [(.i .i64 0), (.i .i64 0), (.i .i64 0), (.sl 1 true []), (.sl 5 true []), (.sl 1 true []), (.sl 2 true []), (.b false), (.i .i64 0), (.b false), (.i .i64 0), (.b false), (.sl 5 true [])])])
  ((.seq (.drw [] [0, 1, 2, 3, 4, 5, 6, 7, 8, 9, 10, 11, 12, 13] [.op (.mv 9 (.t 0)),
    .op (.nck 10 (.t 9)),
    .op (.fa 11 (.t 10) 1 9),
    .op (.fa 12 (.t 11) 6 1),
    .op (.ld 13 (.t 12) 1 false),
    .op (.mv 14 (.t 0)),
    .op (.nck 15 (.t 14)),
    .op (.fa 16 (.t 15) 1 9),
    .op (.ld 17 (.t 16) 9 true),
    .op (.fad 18 (.t 3) 0 1),
    .op (.ldd 19 (.t 18) 1 false),
    .op (.calls (some 20) topic_find [(.t 17), (.t 19)]),
    .op (.ixs 21 (.t 13) (.t 20) 2),
    .op (.mv 5 (.t 21))])
  ((.seq ((.seq (.reg [.op (.mv 22 (.t 5)),
    .op (.nck 23 (.t 22)),
    .op (.fa 24 (.t 23) 1 1),
    .op (.ld 25 (.t 24) 1 false),
    .op (.len 26 (.t 25) .sl),
    .op (.bin 27 .gtr (.t 26) (.k (.i .i64 0)))])
  (.ite (.t 27)
    ((.seq (.reg [.op (.mv 28 (.t 5)),
      .op (.nck 29 (.t 28)),
      .op (.fa 30 (.t 29) 1 1),
      .op (.ld 31 (.t 30) 1 false),
      .op (.ixs 32 (.t 31) (.k (.i .i64 0)) 1),
      .op (.ld 33 (.t 32) 1 false),
      .op (.mv 6 (.t 33))])
    ((.seq (.reg [.op (.mv 34 (.t 5)),
      .op (.mv 35 (.t 5)),
      .op (.nck 36 (.t 35)),
      .op (.fa 37 (.t 36) 1 1),
      .op (.ld 38 (.t 37) 1 false),
      .op (.sl 39 (.t 38) (some (.k (.i .i64 1))) none 1),
      .op (.call (some 40) slices_Clone_int_int_p [(.t 39)]),
      .op (.nck 41 (.t 34)),
      .op (.fa 42 (.t 41) 1 1),
      .op (.st (.t 42) (.t 40) 1 false)])
    ((.seq (.reg [.op (.mv 43 (.t 0)),
      .op (.callr (some 44) topic_board_advance [(.t 43)])])
    ((.seq (.reg [.op (.mv 45 (.t 6)),
      .op (.build 46 [(.i .i64 0), (.i .i64 0), (.i .i64 0), (.sl 1 true []), (.sl 5 true []), (.sl 1 true []), (.sl 2 true []), (.b false), (.i .i64 0), (.b false), (.i .i64 0), (.b false), (.sl 5 true [])] [(10, 1, (.t 45)), (11, 1, (.k (.b true)))]),
      .op (.st (.t 4) (.t 46) 13 false)])
    (.ret)))))))))
    (.skip))))
  ((.seq (.reg [.op (.mv 47 (.t 0)),
    .op (.ld 48 (.t 3) 5 true),
    .op (.callr (some 49) topic_board_wait [(.t 47), (.t 48), (.k (.i .i64 0))])])
  ((.seq (.reg [.op (.mv 50 (.t 0)),
    .op (.callr (some 51) topic_board_advance [(.t 50)])])
  ((.seq (.reg [.op (.mv 52 (.t 0)),
    .op (.nck 53 (.t 52)),
    .op (.fa 54 (.t 53) 10 1),
    .op (.ld 55 (.t 54) 1 false),
    .op (.mkf 56 topic_board_nextC1 [] [(.t 3)]),
    .op (.calls (some 57) slices_IndexFunc_api_Wake_api_Wake [(.t 55), (.t 56)]),
    .op (.mv 7 (.t 57))])
  ((.seq ((.seq (.reg [.op (.mv 58 (.t 7)),
    .op (.bin 59 .lss (.t 58) (.k (.i .i64 0)))])
  (.ite (.t 59)
    ((.seq (.reg [.op (.build 60 [(.i .i64 0), (.i .i64 0), (.i .i64 0), (.sl 1 true []), (.sl 5 true []), (.sl 1 true []), (.sl 2 true []), (.b false), (.i .i64 0), (.b false), (.i .i64 0), (.b false), (.sl 5 true [])] [(9, 1, (.k (.b true)))]),
      .op (.st (.t 4) (.t 60) 13 false)])
    (.ret)))
    (.skip))))
  ((.seq (.reg [.op (.mv 61 (.t 0)),
    .op (.nck 62 (.t 61)),
    .op (.fa 63 (.t 62) 10 1),
    .op (.ld 64 (.t 63) 1 false),
    .op (.mv 65 (.t 7)),
    .op (.ixs 66 (.t 64) (.t 65) 5),
    .op (.fa 67 (.t 66) 2 1),
    .op (.ld 68 (.t 67) 1 false),
    .op (.mv 8 (.t 68))])
  ((.seq (.reg [.op (.mv 69 (.t 0)),
    .op (.mv 70 (.t 0)),
    .op (.nck 71 (.t 70)),
    .op (.fa 72 (.t 71) 10 1),
    .op (.ld 73 (.t 72) 1 false),
    .op (.mv 74 (.t 7)),
    .op (.mv 75 (.t 7)),
    .op (.bin 76 .add (.t 75) (.k (.i .i64 1))),
    .op (.callz 77 slices_Delete_api_Wake_api_Wake [(.t 73), (.t 74), (.t 76)]),
    .op (.nck 78 (.t 69)),
    .op (.fa 79 (.t 78) 10 1),
    .op (.st (.t 79) (.t 77) 1 false)])
  ((.seq (.reg [.op (.mv 80 (.t 8)),
    .op (.build 81 [(.i .i64 0), (.i .i64 0), (.i .i64 0), (.sl 1 true []), (.sl 5 true []), (.sl 1 true []), (.sl 2 true []), (.b false), (.i .i64 0), (.b false), (.i .i64 0), (.b false), (.sl 5 true [])] [(10, 1, (.t 80)), (11, 1, (.k (.b true)))]),
    .op (.st (.t 4) (.t 81) 13 false)])
  (.ret)))))))))))))))))))))
  [.c 4 13 true] true none

/-- nursery/nurseryref23.check -/
def F_nurseryref23_check : F := .mk
  ((.seq (.reg [.op (.box 3 (.t 0) 4 true),
    .op (.box 4 (.t 1) 9 true),
    .op (.box 5 (.t 2) 5 true),
    .op (.mv 6 (.k (.i .i64 0)))])
  ((.seq ((.seq (.reg [.op (.ld 10 (.t 3) 4 true),
    .op (.ld 11 (.t 4) 9 true),
    .op (.call (some 12) nurseryref23_Check [(.t 10), (.t 11)]),
    .op (.bin 13 .neq (.t 12) (.k (.i .i64 0)))])
  (.ite (.t 13)
    ((.seq (.reg [.op (.mv 6 (.k (.i .i64 1)))])
    (.ret)))
    (.skip))))
  ((.seq ((.seq (.reg [.op (.ld 14 (.t 5) 5 true),
    .op (.call (some 15) nurseryref19_Caller [(.t 14)]),
    .op (.un 16 .not (.t 15))])
  (.ite (.t 16)
    ((.seq (.reg [.op (.mv 6 (.k (.i .i64 2)))])
    (.ret)))
    (.skip))))
  ((.seq ((.seq (.reg [.op (.fa 17 (.t 5) 1 1),
    .op (.ld 18 (.t 17) 1 false),
    .op (.call (some 19) nurseryref23_within [(.t 18), (.k (.i .i64 68)), (.k (.i .i64 71))]),
    .op (.un 20 .not (.t 19))])
  (.ite (.t 20)
    ((.seq (.reg [.op (.mv 6 (.k (.i .i64 8)))])
    (.ret)))
    (.skip))))
  ((.seq ((.seq (.reg [.op (.fa 21 (.t 5) 1 1),
    .op (.ld 22 (.t 21) 1 false),
    .op (.bin 23 .eql (.t 22) (.k (.i .i64 68))),
    .op (.mv 24 (.t 23)),
    .sc false 29 24 [.op (.fa 25 (.t 5) 2 1), .op (.ld 26 (.t 25) 1 false), .op (.call (some 27) nurseryref23_within [(.t 26), (.k (.i .i64 (-1099511627776))), (.k (.i .i64 1099511627776))]), .op (.un 28 .not (.t 27))] (.t 28)])
  (.ite (.t 29)
    ((.seq (.reg [.op (.mv 6 (.k (.i .i64 2)))])
    (.ret)))
    (.skip))))
  ((.seq ((.seq (.reg [.op (.fa 31 (.t 4) 4 1),
    .op (.ld 32 (.t 31) 1 false),
    .op (.fa 33 (.t 5) 0 1),
    .op (.ld 34 (.t 33) 1 false),
    .op (.call (some 35) nurseryref07_Find [(.t 32), (.t 34)]),
    .op (.mv 30 (.t 35)),
    .op (.ext 36 (.t 30) 0),
    .op (.ext 37 (.t 30) 1),
    .op (.mv 7 (.t 36)),
    .op (.mv 8 (.t 37))])
  ((.seq (.reg [.op (.mv 38 (.t 8))])
  (.ite (.t 38)
    ((.seq (.reg [.op (.mv 6 (.k (.i .i64 17)))])
    (.ret)))
    (.skip))))))
  ((.seq (.reg [.op (.ld 39 (.t 4) 9 true),
    .op (.fa 40 (.t 5) 0 1),
    .op (.ld 41 (.t 40) 1 false),
    .op (.call (some 42) nurseryref23_cursor [(.t 39), (.t 41)]),
    .op (.mv 9 (.t 42))])
  ((.seq ((.seq (.reg [.op (.fa 43 (.t 5) 1 1),
    .op (.ld 44 (.t 43) 1 false),
    .op (.bin 45 .eql (.t 44) (.k (.i .i64 69))),
    .op (.mv 46 (.t 45)),
    .sc false 49 46 [.op (.mv 47 (.t 9)), .op (.bin 48 .geq (.t 47) (.k (.i .i64 0)))] (.t 48)])
  (.ite (.t 49)
    ((.seq (.reg [.op (.mv 6 (.k (.i .i64 6)))])
    (.ret)))
    (.skip))))
  ((.seq ((.seq (.reg [.op (.fa 50 (.t 5) 1 1),
    .op (.ld 51 (.t 50) 1 false),
    .op (.bin 52 .eql (.t 51) (.k (.i .i64 71))),
    .op (.mv 53 (.t 52)),
    .sc true 57 53 [.op (.fa 54 (.t 5) 1 1), .op (.ld 55 (.t 54) 1 false), .op (.bin 56 .eql (.t 55) (.k (.i .i64 70)))] (.t 56),
    .op (.mv 58 (.t 57)),
    .sc false 61 58 [.op (.mv 59 (.t 9)), .op (.bin 60 .lss (.t 59) (.k (.i .i64 0)))] (.t 60)])
  (.ite (.t 61)
    ((.seq (.reg [.op (.mv 6 (.k (.i .i64 20)))])
    (.ret)))
    (.skip))))
  ((.seq (.reg [.op (.mv 6 (.k (.i .i64 0)))])
  (.ret)))))))))))))))))))))
  [.t 6] false none

def F_nurseryref23_subscribe_L0 : C :=
  (.seq ((.seq (.reg [.op (.mv 7 (.t 5)),
    .op (.fa 8 (.t 2) 6 1),
    .op (.ld 9 (.t 8) 1 false),
    .op (.len 10 (.t 9) .sl),
    .op (.bin 11 .lss (.t 7) (.t 10)),
    .op (.mv 12 (.t 11)),
    .sc false 21 12 [.op (.fa 13 (.t 2) 6 1), .op (.ld 14 (.t 13) 1 false), .op (.mv 15 (.t 5)), .op (.ixs 16 (.t 14) (.t 15) 2), .op (.fa 17 (.t 16) 0 1), .op (.ld 18 (.t 17) 1 false), .op (.mv 19 (.t 1)), .op (.bin 20 .lss (.t 18) (.t 19))] (.t 20)])
  (.ite (.t 21)
    (.skip)
    (.seq (.keep [1, 2, 4, 5]) (.exit 0)))))
  (.blk 1 (.reg [.op (.mv 22 (.t 5)),
     .op (.bin 23 .add (.t 22) (.k (.i .i64 1))),
     .op (.mv 5 (.t 23))])))

/-- nursery/nurseryref23.subscribe -/
def F_nurseryref23_subscribe : F := .mk
  ((.seq (.reg [.op (.box 2 (.t 0) 9 false),
    .op (.new 4 [(.i .i64 0), (.i .i64 0), (.i .i64 0), (.sl 1 true []), (.sl 5 true []), (.sl 1 true []), (.sl 2 true []), (.b false), (.i .i64 0)])])
  ((.seq (.reg [.op (.mv 5 (.k (.i .i64 0)))])
  ((.seq (.blk 0 (.loop [1, 2, 4, 5] F_nurseryref23_subscribe_L0))
  ((.seq (.reg [.op (.buildSl 24 2 0 [(.i .i64 0), (.sl 1 true [])] [] false),
    .op (.fa 25 (.t 2) 6 1),
    .op (.ld 26 (.t 25) 1 false),
    .op (.mv 27 (.t 5)),
    .op (.sl 28 (.t 26) none (some (.t 27)) 2),
    .op (.app 29 (.t 24) (.t 28) 2),
    .op (.mv 30 (.t 1)),
    .op (.build 31 [(.i .i64 0), (.sl 1 true [])] [(0, 1, (.t 30))]),
    .op (.buildSl 32 2 1 [(.i .i64 0), (.sl 1 true [])] [(0, (.t 31))] true),
    .op (.app 33 (.t 29) (.t 32) 2),
    .op (.mv 6 (.t 33))])
  ((.seq (.reg [.op (.mv 34 (.t 6)),
    .op (.fa 35 (.t 2) 6 1),
    .op (.ld 36 (.t 35) 1 false),
    .op (.mv 37 (.t 5)),
    .op (.sl 38 (.t 36) (some (.t 37)) none 2),
    .op (.app 39 (.t 34) (.t 38) 2),
    .op (.fa 40 (.t 2) 6 1),
    .op (.st (.t 40) (.t 39) 1 false)])
  ((.seq (.reg [.op (.ld 41 (.t 2) 9 true),
    .op (.st (.t 4) (.t 41) 9 false)])
  (.ret)))))))))))))
  [.c 4 9 true] false none

def F_nurseryref23_advance_L0 : C :=
  (.seq ((.seq (.reg [.op (.ld 11 (.t 3) 9 true),
    .op (.call (some 12) nurseryref23_publisher [(.t 11)]),
    .op (.bin 13 .geq (.t 12) (.k (.i .i64 0))),
    .op (.mv 14 (.t 13)),
    .sc false 19 14 [.op (.ld 15 (.t 2) 4 true), .op (.ld 16 (.t 3) 9 true), .op (.call (some 17) nurseryref23_Full [(.t 15), (.t 16)]), .op (.un 18 .not (.t 17))] (.t 18)])
  (.ite (.t 19)
    (.skip)
    (.seq (.keep [3, 4, 6]) (.exit 0)))))
  (.blk 1 ((.seq (.seq (.drw [] [0, 1, 2, 3, 4, 5, 6, 7] [.op (.fa 20 (.t 3) 4 1),
     .op (.ld 21 (.t 20) 1 false),
     .op (.ld 22 (.t 3) 9 true),
     .op (.call (some 23) nurseryref23_publisher [(.t 22)]),
     .op (.ixs 24 (.t 21) (.t 23) 5),
     .op (.ld 25 (.t 24) 5 true),
     .op (.new 7 [(.i .i64 0), (.i .i64 0), (.i .i64 0), (.i .i64 0), (.i .i64 0)]),
     .re (.fa 20 (.t 3) 4 1),
     .re (.ld 21 (.t 20) 1 false),
     .re (.ld 22 (.t 3) 9 true),
     .re (.ixs 24 (.t 21) (.t 23) 5),
     .re (.ld 25 (.t 24) 5 true),
     .op (.st (.t 7) (.t 25) 5 false)])
   (.frz [7]))
   ((.seq (.reg [.op (.fa 26 (.t 3) 4 1),
     .op (.ld 27 (.t 26) 1 false),
     .op (.fa 28 (.t 7) 0 1),
     .op (.ld 29 (.t 28) 1 false),
     .op (.call (some 30) nurseryref07_Remove [(.t 27), (.t 29)]),
     .op (.fa 31 (.t 3) 4 1),
     .op (.st (.t 31) (.t 30) 1 false)])
   ((.seq (.reg [.op (.ld 33 (.t 3) 9 true),
     .op (.fa 34 (.t 7) 2 1),
     .op (.ld 35 (.t 34) 1 false),
     .op (.call (some 36) nurseryref23_published [(.t 33), (.t 35)]),
     .op (.mv 32 (.t 36)),
     .op (.ext 37 (.t 32) 0),
     .op (.ext 38 (.t 32) 1),
     .op (.new 8 [(.i .i64 0), (.i .i64 0), (.i .i64 0), (.sl 1 true []), (.sl 5 true []), (.sl 1 true []), (.sl 2 true []), (.b false), (.i .i64 0)]),
     .op (.st (.t 8) (.t 37) 9 true),
     .op (.mv 9 (.t 38))])
   ((.seq (.reg [.op (.ld 39 (.t 8) 9 true),
     .op (.st (.t 3) (.t 39) 9 false)])
   (.reg [.op (.mv 40 (.t 6)),
     .op (.fa 41 (.t 7) 0 1),
     .op (.ld 42 (.t 41) 1 false),
     .op (.fa 43 (.t 7) 1 1),
     .op (.ld 44 (.t 43) 1 false),
     .op (.build 45 [(.i .i64 0), (.i .i64 0), (.i .i64 0), (.b false), (.i .i64 0)] [(0, 1, (.t 42)), (1, 1, (.t 44)), (3, 1, (.k (.b true))), (4, 1, (.k (.i .i64 (-1))))]),
     .op (.buildSl 46 5 1 [(.i .i64 0), (.i .i64 0), (.i .i64 0), (.b false), (.i .i64 0)] [(0, (.t 45))] true),
     .op (.app 47 (.t 40) (.t 46) 5),
     .op (.mv 48 (.t 9)),
     .op (.app 49 (.t 47) (.t 48) 5),
     .op (.mv 6 (.t 49))])))))))))))

/-- nursery/nurseryref23.advance -/
def F_nurseryref23_advance : F := .mk
  ((.seq (.reg [.op (.box 2 (.t 0) 4 true),
    .op (.box 3 (.t 1) 9 false),
    .op (.new 4 [(.i .i64 0), (.i .i64 0), (.i .i64 0), (.sl 1 true []), (.sl 5 true []), (.sl 1 true []), (.sl 2 true []), (.b false), (.i .i64 0)]),
    .op (.mv 5 (.k (.sl 5 true [])))])
  ((.seq (.reg [.op (.buildSl 10 5 0 [(.i .i64 0), (.i .i64 0), (.i .i64 0), (.b false), (.i .i64 0)] [] false),
    .op (.mv 6 (.t 10))])
  ((.seq (.blk 0 (.loop [2, 3, 4, 6] F_nurseryref23_advance_L0))
  ((.seq (.reg [.op (.ld 50 (.t 3) 9 true),
    .op (.mv 51 (.t 6)),
    .op (.st (.t 4) (.t 50) 9 false),
    .op (.mv 5 (.t 51))])
  (.ret)))))))))
  [.c 4 9 true, .t 5] false none

/-- nursery/nurseryref23.without -/
def F_nurseryref23_without : F := .mk
  ((.seq (.reg [.op (.box 2 (.t 0) 9 false),
    .op (.new 4 [(.i .i64 0), (.i .i64 0), (.i .i64 0), (.sl 1 true []), (.sl 5 true []), (.sl 1 true []), (.sl 2 true []), (.b false), (.i .i64 0)])])
  ((.seq (.reg [.op (.ld 6 (.t 2) 9 true),
    .op (.mv 7 (.t 1)),
    .op (.call (some 8) nurseryref23_cursor [(.t 6), (.t 7)]),
    .op (.mv 5 (.t 8))])
  ((.seq (.drw [] [1, 2, 3, 4, 6, 7, 8, 9, 10, 0, 5, 11, 12, 13] [.op (.fa 10 (.t 2) 6 1),
    .op (.ld 11 (.t 10) 1 false),
    .op (.mv 12 (.t 5)),
    .op (.sl 13 (.t 11) none (some (.t 12)) 2),
    .op (.fa 15 (.t 2) 6 1),
    .op (.ld 16 (.t 15) 1 false),
    .op (.mv 17 (.t 5)),
    .op (.bin 18 .add (.t 17) (.k (.i .i64 1))),
    .op (.sl 19 (.t 16) (some (.t 18)) none 2),
    .op (.buildSl 9 2 0 [(.i .i64 0), (.sl 1 true [])] [] false),
    .re (.fa 10 (.t 2) 6 1),
    .re (.ld 11 (.t 10) 1 false),
    .re (.sl 13 (.t 11) none (some (.t 12)) 2),
    .re (.fa 15 (.t 2) 6 1),
    .re (.ld 16 (.t 15) 1 false),
    .re (.sl 19 (.t 16) (some (.t 18)) none 2),
    .op (.app 14 (.t 9) (.t 13) 2),
    .re (.fa 15 (.t 2) 6 1),
    .re (.ld 16 (.t 15) 1 false),
    .re (.sl 19 (.t 16) (some (.t 18)) none 2),
    .op (.app 20 (.t 14) (.t 19) 2),
    .op (.fa 21 (.t 2) 6 1),
    .op (.st (.t 21) (.t 20) 1 false)])
  ((.seq (.reg [.op (.ld 22 (.t 2) 9 true),
    .op (.st (.t 4) (.t 22) 9 false)])
  (.ret)))))))))
  [.c 4 9 true] false none

def F_nurseryref23_next_L0 : C :=
  (.seq ((.seq (.reg [.op (.mv 76 (.t 14)),
    .op (.mv 77 (.t 12)),
    .op (.len 78 (.t 77) .sl),
    .op (.bin 79 .lss (.t 76) (.t 78))])
  (.ite (.t 79)
    (.skip)
    (.seq (.keep [6, 13]) (.exit 0)))))
  ((.seq (.blk 1 ((.seq (.drw [] [0, 1, 2, 3, 4, 5, 6, 7] [.op (.mv 82 (.t 12)),
     .op (.mv 83 (.t 14)),
     .op (.ixs 84 (.t 82) (.t 83) 5),
     .op (.fa 85 (.t 84) 0 1),
     .op (.ld 86 (.t 85) 1 false),
     .op (.fad 87 (.t 5) 0 1),
     .op (.ldd 88 (.t 87) 1 false),
     .op (.bin 89 .eql (.t 86) (.t 88))])
   (.ite (.t 89)
     (.drw [] [0, 1, 2, 3, 4, 5, 6, 7, 8, 9, 10] [.op (.mv 90 (.t 12)),
       .op (.mv 91 (.t 14)),
       .op (.ixs 92 (.t 90) (.t 91) 5),
       .op (.fa 93 (.t 92) 2 1),
       .op (.ld 94 (.t 93) 1 false),
       .op (.fa 95 (.t 13) 9 1),
       .op (.st (.t 95) (.k (.b false)) 1 false),
       .re (.ixs 92 (.t 90) (.t 91) 5),
       .re (.fa 93 (.t 92) 2 1),
       .re (.ld 94 (.t 93) 1 false),
       .op (.fa 96 (.t 13) 10 1),
       .op (.st (.t 96) (.t 94) 1 false),
       .op (.fa 97 (.t 13) 11 1),
       .op (.st (.t 97) (.k (.b true)) 1 false)])
     (.drw [] [0, 1, 2, 3, 4, 5, 6, 7, 8, 9] [.op (.fa 98 (.t 13) 12 1),
       .op (.ld 99 (.t 98) 1 false),
       .op (.mv 100 (.t 12)),
       .op (.mv 101 (.t 14)),
       .op (.ixs 102 (.t 100) (.t 101) 5),
       .op (.ld 103 (.t 102) 5 true),
       .op (.buildSl 104 5 1 [(.i .i64 0), (.i .i64 0), (.i .i64 0), (.b false), (.i .i64 0)] [(0, (.t 103))] true),
       .op (.app 105 (.t 99) (.t 104) 5),
       .op (.fa 106 (.t 13) 12 1),
       .op (.st (.t 106) (.t 105) 1 false)])))))
  (.reg [.op (.mv 80 (.t 14)),
    .op (.bin 81 .add (.t 80) (.k (.i .i64 1))),
    .op (.mv 14 (.t 81))]))))

/-- nursery/nurseryref23.next -/
def F_nurseryref23_next : F := .mk
  ((.seq (.reg [.op (.box 3 (.t 0) 4 true),
    .op (.box 4 (.t 1) 9 false),
    .op (.box 5 (.t 2) 5 true),
    .op (.new 6 [(.i .i64 0), (.i .i64 0), (.i .i64 0), (.sl 1 true []), (.sl 5 true []), (.sl 1 true []), (.sl 2 true []), (.b false), (.i .i64 0), (.b false), (.i .i64 0), (.b false), (.sl 5 true [])])])
  ((.seq (.reg [.op (.ld 15 (.t 4) 9 true),
    .op (.fa 16 (.t 5) 0 1),
    .op (.ld 17 (.t 16) 1 false),
    .op (.call (some 18) nurseryref23_cursor [(.t 15), (.t 17)]),
    .op (.mv 7 (.t 18))])
  ((.seq ((.seq (.reg [.op (.fa 19 (.t 4) 6 1),
    .op (.ld 20 (.t 19) 1 false),
    .op (.mv 21 (.t 7)),
    .op (.ixs 22 (.t 20) (.t 21) 2),
    .op (.fa 23 (.t 22) 1 1),
    .op (.ld 24 (.t 23) 1 false),
    .op (.mv 8 (.t 24))])
  ((.seq (.reg [.op (.mv 25 (.t 8)),
    .op (.len 26 (.t 25) .sl),
    .op (.bin 27 .gtr (.t 26) (.k (.i .i64 0)))])
  (.ite (.t 27)
    ((.seq (.reg [.op (.buildSl 28 2 0 [(.i .i64 0), (.sl 1 true [])] [] false),
      .op (.fa 29 (.t 4) 6 1),
      .op (.ld 30 (.t 29) 1 false),
      .op (.app 31 (.t 28) (.t 30) 2),
      .op (.fa 32 (.t 4) 6 1),
      .op (.st (.t 32) (.t 31) 1 false)])
    ((.seq (.drw [] [0, 1, 2, 4, 5, 3, 6, 7, 8, 9] [.op (.fa 33 (.t 4) 6 1),
      .op (.ld 34 (.t 33) 1 false),
      .op (.mv 35 (.t 7)),
      .op (.mv 37 (.t 8)),
      .op (.sl 38 (.t 37) (some (.k (.i .i64 1))) none 1),
      .op (.buildSl 36 1 0 [(.i .i64 0)] [] false),
      .re (.fa 33 (.t 4) 6 1),
      .re (.ld 34 (.t 33) 1 false),
      .re (.sl 38 (.t 37) (some (.k (.i .i64 1))) none 1),
      .op (.apk 39 (.t 36) (.t 38) 1),
      .re (.fa 33 (.t 4) 6 1),
      .re (.ld 34 (.t 33) 1 false),
      .op (.ixs 40 (.t 34) (.t 35) 2),
      .op (.fa 41 (.t 40) 1 1),
      .op (.st (.t 41) (.t 39) 1 false)])
    ((.seq (.seq (.fzc 4 6)
    (.reg [.op (.ld 43 (.t 3) 4 true),
      .op (.ld 44 (.t 4) 9 true),
      .op (.call (some 45) nurseryref23_advance [(.t 43), (.t 44)]),
      .op (.mv 42 (.t 45)),
      .op (.ext 46 (.t 42) 0),
      .op (.ext 47 (.t 42) 1),
      .op (.new 9 [(.i .i64 0), (.i .i64 0), (.i .i64 0), (.sl 1 true []), (.sl 5 true []), (.sl 1 true []), (.sl 2 true []), (.b false), (.i .i64 0)]),
      .op (.st (.t 9) (.t 46) 9 true),
      .op (.mv 10 (.t 47))]))
    ((.seq (.drw [] [0, 1, 2, 3, 4, 5, 6] [.op (.ldd 48 (.t 9) 9 true),
      .op (.mv 49 (.t 8)),
      .op (.ixs 50 (.t 49) (.k (.i .i64 0)) 1),
      .op (.ld 51 (.t 50) 1 false),
      .op (.mv 52 (.t 10)),
      .op (.build 53 [(.i .i64 0), (.i .i64 0), (.i .i64 0), (.sl 1 true []), (.sl 5 true []), (.sl 1 true []), (.sl 2 true []), (.b false), (.i .i64 0), (.b false), (.i .i64 0), (.b false), (.sl 5 true [])] [(0, 9, (.t 48)), (10, 1, (.t 51)), (11, 1, (.k (.b true))), (12, 1, (.t 52))]),
      .op (.st (.t 6) (.t 53) 13 false)])
    (.ret)))))))))
    (.skip))))))
  ((.seq (.reg [.op (.fa 55 (.t 4) 4 1),
    .op (.ld 56 (.t 55) 1 false),
    .op (.fa 57 (.t 5) 0 1),
    .op (.ld 58 (.t 57) 1 false),
    .op (.fa 59 (.t 5) 1 1),
    .op (.ld 60 (.t 59) 1 false),
    .op (.fa 61 (.t 5) 3 1),
    .op (.ld 62 (.t 61) 1 false),
    .op (.build 63 [(.i .i64 0), (.i .i64 0), (.i .i64 0), (.i .i64 0), (.i .i64 0)] [(0, 1, (.t 58)), (1, 1, (.t 60)), (3, 1, (.t 62)), (4, 1, (.k (.i .i64 (-1))))]),
    .op (.call (some 64) nurseryref07_Push [(.k (.i .i64 1)), (.t 56), (.t 63)]),
    .op (.mv 54 (.t 64)),
    .op (.ext 65 (.t 54) 0),
    .op (.ext 66 (.t 54) 1),
    .op (.fa 67 (.t 4) 4 1),
    .op (.st (.t 67) (.t 65) 1 false)])
  ((.seq (.reg [.op (.ld 69 (.t 3) 4 true),
    .op (.ld 70 (.t 4) 9 true),
    .op (.call (some 71) nurseryref23_advance [(.t 69), (.t 70)]),
    .op (.mv 68 (.t 71)),
    .op (.ext 72 (.t 68) 0),
    .op (.ext 73 (.t 68) 1),
    .op (.new 11 [(.i .i64 0), (.i .i64 0), (.i .i64 0), (.sl 1 true []), (.sl 5 true []), (.sl 1 true []), (.sl 2 true []), (.b false), (.i .i64 0)]),
    .op (.st (.t 11) (.t 72) 9 true),
    .op (.mv 12 (.t 73))])
  ((.seq (.reg [.op (.ld 74 (.t 11) 9 true),
    .op (.build 75 [(.i .i64 0), (.i .i64 0), (.i .i64 0), (.sl 1 true []), (.sl 5 true []), (.sl 1 true []), (.sl 2 true []), (.b false), (.i .i64 0), (.b false), (.i .i64 0), (.b false), (.sl 5 true [])] [(0, 9, (.t 74)), (9, 1, (.k (.b true)))]),
    .op (.new 13 [(.i .i64 0), (.i .i64 0), (.i .i64 0), (.sl 1 true []), (.sl 5 true []), (.sl 1 true []), (.sl 2 true []), (.b false), (.i .i64 0), (.b false), (.i .i64 0), (.b false), (.sl 5 true [])]),
    .op (.st (.t 13) (.t 75) 13 false)])
  ((.seq ((.seq (.reg [.op (.mv 14 (.k (.i .i64 0)))])
  (.blk 0 (.loop [5, 6, 12, 13, 14] F_nurseryref23_next_L0))))
  ((.seq (.reg [.op (.ld 107 (.t 13) 13 true),
    .op (.st (.t 6) (.t 107) 13 false)])
  (.ret)))))))))))))))))
  [.c 6 13 true] false none

def F_nurseryref23_publisher_L0 : C :=
  (.seq ((.seq (.reg [.op (.mv 4 (.t 3)),
    .op (.fa 5 (.t 1) 4 1),
    .op (.ld 6 (.t 5) 1 false),
    .op (.len 7 (.t 6) .sl),
    .op (.bin 8 .lss (.t 4) (.t 7))])
  (.ite (.t 8)
    (.skip)
    (.seq (.keep []) (.exit 0)))))
  ((.seq (.blk 1 ((.seq (.reg [.op (.fa 11 (.t 1) 4 1),
     .op (.ld 12 (.t 11) 1 false),
     .op (.mv 13 (.t 3)),
     .op (.ixs 14 (.t 12) (.t 13) 5),
     .op (.fa 15 (.t 14) 1 1),
     .op (.ld 16 (.t 15) 1 false),
     .op (.bin 17 .eql (.t 16) (.k (.i .i64 68)))])
   (.ite (.t 17)
     ((.seq (.reg [.op (.mv 18 (.t 3)),
       .op (.mv 2 (.t 18))])
     (.seq (.keep [2]) .ret)))
     (.skip)))))
  (.reg [.op (.mv 9 (.t 3)),
    .op (.bin 10 .add (.t 9) (.k (.i .i64 1))),
    .op (.mv 3 (.t 10))]))))

/-- nursery/nurseryref23.publisher -/
def F_nurseryref23_publisher : F := .mk
  ((.seq (.reg [.op (.box 1 (.t 0) 9 true),
    .op (.mv 2 (.k (.i .i64 0)))])
  ((.seq ((.seq (.reg [.op (.mv 3 (.k (.i .i64 0)))])
  (.blk 0 (.loop [1, 3] F_nurseryref23_publisher_L0))))
  ((.seq (.reg [.op (.mv 2 (.k (.i .i64 (-1))))])
  (.ret)))))))
  [.t 2] false none

def F_nurseryref23_published_L0 : C :=
  (.seq ((.seq (.reg [.op (.mv 15 (.t 9)),
    .op (.fa 16 (.t 2) 6 1),
    .op (.ld 17 (.t 16) 1 false),
    .op (.len 18 (.t 17) .sl),
    .op (.bin 19 .lss (.t 15) (.t 18))])
  (.ite (.t 19)
    (.skip)
    (.seq (.keep [1, 2, 4, 6, 7, 8]) (.exit 0)))))
  ((.seq (.blk 1 ((.seq (.reg [.op (.fa 22 (.t 2) 6 1),
     .op (.ld 23 (.t 22) 1 false),
     .op (.mv 24 (.t 9)),
     .op (.ixs 25 (.t 23) (.t 24) 2),
     .op (.ld 26 (.t 25) 2 true),
     .op (.new 10 [(.i .i64 0), (.sl 1 true [])]),
     .op (.st (.t 10) (.t 26) 2 false)])
   ((.seq ((.seq (.reg [.op (.ld 27 (.t 2) 9 true),
     .op (.fa 28 (.t 10) 0 1),
     .op (.ld 29 (.t 28) 1 false),
     .op (.call (some 30) nurseryref23_waits [(.t 27), (.t 29), (.k (.i .i64 70))]),
     .op (.un 31 .not (.t 30))])
   (.ite (.t 31)
     (.reg [.op (.buildSl 32 1 0 [(.i .i64 0)] [] false),
       .op (.fa 33 (.t 10) 1 1),
       .op (.ld 34 (.t 33) 1 false),
       .op (.app 35 (.t 32) (.t 34) 1),
       .op (.mv 36 (.t 1)),
       .op (.buildSl 37 1 1 [(.i .i64 0)] [(0, (.t 36))] true),
       .op (.apk 38 (.t 35) (.t 37) 1),
       .op (.fa 39 (.t 10) 1 1),
       .op (.st (.t 39) (.t 38) 1 false)])
     (.skip))))
   (.reg [.op (.mv 40 (.t 8)),
     .op (.ld 41 (.t 10) 2 true),
     .op (.buildSl 42 2 1 [(.i .i64 0), (.sl 1 true [])] [(0, (.t 41))] true),
     .op (.app 43 (.t 40) (.t 42) 2),
     .op (.mv 8 (.t 43))]))))))
  (.reg [.op (.mv 20 (.t 9)),
    .op (.bin 21 .add (.t 20) (.k (.i .i64 1))),
    .op (.mv 9 (.t 21))]))))

def F_nurseryref23_published_L1 : C :=
  (.seq ((.seq (.reg [.op (.mv 44 (.t 11)),
    .op (.fa 45 (.t 2) 4 1),
    .op (.ld 46 (.t 45) 1 false),
    .op (.len 47 (.t 46) .sl),
    .op (.bin 48 .lss (.t 44) (.t 47))])
  (.ite (.t 48)
    (.skip)
    (.seq (.keep [2, 4, 6, 7, 8]) (.exit 2)))))
  ((.seq (.blk 3 ((.seq (.reg [.op (.fa 51 (.t 2) 4 1),
     .op (.ld 52 (.t 51) 1 false),
     .op (.mv 53 (.t 11)),
     .op (.ixs 54 (.t 52) (.t 53) 5),
     .op (.fa 55 (.t 54) 1 1),
     .op (.ld 56 (.t 55) 1 false),
     .op (.bin 57 .eql (.t 56) (.k (.i .i64 70)))])
   (.ite (.t 57)
     (.reg [.op (.mv 58 (.t 6)),
       .op (.fa 59 (.t 2) 4 1),
       .op (.ld 60 (.t 59) 1 false),
       .op (.mv 61 (.t 11)),
       .op (.ixs 62 (.t 60) (.t 61) 5),
       .op (.fa 63 (.t 62) 0 1),
       .op (.ld 64 (.t 63) 1 false),
       .op (.mv 65 (.t 1)),
       .op (.build 66 [(.i .i64 0), (.i .i64 0), (.i .i64 0), (.b false), (.i .i64 0)] [(0, 1, (.t 64)), (1, 1, (.k (.i .i64 70))), (2, 1, (.t 65)), (3, 1, (.k (.b true))), (4, 1, (.k (.i .i64 (-1))))]),
       .op (.buildSl 67 5 1 [(.i .i64 0), (.i .i64 0), (.i .i64 0), (.b false), (.i .i64 0)] [(0, (.t 66))] true),
       .op (.app 68 (.t 58) (.t 67) 5),
       .op (.mv 6 (.t 68))])
     (.reg [.op (.mv 69 (.t 7)),
       .op (.fa 70 (.t 2) 4 1),
       .op (.ld 71 (.t 70) 1 false),
       .op (.mv 72 (.t 11)),
       .op (.ixs 73 (.t 71) (.t 72) 5),
       .op (.ld 74 (.t 73) 5 true),
       .op (.buildSl 75 5 1 [(.i .i64 0), (.i .i64 0), (.i .i64 0), (.i .i64 0), (.i .i64 0)] [(0, (.t 74))] true),
       .op (.app 76 (.t 69) (.t 75) 5),
       .op (.mv 7 (.t 76))])))))
  (.reg [.op (.mv 49 (.t 11)),
    .op (.bin 50 .add (.t 49) (.k (.i .i64 1))),
    .op (.mv 11 (.t 50))]))))

/-- nursery/nurseryref23.published -/
def F_nurseryref23_published : F := .mk
  ((.seq (.reg [.op (.box 2 (.t 0) 9 false),
    .op (.new 4 [(.i .i64 0), (.i .i64 0), (.i .i64 0), (.sl 1 true []), (.sl 5 true []), (.sl 1 true []), (.sl 2 true []), (.b false), (.i .i64 0)]),
    .op (.mv 5 (.k (.sl 5 true [])))])
  ((.seq (.reg [.op (.buildSl 12 5 0 [(.i .i64 0), (.i .i64 0), (.i .i64 0), (.b false), (.i .i64 0)] [] false),
    .op (.buildSl 13 5 0 [(.i .i64 0), (.i .i64 0), (.i .i64 0), (.i .i64 0), (.i .i64 0)] [] false),
    .op (.buildSl 14 2 0 [(.i .i64 0), (.sl 1 true [])] [] false),
    .op (.mv 6 (.t 12)),
    .op (.mv 7 (.t 13)),
    .op (.mv 8 (.t 14))])
  ((.seq ((.seq (.reg [.op (.mv 9 (.k (.i .i64 0)))])
  (.blk 0 (.loop [1, 2, 4, 6, 7, 8, 9] F_nurseryref23_published_L0))))
  ((.seq ((.seq (.reg [.op (.mv 11 (.k (.i .i64 0)))])
  (.blk 2 (.loop [1, 2, 4, 6, 7, 8, 11] F_nurseryref23_published_L1))))
  ((.seq (.reg [.op (.mv 77 (.t 7)),
    .op (.mv 78 (.t 8)),
    .op (.fa 79 (.t 2) 4 1),
    .op (.st (.t 79) (.t 77) 1 false),
    .op (.fa 80 (.t 2) 6 1),
    .op (.st (.t 80) (.t 78) 1 false)])
  ((.seq (.reg [.op (.ld 81 (.t 2) 9 true),
    .op (.mv 82 (.t 6)),
    .op (.st (.t 4) (.t 81) 9 false),
    .op (.mv 5 (.t 82))])
  (.ret)))))))))))))
  [.c 4 9 true, .t 5] false none

def F_nurseryref07_Push_L0 : C :=
  (.seq ((.seq (.drw [] [0, 1, 2, 3, 4, 5, 6, 7, 8, 9, 10, 11, 12] [.op (.mv 30 (.t 9)),
    .op (.bin 31 .gtr (.t 30) (.k (.i .i64 0))),
    .op (.mv 32 (.t 31)),
    .sc false 42 32 [.op (.mv 33 (.t 1)), .op (.mv 34 (.t 9)), .op (.bin 35 .sub (.t 34) (.k (.i .i64 1))), .op (.ixs 36 (.t 33) (.t 35) 5), .op (.fa 37 (.t 36) 3 1), .op (.ld 38 (.t 37) 1 false), .op (.fad 39 (.t 5) 3 1), .op (.ldd 40 (.t 39) 1 false), .op (.bin 41 .lss (.t 38) (.t 40))] (.t 41)])
  (.ite (.t 42)
    (.skip)
    (.seq (.keep [1, 5, 9]) (.exit 0)))))
  (.blk 1 (.reg [.op (.mv 43 (.t 9)),
     .op (.bin 44 .sub (.t 43) (.k (.i .i64 1))),
     .op (.mv 9 (.t 44))])))

/-- nursery/nurseryref07.Push -/
def F_nurseryref07_Push : F := .mk
  ((.seq (.reg [.op (.box 5 (.t 2) 5 true),
    .op (.mv 6 (.k (.sl 5 true []))),
    .op (.mv 7 (.k (.i .i64 0)))])
  ((.seq ((.seq (.reg [.op (.mv 11 (.t 0)),
    .op (.mv 12 (.t 1)),
    .op (.call (some 13) nurseryref07_Check [(.t 11), (.t 12)]),
    .op (.mv 8 (.t 13))])
  ((.seq (.reg [.op (.mv 14 (.t 8)),
    .op (.bin 15 .neq (.t 14) (.k (.i .i64 0)))])
  (.ite (.t 15)
    ((.seq (.reg [.op (.buildSl 16 5 0 [(.i .i64 0), (.i .i64 0), (.i .i64 0), (.i .i64 0), (.i .i64 0)] [] false),
      .op (.mv 17 (.t 8)),
      .op (.mv 6 (.t 16)),
      .op (.mv 7 (.t 17))])
    (.ret)))
    (.skip))))))
  ((.seq ((.seq (.reg [.op (.ld 18 (.t 5) 5 true),
    .op (.call (some 19) nurseryref07_Valid [(.t 18)]),
    .op (.un 20 .not (.t 19))])
  (.ite (.t 20)
    ((.seq (.reg [.op (.buildSl 21 5 0 [(.i .i64 0), (.i .i64 0), (.i .i64 0), (.i .i64 0), (.i .i64 0)] [] false),
      .op (.mv 6 (.t 21)),
      .op (.mv 7 (.k (.i .i64 2)))])
    (.ret)))
    (.skip))))
  ((.seq ((.seq (.reg [.op (.mv 22 (.t 1)),
    .op (.len 23 (.t 22) .sl),
    .op (.bin 24 .eql (.t 23) (.k (.i .i64 96)))])
  (.ite (.t 24)
    ((.seq (.reg [.op (.buildSl 25 5 0 [(.i .i64 0), (.i .i64 0), (.i .i64 0), (.i .i64 0), (.i .i64 0)] [] false),
      .op (.mv 6 (.t 25)),
      .op (.mv 7 (.k (.i .i64 4)))])
    (.ret)))
    (.skip))))
  ((.seq (.reg [.op (.mv 26 (.t 1)),
    .op (.len 27 (.t 26) .sl),
    .op (.mv 9 (.t 27))])
  ((.seq ((.seq (.reg [.op (.mv 28 (.t 0)),
    .op (.bin 29 .eql (.t 28) (.k (.i .i64 2)))])
  (.ite (.t 29)
    (.blk 0 (.loop [1, 5, 9] F_nurseryref07_Push_L0))
    (.skip))))
  ((.seq (.drw [] [1, 2, 3, 5, 6, 0, 4, 7, 8] [.op (.mv 46 (.t 1)),
    .op (.mv 47 (.t 9)),
    .op (.sl 48 (.t 46) none (some (.t 47)) 5),
    .op (.ldd 50 (.t 5) 5 true),
    .op (.buildSl 51 5 1 [(.i .i64 0), (.i .i64 0), (.i .i64 0), (.i .i64 0), (.i .i64 0)] [(0, (.t 50))] true),
    .op (.buildSl 45 5 0 [(.i .i64 0), (.i .i64 0), (.i .i64 0), (.i .i64 0), (.i .i64 0)] [] false),
    .re (.sl 48 (.t 46) none (some (.t 47)) 5),
    .op (.app 49 (.t 45) (.t 48) 5),
    .op (.app 52 (.t 49) (.t 51) 5),
    .op (.mv 10 (.t 52))])
  ((.seq (.reg [.op (.mv 53 (.t 10)),
    .op (.mv 54 (.t 1)),
    .op (.mv 55 (.t 9)),
    .op (.sl 56 (.t 54) (some (.t 55)) none 5),
    .op (.app 57 (.t 53) (.t 56) 5),
    .op (.mv 6 (.t 57)),
    .op (.mv 7 (.k (.i .i64 0)))])
  (.ret)))))))))))))))))
  [.t 6, .t 7] false none

def F_nurseryref07_Same_L0 : C :=
  (.seq ((.seq (.reg [.op (.mv 11 (.t 5)),
    .op (.mv 12 (.t 0)),
    .op (.len 13 (.t 12) .sl),
    .op (.bin 14 .lss (.t 11) (.t 13))])
  (.ite (.t 14)
    (.skip)
    (.seq (.keep []) (.exit 0)))))
  ((.seq (.blk 1 ((.seq (.drw [] [0, 1, 2, 3, 4, 5, 6, 7, 8] [.op (.mv 17 (.t 0)),
     .op (.mv 18 (.t 5)),
     .op (.ixs 19 (.t 17) (.t 18) 5),
     .op (.ld 20 (.t 19) 5 true),
     .op (.mv 21 (.t 1)),
     .op (.mv 22 (.t 5)),
     .op (.ixs 23 (.t 21) (.t 22) 5),
     .op (.ld 24 (.t 23) 5 true),
     .op (.eqv 25 true (.t 20) (.t 24) [.i, .i, .i, .i, .i])])
   (.ite (.t 25)
     ((.seq (.reg [.op (.mv 4 (.k (.b false)))])
     (.seq (.keep [4]) .ret)))
     (.skip)))))
  (.reg [.op (.mv 15 (.t 5)),
    .op (.bin 16 .add (.t 15) (.k (.i .i64 1))),
    .op (.mv 5 (.t 16))]))))

/-- nursery/nurseryref07.Same -/
def F_nurseryref07_Same : F := .mk
  ((.seq (.reg [.op (.mv 4 (.k (.b false)))])
  ((.seq ((.seq (.reg [.op (.mv 6 (.t 0)),
    .op (.len 7 (.t 6) .sl),
    .op (.mv 8 (.t 1)),
    .op (.len 9 (.t 8) .sl),
    .op (.bin 10 .neq (.t 7) (.t 9))])
  (.ite (.t 10)
    ((.seq (.reg [.op (.mv 4 (.k (.b false)))])
    (.ret)))
    (.skip))))
  ((.seq ((.seq (.reg [.op (.mv 5 (.k (.i .i64 0)))])
  (.blk 0 (.loop [0, 1, 5] F_nurseryref07_Same_L0))))
  ((.seq (.reg [.op (.mv 4 (.k (.b true)))])
  (.ret)))))))))
  [.t 4] false none

def F_nurseryref19_sameInts_L0 : C :=
  (.seq ((.seq (.reg [.op (.mv 11 (.t 5)),
    .op (.mv 12 (.t 0)),
    .op (.len 13 (.t 12) .sl),
    .op (.bin 14 .lss (.t 11) (.t 13))])
  (.ite (.t 14)
    (.skip)
    (.seq (.keep []) (.exit 0)))))
  ((.seq (.blk 1 ((.seq (.drw [] [0, 1, 2, 3, 4, 5, 6, 7, 8] [.op (.mv 17 (.t 0)),
     .op (.mv 18 (.t 5)),
     .op (.ixs 19 (.t 17) (.t 18) 1),
     .op (.ld 20 (.t 19) 1 false),
     .op (.mv 21 (.t 1)),
     .op (.mv 22 (.t 5)),
     .op (.ixs 23 (.t 21) (.t 22) 1),
     .op (.ld 24 (.t 23) 1 false),
     .op (.bin 25 .neq (.t 20) (.t 24))])
   (.ite (.t 25)
     ((.seq (.reg [.op (.mv 4 (.k (.b false)))])
     (.seq (.keep [4]) .ret)))
     (.skip)))))
  (.reg [.op (.mv 15 (.t 5)),
    .op (.bin 16 .add (.t 15) (.k (.i .i64 1))),
    .op (.mv 5 (.t 16))]))))

/-- nursery/nurseryref19.sameInts -/
def F_nurseryref19_sameInts : F := .mk
  ((.seq (.reg [.op (.mv 4 (.k (.b false)))])
  ((.seq ((.seq (.reg [.op (.mv 6 (.t 0)),
    .op (.len 7 (.t 6) .sl),
    .op (.mv 8 (.t 1)),
    .op (.len 9 (.t 8) .sl),
    .op (.bin 10 .neq (.t 7) (.t 9))])
  (.ite (.t 10)
    ((.seq (.reg [.op (.mv 4 (.k (.b false)))])
    (.ret)))
    (.skip))))
  ((.seq ((.seq (.reg [.op (.mv 5 (.k (.i .i64 0)))])
  (.blk 0 (.loop [0, 1, 5] F_nurseryref19_sameInts_L0))))
  ((.seq (.reg [.op (.mv 4 (.k (.b true)))])
  (.ret)))))))))
  [.t 4] false none

def F_topic_cursors_L0 : C :=
  (.seq (.reg [.op (.bin 50 .lss (.t 49) (.t 48))])
  ((.seq (.ite (.t 50)
    (.skip)
    (.seq (.keep [0, 1, 9, 10, 11]) (.exit 2)))
  ((.seq (.blk 3 ((.seq (.reg [.op (.ixs 51 (.t 47) (.t 49) 1),
     .op (.ld 52 (.t 51) 1 false),
     .op (.mv 8 (.t 52))])
   ((.seq (.reg [.op (.mv 53 (.t 8)),
     .op (.call (some 54) topic_number [(.t 53)]),
     .op (.un 55 .not (.t 54))])
   (.ite (.t 55)
     ((.seq (.reg [.op (.mv 4 (.k (.b false)))])
     (.seq (.keep [4]) .ret)))
     (.skip)))))))
  (.reg [.op (.bin 56 .add (.t 49) (.k (.i .i64 1))),
    .op (.mv 49 (.t 56))]))))))

def F_topic_cursors_L1 : C :=
  (.seq (.reg [.op (.bin 12 .lss (.t 11) (.t 10))])
  ((.seq (.ite (.t 12)
    (.skip)
    (.seq (.keep []) (.exit 0)))
  ((.seq (.blk 1 ((.seq (.reg [.op (.mv 13 (.t 11)),
     .op (.ixs 14 (.t 9) (.t 11) 2),
     .op (.ld 15 (.t 14) 2 true),
     .op (.new 6 [(.i .i64 0), (.sl 1 true [])]),
     .op (.mv 5 (.t 13)),
     .op (.st (.t 6) (.t 15) 2 true)])
   ((.seq ((.seq (.drw [] [0, 1, 2, 3, 4, 5, 6, 7, 8, 9, 10, 11, 12, 13, 14, 15, 16, 17, 18, 19, 20, 21, 22, 23, 24, 25, 26, 27, 28, 29] [.op (.fad 16 (.t 6) 0 1),
     .op (.ldd 17 (.t 16) 1 false),
     .op (.bin 18 .lss (.t 17) (.k (.i .i64 0))),
     .op (.mv 19 (.t 18)),
     .sc true 23 19 [.op (.fad 20 (.t 6) 0 1), .op (.ldd 21 (.t 20) 1 false), .op (.bin 22 .geq (.t 21) (.k (.i .i64 16)))] (.t 22),
     .op (.mv 24 (.t 23)),
     .sc true 38 24 [.op (.mv 25 (.t 5)), .op (.bin 26 .gtr (.t 25) (.k (.i .i64 0))), .op (.mv 27 (.t 26)), .sc false 37 27 [.op (.mv 28 (.t 1)), .op (.mv 29 (.t 5)), .op (.bin 30 .sub (.t 29) (.k (.i .i64 1))), .op (.ixs 31 (.t 28) (.t 30) 2), .op (.fa 32 (.t 31) 0 1), .op (.ld 33 (.t 32) 1 false), .op (.fad 34 (.t 6) 0 1), .op (.ldd 35 (.t 34) 1 false), .op (.bin 36 .geq (.t 33) (.t 35))] (.t 36)] (.t 37),
     .op (.mv 39 (.t 38)),
     .sc true 45 39 [.op (.fad 40 (.t 6) 1 1), .op (.ldd 41 (.t 40) 1 false), .op (.len 42 (.t 41) .sl), .op (.mv 43 (.t 0)), .op (.bin 44 .gtr (.t 42) (.t 43))] (.t 44)])
   (.ite (.t 45)
     ((.seq (.reg [.op (.mv 4 (.k (.b false)))])
     (.seq (.keep [4]) .ret)))
     (.skip))))
   ((.seq (.reg [.op (.fa 46 (.t 6) 1 1),
     .op (.ld 47 (.t 46) 1 false),
     .op (.len 48 (.t 47) .sl),
     .op (.mv 49 (.k (.i .i64 0)))])
   (.blk 2 (.loop [0, 1, 9, 10, 11, 47, 48, 49] F_topic_cursors_L0)))))))))
  (.reg [.op (.bin 57 .add (.t 11) (.k (.i .i64 1))),
    .op (.mv 11 (.t 57))]))))))

/-- nursery/topic.cursors -/
def F_topic_cursors : F := .mk
  ((.seq (.reg [.op (.mv 4 (.k (.b false)))])
  ((.seq ((.seq (.reg [.op (.mv 9 (.t 1)),
    .op (.len 10 (.t 9) .sl),
    .op (.mv 11 (.k (.i .i64 0)))])
  (.blk 0 (.loop [0, 1, 9, 10, 11] F_topic_cursors_L1))))
  ((.seq (.reg [.op (.mv 4 (.k (.b true)))])
  (.ret)))))))
  [.t 4] false none

def F_topic_queue_L0 : C :=
  (.seq (.reg [.op (.bin 18 .lss (.t 17) (.t 16))])
  ((.seq (.ite (.t 18)
    (.skip)
    (.seq (.keep []) (.exit 0)))
  ((.seq (.blk 1 ((.seq (.reg [.op (.mv 19 (.t 17)),
     .op (.ixs 20 (.t 15) (.t 17) 5),
     .op (.ld 21 (.t 20) 5 true),
     .op (.new 6 [(.i .i64 0), (.i .i64 0), (.i .i64 0), (.i .i64 0), (.i .i64 0)]),
     .op (.mv 5 (.t 19)),
     .op (.st (.t 6) (.t 21) 5 true)])
   ((.seq ((.seq (.reg [.op (.fa 23 (.t 3) 4 1),
     .op (.ld 24 (.t 23) 1 false),
     .op (.fa 25 (.t 6) 0 1),
     .op (.ld 26 (.t 25) 1 false),
     .op (.call (some 27) waitlist_Find [(.t 24), (.t 26)]),
     .op (.mv 22 (.t 27)),
     .op (.ext 28 (.t 22) 0),
     .op (.ext 29 (.t 22) 1),
     .op (.mv 7 (.t 28)),
     .op (.mv 8 (.t 29))])
   ((.seq (.reg [.op (.mv 30 (.t 7)),
     .op (.mv 31 (.t 5)),
     .op (.bin 32 .neq (.t 30) (.t 31)),
     .op (.mv 33 (.t 32)),
     .sc true 37 33 [.op (.fa 34 (.t 6) 4 1), .op (.ld 35 (.t 34) 1 false), .op (.bin 36 .neq (.t 35) (.k (.i .i64 (-1))))] (.t 36)])
   (.ite (.t 37)
     ((.seq (.reg [.op (.mv 4 (.k (.b false)))])
     (.seq (.keep [4]) .ret)))
     (.skip))))))
   ((.seq (.reg [.op (.fa 38 (.t 6) 1 1),
     .op (.ld 39 (.t 38) 1 false)])
   (.blk 2 ((.seq (.reg [.op (.bin 41 .eql (.t 39) (.k (.i .i64 70))),
      .op (.mv 40 (.t 41))])
    (.ite (.t 40)
      ((.seq (.reg [.op (.ld 42 (.t 3) 9 true),
        .op (.fa 43 (.t 6) 0 1),
        .op (.ld 44 (.t 43) 1 false),
        .op (.call (some 45) topic_find [(.t 42), (.t 44)]),
        .op (.mv 9 (.t 45))])
      ((.seq (.reg [.op (.mv 46 (.t 9)),
        .op (.bin 47 .lss (.t 46) (.k (.i .i64 0))),
        .op (.mv 48 (.t 47)),
        .sc true 57 48 [.op (.fa 49 (.t 3) 6 1), .op (.ld 50 (.t 49) 1 false), .op (.mv 51 (.t 9)), .op (.ixs 52 (.t 50) (.t 51) 2), .op (.fa 53 (.t 52) 1 1), .op (.ld 54 (.t 53) 1 false), .op (.len 55 (.t 54) .sl), .op (.bin 56 .gtr (.t 55) (.k (.i .i64 0)))] (.t 56),
        .op (.mv 58 (.t 57)),
        .sc true 62 58 [.op (.fa 59 (.t 6) 2 1), .op (.ld 60 (.t 59) 1 false), .op (.bin 61 .neq (.t 60) (.k (.i .i64 0)))] (.t 61)])
      (.ite (.t 62)
        ((.seq (.reg [.op (.mv 4 (.k (.b false)))])
        (.seq (.keep [4]) .ret)))
        (.skip))))))
      ((.seq (.reg [.op (.bin 64 .eql (.t 39) (.k (.i .i64 68))),
        .op (.mv 63 (.t 64))])
      (.ite (.t 63)
        ((.seq (.reg [.op (.mv 65 (.t 0)),
          .op (.ld 66 (.t 3) 9 true),
          .op (.call (some 67) topic_full [(.t 65), (.t 66)]),
          .op (.un 68 .not (.t 67))])
        (.ite (.t 68)
          ((.seq (.reg [.op (.mv 4 (.k (.b false)))])
          (.seq (.keep [4]) .ret)))
          (.skip))))
        ((.seq (.reg [.op (.mv 4 (.k (.b false)))])
        (.seq (.keep [4]) .ret)))))))))))))))))
  (.reg [.op (.bin 69 .add (.t 17) (.k (.i .i64 1))),
    .op (.mv 17 (.t 69))]))))))

/-- nursery/topic.queue -/
def F_topic_queue : F := .mk
  ((.seq (.reg [.op (.box 3 (.t 1) 9 true),
    .op (.mv 4 (.k (.b false)))])
  ((.seq ((.seq (.reg [.op (.fa 10 (.t 3) 4 1),
    .op (.ld 11 (.t 10) 1 false),
    .op (.call (some 12) waitlist_Check [(.k (.i .i64 1)), (.t 11)]),
    .op (.bin 13 .neq (.t 12) (.k (.i .i64 0)))])
  (.ite (.t 13)
    ((.seq (.reg [.op (.mv 4 (.k (.b false)))])
    (.ret)))
    (.skip))))
  ((.seq ((.seq (.reg [.op (.fa 14 (.t 3) 4 1),
    .op (.ld 15 (.t 14) 1 false),
    .op (.len 16 (.t 15) .sl),
    .op (.mv 17 (.k (.i .i64 0)))])
  (.blk 0 (.loop [0, 3, 15, 16, 17] F_topic_queue_L0))))
  ((.seq (.reg [.op (.mv 4 (.k (.b true)))])
  (.ret)))))))))
  [.t 4] false none

def F_nurseryref23_checkCursors_L0 : C :=
  (.seq ((.seq (.reg [.op (.mv 48 (.t 7)),
    .op (.fa 49 (.t 6) 1 1),
    .op (.ld 50 (.t 49) 1 false),
    .op (.len 51 (.t 50) .sl),
    .op (.bin 52 .lss (.t 48) (.t 51))])
  (.ite (.t 52)
    (.skip)
    (.seq (.keep [2, 3, 5]) (.exit 2)))))
  ((.seq (.blk 3 ((.seq (.reg [.op (.fa 55 (.t 6) 1 1),
     .op (.ld 56 (.t 55) 1 false),
     .op (.mv 57 (.t 7)),
     .op (.ixs 58 (.t 56) (.t 57) 1),
     .op (.ld 59 (.t 58) 1 false),
     .op (.call (some 60) nurseryref23_within [(.t 59), (.k (.i .i64 (-1099511627776))), (.k (.i .i64 1099511627776))]),
     .op (.un 61 .not (.t 60))])
   (.ite (.t 61)
     ((.seq (.reg [.op (.mv 4 (.k (.b false)))])
     (.seq (.keep [4]) .ret)))
     (.skip)))))
  (.reg [.op (.mv 53 (.t 7)),
    .op (.bin 54 .add (.t 53) (.k (.i .i64 1))),
    .op (.mv 7 (.t 54))]))))

def F_nurseryref23_checkCursors_L1 : C :=
  (.seq ((.seq (.reg [.op (.mv 8 (.t 5)),
    .op (.fa 9 (.t 3) 6 1),
    .op (.ld 10 (.t 9) 1 false),
    .op (.len 11 (.t 10) .sl),
    .op (.bin 12 .lss (.t 8) (.t 11))])
  (.ite (.t 12)
    (.skip)
    (.seq (.keep []) (.exit 0)))))
  ((.seq (.blk 1 ((.seq (.reg [.op (.fa 15 (.t 3) 6 1),
     .op (.ld 16 (.t 15) 1 false),
     .op (.mv 17 (.t 5)),
     .op (.ixs 18 (.t 16) (.t 17) 2),
     .op (.ld 19 (.t 18) 2 true),
     .op (.new 6 [(.i .i64 0), (.sl 1 true [])]),
     .op (.st (.t 6) (.t 19) 2 true)])
   ((.seq ((.seq (.drw [] [0, 1, 2, 3, 4, 5, 6, 7, 8, 9, 10, 11, 12, 13, 14, 15, 16, 17, 18, 19, 20, 21, 22, 23, 24, 25, 26, 27] [.op (.fad 20 (.t 6) 0 1),
     .op (.ldd 21 (.t 20) 1 false),
     .op (.call (some 22) nurseryref23_within [(.t 21), (.k (.i .i64 0)), (.k (.i .i64 15))]),
     .op (.un 23 .not (.t 22)),
     .op (.mv 24 (.t 23)),
     .sc true 39 24 [.op (.mv 25 (.t 5)), .op (.bin 26 .gtr (.t 25) (.k (.i .i64 0))), .op (.mv 27 (.t 26)), .sc false 38 27 [.op (.fad 28 (.t 6) 0 1), .op (.ldd 29 (.t 28) 1 false), .op (.fad 30 (.t 3) 6 1), .op (.ldd 31 (.t 30) 1 false), .op (.mv 32 (.t 5)), .op (.bin 33 .sub (.t 32) (.k (.i .i64 1))), .op (.ixs 34 (.t 31) (.t 33) 2), .op (.fa 35 (.t 34) 0 1), .op (.ld 36 (.t 35) 1 false), .op (.bin 37 .leq (.t 29) (.t 36))] (.t 37)] (.t 38),
     .op (.mv 40 (.t 39)),
     .sc true 47 40 [.op (.fad 41 (.t 6) 1 1), .op (.ldd 42 (.t 41) 1 false), .op (.len 43 (.t 42) .sl), .op (.fad 44 (.t 2) 2 1), .op (.ldd 45 (.t 44) 1 false), .op (.bin 46 .gtr (.t 43) (.t 45))] (.t 46)])
   (.ite (.t 47)
     ((.seq (.reg [.op (.mv 4 (.k (.b false)))])
     (.seq (.keep [4]) .ret)))
     (.skip))))
   ((.seq (.reg [.op (.mv 7 (.k (.i .i64 0)))])
   (.blk 2 (.loop [2, 3, 5, 6, 7] F_nurseryref23_checkCursors_L0)))))))))
  (.reg [.op (.mv 13 (.t 5)),
    .op (.bin 14 .add (.t 13) (.k (.i .i64 1))),
    .op (.mv 5 (.t 14))]))))

/-- nursery/nurseryref23.checkCursors -/
def F_nurseryref23_checkCursors : F := .mk
  ((.seq (.reg [.op (.box 2 (.t 0) 4 true),
    .op (.box 3 (.t 1) 9 true),
    .op (.mv 4 (.k (.b false)))])
  ((.seq ((.seq (.reg [.op (.mv 5 (.k (.i .i64 0)))])
  (.blk 0 (.loop [2, 3, 5] F_nurseryref23_checkCursors_L1))))
  ((.seq (.reg [.op (.mv 4 (.k (.b true)))])
  (.ret)))))))
  [.t 4] false none

def F_nurseryref23_checkQueue_L0 : C :=
  (.seq ((.seq (.reg [.op (.mv 14 (.t 5)),
    .op (.fa 15 (.t 3) 4 1),
    .op (.ld 16 (.t 15) 1 false),
    .op (.len 17 (.t 16) .sl),
    .op (.bin 18 .lss (.t 14) (.t 17))])
  (.ite (.t 18)
    (.skip)
    (.seq (.keep [2, 3]) (.exit 0)))))
  ((.seq (.blk 1 ((.seq (.reg [.op (.fa 21 (.t 3) 4 1),
     .op (.ld 22 (.t 21) 1 false),
     .op (.mv 23 (.t 5)),
     .op (.ixs 24 (.t 22) (.t 23) 5),
     .op (.ld 25 (.t 24) 5 true),
     .op (.new 6 [(.i .i64 0), (.i .i64 0), (.i .i64 0), (.i .i64 0), (.i .i64 0)]),
     .op (.st (.t 6) (.t 25) 5 true)])
   ((.seq (.reg [.op (.fa 27 (.t 3) 4 1),
     .op (.ld 28 (.t 27) 1 false),
     .op (.fa 29 (.t 6) 0 1),
     .op (.ld 30 (.t 29) 1 false),
     .op (.call (some 31) nurseryref07_Find [(.t 28), (.t 30)]),
     .op (.mv 26 (.t 31)),
     .op (.ext 32 (.t 26) 0),
     .op (.ext 33 (.t 26) 1),
     .op (.mv 7 (.t 32)),
     .op (.mv 8 (.t 33))])
   ((.seq ((.seq (.reg [.op (.fa 34 (.t 6) 1 1),
     .op (.ld 35 (.t 34) 1 false),
     .op (.bin 36 .neq (.t 35) (.k (.i .i64 70))),
     .op (.mv 37 (.t 36)),
     .sc false 41 37 [.op (.fa 38 (.t 6) 1 1), .op (.ld 39 (.t 38) 1 false), .op (.bin 40 .neq (.t 39) (.k (.i .i64 68)))] (.t 40),
     .op (.mv 42 (.t 41)),
     .sc true 46 42 [.op (.fa 43 (.t 6) 4 1), .op (.ld 44 (.t 43) 1 false), .op (.bin 45 .neq (.t 44) (.k (.i .i64 (-1))))] (.t 45),
     .op (.mv 47 (.t 46)),
     .sc true 51 47 [.op (.mv 48 (.t 7)), .op (.mv 49 (.t 5)), .op (.bin 50 .neq (.t 48) (.t 49))] (.t 50)])
   (.ite (.t 51)
     ((.seq (.reg [.op (.mv 4 (.k (.b false)))])
     (.seq (.keep [4]) .ret)))
     (.skip))))
   ((.seq (.reg [.op (.fa 52 (.t 6) 1 1),
     .op (.ld 53 (.t 52) 1 false),
     .op (.bin 54 .eql (.t 53) (.k (.i .i64 70)))])
   (.ite (.t 54)
     ((.seq (.reg [.op (.ld 55 (.t 3) 9 true),
       .op (.fa 56 (.t 6) 0 1),
       .op (.ld 57 (.t 56) 1 false),
       .op (.call (some 58) nurseryref23_cursor [(.t 55), (.t 57)]),
       .op (.mv 9 (.t 58))])
     ((.seq (.reg [.op (.mv 59 (.t 9)),
       .op (.bin 60 .lss (.t 59) (.k (.i .i64 0))),
       .op (.mv 61 (.t 60)),
       .sc true 70 61 [.op (.fa 62 (.t 3) 6 1), .op (.ld 63 (.t 62) 1 false), .op (.mv 64 (.t 9)), .op (.ixs 65 (.t 63) (.t 64) 2), .op (.fa 66 (.t 65) 1 1), .op (.ld 67 (.t 66) 1 false), .op (.len 68 (.t 67) .sl), .op (.bin 69 .gtr (.t 68) (.k (.i .i64 0)))] (.t 69),
       .op (.mv 71 (.t 70)),
       .sc true 75 71 [.op (.fa 72 (.t 6) 2 1), .op (.ld 73 (.t 72) 1 false), .op (.bin 74 .neq (.t 73) (.k (.i .i64 0)))] (.t 74)])
     (.ite (.t 75)
       ((.seq (.reg [.op (.mv 4 (.k (.b false)))])
       (.seq (.keep [4]) .ret)))
       (.skip))))))
     (.skip)))))))))))
  (.reg [.op (.mv 19 (.t 5)),
    .op (.bin 20 .add (.t 19) (.k (.i .i64 1))),
    .op (.mv 5 (.t 20))]))))

/-- nursery/nurseryref23.checkQueue -/
def F_nurseryref23_checkQueue : F := .mk
  ((.seq (.reg [.op (.box 2 (.t 0) 4 true),
    .op (.box 3 (.t 1) 9 true),
    .op (.mv 4 (.k (.b false)))])
  ((.seq ((.seq (.reg [.op (.fa 10 (.t 3) 4 1),
    .op (.ld 11 (.t 10) 1 false),
    .op (.call (some 12) nurseryref07_Check [(.k (.i .i64 1)), (.t 11)]),
    .op (.bin 13 .neq (.t 12) (.k (.i .i64 0)))])
  (.ite (.t 13)
    ((.seq (.reg [.op (.mv 4 (.k (.b false)))])
    (.ret)))
    (.skip))))
  ((.seq ((.seq (.reg [.op (.mv 5 (.k (.i .i64 0)))])
  (.blk 0 (.loop [2, 3, 5] F_nurseryref23_checkQueue_L0))))
  ((.seq (.reg [.op (.ld 76 (.t 3) 9 true),
    .op (.call (some 77) nurseryref23_publisher [(.t 76)]),
    .op (.bin 78 .lss (.t 77) (.k (.i .i64 0))),
    .op (.mv 79 (.t 78)),
    .sc true 83 79 [.op (.ld 80 (.t 2) 4 true), .op (.ld 81 (.t 3) 9 true), .op (.call (some 82) nurseryref23_Full [(.t 80), (.t 81)])] (.t 82),
    .op (.mv 4 (.t 83))])
  (.ret)))))))))
  [.t 4] false none

def F_slices_IndexFunc_api_Waiter_api_Waiter_L0 : C :=
  (.seq (.reg [.op (.bin 9 .lss (.t 8) (.t 7))])
  ((.seq (.ite (.t 9)
    (.skip)
    (.seq (.keep []) (.exit 0)))
  ((.seq (.blk 1 ((.seq (.reg [.op (.mv 10 (.t 8)),
     .op (.mv 5 (.t 10))])
   ((.seq (.reg [.op (.mv 11 (.t 1)),
     .op (.mv 12 (.t 0)),
     .op (.mv 13 (.t 5)),
     .op (.ixs 14 (.t 12) (.t 13) 5),
     .op (.ld 15 (.t 14) 5 true),
     .op (.callv (some 16) (.t 11) [(.t 15)])])
   (.ite (.t 16)
     ((.seq (.reg [.op (.mv 17 (.t 5)),
       .op (.mv 4 (.t 17))])
     (.seq (.keep [4]) .ret)))
     (.skip)))))))
  (.reg [.op (.bin 18 .add (.t 8) (.k (.i .i64 1))),
    .op (.mv 8 (.t 18))]))))))

/-- slices.IndexFunc[[]nursery/api.Waiter,nursery/api.Waiter] -/
def F_slices_IndexFunc_api_Waiter_api_Waiter : F := .mk
  ((.seq (.reg [.op (.mv 4 (.k (.i .i64 0)))])
  ((.seq ((.seq (.reg [.op (.mv 6 (.t 0)),
    .op (.len 7 (.t 6) .sl),
    .op (.mv 8 (.k (.i .i64 0)))])
  (.blk 0 (.loop [0, 1, 7, 8] F_slices_IndexFunc_api_Waiter_api_Waiter_L0))))
  ((.seq (.reg [.op (.mv 4 (.k (.i .i64 (-1))))])
  (.ret)))))))
  [.t 4] false none

def F_waitlist_Find_L0 : C :=
  (.seq (.reg [.op (.bin 11 .lss (.t 10) (.t 9))])
  ((.seq (.ite (.t 11)
    (.skip)
    (.seq (.keep []) (.exit 0)))
  ((.seq (.blk 1 ((.seq (.reg [.op (.mv 12 (.t 10)),
     .op (.ixs 13 (.t 8) (.t 10) 5),
     .op (.ld 14 (.t 13) 5 true),
     .op (.new 7 [(.i .i64 0), (.i .i64 0), (.i .i64 0), (.i .i64 0), (.i .i64 0)]),
     .op (.mv 6 (.t 12)),
     .op (.st (.t 7) (.t 14) 5 true)])
   ((.seq (.reg [.op (.fa 15 (.t 7) 0 1),
     .op (.ld 16 (.t 15) 1 false),
     .op (.mv 17 (.t 1)),
     .op (.bin 18 .eql (.t 16) (.t 17))])
   (.ite (.t 18)
     ((.seq (.reg [.op (.mv 19 (.t 6)),
       .op (.mv 4 (.t 19)),
       .op (.mv 5 (.k (.b true)))])
     (.seq (.keep [4, 5]) .ret)))
     (.skip)))))))
  (.reg [.op (.bin 20 .add (.t 10) (.k (.i .i64 1))),
    .op (.mv 10 (.t 20))]))))))

/-- nursery/waitlist.Find -/
def F_waitlist_Find : F := .mk
  ((.seq (.reg [.op (.mv 4 (.k (.i .i64 0))),
    .op (.mv 5 (.k (.b false)))])
  ((.seq ((.seq (.reg [.op (.mv 8 (.t 0)),
    .op (.len 9 (.t 8) .sl),
    .op (.mv 10 (.k (.i .i64 0)))])
  (.blk 0 (.loop [1, 8, 9, 10] F_waitlist_Find_L0))))
  ((.seq (.reg [.op (.mv 4 (.k (.i .i64 0))),
    .op (.mv 5 (.k (.b false)))])
  (.ret)))))))
  [.t 4, .t 5] false none

/-- nursery/waitlist.Remove -/
def F_waitlist_Remove : F := .mk
  ((.seq (.reg [.op (.box 3 (.t 1) 1 true),
    .op (.mv 4 (.k (.sl 5 true [])))])
  ((.seq (.reg [.op (.mv 5 (.t 0)),
    .op (.mkf 6 waitlist_RemoveC1 [] [(.t 3)]),
    .op (.call (some 7) waitlist_filter [(.t 5), (.t 6)]),
    .op (.mv 4 (.t 7))])
  (.ret)))))
  [.t 4] false none

def F_nurseryref23_waits_L0 : C :=
  (.seq ((.seq (.reg [.op (.mv 8 (.t 7)),
    .op (.fa 9 (.t 3) 4 1),
    .op (.ld 10 (.t 9) 1 false),
    .op (.len 11 (.t 10) .sl),
    .op (.bin 12 .lss (.t 8) (.t 11))])
  (.ite (.t 12)
    (.skip)
    (.seq (.keep []) (.exit 0)))))
  ((.seq (.blk 1 ((.seq (.reg [.op (.fa 15 (.t 3) 4 1),
     .op (.ld 16 (.t 15) 1 false),
     .op (.mv 17 (.t 7)),
     .op (.ixs 18 (.t 16) (.t 17) 5),
     .op (.fa 19 (.t 18) 0 1),
     .op (.ld 20 (.t 19) 1 false),
     .op (.mv 21 (.t 1)),
     .op (.bin 22 .eql (.t 20) (.t 21)),
     .op (.mv 23 (.t 22)),
     .sc false 32 23 [.op (.fa 24 (.t 3) 4 1), .op (.ld 25 (.t 24) 1 false), .op (.mv 26 (.t 7)), .op (.ixs 27 (.t 25) (.t 26) 5), .op (.fa 28 (.t 27) 1 1), .op (.ld 29 (.t 28) 1 false), .op (.mv 30 (.t 2)), .op (.bin 31 .eql (.t 29) (.t 30))] (.t 31)])
   (.ite (.t 32)
     ((.seq (.reg [.op (.mv 6 (.k (.b true)))])
     (.seq (.keep [6]) .ret)))
     (.skip)))))
  (.reg [.op (.mv 13 (.t 7)),
    .op (.bin 14 .add (.t 13) (.k (.i .i64 1))),
    .op (.mv 7 (.t 14))]))))

/-- nursery/nurseryref23.waits -/
def F_nurseryref23_waits : F := .mk
  ((.seq (.reg [.op (.box 3 (.t 0) 9 true),
    .op (.mv 6 (.k (.b false)))])
  ((.seq ((.seq (.reg [.op (.mv 7 (.k (.i .i64 0)))])
  (.blk 0 (.loop [1, 2, 3, 7] F_nurseryref23_waits_L0))))
  ((.seq (.reg [.op (.mv 6 (.k (.b false)))])
  (.ret)))))))
  [.t 6] false none

def F_nurseryref07_Find_L0 : C :=
  (.seq ((.seq (.reg [.op (.mv 7 (.t 6)),
    .op (.mv 8 (.t 0)),
    .op (.len 9 (.t 8) .sl),
    .op (.bin 10 .lss (.t 7) (.t 9))])
  (.ite (.t 10)
    (.skip)
    (.seq (.keep []) (.exit 0)))))
  ((.seq (.blk 1 ((.seq (.reg [.op (.mv 13 (.t 0)),
     .op (.mv 14 (.t 6)),
     .op (.ixs 15 (.t 13) (.t 14) 5),
     .op (.fa 16 (.t 15) 0 1),
     .op (.ld 17 (.t 16) 1 false),
     .op (.mv 18 (.t 1)),
     .op (.bin 19 .eql (.t 17) (.t 18))])
   (.ite (.t 19)
     ((.seq (.reg [.op (.mv 20 (.t 6)),
       .op (.mv 4 (.t 20)),
       .op (.mv 5 (.k (.b true)))])
     (.seq (.keep [4, 5]) .ret)))
     (.skip)))))
  (.reg [.op (.mv 11 (.t 6)),
    .op (.bin 12 .add (.t 11) (.k (.i .i64 1))),
    .op (.mv 6 (.t 12))]))))

/-- nursery/nurseryref07.Find -/
def F_nurseryref07_Find : F := .mk
  ((.seq (.reg [.op (.mv 4 (.k (.i .i64 0))),
    .op (.mv 5 (.k (.b false)))])
  ((.seq ((.seq (.reg [.op (.mv 6 (.k (.i .i64 0)))])
  (.blk 0 (.loop [0, 1, 6] F_nurseryref07_Find_L0))))
  ((.seq (.reg [.op (.mv 4 (.k (.i .i64 0))),
    .op (.mv 5 (.k (.b false)))])
  (.ret)))))))
  [.t 4, .t 5] false none

def F_nurseryref07_Remove_L0 : C :=
  (.seq ((.seq (.reg [.op (.mv 8 (.t 6)),
    .op (.mv 9 (.t 0)),
    .op (.len 10 (.t 9) .sl),
    .op (.bin 11 .lss (.t 8) (.t 10))])
  (.ite (.t 11)
    (.skip)
    (.seq (.keep [5]) (.exit 0)))))
  ((.seq (.blk 1 ((.seq (.reg [.op (.mv 14 (.t 0)),
     .op (.mv 15 (.t 6)),
     .op (.ixs 16 (.t 14) (.t 15) 5),
     .op (.fa 17 (.t 16) 0 1),
     .op (.ld 18 (.t 17) 1 false),
     .op (.mv 19 (.t 1)),
     .op (.bin 20 .neq (.t 18) (.t 19))])
   (.ite (.t 20)
     (.reg [.op (.mv 21 (.t 5)),
       .op (.mv 22 (.t 0)),
       .op (.mv 23 (.t 6)),
       .op (.ixs 24 (.t 22) (.t 23) 5),
       .op (.ld 25 (.t 24) 5 true),
       .op (.buildSl 26 5 1 [(.i .i64 0), (.i .i64 0), (.i .i64 0), (.i .i64 0), (.i .i64 0)] [(0, (.t 25))] true),
       .op (.app 27 (.t 21) (.t 26) 5),
       .op (.mv 5 (.t 27))])
     (.skip)))))
  (.reg [.op (.mv 12 (.t 6)),
    .op (.bin 13 .add (.t 12) (.k (.i .i64 1))),
    .op (.mv 6 (.t 13))]))))

/-- nursery/nurseryref07.Remove -/
def F_nurseryref07_Remove : F := .mk
  ((.seq (.reg [.op (.mv 4 (.k (.sl 5 true [])))])
  ((.seq (.reg [.op (.buildSl 7 5 0 [(.i .i64 0), (.i .i64 0), (.i .i64 0), (.i .i64 0), (.i .i64 0)] [] false),
    .op (.mv 5 (.t 7))])
  ((.seq ((.seq (.reg [.op (.mv 6 (.k (.i .i64 0)))])
  (.blk 0 (.loop [0, 1, 5, 6] F_nurseryref07_Remove_L0))))
  ((.seq (.reg [.op (.mv 28 (.t 5)),
    .op (.mv 4 (.t 28))])
  (.ret)))))))))
  [.t 4] false none

def F_nurseryref23_cursor_L0 : C :=
  (.seq ((.seq (.reg [.op (.mv 6 (.t 5)),
    .op (.fa 7 (.t 2) 6 1),
    .op (.ld 8 (.t 7) 1 false),
    .op (.len 9 (.t 8) .sl),
    .op (.bin 10 .lss (.t 6) (.t 9))])
  (.ite (.t 10)
    (.skip)
    (.seq (.keep []) (.exit 0)))))
  ((.seq (.blk 1 ((.seq (.reg [.op (.fa 13 (.t 2) 6 1),
     .op (.ld 14 (.t 13) 1 false),
     .op (.mv 15 (.t 5)),
     .op (.ixs 16 (.t 14) (.t 15) 2),
     .op (.fa 17 (.t 16) 0 1),
     .op (.ld 18 (.t 17) 1 false),
     .op (.mv 19 (.t 1)),
     .op (.bin 20 .eql (.t 18) (.t 19))])
   (.ite (.t 20)
     ((.seq (.reg [.op (.mv 21 (.t 5)),
       .op (.mv 4 (.t 21))])
     (.seq (.keep [4]) .ret)))
     (.skip)))))
  (.reg [.op (.mv 11 (.t 5)),
    .op (.bin 12 .add (.t 11) (.k (.i .i64 1))),
    .op (.mv 5 (.t 12))]))))

/-- nursery/nurseryref23.cursor -/
def F_nurseryref23_cursor : F := .mk
  ((.seq (.reg [.op (.box 2 (.t 0) 9 true),
    .op (.mv 4 (.k (.i .i64 0)))])
  ((.seq ((.seq (.reg [.op (.mv 5 (.k (.i .i64 0)))])
  (.blk 0 (.loop [1, 2, 5] F_nurseryref23_cursor_L0))))
  ((.seq (.reg [.op (.mv 4 (.k (.i .i64 (-1))))])
  (.ret)))))))
  [.t 4] false none

def F_nurserylaw23_book_wake_L0 : C :=
  (.seq (.reg [.op (.bin 10 .lss (.t 9) (.t 8))])
  ((.seq (.ite (.t 10)
    (.skip)
    (.seq (.keep []) (.exit 0)))
  ((.seq (.blk 1 ((.seq (.reg [.op (.ixs 11 (.t 7) (.t 9) 5),
     .op (.ld 12 (.t 11) 5 true),
     .op (.new 6 [(.i .i64 0), (.i .i64 0), (.i .i64 0), (.b false), (.i .i64 0)]),
     .op (.st (.t 6) (.t 12) 5 true)])
   ((.seq ((.seq (.reg [.op (.fa 13 (.t 6) 1 1),
     .op (.ld 14 (.t 13) 1 false),
     .op (.bin 15 .eql (.t 14) (.k (.i .i64 70)))])
   (.ite (.t 15)
     ((.seq (.drw [] [0, 1, 2, 3, 4, 5, 6, 7, 8, 9, 10, 11, 12, 13, 14, 15, 16, 17] [.op (.mv 16 (.t 0)),
       .op (.nck 17 (.t 16)),
       .op (.fa 18 (.t 17) 1 1),
       .op (.ld 19 (.t 18) 1 false),
       .op (.fad 20 (.t 6) 0 1),
       .op (.ldd 21 (.t 20) 1 false),
       .op (.mv 22 (.t 0)),
       .op (.nck 23 (.t 22)),
       .op (.fa 24 (.t 23) 1 1),
       .op (.ld 25 (.t 24) 1 false),
       .op (.fad 26 (.t 6) 0 1),
       .op (.ldd 27 (.t 26) 1 false),
       .op (.mget 28 (.t 25) (.t 27) (.sl 0 true []) false [.i]),
       .op (.fad 29 (.t 6) 2 1),
       .op (.ldd 30 (.t 29) 1 false),
       .op (.buildSl 31 1 1 [(.i .i64 0)] [(0, (.t 30))] true),
       .op (.app 32 (.t 28) (.t 31) 1),
       .re (.fa 18 (.t 17) 1 1),
       .re (.ld 19 (.t 18) 1 false),
       .op (.mput (.t 19) (.t 21) (.t 32) [.i])])
     (.seq (.keep [0, 7, 8, 9]) (.exit 1))))
     (.skip))))
   ((.seq ((.seq (.drw [] [0, 1, 2, 3, 4, 5, 6, 7, 8, 9, 10, 11, 12, 13, 14, 15, 16] [.op (.mv 33 (.t 0)),
     .op (.nck 34 (.t 33)),
     .op (.fa 35 (.t 34) 3 1),
     .op (.ld 36 (.t 35) 1 false),
     .op (.len 37 (.t 36) .sl),
     .op (.bin 38 .eql (.t 37) (.k (.i .i64 0))),
     .op (.mv 39 (.t 38)),
     .sc true 49 39 [.op (.mv 40 (.t 0)), .op (.nck 41 (.t 40)), .op (.fa 42 (.t 41) 3 1), .op (.ld 43 (.t 42) 1 false), .op (.ixs 44 (.t 43) (.k (.i .i64 0)) 1), .op (.ld 45 (.t 44) 1 false), .op (.fad 46 (.t 6) 0 1), .op (.ldd 47 (.t 46) 1 false), .op (.bin 48 .neq (.t 45) (.t 47))] (.t 48)])
   (.ite (.t 49)
     ((.seq (.reg [.op (.mv 4 (.k (.b false)))])
     (.seq (.keep [4]) .ret)))
     (.skip))))
   ((.seq (.reg [.op (.mv 50 (.t 0)),
     .op (.mv 51 (.t 0)),
     .op (.nck 52 (.t 51)),
     .op (.fa 53 (.t 52) 3 1),
     .op (.ld 54 (.t 53) 1 false),
     .op (.sl 55 (.t 54) (some (.k (.i .i64 1))) none 1),
     .op (.nck 56 (.t 50)),
     .op (.fa 57 (.t 56) 3 1),
     .op (.st (.t 57) (.t 55) 1 false)])
   (.drw [] [0, 1, 2, 3, 4, 5, 6, 7, 8] [.op (.mv 58 (.t 0)),
     .op (.mv 59 (.t 0)),
     .op (.nck 60 (.t 59)),
     .op (.fa 61 (.t 60) 2 1),
     .op (.ld 62 (.t 61) 1 false),
     .op (.fad 63 (.t 6) 0 1),
     .op (.ldd 64 (.t 63) 1 false),
     .op (.mget 65 (.t 62) (.t 64) (.i .i64 0) false [.i]),
     .op (.call (some 66) nurserylaw23_book_publish [(.t 58), (.t 65)])]))))))))))
  (.reg [.op (.bin 67 .add (.t 9) (.k (.i .i64 1))),
    .op (.mv 9 (.t 67))]))))))

/-- (*nursery/nurserylaw23.book).wake -/
def F_nurserylaw23_book_wake : F := .mk
  ((.seq (.reg [.op (.mv 4 (.k (.b false)))])
  ((.seq ((.seq (.reg [.op (.mv 7 (.t 1)),
    .op (.len 8 (.t 7) .sl),
    .op (.mv 9 (.k (.i .i64 0)))])
  (.blk 0 (.loop [0, 7, 8, 9] F_nurserylaw23_book_wake_L0))))
  ((.seq (.reg [.op (.mv 4 (.k (.b true)))])
  (.ret)))))))
  [.t 4] false none

def F_slices_Equal_int_int_L0 : C :=
  (.seq (.reg [.op (.bin 14 .lss (.t 13) (.t 12))])
  ((.seq (.ite (.t 14)
    (.skip)
    (.seq (.keep []) (.exit 0)))
  ((.seq (.blk 1 ((.seq (.reg [.op (.mv 15 (.t 13)),
     .op (.mv 5 (.t 15))])
   ((.seq (.drw [] [0, 1, 2, 3, 4, 5, 6, 7, 8] [.op (.mv 16 (.t 0)),
     .op (.mv 17 (.t 5)),
     .op (.ixs 18 (.t 16) (.t 17) 1),
     .op (.ld 19 (.t 18) 1 false),
     .op (.mv 20 (.t 1)),
     .op (.mv 21 (.t 5)),
     .op (.ixs 22 (.t 20) (.t 21) 1),
     .op (.ld 23 (.t 22) 1 false),
     .op (.bin 24 .neq (.t 19) (.t 23))])
   (.ite (.t 24)
     ((.seq (.reg [.op (.mv 4 (.k (.b false)))])
     (.seq (.keep [4]) .ret)))
     (.skip)))))))
  (.reg [.op (.bin 25 .add (.t 13) (.k (.i .i64 1))),
    .op (.mv 13 (.t 25))]))))))

/-- slices.Equal[[]int,int] -/
def F_slices_Equal_int_int : F := .mk
  ((.seq (.reg [.op (.mv 4 (.k (.b false)))])
  ((.seq ((.seq (.reg [.op (.mv 6 (.t 0)),
    .op (.len 7 (.t 6) .sl),
    .op (.mv 8 (.t 1)),
    .op (.len 9 (.t 8) .sl),
    .op (.bin 10 .neq (.t 7) (.t 9))])
  (.ite (.t 10)
    ((.seq (.reg [.op (.mv 4 (.k (.b false)))])
    (.ret)))
    (.skip))))
  ((.seq ((.seq (.reg [.op (.mv 11 (.t 0)),
    .op (.len 12 (.t 11) .sl),
    .op (.mv 13 (.k (.i .i64 0)))])
  (.blk 0 (.loop [0, 1, 12, 13] F_slices_Equal_int_int_L0))))
  ((.seq (.reg [.op (.mv 4 (.k (.b true)))])
  (.ret)))))))))
  [.t 4] false none

def F_slices_Concat_int_int_L0 : C :=
  (.seq (.reg [.op (.bin 12 .lss (.t 11) (.t 10))])
  ((.seq (.ite (.t 12)
    (.skip)
    (.seq (.keep [0, 3]) (.exit 0)))
  ((.seq (.blk 1 ((.seq (.reg [.op (.ixs 13 (.t 9) (.t 11) 1),
     .op (.ld 14 (.t 13) 1 false),
     .op (.mv 5 (.t 14))])
   ((.seq (.reg [.op (.mv 15 (.t 3)),
     .op (.mv 16 (.t 5)),
     .op (.len 17 (.t 16) .sl),
     .op (.bin 18 .add (.t 15) (.t 17)),
     .op (.mv 3 (.t 18))])
   ((.seq (.reg [.op (.mv 19 (.t 3)),
     .op (.bin 20 .lss (.t 19) (.k (.i .i64 0)))])
   (.ite (.t 20)
     (.reg [.op (.bad (some 21)),
       .op (.bad none)])
     (.skip)))))))))
  (.reg [.op (.bin 22 .add (.t 11) (.k (.i .i64 1))),
    .op (.mv 11 (.t 22))]))))))

def F_slices_Concat_int_int_L1 : C :=
  (.seq (.reg [.op (.bin 28 .lss (.t 27) (.t 26))])
  ((.seq (.ite (.t 28)
    (.skip)
    (.seq (.keep [6]) (.exit 2)))
  ((.seq (.blk 3 ((.seq (.reg [.op (.ixs 29 (.t 25) (.t 27) 1),
     .op (.ld 30 (.t 29) 1 false),
     .op (.mv 8 (.t 30))])
   (.reg [.op (.mv 31 (.t 6)),
     .op (.mv 32 (.t 8)),
     .op (.app 33 (.t 31) (.t 32) 1),
     .op (.mv 6 (.t 33))]))))
  (.reg [.op (.bin 34 .add (.t 27) (.k (.i .i64 1))),
    .op (.mv 27 (.t 34))]))))))

/-- slices.Concat[[]int,int] -/
def F_slices_Concat_int_int : F := .mk
  ((.seq (.reg [.op (.mv 2 (.k (.sl 1 true [])))])
  ((.seq (.reg [.op (.mv 3 (.k (.i .i64 0)))])
  ((.seq ((.seq (.reg [.op (.mv 9 (.t 0)),
    .op (.len 10 (.t 9) .sl),
    .op (.mv 11 (.k (.i .i64 0)))])
  (.blk 0 (.loop [0, 3, 9, 10, 11] F_slices_Concat_int_int_L0))))
  ((.seq (.reg [.op (.mv 23 (.t 3)),
    .op (.call (some 24) slices_Grow_int_int [(.k (.sl 1 true [])), (.t 23)]),
    .op (.mv 6 (.t 24))])
  ((.seq ((.seq (.reg [.op (.mv 25 (.t 0)),
    .op (.len 26 (.t 25) .sl),
    .op (.mv 27 (.k (.i .i64 0)))])
  (.blk 2 (.loop [6, 25, 26, 27] F_slices_Concat_int_int_L1))))
  ((.seq (.reg [.op (.mv 35 (.t 6)),
    .op (.mv 2 (.t 35))])
  (.ret)))))))))))))
  [.t 2] false none

/-- nursery/topic.number -/
def F_topic_number : F := .mk
  ((.seq (.reg [.op (.mv 2 (.k (.b false)))])
  ((.seq (.reg [.op (.mv 3 (.t 0)),
    .op (.bin 4 .geq (.t 3) (.k (.i .i64 (-1099511627776)))),
    .op (.mv 5 (.t 4)),
    .sc false 8 5 [.op (.mv 6 (.t 0)), .op (.bin 7 .leq (.t 6) (.k (.i .i64 1099511627776)))] (.t 7),
    .op (.mv 2 (.t 8))])
  (.ret)))))
  [.t 2] false none

/-- slices.Clone[[]nursery/api.Cursor,nursery/api.Cursor] -/
def F_slices_Clone_api_Cursor_api_Cursor : F := .mk
  ((.seq (.reg [.op (.mv 2 (.k (.sl 2 true [])))])
  ((.seq ((.seq (.reg [.op (.mv 3 (.t 0)),
    .op (.isnil 4 false (.t 3) .sl)])
  (.ite (.t 4)
    ((.seq (.reg [.op (.mv 2 (.k (.sl 2 true [])))])
    (.ret)))
    (.skip))))
  ((.seq (.reg [.op (.buildSl 5 2 0 [(.i .i64 0), (.sl 1 true [])] [] false),
    .op (.mv 6 (.t 0)),
    .op (.app 7 (.t 5) (.t 6) 2),
    .op (.mv 2 (.t 7))])
  (.ret)))))))
  [.t 2] true none

/-- slices.Clone[[]nursery/api.Waiter,nursery/api.Waiter] -/
def F_slices_Clone_api_Waiter_api_Waiter : F := .mk
  ((.seq (.reg [.op (.mv 2 (.k (.sl 5 true [])))])
  ((.seq ((.seq (.reg [.op (.mv 3 (.t 0)),
    .op (.isnil 4 false (.t 3) .sl)])
  (.ite (.t 4)
    ((.seq (.reg [.op (.mv 2 (.k (.sl 5 true [])))])
    (.ret)))
    (.skip))))
  ((.seq (.reg [.op (.buildSl 5 5 0 [(.i .i64 0), (.i .i64 0), (.i .i64 0), (.i .i64 0), (.i .i64 0)] [] false),
    .op (.mv 6 (.t 0)),
    .op (.app 7 (.t 5) (.t 6) 5),
    .op (.mv 2 (.t 7))])
  (.ret)))))))
  [.t 2] true none

/-- slices.Insert[[]nursery/api.Cursor,nursery/api.Cursor] -/
def R_slices_Insert_api_Cursor_api_Cursor : F := .mk
  ((.seq (.reg [.op (.mv 6 (.k (.sl 2 true [])))])
  ((.seq (.reg [.op (.mv 10 (.t 0)),
    .op (.mv 11 (.t 1)),
    .op (.sl 12 (.t 10) (some (.t 11)) none 2)])
  ((.seq (.reg [.op (.mv 13 (.t 2)),
    .op (.len 14 (.t 13) .sl),
    .op (.mv 7 (.t 14))])
  ((.seq ((.seq (.reg [.op (.mv 15 (.t 7)),
    .op (.bin 16 .eql (.t 15) (.k (.i .i64 0)))])
  (.ite (.t 16)
    ((.seq (.reg [.op (.mv 17 (.t 0)),
      .op (.mv 6 (.t 17))])
    (.ret)))
    (.skip))))
  ((.seq (.reg [.op (.mv 18 (.t 0)),
    .op (.len 19 (.t 18) .sl),
    .op (.mv 8 (.t 19))])
  ((.seq ((.seq (.reg [.op (.mv 20 (.t 1)),
    .op (.mv 21 (.t 8)),
    .op (.bin 22 .eql (.t 20) (.t 21))])
  (.ite (.t 22)
    ((.seq (.reg [.op (.mv 23 (.t 0)),
      .op (.mv 24 (.t 2)),
      .op (.app 25 (.t 23) (.t 24) 2),
      .op (.mv 6 (.t 25))])
    (.ret)))
    (.skip))))
  ((.seq ((.seq (.reg [.op (.mv 26 (.t 8)),
    .op (.mv 27 (.t 7)),
    .op (.bin 28 .add (.t 26) (.t 27)),
    .op (.mv 29 (.t 0)),
    .op (.cap 30 (.t 29)),
    .op (.bin 31 .gtr (.t 28) (.t 30))])
  (.ite (.t 31)
    ((.seq (.reg [.op (.mv 32 (.t 0)),
      .op (.mv 33 (.t 1)),
      .op (.sl 34 (.t 32) none (some (.t 33)) 2),
      .op (.mv 35 (.t 8)),
      .op (.mv 36 (.t 7)),
      .op (.bin 37 .add (.t 35) (.t 36)),
      .op (.mv 38 (.t 1)),
      .op (.bin 39 .sub (.t 37) (.t 38)),
      .op (.appz 40 (.t 34) (.t 39) 2 [(.i .i64 0), (.sl 1 true [])]),
      .op (.mv 9 (.t 40))])
    ((.seq (.reg [.op (.mv 41 (.t 9)),
      .op (.mv 42 (.t 1)),
      .op (.sl 43 (.t 41) (some (.t 42)) none 2),
      .op (.mv 44 (.t 2)),
      .op (.copy (some 45) (.t 43) (.t 44) 2)])
    ((.seq (.drw [] [0, 1, 2, 3, 4, 5, 6, 7, 8] [.op (.mv 46 (.t 9)),
      .op (.mv 47 (.t 1)),
      .op (.mv 48 (.t 7)),
      .op (.bin 49 .add (.t 47) (.t 48)),
      .op (.sl 50 (.t 46) (some (.t 49)) none 2),
      .op (.mv 51 (.t 0)),
      .op (.mv 52 (.t 1)),
      .op (.sl 53 (.t 51) (some (.t 52)) none 2),
      .op (.copy (some 54) (.t 50) (.t 53) 2)])
    ((.seq (.reg [.op (.mv 55 (.t 9)),
      .op (.mv 6 (.t 55))])
    (.ret)))))))))
    (.skip))))
  ((.seq (.reg [.op (.mv 56 (.t 0)),
    .op (.mv 57 (.t 8)),
    .op (.mv 58 (.t 7)),
    .op (.bin 59 .add (.t 57) (.t 58)),
    .op (.sl 60 (.t 56) none (some (.t 59)) 2),
    .op (.mv 0 (.t 60))])
  ((.seq ((.seq (.reg [.op (.mv 61 (.t 2)),
    .op (.mv 62 (.t 0)),
    .op (.mv 63 (.t 1)),
    .op (.mv 64 (.t 7)),
    .op (.bin 65 .add (.t 63) (.t 64)),
    .op (.sl 66 (.t 62) (some (.t 65)) none 2),
    .op (.ovl 67 slices_overlaps_api_Cursor (.t 61) (.t 66) 2),
    .op (.un 68 .not (.t 67))])
  (.ite (.t 68)
    ((.seq (.drw [] [0, 1, 2, 3, 4, 5, 6, 7, 8] [.op (.mv 69 (.t 0)),
      .op (.mv 70 (.t 1)),
      .op (.mv 71 (.t 7)),
      .op (.bin 72 .add (.t 70) (.t 71)),
      .op (.sl 73 (.t 69) (some (.t 72)) none 2),
      .op (.mv 74 (.t 0)),
      .op (.mv 75 (.t 1)),
      .op (.sl 76 (.t 74) (some (.t 75)) none 2),
      .op (.copy (some 77) (.t 73) (.t 76) 2)])
    ((.seq (.reg [.op (.mv 78 (.t 0)),
      .op (.mv 79 (.t 1)),
      .op (.sl 80 (.t 78) (some (.t 79)) none 2),
      .op (.mv 81 (.t 2)),
      .op (.copy (some 82) (.t 80) (.t 81) 2)])
    ((.seq (.reg [.op (.mv 83 (.t 0)),
      .op (.mv 6 (.t 83))])
    (.ret)))))))
    (.skip))))
  ((.seq (.reg [.op (.mv 84 (.t 0)),
    .op (.mv 85 (.t 8)),
    .op (.sl 86 (.t 84) (some (.t 85)) none 2),
    .op (.mv 87 (.t 2)),
    .op (.copy (some 88) (.t 86) (.t 87) 2)])
  ((.seq (.reg [.op (.mv 89 (.t 0)),
    .op (.mv 90 (.t 1)),
    .op (.sl 91 (.t 89) (some (.t 90)) none 2),
    .op (.mv 92 (.t 7)),
    .op (.call (some 93) slices_rotateRight_api_Cursor [(.t 91), (.t 92)])])
  ((.seq (.reg [.op (.mv 94 (.t 0)),
    .op (.mv 6 (.t 94))])
  (.ret)))))))))))))))))))))))))
  [.t 6] false none

def F_slices_IndexFunc_api_Cursor_api_Cursor_L0 : C :=
  (.seq (.reg [.op (.bin 9 .lss (.t 8) (.t 7))])
  ((.seq (.ite (.t 9)
    (.skip)
    (.seq (.keep []) (.exit 0)))
  ((.seq (.blk 1 ((.seq (.reg [.op (.mv 10 (.t 8)),
     .op (.mv 5 (.t 10))])
   ((.seq (.reg [.op (.mv 11 (.t 1)),
     .op (.mv 12 (.t 0)),
     .op (.mv 13 (.t 5)),
     .op (.ixs 14 (.t 12) (.t 13) 2),
     .op (.ld 15 (.t 14) 2 true),
     .op (.callv (some 16) (.t 11) [(.t 15)])])
   (.ite (.t 16)
     ((.seq (.reg [.op (.mv 17 (.t 5)),
       .op (.mv 4 (.t 17))])
     (.seq (.keep [4]) .ret)))
     (.skip)))))))
  (.reg [.op (.bin 18 .add (.t 8) (.k (.i .i64 1))),
    .op (.mv 8 (.t 18))]))))))

/-- slices.IndexFunc[[]nursery/api.Cursor,nursery/api.Cursor] -/
def F_slices_IndexFunc_api_Cursor_api_Cursor : F := .mk
  ((.seq (.reg [.op (.mv 4 (.k (.i .i64 0)))])
  ((.seq ((.seq (.reg [.op (.mv 6 (.t 0)),
    .op (.len 7 (.t 6) .sl),
    .op (.mv 8 (.k (.i .i64 0)))])
  (.blk 0 (.loop [0, 1, 7, 8] F_slices_IndexFunc_api_Cursor_api_Cursor_L0))))
  ((.seq (.reg [.op (.mv 4 (.k (.i .i64 (-1))))])
  (.ret)))))))
  [.t 4] false none

/-- nursery/topic.find$1 -/
def F_topic_findC1 : F := .mk
  ((.seq (.reg [.op (.box 2 (.t 0) 2 true),
    .op (.mv 3 (.k (.b false)))])
  ((.seq (.reg [.op (.fa 4 (.t 2) 0 1),
    .op (.ld 5 (.t 4) 1 false),
    .op (.ld 6 (.t 1) 1 false),
    .op (.bin 7 .eql (.t 5) (.t 6)),
    .op (.mv 3 (.t 7))])
  (.ret)))))
  [.t 3] false none

/-- (*nursery/topic.board).publishers -/
def F_topic_board_publishers : F := .mk
  ((.seq (.reg [.op (.box 1 (.t 0) 1 true),
    .op (.mv 2 (.k .nilfn))])
  ((.seq (.reg [.op (.mkf 3 topic_board_publishersC1 [] [(.t 1)]),
    .op (.mv 2 (.t 3))])
  (.ret)))))
  [.t 2] true none

/-- (*nursery/topic.board).wake -/
def F_topic_board_wake : F := .mk
  ((.seq (.reg [.op (.box 4 (.t 1) 5 true)])
  (.drw [] [0, 1, 2, 3, 4, 5, 6, 7, 8, 9, 10, 11, 12, 13, 14, 15] [.op (.mv 6 (.t 0)),
    .op (.mv 7 (.t 0)),
    .op (.nck 8 (.t 7)),
    .op (.fa 9 (.t 8) 10 1),
    .op (.ld 10 (.t 9) 1 false),
    .op (.fad 11 (.t 4) 0 1),
    .op (.ldd 12 (.t 11) 1 false),
    .op (.fad 13 (.t 4) 1 1),
    .op (.ldd 14 (.t 13) 1 false),
    .op (.mv 15 (.t 2)),
    .op (.build 16 [(.i .i64 0), (.i .i64 0), (.i .i64 0), (.b false), (.i .i64 0)] [(0, 1, (.t 12)), (1, 1, (.t 14)), (2, 1, (.t 15)), (3, 1, (.k (.b true))), (4, 1, (.k (.i .i64 (-1))))]),
    .op (.buildSl 17 5 1 [(.i .i64 0), (.i .i64 0), (.i .i64 0), (.b false), (.i .i64 0)] [(0, (.t 16))] true),
    .op (.app 18 (.t 10) (.t 17) 5),
    .op (.nck 19 (.t 6)),
    .op (.fa 20 (.t 19) 10 1),
    .op (.st (.t 20) (.t 18) 1 false)])))
  [] true none

/-- slices.ContainsFunc[[]nursery/api.Cursor,nursery/api.Cursor] -/
def F_slices_ContainsFunc_api_Cursor_api_Cursor : F := .mk
  ((.seq (.reg [.op (.mv 4 (.k (.b false)))])
  ((.seq (.reg [.op (.mv 5 (.t 0)),
    .op (.mv 6 (.t 1)),
    .op (.call (some 7) slices_IndexFunc_api_Cursor_api_Cursor [(.t 5), (.t 6)]),
    .op (.bin 8 .geq (.t 7) (.k (.i .i64 0))),
    .op (.mv 4 (.t 8))])
  (.ret)))))
  [.t 4] false none

/-- nursery/topic.full$1 -/
def F_topic_fullC1 : F := .mk
  ((.seq (.reg [.op (.box 3 (.t 0) 2 true),
    .op (.mv 4 (.k (.b false)))])
  ((.seq (.reg [.op (.fa 5 (.t 3) 1 1),
    .op (.ld 6 (.t 5) 1 false),
    .op (.len 7 (.t 6) .sl),
    .op (.ld 8 (.t 1) 1 false),
    .op (.bin 9 .eql (.t 7) (.t 8)),
    .op (.mv 10 (.t 9)),
    .sc false 16 10 [.op (.ld 11 (.t 2) 9 true), .op (.fa 12 (.t 3) 0 1), .op (.ld 13 (.t 12) 1 false), .op (.call (some 14) topic_waiting [(.t 11), (.t 13), (.k (.i .i64 70))]), .op (.un 15 .not (.t 14))] (.t 15),
    .op (.mv 4 (.t 16))])
  (.ret)))))
  [.t 4] false none

/-- nursery/topic.waiting -/
def F_topic_waiting : F := .mk
  ((.seq (.reg [.op (.box 3 (.t 0) 9 true),
    .op (.box 4 (.t 1) 1 true),
    .op (.box 5 (.t 2) 1 true),
    .op (.mv 6 (.k (.b false)))])
  ((.seq (.reg [.op (.fa 7 (.t 3) 4 1),
    .op (.ld 8 (.t 7) 1 false),
    .op (.mkf 9 topic_waitingC1 [] [(.t 4), (.t 5)]),
    .op (.call (some 10) slices_ContainsFunc_api_Waiter_api_Waiter [(.t 8), (.t 9)]),
    .op (.mv 6 (.t 10))])
  (.ret)))))
  [.t 6] false none

def F_slices_IndexFunc_api_Wake_api_Wake_L0 : C :=
  (.seq (.reg [.op (.bin 9 .lss (.t 8) (.t 7))])
  ((.seq (.ite (.t 9)
    (.skip)
    (.seq (.keep []) (.exit 0)))
  ((.seq (.blk 1 ((.seq (.reg [.op (.mv 10 (.t 8)),
     .op (.mv 5 (.t 10))])
   ((.seq (.reg [.op (.mv 11 (.t 1)),
     .op (.mv 12 (.t 0)),
     .op (.mv 13 (.t 5)),
     .op (.ixs 14 (.t 12) (.t 13) 5),
     .op (.ld 15 (.t 14) 5 true),
     .op (.callv (some 16) (.t 11) [(.t 15)])])
   (.ite (.t 16)
     ((.seq (.reg [.op (.mv 17 (.t 5)),
       .op (.mv 4 (.t 17))])
     (.seq (.keep [4]) .ret)))
     (.skip)))))))
  (.reg [.op (.bin 18 .add (.t 8) (.k (.i .i64 1))),
    .op (.mv 8 (.t 18))]))))))

/-- slices.IndexFunc[[]nursery/api.Wake,nursery/api.Wake] -/
def F_slices_IndexFunc_api_Wake_api_Wake : F := .mk
  ((.seq (.reg [.op (.mv 4 (.k (.i .i64 0)))])
  ((.seq ((.seq (.reg [.op (.mv 6 (.t 0)),
    .op (.len 7 (.t 6) .sl),
    .op (.mv 8 (.k (.i .i64 0)))])
  (.blk 0 (.loop [0, 1, 7, 8] F_slices_IndexFunc_api_Wake_api_Wake_L0))))
  ((.seq (.reg [.op (.mv 4 (.k (.i .i64 (-1))))])
  (.ret)))))))
  [.t 4] false none

/-- (*nursery/topic.board).next$1 -/
def F_topic_board_nextC1 : F := .mk
  ((.seq (.reg [.op (.box 2 (.t 0) 5 true),
    .op (.mv 3 (.k (.b false)))])
  ((.seq (.reg [.op (.fa 4 (.t 2) 0 1),
    .op (.ld 5 (.t 4) 1 false),
    .op (.fa 6 (.t 1) 0 1),
    .op (.ld 7 (.t 6) 1 false),
    .op (.bin 8 .eql (.t 5) (.t 7)),
    .op (.mv 3 (.t 8))])
  (.ret)))))
  [.t 3] false none

/-- slices.Delete[[]nursery/api.Wake,nursery/api.Wake] -/
def F_slices_Delete_api_Wake_api_Wake : F := .mk
  ((.seq (.reg [.op (.mv 6 (.k (.sl 5 true [])))])
  ((.seq (.reg [.op (.mv 8 (.t 0)),
    .op (.mv 9 (.t 1)),
    .op (.mv 10 (.t 2)),
    .op (.mv 11 (.t 0)),
    .op (.len 12 (.t 11) .sl),
    .op (.sl3 13 (.t 8) (.t 9) (.t 10) (.t 12) 5)])
  ((.seq ((.seq (.reg [.op (.mv 14 (.t 1)),
    .op (.mv 15 (.t 2)),
    .op (.bin 16 .eql (.t 14) (.t 15))])
  (.ite (.t 16)
    ((.seq (.reg [.op (.mv 17 (.t 0)),
      .op (.mv 6 (.t 17))])
    (.ret)))
    (.skip))))
  ((.seq (.reg [.op (.mv 18 (.t 0)),
    .op (.len 19 (.t 18) .sl),
    .op (.mv 7 (.t 19))])
  ((.seq (.drw [] [0, 1, 2, 3, 4, 5, 6, 7] [.op (.mv 20 (.t 0)),
    .op (.mv 21 (.t 1)),
    .op (.sl 22 (.t 20) none (some (.t 21)) 5),
    .op (.mv 23 (.t 0)),
    .op (.mv 24 (.t 2)),
    .op (.sl 25 (.t 23) (some (.t 24)) none 5),
    .op (.app 26 (.t 22) (.t 25) 5),
    .op (.mv 0 (.t 26))])
  ((.seq (.reg [.op (.mv 27 (.t 0)),
    .op (.mv 28 (.t 0)),
    .op (.len 29 (.t 28) .sl),
    .op (.mv 30 (.t 7)),
    .op (.sl 31 (.t 27) (some (.t 29)) (some (.t 30)) 5),
    .op (.clr none (.t 31) 5 [(.i .i64 0), (.i .i64 0), (.i .i64 0), (.b false), (.i .i64 0)])])
  ((.seq (.reg [.op (.mv 32 (.t 0)),
    .op (.mv 6 (.t 32))])
  (.ret)))))))))))))))
  [.t 6] true none

/-- nursery/nurseryref19.Caller -/
def F_nurseryref19_Caller : F := .mk
  ((.seq (.reg [.op (.box 1 (.t 0) 5 true),
    .op (.mv 2 (.k (.b false)))])
  ((.seq (.reg [.op (.fa 3 (.t 1) 0 1),
    .op (.ld 4 (.t 3) 1 false),
    .op (.call (some 5) nurseryref19_within [(.t 4), (.k (.i .i64 0)), (.k (.i .i64 15))]),
    .op (.mv 6 (.t 5)),
    .sc false 10 6 [.op (.fa 7 (.t 1) 3 1), .op (.ld 8 (.t 7) 1 false), .op (.call (some 9) nurseryref19_within [(.t 8), (.k (.i .i64 0)), (.k (.i .i64 9))])] (.t 9),
    .op (.mv 11 (.t 10)),
    .sc false 15 11 [.op (.fa 12 (.t 1) 4 1), .op (.ld 13 (.t 12) 1 false), .op (.call (some 14) nurseryref19_within [(.t 13), (.k (.i .i64 0)), (.k (.i .i64 1099511627776))])] (.t 14),
    .op (.mv 2 (.t 15))])
  (.ret)))))
  [.t 2] false none

def F_nurseryref07_Check_L0 : C :=
  (.seq ((.seq (.reg [.op (.mv 15 (.t 5)),
    .op (.mv 16 (.t 1)),
    .op (.len 17 (.t 16) .sl),
    .op (.bin 18 .lss (.t 15) (.t 17))])
  (.ite (.t 18)
    (.skip)
    (.seq (.keep []) (.exit 0)))))
  ((.seq (.blk 1 ((.seq ((.seq (.reg [.op (.mv 21 (.t 1)),
     .op (.mv 22 (.t 5)),
     .op (.ixs 23 (.t 21) (.t 22) 5),
     .op (.ld 24 (.t 23) 5 true),
     .op (.call (some 25) nurseryref07_Valid [(.t 24)]),
     .op (.un 26 .not (.t 25))])
   (.ite (.t 26)
     ((.seq (.reg [.op (.mv 4 (.k (.i .i64 2)))])
     (.seq (.keep [4]) .ret)))
     (.skip))))
   ((.seq (.drw [] [0, 1, 2, 3, 4, 5, 6, 7, 8, 9, 10, 11, 12, 13, 14, 15, 16, 17, 18, 19] [.op (.mv 27 (.t 0)),
     .op (.bin 28 .eql (.t 27) (.k (.i .i64 2))),
     .op (.mv 29 (.t 28)),
     .sc false 32 29 [.op (.mv 30 (.t 5)), .op (.bin 31 .gtr (.t 30) (.k (.i .i64 0)))] (.t 31),
     .op (.mv 33 (.t 32)),
     .sc false 46 33 [.op (.mv 34 (.t 1)), .op (.mv 35 (.t 5)), .op (.ixs 36 (.t 34) (.t 35) 5), .op (.fa 37 (.t 36) 3 1), .op (.ld 38 (.t 37) 1 false), .op (.mv 39 (.t 1)), .op (.mv 40 (.t 5)), .op (.bin 41 .sub (.t 40) (.k (.i .i64 1))), .op (.ixs 42 (.t 39) (.t 41) 5), .op (.fa 43 (.t 42) 3 1), .op (.ld 44 (.t 43) 1 false), .op (.bin 45 .gtr (.t 38) (.t 44))] (.t 45)])
   (.ite (.t 46)
     ((.seq (.reg [.op (.mv 4 (.k (.i .i64 9)))])
     (.seq (.keep [4]) .ret)))
     (.skip)))))))
  (.reg [.op (.mv 19 (.t 5)),
    .op (.bin 20 .add (.t 19) (.k (.i .i64 1))),
    .op (.mv 5 (.t 20))]))))

/-- nursery/nurseryref07.Check -/
def F_nurseryref07_Check : F := .mk
  ((.seq (.reg [.op (.mv 4 (.k (.i .i64 0)))])
  ((.seq ((.seq (.reg [.op (.mv 6 (.t 0)),
    .op (.bin 7 .neq (.t 6) (.k (.i .i64 1))),
    .op (.mv 8 (.t 7)),
    .sc false 11 8 [.op (.mv 9 (.t 0)), .op (.bin 10 .neq (.t 9) (.k (.i .i64 2)))] (.t 10)])
  (.ite (.t 11)
    ((.seq (.reg [.op (.mv 4 (.k (.i .i64 8)))])
    (.ret)))
    (.skip))))
  ((.seq ((.seq (.reg [.op (.mv 12 (.t 1)),
    .op (.len 13 (.t 12) .sl),
    .op (.bin 14 .gtr (.t 13) (.k (.i .i64 96)))])
  (.ite (.t 14)
    ((.seq (.reg [.op (.mv 4 (.k (.i .i64 4)))])
    (.ret)))
    (.skip))))
  ((.seq ((.seq (.reg [.op (.mv 5 (.k (.i .i64 0)))])
  (.blk 0 (.loop [0, 1, 5] F_nurseryref07_Check_L0))))
  ((.seq (.reg [.op (.mv 4 (.k (.i .i64 0)))])
  (.ret)))))))))))
  [.t 4] false none

/-- nursery/nurseryref07.Valid -/
def F_nurseryref07_Valid : F := .mk
  ((.seq (.reg [.op (.box 1 (.t 0) 5 true),
    .op (.mv 2 (.k (.b false)))])
  ((.seq (.reg [.op (.fa 3 (.t 1) 0 1),
    .op (.ld 4 (.t 3) 1 false),
    .op (.call (some 5) nurseryref07_within [(.t 4), (.k (.i .i64 0)), (.k (.i .i64 15))]),
    .op (.mv 6 (.t 5)),
    .sc false 10 6 [.op (.fa 7 (.t 1) 1 1), .op (.ld 8 (.t 7) 1 false), .op (.call (some 9) nurseryref07_within [(.t 8), (.k (.i .i64 1)), (.k (.i .i64 99))])] (.t 9),
    .op (.mv 11 (.t 10)),
    .sc false 15 11 [.op (.fa 12 (.t 1) 2 1), .op (.ld 13 (.t 12) 1 false), .op (.call (some 14) nurseryref07_within [(.t 13), (.k (.i .i64 (-1099511627776))), (.k (.i .i64 1099511627776))])] (.t 14),
    .op (.mv 16 (.t 15)),
    .sc false 20 16 [.op (.fa 17 (.t 1) 3 1), .op (.ld 18 (.t 17) 1 false), .op (.call (some 19) nurseryref07_within [(.t 18), (.k (.i .i64 0)), (.k (.i .i64 9))])] (.t 19),
    .op (.mv 21 (.t 20)),
    .sc false 25 21 [.op (.fa 22 (.t 1) 4 1), .op (.ld 23 (.t 22) 1 false), .op (.call (some 24) nurseryref07_within [(.t 23), (.k (.i .i64 (-1))), (.k (.i .i64 5))])] (.t 24),
    .op (.mv 2 (.t 25))])
  (.ret)))))
  [.t 2] false none

def F_waitlist_Check_L0 : C :=
  (.seq (.reg [.op (.bin 19 .lss (.t 18) (.t 17))])
  ((.seq (.ite (.t 19)
    (.skip)
    (.seq (.keep []) (.exit 0)))
  ((.seq (.blk 1 ((.seq (.reg [.op (.mv 20 (.t 18)),
     .op (.ixs 21 (.t 16) (.t 18) 5),
     .op (.ld 22 (.t 21) 5 true),
     .op (.new 6 [(.i .i64 0), (.i .i64 0), (.i .i64 0), (.i .i64 0), (.i .i64 0)]),
     .op (.mv 5 (.t 20)),
     .op (.st (.t 6) (.t 22) 5 true)])
   ((.seq ((.seq (.reg [.op (.ld 23 (.t 6) 5 true),
     .op (.call (some 24) waitlist_valid [(.t 23)]),
     .op (.un 25 .not (.t 24))])
   (.ite (.t 25)
     ((.seq (.reg [.op (.mv 4 (.k (.i .i64 2)))])
     (.seq (.keep [4]) .ret)))
     (.skip))))
   ((.seq (.drw [] [0, 1, 2, 3, 4, 5, 6, 7, 8, 9, 10, 11, 12, 13, 14, 15, 16] [.op (.mv 26 (.t 0)),
     .op (.bin 27 .eql (.t 26) (.k (.i .i64 2))),
     .op (.mv 28 (.t 27)),
     .sc false 31 28 [.op (.mv 29 (.t 5)), .op (.bin 30 .gtr (.t 29) (.k (.i .i64 0)))] (.t 30),
     .op (.mv 32 (.t 31)),
     .sc false 42 32 [.op (.fad 33 (.t 6) 3 1), .op (.ldd 34 (.t 33) 1 false), .op (.mv 35 (.t 1)), .op (.mv 36 (.t 5)), .op (.bin 37 .sub (.t 36) (.k (.i .i64 1))), .op (.ixs 38 (.t 35) (.t 37) 5), .op (.fa 39 (.t 38) 3 1), .op (.ld 40 (.t 39) 1 false), .op (.bin 41 .gtr (.t 34) (.t 40))] (.t 41)])
   (.ite (.t 42)
     ((.seq (.reg [.op (.mv 4 (.k (.i .i64 9)))])
     (.seq (.keep [4]) .ret)))
     (.skip)))))))))
  (.reg [.op (.bin 43 .add (.t 18) (.k (.i .i64 1))),
    .op (.mv 18 (.t 43))]))))))

/-- nursery/waitlist.Check -/
def F_waitlist_Check : F := .mk
  ((.seq (.reg [.op (.mv 4 (.k (.i .i64 0)))])
  ((.seq ((.seq (.reg [.op (.mv 7 (.t 0)),
    .op (.bin 8 .neq (.t 7) (.k (.i .i64 1))),
    .op (.mv 9 (.t 8)),
    .sc false 12 9 [.op (.mv 10 (.t 0)), .op (.bin 11 .neq (.t 10) (.k (.i .i64 2)))] (.t 11)])
  (.ite (.t 12)
    ((.seq (.reg [.op (.mv 4 (.k (.i .i64 8)))])
    (.ret)))
    (.skip))))
  ((.seq ((.seq (.reg [.op (.mv 13 (.t 1)),
    .op (.len 14 (.t 13) .sl),
    .op (.bin 15 .gtr (.t 14) (.k (.i .i64 96)))])
  (.ite (.t 15)
    ((.seq (.reg [.op (.mv 4 (.k (.i .i64 4)))])
    (.ret)))
    (.skip))))
  ((.seq ((.seq (.reg [.op (.mv 16 (.t 1)),
    .op (.len 17 (.t 16) .sl),
    .op (.mv 18 (.k (.i .i64 0)))])
  (.blk 0 (.loop [0, 1, 16, 17, 18] F_waitlist_Check_L0))))
  ((.seq (.reg [.op (.mv 4 (.k (.i .i64 0)))])
  (.ret)))))))))))
  [.t 4] false none

def F_waitlist_filter_L0 : C :=
  (.seq (.reg [.op (.bin 11 .lss (.t 10) (.t 9))])
  ((.seq (.ite (.t 11)
    (.skip)
    (.seq (.keep [5]) (.exit 0)))
  ((.seq (.blk 1 ((.seq (.reg [.op (.ixs 12 (.t 8) (.t 10) 5),
     .op (.ld 13 (.t 12) 5 true),
     .op (.new 7 [(.i .i64 0), (.i .i64 0), (.i .i64 0), (.i .i64 0), (.i .i64 0)]),
     .op (.st (.t 7) (.t 13) 5 true)])
   ((.seq (.reg [.op (.mv 14 (.t 1)),
     .op (.ld 15 (.t 7) 5 true),
     .op (.callv (some 16) (.t 14) [(.t 15)])])
   (.ite (.t 16)
     (.reg [.op (.mv 17 (.t 5)),
       .op (.ld 18 (.t 7) 5 true),
       .op (.buildSl 19 5 1 [(.i .i64 0), (.i .i64 0), (.i .i64 0), (.i .i64 0), (.i .i64 0)] [(0, (.t 18))] true),
       .op (.app 20 (.t 17) (.t 19) 5),
       .op (.mv 5 (.t 20))])
     (.skip)))))))
  (.reg [.op (.bin 21 .add (.t 10) (.k (.i .i64 1))),
    .op (.mv 10 (.t 21))]))))))

/-- nursery/waitlist.filter -/
def F_waitlist_filter : F := .mk
  ((.seq (.reg [.op (.mv 4 (.k (.sl 5 true [])))])
  ((.seq (.reg [.op (.mv 5 (.k (.sl 5 true [])))])
  ((.seq ((.seq (.reg [.op (.mv 8 (.t 0)),
    .op (.len 9 (.t 8) .sl),
    .op (.mv 10 (.k (.i .i64 0)))])
  (.blk 0 (.loop [1, 5, 8, 9, 10] F_waitlist_filter_L0))))
  ((.seq (.reg [.op (.mv 22 (.t 5)),
    .op (.mv 4 (.t 22))])
  (.ret)))))))))
  [.t 4] false none

/-- nursery/waitlist.Remove$1 -/
def F_waitlist_RemoveC1 : F := .mk
  ((.seq (.reg [.op (.box 2 (.t 0) 5 true),
    .op (.mv 3 (.k (.b false)))])
  ((.seq (.reg [.op (.fa 4 (.t 2) 0 1),
    .op (.ld 5 (.t 4) 1 false),
    .op (.ld 6 (.t 1) 1 false),
    .op (.bin 7 .neq (.t 5) (.t 6)),
    .op (.mv 3 (.t 7))])
  (.ret)))))
  [.t 3] false none

/-- slices.Grow[[]int,int] -/
def F_slices_Grow_int_int : F := .mk
  ((.seq (.reg [.op (.mv 4 (.k (.sl 1 true [])))])
  ((.seq ((.seq (.reg [.op (.mv 5 (.t 1)),
    .op (.bin 6 .lss (.t 5) (.k (.i .i64 0)))])
  (.ite (.t 6)
    (.reg [.op (.bad (some 7)),
      .op (.bad none)])
    (.skip))))
  ((.seq ((.seq (.reg [.op (.mv 8 (.t 1)),
    .op (.mv 9 (.t 0)),
    .op (.cap 10 (.t 9)),
    .op (.mv 11 (.t 0)),
    .op (.len 12 (.t 11) .sl),
    .op (.bin 13 .sub (.t 10) (.t 12)),
    .op (.bin 14 .sub (.t 8) (.t 13)),
    .op (.mv 1 (.t 14))])
  ((.seq (.reg [.op (.mv 15 (.t 1)),
    .op (.bin 16 .gtr (.t 15) (.k (.i .i64 0)))])
  (.ite (.t 16)
    (.reg [.op (.mv 17 (.t 0)),
      .op (.mv 18 (.t 0)),
      .op (.cap 19 (.t 18)),
      .op (.sl 20 (.t 17) none (some (.t 19)) 1),
      .op (.mv 21 (.t 1)),
      .op (.appz 22 (.t 20) (.t 21) 1 [(.i .i64 0)]),
      .op (.mv 23 (.t 0)),
      .op (.len 24 (.t 23) .sl),
      .op (.sl 25 (.t 22) none (some (.t 24)) 1),
      .op (.mv 0 (.t 25))])
    (.skip))))))
  ((.seq (.reg [.op (.mv 26 (.t 0)),
    .op (.mv 4 (.t 26))])
  (.ret)))))))))
  [.t 4] false none

/-- slices.rotateRight[nursery/api.Cursor] -/
def F_slices_rotateRight_api_Cursor : F := .mk
  (.reg [.op (.mv 4 (.t 0)),
    .op (.mv 5 (.t 0)),
    .op (.len 6 (.t 5) .sl),
    .op (.mv 7 (.t 1)),
    .op (.bin 8 .sub (.t 6) (.t 7)),
    .op (.call (some 9) slices_rotateLeft_api_Cursor [(.t 4), (.t 8)])])
  [] false none

def F_topic_board_publishersC1_L0 : C :=
  .blk 1 ((.seq (.reg [.op (.ld 5 (.t 1) 1 false),
     .op (.nck 6 (.t 5)),
     .op (.fa 7 (.t 6) 1 9),
     .op (.fa 8 (.t 7) 4 1),
     .op (.ld 9 (.t 8) 1 false),
     .op (.call (some 10) slices_IndexFunc_api_Waiter_api_Waiter [(.t 9), (.k (.fn topic_board_publishersC1C1 [] []))]),
     .op (.mv 3 (.t 10))])
   ((.seq ((.seq (.drw [] [0, 1, 2, 3, 4, 5, 6, 7, 8, 9, 10, 11, 12] [.op (.mv 11 (.t 3)),
     .op (.bin 12 .lss (.t 11) (.k (.i .i64 0))),
     .op (.mv 13 (.t 12)),
     .sc true 23 13 [.op (.ld 14 (.t 1) 1 false), .op (.nck 15 (.t 14)), .op (.fa 16 (.t 15) 0 1), .op (.ld 17 (.t 16) 1 false), .op (.ld 18 (.t 1) 1 false), .op (.nck 19 (.t 18)), .op (.fa 20 (.t 19) 1 9), .op (.ld 21 (.t 20) 9 true), .op (.calls (some 22) topic_full [(.t 17), (.t 21)])] (.t 22)])
   (.ite (.t 23)
     (.seq (.keep []) .ret)
     (.skip))))
   ((.seq (.reg [.op (.ld 24 (.t 1) 1 false),
     .op (.nck 25 (.t 24)),
     .op (.fa 26 (.t 25) 1 9),
     .op (.fa 27 (.t 26) 4 1),
     .op (.ld 28 (.t 27) 1 false),
     .op (.mv 29 (.t 3)),
     .op (.ixs 30 (.t 28) (.t 29) 5),
     .op (.ld 31 (.t 30) 5 true),
     .op (.new 4 [(.i .i64 0), (.i .i64 0), (.i .i64 0), (.i .i64 0), (.i .i64 0)]),
     .op (.st (.t 4) (.t 31) 5 true)])
   ((.seq (.drw [] [0, 1, 2, 3, 4, 5, 7, 8, 9, 6, 10, 11, 12, 13, 14] [.op (.ld 32 (.t 1) 1 false),
     .op (.ld 33 (.t 1) 1 false),
     .op (.nck 34 (.t 33)),
     .op (.fa 35 (.t 34) 1 9),
     .op (.fa 36 (.t 35) 4 1),
     .op (.ld 37 (.t 36) 1 false),
     .op (.mv 39 (.t 3)),
     .op (.mv 40 (.t 3)),
     .op (.bin 41 .add (.t 40) (.k (.i .i64 1))),
     .op (.callk (some 38) slices_Clone_api_Waiter_api_Waiter [(.t 37)]),
     .re (.ld 32 (.t 1) 1 false),
     .op (.callz 42 slices_Delete_api_Waiter_api_Waiter [(.t 38), (.t 39), (.t 41)]),
     .re (.ld 32 (.t 1) 1 false),
     .op (.nck 43 (.t 32)),
     .op (.fa 44 (.t 43) 1 9),
     .op (.fa 45 (.t 44) 4 1),
     .op (.st (.t 45) (.t 42) 1 false)])
   ((.seq (.reg [.op (.mv 46 (.t 0)),
     .op (.ld 47 (.t 4) 5 true),
     .op (.cally (some 48) (.t 46) [(.t 47)]),
     .op (.un 49 .not (.t 48))])
   (.ite (.t 49)
     (.seq (.keep []) .ret)
     (.skip))))))))))))

/-- (*nursery/topic.board).publishers$1 -/
def F_topic_board_publishersC1 : F := .mk
  (.blk 0 (.loop [0, 1] F_topic_board_publishersC1_L0))
  [] false none

/-- (*nursery/topic.board).publishers$1$1 -/
def F_topic_board_publishersC1C1 : F := .mk
  ((.seq (.reg [.op (.box 1 (.t 0) 5 true),
    .op (.mv 2 (.k (.b false)))])
  ((.seq (.reg [.op (.fa 3 (.t 1) 1 1),
    .op (.ld 4 (.t 3) 1 false),
    .op (.bin 5 .eql (.t 4) (.k (.i .i64 68))),
    .op (.mv 2 (.t 5))])
  (.ret)))))
  [.t 2] false none

/-- slices.Delete[[]nursery/api.Waiter,nursery/api.Waiter] -/
def F_slices_Delete_api_Waiter_api_Waiter : F := .mk
  ((.seq (.reg [.op (.mv 6 (.k (.sl 5 true [])))])
  ((.seq (.reg [.op (.mv 8 (.t 0)),
    .op (.mv 9 (.t 1)),
    .op (.mv 10 (.t 2)),
    .op (.mv 11 (.t 0)),
    .op (.len 12 (.t 11) .sl),
    .op (.sl3 13 (.t 8) (.t 9) (.t 10) (.t 12) 5)])
  ((.seq ((.seq (.reg [.op (.mv 14 (.t 1)),
    .op (.mv 15 (.t 2)),
    .op (.bin 16 .eql (.t 14) (.t 15))])
  (.ite (.t 16)
    ((.seq (.reg [.op (.mv 17 (.t 0)),
      .op (.mv 6 (.t 17))])
    (.ret)))
    (.skip))))
  ((.seq (.reg [.op (.mv 18 (.t 0)),
    .op (.len 19 (.t 18) .sl),
    .op (.mv 7 (.t 19))])
  ((.seq (.drw [] [0, 1, 2, 3, 4, 5, 6, 7] [.op (.mv 20 (.t 0)),
    .op (.mv 21 (.t 1)),
    .op (.sl 22 (.t 20) none (some (.t 21)) 5),
    .op (.mv 23 (.t 0)),
    .op (.mv 24 (.t 2)),
    .op (.sl 25 (.t 23) (some (.t 24)) none 5),
    .op (.app 26 (.t 22) (.t 25) 5),
    .op (.mv 0 (.t 26))])
  ((.seq (.reg [.op (.mv 27 (.t 0)),
    .op (.mv 28 (.t 0)),
    .op (.len 29 (.t 28) .sl),
    .op (.mv 30 (.t 7)),
    .op (.sl 31 (.t 27) (some (.t 29)) (some (.t 30)) 5),
    .op (.clr none (.t 31) 5 [(.i .i64 0), (.i .i64 0), (.i .i64 0), (.i .i64 0), (.i .i64 0)])])
  ((.seq (.reg [.op (.mv 32 (.t 0)),
    .op (.mv 6 (.t 32))])
  (.ret)))))))))))))))
  [.t 6] true none

/-- nursery/topic.waiting$1 -/
def F_topic_waitingC1 : F := .mk
  ((.seq (.reg [.op (.box 3 (.t 0) 5 true),
    .op (.mv 4 (.k (.b false)))])
  ((.seq (.reg [.op (.fa 5 (.t 3) 0 1),
    .op (.ld 6 (.t 5) 1 false),
    .op (.ld 7 (.t 1) 1 false),
    .op (.bin 8 .eql (.t 6) (.t 7)),
    .op (.mv 9 (.t 8)),
    .sc false 14 9 [.op (.fa 10 (.t 3) 1 1), .op (.ld 11 (.t 10) 1 false), .op (.ld 12 (.t 2) 1 false), .op (.bin 13 .eql (.t 11) (.t 12))] (.t 13),
    .op (.mv 4 (.t 14))])
  (.ret)))))
  [.t 4] false none

/-- nursery/nurseryref19.within -/
def F_nurseryref19_within : F := .mk
  ((.seq (.reg [.op (.mv 6 (.k (.b false)))])
  ((.seq (.reg [.op (.mv 7 (.t 0)),
    .op (.mv 8 (.t 1)),
    .op (.bin 9 .geq (.t 7) (.t 8)),
    .op (.mv 10 (.t 9)),
    .sc false 14 10 [.op (.mv 11 (.t 0)), .op (.mv 12 (.t 2)), .op (.bin 13 .leq (.t 11) (.t 12))] (.t 13),
    .op (.mv 6 (.t 14))])
  (.ret)))))
  [.t 6] false none

/-- nursery/nurseryref07.within -/
def F_nurseryref07_within : F := .mk
  ((.seq (.reg [.op (.mv 6 (.k (.b false)))])
  ((.seq (.reg [.op (.mv 7 (.t 0)),
    .op (.mv 8 (.t 1)),
    .op (.bin 9 .geq (.t 7) (.t 8)),
    .op (.mv 10 (.t 9)),
    .sc false 14 10 [.op (.mv 11 (.t 0)), .op (.mv 12 (.t 2)), .op (.bin 13 .leq (.t 11) (.t 12))] (.t 13),
    .op (.mv 6 (.t 14))])
  (.ret)))))
  [.t 6] false none

/-- nursery/waitlist.valid -/
def F_waitlist_valid : F := .mk
  ((.seq (.reg [.op (.box 1 (.t 0) 5 true),
    .op (.mv 2 (.k (.b false)))])
  ((.seq (.blk 0 ((.seq (.reg [.op (.fa 4 (.t 1) 0 1),
     .op (.ld 5 (.t 4) 1 false),
     .op (.bin 6 .lss (.t 5) (.k (.i .i64 0))),
     .op (.mv 7 (.t 6)),
     .sc true 11 7 [.op (.fa 8 (.t 1) 0 1), .op (.ld 9 (.t 8) 1 false), .op (.bin 10 .geq (.t 9) (.k (.i .i64 16)))] (.t 10),
     .op (.mv 12 (.t 11)),
     .sc true 16 12 [.op (.fa 13 (.t 1) 1 1), .op (.ld 14 (.t 13) 1 false), .op (.bin 15 .lss (.t 14) (.k (.i .i64 1)))] (.t 15),
     .op (.mv 17 (.t 16)),
     .sc true 21 17 [.op (.fa 18 (.t 1) 1 1), .op (.ld 19 (.t 18) 1 false), .op (.bin 20 .gtr (.t 19) (.k (.i .i64 99)))] (.t 20),
     .op (.mv 22 (.t 21)),
     .sc true 26 22 [.op (.fa 23 (.t 1) 2 1), .op (.ld 24 (.t 23) 1 false), .op (.bin 25 .lss (.t 24) (.k (.i .i64 (-1099511627776))))] (.t 25),
     .op (.mv 27 (.t 26)),
     .sc true 31 27 [.op (.fa 28 (.t 1) 2 1), .op (.ld 29 (.t 28) 1 false), .op (.bin 30 .gtr (.t 29) (.k (.i .i64 1099511627776)))] (.t 30),
     .op (.mv 3 (.t 31))])
   (.ite (.t 3)
     ((.seq (.reg [.op (.mv 2 (.k (.b false)))])
     (.ret)))
     (.skip)))))
  ((.seq (.reg [.op (.fa 32 (.t 1) 3 1),
    .op (.ld 33 (.t 32) 1 false),
    .op (.bin 34 .geq (.t 33) (.k (.i .i64 0))),
    .op (.mv 35 (.t 34)),
    .sc false 39 35 [.op (.fa 36 (.t 1) 3 1), .op (.ld 37 (.t 36) 1 false), .op (.bin 38 .leq (.t 37) (.k (.i .i64 9)))] (.t 38),
    .op (.mv 40 (.t 39)),
    .sc false 44 40 [.op (.fa 41 (.t 1) 4 1), .op (.ld 42 (.t 41) 1 false), .op (.bin 43 .geq (.t 42) (.k (.i .i64 (-1))))] (.t 43),
    .op (.mv 45 (.t 44)),
    .sc false 49 45 [.op (.fa 46 (.t 1) 4 1), .op (.ld 47 (.t 46) 1 false), .op (.bin 48 .lss (.t 47) (.k (.i .i64 6)))] (.t 48),
    .op (.mv 2 (.t 49))])
  (.ret)))))))
  [.t 2] false none

/-- slices.rotateLeft[nursery/api.Cursor] -/
def F_slices_rotateLeft_api_Cursor : F := .mk
  ((.seq (.reg [.op (.mv 4 (.t 0)),
    .op (.mv 5 (.t 1)),
    .op (.sl 6 (.t 4) none (some (.t 5)) 2),
    .op (.call (some 7) slices_Reverse_api_Cursor_api_Cursor [(.t 6)])])
  ((.seq (.reg [.op (.mv 8 (.t 0)),
    .op (.mv 9 (.t 1)),
    .op (.sl 10 (.t 8) (some (.t 9)) none 2),
    .op (.call (some 11) slices_Reverse_api_Cursor_api_Cursor [(.t 10)])])
  (.reg [.op (.mv 12 (.t 0)),
    .op (.call (some 13) slices_Reverse_api_Cursor_api_Cursor [(.t 12)])])))))
  [] false none

def F_slices_Reverse_api_Cursor_api_Cursor_L0 : C :=
  (.seq ((.seq (.reg [.op (.mv 7 (.t 2)),
    .op (.mv 8 (.t 3)),
    .op (.bin 9 .lss (.t 7) (.t 8))])
  (.ite (.t 9)
    (.skip)
    (.seq (.keep []) (.exit 0)))))
  ((.seq (.blk 1 (.drw [] [0, 1, 2, 3, 4, 5, 6, 7, 8, 9, 10, 11, 12, 13, 14, 15] [.op (.mv 14 (.t 0)),
     .op (.mv 15 (.t 2)),
     .op (.mv 16 (.t 0)),
     .op (.mv 17 (.t 3)),
     .op (.mv 18 (.t 0)),
     .op (.mv 19 (.t 3)),
     .op (.ixs 20 (.t 18) (.t 19) 2),
     .op (.ld 21 (.t 20) 2 true),
     .op (.mv 22 (.t 0)),
     .op (.mv 23 (.t 2)),
     .op (.ixs 24 (.t 22) (.t 23) 2),
     .op (.ld 25 (.t 24) 2 true),
     .op (.ixs 26 (.t 14) (.t 15) 2),
     .op (.st (.t 26) (.t 21) 2 false),
     .op (.ixs 27 (.t 16) (.t 17) 2),
     .op (.st (.t 27) (.t 25) 2 false)]))
  (.reg [.op (.mv 10 (.t 2)),
    .op (.bin 11 .add (.t 10) (.k (.i .i64 1))),
    .op (.mv 12 (.t 3)),
    .op (.bin 13 .sub (.t 12) (.k (.i .i64 1))),
    .op (.mv 2 (.t 11)),
    .op (.mv 3 (.t 13))]))))

/-- slices.Reverse[[]nursery/api.Cursor,nursery/api.Cursor] -/
def F_slices_Reverse_api_Cursor_api_Cursor : F := .mk
  ((.seq (.reg [.op (.mv 4 (.t 0)),
    .op (.len 5 (.t 4) .sl),
    .op (.bin 6 .sub (.t 5) (.k (.i .i64 1))),
    .op (.mv 2 (.k (.i .i64 0))),
    .op (.mv 3 (.t 6))])
  (.blk 0 (.loop [0, 2, 3] F_slices_Reverse_api_Cursor_api_Cursor_L0))))
  [] false none
def F_slices_Insert_api_Cursor_api_Cursor : F := ⟨.skip, [], true, some (insP 2)⟩
def P : Prog := fun n => match n with
  | 3 => some F_nurserylaw23_TopicApply
  | 4 => some F_nurserylaw23_TopicLeaves
  | 5 => some F_nurserylaw23_TopicReads
  | 6 => some F_nurserylaw23_TopicValid
  | 7 => some F_nurserylaw23_TopicUndo
  | 8 => some F_nurserylaw23_TopicWithdraw
  | 9 => some F_nurserylaw23_TopicDelivers
  | 10 => some F_nurseryref19_Great
  | 11 => some F_nurserylaw23_awake
  | 12 => some F_topic_New
  | 13 => some F_nurseryref23_New
  | 14 => some F_topic_Apply
  | 15 => some F_nurseryref23_Apply
  | 16 => some F_nurseryref19_SameState
  | 17 => some F_topic_Check
  | 18 => some F_nurseryref23_Check
  | 19 => some F_nurseryref19_SameReply
  | 20 => some F_slices_ContainsFunc_api_Waiter_api_Waiter
  | 21 => some F_nurserylaw23_TopicLeavesC1
  | 22 => some F_nurserylaw23_call
  | 23 => some F_nurserylaw23_TopicLeavesC2
  | 24 => some F_nurserylaw23_TopicReadsC1
  | 25 => some F_slices_Clone_int_int
  | 10025 => some F_slices_Clone_int_int_p
  | 26 => some F_topic_Lag
  | 27 => some F_topic_Withdraw
  | 28 => some F_nurserylaw23_TopicValidC1
  | 29 => some F_nurseryref23_Full
  | 30 => some F_nurseryref23_Withdraw
  | 31 => some F_nurseryref23_Lag
  | 32 => some F_topic_Ready
  | 33 => some F_nurseryref23_Ready
  | 35 => some F_nurserylaw23_book_fine
  | 36 => some F_nurseryref23_within
  | 37 => some F_topic_call
  | 38 => some F_topic_begin
  | 39 => some F_topic_ApplyC1
  | 40 => some F_topic_board_subscribe
  | 41 => some F_topic_ApplyC2
  | 42 => some F_topic_find
  | 43 => some F_slices_Delete_api_Cursor_api_Cursor
  | 44 => some F_topic_board_advance
  | 45 => some F_topic_ApplyC3
  | 46 => some F_topic_ApplyC3C1
  | 47 => some F_topic_full
  | 48 => some F_topic_board_wait
  | 49 => some F_topic_board_publish
  | 50 => some F_topic_ApplyC4
  | 51 => some F_topic_board_next
  | 52 => some F_nurseryref23_check
  | 53 => some F_nurseryref23_subscribe
  | 54 => some F_nurseryref23_advance
  | 55 => some F_nurseryref23_without
  | 56 => some F_nurseryref23_next
  | 57 => some F_nurseryref23_publisher
  | 58 => some F_nurseryref23_published
  | 59 => some F_nurseryref07_Push
  | 60 => some F_nurseryref07_Same
  | 61 => some F_nurseryref19_sameInts
  | 62 => some F_topic_cursors
  | 63 => some F_topic_queue
  | 64 => some F_nurseryref23_checkCursors
  | 65 => some F_nurseryref23_checkQueue
  | 66 => some F_slices_IndexFunc_api_Waiter_api_Waiter
  | 67 => some F_waitlist_Find
  | 68 => some F_waitlist_Remove
  | 69 => some F_nurseryref23_waits
  | 70 => some F_nurseryref07_Find
  | 71 => some F_nurseryref07_Remove
  | 72 => some F_nurseryref23_cursor
  | 74 => some F_nurserylaw23_book_wake
  | 75 => some F_slices_Equal_int_int
  | 76 => some F_slices_Concat_int_int
  | 77 => some F_topic_number
  | 78 => some F_slices_Clone_api_Cursor_api_Cursor
  | 79 => some F_slices_Clone_api_Waiter_api_Waiter
  | 81 => some F_slices_IndexFunc_api_Cursor_api_Cursor
  | 82 => some F_topic_findC1
  | 83 => some F_topic_board_publishers
  | 84 => some F_topic_board_wake
  | 85 => some F_slices_ContainsFunc_api_Cursor_api_Cursor
  | 86 => some F_topic_fullC1
  | 87 => some F_topic_waiting
  | 88 => some F_slices_IndexFunc_api_Wake_api_Wake
  | 89 => some F_topic_board_nextC1
  | 90 => some F_slices_Delete_api_Wake_api_Wake
  | 91 => some F_nurseryref19_Caller
  | 92 => some F_nurseryref07_Check
  | 93 => some F_nurseryref07_Valid
  | 94 => some F_waitlist_Check
  | 95 => some F_waitlist_filter
  | 96 => some F_waitlist_RemoveC1
  | 97 => some F_slices_Grow_int_int
  | 99 => some F_slices_rotateRight_api_Cursor
  | 100 => some F_topic_board_publishersC1
  | 101 => some F_topic_board_publishersC1C1
  | 102 => some F_slices_Delete_api_Waiter_api_Waiter
  | 103 => some F_topic_waitingC1
  | 104 => some F_nurseryref19_within
  | 105 => some F_nurseryref07_within
  | 106 => some F_waitlist_valid
  | 107 => some F_slices_rotateLeft_api_Cursor
  | 108 => some F_slices_Reverse_api_Cursor_api_Cursor
  | 80 => some F_slices_Insert_api_Cursor_api_Cursor
  | _ => none
theorem P_nurserylaw23_TopicApply : P nurserylaw23_TopicApply = some F_nurserylaw23_TopicApply := rfl
theorem P_nurserylaw23_TopicLeaves : P nurserylaw23_TopicLeaves = some F_nurserylaw23_TopicLeaves := rfl
theorem P_nurserylaw23_TopicReads : P nurserylaw23_TopicReads = some F_nurserylaw23_TopicReads := rfl
theorem P_nurserylaw23_TopicValid : P nurserylaw23_TopicValid = some F_nurserylaw23_TopicValid := rfl
theorem P_nurserylaw23_TopicUndo : P nurserylaw23_TopicUndo = some F_nurserylaw23_TopicUndo := rfl
theorem P_nurserylaw23_TopicWithdraw : P nurserylaw23_TopicWithdraw = some F_nurserylaw23_TopicWithdraw := rfl
theorem P_nurserylaw23_TopicDelivers : P nurserylaw23_TopicDelivers = some F_nurserylaw23_TopicDelivers := rfl
theorem P_nurseryref19_Great : P nurseryref19_Great = some F_nurseryref19_Great := rfl
theorem P_nurserylaw23_awake : P nurserylaw23_awake = some F_nurserylaw23_awake := rfl
theorem P_topic_New : P topic_New = some F_topic_New := rfl
theorem P_nurseryref23_New : P nurseryref23_New = some F_nurseryref23_New := rfl
theorem P_topic_Apply : P topic_Apply = some F_topic_Apply := rfl
theorem P_nurseryref23_Apply : P nurseryref23_Apply = some F_nurseryref23_Apply := rfl
theorem P_nurseryref19_SameState : P nurseryref19_SameState = some F_nurseryref19_SameState := rfl
theorem P_topic_Check : P topic_Check = some F_topic_Check := rfl
theorem P_nurseryref23_Check : P nurseryref23_Check = some F_nurseryref23_Check := rfl
theorem P_nurseryref19_SameReply : P nurseryref19_SameReply = some F_nurseryref19_SameReply := rfl
theorem P_slices_ContainsFunc_api_Waiter_api_Waiter : P slices_ContainsFunc_api_Waiter_api_Waiter = some F_slices_ContainsFunc_api_Waiter_api_Waiter := rfl
theorem P_nurserylaw23_TopicLeavesC1 : P nurserylaw23_TopicLeavesC1 = some F_nurserylaw23_TopicLeavesC1 := rfl
theorem P_nurserylaw23_call : P nurserylaw23_call = some F_nurserylaw23_call := rfl
theorem P_nurserylaw23_TopicLeavesC2 : P nurserylaw23_TopicLeavesC2 = some F_nurserylaw23_TopicLeavesC2 := rfl
theorem P_nurserylaw23_TopicReadsC1 : P nurserylaw23_TopicReadsC1 = some F_nurserylaw23_TopicReadsC1 := rfl
theorem P_slices_Clone_int_int : P slices_Clone_int_int = some F_slices_Clone_int_int := rfl
theorem P_slices_Clone_int_int_p : P slices_Clone_int_int_p = some F_slices_Clone_int_int_p := rfl
theorem P_topic_Lag : P topic_Lag = some F_topic_Lag := rfl
theorem P_topic_Withdraw : P topic_Withdraw = some F_topic_Withdraw := rfl
theorem P_nurserylaw23_TopicValidC1 : P nurserylaw23_TopicValidC1 = some F_nurserylaw23_TopicValidC1 := rfl
theorem P_nurseryref23_Full : P nurseryref23_Full = some F_nurseryref23_Full := rfl
theorem P_nurseryref23_Withdraw : P nurseryref23_Withdraw = some F_nurseryref23_Withdraw := rfl
theorem P_nurseryref23_Lag : P nurseryref23_Lag = some F_nurseryref23_Lag := rfl
theorem P_topic_Ready : P topic_Ready = some F_topic_Ready := rfl
theorem P_nurseryref23_Ready : P nurseryref23_Ready = some F_nurseryref23_Ready := rfl
theorem P_nurserylaw23_book_fine : P nurserylaw23_book_fine = some F_nurserylaw23_book_fine := rfl
theorem P_nurseryref23_within : P nurseryref23_within = some F_nurseryref23_within := rfl
theorem P_topic_call : P topic_call = some F_topic_call := rfl
theorem P_topic_begin : P topic_begin = some F_topic_begin := rfl
theorem P_topic_ApplyC1 : P topic_ApplyC1 = some F_topic_ApplyC1 := rfl
theorem P_topic_board_subscribe : P topic_board_subscribe = some F_topic_board_subscribe := rfl
theorem P_topic_ApplyC2 : P topic_ApplyC2 = some F_topic_ApplyC2 := rfl
theorem P_topic_find : P topic_find = some F_topic_find := rfl
theorem P_slices_Delete_api_Cursor_api_Cursor : P slices_Delete_api_Cursor_api_Cursor = some F_slices_Delete_api_Cursor_api_Cursor := rfl
theorem P_topic_board_advance : P topic_board_advance = some F_topic_board_advance := rfl
theorem P_topic_ApplyC3 : P topic_ApplyC3 = some F_topic_ApplyC3 := rfl
theorem P_topic_ApplyC3C1 : P topic_ApplyC3C1 = some F_topic_ApplyC3C1 := rfl
theorem P_topic_full : P topic_full = some F_topic_full := rfl
theorem P_topic_board_wait : P topic_board_wait = some F_topic_board_wait := rfl
theorem P_topic_board_publish : P topic_board_publish = some F_topic_board_publish := rfl
theorem P_topic_ApplyC4 : P topic_ApplyC4 = some F_topic_ApplyC4 := rfl
theorem P_topic_board_next : P topic_board_next = some F_topic_board_next := rfl
theorem P_nurseryref23_check : P nurseryref23_check = some F_nurseryref23_check := rfl
theorem P_nurseryref23_subscribe : P nurseryref23_subscribe = some F_nurseryref23_subscribe := rfl
theorem P_nurseryref23_advance : P nurseryref23_advance = some F_nurseryref23_advance := rfl
theorem P_nurseryref23_without : P nurseryref23_without = some F_nurseryref23_without := rfl
theorem P_nurseryref23_next : P nurseryref23_next = some F_nurseryref23_next := rfl
theorem P_nurseryref23_publisher : P nurseryref23_publisher = some F_nurseryref23_publisher := rfl
theorem P_nurseryref23_published : P nurseryref23_published = some F_nurseryref23_published := rfl
theorem P_nurseryref07_Push : P nurseryref07_Push = some F_nurseryref07_Push := rfl
theorem P_nurseryref07_Same : P nurseryref07_Same = some F_nurseryref07_Same := rfl
theorem P_nurseryref19_sameInts : P nurseryref19_sameInts = some F_nurseryref19_sameInts := rfl
theorem P_topic_cursors : P topic_cursors = some F_topic_cursors := rfl
theorem P_topic_queue : P topic_queue = some F_topic_queue := rfl
theorem P_nurseryref23_checkCursors : P nurseryref23_checkCursors = some F_nurseryref23_checkCursors := rfl
theorem P_nurseryref23_checkQueue : P nurseryref23_checkQueue = some F_nurseryref23_checkQueue := rfl
theorem P_slices_IndexFunc_api_Waiter_api_Waiter : P slices_IndexFunc_api_Waiter_api_Waiter = some F_slices_IndexFunc_api_Waiter_api_Waiter := rfl
theorem P_waitlist_Find : P waitlist_Find = some F_waitlist_Find := rfl
theorem P_waitlist_Remove : P waitlist_Remove = some F_waitlist_Remove := rfl
theorem P_nurseryref23_waits : P nurseryref23_waits = some F_nurseryref23_waits := rfl
theorem P_nurseryref07_Find : P nurseryref07_Find = some F_nurseryref07_Find := rfl
theorem P_nurseryref07_Remove : P nurseryref07_Remove = some F_nurseryref07_Remove := rfl
theorem P_nurseryref23_cursor : P nurseryref23_cursor = some F_nurseryref23_cursor := rfl
theorem P_nurserylaw23_book_wake : P nurserylaw23_book_wake = some F_nurserylaw23_book_wake := rfl
theorem P_slices_Equal_int_int : P slices_Equal_int_int = some F_slices_Equal_int_int := rfl
theorem P_slices_Concat_int_int : P slices_Concat_int_int = some F_slices_Concat_int_int := rfl
theorem P_topic_number : P topic_number = some F_topic_number := rfl
theorem P_slices_Clone_api_Cursor_api_Cursor : P slices_Clone_api_Cursor_api_Cursor = some F_slices_Clone_api_Cursor_api_Cursor := rfl
theorem P_slices_Clone_api_Waiter_api_Waiter : P slices_Clone_api_Waiter_api_Waiter = some F_slices_Clone_api_Waiter_api_Waiter := rfl
theorem P_slices_IndexFunc_api_Cursor_api_Cursor : P slices_IndexFunc_api_Cursor_api_Cursor = some F_slices_IndexFunc_api_Cursor_api_Cursor := rfl
theorem P_topic_findC1 : P topic_findC1 = some F_topic_findC1 := rfl
theorem P_topic_board_publishers : P topic_board_publishers = some F_topic_board_publishers := rfl
theorem P_topic_board_wake : P topic_board_wake = some F_topic_board_wake := rfl
theorem P_slices_ContainsFunc_api_Cursor_api_Cursor : P slices_ContainsFunc_api_Cursor_api_Cursor = some F_slices_ContainsFunc_api_Cursor_api_Cursor := rfl
theorem P_topic_fullC1 : P topic_fullC1 = some F_topic_fullC1 := rfl
theorem P_topic_waiting : P topic_waiting = some F_topic_waiting := rfl
theorem P_slices_IndexFunc_api_Wake_api_Wake : P slices_IndexFunc_api_Wake_api_Wake = some F_slices_IndexFunc_api_Wake_api_Wake := rfl
theorem P_topic_board_nextC1 : P topic_board_nextC1 = some F_topic_board_nextC1 := rfl
theorem P_slices_Delete_api_Wake_api_Wake : P slices_Delete_api_Wake_api_Wake = some F_slices_Delete_api_Wake_api_Wake := rfl
theorem P_nurseryref19_Caller : P nurseryref19_Caller = some F_nurseryref19_Caller := rfl
theorem P_nurseryref07_Check : P nurseryref07_Check = some F_nurseryref07_Check := rfl
theorem P_nurseryref07_Valid : P nurseryref07_Valid = some F_nurseryref07_Valid := rfl
theorem P_waitlist_Check : P waitlist_Check = some F_waitlist_Check := rfl
theorem P_waitlist_filter : P waitlist_filter = some F_waitlist_filter := rfl
theorem P_waitlist_RemoveC1 : P waitlist_RemoveC1 = some F_waitlist_RemoveC1 := rfl
theorem P_slices_Grow_int_int : P slices_Grow_int_int = some F_slices_Grow_int_int := rfl
theorem P_slices_rotateRight_api_Cursor : P slices_rotateRight_api_Cursor = some F_slices_rotateRight_api_Cursor := rfl
theorem P_topic_board_publishersC1 : P topic_board_publishersC1 = some F_topic_board_publishersC1 := rfl
theorem P_topic_board_publishersC1C1 : P topic_board_publishersC1C1 = some F_topic_board_publishersC1C1 := rfl
theorem P_slices_Delete_api_Waiter_api_Waiter : P slices_Delete_api_Waiter_api_Waiter = some F_slices_Delete_api_Waiter_api_Waiter := rfl
theorem P_topic_waitingC1 : P topic_waitingC1 = some F_topic_waitingC1 := rfl
theorem P_nurseryref19_within : P nurseryref19_within = some F_nurseryref19_within := rfl
theorem P_nurseryref07_within : P nurseryref07_within = some F_nurseryref07_within := rfl
theorem P_waitlist_valid : P waitlist_valid = some F_waitlist_valid := rfl
theorem P_slices_rotateLeft_api_Cursor : P slices_rotateLeft_api_Cursor = some F_slices_rotateLeft_api_Cursor := rfl
theorem P_slices_Reverse_api_Cursor_api_Cursor : P slices_Reverse_api_Cursor_api_Cursor = some F_slices_Reverse_api_Cursor_api_Cursor := rfl
theorem P_slices_Insert_api_Cursor_api_Cursor : P slices_Insert_api_Cursor_api_Cursor = some F_slices_Insert_api_Cursor_api_Cursor := rfl
end Go.VS
