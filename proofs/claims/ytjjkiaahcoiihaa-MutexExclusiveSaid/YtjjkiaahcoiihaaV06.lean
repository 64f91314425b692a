import Derived.Test.YtjjkiaahcoiihaaV05
set_option linter.all false
namespace Go.VS
def gosem_cut_init : Nat := 2
def nurserylaw16_MutexExclusive : Nat := 3
def nurserylaw16_MutexHandover : Nat := 4
def nurserylaw16_MutexApply : Nat := 5
def nurserylaw16_MutexStates : Nat := 6
def nurserylaw16_MutexServes : Nat := 7
def nurserylaw16_MutexWithdraw : Nat := 8
def nurserylaw16_MutexWithdraws : Nat := 9
def nurserylaw16_MutexValid : Nat := 10
def mutex_New : Nat := 11
def nurserylaw16_object : Nat := 12
def nurserylaw16_awake : Nat := 13
def mutex_Apply : Nat := 14
def nurseryref16_Great : Nat := 15
def mutex_Check : Nat := 16
def nurseryref16_SameWaiters : Nat := 17
def nurseryref16_Without : Nat := 18
def nurseryref16_Apply : Nat := 19
def nurseryref16_SameReply : Nat := 20
def mutex_Ready : Nat := 21
def nurseryref16_Ready : Nat := 22
def nurseryref16_New : Nat := 23
def mutex_Holder : Nat := 24
def nurseryref16_Holder : Nat := 25
def nurseryref16_Same : Nat := 26
def nurseryref16_Check : Nat := 27
def nurseryref04_SameInts : Nat := 28
def mutex_Withdraw : Nat := 29
def nurseryref16_Withdraw : Nat := 30
def nurserylaw16_lock : Nat := 31
def mutex_operations : Nat := 32
def mutex_isTask : Nat := 33
def mutex_waits : Nat := 34
def mutex_valid : Nat := 35
def nurseryref16_Task : Nat := 36
def nurseryref16_Waits : Nat := 37
def nurseryref16_lock : Nat := 38
def nurseryref16_sameCursors : Nat := 39
def nurseryref16_queue : Nat := 40
def waitlist_Remove : Nat := 41
def mutex_lock : Nat := 42
def mutex_operationsC1 : Nat := 43
def mutex_unlock : Nat := 44
def slices_ContainsFunc_api_Waiter_api_Waiter : Nat := 45
def mutex_waitsC1 : Nat := 46
def waitlist_Check : Nat := 47
def mutex_validC1 : Nat := 48
def waitlist_filter : Nat := 49
def waitlist_RemoveC1 : Nat := 50
def slices_BinarySearchFunc_api_Waiter_api_Waiter_int : Nat := 51
def mutex_lockC1 : Nat := 52
def cmp_Compare_int : Nat := 53
def slices_Insert_api_Waiter_api_Waiter : Nat := 54
def slices_Clone_api_Waiter_api_Waiter : Nat := 55
def slices_IndexFunc_api_Waiter_api_Waiter : Nat := 56
def waitlist_valid : Nat := 57
def cmp_isNaN_int : Nat := 58
def slices_overlaps_api_Waiter : Nat := 59
def slices_rotateRight_api_Waiter : Nat := 60
def slices_rotateLeft_api_Waiter : Nat := 61
def slices_Reverse_api_Waiter_api_Waiter : Nat := 62
def F_nurserylaw16_MutexExclusive_L0 : C :=
  (.seq (.reg [.op (.bin 104 .lss (.t 103) (.t 102))])
  ((.seq (.ite (.t 104)
    (.skip)
    (.seq (.keep [3, 5, 6, 31, 32, 33]) (.exit 3)))
  ((.seq (.blk 4 ((.seq (.reg [.op (.ixs 105 (.t 101) (.t 103) 5),
     .op (.ld 106 (.t 105) 5 true),
     .op (.new 12 [(.i .i64 0), (.i .i64 0), (.i .i64 0), (.i .i64 0), (.i .i64 0)]),
     .op (.st (.t 12) (.t 106) 5 true)])
   ((.seq (.reg [.op (.mv 107 (.t 6)),
     .op (.fa 108 (.t 12) 0 1),
     .op (.ld 109 (.t 108) 1 false),
     .op (.mget 110 (.t 107) (.t 109) (.b false) false [.i]),
     .op (.un 111 .not (.t 110))])
   (.ite (.t 111)
     ((.seq (.reg [.op (.mv 2 (.k (.b false)))])
     (.seq (.keep [2]) .ret)))
     (.skip)))))))
  (.reg [.op (.bin 112 .add (.t 103) (.k (.i .i64 1))),
    .op (.mv 103 (.t 112))]))))))

def F_nurserylaw16_MutexExclusive_L1 : C :=
  (.seq (.reg [.op (.bin 34 .lss (.t 33) (.t 32))])
  ((.seq (.ite (.t 34)
    (.skip)
    (.seq (.keep []) (.exit 0)))
  ((.seq (.blk 1 ((.seq (.reg [.op (.ixs 35 (.t 31) (.t 33) 5),
     .op (.ld 36 (.t 35) 5 true),
     .op (.new 8 [(.i .i64 0), (.i .i64 0), (.i .i64 0), (.i .i64 0), (.i .i64 0)]),
     .op (.st (.t 8) (.t 36) 5 true)])
   ((.seq (.seq (.drw [] [0, 1, 2, 3, 4, 5, 6, 7, 8, 9] [.op (.call (some 38) nurserylaw16_object []),
     .op (.ld 39 (.t 3) 9 true),
     .op (.ldd 40 (.t 8) 5 true),
     .op (.call (some 41) mutex_Apply [(.t 38), (.t 39), (.t 40)]),
     .op (.mv 37 (.t 41)),
     .op (.ext 42 (.t 37) 0),
     .op (.ext 43 (.t 37) 1),
     .op (.new 9 [(.i .i64 0), (.i .i64 0), (.i .i64 0), (.sl 1 true []), (.sl 5 true []), (.sl 1 true []), (.sl 2 true []), (.b false), (.i .i64 0), (.b false), (.i .i64 0), (.b false), (.sl 5 true [])]),
     .re (.ld 39 (.t 3) 9 true),
     .op (.st (.t 9) (.t 42) 13 false),
     .op (.mv 10 (.t 43))])
   (.frz [9]))
   ((.seq ((.seq (.reg [.op (.mv 44 (.t 10)),
     .op (.bin 45 .neq (.t 44) (.k (.i .i64 0)))])
   (.ite (.t 45)
     (.seq (.keep [3, 5, 6, 31, 32, 33]) (.exit 1))
     (.skip))))
   ((.seq (.reg [.op (.fa 46 (.t 9) 0 9),
     .op (.ld 47 (.t 46) 9 true),
     .op (.st (.t 3) (.t 47) 9 false)])
   ((.seq (.blk 2 ((.seq (.reg [.op (.fa 49 (.t 8) 1 1),
      .op (.ld 50 (.t 49) 1 false),
      .op (.bin 51 .eql (.t 50) (.k (.i .i64 52))),
      .op (.mv 52 (.t 51)),
      .sc false 57 52 [.op (.mv 53 (.t 5)), .op (.fa 54 (.t 8) 0 1), .op (.ld 55 (.t 54) 1 false), .op (.bin 56 .neq (.t 53) (.t 55))] (.t 56),
      .op (.mv 48 (.t 57))])
    (.ite (.t 48)
      ((.seq (.reg [.op (.mv 2 (.k (.b false)))])
      (.seq (.keep [2]) .ret)))
      ((.seq (.reg [.op (.fa 59 (.t 8) 1 1),
        .op (.ld 60 (.t 59) 1 false),
        .op (.bin 61 .eql (.t 60) (.k (.i .i64 52))),
        .op (.mv 62 (.t 61)),
        .sc false 67 62 [.op (.fa 63 (.t 9) 12 1), .op (.ld 64 (.t 63) 1 false), .op (.len 65 (.t 64) .sl), .op (.bin 66 .eql (.t 65) (.k (.i .i64 0)))] (.t 66),
        .op (.mv 58 (.t 67))])
      (.ite (.t 58)
        (.reg [.op (.mv 5 (.k (.i .i64 (-1))))])
        ((.seq (.reg [.op (.fa 69 (.t 8) 1 1),
          .op (.ld 70 (.t 69) 1 false),
          .op (.bin 71 .eql (.t 70) (.k (.i .i64 52))),
          .op (.mv 68 (.t 71))])
        (.ite (.t 68)
          ((.seq ((.seq (.reg [.op (.fa 72 (.t 9) 12 1),
            .op (.ld 73 (.t 72) 1 false),
            .op (.len 74 (.t 73) .sl),
            .op (.bin 75 .eql (.t 74) (.k (.i .i64 0)))])
          (.ite (.t 75)
            ((.seq (.reg [.op (.mv 2 (.k (.b false)))])
            (.seq (.keep [2]) .ret)))
            (.skip))))
          ((.seq (.reg [.op (.fa 76 (.t 9) 12 1),
            .op (.ld 77 (.t 76) 1 false),
            .op (.ixs 78 (.t 77) (.k (.i .i64 0)) 5),
            .op (.fa 79 (.t 78) 0 1),
            .op (.ld 80 (.t 79) 1 false),
            .op (.mv 5 (.t 80))])
          ((.seq ((.seq (.reg [.op (.mv 81 (.t 6)),
            .op (.mv 82 (.t 5)),
            .op (.mget 83 (.t 81) (.t 82) (.b false) false [.i]),
            .op (.un 84 .not (.t 83))])
          (.ite (.t 84)
            ((.seq (.reg [.op (.mv 2 (.k (.b false)))])
            (.seq (.keep [2]) .ret)))
            (.skip))))
          (.reg [.op (.mv 85 (.t 6)),
            .op (.mv 86 (.t 5)),
            .op (.mdel (.t 85) (.t 86) [.i])])))))))
          ((.seq (.reg [.op (.fa 88 (.t 9) 9 1),
            .op (.ld 89 (.t 88) 1 false),
            .op (.mv 87 (.t 89))])
          (.ite (.t 87)
            (.reg [.op (.mv 90 (.t 6)),
              .op (.fa 91 (.t 8) 0 1),
              .op (.ld 92 (.t 91) 1 false),
              .op (.mput (.t 90) (.t 92) (.k (.b true)) [.i])])
            ((.seq (.reg [.op (.fa 94 (.t 9) 11 1),
              .op (.ld 95 (.t 94) 1 false),
              .op (.mv 93 (.t 95))])
            (.ite (.t 93)
              ((.seq ((.seq (.reg [.op (.mv 96 (.t 5)),
                .op (.bin 97 .neq (.t 96) (.k (.i .i64 (-1))))])
              (.ite (.t 97)
                ((.seq (.reg [.op (.mv 2 (.k (.b false)))])
                (.seq (.keep [2]) .ret)))
                (.skip))))
              (.reg [.op (.fa 98 (.t 8) 0 1),
                .op (.ld 99 (.t 98) 1 false),
                .op (.mv 5 (.t 99))])))
              (.skip)))))))))))))))))
   ((.seq ((.seq (.reg [.op (.fa 100 (.t 3) 4 1),
     .op (.ld 101 (.t 100) 1 false),
     .op (.len 102 (.t 101) .sl),
     .op (.mv 103 (.k (.i .i64 0)))])
   (.blk 3 (.loop [3, 5, 6, 31, 32, 33, 101, 102, 103] F_nurserylaw16_MutexExclusive_L0))))
   ((.seq (.reg [.op (.fa 113 (.t 3) 0 1),
     .op (.ld 114 (.t 113) 1 false),
     .op (.mv 115 (.t 5)),
     .op (.bin 116 .neq (.t 114) (.t 115)),
     .op (.mv 117 (.t 116)),
     .sc true 124 117 [.op (.fa 118 (.t 3) 4 1), .op (.ld 119 (.t 118) 1 false), .op (.len 120 (.t 119) .sl), .op (.mv 121 (.t 6)), .op (.len 122 (.t 121) .mp), .op (.bin 123 .neq (.t 120) (.t 122))] (.t 123),
     .op (.mv 125 (.t 124)),
     .sc true 133 125 [.op (.mv 126 (.t 6)), .op (.len 127 (.t 126) .mp), .op (.bin 128 .gtr (.t 127) (.k (.i .i64 0))), .op (.mv 129 (.t 128)), .sc false 132 129 [.op (.mv 130 (.t 5)), .op (.bin 131 .eql (.t 130) (.k (.i .i64 (-1))))] (.t 131)] (.t 132)])
   (.ite (.t 133)
     ((.seq (.reg [.op (.mv 2 (.k (.b false)))])
     (.seq (.keep [2]) .ret)))
     (.skip)))))))))))))))))
  (.reg [.op (.bin 134 .add (.t 33) (.k (.i .i64 1))),
    .op (.mv 33 (.t 134))]))))))

/-- nursery/nurserylaw16.MutexExclusive -/
def F_nurserylaw16_MutexExclusive : F := .mk
  ((.seq (.reg [.op (.mv 2 (.k (.b false)))])
  ((.seq (.reg [.op (.call (some 14) nurserylaw16_object []),
    .op (.call (some 15) mutex_New [(.t 14)]),
    .op (.mv 13 (.t 15)),
    .op (.ext 16 (.t 13) 0),
    .op (.ext 17 (.t 13) 1),
    .op (.new 3 [(.i .i64 0), (.i .i64 0), (.i .i64 0), (.sl 1 true []), (.sl 5 true []), (.sl 1 true []), (.sl 2 true []), (.b false), (.i .i64 0)]),
    .op (.st (.t 3) (.t 16) 9 false),
    .op (.mv 4 (.t 17))])
  ((.seq ((.seq (.reg [.op (.mv 18 (.t 0)),
    .op (.len 19 (.t 18) .sl),
    .op (.bin 20 .gtr (.t 19) (.k (.i .i64 40))),
    .op (.mv 21 (.t 20)),
    .sc true 24 21 [.op (.mv 22 (.t 4)), .op (.bin 23 .neq (.t 22) (.k (.i .i64 0)))] (.t 23)])
  (.ite (.t 24)
    ((.seq (.reg [.op (.mv 25 (.t 4)),
      .op (.bin 26 .eql (.t 25) (.k (.i .i64 0))),
      .op (.mv 27 (.t 26)),
      .sc false 29 27 [.op (.call (some 28) nurserylaw16_awake [])] (.t 28),
      .op (.mv 2 (.t 29))])
    (.ret)))
    (.skip))))
  ((.seq (.reg [.op (.mv 5 (.k (.i .i64 (-1))))])
  ((.seq (.reg [.op (.mkm 30),
    .op (.mv 6 (.t 30))])
  ((.seq ((.seq (.reg [.op (.mv 31 (.t 0)),
    .op (.len 32 (.t 31) .sl),
    .op (.mv 33 (.k (.i .i64 0)))])
  (.blk 0 (.loop [3, 5, 6, 31, 32, 33] F_nurserylaw16_MutexExclusive_L1))))
  ((.seq (.reg [.op (.call (some 135) nurserylaw16_awake []),
    .op (.mv 2 (.t 135))])
  (.ret)))))))))))))))
  [.t 2] false none

def F_nurserylaw16_MutexHandover_L0 : C :=
  (.seq (.reg [.op (.bin 63 .lss (.t 62) (.t 61))])
  ((.seq (.ite (.t 63)
    (.skip)
    (.seq (.keep [1, 3, 5]) (.exit 0)))
  ((.seq (.blk 1 ((.seq (.reg [.op (.mv 64 (.t 62)),
     .op (.ixs 65 (.t 60) (.t 62) 5),
     .op (.ld 66 (.t 65) 5 true),
     .op (.new 7 [(.i .i64 0), (.i .i64 0), (.i .i64 0), (.i .i64 0), (.i .i64 0)]),
     .op (.mv 6 (.t 64)),
     .op (.st (.t 7) (.t 66) 5 true)])
   ((.seq (.drw [] [0, 1, 2, 3, 4, 5, 6, 7, 8] [.op (.fad 67 (.t 7) 3 1),
     .op (.ldd 68 (.t 67) 1 false),
     .op (.fad 69 (.t 1) 4 1),
     .op (.ldd 70 (.t 69) 1 false),
     .op (.mv 71 (.t 5)),
     .op (.ixs 72 (.t 70) (.t 71) 5),
     .op (.fa 73 (.t 72) 3 1),
     .op (.ld 74 (.t 73) 1 false),
     .op (.bin 75 .gtr (.t 68) (.t 74))])
   (.ite (.t 75)
     (.reg [.op (.mv 76 (.t 6)),
       .op (.mv 5 (.t 76))])
     (.skip)))))))
  (.reg [.op (.bin 77 .add (.t 62) (.k (.i .i64 1))),
    .op (.mv 62 (.t 77))]))))))

/-- nursery/nurserylaw16.MutexHandover -/
def F_nurserylaw16_MutexHandover : F := .mk
  ((.seq (.reg [.op (.box 1 (.t 0) 9 true),
    .op (.mv 2 (.k (.b false)))])
  ((.seq ((.seq (.drw [] [0, 1, 2, 3, 4, 5, 6, 7, 8, 9, 10, 11, 12] [.op (.ldd 8 (.t 1) 9 true),
    .op (.call (some 9) nurseryref16_Great [(.t 8)]),
    .op (.mv 10 (.t 9)),
    .sc true 15 10 [.op (.call (some 11) nurserylaw16_object []), .op (.ldd 12 (.t 1) 9 true), .op (.call (some 13) mutex_Check [(.t 11), (.t 12)]), .op (.bin 14 .neq (.t 13) (.k (.i .i64 0)))] (.t 14),
    .op (.mv 16 (.t 15)),
    .sc true 20 16 [.op (.fad 17 (.t 1) 0 1), .op (.ldd 18 (.t 17) 1 false), .op (.bin 19 .eql (.t 18) (.k (.i .i64 (-1))))] (.t 19)])
  (.ite (.t 20)
    ((.seq (.reg [.op (.call (some 21) nurserylaw16_awake []),
      .op (.mv 2 (.t 21))])
    (.ret)))
    (.skip))))
  ((.seq (.seq (.drw [] [0, 1, 2, 3, 4, 5, 6, 7, 8, 9, 10, 11] [.op (.call (some 23) nurserylaw16_object []),
    .op (.ldd 24 (.t 1) 9 true),
    .op (.fad 25 (.t 1) 0 1),
    .op (.ldd 26 (.t 25) 1 false),
    .op (.build 27 [(.i .i64 0), (.i .i64 0), (.i .i64 0), (.i .i64 0), (.i .i64 0)] [(0, 1, (.t 26)), (1, 1, (.k (.i .i64 52)))]),
    .op (.call (some 28) mutex_Apply [(.t 23), (.t 24), (.t 27)]),
    .op (.mv 22 (.t 28)),
    .op (.ext 29 (.t 22) 0),
    .op (.ext 30 (.t 22) 1),
    .op (.new 3 [(.i .i64 0), (.i .i64 0), (.i .i64 0), (.sl 1 true []), (.sl 5 true []), (.sl 1 true []), (.sl 2 true []), (.b false), (.i .i64 0), (.b false), (.i .i64 0), (.b false), (.sl 5 true [])]),
    .op (.st (.t 3) (.t 29) 13 false),
    .op (.mv 4 (.t 30))])
  (.frz [3]))
  ((.seq ((.seq (.reg [.op (.mv 31 (.t 4)),
    .op (.bin 32 .neq (.t 31) (.k (.i .i64 0))),
    .op (.mv 33 (.t 32)),
    .sc true 36 33 [.op (.fa 34 (.t 3) 9 1), .op (.ld 35 (.t 34) 1 false)] (.t 35),
    .op (.mv 37 (.t 36)),
    .sc true 41 37 [.op (.fa 38 (.t 3) 11 1), .op (.ld 39 (.t 38) 1 false), .op (.un 40 .not (.t 39))] (.t 40)])
  (.ite (.t 41)
    ((.seq (.reg [.op (.mv 2 (.k (.b false)))])
    (.ret)))
    (.skip))))
  ((.seq ((.seq (.reg [.op (.fa 42 (.t 1) 4 1),
    .op (.ld 43 (.t 42) 1 false),
    .op (.len 44 (.t 43) .sl),
    .op (.bin 45 .eql (.t 44) (.k (.i .i64 0)))])
  (.ite (.t 45)
    ((.seq (.reg [.op (.fa 46 (.t 3) 12 1),
      .op (.ld 47 (.t 46) 1 false),
      .op (.len 48 (.t 47) .sl),
      .op (.bin 49 .eql (.t 48) (.k (.i .i64 0))),
      .op (.mv 50 (.t 49)),
      .sc false 55 50 [.op (.fa 51 (.t 3) 0 9), .op (.fa 52 (.t 51) 0 1), .op (.ld 53 (.t 52) 1 false), .op (.bin 54 .eql (.t 53) (.k (.i .i64 (-1))))] (.t 54),
      .op (.mv 56 (.t 55)),
      .sc false 58 56 [.op (.call (some 57) nurserylaw16_awake [])] (.t 57),
      .op (.mv 2 (.t 58))])
    (.ret)))
    (.skip))))
  ((.seq (.reg [.op (.mv 5 (.k (.i .i64 0)))])
  ((.seq ((.seq (.reg [.op (.fa 59 (.t 1) 4 1),
    .op (.ld 60 (.t 59) 1 false),
    .op (.len 61 (.t 60) .sl),
    .op (.mv 62 (.k (.i .i64 0)))])
  (.blk 0 (.loop [1, 3, 5, 60, 61, 62] F_nurserylaw16_MutexHandover_L0))))
  ((.seq ((.seq (.drw [] [0, 1, 2, 3, 4, 5, 6, 7, 8, 9, 10, 11, 12, 13, 14, 15, 16, 17, 18, 19, 20, 21, 22, 23, 24, 25, 26, 27, 28, 29] [.op (.fad 78 (.t 3) 12 1),
    .op (.ldd 79 (.t 78) 1 false),
    .op (.len 80 (.t 79) .sl),
    .op (.bin 81 .neq (.t 80) (.k (.i .i64 1))),
    .op (.mv 82 (.t 81)),
    .sc true 95 82 [.op (.fad 83 (.t 3) 12 1), .op (.ldd 84 (.t 83) 1 false), .op (.ixs 85 (.t 84) (.k (.i .i64 0)) 5), .op (.ld 86 (.t 85) 5 true), .op (.fad 87 (.t 1) 4 1), .op (.ldd 88 (.t 87) 1 false), .op (.mv 89 (.t 5)), .op (.ixs 90 (.t 88) (.t 89) 5), .op (.fa 91 (.t 90) 0 1), .op (.ld 92 (.t 91) 1 false), .op (.build 93 [(.i .i64 0), (.i .i64 0), (.i .i64 0), (.b false), (.i .i64 0)] [(0, 1, (.t 92)), (1, 1, (.k (.i .i64 50))), (3, 1, (.k (.b true))), (4, 1, (.k (.i .i64 (-1))))]), .op (.eqv 94 true (.t 86) (.t 93) [.i, .i, .i, .b, .i])] (.t 94),
    .op (.mv 96 (.t 95)),
    .sc true 107 96 [.op (.fad 97 (.t 3) 0 9), .op (.fad 98 (.t 97) 0 1), .op (.ldd 99 (.t 98) 1 false), .op (.fad 100 (.t 1) 4 1), .op (.ldd 101 (.t 100) 1 false), .op (.mv 102 (.t 5)), .op (.ixs 103 (.t 101) (.t 102) 5), .op (.fa 104 (.t 103) 0 1), .op (.ld 105 (.t 104) 1 false), .op (.bin 106 .neq (.t 99) (.t 105))] (.t 106)])
  (.ite (.t 107)
    ((.seq (.reg [.op (.mv 2 (.k (.b false)))])
    (.ret)))
    (.skip))))
  ((.seq (.drw [] [0, 1, 2, 3, 4, 5, 6, 7, 8, 9, 10, 11, 12, 13, 14, 15, 16] [.op (.fad 108 (.t 3) 0 9),
    .op (.fad 109 (.t 108) 4 1),
    .op (.ldd 110 (.t 109) 1 false),
    .op (.fad 111 (.t 1) 4 1),
    .op (.ldd 112 (.t 111) 1 false),
    .op (.fad 113 (.t 1) 4 1),
    .op (.ldd 114 (.t 113) 1 false),
    .op (.mv 115 (.t 5)),
    .op (.ixs 116 (.t 114) (.t 115) 5),
    .op (.fa 117 (.t 116) 0 1),
    .op (.ld 118 (.t 117) 1 false),
    .op (.call (some 119) nurseryref16_Without [(.t 112), (.t 118)]),
    .op (.call (some 120) nurseryref16_SameWaiters [(.t 110), (.t 119)]),
    .op (.mv 121 (.t 120)),
    .sc false 123 121 [.op (.call (some 122) nurserylaw16_awake [])] (.t 122),
    .op (.mv 2 (.t 123))])
  (.ret)))))))))))))))))))
  [.t 2] false none

/-- nursery/nurserylaw16.MutexApply -/
def F_nurserylaw16_MutexApply : F := .mk
  ((.seq (.reg [.op (.box 3 (.t 0) 4 true),
    .op (.box 4 (.t 1) 9 true),
    .op (.box 5 (.t 2) 5 true),
    .op (.mv 6 (.k (.b false)))])
  ((.seq ((.seq (.reg [.op (.ld 11 (.t 4) 9 true),
    .op (.call (some 12) nurseryref16_Great [(.t 11)])])
  (.ite (.t 12)
    ((.seq (.reg [.op (.call (some 13) nurserylaw16_awake []),
      .op (.mv 6 (.t 13))])
    (.ret)))
    (.skip))))
  ((.seq (.reg [.op (.ld 15 (.t 3) 4 true),
    .op (.ld 16 (.t 4) 9 true),
    .op (.ld 17 (.t 5) 5 true),
    .op (.call (some 18) mutex_Apply [(.t 15), (.t 16), (.t 17)]),
    .op (.mv 14 (.t 18)),
    .op (.ext 19 (.t 14) 0),
    .op (.ext 20 (.t 14) 1),
    .op (.new 7 [(.i .i64 0), (.i .i64 0), (.i .i64 0), (.sl 1 true []), (.sl 5 true []), (.sl 1 true []), (.sl 2 true []), (.b false), (.i .i64 0), (.b false), (.i .i64 0), (.b false), (.sl 5 true [])]),
    .op (.st (.t 7) (.t 19) 13 true),
    .op (.mv 8 (.t 20))])
  ((.seq (.reg [.op (.ld 22 (.t 3) 4 true),
    .op (.ld 23 (.t 4) 9 true),
    .op (.ld 24 (.t 5) 5 true),
    .op (.call (some 25) nurseryref16_Apply [(.t 22), (.t 23), (.t 24)]),
    .op (.mv 21 (.t 25)),
    .op (.ext 26 (.t 21) 0),
    .op (.ext 27 (.t 21) 1),
    .op (.new 9 [(.i .i64 0), (.i .i64 0), (.i .i64 0), (.sl 1 true []), (.sl 5 true []), (.sl 1 true []), (.sl 2 true []), (.b false), (.i .i64 0), (.b false), (.i .i64 0), (.b false), (.sl 5 true [])]),
    .op (.st (.t 9) (.t 26) 13 true),
    .op (.mv 10 (.t 27))])
  ((.seq (.drw [] [0, 1, 2, 3, 4, 5, 6, 7, 8, 9, 10, 11, 12, 13, 14, 15, 16, 17, 18, 19, 20, 21, 22] [.op (.ldd 28 (.t 7) 13 true),
    .op (.ldd 29 (.t 9) 13 true),
    .op (.call (some 30) nurseryref16_SameReply [(.t 28), (.t 29)]),
    .op (.mv 31 (.t 30)),
    .sc false 35 31 [.op (.mv 32 (.t 8)), .op (.mv 33 (.t 10)), .op (.bin 34 .eql (.t 32) (.t 33))] (.t 34),
    .op (.mv 36 (.t 35)),
    .sc false 46 36 [.op (.ldd 37 (.t 3) 4 true), .op (.ldd 38 (.t 4) 9 true), .op (.ldd 39 (.t 5) 5 true), .op (.call (some 40) mutex_Ready [(.t 37), (.t 38), (.t 39)]), .op (.ldd 41 (.t 3) 4 true), .op (.ldd 42 (.t 4) 9 true), .op (.ldd 43 (.t 5) 5 true), .op (.call (some 44) nurseryref16_Ready [(.t 41), (.t 42), (.t 43)]), .op (.eqb 45 false (.t 40) (.t 44))] (.t 45),
    .op (.mv 47 (.t 46)),
    .sc false 49 47 [.op (.call (some 48) nurserylaw16_awake [])] (.t 48),
    .op (.mv 6 (.t 49))])
  (.ret)))))))))))
  [.t 6] false none

/-- nursery/nurserylaw16.MutexStates -/
def F_nurserylaw16_MutexStates : F := .mk
  ((.seq (.reg [.op (.box 2 (.t 0) 4 true),
    .op (.box 3 (.t 1) 9 true),
    .op (.mv 4 (.k (.b false)))])
  ((.seq ((.seq (.reg [.op (.ld 13 (.t 3) 9 true),
    .op (.call (some 14) nurseryref16_Great [(.t 13)])])
  (.ite (.t 14)
    ((.seq (.reg [.op (.call (some 15) nurserylaw16_awake []),
      .op (.mv 4 (.t 15))])
    (.ret)))
    (.skip))))
  ((.seq (.reg [.op (.ld 17 (.t 2) 4 true),
    .op (.call (some 18) mutex_New [(.t 17)]),
    .op (.mv 16 (.t 18)),
    .op (.ext 19 (.t 16) 0),
    .op (.ext 20 (.t 16) 1),
    .op (.new 5 [(.i .i64 0), (.i .i64 0), (.i .i64 0), (.sl 1 true []), (.sl 5 true []), (.sl 1 true []), (.sl 2 true []), (.b false), (.i .i64 0)]),
    .op (.st (.t 5) (.t 19) 9 true),
    .op (.mv 6 (.t 20))])
  ((.seq (.reg [.op (.ld 22 (.t 2) 4 true),
    .op (.call (some 23) nurseryref16_New [(.t 22)]),
    .op (.mv 21 (.t 23)),
    .op (.ext 24 (.t 21) 0),
    .op (.ext 25 (.t 21) 1),
    .op (.new 7 [(.i .i64 0), (.i .i64 0), (.i .i64 0), (.sl 1 true []), (.sl 5 true []), (.sl 1 true []), (.sl 2 true []), (.b false), (.i .i64 0)]),
    .op (.st (.t 7) (.t 24) 9 true),
    .op (.mv 8 (.t 25))])
  ((.seq (.reg [.op (.ld 27 (.t 3) 9 true),
    .op (.call (some 28) mutex_Holder [(.t 27)]),
    .op (.mv 26 (.t 28)),
    .op (.ext 29 (.t 26) 0),
    .op (.ext 30 (.t 26) 1),
    .op (.mv 9 (.t 29)),
    .op (.mv 10 (.t 30))])
  ((.seq (.reg [.op (.ld 32 (.t 3) 9 true),
    .op (.call (some 33) nurseryref16_Holder [(.t 32)]),
    .op (.mv 31 (.t 33)),
    .op (.ext 34 (.t 31) 0),
    .op (.ext 35 (.t 31) 1),
    .op (.mv 11 (.t 34)),
    .op (.mv 12 (.t 35))])
  ((.seq (.drw [] [0, 1, 2, 3, 4, 5, 6, 7, 8, 9, 10, 11, 12, 13, 14, 15, 16, 17, 18, 19, 20, 21, 22, 23, 24, 25, 26, 27, 28, 29, 30] [.op (.ldd 36 (.t 5) 9 true),
    .op (.ldd 37 (.t 7) 9 true),
    .op (.call (some 38) nurseryref16_Same [(.t 36), (.t 37)]),
    .op (.mv 39 (.t 38)),
    .sc false 43 39 [.op (.mv 40 (.t 6)), .op (.mv 41 (.t 8)), .op (.bin 42 .eql (.t 40) (.t 41))] (.t 42),
    .op (.mv 44 (.t 43)),
    .sc false 52 44 [.op (.ldd 45 (.t 2) 4 true), .op (.ldd 46 (.t 3) 9 true), .op (.call (some 47) mutex_Check [(.t 45), (.t 46)]), .op (.ldd 48 (.t 2) 4 true), .op (.ldd 49 (.t 3) 9 true), .op (.call (some 50) nurseryref16_Check [(.t 48), (.t 49)]), .op (.bin 51 .eql (.t 47) (.t 50))] (.t 51),
    .op (.mv 53 (.t 52)),
    .sc false 57 53 [.op (.mv 54 (.t 9)), .op (.mv 55 (.t 11)), .op (.bin 56 .eql (.t 54) (.t 55))] (.t 56),
    .op (.mv 58 (.t 57)),
    .sc false 62 58 [.op (.mv 59 (.t 10)), .op (.mv 60 (.t 12)), .op (.eqb 61 false (.t 59) (.t 60))] (.t 61),
    .op (.mv 63 (.t 62)),
    .sc false 65 63 [.op (.call (some 64) nurserylaw16_awake [])] (.t 64),
    .op (.mv 4 (.t 65))])
  (.ret)))))))))))))))
  [.t 4] false none

def F_nurserylaw16_MutexServes_L0 : C :=
  (.seq (.reg [.op (.bin 30 .lss (.t 29) (.t 28))])
  ((.seq (.ite (.t 30)
    (.skip)
    (.seq (.keep [1, 3, 4]) (.exit 0)))
  ((.seq (.blk 1 ((.seq (.reg [.op (.ixs 31 (.t 27) (.t 29) 5),
     .op (.ld 32 (.t 31) 5 true),
     .op (.new 6 [(.i .i64 0), (.i .i64 0), (.i .i64 0), (.i .i64 0), (.i .i64 0)]),
     .op (.st (.t 6) (.t 32) 5 true)])
   (.reg [.op (.mv 33 (.t 3)),
     .op (.fa 34 (.t 6) 0 1),
     .op (.ld 35 (.t 34) 1 false),
     .op (.buildSl 36 1 1 [(.i .i64 0)] [(0, (.t 35))] true),
     .op (.app 37 (.t 33) (.t 36) 1),
     .op (.mv 3 (.t 37))]))))
  (.reg [.op (.bin 38 .add (.t 29) (.k (.i .i64 1))),
    .op (.mv 29 (.t 38))]))))))

def F_nurserylaw16_MutexServes_L1 : C :=
  (.seq (.reg [.op (.bin 66 .lss (.t 65) (.t 64))])
  ((.seq (.ite (.t 66)
    (.skip)
    (.seq (.keep [1, 3, 4, 7, 9, 41, 42]) (.exit 4)))
  ((.seq (.blk 5 ((.seq (.reg [.op (.ixs 67 (.t 63) (.t 65) 5),
     .op (.ld 68 (.t 67) 5 true),
     .op (.new 12 [(.i .i64 0), (.i .i64 0), (.i .i64 0), (.i .i64 0), (.i .i64 0)]),
     .op (.st (.t 12) (.t 68) 5 true)])
   ((.seq (.drw [] [0, 1, 2, 3, 4, 5, 6, 7] [.op (.fad 69 (.t 12) 0 1),
     .op (.ldd 70 (.t 69) 1 false),
     .op (.fad 71 (.t 9) 12 1),
     .op (.ldd 72 (.t 71) 1 false),
     .op (.ixs 73 (.t 72) (.k (.i .i64 0)) 5),
     .op (.fa 74 (.t 73) 0 1),
     .op (.ld 75 (.t 74) 1 false),
     .op (.bin 76 .eql (.t 70) (.t 75))])
   (.ite (.t 76)
     ((.seq ((.seq (.reg [.op (.fa 77 (.t 12) 3 1),
       .op (.ld 78 (.t 77) 1 false),
       .op (.mv 79 (.t 7)),
       .op (.bin 80 .gtr (.t 78) (.t 79))])
     (.ite (.t 80)
       ((.seq (.reg [.op (.mv 2 (.k (.b false)))])
       (.seq (.keep [2]) .ret)))
       (.skip))))
     (.reg [.op (.fa 81 (.t 12) 3 1),
       .op (.ld 82 (.t 81) 1 false),
       .op (.mv 7 (.t 82))])))
     (.skip)))))))
  (.reg [.op (.bin 83 .add (.t 65) (.k (.i .i64 1))),
    .op (.mv 65 (.t 83))]))))))

def F_nurserylaw16_MutexServes_L2 : C :=
  (.seq (.reg [.op (.bin 43 .lss (.t 42) (.t 41))])
  ((.seq (.ite (.t 43)
    (.skip)
    (.seq (.keep [1, 3, 4]) (.exit 2)))
  ((.seq (.blk 3 ((.seq (.reg [.op (.fa 44 (.t 1) 4 1),
     .op (.ld 45 (.t 44) 1 false),
     .op (.mv 8 (.t 45))])
   ((.seq (.seq (.drw [] [0, 1, 2, 3, 4, 5, 6, 7, 8, 9, 10, 11] [.op (.call (some 47) nurserylaw16_object []),
     .op (.ld 48 (.t 1) 9 true),
     .op (.fa 49 (.t 1) 0 1),
     .op (.ld 50 (.t 49) 1 false),
     .op (.build 51 [(.i .i64 0), (.i .i64 0), (.i .i64 0), (.i .i64 0), (.i .i64 0)] [(0, 1, (.t 50)), (1, 1, (.k (.i .i64 52)))]),
     .op (.call (some 52) mutex_Apply [(.t 47), (.t 48), (.t 51)]),
     .op (.mv 46 (.t 52)),
     .op (.ext 53 (.t 46) 0),
     .op (.ext 54 (.t 46) 1),
     .op (.new 9 [(.i .i64 0), (.i .i64 0), (.i .i64 0), (.sl 1 true []), (.sl 5 true []), (.sl 1 true []), (.sl 2 true []), (.b false), (.i .i64 0), (.b false), (.i .i64 0), (.b false), (.sl 5 true [])]),
     .re (.ld 48 (.t 1) 9 true),
     .re (.fa 49 (.t 1) 0 1),
     .re (.ld 50 (.t 49) 1 false),
     .op (.st (.t 9) (.t 53) 13 false),
     .op (.mv 10 (.t 54))])
   (.frz [9]))
   ((.seq ((.seq (.reg [.op (.mv 55 (.t 10)),
     .op (.bin 56 .neq (.t 55) (.k (.i .i64 0))),
     .op (.mv 57 (.t 56)),
     .sc true 62 57 [.op (.fa 58 (.t 9) 12 1), .op (.ld 59 (.t 58) 1 false), .op (.len 60 (.t 59) .sl), .op (.bin 61 .neq (.t 60) (.k (.i .i64 1)))] (.t 61)])
   (.ite (.t 62)
     ((.seq (.reg [.op (.mv 2 (.k (.b false)))])
     (.seq (.keep [2]) .ret)))
     (.skip))))
   ((.seq ((.seq (.reg [.op (.mv 63 (.t 8)),
     .op (.len 64 (.t 63) .sl),
     .op (.mv 65 (.k (.i .i64 0)))])
   (.blk 4 (.loop [1, 3, 4, 7, 9, 41, 42, 63, 64, 65] F_nurserylaw16_MutexServes_L1))))
   ((.seq (.reg [.op (.mv 84 (.t 4)),
     .op (.fa 85 (.t 9) 12 1),
     .op (.ld 86 (.t 85) 1 false),
     .op (.ixs 87 (.t 86) (.k (.i .i64 0)) 5),
     .op (.fa 88 (.t 87) 0 1),
     .op (.ld 89 (.t 88) 1 false),
     .op (.buildSl 90 1 1 [(.i .i64 0)] [(0, (.t 89))] true),
     .op (.app 91 (.t 84) (.t 90) 1),
     .op (.mv 4 (.t 91))])
   (.reg [.op (.fa 92 (.t 9) 0 9),
     .op (.ld 93 (.t 92) 9 true),
     .op (.st (.t 1) (.t 93) 9 false)]))))))))))))
  (.reg [.op (.bin 94 .add (.t 42) (.k (.i .i64 1))),
    .op (.mv 42 (.t 94))]))))))

/-- nursery/nurserylaw16.MutexServes -/
def F_nurserylaw16_MutexServes : F := .mk
  ((.seq (.reg [.op (.box 1 (.t 0) 9 false),
    .op (.mv 2 (.k (.b false)))])
  ((.seq ((.seq (.drw [] [0, 1, 2, 3, 4, 5, 6, 7] [.op (.ld 17 (.t 1) 9 true),
    .op (.call (some 18) nurseryref16_Great [(.t 17)]),
    .op (.mv 19 (.t 18)),
    .sc true 24 19 [.op (.call (some 20) nurserylaw16_object []), .op (.ld 21 (.t 1) 9 true), .op (.call (some 22) mutex_Check [(.t 20), (.t 21)]), .op (.bin 23 .neq (.t 22) (.k (.i .i64 0)))] (.t 23)])
  (.ite (.t 24)
    ((.seq (.reg [.op (.call (some 25) nurserylaw16_awake []),
      .op (.mv 2 (.t 25))])
    (.ret)))
    (.skip))))
  ((.seq (.reg [.op (.mv 3 (.k (.sl 1 true []))),
    .op (.mv 4 (.k (.sl 1 true [])))])
  ((.seq ((.seq (.reg [.op (.fa 26 (.t 1) 4 1),
    .op (.ld 27 (.t 26) 1 false),
    .op (.len 28 (.t 27) .sl),
    .op (.mv 29 (.k (.i .i64 0)))])
  (.blk 0 (.loop [1, 3, 4, 27, 28, 29] F_nurserylaw16_MutexServes_L0))))
  ((.seq (.reg [.op (.mv 7 (.k (.i .i64 9)))])
  ((.seq ((.seq (.reg [.op (.fa 39 (.t 1) 4 1),
    .op (.ld 40 (.t 39) 1 false),
    .op (.len 41 (.t 40) .sl),
    .op (.mv 42 (.k (.i .i64 0)))])
  (.blk 2 (.loop [1, 3, 4, 7, 41, 42] F_nurserylaw16_MutexServes_L2))))
  ((.seq ((.seq (.reg [.op (.fa 95 (.t 1) 0 1),
    .op (.ld 96 (.t 95) 1 false),
    .op (.bin 97 .neq (.t 96) (.k (.i .i64 (-1))))])
  (.ite (.t 97)
    ((.seq (.seq (.drw [] [0, 1, 2, 3, 4, 5, 6, 7, 8, 9, 10, 11] [.op (.call (some 99) nurserylaw16_object []),
      .op (.ld 100 (.t 1) 9 true),
      .op (.fa 101 (.t 1) 0 1),
      .op (.ld 102 (.t 101) 1 false),
      .op (.build 103 [(.i .i64 0), (.i .i64 0), (.i .i64 0), (.i .i64 0), (.i .i64 0)] [(0, 1, (.t 102)), (1, 1, (.k (.i .i64 52)))]),
      .op (.call (some 104) mutex_Apply [(.t 99), (.t 100), (.t 103)]),
      .op (.mv 98 (.t 104)),
      .op (.ext 105 (.t 98) 0),
      .op (.ext 106 (.t 98) 1),
      .op (.new 13 [(.i .i64 0), (.i .i64 0), (.i .i64 0), (.sl 1 true []), (.sl 5 true []), (.sl 1 true []), (.sl 2 true []), (.b false), (.i .i64 0), (.b false), (.i .i64 0), (.b false), (.sl 5 true [])]),
      .re (.ld 100 (.t 1) 9 true),
      .re (.fa 101 (.t 1) 0 1),
      .re (.ld 102 (.t 101) 1 false),
      .op (.st (.t 13) (.t 105) 13 false),
      .op (.mv 14 (.t 106))])
    (.frz [13]))
    ((.seq ((.seq (.reg [.op (.mv 107 (.t 14)),
      .op (.bin 108 .neq (.t 107) (.k (.i .i64 0))),
      .op (.mv 109 (.t 108)),
      .sc true 114 109 [.op (.fa 110 (.t 13) 12 1), .op (.ld 111 (.t 110) 1 false), .op (.len 112 (.t 111) .sl), .op (.bin 113 .neq (.t 112) (.k (.i .i64 0)))] (.t 113)])
    (.ite (.t 114)
      ((.seq (.reg [.op (.mv 2 (.k (.b false)))])
      (.ret)))
      (.skip))))
    (.reg [.op (.fa 115 (.t 13) 0 9),
      .op (.ld 116 (.t 115) 9 true),
      .op (.st (.t 1) (.t 116) 9 false)])))))
    (.skip))))
  ((.seq (.reg [.op (.ld 118 (.t 1) 9 true),
    .op (.call (some 119) mutex_Holder [(.t 118)]),
    .op (.mv 117 (.t 119)),
    .op (.ext 120 (.t 117) 0),
    .op (.ext 121 (.t 117) 1),
    .op (.mv 15 (.t 120)),
    .op (.mv 16 (.t 121))])
  ((.seq (.seq (.frz [3, 4])
  (.reg [.op (.mv 122 (.t 4)),
    .op (.mv 123 (.t 3)),
    .op (.call (some 124) nurseryref04_SameInts [(.t 122), (.t 123)]),
    .op (.mv 125 (.t 124)),
    .sc false 128 125 [.op (.mv 126 (.t 16)), .op (.un 127 .not (.t 126))] (.t 127),
    .op (.mv 129 (.t 128)),
    .sc false 134 129 [.op (.fa 130 (.t 1) 4 1), .op (.ld 131 (.t 130) 1 false), .op (.len 132 (.t 131) .sl), .op (.bin 133 .eql (.t 132) (.k (.i .i64 0)))] (.t 133),
    .op (.mv 135 (.t 134)),
    .sc false 137 135 [.op (.call (some 136) nurserylaw16_awake [])] (.t 136),
    .op (.mv 2 (.t 137))]))
  (.ret)))))))))))))))))))
  [.t 2] false none

/-- nursery/nurserylaw16.MutexWithdraw -/
def F_nurserylaw16_MutexWithdraw : F := .mk
  ((.seq (.reg [.op (.box 3 (.t 0) 4 true),
    .op (.box 4 (.t 1) 9 true),
    .op (.mv 6 (.k (.b false)))])
  ((.seq ((.seq (.reg [.op (.ld 11 (.t 4) 9 true),
    .op (.call (some 12) nurseryref16_Great [(.t 11)])])
  (.ite (.t 12)
    ((.seq (.reg [.op (.call (some 13) nurserylaw16_awake []),
      .op (.mv 6 (.t 13))])
    (.ret)))
    (.skip))))
  ((.seq (.reg [.op (.ld 15 (.t 3) 4 true),
    .op (.ld 16 (.t 4) 9 true),
    .op (.mv 17 (.t 2)),
    .op (.call (some 18) mutex_Withdraw [(.t 15), (.t 16), (.t 17)]),
    .op (.mv 14 (.t 18)),
    .op (.ext 19 (.t 14) 0),
    .op (.ext 20 (.t 14) 1),
    .op (.new 7 [(.i .i64 0), (.i .i64 0), (.i .i64 0), (.sl 1 true []), (.sl 5 true []), (.sl 1 true []), (.sl 2 true []), (.b false), (.i .i64 0), (.b false), (.i .i64 0), (.b false), (.sl 5 true [])]),
    .op (.st (.t 7) (.t 19) 13 true),
    .op (.mv 8 (.t 20))])
  ((.seq (.reg [.op (.ld 22 (.t 3) 4 true),
    .op (.ld 23 (.t 4) 9 true),
    .op (.mv 24 (.t 2)),
    .op (.call (some 25) nurseryref16_Withdraw [(.t 22), (.t 23), (.t 24)]),
    .op (.mv 21 (.t 25)),
    .op (.ext 26 (.t 21) 0),
    .op (.ext 27 (.t 21) 1),
    .op (.new 9 [(.i .i64 0), (.i .i64 0), (.i .i64 0), (.sl 1 true []), (.sl 5 true []), (.sl 1 true []), (.sl 2 true []), (.b false), (.i .i64 0), (.b false), (.i .i64 0), (.b false), (.sl 5 true [])]),
    .op (.st (.t 9) (.t 26) 13 true),
    .op (.mv 10 (.t 27))])
  ((.seq (.reg [.op (.ld 28 (.t 7) 13 true),
    .op (.ld 29 (.t 9) 13 true),
    .op (.call (some 30) nurseryref16_SameReply [(.t 28), (.t 29)]),
    .op (.mv 31 (.t 30)),
    .sc false 35 31 [.op (.mv 32 (.t 8)), .op (.mv 33 (.t 10)), .op (.bin 34 .eql (.t 32) (.t 33))] (.t 34),
    .op (.mv 36 (.t 35)),
    .sc false 38 36 [.op (.call (some 37) nurserylaw16_awake [])] (.t 37),
    .op (.mv 6 (.t 38))])
  (.ret)))))))))))
  [.t 6] false none

/-- nursery/nurserylaw16.MutexValid -/
def F_nurserylaw16_MutexValid : F := .mk
  ((.seq (.reg [.op (.box 3 (.t 0) 9 true),
    .op (.box 4 (.t 1) 5 true),
    .op (.mv 6 (.k (.b false)))])
  ((.seq ((.seq (.reg [.op (.ld 14 (.t 3) 9 true),
    .op (.call (some 15) nurseryref16_Great [(.t 14)])])
  (.ite (.t 15)
    ((.seq (.reg [.op (.call (some 16) nurserylaw16_awake []),
      .op (.mv 6 (.t 16))])
    (.ret)))
    (.skip))))
  ((.seq (.reg [.op (.call (some 18) nurserylaw16_object []),
    .op (.call (some 19) mutex_New [(.t 18)]),
    .op (.mv 17 (.t 19)),
    .op (.ext 20 (.t 17) 0),
    .op (.ext 21 (.t 17) 1),
    .op (.new 7 [(.i .i64 0), (.i .i64 0), (.i .i64 0), (.sl 1 true []), (.sl 5 true []), (.sl 1 true []), (.sl 2 true []), (.b false), (.i .i64 0)]),
    .op (.st (.t 7) (.t 20) 9 true),
    .op (.mv 8 (.t 21))])
  ((.seq (.seq (.drw [] [0, 1, 2, 3, 4, 5, 6, 7, 8, 9] [.op (.call (some 23) nurserylaw16_object []),
    .op (.ldd 24 (.t 3) 9 true),
    .op (.ldd 25 (.t 4) 5 true),
    .op (.call (some 26) mutex_Apply [(.t 23), (.t 24), (.t 25)]),
    .op (.mv 22 (.t 26)),
    .op (.ext 27 (.t 22) 0),
    .op (.ext 28 (.t 22) 1),
    .op (.new 9 [(.i .i64 0), (.i .i64 0), (.i .i64 0), (.sl 1 true []), (.sl 5 true []), (.sl 1 true []), (.sl 2 true []), (.b false), (.i .i64 0), (.b false), (.i .i64 0), (.b false), (.sl 5 true [])]),
    .op (.st (.t 9) (.t 27) 13 false),
    .op (.mv 10 (.t 28))])
  (.frz [9]))
  ((.seq (.seq (.drw [] [0, 1, 2, 3, 4, 5, 6, 7, 8, 9] [.op (.call (some 30) nurserylaw16_object []),
    .op (.ldd 31 (.t 3) 9 true),
    .op (.mv 32 (.t 2)),
    .op (.call (some 33) mutex_Withdraw [(.t 30), (.t 31), (.t 32)]),
    .op (.mv 29 (.t 33)),
    .op (.ext 34 (.t 29) 0),
    .op (.ext 35 (.t 29) 1),
    .op (.new 11 [(.i .i64 0), (.i .i64 0), (.i .i64 0), (.sl 1 true []), (.sl 5 true []), (.sl 1 true []), (.sl 2 true []), (.b false), (.i .i64 0), (.b false), (.i .i64 0), (.b false), (.sl 5 true [])]),
    .op (.st (.t 11) (.t 34) 13 false),
    .op (.mv 12 (.t 35))])
  (.frz [11]))
  ((.seq (.drw [] [0, 1, 2, 3, 4] [.op (.call (some 36) nurserylaw16_object []),
    .op (.ldd 37 (.t 3) 9 true),
    .op (.call (some 38) mutex_Check [(.t 36), (.t 37)]),
    .op (.bin 39 .eql (.t 38) (.k (.i .i64 0))),
    .op (.mv 13 (.t 39))])
  ((.seq ((.seq (.drw [] [0, 1, 2, 3, 4, 5, 6, 7, 8, 9, 10, 11, 12, 13, 14, 15, 16, 17, 18, 19, 20, 21, 22, 23] [.op (.mv 40 (.t 8)),
    .op (.bin 41 .neq (.t 40) (.k (.i .i64 0))),
    .op (.mv 42 (.t 41)),
    .sc true 47 42 [.op (.call (some 43) nurserylaw16_object []), .op (.ldd 44 (.t 7) 9 true), .op (.call (some 45) mutex_Check [(.t 43), (.t 44)]), .op (.bin 46 .neq (.t 45) (.k (.i .i64 0)))] (.t 46),
    .op (.mv 48 (.t 47)),
    .sc true 55 48 [.op (.mv 49 (.t 10)), .op (.bin 50 .eql (.t 49) (.k (.i .i64 0))), .op (.mv 51 (.t 50)), .sc false 54 51 [.op (.mv 52 (.t 13)), .op (.un 53 .not (.t 52))] (.t 53)] (.t 54),
    .op (.mv 56 (.t 55)),
    .sc true 63 56 [.op (.mv 57 (.t 12)), .op (.bin 58 .eql (.t 57) (.k (.i .i64 0))), .op (.mv 59 (.t 58)), .sc false 62 59 [.op (.mv 60 (.t 13)), .op (.un 61 .not (.t 60))] (.t 61)] (.t 62)])
  (.ite (.t 63)
    ((.seq (.reg [.op (.mv 6 (.k (.b false)))])
    (.ret)))
    (.skip))))
  ((.seq ((.seq (.drw [] [0, 1, 2, 3, 4, 5, 6, 7, 8, 9, 10, 11, 12, 13, 14, 15, 16, 17, 18, 19] [.op (.mv 64 (.t 10)),
    .op (.bin 65 .eql (.t 64) (.k (.i .i64 0))),
    .op (.mv 66 (.t 65)),
    .sc false 72 66 [.op (.call (some 67) nurserylaw16_object []), .op (.fad 68 (.t 9) 0 9), .op (.ldd 69 (.t 68) 9 true), .op (.call (some 70) mutex_Check [(.t 67), (.t 69)]), .op (.bin 71 .neq (.t 70) (.k (.i .i64 0)))] (.t 71),
    .op (.mv 73 (.t 72)),
    .sc true 83 73 [.op (.mv 74 (.t 12)), .op (.bin 75 .eql (.t 74) (.k (.i .i64 0))), .op (.mv 76 (.t 75)), .sc false 82 76 [.op (.call (some 77) nurserylaw16_object []), .op (.fad 78 (.t 11) 0 9), .op (.ldd 79 (.t 78) 9 true), .op (.call (some 80) mutex_Check [(.t 77), (.t 79)]), .op (.bin 81 .neq (.t 80) (.k (.i .i64 0)))] (.t 81)] (.t 82)])
  (.ite (.t 83)
    ((.seq (.reg [.op (.mv 6 (.k (.b false)))])
    (.ret)))
    (.skip))))
  ((.seq (.drw [] [0, 1, 2, 3, 4, 5, 6, 7, 8, 9, 10, 11, 12, 13, 14, 15] [.op (.call (some 84) nurserylaw16_object []),
    .op (.ldd 85 (.t 3) 9 true),
    .op (.ldd 86 (.t 4) 5 true),
    .op (.call (some 87) mutex_Ready [(.t 84), (.t 85), (.t 86)]),
    .op (.mv 88 (.t 10)),
    .op (.bin 89 .eql (.t 88) (.k (.i .i64 0))),
    .op (.mv 90 (.t 89)),
    .sc false 94 90 [.op (.fad 91 (.t 9) 9 1), .op (.ldd 92 (.t 91) 1 false), .op (.un 93 .not (.t 92))] (.t 93),
    .op (.eqb 95 false (.t 87) (.t 94)),
    .op (.mv 96 (.t 95)),
    .sc false 98 96 [.op (.call (some 97) nurserylaw16_awake [])] (.t 97),
    .op (.mv 6 (.t 98))])
  (.ret)))))))))))))))))))
  [.t 6] false none

/-- nursery/mutex.New -/
def F_mutex_New : F := .mk
  ((.seq (.reg [.op (.box 1 (.t 0) 4 true),
    .op (.new 2 [(.i .i64 0), (.i .i64 0), (.i .i64 0), (.sl 1 true []), (.sl 5 true []), (.sl 1 true []), (.sl 2 true []), (.b false), (.i .i64 0)]),
    .op (.mv 3 (.k (.i .i64 0)))])
  ((.seq (.blk 0 ((.seq (.reg [.op (.fa 5 (.t 1) 1 1),
     .op (.ld 6 (.t 5) 1 false),
     .op (.bin 7 .neq (.t 6) (.k (.i .i64 1))),
     .op (.mv 4 (.t 7))])
   (.ite (.t 4)
     ((.seq (.reg [.op (.build 8 [(.i .i64 0), (.i .i64 0), (.i .i64 0), (.sl 1 true []), (.sl 5 true []), (.sl 1 true []), (.sl 2 true []), (.b false), (.i .i64 0)] []),
       .op (.st (.t 2) (.t 8) 9 false),
       .op (.mv 3 (.k (.i .i64 8)))])
     (.ret)))
     ((.seq (.reg [.op (.fa 10 (.t 1) 2 1),
       .op (.ld 11 (.t 10) 1 false),
       .op (.bin 12 .neq (.t 11) (.k (.i .i64 0))),
       .op (.mv 13 (.t 12)),
       .sc true 17 13 [.op (.fa 14 (.t 1) 3 1), .op (.ld 15 (.t 14) 1 false), .op (.bin 16 .neq (.t 15) (.k (.i .i64 0)))] (.t 16),
       .op (.mv 9 (.t 17))])
     (.ite (.t 9)
       ((.seq (.reg [.op (.build 18 [(.i .i64 0), (.i .i64 0), (.i .i64 0), (.sl 1 true []), (.sl 5 true []), (.sl 1 true []), (.sl 2 true []), (.b false), (.i .i64 0)] []),
         .op (.st (.t 2) (.t 18) 9 false),
         .op (.mv 3 (.k (.i .i64 2)))])
       (.ret)))
       (.skip))))))))
  ((.seq (.reg [.op (.build 19 [(.i .i64 0), (.i .i64 0), (.i .i64 0), (.sl 1 true []), (.sl 5 true []), (.sl 1 true []), (.sl 2 true []), (.b false), (.i .i64 0)] [(0, 1, (.k (.i .i64 (-1))))]),
    .op (.st (.t 2) (.t 19) 9 false),
    .op (.mv 3 (.k (.i .i64 0)))])
  (.ret)))))))
  [.c 2 9 true, .t 3] false none

/-- nursery/nurserylaw16.object -/
def F_nurserylaw16_object : F := .mk
  ((.seq (.reg [.op (.new 0 [(.s []), (.i .i64 0), (.i .i64 0), (.i .i64 0)])])
  ((.seq (.reg [.op (.build 1 [(.s []), (.i .i64 0), (.i .i64 0), (.i .i64 0)] [(0, 1, (.k (.s [109]))), (1, 1, (.k (.i .i64 1)))]),
    .op (.st (.t 0) (.t 1) 4 false)])
  (.ret)))))
  [.c 0 4 true] false none

def F_nurserylaw16_awake_L0 : C :=
  (.seq (.reg [.op (.bin 20 .lss (.t 19) (.t 18))])
  ((.seq (.ite (.t 20)
    (.skip)
    (.seq (.keep [1, 3]) (.exit 0)))
  ((.seq (.blk 1 ((.seq (.reg [.op (.mv 21 (.t 19)),
     .op (.ixs 22 (.t 17) (.t 19) 1),
     .op (.ld 23 (.t 22) 1 false),
     .op (.mv 4 (.t 21)),
     .op (.mv 5 (.t 23))])
   ((.seq (.seq (.drw [] [0, 1, 2, 3, 4, 5, 6, 7, 8, 9, 10, 11] [.op (.call (some 25) nurserylaw16_object []),
     .op (.ld 26 (.t 1) 9 true),
     .op (.mv 27 (.t 4)),
     .op (.mv 28 (.t 5)),
     .op (.call (some 29) nurserylaw16_lock [(.t 27), (.t 28)]),
     .op (.call (some 30) mutex_Apply [(.t 25), (.t 26), (.t 29)]),
     .op (.mv 24 (.t 30)),
     .op (.ext 31 (.t 24) 0),
     .op (.ext 32 (.t 24) 1),
     .op (.new 6 [(.i .i64 0), (.i .i64 0), (.i .i64 0), (.sl 1 true []), (.sl 5 true []), (.sl 1 true []), (.sl 2 true []), (.b false), (.i .i64 0), (.b false), (.i .i64 0), (.b false), (.sl 5 true [])]),
     .re (.ld 26 (.t 1) 9 true),
     .op (.st (.t 6) (.t 31) 13 false),
     .op (.mv 7 (.t 32))])
   (.frz [6]))
   (.drw [] [0, 1, 2, 3, 4, 5, 6, 7, 8, 9, 10, 11, 12, 13, 14, 15] [.op (.fad 33 (.t 6) 0 9),
     .op (.ldd 34 (.t 33) 9 true),
     .op (.mv 35 (.t 3)),
     .op (.mv 36 (.t 35)),
     .sc false 39 36 [.op (.mv 37 (.t 7)), .op (.bin 38 .eql (.t 37) (.k (.i .i64 0)))] (.t 38),
     .op (.mv 40 (.t 39)),
     .sc false 46 40 [.op (.fad 41 (.t 6) 9 1), .op (.ldd 42 (.t 41) 1 false), .op (.mv 43 (.t 4)), .op (.bin 44 .gtr (.t 43) (.k (.i .i64 0))), .op (.eqb 45 false (.t 42) (.t 44))] (.t 45),
     .op (.st (.t 1) (.t 34) 9 false),
     .op (.mv 3 (.t 46))]))))))
  (.reg [.op (.bin 47 .add (.t 19) (.k (.i .i64 1))),
    .op (.mv 19 (.t 47))]))))))

/-- nursery/nurserylaw16.awake -/
def F_nurserylaw16_awake : F := .mk
  ((.seq (.reg [.op (.mv 0 (.k (.b false)))])
  ((.seq (.reg [.op (.call (some 11) nurserylaw16_object []),
    .op (.call (some 12) mutex_New [(.t 11)]),
    .op (.mv 10 (.t 12)),
    .op (.ext 13 (.t 10) 0),
    .op (.ext 14 (.t 10) 1),
    .op (.new 1 [(.i .i64 0), (.i .i64 0), (.i .i64 0), (.sl 1 true []), (.sl 5 true []), (.sl 1 true []), (.sl 2 true []), (.b false), (.i .i64 0)]),
    .op (.st (.t 1) (.t 13) 9 false),
    .op (.mv 2 (.t 14))])
  ((.seq (.reg [.op (.mv 15 (.t 2)),
    .op (.bin 16 .eql (.t 15) (.k (.i .i64 0))),
    .op (.mv 3 (.t 16))])
  ((.seq ((.seq (.reg [.op (.buildSl 17 1 4 [(.i .i64 0)] [(0, (.k (.i .i64 0))), (1, (.k (.i .i64 0))), (2, (.k (.i .i64 5))), (3, (.k (.i .i64 5)))] true),
    .op (.len 18 (.t 17) .sl),
    .op (.mv 19 (.k (.i .i64 0)))])
  (.blk 0 (.loop [1, 3, 17, 18, 19] F_nurserylaw16_awake_L0))))
  ((.seq (.seq (.drw [] [0, 1, 2, 3, 4, 5, 6, 7, 8, 9] [.op (.call (some 49) nurserylaw16_object []),
    .op (.ld 50 (.t 1) 9 true),
    .op (.build 51 [(.i .i64 0), (.i .i64 0), (.i .i64 0), (.i .i64 0), (.i .i64 0)] [(0, 1, (.k (.i .i64 0))), (1, 1, (.k (.i .i64 52)))]),
    .op (.call (some 52) mutex_Apply [(.t 49), (.t 50), (.t 51)]),
    .op (.mv 48 (.t 52)),
    .op (.ext 53 (.t 48) 0),
    .op (.ext 54 (.t 48) 1),
    .op (.new 8 [(.i .i64 0), (.i .i64 0), (.i .i64 0), (.sl 1 true []), (.sl 5 true []), (.sl 1 true []), (.sl 2 true []), (.b false), (.i .i64 0), (.b false), (.i .i64 0), (.b false), (.sl 5 true [])]),
    .re (.ld 50 (.t 1) 9 true),
    .op (.st (.t 8) (.t 53) 13 false),
    .op (.mv 9 (.t 54))])
  (.frz [8]))
  ((.seq (.reg [.op (.mv 55 (.t 3)),
    .op (.mv 56 (.t 55)),
    .sc false 59 56 [.op (.mv 57 (.t 9)), .op (.bin 58 .eql (.t 57) (.k (.i .i64 0)))] (.t 58),
    .op (.mv 60 (.t 59)),
    .sc false 65 60 [.op (.fa 61 (.t 1) 4 1), .op (.ld 62 (.t 61) 1 false), .op (.len 63 (.t 62) .sl), .op (.bin 64 .eql (.t 63) (.k (.i .i64 3)))] (.t 64),
    .op (.mv 66 (.t 65)),
    .sc false 73 66 [.op (.fa 67 (.t 1) 4 1), .op (.ld 68 (.t 67) 1 false), .op (.ixs 69 (.t 68) (.k (.i .i64 0)) 5), .op (.fa 70 (.t 69) 0 1), .op (.ld 71 (.t 70) 1 false), .op (.bin 72 .eql (.t 71) (.k (.i .i64 2)))] (.t 72),
    .op (.mv 74 (.t 73)),
    .sc false 81 74 [.op (.fa 75 (.t 1) 4 1), .op (.ld 76 (.t 75) 1 false), .op (.ixs 77 (.t 76) (.k (.i .i64 1)) 5), .op (.fa 78 (.t 77) 0 1), .op (.ld 79 (.t 78) 1 false), .op (.bin 80 .eql (.t 79) (.k (.i .i64 3)))] (.t 80),
    .op (.mv 82 (.t 81)),
    .sc false 89 82 [.op (.fa 83 (.t 1) 4 1), .op (.ld 84 (.t 83) 1 false), .op (.ixs 85 (.t 84) (.k (.i .i64 2)) 5), .op (.fa 86 (.t 85) 0 1), .op (.ld 87 (.t 86) 1 false), .op (.bin 88 .eql (.t 87) (.k (.i .i64 1)))] (.t 88),
    .op (.mv 90 (.t 89)),
    .sc false 95 90 [.op (.fa 91 (.t 8) 12 1), .op (.ld 92 (.t 91) 1 false), .op (.len 93 (.t 92) .sl), .op (.bin 94 .eql (.t 93) (.k (.i .i64 1)))] (.t 94),
    .op (.mv 96 (.t 95)),
    .sc false 103 96 [.op (.fa 97 (.t 8) 12 1), .op (.ld 98 (.t 97) 1 false), .op (.ixs 99 (.t 98) (.k (.i .i64 0)) 5), .op (.ld 100 (.t 99) 5 true), .op (.build 101 [(.i .i64 0), (.i .i64 0), (.i .i64 0), (.b false), (.i .i64 0)] [(0, 1, (.k (.i .i64 2))), (1, 1, (.k (.i .i64 50))), (3, 1, (.k (.b true))), (4, 1, (.k (.i .i64 (-1))))]), .op (.eqv 102 false (.t 100) (.t 101) [.i, .i, .i, .b, .i])] (.t 102),
    .op (.mv 104 (.t 103)),
    .sc false 109 104 [.op (.fa 105 (.t 8) 0 9), .op (.fa 106 (.t 105) 0 1), .op (.ld 107 (.t 106) 1 false), .op (.bin 108 .eql (.t 107) (.k (.i .i64 2)))] (.t 108),
    .op (.mv 0 (.t 109))])
  (.ret)))))))))))))
  [.t 0] false none

/-- nursery/mutex.Apply -/
def F_mutex_Apply : F := .mk
  ((.seq (.reg [.op (.box 3 (.t 0) 4 true),
    .op (.box 4 (.t 1) 9 true),
    .op (.box 5 (.t 2) 5 true),
    .op (.new 6 [(.i .i64 0), (.i .i64 0), (.i .i64 0), (.sl 1 true []), (.sl 5 true []), (.sl 1 true []), (.sl 2 true []), (.b false), (.i .i64 0), (.b false), (.i .i64 0), (.b false), (.sl 5 true [])]),
    .op (.mv 7 (.k (.i .i64 0)))])
  ((.seq ((.seq (.reg [.op (.ld 11 (.t 3) 4 true),
    .op (.ld 12 (.t 4) 9 true),
    .op (.call (some 13) mutex_Check [(.t 11), (.t 12)]),
    .op (.mv 8 (.t 13))])
  ((.seq (.reg [.op (.mv 14 (.t 8)),
    .op (.bin 15 .neq (.t 14) (.k (.i .i64 0)))])
  (.ite (.t 15)
    ((.seq (.reg [.op (.build 16 [(.i .i64 0), (.i .i64 0), (.i .i64 0), (.sl 1 true []), (.sl 5 true []), (.sl 1 true []), (.sl 2 true []), (.b false), (.i .i64 0), (.b false), (.i .i64 0), (.b false), (.sl 5 true [])] []),
      .op (.mv 17 (.t 8)),
      .op (.st (.t 6) (.t 16) 13 false),
      .op (.mv 7 (.t 17))])
    (.ret)))
    (.skip))))))
  ((.seq (.drw [] [1, 2, 0, 3, 4, 5, 6, 7, 8] [.op (.fad 20 (.t 5) 1 1),
    .op (.ldd 21 (.t 20) 1 false),
    .op (.callk (some 19) mutex_operations []),
    .op (.mget 22 (.t 19) (.t 21) .nilfn true [.i]),
    .op (.mv 18 (.t 22)),
    .op (.ext 23 (.t 18) 0),
    .op (.ext 24 (.t 18) 1),
    .op (.mv 9 (.t 23)),
    .op (.mv 10 (.t 24))])
  ((.seq (.blk 0 ((.seq (.reg [.op (.mv 26 (.t 10)),
     .op (.un 27 .not (.t 26)),
     .op (.mv 25 (.t 27))])
   (.ite (.t 25)
     ((.seq (.reg [.op (.build 28 [(.i .i64 0), (.i .i64 0), (.i .i64 0), (.sl 1 true []), (.sl 5 true []), (.sl 1 true []), (.sl 2 true []), (.b false), (.i .i64 0), (.b false), (.i .i64 0), (.b false), (.sl 5 true [])] []),
       .op (.st (.t 6) (.t 28) 13 false),
       .op (.mv 7 (.k (.i .i64 8)))])
     (.ret)))
     ((.seq (.reg [.op (.fa 30 (.t 5) 0 1),
       .op (.ld 31 (.t 30) 1 false),
       .op (.call (some 32) mutex_isTask [(.t 31)]),
       .op (.un 33 .not (.t 32)),
       .op (.mv 34 (.t 33)),
       .sc true 38 34 [.op (.fa 35 (.t 5) 3 1), .op (.ld 36 (.t 35) 1 false), .op (.bin 37 .lss (.t 36) (.k (.i .i64 0)))] (.t 37),
       .op (.mv 39 (.t 38)),
       .sc true 43 39 [.op (.fa 40 (.t 5) 3 1), .op (.ld 41 (.t 40) 1 false), .op (.bin 42 .gtr (.t 41) (.k (.i .i64 9)))] (.t 42),
       .op (.mv 29 (.t 43))])
     (.ite (.t 29)
       ((.seq (.reg [.op (.build 44 [(.i .i64 0), (.i .i64 0), (.i .i64 0), (.sl 1 true []), (.sl 5 true []), (.sl 1 true []), (.sl 2 true []), (.b false), (.i .i64 0), (.b false), (.i .i64 0), (.b false), (.sl 5 true [])] []),
         .op (.st (.t 6) (.t 44) 13 false),
         .op (.mv 7 (.k (.i .i64 2)))])
       (.ret)))
       ((.seq (.reg [.op (.ld 46 (.t 4) 9 true),
         .op (.fa 47 (.t 5) 0 1),
         .op (.ld 48 (.t 47) 1 false),
         .op (.call (some 49) mutex_waits [(.t 46), (.t 48)]),
         .op (.mv 45 (.t 49))])
       (.ite (.t 45)
         ((.seq (.reg [.op (.build 50 [(.i .i64 0), (.i .i64 0), (.i .i64 0), (.sl 1 true []), (.sl 5 true []), (.sl 1 true []), (.sl 2 true []), (.b false), (.i .i64 0), (.b false), (.i .i64 0), (.b false), (.sl 5 true [])] []),
           .op (.st (.t 6) (.t 50) 13 false),
           .op (.mv 7 (.k (.i .i64 17)))])
         (.ret)))
         (.skip)))))))))))
  ((.seq (.reg [.op (.mv 51 (.t 9)),
    .op (.ld 52 (.t 4) 9 true),
    .op (.ld 53 (.t 5) 5 true),
    .op (.callv (some 54) (.t 51) [(.t 52), (.t 53)]),
    .op (.ext 55 (.t 54) 0),
    .op (.ext 56 (.t 54) 1),
    .op (.st (.t 6) (.t 55) 13 false),
    .op (.mv 7 (.t 56))])
  (.ret)))))))))))
  [.c 6 13 true, .t 7] false none

def F_nurseryref16_Great_L0 : C :=
  (.seq ((.seq (.reg [.op (.mv 26 (.t 3)),
    .op (.fa 27 (.t 1) 6 1),
    .op (.ld 28 (.t 27) 1 false),
    .op (.len 29 (.t 28) .sl),
    .op (.bin 30 .lss (.t 26) (.t 29))])
  (.ite (.t 30)
    (.skip)
    (.seq (.keep []) (.exit 0)))))
  ((.seq (.blk 1 ((.seq (.reg [.op (.fa 33 (.t 1) 6 1),
     .op (.ld 34 (.t 33) 1 false),
     .op (.mv 35 (.t 3)),
     .op (.ixs 36 (.t 34) (.t 35) 2),
     .op (.fa 37 (.t 36) 1 1),
     .op (.ld 38 (.t 37) 1 false),
     .op (.len 39 (.t 38) .sl),
     .op (.bin 40 .gtr (.t 39) (.k (.i .i64 120)))])
   (.ite (.t 40)
     ((.seq (.reg [.op (.mv 2 (.k (.b true)))])
     (.seq (.keep [2]) .ret)))
     (.skip)))))
  (.reg [.op (.mv 31 (.t 3)),
    .op (.bin 32 .add (.t 31) (.k (.i .i64 1))),
    .op (.mv 3 (.t 32))]))))

/-- nursery/nurseryref16.Great -/
def F_nurseryref16_Great : F := .mk
  ((.seq (.reg [.op (.box 1 (.t 0) 9 true),
    .op (.mv 2 (.k (.b false)))])
  ((.seq ((.seq (.reg [.op (.fa 4 (.t 1) 3 1),
    .op (.ld 5 (.t 4) 1 false),
    .op (.len 6 (.t 5) .sl),
    .op (.bin 7 .gtr (.t 6) (.k (.i .i64 40))),
    .op (.mv 8 (.t 7)),
    .sc true 13 8 [.op (.fa 9 (.t 1) 4 1), .op (.ld 10 (.t 9) 1 false), .op (.len 11 (.t 10) .sl), .op (.bin 12 .gtr (.t 11) (.k (.i .i64 40)))] (.t 12),
    .op (.mv 14 (.t 13)),
    .sc true 19 14 [.op (.fa 15 (.t 1) 5 1), .op (.ld 16 (.t 15) 1 false), .op (.len 17 (.t 16) .sl), .op (.bin 18 .gtr (.t 17) (.k (.i .i64 120)))] (.t 18),
    .op (.mv 20 (.t 19)),
    .sc true 25 20 [.op (.fa 21 (.t 1) 6 1), .op (.ld 22 (.t 21) 1 false), .op (.len 23 (.t 22) .sl), .op (.bin 24 .gtr (.t 23) (.k (.i .i64 40)))] (.t 24)])
  (.ite (.t 25)
    ((.seq (.reg [.op (.mv 2 (.k (.b true)))])
    (.ret)))
    (.skip))))
  ((.seq ((.seq (.reg [.op (.mv 3 (.k (.i .i64 0)))])
  (.blk 0 (.loop [1, 3] F_nurseryref16_Great_L0))))
  ((.seq (.reg [.op (.mv 2 (.k (.b false)))])
  (.ret)))))))))
  [.t 2] false none

/-- nursery/mutex.Check -/
def F_mutex_Check : F := .mk
  ((.seq (.reg [.op (.box 2 (.t 0) 4 true),
    .op (.box 3 (.t 1) 9 true),
    .op (.mv 4 (.k (.i .i64 0)))])
  ((.seq ((.seq (.reg [.op (.ld 8 (.t 2) 4 true),
    .op (.call (some 9) mutex_New [(.t 8)]),
    .op (.mv 7 (.t 9)),
    .op (.ext 10 (.t 7) 0),
    .op (.ext 11 (.t 7) 1),
    .op (.new 5 [(.i .i64 0), (.i .i64 0), (.i .i64 0), (.sl 1 true []), (.sl 5 true []), (.sl 1 true []), (.sl 2 true []), (.b false), (.i .i64 0)]),
    .op (.st (.t 5) (.t 10) 9 true),
    .op (.mv 6 (.t 11))])
  ((.seq (.reg [.op (.mv 12 (.t 6)),
    .op (.bin 13 .neq (.t 12) (.k (.i .i64 0)))])
  (.ite (.t 13)
    ((.seq (.reg [.op (.mv 14 (.t 6)),
      .op (.mv 4 (.t 14))])
    (.ret)))
    (.skip))))))
  ((.seq ((.seq (.reg [.op (.ld 15 (.t 3) 9 true),
    .op (.call (some 16) mutex_valid [(.t 15)]),
    .op (.un 17 .not (.t 16))])
  (.ite (.t 17)
    ((.seq (.reg [.op (.mv 4 (.k (.i .i64 1)))])
    (.ret)))
    (.skip))))
  ((.seq (.reg [.op (.mv 4 (.k (.i .i64 0)))])
  (.ret)))))))))
  [.t 4] false none

def F_nurseryref16_SameWaiters_L0 : C :=
  (.seq ((.seq (.reg [.op (.mv 11 (.t 5)),
    .op (.mv 12 (.t 0)),
    .op (.len 13 (.t 12) .sl),
    .op (.bin 14 .lss (.t 11) (.t 13))])
  (.ite (.t 14)
    (.skip)
    (.seq (.keep []) (.exit 0)))))
  ((.seq (.blk 1 ((.seq (.drw [] [0, 1, 2, 3, 4, 5, 6, 7, 8] [.op (.mv 17 (.t 0)),
     .op (.mv 18 (.t 5)),
     .op (.ixs 19 (.t 17) (.t 18) 5),
     .op (.ld 20 (.t 19) 5 true),
     .op (.mv 21 (.t 1)),
     .op (.mv 22 (.t 5)),
     .op (.ixs 23 (.t 21) (.t 22) 5),
     .op (.ld 24 (.t 23) 5 true),
     .op (.eqv 25 true (.t 20) (.t 24) [.i, .i, .i, .i, .i])])
   (.ite (.t 25)
     ((.seq (.reg [.op (.mv 4 (.k (.b false)))])
     (.seq (.keep [4]) .ret)))
     (.skip)))))
  (.reg [.op (.mv 15 (.t 5)),
    .op (.bin 16 .add (.t 15) (.k (.i .i64 1))),
    .op (.mv 5 (.t 16))]))))

/-- nursery/nurseryref16.SameWaiters -/
def F_nurseryref16_SameWaiters : F := .mk
  ((.seq (.reg [.op (.mv 4 (.k (.b false)))])
  ((.seq ((.seq (.reg [.op (.mv 6 (.t 0)),
    .op (.len 7 (.t 6) .sl),
    .op (.mv 8 (.t 1)),
    .op (.len 9 (.t 8) .sl),
    .op (.bin 10 .neq (.t 7) (.t 9))])
  (.ite (.t 10)
    ((.seq (.reg [.op (.mv 4 (.k (.b false)))])
    (.ret)))
    (.skip))))
  ((.seq ((.seq (.reg [.op (.mv 5 (.k (.i .i64 0)))])
  (.blk 0 (.loop [0, 1, 5] F_nurseryref16_SameWaiters_L0))))
  ((.seq (.reg [.op (.mv 4 (.k (.b true)))])
  (.ret)))))))))
  [.t 4] false none

def F_nurseryref16_Without_L0 : C :=
  (.seq ((.seq (.reg [.op (.mv 8 (.t 6)),
    .op (.mv 9 (.t 0)),
    .op (.len 10 (.t 9) .sl),
    .op (.bin 11 .lss (.t 8) (.t 10))])
  (.ite (.t 11)
    (.skip)
    (.seq (.keep [5]) (.exit 0)))))
  ((.seq (.blk 1 ((.seq (.reg [.op (.mv 14 (.t 0)),
     .op (.mv 15 (.t 6)),
     .op (.ixs 16 (.t 14) (.t 15) 5),
     .op (.fa 17 (.t 16) 0 1),
     .op (.ld 18 (.t 17) 1 false),
     .op (.mv 19 (.t 1)),
     .op (.bin 20 .neq (.t 18) (.t 19))])
   (.ite (.t 20)
     (.reg [.op (.mv 21 (.t 5)),
       .op (.mv 22 (.t 0)),
       .op (.mv 23 (.t 6)),
       .op (.ixs 24 (.t 22) (.t 23) 5),
       .op (.ld 25 (.t 24) 5 true),
       .op (.buildSl 26 5 1 [(.i .i64 0), (.i .i64 0), (.i .i64 0), (.i .i64 0), (.i .i64 0)] [(0, (.t 25))] true),
       .op (.app 27 (.t 21) (.t 26) 5),
       .op (.mv 5 (.t 27))])
     (.skip)))))
  (.reg [.op (.mv 12 (.t 6)),
    .op (.bin 13 .add (.t 12) (.k (.i .i64 1))),
    .op (.mv 6 (.t 13))]))))

/-- nursery/nurseryref16.Without -/
def F_nurseryref16_Without : F := .mk
  ((.seq (.reg [.op (.mv 4 (.k (.sl 5 true [])))])
  ((.seq (.reg [.op (.buildSl 7 5 0 [(.i .i64 0), (.i .i64 0), (.i .i64 0), (.i .i64 0), (.i .i64 0)] [] false),
    .op (.mv 5 (.t 7))])
  ((.seq ((.seq (.reg [.op (.mv 6 (.k (.i .i64 0)))])
  (.blk 0 (.loop [0, 1, 5, 6] F_nurseryref16_Without_L0))))
  ((.seq (.reg [.op (.mv 28 (.t 5)),
    .op (.mv 4 (.t 28))])
  (.ret)))))))))
  [.t 4] false none

/-- nursery/nurseryref16.Apply -/
def F_nurseryref16_Apply : F := .mk
  ((.seq (.reg [.op (.box 3 (.t 0) 4 true),
    .op (.box 4 (.t 1) 9 false),
    .op (.box 5 (.t 2) 5 true),
    .op (.new 6 [(.i .i64 0), (.i .i64 0), (.i .i64 0), (.sl 1 true []), (.sl 5 true []), (.sl 1 true []), (.sl 2 true []), (.b false), (.i .i64 0), (.b false), (.i .i64 0), (.b false), (.sl 5 true [])]),
    .op (.mv 7 (.k (.i .i64 0)))])
  ((.seq ((.seq (.reg [.op (.ld 11 (.t 3) 4 true),
    .op (.ld 12 (.t 4) 9 true),
    .op (.call (some 13) nurseryref16_Check [(.t 11), (.t 12)]),
    .op (.mv 8 (.t 13))])
  ((.seq (.reg [.op (.mv 14 (.t 8)),
    .op (.bin 15 .neq (.t 14) (.k (.i .i64 0)))])
  (.ite (.t 15)
    ((.seq (.reg [.op (.build 16 [(.i .i64 0), (.i .i64 0), (.i .i64 0), (.sl 1 true []), (.sl 5 true []), (.sl 1 true []), (.sl 2 true []), (.b false), (.i .i64 0), (.b false), (.i .i64 0), (.b false), (.sl 5 true [])] []),
      .op (.mv 17 (.t 8)),
      .op (.st (.t 6) (.t 16) 13 false),
      .op (.mv 7 (.t 17))])
    (.ret)))
    (.skip))))))
  ((.seq ((.seq (.reg [.op (.fa 18 (.t 5) 1 1),
    .op (.ld 19 (.t 18) 1 false),
    .op (.bin 20 .neq (.t 19) (.k (.i .i64 50))),
    .op (.mv 21 (.t 20)),
    .sc false 25 21 [.op (.fa 22 (.t 5) 1 1), .op (.ld 23 (.t 22) 1 false), .op (.bin 24 .neq (.t 23) (.k (.i .i64 51)))] (.t 24),
    .op (.mv 26 (.t 25)),
    .sc false 30 26 [.op (.fa 27 (.t 5) 1 1), .op (.ld 28 (.t 27) 1 false), .op (.bin 29 .neq (.t 28) (.k (.i .i64 52)))] (.t 29)])
  (.ite (.t 30)
    ((.seq (.reg [.op (.build 31 [(.i .i64 0), (.i .i64 0), (.i .i64 0), (.sl 1 true []), (.sl 5 true []), (.sl 1 true []), (.sl 2 true []), (.b false), (.i .i64 0), (.b false), (.i .i64 0), (.b false), (.sl 5 true [])] []),
      .op (.st (.t 6) (.t 31) 13 false),
      .op (.mv 7 (.k (.i .i64 8)))])
    (.ret)))
    (.skip))))
  ((.seq ((.seq (.reg [.op (.fa 32 (.t 5) 0 1),
    .op (.ld 33 (.t 32) 1 false),
    .op (.call (some 34) nurseryref16_Task [(.t 33)]),
    .op (.un 35 .not (.t 34)),
    .op (.mv 36 (.t 35)),
    .sc true 40 36 [.op (.fa 37 (.t 5) 3 1), .op (.ld 38 (.t 37) 1 false), .op (.bin 39 .lss (.t 38) (.k (.i .i64 0)))] (.t 39),
    .op (.mv 41 (.t 40)),
    .sc true 45 41 [.op (.fa 42 (.t 5) 3 1), .op (.ld 43 (.t 42) 1 false), .op (.bin 44 .gtr (.t 43) (.k (.i .i64 9)))] (.t 44)])
  (.ite (.t 45)
    ((.seq (.reg [.op (.build 46 [(.i .i64 0), (.i .i64 0), (.i .i64 0), (.sl 1 true []), (.sl 5 true []), (.sl 1 true []), (.sl 2 true []), (.b false), (.i .i64 0), (.b false), (.i .i64 0), (.b false), (.sl 5 true [])] []),
      .op (.st (.t 6) (.t 46) 13 false),
      .op (.mv 7 (.k (.i .i64 2)))])
    (.ret)))
    (.skip))))
  ((.seq ((.seq (.reg [.op (.fa 47 (.t 4) 4 1),
    .op (.ld 48 (.t 47) 1 false),
    .op (.fa 49 (.t 5) 0 1),
    .op (.ld 50 (.t 49) 1 false),
    .op (.call (some 51) nurseryref16_Waits [(.t 48), (.t 50)])])
  (.ite (.t 51)
    ((.seq (.reg [.op (.build 52 [(.i .i64 0), (.i .i64 0), (.i .i64 0), (.sl 1 true []), (.sl 5 true []), (.sl 1 true []), (.sl 2 true []), (.b false), (.i .i64 0), (.b false), (.i .i64 0), (.b false), (.sl 5 true [])] []),
      .op (.st (.t 6) (.t 52) 13 false),
      .op (.mv 7 (.k (.i .i64 17)))])
    (.ret)))
    (.skip))))
  ((.seq ((.seq (.reg [.op (.fa 53 (.t 5) 1 1),
    .op (.ld 54 (.t 53) 1 false),
    .op (.bin 55 .eql (.t 54) (.k (.i .i64 50)))])
  (.ite (.t 55)
    ((.seq (.reg [.op (.ld 56 (.t 4) 9 true),
      .op (.ld 57 (.t 5) 5 true),
      .op (.call (some 58) nurseryref16_lock [(.t 56), (.t 57)]),
      .op (.ext 59 (.t 58) 0),
      .op (.ext 60 (.t 58) 1),
      .op (.st (.t 6) (.t 59) 13 false),
      .op (.mv 7 (.t 60))])
    (.ret)))
    (.skip))))
  ((.seq ((.seq (.reg [.op (.fa 61 (.t 5) 1 1),
    .op (.ld 62 (.t 61) 1 false),
    .op (.bin 63 .eql (.t 62) (.k (.i .i64 51)))])
  (.ite (.t 63)
    ((.seq (.reg [.op (.fa 64 (.t 4) 0 1),
      .op (.ld 65 (.t 64) 1 false),
      .op (.bin 66 .eql (.t 65) (.k (.i .i64 (-1)))),
      .op (.mv 9 (.t 66))])
    ((.seq ((.seq (.reg [.op (.mv 67 (.t 9))])
    (.ite (.t 67)
      (.reg [.op (.fa 68 (.t 5) 0 1),
        .op (.ld 69 (.t 68) 1 false),
        .op (.fa 70 (.t 4) 0 1),
        .op (.st (.t 70) (.t 69) 1 false)])
      (.skip))))
    ((.seq (.reg [.op (.ld 71 (.t 4) 9 true),
      .op (.mv 72 (.t 9)),
      .op (.build 73 [(.i .i64 0), (.i .i64 0), (.i .i64 0), (.sl 1 true []), (.sl 5 true []), (.sl 1 true []), (.sl 2 true []), (.b false), (.i .i64 0), (.b false), (.i .i64 0), (.b false), (.sl 5 true [])] [(0, 9, (.t 71)), (11, 1, (.t 72))]),
      .op (.st (.t 6) (.t 73) 13 false),
      .op (.mv 7 (.k (.i .i64 0)))])
    (.ret)))))))
    (.skip))))
  ((.seq ((.seq (.reg [.op (.fa 74 (.t 4) 0 1),
    .op (.ld 75 (.t 74) 1 false),
    .op (.fa 76 (.t 5) 0 1),
    .op (.ld 77 (.t 76) 1 false),
    .op (.bin 78 .neq (.t 75) (.t 77))])
  (.ite (.t 78)
    ((.seq (.reg [.op (.build 79 [(.i .i64 0), (.i .i64 0), (.i .i64 0), (.sl 1 true []), (.sl 5 true []), (.sl 1 true []), (.sl 2 true []), (.b false), (.i .i64 0), (.b false), (.i .i64 0), (.b false), (.sl 5 true [])] []),
      .op (.st (.t 6) (.t 79) 13 false),
      .op (.mv 7 (.k (.i .i64 20)))])
    (.ret)))
    (.skip))))
  ((.seq ((.seq (.reg [.op (.fa 80 (.t 4) 4 1),
    .op (.ld 81 (.t 80) 1 false),
    .op (.len 82 (.t 81) .sl),
    .op (.bin 83 .eql (.t 82) (.k (.i .i64 0)))])
  (.ite (.t 83)
    ((.seq (.reg [.op (.fa 84 (.t 4) 0 1),
      .op (.st (.t 84) (.k (.i .i64 (-1))) 1 false)])
    ((.seq (.reg [.op (.ld 85 (.t 4) 9 true),
      .op (.build 86 [(.i .i64 0), (.i .i64 0), (.i .i64 0), (.sl 1 true []), (.sl 5 true []), (.sl 1 true []), (.sl 2 true []), (.b false), (.i .i64 0), (.b false), (.i .i64 0), (.b false), (.sl 5 true [])] [(0, 9, (.t 85)), (11, 1, (.k (.b true)))]),
      .op (.st (.t 6) (.t 86) 13 false),
      .op (.mv 7 (.k (.i .i64 0)))])
    (.ret)))))
    (.skip))))
  ((.seq (.reg [.op (.fa 87 (.t 4) 4 1),
    .op (.ld 88 (.t 87) 1 false),
    .op (.ixs 89 (.t 88) (.k (.i .i64 0)) 5),
    .op (.fa 90 (.t 89) 0 1),
    .op (.ld 91 (.t 90) 1 false),
    .op (.mv 10 (.t 91))])
  ((.seq (.reg [.op (.mv 92 (.t 10)),
    .op (.fa 93 (.t 4) 0 1),
    .op (.st (.t 93) (.t 92) 1 false)])
  ((.seq (.reg [.op (.fa 94 (.t 4) 4 1),
    .op (.ld 95 (.t 94) 1 false),
    .op (.mv 96 (.t 10)),
    .op (.call (some 97) nurseryref16_Without [(.t 95), (.t 96)]),
    .op (.fa 98 (.t 4) 4 1),
    .op (.st (.t 98) (.t 97) 1 false)])
  ((.seq (.reg [.op (.ld 99 (.t 4) 9 true),
    .op (.mv 100 (.t 10)),
    .op (.build 101 [(.i .i64 0), (.i .i64 0), (.i .i64 0), (.b false), (.i .i64 0)] [(0, 1, (.t 100)), (1, 1, (.k (.i .i64 50))), (3, 1, (.k (.b true))), (4, 1, (.k (.i .i64 (-1))))]),
    .op (.buildSl 102 5 1 [(.i .i64 0), (.i .i64 0), (.i .i64 0), (.b false), (.i .i64 0)] [(0, (.t 101))] true),
    .op (.build 103 [(.i .i64 0), (.i .i64 0), (.i .i64 0), (.sl 1 true []), (.sl 5 true []), (.sl 1 true []), (.sl 2 true []), (.b false), (.i .i64 0), (.b false), (.i .i64 0), (.b false), (.sl 5 true [])] [(0, 9, (.t 99)), (11, 1, (.k (.b true))), (12, 1, (.t 102))]),
    .op (.st (.t 6) (.t 103) 13 false),
    .op (.mv 7 (.k (.i .i64 0)))])
  (.ret)))))))))))))))))))))))))))
  [.c 6 13 true, .t 7] false none

def F_nurseryref16_SameReply_L0 : C :=
  (.seq ((.seq (.reg [.op (.mv 42 (.t 5)),
    .op (.fa 43 (.t 2) 12 1),
    .op (.ld 44 (.t 43) 1 false),
    .op (.len 45 (.t 44) .sl),
    .op (.bin 46 .lss (.t 42) (.t 45))])
  (.ite (.t 46)
    (.skip)
    (.seq (.keep []) (.exit 0)))))
  ((.seq (.blk 1 ((.seq (.drw [] [0, 1, 2, 3, 4, 5, 6, 7, 8, 9, 10] [.op (.fad 49 (.t 2) 12 1),
     .op (.ldd 50 (.t 49) 1 false),
     .op (.mv 51 (.t 5)),
     .op (.ixs 52 (.t 50) (.t 51) 5),
     .op (.ld 53 (.t 52) 5 true),
     .op (.fad 54 (.t 3) 12 1),
     .op (.ldd 55 (.t 54) 1 false),
     .op (.mv 56 (.t 5)),
     .op (.ixs 57 (.t 55) (.t 56) 5),
     .op (.ld 58 (.t 57) 5 true),
     .op (.eqv 59 true (.t 53) (.t 58) [.i, .i, .i, .b, .i])])
   (.ite (.t 59)
     ((.seq (.reg [.op (.mv 4 (.k (.b false)))])
     (.seq (.keep [4]) .ret)))
     (.skip)))))
  (.reg [.op (.mv 47 (.t 5)),
    .op (.bin 48 .add (.t 47) (.k (.i .i64 1))),
    .op (.mv 5 (.t 48))]))))

/-- nursery/nurseryref16.SameReply -/
def F_nurseryref16_SameReply : F := .mk
  ((.seq (.reg [.op (.box 2 (.t 0) 13 true),
    .op (.box 3 (.t 1) 13 true),
    .op (.mv 4 (.k (.b false)))])
  ((.seq ((.seq (.reg [.op (.fa 6 (.t 2) 0 9),
    .op (.ld 7 (.t 6) 9 true),
    .op (.fa 8 (.t 3) 0 9),
    .op (.ld 9 (.t 8) 9 true),
    .op (.call (some 10) nurseryref16_Same [(.t 7), (.t 9)]),
    .op (.un 11 .not (.t 10)),
    .op (.mv 12 (.t 11)),
    .sc true 18 12 [.op (.fa 13 (.t 2) 9 1), .op (.ld 14 (.t 13) 1 false), .op (.fa 15 (.t 3) 9 1), .op (.ld 16 (.t 15) 1 false), .op (.eqb 17 true (.t 14) (.t 16))] (.t 17),
    .op (.mv 19 (.t 18)),
    .sc true 25 19 [.op (.fa 20 (.t 2) 10 1), .op (.ld 21 (.t 20) 1 false), .op (.fa 22 (.t 3) 10 1), .op (.ld 23 (.t 22) 1 false), .op (.bin 24 .neq (.t 21) (.t 23))] (.t 24),
    .op (.mv 26 (.t 25)),
    .sc true 32 26 [.op (.fa 27 (.t 2) 11 1), .op (.ld 28 (.t 27) 1 false), .op (.fa 29 (.t 3) 11 1), .op (.ld 30 (.t 29) 1 false), .op (.eqb 31 true (.t 28) (.t 30))] (.t 31),
    .op (.mv 33 (.t 32)),
    .sc true 41 33 [.op (.fa 34 (.t 2) 12 1), .op (.ld 35 (.t 34) 1 false), .op (.len 36 (.t 35) .sl), .op (.fa 37 (.t 3) 12 1), .op (.ld 38 (.t 37) 1 false), .op (.len 39 (.t 38) .sl), .op (.bin 40 .neq (.t 36) (.t 39))] (.t 40)])
  (.ite (.t 41)
    ((.seq (.reg [.op (.mv 4 (.k (.b false)))])
    (.ret)))
    (.skip))))
  ((.seq ((.seq (.reg [.op (.mv 5 (.k (.i .i64 0)))])
  (.blk 0 (.loop [2, 3, 5] F_nurseryref16_SameReply_L0))))
  ((.seq (.reg [.op (.mv 4 (.k (.b true)))])
  (.ret)))))))))
  [.t 4] false none

/-- nursery/mutex.Ready -/
def F_mutex_Ready : F := .mk
  ((.seq (.reg [.op (.box 3 (.t 0) 4 true),
    .op (.box 4 (.t 1) 9 true),
    .op (.box 5 (.t 2) 5 true),
    .op (.mv 6 (.k (.b false)))])
  ((.seq (.reg [.op (.ld 10 (.t 3) 4 true),
    .op (.ld 11 (.t 4) 9 true),
    .op (.ld 12 (.t 5) 5 true),
    .op (.call (some 13) mutex_Apply [(.t 10), (.t 11), (.t 12)]),
    .op (.mv 9 (.t 13)),
    .op (.ext 14 (.t 9) 0),
    .op (.ext 15 (.t 9) 1),
    .op (.new 7 [(.i .i64 0), (.i .i64 0), (.i .i64 0), (.sl 1 true []), (.sl 5 true []), (.sl 1 true []), (.sl 2 true []), (.b false), (.i .i64 0), (.b false), (.i .i64 0), (.b false), (.sl 5 true [])]),
    .op (.st (.t 7) (.t 14) 13 true),
    .op (.mv 8 (.t 15))])
  ((.seq (.reg [.op (.mv 16 (.t 8)),
    .op (.bin 17 .eql (.t 16) (.k (.i .i64 0))),
    .op (.mv 18 (.t 17)),
    .sc false 22 18 [.op (.fa 19 (.t 7) 9 1), .op (.ld 20 (.t 19) 1 false), .op (.un 21 .not (.t 20))] (.t 21),
    .op (.mv 6 (.t 22))])
  (.ret)))))))
  [.t 6] false none

/-- nursery/nurseryref16.Ready -/
def F_nurseryref16_Ready : F := .mk
  ((.seq (.reg [.op (.box 3 (.t 0) 4 true),
    .op (.box 4 (.t 1) 9 true),
    .op (.box 5 (.t 2) 5 true),
    .op (.mv 6 (.k (.b false)))])
  ((.seq (.reg [.op (.ld 10 (.t 3) 4 true),
    .op (.ld 11 (.t 4) 9 true),
    .op (.ld 12 (.t 5) 5 true),
    .op (.call (some 13) nurseryref16_Apply [(.t 10), (.t 11), (.t 12)]),
    .op (.mv 9 (.t 13)),
    .op (.ext 14 (.t 9) 0),
    .op (.ext 15 (.t 9) 1),
    .op (.new 7 [(.i .i64 0), (.i .i64 0), (.i .i64 0), (.sl 1 true []), (.sl 5 true []), (.sl 1 true []), (.sl 2 true []), (.b false), (.i .i64 0), (.b false), (.i .i64 0), (.b false), (.sl 5 true [])]),
    .op (.st (.t 7) (.t 14) 13 true),
    .op (.mv 8 (.t 15))])
  ((.seq (.reg [.op (.mv 16 (.t 8)),
    .op (.bin 17 .eql (.t 16) (.k (.i .i64 0))),
    .op (.mv 18 (.t 17)),
    .sc false 22 18 [.op (.fa 19 (.t 7) 9 1), .op (.ld 20 (.t 19) 1 false), .op (.un 21 .not (.t 20))] (.t 21),
    .op (.mv 6 (.t 22))])
  (.ret)))))))
  [.t 6] false none

/-- nursery/nurseryref16.New -/
def F_nurseryref16_New : F := .mk
  ((.seq (.reg [.op (.box 1 (.t 0) 4 true),
    .op (.new 2 [(.i .i64 0), (.i .i64 0), (.i .i64 0), (.sl 1 true []), (.sl 5 true []), (.sl 1 true []), (.sl 2 true []), (.b false), (.i .i64 0)]),
    .op (.mv 3 (.k (.i .i64 0)))])
  ((.seq ((.seq (.reg [.op (.fa 4 (.t 1) 1 1),
    .op (.ld 5 (.t 4) 1 false),
    .op (.bin 6 .neq (.t 5) (.k (.i .i64 1)))])
  (.ite (.t 6)
    ((.seq (.reg [.op (.build 7 [(.i .i64 0), (.i .i64 0), (.i .i64 0), (.sl 1 true []), (.sl 5 true []), (.sl 1 true []), (.sl 2 true []), (.b false), (.i .i64 0)] []),
      .op (.st (.t 2) (.t 7) 9 false),
      .op (.mv 3 (.k (.i .i64 8)))])
    (.ret)))
    (.skip))))
  ((.seq ((.seq (.reg [.op (.fa 8 (.t 1) 2 1),
    .op (.ld 9 (.t 8) 1 false),
    .op (.bin 10 .neq (.t 9) (.k (.i .i64 0))),
    .op (.mv 11 (.t 10)),
    .sc true 15 11 [.op (.fa 12 (.t 1) 3 1), .op (.ld 13 (.t 12) 1 false), .op (.bin 14 .neq (.t 13) (.k (.i .i64 0)))] (.t 14)])
  (.ite (.t 15)
    ((.seq (.reg [.op (.build 16 [(.i .i64 0), (.i .i64 0), (.i .i64 0), (.sl 1 true []), (.sl 5 true []), (.sl 1 true []), (.sl 2 true []), (.b false), (.i .i64 0)] []),
      .op (.st (.t 2) (.t 16) 9 false),
      .op (.mv 3 (.k (.i .i64 2)))])
    (.ret)))
    (.skip))))
  ((.seq (.reg [.op (.build 17 [(.i .i64 0), (.i .i64 0), (.i .i64 0), (.sl 1 true []), (.sl 5 true []), (.sl 1 true []), (.sl 2 true []), (.b false), (.i .i64 0)] [(0, 1, (.k (.i .i64 (-1))))]),
    .op (.st (.t 2) (.t 17) 9 false),
    .op (.mv 3 (.k (.i .i64 0)))])
  (.ret)))))))))
  [.c 2 9 true, .t 3] false none

/-- nursery/mutex.Holder -/
def F_mutex_Holder : F := .mk
  ((.seq (.reg [.op (.box 1 (.t 0) 9 true),
    .op (.mv 2 (.k (.i .i64 0))),
    .op (.mv 3 (.k (.b false)))])
  ((.seq ((.seq (.reg [.op (.fa 4 (.t 1) 0 1),
    .op (.ld 5 (.t 4) 1 false),
    .op (.bin 6 .lss (.t 5) (.k (.i .i64 0)))])
  (.ite (.t 6)
    ((.seq (.reg [.op (.mv 2 (.k (.i .i64 0))),
      .op (.mv 3 (.k (.b false)))])
    (.ret)))
    (.skip))))
  ((.seq (.reg [.op (.fa 7 (.t 1) 0 1),
    .op (.ld 8 (.t 7) 1 false),
    .op (.mv 2 (.t 8)),
    .op (.mv 3 (.k (.b true)))])
  (.ret)))))))
  [.t 2, .t 3] false none

/-- nursery/nurseryref16.Holder -/
def F_nurseryref16_Holder : F := .mk
  ((.seq (.reg [.op (.box 1 (.t 0) 9 true),
    .op (.mv 2 (.k (.i .i64 0))),
    .op (.mv 3 (.k (.b false)))])
  ((.seq ((.seq (.reg [.op (.fa 4 (.t 1) 0 1),
    .op (.ld 5 (.t 4) 1 false),
    .op (.bin 6 .lss (.t 5) (.k (.i .i64 0)))])
  (.ite (.t 6)
    ((.seq (.reg [.op (.mv 2 (.k (.i .i64 0))),
      .op (.mv 3 (.k (.b false)))])
    (.ret)))
    (.skip))))
  ((.seq (.reg [.op (.fa 7 (.t 1) 0 1),
    .op (.ld 8 (.t 7) 1 false),
    .op (.mv 2 (.t 8)),
    .op (.mv 3 (.k (.b true)))])
  (.ret)))))))
  [.t 2, .t 3] false none

/-- nursery/nurseryref16.Same -/
def F_nurseryref16_Same : F := .mk
  ((.seq (.reg [.op (.box 2 (.t 0) 9 true),
    .op (.box 3 (.t 1) 9 true),
    .op (.mv 4 (.k (.b false)))])
  ((.seq ((.seq (.reg [.op (.fa 5 (.t 2) 0 1),
    .op (.ld 6 (.t 5) 1 false),
    .op (.fa 7 (.t 3) 0 1),
    .op (.ld 8 (.t 7) 1 false),
    .op (.bin 9 .neq (.t 6) (.t 8)),
    .op (.mv 10 (.t 9)),
    .sc true 16 10 [.op (.fa 11 (.t 2) 1 1), .op (.ld 12 (.t 11) 1 false), .op (.fa 13 (.t 3) 1 1), .op (.ld 14 (.t 13) 1 false), .op (.bin 15 .neq (.t 12) (.t 14))] (.t 15),
    .op (.mv 17 (.t 16)),
    .sc true 23 17 [.op (.fa 18 (.t 2) 2 1), .op (.ld 19 (.t 18) 1 false), .op (.fa 20 (.t 3) 2 1), .op (.ld 21 (.t 20) 1 false), .op (.bin 22 .neq (.t 19) (.t 21))] (.t 22),
    .op (.mv 24 (.t 23)),
    .sc true 30 24 [.op (.fa 25 (.t 2) 7 1), .op (.ld 26 (.t 25) 1 false), .op (.fa 27 (.t 3) 7 1), .op (.ld 28 (.t 27) 1 false), .op (.eqb 29 true (.t 26) (.t 28))] (.t 29),
    .op (.mv 31 (.t 30)),
    .sc true 37 31 [.op (.fa 32 (.t 2) 8 1), .op (.ld 33 (.t 32) 1 false), .op (.fa 34 (.t 3) 8 1), .op (.ld 35 (.t 34) 1 false), .op (.bin 36 .neq (.t 33) (.t 35))] (.t 36)])
  (.ite (.t 37)
    ((.seq (.reg [.op (.mv 4 (.k (.b false)))])
    (.ret)))
    (.skip))))
  ((.seq (.reg [.op (.fa 38 (.t 2) 3 1),
    .op (.ld 39 (.t 38) 1 false),
    .op (.fa 40 (.t 3) 3 1),
    .op (.ld 41 (.t 40) 1 false),
    .op (.call (some 42) nurseryref04_SameInts [(.t 39), (.t 41)]),
    .op (.mv 43 (.t 42)),
    .sc false 49 43 [.op (.fa 44 (.t 2) 5 1), .op (.ld 45 (.t 44) 1 false), .op (.fa 46 (.t 3) 5 1), .op (.ld 47 (.t 46) 1 false), .op (.call (some 48) nurseryref04_SameInts [(.t 45), (.t 47)])] (.t 48),
    .op (.mv 50 (.t 49)),
    .sc false 56 50 [.op (.fa 51 (.t 2) 4 1), .op (.ld 52 (.t 51) 1 false), .op (.fa 53 (.t 3) 4 1), .op (.ld 54 (.t 53) 1 false), .op (.call (some 55) nurseryref16_SameWaiters [(.t 52), (.t 54)])] (.t 55),
    .op (.mv 57 (.t 56)),
    .sc false 63 57 [.op (.fa 58 (.t 2) 6 1), .op (.ld 59 (.t 58) 1 false), .op (.fa 60 (.t 3) 6 1), .op (.ld 61 (.t 60) 1 false), .op (.call (some 62) nurseryref16_sameCursors [(.t 59), (.t 61)])] (.t 62),
    .op (.mv 4 (.t 63))])
  (.ret)))))))
  [.t 4] false none

/-- nursery/nurseryref16.Check -/
def F_nurseryref16_Check : F := .mk
  ((.seq (.reg [.op (.box 2 (.t 0) 4 true),
    .op (.box 3 (.t 1) 9 true),
    .op (.mv 4 (.k (.i .i64 0)))])
  ((.seq ((.seq (.reg [.op (.ld 8 (.t 2) 4 true),
    .op (.call (some 9) nurseryref16_New [(.t 8)]),
    .op (.mv 7 (.t 9)),
    .op (.ext 10 (.t 7) 0),
    .op (.ext 11 (.t 7) 1),
    .op (.new 5 [(.i .i64 0), (.i .i64 0), (.i .i64 0), (.sl 1 true []), (.sl 5 true []), (.sl 1 true []), (.sl 2 true []), (.b false), (.i .i64 0)]),
    .op (.st (.t 5) (.t 10) 9 true),
    .op (.mv 6 (.t 11))])
  ((.seq (.reg [.op (.mv 12 (.t 6)),
    .op (.bin 13 .neq (.t 12) (.k (.i .i64 0)))])
  (.ite (.t 13)
    ((.seq (.reg [.op (.mv 14 (.t 6)),
      .op (.mv 4 (.t 14))])
    (.ret)))
    (.skip))))))
  ((.seq ((.seq (.reg [.op (.fa 15 (.t 3) 0 1),
    .op (.ld 16 (.t 15) 1 false),
    .op (.bin 17 .neq (.t 16) (.k (.i .i64 (-1)))),
    .op (.mv 18 (.t 17)),
    .sc false 23 18 [.op (.fa 19 (.t 3) 0 1), .op (.ld 20 (.t 19) 1 false), .op (.call (some 21) nurseryref16_Task [(.t 20)]), .op (.un 22 .not (.t 21))] (.t 22),
    .op (.mv 24 (.t 23)),
    .sc true 31 24 [.op (.fa 25 (.t 3) 0 1), .op (.ld 26 (.t 25) 1 false), .op (.fa 27 (.t 3) 4 1), .op (.ld 28 (.t 27) 1 false), .op (.call (some 29) nurseryref16_queue [(.t 26), (.t 28)]), .op (.un 30 .not (.t 29))] (.t 30)])
  (.ite (.t 31)
    ((.seq (.reg [.op (.mv 4 (.k (.i .i64 1)))])
    (.ret)))
    (.skip))))
  ((.seq ((.seq (.reg [.op (.ld 32 (.t 3) 9 true),
    .op (.fa 33 (.t 3) 0 1),
    .op (.ld 34 (.t 33) 1 false),
    .op (.fa 35 (.t 3) 4 1),
    .op (.ld 36 (.t 35) 1 false),
    .op (.build 37 [(.i .i64 0), (.i .i64 0), (.i .i64 0), (.sl 1 true []), (.sl 5 true []), (.sl 1 true []), (.sl 2 true []), (.b false), (.i .i64 0)] [(0, 1, (.t 34)), (4, 1, (.t 36))]),
    .op (.call (some 38) nurseryref16_Same [(.t 32), (.t 37)]),
    .op (.un 39 .not (.t 38))])
  (.ite (.t 39)
    ((.seq (.reg [.op (.mv 4 (.k (.i .i64 1)))])
    (.ret)))
    (.skip))))
  ((.seq (.reg [.op (.mv 4 (.k (.i .i64 0)))])
  (.ret)))))))))))
  [.t 4] false none

def F_nurseryref04_SameInts_L0 : C :=
  (.seq ((.seq (.reg [.op (.mv 11 (.t 5)),
    .op (.mv 12 (.t 0)),
    .op (.len 13 (.t 12) .sl),
    .op (.bin 14 .lss (.t 11) (.t 13))])
  (.ite (.t 14)
    (.skip)
    (.seq (.keep []) (.exit 0)))))
  ((.seq (.blk 1 ((.seq (.drw [] [0, 1, 2, 3, 4, 5, 6, 7, 8] [.op (.mv 17 (.t 0)),
     .op (.mv 18 (.t 5)),
     .op (.ixs 19 (.t 17) (.t 18) 1),
     .op (.ld 20 (.t 19) 1 false),
     .op (.mv 21 (.t 1)),
     .op (.mv 22 (.t 5)),
     .op (.ixs 23 (.t 21) (.t 22) 1),
     .op (.ld 24 (.t 23) 1 false),
     .op (.bin 25 .neq (.t 20) (.t 24))])
   (.ite (.t 25)
     ((.seq (.reg [.op (.mv 4 (.k (.b false)))])
     (.seq (.keep [4]) .ret)))
     (.skip)))))
  (.reg [.op (.mv 15 (.t 5)),
    .op (.bin 16 .add (.t 15) (.k (.i .i64 1))),
    .op (.mv 5 (.t 16))]))))

/-- nursery/nurseryref04.SameInts -/
def F_nurseryref04_SameInts : F := .mk
  ((.seq (.reg [.op (.mv 4 (.k (.b false)))])
  ((.seq ((.seq (.reg [.op (.mv 6 (.t 0)),
    .op (.len 7 (.t 6) .sl),
    .op (.mv 8 (.t 1)),
    .op (.len 9 (.t 8) .sl),
    .op (.bin 10 .neq (.t 7) (.t 9))])
  (.ite (.t 10)
    ((.seq (.reg [.op (.mv 4 (.k (.b false)))])
    (.ret)))
    (.skip))))
  ((.seq ((.seq (.reg [.op (.mv 5 (.k (.i .i64 0)))])
  (.blk 0 (.loop [0, 1, 5] F_nurseryref04_SameInts_L0))))
  ((.seq (.reg [.op (.mv 4 (.k (.b true)))])
  (.ret)))))))))
  [.t 4] false none

/-- nursery/mutex.Withdraw -/
def F_mutex_Withdraw : F := .mk
  ((.seq (.reg [.op (.box 3 (.t 0) 4 true),
    .op (.box 4 (.t 1) 9 false),
    .op (.new 6 [(.i .i64 0), (.i .i64 0), (.i .i64 0), (.sl 1 true []), (.sl 5 true []), (.sl 1 true []), (.sl 2 true []), (.b false), (.i .i64 0), (.b false), (.i .i64 0), (.b false), (.sl 5 true [])]),
    .op (.mv 7 (.k (.i .i64 0)))])
  ((.seq ((.seq (.reg [.op (.ld 9 (.t 3) 4 true),
    .op (.ld 10 (.t 4) 9 true),
    .op (.call (some 11) mutex_Check [(.t 9), (.t 10)]),
    .op (.mv 8 (.t 11))])
  ((.seq (.reg [.op (.mv 12 (.t 8)),
    .op (.bin 13 .neq (.t 12) (.k (.i .i64 0)))])
  (.ite (.t 13)
    ((.seq (.reg [.op (.build 14 [(.i .i64 0), (.i .i64 0), (.i .i64 0), (.sl 1 true []), (.sl 5 true []), (.sl 1 true []), (.sl 2 true []), (.b false), (.i .i64 0), (.b false), (.i .i64 0), (.b false), (.sl 5 true [])] []),
      .op (.mv 15 (.t 8)),
      .op (.st (.t 6) (.t 14) 13 false),
      .op (.mv 7 (.t 15))])
    (.ret)))
    (.skip))))))
  ((.seq ((.seq (.reg [.op (.ld 16 (.t 4) 9 true),
    .op (.mv 17 (.t 2)),
    .op (.call (some 18) mutex_waits [(.t 16), (.t 17)]),
    .op (.un 19 .not (.t 18))])
  (.ite (.t 19)
    ((.seq (.reg [.op (.build 20 [(.i .i64 0), (.i .i64 0), (.i .i64 0), (.sl 1 true []), (.sl 5 true []), (.sl 1 true []), (.sl 2 true []), (.b false), (.i .i64 0), (.b false), (.i .i64 0), (.b false), (.sl 5 true [])] []),
      .op (.st (.t 6) (.t 20) 13 false),
      .op (.mv 7 (.k (.i .i64 7)))])
    (.ret)))
    (.skip))))
  ((.seq (.reg [.op (.fa 21 (.t 4) 4 1),
    .op (.ld 22 (.t 21) 1 false),
    .op (.mv 23 (.t 2)),
    .op (.call (some 24) waitlist_Remove [(.t 22), (.t 23)]),
    .op (.fa 25 (.t 4) 4 1),
    .op (.st (.t 25) (.t 24) 1 false)])
  ((.seq (.reg [.op (.ld 26 (.t 4) 9 true),
    .op (.build 27 [(.i .i64 0), (.i .i64 0), (.i .i64 0), (.sl 1 true []), (.sl 5 true []), (.sl 1 true []), (.sl 2 true []), (.b false), (.i .i64 0), (.b false), (.i .i64 0), (.b false), (.sl 5 true [])] [(0, 9, (.t 26))]),
    .op (.st (.t 6) (.t 27) 13 false),
    .op (.mv 7 (.k (.i .i64 0)))])
  (.ret)))))))))))
  [.c 6 13 true, .t 7] false none

/-- nursery/nurseryref16.Withdraw -/
def F_nurseryref16_Withdraw : F := .mk
  ((.seq (.reg [.op (.box 3 (.t 0) 4 true),
    .op (.box 4 (.t 1) 9 false),
    .op (.new 6 [(.i .i64 0), (.i .i64 0), (.i .i64 0), (.sl 1 true []), (.sl 5 true []), (.sl 1 true []), (.sl 2 true []), (.b false), (.i .i64 0), (.b false), (.i .i64 0), (.b false), (.sl 5 true [])]),
    .op (.mv 7 (.k (.i .i64 0)))])
  ((.seq ((.seq (.reg [.op (.ld 9 (.t 3) 4 true),
    .op (.ld 10 (.t 4) 9 true),
    .op (.call (some 11) nurseryref16_Check [(.t 9), (.t 10)]),
    .op (.mv 8 (.t 11))])
  ((.seq (.reg [.op (.mv 12 (.t 8)),
    .op (.bin 13 .neq (.t 12) (.k (.i .i64 0)))])
  (.ite (.t 13)
    ((.seq (.reg [.op (.build 14 [(.i .i64 0), (.i .i64 0), (.i .i64 0), (.sl 1 true []), (.sl 5 true []), (.sl 1 true []), (.sl 2 true []), (.b false), (.i .i64 0), (.b false), (.i .i64 0), (.b false), (.sl 5 true [])] []),
      .op (.mv 15 (.t 8)),
      .op (.st (.t 6) (.t 14) 13 false),
      .op (.mv 7 (.t 15))])
    (.ret)))
    (.skip))))))
  ((.seq ((.seq (.reg [.op (.fa 16 (.t 4) 4 1),
    .op (.ld 17 (.t 16) 1 false),
    .op (.mv 18 (.t 2)),
    .op (.call (some 19) nurseryref16_Waits [(.t 17), (.t 18)]),
    .op (.un 20 .not (.t 19))])
  (.ite (.t 20)
    ((.seq (.reg [.op (.build 21 [(.i .i64 0), (.i .i64 0), (.i .i64 0), (.sl 1 true []), (.sl 5 true []), (.sl 1 true []), (.sl 2 true []), (.b false), (.i .i64 0), (.b false), (.i .i64 0), (.b false), (.sl 5 true [])] []),
      .op (.st (.t 6) (.t 21) 13 false),
      .op (.mv 7 (.k (.i .i64 7)))])
    (.ret)))
    (.skip))))
  ((.seq (.reg [.op (.fa 22 (.t 4) 4 1),
    .op (.ld 23 (.t 22) 1 false),
    .op (.mv 24 (.t 2)),
    .op (.call (some 25) nurseryref16_Without [(.t 23), (.t 24)]),
    .op (.fa 26 (.t 4) 4 1),
    .op (.st (.t 26) (.t 25) 1 false)])
  ((.seq (.reg [.op (.ld 27 (.t 4) 9 true),
    .op (.build 28 [(.i .i64 0), (.i .i64 0), (.i .i64 0), (.sl 1 true []), (.sl 5 true []), (.sl 1 true []), (.sl 2 true []), (.b false), (.i .i64 0), (.b false), (.i .i64 0), (.b false), (.sl 5 true [])] [(0, 9, (.t 27))]),
    .op (.st (.t 6) (.t 28) 13 false),
    .op (.mv 7 (.k (.i .i64 0)))])
  (.ret)))))))))))
  [.c 6 13 true, .t 7] false none

/-- nursery/nurserylaw16.lock -/
def F_nurserylaw16_lock : F := .mk
  ((.seq (.reg [.op (.new 4 [(.i .i64 0), (.i .i64 0), (.i .i64 0), (.i .i64 0), (.i .i64 0)])])
  ((.seq (.reg [.op (.mv 5 (.t 0)),
    .op (.mv 6 (.t 1)),
    .op (.build 7 [(.i .i64 0), (.i .i64 0), (.i .i64 0), (.i .i64 0), (.i .i64 0)] [(0, 1, (.t 5)), (1, 1, (.k (.i .i64 50))), (3, 1, (.t 6))]),
    .op (.st (.t 4) (.t 7) 5 false)])
  (.ret)))))
  [.c 4 5 true] false none

/-- nursery/mutex.operations -/
def F_mutex_operations : F := .mk
  ((.seq (.reg [.op (.mv 0 (.k .nilmap))])
  ((.seq (.reg [.op (.mkm 1),
    .op (.mput (.t 1) (.k (.i .i64 50)) (.k (.fn mutex_lock [] [])) [.i]),
    .op (.mput (.t 1) (.k (.i .i64 51)) (.k (.fn mutex_operationsC1 [] [])) [.i]),
    .op (.mput (.t 1) (.k (.i .i64 52)) (.k (.fn mutex_unlock [] [])) [.i]),
    .op (.mv 2 (.t 1)),
    .op (.mv 0 (.t 2))])
  (.ret)))))
  [.t 0] true none

/-- nursery/mutex.isTask -/
def F_mutex_isTask : F := .mk
  ((.seq (.reg [.op (.mv 2 (.k (.b false)))])
  ((.seq (.reg [.op (.mv 3 (.t 0)),
    .op (.bin 4 .geq (.t 3) (.k (.i .i64 0))),
    .op (.mv 5 (.t 4)),
    .sc false 8 5 [.op (.mv 6 (.t 0)), .op (.bin 7 .lss (.t 6) (.k (.i .i64 16)))] (.t 7),
    .op (.mv 2 (.t 8))])
  (.ret)))))
  [.t 2] false none

/-- nursery/mutex.waits -/
def F_mutex_waits : F := .mk
  ((.seq (.reg [.op (.box 2 (.t 0) 9 true),
    .op (.box 3 (.t 1) 1 true),
    .op (.mv 4 (.k (.b false)))])
  ((.seq (.reg [.op (.fa 5 (.t 2) 4 1),
    .op (.ld 6 (.t 5) 1 false),
    .op (.mkf 7 mutex_waitsC1 [] [(.t 3)]),
    .op (.call (some 8) slices_ContainsFunc_api_Waiter_api_Waiter [(.t 6), (.t 7)]),
    .op (.mv 4 (.t 8))])
  (.ret)))))
  [.t 4] false none

def F_mutex_valid_L0 : C :=
  (.seq (.reg [.op (.bin 64 .lss (.t 63) (.t 62))])
  ((.seq (.ite (.t 64)
    (.skip)
    (.seq (.keep []) (.exit 0)))
  ((.seq (.blk 1 ((.seq (.reg [.op (.mv 65 (.t 63)),
     .op (.ixs 66 (.t 61) (.t 63) 5),
     .op (.ld 67 (.t 66) 5 true),
     .op (.new 4 [(.i .i64 0), (.i .i64 0), (.i .i64 0), (.i .i64 0), (.i .i64 0)]),
     .op (.mv 3 (.t 65)),
     .op (.st (.t 4) (.t 67) 5 true)])
   ((.seq ((.seq (.reg [.op (.fa 68 (.t 4) 1 1),
     .op (.ld 69 (.t 68) 1 false),
     .op (.bin 70 .neq (.t 69) (.k (.i .i64 50))),
     .op (.mv 71 (.t 70)),
     .sc true 75 71 [.op (.fa 72 (.t 4) 2 1), .op (.ld 73 (.t 72) 1 false), .op (.bin 74 .neq (.t 73) (.k (.i .i64 0)))] (.t 74),
     .op (.mv 76 (.t 75)),
     .sc true 80 76 [.op (.fa 77 (.t 4) 4 1), .op (.ld 78 (.t 77) 1 false), .op (.bin 79 .neq (.t 78) (.k (.i .i64 (-1))))] (.t 79),
     .op (.mv 81 (.t 80)),
     .sc true 87 81 [.op (.fa 82 (.t 4) 0 1), .op (.ld 83 (.t 82) 1 false), .op (.fa 84 (.t 1) 0 1), .op (.ld 85 (.t 84) 1 false), .op (.bin 86 .eql (.t 83) (.t 85))] (.t 86)])
   (.ite (.t 87)
     ((.seq (.reg [.op (.mv 2 (.k (.b false)))])
     (.seq (.keep [2]) .ret)))
     (.skip))))
   ((.seq (.reg [.op (.fa 88 (.t 1) 4 1),
     .op (.ld 89 (.t 88) 1 false),
     .op (.mv 90 (.t 3)),
     .op (.sl 91 (.t 89) none (some (.t 90)) 5),
     .op (.mkf 92 mutex_validC1 [] [(.t 4)]),
     .op (.call (some 93) slices_ContainsFunc_api_Waiter_api_Waiter [(.t 91), (.t 92)])])
   (.ite (.t 93)
     ((.seq (.reg [.op (.mv 2 (.k (.b false)))])
     (.seq (.keep [2]) .ret)))
     (.skip)))))))))
  (.reg [.op (.bin 94 .add (.t 63) (.k (.i .i64 1))),
    .op (.mv 63 (.t 94))]))))))

/-- nursery/mutex.valid -/
def F_mutex_valid : F := .mk
  ((.seq (.reg [.op (.box 1 (.t 0) 9 true),
    .op (.mv 2 (.k (.b false)))])
  ((.seq ((.seq (.reg [.op (.fa 5 (.t 1) 0 1),
    .op (.ld 6 (.t 5) 1 false),
    .op (.bin 7 .neq (.t 6) (.k (.i .i64 (-1)))),
    .op (.mv 8 (.t 7)),
    .sc false 13 8 [.op (.fa 9 (.t 1) 0 1), .op (.ld 10 (.t 9) 1 false), .op (.call (some 11) mutex_isTask [(.t 10)]), .op (.un 12 .not (.t 11))] (.t 12),
    .op (.mv 14 (.t 13)),
    .sc true 24 14 [.op (.fa 15 (.t 1) 0 1), .op (.ld 16 (.t 15) 1 false), .op (.bin 17 .eql (.t 16) (.k (.i .i64 (-1)))), .op (.mv 18 (.t 17)), .sc false 23 18 [.op (.fa 19 (.t 1) 4 1), .op (.ld 20 (.t 19) 1 false), .op (.len 21 (.t 20) .sl), .op (.bin 22 .gtr (.t 21) (.k (.i .i64 0)))] (.t 22)] (.t 23)])
  (.ite (.t 24)
    ((.seq (.reg [.op (.mv 2 (.k (.b false)))])
    (.ret)))
    (.skip))))
  ((.seq ((.seq (.reg [.op (.fa 25 (.t 1) 1 1),
    .op (.ld 26 (.t 25) 1 false),
    .op (.bin 27 .neq (.t 26) (.k (.i .i64 0))),
    .op (.mv 28 (.t 27)),
    .sc true 32 28 [.op (.fa 29 (.t 1) 2 1), .op (.ld 30 (.t 29) 1 false), .op (.bin 31 .neq (.t 30) (.k (.i .i64 0)))] (.t 31),
    .op (.mv 33 (.t 32)),
    .sc true 37 33 [.op (.fa 34 (.t 1) 8 1), .op (.ld 35 (.t 34) 1 false), .op (.bin 36 .neq (.t 35) (.k (.i .i64 0)))] (.t 36),
    .op (.mv 38 (.t 37)),
    .sc true 41 38 [.op (.fa 39 (.t 1) 7 1), .op (.ld 40 (.t 39) 1 false)] (.t 40),
    .op (.mv 42 (.t 41)),
    .sc true 55 42 [.op (.fa 43 (.t 1) 3 1), .op (.ld 44 (.t 43) 1 false), .op (.len 45 (.t 44) .sl), .op (.fa 46 (.t 1) 5 1), .op (.ld 47 (.t 46) 1 false), .op (.len 48 (.t 47) .sl), .op (.bin 49 .add (.t 45) (.t 48)), .op (.fa 50 (.t 1) 6 1), .op (.ld 51 (.t 50) 1 false), .op (.len 52 (.t 51) .sl), .op (.bin 53 .add (.t 49) (.t 52)), .op (.bin 54 .gtr (.t 53) (.k (.i .i64 0)))] (.t 54)])
  (.ite (.t 55)
    ((.seq (.reg [.op (.mv 2 (.k (.b false)))])
    (.ret)))
    (.skip))))
  ((.seq ((.seq (.reg [.op (.fa 56 (.t 1) 4 1),
    .op (.ld 57 (.t 56) 1 false),
    .op (.call (some 58) waitlist_Check [(.k (.i .i64 2)), (.t 57)]),
    .op (.bin 59 .neq (.t 58) (.k (.i .i64 0)))])
  (.ite (.t 59)
    ((.seq (.reg [.op (.mv 2 (.k (.b false)))])
    (.ret)))
    (.skip))))
  ((.seq ((.seq (.reg [.op (.fa 60 (.t 1) 4 1),
    .op (.ld 61 (.t 60) 1 false),
    .op (.len 62 (.t 61) .sl),
    .op (.mv 63 (.k (.i .i64 0)))])
  (.blk 0 (.loop [1, 61, 62, 63] F_mutex_valid_L0))))
  ((.seq (.reg [.op (.mv 2 (.k (.b true)))])
  (.ret)))))))))))))
  [.t 2] false none

/-- nursery/nurseryref16.Task -/
def F_nurseryref16_Task : F := .mk
  ((.seq (.reg [.op (.mv 2 (.k (.b false)))])
  ((.seq (.reg [.op (.mv 3 (.t 0)),
    .op (.bin 4 .geq (.t 3) (.k (.i .i64 0))),
    .op (.mv 5 (.t 4)),
    .sc false 8 5 [.op (.mv 6 (.t 0)), .op (.bin 7 .lss (.t 6) (.k (.i .i64 16)))] (.t 7),
    .op (.mv 2 (.t 8))])
  (.ret)))))
  [.t 2] false none

def F_nurseryref16_Waits_L0 : C :=
  (.seq ((.seq (.reg [.op (.mv 6 (.t 5)),
    .op (.mv 7 (.t 0)),
    .op (.len 8 (.t 7) .sl),
    .op (.bin 9 .lss (.t 6) (.t 8))])
  (.ite (.t 9)
    (.skip)
    (.seq (.keep []) (.exit 0)))))
  ((.seq (.blk 1 ((.seq (.reg [.op (.mv 12 (.t 0)),
     .op (.mv 13 (.t 5)),
     .op (.ixs 14 (.t 12) (.t 13) 5),
     .op (.fa 15 (.t 14) 0 1),
     .op (.ld 16 (.t 15) 1 false),
     .op (.mv 17 (.t 1)),
     .op (.bin 18 .eql (.t 16) (.t 17))])
   (.ite (.t 18)
     ((.seq (.reg [.op (.mv 4 (.k (.b true)))])
     (.seq (.keep [4]) .ret)))
     (.skip)))))
  (.reg [.op (.mv 10 (.t 5)),
    .op (.bin 11 .add (.t 10) (.k (.i .i64 1))),
    .op (.mv 5 (.t 11))]))))

/-- nursery/nurseryref16.Waits -/
def F_nurseryref16_Waits : F := .mk
  ((.seq (.reg [.op (.mv 4 (.k (.b false)))])
  ((.seq ((.seq (.reg [.op (.mv 5 (.k (.i .i64 0)))])
  (.blk 0 (.loop [0, 1, 5] F_nurseryref16_Waits_L0))))
  ((.seq (.reg [.op (.mv 4 (.k (.b false)))])
  (.ret)))))))
  [.t 4] false none

def F_nurseryref16_lock_L0 : C :=
  (.seq ((.seq (.drw [] [0, 1, 2, 3, 4, 5, 6, 7, 8, 9, 10, 11, 12, 13, 14, 15] [.op (.mv 22 (.t 6)),
    .op (.fa 23 (.t 2) 4 1),
    .op (.ld 24 (.t 23) 1 false),
    .op (.len 25 (.t 24) .sl),
    .op (.bin 26 .lss (.t 22) (.t 25)),
    .op (.mv 27 (.t 26)),
    .sc false 37 27 [.op (.fa 28 (.t 2) 4 1), .op (.ld 29 (.t 28) 1 false), .op (.mv 30 (.t 6)), .op (.ixs 31 (.t 29) (.t 30) 5), .op (.fa 32 (.t 31) 3 1), .op (.ld 33 (.t 32) 1 false), .op (.fad 34 (.t 3) 3 1), .op (.ldd 35 (.t 34) 1 false), .op (.bin 36 .geq (.t 33) (.t 35))] (.t 36)])
  (.ite (.t 37)
    (.skip)
    (.seq (.keep [2, 3, 4, 6]) (.exit 0)))))
  (.blk 1 (.reg [.op (.mv 38 (.t 6)),
     .op (.bin 39 .add (.t 38) (.k (.i .i64 1))),
     .op (.mv 6 (.t 39))])))

/-- nursery/nurseryref16.lock -/
def F_nurseryref16_lock : F := .mk
  ((.seq (.reg [.op (.box 2 (.t 0) 9 false),
    .op (.box 3 (.t 1) 5 true),
    .op (.new 4 [(.i .i64 0), (.i .i64 0), (.i .i64 0), (.sl 1 true []), (.sl 5 true []), (.sl 1 true []), (.sl 2 true []), (.b false), (.i .i64 0), (.b false), (.i .i64 0), (.b false), (.sl 5 true [])]),
    .op (.mv 5 (.k (.i .i64 0)))])
  ((.seq ((.seq (.reg [.op (.fa 8 (.t 2) 0 1),
    .op (.ld 9 (.t 8) 1 false),
    .op (.fa 10 (.t 3) 0 1),
    .op (.ld 11 (.t 10) 1 false),
    .op (.bin 12 .eql (.t 9) (.t 11))])
  (.ite (.t 12)
    ((.seq (.reg [.op (.build 13 [(.i .i64 0), (.i .i64 0), (.i .i64 0), (.sl 1 true []), (.sl 5 true []), (.sl 1 true []), (.sl 2 true []), (.b false), (.i .i64 0), (.b false), (.i .i64 0), (.b false), (.sl 5 true [])] []),
      .op (.st (.t 4) (.t 13) 13 false),
      .op (.mv 5 (.k (.i .i64 17)))])
    (.ret)))
    (.skip))))
  ((.seq ((.seq (.reg [.op (.fa 14 (.t 2) 0 1),
    .op (.ld 15 (.t 14) 1 false),
    .op (.bin 16 .eql (.t 15) (.k (.i .i64 (-1))))])
  (.ite (.t 16)
    ((.seq (.reg [.op (.fa 17 (.t 3) 0 1),
      .op (.ld 18 (.t 17) 1 false),
      .op (.fa 19 (.t 2) 0 1),
      .op (.st (.t 19) (.t 18) 1 false)])
    ((.seq (.reg [.op (.ld 20 (.t 2) 9 true),
      .op (.build 21 [(.i .i64 0), (.i .i64 0), (.i .i64 0), (.sl 1 true []), (.sl 5 true []), (.sl 1 true []), (.sl 2 true []), (.b false), (.i .i64 0), (.b false), (.i .i64 0), (.b false), (.sl 5 true [])] [(0, 9, (.t 20)), (11, 1, (.k (.b true)))]),
      .op (.st (.t 4) (.t 21) 13 false),
      .op (.mv 5 (.k (.i .i64 0)))])
    (.ret)))))
    (.skip))))
  ((.seq (.reg [.op (.mv 6 (.k (.i .i64 0)))])
  ((.seq (.blk 0 (.loop [2, 3, 4, 6] F_nurseryref16_lock_L0))
  ((.seq (.reg [.op (.buildSl 40 5 0 [(.i .i64 0), (.i .i64 0), (.i .i64 0), (.i .i64 0), (.i .i64 0)] [] false),
    .op (.fa 41 (.t 2) 4 1),
    .op (.ld 42 (.t 41) 1 false),
    .op (.mv 43 (.t 6)),
    .op (.sl 44 (.t 42) none (some (.t 43)) 5),
    .op (.app 45 (.t 40) (.t 44) 5),
    .op (.mv 7 (.t 45))])
  ((.seq (.reg [.op (.mv 46 (.t 7)),
    .op (.fa 47 (.t 3) 0 1),
    .op (.ld 48 (.t 47) 1 false),
    .op (.fa 49 (.t 3) 3 1),
    .op (.ld 50 (.t 49) 1 false),
    .op (.build 51 [(.i .i64 0), (.i .i64 0), (.i .i64 0), (.i .i64 0), (.i .i64 0)] [(0, 1, (.t 48)), (1, 1, (.k (.i .i64 50))), (3, 1, (.t 50)), (4, 1, (.k (.i .i64 (-1))))]),
    .op (.buildSl 52 5 1 [(.i .i64 0), (.i .i64 0), (.i .i64 0), (.i .i64 0), (.i .i64 0)] [(0, (.t 51))] true),
    .op (.app 53 (.t 46) (.t 52) 5),
    .op (.mv 7 (.t 53))])
  ((.seq (.reg [.op (.mv 54 (.t 7)),
    .op (.fa 55 (.t 2) 4 1),
    .op (.ld 56 (.t 55) 1 false),
    .op (.mv 57 (.t 6)),
    .op (.sl 58 (.t 56) (some (.t 57)) none 5),
    .op (.app 59 (.t 54) (.t 58) 5),
    .op (.fa 60 (.t 2) 4 1),
    .op (.st (.t 60) (.t 59) 1 false)])
  ((.seq (.reg [.op (.ld 61 (.t 2) 9 true),
    .op (.build 62 [(.i .i64 0), (.i .i64 0), (.i .i64 0), (.sl 1 true []), (.sl 5 true []), (.sl 1 true []), (.sl 2 true []), (.b false), (.i .i64 0), (.b false), (.i .i64 0), (.b false), (.sl 5 true [])] [(0, 9, (.t 61)), (9, 1, (.k (.b true)))]),
    .op (.st (.t 4) (.t 62) 13 false),
    .op (.mv 5 (.k (.i .i64 0)))])
  (.ret)))))))))))))))))))
  [.c 4 13 true, .t 5] false none

def F_nurseryref16_sameCursors_L0 : C :=
  (.seq ((.seq (.reg [.op (.mv 11 (.t 5)),
    .op (.mv 12 (.t 0)),
    .op (.len 13 (.t 12) .sl),
    .op (.bin 14 .lss (.t 11) (.t 13))])
  (.ite (.t 14)
    (.skip)
    (.seq (.keep []) (.exit 0)))))
  ((.seq (.blk 1 ((.seq (.drw [] [0, 1, 2, 3, 4, 5, 6, 7, 8, 9, 10, 11, 12, 13, 14, 15, 16, 17, 18, 19, 20, 21, 22, 23, 24] [.op (.mv 17 (.t 0)),
     .op (.mv 18 (.t 5)),
     .op (.ixs 19 (.t 17) (.t 18) 2),
     .op (.fa 20 (.t 19) 0 1),
     .op (.ld 21 (.t 20) 1 false),
     .op (.mv 22 (.t 1)),
     .op (.mv 23 (.t 5)),
     .op (.ixs 24 (.t 22) (.t 23) 2),
     .op (.fa 25 (.t 24) 0 1),
     .op (.ld 26 (.t 25) 1 false),
     .op (.bin 27 .neq (.t 21) (.t 26)),
     .op (.mv 28 (.t 27)),
     .sc true 41 28 [.op (.mv 29 (.t 0)), .op (.mv 30 (.t 5)), .op (.ixs 31 (.t 29) (.t 30) 2), .op (.fa 32 (.t 31) 1 1), .op (.ld 33 (.t 32) 1 false), .op (.mv 34 (.t 1)), .op (.mv 35 (.t 5)), .op (.ixs 36 (.t 34) (.t 35) 2), .op (.fa 37 (.t 36) 1 1), .op (.ld 38 (.t 37) 1 false), .op (.call (some 39) nurseryref04_SameInts [(.t 33), (.t 38)]), .op (.un 40 .not (.t 39))] (.t 40)])
   (.ite (.t 41)
     ((.seq (.reg [.op (.mv 4 (.k (.b false)))])
     (.seq (.keep [4]) .ret)))
     (.skip)))))
  (.reg [.op (.mv 15 (.t 5)),
    .op (.bin 16 .add (.t 15) (.k (.i .i64 1))),
    .op (.mv 5 (.t 16))]))))

/-- nursery/nurseryref16.sameCursors -/
def F_nurseryref16_sameCursors : F := .mk
  ((.seq (.reg [.op (.mv 4 (.k (.b false)))])
  ((.seq ((.seq (.reg [.op (.mv 6 (.t 0)),
    .op (.len 7 (.t 6) .sl),
    .op (.mv 8 (.t 1)),
    .op (.len 9 (.t 8) .sl),
    .op (.bin 10 .neq (.t 7) (.t 9))])
  (.ite (.t 10)
    ((.seq (.reg [.op (.mv 4 (.k (.b false)))])
    (.ret)))
    (.skip))))
  ((.seq ((.seq (.reg [.op (.mv 5 (.k (.i .i64 0)))])
  (.blk 0 (.loop [0, 1, 5] F_nurseryref16_sameCursors_L0))))
  ((.seq (.reg [.op (.mv 4 (.k (.b true)))])
  (.ret)))))))))
  [.t 4] false none

def F_nurseryref16_queue_L0 : C :=
  (.seq ((.seq (.reg [.op (.mv 7 (.t 5)),
    .op (.mv 8 (.t 1)),
    .op (.len 9 (.t 8) .sl),
    .op (.bin 10 .lss (.t 7) (.t 9))])
  (.ite (.t 10)
    (.skip)
    (.seq (.keep [0, 1]) (.exit 0)))))
  ((.seq (.blk 1 ((.seq (.reg [.op (.mv 13 (.t 1)),
     .op (.mv 14 (.t 5)),
     .op (.ixs 15 (.t 13) (.t 14) 5),
     .op (.ld 16 (.t 15) 5 true),
     .op (.new 6 [(.i .i64 0), (.i .i64 0), (.i .i64 0), (.i .i64 0), (.i .i64 0)]),
     .op (.st (.t 6) (.t 16) 5 true)])
   ((.seq ((.seq (.drw [] [0, 1, 2, 3, 4, 5, 6, 7, 8, 9, 10, 11, 12, 13, 14, 15, 16, 17, 18, 19, 20, 21, 22, 23, 24, 25, 26, 27, 28, 29, 30, 31, 32, 33, 34, 35, 36, 37, 38, 39, 40, 41, 42] [.op (.fad 17 (.t 6) 0 1),
     .op (.ldd 18 (.t 17) 1 false),
     .op (.call (some 19) nurseryref16_Task [(.t 18)]),
     .op (.un 20 .not (.t 19)),
     .op (.mv 21 (.t 20)),
     .sc true 26 21 [.op (.fad 22 (.t 6) 0 1), .op (.ldd 23 (.t 22) 1 false), .op (.mv 24 (.t 0)), .op (.bin 25 .eql (.t 23) (.t 24))] (.t 25),
     .op (.mv 27 (.t 26)),
     .sc true 34 27 [.op (.mv 28 (.t 1)), .op (.mv 29 (.t 5)), .op (.sl 30 (.t 28) none (some (.t 29)) 5), .op (.fad 31 (.t 6) 0 1), .op (.ldd 32 (.t 31) 1 false), .op (.call (some 33) nurseryref16_Waits [(.t 30), (.t 32)])] (.t 33),
     .op (.mv 35 (.t 34)),
     .sc true 39 35 [.op (.fad 36 (.t 6) 1 1), .op (.ldd 37 (.t 36) 1 false), .op (.bin 38 .neq (.t 37) (.k (.i .i64 50)))] (.t 38),
     .op (.mv 40 (.t 39)),
     .sc true 44 40 [.op (.fad 41 (.t 6) 2 1), .op (.ldd 42 (.t 41) 1 false), .op (.bin 43 .neq (.t 42) (.k (.i .i64 0)))] (.t 43),
     .op (.mv 45 (.t 44)),
     .sc true 49 45 [.op (.fad 46 (.t 6) 3 1), .op (.ldd 47 (.t 46) 1 false), .op (.bin 48 .lss (.t 47) (.k (.i .i64 0)))] (.t 48),
     .op (.mv 50 (.t 49)),
     .sc true 54 50 [.op (.fad 51 (.t 6) 3 1), .op (.ldd 52 (.t 51) 1 false), .op (.bin 53 .gtr (.t 52) (.k (.i .i64 9)))] (.t 53),
     .op (.mv 55 (.t 54)),
     .sc true 59 55 [.op (.fad 56 (.t 6) 4 1), .op (.ldd 57 (.t 56) 1 false), .op (.bin 58 .neq (.t 57) (.k (.i .i64 (-1))))] (.t 58)])
   (.ite (.t 59)
     ((.seq (.reg [.op (.mv 4 (.k (.b false)))])
     (.seq (.keep [4]) .ret)))
     (.skip))))
   ((.seq (.drw [] [0, 1, 2, 3, 4, 5, 6, 7, 8, 9, 10, 11, 12] [.op (.mv 60 (.t 5)),
     .op (.bin 61 .gtr (.t 60) (.k (.i .i64 0))),
     .op (.mv 62 (.t 61)),
     .sc false 72 62 [.op (.mv 63 (.t 1)), .op (.mv 64 (.t 5)), .op (.bin 65 .sub (.t 64) (.k (.i .i64 1))), .op (.ixs 66 (.t 63) (.t 65) 5), .op (.fa 67 (.t 66) 3 1), .op (.ld 68 (.t 67) 1 false), .op (.fad 69 (.t 6) 3 1), .op (.ldd 70 (.t 69) 1 false), .op (.bin 71 .lss (.t 68) (.t 70))] (.t 71)])
   (.ite (.t 72)
     ((.seq (.reg [.op (.mv 4 (.k (.b false)))])
     (.seq (.keep [4]) .ret)))
     (.skip)))))))))
  (.reg [.op (.mv 11 (.t 5)),
    .op (.bin 12 .add (.t 11) (.k (.i .i64 1))),
    .op (.mv 5 (.t 12))]))))

/-- nursery/nurseryref16.queue -/
def F_nurseryref16_queue : F := .mk
  ((.seq (.reg [.op (.mv 4 (.k (.b false)))])
  ((.seq ((.seq (.reg [.op (.mv 5 (.k (.i .i64 0)))])
  (.blk 0 (.loop [0, 1, 5] F_nurseryref16_queue_L0))))
  ((.seq (.reg [.op (.mv 73 (.t 1)),
    .op (.len 74 (.t 73) .sl),
    .op (.bin 75 .eql (.t 74) (.k (.i .i64 0))),
    .op (.mv 76 (.t 75)),
    .sc true 79 76 [.op (.mv 77 (.t 0)), .op (.bin 78 .neq (.t 77) (.k (.i .i64 (-1))))] (.t 78),
    .op (.mv 4 (.t 79))])
  (.ret)))))))
  [.t 4] false none

/-- nursery/waitlist.Remove -/
def F_waitlist_Remove : F := .mk
  ((.seq (.reg [.op (.box 3 (.t 1) 1 true),
    .op (.mv 4 (.k (.sl 5 true [])))])
  ((.seq (.reg [.op (.mv 5 (.t 0)),
    .op (.mkf 6 waitlist_RemoveC1 [] [(.t 3)]),
    .op (.call (some 7) waitlist_filter [(.t 5), (.t 6)]),
    .op (.mv 4 (.t 7))])
  (.ret)))))
  [.t 4] false none

/-- nursery/mutex.lock -/
def F_mutex_lock : F := .mk
  ((.seq (.reg [.op (.box 2 (.t 0) 9 false),
    .op (.box 3 (.t 1) 5 true),
    .op (.new 4 [(.i .i64 0), (.i .i64 0), (.i .i64 0), (.sl 1 true []), (.sl 5 true []), (.sl 1 true []), (.sl 2 true []), (.b false), (.i .i64 0), (.b false), (.i .i64 0), (.b false), (.sl 5 true [])]),
    .op (.mv 5 (.k (.i .i64 0)))])
  ((.seq ((.seq (.reg [.op (.fa 9 (.t 2) 0 1),
    .op (.ld 10 (.t 9) 1 false)])
  (.blk 0 ((.seq (.reg [.op (.bin 12 .eql (.t 10) (.k (.i .i64 (-1)))),
     .op (.mv 11 (.t 12))])
   (.ite (.t 11)
     ((.seq (.reg [.op (.fa 13 (.t 3) 0 1),
       .op (.ld 14 (.t 13) 1 false),
       .op (.fa 15 (.t 2) 0 1),
       .op (.st (.t 15) (.t 14) 1 false)])
     ((.seq (.reg [.op (.ld 16 (.t 2) 9 true),
       .op (.build 17 [(.i .i64 0), (.i .i64 0), (.i .i64 0), (.sl 1 true []), (.sl 5 true []), (.sl 1 true []), (.sl 2 true []), (.b false), (.i .i64 0), (.b false), (.i .i64 0), (.b false), (.sl 5 true [])] [(0, 9, (.t 16)), (11, 1, (.k (.b true)))]),
       .op (.st (.t 4) (.t 17) 13 false),
       .op (.mv 5 (.k (.i .i64 0)))])
     (.ret)))))
     ((.seq (.reg [.op (.fa 19 (.t 3) 0 1),
       .op (.ld 20 (.t 19) 1 false),
       .op (.bin 21 .eql (.t 10) (.t 20)),
       .op (.mv 18 (.t 21))])
     (.ite (.t 18)
       ((.seq (.reg [.op (.build 22 [(.i .i64 0), (.i .i64 0), (.i .i64 0), (.sl 1 true []), (.sl 5 true []), (.sl 1 true []), (.sl 2 true []), (.b false), (.i .i64 0), (.b false), (.i .i64 0), (.b false), (.sl 5 true [])] []),
         .op (.st (.t 4) (.t 22) 13 false),
         .op (.mv 5 (.k (.i .i64 17)))])
       (.ret)))
       (.skip))))))))))
  ((.seq (.reg [.op (.fa 24 (.t 2) 4 1),
    .op (.ld 25 (.t 24) 1 false),
    .op (.fa 26 (.t 3) 3 1),
    .op (.ld 27 (.t 26) 1 false),
    .op (.call (some 28) slices_BinarySearchFunc_api_Waiter_api_Waiter_int [(.t 25), (.t 27), (.k (.fn mutex_lockC1 [] []))]),
    .op (.mv 23 (.t 28)),
    .op (.ext 29 (.t 23) 0),
    .op (.ext 30 (.t 23) 1),
    .op (.mv 6 (.t 29)),
    .op (.mv 7 (.t 30))])
  ((.seq (.reg [.op (.fa 31 (.t 3) 0 1),
    .op (.ld 32 (.t 31) 1 false),
    .op (.fa 33 (.t 3) 3 1),
    .op (.ld 34 (.t 33) 1 false),
    .op (.build 35 [(.i .i64 0), (.i .i64 0), (.i .i64 0), (.i .i64 0), (.i .i64 0)] [(0, 1, (.t 32)), (1, 1, (.k (.i .i64 50))), (3, 1, (.t 34)), (4, 1, (.k (.i .i64 (-1))))]),
    .op (.new 8 [(.i .i64 0), (.i .i64 0), (.i .i64 0), (.i .i64 0), (.i .i64 0)]),
    .op (.st (.t 8) (.t 35) 5 true)])
  ((.seq (.drw [] [0, 1, 3, 4, 5, 2, 6, 7, 8] [.op (.fa 36 (.t 2) 4 1),
    .op (.ld 37 (.t 36) 1 false),
    .op (.mv 39 (.t 6)),
    .op (.ldd 40 (.t 8) 5 true),
    .op (.buildSl 41 5 1 [(.i .i64 0), (.i .i64 0), (.i .i64 0), (.i .i64 0), (.i .i64 0)] [(0, (.t 40))] true),
    .op (.callk (some 38) slices_Clone_api_Waiter_api_Waiter [(.t 37)]),
    .op (.callr (some 42) slices_Insert_api_Waiter_api_Waiter [(.t 38), (.t 39), (.t 41)]),
    .op (.fa 43 (.t 2) 4 1),
    .op (.st (.t 43) (.t 42) 1 false)])
  ((.seq (.reg [.op (.ld 44 (.t 2) 9 true),
    .op (.build 45 [(.i .i64 0), (.i .i64 0), (.i .i64 0), (.sl 1 true []), (.sl 5 true []), (.sl 1 true []), (.sl 2 true []), (.b false), (.i .i64 0), (.b false), (.i .i64 0), (.b false), (.sl 5 true [])] [(0, 9, (.t 44)), (9, 1, (.k (.b true)))]),
    .op (.st (.t 4) (.t 45) 13 false),
    .op (.mv 5 (.k (.i .i64 0)))])
  (.ret)))))))))))))
  [.c 4 13 true, .t 5] false none

/-- nursery/mutex.operations$1 -/
def F_mutex_operationsC1 : F := .mk
  ((.seq (.reg [.op (.box 2 (.t 0) 9 true),
    .op (.box 3 (.t 1) 5 true),
    .op (.new 4 [(.i .i64 0), (.i .i64 0), (.i .i64 0), (.sl 1 true []), (.sl 5 true []), (.sl 1 true []), (.sl 2 true []), (.b false), (.i .i64 0), (.b false), (.i .i64 0), (.b false), (.sl 5 true [])]),
    .op (.mv 5 (.k (.i .i64 0)))])
  ((.seq ((.seq (.reg [.op (.fa 6 (.t 2) 0 1),
    .op (.ld 7 (.t 6) 1 false),
    .op (.bin 8 .geq (.t 7) (.k (.i .i64 0)))])
  (.ite (.t 8)
    ((.seq (.reg [.op (.ld 9 (.t 2) 9 true),
      .op (.build 10 [(.i .i64 0), (.i .i64 0), (.i .i64 0), (.sl 1 true []), (.sl 5 true []), (.sl 1 true []), (.sl 2 true []), (.b false), (.i .i64 0), (.b false), (.i .i64 0), (.b false), (.sl 5 true [])] [(0, 9, (.t 9))]),
      .op (.st (.t 4) (.t 10) 13 false),
      .op (.mv 5 (.k (.i .i64 0)))])
    (.ret)))
    (.skip))))
  ((.seq (.reg [.op (.ld 11 (.t 2) 9 true),
    .op (.ld 12 (.t 3) 5 true),
    .op (.call (some 13) mutex_lock [(.t 11), (.t 12)]),
    .op (.ext 14 (.t 13) 0),
    .op (.ext 15 (.t 13) 1),
    .op (.st (.t 4) (.t 14) 13 false),
    .op (.mv 5 (.t 15))])
  (.ret)))))))
  [.c 4 13 true, .t 5] false none

/-- nursery/mutex.unlock -/
def F_mutex_unlock : F := .mk
  ((.seq (.reg [.op (.box 2 (.t 0) 9 false),
    .op (.box 3 (.t 1) 5 true),
    .op (.new 4 [(.i .i64 0), (.i .i64 0), (.i .i64 0), (.sl 1 true []), (.sl 5 true []), (.sl 1 true []), (.sl 2 true []), (.b false), (.i .i64 0), (.b false), (.i .i64 0), (.b false), (.sl 5 true [])]),
    .op (.mv 5 (.k (.i .i64 0)))])
  ((.seq ((.seq (.reg [.op (.fa 6 (.t 2) 0 1),
    .op (.ld 7 (.t 6) 1 false),
    .op (.fa 8 (.t 3) 0 1),
    .op (.ld 9 (.t 8) 1 false),
    .op (.bin 10 .neq (.t 7) (.t 9))])
  (.ite (.t 10)
    ((.seq (.reg [.op (.build 11 [(.i .i64 0), (.i .i64 0), (.i .i64 0), (.sl 1 true []), (.sl 5 true []), (.sl 1 true []), (.sl 2 true []), (.b false), (.i .i64 0), (.b false), (.i .i64 0), (.b false), (.sl 5 true [])] []),
      .op (.st (.t 4) (.t 11) 13 false),
      .op (.mv 5 (.k (.i .i64 20)))])
    (.ret)))
    (.skip))))
  ((.seq ((.seq (.reg [.op (.fa 12 (.t 2) 4 1),
    .op (.ld 13 (.t 12) 1 false),
    .op (.len 14 (.t 13) .sl),
    .op (.bin 15 .eql (.t 14) (.k (.i .i64 0)))])
  (.ite (.t 15)
    ((.seq (.reg [.op (.fa 16 (.t 2) 0 1),
      .op (.st (.t 16) (.k (.i .i64 (-1))) 1 false)])
    ((.seq (.reg [.op (.ld 17 (.t 2) 9 true),
      .op (.build 18 [(.i .i64 0), (.i .i64 0), (.i .i64 0), (.sl 1 true []), (.sl 5 true []), (.sl 1 true []), (.sl 2 true []), (.b false), (.i .i64 0), (.b false), (.i .i64 0), (.b false), (.sl 5 true [])] [(0, 9, (.t 17)), (11, 1, (.k (.b true)))]),
      .op (.st (.t 4) (.t 18) 13 false),
      .op (.mv 5 (.k (.i .i64 0)))])
    (.ret)))))
    (.skip))))
  ((.seq (.reg [.op (.fa 19 (.t 2) 4 1),
    .op (.ld 20 (.t 19) 1 false),
    .op (.ixs 21 (.t 20) (.k (.i .i64 0)) 5),
    .op (.fa 22 (.t 21) 0 1),
    .op (.ld 23 (.t 22) 1 false),
    .op (.fa 24 (.t 2) 0 1),
    .op (.st (.t 24) (.t 23) 1 false)])
  ((.seq (.reg [.op (.fa 25 (.t 2) 4 1),
    .op (.ld 26 (.t 25) 1 false),
    .op (.sl 27 (.t 26) (some (.k (.i .i64 1))) none 5),
    .op (.callk (some 28) slices_Clone_api_Waiter_api_Waiter [(.t 27)]),
    .op (.fa 29 (.t 2) 4 1),
    .op (.st (.t 29) (.t 28) 1 false)])
  ((.seq (.reg [.op (.ld 30 (.t 2) 9 true),
    .op (.fa 31 (.t 2) 0 1),
    .op (.ld 32 (.t 31) 1 false),
    .op (.build 33 [(.i .i64 0), (.i .i64 0), (.i .i64 0), (.b false), (.i .i64 0)] [(0, 1, (.t 32)), (1, 1, (.k (.i .i64 50))), (3, 1, (.k (.b true))), (4, 1, (.k (.i .i64 (-1))))]),
    .op (.buildSl 34 5 1 [(.i .i64 0), (.i .i64 0), (.i .i64 0), (.b false), (.i .i64 0)] [(0, (.t 33))] true),
    .op (.build 35 [(.i .i64 0), (.i .i64 0), (.i .i64 0), (.sl 1 true []), (.sl 5 true []), (.sl 1 true []), (.sl 2 true []), (.b false), (.i .i64 0), (.b false), (.i .i64 0), (.b false), (.sl 5 true [])] [(0, 9, (.t 30)), (11, 1, (.k (.b true))), (12, 1, (.t 34))]),
    .op (.st (.t 4) (.t 35) 13 false),
    .op (.mv 5 (.k (.i .i64 0)))])
  (.ret)))))))))))))
  [.c 4 13 true, .t 5] false none

/-- slices.ContainsFunc[[]nursery/api.Waiter,nursery/api.Waiter] -/
def F_slices_ContainsFunc_api_Waiter_api_Waiter : F := .mk
  ((.seq (.reg [.op (.mv 4 (.k (.b false)))])
  ((.seq (.reg [.op (.mv 5 (.t 0)),
    .op (.mv 6 (.t 1)),
    .op (.call (some 7) slices_IndexFunc_api_Waiter_api_Waiter [(.t 5), (.t 6)]),
    .op (.bin 8 .geq (.t 7) (.k (.i .i64 0))),
    .op (.mv 4 (.t 8))])
  (.ret)))))
  [.t 4] false none

/-- nursery/mutex.waits$1 -/
def F_mutex_waitsC1 : F := .mk
  ((.seq (.reg [.op (.box 2 (.t 0) 5 true),
    .op (.mv 3 (.k (.b false)))])
  ((.seq (.reg [.op (.fa 4 (.t 2) 0 1),
    .op (.ld 5 (.t 4) 1 false),
    .op (.ld 6 (.t 1) 1 false),
    .op (.bin 7 .eql (.t 5) (.t 6)),
    .op (.mv 3 (.t 7))])
  (.ret)))))
  [.t 3] false none

def F_waitlist_Check_L0 : C :=
  (.seq (.reg [.op (.bin 19 .lss (.t 18) (.t 17))])
  ((.seq (.ite (.t 19)
    (.skip)
    (.seq (.keep []) (.exit 0)))
  ((.seq (.blk 1 ((.seq (.reg [.op (.mv 20 (.t 18)),
     .op (.ixs 21 (.t 16) (.t 18) 5),
     .op (.ld 22 (.t 21) 5 true),
     .op (.new 6 [(.i .i64 0), (.i .i64 0), (.i .i64 0), (.i .i64 0), (.i .i64 0)]),
     .op (.mv 5 (.t 20)),
     .op (.st (.t 6) (.t 22) 5 true)])
   ((.seq ((.seq (.reg [.op (.ld 23 (.t 6) 5 true),
     .op (.call (some 24) waitlist_valid [(.t 23)]),
     .op (.un 25 .not (.t 24))])
   (.ite (.t 25)
     ((.seq (.reg [.op (.mv 4 (.k (.i .i64 2)))])
     (.seq (.keep [4]) .ret)))
     (.skip))))
   ((.seq (.drw [] [0, 1, 2, 3, 4, 5, 6, 7, 8, 9, 10, 11, 12, 13, 14, 15, 16] [.op (.mv 26 (.t 0)),
     .op (.bin 27 .eql (.t 26) (.k (.i .i64 2))),
     .op (.mv 28 (.t 27)),
     .sc false 31 28 [.op (.mv 29 (.t 5)), .op (.bin 30 .gtr (.t 29) (.k (.i .i64 0)))] (.t 30),
     .op (.mv 32 (.t 31)),
     .sc false 42 32 [.op (.fad 33 (.t 6) 3 1), .op (.ldd 34 (.t 33) 1 false), .op (.mv 35 (.t 1)), .op (.mv 36 (.t 5)), .op (.bin 37 .sub (.t 36) (.k (.i .i64 1))), .op (.ixs 38 (.t 35) (.t 37) 5), .op (.fa 39 (.t 38) 3 1), .op (.ld 40 (.t 39) 1 false), .op (.bin 41 .gtr (.t 34) (.t 40))] (.t 41)])
   (.ite (.t 42)
     ((.seq (.reg [.op (.mv 4 (.k (.i .i64 9)))])
     (.seq (.keep [4]) .ret)))
     (.skip)))))))))
  (.reg [.op (.bin 43 .add (.t 18) (.k (.i .i64 1))),
    .op (.mv 18 (.t 43))]))))))

/-- nursery/waitlist.Check -/
def F_waitlist_Check : F := .mk
  ((.seq (.reg [.op (.mv 4 (.k (.i .i64 0)))])
  ((.seq ((.seq (.reg [.op (.mv 7 (.t 0)),
    .op (.bin 8 .neq (.t 7) (.k (.i .i64 1))),
    .op (.mv 9 (.t 8)),
    .sc false 12 9 [.op (.mv 10 (.t 0)), .op (.bin 11 .neq (.t 10) (.k (.i .i64 2)))] (.t 11)])
  (.ite (.t 12)
    ((.seq (.reg [.op (.mv 4 (.k (.i .i64 8)))])
    (.ret)))
    (.skip))))
  ((.seq ((.seq (.reg [.op (.mv 13 (.t 1)),
    .op (.len 14 (.t 13) .sl),
    .op (.bin 15 .gtr (.t 14) (.k (.i .i64 96)))])
  (.ite (.t 15)
    ((.seq (.reg [.op (.mv 4 (.k (.i .i64 4)))])
    (.ret)))
    (.skip))))
  ((.seq ((.seq (.reg [.op (.mv 16 (.t 1)),
    .op (.len 17 (.t 16) .sl),
    .op (.mv 18 (.k (.i .i64 0)))])
  (.blk 0 (.loop [0, 1, 16, 17, 18] F_waitlist_Check_L0))))
  ((.seq (.reg [.op (.mv 4 (.k (.i .i64 0)))])
  (.ret)))))))))))
  [.t 4] false none

/-- nursery/mutex.valid$1 -/
def F_mutex_validC1 : F := .mk
  ((.seq (.reg [.op (.box 2 (.t 0) 5 true),
    .op (.mv 3 (.k (.b false)))])
  ((.seq (.reg [.op (.fa 4 (.t 2) 0 1),
    .op (.ld 5 (.t 4) 1 false),
    .op (.fa 6 (.t 1) 0 1),
    .op (.ld 7 (.t 6) 1 false),
    .op (.bin 8 .eql (.t 5) (.t 7)),
    .op (.mv 3 (.t 8))])
  (.ret)))))
  [.t 3] false none

def F_waitlist_filter_L0 : C :=
  (.seq (.reg [.op (.bin 11 .lss (.t 10) (.t 9))])
  ((.seq (.ite (.t 11)
    (.skip)
    (.seq (.keep [5]) (.exit 0)))
  ((.seq (.blk 1 ((.seq (.reg [.op (.ixs 12 (.t 8) (.t 10) 5),
     .op (.ld 13 (.t 12) 5 true),
     .op (.new 7 [(.i .i64 0), (.i .i64 0), (.i .i64 0), (.i .i64 0), (.i .i64 0)]),
     .op (.st (.t 7) (.t 13) 5 true)])
   ((.seq (.reg [.op (.mv 14 (.t 1)),
     .op (.ld 15 (.t 7) 5 true),
     .op (.callv (some 16) (.t 14) [(.t 15)])])
   (.ite (.t 16)
     (.reg [.op (.mv 17 (.t 5)),
       .op (.ld 18 (.t 7) 5 true),
       .op (.buildSl 19 5 1 [(.i .i64 0), (.i .i64 0), (.i .i64 0), (.i .i64 0), (.i .i64 0)] [(0, (.t 18))] true),
       .op (.app 20 (.t 17) (.t 19) 5),
       .op (.mv 5 (.t 20))])
     (.skip)))))))
  (.reg [.op (.bin 21 .add (.t 10) (.k (.i .i64 1))),
    .op (.mv 10 (.t 21))]))))))

/-- nursery/waitlist.filter -/
def F_waitlist_filter : F := .mk
  ((.seq (.reg [.op (.mv 4 (.k (.sl 5 true [])))])
  ((.seq (.reg [.op (.mv 5 (.k (.sl 5 true [])))])
  ((.seq ((.seq (.reg [.op (.mv 8 (.t 0)),
    .op (.len 9 (.t 8) .sl),
    .op (.mv 10 (.k (.i .i64 0)))])
  (.blk 0 (.loop [1, 5, 8, 9, 10] F_waitlist_filter_L0))))
  ((.seq (.reg [.op (.mv 22 (.t 5)),
    .op (.mv 4 (.t 22))])
  (.ret)))))))))
  [.t 4] false none

/-- nursery/waitlist.Remove$1 -/
def F_waitlist_RemoveC1 : F := .mk
  ((.seq (.reg [.op (.box 2 (.t 0) 5 true),
    .op (.mv 3 (.k (.b false)))])
  ((.seq (.reg [.op (.fa 4 (.t 2) 0 1),
    .op (.ld 5 (.t 4) 1 false),
    .op (.ld 6 (.t 1) 1 false),
    .op (.bin 7 .neq (.t 5) (.t 6)),
    .op (.mv 3 (.t 7))])
  (.ret)))))
  [.t 3] false none

def F_slices_BinarySearchFunc_api_Waiter_api_Waiter_int_L0 : C :=
  (.seq ((.seq (.reg [.op (.mv 15 (.t 9)),
    .op (.mv 16 (.t 10)),
    .op (.bin 17 .lss (.t 15) (.t 16))])
  (.ite (.t 17)
    (.skip)
    (.seq (.keep [0, 1, 2, 8, 9]) (.exit 0)))))
  (.blk 1 ((.seq (.reg [.op (.mv 18 (.t 9)),
     .op (.mv 19 (.t 10)),
     .op (.bin 20 .add (.t 18) (.t 19)),
     .op (.cvi 21 .u64 (.t 20)),
     .op (.bin 22 .shr (.t 21) (.k (.i .u64 1))),
     .op (.cvi 23 .i64 (.t 22)),
     .op (.mv 11 (.t 23))])
   ((.seq (.reg [.op (.mv 24 (.t 2)),
     .op (.mv 25 (.t 0)),
     .op (.mv 26 (.t 11)),
     .op (.ixs 27 (.t 25) (.t 26) 5),
     .op (.ld 28 (.t 27) 5 true),
     .op (.mv 29 (.t 1)),
     .op (.callv (some 30) (.t 24) [(.t 28), (.t 29)]),
     .op (.bin 31 .lss (.t 30) (.k (.i .i64 0)))])
   (.ite (.t 31)
     (.reg [.op (.mv 32 (.t 11)),
       .op (.bin 33 .add (.t 32) (.k (.i .i64 1))),
       .op (.mv 9 (.t 33))])
     (.reg [.op (.mv 34 (.t 11)),
       .op (.mv 10 (.t 34))]))))))))

/-- slices.BinarySearchFunc[[]nursery/api.Waiter,nursery/api.Waiter,int] -/
def F_slices_BinarySearchFunc_api_Waiter_api_Waiter_int : F := .mk
  ((.seq (.reg [.op (.mv 6 (.k (.i .i64 0))),
    .op (.mv 7 (.k (.b false)))])
  ((.seq (.reg [.op (.mv 12 (.t 0)),
    .op (.len 13 (.t 12) .sl),
    .op (.mv 8 (.t 13))])
  ((.seq (.reg [.op (.mv 14 (.t 8)),
    .op (.mv 9 (.k (.i .i64 0))),
    .op (.mv 10 (.t 14))])
  ((.seq (.blk 0 (.loop [0, 1, 2, 8, 9, 10] F_slices_BinarySearchFunc_api_Waiter_api_Waiter_int_L0))
  ((.seq (.reg [.op (.mv 35 (.t 9)),
    .op (.mv 36 (.t 9)),
    .op (.mv 37 (.t 8)),
    .op (.bin 38 .lss (.t 36) (.t 37)),
    .op (.mv 39 (.t 38)),
    .sc false 48 39 [.op (.mv 40 (.t 2)), .op (.mv 41 (.t 0)), .op (.mv 42 (.t 9)), .op (.ixs 43 (.t 41) (.t 42) 5), .op (.ld 44 (.t 43) 5 true), .op (.mv 45 (.t 1)), .op (.callv (some 46) (.t 40) [(.t 44), (.t 45)]), .op (.bin 47 .eql (.t 46) (.k (.i .i64 0)))] (.t 47),
    .op (.mv 6 (.t 35)),
    .op (.mv 7 (.t 48))])
  (.ret)))))))))))
  [.t 6, .t 7] false none

/-- nursery/mutex.lock$1 -/
def F_mutex_lockC1 : F := .mk
  ((.seq (.reg [.op (.box 2 (.t 0) 5 true),
    .op (.mv 4 (.k (.i .i64 0)))])
  ((.seq ((.seq (.reg [.op (.fa 5 (.t 2) 3 1),
    .op (.ld 6 (.t 5) 1 false),
    .op (.mv 7 (.t 1)),
    .op (.bin 8 .geq (.t 6) (.t 7))])
  (.ite (.t 8)
    ((.seq (.reg [.op (.mv 4 (.k (.i .i64 (-1))))])
    (.ret)))
    (.skip))))
  ((.seq (.reg [.op (.mv 9 (.t 1)),
    .op (.fa 10 (.t 2) 3 1),
    .op (.ld 11 (.t 10) 1 false),
    .op (.call (some 12) cmp_Compare_int [(.t 9), (.t 11)]),
    .op (.mv 4 (.t 12))])
  (.ret)))))))
  [.t 4] false none

/-- cmp.Compare[int] -/
def F_cmp_Compare_int : F := .mk
  ((.seq (.reg [.op (.mv 4 (.k (.i .i64 0)))])
  ((.seq (.reg [.op (.mv 7 (.t 0)),
    .op (.call (some 8) cmp_isNaN_int [(.t 7)]),
    .op (.mv 5 (.t 8))])
  ((.seq (.reg [.op (.mv 9 (.t 1)),
    .op (.call (some 10) cmp_isNaN_int [(.t 9)]),
    .op (.mv 6 (.t 10))])
  ((.seq ((.seq (.reg [.op (.mv 11 (.t 5))])
  (.ite (.t 11)
    ((.seq ((.seq (.reg [.op (.mv 12 (.t 6))])
    (.ite (.t 12)
      ((.seq (.reg [.op (.mv 4 (.k (.i .i64 0)))])
      (.ret)))
      (.skip))))
    ((.seq (.reg [.op (.mv 4 (.k (.i .i64 (-1))))])
    (.ret)))))
    (.skip))))
  ((.seq ((.seq (.reg [.op (.mv 13 (.t 6))])
  (.ite (.t 13)
    ((.seq (.reg [.op (.mv 4 (.k (.i .i64 1)))])
    (.ret)))
    (.skip))))
  ((.seq ((.seq (.reg [.op (.mv 14 (.t 0)),
    .op (.mv 15 (.t 1)),
    .op (.bin 16 .lss (.t 14) (.t 15))])
  (.ite (.t 16)
    ((.seq (.reg [.op (.mv 4 (.k (.i .i64 (-1))))])
    (.ret)))
    (.skip))))
  ((.seq ((.seq (.reg [.op (.mv 17 (.t 0)),
    .op (.mv 18 (.t 1)),
    .op (.bin 19 .gtr (.t 17) (.t 18))])
  (.ite (.t 19)
    ((.seq (.reg [.op (.mv 4 (.k (.i .i64 1)))])
    (.ret)))
    (.skip))))
  ((.seq (.reg [.op (.mv 4 (.k (.i .i64 0)))])
  (.ret)))))))))))))))))
  [.t 4] false none

/-- slices.Insert[[]nursery/api.Waiter,nursery/api.Waiter] -/
def R_slices_Insert_api_Waiter_api_Waiter : F := .mk
  ((.seq (.reg [.op (.mv 6 (.k (.sl 5 true [])))])
  ((.seq (.reg [.op (.mv 10 (.t 0)),
    .op (.mv 11 (.t 1)),
    .op (.sl 12 (.t 10) (some (.t 11)) none 5)])
  ((.seq (.reg [.op (.mv 13 (.t 2)),
    .op (.len 14 (.t 13) .sl),
    .op (.mv 7 (.t 14))])
  ((.seq ((.seq (.reg [.op (.mv 15 (.t 7)),
    .op (.bin 16 .eql (.t 15) (.k (.i .i64 0)))])
  (.ite (.t 16)
    ((.seq (.reg [.op (.mv 17 (.t 0)),
      .op (.mv 6 (.t 17))])
    (.ret)))
    (.skip))))
  ((.seq (.reg [.op (.mv 18 (.t 0)),
    .op (.len 19 (.t 18) .sl),
    .op (.mv 8 (.t 19))])
  ((.seq ((.seq (.reg [.op (.mv 20 (.t 1)),
    .op (.mv 21 (.t 8)),
    .op (.bin 22 .eql (.t 20) (.t 21))])
  (.ite (.t 22)
    ((.seq (.reg [.op (.mv 23 (.t 0)),
      .op (.mv 24 (.t 2)),
      .op (.app 25 (.t 23) (.t 24) 5),
      .op (.mv 6 (.t 25))])
    (.ret)))
    (.skip))))
  ((.seq ((.seq (.reg [.op (.mv 26 (.t 8)),
    .op (.mv 27 (.t 7)),
    .op (.bin 28 .add (.t 26) (.t 27)),
    .op (.mv 29 (.t 0)),
    .op (.cap 30 (.t 29)),
    .op (.bin 31 .gtr (.t 28) (.t 30))])
  (.ite (.t 31)
    ((.seq (.reg [.op (.mv 32 (.t 0)),
      .op (.mv 33 (.t 1)),
      .op (.sl 34 (.t 32) none (some (.t 33)) 5),
      .op (.mv 35 (.t 8)),
      .op (.mv 36 (.t 7)),
      .op (.bin 37 .add (.t 35) (.t 36)),
      .op (.mv 38 (.t 1)),
      .op (.bin 39 .sub (.t 37) (.t 38)),
      .op (.appz 40 (.t 34) (.t 39) 5 [(.i .i64 0), (.i .i64 0), (.i .i64 0), (.i .i64 0), (.i .i64 0)]),
      .op (.mv 9 (.t 40))])
    ((.seq (.reg [.op (.mv 41 (.t 9)),
      .op (.mv 42 (.t 1)),
      .op (.sl 43 (.t 41) (some (.t 42)) none 5),
      .op (.mv 44 (.t 2)),
      .op (.copy (some 45) (.t 43) (.t 44) 5)])
    ((.seq (.drw [] [0, 1, 2, 3, 4, 5, 6, 7, 8] [.op (.mv 46 (.t 9)),
      .op (.mv 47 (.t 1)),
      .op (.mv 48 (.t 7)),
      .op (.bin 49 .add (.t 47) (.t 48)),
      .op (.sl 50 (.t 46) (some (.t 49)) none 5),
      .op (.mv 51 (.t 0)),
      .op (.mv 52 (.t 1)),
      .op (.sl 53 (.t 51) (some (.t 52)) none 5),
      .op (.copy (some 54) (.t 50) (.t 53) 5)])
    ((.seq (.reg [.op (.mv 55 (.t 9)),
      .op (.mv 6 (.t 55))])
    (.ret)))))))))
    (.skip))))
  ((.seq (.reg [.op (.mv 56 (.t 0)),
    .op (.mv 57 (.t 8)),
    .op (.mv 58 (.t 7)),
    .op (.bin 59 .add (.t 57) (.t 58)),
    .op (.sl 60 (.t 56) none (some (.t 59)) 5),
    .op (.mv 0 (.t 60))])
  ((.seq ((.seq (.reg [.op (.mv 61 (.t 2)),
    .op (.mv 62 (.t 0)),
    .op (.mv 63 (.t 1)),
    .op (.mv 64 (.t 7)),
    .op (.bin 65 .add (.t 63) (.t 64)),
    .op (.sl 66 (.t 62) (some (.t 65)) none 5),
    .op (.ovl 67 slices_overlaps_api_Waiter (.t 61) (.t 66) 5),
    .op (.un 68 .not (.t 67))])
  (.ite (.t 68)
    ((.seq (.drw [] [0, 1, 2, 3, 4, 5, 6, 7, 8] [.op (.mv 69 (.t 0)),
      .op (.mv 70 (.t 1)),
      .op (.mv 71 (.t 7)),
      .op (.bin 72 .add (.t 70) (.t 71)),
      .op (.sl 73 (.t 69) (some (.t 72)) none 5),
      .op (.mv 74 (.t 0)),
      .op (.mv 75 (.t 1)),
      .op (.sl 76 (.t 74) (some (.t 75)) none 5),
      .op (.copy (some 77) (.t 73) (.t 76) 5)])
    ((.seq (.reg [.op (.mv 78 (.t 0)),
      .op (.mv 79 (.t 1)),
      .op (.sl 80 (.t 78) (some (.t 79)) none 5),
      .op (.mv 81 (.t 2)),
      .op (.copy (some 82) (.t 80) (.t 81) 5)])
    ((.seq (.reg [.op (.mv 83 (.t 0)),
      .op (.mv 6 (.t 83))])
    (.ret)))))))
    (.skip))))
  ((.seq (.reg [.op (.mv 84 (.t 0)),
    .op (.mv 85 (.t 8)),
    .op (.sl 86 (.t 84) (some (.t 85)) none 5),
    .op (.mv 87 (.t 2)),
    .op (.copy (some 88) (.t 86) (.t 87) 5)])
  ((.seq (.reg [.op (.mv 89 (.t 0)),
    .op (.mv 90 (.t 1)),
    .op (.sl 91 (.t 89) (some (.t 90)) none 5),
    .op (.mv 92 (.t 7)),
    .op (.call (some 93) slices_rotateRight_api_Waiter [(.t 91), (.t 92)])])
  ((.seq (.reg [.op (.mv 94 (.t 0)),
    .op (.mv 6 (.t 94))])
  (.ret)))))))))))))))))))))))))
  [.t 6] false none

/-- slices.Clone[[]nursery/api.Waiter,nursery/api.Waiter] -/
def F_slices_Clone_api_Waiter_api_Waiter : F := .mk
  ((.seq (.reg [.op (.mv 2 (.k (.sl 5 true [])))])
  ((.seq ((.seq (.reg [.op (.mv 3 (.t 0)),
    .op (.isnil 4 false (.t 3) .sl)])
  (.ite (.t 4)
    ((.seq (.reg [.op (.mv 2 (.k (.sl 5 true [])))])
    (.ret)))
    (.skip))))
  ((.seq (.reg [.op (.buildSl 5 5 0 [(.i .i64 0), (.i .i64 0), (.i .i64 0), (.i .i64 0), (.i .i64 0)] [] false),
    .op (.mv 6 (.t 0)),
    .op (.app 7 (.t 5) (.t 6) 5),
    .op (.mv 2 (.t 7))])
  (.ret)))))))
  [.t 2] true none

def F_slices_IndexFunc_api_Waiter_api_Waiter_L0 : C :=
  (.seq (.reg [.op (.bin 9 .lss (.t 8) (.t 7))])
  ((.seq (.ite (.t 9)
    (.skip)
    (.seq (.keep []) (.exit 0)))
  ((.seq (.blk 1 ((.seq (.reg [.op (.mv 10 (.t 8)),
     .op (.mv 5 (.t 10))])
   ((.seq (.reg [.op (.mv 11 (.t 1)),
     .op (.mv 12 (.t 0)),
     .op (.mv 13 (.t 5)),
     .op (.ixs 14 (.t 12) (.t 13) 5),
     .op (.ld 15 (.t 14) 5 true),
     .op (.callv (some 16) (.t 11) [(.t 15)])])
   (.ite (.t 16)
     ((.seq (.reg [.op (.mv 17 (.t 5)),
       .op (.mv 4 (.t 17))])
     (.seq (.keep [4]) .ret)))
     (.skip)))))))
  (.reg [.op (.bin 18 .add (.t 8) (.k (.i .i64 1))),
    .op (.mv 8 (.t 18))]))))))

/-- slices.IndexFunc[[]nursery/api.Waiter,nursery/api.Waiter] -/
def F_slices_IndexFunc_api_Waiter_api_Waiter : F := .mk
  ((.seq (.reg [.op (.mv 4 (.k (.i .i64 0)))])
  ((.seq ((.seq (.reg [.op (.mv 6 (.t 0)),
    .op (.len 7 (.t 6) .sl),
    .op (.mv 8 (.k (.i .i64 0)))])
  (.blk 0 (.loop [0, 1, 7, 8] F_slices_IndexFunc_api_Waiter_api_Waiter_L0))))
  ((.seq (.reg [.op (.mv 4 (.k (.i .i64 (-1))))])
  (.ret)))))))
  [.t 4] false none

/-- nursery/waitlist.valid -/
def F_waitlist_valid : F := .mk
  ((.seq (.reg [.op (.box 1 (.t 0) 5 true),
    .op (.mv 2 (.k (.b false)))])
  ((.seq (.blk 0 ((.seq (.reg [.op (.fa 4 (.t 1) 0 1),
     .op (.ld 5 (.t 4) 1 false),
     .op (.bin 6 .lss (.t 5) (.k (.i .i64 0))),
     .op (.mv 7 (.t 6)),
     .sc true 11 7 [.op (.fa 8 (.t 1) 0 1), .op (.ld 9 (.t 8) 1 false), .op (.bin 10 .geq (.t 9) (.k (.i .i64 16)))] (.t 10),
     .op (.mv 12 (.t 11)),
     .sc true 16 12 [.op (.fa 13 (.t 1) 1 1), .op (.ld 14 (.t 13) 1 false), .op (.bin 15 .lss (.t 14) (.k (.i .i64 1)))] (.t 15),
     .op (.mv 17 (.t 16)),
     .sc true 21 17 [.op (.fa 18 (.t 1) 1 1), .op (.ld 19 (.t 18) 1 false), .op (.bin 20 .gtr (.t 19) (.k (.i .i64 99)))] (.t 20),
     .op (.mv 22 (.t 21)),
     .sc true 26 22 [.op (.fa 23 (.t 1) 2 1), .op (.ld 24 (.t 23) 1 false), .op (.bin 25 .lss (.t 24) (.k (.i .i64 (-1099511627776))))] (.t 25),
     .op (.mv 27 (.t 26)),
     .sc true 31 27 [.op (.fa 28 (.t 1) 2 1), .op (.ld 29 (.t 28) 1 false), .op (.bin 30 .gtr (.t 29) (.k (.i .i64 1099511627776)))] (.t 30),
     .op (.mv 3 (.t 31))])
   (.ite (.t 3)
     ((.seq (.reg [.op (.mv 2 (.k (.b false)))])
     (.ret)))
     (.skip)))))
  ((.seq (.reg [.op (.fa 32 (.t 1) 3 1),
    .op (.ld 33 (.t 32) 1 false),
    .op (.bin 34 .geq (.t 33) (.k (.i .i64 0))),
    .op (.mv 35 (.t 34)),
    .sc false 39 35 [.op (.fa 36 (.t 1) 3 1), .op (.ld 37 (.t 36) 1 false), .op (.bin 38 .leq (.t 37) (.k (.i .i64 9)))] (.t 38),
    .op (.mv 40 (.t 39)),
    .sc false 44 40 [.op (.fa 41 (.t 1) 4 1), .op (.ld 42 (.t 41) 1 false), .op (.bin 43 .geq (.t 42) (.k (.i .i64 (-1))))] (.t 43),
    .op (.mv 45 (.t 44)),
    .sc false 49 45 [.op (.fa 46 (.t 1) 4 1), .op (.ld 47 (.t 46) 1 false), .op (.bin 48 .lss (.t 47) (.k (.i .i64 6)))] (.t 48),
    .op (.mv 2 (.t 49))])
  (.ret)))))))
  [.t 2] false none

/-- cmp.isNaN[int] -/
def F_cmp_isNaN_int : F := .mk
  ((.seq (.reg [.op (.mv 2 (.k (.b false)))])
  ((.seq (.reg [.op (.mv 3 (.t 0)),
    .op (.mv 4 (.t 0)),
    .op (.bin 5 .neq (.t 3) (.t 4)),
    .op (.mv 2 (.t 5))])
  (.ret)))))
  [.t 2] false none

/-- slices.rotateRight[nursery/api.Waiter] -/
def F_slices_rotateRight_api_Waiter : F := .mk
  (.reg [.op (.mv 4 (.t 0)),
    .op (.mv 5 (.t 0)),
    .op (.len 6 (.t 5) .sl),
    .op (.mv 7 (.t 1)),
    .op (.bin 8 .sub (.t 6) (.t 7)),
    .op (.call (some 9) slices_rotateLeft_api_Waiter [(.t 4), (.t 8)])])
  [] false none

/-- slices.rotateLeft[nursery/api.Waiter] -/
def F_slices_rotateLeft_api_Waiter : F := .mk
  ((.seq (.reg [.op (.mv 4 (.t 0)),
    .op (.mv 5 (.t 1)),
    .op (.sl 6 (.t 4) none (some (.t 5)) 5),
    .op (.call (some 7) slices_Reverse_api_Waiter_api_Waiter [(.t 6)])])
  ((.seq (.reg [.op (.mv 8 (.t 0)),
    .op (.mv 9 (.t 1)),
    .op (.sl 10 (.t 8) (some (.t 9)) none 5),
    .op (.call (some 11) slices_Reverse_api_Waiter_api_Waiter [(.t 10)])])
  (.reg [.op (.mv 12 (.t 0)),
    .op (.call (some 13) slices_Reverse_api_Waiter_api_Waiter [(.t 12)])])))))
  [] false none

def F_slices_Reverse_api_Waiter_api_Waiter_L0 : C :=
  (.seq ((.seq (.reg [.op (.mv 7 (.t 2)),
    .op (.mv 8 (.t 3)),
    .op (.bin 9 .lss (.t 7) (.t 8))])
  (.ite (.t 9)
    (.skip)
    (.seq (.keep []) (.exit 0)))))
  ((.seq (.blk 1 (.drw [] [0, 1, 2, 3, 4, 5, 6, 7, 8, 9, 10, 11, 12, 13, 14, 15] [.op (.mv 14 (.t 0)),
     .op (.mv 15 (.t 2)),
     .op (.mv 16 (.t 0)),
     .op (.mv 17 (.t 3)),
     .op (.mv 18 (.t 0)),
     .op (.mv 19 (.t 3)),
     .op (.ixs 20 (.t 18) (.t 19) 5),
     .op (.ld 21 (.t 20) 5 true),
     .op (.mv 22 (.t 0)),
     .op (.mv 23 (.t 2)),
     .op (.ixs 24 (.t 22) (.t 23) 5),
     .op (.ld 25 (.t 24) 5 true),
     .op (.ixs 26 (.t 14) (.t 15) 5),
     .op (.st (.t 26) (.t 21) 5 false),
     .op (.ixs 27 (.t 16) (.t 17) 5),
     .op (.st (.t 27) (.t 25) 5 false)]))
  (.reg [.op (.mv 10 (.t 2)),
    .op (.bin 11 .add (.t 10) (.k (.i .i64 1))),
    .op (.mv 12 (.t 3)),
    .op (.bin 13 .sub (.t 12) (.k (.i .i64 1))),
    .op (.mv 2 (.t 11)),
    .op (.mv 3 (.t 13))]))))

/-- slices.Reverse[[]nursery/api.Waiter,nursery/api.Waiter] -/
def F_slices_Reverse_api_Waiter_api_Waiter : F := .mk
  ((.seq (.reg [.op (.mv 4 (.t 0)),
    .op (.len 5 (.t 4) .sl),
    .op (.bin 6 .sub (.t 5) (.k (.i .i64 1))),
    .op (.mv 2 (.k (.i .i64 0))),
    .op (.mv 3 (.t 6))])
  (.blk 0 (.loop [0, 2, 3] F_slices_Reverse_api_Waiter_api_Waiter_L0))))
  [] false none
def F_slices_Insert_api_Waiter_api_Waiter : F := ⟨.skip, [], true, some (insP 5)⟩
def P : Prog := fun n => match n with
  | 3 => some F_nurserylaw16_MutexExclusive
  | 4 => some F_nurserylaw16_MutexHandover
  | 5 => some F_nurserylaw16_MutexApply
  | 6 => some F_nurserylaw16_MutexStates
  | 7 => some F_nurserylaw16_MutexServes
  | 8 => some F_nurserylaw16_MutexWithdraw
  | 10 => some F_nurserylaw16_MutexValid
  | 11 => some F_mutex_New
  | 12 => some F_nurserylaw16_object
  | 13 => some F_nurserylaw16_awake
  | 14 => some F_mutex_Apply
  | 15 => some F_nurseryref16_Great
  | 16 => some F_mutex_Check
  | 17 => some F_nurseryref16_SameWaiters
  | 18 => some F_nurseryref16_Without
  | 19 => some F_nurseryref16_Apply
  | 20 => some F_nurseryref16_SameReply
  | 21 => some F_mutex_Ready
  | 22 => some F_nurseryref16_Ready
  | 23 => some F_nurseryref16_New
  | 24 => some F_mutex_Holder
  | 25 => some F_nurseryref16_Holder
  | 26 => some F_nurseryref16_Same
  | 27 => some F_nurseryref16_Check
  | 28 => some F_nurseryref04_SameInts
  | 29 => some F_mutex_Withdraw
  | 30 => some F_nurseryref16_Withdraw
  | 31 => some F_nurserylaw16_lock
  | 32 => some F_mutex_operations
  | 33 => some F_mutex_isTask
  | 34 => some F_mutex_waits
  | 35 => some F_mutex_valid
  | 36 => some F_nurseryref16_Task
  | 37 => some F_nurseryref16_Waits
  | 38 => some F_nurseryref16_lock
  | 39 => some F_nurseryref16_sameCursors
  | 40 => some F_nurseryref16_queue
  | 41 => some F_waitlist_Remove
  | 42 => some F_mutex_lock
  | 43 => some F_mutex_operationsC1
  | 44 => some F_mutex_unlock
  | 45 => some F_slices_ContainsFunc_api_Waiter_api_Waiter
  | 46 => some F_mutex_waitsC1
  | 47 => some F_waitlist_Check
  | 48 => some F_mutex_validC1
  | 49 => some F_waitlist_filter
  | 50 => some F_waitlist_RemoveC1
  | 51 => some F_slices_BinarySearchFunc_api_Waiter_api_Waiter_int
  | 52 => some F_mutex_lockC1
  | 53 => some F_cmp_Compare_int
  | 55 => some F_slices_Clone_api_Waiter_api_Waiter
  | 56 => some F_slices_IndexFunc_api_Waiter_api_Waiter
  | 57 => some F_waitlist_valid
  | 58 => some F_cmp_isNaN_int
  | 60 => some F_slices_rotateRight_api_Waiter
  | 61 => some F_slices_rotateLeft_api_Waiter
  | 62 => some F_slices_Reverse_api_Waiter_api_Waiter
  | 54 => some F_slices_Insert_api_Waiter_api_Waiter
  | _ => none
theorem P_nurserylaw16_MutexExclusive : P nurserylaw16_MutexExclusive = some F_nurserylaw16_MutexExclusive := rfl
theorem P_nurserylaw16_MutexHandover : P nurserylaw16_MutexHandover = some F_nurserylaw16_MutexHandover := rfl
theorem P_nurserylaw16_MutexApply : P nurserylaw16_MutexApply = some F_nurserylaw16_MutexApply := rfl
theorem P_nurserylaw16_MutexStates : P nurserylaw16_MutexStates = some F_nurserylaw16_MutexStates := rfl
theorem P_nurserylaw16_MutexServes : P nurserylaw16_MutexServes = some F_nurserylaw16_MutexServes := rfl
theorem P_nurserylaw16_MutexWithdraw : P nurserylaw16_MutexWithdraw = some F_nurserylaw16_MutexWithdraw := rfl
theorem P_nurserylaw16_MutexValid : P nurserylaw16_MutexValid = some F_nurserylaw16_MutexValid := rfl
theorem P_mutex_New : P mutex_New = some F_mutex_New := rfl
theorem P_nurserylaw16_object : P nurserylaw16_object = some F_nurserylaw16_object := rfl
theorem P_nurserylaw16_awake : P nurserylaw16_awake = some F_nurserylaw16_awake := rfl
theorem P_mutex_Apply : P mutex_Apply = some F_mutex_Apply := rfl
theorem P_nurseryref16_Great : P nurseryref16_Great = some F_nurseryref16_Great := rfl
theorem P_mutex_Check : P mutex_Check = some F_mutex_Check := rfl
theorem P_nurseryref16_SameWaiters : P nurseryref16_SameWaiters = some F_nurseryref16_SameWaiters := rfl
theorem P_nurseryref16_Without : P nurseryref16_Without = some F_nurseryref16_Without := rfl
theorem P_nurseryref16_Apply : P nurseryref16_Apply = some F_nurseryref16_Apply := rfl
theorem P_nurseryref16_SameReply : P nurseryref16_SameReply = some F_nurseryref16_SameReply := rfl
theorem P_mutex_Ready : P mutex_Ready = some F_mutex_Ready := rfl
theorem P_nurseryref16_Ready : P nurseryref16_Ready = some F_nurseryref16_Ready := rfl
theorem P_nurseryref16_New : P nurseryref16_New = some F_nurseryref16_New := rfl
theorem P_mutex_Holder : P mutex_Holder = some F_mutex_Holder := rfl
theorem P_nurseryref16_Holder : P nurseryref16_Holder = some F_nurseryref16_Holder := rfl
theorem P_nurseryref16_Same : P nurseryref16_Same = some F_nurseryref16_Same := rfl
theorem P_nurseryref16_Check : P nurseryref16_Check = some F_nurseryref16_Check := rfl
theorem P_nurseryref04_SameInts : P nurseryref04_SameInts = some F_nurseryref04_SameInts := rfl
theorem P_mutex_Withdraw : P mutex_Withdraw = some F_mutex_Withdraw := rfl
theorem P_nurseryref16_Withdraw : P nurseryref16_Withdraw = some F_nurseryref16_Withdraw := rfl
theorem P_nurserylaw16_lock : P nurserylaw16_lock = some F_nurserylaw16_lock := rfl
theorem P_mutex_operations : P mutex_operations = some F_mutex_operations := rfl
theorem P_mutex_isTask : P mutex_isTask = some F_mutex_isTask := rfl
theorem P_mutex_waits : P mutex_waits = some F_mutex_waits := rfl
theorem P_mutex_valid : P mutex_valid = some F_mutex_valid := rfl
theorem P_nurseryref16_Task : P nurseryref16_Task = some F_nurseryref16_Task := rfl
theorem P_nurseryref16_Waits : P nurseryref16_Waits = some F_nurseryref16_Waits := rfl
theorem P_nurseryref16_lock : P nurseryref16_lock = some F_nurseryref16_lock := rfl
theorem P_nurseryref16_sameCursors : P nurseryref16_sameCursors = some F_nurseryref16_sameCursors := rfl
theorem P_nurseryref16_queue : P nurseryref16_queue = some F_nurseryref16_queue := rfl
theorem P_waitlist_Remove : P waitlist_Remove = some F_waitlist_Remove := rfl
theorem P_mutex_lock : P mutex_lock = some F_mutex_lock := rfl
theorem P_mutex_operationsC1 : P mutex_operationsC1 = some F_mutex_operationsC1 := rfl
theorem P_mutex_unlock : P mutex_unlock = some F_mutex_unlock := rfl
theorem P_slices_ContainsFunc_api_Waiter_api_Waiter : P slices_ContainsFunc_api_Waiter_api_Waiter = some F_slices_ContainsFunc_api_Waiter_api_Waiter := rfl
theorem P_mutex_waitsC1 : P mutex_waitsC1 = some F_mutex_waitsC1 := rfl
theorem P_waitlist_Check : P waitlist_Check = some F_waitlist_Check := rfl
theorem P_mutex_validC1 : P mutex_validC1 = some F_mutex_validC1 := rfl
theorem P_waitlist_filter : P waitlist_filter = some F_waitlist_filter := rfl
theorem P_waitlist_RemoveC1 : P waitlist_RemoveC1 = some F_waitlist_RemoveC1 := rfl
theorem P_slices_BinarySearchFunc_api_Waiter_api_Waiter_int : P slices_BinarySearchFunc_api_Waiter_api_Waiter_int = some F_slices_BinarySearchFunc_api_Waiter_api_Waiter_int := rfl
theorem P_mutex_lockC1 : P mutex_lockC1 = some F_mutex_lockC1 := rfl
theorem P_cmp_Compare_int : P cmp_Compare_int = some F_cmp_Compare_int := rfl
theorem P_slices_Clone_api_Waiter_api_Waiter : P slices_Clone_api_Waiter_api_Waiter = some F_slices_Clone_api_Waiter_api_Waiter := rfl
theorem P_slices_IndexFunc_api_Waiter_api_Waiter : P slices_IndexFunc_api_Waiter_api_Waiter = some F_slices_IndexFunc_api_Waiter_api_Waiter := rfl
theorem P_waitlist_valid : P waitlist_valid = some F_waitlist_valid := rfl
theorem P_cmp_isNaN_int : P cmp_isNaN_int = some F_cmp_isNaN_int := rfl
theorem P_slices_rotateRight_api_Waiter : P slices_rotateRight_api_Waiter = some F_slices_rotateRight_api_Waiter := rfl
theorem P_slices_rotateLeft_api_Waiter : P slices_rotateLeft_api_Waiter = some F_slices_rotateLeft_api_Waiter := rfl
theorem P_slices_Reverse_api_Waiter_api_Waiter : P slices_Reverse_api_Waiter_api_Waiter = some F_slices_Reverse_api_Waiter_api_Waiter := rfl
theorem P_slices_Insert_api_Waiter_api_Waiter : P slices_Insert_api_Waiter_api_Waiter = some F_slices_Insert_api_Waiter_api_Waiter := rfl
end Go.VS
