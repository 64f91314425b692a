import Derived.Test.YtiiegkaonlkgjaaV05
set_option linter.all false
namespace Go.VS
def gosem_cut_init : Nat := 2
def nurserylaw06_TimersAdd : Nat := 3
def nurserylaw06_TimersRemoved : Nat := 4
def nurserylaw06_TimersLast : Nat := 5
def nurserylaw06_TimersFind : Nat := 6
def nurserylaw06_TimersRun : Nat := 7
def nurserylaw06_TimersOrders : Nat := 8
def nurserylaw06_TimersReads : Nat := 9
def nurserylaw06_TimersExpire : Nat := 10
def nurseryref06_Great : Nat := 11
def nurserylaw06_awake : Nat := 12
def timers_Add : Nat := 13
def nurseryref06_Add : Nat := 14
def nurseryref06_Same : Nat := 15
def timers_Check : Nat := 16
def nurseryref06_Check : Nat := 17
def timers_Remove : Nat := 18
def timers_Find : Nat := 19
def nurserylaw06_added : Nat := 20
def slices_ContainsFunc_api_Timer_api_Timer : Nat := 21
def nurserylaw06_TimersLastC1 : Nat := 22
def nurserylaw06_key : Nat := 23
def slices_Contains_api_Timer_api_Timer : Nat := 24
def timers_Next : Nat := 25
def timers_Expire : Nat := 26
def nurserylaw06_TimersRunC1 : Nat := 27
def nurserylaw06_TimersOrdersC1 : Nat := 28
def slices_Concat_api_Timer_api_Timer : Nat := 29
def slices_Concat_api_Timer_api_Timer_p : Nat := 10029
def slices_Reverse_api_Timer_api_Timer : Nat := 30
def nurseryref06_Find : Nat := 31
def nurseryref06_Next : Nat := 32
def nurseryref06_Expire : Nat := 33
def nurseryref06_Remove : Nat := 34
def nurserylaw06_TimersExpireC1 : Nat := 35
def nurserylaw06_sleep : Nat := 36
def timers_check : Nat := 37
def timers_queue_without : Nat := 38
def timers_keyOf : Nat := 39
def timers_place_behind : Nat := 40
def slices_Insert_timers_queue_api_Timer : Nat := 41
def sort_Search : Nat := 42
def nurseryref06_one : Nat := 43
def nurseryref06_without : Nat := 44
def nurseryref06_Less : Nat := 45
def timers_compare : Nat := 46
def nurseryref06_same : Nat := 47
def slices_IndexFunc_api_Timer_api_Timer : Nat := 48
def timers_FindC1 : Nat := 49
def slices_Index_api_Timer_api_Timer : Nat := 50
def timers_queue_due : Nat := 51
def slices_Clone_api_Timer_api_Timer : Nat := 52
def slices_Grow_api_Timer_api_Timer : Nat := 53
def slices_DeleteFunc_timers_queue_api_Timer : Nat := 54
def slices_Clone_timers_queue_api_Timer : Nat := 55
def timers_queue_withoutC1 : Nat := 56
def slices_overlaps_api_Timer : Nat := 57
def slices_rotateRight_api_Timer : Nat := 58
def nurseryref06_indices : Nat := 59
def cmp_Or_int : Nat := 60
def cmp_Compare_int : Nat := 61
def timers_queue_dueC1 : Nat := 62
def slices_IndexFunc_timers_queue_api_Timer : Nat := 63
def slices_rotateLeft_api_Timer : Nat := 64
def cmp_isNaN_int : Nat := 65
/-- nursery/nurserylaw06.TimersAdd -/
def F_nurserylaw06_TimersAdd : F := .mk
  ((.seq (.reg [.op (.box 3 (.t 1) 3 true),
    .op (.mv 4 (.k (.b false)))])
  ((.seq ((.seq (.reg [.op (.mv 9 (.t 0)),
    .op (.call (some 10) nurseryref06_Great [(.t 9)])])
  (.ite (.t 10)
    ((.seq (.reg [.op (.call (some 11) nurserylaw06_awake []),
      .op (.mv 4 (.t 11))])
    (.ret)))
    (.skip))))
  ((.seq (.reg [.op (.mv 13 (.t 0)),
    .op (.ld 14 (.t 3) 3 true),
    .op (.call (some 15) timers_Add [(.t 13), (.t 14)]),
    .op (.mv 12 (.t 15)),
    .op (.ext 16 (.t 12) 0),
    .op (.ext 17 (.t 12) 1),
    .op (.mv 5 (.t 16)),
    .op (.mv 6 (.t 17))])
  ((.seq (.reg [.op (.mv 19 (.t 0)),
    .op (.ld 20 (.t 3) 3 true),
    .op (.call (some 21) nurseryref06_Add [(.t 19), (.t 20)]),
    .op (.mv 18 (.t 21)),
    .op (.ext 22 (.t 18) 0),
    .op (.ext 23 (.t 18) 1),
    .op (.mv 7 (.t 22)),
    .op (.mv 8 (.t 23))])
  ((.seq (.reg [.op (.mv 24 (.t 5)),
    .op (.mv 25 (.t 7)),
    .op (.call (some 26) nurseryref06_Same [(.t 24), (.t 25)]),
    .op (.mv 27 (.t 26)),
    .sc false 31 27 [.op (.mv 28 (.t 6)), .op (.mv 29 (.t 8)), .op (.bin 30 .eql (.t 28) (.t 29))] (.t 30),
    .op (.mv 32 (.t 31)),
    .sc false 38 32 [.op (.mv 33 (.t 0)), .op (.call (some 34) timers_Check [(.t 33)]), .op (.mv 35 (.t 0)), .op (.call (some 36) nurseryref06_Check [(.t 35)]), .op (.bin 37 .eql (.t 34) (.t 36))] (.t 37),
    .op (.mv 39 (.t 38)),
    .sc false 41 39 [.op (.call (some 40) nurserylaw06_awake [])] (.t 40),
    .op (.mv 4 (.t 41))])
  (.ret)))))))))))
  [.t 4] false none

/-- nursery/nurserylaw06.TimersRemoved -/
def F_nurserylaw06_TimersRemoved : F := .mk
  ((.seq (.reg [.op (.box 3 (.t 1) 3 true),
    .op (.mv 4 (.k (.b false)))])
  ((.seq ((.seq (.reg [.op (.mv 12 (.t 0)),
    .op (.call (some 13) nurseryref06_Great [(.t 12)])])
  (.ite (.t 13)
    ((.seq (.reg [.op (.call (some 14) nurserylaw06_awake []),
      .op (.mv 4 (.t 14))])
    (.ret)))
    (.skip))))
  ((.seq (.reg [.op (.mv 16 (.t 0)),
    .op (.ld 17 (.t 3) 3 true),
    .op (.call (some 18) timers_Add [(.t 16), (.t 17)]),
    .op (.mv 15 (.t 18)),
    .op (.ext 19 (.t 15) 0),
    .op (.ext 20 (.t 15) 1),
    .op (.mv 5 (.t 19)),
    .op (.mv 6 (.t 20))])
  ((.seq ((.seq (.reg [.op (.mv 21 (.t 6)),
    .op (.bin 22 .neq (.t 21) (.k (.i .i64 0)))])
  (.ite (.t 22)
    ((.seq (.reg [.op (.mv 23 (.t 5)),
      .op (.len 24 (.t 23) .sl),
      .op (.bin 25 .eql (.t 24) (.k (.i .i64 0))),
      .op (.mv 26 (.t 25)),
      .sc false 28 26 [.op (.call (some 27) nurserylaw06_awake [])] (.t 27),
      .op (.mv 4 (.t 28))])
    (.ret)))
    (.skip))))
  ((.seq (.reg [.op (.mv 29 (.t 5)),
    .op (.fa 30 (.t 3) 1 1),
    .op (.ld 31 (.t 30) 1 false),
    .op (.fa 32 (.t 3) 2 1),
    .op (.ld 33 (.t 32) 1 false),
    .op (.call (some 34) timers_Remove [(.t 29), (.t 31), (.t 33)]),
    .op (.mv 7 (.t 34))])
  ((.seq ((.seq (.reg [.op (.mv 36 (.t 0)),
    .op (.fa 37 (.t 3) 1 1),
    .op (.ld 38 (.t 37) 1 false),
    .op (.fa 39 (.t 3) 2 1),
    .op (.ld 40 (.t 39) 1 false),
    .op (.call (some 41) timers_Find [(.t 36), (.t 38), (.t 40)]),
    .op (.mv 35 (.t 41)),
    .op (.ext 42 (.t 35) 0),
    .op (.ext 43 (.t 35) 1),
    .op (.mv 8 (.t 42)),
    .op (.mv 9 (.t 43))])
  ((.seq (.reg [.op (.mv 44 (.t 9)),
    .op (.un 45 .not (.t 44)),
    .op (.mv 46 (.t 45)),
    .sc false 51 46 [.op (.mv 47 (.t 7)), .op (.mv 48 (.t 0)), .op (.call (some 49) nurseryref06_Same [(.t 47), (.t 48)]), .op (.un 50 .not (.t 49))] (.t 50)])
  (.ite (.t 51)
    ((.seq (.reg [.op (.mv 4 (.k (.b false)))])
    (.ret)))
    (.skip))))))
  ((.seq (.reg [.op (.mv 53 (.t 7)),
    .op (.fa 54 (.t 3) 1 1),
    .op (.ld 55 (.t 54) 1 false),
    .op (.fa 56 (.t 3) 2 1),
    .op (.ld 57 (.t 56) 1 false),
    .op (.call (some 58) timers_Find [(.t 53), (.t 55), (.t 57)]),
    .op (.mv 52 (.t 58)),
    .op (.ext 59 (.t 52) 0),
    .op (.ext 60 (.t 52) 1),
    .op (.mv 10 (.t 59)),
    .op (.mv 11 (.t 60))])
  ((.seq (.reg [.op (.mv 61 (.t 11)),
    .op (.un 62 .not (.t 61)),
    .op (.mv 63 (.t 62)),
    .sc false 72 63 [.op (.mv 64 (.t 7)), .op (.fa 65 (.t 3) 1 1), .op (.ld 66 (.t 65) 1 false), .op (.fa 67 (.t 3) 2 1), .op (.ld 68 (.t 67) 1 false), .op (.call (some 69) timers_Remove [(.t 64), (.t 66), (.t 68)]), .op (.mv 70 (.t 7)), .op (.call (some 71) nurseryref06_Same [(.t 69), (.t 70)])] (.t 71),
    .op (.mv 73 (.t 72)),
    .sc false 82 73 [.op (.mv 74 (.t 0)), .op (.fa 75 (.t 3) 1 1), .op (.ld 76 (.t 75) 1 false), .op (.fa 77 (.t 3) 2 1), .op (.ld 78 (.t 77) 1 false), .op (.call (some 79) timers_Remove [(.t 74), (.t 76), (.t 78)]), .op (.mv 80 (.t 7)), .op (.call (some 81) nurseryref06_Same [(.t 79), (.t 80)])] (.t 81),
    .op (.mv 83 (.t 82)),
    .sc false 85 83 [.op (.call (some 84) nurserylaw06_awake [])] (.t 84),
    .op (.mv 4 (.t 85))])
  (.ret)))))))))))))))))
  [.t 4] false none

def F_nurserylaw06_TimersLast_L0 : C :=
  (.seq (.reg [.op (.bin 24 .lss (.t 23) (.t 22))])
  ((.seq (.ite (.t 24)
    (.skip)
    (.seq (.keep [3, 5]) (.exit 0)))
  ((.seq (.blk 1 ((.seq (.reg [.op (.mv 25 (.t 23)),
     .op (.ixs 26 (.t 21) (.t 23) 3),
     .op (.ld 27 (.t 26) 3 true),
     .op (.new 7 [(.i .i64 0), (.i .i64 0), (.i .i64 0)]),
     .op (.mv 6 (.t 25)),
     .op (.st (.t 7) (.t 27) 3 true)])
   ((.seq (.reg [.op (.mv 28 (.t 0)),
     .op (.mv 29 (.t 6)),
     .op (.bin 30 .add (.t 29) (.k (.i .i64 1))),
     .op (.sl 31 (.t 28) (some (.t 30)) none 3),
     .op (.mkf 32 nurserylaw06_TimersLastC1 [] [(.t 7)]),
     .op (.call (some 33) slices_ContainsFunc_api_Timer_api_Timer [(.t 31), (.t 32)]),
     .op (.un 34 .not (.t 33)),
     .op (.mv 8 (.t 34))])
   ((.seq ((.seq (.reg [.op (.mv 35 (.t 8)),
     .op (.mv 36 (.t 35)),
     .sc false 41 36 [.op (.mv 37 (.t 3)), .op (.ld 38 (.t 7) 3 true), .op (.call (some 39) slices_Contains_api_Timer_api_Timer [(.t 37), (.t 38)]), .op (.un 40 .not (.t 39))] (.t 40)])
   (.ite (.t 41)
     ((.seq (.reg [.op (.mv 2 (.k (.b false)))])
     (.seq (.keep [2]) .ret)))
     (.skip))))
   ((.seq (.reg [.op (.mv 42 (.t 8))])
   (.ite (.t 42)
     (.reg [.op (.mv 43 (.t 5)),
       .op (.bin 44 .add (.t 43) (.k (.i .i64 1))),
       .op (.mv 5 (.t 44))])
     (.skip)))))))))))
  (.reg [.op (.bin 45 .add (.t 23) (.k (.i .i64 1))),
    .op (.mv 23 (.t 45))]))))))

/-- nursery/nurserylaw06.TimersLast -/
def F_nurserylaw06_TimersLast : F := .mk
  ((.seq (.reg [.op (.mv 2 (.k (.b false)))])
  ((.seq ((.seq (.reg [.op (.mv 9 (.t 0)),
    .op (.len 10 (.t 9) .sl),
    .op (.bin 11 .gtr (.t 10) (.k (.i .i64 30)))])
  (.ite (.t 11)
    ((.seq (.reg [.op (.call (some 12) nurserylaw06_awake []),
      .op (.mv 2 (.t 12))])
    (.ret)))
    (.skip))))
  ((.seq (.reg [.op (.mv 14 (.t 0)),
    .op (.call (some 15) nurserylaw06_added [(.t 14)]),
    .op (.mv 13 (.t 15)),
    .op (.ext 16 (.t 13) 0),
    .op (.ext 17 (.t 13) 1),
    .op (.mv 3 (.t 16)),
    .op (.mv 4 (.t 17))])
  ((.seq ((.seq (.reg [.op (.mv 18 (.t 4)),
    .op (.un 19 .not (.t 18))])
  (.ite (.t 19)
    ((.seq (.reg [.op (.call (some 20) nurserylaw06_awake []),
      .op (.mv 2 (.t 20))])
    (.ret)))
    (.skip))))
  ((.seq (.reg [.op (.mv 5 (.k (.i .i64 0)))])
  ((.seq ((.seq (.reg [.op (.mv 21 (.t 0)),
    .op (.len 22 (.t 21) .sl),
    .op (.mv 23 (.k (.i .i64 0)))])
  (.blk 0 (.loop [0, 3, 5, 21, 22, 23] F_nurserylaw06_TimersLast_L0))))
  ((.seq (.reg [.op (.mv 46 (.t 3)),
    .op (.len 47 (.t 46) .sl),
    .op (.mv 48 (.t 5)),
    .op (.bin 49 .eql (.t 47) (.t 48)),
    .op (.mv 50 (.t 49)),
    .sc false 54 50 [.op (.mv 51 (.t 3)), .op (.call (some 52) timers_Check [(.t 51)]), .op (.bin 53 .eql (.t 52) (.k (.i .i64 0)))] (.t 53),
    .op (.mv 55 (.t 54)),
    .sc false 57 55 [.op (.call (some 56) nurserylaw06_awake [])] (.t 56),
    .op (.mv 2 (.t 57))])
  (.ret)))))))))))))))
  [.t 2] false none

def F_nurserylaw06_TimersFind_L0 : C :=
  (.seq (.reg [.op (.bin 39 .lss (.t 38) (.t 37))])
  ((.seq (.ite (.t 39)
    (.skip)
    (.seq (.keep []) (.exit 0)))
  ((.seq (.blk 1 ((.seq (.reg [.op (.ixs 40 (.t 36) (.t 38) 3),
     .op (.ld 41 (.t 40) 3 true),
     .op (.new 10 [(.i .i64 0), (.i .i64 0), (.i .i64 0)]),
     .op (.st (.t 10) (.t 41) 3 true)])
   ((.seq (.reg [.op (.mv 43 (.t 0)),
     .op (.fa 44 (.t 10) 1 1),
     .op (.ld 45 (.t 44) 1 false),
     .op (.fa 46 (.t 10) 2 1),
     .op (.ld 47 (.t 46) 1 false),
     .op (.call (some 48) timers_Find [(.t 43), (.t 45), (.t 47)]),
     .op (.mv 42 (.t 48)),
     .op (.ext 49 (.t 42) 0),
     .op (.ext 50 (.t 42) 1),
     .op (.mv 11 (.t 49)),
     .op (.mv 12 (.t 50))])
   ((.seq (.reg [.op (.mv 51 (.t 12)),
     .op (.un 52 .not (.t 51)),
     .op (.mv 53 (.t 52)),
     .sc true 58 53 [.op (.mv 54 (.t 11)), .op (.fa 55 (.t 10) 0 1), .op (.ld 56 (.t 55) 1 false), .op (.bin 57 .neq (.t 54) (.t 56))] (.t 57)])
   (.ite (.t 58)
     ((.seq (.reg [.op (.mv 6 (.k (.b false)))])
     (.seq (.keep [6]) .ret)))
     (.skip)))))))))
  (.reg [.op (.bin 59 .add (.t 38) (.k (.i .i64 1))),
    .op (.mv 38 (.t 59))]))))))

/-- nursery/nurserylaw06.TimersFind -/
def F_nurserylaw06_TimersFind : F := .mk
  ((.seq (.reg [.op (.mv 6 (.k (.b false)))])
  ((.seq ((.seq (.reg [.op (.mv 13 (.t 0)),
    .op (.call (some 14) nurseryref06_Great [(.t 13)]),
    .op (.mv 15 (.t 14)),
    .sc true 19 15 [.op (.mv 16 (.t 0)), .op (.call (some 17) timers_Check [(.t 16)]), .op (.bin 18 .neq (.t 17) (.k (.i .i64 0)))] (.t 18)])
  (.ite (.t 19)
    ((.seq (.reg [.op (.call (some 20) nurserylaw06_awake []),
      .op (.mv 6 (.t 20))])
    (.ret)))
    (.skip))))
  ((.seq (.reg [.op (.mv 22 (.t 0)),
    .op (.mv 23 (.t 1)),
    .op (.mv 24 (.t 2)),
    .op (.call (some 25) timers_Find [(.t 22), (.t 23), (.t 24)]),
    .op (.mv 21 (.t 25)),
    .op (.ext 26 (.t 21) 0),
    .op (.ext 27 (.t 21) 1),
    .op (.mv 7 (.t 26)),
    .op (.mv 8 (.t 27))])
  ((.seq ((.seq (.reg [.op (.mv 28 (.t 8)),
    .op (.mv 29 (.t 0)),
    .op (.mv 30 (.t 7)),
    .op (.mv 31 (.t 1)),
    .op (.mv 32 (.t 2)),
    .op (.build 33 [(.i .i64 0), (.i .i64 0), (.i .i64 0)] [(0, 1, (.t 30)), (1, 1, (.t 31)), (2, 1, (.t 32))]),
    .op (.call (some 34) slices_Contains_api_Timer_api_Timer [(.t 29), (.t 33)]),
    .op (.eqb 35 true (.t 28) (.t 34))])
  (.ite (.t 35)
    ((.seq (.reg [.op (.mv 6 (.k (.b false)))])
    (.ret)))
    (.skip))))
  ((.seq ((.seq (.reg [.op (.mv 36 (.t 0)),
    .op (.len 37 (.t 36) .sl),
    .op (.mv 38 (.k (.i .i64 0)))])
  (.blk 0 (.loop [0, 36, 37, 38] F_nurserylaw06_TimersFind_L0))))
  ((.seq (.reg [.op (.call (some 60) nurserylaw06_awake []),
    .op (.mv 6 (.t 60))])
  (.ret)))))))))))))
  [.t 6] false none

def F_nurserylaw06_TimersRun_L0 : C :=
  (.seq (.reg [.op (.bin 23 .lss (.t 22) (.t 21))])
  ((.seq (.ite (.t 23)
    (.skip)
    (.seq (.keep [0, 3, 4]) (.exit 0)))
  ((.seq (.blk 1 ((.seq (.reg [.op (.mv 25 (.t 4)),
     .op (.call (some 26) timers_Next [(.t 25)]),
     .op (.mv 24 (.t 26)),
     .op (.ext 27 (.t 24) 0),
     .op (.ext 28 (.t 24) 1),
     .op (.new 6 [(.i .i64 0)]),
     .op (.st (.t 6) (.t 27) 1 true),
     .op (.mv 7 (.t 28))])
   ((.seq ((.seq (.reg [.op (.mv 29 (.t 7)),
     .op (.un 30 .not (.t 29))])
   (.ite (.t 30)
     (.seq (.keep [0, 3, 4]) (.exit 0))
     (.skip))))
   ((.seq (.reg [.op (.mv 32 (.t 4)),
     .op (.ld 33 (.t 6) 1 false),
     .op (.call (some 34) timers_Expire [(.t 32), (.t 33)]),
     .op (.mv 31 (.t 34)),
     .op (.ext 35 (.t 31) 0),
     .op (.ext 36 (.t 31) 1),
     .op (.mv 8 (.t 35)),
     .op (.mv 9 (.t 36))])
   ((.seq ((.seq (.reg [.op (.ld 37 (.t 6) 1 false),
     .op (.mv 38 (.t 5)),
     .op (.bin 39 .leq (.t 37) (.t 38)),
     .op (.mv 40 (.t 39)),
     .sc true 44 40 [.op (.mv 41 (.t 8)), .op (.len 42 (.t 41) .sl), .op (.bin 43 .eql (.t 42) (.k (.i .i64 0)))] (.t 43),
     .op (.mv 45 (.t 44)),
     .sc true 49 45 [.op (.mv 46 (.t 8)), .op (.mkf 47 nurserylaw06_TimersRunC1 [] [(.t 6)]), .op (.call (some 48) slices_ContainsFunc_api_Timer_api_Timer [(.t 46), (.t 47)])] (.t 48)])
   (.ite (.t 49)
     ((.seq (.reg [.op (.mv 2 (.k (.b false)))])
     (.seq (.keep [2]) .ret)))
     (.skip))))
   (.drw [] [0, 1, 3, 4, 2, 5, 6, 7] [.op (.mv 50 (.t 3)),
     .op (.mv 51 (.t 8)),
     .op (.mv 53 (.t 9)),
     .op (.ldd 54 (.t 6) 1 false),
     .op (.app 52 (.t 50) (.t 51) 3),
     .op (.mv 3 (.t 52)),
     .op (.mv 4 (.t 53)),
     .op (.mv 5 (.t 54))]))))))))))
  (.reg [.op (.bin 55 .add (.t 22) (.k (.i .i64 1))),
    .op (.mv 22 (.t 55))]))))))

/-- nursery/nurserylaw06.TimersRun -/
def F_nurserylaw06_TimersRun : F := .mk
  ((.seq (.reg [.op (.mv 2 (.k (.b false)))])
  ((.seq ((.seq (.reg [.op (.mv 10 (.t 0)),
    .op (.call (some 11) nurseryref06_Great [(.t 10)]),
    .op (.mv 12 (.t 11)),
    .sc true 16 12 [.op (.mv 13 (.t 0)), .op (.call (some 14) timers_Check [(.t 13)]), .op (.bin 15 .neq (.t 14) (.k (.i .i64 0)))] (.t 15)])
  (.ite (.t 16)
    ((.seq (.reg [.op (.call (some 17) nurserylaw06_awake []),
      .op (.mv 2 (.t 17))])
    (.ret)))
    (.skip))))
  ((.seq (.reg [.op (.mv 3 (.k (.sl 3 true [])))])
  ((.seq (.reg [.op (.mv 18 (.t 0)),
    .op (.mv 4 (.t 18)),
    .op (.mv 5 (.k (.i .i64 0)))])
  ((.seq ((.seq (.reg [.op (.mv 19 (.t 0)),
    .op (.len 20 (.t 19) .sl),
    .op (.bin 21 .add (.t 20) (.k (.i .i64 1))),
    .op (.mv 22 (.k (.i .i64 0)))])
  (.blk 0 (.loop [0, 3, 4, 5, 21, 22] F_nurserylaw06_TimersRun_L0))))
  ((.seq (.seq (.frz [3])
  (.reg [.op (.mv 56 (.t 4)),
    .op (.len 57 (.t 56) .sl),
    .op (.bin 58 .eql (.t 57) (.k (.i .i64 0))),
    .op (.mv 59 (.t 58)),
    .sc false 63 59 [.op (.mv 60 (.t 3)), .op (.mv 61 (.t 0)), .op (.call (some 62) nurseryref06_Same [(.t 60), (.t 61)])] (.t 62),
    .op (.mv 64 (.t 63)),
    .sc false 66 64 [.op (.call (some 65) nurserylaw06_awake [])] (.t 65),
    .op (.mv 2 (.t 66))]))
  (.ret)))))))))))))
  [.t 2] false none

def F_nurserylaw06_TimersOrders_L0 : C :=
  (.seq (.reg [.op (.bin 33 .lss (.t 32) (.t 31))])
  ((.seq (.ite (.t 33)
    (.skip)
    (.seq (.keep [0, 1, 5]) (.exit 0)))
  ((.seq (.blk 1 ((.seq (.reg [.op (.mv 34 (.t 32)),
     .op (.ixs 35 (.t 30) (.t 32) 3),
     .op (.ld 36 (.t 35) 3 true),
     .op (.new 8 [(.i .i64 0), (.i .i64 0), (.i .i64 0)]),
     .op (.mv 7 (.t 34)),
     .op (.st (.t 8) (.t 36) 3 true)])
   ((.seq (.reg [.op (.mv 37 (.t 0)),
     .op (.mv 38 (.t 7)),
     .op (.sl 39 (.t 37) none (some (.t 38)) 3),
     .op (.mkf 40 nurserylaw06_TimersOrdersC1 [] [(.t 8)]),
     .op (.call (some 41) slices_ContainsFunc_api_Timer_api_Timer [(.t 39), (.t 40)])])
   (.ite (.t 41)
     ((.seq (.reg [.op (.call (some 42) nurserylaw06_awake []),
       .op (.mv 4 (.t 42))])
     (.seq (.keep [4]) .ret)))
     (.skip)))))))
  (.reg [.op (.bin 43 .add (.t 32) (.k (.i .i64 1))),
    .op (.mv 32 (.t 43))]))))))

/-- nursery/nurserylaw06.TimersOrders -/
def F_nurserylaw06_TimersOrders : F := .mk
  ((.seq (.reg [.op (.mv 4 (.k (.b false)))])
  ((.seq ((.seq (.reg [.op (.mv 13 (.t 0)),
    .op (.len 14 (.t 13) .sl),
    .op (.bin 15 .eql (.t 14) (.k (.i .i64 0))),
    .op (.mv 16 (.t 15)),
    .sc true 20 16 [.op (.mv 17 (.t 0)), .op (.len 18 (.t 17) .sl), .op (.bin 19 .gtr (.t 18) (.k (.i .i64 30)))] (.t 19)])
  (.ite (.t 20)
    ((.seq (.reg [.op (.call (some 21) nurserylaw06_awake []),
      .op (.mv 4 (.t 21))])
    (.ret)))
    (.skip))))
  ((.seq (.reg [.op (.mv 23 (.t 0)),
    .op (.call (some 24) nurserylaw06_added [(.t 23)]),
    .op (.mv 22 (.t 24)),
    .op (.ext 25 (.t 22) 0),
    .op (.ext 26 (.t 22) 1),
    .op (.mv 5 (.t 25)),
    .op (.mv 6 (.t 26))])
  ((.seq ((.seq (.reg [.op (.mv 27 (.t 6)),
    .op (.un 28 .not (.t 27))])
  (.ite (.t 28)
    ((.seq (.reg [.op (.call (some 29) nurserylaw06_awake []),
      .op (.mv 4 (.t 29))])
    (.ret)))
    (.skip))))
  ((.seq ((.seq (.reg [.op (.mv 30 (.t 0)),
    .op (.len 31 (.t 30) .sl),
    .op (.mv 32 (.k (.i .i64 0)))])
  (.blk 0 (.loop [0, 1, 5, 30, 31, 32] F_nurserylaw06_TimersOrders_L0))))
  ((.seq (.reg [.op (.mv 44 (.t 1)),
    .op (.cvi 45 .i64 (.t 44)),
    .op (.mv 46 (.t 0)),
    .op (.len 47 (.t 46) .sl),
    .op (.bin 48 .rem (.t 45) (.t 47)),
    .op (.mv 9 (.t 48))])
  ((.seq (.drw [] [0, 1, 2, 3, 4, 5, 6, 7, 8] [.op (.mv 49 (.t 0)),
    .op (.mv 50 (.t 9)),
    .op (.sl 51 (.t 49) (some (.t 50)) none 3),
    .op (.mv 52 (.t 0)),
    .op (.mv 53 (.t 9)),
    .op (.sl 54 (.t 52) none (some (.t 53)) 3),
    .op (.buildSl 55 1 2 [(.sl 3 true [])] [(0, (.t 51)), (1, (.t 54))] true),
    .op (.callk (some 56) slices_Concat_api_Timer_api_Timer [(.t 55)]),
    .op (.mv 10 (.t 56))])
  ((.seq (.reg [.op (.mv 57 (.t 10)),
    .op (.callr (some 58) slices_Reverse_api_Timer_api_Timer [(.t 57)])])
  ((.seq (.seq (.frz [10])
  (.reg [.op (.mv 60 (.t 10)),
    .op (.call (some 61) nurserylaw06_added [(.t 60)]),
    .op (.mv 59 (.t 61)),
    .op (.ext 62 (.t 59) 0),
    .op (.ext 63 (.t 59) 1),
    .op (.mv 11 (.t 62)),
    .op (.mv 12 (.t 63))]))
  ((.seq (.reg [.op (.mv 64 (.t 12)),
    .op (.mv 65 (.t 64)),
    .sc false 69 65 [.op (.mv 66 (.t 5)), .op (.mv 67 (.t 11)), .op (.call (some 68) nurseryref06_Same [(.t 66), (.t 67)])] (.t 68),
    .op (.mv 70 (.t 69)),
    .sc false 76 70 [.op (.mv 71 (.t 5)), .op (.len 72 (.t 71) .sl), .op (.mv 73 (.t 0)), .op (.len 74 (.t 73) .sl), .op (.bin 75 .eql (.t 72) (.t 74))] (.t 75),
    .op (.mv 77 (.t 76)),
    .sc false 79 77 [.op (.call (some 78) nurserylaw06_awake [])] (.t 78),
    .op (.mv 4 (.t 79))])
  (.ret)))))))))))))))))))))
  [.t 4] false none

/-- nursery/nurserylaw06.TimersReads -/
def F_nurserylaw06_TimersReads : F := .mk
  ((.seq (.reg [.op (.mv 8 (.k (.b false)))])
  ((.seq ((.seq (.reg [.op (.mv 21 (.t 0)),
    .op (.call (some 22) nurseryref06_Great [(.t 21)])])
  (.ite (.t 22)
    ((.seq (.reg [.op (.call (some 23) nurserylaw06_awake []),
      .op (.mv 8 (.t 23))])
    (.ret)))
    (.skip))))
  ((.seq (.reg [.op (.mv 25 (.t 0)),
    .op (.mv 26 (.t 1)),
    .op (.mv 27 (.t 2)),
    .op (.call (some 28) timers_Find [(.t 25), (.t 26), (.t 27)]),
    .op (.mv 24 (.t 28)),
    .op (.ext 29 (.t 24) 0),
    .op (.ext 30 (.t 24) 1),
    .op (.mv 9 (.t 29)),
    .op (.mv 10 (.t 30))])
  ((.seq (.reg [.op (.mv 32 (.t 0)),
    .op (.mv 33 (.t 1)),
    .op (.mv 34 (.t 2)),
    .op (.call (some 35) nurseryref06_Find [(.t 32), (.t 33), (.t 34)]),
    .op (.mv 31 (.t 35)),
    .op (.ext 36 (.t 31) 0),
    .op (.ext 37 (.t 31) 1),
    .op (.mv 11 (.t 36)),
    .op (.mv 12 (.t 37))])
  ((.seq (.reg [.op (.mv 39 (.t 0)),
    .op (.call (some 40) timers_Next [(.t 39)]),
    .op (.mv 38 (.t 40)),
    .op (.ext 41 (.t 38) 0),
    .op (.ext 42 (.t 38) 1),
    .op (.mv 13 (.t 41)),
    .op (.mv 14 (.t 42))])
  ((.seq (.reg [.op (.mv 44 (.t 0)),
    .op (.call (some 45) nurseryref06_Next [(.t 44)]),
    .op (.mv 43 (.t 45)),
    .op (.ext 46 (.t 43) 0),
    .op (.ext 47 (.t 43) 1),
    .op (.mv 15 (.t 46)),
    .op (.mv 16 (.t 47))])
  ((.seq (.reg [.op (.mv 49 (.t 0)),
    .op (.mv 50 (.t 3)),
    .op (.call (some 51) timers_Expire [(.t 49), (.t 50)]),
    .op (.mv 48 (.t 51)),
    .op (.ext 52 (.t 48) 0),
    .op (.ext 53 (.t 48) 1),
    .op (.mv 17 (.t 52)),
    .op (.mv 18 (.t 53))])
  ((.seq (.reg [.op (.mv 55 (.t 0)),
    .op (.mv 56 (.t 3)),
    .op (.call (some 57) nurseryref06_Expire [(.t 55), (.t 56)]),
    .op (.mv 54 (.t 57)),
    .op (.ext 58 (.t 54) 0),
    .op (.ext 59 (.t 54) 1),
    .op (.mv 19 (.t 58)),
    .op (.mv 20 (.t 59))])
  ((.seq (.reg [.op (.mv 60 (.t 9)),
    .op (.mv 61 (.t 11)),
    .op (.bin 62 .eql (.t 60) (.t 61)),
    .op (.mv 63 (.t 62)),
    .sc false 67 63 [.op (.mv 64 (.t 10)), .op (.mv 65 (.t 12)), .op (.eqb 66 false (.t 64) (.t 65))] (.t 66),
    .op (.mv 68 (.t 67)),
    .sc false 72 68 [.op (.mv 69 (.t 13)), .op (.mv 70 (.t 15)), .op (.bin 71 .eql (.t 69) (.t 70))] (.t 71),
    .op (.mv 73 (.t 72)),
    .sc false 77 73 [.op (.mv 74 (.t 14)), .op (.mv 75 (.t 16)), .op (.eqb 76 false (.t 74) (.t 75))] (.t 76),
    .op (.mv 78 (.t 77)),
    .sc false 82 78 [.op (.mv 79 (.t 17)), .op (.mv 80 (.t 19)), .op (.call (some 81) nurseryref06_Same [(.t 79), (.t 80)])] (.t 81),
    .op (.mv 83 (.t 82)),
    .sc false 87 83 [.op (.mv 84 (.t 18)), .op (.mv 85 (.t 20)), .op (.call (some 86) nurseryref06_Same [(.t 84), (.t 85)])] (.t 86),
    .op (.mv 88 (.t 87)),
    .sc false 98 88 [.op (.mv 89 (.t 0)), .op (.mv 90 (.t 1)), .op (.mv 91 (.t 2)), .op (.call (some 92) timers_Remove [(.t 89), (.t 90), (.t 91)]), .op (.mv 93 (.t 0)), .op (.mv 94 (.t 1)), .op (.mv 95 (.t 2)), .op (.call (some 96) nurseryref06_Remove [(.t 93), (.t 94), (.t 95)]), .op (.call (some 97) nurseryref06_Same [(.t 92), (.t 96)])] (.t 97),
    .op (.mv 99 (.t 98)),
    .sc false 101 99 [.op (.call (some 100) nurserylaw06_awake [])] (.t 100),
    .op (.mv 8 (.t 101))])
  (.ret)))))))))))))))))))
  [.t 8] false none

/-- nursery/nurserylaw06.TimersExpire -/
def F_nurserylaw06_TimersExpire : F := .mk
  ((.seq (.reg [.op (.box 4 (.t 1) 1 true),
    .op (.mv 6 (.k (.b false)))])
  ((.seq ((.seq (.reg [.op (.mv 15 (.t 0)),
    .op (.call (some 16) nurseryref06_Great [(.t 15)]),
    .op (.mv 17 (.t 16)),
    .sc true 21 17 [.op (.mv 18 (.t 0)), .op (.call (some 19) timers_Check [(.t 18)]), .op (.bin 20 .neq (.t 19) (.k (.i .i64 0)))] (.t 20),
    .op (.mv 22 (.t 21)),
    .sc true 26 22 [.op (.ld 23 (.t 4) 1 false), .op (.mv 24 (.t 2)), .op (.bin 25 .gtr (.t 23) (.t 24))] (.t 25)])
  (.ite (.t 26)
    ((.seq (.reg [.op (.call (some 27) nurserylaw06_awake []),
      .op (.mv 6 (.t 27))])
    (.ret)))
    (.skip))))
  ((.seq (.reg [.op (.mv 29 (.t 0)),
    .op (.ld 30 (.t 4) 1 false),
    .op (.call (some 31) timers_Expire [(.t 29), (.t 30)]),
    .op (.mv 28 (.t 31)),
    .op (.ext 32 (.t 28) 0),
    .op (.ext 33 (.t 28) 1),
    .op (.mv 7 (.t 32)),
    .op (.mv 8 (.t 33))])
  ((.seq ((.seq (.reg [.op (.mv 34 (.t 7)),
    .op (.mv 35 (.t 8)),
    .op (.buildSl 36 1 2 [(.sl 3 true [])] [(0, (.t 34)), (1, (.t 35))] true),
    .op (.call (some 37) slices_Concat_api_Timer_api_Timer_p [(.t 36)]),
    .op (.mv 38 (.t 0)),
    .op (.call (some 39) nurseryref06_Same [(.t 37), (.t 38)]),
    .op (.un 40 .not (.t 39)),
    .op (.mv 41 (.t 40)),
    .sc true 45 41 [.op (.mv 42 (.t 7)), .op (.mkf 43 nurserylaw06_TimersExpireC1 [] [(.t 4)]), .op (.call (some 44) slices_ContainsFunc_api_Timer_api_Timer [(.t 42), (.t 43)])] (.t 44)])
  (.ite (.t 45)
    ((.seq (.reg [.op (.mv 6 (.k (.b false)))])
    (.ret)))
    (.skip))))
  ((.seq ((.seq (.reg [.op (.mv 47 (.t 8)),
    .op (.call (some 48) timers_Next [(.t 47)]),
    .op (.mv 46 (.t 48)),
    .op (.ext 49 (.t 46) 0),
    .op (.ext 50 (.t 46) 1),
    .op (.mv 9 (.t 49)),
    .op (.mv 10 (.t 50))])
  ((.seq (.reg [.op (.mv 51 (.t 10)),
    .op (.mv 52 (.t 8)),
    .op (.len 53 (.t 52) .sl),
    .op (.bin 54 .gtr (.t 53) (.k (.i .i64 0))),
    .op (.eqb 55 true (.t 51) (.t 54)),
    .op (.mv 56 (.t 55)),
    .sc true 63 56 [.op (.mv 57 (.t 10)), .op (.mv 58 (.t 57)), .sc false 62 58 [.op (.mv 59 (.t 9)), .op (.ld 60 (.t 4) 1 false), .op (.bin 61 .leq (.t 59) (.t 60))] (.t 61)] (.t 62)])
  (.ite (.t 63)
    ((.seq (.reg [.op (.mv 6 (.k (.b false)))])
    (.ret)))
    (.skip))))))
  ((.seq (.reg [.op (.mv 65 (.t 8)),
    .op (.mv 66 (.t 2)),
    .op (.call (some 67) timers_Expire [(.t 65), (.t 66)]),
    .op (.mv 64 (.t 67)),
    .op (.ext 68 (.t 64) 0),
    .op (.ext 69 (.t 64) 1),
    .op (.mv 11 (.t 68)),
    .op (.mv 12 (.t 69))])
  ((.seq (.reg [.op (.mv 71 (.t 0)),
    .op (.mv 72 (.t 2)),
    .op (.call (some 73) timers_Expire [(.t 71), (.t 72)]),
    .op (.mv 70 (.t 73)),
    .op (.ext 74 (.t 70) 0),
    .op (.ext 75 (.t 70) 1),
    .op (.mv 13 (.t 74)),
    .op (.mv 14 (.t 75))])
  ((.seq (.reg [.op (.mv 76 (.t 7)),
    .op (.mv 77 (.t 11)),
    .op (.buildSl 78 1 2 [(.sl 3 true [])] [(0, (.t 76)), (1, (.t 77))] true),
    .op (.call (some 79) slices_Concat_api_Timer_api_Timer_p [(.t 78)]),
    .op (.mv 80 (.t 13)),
    .op (.call (some 81) nurseryref06_Same [(.t 79), (.t 80)]),
    .op (.mv 82 (.t 81)),
    .sc false 86 82 [.op (.mv 83 (.t 12)), .op (.mv 84 (.t 14)), .op (.call (some 85) nurseryref06_Same [(.t 83), (.t 84)])] (.t 85),
    .op (.mv 87 (.t 86)),
    .sc false 89 87 [.op (.call (some 88) nurserylaw06_awake [])] (.t 88),
    .op (.mv 6 (.t 89))])
  (.ret)))))))))))))))))
  [.t 6] false none

/-- nursery/nurseryref06.Great -/
def F_nurseryref06_Great : F := .mk
  ((.seq (.reg [.op (.mv 2 (.k (.b false)))])
  ((.seq (.reg [.op (.mv 3 (.t 0)),
    .op (.len 4 (.t 3) .sl),
    .op (.bin 5 .gtr (.t 4) (.k (.i .i64 40))),
    .op (.mv 2 (.t 5))])
  (.ret)))))
  [.t 2] false none

/-- nursery/nurserylaw06.awake -/
def F_nurserylaw06_awake : F := .mk
  ((.seq (.reg [.op (.mv 0 (.k (.b false)))])
  ((.seq (.reg [.op (.build 6 [(.i .i64 0), (.i .i64 0), (.i .i64 0)] [(0, 1, (.k (.i .i64 10))), (1, 1, (.k (.i .i64 2))), (2, 1, (.k (.i .i64 2)))]),
    .op (.call (some 7) nurserylaw06_sleep [(.k (.i .i64 3)), (.k (.i .i64 10))]),
    .op (.call (some 8) nurserylaw06_sleep [(.k (.i .i64 1)), (.k (.i .i64 7))]),
    .op (.buildSl 9 3 3 [(.i .i64 0), (.i .i64 0), (.i .i64 0)] [(0, (.t 6)), (1, (.t 7)), (2, (.t 8))] true),
    .op (.call (some 10) nurserylaw06_added [(.t 9)]),
    .op (.mv 5 (.t 10)),
    .op (.ext 11 (.t 5) 0),
    .op (.ext 12 (.t 5) 1),
    .op (.mv 1 (.t 11)),
    .op (.mv 2 (.t 12))])
  ((.seq (.reg [.op (.mv 14 (.t 1)),
    .op (.call (some 15) nurserylaw06_sleep [(.k (.i .i64 1)), (.k (.i .i64 12))]),
    .op (.call (some 16) timers_Add [(.t 14), (.t 15)]),
    .op (.mv 13 (.t 16)),
    .op (.ext 17 (.t 13) 0),
    .op (.ext 18 (.t 13) 1),
    .op (.mv 3 (.t 17)),
    .op (.mv 4 (.t 18))])
  ((.seq (.drw [] [0, 1, 2, 3, 4, 5, 6, 7, 8, 9, 10, 11, 12, 13, 14, 15, 16, 17, 18, 19, 20, 21, 22, 23, 24, 25, 26, 27, 28, 29, 30, 31, 32, 33, 34, 35, 36] [.op (.mv 19 (.t 2)),
    .op (.mv 20 (.t 19)),
    .sc false 23 20 [.op (.mv 21 (.t 4)), .op (.bin 22 .eql (.t 21) (.k (.i .i64 0)))] (.t 22),
    .op (.mv 24 (.t 23)),
    .sc false 28 24 [.op (.mv 25 (.t 1)), .op (.len 26 (.t 25) .sl), .op (.bin 27 .eql (.t 26) (.k (.i .i64 3)))] (.t 27),
    .op (.mv 29 (.t 28)),
    .sc false 35 29 [.op (.mv 30 (.t 1)), .op (.ixs 31 (.t 30) (.k (.i .i64 0)) 3), .op (.ld 32 (.t 31) 3 true), .op (.call (some 33) nurserylaw06_sleep [(.k (.i .i64 1)), (.k (.i .i64 7))]), .op (.eqv 34 false (.t 32) (.t 33) [.i, .i, .i])] (.t 34),
    .op (.mv 36 (.t 35)),
    .sc false 42 36 [.op (.mv 37 (.t 1)), .op (.ixs 38 (.t 37) (.k (.i .i64 1)) 3), .op (.ld 39 (.t 38) 3 true), .op (.call (some 40) nurserylaw06_sleep [(.k (.i .i64 3)), (.k (.i .i64 10))]), .op (.eqv 41 false (.t 39) (.t 40) [.i, .i, .i])] (.t 41),
    .op (.mv 43 (.t 42)),
    .sc false 47 43 [.op (.mv 44 (.t 3)), .op (.len 45 (.t 44) .sl), .op (.bin 46 .eql (.t 45) (.k (.i .i64 3)))] (.t 46),
    .op (.mv 48 (.t 47)),
    .sc false 54 48 [.op (.mv 49 (.t 3)), .op (.ixs 50 (.t 49) (.k (.i .i64 2)) 3), .op (.ld 51 (.t 50) 3 true), .op (.call (some 52) nurserylaw06_sleep [(.k (.i .i64 1)), (.k (.i .i64 12))]), .op (.eqv 53 false (.t 51) (.t 52) [.i, .i, .i])] (.t 53),
    .op (.mv 0 (.t 54))])
  (.ret)))))))))
  [.t 0] false none

/-- nursery/timers.Add -/
def F_timers_Add : F := .mk
  ((.seq (.reg [.op (.box 3 (.t 1) 3 true),
    .op (.mv 4 (.k (.sl 3 true []))),
    .op (.mv 5 (.k (.i .i64 0)))])
  ((.seq ((.seq (.reg [.op (.mv 9 (.t 0)),
    .op (.call (some 10) timers_Check [(.t 9)]),
    .op (.bin 11 .neq (.t 10) (.k (.i .i64 0)))])
  (.ite (.t 11)
    ((.seq (.reg [.op (.mv 4 (.k (.sl 3 true []))),
      .op (.mv 5 (.k (.i .i64 1)))])
    (.ret)))
    (.skip))))
  ((.seq ((.seq (.reg [.op (.ld 12 (.t 3) 3 true),
    .op (.call (some 13) timers_check [(.t 12)]),
    .op (.mv 6 (.t 13))])
  ((.seq (.reg [.op (.mv 14 (.t 6)),
    .op (.bin 15 .neq (.t 14) (.k (.i .i64 0)))])
  (.ite (.t 15)
    ((.seq (.reg [.op (.mv 16 (.t 6)),
      .op (.mv 4 (.k (.sl 3 true []))),
      .op (.mv 5 (.t 16))])
    (.ret)))
    (.skip))))))
  ((.seq (.reg [.op (.mv 17 (.t 0)),
    .op (.ld 18 (.t 3) 3 true),
    .op (.call (some 19) timers_keyOf [(.t 18)]),
    .op (.callk (some 20) timers_queue_without [(.t 17), (.t 19)]),
    .op (.mv 7 (.t 20))])
  ((.seq (.reg [.op (.mv 21 (.t 7)),
    .op (.ld 22 (.t 3) 3 true),
    .op (.build 23 [(.sl 3 true []), (.i .i64 0), (.i .i64 0), (.i .i64 0)] [(0, 1, (.t 21)), (1, 3, (.t 22))]),
    .op (.mkf 24 timers_place_behind [(.t 23)] []),
    .op (.mv 8 (.t 24))])
  ((.seq (.drw [] [0, 1, 2, 3, 5, 6, 4, 7, 8, 9] [.op (.mv 25 (.t 7)),
    .op (.mv 26 (.t 7)),
    .op (.len 27 (.t 26) .sl),
    .op (.mv 28 (.t 8)),
    .op (.ldd 30 (.t 3) 3 true),
    .op (.buildSl 31 3 1 [(.i .i64 0), (.i .i64 0), (.i .i64 0)] [(0, (.t 30))] true),
    .op (.callr (some 29) sort_Search [(.t 27), (.t 28)]),
    .op (.callr (some 32) slices_Insert_timers_queue_api_Timer [(.t 25), (.t 29), (.t 31)]),
    .op (.mv 4 (.t 32)),
    .op (.mv 5 (.k (.i .i64 0)))])
  (.ret)))))))))))))
  [.t 4, .t 5] false none

def F_nurseryref06_Add_L0 : C :=
  (.seq ((.seq (.drw [] [0, 1, 2, 3, 4, 5, 6, 7, 8, 9, 10, 11] [.op (.mv 25 (.t 7)),
    .op (.mv 26 (.t 0)),
    .op (.len 27 (.t 26) .sl),
    .op (.bin 28 .lss (.t 25) (.t 27)),
    .op (.mv 29 (.t 28)),
    .sc false 36 29 [.op (.mv 30 (.t 0)), .op (.mv 31 (.t 7)), .op (.ixs 32 (.t 30) (.t 31) 3), .op (.ld 33 (.t 32) 3 true), .op (.ldd 34 (.t 3) 3 true), .op (.call (some 35) nurseryref06_Less [(.t 33), (.t 34)])] (.t 35)])
  (.ite (.t 36)
    (.skip)
    (.seq (.keep [0, 3, 7]) (.exit 0)))))
  (.blk 1 (.reg [.op (.mv 37 (.t 7)),
     .op (.bin 38 .add (.t 37) (.k (.i .i64 1))),
     .op (.mv 7 (.t 38))])))

/-- nursery/nurseryref06.Add -/
def F_nurseryref06_Add : F := .mk
  ((.seq (.reg [.op (.box 3 (.t 1) 3 true),
    .op (.mv 4 (.k (.sl 3 true []))),
    .op (.mv 5 (.k (.i .i64 0)))])
  ((.seq ((.seq (.reg [.op (.mv 9 (.t 0)),
    .op (.call (some 10) nurseryref06_Check [(.t 9)]),
    .op (.bin 11 .neq (.t 10) (.k (.i .i64 0)))])
  (.ite (.t 11)
    ((.seq (.reg [.op (.buildSl 12 3 0 [(.i .i64 0), (.i .i64 0), (.i .i64 0)] [] false),
      .op (.mv 4 (.t 12)),
      .op (.mv 5 (.k (.i .i64 1)))])
    (.ret)))
    (.skip))))
  ((.seq ((.seq (.reg [.op (.ld 13 (.t 3) 3 true),
    .op (.call (some 14) nurseryref06_one [(.t 13)]),
    .op (.mv 6 (.t 14))])
  ((.seq (.reg [.op (.mv 15 (.t 6)),
    .op (.bin 16 .neq (.t 15) (.k (.i .i64 0)))])
  (.ite (.t 16)
    ((.seq (.reg [.op (.buildSl 17 3 0 [(.i .i64 0), (.i .i64 0), (.i .i64 0)] [] false),
      .op (.mv 18 (.t 6)),
      .op (.mv 4 (.t 17)),
      .op (.mv 5 (.t 18))])
    (.ret)))
    (.skip))))))
  ((.seq (.reg [.op (.mv 19 (.t 0)),
    .op (.fa 20 (.t 3) 1 1),
    .op (.ld 21 (.t 20) 1 false),
    .op (.fa 22 (.t 3) 2 1),
    .op (.ld 23 (.t 22) 1 false),
    .op (.call (some 24) nurseryref06_without [(.t 19), (.t 21), (.t 23)]),
    .op (.mv 0 (.t 24))])
  ((.seq (.reg [.op (.mv 7 (.k (.i .i64 0)))])
  ((.seq (.blk 0 (.loop [0, 3, 7] F_nurseryref06_Add_L0))
  ((.seq (.drw [] [1, 2, 3, 5, 6, 0, 4, 7, 8] [.op (.mv 40 (.t 0)),
    .op (.mv 41 (.t 7)),
    .op (.sl 42 (.t 40) none (some (.t 41)) 3),
    .op (.ldd 44 (.t 3) 3 true),
    .op (.buildSl 45 3 1 [(.i .i64 0), (.i .i64 0), (.i .i64 0)] [(0, (.t 44))] true),
    .op (.buildSl 39 3 0 [(.i .i64 0), (.i .i64 0), (.i .i64 0)] [] false),
    .re (.sl 42 (.t 40) none (some (.t 41)) 3),
    .op (.app 43 (.t 39) (.t 42) 3),
    .op (.app 46 (.t 43) (.t 45) 3),
    .op (.mv 8 (.t 46))])
  ((.seq (.reg [.op (.mv 47 (.t 8)),
    .op (.mv 48 (.t 0)),
    .op (.mv 49 (.t 7)),
    .op (.sl 50 (.t 48) (some (.t 49)) none 3),
    .op (.app 51 (.t 47) (.t 50) 3),
    .op (.mv 4 (.t 51)),
    .op (.mv 5 (.k (.i .i64 0)))])
  (.ret)))))))))))))))))
  [.t 4, .t 5] false none

def F_nurseryref06_Same_L0 : C :=
  (.seq ((.seq (.reg [.op (.mv 11 (.t 5)),
    .op (.mv 12 (.t 0)),
    .op (.len 13 (.t 12) .sl),
    .op (.bin 14 .lss (.t 11) (.t 13))])
  (.ite (.t 14)
    (.skip)
    (.seq (.keep []) (.exit 0)))))
  ((.seq (.blk 1 ((.seq (.drw [] [0, 1, 2, 3, 4, 5, 6, 7, 8] [.op (.mv 17 (.t 0)),
     .op (.mv 18 (.t 5)),
     .op (.ixs 19 (.t 17) (.t 18) 3),
     .op (.ld 20 (.t 19) 3 true),
     .op (.mv 21 (.t 1)),
     .op (.mv 22 (.t 5)),
     .op (.ixs 23 (.t 21) (.t 22) 3),
     .op (.ld 24 (.t 23) 3 true),
     .op (.eqv 25 true (.t 20) (.t 24) [.i, .i, .i])])
   (.ite (.t 25)
     ((.seq (.reg [.op (.mv 4 (.k (.b false)))])
     (.seq (.keep [4]) .ret)))
     (.skip)))))
  (.reg [.op (.mv 15 (.t 5)),
    .op (.bin 16 .add (.t 15) (.k (.i .i64 1))),
    .op (.mv 5 (.t 16))]))))

/-- nursery/nurseryref06.Same -/
def F_nurseryref06_Same : F := .mk
  ((.seq (.reg [.op (.mv 4 (.k (.b false)))])
  ((.seq ((.seq (.reg [.op (.mv 6 (.t 0)),
    .op (.len 7 (.t 6) .sl),
    .op (.mv 8 (.t 1)),
    .op (.len 9 (.t 8) .sl),
    .op (.bin 10 .neq (.t 7) (.t 9))])
  (.ite (.t 10)
    ((.seq (.reg [.op (.mv 4 (.k (.b false)))])
    (.ret)))
    (.skip))))
  ((.seq ((.seq (.reg [.op (.mv 5 (.k (.i .i64 0)))])
  (.blk 0 (.loop [0, 1, 5] F_nurseryref06_Same_L0))))
  ((.seq (.reg [.op (.mv 4 (.k (.b true)))])
  (.ret)))))))))
  [.t 4] false none

def F_timers_Check_L0 : C :=
  (.seq (.reg [.op (.bin 11 .lss (.t 10) (.t 9))])
  ((.seq (.ite (.t 11)
    (.skip)
    (.seq (.keep []) (.exit 0)))
  ((.seq (.blk 1 ((.seq (.reg [.op (.mv 12 (.t 10)),
     .op (.ixs 13 (.t 8) (.t 10) 3),
     .op (.ld 14 (.t 13) 3 true),
     .op (.new 5 [(.i .i64 0), (.i .i64 0), (.i .i64 0)]),
     .op (.mv 4 (.t 12)),
     .op (.st (.t 5) (.t 14) 3 true)])
   ((.seq ((.seq (.reg [.op (.ld 15 (.t 5) 3 true),
     .op (.call (some 16) timers_check [(.t 15)]),
     .op (.mv 6 (.t 16))])
   ((.seq (.reg [.op (.mv 17 (.t 6)),
     .op (.bin 18 .neq (.t 17) (.k (.i .i64 0)))])
   (.ite (.t 18)
     ((.seq (.reg [.op (.mv 19 (.t 6)),
       .op (.mv 2 (.t 19))])
     (.seq (.keep [2]) .ret)))
     (.skip))))))
   ((.seq ((.seq (.drw [] [0, 1, 2, 3, 4, 5, 6, 7, 8, 9, 10, 11] [.op (.mv 20 (.t 4)),
     .op (.bin 21 .gtr (.t 20) (.k (.i .i64 0))),
     .op (.mv 22 (.t 21)),
     .sc false 31 22 [.op (.mv 23 (.t 0)), .op (.mv 24 (.t 4)), .op (.bin 25 .sub (.t 24) (.k (.i .i64 1))), .op (.ixs 26 (.t 23) (.t 25) 3), .op (.ld 27 (.t 26) 3 true), .op (.ldd 28 (.t 5) 3 true), .op (.call (some 29) timers_compare [(.t 27), (.t 28)]), .op (.bin 30 .geq (.t 29) (.k (.i .i64 0)))] (.t 30)])
   (.ite (.t 31)
     ((.seq (.reg [.op (.mv 2 (.k (.i .i64 9)))])
     (.seq (.keep [2]) .ret)))
     (.skip))))
   ((.seq ((.seq (.reg [.op (.mv 32 (.t 3)),
     .op (.ld 33 (.t 5) 3 true),
     .op (.call (some 34) timers_keyOf [(.t 33)]),
     .op (.mget 35 (.t 32) (.t 34) (.b false) false [.i, .i])])
   (.ite (.t 35)
     ((.seq (.reg [.op (.mv 2 (.k (.i .i64 6)))])
     (.seq (.keep [2]) .ret)))
     (.skip))))
   (.reg [.op (.mv 36 (.t 3)),
     .op (.ld 37 (.t 5) 3 true),
     .op (.call (some 38) timers_keyOf [(.t 37)]),
     .op (.mput (.t 36) (.t 38) (.k (.b true)) [.i, .i])]))))))))))
  (.reg [.op (.bin 39 .add (.t 10) (.k (.i .i64 1))),
    .op (.mv 10 (.t 39))]))))))

/-- nursery/timers.Check -/
def F_timers_Check : F := .mk
  ((.seq (.reg [.op (.mv 2 (.k (.i .i64 0)))])
  ((.seq (.reg [.op (.mkm 7),
    .op (.mv 3 (.t 7))])
  ((.seq ((.seq (.reg [.op (.mv 8 (.t 0)),
    .op (.len 9 (.t 8) .sl),
    .op (.mv 10 (.k (.i .i64 0)))])
  (.blk 0 (.loop [0, 3, 8, 9, 10] F_timers_Check_L0))))
  ((.seq (.reg [.op (.mv 2 (.k (.i .i64 0)))])
  (.ret)))))))))
  [.t 2] false none

def F_nurseryref06_Check_L0 : C :=
  (.seq ((.seq (.reg [.op (.mv 35 (.t 5)),
    .op (.mv 36 (.t 3)),
    .op (.bin 37 .lss (.t 35) (.t 36))])
  (.ite (.t 37)
    (.skip)
    (.seq (.keep [0, 3]) (.exit 2)))))
  ((.seq (.blk 3 ((.seq (.drw [] [0, 1, 2, 3, 4, 5, 6, 7, 8] [.op (.mv 40 (.t 0)),
     .op (.mv 41 (.t 5)),
     .op (.ixs 42 (.t 40) (.t 41) 3),
     .op (.ld 43 (.t 42) 3 true),
     .op (.mv 44 (.t 0)),
     .op (.mv 45 (.t 3)),
     .op (.ixs 46 (.t 44) (.t 45) 3),
     .op (.ld 47 (.t 46) 3 true),
     .op (.call (some 48) nurseryref06_same [(.t 43), (.t 47)])])
   (.ite (.t 48)
     ((.seq (.reg [.op (.mv 2 (.k (.i .i64 6)))])
     (.seq (.keep [2]) .ret)))
     (.skip)))))
  (.reg [.op (.mv 38 (.t 5)),
    .op (.bin 39 .add (.t 38) (.k (.i .i64 1))),
    .op (.mv 5 (.t 39))]))))

def F_nurseryref06_Check_L1 : C :=
  (.seq ((.seq (.reg [.op (.mv 6 (.t 3)),
    .op (.mv 7 (.t 0)),
    .op (.len 8 (.t 7) .sl),
    .op (.bin 9 .lss (.t 6) (.t 8))])
  (.ite (.t 9)
    (.skip)
    (.seq (.keep []) (.exit 0)))))
  ((.seq (.blk 1 ((.seq ((.seq (.reg [.op (.mv 12 (.t 0)),
     .op (.mv 13 (.t 3)),
     .op (.ixs 14 (.t 12) (.t 13) 3),
     .op (.ld 15 (.t 14) 3 true),
     .op (.call (some 16) nurseryref06_one [(.t 15)]),
     .op (.mv 4 (.t 16))])
   ((.seq (.reg [.op (.mv 17 (.t 4)),
     .op (.bin 18 .neq (.t 17) (.k (.i .i64 0)))])
   (.ite (.t 18)
     ((.seq (.reg [.op (.mv 19 (.t 4)),
       .op (.mv 2 (.t 19))])
     (.seq (.keep [2]) .ret)))
     (.skip))))))
   ((.seq ((.seq (.drw [] [0, 1, 2, 3, 4, 5, 6, 7, 8, 9, 10, 11, 12, 13, 14] [.op (.mv 20 (.t 3)),
     .op (.bin 21 .gtr (.t 20) (.k (.i .i64 0))),
     .op (.mv 22 (.t 21)),
     .sc false 34 22 [.op (.mv 23 (.t 0)), .op (.mv 24 (.t 3)), .op (.bin 25 .sub (.t 24) (.k (.i .i64 1))), .op (.ixs 26 (.t 23) (.t 25) 3), .op (.ld 27 (.t 26) 3 true), .op (.mv 28 (.t 0)), .op (.mv 29 (.t 3)), .op (.ixs 30 (.t 28) (.t 29) 3), .op (.ld 31 (.t 30) 3 true), .op (.call (some 32) nurseryref06_Less [(.t 27), (.t 31)]), .op (.un 33 .not (.t 32))] (.t 33)])
   (.ite (.t 34)
     ((.seq (.reg [.op (.mv 2 (.k (.i .i64 9)))])
     (.seq (.keep [2]) .ret)))
     (.skip))))
   ((.seq (.reg [.op (.mv 5 (.k (.i .i64 0)))])
   (.blk 2 (.loop [0, 3, 5] F_nurseryref06_Check_L0)))))))))
  (.reg [.op (.mv 10 (.t 3)),
    .op (.bin 11 .add (.t 10) (.k (.i .i64 1))),
    .op (.mv 3 (.t 11))]))))

/-- nursery/nurseryref06.Check -/
def F_nurseryref06_Check : F := .mk
  ((.seq (.reg [.op (.mv 2 (.k (.i .i64 0)))])
  ((.seq ((.seq (.reg [.op (.mv 3 (.k (.i .i64 0)))])
  (.blk 0 (.loop [0, 3] F_nurseryref06_Check_L1))))
  ((.seq (.reg [.op (.mv 2 (.k (.i .i64 0)))])
  (.ret)))))))
  [.t 2] false none

/-- nursery/timers.Remove -/
def F_timers_Remove : F := .mk
  ((.seq (.reg [.op (.mv 6 (.k (.sl 3 true [])))])
  ((.seq ((.seq (.reg [.op (.mv 7 (.t 0)),
    .op (.call (some 8) timers_Check [(.t 7)]),
    .op (.bin 9 .neq (.t 8) (.k (.i .i64 0)))])
  (.ite (.t 9)
    ((.seq (.reg [.op (.mv 6 (.k (.sl 3 true [])))])
    (.ret)))
    (.skip))))
  ((.seq (.reg [.op (.mv 10 (.t 0)),
    .op (.mv 11 (.t 1)),
    .op (.mv 12 (.t 2)),
    .op (.build 13 [(.i .i64 0), (.i .i64 0)] [(0, 1, (.t 11)), (1, 1, (.t 12))]),
    .op (.callk (some 14) timers_queue_without [(.t 10), (.t 13)]),
    .op (.mv 6 (.t 14))])
  (.ret)))))))
  [.t 6] false none

/-- nursery/timers.Find -/
def F_timers_Find : F := .mk
  ((.seq (.reg [.op (.box 4 (.t 1) 1 true),
    .op (.box 5 (.t 2) 1 true),
    .op (.mv 6 (.k (.i .i64 0))),
    .op (.mv 7 (.k (.b false)))])
  ((.seq (.reg [.op (.mv 9 (.t 0)),
    .op (.mkf 10 timers_FindC1 [] [(.t 4), (.t 5)]),
    .op (.call (some 11) slices_IndexFunc_api_Timer_api_Timer [(.t 9), (.t 10)]),
    .op (.mv 8 (.t 11))])
  ((.seq ((.seq (.reg [.op (.mv 12 (.t 8)),
    .op (.bin 13 .lss (.t 12) (.k (.i .i64 0))),
    .op (.mv 14 (.t 13)),
    .sc true 18 14 [.op (.mv 15 (.t 0)), .op (.call (some 16) timers_Check [(.t 15)]), .op (.bin 17 .neq (.t 16) (.k (.i .i64 0)))] (.t 17)])
  (.ite (.t 18)
    ((.seq (.reg [.op (.mv 6 (.k (.i .i64 0))),
      .op (.mv 7 (.k (.b false)))])
    (.ret)))
    (.skip))))
  ((.seq (.reg [.op (.mv 19 (.t 0)),
    .op (.mv 20 (.t 8)),
    .op (.ixs 21 (.t 19) (.t 20) 3),
    .op (.fa 22 (.t 21) 0 1),
    .op (.ld 23 (.t 22) 1 false),
    .op (.mv 6 (.t 23)),
    .op (.mv 7 (.k (.b true)))])
  (.ret)))))))))
  [.t 6, .t 7] false none

def F_nurserylaw06_added_L0 : C :=
  (.seq (.reg [.op (.bin 12 .lss (.t 11) (.t 10))])
  ((.seq (.ite (.t 12)
    (.skip)
    (.seq (.keep [4]) (.exit 0)))
  ((.seq (.blk 1 ((.seq (.reg [.op (.ixs 13 (.t 9) (.t 11) 3),
     .op (.ld 14 (.t 13) 3 true),
     .op (.new 6 [(.i .i64 0), (.i .i64 0), (.i .i64 0)]),
     .op (.st (.t 6) (.t 14) 3 true)])
   ((.seq (.reg [.op (.mv 16 (.t 4)),
     .op (.ld 17 (.t 6) 3 true),
     .op (.call (some 18) timers_Add [(.t 16), (.t 17)]),
     .op (.mv 15 (.t 18)),
     .op (.ext 19 (.t 15) 0),
     .op (.ext 20 (.t 15) 1),
     .op (.mv 7 (.t 19)),
     .op (.mv 8 (.t 20))])
   ((.seq ((.seq (.reg [.op (.mv 21 (.t 8)),
     .op (.bin 22 .neq (.t 21) (.k (.i .i64 0)))])
   (.ite (.t 22)
     ((.seq (.reg [.op (.mv 2 (.k (.sl 3 true []))),
       .op (.mv 3 (.k (.b false)))])
     (.seq (.keep [2, 3]) .ret)))
     (.skip))))
   (.reg [.op (.mv 23 (.t 7)),
     .op (.mv 4 (.t 23))]))))))))
  (.reg [.op (.bin 24 .add (.t 11) (.k (.i .i64 1))),
    .op (.mv 11 (.t 24))]))))))

/-- nursery/nurserylaw06.added -/
def F_nurserylaw06_added : F := .mk
  ((.seq (.reg [.op (.mv 2 (.k (.sl 3 true []))),
    .op (.mv 3 (.k (.b false)))])
  ((.seq (.reg [.op (.mv 4 (.k (.sl 3 true [])))])
  ((.seq ((.seq (.reg [.op (.mv 9 (.t 0)),
    .op (.len 10 (.t 9) .sl),
    .op (.mv 11 (.k (.i .i64 0)))])
  (.blk 0 (.loop [4, 9, 10, 11] F_nurserylaw06_added_L0))))
  ((.seq (.reg [.op (.mv 25 (.t 4)),
    .op (.mv 2 (.t 25)),
    .op (.mv 3 (.k (.b true)))])
  (.ret)))))))))
  [.t 2, .t 3] false none

/-- slices.ContainsFunc[[]nursery/api.Timer,nursery/api.Timer] -/
def F_slices_ContainsFunc_api_Timer_api_Timer : F := .mk
  ((.seq (.reg [.op (.mv 4 (.k (.b false)))])
  ((.seq (.reg [.op (.mv 5 (.t 0)),
    .op (.mv 6 (.t 1)),
    .op (.call (some 7) slices_IndexFunc_api_Timer_api_Timer [(.t 5), (.t 6)]),
    .op (.bin 8 .geq (.t 7) (.k (.i .i64 0))),
    .op (.mv 4 (.t 8))])
  (.ret)))))
  [.t 4] false none

/-- nursery/nurserylaw06.TimersLast$1 -/
def F_nurserylaw06_TimersLastC1 : F := .mk
  ((.seq (.reg [.op (.box 2 (.t 0) 3 true),
    .op (.mv 3 (.k (.b false)))])
  ((.seq (.drw [] [0, 1, 2, 3, 4, 5] [.op (.ldd 4 (.t 2) 3 true),
    .op (.call (some 5) nurserylaw06_key [(.t 4)]),
    .op (.ld 6 (.t 1) 3 true),
    .op (.call (some 7) nurserylaw06_key [(.t 6)]),
    .op (.eqv 8 false (.t 5) (.t 7) [.i, .i, .i]),
    .op (.mv 3 (.t 8))])
  (.ret)))))
  [.t 3] false none

/-- nursery/nurserylaw06.key -/
def F_nurserylaw06_key : F := .mk
  ((.seq (.reg [.op (.box 1 (.t 0) 3 false),
    .op (.new 2 [(.i .i64 0), (.i .i64 0), (.i .i64 0)])])
  ((.seq (.reg [.op (.fa 3 (.t 1) 0 1),
    .op (.st (.t 3) (.k (.i .i64 0)) 1 false)])
  ((.seq (.reg [.op (.ld 4 (.t 1) 3 true),
    .op (.st (.t 2) (.t 4) 3 false)])
  (.ret)))))))
  [.c 2 3 true] false none

/-- slices.Contains[[]nursery/api.Timer,nursery/api.Timer] -/
def F_slices_Contains_api_Timer_api_Timer : F := .mk
  ((.seq (.reg [.op (.box 3 (.t 1) 3 true),
    .op (.mv 4 (.k (.b false)))])
  ((.seq (.reg [.op (.mv 5 (.t 0)),
    .op (.ld 6 (.t 3) 3 true),
    .op (.call (some 7) slices_Index_api_Timer_api_Timer [(.t 5), (.t 6)]),
    .op (.bin 8 .geq (.t 7) (.k (.i .i64 0))),
    .op (.mv 4 (.t 8))])
  (.ret)))))
  [.t 4] false none

/-- nursery/timers.Next -/
def F_timers_Next : F := .mk
  ((.seq (.reg [.op (.mv 2 (.k (.i .i64 0))),
    .op (.mv 3 (.k (.b false)))])
  ((.seq ((.seq (.reg [.op (.mv 4 (.t 0)),
    .op (.len 5 (.t 4) .sl),
    .op (.bin 6 .eql (.t 5) (.k (.i .i64 0))),
    .op (.mv 7 (.t 6)),
    .sc true 11 7 [.op (.mv 8 (.t 0)), .op (.call (some 9) timers_Check [(.t 8)]), .op (.bin 10 .neq (.t 9) (.k (.i .i64 0)))] (.t 10)])
  (.ite (.t 11)
    ((.seq (.reg [.op (.mv 2 (.k (.i .i64 0))),
      .op (.mv 3 (.k (.b false)))])
    (.ret)))
    (.skip))))
  ((.seq (.reg [.op (.mv 12 (.t 0)),
    .op (.ixs 13 (.t 12) (.k (.i .i64 0)) 3),
    .op (.fa 14 (.t 13) 0 1),
    .op (.ld 15 (.t 14) 1 false),
    .op (.mv 2 (.t 15)),
    .op (.mv 3 (.k (.b true)))])
  (.ret)))))))
  [.t 2, .t 3] false none

def F_timers_Expire_A0 : C :=
  .reg [.op (.new 7 [(.i .i64 0), (.i .i64 0), (.i .i64 0)]),
    .op (.st (.t 7) (.t 14) 3 true)]

def F_timers_Expire_B0 : C :=
  .blk 1 (.reg [.op (.ld 15 (.t 6) 1 false),
     .op (.ld 16 (.t 7) 3 true),
     .op (.buildSl 17 3 1 [(.i .i64 0), (.i .i64 0), (.i .i64 0)] [(0, (.t 16))] true),
     .op (.app 18 (.t 15) (.t 17) 3),
     .op (.st (.t 6) (.t 18) 1 false)])

/-- nursery/timers.Expire -/
def F_timers_Expire : F := .mk
  ((.seq (.reg [.op (.mv 4 (.k (.sl 3 true []))),
    .op (.mv 5 (.k (.sl 3 true [])))])
  ((.seq ((.seq (.reg [.op (.mv 8 (.t 0)),
    .op (.call (some 9) timers_Check [(.t 8)]),
    .op (.bin 10 .neq (.t 9) (.k (.i .i64 0)))])
  (.ite (.t 10)
    ((.seq (.reg [.op (.mv 4 (.k (.sl 3 true []))),
      .op (.mv 5 (.k (.sl 3 true [])))])
    (.ret)))
    (.skip))))
  ((.seq (.reg [.op (.new 6 [(.sl 3 true [])])])
  ((.seq ((.seq (.reg [.op (.mv 11 (.t 0)),
    .op (.mv 12 (.t 1)),
    .op (.call (some 13) timers_queue_due [(.t 11), (.t 12)])])
  (.blk 0 (.rng (.t 13) [6] [14] F_timers_Expire_A0 F_timers_Expire_B0))))
  ((.seq (.drw [] [0, 1, 2, 3, 4, 5, 6, 7] [.op (.ld 19 (.t 6) 1 false),
    .op (.mv 20 (.t 0)),
    .op (.ld 21 (.t 6) 1 false),
    .op (.len 22 (.t 21) .sl),
    .op (.sl 23 (.t 20) (some (.t 22)) none 3),
    .op (.call (some 24) slices_Clone_api_Timer_api_Timer [(.t 23)]),
    .op (.mv 4 (.t 19)),
    .op (.mv 5 (.t 24))])
  (.ret)))))))))))
  [.t 4, .t 5] false none

/-- nursery/nurserylaw06.TimersRun$1 -/
def F_nurserylaw06_TimersRunC1 : F := .mk
  ((.seq (.reg [.op (.box 2 (.t 0) 3 true),
    .op (.mv 3 (.k (.b false)))])
  ((.seq (.reg [.op (.fa 4 (.t 2) 0 1),
    .op (.ld 5 (.t 4) 1 false),
    .op (.ld 6 (.t 1) 1 false),
    .op (.bin 7 .neq (.t 5) (.t 6)),
    .op (.mv 3 (.t 7))])
  (.ret)))))
  [.t 3] false none

/-- nursery/nurserylaw06.TimersOrders$1 -/
def F_nurserylaw06_TimersOrdersC1 : F := .mk
  ((.seq (.reg [.op (.box 2 (.t 0) 3 true),
    .op (.mv 3 (.k (.b false)))])
  ((.seq (.drw [] [0, 1, 2, 3, 4, 5] [.op (.ldd 4 (.t 2) 3 true),
    .op (.call (some 5) nurserylaw06_key [(.t 4)]),
    .op (.ld 6 (.t 1) 3 true),
    .op (.call (some 7) nurserylaw06_key [(.t 6)]),
    .op (.eqv 8 false (.t 5) (.t 7) [.i, .i, .i]),
    .op (.mv 3 (.t 8))])
  (.ret)))))
  [.t 3] false none

def F_slices_Concat_api_Timer_api_Timer_L0 : C :=
  (.seq (.reg [.op (.bin 12 .lss (.t 11) (.t 10))])
  ((.seq (.ite (.t 12)
    (.skip)
    (.seq (.keep [0, 3]) (.exit 0)))
  ((.seq (.blk 1 ((.seq (.reg [.op (.ixs 13 (.t 9) (.t 11) 1),
     .op (.ld 14 (.t 13) 1 false),
     .op (.mv 5 (.t 14))])
   ((.seq (.reg [.op (.mv 15 (.t 3)),
     .op (.mv 16 (.t 5)),
     .op (.len 17 (.t 16) .sl),
     .op (.bin 18 .add (.t 15) (.t 17)),
     .op (.mv 3 (.t 18))])
   ((.seq (.reg [.op (.mv 19 (.t 3)),
     .op (.bin 20 .lss (.t 19) (.k (.i .i64 0)))])
   (.ite (.t 20)
     (.reg [.op (.bad (some 21)),
       .op (.bad none)])
     (.skip)))))))))
  (.reg [.op (.bin 22 .add (.t 11) (.k (.i .i64 1))),
    .op (.mv 11 (.t 22))]))))))

def F_slices_Concat_api_Timer_api_Timer_L1 : C :=
  (.seq (.reg [.op (.bin 28 .lss (.t 27) (.t 26))])
  ((.seq (.ite (.t 28)
    (.skip)
    (.seq (.keep [6]) (.exit 2)))
  ((.seq (.blk 3 ((.seq (.reg [.op (.ixs 29 (.t 25) (.t 27) 1),
     .op (.ld 30 (.t 29) 1 false),
     .op (.mv 8 (.t 30))])
   (.reg [.op (.mv 31 (.t 6)),
     .op (.mv 32 (.t 8)),
     .op (.app 33 (.t 31) (.t 32) 3),
     .op (.mv 6 (.t 33))]))))
  (.reg [.op (.bin 34 .add (.t 27) (.k (.i .i64 1))),
    .op (.mv 27 (.t 34))]))))))

/-- slices.Concat[[]nursery/api.Timer,nursery/api.Timer] -/
def F_slices_Concat_api_Timer_api_Timer : F := .mk
  ((.seq (.reg [.op (.mv 2 (.k (.sl 3 true [])))])
  ((.seq (.reg [.op (.mv 3 (.k (.i .i64 0)))])
  ((.seq ((.seq (.reg [.op (.mv 9 (.t 0)),
    .op (.len 10 (.t 9) .sl),
    .op (.mv 11 (.k (.i .i64 0)))])
  (.blk 0 (.loop [0, 3, 9, 10, 11] F_slices_Concat_api_Timer_api_Timer_L0))))
  ((.seq (.reg [.op (.mv 23 (.t 3)),
    .op (.callk (some 24) slices_Grow_api_Timer_api_Timer [(.k (.sl 3 true [])), (.t 23)]),
    .op (.mv 6 (.t 24))])
  ((.seq ((.seq (.reg [.op (.mv 25 (.t 0)),
    .op (.len 26 (.t 25) .sl),
    .op (.mv 27 (.k (.i .i64 0)))])
  (.blk 2 (.loop [6, 25, 26, 27] F_slices_Concat_api_Timer_api_Timer_L1))))
  ((.seq (.reg [.op (.mv 35 (.t 6)),
    .op (.mv 2 (.t 35))])
  (.ret)))))))))))))
  [.t 2] true none

def F_slices_Concat_api_Timer_api_Timer_p : F := ⟨F_slices_Concat_api_Timer_api_Timer.code, F_slices_Concat_api_Timer_api_Timer.res, false, none⟩

def F_slices_Reverse_api_Timer_api_Timer_L0 : C :=
  (.seq ((.seq (.reg [.op (.mv 7 (.t 2)),
    .op (.mv 8 (.t 3)),
    .op (.bin 9 .lss (.t 7) (.t 8))])
  (.ite (.t 9)
    (.skip)
    (.seq (.keep []) (.exit 0)))))
  ((.seq (.blk 1 (.drw [] [0, 1, 2, 3, 4, 5, 6, 7, 8, 9, 10, 11, 12, 13, 14, 15] [.op (.mv 14 (.t 0)),
     .op (.mv 15 (.t 2)),
     .op (.mv 16 (.t 0)),
     .op (.mv 17 (.t 3)),
     .op (.mv 18 (.t 0)),
     .op (.mv 19 (.t 3)),
     .op (.ixs 20 (.t 18) (.t 19) 3),
     .op (.ld 21 (.t 20) 3 true),
     .op (.mv 22 (.t 0)),
     .op (.mv 23 (.t 2)),
     .op (.ixs 24 (.t 22) (.t 23) 3),
     .op (.ld 25 (.t 24) 3 true),
     .op (.ixs 26 (.t 14) (.t 15) 3),
     .op (.st (.t 26) (.t 21) 3 false),
     .op (.ixs 27 (.t 16) (.t 17) 3),
     .op (.st (.t 27) (.t 25) 3 false)]))
  (.reg [.op (.mv 10 (.t 2)),
    .op (.bin 11 .add (.t 10) (.k (.i .i64 1))),
    .op (.mv 12 (.t 3)),
    .op (.bin 13 .sub (.t 12) (.k (.i .i64 1))),
    .op (.mv 2 (.t 11)),
    .op (.mv 3 (.t 13))]))))

/-- slices.Reverse[[]nursery/api.Timer,nursery/api.Timer] -/
def F_slices_Reverse_api_Timer_api_Timer : F := .mk
  ((.seq (.reg [.op (.mv 4 (.t 0)),
    .op (.len 5 (.t 4) .sl),
    .op (.bin 6 .sub (.t 5) (.k (.i .i64 1))),
    .op (.mv 2 (.k (.i .i64 0))),
    .op (.mv 3 (.t 6))])
  (.blk 0 (.loop [0, 2, 3] F_slices_Reverse_api_Timer_api_Timer_L0))))
  [] true none

def F_nurseryref06_Find_L0 : C :=
  (.seq ((.seq (.reg [.op (.mv 12 (.t 8)),
    .op (.mv 13 (.t 0)),
    .op (.len 14 (.t 13) .sl),
    .op (.bin 15 .lss (.t 12) (.t 14))])
  (.ite (.t 15)
    (.skip)
    (.seq (.keep []) (.exit 0)))))
  ((.seq (.blk 1 ((.seq (.reg [.op (.mv 18 (.t 0)),
     .op (.mv 19 (.t 8)),
     .op (.ixs 20 (.t 18) (.t 19) 3),
     .op (.fa 21 (.t 20) 1 1),
     .op (.ld 22 (.t 21) 1 false),
     .op (.mv 23 (.t 1)),
     .op (.bin 24 .eql (.t 22) (.t 23)),
     .op (.mv 25 (.t 24)),
     .sc false 33 25 [.op (.mv 26 (.t 0)), .op (.mv 27 (.t 8)), .op (.ixs 28 (.t 26) (.t 27) 3), .op (.fa 29 (.t 28) 2 1), .op (.ld 30 (.t 29) 1 false), .op (.mv 31 (.t 2)), .op (.bin 32 .eql (.t 30) (.t 31))] (.t 32)])
   (.ite (.t 33)
     ((.seq (.reg [.op (.mv 34 (.t 0)),
       .op (.mv 35 (.t 8)),
       .op (.ixs 36 (.t 34) (.t 35) 3),
       .op (.fa 37 (.t 36) 0 1),
       .op (.ld 38 (.t 37) 1 false),
       .op (.mv 6 (.t 38)),
       .op (.mv 7 (.k (.b true)))])
     (.seq (.keep [6, 7]) .ret)))
     (.skip)))))
  (.reg [.op (.mv 16 (.t 8)),
    .op (.bin 17 .add (.t 16) (.k (.i .i64 1))),
    .op (.mv 8 (.t 17))]))))

/-- nursery/nurseryref06.Find -/
def F_nurseryref06_Find : F := .mk
  ((.seq (.reg [.op (.mv 6 (.k (.i .i64 0))),
    .op (.mv 7 (.k (.b false)))])
  ((.seq ((.seq (.reg [.op (.mv 9 (.t 0)),
    .op (.call (some 10) nurseryref06_Check [(.t 9)]),
    .op (.bin 11 .neq (.t 10) (.k (.i .i64 0)))])
  (.ite (.t 11)
    ((.seq (.reg [.op (.mv 6 (.k (.i .i64 0))),
      .op (.mv 7 (.k (.b false)))])
    (.ret)))
    (.skip))))
  ((.seq ((.seq (.reg [.op (.mv 8 (.k (.i .i64 0)))])
  (.blk 0 (.loop [0, 1, 2, 8] F_nurseryref06_Find_L0))))
  ((.seq (.reg [.op (.mv 6 (.k (.i .i64 0))),
    .op (.mv 7 (.k (.b false)))])
  (.ret)))))))))
  [.t 6, .t 7] false none

/-- nursery/nurseryref06.Next -/
def F_nurseryref06_Next : F := .mk
  ((.seq (.reg [.op (.mv 2 (.k (.i .i64 0))),
    .op (.mv 3 (.k (.b false)))])
  ((.seq ((.seq (.reg [.op (.mv 4 (.t 0)),
    .op (.call (some 5) nurseryref06_Check [(.t 4)]),
    .op (.bin 6 .neq (.t 5) (.k (.i .i64 0))),
    .op (.mv 7 (.t 6)),
    .sc true 11 7 [.op (.mv 8 (.t 0)), .op (.len 9 (.t 8) .sl), .op (.bin 10 .eql (.t 9) (.k (.i .i64 0)))] (.t 10)])
  (.ite (.t 11)
    ((.seq (.reg [.op (.mv 2 (.k (.i .i64 0))),
      .op (.mv 3 (.k (.b false)))])
    (.ret)))
    (.skip))))
  ((.seq (.reg [.op (.mv 12 (.t 0)),
    .op (.ixs 13 (.t 12) (.k (.i .i64 0)) 3),
    .op (.fa 14 (.t 13) 0 1),
    .op (.ld 15 (.t 14) 1 false),
    .op (.mv 2 (.t 15)),
    .op (.mv 3 (.k (.b true)))])
  (.ret)))))))
  [.t 2, .t 3] false none

def F_nurseryref06_Expire_L0 : C :=
  (.seq ((.seq (.reg [.op (.mv 12 (.t 6)),
    .op (.mv 13 (.t 0)),
    .op (.len 14 (.t 13) .sl),
    .op (.bin 15 .lss (.t 12) (.t 14)),
    .op (.mv 16 (.t 15)),
    .sc false 24 16 [.op (.mv 17 (.t 0)), .op (.mv 18 (.t 6)), .op (.ixs 19 (.t 17) (.t 18) 3), .op (.fa 20 (.t 19) 0 1), .op (.ld 21 (.t 20) 1 false), .op (.mv 22 (.t 1)), .op (.bin 23 .leq (.t 21) (.t 22))] (.t 23)])
  (.ite (.t 24)
    (.skip)
    (.seq (.keep [0, 6]) (.exit 0)))))
  (.blk 1 (.reg [.op (.mv 25 (.t 6)),
     .op (.bin 26 .add (.t 25) (.k (.i .i64 1))),
     .op (.mv 6 (.t 26))])))

/-- nursery/nurseryref06.Expire -/
def F_nurseryref06_Expire : F := .mk
  ((.seq (.reg [.op (.mv 4 (.k (.sl 3 true []))),
    .op (.mv 5 (.k (.sl 3 true [])))])
  ((.seq ((.seq (.reg [.op (.mv 7 (.t 0)),
    .op (.call (some 8) nurseryref06_Check [(.t 7)]),
    .op (.bin 9 .neq (.t 8) (.k (.i .i64 0)))])
  (.ite (.t 9)
    ((.seq (.reg [.op (.buildSl 10 3 0 [(.i .i64 0), (.i .i64 0), (.i .i64 0)] [] false),
      .op (.buildSl 11 3 0 [(.i .i64 0), (.i .i64 0), (.i .i64 0)] [] false),
      .op (.mv 4 (.t 10)),
      .op (.mv 5 (.t 11))])
    (.ret)))
    (.skip))))
  ((.seq (.reg [.op (.mv 6 (.k (.i .i64 0)))])
  ((.seq (.blk 0 (.loop [0, 1, 6] F_nurseryref06_Expire_L0))
  ((.seq (.drw [] [0, 1, 2, 3, 4, 5, 6, 7, 8, 9, 10, 11] [.op (.lit0 27 3 [(.i .i64 0), (.i .i64 0), (.i .i64 0)]),
    .op (.mv 28 (.t 0)),
    .op (.mv 29 (.t 6)),
    .op (.sl 30 (.t 28) none (some (.t 29)) 3),
    .op (.appf 31 (.t 27) (.t 30) 3),
    .op (.lit0 32 3 [(.i .i64 0), (.i .i64 0), (.i .i64 0)]),
    .op (.mv 33 (.t 0)),
    .op (.mv 34 (.t 6)),
    .op (.sl 35 (.t 33) (some (.t 34)) none 3),
    .op (.appf 36 (.t 32) (.t 35) 3),
    .op (.mv 4 (.t 31)),
    .op (.mv 5 (.t 36))])
  (.ret)))))))))))
  [.t 4, .t 5] false none

/-- nursery/nurseryref06.Remove -/
def F_nurseryref06_Remove : F := .mk
  ((.seq (.reg [.op (.mv 6 (.k (.sl 3 true [])))])
  ((.seq ((.seq (.reg [.op (.mv 7 (.t 0)),
    .op (.call (some 8) nurseryref06_Check [(.t 7)]),
    .op (.bin 9 .neq (.t 8) (.k (.i .i64 0)))])
  (.ite (.t 9)
    ((.seq (.reg [.op (.buildSl 10 3 0 [(.i .i64 0), (.i .i64 0), (.i .i64 0)] [] false),
      .op (.mv 6 (.t 10))])
    (.ret)))
    (.skip))))
  ((.seq (.reg [.op (.mv 11 (.t 0)),
    .op (.mv 12 (.t 1)),
    .op (.mv 13 (.t 2)),
    .op (.call (some 14) nurseryref06_without [(.t 11), (.t 12), (.t 13)]),
    .op (.mv 6 (.t 14))])
  (.ret)))))))
  [.t 6] false none

/-- nursery/nurserylaw06.TimersExpire$1 -/
def F_nurserylaw06_TimersExpireC1 : F := .mk
  ((.seq (.reg [.op (.box 2 (.t 0) 3 true),
    .op (.mv 3 (.k (.b false)))])
  ((.seq (.reg [.op (.fa 4 (.t 2) 0 1),
    .op (.ld 5 (.t 4) 1 false),
    .op (.ld 6 (.t 1) 1 false),
    .op (.bin 7 .gtr (.t 5) (.t 6)),
    .op (.mv 3 (.t 7))])
  (.ret)))))
  [.t 3] false none

/-- nursery/nurserylaw06.sleep -/
def F_nurserylaw06_sleep : F := .mk
  ((.seq (.reg [.op (.new 4 [(.i .i64 0), (.i .i64 0), (.i .i64 0)])])
  ((.seq (.reg [.op (.mv 5 (.t 1)),
    .op (.mv 6 (.t 0)),
    .op (.build 7 [(.i .i64 0), (.i .i64 0), (.i .i64 0)] [(0, 1, (.t 5)), (1, 1, (.k (.i .i64 1))), (2, 1, (.t 6))]),
    .op (.st (.t 4) (.t 7) 3 false)])
  (.ret)))))
  [.c 4 3 true] false none

/-- nursery/timers.check -/
def F_timers_check : F := .mk
  ((.seq (.reg [.op (.box 1 (.t 0) 3 true),
    .op (.mv 2 (.k (.i .i64 0)))])
  ((.seq (.reg [.op (.mkm 6),
    .op (.mput (.t 6) (.k (.i .i64 1)) (.k (.i .i64 16)) [.i]),
    .op (.mput (.t 6) (.k (.i .i64 2)) (.k (.i .i64 32)) [.i]),
    .op (.mput (.t 6) (.k (.i .i64 3)) (.k (.i .i64 16)) [.i]),
    .op (.mv 7 (.t 6)),
    .op (.mv 3 (.t 7))])
  ((.seq (.reg [.op (.mv 9 (.t 3)),
    .op (.fa 10 (.t 1) 1 1),
    .op (.ld 11 (.t 10) 1 false),
    .op (.mget 12 (.t 9) (.t 11) (.i .i64 0) true [.i]),
    .op (.mv 8 (.t 12)),
    .op (.ext 13 (.t 8) 0),
    .op (.ext 14 (.t 8) 1),
    .op (.mv 4 (.t 13)),
    .op (.mv 5 (.t 14))])
  ((.seq (.blk 0 ((.seq (.reg [.op (.mv 16 (.t 5)),
     .op (.un 17 .not (.t 16)),
     .op (.mv 15 (.t 17))])
   (.ite (.t 15)
     ((.seq (.reg [.op (.mv 2 (.k (.i .i64 8)))])
     (.ret)))
     ((.seq (.reg [.op (.fa 19 (.t 1) 2 1),
       .op (.ld 20 (.t 19) 1 false),
       .op (.bin 21 .lss (.t 20) (.k (.i .i64 0))),
       .op (.mv 22 (.t 21)),
       .sc true 27 22 [.op (.fa 23 (.t 1) 2 1), .op (.ld 24 (.t 23) 1 false), .op (.mv 25 (.t 4)), .op (.bin 26 .geq (.t 24) (.t 25))] (.t 26),
       .op (.mv 28 (.t 27)),
       .sc true 32 28 [.op (.fa 29 (.t 1) 0 1), .op (.ld 30 (.t 29) 1 false), .op (.bin 31 .lss (.t 30) (.k (.i .i64 1)))] (.t 31),
       .op (.mv 33 (.t 32)),
       .sc true 37 33 [.op (.fa 34 (.t 1) 0 1), .op (.ld 35 (.t 34) 1 false), .op (.bin 36 .gtr (.t 35) (.k (.i .i64 1099511627776)))] (.t 36),
       .op (.mv 18 (.t 37))])
     (.ite (.t 18)
       ((.seq (.reg [.op (.mv 2 (.k (.i .i64 2)))])
       (.ret)))
       (.skip))))))))
  ((.seq (.reg [.op (.mv 2 (.k (.i .i64 0)))])
  (.ret)))))))))))
  [.t 2] false none

/-- (nursery/timers.queue).without -/
def F_timers_queue_without : F := .mk
  ((.seq (.reg [.op (.box 3 (.t 1) 2 true),
    .op (.mv 4 (.k (.sl 3 true [])))])
  ((.seq (.reg [.op (.mv 5 (.t 0)),
    .op (.callk (some 6) slices_Clone_timers_queue_api_Timer [(.t 5)]),
    .op (.mkf 7 timers_queue_withoutC1 [] [(.t 3)]),
    .op (.callr (some 8) slices_DeleteFunc_timers_queue_api_Timer [(.t 6), (.t 7)]),
    .op (.mv 4 (.t 8))])
  (.ret)))))
  [.t 4] true none

/-- nursery/timers.keyOf -/
def F_timers_keyOf : F := .mk
  ((.seq (.reg [.op (.box 1 (.t 0) 3 true),
    .op (.new 2 [(.i .i64 0), (.i .i64 0)])])
  ((.seq (.reg [.op (.fa 3 (.t 1) 1 1),
    .op (.ld 4 (.t 3) 1 false),
    .op (.fa 5 (.t 1) 2 1),
    .op (.ld 6 (.t 5) 1 false),
    .op (.build 7 [(.i .i64 0), (.i .i64 0)] [(0, 1, (.t 4)), (1, 1, (.t 6))]),
    .op (.st (.t 2) (.t 7) 2 false)])
  (.ret)))))
  [.c 2 2 true] false none

/-- (nursery/timers.place).behind -/
def F_timers_place_behind : F := .mk
  ((.seq (.reg [.op (.box 2 (.t 0) 4 false),
    .op (.mv 4 (.k (.b false)))])
  ((.seq (.drw [] [0, 1, 2, 3, 4, 5, 6, 7, 8, 9] [.op (.fa 5 (.t 2) 0 1),
    .op (.ld 6 (.t 5) 1 false),
    .op (.mv 7 (.t 1)),
    .op (.ixs 8 (.t 6) (.t 7) 3),
    .op (.ld 9 (.t 8) 3 true),
    .op (.fa 10 (.t 2) 1 3),
    .op (.ld 11 (.t 10) 3 true),
    .op (.call (some 12) timers_compare [(.t 9), (.t 11)]),
    .op (.bin 13 .geq (.t 12) (.k (.i .i64 0))),
    .op (.mv 4 (.t 13))])
  (.ret)))))
  [.t 4] false none

/-- slices.Insert[nursery/timers.queue,nursery/api.Timer] -/
def R_slices_Insert_timers_queue_api_Timer : F := .mk
  ((.seq (.reg [.op (.mv 6 (.k (.sl 3 true [])))])
  ((.seq (.reg [.op (.mv 10 (.t 0)),
    .op (.mv 11 (.t 1)),
    .op (.sl 12 (.t 10) (some (.t 11)) none 3)])
  ((.seq (.reg [.op (.mv 13 (.t 2)),
    .op (.len 14 (.t 13) .sl),
    .op (.mv 7 (.t 14))])
  ((.seq ((.seq (.reg [.op (.mv 15 (.t 7)),
    .op (.bin 16 .eql (.t 15) (.k (.i .i64 0)))])
  (.ite (.t 16)
    ((.seq (.reg [.op (.mv 17 (.t 0)),
      .op (.mv 6 (.t 17))])
    (.ret)))
    (.skip))))
  ((.seq (.reg [.op (.mv 18 (.t 0)),
    .op (.len 19 (.t 18) .sl),
    .op (.mv 8 (.t 19))])
  ((.seq ((.seq (.reg [.op (.mv 20 (.t 1)),
    .op (.mv 21 (.t 8)),
    .op (.bin 22 .eql (.t 20) (.t 21))])
  (.ite (.t 22)
    ((.seq (.reg [.op (.mv 23 (.t 0)),
      .op (.mv 24 (.t 2)),
      .op (.app 25 (.t 23) (.t 24) 3),
      .op (.mv 6 (.t 25))])
    (.ret)))
    (.skip))))
  ((.seq ((.seq (.reg [.op (.mv 26 (.t 8)),
    .op (.mv 27 (.t 7)),
    .op (.bin 28 .add (.t 26) (.t 27)),
    .op (.mv 29 (.t 0)),
    .op (.cap 30 (.t 29)),
    .op (.bin 31 .gtr (.t 28) (.t 30))])
  (.ite (.t 31)
    ((.seq (.reg [.op (.mv 32 (.t 0)),
      .op (.mv 33 (.t 1)),
      .op (.sl 34 (.t 32) none (some (.t 33)) 3),
      .op (.mv 35 (.t 8)),
      .op (.mv 36 (.t 7)),
      .op (.bin 37 .add (.t 35) (.t 36)),
      .op (.mv 38 (.t 1)),
      .op (.bin 39 .sub (.t 37) (.t 38)),
      .op (.appz 40 (.t 34) (.t 39) 3 [(.i .i64 0), (.i .i64 0), (.i .i64 0)]),
      .op (.mv 9 (.t 40))])
    ((.seq (.reg [.op (.mv 41 (.t 9)),
      .op (.mv 42 (.t 1)),
      .op (.sl 43 (.t 41) (some (.t 42)) none 3),
      .op (.mv 44 (.t 2)),
      .op (.copy (some 45) (.t 43) (.t 44) 3)])
    ((.seq (.drw [] [0, 1, 2, 3, 4, 5, 6, 7, 8] [.op (.mv 46 (.t 9)),
      .op (.mv 47 (.t 1)),
      .op (.mv 48 (.t 7)),
      .op (.bin 49 .add (.t 47) (.t 48)),
      .op (.sl 50 (.t 46) (some (.t 49)) none 3),
      .op (.mv 51 (.t 0)),
      .op (.mv 52 (.t 1)),
      .op (.sl 53 (.t 51) (some (.t 52)) none 3),
      .op (.copy (some 54) (.t 50) (.t 53) 3)])
    ((.seq (.reg [.op (.mv 55 (.t 9)),
      .op (.mv 6 (.t 55))])
    (.ret)))))))))
    (.skip))))
  ((.seq (.reg [.op (.mv 56 (.t 0)),
    .op (.mv 57 (.t 8)),
    .op (.mv 58 (.t 7)),
    .op (.bin 59 .add (.t 57) (.t 58)),
    .op (.sl 60 (.t 56) none (some (.t 59)) 3),
    .op (.mv 0 (.t 60))])
  ((.seq ((.seq (.reg [.op (.mv 61 (.t 2)),
    .op (.mv 62 (.t 0)),
    .op (.mv 63 (.t 1)),
    .op (.mv 64 (.t 7)),
    .op (.bin 65 .add (.t 63) (.t 64)),
    .op (.sl 66 (.t 62) (some (.t 65)) none 3),
    .op (.ovl 67 slices_overlaps_api_Timer (.t 61) (.t 66) 3),
    .op (.un 68 .not (.t 67))])
  (.ite (.t 68)
    ((.seq (.drw [] [0, 1, 2, 3, 4, 5, 6, 7, 8] [.op (.mv 69 (.t 0)),
      .op (.mv 70 (.t 1)),
      .op (.mv 71 (.t 7)),
      .op (.bin 72 .add (.t 70) (.t 71)),
      .op (.sl 73 (.t 69) (some (.t 72)) none 3),
      .op (.mv 74 (.t 0)),
      .op (.mv 75 (.t 1)),
      .op (.sl 76 (.t 74) (some (.t 75)) none 3),
      .op (.copy (some 77) (.t 73) (.t 76) 3)])
    ((.seq (.reg [.op (.mv 78 (.t 0)),
      .op (.mv 79 (.t 1)),
      .op (.sl 80 (.t 78) (some (.t 79)) none 3),
      .op (.mv 81 (.t 2)),
      .op (.copy (some 82) (.t 80) (.t 81) 3)])
    ((.seq (.reg [.op (.mv 83 (.t 0)),
      .op (.mv 6 (.t 83))])
    (.ret)))))))
    (.skip))))
  ((.seq (.reg [.op (.mv 84 (.t 0)),
    .op (.mv 85 (.t 8)),
    .op (.sl 86 (.t 84) (some (.t 85)) none 3),
    .op (.mv 87 (.t 2)),
    .op (.copy (some 88) (.t 86) (.t 87) 3)])
  ((.seq (.reg [.op (.mv 89 (.t 0)),
    .op (.mv 90 (.t 1)),
    .op (.sl 91 (.t 89) (some (.t 90)) none 3),
    .op (.mv 92 (.t 7)),
    .op (.call (some 93) slices_rotateRight_api_Timer [(.t 91), (.t 92)])])
  ((.seq (.reg [.op (.mv 94 (.t 0)),
    .op (.mv 6 (.t 94))])
  (.ret)))))))))))))))))))))))))
  [.t 6] false none

def F_sort_Search_L0 : C :=
  (.seq ((.seq (.reg [.op (.mv 9 (.t 5)),
    .op (.mv 10 (.t 6)),
    .op (.bin 11 .lss (.t 9) (.t 10))])
  (.ite (.t 11)
    (.skip)
    (.seq (.keep [5]) (.exit 0)))))
  (.blk 1 ((.seq (.reg [.op (.mv 12 (.t 5)),
     .op (.mv 13 (.t 6)),
     .op (.bin 14 .add (.t 12) (.t 13)),
     .op (.cvi 15 .u64 (.t 14)),
     .op (.bin 16 .shr (.t 15) (.k (.i .u64 1))),
     .op (.cvi 17 .i64 (.t 16)),
     .op (.mv 7 (.t 17))])
   ((.seq (.reg [.op (.mv 18 (.t 1)),
     .op (.mv 19 (.t 7)),
     .op (.callvr (some 20) (.t 18) [(.t 19)]),
     .op (.un 21 .not (.t 20))])
   (.ite (.t 21)
     (.reg [.op (.mv 22 (.t 7)),
       .op (.bin 23 .add (.t 22) (.k (.i .i64 1))),
       .op (.mv 5 (.t 23))])
     (.reg [.op (.mv 24 (.t 7)),
       .op (.mv 6 (.t 24))]))))))))

/-- sort.Search -/
def F_sort_Search : F := .mk
  ((.seq (.reg [.op (.mv 4 (.k (.i .i64 0)))])
  ((.seq (.reg [.op (.mv 8 (.t 0)),
    .op (.mv 5 (.k (.i .i64 0))),
    .op (.mv 6 (.t 8))])
  ((.seq (.blk 0 (.loop [1, 5, 6] F_sort_Search_L0))
  ((.seq (.reg [.op (.mv 25 (.t 5)),
    .op (.mv 4 (.t 25))])
  (.ret)))))))))
  [.t 4] true none

/-- nursery/nurseryref06.one -/
def F_nurseryref06_one : F := .mk
  ((.seq (.reg [.op (.box 1 (.t 0) 3 true),
    .op (.mv 2 (.k (.i .i64 0)))])
  ((.seq ((.seq (.reg [.op (.fa 3 (.t 1) 1 1),
    .op (.ld 4 (.t 3) 1 false),
    .op (.call (some 5) nurseryref06_indices [(.t 4)]),
    .op (.bin 6 .eql (.t 5) (.k (.i .i64 0)))])
  (.ite (.t 6)
    ((.seq (.reg [.op (.mv 2 (.k (.i .i64 8)))])
    (.ret)))
    (.skip))))
  ((.seq ((.seq (.drw [] [0, 1, 2, 3, 4, 5, 6, 7, 8, 9, 10, 11, 12, 13, 14, 15, 16, 17, 18, 19, 20] [.op (.fad 7 (.t 1) 2 1),
    .op (.ldd 8 (.t 7) 1 false),
    .op (.bin 9 .lss (.t 8) (.k (.i .i64 0))),
    .op (.mv 10 (.t 9)),
    .sc true 17 10 [.op (.fad 11 (.t 1) 2 1), .op (.ldd 12 (.t 11) 1 false), .op (.fad 13 (.t 1) 1 1), .op (.ldd 14 (.t 13) 1 false), .op (.call (some 15) nurseryref06_indices [(.t 14)]), .op (.bin 16 .geq (.t 12) (.t 15))] (.t 16),
    .op (.mv 18 (.t 17)),
    .sc true 22 18 [.op (.fad 19 (.t 1) 0 1), .op (.ldd 20 (.t 19) 1 false), .op (.bin 21 .lss (.t 20) (.k (.i .i64 1)))] (.t 21),
    .op (.mv 23 (.t 22)),
    .sc true 27 23 [.op (.fad 24 (.t 1) 0 1), .op (.ldd 25 (.t 24) 1 false), .op (.bin 26 .gtr (.t 25) (.k (.i .i64 1099511627776)))] (.t 26)])
  (.ite (.t 27)
    ((.seq (.reg [.op (.mv 2 (.k (.i .i64 2)))])
    (.ret)))
    (.skip))))
  ((.seq (.reg [.op (.mv 2 (.k (.i .i64 0)))])
  (.ret)))))))))
  [.t 2] false none

def F_nurseryref06_without_L0 : C :=
  (.seq ((.seq (.reg [.op (.mv 10 (.t 8)),
    .op (.mv 11 (.t 0)),
    .op (.len 12 (.t 11) .sl),
    .op (.bin 13 .lss (.t 10) (.t 12))])
  (.ite (.t 13)
    (.skip)
    (.seq (.keep [7]) (.exit 0)))))
  ((.seq (.blk 1 ((.seq (.reg [.op (.mv 16 (.t 0)),
     .op (.mv 17 (.t 8)),
     .op (.ixs 18 (.t 16) (.t 17) 3),
     .op (.fa 19 (.t 18) 1 1),
     .op (.ld 20 (.t 19) 1 false),
     .op (.mv 21 (.t 1)),
     .op (.bin 22 .neq (.t 20) (.t 21)),
     .op (.mv 23 (.t 22)),
     .sc true 31 23 [.op (.mv 24 (.t 0)), .op (.mv 25 (.t 8)), .op (.ixs 26 (.t 24) (.t 25) 3), .op (.fa 27 (.t 26) 2 1), .op (.ld 28 (.t 27) 1 false), .op (.mv 29 (.t 2)), .op (.bin 30 .neq (.t 28) (.t 29))] (.t 30)])
   (.ite (.t 31)
     (.reg [.op (.mv 32 (.t 7)),
       .op (.mv 33 (.t 0)),
       .op (.mv 34 (.t 8)),
       .op (.ixs 35 (.t 33) (.t 34) 3),
       .op (.ld 36 (.t 35) 3 true),
       .op (.buildSl 37 3 1 [(.i .i64 0), (.i .i64 0), (.i .i64 0)] [(0, (.t 36))] true),
       .op (.app 38 (.t 32) (.t 37) 3),
       .op (.mv 7 (.t 38))])
     (.skip)))))
  (.reg [.op (.mv 14 (.t 8)),
    .op (.bin 15 .add (.t 14) (.k (.i .i64 1))),
    .op (.mv 8 (.t 15))]))))

/-- nursery/nurseryref06.without -/
def F_nurseryref06_without : F := .mk
  ((.seq (.reg [.op (.mv 6 (.k (.sl 3 true [])))])
  ((.seq (.reg [.op (.buildSl 9 3 0 [(.i .i64 0), (.i .i64 0), (.i .i64 0)] [] false),
    .op (.mv 7 (.t 9))])
  ((.seq ((.seq (.reg [.op (.mv 8 (.k (.i .i64 0)))])
  (.blk 0 (.loop [0, 1, 2, 7, 8] F_nurseryref06_without_L0))))
  ((.seq (.reg [.op (.mv 39 (.t 7)),
    .op (.mv 6 (.t 39))])
  (.ret)))))))))
  [.t 6] false none

/-- nursery/nurseryref06.Less -/
def F_nurseryref06_Less : F := .mk
  ((.seq (.reg [.op (.box 2 (.t 0) 3 true),
    .op (.box 3 (.t 1) 3 true),
    .op (.mv 4 (.k (.b false)))])
  ((.seq ((.seq (.reg [.op (.fa 5 (.t 2) 0 1),
    .op (.ld 6 (.t 5) 1 false),
    .op (.fa 7 (.t 3) 0 1),
    .op (.ld 8 (.t 7) 1 false),
    .op (.bin 9 .neq (.t 6) (.t 8))])
  (.ite (.t 9)
    ((.seq (.reg [.op (.fa 10 (.t 2) 0 1),
      .op (.ld 11 (.t 10) 1 false),
      .op (.fa 12 (.t 3) 0 1),
      .op (.ld 13 (.t 12) 1 false),
      .op (.bin 14 .lss (.t 11) (.t 13)),
      .op (.mv 4 (.t 14))])
    (.ret)))
    (.skip))))
  ((.seq ((.seq (.reg [.op (.fa 15 (.t 2) 1 1),
    .op (.ld 16 (.t 15) 1 false),
    .op (.fa 17 (.t 3) 1 1),
    .op (.ld 18 (.t 17) 1 false),
    .op (.bin 19 .neq (.t 16) (.t 18))])
  (.ite (.t 19)
    ((.seq (.reg [.op (.fa 20 (.t 2) 1 1),
      .op (.ld 21 (.t 20) 1 false),
      .op (.fa 22 (.t 3) 1 1),
      .op (.ld 23 (.t 22) 1 false),
      .op (.bin 24 .lss (.t 21) (.t 23)),
      .op (.mv 4 (.t 24))])
    (.ret)))
    (.skip))))
  ((.seq (.reg [.op (.fa 25 (.t 2) 2 1),
    .op (.ld 26 (.t 25) 1 false),
    .op (.fa 27 (.t 3) 2 1),
    .op (.ld 28 (.t 27) 1 false),
    .op (.bin 29 .lss (.t 26) (.t 28)),
    .op (.mv 4 (.t 29))])
  (.ret)))))))))
  [.t 4] false none

/-- nursery/timers.compare -/
def F_timers_compare : F := .mk
  ((.seq (.reg [.op (.box 2 (.t 0) 3 true),
    .op (.box 3 (.t 1) 3 true),
    .op (.mv 4 (.k (.i .i64 0)))])
  ((.seq (.drw [] [0, 1, 2, 3, 4, 5, 6, 7, 8, 9, 10, 11, 12, 13, 14, 15, 16, 17] [.op (.fad 5 (.t 2) 0 1),
    .op (.ldd 6 (.t 5) 1 false),
    .op (.fad 7 (.t 3) 0 1),
    .op (.ldd 8 (.t 7) 1 false),
    .op (.call (some 9) cmp_Compare_int [(.t 6), (.t 8)]),
    .op (.fad 10 (.t 2) 1 1),
    .op (.ldd 11 (.t 10) 1 false),
    .op (.fad 12 (.t 3) 1 1),
    .op (.ldd 13 (.t 12) 1 false),
    .op (.call (some 14) cmp_Compare_int [(.t 11), (.t 13)]),
    .op (.fad 15 (.t 2) 2 1),
    .op (.ldd 16 (.t 15) 1 false),
    .op (.fad 17 (.t 3) 2 1),
    .op (.ldd 18 (.t 17) 1 false),
    .op (.call (some 19) cmp_Compare_int [(.t 16), (.t 18)]),
    .op (.buildSl 20 1 3 [(.i .i64 0)] [(0, (.t 9)), (1, (.t 14)), (2, (.t 19))] true),
    .op (.call (some 21) cmp_Or_int [(.t 20)]),
    .op (.mv 4 (.t 21))])
  (.ret)))))
  [.t 4] false none

/-- nursery/nurseryref06.same -/
def F_nurseryref06_same : F := .mk
  ((.seq (.reg [.op (.box 2 (.t 0) 3 true),
    .op (.box 3 (.t 1) 3 true),
    .op (.mv 4 (.k (.b false)))])
  ((.seq (.reg [.op (.fa 5 (.t 2) 1 1),
    .op (.ld 6 (.t 5) 1 false),
    .op (.fa 7 (.t 3) 1 1),
    .op (.ld 8 (.t 7) 1 false),
    .op (.bin 9 .eql (.t 6) (.t 8)),
    .op (.mv 10 (.t 9)),
    .sc false 16 10 [.op (.fa 11 (.t 2) 2 1), .op (.ld 12 (.t 11) 1 false), .op (.fa 13 (.t 3) 2 1), .op (.ld 14 (.t 13) 1 false), .op (.bin 15 .eql (.t 12) (.t 14))] (.t 15),
    .op (.mv 4 (.t 16))])
  (.ret)))))
  [.t 4] false none

def F_slices_IndexFunc_api_Timer_api_Timer_L0 : C :=
  (.seq (.reg [.op (.bin 9 .lss (.t 8) (.t 7))])
  ((.seq (.ite (.t 9)
    (.skip)
    (.seq (.keep []) (.exit 0)))
  ((.seq (.blk 1 ((.seq (.reg [.op (.mv 10 (.t 8)),
     .op (.mv 5 (.t 10))])
   ((.seq (.reg [.op (.mv 11 (.t 1)),
     .op (.mv 12 (.t 0)),
     .op (.mv 13 (.t 5)),
     .op (.ixs 14 (.t 12) (.t 13) 3),
     .op (.ld 15 (.t 14) 3 true),
     .op (.callv (some 16) (.t 11) [(.t 15)])])
   (.ite (.t 16)
     ((.seq (.reg [.op (.mv 17 (.t 5)),
       .op (.mv 4 (.t 17))])
     (.seq (.keep [4]) .ret)))
     (.skip)))))))
  (.reg [.op (.bin 18 .add (.t 8) (.k (.i .i64 1))),
    .op (.mv 8 (.t 18))]))))))

/-- slices.IndexFunc[[]nursery/api.Timer,nursery/api.Timer] -/
def F_slices_IndexFunc_api_Timer_api_Timer : F := .mk
  ((.seq (.reg [.op (.mv 4 (.k (.i .i64 0)))])
  ((.seq ((.seq (.reg [.op (.mv 6 (.t 0)),
    .op (.len 7 (.t 6) .sl),
    .op (.mv 8 (.k (.i .i64 0)))])
  (.blk 0 (.loop [0, 1, 7, 8] F_slices_IndexFunc_api_Timer_api_Timer_L0))))
  ((.seq (.reg [.op (.mv 4 (.k (.i .i64 (-1))))])
  (.ret)))))))
  [.t 4] false none

/-- nursery/timers.Find$1 -/
def F_timers_FindC1 : F := .mk
  ((.seq (.reg [.op (.box 3 (.t 0) 3 true),
    .op (.mv 4 (.k (.b false)))])
  ((.seq (.drw [] [0, 1, 2, 3, 4, 5, 6] [.op (.ldd 5 (.t 3) 3 true),
    .op (.call (some 6) timers_keyOf [(.t 5)]),
    .op (.ld 7 (.t 1) 1 false),
    .op (.ld 8 (.t 2) 1 false),
    .op (.build 9 [(.i .i64 0), (.i .i64 0)] [(0, 1, (.t 7)), (1, 1, (.t 8))]),
    .op (.eqv 10 false (.t 6) (.t 9) [.i, .i]),
    .op (.mv 4 (.t 10))])
  (.ret)))))
  [.t 4] false none

def F_slices_Index_api_Timer_api_Timer_L0 : C :=
  (.seq (.reg [.op (.bin 9 .lss (.t 8) (.t 7))])
  ((.seq (.ite (.t 9)
    (.skip)
    (.seq (.keep []) (.exit 0)))
  ((.seq (.blk 1 ((.seq (.reg [.op (.mv 10 (.t 8)),
     .op (.mv 5 (.t 10))])
   ((.seq (.drw [] [0, 1, 2, 3, 4, 5] [.op (.ldd 11 (.t 3) 3 true),
     .op (.mv 12 (.t 0)),
     .op (.mv 13 (.t 5)),
     .op (.ixs 14 (.t 12) (.t 13) 3),
     .op (.ld 15 (.t 14) 3 true),
     .op (.eqv 16 false (.t 11) (.t 15) [.i, .i, .i])])
   (.ite (.t 16)
     ((.seq (.reg [.op (.mv 17 (.t 5)),
       .op (.mv 4 (.t 17))])
     (.seq (.keep [4]) .ret)))
     (.skip)))))))
  (.reg [.op (.bin 18 .add (.t 8) (.k (.i .i64 1))),
    .op (.mv 8 (.t 18))]))))))

/-- slices.Index[[]nursery/api.Timer,nursery/api.Timer] -/
def F_slices_Index_api_Timer_api_Timer : F := .mk
  ((.seq (.reg [.op (.box 3 (.t 1) 3 true),
    .op (.mv 4 (.k (.i .i64 0)))])
  ((.seq ((.seq (.reg [.op (.mv 6 (.t 0)),
    .op (.len 7 (.t 6) .sl),
    .op (.mv 8 (.k (.i .i64 0)))])
  (.blk 0 (.loop [0, 3, 7, 8] F_slices_Index_api_Timer_api_Timer_L0))))
  ((.seq (.reg [.op (.mv 4 (.k (.i .i64 (-1))))])
  (.ret)))))))
  [.t 4] false none

/-- (nursery/timers.queue).due -/
def F_timers_queue_due : F := .mk
  ((.seq (.reg [.op (.box 2 (.t 0) 1 true),
    .op (.box 3 (.t 1) 1 true),
    .op (.mv 4 (.k .nilfn))])
  ((.seq (.reg [.op (.mkf 5 timers_queue_dueC1 [] [(.t 2), (.t 3)]),
    .op (.mv 4 (.t 5))])
  (.ret)))))
  [.t 4] false none

/-- slices.Clone[[]nursery/api.Timer,nursery/api.Timer] -/
def F_slices_Clone_api_Timer_api_Timer : F := .mk
  ((.seq (.reg [.op (.mv 2 (.k (.sl 3 true [])))])
  ((.seq ((.seq (.reg [.op (.mv 3 (.t 0)),
    .op (.isnil 4 false (.t 3) .sl)])
  (.ite (.t 4)
    ((.seq (.reg [.op (.mv 2 (.k (.sl 3 true [])))])
    (.ret)))
    (.skip))))
  ((.seq (.reg [.op (.buildSl 5 3 0 [(.i .i64 0), (.i .i64 0), (.i .i64 0)] [] false),
    .op (.mv 6 (.t 0)),
    .op (.app 7 (.t 5) (.t 6) 3),
    .op (.mv 2 (.t 7))])
  (.ret)))))))
  [.t 2] false none

/-- slices.Grow[[]nursery/api.Timer,nursery/api.Timer] -/
def F_slices_Grow_api_Timer_api_Timer : F := .mk
  ((.seq (.reg [.op (.mv 4 (.k (.sl 3 true [])))])
  ((.seq ((.seq (.reg [.op (.mv 5 (.t 1)),
    .op (.bin 6 .lss (.t 5) (.k (.i .i64 0)))])
  (.ite (.t 6)
    (.reg [.op (.bad (some 7)),
      .op (.bad none)])
    (.skip))))
  ((.seq ((.seq (.reg [.op (.mv 8 (.t 1)),
    .op (.mv 9 (.t 0)),
    .op (.cap 10 (.t 9)),
    .op (.mv 11 (.t 0)),
    .op (.len 12 (.t 11) .sl),
    .op (.bin 13 .sub (.t 10) (.t 12)),
    .op (.bin 14 .sub (.t 8) (.t 13)),
    .op (.mv 1 (.t 14))])
  ((.seq (.reg [.op (.mv 15 (.t 1)),
    .op (.bin 16 .gtr (.t 15) (.k (.i .i64 0)))])
  (.ite (.t 16)
    (.reg [.op (.mv 17 (.t 0)),
      .op (.mv 18 (.t 0)),
      .op (.cap 19 (.t 18)),
      .op (.sl 20 (.t 17) none (some (.t 19)) 3),
      .op (.mv 21 (.t 1)),
      .op (.appz 22 (.t 20) (.t 21) 3 [(.i .i64 0), (.i .i64 0), (.i .i64 0)]),
      .op (.mv 23 (.t 0)),
      .op (.len 24 (.t 23) .sl),
      .op (.sl 25 (.t 22) none (some (.t 24)) 3),
      .op (.mv 0 (.t 25))])
    (.skip))))))
  ((.seq (.reg [.op (.mv 26 (.t 0)),
    .op (.mv 4 (.t 26))])
  (.ret)))))))))
  [.t 4] true none

def F_slices_DeleteFunc_timers_queue_api_Timer_L0 : C :=
  (.seq ((.seq (.reg [.op (.mv 16 (.t 6)),
    .op (.mv 17 (.t 0)),
    .op (.len 18 (.t 17) .sl),
    .op (.bin 19 .lss (.t 16) (.t 18))])
  (.ite (.t 19)
    (.skip)
    (.seq (.keep [0, 5]) (.exit 0)))))
  ((.seq (.blk 1 ((.seq (.reg [.op (.mv 22 (.t 0)),
     .op (.mv 23 (.t 6)),
     .op (.ixs 24 (.t 22) (.t 23) 3),
     .op (.ld 25 (.t 24) 3 true),
     .op (.new 7 [(.i .i64 0), (.i .i64 0), (.i .i64 0)]),
     .op (.st (.t 7) (.t 25) 3 true)])
   ((.seq (.reg [.op (.mv 26 (.t 1)),
     .op (.ld 27 (.t 7) 3 true),
     .op (.callv (some 28) (.t 26) [(.t 27)]),
     .op (.un 29 .not (.t 28))])
   (.ite (.t 29)
     ((.seq (.reg [.op (.mv 30 (.t 0)),
       .op (.mv 31 (.t 5)),
       .op (.ld 32 (.t 7) 3 true),
       .op (.ixs 33 (.t 30) (.t 31) 3),
       .op (.st (.t 33) (.t 32) 3 false)])
     (.reg [.op (.mv 34 (.t 5)),
       .op (.bin 35 .add (.t 34) (.k (.i .i64 1))),
       .op (.mv 5 (.t 35))])))
     (.skip)))))))
  (.reg [.op (.mv 20 (.t 6)),
    .op (.bin 21 .add (.t 20) (.k (.i .i64 1))),
    .op (.mv 6 (.t 21))]))))

/-- slices.DeleteFunc[nursery/timers.queue,nursery/api.Timer] -/
def F_slices_DeleteFunc_timers_queue_api_Timer : F := .mk
  ((.seq (.reg [.op (.mv 4 (.k (.sl 3 true [])))])
  ((.seq (.reg [.op (.mv 8 (.t 0)),
    .op (.mv 9 (.t 1)),
    .op (.callr (some 10) slices_IndexFunc_timers_queue_api_Timer [(.t 8), (.t 9)]),
    .op (.mv 5 (.t 10))])
  ((.seq ((.seq (.reg [.op (.mv 11 (.t 5)),
    .op (.bin 12 .eql (.t 11) (.k (.i .i64 (-1))))])
  (.ite (.t 12)
    ((.seq (.reg [.op (.mv 13 (.t 0)),
      .op (.mv 4 (.t 13))])
    (.ret)))
    (.skip))))
  ((.seq ((.seq (.reg [.op (.mv 14 (.t 5)),
    .op (.bin 15 .add (.t 14) (.k (.i .i64 1))),
    .op (.mv 6 (.t 15))])
  (.blk 0 (.loop [0, 1, 5, 6] F_slices_DeleteFunc_timers_queue_api_Timer_L0))))
  ((.seq (.reg [.op (.mv 36 (.t 0)),
    .op (.mv 37 (.t 5)),
    .op (.sl 38 (.t 36) (some (.t 37)) none 3),
    .op (.clr none (.t 38) 3 [(.i .i64 0), (.i .i64 0), (.i .i64 0)])])
  ((.seq (.reg [.op (.mv 39 (.t 0)),
    .op (.mv 40 (.t 5)),
    .op (.sl 41 (.t 39) none (some (.t 40)) 3),
    .op (.mv 4 (.t 41))])
  (.ret)))))))))))))
  [.t 4] true none

/-- slices.Clone[nursery/timers.queue,nursery/api.Timer] -/
def F_slices_Clone_timers_queue_api_Timer : F := .mk
  ((.seq (.reg [.op (.mv 2 (.k (.sl 3 true [])))])
  ((.seq ((.seq (.reg [.op (.mv 3 (.t 0)),
    .op (.isnil 4 false (.t 3) .sl)])
  (.ite (.t 4)
    ((.seq (.reg [.op (.mv 2 (.k (.sl 3 true [])))])
    (.ret)))
    (.skip))))
  ((.seq (.reg [.op (.buildSl 5 3 0 [(.i .i64 0), (.i .i64 0), (.i .i64 0)] [] false),
    .op (.mv 6 (.t 0)),
    .op (.app 7 (.t 5) (.t 6) 3),
    .op (.mv 2 (.t 7))])
  (.ret)))))))
  [.t 2] true none

/-- (nursery/timers.queue).without$1 -/
def F_timers_queue_withoutC1 : F := .mk
  ((.seq (.reg [.op (.box 2 (.t 0) 3 true),
    .op (.mv 3 (.k (.b false)))])
  ((.seq (.drw [] [0, 1, 2, 3, 4] [.op (.ldd 4 (.t 2) 3 true),
    .op (.call (some 5) timers_keyOf [(.t 4)]),
    .op (.ld 6 (.t 1) 2 true),
    .op (.eqv 7 false (.t 5) (.t 6) [.i, .i]),
    .op (.mv 3 (.t 7))])
  (.ret)))))
  [.t 3] false none

/-- slices.rotateRight[nursery/api.Timer] -/
def F_slices_rotateRight_api_Timer : F := .mk
  (.reg [.op (.mv 4 (.t 0)),
    .op (.mv 5 (.t 0)),
    .op (.len 6 (.t 5) .sl),
    .op (.mv 7 (.t 1)),
    .op (.bin 8 .sub (.t 6) (.t 7)),
    .op (.call (some 9) slices_rotateLeft_api_Timer [(.t 4), (.t 8)])])
  [] false none

/-- nursery/nurseryref06.indices -/
def F_nurseryref06_indices : F := .mk
  ((.seq (.reg [.op (.mv 2 (.k (.i .i64 0)))])
  ((.seq ((.seq (.reg [.op (.mv 3 (.t 0)),
    .op (.bin 4 .eql (.t 3) (.k (.i .i64 1)))])
  (.ite (.t 4)
    ((.seq (.reg [.op (.mv 2 (.k (.i .i64 16)))])
    (.ret)))
    (.skip))))
  ((.seq ((.seq (.reg [.op (.mv 5 (.t 0)),
    .op (.bin 6 .eql (.t 5) (.k (.i .i64 2)))])
  (.ite (.t 6)
    ((.seq (.reg [.op (.mv 2 (.k (.i .i64 32)))])
    (.ret)))
    (.skip))))
  ((.seq ((.seq (.reg [.op (.mv 7 (.t 0)),
    .op (.bin 8 .eql (.t 7) (.k (.i .i64 3)))])
  (.ite (.t 8)
    ((.seq (.reg [.op (.mv 2 (.k (.i .i64 16)))])
    (.ret)))
    (.skip))))
  ((.seq (.reg [.op (.mv 2 (.k (.i .i64 0)))])
  (.ret)))))))))))
  [.t 2] false none

def F_cmp_Or_int_L0 : C :=
  (.seq (.reg [.op (.bin 9 .lss (.t 8) (.t 7))])
  ((.seq (.ite (.t 9)
    (.skip)
    (.seq (.keep [3]) (.exit 0)))
  ((.seq (.blk 1 ((.seq (.reg [.op (.ixs 10 (.t 6) (.t 8) 1),
     .op (.ld 11 (.t 10) 1 false),
     .op (.mv 5 (.t 11))])
   ((.seq (.reg [.op (.mv 12 (.t 5)),
     .op (.mv 13 (.t 3)),
     .op (.bin 14 .neq (.t 12) (.t 13))])
   (.ite (.t 14)
     ((.seq (.reg [.op (.mv 15 (.t 5)),
       .op (.mv 2 (.t 15))])
     (.seq (.keep [2]) .ret)))
     (.skip)))))))
  (.reg [.op (.bin 16 .add (.t 8) (.k (.i .i64 1))),
    .op (.mv 8 (.t 16))]))))))

/-- cmp.Or[int] -/
def F_cmp_Or_int : F := .mk
  ((.seq (.reg [.op (.mv 2 (.k (.i .i64 0)))])
  ((.seq (.reg [.op (.mv 3 (.k (.i .i64 0)))])
  ((.seq ((.seq (.reg [.op (.mv 6 (.t 0)),
    .op (.len 7 (.t 6) .sl),
    .op (.mv 8 (.k (.i .i64 0)))])
  (.blk 0 (.loop [3, 6, 7, 8] F_cmp_Or_int_L0))))
  ((.seq (.reg [.op (.mv 17 (.t 3)),
    .op (.mv 2 (.t 17))])
  (.ret)))))))))
  [.t 2] false none

/-- cmp.Compare[int] -/
def F_cmp_Compare_int : F := .mk
  ((.seq (.reg [.op (.mv 4 (.k (.i .i64 0)))])
  ((.seq (.reg [.op (.mv 7 (.t 0)),
    .op (.call (some 8) cmp_isNaN_int [(.t 7)]),
    .op (.mv 5 (.t 8))])
  ((.seq (.reg [.op (.mv 9 (.t 1)),
    .op (.call (some 10) cmp_isNaN_int [(.t 9)]),
    .op (.mv 6 (.t 10))])
  ((.seq ((.seq (.reg [.op (.mv 11 (.t 5))])
  (.ite (.t 11)
    ((.seq ((.seq (.reg [.op (.mv 12 (.t 6))])
    (.ite (.t 12)
      ((.seq (.reg [.op (.mv 4 (.k (.i .i64 0)))])
      (.ret)))
      (.skip))))
    ((.seq (.reg [.op (.mv 4 (.k (.i .i64 (-1))))])
    (.ret)))))
    (.skip))))
  ((.seq ((.seq (.reg [.op (.mv 13 (.t 6))])
  (.ite (.t 13)
    ((.seq (.reg [.op (.mv 4 (.k (.i .i64 1)))])
    (.ret)))
    (.skip))))
  ((.seq ((.seq (.reg [.op (.mv 14 (.t 0)),
    .op (.mv 15 (.t 1)),
    .op (.bin 16 .lss (.t 14) (.t 15))])
  (.ite (.t 16)
    ((.seq (.reg [.op (.mv 4 (.k (.i .i64 (-1))))])
    (.ret)))
    (.skip))))
  ((.seq ((.seq (.reg [.op (.mv 17 (.t 0)),
    .op (.mv 18 (.t 1)),
    .op (.bin 19 .gtr (.t 17) (.t 18))])
  (.ite (.t 19)
    ((.seq (.reg [.op (.mv 4 (.k (.i .i64 1)))])
    (.ret)))
    (.skip))))
  ((.seq (.reg [.op (.mv 4 (.k (.i .i64 0)))])
  (.ret)))))))))))))))))
  [.t 4] false none

def F_timers_queue_dueC1_L0 : C :=
  (.seq (.reg [.op (.bin 9 .lss (.t 8) (.t 7))])
  ((.seq (.ite (.t 9)
    (.skip)
    (.seq (.keep []) (.exit 0)))
  ((.seq (.blk 1 ((.seq (.reg [.op (.ixs 10 (.t 6) (.t 8) 3),
     .op (.ld 11 (.t 10) 3 true),
     .op (.new 5 [(.i .i64 0), (.i .i64 0), (.i .i64 0)]),
     .op (.st (.t 5) (.t 11) 3 true)])
   ((.seq (.reg [.op (.fa 12 (.t 5) 0 1),
     .op (.ld 13 (.t 12) 1 false),
     .op (.ld 14 (.t 2) 1 false),
     .op (.bin 15 .gtr (.t 13) (.t 14)),
     .op (.mv 16 (.t 15)),
     .sc true 21 16 [.op (.mv 17 (.t 0)), .op (.ld 18 (.t 5) 3 true), .op (.cally (some 19) (.t 17) [(.t 18)]), .op (.un 20 .not (.t 19))] (.t 20)])
   (.ite (.t 21)
     (.seq (.keep []) .ret)
     (.skip)))))))
  (.reg [.op (.bin 22 .add (.t 8) (.k (.i .i64 1))),
    .op (.mv 8 (.t 22))]))))))

/-- (nursery/timers.queue).due$1 -/
def F_timers_queue_dueC1 : F := .mk
  ((.seq (.reg [.op (.ld 6 (.t 1) 1 false),
    .op (.len 7 (.t 6) .sl),
    .op (.mv 8 (.k (.i .i64 0)))])
  (.blk 0 (.loop [0, 2, 6, 7, 8] F_timers_queue_dueC1_L0))))
  [] false none

def F_slices_IndexFunc_timers_queue_api_Timer_L0 : C :=
  (.seq (.reg [.op (.bin 9 .lss (.t 8) (.t 7))])
  ((.seq (.ite (.t 9)
    (.skip)
    (.seq (.keep []) (.exit 0)))
  ((.seq (.blk 1 ((.seq (.reg [.op (.mv 10 (.t 8)),
     .op (.mv 5 (.t 10))])
   ((.seq (.reg [.op (.mv 11 (.t 1)),
     .op (.mv 12 (.t 0)),
     .op (.mv 13 (.t 5)),
     .op (.ixs 14 (.t 12) (.t 13) 3),
     .op (.ld 15 (.t 14) 3 true),
     .op (.callv (some 16) (.t 11) [(.t 15)])])
   (.ite (.t 16)
     ((.seq (.reg [.op (.mv 17 (.t 5)),
       .op (.mv 4 (.t 17))])
     (.seq (.keep [4]) .ret)))
     (.skip)))))))
  (.reg [.op (.bin 18 .add (.t 8) (.k (.i .i64 1))),
    .op (.mv 8 (.t 18))]))))))

/-- slices.IndexFunc[nursery/timers.queue,nursery/api.Timer] -/
def F_slices_IndexFunc_timers_queue_api_Timer : F := .mk
  ((.seq (.reg [.op (.mv 4 (.k (.i .i64 0)))])
  ((.seq ((.seq (.reg [.op (.mv 6 (.t 0)),
    .op (.len 7 (.t 6) .sl),
    .op (.mv 8 (.k (.i .i64 0)))])
  (.blk 0 (.loop [0, 1, 7, 8] F_slices_IndexFunc_timers_queue_api_Timer_L0))))
  ((.seq (.reg [.op (.mv 4 (.k (.i .i64 (-1))))])
  (.ret)))))))
  [.t 4] true none

/-- slices.rotateLeft[nursery/api.Timer] -/
def F_slices_rotateLeft_api_Timer : F := .mk
  ((.seq (.reg [.op (.mv 4 (.t 0)),
    .op (.mv 5 (.t 1)),
    .op (.sl 6 (.t 4) none (some (.t 5)) 3),
    .op (.callr (some 7) slices_Reverse_api_Timer_api_Timer [(.t 6)])])
  ((.seq (.reg [.op (.mv 8 (.t 0)),
    .op (.mv 9 (.t 1)),
    .op (.sl 10 (.t 8) (some (.t 9)) none 3),
    .op (.callr (some 11) slices_Reverse_api_Timer_api_Timer [(.t 10)])])
  (.reg [.op (.mv 12 (.t 0)),
    .op (.callr (some 13) slices_Reverse_api_Timer_api_Timer [(.t 12)])])))))
  [] false none

/-- cmp.isNaN[int] -/
def F_cmp_isNaN_int : F := .mk
  ((.seq (.reg [.op (.mv 2 (.k (.b false)))])
  ((.seq (.reg [.op (.mv 3 (.t 0)),
    .op (.mv 4 (.t 0)),
    .op (.bin 5 .neq (.t 3) (.t 4)),
    .op (.mv 2 (.t 5))])
  (.ret)))))
  [.t 2] false none
def F_slices_Insert_timers_queue_api_Timer : F := ⟨.skip, [], true, some (insP 3)⟩
def P : Prog := fun n => match n with
  | 3 => some F_nurserylaw06_TimersAdd
  | 4 => some F_nurserylaw06_TimersRemoved
  | 5 => some F_nurserylaw06_TimersLast
  | 6 => some F_nurserylaw06_TimersFind
  | 7 => some F_nurserylaw06_TimersRun
  | 8 => some F_nurserylaw06_TimersOrders
  | 9 => some F_nurserylaw06_TimersReads
  | 10 => some F_nurserylaw06_TimersExpire
  | 11 => some F_nurseryref06_Great
  | 12 => some F_nurserylaw06_awake
  | 13 => some F_timers_Add
  | 14 => some F_nurseryref06_Add
  | 15 => some F_nurseryref06_Same
  | 16 => some F_timers_Check
  | 17 => some F_nurseryref06_Check
  | 18 => some F_timers_Remove
  | 19 => some F_timers_Find
  | 20 => some F_nurserylaw06_added
  | 21 => some F_slices_ContainsFunc_api_Timer_api_Timer
  | 22 => some F_nurserylaw06_TimersLastC1
  | 23 => some F_nurserylaw06_key
  | 24 => some F_slices_Contains_api_Timer_api_Timer
  | 25 => some F_timers_Next
  | 26 => some F_timers_Expire
  | 27 => some F_nurserylaw06_TimersRunC1
  | 28 => some F_nurserylaw06_TimersOrdersC1
  | 29 => some F_slices_Concat_api_Timer_api_Timer
  | 10029 => some F_slices_Concat_api_Timer_api_Timer_p
  | 30 => some F_slices_Reverse_api_Timer_api_Timer
  | 31 => some F_nurseryref06_Find
  | 32 => some F_nurseryref06_Next
  | 33 => some F_nurseryref06_Expire
  | 34 => some F_nurseryref06_Remove
  | 35 => some F_nurserylaw06_TimersExpireC1
  | 36 => some F_nurserylaw06_sleep
  | 37 => some F_timers_check
  | 38 => some F_timers_queue_without
  | 39 => some F_timers_keyOf
  | 40 => some F_timers_place_behind
  | 42 => some F_sort_Search
  | 43 => some F_nurseryref06_one
  | 44 => some F_nurseryref06_without
  | 45 => some F_nurseryref06_Less
  | 46 => some F_timers_compare
  | 47 => some F_nurseryref06_same
  | 48 => some F_slices_IndexFunc_api_Timer_api_Timer
  | 49 => some F_timers_FindC1
  | 50 => some F_slices_Index_api_Timer_api_Timer
  | 51 => some F_timers_queue_due
  | 52 => some F_slices_Clone_api_Timer_api_Timer
  | 53 => some F_slices_Grow_api_Timer_api_Timer
  | 54 => some F_slices_DeleteFunc_timers_queue_api_Timer
  | 55 => some F_slices_Clone_timers_queue_api_Timer
  | 56 => some F_timers_queue_withoutC1
  | 58 => some F_slices_rotateRight_api_Timer
  | 59 => some F_nurseryref06_indices
  | 60 => some F_cmp_Or_int
  | 61 => some F_cmp_Compare_int
  | 62 => some F_timers_queue_dueC1
  | 63 => some F_slices_IndexFunc_timers_queue_api_Timer
  | 64 => some F_slices_rotateLeft_api_Timer
  | 65 => some F_cmp_isNaN_int
  | 41 => some F_slices_Insert_timers_queue_api_Timer
  | _ => none
theorem P_nurserylaw06_TimersAdd : P nurserylaw06_TimersAdd = some F_nurserylaw06_TimersAdd := rfl
theorem P_nurserylaw06_TimersRemoved : P nurserylaw06_TimersRemoved = some F_nurserylaw06_TimersRemoved := rfl
theorem P_nurserylaw06_TimersLast : P nurserylaw06_TimersLast = some F_nurserylaw06_TimersLast := rfl
theorem P_nurserylaw06_TimersFind : P nurserylaw06_TimersFind = some F_nurserylaw06_TimersFind := rfl
theorem P_nurserylaw06_TimersRun : P nurserylaw06_TimersRun = some F_nurserylaw06_TimersRun := rfl
theorem P_nurserylaw06_TimersOrders : P nurserylaw06_TimersOrders = some F_nurserylaw06_TimersOrders := rfl
theorem P_nurserylaw06_TimersReads : P nurserylaw06_TimersReads = some F_nurserylaw06_TimersReads := rfl
theorem P_nurserylaw06_TimersExpire : P nurserylaw06_TimersExpire = some F_nurserylaw06_TimersExpire := rfl
theorem P_nurseryref06_Great : P nurseryref06_Great = some F_nurseryref06_Great := rfl
theorem P_nurserylaw06_awake : P nurserylaw06_awake = some F_nurserylaw06_awake := rfl
theorem P_timers_Add : P timers_Add = some F_timers_Add := rfl
theorem P_nurseryref06_Add : P nurseryref06_Add = some F_nurseryref06_Add := rfl
theorem P_nurseryref06_Same : P nurseryref06_Same = some F_nurseryref06_Same := rfl
theorem P_timers_Check : P timers_Check = some F_timers_Check := rfl
theorem P_nurseryref06_Check : P nurseryref06_Check = some F_nurseryref06_Check := rfl
theorem P_timers_Remove : P timers_Remove = some F_timers_Remove := rfl
theorem P_timers_Find : P timers_Find = some F_timers_Find := rfl
theorem P_nurserylaw06_added : P nurserylaw06_added = some F_nurserylaw06_added := rfl
theorem P_slices_ContainsFunc_api_Timer_api_Timer : P slices_ContainsFunc_api_Timer_api_Timer = some F_slices_ContainsFunc_api_Timer_api_Timer := rfl
theorem P_nurserylaw06_TimersLastC1 : P nurserylaw06_TimersLastC1 = some F_nurserylaw06_TimersLastC1 := rfl
theorem P_nurserylaw06_key : P nurserylaw06_key = some F_nurserylaw06_key := rfl
theorem P_slices_Contains_api_Timer_api_Timer : P slices_Contains_api_Timer_api_Timer = some F_slices_Contains_api_Timer_api_Timer := rfl
theorem P_timers_Next : P timers_Next = some F_timers_Next := rfl
theorem P_timers_Expire : P timers_Expire = some F_timers_Expire := rfl
theorem P_nurserylaw06_TimersRunC1 : P nurserylaw06_TimersRunC1 = some F_nurserylaw06_TimersRunC1 := rfl
theorem P_nurserylaw06_TimersOrdersC1 : P nurserylaw06_TimersOrdersC1 = some F_nurserylaw06_TimersOrdersC1 := rfl
theorem P_slices_Concat_api_Timer_api_Timer : P slices_Concat_api_Timer_api_Timer = some F_slices_Concat_api_Timer_api_Timer := rfl
theorem P_slices_Concat_api_Timer_api_Timer_p : P slices_Concat_api_Timer_api_Timer_p = some F_slices_Concat_api_Timer_api_Timer_p := rfl
theorem P_slices_Reverse_api_Timer_api_Timer : P slices_Reverse_api_Timer_api_Timer = some F_slices_Reverse_api_Timer_api_Timer := rfl
theorem P_nurseryref06_Find : P nurseryref06_Find = some F_nurseryref06_Find := rfl
theorem P_nurseryref06_Next : P nurseryref06_Next = some F_nurseryref06_Next := rfl
theorem P_nurseryref06_Expire : P nurseryref06_Expire = some F_nurseryref06_Expire := rfl
theorem P_nurseryref06_Remove : P nurseryref06_Remove = some F_nurseryref06_Remove := rfl
theorem P_nurserylaw06_TimersExpireC1 : P nurserylaw06_TimersExpireC1 = some F_nurserylaw06_TimersExpireC1 := rfl
theorem P_nurserylaw06_sleep : P nurserylaw06_sleep = some F_nurserylaw06_sleep := rfl
theorem P_timers_check : P timers_check = some F_timers_check := rfl
theorem P_timers_queue_without : P timers_queue_without = some F_timers_queue_without := rfl
theorem P_timers_keyOf : P timers_keyOf = some F_timers_keyOf := rfl
theorem P_timers_place_behind : P timers_place_behind = some F_timers_place_behind := rfl
theorem P_sort_Search : P sort_Search = some F_sort_Search := rfl
theorem P_nurseryref06_one : P nurseryref06_one = some F_nurseryref06_one := rfl
theorem P_nurseryref06_without : P nurseryref06_without = some F_nurseryref06_without := rfl
theorem P_nurseryref06_Less : P nurseryref06_Less = some F_nurseryref06_Less := rfl
theorem P_timers_compare : P timers_compare = some F_timers_compare := rfl
theorem P_nurseryref06_same : P nurseryref06_same = some F_nurseryref06_same := rfl
theorem P_slices_IndexFunc_api_Timer_api_Timer : P slices_IndexFunc_api_Timer_api_Timer = some F_slices_IndexFunc_api_Timer_api_Timer := rfl
theorem P_timers_FindC1 : P timers_FindC1 = some F_timers_FindC1 := rfl
theorem P_slices_Index_api_Timer_api_Timer : P slices_Index_api_Timer_api_Timer = some F_slices_Index_api_Timer_api_Timer := rfl
theorem P_timers_queue_due : P timers_queue_due = some F_timers_queue_due := rfl
theorem P_slices_Clone_api_Timer_api_Timer : P slices_Clone_api_Timer_api_Timer = some F_slices_Clone_api_Timer_api_Timer := rfl
theorem P_slices_Grow_api_Timer_api_Timer : P slices_Grow_api_Timer_api_Timer = some F_slices_Grow_api_Timer_api_Timer := rfl
theorem P_slices_DeleteFunc_timers_queue_api_Timer : P slices_DeleteFunc_timers_queue_api_Timer = some F_slices_DeleteFunc_timers_queue_api_Timer := rfl
theorem P_slices_Clone_timers_queue_api_Timer : P slices_Clone_timers_queue_api_Timer = some F_slices_Clone_timers_queue_api_Timer := rfl
theorem P_timers_queue_withoutC1 : P timers_queue_withoutC1 = some F_timers_queue_withoutC1 := rfl
theorem P_slices_rotateRight_api_Timer : P slices_rotateRight_api_Timer = some F_slices_rotateRight_api_Timer := rfl
theorem P_nurseryref06_indices : P nurseryref06_indices = some F_nurseryref06_indices := rfl
theorem P_cmp_Or_int : P cmp_Or_int = some F_cmp_Or_int := rfl
theorem P_cmp_Compare_int : P cmp_Compare_int = some F_cmp_Compare_int := rfl
theorem P_timers_queue_dueC1 : P timers_queue_dueC1 = some F_timers_queue_dueC1 := rfl
theorem P_slices_IndexFunc_timers_queue_api_Timer : P slices_IndexFunc_timers_queue_api_Timer = some F_slices_IndexFunc_timers_queue_api_Timer := rfl
theorem P_slices_rotateLeft_api_Timer : P slices_rotateLeft_api_Timer = some F_slices_rotateLeft_api_Timer := rfl
theorem P_cmp_isNaN_int : P cmp_isNaN_int = some F_cmp_isNaN_int := rfl
theorem P_slices_Insert_timers_queue_api_Timer : P slices_Insert_timers_queue_api_Timer = some F_slices_Insert_timers_queue_api_Timer := rfl
end Go.VS
namespace Go.VS.Tm
abbrev I' (n : Int) : D := .i .i64 n
theorem wrap1 : IntKind.i64.wrap 1 = 1 := by decide
structure T where
  time : Int
  kind : Int
  index : Int
  deriving DecidableEq
@[simp] theorem T.eta (w : T) : T.mk w.time w.kind w.index = w := rfl
def T.row (w : T) : List D := [I' w.time, I' w.kind, I' w.index]
abbrev tD (n : Bool) (l : List T) : D := .sl 3 n (l.map T.row)
theorem allD_map' : ∀ (ds : List D), allD (ds.map V.d) = some ds
  | [] => rfl
  | d :: ds => by simp [allD_map' ds]
theorem allD_mid {a b : List D} {x : D} : allD (a.map V.d ++ .d x :: b.map V.d) = some (a ++ x :: b) := by
  have := allD_map' (a ++ x :: b)
  simpa using this
theorem take_map_len {α β : Type} {f : α → β} {r : List α} : List.take r.length (r.map f) = r.map f := List.take_of_length_le (by simp)
theorem drop_map_len {α β : Type} {f : α → β} {r : List α} : List.drop (r.length + 1) (r.map f) = [] := List.drop_eq_nil_of_le (by simp)
/-! ### One timer -/
def tbad (a c n : Int) : Bool := decide (c < 0) || decide (n ≤ c) || decide (a < 1) || decide (1099511627776 < a)
/-- why a timer is not valid -/
def chk1 (w : T) : Int :=
  if w.kind = 1 then (if tbad w.time w.index 16 = true then 2 else 0)
  else if w.kind = 2 then (if tbad w.time w.index 32 = true then 2 else 0)
  else if w.kind = 3 then (if tbad w.time w.index 16 = true then 2 else 0)
  else 8
theorem ev_check (a b c : Int) : ev P (.call timers_check [.d (.ag [I' a, I' b, I' c])] []) = some (.val (.d (I' (chk1 ⟨a, b, c⟩))) []) := by
  rw [ev_call P_timers_check rfl]
  by_cases h1 : b = 1
  · subst h1
    cases h : tbad a c 16 <;> (unfold tbad at h; simp [F_timers_check, chk1, tbad, h])
  · by_cases h2 : b = 2
    · subst h2
      cases h : tbad a c 32 <;> (unfold tbad at h; simp [F_timers_check, chk1, tbad, h])
    · by_cases h3 : b = 3
      · subst h3
        cases h : tbad a c 16 <;> (unfold tbad at h; simp [F_timers_check, chk1, tbad, h])
      · simp [F_timers_check, chk1, h1, h2, h3]
theorem ev_isNaN (n : Int) : ev P (.call cmp_isNaN_int [.d (I' n)] []) = some (.val (.d (.b false)) []) := by
  rw [ev_call P_cmp_isNaN_int rfl]
  simp [F_cmp_isNaN_int]
def cmpI (a b : Int) : Int := if a < b then -1 else if b < a then 1 else 0
theorem ev_Compare (a b : Int) : ev P (.call cmp_Compare_int [.d (I' a), .d (I' b)] []) = some (.val (.d (I' (cmpI a b))) []) := by
  rw [ev_call P_cmp_Compare_int rfl]
  unfold cmpI
  by_cases h : a < b
  · simp [F_cmp_Compare_int, ev_isNaN, h]
  · by_cases h2 : b < a <;> simp [F_cmp_Compare_int, ev_isNaN, h, h2]
def or3 (a b c : Int) : Int := if a = 0 then (if b = 0 then c else b) else a
theorem or_loop (l : List Int) (k : Nat) (hk : l.length ≤ 10) :
    ev P (.loop 0 [3, 6, 7, 8] F_cmp_Or_int_L0 [(3, .d (I' 0)), (6, .d (.sl 1 false (l.map fun x => [I' x]))), (7, .d (I' l.length)), (8, .d (I' k))] []) =
      match l[k]? with
      | none => if (k : Int) < l.length then none else some (.out (.exit 0) [(3, .d (I' 0))] [])
      | some v => if v = 0 then ev P (.loop 0 [3, 6, 7, 8] F_cmp_Or_int_L0 [(3, .d (I' 0)), (6, .d (.sl 1 false (l.map fun x => [I' x]))), (7, .d (I' l.length)), (8, .d (I' ((k + 1 : Nat) : Int)))] []) else some (.out .ret [(2, .d (I' v))] []) := by
  rw [ev_loop]
  conv => lhs; arg 4; unfold F_cmp_Or_int_L0
  cases hv : l[k]? with
  | none =>
    have hle : ¬ (k : Int) < l.length := by have := List.getElem?_eq_none_iff.1 hv; omega
    simp [hle]
  | some v =>
    have hlt : k < l.length := (List.getElem?_eq_some_iff.1 hv).1
    have hlt' : (k : Int) < l.length := by omega
    have hnext : IntKind.i64.wrap ((k : Int) + 1) = k + 1 := wrap_i64 (by omega) (by omega)
    by_cases h0 : v = 0
    · subst h0
      simp [hlt', hv, hnext]
    · have hn : (v != 0) = true := by simpa using h0
      simp [hlt', hv, hn, h0]
theorem ev_Or (a b c : Int) : ev P (.call cmp_Or_int [.d (.sl 1 false [[I' a], [I' b], [I' c]])] []) = some (.val (.d (I' (or3 a b c))) []) := by
  have h0 := or_loop [a, b, c] 0 (by simp)
  have h1 := or_loop [a, b, c] 1 (by simp)
  have h2 := or_loop [a, b, c] 2 (by simp)
  have h3 := or_loop [a, b, c] 3 (by simp)
  simp at h0 h1 h2 h3
  rw [ev_call P_cmp_Or_int rfl]
  unfold or3
  by_cases ha : a = 0
  · rw [if_pos ha, h1] at h0
    by_cases hb : b = 0
    · rw [if_pos hb, h2] at h0
      by_cases hc : c = 0
      · rw [if_pos hc, h3] at h0
        subst ha; subst hb; subst hc
        simp [F_cmp_Or_int, h0]
      · rw [if_neg hc] at h0
        subst ha; subst hb
        simp [F_cmp_Or_int, h0]
    · rw [if_neg hb] at h0
      subst ha
      simp [F_cmp_Or_int, h0, hb]
  · rw [if_neg ha] at h0
    simp [F_cmp_Or_int, h0, ha]
def cmpT (a b : T) : Int := or3 (cmpI a.time b.time) (cmpI a.kind b.kind) (cmpI a.index b.index)
theorem ev_compare (a b c a' b' c' : Int) : ev P (.call timers_compare [.d (.ag [I' a, I' b, I' c]), .d (.ag [I' a', I' b', I' c'])] []) = some (.val (.d (I' (cmpT ⟨a, b, c⟩ ⟨a', b', c'⟩))) []) := by
  rw [ev_call P_timers_compare rfl]
  simp [F_timers_compare, ev_Compare, ev_Or, cmpT]
theorem ev_keyOf (a b c : Int) : ev P (.call timers_keyOf [.d (.ag [I' a, I' b, I' c])] []) = some (.val (.d (.ag [I' b, I' c])) []) := by
  rw [ev_call P_timers_keyOf rfl]
  simp [F_timers_keyOf]
/-! ### Check -/
def mk (ks : List (Int × Int)) : List (D × V) := ks.map fun t => (.ag [I' t.1, I' t.2], .d (.b true))
@[simp] theorem mk_locs (ks : List (Int × Int)) : (mk ks).flatMap (fun p => p.2.locs) = [] := by
  unfold mk
  rw [List.flatMap_map]
  simp
@[simp] theorem mk_ren (ks : List (Int × Int)) (f : Nat → Nat) : (mk ks).map (fun p => (p.1, p.2.ren f)) = mk ks := by simp [mk]
theorem keyIs_i (t u : Int × Int) (v : V) : keyIs [.i, .i] (.ag [I' t.1, I' t.2]) (.ag [I' u.1, I' u.2], v) = (t == u) := by
  rw [Bool.eq_iff_iff]
  simp [keyIs, keyEq, keyCells, flatEq, cellEq, Prod.ext_iff]
theorem keyOk_mk (t : Int × Int) (ks : List (Int × Int)) : keyOk [.i, .i] (.ag [I' t.1, I' t.2]) (mk ks) = true := by simp [keyOk, keyEq, keyCells, flatEq, cellEq, mk]
theorem mfind_mk (t : Int × Int) : ∀ (ks : List (Int × Int)), mfind [.i, .i] (.ag [I' t.1, I' t.2]) (mk ks) = if t ∈ ks then some (.d (.b true)) else none
  | [] => rfl
  | u :: r => by
    have ih := mfind_mk t r
    show (if keyIs [.i, .i] (.ag [I' t.1, I' t.2]) (.ag [I' u.1, I' u.2], .d (.b true)) then some (V.d (.b true)) else mfind [.i, .i] (.ag [I' t.1, I' t.2]) (mk r)) = _
    rw [keyIs_i, ih]
    by_cases h : t = u
    · simp [h]
    · simp [h]
theorem mset_mk (t : Int × Int) : ∀ (ks : List (Int × Int)), t ∉ ks → mset [.i, .i] (.ag [I' t.1, I' t.2]) (.d (.b true)) (mk ks) = mk (ks ++ [t])
  | [], _ => rfl
  | u :: r, h => by
    have ih := mset_mk t r (fun hh => h (by simp [hh]))
    have hu : (t == u) = false := by simp; exact fun hh => h (by simp [hh])
    show (if keyIs [.i, .i] (.ag [I' t.1, I' t.2]) (.ag [I' u.1, I' u.2], .d (.b true)) then (.ag [I' t.1, I' t.2], .d (.b true)) :: mk r else (.ag [I' u.1, I' u.2], .d (.b true)) :: mset [.i, .i] (.ag [I' t.1, I' t.2]) (.d (.b true)) (mk r)) = _
    rw [keyIs_i, hu, ih]
    rfl
theorem mget_mk (H : List O) (ks : List (Int × Int)) (a b : Int) : mgetV [.i, .i] (.mp (mk ks) :: H) (.mp 0) (.d (.ag [I' a, I' b])) (.b false) false = some (.d (.b (decide ((a, b) ∈ ks)))) := by
  show mlook [.i, .i] (.ag [I' (a, b).1, I' (a, b).2]) (.b false) false (mk ks) = _
  unfold mlook
  rw [if_pos (keyOk_mk (a, b) ks), mfind_mk]
  by_cases h : (a, b) ∈ ks <;> simp [h]
theorem mput_mk (H : List O) (ks : List (Int × Int)) (a b : Int) (ht : (a, b) ∉ ks) : mputH [.i, .i] (.mp (mk ks) :: H) (.mp 0) (.d (.ag [I' a, I' b])) (.d (.b true)) = some (.mp (mk (ks ++ [(a, b)])) :: H) := by
  show (if keyOk [.i, .i] (.ag [I' (a, b).1, I' (a, b).2]) (mk ks) = true ∧ (V.d (.b true)).known = true then some ((O.mp (mk ks) :: H).set 0 (.mp (mset [.i, .i] (.ag [I' (a, b).1, I' (a, b).2]) (.d (.b true)) (mk ks)))) else none) = _
  rw [if_pos ⟨keyOk_mk (a, b) ks, rfl⟩, mset_mk (a, b) ks ht]
  rfl
def T.key (t : T) : Int × Int := (t.kind, t.index)
theorem nil_or_snoc {α : Type} (l : List α) : l = [] ∨ ∃ L b, l = L ++ [b] := by
  rcases List.eq_nil_or_concat l with h | ⟨L, b, h⟩
  · exact .inl h
  · exact .inr ⟨L, b, by rw [h, List.concat_eq_append]⟩
/-- the check, from a place on -/
def chkF : List T → List T → Int
  | _, [] => 0
  | pre, w :: r =>
    if chk1 w ≠ 0 then chk1 w
    else if (pre.getLast?.any fun p => decide (0 ≤ cmpT p w)) = true then 9
    else if w.key ∈ pre.map T.key then 6
    else chkF (pre ++ [w]) r
theorem loop_Check (nl : Bool) (l : List T) (hn : l.length ≤ 1000000) : ∀ (suf pre : List T), l = pre ++ suf →
    ev P (.loop 0 [0, 3, 8, 9, 10] F_timers_Check_L0 [(0, .d (tD nl l)), (3, .mp 0), (8, .d (tD nl l)), (9, .d (I' l.length)), (10, .d (I' pre.length))] [.mp (mk (pre.map T.key))]) =
      if chkF pre suf = 0 then some (.out (.exit 0) [] []) else some (.out .ret [(2, .d (I' (chkF pre suf)))] []) := by
  intro suf
  induction suf with
  | nil =>
    intro pre hl
    have : l.length = pre.length := by simp [hl]
    rw [ev_loop]
    conv => lhs; arg 4; unfold F_timers_Check_L0
    simp [this, chkF]
  | cons w suf ih =>
    intro pre hl
    have hg : l[pre.length]? = some w := by simp [hl]
    have hlt : (pre.length : Int) < l.length := by simp [hl]; omega
    have hnext : IntKind.i64.wrap ((pre.length : Int) + 1) = pre.length + 1 := wrap_i64 (by omega) (by omega)
    have ih' := ih (pre ++ [w]) (by simp [hl])
    rw [ev_loop]
    conv => lhs; arg 4; unfold F_timers_Check_L0
    generalize hR : (if chkF (pre ++ [w]) suf = 0 then some (Res.out (.exit 0) [] []) else some (.out .ret [(2, .d (I' (chkF (pre ++ [w]) suf)))] [])) = R at ih'
    by_cases hc : chk1 w = 0
    · rcases nil_or_snoc pre with rfl | ⟨pre', p, rfl⟩
      · have hcF : chkF [] (w :: suf) = chkF ([] ++ [w]) suf := by simp [chkF, hc]
        have h0 : 0 < l.length := by simp [hl]
        have hg0 : ∀ h : 0 < l.length, l[0] = w := fun h => by simpa [List.getElem?_eq_getElem h] using hg
        have hm := mput_mk [.dead] [] w.kind w.index (by simp)
        have hge := mget_mk [.dead] [] w.kind w.index
        rw [hcF, hR]
        simp [T.key] at ih'
        simp [-mgetV, -mputH, hlt, h0, hg0, T.row, ev_check, hc, ev_keyOf, hm, hge, wrap1, reachC, cut, List.idxOf_cons]
        exact ih'
      · have hgp : l[pre'.length]? = some p := by simp [hl]
        have hlt2 : (pre'.length : Int) + 1 < l.length := by simpa using hlt
        have hw2 : IntKind.i64.wrap (pre'.length : Int) = pre'.length := wrap_i64 (by omega) (by omega)
        have h0 : (0 : Int) < pre'.length + 1 := by omega
        have h1 : (0 : Int) ≤ pre'.length + 1 := by omega
        have hge := mget_mk [.dead] ((pre' ++ [p]).map T.key) w.kind w.index
        simp only [List.length_append, List.length_singleton] at hg hnext
        by_cases ho : 0 ≤ cmpT p w
        · have hcF : chkF (pre' ++ [p]) (w :: suf) = 9 := by simp [chkF, hc, ho]
          rw [hcF]
          simp [-mgetV, -mputH, hlt2, hg, hgp, hw2, h0, h1, T.row, ev_check, hc, ev_keyOf, ev_compare, ho]
        · have ho2 : cmpT p w < 0 := by omega
          by_cases hk : w.key ∈ (pre' ++ [p]).map T.key
          · have hcF : chkF (pre' ++ [p]) (w :: suf) = 6 := by
              unfold chkF
              rw [if_neg (by simp [hc]), if_neg (by simp; exact ho2), if_pos hk]
            have hk' : (w.kind, w.index) ∈ (pre' ++ [p]).map T.key := hk
            rw [hcF]
            simp [-mgetV, -mputH, -List.map_append, hlt2, hg, hgp, hw2, h0, h1, T.row, ev_check, hc, ev_keyOf, ev_compare, ho, hge, hk']
          · have hcF : chkF (pre' ++ [p]) (w :: suf) = chkF (pre' ++ [p] ++ [w]) suf := by
              conv => lhs; unfold chkF
              rw [if_neg (by simp [hc]), if_neg (by simp; exact ho2), if_neg hk]
            have hk' : (w.kind, w.index) ∉ (pre' ++ [p]).map T.key := hk
            have hn2 : IntKind.i64.wrap ((pre'.length : Int) + 1 + 1) = pre'.length + 1 + 1 := wrap_i64 (by omega) (by omega)
            have hm := mput_mk [.dead] ((pre' ++ [p]).map T.key) w.kind w.index hk'
            rw [hcF, hR]
            simp [-mgetV, -mputH, -List.map_append, hlt2, hg, hgp, hw2, h0, h1, T.row, ev_check, hc, ev_keyOf, ev_compare, ho, hge, hk', hm, hn2, reachC, cut, List.idxOf_cons]
            have e : (pre' ++ [p] ++ [w]).map T.key = (pre' ++ [p]).map T.key ++ [(w.kind, w.index)] := by simp [T.key]
            rw [e] at ih'
            simp [-List.map_append] at ih'
            exact ih'
    · have hc2 : (chk1 w != 0) = true := by simpa using hc
      have hcF : chkF pre (w :: suf) = chk1 w := by unfold chkF; rw [if_pos hc]
      rw [hcF, if_neg hc]
      simp [-mgetV, -mputH, hlt, hg, T.row, ev_check, hc2]
end Go.VS.Tm
namespace Go.VS.Tm
theorem ev_tCheck (nl : Bool) (l : List T) (hn : l.length ≤ 1000000) : ev P (.call timers_Check [.d (tD nl l)] []) = some (.val (.d (I' (chkF [] l))) []) := by
  have hl := loop_Check nl l hn l [] rfl
  simp [mk] at hl
  rw [ev_call P_timers_Check rfl]
  simp [F_timers_Check, reachC, cut, List.idxOf_cons, hl]
  by_cases h : chkF [] l = 0 <;> simp [h]
/-! ### The clone, and what is deleted of it -/
theorem ev_Clone (nl : Bool) (q : List T) (hnl : nl = true → q = []) (hn : q.length ≤ 1000000) :
    ev P (.call slices_Clone_timers_queue_api_Timer [.d (tD nl q)] []) = if nl = true then some (.val (.d (.sl 3 true [])) []) else some (.val (.asl 0 0 q.length) [.arrD 3 true (q.map T.row)]) := by
  rw [ev_call P_slices_Clone_timers_queue_api_Timer rfl]
  cases nl
  · have hr : q.length ≤ room := by unfold room; omega
    cases q with
    | nil => simp [F_slices_Clone_timers_queue_api_Timer, mkRows, allDs, reachC, cut, endH]
    | cons a r =>
      simp at hr
      simp [F_slices_Clone_timers_queue_api_Timer, mkRows, allDs, reachC, cut, hr, endH]
  · simp [F_slices_Clone_timers_queue_api_Timer, endH]
theorem ev_withoutC1 (a b c k i : Int) : ev P (.call timers_queue_withoutC1 [.d (.ag [I' a, I' b, I' c]), .d (.ref [I' k, I' i])] []) = some (.val (.d (.b (b == k && c == i))) []) := by
  rw [ev_call P_timers_queue_withoutC1 rfl]
  simp [F_timers_queue_withoutC1, ev_keyOf]
/-- where a queue first has a timer of a kind -/
def idx (p : T → Bool) : Nat → List T → Option Nat
  | _, [] => none
  | k, w :: r => if p w = true then some k else idx p (k + 1) r
theorem loop_IF {f : Nat} {first caps : List D} {p : T → Bool} (l : List T) (hn : l.length ≤ 1000000)
    (hp : ∀ a b c, ev P (.call f (first.map V.d ++ [.d (.ag [I' a, I' b, I' c])] ++ caps.map V.d) []) = some (.val (.d (.b (p ⟨a, b, c⟩))) [])) :
    ∀ (suf pre : List T), l = pre ++ suf →
    ev P (.loop 1 [0, 1, 7, 8] F_slices_IndexFunc_timers_queue_api_Timer_L0 [(0, .asl 0 0 l.length), (1, .d (.fn f first caps)), (7, .d (I' l.length)), (8, .d (I' pre.length))] [.arrD 3 true (l.map T.row)]) =
      match idx p pre.length suf with
      | none => some (.out (.exit 0) [] [.arrD 3 true (l.map T.row)])
      | some k => some (.out .ret [(4, .d (I' k))] [.arrD 3 true (l.map T.row)]) := by
  intro suf
  induction suf with
  | nil =>
    intro pre hl
    have : l.length = pre.length := by simp [hl]
    rw [ev_loop]
    conv => lhs; arg 4; unfold F_slices_IndexFunc_timers_queue_api_Timer_L0
    simp [this, idx, reachC, cut]
  | cons w suf ih =>
    intro pre hl
    have hg : l[pre.length]? = some w := by simp [hl]
    have hlt : (pre.length : Int) < l.length := by simp [hl]; omega
    have hlt2 : pre.length < l.length := by simp [hl]
    have hgg : l[pre.length] = w := by simpa [List.getElem?_eq_getElem hlt2] using hg
    have hnext : IntKind.i64.wrap ((pre.length : Int) + 1) = pre.length + 1 := wrap_i64 (by omega) (by omega)
    have ih' := ih (pre ++ [w]) (by simp [hl])
    simp at ih' hp
    rw [ev_loop]
    conv => lhs; arg 4; unfold F_slices_IndexFunc_timers_queue_api_Timer_L0
    cases hw : p w
    · simp [hlt, hlt2, hgg, T.row, hp, allD_mid, hw, hnext, idx, reachC, cut]
      exact ih'
    · simp [hlt, hlt2, hgg, T.row, hp, allD_mid, hw, idx, reachC, cut]
theorem ev_IF {f : Nat} {first caps : List D} {p : T → Bool} (l : List T) (hn : l.length ≤ 1000000)
    (hp : ∀ a b c, ev P (.call f (first.map V.d ++ [.d (.ag [I' a, I' b, I' c])] ++ caps.map V.d) []) = some (.val (.d (.b (p ⟨a, b, c⟩))) [])) :
    ev P (.call slices_IndexFunc_timers_queue_api_Timer [.asl 0 0 l.length, .d (.fn f first caps)] [.arrD 3 true (l.map T.row)]) =
      some (.val (.d (I' (match idx p 0 l with | none => -1 | some k => k))) [.arrD 3 true (l.map T.row)]) := by
  have hl := loop_IF l hn hp l [] rfl
  simp at hl
  rw [ev_call P_slices_IndexFunc_timers_queue_api_Timer rfl]
  simp [F_slices_IndexFunc_timers_queue_api_Timer, hl, reachC, cut]
  cases idx p 0 l <;> simp [endH, reachC, cut]
  done
end Go.VS.Tm
namespace Go.VS.Tm
theorem loop_DF {f : Nat} {first caps : List D} {p : T → Bool} (l : List T) (hn : l.length ≤ 1000000)
    (hp : ∀ a b c, ev P (.call f (first.map V.d ++ [.d (.ag [I' a, I' b, I' c])] ++ caps.map V.d) []) = some (.val (.d (.b (p ⟨a, b, c⟩))) [])) :
    ∀ (suf pre : List T) (R : List (List D)), l = pre ++ suf → R.length = l.length → (∀ r, r ∈ R → r.length = 3) → R.take (pre.filter fun w => !p w).length = (pre.filter fun w => !p w).map T.row → R.drop pre.length = suf.map T.row →
    ∃ R', R'.length = l.length ∧ (∀ r, r ∈ R' → r.length = 3) ∧ R'.take (l.filter fun w => !p w).length = (l.filter fun w => !p w).map T.row ∧
    ev P (.loop 1 [0, 1, 5, 6] F_slices_DeleteFunc_timers_queue_api_Timer_L0 [(0, .asl 0 0 l.length), (1, .d (.fn f first caps)), (5, .d (I' (pre.filter fun w => !p w).length)), (6, .d (I' pre.length))] [.arrD 3 true R]) =
      some (.out (.exit 0) [(0, .asl 0 0 l.length), (5, .d (I' (l.filter fun w => !p w).length))] [.arrD 3 true R']) := by
  intro suf
  induction suf with
  | nil =>
    intro pre R hl hR hR3 h1 h2
    have hlp : l = pre := by simp [hl]
    subst hlp
    refine ⟨R, hR, hR3, h1, ?_⟩
    rw [ev_loop]
    conv => lhs; arg 4; unfold F_slices_DeleteFunc_timers_queue_api_Timer_L0
    simp [reachC, cut]
  | cons w suf ih =>
    intro pre R hl hR hR3 h1 h2
    have hlt : (pre.length : Int) < l.length := by simp [hl]; omega
    have hlt2 : pre.length < l.length := by simp [hl]
    have hnext : IntKind.i64.wrap ((pre.length : Int) + 1) = pre.length + 1 := wrap_i64 (by omega) (by omega)
    have hkl : (pre.filter fun w => !p w).length ≤ pre.length := List.length_filter_le _ _
    have hRw : R[pre.length]? = some w.row := by
      have := congrArg (fun x => x[0]?) h2
      simpa using this
    have hlR : pre.length < R.length := by omega
    have hRg : R[pre.length] = w.row := by simpa [List.getElem?_eq_getElem hlR] using hRw
    have hd : R.drop (pre.length + 1) = suf.map T.row := by
      rw [← List.drop_drop, h2]; simp
    simp at hp
    generalize hk : (pre.filter fun w => !p w) = kp at *
    cases hw : p w
    · have hnext2 : IntKind.i64.wrap ((kp.length : Int) + 1) = kp.length + 1 := wrap_i64 (by omega) (by omega)
      obtain ⟨R', k1, k0, k2, k3⟩ := ih (pre ++ [w]) (R.set kp.length w.row) (by simp [hl]) (by simpa using hR) (fun r hr => by rcases List.mem_or_eq_of_mem_set hr with h | h; exact hR3 r h; rw [h]; rfl)
        (by
          simp [hk, hw]
          rw [List.take_succ_eq_append_getElem (by simp; omega)]
          rw [List.take_set_of_le (Nat.le_refl _), h1]
          simp)
        (by simp; rw [List.drop_set_of_lt (by omega)]; exact hd)
      refine ⟨R', k1, k0, k2, ?_⟩
      simp [hk, hw, T.row] at k3
      have hltk : kp.length < l.length := by omega
      have hltR : kp.length < R.length := by omega
      have h3 : (R[kp.length]).length = 3 := hR3 _ (List.getElem_mem hltR)
      have h3d : List.drop 3 R[kp.length] = [] := List.drop_eq_nil_of_le (by omega)
      rw [ev_loop]
      conv => lhs; arg 4; unfold F_slices_DeleteFunc_timers_queue_api_Timer_L0
      simp [hlt, hlt2, hRg, hR, T.row, hp, allD_mid, hw, hnext, hnext2, hltk, h3, h3d, reachC, cut]
      exact k3
    · obtain ⟨R', k1, k0, k2, k3⟩ := ih (pre ++ [w]) R (by simp [hl]) hR hR3 (by simpa [hk, hw] using h1) (by simpa using hd)
      refine ⟨R', k1, k0, k2, ?_⟩
      simp [hk, hw] at k3
      rw [ev_loop]
      conv => lhs; arg 4; unfold F_slices_DeleteFunc_timers_queue_api_Timer_L0
      simp [hlt, hlt2, hRg, hR, T.row, hp, allD_mid, hw, hnext, reachC, cut]
      exact k3
theorem idx_spec {p : T → Bool} : ∀ (l pre : List T), (∀ w, w ∈ pre → p w = false) → match idx p pre.length l with
    | none => ∀ w, w ∈ pre ++ l → p w = false
    | some k => ∃ a w b, pre ++ l = a ++ w :: b ∧ a.length = k ∧ p w = true ∧ (∀ x, x ∈ a → p x = false)
  | [], pre, h => by simpa [idx] using h
  | w :: r, pre, h => by
    unfold idx
    cases hw : p w
    · have ih := idx_spec r (pre ++ [w]) (by intro x hx; rcases List.mem_append.1 hx with hx | hx; exact h x hx; simp at hx; rw [hx]; exact hw)
      simp at ih ⊢
      exact ih
    · simp only [if_true]
      exact ⟨pre, w, r, rfl, rfl, hw, h⟩
/-- what 'DeleteFunc' leaves -/
theorem ev_DF {f : Nat} {first caps : List D} {p : T → Bool} (l : List T) (hn : l.length ≤ 1000000)
    (hp : ∀ a b c, ev P (.call f (first.map V.d ++ [.d (.ag [I' a, I' b, I' c])] ++ caps.map V.d) []) = some (.val (.d (.b (p ⟨a, b, c⟩))) [])) :
    ∃ R', (l.filter fun w => !p w).length ≤ R'.length ∧ R'.take (l.filter fun w => !p w).length = (l.filter fun w => !p w).map T.row ∧
    ev P (.call slices_DeleteFunc_timers_queue_api_Timer [.asl 0 0 l.length, .d (.fn f first caps)] [.arrD 3 true (l.map T.row)]) =
      some (.val (.asl 0 0 (l.filter fun w => !p w).length) [.arrD 3 true R']) := by
  have hi := ev_IF l hn hp
  have hs := idx_spec (p := p) l [] (by simp)
  rw [ev_call P_slices_DeleteFunc_timers_queue_api_Timer rfl]
  cases hx : idx p 0 l with
  | none =>
    rw [hx] at hi
    simp only [List.length_nil, hx, List.nil_append] at hs
    have hf : (l.filter fun w => !p w) = l := by
      rw [List.filter_eq_self]
      intro a ha
      simp [hs a ha]
    refine ⟨l.map T.row, by rw [hf]; simp, by rw [hf]; simp [take_map_len], ?_⟩
    rw [hf]
    simp [F_slices_DeleteFunc_timers_queue_api_Timer, callR, hi, reachC, cut, sub, setAll, back, endH]
  | some k =>
    rw [hx] at hi
    simp only [List.length_nil, hx, List.nil_append] at hs
    obtain ⟨a, w, b, hl, hk, hw, ha⟩ := hs
    have hfa : ((a ++ [w]).filter fun w => !p w) = a := by
      have : (a.filter fun w => !p w) = a := by
        rw [List.filter_eq_self]
        intro x hx
        simp [ha x hx]
      simp [this, hw]
    obtain ⟨R', k1, k0, k2, k3⟩ := loop_DF l hn hp b (a ++ [w]) (l.map T.row) (by simp [hl]) (by simp) (by
        intro r hr
        obtain ⟨x, _, rfl⟩ := List.mem_map.1 hr
        rfl) (by rw [hfa, hl]; simp) (by rw [show l = (a ++ [w]) ++ b by simp [hl], List.map_append]; exact List.drop_left' (by simp))
    rw [hfa, hk] at k3
    have hak : k + 1 ≤ l.length := by rw [hl, ← hk, List.length_append, List.length_cons]; omega
    have hnext : IntKind.i64.wrap ((k : Int) + 1) = k + 1 := wrap_i64 (by omega) (by omega)
    have hkn : ((k : Int) == -1) = false := by simp
    simp only [List.length_append, List.length_singleton, hk] at k3
    have hfl : (l.filter fun w => !p w).length < l.length := by
      have h1 := List.length_filter_le (fun w => !p w) a
      have h2 := List.length_filter_le (fun w => !p w) b
      rw [hl]
      simp [List.filter_append, hw]
      omega
    generalize (l.filter fun w => !p w) = fl at *
    refine ⟨R'.take fl.length ++ List.replicate (R'.length - fl.length) [I' 0, I' 0, I' 0], by simp; omega, ?_, ?_⟩
    · rw [List.take_append_of_le_length (by simp; omega), List.take_take, Nat.min_self, k2]
    · have hz : ¬ (l.length - fl.length = 0) := by omega
      have hdr : List.drop l.length R' = [] := List.drop_eq_nil_of_le (by omega)
      simp at k3
      simp [hz, hdr, F_slices_DeleteFunc_timers_queue_api_Timer, callR, hi, reachC, cut, sub, setAll, back, endH, hkn, hnext, k3, hfl, Nat.le_of_lt hfl, k1]
      done
end Go.VS.Tm
namespace Go.VS.Tm
def wo (k i : Int) (l : List T) : List T := l.filter fun w => !(w.kind == k && w.index == i)
/-- 'without': what is left, in memory that can change -/
theorem ev_without (nl : Bool) (l : List T) (k i : Int) (hnl : nl = true → l = []) (hn : l.length ≤ 1000000) :
    (nl = true ∧ ev P (.call timers_queue_without [.d (tD nl l), .d (.ag [I' k, I' i])] []) = some (.val (.d (.sl 3 true [])) [])) ∨
    (nl = false ∧ ∃ R, (wo k i l).length ≤ R.length ∧ R.take (wo k i l).length = (wo k i l).map T.row ∧
      ev P (.call timers_queue_without [.d (tD nl l), .d (.ag [I' k, I' i])] []) = some (.val (.asl 0 0 (wo k i l).length) [.arrD 3 true R])) := by
  have hC := ev_Clone nl l hnl hn
  cases nl
  · right
    obtain ⟨R, h1, h2, h3⟩ := ev_DF (f := timers_queue_withoutC1) (first := []) (caps := [.ref [I' k, I' i]]) (p := fun w => w.kind == k && w.index == i) l hn (by intro a b c; simp [ev_withoutC1])
    refine ⟨rfl, R, h1, h2, ?_⟩
    simp at hC
    rw [ev_call P_timers_queue_without rfl]
    unfold wo
    generalize (l.filter fun w => !(w.kind == k && w.index == i)) = fl at *
    simp [F_timers_queue_without, callD, hC, callR, h3, reachC, cut, sub, setAll, back, endH, List.idxOf_cons]
  · left
    have : l = [] := hnl rfl
    subst this
    refine ⟨rfl, ?_⟩
    simp at hC
    have hI : ev P (.call slices_IndexFunc_timers_queue_api_Timer [.d (.sl 3 true []), .d (.fn timers_queue_withoutC1 [] [.ref [I' k, I' i]])] []) = some (.val (.d (I' (-1))) []) := by
      have hl : ev P (.loop 0 [0, 1, 7, 8] F_slices_IndexFunc_timers_queue_api_Timer_L0 [(0, .d (.sl 3 true [])), (1, .d (.fn timers_queue_withoutC1 [] [.ref [I' k, I' i]])), (7, .d (I' 0)), (8, .d (I' 0))] []) = some (.out (.exit 0) [] []) := by
        rw [ev_loop]
        conv => lhs; arg 4; unfold F_slices_IndexFunc_timers_queue_api_Timer_L0
        simp
      rw [ev_call P_slices_IndexFunc_timers_queue_api_Timer rfl]
      simp [F_slices_IndexFunc_timers_queue_api_Timer, hl, endH]
    have hD : ev P (.call slices_DeleteFunc_timers_queue_api_Timer [.d (.sl 3 true []), .d (.fn timers_queue_withoutC1 [] [.ref [I' k, I' i]])] []) = some (.val (.d (.sl 3 true [])) []) := by
      rw [ev_call P_slices_DeleteFunc_timers_queue_api_Timer rfl]
      simp [F_slices_DeleteFunc_timers_queue_api_Timer, callR, hI, setAll, back, endH]
    rw [ev_call P_timers_queue_without rfl]
    simp [F_timers_queue_without, callD, hC, callR, endH, hD, setAll, back]
/-! ### The place -/
theorem ev_behind (l : List T) (R : List (List D)) (a b c : Int) (i : Nat) (w : T) (hR : l.length ≤ R.length) (hT : R.take l.length = l.map T.row) (hi : l[i]? = some w) :
    ev P (.call timers_place_behind [.ag [.asl 0 0 l.length, .d (I' a), .d (I' b), .d (I' c)], .d (I' i)] [.arrD 3 true R]) = some (.val (.d (.b (decide (0 ≤ cmpT w ⟨a, b, c⟩)))) [.arrD 3 true R]) := by
  have hil : i < l.length := (List.getElem?_eq_some_iff.1 hi).1
  have hRi : R[i]? = some w.row := by
    have h1 : (R.take l.length)[i]? = some w.row := by rw [hT]; simp [hi]
    rwa [List.getElem?_take_of_lt hil] at h1
  have hRg : R[i]'(by omega) = w.row := by simpa [List.getElem?_eq_getElem (show i < R.length by omega)] using hRi
  rw [ev_call P_timers_place_behind rfl]
  simp [F_timers_place_behind, hil, hR, hRi, T.row, ev_compare, endH, reachC, cut, sub]
end Go.VS.Tm
namespace Go.VS.Tm
/-- the order of timers -/
def tl (a b : T) : Prop := a.time < b.time ∨ (a.time = b.time ∧ (a.kind < b.kind ∨ (a.kind = b.kind ∧ a.index < b.index)))
theorem cmpI_lt {a b : Int} : cmpI a b < 0 ↔ a < b := by unfold cmpI; split <;> (try split) <;> constructor <;> intro h <;> omega
theorem cmpI_eq {a b : Int} : cmpI a b = 0 ↔ a = b := by unfold cmpI; split <;> (try split) <;> constructor <;> intro h <;> omega
theorem cmpT_lt {a b : T} : cmpT a b < 0 ↔ tl a b := by
  unfold cmpT or3 tl
  have h1 := @cmpI_lt a.time b.time
  have h2 := @cmpI_eq a.time b.time
  have h3 := @cmpI_lt a.kind b.kind
  have h4 := @cmpI_eq a.kind b.kind
  have h5 := @cmpI_lt a.index b.index
  split
  · split <;> constructor <;> intro h <;> omega
  · constructor <;> intro h <;> omega
theorem tl_trans {a b c : T} (h1 : tl a b) (h2 : tl b c) : tl a c := by unfold tl at *; omega
theorem tl_irrefl {a : T} : ¬ tl a a := by unfold tl; omega
theorem mid_eq {i j : Nat} (h : i + j ≤ 4000000) : IntKind.i64.wrap ((IntKind.u64.wrap ((i : Int) + j)).fdiv (2 ^ min 1 IntKind.u64.bits)) = (((i + j) / 2 : Nat) : Int) := by
  have h1 : IntKind.u64.wrap ((i : Int) + j) = (i : Int) + j := by
    have e0 : IntKind.u64.bits = 64 := rfl
    simp only [IntKind.wrap, e0, IntKind.signed, Bool.false_and, Bool.false_eq_true, if_false]
    omega
  have h2 : (2 : Int) ^ min 1 IntKind.u64.bits = 2 := by decide
  rw [h1, h2, Int.fdiv_eq_ediv_of_nonneg _ (by omega), wrap_i64 (by omega) (by omega)]
  omega
theorem loop_SS (l : List T) (R : List (List D)) (a b c : Int) (B : Nat) (hn : l.length ≤ 1000000) (hR : l.length ≤ R.length) (hT : R.take l.length = l.map T.row)
    (hB : ∀ i w, l[i]? = some w → (i < B ↔ cmpT w ⟨a, b, c⟩ < 0)) : ∀ (n i j : Nat), j - i ≤ n → i ≤ B → B ≤ j → j ≤ l.length →
    ev P (.loop 1 [1, 5, 6] F_sort_Search_L0 [(1, .fn timers_place_behind [.ag [.asl 0 0 l.length, .d (I' a), .d (I' b), .d (I' c)]] []), (5, .d (I' i)), (6, .d (I' j))] [.arrD 3 true R]) =
      some (.out (.exit 0) [(5, .d (I' B))] [.arrD 3 true R]) := by
  intro n
  induction n with
  | zero =>
    intro i j h1 h2 h3 h4
    have : i = B := by omega
    have : j = B := by omega
    subst i; subst j
    rw [ev_loop]
    conv => lhs; arg 4; unfold F_sort_Search_L0
    simp [reachC, cut]
  | succ n ih =>
    intro i j h1 h2 h3 h4
    by_cases hij : i = j
    · have : i = B := by omega
      have : j = B := by omega
      subst i; subst j
      rw [ev_loop]
      conv => lhs; arg 4; unfold F_sort_Search_L0
      simp [reachC, cut]
    · have hlt : i < j := by omega
      have hw1 : IntKind.i64.wrap ((i : Int) + j) = i + j := wrap_i64 (by omega) (by omega)
      have hm := mid_eq (i := i) (j := j) (by omega)
      generalize hmm : (i + j) / 2 = m at hm
      have hm1 : i ≤ m := by omega
      have hm2 : m < j := by omega
      obtain ⟨w, hw⟩ : ∃ w, l[m]? = some w := ⟨l[m]'(by omega), by simp⟩
      have hb := hB m w hw
      have he := ev_behind l R a b c m w hR hT hw
      have hm3 : IntKind.i64.wrap ((m : Int) + 1) = m + 1 := wrap_i64 (by omega) (by omega)
      rw [ev_loop]
      conv => lhs; arg 4; unfold F_sort_Search_L0
      by_cases hp : 0 ≤ cmpT w ⟨a, b, c⟩
      · have ih' := ih i m (by omega) (by omega) (by omega) (by omega)
        simp [hlt, hw1, hm, callR, he, hp, reachC, cut, sub, setAll, back, List.idxOf_cons]
        exact ih'
      · have ih' := ih (m + 1) j (by omega) (by omega) (by omega) h4
        simp at ih'
        simp [hlt, hw1, hm, hm3, callR, he, hp, reachC, cut, sub, setAll, back, List.idxOf_cons]
        exact ih'
theorem ev_Search (l : List T) (R : List (List D)) (a b c : Int) (B : Nat) (hn : l.length ≤ 1000000) (hR : l.length ≤ R.length) (hT : R.take l.length = l.map T.row) (hBl : B ≤ l.length)
    (hB : ∀ i w, l[i]? = some w → (i < B ↔ cmpT w ⟨a, b, c⟩ < 0)) :
    ev P (.call sort_Search [.d (I' l.length), .fn timers_place_behind [.ag [.asl 0 0 l.length, .d (I' a), .d (I' b), .d (I' c)]] []] [.arrD 3 true R]) = some (.val (.d (I' B)) [.arrD 3 true R]) := by
  have hl := loop_SS l R a b c B hn hR hT hB l.length 0 l.length (by omega) (by omega) hBl (by omega)
  simp at hl
  rw [ev_call P_sort_Search rfl]
  simp [F_sort_Search, hl, endH, reachC, cut]
def bnd (t : T) (l : List T) : Nat := (l.takeWhile fun w => decide (cmpT w t < 0)).length
theorem bnd_le (t : T) : ∀ (q : List T), bnd t q ≤ q.length
  | [] => by simp [bnd]
  | w :: q => by
    have := bnd_le t q
    unfold bnd at *
    simp only [List.takeWhile_cons]
    split <;> simp; omega
def Sorted (q : List T) : Prop := q.Pairwise tl
theorem bnd_lt {t w : T} : ∀ {q : List T} {k : Nat}, Sorted q → q[k]? = some w → (k < bnd t q ↔ cmpT w t < 0)
  | [], k, _, h => by simp at h
  | a :: q, 0, _, h => by
    have : a = w := by simpa using h
    subst this
    by_cases hp : cmpT a t < 0 <;> simp [bnd, List.takeWhile_cons, hp]
  | a :: q, k + 1, hd, h => by
    have hd' := List.pairwise_cons.1 hd
    have hq : q[k]? = some w := by simpa using h
    have hw : w ∈ q := List.mem_of_getElem? hq
    have h1 := hd'.1 w hw
    have ih := bnd_lt (t := t) (k := k) hd'.2 hq
    by_cases hp : cmpT a t < 0
    · have : bnd t (a :: q) = bnd t q + 1 := by simp [bnd, List.takeWhile_cons, hp]
      rw [this, ← ih]; omega
    · have : bnd t (a :: q) = 0 := by simp [bnd, List.takeWhile_cons, hp]
      rw [this]
      constructor
      · intro h3; omega
      · intro h3; exact absurd (cmpT_lt.2 (tl_trans h1 (cmpT_lt.1 h3))) hp
/-- the queue with a timer put in its place -/
def ins (t : T) (q : List T) : List T := q.take (bnd t q) ++ t :: q.drop (bnd t q)
def addE (l : List T) (t : T) : Int := if chkF [] l ≠ 0 then 1 else chk1 t
def addS (l : List T) (t : T) : List T := if addE l t = 0 then ins t (wo t.kind t.index l) else []
theorem ev_Add (nl : Bool) (l : List T) (a b c : Int) (hnl : nl = true → l = []) (hn : l.length ≤ 1000000) (hs : chkF [] l = 0 → Sorted l) :
    ∃ nl', (nl' = true → addS l ⟨a, b, c⟩ = []) ∧ ev P (.call timers_Add [.d (tD nl l), .d (.ag [I' a, I' b, I' c])] []) = some (.val (.tu [.d (tD nl' (addS l ⟨a, b, c⟩)), .d (I' (addE l ⟨a, b, c⟩))]) []) := by
  have hC := ev_tCheck nl l hn
  by_cases h1 : chkF [] l = 0
  · by_cases h2 : chk1 ⟨a, b, c⟩ = 0
    · have hE : addE l ⟨a, b, c⟩ = 0 := by unfold addE; rw [if_neg (by simp [h1]), h2]
      have hA : addS l ⟨a, b, c⟩ = ins ⟨a, b, c⟩ (wo b c l) := by unfold addS; rw [if_pos hE]
      refine ⟨false, by simp, ?_⟩
      rw [hE, hA]
      have hI := ev_prim P_slices_Insert_timers_queue_api_Timer (p := insP 3) rfl
      rw [ev_call P_timers_Add rfl]
      have hso : Sorted (wo b c l) := (hs h1).filter _
      have hwl : (wo b c l).length ≤ l.length := List.length_filter_le _ _
      rcases ev_without nl l b c hnl hn with ⟨hq, hW⟩ | ⟨hq, R, k1, k2, hW⟩
      · have hl0 : l = [] := hnl hq
        subst hl0
        have e0 : wo b c [] = [] := rfl
        have e1 : bnd ⟨a, b, c⟩ [] = 0 := rfl
        have e2 : 1 ≤ room := by decide
        have hS : ev P (.call sort_Search [.d (I' 0), .d (.fn timers_place_behind [.ag [.sl 3 true [], I' a, I' b, I' c]] [])] []) = some (.val (.d (I' 0)) []) := by
          have hl : ev P (.loop 0 [1, 5, 6] F_sort_Search_L0 [(1, .d (.fn timers_place_behind [.ag [.sl 3 true [], I' a, I' b, I' c]] [])), (5, .d (I' 0)), (6, .d (I' 0))] []) = some (.out (.exit 0) [(5, .d (I' 0))] []) := by
            rw [ev_loop]
            conv => lhs; arg 4; unfold F_sort_Search_L0
            simp
          rw [ev_call P_sort_Search rfl]
          simp [F_sort_Search, hl, endH]
        rw [e0]
        subst hq
        simp [F_timers_Add, hC, h1, ev_check, h2, ev_keyOf, callD, hW, callR, hS, hI, insP, reachC, cut, insRows, sub, setAll, back, List.idxOf_cons, e1, e2, T.row, ins]

      · have hb := bnd_le ⟨a, b, c⟩ (wo b c l)
        have hS := ev_Search (wo b c l) R a b c _ (by omega) k1 k2 hb (fun i w h => bnd_lt hso h)
        unfold ins
        generalize wo b c l = fl at *
        generalize bnd ⟨a, b, c⟩ fl = B at *
        have hr : fl.length + 1 ≤ room := by unfold room; omega
        have e1 : fl.length + 1 ≤ B + (fl.length - B + 1) := by omega
        have e2 : ∀ x : List D, List.take (fl.length + 1) (List.take B (fl.map T.row) ++ x :: List.drop B (fl.map T.row)) = List.take B (fl.map T.row) ++ x :: List.drop B (fl.map T.row) :=
          fun x => List.take_of_length_le (by simp; omega)
        simp [F_timers_Add, hC, h1, ev_check, h2, ev_keyOf, callD, hW, callR, hS, hI, insP, reachC, cut, insRows, k1, k2, hb, hr, sub, setAll, back, List.idxOf_cons, e1, e2, T.row]
    · have hE : addE l ⟨a, b, c⟩ = chk1 ⟨a, b, c⟩ := by unfold addE; rw [if_neg (by simp [h1])]
      have hA : addS l ⟨a, b, c⟩ = [] := by unfold addS; rw [if_neg (by rw [hE]; exact h2)]
      have h2' : (chk1 ⟨a, b, c⟩ != 0) = true := by simpa using h2
      refine ⟨true, fun _ => hA, ?_⟩
      rw [hE, hA]
      rw [ev_call P_timers_Add rfl]
      simp [F_timers_Add, hC, h1, ev_check, h2']
  · have hE : addE l ⟨a, b, c⟩ = 1 := by unfold addE; rw [if_pos h1]
    have hA : addS l ⟨a, b, c⟩ = [] := by unfold addS; rw [if_neg (by rw [hE]; decide)]
    have h1' : (chkF [] l != 0) = true := by simpa using h1
    refine ⟨true, fun _ => hA, ?_⟩
    rw [hE, hA]
    rw [ev_call P_timers_Add rfl]
    simp [F_timers_Add, hC, h1']
end Go.VS.Tm
namespace Go.VS.Tm
/-- a queue of timers -/
structure QV (l : List T) : Prop where
  srt : Sorted l
  one : ∀ w, w ∈ l → chk1 w = 0
  dis : l.Pairwise fun a b => a.key ≠ b.key
theorem chkF_iff : ∀ (suf pre : List T), chkF pre suf = 0 ↔ (∀ w, w ∈ suf → chk1 w = 0) ∧ (pre.getLast?.toList ++ suf).Pairwise tl ∧ (∀ a, a ∈ pre → ∀ b, b ∈ suf → a.key ≠ b.key) ∧ suf.Pairwise (fun a b => a.key ≠ b.key)
  | [], pre => by cases h : pre.getLast? <;> simp [chkF]
  | w :: r, pre => by
    have ih := chkF_iff r (pre ++ [w])
    unfold chkF
    by_cases h1 : chk1 w = 0
    · rw [if_neg (by simp [h1])]
      by_cases h2 : (pre.getLast?.any fun p => decide (0 ≤ cmpT p w)) = true
      · rw [if_pos h2]
        constructor
        · intro h; cases h
        · rintro ⟨_, h, _⟩
          exfalso
          cases hp : pre.getLast? with
          | none => simp [hp] at h2
          | some p =>
            simp [hp] at h2 h
            have := cmpT_lt.2 h.1.1
            omega
      · rw [if_neg h2]
        by_cases h3 : w.key ∈ pre.map T.key
        · rw [if_pos h3]
          constructor
          · intro h; cases h
          · rintro ⟨_, _, h, _⟩
            exfalso
            obtain ⟨x, hx, hx2⟩ := List.mem_map.1 h3
            exact h x hx w (by simp) hx2
        · rw [if_neg h3, ih]
          have hl : (pre ++ [w]).getLast? = some w := by simp
          rw [hl]
          have h3' : ∀ a, a ∈ pre → a.key ≠ w.key := fun a ha h => h3 (List.mem_map.2 ⟨a, ha, h⟩)
          have h2' : ∀ p, pre.getLast? = some p → tl p w := by
            intro p hp
            simp [hp] at h2
            exact cmpT_lt.1 (by omega)
          simp only [Option.toList, List.singleton_append]
          constructor
          · rintro ⟨k1, k2, k3, k4⟩
            refine ⟨?_, ?_, ?_, ?_⟩
            · intro x hx; rcases List.mem_cons.1 hx with rfl | hx; exact h1; exact k1 x hx
            · cases hp : pre.getLast? with
              | none => simpa using k2
              | some p =>
                have := h2' p hp
                simp only [List.singleton_append]
                rw [List.pairwise_cons] at k2 ⊢
                refine ⟨?_, List.pairwise_cons.2 k2⟩
                intro x hx
                rcases List.mem_cons.1 hx with rfl | hx
                · exact this
                · exact tl_trans this (k2.1 x hx)
            · intro a ha b hb
              rcases List.mem_cons.1 hb with rfl | hb
              · exact h3' a ha
              · exact k3 a (by simp [ha]) b hb
            · rw [List.pairwise_cons]
              exact ⟨fun b hb => k3 w (by simp) b hb, k4⟩
          · rintro ⟨k1, k2, k3, k4⟩
            rw [List.pairwise_cons] at k4
            refine ⟨fun x hx => k1 x (by simp [hx]), ?_, ?_, k4.2⟩
            · exact (List.pairwise_append.1 k2).2.1
            · intro a ha b hb
              rcases List.mem_append.1 ha with ha | ha
              · exact k3 a ha b (by simp [hb])
              · simp at ha; subst ha; exact k4.1 b hb
    · rw [if_pos h1]
      constructor
      · intro h; exact absurd h h1
      · rintro ⟨h, _⟩
        exact absurd (h w (by simp)) h1
theorem QV_iff {l : List T} : chkF [] l = 0 ↔ QV l := by
  rw [chkF_iff]
  simp
  exact ⟨fun h => ⟨h.2.1, h.1, h.2.2⟩, fun h => ⟨h.one, h.srt, h.dis⟩⟩
theorem ev_tRemove (nl : Bool) (l : List T) (k i : Int) (hnl : nl = true → l = []) (hn : l.length ≤ 1000000) :
    ∃ nl', (nl' = true → (if chkF [] l = 0 then wo k i l else []) = []) ∧ ev P (.call timers_Remove [.d (tD nl l), .d (I' k), .d (I' i)] []) = some (.val (.d (tD nl' (if chkF [] l = 0 then wo k i l else []))) []) := by
  have hC := ev_tCheck nl l hn
  by_cases h1 : chkF [] l = 0
  · rw [if_pos h1]
    rcases ev_without nl l k i hnl hn with ⟨hq, hW⟩ | ⟨hq, R, k1, k2, hW⟩
    · have hl0 : l = [] := hnl hq
      subst hl0
      refine ⟨true, fun _ => rfl, ?_⟩
      subst hq
      have e0 : wo k i [] = [] := rfl
      rw [ev_call P_timers_Remove rfl]
      simp [F_timers_Remove, hC, h1, callD, hW, e0]
    · refine ⟨false, by simp, ?_⟩
      generalize wo k i l = fl at *
      rw [ev_call P_timers_Remove rfl]
      simp [F_timers_Remove, hC, h1, callD, hW, k1, k2]
  · have h1' : (chkF [] l != 0) = true := by simpa using h1
    rw [if_neg h1]
    refine ⟨true, by simp, ?_⟩
    rw [ev_call P_timers_Remove rfl]
    simp [F_timers_Remove, hC, h1']
end Go.VS.Tm
