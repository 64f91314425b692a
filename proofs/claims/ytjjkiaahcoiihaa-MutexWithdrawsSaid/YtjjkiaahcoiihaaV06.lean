import Derived.Test.YtjjkiaahcoiihaaV05
set_option linter.all false
namespace Go.VS
def nurserylaw16_MutexWithdraws : Nat := 9
def mutex_New : Nat := 11
def nurserylaw16_object : Nat := 12
def nurserylaw16_awake : Nat := 13
def mutex_Apply : Nat := 14
def q16_Great : Nat := 15
def mutex_Check : Nat := 16
def q16_SameWaiters : Nat := 17
def q16_Same : Nat := 26
def q04_SameInts : Nat := 28
def mutex_Withdraw : Nat := 29
def nurserylaw16_lock : Nat := 31
def mutex_operations : Nat := 32
def mutex_isTask : Nat := 33
def mutex_waits : Nat := 34
def mutex_valid : Nat := 35
def q16_sameCursors : Nat := 39
def waitlist_Remove : Nat := 41
def mutex_lock : Nat := 42
def mutex_operationsC1 : Nat := 43
def mutex_unlock : Nat := 44
def slices_ContainsFunc_api_Waiter_api_Waiter : Nat := 45
def mutex_waitsC1 : Nat := 46
def waitlist_Check : Nat := 47
def mutex_validC1 : Nat := 48
def waitlist_filter : Nat := 49
def waitlist_RemoveC1 : Nat := 50
def slices_BinarySearchFunc_api_Waiter_api_Waiter_int : Nat := 51
def mutex_lockC1 : Nat := 52
def cmp_Compare_int : Nat := 53
def slices_Insert_api_Waiter_api_Waiter : Nat := 54
def slices_Clone_api_Waiter_api_Waiter : Nat := 55
def slices_IndexFunc_api_Waiter_api_Waiter : Nat := 56
def waitlist_valid : Nat := 57
def cmp_isNaN_int : Nat := 58
def slices_overlaps_api_Waiter : Nat := 59
def slices_rotateRight_api_Waiter : Nat := 60
def slices_rotateLeft_api_Waiter : Nat := 61
def slices_Reverse_api_Waiter_api_Waiter : Nat := 62
@[simp] def zR : List D := [(.i .i64 0), (.i .i64 0), (.i .i64 0), (.sl 1 true []), (.sl 5 true []), (.sl 1 true []), (.sl 2 true []), (.b false), (.i .i64 0)]
@[simp] def zQ : List D := [(.i .i64 0), (.i .i64 0), (.i .i64 0), (.i .i64 0), (.i .i64 0)]
@[simp] def k0 : A := .k (.i .i64 0)
def F_nurserylaw16_MutexWithdraws_L0 : C :=
 (.seq (.reg [.op (.bin 51 .lss (.t 50) (.t 49))])
 ((.seq (.ite (.t 51)
 (.skip)
 (.seq (.keep [4,9,10]) (.exit 0)))
 ((.seq (.blk 1 ((.seq (.reg [.op (.ixs 52 (.t 48) (.t 50) 5),.op (.ld 53 (.t 52) 5 true),.op (.new 12 zQ),.op (.st (.t 12) (.t 53) 5 true)])
 ((.seq ((.seq (.reg [.op (.fa 54 (.t 12) 0 1),.op (.ld 55 (.t 54) 1 false),.op (.fa 56 (.t 4) 0 1),.op (.ld 57 (.t 56) 1 false),.op (.bin 58 .eql (.t 55) (.t 57)),.op (.mv 59 (.t 58)),.sc true 63 59 [.op (.fa 60 (.t 12) 1 1),.op (.ld 61 (.t 60) 1 false),.op (.bin 62 .eql (.t 61) (.k (.i .i64 52)))] (.t 62)])
 (.ite (.t 63)
 (.seq (.keep [4,9,10,48,49,50]) (.exit 1))
 (.skip))))
 ((.seq (.seq (.drw [] [0,1,2,3,4,5,6,7,8,9] [.op (.call (some 65) nurserylaw16_object []),.op (.ld 66 (.t 9) 9 true),.op (.ldd 67 (.t 12) 5 true),.op (.call (some 68) mutex_Apply [(.t 65),(.t 66),(.t 67)]),.op (.mv 64 (.t 68)),.op (.ext 69 (.t 64) 0),.op (.ext 70 (.t 64) 1),.op (.new 13 [(.i .i64 0),(.i .i64 0),(.i .i64 0),(.sl 1 true []),(.sl 5 true []),(.sl 1 true []),(.sl 2 true []),(.b false),(.i .i64 0),(.b false),(.i .i64 0),(.b false),(.sl 5 true [])]),.re (.ld 66 (.t 9) 9 true),.op (.st (.t 13) (.t 69) 13 false),.op (.mv 14 (.t 70))])
 (.frz [13]))
 ((.seq (.seq (.drw [] [0,1,2,3,4,5,6,7,8,9] [.op (.call (some 72) nurserylaw16_object []),.op (.ld 73 (.t 10) 9 true),.op (.ldd 74 (.t 12) 5 true),.op (.call (some 75) mutex_Apply [(.t 72),(.t 73),(.t 74)]),.op (.mv 71 (.t 75)),.op (.ext 76 (.t 71) 0),.op (.ext 77 (.t 71) 1),.op (.new 15 [(.i .i64 0),(.i .i64 0),(.i .i64 0),(.sl 1 true []),(.sl 5 true []),(.sl 1 true []),(.sl 2 true []),(.b false),(.i .i64 0),(.b false),(.i .i64 0),(.b false),(.sl 5 true [])]),.re (.ld 73 (.t 10) 9 true),.op (.st (.t 15) (.t 76) 13 false),.op (.mv 16 (.t 77))])
 (.frz [15]))
 ((.seq ((.seq (.reg [.op (.mv 78 (.t 14)),.op (.mv 79 (.t 16)),.op (.bin 80 .neq (.t 78) (.t 79)),.op (.mv 81 (.t 80)),.sc true 98 81 [.op (.mv 82 (.t 14)),.op (.bin 83 .eql (.t 82) k0),.op (.mv 84 (.t 83)),.sc false 97 84 [.op (.fa 85 (.t 13) 9 1),.op (.ld 86 (.t 85) 1 false),.op (.fa 87 (.t 15) 9 1),.op (.ld 88 (.t 87) 1 false),.op (.eqb 89 true (.t 86) (.t 88)),.op (.mv 90 (.t 89)),.sc true 96 90 [.op (.fa 91 (.t 13) 11 1),.op (.ld 92 (.t 91) 1 false),.op (.fa 93 (.t 15) 11 1),.op (.ld 94 (.t 93) 1 false),.op (.eqb 95 true (.t 92) (.t 94))] (.t 95)] (.t 96)] (.t 97)])
 (.ite (.t 98)
 ((.seq (.reg [.op (.mv 6 (.k (.b false)))])
 (.seq (.keep [6]) .ret)))
 (.skip))))
 ((.seq (.reg [.op (.mv 99 (.t 14)),.op (.bin 100 .eql (.t 99) k0)])
 (.ite (.t 100)
 (.drw [] [0,1,2,3,4,5] [.op (.fad 101 (.t 13) 0 9),.op (.ldd 102 (.t 101) 9 true),.op (.fad 103 (.t 15) 0 9),.op (.ldd 104 (.t 103) 9 true),.op (.st (.t 9) (.t 102) 9 false),.op (.st (.t 10) (.t 104) 9 false)])
 (.skip)))))))))))))))
 (.reg [.op (.bin 105 .add (.t 50) (.k (.i .i64 1))),.op (.mv 50 (.t 105))]))))))
def F_nurserylaw16_MutexWithdraws : F := .mk
 ((.seq (.reg [.op (.box 3 (.t 0) 9 true),.op (.box 4 (.t 1) 5 false),.op (.mv 6 (.k (.b false)))])
 ((.seq ((.seq (.reg [.op (.ld 21 (.t 3) 9 true),.op (.call (some 22) q16_Great [(.t 21)]),.op (.mv 23 (.t 22)),.sc true 27 23 [.op (.mv 24 (.t 2)),.op (.len 25 (.t 24) .sl),.op (.bin 26 .gtr (.t 25) (.k (.i .i64 10)))] (.t 26)])
 (.ite (.t 27)
 ((.seq (.reg [.op (.call (some 28) nurserylaw16_awake []),.op (.mv 6 (.t 28))])
 (.ret)))
 (.skip))))
 ((.seq (.reg [.op (.fa 29 (.t 4) 1 1),.op (.st (.t 29) (.k (.i .i64 50)) 1 false)])
 ((.seq (.seq (.drw [] [0,1,2,3,4,5,6,7,8,9] [.op (.call (some 31) nurserylaw16_object []),.op (.ldd 32 (.t 3) 9 true),.op (.ld 33 (.t 4) 5 true),.op (.call (some 34) mutex_Apply [(.t 31),(.t 32),(.t 33)]),.op (.mv 30 (.t 34)),.op (.ext 35 (.t 30) 0),.op (.ext 36 (.t 30) 1),.op (.new 7 [(.i .i64 0),(.i .i64 0),(.i .i64 0),(.sl 1 true []),(.sl 5 true []),(.sl 1 true []),(.sl 2 true []),(.b false),(.i .i64 0),(.b false),(.i .i64 0),(.b false),(.sl 5 true [])]),.re (.ld 33 (.t 4) 5 true),.op (.st (.t 7) (.t 35) 13 false),.op (.mv 8 (.t 36))])
 (.frz [7]))
 ((.seq ((.seq (.reg [.op (.mv 37 (.t 8)),.op (.bin 38 .neq (.t 37) k0),.op (.mv 39 (.t 38)),.sc true 43 39 [.op (.fa 40 (.t 7) 9 1),.op (.ld 41 (.t 40) 1 false),.op (.un 42 .not (.t 41))] (.t 42)])
 (.ite (.t 43)
 ((.seq (.reg [.op (.call (some 44) nurserylaw16_awake []),.op (.mv 6 (.t 44))])
 (.ret)))
 (.skip))))
 ((.seq (.drx [2,4,9,10] [[],[0],[],[],[],[3,1,0,1,3,4],[4,2,5,0,1,2,3,4,5]] [.fa 45 (.t 7) 0 9,.ld 46 (.t 45) 9 true,.ld 47 (.t 3) 9 true,.new 9 zR,.new 10 zR,.st (.t 9) (.t 46) 9 false,.st (.t 10) (.t 47) 9 false])
 ((.seq ((.seq (.reg [.op (.mv 48 (.t 2)),.op (.len 49 (.t 48) .sl),.op (.mv 50 k0)])
 (.blk 0 (.loop [4,9,10,48,49,50] F_nurserylaw16_MutexWithdraws_L0))))
 ((.seq (.seq (.drw [] [0,1,2,3,4,5,6,7,8,9,10] [.op (.call (some 107) nurserylaw16_object []),.op (.ld 108 (.t 9) 9 true),.op (.fa 109 (.t 4) 0 1),.op (.ld 110 (.t 109) 1 false),.op (.call (some 111) mutex_Withdraw [(.t 107),(.t 108),(.t 110)]),.op (.mv 106 (.t 111)),.op (.ext 112 (.t 106) 0),.op (.ext 113 (.t 106) 1),.op (.new 17 [(.i .i64 0),(.i .i64 0),(.i .i64 0),(.sl 1 true []),(.sl 5 true []),(.sl 1 true []),(.sl 2 true []),(.b false),(.i .i64 0),(.b false),(.i .i64 0),(.b false),(.sl 5 true [])]),.re (.ld 108 (.t 9) 9 true),.re (.fa 109 (.t 4) 0 1),.re (.ld 110 (.t 109) 1 false),.op (.st (.t 17) (.t 112) 13 false),.op (.mv 18 (.t 113))])
 (.frz [17]))
 ((.seq (.seq (.drw [] [0,1,2,3,4,5,6,7,8,9,10,11] [.op (.call (some 115) nurserylaw16_object []),.op (.fad 116 (.t 17) 0 9),.op (.ldd 117 (.t 116) 9 true),.op (.fa 118 (.t 4) 0 1),.op (.ld 119 (.t 118) 1 false),.op (.call (some 120) mutex_Withdraw [(.t 115),(.t 117),(.t 119)]),.op (.mv 114 (.t 120)),.op (.ext 121 (.t 114) 0),.op (.ext 122 (.t 114) 1),.op (.new 19 [(.i .i64 0),(.i .i64 0),(.i .i64 0),(.sl 1 true []),(.sl 5 true []),(.sl 1 true []),(.sl 2 true []),(.b false),(.i .i64 0),(.b false),(.i .i64 0),(.b false),(.sl 5 true [])]),.re (.fa 118 (.t 4) 0 1),.re (.ld 119 (.t 118) 1 false),.op (.st (.t 19) (.t 121) 13 false),.op (.mv 20 (.t 122))])
 (.frz [19]))
 ((.seq (.reg [.op (.mv 123 (.t 18)),.op (.bin 124 .eql (.t 123) k0),.op (.mv 125 (.t 124)),.sc false 130 125 [.op (.fa 126 (.t 17) 0 9),.op (.ld 127 (.t 126) 9 true),.op (.ld 128 (.t 10) 9 true),.op (.call (some 129) q16_Same [(.t 127),(.t 128)])] (.t 129),.op (.mv 131 (.t 130)),.sc false 134 131 [.op (.mv 132 (.t 20)),.op (.bin 133 .eql (.t 132) (.k (.i .i64 7)))] (.t 133),.op (.mv 135 (.t 134)),.sc false 137 135 [.op (.call (some 136) nurserylaw16_awake [])] (.t 136),.op (.mv 6 (.t 137))])
 (.ret)))))))))))))))))))))
 [.t 6] false none
def F_mutex_New : F := .mk
 ((.seq (.reg [.op (.box 1 (.t 0) 4 true),.op (.new 2 zR),.op (.mv 3 k0)])
 ((.seq (.blk 0 ((.seq (.reg [.op (.fa 5 (.t 1) 1 1),.op (.ld 6 (.t 5) 1 false),.op (.bin 7 .neq (.t 6) (.k (.i .i64 1))),.op (.mv 4 (.t 7))])
 (.ite (.t 4)
 ((.seq (.reg [.op (.build 8 zR []),.op (.st (.t 2) (.t 8) 9 false),.op (.mv 3 (.k (.i .i64 8)))])
 (.ret)))
 ((.seq (.reg [.op (.fa 10 (.t 1) 2 1),.op (.ld 11 (.t 10) 1 false),.op (.bin 12 .neq (.t 11) k0),.op (.mv 13 (.t 12)),.sc true 17 13 [.op (.fa 14 (.t 1) 3 1),.op (.ld 15 (.t 14) 1 false),.op (.bin 16 .neq (.t 15) k0)] (.t 16),.op (.mv 9 (.t 17))])
 (.ite (.t 9)
 ((.seq (.reg [.op (.build 18 zR []),.op (.st (.t 2) (.t 18) 9 false),.op (.mv 3 (.k (.i .i64 2)))])
 (.ret)))
 (.skip))))))))
 ((.seq (.reg [.op (.build 19 zR [(0,1,(.k (.i .i64 (-1))))]),.op (.st (.t 2) (.t 19) 9 false),.op (.mv 3 k0)])
 (.ret)))))))
 [.c 2 9 true,.t 3] false none
def F_nurserylaw16_object : F := .mk
 ((.seq (.reg [.op (.new 0 [(.s []),(.i .i64 0),(.i .i64 0),(.i .i64 0)])])
 ((.seq (.reg [.op (.build 1 [(.s []),(.i .i64 0),(.i .i64 0),(.i .i64 0)] [(0,1,(.k (.s [109]))),(1,1,(.k (.i .i64 1)))]),.op (.st (.t 0) (.t 1) 4 false)])
 (.ret)))))
 [.c 0 4 true] false none
def F_nurserylaw16_awake_L0 : C :=
 (.seq (.reg [.op (.bin 20 .lss (.t 19) (.t 18))])
 ((.seq (.ite (.t 20)
 (.skip)
 (.seq (.keep [1,3]) (.exit 0)))
 ((.seq (.blk 1 ((.seq (.reg [.op (.mv 21 (.t 19)),.op (.ixs 22 (.t 17) (.t 19) 1),.op (.ld 23 (.t 22) 1 false),.op (.mv 4 (.t 21)),.op (.mv 5 (.t 23))])
 ((.seq (.seq (.drw [] [0,1,2,3,4,5,6,7,8,9,10,11] [.op (.call (some 25) nurserylaw16_object []),.op (.ld 26 (.t 1) 9 true),.op (.mv 27 (.t 4)),.op (.mv 28 (.t 5)),.op (.call (some 29) nurserylaw16_lock [(.t 27),(.t 28)]),.op (.call (some 30) mutex_Apply [(.t 25),(.t 26),(.t 29)]),.op (.mv 24 (.t 30)),.op (.ext 31 (.t 24) 0),.op (.ext 32 (.t 24) 1),.op (.new 6 [(.i .i64 0),(.i .i64 0),(.i .i64 0),(.sl 1 true []),(.sl 5 true []),(.sl 1 true []),(.sl 2 true []),(.b false),(.i .i64 0),(.b false),(.i .i64 0),(.b false),(.sl 5 true [])]),.re (.ld 26 (.t 1) 9 true),.op (.st (.t 6) (.t 31) 13 false),.op (.mv 7 (.t 32))])
 (.frz [6]))
 (.drw [] [0,1,2,3,4,5,6,7,8,9,10,11,12,13,14,15] [.op (.fad 33 (.t 6) 0 9),.op (.ldd 34 (.t 33) 9 true),.op (.mv 35 (.t 3)),.op (.mv 36 (.t 35)),.sc false 39 36 [.op (.mv 37 (.t 7)),.op (.bin 38 .eql (.t 37) k0)] (.t 38),.op (.mv 40 (.t 39)),.sc false 46 40 [.op (.fad 41 (.t 6) 9 1),.op (.ldd 42 (.t 41) 1 false),.op (.mv 43 (.t 4)),.op (.bin 44 .gtr (.t 43) k0),.op (.eqb 45 false (.t 42) (.t 44))] (.t 45),.op (.st (.t 1) (.t 34) 9 false),.op (.mv 3 (.t 46))]))))))
 (.reg [.op (.bin 47 .add (.t 19) (.k (.i .i64 1))),.op (.mv 19 (.t 47))]))))))
def F_nurserylaw16_awake : F := .mk
 ((.seq (.reg [.op (.mv 0 (.k (.b false)))])
 ((.seq (.reg [.op (.call (some 11) nurserylaw16_object []),.op (.call (some 12) mutex_New [(.t 11)]),.op (.mv 10 (.t 12)),.op (.ext 13 (.t 10) 0),.op (.ext 14 (.t 10) 1),.op (.new 1 zR),.op (.st (.t 1) (.t 13) 9 false),.op (.mv 2 (.t 14))])
 ((.seq (.reg [.op (.mv 15 (.t 2)),.op (.bin 16 .eql (.t 15) k0),.op (.mv 3 (.t 16))])
 ((.seq ((.seq (.reg [.op (.buildSl 17 1 4 [(.i .i64 0)] [(0,k0),(1,k0),(2,(.k (.i .i64 5))),(3,(.k (.i .i64 5)))] true),.op (.len 18 (.t 17) .sl),.op (.mv 19 k0)])
 (.blk 0 (.loop [1,3,17,18,19] F_nurserylaw16_awake_L0))))
 ((.seq (.seq (.drw [] [0,1,2,3,4,5,6,7,8,9] [.op (.call (some 49) nurserylaw16_object []),.op (.ld 50 (.t 1) 9 true),.op (.build 51 zQ [(0,1,k0),(1,1,(.k (.i .i64 52)))]),.op (.call (some 52) mutex_Apply [(.t 49),(.t 50),(.t 51)]),.op (.mv 48 (.t 52)),.op (.ext 53 (.t 48) 0),.op (.ext 54 (.t 48) 1),.op (.new 8 [(.i .i64 0),(.i .i64 0),(.i .i64 0),(.sl 1 true []),(.sl 5 true []),(.sl 1 true []),(.sl 2 true []),(.b false),(.i .i64 0),(.b false),(.i .i64 0),(.b false),(.sl 5 true [])]),.re (.ld 50 (.t 1) 9 true),.op (.st (.t 8) (.t 53) 13 false),.op (.mv 9 (.t 54))])
 (.frz [8]))
 ((.seq (.reg [.op (.mv 55 (.t 3)),.op (.mv 56 (.t 55)),.sc false 59 56 [.op (.mv 57 (.t 9)),.op (.bin 58 .eql (.t 57) k0)] (.t 58),.op (.mv 60 (.t 59)),.sc false 65 60 [.op (.fa 61 (.t 1) 4 1),.op (.ld 62 (.t 61) 1 false),.op (.len 63 (.t 62) .sl),.op (.bin 64 .eql (.t 63) (.k (.i .i64 3)))] (.t 64),.op (.mv 66 (.t 65)),.sc false 73 66 [.op (.fa 67 (.t 1) 4 1),.op (.ld 68 (.t 67) 1 false),.op (.ixs 69 (.t 68) k0 5),.op (.fa 70 (.t 69) 0 1),.op (.ld 71 (.t 70) 1 false),.op (.bin 72 .eql (.t 71) (.k (.i .i64 2)))] (.t 72),.op (.mv 74 (.t 73)),.sc false 81 74 [.op (.fa 75 (.t 1) 4 1),.op (.ld 76 (.t 75) 1 false),.op (.ixs 77 (.t 76) (.k (.i .i64 1)) 5),.op (.fa 78 (.t 77) 0 1),.op (.ld 79 (.t 78) 1 false),.op (.bin 80 .eql (.t 79) (.k (.i .i64 3)))] (.t 80),.op (.mv 82 (.t 81)),.sc false 89 82 [.op (.fa 83 (.t 1) 4 1),.op (.ld 84 (.t 83) 1 false),.op (.ixs 85 (.t 84) (.k (.i .i64 2)) 5),.op (.fa 86 (.t 85) 0 1),.op (.ld 87 (.t 86) 1 false),.op (.bin 88 .eql (.t 87) (.k (.i .i64 1)))] (.t 88),.op (.mv 90 (.t 89)),.sc false 95 90 [.op (.fa 91 (.t 8) 12 1),.op (.ld 92 (.t 91) 1 false),.op (.len 93 (.t 92) .sl),.op (.bin 94 .eql (.t 93) (.k (.i .i64 1)))] (.t 94),.op (.mv 96 (.t 95)),.sc false 103 96 [.op (.fa 97 (.t 8) 12 1),.op (.ld 98 (.t 97) 1 false),.op (.ixs 99 (.t 98) k0 5),.op (.ld 100 (.t 99) 5 true),.op (.build 101 [(.i .i64 0),(.i .i64 0),(.i .i64 0),(.b false),(.i .i64 0)] [(0,1,(.k (.i .i64 2))),(1,1,(.k (.i .i64 50))),(3,1,(.k (.b true))),(4,1,(.k (.i .i64 (-1))))]),.op (.eqv 102 false (.t 100) (.t 101) [.i,.i,.i,.b,.i])] (.t 102),.op (.mv 104 (.t 103)),.sc false 109 104 [.op (.fa 105 (.t 8) 0 9),.op (.fa 106 (.t 105) 0 1),.op (.ld 107 (.t 106) 1 false),.op (.bin 108 .eql (.t 107) (.k (.i .i64 2)))] (.t 108),.op (.mv 0 (.t 109))])
 (.ret)))))))))))))
 [.t 0] false none
def F_mutex_Apply : F := .mk
 ((.seq (.reg [.op (.box 3 (.t 0) 4 true),.op (.box 4 (.t 1) 9 true),.op (.box 5 (.t 2) 5 true),.op (.new 6 [(.i .i64 0),(.i .i64 0),(.i .i64 0),(.sl 1 true []),(.sl 5 true []),(.sl 1 true []),(.sl 2 true []),(.b false),(.i .i64 0),(.b false),(.i .i64 0),(.b false),(.sl 5 true [])]),.op (.mv 7 k0)])
 ((.seq ((.seq (.reg [.op (.ld 11 (.t 3) 4 true),.op (.ld 12 (.t 4) 9 true),.op (.call (some 13) mutex_Check [(.t 11),(.t 12)]),.op (.mv 8 (.t 13))])
 ((.seq (.reg [.op (.mv 14 (.t 8)),.op (.bin 15 .neq (.t 14) k0)])
 (.ite (.t 15)
 ((.seq (.reg [.op (.build 16 [(.i .i64 0),(.i .i64 0),(.i .i64 0),(.sl 1 true []),(.sl 5 true []),(.sl 1 true []),(.sl 2 true []),(.b false),(.i .i64 0),(.b false),(.i .i64 0),(.b false),(.sl 5 true [])] []),.op (.mv 17 (.t 8)),.op (.st (.t 6) (.t 16) 13 false),.op (.mv 7 (.t 17))])
 (.ret)))
 (.skip))))))
 ((.seq (.drw [] [1,2,0,3,4,5,6,7,8] [.op (.fad 20 (.t 5) 1 1),.op (.ldd 21 (.t 20) 1 false),.op (.callk (some 19) mutex_operations []),.op (.mget 22 (.t 19) (.t 21) .nilfn true [.i]),.op (.mv 18 (.t 22)),.op (.ext 23 (.t 18) 0),.op (.ext 24 (.t 18) 1),.op (.mv 9 (.t 23)),.op (.mv 10 (.t 24))])
 ((.seq (.blk 0 ((.seq (.reg [.op (.mv 26 (.t 10)),.op (.un 27 .not (.t 26)),.op (.mv 25 (.t 27))])
 (.ite (.t 25)
 ((.seq (.reg [.op (.build 28 [(.i .i64 0),(.i .i64 0),(.i .i64 0),(.sl 1 true []),(.sl 5 true []),(.sl 1 true []),(.sl 2 true []),(.b false),(.i .i64 0),(.b false),(.i .i64 0),(.b false),(.sl 5 true [])] []),.op (.st (.t 6) (.t 28) 13 false),.op (.mv 7 (.k (.i .i64 8)))])
 (.ret)))
 ((.seq (.reg [.op (.fa 30 (.t 5) 0 1),.op (.ld 31 (.t 30) 1 false),.op (.call (some 32) mutex_isTask [(.t 31)]),.op (.un 33 .not (.t 32)),.op (.mv 34 (.t 33)),.sc true 38 34 [.op (.fa 35 (.t 5) 3 1),.op (.ld 36 (.t 35) 1 false),.op (.bin 37 .lss (.t 36) k0)] (.t 37),.op (.mv 39 (.t 38)),.sc true 43 39 [.op (.fa 40 (.t 5) 3 1),.op (.ld 41 (.t 40) 1 false),.op (.bin 42 .gtr (.t 41) (.k (.i .i64 9)))] (.t 42),.op (.mv 29 (.t 43))])
 (.ite (.t 29)
 ((.seq (.reg [.op (.build 44 [(.i .i64 0),(.i .i64 0),(.i .i64 0),(.sl 1 true []),(.sl 5 true []),(.sl 1 true []),(.sl 2 true []),(.b false),(.i .i64 0),(.b false),(.i .i64 0),(.b false),(.sl 5 true [])] []),.op (.st (.t 6) (.t 44) 13 false),.op (.mv 7 (.k (.i .i64 2)))])
 (.ret)))
 ((.seq (.reg [.op (.ld 46 (.t 4) 9 true),.op (.fa 47 (.t 5) 0 1),.op (.ld 48 (.t 47) 1 false),.op (.call (some 49) mutex_waits [(.t 46),(.t 48)]),.op (.mv 45 (.t 49))])
 (.ite (.t 45)
 ((.seq (.reg [.op (.build 50 [(.i .i64 0),(.i .i64 0),(.i .i64 0),(.sl 1 true []),(.sl 5 true []),(.sl 1 true []),(.sl 2 true []),(.b false),(.i .i64 0),(.b false),(.i .i64 0),(.b false),(.sl 5 true [])] []),.op (.st (.t 6) (.t 50) 13 false),.op (.mv 7 (.k (.i .i64 17)))])
 (.ret)))
 (.skip)))))))))))
 ((.seq (.reg [.op (.mv 51 (.t 9)),.op (.ld 52 (.t 4) 9 true),.op (.ld 53 (.t 5) 5 true),.op (.callv (some 54) (.t 51) [(.t 52),(.t 53)]),.op (.ext 55 (.t 54) 0),.op (.ext 56 (.t 54) 1),.op (.st (.t 6) (.t 55) 13 false),.op (.mv 7 (.t 56))])
 (.ret)))))))))))
 [.c 6 13 true,.t 7] false none
def F_q16_Great_L0 : C :=
 (.seq ((.seq (.reg [.op (.mv 26 (.t 3)),.op (.fa 27 (.t 1) 6 1),.op (.ld 28 (.t 27) 1 false),.op (.len 29 (.t 28) .sl),.op (.bin 30 .lss (.t 26) (.t 29))])
 (.ite (.t 30)
 (.skip)
 (.seq (.keep []) (.exit 0)))))
 ((.seq (.blk 1 ((.seq (.reg [.op (.fa 33 (.t 1) 6 1),.op (.ld 34 (.t 33) 1 false),.op (.mv 35 (.t 3)),.op (.ixs 36 (.t 34) (.t 35) 2),.op (.fa 37 (.t 36) 1 1),.op (.ld 38 (.t 37) 1 false),.op (.len 39 (.t 38) .sl),.op (.bin 40 .gtr (.t 39) (.k (.i .i64 120)))])
 (.ite (.t 40)
 ((.seq (.reg [.op (.mv 2 (.k (.b true)))])
 (.seq (.keep [2]) .ret)))
 (.skip)))))
 (.reg [.op (.mv 31 (.t 3)),.op (.bin 32 .add (.t 31) (.k (.i .i64 1))),.op (.mv 3 (.t 32))]))))
def F_q16_Great : F := .mk
 ((.seq (.reg [.op (.box 1 (.t 0) 9 true),.op (.mv 2 (.k (.b false)))])
 ((.seq ((.seq (.reg [.op (.fa 4 (.t 1) 3 1),.op (.ld 5 (.t 4) 1 false),.op (.len 6 (.t 5) .sl),.op (.bin 7 .gtr (.t 6) (.k (.i .i64 40))),.op (.mv 8 (.t 7)),.sc true 13 8 [.op (.fa 9 (.t 1) 4 1),.op (.ld 10 (.t 9) 1 false),.op (.len 11 (.t 10) .sl),.op (.bin 12 .gtr (.t 11) (.k (.i .i64 40)))] (.t 12),.op (.mv 14 (.t 13)),.sc true 19 14 [.op (.fa 15 (.t 1) 5 1),.op (.ld 16 (.t 15) 1 false),.op (.len 17 (.t 16) .sl),.op (.bin 18 .gtr (.t 17) (.k (.i .i64 120)))] (.t 18),.op (.mv 20 (.t 19)),.sc true 25 20 [.op (.fa 21 (.t 1) 6 1),.op (.ld 22 (.t 21) 1 false),.op (.len 23 (.t 22) .sl),.op (.bin 24 .gtr (.t 23) (.k (.i .i64 40)))] (.t 24)])
 (.ite (.t 25)
 ((.seq (.reg [.op (.mv 2 (.k (.b true)))])
 (.ret)))
 (.skip))))
 ((.seq ((.seq (.reg [.op (.mv 3 k0)])
 (.blk 0 (.loop [1,3] F_q16_Great_L0))))
 ((.seq (.reg [.op (.mv 2 (.k (.b false)))])
 (.ret)))))))))
 [.t 2] false none
def F_mutex_Check : F := .mk
 ((.seq (.reg [.op (.box 2 (.t 0) 4 true),.op (.box 3 (.t 1) 9 true),.op (.mv 4 k0)])
 ((.seq ((.seq (.reg [.op (.ld 8 (.t 2) 4 true),.op (.call (some 9) mutex_New [(.t 8)]),.op (.mv 7 (.t 9)),.op (.ext 10 (.t 7) 0),.op (.ext 11 (.t 7) 1),.op (.new 5 zR),.op (.st (.t 5) (.t 10) 9 true),.op (.mv 6 (.t 11))])
 ((.seq (.reg [.op (.mv 12 (.t 6)),.op (.bin 13 .neq (.t 12) k0)])
 (.ite (.t 13)
 ((.seq (.reg [.op (.mv 14 (.t 6)),.op (.mv 4 (.t 14))])
 (.ret)))
 (.skip))))))
 ((.seq ((.seq (.reg [.op (.ld 15 (.t 3) 9 true),.op (.call (some 16) mutex_valid [(.t 15)]),.op (.un 17 .not (.t 16))])
 (.ite (.t 17)
 ((.seq (.reg [.op (.mv 4 (.k (.i .i64 1)))])
 (.ret)))
 (.skip))))
 ((.seq (.reg [.op (.mv 4 k0)])
 (.ret)))))))))
 [.t 4] false none
def F_q16_SameWaiters_L0 : C :=
 (.seq ((.seq (.reg [.op (.mv 11 (.t 5)),.op (.mv 12 (.t 0)),.op (.len 13 (.t 12) .sl),.op (.bin 14 .lss (.t 11) (.t 13))])
 (.ite (.t 14)
 (.skip)
 (.seq (.keep []) (.exit 0)))))
 ((.seq (.blk 1 ((.seq (.drw [] [0,1,2,3,4,5,6,7,8] [.op (.mv 17 (.t 0)),.op (.mv 18 (.t 5)),.op (.ixs 19 (.t 17) (.t 18) 5),.op (.ld 20 (.t 19) 5 true),.op (.mv 21 (.t 1)),.op (.mv 22 (.t 5)),.op (.ixs 23 (.t 21) (.t 22) 5),.op (.ld 24 (.t 23) 5 true),.op (.eqv 25 true (.t 20) (.t 24) [.i,.i,.i,.i,.i])])
 (.ite (.t 25)
 ((.seq (.reg [.op (.mv 4 (.k (.b false)))])
 (.seq (.keep [4]) .ret)))
 (.skip)))))
 (.reg [.op (.mv 15 (.t 5)),.op (.bin 16 .add (.t 15) (.k (.i .i64 1))),.op (.mv 5 (.t 16))]))))
def F_q16_SameWaiters : F := .mk
 ((.seq (.reg [.op (.mv 4 (.k (.b false)))])
 ((.seq ((.seq (.reg [.op (.mv 6 (.t 0)),.op (.len 7 (.t 6) .sl),.op (.mv 8 (.t 1)),.op (.len 9 (.t 8) .sl),.op (.bin 10 .neq (.t 7) (.t 9))])
 (.ite (.t 10)
 ((.seq (.reg [.op (.mv 4 (.k (.b false)))])
 (.ret)))
 (.skip))))
 ((.seq ((.seq (.reg [.op (.mv 5 k0)])
 (.blk 0 (.loop [0,1,5] F_q16_SameWaiters_L0))))
 ((.seq (.reg [.op (.mv 4 (.k (.b true)))])
 (.ret)))))))))
 [.t 4] false none
def F_q16_Same : F := .mk
 ((.seq (.reg [.op (.box 2 (.t 0) 9 true),.op (.box 3 (.t 1) 9 true),.op (.mv 4 (.k (.b false)))])
 ((.seq ((.seq (.reg [.op (.fa 5 (.t 2) 0 1),.op (.ld 6 (.t 5) 1 false),.op (.fa 7 (.t 3) 0 1),.op (.ld 8 (.t 7) 1 false),.op (.bin 9 .neq (.t 6) (.t 8)),.op (.mv 10 (.t 9)),.sc true 16 10 [.op (.fa 11 (.t 2) 1 1),.op (.ld 12 (.t 11) 1 false),.op (.fa 13 (.t 3) 1 1),.op (.ld 14 (.t 13) 1 false),.op (.bin 15 .neq (.t 12) (.t 14))] (.t 15),.op (.mv 17 (.t 16)),.sc true 23 17 [.op (.fa 18 (.t 2) 2 1),.op (.ld 19 (.t 18) 1 false),.op (.fa 20 (.t 3) 2 1),.op (.ld 21 (.t 20) 1 false),.op (.bin 22 .neq (.t 19) (.t 21))] (.t 22),.op (.mv 24 (.t 23)),.sc true 30 24 [.op (.fa 25 (.t 2) 7 1),.op (.ld 26 (.t 25) 1 false),.op (.fa 27 (.t 3) 7 1),.op (.ld 28 (.t 27) 1 false),.op (.eqb 29 true (.t 26) (.t 28))] (.t 29),.op (.mv 31 (.t 30)),.sc true 37 31 [.op (.fa 32 (.t 2) 8 1),.op (.ld 33 (.t 32) 1 false),.op (.fa 34 (.t 3) 8 1),.op (.ld 35 (.t 34) 1 false),.op (.bin 36 .neq (.t 33) (.t 35))] (.t 36)])
 (.ite (.t 37)
 ((.seq (.reg [.op (.mv 4 (.k (.b false)))])
 (.ret)))
 (.skip))))
 ((.seq (.reg [.op (.fa 38 (.t 2) 3 1),.op (.ld 39 (.t 38) 1 false),.op (.fa 40 (.t 3) 3 1),.op (.ld 41 (.t 40) 1 false),.op (.call (some 42) q04_SameInts [(.t 39),(.t 41)]),.op (.mv 43 (.t 42)),.sc false 49 43 [.op (.fa 44 (.t 2) 5 1),.op (.ld 45 (.t 44) 1 false),.op (.fa 46 (.t 3) 5 1),.op (.ld 47 (.t 46) 1 false),.op (.call (some 48) q04_SameInts [(.t 45),(.t 47)])] (.t 48),.op (.mv 50 (.t 49)),.sc false 56 50 [.op (.fa 51 (.t 2) 4 1),.op (.ld 52 (.t 51) 1 false),.op (.fa 53 (.t 3) 4 1),.op (.ld 54 (.t 53) 1 false),.op (.call (some 55) q16_SameWaiters [(.t 52),(.t 54)])] (.t 55),.op (.mv 57 (.t 56)),.sc false 63 57 [.op (.fa 58 (.t 2) 6 1),.op (.ld 59 (.t 58) 1 false),.op (.fa 60 (.t 3) 6 1),.op (.ld 61 (.t 60) 1 false),.op (.call (some 62) q16_sameCursors [(.t 59),(.t 61)])] (.t 62),.op (.mv 4 (.t 63))])
 (.ret)))))))
 [.t 4] false none
def F_q04_SameInts_L0 : C :=
 (.seq ((.seq (.reg [.op (.mv 11 (.t 5)),.op (.mv 12 (.t 0)),.op (.len 13 (.t 12) .sl),.op (.bin 14 .lss (.t 11) (.t 13))])
 (.ite (.t 14)
 (.skip)
 (.seq (.keep []) (.exit 0)))))
 ((.seq (.blk 1 ((.seq (.drw [] [0,1,2,3,4,5,6,7,8] [.op (.mv 17 (.t 0)),.op (.mv 18 (.t 5)),.op (.ixs 19 (.t 17) (.t 18) 1),.op (.ld 20 (.t 19) 1 false),.op (.mv 21 (.t 1)),.op (.mv 22 (.t 5)),.op (.ixs 23 (.t 21) (.t 22) 1),.op (.ld 24 (.t 23) 1 false),.op (.bin 25 .neq (.t 20) (.t 24))])
 (.ite (.t 25)
 ((.seq (.reg [.op (.mv 4 (.k (.b false)))])
 (.seq (.keep [4]) .ret)))
 (.skip)))))
 (.reg [.op (.mv 15 (.t 5)),.op (.bin 16 .add (.t 15) (.k (.i .i64 1))),.op (.mv 5 (.t 16))]))))
def F_q04_SameInts : F := .mk
 ((.seq (.reg [.op (.mv 4 (.k (.b false)))])
 ((.seq ((.seq (.reg [.op (.mv 6 (.t 0)),.op (.len 7 (.t 6) .sl),.op (.mv 8 (.t 1)),.op (.len 9 (.t 8) .sl),.op (.bin 10 .neq (.t 7) (.t 9))])
 (.ite (.t 10)
 ((.seq (.reg [.op (.mv 4 (.k (.b false)))])
 (.ret)))
 (.skip))))
 ((.seq ((.seq (.reg [.op (.mv 5 k0)])
 (.blk 0 (.loop [0,1,5] F_q04_SameInts_L0))))
 ((.seq (.reg [.op (.mv 4 (.k (.b true)))])
 (.ret)))))))))
 [.t 4] false none
def F_mutex_Withdraw : F := .mk
 ((.seq (.reg [.op (.box 3 (.t 0) 4 true),.op (.box 4 (.t 1) 9 false),.op (.new 6 [(.i .i64 0),(.i .i64 0),(.i .i64 0),(.sl 1 true []),(.sl 5 true []),(.sl 1 true []),(.sl 2 true []),(.b false),(.i .i64 0),(.b false),(.i .i64 0),(.b false),(.sl 5 true [])]),.op (.mv 7 k0)])
 ((.seq ((.seq (.reg [.op (.ld 9 (.t 3) 4 true),.op (.ld 10 (.t 4) 9 true),.op (.call (some 11) mutex_Check [(.t 9),(.t 10)]),.op (.mv 8 (.t 11))])
 ((.seq (.reg [.op (.mv 12 (.t 8)),.op (.bin 13 .neq (.t 12) k0)])
 (.ite (.t 13)
 ((.seq (.reg [.op (.build 14 [(.i .i64 0),(.i .i64 0),(.i .i64 0),(.sl 1 true []),(.sl 5 true []),(.sl 1 true []),(.sl 2 true []),(.b false),(.i .i64 0),(.b false),(.i .i64 0),(.b false),(.sl 5 true [])] []),.op (.mv 15 (.t 8)),.op (.st (.t 6) (.t 14) 13 false),.op (.mv 7 (.t 15))])
 (.ret)))
 (.skip))))))
 ((.seq ((.seq (.reg [.op (.ld 16 (.t 4) 9 true),.op (.mv 17 (.t 2)),.op (.call (some 18) mutex_waits [(.t 16),(.t 17)]),.op (.un 19 .not (.t 18))])
 (.ite (.t 19)
 ((.seq (.reg [.op (.build 20 [(.i .i64 0),(.i .i64 0),(.i .i64 0),(.sl 1 true []),(.sl 5 true []),(.sl 1 true []),(.sl 2 true []),(.b false),(.i .i64 0),(.b false),(.i .i64 0),(.b false),(.sl 5 true [])] []),.op (.st (.t 6) (.t 20) 13 false),.op (.mv 7 (.k (.i .i64 7)))])
 (.ret)))
 (.skip))))
 ((.seq (.reg [.op (.fa 21 (.t 4) 4 1),.op (.ld 22 (.t 21) 1 false),.op (.mv 23 (.t 2)),.op (.call (some 24) waitlist_Remove [(.t 22),(.t 23)]),.op (.fa 25 (.t 4) 4 1),.op (.st (.t 25) (.t 24) 1 false)])
 ((.seq (.reg [.op (.ld 26 (.t 4) 9 true),.op (.build 27 [(.i .i64 0),(.i .i64 0),(.i .i64 0),(.sl 1 true []),(.sl 5 true []),(.sl 1 true []),(.sl 2 true []),(.b false),(.i .i64 0),(.b false),(.i .i64 0),(.b false),(.sl 5 true [])] [(0,9,(.t 26))]),.op (.st (.t 6) (.t 27) 13 false),.op (.mv 7 k0)])
 (.ret)))))))))))
 [.c 6 13 true,.t 7] false none
def F_nurserylaw16_lock : F := .mk
 ((.seq (.reg [.op (.new 4 zQ)])
 ((.seq (.reg [.op (.mv 5 (.t 0)),.op (.mv 6 (.t 1)),.op (.build 7 zQ [(0,1,(.t 5)),(1,1,(.k (.i .i64 50))),(3,1,(.t 6))]),.op (.st (.t 4) (.t 7) 5 false)])
 (.ret)))))
 [.c 4 5 true] false none
def F_mutex_operations : F := .mk
 ((.seq (.reg [.op (.mv 0 (.k .nilmap))])
 ((.seq (.reg [.op (.mkm 1),.op (.mput (.t 1) (.k (.i .i64 50)) (.k (.fn mutex_lock [] [])) [.i]),.op (.mput (.t 1) (.k (.i .i64 51)) (.k (.fn mutex_operationsC1 [] [])) [.i]),.op (.mput (.t 1) (.k (.i .i64 52)) (.k (.fn mutex_unlock [] [])) [.i]),.op (.mv 2 (.t 1)),.op (.mv 0 (.t 2))])
 (.ret)))))
 [.t 0] true none
def F_mutex_isTask : F := .mk
 ((.seq (.reg [.op (.mv 2 (.k (.b false)))])
 ((.seq (.reg [.op (.mv 3 (.t 0)),.op (.bin 4 .geq (.t 3) k0),.op (.mv 5 (.t 4)),.sc false 8 5 [.op (.mv 6 (.t 0)),.op (.bin 7 .lss (.t 6) (.k (.i .i64 16)))] (.t 7),.op (.mv 2 (.t 8))])
 (.ret)))))
 [.t 2] false none
def F_mutex_waits : F := .mk
 ((.seq (.reg [.op (.box 2 (.t 0) 9 true),.op (.box 3 (.t 1) 1 true),.op (.mv 4 (.k (.b false)))])
 ((.seq (.reg [.op (.fa 5 (.t 2) 4 1),.op (.ld 6 (.t 5) 1 false),.op (.mkf 7 mutex_waitsC1 [] [(.t 3)]),.op (.call (some 8) slices_ContainsFunc_api_Waiter_api_Waiter [(.t 6),(.t 7)]),.op (.mv 4 (.t 8))])
 (.ret)))))
 [.t 4] false none
def F_mutex_valid_L0 : C :=
 (.seq (.reg [.op (.bin 64 .lss (.t 63) (.t 62))])
 ((.seq (.ite (.t 64)
 (.skip)
 (.seq (.keep []) (.exit 0)))
 ((.seq (.blk 1 ((.seq (.reg [.op (.mv 65 (.t 63)),.op (.ixs 66 (.t 61) (.t 63) 5),.op (.ld 67 (.t 66) 5 true),.op (.new 4 zQ),.op (.mv 3 (.t 65)),.op (.st (.t 4) (.t 67) 5 true)])
 ((.seq ((.seq (.reg [.op (.fa 68 (.t 4) 1 1),.op (.ld 69 (.t 68) 1 false),.op (.bin 70 .neq (.t 69) (.k (.i .i64 50))),.op (.mv 71 (.t 70)),.sc true 75 71 [.op (.fa 72 (.t 4) 2 1),.op (.ld 73 (.t 72) 1 false),.op (.bin 74 .neq (.t 73) k0)] (.t 74),.op (.mv 76 (.t 75)),.sc true 80 76 [.op (.fa 77 (.t 4) 4 1),.op (.ld 78 (.t 77) 1 false),.op (.bin 79 .neq (.t 78) (.k (.i .i64 (-1))))] (.t 79),.op (.mv 81 (.t 80)),.sc true 87 81 [.op (.fa 82 (.t 4) 0 1),.op (.ld 83 (.t 82) 1 false),.op (.fa 84 (.t 1) 0 1),.op (.ld 85 (.t 84) 1 false),.op (.bin 86 .eql (.t 83) (.t 85))] (.t 86)])
 (.ite (.t 87)
 ((.seq (.reg [.op (.mv 2 (.k (.b false)))])
 (.seq (.keep [2]) .ret)))
 (.skip))))
 ((.seq (.reg [.op (.fa 88 (.t 1) 4 1),.op (.ld 89 (.t 88) 1 false),.op (.mv 90 (.t 3)),.op (.sl 91 (.t 89) none (some (.t 90)) 5),.op (.mkf 92 mutex_validC1 [] [(.t 4)]),.op (.call (some 93) slices_ContainsFunc_api_Waiter_api_Waiter [(.t 91),(.t 92)])])
 (.ite (.t 93)
 ((.seq (.reg [.op (.mv 2 (.k (.b false)))])
 (.seq (.keep [2]) .ret)))
 (.skip)))))))))
 (.reg [.op (.bin 94 .add (.t 63) (.k (.i .i64 1))),.op (.mv 63 (.t 94))]))))))
def F_mutex_valid : F := .mk
 ((.seq (.reg [.op (.box 1 (.t 0) 9 true),.op (.mv 2 (.k (.b false)))])
 ((.seq ((.seq (.reg [.op (.fa 5 (.t 1) 0 1),.op (.ld 6 (.t 5) 1 false),.op (.bin 7 .neq (.t 6) (.k (.i .i64 (-1)))),.op (.mv 8 (.t 7)),.sc false 13 8 [.op (.fa 9 (.t 1) 0 1),.op (.ld 10 (.t 9) 1 false),.op (.call (some 11) mutex_isTask [(.t 10)]),.op (.un 12 .not (.t 11))] (.t 12),.op (.mv 14 (.t 13)),.sc true 24 14 [.op (.fa 15 (.t 1) 0 1),.op (.ld 16 (.t 15) 1 false),.op (.bin 17 .eql (.t 16) (.k (.i .i64 (-1)))),.op (.mv 18 (.t 17)),.sc false 23 18 [.op (.fa 19 (.t 1) 4 1),.op (.ld 20 (.t 19) 1 false),.op (.len 21 (.t 20) .sl),.op (.bin 22 .gtr (.t 21) k0)] (.t 22)] (.t 23)])
 (.ite (.t 24)
 ((.seq (.reg [.op (.mv 2 (.k (.b false)))])
 (.ret)))
 (.skip))))
 ((.seq ((.seq (.reg [.op (.fa 25 (.t 1) 1 1),.op (.ld 26 (.t 25) 1 false),.op (.bin 27 .neq (.t 26) k0),.op (.mv 28 (.t 27)),.sc true 32 28 [.op (.fa 29 (.t 1) 2 1),.op (.ld 30 (.t 29) 1 false),.op (.bin 31 .neq (.t 30) k0)] (.t 31),.op (.mv 33 (.t 32)),.sc true 37 33 [.op (.fa 34 (.t 1) 8 1),.op (.ld 35 (.t 34) 1 false),.op (.bin 36 .neq (.t 35) k0)] (.t 36),.op (.mv 38 (.t 37)),.sc true 41 38 [.op (.fa 39 (.t 1) 7 1),.op (.ld 40 (.t 39) 1 false)] (.t 40),.op (.mv 42 (.t 41)),.sc true 55 42 [.op (.fa 43 (.t 1) 3 1),.op (.ld 44 (.t 43) 1 false),.op (.len 45 (.t 44) .sl),.op (.fa 46 (.t 1) 5 1),.op (.ld 47 (.t 46) 1 false),.op (.len 48 (.t 47) .sl),.op (.bin 49 .add (.t 45) (.t 48)),.op (.fa 50 (.t 1) 6 1),.op (.ld 51 (.t 50) 1 false),.op (.len 52 (.t 51) .sl),.op (.bin 53 .add (.t 49) (.t 52)),.op (.bin 54 .gtr (.t 53) k0)] (.t 54)])
 (.ite (.t 55)
 ((.seq (.reg [.op (.mv 2 (.k (.b false)))])
 (.ret)))
 (.skip))))
 ((.seq ((.seq (.reg [.op (.fa 56 (.t 1) 4 1),.op (.ld 57 (.t 56) 1 false),.op (.call (some 58) waitlist_Check [(.k (.i .i64 2)),(.t 57)]),.op (.bin 59 .neq (.t 58) k0)])
 (.ite (.t 59)
 ((.seq (.reg [.op (.mv 2 (.k (.b false)))])
 (.ret)))
 (.skip))))
 ((.seq ((.seq (.reg [.op (.fa 60 (.t 1) 4 1),.op (.ld 61 (.t 60) 1 false),.op (.len 62 (.t 61) .sl),.op (.mv 63 k0)])
 (.blk 0 (.loop [1,61,62,63] F_mutex_valid_L0))))
 ((.seq (.reg [.op (.mv 2 (.k (.b true)))])
 (.ret)))))))))))))
 [.t 2] false none
def F_q16_sameCursors_L0 : C :=
 (.seq ((.seq (.reg [.op (.mv 11 (.t 5)),.op (.mv 12 (.t 0)),.op (.len 13 (.t 12) .sl),.op (.bin 14 .lss (.t 11) (.t 13))])
 (.ite (.t 14)
 (.skip)
 (.seq (.keep []) (.exit 0)))))
 ((.seq (.blk 1 ((.seq (.drw [] [0,1,2,3,4,5,6,7,8,9,10,11,12,13,14,15,16,17,18,19,20,21,22,23,24] [.op (.mv 17 (.t 0)),.op (.mv 18 (.t 5)),.op (.ixs 19 (.t 17) (.t 18) 2),.op (.fa 20 (.t 19) 0 1),.op (.ld 21 (.t 20) 1 false),.op (.mv 22 (.t 1)),.op (.mv 23 (.t 5)),.op (.ixs 24 (.t 22) (.t 23) 2),.op (.fa 25 (.t 24) 0 1),.op (.ld 26 (.t 25) 1 false),.op (.bin 27 .neq (.t 21) (.t 26)),.op (.mv 28 (.t 27)),.sc true 41 28 [.op (.mv 29 (.t 0)),.op (.mv 30 (.t 5)),.op (.ixs 31 (.t 29) (.t 30) 2),.op (.fa 32 (.t 31) 1 1),.op (.ld 33 (.t 32) 1 false),.op (.mv 34 (.t 1)),.op (.mv 35 (.t 5)),.op (.ixs 36 (.t 34) (.t 35) 2),.op (.fa 37 (.t 36) 1 1),.op (.ld 38 (.t 37) 1 false),.op (.call (some 39) q04_SameInts [(.t 33),(.t 38)]),.op (.un 40 .not (.t 39))] (.t 40)])
 (.ite (.t 41)
 ((.seq (.reg [.op (.mv 4 (.k (.b false)))])
 (.seq (.keep [4]) .ret)))
 (.skip)))))
 (.reg [.op (.mv 15 (.t 5)),.op (.bin 16 .add (.t 15) (.k (.i .i64 1))),.op (.mv 5 (.t 16))]))))
def F_q16_sameCursors : F := .mk
 ((.seq (.reg [.op (.mv 4 (.k (.b false)))])
 ((.seq ((.seq (.reg [.op (.mv 6 (.t 0)),.op (.len 7 (.t 6) .sl),.op (.mv 8 (.t 1)),.op (.len 9 (.t 8) .sl),.op (.bin 10 .neq (.t 7) (.t 9))])
 (.ite (.t 10)
 ((.seq (.reg [.op (.mv 4 (.k (.b false)))])
 (.ret)))
 (.skip))))
 ((.seq ((.seq (.reg [.op (.mv 5 k0)])
 (.blk 0 (.loop [0,1,5] F_q16_sameCursors_L0))))
 ((.seq (.reg [.op (.mv 4 (.k (.b true)))])
 (.ret)))))))))
 [.t 4] false none
def F_waitlist_Remove : F := .mk
 ((.seq (.reg [.op (.box 3 (.t 1) 1 true),.op (.mv 4 (.k (.sl 5 true [])))])
 ((.seq (.reg [.op (.mv 5 (.t 0)),.op (.mkf 6 waitlist_RemoveC1 [] [(.t 3)]),.op (.call (some 7) waitlist_filter [(.t 5),(.t 6)]),.op (.mv 4 (.t 7))])
 (.ret)))))
 [.t 4] false none
def F_mutex_lock : F := .mk
 ((.seq (.reg [.op (.box 2 (.t 0) 9 false),.op (.box 3 (.t 1) 5 true),.op (.new 4 [(.i .i64 0),(.i .i64 0),(.i .i64 0),(.sl 1 true []),(.sl 5 true []),(.sl 1 true []),(.sl 2 true []),(.b false),(.i .i64 0),(.b false),(.i .i64 0),(.b false),(.sl 5 true [])]),.op (.mv 5 k0)])
 ((.seq ((.seq (.reg [.op (.fa 9 (.t 2) 0 1),.op (.ld 10 (.t 9) 1 false)])
 (.blk 0 ((.seq (.reg [.op (.bin 12 .eql (.t 10) (.k (.i .i64 (-1)))),.op (.mv 11 (.t 12))])
 (.ite (.t 11)
 ((.seq (.reg [.op (.fa 13 (.t 3) 0 1),.op (.ld 14 (.t 13) 1 false),.op (.fa 15 (.t 2) 0 1),.op (.st (.t 15) (.t 14) 1 false)])
 ((.seq (.reg [.op (.ld 16 (.t 2) 9 true),.op (.build 17 [(.i .i64 0),(.i .i64 0),(.i .i64 0),(.sl 1 true []),(.sl 5 true []),(.sl 1 true []),(.sl 2 true []),(.b false),(.i .i64 0),(.b false),(.i .i64 0),(.b false),(.sl 5 true [])] [(0,9,(.t 16)),(11,1,(.k (.b true)))]),.op (.st (.t 4) (.t 17) 13 false),.op (.mv 5 k0)])
 (.ret)))))
 ((.seq (.reg [.op (.fa 19 (.t 3) 0 1),.op (.ld 20 (.t 19) 1 false),.op (.bin 21 .eql (.t 10) (.t 20)),.op (.mv 18 (.t 21))])
 (.ite (.t 18)
 ((.seq (.reg [.op (.build 22 [(.i .i64 0),(.i .i64 0),(.i .i64 0),(.sl 1 true []),(.sl 5 true []),(.sl 1 true []),(.sl 2 true []),(.b false),(.i .i64 0),(.b false),(.i .i64 0),(.b false),(.sl 5 true [])] []),.op (.st (.t 4) (.t 22) 13 false),.op (.mv 5 (.k (.i .i64 17)))])
 (.ret)))
 (.skip))))))))))
 ((.seq (.reg [.op (.fa 24 (.t 2) 4 1),.op (.ld 25 (.t 24) 1 false),.op (.fa 26 (.t 3) 3 1),.op (.ld 27 (.t 26) 1 false),.op (.call (some 28) slices_BinarySearchFunc_api_Waiter_api_Waiter_int [(.t 25),(.t 27),(.k (.fn mutex_lockC1 [] []))]),.op (.mv 23 (.t 28)),.op (.ext 29 (.t 23) 0),.op (.ext 30 (.t 23) 1),.op (.mv 6 (.t 29)),.op (.mv 7 (.t 30))])
 ((.seq (.reg [.op (.fa 31 (.t 3) 0 1),.op (.ld 32 (.t 31) 1 false),.op (.fa 33 (.t 3) 3 1),.op (.ld 34 (.t 33) 1 false),.op (.build 35 zQ [(0,1,(.t 32)),(1,1,(.k (.i .i64 50))),(3,1,(.t 34)),(4,1,(.k (.i .i64 (-1))))]),.op (.new 8 zQ),.op (.st (.t 8) (.t 35) 5 true)])
 ((.seq (.drw [] [0,1,3,4,5,2,6,7,8] [.op (.fa 36 (.t 2) 4 1),.op (.ld 37 (.t 36) 1 false),.op (.mv 39 (.t 6)),.op (.ldd 40 (.t 8) 5 true),.op (.buildSl 41 5 1 zQ [(0,(.t 40))] true),.op (.callk (some 38) slices_Clone_api_Waiter_api_Waiter [(.t 37)]),.op (.callr (some 42) slices_Insert_api_Waiter_api_Waiter [(.t 38),(.t 39),(.t 41)]),.op (.fa 43 (.t 2) 4 1),.op (.st (.t 43) (.t 42) 1 false)])
 ((.seq (.reg [.op (.ld 44 (.t 2) 9 true),.op (.build 45 [(.i .i64 0),(.i .i64 0),(.i .i64 0),(.sl 1 true []),(.sl 5 true []),(.sl 1 true []),(.sl 2 true []),(.b false),(.i .i64 0),(.b false),(.i .i64 0),(.b false),(.sl 5 true [])] [(0,9,(.t 44)),(9,1,(.k (.b true)))]),.op (.st (.t 4) (.t 45) 13 false),.op (.mv 5 k0)])
 (.ret)))))))))))))
 [.c 4 13 true,.t 5] false none
def F_mutex_operationsC1 : F := .mk
 ((.seq (.reg [.op (.box 2 (.t 0) 9 true),.op (.box 3 (.t 1) 5 true),.op (.new 4 [(.i .i64 0),(.i .i64 0),(.i .i64 0),(.sl 1 true []),(.sl 5 true []),(.sl 1 true []),(.sl 2 true []),(.b false),(.i .i64 0),(.b false),(.i .i64 0),(.b false),(.sl 5 true [])]),.op (.mv 5 k0)])
 ((.seq ((.seq (.reg [.op (.fa 6 (.t 2) 0 1),.op (.ld 7 (.t 6) 1 false),.op (.bin 8 .geq (.t 7) k0)])
 (.ite (.t 8)
 ((.seq (.reg [.op (.ld 9 (.t 2) 9 true),.op (.build 10 [(.i .i64 0),(.i .i64 0),(.i .i64 0),(.sl 1 true []),(.sl 5 true []),(.sl 1 true []),(.sl 2 true []),(.b false),(.i .i64 0),(.b false),(.i .i64 0),(.b false),(.sl 5 true [])] [(0,9,(.t 9))]),.op (.st (.t 4) (.t 10) 13 false),.op (.mv 5 k0)])
 (.ret)))
 (.skip))))
 ((.seq (.reg [.op (.ld 11 (.t 2) 9 true),.op (.ld 12 (.t 3) 5 true),.op (.call (some 13) mutex_lock [(.t 11),(.t 12)]),.op (.ext 14 (.t 13) 0),.op (.ext 15 (.t 13) 1),.op (.st (.t 4) (.t 14) 13 false),.op (.mv 5 (.t 15))])
 (.ret)))))))
 [.c 4 13 true,.t 5] false none
def F_mutex_unlock : F := .mk
 ((.seq (.reg [.op (.box 2 (.t 0) 9 false),.op (.box 3 (.t 1) 5 true),.op (.new 4 [(.i .i64 0),(.i .i64 0),(.i .i64 0),(.sl 1 true []),(.sl 5 true []),(.sl 1 true []),(.sl 2 true []),(.b false),(.i .i64 0),(.b false),(.i .i64 0),(.b false),(.sl 5 true [])]),.op (.mv 5 k0)])
 ((.seq ((.seq (.reg [.op (.fa 6 (.t 2) 0 1),.op (.ld 7 (.t 6) 1 false),.op (.fa 8 (.t 3) 0 1),.op (.ld 9 (.t 8) 1 false),.op (.bin 10 .neq (.t 7) (.t 9))])
 (.ite (.t 10)
 ((.seq (.reg [.op (.build 11 [(.i .i64 0),(.i .i64 0),(.i .i64 0),(.sl 1 true []),(.sl 5 true []),(.sl 1 true []),(.sl 2 true []),(.b false),(.i .i64 0),(.b false),(.i .i64 0),(.b false),(.sl 5 true [])] []),.op (.st (.t 4) (.t 11) 13 false),.op (.mv 5 (.k (.i .i64 20)))])
 (.ret)))
 (.skip))))
 ((.seq ((.seq (.reg [.op (.fa 12 (.t 2) 4 1),.op (.ld 13 (.t 12) 1 false),.op (.len 14 (.t 13) .sl),.op (.bin 15 .eql (.t 14) k0)])
 (.ite (.t 15)
 ((.seq (.reg [.op (.fa 16 (.t 2) 0 1),.op (.st (.t 16) (.k (.i .i64 (-1))) 1 false)])
 ((.seq (.reg [.op (.ld 17 (.t 2) 9 true),.op (.build 18 [(.i .i64 0),(.i .i64 0),(.i .i64 0),(.sl 1 true []),(.sl 5 true []),(.sl 1 true []),(.sl 2 true []),(.b false),(.i .i64 0),(.b false),(.i .i64 0),(.b false),(.sl 5 true [])] [(0,9,(.t 17)),(11,1,(.k (.b true)))]),.op (.st (.t 4) (.t 18) 13 false),.op (.mv 5 k0)])
 (.ret)))))
 (.skip))))
 ((.seq (.reg [.op (.fa 19 (.t 2) 4 1),.op (.ld 20 (.t 19) 1 false),.op (.ixs 21 (.t 20) k0 5),.op (.fa 22 (.t 21) 0 1),.op (.ld 23 (.t 22) 1 false),.op (.fa 24 (.t 2) 0 1),.op (.st (.t 24) (.t 23) 1 false)])
 ((.seq (.reg [.op (.fa 25 (.t 2) 4 1),.op (.ld 26 (.t 25) 1 false),.op (.sl 27 (.t 26) (some (.k (.i .i64 1))) none 5),.op (.callk (some 28) slices_Clone_api_Waiter_api_Waiter [(.t 27)]),.op (.fa 29 (.t 2) 4 1),.op (.st (.t 29) (.t 28) 1 false)])
 ((.seq (.reg [.op (.ld 30 (.t 2) 9 true),.op (.fa 31 (.t 2) 0 1),.op (.ld 32 (.t 31) 1 false),.op (.build 33 [(.i .i64 0),(.i .i64 0),(.i .i64 0),(.b false),(.i .i64 0)] [(0,1,(.t 32)),(1,1,(.k (.i .i64 50))),(3,1,(.k (.b true))),(4,1,(.k (.i .i64 (-1))))]),.op (.buildSl 34 5 1 [(.i .i64 0),(.i .i64 0),(.i .i64 0),(.b false),(.i .i64 0)] [(0,(.t 33))] true),.op (.build 35 [(.i .i64 0),(.i .i64 0),(.i .i64 0),(.sl 1 true []),(.sl 5 true []),(.sl 1 true []),(.sl 2 true []),(.b false),(.i .i64 0),(.b false),(.i .i64 0),(.b false),(.sl 5 true [])] [(0,9,(.t 30)),(11,1,(.k (.b true))),(12,1,(.t 34))]),.op (.st (.t 4) (.t 35) 13 false),.op (.mv 5 k0)])
 (.ret)))))))))))))
 [.c 4 13 true,.t 5] false none
def F_slices_ContainsFunc_api_Waiter_api_Waiter : F := .mk
 ((.seq (.reg [.op (.mv 4 (.k (.b false)))])
 ((.seq (.reg [.op (.mv 5 (.t 0)),.op (.mv 6 (.t 1)),.op (.call (some 7) slices_IndexFunc_api_Waiter_api_Waiter [(.t 5),(.t 6)]),.op (.bin 8 .geq (.t 7) k0),.op (.mv 4 (.t 8))])
 (.ret)))))
 [.t 4] false none
def F_mutex_waitsC1 : F := .mk
 ((.seq (.reg [.op (.box 2 (.t 0) 5 true),.op (.mv 3 (.k (.b false)))])
 ((.seq (.reg [.op (.fa 4 (.t 2) 0 1),.op (.ld 5 (.t 4) 1 false),.op (.ld 6 (.t 1) 1 false),.op (.bin 7 .eql (.t 5) (.t 6)),.op (.mv 3 (.t 7))])
 (.ret)))))
 [.t 3] false none
def F_waitlist_Check_L0 : C :=
 (.seq (.reg [.op (.bin 19 .lss (.t 18) (.t 17))])
 ((.seq (.ite (.t 19)
 (.skip)
 (.seq (.keep []) (.exit 0)))
 ((.seq (.blk 1 ((.seq (.reg [.op (.mv 20 (.t 18)),.op (.ixs 21 (.t 16) (.t 18) 5),.op (.ld 22 (.t 21) 5 true),.op (.new 6 zQ),.op (.mv 5 (.t 20)),.op (.st (.t 6) (.t 22) 5 true)])
 ((.seq ((.seq (.reg [.op (.ld 23 (.t 6) 5 true),.op (.call (some 24) waitlist_valid [(.t 23)]),.op (.un 25 .not (.t 24))])
 (.ite (.t 25)
 ((.seq (.reg [.op (.mv 4 (.k (.i .i64 2)))])
 (.seq (.keep [4]) .ret)))
 (.skip))))
 ((.seq (.drw [] [0,1,2,3,4,5,6,7,8,9,10,11,12,13,14,15,16] [.op (.mv 26 (.t 0)),.op (.bin 27 .eql (.t 26) (.k (.i .i64 2))),.op (.mv 28 (.t 27)),.sc false 31 28 [.op (.mv 29 (.t 5)),.op (.bin 30 .gtr (.t 29) k0)] (.t 30),.op (.mv 32 (.t 31)),.sc false 42 32 [.op (.fad 33 (.t 6) 3 1),.op (.ldd 34 (.t 33) 1 false),.op (.mv 35 (.t 1)),.op (.mv 36 (.t 5)),.op (.bin 37 .sub (.t 36) (.k (.i .i64 1))),.op (.ixs 38 (.t 35) (.t 37) 5),.op (.fa 39 (.t 38) 3 1),.op (.ld 40 (.t 39) 1 false),.op (.bin 41 .gtr (.t 34) (.t 40))] (.t 41)])
 (.ite (.t 42)
 ((.seq (.reg [.op (.mv 4 (.k (.i .i64 9)))])
 (.seq (.keep [4]) .ret)))
 (.skip)))))))))
 (.reg [.op (.bin 43 .add (.t 18) (.k (.i .i64 1))),.op (.mv 18 (.t 43))]))))))
def F_waitlist_Check : F := .mk
 ((.seq (.reg [.op (.mv 4 k0)])
 ((.seq ((.seq (.reg [.op (.mv 7 (.t 0)),.op (.bin 8 .neq (.t 7) (.k (.i .i64 1))),.op (.mv 9 (.t 8)),.sc false 12 9 [.op (.mv 10 (.t 0)),.op (.bin 11 .neq (.t 10) (.k (.i .i64 2)))] (.t 11)])
 (.ite (.t 12)
 ((.seq (.reg [.op (.mv 4 (.k (.i .i64 8)))])
 (.ret)))
 (.skip))))
 ((.seq ((.seq (.reg [.op (.mv 13 (.t 1)),.op (.len 14 (.t 13) .sl),.op (.bin 15 .gtr (.t 14) (.k (.i .i64 96)))])
 (.ite (.t 15)
 ((.seq (.reg [.op (.mv 4 (.k (.i .i64 4)))])
 (.ret)))
 (.skip))))
 ((.seq ((.seq (.reg [.op (.mv 16 (.t 1)),.op (.len 17 (.t 16) .sl),.op (.mv 18 k0)])
 (.blk 0 (.loop [0,1,16,17,18] F_waitlist_Check_L0))))
 ((.seq (.reg [.op (.mv 4 k0)])
 (.ret)))))))))))
 [.t 4] false none
def F_mutex_validC1 : F := .mk
 ((.seq (.reg [.op (.box 2 (.t 0) 5 true),.op (.mv 3 (.k (.b false)))])
 ((.seq (.reg [.op (.fa 4 (.t 2) 0 1),.op (.ld 5 (.t 4) 1 false),.op (.fa 6 (.t 1) 0 1),.op (.ld 7 (.t 6) 1 false),.op (.bin 8 .eql (.t 5) (.t 7)),.op (.mv 3 (.t 8))])
 (.ret)))))
 [.t 3] false none
def F_waitlist_filter_L0 : C :=
 (.seq (.reg [.op (.bin 11 .lss (.t 10) (.t 9))])
 ((.seq (.ite (.t 11)
 (.skip)
 (.seq (.keep [5]) (.exit 0)))
 ((.seq (.blk 1 ((.seq (.reg [.op (.ixs 12 (.t 8) (.t 10) 5),.op (.ld 13 (.t 12) 5 true),.op (.new 7 zQ),.op (.st (.t 7) (.t 13) 5 true)])
 ((.seq (.reg [.op (.mv 14 (.t 1)),.op (.ld 15 (.t 7) 5 true),.op (.callv (some 16) (.t 14) [(.t 15)])])
 (.ite (.t 16)
 (.reg [.op (.mv 17 (.t 5)),.op (.ld 18 (.t 7) 5 true),.op (.buildSl 19 5 1 zQ [(0,(.t 18))] true),.op (.app 20 (.t 17) (.t 19) 5),.op (.mv 5 (.t 20))])
 (.skip)))))))
 (.reg [.op (.bin 21 .add (.t 10) (.k (.i .i64 1))),.op (.mv 10 (.t 21))]))))))
def F_waitlist_filter : F := .mk
 ((.seq (.reg [.op (.mv 4 (.k (.sl 5 true [])))])
 ((.seq (.reg [.op (.mv 5 (.k (.sl 5 true [])))])
 ((.seq ((.seq (.reg [.op (.mv 8 (.t 0)),.op (.len 9 (.t 8) .sl),.op (.mv 10 k0)])
 (.blk 0 (.loop [1,5,8,9,10] F_waitlist_filter_L0))))
 ((.seq (.reg [.op (.mv 22 (.t 5)),.op (.mv 4 (.t 22))])
 (.ret)))))))))
 [.t 4] false none
def F_waitlist_RemoveC1 : F := .mk
 ((.seq (.reg [.op (.box 2 (.t 0) 5 true),.op (.mv 3 (.k (.b false)))])
 ((.seq (.reg [.op (.fa 4 (.t 2) 0 1),.op (.ld 5 (.t 4) 1 false),.op (.ld 6 (.t 1) 1 false),.op (.bin 7 .neq (.t 5) (.t 6)),.op (.mv 3 (.t 7))])
 (.ret)))))
 [.t 3] false none
def F_slices_BinarySearchFunc_api_Waiter_api_Waiter_int_L0 : C :=
 (.seq ((.seq (.reg [.op (.mv 15 (.t 9)),.op (.mv 16 (.t 10)),.op (.bin 17 .lss (.t 15) (.t 16))])
 (.ite (.t 17)
 (.skip)
 (.seq (.keep [0,1,2,8,9]) (.exit 0)))))
 (.blk 1 ((.seq (.reg [.op (.mv 18 (.t 9)),.op (.mv 19 (.t 10)),.op (.bin 20 .add (.t 18) (.t 19)),.op (.cvi 21 .u64 (.t 20)),.op (.bin 22 .shr (.t 21) (.k (.i .u64 1))),.op (.cvi 23 .i64 (.t 22)),.op (.mv 11 (.t 23))])
 ((.seq (.reg [.op (.mv 24 (.t 2)),.op (.mv 25 (.t 0)),.op (.mv 26 (.t 11)),.op (.ixs 27 (.t 25) (.t 26) 5),.op (.ld 28 (.t 27) 5 true),.op (.mv 29 (.t 1)),.op (.callv (some 30) (.t 24) [(.t 28),(.t 29)]),.op (.bin 31 .lss (.t 30) k0)])
 (.ite (.t 31)
 (.reg [.op (.mv 32 (.t 11)),.op (.bin 33 .add (.t 32) (.k (.i .i64 1))),.op (.mv 9 (.t 33))])
 (.reg [.op (.mv 34 (.t 11)),.op (.mv 10 (.t 34))]))))))))
def F_slices_BinarySearchFunc_api_Waiter_api_Waiter_int : F := .mk
 ((.seq (.reg [.op (.mv 6 k0),.op (.mv 7 (.k (.b false)))])
 ((.seq (.reg [.op (.mv 12 (.t 0)),.op (.len 13 (.t 12) .sl),.op (.mv 8 (.t 13))])
 ((.seq (.reg [.op (.mv 14 (.t 8)),.op (.mv 9 k0),.op (.mv 10 (.t 14))])
 ((.seq (.blk 0 (.loop [0,1,2,8,9,10] F_slices_BinarySearchFunc_api_Waiter_api_Waiter_int_L0))
 ((.seq (.reg [.op (.mv 35 (.t 9)),.op (.mv 36 (.t 9)),.op (.mv 37 (.t 8)),.op (.bin 38 .lss (.t 36) (.t 37)),.op (.mv 39 (.t 38)),.sc false 48 39 [.op (.mv 40 (.t 2)),.op (.mv 41 (.t 0)),.op (.mv 42 (.t 9)),.op (.ixs 43 (.t 41) (.t 42) 5),.op (.ld 44 (.t 43) 5 true),.op (.mv 45 (.t 1)),.op (.callv (some 46) (.t 40) [(.t 44),(.t 45)]),.op (.bin 47 .eql (.t 46) k0)] (.t 47),.op (.mv 6 (.t 35)),.op (.mv 7 (.t 48))])
 (.ret)))))))))))
 [.t 6,.t 7] false none
def F_mutex_lockC1 : F := .mk
 ((.seq (.reg [.op (.box 2 (.t 0) 5 true),.op (.mv 4 k0)])
 ((.seq ((.seq (.reg [.op (.fa 5 (.t 2) 3 1),.op (.ld 6 (.t 5) 1 false),.op (.mv 7 (.t 1)),.op (.bin 8 .geq (.t 6) (.t 7))])
 (.ite (.t 8)
 ((.seq (.reg [.op (.mv 4 (.k (.i .i64 (-1))))])
 (.ret)))
 (.skip))))
 ((.seq (.reg [.op (.mv 9 (.t 1)),.op (.fa 10 (.t 2) 3 1),.op (.ld 11 (.t 10) 1 false),.op (.call (some 12) cmp_Compare_int [(.t 9),(.t 11)]),.op (.mv 4 (.t 12))])
 (.ret)))))))
 [.t 4] false none
def F_cmp_Compare_int : F := .mk
 ((.seq (.reg [.op (.mv 4 k0)])
 ((.seq (.reg [.op (.mv 7 (.t 0)),.op (.call (some 8) cmp_isNaN_int [(.t 7)]),.op (.mv 5 (.t 8))])
 ((.seq (.reg [.op (.mv 9 (.t 1)),.op (.call (some 10) cmp_isNaN_int [(.t 9)]),.op (.mv 6 (.t 10))])
 ((.seq ((.seq (.reg [.op (.mv 11 (.t 5))])
 (.ite (.t 11)
 ((.seq ((.seq (.reg [.op (.mv 12 (.t 6))])
 (.ite (.t 12)
 ((.seq (.reg [.op (.mv 4 k0)])
 (.ret)))
 (.skip))))
 ((.seq (.reg [.op (.mv 4 (.k (.i .i64 (-1))))])
 (.ret)))))
 (.skip))))
 ((.seq ((.seq (.reg [.op (.mv 13 (.t 6))])
 (.ite (.t 13)
 ((.seq (.reg [.op (.mv 4 (.k (.i .i64 1)))])
 (.ret)))
 (.skip))))
 ((.seq ((.seq (.reg [.op (.mv 14 (.t 0)),.op (.mv 15 (.t 1)),.op (.bin 16 .lss (.t 14) (.t 15))])
 (.ite (.t 16)
 ((.seq (.reg [.op (.mv 4 (.k (.i .i64 (-1))))])
 (.ret)))
 (.skip))))
 ((.seq ((.seq (.reg [.op (.mv 17 (.t 0)),.op (.mv 18 (.t 1)),.op (.bin 19 .gtr (.t 17) (.t 18))])
 (.ite (.t 19)
 ((.seq (.reg [.op (.mv 4 (.k (.i .i64 1)))])
 (.ret)))
 (.skip))))
 ((.seq (.reg [.op (.mv 4 k0)])
 (.ret)))))))))))))))))
 [.t 4] false none
def R_slices_Insert_api_Waiter_api_Waiter : F := .mk
 ((.seq (.reg [.op (.mv 6 (.k (.sl 5 true [])))])
 ((.seq (.reg [.op (.mv 10 (.t 0)),.op (.mv 11 (.t 1)),.op (.sl 12 (.t 10) (some (.t 11)) none 5)])
 ((.seq (.reg [.op (.mv 13 (.t 2)),.op (.len 14 (.t 13) .sl),.op (.mv 7 (.t 14))])
 ((.seq ((.seq (.reg [.op (.mv 15 (.t 7)),.op (.bin 16 .eql (.t 15) k0)])
 (.ite (.t 16)
 ((.seq (.reg [.op (.mv 17 (.t 0)),.op (.mv 6 (.t 17))])
 (.ret)))
 (.skip))))
 ((.seq (.reg [.op (.mv 18 (.t 0)),.op (.len 19 (.t 18) .sl),.op (.mv 8 (.t 19))])
 ((.seq ((.seq (.reg [.op (.mv 20 (.t 1)),.op (.mv 21 (.t 8)),.op (.bin 22 .eql (.t 20) (.t 21))])
 (.ite (.t 22)
 ((.seq (.reg [.op (.mv 23 (.t 0)),.op (.mv 24 (.t 2)),.op (.app 25 (.t 23) (.t 24) 5),.op (.mv 6 (.t 25))])
 (.ret)))
 (.skip))))
 ((.seq ((.seq (.reg [.op (.mv 26 (.t 8)),.op (.mv 27 (.t 7)),.op (.bin 28 .add (.t 26) (.t 27)),.op (.mv 29 (.t 0)),.op (.cap 30 (.t 29)),.op (.bin 31 .gtr (.t 28) (.t 30))])
 (.ite (.t 31)
 ((.seq (.reg [.op (.mv 32 (.t 0)),.op (.mv 33 (.t 1)),.op (.sl 34 (.t 32) none (some (.t 33)) 5),.op (.mv 35 (.t 8)),.op (.mv 36 (.t 7)),.op (.bin 37 .add (.t 35) (.t 36)),.op (.mv 38 (.t 1)),.op (.bin 39 .sub (.t 37) (.t 38)),.op (.appz 40 (.t 34) (.t 39) 5 zQ),.op (.mv 9 (.t 40))])
 ((.seq (.reg [.op (.mv 41 (.t 9)),.op (.mv 42 (.t 1)),.op (.sl 43 (.t 41) (some (.t 42)) none 5),.op (.mv 44 (.t 2)),.op (.copy (some 45) (.t 43) (.t 44) 5)])
 ((.seq (.drw [] [0,1,2,3,4,5,6,7,8] [.op (.mv 46 (.t 9)),.op (.mv 47 (.t 1)),.op (.mv 48 (.t 7)),.op (.bin 49 .add (.t 47) (.t 48)),.op (.sl 50 (.t 46) (some (.t 49)) none 5),.op (.mv 51 (.t 0)),.op (.mv 52 (.t 1)),.op (.sl 53 (.t 51) (some (.t 52)) none 5),.op (.copy (some 54) (.t 50) (.t 53) 5)])
 ((.seq (.reg [.op (.mv 55 (.t 9)),.op (.mv 6 (.t 55))])
 (.ret)))))))))
 (.skip))))
 ((.seq (.reg [.op (.mv 56 (.t 0)),.op (.mv 57 (.t 8)),.op (.mv 58 (.t 7)),.op (.bin 59 .add (.t 57) (.t 58)),.op (.sl 60 (.t 56) none (some (.t 59)) 5),.op (.mv 0 (.t 60))])
 ((.seq ((.seq (.reg [.op (.mv 61 (.t 2)),.op (.mv 62 (.t 0)),.op (.mv 63 (.t 1)),.op (.mv 64 (.t 7)),.op (.bin 65 .add (.t 63) (.t 64)),.op (.sl 66 (.t 62) (some (.t 65)) none 5),.op (.ovl 67 slices_overlaps_api_Waiter (.t 61) (.t 66) 5),.op (.un 68 .not (.t 67))])
 (.ite (.t 68)
 ((.seq (.drw [] [0,1,2,3,4,5,6,7,8] [.op (.mv 69 (.t 0)),.op (.mv 70 (.t 1)),.op (.mv 71 (.t 7)),.op (.bin 72 .add (.t 70) (.t 71)),.op (.sl 73 (.t 69) (some (.t 72)) none 5),.op (.mv 74 (.t 0)),.op (.mv 75 (.t 1)),.op (.sl 76 (.t 74) (some (.t 75)) none 5),.op (.copy (some 77) (.t 73) (.t 76) 5)])
 ((.seq (.reg [.op (.mv 78 (.t 0)),.op (.mv 79 (.t 1)),.op (.sl 80 (.t 78) (some (.t 79)) none 5),.op (.mv 81 (.t 2)),.op (.copy (some 82) (.t 80) (.t 81) 5)])
 ((.seq (.reg [.op (.mv 83 (.t 0)),.op (.mv 6 (.t 83))])
 (.ret)))))))
 (.skip))))
 ((.seq (.reg [.op (.mv 84 (.t 0)),.op (.mv 85 (.t 8)),.op (.sl 86 (.t 84) (some (.t 85)) none 5),.op (.mv 87 (.t 2)),.op (.copy (some 88) (.t 86) (.t 87) 5)])
 ((.seq (.reg [.op (.mv 89 (.t 0)),.op (.mv 90 (.t 1)),.op (.sl 91 (.t 89) (some (.t 90)) none 5),.op (.mv 92 (.t 7)),.op (.call (some 93) slices_rotateRight_api_Waiter [(.t 91),(.t 92)])])
 ((.seq (.reg [.op (.mv 94 (.t 0)),.op (.mv 6 (.t 94))])
 (.ret)))))))))))))))))))))))))
 [.t 6] false none
def F_slices_Clone_api_Waiter_api_Waiter : F := .mk
 ((.seq (.reg [.op (.mv 2 (.k (.sl 5 true [])))])
 ((.seq ((.seq (.reg [.op (.mv 3 (.t 0)),.op (.isnil 4 false (.t 3) .sl)])
 (.ite (.t 4)
 ((.seq (.reg [.op (.mv 2 (.k (.sl 5 true [])))])
 (.ret)))
 (.skip))))
 ((.seq (.reg [.op (.buildSl 5 5 0 zQ [] false),.op (.mv 6 (.t 0)),.op (.app 7 (.t 5) (.t 6) 5),.op (.mv 2 (.t 7))])
 (.ret)))))))
 [.t 2] true none
def F_slices_IndexFunc_api_Waiter_api_Waiter_L0 : C :=
 (.seq (.reg [.op (.bin 9 .lss (.t 8) (.t 7))])
 ((.seq (.ite (.t 9)
 (.skip)
 (.seq (.keep []) (.exit 0)))
 ((.seq (.blk 1 ((.seq (.reg [.op (.mv 10 (.t 8)),.op (.mv 5 (.t 10))])
 ((.seq (.reg [.op (.mv 11 (.t 1)),.op (.mv 12 (.t 0)),.op (.mv 13 (.t 5)),.op (.ixs 14 (.t 12) (.t 13) 5),.op (.ld 15 (.t 14) 5 true),.op (.callv (some 16) (.t 11) [(.t 15)])])
 (.ite (.t 16)
 ((.seq (.reg [.op (.mv 17 (.t 5)),.op (.mv 4 (.t 17))])
 (.seq (.keep [4]) .ret)))
 (.skip)))))))
 (.reg [.op (.bin 18 .add (.t 8) (.k (.i .i64 1))),.op (.mv 8 (.t 18))]))))))
def F_slices_IndexFunc_api_Waiter_api_Waiter : F := .mk
 ((.seq (.reg [.op (.mv 4 k0)])
 ((.seq ((.seq (.reg [.op (.mv 6 (.t 0)),.op (.len 7 (.t 6) .sl),.op (.mv 8 k0)])
 (.blk 0 (.loop [0,1,7,8] F_slices_IndexFunc_api_Waiter_api_Waiter_L0))))
 ((.seq (.reg [.op (.mv 4 (.k (.i .i64 (-1))))])
 (.ret)))))))
 [.t 4] false none
def F_waitlist_valid : F := .mk
 ((.seq (.reg [.op (.box 1 (.t 0) 5 true),.op (.mv 2 (.k (.b false)))])
 ((.seq (.blk 0 ((.seq (.reg [.op (.fa 4 (.t 1) 0 1),.op (.ld 5 (.t 4) 1 false),.op (.bin 6 .lss (.t 5) k0),.op (.mv 7 (.t 6)),.sc true 11 7 [.op (.fa 8 (.t 1) 0 1),.op (.ld 9 (.t 8) 1 false),.op (.bin 10 .geq (.t 9) (.k (.i .i64 16)))] (.t 10),.op (.mv 12 (.t 11)),.sc true 16 12 [.op (.fa 13 (.t 1) 1 1),.op (.ld 14 (.t 13) 1 false),.op (.bin 15 .lss (.t 14) (.k (.i .i64 1)))] (.t 15),.op (.mv 17 (.t 16)),.sc true 21 17 [.op (.fa 18 (.t 1) 1 1),.op (.ld 19 (.t 18) 1 false),.op (.bin 20 .gtr (.t 19) (.k (.i .i64 99)))] (.t 20),.op (.mv 22 (.t 21)),.sc true 26 22 [.op (.fa 23 (.t 1) 2 1),.op (.ld 24 (.t 23) 1 false),.op (.bin 25 .lss (.t 24) (.k (.i .i64 (-1099511627776))))] (.t 25),.op (.mv 27 (.t 26)),.sc true 31 27 [.op (.fa 28 (.t 1) 2 1),.op (.ld 29 (.t 28) 1 false),.op (.bin 30 .gtr (.t 29) (.k (.i .i64 1099511627776)))] (.t 30),.op (.mv 3 (.t 31))])
 (.ite (.t 3)
 ((.seq (.reg [.op (.mv 2 (.k (.b false)))])
 (.ret)))
 (.skip)))))
 ((.seq (.reg [.op (.fa 32 (.t 1) 3 1),.op (.ld 33 (.t 32) 1 false),.op (.bin 34 .geq (.t 33) k0),.op (.mv 35 (.t 34)),.sc false 39 35 [.op (.fa 36 (.t 1) 3 1),.op (.ld 37 (.t 36) 1 false),.op (.bin 38 .leq (.t 37) (.k (.i .i64 9)))] (.t 38),.op (.mv 40 (.t 39)),.sc false 44 40 [.op (.fa 41 (.t 1) 4 1),.op (.ld 42 (.t 41) 1 false),.op (.bin 43 .geq (.t 42) (.k (.i .i64 (-1))))] (.t 43),.op (.mv 45 (.t 44)),.sc false 49 45 [.op (.fa 46 (.t 1) 4 1),.op (.ld 47 (.t 46) 1 false),.op (.bin 48 .lss (.t 47) (.k (.i .i64 6)))] (.t 48),.op (.mv 2 (.t 49))])
 (.ret)))))))
 [.t 2] false none
def F_cmp_isNaN_int : F := .mk
 ((.seq (.reg [.op (.mv 2 (.k (.b false)))])
 ((.seq (.reg [.op (.mv 3 (.t 0)),.op (.mv 4 (.t 0)),.op (.bin 5 .neq (.t 3) (.t 4)),.op (.mv 2 (.t 5))])
 (.ret)))))
 [.t 2] false none
def F_slices_rotateRight_api_Waiter : F := .mk
 (.reg [.op (.mv 4 (.t 0)),.op (.mv 5 (.t 0)),.op (.len 6 (.t 5) .sl),.op (.mv 7 (.t 1)),.op (.bin 8 .sub (.t 6) (.t 7)),.op (.call (some 9) slices_rotateLeft_api_Waiter [(.t 4),(.t 8)])])
 [] false none
def F_slices_rotateLeft_api_Waiter : F := .mk
 ((.seq (.reg [.op (.mv 4 (.t 0)),.op (.mv 5 (.t 1)),.op (.sl 6 (.t 4) none (some (.t 5)) 5),.op (.call (some 7) slices_Reverse_api_Waiter_api_Waiter [(.t 6)])])
 ((.seq (.reg [.op (.mv 8 (.t 0)),.op (.mv 9 (.t 1)),.op (.sl 10 (.t 8) (some (.t 9)) none 5),.op (.call (some 11) slices_Reverse_api_Waiter_api_Waiter [(.t 10)])])
 (.reg [.op (.mv 12 (.t 0)),.op (.call (some 13) slices_Reverse_api_Waiter_api_Waiter [(.t 12)])])))))
 [] false none
def F_slices_Reverse_api_Waiter_api_Waiter_L0 : C :=
 (.seq ((.seq (.reg [.op (.mv 7 (.t 2)),.op (.mv 8 (.t 3)),.op (.bin 9 .lss (.t 7) (.t 8))])
 (.ite (.t 9)
 (.skip)
 (.seq (.keep []) (.exit 0)))))
 ((.seq (.blk 1 (.drw [] [0,1,2,3,4,5,6,7,8,9,10,11,12,13,14,15] [.op (.mv 14 (.t 0)),.op (.mv 15 (.t 2)),.op (.mv 16 (.t 0)),.op (.mv 17 (.t 3)),.op (.mv 18 (.t 0)),.op (.mv 19 (.t 3)),.op (.ixs 20 (.t 18) (.t 19) 5),.op (.ld 21 (.t 20) 5 true),.op (.mv 22 (.t 0)),.op (.mv 23 (.t 2)),.op (.ixs 24 (.t 22) (.t 23) 5),.op (.ld 25 (.t 24) 5 true),.op (.ixs 26 (.t 14) (.t 15) 5),.op (.st (.t 26) (.t 21) 5 false),.op (.ixs 27 (.t 16) (.t 17) 5),.op (.st (.t 27) (.t 25) 5 false)]))
 (.reg [.op (.mv 10 (.t 2)),.op (.bin 11 .add (.t 10) (.k (.i .i64 1))),.op (.mv 12 (.t 3)),.op (.bin 13 .sub (.t 12) (.k (.i .i64 1))),.op (.mv 2 (.t 11)),.op (.mv 3 (.t 13))]))))
def F_slices_Reverse_api_Waiter_api_Waiter : F := .mk
 ((.seq (.reg [.op (.mv 4 (.t 0)),.op (.len 5 (.t 4) .sl),.op (.bin 6 .sub (.t 5) (.k (.i .i64 1))),.op (.mv 2 k0),.op (.mv 3 (.t 6))])
 (.blk 0 (.loop [0,2,3] F_slices_Reverse_api_Waiter_api_Waiter_L0))))
 [] false none
def F_slices_Insert_api_Waiter_api_Waiter : F := ⟨.skip, [], true, some (insP 5)⟩
def P : Prog := fun n => match n with
  | 9 => some F_nurserylaw16_MutexWithdraws
  | 11 => some F_mutex_New
  | 12 => some F_nurserylaw16_object
  | 13 => some F_nurserylaw16_awake
  | 14 => some F_mutex_Apply
  | 15 => some F_q16_Great
  | 16 => some F_mutex_Check
  | 17 => some F_q16_SameWaiters
  | 26 => some F_q16_Same
  | 28 => some F_q04_SameInts
  | 29 => some F_mutex_Withdraw
  | 31 => some F_nurserylaw16_lock
  | 32 => some F_mutex_operations
  | 33 => some F_mutex_isTask
  | 34 => some F_mutex_waits
  | 35 => some F_mutex_valid
  | 39 => some F_q16_sameCursors
  | 41 => some F_waitlist_Remove
  | 42 => some F_mutex_lock
  | 43 => some F_mutex_operationsC1
  | 44 => some F_mutex_unlock
  | 45 => some F_slices_ContainsFunc_api_Waiter_api_Waiter
  | 46 => some F_mutex_waitsC1
  | 47 => some F_waitlist_Check
  | 48 => some F_mutex_validC1
  | 49 => some F_waitlist_filter
  | 50 => some F_waitlist_RemoveC1
  | 51 => some F_slices_BinarySearchFunc_api_Waiter_api_Waiter_int
  | 52 => some F_mutex_lockC1
  | 53 => some F_cmp_Compare_int
  | 55 => some F_slices_Clone_api_Waiter_api_Waiter
  | 56 => some F_slices_IndexFunc_api_Waiter_api_Waiter
  | 57 => some F_waitlist_valid
  | 58 => some F_cmp_isNaN_int
  | 60 => some F_slices_rotateRight_api_Waiter
  | 61 => some F_slices_rotateLeft_api_Waiter
  | 62 => some F_slices_Reverse_api_Waiter_api_Waiter
  | 54 => some F_slices_Insert_api_Waiter_api_Waiter
  | _ => none
theorem P_nurserylaw16_MutexWithdraws : P nurserylaw16_MutexWithdraws = some F_nurserylaw16_MutexWithdraws := rfl
theorem P_mutex_New : P mutex_New = some F_mutex_New := rfl
theorem P_nurserylaw16_object : P nurserylaw16_object = some F_nurserylaw16_object := rfl
theorem P_nurserylaw16_awake : P nurserylaw16_awake = some F_nurserylaw16_awake := rfl
theorem P_mutex_Apply : P mutex_Apply = some F_mutex_Apply := rfl
theorem P_q16_Great : P q16_Great = some F_q16_Great := rfl
theorem P_mutex_Check : P mutex_Check = some F_mutex_Check := rfl
theorem P_q16_SameWaiters : P q16_SameWaiters = some F_q16_SameWaiters := rfl
theorem P_q16_Same : P q16_Same = some F_q16_Same := rfl
theorem P_q04_SameInts : P q04_SameInts = some F_q04_SameInts := rfl
theorem P_mutex_Withdraw : P mutex_Withdraw = some F_mutex_Withdraw := rfl
theorem P_nurserylaw16_lock : P nurserylaw16_lock = some F_nurserylaw16_lock := rfl
theorem P_mutex_operations : P mutex_operations = some F_mutex_operations := rfl
theorem P_mutex_isTask : P mutex_isTask = some F_mutex_isTask := rfl
theorem P_mutex_waits : P mutex_waits = some F_mutex_waits := rfl
theorem P_mutex_valid : P mutex_valid = some F_mutex_valid := rfl
theorem P_q16_sameCursors : P q16_sameCursors = some F_q16_sameCursors := rfl
theorem P_waitlist_Remove : P waitlist_Remove = some F_waitlist_Remove := rfl
theorem P_mutex_lock : P mutex_lock = some F_mutex_lock := rfl
theorem P_mutex_operationsC1 : P mutex_operationsC1 = some F_mutex_operationsC1 := rfl
theorem P_mutex_unlock : P mutex_unlock = some F_mutex_unlock := rfl
theorem P_slices_ContainsFunc_api_Waiter_api_Waiter : P slices_ContainsFunc_api_Waiter_api_Waiter = some F_slices_ContainsFunc_api_Waiter_api_Waiter := rfl
theorem P_mutex_waitsC1 : P mutex_waitsC1 = some F_mutex_waitsC1 := rfl
theorem P_waitlist_Check : P waitlist_Check = some F_waitlist_Check := rfl
theorem P_mutex_validC1 : P mutex_validC1 = some F_mutex_validC1 := rfl
theorem P_waitlist_filter : P waitlist_filter = some F_waitlist_filter := rfl
theorem P_waitlist_RemoveC1 : P waitlist_RemoveC1 = some F_waitlist_RemoveC1 := rfl
theorem P_slices_BinarySearchFunc_api_Waiter_api_Waiter_int : P slices_BinarySearchFunc_api_Waiter_api_Waiter_int = some F_slices_BinarySearchFunc_api_Waiter_api_Waiter_int := rfl
theorem P_mutex_lockC1 : P mutex_lockC1 = some F_mutex_lockC1 := rfl
theorem P_cmp_Compare_int : P cmp_Compare_int = some F_cmp_Compare_int := rfl
theorem P_slices_Clone_api_Waiter_api_Waiter : P slices_Clone_api_Waiter_api_Waiter = some F_slices_Clone_api_Waiter_api_Waiter := rfl
theorem P_slices_IndexFunc_api_Waiter_api_Waiter : P slices_IndexFunc_api_Waiter_api_Waiter = some F_slices_IndexFunc_api_Waiter_api_Waiter := rfl
theorem P_waitlist_valid : P waitlist_valid = some F_waitlist_valid := rfl
theorem P_cmp_isNaN_int : P cmp_isNaN_int = some F_cmp_isNaN_int := rfl
theorem P_slices_Insert_api_Waiter_api_Waiter : P slices_Insert_api_Waiter_api_Waiter = some F_slices_Insert_api_Waiter_api_Waiter := rfl
end Go.VS
namespace Go.VS.M
abbrev I' (n : Int) : D := .i .i64 n
structure W where
  task : Int
  op : Int
  value : Int
  prio : Int
  case : Int
  deriving DecidableEq
@[simp] theorem W.eta (w : W) : W.mk w.task w.op w.value w.prio w.case = w := rfl
def W.row (w : W) : List D := [I' w.task, I' w.op, I' w.value, I' w.prio, I' w.case]
def isTask (n : Int) : Bool := decide (0 ≤ n) && decide (n < 16)
theorem ev_isTask (n : Int) : ev P (.call mutex_isTask [.d (I' n)] []) = some (.val (.d (.b (isTask n))) []) := by
  rw [ev_call P_mutex_isTask rfl]
  simp [F_mutex_isTask, isTask]
def wbad (w : W) : Bool := (decide (w.task < 0) || decide (16 ≤ w.task) || decide (w.op < 1) || decide (99 < w.op) || decide (w.value < -1099511627776) || decide (1099511627776 < w.value))
def wvalid (w : W) : Bool := !wbad w && (decide (0 ≤ w.prio) && decide (w.prio ≤ 9) && decide (-1 ≤ w.case) && decide (w.case < 6))
theorem ev_wvalid (a b c d e : Int) : ev P (.call waitlist_valid [.d (.ag [I' a, I' b, I' c, I' d, I' e])] []) = some (.val (.d (.b (wvalid ⟨a, b, c, d, e⟩))) []) := by
  rw [ev_call P_waitlist_valid rfl]
  cases h : wbad ⟨a, b, c, d, e⟩ <;> simp only [wvalid, h] <;> unfold wbad at h <;> simp [F_waitlist_valid, W.row, h]
def wcheckFrom (d : Int) (prev : Option W) : List W → Int
  | [] => 0
  | w :: r => if wvalid w = false then 2 else if d = 2 ∧ (prev.any fun p => decide (p.prio < w.prio)) = true then 9 else wcheckFrom d (some w) r
theorem wrap1 : IntKind.i64.wrap 1 = 1 := by decide
theorem loop_wcheck (d : Int) (nl : Bool) (l : List W) (hn : l.length ≤ 96) : ∀ (suf pre : List W), l = pre ++ suf →
    ev P (.loop 0 [0, 1, 16, 17, 18] F_waitlist_Check_L0 [(0, .d (I' d)), (1, .d (.sl 5 nl (l.map W.row))), (16, .d (.sl 5 nl (l.map W.row))), (17, .d (I' l.length)), (18, .d (I' pre.length))] []) =
      if wcheckFrom d pre.getLast? suf = 0 then some (.out (.exit 0) [] []) else some (.out .ret [(4, .d (I' (wcheckFrom d pre.getLast? suf)))] []) := by
  intro suf
  induction suf with
  | nil =>
    intro pre hl
    have : l.length = pre.length := by simp [hl]
    rw [ev_loop]
    conv => lhs; arg 4; unfold F_waitlist_Check_L0
    simp [this, wcheckFrom]
  | cons w suf ih =>
    intro pre hl
    have hg : l[pre.length]? = some w := by simp [hl]
    have hlt : (pre.length : Int) < l.length := by simp [hl]; omega
    rw [ev_loop]
    conv => lhs; arg 4; unfold F_waitlist_Check_L0
    simp [hlt, hg, W.row, ev_wvalid]
    cases hv : wvalid w
    · simp [wcheckFrom, hv]
    · simp
      have hnext : IntKind.i64.wrap ((pre.length : Int) + 1) = pre.length + 1 := wrap_i64 (by omega) (by omega)
      have ih' := ih (pre ++ [w]) (by simp [hl])
      simp at ih'
      rcases List.eq_nil_or_concat pre with rfl | ⟨pre', p, rfl⟩
      · simp [wcheckFrom, hv, wrap1] at *
        exact ih'
      · have hgp : l[pre'.length]? = some p := by simp [hl]
        have hlen : ((pre'.length : Int) + 1 < l.length) := by simp [hl]; omega
        have hw : IntKind.i64.wrap ((pre'.length : Int) + 1 - 1) = pre'.length := by rw [wrap_i64 (by omega) (by omega)]; omega
        have h0 : (0 : Int) < pre'.length + 1 := by omega
        have hw2 : IntKind.i64.wrap (pre'.length : Int) = pre'.length := wrap_i64 (by omega) (by omega)
        have hw3 : IntKind.i64.wrap ((pre'.length : Int) + 1 + 1) = pre'.length + 1 + 1 := wrap_i64 (by omega) (by omega)
        simp at ih'
        by_cases hd : d = 2
        · by_cases hp : p.prio < w.prio
          · subst hd
            simp [wcheckFrom, hv, hp, hw2, hw3, hgp, W.row, h0]
          · subst hd
            simp [wcheckFrom, hv, hp, hw2, hw3, hgp, W.row, h0]
            exact ih'
        · have hd2 : (d == 2) = false := by simp [hd]
          simp [wcheckFrom, hv, hd, hd2, hw2, hw3, hgp, W.row, h0]
          exact ih'
def wchk (l : List W) : Int := if 96 < l.length then 4 else wcheckFrom 2 none l
theorem ev_wCheck (nl : Bool) (l : List W) : ev P (.call waitlist_Check [.d (I' 2), .d (.sl 5 nl (l.map W.row))] []) =
    some (.val (.d (I' (wchk l))) []) := by
  unfold wchk
  rw [ev_call P_waitlist_Check rfl]
  by_cases h : 96 < l.length
  · have h' : (96 : Int) < l.length := by omega
    simp [F_waitlist_Check, h, h']
  · have h' : ¬ (96 : Int) < l.length := by omega
    have hl := loop_wcheck 2 nl l (by omega) l [] rfl
    simp at hl
    simp [F_waitlist_Check, h, h', hl]
    by_cases hc : wcheckFrom 2 none l = 0 <;> simp [hc]
theorem allD_map' : ∀ (ds : List D), allD (ds.map V.d) = some ds
  | [] => rfl
  | d :: ds => by simp [allD_map' ds]
theorem allD_mid {a b : List D} {x : D} : allD (a.map V.d ++ .d x :: b.map V.d) = some (a ++ x :: b) := by
  have := allD_map' (a ++ x :: b)
  simpa using this
def idx (p : W → Bool) : Int → List W → Int
  | _, [] => -1
  | k, w :: r => if p w then k else idx p (k + 1) r
theorem loop_IndexFunc {f : Nat} {first caps : List D} {p : W → Bool} (nl : Bool) (l : List W) (hn : l.length ≤ 1000000)
    (hp : ∀ a b c d e, ev P (.call f (first.map V.d ++ [.d (.ag [I' a, I' b, I' c, I' d, I' e])] ++ caps.map V.d) []) = some (.val (.d (.b (p ⟨a, b, c, d, e⟩))) [])) :
    ∀ (suf pre : List W), l = pre ++ suf →
    ev P (.loop 0 [0, 1, 7, 8] F_slices_IndexFunc_api_Waiter_api_Waiter_L0 [(0, .d (.sl 5 nl (l.map W.row))), (1, .d (.fn f first caps)), (7, .d (I' l.length)), (8, .d (I' pre.length))] []) =
      if idx p pre.length suf = -1 then some (.out (.exit 0) [] []) else some (.out .ret [(4, .d (I' (idx p pre.length suf)))] []) := by
  intro suf
  induction suf with
  | nil =>
    intro pre hl
    have : l.length = pre.length := by simp [hl]
    rw [ev_loop]
    conv => lhs; arg 4; unfold F_slices_IndexFunc_api_Waiter_api_Waiter_L0
    simp [this, idx]
  | cons w suf ih =>
    intro pre hl
    have hg : l[pre.length]? = some w := by simp [hl]
    have hlt : (pre.length : Int) < l.length := by simp [hl]; omega
    have hnext : IntKind.i64.wrap ((pre.length : Int) + 1) = pre.length + 1 := wrap_i64 (by omega) (by omega)
    have ih' := ih (pre ++ [w]) (by simp [hl])
    simp at ih' hp
    rw [ev_loop]
    conv => lhs; arg 4; unfold F_slices_IndexFunc_api_Waiter_api_Waiter_L0
    simp [hlt, hg, W.row, hp, allD_mid]
    cases hw : p w
    · simp [idx, hw, hnext]
      exact ih'
    · have : ¬ (pre.length : Int) = -1 := by omega
      simp [idx, hw, this]
theorem ev_IndexFunc {f : Nat} {first caps : List D} {p : W → Bool} (nl : Bool) (l : List W) (hn : l.length ≤ 1000000)
    (hp : ∀ a b c d e, ev P (.call f (first.map V.d ++ [.d (.ag [I' a, I' b, I' c, I' d, I' e])] ++ caps.map V.d) []) = some (.val (.d (.b (p ⟨a, b, c, d, e⟩))) [])) :
    ev P (.call slices_IndexFunc_api_Waiter_api_Waiter [.d (.sl 5 nl (l.map W.row)), .d (.fn f first caps)] []) = some (.val (.d (I' (idx p 0 l))) []) := by
  rw [ev_call P_slices_IndexFunc_api_Waiter_api_Waiter rfl]
  have hl := loop_IndexFunc nl l hn hp l [] rfl
  simp at hl
  simp [F_slices_IndexFunc_api_Waiter_api_Waiter, hl]
  by_cases hc : idx p 0 l = -1 <;> simp [hc]
theorem idx_any {p : W → Bool} : ∀ {l : List W} {k : Int}, 0 ≤ k → (0 ≤ idx p k l ↔ l.any p = true)
  | [], k, _ => by simp [idx]
  | w :: r, k, hk => by
    by_cases hw : p w = true
    · simp [idx, hw, hk]
    · simp [idx, hw, idx_any (l := r) (k := k + 1) (by omega)]
theorem ev_ContainsFunc {f : Nat} {first caps : List D} {p : W → Bool} (nl : Bool) (l : List W) (hn : l.length ≤ 1000000)
    (hp : ∀ a b c d e, ev P (.call f (first.map V.d ++ [.d (.ag [I' a, I' b, I' c, I' d, I' e])] ++ caps.map V.d) []) = some (.val (.d (.b (p ⟨a, b, c, d, e⟩))) [])) :
    ev P (.call slices_ContainsFunc_api_Waiter_api_Waiter [.d (.sl 5 nl (l.map W.row)), .d (.fn f first caps)] []) = some (.val (.d (.b (l.any p))) []) := by
  rw [ev_call P_slices_ContainsFunc_api_Waiter_api_Waiter rfl]
  have hi := ev_IndexFunc nl l hn hp
  simp [F_slices_ContainsFunc_api_Waiter_api_Waiter, hi]
  have := idx_any (p := p) (l := l) (k := 0) (by omega)
  cases ha : l.any p
  · have hc : ¬ 0 ≤ idx p 0 l := fun h => by rw [this.1 h] at ha; cases ha
    simp [hc]
  · have hc : 0 ≤ idx p 0 l := this.2 ha
    simp [hc]
theorem ev_waitsC1 (t a b c d e : Int) : ev P (.call mutex_waitsC1 [.d (.ag [I' a, I' b, I' c, I' d, I' e]), .d (.ref [I' t])] []) = some (.val (.d (.b (a == t))) []) := by
  rw [ev_call P_mutex_waitsC1 rfl]
  simp [F_mutex_waitsC1]
theorem ev_validC1 (a b c d e a' b' c' d' e' : Int) : ev P (.call mutex_validC1 [.d (.ag [I' a, I' b, I' c, I' d, I' e]), .d (.ref [I' a', I' b', I' c', I' d', I' e'])] []) = some (.val (.d (.b (a == a'))) []) := by
  rw [ev_call P_mutex_validC1 rfl]
  simp [F_mutex_validC1]
theorem ev_RemoveC1 (t a b c d e : Int) : ev P (.call waitlist_RemoveC1 [.d (.ag [I' a, I' b, I' c, I' d, I' e]), .d (.ref [I' t])] []) = some (.val (.d (.b (a != t))) []) := by
  rw [ev_call P_waitlist_RemoveC1 rfl]
  simp [F_waitlist_RemoveC1]
theorem ev_waits {own cnt time : Int} {h1 h2 h3 : D} {qn : Bool} {q : List W} {cl : Bool} {val : Int} (t : Int) (hn : q.length ≤ 1000000) :
    ev P (.call mutex_waits [.d (.ag [I' own, I' cnt, I' time, h1, .sl 5 qn (q.map W.row), h2, h3, .b cl, I' val]), .d (I' t)] []) = some (.val (.d (.b (q.any fun w => w.task == t))) []) := by
  rw [ev_call P_mutex_waits rfl]
  have := ev_ContainsFunc (f := mutex_waitsC1) (first := []) (caps := [.ref [I' t]]) (p := fun w => w.task == t) qn q hn (by intro a b c d e; simp [ev_waitsC1])
  simp [F_mutex_waits, this]
def accV (es : Nat) (z : V) : List (List D) → V
  | [] => z
  | r :: rs => .asl 0 0 (r :: rs).length
def accH (es : Nat) : List (List D) → List O
  | [] => []
  | r :: rs => [.arrD es true (r :: rs)]
theorem take_map_len {α β : Type} {f : α → β} {r : List α} : List.take r.length (r.map f) = r.map f := List.take_of_length_le (by simp)
theorem drop_map_len {α β : Type} {f : α → β} {r : List α} : List.drop (r.length + 1) (r.map f) = [] := List.drop_eq_nil_of_le (by simp)
theorem loop_filter {f : Nat} {first caps : List D} {p : W → Bool} (nl : Bool) (l : List W) (hn : l.length ≤ 1000000)
    (hp : ∀ a b c d e, ev P (.call f (first.map V.d ++ [.d (.ag [I' a, I' b, I' c, I' d, I' e])] ++ caps.map V.d) []) = some (.val (.d (.b (p ⟨a, b, c, d, e⟩))) []))
    (R : Option Res) (hR : R = some (.out (.exit 0) [(5, accV 5 (.d (.sl 5 true [])) ((l.filter p).map W.row))] (accH 5 ((l.filter p).map W.row)))) :
    ∀ (suf pre : List W), l = pre ++ suf →
    ev P (.loop 0 [1, 5, 8, 9, 10] F_waitlist_filter_L0 [(1, .d (.fn f first caps)), (5, accV 5 (.d (.sl 5 true [])) ((pre.filter p).map W.row)), (8, .d (.sl 5 nl (l.map W.row))), (9, .d (I' l.length)), (10, .d (I' pre.length))] (accH 5 ((pre.filter p).map W.row))) = R := by
  intro suf
  induction suf with
  | nil =>
    intro pre hl
    have hlp : l = pre := by simp [hl]
    subst hlp
    rw [ev_loop, hR]
    conv => lhs; arg 4; unfold F_waitlist_filter_L0
    cases hf : l.filter p with
    | nil => simp [accV, accH]
    | cons a r => simp [accV, accH, reachC, cut, W.row]
  | cons w suf ih =>
    intro pre hl
    clear hR
    have hg : l[pre.length]? = some w := by simp [hl]
    have hlt : (pre.length : Int) < l.length := by simp [hl]; omega
    have hnext : IntKind.i64.wrap ((pre.length : Int) + 1) = pre.length + 1 := wrap_i64 (by omega) (by omega)
    have ih' := ih (pre ++ [w]) (by simp [hl])
    simp at ih' hp
    rw [ev_loop]
    conv => lhs; arg 4; unfold F_waitlist_filter_L0
    cases hf : pre.filter p with
    | nil =>
      simp [hlt, hg, W.row, hp, allD_mid, accV, accH]
      cases hw : p w
      · simp [hw, hnext, hf, accV, accH, reachC] at ih' ⊢
        exact ih'
      · have hr : 1 ≤ room := by decide
        simp [hw, hnext, hf, hr, accV, accH, reachC, W.row] at ih' ⊢
        exact ih'
    | cons a r =>
      have hrl : r.length < 1000000 := by
        have h1 : (pre.filter p).length ≤ pre.length := List.length_filter_le _ _
        have h2 : pre.length ≤ l.length := by simp [hl]
        rw [hf] at h1; simp at h1; omega
      have hr : r.length + 1 + 1 ≤ room := by unfold room; omega
      simp [hlt, hg, W.row, hp, allD_mid, accV, accH]
      cases hw : p w
      · simp [hw, hnext, hf, accV, accH, reachC, W.row] at ih' ⊢
        exact ih'
      · simp [hw, hnext, hf, hr, accV, accH, reachC, W.row, overlay, take_map_len, drop_map_len, Nat.not_succ_le_self] at ih' ⊢
        exact ih'
theorem ev_Remove (nl : Bool) (l : List W) (t : Int) (hn : l.length ≤ 1000000) :
    ev P (.call waitlist_Remove [.d (.sl 5 nl (l.map W.row)), .d (I' t)] []) = some (.val (.d (.sl 5 (l.filter fun w => w.task != t).isEmpty ((l.filter fun w => w.task != t).map W.row))) []) := by
  have hf : ev P (.call waitlist_filter [.d (.sl 5 nl (l.map W.row)), .d (.fn waitlist_RemoveC1 [] [.ref [I' t]])] []) = some (.val (.d (.sl 5 (l.filter fun w => w.task != t).isEmpty ((l.filter fun w => w.task != t).map W.row))) []) := by
    rw [ev_call P_waitlist_filter rfl]
    have hl := loop_filter (f := waitlist_RemoveC1) (first := []) (caps := [.ref [I' t]]) (p := fun w => w.task != t) nl l hn (by intro a b c d e; simp [ev_RemoveC1]) _ rfl l [] rfl
    simp [accV, accH] at hl
    simp [F_waitlist_filter, hl]
    cases hf : l.filter fun w => w.task != t with
    | nil => simp
    | cons a r => simp [reachC, cut, W.row, take_map_len]
  rw [ev_call P_waitlist_Remove rfl]
  simp [F_waitlist_Remove, hf]
def qbad (own : Int) (w : W) : Bool := w.op != 50 || w.value != 0 || w.case != -1 || w.task == own
def qcheck (own : Int) : List W → List W → Bool
  | _, [] => true
  | pre, w :: r => !qbad own w && !pre.any (fun x => x.task == w.task) && qcheck own (pre ++ [w]) r
theorem loop_valid {own cnt time : Int} {h1 h2 h3 : D} {cl : Bool} {val : Int} (nl : Bool) (l : List W) (hn : l.length ≤ 1000000) :
    ∀ (suf pre : List W), l = pre ++ suf →
    ev P (.loop 0 [1, 61, 62, 63] F_mutex_valid_L0 [(1, .d (.ref [I' own, I' cnt, I' time, h1, .sl 5 nl (l.map W.row), h2, h3, .b cl, I' val])), (61, .d (.sl 5 nl (l.map W.row))), (62, .d (I' l.length)), (63, .d (I' pre.length))] []) =
      if qcheck own pre suf = true then some (.out (.exit 0) [] []) else some (.out .ret [(2, .d (.b false))] []) := by
  intro suf
  induction suf with
  | nil =>
    intro pre hl
    have : l.length = pre.length := by simp [hl]
    rw [ev_loop]
    conv => lhs; arg 4; unfold F_mutex_valid_L0
    simp [this, qcheck]
  | cons w suf ih =>
    intro pre hl
    have hg : l[pre.length]? = some w := by simp [hl]
    have hlt : (pre.length : Int) < l.length := by simp [hl]; omega
    have hnext : IntKind.i64.wrap ((pre.length : Int) + 1) = pre.length + 1 := wrap_i64 (by omega) (by omega)
    have ih' := ih (pre ++ [w]) (by simp [hl])
    have hsub : (l.map W.row).take pre.length = pre.map W.row := by simp [hl]
    have hle : pre.length ≤ l.length := by simp [hl]
    have hc := ev_ContainsFunc (f := mutex_validC1) (first := []) (caps := [.ref w.row]) (p := fun x => x.task == w.task) nl pre (by have : pre.length ≤ l.length := by { simp [hl] }; omega) (by intro a b c d e; simp [W.row, ev_validC1])
    simp [W.row] at ih' hc
    rw [ev_loop]
    conv => lhs; arg 4; unfold F_mutex_valid_L0
    simp [hlt, hg, W.row, hsub]
    cases hq : (w.op != 50 || w.value != 0 || w.case != -1 || w.task == own)
    · simp [hg, hlt, W.row, hsub, hc, hle]
      have hq' : qbad own w = false := hq
      cases ha : pre.any fun x => x.task == w.task
      · simp only [ha, hq', qcheck, Bool.not_false, Bool.true_and]
        simp [hnext]
        exact ih'
      · simp only [ha, hq', qcheck, Bool.not_false, Bool.not_true, Bool.true_and, Bool.false_and]
        simp
    · have hq' : qbad own w = true := hq
      simp [hq', qcheck]
end Go.VS.M
namespace Go.VS.M
abbrev rows1 (l : List Int) : List (List D) := l.map fun x => [I' x]
abbrev hD (n : Bool) (l : List Int) : D := .sl 1 n (rows1 l)
abbrev qD (n : Bool) (l : List W) : D := .sl 5 n (l.map W.row)
abbrev cD (n : Bool) (l : List (List D)) : D := .sl 2 n l
def mvalid (own cnt time : Int) (hs : List Int) (q : List W) (bs : List Int) (cs : List (List D)) (cl : Bool) (val : Int) : Bool :=
  !((own != -1 && !isTask own) || (own == -1 && decide (0 < q.length))) && !(cnt != 0 || time != 0 || val != 0 || cl || decide ((0 : Int) < hs.length + bs.length + cs.length)) && wchk q == 0 && qcheck own [] q
theorem ev_mvalid (own cnt time : Int) (hn : Bool) (hs : List Int) (qn : Bool) (q : List W) (bn : Bool) (bs : List Int) (cn : Bool) (cs : List (List D)) (cl : Bool) (val : Int)
    (h1 : hs.length ≤ 1000000) (h2 : q.length ≤ 1000000) (h3 : bs.length ≤ 1000000) (h4 : cs.length ≤ 1000000) :
    ev P (.call mutex_valid [.d (.ag [I' own, I' cnt, I' time, hD hn hs, qD qn q, hD bn bs, cD cn cs, .b cl, I' val])] []) = some (.val (.d (.b (mvalid own cnt time hs q bs cs cl val))) []) := by
  rw [ev_call P_mutex_valid rfl]
  have hl := loop_valid (own := own) (cnt := cnt) (time := time) (h1 := hD hn hs) (h2 := hD bn bs) (h3 := cD cn cs) (cl := cl) (val := val) qn q h2 q [] rfl
  simp at hl
  simp [F_mutex_valid, ev_isTask]
  cases hA : (own != -1 && !isTask own || own == -1 && decide (0 < q.length))
  · simp
    rw [wrap_i64 (x := (hs.length : Int) + bs.length) (by omega) (by omega), wrap_i64 (x := (hs.length : Int) + bs.length + cs.length) (by omega) (by omega)]
    cases hB : (cnt != 0 || time != 0 || val != 0 || cl || decide ((0 : Int) < hs.length + bs.length + cs.length))
    · simp [ev_wCheck]
      cases hC : wchk q == 0
      · have hC' : (wchk q != 0) = true := by simp [bne, hC]
        simp only [hC', mvalid, hA, hB, hC]
        simp
      · have hC' : (wchk q != 0) = false := by simp [bne, hC]
        simp only [hC', mvalid, hA, hB, hC]
        simp [hl]
        cases qcheck own [] q <;> simp
    · simp [mvalid, hA, hB]
  · simp [mvalid, hA]
def mnew (k sz ot : Int) : Int := if (k != 1) = true then 8 else if (sz != 0 || ot != 0) = true then 2 else 0
def zrow : List D := [I' 0, I' 0, I' 0, hD true [], qD true [], hD true [], cD true [], .b false, I' 0]
def frow : List D := [I' (-1), I' 0, I' 0, hD true [], qD true [], hD true [], cD true [], .b false, I' 0]
theorem ev_mNew (nm : D) (k sz ot : Int) : ev P (.call mutex_New [.d (.ag [nm, I' k, I' sz, I' ot])] []) =
    some (.val (.tu [.d (.ag (if mnew k sz ot = 0 then frow else zrow)), .d (I' (mnew k sz ot))]) []) := by
  rw [ev_call P_mutex_New rfl]
  cases h1 : k != 1 <;> simp only [mnew, h1]
  · cases h2 : sz != 0 || ot != 0 <;> simp [F_mutex_New, h1, h2, frow, zrow]
  · simp [F_mutex_New, h1, zrow]
theorem ev_mCheck (nm : D) (k sz ot : Int) (own cnt time : Int) (hn : Bool) (hs : List Int) (qn : Bool) (q : List W) (bn : Bool) (bs : List Int) (cn : Bool) (cs : List (List D)) (cl : Bool) (val : Int)
    (h1 : hs.length ≤ 1000000) (h2 : q.length ≤ 1000000) (h3 : bs.length ≤ 1000000) (h4 : cs.length ≤ 1000000) :
    ev P (.call mutex_Check [.d (.ag [nm, I' k, I' sz, I' ot]), .d (.ag [I' own, I' cnt, I' time, hD hn hs, qD qn q, hD bn bs, cD cn cs, .b cl, I' val])] []) =
      some (.val (.d (I' (if mnew k sz ot = 0 then (if mvalid own cnt time hs q bs cs cl val then 0 else 1) else mnew k sz ot))) []) := by
  have hv := ev_mvalid own cnt time hn hs qn q bn bs cn cs cl val h1 h2 h3 h4
  rw [ev_call P_mutex_Check rfl]
  cases hm : mnew k sz ot == 0
  · have hm' : mnew k sz ot ≠ 0 := by simpa using hm
    have hm2 : (mnew k sz ot != 0) = true := by simpa using hm'
    simp [F_mutex_Check, ev_mNew, hm', hm2, zrow]
  · have hm' : mnew k sz ot = 0 := by simpa using hm
    simp [F_mutex_Check, ev_mNew, hm', frow, hv]
    cases mvalid own cnt time hs q bs cs cl val <;> simp
end Go.VS.M
namespace Go.VS.M
theorem loop_SameInts (n1 n2 : Bool) (l m : List Int) (hn : l.length ≤ 1000000) (hm : l.length = m.length) : ∀ (suf suf' pre : List Int), l = pre ++ suf → m = pre ++ suf' →
    ev P (.loop 0 [0, 1, 5] F_q04_SameInts_L0 [(0, .d (hD n1 l)), (1, .d (hD n2 m)), (5, .d (I' pre.length))] []) =
      if suf = suf' then some (.out (.exit 0) [] []) else some (.out .ret [(4, .d (.b false))] []) := by
  intro suf
  induction suf with
  | nil =>
    intro suf' pre hl hl'
    have h1 : l.length = pre.length := by simp [hl]
    have : suf' = [] := by
      have h2 : m.length = pre.length + suf'.length := by simp [hl']
      exact List.length_eq_zero_iff.1 (by omega)
    subst this
    rw [ev_loop]
    conv => lhs; arg 4; unfold F_q04_SameInts_L0
    simp [h1]
  | cons w suf ih =>
    intro suf' pre hl hl'
    have hg : l[pre.length]? = some w := by simp [hl]
    have hlt : (pre.length : Int) < l.length := by simp [hl]; omega
    have hnext : IntKind.i64.wrap ((pre.length : Int) + 1) = pre.length + 1 := wrap_i64 (by omega) (by omega)
    cases suf' with
    | nil => exfalso; simp [hl, hl'] at hm
    | cons w' suf' =>
    have hg' : m[pre.length]? = some w' := by simp [hl']
    rw [ev_loop]
    conv => lhs; arg 4; unfold F_q04_SameInts_L0
    by_cases hw : w = w'
    · subst hw
      have ih' := ih suf' (pre ++ [w]) (by simp [hl]) (by simp [hl'])
      simp at ih'
      simp [hlt, hg, hg', hnext]
      exact ih'
    · have hw2 : (w != w') = true := by simpa using hw
      simp [hlt, hg, hg', hw2, hw]
theorem ev_SameInts (n1 n2 : Bool) (l m : List Int) (hn : l.length ≤ 1000000) :
    ev P (.call q04_SameInts [.d (hD n1 l), .d (hD n2 m)] []) = some (.val (.d (.b (l == m))) []) := by
  rw [ev_call P_q04_SameInts rfl]
  by_cases hlen : l.length = m.length
  · have hl := loop_SameInts n1 n2 l m hn hlen l m [] rfl rfl
    simp at hl
    have : ((l.length : Int) != m.length) = false := by simp [hlen]
    simp [F_q04_SameInts, this]
    simp [hl]
    by_cases h : l = m <;> simp [h]
  · have : ((l.length : Int) != m.length) = true := by simp; omega
    have h2 : ¬ l = m := fun h => hlen (by rw [h])
    simp [F_q04_SameInts, this, h2]
theorem W.neq {w w' : W} (h : ¬ w = w') : (!w.task == w'.task || (!w.op == w'.op || (!w.value == w'.value || (!w.prio == w'.prio || !w.case == w'.case)))) = true := by
  cases hb : (!w.task == w'.task || (!w.op == w'.op || (!w.value == w'.value || (!w.prio == w'.prio || !w.case == w'.case))))
  · exfalso; apply h
    simp at hb
    cases w; cases w'; simp at hb ⊢; exact hb
  · rfl
theorem loop_SameWaiters (n1 n2 : Bool) (l m : List W) (hn : l.length ≤ 1000000) (hm : l.length = m.length) : ∀ (suf suf' pre : List W), l = pre ++ suf → m = pre ++ suf' →
    ev P (.loop 0 [0, 1, 5] F_q16_SameWaiters_L0 [(0, .d (qD n1 l)), (1, .d (qD n2 m)), (5, .d (I' pre.length))] []) =
      if suf = suf' then some (.out (.exit 0) [] []) else some (.out .ret [(4, .d (.b false))] []) := by
  intro suf
  induction suf with
  | nil =>
    intro suf' pre hl hl'
    have h1 : l.length = pre.length := by simp [hl]
    have : suf' = [] := by
      have h2 : m.length = pre.length + suf'.length := by simp [hl']
      exact List.length_eq_zero_iff.1 (by omega)
    subst this
    rw [ev_loop]
    conv => lhs; arg 4; unfold F_q16_SameWaiters_L0
    simp [h1]
  | cons w suf ih =>
    intro suf' pre hl hl'
    have hg : l[pre.length]? = some w := by simp [hl]
    have hlt : (pre.length : Int) < l.length := by simp [hl]; omega
    have hnext : IntKind.i64.wrap ((pre.length : Int) + 1) = pre.length + 1 := wrap_i64 (by omega) (by omega)
    cases suf' with
    | nil => exfalso; simp [hl, hl'] at hm
    | cons w' suf' =>
    have hg' : m[pre.length]? = some w' := by simp [hl']
    rw [ev_loop]
    conv => lhs; arg 4; unfold F_q16_SameWaiters_L0
    by_cases hw : w = w'
    · subst hw
      have ih' := ih suf' (pre ++ [w]) (by simp [hl]) (by simp [hl'])
      simp at ih'
      simp [hlt, hg, hg', hnext, W.row]
      exact ih'
    · have hw2 := W.neq hw
      simp [hlt, hg, hg', hw2, hw, W.row]
theorem ev_SameWaiters (n1 n2 : Bool) (l m : List W) (hn : l.length ≤ 1000000) :
    ev P (.call q16_SameWaiters [.d (qD n1 l), .d (qD n2 m)] []) = some (.val (.d (.b (l == m))) []) := by
  rw [ev_call P_q16_SameWaiters rfl]
  by_cases hlen : l.length = m.length
  · have hl := loop_SameWaiters n1 n2 l m hn hlen l m [] rfl rfl
    simp at hl
    have : ((l.length : Int) != m.length) = false := by simp [hlen]
    simp [F_q16_SameWaiters, this]
    simp [hl]
    by_cases h : l = m <;> simp [h]
  · have : ((l.length : Int) != m.length) = true := by simp; omega
    have h2 : ¬ l = m := fun h => hlen (by rw [h])
    simp [F_q16_SameWaiters, this, h2]
theorem ev_sameCursors (n1 n2 : Bool) (l : List (List D)) :
    ev P (.call q16_sameCursors [.d (cD n1 l), .d (cD n2 [])] []) = some (.val (.d (.b l.isEmpty)) []) := by
  rw [ev_call P_q16_sameCursors rfl]
  cases l with
  | nil =>
    have hl : ev P (.loop 0 [0, 1, 5] F_q16_sameCursors_L0 [(0, .d (cD n1 [])), (1, .d (cD n2 [])), (5, .d (I' 0))] []) = some (.out (.exit 0) [] []) := by
      rw [ev_loop]
      conv => lhs; arg 4; unfold F_q16_sameCursors_L0
      simp
    simp [F_q16_sameCursors, hl]
  | cons a r =>
    have : (((r.length : Int) + 1) != 0) = true := by simp; omega
    simp [F_q16_sameCursors, this]
def sameB (own cnt time : Int) (hs : List Int) (q : List W) (bs : List Int) (cs : List (List D)) (cl : Bool) (val : Int)
    (own' cnt' time' : Int) (hs' : List Int) (q' : List W) (bs' : List Int) (cl' : Bool) (val' : Int) : Bool :=
  !(own != own' || cnt != cnt' || time != time' || !cl == cl' || val != val') && (hs == hs' && bs == bs' && q == q' && cs.isEmpty)
theorem ev_Same (own cnt time : Int) (hn : Bool) (hs : List Int) (qn : Bool) (q : List W) (bn : Bool) (bs : List Int) (cn : Bool) (cs : List (List D)) (cl : Bool) (val : Int)
    (own' cnt' time' : Int) (hn' : Bool) (hs' : List Int) (qn' : Bool) (q' : List W) (bn' : Bool) (bs' : List Int) (cn' : Bool) (cl' : Bool) (val' : Int)
    (h1 : hs.length ≤ 1000000) (h2 : q.length ≤ 1000000) (h3 : bs.length ≤ 1000000) (h4 : cs.length ≤ 1000000) :
    ev P (.call q16_Same [.d (.ag [I' own, I' cnt, I' time, hD hn hs, qD qn q, hD bn bs, cD cn cs, .b cl, I' val]), .d (.ag [I' own', I' cnt', I' time', hD hn' hs', qD qn' q', hD bn' bs', cD cn' [], .b cl', I' val'])] []) =
      some (.val (.d (.b (sameB own cnt time hs q bs cs cl val own' cnt' time' hs' q' bs' cl' val'))) []) := by
  rw [ev_call P_q16_Same rfl]
  have e1 := ev_SameInts hn hn' hs hs' h1
  have e2 := ev_SameInts bn bn' bs bs' h3
  have e3 := ev_SameWaiters qn qn' q q' h2
  have e4 := ev_sameCursors cn cn' cs
  simp [F_q16_Same]
  cases hA : (own != own' || cnt != cnt' || time != time' || !cl == cl' || val != val')
  · have hS : sameB own cnt time hs q bs cs cl val own' cnt' time' hs' q' bs' cl' val' = (hs == hs' && bs == bs' && q == q' && cs.isEmpty) := by simp only [sameB, hA, Bool.not_false, Bool.true_and]
    rw [hS]
    simp [e1, e2, e3, e4]
  · have hS : sameB own cnt time hs q bs cs cl val own' cnt' time' hs' q' bs' cl' val' = false := by simp only [sameB, hA, Bool.not_true, Bool.false_and]
    rw [hS]
    simp
end Go.VS.M
namespace Go.VS.M
def cbig (c : List D) : Bool := match c with | [_, .sl _ _ r] => decide (120 < r.length) | _ => false
theorem loop_Great (row : List D) (cn : Bool) (cs : List (List D)) (hrow : row.length = 9) (h6 : row.drop 6 = cD cn cs :: row.drop 7) (hn : cs.length ≤ 1000000)
    (hcs : ∀ c, c ∈ cs → ∃ t nb r, c = [I' t, .sl 1 nb r]) : ∀ (suf pre : List (List D)), cs = pre ++ suf →
    ev P (.loop 0 [1, 3] F_q16_Great_L0 [(1, .d (.ref row)), (3, .d (I' pre.length))] []) =
      if suf.any cbig = true then some (.out .ret [(2, .d (.b true))] []) else some (.out (.exit 0) [] []) := by
  intro suf
  induction suf with
  | nil =>
    intro pre hl
    have : cs.length = pre.length := by simp [hl]
    rw [ev_loop]
    conv => lhs; arg 4; unfold F_q16_Great_L0
    simp [this, hrow, h6]
  | cons w suf ih =>
    intro pre hl
    have hg : cs[pre.length]? = some w := by simp [hl]
    have hlt : (pre.length : Int) < cs.length := by simp [hl]; omega
    have hnext : IntKind.i64.wrap ((pre.length : Int) + 1) = pre.length + 1 := wrap_i64 (by omega) (by omega)
    have ih' := ih (pre ++ [w]) (by simp [hl])
    simp at ih'
    obtain ⟨t, nb, r, rfl⟩ := hcs w (by simp [hl])
    rw [ev_loop]
    conv => lhs; arg 4; unfold F_q16_Great_L0
    simp [hlt, hg, hrow, h6]
    by_cases hb : 120 < r.length
    · have hb' : (120 : Int) < r.length := by omega
      simp [hb', cbig, hb]
    · have hb' : ¬ (120 : Int) < r.length := by omega
      simp [hb', cbig, hb, hnext]
      exact ih'
def greatB (hs : List Int) (q : List W) (bs : List Int) (cs : List (List D)) : Bool :=
  (decide ((40 : Int) < hs.length) || decide ((40 : Int) < q.length) || decide ((120 : Int) < bs.length) || decide ((40 : Int) < cs.length)) || cs.any cbig
theorem ev_Great (own cnt time : Int) (hn : Bool) (hs : List Int) (qn : Bool) (q : List W) (bn : Bool) (bs : List Int) (cn : Bool) (cs : List (List D)) (cl : Bool) (val : Int)
    (hcs : ∀ c, c ∈ cs → ∃ t nb r, c = [I' t, .sl 1 nb r]) :
    ev P (.call q16_Great [.d (.ag [I' own, I' cnt, I' time, hD hn hs, qD qn q, hD bn bs, cD cn cs, .b cl, I' val])] []) = some (.val (.d (.b (greatB hs q bs cs))) []) := by
  rw [ev_call P_q16_Great rfl]
  simp [F_q16_Great]
  cases hA : (decide ((40 : Int) < hs.length) || decide ((40 : Int) < q.length) || decide ((120 : Int) < bs.length) || decide ((40 : Int) < cs.length))
  · have hlen : ¬ (40 : Int) < cs.length := by simp at hA; omega
    have hl := loop_Great [I' own, I' cnt, I' time, hD hn hs, qD qn q, hD bn bs, cD cn cs, .b cl, I' val] cn cs rfl rfl (by omega) hcs cs [] rfl
    simp at hl
    have hS : greatB hs q bs cs = cs.any cbig := by simp only [greatB, hA, Bool.false_or]
    rw [hS]
    simp [hl]
    cases hB : cs.any cbig
    · have : ∀ x, x ∈ cs → cbig x = false := by simpa using hB
      rw [if_neg (by simpa using this)]
      simp
    · have : ∃ x, x ∈ cs ∧ cbig x = true := by simpa using hB
      simp [this]
  · have hS : greatB hs q bs cs = true := by simp only [greatB, hA, Bool.true_or]
    rw [hS]
    simp
end Go.VS.M
namespace Go.VS.M
def Desc (q : List W) : Prop := q.Pairwise fun a b => b.prio ≤ a.prio
def bnd (p : Int) (q : List W) : Nat := (q.takeWhile fun w => decide (p ≤ w.prio)).length
theorem bnd_le (p : Int) : ∀ (q : List W), bnd p q ≤ q.length
  | [] => by simp [bnd]
  | w :: q => by
    have := bnd_le p q
    unfold bnd at *
    simp only [List.takeWhile_cons]
    split <;> simp; omega
theorem bnd_lt {p : Int} {w : W} : ∀ {q : List W} {k : Nat}, Desc q → q[k]? = some w → (k < bnd p q ↔ p ≤ w.prio)
  | [], k, _, h => by simp at h
  | a :: q, 0, _, h => by
    have : a = w := by simpa using h
    subst this
    by_cases hp : p ≤ a.prio <;> simp [bnd, List.takeWhile_cons, hp]
  | a :: q, k + 1, hd, h => by
    have hd' := List.pairwise_cons.1 hd
    have hq : q[k]? = some w := by simpa using h
    have hw : w ∈ q := List.mem_of_getElem? hq
    have h1 := hd'.1 w hw
    have ih := bnd_lt (p := p) (k := k) hd'.2 hq
    by_cases hp : p ≤ a.prio
    · have : bnd p (a :: q) = bnd p q + 1 := by simp [bnd, List.takeWhile_cons, hp]
      rw [this]; constructor <;> intro h3
      · exact ih.1 (by omega)
      · have := ih.2 h3; omega
    · have : bnd p (a :: q) = 0 := by simp [bnd, List.takeWhile_cons, hp]
      rw [this]; constructor <;> intro h3 <;> omega
theorem ev_isNaN (n : Int) : ev P (.call cmp_isNaN_int [.d (I' n)] []) = some (.val (.d (.b false)) []) := by
  rw [ev_call P_cmp_isNaN_int rfl]
  simp [F_cmp_isNaN_int]
theorem ev_lockC1 (a b c d e p : Int) : ev P (.call mutex_lockC1 [.d (.ag [I' a, I' b, I' c, I' d, I' e]), .d (I' p)] []) = some (.val (.d (I' (if p ≤ d then -1 else 1))) []) := by
  have hc : d < p → ev P (.call cmp_Compare_int [.d (I' p), .d (I' d)] []) = some (.val (.d (I' 1)) []) := by
    intro h
    have h1 : ¬ p < d := by omega
    rw [ev_call P_cmp_Compare_int rfl]
    simp [F_cmp_Compare_int, ev_isNaN, h1, h]
  rw [ev_call P_mutex_lockC1 rfl]
  by_cases h : p ≤ d
  · simp [F_mutex_lockC1, h]
  · simp [F_mutex_lockC1, h, hc (by omega)]
theorem mid_eq {i j : Nat} (h : i + j ≤ 4000000) : IntKind.i64.wrap ((IntKind.u64.wrap ((i : Int) + j)).fdiv (2 ^ min 1 IntKind.u64.bits)) = (((i + j) / 2 : Nat) : Int) := by
  have h1 : IntKind.u64.wrap ((i : Int) + j) = (i : Int) + j := by
    have e0 : IntKind.u64.bits = 64 := rfl
    simp only [IntKind.wrap, e0, IntKind.signed, Bool.false_and, Bool.false_eq_true, if_false]
    omega
  have h2 : (2 : Int) ^ min 1 IntKind.u64.bits = 2 := by decide
  rw [h1, h2, Int.fdiv_eq_ediv_of_nonneg _ (by omega), wrap_i64 (by omega) (by omega)]
  omega
theorem loop_BSF (nl : Bool) (q : List W) (p : Int) (hn : q.length ≤ 1000000) (hd : Desc q) : ∀ (n i j : Nat), j - i ≤ n → i ≤ bnd p q → bnd p q ≤ j → j ≤ q.length →
    ev P (.loop 0 [0, 1, 2, 8, 9, 10] F_slices_BinarySearchFunc_api_Waiter_api_Waiter_int_L0 [(0, .d (qD nl q)), (1, .d (I' p)), (2, .d (.fn mutex_lockC1 [] [])), (8, .d (I' q.length)), (9, .d (I' i)), (10, .d (I' j))] []) =
      some (.out (.exit 0) [(0, .d (qD nl q)), (1, .d (I' p)), (2, .d (.fn mutex_lockC1 [] [])), (8, .d (I' q.length)), (9, .d (I' (bnd p q)))] []) := by
  intro n
  induction n with
  | zero =>
    intro i j h1 h2 h3 h4
    have : i = bnd p q := by omega
    have : j = bnd p q := by omega
    subst i; subst j
    rw [ev_loop]
    conv => lhs; arg 4; unfold F_slices_BinarySearchFunc_api_Waiter_api_Waiter_int_L0
    simp
  | succ n ih =>
    intro i j h1 h2 h3 h4
    by_cases hij : i = j
    · have : i = bnd p q := by omega
      have : j = bnd p q := by omega
      subst i; subst j
      rw [ev_loop]
      conv => lhs; arg 4; unfold F_slices_BinarySearchFunc_api_Waiter_api_Waiter_int_L0
      simp
    · have hlt : i < j := by omega
      have hw1 : IntKind.i64.wrap ((i : Int) + j) = i + j := wrap_i64 (by omega) (by omega)
      rw [ev_loop]
      conv => lhs; arg 4; unfold F_slices_BinarySearchFunc_api_Waiter_api_Waiter_int_L0
      have hm := mid_eq (i := i) (j := j) (by omega)
      generalize hmm : (i + j) / 2 = m at hm
      have hm1 : i ≤ m := by omega
      have hm2 : m < j := by omega
      obtain ⟨w, hw⟩ : ∃ w, q[m]? = some w := ⟨q[m]'(by omega), by simp⟩
      have hb := bnd_lt (p := p) hd hw
      have hm3 : IntKind.i64.wrap ((m : Int) + 1) = m + 1 := wrap_i64 (by omega) (by omega)
      simp [hlt, hw1, hm, hw, W.row, ev_lockC1]
      by_cases hp : p ≤ w.prio
      · simp [hp, hm3]
        have := ih (m + 1) j (by omega) (by omega) (by omega) h4
        simpa using this
      · simp [hp]
        exact ih i m (by omega) (by omega) (by omega) (by omega)
theorem ev_BSF (nl : Bool) (q : List W) (p : Int) (hn : q.length ≤ 1000000) (hd : Desc q) :
    ev P (.call slices_BinarySearchFunc_api_Waiter_api_Waiter_int [.d (qD nl q), .d (I' p), .d (.fn mutex_lockC1 [] [])] []) = some (.val (.tu [.d (I' (bnd p q)), .d (.b false)]) []) := by
  rw [ev_call P_slices_BinarySearchFunc_api_Waiter_api_Waiter_int rfl]
  have hb := bnd_le p q
  have hl := loop_BSF nl q p hn hd q.length 0 q.length (by omega) (by omega) hb (by omega)
  simp at hl
  simp [F_slices_BinarySearchFunc_api_Waiter_api_Waiter_int, hl]
  by_cases h : bnd p q < q.length
  · obtain ⟨w, hw⟩ : ∃ w, q[bnd p q]? = some w := ⟨q[bnd p q], by simp⟩
    have hb2 := bnd_lt (p := p) hd hw
    have hp : ¬ p ≤ w.prio := fun h => by have := hb2.2 h; omega
    simp [h, hw, W.row, ev_lockC1, hp]
    split <;> decide
  · simp [h]
theorem ev_Clone (nl : Bool) (q : List W) (hnl : nl = true → q = []) (hn : q.length ≤ 1000000) :
    ev P (.call slices_Clone_api_Waiter_api_Waiter [.d (qD nl q)] []) = if nl = true then some (.val (.d (.sl 5 true [])) []) else some (.val (.asl 0 0 q.length) [.arrD 5 true (q.map W.row)]) := by
  rw [ev_call P_slices_Clone_api_Waiter_api_Waiter rfl]
  cases nl
  · have hr : q.length ≤ room := by unfold room; omega
    cases q with
    | nil => simp [F_slices_Clone_api_Waiter_api_Waiter, mkRows, allDs, reachC, cut, endH]
    | cons a r =>
      simp at hr
      simp [F_slices_Clone_api_Waiter_api_Waiter, mkRows, allDs, reachC, cut, hr, endH]
  · simp [F_slices_Clone_api_Waiter_api_Waiter, endH]
end Go.VS.M
namespace Go.VS.M
structure Rp where
  own : Int
  q : List W
  parked : Bool
  ok : Bool
  wk : Option Int
  e : Int
  deriving DecidableEq
def zr (e : Int) : Rp := ⟨0, [], false, false, none, e⟩
def wrow (t : Int) : List D := [I' t, I' 50, I' 0, .b true, I' (-1)]
def wks : Option Int → List (List D)
  | none => []
  | some t => [wrow t]
@[simp] theorem wks_none : wks none = [] := rfl
@[simp] theorem wks_some (t : Int) : wks (some t) = [wrow t] := rfl
abbrev stL (hn qn bn cn : Bool) (own : Int) (q : List W) : List D := [I' own, I' 0, I' 0, hD hn [], qD qn q, hD bn [], cD cn [], .b false, I' 0]
abbrev rpL (hn qn bn cn wn : Bool) (r : Rp) : List D :=
  [I' r.own, I' 0, I' 0, hD hn [], qD qn r.q, hD bn [], cD cn [], .b false, I' 0, .b r.parked, I' 0, .b r.ok, .sl 5 wn (wks r.wk)]
def Rets (x : Option Res) (r : Rp) : Prop := ∃ hn qn bn cn wn, x = some (.val (.tu [.d (.ag (rpL hn qn bn cn wn r)), .d (I' r.e)]) []) ∧ (qn = true → r.q = [])
def lockS (own : Int) (q : List W) (t p : Int) : Rp :=
  if (own == -1) = true then ⟨t, q, false, true, none, 0⟩
  else if (own == t) = true then zr 17
  else ⟨own, q.take (bnd p q) ++ ⟨t, 50, 0, p, -1⟩ :: q.drop (bnd p q), true, false, none, 0⟩
def unlockS (own : Int) (q : List W) (t : Int) : Rp :=
  if (own != t) = true then zr 20
  else match q with
    | [] => ⟨-1, [], false, true, none, 0⟩
    | w :: r => ⟨w.task, r, false, true, some w.task, 0⟩
theorem ev_lock (hn qn bn cn : Bool) (own : Int) (q : List W) (t o v p n : Int) (hnl : qn = true → q = []) (hq : q.length ≤ 1000000) (hd : Desc q) :
    Rets (ev P (.call mutex_lock [.d (.ag (stL hn qn bn cn own q)), .d (.ag [I' t, I' o, I' v, I' p, I' n])] [])) (lockS own q t p) := by
  unfold lockS
  cases h1 : own == -1
  · cases h2 : own == t
    · refine ⟨hn, false, bn, cn, true, ?_, by simp⟩
      have hb := bnd_le p q
      have hB := ev_BSF qn q p hq hd
      have hC := ev_Clone qn q hnl hq
      rw [ev_call P_mutex_lock rfl]
      have hI := ev_prim P_slices_Insert_api_Waiter_api_Waiter (p := insP 5) rfl
      cases qn
      · have hr : q.length + 1 ≤ room := by unfold room; omega
        simp at hC
        have e1 : q.length + 1 ≤ bnd p q + (q.length - bnd p q + 1) := by omega
        have e2 : ∀ x : List D, List.take (q.length + 1) (List.take (bnd p q) (q.map W.row) ++ x :: List.drop (bnd p q) (q.map W.row)) = List.take (bnd p q) (q.map W.row) ++ x :: List.drop (bnd p q) (q.map W.row) :=
          fun x => List.take_of_length_le (by simp; omega)
        simp [F_mutex_lock, h1, h2, hB, hC, callD, callR, hI, insP, reachC, cut, insRows, hb, hr, sub, setAll, back, take_map_len, e1, e2, W.row]
      · have : q = [] := hnl rfl
        subst this
        simp at hC
        have e1 : bnd p [] = 0 := rfl
        have e2 : 1 ≤ room := by decide
        simp [F_mutex_lock, h1, h2, hB, hC, callD, callR, hI, insP, reachC, cut, insRows, e1, e2, back, setAll, W.row]
    · refine ⟨true, true, true, true, true, ?_, by simp [zr]⟩
      rw [ev_call P_mutex_lock rfl]
      simp [F_mutex_lock, h1, h2, zr]
  · refine ⟨hn, qn, bn, cn, true, ?_, by simpa using hnl⟩
    rw [ev_call P_mutex_lock rfl]
    simp [F_mutex_lock, h1]
theorem ev_unlock (hn qn bn cn : Bool) (own : Int) (q : List W) (t o v p n : Int) (hnl : qn = true → q = []) (hq : q.length ≤ 1000000) :
    Rets (ev P (.call mutex_unlock [.d (.ag (stL hn qn bn cn own q)), .d (.ag [I' t, I' o, I' v, I' p, I' n])] [])) (unlockS own q t) := by
  unfold unlockS
  cases h1 : own != t
  · cases q with
    | nil =>
      refine ⟨hn, qn, bn, cn, true, ?_, by simp⟩
      rw [ev_call P_mutex_unlock rfl]
      simp [F_mutex_unlock, h1]
    | cons w r =>
      have hqn : qn = false := by cases qn; rfl; simp at hnl
      subst hqn
      have hC := ev_Clone false r (by simp) (by simp at hq; omega)
      have hz : (((r.length : Int) + 1) == 0) = false := by simp; omega
      refine ⟨hn, false, bn, cn, false, ?_, by simp⟩
      simp at hC
      have e1 : (1 : Int) ≤ r.length + 1 := by omega
      rw [ev_call P_mutex_unlock rfl]
      simp [F_mutex_unlock, h1, hz, hC, callD, reachC, cut, W.row, take_map_len, wrow, e1]
  · refine ⟨true, true, true, true, true, ?_, by simp [zr]⟩
    rw [ev_call P_mutex_unlock rfl]
    simp [F_mutex_unlock, h1, zr]
def tryS (own : Int) (q : List W) (t p : Int) : Rp := if 0 ≤ own then ⟨own, q, false, false, none, 0⟩ else lockS own q t p
theorem ev_tryLock (hn qn bn cn : Bool) (own : Int) (q : List W) (t o v p n : Int) (hnl : qn = true → q = []) (hq : q.length ≤ 1000000) (hd : Desc q) :
    Rets (ev P (.call mutex_operationsC1 [.d (.ag (stL hn qn bn cn own q)), .d (.ag [I' t, I' o, I' v, I' p, I' n])] [])) (tryS own q t p) := by
  unfold tryS
  by_cases h1 : 0 ≤ own
  · refine ⟨hn, qn, bn, cn, true, ?_, by simpa [h1] using hnl⟩
    rw [ev_call P_mutex_operationsC1 rfl]
    simp [F_mutex_operationsC1, h1]
  · obtain ⟨hn', qn', bn', cn', wn', he, hq'⟩ := ev_lock hn qn bn cn own q t o v p n hnl hq hd
    rw [if_neg h1]
    refine ⟨hn', qn', bn', cn', wn', ?_, hq'⟩
    rw [ev_call P_mutex_operationsC1 rfl]
    simp [F_mutex_operationsC1, h1, he]
def opsM : O := .mp [(.i .i64 50, .d (.fn mutex_lock [] [])), (.i .i64 51, .d (.fn mutex_operationsC1 [] [])), (.i .i64 52, .d (.fn mutex_unlock [] []))]
theorem ev_operations : ev P (.call mutex_operations [] []) = some (.val (.mp 0) [opsM]) := by
  rw [ev_call P_mutex_operations rfl]
  simp [F_mutex_operations, endH, reachC, cut, opsM]
def applyS (own : Int) (q : List W) (op t p : Int) : Rp :=
  if op ≠ 50 ∧ op ≠ 51 ∧ op ≠ 52 then zr 8
  else if (!isTask t || decide (p < 0) || decide (9 < p)) = true then zr 2
  else if q.any (fun w => w.task == t) = true then zr 17
  else if op = 50 then lockS own q t p
  else if op = 51 then tryS own q t p
  else unlockS own q t
theorem ev_mApply1 (nm : D) (hn qn bn cn : Bool) (own : Int) (q : List W) (t o v p n : Int) (hnl : qn = true → q = []) (hq : q.length ≤ 1000000) (hd : Desc q)
    (hv : mvalid own 0 0 [] q [] [] false 0 = true) :
    Rets (ev P (.call mutex_Apply [.d (.ag [nm, I' 1, I' 0, I' 0]), .d (.ag (stL hn qn bn cn own q)), .d (.ag [I' t, I' o, I' v, I' p, I' n])] [])) (applyS own q o t p) := by
  have hC := ev_mCheck nm 1 0 0 own 0 0 hn [] qn q bn [] cn [] false 0 (by simp) hq (by simp) (by simp)
  have hm : mnew 1 0 0 = 0 := by decide
  simp [hv, hm] at hC
  have hw := ev_waits (own := own) (cnt := 0) (time := 0) (h1 := hD hn []) (h2 := hD bn []) (h3 := cD cn []) (qn := qn) (q := q) (cl := false) (val := 0) t hq
  unfold applyS
  by_cases h1 : o ≠ 50 ∧ o ≠ 51 ∧ o ≠ 52
  · rw [if_pos h1]
    obtain ⟨a1, a2, a3⟩ := h1
    refine ⟨true, true, true, true, true, ?_, by simp [zr]⟩
    rw [ev_call P_mutex_Apply rfl]
    simp [F_mutex_Apply, hC, callD, ev_operations, opsM, reachC, cut, a1, a2, a3, zr]
  · rw [if_neg h1]
    have h3 : o = 50 ∨ o = 51 ∨ o = 52 := by omega
    cases h2 : (!isTask t || decide (p < 0) || decide (9 < p))
    · rw [if_neg (by simp)]
      cases hW : q.any fun w => w.task == t
      · rw [if_neg (by simp)]
        rw [hW] at hw
        rcases h3 with rfl | rfl | rfl
        · obtain ⟨hn', qn', bn', cn', wn', he, hq'⟩ := ev_lock hn qn bn cn own q t 50 v p n hnl hq hd
          refine ⟨hn', qn', bn', cn', wn', ?_, hq'⟩
          rw [ev_call P_mutex_Apply rfl]
          simp [F_mutex_Apply, hC, callD, ev_operations, opsM, reachC, cut, ev_isTask, h2, hw, he]
        · obtain ⟨hn', qn', bn', cn', wn', he, hq'⟩ := ev_tryLock hn qn bn cn own q t 51 v p n hnl hq hd
          refine ⟨hn', qn', bn', cn', wn', ?_, hq'⟩
          rw [ev_call P_mutex_Apply rfl]
          simp [F_mutex_Apply, hC, callD, ev_operations, opsM, reachC, cut, ev_isTask, h2, hw, he]
        · obtain ⟨hn', qn', bn', cn', wn', he, hq'⟩ := ev_unlock hn qn bn cn own q t 52 v p n hnl hq
          refine ⟨hn', qn', bn', cn', wn', ?_, hq'⟩
          rw [ev_call P_mutex_Apply rfl]
          simp [F_mutex_Apply, hC, callD, ev_operations, opsM, reachC, cut, ev_isTask, h2, hw, he]
      · rw [if_pos rfl]
        rw [hW] at hw
        refine ⟨true, true, true, true, true, ?_, by simp [zr]⟩
        rcases h3 with rfl | rfl | rfl <;> rw [ev_call P_mutex_Apply rfl] <;>
        simp [F_mutex_Apply, hC, callD, ev_operations, opsM, reachC, cut, ev_isTask, h2, hw, zr]
    · rw [if_pos rfl]
      refine ⟨true, true, true, true, true, ?_, by simp [zr]⟩
      rcases h3 with rfl | rfl | rfl <;> rw [ev_call P_mutex_Apply rfl] <;>
      simp [F_mutex_Apply, hC, callD, ev_operations, opsM, reachC, cut, ev_isTask, h2, zr]
theorem ev_mApply0 (nm k sz ot s0 s1 s2 s3 s4 s5 s6 s7 s8 c0 c1 c2 c3 c4 : D) (e : Int) (he : e ≠ 0)
    (hC : ev P (.call mutex_Check [.d (.ag [nm, k, sz, ot]), .d (.ag [s0, s1, s2, s3, s4, s5, s6, s7, s8])] []) = some (.val (.d (I' e)) [])) :
    Rets (ev P (.call mutex_Apply [.d (.ag [nm, k, sz, ot]), .d (.ag [s0, s1, s2, s3, s4, s5, s6, s7, s8]), .d (.ag [c0, c1, c2, c3, c4])] [])) (zr e) := by
  have he' : (e != 0) = true := by simpa using he
  refine ⟨true, true, true, true, true, ?_, by simp [zr]⟩
  rw [ev_call P_mutex_Apply rfl]
  simp [F_mutex_Apply, hC, he', zr]
end Go.VS.M
namespace Go.VS.M
end Go.VS.M
namespace Go.VS.M
structure MV (own : Int) (q : List W) : Prop where
  rng : own = -1 ∨ (0 ≤ own ∧ own < 16)
  free : own = -1 → q = []
  desc : Desc q
  dis : q.Pairwise fun a b => a.task ≠ b.task
  all : ∀ w, w ∈ q → w.op = 50 ∧ w.value = 0 ∧ w.case = -1 ∧ w.task ≠ own ∧ 0 ≤ w.task ∧ w.task < 16 ∧ 0 ≤ w.prio ∧ w.prio ≤ 9
theorem wcheck_iff (d : Int) (hd : d = 2) : ∀ (suf : List W) (prev : Option W), wcheckFrom d prev suf = 0 ↔ (∀ w, w ∈ suf → wvalid w = true) ∧ (prev.toList ++ suf).Pairwise (fun a b => b.prio ≤ a.prio)
  | [], prev => by cases prev <;> simp [wcheckFrom]
  | w :: r, prev => by
    have ih := wcheck_iff d hd r (some w)
    unfold wcheckFrom
    cases hv : wvalid w
    · simp [hv]
    · cases prev with
      | none =>
        simp [hv, hd] at ih ⊢
        rw [ih]
      | some p =>
        simp only [Option.toList, List.singleton_append] at ih ⊢
        by_cases hp : p.prio < w.prio
        · simp [hd, hp]
          omega
        · simp [hd, hp] at ih ⊢
          rw [ih]
          constructor
          · rintro ⟨h1, h2, h3⟩
            refine ⟨⟨hv, h1⟩, ⟨by omega, ?_⟩, h2, h3⟩
            intro a ha
            have := h2 a ha; omega
          · rintro ⟨⟨_, h1⟩, ⟨_, _⟩, h2, h3⟩
            exact ⟨h1, h2, h3⟩
theorem qcheck_iff (own : Int) : ∀ (suf pre : List W), qcheck own pre suf = true ↔ (∀ w, w ∈ suf → qbad own w = false) ∧ (∀ a, a ∈ pre → ∀ b, b ∈ suf → a.task ≠ b.task) ∧ suf.Pairwise (fun a b => a.task ≠ b.task)
  | [], pre => by simp [qcheck]
  | w :: r, pre => by
    have ih := qcheck_iff own r (pre ++ [w])
    simp [qcheck, ih]
    constructor
    · rintro ⟨⟨h1, h2⟩, h3, h4, h5⟩
      refine ⟨⟨h1, h3⟩, fun a ha => ⟨h2 a ha, fun b hb => h4 a (.inl ha) b hb⟩, fun b hb => h4 w (.inr rfl) b hb, h5⟩
    · rintro ⟨⟨h1, h3⟩, h2, h4, h5⟩
      refine ⟨⟨h1, fun a ha => (h2 a ha).1⟩, h3, ?_, h5⟩
      rintro a (ha | rfl) b hb
      · exact (h2 a ha).2 b hb
      · exact h4 b hb
theorem mvalid_iff {own cnt time : Int} {hs : List Int} {q : List W} {bs : List Int} {cs : List (List D)} {cl : Bool} {val : Int} :
    mvalid own cnt time hs q bs cs cl val = true ↔ (cnt = 0 ∧ time = 0 ∧ hs = [] ∧ bs = [] ∧ cs = [] ∧ cl = false ∧ val = 0) ∧ q.length ≤ 96 ∧ MV own q := by
  by_cases h96 : q.length ≤ 96
  · have h96' : ¬ 96 < q.length := by omega
    have e1 := wcheck_iff 2 rfl q none
    have e2 := qcheck_iff own q []
    simp at e1 e2
    have el : ((hs.length : Int) + bs.length + cs.length ≤ 0) ↔ (hs = [] ∧ bs = []) ∧ cs = [] := by
      rw [← List.length_eq_zero_iff, ← List.length_eq_zero_iff, ← List.length_eq_zero_iff]; omega
    simp [mvalid, wchk, h96, h96', e1, e2, el]
    constructor
    · rintro ⟨⟨⟨⟨a1, a4⟩, ⟨⟨⟨b1, b2⟩, b4⟩, b3⟩, ⟨c1, c2⟩, c3⟩, v, d⟩, qb, dis⟩
      refine ⟨⟨b1, b2, c1, c2, c3, b3, b4⟩, ?_, fun h => a4.resolve_left (by simp [h]), d, dis, ?_⟩
      · simpa [isTask] using a1
      · intro w hw
        have h1 := v w hw
        have h2 := qb w hw
        simp [wvalid, wbad] at h1
        simp [qbad] at h2
        omega
    · rintro ⟨⟨b1, b2, c1, c2, c3, b3, b4⟩, m⟩
      refine ⟨⟨⟨⟨?_, ?_⟩, ⟨⟨⟨b1, b2⟩, b4⟩, b3⟩, ⟨c1, c2⟩, c3⟩, ?_, m.desc⟩, ?_, m.dis⟩
      · simpa [isTask] using m.rng
      · by_cases h : own = -1
        · exact .inr (m.free h)
        · exact .inl h
      · intro w hw
        have := m.all w hw
        simp [wvalid, wbad]
        omega
      · intro w hw
        have := m.all w hw
        simp [qbad]
        omega
  · have h96' : 96 < q.length := by omega
    simp [mvalid, wchk, h96', h96]
end Go.VS.M
namespace Go.VS.M
theorem mnew_iff {k sz ot : Int} : mnew k sz ot = 0 ↔ k = 1 ∧ sz = 0 ∧ ot = 0 := by
  unfold mnew
  by_cases h1 : k = 1
  · by_cases h2 : sz = 0 ∧ ot = 0
    · obtain ⟨rfl, rfl⟩ := h2; simp [h1]
    · have : (sz != 0 || ot != 0) = true := by simp; omega
      simp [h1, this]; exact fun h => fun h' => h2 ⟨h, h'⟩
  · simp [h1]
def appT (k sz ot own cnt time : Int) (hs : List Int) (q : List W) (bs : List Int) (cs : List (List D)) (cl : Bool) (val : Int) (o t p : Int) : Rp :=
  if mnew k sz ot = 0 then (if mvalid own cnt time hs q bs cs cl val = true then applyS own q o t p else zr 1) else zr (mnew k sz ot)
theorem ev_mApply (nm : D) (k sz ot own cnt time : Int) (hn : Bool) (hs : List Int) (qn : Bool) (q : List W) (bn : Bool) (bs : List Int) (cn : Bool) (cs : List (List D)) (cl : Bool) (val : Int) (t o v p n : Int)
    (h1 : hs.length ≤ 1000000) (h2 : q.length ≤ 1000000) (h3 : bs.length ≤ 1000000) (h4 : cs.length ≤ 1000000) (hnl : qn = true → q = []) :
    Rets (ev P (.call mutex_Apply [.d (.ag [nm, I' k, I' sz, I' ot]), .d (.ag [I' own, I' cnt, I' time, hD hn hs, qD qn q, hD bn bs, cD cn cs, .b cl, I' val]), .d (.ag [I' t, I' o, I' v, I' p, I' n])] []))
      (appT k sz ot own cnt time hs q bs cs cl val o t p) := by
  have hC := ev_mCheck nm k sz ot own cnt time hn hs qn q bn bs cn cs cl val h1 h2 h3 h4
  unfold appT
  by_cases hm : mnew k sz ot = 0
  · rw [if_pos hm] at hC ⊢
    by_cases hv : mvalid own cnt time hs q bs cs cl val = true
    · rw [if_pos hv]
      obtain ⟨⟨rfl, rfl, rfl, rfl, rfl, rfl, rfl⟩, hl, m⟩ := mvalid_iff.1 hv
      obtain ⟨rfl, rfl, rfl⟩ := mnew_iff.1 hm
      exact ev_mApply1 nm hn qn bn cn own q t o v p n hnl h2 m.desc hv
    · rw [if_neg hv] at hC ⊢
      exact ev_mApply0 _ _ _ _ _ _ _ _ _ _ _ _ _ _ _ _ _ _ 1 (by decide) hC
  · rw [if_neg hm] at hC ⊢
    exact ev_mApply0 _ _ _ _ _ _ _ _ _ _ _ _ _ _ _ _ _ _ _ hm hC
theorem ev_object : ev P (.call nurserylaw16_object [] []) = some (.val (.d (.ag [.s [109], I' 1, I' 0, I' 0])) []) := by
  rw [ev_call P_nurserylaw16_object rfl]
  simp [F_nurserylaw16_object]
theorem ev_lawlock (t p : Int) : ev P (.call nurserylaw16_lock [.d (I' t), .d (I' p)] []) = some (.val (.d (.ag [I' t, I' 50, I' 0, I' p, I' 0])) []) := by
  rw [ev_call P_nurserylaw16_lock rfl]
  simp [F_nurserylaw16_lock]
def ps : List (List D) := [[I' 0], [I' 0], [I' 5], [I' 5]]
theorem awake_step (i : Nat) (p : Int) (hi : i < 4) (hp : ps[i]? = some [I' p]) (hn qn bn cn : Bool) (own : Int) (q : List W) (r : Rp) (hnl : qn = true → q = []) (hq : q.length ≤ 1000000)
    (ha : appT 1 0 0 own 0 0 [] q [] [] false 0 50 i p = r) (he : r.e = 0) (hpk : r.parked = decide ((0 : Int) < i)) :
    ∃ hn' qn' bn' cn', (qn' = true → r.q = []) ∧
      ev P (.loop 0 [1, 3, 17, 18, 19] F_nurserylaw16_awake_L0 [(1, .loc 0 0 0), (3, .d (.b true)), (17, .d (.sl 1 false ps)), (18, .d (I' 4)), (19, .d (I' i))] [.arrD 9 true [stL hn qn bn cn own q]]) =
      ev P (.loop 0 [1, 3, 17, 18, 19] F_nurserylaw16_awake_L0 [(1, .loc 0 0 0), (3, .d (.b true)), (17, .d (.sl 1 false ps)), (18, .d (I' 4)), (19, .d (I' ((i + 1 : Nat) : Int)))] [.arrD 9 true [stL hn' qn' bn' cn' r.own r.q]]) := by
  have h := ev_mApply (.s [109]) 1 0 0 own 0 0 hn [] qn q bn [] cn [] false 0 i 50 0 p 0 (by simp) hq (by simp) (by simp) hnl
  rw [ha] at h
  obtain ⟨hn', qn', bn', cn', wn', hev, hq'⟩ := h
  refine ⟨hn', qn', bn', cn', hq', ?_⟩
  have hlt : (i : Int) < 4 := by omega
  have hnext : IntKind.i64.wrap ((i : Int) + 1) = i + 1 := wrap_i64 (by omega) (by omega)
  rw [ev_loop]
  conv => lhs; arg 4; unfold F_nurserylaw16_awake_L0
  simp [hlt, hp, ev_object, ev_lawlock, hev, he, hpk, hnext, reachC, cut, V.same_self, thaw, freezeAll, freeze1]
theorem ev_awake : ev P (.call nurserylaw16_awake [] []) = some (.val (.d (.b true)) []) := by
  have h0 := awake_step 0 0 (by decide) rfl true true true true (-1) [] ⟨0, [], false, true, none, 0⟩ (by simp) (by simp) (by decide) rfl (by decide)
  obtain ⟨f1, f2, f3, f4, g, h0⟩ := h0
  have h1 := awake_step 1 0 (by decide) rfl f1 f2 f3 f4 0 [] ⟨0, [⟨1, 50, 0, 0, -1⟩], true, false, none, 0⟩ g (by simp) (by decide) rfl (by decide)
  clear g
  obtain ⟨e1, e2, e3, e4, g, h1⟩ := h1
  rw [h1] at h0
  have h2 := awake_step 2 5 (by decide) rfl e1 e2 e3 e4 0 [⟨1, 50, 0, 0, -1⟩] ⟨0, [⟨2, 50, 0, 5, -1⟩, ⟨1, 50, 0, 0, -1⟩], true, false, none, 0⟩ g (by simp) (by decide) rfl (by decide)
  clear g h1
  obtain ⟨f1, f2, f3, f4, g, h2⟩ := h2
  rw [h2] at h0
  have h3 := awake_step 3 5 (by decide) rfl f1 f2 f3 f4 0 [⟨2, 50, 0, 5, -1⟩, ⟨1, 50, 0, 0, -1⟩] ⟨0, [⟨2, 50, 0, 5, -1⟩, ⟨3, 50, 0, 5, -1⟩, ⟨1, 50, 0, 0, -1⟩], true, false, none, 0⟩ g (by simp) (by decide) rfl (by decide)
  clear g h2
  obtain ⟨e1, e2, e3, e4, g, h3⟩ := h3
  rw [h3] at h0
  have hu := ev_mApply (.s [109]) 1 0 0 0 0 0 e1 [] e2 [⟨2, 50, 0, 5, -1⟩, ⟨3, 50, 0, 5, -1⟩, ⟨1, 50, 0, 0, -1⟩] e3 [] e4 [] false 0 0 52 0 0 0 (by simp) (by simp) (by simp) (by simp) g
  have ha : appT 1 0 0 0 0 0 [] [⟨2, 50, 0, 5, -1⟩, ⟨3, 50, 0, 5, -1⟩, ⟨1, 50, 0, 0, -1⟩] [] [] false 0 52 0 0 = ⟨2, [⟨3, 50, 0, 5, -1⟩, ⟨1, 50, 0, 0, -1⟩], false, true, some 2, 0⟩ := by decide
  rw [ha] at hu
  obtain ⟨f1, f2, f3, f4, f5, hu, _⟩ := hu
  have hf : ev P (.loop 0 [1, 3, 17, 18, 19] F_nurserylaw16_awake_L0 [(1, .loc 0 0 0), (3, .d (.b true)), (17, .d (.sl 1 false ps)), (18, .d (I' 4)), (19, .d (I' ((3 + 1 : Nat) : Int)))] [.arrD 9 true [stL e1 e2 e3 e4 0 [⟨2, 50, 0, 5, -1⟩, ⟨3, 50, 0, 5, -1⟩, ⟨1, 50, 0, 0, -1⟩]]]) =
      some (.out (.exit 0) [(1, .loc 0 0 0), (3, .d (.b true))] [.arrD 9 true [stL e1 e2 e3 e4 0 [⟨2, 50, 0, 5, -1⟩, ⟨3, 50, 0, 5, -1⟩, ⟨1, 50, 0, 0, -1⟩]]]) := by
    rw [ev_loop]
    conv => lhs; arg 4; unfold F_nurserylaw16_awake_L0
    simp [reachC, cut]
  rw [hf] at h0
  simp [ps] at h0
  rw [ev_call P_nurserylaw16_awake rfl]
  have hm : mnew 1 0 0 = 0 := by decide
  simp [F_nurserylaw16_awake, ev_object, ev_mNew, hm, frow, reachC, cut, h0]
  simp [W.row] at hu
  simp [W.row, hu, V.same_self, thaw, freezeAll, freeze1, wrow, ev_object]
  done
end Go.VS.M
namespace Go.VS.M
def wdS (own : Int) (q : List W) (t : Int) : Rp := if q.any (fun w => w.task == t) = true then ⟨own, q.filter (fun w => w.task != t), false, false, none, 0⟩ else zr 7
def wdT (k sz ot own cnt time : Int) (hs : List Int) (q : List W) (bs : List Int) (cs : List (List D)) (cl : Bool) (val : Int) (t : Int) : Rp :=
  if mnew k sz ot = 0 then (if mvalid own cnt time hs q bs cs cl val = true then wdS own q t else zr 1) else zr (mnew k sz ot)
theorem ev_mWithdraw0 (nm k sz ot s0 s1 s2 s3 s4 s5 s6 s7 s8 t : D) (e : Int) (he : e ≠ 0)
    (hC : ev P (.call mutex_Check [.d (.ag [nm, k, sz, ot]), .d (.ag [s0, s1, s2, s3, s4, s5, s6, s7, s8])] []) = some (.val (.d (I' e)) [])) :
    Rets (ev P (.call mutex_Withdraw [.d (.ag [nm, k, sz, ot]), .d (.ag [s0, s1, s2, s3, s4, s5, s6, s7, s8]), .d t] [])) (zr e) := by
  have he' : (e != 0) = true := by simpa using he
  refine ⟨true, true, true, true, true, ?_, by simp [zr]⟩
  rw [ev_call P_mutex_Withdraw rfl]
  simp [F_mutex_Withdraw, hC, he', zr]
theorem ev_mWithdraw (nm : D) (k sz ot own cnt time : Int) (hn : Bool) (hs : List Int) (qn : Bool) (q : List W) (bn : Bool) (bs : List Int) (cn : Bool) (cs : List (List D)) (cl : Bool) (val : Int) (t : Int)
    (h1 : hs.length ≤ 1000000) (h2 : q.length ≤ 1000000) (h3 : bs.length ≤ 1000000) (h4 : cs.length ≤ 1000000) :
    Rets (ev P (.call mutex_Withdraw [.d (.ag [nm, I' k, I' sz, I' ot]), .d (.ag [I' own, I' cnt, I' time, hD hn hs, qD qn q, hD bn bs, cD cn cs, .b cl, I' val]), .d (I' t)] []))
      (wdT k sz ot own cnt time hs q bs cs cl val t) := by
  have hC := ev_mCheck nm k sz ot own cnt time hn hs qn q bn bs cn cs cl val h1 h2 h3 h4
  unfold wdT
  by_cases hm : mnew k sz ot = 0
  · rw [if_pos hm] at hC ⊢
    by_cases hv : mvalid own cnt time hs q bs cs cl val = true
    · rw [if_pos hv] at hC ⊢
      obtain ⟨⟨rfl, rfl, rfl, rfl, rfl, rfl, rfl⟩, hl, m⟩ := mvalid_iff.1 hv
      have hw := ev_waits (own := own) (cnt := 0) (time := 0) (h1 := hD hn []) (h2 := hD bn []) (h3 := cD cn []) (qn := qn) (q := q) (cl := false) (val := 0) t h2
      unfold wdS
      cases hW : q.any fun w => w.task == t
      · rw [if_neg (by simp)]
        rw [hW] at hw
        refine ⟨true, true, true, true, true, ?_, by simp [zr]⟩
        rw [ev_call P_mutex_Withdraw rfl]
        simp [F_mutex_Withdraw, hC, hw, zr]
      · rw [if_pos rfl]
        rw [hW] at hw
        have hr := ev_Remove qn q t h2
        refine ⟨hn, (q.filter fun w => w.task != t).isEmpty, bn, cn, true, ?_, by simp⟩
        rw [ev_call P_mutex_Withdraw rfl]
        simp [F_mutex_Withdraw, hC, hw, hr]
    · rw [if_neg hv] at hC ⊢
      exact ev_mWithdraw0 _ _ _ _ _ _ _ _ _ _ _ _ _ _ 1 (by decide) hC
  · rw [if_neg hm] at hC ⊢
    exact ev_mWithdraw0 _ _ _ _ _ _ _ _ _ _ _ _ _ _ _ hm hC
theorem great_q {hs : List Int} {q : List W} {bs : List Int} {cs : List (List D)} (h : greatB hs q bs cs = false) : hs.length ≤ 40 ∧ q.length ≤ 40 ∧ bs.length ≤ 120 ∧ cs.length ≤ 40 := by
  simp [greatB] at h
  omega
structure IsState (s : D) where
  own : Int
  cnt : Int
  time : Int
  hn : Bool
  hs : List Int
  qn : Bool
  q : List W
  bn : Bool
  bs : List Int
  cn : Bool
  cs : List (List D)
  cl : Bool
  val : Int
  eq : s = .ag [I' own, I' cnt, I' time, hD hn hs, qD qn q, hD bn bs, cD cn cs, .b cl, I' val]
  hcs : ∀ c, c ∈ cs → ∃ t nb r, c = [I' t, .sl 1 nb r]
  nl : qn = true → q = []
end Go.VS.M
namespace Go.VS.M
end Go.VS.M
namespace Go.VS.M
theorem mem_take {q : List W} {b : Nat} {a : W} (h : a ∈ q.take b) : ∃ k, k < b ∧ q[k]? = some a := by
  obtain ⟨k, hk⟩ := List.mem_iff_getElem?.1 h
  rw [List.getElem?_take] at hk
  split at hk
  · exact ⟨k, by assumption, hk⟩
  · simp at hk
theorem mem_drop {q : List W} {b : Nat} {a : W} (h : a ∈ q.drop b) : ∃ k, b ≤ k ∧ q[k]? = some a := by
  obtain ⟨k, hk⟩ := List.mem_iff_getElem?.1 h
  rw [List.getElem?_drop] at hk
  exact ⟨b + k, by omega, hk⟩
theorem MV_lock {own : Int} {q : List W} {t p : Int} (m : MV own q) (ht : isTask t = true) (hp : 0 ≤ p ∧ p ≤ 9) (hw : (q.any fun w => w.task == t) = false) (he : (lockS own q t p).e = 0) :
    MV (lockS own q t p).own (lockS own q t p).q := by
  have ht' : 0 ≤ t ∧ t < 16 := by simpa [isTask] using ht
  unfold lockS at he ⊢
  split
  · rename_i h
    have ho : own = -1 := by simpa using h
    have hq := m.free ho
    subst hq
    exact ⟨.inr ht', fun h => rfl, by simp [Desc], by simp, by simp⟩
  · rename_i h
    rw [if_neg h] at he
    have ho : own ≠ -1 := by simpa using h
    split
    · rename_i h2
      rw [if_pos h2] at he
      simp [zr] at he
    · rename_i h2
      have ho2 : own ≠ t := by simpa using h2
      have hcat : q = q.take (bnd p q) ++ q.drop (bnd p q) := (List.take_append_drop ..).symm
      have h1 : ∀ a, a ∈ q.take (bnd p q) → p ≤ a.prio := fun a ha => by
        obtain ⟨k, hk, hka⟩ := mem_take ha
        exact (bnd_lt m.desc hka).1 hk
      have h3 : ∀ a, a ∈ q.drop (bnd p q) → a.prio ≤ p := fun a ha => by
        obtain ⟨k, hk, hka⟩ := mem_drop ha
        have := bnd_lt (p := p) m.desc hka
        omega
      have hne : ∀ a, a ∈ q → a.task ≠ t := by simpa using hw
      have hd := m.desc
      unfold Desc at hd
      rw [hcat, List.pairwise_append] at hd
      have hs := m.dis
      rw [hcat, List.pairwise_append] at hs
      refine ⟨m.rng, fun h => absurd h ho, ?_, ?_, ?_⟩
      · unfold Desc
        show List.Pairwise _ (q.take (bnd p q) ++ _ :: q.drop (bnd p q))
        rw [List.pairwise_append, List.pairwise_cons]
        refine ⟨hd.1, ⟨fun a ha => h3 a ha, hd.2.1⟩, fun a ha b hb => ?_⟩
        rcases List.mem_cons.1 hb with rfl | hb
        · exact h1 a ha
        · exact hd.2.2 a ha b hb
      · show List.Pairwise _ (q.take (bnd p q) ++ _ :: q.drop (bnd p q))
        rw [List.pairwise_append, List.pairwise_cons]
        refine ⟨hs.1, ⟨fun a ha => (hne a (List.mem_of_mem_drop ha)).symm, hs.2.1⟩, fun a ha b hb => ?_⟩
        rcases List.mem_cons.1 hb with rfl | hb
        · exact hne a (List.mem_of_mem_take ha)
        · exact hs.2.2 a ha b hb
      · intro w hw'
        rcases List.mem_append.1 hw' with h | h
        · exact m.all w (List.mem_of_mem_take h)
        · rcases List.mem_cons.1 h with rfl | h
          · refine ⟨rfl, rfl, rfl, fun h => ho2 h.symm, ?_, ?_, ?_, ?_⟩ <;> simp <;> omega
          · exact m.all w (List.mem_of_mem_drop h)
theorem MV_unlock {own : Int} {q : List W} {t : Int} (m : MV own q) (he : (unlockS own q t).e = 0) : MV (unlockS own q t).own (unlockS own q t).q := by
  unfold unlockS at he ⊢
  split
  · rename_i h
    rw [if_pos h] at he
    simp [zr] at he
  · cases q with
    | nil => exact ⟨.inl rfl, fun _ => rfl, by simp [Desc], by simp, by simp⟩
    | cons w r =>
      have hd := m.desc
      unfold Desc at hd
      rw [List.pairwise_cons] at hd
      have hs := m.dis
      rw [List.pairwise_cons] at hs
      have hw := m.all w (by simp)
      refine ⟨.inr ⟨hw.2.2.2.2.1, hw.2.2.2.2.2.1⟩, fun h => by have := hw.2.2.2.2.1; simp at h; omega, hd.2, hs.2, fun x hx => ?_⟩
      have := m.all x (by simp [hx])
      have h1 := hs.1 x hx
      exact ⟨this.1, this.2.1, this.2.2.1, fun h => h1 h.symm, this.2.2.2.2⟩
theorem MV_try {own : Int} {q : List W} {t p : Int} (m : MV own q) (ht : isTask t = true) (hp : 0 ≤ p ∧ p ≤ 9) (hw : (q.any fun w => w.task == t) = false) (he : (tryS own q t p).e = 0) :
    MV (tryS own q t p).own (tryS own q t p).q := by
  unfold tryS at he ⊢
  split
  · exact m
  · rename_i h
    rw [if_neg h] at he
    exact MV_lock m ht hp hw he
theorem MV_apply {own : Int} {q : List W} {o t p : Int} (m : MV own q) (he : (applyS own q o t p).e = 0) : MV (applyS own q o t p).own (applyS own q o t p).q := by
  unfold applyS at he ⊢
  split
  · rename_i h; rw [if_pos h] at he; simp [zr] at he
  rename_i h; rw [if_neg h] at he
  split
  · rename_i h; rw [if_pos h] at he; simp [zr] at he
  rename_i h2; rw [if_neg h2] at he
  have h2' : isTask t = true ∧ 0 ≤ p ∧ p ≤ 9 := by simp at h2; exact ⟨h2.1.1, h2.1.2, h2.2⟩
  split
  · rename_i h; rw [if_pos h] at he; simp [zr] at he
  rename_i h3; rw [if_neg h3] at he
  have hw : (q.any fun w => w.task == t) = false := by simpa using h3
  split
  · rename_i h; rw [if_pos h] at he
    exact MV_lock m h2'.1 h2'.2 hw he
  rename_i h; rw [if_neg h] at he
  split
  · rename_i h; rw [if_pos h] at he
    exact MV_try m h2'.1 h2'.2 hw he
  · rename_i h; rw [if_neg h] at he
    exact MV_unlock m he
theorem MV_filter {own : Int} {q : List W} (f : W → Bool) (m : MV own q) : MV own (q.filter f) :=
  ⟨m.rng, fun h => by rw [m.free h]; rfl, m.desc.filter f, m.dis.filter f, fun w hw => m.all w ((List.mem_filter.1 hw).1)⟩
theorem mvalid_of {own : Int} {q : List W} (m : MV own q) (h : q.length ≤ 96) : mvalid own 0 0 [] q [] [] false 0 = true := mvalid_iff.2 ⟨⟨rfl, rfl, rfl, rfl, rfl, rfl, rfl⟩, h, m⟩
end Go.VS.M
namespace Go.VS.M
end Go.VS.M
namespace Go.VS.M
end Go.VS.M
