import Derived.Test.YtifnkfombicejaaV06
import Derived.Test.YtifnkfombicejaaV04
import Derived.Test.YtifnkfombicejaaV05
import Derived.KernelRfl
import Derived.Test.YtifnkfombicejaaChecked
import Derived.Test.YtifnkfombicejaaV09
set_option linter.all false
open Go.Proofs
namespace Go.VS
/-- How the program's functions and loops stand to VS code. -/
def phiN (n : Nat) : Nat := if 10000 ≤ n then n - 10000 else n
def phi : Phi := ⟨phiN, fun ps A B x y nt => lkB Try.prog phiN ps A B x y nt = true⟩
theorem lkok : LkOk Try.prog phi := fun _ _ _ _ _ _ => Iff.rfl
noncomputable def ck (f : Nat) (F : F) : Bool :=
  match Try.prog.funcs[phiN f]? with
  | some fn => !(fn.name == "runtime.NumGoroutine") && (match fn.body with | some c => chkC Try.prog phiN fn.ntmps c F.code && chkR Try.prog fn.results.toList F.res | none => false)
  | none => false
theorem ok_nurserylaw23_TopicApply : ck 3 F_nurserylaw23_TopicApply = true := by kernel_rfl
theorem ok_nurserylaw23_TopicLeaves : ck 4 F_nurserylaw23_TopicLeaves = true := by kernel_rfl
theorem ok_nurserylaw23_TopicReads : ck 5 F_nurserylaw23_TopicReads = true := by kernel_rfl
theorem ok_nurserylaw23_TopicValid : ck 6 F_nurserylaw23_TopicValid = true := by kernel_rfl
theorem ok_nurserylaw23_TopicUndo : ck 7 F_nurserylaw23_TopicUndo = true := by kernel_rfl
theorem ok_nurserylaw23_TopicWithdraw : ck 8 F_nurserylaw23_TopicWithdraw = true := by kernel_rfl
theorem ok_nurserylaw23_TopicDelivers : ck 9 F_nurserylaw23_TopicDelivers = true := by kernel_rfl
theorem ok_nurseryref19_Great : ck 10 F_nurseryref19_Great = true := by kernel_rfl
theorem ok_nurserylaw23_awake : ck 11 F_nurserylaw23_awake = true := by kernel_rfl
theorem ok_topic_New : ck 12 F_topic_New = true := by kernel_rfl
theorem ok_nurseryref23_New : ck 13 F_nurseryref23_New = true := by kernel_rfl
theorem ok_topic_Apply : ck 14 F_topic_Apply = true := by kernel_rfl
theorem ok_nurseryref23_Apply : ck 15 F_nurseryref23_Apply = true := by kernel_rfl
theorem ok_nurseryref19_SameState : ck 16 F_nurseryref19_SameState = true := by kernel_rfl
theorem ok_topic_Check : ck 17 F_topic_Check = true := by kernel_rfl
theorem ok_nurseryref23_Check : ck 18 F_nurseryref23_Check = true := by kernel_rfl
theorem ok_nurseryref19_SameReply : ck 19 F_nurseryref19_SameReply = true := by kernel_rfl
theorem ok_slices_ContainsFunc_api_Waiter_api_Waiter : ck 20 F_slices_ContainsFunc_api_Waiter_api_Waiter = true := by kernel_rfl
theorem ok_nurserylaw23_TopicLeavesC1 : ck 21 F_nurserylaw23_TopicLeavesC1 = true := by kernel_rfl
theorem ok_nurserylaw23_call : ck 22 F_nurserylaw23_call = true := by kernel_rfl
theorem ok_nurserylaw23_TopicLeavesC2 : ck 23 F_nurserylaw23_TopicLeavesC2 = true := by kernel_rfl
theorem ok_nurserylaw23_TopicReadsC1 : ck 24 F_nurserylaw23_TopicReadsC1 = true := by kernel_rfl
theorem ok_slices_Clone_int_int : ck 25 F_slices_Clone_int_int = true := by kernel_rfl
theorem ok_slices_Clone_int_int_p : ck 10025 F_slices_Clone_int_int_p = true := by kernel_rfl
theorem ok_topic_Lag : ck 26 F_topic_Lag = true := by kernel_rfl
theorem ok_topic_Withdraw : ck 27 F_topic_Withdraw = true := by kernel_rfl
theorem ok_nurserylaw23_TopicValidC1 : ck 28 F_nurserylaw23_TopicValidC1 = true := by kernel_rfl
theorem ok_nurseryref23_Full : ck 29 F_nurseryref23_Full = true := by kernel_rfl
theorem ok_nurseryref23_Withdraw : ck 30 F_nurseryref23_Withdraw = true := by kernel_rfl
theorem ok_nurseryref23_Lag : ck 31 F_nurseryref23_Lag = true := by kernel_rfl
theorem ok_topic_Ready : ck 32 F_topic_Ready = true := by kernel_rfl
theorem ok_nurseryref23_Ready : ck 33 F_nurseryref23_Ready = true := by kernel_rfl
theorem ok_nurserylaw23_book_fine : ck 35 F_nurserylaw23_book_fine = true := by kernel_rfl
theorem ok_nurseryref23_within : ck 36 F_nurseryref23_within = true := by kernel_rfl
theorem ok_topic_call : ck 37 F_topic_call = true := by kernel_rfl
theorem ok_topic_begin : ck 38 F_topic_begin = true := by kernel_rfl
theorem ok_topic_ApplyC1 : ck 39 F_topic_ApplyC1 = true := by kernel_rfl
theorem ok_topic_board_subscribe : ck 40 F_topic_board_subscribe = true := by kernel_rfl
theorem ok_topic_ApplyC2 : ck 41 F_topic_ApplyC2 = true := by kernel_rfl
theorem ok_topic_find : ck 42 F_topic_find = true := by kernel_rfl
theorem ok_slices_Delete_api_Cursor_api_Cursor : ck 43 F_slices_Delete_api_Cursor_api_Cursor = true := by kernel_rfl
theorem ok_topic_board_advance : ck 44 F_topic_board_advance = true := by kernel_rfl
theorem ok_topic_ApplyC3 : ck 45 F_topic_ApplyC3 = true := by kernel_rfl
theorem ok_topic_ApplyC3C1 : ck 46 F_topic_ApplyC3C1 = true := by kernel_rfl
theorem ok_topic_full : ck 47 F_topic_full = true := by kernel_rfl
theorem ok_topic_board_wait : ck 48 F_topic_board_wait = true := by kernel_rfl
theorem ok_topic_board_publish : ck 49 F_topic_board_publish = true := by kernel_rfl
theorem ok_topic_ApplyC4 : ck 50 F_topic_ApplyC4 = true := by kernel_rfl
theorem ok_topic_board_next : ck 51 F_topic_board_next = true := by kernel_rfl
theorem ok_nurseryref23_check : ck 52 F_nurseryref23_check = true := by kernel_rfl
theorem ok_nurseryref23_subscribe : ck 53 F_nurseryref23_subscribe = true := by kernel_rfl
theorem ok_nurseryref23_advance : ck 54 F_nurseryref23_advance = true := by kernel_rfl
theorem ok_nurseryref23_without : ck 55 F_nurseryref23_without = true := by kernel_rfl
theorem ok_nurseryref23_next : ck 56 F_nurseryref23_next = true := by kernel_rfl
theorem ok_nurseryref23_publisher : ck 57 F_nurseryref23_publisher = true := by kernel_rfl
theorem ok_nurseryref23_published : ck 58 F_nurseryref23_published = true := by kernel_rfl
theorem ok_nurseryref07_Push : ck 59 F_nurseryref07_Push = true := by kernel_rfl
theorem ok_nurseryref07_Same : ck 60 F_nurseryref07_Same = true := by kernel_rfl
theorem ok_nurseryref19_sameInts : ck 61 F_nurseryref19_sameInts = true := by kernel_rfl
theorem ok_topic_cursors : ck 62 F_topic_cursors = true := by kernel_rfl
theorem ok_topic_queue : ck 63 F_topic_queue = true := by kernel_rfl
theorem ok_nurseryref23_checkCursors : ck 64 F_nurseryref23_checkCursors = true := by kernel_rfl
theorem ok_nurseryref23_checkQueue : ck 65 F_nurseryref23_checkQueue = true := by kernel_rfl
theorem ok_slices_IndexFunc_api_Waiter_api_Waiter : ck 66 F_slices_IndexFunc_api_Waiter_api_Waiter = true := by kernel_rfl
theorem ok_waitlist_Find : ck 67 F_waitlist_Find = true := by kernel_rfl
theorem ok_waitlist_Remove : ck 68 F_waitlist_Remove = true := by kernel_rfl
theorem ok_nurseryref23_waits : ck 69 F_nurseryref23_waits = true := by kernel_rfl
theorem ok_nurseryref07_Find : ck 70 F_nurseryref07_Find = true := by kernel_rfl
theorem ok_nurseryref07_Remove : ck 71 F_nurseryref07_Remove = true := by kernel_rfl
theorem ok_nurseryref23_cursor : ck 72 F_nurseryref23_cursor = true := by kernel_rfl
theorem ok_nurserylaw23_book_wake : ck 74 F_nurserylaw23_book_wake = true := by kernel_rfl
theorem ok_slices_Equal_int_int : ck 75 F_slices_Equal_int_int = true := by kernel_rfl
theorem ok_slices_Concat_int_int : ck 76 F_slices_Concat_int_int = true := by kernel_rfl
theorem ok_topic_number : ck 77 F_topic_number = true := by kernel_rfl
theorem ok_slices_Clone_api_Cursor_api_Cursor : ck 78 F_slices_Clone_api_Cursor_api_Cursor = true := by kernel_rfl
theorem ok_slices_Clone_api_Waiter_api_Waiter : ck 79 F_slices_Clone_api_Waiter_api_Waiter = true := by kernel_rfl
theorem ok_slices_IndexFunc_api_Cursor_api_Cursor : ck 81 F_slices_IndexFunc_api_Cursor_api_Cursor = true := by kernel_rfl
theorem ok_topic_findC1 : ck 82 F_topic_findC1 = true := by kernel_rfl
theorem ok_topic_board_publishers : ck 83 F_topic_board_publishers = true := by kernel_rfl
theorem ok_topic_board_wake : ck 84 F_topic_board_wake = true := by kernel_rfl
theorem ok_slices_ContainsFunc_api_Cursor_api_Cursor : ck 85 F_slices_ContainsFunc_api_Cursor_api_Cursor = true := by kernel_rfl
theorem ok_topic_fullC1 : ck 86 F_topic_fullC1 = true := by kernel_rfl
theorem ok_topic_waiting : ck 87 F_topic_waiting = true := by kernel_rfl
theorem ok_slices_IndexFunc_api_Wake_api_Wake : ck 88 F_slices_IndexFunc_api_Wake_api_Wake = true := by kernel_rfl
theorem ok_topic_board_nextC1 : ck 89 F_topic_board_nextC1 = true := by kernel_rfl
theorem ok_slices_Delete_api_Wake_api_Wake : ck 90 F_slices_Delete_api_Wake_api_Wake = true := by kernel_rfl
theorem ok_nurseryref19_Caller : ck 91 F_nurseryref19_Caller = true := by kernel_rfl
theorem ok_nurseryref07_Check : ck 92 F_nurseryref07_Check = true := by kernel_rfl
theorem ok_nurseryref07_Valid : ck 93 F_nurseryref07_Valid = true := by kernel_rfl
theorem ok_waitlist_Check : ck 94 F_waitlist_Check = true := by kernel_rfl
theorem ok_waitlist_filter : ck 95 F_waitlist_filter = true := by kernel_rfl
theorem ok_waitlist_RemoveC1 : ck 96 F_waitlist_RemoveC1 = true := by kernel_rfl
theorem ok_slices_Grow_int_int : ck 97 F_slices_Grow_int_int = true := by kernel_rfl
theorem ok_slices_rotateRight_api_Cursor : ck 99 F_slices_rotateRight_api_Cursor = true := by kernel_rfl
theorem ok_topic_board_publishersC1 : ck 100 F_topic_board_publishersC1 = true := by kernel_rfl
theorem ok_topic_board_publishersC1C1 : ck 101 F_topic_board_publishersC1C1 = true := by kernel_rfl
theorem ok_slices_Delete_api_Waiter_api_Waiter : ck 102 F_slices_Delete_api_Waiter_api_Waiter = true := by kernel_rfl
theorem ok_topic_waitingC1 : ck 103 F_topic_waitingC1 = true := by kernel_rfl
theorem ok_nurseryref19_within : ck 104 F_nurseryref19_within = true := by kernel_rfl
theorem ok_nurseryref07_within : ck 105 F_nurseryref07_within = true := by kernel_rfl
theorem ok_waitlist_valid : ck 106 F_waitlist_valid = true := by kernel_rfl
theorem ok_slices_rotateLeft_api_Cursor : ck 107 F_slices_rotateLeft_api_Cursor = true := by kernel_rfl
theorem ok_slices_Reverse_api_Cursor_api_Cursor : ck 108 F_slices_Reverse_api_Cursor_api_Cursor = true := by kernel_rfl
theorem okR_slices_Insert_api_Cursor_api_Cursor : ck 80 R_slices_Insert_api_Cursor_api_Cursor = true := by kernel_rfl
theorem code_of_ck {f : Nat} {F : F} (h : ck f F = true) : FnCode Try.prog phi f F := by
  unfold ck at h
  split at h
  · rename_i fn hf
    split at h
    · rename_i c hc
      simp only [Bool.and_eq_true, Bool.not_eq_true'] at h
      exact ⟨fn, c, hf, h.1, hc, h.2.1, h.2.2⟩
    · simp at h
  · cases h
theorem mixed : Try.prog.follows .mixedOrders = true := by kernel_rfl
theorem laid : laidOutB Try.prog = true := by kernel_rfl
theorem hF : ∀ f F, P f = some F → FnOk Try.prog phi f F := by
  intro f F h
  unfold P at h
  split at h
  · cases h; exact .inl ⟨rfl, code_of_ck ok_nurserylaw23_TopicApply⟩
  · cases h; exact .inl ⟨rfl, code_of_ck ok_nurserylaw23_TopicLeaves⟩
  · cases h; exact .inl ⟨rfl, code_of_ck ok_nurserylaw23_TopicReads⟩
  · cases h; exact .inl ⟨rfl, code_of_ck ok_nurserylaw23_TopicValid⟩
  · cases h; exact .inl ⟨rfl, code_of_ck ok_nurserylaw23_TopicUndo⟩
  · cases h; exact .inl ⟨rfl, code_of_ck ok_nurserylaw23_TopicWithdraw⟩
  · cases h; exact .inl ⟨rfl, code_of_ck ok_nurserylaw23_TopicDelivers⟩
  · cases h; exact .inl ⟨rfl, code_of_ck ok_nurseryref19_Great⟩
  · cases h; exact .inl ⟨rfl, code_of_ck ok_nurserylaw23_awake⟩
  · cases h; exact .inl ⟨rfl, code_of_ck ok_topic_New⟩
  · cases h; exact .inl ⟨rfl, code_of_ck ok_nurseryref23_New⟩
  · cases h; exact .inl ⟨rfl, code_of_ck ok_topic_Apply⟩
  · cases h; exact .inl ⟨rfl, code_of_ck ok_nurseryref23_Apply⟩
  · cases h; exact .inl ⟨rfl, code_of_ck ok_nurseryref19_SameState⟩
  · cases h; exact .inl ⟨rfl, code_of_ck ok_topic_Check⟩
  · cases h; exact .inl ⟨rfl, code_of_ck ok_nurseryref23_Check⟩
  · cases h; exact .inl ⟨rfl, code_of_ck ok_nurseryref19_SameReply⟩
  · cases h; exact .inl ⟨rfl, code_of_ck ok_slices_ContainsFunc_api_Waiter_api_Waiter⟩
  · cases h; exact .inl ⟨rfl, code_of_ck ok_nurserylaw23_TopicLeavesC1⟩
  · cases h; exact .inl ⟨rfl, code_of_ck ok_nurserylaw23_call⟩
  · cases h; exact .inl ⟨rfl, code_of_ck ok_nurserylaw23_TopicLeavesC2⟩
  · cases h; exact .inl ⟨rfl, code_of_ck ok_nurserylaw23_TopicReadsC1⟩
  · cases h; exact .inl ⟨rfl, code_of_ck ok_slices_Clone_int_int⟩
  · cases h; exact .inl ⟨rfl, code_of_ck ok_slices_Clone_int_int_p⟩
  · cases h; exact .inl ⟨rfl, code_of_ck ok_topic_Lag⟩
  · cases h; exact .inl ⟨rfl, code_of_ck ok_topic_Withdraw⟩
  · cases h; exact .inl ⟨rfl, code_of_ck ok_nurserylaw23_TopicValidC1⟩
  · cases h; exact .inl ⟨rfl, code_of_ck ok_nurseryref23_Full⟩
  · cases h; exact .inl ⟨rfl, code_of_ck ok_nurseryref23_Withdraw⟩
  · cases h; exact .inl ⟨rfl, code_of_ck ok_nurseryref23_Lag⟩
  · cases h; exact .inl ⟨rfl, code_of_ck ok_topic_Ready⟩
  · cases h; exact .inl ⟨rfl, code_of_ck ok_nurseryref23_Ready⟩
  · cases h; exact .inl ⟨rfl, code_of_ck ok_nurserylaw23_book_fine⟩
  · cases h; exact .inl ⟨rfl, code_of_ck ok_nurseryref23_within⟩
  · cases h; exact .inl ⟨rfl, code_of_ck ok_topic_call⟩
  · cases h; exact .inl ⟨rfl, code_of_ck ok_topic_begin⟩
  · cases h; exact .inl ⟨rfl, code_of_ck ok_topic_ApplyC1⟩
  · cases h; exact .inl ⟨rfl, code_of_ck ok_topic_board_subscribe⟩
  · cases h; exact .inl ⟨rfl, code_of_ck ok_topic_ApplyC2⟩
  · cases h; exact .inl ⟨rfl, code_of_ck ok_topic_find⟩
  · cases h; exact .inl ⟨rfl, code_of_ck ok_slices_Delete_api_Cursor_api_Cursor⟩
  · cases h; exact .inl ⟨rfl, code_of_ck ok_topic_board_advance⟩
  · cases h; exact .inl ⟨rfl, code_of_ck ok_topic_ApplyC3⟩
  · cases h; exact .inl ⟨rfl, code_of_ck ok_topic_ApplyC3C1⟩
  · cases h; exact .inl ⟨rfl, code_of_ck ok_topic_full⟩
  · cases h; exact .inl ⟨rfl, code_of_ck ok_topic_board_wait⟩
  · cases h; exact .inl ⟨rfl, code_of_ck ok_topic_board_publish⟩
  · cases h; exact .inl ⟨rfl, code_of_ck ok_topic_ApplyC4⟩
  · cases h; exact .inl ⟨rfl, code_of_ck ok_topic_board_next⟩
  · cases h; exact .inl ⟨rfl, code_of_ck ok_nurseryref23_check⟩
  · cases h; exact .inl ⟨rfl, code_of_ck ok_nurseryref23_subscribe⟩
  · cases h; exact .inl ⟨rfl, code_of_ck ok_nurseryref23_advance⟩
  · cases h; exact .inl ⟨rfl, code_of_ck ok_nurseryref23_without⟩
  · cases h; exact .inl ⟨rfl, code_of_ck ok_nurseryref23_next⟩
  · cases h; exact .inl ⟨rfl, code_of_ck ok_nurseryref23_publisher⟩
  · cases h; exact .inl ⟨rfl, code_of_ck ok_nurseryref23_published⟩
  · cases h; exact .inl ⟨rfl, code_of_ck ok_nurseryref07_Push⟩
  · cases h; exact .inl ⟨rfl, code_of_ck ok_nurseryref07_Same⟩
  · cases h; exact .inl ⟨rfl, code_of_ck ok_nurseryref19_sameInts⟩
  · cases h; exact .inl ⟨rfl, code_of_ck ok_topic_cursors⟩
  · cases h; exact .inl ⟨rfl, code_of_ck ok_topic_queue⟩
  · cases h; exact .inl ⟨rfl, code_of_ck ok_nurseryref23_checkCursors⟩
  · cases h; exact .inl ⟨rfl, code_of_ck ok_nurseryref23_checkQueue⟩
  · cases h; exact .inl ⟨rfl, code_of_ck ok_slices_IndexFunc_api_Waiter_api_Waiter⟩
  · cases h; exact .inl ⟨rfl, code_of_ck ok_waitlist_Find⟩
  · cases h; exact .inl ⟨rfl, code_of_ck ok_waitlist_Remove⟩
  · cases h; exact .inl ⟨rfl, code_of_ck ok_nurseryref23_waits⟩
  · cases h; exact .inl ⟨rfl, code_of_ck ok_nurseryref07_Find⟩
  · cases h; exact .inl ⟨rfl, code_of_ck ok_nurseryref07_Remove⟩
  · cases h; exact .inl ⟨rfl, code_of_ck ok_nurseryref23_cursor⟩
  · cases h; exact .inl ⟨rfl, code_of_ck ok_nurserylaw23_book_wake⟩
  · cases h; exact .inl ⟨rfl, code_of_ck ok_slices_Equal_int_int⟩
  · cases h; exact .inl ⟨rfl, code_of_ck ok_slices_Concat_int_int⟩
  · cases h; exact .inl ⟨rfl, code_of_ck ok_topic_number⟩
  · cases h; exact .inl ⟨rfl, code_of_ck ok_slices_Clone_api_Cursor_api_Cursor⟩
  · cases h; exact .inl ⟨rfl, code_of_ck ok_slices_Clone_api_Waiter_api_Waiter⟩
  · cases h; exact .inl ⟨rfl, code_of_ck ok_slices_IndexFunc_api_Cursor_api_Cursor⟩
  · cases h; exact .inl ⟨rfl, code_of_ck ok_topic_findC1⟩
  · cases h; exact .inl ⟨rfl, code_of_ck ok_topic_board_publishers⟩
  · cases h; exact .inl ⟨rfl, code_of_ck ok_topic_board_wake⟩
  · cases h; exact .inl ⟨rfl, code_of_ck ok_slices_ContainsFunc_api_Cursor_api_Cursor⟩
  · cases h; exact .inl ⟨rfl, code_of_ck ok_topic_fullC1⟩
  · cases h; exact .inl ⟨rfl, code_of_ck ok_topic_waiting⟩
  · cases h; exact .inl ⟨rfl, code_of_ck ok_slices_IndexFunc_api_Wake_api_Wake⟩
  · cases h; exact .inl ⟨rfl, code_of_ck ok_topic_board_nextC1⟩
  · cases h; exact .inl ⟨rfl, code_of_ck ok_slices_Delete_api_Wake_api_Wake⟩
  · cases h; exact .inl ⟨rfl, code_of_ck ok_nurseryref19_Caller⟩
  · cases h; exact .inl ⟨rfl, code_of_ck ok_nurseryref07_Check⟩
  · cases h; exact .inl ⟨rfl, code_of_ck ok_nurseryref07_Valid⟩
  · cases h; exact .inl ⟨rfl, code_of_ck ok_waitlist_Check⟩
  · cases h; exact .inl ⟨rfl, code_of_ck ok_waitlist_filter⟩
  · cases h; exact .inl ⟨rfl, code_of_ck ok_waitlist_RemoveC1⟩
  · cases h; exact .inl ⟨rfl, code_of_ck ok_slices_Grow_int_int⟩
  · cases h; exact .inl ⟨rfl, code_of_ck ok_slices_rotateRight_api_Cursor⟩
  · cases h; exact .inl ⟨rfl, code_of_ck ok_topic_board_publishersC1⟩
  · cases h; exact .inl ⟨rfl, code_of_ck ok_topic_board_publishersC1C1⟩
  · cases h; exact .inl ⟨rfl, code_of_ck ok_slices_Delete_api_Waiter_api_Waiter⟩
  · cases h; exact .inl ⟨rfl, code_of_ck ok_topic_waitingC1⟩
  · cases h; exact .inl ⟨rfl, code_of_ck ok_nurseryref19_within⟩
  · cases h; exact .inl ⟨rfl, code_of_ck ok_nurseryref07_within⟩
  · cases h; exact .inl ⟨rfl, code_of_ck ok_waitlist_valid⟩
  · cases h; exact .inl ⟨rfl, code_of_ck ok_slices_rotateLeft_api_Cursor⟩
  · cases h; exact .inl ⟨rfl, code_of_ck ok_slices_Reverse_api_Cursor_api_Cursor⟩
  · cases h; exact .inr ⟨_, rfl, ins_ok mixed lkok (code_of_ck okR_slices_Insert_api_Cursor_api_Cursor) rfl rfl rfl (by decide)⟩
  · cases h
end Go.VS
namespace Go.VS.Tp
abbrev tI : Ty := .i .i64
def tW : Ty := .st [tI, tI, tI, tI, tI]
def tCur : Ty := .st [tI, .sl 1 tI]
def tS : Ty := .st [tI, tI, tI, .sl 1 tI, .sl 5 tW, .sl 1 tI, .sl 2 tCur, .b, tI]
def tO : Ty := .st [.s, tI, tI, tI]
def tC : Ty := .st [tI, tI, tI, tI, tI]
theorem wt_i {cs : List D} (h : WT tI cs) : ∃ n, cs = [I' n] := by
  simp only [tI, WT] at h
  obtain ⟨n, rfl, _⟩ := h
  exact ⟨n, rfl⟩
theorem ints_of {rows : List (List D)} (h : ∀ r ∈ rows, WT tI r) : ∃ hs : List Int, rows = rows1 hs := by
  induction rows with
  | nil => exact ⟨[], rfl⟩
  | cons r rs ih =>
    obtain ⟨n, rfl⟩ := wt_i (h r (by simp))
    obtain ⟨hs, rfl⟩ := ih fun x hx => h x (by simp [hx])
    exact ⟨n :: hs, rfl⟩
theorem five_of {cs : List D} (h : WTs [tI, tI, tI, tI, tI] cs) : ∃ a b c d e, cs = [I' a, I' b, I' c, I' d, I' e] := by
  simp only [WTs] at h
  obtain ⟨_, _, rfl, h1, _, _, rfl, h2, _, _, rfl, h3, _, _, rfl, h4, _, _, rfl, h5, rfl⟩ := h
  obtain ⟨a, rfl⟩ := wt_i h1
  obtain ⟨b, rfl⟩ := wt_i h2
  obtain ⟨c, rfl⟩ := wt_i h3
  obtain ⟨d, rfl⟩ := wt_i h4
  obtain ⟨e, rfl⟩ := wt_i h5
  exact ⟨a, b, c, d, e, rfl⟩
theorem waiters_of {rows : List (List D)} (h : ∀ r ∈ rows, WT tW r) : ∃ q : List W, rows = q.map W.row := by
  induction rows with
  | nil => exact ⟨[], rfl⟩
  | cons r rs ih =>
    have h1 := h r (by simp)
    simp only [tW, WT] at h1
    obtain ⟨a, b, c, d, e, rfl⟩ := five_of h1
    obtain ⟨q, rfl⟩ := ih fun x hx => h x (by simp [hx])
    exact ⟨⟨a, b, c, d, e⟩ :: q, rfl⟩
theorem wt_sl {es : Nat} {t : Ty} {cs : List D} (h : WT (.sl es t) cs) : ∃ nl rows, cs = [.sl es nl rows] ∧ (nl = true → rows = []) ∧ ∀ r ∈ rows, WT t r := by
  simp only [WT] at h
  obtain ⟨nl, rows, rfl, h1, _, h2⟩ := h
  exact ⟨nl, rows, rfl, h1, h2⟩
theorem cursors_of {rows : List (List D)} (h : ∀ r ∈ rows, WT tCur r) : ∃ C : List K, rows = C.map K.row ∧ ∀ c ∈ C, c.nl = true → c.log = [] := by
  induction rows with
  | nil => exact ⟨[], rfl, by simp⟩
  | cons r rs ih =>
    have h1 := h r (by simp)
    simp only [tCur, WT, WTs] at h1
    obtain ⟨_, _, rfl, ⟨n, rfl, _⟩, _, _, rfl, ⟨nb, r, rfl, n1, _, k1⟩, rfl⟩ := h1
    obtain ⟨hs, rfl⟩ := ints_of (by simpa [tI, WT] using k1)
    obtain ⟨C, rfl, hC⟩ := ih fun x hx => h x (by simp [hx])
    refine ⟨⟨n, nb, hs⟩ :: C, rfl, ?_⟩
    intro c hc
    rcases List.mem_cons.1 hc with rfl | hc
    · intro e
      exact List.map_eq_nil_iff.1 (n1 e)
    · exact hC c hc
theorem state_of {s : D} (h : WV tS s) : ∃ x : S, s = .ag x.row ∧ x.inp := by
  simp only [tS, WV] at h
  obtain ⟨cs, rfl, h⟩ := h
  simp only [WTs] at h
  obtain ⟨_, _, rfl, h1, _, _, rfl, h2, _, _, rfl, h3, _, _, rfl, h4, _, _, rfl, h5, _, _, rfl, h6, _, _, rfl, h7, _, _, rfl, h8, _, _, rfl, h9, rfl⟩ := h
  obtain ⟨own, rfl⟩ := wt_i h1
  obtain ⟨cnt, rfl⟩ := wt_i h2
  obtain ⟨time, rfl⟩ := wt_i h3
  obtain ⟨hn, r4, rfl, n4, k4⟩ := wt_sl h4
  obtain ⟨hs, rfl⟩ := ints_of k4
  obtain ⟨qn, r5, rfl, n5, k5⟩ := wt_sl h5
  obtain ⟨q, rfl⟩ := waiters_of k5
  obtain ⟨bn, r6, rfl, _, k6⟩ := wt_sl h6
  obtain ⟨bs, rfl⟩ := ints_of k6
  obtain ⟨cn, r7, rfl, n7, k7⟩ := wt_sl h7
  obtain ⟨C, rfl, hC⟩ := cursors_of k7
  simp only [WT] at h8
  obtain ⟨cl, rfl⟩ := h8
  obtain ⟨val, rfl⟩ := wt_i h9
  exact ⟨⟨own, cnt, time, hn, hs, qn, q, bn, bs, cn, C, cl, val⟩, rfl, hC, fun h => List.map_eq_nil_iff.1 (n5 h), fun h => List.map_eq_nil_iff.1 (n7 h)⟩
theorem object_of {s : D} (h : WV tO s) : ∃ nm k sz ot, s = .ag [nm, I' k, I' sz, I' ot] := by
  simp only [tO, WV, WTs] at h
  obtain ⟨cs, rfl, _, _, rfl, h1, _, _, rfl, h2, _, _, rfl, h3, _, _, rfl, h4, rfl⟩ := h
  simp only [WT] at h1
  obtain ⟨nm, rfl, _⟩ := h1
  obtain ⟨a, rfl⟩ := wt_i h2
  obtain ⟨b, rfl⟩ := wt_i h3
  obtain ⟨c, rfl⟩ := wt_i h4
  exact ⟨_, a, b, c, rfl⟩
theorem call_of {s : D} (h : WV tC s) : ∃ a b c d e, s = .ag [I' a, I' b, I' c, I' d, I' e] := by
  simp only [tC, WV] at h
  obtain ⟨cs, rfl, h⟩ := h
  obtain ⟨a, b, c, d, e, rfl⟩ := five_of h
  exact ⟨a, b, c, d, e, rfl⟩
theorem int_of {s : D} (h : WV tI s) : ∃ n, s = I' n := by
  simp only [tI, WV] at h
  obtain ⟨n, hn⟩ := wt_i h
  exact ⟨n, by simpa using hn⟩
theorem l_Apply (xs : List D) (h : WVs [tO, tS, tC] xs) : ev P (.call nurserylaw23_TopicApply (xs.map V.d) []) = some (.val (.d (.b true)) []) := by
  simp only [WVs] at h
  obtain ⟨o, _, rfl, ho, s, _, rfl, hs, c, _, rfl, hc, rfl⟩ := h
  obtain ⟨nm, k, sz, ot, rfl⟩ := object_of ho
  obtain ⟨x, rfl, hx⟩ := state_of hs
  obtain ⟨a, b, c, d, e, rfl⟩ := call_of hc
  exact law_Apply nm k sz ot x hx a b c d e
theorem l_Withdraw (xs : List D) (h : WVs [tO, tS, tC, tI] xs) : ev P (.call nurserylaw23_TopicWithdraw (xs.map V.d) []) = some (.val (.d (.b true)) []) := by
  simp only [WVs] at h
  obtain ⟨o, _, rfl, ho, s, _, rfl, hs, c, _, rfl, hc, tk, _, rfl, htk, rfl⟩ := h
  obtain ⟨nm, k, sz, ot, rfl⟩ := object_of ho
  obtain ⟨x, rfl, hx⟩ := state_of hs
  obtain ⟨a, b, c, d, e, rfl⟩ := call_of hc
  obtain ⟨f, rfl⟩ := int_of htk
  exact law_Withdraw nm k sz ot x hx a b c d e f
end Go.VS.Tp
namespace Go.VS.Tp
theorem l_Reads (xs : List D) (h : WVs [tO, tS] xs) : ev P (.call nurserylaw23_TopicReads (xs.map V.d) []) = some (.val (.d (.b true)) []) := by
  simp only [WVs] at h
  obtain ⟨o, _, rfl, ho, s, _, rfl, hs, rfl⟩ := h
  obtain ⟨nm, k, sz, ot, rfl⟩ := object_of ho
  obtain ⟨x, rfl, hx⟩ := state_of hs
  exact law_Reads nm k sz ot x hx
end Go.VS.Tp
