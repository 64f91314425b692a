import Derived.Test.YtjkgnelkochemaaV06
import Derived.Test.YtjkgnelkochemaaV04
import Derived.Test.YtjkgnelkochemaaV05
import Derived.KernelRfl
import Derived.Test.YtjkgnelkochemaaChecked
import Derived.Test.YtjkgnelkochemaaV08
set_option linter.all false
open Go.Proofs
namespace Go.VS
noncomputable def ck (f : Nat) (F : F) : Bool :=
  match Try.prog.funcs[f]? with
  | some fn => !(fn.name == "runtime.NumGoroutine") && (match fn.body with | some c => chkC Try.prog (fun n => n) fn.ntmps c F.code && chkR Try.prog fn.results.toList F.res | none => false)
  | none => false
theorem ok_nurserylaw17_RwlockWithdraw : ck 3 F_nurserylaw17_RwlockWithdraw = true := by kernel_rfl
theorem ok_nurserylaw17_RwlockValid : ck 4 F_nurserylaw17_RwlockValid = true := by kernel_rfl
theorem ok_nurserylaw17_RwlockApply : ck 5 F_nurserylaw17_RwlockApply = true := by kernel_rfl
theorem ok_nurserylaw17_RwlockUndo : ck 6 F_nurserylaw17_RwlockUndo = true := by kernel_rfl
theorem ok_nurserylaw17_RwlockProgress : ck 7 F_nurserylaw17_RwlockProgress = true := by kernel_rfl
theorem ok_nurserylaw17_RwlockFair : ck 8 F_nurserylaw17_RwlockFair = true := by kernel_rfl
theorem ok_nurseryref17_Great : ck 9 F_nurseryref17_Great = true := by kernel_rfl
theorem ok_nurserylaw17_awake : ck 10 F_nurserylaw17_awake = true := by kernel_rfl
theorem ok_rwlock_Withdraw : ck 11 F_rwlock_Withdraw = true := by kernel_rfl
theorem ok_nurseryref17_Withdraw : ck 12 F_nurseryref17_Withdraw = true := by kernel_rfl
theorem ok_nurseryref17_SameReply : ck 13 F_nurseryref17_SameReply = true := by kernel_rfl
theorem ok_rwlock_Holds : ck 14 F_rwlock_Holds = true := by kernel_rfl
theorem ok_nurseryref17_Holds : ck 15 F_nurseryref17_Holds = true := by kernel_rfl
theorem ok_rwlock_New : ck 16 F_rwlock_New = true := by kernel_rfl
theorem ok_nurserylaw17_lock : ck 17 F_nurserylaw17_lock = true := by kernel_rfl
theorem ok_rwlock_Check : ck 18 F_rwlock_Check = true := by kernel_rfl
theorem ok_rwlock_Apply : ck 19 F_rwlock_Apply = true := by kernel_rfl
theorem ok_nurseryref17_New : ck 20 F_nurseryref17_New = true := by kernel_rfl
theorem ok_nurseryref17_Apply : ck 21 F_nurseryref17_Apply = true := by kernel_rfl
theorem ok_nurseryref17_SameState : ck 22 F_nurseryref17_SameState = true := by kernel_rfl
theorem ok_nurseryref17_Check : ck 23 F_nurseryref17_Check = true := by kernel_rfl
theorem ok_rwlock_Ready : ck 24 F_rwlock_Ready = true := by kernel_rfl
theorem ok_nurseryref17_Ready : ck 25 F_nurseryref17_Ready = true := by kernel_rfl
theorem ok_slices_Equal_int_int : ck 26 F_slices_Equal_int_int = true := by kernel_rfl
theorem ok_nurserylaw17_play : ck 27 F_nurserylaw17_play = true := by kernel_rfl
theorem ok_nurserylaw17_RwlockFairC1 : ck 28 F_nurserylaw17_RwlockFairC1 = true := by kernel_rfl
theorem ok_slices_ContainsFunc_api_Waiter_api_Waiter : ck 29 F_slices_ContainsFunc_api_Waiter_api_Waiter = true := by kernel_rfl
theorem ok_nurserylaw17_RwlockFairC1C1 : ck 30 F_nurserylaw17_RwlockFairC1C1 = true := by kernel_rfl
theorem ok_waitlist_Find : ck 31 F_waitlist_Find = true := by kernel_rfl
theorem ok_rwlock_changed : ck 32 F_rwlock_changed = true := by kernel_rfl
theorem ok_waitlist_Remove : ck 33 F_waitlist_Remove = true := by kernel_rfl
theorem ok_rwlock_lock_serve : ck 34 F_rwlock_lock_serve = true := by kernel_rfl
theorem ok_nurseryref07_Find : ck 35 F_nurseryref07_Find = true := by kernel_rfl
theorem ok_nurseryref07_Remove : ck 36 F_nurseryref07_Remove = true := by kernel_rfl
theorem ok_nurseryref17_serve : ck 37 F_nurseryref17_serve = true := by kernel_rfl
theorem ok_rwlock_holds : ck 38 F_rwlock_holds = true := by kernel_rfl
theorem ok_nurseryref17_reads : ck 39 F_nurseryref17_reads = true := by kernel_rfl
theorem ok_rwlock_valid : ck 40 F_rwlock_valid = true := by kernel_rfl
theorem ok_rwlock_isTask : ck 41 F_rwlock_isTask = true := by kernel_rfl
theorem ok_rwlock_lock_free : ck 42 F_rwlock_lock_free = true := by kernel_rfl
theorem ok_rwlock_lock_writes : ck 43 F_rwlock_lock_writes = true := by kernel_rfl
theorem ok_rwlock_lock_acquire : ck 44 F_rwlock_lock_acquire = true := by kernel_rfl
theorem ok_slices_DeleteFunc_int_int : ck 45 F_slices_DeleteFunc_int_int = true := by kernel_rfl
theorem ok_rwlock_ApplyC1 : ck 46 F_rwlock_ApplyC1 = true := by kernel_rfl
theorem ok_rwlock_lock_reply : ck 47 F_rwlock_lock_reply = true := by kernel_rfl
theorem ok_nurseryref17_check : ck 48 F_nurseryref17_check = true := by kernel_rfl
theorem ok_nurseryref17_with : ck 49 F_nurseryref17_with = true := by kernel_rfl
theorem ok_nurseryref17_without : ck 50 F_nurseryref17_without = true := by kernel_rfl
theorem ok_nurseryref07_Same : ck 51 F_nurseryref07_Same = true := by kernel_rfl
theorem ok_nurseryref01_Same : ck 52 F_nurseryref01_Same = true := by kernel_rfl
theorem ok_nurseryref17_valid : ck 53 F_nurseryref17_valid = true := by kernel_rfl
theorem ok_nurseryref17_vain : ck 54 F_nurseryref17_vain = true := by kernel_rfl
theorem ok_slices_IndexFunc_api_Waiter_api_Waiter : ck 55 F_slices_IndexFunc_api_Waiter_api_Waiter = true := by kernel_rfl
theorem ok_slices_Clone_int_int : ck 56 F_slices_Clone_int_int = true := by kernel_rfl
theorem ok_slices_Clone_api_Waiter_api_Waiter : ck 57 F_slices_Clone_api_Waiter_api_Waiter = true := by kernel_rfl
theorem ok_waitlist_filter : ck 58 F_waitlist_filter = true := by kernel_rfl
theorem ok_waitlist_RemoveC1 : ck 59 F_waitlist_RemoveC1 = true := by kernel_rfl
theorem ok_rwlock_lock_grant : ck 60 F_rwlock_lock_grant = true := by kernel_rfl
theorem ok_slices_Contains_int_int : ck 61 F_slices_Contains_int_int = true := by kernel_rfl
theorem ok_rwlock_queued : ck 62 F_rwlock_queued = true := by kernel_rfl
theorem ok_slices_IndexFunc_int_int : ck 63 F_slices_IndexFunc_int_int = true := by kernel_rfl
theorem ok_nurseryref17_Caller : ck 64 F_nurseryref17_Caller = true := by kernel_rfl
theorem ok_nurseryref17_IsTask : ck 65 F_nurseryref17_IsTask = true := by kernel_rfl
theorem ok_nurseryref07_Check : ck 66 F_nurseryref07_Check = true := by kernel_rfl
theorem ok_slices_BinarySearch_int_int : ck 67 F_slices_BinarySearch_int_int = true := by kernel_rfl
theorem ok_slices_Index_int_int : ck 69 F_slices_Index_int_int = true := by kernel_rfl
theorem ok_waitlist_Check : ck 70 F_waitlist_Check = true := by kernel_rfl
theorem ok_nurseryref07_Valid : ck 71 F_nurseryref07_Valid = true := by kernel_rfl
theorem ok_cmp_Less_int : ck 72 F_cmp_Less_int = true := by kernel_rfl
theorem ok_slices_isNaN_int : ck 73 F_slices_isNaN_int = true := by kernel_rfl
theorem ok_slices_rotateRight_int : ck 75 F_slices_rotateRight_int = true := by kernel_rfl
theorem ok_waitlist_valid : ck 76 F_waitlist_valid = true := by kernel_rfl
theorem ok_nurseryref07_within : ck 77 F_nurseryref07_within = true := by kernel_rfl
theorem ok_cmp_isNaN_int : ck 78 F_cmp_isNaN_int = true := by kernel_rfl
theorem ok_slices_rotateLeft_int : ck 79 F_slices_rotateLeft_int = true := by kernel_rfl
theorem ok_slices_Reverse_int_int : ck 80 F_slices_Reverse_int_int = true := by kernel_rfl
theorem okR_slices_Insert_int_int : ck 68 R_slices_Insert_int_int = true := by kernel_rfl
theorem code_of_ck {f : Nat} {F : F} (h : ck f F = true) : FnCode Try.prog (fun n => n) f F := by
  unfold ck at h
  split at h
  · rename_i fn hf
    split at h
    · rename_i c hc
      simp only [Bool.and_eq_true, Bool.not_eq_true'] at h
      exact ⟨fn, c, hf, h.1, hc, h.2.1, h.2.2⟩
    · simp at h
  · cases h
theorem mixed : Try.prog.follows .mixedOrders = true := by kernel_rfl
theorem laid : laidOutB Try.prog = true := by kernel_rfl
theorem hF : ∀ f F, P f = some F → FnOk Try.prog (fun n => n) f F := by
  intro f F h
  unfold P at h
  split at h
  · cases h; exact .inl ⟨rfl, code_of_ck ok_nurserylaw17_RwlockWithdraw⟩
  · cases h; exact .inl ⟨rfl, code_of_ck ok_nurserylaw17_RwlockValid⟩
  · cases h; exact .inl ⟨rfl, code_of_ck ok_nurserylaw17_RwlockApply⟩
  · cases h; exact .inl ⟨rfl, code_of_ck ok_nurserylaw17_RwlockUndo⟩
  · cases h; exact .inl ⟨rfl, code_of_ck ok_nurserylaw17_RwlockProgress⟩
  · cases h; exact .inl ⟨rfl, code_of_ck ok_nurserylaw17_RwlockFair⟩
  · cases h; exact .inl ⟨rfl, code_of_ck ok_nurseryref17_Great⟩
  · cases h; exact .inl ⟨rfl, code_of_ck ok_nurserylaw17_awake⟩
  · cases h; exact .inl ⟨rfl, code_of_ck ok_rwlock_Withdraw⟩
  · cases h; exact .inl ⟨rfl, code_of_ck ok_nurseryref17_Withdraw⟩
  · cases h; exact .inl ⟨rfl, code_of_ck ok_nurseryref17_SameReply⟩
  · cases h; exact .inl ⟨rfl, code_of_ck ok_rwlock_Holds⟩
  · cases h; exact .inl ⟨rfl, code_of_ck ok_nurseryref17_Holds⟩
  · cases h; exact .inl ⟨rfl, code_of_ck ok_rwlock_New⟩
  · cases h; exact .inl ⟨rfl, code_of_ck ok_nurserylaw17_lock⟩
  · cases h; exact .inl ⟨rfl, code_of_ck ok_rwlock_Check⟩
  · cases h; exact .inl ⟨rfl, code_of_ck ok_rwlock_Apply⟩
  · cases h; exact .inl ⟨rfl, code_of_ck ok_nurseryref17_New⟩
  · cases h; exact .inl ⟨rfl, code_of_ck ok_nurseryref17_Apply⟩
  · cases h; exact .inl ⟨rfl, code_of_ck ok_nurseryref17_SameState⟩
  · cases h; exact .inl ⟨rfl, code_of_ck ok_nurseryref17_Check⟩
  · cases h; exact .inl ⟨rfl, code_of_ck ok_rwlock_Ready⟩
  · cases h; exact .inl ⟨rfl, code_of_ck ok_nurseryref17_Ready⟩
  · cases h; exact .inl ⟨rfl, code_of_ck ok_slices_Equal_int_int⟩
  · cases h; exact .inl ⟨rfl, code_of_ck ok_nurserylaw17_play⟩
  · cases h; exact .inl ⟨rfl, code_of_ck ok_nurserylaw17_RwlockFairC1⟩
  · cases h; exact .inl ⟨rfl, code_of_ck ok_slices_ContainsFunc_api_Waiter_api_Waiter⟩
  · cases h; exact .inl ⟨rfl, code_of_ck ok_nurserylaw17_RwlockFairC1C1⟩
  · cases h; exact .inl ⟨rfl, code_of_ck ok_waitlist_Find⟩
  · cases h; exact .inl ⟨rfl, code_of_ck ok_rwlock_changed⟩
  · cases h; exact .inl ⟨rfl, code_of_ck ok_waitlist_Remove⟩
  · cases h; exact .inl ⟨rfl, code_of_ck ok_rwlock_lock_serve⟩
  · cases h; exact .inl ⟨rfl, code_of_ck ok_nurseryref07_Find⟩
  · cases h; exact .inl ⟨rfl, code_of_ck ok_nurseryref07_Remove⟩
  · cases h; exact .inl ⟨rfl, code_of_ck ok_nurseryref17_serve⟩
  · cases h; exact .inl ⟨rfl, code_of_ck ok_rwlock_holds⟩
  · cases h; exact .inl ⟨rfl, code_of_ck ok_nurseryref17_reads⟩
  · cases h; exact .inl ⟨rfl, code_of_ck ok_rwlock_valid⟩
  · cases h; exact .inl ⟨rfl, code_of_ck ok_rwlock_isTask⟩
  · cases h; exact .inl ⟨rfl, code_of_ck ok_rwlock_lock_free⟩
  · cases h; exact .inl ⟨rfl, code_of_ck ok_rwlock_lock_writes⟩
  · cases h; exact .inl ⟨rfl, code_of_ck ok_rwlock_lock_acquire⟩
  · cases h; exact .inl ⟨rfl, code_of_ck ok_slices_DeleteFunc_int_int⟩
  · cases h; exact .inl ⟨rfl, code_of_ck ok_rwlock_ApplyC1⟩
  · cases h; exact .inl ⟨rfl, code_of_ck ok_rwlock_lock_reply⟩
  · cases h; exact .inl ⟨rfl, code_of_ck ok_nurseryref17_check⟩
  · cases h; exact .inl ⟨rfl, code_of_ck ok_nurseryref17_with⟩
  · cases h; exact .inl ⟨rfl, code_of_ck ok_nurseryref17_without⟩
  · cases h; exact .inl ⟨rfl, code_of_ck ok_nurseryref07_Same⟩
  · cases h; exact .inl ⟨rfl, code_of_ck ok_nurseryref01_Same⟩
  · cases h; exact .inl ⟨rfl, code_of_ck ok_nurseryref17_valid⟩
  · cases h; exact .inl ⟨rfl, code_of_ck ok_nurseryref17_vain⟩
  · cases h; exact .inl ⟨rfl, code_of_ck ok_slices_IndexFunc_api_Waiter_api_Waiter⟩
  · cases h; exact .inl ⟨rfl, code_of_ck ok_slices_Clone_int_int⟩
  · cases h; exact .inl ⟨rfl, code_of_ck ok_slices_Clone_api_Waiter_api_Waiter⟩
  · cases h; exact .inl ⟨rfl, code_of_ck ok_waitlist_filter⟩
  · cases h; exact .inl ⟨rfl, code_of_ck ok_waitlist_RemoveC1⟩
  · cases h; exact .inl ⟨rfl, code_of_ck ok_rwlock_lock_grant⟩
  · cases h; exact .inl ⟨rfl, code_of_ck ok_slices_Contains_int_int⟩
  · cases h; exact .inl ⟨rfl, code_of_ck ok_rwlock_queued⟩
  · cases h; exact .inl ⟨rfl, code_of_ck ok_slices_IndexFunc_int_int⟩
  · cases h; exact .inl ⟨rfl, code_of_ck ok_nurseryref17_Caller⟩
  · cases h; exact .inl ⟨rfl, code_of_ck ok_nurseryref17_IsTask⟩
  · cases h; exact .inl ⟨rfl, code_of_ck ok_nurseryref07_Check⟩
  · cases h; exact .inl ⟨rfl, code_of_ck ok_slices_BinarySearch_int_int⟩
  · cases h; exact .inl ⟨rfl, code_of_ck ok_slices_Index_int_int⟩
  · cases h; exact .inl ⟨rfl, code_of_ck ok_waitlist_Check⟩
  · cases h; exact .inl ⟨rfl, code_of_ck ok_nurseryref07_Valid⟩
  · cases h; exact .inl ⟨rfl, code_of_ck ok_cmp_Less_int⟩
  · cases h; exact .inl ⟨rfl, code_of_ck ok_slices_isNaN_int⟩
  · cases h; exact .inl ⟨rfl, code_of_ck ok_slices_rotateRight_int⟩
  · cases h; exact .inl ⟨rfl, code_of_ck ok_waitlist_valid⟩
  · cases h; exact .inl ⟨rfl, code_of_ck ok_nurseryref07_within⟩
  · cases h; exact .inl ⟨rfl, code_of_ck ok_cmp_isNaN_int⟩
  · cases h; exact .inl ⟨rfl, code_of_ck ok_slices_rotateLeft_int⟩
  · cases h; exact .inl ⟨rfl, code_of_ck ok_slices_Reverse_int_int⟩
  · cases h; exact .inr ⟨_, rfl, ins_ok mixed (code_of_ck okR_slices_Insert_int_int) rfl rfl rfl (by decide)⟩
  · cases h
end Go.VS
namespace Go.VS.R
abbrev tI : Ty := .i .i64
def tW : Ty := .st [tI, tI, tI, tI, tI]
def tCur : Ty := .st [tI, .sl 1 tI]
def tS : Ty := .st [tI, tI, tI, .sl 1 tI, .sl 5 tW, .sl 1 tI, .sl 2 tCur, .b, tI]
def tO : Ty := .st [.s, tI, tI, tI]
def tC : Ty := .st [tI, tI, tI, tI, tI]
theorem wt_i {cs : List D} (h : WT tI cs) : ∃ n, cs = [I' n] := by
  simp only [tI, WT] at h
  obtain ⟨n, rfl, _⟩ := h
  exact ⟨n, rfl⟩
theorem ints_of {rows : List (List D)} (h : ∀ r ∈ rows, WT tI r) : ∃ hs : List Int, rows = rows1 hs := by
  induction rows with
  | nil => exact ⟨[], rfl⟩
  | cons r rs ih =>
    obtain ⟨n, rfl⟩ := wt_i (h r (by simp))
    obtain ⟨hs, rfl⟩ := ih fun x hx => h x (by simp [hx])
    exact ⟨n :: hs, rfl⟩
theorem five_of {cs : List D} (h : WTs [tI, tI, tI, tI, tI] cs) : ∃ a b c d e, cs = [I' a, I' b, I' c, I' d, I' e] := by
  simp only [WTs] at h
  obtain ⟨_, _, rfl, h1, _, _, rfl, h2, _, _, rfl, h3, _, _, rfl, h4, _, _, rfl, h5, rfl⟩ := h
  obtain ⟨a, rfl⟩ := wt_i h1
  obtain ⟨b, rfl⟩ := wt_i h2
  obtain ⟨c, rfl⟩ := wt_i h3
  obtain ⟨d, rfl⟩ := wt_i h4
  obtain ⟨e, rfl⟩ := wt_i h5
  exact ⟨a, b, c, d, e, rfl⟩
theorem waiters_of {rows : List (List D)} (h : ∀ r ∈ rows, WT tW r) : ∃ q : List W, rows = q.map W.row := by
  induction rows with
  | nil => exact ⟨[], rfl⟩
  | cons r rs ih =>
    have h1 := h r (by simp)
    simp only [tW, WT] at h1
    obtain ⟨a, b, c, d, e, rfl⟩ := five_of h1
    obtain ⟨q, rfl⟩ := ih fun x hx => h x (by simp [hx])
    exact ⟨⟨a, b, c, d, e⟩ :: q, rfl⟩
theorem wt_sl {es : Nat} {t : Ty} {cs : List D} (h : WT (.sl es t) cs) : ∃ nl rows, cs = [.sl es nl rows] ∧ (nl = true → rows = []) ∧ ∀ r ∈ rows, WT t r := by
  simp only [WT] at h
  obtain ⟨nl, rows, rfl, h1, _, h2⟩ := h
  exact ⟨nl, rows, rfl, h1, h2⟩
structure IsState (s : D) where
  own : Int
  cnt : Int
  time : Int
  hn : Bool
  H : List Int
  qn : Bool
  Q : List W
  bn : Bool
  B : List Int
  cn : Bool
  C : List (List D)
  cl : Bool
  val : Int
  eq : s = stF own cnt time hn H qn Q bn B cn C cl val
  hC : ∀ c, c ∈ C → ∃ t nb r, c = [I' t, .sl 1 nb r]
  hQ : qn = true → Q = []
  hH : hn = true → H = []
theorem state_of {s : D} (h : WV tS s) : Nonempty (IsState s) := by
  simp only [tS, WV] at h
  obtain ⟨cs, rfl, h⟩ := h
  simp only [WTs] at h
  obtain ⟨_, _, rfl, h1, _, _, rfl, h2, _, _, rfl, h3, _, _, rfl, h4, _, _, rfl, h5, _, _, rfl, h6, _, _, rfl, h7, _, _, rfl, h8, _, _, rfl, h9, rfl⟩ := h
  obtain ⟨own, rfl⟩ := wt_i h1
  obtain ⟨cnt, rfl⟩ := wt_i h2
  obtain ⟨time, rfl⟩ := wt_i h3
  obtain ⟨hn, r4, rfl, n4, k4⟩ := wt_sl h4
  obtain ⟨hs, rfl⟩ := ints_of k4
  obtain ⟨qn, r5, rfl, n5, k5⟩ := wt_sl h5
  obtain ⟨q, rfl⟩ := waiters_of k5
  obtain ⟨bn, r6, rfl, _, k6⟩ := wt_sl h6
  obtain ⟨bs, rfl⟩ := ints_of k6
  obtain ⟨cn, cs, rfl, _, k7⟩ := wt_sl h7
  simp only [WT] at h8
  obtain ⟨cl, rfl⟩ := h8
  obtain ⟨val, rfl⟩ := wt_i h9
  refine ⟨⟨own, cnt, time, hn, hs, qn, q, bn, bs, cn, cs, cl, val, rfl, ?_, fun h => List.map_eq_nil_iff.1 (n5 h), fun h => List.map_eq_nil_iff.1 (n4 h)⟩⟩
  intro c hc
  have h1 := k7 c hc
  simp only [tCur, WT, WTs] at h1
  obtain ⟨_, _, rfl, ⟨n, rfl, _⟩, _, _, rfl, ⟨nb, r, rfl, _⟩, rfl⟩ := h1
  exact ⟨n, nb, r, rfl⟩
theorem object_of {s : D} (h : WV tO s) : ∃ nm k sz ot, s = .ag [nm, I' k, I' sz, I' ot] := by
  simp only [tO, WV, WTs] at h
  obtain ⟨cs, rfl, _, _, rfl, h1, _, _, rfl, h2, _, _, rfl, h3, _, _, rfl, h4, rfl⟩ := h
  simp only [WT] at h1
  obtain ⟨nm, rfl, _⟩ := h1
  obtain ⟨a, rfl⟩ := wt_i h2
  obtain ⟨b, rfl⟩ := wt_i h3
  obtain ⟨c, rfl⟩ := wt_i h4
  exact ⟨_, a, b, c, rfl⟩
theorem call_of {s : D} (h : WV tC s) : ∃ a b c d e, s = .ag [I' a, I' b, I' c, I' d, I' e] := by
  simp only [tC, WV] at h
  obtain ⟨cs, rfl, h⟩ := h
  obtain ⟨a, b, c, d, e, rfl⟩ := five_of h
  exact ⟨a, b, c, d, e, rfl⟩
theorem int_of {s : D} (h : WV tI s) : ∃ n, s = I' n := by
  simp only [tI, WV] at h
  obtain ⟨n, hn⟩ := wt_i h
  exact ⟨n, by simpa using hn⟩
theorem l_Apply (xs : List D) (h : WVs [tO, tS, tC] xs) : ev P (.call nurserylaw17_RwlockApply (xs.map V.d) []) = some (.val (.d (.b true)) []) := by
  simp only [WVs] at h
  obtain ⟨o, _, rfl, ho, s, _, rfl, hs, c, _, rfl, hc, rfl⟩ := h
  obtain ⟨nm, k, sz, ot, rfl⟩ := object_of ho
  obtain ⟨S⟩ := state_of hs
  obtain ⟨a, b, c, d, e, rfl⟩ := call_of hc
  rw [S.eq]
  exact law_Apply nm k sz ot _ _ _ _ _ _ _ _ _ _ _ _ _ a b c d e S.hH S.hQ S.hC
theorem l_Withdraw (xs : List D) (h : WVs [tO, tS, tI] xs) : ev P (.call nurserylaw17_RwlockWithdraw (xs.map V.d) []) = some (.val (.d (.b true)) []) := by
  simp only [WVs] at h
  obtain ⟨o, _, rfl, ho, s, _, rfl, hs, c, _, rfl, hc, rfl⟩ := h
  obtain ⟨nm, k, sz, ot, rfl⟩ := object_of ho
  obtain ⟨S⟩ := state_of hs
  obtain ⟨a, rfl⟩ := int_of hc
  rw [S.eq]
  exact law_Withdraw nm k sz ot _ _ _ _ _ _ _ _ _ _ _ _ _ a S.hH S.hQ S.hC
end Go.VS.R
