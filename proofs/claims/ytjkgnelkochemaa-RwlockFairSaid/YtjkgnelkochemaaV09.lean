import Derived.Test.YtjkgnelkochemaaV06
import Derived.Test.YtjkgnelkochemaaV04
import Derived.Test.YtjkgnelkochemaaV05
import Derived.KernelRfl
import Derived.Test.YtjkgnelkochemaaChecked
import Derived.Test.YtjkgnelkochemaaV08
set_option linter.all false
open Go.Proofs
namespace Go.VS
noncomputable def ck (f : Nat) (F : F) : Bool :=
  match Try.prog.funcs[f]? with
  | some fn => !(fn.name == "runtime.NumGoroutine") && (match fn.body with | some c => chkC Try.prog (fun n => n) fn.ntmps c F.code && chkR Try.prog fn.results.toList F.res | none => false)
  | none => false
theorem ok_nurserylaw17_RwlockWithdraw : ck 3 F_nurserylaw17_RwlockWithdraw = true := by kernel_rfl
theorem ok_nurserylaw17_RwlockValid : ck 4 F_nurserylaw17_RwlockValid = true := by kernel_rfl
theorem ok_nurserylaw17_RwlockApply : ck 5 F_nurserylaw17_RwlockApply = true := by kernel_rfl
theorem ok_nurserylaw17_RwlockUndo : ck 6 F_nurserylaw17_RwlockUndo = true := by kernel_rfl
theorem ok_nurserylaw17_RwlockProgress : ck 7 F_nurserylaw17_RwlockProgress = true := by kernel_rfl
theorem ok_nurserylaw17_RwlockFair : ck 8 F_nurserylaw17_RwlockFair = true := by kernel_rfl
theorem ok_nurseryref17_Great : ck 9 F_nurseryref17_Great = true := by kernel_rfl
theorem ok_nurserylaw17_awake : ck 10 F_nurserylaw17_awake = true := by kernel_rfl
theorem ok_rwlock_Withdraw : ck 11 F_rwlock_Withdraw = true := by kernel_rfl
theorem ok_nurseryref17_Withdraw : ck 12 F_nurseryref17_Withdraw = true := by kernel_rfl
theorem ok_nurseryref17_SameReply : ck 13 F_nurseryref17_SameReply = true := by kernel_rfl
theorem ok_rwlock_Holds : ck 14 F_rwlock_Holds = true := by kernel_rfl
theorem ok_nurseryref17_Holds : ck 15 F_nurseryref17_Holds = true := by kernel_rfl
theorem ok_rwlock_New : ck 16 F_rwlock_New = true := by kernel_rfl
theorem ok_nurserylaw17_lock : ck 17 F_nurserylaw17_lock = true := by kernel_rfl
theorem ok_rwlock_Check : ck 18 F_rwlock_Check = true := by kernel_rfl
theorem ok_rwlock_Apply : ck 19 F_rwlock_Apply = true := by kernel_rfl
theorem ok_nurseryref17_New : ck 20 F_nurseryref17_New = true := by kernel_rfl
theorem ok_nurseryref17_Apply : ck 21 F_nurseryref17_Apply = true := by kernel_rfl
theorem ok_nurseryref17_SameState : ck 22 F_nurseryref17_SameState = true := by kernel_rfl
theorem ok_nurseryref17_Check : ck 23 F_nurseryref17_Check = true := by kernel_rfl
theorem ok_rwlock_Ready : ck 24 F_rwlock_Ready = true := by kernel_rfl
theorem ok_nurseryref17_Ready : ck 25 F_nurseryref17_Ready = true := by kernel_rfl
theorem ok_slices_Equal_int_int : ck 26 F_slices_Equal_int_int = true := by kernel_rfl
theorem ok_nurserylaw17_play : ck 27 F_nurserylaw17_play = true := by kernel_rfl
theorem ok_nurserylaw17_RwlockFairC1 : ck 28 F_nurserylaw17_RwlockFairC1 = true := by kernel_rfl
theorem ok_slices_ContainsFunc_api_Waiter_api_Waiter : ck 29 F_slices_ContainsFunc_api_Waiter_api_Waiter = true := by kernel_rfl
theorem ok_nurserylaw17_RwlockFairC1C1 : ck 30 F_nurserylaw17_RwlockFairC1C1 = true := by kernel_rfl
theorem ok_waitlist_Find : ck 31 F_waitlist_Find = true := by kernel_rfl
theorem ok_rwlock_changed : ck 32 F_rwlock_changed = true := by kernel_rfl
theorem ok_waitlist_Remove : ck 33 F_waitlist_Remove = true := by kernel_rfl
theorem ok_rwlock_lock_serve : ck 34 F_rwlock_lock_serve = true := by kernel_rfl
theorem ok_nurseryref07_Find : ck 35 F_nurseryref07_Find = true := by kernel_rfl
theorem ok_nurseryref07_Remove : ck 36 F_nurseryref07_Remove = true := by kernel_rfl
theorem ok_nurseryref17_serve : ck 37 F_nurseryref17_serve = true := by kernel_rfl
theorem ok_rwlock_holds : ck 38 F_rwlock_holds = true := by kernel_rfl
theorem ok_nurseryref17_reads : ck 39 F_nurseryref17_reads = true := by kernel_rfl
theorem ok_rwlock_valid : ck 40 F_rwlock_valid = true := by kernel_rfl
theorem ok_rwlock_isTask : ck 41 F_rwlock_isTask = true := by kernel_rfl
theorem ok_rwlock_lock_free : ck 42 F_rwlock_lock_free = true := by kernel_rfl
theorem ok_rwlock_lock_writes : ck 43 F_rwlock_lock_writes = true := by kernel_rfl
theorem ok_rwlock_lock_acquire : ck 44 F_rwlock_lock_acquire = true := by kernel_rfl
theorem ok_slices_DeleteFunc_int_int : ck 45 F_slices_DeleteFunc_int_int = true := by kernel_rfl
theorem ok_rwlock_ApplyC1 : ck 46 F_rwlock_ApplyC1 = true := by kernel_rfl
theorem ok_rwlock_lock_reply : ck 47 F_rwlock_lock_reply = true := by kernel_rfl
theorem ok_nurseryref17_check : ck 48 F_nurseryref17_check = true := by kernel_rfl
theorem ok_nurseryref17_with : ck 49 F_nurseryref17_with = true := by kernel_rfl
theorem ok_nurseryref17_without : ck 50 F_nurseryref17_without = true := by kernel_rfl
theorem ok_nurseryref07_Same : ck 51 F_nurseryref07_Same = true := by kernel_rfl
theorem ok_nurseryref01_Same : ck 52 F_nurseryref01_Same = true := by kernel_rfl
theorem ok_nurseryref17_valid : ck 53 F_nurseryref17_valid = true := by kernel_rfl
theorem ok_nurseryref17_vain : ck 54 F_nurseryref17_vain = true := by kernel_rfl
theorem ok_slices_IndexFunc_api_Waiter_api_Waiter : ck 55 F_slices_IndexFunc_api_Waiter_api_Waiter = true := by kernel_rfl
theorem ok_slices_Clone_int_int : ck 56 F_slices_Clone_int_int = true := by kernel_rfl
theorem ok_slices_Clone_api_Waiter_api_Waiter : ck 57 F_slices_Clone_api_Waiter_api_Waiter = true := by kernel_rfl
theorem ok_waitlist_filter : ck 58 F_waitlist_filter = true := by kernel_rfl
theorem ok_waitlist_RemoveC1 : ck 59 F_waitlist_RemoveC1 = true := by kernel_rfl
theorem ok_rwlock_lock_grant : ck 60 F_rwlock_lock_grant = true := by kernel_rfl
theorem ok_slices_Contains_int_int : ck 61 F_slices_Contains_int_int = true := by kernel_rfl
theorem ok_rwlock_queued : ck 62 F_rwlock_queued = true := by kernel_rfl
theorem ok_slices_IndexFunc_int_int : ck 63 F_slices_IndexFunc_int_int = true := by kernel_rfl
theorem ok_nurseryref17_Caller : ck 64 F_nurseryref17_Caller = true := by kernel_rfl
theorem ok_nurseryref17_IsTask : ck 65 F_nurseryref17_IsTask = true := by kernel_rfl
theorem ok_nurseryref07_Check : ck 66 F_nurseryref07_Check = true := by kernel_rfl
theorem ok_slices_BinarySearch_int_int : ck 67 F_slices_BinarySearch_int_int = true := by kernel_rfl
theorem ok_slices_Index_int_int : ck 69 F_slices_Index_int_int = true := by kernel_rfl
theorem ok_waitlist_Check : ck 70 F_waitlist_Check = true := by kernel_rfl
theorem ok_nurseryref07_Valid : ck 71 F_nurseryref07_Valid = true := by kernel_rfl
theorem ok_cmp_Less_int : ck 72 F_cmp_Less_int = true := by kernel_rfl
theorem ok_slices_isNaN_int : ck 73 F_slices_isNaN_int = true := by kernel_rfl
theorem ok_slices_rotateRight_int : ck 75 F_slices_rotateRight_int = true := by kernel_rfl
theorem ok_waitlist_valid : ck 76 F_waitlist_valid = true := by kernel_rfl
theorem ok_nurseryref07_within : ck 77 F_nurseryref07_within = true := by kernel_rfl
theorem ok_cmp_isNaN_int : ck 78 F_cmp_isNaN_int = true := by kernel_rfl
theorem ok_slices_rotateLeft_int : ck 79 F_slices_rotateLeft_int = true := by kernel_rfl
theorem ok_slices_Reverse_int_int : ck 80 F_slices_Reverse_int_int = true := by kernel_rfl
theorem okR_slices_Insert_int_int : ck 68 R_slices_Insert_int_int = true := by kernel_rfl
theorem code_of_ck {f : Nat} {F : F} (h : ck f F = true) : FnCode Try.prog (fun n => n) f F := by
  unfold ck at h
  split at h
  · rename_i fn hf
    split at h
    · rename_i c hc
      simp only [Bool.and_eq_true, Bool.not_eq_true'] at h
      exact ⟨fn, c, hf, h.1, hc, h.2.1, h.2.2⟩
    · simp at h
  · cases h
theorem mixed : Try.prog.follows .mixedOrders = true := by kernel_rfl
theorem laid : laidOutB Try.prog = true := by kernel_rfl
theorem hF : ∀ f F, P f = some F → FnOk Try.prog (fun n => n) f F := by
  intro f F h
  unfold P at h
  split at h
  · cases h; exact .inl ⟨rfl, code_of_ck ok_nurserylaw17_RwlockWithdraw⟩
  · cases h; exact .inl ⟨rfl, code_of_ck ok_nurserylaw17_RwlockValid⟩
  · cases h; exact .inl ⟨rfl, code_of_ck ok_nurserylaw17_RwlockApply⟩
  · cases h; exact .inl ⟨rfl, code_of_ck ok_nurserylaw17_RwlockUndo⟩
  · cases h; exact .inl ⟨rfl, code_of_ck ok_nurserylaw17_RwlockProgress⟩
  · cases h; exact .inl ⟨rfl, code_of_ck ok_nurserylaw17_RwlockFair⟩
  · cases h; exact .inl ⟨rfl, code_of_ck ok_nurseryref17_Great⟩
  · cases h; exact .inl ⟨rfl, code_of_ck ok_nurserylaw17_awake⟩
  · cases h; exact .inl ⟨rfl, code_of_ck ok_rwlock_Withdraw⟩
  · cases h; exact .inl ⟨rfl, code_of_ck ok_nurseryref17_Withdraw⟩
  · cases h; exact .inl ⟨rfl, code_of_ck ok_nurseryref17_SameReply⟩
  · cases h; exact .inl ⟨rfl, code_of_ck ok_rwlock_Holds⟩
  · cases h; exact .inl ⟨rfl, code_of_ck ok_nurseryref17_Holds⟩
  · cases h; exact .inl ⟨rfl, code_of_ck ok_rwlock_New⟩
  · cases h; exact .inl ⟨rfl, code_of_ck ok_nurserylaw17_lock⟩
  · cases h; exact .inl ⟨rfl, code_of_ck ok_rwlock_Check⟩
  · cases h; exact .inl ⟨rfl, code_of_ck ok_rwlock_Apply⟩
  · cases h; exact .inl ⟨rfl, code_of_ck ok_nurseryref17_New⟩
  · cases h; exact .inl ⟨rfl, code_of_ck ok_nurseryref17_Apply⟩
  · cases h; exact .inl ⟨rfl, code_of_ck ok_nurseryref17_SameState⟩
  · cases h; exact .inl ⟨rfl, code_of_ck ok_nurseryref17_Check⟩
  · cases h; exact .inl ⟨rfl, code_of_ck ok_rwlock_Ready⟩
  · cases h; exact .inl ⟨rfl, code_of_ck ok_nurseryref17_Ready⟩
  · cases h; exact .inl ⟨rfl, code_of_ck ok_slices_Equal_int_int⟩
  · cases h; exact .inl ⟨rfl, code_of_ck ok_nurserylaw17_play⟩
  · cases h; exact .inl ⟨rfl, code_of_ck ok_nurserylaw17_RwlockFairC1⟩
  · cases h; exact .inl ⟨rfl, code_of_ck ok_slices_ContainsFunc_api_Waiter_api_Waiter⟩
  · cases h; exact .inl ⟨rfl, code_of_ck ok_nurserylaw17_RwlockFairC1C1⟩
  · cases h; exact .inl ⟨rfl, code_of_ck ok_waitlist_Find⟩
  · cases h; exact .inl ⟨rfl, code_of_ck ok_rwlock_changed⟩
  · cases h; exact .inl ⟨rfl, code_of_ck ok_waitlist_Remove⟩
  · cases h; exact .inl ⟨rfl, code_of_ck ok_rwlock_lock_serve⟩
  · cases h; exact .inl ⟨rfl, code_of_ck ok_nurseryref07_Find⟩
  · cases h; exact .inl ⟨rfl, code_of_ck ok_nurseryref07_Remove⟩
  · cases h; exact .inl ⟨rfl, code_of_ck ok_nurseryref17_serve⟩
  · cases h; exact .inl ⟨rfl, code_of_ck ok_rwlock_holds⟩
  · cases h; exact .inl ⟨rfl, code_of_ck ok_nurseryref17_reads⟩
  · cases h; exact .inl ⟨rfl, code_of_ck ok_rwlock_valid⟩
  · cases h; exact .inl ⟨rfl, code_of_ck ok_rwlock_isTask⟩
  · cases h; exact .inl ⟨rfl, code_of_ck ok_rwlock_lock_free⟩
  · cases h; exact .inl ⟨rfl, code_of_ck ok_rwlock_lock_writes⟩
  · cases h; exact .inl ⟨rfl, code_of_ck ok_rwlock_lock_acquire⟩
  · cases h; exact .inl ⟨rfl, code_of_ck ok_slices_DeleteFunc_int_int⟩
  · cases h; exact .inl ⟨rfl, code_of_ck ok_rwlock_ApplyC1⟩
  · cases h; exact .inl ⟨rfl, code_of_ck ok_rwlock_lock_reply⟩
  · cases h; exact .inl ⟨rfl, code_of_ck ok_nurseryref17_check⟩
  · cases h; exact .inl ⟨rfl, code_of_ck ok_nurseryref17_with⟩
  · cases h; exact .inl ⟨rfl, code_of_ck ok_nurseryref17_without⟩
  · cases h; exact .inl ⟨rfl, code_of_ck ok_nurseryref07_Same⟩
  · cases h; exact .inl ⟨rfl, code_of_ck ok_nurseryref01_Same⟩
  · cases h; exact .inl ⟨rfl, code_of_ck ok_nurseryref17_valid⟩
  · cases h; exact .inl ⟨rfl, code_of_ck ok_nurseryref17_vain⟩
  · cases h; exact .inl ⟨rfl, code_of_ck ok_slices_IndexFunc_api_Waiter_api_Waiter⟩
  · cases h; exact .inl ⟨rfl, code_of_ck ok_slices_Clone_int_int⟩
  · cases h; exact .inl ⟨rfl, code_of_ck ok_slices_Clone_api_Waiter_api_Waiter⟩
  · cases h; exact .inl ⟨rfl, code_of_ck ok_waitlist_filter⟩
  · cases h; exact .inl ⟨rfl, code_of_ck ok_waitlist_RemoveC1⟩
  · cases h; exact .inl ⟨rfl, code_of_ck ok_rwlock_lock_grant⟩
  · cases h; exact .inl ⟨rfl, code_of_ck ok_slices_Contains_int_int⟩
  · cases h; exact .inl ⟨rfl, code_of_ck ok_rwlock_queued⟩
  · cases h; exact .inl ⟨rfl, code_of_ck ok_slices_IndexFunc_int_int⟩
  · cases h; exact .inl ⟨rfl, code_of_ck ok_nurseryref17_Caller⟩
  · cases h; exact .inl ⟨rfl, code_of_ck ok_nurseryref17_IsTask⟩
  · cases h; exact .inl ⟨rfl, code_of_ck ok_nurseryref07_Check⟩
  · cases h; exact .inl ⟨rfl, code_of_ck ok_slices_BinarySearch_int_int⟩
  · cases h; exact .inl ⟨rfl, code_of_ck ok_slices_Index_int_int⟩
  · cases h; exact .inl ⟨rfl, code_of_ck ok_waitlist_Check⟩
  · cases h; exact .inl ⟨rfl, code_of_ck ok_nurseryref07_Valid⟩
  · cases h; exact .inl ⟨rfl, code_of_ck ok_cmp_Less_int⟩
  · cases h; exact .inl ⟨rfl, code_of_ck ok_slices_isNaN_int⟩
  · cases h; exact .inl ⟨rfl, code_of_ck ok_slices_rotateRight_int⟩
  · cases h; exact .inl ⟨rfl, code_of_ck ok_waitlist_valid⟩
  · cases h; exact .inl ⟨rfl, code_of_ck ok_nurseryref07_within⟩
  · cases h; exact .inl ⟨rfl, code_of_ck ok_cmp_isNaN_int⟩
  · cases h; exact .inl ⟨rfl, code_of_ck ok_slices_rotateLeft_int⟩
  · cases h; exact .inl ⟨rfl, code_of_ck ok_slices_Reverse_int_int⟩
  · cases h; exact .inr ⟨_, rfl, ins_ok mixed (code_of_ck okR_slices_Insert_int_int) rfl rfl rfl (by decide)⟩
  · cases h
end Go.VS
namespace Go.VS.R
abbrev tI : Ty := .i .i64
def tW : Ty := .st [tI, tI, tI, tI, tI]
def tCur : Ty := .st [tI, .sl 1 tI]
def tS : Ty := .st [tI, tI, tI, .sl 1 tI, .sl 5 tW, .sl 1 tI, .sl 2 tCur, .b, tI]
def tO : Ty := .st [.s, tI, tI, tI]
def tC : Ty := .st [tI, tI, tI, tI, tI]
theorem wt_i {cs : List D} (h : WT tI cs) : ∃ n, cs = [I' n] := by
  simp only [tI, WT] at h
  obtain ⟨n, rfl, _⟩ := h
  exact ⟨n, rfl⟩
theorem ints_of {rows : List (List D)} (h : ∀ r ∈ rows, WT tI r) : ∃ hs : List Int, rows = rows1 hs := by
  induction rows with
  | nil => exact ⟨[], rfl⟩
  | cons r rs ih =>
    obtain ⟨n, rfl⟩ := wt_i (h r (by simp))
    obtain ⟨hs, rfl⟩ := ih fun x hx => h x (by simp [hx])
    exact ⟨n :: hs, rfl⟩
theorem five_of {cs : List D} (h : WTs [tI, tI, tI, tI, tI] cs) : ∃ a b c d e, cs = [I' a, I' b, I' c, I' d, I' e] := by
  simp only [WTs] at h
  obtain ⟨_, _, rfl, h1, _, _, rfl, h2, _, _, rfl, h3, _, _, rfl, h4, _, _, rfl, h5, rfl⟩ := h
  obtain ⟨a, rfl⟩ := wt_i h1
  obtain ⟨b, rfl⟩ := wt_i h2
  obtain ⟨c, rfl⟩ := wt_i h3
  obtain ⟨d, rfl⟩ := wt_i h4
  obtain ⟨e, rfl⟩ := wt_i h5
  exact ⟨a, b, c, d, e, rfl⟩
theorem waiters_of {rows : List (List D)} (h : ∀ r ∈ rows, WT tW r) : ∃ q : List W, rows = q.map W.row := by
  induction rows with
  | nil => exact ⟨[], rfl⟩
  | cons r rs ih =>
    have h1 := h r (by simp)
    simp only [tW, WT] at h1
    obtain ⟨a, b, c, d, e, rfl⟩ := five_of h1
    obtain ⟨q, rfl⟩ := ih fun x hx => h x (by simp [hx])
    exact ⟨⟨a, b, c, d, e⟩ :: q, rfl⟩
theorem wt_sl {es : Nat} {t : Ty} {cs : List D} (h : WT (.sl es t) cs) : ∃ nl rows, cs = [.sl es nl rows] ∧ (nl = true → rows = []) ∧ ∀ r ∈ rows, WT t r := by
  simp only [WT] at h
  obtain ⟨nl, rows, rfl, h1, _, h2⟩ := h
  exact ⟨nl, rows, rfl, h1, h2⟩
structure IsState (s : D) where
  own : Int
  cnt : Int
  time : Int
  hn : Bool
  H : List Int
  qn : Bool
  Q : List W
  bn : Bool
  B : List Int
  cn : Bool
  C : List (List D)
  cl : Bool
  val : Int
  eq : s = stF own cnt time hn H qn Q bn B cn C cl val
  hC : ∀ c, c ∈ C → ∃ t nb r, c = [I' t, .sl 1 nb r]
  hQ : qn = true → Q = []
  hH : hn = true → H = []
theorem state_of {s : D} (h : WV tS s) : Nonempty (IsState s) := by
  simp only [tS, WV] at h
  obtain ⟨cs, rfl, h⟩ := h
  simp only [WTs] at h
  obtain ⟨_, _, rfl, h1, _, _, rfl, h2, _, _, rfl, h3, _, _, rfl, h4, _, _, rfl, h5, _, _, rfl, h6, _, _, rfl, h7, _, _, rfl, h8, _, _, rfl, h9, rfl⟩ := h
  obtain ⟨own, rfl⟩ := wt_i h1
  obtain ⟨cnt, rfl⟩ := wt_i h2
  obtain ⟨time, rfl⟩ := wt_i h3
  obtain ⟨hn, r4, rfl, n4, k4⟩ := wt_sl h4
  obtain ⟨hs, rfl⟩ := ints_of k4
  obtain ⟨qn, r5, rfl, n5, k5⟩ := wt_sl h5
  obtain ⟨q, rfl⟩ := waiters_of k5
  obtain ⟨bn, r6, rfl, _, k6⟩ := wt_sl h6
  obtain ⟨bs, rfl⟩ := ints_of k6
  obtain ⟨cn, cs, rfl, _, k7⟩ := wt_sl h7
  simp only [WT] at h8
  obtain ⟨cl, rfl⟩ := h8
  obtain ⟨val, rfl⟩ := wt_i h9
  refine ⟨⟨own, cnt, time, hn, hs, qn, q, bn, bs, cn, cs, cl, val, rfl, ?_, fun h => List.map_eq_nil_iff.1 (n5 h), fun h => List.map_eq_nil_iff.1 (n4 h)⟩⟩
  intro c hc
  have h1 := k7 c hc
  simp only [tCur, WT, WTs] at h1
  obtain ⟨_, _, rfl, ⟨n, rfl, _⟩, _, _, rfl, ⟨nb, r, rfl, _⟩, rfl⟩ := h1
  exact ⟨n, nb, r, rfl⟩
theorem object_of {s : D} (h : WV tO s) : ∃ nm k sz ot, s = .ag [nm, I' k, I' sz, I' ot] := by
  simp only [tO, WV, WTs] at h
  obtain ⟨cs, rfl, _, _, rfl, h1, _, _, rfl, h2, _, _, rfl, h3, _, _, rfl, h4, rfl⟩ := h
  simp only [WT] at h1
  obtain ⟨nm, rfl, _⟩ := h1
  obtain ⟨a, rfl⟩ := wt_i h2
  obtain ⟨b, rfl⟩ := wt_i h3
  obtain ⟨c, rfl⟩ := wt_i h4
  exact ⟨_, a, b, c, rfl⟩
theorem call_of {s : D} (h : WV tC s) : ∃ a b c d e, s = .ag [I' a, I' b, I' c, I' d, I' e] := by
  simp only [tC, WV] at h
  obtain ⟨cs, rfl, h⟩ := h
  obtain ⟨a, b, c, d, e, rfl⟩ := five_of h
  exact ⟨a, b, c, d, e, rfl⟩
theorem int_of {s : D} (h : WV tI s) : ∃ n, s = I' n := by
  simp only [tI, WV] at h
  obtain ⟨n, hn⟩ := wt_i h
  exact ⟨n, by simpa using hn⟩
theorem l_Apply (xs : List D) (h : WVs [tO, tS, tC] xs) : ev P (.call nurserylaw17_RwlockApply (xs.map V.d) []) = some (.val (.d (.b true)) []) := by
  simp only [WVs] at h
  obtain ⟨o, _, rfl, ho, s, _, rfl, hs, c, _, rfl, hc, rfl⟩ := h
  obtain ⟨nm, k, sz, ot, rfl⟩ := object_of ho
  obtain ⟨S⟩ := state_of hs
  obtain ⟨a, b, c, d, e, rfl⟩ := call_of hc
  rw [S.eq]
  exact law_Apply nm k sz ot _ _ _ _ _ _ _ _ _ _ _ _ _ a b c d e S.hH S.hQ S.hC
theorem l_Withdraw (xs : List D) (h : WVs [tO, tS, tI] xs) : ev P (.call nurserylaw17_RwlockWithdraw (xs.map V.d) []) = some (.val (.d (.b true)) []) := by
  simp only [WVs] at h
  obtain ⟨o, _, rfl, ho, s, _, rfl, hs, c, _, rfl, hc, rfl⟩ := h
  obtain ⟨nm, k, sz, ot, rfl⟩ := object_of ho
  obtain ⟨S⟩ := state_of hs
  obtain ⟨a, rfl⟩ := int_of hc
  rw [S.eq]
  exact law_Withdraw nm k sz ot _ _ _ _ _ _ _ _ _ _ _ _ _ a S.hH S.hQ S.hC
end Go.VS.R
namespace Go.VS.R
/-! the plain law: what operations return is valid -/
def SAsc (l : List Int) : Prop := l.Pairwise (· < ·)
theorem SAsc.asc {l : List Int} (h : SAsc l) : Asc l := List.Pairwise.imp (fun h => Int.le_of_lt h) h
theorem sasc_ins {t : Int} {l : List Int} (h : SAsc l) (ht : t ∉ l) : SAsc (insI t l) := by
  obtain ⟨h1, h2⟩ := bI_split t h.asc
  have h2' : ∀ x, x ∈ l.drop (bI t l) → t < x := fun x hx => by
    have := h2 x hx
    have hne : x ≠ t := fun e => ht (by rw [← e]; exact List.mem_of_mem_drop hx)
    omega
  unfold insI SAsc
  rw [List.pairwise_append]
  refine ⟨h.sublist (List.take_sublist _ _), List.pairwise_cons.2 ⟨h2', h.sublist (List.drop_sublist _ _)⟩, ?_⟩
  intro a ha b hb
  rcases List.mem_cons.1 hb with rfl | hb
  · exact h1 a ha
  · exact Int.lt_trans (h1 a ha) (h2' b hb)
theorem vh_iff : ∀ {suf pre : List Int}, vh pre suf = true ↔ (∀ x, x ∈ suf → isTask x = true) ∧ (pre.getLast?.toList ++ suf).Pairwise (· < ·)
  | [], pre => by cases h : pre.getLast? <;> simp [vh]
  | x :: r, pre => by
    have e1 : vh pre (x :: r) = (!(!isTask x || pre.getLast?.any (fun y => decide (x ≤ y))) && vh (pre ++ [x]) r) := rfl
    rw [e1, Bool.and_eq_true, vh_iff]
    have hl : (pre ++ [x]).getLast? = some x := by simp
    rw [hl]
    cases hp : pre.getLast? with
    | none =>
      simp
      exact ⟨fun ⟨h1, h2, h3⟩ => ⟨⟨h1, h2⟩, h3⟩, fun ⟨⟨h1, h2⟩, h3⟩ => ⟨h1, h2, h3⟩⟩
    | some p =>
      simp
      constructor
      · rintro ⟨⟨h1, h2⟩, h3, h4, h5⟩
        exact ⟨⟨h1, h3⟩, ⟨h2, fun y hy => Int.lt_trans h2 (h4 y hy)⟩, h4, h5⟩
      · rintro ⟨⟨h1, h3⟩, ⟨h2, _⟩, h4, h5⟩
        exact ⟨⟨h1, h2⟩, h3, h4, h5⟩
theorem vh_iff0 {H : List Int} : vh [] H = true ↔ (∀ x, x ∈ H → isTask x = true) ∧ SAsc H := by
  rw [vh_iff]; simp [SAsc]
theorem wchk_iff {Q : List W} : wchk Q = 0 ↔ Q.length ≤ 96 ∧ ∀ w, w ∈ Q → wvalid w = true := by
  constructor
  · exact wchk_zero
  · rintro ⟨h1, h2⟩
    rw [← rchk_eq]
    unfold rchk
    rw [if_neg (by omega), if_pos (by simpa using h2)]
/-- one who may wait -/
structure WOK (own : Int) (H : List Int) (w : W) : Prop where
  v : wvalid w = true
  op : w.op = 53 ∨ w.op = 55
  val : w.value = 0
  cs : w.case = -1
  no : w.task ≠ own
  nin : w.task ∉ H
theorem wbd_iff {own : Int} {H : List Int} {w : W} (hv : wvalid w = true) : wbd own H w = false ↔ WOK own H w := by
  have ht := (wvalid_task hv).1
  unfold wbd
  constructor
  · intro h
    simp at h
    obtain ⟨⟨⟨h1, h2⟩, h3⟩, h4⟩ := h
    obtain ⟨h5, h6⟩ := (hld_zero ht).1 h4
    exact ⟨hv, by by_cases h : w.op = 53; exact .inl h; exact .inr (by simpa [h] using h1), h2, h3, h5, h6⟩
  · rintro ⟨_, h1, h2, h3, h4, h5⟩
    have := (hld_zero ht).2 ⟨h4, h5⟩
    rcases h1 with h1 | h1 <;> simp [h1, h2, h3, this]
theorem MV_iff {own : Int} {H : List Int} {Q : List W} : MV own H Q ↔ (own = -1 ∨ (isTask own = true ∧ H = [])) ∧ (∀ x, x ∈ H → isTask x = true) ∧ SAsc H ∧ Q.length ≤ 96 ∧ (∀ w, w ∈ Q → WOK own H w) ∧ Q.Pairwise (fun a b => a.task ≠ b.task) ∧ stay own H Q = true := by
  constructor
  · rintro ⟨h1, h2, h3, h4, h5⟩
    obtain ⟨v1, v2⟩ := vh_iff0.1 h2
    obtain ⟨w1, w2⟩ := wchk_iff.1 h3
    obtain ⟨q1, q2, _⟩ := qchk_spec.1 h4
    exact ⟨h1, v1, v2, w1, fun w hw => (wbd_iff (w2 w hw)).1 (q1 w hw), q2, h5⟩
  · rintro ⟨h1, v1, v2, w1, q1, q2, h5⟩
    refine ⟨h1, vh_iff0.2 ⟨v1, v2⟩, wchk_iff.2 ⟨w1, fun w hw => (q1 w hw).v⟩, qchk_spec.2 ⟨fun w hw => (wbd_iff (q1 w hw).v).2 (q1 w hw), q2, by simp⟩, h5⟩
theorem mem_insA {x : Int} : ∀ {q : List W} {l : List Int}, x ∈ insA l q ↔ x ∈ l ∨ ∃ w, w ∈ q ∧ w.task = x
  | [], l => by simp [insA]
  | a :: q, l => by
    have e : insA l (a :: q) = insA (insI a.task l) q := rfl
    rw [e, mem_insA, mem_insI]
    constructor
    · rintro ((h | h) | ⟨w, h1, h2⟩)
      · exact .inr ⟨a, by simp, h.symm⟩
      · exact .inl h
      · exact .inr ⟨w, by simp [h1], h2⟩
    · rintro (h | ⟨w, h1, h2⟩)
      · exact .inl (.inr h)
      · rcases List.mem_cons.1 h1 with e | h1
        · exact .inl (.inl (by rw [← h2, e]))
        · exact .inr ⟨w, h1, h2⟩
theorem sasc_insA : ∀ {q : List W} {l : List Int}, SAsc l → (∀ w, w ∈ q → w.task ∉ l) → q.Pairwise (fun a b => a.task ≠ b.task) → SAsc (insA l q)
  | [], l, h, _, _ => h
  | a :: q, l, h, hn, hd => by
    rw [List.pairwise_cons] at hd
    have e : insA l (a :: q) = insA (insI a.task l) q := rfl
    rw [e]
    refine sasc_insA (sasc_ins h (hn a (by simp))) ?_ hd.2
    intro w hw hm
    rcases mem_insI.1 hm with e | hm
    · exact hd.1 w hw e.symm
    · exact hn w (by simp [hw]) hm
theorem wok_task {own : Int} {H : List Int} {w : W} (h : WOK own H w) : isTask w.task = true := by
  have := wvalid_task h.v
  unfold isTask; simp; omega
theorem MV_srv {own : Int} {H : List Int} {Q : List W} (h1 : own = -1 ∨ (isTask own = true ∧ H = [])) (h2 : ∀ x, x ∈ H → isTask x = true) (h3 : SAsc H) (h4 : Q.length ≤ 96) (h5 : ∀ w, w ∈ Q → WOK own H w) (h6 : Q.Pairwise (fun a b => a.task ≠ b.task)) :
    MV (srvM own H Q).1 (srvM own H Q).2.1 (srvM own H Q).2.2.1 := by
  cases Q with
  | nil => exact MV_iff.2 ⟨h1, h2, h3, h4, h5, h6, rfl⟩
  | cons w r =>
    rw [srvM_cons]
    rw [List.pairwise_cons] at h6
    have hw := h5 w (by simp)
    split
    · rename_i hs
      refine MV_iff.2 ⟨h1, h2, h3, h4, h5, List.pairwise_cons.2 h6, ?_⟩
      unfold stay
      rcases hs with hs | ⟨hs1, hs2⟩
      · simp [hs]
      · simp [hs1, hs2]
    · rename_i hs
      have ho : own = -1 := Classical.byContradiction fun h => hs (.inl h)
      split
      · rename_i h55
        have hH : H = [] := Classical.byContradiction fun h => hs (.inr ⟨h55, h⟩)
        subst hH
        refine MV_iff.2 ⟨.inr ⟨wok_task hw, rfl⟩, by simp, List.Pairwise.nil, by simp at h4 ⊢; omega, ?_, h6.2, ?_⟩
        · intro x hx
          have := h5 x (by simp [hx])
          exact ⟨this.v, this.op, this.val, this.cs, fun e => h6.1 x hx e.symm, by simp⟩
        · cases r with
          | nil => rfl
          | cons a r =>
            have := (wvalid_task hw.v).1
            simp [stay]
            omega
      · rename_i h55
        subst ho
        have hsp : (r.takeWhile fun w => w.op != 55) ++ (r.dropWhile fun w => w.op != 55) = r := List.takeWhile_append_dropWhile
        have hdk : ∀ a l, (r.dropWhile fun w => w.op != 55) = a :: l → a.op = 55 := by
          intro a l h
          have := List.head?_dropWhile_not (fun w : W => w.op != 55) r
          rw [h] at this
          simpa using this
        generalize (r.takeWhile fun w => w.op != 55) = tk at *
        generalize (r.dropWhile fun w => w.op != 55) = dk at *
        subst hsp
        have hd := List.pairwise_append.1 h6.2
        have hm : ∀ x, x ∈ insA (insI w.task H) tk ↔ (x = w.task ∨ x ∈ H) ∨ ∃ v, v ∈ tk ∧ v.task = x := by
          intro x; rw [mem_insA, mem_insI]
        refine MV_iff.2 ⟨.inl rfl, ?_, ?_, ?_, ?_, hd.2.1, ?_⟩
        · intro x hx
          rcases (hm x).1 hx with (rfl | hx) | ⟨v, hv, rfl⟩
          · exact wok_task hw
          · exact h2 x hx
          · exact wok_task (h5 v (by simp [hv]))
        · refine sasc_insA (sasc_ins h3 hw.nin) ?_ hd.1
          intro v hv hx
          rcases mem_insI.1 hx with e | hx
          · exact h6.1 v (by simp [hv]) e.symm
          · exact (h5 v (by simp [hv])).nin hx
        · simp at h4 ⊢; omega
        · intro x hx
          have := h5 x (by simp [hx])
          refine ⟨this.v, this.op, this.val, this.cs, this.no, fun hxm => ?_⟩
          rcases (hm _).1 hxm with (e | hx2) | ⟨v, hv, e⟩
          · exact h6.1 x (by simp [hx]) e.symm
          · exact this.nin hx2
          · exact hd.2.2 v hv x hx e
        · show stay (-1) (insA (insI w.task H) tk) dk = true
          cases dk with
          | nil => rfl
          | cons a l =>
            have h55' := hdk a l rfl
            have hne : (insA (insI w.task H) tk).isEmpty = false := by
              cases hi : insA (insI w.task H) tk with
              | nil => have := (hm w.task).2 (.inl (.inl rfl)); rw [hi] at this; cases this
              | cons _ _ => rfl
            simp [stay, h55', hne]
theorem MV_apV {own : Int} {H : List Int} {Q : List W} {t o p n : Int} (hM : MV own H Q) (hl : Q.length ≤ 90) (he : (apV own H Q t o p n).e = 0) : MV (apV own H Q t o p n).own (apV own H Q t o p n).H (apV own H Q t o p n).Q := by
  obtain ⟨m1, m2, m3, m4, m5, m6, m7⟩ := MV_iff.1 hM
  unfold apV at he ⊢
  cases hb : badC t p n
  · rw [hb] at he
    simp only [Bool.false_eq_true, if_false] at he ⊢
    have hbb := hb
    unfold badC isTask at hbb
    simp at hbb
    obtain ⟨⟨⟨⟨ht1, hp1⟩, hp2⟩, _⟩, _⟩ := hbb
    have htk : isTask t = true := by unfold isTask; simp; exact ht1
    cases hr : (decide (o < 53) || decide (56 < o))
    · rw [hr] at he
      simp only [Bool.false_eq_true, if_false] at he ⊢
      have hop : 53 ≤ o ∧ o ≤ 56 := by simp at hr; omega
      cases hw : Q.any fun w => w.task == t
      · rw [hw] at he
        simp only [Bool.false_eq_true, if_false] at he ⊢
        have hnt : ∀ w, w ∈ Q → w.task ≠ t := by simpa using hw
        by_cases hL : o = 53 ∨ o = 55
        · rw [if_pos hL] at he ⊢
          by_cases hz : hld own H t = 0
          · rw [if_neg (by simp [hz])] at he ⊢
            obtain ⟨z1, z2⟩ := (hld_zero ht1.1).1 hz
            unfold lockS at he ⊢
            by_cases hp : posB own H Q o = true
            · rw [if_pos hp] at he ⊢
              unfold posB at hp
              by_cases h55 : o = 55
              · rw [if_pos h55]
                rw [if_neg (by omega)] at hp
                simp at hp
                obtain ⟨rfl, rfl⟩ := hp
                have hq := hM.free rfl
                subst hq
                exact MV_iff.2 ⟨.inr ⟨htk, rfl⟩, by simp, List.Pairwise.nil, by simp, by simp, List.Pairwise.nil, rfl⟩
              · rw [if_neg h55]
                rw [if_pos (by omega)] at hp
                simp at hp
                obtain ⟨rfl, rfl⟩ := hp
                refine MV_iff.2 ⟨.inl rfl, ?_, sasc_ins m3 z2, by simp, by simp, List.Pairwise.nil, rfl⟩
                intro x hx
                rcases mem_insI.1 hx with rfl | hx
                · exact htk
                · exact m2 x hx
            · rw [if_neg hp]
              refine MV_iff.2 ⟨m1, m2, m3, by simp; omega, ?_, ?_, ?_⟩
              · intro w hw
                rcases List.mem_append.1 hw with hw | hw
                · exact m5 w hw
                · simp at hw
                  subst hw
                  refine ⟨?_, hL, rfl, rfl, z1, z2⟩
                  unfold wvalid wbad
                  simp
                  omega
              · rw [List.pairwise_append]
                exact ⟨m6, List.pairwise_singleton _ _, fun a ha b hb => by simp at hb; rw [hb]; exact hnt a ha⟩
              · show stay own H (Q ++ [⟨t, o, 0, p, -1⟩]) = true
                cases Q with
                | nil =>
                  unfold posB at hp
                  rcases hL with rfl | rfl
                  · simp at hp
                    simp [stay, hp]
                  · rw [if_neg (by decide)] at hp
                    simp at hp
                    simp [stay]
                    by_cases h : own = -1
                    · exact .inr (hp h)
                    · exact .inl h
                | cons a r => exact m7
          · rw [if_pos hz] at he
            simp [zr] at he
        · rw [if_neg hL] at he ⊢
          by_cases h54 : o = 54
          · rw [if_pos h54] at he ⊢
            by_cases hz : hld own H t = 1
            · rw [if_neg (by simp [hz])] at he ⊢
              have hsub : ∀ x, x ∈ (H.filter fun x => x != t) → x ∈ H := fun x hx => (List.mem_filter.1 hx).1
              refine MV_srv (H := H.filter fun x => x != t) ?_ (fun x hx => m2 x (hsub x hx)) (m3.sublist List.filter_sublist) m4 (fun w hw => ?_) m6
              · rcases m1 with h | ⟨h, h'⟩
                · exact .inl h
                · exact .inr ⟨h, by rw [h']; rfl⟩
              · have := m5 w hw
                exact ⟨this.v, this.op, this.val, this.cs, this.no, fun h => this.nin (hsub _ h)⟩
            · rw [if_pos hz] at he
              simp [zr] at he
          · rw [if_neg h54] at he ⊢
            by_cases hz : hld own H t = 2
            · rw [if_neg (by simp [hz])] at he ⊢
              refine MV_srv (.inl rfl) m2 m3 m4 (fun w hw => ?_) m6
              have := m5 w hw
              refine ⟨this.v, this.op, this.val, this.cs, ?_, this.nin⟩
              have := (wvalid_task this.v).1
              omega
            · rw [if_pos hz] at he
              simp [zr] at he
      · rw [hw] at he
        simp [zr] at he
    · rw [hr] at he
      simp [zr] at he
  · rw [hb] at he
    simp [zr] at he
theorem MV_wdV {own : Int} {H : List Int} {Q : List W} {t : Int} (hM : MV own H Q) (he : (wdV own H Q t).e = 0) : MV (wdV own H Q t).own (wdV own H Q t).H (wdV own H Q t).Q := by
  obtain ⟨m1, m2, m3, m4, m5, m6, m7⟩ := MV_iff.1 hM
  unfold wdV at he ⊢
  cases hw : Q.any fun w => w.task == t
  · rw [hw] at he
    simp [zr] at he
  · simp only [if_true]
    have hfl : (Q.filter fun w => w.task != t).length ≤ Q.length := List.length_filter_le _ _
    exact MV_srv m1 m2 m3 (by omega) (fun w hw => m5 w (List.mem_filter.1 hw).1) (m6.sublist List.filter_sublist)
end Go.VS.R
namespace Go.VS.R
def cntH (own : Int) (H : List Int) : Nat → Nat
  | 0 => 0
  | k + 1 => cntH own H k + (if 0 < hld own H k then 1 else 0)
def wrH (own : Int) (H : List Int) : Nat → Bool
  | 0 => false
  | k + 1 => wrH own H k || hld own H k == 2
theorem hld_range (own : Int) (H : List Int) (t : Int) : 0 ≤ hld own H t ∧ hld own H t ≤ 2 := by
  unfold hld
  split
  · omega
  · split <;> omega
theorem cntH_le (own : Int) (H : List Int) : ∀ k, cntH own H k ≤ k
  | 0 => Nat.le_refl _
  | k + 1 => by
    have := cntH_le own H k
    unfold cntH
    split <;> omega
theorem loop_Valid (own : Int) (c1 c2 c5 c6 c7 c8 qd : D) (hn : Bool) (H : List Int) (h3 : H.length ≤ 1000000) : ∀ (m k : Nat), k + m = 16 →
    ev P (.loop 0 [2, 11, 12, 85] F_nurserylaw17_RwlockValid_L0 [(2, .d (.ref [I' own, c1, c2, hD hn H, qd, c5, c6, c7, c8])), (11, .d (I' (cntH own H k))), (12, .d (.b (wrH own H k))), (85, .d (I' k))] []) =
      some (.out (.exit 0) [(11, .d (I' (cntH own H 16))), (12, .d (.b (wrH own H 16)))] []) := by
  intro m
  induction m with
  | zero =>
    intro k hk
    have : k = 16 := by omega
    subst this
    rw [ev_loop]
    conv => lhs; arg 4; unfold F_nurserylaw17_RwlockValid_L0
    simp
  | succ m ih =>
    intro k hk
    have hlt : (k : Int) < 16 := by omega
    have hlt2 : k < 16 := by omega
    have hnext : IntKind.i64.wrap ((k : Int) + 1) = k + 1 := wrap_i64 (by omega) (by omega)
    have hcl := cntH_le own H k
    have hnc : IntKind.i64.wrap ((cntH own H k : Int) + 1) = cntH own H k + 1 := wrap_i64 (by omega) (by omega)
    have hH := ev_Holds own c1 c2 qd c5 c6 c7 c8 hn H k h3
    have ih' := ih (k + 1) (by omega)
    obtain ⟨r1, r2⟩ := hld_range own H k
    have e1 : cntH own H (k + 1) = cntH own H k + (if 0 < hld own H k then 1 else 0) := rfl
    have e2 : wrH own H (k + 1) = (wrH own H k || hld own H k == 2) := rfl
    rw [e1, e2] at ih'
    generalize cntH own H 16 = CC at *
    generalize wrH own H 16 = WW at *
    generalize hld own H k = hk2 at *
    generalize cntH own H k = cc at *
    generalize wrH own H k = ww at *
    have n1 : ¬ hk2 < 0 := by omega
    have n2 : ¬ 2 < hk2 := by omega
    rw [ev_loop]
    conv => lhs; arg 4; unfold F_nurserylaw17_RwlockValid_L0
    by_cases hp : 0 < hk2
    · rw [if_pos hp] at ih'
      simp at ih'
      simp [hlt, hlt2, hH, n1, n2, hp, hnext, hnc]
      exact ih'
    · rw [if_neg hp] at ih'
      simp at ih'
      simp [hlt, hlt2, hH, n1, n2, hp, hnext]
      exact ih'
theorem wr_none {H : List Int} : ∀ k, wrH (-1) H k = false
  | 0 => rfl
  | k + 1 => by
    have hne : ((k : Int) == -1) = false := by simp
    have : (hld (-1) H k == 2) = false := by
      unfold hld
      rw [hne, Bool.and_false, if_neg (by decide)]
      split <;> decide
    unfold wrH
    rw [wr_none k, this]; rfl
theorem cnt_one {own : Int} (h : isTask own = true) : cntH own [] 16 = 1 := by
  have h2 : 0 ≤ own ∧ own < 16 := by unfold isTask at h; simpa using h
  obtain ⟨m, rfl⟩ : ∃ m : Nat, own = m := ⟨own.toNat, by omega⟩
  have hm : m < 16 := by omega
  have : ∀ m : _root_.Fin 16, cntH (m.val : Int) [] 16 = 1 := by decide
  exact this ⟨m, hm⟩
theorem lockC {own : Int} {hn : Bool} {H : List Int} {qn : Bool} {Q : List W} (bn cn : Bool) (h1 : hn = true → H = []) (h2 : qn = true → Q = []) (h3 : H.length ≤ 1000) (hM : MV own H Q) :
    ev P (.call rwlock_Check [.d (.ag [.s [108], I' 2, I' 0, I' 0]), .d (.ag [I' own, I' 0, I' 0, hD hn H, qD qn Q, hD bn [], cD cn [], .b false, I' 0])] []) = some (.val (.d (I' 0)) []) := by
  have hC := ev_mCheck (.s [108]) 2 0 0 own 0 0 hn H qn Q bn [] cn [] false 0 h1 h2 h3 (by have := hM.lenQ; omega)
  have e : (if mnew 2 0 0 = 0 then (if mvalid own 0 0 H Q [] [] false 0 then 0 else 1) else mnew 2 0 0 : Int) = 0 := by
    rw [if_pos (by decide), if_pos (mvalid_iff.2 ⟨hM, rfl, rfl, rfl, rfl, rfl, rfl⟩)]
  rw [e] at hC
  exact hC
theorem law_Valid (own cnt time : Int) (hn : Bool) (H : List Int) (qn : Bool) (Q : List W) (bn : Bool) (B : List Int) (cn : Bool) (C : List (List D)) (cl : Bool) (val : Int) (t o v p n : Int)
    (hh : hn = true → H = []) (hq : qn = true → Q = []) (hcs : ∀ c, c ∈ C → ∃ t nb r, c = [I' t, .sl 1 nb r]) :
    ev P (.call nurserylaw17_RwlockValid [.d (stF own cnt time hn H qn Q bn B cn C cl val), .d (.ag [I' t, I' o, I' v, I' p, I' n])] []) = some (.val (.d (.b true)) []) := by
  have hG := ev_Great own cnt time hn H qn Q bn B cn C cl val hcs
  have hN := ev_mNew (.s [108]) 2 0 0
  have k0 : mnew 2 0 0 = 0 := by decide
  rw [k0, if_pos rfl] at hN
  have hN : ev P (.call rwlock_New [.d (.ag [.s [108], I' 2, I' 0, I' 0])] []) = some (.val (.tu [.d (.ag [I' (-1), I' 0, I' 0, .sl 1 true [], .sl 5 true [], .sl 1 true [], .sl 2 true [], .b false, I' 0]), .d (I' 0)]) []) := hN
  have hM0 : MV (-1) [] [] := MV_iff.2 ⟨.inl rfl, by simp, List.Pairwise.nil, by simp, by simp, List.Pairwise.nil, rfl⟩
  have hC0 : ev P (.call rwlock_Check [.d (.ag [.s [108], I' 2, I' 0, I' 0]), .d (.ag [I' (-1), I' 0, I' 0, .sl 1 true [], .sl 5 true [], .sl 1 true [], .sl 2 true [], .b false, I' 0])] []) = some (.val (.d (I' 0)) []) := lockC true true (hn := true) (qn := true) (by simp) (by simp) (by simp) hM0
  rw [ev_call P_nurserylaw17_RwlockValid rfl]
  cases hg : greatB H Q B C
  · rw [hg] at hG
    obtain ⟨l1, l2, l3, l4⟩ := great_len hg
    have hC := ev_mCheck (.s [108]) 2 0 0 own cnt time hn H qn Q bn B cn C cl val hh hq (by omega) (by omega)
    have eC : (if mnew 2 0 0 = 0 then (if mvalid own cnt time H Q B C cl val then 0 else 1) else mnew 2 0 0) = ckd 2 0 0 own cnt time H Q B C cl val := rfl
    rw [eC] at hC
    obtain ⟨a1, a2, a3, a4, a5, hA, ha3, ha4⟩ := ev_mApply (.s [108]) 2 0 0 own cnt time hn H qn Q bn B cn C cl val t o v p n hh hq (by omega) (by omega)
    obtain ⟨b1, b2, b3, b4, b5, hB, hb3, hb4⟩ := ev_mWithdraw (.s [108]) 2 0 0 own cnt time hn H qn Q bn B cn C cl val t hh hq (by omega) (by omega)
    by_cases hc : ckd 2 0 0 own cnt time H Q B C cl val = 0
    · obtain ⟨hM, rfl, rfl, rfl, rfl, rfl, rfl⟩ := ckd_zero hc
      rw [if_pos hc] at hA hB ha3 ha4 hb3 hb4
      rw [hc] at hC
      have hLA := apV_len own H Q t o p n
      have hLB := wdV_len own H Q t
      have hMA := MV_apV (t := t) (o := o) (p := p) (n := n) hM (by omega)
      have hMB := MV_wdV (t := t) hM
      have hL := loop_Valid own (I' 0) (I' 0) (hD bn []) (cD cn []) (.b false) (I' 0) (qD qn Q) hn H (by omega) 16 0 rfl
      have hF : (!wrH own H 16 || (cntH own H 16 : Int) == 1) = true := by
        rcases hM.ow with rfl | ⟨h1, rfl⟩
        · rw [wr_none]; rfl
        · rw [cnt_one h1]; simp
      generalize cntH own H 16 = CC at *
      generalize wrH own H 16 = WW at *
      generalize apV own H Q t o p n = r at *
      generalize wdV own H Q t = r' at *
      simp only [cntH, wrH] at hL
      simp at hL
      have hCA : r.e = 0 → _ := fun h => lockC a1 a2 ha3 ha4 (by omega) (hMA h)
      have hCB : r'.e = 0 → _ := fun h => lockC b1 b2 hb3 hb4 (by omega) (hMB h)
      simp only [zZ, rpD] at hA hB
      have hfin : ∀ hww : WW = false ∨ ((CC : Int) == 1) = true, True := fun _ => trivial
      have hWC : WW = true → CC = 1 := by
        intro h
        rw [h] at hF
        have : (CC : Int) = 1 := by simpa using hF
        omega
      cases h1 : r.e == 0
      · cases h2 : r'.e == 0
        · cases WW
          · simp [F_nurserylaw17_RwlockValid, hN, hC0, hG, hC, hA, hB, h1, h2, hL, ev_lock, ev_awake, thaw, freezeAll, freeze1]
          · have := hWC rfl
            subst this
            simp at hL
            simp [F_nurserylaw17_RwlockValid, hN, hC0, hG, hC, hA, hB, h1, h2, hL, ev_lock, ev_awake, thaw, freezeAll, freeze1]
        · have hCB' := hCB (by simpa using h2)
          cases WW
          · simp [F_nurserylaw17_RwlockValid, hN, hC0, hG, hC, hA, hB, h1, h2, hCB', hL, ev_lock, ev_awake, thaw, freezeAll, freeze1]
          · have := hWC rfl
            subst this
            simp at hL
            simp [F_nurserylaw17_RwlockValid, hN, hC0, hG, hC, hA, hB, h1, h2, hCB', hL, ev_lock, ev_awake, thaw, freezeAll, freeze1]
      · have hCA' := hCA (by simpa using h1)
        cases h2 : r'.e == 0
        · cases WW
          · simp [F_nurserylaw17_RwlockValid, hN, hC0, hG, hC, hA, hB, h1, h2, hCA', hL, ev_lock, ev_awake, thaw, freezeAll, freeze1]
          · have := hWC rfl
            subst this
            simp at hL
            simp [F_nurserylaw17_RwlockValid, hN, hC0, hG, hC, hA, hB, h1, h2, hCA', hL, ev_lock, ev_awake, thaw, freezeAll, freeze1]
        · have hCB' := hCB (by simpa using h2)
          cases WW
          · simp [F_nurserylaw17_RwlockValid, hN, hC0, hG, hC, hA, hB, h1, h2, hCA', hCB', hL, ev_lock, ev_awake, thaw, freezeAll, freeze1]
          · have := hWC rfl
            subst this
            simp at hL
            simp [F_nurserylaw17_RwlockValid, hN, hC0, hG, hC, hA, hB, h1, h2, hCA', hCB', hL, ev_lock, ev_awake, thaw, freezeAll, freeze1]
    · rw [if_neg hc] at hA hB
      have hc2 : (ckd 2 0 0 own cnt time H Q B C cl val != 0) = true := by simpa using hc
      generalize ckd 2 0 0 own cnt time H Q B C cl val = ck at *
      simp only [zZ, rpD, zr] at hA hB
      simp [F_nurserylaw17_RwlockValid, hN, hC0, hG, hC, hA, hB, hc2, ev_lock, ev_awake, thaw, freezeAll, freeze1]
  · rw [hg] at hG
    simp [F_nurserylaw17_RwlockValid, hN, hG, ev_lock, ev_awake]
end Go.VS.R
namespace Go.VS.R
theorem filter_insI {t : Int} {H : List Int} (h : t ∉ H) : (insI t H).filter (fun x => x != t) = H := by
  unfold insI
  rw [List.filter_append, List.filter_cons]
  simp only [bne_self_eq_false, Bool.false_eq_true, if_false]
  rw [← List.filter_append, List.take_append_drop, List.filter_eq_self]
  intro x hx
  simp
  intro e
  exact h (e ▸ hx)
theorem srvM_stay {own : Int} {H : List Int} {Q : List W} (h : stay own H Q = true) : srvM own H Q = (own, H, Q, []) := by
  cases Q with
  | nil => rfl
  | cons w r =>
    rw [srvM_cons, if_pos]
    unfold stay at h
    simp at h
    rcases h with h | ⟨h1, h2⟩
    · exact .inl h
    · exact .inr ⟨h1, h2⟩
theorem filter_task {Q : List W} {t : Int} (h : (Q.any fun w => w.task == t) = false) : (Q.filter fun w => w.task != t) = Q := by
  rw [List.filter_eq_self]
  intro w hw
  have := List.any_eq_false.1 h w hw
  simpa [bne] using this
/-- an attempt to lock -/
theorem apV_lock {own : Int} {H : List Int} {Q : List W} {t o p : Int} (ht : isTask t = true) (hp : 0 ≤ p ∧ p ≤ 9) (ho : o = 53 ∨ o = 55) :
    apV own H Q t o p 0 = if (Q.any fun w => w.task == t) = true ∨ hld own H t ≠ 0 then zr 17 else lockS own H Q t o p := by
  have hb : badC t p 0 = false := by
    unfold badC
    simp [ht]
    omega
  have hr : (decide (o < 53) || decide (56 < o)) = false := by
    simp; omega
  unfold apV
  rw [hb, hr]
  simp only [Bool.false_eq_true, if_false]
  rw [if_pos ho]
  cases hw : Q.any fun w => w.task == t
  · by_cases hz : hld own H t = 0 <;> simp [hz]
  · simp
/-- what becomes of it -/
theorem undo_read {H : List Int} {t p : Int} (ht : isTask t = true) (hp : 0 ≤ p ∧ p ≤ 9) (hn : t ∉ H) : apV (-1) (insI t H) [] t 54 p 0 = ⟨-1, H, [], false, true, [], 0⟩ := by
  have hb : badC t p 0 = false := by
    unfold badC
    simp [ht]
    omega
  have h1 : hld (-1) (insI t H) t = 1 := by
    have ht2 : 0 ≤ t := by unfold isTask at ht; simp at ht; omega
    unfold hld
    have : (t == -1) = false := by simp; omega
    rw [this, Bool.and_false, if_neg (by decide), if_pos (mem_insI.2 (.inl rfl))]
  unfold apV
  rw [hb, h1, filter_insI hn]
  simp [srvM]
theorem undo_write {t p : Int} (ht : isTask t = true) (hp : 0 ≤ p ∧ p ≤ 9) : apV t [] [] t 56 p 0 = ⟨-1, [], [], false, true, [], 0⟩ := by
  have hb : badC t p 0 = false := by
    unfold badC
    simp [ht]
    omega
  have h1 : hld t [] t = 2 := by
    have ht2 : 0 ≤ t := by unfold isTask at ht; simp at ht; omega
    unfold hld
    simp [ht2]
  unfold apV
  rw [hb, h1]
  simp [srvM]
theorem undo_wait {own : Int} {H : List Int} {Q : List W} {t o p : Int} (hs : stay own H Q = true) (hq : (Q.any fun w => w.task == t) = false) : wdV own H (Q ++ [⟨t, o, 0, p, -1⟩]) t = ⟨own, H, Q, false, false, [], 0⟩ := by
  have h1 : ((Q ++ [(⟨t, o, 0, p, -1⟩ : W)]).any fun w => w.task == t) = true := by simp
  have h2 : (Q ++ [(⟨t, o, 0, p, -1⟩ : W)]).filter (fun w => w.task != t) = Q := by
    rw [List.filter_append, filter_task hq]; simp
  unfold wdV
  rw [if_pos h1, h2, srvM_stay hs]
theorem ckd_MV {own : Int} {H : List Int} {Q : List W} (hM : MV own H Q) : ckd 2 0 0 own 0 0 H Q [] [] false 0 = 0 := by
  rw [ckd_lock, if_pos (mvalid_iff.2 ⟨hM, rfl, rfl, rfl, rfl, rfl, rfl⟩)]
theorem wrap0 : IntKind.i64.wrap 0 = 0 := by decide
theorem law_Undo (own cnt time : Int) (hn : Bool) (H : List Int) (qn : Bool) (Q : List W) (bn : Bool) (B : List Int) (cn : Bool) (C : List (List D)) (cl : Bool) (val : Int) (tu pu : Int) (wr : Bool)
    (ht0 : 0 ≤ tu ∧ tu ≤ 255) (hp0 : 0 ≤ pu ∧ pu ≤ 255)
    (hh : hn = true → H = []) (hq : qn = true → Q = []) (hcs : ∀ c, c ∈ C → ∃ t nb r, c = [I' t, .sl 1 nb r]) :
    ev P (.call nurserylaw17_RwlockUndo [.d (stF own cnt time hn H qn Q bn B cn C cl val), .d (.i .u8 tu), .d (.i .u8 pu), .d (.b wr)] []) = some (.val (.d (.b true)) []) := by
  have hG := ev_Great own cnt time hn H qn Q bn B cn C cl val hcs
  rw [ev_call P_nurserylaw17_RwlockUndo rfl]
  cases hg : greatB H Q B C
  · rw [hg] at hG
    obtain ⟨l1, l2, l3, l4⟩ := great_len hg
    have hC := ev_rCheck (.s [108]) 2 0 0 own cnt time hn H qn Q bn B cn C cl val (by omega) (by omega)
    have eC : (if mnew 2 0 0 = 0 then (if mvalid own cnt time H Q B C cl val then 0 else 1) else mnew 2 0 0) = ckd 2 0 0 own cnt time H Q B C cl val := rfl
    rw [eC] at hC
    by_cases hc : ckd 2 0 0 own cnt time H Q B C cl val = 0
    · obtain ⟨hM, rfl, rfl, rfl, rfl, rfl, rfl⟩ := ckd_zero hc
      rw [hc] at hC
      have w1 : IntKind.i64.wrap tu = tu := wrap_i64 (by omega) (by omega)
      have w2 : IntKind.i64.wrap pu = pu := wrap_i64 (by omega) (by omega)
      have t1 := Int.tmod_nonneg 16 ht0.1
      have t2 := Int.tmod_lt_of_pos tu (b := 16) (by decide)
      have p1 := Int.tmod_nonneg 10 hp0.1
      have p2 := Int.tmod_lt_of_pos pu (b := 10) (by decide)
      have htk : isTask (tu.tmod 16) = true := by unfold isTask; simp; exact ⟨t1, t2⟩
      generalize htt : tu.tmod 16 = t at *
      generalize hpp : pu.tmod 10 = p at *
      obtain ⟨o, o2, ho, ho2⟩ : ∃ o o2 : Int, o = (if wr then 55 else 53) ∧ o2 = (if wr then 56 else 54) := ⟨_, _, rfl, rfl⟩
      have hol : o = 53 ∨ o = 55 := by cases wr <;> simp at ho <;> simp [ho]
      obtain ⟨a1, a2, a3, a4, a5, hA, ha3, ha4⟩ := ev_mApply (.s [108]) 2 0 0 own 0 0 hn H qn Q bn [] cn [] false 0 t o 0 p 0 hh hq (by omega) (by omega)
      have hRd := ev_mReady (.s [108]) 2 0 0 own 0 0 hn H qn Q bn [] cn [] false 0 t o 0 p 0 hh hq (by omega) (by omega)
      have eR : apS 2 0 0 own 0 0 H Q [] [] false 0 t o p 0 = apV own H Q t o p 0 := by unfold apS; rw [if_pos hc]
      rw [eR] at hRd
      rw [if_pos hc] at hA ha3 ha4
      have hL := apV_lock (own := own) (H := H) (Q := Q) (t := t) (o := o) (p := p) htk ⟨p1, by omega⟩ hol
      by_cases hbad : (Q.any fun w => w.task == t) = true ∨ hld own H t ≠ 0
      · rw [if_pos hbad] at hL
        rw [hL] at hA hRd
        simp only [zZ, rpD, zr] at hA hRd
        cases wr <;> simp at ho ho2 <;> subst ho <;> subst ho2 <;>
          simp [F_nurserylaw17_RwlockUndo, hG, hC, w1, w2, wrap0, htt, hpp, hA, hRd, ev_lock, ev_awake, overlay, thaw, freezeAll, freeze1, V.same_self]
      · rw [if_neg hbad] at hL
        have hqa : (Q.any fun w => w.task == t) = false := by
          cases h : Q.any fun w => w.task == t
          · rfl
          · exact absurd (.inl h) hbad
        have hz : hld own H t = 0 := Classical.byContradiction fun h => hbad (.inr h)
        have hni := ((hld_zero (own := own) (H := H) t1).1 hz).2
        have hMr := MV_apV (t := t) (o := o) (p := p) (n := 0) hM (by omega)
        rw [hL] at hA hRd ha3 ha4 hMr
        by_cases hpos : posB own H Q o = true
        · have eL : lockS own H Q t o p = (if o = 55 then ⟨t, H, Q, false, true, [], 0⟩ else ⟨own, insI t H, Q, false, true, [], 0⟩) := by unfold lockS; rw [if_pos hpos]
          rw [eL] at hA hRd ha3 ha4 hMr
          cases wr
          · simp at ho ho2
            subst ho
            subst ho2
            have hpp2 : own = -1 ∧ Q = [] := by
              unfold posB at hpos
              simpa using hpos
            obtain ⟨rfl, rfl⟩ := hpp2
            rw [if_neg (show ¬ (53 : Int) = 55 by decide)] at hA hRd ha3 ha4 hMr
            obtain ⟨b1, b2, b3, b4, b5, hB, hb3, hb4⟩ := ev_mApply (.s [108]) 2 0 0 (-1) 0 0 a3 (insI t H) a4 [] a1 [] a2 [] false 0 t 54 0 p 0 ha3 ha4 (by rw [insI_len]; omega) (by simp)
            rw [if_pos (ckd_MV (hMr rfl)), undo_read htk ⟨p1, by omega⟩ hni] at hB
            have hSm := ev_SameState b1 b2 bn cn b3 hn b4 qn (-1) 0 0 0 false H [] [] (by omega) (by simp) (by simp)
            simp only [zZ, rpD] at hA hB hRd
            simp [F_nurserylaw17_RwlockUndo, hG, hC, w1, w2, wrap0, htt, hpp, hA, hRd, hB, hSm, ev_lock, ev_awake, overlay, thaw, freezeAll, freeze1, V.same_self]
          · simp at ho ho2
            subst ho
            subst ho2
            have hpp2 : own = -1 ∧ H = [] := by
              unfold posB at hpos
              simpa using hpos
            obtain ⟨rfl, rfl⟩ := hpp2
            obtain rfl := hM.free rfl
            rw [if_pos (rfl : (55 : Int) = 55)] at hA hRd ha3 ha4 hMr
            obtain ⟨b1, b2, b3, b4, b5, hB, hb3, hb4⟩ := ev_mApply (.s [108]) 2 0 0 t 0 0 a3 [] a4 [] a1 [] a2 [] false 0 t 56 0 p 0 ha3 ha4 (by simp) (by simp)
            rw [if_pos (ckd_MV (hMr rfl)), undo_write htk ⟨p1, by omega⟩] at hB
            have hSm := ev_SameState b1 b2 bn cn b3 hn b4 qn (-1) 0 0 0 false [] [] [] (by simp) (by simp) (by simp)
            simp only [zZ, rpD] at hA hB hRd
            simp [F_nurserylaw17_RwlockUndo, hG, hC, w1, w2, wrap0, htt, hpp, hA, hRd, hB, hSm, ev_lock, ev_awake, overlay, thaw, freezeAll, freeze1, V.same_self]
        · have eL : lockS own H Q t o p = ⟨own, H, Q ++ [⟨t, o, 0, p, -1⟩], true, false, [], 0⟩ := by unfold lockS; rw [if_neg hpos]
          rw [eL] at hA hRd ha3 ha4 hMr
          obtain ⟨b1, b2, b3, b4, b5, hB, hb3, hb4⟩ := ev_mApply (.s [108]) 2 0 0 own 0 0 a3 H a4 (Q ++ [⟨t, o, 0, p, -1⟩]) a1 [] a2 [] false 0 t o2 0 p 0 ha3 ha4 (by omega) (by simp; omega)
          obtain ⟨c1, c2, c3, c4, c5, hW, hc3, hc4⟩ := ev_mWithdraw (.s [108]) 2 0 0 own 0 0 a3 H a4 (Q ++ [⟨t, o, 0, p, -1⟩]) a1 [] a2 [] false 0 t ha3 ha4 (by omega) (by simp; omega)
          rw [if_pos (ckd_MV (hMr rfl)), undo_wait hM.st hqa] at hW
          generalize (if ckd 2 0 0 own 0 0 H (Q ++ [⟨t, o, 0, p, -1⟩]) [] [] false 0 = 0 then apV own H (Q ++ [⟨t, o, 0, p, -1⟩]) t o2 p 0 else zr 1) = r2 at *
          generalize Q ++ [⟨t, o, 0, p, -1⟩] = Q2 at *
          have hSm := ev_SameState c1 c2 bn cn c3 hn c4 qn own 0 0 0 false H Q [] (by omega) (by omega) (by simp)
          simp only [zZ, rpD] at hA hB hRd hW
          cases wr <;> simp at ho ho2 <;> subst ho <;> subst ho2 <;>
            simp [F_nurserylaw17_RwlockUndo, hG, hC, w1, w2, wrap0, htt, hpp, hA, hRd, hB, hW, hSm, ev_lock, ev_awake, overlay, thaw, freezeAll, freeze1, V.same_self]
    · have hc2 : (ckd 2 0 0 own cnt time H Q B C cl val != 0) = true := by simpa using hc
      generalize ckd 2 0 0 own cnt time H Q B C cl val = ck at *
      simp [F_nurserylaw17_RwlockUndo, hG, hC, hc2, ev_lock, ev_awake]
  · rw [hg] at hG
    simp [F_nurserylaw17_RwlockUndo, hG, ev_awake]
end Go.VS.R
namespace Go.VS.R
theorem l_Valid (xs : List D) (h : WVs [tS, tC] xs) : ev P (.call nurserylaw17_RwlockValid (xs.map V.d) []) = some (.val (.d (.b true)) []) := by
  simp only [WVs] at h
  obtain ⟨s, _, rfl, hs, c, _, rfl, hc, rfl⟩ := h
  obtain ⟨S⟩ := state_of hs
  obtain ⟨a, b, c, d, e, rfl⟩ := call_of hc
  rw [S.eq]
  exact law_Valid _ _ _ _ _ _ _ _ _ _ _ _ _ a b c d e S.hH S.hQ S.hC
abbrev tU : Ty := .i .u8
theorem u8_of {s : D} (h : WV tU s) : ∃ n, s = .i .u8 n ∧ 0 ≤ n ∧ n ≤ 255 := by
  simp only [tU, WV, WT] at h
  obtain ⟨n, h1, h2⟩ := h
  refine ⟨n, by simpa using h1, ?_⟩
  exact h2
abbrev tB : Ty := .b
theorem b_of {s : D} (h : WV tB s) : ∃ n, s = .b n := by
  simp only [tB, WV, WT] at h
  obtain ⟨n, h1⟩ := h
  exact ⟨n, by simpa using h1⟩
theorem l_Undo (xs : List D) (h : WVs [tS, tU, tU, tB] xs) : ev P (.call nurserylaw17_RwlockUndo (xs.map V.d) []) = some (.val (.d (.b true)) []) := by
  simp only [WVs] at h
  obtain ⟨s, _, rfl, hs, c, _, rfl, hc, d, _, rfl, hd, e, _, rfl, he, rfl⟩ := h
  obtain ⟨S⟩ := state_of hs
  obtain ⟨a, rfl, ha⟩ := u8_of hc
  obtain ⟨b, rfl, hb⟩ := u8_of hd
  obtain ⟨w, rfl⟩ := b_of he
  rw [S.eq]
  exact law_Undo _ _ _ _ _ _ _ _ _ _ _ _ _ a b w ha hb S.hH S.hQ S.hC
end Go.VS.R
namespace Go.VS.R
/-! Progress -/
theorem loop_Equal (n1 n2 : Bool) (l m : List Int) (hn : l.length ≤ 1000000) (hm : l.length = m.length) : ∀ (suf suf' pre : List Int), l = pre ++ suf → m = pre ++ suf' →
    ev P (.loop 0 [0, 1, 12, 13] F_slices_Equal_int_int_L0 [(0, .d (hD n1 l)), (1, .d (hD n2 m)), (12, .d (I' l.length)), (13, .d (I' pre.length))] []) =
      if suf = suf' then some (.out (.exit 0) [] []) else some (.out .ret [(4, .d (.b false))] []) := by
  intro suf
  induction suf with
  | nil =>
    intro suf' pre hl hl'
    have h1 : l.length = pre.length := by simp [hl]
    have : suf' = [] := by
      have h2 : m.length = pre.length + suf'.length := by simp [hl']
      exact List.length_eq_zero_iff.1 (by omega)
    subst this
    rw [ev_loop]
    conv => lhs; arg 4; unfold F_slices_Equal_int_int_L0
    simp [h1]
  | cons w suf ih =>
    intro suf' pre hl hl'
    have hg : l[pre.length]? = some w := by simp [hl]
    have hlt : (pre.length : Int) < l.length := by simp [hl]; omega
    have hnext : IntKind.i64.wrap ((pre.length : Int) + 1) = pre.length + 1 := wrap_i64 (by omega) (by omega)
    cases suf' with
    | nil => exfalso; simp [hl, hl'] at hm
    | cons w' suf' =>
    have hg' : m[pre.length]? = some w' := by simp [hl']
    rw [ev_loop]
    conv => lhs; arg 4; unfold F_slices_Equal_int_int_L0
    by_cases hw : w = w'
    · subst hw
      have ih' := ih suf' (pre ++ [w]) (by simp [hl]) (by simp [hl'])
      simp at ih'
      simp [hlt, hg, hg', hnext]
      exact ih'
    · have hw2 : (w != w') = true := by simpa using hw
      simp [hlt, hg, hg', hw2, hw]
theorem ev_Equal (n1 n2 : Bool) (l m : List Int) (hn : l.length ≤ 1000000) :
    ev P (.call slices_Equal_int_int [.d (hD n1 l), .d (hD n2 m)] []) = some (.val (.d (.b (l == m))) []) := by
  rw [ev_call P_slices_Equal_int_int rfl]
  by_cases hlen : l.length = m.length
  · have hl := loop_Equal n1 n2 l m hn hlen l m [] rfl rfl
    simp at hl
    have : ((l.length : Int) != m.length) = false := by simp [hlen]
    simp [F_slices_Equal_int_int, this]
    simp [hl]
    by_cases h : l = m <;> simp [h]
  · have : ((l.length : Int) != m.length) = true := by simp; omega
    have h2 : ¬ l = m := fun h => hlen (by rw [h])
    simp [F_slices_Equal_int_int, this, h2]
def want : List W → List Int
  | [] => []
  | w :: r => w.task :: (if w.op = 55 then [] else (r.takeWhile fun w => w.op != 55).map W.task)
theorem loop_Want (own : D) (c1 c2 c5 c6 c7 c8 hd : D) (qn : Bool) (w0 : W) (Q' : List W) (hn : (w0 :: Q').length ≤ 1000) : ∀ (suf pre : List W) (acc : List Int), w0 :: Q' = pre ++ suf → pre ≠ [] → acc.length ≤ pre.length →
    ev P (.loop 0 [1, 3, 41, 42, 43] F_nurserylaw17_RwlockProgress_L0 [(1, .loc 0 0 0), (3, .asl 1 0 acc.length), (41, .d (qD qn (w0 :: Q'))), (42, .d (I' (w0 :: Q').length)), (43, .d (I' pre.length))] [.arrD 9 true [[own, c1, c2, hd, qD qn (w0 :: Q'), c5, c6, c7, c8]], .arrD 1 true (rows1 acc)]) =
      some (.out (.exit 0) [(1, .loc 0 0 0), (3, .asl 1 0 (acc ++ (if w0.op = 55 then [] else (suf.takeWhile fun w => w.op != 55).map W.task)).length)]
        [.arrD 9 true [[own, c1, c2, hd, qD qn (w0 :: Q'), c5, c6, c7, c8]], .arrD 1 true (rows1 (acc ++ (if w0.op = 55 then [] else (suf.takeWhile fun w => w.op != 55).map W.task)))]) := by
  have h0 : (w0 :: Q')[0]? = some w0 := rfl
  have hq0 : 0 < (w0 :: Q').length := by simp
  generalize hQ : w0 :: Q' = Q at *
  have hg0 : ∀ h : 0 < Q.length, Q[0] = w0 := fun h => by simpa [List.getElem?_eq_getElem h] using h0
  intro suf
  induction suf with
  | nil =>
    intro pre acc hl hp ha
    have : Q.length = pre.length := by simp [hl]
    have e : (if w0.op = 55 then ([] : List Int) else (([] : List W).takeWhile fun w => w.op != 55).map W.task) = [] := by split <;> rfl
    rw [e]
    rw [ev_loop]
    conv => lhs; arg 4; unfold F_nurserylaw17_RwlockProgress_L0
    simp [this, reachC, cut, rg2, List.idxOf_cons]
  | cons w suf ih =>
    intro pre acc hl hp ha
    have hg : Q[pre.length]? = some w := by simp [hl]
    have hpl : pre.length < Q.length := by simp [hl]
    have hlt : (pre.length : Int) < Q.length := by omega
    have hpos : 0 < pre.length := List.length_pos_iff.2 hp
    have hpos2 : (0 : Int) < pre.length := by omega
    have hnext : IntKind.i64.wrap ((pre.length : Int) + 1) = pre.length + 1 := wrap_i64 (by omega) (by omega)
    have hr : acc.length + 1 ≤ room := by unfold room; omega
    have ih' := ih (pre ++ [w]) (acc ++ [w.task]) (by simp [hl]) (by simp) (by simp; omega)
    by_cases h0' : w0.op = 55
    · rw [if_pos h0']
      rw [ev_loop]
      conv => lhs; arg 4; unfold F_nurserylaw17_RwlockProgress_L0
      by_cases hw : w.op = 55
      · simp [hlt, hpos, hpos2, hg, hq0, hg0, W.row, hw, reachC, cut, rg2, List.idxOf_cons]
      · have hw2 : (w.op == 55) = false := by simpa using hw
        simp [hlt, hpos, hpos2, hg, hq0, hg0, h0', W.row, hw2, reachC, cut, rg2, List.idxOf_cons]
    · have h02 : (w0.op == 55) = false := by simpa using h0'
      rw [if_neg h0'] at ih' ⊢
      by_cases hw : w.op = 55
      · have e : ((w :: suf).takeWhile fun w => w.op != 55) = [] := by simp [List.takeWhile_cons, hw]
        rw [e]
        rw [ev_loop]
        conv => lhs; arg 4; unfold F_nurserylaw17_RwlockProgress_L0
        simp [hlt, hpos, hpos2, hg, hq0, hg0, h02, W.row, hw, reachC, cut, rg2, List.idxOf_cons]
      · have hw2 : (w.op == 55) = false := by simpa using hw
        have e : ((w :: suf).takeWhile fun w => w.op != 55) = w :: suf.takeWhile fun w => w.op != 55 := by simp [List.takeWhile_cons, hw]
        have e2 : acc ++ (w :: suf.takeWhile fun w => w.op != 55).map W.task = acc ++ [w.task] ++ (suf.takeWhile fun w => w.op != 55).map W.task := by simp
        rw [e, e2]
        generalize acc ++ [w.task] ++ (suf.takeWhile fun w => w.op != 55).map W.task = RR at *
        simp at ih'
        rw [ev_loop]
        conv => lhs; arg 4; unfold F_nurserylaw17_RwlockProgress_L0
        simp [hlt, hpos, hpos2, hg, hq0, hg0, h02, W.row, hw2, hnext, hr, Nat.not_succ_le_self, take_map_len, reachC, cut, rg2, List.idxOf_cons]
        exact ih'
theorem ev_want (own : D) (c1 c2 c5 c6 c7 c8 hd : D) (qn : Bool) (w0 : W) (Q' : List W) (hn : (w0 :: Q').length ≤ 1000) :
    ev P (.loop 0 [1, 3, 41, 42, 43] F_nurserylaw17_RwlockProgress_L0 [(1, .loc 0 0 0), (3, .d (.sl 1 true [])), (41, .d (qD qn (w0 :: Q'))), (42, .d (I' (w0 :: Q').length)), (43, .d (I' 0))] [.arrD 9 true [[own, c1, c2, hd, qD qn (w0 :: Q'), c5, c6, c7, c8]]]) =
      some (.out (.exit 0) [(1, .loc 0 0 0), (3, .asl 1 0 (want (w0 :: Q')).length)] [.arrD 9 true [[own, c1, c2, hd, qD qn (w0 :: Q'), c5, c6, c7, c8]], .arrD 1 true (rows1 (want (w0 :: Q')))]) := by
  have hL := loop_Want own c1 c2 c5 c6 c7 c8 hd qn w0 Q' hn Q' [w0] [w0.task] rfl (by simp) (by simp)
  have e : [w0.task] ++ (if w0.op = 55 then [] else (Q'.takeWhile fun w => w.op != 55).map W.task) = want (w0 :: Q') := rfl
  rw [e] at hL
  generalize want (w0 :: Q') = RR at *
  have r1 : 1 ≤ room := by decide
  simp at hL
  rw [ev_loop]
  conv => lhs; arg 4; unfold F_nurserylaw17_RwlockProgress_L0
  simp [W.row, wrap1, r1, reachC, cut, rg2, List.idxOf_cons]
  exact hL
/-- those who are woken are noted -/
theorem loop_Got (row : List D) (Wn : Nat) (WR : List (List D)) (o7 : D) (hs : D) (n i : D) (kn : Bool) (k : List W) (hn : k.length ≤ 1000) : ∀ (suf pre : List W) (acc : List Int), k = pre ++ suf → acc.length ≤ pre.length → acc ≠ [] →
    ev P (.loop 0 [1, 3, 7, 8, 77, 78, 79, 102, 103, 104] F_nurserylaw17_RwlockProgress_L1 [(1, .loc 0 0 0), (3, .asl 1 0 Wn), (7, .d o7), (8, .asl 2 0 acc.length), (77, .d hs), (78, .d n), (79, .d i), (102, .d (.sl 5 kn (k.map wk))), (103, .d (I' k.length)), (104, .d (I' pre.length))] [.arrD 9 true [row], .arrD 1 true WR, .arrD 1 true (rows1 acc)]) =
      some (.out (.exit 4) [(1, .loc 0 0 0), (3, .asl 1 0 Wn), (7, .d o7), (8, .asl 2 0 (acc ++ suf.map W.task).length), (77, .d hs), (78, .d n), (79, .d i)] [.arrD 9 true [row], .arrD 1 true WR, .arrD 1 true (rows1 (acc ++ suf.map W.task))]) := by
  intro suf
  induction suf with
  | nil =>
    intro pre acc hl ha hne
    have : k.length = pre.length := by simp [hl]
    rw [ev_loop]
    conv => lhs; arg 4; unfold F_nurserylaw17_RwlockProgress_L1
    simp [this, reachC, cut, rg2, rg3, List.idxOf_cons]
  | cons w suf ih =>
    intro pre acc hl ha hne
    have hg : k[pre.length]? = some w := by simp [hl]
    have hpl : pre.length < k.length := by simp [hl]
    have hlt : (pre.length : Int) < k.length := by omega
    have hnext : IntKind.i64.wrap ((pre.length : Int) + 1) = pre.length + 1 := wrap_i64 (by omega) (by omega)
    have hr : acc.length + 1 ≤ room := by unfold room; omega
    have ih' := ih (pre ++ [w]) (acc ++ [w.task]) (by simp [hl]) (by simp; omega) (by simp)
    have e2 : acc ++ (w :: suf).map W.task = acc ++ [w.task] ++ suf.map W.task := by simp
    rw [e2]
    generalize acc ++ [w.task] ++ suf.map W.task = RR at *
    simp at ih'
    rw [ev_loop]
    conv => lhs; arg 4; unfold F_nurserylaw17_RwlockProgress_L1
    simp [hlt, hg, wk, hnext, hr, Nat.not_succ_le_self, take_map_len, reachC, cut, rg2, rg3, List.idxOf_cons]
    exact ih'
theorem ev_got0 (row : List D) (wv : V) (wo : List O) (hw : (wv = .d (.sl 1 true []) ∧ wo = []) ∨ ∃ Wn WR, wv = .asl 1 0 Wn ∧ wo = [.arrD 1 true WR]) (o7 : D) (hs : D) (n i : D) (kn : Bool) :
    ev P (.loop 0 [1, 3, 7, 8, 77, 78, 79, 102, 103, 104] F_nurserylaw17_RwlockProgress_L1 [(1, .loc 0 0 0), (3, wv), (7, .d o7), (8, .d (.sl 1 true [])), (77, .d hs), (78, .d n), (79, .d i), (102, .d (.sl 5 kn [])), (103, .d (I' 0)), (104, .d (I' 0))] (.arrD 9 true [row] :: wo)) =
      some (.out (.exit 4) [(1, .loc 0 0 0), (3, wv), (7, .d o7), (8, .d (.sl 1 true [])), (77, .d hs), (78, .d n), (79, .d i)] (.arrD 9 true [row] :: wo)) := by
  rw [ev_loop]
  conv => lhs; arg 4; unfold F_nurserylaw17_RwlockProgress_L1
  rcases hw with ⟨rfl, rfl⟩ | ⟨Wn, WR, rfl, rfl⟩ <;> simp [reachC, cut, rg2, rg3, List.idxOf_cons]
theorem ev_got1 (row : List D) (Wn : Nat) (WR : List (List D)) (o7 : D) (hs : D) (n i : D) (kn : Bool) (w : W) (k : List W) (hn : (w :: k).length ≤ 1000) :
    ev P (.loop 0 [1, 3, 7, 8, 77, 78, 79, 102, 103, 104] F_nurserylaw17_RwlockProgress_L1 [(1, .loc 0 0 0), (3, .asl 1 0 Wn), (7, .d o7), (8, .d (.sl 1 true [])), (77, .d hs), (78, .d n), (79, .d i), (102, .d (.sl 5 kn ((w :: k).map wk))), (103, .d (I' (w :: k).length)), (104, .d (I' 0))] [.arrD 9 true [row], .arrD 1 true WR]) =
      some (.out (.exit 4) [(1, .loc 0 0 0), (3, .asl 1 0 Wn), (7, .d o7), (8, .asl 2 0 ((w :: k).map W.task).length), (77, .d hs), (78, .d n), (79, .d i)] [.arrD 9 true [row], .arrD 1 true WR, .arrD 1 true (rows1 ((w :: k).map W.task))]) := by
  have hL := loop_Got row Wn WR o7 hs n i kn (w :: k) hn k [w] [w.task] rfl (by simp) (by simp)
  have e : [w.task] ++ k.map W.task = (w :: k).map W.task := rfl
  rw [e] at hL
  generalize (w :: k).map W.task = RR at *
  have r1 : 1 ≤ room := by decide
  simp [wk] at hL
  rw [ev_loop]
  conv => lhs; arg 4; unfold F_nurserylaw17_RwlockProgress_L1
  simp [wk, wrap1, r1, reachC, cut, rg2, rg3, List.idxOf_cons]
  exact hL
end Go.VS.R
namespace Go.VS.R
theorem release {x : Int} {rest : List Int} {Q : List W} (hM : MV (-1) (x :: rest) Q) :
    apV (-1) (x :: rest) Q x 54 0 0 = ⟨(srvM (-1) rest Q).1, (srvM (-1) rest Q).2.1, (srvM (-1) rest Q).2.2.1, false, true, (srvM (-1) rest Q).2.2.2, 0⟩ := by
  obtain ⟨m1, m2, m3, m4, m5, m6, m7⟩ := MV_iff.1 hM
  have htk := m2 x (by simp)
  have ht2 : 0 ≤ x := by unfold isTask at htk; simp at htk; omega
  have hb : badC x 0 0 = false := by unfold badC; simp [htk]
  have hqa : (Q.any fun w => w.task == x) = false := by
    rw [List.any_eq_false]
    intro w hw
    have := (m5 w hw).nin
    simp at this
    simp [this.1]
  have h1 : hld (-1) (x :: rest) x = 1 := by
    unfold hld
    have : (x == -1) = false := by simp; omega
    rw [this, Bool.and_false, if_neg (by decide), if_pos (by simp)]
  have hf : ((x :: rest).filter fun y => y != x) = rest := by
    have m3' := List.pairwise_cons.1 m3
    rw [List.filter_cons]
    simp only [bne_self_eq_false, Bool.false_eq_true, if_false]
    rw [List.filter_eq_self]
    intro y hy
    have := m3'.1 y hy
    simp; omega
  unfold apV
  rw [hb, hqa, h1, hf]
  simp
theorem MV.rest {x : Int} {rest : List Int} {Q : List W} (hM : MV (-1) (x :: rest) Q) (hr : rest ≠ []) : srvM (-1) rest Q = (-1, rest, Q, []) ∧ MV (-1) rest Q := by
  obtain ⟨m1, m2, m3, m4, m5, m6, m7⟩ := MV_iff.1 hM
  have hst : stay (-1) rest Q = true := by
    cases Q with
    | nil => rfl
    | cons w r =>
      simp [stay] at m7 ⊢
      exact ⟨m7, hr⟩
  refine ⟨srvM_stay hst, MV_iff.2 ⟨.inl rfl, fun y hy => m2 y (by simp [hy]), (List.pairwise_cons.1 m3).2, m4, fun w hw => ?_, m6, hst⟩⟩
  have := m5 w hw
  exact ⟨this.v, this.op, this.val, this.cs, this.no, fun h => this.nin (by simp [h])⟩
theorem loop_P0 (hn : Bool) (hs : List Int) (hl : hs.length ≤ 1000) : ∀ (suf pre : List Int) (h' q' b' c' : Bool), hs = pre ++ suf → suf ≠ [] → MV (-1) suf [] → (h' = true → suf = []) →
    ev P (.loop 0 [1, 3, 7, 8, 77, 78, 79] F_nurserylaw17_RwlockProgress_L2 [(1, .loc 0 0 0), (3, .d (.sl 1 true [])), (7, .d (I' 54)), (8, .d (.sl 1 true [])), (77, .d (hD hn hs)), (78, .d (I' hs.length)), (79, .d (I' pre.length))]
      [.arrD 9 true [[I' (-1), I' 0, I' 0, hD h' suf, qD q' [], hD b' [], cD c' [], .b false, I' 0]]]) = some (.out (.exit 2) [(3, .d (.sl 1 true [])), (8, .d (.sl 1 true []))] []) := by
  intro suf
  induction suf with
  | nil => intro pre h' q' b' c' _ h; exact absurd rfl h
  | cons x rest ih =>
    intro pre h' q' b' c' hpre _ hM hh
    have hg : hs[pre.length]? = some x := by simp [hpre]
    have hpl : pre.length < hs.length := by simp [hpre]
    have hlt : (pre.length : Int) < hs.length := by omega
    have hnext : IntKind.i64.wrap ((pre.length : Int) + 1) = pre.length + 1 := wrap_i64 (by omega) (by omega)
    have hrl : hs.length = pre.length + (rest.length + 1) := by simp [hpre]
    obtain ⟨a1, a2, a3, a4, a5, hA, ha3, ha4⟩ := ev_mApply (.s [108]) 2 0 0 (-1) 0 0 h' (x :: rest) q' [] b' [] c' [] false 0 x 54 0 0 0 hh (by simp) (by simp; omega) (by simp)
    rw [if_pos (ckd_MV hM), release hM] at hA ha3
    have e : srvM (-1) rest [] = (-1, rest, [], []) := rfl
    rw [e] at hA ha3
    simp only [zZ, rpD] at hA
    have hG := ev_got0 [I' (-1), I' 0, I' 0, hD a3 rest, qD a4 [], hD a1 [], cD a2 [], .b false, I' 0] (.d (.sl 1 true [])) [] (.inl ⟨rfl, rfl⟩) (I' 54) (hD hn hs) (I' hs.length) (I' pre.length) a5
    rw [ev_loop]
    conv => lhs; arg 4; unfold F_nurserylaw17_RwlockProgress_L2
    cases rest with
    | nil =>
      have hend : (pre.length : Int) + 1 = hs.length := by simp at hrl; omega
      simp [hlt, hg, ev_lock, hA, hG, hnext, V.same_self, overlay, thaw, freezeAll, freeze1, reachC, cut, rg2, rg3, List.idxOf_cons]
      rw [ev_loop]
      conv => lhs; arg 4; unfold F_nurserylaw17_RwlockProgress_L2
      simp [hend, reachC, cut, rg2, rg3, List.idxOf_cons]
    | cons y rest =>
      have ih' := ih (pre ++ [x]) a3 a4 a1 a2 (by simp [hpre]) (by simp) (hM.rest (by simp)).2 ha3
      simp at ih'
      simp [hlt, hg, ev_lock, hA, hG, hnext, V.same_self, overlay, thaw, freezeAll, freeze1, reachC, cut, rg2, rg3, List.idxOf_cons]
      exact ih'
theorem loop_P1 (hn : Bool) (hs : List Int) (hl : hs.length ≤ 1000) (w : W) (r : List W) (hr : r.length ≤ 100) (Wn : Nat) (WR : List (List D)) : ∀ (suf pre : List Int) (h' q' b' c' : Bool), hs = pre ++ suf → suf ≠ [] → MV (-1) suf (w :: r) → (h' = true → suf = []) → (q' = true → w :: r = []) →
    ev P (.loop 0 [1, 3, 7, 8, 77, 78, 79] F_nurserylaw17_RwlockProgress_L2 [(1, .loc 0 0 0), (3, .asl 1 0 Wn), (7, .d (I' 54)), (8, .d (.sl 1 true [])), (77, .d (hD hn hs)), (78, .d (I' hs.length)), (79, .d (I' pre.length))]
      [.arrD 9 true [[I' (-1), I' 0, I' 0, hD h' suf, qD q' (w :: r), hD b' [], cD c' [], .b false, I' 0]], .arrD 1 true WR]) = some (.out (.exit 2) [(3, .asl 0 0 Wn), (8, .asl 1 0 1)] [.arrD 1 true WR, .arrD 1 true (rows1 [w.task])]) := by
  intro suf
  induction suf with
  | nil => intro pre h' q' b' c' _ h; exact absurd rfl h
  | cons x rest ih =>
    intro pre h' q' b' c' hpre _ hM hh hq
    have hg : hs[pre.length]? = some x := by simp [hpre]
    have hpl : pre.length < hs.length := by simp [hpre]
    have hlt : (pre.length : Int) < hs.length := by omega
    have hnext : IntKind.i64.wrap ((pre.length : Int) + 1) = pre.length + 1 := wrap_i64 (by omega) (by omega)
    have hrl : hs.length = pre.length + (rest.length + 1) := by simp [hpre]
    obtain ⟨a1, a2, a3, a4, a5, hA, ha3, ha4⟩ := ev_mApply (.s [108]) 2 0 0 (-1) 0 0 h' (x :: rest) q' (w :: r) b' [] c' [] false 0 x 54 0 0 0 hh hq (by simp; omega) (by simp; omega)
    rw [if_pos (ckd_MV hM), release hM] at hA ha3 ha4
    rw [ev_loop]
    conv => lhs; arg 4; unfold F_nurserylaw17_RwlockProgress_L2
    cases rest with
    | nil =>
      have h55 : w.op = 55 := by
        have := hM.st
        simp [stay] at this
        exact this
      have e : srvM (-1) [] (w :: r) = (w.task, [], r, [w]) := by
        rw [srvM_cons, if_neg (by simp), if_pos h55]
      rw [e] at hA
      simp only [zZ, rpD] at hA
      have hG := ev_got1 [I' w.task, I' 0, I' 0, hD a3 [], qD a4 r, hD a1 [], cD a2 [], .b false, I' 0] Wn WR (I' 54) (hD hn hs) (I' hs.length) (I' pre.length) a5 w [] (by simp)
      simp [wk] at hG hA
      have hend : (pre.length : Int) + 1 = hs.length := by simp at hrl; omega
      simp [hlt, hg, ev_lock, hA, hG, hnext, V.same_self, overlay, thaw, freezeAll, freeze1, reachC, cut, rg2, rg3, List.idxOf_cons]
      rw [ev_loop]
      conv => lhs; arg 4; unfold F_nurserylaw17_RwlockProgress_L2
      simp [hend, reachC, cut, rg2, rg3, List.idxOf_cons]
    | cons y rest =>
      obtain ⟨e, hM2⟩ := hM.rest (by simp)
      rw [e] at hA ha3 ha4
      simp only [zZ, rpD] at hA
      have hG := ev_got0 [I' (-1), I' 0, I' 0, hD a3 (y :: rest), qD a4 (w :: r), hD a1 [], cD a2 [], .b false, I' 0] (.asl 1 0 Wn) [.arrD 1 true WR] (.inr ⟨Wn, WR, rfl, rfl⟩) (I' 54) (hD hn hs) (I' hs.length) (I' pre.length) a5
      have ih' := ih (pre ++ [x]) a3 a4 a1 a2 (by simp [hpre]) (by simp) hM2 ha3 ha4
      simp at ih'
      simp [hlt, hg, ev_lock, hA, hG, hnext, V.same_self, overlay, thaw, freezeAll, freeze1, reachC, cut, rg2, rg3, List.idxOf_cons]
      exact ih'
end Go.VS.R
namespace Go.VS.R
theorem want_eq : ∀ (Q : List W), (srvM (-1) [] Q).2.2.2.map W.task = want Q
  | [] => rfl
  | w :: r => by
    rw [srvM_cons, if_neg (by simp)]
    by_cases h : w.op = 55
    · simp [h, want]
    · simp [h, want]
theorem releaseW {own : Int} {Q : List W} (hM : MV own [] Q) (ho : own ≠ -1) :
    apV own [] Q own 56 0 0 = ⟨(srvM (-1) [] Q).1, (srvM (-1) [] Q).2.1, (srvM (-1) [] Q).2.2.1, false, true, (srvM (-1) [] Q).2.2.2, 0⟩ := by
  obtain ⟨m1, m2, m3, m4, m5, m6, m7⟩ := MV_iff.1 hM
  have htk : isTask own = true := by
    rcases m1 with h | h
    · exact absurd h ho
    · exact h.1
  have ht2 : 0 ≤ own := by unfold isTask at htk; simp at htk; omega
  have hb : badC own 0 0 = false := by unfold badC; simp [htk]
  have hqa : (Q.any fun w => w.task == own) = false := by
    rw [List.any_eq_false]
    intro w hw
    simpa using (m5 w hw).no
  have h1 : hld own [] own = 2 := by
    unfold hld
    simp [ht2]
  unfold apV
  rw [hb, hqa, h1]
  simp
theorem loop_PW0 (own : Int) (hn qn bn cn : Bool) (hM : MV own [] []) (ho : own ≠ -1) :
    ev P (.loop 0 [1, 3, 7, 8, 77, 78, 79] F_nurserylaw17_RwlockProgress_L2 [(1, .loc 0 0 0), (3, .d (.sl 1 true [])), (7, .d (I' 56)), (8, .d (.sl 1 true [])), (77, .d (.sl 1 false [[I' own]])), (78, .d (I' 1)), (79, .d (I' 0))]
      [.arrD 9 true [[I' own, I' 0, I' 0, hD hn [], qD qn [], hD bn [], cD cn [], .b false, I' 0]]]) = some (.out (.exit 2) [(3, .d (.sl 1 true [])), (8, .d (.sl 1 true []))] []) := by
  obtain ⟨a1, a2, a3, a4, a5, hA, ha3, ha4⟩ := ev_mApply (.s [108]) 2 0 0 own 0 0 hn [] qn [] bn [] cn [] false 0 own 56 0 0 0 (by simp) (by simp) (by simp) (by simp)
  rw [if_pos (ckd_MV hM), releaseW hM ho] at hA
  have e : srvM (-1) [] [] = (-1, [], [], []) := rfl
  rw [e] at hA
  simp only [zZ, rpD] at hA
  have hG := ev_got0 [I' (-1), I' 0, I' 0, hD a3 [], qD a4 [], hD a1 [], cD a2 [], .b false, I' 0] (.d (.sl 1 true [])) [] (.inl ⟨rfl, rfl⟩) (I' 56) (.sl 1 false [[I' own]]) (I' 1) (I' 0) a5
  rw [ev_loop]
  conv => lhs; arg 4; unfold F_nurserylaw17_RwlockProgress_L2
  simp [ev_lock, hA, hG, wrap1, V.same_self, overlay, thaw, freezeAll, freeze1, reachC, cut, rg2, rg3, List.idxOf_cons]
  rw [ev_loop]
  conv => lhs; arg 4; unfold F_nurserylaw17_RwlockProgress_L2
  simp [reachC, cut, rg2, rg3, List.idxOf_cons]
theorem loop_PW1 (own : Int) (hn qn bn cn : Bool) (w : W) (r : List W) (hr : r.length ≤ 100) (hM : MV own [] (w :: r)) (ho : own ≠ -1) (hq : qn = true → w :: r = []) (Wn : Nat) (WR : List (List D)) :
    ev P (.loop 0 [1, 3, 7, 8, 77, 78, 79] F_nurserylaw17_RwlockProgress_L2 [(1, .loc 0 0 0), (3, .asl 1 0 Wn), (7, .d (I' 56)), (8, .d (.sl 1 true [])), (77, .d (.sl 1 false [[I' own]])), (78, .d (I' 1)), (79, .d (I' 0))]
      [.arrD 9 true [[I' own, I' 0, I' 0, hD hn [], qD qn (w :: r), hD bn [], cD cn [], .b false, I' 0]], .arrD 1 true WR]) = some (.out (.exit 2) [(3, .asl 0 0 Wn), (8, .asl 1 0 (want (w :: r)).length)] [.arrD 1 true WR, .arrD 1 true (rows1 (want (w :: r)))]) := by
  obtain ⟨a1, a2, a3, a4, a5, hA, ha3, ha4⟩ := ev_mApply (.s [108]) 2 0 0 own 0 0 hn [] qn (w :: r) bn [] cn [] false 0 own 56 0 0 0 (by simp) hq (by simp) (by simp; omega)
  rw [if_pos (ckd_MV hM), releaseW hM ho] at hA
  have hwe := want_eq (w :: r)
  have hlen := (srvM_len (-1) [] (w :: r)).2.2
  obtain ⟨k0, k', hk⟩ : ∃ k0 k', (srvM (-1) [] (w :: r)).2.2.2 = k0 :: k' := by
    cases h : (srvM (-1) [] (w :: r)).2.2.2 with
    | nil => rw [h] at hwe; simp [want] at hwe
    | cons a b => exact ⟨a, b, rfl⟩
  rw [← hwe]
  generalize srvM (-1) [] (w :: r) = s at *
  obtain ⟨s1, s2, s3, s4⟩ := s
  simp only at hk hA hlen
  subst hk
  simp only [zZ, rpD] at hA
  have hG := ev_got1 [I' s1, I' 0, I' 0, hD a3 s2, qD a4 s3, hD a1 [], cD a2 [], .b false, I' 0] Wn WR (I' 56) (.sl 1 false [[I' own]]) (I' 1) (I' 0) a5 k0 k' (by simp at hlen ⊢; omega)
  show _ = some (Res.out (.exit 2) [(3, .asl 0 0 Wn), (8, .asl 1 0 ((k0 :: k').map W.task).length)] [.arrD 1 true WR, .arrD 1 true (rows1 ((k0 :: k').map W.task))])
  have hRR : ∃ RR, (k0 :: k').map W.task = RR := ⟨_, rfl⟩
  obtain ⟨RR, hRR⟩ := hRR
  rw [hRR] at hG ⊢
  simp [wk] at hG hA
  rw [ev_loop]
  conv => lhs; arg 4; unfold F_nurserylaw17_RwlockProgress_L2
  simp [ev_lock, hA, hG, wrap1, V.same_self, overlay, thaw, freezeAll, freeze1, reachC, cut, rg2, rg3, List.idxOf_cons]
  rw [ev_loop]
  conv => lhs; arg 4; unfold F_nurserylaw17_RwlockProgress_L2
  simp [reachC, cut, rg2, rg3, List.idxOf_cons]
theorem law_Progress (own cnt time : Int) (hn : Bool) (H : List Int) (qn : Bool) (Q : List W) (bn : Bool) (B : List Int) (cn : Bool) (C : List (List D)) (cl : Bool) (val : Int)
    (hh : hn = true → H = []) (hq : qn = true → Q = []) (hcs : ∀ c, c ∈ C → ∃ t nb r, c = [I' t, .sl 1 nb r]) :
    ev P (.call nurserylaw17_RwlockProgress [.d (stF own cnt time hn H qn Q bn B cn C cl val)] []) = some (.val (.d (.b true)) []) := by
  have hG := ev_Great own cnt time hn H qn Q bn B cn C cl val hcs
  rw [ev_call P_nurserylaw17_RwlockProgress rfl]
  cases hg : greatB H Q B C
  · rw [hg] at hG
    obtain ⟨l1, l2, l3, l4⟩ := great_len hg
    have hC := ev_rCheck (.s [108]) 2 0 0 own cnt time hn H qn Q bn B cn C cl val (by omega) (by omega)
    have eC : (if mnew 2 0 0 = 0 then (if mvalid own cnt time H Q B C cl val then 0 else 1) else mnew 2 0 0) = ckd 2 0 0 own cnt time H Q B C cl val := rfl
    rw [eC] at hC
    by_cases hc : ckd 2 0 0 own cnt time H Q B C cl val = 0
    · obtain ⟨hM, rfl, rfl, rfl, rfl, rfl, rfl⟩ := ckd_zero hc
      rw [hc] at hC
      by_cases ho : own = -1
      · subst ho
        cases H with
        | nil =>
          obtain rfl := hM.free rfl
          simp [F_nurserylaw17_RwlockProgress, mkRows, allDs, hG, hC, ev_lock, ev_awake]
        | cons x l =>
          have z3 : ((l.length : Int) + 1 == 0) = false := by simp; omega
          cases Q with
          | nil =>
            have hW : ev P (.loop 0 [1, 3, 41, 42, 43] F_nurserylaw17_RwlockProgress_L0 [(1, .loc 0 0 0), (3, .d (.sl 1 true [])), (41, .d (qD qn [])), (42, .d (I' 0)), (43, .d (I' 0))] [.arrD 9 true [[I' (-1), I' 0, I' 0, hD hn (x :: l), qD qn [], hD bn [], cD cn [], .b false, I' 0]]]) =
                some (.out (.exit 0) [(1, .loc 0 0 0), (3, .d (.sl 1 true []))] [.arrD 9 true [[I' (-1), I' 0, I' 0, hD hn (x :: l), qD qn [], hD bn [], cD cn [], .b false, I' 0]]]) := by
              rw [ev_loop]
              conv => lhs; arg 4; unfold F_nurserylaw17_RwlockProgress_L0
              simp [reachC, cut]
            have hP := loop_P0 hn (x :: l) (by omega) (x :: l) [] hn qn bn cn rfl (by simp) hM hh
            have hE : ev P (.call slices_Equal_int_int [.d (.sl 1 true []), .d (.sl 1 true [])] []) = some (.val (.d (.b true)) []) := ev_Equal true true [] [] (by simp)
            simp at hP
            simp [F_nurserylaw17_RwlockProgress, mkRows, allDs, hG, hC, z3, hW, hP, hE, ev_lock, ev_awake, reachC, cut, rg2, rg3, List.idxOf_cons, thaw, freezeAll, freeze1]
          | cons w r =>
            have hW := ev_want (I' (-1)) (I' 0) (I' 0) (hD bn []) (cD cn []) (.b false) (I' 0) (hD hn (x :: l)) qn w r (by simp at l2 ⊢; omega)
            have h55 : w.op = 55 := by
              have := hM.st
              simp [stay] at this
              exact this
            have hwe : want (w :: r) = [w.task] := by simp [want, h55]
            rw [hwe] at hW
            have hP := loop_P1 hn (x :: l) (by omega) w r (by simp at l2; omega) 1 (rows1 [w.task]) (x :: l) [] hn qn bn cn rfl (by simp) hM hh hq
            have hE : ev P (.call slices_Equal_int_int [.d (.sl 1 false [[I' w.task]]), .d (.sl 1 false [[I' w.task]])] []) = some (.val (.d (.b ([w.task] == [w.task]))) []) := ev_Equal false false [w.task] [w.task] (by simp)
            simp at hP hW hE
            simp [F_nurserylaw17_RwlockProgress, mkRows, allDs, hG, hC, z3, hW, hP, hE, ev_lock, ev_awake, reachC, cut, rg2, rg3, List.idxOf_cons, thaw, freezeAll, freeze1]
      · obtain ⟨hi, rfl⟩ : isTask own = true ∧ H = [] := by
          rcases hM.ow with h | h
          · exact absurd h ho
          · exact h
        have hge : 0 ≤ own := by unfold isTask at hi; simp at hi; omega
        have hnl : ¬ own < 0 := by omega
        cases Q with
        | nil =>
          have hW : ev P (.loop 0 [1, 3, 41, 42, 43] F_nurserylaw17_RwlockProgress_L0 [(1, .loc 0 0 0), (3, .d (.sl 1 true [])), (41, .d (qD qn [])), (42, .d (I' 0)), (43, .d (I' 0))] [.arrD 9 true [[I' own, I' 0, I' 0, hD hn [], qD qn [], hD bn [], cD cn [], .b false, I' 0]]]) =
              some (.out (.exit 0) [(1, .loc 0 0 0), (3, .d (.sl 1 true []))] [.arrD 9 true [[I' own, I' 0, I' 0, hD hn [], qD qn [], hD bn [], cD cn [], .b false, I' 0]]]) := by
            rw [ev_loop]
            conv => lhs; arg 4; unfold F_nurserylaw17_RwlockProgress_L0
            simp [reachC, cut]
          have hP := loop_PW0 own hn qn bn cn hM ho
          have hE : ev P (.call slices_Equal_int_int [.d (.sl 1 true []), .d (.sl 1 true [])] []) = some (.val (.d (.b true)) []) := ev_Equal true true [] [] (by simp)
          simp [F_nurserylaw17_RwlockProgress, mkRows, allDs, hG, hC, hge, hnl, hW, hP, hE, ev_lock, ev_awake, reachC, cut, rg2, rg3, List.idxOf_cons, thaw, freezeAll, freeze1]
        | cons w r =>
          have hW := ev_want (I' own) (I' 0) (I' 0) (hD bn []) (cD cn []) (.b false) (I' 0) (hD hn []) qn w r (by simp at l2 ⊢; omega)
          have hP := loop_PW1 own hn qn bn cn w r (by simp at l2; omega) hM ho hq (want (w :: r)).length (rows1 (want (w :: r)))
          have hE := ev_Equal false false (want (w :: r)) (want (w :: r)) (by
            have := (srvM_len (-1) [] (w :: r)).2.2
            rw [← want_eq, List.length_map]; omega)
          generalize want (w :: r) = WW at *
          simp at hP hW hE
          simp [F_nurserylaw17_RwlockProgress, mkRows, allDs, hG, hC, hge, hnl, hW, hP, hE, ev_lock, ev_awake, take_map_len, reachC, cut, rg2, rg3, List.idxOf_cons, thaw, freezeAll, freeze1]
    · have hc2 : (ckd 2 0 0 own cnt time H Q B C cl val != 0) = true := by simpa using hc
      generalize ckd 2 0 0 own cnt time H Q B C cl val = ck at *
      simp [F_nurserylaw17_RwlockProgress, mkRows, allDs, hG, hC, hc2, ev_lock, ev_awake]
  · rw [hg] at hG
    simp [F_nurserylaw17_RwlockProgress, mkRows, allDs, hG, ev_awake]
end Go.VS.R
namespace Go.VS.R
theorem l_Progress (xs : List D) (h : WVs [tS] xs) : ev P (.call nurserylaw17_RwlockProgress (xs.map V.d) []) = some (.val (.d (.b true)) []) := by
  simp only [WVs] at h
  obtain ⟨s, _, rfl, hs, rfl⟩ := h
  obtain ⟨S⟩ := state_of hs
  rw [S.eq]
  exact law_Progress _ _ _ _ _ _ _ _ _ _ _ _ _ S.hH S.hQ S.hC
end Go.VS.R
namespace Go.VS.R
/-! Fair: what 'play' does -/
structure PS where
  own : Int
  H : List Int
  Q : List W
  got : List Int
def opOf (own : Int) (H : List Int) (t kd : Int) : Int := if kd = 0 then 53 else if kd = 1 then 55 else if hld own H t = 2 then 56 else 54
def rp (s : PS) (t kd : Int) : Rp := if kd = 3 then wdV s.own s.H s.Q t else apV s.own s.H s.Q t (opOf s.own s.H t kd) 0 0
def stp (s : PS) (t kd : Int) : PS :=
  if (rp s t kd).e = 0 then ⟨(rp s t kd).own, (rp s t kd).H, (rp s t kd).Q, s.got ++ ((if kd < 2 ∧ (rp s t kd).parked = false then [t] else []) ++ (rp s t kd).k.map W.task)⟩ else s
def playS : PS → List (Int × Int) → PS
  | s, [] => s
  | s, x :: r => playS (stp s (x.1.tmod 4) (x.2.tmod 4)) r
def urow (x : Int × Int) : List D := [.i .u8 x.1, .i .u8 x.2]
def U8 (x : Int × Int) : Prop := (0 ≤ x.1 ∧ x.1 ≤ 255) ∧ (0 ≤ x.2 ∧ x.2 ≤ 255)
theorem sasc_len : ∀ {l : List Int} {lo : Int}, SAsc l → (∀ x, x ∈ l → lo ≤ x ∧ x < 16) → lo ≤ 16 → (l.length : Int) ≤ 16 - lo
  | [], lo, _, _, h => by simp; omega
  | x :: r, lo, h, hr, hlo => by
    have h' := List.pairwise_cons.1 h
    have hx := hr x (by simp)
    have := sasc_len (l := r) (lo := x + 1) h'.2 (fun y hy => ⟨h'.1 y hy, (hr y (by simp [hy])).2⟩) (by omega)
    simp; omega
theorem MV.lenH {own : Int} {H : List Int} {Q : List W} (h : MV own H Q) : H.length ≤ 16 := by
  obtain ⟨_, h2, h3, _⟩ := MV_iff.1 h
  have := sasc_len (lo := 0) h3 (fun x hx => by have := h2 x hx; unfold isTask at this; simp at this; exact this) (by omega)
  omega
theorem apV_lenQ (own : Int) (H : List Int) (Q : List W) (t o p n : Int) : (apV own H Q t o p n).Q.length ≤ Q.length + 1 := by
  have hz := fun e => (zr_len e (Q.length + 1)).2.1
  have hl := (lockS_len own H Q t o p).2.1
  have h1 := (srvM_len own (H.filter fun x => x != t) Q).2.1
  have h2 := (srvM_len (-1) H Q).2.1
  unfold apV
  split
  · exact hz _
  · split
    · exact hz _
    · split
      · exact hz _
      · split
        · split
          · exact hz _
          · exact hl
        · split
          · split
            · exact hz _
            · dsimp only; omega
          · split
            · exact hz _
            · dsimp only; omega
theorem wdV_lenQ (own : Int) (H : List Int) (Q : List W) (t : Int) : (wdV own H Q t).Q.length ≤ Q.length + 1 := by
  have hf : (Q.filter fun w => w.task != t).length ≤ Q.length := List.length_filter_le _ _
  have h1 := (srvM_len own H (Q.filter fun w => w.task != t)).2.1
  unfold wdV
  split
  · dsimp only; omega
  · exact (zr_len _ _).2.1
theorem rp_len (s : PS) (t kd : Int) : (rp s t kd).k.length ≤ s.H.length + s.Q.length + 1 ∧ (rp s t kd).Q.length ≤ s.Q.length + 1 := by
  unfold rp
  split
  · exact ⟨(wdV_len _ _ _ _).2.2, wdV_lenQ _ _ _ _⟩
  · exact ⟨(apV_len _ _ _ _ _ _ _).2.2, apV_lenQ _ _ _ _ _ _ _⟩
theorem MV_stp {s : PS} {t kd : Int} (hM : MV s.own s.H s.Q) (hl : s.Q.length ≤ 90) : MV (stp s t kd).own (stp s t kd).H (stp s t kd).Q := by
  unfold stp
  split
  · rename_i he
    dsimp only
    unfold rp at he ⊢
    split
    · rename_i hk
      rw [if_pos hk] at he
      exact MV_wdV hM he
    · rename_i hk
      rw [if_neg hk] at he
      exact MV_apV hM hl he
  · exact hM
theorem stp_lenQ (s : PS) (t kd : Int) : (stp s t kd).Q.length ≤ s.Q.length + 1 := by
  unfold stp
  split
  · exact (rp_len s t kd).2
  · omega
theorem stp_got (s : PS) (t kd : Int) : (stp s t kd).got.length ≤ s.got.length + s.H.length + s.Q.length + 2 := by
  unfold stp
  have := (rp_len s t kd).1
  split
  · dsimp only
    split <;> simp <;> omega
  · omega
def gV : List Int → V
  | [] => .d (.sl 1 true [])
  | g => .asl 2 0 g.length
def gO : List Int → List O
  | [] => []
  | g => [.arrD 1 true (rows1 g)]
theorem loop_woken (z9 : List D) (st : List D) (e : D) (stl n i : D) (kn : Bool) (k : List W) (hn : k.length ≤ 1000) : ∀ (suf pre : List W) (g : List Int), k = pre ++ suf → g.length ≤ 10000 + pre.length →
    ev P (.loop 0 [2, 5, 6, 7, 21, 22, 23, 85, 86, 87] F_nurserylaw17_play_L0 [(2, .loc 0 0 0), (5, .loc 1 0 0), (6, .d e), (7, gV g), (21, .d stl), (22, .d n), (23, .d i), (85, .d (.sl 5 kn (k.map wk))), (86, .d (I' k.length)), (87, .d (I' pre.length))] (.arrD 9 true [z9] :: .arrD 9 true [st] :: gO g)) =
      some (.out (.exit 2) [(2, .loc 0 0 0), (5, .loc 1 0 0), (6, .d e), (7, gV (g ++ suf.map W.task)), (21, .d stl), (22, .d n), (23, .d i)] (.arrD 9 true [z9] :: .arrD 9 true [st] :: gO (g ++ suf.map W.task))) := by
  intro suf
  induction suf with
  | nil =>
    intro pre g hl hg
    have : k.length = pre.length := by simp [hl]
    rw [ev_loop]
    conv => lhs; arg 4; unfold F_nurserylaw17_play_L0
    cases g <;> simp [this, gV, gO, reachC, cut, rg2, rg3, List.idxOf_cons]
  | cons w suf ih =>
    intro pre g hl hg
    have hgt : k[pre.length]? = some w := by simp [hl]
    have hpl : pre.length < k.length := by simp [hl]
    have hlt : (pre.length : Int) < k.length := by omega
    have hnext : IntKind.i64.wrap ((pre.length : Int) + 1) = pre.length + 1 := wrap_i64 (by omega) (by omega)
    have r1 : 1 ≤ room := by decide
    have ih' := ih (pre ++ [w]) (g ++ [w.task]) (by simp [hl]) (by simp; omega)
    have e2 : g ++ (w :: suf).map W.task = g ++ [w.task] ++ suf.map W.task := by simp
    rw [e2]
    generalize some (Res.out (.exit 2) [(2, .loc 0 0 0), (5, .loc 1 0 0), (6, .d e), (7, gV (g ++ [w.task] ++ suf.map W.task)), (21, .d stl), (22, .d n), (23, .d i)] (.arrD 9 true [z9] :: .arrD 9 true [st] :: gO (g ++ [w.task] ++ suf.map W.task))) = RR at *
    rw [ev_loop]
    conv => lhs; arg 4; unfold F_nurserylaw17_play_L0
    cases g with
    | nil =>
      simp [gV, gO] at ih'
      simp [hlt, hgt, wk, hnext, r1, gV, gO, Nat.not_succ_le_self, take_map_len, reachC, cut, rg2, rg3, List.idxOf_cons]
      exact ih'
    | cons a g =>
      have hr : g.length + 1 + 1 ≤ room := by simp at hg; unfold room; omega
      simp [gV, gO] at ih'
      simp [hlt, hgt, wk, hnext, hr, gV, gO, Nat.not_succ_le_self, take_map_len, reachC, cut, rg2, rg3, List.idxOf_cons]
      exact ih'
end Go.VS.R
namespace Go.VS.R
theorem mod4 {a : Int} (h : 0 ≤ a ∧ a ≤ 255) : 0 ≤ a.tmod 4 ∧ a.tmod 4 < 4 := ⟨Int.tmod_nonneg 4 h.1, Int.tmod_lt_of_pos a (by decide)⟩
def z9 : List D := [I' 0, I' 0, I' 0, .sl 1 true [], .sl 5 true [], .sl 1 true [], .sl 2 true [], .b false, I' 0]
/-- play's loop at a step -/
def plQ (ln : Bool) (l : List (Int × Int)) (i : Int) (s : PS) (hf qf bf cf : Bool) : Req :=
  .loop 0 [2, 5, 6, 7, 21, 22, 23] F_nurserylaw17_play_L1 [(2, .loc 0 0 0), (5, .loc 1 0 0), (6, .d (I' 0)), (7, gV s.got), (21, .d (.sl 2 ln (l.map urow))), (22, .d (I' l.length)), (23, .d (I' i))]
        (.arrD 9 true [z9] :: .arrD 9 true [[I' s.own, I' 0, I' 0, hD hf s.H, qD qf s.Q, hD bf [], cD cf [], .b false, I' 0]] :: gO s.got)
/-- the step leads on -/
def Goes (ln : Bool) (l : List (Int × Int)) (i : Nat) (s s' : PS) (hf qf bf cf : Bool) : Prop :=
  ∃ hf' qf' bf' cf', (hf' = true → s'.H = []) ∧ (qf' = true → s'.Q = []) ∧ ev P (plQ ln l i s hf qf bf cf) = ev P (plQ ln l (i + 1) s' hf' qf' bf' cf')
structure SC (l : List (Int × Int)) (i : Nat) (a b t kd : Int) (s : PS) (hf qf : Bool) : Prop where
  hn : l.length ≤ 100
  ha : 0 ≤ a ∧ a ≤ 255
  hb : 0 ≤ b ∧ b ≤ 255
  hgt : l[i]? = some (a, b)
  hta : a.tmod 4 = t
  hkb : b.tmod 4 = kd
  hM : MV s.own s.H s.Q
  hQ : s.Q.length ≤ 80
  hg : s.got.length ≤ 5000
  hh : hf = true → s.H = []
  hq : qf = true → s.Q = []
theorem SC.lt {l : List (Int × Int)} {i : Nat} {a b t kd : Int} {s : PS} {hf qf : Bool} (h : SC l i a b t kd s hf qf) : i < l.length := by
  have := h.hgt
  exact (List.getElem?_eq_some_iff.1 this).1
theorem play_err0 (ln : Bool) (l : List (Int × Int)) (i : Nat) (a b t kd : Int) (s : PS) (hf qf bf cf : Bool) (hS : SC l i a b t kd s hf qf) (hk : kd = 0) (he : (rp s t kd).e ≠ 0) : Goes ln l i s (stp s t kd) hf qf bf cf := by
  obtain ⟨hn, ha, hb, hgt, hta, hkb, hM, hQ, hg, hh, hq⟩ := hS
  have hpl : i < l.length := (List.getElem?_eq_some_iff.1 hgt).1
  have hlt : (i : Int) < l.length := by omega
  have hnext : IntKind.i64.wrap ((i : Int) + 1) = i + 1 := wrap_i64 (by omega) (by omega)
  have wa : IntKind.i64.wrap a = a := wrap_i64 (by omega) (by omega)
  have wb : IntKind.i64.wrap b = b := wrap_i64 (by omega) (by omega)
  have hlH := hM.lenH
  have hHo := ev_Holds s.own (I' 0) (I' 0) (qD qf s.Q) (hD bf []) (cD cf []) (.b false) (I' 0) hf s.H t (by omega)
  have r1 : 1 ≤ room := by decide
  have hgl : s.got.length + 2 ≤ room := by unfold room; omega
  obtain ⟨a1, a2, a3, a4, a5, hA, ha3, ha4⟩ := ev_mApply (.s [108]) 2 0 0 s.own 0 0 hf s.H qf s.Q bf [] cf [] false 0 t (opOf s.own s.H t kd) 0 0 0 hh hq (by omega) (by omega)
  rw [if_pos (ckd_MV hM)] at hA ha3 ha4
  have erp : rp s t kd = apV s.own s.H s.Q t (opOf s.own s.H t kd) 0 0 := by unfold rp; rw [if_neg (by omega)]
  rw [← erp] at hA ha3 ha4
  have estp : stp s t kd = s := by unfold stp; rw [if_neg he]
  have heb : ((rp s t kd).e != 0) = true := by simpa using he
  rw [estp]
  refine ⟨hf, qf, bf, cf, hh, hq, ?_⟩
  generalize rp s t kd = r at *
  simp only [zZ, rpD] at hA
  have hop : opOf s.own s.H t kd = if kd = 0 then 53 else if kd = 1 then 55 else if hld s.own s.H t = 2 then 56 else 54 := rfl
  generalize opOf s.own s.H t kd = op at *
  subst hk
  unfold plQ
  conv => lhs; rw [ev_loop]
  conv => lhs; arg 4; unfold F_nurserylaw17_play_L1
  simp at hop
  subst hop
  cases hh2 : hld s.own s.H t == 2
  · cases hgo : s.got with
    | nil => simp [hh2, heb, hlt, hgt, urow, wa, wb, hta, hkb, hHo, ev_lock, hA, hnext, gV, gO, z9, V.same_self, overlay, Nat.not_succ_le_self, take_map_len, reachC, cut, rg2, rg3, rg4, List.idxOf_cons]
    | cons g0 g => simp [hh2, heb, hlt, hgt, urow, wa, wb, hta, hkb, hHo, ev_lock, hA, hnext, gV, gO, z9, V.same_self, overlay, Nat.not_succ_le_self, take_map_len, reachC, cut, rg2, rg3, rg4, List.idxOf_cons]
  · cases hgo : s.got with
    | nil => simp [hh2, heb, hlt, hgt, urow, wa, wb, hta, hkb, hHo, ev_lock, hA, hnext, gV, gO, z9, V.same_self, overlay, Nat.not_succ_le_self, take_map_len, reachC, cut, rg2, rg3, rg4, List.idxOf_cons]
    | cons g0 g => simp [hh2, heb, hlt, hgt, urow, wa, wb, hta, hkb, hHo, ev_lock, hA, hnext, gV, gO, z9, V.same_self, overlay, Nat.not_succ_le_self, take_map_len, reachC, cut, rg2, rg3, rg4, List.idxOf_cons]
theorem play_err1 (ln : Bool) (l : List (Int × Int)) (i : Nat) (a b t kd : Int) (s : PS) (hf qf bf cf : Bool) (hS : SC l i a b t kd s hf qf) (hk : kd = 1) (he : (rp s t kd).e ≠ 0) : Goes ln l i s (stp s t kd) hf qf bf cf := by
  obtain ⟨hn, ha, hb, hgt, hta, hkb, hM, hQ, hg, hh, hq⟩ := hS
  have hpl : i < l.length := (List.getElem?_eq_some_iff.1 hgt).1
  have hlt : (i : Int) < l.length := by omega
  have hnext : IntKind.i64.wrap ((i : Int) + 1) = i + 1 := wrap_i64 (by omega) (by omega)
  have wa : IntKind.i64.wrap a = a := wrap_i64 (by omega) (by omega)
  have wb : IntKind.i64.wrap b = b := wrap_i64 (by omega) (by omega)
  have hlH := hM.lenH
  have hHo := ev_Holds s.own (I' 0) (I' 0) (qD qf s.Q) (hD bf []) (cD cf []) (.b false) (I' 0) hf s.H t (by omega)
  have r1 : 1 ≤ room := by decide
  have hgl : s.got.length + 2 ≤ room := by unfold room; omega
  obtain ⟨a1, a2, a3, a4, a5, hA, ha3, ha4⟩ := ev_mApply (.s [108]) 2 0 0 s.own 0 0 hf s.H qf s.Q bf [] cf [] false 0 t (opOf s.own s.H t kd) 0 0 0 hh hq (by omega) (by omega)
  rw [if_pos (ckd_MV hM)] at hA ha3 ha4
  have erp : rp s t kd = apV s.own s.H s.Q t (opOf s.own s.H t kd) 0 0 := by unfold rp; rw [if_neg (by omega)]
  rw [← erp] at hA ha3 ha4
  have estp : stp s t kd = s := by unfold stp; rw [if_neg he]
  have heb : ((rp s t kd).e != 0) = true := by simpa using he
  rw [estp]
  refine ⟨hf, qf, bf, cf, hh, hq, ?_⟩
  generalize rp s t kd = r at *
  simp only [zZ, rpD] at hA
  have hop : opOf s.own s.H t kd = if kd = 0 then 53 else if kd = 1 then 55 else if hld s.own s.H t = 2 then 56 else 54 := rfl
  generalize opOf s.own s.H t kd = op at *
  subst hk
  unfold plQ
  conv => lhs; rw [ev_loop]
  conv => lhs; arg 4; unfold F_nurserylaw17_play_L1
  simp at hop
  subst hop
  cases hh2 : hld s.own s.H t == 2
  · cases hgo : s.got with
    | nil => simp [hh2, heb, hlt, hgt, urow, wa, wb, hta, hkb, hHo, ev_lock, hA, hnext, gV, gO, z9, V.same_self, overlay, Nat.not_succ_le_self, take_map_len, reachC, cut, rg2, rg3, rg4, List.idxOf_cons]
    | cons g0 g => simp [hh2, heb, hlt, hgt, urow, wa, wb, hta, hkb, hHo, ev_lock, hA, hnext, gV, gO, z9, V.same_self, overlay, Nat.not_succ_le_self, take_map_len, reachC, cut, rg2, rg3, rg4, List.idxOf_cons]
  · cases hgo : s.got with
    | nil => simp [hh2, heb, hlt, hgt, urow, wa, wb, hta, hkb, hHo, ev_lock, hA, hnext, gV, gO, z9, V.same_self, overlay, Nat.not_succ_le_self, take_map_len, reachC, cut, rg2, rg3, rg4, List.idxOf_cons]
    | cons g0 g => simp [hh2, heb, hlt, hgt, urow, wa, wb, hta, hkb, hHo, ev_lock, hA, hnext, gV, gO, z9, V.same_self, overlay, Nat.not_succ_le_self, take_map_len, reachC, cut, rg2, rg3, rg4, List.idxOf_cons]
theorem play_err2 (ln : Bool) (l : List (Int × Int)) (i : Nat) (a b t kd : Int) (s : PS) (hf qf bf cf : Bool) (hS : SC l i a b t kd s hf qf) (hk : kd = 2) (he : (rp s t kd).e ≠ 0) : Goes ln l i s (stp s t kd) hf qf bf cf := by
  obtain ⟨hn, ha, hb, hgt, hta, hkb, hM, hQ, hg, hh, hq⟩ := hS
  have hpl : i < l.length := (List.getElem?_eq_some_iff.1 hgt).1
  have hlt : (i : Int) < l.length := by omega
  have hnext : IntKind.i64.wrap ((i : Int) + 1) = i + 1 := wrap_i64 (by omega) (by omega)
  have wa : IntKind.i64.wrap a = a := wrap_i64 (by omega) (by omega)
  have wb : IntKind.i64.wrap b = b := wrap_i64 (by omega) (by omega)
  have hlH := hM.lenH
  have hHo := ev_Holds s.own (I' 0) (I' 0) (qD qf s.Q) (hD bf []) (cD cf []) (.b false) (I' 0) hf s.H t (by omega)
  have r1 : 1 ≤ room := by decide
  have hgl : s.got.length + 2 ≤ room := by unfold room; omega
  obtain ⟨a1, a2, a3, a4, a5, hA, ha3, ha4⟩ := ev_mApply (.s [108]) 2 0 0 s.own 0 0 hf s.H qf s.Q bf [] cf [] false 0 t (opOf s.own s.H t kd) 0 0 0 hh hq (by omega) (by omega)
  rw [if_pos (ckd_MV hM)] at hA ha3 ha4
  have erp : rp s t kd = apV s.own s.H s.Q t (opOf s.own s.H t kd) 0 0 := by unfold rp; rw [if_neg (by omega)]
  rw [← erp] at hA ha3 ha4
  have estp : stp s t kd = s := by unfold stp; rw [if_neg he]
  have heb : ((rp s t kd).e != 0) = true := by simpa using he
  rw [estp]
  refine ⟨hf, qf, bf, cf, hh, hq, ?_⟩
  generalize rp s t kd = r at *
  simp only [zZ, rpD] at hA
  have hop : opOf s.own s.H t kd = if kd = 0 then 53 else if kd = 1 then 55 else if hld s.own s.H t = 2 then 56 else 54 := rfl
  generalize opOf s.own s.H t kd = op at *
  subst hk
  unfold plQ
  conv => lhs; rw [ev_loop]
  conv => lhs; arg 4; unfold F_nurserylaw17_play_L1
  simp at hop
  by_cases hh1 : hld s.own s.H t = 2
  · simp [hh1] at hop
    subst hop
    cases hgo : s.got with
    | nil => simp [hh1, heb, hlt, hgt, urow, wa, wb, hta, hkb, hHo, ev_lock, hA, hnext, gV, gO, z9, V.same_self, overlay, Nat.not_succ_le_self, take_map_len, reachC, cut, rg2, rg3, rg4, List.idxOf_cons]
    | cons g0 g => simp [hh1, heb, hlt, hgt, urow, wa, wb, hta, hkb, hHo, ev_lock, hA, hnext, gV, gO, z9, V.same_self, overlay, Nat.not_succ_le_self, take_map_len, reachC, cut, rg2, rg3, rg4, List.idxOf_cons]
  · simp [hh1] at hop
    subst hop
    have hh2 : (hld s.own s.H t == 2) = false := by simpa using hh1
    cases hgo : s.got with
    | nil => simp [hh2, heb, hlt, hgt, urow, wa, wb, hta, hkb, hHo, ev_lock, hA, hnext, gV, gO, z9, V.same_self, overlay, Nat.not_succ_le_self, take_map_len, reachC, cut, rg2, rg3, rg4, List.idxOf_cons]
    | cons g0 g => simp [hh2, heb, hlt, hgt, urow, wa, wb, hta, hkb, hHo, ev_lock, hA, hnext, gV, gO, z9, V.same_self, overlay, Nat.not_succ_le_self, take_map_len, reachC, cut, rg2, rg3, rg4, List.idxOf_cons]
theorem play_ok0n (ln : Bool) (l : List (Int × Int)) (i : Nat) (a b t kd : Int) (s : PS) (hf qf bf cf : Bool) (hS : SC l i a b t kd s hf qf) (hk : kd = 0) (he : (rp s t kd).e = 0) (hpk : (rp s t kd).parked = false) : Goes ln l i s (stp s t kd) hf qf bf cf := by
  have hkl0 := (rp_len s t kd).1
  obtain ⟨hn, ha, hb, hgt, hta, hkb, hM, hQ, hg, hh, hq⟩ := hS
  have hpl : i < l.length := (List.getElem?_eq_some_iff.1 hgt).1
  have hlt : (i : Int) < l.length := by omega
  have hnext : IntKind.i64.wrap ((i : Int) + 1) = i + 1 := wrap_i64 (by omega) (by omega)
  have wa : IntKind.i64.wrap a = a := wrap_i64 (by omega) (by omega)
  have wb : IntKind.i64.wrap b = b := wrap_i64 (by omega) (by omega)
  have hlH := hM.lenH
  have hHo := ev_Holds s.own (I' 0) (I' 0) (qD qf s.Q) (hD bf []) (cD cf []) (.b false) (I' 0) hf s.H t (by omega)
  have r1 : 1 ≤ room := by decide
  have hgl : s.got.length + 2 ≤ room := by unfold room; omega
  obtain ⟨a1, a2, a3, a4, a5, hA, ha3, ha4⟩ := ev_mApply (.s [108]) 2 0 0 s.own 0 0 hf s.H qf s.Q bf [] cf [] false 0 t (opOf s.own s.H t kd) 0 0 0 hh hq (by omega) (by omega)
  rw [if_pos (ckd_MV hM)] at hA ha3 ha4
  have erp : rp s t kd = apV s.own s.H s.Q t (opOf s.own s.H t kd) 0 0 := by unfold rp; rw [if_neg (by omega)]
  rw [← erp] at hA ha3 ha4
  have e4 : (if kd < 2 ∧ (rp s t kd).parked = false then [t] else []) = [t] := by rw [if_pos ⟨by omega, hpk⟩]
  have e5 : s.got ++ ((if kd < 2 ∧ (rp s t kd).parked = false then [t] else []) ++ (rp s t kd).k.map W.task) = s.got ++ [t] ++ (rp s t kd).k.map W.task := by rw [e4]; simp
  have estp : stp s t kd = ⟨(rp s t kd).own, (rp s t kd).H, (rp s t kd).Q, s.got ++ [t] ++ (rp s t kd).k.map W.task⟩ := by unfold stp; rw [if_pos he, e5]
  rw [estp]
  clear e4 e5 estp
  have heb : ((rp s t kd).e != 0) = false := by simpa using he
  have hkl : (rp s t kd).k.length ≤ 1000 := by omega
  refine ⟨a3, a4, a1, a2, ha3, ha4, ?_⟩
  generalize rp s t kd = r at *
  obtain ⟨ro, rH, rQ, rpk, rok, rk, re⟩ := r
  simp only at *
  subst he
  subst hpk
  simp only [zZ, rpD] at hA
  have hop : opOf s.own s.H t kd = if kd = 0 then 53 else if kd = 1 then 55 else if hld s.own s.H t = 2 then 56 else 54 := rfl
  generalize opOf s.own s.H t kd = op at *
  have hW := loop_woken z9 [I' ro, I' 0, I' 0, hD a3 rH, qD a4 rQ, hD a1 [], cD a2 [], .b false, I' 0] (I' 0) (.sl 2 ln (l.map urow)) (I' l.length) (I' i) a5 rk hkl rk [] (s.got ++ [t]) rfl (by simp; omega)
  generalize hG2 : s.got ++ [t] ++ rk.map W.task = G2 at *
  subst hk
  unfold plQ
  conv => lhs; rw [ev_loop]
  conv => lhs; arg 4; unfold F_nurserylaw17_play_L1
  simp at hop
  subst hop
  cases hh2 : hld s.own s.H t == 2
  · cases hgo : s.got with
    | nil =>
      rw [hgo] at hW hG2
      cases G2 <;> simp [gV, gO, z9] at hW <;>
        simp [hh2, hW, r1, hlt, hgt, urow, wa, wb, hta, hkb, hHo, ev_lock, hA, hnext, gV, gO, z9, V.same_self, overlay, Nat.not_succ_le_self, take_map_len, reachC, cut, rg2, rg3, rg4, List.idxOf_cons]
    | cons g0 g =>
      have hgr : g.length + 1 + 1 ≤ room := by rw [hgo] at hgl; simp at hgl; omega
      rw [hgo] at hW hG2
      cases G2 <;> simp [gV, gO, z9] at hW <;>
        simp [hh2, hW, r1, hgr, hlt, hgt, urow, wa, wb, hta, hkb, hHo, ev_lock, hA, hnext, gV, gO, z9, V.same_self, overlay, Nat.not_succ_le_self, take_map_len, reachC, cut, rg2, rg3, rg4, List.idxOf_cons]
  · cases hgo : s.got with
    | nil =>
      rw [hgo] at hW hG2
      cases G2 <;> simp [gV, gO, z9] at hW <;>
        simp [hh2, hW, r1, hlt, hgt, urow, wa, wb, hta, hkb, hHo, ev_lock, hA, hnext, gV, gO, z9, V.same_self, overlay, Nat.not_succ_le_self, take_map_len, reachC, cut, rg2, rg3, rg4, List.idxOf_cons]
    | cons g0 g =>
      have hgr : g.length + 1 + 1 ≤ room := by rw [hgo] at hgl; simp at hgl; omega
      rw [hgo] at hW hG2
      cases G2 <;> simp [gV, gO, z9] at hW <;>
        simp [hh2, hW, r1, hgr, hlt, hgt, urow, wa, wb, hta, hkb, hHo, ev_lock, hA, hnext, gV, gO, z9, V.same_self, overlay, Nat.not_succ_le_self, take_map_len, reachC, cut, rg2, rg3, rg4, List.idxOf_cons]
theorem play_ok0p (ln : Bool) (l : List (Int × Int)) (i : Nat) (a b t kd : Int) (s : PS) (hf qf bf cf : Bool) (hS : SC l i a b t kd s hf qf) (hk : kd = 0) (he : (rp s t kd).e = 0) (hpk : (rp s t kd).parked = true) : Goes ln l i s (stp s t kd) hf qf bf cf := by
  have hkl0 := (rp_len s t kd).1
  obtain ⟨hn, ha, hb, hgt, hta, hkb, hM, hQ, hg, hh, hq⟩ := hS
  have hpl : i < l.length := (List.getElem?_eq_some_iff.1 hgt).1
  have hlt : (i : Int) < l.length := by omega
  have hnext : IntKind.i64.wrap ((i : Int) + 1) = i + 1 := wrap_i64 (by omega) (by omega)
  have wa : IntKind.i64.wrap a = a := wrap_i64 (by omega) (by omega)
  have wb : IntKind.i64.wrap b = b := wrap_i64 (by omega) (by omega)
  have hlH := hM.lenH
  have hHo := ev_Holds s.own (I' 0) (I' 0) (qD qf s.Q) (hD bf []) (cD cf []) (.b false) (I' 0) hf s.H t (by omega)
  have r1 : 1 ≤ room := by decide
  have hgl : s.got.length + 2 ≤ room := by unfold room; omega
  obtain ⟨a1, a2, a3, a4, a5, hA, ha3, ha4⟩ := ev_mApply (.s [108]) 2 0 0 s.own 0 0 hf s.H qf s.Q bf [] cf [] false 0 t (opOf s.own s.H t kd) 0 0 0 hh hq (by omega) (by omega)
  rw [if_pos (ckd_MV hM)] at hA ha3 ha4
  have erp : rp s t kd = apV s.own s.H s.Q t (opOf s.own s.H t kd) 0 0 := by unfold rp; rw [if_neg (by omega)]
  rw [← erp] at hA ha3 ha4
  have e4 : (if kd < 2 ∧ (rp s t kd).parked = false then [t] else []) = ([] : List Int) := by rw [if_neg (fun h => by rw [hpk] at h; exact absurd h.2 (by decide))]
  have e5 : s.got ++ ((if kd < 2 ∧ (rp s t kd).parked = false then [t] else []) ++ (rp s t kd).k.map W.task) = s.got ++ (rp s t kd).k.map W.task := by rw [e4]; simp
  have estp : stp s t kd = ⟨(rp s t kd).own, (rp s t kd).H, (rp s t kd).Q, s.got ++ (rp s t kd).k.map W.task⟩ := by unfold stp; rw [if_pos he, e5]
  rw [estp]
  clear e4 e5 estp
  have heb : ((rp s t kd).e != 0) = false := by simpa using he
  have hkl : (rp s t kd).k.length ≤ 1000 := by omega
  refine ⟨a3, a4, a1, a2, ha3, ha4, ?_⟩
  generalize rp s t kd = r at *
  obtain ⟨ro, rH, rQ, rpk, rok, rk, re⟩ := r
  simp only at *
  subst he
  subst hpk
  simp only [zZ, rpD] at hA
  have hop : opOf s.own s.H t kd = if kd = 0 then 53 else if kd = 1 then 55 else if hld s.own s.H t = 2 then 56 else 54 := rfl
  generalize opOf s.own s.H t kd = op at *
  have hW := loop_woken z9 [I' ro, I' 0, I' 0, hD a3 rH, qD a4 rQ, hD a1 [], cD a2 [], .b false, I' 0] (I' 0) (.sl 2 ln (l.map urow)) (I' l.length) (I' i) a5 rk hkl rk [] (s.got) rfl (by simp; omega)
  generalize hG2 : s.got ++ rk.map W.task = G2 at *
  subst hk
  unfold plQ
  conv => lhs; rw [ev_loop]
  conv => lhs; arg 4; unfold F_nurserylaw17_play_L1
  simp at hop
  subst hop
  cases hh2 : hld s.own s.H t == 2
  · cases hgo : s.got with
    | nil =>
      rw [hgo] at hW hG2
      cases G2 <;> simp [gV, gO, z9] at hW <;>
        simp [hh2, hW, r1, hlt, hgt, urow, wa, wb, hta, hkb, hHo, ev_lock, hA, hnext, gV, gO, z9, V.same_self, overlay, Nat.not_succ_le_self, take_map_len, reachC, cut, rg2, rg3, rg4, List.idxOf_cons]
    | cons g0 g =>
      have hgr : g.length + 1 + 1 ≤ room := by rw [hgo] at hgl; simp at hgl; omega
      rw [hgo] at hW hG2
      cases G2 <;> simp [gV, gO, z9] at hW <;>
        simp [hh2, hW, r1, hgr, hlt, hgt, urow, wa, wb, hta, hkb, hHo, ev_lock, hA, hnext, gV, gO, z9, V.same_self, overlay, Nat.not_succ_le_self, take_map_len, reachC, cut, rg2, rg3, rg4, List.idxOf_cons]
  · cases hgo : s.got with
    | nil =>
      rw [hgo] at hW hG2
      cases G2 <;> simp [gV, gO, z9] at hW <;>
        simp [hh2, hW, r1, hlt, hgt, urow, wa, wb, hta, hkb, hHo, ev_lock, hA, hnext, gV, gO, z9, V.same_self, overlay, Nat.not_succ_le_self, take_map_len, reachC, cut, rg2, rg3, rg4, List.idxOf_cons]
    | cons g0 g =>
      have hgr : g.length + 1 + 1 ≤ room := by rw [hgo] at hgl; simp at hgl; omega
      rw [hgo] at hW hG2
      cases G2 <;> simp [gV, gO, z9] at hW <;>
        simp [hh2, hW, r1, hgr, hlt, hgt, urow, wa, wb, hta, hkb, hHo, ev_lock, hA, hnext, gV, gO, z9, V.same_self, overlay, Nat.not_succ_le_self, take_map_len, reachC, cut, rg2, rg3, rg4, List.idxOf_cons]
theorem play_ok1n (ln : Bool) (l : List (Int × Int)) (i : Nat) (a b t kd : Int) (s : PS) (hf qf bf cf : Bool) (hS : SC l i a b t kd s hf qf) (hk : kd = 1) (he : (rp s t kd).e = 0) (hpk : (rp s t kd).parked = false) : Goes ln l i s (stp s t kd) hf qf bf cf := by
  have hkl0 := (rp_len s t kd).1
  obtain ⟨hn, ha, hb, hgt, hta, hkb, hM, hQ, hg, hh, hq⟩ := hS
  have hpl : i < l.length := (List.getElem?_eq_some_iff.1 hgt).1
  have hlt : (i : Int) < l.length := by omega
  have hnext : IntKind.i64.wrap ((i : Int) + 1) = i + 1 := wrap_i64 (by omega) (by omega)
  have wa : IntKind.i64.wrap a = a := wrap_i64 (by omega) (by omega)
  have wb : IntKind.i64.wrap b = b := wrap_i64 (by omega) (by omega)
  have hlH := hM.lenH
  have hHo := ev_Holds s.own (I' 0) (I' 0) (qD qf s.Q) (hD bf []) (cD cf []) (.b false) (I' 0) hf s.H t (by omega)
  have r1 : 1 ≤ room := by decide
  have hgl : s.got.length + 2 ≤ room := by unfold room; omega
  obtain ⟨a1, a2, a3, a4, a5, hA, ha3, ha4⟩ := ev_mApply (.s [108]) 2 0 0 s.own 0 0 hf s.H qf s.Q bf [] cf [] false 0 t (opOf s.own s.H t kd) 0 0 0 hh hq (by omega) (by omega)
  rw [if_pos (ckd_MV hM)] at hA ha3 ha4
  have erp : rp s t kd = apV s.own s.H s.Q t (opOf s.own s.H t kd) 0 0 := by unfold rp; rw [if_neg (by omega)]
  rw [← erp] at hA ha3 ha4
  have e4 : (if kd < 2 ∧ (rp s t kd).parked = false then [t] else []) = [t] := by rw [if_pos ⟨by omega, hpk⟩]
  have e5 : s.got ++ ((if kd < 2 ∧ (rp s t kd).parked = false then [t] else []) ++ (rp s t kd).k.map W.task) = s.got ++ [t] ++ (rp s t kd).k.map W.task := by rw [e4]; simp
  have estp : stp s t kd = ⟨(rp s t kd).own, (rp s t kd).H, (rp s t kd).Q, s.got ++ [t] ++ (rp s t kd).k.map W.task⟩ := by unfold stp; rw [if_pos he, e5]
  rw [estp]
  clear e4 e5 estp
  have heb : ((rp s t kd).e != 0) = false := by simpa using he
  have hkl : (rp s t kd).k.length ≤ 1000 := by omega
  refine ⟨a3, a4, a1, a2, ha3, ha4, ?_⟩
  generalize rp s t kd = r at *
  obtain ⟨ro, rH, rQ, rpk, rok, rk, re⟩ := r
  simp only at *
  subst he
  subst hpk
  simp only [zZ, rpD] at hA
  have hop : opOf s.own s.H t kd = if kd = 0 then 53 else if kd = 1 then 55 else if hld s.own s.H t = 2 then 56 else 54 := rfl
  generalize opOf s.own s.H t kd = op at *
  have hW := loop_woken z9 [I' ro, I' 0, I' 0, hD a3 rH, qD a4 rQ, hD a1 [], cD a2 [], .b false, I' 0] (I' 0) (.sl 2 ln (l.map urow)) (I' l.length) (I' i) a5 rk hkl rk [] (s.got ++ [t]) rfl (by simp; omega)
  generalize hG2 : s.got ++ [t] ++ rk.map W.task = G2 at *
  subst hk
  unfold plQ
  conv => lhs; rw [ev_loop]
  conv => lhs; arg 4; unfold F_nurserylaw17_play_L1
  simp at hop
  subst hop
  cases hh2 : hld s.own s.H t == 2
  · cases hgo : s.got with
    | nil =>
      rw [hgo] at hW hG2
      cases G2 <;> simp [gV, gO, z9] at hW <;>
        simp [hh2, hW, r1, hlt, hgt, urow, wa, wb, hta, hkb, hHo, ev_lock, hA, hnext, gV, gO, z9, V.same_self, overlay, Nat.not_succ_le_self, take_map_len, reachC, cut, rg2, rg3, rg4, List.idxOf_cons]
    | cons g0 g =>
      have hgr : g.length + 1 + 1 ≤ room := by rw [hgo] at hgl; simp at hgl; omega
      rw [hgo] at hW hG2
      cases G2 <;> simp [gV, gO, z9] at hW <;>
        simp [hh2, hW, r1, hgr, hlt, hgt, urow, wa, wb, hta, hkb, hHo, ev_lock, hA, hnext, gV, gO, z9, V.same_self, overlay, Nat.not_succ_le_self, take_map_len, reachC, cut, rg2, rg3, rg4, List.idxOf_cons]
  · cases hgo : s.got with
    | nil =>
      rw [hgo] at hW hG2
      cases G2 <;> simp [gV, gO, z9] at hW <;>
        simp [hh2, hW, r1, hlt, hgt, urow, wa, wb, hta, hkb, hHo, ev_lock, hA, hnext, gV, gO, z9, V.same_self, overlay, Nat.not_succ_le_self, take_map_len, reachC, cut, rg2, rg3, rg4, List.idxOf_cons]
    | cons g0 g =>
      have hgr : g.length + 1 + 1 ≤ room := by rw [hgo] at hgl; simp at hgl; omega
      rw [hgo] at hW hG2
      cases G2 <;> simp [gV, gO, z9] at hW <;>
        simp [hh2, hW, r1, hgr, hlt, hgt, urow, wa, wb, hta, hkb, hHo, ev_lock, hA, hnext, gV, gO, z9, V.same_self, overlay, Nat.not_succ_le_self, take_map_len, reachC, cut, rg2, rg3, rg4, List.idxOf_cons]
theorem play_ok1p (ln : Bool) (l : List (Int × Int)) (i : Nat) (a b t kd : Int) (s : PS) (hf qf bf cf : Bool) (hS : SC l i a b t kd s hf qf) (hk : kd = 1) (he : (rp s t kd).e = 0) (hpk : (rp s t kd).parked = true) : Goes ln l i s (stp s t kd) hf qf bf cf := by
  have hkl0 := (rp_len s t kd).1
  obtain ⟨hn, ha, hb, hgt, hta, hkb, hM, hQ, hg, hh, hq⟩ := hS
  have hpl : i < l.length := (List.getElem?_eq_some_iff.1 hgt).1
  have hlt : (i : Int) < l.length := by omega
  have hnext : IntKind.i64.wrap ((i : Int) + 1) = i + 1 := wrap_i64 (by omega) (by omega)
  have wa : IntKind.i64.wrap a = a := wrap_i64 (by omega) (by omega)
  have wb : IntKind.i64.wrap b = b := wrap_i64 (by omega) (by omega)
  have hlH := hM.lenH
  have hHo := ev_Holds s.own (I' 0) (I' 0) (qD qf s.Q) (hD bf []) (cD cf []) (.b false) (I' 0) hf s.H t (by omega)
  have r1 : 1 ≤ room := by decide
  have hgl : s.got.length + 2 ≤ room := by unfold room; omega
  obtain ⟨a1, a2, a3, a4, a5, hA, ha3, ha4⟩ := ev_mApply (.s [108]) 2 0 0 s.own 0 0 hf s.H qf s.Q bf [] cf [] false 0 t (opOf s.own s.H t kd) 0 0 0 hh hq (by omega) (by omega)
  rw [if_pos (ckd_MV hM)] at hA ha3 ha4
  have erp : rp s t kd = apV s.own s.H s.Q t (opOf s.own s.H t kd) 0 0 := by unfold rp; rw [if_neg (by omega)]
  rw [← erp] at hA ha3 ha4
  have e4 : (if kd < 2 ∧ (rp s t kd).parked = false then [t] else []) = ([] : List Int) := by rw [if_neg (fun h => by rw [hpk] at h; exact absurd h.2 (by decide))]
  have e5 : s.got ++ ((if kd < 2 ∧ (rp s t kd).parked = false then [t] else []) ++ (rp s t kd).k.map W.task) = s.got ++ (rp s t kd).k.map W.task := by rw [e4]; simp
  have estp : stp s t kd = ⟨(rp s t kd).own, (rp s t kd).H, (rp s t kd).Q, s.got ++ (rp s t kd).k.map W.task⟩ := by unfold stp; rw [if_pos he, e5]
  rw [estp]
  clear e4 e5 estp
  have heb : ((rp s t kd).e != 0) = false := by simpa using he
  have hkl : (rp s t kd).k.length ≤ 1000 := by omega
  refine ⟨a3, a4, a1, a2, ha3, ha4, ?_⟩
  generalize rp s t kd = r at *
  obtain ⟨ro, rH, rQ, rpk, rok, rk, re⟩ := r
  simp only at *
  subst he
  subst hpk
  simp only [zZ, rpD] at hA
  have hop : opOf s.own s.H t kd = if kd = 0 then 53 else if kd = 1 then 55 else if hld s.own s.H t = 2 then 56 else 54 := rfl
  generalize opOf s.own s.H t kd = op at *
  have hW := loop_woken z9 [I' ro, I' 0, I' 0, hD a3 rH, qD a4 rQ, hD a1 [], cD a2 [], .b false, I' 0] (I' 0) (.sl 2 ln (l.map urow)) (I' l.length) (I' i) a5 rk hkl rk [] (s.got) rfl (by simp; omega)
  generalize hG2 : s.got ++ rk.map W.task = G2 at *
  subst hk
  unfold plQ
  conv => lhs; rw [ev_loop]
  conv => lhs; arg 4; unfold F_nurserylaw17_play_L1
  simp at hop
  subst hop
  cases hh2 : hld s.own s.H t == 2
  · cases hgo : s.got with
    | nil =>
      rw [hgo] at hW hG2
      cases G2 <;> simp [gV, gO, z9] at hW <;>
        simp [hh2, hW, r1, hlt, hgt, urow, wa, wb, hta, hkb, hHo, ev_lock, hA, hnext, gV, gO, z9, V.same_self, overlay, Nat.not_succ_le_self, take_map_len, reachC, cut, rg2, rg3, rg4, List.idxOf_cons]
    | cons g0 g =>
      have hgr : g.length + 1 + 1 ≤ room := by rw [hgo] at hgl; simp at hgl; omega
      rw [hgo] at hW hG2
      cases G2 <;> simp [gV, gO, z9] at hW <;>
        simp [hh2, hW, r1, hgr, hlt, hgt, urow, wa, wb, hta, hkb, hHo, ev_lock, hA, hnext, gV, gO, z9, V.same_self, overlay, Nat.not_succ_le_self, take_map_len, reachC, cut, rg2, rg3, rg4, List.idxOf_cons]
  · cases hgo : s.got with
    | nil =>
      rw [hgo] at hW hG2
      cases G2 <;> simp [gV, gO, z9] at hW <;>
        simp [hh2, hW, r1, hlt, hgt, urow, wa, wb, hta, hkb, hHo, ev_lock, hA, hnext, gV, gO, z9, V.same_self, overlay, Nat.not_succ_le_self, take_map_len, reachC, cut, rg2, rg3, rg4, List.idxOf_cons]
    | cons g0 g =>
      have hgr : g.length + 1 + 1 ≤ room := by rw [hgo] at hgl; simp at hgl; omega
      rw [hgo] at hW hG2
      cases G2 <;> simp [gV, gO, z9] at hW <;>
        simp [hh2, hW, r1, hgr, hlt, hgt, urow, wa, wb, hta, hkb, hHo, ev_lock, hA, hnext, gV, gO, z9, V.same_self, overlay, Nat.not_succ_le_self, take_map_len, reachC, cut, rg2, rg3, rg4, List.idxOf_cons]
theorem play_ok2 (ln : Bool) (l : List (Int × Int)) (i : Nat) (a b t kd : Int) (s : PS) (hf qf bf cf : Bool) (hS : SC l i a b t kd s hf qf) (hk : kd = 2) (he : (rp s t kd).e = 0) : Goes ln l i s (stp s t kd) hf qf bf cf := by
  have hkl0 := (rp_len s t kd).1
  obtain ⟨hn, ha, hb, hgt, hta, hkb, hM, hQ, hg, hh, hq⟩ := hS
  have hpl : i < l.length := (List.getElem?_eq_some_iff.1 hgt).1
  have hlt : (i : Int) < l.length := by omega
  have hnext : IntKind.i64.wrap ((i : Int) + 1) = i + 1 := wrap_i64 (by omega) (by omega)
  have wa : IntKind.i64.wrap a = a := wrap_i64 (by omega) (by omega)
  have wb : IntKind.i64.wrap b = b := wrap_i64 (by omega) (by omega)
  have hlH := hM.lenH
  have hHo := ev_Holds s.own (I' 0) (I' 0) (qD qf s.Q) (hD bf []) (cD cf []) (.b false) (I' 0) hf s.H t (by omega)
  have r1 : 1 ≤ room := by decide
  have hgl : s.got.length + 2 ≤ room := by unfold room; omega
  obtain ⟨a1, a2, a3, a4, a5, hA, ha3, ha4⟩ := ev_mApply (.s [108]) 2 0 0 s.own 0 0 hf s.H qf s.Q bf [] cf [] false 0 t (opOf s.own s.H t kd) 0 0 0 hh hq (by omega) (by omega)
  rw [if_pos (ckd_MV hM)] at hA ha3 ha4
  have erp : rp s t kd = apV s.own s.H s.Q t (opOf s.own s.H t kd) 0 0 := by unfold rp; rw [if_neg (by omega)]
  rw [← erp] at hA ha3 ha4
  have e4 : (if kd < 2 ∧ (rp s t kd).parked = false then [t] else []) = ([] : List Int) := by rw [if_neg (fun h => by omega)]
  have e5 : s.got ++ ((if kd < 2 ∧ (rp s t kd).parked = false then [t] else []) ++ (rp s t kd).k.map W.task) = s.got ++ (rp s t kd).k.map W.task := by rw [e4]; simp
  have estp : stp s t kd = ⟨(rp s t kd).own, (rp s t kd).H, (rp s t kd).Q, s.got ++ (rp s t kd).k.map W.task⟩ := by unfold stp; rw [if_pos he, e5]
  rw [estp]
  clear e4 e5 estp
  have heb : ((rp s t kd).e != 0) = false := by simpa using he
  have hkl : (rp s t kd).k.length ≤ 1000 := by omega
  refine ⟨a3, a4, a1, a2, ha3, ha4, ?_⟩
  generalize rp s t kd = r at *
  obtain ⟨ro, rH, rQ, rpk, rok, rk, re⟩ := r
  simp only at *
  subst he
  simp only [zZ, rpD] at hA
  have hop : opOf s.own s.H t kd = if kd = 0 then 53 else if kd = 1 then 55 else if hld s.own s.H t = 2 then 56 else 54 := rfl
  generalize opOf s.own s.H t kd = op at *
  have hW := loop_woken z9 [I' ro, I' 0, I' 0, hD a3 rH, qD a4 rQ, hD a1 [], cD a2 [], .b false, I' 0] (I' 0) (.sl 2 ln (l.map urow)) (I' l.length) (I' i) a5 rk hkl rk [] (s.got) rfl (by simp; omega)
  generalize hG2 : s.got ++ rk.map W.task = G2 at *
  subst hk
  unfold plQ
  conv => lhs; rw [ev_loop]
  conv => lhs; arg 4; unfold F_nurserylaw17_play_L1
  simp at hop
  by_cases hh1 : hld s.own s.H t = 2
  · simp [hh1] at hop
    subst hop
    cases hgo : s.got with
    | nil =>
      rw [hgo] at hW hG2
      cases G2 <;> simp [gV, gO, z9] at hW <;>
        simp [hh1, hW, r1, hlt, hgt, urow, wa, wb, hta, hkb, hHo, ev_lock, hA, hnext, gV, gO, z9, V.same_self, overlay, Nat.not_succ_le_self, take_map_len, reachC, cut, rg2, rg3, rg4, List.idxOf_cons]
    | cons g0 g =>
      have hgr : g.length + 1 + 1 ≤ room := by rw [hgo] at hgl; simp at hgl; omega
      rw [hgo] at hW hG2
      cases G2 <;> simp [gV, gO, z9] at hW <;>
        simp [hh1, hW, r1, hgr, hlt, hgt, urow, wa, wb, hta, hkb, hHo, ev_lock, hA, hnext, gV, gO, z9, V.same_self, overlay, Nat.not_succ_le_self, take_map_len, reachC, cut, rg2, rg3, rg4, List.idxOf_cons]
  · simp [hh1] at hop
    subst hop
    have hh2 : (hld s.own s.H t == 2) = false := by simpa using hh1
    cases hgo : s.got with
    | nil =>
      rw [hgo] at hW hG2
      cases G2 <;> simp [gV, gO, z9] at hW <;>
        simp [hh2, hW, r1, hlt, hgt, urow, wa, wb, hta, hkb, hHo, ev_lock, hA, hnext, gV, gO, z9, V.same_self, overlay, Nat.not_succ_le_self, take_map_len, reachC, cut, rg2, rg3, rg4, List.idxOf_cons]
    | cons g0 g =>
      have hgr : g.length + 1 + 1 ≤ room := by rw [hgo] at hgl; simp at hgl; omega
      rw [hgo] at hW hG2
      cases G2 <;> simp [gV, gO, z9] at hW <;>
        simp [hh2, hW, r1, hgr, hlt, hgt, urow, wa, wb, hta, hkb, hHo, ev_lock, hA, hnext, gV, gO, z9, V.same_self, overlay, Nat.not_succ_le_self, take_map_len, reachC, cut, rg2, rg3, rg4, List.idxOf_cons]
theorem play_we (ln : Bool) (l : List (Int × Int)) (i : Nat) (a b t kd : Int) (s : PS) (hf qf bf cf : Bool) (hS : SC l i a b t kd s hf qf) (hk : kd = 3) (he : (rp s t kd).e ≠ 0) : Goes ln l i s (stp s t kd) hf qf bf cf := by
  have hkl0 := (rp_len s t kd).1
  obtain ⟨hn, ha, hb, hgt, hta, hkb, hM, hQ, hg, hh, hq⟩ := hS
  have hpl : i < l.length := (List.getElem?_eq_some_iff.1 hgt).1
  have hlt : (i : Int) < l.length := by omega
  have hnext : IntKind.i64.wrap ((i : Int) + 1) = i + 1 := wrap_i64 (by omega) (by omega)
  have wa : IntKind.i64.wrap a = a := wrap_i64 (by omega) (by omega)
  have wb : IntKind.i64.wrap b = b := wrap_i64 (by omega) (by omega)
  have hlH := hM.lenH
  have hHo := ev_Holds s.own (I' 0) (I' 0) (qD qf s.Q) (hD bf []) (cD cf []) (.b false) (I' 0) hf s.H t (by omega)
  have r1 : 1 ≤ room := by decide
  have hgl : s.got.length + 2 ≤ room := by unfold room; omega
  obtain ⟨a1, a2, a3, a4, a5, hA, ha3, ha4⟩ := ev_mApply (.s [108]) 2 0 0 s.own 0 0 hf s.H qf s.Q bf [] cf [] false 0 t (opOf s.own s.H t kd) 0 0 0 hh hq (by omega) (by omega)
  rw [if_pos (ckd_MV hM)] at hA ha3 ha4
  obtain ⟨b1, b2, b3, b4, b5, hB, hb3, hb4⟩ := ev_mWithdraw (.s [108]) 2 0 0 s.own 0 0 hf s.H qf s.Q bf [] cf [] false 0 t hh hq (by omega) (by omega)
  rw [if_pos (ckd_MV hM)] at hB hb3 hb4
  have erp : rp s t kd = wdV s.own s.H s.Q t := by unfold rp; rw [if_pos hk]
  rw [← erp] at hB hb3 hb4
  have estp : stp s t kd = s := by unfold stp; rw [if_neg he]
  have heb : ((rp s t kd).e != 0) = true := by simpa using he
  rw [estp]
  refine ⟨hf, qf, bf, cf, hh, hq, ?_⟩
  generalize rp s t kd = r at *
  generalize apV s.own s.H s.Q t (opOf s.own s.H t kd) 0 0 = r0 at *
  simp only [zZ, rpD] at hA hB
  have hop : opOf s.own s.H t kd = if kd = 0 then 53 else if kd = 1 then 55 else if hld s.own s.H t = 2 then 56 else 54 := rfl
  generalize opOf s.own s.H t kd = op at *
  subst hk
  unfold plQ
  conv => lhs; rw [ev_loop]
  conv => lhs; arg 4; unfold F_nurserylaw17_play_L1
  simp at hop
  by_cases hh1 : hld s.own s.H t = 2
  · simp [hh1] at hop
    subst hop
    cases hgo : s.got with
    | nil => simp [hh1, heb, hlt, hgt, urow, wa, wb, hta, hkb, hHo, ev_lock, hA, hB, hnext, gV, gO, z9, V.same_self, overlay, Nat.not_succ_le_self, take_map_len, reachC, cut, rg2, rg3, rg4, List.idxOf_cons]
    | cons g0 g => simp [hh1, heb, hlt, hgt, urow, wa, wb, hta, hkb, hHo, ev_lock, hA, hB, hnext, gV, gO, z9, V.same_self, overlay, Nat.not_succ_le_self, take_map_len, reachC, cut, rg2, rg3, rg4, List.idxOf_cons]
  · simp [hh1] at hop
    subst hop
    have hh2 : (hld s.own s.H t == 2) = false := by simpa using hh1
    cases hgo : s.got with
    | nil => simp [hh2, heb, hlt, hgt, urow, wa, wb, hta, hkb, hHo, ev_lock, hA, hB, hnext, gV, gO, z9, V.same_self, overlay, Nat.not_succ_le_self, take_map_len, reachC, cut, rg2, rg3, rg4, List.idxOf_cons]
    | cons g0 g => simp [hh2, heb, hlt, hgt, urow, wa, wb, hta, hkb, hHo, ev_lock, hA, hB, hnext, gV, gO, z9, V.same_self, overlay, Nat.not_succ_le_self, take_map_len, reachC, cut, rg2, rg3, rg4, List.idxOf_cons]
theorem play_wk (ln : Bool) (l : List (Int × Int)) (i : Nat) (a b t kd : Int) (s : PS) (hf qf bf cf : Bool) (hS : SC l i a b t kd s hf qf) (hk : kd = 3) (he : (rp s t kd).e = 0) : Goes ln l i s (stp s t kd) hf qf bf cf := by
  have hkl0 := (rp_len s t kd).1
  obtain ⟨hn, ha, hb, hgt, hta, hkb, hM, hQ, hg, hh, hq⟩ := hS
  have hpl : i < l.length := (List.getElem?_eq_some_iff.1 hgt).1
  have hlt : (i : Int) < l.length := by omega
  have hnext : IntKind.i64.wrap ((i : Int) + 1) = i + 1 := wrap_i64 (by omega) (by omega)
  have wa : IntKind.i64.wrap a = a := wrap_i64 (by omega) (by omega)
  have wb : IntKind.i64.wrap b = b := wrap_i64 (by omega) (by omega)
  have hlH := hM.lenH
  have hHo := ev_Holds s.own (I' 0) (I' 0) (qD qf s.Q) (hD bf []) (cD cf []) (.b false) (I' 0) hf s.H t (by omega)
  have r1 : 1 ≤ room := by decide
  have hgl : s.got.length + 2 ≤ room := by unfold room; omega
  obtain ⟨a1, a2, a3, a4, a5, hA, ha3, ha4⟩ := ev_mApply (.s [108]) 2 0 0 s.own 0 0 hf s.H qf s.Q bf [] cf [] false 0 t (opOf s.own s.H t kd) 0 0 0 hh hq (by omega) (by omega)
  rw [if_pos (ckd_MV hM)] at hA ha3 ha4
  obtain ⟨b1, b2, b3, b4, b5, hB, hb3, hb4⟩ := ev_mWithdraw (.s [108]) 2 0 0 s.own 0 0 hf s.H qf s.Q bf [] cf [] false 0 t hh hq (by omega) (by omega)
  rw [if_pos (ckd_MV hM)] at hB hb3 hb4
  have erp : rp s t kd = wdV s.own s.H s.Q t := by unfold rp; rw [if_pos hk]
  rw [← erp] at hB hb3 hb4
  have e4 : (if kd < 2 ∧ (rp s t kd).parked = false then [t] else []) = ([] : List Int) := by rw [if_neg (fun h => by omega)]
  have e5 : s.got ++ ((if kd < 2 ∧ (rp s t kd).parked = false then [t] else []) ++ (rp s t kd).k.map W.task) = s.got ++ (rp s t kd).k.map W.task := by rw [e4]; simp
  have estp : stp s t kd = ⟨(rp s t kd).own, (rp s t kd).H, (rp s t kd).Q, s.got ++ (rp s t kd).k.map W.task⟩ := by unfold stp; rw [if_pos he, e5]
  rw [estp]
  clear e4 e5 estp
  have heb : ((rp s t kd).e != 0) = false := by simpa using he
  have hkl : (rp s t kd).k.length ≤ 1000 := by omega
  refine ⟨b3, b4, b1, b2, hb3, hb4, ?_⟩
  generalize rp s t kd = r at *
  generalize apV s.own s.H s.Q t (opOf s.own s.H t kd) 0 0 = r0 at *
  obtain ⟨ro, rH, rQ, rpk, rok, rk, re⟩ := r
  simp only at *
  subst he
  simp only [zZ, rpD] at hA hB
  have hop : opOf s.own s.H t kd = if kd = 0 then 53 else if kd = 1 then 55 else if hld s.own s.H t = 2 then 56 else 54 := rfl
  generalize opOf s.own s.H t kd = op at *
  have hW := loop_woken z9 [I' ro, I' 0, I' 0, hD b3 rH, qD b4 rQ, hD b1 [], cD b2 [], .b false, I' 0] (I' 0) (.sl 2 ln (l.map urow)) (I' l.length) (I' i) b5 rk hkl rk [] (s.got) rfl (by simp; omega)
  generalize hG2 : s.got ++ rk.map W.task = G2 at *
  subst hk
  unfold plQ
  conv => lhs; rw [ev_loop]
  conv => lhs; arg 4; unfold F_nurserylaw17_play_L1
  simp at hop
  by_cases hh1 : hld s.own s.H t = 2
  · simp [hh1] at hop
    subst hop
    cases hgo : s.got with
    | nil =>
      rw [hgo] at hW hG2
      cases G2 <;> simp [gV, gO, z9] at hW <;>
        simp [hh1, hW, r1, hlt, hgt, urow, wa, wb, hta, hkb, hHo, ev_lock, hA, hB, hnext, gV, gO, z9, V.same_self, overlay, Nat.not_succ_le_self, take_map_len, reachC, cut, rg2, rg3, rg4, List.idxOf_cons]
    | cons g0 g =>
      have hgr : g.length + 1 + 1 ≤ room := by rw [hgo] at hgl; simp at hgl; omega
      rw [hgo] at hW hG2
      cases G2 <;> simp [gV, gO, z9] at hW <;>
        simp [hh1, hW, r1, hgr, hlt, hgt, urow, wa, wb, hta, hkb, hHo, ev_lock, hA, hB, hnext, gV, gO, z9, V.same_self, overlay, Nat.not_succ_le_self, take_map_len, reachC, cut, rg2, rg3, rg4, List.idxOf_cons]
  · simp [hh1] at hop
    subst hop
    have hh2 : (hld s.own s.H t == 2) = false := by simpa using hh1
    cases hgo : s.got with
    | nil =>
      rw [hgo] at hW hG2
      cases G2 <;> simp [gV, gO, z9] at hW <;>
        simp [hh2, hW, r1, hlt, hgt, urow, wa, wb, hta, hkb, hHo, ev_lock, hA, hB, hnext, gV, gO, z9, V.same_self, overlay, Nat.not_succ_le_self, take_map_len, reachC, cut, rg2, rg3, rg4, List.idxOf_cons]
    | cons g0 g =>
      have hgr : g.length + 1 + 1 ≤ room := by rw [hgo] at hgl; simp at hgl; omega
      rw [hgo] at hW hG2
      cases G2 <;> simp [gV, gO, z9] at hW <;>
        simp [hh2, hW, r1, hgr, hlt, hgt, urow, wa, wb, hta, hkb, hHo, ev_lock, hA, hB, hnext, gV, gO, z9, V.same_self, overlay, Nat.not_succ_le_self, take_map_len, reachC, cut, rg2, rg3, rg4, List.idxOf_cons]
end Go.VS.R
namespace Go.VS.R
theorem goes {ln : Bool} {l : List (Int × Int)} {i : Nat} {a b t kd : Int} {s : PS} {hf qf bf cf : Bool} (hS : SC l i a b t kd s hf qf) : Goes ln l i s (stp s t kd) hf qf bf cf := by
  obtain ⟨n1, n2⟩ := mod4 hS.hb
  have hkb := hS.hkb
  rw [hkb] at n1 n2
  rcases (show kd = 0 ∨ kd = 1 ∨ kd = 2 ∨ kd = 3 by omega) with hk | hk | hk | hk
  · by_cases he : (rp s t kd).e = 0
    · cases hp : (rp s t kd).parked
      · exact play_ok0n ln l i a b t kd s hf qf bf cf hS hk he hp
      · exact play_ok0p ln l i a b t kd s hf qf bf cf hS hk he hp
    · exact play_err0 ln l i a b t kd s hf qf bf cf hS hk he
  · by_cases he : (rp s t kd).e = 0
    · cases hp : (rp s t kd).parked
      · exact play_ok1n ln l i a b t kd s hf qf bf cf hS hk he hp
      · exact play_ok1p ln l i a b t kd s hf qf bf cf hS hk he hp
    · exact play_err1 ln l i a b t kd s hf qf bf cf hS hk he
  · by_cases he : (rp s t kd).e = 0
    · exact play_ok2 ln l i a b t kd s hf qf bf cf hS hk he
    · exact play_err2 ln l i a b t kd s hf qf bf cf hS hk he
  · by_cases he : (rp s t kd).e = 0
    · exact play_wk ln l i a b t kd s hf qf bf cf hS hk he
    · exact play_we ln l i a b t kd s hf qf bf cf hS hk he
/-- what is known of a state between steps -/
structure PI (n : Nat) (s : PS) : Prop where
  M : MV s.own s.H s.Q
  Q : s.Q.length ≤ n
  g : s.got.length ≤ 100 * n
theorem PI.step {n : Nat} {s : PS} {t kd : Int} (h : PI n s) (hn : n ≤ 40) : PI (n + 1) (stp s t kd) := by
  have h1 := stp_lenQ s t kd
  have h2 := stp_got s t kd
  have h3 := h.M.lenH
  have h4 := h.Q
  have h5 := h.g
  exact ⟨MV_stp h.M (by omega), by omega, by omega⟩
theorem loop_play (ln : Bool) (l : List (Int × Int)) (hn : l.length ≤ 40) (hu : ∀ x, x ∈ l → U8 x) : ∀ (suf pre : List (Int × Int)) (s : PS) (hf qf bf cf : Bool), l = pre ++ suf → PI pre.length s → (hf = true → s.H = []) → (qf = true → s.Q = []) →
    ∃ hf' qf' bf' cf', (hf' = true → (playS s suf).H = []) ∧ (qf' = true → (playS s suf).Q = []) ∧ ev P (plQ ln l pre.length s hf qf bf cf) = ev P (plQ ln l l.length (playS s suf) hf' qf' bf' cf') := by
  intro suf
  induction suf with
  | nil =>
    intro pre s hf qf bf cf hl hI hh hq
    refine ⟨hf, qf, bf, cf, hh, hq, ?_⟩
    have : l.length = pre.length := by simp [hl]
    rw [this]; rfl
  | cons x suf ih =>
    intro pre s hf qf bf cf hl hI hh hq
    obtain ⟨a, b⟩ := x
    have hu2 := hu (a, b) (by simp [hl])
    have hpl : pre.length < l.length := by simp [hl]
    have h5 := hI.g
    have hS : SC l pre.length a b (a.tmod 4) (b.tmod 4) s hf qf := ⟨by omega, hu2.1, hu2.2, by simp [hl], rfl, rfl, hI.M, by have := hI.Q; omega, by omega, hh, hq⟩
    obtain ⟨f1, f2, f3, f4, g1, g2, g3⟩ := goes (ln := ln) (bf := bf) (cf := cf) hS
    obtain ⟨k1, k2, k3, k4, j1, j2, j3⟩ := ih (pre ++ [(a, b)]) (stp s (a.tmod 4) (b.tmod 4)) f1 f2 f3 f4 (by simp [hl]) (by simp; exact hI.step (by omega)) g1 g2
    refine ⟨k1, k2, k3, k4, j1, j2, ?_⟩
    rw [g3]
    have e : ((pre ++ [(a, b)]).length : Int) = (pre.length : Int) + 1 := by simp
    rw [e] at j3
    exact j3
def s0 : PS := ⟨-1, [], [], []⟩
theorem PI0 : PI 0 s0 := ⟨MV_iff.2 ⟨.inl rfl, by simp [s0], List.Pairwise.nil, by simp [s0], by simp [s0], List.Pairwise.nil, rfl⟩, by simp [s0], by simp [s0]⟩
theorem PI_play : ∀ {l : List (Int × Int)} {n : Nat} {s : PS}, PI n s → n + l.length ≤ 40 → PI (n + l.length) (playS s l)
  | [], n, s, h, _ => h
  | x :: r, n, s, h, hn => by
    have := PI_play (l := r) (h.step (t := x.1.tmod 4) (kd := x.2.tmod 4) (by simp at hn; omega)) (by simp at hn; omega)
    have e : n + (x :: r).length = n + 1 + r.length := by simp; omega
    rw [e]
    exact this
theorem ev_play (ln : Bool) (l : List (Int × Int)) (hn : l.length ≤ 40) (hu : ∀ x, x ∈ l → U8 x) :
    ∃ hf qf bf cf gn, (hf = true → (playS s0 l).H = []) ∧ (qf = true → (playS s0 l).Q = []) ∧ ev P (.call nurserylaw17_play [.d (.sl 2 ln (l.map urow))] []) =
      some (.val (.tu [.d (stF (playS s0 l).own 0 0 hf (playS s0 l).H qf (playS s0 l).Q bf [] cf [] false 0), .d (hD gn (playS s0 l).got), .d (.b true)]) []) := by
  obtain ⟨hf, qf, bf, cf, h1, h2, h3⟩ := loop_play ln l hn hu l [] s0 true true true true rfl PI0 (fun _ => rfl) (fun _ => rfl)
  have hN := ev_mNew (.s [108]) 2 0 0
  have k0 : mnew 2 0 0 = 0 := by decide
  rw [k0, if_pos rfl] at hN
  have hN : ev P (.call rwlock_New [.d (.ag [.s [108], I' 2, I' 0, I' 0])] []) = some (.val (.tu [.d (.ag [I' (-1), I' 0, I' 0, .sl 1 true [], .sl 5 true [], .sl 1 true [], .sl 2 true [], .b false, I' 0]), .d (I' 0)]) []) := hN
  have hL : ev P (.loop 0 [2, 5, 6, 7, 21, 22, 23] F_nurserylaw17_play_L1 [(2, .loc 0 0 0), (5, .loc 1 0 0), (6, .d (I' 0)), (7, .d (.sl 1 true [])), (21, .d (.sl 2 ln (l.map urow))), (22, .d (I' l.length)), (23, .d (I' 0))]
      [.arrD 9 true [[I' 0, I' 0, I' 0, .sl 1 true [], .sl 5 true [], .sl 1 true [], .sl 2 true [], .b false, I' 0]], .arrD 9 true [[I' (-1), I' 0, I' 0, .sl 1 true [], .sl 5 true [], .sl 1 true [], .sl 2 true [], .b false, I' 0]]]) =
      ev P (plQ ln l l.length (playS s0 l) hf qf bf cf) := h3
  generalize playS s0 l = s at *
  obtain ⟨so, sH, sQ, sg⟩ := s
  refine ⟨hf, qf, bf, cf, sg.isEmpty, h1, h2, ?_⟩
  simp only at *
  have hE : ev P (plQ ln l l.length ⟨so, sH, sQ, sg⟩ hf qf bf cf) = some (.out (.exit 0) [(2, .loc 0 0 0), (5, .loc 1 0 0), (6, .d (I' 0)), (7, gV sg)] (.arrD 9 true [z9] :: .arrD 9 true [[I' so, I' 0, I' 0, hD hf sH, qD qf sQ, hD bf [], cD cf [], .b false, I' 0]] :: gO sg)) := by
    unfold plQ
    rw [ev_loop]
    conv => lhs; arg 4; unfold F_nurserylaw17_play_L1
    cases sg <;> simp [gV, gO, z9, reachC, cut, rg2, rg3, List.idxOf_cons]
  rw [hE] at hL
  rw [ev_call P_nurserylaw17_play rfl]
  cases sg with
  | nil =>
    simp [gV, gO, z9] at hL
    simp [F_nurserylaw17_play, ev_lock, hN, hL, overlay, reachC, cut, rg2, rg3, List.idxOf_cons]
  | cons g0 g =>
    simp [gV, gO, z9] at hL
    simp [F_nurserylaw17_play, ev_lock, hN, hL, overlay, reachC, cut, rg2, rg3, List.idxOf_cons, take_map_len]
end Go.VS.R
