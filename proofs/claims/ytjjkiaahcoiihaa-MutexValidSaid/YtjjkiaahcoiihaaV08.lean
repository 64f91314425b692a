import Derived.Test.YtjjkiaahcoiihaaV06
import Derived.Test.YtjjkiaahcoiihaaV04
import Derived.Test.YtjjkiaahcoiihaaV05
import Derived.KernelRfl
import Derived.Test.YtjjkiaahcoiihaaChecked
import Derived.Test.YtjjkiaahcoiihaaV07
set_option linter.all false
open Go.Proofs
namespace Go.VS
noncomputable def ck (f : Nat) (F : F) : Bool :=
  match Try.prog.funcs[f]? with
  | some fn => !(fn.name == "runtime.NumGoroutine") && (match fn.body with | some c => chkC Try.prog (fun n => n) fn.ntmps c F.code && chkR Try.prog fn.results.toList F.res | none => false)
  | none => false
theorem ok_nurserylaw16_MutexExclusive : ck 3 F_nurserylaw16_MutexExclusive = true := by kernel_rfl
theorem ok_nurserylaw16_MutexHandover : ck 4 F_nurserylaw16_MutexHandover = true := by kernel_rfl
theorem ok_nurserylaw16_MutexApply : ck 5 F_nurserylaw16_MutexApply = true := by kernel_rfl
theorem ok_nurserylaw16_MutexStates : ck 6 F_nurserylaw16_MutexStates = true := by kernel_rfl
theorem ok_nurserylaw16_MutexServes : ck 7 F_nurserylaw16_MutexServes = true := by kernel_rfl
theorem ok_nurserylaw16_MutexWithdraw : ck 8 F_nurserylaw16_MutexWithdraw = true := by kernel_rfl
theorem ok_nurserylaw16_MutexValid : ck 10 F_nurserylaw16_MutexValid = true := by kernel_rfl
theorem ok_mutex_New : ck 11 F_mutex_New = true := by kernel_rfl
theorem ok_nurserylaw16_object : ck 12 F_nurserylaw16_object = true := by kernel_rfl
theorem ok_nurserylaw16_awake : ck 13 F_nurserylaw16_awake = true := by kernel_rfl
theorem ok_mutex_Apply : ck 14 F_mutex_Apply = true := by kernel_rfl
theorem ok_nurseryref16_Great : ck 15 F_nurseryref16_Great = true := by kernel_rfl
theorem ok_mutex_Check : ck 16 F_mutex_Check = true := by kernel_rfl
theorem ok_nurseryref16_SameWaiters : ck 17 F_nurseryref16_SameWaiters = true := by kernel_rfl
theorem ok_nurseryref16_Without : ck 18 F_nurseryref16_Without = true := by kernel_rfl
theorem ok_nurseryref16_Apply : ck 19 F_nurseryref16_Apply = true := by kernel_rfl
theorem ok_nurseryref16_SameReply : ck 20 F_nurseryref16_SameReply = true := by kernel_rfl
theorem ok_mutex_Ready : ck 21 F_mutex_Ready = true := by kernel_rfl
theorem ok_nurseryref16_Ready : ck 22 F_nurseryref16_Ready = true := by kernel_rfl
theorem ok_nurseryref16_New : ck 23 F_nurseryref16_New = true := by kernel_rfl
theorem ok_mutex_Holder : ck 24 F_mutex_Holder = true := by kernel_rfl
theorem ok_nurseryref16_Holder : ck 25 F_nurseryref16_Holder = true := by kernel_rfl
theorem ok_nurseryref16_Same : ck 26 F_nurseryref16_Same = true := by kernel_rfl
theorem ok_nurseryref16_Check : ck 27 F_nurseryref16_Check = true := by kernel_rfl
theorem ok_nurseryref04_SameInts : ck 28 F_nurseryref04_SameInts = true := by kernel_rfl
theorem ok_mutex_Withdraw : ck 29 F_mutex_Withdraw = true := by kernel_rfl
theorem ok_nurseryref16_Withdraw : ck 30 F_nurseryref16_Withdraw = true := by kernel_rfl
theorem ok_nurserylaw16_lock : ck 31 F_nurserylaw16_lock = true := by kernel_rfl
theorem ok_mutex_operations : ck 32 F_mutex_operations = true := by kernel_rfl
theorem ok_mutex_isTask : ck 33 F_mutex_isTask = true := by kernel_rfl
theorem ok_mutex_waits : ck 34 F_mutex_waits = true := by kernel_rfl
theorem ok_mutex_valid : ck 35 F_mutex_valid = true := by kernel_rfl
theorem ok_nurseryref16_Task : ck 36 F_nurseryref16_Task = true := by kernel_rfl
theorem ok_nurseryref16_Waits : ck 37 F_nurseryref16_Waits = true := by kernel_rfl
theorem ok_nurseryref16_lock : ck 38 F_nurseryref16_lock = true := by kernel_rfl
theorem ok_nurseryref16_sameCursors : ck 39 F_nurseryref16_sameCursors = true := by kernel_rfl
theorem ok_nurseryref16_queue : ck 40 F_nurseryref16_queue = true := by kernel_rfl
theorem ok_waitlist_Remove : ck 41 F_waitlist_Remove = true := by kernel_rfl
theorem ok_mutex_lock : ck 42 F_mutex_lock = true := by kernel_rfl
theorem ok_mutex_operationsC1 : ck 43 F_mutex_operationsC1 = true := by kernel_rfl
theorem ok_mutex_unlock : ck 44 F_mutex_unlock = true := by kernel_rfl
theorem ok_slices_ContainsFunc_api_Waiter_api_Waiter : ck 45 F_slices_ContainsFunc_api_Waiter_api_Waiter = true := by kernel_rfl
theorem ok_mutex_waitsC1 : ck 46 F_mutex_waitsC1 = true := by kernel_rfl
theorem ok_waitlist_Check : ck 47 F_waitlist_Check = true := by kernel_rfl
theorem ok_mutex_validC1 : ck 48 F_mutex_validC1 = true := by kernel_rfl
theorem ok_waitlist_filter : ck 49 F_waitlist_filter = true := by kernel_rfl
theorem ok_waitlist_RemoveC1 : ck 50 F_waitlist_RemoveC1 = true := by kernel_rfl
theorem ok_slices_BinarySearchFunc_api_Waiter_api_Waiter_int : ck 51 F_slices_BinarySearchFunc_api_Waiter_api_Waiter_int = true := by kernel_rfl
theorem ok_mutex_lockC1 : ck 52 F_mutex_lockC1 = true := by kernel_rfl
theorem ok_cmp_Compare_int : ck 53 F_cmp_Compare_int = true := by kernel_rfl
theorem ok_slices_Clone_api_Waiter_api_Waiter : ck 55 F_slices_Clone_api_Waiter_api_Waiter = true := by kernel_rfl
theorem ok_slices_IndexFunc_api_Waiter_api_Waiter : ck 56 F_slices_IndexFunc_api_Waiter_api_Waiter = true := by kernel_rfl
theorem ok_waitlist_valid : ck 57 F_waitlist_valid = true := by kernel_rfl
theorem ok_cmp_isNaN_int : ck 58 F_cmp_isNaN_int = true := by kernel_rfl
theorem ok_slices_rotateRight_api_Waiter : ck 60 F_slices_rotateRight_api_Waiter = true := by kernel_rfl
theorem ok_slices_rotateLeft_api_Waiter : ck 61 F_slices_rotateLeft_api_Waiter = true := by kernel_rfl
theorem ok_slices_Reverse_api_Waiter_api_Waiter : ck 62 F_slices_Reverse_api_Waiter_api_Waiter = true := by kernel_rfl
theorem okR_slices_Insert_api_Waiter_api_Waiter : ck 54 R_slices_Insert_api_Waiter_api_Waiter = true := by kernel_rfl
theorem code_of_ck {f : Nat} {F : F} (h : ck f F = true) : FnCode Try.prog (fun n => n) f F := by
  unfold ck at h
  split at h
  · rename_i fn hf
    split at h
    · rename_i c hc
      simp only [Bool.and_eq_true, Bool.not_eq_true'] at h
      exact ⟨fn, c, hf, h.1, hc, h.2.1, h.2.2⟩
    · simp at h
  · cases h
theorem mixed : Try.prog.follows .mixedOrders = true := by kernel_rfl
theorem laid : laidOutB Try.prog = true := by kernel_rfl
theorem hF : ∀ f F, P f = some F → FnOk Try.prog (fun n => n) f F := by
  intro f F h
  unfold P at h
  split at h
  · cases h; exact .inl ⟨rfl, code_of_ck ok_nurserylaw16_MutexExclusive⟩
  · cases h; exact .inl ⟨rfl, code_of_ck ok_nurserylaw16_MutexHandover⟩
  · cases h; exact .inl ⟨rfl, code_of_ck ok_nurserylaw16_MutexApply⟩
  · cases h; exact .inl ⟨rfl, code_of_ck ok_nurserylaw16_MutexStates⟩
  · cases h; exact .inl ⟨rfl, code_of_ck ok_nurserylaw16_MutexServes⟩
  · cases h; exact .inl ⟨rfl, code_of_ck ok_nurserylaw16_MutexWithdraw⟩
  · cases h; exact .inl ⟨rfl, code_of_ck ok_nurserylaw16_MutexValid⟩
  · cases h; exact .inl ⟨rfl, code_of_ck ok_mutex_New⟩
  · cases h; exact .inl ⟨rfl, code_of_ck ok_nurserylaw16_object⟩
  · cases h; exact .inl ⟨rfl, code_of_ck ok_nurserylaw16_awake⟩
  · cases h; exact .inl ⟨rfl, code_of_ck ok_mutex_Apply⟩
  · cases h; exact .inl ⟨rfl, code_of_ck ok_nurseryref16_Great⟩
  · cases h; exact .inl ⟨rfl, code_of_ck ok_mutex_Check⟩
  · cases h; exact .inl ⟨rfl, code_of_ck ok_nurseryref16_SameWaiters⟩
  · cases h; exact .inl ⟨rfl, code_of_ck ok_nurseryref16_Without⟩
  · cases h; exact .inl ⟨rfl, code_of_ck ok_nurseryref16_Apply⟩
  · cases h; exact .inl ⟨rfl, code_of_ck ok_nurseryref16_SameReply⟩
  · cases h; exact .inl ⟨rfl, code_of_ck ok_mutex_Ready⟩
  · cases h; exact .inl ⟨rfl, code_of_ck ok_nurseryref16_Ready⟩
  · cases h; exact .inl ⟨rfl, code_of_ck ok_nurseryref16_New⟩
  · cases h; exact .inl ⟨rfl, code_of_ck ok_mutex_Holder⟩
  · cases h; exact .inl ⟨rfl, code_of_ck ok_nurseryref16_Holder⟩
  · cases h; exact .inl ⟨rfl, code_of_ck ok_nurseryref16_Same⟩
  · cases h; exact .inl ⟨rfl, code_of_ck ok_nurseryref16_Check⟩
  · cases h; exact .inl ⟨rfl, code_of_ck ok_nurseryref04_SameInts⟩
  · cases h; exact .inl ⟨rfl, code_of_ck ok_mutex_Withdraw⟩
  · cases h; exact .inl ⟨rfl, code_of_ck ok_nurseryref16_Withdraw⟩
  · cases h; exact .inl ⟨rfl, code_of_ck ok_nurserylaw16_lock⟩
  · cases h; exact .inl ⟨rfl, code_of_ck ok_mutex_operations⟩
  · cases h; exact .inl ⟨rfl, code_of_ck ok_mutex_isTask⟩
  · cases h; exact .inl ⟨rfl, code_of_ck ok_mutex_waits⟩
  · cases h; exact .inl ⟨rfl, code_of_ck ok_mutex_valid⟩
  · cases h; exact .inl ⟨rfl, code_of_ck ok_nurseryref16_Task⟩
  · cases h; exact .inl ⟨rfl, code_of_ck ok_nurseryref16_Waits⟩
  · cases h; exact .inl ⟨rfl, code_of_ck ok_nurseryref16_lock⟩
  · cases h; exact .inl ⟨rfl, code_of_ck ok_nurseryref16_sameCursors⟩
  · cases h; exact .inl ⟨rfl, code_of_ck ok_nurseryref16_queue⟩
  · cases h; exact .inl ⟨rfl, code_of_ck ok_waitlist_Remove⟩
  · cases h; exact .inl ⟨rfl, code_of_ck ok_mutex_lock⟩
  · cases h; exact .inl ⟨rfl, code_of_ck ok_mutex_operationsC1⟩
  · cases h; exact .inl ⟨rfl, code_of_ck ok_mutex_unlock⟩
  · cases h; exact .inl ⟨rfl, code_of_ck ok_slices_ContainsFunc_api_Waiter_api_Waiter⟩
  · cases h; exact .inl ⟨rfl, code_of_ck ok_mutex_waitsC1⟩
  · cases h; exact .inl ⟨rfl, code_of_ck ok_waitlist_Check⟩
  · cases h; exact .inl ⟨rfl, code_of_ck ok_mutex_validC1⟩
  · cases h; exact .inl ⟨rfl, code_of_ck ok_waitlist_filter⟩
  · cases h; exact .inl ⟨rfl, code_of_ck ok_waitlist_RemoveC1⟩
  · cases h; exact .inl ⟨rfl, code_of_ck ok_slices_BinarySearchFunc_api_Waiter_api_Waiter_int⟩
  · cases h; exact .inl ⟨rfl, code_of_ck ok_mutex_lockC1⟩
  · cases h; exact .inl ⟨rfl, code_of_ck ok_cmp_Compare_int⟩
  · cases h; exact .inl ⟨rfl, code_of_ck ok_slices_Clone_api_Waiter_api_Waiter⟩
  · cases h; exact .inl ⟨rfl, code_of_ck ok_slices_IndexFunc_api_Waiter_api_Waiter⟩
  · cases h; exact .inl ⟨rfl, code_of_ck ok_waitlist_valid⟩
  · cases h; exact .inl ⟨rfl, code_of_ck ok_cmp_isNaN_int⟩
  · cases h; exact .inl ⟨rfl, code_of_ck ok_slices_rotateRight_api_Waiter⟩
  · cases h; exact .inl ⟨rfl, code_of_ck ok_slices_rotateLeft_api_Waiter⟩
  · cases h; exact .inl ⟨rfl, code_of_ck ok_slices_Reverse_api_Waiter_api_Waiter⟩
  · cases h; exact .inr ⟨_, rfl, ins_ok mixed (code_of_ck okR_slices_Insert_api_Waiter_api_Waiter) rfl rfl rfl (by decide)⟩
  · cases h
end Go.VS
namespace Go.VS.M
abbrev tI : Ty := .i .i64
def tW : Ty := .st [tI, tI, tI, tI, tI]
def tCur : Ty := .st [tI, .sl 1 tI]
def tS : Ty := .st [tI, tI, tI, .sl 1 tI, .sl 5 tW, .sl 1 tI, .sl 2 tCur, .b, tI]
def tO : Ty := .st [.s, tI, tI, tI]
def tC : Ty := .st [tI, tI, tI, tI, tI]
theorem wt_i {cs : List D} (h : WT tI cs) : ∃ n, cs = [I' n] := by
  simp only [tI, WT] at h
  obtain ⟨n, rfl, _⟩ := h
  exact ⟨n, rfl⟩
theorem ints_of {rows : List (List D)} (h : ∀ r ∈ rows, WT tI r) : ∃ hs : List Int, rows = rows1 hs := by
  induction rows with
  | nil => exact ⟨[], rfl⟩
  | cons r rs ih =>
    obtain ⟨n, rfl⟩ := wt_i (h r (by simp))
    obtain ⟨hs, rfl⟩ := ih fun x hx => h x (by simp [hx])
    exact ⟨n :: hs, rfl⟩
theorem five_of {cs : List D} (h : WTs [tI, tI, tI, tI, tI] cs) : ∃ a b c d e, cs = [I' a, I' b, I' c, I' d, I' e] := by
  simp only [WTs] at h
  obtain ⟨_, _, rfl, h1, _, _, rfl, h2, _, _, rfl, h3, _, _, rfl, h4, _, _, rfl, h5, rfl⟩ := h
  obtain ⟨a, rfl⟩ := wt_i h1
  obtain ⟨b, rfl⟩ := wt_i h2
  obtain ⟨c, rfl⟩ := wt_i h3
  obtain ⟨d, rfl⟩ := wt_i h4
  obtain ⟨e, rfl⟩ := wt_i h5
  exact ⟨a, b, c, d, e, rfl⟩
theorem waiters_of {rows : List (List D)} (h : ∀ r ∈ rows, WT tW r) : ∃ q : List W, rows = q.map W.row := by
  induction rows with
  | nil => exact ⟨[], rfl⟩
  | cons r rs ih =>
    have h1 := h r (by simp)
    simp only [tW, WT] at h1
    obtain ⟨a, b, c, d, e, rfl⟩ := five_of h1
    obtain ⟨q, rfl⟩ := ih fun x hx => h x (by simp [hx])
    exact ⟨⟨a, b, c, d, e⟩ :: q, rfl⟩
theorem wt_sl {es : Nat} {t : Ty} {cs : List D} (h : WT (.sl es t) cs) : ∃ nl rows, cs = [.sl es nl rows] ∧ (nl = true → rows = []) ∧ ∀ r ∈ rows, WT t r := by
  simp only [WT] at h
  obtain ⟨nl, rows, rfl, h1, _, h2⟩ := h
  exact ⟨nl, rows, rfl, h1, h2⟩
theorem state_of {s : D} (h : WV tS s) : Nonempty (IsState s) := by
  simp only [tS, WV] at h
  obtain ⟨cs, rfl, h⟩ := h
  simp only [WTs] at h
  obtain ⟨_, _, rfl, h1, _, _, rfl, h2, _, _, rfl, h3, _, _, rfl, h4, _, _, rfl, h5, _, _, rfl, h6, _, _, rfl, h7, _, _, rfl, h8, _, _, rfl, h9, rfl⟩ := h
  obtain ⟨own, rfl⟩ := wt_i h1
  obtain ⟨cnt, rfl⟩ := wt_i h2
  obtain ⟨time, rfl⟩ := wt_i h3
  obtain ⟨hn, r4, rfl, _, k4⟩ := wt_sl h4
  obtain ⟨hs, rfl⟩ := ints_of k4
  obtain ⟨qn, r5, rfl, n5, k5⟩ := wt_sl h5
  obtain ⟨q, rfl⟩ := waiters_of k5
  obtain ⟨bn, r6, rfl, _, k6⟩ := wt_sl h6
  obtain ⟨bs, rfl⟩ := ints_of k6
  obtain ⟨cn, cs, rfl, _, k7⟩ := wt_sl h7
  simp only [WT] at h8
  obtain ⟨cl, rfl⟩ := h8
  obtain ⟨val, rfl⟩ := wt_i h9
  refine ⟨⟨own, cnt, time, hn, hs, qn, q, bn, bs, cn, cs, cl, val, rfl, ?_, fun h => List.map_eq_nil_iff.1 (n5 h)⟩⟩
  intro c hc
  have h1 := k7 c hc
  simp only [tCur, WT, WTs] at h1
  obtain ⟨_, _, rfl, ⟨n, rfl, _⟩, _, _, rfl, ⟨nb, r, rfl, _⟩, rfl⟩ := h1
  exact ⟨n, nb, r, rfl⟩
theorem object_of {s : D} (h : WV tO s) : ∃ nm k sz ot, s = .ag [nm, I' k, I' sz, I' ot] := by
  simp only [tO, WV, WTs] at h
  obtain ⟨cs, rfl, _, _, rfl, h1, _, _, rfl, h2, _, _, rfl, h3, _, _, rfl, h4, rfl⟩ := h
  simp only [WT] at h1
  obtain ⟨nm, rfl, _⟩ := h1
  obtain ⟨a, rfl⟩ := wt_i h2
  obtain ⟨b, rfl⟩ := wt_i h3
  obtain ⟨c, rfl⟩ := wt_i h4
  exact ⟨_, a, b, c, rfl⟩
theorem call_of {s : D} (h : WV tC s) : ∃ a b c d e, s = .ag [I' a, I' b, I' c, I' d, I' e] := by
  simp only [tC, WV] at h
  obtain ⟨cs, rfl, h⟩ := h
  obtain ⟨a, b, c, d, e, rfl⟩ := five_of h
  exact ⟨a, b, c, d, e, rfl⟩
theorem l_States (xs : List D) (h : WVs [tO, tS] xs) : ev P (.call nurserylaw16_MutexStates (xs.map V.d) []) = some (.val (.d (.b true)) []) := by
  simp only [WVs] at h
  obtain ⟨o, _, rfl, ho, s, _, rfl, hs, rfl⟩ := h
  obtain ⟨nm, k, sz, ot, rfl⟩ := object_of ho
  obtain ⟨S⟩ := state_of hs
  exact law_States nm k sz ot S
theorem l_Apply (xs : List D) (h : WVs [tO, tS, tC] xs) : ev P (.call nurserylaw16_MutexApply (xs.map V.d) []) = some (.val (.d (.b true)) []) := by
  simp only [WVs] at h
  obtain ⟨o, _, rfl, ho, s, _, rfl, hs, c, _, rfl, hc, rfl⟩ := h
  obtain ⟨nm, k, sz, ot, rfl⟩ := object_of ho
  obtain ⟨S⟩ := state_of hs
  obtain ⟨a, b, c, d, e, rfl⟩ := call_of hc
  exact law_Apply nm k sz ot S a b c d e
theorem l_Withdraw (xs : List D) (h : WVs [tO, tS, tI] xs) : ev P (.call nurserylaw16_MutexWithdraw (xs.map V.d) []) = some (.val (.d (.b true)) []) := by
  simp only [WVs] at h
  obtain ⟨o, _, rfl, ho, s, _, rfl, hs, c, _, rfl, hc, rfl⟩ := h
  obtain ⟨nm, k, sz, ot, rfl⟩ := object_of ho
  obtain ⟨S⟩ := state_of hs
  simp only [WV] at hc
  obtain ⟨n, hn⟩ := wt_i hc
  obtain rfl : c = I' n := by simpa using hn
  exact law_Withdraw nm k sz ot S n
theorem l_Handover (xs : List D) (h : WVs [tS] xs) : ev P (.call nurserylaw16_MutexHandover (xs.map V.d) []) = some (.val (.d (.b true)) []) := by
  simp only [WVs] at h
  obtain ⟨s, _, rfl, hs, rfl⟩ := h
  obtain ⟨S⟩ := state_of hs
  exact law_Handover S
theorem l_Serves (xs : List D) (h : WVs [tS] xs) : ev P (.call nurserylaw16_MutexServes (xs.map V.d) []) = some (.val (.d (.b true)) []) := by
  simp only [WVs] at h
  obtain ⟨s, _, rfl, hs, rfl⟩ := h
  obtain ⟨S⟩ := state_of hs
  exact law_Serves S
theorem l_Valid (xs : List D) (h : WVs [tS, tC, tI] xs) : ev P (.call nurserylaw16_MutexValid (xs.map V.d) []) = some (.val (.d (.b true)) []) := by
  simp only [WVs] at h
  obtain ⟨s, _, rfl, hs, c, _, rfl, hc, n, _, rfl, hn, rfl⟩ := h
  obtain ⟨S⟩ := state_of hs
  obtain ⟨a, b, c, d, e, rfl⟩ := call_of hc
  simp only [WV] at hn
  obtain ⟨k, hk⟩ := wt_i hn
  obtain rfl : n = I' k := by simpa using hk
  exact law_Valid S a b c d e k
end Go.VS.M
