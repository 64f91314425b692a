import Derived.Test.YtjjkiaahcoiihaaV06
import Derived.Test.YtjjkiaahcoiihaaV04
import Derived.Test.YtjjkiaahcoiihaaV05
import Derived.KernelRfl
import Derived.Test.YtjjkiaahcoiihaaChecked
import Derived.Test.YtjjkiaahcoiihaaV07
set_option linter.all false
open Go.Proofs
namespace Go.VS
noncomputable def ck (f : Nat) (F : F) : Bool :=
  match Try.prog.funcs[f]? with
  | some fn => !(fn.name == "runtime.NumGoroutine") && (match fn.body with | some c => chkC Try.prog (fun n => n) fn.ntmps c F.code && chkR Try.prog fn.results.toList F.res | none => false)
  | none => false
theorem ok_nurserylaw16_MutexExclusive : ck 3 F_nurserylaw16_MutexExclusive = true := by kernel_rfl
theorem ok_nurserylaw16_MutexHandover : ck 4 F_nurserylaw16_MutexHandover = true := by kernel_rfl
theorem ok_nurserylaw16_MutexApply : ck 5 F_nurserylaw16_MutexApply = true := by kernel_rfl
theorem ok_nurserylaw16_MutexStates : ck 6 F_nurserylaw16_MutexStates = true := by kernel_rfl
theorem ok_nurserylaw16_MutexServes : ck 7 F_nurserylaw16_MutexServes = true := by kernel_rfl
theorem ok_nurserylaw16_MutexWithdraw : ck 8 F_nurserylaw16_MutexWithdraw = true := by kernel_rfl
theorem ok_nurserylaw16_MutexValid : ck 10 F_nurserylaw16_MutexValid = true := by kernel_rfl
theorem ok_mutex_New : ck 11 F_mutex_New = true := by kernel_rfl
theorem ok_nurserylaw16_object : ck 12 F_nurserylaw16_object = true := by kernel_rfl
theorem ok_nurserylaw16_awake : ck 13 F_nurserylaw16_awake = true := by kernel_rfl
theorem ok_mutex_Apply : ck 14 F_mutex_Apply = true := by kernel_rfl
theorem ok_nurseryref16_Great : ck 15 F_nurseryref16_Great = true := by kernel_rfl
theorem ok_mutex_Check : ck 16 F_mutex_Check = true := by kernel_rfl
theorem ok_nurseryref16_SameWaiters : ck 17 F_nurseryref16_SameWaiters = true := by kernel_rfl
theorem ok_nurseryref16_Without : ck 18 F_nurseryref16_Without = true := by kernel_rfl
theorem ok_nurseryref16_Apply : ck 19 F_nurseryref16_Apply = true := by kernel_rfl
theorem ok_nurseryref16_SameReply : ck 20 F_nurseryref16_SameReply = true := by kernel_rfl
theorem ok_mutex_Ready : ck 21 F_mutex_Ready = true := by kernel_rfl
theorem ok_nurseryref16_Ready : ck 22 F_nurseryref16_Ready = true := by kernel_rfl
theorem ok_nurseryref16_New : ck 23 F_nurseryref16_New = true := by kernel_rfl
theorem ok_mutex_Holder : ck 24 F_mutex_Holder = true := by kernel_rfl
theorem ok_nurseryref16_Holder : ck 25 F_nurseryref16_Holder = true := by kernel_rfl
theorem ok_nurseryref16_Same : ck 26 F_nurseryref16_Same = true := by kernel_rfl
theorem ok_nurseryref16_Check : ck 27 F_nurseryref16_Check = true := by kernel_rfl
theorem ok_nurseryref04_SameInts : ck 28 F_nurseryref04_SameInts = true := by kernel_rfl
theorem ok_mutex_Withdraw : ck 29 F_mutex_Withdraw = true := by kernel_rfl
theorem ok_nurseryref16_Withdraw : ck 30 F_nurseryref16_Withdraw = true := by kernel_rfl
theorem ok_nurserylaw16_lock : ck 31 F_nurserylaw16_lock = true := by kernel_rfl
theorem ok_mutex_operations : ck 32 F_mutex_operations = true := by kernel_rfl
theorem ok_mutex_isTask : ck 33 F_mutex_isTask = true := by kernel_rfl
theorem ok_mutex_waits : ck 34 F_mutex_waits = true := by kernel_rfl
theorem ok_mutex_valid : ck 35 F_mutex_valid = true := by kernel_rfl
theorem ok_nurseryref16_Task : ck 36 F_nurseryref16_Task = true := by kernel_rfl
theorem ok_nurseryref16_Waits : ck 37 F_nurseryref16_Waits = true := by kernel_rfl
theorem ok_nurseryref16_lock : ck 38 F_nurseryref16_lock = true := by kernel_rfl
theorem ok_nurseryref16_sameCursors : ck 39 F_nurseryref16_sameCursors = true := by kernel_rfl
theorem ok_nurseryref16_queue : ck 40 F_nurseryref16_queue = true := by kernel_rfl
theorem ok_waitlist_Remove : ck 41 F_waitlist_Remove = true := by kernel_rfl
theorem ok_mutex_lock : ck 42 F_mutex_lock = true := by kernel_rfl
theorem ok_mutex_operationsC1 : ck 43 F_mutex_operationsC1 = true := by kernel_rfl
theorem ok_mutex_unlock : ck 44 F_mutex_unlock = true := by kernel_rfl
theorem ok_slices_ContainsFunc_api_Waiter_api_Waiter : ck 45 F_slices_ContainsFunc_api_Waiter_api_Waiter = true := by kernel_rfl
theorem ok_mutex_waitsC1 : ck 46 F_mutex_waitsC1 = true := by kernel_rfl
theorem ok_waitlist_Check : ck 47 F_waitlist_Check = true := by kernel_rfl
theorem ok_mutex_validC1 : ck 48 F_mutex_validC1 = true := by kernel_rfl
theorem ok_waitlist_filter : ck 49 F_waitlist_filter = true := by kernel_rfl
theorem ok_waitlist_RemoveC1 : ck 50 F_waitlist_RemoveC1 = true := by kernel_rfl
theorem ok_slices_BinarySearchFunc_api_Waiter_api_Waiter_int : ck 51 F_slices_BinarySearchFunc_api_Waiter_api_Waiter_int = true := by kernel_rfl
theorem ok_mutex_lockC1 : ck 52 F_mutex_lockC1 = true := by kernel_rfl
theorem ok_cmp_Compare_int : ck 53 F_cmp_Compare_int = true := by kernel_rfl
theorem ok_slices_Clone_api_Waiter_api_Waiter : ck 55 F_slices_Clone_api_Waiter_api_Waiter = true := by kernel_rfl
theorem ok_slices_IndexFunc_api_Waiter_api_Waiter : ck 56 F_slices_IndexFunc_api_Waiter_api_Waiter = true := by kernel_rfl
theorem ok_waitlist_valid : ck 57 F_waitlist_valid = true := by kernel_rfl
theorem ok_cmp_isNaN_int : ck 58 F_cmp_isNaN_int = true := by kernel_rfl
theorem ok_slices_rotateRight_api_Waiter : ck 60 F_slices_rotateRight_api_Waiter = true := by kernel_rfl
theorem ok_slices_rotateLeft_api_Waiter : ck 61 F_slices_rotateLeft_api_Waiter = true := by kernel_rfl
theorem ok_slices_Reverse_api_Waiter_api_Waiter : ck 62 F_slices_Reverse_api_Waiter_api_Waiter = true := by kernel_rfl
theorem okR_slices_Insert_api_Waiter_api_Waiter : ck 54 R_slices_Insert_api_Waiter_api_Waiter = true := by kernel_rfl
theorem code_of_ck {f : Nat} {F : F} (h : ck f F = true) : FnCode Try.prog (fun n => n) f F := by
  unfold ck at h
  split at h
  · rename_i fn hf
    split at h
    · rename_i c hc
      simp only [Bool.and_eq_true, Bool.not_eq_true'] at h
      exact ⟨fn, c, hf, h.1, hc, h.2.1, h.2.2⟩
    · simp at h
  · cases h
theorem mixed : Try.prog.follows .mixedOrders = true := by kernel_rfl
theorem laid : laidOutB Try.prog = true := by kernel_rfl
theorem hF : ∀ f F, P f = some F → FnOk Try.prog (fun n => n) f F := by
  intro f F h
  unfold P at h
  split at h
  · cases h; exact .inl ⟨rfl, code_of_ck ok_nurserylaw16_MutexExclusive⟩
  · cases h; exact .inl ⟨rfl, code_of_ck ok_nurserylaw16_MutexHandover⟩
  · cases h; exact .inl ⟨rfl, code_of_ck ok_nurserylaw16_MutexApply⟩
  · cases h; exact .inl ⟨rfl, code_of_ck ok_nurserylaw16_MutexStates⟩
  · cases h; exact .inl ⟨rfl, code_of_ck ok_nurserylaw16_MutexServes⟩
  · cases h; exact .inl ⟨rfl, code_of_ck ok_nurserylaw16_MutexWithdraw⟩
  · cases h; exact .inl ⟨rfl, code_of_ck ok_nurserylaw16_MutexValid⟩
  · cases h; exact .inl ⟨rfl, code_of_ck ok_mutex_New⟩
  · cases h; exact .inl ⟨rfl, code_of_ck ok_nurserylaw16_object⟩
  · cases h; exact .inl ⟨rfl, code_of_ck ok_nurserylaw16_awake⟩
  · cases h; exact .inl ⟨rfl, code_of_ck ok_mutex_Apply⟩
  · cases h; exact .inl ⟨rfl, code_of_ck ok_nurseryref16_Great⟩
  · cases h; exact .inl ⟨rfl, code_of_ck ok_mutex_Check⟩
  · cases h; exact .inl ⟨rfl, code_of_ck ok_nurseryref16_SameWaiters⟩
  · cases h; exact .inl ⟨rfl, code_of_ck ok_nurseryref16_Without⟩
  · cases h; exact .inl ⟨rfl, code_of_ck ok_nurseryref16_Apply⟩
  · cases h; exact .inl ⟨rfl, code_of_ck ok_nurseryref16_SameReply⟩
  · cases h; exact .inl ⟨rfl, code_of_ck ok_mutex_Ready⟩
  · cases h; exact .inl ⟨rfl, code_of_ck ok_nurseryref16_Ready⟩
  · cases h; exact .inl ⟨rfl, code_of_ck ok_nurseryref16_New⟩
  · cases h; exact .inl ⟨rfl, code_of_ck ok_mutex_Holder⟩
  · cases h; exact .inl ⟨rfl, code_of_ck ok_nurseryref16_Holder⟩
  · cases h; exact .inl ⟨rfl, code_of_ck ok_nurseryref16_Same⟩
  · cases h; exact .inl ⟨rfl, code_of_ck ok_nurseryref16_Check⟩
  · cases h; exact .inl ⟨rfl, code_of_ck ok_nurseryref04_SameInts⟩
  · cases h; exact .inl ⟨rfl, code_of_ck ok_mutex_Withdraw⟩
  · cases h; exact .inl ⟨rfl, code_of_ck ok_nurseryref16_Withdraw⟩
  · cases h; exact .inl ⟨rfl, code_of_ck ok_nurserylaw16_lock⟩
  · cases h; exact .inl ⟨rfl, code_of_ck ok_mutex_operations⟩
  · cases h; exact .inl ⟨rfl, code_of_ck ok_mutex_isTask⟩
  · cases h; exact .inl ⟨rfl, code_of_ck ok_mutex_waits⟩
  · cases h; exact .inl ⟨rfl, code_of_ck ok_mutex_valid⟩
  · cases h; exact .inl ⟨rfl, code_of_ck ok_nurseryref16_Task⟩
  · cases h; exact .inl ⟨rfl, code_of_ck ok_nurseryref16_Waits⟩
  · cases h; exact .inl ⟨rfl, code_of_ck ok_nurseryref16_lock⟩
  · cases h; exact .inl ⟨rfl, code_of_ck ok_nurseryref16_sameCursors⟩
  · cases h; exact .inl ⟨rfl, code_of_ck ok_nurseryref16_queue⟩
  · cases h; exact .inl ⟨rfl, code_of_ck ok_waitlist_Remove⟩
  · cases h; exact .inl ⟨rfl, code_of_ck ok_mutex_lock⟩
  · cases h; exact .inl ⟨rfl, code_of_ck ok_mutex_operationsC1⟩
  · cases h; exact .inl ⟨rfl, code_of_ck ok_mutex_unlock⟩
  · cases h; exact .inl ⟨rfl, code_of_ck ok_slices_ContainsFunc_api_Waiter_api_Waiter⟩
  · cases h; exact .inl ⟨rfl, code_of_ck ok_mutex_waitsC1⟩
  · cases h; exact .inl ⟨rfl, code_of_ck ok_waitlist_Check⟩
  · cases h; exact .inl ⟨rfl, code_of_ck ok_mutex_validC1⟩
  · cases h; exact .inl ⟨rfl, code_of_ck ok_waitlist_filter⟩
  · cases h; exact .inl ⟨rfl, code_of_ck ok_waitlist_RemoveC1⟩
  · cases h; exact .inl ⟨rfl, code_of_ck ok_slices_BinarySearchFunc_api_Waiter_api_Waiter_int⟩
  · cases h; exact .inl ⟨rfl, code_of_ck ok_mutex_lockC1⟩
  · cases h; exact .inl ⟨rfl, code_of_ck ok_cmp_Compare_int⟩
  · cases h; exact .inl ⟨rfl, code_of_ck ok_slices_Clone_api_Waiter_api_Waiter⟩
  · cases h; exact .inl ⟨rfl, code_of_ck ok_slices_IndexFunc_api_Waiter_api_Waiter⟩
  · cases h; exact .inl ⟨rfl, code_of_ck ok_waitlist_valid⟩
  · cases h; exact .inl ⟨rfl, code_of_ck ok_cmp_isNaN_int⟩
  · cases h; exact .inl ⟨rfl, code_of_ck ok_slices_rotateRight_api_Waiter⟩
  · cases h; exact .inl ⟨rfl, code_of_ck ok_slices_rotateLeft_api_Waiter⟩
  · cases h; exact .inl ⟨rfl, code_of_ck ok_slices_Reverse_api_Waiter_api_Waiter⟩
  · cases h; exact .inr ⟨_, rfl, ins_ok mixed (code_of_ck okR_slices_Insert_api_Waiter_api_Waiter) rfl rfl rfl (by decide)⟩
  · cases h
end Go.VS
namespace Go.VS.M
abbrev tI : Ty := .i .i64
def tW : Ty := .st [tI, tI, tI, tI, tI]
def tCur : Ty := .st [tI, .sl 1 tI]
def tS : Ty := .st [tI, tI, tI, .sl 1 tI, .sl 5 tW, .sl 1 tI, .sl 2 tCur, .b, tI]
def tO : Ty := .st [.s, tI, tI, tI]
def tC : Ty := .st [tI, tI, tI, tI, tI]
theorem wt_i {cs : List D} (h : WT tI cs) : ∃ n, cs = [I' n] := by
  simp only [tI, WT] at h
  obtain ⟨n, rfl, _⟩ := h
  exact ⟨n, rfl⟩
theorem ints_of {rows : List (List D)} (h : ∀ r ∈ rows, WT tI r) : ∃ hs : List Int, rows = rows1 hs := by
  induction rows with
  | nil => exact ⟨[], rfl⟩
  | cons r rs ih =>
    obtain ⟨n, rfl⟩ := wt_i (h r (by simp))
    obtain ⟨hs, rfl⟩ := ih fun x hx => h x (by simp [hx])
    exact ⟨n :: hs, rfl⟩
theorem five_of {cs : List D} (h : WTs [tI, tI, tI, tI, tI] cs) : ∃ a b c d e, cs = [I' a, I' b, I' c, I' d, I' e] := by
  simp only [WTs] at h
  obtain ⟨_, _, rfl, h1, _, _, rfl, h2, _, _, rfl, h3, _, _, rfl, h4, _, _, rfl, h5, rfl⟩ := h
  obtain ⟨a, rfl⟩ := wt_i h1
  obtain ⟨b, rfl⟩ := wt_i h2
  obtain ⟨c, rfl⟩ := wt_i h3
  obtain ⟨d, rfl⟩ := wt_i h4
  obtain ⟨e, rfl⟩ := wt_i h5
  exact ⟨a, b, c, d, e, rfl⟩
theorem waiters_of {rows : List (List D)} (h : ∀ r ∈ rows, WT tW r) : ∃ q : List W, rows = q.map W.row := by
  induction rows with
  | nil => exact ⟨[], rfl⟩
  | cons r rs ih =>
    have h1 := h r (by simp)
    simp only [tW, WT] at h1
    obtain ⟨a, b, c, d, e, rfl⟩ := five_of h1
    obtain ⟨q, rfl⟩ := ih fun x hx => h x (by simp [hx])
    exact ⟨⟨a, b, c, d, e⟩ :: q, rfl⟩
theorem wt_sl {es : Nat} {t : Ty} {cs : List D} (h : WT (.sl es t) cs) : ∃ nl rows, cs = [.sl es nl rows] ∧ (nl = true → rows = []) ∧ ∀ r ∈ rows, WT t r := by
  simp only [WT] at h
  obtain ⟨nl, rows, rfl, h1, _, h2⟩ := h
  exact ⟨nl, rows, rfl, h1, h2⟩
theorem state_of {s : D} (h : WV tS s) : Nonempty (IsState s) := by
  simp only [tS, WV] at h
  obtain ⟨cs, rfl, h⟩ := h
  simp only [WTs] at h
  obtain ⟨_, _, rfl, h1, _, _, rfl, h2, _, _, rfl, h3, _, _, rfl, h4, _, _, rfl, h5, _, _, rfl, h6, _, _, rfl, h7, _, _, rfl, h8, _, _, rfl, h9, rfl⟩ := h
  obtain ⟨own, rfl⟩ := wt_i h1
  obtain ⟨cnt, rfl⟩ := wt_i h2
  obtain ⟨time, rfl⟩ := wt_i h3
  obtain ⟨hn, r4, rfl, _, k4⟩ := wt_sl h4
  obtain ⟨hs, rfl⟩ := ints_of k4
  obtain ⟨qn, r5, rfl, n5, k5⟩ := wt_sl h5
  obtain ⟨q, rfl⟩ := waiters_of k5
  obtain ⟨bn, r6, rfl, _, k6⟩ := wt_sl h6
  obtain ⟨bs, rfl⟩ := ints_of k6
  obtain ⟨cn, cs, rfl, _, k7⟩ := wt_sl h7
  simp only [WT] at h8
  obtain ⟨cl, rfl⟩ := h8
  obtain ⟨val, rfl⟩ := wt_i h9
  refine ⟨⟨own, cnt, time, hn, hs, qn, q, bn, bs, cn, cs, cl, val, rfl, ?_, fun h => List.map_eq_nil_iff.1 (n5 h)⟩⟩
  intro c hc
  have h1 := k7 c hc
  simp only [tCur, WT, WTs] at h1
  obtain ⟨_, _, rfl, ⟨n, rfl, _⟩, _, _, rfl, ⟨nb, r, rfl, _⟩, rfl⟩ := h1
  exact ⟨n, nb, r, rfl⟩
theorem object_of {s : D} (h : WV tO s) : ∃ nm k sz ot, s = .ag [nm, I' k, I' sz, I' ot] := by
  simp only [tO, WV, WTs] at h
  obtain ⟨cs, rfl, _, _, rfl, h1, _, _, rfl, h2, _, _, rfl, h3, _, _, rfl, h4, rfl⟩ := h
  simp only [WT] at h1
  obtain ⟨nm, rfl, _⟩ := h1
  obtain ⟨a, rfl⟩ := wt_i h2
  obtain ⟨b, rfl⟩ := wt_i h3
  obtain ⟨c, rfl⟩ := wt_i h4
  exact ⟨_, a, b, c, rfl⟩
theorem call_of {s : D} (h : WV tC s) : ∃ a b c d e, s = .ag [I' a, I' b, I' c, I' d, I' e] := by
  simp only [tC, WV] at h
  obtain ⟨cs, rfl, h⟩ := h
  obtain ⟨a, b, c, d, e, rfl⟩ := five_of h
  exact ⟨a, b, c, d, e, rfl⟩
theorem l_States (xs : List D) (h : WVs [tO, tS] xs) : ev P (.call nurserylaw16_MutexStates (xs.map V.d) []) = some (.val (.d (.b true)) []) := by
  simp only [WVs] at h
  obtain ⟨o, _, rfl, ho, s, _, rfl, hs, rfl⟩ := h
  obtain ⟨nm, k, sz, ot, rfl⟩ := object_of ho
  obtain ⟨S⟩ := state_of hs
  exact law_States nm k sz ot S
theorem l_Apply (xs : List D) (h : WVs [tO, tS, tC] xs) : ev P (.call nurserylaw16_MutexApply (xs.map V.d) []) = some (.val (.d (.b true)) []) := by
  simp only [WVs] at h
  obtain ⟨o, _, rfl, ho, s, _, rfl, hs, c, _, rfl, hc, rfl⟩ := h
  obtain ⟨nm, k, sz, ot, rfl⟩ := object_of ho
  obtain ⟨S⟩ := state_of hs
  obtain ⟨a, b, c, d, e, rfl⟩ := call_of hc
  exact law_Apply nm k sz ot S a b c d e
theorem l_Withdraw (xs : List D) (h : WVs [tO, tS, tI] xs) : ev P (.call nurserylaw16_MutexWithdraw (xs.map V.d) []) = some (.val (.d (.b true)) []) := by
  simp only [WVs] at h
  obtain ⟨o, _, rfl, ho, s, _, rfl, hs, c, _, rfl, hc, rfl⟩ := h
  obtain ⟨nm, k, sz, ot, rfl⟩ := object_of ho
  obtain ⟨S⟩ := state_of hs
  simp only [WV] at hc
  obtain ⟨n, hn⟩ := wt_i hc
  obtain rfl : c = I' n := by simpa using hn
  exact law_Withdraw nm k sz ot S n
theorem l_Handover (xs : List D) (h : WVs [tS] xs) : ev P (.call nurserylaw16_MutexHandover (xs.map V.d) []) = some (.val (.d (.b true)) []) := by
  simp only [WVs] at h
  obtain ⟨s, _, rfl, hs, rfl⟩ := h
  obtain ⟨S⟩ := state_of hs
  exact law_Handover S
theorem l_Serves (xs : List D) (h : WVs [tS] xs) : ev P (.call nurserylaw16_MutexServes (xs.map V.d) []) = some (.val (.d (.b true)) []) := by
  simp only [WVs] at h
  obtain ⟨s, _, rfl, hs, rfl⟩ := h
  obtain ⟨S⟩ := state_of hs
  exact law_Serves S
theorem l_Valid (xs : List D) (h : WVs [tS, tC, tI] xs) : ev P (.call nurserylaw16_MutexValid (xs.map V.d) []) = some (.val (.d (.b true)) []) := by
  simp only [WVs] at h
  obtain ⟨s, _, rfl, hs, c, _, rfl, hc, n, _, rfl, hn, rfl⟩ := h
  obtain ⟨S⟩ := state_of hs
  obtain ⟨a, b, c, d, e, rfl⟩ := call_of hc
  simp only [WV] at hn
  obtain ⟨k, hk⟩ := wt_i hn
  obtain rfl : n = I' k := by simpa using hk
  exact law_Valid S a b c d e k
end Go.VS.M
namespace Go.VS.M
/-- the map of who waits -/
def mk (ks : List Int) : List (D × V) := ks.map fun t => (I' t, .d (.b true))
@[simp] theorem mk_length (ks : List Int) : (mk ks).length = ks.length := by simp [mk]
@[simp] theorem mk_locs (ks : List Int) : (mk ks).flatMap (fun p => p.2.locs) = [] := by simp [mk]
@[simp] theorem mk_ren (ks : List Int) (f : Nat → Nat) : (mk ks).map (fun p => (p.1, p.2.ren f)) = mk ks := by simp [mk]
theorem keyIs_i (t u : Int) (v : V) : keyIs [.i] (I' t) (I' u, v) = (t == u) := by simp [keyIs, keyEq, keyCells, flatEq, cellEq]
theorem keyOk_mk (t : Int) (ks : List Int) : keyOk [.i] (I' t) (mk ks) = true := by simp [keyOk, keyEq, keyCells, flatEq, cellEq, mk]
theorem mfind_mk (t : Int) : ∀ (ks : List Int), mfind [.i] (I' t) (mk ks) = if t ∈ ks then some (.d (.b true)) else none
  | [] => rfl
  | u :: r => by
    have ih := mfind_mk t r
    show (if keyIs [.i] (I' t) (I' u, .d (.b true)) then some (V.d (.b true)) else mfind [.i] (I' t) (mk r)) = _
    rw [keyIs_i, ih]
    by_cases h : t = u
    · simp [h]
    · simp [h]
theorem mset_mk (t : Int) : ∀ (ks : List Int), t ∉ ks → mset [.i] (I' t) (.d (.b true)) (mk ks) = mk (ks ++ [t])
  | [], _ => rfl
  | u :: r, h => by
    have ih := mset_mk t r (fun hh => h (by simp [hh]))
    have hu : (t == u) = false := by simp; exact fun hh => h (by simp [hh])
    show (if keyIs [.i] (I' t) (I' u, .d (.b true)) then (I' t, .d (.b true)) :: mk r else (I' u, .d (.b true)) :: mset [.i] (I' t) (.d (.b true)) (mk r)) = _
    rw [keyIs_i, hu, ih]
    rfl
theorem mdel_mk' (t : Int) : ∀ (ks : List Int), mdel [.i] (I' t) (mk ks) = mk (ks.erase t)
  | [] => rfl
  | u :: r => by
    have ih := mdel_mk' t r
    show (if keyIs [.i] (I' t) (I' u, .d (.b true)) then mk r else (I' u, .d (.b true)) :: mdel [.i] (I' t) (mk r)) = _
    rw [keyIs_i, ih]
    by_cases h : t = u
    · simp [h]
    · have h' : ¬ u = t := fun hh => h hh.symm
      have h2 : (t == u) = false := by simp [h]
      rw [h2, List.erase_cons_tail (by simp [h'])]
      rfl
theorem mget_mk (A : O) (H : List O) (ks : List Int) (t : Int) : mgetV [.i] (A :: .mp (mk ks) :: H) (.mp 1) (.d (I' t)) (.b false) false = some (.d (.b (decide (t ∈ ks)))) := by
  show mlook [.i] (I' t) (.b false) false (mk ks) = _
  unfold mlook
  rw [if_pos (keyOk_mk t ks), mfind_mk]
  by_cases h : t ∈ ks <;> simp [h]
theorem mput_mk (A : O) (H : List O) (ks : List Int) (t : Int) (ht : t ∉ ks) : mputH [.i] (A :: .mp (mk ks) :: H) (.mp 1) (.d (I' t)) (.d (.b true)) = some (A :: .mp (mk (ks ++ [t])) :: H) := by
  show (if keyOk [.i] (I' t) (mk ks) = true ∧ (V.d (.b true)).known = true then some ((A :: O.mp (mk ks) :: H).set 1 (.mp (mset [.i] (I' t) (.d (.b true)) (mk ks)))) else none) = _
  rw [if_pos ⟨keyOk_mk t ks, rfl⟩, mset_mk t ks ht]
  rfl
theorem mdel_mk (A : O) (H : List O) (ks : List Int) (t : Int) : mdelH [.i] (A :: .mp (mk ks) :: H) (.mp 1) (.d (I' t)) = some (A :: .mp (mk (ks.erase t)) :: H) := by
  show (if keyOk [.i] (I' t) (mk ks) = true then some ((A :: O.mp (mk ks) :: H).set 1 (.mp (mdel [.i] (I' t) (mk ks)))) else none) = _
  rw [if_pos (keyOk_mk t ks), mdel_mk']
  rfl
theorem loop_E0 (row : List D) (ks : List Int) (c : D) (own n k : Int) (nl : Bool) (l : List W) (hn : l.length ≤ 1000000) (hks : ∀ w, w ∈ l → w.task ∈ ks) : ∀ (suf pre : List W), l = pre ++ suf →
    ev P (.loop 0 [3, 5, 6, 31, 32, 33, 101, 102, 103] F_nurserylaw16_MutexExclusive_L0 [(3, .loc 0 0 0), (5, .d (I' own)), (6, .mp 1), (31, .d c), (32, .d (I' n)), (33, .d (I' k)), (101, .d (qD nl l)), (102, .d (I' l.length)), (103, .d (I' pre.length))] [.arrD 9 true [row], .mp (mk ks)]) =
      some (.out (.exit 3) [(3, .loc 0 0 0), (5, .d (I' own)), (6, .mp 1), (31, .d c), (32, .d (I' n)), (33, .d (I' k))] [.arrD 9 true [row], .mp (mk ks)]) := by
  intro suf
  induction suf with
  | nil =>
    intro pre hl
    have : l.length = pre.length := by simp [hl]
    rw [ev_loop]
    conv => lhs; arg 4; unfold F_nurserylaw16_MutexExclusive_L0
    simp [this, reachC, cut, List.idxOf_cons]
  | cons w suf ih =>
    intro pre hl
    have hg : l[pre.length]? = some w := by simp [hl]
    have hlt : (pre.length : Int) < l.length := by simp [hl]; omega
    have hnext : IntKind.i64.wrap ((pre.length : Int) + 1) = pre.length + 1 := wrap_i64 (by omega) (by omega)
    have ih' := ih (pre ++ [w]) (by simp [hl])
    have hw := hks w (by simp [hl])
    simp at ih'
    rw [ev_loop]
    conv => lhs; arg 4; unfold F_nurserylaw16_MutexExclusive_L0
    simp [-mgetV, hlt, hg, W.row, mget_mk, hw, hnext, reachC, cut, List.idxOf_cons]
    exact ih'
structure K where
  task : Int
  op : Int
  value : Int
  prio : Int
  now : Int
def K.row (w : K) : List D := [I' w.task, I' w.op, I' w.value, I' w.prio, I' w.now]
/-- what an operation that succeeds comes to -/
theorem apply_cases {own : Int} {q : List W} {o t p : Int} (m : MV own q) (he : (applyS own q o t p).e = 0) :
    (o = 52 ∧ own = t ∧ own ≠ -1 ∧ q = [] ∧ applyS own q o t p = ⟨-1, [], false, true, none, 0⟩) ∨
    (o = 52 ∧ own = t ∧ ∃ w r, q = w :: r ∧ applyS own q o t p = ⟨w.task, r, false, true, some w.task, 0⟩) ∨
    (o ≠ 52 ∧ own = -1 ∧ q = [] ∧ applyS own q o t p = ⟨t, [], false, true, none, 0⟩) ∨
    (o ≠ 52 ∧ own ≠ -1 ∧ (∀ w, w ∈ q → w.task ≠ t) ∧ applyS own q o t p = ⟨own, q.take (bnd p q) ++ ⟨t, 50, 0, p, -1⟩ :: q.drop (bnd p q), true, false, none, 0⟩) ∨
    (o ≠ 52 ∧ own ≠ -1 ∧ applyS own q o t p = ⟨own, q, false, false, none, 0⟩) := by
  have hlock : ∀ (he : (lockS own q t p).e = 0) (hw : (q.any fun w => w.task == t) = false),
      (own = -1 ∧ q = [] ∧ lockS own q t p = ⟨t, [], false, true, none, 0⟩) ∨
      (own ≠ -1 ∧ (∀ w, w ∈ q → w.task ≠ t) ∧ lockS own q t p = ⟨own, q.take (bnd p q) ++ ⟨t, 50, 0, p, -1⟩ :: q.drop (bnd p q), true, false, none, 0⟩) := by
    intro he hw
    unfold lockS at he ⊢
    split
    · rename_i h
      have ho : own = -1 := by simpa using h
      have hq := m.free ho
      subst hq
      exact .inl ⟨ho, rfl, rfl⟩
    · rename_i h
      rw [if_neg h] at he
      split
      · rename_i h2
        rw [if_pos h2] at he
        simp [zr] at he
      · exact .inr ⟨by simpa using h, by simpa using hw, rfl⟩
  unfold applyS at he ⊢
  split
  · rename_i h; rw [if_pos h] at he; simp [zr] at he
  rename_i h; rw [if_neg h] at he
  split
  · rename_i h; rw [if_pos h] at he; simp [zr] at he
  rename_i h2; rw [if_neg h2] at he
  split
  · rename_i h; rw [if_pos h] at he; simp [zr] at he
  rename_i h3; rw [if_neg h3] at he
  have hw : (q.any fun w => w.task == t) = false := by simpa using h3
  have ht : t ≠ -1 := by simp [isTask] at h2; omega
  split
  · rename_i h; rw [if_pos h] at he
    have ho : o ≠ 52 := by omega
    rcases hlock he hw with h | h
    · exact .inr (.inr (.inl ⟨ho, h⟩))
    · exact .inr (.inr (.inr (.inl ⟨ho, h⟩)))
  rename_i h; rw [if_neg h] at he
  split
  · rename_i h; rw [if_pos h] at he
    have ho : o ≠ 52 := by omega
    unfold tryS at he ⊢
    split
    · rename_i hh
      exact .inr (.inr (.inr (.inr ⟨ho, by omega, rfl⟩)))
    · rename_i hh
      rw [if_neg hh] at he
      rcases hlock he hw with h | h
      · exact .inr (.inr (.inl ⟨ho, h⟩))
      · exact .inr (.inr (.inr (.inl ⟨ho, h⟩)))
  · rename_i h1; rw [if_neg h1] at he
    have ho : o = 52 := by omega
    unfold unlockS at he ⊢
    split
    · rename_i hh
      rw [if_pos hh] at he
      simp [zr] at he
    · rename_i hh
      have hot : own = t := by simpa using hh
      cases q with
      | nil => exact .inl ⟨ho, hot, by omega, rfl, rfl⟩
      | cons w r => exact .inr (.inl ⟨ho, hot, w, r, rfl, rfl⟩)
theorem loop_E1 (nl : Bool) (l : List K) (hn : l.length ≤ 40) : ∀ (suf pre : List K) (own : Int) (q : List W) (ks : List Int) (hn qn bn cn : Bool), l = pre ++ suf → MV own q → q.length ≤ pre.length → (tks q).Perm ks → (qn = true → q = []) →
    ev P (.loop 0 [3, 5, 6, 31, 32, 33] F_nurserylaw16_MutexExclusive_L1 [(3, .loc 0 0 0), (5, .d (I' own)), (6, .mp 1), (31, .d (.sl 5 nl (l.map K.row))), (32, .d (I' l.length)), (33, .d (I' pre.length))] [.arrD 9 true [stL hn qn bn cn own q], .mp (mk ks)]) =
      some (.out (.exit 0) [] []) := by
  intro suf
  induction suf with
  | nil =>
    intro pre own q ks hn qn bn cn hl m hql hks hnl
    have : l.length = pre.length := by simp [hl]
    rw [ev_loop]
    conv => lhs; arg 4; unfold F_nurserylaw16_MutexExclusive_L1
    simp [this, reachC, cut, List.idxOf_cons]
  | cons c suf ih =>
    intro pre own q ks hn qn bn cn hl m hql hks hnl
    have hg : l[pre.length]? = some c := by simp [hl]
    have hlt : (pre.length : Int) < l.length := by simp [hl]; omega
    have hple : pre.length < l.length := by simp [hl]
    have hnext : IntKind.i64.wrap ((pre.length : Int) + 1) = pre.length + 1 := wrap_i64 (by omega) (by omega)
    have ea := ev_mApply1 (.s [109]) hn qn bn cn own q c.task c.op c.value c.prio c.now hnl (by omega) m.desc (mvalid_of m (by omega))
    have hlen := applyS_len own q c.op c.task c.prio
    obtain ⟨a1, a2, a3, a4, a5, ha, ha2⟩ := ea
    rw [ev_loop]
    conv => lhs; arg 4; unfold F_nurserylaw16_MutexExclusive_L1
    by_cases he : (applyS own q c.op c.task c.prio).e = 0
    · have m' := MV_apply m he
      rcases apply_cases m he with ⟨h1, h2, h3, rfl, hr⟩ | ⟨h1, h2, w, r, rfl, hr⟩ | ⟨h1, h2, rfl, hr⟩ | ⟨h1, h2, h3, hr⟩ | ⟨h1, h2, hr⟩
      · have hkn : ks = [] := by simpa using hks
        subst hkn
        rw [hr] at ha m'
        have b1 : (c.op == 52) = true := by simpa using h1
        have b2 : (own != c.task) = false := by simpa using h2
        have ih' := ih (pre ++ [c]) (-1) [] [] a1 a2 a3 a4 (by simp [hl]) m' (by simp) hks (fun _ => rfl)
        have hL := loop_E0 (stL a1 a2 a3 a4 (-1) []) [] (.sl 5 nl (l.map K.row)) (-1) l.length pre.length a2 [] (by simp) (by simp) [] [] rfl
        simp at ih' hL
        simp [-mgetV, -mputH, -mdelH, hlt, hg, K.row, ev_object, ha, V.same_self, thaw, freezeAll, freeze1, hnext, reachC, cut, List.idxOf_cons, wrow, b1, b2, hL]
        exact ih'
      · have hmem : w.task ∈ ks := (hks.mem_iff).1 (by simp)
        have hks' : (tks r).Perm (ks.erase w.task) := by
          have := hks.erase w.task
          simpa using this
        rw [hr] at ha m' ha2
        have b1 : (c.op == 52) = true := by simpa using h1
        have b2 : (own != c.task) = false := by simpa using h2
        have hw0 := m.all w (by simp)
        have hlen2 : r.length = (ks.erase w.task).length := by have := hks'.length_eq; simpa using this
        have b3 : ((r.length : Int) != ((ks.length - 1 : Nat) : Int)) = false := by rw [List.length_erase_of_mem hmem] at hlen2; rw [hlen2]; simp
        have b4 : (w.task == -1) = false := by simp; omega
        have ih' := ih (pre ++ [c]) w.task r (ks.erase w.task) a1 a2 a3 a4 (by simp [hl]) m' (by simp at hql; simp; omega) hks' ha2
        have hL := loop_E0 (stL a1 a2 a3 a4 w.task r) (ks.erase w.task) (.sl 5 nl (l.map K.row)) w.task l.length pre.length a2 r (by simp at hql; omega) (fun x hx => hks'.mem_iff.1 (List.mem_map_of_mem hx)) r [] rfl
        simp at ih' hL
        simp [-mgetV, -mputH, -mdelH, hlt, hg, K.row, ev_object, ha, V.same_self, thaw, freezeAll, freeze1, hnext, reachC, cut, List.idxOf_cons, wrow, b1, b2, b3, b4, hL, mget_mk, mdel_mk, hmem]
        exact ih'
      · have hkn : ks = [] := by simpa using hks
        subst hkn
        subst h2
        rw [hr] at ha m'
        have b1 : (c.op == 52) = false := by simpa using h1
        have ih' := ih (pre ++ [c]) c.task [] [] a1 a2 a3 a4 (by simp [hl]) m' (by simp) hks (fun _ => rfl)
        have hL := loop_E0 (stL a1 a2 a3 a4 c.task []) [] (.sl 5 nl (l.map K.row)) c.task l.length pre.length a2 [] (by simp) (by simp) [] [] rfl
        simp at ih' hL
        simp [-mgetV, -mputH, -mdelH, hlt, hg, K.row, ev_object, ha, V.same_self, thaw, freezeAll, freeze1, hnext, reachC, cut, List.idxOf_cons, wrow, b1, hL]
        exact ih'
      · have hnm : c.task ∉ ks := fun h => by
          have := hks.mem_iff.2 h
          simp at this
          obtain ⟨x, hx, hx2⟩ := this
          exact h3 x hx hx2
        obtain ⟨q', hq'⟩ : ∃ q', q' = q.take (bnd c.prio q) ++ ⟨c.task, 50, 0, c.prio, -1⟩ :: q.drop (bnd c.prio q) := ⟨_, rfl⟩
        have hks' : (tks q').Perm (ks ++ [c.task]) := by
          rw [hq']
          have h1 : (tks (q.take (bnd c.prio q) ++ ⟨c.task, 50, 0, c.prio, -1⟩ :: q.drop (bnd c.prio q))).Perm (c.task :: tks q) := by
            simp only [tks, List.map_append, List.map_cons]
            refine List.perm_middle.trans ?_
            rw [← List.map_append, List.take_append_drop]
          refine h1.trans ((hks.cons _).trans ?_)
          exact (List.perm_append_comm (l₁ := [c.task]) (l₂ := ks))
        rw [hr, ← hq'] at ha m' ha2 hlen
        have b1 : (c.op == 52) = false := by simpa using h1
        have b2 : (own == -1) = false := by simpa using h2
        have hlen2 : q'.length = ks.length + 1 := by have := hks'.length_eq; simpa using this
        have b3 : ((q'.length : Int) != (ks.length : Int) + 1) = false := by simp; omega
        have ih' := ih (pre ++ [c]) own q' (ks ++ [c.task]) a1 a2 a3 a4 (by simp [hl]) m' (by simp at hlen ⊢; omega) hks' ha2
        have hL := loop_E0 (stL a1 a2 a3 a4 own q') (ks ++ [c.task]) (.sl 5 nl (l.map K.row)) own l.length pre.length a2 q' (by simp at hlen; omega) (fun x hx => hks'.mem_iff.1 (List.mem_map_of_mem hx)) q' [] rfl
        simp at ih' hL
        simp [-mgetV, -mputH, -mdelH, hlt, hg, K.row, ev_object, ha, V.same_self, thaw, freezeAll, freeze1, hnext, reachC, cut, List.idxOf_cons, wrow, b1, b2, b3, hL, mput_mk, hnm]
        exact ih'
      · rw [hr] at ha m' ha2
        have b1 : (c.op == 52) = false := by simpa using h1
        have b2 : (own == -1) = false := by simpa using h2
        have hlen2 : q.length = ks.length := by have := hks.length_eq; simpa using this
        have b3 : ((q.length : Int) != ks.length) = false := by simp; omega
        have ih' := ih (pre ++ [c]) own q ks a1 a2 a3 a4 (by simp [hl]) m (by simp; omega) hks ha2
        have hL := loop_E0 (stL a1 a2 a3 a4 own q) ks (.sl 5 nl (l.map K.row)) own l.length pre.length a2 q (by omega) (fun x hx => hks.mem_iff.1 (List.mem_map_of_mem hx)) q [] rfl
        simp at ih' hL
        simp [-mgetV, -mputH, -mdelH, hlt, hg, K.row, ev_object, ha, V.same_self, thaw, freezeAll, freeze1, hnext, reachC, cut, List.idxOf_cons, wrow, b1, b2, b3, hL]
        exact ih'
    · have he' : ((applyS own q c.op c.task c.prio).e != 0) = true := by simpa using he
      have ih' := ih (pre ++ [c]) own q ks hn qn bn cn (by simp [hl]) m (by simp; omega) hks hnl
      simp at ih'
      simp [hlt, hg, K.row, ev_object, ha, V.same_self, thaw, freezeAll, freeze1, he', hnext, reachC, cut, List.idxOf_cons]
      exact ih'
theorem law_Exclusive (nl : Bool) (l : List K) : ev P (.call nurserylaw16_MutexExclusive [.d (.sl 5 nl (l.map K.row))] []) = some (.val (.d (.b true)) []) := by
  have hm : mnew 1 0 0 = 0 := by decide
  have hN := ev_mNew (.s [109]) 1 0 0
  rw [if_pos hm, hm] at hN
  rw [ev_call P_nurserylaw16_MutexExclusive rfl]
  by_cases h : 40 < l.length
  · have h' : (40 : Int) < l.length := by omega
    simp [F_nurserylaw16_MutexExclusive, ev_object, hN, frow, h', ev_awake]
  · have h' : ¬ (40 : Int) < l.length := by omega
    have hL := loop_E1 nl l (by omega) l [] (-1) [] [] true true true true rfl ⟨.inl rfl, fun _ => rfl, by simp [Desc], by simp, by simp⟩ (by simp) (by simp) (fun _ => rfl)
    simp [mk] at hL
    simp [F_nurserylaw16_MutexExclusive, ev_object, hN, frow, h', ev_awake, reachC, cut, List.idxOf_cons, hL]
end Go.VS.M
namespace Go.VS.M
theorem calls_of {rows : List (List D)} (h : ∀ r ∈ rows, WT tC r) : ∃ l : List K, rows = l.map K.row := by
  induction rows with
  | nil => exact ⟨[], rfl⟩
  | cons r rs ih =>
    have h1 := h r (by simp)
    simp only [tC, WT] at h1
    obtain ⟨a, b, c, d, e, rfl⟩ := five_of h1
    obtain ⟨q, rfl⟩ := ih fun x hx => h x (by simp [hx])
    exact ⟨⟨a, b, c, d, e⟩ :: q, rfl⟩
def tLC : Ty := .sl 5 tC
theorem l_Exclusive (xs : List D) (h : WVs [tLC] xs) : ev P (.call nurserylaw16_MutexExclusive (xs.map V.d) []) = some (.val (.d (.b true)) []) := by
  simp only [WVs] at h
  obtain ⟨s, _, rfl, hs, rfl⟩ := h
  simp only [tLC, WV] at hs
  obtain ⟨nl, rows, hs1, _, hr⟩ := wt_sl hs
  obtain rfl : s = .sl 5 nl rows := by simpa using hs1
  obtain ⟨l, rfl⟩ := calls_of hr
  exact law_Exclusive nl l
end Go.VS.M
