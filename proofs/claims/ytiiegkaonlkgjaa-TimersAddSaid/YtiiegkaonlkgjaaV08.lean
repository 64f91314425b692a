import Derived.Test.YtiiegkaonlkgjaaV06
import Derived.Test.YtiiegkaonlkgjaaV04
import Derived.Test.YtiiegkaonlkgjaaV05
import Derived.KernelRfl
import Derived.Test.YtiiegkaonlkgjaaChecked
import Derived.Test.YtiiegkaonlkgjaaV07
set_option linter.all false
open Go.Proofs
namespace Go.VS
noncomputable def ck (f : Nat) (F : F) : Bool :=
  match Try.prog.funcs[f]? with
  | some fn => !(fn.name == "runtime.NumGoroutine") && (match fn.body with | some c => chkC Try.prog (fun n => n) fn.ntmps c F.code && chkR Try.prog fn.results.toList F.res | none => false)
  | none => false
theorem ok_nurserylaw06_TimersAdd : ck 3 F_nurserylaw06_TimersAdd = true := by kernel_rfl
theorem ok_nurserylaw06_TimersRemoved : ck 4 F_nurserylaw06_TimersRemoved = true := by kernel_rfl
theorem ok_nurserylaw06_TimersLast : ck 5 F_nurserylaw06_TimersLast = true := by kernel_rfl
theorem ok_nurserylaw06_TimersFind : ck 6 F_nurserylaw06_TimersFind = true := by kernel_rfl
theorem ok_nurserylaw06_TimersRun : ck 7 F_nurserylaw06_TimersRun = true := by kernel_rfl
theorem ok_nurserylaw06_TimersOrders : ck 8 F_nurserylaw06_TimersOrders = true := by kernel_rfl
theorem ok_nurserylaw06_TimersReads : ck 9 F_nurserylaw06_TimersReads = true := by kernel_rfl
theorem ok_nurserylaw06_TimersExpire : ck 10 F_nurserylaw06_TimersExpire = true := by kernel_rfl
theorem ok_nurseryref06_Great : ck 11 F_nurseryref06_Great = true := by kernel_rfl
theorem ok_nurserylaw06_awake : ck 12 F_nurserylaw06_awake = true := by kernel_rfl
theorem ok_timers_Add : ck 13 F_timers_Add = true := by kernel_rfl
theorem ok_nurseryref06_Add : ck 14 F_nurseryref06_Add = true := by kernel_rfl
theorem ok_nurseryref06_Same : ck 15 F_nurseryref06_Same = true := by kernel_rfl
theorem ok_timers_Check : ck 16 F_timers_Check = true := by kernel_rfl
theorem ok_nurseryref06_Check : ck 17 F_nurseryref06_Check = true := by kernel_rfl
theorem ok_timers_Remove : ck 18 F_timers_Remove = true := by kernel_rfl
theorem ok_timers_Find : ck 19 F_timers_Find = true := by kernel_rfl
theorem ok_nurserylaw06_added : ck 20 F_nurserylaw06_added = true := by kernel_rfl
theorem ok_slices_ContainsFunc_api_Timer_api_Timer : ck 21 F_slices_ContainsFunc_api_Timer_api_Timer = true := by kernel_rfl
theorem ok_nurserylaw06_TimersLastC1 : ck 22 F_nurserylaw06_TimersLastC1 = true := by kernel_rfl
theorem ok_nurserylaw06_key : ck 23 F_nurserylaw06_key = true := by kernel_rfl
theorem ok_slices_Contains_api_Timer_api_Timer : ck 24 F_slices_Contains_api_Timer_api_Timer = true := by kernel_rfl
theorem ok_timers_Next : ck 25 F_timers_Next = true := by kernel_rfl
theorem ok_nurserylaw06_TimersRunC1 : ck 27 F_nurserylaw06_TimersRunC1 = true := by kernel_rfl
theorem ok_nurserylaw06_TimersOrdersC1 : ck 28 F_nurserylaw06_TimersOrdersC1 = true := by kernel_rfl
theorem ok_slices_Concat_api_Timer_api_Timer : ck 29 F_slices_Concat_api_Timer_api_Timer = true := by kernel_rfl
theorem ok_slices_Reverse_api_Timer_api_Timer : ck 30 F_slices_Reverse_api_Timer_api_Timer = true := by kernel_rfl
theorem ok_nurseryref06_Find : ck 31 F_nurseryref06_Find = true := by kernel_rfl
theorem ok_nurseryref06_Next : ck 32 F_nurseryref06_Next = true := by kernel_rfl
theorem ok_nurseryref06_Remove : ck 34 F_nurseryref06_Remove = true := by kernel_rfl
theorem ok_nurserylaw06_TimersExpireC1 : ck 35 F_nurserylaw06_TimersExpireC1 = true := by kernel_rfl
theorem ok_nurserylaw06_sleep : ck 36 F_nurserylaw06_sleep = true := by kernel_rfl
theorem ok_timers_check : ck 37 F_timers_check = true := by kernel_rfl
theorem ok_timers_queue_without : ck 38 F_timers_queue_without = true := by kernel_rfl
theorem ok_timers_keyOf : ck 39 F_timers_keyOf = true := by kernel_rfl
theorem ok_timers_place_behind : ck 40 F_timers_place_behind = true := by kernel_rfl
theorem ok_sort_Search : ck 42 F_sort_Search = true := by kernel_rfl
theorem ok_nurseryref06_one : ck 43 F_nurseryref06_one = true := by kernel_rfl
theorem ok_nurseryref06_without : ck 44 F_nurseryref06_without = true := by kernel_rfl
theorem ok_nurseryref06_Less : ck 45 F_nurseryref06_Less = true := by kernel_rfl
theorem ok_timers_compare : ck 46 F_timers_compare = true := by kernel_rfl
theorem ok_nurseryref06_same : ck 47 F_nurseryref06_same = true := by kernel_rfl
theorem ok_slices_IndexFunc_api_Timer_api_Timer : ck 48 F_slices_IndexFunc_api_Timer_api_Timer = true := by kernel_rfl
theorem ok_timers_FindC1 : ck 49 F_timers_FindC1 = true := by kernel_rfl
theorem ok_slices_Index_api_Timer_api_Timer : ck 50 F_slices_Index_api_Timer_api_Timer = true := by kernel_rfl
theorem ok_timers_queue_due : ck 51 F_timers_queue_due = true := by kernel_rfl
theorem ok_slices_Clone_api_Timer_api_Timer : ck 52 F_slices_Clone_api_Timer_api_Timer = true := by kernel_rfl
theorem ok_slices_Grow_api_Timer_api_Timer : ck 53 F_slices_Grow_api_Timer_api_Timer = true := by kernel_rfl
theorem ok_slices_DeleteFunc_timers_queue_api_Timer : ck 54 F_slices_DeleteFunc_timers_queue_api_Timer = true := by kernel_rfl
theorem ok_slices_Clone_timers_queue_api_Timer : ck 55 F_slices_Clone_timers_queue_api_Timer = true := by kernel_rfl
theorem ok_timers_queue_withoutC1 : ck 56 F_timers_queue_withoutC1 = true := by kernel_rfl
theorem ok_slices_rotateRight_api_Timer : ck 58 F_slices_rotateRight_api_Timer = true := by kernel_rfl
theorem ok_nurseryref06_indices : ck 59 F_nurseryref06_indices = true := by kernel_rfl
theorem ok_cmp_Or_int : ck 60 F_cmp_Or_int = true := by kernel_rfl
theorem ok_cmp_Compare_int : ck 61 F_cmp_Compare_int = true := by kernel_rfl
theorem ok_timers_queue_dueC1 : ck 62 F_timers_queue_dueC1 = true := by kernel_rfl
theorem ok_slices_IndexFunc_timers_queue_api_Timer : ck 63 F_slices_IndexFunc_timers_queue_api_Timer = true := by kernel_rfl
theorem ok_slices_rotateLeft_api_Timer : ck 64 F_slices_rotateLeft_api_Timer = true := by kernel_rfl
theorem ok_cmp_isNaN_int : ck 65 F_cmp_isNaN_int = true := by kernel_rfl
theorem okR_slices_Insert_timers_queue_api_Timer : ck 41 R_slices_Insert_timers_queue_api_Timer = true := by kernel_rfl
theorem code_of_ck {f : Nat} {F : F} (h : ck f F = true) : FnCode Try.prog (fun n => n) f F := by
  unfold ck at h
  split at h
  · rename_i fn hf
    split at h
    · rename_i c hc
      simp only [Bool.and_eq_true, Bool.not_eq_true'] at h
      exact ⟨fn, c, hf, h.1, hc, h.2.1, h.2.2⟩
    · simp at h
  · cases h
theorem mixed : Try.prog.follows .mixedOrders = true := by kernel_rfl
theorem laid : laidOutB Try.prog = true := by kernel_rfl
theorem hF : ∀ f F, P f = some F → FnOk Try.prog (fun n => n) f F := by
  intro f F h
  unfold P at h
  split at h
  · cases h; exact .inl ⟨rfl, code_of_ck ok_nurserylaw06_TimersAdd⟩
  · cases h; exact .inl ⟨rfl, code_of_ck ok_nurserylaw06_TimersRemoved⟩
  · cases h; exact .inl ⟨rfl, code_of_ck ok_nurserylaw06_TimersLast⟩
  · cases h; exact .inl ⟨rfl, code_of_ck ok_nurserylaw06_TimersFind⟩
  · cases h; exact .inl ⟨rfl, code_of_ck ok_nurserylaw06_TimersRun⟩
  · cases h; exact .inl ⟨rfl, code_of_ck ok_nurserylaw06_TimersOrders⟩
  · cases h; exact .inl ⟨rfl, code_of_ck ok_nurserylaw06_TimersReads⟩
  · cases h; exact .inl ⟨rfl, code_of_ck ok_nurserylaw06_TimersExpire⟩
  · cases h; exact .inl ⟨rfl, code_of_ck ok_nurseryref06_Great⟩
  · cases h; exact .inl ⟨rfl, code_of_ck ok_nurserylaw06_awake⟩
  · cases h; exact .inl ⟨rfl, code_of_ck ok_timers_Add⟩
  · cases h; exact .inl ⟨rfl, code_of_ck ok_nurseryref06_Add⟩
  · cases h; exact .inl ⟨rfl, code_of_ck ok_nurseryref06_Same⟩
  · cases h; exact .inl ⟨rfl, code_of_ck ok_timers_Check⟩
  · cases h; exact .inl ⟨rfl, code_of_ck ok_nurseryref06_Check⟩
  · cases h; exact .inl ⟨rfl, code_of_ck ok_timers_Remove⟩
  · cases h; exact .inl ⟨rfl, code_of_ck ok_timers_Find⟩
  · cases h; exact .inl ⟨rfl, code_of_ck ok_nurserylaw06_added⟩
  · cases h; exact .inl ⟨rfl, code_of_ck ok_slices_ContainsFunc_api_Timer_api_Timer⟩
  · cases h; exact .inl ⟨rfl, code_of_ck ok_nurserylaw06_TimersLastC1⟩
  · cases h; exact .inl ⟨rfl, code_of_ck ok_nurserylaw06_key⟩
  · cases h; exact .inl ⟨rfl, code_of_ck ok_slices_Contains_api_Timer_api_Timer⟩
  · cases h; exact .inl ⟨rfl, code_of_ck ok_timers_Next⟩
  · cases h; exact .inl ⟨rfl, code_of_ck ok_nurserylaw06_TimersRunC1⟩
  · cases h; exact .inl ⟨rfl, code_of_ck ok_nurserylaw06_TimersOrdersC1⟩
  · cases h; exact .inl ⟨rfl, code_of_ck ok_slices_Concat_api_Timer_api_Timer⟩
  · cases h; exact .inl ⟨rfl, code_of_ck ok_slices_Reverse_api_Timer_api_Timer⟩
  · cases h; exact .inl ⟨rfl, code_of_ck ok_nurseryref06_Find⟩
  · cases h; exact .inl ⟨rfl, code_of_ck ok_nurseryref06_Next⟩
  · cases h; exact .inl ⟨rfl, code_of_ck ok_nurseryref06_Remove⟩
  · cases h; exact .inl ⟨rfl, code_of_ck ok_nurserylaw06_TimersExpireC1⟩
  · cases h; exact .inl ⟨rfl, code_of_ck ok_nurserylaw06_sleep⟩
  · cases h; exact .inl ⟨rfl, code_of_ck ok_timers_check⟩
  · cases h; exact .inl ⟨rfl, code_of_ck ok_timers_queue_without⟩
  · cases h; exact .inl ⟨rfl, code_of_ck ok_timers_keyOf⟩
  · cases h; exact .inl ⟨rfl, code_of_ck ok_timers_place_behind⟩
  · cases h; exact .inl ⟨rfl, code_of_ck ok_sort_Search⟩
  · cases h; exact .inl ⟨rfl, code_of_ck ok_nurseryref06_one⟩
  · cases h; exact .inl ⟨rfl, code_of_ck ok_nurseryref06_without⟩
  · cases h; exact .inl ⟨rfl, code_of_ck ok_nurseryref06_Less⟩
  · cases h; exact .inl ⟨rfl, code_of_ck ok_timers_compare⟩
  · cases h; exact .inl ⟨rfl, code_of_ck ok_nurseryref06_same⟩
  · cases h; exact .inl ⟨rfl, code_of_ck ok_slices_IndexFunc_api_Timer_api_Timer⟩
  · cases h; exact .inl ⟨rfl, code_of_ck ok_timers_FindC1⟩
  · cases h; exact .inl ⟨rfl, code_of_ck ok_slices_Index_api_Timer_api_Timer⟩
  · cases h; exact .inl ⟨rfl, code_of_ck ok_timers_queue_due⟩
  · cases h; exact .inl ⟨rfl, code_of_ck ok_slices_Clone_api_Timer_api_Timer⟩
  · cases h; exact .inl ⟨rfl, code_of_ck ok_slices_Grow_api_Timer_api_Timer⟩
  · cases h; exact .inl ⟨rfl, code_of_ck ok_slices_DeleteFunc_timers_queue_api_Timer⟩
  · cases h; exact .inl ⟨rfl, code_of_ck ok_slices_Clone_timers_queue_api_Timer⟩
  · cases h; exact .inl ⟨rfl, code_of_ck ok_timers_queue_withoutC1⟩
  · cases h; exact .inl ⟨rfl, code_of_ck ok_slices_rotateRight_api_Timer⟩
  · cases h; exact .inl ⟨rfl, code_of_ck ok_nurseryref06_indices⟩
  · cases h; exact .inl ⟨rfl, code_of_ck ok_cmp_Or_int⟩
  · cases h; exact .inl ⟨rfl, code_of_ck ok_cmp_Compare_int⟩
  · cases h; exact .inl ⟨rfl, code_of_ck ok_timers_queue_dueC1⟩
  · cases h; exact .inl ⟨rfl, code_of_ck ok_slices_IndexFunc_timers_queue_api_Timer⟩
  · cases h; exact .inl ⟨rfl, code_of_ck ok_slices_rotateLeft_api_Timer⟩
  · cases h; exact .inl ⟨rfl, code_of_ck ok_cmp_isNaN_int⟩
  · cases h; exact .inr ⟨_, rfl, ins_ok mixed (code_of_ck okR_slices_Insert_timers_queue_api_Timer) rfl rfl rfl (by decide)⟩
  · cases h
end Go.VS
namespace Go.VS.Tm
abbrev tI : Ty := .i .i64
def tT : Ty := .st [tI, tI, tI]
def tL : Ty := .sl 3 tT
theorem wt_i {cs : List D} (h : WT tI cs) : ∃ n, cs = [I' n] := by
  simp only [tI, WT] at h
  obtain ⟨n, rfl, _⟩ := h
  exact ⟨n, rfl⟩
theorem three_of {cs : List D} (h : WTs [tI, tI, tI] cs) : ∃ a b c, cs = [I' a, I' b, I' c] := by
  simp only [WTs] at h
  obtain ⟨_, _, rfl, h1, _, _, rfl, h2, _, _, rfl, h3, rfl⟩ := h
  obtain ⟨a, rfl⟩ := wt_i h1
  obtain ⟨b, rfl⟩ := wt_i h2
  obtain ⟨c, rfl⟩ := wt_i h3
  exact ⟨a, b, c, rfl⟩
theorem timers_of {rows : List (List D)} (h : ∀ r ∈ rows, WT tT r) : ∃ q : List T, rows = q.map T.row := by
  induction rows with
  | nil => exact ⟨[], rfl⟩
  | cons r rs ih =>
    have h1 := h r (by simp)
    simp only [tT, WT] at h1
    obtain ⟨a, b, c, rfl⟩ := three_of h1
    obtain ⟨q, rfl⟩ := ih fun x hx => h x (by simp [hx])
    exact ⟨⟨a, b, c⟩ :: q, rfl⟩
theorem queue_of {s : D} (h : WV tL s) : ∃ nl l, s = tD nl l ∧ (nl = true → l = []) := by
  simp only [tL, WV, WT] at h
  obtain ⟨nl, rows, h1, h2, _, h3⟩ := h
  obtain rfl : s = .sl 3 nl rows := by simpa using h1
  obtain ⟨q, rfl⟩ := timers_of h3
  exact ⟨nl, q, rfl, fun h => List.map_eq_nil_iff.1 (h2 h)⟩
theorem timer_of {s : D} (h : WV tT s) : ∃ a b c, s = .ag [I' a, I' b, I' c] := by
  simp only [tT, WV] at h
  obtain ⟨cs, rfl, h⟩ := h
  obtain ⟨a, b, c, rfl⟩ := three_of h
  exact ⟨a, b, c, rfl⟩
theorem l_Add (xs : List D) (h : WVs [tL, tT] xs) : ev P (.call nurserylaw06_TimersAdd (xs.map V.d) []) = some (.val (.d (.b true)) []) := by
  simp only [WVs] at h
  obtain ⟨s, _, rfl, hs, t, _, rfl, ht, rfl⟩ := h
  obtain ⟨nl, l, rfl, hnl⟩ := queue_of hs
  obtain ⟨a, b, c, rfl⟩ := timer_of ht
  exact law_Add nl l a b c hnl
end Go.VS.Tm
