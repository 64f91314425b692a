import Derived.Test.YtiiegkaonlkgjaaV06
import Derived.Test.YtiiegkaonlkgjaaV04
import Derived.Test.YtiiegkaonlkgjaaV05
import Derived.KernelRfl
import Derived.Test.YtiiegkaonlkgjaaChecked
import Derived.Test.YtiiegkaonlkgjaaV07
set_option linter.all false
open Go.Proofs
namespace Go.VS
/-- How the program's functions and loops stand to VS code. -/
def phiN (n : Nat) : Nat := if 10000 ≤ n then n - 10000 else n
def phi : Phi := ⟨phiN, fun ps A B x y nt => lkB Try.prog phiN ps A B x y nt = true⟩
theorem lkok : LkOk Try.prog phi := fun _ _ _ _ _ _ => Iff.rfl
noncomputable def ck (f : Nat) (F : F) : Bool :=
  match Try.prog.funcs[phiN f]? with
  | some fn => !(fn.name == "runtime.NumGoroutine") && (match fn.body with | some c => chkC Try.prog phiN fn.ntmps c F.code && chkR Try.prog fn.results.toList F.res | none => false)
  | none => false
theorem ok_nurserylaw06_TimersAdd : ck 3 F_nurserylaw06_TimersAdd = true := by kernel_rfl
theorem ok_nurserylaw06_TimersRemoved : ck 4 F_nurserylaw06_TimersRemoved = true := by kernel_rfl
theorem ok_nurserylaw06_TimersLast : ck 5 F_nurserylaw06_TimersLast = true := by kernel_rfl
theorem ok_nurserylaw06_TimersFind : ck 6 F_nurserylaw06_TimersFind = true := by kernel_rfl
theorem ok_nurserylaw06_TimersRun : ck 7 F_nurserylaw06_TimersRun = true := by kernel_rfl
theorem ok_nurserylaw06_TimersOrders : ck 8 F_nurserylaw06_TimersOrders = true := by kernel_rfl
theorem ok_nurserylaw06_TimersReads : ck 9 F_nurserylaw06_TimersReads = true := by kernel_rfl
theorem ok_nurserylaw06_TimersExpire : ck 10 F_nurserylaw06_TimersExpire = true := by kernel_rfl
theorem ok_nurseryref06_Great : ck 11 F_nurseryref06_Great = true := by kernel_rfl
theorem ok_nurserylaw06_awake : ck 12 F_nurserylaw06_awake = true := by kernel_rfl
theorem ok_timers_Add : ck 13 F_timers_Add = true := by kernel_rfl
theorem ok_nurseryref06_Add : ck 14 F_nurseryref06_Add = true := by kernel_rfl
theorem ok_nurseryref06_Same : ck 15 F_nurseryref06_Same = true := by kernel_rfl
theorem ok_timers_Check : ck 16 F_timers_Check = true := by kernel_rfl
theorem ok_nurseryref06_Check : ck 17 F_nurseryref06_Check = true := by kernel_rfl
theorem ok_timers_Remove : ck 18 F_timers_Remove = true := by kernel_rfl
theorem ok_timers_Find : ck 19 F_timers_Find = true := by kernel_rfl
theorem ok_nurserylaw06_added : ck 20 F_nurserylaw06_added = true := by kernel_rfl
theorem ok_slices_ContainsFunc_api_Timer_api_Timer : ck 21 F_slices_ContainsFunc_api_Timer_api_Timer = true := by kernel_rfl
theorem ok_nurserylaw06_TimersLastC1 : ck 22 F_nurserylaw06_TimersLastC1 = true := by kernel_rfl
theorem ok_nurserylaw06_key : ck 23 F_nurserylaw06_key = true := by kernel_rfl
theorem ok_slices_Contains_api_Timer_api_Timer : ck 24 F_slices_Contains_api_Timer_api_Timer = true := by kernel_rfl
theorem ok_timers_Next : ck 25 F_timers_Next = true := by kernel_rfl
theorem ok_timers_Expire : ck 26 F_timers_Expire = true := by kernel_rfl
theorem ok_nurserylaw06_TimersRunC1 : ck 27 F_nurserylaw06_TimersRunC1 = true := by kernel_rfl
theorem ok_nurserylaw06_TimersOrdersC1 : ck 28 F_nurserylaw06_TimersOrdersC1 = true := by kernel_rfl
theorem ok_slices_Concat_api_Timer_api_Timer : ck 29 F_slices_Concat_api_Timer_api_Timer = true := by kernel_rfl
theorem ok_slices_Concat_api_Timer_api_Timer_p : ck 10029 F_slices_Concat_api_Timer_api_Timer_p = true := by kernel_rfl
theorem ok_slices_Reverse_api_Timer_api_Timer : ck 30 F_slices_Reverse_api_Timer_api_Timer = true := by kernel_rfl
theorem ok_nurseryref06_Find : ck 31 F_nurseryref06_Find = true := by kernel_rfl
theorem ok_nurseryref06_Next : ck 32 F_nurseryref06_Next = true := by kernel_rfl
theorem ok_nurseryref06_Expire : ck 33 F_nurseryref06_Expire = true := by kernel_rfl
theorem ok_nurseryref06_Remove : ck 34 F_nurseryref06_Remove = true := by kernel_rfl
theorem ok_nurserylaw06_TimersExpireC1 : ck 35 F_nurserylaw06_TimersExpireC1 = true := by kernel_rfl
theorem ok_nurserylaw06_sleep : ck 36 F_nurserylaw06_sleep = true := by kernel_rfl
theorem ok_timers_check : ck 37 F_timers_check = true := by kernel_rfl
theorem ok_timers_queue_without : ck 38 F_timers_queue_without = true := by kernel_rfl
theorem ok_timers_keyOf : ck 39 F_timers_keyOf = true := by kernel_rfl
theorem ok_timers_place_behind : ck 40 F_timers_place_behind = true := by kernel_rfl
theorem ok_sort_Search : ck 42 F_sort_Search = true := by kernel_rfl
theorem ok_nurseryref06_one : ck 43 F_nurseryref06_one = true := by kernel_rfl
theorem ok_nurseryref06_without : ck 44 F_nurseryref06_without = true := by kernel_rfl
theorem ok_nurseryref06_Less : ck 45 F_nurseryref06_Less = true := by kernel_rfl
theorem ok_timers_compare : ck 46 F_timers_compare = true := by kernel_rfl
theorem ok_nurseryref06_same : ck 47 F_nurseryref06_same = true := by kernel_rfl
theorem ok_slices_IndexFunc_api_Timer_api_Timer : ck 48 F_slices_IndexFunc_api_Timer_api_Timer = true := by kernel_rfl
theorem ok_timers_FindC1 : ck 49 F_timers_FindC1 = true := by kernel_rfl
theorem ok_slices_Index_api_Timer_api_Timer : ck 50 F_slices_Index_api_Timer_api_Timer = true := by kernel_rfl
theorem ok_timers_queue_due : ck 51 F_timers_queue_due = true := by kernel_rfl
theorem ok_slices_Clone_api_Timer_api_Timer : ck 52 F_slices_Clone_api_Timer_api_Timer = true := by kernel_rfl
theorem ok_slices_Grow_api_Timer_api_Timer : ck 53 F_slices_Grow_api_Timer_api_Timer = true := by kernel_rfl
theorem ok_slices_DeleteFunc_timers_queue_api_Timer : ck 54 F_slices_DeleteFunc_timers_queue_api_Timer = true := by kernel_rfl
theorem ok_slices_Clone_timers_queue_api_Timer : ck 55 F_slices_Clone_timers_queue_api_Timer = true := by kernel_rfl
theorem ok_timers_queue_withoutC1 : ck 56 F_timers_queue_withoutC1 = true := by kernel_rfl
theorem ok_slices_rotateRight_api_Timer : ck 58 F_slices_rotateRight_api_Timer = true := by kernel_rfl
theorem ok_nurseryref06_indices : ck 59 F_nurseryref06_indices = true := by kernel_rfl
theorem ok_cmp_Or_int : ck 60 F_cmp_Or_int = true := by kernel_rfl
theorem ok_cmp_Compare_int : ck 61 F_cmp_Compare_int = true := by kernel_rfl
theorem ok_timers_queue_dueC1 : ck 62 F_timers_queue_dueC1 = true := by kernel_rfl
theorem ok_slices_IndexFunc_timers_queue_api_Timer : ck 63 F_slices_IndexFunc_timers_queue_api_Timer = true := by kernel_rfl
theorem ok_slices_rotateLeft_api_Timer : ck 64 F_slices_rotateLeft_api_Timer = true := by kernel_rfl
theorem ok_cmp_isNaN_int : ck 65 F_cmp_isNaN_int = true := by kernel_rfl
theorem okR_slices_Insert_timers_queue_api_Timer : ck 41 R_slices_Insert_timers_queue_api_Timer = true := by kernel_rfl
theorem code_of_ck {f : Nat} {F : F} (h : ck f F = true) : FnCode Try.prog phi f F := by
  unfold ck at h
  split at h
  · rename_i fn hf
    split at h
    · rename_i c hc
      simp only [Bool.and_eq_true, Bool.not_eq_true'] at h
      exact ⟨fn, c, hf, h.1, hc, h.2.1, h.2.2⟩
    · simp at h
  · cases h
theorem mixed : Try.prog.follows .mixedOrders = true := by kernel_rfl
theorem laid : laidOutB Try.prog = true := by kernel_rfl
theorem hF : ∀ f F, P f = some F → FnOk Try.prog phi f F := by
  intro f F h
  unfold P at h
  split at h
  · cases h; exact .inl ⟨rfl, code_of_ck ok_nurserylaw06_TimersAdd⟩
  · cases h; exact .inl ⟨rfl, code_of_ck ok_nurserylaw06_TimersRemoved⟩
  · cases h; exact .inl ⟨rfl, code_of_ck ok_nurserylaw06_TimersLast⟩
  · cases h; exact .inl ⟨rfl, code_of_ck ok_nurserylaw06_TimersFind⟩
  · cases h; exact .inl ⟨rfl, code_of_ck ok_nurserylaw06_TimersRun⟩
  · cases h; exact .inl ⟨rfl, code_of_ck ok_nurserylaw06_TimersOrders⟩
  · cases h; exact .inl ⟨rfl, code_of_ck ok_nurserylaw06_TimersReads⟩
  · cases h; exact .inl ⟨rfl, code_of_ck ok_nurserylaw06_TimersExpire⟩
  · cases h; exact .inl ⟨rfl, code_of_ck ok_nurseryref06_Great⟩
  · cases h; exact .inl ⟨rfl, code_of_ck ok_nurserylaw06_awake⟩
  · cases h; exact .inl ⟨rfl, code_of_ck ok_timers_Add⟩
  · cases h; exact .inl ⟨rfl, code_of_ck ok_nurseryref06_Add⟩
  · cases h; exact .inl ⟨rfl, code_of_ck ok_nurseryref06_Same⟩
  · cases h; exact .inl ⟨rfl, code_of_ck ok_timers_Check⟩
  · cases h; exact .inl ⟨rfl, code_of_ck ok_nurseryref06_Check⟩
  · cases h; exact .inl ⟨rfl, code_of_ck ok_timers_Remove⟩
  · cases h; exact .inl ⟨rfl, code_of_ck ok_timers_Find⟩
  · cases h; exact .inl ⟨rfl, code_of_ck ok_nurserylaw06_added⟩
  · cases h; exact .inl ⟨rfl, code_of_ck ok_slices_ContainsFunc_api_Timer_api_Timer⟩
  · cases h; exact .inl ⟨rfl, code_of_ck ok_nurserylaw06_TimersLastC1⟩
  · cases h; exact .inl ⟨rfl, code_of_ck ok_nurserylaw06_key⟩
  · cases h; exact .inl ⟨rfl, code_of_ck ok_slices_Contains_api_Timer_api_Timer⟩
  · cases h; exact .inl ⟨rfl, code_of_ck ok_timers_Next⟩
  · cases h; exact .inl ⟨rfl, code_of_ck ok_timers_Expire⟩
  · cases h; exact .inl ⟨rfl, code_of_ck ok_nurserylaw06_TimersRunC1⟩
  · cases h; exact .inl ⟨rfl, code_of_ck ok_nurserylaw06_TimersOrdersC1⟩
  · cases h; exact .inl ⟨rfl, code_of_ck ok_slices_Concat_api_Timer_api_Timer⟩
  · cases h; exact .inl ⟨rfl, code_of_ck ok_slices_Concat_api_Timer_api_Timer_p⟩
  · cases h; exact .inl ⟨rfl, code_of_ck ok_slices_Reverse_api_Timer_api_Timer⟩
  · cases h; exact .inl ⟨rfl, code_of_ck ok_nurseryref06_Find⟩
  · cases h; exact .inl ⟨rfl, code_of_ck ok_nurseryref06_Next⟩
  · cases h; exact .inl ⟨rfl, code_of_ck ok_nurseryref06_Expire⟩
  · cases h; exact .inl ⟨rfl, code_of_ck ok_nurseryref06_Remove⟩
  · cases h; exact .inl ⟨rfl, code_of_ck ok_nurserylaw06_TimersExpireC1⟩
  · cases h; exact .inl ⟨rfl, code_of_ck ok_nurserylaw06_sleep⟩
  · cases h; exact .inl ⟨rfl, code_of_ck ok_timers_check⟩
  · cases h; exact .inl ⟨rfl, code_of_ck ok_timers_queue_without⟩
  · cases h; exact .inl ⟨rfl, code_of_ck ok_timers_keyOf⟩
  · cases h; exact .inl ⟨rfl, code_of_ck ok_timers_place_behind⟩
  · cases h; exact .inl ⟨rfl, code_of_ck ok_sort_Search⟩
  · cases h; exact .inl ⟨rfl, code_of_ck ok_nurseryref06_one⟩
  · cases h; exact .inl ⟨rfl, code_of_ck ok_nurseryref06_without⟩
  · cases h; exact .inl ⟨rfl, code_of_ck ok_nurseryref06_Less⟩
  · cases h; exact .inl ⟨rfl, code_of_ck ok_timers_compare⟩
  · cases h; exact .inl ⟨rfl, code_of_ck ok_nurseryref06_same⟩
  · cases h; exact .inl ⟨rfl, code_of_ck ok_slices_IndexFunc_api_Timer_api_Timer⟩
  · cases h; exact .inl ⟨rfl, code_of_ck ok_timers_FindC1⟩
  · cases h; exact .inl ⟨rfl, code_of_ck ok_slices_Index_api_Timer_api_Timer⟩
  · cases h; exact .inl ⟨rfl, code_of_ck ok_timers_queue_due⟩
  · cases h; exact .inl ⟨rfl, code_of_ck ok_slices_Clone_api_Timer_api_Timer⟩
  · cases h; exact .inl ⟨rfl, code_of_ck ok_slices_Grow_api_Timer_api_Timer⟩
  · cases h; exact .inl ⟨rfl, code_of_ck ok_slices_DeleteFunc_timers_queue_api_Timer⟩
  · cases h; exact .inl ⟨rfl, code_of_ck ok_slices_Clone_timers_queue_api_Timer⟩
  · cases h; exact .inl ⟨rfl, code_of_ck ok_timers_queue_withoutC1⟩
  · cases h; exact .inl ⟨rfl, code_of_ck ok_slices_rotateRight_api_Timer⟩
  · cases h; exact .inl ⟨rfl, code_of_ck ok_nurseryref06_indices⟩
  · cases h; exact .inl ⟨rfl, code_of_ck ok_cmp_Or_int⟩
  · cases h; exact .inl ⟨rfl, code_of_ck ok_cmp_Compare_int⟩
  · cases h; exact .inl ⟨rfl, code_of_ck ok_timers_queue_dueC1⟩
  · cases h; exact .inl ⟨rfl, code_of_ck ok_slices_IndexFunc_timers_queue_api_Timer⟩
  · cases h; exact .inl ⟨rfl, code_of_ck ok_slices_rotateLeft_api_Timer⟩
  · cases h; exact .inl ⟨rfl, code_of_ck ok_cmp_isNaN_int⟩
  · cases h; exact .inr ⟨_, rfl, ins_ok mixed lkok (code_of_ck okR_slices_Insert_timers_queue_api_Timer) rfl rfl rfl (by decide)⟩
  · cases h
end Go.VS
namespace Go.VS.Tm
abbrev tI : Ty := .i .i64
def tT : Ty := .st [tI, tI, tI]
def tL : Ty := .sl 3 tT
theorem wt_i {cs : List D} (h : WT tI cs) : ∃ n, cs = [I' n] := by
  simp only [tI, WT] at h
  obtain ⟨n, rfl, _⟩ := h
  exact ⟨n, rfl⟩
theorem three_of {cs : List D} (h : WTs [tI, tI, tI] cs) : ∃ a b c, cs = [I' a, I' b, I' c] := by
  simp only [WTs] at h
  obtain ⟨_, _, rfl, h1, _, _, rfl, h2, _, _, rfl, h3, rfl⟩ := h
  obtain ⟨a, rfl⟩ := wt_i h1
  obtain ⟨b, rfl⟩ := wt_i h2
  obtain ⟨c, rfl⟩ := wt_i h3
  exact ⟨a, b, c, rfl⟩
theorem timers_of {rows : List (List D)} (h : ∀ r ∈ rows, WT tT r) : ∃ q : List T, rows = q.map T.row := by
  induction rows with
  | nil => exact ⟨[], rfl⟩
  | cons r rs ih =>
    have h1 := h r (by simp)
    simp only [tT, WT] at h1
    obtain ⟨a, b, c, rfl⟩ := three_of h1
    obtain ⟨q, rfl⟩ := ih fun x hx => h x (by simp [hx])
    exact ⟨⟨a, b, c⟩ :: q, rfl⟩
theorem queue_of {s : D} (h : WV tL s) : ∃ nl l, s = tD nl l ∧ (nl = true → l = []) := by
  simp only [tL, WV, WT] at h
  obtain ⟨nl, rows, h1, h2, _, h3⟩ := h
  obtain rfl : s = .sl 3 nl rows := by simpa using h1
  obtain ⟨q, rfl⟩ := timers_of h3
  exact ⟨nl, q, rfl, fun h => List.map_eq_nil_iff.1 (h2 h)⟩
theorem timer_of {s : D} (h : WV tT s) : ∃ a b c, s = .ag [I' a, I' b, I' c] := by
  simp only [tT, WV] at h
  obtain ⟨cs, rfl, h⟩ := h
  obtain ⟨a, b, c, rfl⟩ := three_of h
  exact ⟨a, b, c, rfl⟩
theorem l_Add (xs : List D) (h : WVs [tL, tT] xs) : ev P (.call nurserylaw06_TimersAdd (xs.map V.d) []) = some (.val (.d (.b true)) []) := by
  simp only [WVs] at h
  obtain ⟨s, _, rfl, hs, t, _, rfl, ht, rfl⟩ := h
  obtain ⟨nl, l, rfl, hnl⟩ := queue_of hs
  obtain ⟨a, b, c, rfl⟩ := timer_of ht
  exact law_Add nl l a b c hnl
end Go.VS.Tm
namespace Go.VS.Tm
/-! the plain law of queues -/
theorem tl_total {a b : T} (h : ¬ tl a b) (hk : a.key ≠ b.key) : tl b a := by
  have : ¬ (a.kind = b.kind ∧ a.index = b.index) := fun ⟨h1, h2⟩ => hk (by unfold T.key; rw [h1, h2])
  unfold tl at *
  omega
theorem mem_wo {k i : Int} {l : List T} {w : T} : w ∈ wo k i l ↔ w ∈ l ∧ w.key ≠ (k, i) := by
  unfold wo
  rw [List.mem_filter]
  simp [T.key]
  intro _
  exact ⟨fun h h1 => h.elim (fun x => absurd h1 x) id, fun h => Classical.or_iff_not_imp_left.2 fun x => h (Classical.not_not.1 x)⟩
theorem QV.sub {l m : List T} (h : QV l) (hs : m.Sublist l) : QV m :=
  ⟨h.srt.sublist hs, fun w hw => h.one w (hs.mem hw), h.dis.sublist hs⟩
theorem QV.wo {l : List T} (h : QV l) (k i : Int) : QV (wo k i l) := h.sub List.filter_sublist
theorem bnd_split (t : T) : ∀ {q : List T}, Sorted q → (∀ w, w ∈ q → w.key ≠ t.key) → (∀ w, w ∈ q.take (bnd t q) → tl w t) ∧ (∀ w, w ∈ q.drop (bnd t q) → tl t w)
  | [], _, _ => by simp
  | a :: q, hs, hk => by
    have hs' := List.pairwise_cons.1 hs
    by_cases hp : cmpT a t < 0
    · have e : bnd t (a :: q) = bnd t q + 1 := by simp [bnd, List.takeWhile_cons, hp]
      obtain ⟨h1, h2⟩ := bnd_split t hs'.2 fun w hw => hk w (by simp [hw])
      rw [e]
      constructor
      · intro w hw
        rw [List.take_succ_cons] at hw
        rcases List.mem_cons.1 hw with rfl | hw
        · exact cmpT_lt.1 hp
        · exact h1 w hw
      · intro w hw
        rw [List.drop_succ_cons] at hw
        exact h2 w hw
    · have e : bnd t (a :: q) = 0 := by simp [bnd, List.takeWhile_cons, hp]
      rw [e]
      refine ⟨by simp, ?_⟩
      have ha : tl t a := tl_total (fun h => hp (cmpT_lt.2 h)) (hk a (by simp))
      intro w hw
      rw [List.drop_zero] at hw
      rcases List.mem_cons.1 hw with rfl | hw
      · exact ha
      · exact tl_trans ha (hs'.1 w hw)
theorem ins_perm (t : T) (q : List T) : (ins t q).Perm (t :: q) := by
  unfold ins
  refine List.perm_middle.trans ?_
  rw [List.take_append_drop]
theorem QV.ins {q : List T} {t : T} (h : QV q) (h1 : chk1 t = 0) (hk : ∀ w, w ∈ q → w.key ≠ t.key) : QV (ins t q) := by
  obtain ⟨b1, b2⟩ := bnd_split t h.srt hk
  refine ⟨?_, ?_, ?_⟩
  · unfold Sorted Tm.ins
    rw [List.pairwise_append]
    refine ⟨h.srt.sublist (List.take_sublist _ _), List.pairwise_cons.2 ⟨b2, h.srt.sublist (List.drop_sublist _ _)⟩, ?_⟩
    intro a ha b hb
    rcases List.mem_cons.1 hb with rfl | hb
    · exact b1 a ha
    · exact tl_trans (b1 a ha) (b2 b hb)
  · intro w hw
    rcases List.mem_cons.1 ((ins_perm t q).mem_iff.1 hw) with rfl | hw
    · exact h1
    · exact h.one w hw
  · have : (t :: q).Pairwise fun a b => a.key ≠ b.key := List.pairwise_cons.2 ⟨fun w hw e => hk w hw e.symm, h.dis⟩
    exact ((ins_perm t q).pairwise_iff (fun e => fun h => e h.symm)).2 this
theorem QV.add {l : List T} {t : T} (h : addE l t = 0) : QV (addS l t) ∧ (addS l t).Perm (t :: Tm.wo t.kind t.index l) ∧ QV l ∧ chk1 t = 0 ∧ addS l t = Tm.ins t (Tm.wo t.kind t.index l) := by
  have e : addS l t = Tm.ins t (Tm.wo t.kind t.index l) := by unfold addS; rw [if_pos h]
  have hq : chkF [] l = 0 := by
    unfold addE at h
    by_cases h0 : chkF [] l = 0
    · exact h0
    · rw [if_pos h0] at h; cases h
  have h1 : chk1 t = 0 := by
    unfold addE at h
    rw [if_neg (by simp [hq])] at h
    exact h
  have hQ := QV_iff.1 hq
  rw [e]
  exact ⟨(hQ.wo _ _).ins h1 fun w hw => (mem_wo.1 hw).2, ins_perm _ _, hQ, h1, rfl⟩
theorem sorted_eq : ∀ {l m : List T}, Sorted l → Sorted m → l.Perm m → l = m
  | [], m, _, _, h => (List.nil_perm.1 h).symm
  | a :: l, [], _, _, h => absurd h.length_eq (by simp)
  | a :: l, b :: m, hl, hm, h => by
    have hl' := List.pairwise_cons.1 hl
    have hm' := List.pairwise_cons.1 hm
    have : a = b := by
      have ha : a ∈ b :: m := h.mem_iff.1 (by simp)
      have hb : b ∈ a :: l := h.mem_iff.2 (by simp)
      rcases List.mem_cons.1 ha with ha | ha
      · exact ha
      · rcases List.mem_cons.1 hb with hb | hb
        · exact hb.symm
        · exact absurd (tl_trans (hl'.1 b hb) (hm'.1 a ha)) tl_irrefl
    subst this
    rw [sorted_eq hl'.2 hm'.2 (List.Perm.cons_inv h)]
theorem wo_of_none {k i : Int} {l : List T} (h : ∀ w, w ∈ l → w.key ≠ (k, i)) : wo k i l = l := by
  unfold wo
  rw [List.filter_eq_self]
  intro w hw
  have := h w hw
  cases hb : (w.kind == k && w.index == i)
  · rfl
  · exfalso; apply this; simpa [T.key] using hb
theorem wo_wo (k i : Int) (l : List T) : wo k i (wo k i l) = wo k i l := wo_of_none fun _ hw => (mem_wo.1 hw).2
theorem wo_perm {k i : Int} {l m : List T} (h : l.Perm m) : (wo k i l).Perm (wo k i m) := h.filter _
theorem wo_cons_same (t : T) (l : List T) : wo t.kind t.index (t :: l) = wo t.kind t.index l := by
  unfold wo
  rw [List.filter_cons]
  simp
theorem wo_add {l : List T} {t : T} (h : addE l t = 0) : wo t.kind t.index (addS l t) = wo t.kind t.index l := by
  obtain ⟨h1, h2, h3, _, _⟩ := QV.add h
  refine sorted_eq (h1.wo _ _).srt (h3.wo _ _).srt ?_
  refine (wo_perm h2).trans ?_
  rw [wo_cons_same, wo_wo]
/-- the timer with a key -/
def fnd (k i : Int) (l : List T) : Option T := l.find? fun w => w.kind == k && w.index == i
theorem fnd_none {k i : Int} {l : List T} : fnd k i l = none ↔ ∀ w, w ∈ l → w.key ≠ (k, i) := by
  unfold fnd
  rw [List.find?_eq_none]
  simp [T.key]
theorem fnd_some {k i : Int} {l : List T} {t : T} (h : fnd k i l = some t) : t ∈ l ∧ t.kind = k ∧ t.index = i := by
  unfold fnd at h
  have h1 := List.find?_some h
  simp at h1
  exact ⟨List.mem_of_find?_eq_some h, h1⟩
theorem key_inj {l : List T} (h : l.Pairwise fun a b => a.key ≠ b.key) {a b : T} (ha : a ∈ l) (hb : b ∈ l) (he : a.key = b.key) : a = b := by
  induction l with
  | nil => cases ha
  | cons x l ih =>
    rw [List.pairwise_cons] at h
    rcases List.mem_cons.1 ha with e1 | h1 <;> rcases List.mem_cons.1 hb with e2 | h2
    · rw [e1, e2]
    · subst e1; exact absurd he (h.1 b h2)
    · subst e2; exact absurd he.symm (h.1 a h1)
    · exact ih h.2 h1 h2
theorem fnd_mem {l : List T} (h : QV l) {w : T} (hw : w ∈ l) : fnd w.kind w.index l = some w := by
  cases hf : fnd w.kind w.index l with
  | none => exact absurd rfl (fnd_none.1 hf w hw)
  | some t =>
    obtain ⟨h1, h2, h3⟩ := fnd_some hf
    rw [key_inj h.dis h1 hw (by unfold T.key; rw [h2, h3])]
/-- the timers that no later one replaces -/
def lasts : List T → List T
  | [] => []
  | t :: r => if r.any (fun u => u.kind == t.kind && u.index == t.index) = true then lasts r else t :: lasts r
theorem addE_of {q : List T} {t : T} (h : QV q) : addE q t = chk1 t := by
  unfold addE
  rw [if_neg (by simp [QV_iff.2 h])]
theorem added_perm : ∀ {l q q' : List T}, QV q → added q l = some q' →
    QV q' ∧ q'.Perm (q.filter (fun w => !l.any fun u => u.kind == w.kind && u.index == w.index) ++ lasts l)
  | [], q, q', hq, h => by
    simp [added] at h
    subst h
    have : q.filter (fun w => !([] : List T).any fun u => u.kind == w.kind && u.index == w.index) = q := by simp
    rw [this]
    exact ⟨hq, by simp [lasts]⟩
  | t :: r, q, q', hq, h => by
    by_cases he : addE q t = 0
    · have h' : added (addS q t) r = some q' := by simpa [added, he] using h
      obtain ⟨a1, a2, _, _, _⟩ := QV.add he
      obtain ⟨b1, b2⟩ := added_perm a1 h'
      refine ⟨b1, b2.trans ?_⟩
      refine ((a2.filter _).append_right _).trans ?_
      have hw : (wo t.kind t.index q).filter (fun w => !r.any fun u => u.kind == w.kind && u.index == w.index) = q.filter (fun w => !(t :: r).any fun u => u.kind == w.kind && u.index == w.index) := by
        unfold wo
        rw [List.filter_filter]
        apply List.filter_congr
        intro w _
        rw [List.any_cons, Bool.not_or, Bool.and_comm]
        congr 1
        congr 1
        rw [Bool.beq_comm (a := w.kind), Bool.beq_comm (a := w.index)]
      rw [List.filter_cons]
      have el : lasts (t :: r) = if r.any (fun u => u.kind == t.kind && u.index == t.index) = true then lasts r else t :: lasts r := rfl
      rw [el]
      by_cases hr : r.any (fun u => u.kind == t.kind && u.index == t.index) = true
      · rw [if_pos hr, if_neg (by simp only [hr]; decide), hw]
      · rw [if_neg hr, if_pos (by simp only [Bool.not_eq_true] at hr; simp only [hr]; decide), hw]
        exact List.perm_middle.symm
    · simp [added, he] at h
theorem QV_nil : QV [] := ⟨List.Pairwise.nil, by simp, List.Pairwise.nil⟩
theorem added_some {l q : List T} (hq : QV q) : (added q l).isSome ↔ ∀ w, w ∈ l → chk1 w = 0 := by
  induction l generalizing q with
  | nil => simp [added]
  | cons t r ih =>
    have e := addE_of (t := t) hq
    by_cases h : chk1 t = 0
    · have h' : addE q t = 0 := by rw [e]; exact h
      have := ih (QV.add h').1
      simp [added, h', this, h]
    · have h' : ¬ addE q t = 0 := by rw [e]; exact h
      simp [added, h', h]
theorem lasts_self : ∀ {l : List T}, (l.Pairwise fun a b => a.key ≠ b.key) → lasts l = l
  | [], _ => rfl
  | t :: r, h => by
    rw [List.pairwise_cons] at h
    unfold lasts
    rw [if_neg, lasts_self h.2]
    intro ha
    obtain ⟨u, hu, h1⟩ := List.any_eq_true.1 ha
    apply h.1 u hu
    simp at h1
    unfold T.key
    rw [h1.1, h1.2]
theorem added_dis {l q : List T} (hd : l.Pairwise fun a b => a.key ≠ b.key) (h : added [] l = some q) : QV q ∧ q.Perm l := by
  obtain ⟨h1, h2⟩ := added_perm QV_nil h
  rw [lasts_self hd] at h2
  exact ⟨h1, by simpa using h2⟩
theorem orders {l m q : List T} (hd : l.Pairwise fun a b => a.key ≠ b.key) (hp : m.Perm l) (h : added [] l = some q) : added [] m = some q := by
  have h1 : (added [] l).isSome := by rw [h]; rfl
  rw [added_some QV_nil] at h1
  have h2 : (added [] m).isSome := (added_some QV_nil).2 fun w hw => h1 w (hp.mem_iff.1 hw)
  obtain ⟨r, hr⟩ := Option.isSome_iff_exists.1 h2
  have hd2 : m.Pairwise fun a b => a.key ≠ b.key := (hp.pairwise_iff (fun e h => e h.symm)).2 hd
  obtain ⟨a1, a2⟩ := added_dis hd h
  obtain ⟨b1, b2⟩ := added_dis hd2 hr
  rw [hr, sorted_eq b1.srt a1.srt ((b2.trans hp).trans a2.symm)]
end Go.VS.Tm
namespace Go.VS.Tm
/-! the pure search functions -/
theorem loop_IA {f : Nat} {first caps : List D} {p : T → Bool} (nl : Bool) (l : List T) (hn : l.length ≤ 1000000)
    (hp : ∀ a b c, ev P (.call f (first.map V.d ++ [.d (.ag [I' a, I' b, I' c])] ++ caps.map V.d) []) = some (.val (.d (.b (p ⟨a, b, c⟩))) [])) :
    ∀ (suf pre : List T), l = pre ++ suf →
    ev P (.loop 0 [0, 1, 7, 8] F_slices_IndexFunc_api_Timer_api_Timer_L0 [(0, .d (tD nl l)), (1, .d (.fn f first caps)), (7, .d (I' l.length)), (8, .d (I' pre.length))] []) =
      match idx p pre.length suf with
      | none => some (.out (.exit 0) [] [])
      | some k => some (.out .ret [(4, .d (I' k))] []) := by
  intro suf
  induction suf with
  | nil =>
    intro pre hl
    have : l.length = pre.length := by simp [hl]
    rw [ev_loop]
    conv => lhs; arg 4; unfold F_slices_IndexFunc_api_Timer_api_Timer_L0
    simp [this, idx]
  | cons w suf ih =>
    intro pre hl
    have hg : l[pre.length]? = some w := by simp [hl]
    have hlt : (pre.length : Int) < l.length := by simp [hl]; omega
    have hnext : IntKind.i64.wrap ((pre.length : Int) + 1) = pre.length + 1 := wrap_i64 (by omega) (by omega)
    have ih' := ih (pre ++ [w]) (by simp [hl])
    simp at ih' hp
    rw [ev_loop]
    conv => lhs; arg 4; unfold F_slices_IndexFunc_api_Timer_api_Timer_L0
    cases hw : p w
    · simp [hlt, hg, T.row, hp, allD_mid, hw, hnext, idx]
      exact ih'
    · simp [hlt, hg, T.row, hp, allD_mid, hw, idx]
theorem ev_IA {f : Nat} {first caps : List D} {p : T → Bool} (nl : Bool) (l : List T) (hn : l.length ≤ 1000000)
    (hp : ∀ a b c, ev P (.call f (first.map V.d ++ [.d (.ag [I' a, I' b, I' c])] ++ caps.map V.d) []) = some (.val (.d (.b (p ⟨a, b, c⟩))) [])) :
    ev P (.call slices_IndexFunc_api_Timer_api_Timer [.d (tD nl l), .d (.fn f first caps)] []) = some (.val (.d (I' (match idx p 0 l with | none => -1 | some k => k))) []) := by
  have hl := loop_IA nl l hn hp l [] rfl
  simp at hl
  rw [ev_call P_slices_IndexFunc_api_Timer_api_Timer rfl]
  simp [F_slices_IndexFunc_api_Timer_api_Timer, hl]
  cases idx p 0 l <;> simp [endH]
theorem idx_none {p : T → Bool} : ∀ {l : List T} {k : Nat}, idx p k l = none ↔ l.any p = false
  | [], k => by simp [idx]
  | w :: l, k => by
    unfold idx
    cases h : p w <;> simp [h]
    have := @idx_none p l (k + 1)
    simp at this
    exact this
theorem idx_some {p : T → Bool} : ∀ {l : List T} {k j : Nat}, idx p k l = some j → k ≤ j ∧ ∃ w, l[j - k]? = some w ∧ l.find? p = some w
  | [], k, j, h => by simp [idx] at h
  | w :: l, k, j, h => by
    unfold idx at h
    cases hp : p w
    · rw [hp] at h
      obtain ⟨h1, u, h2, h3⟩ := idx_some (by simpa using h)
      refine ⟨by omega, u, ?_, by simp [hp, h3]⟩
      have : j - k = (j - (k + 1)) + 1 := by omega
      rw [this]
      simpa using h2
    · rw [hp] at h
      have : k = j := by simpa using h
      subst this
      exact ⟨Nat.le_refl _, w, by simp, by simp [hp]⟩
theorem ev_CF {f : Nat} {first caps : List D} {p : T → Bool} (nl : Bool) (l : List T) (hn : l.length ≤ 1000000)
    (hp : ∀ a b c, ev P (.call f (first.map V.d ++ [.d (.ag [I' a, I' b, I' c])] ++ caps.map V.d) []) = some (.val (.d (.b (p ⟨a, b, c⟩))) [])) :
    ev P (.call slices_ContainsFunc_api_Timer_api_Timer [.d (tD nl l), .d (.fn f first caps)] []) = some (.val (.d (.b (l.any p))) []) := by
  have h := ev_IA nl l hn hp
  rw [ev_call P_slices_ContainsFunc_api_Timer_api_Timer rfl]
  simp [F_slices_ContainsFunc_api_Timer_api_Timer, h]
  cases hi : idx p 0 l with
  | none => rw [idx_none.1 hi]; simp
  | some k =>
    have : l.any p = true := by
      cases ha : l.any p
      · rw [idx_none.2 ha] at hi; cases hi
      · rfl
    rw [this]
    simp
def eqT (a b c : Int) (w : T) : Bool := a == w.time && (b == w.kind && c == w.index)
theorem loop_IX (nl : Bool) (l : List T) (a b c : Int) (hn : l.length ≤ 1000000) : ∀ (suf pre : List T), l = pre ++ suf →
    ev P (.loop 0 [0, 3, 7, 8] F_slices_Index_api_Timer_api_Timer_L0 [(0, .d (tD nl l)), (3, .d (.ref [I' a, I' b, I' c])), (7, .d (I' l.length)), (8, .d (I' pre.length))] []) =
      match idx (eqT a b c) pre.length suf with
      | none => some (.out (.exit 0) [] [])
      | some k => some (.out .ret [(4, .d (I' k))] []) := by
  intro suf
  induction suf with
  | nil =>
    intro pre hl
    have : l.length = pre.length := by simp [hl]
    rw [ev_loop]
    conv => lhs; arg 4; unfold F_slices_Index_api_Timer_api_Timer_L0
    simp [this, idx]
  | cons w suf ih =>
    intro pre hl
    have hg : l[pre.length]? = some w := by simp [hl]
    have hlt : (pre.length : Int) < l.length := by simp [hl]; omega
    have hnext : IntKind.i64.wrap ((pre.length : Int) + 1) = pre.length + 1 := wrap_i64 (by omega) (by omega)
    have ih' := ih (pre ++ [w]) (by simp [hl])
    simp at ih'
    rw [ev_loop]
    conv => lhs; arg 4; unfold F_slices_Index_api_Timer_api_Timer_L0
    cases hw : (a == w.time && (b == w.kind && c == w.index))
    · have he : eqT a b c w = false := hw
      simp [hlt, hg, T.row, hw, hnext, idx, he]
      exact ih'
    · have he : eqT a b c w = true := hw
      simp [hlt, hg, T.row, hw, idx, he]
theorem eqT_iff {t w : T} : eqT t.time t.kind t.index w = true ↔ t = w := by
  unfold eqT
  cases t; cases w; simp
theorem ev_Contains (nl : Bool) (l : List T) (t : T) (hn : l.length ≤ 1000000) :
    ev P (.call slices_Contains_api_Timer_api_Timer [.d (tD nl l), .d (.ag [I' t.time, I' t.kind, I' t.index])] []) = some (.val (.d (.b (decide (t ∈ l)))) []) := by
  have hl := loop_IX nl l t.time t.kind t.index hn l [] rfl
  simp at hl
  have hI : ev P (.call slices_Index_api_Timer_api_Timer [.d (tD nl l), .d (.ag [I' t.time, I' t.kind, I' t.index])] []) = some (.val (.d (I' (match idx (eqT t.time t.kind t.index) 0 l with | none => -1 | some k => k))) []) := by
    rw [ev_call P_slices_Index_api_Timer_api_Timer rfl]
    simp [F_slices_Index_api_Timer_api_Timer, hl]
    cases idx (eqT t.time t.kind t.index) 0 l <;> simp [endH]
  have hm : decide (t ∈ l) = l.any (eqT t.time t.kind t.index) := by
    rw [Bool.eq_iff_iff, decide_eq_true_iff, List.any_eq_true]
    constructor
    · intro h; exact ⟨t, h, eqT_iff.2 rfl⟩
    · rintro ⟨w, hw, he⟩; rw [eqT_iff.1 he]; exact hw
  rw [hm]
  rw [ev_call P_slices_Contains_api_Timer_api_Timer rfl]
  simp [F_slices_Contains_api_Timer_api_Timer, hI]
  cases hi : idx (eqT t.time t.kind t.index) 0 l with
  | none => rw [idx_none.1 hi]; simp
  | some k =>
    have : l.any (eqT t.time t.kind t.index) = true := by
      cases ha : l.any (eqT t.time t.kind t.index)
      · rw [idx_none.2 ha] at hi; cases hi
      · rfl
    rw [this]
    simp
theorem ev_FindC1 (a b c k i : Int) : ev P (.call timers_FindC1 [.d (.ag [I' a, I' b, I' c]), .d (.ref [I' k]), .d (.ref [I' i])] []) = some (.val (.d (.b (b == k && c == i))) []) := by
  rw [ev_call P_timers_FindC1 rfl]
  simp [F_timers_FindC1, ev_keyOf]
/-- what Find answers -/
def findR (k i : Int) (l : List T) : Option T := if chkF [] l = 0 then fnd k i l else none
theorem ev_Find (nl : Bool) (l : List T) (k i : Int) (hn : l.length ≤ 1000000) :
    ev P (.call timers_Find [.d (tD nl l), .d (I' k), .d (I' i)] []) = some (.val (.tu [.d (I' (match findR k i l with | some t => t.time | none => 0)), .d (.b (findR k i l).isSome)]) []) := by
  have hI := ev_IA (f := timers_FindC1) (first := []) (caps := [.ref [I' k], .ref [I' i]]) (p := fun w => w.kind == k && w.index == i) nl l hn (fun a b c => ev_FindC1 a b c k i)
  have hC := ev_tCheck nl l hn
  rw [ev_call P_timers_Find rfl]
  cases hi : idx (fun w => w.kind == k && w.index == i) 0 l with
  | none =>
    have hf : findR k i l = none := by
      unfold findR fnd
      have := idx_none.1 hi
      split
      · rw [List.find?_eq_none]
        intro w hw h
        have h2 : l.any (fun w => w.kind == k && w.index == i) = true := List.any_eq_true.2 ⟨w, hw, h⟩
        rw [this] at h2; cases h2
      · rfl
    rw [hi] at hI
    rw [hf]
    simp [F_timers_Find, hI]
  | some j =>
    rw [hi] at hI
    obtain ⟨_, w, h2, h3⟩ := idx_some hi
    simp at h2
    have hj : ¬ (j : Int) < 0 := by omega
    by_cases hc : chkF [] l = 0
    · have hf : findR k i l = some w := by unfold findR fnd; rw [if_pos hc, h3]
      rw [hf]
      simp [F_timers_Find, hI, hC, hc, h2, hj, T.row]
    · have hc2 : (chkF [] l != 0) = true := by simpa using hc
      have hf : findR k i l = none := by unfold findR; rw [if_neg hc]
      rw [hf]
      simp [F_timers_Find, hI, hC, hc2, hj]
theorem ev_key (a b c : Int) : ev P (.call nurserylaw06_key [.d (.ag [I' a, I' b, I' c])] []) = some (.val (.d (.ag [I' 0, I' b, I' c])) []) := by
  rw [ev_call P_nurserylaw06_key rfl]
  simp [F_nurserylaw06_key, mkRows, allDs, reachC, cut, List.idxOf_cons, overlay]
theorem ev_LastC1 (a b c a' b' c' : Int) : ev P (.call nurserylaw06_TimersLastC1 [.d (.ag [I' a, I' b, I' c]), .d (.ref [I' a', I' b', I' c'])] []) = some (.val (.d (.b (b == b' && c == c'))) []) := by
  rw [ev_call P_nurserylaw06_TimersLastC1 rfl]
  simp [F_nurserylaw06_TimersLastC1, ev_key]
theorem ev_OrdersC1 (a b c a' b' c' : Int) : ev P (.call nurserylaw06_TimersOrdersC1 [.d (.ag [I' a, I' b, I' c]), .d (.ref [I' a', I' b', I' c'])] []) = some (.val (.d (.b (b == b' && c == c'))) []) := by
  rw [ev_call P_nurserylaw06_TimersOrdersC1 rfl]
  simp [F_nurserylaw06_TimersOrdersC1, ev_key]
end Go.VS.Tm
namespace Go.VS.Tm
theorem find_none {k i : Int} {l : List T} : findR k i l = none ↔ (chkF [] l = 0 → ∀ w, w ∈ l → w.key ≠ (k, i)) := by
  unfold findR
  by_cases h : chkF [] l = 0
  · rw [if_pos h, fnd_none]; exact ⟨fun x _ => x, fun x => x h⟩
  · rw [if_neg h]; exact ⟨fun _ h' => absurd h' h, fun _ => rfl⟩
theorem law_Removed (nl : Bool) (l : List T) (a b c : Int) (hnl : nl = true → l = []) : ev P (.call nurserylaw06_TimersRemoved [.d (tD nl l), .d (.ag [I' a, I' b, I' c])] []) = some (.val (.d (.b true)) []) := by
  have hG := ev_Great nl l
  rw [ev_call P_nurserylaw06_TimersRemoved rfl]
  by_cases hg : 40 < l.length
  · have hg' : decide ((40 : Int) < l.length) = true := by simp; omega
    rw [hg'] at hG
    simp [F_nurserylaw06_TimersRemoved, hG, ev_awake]
  · have hg' : decide ((40 : Int) < l.length) = false := by simp; omega
    rw [hg'] at hG
    obtain ⟨n1, hn1, hA⟩ := ev_Add nl l a b c hnl (by omega) sorted_of
    have hlen := addS_len l ⟨a, b, c⟩
    by_cases he : addE l ⟨a, b, c⟩ = 0
    · obtain ⟨q1, q2, q3, q4, q5⟩ := QV.add he
      have hc1 : chkF [] (addS l ⟨a, b, c⟩) = 0 := QV_iff.2 q1
      have hc3 : chkF [] l = 0 := QV_iff.2 q3
      have hw := wo_add he
      simp at hw
      have hwl := wo_len b c l
      have hwv : chkF [] (wo b c l) = 0 := QV_iff.2 (q3.wo _ _)
      obtain ⟨n2, hn2, hR⟩ := ev_tRemove n1 (addS l ⟨a, b, c⟩) b c hn1 (by omega)
      rw [if_pos hc1, hw] at hR
      rw [if_pos hc1, hw] at hn2
      obtain ⟨n3, hn3, hR2⟩ := ev_tRemove n2 (wo b c l) b c hn2 (by omega)
      rw [if_pos hwv, wo_wo] at hR2
      obtain ⟨n4, hn4, hR3⟩ := ev_tRemove nl l b c hnl (by omega)
      rw [if_pos hc3] at hR3
      have hF1 := ev_Find nl l b c (by omega)
      have hF2 := ev_Find n2 (wo b c l) b c (by omega)
      have hf2 : findR b c (wo b c l) = none := find_none.2 fun _ w hw => (mem_wo.1 hw).2
      rw [hf2] at hF2
      have hS1 := ev_Same n2 nl (wo b c l) l (by omega)
      have hS2 := ev_Same n3 n2 (wo b c l) (wo b c l) (by omega)
      have hS3 := ev_Same n4 n2 (wo b c l) (wo b c l) (by omega)
      have hs1 : findR b c l = none → wo b c l = l := fun h => wo_of_none (find_none.1 h hc3)
      rw [he] at hA
      generalize addS l ⟨a, b, c⟩ = q at *
      generalize wo b c l = r at *
      simp at hS2 hS3 hF2
      cases hf : findR b c l with
      | none =>
        have := hs1 hf
        subst this
        rw [hf] at hF1
        simp at hF1 hS1
        simp [F_nurserylaw06_TimersRemoved, hG, ev_awake, hA, hR, hR2, hR3, hF1, hF2, hS1, hS2, hS3]
      | some t =>
        rw [hf] at hF1
        simp at hF1
        simp [F_nurserylaw06_TimersRemoved, hG, ev_awake, hA, hR, hR2, hR3, hF1, hF2, hS2, hS3]
    · have he2 : (addE l ⟨a, b, c⟩ != 0) = true := by simpa using he
      have h0 : addS l ⟨a, b, c⟩ = [] := by unfold addS; rw [if_neg he]
      rw [h0] at hA
      simp [F_nurserylaw06_TimersRemoved, hG, ev_awake, hA, he2]
theorem loop_Find (nl : Bool) (l : List T) (hn : l.length ≤ 1000000) (hq : QV l) : ∀ (suf pre : List T), l = pre ++ suf →
    ev P (.loop 0 [0, 36, 37, 38] F_nurserylaw06_TimersFind_L0 [(0, .d (tD nl l)), (36, .d (tD nl l)), (37, .d (I' l.length)), (38, .d (I' pre.length))] []) = some (.out (.exit 0) [] []) := by
  intro suf
  induction suf with
  | nil =>
    intro pre hl
    have : l.length = pre.length := by simp [hl]
    rw [ev_loop]
    conv => lhs; arg 4; unfold F_nurserylaw06_TimersFind_L0
    simp [this]
  | cons w suf ih =>
    intro pre hl
    have hg : l[pre.length]? = some w := by simp [hl]
    have hlt : (pre.length : Int) < l.length := by simp [hl]; omega
    have hnext : IntKind.i64.wrap ((pre.length : Int) + 1) = pre.length + 1 := wrap_i64 (by omega) (by omega)
    have ih' := ih (pre ++ [w]) (by simp [hl])
    have hw : w ∈ l := by rw [hl]; simp
    have hF := ev_Find nl l w.kind w.index hn
    have hf : findR w.kind w.index l = some w := by unfold findR; rw [if_pos (QV_iff.2 hq), fnd_mem hq hw]
    rw [hf] at hF
    simp at ih' hF
    rw [ev_loop]
    conv => lhs; arg 4; unfold F_nurserylaw06_TimersFind_L0
    simp [hlt, hg, T.row, hF, hnext]
    exact ih'
theorem law_Find (nl : Bool) (l : List T) (k i : Int) : ev P (.call nurserylaw06_TimersFind [.d (tD nl l), .d (I' k), .d (I' i)] []) = some (.val (.d (.b true)) []) := by
  have hG := ev_Great nl l
  rw [ev_call P_nurserylaw06_TimersFind rfl]
  by_cases hg : 40 < l.length
  · have hg' : decide ((40 : Int) < l.length) = true := by simp; omega
    rw [hg'] at hG
    simp [F_nurserylaw06_TimersFind, hG, ev_awake]
  · have hg' : decide ((40 : Int) < l.length) = false := by simp; omega
    rw [hg'] at hG
    have hC := ev_tCheck nl l (by omega)
    by_cases hc : chkF [] l = 0
    · have hq := QV_iff.1 hc
      have hF := ev_Find nl l k i (by omega)
      have hl := loop_Find nl l (by omega) hq l [] rfl
      simp at hl
      rw [hc] at hC
      cases hf : findR k i l with
      | none =>
        rw [hf] at hF
        have hX := ev_Contains nl l ⟨0, k, i⟩ (by omega)
        have hnm : ¬ (⟨0, k, i⟩ : T) ∈ l := fun h => (find_none.1 hf hc _ h) rfl
        simp [hnm] at hX hF
        simp [F_nurserylaw06_TimersFind, hG, ev_awake, hC, hF, hX, hl]
      | some t =>
        rw [hf] at hF
        unfold findR at hf
        rw [if_pos hc] at hf
        obtain ⟨h1, h2, h3⟩ := fnd_some hf
        subst h2; subst h3
        have hX := ev_Contains nl l t (by omega)
        simp [h1] at hX hF
        simp [F_nurserylaw06_TimersFind, hG, ev_awake, hC, hF, hX, hl]
    · have hc2 : (chkF [] l != 0) = true := by simpa using hc
      simp [F_nurserylaw06_TimersFind, hG, ev_awake, hC, hc2]
/-! Last -/
theorem loop_Last (n1 n2 : Bool) (l q : List T) (hn : l.length ≤ 1000) (hq : q.length ≤ 1000) (hm : ∀ w, w ∈ lasts l → w ∈ q) : ∀ (suf pre : List T), l = pre ++ suf → (∀ w, w ∈ lasts suf → w ∈ q) → ∀ k : Nat, k ≤ pre.length →
    ev P (.loop 0 [0, 3, 5, 21, 22, 23] F_nurserylaw06_TimersLast_L0 [(0, .d (tD n1 l)), (3, .d (tD n2 q)), (5, .d (I' k)), (21, .d (tD n1 l)), (22, .d (I' l.length)), (23, .d (I' pre.length))] []) =
      some (.out (.exit 0) [(3, .d (tD n2 q)), (5, .d (I' (k + (lasts suf).length : Nat)))] []) := by
  intro suf
  induction suf with
  | nil =>
    intro pre hl hs k hk
    have : l.length = pre.length := by simp [hl]
    rw [ev_loop]
    conv => lhs; arg 4; unfold F_nurserylaw06_TimersLast_L0
    simp [this, lasts]
  | cons w suf ih =>
    intro pre hl hs k hk
    have hg : l[pre.length]? = some w := by simp [hl]
    have hpl : pre.length < l.length := by simp [hl]
    have hlt : (pre.length : Int) < l.length := by omega
    have hnext : IntKind.i64.wrap ((pre.length : Int) + 1) = pre.length + 1 := wrap_i64 (by omega) (by omega)
    have hknext : IntKind.i64.wrap ((k : Int) + 1) = k + 1 := wrap_i64 (by omega) (by omega)
    have hd : l.drop (pre.length + 1) = suf := by simp [hl]
    have hdl : l.length = pre.length + suf.length + 1 := by simp [hl]; omega
    have hCF := ev_CF (f := nurserylaw06_TimersLastC1) (first := []) (caps := [.ref [I' w.time, I' w.kind, I' w.index]]) (p := fun u => u.kind == w.kind && u.index == w.index) n1 suf (by omega) (fun a b c => ev_LastC1 a b c _ _ _)
    have e1 : lasts (w :: suf) = if suf.any (fun u => u.kind == w.kind && u.index == w.index) = true then lasts suf else w :: lasts suf := rfl
    have h1 : (pre.length : Int) + 1 ≤ l.length := by omega
    have h2 : (l.map T.row).drop (pre.length + 1) = suf.map T.row := by rw [← List.map_drop, hd]
    have h3 : (0 : Int) ≤ pre.length + 1 := by omega
    rw [ev_loop]
    conv => lhs; arg 4; unfold F_nurserylaw06_TimersLast_L0
    cases ha : suf.any (fun u => u.kind == w.kind && u.index == w.index)
    · rw [ha] at e1 hCF
      rw [if_neg (by simp)] at e1
      rw [e1] at hs ⊢
      have hw := hs w (by simp)
      have hX := ev_Contains n2 q w (by omega)
      simp [hw] at hX
      have ih' := ih (pre ++ [w]) (by simp [hl]) (fun u hu => hs u (by simp [hu])) (k + 1) (by simp; omega)
      simp at ih'
      simp [hlt, hg, T.row, hnext, h1, h2, h3, take_map_len, hCF, hX, hknext]
      rw [ih']
      congr 2
      simp
      omega
    · rw [ha] at e1 hCF
      rw [if_pos rfl] at e1
      rw [e1] at hs ⊢
      have ih' := ih (pre ++ [w]) (by simp [hl]) hs k (by simp; omega)
      simp at ih'
      simp [hlt, hg, T.row, hnext, h1, h2, h3, take_map_len, hCF]
      rw [ih']
end Go.VS.Tm
namespace Go.VS.Tm
/-! Concat of two lists, and Reverse -/
def zr : List D := [I' 0, I' 0, I' 0]
theorem ov1 (A : List (List D)) (b : Nat) : overlay (List.replicate (A.length + b) zr) 0 A = A ++ List.replicate b zr := by
  simp [overlay]
theorem ov2 (A B : List (List D)) : overlay (A ++ List.replicate B.length zr) A.length B = A ++ B := by
  simp [overlay]
theorem ev_Grow (n : Nat) (h0 : 0 < n) (hn : n ≤ 1000) : ev P (.call slices_Grow_api_Timer_api_Timer [.d (.sl 3 true []), .d (I' n)] []) = some (.val (.asl 0 0 0) [.arrD 3 true (List.replicate n zr)]) := by
  have h1 : ¬ ((n : Int) < 0) := by omega
  have h2 : IntKind.i64.wrap (n : Int) = n := wrap_i64 (by omega) (by omega)
  have h3 : (0 : Int) < n := by omega
  have h4 : n ≤ room := by unfold room; omega
  have h5 : IntKind.i64.wrap 0 = 0 := by decide
  rw [ev_call P_slices_Grow_api_Timer_api_Timer rfl]
  simp [h0, F_slices_Grow_api_Timer_api_Timer, h1, h2, h3, h4, h5, reachC, cut, zr, endH]
theorem ev_Concat (n1 n2 : Bool) (A B : List T) (h0 : 0 < A.length) (hA : A.length ≤ 100) (hB : B.length ≤ 100) :
    ev P (.call slices_Concat_api_Timer_api_Timer [.d (.sl 1 false [[tD n1 A], [tD n2 B]])] []) = some (.val (.asl 0 0 (A.length + B.length)) [.arrD 3 true (A.map T.row ++ B.map T.row)]) := by
  have w0 : IntKind.i64.wrap (A.length : Int) = A.length := wrap_i64 (by omega) (by omega)
  have w1 : IntKind.i64.wrap ((A.length : Int) + B.length) = (A.length + B.length : Nat) := by rw [wrap_i64 (by omega) (by omega)]; simp
  have w2 : ¬ ((A.length : Int) < 0) := by omega
  have w3 : ¬ ((A.length : Int) + B.length < 0) := by omega
  have k1 : IntKind.i64.wrap 1 = 1 := by decide
  have k2 : IntKind.i64.wrap 2 = 2 := by decide
  have hG := ev_Grow (A.length + B.length) (by omega) (by omega)
  have hL0 : ev P (.loop 0 [0, 3, 9, 10, 11] F_slices_Concat_api_Timer_api_Timer_L0 [(0, .d (.sl 1 false [[tD n1 A], [tD n2 B]])), (3, .d (I' 0)), (9, .d (.sl 1 false [[tD n1 A], [tD n2 B]])), (10, .d (I' 2)), (11, .d (I' 0))] []) =
      some (.out (.exit 0) [(0, .d (.sl 1 false [[tD n1 A], [tD n2 B]])), (3, .d (I' (A.length + B.length : Nat)))] []) := by
    rw [ev_loop]
    conv => lhs; arg 4; unfold F_slices_Concat_api_Timer_api_Timer_L0
    simp [w0, w2, k1]
    rw [ev_loop]
    conv => lhs; arg 4; unfold F_slices_Concat_api_Timer_api_Timer_L0
    simp [w1, w3, k1, k2]
    rw [ev_loop]
    conv => lhs; arg 4; unfold F_slices_Concat_api_Timer_api_Timer_L0
    simp
  have o1 := ov1 (A.map T.row) B.length
  have o2 := ov2 (A.map T.row) (B.map T.row)
  simp only [List.length_map] at o1 o2
  have t1 : ¬ A.length = 0 := by omega
  have hL1 : ev P (.loop 0 [6, 25, 26, 27] F_slices_Concat_api_Timer_api_Timer_L1 [(6, .asl 0 0 0), (25, .d (.sl 1 false [[tD n1 A], [tD n2 B]])), (26, .d (I' 2)), (27, .d (I' 0))] [.arrD 3 true (List.replicate (A.length + B.length) zr)]) =
      some (.out (.exit 2) [(6, .asl 0 0 (A.length + B.length))] [.arrD 3 true (A.map T.row ++ B.map T.row)]) := by
    rw [ev_loop]
    conv => lhs; arg 4; unfold F_slices_Concat_api_Timer_api_Timer_L1
    simp [reachC, cut, k1, t1, o1]
    rw [ev_loop]
    conv => lhs; arg 4; unfold F_slices_Concat_api_Timer_api_Timer_L1
    cases B with
    | nil =>
      simp [reachC, cut, k1, k2]
      rw [ev_loop]
      conv => lhs; arg 4; unfold F_slices_Concat_api_Timer_api_Timer_L1
      simp [reachC, cut]
    | cons b B =>
      simp at o2
      simp [reachC, cut, k1, k2, o2]
      rw [ev_loop]
      conv => lhs; arg 4; unfold F_slices_Concat_api_Timer_api_Timer_L1
      simp [reachC, cut]
  rw [ev_call P_slices_Concat_api_Timer_api_Timer rfl]
  simp at hL0 hG
  simp [F_slices_Concat_api_Timer_api_Timer, hL0, hL1, hG, callD, reachC, cut, endH]
theorem rev_rows (A M B : List T) (x y : T) : (((A ++ (x :: (M ++ [y])) ++ B).map T.row).set A.length y.row).set (A.length + M.length + 1) x.row = ((A ++ [y]) ++ M ++ (x :: B)).map T.row := by
  have e1 : (A ++ (x :: (M ++ [y])) ++ B).map T.row = A.map T.row ++ (x.row :: (M.map T.row ++ y.row :: B.map T.row)) := by simp
  rw [e1, List.set_append_right _ _ (by simp)]
  simp only [List.length_map, Nat.sub_self, List.set_cons_zero]
  rw [List.set_append_right _ _ (by simp; omega)]
  have e2 : A.length + M.length + 1 - (A.map T.row).length = M.length + 1 := by simp; omega
  rw [e2, List.set_cons_succ, List.set_append_right _ _ (by simp)]
  simp
theorem loop_Rev : ∀ (n : Nat) (A M B : List T) (N : Nat) (j : Int), M.length ≤ n → N = A.length + M.length + B.length → N ≤ 1000 → j = A.length + M.length - 1 →
    ev P (.loop 1 [0, 2, 3] F_slices_Reverse_api_Timer_api_Timer_L0 [(0, .asl 0 0 N), (2, .d (I' A.length)), (3, .d (I' j))] [.arrD 3 true ((A ++ M ++ B).map T.row)]) =
      some (.out (.exit 0) [] [.arrD 3 true ((A ++ M.reverse ++ B).map T.row)]) := by
  intro n
  induction n with
  | zero =>
    intro A M B N j hM hN hn hj
    have : M = [] := List.length_eq_zero_iff.1 (by omega)
    subst this
    simp at hj
    have h1 : ¬ ((A.length : Int) < j) := by omega
    rw [ev_loop]
    conv => lhs; arg 4; unfold F_slices_Reverse_api_Timer_api_Timer_L0
    simp [h1, reachC, cut]
  | succ n ih =>
    intro A M B N j hM hN hn hj
    cases M with
    | nil =>
      simp at hj
      have h1 : ¬ ((A.length : Int) < j) := by omega
      rw [ev_loop]
      conv => lhs; arg 4; unfold F_slices_Reverse_api_Timer_api_Timer_L0
      simp [h1, reachC, cut]
    | cons x M =>
      rcases List.eq_nil_or_concat M with rfl | ⟨M', y, rfl⟩
      · simp at hj
        subst hj
        rw [ev_loop]
        conv => lhs; arg 4; unfold F_slices_Reverse_api_Timer_api_Timer_L0
        simp [reachC, cut]
      · simp only [List.concat_eq_append, List.length_cons, List.length_append, List.length_nil] at hM hN hj
        obtain ⟨m, hm⟩ : ∃ m, m = A.length + M'.length + 1 := ⟨_, rfl⟩
        have hj' : j = (m : Int) := by omega
        subst hj'
        have h1 : (A.length : Int) < m := by omega
        have h1' : A.length < m := by omega
        have h3 : (m : Int) < N := by omega
        have h5 : (A.length : Int) < N := by omega
        have w1 : IntKind.i64.wrap ((A.length : Int) + 1) = A.length + 1 := wrap_i64 (by omega) (by omega)
        have w2 : IntKind.i64.wrap ((m : Int) - 1) = m - 1 := wrap_i64 (by omega) (by omega)
        have ih' := ih (A ++ [y]) M' (x :: B) N (m - 1) (by omega) (by simp; omega) hn (by simp; omega)
        have hrev : A ++ (x :: (M' ++ [y])).reverse ++ B = (A ++ [y]) ++ M'.reverse ++ (x :: B) := by simp
        rw [List.concat_eq_append, hrev]
        have hrr := rev_rows A M' B x y
        rw [← hm] at hrr
        rw [← hrr] at ih'
        have hx : ((A ++ (x :: (M' ++ [y])) ++ B).map T.row)[A.length]? = some x.row := by simp
        have hy : ((A ++ (x :: (M' ++ [y])) ++ B).map T.row)[m]? = some y.row := by
          rw [hm]
          have e1 : (A ++ (x :: (M' ++ [y])) ++ B).map T.row = (A ++ x :: M').map T.row ++ (y.row :: B.map T.row) := by simp
          have e2 : A.length + M'.length + 1 = ((A ++ x :: M').map T.row).length := by simp; omega
          rw [e1, e2, List.getElem?_append_right (Nat.le_refl _)]
          simp
        have hRN : ((A ++ (x :: (M' ++ [y])) ++ B).map T.row).length = N := by simp; omega
        generalize (A ++ (x :: (M' ++ [y])) ++ B).map T.row = R at *
        have gx : ∀ h : A.length < R.length, R[A.length] = [I' x.time, I' x.kind, I' x.index] := fun h => by
          rw [List.getElem?_eq_getElem h] at hx; exact Option.some.inj hx
        have gy : ∀ h : m < R.length, R[m] = [I' y.time, I' y.kind, I' y.index] := fun h => by
          rw [List.getElem?_eq_getElem h] at hy; exact Option.some.inj hy
        have hne : ¬ A.length = m := by omega
        generalize hRR : (A ++ [y] ++ M'.reverse ++ x :: B).map T.row = RR at *
        rw [ev_loop]
        conv => lhs; arg 4; unfold F_slices_Reverse_api_Timer_api_Timer_L0
        simp only [T.row] at ih'
        simp at ih'
        have hAN : A.length < N := by omega
        have hmN : m < N := by omega
        simp [h1, h1', h3, h5, w1, w2, gx, gy, hAN, hmN, hRN, reachC, cut, overlay, hne, List.getElem_set]
        exact ih'
end Go.VS.Tm
namespace Go.VS.Tm
theorem law_Last (n1 : Bool) (l : List T) : ev P (.call nurserylaw06_TimersLast [.d (tD n1 l)] []) = some (.val (.d (.b true)) []) := by
  rw [ev_call P_nurserylaw06_TimersLast rfl]
  by_cases hg : 30 < l.length
  · have hg' : (30 : Int) < l.length := by omega
    simp [F_nurserylaw06_TimersLast, hg', ev_awake]
  · have hg' : ¬ (30 : Int) < l.length := by omega
    obtain ⟨n2, hn2, hA⟩ := ev_added n1 l (by omega)
    cases ha : added [] l with
    | none =>
      rw [ha] at hA
      simp at hA
      simp [F_nurserylaw06_TimersLast, hg', ev_awake, hA]
    | some q =>
      obtain ⟨h1, h2⟩ := added_perm QV_nil ha
      simp at h2
      have hlen : q.length = (lasts l).length := h2.length_eq
      have hle : ∀ m : List T, (lasts m).length ≤ m.length := by
        intro m
        induction m with
        | nil => simp [lasts]
        | cons t r ih =>
          have e1 : lasts (t :: r) = if r.any (fun u => u.kind == t.kind && u.index == t.index) = true then lasts r else t :: lasts r := rfl
          rw [e1]
          split <;> simp <;> omega
      have := hle l
      have hL := loop_Last n1 n2 l q (by omega) (by omega) (fun w hw => h2.mem_iff.2 hw) l [] rfl (fun w hw => h2.mem_iff.2 hw) 0 (by simp)
      have hC := ev_tCheck n2 q (by omega)
      rw [QV_iff.2 h1] at hC
      rw [ha] at hA
      rw [← hlen] at hL
      simp at hA hL hC
      simp [F_nurserylaw06_TimersLast, hg', ev_awake, hA, hL, hC]
/-- some timer has the key of one before it -/
def dupF : List T → List T → Bool
  | _, [] => false
  | pre, w :: r => pre.any (fun u => u.kind == w.kind && u.index == w.index) || dupF (pre ++ [w]) r
theorem any_key {l : List T} {w : T} : l.any (fun u => u.kind == w.kind && u.index == w.index) = false ↔ ∀ a, a ∈ l → a.key ≠ w.key := by
  rw [List.any_eq_false]
  simp [T.key]
theorem dupF_false : ∀ {suf pre : List T}, dupF pre suf = false → (∀ a, a ∈ pre → ∀ b, b ∈ suf → a.key ≠ b.key) ∧ suf.Pairwise fun a b => a.key ≠ b.key
  | [], pre, _ => by simp
  | w :: r, pre, h => by
    unfold dupF at h
    rw [Bool.or_eq_false_iff] at h
    obtain ⟨h1, h2⟩ := h
    have h1 := any_key.1 h1
    obtain ⟨h3, h4⟩ := dupF_false h2
    refine ⟨?_, List.pairwise_cons.2 ⟨fun b hb => h3 w (by simp) b hb, h4⟩⟩
    intro a ha b hb
    rcases List.mem_cons.1 hb with e | hb
    · rw [e]; exact h1 a ha
    · exact h3 a (by simp [ha]) b hb
theorem loop_Orders (n1 n2 : Bool) (l q : List T) (n : D) (hn : l.length ≤ 1000) : ∀ (suf pre : List T), l = pre ++ suf →
    ev P (.loop 0 [0, 1, 5, 30, 31, 32] F_nurserylaw06_TimersOrders_L0 [(0, .d (tD n1 l)), (1, .d n), (5, .d (tD n2 q)), (30, .d (tD n1 l)), (31, .d (I' l.length)), (32, .d (I' pre.length))] []) =
      if dupF pre suf = true then some (.out .ret [(4, .d (.b true))] []) else some (.out (.exit 0) [(0, .d (tD n1 l)), (1, .d n), (5, .d (tD n2 q))] []) := by
  intro suf
  induction suf with
  | nil =>
    intro pre hl
    have : l.length = pre.length := by simp [hl]
    rw [ev_loop]
    conv => lhs; arg 4; unfold F_nurserylaw06_TimersOrders_L0
    simp [this, dupF]
  | cons w suf ih =>
    intro pre hl
    have hg : l[pre.length]? = some w := by simp [hl]
    have hpl : pre.length < l.length := by simp [hl]
    have hlt : (pre.length : Int) < l.length := by omega
    have hle : (pre.length : Int) ≤ l.length := by omega
    have hnext : IntKind.i64.wrap ((pre.length : Int) + 1) = pre.length + 1 := wrap_i64 (by omega) (by omega)
    have hd : (l.map T.row).take pre.length = pre.map T.row := by simp [hl]
    have hCF := ev_CF (f := nurserylaw06_TimersOrdersC1) (first := []) (caps := [.ref [I' w.time, I' w.kind, I' w.index]]) (p := fun u => u.kind == w.kind && u.index == w.index) n1 pre (by omega) (fun a b c => ev_OrdersC1 a b c _ _ _)
    have ih' := ih (pre ++ [w]) (by simp [hl])
    have e1 : dupF pre (w :: suf) = (pre.any (fun u => u.kind == w.kind && u.index == w.index) || dupF (pre ++ [w]) suf) := rfl
    rw [e1]
    generalize dupF (pre ++ [w]) suf = dd at *
    simp at ih'
    rw [ev_loop]
    conv => lhs; arg 4; unfold F_nurserylaw06_TimersOrders_L0
    cases ha : pre.any (fun u => u.kind == w.kind && u.index == w.index)
    · rw [ha] at hCF
      simp [hlt, hle, hg, T.row, hnext, hd, hCF, ha]
      exact ih'
    · rw [ha] at hCF
      simp [hlt, hle, hg, T.row, hnext, hd, hCF, ha, ev_awake]
theorem ev_Reverse (l : List T) (hn : l.length ≤ 1000) : ev P (.call slices_Reverse_api_Timer_api_Timer [.asl 0 0 l.length] [.arrD 3 true (l.map T.row)]) = some (.val (.tu []) [.arrD 3 true (l.reverse.map T.row)]) := by
  have hw : IntKind.i64.wrap ((l.length : Int) - 1) = l.length - 1 := wrap_i64 (by omega) (by omega)
  have hL := loop_Rev l.length [] l [] l.length (l.length - 1) (Nat.le_refl _) (by simp) hn (by simp)
  simp at hL
  rw [ev_call P_slices_Reverse_api_Timer_api_Timer rfl]
  simp [F_slices_Reverse_api_Timer_api_Timer, hw, hL, reachC, cut, endH]
theorem law_Orders (n1 : Bool) (l : List T) (n : Int) (h0 : 0 ≤ n) (h1 : n ≤ 255) : ev P (.call nurserylaw06_TimersOrders [.d (tD n1 l), .d (.i .u8 n)] []) = some (.val (.d (.b true)) []) := by
  rw [ev_call P_nurserylaw06_TimersOrders rfl]
  by_cases hg0 : l.length = 0
  · simp [F_nurserylaw06_TimersOrders, hg0, ev_awake]
  · have hg0' : ((l.length : Int) == 0) = false := by simpa using hg0
    by_cases hg : 30 < l.length
    · have hg' : (30 : Int) < l.length := by omega
      simp [F_nurserylaw06_TimersOrders, hg0', hg', ev_awake]
    · have hg' : ¬ (30 : Int) < l.length := by omega
      obtain ⟨n2, hn2, hA⟩ := ev_added n1 l (by omega)
      cases ha : added [] l with
      | none =>
        rw [ha] at hA
        simp at hA
        simp [F_nurserylaw06_TimersOrders, hg0', hg', ev_awake, hA]
      | some q =>
        rw [ha] at hA
        have hL := loop_Orders n1 n2 l q (.i .u8 n) (by omega) l [] rfl
        cases hd : dupF [] l
        · obtain ⟨_, hdis⟩ := dupF_false hd
          rw [hd] at hL
          obtain ⟨k, hk⟩ : ∃ k : Nat, (k : Int) = n.tmod l.length ∧ k < l.length := by
            have a1 := Int.tmod_nonneg (l.length : Int) h0
            have a2 := Int.tmod_lt_of_pos n (b := (l.length : Int)) (by omega)
            exact ⟨(n.tmod l.length).toNat, by omega, by omega⟩
          obtain ⟨hk1, hk2⟩ := hk
          have hw : IntKind.i64.wrap n = n := wrap_i64 (by omega) (by omega)
          have hk3 : (k : Int) ≤ l.length := by omega
          have hdl : (l.drop k).length = l.length - k := by simp
          have htl : (l.take k).length = k := by simp; omega
          have hCc := ev_Concat n1 n1 (l.drop k) (l.take k) (by omega) (by omega) (by omega)
          have hRv := ev_Reverse (l.drop k ++ l.take k) (by simp; omega)
          obtain ⟨n3, hn3, hB⟩ := ev_added false (l.drop k ++ l.take k).reverse (by simp; omega)
          have hperm : (l.drop k ++ l.take k).reverse.Perm l :=
            (List.reverse_perm _).trans (List.perm_append_comm.trans (by rw [List.take_append_drop]))
          have hO := orders hdis hperm ha
          obtain ⟨hq1, hq2⟩ := added_dis hdis ha
          have hql := hq2.length_eq
          rw [hO] at hB
          have hS := ev_Same n2 n3 q q (by omega)
          have hlen : (l.drop k ++ l.take k).length = l.length := by simp; omega
          have e1 : l.length - k + k = l.length := by omega
          rw [hlen] at hRv
          rw [hdl, htl, e1] at hCc
          simp at hA hL hS
          simp [tD] at hCc
          have hRv : ev P (.call slices_Reverse_api_Timer_api_Timer [.asl 0 0 l.length] [.arrD 3 true ((l.map T.row).drop k ++ (l.map T.row).take k)]) = some (.val (.tu []) [.arrD 3 true ((l.drop k ++ l.take k).reverse.map T.row)]) := by
            have : (l.drop k ++ l.take k).map T.row = (l.map T.row).drop k ++ (l.map T.row).take k := by simp
            rw [← this]; exact hRv
          generalize hR : (l.drop k ++ l.take k).reverse = R at *
          have hRl : R.length = l.length := by rw [← hR]; simp; omega
          have hRt : (R.map T.row).take l.length = R.map T.row := List.take_of_length_le (by simp; omega)
          have hqe : ((q.length : Int) == l.length) = true := by simp; omega
          have hk4 : (0 : Int) ≤ k := by omega
          have hne : ¬ l = [] := fun h => hg0 (by rw [h]; rfl)
          have hk5 : k ≤ l.length := by omega
          simp at hB
          simp [F_nurserylaw06_TimersOrders, hg0', hg', ev_awake, hA, hL, hw, ← hk1, hne, hk3, hk5, hk4, take_map_len, callD, hCc, callR, hRv, reachC, cut, List.idxOf_cons, sub, setAll, back, thaw, freezeAll, freeze1, hRl, hRt, hB, hS, hql]
          done
        · rw [hd] at hL
          simp at hA hL
          simp [F_nurserylaw06_TimersOrders, hg0', hg', ev_awake, hA, hL]
end Go.VS.Tm
namespace Go.VS.Tm
theorem l_Removed (xs : List D) (h : WVs [tL, tT] xs) : ev P (.call nurserylaw06_TimersRemoved (xs.map V.d) []) = some (.val (.d (.b true)) []) := by
  simp only [WVs] at h
  obtain ⟨s, _, rfl, hs, t, _, rfl, ht, rfl⟩ := h
  obtain ⟨nl, l, rfl, hnl⟩ := queue_of hs
  obtain ⟨a, b, c, rfl⟩ := timer_of ht
  exact law_Removed nl l a b c hnl
theorem int_of {s : D} (h : WV tI s) : ∃ n, s = I' n := by
  simp only [tI, WV] at h
  obtain ⟨n, hn⟩ := wt_i h
  exact ⟨n, by simpa using hn⟩
theorem l_Find (xs : List D) (h : WVs [tL, tI, tI] xs) : ev P (.call nurserylaw06_TimersFind (xs.map V.d) []) = some (.val (.d (.b true)) []) := by
  simp only [WVs] at h
  obtain ⟨s, _, rfl, hs, t, _, rfl, ht, u, _, rfl, hu, rfl⟩ := h
  obtain ⟨nl, l, rfl, hnl⟩ := queue_of hs
  obtain ⟨a, rfl⟩ := int_of ht
  obtain ⟨b, rfl⟩ := int_of hu
  exact law_Find nl l a b
theorem l_Last (xs : List D) (h : WVs [tL] xs) : ev P (.call nurserylaw06_TimersLast (xs.map V.d) []) = some (.val (.d (.b true)) []) := by
  simp only [WVs] at h
  obtain ⟨s, _, rfl, hs, rfl⟩ := h
  obtain ⟨nl, l, rfl, hnl⟩ := queue_of hs
  exact law_Last nl l
abbrev tU : Ty := .i .u8
theorem u8_of {s : D} (h : WV tU s) : ∃ n, s = .i .u8 n ∧ 0 ≤ n ∧ n ≤ 255 := by
  simp only [tU, WV, WT] at h
  obtain ⟨n, h1, h2⟩ := h
  refine ⟨n, by simpa using h1, ?_⟩
  exact h2
theorem l_Orders (xs : List D) (h : WVs [tL, tU] xs) : ev P (.call nurserylaw06_TimersOrders (xs.map V.d) []) = some (.val (.d (.b true)) []) := by
  simp only [WVs] at h
  obtain ⟨s, _, rfl, hs, t, _, rfl, ht, rfl⟩ := h
  obtain ⟨nl, l, rfl, hnl⟩ := queue_of hs
  obtain ⟨n, rfl, h0, h1⟩ := u8_of ht
  exact law_Orders nl l n h0 h1
end Go.VS.Tm
namespace Go.VS.Tm
/-! Expire: a range over a function -/
theorem r2 : List.range 2 = [0, 1] := rfl
theorem r3 : List.range 3 = [0, 1, 2] := rfl
theorem round0 (a b c : Int) : ev P (.round [14] F_timers_Expire_A0 F_timers_Expire_B0 [.d (.ag [I' a, I' b, I' c])] [(6, .loc 0 0 0)] [.arrD 1 true [[.sl 3 true []]]]) =
    some (.out .normal [] [.arrV 1 [[.asl 1 0 1]], .arrD 3 true [[I' a, I' b, I' c]]]) := by
  have hr : 1 ≤ room := by unfold room; omega
  rw [ev_round]
  simp [F_timers_Expire_A0, F_timers_Expire_B0, reachC, cut, List.idxOf_cons, hr]
theorem round1 (a b c : Int) (rows : List (List D)) (n : Nat) (h0 : rows ≠ []) (hl : rows.length = n) (hn : n ≤ 1000000) : ev P (.round [14] F_timers_Expire_A0 F_timers_Expire_B0 [.d (.ag [I' a, I' b, I' c])] [(6, .loc 0 0 0)] [.arrV 1 [[.asl 1 0 n]], .arrD 3 true rows]) =
    some (.out .normal [] [.arrV 1 [[.asl 2 0 (n + 1)]], .dead, .arrD 3 true (rows ++ [[I' a, I' b, I' c]])]) := by
  have hr : n + 1 ≤ room := by unfold room; omega
  subst hl
  rw [ev_round]
  simp [F_timers_Expire_A0, F_timers_Expire_B0, reachC, cut, List.idxOf_cons, hr, Nat.not_succ_le_self, r2]
/-- what the loop's record holds; the list that has grown -/
abbrev lpE : O := .lp [14] F_timers_Expire_A0 F_timers_Expire_B0 .normal [(6, .loc 1 0 0)]
def HX : List T → List O
  | [] => [lpE, .arrD 1 true [[.sl 3 true []]]]
  | w :: r => [lpE, .arrV 1 [[.asl 2 0 (w :: r).length]], .arrD 3 true ((w :: r).map T.row)]
def HY (acc : List T) (w : T) : List O :=
  match acc with
  | [] => [lpE, .arrV 1 [[.asl 3 0 1]], .dead, .arrD 3 true [w.row]]
  | x :: r => [lpE, .arrV 1 [[.asl 4 0 ((x :: r).length + 1)]], .dead, .dead, .arrD 3 true ((x :: r).map T.row ++ [w.row])]
theorem yl (acc : List T) (a b c : Int) (hn : acc.length ≤ 1000000) : callY (ev P) (HX acc ++ [.dead]) (.yld 0) [.d (.ag [I' a, I' b, I' c])] = some (.d (.b true), HY acc ⟨a, b, c⟩) := by
  cases acc with
  | nil =>
    have h := round0 a b c
    simp [HX, HY, callY, reachC, cut, List.idxOf_cons, h, setAll, back, T.row, List.getD]
  | cons x r =>
    have h := round1 a b c ((x :: r).map T.row) (r.length + 1) (by simp) (by simp) hn
    simp [T.row] at h
    simp [HX, HY, callY, reachC, cut, List.idxOf_cons, h, setAll, back, T.row, List.getD]
theorem loop_due (nl : Bool) (l : List T) (now : Int) (hn : l.length ≤ 1000000) : ∀ (suf pre acc : List T), l = pre ++ suf → acc.length ≤ pre.length → ∃ x, (x = .exit 0 ∨ x = .ret) ∧
    ev P (.loop 2 [0, 2, 6, 7, 8] F_timers_queue_dueC1_L0 [(0, .yld 0), (2, .d (.ref [I' now])), (6, .d (tD nl l)), (7, .d (I' l.length)), (8, .d (I' pre.length))] (HX acc)) =
      some (.out x [] (HX (acc ++ suf.takeWhile fun w => decide (w.time ≤ now)))) := by
  intro suf
  induction suf with
  | nil =>
    intro pre acc hl ha
    have : l.length = pre.length := by simp [hl]
    refine ⟨.exit 0, .inl rfl, ?_⟩
    rw [ev_loop]
    conv => lhs; arg 4; unfold F_timers_queue_dueC1_L0
    cases acc with
    | nil => simp [this, HX, reachC, cut, r2, List.idxOf_cons]
    | cons x r => simp [this, HX, reachC, cut, r2, List.idxOf_cons]
  | cons w suf ih =>
    intro pre acc hl ha
    have hg : l[pre.length]? = some w := by simp [hl]
    have hpl : pre.length < l.length := by simp [hl]
    have hlt : (pre.length : Int) < l.length := by omega
    have hnext : IntKind.i64.wrap ((pre.length : Int) + 1) = pre.length + 1 := wrap_i64 (by omega) (by omega)
    have hy := yl acc w.time w.kind w.index (by omega)
    cases ht : decide (now < w.time) with
    | true =>
      have ht' : ¬ w.time ≤ now := by simp at ht; omega
      refine ⟨.ret, .inr rfl, ?_⟩
      simp only [List.takeWhile_cons, ht', decide_false, Bool.false_eq_true, if_false, List.append_nil]
      rw [ev_loop]
      conv => lhs; arg 4; unfold F_timers_queue_dueC1_L0
      cases acc with
      | nil => simp [hlt, hg, T.row, ht, HX, reachC, cut, r2, List.idxOf_cons]
      | cons x r => simp [hlt, hg, T.row, ht, HX, reachC, cut, r2, List.idxOf_cons]
    | false =>
      have ht' : w.time ≤ now := by simp at ht; omega
      obtain ⟨x, hx, ih'⟩ := ih (pre ++ [w]) (acc ++ [w]) (by simp [hl]) (by simp; omega)
      refine ⟨x, hx, ?_⟩
      simp only [List.takeWhile_cons, ht', decide_true, if_true]
      have e1 : acc ++ w :: suf.takeWhile (fun w => decide (w.time ≤ now)) = acc ++ [w] ++ suf.takeWhile (fun w => decide (w.time ≤ now)) := by simp
      rw [e1, ← ih']
      rw [ev_loop]
      conv => lhs; arg 4; unfold F_timers_queue_dueC1_L0
      generalize hR : ev P (.loop 2 [0, 2, 6, 7, 8] F_timers_queue_dueC1_L0 [(0, .yld 0), (2, .d (.ref [I' now])), (6, .d (tD nl l)), (7, .d (I' l.length)), (8, .d (I' (pre ++ [w]).length))] (HX (acc ++ [w]))) = R
      cases acc with
      | nil =>
        simp [HX, HY, T.row] at hy hR
        simp [hlt, hg, T.row, ht, hy, hnext, HX, reachC, cut, r2, List.idxOf_cons, hR]
      | cons x r =>
        simp [HX, HY, T.row] at hy hR
        simp [hlt, hg, T.row, ht, hy, hnext, HX, reachC, cut, r2, List.idxOf_cons, hR]
theorem ev_dueC1 (nl : Bool) (l : List T) (now : Int) (hn : l.length ≤ 1000000) : ev P (.call timers_queue_dueC1 [.yld 0, .d (.ref [tD nl l]), .d (.ref [I' now])] (HX [])) =
    some (.val (.tu []) (HX (l.takeWhile fun w => decide (w.time ≤ now)))) := by
  obtain ⟨x, hx, hl⟩ := loop_due nl l now hn l [] [] rfl (by simp)
  simp at hl
  generalize l.takeWhile (fun w => decide (w.time ≤ now)) = out at *
  rw [ev_call P_timers_queue_dueC1 rfl]
  rcases hx with rfl | rfl <;> cases out <;> simp [HX] at hl <;> simp [F_timers_queue_dueC1, HX, reachC, cut, r2, List.idxOf_cons, hl, endH]
theorem ev_Clone2 (nl : Bool) (q : List T) (hnl : nl = true → q = []) (hn : q.length ≤ 1000000) :
    ev P (.call slices_Clone_api_Timer_api_Timer [.d (tD nl q)] []) = some (.val (.d (tD nl q)) []) := by
  have hr : q.length ≤ room := by unfold room; omega
  rw [ev_call P_slices_Clone_api_Timer_api_Timer rfl]
  cases nl
  · cases q with
    | nil => simp [F_slices_Clone_api_Timer_api_Timer]
    | cons a r =>
      simp at hr
      simp [F_slices_Clone_api_Timer_api_Timer, hr, take_map_len]
  · simp [F_slices_Clone_api_Timer_api_Timer, hnl rfl]
theorem ev_due (nl : Bool) (l : List T) (now : Int) : ev P (.call timers_queue_due [.d (tD nl l), .d (I' now)] []) = some (.val (.d (.fn timers_queue_dueC1 [] [.ref [tD nl l], .ref [I' now]])) []) := by
  rw [ev_call P_timers_queue_due rfl]
  simp [F_timers_queue_due]
/-- the timers that are due -/
def dueL (now : Int) (l : List T) : List T := l.takeWhile fun w => decide (w.time ≤ now)
theorem ev_tExpire (nl : Bool) (l : List T) (now : Int) (hnl : nl = true → l = []) (hn : l.length ≤ 1000000) :
    ev P (.call timers_Expire [.d (tD nl l), .d (I' now)] []) =
      if chkF [] l = 0 then some (.val (.tu [.d (tD (decide (dueL now l = [])) (dueL now l)), .d (tD nl (l.drop (dueL now l).length))]) []) else some (.val (.tu [.d (tD true []), .d (tD true [])]) []) := by
  have hC := ev_tCheck nl l hn
  have hD := ev_due nl l now
  have hle : (dueL now l).length ≤ l.length := (List.takeWhile_sublist _).length_le
  have hE := ev_dueC1 nl l now hn
  have hK := ev_Clone2 nl (l.drop (dueL now l).length) (fun h => by rw [hnl h]; simp) (by simp; omega)
  have e1 : (l.map T.row).drop (dueL now l).length = (l.drop (dueL now l).length).map T.row := by rw [List.map_drop]
  change _ = some (Res.val (.tu []) (HX (dueL now l))) at hE
  rw [ev_call P_timers_Expire rfl]
  by_cases hc : chkF [] l = 0
  · rw [hc] at hC
    rw [if_pos hc]
    generalize hdue : dueL now l = due at *
    cases due with
    | nil =>
      simp [HX] at hE hK
      simp [F_timers_Expire, hC, hD, hE, hK, callR, reachC, cut, List.idxOf_cons, setAll, back, HX, List.getD, take_map_len]
    | cons x r =>
      have h2 : (0 : Int) ≤ r.length + 1 := by omega
      have hR : tD nl (l.drop (x :: r).length) = .sl 3 nl ((l.map T.row).drop (r.length + 1)) := by simp
      rw [hR] at hK ⊢
      simp [HX] at hE hK hle
      have h1 : (r.length : Int) + 1 ≤ l.length := by omega
      simp [F_timers_Expire, hC, hD, hE, hK, callR, reachC, cut, List.idxOf_cons, setAll, back, HX, List.getD, h1, h2, take_map_len, hdue]
  · have hc2 : (chkF [] l != 0) = true := by simpa using hc
    rw [if_neg hc]
    simp [F_timers_Expire, hC, hc2]
end Go.VS.Tm
namespace Go.VS.Tm
/-! Concat of two lists, its result taken as a value -/
theorem ev_Grow0 : ev P (.call slices_Grow_api_Timer_api_Timer [.d (.sl 3 true []), .d (I' 0)] []) = some (.val (.d (.sl 3 true [])) []) := by
  have h5 : IntKind.i64.wrap 0 = 0 := by decide
  rw [ev_call P_slices_Grow_api_Timer_api_Timer rfl]
  simp [F_slices_Grow_api_Timer_api_Timer, h5, endH]
theorem ev_ConcatP (n1 n2 : Bool) (A B : List T) (hA : A.length ≤ 100) (hB : B.length ≤ 100) :
    ∃ n, ev P (.call slices_Concat_api_Timer_api_Timer_p [.d (.sl 1 false [[tD n1 A], [tD n2 B]])] []) = some (.val (.d (tD n (A ++ B))) []) := by
  have w0 : IntKind.i64.wrap (A.length : Int) = A.length := wrap_i64 (by omega) (by omega)
  have w1 : IntKind.i64.wrap ((A.length : Int) + B.length) = (A.length + B.length : Nat) := by rw [wrap_i64 (by omega) (by omega)]; simp
  have w2 : ¬ ((A.length : Int) < 0) := by omega
  have w3 : ¬ ((A.length : Int) + B.length < 0) := by omega
  have k1 : IntKind.i64.wrap 1 = 1 := by decide
  have k2 : IntKind.i64.wrap 2 = 2 := by decide
  have hL0 : ev P (.loop 0 [0, 3, 9, 10, 11] F_slices_Concat_api_Timer_api_Timer_L0 [(0, .d (.sl 1 false [[tD n1 A], [tD n2 B]])), (3, .d (I' 0)), (9, .d (.sl 1 false [[tD n1 A], [tD n2 B]])), (10, .d (I' 2)), (11, .d (I' 0))] []) =
      some (.out (.exit 0) [(0, .d (.sl 1 false [[tD n1 A], [tD n2 B]])), (3, .d (I' (A.length + B.length : Nat)))] []) := by
    rw [ev_loop]
    conv => lhs; arg 4; unfold F_slices_Concat_api_Timer_api_Timer_L0
    simp [w0, w2, k1]
    rw [ev_loop]
    conv => lhs; arg 4; unfold F_slices_Concat_api_Timer_api_Timer_L0
    simp [w1, w3, k1, k2]
    rw [ev_loop]
    conv => lhs; arg 4; unfold F_slices_Concat_api_Timer_api_Timer_L0
    simp
  rw [ev_call P_slices_Concat_api_Timer_api_Timer_p rfl]
  by_cases h0 : A.length + B.length = 0
  · have ha : A = [] := List.length_eq_zero_iff.1 (by omega)
    have hb : B = [] := List.length_eq_zero_iff.1 (by omega)
    subst ha; subst hb
    refine ⟨true, ?_⟩
    have hL1 : ev P (.loop 0 [6, 25, 26, 27] F_slices_Concat_api_Timer_api_Timer_L1 [(6, .d (.sl 3 true [])), (25, .d (.sl 1 false [[tD n1 []], [tD n2 []]])), (26, .d (I' 2)), (27, .d (I' 0))] []) =
        some (.out (.exit 2) [(6, .d (.sl 3 true []))] []) := by
      rw [ev_loop]
      conv => lhs; arg 4; unfold F_slices_Concat_api_Timer_api_Timer_L1
      simp [k1]
      rw [ev_loop]
      conv => lhs; arg 4; unfold F_slices_Concat_api_Timer_api_Timer_L1
      simp [k2]
      rw [ev_loop]
      conv => lhs; arg 4; unfold F_slices_Concat_api_Timer_api_Timer_L1
      simp
    simp at hL0 hL1
    simp [F_slices_Concat_api_Timer_api_Timer_p, F_slices_Concat_api_Timer_api_Timer, hL0, hL1, ev_Grow0, callD]
  · refine ⟨false, ?_⟩
    have hG := ev_Grow (A.length + B.length) (by omega) (by omega)
    have o1 := ov1 (A.map T.row) B.length
    have o2 := ov2 (A.map T.row) (B.map T.row)
    simp only [List.length_map] at o1 o2
    have hL1 : ev P (.loop 0 [6, 25, 26, 27] F_slices_Concat_api_Timer_api_Timer_L1 [(6, .asl 0 0 0), (25, .d (.sl 1 false [[tD n1 A], [tD n2 B]])), (26, .d (I' 2)), (27, .d (I' 0))] [.arrD 3 true (List.replicate (A.length + B.length) zr)]) =
        some (.out (.exit 2) [(6, .asl 0 0 (A.length + B.length))] [.arrD 3 true (A.map T.row ++ B.map T.row)]) := by
      by_cases t1 : A.length = 0
      · have ha : A = [] := List.length_eq_zero_iff.1 t1
        subst ha
        cases B with
        | nil => exact absurd rfl h0
        | cons b B =>
          rw [ev_loop]
          conv => lhs; arg 4; unfold F_slices_Concat_api_Timer_api_Timer_L1
          simp [reachC, cut, k1]
          rw [ev_loop]
          conv => lhs; arg 4; unfold F_slices_Concat_api_Timer_api_Timer_L1
          simp at o2
          simp [reachC, cut, k1, k2]
          rw [ev_loop]
          conv => lhs; arg 4; unfold F_slices_Concat_api_Timer_api_Timer_L1
          simp [reachC, cut]
      · rw [ev_loop]
        conv => lhs; arg 4; unfold F_slices_Concat_api_Timer_api_Timer_L1
        simp [reachC, cut, k1, t1, o1]
        rw [ev_loop]
        conv => lhs; arg 4; unfold F_slices_Concat_api_Timer_api_Timer_L1
        cases B with
        | nil =>
          simp [reachC, cut, k1, k2]
          rw [ev_loop]
          conv => lhs; arg 4; unfold F_slices_Concat_api_Timer_api_Timer_L1
          simp [reachC, cut]
        | cons b B =>
          simp at o2
          simp [reachC, cut, k1, k2, o2]
          rw [ev_loop]
          conv => lhs; arg 4; unfold F_slices_Concat_api_Timer_api_Timer_L1
          simp [reachC, cut]
    have t2 : List.take (A.length + B.length) (A.map T.row ++ B.map T.row) = A.map T.row ++ B.map T.row := List.take_of_length_le (by simp)
    simp at hL0 hG
    simp [F_slices_Concat_api_Timer_api_Timer_p, F_slices_Concat_api_Timer_api_Timer, hL0, hL1, hG, callD, t2, reachC, cut]
/-! the reference -/
theorem loop_rExpire (nl : Bool) (l : List T) (now : Int) (hn : l.length ≤ 1000000) : ∀ (suf pre : List T), l = pre ++ suf → dueL now l = pre ++ dueL now suf →
    ev P (.loop 0 [0, 1, 6] F_nurseryref06_Expire_L0 [(0, .d (tD nl l)), (1, .d (I' now)), (6, .d (I' pre.length))] []) =
      some (.out (.exit 0) [(0, .d (tD nl l)), (6, .d (I' (dueL now l).length))] []) := by
  intro suf
  induction suf with
  | nil =>
    intro pre hl hd
    have : l.length = pre.length := by simp [hl]
    have e : (dueL now l).length = pre.length := by rw [hd]; simp [dueL]
    rw [ev_loop]
    conv => lhs; arg 4; unfold F_nurseryref06_Expire_L0
    simp [this, e]
  | cons w suf ih =>
    intro pre hl hd
    have hg : l[pre.length]? = some w := by simp [hl]
    have hpl : pre.length < l.length := by simp [hl]
    have hlt : (pre.length : Int) < l.length := by omega
    have hnext : IntKind.i64.wrap ((pre.length : Int) + 1) = pre.length + 1 := wrap_i64 (by omega) (by omega)
    rw [ev_loop]
    conv => lhs; arg 4; unfold F_nurseryref06_Expire_L0
    cases ht : decide (w.time ≤ now) with
    | true =>
      have ih' := ih (pre ++ [w]) (by simp [hl]) (by rw [hd]; simp [dueL, List.takeWhile_cons, ht])
      simp at ih'
      simp [hlt, hg, T.row, ht, hnext]
      exact ih'
    | false =>
      have e : (dueL now l).length = pre.length := by rw [hd]; simp [dueL, List.takeWhile_cons, ht]
      simp [hlt, hg, T.row, ht, e]
theorem ev_rExpire (nl : Bool) (l : List T) (now : Int) (hn : l.length ≤ 1000000) :
    ev P (.call nurseryref06_Expire [.d (tD nl l), .d (I' now)] []) =
      if chkF [] l = 0 then some (.val (.tu [.d (tD false (dueL now l)), .d (tD false (l.drop (dueL now l).length))]) []) else some (.val (.tu [.d (tD false []), .d (tD false [])]) []) := by
  have hC := ev_rCheck nl l hn
  have hL := loop_rExpire nl l now hn l [] rfl rfl
  have hle : (dueL now l).length ≤ l.length := (List.takeWhile_sublist _).length_le
  have ht : l.take (dueL now l).length = dueL now l := by
    have : dueL now l <+: l := List.takeWhile_prefix _
    exact (List.prefix_iff_eq_take.1 this).symm
  have ht' : (l.map T.row).take (dueL now l).length = (dueL now l).map T.row := by rw [← List.map_take, ht]
  have hr : (dueL now l).length ≤ room := by unfold room; omega
  have hr2 : l.length - (dueL now l).length ≤ room := by unfold room; omega
  have hle' : ((dueL now l).length : Int) ≤ l.length := by omega
  have h00 : (0 : Int) ≤ (dueL now l).length := by omega
  rw [ev_call P_nurseryref06_Expire rfl]
  simp at hL
  by_cases hc : chkF [] l = 0
  · rw [hc] at hC
    rw [if_pos hc]
    have hR : tD false (l.drop (dueL now l).length) = .sl 3 false ((l.map T.row).drop (dueL now l).length) := by simp
    rw [hR]
    generalize dueL now l = due at *
    simp [F_nurseryref06_Expire, hC, hL, hle', h00, ht', hr, hr2, take_map_len, List.length_take]
  · have hc2 : (chkF [] l != 0) = true := by simpa using hc
    rw [if_neg hc]
    simp [F_nurseryref06_Expire, hC, hc2, mkRows, allDs]
/-- the first time -/
def nextR (l : List T) : Option Int := if chkF [] l = 0 then (l.head?).map T.time else none
theorem ev_tNext (nl : Bool) (l : List T) (hn : l.length ≤ 1000000) : ev P (.call timers_Next [.d (tD nl l)] []) = some (.val (.tu [.d (I' ((nextR l).getD 0)), .d (.b (nextR l).isSome)]) []) := by
  have hC := ev_tCheck nl l hn
  rw [ev_call P_timers_Next rfl]
  unfold nextR
  cases l with
  | nil => simp [F_timers_Next]
  | cons w r =>
    by_cases hc : chkF [] (w :: r) = 0
    · rw [hc] at hC
      have h1 : ((r.length : Int) + 1 == 0) = false := by simp; omega
      simp [F_timers_Next, hC, hc, h1, T.row]
    · have hc2 : (chkF [] (w :: r) != 0) = true := by simpa using hc
      have h1 : ((r.length : Int) + 1 == 0) = false := by simp; omega
      simp [F_timers_Next, hC, hc, hc2, h1]
theorem ev_rNext (nl : Bool) (l : List T) (hn : l.length ≤ 1000000) : ev P (.call nurseryref06_Next [.d (tD nl l)] []) = some (.val (.tu [.d (I' ((nextR l).getD 0)), .d (.b (nextR l).isSome)]) []) := by
  have hC := ev_rCheck nl l hn
  rw [ev_call P_nurseryref06_Next rfl]
  unfold nextR
  by_cases hc : chkF [] l = 0
  · rw [hc] at hC
    cases l with
    | nil => simp [F_nurseryref06_Next, hC, hc]
    | cons w r =>
      have h1 : ((r.length : Int) + 1 == 0) = false := by simp; omega
      simp [F_nurseryref06_Next, hC, hc, h1, T.row]
  · have hc2 : (chkF [] l != 0) = true := by simpa using hc
    simp [F_nurseryref06_Next, hC, hc, hc2]
theorem ev_rRemove (nl : Bool) (l : List T) (k i : Int) (hn : l.length ≤ 1000000) :
    ev P (.call nurseryref06_Remove [.d (tD nl l), .d (I' k), .d (I' i)] []) = some (.val (.d (tD false (if chkF [] l = 0 then wo k i l else []))) []) := by
  have hC := ev_rCheck nl l hn
  have hW := ev_rwithout nl l k i hn
  rw [ev_call P_nurseryref06_Remove rfl]
  by_cases hc : chkF [] l = 0
  · rw [hc] at hC
    rw [if_pos hc]
    simp [F_nurseryref06_Remove, hC, hW]
  · have hc2 : (chkF [] l != 0) = true := by simpa using hc
    rw [if_neg hc]
    simp [F_nurseryref06_Remove, hC, hc2, mkRows, allDs]
theorem loop_rFind (nl : Bool) (l : List T) (k i : Int) (hn : l.length ≤ 1000000) : ∀ (suf pre : List T), l = pre ++ suf →
    ev P (.loop 0 [0, 1, 2, 8] F_nurseryref06_Find_L0 [(0, .d (tD nl l)), (1, .d (I' k)), (2, .d (I' i)), (8, .d (I' pre.length))] []) =
      match fnd k i suf with
      | none => some (.out (.exit 0) [] [])
      | some t => some (.out .ret [(6, .d (I' t.time)), (7, .d (.b true))] []) := by
  intro suf
  induction suf with
  | nil =>
    intro pre hl
    have : l.length = pre.length := by simp [hl]
    rw [ev_loop]
    conv => lhs; arg 4; unfold F_nurseryref06_Find_L0
    simp [this, fnd]
  | cons w suf ih =>
    intro pre hl
    have hg : l[pre.length]? = some w := by simp [hl]
    have hlt : (pre.length : Int) < l.length := by simp [hl]; omega
    have hnext : IntKind.i64.wrap ((pre.length : Int) + 1) = pre.length + 1 := wrap_i64 (by omega) (by omega)
    have ih' := ih (pre ++ [w]) (by simp [hl])
    simp at ih'
    rw [ev_loop]
    conv => lhs; arg 4; unfold F_nurseryref06_Find_L0
    unfold fnd at *
    rw [List.find?_cons]
    cases h1 : w.kind == k <;> cases h2 : w.index == i
    · simp [hlt, hg, T.row, h1, hnext]; exact ih'
    · simp [hlt, hg, T.row, h1, hnext]; exact ih'
    · simp [hlt, hg, T.row, h1, h2, hnext]; exact ih'
    · simp [hlt, hg, T.row, h1, h2]
theorem ev_rFind (nl : Bool) (l : List T) (k i : Int) (hn : l.length ≤ 1000000) :
    ev P (.call nurseryref06_Find [.d (tD nl l), .d (I' k), .d (I' i)] []) = some (.val (.tu [.d (I' (match findR k i l with | some t => t.time | none => 0)), .d (.b (findR k i l).isSome)]) []) := by
  have hC := ev_rCheck nl l hn
  have hL := loop_rFind nl l k i hn l [] rfl
  simp at hL
  rw [ev_call P_nurseryref06_Find rfl]
  unfold findR
  by_cases hc : chkF [] l = 0
  · rw [hc] at hC
    cases hf : fnd k i l <;> rw [hf] at hL <;> simp [F_nurseryref06_Find, hC, hc, hL]
  · have hc2 : (chkF [] l != 0) = true := by simpa using hc
    simp [F_nurseryref06_Find, hC, hc, hc2]
end Go.VS.Tm
namespace Go.VS.Tm
theorem law_Reads (nl : Bool) (l : List T) (k i now : Int) (hnl : nl = true → l = []) : ev P (.call nurserylaw06_TimersReads [.d (tD nl l), .d (I' k), .d (I' i), .d (I' now)] []) = some (.val (.d (.b true)) []) := by
  have hG := ev_Great nl l
  rw [ev_call P_nurserylaw06_TimersReads rfl]
  by_cases hg : 40 < l.length
  · have hg' : decide ((40 : Int) < l.length) = true := by simp; omega
    rw [hg'] at hG
    simp [F_nurserylaw06_TimersReads, hG, ev_awake]
  · have hg' : decide ((40 : Int) < l.length) = false := by simp; omega
    rw [hg'] at hG
    have hF := ev_Find nl l k i (by omega)
    have hF2 := ev_rFind nl l k i (by omega)
    have hN := ev_tNext nl l (by omega)
    have hN2 := ev_rNext nl l (by omega)
    have hE := ev_tExpire nl l now hnl (by omega)
    have hE2 := ev_rExpire nl l now (by omega)
    obtain ⟨n3, hn3, hR⟩ := ev_tRemove nl l k i hnl (by omega)
    have hR2 := ev_rRemove nl l k i (by omega)
    have hle : (dueL now l).length ≤ l.length := (List.takeWhile_sublist _).length_le
    obtain ⟨f1, f2, hF, hF2⟩ : ∃ f1 f2, ev P (.call timers_Find [.d (tD nl l), .d (I' k), .d (I' i)] []) = some (.val (.tu [.d (I' f1), .d (.b f2)]) []) ∧ ev P (.call nurseryref06_Find [.d (tD nl l), .d (I' k), .d (I' i)] []) = some (.val (.tu [.d (I' f1), .d (.b f2)]) []) := by
      cases hfr : findR k i l <;> rw [hfr] at hF hF2 <;> exact ⟨_, _, hF, hF2⟩
    generalize (nextR l).getD 0 = m1 at *
    generalize (nextR l).isSome = m2 at *
    have hlen : (if chkF [] l = 0 then wo k i l else []).length ≤ 1000000 := by
      split
      · have := wo_len k i l; omega
      · simp
    have hS3 := ev_Same n3 false (if chkF [] l = 0 then wo k i l else []) (if chkF [] l = 0 then wo k i l else []) hlen
    generalize (if chkF [] l = 0 then wo k i l else []) = w at *
    by_cases hc : chkF [] l = 0
    · rw [if_pos hc] at hE hE2
      have hS1 := ev_Same (decide (dueL now l = [])) false (dueL now l) (dueL now l) (by omega)
      have hS2 := ev_Same nl false (l.drop (dueL now l).length) (l.drop (dueL now l).length) (by simp; omega)
      generalize l.drop (dueL now l).length = r at *
      generalize decide (dueL now l = []) = dn at *
      generalize dueL now l = d at *
      simp at hS1 hS2 hS3
      simp [F_nurserylaw06_TimersReads, hG, ev_awake, hF, hF2, hN, hN2, hE, hE2, hR, hR2, hS1, hS2, hS3]
    · rw [if_neg hc] at hE hE2
      have hS1 := ev_Same true false [] [] (by simp)
      simp at hS1 hS3 hE hE2
      simp [F_nurserylaw06_TimersReads, hG, ev_awake, hF, hF2, hN, hN2, hE, hE2, hR, hR2, hS1, hS3]
theorem ev_ExpireC1 (a b c n : Int) : ev P (.call nurserylaw06_TimersExpireC1 [.d (.ag [I' a, I' b, I' c]), .d (.ref [I' n])] []) = some (.val (.d (.b (decide (n < a)))) []) := by
  rw [ev_call P_nurserylaw06_TimersExpireC1 rfl]
  simp [F_nurserylaw06_TimersExpireC1]
theorem ev_RunC1 (a b c n : Int) : ev P (.call nurserylaw06_TimersRunC1 [.d (.ag [I' a, I' b, I' c]), .d (.ref [I' n])] []) = some (.val (.d (.b (a != n))) []) := by
  rw [ev_call P_nurserylaw06_TimersRunC1 rfl]
  simp [F_nurserylaw06_TimersRunC1]
theorem due_app (now : Int) (l : List T) : dueL now l ++ l.drop (dueL now l).length = l := by
  have h : dueL now l <+: l := List.takeWhile_prefix _
  rw [List.prefix_iff_eq_take.1 h]
  simp
  have : (dueL now l).length ≤ l.length := h.length_le
  rw [Nat.min_eq_left this, List.take_append_drop]
theorem due_le {now : Int} {l : List T} {w : T} (h : w ∈ dueL now l) : w.time ≤ now := by
  have := List.all_eq_true.1 (List.all_takeWhile (l := l) (p := fun w : T => decide (w.time ≤ now))) w h
  simpa using this
theorem rest_gt {now : Int} : ∀ {l : List T} {w : T}, (l.drop (dueL now l).length).head? = some w → now < w.time
  | [], w, h => by simp at h
  | x :: l, w, h => by
    by_cases hx : x.time ≤ now
    · have e : dueL now (x :: l) = x :: dueL now l := by simp [dueL, List.takeWhile_cons, hx]
      rw [e] at h
      exact rest_gt (by simpa using h)
    · have e : dueL now (x :: l) = [] := by simp [dueL, List.takeWhile_cons, hx]
      rw [e] at h
      simp at h
      subst h
      omega
theorem due_later {now later : Int} (h : now ≤ later) (l : List T) : dueL later l = dueL now l ++ dueL later (l.drop (dueL now l).length) := by
  induction l with
  | nil => rfl
  | cons x l ih =>
    by_cases hx : x.time ≤ now
    · have e : dueL now (x :: l) = x :: dueL now l := by simp [dueL, List.takeWhile_cons, hx]
      have e2 : dueL later (x :: l) = x :: dueL later l := by
        have : x.time ≤ later := by omega
        simp [dueL, List.takeWhile_cons, this]
      rw [e, e2, ih]
      simp
    · have e : dueL now (x :: l) = [] := by simp [dueL, List.takeWhile_cons, hx]
      rw [e]
      simp
theorem law_Expire (nl : Bool) (l : List T) (now later : Int) (hnl : nl = true → l = []) : ev P (.call nurserylaw06_TimersExpire [.d (tD nl l), .d (I' now), .d (I' later)] []) = some (.val (.d (.b true)) []) := by
  have hG := ev_Great nl l
  rw [ev_call P_nurserylaw06_TimersExpire rfl]
  by_cases hg : 40 < l.length
  · have hg' : decide ((40 : Int) < l.length) = true := by simp; omega
    rw [hg'] at hG
    simp [F_nurserylaw06_TimersExpire, hG, ev_awake]
  · have hg' : decide ((40 : Int) < l.length) = false := by simp; omega
    rw [hg'] at hG
    have hC := ev_tCheck nl l (by omega)
    by_cases hc : chkF [] l = 0
    · rw [hc] at hC
      cases hlt : decide (later < now) with
      | true => simp [F_nurserylaw06_TimersExpire, hG, ev_awake, hC, hlt]
      | false =>
        have hle : now ≤ later := by simp at hlt; omega
        have hq := QV_iff.1 hc
        have hE := ev_tExpire nl l now hnl (by omega)
        have hE2 := ev_tExpire nl l later hnl (by omega)
        rw [if_pos hc] at hE hE2
        have happ := due_app now l
        have hdl := due_later hle l
        have hsub : (l.drop (dueL now l).length).Sublist l := List.drop_sublist _ _
        have hcr : chkF [] (l.drop (dueL now l).length) = 0 := QV_iff.2 (hq.sub hsub)
        have hrn : nl = true → l.drop (dueL now l).length = [] := fun h => by rw [hnl h]; simp
        have hlen1 : (dueL now l).length ≤ l.length := (List.takeWhile_sublist _).length_le
        have hlen2 : (l.drop (dueL now l).length).length ≤ l.length := by simp
        have hlen3 : (dueL later l).length ≤ l.length := (List.takeWhile_sublist _).length_le
        have hE3 := ev_tExpire nl (l.drop (dueL now l).length) later hrn (by omega)
        rw [if_pos hcr] at hE3
        have hlen4 : (dueL later (l.drop (dueL now l).length)).length ≤ (l.drop (dueL now l).length).length := (List.takeWhile_sublist _).length_le
        have hend : (l.drop (dueL now l).length).drop (dueL later (l.drop (dueL now l).length)).length = l.drop (dueL later l).length := by
          rw [hdl]
          simp
        rw [hend] at hE3
        obtain ⟨c1, hK1⟩ := ev_ConcatP (decide (dueL now l = [])) nl (dueL now l) (l.drop (dueL now l).length) (by omega) (by omega)
        rw [happ] at hK1
        have hS1 := ev_Same c1 nl l l (by omega)
        have hCF := ev_CF (f := nurserylaw06_TimersExpireC1) (first := []) (caps := [.ref [I' now]]) (p := fun w => decide (now < w.time)) (decide (dueL now l = [])) (dueL now l) (by omega) (fun a b c => ev_ExpireC1 a b c now)
        have hany : ((dueL now l).any fun w => decide (now < w.time)) = false := by
          rw [List.any_eq_false]
          intro w hw
          have := due_le hw
          simp; omega
        rw [hany] at hCF
        have hN := ev_tNext nl (l.drop (dueL now l).length) (by omega)
        obtain ⟨c2, hK2⟩ := ev_ConcatP (decide (dueL now l = [])) (decide (dueL later (l.drop (dueL now l).length) = [])) (dueL now l) (dueL later (l.drop (dueL now l).length)) (by omega) (by omega)
        rw [← hdl] at hK2
        have hS2 := ev_Same c2 (decide (dueL later l = [])) (dueL later l) (dueL later l) (by omega)
        have hS3 := ev_Same nl nl (l.drop (dueL later l).length) (l.drop (dueL later l).length) (by simp; omega)
        have hgt := fun w => rest_gt (now := now) (l := l) (w := w)
        unfold nextR at hN
        rw [if_pos hcr] at hN
        generalize decide (dueL later (l.drop (dueL now l).length) = []) = b3 at *
        generalize dueL later (l.drop (dueL now l).length) = more at *
        generalize l.drop (dueL now l).length = rest at *
        generalize decide (dueL now l = []) = b1 at *
        generalize dueL now l = due at *
        generalize l.drop (dueL later l).length = ende at *
        generalize decide (dueL later l = []) = b2 at *
        generalize dueL later l = all at *
        simp at hS1 hS2 hS3 hCF
        cases rest with
        | nil =>
          simp at hN
          simp [F_nurserylaw06_TimersExpire, hG, ev_awake, hC, hlt, hE, hE2, hE3, hK1, hK2, hS1, hS2, hS3, hCF, hN]
        | cons w r =>
          have hw := hgt w rfl
          have h1 : decide ((0 : Int) < r.length + 1) = true := decide_eq_true (by omega)
          have h2 : decide (w.time ≤ now) = false := by simp; omega
          simp at hN
          simp [F_nurserylaw06_TimersExpire, hG, ev_awake, hC, hlt, hE, hE2, hE3, hK1, hK2, hS1, hS2, hS3, hCF, hN, h1, h2]
    · have hc2 : (chkF [] l != 0) = true := by simpa using hc
      simp [F_nurserylaw06_TimersExpire, hG, ev_awake, hC, hc2]
end Go.VS.Tm
namespace Go.VS.Tm
/-- a list that grows: what leads to it, and where it lies -/
def fV : List T → V
  | [] => .d (.sl 3 true [])
  | w :: r => .asl 0 0 (w :: r).length
def fH : List T → List O
  | [] => []
  | w :: r => [.arrD 3 true ((w :: r).map T.row)]
theorem sorted_head {w x : T} {r : List T} (h : Sorted (w :: r)) (hx : x ∈ w :: r) : w.time ≤ x.time := by
  rcases List.mem_cons.1 hx with rfl | hx
  · omega
  · have := (List.pairwise_cons.1 h).1 x hx
    unfold tl at this
    omega
theorem due_run {w : T} {r : List T} (h : Sorted (w :: r)) : ((dueL w.time (w :: r)).any fun x => x.time != w.time) = false := by
  rw [List.any_eq_false]
  intro x hx
  have h1 := due_le hx
  have h2 := sorted_head h ((List.takeWhile_sublist _).mem hx)
  have : x.time = w.time := by omega
  simp [this]
theorem rest_run {now : Int} {l : List T} (h : Sorted l) {x : T} (hx : x ∈ l.drop (dueL now l).length) : now < x.time := by
  have hs : Sorted (l.drop (dueL now l).length) := h.sublist (List.drop_sublist _ _)
  cases hr : l.drop (dueL now l).length with
  | nil => rw [hr] at hx; simp at hx
  | cons y t =>
    have hy := rest_gt (now := now) (l := l) (w := y) (by rw [hr]; rfl)
    rw [hr] at hs hx
    have := sorted_head hs hx
    omega
theorem loop_Run (nl : Bool) (l : List T) (hl40 : l.length ≤ 40) : ∀ (n : Nat) (q acc : List T) (qn : Bool) (now : Int) (i : Nat), q.length ≤ n → QV q → (qn = true → q = []) → (∀ w ∈ q, now < w.time) → i + q.length ≤ l.length → acc ++ q = l →
    ∃ qn', ev P (.loop 0 [0, 3, 4, 5, 21, 22] F_nurserylaw06_TimersRun_L0 [(0, .d (tD nl l)), (3, fV acc), (4, .d (tD qn q)), (5, .d (I' now)), (21, .d (I' (l.length + 1))), (22, .d (I' i))] (fH acc)) =
      some (.out (.exit 0) [(0, .d (tD nl l)), (3, fV l), (4, .d (tD qn' []))] (fH l)) := by
  intro n
  induction n with
  | zero =>
    intro q acc qn now i hn hq hqn hnow hi hal
    have : q = [] := List.length_eq_zero_iff.1 (by omega)
    subst this
    simp at hal hi
    subst hal
    refine ⟨qn, ?_⟩
    have hN := ev_tNext qn [] (by simp)
    have hr : nextR [] = none := by simp [nextR]
    rw [hr] at hN
    simp at hN
    have hlt : (i : Int) < acc.length + 1 := by omega
    rw [ev_loop]
    conv => lhs; arg 4; unfold F_nurserylaw06_TimersRun_L0
    cases acc with
    | nil =>
      simp at hlt
      simp [fV, fH, hlt, hN]
    | cons a r =>
      simp at hlt
      simp [fV, fH, hlt, hN, reachC, cut, List.idxOf_cons]
  | succ n ih =>
    intro q acc qn now i hn hq hqn hnow hi hal
    cases q with
    | nil =>
      simp at hal hi
      subst hal
      refine ⟨qn, ?_⟩
      have hN := ev_tNext qn [] (by simp)
      have hr : nextR [] = none := by simp [nextR]
      rw [hr] at hN
      simp at hN
      have hlt : (i : Int) < acc.length + 1 := by omega
      rw [ev_loop]
      conv => lhs; arg 4; unfold F_nurserylaw06_TimersRun_L0
      cases acc with
      | nil =>
        simp at hlt
        simp [fV, fH, hlt, hN]
      | cons a r =>
        simp at hlt
        simp [fV, fH, hlt, hN, reachC, cut, List.idxOf_cons]
    | cons w r =>
      have hqf : qn = false := by
        cases qn with
        | false => rfl
        | true => have := hqn rfl; simp at this
      have hc := QV_iff.2 hq
      have hwr : (w :: r).length ≤ l.length := by omega
      have hlen1 : (dueL w.time (w :: r)).length ≤ (w :: r).length := (List.takeWhile_sublist _).length_le
      have e : dueL w.time (w :: r) = w :: dueL w.time r := by simp [dueL, List.takeWhile_cons]
      have hN := ev_tNext qn (w :: r) (by omega)
      have hr : nextR (w :: r) = some w.time := by simp [nextR, hc]
      rw [hr] at hN
      simp at hN
      have hE := ev_tExpire qn (w :: r) w.time hqn (by omega)
      rw [if_pos hc] at hE
      have hCF := ev_CF (f := nurserylaw06_TimersRunC1) (first := []) (caps := [.ref [I' w.time]]) (p := fun x => x.time != w.time) (decide (dueL w.time (w :: r) = [])) (dueL w.time (w :: r)) (by omega) (fun a b c => ev_RunC1 a b c w.time)
      rw [due_run hq.srt] at hCF
      have happ := due_app w.time (w :: r)
      have hnow' := hnow w (by simp)
      have hle : decide (w.time ≤ now) = false := by simp; omega
      have hrest := fun x => rest_run (now := w.time) (x := x) hq.srt
      have hqr : QV ((w :: r).drop (dueL w.time (w :: r)).length) := hq.sub (List.drop_sublist _ _)
      have hrl : ((w :: r).drop (dueL w.time (w :: r)).length).length + 1 ≤ (w :: r).length := by
        rw [e]; simp
      obtain ⟨qn', ih'⟩ := ih ((w :: r).drop (dueL w.time (w :: r)).length) (acc ++ dueL w.time (w :: r)) qn w.time (i + 1) (by omega) hqr (fun h => by rw [hqf] at h; simp at h) hrest (by omega) (by rw [List.append_assoc, happ]; exact hal)
      refine ⟨qn', ?_⟩
      have hlt : (i : Int) < l.length + 1 := by omega
      have hnext : IntKind.i64.wrap ((i : Int) + 1) = i + 1 := wrap_i64 (by omega) (by omega)
      have hrm : acc.length + (dueL w.time (w :: r)).length ≤ room := by
        have : acc.length + (w :: r).length = l.length := by rw [← hal]; simp
        unfold room; omega
      rw [← ih']
      clear ih' hCF hE hqr hrest
      have hE := ev_tExpire qn (w :: r) w.time hqn (by omega)
      rw [if_pos hc] at hE
      have hCF := ev_CF (f := nurserylaw06_TimersRunC1) (first := []) (caps := [.ref [I' w.time]]) (p := fun x => x.time != w.time) (decide (dueL w.time (w :: r) = [])) (dueL w.time (w :: r)) (by omega) (fun a b c => ev_RunC1 a b c w.time)
      rw [due_run hq.srt] at hCF
      generalize (w :: r).drop (dueL w.time (w :: r)).length = rest at *
      rw [e] at hE hCF hrm ⊢
      generalize dueL w.time r = due at *
      simp at hE hCF
      rw [ev_loop]
      conv => lhs; arg 4; unfold F_nurserylaw06_TimersRun_L0
      have h00 : ((due.length : Int) + 1 == 0) = false := by simp; omega
      generalize hR : ev P (.loop 0 [0, 3, 4, 5, 21, 22] F_nurserylaw06_TimersRun_L0 [(0, .d (tD nl l)), (3, fV (acc ++ w :: due)), (4, .d (tD qn rest)), (5, .d (I' w.time)), (21, .d (I' (l.length + 1))), (22, .d (I' (i + 1 : Nat)))] (fH (acc ++ w :: due))) = R
      cases acc with
      | nil =>
        simp [fV, fH] at hR hrm
        simp [fV, fH, hlt, hN, hE, hCF, hle, h00, hnext, hrm, reachC, cut, List.idxOf_cons, hR]
      | cons a t =>
        simp [fV, fH] at hR hrm
        have hx : ¬ (t.length + 1 + (due.length + 1) ≤ t.length + 1) := by omega
        have hy : t.length + 1 + (due.length + 1) = t.length + (due.length + 1) + 1 := by omega
        simp [fV, fH, hlt, hN, hE, hCF, hle, h00, hnext, hrm, reachC, cut, List.idxOf_cons, hx, take_map_len]
        rw [hy]
        exact hR
theorem law_Run (nl : Bool) (l : List T) (hnl : nl = true → l = []) : ev P (.call nurserylaw06_TimersRun [.d (tD nl l)] []) = some (.val (.d (.b true)) []) := by
  have hG := ev_Great nl l
  rw [ev_call P_nurserylaw06_TimersRun rfl]
  by_cases hg : 40 < l.length
  · have hg' : decide ((40 : Int) < l.length) = true := by simp; omega
    rw [hg'] at hG
    simp [F_nurserylaw06_TimersRun, hG, ev_awake]
  · have hg' : decide ((40 : Int) < l.length) = false := by simp; omega
    rw [hg'] at hG
    have hC := ev_tCheck nl l (by omega)
    by_cases hc : chkF [] l = 0
    · rw [hc] at hC
      have hq := QV_iff.1 hc
      have hpos : ∀ w ∈ l, 0 < w.time := by
        intro w hw
        have h1 := hq.one w hw
        have : tbad w.time w.index 16 = false ∨ tbad w.time w.index 32 = false := by
          unfold chk1 at h1
          cases h16 : tbad w.time w.index 16 <;> cases h32 : tbad w.time w.index 32 <;> simp [h16, h32] at h1 ⊢
          omega
        rcases this with h | h <;> (unfold tbad at h; simp at h; omega)
      obtain ⟨qn', hL⟩ := loop_Run nl l (by omega) l.length l [] nl 0 0 (Nat.le_refl _) hq hnl hpos (by omega) rfl
      have hw : IntKind.i64.wrap ((l.length : Int) + 1) = l.length + 1 := wrap_i64 (by omega) (by omega)
      have hS := ev_Same (decide (l = [])) nl l l (by omega)
      cases l with
      | nil =>
        simp [fV, fH] at hL hS hw
        change ev P (.call nurseryref06_Same [.d (.sl 3 true []), .d (tD nl [])] []) = _ at hS
        simp [F_nurserylaw06_TimersRun, hG, hC, hL, hS, ev_awake, hw, thaw, freezeAll, freeze1]
      | cons a r =>
        simp [fV, fH] at hL hS hw
        change ev P (.call nurseryref06_Same [.d (.sl 3 false (a.row :: r.map T.row)), .d (tD nl (a :: r))] []) = _ at hS
        simp [F_nurserylaw06_TimersRun, hG, hC, hL, hS, ev_awake, hw, thaw, freezeAll, freeze1, take_map_len]
    · have hc2 : (chkF [] l != 0) = true := by simpa using hc
      simp [F_nurserylaw06_TimersRun, hG, ev_awake, hC, hc2]
end Go.VS.Tm
namespace Go.VS.Tm
theorem l_Reads (xs : List D) (h : WVs [tL, tI, tI, tI] xs) : ev P (.call nurserylaw06_TimersReads (xs.map V.d) []) = some (.val (.d (.b true)) []) := by
  simp only [WVs] at h
  obtain ⟨s, _, rfl, hs, t, _, rfl, ht, u, _, rfl, hu, v, _, rfl, hv, rfl⟩ := h
  obtain ⟨nl, l, rfl, hnl⟩ := queue_of hs
  obtain ⟨a, rfl⟩ := int_of ht
  obtain ⟨b, rfl⟩ := int_of hu
  obtain ⟨c, rfl⟩ := int_of hv
  exact law_Reads nl l a b c hnl
theorem l_Expire (xs : List D) (h : WVs [tL, tI, tI] xs) : ev P (.call nurserylaw06_TimersExpire (xs.map V.d) []) = some (.val (.d (.b true)) []) := by
  simp only [WVs] at h
  obtain ⟨s, _, rfl, hs, t, _, rfl, ht, u, _, rfl, hu, rfl⟩ := h
  obtain ⟨nl, l, rfl, hnl⟩ := queue_of hs
  obtain ⟨a, rfl⟩ := int_of ht
  obtain ⟨b, rfl⟩ := int_of hu
  exact law_Expire nl l a b hnl
theorem l_Run (xs : List D) (h : WVs [tL] xs) : ev P (.call nurserylaw06_TimersRun (xs.map V.d) []) = some (.val (.d (.b true)) []) := by
  simp only [WVs] at h
  obtain ⟨s, _, rfl, hs, rfl⟩ := h
  obtain ⟨nl, l, rfl, hnl⟩ := queue_of hs
  exact law_Run nl l hnl
end Go.VS.Tm
