import Derived.Test.YtjjkiaahcoiihaaV06
import Derived.Test.YtjjkiaahcoiihaaV04
import Derived.Test.YtjjkiaahcoiihaaV05
import Derived.KernelRfl
import Derived.Test.YtjjkiaahcoiihaaChecked
set_option linter.all false
open Go.Proofs
namespace Go.VS
def phiN (n : Nat) : Nat := if 10000 ≤ n then n - 10000 else n
def phi : Phi := ⟨phiN, fun ps A B x y nt => lkB Try.prog phiN ps A B x y nt = true⟩
theorem lkok : LkOk Try.prog phi := fun _ _ _ _ _ _ => Iff.rfl
noncomputable def ck (f : Nat) (F : F) : Bool :=
  match Try.prog.funcs[phiN f]? with
  | some fn => !(fn.name == "runtime.NumGoroutine") && (match fn.body with | some c => chkC Try.prog phiN fn.ntmps c F.code && chkR Try.prog fn.results.toList F.res | none => false)
  | none => false
theorem ok_nurserylaw16_MutexWithdraws : ck 9 F_nurserylaw16_MutexWithdraws = true := by kernel_rfl
theorem ok_mutex_New : ck 11 F_mutex_New = true := by kernel_rfl
theorem ok_nurserylaw16_object : ck 12 F_nurserylaw16_object = true := by kernel_rfl
theorem ok_nurserylaw16_awake : ck 13 F_nurserylaw16_awake = true := by kernel_rfl
theorem ok_mutex_Apply : ck 14 F_mutex_Apply = true := by kernel_rfl
theorem ok_q16_Great : ck 15 F_q16_Great = true := by kernel_rfl
theorem ok_mutex_Check : ck 16 F_mutex_Check = true := by kernel_rfl
theorem ok_q16_SameWaiters : ck 17 F_q16_SameWaiters = true := by kernel_rfl
theorem ok_q16_Same : ck 26 F_q16_Same = true := by kernel_rfl
theorem ok_q04_SameInts : ck 28 F_q04_SameInts = true := by kernel_rfl
theorem ok_mutex_Withdraw : ck 29 F_mutex_Withdraw = true := by kernel_rfl
theorem ok_nurserylaw16_lock : ck 31 F_nurserylaw16_lock = true := by kernel_rfl
theorem ok_mutex_operations : ck 32 F_mutex_operations = true := by kernel_rfl
theorem ok_mutex_isTask : ck 33 F_mutex_isTask = true := by kernel_rfl
theorem ok_mutex_waits : ck 34 F_mutex_waits = true := by kernel_rfl
theorem ok_mutex_valid : ck 35 F_mutex_valid = true := by kernel_rfl
theorem ok_q16_sameCursors : ck 39 F_q16_sameCursors = true := by kernel_rfl
theorem ok_waitlist_Remove : ck 41 F_waitlist_Remove = true := by kernel_rfl
theorem ok_mutex_lock : ck 42 F_mutex_lock = true := by kernel_rfl
theorem ok_mutex_operationsC1 : ck 43 F_mutex_operationsC1 = true := by kernel_rfl
theorem ok_mutex_unlock : ck 44 F_mutex_unlock = true := by kernel_rfl
theorem ok_slices_ContainsFunc_api_Waiter_api_Waiter : ck 45 F_slices_ContainsFunc_api_Waiter_api_Waiter = true := by kernel_rfl
theorem ok_mutex_waitsC1 : ck 46 F_mutex_waitsC1 = true := by kernel_rfl
theorem ok_waitlist_Check : ck 47 F_waitlist_Check = true := by kernel_rfl
theorem ok_mutex_validC1 : ck 48 F_mutex_validC1 = true := by kernel_rfl
theorem ok_waitlist_filter : ck 49 F_waitlist_filter = true := by kernel_rfl
theorem ok_waitlist_RemoveC1 : ck 50 F_waitlist_RemoveC1 = true := by kernel_rfl
theorem ok_slices_BinarySearchFunc_api_Waiter_api_Waiter_int : ck 51 F_slices_BinarySearchFunc_api_Waiter_api_Waiter_int = true := by kernel_rfl
theorem ok_mutex_lockC1 : ck 52 F_mutex_lockC1 = true := by kernel_rfl
theorem ok_cmp_Compare_int : ck 53 F_cmp_Compare_int = true := by kernel_rfl
theorem ok_slices_Clone_api_Waiter_api_Waiter : ck 55 F_slices_Clone_api_Waiter_api_Waiter = true := by kernel_rfl
theorem ok_slices_IndexFunc_api_Waiter_api_Waiter : ck 56 F_slices_IndexFunc_api_Waiter_api_Waiter = true := by kernel_rfl
theorem ok_waitlist_valid : ck 57 F_waitlist_valid = true := by kernel_rfl
theorem ok_cmp_isNaN_int : ck 58 F_cmp_isNaN_int = true := by kernel_rfl
theorem ok_slices_rotateRight_api_Waiter : ck 60 F_slices_rotateRight_api_Waiter = true := by kernel_rfl
theorem ok_slices_rotateLeft_api_Waiter : ck 61 F_slices_rotateLeft_api_Waiter = true := by kernel_rfl
theorem ok_slices_Reverse_api_Waiter_api_Waiter : ck 62 F_slices_Reverse_api_Waiter_api_Waiter = true := by kernel_rfl
theorem okR_slices_Insert_api_Waiter_api_Waiter : ck 54 R_slices_Insert_api_Waiter_api_Waiter = true := by kernel_rfl
theorem code_of_ck {f : Nat} {F : F} (h : ck f F = true) : FnCode Try.prog phi f F := by
  unfold ck at h
  split at h
  · rename_i fn hf
    split at h
    · rename_i c hc
      simp only [Bool.and_eq_true, Bool.not_eq_true'] at h
      exact ⟨fn, c, hf, h.1, hc, h.2.1, h.2.2⟩
    · simp at h
  · cases h
theorem mixed : Try.prog.follows .mixedOrders = true := by kernel_rfl
theorem laid : laidOutB Try.prog = true := by kernel_rfl
set_option maxHeartbeats 4000000 in
theorem hF : ∀ f F, P f = some F → FnOk Try.prog phi f F := by
  intro f F h
  unfold P at h
  split at h
  · cases h; exact .inl ⟨rfl, code_of_ck ok_nurserylaw16_MutexWithdraws⟩
  · cases h; exact .inl ⟨rfl, code_of_ck ok_mutex_New⟩
  · cases h; exact .inl ⟨rfl, code_of_ck ok_nurserylaw16_object⟩
  · cases h; exact .inl ⟨rfl, code_of_ck ok_nurserylaw16_awake⟩
  · cases h; exact .inl ⟨rfl, code_of_ck ok_mutex_Apply⟩
  · cases h; exact .inl ⟨rfl, code_of_ck ok_q16_Great⟩
  · cases h; exact .inl ⟨rfl, code_of_ck ok_mutex_Check⟩
  · cases h; exact .inl ⟨rfl, code_of_ck ok_q16_SameWaiters⟩
  · cases h; exact .inl ⟨rfl, code_of_ck ok_q16_Same⟩
  · cases h; exact .inl ⟨rfl, code_of_ck ok_q04_SameInts⟩
  · cases h; exact .inl ⟨rfl, code_of_ck ok_mutex_Withdraw⟩
  · cases h; exact .inl ⟨rfl, code_of_ck ok_nurserylaw16_lock⟩
  · cases h; exact .inl ⟨rfl, code_of_ck ok_mutex_operations⟩
  · cases h; exact .inl ⟨rfl, code_of_ck ok_mutex_isTask⟩
  · cases h; exact .inl ⟨rfl, code_of_ck ok_mutex_waits⟩
  · cases h; exact .inl ⟨rfl, code_of_ck ok_mutex_valid⟩
  · cases h; exact .inl ⟨rfl, code_of_ck ok_q16_sameCursors⟩
  · cases h; exact .inl ⟨rfl, code_of_ck ok_waitlist_Remove⟩
  · cases h; exact .inl ⟨rfl, code_of_ck ok_mutex_lock⟩
  · cases h; exact .inl ⟨rfl, code_of_ck ok_mutex_operationsC1⟩
  · cases h; exact .inl ⟨rfl, code_of_ck ok_mutex_unlock⟩
  · cases h; exact .inl ⟨rfl, code_of_ck ok_slices_ContainsFunc_api_Waiter_api_Waiter⟩
  · cases h; exact .inl ⟨rfl, code_of_ck ok_mutex_waitsC1⟩
  · cases h; exact .inl ⟨rfl, code_of_ck ok_waitlist_Check⟩
  · cases h; exact .inl ⟨rfl, code_of_ck ok_mutex_validC1⟩
  · cases h; exact .inl ⟨rfl, code_of_ck ok_waitlist_filter⟩
  · cases h; exact .inl ⟨rfl, code_of_ck ok_waitlist_RemoveC1⟩
  · cases h; exact .inl ⟨rfl, code_of_ck ok_slices_BinarySearchFunc_api_Waiter_api_Waiter_int⟩
  · cases h; exact .inl ⟨rfl, code_of_ck ok_mutex_lockC1⟩
  · cases h; exact .inl ⟨rfl, code_of_ck ok_cmp_Compare_int⟩
  · cases h; exact .inl ⟨rfl, code_of_ck ok_slices_Clone_api_Waiter_api_Waiter⟩
  · cases h; exact .inl ⟨rfl, code_of_ck ok_slices_IndexFunc_api_Waiter_api_Waiter⟩
  · cases h; exact .inl ⟨rfl, code_of_ck ok_waitlist_valid⟩
  · cases h; exact .inl ⟨rfl, code_of_ck ok_cmp_isNaN_int⟩
  · cases h; exact .inl ⟨rfl, code_of_ck ok_slices_rotateRight_api_Waiter⟩
  · cases h; exact .inl ⟨rfl, code_of_ck ok_slices_rotateLeft_api_Waiter⟩
  · cases h; exact .inl ⟨rfl, code_of_ck ok_slices_Reverse_api_Waiter_api_Waiter⟩
  · cases h; exact .inr ⟨_, rfl, ins_ok mixed lkok (code_of_ck okR_slices_Insert_api_Waiter_api_Waiter) rfl rfl rfl (by decide)⟩
  · cases h
end Go.VS
namespace Go.VS.M
abbrev tI : Ty := .i .i64
def tW : Ty := .st [tI, tI, tI, tI, tI]
def tCur : Ty := .st [tI, .sl 1 tI]
def tS : Ty := .st [tI, tI, tI, .sl 1 tI, .sl 5 tW, .sl 1 tI, .sl 2 tCur, .b, tI]
def tC : Ty := .st [tI, tI, tI, tI, tI]
theorem wt_i {cs : List D} (h : WT tI cs) : ∃ n, cs = [I' n] := by
  simp only [tI, WT] at h
  obtain ⟨n, rfl, _⟩ := h
  exact ⟨n, rfl⟩
theorem ints_of {rows : List (List D)} (h : ∀ r ∈ rows, WT tI r) : ∃ hs : List Int, rows = rows1 hs := by
  induction rows with
  | nil => exact ⟨[], rfl⟩
  | cons r rs ih =>
    obtain ⟨n, rfl⟩ := wt_i (h r (by simp))
    obtain ⟨hs, rfl⟩ := ih fun x hx => h x (by simp [hx])
    exact ⟨n :: hs, rfl⟩
theorem five_of {cs : List D} (h : WTs [tI, tI, tI, tI, tI] cs) : ∃ a b c d e, cs = [I' a, I' b, I' c, I' d, I' e] := by
  simp only [WTs] at h
  obtain ⟨_, _, rfl, h1, _, _, rfl, h2, _, _, rfl, h3, _, _, rfl, h4, _, _, rfl, h5, rfl⟩ := h
  obtain ⟨a, rfl⟩ := wt_i h1
  obtain ⟨b, rfl⟩ := wt_i h2
  obtain ⟨c, rfl⟩ := wt_i h3
  obtain ⟨d, rfl⟩ := wt_i h4
  obtain ⟨e, rfl⟩ := wt_i h5
  exact ⟨a, b, c, d, e, rfl⟩
theorem waiters_of {rows : List (List D)} (h : ∀ r ∈ rows, WT tW r) : ∃ q : List W, rows = q.map W.row := by
  induction rows with
  | nil => exact ⟨[], rfl⟩
  | cons r rs ih =>
    have h1 := h r (by simp)
    simp only [tW, WT] at h1
    obtain ⟨a, b, c, d, e, rfl⟩ := five_of h1
    obtain ⟨q, rfl⟩ := ih fun x hx => h x (by simp [hx])
    exact ⟨⟨a, b, c, d, e⟩ :: q, rfl⟩
theorem wt_sl {es : Nat} {t : Ty} {cs : List D} (h : WT (.sl es t) cs) : ∃ nl rows, cs = [.sl es nl rows] ∧ (nl = true → rows = []) ∧ ∀ r ∈ rows, WT t r := by
  simp only [WT] at h
  obtain ⟨nl, rows, rfl, h1, _, h2⟩ := h
  exact ⟨nl, rows, rfl, h1, h2⟩
theorem state_of {s : D} (h : WV tS s) : Nonempty (IsState s) := by
  simp only [tS, WV] at h
  obtain ⟨cs, rfl, h⟩ := h
  simp only [WTs] at h
  obtain ⟨_, _, rfl, h1, _, _, rfl, h2, _, _, rfl, h3, _, _, rfl, h4, _, _, rfl, h5, _, _, rfl, h6, _, _, rfl, h7, _, _, rfl, h8, _, _, rfl, h9, rfl⟩ := h
  obtain ⟨own, rfl⟩ := wt_i h1
  obtain ⟨cnt, rfl⟩ := wt_i h2
  obtain ⟨time, rfl⟩ := wt_i h3
  obtain ⟨hn, r4, rfl, _, k4⟩ := wt_sl h4
  obtain ⟨hs, rfl⟩ := ints_of k4
  obtain ⟨qn, r5, rfl, n5, k5⟩ := wt_sl h5
  obtain ⟨q, rfl⟩ := waiters_of k5
  obtain ⟨bn, r6, rfl, _, k6⟩ := wt_sl h6
  obtain ⟨bs, rfl⟩ := ints_of k6
  obtain ⟨cn, cs, rfl, _, k7⟩ := wt_sl h7
  simp only [WT] at h8
  obtain ⟨cl, rfl⟩ := h8
  obtain ⟨val, rfl⟩ := wt_i h9
  refine ⟨⟨own, cnt, time, hn, hs, qn, q, bn, bs, cn, cs, cl, val, rfl, ?_, fun h => List.map_eq_nil_iff.1 (n5 h)⟩⟩
  intro c hc
  have h1 := k7 c hc
  simp only [tCur, WT, WTs] at h1
  obtain ⟨_, _, rfl, ⟨n, rfl, _⟩, _, _, rfl, ⟨nb, r, rfl, _⟩, rfl⟩ := h1
  exact ⟨n, nb, r, rfl⟩
theorem call_of {s : D} (h : WV tC s) : ∃ a b c d e, s = .ag [I' a, I' b, I' c, I' d, I' e] := by
  simp only [tC, WV] at h
  obtain ⟨cs, rfl, h⟩ := h
  obtain ⟨a, b, c, d, e, rfl⟩ := five_of h
  exact ⟨a, b, c, d, e, rfl⟩
end Go.VS.M
namespace Go.VS.M
def mk (ks : List Int) : List (D × V) := ks.map fun t => (I' t, .d (.b true))
@[simp] theorem mk_length (ks : List Int) : (mk ks).length = ks.length := by simp [mk]
@[simp] theorem mk_locs (ks : List Int) : (mk ks).flatMap (fun p => p.2.locs) = [] := by simp [mk]
@[simp] theorem mk_ren (ks : List Int) (f : Nat → Nat) : (mk ks).map (fun p => (p.1, p.2.ren f)) = mk ks := by simp [mk]
structure K where
  task : Int
  op : Int
  value : Int
  prio : Int
  now : Int
def K.row (w : K) : List D := [I' w.task, I' w.op, I' w.value, I' w.prio, I' w.now]
end Go.VS.M
namespace Go.VS.M
theorem calls_of {rows : List (List D)} (h : ∀ r ∈ rows, WT tC r) : ∃ l : List K, rows = l.map K.row := by
  induction rows with
  | nil => exact ⟨[], rfl⟩
  | cons r rs ih =>
    have h1 := h r (by simp)
    simp only [tC, WT] at h1
    obtain ⟨a, b, c, d, e, rfl⟩ := five_of h1
    obtain ⟨q, rfl⟩ := ih fun x hx => h x (by simp [hx])
    exact ⟨⟨a, b, c, d, e⟩ :: q, rfl⟩
def tLC : Ty := .sl 5 tC
end Go.VS.M
namespace Go.VS.M
def insW (w : W) (q : List W) : List W := q.take (bnd w.prio q) ++ w :: q.drop (bnd w.prio q)
theorem ins_split (p : Int) : ∀ {q : List W}, Desc q → q.take (bnd p q) = q.filter (fun w => decide (p ≤ w.prio)) ∧ q.drop (bnd p q) = q.filter (fun w => !decide (p ≤ w.prio))
  | [], _ => by simp [bnd]
  | a :: q, h => by
    have h' := List.pairwise_cons.1 h
    have ih := ins_split p h'.2
    by_cases hp : p ≤ a.prio
    · have e : bnd p (a :: q) = bnd p q + 1 := by simp [bnd, List.takeWhile_cons, hp]
      simp [e, hp, ih.1, ih.2]
    · have e : bnd p (a :: q) = 0 := by simp [bnd, List.takeWhile_cons, hp]
      rw [e]
      have h1 : ∀ b ∈ q, ¬ p ≤ b.prio := fun b hb => by have := h'.1 b hb; omega
      refine ⟨?_, ?_⟩
      · symm
        rw [List.take_zero, List.filter_eq_nil_iff]
        intro b hb
        rcases List.mem_cons.1 hb with h2 | h2
        · subst h2; simpa using hp
        · simpa using h1 b h2
      · symm
        rw [List.drop_zero, List.filter_eq_self]
        intro b hb
        rcases List.mem_cons.1 hb with h2 | h2
        · subst h2; simpa using hp
        · simpa using h1 b h2
theorem filter_ins {w : W} {q : List W} {f : W → Bool} (hd : Desc q) (hf : f w = true) : (insW w q).filter f = insW w (q.filter f) := by
  have hd' : Desc (q.filter f) := List.Pairwise.filter f hd
  unfold insW
  rw [(ins_split w.prio hd).1, (ins_split w.prio hd).2, (ins_split w.prio hd').1, (ins_split w.prio hd').2]
  simp [List.filter_append, hf, Bool.and_comm]
theorem filter_ins0 {w : W} {q : List W} {f : W → Bool} (hf : f w = false) : (insW w q).filter f = q.filter f := by
  unfold insW
  rw [List.filter_append, List.filter_cons_of_neg (by simp [hf]), ← List.filter_append, List.take_append_drop]
theorem mem_ins {w x : W} {q : List W} : x ∈ insW w q ↔ x = w ∨ x ∈ q := by
  have : x ∈ q ↔ x ∈ q.take (bnd w.prio q) ∨ x ∈ q.drop (bnd w.prio q) := by
    rw [← List.mem_append, List.take_append_drop]
  simp only [insW, List.mem_append, List.mem_cons, this]
  constructor
  · rintro (h | h | h)
    · exact .inr (.inl h)
    · exact .inl h
    · exact .inr (.inr h)
  · rintro (h | h | h)
    · exact .inr (.inl h)
    · exact .inl h
    · exact .inr (.inr h)
theorem len_ins (w : W) (q : List W) : (insW w q).length = q.length + 1 := by
  unfold insW
  have := bnd_le w.prio q
  simp only [List.length_append, List.length_cons, List.length_take, List.length_drop]
  omega
structure Two (t own : Int) (qa qb : List W) : Prop where
  mv : MV own qa
  own0 : 0 ≤ own
  fil : qb = qa.filter fun w => w.task != t
  any : (qa.any fun w => w.task == t) = true
theorem Two.mvb {t own : Int} {qa qb : List W} (h : Two t own qa qb) : MV own qb := by rw [h.fil]; exact MV_filter _ h.mv
theorem Two.len {t own : Int} {qa qb : List W} (h : Two t own qa qb) : qb.length ≤ qa.length := by rw [h.fil]; exact List.length_filter_le ..
theorem Two.anyb {t own d : Int} {qa qb : List W} (h : Two t own qa qb) (hd : d ≠ t) : (qb.any fun w => w.task == d) = (qa.any fun w => w.task == d) := by
  rw [h.fil, List.any_filter]
  congr 1
  funext w
  by_cases hw : w.task = d
  · have : ¬ w.task = t := by rw [hw]; exact hd
    simp [hw, hd]
  · simp [hw]
theorem Two.step {t own d o p : Int} {qa qb : List W} (h : Two t own qa qb) (hd : d ≠ t) (ho : o ≠ 52) :
    (∃ e, e ≠ 0 ∧ applyS own qa o d p = zr e ∧ applyS own qb o d p = zr e) ∨
    (∃ qa' qb' pk, applyS own qa o d p = ⟨own, qa', pk, false, none, 0⟩ ∧ applyS own qb o d p = ⟨own, qb', pk, false, none, 0⟩ ∧ Two t own qa' qb' ∧ qa'.length ≤ qa.length + 1) := by
  have ha := MV_apply (o := o) (t := d) (p := p) h.mv
  have hb := h.anyb hd
  have h0 := h.own0
  unfold applyS at ha ⊢
  rw [hb]
  by_cases h1 : o ≠ 50 ∧ o ≠ 51 ∧ o ≠ 52
  · exact .inl ⟨8, by decide, by rw [if_pos h1], by rw [if_pos h1]⟩
  rw [if_neg h1] at ha ⊢
  rw [if_neg h1]
  by_cases h2 : (!isTask d || decide (p < 0) || decide (9 < p)) = true
  · exact .inl ⟨2, by decide, by rw [if_pos h2], by rw [if_pos h2]⟩
  rw [if_neg h2] at ha ⊢
  rw [if_neg h2]
  by_cases h3 : (qa.any fun w => w.task == d) = true
  · exact .inl ⟨17, by decide, by rw [if_pos h3], by rw [if_pos h3]⟩
  rw [if_neg h3] at ha ⊢
  rw [if_neg h3]
  have hne : ¬ ((own == -1) = true) := by simp; omega
  by_cases h4 : o = 50
  · rw [if_pos h4] at ha ⊢
    rw [if_pos h4]
    unfold lockS at ha ⊢
    rw [if_neg hne] at ha ⊢
    rw [if_neg hne]
    by_cases h5 : (own == d) = true
    · exact .inl ⟨17, by decide, by rw [if_pos h5], by rw [if_pos h5]⟩
    rw [if_neg h5] at ha ⊢
    rw [if_neg h5]
    refine .inr ⟨_, _, true, rfl, rfl, ?_, ?_⟩
    · refine ⟨ha rfl, h0, ?_, ?_⟩
      · rw [h.fil]
        exact (filter_ins (w := ⟨d, 50, 0, p, -1⟩) (f := fun w => w.task != t) h.mv.desc (by simpa using hd)).symm
      · have := h.any
        rw [List.any_eq_true] at this ⊢
        obtain ⟨x, hx, hx'⟩ := this
        exact ⟨x, (mem_ins (w := ⟨d, 50, 0, p, -1⟩)).2 (.inr hx), hx'⟩
    · exact Nat.le_of_eq (len_ins ⟨d, 50, 0, p, -1⟩ qa)
  · have h5 : o = 51 := by omega
    rw [if_neg h4, if_pos h5] at ha ⊢
    rw [if_neg h4, if_pos h5]
    unfold tryS
    rw [if_pos h0, if_pos h0]
    exact .inr ⟨qa, qb, false, rfl, rfl, h, by omega⟩
theorem Two.first {own t p : Int} {q : List W} (m : MV own q) (he : (applyS own q 50 t p).e = 0) (hp : (applyS own q 50 t p).parked = true) :
    applyS own q 50 t p = ⟨own, insW ⟨t, 50, 0, p, -1⟩ q, true, false, none, 0⟩ ∧ Two t own (insW ⟨t, 50, 0, p, -1⟩ q) q := by
  have ha := MV_apply (o := 50) (t := t) (p := p) m he
  unfold applyS at ha he hp ⊢
  rw [if_neg (by omega)] at ha he hp ⊢
  by_cases h2 : (!isTask t || decide (p < 0) || decide (9 < p)) = true
  · rw [if_pos h2] at he; simp [zr] at he
  rw [if_neg h2] at ha he hp ⊢
  by_cases h3 : (q.any fun w => w.task == t) = true
  · rw [if_pos h3] at he; simp [zr] at he
  rw [if_neg h3, if_pos rfl] at ha he hp ⊢
  unfold lockS at ha he hp ⊢
  by_cases h4 : (own == -1) = true
  · rw [if_pos h4] at hp; simp at hp
  rw [if_neg h4] at ha he hp ⊢
  by_cases h5 : (own == t) = true
  · rw [if_pos h5] at he; simp [zr] at he
  rw [if_neg h5] at ha he hp ⊢
  refine ⟨rfl, ha, ?_, ?_, ?_⟩
  · rcases m.rng with h | h
    · simp [h] at h4
    · exact h.1
  · rw [filter_ins0 (w := ⟨t, 50, 0, p, -1⟩) (f := fun w => w.task != t) (by simp)]
    symm
    rw [List.filter_eq_self]
    intro a ha
    simp only [Bool.not_eq_true, List.any_eq_false] at h3
    simpa using h3 a ha
  · rw [List.any_eq_true]
    exact ⟨⟨t, 50, 0, p, -1⟩, mem_ins.2 (.inl rfl), by simp⟩
theorem Two.wd {t own : Int} {qa qb : List W} (h : Two t own qa qb) : wdS own qa t = ⟨own, qb, false, false, none, 0⟩ ∧ wdS own qb t = zr 7 := by
  unfold wdS
  refine ⟨by rw [if_pos h.any, h.fil], ?_⟩
  rw [if_neg]
  rw [h.fil, List.any_filter]
  simp
end Go.VS.M
namespace Go.VS.M
theorem loop_Wd (nl : Bool) (l : List K) (hn : l.length ≤ 10) (t v p n : Int) : ∀ (suf pre : List K) (own : Int) (qa qb : List W) (a1 a2 a3 a4 b1 b2 b3 b4 : Bool), l = pre ++ suf → Two t own qa qb → qa.length ≤ 41 + pre.length → (a2 = true → qa = []) → (b2 = true → qb = []) →
    ∃ own' qa' qb' c1 c2 c3 c4 d1 d2 d3 d4, Two t own' qa' qb' ∧ qa'.length ≤ 51 ∧
    ev P (.loop 0 [4, 9, 10, 48, 49, 50] F_nurserylaw16_MutexWithdraws_L0 [(4, .loc 0 0 0), (9, .loc 1 0 0), (10, .loc 2 0 0), (48, .d (.sl 5 nl (l.map K.row))), (49, .d (I' l.length)), (50, .d (I' pre.length))] [.arrD 5 true [[I' t, I' 50, I' v, I' p, I' n]], .arrD 9 true [stL a1 a2 a3 a4 own qa], .arrD 9 true [stL b1 b2 b3 b4 own qb]]) =
      some (.out (.exit 0) [(4, .loc 0 0 0), (9, .loc 1 0 0), (10, .loc 2 0 0)] [.arrD 5 true [[I' t, I' 50, I' v, I' p, I' n]], .arrD 9 true [stL c1 c2 c3 c4 own' qa'], .arrD 9 true [stL d1 d2 d3 d4 own' qb']]) := by
  intro suf
  induction suf with
  | nil =>
    intro pre own qa qb a1 a2 a3 a4 b1 b2 b3 b4 hl ht hlen h1 h2
    have : l.length = pre.length := by simp [hl]
    refine ⟨own, qa, qb, a1, a2, a3, a4, b1, b2, b3, b4, ht, by omega, ?_⟩
    rw [ev_loop]
    conv => lhs; arg 4; unfold F_nurserylaw16_MutexWithdraws_L0
    simp [this, reachC, cut, List.idxOf_cons]
  | cons c suf ih =>
    intro pre own qa qb a1 a2 a3 a4 b1 b2 b3 b4 hl ht hlen h1 h2
    have hg : l[pre.length]? = some c := by simp [hl]
    have hlt : (pre.length : Int) < l.length := by simp [hl]; omega
    have hple : pre.length < l.length := by simp [hl]
    have hnext : IntKind.i64.wrap ((pre.length : Int) + 1) = pre.length + 1 := wrap_i64 (by omega) (by omega)
    cases hsk : (c.task == t || c.op == 52)
    · have hsk' := hsk
      simp at hsk'
      have ea := ev_mApply1 (.s [109]) a1 a2 a3 a4 own qa c.task c.op c.value c.prio c.now h1 (by omega) ht.mv.desc (mvalid_of ht.mv (by omega))
      have hlb := ht.len
      have eb := ev_mApply1 (.s [109]) b1 b2 b3 b4 own qb c.task c.op c.value c.prio c.now h2 (by omega) ht.mvb.desc (mvalid_of ht.mvb (by omega))
      obtain ⟨x1, x2, x3, x4, x5, ha, ha2⟩ := ea
      obtain ⟨y1, y2, y3, y4, y5, hb, hb2⟩ := eb
      rcases ht.step (o := c.op) (p := c.prio) hsk'.1 hsk'.2 with ⟨e, he, r1, r2⟩ | ⟨qa', qb', pk, r1, r2, ht', hl'⟩
      · rw [r1] at ha
        rw [r2] at hb
        simp only [zr] at ha hb
        have he' : (e == 0) = false := by simpa using he
        obtain ⟨o', q1, q2, c1, c2, c3, c4, d1, d2, d3, d4, k1, k2, k3⟩ := ih (pre ++ [c]) own qa qb a1 a2 a3 a4 b1 b2 b3 b4 (by simp [hl]) ht (by simp; omega) h1 h2
        refine ⟨o', q1, q2, c1, c2, c3, c4, d1, d2, d3, d4, k1, k2, ?_⟩
        rw [← k3]
        clear k3
        generalize hR : ev P (.loop 0 [4, 9, 10, 48, 49, 50] F_nurserylaw16_MutexWithdraws_L0 [(4, .loc 0 0 0), (9, .loc 1 0 0), (10, .loc 2 0 0), (48, .d (.sl 5 nl (l.map K.row))), (49, .d (I' l.length)), (50, .d (I' (pre ++ [c]).length))] [.arrD 5 true [[I' t, I' 50, I' v, I' p, I' n]], .arrD 9 true [stL a1 a2 a3 a4 own qa], .arrD 9 true [stL b1 b2 b3 b4 own qb]]) = R
        simp at hR
        rw [ev_loop]
        conv => lhs; arg 4; unfold F_nurserylaw16_MutexWithdraws_L0
        simp [hlt, hg, K.row, ev_object, hsk, ha, hb, V.same_self, thaw, freezeAll, freeze1, he', hnext, reachC, cut, List.idxOf_cons]
        exact hR
      · rw [r1] at ha ha2
        rw [r2] at hb hb2
        simp only at ha hb ha2 hb2
        obtain ⟨o', q1, q2, c1, c2, c3, c4, d1, d2, d3, d4, k1, k2, k3⟩ := ih (pre ++ [c]) own qa' qb' x1 x2 x3 x4 y1 y2 y3 y4 (by simp [hl]) ht' (by simp; omega) ha2 hb2
        refine ⟨o', q1, q2, c1, c2, c3, c4, d1, d2, d3, d4, k1, k2, ?_⟩
        rw [← k3]
        clear k3
        generalize hR : ev P (.loop 0 [4, 9, 10, 48, 49, 50] F_nurserylaw16_MutexWithdraws_L0 [(4, .loc 0 0 0), (9, .loc 1 0 0), (10, .loc 2 0 0), (48, .d (.sl 5 nl (l.map K.row))), (49, .d (I' l.length)), (50, .d (I' (pre ++ [c]).length))] [.arrD 5 true [[I' t, I' 50, I' v, I' p, I' n]], .arrD 9 true [stL x1 x2 x3 x4 own qa'], .arrD 9 true [stL y1 y2 y3 y4 own qb']]) = R
        simp at hR
        rw [ev_loop]
        conv => lhs; arg 4; unfold F_nurserylaw16_MutexWithdraws_L0
        simp [hlt, hg, K.row, ev_object, hsk, ha, hb, V.same_self, thaw, freezeAll, freeze1, hnext, reachC, cut, List.idxOf_cons]
        exact hR
    · obtain ⟨o', q1, q2, c1, c2, c3, c4, d1, d2, d3, d4, k1, k2, k3⟩ := ih (pre ++ [c]) own qa qb a1 a2 a3 a4 b1 b2 b3 b4 (by simp [hl]) ht (by simp; omega) h1 h2
      refine ⟨o', q1, q2, c1, c2, c3, c4, d1, d2, d3, d4, k1, k2, ?_⟩
      rw [← k3]
      clear k3
      generalize hR : ev P (.loop 0 [4, 9, 10, 48, 49, 50] F_nurserylaw16_MutexWithdraws_L0 [(4, .loc 0 0 0), (9, .loc 1 0 0), (10, .loc 2 0 0), (48, .d (.sl 5 nl (l.map K.row))), (49, .d (I' l.length)), (50, .d (I' (pre ++ [c]).length))] [.arrD 5 true [[I' t, I' 50, I' v, I' p, I' n]], .arrD 9 true [stL a1 a2 a3 a4 own qa], .arrD 9 true [stL b1 b2 b3 b4 own qb]]) = R
      simp at hR
      rw [ev_loop]
      conv => lhs; arg 4; unfold F_nurserylaw16_MutexWithdraws_L0
      simp [hlt, hg, K.row, hsk, hnext, reachC, cut, List.idxOf_cons]
      exact hR
end Go.VS.M
namespace Go.VS
theorem allSame_of {R : Type} {p : R} : ∀ {l : List (Option R)}, l ≠ [] → (∀ x ∈ l, x = some p) → allSame l = some p
  | [], h, _ => absurd rfl h
  | [x], _, h => by simpa [allSame] using h x (by simp)
  | x :: y :: r, _, h => by
    have ih := allSame_of (l := y :: r) (by simp) (fun z hz => h z (by simp [hz]))
    have hx := h x (by simp)
    unfold allSame
    rw [ih, hx, if_pos rfl]
def allJ (q : Nat → Prop) : List Nat → Prop
  | [] => True
  | j :: r => q j ∧ allJ q r
theorem allJ_mem {q : Nat → Prop} : ∀ {l : List Nat}, allJ q l → ∀ j ∈ l, q j
  | [], _, _, h => by simp at h
  | a :: r, h, j, hj => by
    rcases List.mem_cons.1 hj with rfl | hj
    · exact h.1
    · exact allJ_mem h.2 j hj
theorem evO_evI {rec : Rec} {i : I} {e e' : Env} {h h' : List O} (k : evO rec i e h = some (e', h')) : evI rec i ⟨e, h, true⟩ = ⟨e', h', true⟩ := by
  unfold evO St.res at k
  split at k
  · rename_i hok
    simp only [Option.some.injEq, Prod.mk.injEq] at k
    obtain ⟨k1, k2⟩ := k
    cases hs : evI rec i ⟨e, h, true⟩ with
    | mk a b c =>
      rw [hs] at k1 k2 hok
      simp only at k1 k2 hok
      subst k1; subst k2; subst hok
      rfl
  · simp at k
theorem runAll_i {rec : Rec} {m : Nat} {live : List Nat} {D : List (List Nat)} {is : List I} {f : Nat} {E : List Nat} {e : Env} {h : List O} {p : List (Nat × V) × List O} (r : List Nat) (hr : readyV D is.length E = r) (hne : r ≠ [])
    (k : allJ (fun j => (is[j]?).bind (fun i => (evO rec i e h).bind fun q => runAll rec m live D is f (j :: E) ⟨q.1, q.2, true⟩) = some p) r) : runAll rec m live D is (f + 1) E ⟨e, h, true⟩ = some p := by
  rw [runAll, if_pos rfl, hr]
  refine allSame_of (by simpa using hne) fun x hx => ?_
  obtain ⟨j, hj, rfl⟩ := List.mem_map.1 hx
  have := allJ_mem k j hj
  cases hi : is[j]? with
  | none => simp [hi] at this
  | some i =>
    rw [hi, Option.bind_some] at this
    cases hq : evO rec i e h with
    | none => simp [hq] at this
    | some q =>
      rw [hq, Option.bind_some] at this
      rw [Option.bind_some, evO_evI (e' := q.1) (h' := q.2) hq]
      exact this
theorem runAll_z {rec : Rec} {m : Nat} {live : List Nat} {D : List (List Nat)} {is : List I} {E : List Nat} {e : Env} {h : List O} : runAll rec m live D is 0 E ⟨e, h, true⟩ = canon m live e h := by
  rw [runAll, if_pos rfl]
end Go.VS
namespace Go.VS.M
def rW : List I := [.fa 45 (.t 7) 0 9, .ld 46 (.t 45) 9 true, .ld 47 (.t 3) 9 true, .new 9 zR, .new 10 zR, .st (.t 9) (.t 46) 9 false, .st (.t 10) (.t 47) 9 false]
def dW : List (List Nat) := [[], [0], [], [], [], [3, 1, 0, 1, 3, 4], [4, 2, 5, 0, 1, 2, 3, 4, 5]]
set_option maxHeartbeats 4000000 in
theorem drx_W (e : Env) (L : D) (o1 : O) (ho : o1.locs = []) (a1 a2 a3 a4 a5 a6 a7 a8 a9 x1 x2 x3 x4 b1 b2 b3 b4 b5 b6 b7 b8 b9 : D)
    (h7 : envGet e 7 = .d (.ref [a1, a2, a3, a4, a5, a6, a7, a8, a9, x1, x2, x3, x4])) (h3 : envGet e 3 = .d (.ref [b1, b2, b3, b4, b5, b6, b7, b8, b9])) (h2 : envGet e 2 = .d L) (h4 : envGet e 4 = .loc 0 0 0) (crow : List D) :
    runAll (fun _ => none) 0 [2, 4, 9, 10] dW rW 7 [] ⟨e, [.arrD 5 true [crow], o1], true⟩ =
      some ([(2, .d L), (4, .loc 0 0 0), (9, .loc 1 0 0), (10, .loc 2 0 0)], [.arrD 5 true [crow], .arrD 9 true [[a1, a2, a3, a4, a5, a6, a7, a8, a9]], .arrD 9 true [[b1, b2, b3, b4, b5, b6, b7, b8, b9]]]) := by
  unfold rW
  have r0 : List.range 7 = [0, 1, 2, 3, 4, 5, 6] := rfl
  iterate 7
    all_goals
      refine runAll_i _ rfl (by decide) ?_
      simp [allJ, readyV, dW, r0, h7, h3]
      try and_intros
  all_goals simp [runAll_z, h7, h3, h2, h4, ho, reachC, cut, List.idxOf_cons]
end Go.VS.M
namespace Go.VS.M
theorem same_refl (own : Int) (q : List W) : sameB own 0 0 [] q [] [] false 0 own 0 0 [] q [] false 0 = true := by simp [sameB]
theorem law_Withdraws {s : D} (S : IsState s) (t o v p n : Int) (nl : Bool) (l : List K) :
    ev P (.call nurserylaw16_MutexWithdraws [.d s, .d (.ag [I' t, I' o, I' v, I' p, I' n]), .d (.sl 5 nl (l.map K.row))] []) = some (.val (.d (.b true)) []) := by
  obtain ⟨own, cnt, time, hn, hs, qn, q, bn, bs, cn, cs, cl, val, rfl, hcs, nl'⟩ := S
  have hG := ev_Great own cnt time hn hs qn q bn bs cn cs cl val hcs
  have hm : mnew 1 0 0 = 0 := by decide
  rw [ev_call P_nurserylaw16_MutexWithdraws rfl]
  cases hg : greatB hs q bs cs
  · obtain ⟨g1, g2, g3, g4⟩ := great_q hg
    rw [hg] at hG
    by_cases hl10 : 10 < l.length
    · have h10 : (10 : Int) < l.length := by omega
      simp [F_nurserylaw16_MutexWithdraws, hG, h10, ev_awake]
    · have h10 : ¬ (10 : Int) < l.length := by omega
      have ea := ev_mApply (.s [109]) 1 0 0 own cnt time hn hs qn q bn bs cn cs cl val t 50 v p n (by omega) (by omega) (by omega) (by omega) nl'
      obtain ⟨a1, a2, a3, a4, a5, ha, ha2⟩ := ea
      by_cases he : (appT 1 0 0 own cnt time hs q bs cs cl val 50 t p).e = 0
      · have hv : mvalid own cnt time hs q bs cs cl val = true := by
          unfold appT at he
          rw [if_pos hm] at he
          split at he
          · assumption
          · simp [zr] at he
        have hap : appT 1 0 0 own cnt time hs q bs cs cl val 50 t p = applyS own q 50 t p := by
          unfold appT
          rw [if_pos hm, if_pos hv]
        rw [hap] at ha ha2 he
        obtain ⟨⟨rfl, rfl, rfl, rfl, rfl, rfl, rfl⟩, hl, m⟩ := mvalid_iff.1 hv
        cases hp : (applyS own q 50 t p).parked
        · generalize applyS own q 50 t p = r at *
          simp [F_nurserylaw16_MutexWithdraws, hG, h10, ev_object, ha, he, hp, V.same_self, thaw, freezeAll, freeze1, overlay, ev_awake]
        · obtain ⟨r1, ht⟩ := Two.first m he hp
          rw [r1] at ha ha2
          simp only at ha ha2
          have hli := len_ins (⟨t, 50, 0, p, -1⟩ : W) q
          obtain ⟨own', qa', qb', c1, c2, c3, c4, d1, d2, d3, d4, k1, k2, k3⟩ := loop_Wd nl l (by omega) t v p n l [] own _ q a1 a2 a3 a4 hn qn bn cn rfl ht (by simp; omega) ha2 nl'
          simp only [List.length_nil] at k3
          generalize insW ⟨t, 50, 0, p, -1⟩ q = qi at *
          have w1 := ev_mWithdraw (.s [109]) 1 0 0 own' 0 0 c1 [] c2 qa' c3 [] c4 [] false 0 t (by simp) (by omega) (by simp) (by simp)
          obtain ⟨x1, x2, x3, x4, x5, hw1, _⟩ := w1
          have hlb := k1.len
          have w2 := ev_mWithdraw (.s [109]) 1 0 0 own' 0 0 x1 [] x2 qb' x3 [] x4 [] false 0 t (by simp) (by omega) (by simp) (by simp)
          obtain ⟨y1, y2, y3, y4, y5, hw2, _⟩ := w2
          have e1 : wdT 1 0 0 own' 0 0 [] qa' [] [] false 0 t = ⟨own', qb', false, false, none, 0⟩ := by
            unfold wdT
            rw [if_pos hm, if_pos (mvalid_of k1.mv (by omega))]
            exact k1.wd.1
          have e2 : wdT 1 0 0 own' 0 0 [] qb' [] [] false 0 t = zr 7 := by
            unfold wdT
            rw [if_pos hm, if_pos (mvalid_of k1.mvb (by omega))]
            exact k1.wd.2
          rw [e1] at hw1
          rw [e2] at hw2
          simp only [zr] at hw1 hw2
          have hS := ev_Same own' 0 0 x1 [] x2 qb' x3 [] x4 [] false 0 own' 0 0 d1 [] d2 qb' d3 [] d4 false 0 (by simp) (by omega) (by simp) (by simp)
          rw [same_refl] at hS
          have hd := drx_W
          unfold dW rW at hd
          simp only [zR] at hd
          simp at k3
          simp [F_nurserylaw16_MutexWithdraws, hG, h10, ev_object, ha, V.same_self, thaw, freezeAll, freeze1, overlay]
          rw [hd (L := .sl 5 nl (l.map K.row)) (h7 := rfl) (h3 := rfl) (h2 := rfl) (h4 := rfl) (ho := rfl)]
          simp [reachC, cut, List.idxOf_cons, k3, ev_object, hw1, hw2, V.same_self, thaw, freezeAll, freeze1, overlay, hS, ev_awake]
      · generalize appT 1 0 0 own cnt time hs q bs cs cl val 50 t p = r at *
        have he' : (r.e != 0) = true := by simpa using he
        simp [F_nurserylaw16_MutexWithdraws, hG, h10, ev_object, ha, he', V.same_self, thaw, freezeAll, freeze1, overlay, ev_awake]
  · rw [hg] at hG
    simp [F_nurserylaw16_MutexWithdraws, hG, ev_awake]
end Go.VS.M
namespace Go.VS.M
theorem l_Withdraws (xs : List D) (h : WVs [tS, tC, tLC] xs) : ev P (.call nurserylaw16_MutexWithdraws (xs.map V.d) []) = some (.val (.d (.b true)) []) := by
  simp only [WVs] at h
  obtain ⟨s, _, rfl, hs, c, _, rfl, hc, l, _, rfl, hl, rfl⟩ := h
  obtain ⟨S⟩ := state_of hs
  obtain ⟨a, b, c, d, e, rfl⟩ := call_of hc
  simp only [tLC, WV] at hl
  obtain ⟨nl, rows, hs1, _, hr⟩ := wt_sl hl
  obtain rfl : l = .sl 5 nl rows := by simpa using hs1
  obtain ⟨l, rfl⟩ := calls_of hr
  exact law_Withdraws S a b c d e nl l
end Go.VS.M
