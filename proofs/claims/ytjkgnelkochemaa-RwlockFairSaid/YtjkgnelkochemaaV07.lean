import Derived.Test.YtjkgnelkochemaaV06
set_option linter.all false
namespace Go.VS.R
abbrev I' (n : Int) : D := .i .i64 n
structure W where
  task : Int
  op : Int
  value : Int
  prio : Int
  case : Int
  deriving DecidableEq
@[simp] theorem W.eta (w : W) : W.mk w.task w.op w.value w.prio w.case = w := rfl
def W.row (w : W) : List D := [I' w.task, I' w.op, I' w.value, I' w.prio, I' w.case]
def isTask (n : Int) : Bool := decide (0 ≤ n) && decide (n < 16)
theorem ev_isTask (n : Int) : ev P (.call rwlock_isTask [.d (I' n)] []) = some (.val (.d (.b (isTask n))) []) := by
  rw [ev_call P_rwlock_isTask rfl]
  simp [F_rwlock_isTask, isTask]
def wbad (w : W) : Bool := (decide (w.task < 0) || decide (16 ≤ w.task) || decide (w.op < 1) || decide (99 < w.op) || decide (w.value < -1099511627776) || decide (1099511627776 < w.value))
def wvalid (w : W) : Bool := !wbad w && (decide (0 ≤ w.prio) && decide (w.prio ≤ 9) && decide (-1 ≤ w.case) && decide (w.case < 6))
theorem ev_wvalid (a b c d e : Int) : ev P (.call waitlist_valid [.d (.ag [I' a, I' b, I' c, I' d, I' e])] []) = some (.val (.d (.b (wvalid ⟨a, b, c, d, e⟩))) []) := by
  rw [ev_call P_waitlist_valid rfl]
  cases h : wbad ⟨a, b, c, d, e⟩ <;> simp only [wvalid, h] <;> unfold wbad at h <;> simp [F_waitlist_valid, W.row, h]
def Ws (l : List W) (nl : Bool) : D := .sl 5 nl (l.map W.row)
/-- the check from a place on -/
def wcheckFrom (d : Int) (prev : Option W) : List W → Int
  | [] => 0
  | w :: r => if wvalid w = false then 2 else if d = 2 ∧ (prev.any fun p => decide (p.prio < w.prio)) = true then 9 else wcheckFrom d (some w) r
theorem getElem?_snoc_prev {α : Type} {pre suf : List α} {w : α} : (pre ++ w :: suf)[pre.length]? = some w := by simp
theorem wrap1 : IntKind.i64.wrap 1 = 1 := by decide
theorem loop_wcheck (d : Int) (nl : Bool) (l : List W) (hn : l.length ≤ 96) : ∀ (suf pre : List W), l = pre ++ suf →
    ev P (.loop 0 [0, 1, 16, 17, 18] F_waitlist_Check_L0 [(0, .d (I' d)), (1, .d (.sl 5 nl (l.map W.row))), (16, .d (.sl 5 nl (l.map W.row))), (17, .d (I' l.length)), (18, .d (I' pre.length))] []) =
      if wcheckFrom d pre.getLast? suf = 0 then some (.out (.exit 0) [] []) else some (.out .ret [(4, .d (I' (wcheckFrom d pre.getLast? suf)))] []) := by
  intro suf
  induction suf with
  | nil =>
    intro pre hl
    have : l.length = pre.length := by simp [hl]
    rw [ev_loop]
    conv => lhs; arg 4; unfold F_waitlist_Check_L0
    simp [this, wcheckFrom]
  | cons w suf ih =>
    intro pre hl
    have hg : l[pre.length]? = some w := by simp [hl]
    have hlt : (pre.length : Int) < l.length := by simp [hl]; omega
    rw [ev_loop]
    conv => lhs; arg 4; unfold F_waitlist_Check_L0
    simp [hlt, hg, W.row, ev_wvalid]
    cases hv : wvalid w
    · simp [wcheckFrom, hv]
    · simp
      have hnext : IntKind.i64.wrap ((pre.length : Int) + 1) = pre.length + 1 := wrap_i64 (by omega) (by omega)
      have ih' := ih (pre ++ [w]) (by simp [hl])
      simp at ih'
      rcases List.eq_nil_or_concat pre with rfl | ⟨pre', p, rfl⟩
      · simp [wcheckFrom, hv, wrap1] at *
        exact ih'
      · have hgp : l[pre'.length]? = some p := by simp [hl]
        have hlen : ((pre'.length : Int) + 1 < l.length) := by simp [hl]; omega
        have hw : IntKind.i64.wrap ((pre'.length : Int) + 1 - 1) = pre'.length := by rw [wrap_i64 (by omega) (by omega)]; omega
        have h0 : (0 : Int) < pre'.length + 1 := by omega
        have hw2 : IntKind.i64.wrap (pre'.length : Int) = pre'.length := wrap_i64 (by omega) (by omega)
        have hw3 : IntKind.i64.wrap ((pre'.length : Int) + 1 + 1) = pre'.length + 1 + 1 := wrap_i64 (by omega) (by omega)
        simp at ih'
        by_cases hd : d = 2
        · by_cases hp : p.prio < w.prio
          · subst hd
            simp [wcheckFrom, hv, hp, hw2, hw3, hgp, W.row, h0]
          · subst hd
            simp [wcheckFrom, hv, hp, hw2, hw3, hgp, W.row, h0]
            exact ih'
        · have hd2 : (d == 2) = false := by simp [hd]
          simp [wcheckFrom, hv, hd, hd2, hw2, hw3, hgp, W.row, h0]
          exact ih'
def wchk (l : List W) : Int := if 96 < l.length then 4 else wcheckFrom 1 none l
theorem ev_wCheck (nl : Bool) (l : List W) : ev P (.call waitlist_Check [.d (I' 1), .d (.sl 5 nl (l.map W.row))] []) =
    some (.val (.d (I' (wchk l))) []) := by
  unfold wchk
  rw [ev_call P_waitlist_Check rfl]
  by_cases h : 96 < l.length
  · have h' : (96 : Int) < l.length := by omega
    simp [F_waitlist_Check, h, h']
  · have h' : ¬ (96 : Int) < l.length := by omega
    have hl := loop_wcheck 1 nl l (by omega) l [] rfl
    simp at hl
    simp [F_waitlist_Check, h, h', hl]
    by_cases hc : wcheckFrom 1 none l = 0 <;> simp [hc]
theorem allD_map' : ∀ (ds : List D), allD (ds.map V.d) = some ds
  | [] => rfl
  | d :: ds => by simp [allD_map' ds]
theorem allD_mid {a b : List D} {x : D} : allD (a.map V.d ++ .d x :: b.map V.d) = some (a ++ x :: b) := by
  have := allD_map' (a ++ x :: b)
  simpa using this
/-- where a queue first has a waiter of a kind -/
def idx (p : W → Bool) : Int → List W → Int
  | _, [] => -1
  | k, w :: r => if p w then k else idx p (k + 1) r
theorem loop_IndexFunc {f : Nat} {first caps : List D} {p : W → Bool} (nl : Bool) (l : List W) (hn : l.length ≤ 1000000)
    (hp : ∀ a b c d e, ev P (.call f (first.map V.d ++ [.d (.ag [I' a, I' b, I' c, I' d, I' e])] ++ caps.map V.d) []) = some (.val (.d (.b (p ⟨a, b, c, d, e⟩))) [])) :
    ∀ (suf pre : List W), l = pre ++ suf →
    ev P (.loop 0 [0, 1, 7, 8] F_slices_IndexFunc_api_Waiter_api_Waiter_L0 [(0, .d (.sl 5 nl (l.map W.row))), (1, .d (.fn f first caps)), (7, .d (I' l.length)), (8, .d (I' pre.length))] []) =
      if idx p pre.length suf = -1 then some (.out (.exit 0) [] []) else some (.out .ret [(4, .d (I' (idx p pre.length suf)))] []) := by
  intro suf
  induction suf with
  | nil =>
    intro pre hl
    have : l.length = pre.length := by simp [hl]
    rw [ev_loop]
    conv => lhs; arg 4; unfold F_slices_IndexFunc_api_Waiter_api_Waiter_L0
    simp [this, idx]
  | cons w suf ih =>
    intro pre hl
    have hg : l[pre.length]? = some w := by simp [hl]
    have hlt : (pre.length : Int) < l.length := by simp [hl]; omega
    have hnext : IntKind.i64.wrap ((pre.length : Int) + 1) = pre.length + 1 := wrap_i64 (by omega) (by omega)
    have ih' := ih (pre ++ [w]) (by simp [hl])
    simp at ih' hp
    rw [ev_loop]
    conv => lhs; arg 4; unfold F_slices_IndexFunc_api_Waiter_api_Waiter_L0
    simp [hlt, hg, W.row, hp, allD_mid]
    cases hw : p w
    · simp [idx, hw, hnext]
      exact ih'
    · have : ¬ (pre.length : Int) = -1 := by omega
      simp [idx, hw, this]
theorem ev_IndexFunc {f : Nat} {first caps : List D} {p : W → Bool} (nl : Bool) (l : List W) (hn : l.length ≤ 1000000)
    (hp : ∀ a b c d e, ev P (.call f (first.map V.d ++ [.d (.ag [I' a, I' b, I' c, I' d, I' e])] ++ caps.map V.d) []) = some (.val (.d (.b (p ⟨a, b, c, d, e⟩))) [])) :
    ev P (.call slices_IndexFunc_api_Waiter_api_Waiter [.d (.sl 5 nl (l.map W.row)), .d (.fn f first caps)] []) = some (.val (.d (I' (idx p 0 l))) []) := by
  rw [ev_call P_slices_IndexFunc_api_Waiter_api_Waiter rfl]
  have hl := loop_IndexFunc nl l hn hp l [] rfl
  simp at hl
  simp [F_slices_IndexFunc_api_Waiter_api_Waiter, hl]
  by_cases hc : idx p 0 l = -1 <;> simp [hc]
theorem idx_any {p : W → Bool} : ∀ {l : List W} {k : Int}, 0 ≤ k → (0 ≤ idx p k l ↔ l.any p = true)
  | [], k, _ => by simp [idx]
  | w :: r, k, hk => by
    by_cases hw : p w = true
    · simp [idx, hw, hk]
    · simp [idx, hw, idx_any (l := r) (k := k + 1) (by omega)]
theorem ev_ContainsFunc {f : Nat} {first caps : List D} {p : W → Bool} (nl : Bool) (l : List W) (hn : l.length ≤ 1000000)
    (hp : ∀ a b c d e, ev P (.call f (first.map V.d ++ [.d (.ag [I' a, I' b, I' c, I' d, I' e])] ++ caps.map V.d) []) = some (.val (.d (.b (p ⟨a, b, c, d, e⟩))) [])) :
    ev P (.call slices_ContainsFunc_api_Waiter_api_Waiter [.d (.sl 5 nl (l.map W.row)), .d (.fn f first caps)] []) = some (.val (.d (.b (l.any p))) []) := by
  rw [ev_call P_slices_ContainsFunc_api_Waiter_api_Waiter rfl]
  have hi := ev_IndexFunc nl l hn hp
  simp [F_slices_ContainsFunc_api_Waiter_api_Waiter, hi]
  have := idx_any (p := p) (l := l) (k := 0) (by omega)
  cases ha : l.any p
  · have hc : ¬ 0 ≤ idx p 0 l := fun h => by rw [this.1 h] at ha; cases ha
    simp [hc]
  · have hc : 0 ≤ idx p 0 l := this.2 ha
    simp [hc]
theorem ev_RemoveC1 (t a b c d e : Int) : ev P (.call waitlist_RemoveC1 [.d (.ag [I' a, I' b, I' c, I' d, I' e]), .d (.ref [I' t])] []) = some (.val (.d (.b (a != t))) []) := by
  rw [ev_call P_waitlist_RemoveC1 rfl]
  simp [F_waitlist_RemoveC1]
abbrev rows1 (l : List Int) : List (List D) := l.map fun x => [I' x]
abbrev hD (n : Bool) (l : List Int) : D := .sl 1 n (rows1 l)
abbrev qD (n : Bool) (l : List W) : D := .sl 5 n (l.map W.row)
abbrev cD (n : Bool) (l : List (List D)) : D := .sl 2 n l
/-- the cells of a state -/
def srow (own cnt time : Int) (hn : Bool) (hs : List Int) (qn : Bool) (q : List W) (bn : Bool) (bs : List Int) (cn : Bool) (cs : List (List D)) (cl : Bool) (val : Int) : List D :=
  [I' own, I' cnt, I' time, .sl 1 hn (hs.map fun x => [I' x]), .sl 5 qn (q.map W.row), .sl 1 bn (bs.map fun x => [I' x]), .sl 2 cn cs, .b cl, I' val]
/-- the list that a loop makes, and the heap that it lies in -/
def accV (es : Nat) (z : V) : List (List D) → V
  | [] => z
  | r :: rs => .asl 0 0 (r :: rs).length
def accH (es : Nat) : List (List D) → List O
  | [] => []
  | r :: rs => [.arrD es true (r :: rs)]
theorem take_map_len {α β : Type} {f : α → β} {r : List α} : List.take r.length (r.map f) = r.map f := List.take_of_length_le (by simp)
theorem drop_map_len {α β : Type} {f : α → β} {r : List α} : List.drop (r.length + 1) (r.map f) = [] := List.drop_eq_nil_of_le (by simp)
theorem loop_filter {f : Nat} {first caps : List D} {p : W → Bool} (nl : Bool) (l : List W) (hn : l.length ≤ 1000000)
    (hp : ∀ a b c d e, ev P (.call f (first.map V.d ++ [.d (.ag [I' a, I' b, I' c, I' d, I' e])] ++ caps.map V.d) []) = some (.val (.d (.b (p ⟨a, b, c, d, e⟩))) []))
    (R : Option Res) (hR : R = some (.out (.exit 0) [(5, accV 5 (.d (.sl 5 true [])) ((l.filter p).map W.row))] (accH 5 ((l.filter p).map W.row)))) :
    ∀ (suf pre : List W), l = pre ++ suf →
    ev P (.loop 0 [1, 5, 8, 9, 10] F_waitlist_filter_L0 [(1, .d (.fn f first caps)), (5, accV 5 (.d (.sl 5 true [])) ((pre.filter p).map W.row)), (8, .d (.sl 5 nl (l.map W.row))), (9, .d (I' l.length)), (10, .d (I' pre.length))] (accH 5 ((pre.filter p).map W.row))) = R := by
  intro suf
  induction suf with
  | nil =>
    intro pre hl
    have hlp : l = pre := by simp [hl]
    subst hlp
    rw [ev_loop, hR]
    conv => lhs; arg 4; unfold F_waitlist_filter_L0
    cases hf : l.filter p with
    | nil => simp [accV, accH]
    | cons a r => simp [accV, accH, reachC, cut, W.row]
  | cons w suf ih =>
    intro pre hl
    clear hR
    have hg : l[pre.length]? = some w := by simp [hl]
    have hlt : (pre.length : Int) < l.length := by simp [hl]; omega
    have hnext : IntKind.i64.wrap ((pre.length : Int) + 1) = pre.length + 1 := wrap_i64 (by omega) (by omega)
    have ih' := ih (pre ++ [w]) (by simp [hl])
    simp at ih' hp
    rw [ev_loop]
    conv => lhs; arg 4; unfold F_waitlist_filter_L0
    cases hf : pre.filter p with
    | nil =>
      simp [hlt, hg, W.row, hp, allD_mid, accV, accH]
      cases hw : p w
      · simp [hw, hnext, hf, accV, accH, reachC] at ih' ⊢
        exact ih'
      · have hr : 1 ≤ room := by decide
        simp [hw, hnext, hf, hr, accV, accH, reachC, W.row] at ih' ⊢
        exact ih'
    | cons a r =>
      have hrl : r.length < 1000000 := by
        have h1 : (pre.filter p).length ≤ pre.length := List.length_filter_le _ _
        have h2 : pre.length ≤ l.length := by simp [hl]
        rw [hf] at h1; simp at h1; omega
      have hr : r.length + 1 + 1 ≤ room := by unfold room; omega
      simp [hlt, hg, W.row, hp, allD_mid, accV, accH]
      cases hw : p w
      · simp [hw, hnext, hf, accV, accH, reachC, W.row] at ih' ⊢
        exact ih'
      · simp [hw, hnext, hf, hr, accV, accH, reachC, W.row, overlay, take_map_len, drop_map_len, Nat.not_succ_le_self] at ih' ⊢
        exact ih'

end Go.VS.R
namespace Go.VS.R
/-! Find, and what is removed from a queue in memory -/
def fdS (q : List W) (t : Int) : Int × Bool := match q.findIdx? (fun w => w.task == t) with | some i => (i, true) | none => (0, false)
theorem loop_Find (nl : Bool) (l : List W) (t : Int) (hn : l.length ≤ 1000000) : ∀ (suf pre : List W), l = pre ++ suf →
    ev P (.loop 0 [1, 8, 9, 10] F_waitlist_Find_L0 [(1, .d (I' t)), (8, .d (qD nl l)), (9, .d (I' l.length)), (10, .d (I' pre.length))] []) =
      match suf.findIdx? (fun w => w.task == t) with
      | none => some (.out (.exit 0) [] [])
      | some k => some (.out .ret [(4, .d (I' ((pre.length + k : Nat) : Int))), (5, .d (.b true))] []) := by
  intro suf
  induction suf with
  | nil =>
    intro pre hl
    have : l.length = pre.length := by simp [hl]
    rw [ev_loop]
    conv => lhs; arg 4; unfold F_waitlist_Find_L0
    simp [this]
  | cons w suf ih =>
    intro pre hl
    have hg : l[pre.length]? = some w := by simp [hl]
    have hlt : (pre.length : Int) < l.length := by simp [hl]; omega
    have hnext : IntKind.i64.wrap ((pre.length : Int) + 1) = pre.length + 1 := wrap_i64 (by omega) (by omega)
    have ih' := ih (pre ++ [w]) (by simp [hl])
    simp at ih'
    rw [ev_loop]
    conv => lhs; arg 4; unfold F_waitlist_Find_L0
    rw [List.findIdx?_cons]
    cases hw : w.task == t
    · simp [hlt, hg, W.row, hw, hnext]
      rw [ih']
      cases suf.findIdx? (fun w => w.task == t) with
      | none => rfl
      | some k => simp; omega
    · simp [hlt, hg, W.row, hw]
theorem ev_wFind (nl : Bool) (l : List W) (t : Int) (hn : l.length ≤ 1000000) :
    ev P (.call waitlist_Find [.d (qD nl l), .d (I' t)] []) = some (.val (.tu [.d (I' (fdS l t).1), .d (.b (fdS l t).2)]) []) := by
  rw [ev_call P_waitlist_Find rfl]
  have hl := loop_Find nl l t hn l [] rfl
  simp at hl
  unfold fdS
  cases h : l.findIdx? (fun w => w.task == t) with
  | none => rw [h] at hl; simp [F_waitlist_Find, hl]
  | some k => rw [h] at hl; simp at hl; simp [F_waitlist_Find, hl]
theorem loop_rFind (nl : Bool) (l : List W) (t : Int) (hn : l.length ≤ 1000000) : ∀ (suf pre : List W), l = pre ++ suf →
    ev P (.loop 0 [0, 1, 6] F_nurseryref07_Find_L0 [(0, .d (qD nl l)), (1, .d (I' t)), (6, .d (I' pre.length))] []) =
      match suf.findIdx? (fun w => w.task == t) with
      | none => some (.out (.exit 0) [] [])
      | some k => some (.out .ret [(4, .d (I' ((pre.length + k : Nat) : Int))), (5, .d (.b true))] []) := by
  intro suf
  induction suf with
  | nil =>
    intro pre hl
    have : l.length = pre.length := by simp [hl]
    rw [ev_loop]
    conv => lhs; arg 4; unfold F_nurseryref07_Find_L0
    simp [this]
  | cons w suf ih =>
    intro pre hl
    have hg : l[pre.length]? = some w := by simp [hl]
    have hlt : (pre.length : Int) < l.length := by simp [hl]; omega
    have hnext : IntKind.i64.wrap ((pre.length : Int) + 1) = pre.length + 1 := wrap_i64 (by omega) (by omega)
    have ih' := ih (pre ++ [w]) (by simp [hl])
    simp at ih'
    rw [ev_loop]
    conv => lhs; arg 4; unfold F_nurseryref07_Find_L0
    rw [List.findIdx?_cons]
    cases hw : w.task == t
    · simp [hlt, hg, W.row, hw, hnext]
      rw [ih']
      cases suf.findIdx? (fun w => w.task == t) with
      | none => rfl
      | some k => simp; omega
    · simp [hlt, hg, W.row, hw]
theorem ev_rFind (nl : Bool) (l : List W) (t : Int) (hn : l.length ≤ 1000000) :
    ev P (.call nurseryref07_Find [.d (qD nl l), .d (I' t)] []) = some (.val (.tu [.d (I' (fdS l t).1), .d (.b (fdS l t).2)]) []) := by
  rw [ev_call P_nurseryref07_Find rfl]
  have hl := loop_rFind nl l t hn l [] rfl
  simp at hl
  unfold fdS
  cases h : l.findIdx? (fun w => w.task == t) with
  | none => rw [h] at hl; simp [F_nurseryref07_Find, hl]
  | some k => rw [h] at hl; simp at hl; simp [F_nurseryref07_Find, hl]
theorem fd_any {q : List W} {t : Int} : (fdS q t).2 = q.any fun w => w.task == t := by
  unfold fdS
  cases h : q.findIdx? (fun w => w.task == t) with
  | none =>
    rw [List.findIdx?_eq_none_iff] at h
    symm
    rw [List.any_eq_false]
    intro x hx
    rw [h x hx]; decide
  | some k =>
    symm
    obtain ⟨h1, h2⟩ := List.findIdx?_eq_some_iff_getElem.1 h
    exact List.any_eq_true.2 ⟨_, List.getElem_mem _, h2.1⟩
/-- the list that a loop makes beside another object -/
def bcV (es : Nat) : List (List D) → V
  | [] => .d (.sl es true [])
  | r :: rs => .asl 1 0 (r :: rs).length
def bcH (es : Nat) : List (List D) → List O
  | [] => []
  | r :: rs => [.arrD es true (r :: rs)]
theorem loop_filterR {f : Nat} {first caps : List D} {p : W → Bool} (l : List W) (hn : l.length ≤ 1000000)
    (hp : ∀ a b c d e, ev P (.call f (first.map V.d ++ [.d (.ag [I' a, I' b, I' c, I' d, I' e])] ++ caps.map V.d) []) = some (.val (.d (.b (p ⟨a, b, c, d, e⟩))) []))
    (R : Option Res) (hR : R = some (.out (.exit 0) [(5, bcV 5 ((l.filter p).map W.row))] (.arrD 5 true (l.map W.row) :: bcH 5 ((l.filter p).map W.row)))) :
    ∀ (suf pre : List W), l = pre ++ suf →
    ev P (.loop 1 [1, 5, 8, 9, 10] F_waitlist_filter_L0 [(1, .d (.fn f first caps)), (5, bcV 5 ((pre.filter p).map W.row)), (8, .asl 0 0 l.length), (9, .d (I' l.length)), (10, .d (I' pre.length))] (.arrD 5 true (l.map W.row) :: bcH 5 ((pre.filter p).map W.row))) = R := by
  intro suf
  induction suf with
  | nil =>
    intro pre hl
    have hlp : l = pre := by simp [hl]
    subst hlp
    rw [ev_loop, hR]
    conv => lhs; arg 4; unfold F_waitlist_filter_L0
    cases hf : l.filter p with
    | nil => simp [bcV, bcH, reachC, cut]
    | cons a r => simp [bcV, bcH, reachC, cut, W.row, List.idxOf_cons]
  | cons w suf ih =>
    intro pre hl
    clear hR
    have hg : l[pre.length]? = some w := by simp [hl]
    have hlt : (pre.length : Int) < l.length := by simp [hl]; omega
    have hlt2 : pre.length < l.length := by simp [hl]
    have hgg : l[pre.length] = w := by simpa [List.getElem?_eq_getElem hlt2] using hg
    have hnext : IntKind.i64.wrap ((pre.length : Int) + 1) = pre.length + 1 := wrap_i64 (by omega) (by omega)
    have ih' := ih (pre ++ [w]) (by simp [hl])
    simp at ih' hp
    rw [ev_loop]
    conv => lhs; arg 4; unfold F_waitlist_filter_L0
    cases hf : pre.filter p with
    | nil =>
      cases hw : p w
      · simp [hw, hnext, hf, bcV, bcH, reachC, cut] at ih' ⊢
        simp [hlt, hlt2, hgg, W.row, hp, allD_mid, hw, hnext, bcV, bcH, reachC, cut, List.idxOf_cons]
        exact ih'
      · have hr : 1 ≤ room := by decide
        simp [hw, hnext, hf, hr, bcV, bcH, reachC, cut, W.row] at ih' ⊢
        simp [hlt, hlt2, hgg, W.row, hp, allD_mid, hw, hnext, hr, bcV, bcH, reachC, cut, List.idxOf_cons]
        exact ih'
    | cons a r =>
      have hrl : r.length < 1000000 := by
        have h1 : (pre.filter p).length ≤ pre.length := List.length_filter_le _ _
        have h2 : pre.length ≤ l.length := by simp [hl]
        rw [hf] at h1; simp at h1; omega
      have hr : r.length + 1 + 1 ≤ room := by unfold room; omega
      cases hw : p w
      · simp [hw, hnext, hf, bcV, bcH, reachC, cut, W.row] at ih' ⊢
        simp [hlt, hlt2, hgg, W.row, hp, allD_mid, hw, hnext, bcV, bcH, reachC, cut, List.idxOf_cons]
        exact ih'
      · simp [hw, hnext, hf, hr, bcV, bcH, reachC, cut, W.row, overlay, take_map_len, drop_map_len, Nat.not_succ_le_self] at ih' ⊢
        simp [hlt, hlt2, hgg, W.row, hp, allD_mid, hw, hnext, hr, bcV, bcH, reachC, cut, overlay, take_map_len, drop_map_len, Nat.not_succ_le_self, List.idxOf_cons]
        exact ih'
theorem ev_RemoveR (l : List W) (t : Int) (hn : l.length ≤ 1000000) :
    ev P (.call waitlist_Remove [.asl 0 0 l.length, .d (I' t)] [.arrD 5 true (l.map W.row)]) =
      some (.val (bcV 5 ((l.filter fun w => w.task != t).map W.row)) (.arrD 5 true (l.map W.row) :: bcH 5 ((l.filter fun w => w.task != t).map W.row))) := by
  have hf : ev P (.call waitlist_filter [.asl 0 0 l.length, .d (.fn waitlist_RemoveC1 [] [.ref [I' t]])] [.arrD 5 true (l.map W.row)]) =
      some (.val (bcV 5 ((l.filter fun w => w.task != t).map W.row)) (.arrD 5 true (l.map W.row) :: bcH 5 ((l.filter fun w => w.task != t).map W.row))) := by
    rw [ev_call P_waitlist_filter rfl]
    have hl := loop_filterR (f := waitlist_RemoveC1) (first := []) (caps := [.ref [I' t]]) (p := fun w => w.task != t) l hn (by intro a b c d e; simp [ev_RemoveC1]) _ rfl l [] rfl
    cases hf : l.filter fun w => w.task != t with
    | nil => simp [hf, bcV, bcH] at hl; simp [F_waitlist_filter, hl, bcV, bcH, endH, reachC, cut]
    | cons a r => simp [hf, bcV, bcH, W.row] at hl; simp [F_waitlist_filter, hl, bcV, bcH, endH, reachC, cut, W.row, List.idxOf_cons]
  rw [ev_call P_waitlist_Remove rfl]
  cases hg : l.filter fun w => w.task != t with
  | nil => simp [hg, bcV, bcH] at hf; simp [F_waitlist_Remove, hf, callR, bcV, bcH, endH, reachC, cut, sub, setAll, back]
  | cons a r => simp [hg, bcV, bcH, W.row] at hf; simp [F_waitlist_Remove, hf, callR, bcV, bcH, endH, reachC, cut, W.row, sub, setAll, back, List.idxOf_cons]
end Go.VS.R
namespace Go.VS.R
theorem ev_rTask (n : Int) : ev P (.call nurseryref17_IsTask [.d (I' n)] []) = some (.val (.d (.b (isTask n))) []) := by
  rw [ev_call P_nurseryref17_IsTask rfl]
  simp [F_nurseryref17_IsTask, isTask]
/-- the kind and the numbers of an object: whether it is a lock -/
def mnew (k sz ot : Int) : Int := if (k != 2) = true then 8 else if (sz != 0 || ot != 0) = true then 2 else 0
def zrow : List D := [I' 0, I' 0, I' 0, hD true [], qD true [], hD true [], cD true [], .b false, I' 0]
def frow : List D := [I' (-1), I' 0, I' 0, hD true [], qD true [], hD true [], cD true [], .b false, I' 0]
theorem ev_mNew (nm : D) (k sz ot : Int) : ev P (.call rwlock_New [.d (.ag [nm, I' k, I' sz, I' ot])] []) =
    some (.val (.tu [.d (.ag (if mnew k sz ot = 0 then frow else zrow)), .d (I' (mnew k sz ot))]) []) := by
  rw [ev_call P_rwlock_New rfl]
  cases h1 : k != 2 <;> simp only [mnew, h1]
  · cases h2 : sz != 0 || ot != 0 <;> simp [F_rwlock_New, h1, h2, frow, zrow]
  · simp [F_rwlock_New, h1, zrow]
theorem ev_rNew (nm : D) (k sz ot : Int) : ev P (.call nurseryref17_New [.d (.ag [nm, I' k, I' sz, I' ot])] []) =
    some (.val (.tu [.d (.ag (if mnew k sz ot = 0 then frow else zrow)), .d (I' (mnew k sz ot))]) []) := by
  rw [ev_call P_nurseryref17_New rfl]
  cases h1 : k != 2 <;> simp only [mnew, h1]
  · cases h2 : sz != 0 || ot != 0 <;> simp [F_nurseryref17_New, h1, h2, frow, zrow]
  · simp [F_nurseryref17_New, h1, zrow]
/-! who holds -/
def idI (t : Int) : Nat → List Int → Option Nat
  | _, [] => none
  | k, x :: r => if t = x then some k else idI t (k + 1) r
theorem idI_some {t : Int} : ∀ {l : List Int} {k : Nat}, (idI t k l).isSome = decide (t ∈ l)
  | [], k => by simp [idI]
  | x :: r, k => by
    unfold idI
    by_cases h : t = x
    · simp [h]
    · rw [if_neg h, idI_some]; simp [h]
theorem loop_Index (nl : Bool) (l : List Int) (t : Int) (hn : l.length ≤ 1000000) : ∀ (suf pre : List Int), l = pre ++ suf →
    ev P (.loop 0 [0, 1, 7, 8] F_slices_Index_int_int_L0 [(0, .d (hD nl l)), (1, .d (I' t)), (7, .d (I' l.length)), (8, .d (I' pre.length))] []) =
      match idI t pre.length suf with
      | none => some (.out (.exit 0) [] [])
      | some k => some (.out .ret [(4, .d (I' k))] []) := by
  intro suf
  induction suf with
  | nil =>
    intro pre hl
    have : l.length = pre.length := by simp [hl]
    rw [ev_loop]
    conv => lhs; arg 4; unfold F_slices_Index_int_int_L0
    simp [this, idI]
  | cons w suf ih =>
    intro pre hl
    have hg : l[pre.length]? = some w := by simp [hl]
    have hlt : (pre.length : Int) < l.length := by simp [hl]; omega
    have hnext : IntKind.i64.wrap ((pre.length : Int) + 1) = pre.length + 1 := wrap_i64 (by omega) (by omega)
    have ih' := ih (pre ++ [w]) (by simp [hl])
    simp at ih'
    rw [ev_loop]
    conv => lhs; arg 4; unfold F_slices_Index_int_int_L0
    unfold idI
    by_cases hw : t = w
    · simp [hlt, hg, hw]
    · have hw2 : (t == w) = false := by simpa using hw
      simp [hlt, hg, hw, hw2, hnext]
      exact ih'
theorem ev_Contains (nl : Bool) (l : List Int) (t : Int) (hn : l.length ≤ 1000000) :
    ev P (.call slices_Contains_int_int [.d (hD nl l), .d (I' t)] []) = some (.val (.d (.b (decide (t ∈ l)))) []) := by
  have hl := loop_Index nl l t hn l [] rfl
  simp at hl
  have hI : ev P (.call slices_Index_int_int [.d (hD nl l), .d (I' t)] []) = some (.val (.d (I' (match idI t 0 l with | none => -1 | some k => k))) []) := by
    rw [ev_call P_slices_Index_int_int rfl]
    cases hi : idI t 0 l <;> (rw [hi] at hl; simp [F_slices_Index_int_int, hl])
  have hs := idI_some (t := t) (l := l) (k := 0)
  rw [← hs]
  rw [ev_call P_slices_Contains_int_int rfl]
  cases hi : idI t 0 l <;> (rw [hi] at hI; simp [F_slices_Contains_int_int, hI])
def hld (own : Int) (H : List Int) (t : Int) : Int := if (decide (0 ≤ t) && t == own) = true then 2 else if t ∈ H then 1 else 0
theorem ev_holds (own : Int) (a b c d e f g : D) (nl : Bool) (H : List Int) (t : Int) (hn : H.length ≤ 1000000) :
    ev P (.call rwlock_holds [.d (.ag [I' own, a, b, hD nl H, c, d, e, f, g]), .d (I' t)] []) = some (.val (.d (I' (hld own H t))) []) := by
  have hC := ev_Contains nl H t hn
  rw [ev_call P_rwlock_holds rfl]
  unfold hld
  cases h1 : (decide (0 ≤ t) && t == own)
  · simp [F_rwlock_holds, h1]
    by_cases h2 : t ∈ H <;> simp [h2] at hC <;> simp [hC, h2]
  · simp [F_rwlock_holds, h1]
theorem ev_Holds (own : Int) (a b c d e f g : D) (nl : Bool) (H : List Int) (t : Int) (hn : H.length ≤ 1000000) :
    ev P (.call rwlock_Holds [.d (.ag [I' own, a, b, hD nl H, c, d, e, f, g]), .d (I' t)] []) = some (.val (.d (I' (hld own H t))) []) := by
  have h := ev_holds own a b c d e f g nl H t hn
  rw [ev_call P_rwlock_Holds rfl]
  simp [F_rwlock_Holds, h]
theorem loop_reads (own : D) (a b c d e f g : D) (nl : Bool) (l : List Int) (t : Int) (hn : l.length ≤ 1000000) : ∀ (suf pre : List Int), l = pre ++ suf →
    ev P (.loop 0 [1, 2, 5] F_nurseryref17_reads_L0 [(1, .d (I' t)), (2, .d (.ref [own, a, b, hD nl l, c, d, e, f, g])), (5, .d (I' pre.length))] []) =
      if t ∈ suf then some (.out .ret [(4, .d (.b true))] []) else some (.out (.exit 0) [] []) := by
  intro suf
  induction suf with
  | nil =>
    intro pre hl
    have : l.length = pre.length := by simp [hl]
    rw [ev_loop]
    conv => lhs; arg 4; unfold F_nurseryref17_reads_L0
    simp [this]
  | cons w suf ih =>
    intro pre hl
    have hg : l[pre.length]? = some w := by simp [hl]
    have hlt : (pre.length : Int) < l.length := by simp [hl]; omega
    have hnext : IntKind.i64.wrap ((pre.length : Int) + 1) = pre.length + 1 := wrap_i64 (by omega) (by omega)
    have ih' := ih (pre ++ [w]) (by simp [hl])
    simp at ih'
    rw [ev_loop]
    conv => lhs; arg 4; unfold F_nurseryref17_reads_L0
    by_cases hw : t = w
    · subst hw
      simp [hlt, hg]
    · have hw2 : (w == t) = false := by simpa using fun h => hw h.symm
      simp [hlt, hg, hw, hw2, hnext]
      exact ih'
theorem ev_reads (own : D) (a b c d e f g : D) (nl : Bool) (l : List Int) (t : Int) (hn : l.length ≤ 1000000) :
    ev P (.call nurseryref17_reads [.d (.ag [own, a, b, hD nl l, c, d, e, f, g]), .d (I' t)] []) = some (.val (.d (.b (decide (t ∈ l)))) []) := by
  have hl := loop_reads own a b c d e f g nl l t hn l [] rfl
  simp at hl
  rw [ev_call P_nurseryref17_reads rfl]
  by_cases h : t ∈ l <;> simp [h] at hl <;> simp [F_nurseryref17_reads, hl, h]
theorem ev_rHolds (own : Int) (a b c d e f g : D) (nl : Bool) (H : List Int) (t : Int) (hn : H.length ≤ 1000000) :
    ev P (.call nurseryref17_Holds [.d (.ag [I' own, a, b, hD nl H, c, d, e, f, g]), .d (I' t)] []) = some (.val (.d (I' (hld own H t))) []) := by
  have hC := ev_reads (I' own) a b c d e f g nl H t hn
  rw [ev_call P_nurseryref17_Holds rfl]
  unfold hld
  have he : (own == t) = (t == own) := Bool.beq_comm
  cases h1 : (decide (0 ≤ t) && t == own)
  · simp [F_nurseryref17_Holds, he, h1]
    by_cases h2 : t ∈ H <;> simp [h2] at hC <;> simp [hC, h2]
  · simp [F_nurseryref17_Holds, he, h1]
end Go.VS.R
namespace Go.VS.R
/-! the binary search in memory -/
theorem ev_isNaN (n : Int) : ev P (.call cmp_isNaN_int [.d (I' n)] []) = some (.val (.d (.b false)) []) := by
  rw [ev_call P_cmp_isNaN_int rfl]
  simp [F_cmp_isNaN_int]
theorem ev_sNaN (n : Int) : ev P (.call slices_isNaN_int [.d (I' n)] []) = some (.val (.d (.b false)) []) := by
  rw [ev_call P_slices_isNaN_int rfl]
  simp [F_slices_isNaN_int]
theorem ev_Less (a b : Int) : ev P (.call cmp_Less_int [.d (I' a), .d (I' b)] []) = some (.val (.d (.b (decide (a < b)))) []) := by
  rw [ev_call P_cmp_Less_int rfl]
  by_cases h : a < b <;> simp [F_cmp_Less_int, ev_isNaN, h]
def Asc (l : List Int) : Prop := l.Pairwise (· ≤ ·)
/-- where a number is put -/
def bI (t : Int) (l : List Int) : Nat := (l.takeWhile fun x => decide (x < t)).length
theorem bI_le (t : Int) : ∀ (l : List Int), bI t l ≤ l.length
  | [] => by simp [bI]
  | w :: q => by
    have := bI_le t q
    unfold bI at *
    simp only [List.takeWhile_cons]
    split <;> simp; omega
theorem bI_lt {t x : Int} : ∀ {l : List Int} {k : Nat}, Asc l → l[k]? = some x → (k < bI t l ↔ x < t)
  | [], k, _, h => by simp at h
  | a :: q, 0, _, h => by
    have : a = x := by simpa using h
    subst this
    by_cases hp : a < t <;> simp [bI, List.takeWhile_cons, hp]
  | a :: q, k + 1, hd, h => by
    have hd' := List.pairwise_cons.1 hd
    have hq : q[k]? = some x := by simpa using h
    have hw : x ∈ q := List.mem_of_getElem? hq
    have h1 := hd'.1 x hw
    have ih := bI_lt (t := t) (k := k) hd'.2 hq
    by_cases hp : a < t
    · have : bI t (a :: q) = bI t q + 1 := by simp [bI, List.takeWhile_cons, hp]
      rw [this, ← ih]; omega
    · have : bI t (a :: q) = 0 := by simp [bI, List.takeWhile_cons, hp]
      rw [this]; constructor <;> intro h3 <;> omega
theorem mid_eq {i j : Nat} (h : i + j ≤ 4000000) : IntKind.i64.wrap ((IntKind.u64.wrap ((i : Int) + j)).fdiv (2 ^ min 1 IntKind.u64.bits)) = (((i + j) / 2 : Nat) : Int) := by
  have h1 : IntKind.u64.wrap ((i : Int) + j) = (i : Int) + j := by
    have e0 : IntKind.u64.bits = 64 := rfl
    simp only [IntKind.wrap, e0, IntKind.signed, Bool.false_and, Bool.false_eq_true, if_false]
    omega
  have h2 : (2 : Int) ^ min 1 IntKind.u64.bits = 2 := by decide
  rw [h1, h2, Int.fdiv_eq_ediv_of_nonneg _ (by omega), wrap_i64 (by omega) (by omega)]
  omega
theorem getR {l : List Int} {R : List (List D)} {m : Nat} {x : Int} (hR : l.length ≤ R.length) (hT : R.take l.length = rows1 l) (hx : l[m]? = some x) : R[m]? = some [I' x] ∧ m < l.length := by
  have hm : m < l.length := (List.getElem?_eq_some_iff.1 hx).1
  refine ⟨?_, hm⟩
  have h1 : (R.take l.length)[m]? = some [I' x] := by rw [hT]; simp [hx]
  rw [List.getElem?_take] at h1
  simpa [hm] using h1
theorem loop_BS (l : List Int) (R : List (List D)) (t : Int) (hn : l.length ≤ 1000000) (hR : l.length ≤ R.length) (hT : R.take l.length = rows1 l) (hA : Asc l) : ∀ (n i j : Nat), j - i ≤ n → i ≤ bI t l → bI t l ≤ j → j ≤ l.length →
    ev P (.loop 1 [0, 1, 6, 7, 8] F_slices_BinarySearch_int_int_L0 [(0, .asl 0 0 l.length), (1, .d (I' t)), (6, .d (I' l.length)), (7, .d (I' i)), (8, .d (I' j))] [.arrD 1 true R]) =
      some (.out (.exit 0) [(0, .asl 0 0 l.length), (1, .d (I' t)), (6, .d (I' l.length)), (7, .d (I' (bI t l)))] [.arrD 1 true R]) := by
  intro n
  induction n with
  | zero =>
    intro i j h1 h2 h3 h4
    have e1 : i = bI t l := by omega
    have e2 : j = bI t l := by omega
    rw [ev_loop]
    conv => lhs; arg 4; unfold F_slices_BinarySearch_int_int_L0
    simp [e1, e2, reachC, cut]
  | succ n ih =>
    intro i j h1 h2 h3 h4
    by_cases hij : i = j
    · have e1 : i = bI t l := by omega
      have e2 : j = bI t l := by omega
      rw [ev_loop]
      conv => lhs; arg 4; unfold F_slices_BinarySearch_int_int_L0
      simp [e1, e2, reachC, cut]
    · have hlt : i < j := by omega
      have hw1 : IntKind.i64.wrap ((i : Int) + j) = i + j := wrap_i64 (by omega) (by omega)
      have hm := mid_eq (i := i) (j := j) (by omega)
      generalize hmm : (i + j) / 2 = m at hm
      have hm1 : i ≤ m := by omega
      have hm2 : m < j := by omega
      obtain ⟨x, hx⟩ : ∃ x, l[m]? = some x := ⟨l[m]'(by omega), by simp⟩
      have hb := bI_lt (t := t) hA hx
      obtain ⟨hg, hml⟩ := getR hR hT hx
      have hm3 : IntKind.i64.wrap ((m : Int) + 1) = m + 1 := wrap_i64 (by omega) (by omega)
      have hml2 : (m : Int) < l.length := by omega
      have hmR : m < R.length := by omega
      have hgg : R[m] = [I' x] := by rw [List.getElem?_eq_getElem hmR] at hg; exact Option.some.inj hg
      rw [ev_loop]
      conv => lhs; arg 4; unfold F_slices_BinarySearch_int_int_L0
      by_cases hp : x < t
      · have ih' := ih (m + 1) j (by omega) (by omega) (by omega) h4
        simp at ih'
        simp [hlt, hw1, hm, hm3, hml, hml2, hmR, hgg, ev_Less, hp, reachC, cut]
        exact ih'
      · have ih' := ih i m (by omega) (by omega) (by omega) (by omega)
        simp [hlt, hw1, hm, hml, hml2, hmR, hgg, ev_Less, hp, reachC, cut]
        exact ih'
theorem ev_BS (l : List Int) (R : List (List D)) (t : Int) (hn : l.length ≤ 1000000) (hR : l.length ≤ R.length) (hT : R.take l.length = rows1 l) (hA : Asc l) :
    ∃ b, ev P (.call slices_BinarySearch_int_int [.asl 0 0 l.length, .d (I' t)] [.arrD 1 true R]) = some (.val (.tu [.d (I' (bI t l)), .d (.b b)]) [.arrD 1 true R]) := by
  have hb := bI_le t l
  have hl := loop_BS l R t hn hR hT hA l.length 0 l.length (by omega) (by omega) hb (by omega)
  simp at hl
  by_cases h : bI t l < l.length
  · obtain ⟨x, hx⟩ : ∃ x, l[bI t l]? = some x := ⟨l[bI t l], by simp⟩
    obtain ⟨hg, _⟩ := getR hR hT hx
    have hbR : bI t l < R.length := by omega
    have hgg : R[bI t l] = [I' x] := by rw [List.getElem?_eq_getElem hbR] at hg; exact Option.some.inj hg
    have h2 : (bI t l : Int) < l.length := by omega
    generalize bI t l = B at *
    by_cases hxt : x = t
    · refine ⟨true, ?_⟩
      subst hxt
      rw [ev_call P_slices_BinarySearch_int_int rfl]
      simp [F_slices_BinarySearch_int_int, hl, h, h2, hbR, hgg, reachC, cut, endH]
    · refine ⟨false, ?_⟩
      have hxt2 : (x == t) = false := by simpa using hxt
      rw [ev_call P_slices_BinarySearch_int_int rfl]
      simp [F_slices_BinarySearch_int_int, hl, h, h2, hbR, hgg, ev_sNaN, hxt2, reachC, cut, endH]
  · have h2 : ¬ (bI t l : Int) < l.length := by omega
    refine ⟨false, ?_⟩
    rw [ev_call P_slices_BinarySearch_int_int rfl]
    simp [F_slices_BinarySearch_int_int, hl, h, h2, reachC, cut, endH]
theorem ev_BS0 (t : Int) : ev P (.call slices_BinarySearch_int_int [.d (.sl 1 true []), .d (I' t)] []) = some (.val (.tu [.d (I' 0), .d (.b false)]) []) := by
  have hl : ev P (.loop 0 [0, 1, 6, 7, 8] F_slices_BinarySearch_int_int_L0 [(0, .d (.sl 1 true [])), (1, .d (I' t)), (6, .d (I' 0)), (7, .d (I' 0)), (8, .d (I' 0))] []) =
      some (.out (.exit 0) [(0, .d (.sl 1 true [])), (1, .d (I' t)), (6, .d (I' 0)), (7, .d (I' 0))] []) := by
    rw [ev_loop]
    conv => lhs; arg 4; unfold F_slices_BinarySearch_int_int_L0
    simp
  rw [ev_call P_slices_BinarySearch_int_int rfl]
  simp [F_slices_BinarySearch_int_int, hl, endH]
end Go.VS.R
namespace Go.VS.R
/-! what is deleted from a list in memory -/
def row1 (x : Int) : List D := [I' x]
/-- where a queue first has a timer of a kind -/
def jdx (p : Int → Bool) : Nat → List Int → Option Nat
  | _, [] => none
  | k, w :: r => if p w = true then some k else jdx p (k + 1) r
theorem loop_IF {f : Nat} {first caps : List D} {p : Int → Bool} (l : List Int) (hn : l.length ≤ 1000000)
    (hp : ∀ a, ev P (.call f (first.map V.d ++ [.d (I' a)] ++ caps.map V.d) []) = some (.val (.d (.b (p a))) [])) :
    ∀ (suf pre : List Int), l = pre ++ suf →
    ev P (.loop 1 [0, 1, 7, 8] F_slices_IndexFunc_int_int_L0 [(0, .asl 0 0 l.length), (1, .d (.fn f first caps)), (7, .d (I' l.length)), (8, .d (I' pre.length))] [.arrD 1 true (l.map row1)]) =
      match jdx p pre.length suf with
      | none => some (.out (.exit 0) [] [.arrD 1 true (l.map row1)])
      | some k => some (.out .ret [(4, .d (I' k))] [.arrD 1 true (l.map row1)]) := by
  intro suf
  induction suf with
  | nil =>
    intro pre hl
    have : l.length = pre.length := by simp [hl]
    rw [ev_loop]
    conv => lhs; arg 4; unfold F_slices_IndexFunc_int_int_L0
    simp [this, jdx, reachC, cut]
  | cons w suf ih =>
    intro pre hl
    have hg : l[pre.length]? = some w := by simp [hl]
    have hlt : (pre.length : Int) < l.length := by simp [hl]; omega
    have hlt2 : pre.length < l.length := by simp [hl]
    have hgg : l[pre.length] = w := by simpa [List.getElem?_eq_getElem hlt2] using hg
    have hnext : IntKind.i64.wrap ((pre.length : Int) + 1) = pre.length + 1 := wrap_i64 (by omega) (by omega)
    have ih' := ih (pre ++ [w]) (by simp [hl])
    simp at ih' hp
    rw [ev_loop]
    conv => lhs; arg 4; unfold F_slices_IndexFunc_int_int_L0
    cases hw : p w
    · simp [hlt, hlt2, hgg, row1, hp, allD_mid, hw, hnext, jdx, reachC, cut]
      exact ih'
    · simp [hlt, hlt2, hgg, row1, hp, allD_mid, hw, jdx, reachC, cut]
theorem ev_IF {f : Nat} {first caps : List D} {p : Int → Bool} (l : List Int) (hn : l.length ≤ 1000000)
    (hp : ∀ a, ev P (.call f (first.map V.d ++ [.d (I' a)] ++ caps.map V.d) []) = some (.val (.d (.b (p a))) [])) :
    ev P (.call slices_IndexFunc_int_int [.asl 0 0 l.length, .d (.fn f first caps)] [.arrD 1 true (l.map row1)]) =
      some (.val (.d (I' (match jdx p 0 l with | none => -1 | some k => k))) [.arrD 1 true (l.map row1)]) := by
  have hl := loop_IF l hn hp l [] rfl
  simp at hl
  rw [ev_call P_slices_IndexFunc_int_int rfl]
  simp [F_slices_IndexFunc_int_int, hl, reachC, cut]
  cases jdx p 0 l <;> simp [endH, reachC, cut]
  done
theorem loop_DF {f : Nat} {first caps : List D} {p : Int → Bool} (l : List Int) (hn : l.length ≤ 1000000)
    (hp : ∀ a, ev P (.call f (first.map V.d ++ [.d (I' a)] ++ caps.map V.d) []) = some (.val (.d (.b (p a))) [])) :
    ∀ (suf pre : List Int) (R : List (List D)), l = pre ++ suf → R.length = l.length → (∀ r, r ∈ R → r.length = 1) → R.take (pre.filter fun w => !p w).length = (pre.filter fun w => !p w).map row1 → R.drop pre.length = suf.map row1 →
    ∃ R', R'.length = l.length ∧ (∀ r, r ∈ R' → r.length = 1) ∧ R'.take (l.filter fun w => !p w).length = (l.filter fun w => !p w).map row1 ∧
    ev P (.loop 1 [0, 1, 5, 6] F_slices_DeleteFunc_int_int_L0 [(0, .asl 0 0 l.length), (1, .d (.fn f first caps)), (5, .d (I' (pre.filter fun w => !p w).length)), (6, .d (I' pre.length))] [.arrD 1 true R]) =
      some (.out (.exit 0) [(0, .asl 0 0 l.length), (5, .d (I' (l.filter fun w => !p w).length))] [.arrD 1 true R']) := by
  intro suf
  induction suf with
  | nil =>
    intro pre R hl hR hR3 h1 h2
    have hlp : l = pre := by simp [hl]
    subst hlp
    refine ⟨R, hR, hR3, h1, ?_⟩
    rw [ev_loop]
    conv => lhs; arg 4; unfold F_slices_DeleteFunc_int_int_L0
    simp [reachC, cut]
  | cons w suf ih =>
    intro pre R hl hR hR3 h1 h2
    have hlt : (pre.length : Int) < l.length := by simp [hl]; omega
    have hlt2 : pre.length < l.length := by simp [hl]
    have hnext : IntKind.i64.wrap ((pre.length : Int) + 1) = pre.length + 1 := wrap_i64 (by omega) (by omega)
    have hkl : (pre.filter fun w => !p w).length ≤ pre.length := List.length_filter_le _ _
    have hRw : R[pre.length]? = some (row1 w) := by
      have := congrArg (fun x => x[0]?) h2
      simpa using this
    have hlR : pre.length < R.length := by omega
    have hRg : R[pre.length] = row1 w := by simpa [List.getElem?_eq_getElem hlR] using hRw
    have hd : R.drop (pre.length + 1) = suf.map row1 := by
      rw [← List.drop_drop, h2]; simp
    simp at hp
    generalize hk : (pre.filter fun w => !p w) = kp at *
    cases hw : p w
    · have hnext2 : IntKind.i64.wrap ((kp.length : Int) + 1) = kp.length + 1 := wrap_i64 (by omega) (by omega)
      obtain ⟨R', k1, k0, k2, k3⟩ := ih (pre ++ [w]) (R.set kp.length (row1 w)) (by simp [hl]) (by simpa using hR) (fun r hr => by rcases List.mem_or_eq_of_mem_set hr with h | h; exact hR3 r h; rw [h]; rfl)
        (by
          simp [hk, hw]
          rw [List.take_succ_eq_append_getElem (by simp; omega)]
          rw [List.take_set_of_le (Nat.le_refl _), h1]
          simp)
        (by simp; rw [List.drop_set_of_lt (by omega)]; exact hd)
      refine ⟨R', k1, k0, k2, ?_⟩
      simp [hk, hw, row1] at k3
      have hltk : kp.length < l.length := by omega
      have hltR : kp.length < R.length := by omega
      have h3 : (R[kp.length]).length = 1 := hR3 _ (List.getElem_mem hltR)
      have h3d : List.drop 1 R[kp.length] = [] := List.drop_eq_nil_of_le (by omega)
      rw [ev_loop]
      conv => lhs; arg 4; unfold F_slices_DeleteFunc_int_int_L0
      simp [hlt, hlt2, hRg, hR, row1, hp, allD_mid, hw, hnext, hnext2, hltk, h3, h3d, reachC, cut]
      exact k3
    · obtain ⟨R', k1, k0, k2, k3⟩ := ih (pre ++ [w]) R (by simp [hl]) hR hR3 (by simpa [hk, hw] using h1) (by simpa using hd)
      refine ⟨R', k1, k0, k2, ?_⟩
      simp [hk, hw] at k3
      rw [ev_loop]
      conv => lhs; arg 4; unfold F_slices_DeleteFunc_int_int_L0
      simp [hlt, hlt2, hRg, hR, row1, hp, allD_mid, hw, hnext, reachC, cut]
      exact k3
theorem jdx_spec {p : Int → Bool} : ∀ (l pre : List Int), (∀ w, w ∈ pre → p w = false) → match jdx p pre.length l with
    | none => ∀ w, w ∈ pre ++ l → p w = false
    | some k => ∃ a w b, pre ++ l = a ++ w :: b ∧ a.length = k ∧ p w = true ∧ (∀ x, x ∈ a → p x = false)
  | [], pre, h => by simpa [jdx] using h
  | w :: r, pre, h => by
    unfold jdx
    cases hw : p w
    · have ih := jdx_spec r (pre ++ [w]) (by intro x hx; rcases List.mem_append.1 hx with hx | hx; exact h x hx; simp at hx; rw [hx]; exact hw)
      simp at ih ⊢
      exact ih
    · simp only [if_true]
      exact ⟨pre, w, r, rfl, rfl, hw, h⟩
/-- what 'DeleteFunc' leaves -/
theorem ev_DF {f : Nat} {first caps : List D} {p : Int → Bool} (l : List Int) (hn : l.length ≤ 1000000)
    (hp : ∀ a, ev P (.call f (first.map V.d ++ [.d (I' a)] ++ caps.map V.d) []) = some (.val (.d (.b (p a))) [])) :
    ∃ R', (l.filter fun w => !p w).length ≤ R'.length ∧ R'.take (l.filter fun w => !p w).length = (l.filter fun w => !p w).map row1 ∧
    ev P (.call slices_DeleteFunc_int_int [.asl 0 0 l.length, .d (.fn f first caps)] [.arrD 1 true (l.map row1)]) =
      some (.val (.asl 0 0 (l.filter fun w => !p w).length) [.arrD 1 true R']) := by
  have hi := ev_IF l hn hp
  have hs := jdx_spec (p := p) l [] (by simp)
  rw [ev_call P_slices_DeleteFunc_int_int rfl]
  cases hx : jdx p 0 l with
  | none =>
    rw [hx] at hi
    simp only [List.length_nil, hx, List.nil_append] at hs
    have hf : (l.filter fun w => !p w) = l := by
      rw [List.filter_eq_self]
      intro a ha
      simp [hs a ha]
    refine ⟨l.map row1, by rw [hf]; simp, by rw [hf]; simp [take_map_len], ?_⟩
    rw [hf]
    simp [F_slices_DeleteFunc_int_int, callR, hi, reachC, cut, sub, setAll, back, endH]
  | some k =>
    rw [hx] at hi
    simp only [List.length_nil, hx, List.nil_append] at hs
    obtain ⟨a, w, b, hl, hk, hw, ha⟩ := hs
    have hfa : ((a ++ [w]).filter fun w => !p w) = a := by
      have : (a.filter fun w => !p w) = a := by
        rw [List.filter_eq_self]
        intro x hx
        simp [ha x hx]
      simp [this, hw]
    obtain ⟨R', k1, k0, k2, k3⟩ := loop_DF l hn hp b (a ++ [w]) (l.map row1) (by simp [hl]) (by simp) (by
        intro r hr
        obtain ⟨x, _, rfl⟩ := List.mem_map.1 hr
        rfl) (by rw [hfa, hl]; simp) (by rw [show l = (a ++ [w]) ++ b by simp [hl], List.map_append]; exact List.drop_left' (by simp))
    rw [hfa, hk] at k3
    have hak : k + 1 ≤ l.length := by rw [hl, ← hk, List.length_append, List.length_cons]; omega
    have hnext : IntKind.i64.wrap ((k : Int) + 1) = k + 1 := wrap_i64 (by omega) (by omega)
    have hkn : ((k : Int) == -1) = false := by simp
    simp only [List.length_append, List.length_singleton, hk] at k3
    have hfl : (l.filter fun w => !p w).length < l.length := by
      have h1 := List.length_filter_le (fun w => !p w) a
      have h2 := List.length_filter_le (fun w => !p w) b
      rw [hl]
      simp [List.filter_append, hw]
      omega
    generalize (l.filter fun w => !p w) = fl at *
    refine ⟨R'.take fl.length ++ List.replicate (R'.length - fl.length) [I' 0], by simp; omega, ?_, ?_⟩
    · rw [List.take_append_of_le_length (by simp; omega), List.take_take, Nat.min_self, k2]
    · have hz : ¬ (l.length - fl.length = 0) := by omega
      have hdr : List.drop l.length R' = [] := List.drop_eq_nil_of_le (by omega)
      simp at k3
      simp [hz, hdr, F_slices_DeleteFunc_int_int, callR, hi, reachC, cut, sub, setAll, back, endH, hkn, hnext, k3, hfl, Nat.le_of_lt hfl, k1]
      done
theorem map_row1 (l : List Int) : l.map row1 = rows1 l := rfl
theorem ev_ApplyC1 (t a b c d x : Int) : ev P (.call rwlock_ApplyC1 [.d (I' x), .d (.ref [I' t, I' a, I' b, I' c, I' d])] []) = some (.val (.d (.b (x == t))) []) := by
  rw [ev_call P_rwlock_ApplyC1 rfl]
  simp [F_rwlock_ApplyC1]
theorem ev_CloneI (nl : Bool) (q : List Int) (hnl : nl = true → q = []) (hn : q.length ≤ 1000000) :
    ev P (.call slices_Clone_int_int [.d (hD nl q)] []) = if nl = true then some (.val (.d (.sl 1 true [])) []) else some (.val (.asl 0 0 q.length) [.arrD 1 true (rows1 q)]) := by
  rw [ev_call P_slices_Clone_int_int rfl]
  cases nl
  · have hr : q.length ≤ room := by unfold room; omega
    cases q with
    | nil => simp [F_slices_Clone_int_int, mkRows, allDs, reachC, cut, endH]
    | cons a r =>
      simp at hr
      simp [F_slices_Clone_int_int, mkRows, allDs, reachC, cut, hr, endH]
  · simp [F_slices_Clone_int_int, endH]
theorem ev_Clone (nl : Bool) (q : List W) (hnl : nl = true → q = []) (hn : q.length ≤ 1000000) :
    ev P (.call slices_Clone_api_Waiter_api_Waiter [.d (qD nl q)] []) = if nl = true then some (.val (.d (.sl 5 true [])) []) else some (.val (.asl 0 0 q.length) [.arrD 5 true (q.map W.row)]) := by
  rw [ev_call P_slices_Clone_api_Waiter_api_Waiter rfl]
  cases nl
  · have hr : q.length ≤ room := by unfold room; omega
    cases q with
    | nil => simp [F_slices_Clone_api_Waiter_api_Waiter, mkRows, allDs, reachC, cut, endH]
    | cons a r =>
      simp at hr
      simp [F_slices_Clone_api_Waiter_api_Waiter, mkRows, allDs, reachC, cut, hr, endH]
  · simp [F_slices_Clone_api_Waiter_api_Waiter, endH]
end Go.VS.R
namespace Go.VS.R
/-! the lock in memory: the cell of the holders, of the queue, of those who are woken -/
def hV : Option (List (List D) × Nat) → Nat → V
  | none, _ => .d (.sl 1 true [])
  | some (_, n), i => .asl i 0 n
def hO : Option (List (List D) × Nat) → List O
  | none => []
  | some (R, _) => [.arrD 1 true R]
def qV : Bool ⊕ (List (List D) × Nat × Nat) → Nat → V
  | .inl nl, _ => .d (.sl 5 nl [])
  | .inr (_, off, len), i => .asl i off len
def qO : Bool ⊕ (List (List D) × Nat × Nat) → List O
  | .inl _ => []
  | .inr (R, _, _) => [.arrD 5 true R]
def kV : Option (List (List D)) → Nat → V
  | none, _ => .d (.sl 5 true [])
  | some R, i => .asl i 0 R.length
def kO : Option (List (List D)) → List O
  | none => []
  | some R => [.arrD 5 true R]
/-- the cells that never change -/
structure Z where
  c1 : D
  c2 : D
  c5 : D
  c6 : D
  c7 : D
  c8 : D
def lk (z : Z) (own : Int) (h q k : V) : O := .arrV 10 [[.d (I' own), .d z.c1, .d z.c2, h, q, .d z.c5, .d z.c6, .d z.c7, .d z.c8, k]]
def heap3 (z : Z) (own : Int) (H : Option (List (List D) × Nat)) (Q : Bool ⊕ (List (List D) × Nat × Nat)) (K : Option (List (List D))) : List O :=
  lk z own (hV H 1) (qV Q (1 + (hO H).length)) (kV K (1 + (hO H).length + (qO Q).length)) :: (hO H ++ (qO Q ++ kO K))
def hlen : Option (List (List D) × Nat) → Nat
  | none => 0
  | some (_, n) => n
theorem rg2 : List.range 2 = [0, 1] := rfl
theorem rg3 : List.range 3 = [0, 1, 2] := rfl
theorem rg4 : List.range 4 = [0, 1, 2, 3] := rfl
theorem rg5 : List.range 5 = [0, 1, 2, 3, 4] := rfl
theorem ev_writes (z : Z) (own : Int) (H) (Q) (K) : ev P (.call rwlock_lock_writes [.loc 0 0 0] (heap3 z own H Q K)) = some (.val (.d (.b (own != -1))) (heap3 z own H Q K)) := by
  rw [ev_call P_rwlock_lock_writes rfl]
  rcases H with _ | ⟨R, n⟩ <;> rcases Q with nl | ⟨S, off, len⟩ <;> rcases K with _ | T <;>
    simp [F_rwlock_lock_writes, heap3, lk, hV, hO, qV, qO, kV, kO, reachC, cut, rg2, rg3, rg4, rg5, List.idxOf_cons, endH]
theorem ev_free (z : Z) (own : Int) (H) (Q) (K) : ev P (.call rwlock_lock_free [.loc 0 0 0] (heap3 z own H Q K)) = some (.val (.d (.b (own == -1 && (hlen H : Int) == 0))) (heap3 z own H Q K)) := by
  have hW := ev_writes z own H Q K
  rw [ev_call P_rwlock_lock_free rfl]
  cases ho : own == -1
  · have ho2 : (own != -1) = true := by simp [bne, ho]
    rw [ho2] at hW
    rcases H with _ | ⟨R, n⟩ <;> rcases Q with nl | ⟨S, off, len⟩ <;> rcases K with _ | T <;>
      (simp [heap3, lk, hV, hO, qV, qO, kV, kO] at hW
       simp [F_rwlock_lock_free, heap3, lk, hV, hO, qV, qO, kV, kO, reachC, cut, rg2, rg3, rg4, rg5, List.idxOf_cons, endH, callR, sub, setAll, back, hW, hlen])
  · have ho2 : (own != -1) = false := by simp [bne, ho]
    rw [ho2] at hW
    rcases H with _ | ⟨R, n⟩ <;> rcases Q with nl | ⟨S, off, len⟩ <;> rcases K with _ | T <;>
      (simp [heap3, lk, hV, hO, qV, qO, kV, kO] at hW
       simp [F_rwlock_lock_free, heap3, lk, hV, hO, qV, qO, kV, kO, reachC, cut, rg2, rg3, rg4, rg5, List.idxOf_cons, endH, callR, sub, setAll, back, hW, hlen])
end Go.VS.R
namespace Go.VS.R
def insI (t : Int) (l : List Int) : List Int := l.take (bI t l) ++ t :: l.drop (bI t l)
theorem insI_len (t : Int) (l : List Int) : (insI t l).length = l.length + 1 := by
  have := bI_le t l
  unfold insI; simp; omega
def hX : Option (List (List D) × Nat) → List O
  | none => []
  | some _ => [.dead]
theorem ev_grantW (z : Z) (own t : Int) (H) (Q) (K) : ev P (.call rwlock_lock_grant [.loc 0 0 0, .d (I' t), .d (I' 55)] (heap3 z own H Q K)) = some (.val (.tu []) (heap3 z t H Q K)) := by
  rw [ev_call P_rwlock_lock_grant rfl]
  rcases H with _ | ⟨R, n⟩ <;> rcases Q with nl | ⟨S, off, len⟩ <;> rcases K with _ | T <;>
    simp [F_rwlock_lock_grant, heap3, lk, hV, hO, qV, qO, kV, kO, reachC, cut, rg2, rg3, rg4, rg5, List.idxOf_cons, endH, overlay]
/-- the heap when a task reads -/
def heapG (z : Z) (own : Int) (H : Option (List (List D) × Nat)) (Q : Bool ⊕ (List (List D) × Nat × Nat)) (K : Option (List (List D))) (R : List (List D)) : List O :=
  lk z own (.asl (1 + (hO H).length + (qO Q).length + (kO K).length) 0 R.length) (qV Q (1 + (hO H).length)) (kV K (1 + (hO H).length + (qO Q).length)) :: (hX H ++ (qO Q ++ (kO K ++ [.arrD 1 true R])))
theorem ev_grant0 (z : Z) (own t o : Int) (Q) (K) (ho : o ≠ 55) : ev P (.call rwlock_lock_grant [.loc 0 0 0, .d (I' t), .d (I' o)] (heap3 z own none Q K)) = some (.val (.tu []) (heapG z own none Q K [[I' t]])) := by
  have hI := ev_prim P_slices_Insert_int_int (p := insP 1) rfl
  have ho2 : (o == 55) = false := by simpa using ho
  have r1 : 1 ≤ room := by decide
  rw [ev_call P_rwlock_lock_grant rfl]
  rcases Q with nl | ⟨S, off, len⟩ <;> rcases K with _ | T <;>
    simp [F_rwlock_lock_grant, ho2, ev_BS0, hI, insP, insRows, r1, heap3, heapG, lk, hV, hO, hX, qV, qO, kV, kO, callR, sub, setAll, back, reachC, cut, rg2, rg3, rg4, rg5, List.idxOf_cons, endH, overlay]
theorem ev_grant1 (z : Z) (own t o : Int) (l : List Int) (R : List (List D)) (Q) (K) (ho : o ≠ 55) (hn : l.length ≤ 1000000) (hR : l.length ≤ R.length) (hT : R.take l.length = rows1 l) (hA : Asc l) :
    ev P (.call rwlock_lock_grant [.loc 0 0 0, .d (I' t), .d (I' o)] (heap3 z own (some (R, l.length)) Q K)) = some (.val (.tu []) (heapG z own (some (R, l.length)) Q K (rows1 (insI t l)))) := by
  have hI := ev_prim P_slices_Insert_int_int (p := insP 1) rfl
  have ho2 : (o == 55) = false := by simpa using ho
  obtain ⟨b, hB⟩ := ev_BS l R t hn hR hT hA
  have hb := bI_le t l
  have r1 : l.length + 1 ≤ room := by unfold room; omega
  have hlen : (insI t l).length = l.length + 1 := insI_len t l
  have hrow : rows1 (insI t l) = (rows1 l).take (bI t l) ++ [I' t] :: (rows1 l).drop (bI t l) := by unfold insI rows1; simp [List.map_take, List.map_drop]
  rw [hrow]
  have hlen2 : ((rows1 l).take (bI t l) ++ [I' t] :: (rows1 l).drop (bI t l)).length = l.length + 1 := by simp; omega
  have hT' : R.take l.length = rows1 l := hT
  generalize bI t l = B at *
  generalize hrr : rows1 l = rr at *
  unfold heapG
  rw [hlen2]
  rw [ev_call P_rwlock_lock_grant rfl]
  rcases Q with nl | ⟨S, off, len⟩ <;> rcases K with _ | T <;>
    simp [F_rwlock_lock_grant, ho2, hB, hb, hI, insP, insRows, r1, hR, hT', heap3, lk, hV, hO, hX, qV, qO, kV, kO, callR, sub, setAll, back, reachC, cut, rg2, rg3, rg4, rg5, List.idxOf_cons, endH, overlay]
end Go.VS.R
namespace Go.VS.R
theorem bI_split (t : Int) : ∀ {l : List Int}, Asc l → (∀ x, x ∈ l.take (bI t l) → x < t) ∧ (∀ x, x ∈ l.drop (bI t l) → t ≤ x)
  | [], _ => by simp
  | a :: q, hs => by
    have hs' := List.pairwise_cons.1 hs
    by_cases hp : a < t
    · have e : bI t (a :: q) = bI t q + 1 := by simp [bI, List.takeWhile_cons, hp]
      obtain ⟨h1, h2⟩ := bI_split t hs'.2
      rw [e]
      constructor
      · intro w hw
        rw [List.take_succ_cons] at hw
        rcases List.mem_cons.1 hw with rfl | hw
        · exact hp
        · exact h1 w hw
      · intro w hw
        rw [List.drop_succ_cons] at hw
        exact h2 w hw
    · have e : bI t (a :: q) = 0 := by simp [bI, List.takeWhile_cons, hp]
      rw [e]
      refine ⟨by simp, ?_⟩
      intro w hw
      rw [List.drop_zero] at hw
      rcases List.mem_cons.1 hw with rfl | hw
      · omega
      · have := hs'.1 w hw; omega
theorem asc_ins {t : Int} {l : List Int} (h : Asc l) : Asc (insI t l) := by
  obtain ⟨h1, h2⟩ := bI_split t h
  unfold insI Asc
  rw [List.pairwise_append]
  refine ⟨h.sublist (List.take_sublist _ _), List.pairwise_cons.2 ⟨h2, h.sublist (List.drop_sublist _ _)⟩, ?_⟩
  intro a ha b hb
  rcases List.mem_cons.1 hb with rfl | hb
  · exact Int.le_of_lt (h1 a ha)
  · exact Int.le_trans (Int.le_of_lt (h1 a ha)) (h2 b hb)
theorem take_snoc {α : Type} {l : List α} {x : α} : List.take (l.length + 1) (l ++ [x]) = l ++ [x] := List.take_of_length_le (by simp)
def wk (w : W) : List D := [I' w.task, I' w.op, I' 0, .b true, I' (-1)]
def insA (l : List Int) (q : List W) : List Int := q.foldl (fun l w => insI w.task l) l
def qcV (i off : Nat) : List W → V
  | [] => .d (.sl 5 false [])
  | r => .asl i off r.length
/-- the heap while readers are let in -/
def heapL (z : Z) (own : Int) (pre : List O) (S : List (List D)) (off : Nat) (r : List W) (l : List Int) (k : List (List D)) : List O :=
  lk z own (.asl (pre.length + 2) 0 l.length) (qcV (pre.length + 1) off r) (.asl (pre.length + 3) 0 k.length) :: (pre ++ [.arrD 5 true S, .arrD 1 true (rows1 l), .arrD 5 true k])
theorem loop_serveG (z : Z) (pre : List O) (hpre : pre = [] ∨ pre = [.dead]) (S : List (List D)) : ∀ (r : List W) (off : Nat) (l : List Int) (k : List (List D)), Asc l → l.length + r.length ≤ 100000 → k.length + r.length ≤ 100000 → l ≠ [] → k ≠ [] → S.drop off = r.map W.row →
    ev P (.loop (pre.length + 2) [0] F_rwlock_lock_serve_L0 [(0, .loc 0 0 0)] (heapL z (-1) pre S off r l k)) =
      some (.out (.exit 0) [] (heapL z (-1) pre S (off + (r.takeWhile fun w => w.op != 55).length) (r.dropWhile fun w => w.op != 55) (insA l (r.takeWhile fun w => w.op != 55)) (k ++ (r.takeWhile fun w => w.op != 55).map wk))) := by
  intro r
  induction r with
  | nil =>
    intro off l k hA hn hk hl0 hk0 hS
    rw [ev_loop]
    conv => lhs; arg 4; unfold F_rwlock_lock_serve_L0
    rcases hpre with rfl | rfl <;>
      simp [heapL, lk, qcV, insA, reachC, cut, rg2, rg3, rg4, rg5, List.idxOf_cons]
  | cons w r ih =>
    intro off l k hA hn hk hl0 hk0 hS
    simp at hn hk
    have hSl : S.length = off + (r.length + 1) := by
      have := congrArg List.length hS
      simp at this
      omega
    have hoff : off < S.length := by omega
    have hS0 : S[off] = w.row := by
      have := congrArg (fun x => x[0]?) hS
      simpa [List.getElem?_eq_getElem hoff] using this
    have hS1 : S.drop (off + 1) = r.map W.row := by
      have := congrArg (fun x => x.drop 1) hS
      simpa [List.drop_drop] using this
    have hl1 : ¬ ((l.length : Int) == 0) = true := by
      simp; exact hl0
    have hl2 : ((l.length : Int) == 0) = false := by simpa using hl1
    by_cases ho : w.op = 55
    · have hF := ev_free z (-1) (some (rows1 l, l.length)) (.inr (S, off, r.length + 1)) (some k)
      have hW := ev_writes z (-1) (some (rows1 l, l.length)) (.inr (S, off, r.length + 1)) (some k)
      simp [hlen, hl2, heap3, lk, hV, hO, qV, qO, kV, kO] at hF hW
      have e1 : ((w :: r).takeWhile fun w => w.op != 55) = [] := by simp [List.takeWhile_cons, ho]
      have e2 : ((w :: r).dropWhile fun w => w.op != 55) = w :: r := by simp [List.dropWhile_cons, ho]
      rw [e1, e2]
      rw [ev_loop]
      conv => lhs; arg 4; unfold F_rwlock_lock_serve_L0
      rcases hpre with rfl | rfl <;>
        simp [heapL, lk, qcV, insA, reachC, cut, rg2, rg3, rg4, rg5, List.idxOf_cons, hoff, hS0, hSl, W.row, ho, callR, hF, hW, sub, setAll, back]
    · have ho2 : (w.op == 55) = false := by simpa using ho
      have e1 : ((w :: r).takeWhile fun w => w.op != 55) = w :: r.takeWhile fun w => w.op != 55 := by simp [List.takeWhile_cons, ho]
      have e2 : ((w :: r).dropWhile fun w => w.op != 55) = r.dropWhile fun w => w.op != 55 := by simp [List.dropWhile_cons, ho]
      have hil := insI_len w.task l
      have ih' := ih (off + 1) (insI w.task l) (k ++ [wk w]) (asc_ins hA) (by omega) (by simp; omega) (by intro h; rw [h] at hil; simp at hil) (by simp) hS1
      have e3 : insA l ((w :: r).takeWhile fun w => w.op != 55) = insA (insI w.task l) (r.takeWhile fun w => w.op != 55) := by rw [e1]; rfl
      have e4 : k ++ ((w :: r).takeWhile fun w => w.op != 55).map wk = k ++ [wk w] ++ (r.takeWhile fun w => w.op != 55).map wk := by rw [e1]; simp
      have e5 : off + ((w :: r).takeWhile fun w => w.op != 55).length = off + 1 + (r.takeWhile fun w => w.op != 55).length := by rw [e1]; simp; omega
      rw [e2, e3, e4, e5]
      generalize hRR : some (Res.out (.exit 0) [] (heapL z (-1) pre S (off + 1 + (r.takeWhile fun w => w.op != 55).length) (r.dropWhile fun w => w.op != 55) (insA (insI w.task l) (r.takeWhile fun w => w.op != 55)) (k ++ [wk w] ++ (r.takeWhile fun w => w.op != 55).map wk))) = RR at *
      have hkr : k.length + 1 ≤ room := by unfold room; omega
      have hk3 : k.length + 1 ≤ 100000 := by omega
      cases r with
      | nil =>
        have hW := ev_writes z (-1) (some (rows1 l, l.length)) (.inr (S, off, 1)) (some k)
        have hG := ev_grant1 z (-1) w.task w.op l (rows1 l) (.inl false) (some k) ho (by omega) (by simp) (by simp [rows1, take_map_len]) hA
        simp [heap3, heapG, lk, hV, hO, hX, qV, qO, kV, kO, hil] at hW hG
        simp at hSl
        simp [heapL, lk, qcV, hil] at ih'
        rw [ev_loop]
        conv => lhs; arg 4; unfold F_rwlock_lock_serve_L0
        rcases hpre with rfl | rfl
        · simp [heapL, lk, qcV, insA, reachC, cut, rg2, rg3, rg4, rg5, List.idxOf_cons, hoff, hS0, hSl, W.row, ho2, callR, hW, hG, sub, setAll, back, hkr, Nat.not_succ_le_self, take_snoc, wk] at ih' ⊢
          exact ih'
        · simp [heapL, lk, qcV, insA, reachC, cut, rg2, rg3, rg4, rg5, List.idxOf_cons, hoff, hS0, hSl, W.row, ho2, callR, hW, hG, sub, setAll, back, hkr, Nat.not_succ_le_self, take_snoc, wk] at ih' ⊢
          exact ih'
      | cons w2 r =>
        have hW := ev_writes z (-1) (some (rows1 l, l.length)) (.inr (S, off, r.length + 1 + 1)) (some k)
        have hG := ev_grant1 z (-1) w.task w.op l (rows1 l) (.inr (S, off + 1, r.length + 1)) (some k) ho (by omega) (by simp) (by simp [rows1, take_map_len]) hA
        simp [heap3, heapG, lk, hV, hO, hX, qV, qO, kV, kO, hil] at hW hG
        simp at hSl
        simp [heapL, lk, qcV, hil] at ih'
        have q1 : (0 : Int) < r.length + 1 + 1 := by omega
        have q2 : (1 : Int) ≤ r.length + 1 + 1 := by omega
        have q3 : (1 : Int) < r.length + 1 + 1 := by omega
        have q4 : ((r.length : Int) + 1 + 1 - 1).toNat = r.length + 1 := by omega
        have hle : off + (r.length + 1 + 1) ≤ S.length := by omega
        have hsub : off + (r.length + 1 + 1) - (off + 1) = r.length + 1 := by omega
        rw [ev_loop]
        conv => lhs; arg 4; unfold F_rwlock_lock_serve_L0
        rcases hpre with rfl | rfl
        · simp [heapL, lk, qcV, insA, reachC, cut, rg2, rg3, rg4, rg5, List.idxOf_cons, hoff, q1, q2, q3, q4, hS0, hSl, W.row, ho2, callR, hW, hG, sub, setAll, back, hkr, Nat.not_succ_le_self, take_snoc, wk] at ih' ⊢
          exact ih'
        · simp [heapL, lk, qcV, insA, reachC, cut, rg2, rg3, rg4, rg5, List.idxOf_cons, hoff, q1, q2, q3, q4, hS0, hSl, W.row, ho2, callR, hW, hG, sub, setAll, back, hkr, Nat.not_succ_le_self, take_snoc, wk] at ih' ⊢
          exact ih'
end Go.VS.R
namespace Go.VS.R
/-! serve -/
theorem ev_serve0 (z : Z) (own : Int) (H) (nl : Bool) : ev P (.call rwlock_lock_serve [.loc 0 0 0] (heap3 z own H (.inl nl) none)) = some (.val (.tu []) (heap3 z own H (.inl nl) none)) := by
  have hL : ev P (.loop (1 + (hO H).length) [0] F_rwlock_lock_serve_L0 [(0, .loc 0 0 0)] (heap3 z own H (.inl nl) none)) = some (.out (.exit 0) [] (heap3 z own H (.inl nl) none)) := by
    rw [ev_loop]
    conv => lhs; arg 4; unfold F_rwlock_lock_serve_L0
    rcases H with _ | ⟨R, n⟩ <;> simp [heap3, lk, hV, hO, qV, qO, kV, kO, reachC, cut, rg2, rg3, rg4, rg5, List.idxOf_cons]
  rw [ev_call P_rwlock_lock_serve rfl]
  rcases H with _ | ⟨R, n⟩ <;> simp [heap3, lk, hV, hO, qV, qO, kV, kO] at hL <;>
    simp [F_rwlock_lock_serve, hL, heap3, lk, hV, hO, qV, qO, kV, kO, reachC, cut, rg2, rg3, rg4, rg5, List.idxOf_cons, endH]
theorem ev_serve00 (z : Z) (own : Int) (H) (S : List (List D)) : ev P (.call rwlock_lock_serve [.loc 0 0 0] (heap3 z own H (.inr (S, 0, 0)) none)) = some (.val (.tu []) (heap3 z own H (.inr (S, 0, 0)) none)) := by
  have hL : ev P (.loop (2 + (hO H).length) [0] F_rwlock_lock_serve_L0 [(0, .loc 0 0 0)] (heap3 z own H (.inr (S, 0, 0)) none)) = some (.out (.exit 0) [] (heap3 z own H (.inr (S, 0, 0)) none)) := by
    rw [ev_loop]
    conv => lhs; arg 4; unfold F_rwlock_lock_serve_L0
    rcases H with _ | ⟨R, n⟩ <;> simp [heap3, lk, hV, hO, qV, qO, kV, kO, reachC, cut, rg2, rg3, rg4, rg5, List.idxOf_cons]
  rw [ev_call P_rwlock_lock_serve rfl]
  rcases H with _ | ⟨R, n⟩ <;> simp [heap3, lk, hV, hO, qV, qO, kV, kO] at hL <;>
    simp [F_rwlock_lock_serve, hL, heap3, lk, hV, hO, qV, qO, kV, kO, reachC, cut, rg2, rg3, rg4, rg5, List.idxOf_cons, endH]
/-- nobody can go on -/
theorem ev_serve1 (z : Z) (own : Int) (H) (w : W) (r : List W) (h : own ≠ -1 ∨ (w.op = 55 ∧ hlen H ≠ 0)) :
    ev P (.call rwlock_lock_serve [.loc 0 0 0] (heap3 z own H (.inr ((w :: r).map W.row, 0, r.length + 1)) none)) = some (.val (.tu []) (heap3 z own H (.inr ((w :: r).map W.row, 0, r.length + 1)) none)) := by
  have hW := ev_writes z own H (.inr ((w :: r).map W.row, 0, r.length + 1)) none
  have hF := ev_free z own H (.inr ((w :: r).map W.row, 0, r.length + 1)) none
  have hL : ev P (.loop (2 + (hO H).length) [0] F_rwlock_lock_serve_L0 [(0, .loc 0 0 0)] (heap3 z own H (.inr ((w :: r).map W.row, 0, r.length + 1)) none)) = some (.out (.exit 0) [] (heap3 z own H (.inr ((w :: r).map W.row, 0, r.length + 1)) none)) := by
    rw [ev_loop]
    conv => lhs; arg 4; unfold F_rwlock_lock_serve_L0
    cases ho : own != -1
    · have ho2 : own = -1 := by simpa using ho
      subst ho2
      obtain ⟨h1, h2⟩ : w.op = 55 ∧ hlen H ≠ 0 := by simpa using h
      have h3 : ((hlen H : Int) == 0) = false := by simpa using h2
      rw [ho] at hW
      rw [h3] at hF
      rcases H with _ | ⟨R, n⟩ <;> simp [heap3, lk, hV, hO, qV, qO, kV, kO, W.row, h1] at hW hF <;>
        simp [heap3, lk, hV, hO, qV, qO, kV, kO, reachC, cut, rg2, rg3, rg4, rg5, List.idxOf_cons, callR, hW, hF, h1, sub, setAll, back, W.row]
    · rw [ho] at hW
      rcases H with _ | ⟨R, n⟩ <;> simp [heap3, lk, hV, hO, qV, qO, kV, kO, W.row] at hW <;>
        simp [heap3, lk, hV, hO, qV, qO, kV, kO, reachC, cut, rg2, rg3, rg4, rg5, List.idxOf_cons, callR, hW, sub, setAll, back, W.row]
  rw [ev_call P_rwlock_lock_serve rfl]
  rcases H with _ | ⟨R, n⟩ <;> simp [heap3, lk, hV, hO, qV, qO, kV, kO] at hL <;>
    simp [F_rwlock_lock_serve, hL, heap3, lk, hV, hO, qV, qO, kV, kO, reachC, cut, rg2, rg3, rg4, rg5, List.idxOf_cons, endH]
/-- a writer goes on -/
def heapW (z : Z) (own : Int) (H : Option (List (List D) × Nat)) (S : List (List D)) (r : List W) (k : List D) : List O :=
  lk z own (hV H 1) (qcV (1 + (hO H).length) 1 r) (.asl (2 + (hO H).length) 0 1) :: (hO H ++ [.arrD 5 true S, .arrD 5 true [k]])
theorem ev_serve2 (z : Z) (H) (w : W) (r : List W) (h : w.op = 55) (hH : hlen H = 0) (ht : w.task ≠ -1) :
    ev P (.call rwlock_lock_serve [.loc 0 0 0] (heap3 z (-1) H (.inr ((w :: r).map W.row, 0, r.length + 1)) none)) = some (.val (.tu []) (heapW z w.task H ((w :: r).map W.row) r (wk w))) := by
  have r1 : 1 ≤ room := by decide
  have ht2 : (w.task != -1) = true := by simpa using ht
  have hL : ev P (.loop (2 + (hO H).length) [0] F_rwlock_lock_serve_L0 [(0, .loc 0 0 0)] (heap3 z (-1) H (.inr ((w :: r).map W.row, 0, r.length + 1)) none)) = some (.out (.exit 0) [] (heapW z w.task H ((w :: r).map W.row) r (wk w))) := by
    have hW := ev_writes z (-1) H (.inr ((w :: r).map W.row, 0, r.length + 1)) none
    have hF := ev_free z (-1) H (.inr ((w :: r).map W.row, 0, r.length + 1)) none
    have hFt : ((-1 : Int) == -1 && ((hlen H : Nat) : Int) == 0) = true := by rw [hH]; decide
    rw [hFt] at hF
    cases r with
    | nil =>
      have hG := ev_grantW z (-1) w.task H (.inl false) none
      rw [ev_loop]
      conv => lhs; arg 4; unfold F_rwlock_lock_serve_L0
      rcases H with _ | ⟨R, n⟩
      · simp [heap3, lk, hV, hO, qV, qO, kV, kO, W.row, h] at hW hF hG
        simp [heap3, heapW, lk, hV, hO, qV, qO, kV, kO, qcV, reachC, cut, rg2, rg3, rg4, rg5, List.idxOf_cons, callR, hW, hF, hG, h, r1, sub, setAll, back, W.row, wk]
        rw [ev_loop]
        conv => lhs; arg 4; unfold F_rwlock_lock_serve_L0
        simp [reachC, cut, rg2, rg3, rg4, rg5, List.idxOf_cons]
      · simp [heap3, lk, hV, hO, qV, qO, kV, kO, W.row, h] at hW hF hG
        simp [heap3, heapW, lk, hV, hO, qV, qO, kV, kO, qcV, reachC, cut, rg2, rg3, rg4, rg5, List.idxOf_cons, callR, hW, hF, hG, h, r1, sub, setAll, back, W.row, wk]
        rw [ev_loop]
        conv => lhs; arg 4; unfold F_rwlock_lock_serve_L0
        simp [reachC, cut, rg2, rg3, rg4, rg5, List.idxOf_cons]
    | cons w2 r =>
      have hG := ev_grantW z (-1) w.task H (.inr ((w :: w2 :: r).map W.row, 1, r.length + 1)) none
      have hW2 := ev_writes z w.task H (.inr ((w :: w2 :: r).map W.row, 1, r.length + 1)) (some [wk w])
      rw [ht2] at hW2
      have q1 : (0 : Int) < r.length + 1 + 1 := by omega
      have q2 : (1 : Int) ≤ r.length + 1 + 1 := by omega
      have q3 : (1 : Int) < r.length + 1 + 1 := by omega
      have q4 : ((r.length : Int) + 1 + 1 - 1).toNat = r.length + 1 := by omega
      rw [ev_loop]
      conv => lhs; arg 4; unfold F_rwlock_lock_serve_L0
      rcases H with _ | ⟨R, n⟩
      · simp [heap3, lk, hV, hO, qV, qO, kV, kO, W.row, wk, h] at hW hF hG hW2
        simp [heap3, heapW, lk, hV, hO, qV, qO, kV, kO, qcV, reachC, cut, rg2, rg3, rg4, rg5, List.idxOf_cons, callR, hW, hF, hG, h, q1, q2, q3, q4, r1, sub, setAll, back, W.row, wk]
        rw [ev_loop]
        conv => lhs; arg 4; unfold F_rwlock_lock_serve_L0
        simp [reachC, cut, rg2, rg3, rg4, rg5, List.idxOf_cons, callR, hW2, sub, setAll, back]
      · simp [heap3, lk, hV, hO, qV, qO, kV, kO, W.row, wk, h] at hW hF hG hW2
        simp [heap3, heapW, lk, hV, hO, qV, qO, kV, kO, qcV, reachC, cut, rg2, rg3, rg4, rg5, List.idxOf_cons, callR, hW, hF, hG, h, q1, q2, q3, q4, r1, sub, setAll, back, W.row, wk]
        rw [ev_loop]
        conv => lhs; arg 4; unfold F_rwlock_lock_serve_L0
        simp [reachC, cut, rg2, rg3, rg4, rg5, List.idxOf_cons, callR, hW2, sub, setAll, back]
  rw [ev_call P_rwlock_lock_serve rfl]
  cases r <;> rcases H with _ | ⟨R, n⟩ <;> simp [heap3, heapW, lk, hV, hO, qV, qO, kV, kO, qcV, wk] at hL <;>
    simp [F_rwlock_lock_serve, hL, heap3, heapW, lk, hV, hO, qV, qO, kV, kO, qcV, wk, reachC, cut, rg2, rg3, rg4, rg5, List.idxOf_cons, endH]
def hL : Option (List (List D) × Nat) → List Int → Prop
  | none, l => l = []
  | some (R, n), l => n = l.length ∧ l.length ≤ R.length ∧ R.take l.length = rows1 l
/-- readers go on -/
theorem ev_serve3 (z : Z) (H) (l : List Int) (w : W) (r : List W) (h : w.op ≠ 55) (hH : hL H l) (hA : Asc l) (h1 : l.length ≤ 1000) (h2 : r.length ≤ 1000) :
    ev P (.call rwlock_lock_serve [.loc 0 0 0] (heap3 z (-1) H (.inr ((w :: r).map W.row, 0, r.length + 1)) none)) =
      some (.val (.tu []) (heapL z (-1) (hX H) ((w :: r).map W.row) (1 + (r.takeWhile fun w => w.op != 55).length) (r.dropWhile fun w => w.op != 55) (insA (insI w.task l) (r.takeWhile fun w => w.op != 55)) (wk w :: (r.takeWhile fun w => w.op != 55).map wk))) := by
  have r1 : 1 ≤ room := by decide
  have ho2 : (w.op == 55) = false := by simpa using h
  have hil := insI_len w.task l
  have hG := loop_serveG z (hX H) (by cases H; exact .inl rfl; exact .inr rfl) ((w :: r).map W.row) r 1 (insI w.task l) [wk w] (asc_ins hA) (by omega) (by simp; omega) (by intro h; rw [h] at hil; simp at hil) (by simp) (by simp)
  have hL : ev P (.loop (2 + (hO H).length) [0] F_rwlock_lock_serve_L0 [(0, .loc 0 0 0)] (heap3 z (-1) H (.inr ((w :: r).map W.row, 0, r.length + 1)) none)) =
      some (.out (.exit 0) [] (heapL z (-1) (hX H) ((w :: r).map W.row) (1 + (r.takeWhile fun w => w.op != 55).length) (r.dropWhile fun w => w.op != 55) (insA (insI w.task l) (r.takeWhile fun w => w.op != 55)) (wk w :: (r.takeWhile fun w => w.op != 55).map wk))) := by
    have e1 : [wk w] ++ (r.takeWhile fun w => w.op != 55).map wk = wk w :: (r.takeWhile fun w => w.op != 55).map wk := rfl
    rw [e1] at hG
    generalize some (Res.out (.exit 0) [] (heapL z (-1) (hX H) ((w :: r).map W.row) (1 + (r.takeWhile fun w => w.op != 55).length) (r.dropWhile fun w => w.op != 55) (insA (insI w.task l) (r.takeWhile fun w => w.op != 55)) (wk w :: (r.takeWhile fun w => w.op != 55).map wk))) = RR at *
    have hW := ev_writes z (-1) H (.inr ((w :: r).map W.row, 0, r.length + 1)) none
    rcases H with _ | ⟨R, n⟩
    · obtain rfl : l = [] := hH
      have e0 : insI w.task [] = [w.task] := rfl
      cases r with
      | nil =>
        have hGr := ev_grant0 z (-1) w.task w.op (.inl false) none h
        simp [heap3, heapG, heapL, lk, hV, hO, hX, qV, qO, kV, kO, qcV, W.row, wk, e0] at hW hGr hG
        rw [ev_loop]
        conv => lhs; arg 4; unfold F_rwlock_lock_serve_L0
        simp [heap3, lk, hV, hO, qV, qO, kV, kO, reachC, cut, rg2, rg3, rg4, rg5, List.idxOf_cons, callR, hW, hGr, ho2, r1, sub, setAll, back, W.row]
        exact hG
      | cons w2 r =>
        have hGr := ev_grant0 z (-1) w.task w.op (.inr ((w :: w2 :: r).map W.row, 1, r.length + 1)) none h
        have q1 : (0 : Int) < r.length + 1 + 1 := by omega
        have q2 : (1 : Int) ≤ r.length + 1 + 1 := by omega
        have q3 : (1 : Int) < r.length + 1 + 1 := by omega
        have q4 : ((r.length : Int) + 1 + 1 - 1).toNat = r.length + 1 := by omega
        simp [heap3, heapG, heapL, lk, hV, hO, hX, qV, qO, kV, kO, qcV, W.row, wk, e0] at hW hGr hG
        rw [ev_loop]
        conv => lhs; arg 4; unfold F_rwlock_lock_serve_L0
        simp [heap3, lk, hV, hO, qV, qO, kV, kO, reachC, cut, rg2, rg3, rg4, rg5, List.idxOf_cons, callR, hW, hGr, ho2, r1, q1, q2, q3, q4, sub, setAll, back, W.row]
        exact hG
    · obtain ⟨rfl, hR, hT⟩ := hH
      cases r with
      | nil =>
        have hGr := ev_grant1 z (-1) w.task w.op l R (.inl false) none h (by omega) hR hT hA
        simp [heap3, heapG, heapL, lk, hV, hO, hX, qV, qO, kV, kO, qcV, W.row, wk, hil] at hW hGr hG
        rw [ev_loop]
        conv => lhs; arg 4; unfold F_rwlock_lock_serve_L0
        simp [heap3, lk, hV, hO, qV, qO, kV, kO, reachC, cut, rg2, rg3, rg4, rg5, List.idxOf_cons, callR, hW, hGr, ho2, r1, sub, setAll, back, W.row]
        exact hG
      | cons w2 r =>
        have hGr := ev_grant1 z (-1) w.task w.op l R (.inr ((w :: w2 :: r).map W.row, 1, r.length + 1)) none h (by omega) hR hT hA
        have q1 : (0 : Int) < r.length + 1 + 1 := by omega
        have q2 : (1 : Int) ≤ r.length + 1 + 1 := by omega
        have q3 : (1 : Int) < r.length + 1 + 1 := by omega
        have q4 : ((r.length : Int) + 1 + 1 - 1).toNat = r.length + 1 := by omega
        simp [heap3, heapG, heapL, lk, hV, hO, hX, qV, qO, kV, kO, qcV, W.row, wk, hil] at hW hGr hG
        rw [ev_loop]
        conv => lhs; arg 4; unfold F_rwlock_lock_serve_L0
        simp [heap3, lk, hV, hO, qV, qO, kV, kO, reachC, cut, rg2, rg3, rg4, rg5, List.idxOf_cons, callR, hW, hGr, ho2, r1, q1, q2, q3, q4, sub, setAll, back, W.row]
        exact hG
  generalize (r.takeWhile fun w => w.op != 55) = tk at *
  generalize (r.dropWhile fun w => w.op != 55) = dk at *
  rw [ev_call P_rwlock_lock_serve rfl]
  cases dk <;> rcases H with _ | ⟨R, n⟩ <;> simp [heap3, heapL, lk, hV, hO, hX, qV, qO, kV, kO, qcV] at hL <;>
    simp [F_rwlock_lock_serve, hL, heap3, heapL, lk, hV, hO, hX, qV, qO, kV, kO, qcV, reachC, cut, rg2, rg3, rg4, rg5, List.idxOf_cons, endH]
end Go.VS.R
namespace Go.VS.R
def hS (n : Bool) (l : List Int) : Option (List (List D) × Nat) := if n = true then none else some (rows1 l, l.length)
def qS (n : Bool) (q : List W) : Bool ⊕ (List (List D) × Nat × Nat) := if n = true then .inl true else .inr (q.map W.row, 0, q.length)
def lkD (z : Z) (own : Int) : O := .arrD 10 true [[I' own, z.c1, z.c2, .sl 1 true [], .sl 5 true [], z.c5, z.c6, z.c7, z.c8, .sl 5 true []]]
def heap0 (z : Z) (own : Int) (hn : Bool) (H : List Int) (qn : Bool) (Q : List W) : List O := if (hn && qn) = true then [lkD z own] else heap3 z own (hS hn H) (qS qn Q) none
theorem ev_changed (z : Z) (own : Int) (hn : Bool) (H : List Int) (qn : Bool) (Q : List W) (h1 : hn = true → H = []) (h2 : qn = true → Q = []) (h3 : H.length ≤ 1000000) (h4 : Q.length ≤ 1000000) :
    ev P (.call rwlock_changed [.d (.ag [I' own, z.c1, z.c2, hD hn H, qD qn Q, z.c5, z.c6, z.c7, z.c8])] []) = some (.val (.loc 0 0 0) (heap0 z own hn H qn Q)) := by
  have hC := ev_CloneI hn H h1 h3
  have hD' := ev_Clone qn Q h2 h4
  rw [ev_call P_rwlock_changed rfl]
  cases hn <;> cases qn <;> simp at hC hD' <;>
    simp [F_rwlock_changed, hC, hD', callD, mkRows, allDs, V.same_self, hS, qS, heap0, lkD, heap3, lk, hV, hO, qV, qO, kV, kO, reachC, cut, rg2, rg3, rg4, rg5, List.idxOf_cons, endH, overlay]
theorem hL_hS {n : Bool} {l : List Int} (h : n = true → l = []) : hL (hS n l) l := by
  unfold hS hL
  cases n
  · simp [rows1, take_map_len]
  · simp [h rfl]
theorem hlen_hS {n : Bool} {l : List Int} (h : n = true → l = []) : hlen (hS n l) = l.length := by
  unfold hS hlen
  cases n
  · simp
  · simp [h rfl]
def wbd (own : Int) (H : List Int) (w : W) : Bool := (w.op != 53 && w.op != 55) || w.value != 0 || w.case != -1 || hld own H w.task != 0
/-- the check of a queue, from a place on -/
def qchk (own : Int) (H : List Int) : List W → List W → Bool
  | _, [] => true
  | pre, w :: r => !pre.any (fun x => x.task == w.task) && !wbd own H w && qchk own H (pre ++ [w]) r
theorem fd_eq {pre : List W} {w : W} {r : List W} : ((fdS (pre ++ w :: r) w.task).1 == (pre.length : Int)) = !pre.any (fun x => x.task == w.task) := by
  unfold fdS
  rw [List.findIdx?_append]
  cases h : pre.findIdx? (fun x => x.task == w.task) with
  | none =>
    have : pre.any (fun x => x.task == w.task) = false := by
      rw [List.any_eq_false]
      rw [List.findIdx?_eq_none_iff] at h
      intro x hx
      rw [h x hx]; decide
    rw [this]
    simp [List.findIdx?_cons]
  | some k =>
    obtain ⟨h1, h2⟩ := List.findIdx?_eq_some_iff_getElem.1 h
    have : pre.any (fun x => x.task == w.task) = true := List.any_eq_true.2 ⟨_, List.getElem_mem _, h2.1⟩
    rw [this]
    simp
    omega
theorem loop_queued (own : Int) (c1 c2 c5 c6 c7 c8 : D) (hn : Bool) (H : List Int) (qn : Bool) (Q : List W) (h3 : H.length ≤ 1000000) (h4 : Q.length ≤ 1000000) : ∀ (suf pre : List W), Q = pre ++ suf →
    ev P (.loop 0 [1, 13, 14, 15] F_rwlock_queued_L0 [(1, .d (.ref [I' own, c1, c2, hD hn H, qD qn Q, c5, c6, c7, c8])), (13, .d (qD qn Q)), (14, .d (I' Q.length)), (15, .d (I' pre.length))] []) =
      if qchk own H pre suf = true then some (.out (.exit 0) [(1, .d (.ref [I' own, c1, c2, hD hn H, qD qn Q, c5, c6, c7, c8]))] []) else some (.out .ret [(2, .d (.b false))] []) := by
  intro suf
  induction suf with
  | nil =>
    intro pre hl
    have : Q.length = pre.length := by simp [hl]
    rw [ev_loop]
    conv => lhs; arg 4; unfold F_rwlock_queued_L0
    simp [this, qchk]
  | cons w suf ih =>
    intro pre hl
    have hg : Q[pre.length]? = some w := by simp [hl]
    have hlt : (pre.length : Int) < Q.length := by simp [hl]; omega
    have hnext : IntKind.i64.wrap ((pre.length : Int) + 1) = pre.length + 1 := wrap_i64 (by omega) (by omega)
    have ih' := ih (pre ++ [w]) (by simp [hl])
    have hF := ev_wFind qn Q w.task h4
    have hH := ev_holds own c1 c2 (qD qn Q) c5 c6 c7 c8 hn H w.task h3
    have hfe : ((fdS Q w.task).1 == (pre.length : Int)) = !pre.any (fun x => x.task == w.task) := by rw [hl]; exact fd_eq
    have e1 : qchk own H pre (w :: suf) = (!pre.any (fun x => x.task == w.task) && !wbd own H w && qchk own H (pre ++ [w]) suf) := rfl
    rw [e1]
    generalize qchk own H (pre ++ [w]) suf = dd at *
    generalize (fdS Q w.task).1 = fi at *
    generalize (fdS Q w.task).2 = fb at *
    simp at ih'
    rw [ev_loop]
    conv => lhs; arg 4; unfold F_rwlock_queued_L0
    cases ha : pre.any (fun x => x.task == w.task)
    · rw [ha] at hfe
      have hfe2 : (fi != (pre.length : Int)) = false := by simp [bne, hfe]
      cases hb : ((w.op != 53 && w.op != 55) || w.value != 0 || w.case != -1 || hld own H w.task != 0)
      · have hb2 : wbd own H w = false := hb
        have p1 : (w.op != 53 && w.op != 55) = false := by cases h : (w.op != 53 && w.op != 55) <;> simp_all
        have p2 : (w.value != 0) = false := by cases h : (w.value != 0) <;> simp_all
        have p3 : (w.case != -1) = false := by cases h : (w.case != -1) <;> simp_all
        have p4 : (hld own H w.task != 0) = false := by cases h : (hld own H w.task != 0) <;> simp_all
        simp [hlt, hg, W.row, hF, hfe2, hH, p1, p2, p3, p4, hnext, hb2]
        exact ih'
      · have hb2 : wbd own H w = true := hb
        simp [hlt, hg, W.row, hF, hfe2, hH, hb, hb2]
    · rw [ha] at hfe
      have hfe2 : (fi != (pre.length : Int)) = true := by simp [bne, hfe]
      simp [hlt, hg, W.row, hF, hfe2]
def stay (own : Int) (H : List Int) : List W → Bool
  | [] => true
  | w :: _ => own != -1 || (w.op == 55 && !H.isEmpty)
theorem wchk_zero {Q : List W} (h : wchk Q = 0) : Q.length ≤ 96 ∧ ∀ w, w ∈ Q → wvalid w = true := by
  unfold wchk at h
  by_cases h1 : 96 < Q.length
  · rw [if_pos h1] at h; cases h
  · rw [if_neg h1] at h
    refine ⟨by omega, ?_⟩
    have : ∀ (l : List W) (p : Option W), wcheckFrom 1 p l = 0 → ∀ w, w ∈ l → wvalid w = true := by
      intro l
      induction l with
      | nil => simp
      | cons a r ih =>
        intro p h w hw
        unfold wcheckFrom at h
        cases hv : wvalid a
        · rw [hv] at h; simp at h
        · rw [hv] at h
          simp at h
          rcases List.mem_cons.1 hw with e | hw
          · rw [e]; exact hv
          · exact ih _ h w hw
    exact this Q none h
theorem wvalid_task {w : W} (h : wvalid w = true) : 0 ≤ w.task ∧ w.task < 16 := by
  unfold wvalid wbad at h
  simp at h
  omega
theorem ev_queued (z : Z) (own : Int) (hn : Bool) (H : List Int) (qn : Bool) (Q : List W) (h1 : hn = true → H = []) (h2 : qn = true → Q = []) (h3 : H.length ≤ 1000) (h4 : Q.length ≤ 1000000) (hA : Asc H) :
    ev P (.call rwlock_queued [.d (.ag [I' own, z.c1, z.c2, hD hn H, qD qn Q, z.c5, z.c6, z.c7, z.c8])] []) = some (.val (.d (.b (wchk Q == 0 && (qchk own H [] Q && stay own H Q)))) []) := by
  have hW := ev_wCheck qn Q
  have hL := loop_queued own z.c1 z.c2 z.c5 z.c6 z.c7 z.c8 hn H qn Q (by omega) h4 Q [] rfl
  have hCh := ev_changed z own hn H qn Q h1 h2 (by omega) h4
  have hll := hlen_hS h1
  have hLS := hL_hS h1
  rw [ev_call P_rwlock_queued rfl]
  cases hw : wchk Q == 0
  · have hw2 : (wchk Q != 0) = true := by simp [bne, hw]
    simp [F_rwlock_queued, hW, hw2]
  · have hw2 : (wchk Q != 0) = false := by simp [bne, hw]
    obtain ⟨hq1, hq2⟩ := wchk_zero (by simpa using hw)
    cases hq : qchk own H [] Q
    · rw [hq] at hL
      simp at hL
      simp [F_rwlock_queued, hW, hw2, hL]
    · rw [hq] at hL
      simp at hL
      cases Q with
      | nil =>
        simp at hL
        simp [F_rwlock_queued, hW, hw2, hL, stay]
      | cons w r =>
        simp at hL
        have hqn : qn = false := by cases qn; rfl; exact absurd (h2 rfl) (by simp)
        subst hqn
        have qe : qS false (w :: r) = .inr ((w :: r).map W.row, 0, r.length + 1) := by simp [qS]
        have z1 : ¬ ((r.length : Int) + 1 = 0) := by omega
        have z2 : ((r.length : Int) + 1 == 0) = false := by simp; omega
        have hwt := wvalid_task (hq2 w (by simp))
        have hh0 : heap0 z own hn H false (w :: r) = heap3 z own (hS hn H) (.inr ((w :: r).map W.row, 0, r.length + 1)) none := by simp [heap0, qe]
        rw [hh0] at hCh
        by_cases hs : own ≠ -1 ∨ (w.op = 55 ∧ hlen (hS hn H) ≠ 0)
        · have hst : stay own H (w :: r) = true := by
            unfold stay
            rw [hll] at hs
            rcases hs with hs | ⟨hs1, hs2⟩
            · simp [hs]
            · simp [hs1]; right; intro h; rw [h] at hs2; exact hs2 rfl
          have hSv := ev_serve1 z own (hS hn H) w r hs
          rw [hst]
          cases hn
          · simp [hS, heap3, lk, hV, hO, qV, qO, kV, kO] at hCh hSv
            simp [F_rwlock_queued, hW, hw2, hL, z1, z2, hCh, callD, callR, hSv, reachC, cut, rg2, rg3, rg4, rg5, List.idxOf_cons, sub, setAll, back]
          · simp [hS, heap3, lk, hV, hO, qV, qO, kV, kO] at hCh hSv
            simp [F_rwlock_queued, hW, hw2, hL, z1, z2, hCh, callD, callR, hSv, reachC, cut, rg2, rg3, rg4, rg5, List.idxOf_cons, sub, setAll, back]
        · have ho : own = -1 := Classical.byContradiction fun h => hs (.inl h)
          subst ho
          have hst : stay (-1) H (w :: r) = false := by
            unfold stay
            simp
            intro h
            have : hlen (hS hn H) = 0 := Classical.byContradiction fun h' => hs (.inr ⟨h, h'⟩)
            rw [hll] at this
            exact List.length_eq_zero_iff.1 this
          rw [hst]
          by_cases h55 : w.op = 55
          · have hh1 : hlen (hS hn H) = 0 := Classical.byContradiction fun h' => hs (.inr ⟨h55, h'⟩)
            have hSv := ev_serve2 z (hS hn H) w r h55 hh1 (by omega)
            cases hn
            · cases r with
              | nil =>
                simp at hL
                simp [hS, heap3, heapW, lk, hV, hO, qV, qO, kV, kO, qcV] at hCh hSv
                simp [F_rwlock_queued, hW, hw2, hL, z1, z2, hCh, callD, callR, hSv, reachC, cut, rg2, rg3, rg4, rg5, List.idxOf_cons, sub, setAll, back]
              | cons w2 r =>
                simp at hL
                have z5 : ((r.length : Int) + 1 + 1 == 0) = false := by simp; omega
                have z6 : ¬ ((r.length : Int) + 1 + 1 = 0) := by omega
                simp [hS, heap3, heapW, lk, hV, hO, qV, qO, kV, kO, qcV] at hCh hSv
                simp [F_rwlock_queued, hW, hw2, hL, z5, z6, hCh, callD, callR, hSv, reachC, cut, rg2, rg3, rg4, rg5, List.idxOf_cons, sub, setAll, back]
            · cases r with
              | nil =>
                simp at hL
                simp [hS, heap3, heapW, lk, hV, hO, qV, qO, kV, kO, qcV] at hCh hSv
                simp [F_rwlock_queued, hW, hw2, hL, z1, z2, hCh, callD, callR, hSv, reachC, cut, rg2, rg3, rg4, rg5, List.idxOf_cons, sub, setAll, back]
              | cons w2 r =>
                simp at hL
                have z5 : ((r.length : Int) + 1 + 1 == 0) = false := by simp; omega
                have z6 : ¬ ((r.length : Int) + 1 + 1 = 0) := by omega
                simp [hS, heap3, heapW, lk, hV, hO, qV, qO, kV, kO, qcV] at hCh hSv
                simp [F_rwlock_queued, hW, hw2, hL, z5, z6, hCh, callD, callR, hSv, reachC, cut, rg2, rg3, rg4, rg5, List.idxOf_cons, sub, setAll, back]
          · have hSv := ev_serve3 z (hS hn H) H w r h55 hLS hA h3 (by simp at hq1; omega)
            generalize (r.takeWhile fun w => w.op != 55) = tk at *
            generalize (r.dropWhile fun w => w.op != 55) = dk at *
            have z3 : ¬ ((tk.length : Int) + 1 = 0) := by omega
            have z4 : ((tk.length : Int) + 1 == 0) = false := by simp; omega
            cases hn <;> cases dk <;>
            · simp [hS, heap3, heapL, lk, hV, hO, hX, qV, qO, kV, kO, qcV] at hCh hSv
              simp [F_rwlock_queued, hW, hw2, hL, z1, z2, z3, z4, hCh, callD, callR, hSv, reachC, cut, rg2, rg3, rg4, rg5, List.idxOf_cons, sub, setAll, back]
end Go.VS.R
namespace Go.VS.R
theorem nil_or_snoc {α : Type} (l : List α) : l = [] ∨ ∃ a x, l = a ++ [x] := by
  rcases List.eq_nil_or_concat l with h | ⟨a, x, h⟩
  · exact .inl h
  · exact .inr ⟨a, x, by simpa using h⟩
/-- the check of the holders, from a place on -/
def vh : List Int → List Int → Bool
  | _, [] => true
  | pre, x :: r => !(!isTask x || pre.getLast?.any (fun y => decide (x ≤ y))) && vh (pre ++ [x]) r
theorem loop_valid (own : Int) (c1 c2 c5 c6 c7 c8 qd : D) (hn : Bool) (H : List Int) (h3 : H.length ≤ 1000000) : ∀ (suf pre : List Int), H = pre ++ suf →
    ev P (.loop 0 [1, 52, 53, 54] F_rwlock_valid_L0 [(1, .d (.ref [I' own, c1, c2, hD hn H, qd, c5, c6, c7, c8])), (52, .d (hD hn H)), (53, .d (I' H.length)), (54, .d (I' pre.length))] []) =
      if vh pre suf = true then some (.out (.exit 0) [(1, .d (.ref [I' own, c1, c2, hD hn H, qd, c5, c6, c7, c8]))] []) else some (.out .ret [(2, .d (.b false))] []) := by
  intro suf
  induction suf with
  | nil =>
    intro pre hl
    have : H.length = pre.length := by simp [hl]
    rw [ev_loop]
    conv => lhs; arg 4; unfold F_rwlock_valid_L0
    simp [this, vh]
  | cons x suf ih =>
    intro pre hl
    have hg : H[pre.length]? = some x := by simp [hl]
    have hlt : (pre.length : Int) < H.length := by simp [hl]; omega
    have hnext : IntKind.i64.wrap ((pre.length : Int) + 1) = pre.length + 1 := wrap_i64 (by omega) (by omega)
    have ih' := ih (pre ++ [x]) (by simp [hl])
    have e1 : vh pre (x :: suf) = (!(!isTask x || pre.getLast?.any (fun y => decide (x ≤ y))) && vh (pre ++ [x]) suf) := rfl
    rw [e1]
    generalize vh (pre ++ [x]) suf = dd at *
    simp at ih'
    rw [ev_loop]
    conv => lhs; arg 4; unfold F_rwlock_valid_L0
    cases ht : isTask x
    · simp [hlt, hg, ev_isTask, ht]
    · rcases nil_or_snoc pre with rfl | ⟨pre', p, rfl⟩
      · have h0 : 0 < H.length := by simp [hl]
        have hg0 : ∀ h : 0 < H.length, H[0] = x := fun h => by simpa [List.getElem?_eq_getElem h] using hg
        simp at ih'
        simp [h0, hg0, ev_isTask, ht, wrap1]
        exact ih'
      · have hgp : H[pre'.length]? = some p := by simp [hl]
        have hlt2 : (pre'.length : Int) + 1 < H.length := by simpa using hlt
        have hw2 : IntKind.i64.wrap (pre'.length : Int) = pre'.length := wrap_i64 (by omega) (by omega)
        have h0 : (0 : Int) < pre'.length + 1 := by omega
        have h1 : (0 : Int) ≤ pre'.length + 1 := by omega
        have hn2 : IntKind.i64.wrap ((pre'.length : Int) + 1 + 1) = pre'.length + 1 + 1 := wrap_i64 (by omega) (by omega)
        simp only [List.length_append, List.length_singleton] at hg
        simp at ih'
        by_cases hp : x ≤ p
        · simp [hlt2, hg, hgp, hw2, h0, h1, ev_isTask, ht, hp]
        · simp [hlt2, hg, hgp, hw2, h0, h1, ev_isTask, ht, hp, hn2]
          exact ih'
def flA (own cnt time : Int) (H B : List Int) (C : List (List D)) (cl : Bool) (val : Int) : Bool :=
  own != -1 && (!isTask own || decide (0 < H.length)) || cnt != 0 || time != 0 || decide (0 < B.length) || decide (0 < C.length) || cl || val != 0
def mvalid (own cnt time : Int) (H : List Int) (Q : List W) (B : List Int) (C : List (List D)) (cl : Bool) (val : Int) : Bool :=
  !flA own cnt time H B C cl val && (vh [] H && (wchk Q == 0 && (qchk own H [] Q && stay own H Q)))
theorem vh_asc : ∀ {suf pre : List Int}, Asc pre → (∀ x, x ∈ pre → ∀ y, y ∈ pre.getLast? → x ≤ y) → vh pre suf = true → Asc (pre ++ suf)
  | [], pre, hA, _, _ => by simpa using hA
  | x :: r, pre, hA, hm, h => by
    have e1 : vh pre (x :: r) = (!(!isTask x || pre.getLast?.any (fun y => decide (x ≤ y))) && vh (pre ++ [x]) r) := rfl
    rw [e1] at h
    simp at h
    obtain ⟨⟨_, h2⟩, h3⟩ := h
    have hx : ∀ y, y ∈ pre → y ≤ x := by
      intro y hy
      cases hp : pre.getLast? with
      | none =>
        have : pre = [] := by simpa using hp
        rw [this] at hy; cases hy
      | some p =>
        have := hm y hy p (by simp [hp])
        have := List.any_eq_false.1 (by simpa [hp] using h2 : ([p] : List Int).any (fun y => decide (x ≤ y)) = false) p (by simp)
        simp at this
        omega
    have hA' : Asc (pre ++ [x]) := by
      unfold Asc
      rw [List.pairwise_append]
      exact ⟨hA, List.pairwise_singleton _ _, fun a ha b hb => by simp at hb; rw [hb]; exact hx a ha⟩
    have := vh_asc hA' (by
      intro y hy p hp
      simp at hp
      subst hp
      simp at hy
      rcases hy with hy | hy
      · exact hx y hy
      · omega) h3
    simpa using this
theorem vh_asc0 {H : List Int} (h : vh [] H = true) : Asc H := by
  have := vh_asc (pre := []) (suf := H) List.Pairwise.nil (by simp) h
  simpa using this
theorem ev_mvalid (own cnt time : Int) (hn : Bool) (H : List Int) (qn : Bool) (Q : List W) (bn : Bool) (B : List Int) (cn : Bool) (C : List (List D)) (cl : Bool) (val : Int)
    (hh : hn = true → H = []) (hq : qn = true → Q = []) (h1 : H.length ≤ 1000) (h2 : Q.length ≤ 1000000) :
    ev P (.call rwlock_valid [.d (.ag [I' own, I' cnt, I' time, hD hn H, qD qn Q, hD bn B, cD cn C, .b cl, I' val])] []) = some (.val (.d (.b (mvalid own cnt time H Q B C cl val))) []) := by
  have hL := loop_valid own (I' cnt) (I' time) (hD bn B) (cD cn C) (.b cl) (I' val) (qD qn Q) hn H (by omega) H [] rfl
  simp at hL
  rw [ev_call P_rwlock_valid rfl]
  unfold mvalid
  simp [F_rwlock_valid, ev_isTask]
  cases hA : (own != -1 && (!isTask own || decide (0 < H.length)) || cnt != 0 || time != 0 || decide (0 < B.length) || decide (0 < C.length) || cl || val != 0)
  · have hF : flA own cnt time H B C cl val = false := hA
    rw [hF]
    cases hv : vh [] H
    · rw [hv] at hL
      simp at hL
      simp [hL]
    · rw [hv] at hL
      simp at hL
      have hQ := ev_queued ⟨I' cnt, I' time, hD bn B, cD cn C, .b cl, I' val⟩ own hn H qn Q hh hq h1 h2 (vh_asc0 hv)
      simp only at hQ
      have e2 : (!false && (true && (wchk Q == 0 && (qchk own H [] Q && stay own H Q)))) = (wchk Q == 0 && (qchk own H [] Q && stay own H Q)) := by simp
      rw [e2]
      generalize (wchk Q == 0 && (qchk own H [] Q && stay own H Q)) = R at *
      simp [hL, hQ]
  · have hF : flA own cnt time H B C cl val = true := hA
    rw [hF]
    simp
theorem ev_mCheck (nm : D) (k sz ot : Int) (own cnt time : Int) (hn : Bool) (H : List Int) (qn : Bool) (Q : List W) (bn : Bool) (B : List Int) (cn : Bool) (C : List (List D)) (cl : Bool) (val : Int)
    (hh : hn = true → H = []) (hq : qn = true → Q = []) (h1 : H.length ≤ 1000) (h2 : Q.length ≤ 1000000) :
    ev P (.call rwlock_Check [.d (.ag [nm, I' k, I' sz, I' ot]), .d (.ag [I' own, I' cnt, I' time, hD hn H, qD qn Q, hD bn B, cD cn C, .b cl, I' val])] []) =
      some (.val (.d (I' (if mnew k sz ot = 0 then (if mvalid own cnt time H Q B C cl val then 0 else 1) else mnew k sz ot))) []) := by
  have hv := ev_mvalid own cnt time hn H qn Q bn B cn C cl val hh hq h1 h2
  rw [ev_call P_rwlock_Check rfl]
  cases hm : mnew k sz ot == 0
  · have hm' : mnew k sz ot ≠ 0 := by simpa using hm
    have hm2 : (mnew k sz ot != 0) = true := by simpa using hm'
    simp [F_rwlock_Check, ev_mNew, hm', hm2, zrow]
  · have hm' : mnew k sz ot = 0 := by simpa using hm
    simp [F_rwlock_Check, ev_mNew, hm', frow, hv]
    cases mvalid own cnt time H Q B C cl val <;> simp
/-! the reference's check -/
def vh' (own : Int) : List Int → List Int → Bool
  | _, [] => true
  | pre, x :: r => !((!isTask x || pre.getLast?.any (fun y => decide (x ≤ y))) || decide (0 ≤ own)) && vh' own (pre ++ [x]) r
theorem loop_rvalid (own : Int) (c1 c2 c5 c6 c7 c8 qd : D) (hn : Bool) (H : List Int) (h3 : H.length ≤ 1000000) : ∀ (suf pre : List Int), H = pre ++ suf →
    ev P (.loop 0 [1, 3] F_nurseryref17_valid_L0 [(1, .d (.ref [I' own, c1, c2, hD hn H, qd, c5, c6, c7, c8])), (3, .d (I' pre.length))] []) =
      if vh' own pre suf = true then some (.out (.exit 0) [(1, .d (.ref [I' own, c1, c2, hD hn H, qd, c5, c6, c7, c8]))] []) else some (.out .ret [(2, .d (.b false))] []) := by
  intro suf
  induction suf with
  | nil =>
    intro pre hl
    have : H.length = pre.length := by simp [hl]
    rw [ev_loop]
    conv => lhs; arg 4; unfold F_nurseryref17_valid_L0
    simp [this, vh']
  | cons x suf ih =>
    intro pre hl
    have hg : H[pre.length]? = some x := by simp [hl]
    have hlt : (pre.length : Int) < H.length := by simp [hl]; omega
    have hnext : IntKind.i64.wrap ((pre.length : Int) + 1) = pre.length + 1 := wrap_i64 (by omega) (by omega)
    have ih' := ih (pre ++ [x]) (by simp [hl])
    have e1 : vh' own pre (x :: suf) = (!((!isTask x || pre.getLast?.any (fun y => decide (x ≤ y))) || decide (0 ≤ own)) && vh' own (pre ++ [x]) suf) := rfl
    rw [e1]
    generalize vh' own (pre ++ [x]) suf = dd at *
    simp at ih'
    rw [ev_loop]
    conv => lhs; arg 4; unfold F_nurseryref17_valid_L0
    cases ht : isTask x
    · simp [hlt, hg, ev_rTask, ht]
    · rcases nil_or_snoc pre with rfl | ⟨pre', p, rfl⟩
      · have h0 : 0 < H.length := by simp [hl]
        have hg0 : ∀ h : 0 < H.length, H[0] = x := fun h => by simpa [List.getElem?_eq_getElem h] using hg
        simp at ih'
        by_cases ho : 0 ≤ own
        · simp [h0, hg0, ev_rTask, ht, ho]
        · simp [h0, hg0, ev_rTask, ht, ho, wrap1]
          exact ih'
      · have hgp : H[pre'.length]? = some p := by simp [hl]
        have hlt2 : (pre'.length : Int) + 1 < H.length := by simpa using hlt
        have hw2 : IntKind.i64.wrap (pre'.length : Int) = pre'.length := wrap_i64 (by omega) (by omega)
        have h0 : (0 : Int) < pre'.length + 1 := by omega
        have h1 : (0 : Int) ≤ pre'.length + 1 := by omega
        have hn2 : IntKind.i64.wrap ((pre'.length : Int) + 1 + 1) = pre'.length + 1 + 1 := wrap_i64 (by omega) (by omega)
        simp only [List.length_append, List.length_singleton] at hg
        simp at ih'
        by_cases hp : x ≤ p
        · simp [hlt2, hg, hgp, hw2, h0, h1, ev_rTask, ht, hp]
        · by_cases ho : 0 ≤ own
          · simp [hlt2, hg, hgp, hw2, h0, h1, ev_rTask, ht, hp, ho]
          · simp [hlt2, hg, hgp, hw2, h0, h1, ev_rTask, ht, hp, ho, hn2]
            exact ih'
theorem ev_within (a b c : Int) : ev P (.call nurseryref07_within [.d (I' a), .d (I' b), .d (I' c)] []) = some (.val (.d (.b (decide (b ≤ a) && decide (a ≤ c)))) []) := by
  rw [ev_call P_nurseryref07_within rfl]
  simp [F_nurseryref07_within]
theorem ev_rValid (w : W) : ev P (.call nurseryref07_Valid [.d (.ag [I' w.task, I' w.op, I' w.value, I' w.prio, I' w.case])] []) = some (.val (.d (.b (wvalid w))) []) := by
  have e : wvalid w = (decide (0 ≤ w.task) && decide (w.task ≤ 15) && (decide (1 ≤ w.op) && decide (w.op ≤ 99)) && (decide (-1099511627776 ≤ w.value) && decide (w.value ≤ 1099511627776)) && (decide (0 ≤ w.prio) && decide (w.prio ≤ 9)) && (decide (-1 ≤ w.case) && decide (w.case ≤ 5))) := by
    rw [Bool.eq_iff_iff]
    unfold wvalid wbad
    simp
    omega
  rw [e]
  rw [ev_call P_nurseryref07_Valid rfl]
  simp [F_nurseryref07_Valid, ev_within]
def rchk (l : List W) : Int := if 96 < l.length then 4 else if l.all wvalid = true then 0 else 2
theorem loop_rchk (nl : Bool) (l : List W) (hn : l.length ≤ 1000000) : ∀ (suf pre : List W), l = pre ++ suf →
    ev P (.loop 0 [0, 1, 5] F_nurseryref07_Check_L0 [(0, .d (I' 1)), (1, .d (qD nl l)), (5, .d (I' pre.length))] []) =
      if suf.all wvalid = true then some (.out (.exit 0) [] []) else some (.out .ret [(4, .d (I' 2))] []) := by
  intro suf
  induction suf with
  | nil =>
    intro pre hl
    have : l.length = pre.length := by simp [hl]
    rw [ev_loop]
    conv => lhs; arg 4; unfold F_nurseryref07_Check_L0
    simp [this]
  | cons w suf ih =>
    intro pre hl
    have hg : l[pre.length]? = some w := by simp [hl]
    have hlt : (pre.length : Int) < l.length := by simp [hl]; omega
    have hnext : IntKind.i64.wrap ((pre.length : Int) + 1) = pre.length + 1 := wrap_i64 (by omega) (by omega)
    have ih' := ih (pre ++ [w]) (by simp [hl])
    have e1 : (w :: suf).all wvalid = (wvalid w && suf.all wvalid) := rfl
    rw [e1]
    generalize suf.all wvalid = dd at *
    simp at ih'
    rw [ev_loop]
    conv => lhs; arg 4; unfold F_nurseryref07_Check_L0
    cases hv : wvalid w
    · simp [hlt, hg, W.row, ev_rValid, hv]
    · simp [hlt, hg, W.row, ev_rValid, hv, hnext]
      exact ih'
theorem ev_rchk (nl : Bool) (l : List W) (hn : l.length ≤ 1000000) : ev P (.call nurseryref07_Check [.d (I' 1), .d (qD nl l)] []) = some (.val (.d (I' (rchk l))) []) := by
  have hl := loop_rchk nl l hn l [] rfl
  unfold rchk
  generalize l.all wvalid = dd at *
  simp at hl
  rw [ev_call P_nurseryref07_Check rfl]
  by_cases h : 96 < l.length
  · have h' : (96 : Int) < l.length := by omega
    simp [F_nurseryref07_Check, h, h']
  · have h' : ¬ (96 : Int) < l.length := by omega
    simp [F_nurseryref07_Check, h, h', hl]
    cases dd <;> simp
theorem rchk_eq (l : List W) : rchk l = wchk l := by
  have : ∀ (l : List W) (p : Option W), wcheckFrom 1 p l = if l.all wvalid = true then 0 else 2 := by
    intro l
    induction l with
    | nil => intro p; rfl
    | cons a r ih =>
      intro p
      unfold wcheckFrom
      cases hv : wvalid a
      · simp [hv]
      · simp [hv, ih]
  unfold rchk wchk
  rw [this]
end Go.VS.R
namespace Go.VS.R
theorem loop_rdup (own c1 c2 hd c5 c6 c7 c8 : D) (nl : Bool) (l : List W) (w : W) (n : Nat) (hn : l.length ≤ 1000000) (hln : n ≤ l.length) : ∀ (k i : Nat), i + k = n →
    ev P (.loop 0 [1, 4, 5, 6] F_nurseryref17_valid_L1 [(1, .d (.ref [own, c1, c2, hd, qD nl l, c5, c6, c7, c8])), (4, .d (I' n)), (5, .d (.ref w.row)), (6, .d (I' i))] []) =
      if ((l.take n).drop i).any (fun x => x.task == w.task) = true then some (.out .ret [(2, .d (.b false))] []) else some (.out (.exit 4) [(1, .d (.ref [own, c1, c2, hd, qD nl l, c5, c6, c7, c8])), (4, .d (I' n))] []) := by
  intro k
  induction k with
  | zero =>
    intro i hi
    have : i = n := by omega
    subst this
    rw [ev_loop]
    conv => lhs; arg 4; unfold F_nurseryref17_valid_L1
    simp
  | succ k ih =>
    intro i hi
    have hlt : (i : Int) < n := by omega
    obtain ⟨x, hx⟩ : ∃ x, l[i]? = some x := ⟨l[i]'(by omega), by simp⟩
    have ih' := ih (i + 1) (by omega)
    have hnext : IntKind.i64.wrap ((i : Int) + 1) = i + 1 := wrap_i64 (by omega) (by omega)
    have hd : (l.take n).drop i = x :: (l.take n).drop (i + 1) := by
      have hk2 : i < (l.take n).length := by simp; omega
      rw [List.drop_eq_getElem_cons hk2]
      congr 1
      rw [List.getElem_take]
      have := List.getElem?_eq_some_iff.1 hx
      exact this.2
    rw [hd, List.any_cons]
    generalize ((l.take n).drop (i + 1)).any (fun x => x.task == w.task) = dd at *
    rw [ev_loop]
    conv => lhs; arg 4; unfold F_nurseryref17_valid_L1
    cases hw : x.task == w.task
    · simp at ih'
      simp [hlt, hx, W.row, hw, hnext] at ih' ⊢
      exact ih'
    · simp [hlt, hx, W.row, hw]
def qchk' (own : Int) (H : List Int) : List W → List W → Bool
  | _, [] => true
  | pre, w :: r => !wbd own H w && !pre.any (fun x => x.task == w.task) && qchk' own H (pre ++ [w]) r
theorem qchk_eq (own : Int) (H : List Int) : ∀ (suf pre : List W), qchk' own H pre suf = qchk own H pre suf
  | [], pre => rfl
  | w :: r, pre => by
    unfold qchk' qchk
    rw [qchk_eq own H r, Bool.and_comm (!wbd own H w)]
theorem loop_rq (own : Int) (c1 c2 c5 c6 c7 c8 : D) (hn : Bool) (H : List Int) (qn : Bool) (Q : List W) (h3 : H.length ≤ 1000000) (h4 : Q.length ≤ 1000000) : ∀ (suf pre : List W), Q = pre ++ suf →
    ev P (.loop 0 [1, 4] F_nurseryref17_valid_L2 [(1, .d (.ref [I' own, c1, c2, hD hn H, qD qn Q, c5, c6, c7, c8])), (4, .d (I' pre.length))] []) =
      if qchk' own H pre suf = true then some (.out (.exit 2) [] []) else some (.out .ret [(2, .d (.b false))] []) := by
  intro suf
  induction suf with
  | nil =>
    intro pre hl
    have : Q.length = pre.length := by simp [hl]
    rw [ev_loop]
    conv => lhs; arg 4; unfold F_nurseryref17_valid_L2
    simp [this, qchk']
  | cons w suf ih =>
    intro pre hl
    have hg : Q[pre.length]? = some w := by simp [hl]
    have hlt : (pre.length : Int) < Q.length := by simp [hl]; omega
    have hnext : IntKind.i64.wrap ((pre.length : Int) + 1) = pre.length + 1 := wrap_i64 (by omega) (by omega)
    have ih' := ih (pre ++ [w]) (by simp [hl])
    have hH := ev_rHolds own c1 c2 (qD qn Q) c5 c6 c7 c8 hn H w.task h3
    have hK := loop_rdup (I' own) c1 c2 (hD hn H) c5 c6 c7 c8 qn Q w pre.length h4 (by simp [hl]) pre.length 0 (by omega)
    have htk : (Q.take pre.length).drop 0 = pre := by simp [hl]
    rw [htk] at hK
    have e1 : qchk' own H pre (w :: suf) = (!wbd own H w && !pre.any (fun x => x.task == w.task) && qchk' own H (pre ++ [w]) suf) := rfl
    rw [e1]
    generalize qchk' own H (pre ++ [w]) suf = dd at *
    simp at ih'
    rw [ev_loop]
    conv => lhs; arg 4; unfold F_nurseryref17_valid_L2
    cases hb : ((w.op != 53 && w.op != 55) || w.value != 0 || w.case != -1 || hld own H w.task != 0)
    · have hb2 : wbd own H w = false := hb
      have p1 : (w.op != 53 && w.op != 55) = false := by cases h : (w.op != 53 && w.op != 55) <;> simp_all
      have p2 : (w.value != 0) = false := by cases h : (w.value != 0) <;> simp_all
      have p3 : (w.case != -1) = false := by cases h : (w.case != -1) <;> simp_all
      have p4 : (hld own H w.task != 0) = false := by cases h : (hld own H w.task != 0) <;> simp_all
      cases ha : pre.any (fun x => x.task == w.task)
      · rw [ha] at hK
        simp [W.row] at hK
        simp [hlt, hg, W.row, hH, p1, p2, p3, p4, hb2, hK, hnext]
        exact ih'
      · rw [ha] at hK
        simp [W.row] at hK
        simp [hlt, hg, W.row, hH, p1, p2, p3, p4, hb2, hK]
    · have hb2 : wbd own H w = true := hb
      simp [hlt, hg, W.row, hH, hb, hb2]
def flR (own cnt time : Int) (B : List Int) (C : List (List D)) (cl : Bool) (val : Int) : Bool :=
  own != -1 && !isTask own || cnt != 0 || time != 0 || decide (0 < B.length) || decide (0 < C.length) || cl || val != 0
def rvalid (own cnt time : Int) (H : List Int) (Q : List W) (B : List Int) (C : List (List D)) (cl : Bool) (val : Int) : Bool :=
  !flR own cnt time B C cl val && (vh' own [] H && (wchk Q == 0 && qchk own H [] Q))
theorem ev_rvalid (own cnt time : Int) (hn : Bool) (H : List Int) (qn : Bool) (Q : List W) (bn : Bool) (B : List Int) (cn : Bool) (C : List (List D)) (cl : Bool) (val : Int)
    (h1 : H.length ≤ 1000) (h2 : Q.length ≤ 1000000) :
    ev P (.call nurseryref17_valid [.d (.ag [I' own, I' cnt, I' time, hD hn H, qD qn Q, hD bn B, cD cn C, .b cl, I' val])] []) = some (.val (.d (.b (rvalid own cnt time H Q B C cl val))) []) := by
  have hL := loop_rvalid own (I' cnt) (I' time) (hD bn B) (cD cn C) (.b cl) (I' val) (qD qn Q) hn H (by omega) H [] rfl
  have hK := loop_rq own (I' cnt) (I' time) (hD bn B) (cD cn C) (.b cl) (I' val) hn H qn Q (by omega) h2 Q [] rfl
  have hW := ev_rchk qn Q h2
  rw [rchk_eq] at hW
  rw [qchk_eq] at hK
  simp at hL hK
  rw [ev_call P_nurseryref17_valid rfl]
  unfold rvalid
  simp [F_nurseryref17_valid, ev_rTask]
  cases hA : (own != -1 && !isTask own || cnt != 0 || time != 0 || decide (0 < B.length) || decide (0 < C.length) || cl || val != 0)
  · have hF : flR own cnt time B C cl val = false := hA
    rw [hF]
    cases hv : vh' own [] H
    · rw [hv] at hL
      simp at hL
      simp [hL]
    · rw [hv] at hL
      simp at hL
      cases hw : wchk Q == 0
      · have hw2 : (wchk Q != 0) = true := by simp [bne, hw]
        simp [hL, hW, hw2]
      · have hw2 : (wchk Q != 0) = false := by simp [bne, hw]
        cases hq : qchk own H [] Q
        · rw [hq] at hK
          simp at hK
          simp [hL, hW, hw2, hK]
        · rw [hq] at hK
          simp at hK
          simp [hL, hW, hw2, hK]
  · have hF : flR own cnt time B C cl val = true := hA
    rw [hF]
    simp
def vainB (own : Int) (H : List Int) : List W → Bool
  | [] => false
  | w :: _ => if w.op = 53 then decide (own < 0) else (decide (own < 0) && H.isEmpty)
theorem ev_vain (own : Int) (c1 c2 c5 c6 c7 c8 : D) (hn : Bool) (H : List Int) (qn : Bool) (Q : List W) :
    ev P (.call nurseryref17_vain [.d (.ag [I' own, c1, c2, hD hn H, qD qn Q, c5, c6, c7, c8])] []) = some (.val (.d (.b (vainB own H Q))) []) := by
  rw [ev_call P_nurseryref17_vain rfl]
  have hh : (decide (H = [])) = H.isEmpty := by cases H <;> simp
  cases Q with
  | nil => simp [F_nurseryref17_vain, mkRows, allDs, vainB, endH, reachC, cut]
  | cons w r =>
    have z2 : ((r.length : Int) + 1 == 0) = false := by simp; omega
    by_cases h : w.op = 53
    · simp [F_nurseryref17_vain, mkRows, allDs, vainB, endH, reachC, cut, z2, h, W.row]
    · have h2 : (w.op == 53) = false := by simpa using h
      cases H with
      | nil => simp [F_nurseryref17_vain, mkRows, allDs, vainB, endH, reachC, cut, z2, h, h2, W.row]
      | cons a l =>
        have z3 : ((l.length : Int) + 1 == 0) = false := by simp; omega
        simp [F_nurseryref17_vain, mkRows, allDs, vainB, endH, reachC, cut, z2, z3, h, h2, W.row]
theorem valid_eq (own cnt time : Int) (H : List Int) (Q : List W) (B : List Int) (C : List (List D)) (cl : Bool) (val : Int) :
    mvalid own cnt time H Q B C cl val = (rvalid own cnt time H Q B C cl val && !vainB own H Q) := by
  have hvv : ∀ (suf pre : List Int), own < 0 → vh' own pre suf = vh pre suf := by
    intro suf
    induction suf with
    | nil => intro pre _; rfl
    | cons x r ih =>
      intro pre ho
      unfold vh' vh
      rw [ih _ ho]
      have : decide (0 ≤ own) = false := by simp; omega
      rw [this, Bool.or_false]
  unfold mvalid rvalid
  cases hF : flR own cnt time B C cl val
  · have hF2 := hF
    unfold flR at hF2
    simp only [Bool.or_eq_false_iff] at hF2
    obtain ⟨⟨⟨⟨⟨⟨a1, a2⟩, a3⟩, a4⟩, a5⟩, a6⟩, a7⟩ := hF2
    have hA : flA own cnt time H B C cl val = (own != -1 && decide (0 < H.length)) := by
      unfold flA
      rw [a2, a3, a4, a5, a6, a7]
      cases ho : own != -1
      · simp
      · rw [ho] at a1; simp at a1; simp [a1]
    rw [hA]
    cases ho : own != -1
    · have ho2 : own = -1 := by simpa using ho
      subst ho2
      rw [hvv H [] (by decide)]
      cases vh [] H
      · simp
      · cases hw : wchk Q == 0
        · simp
        · cases hq : qchk (-1) H [] Q
          · simp
          · cases Q with
            | nil => simp [stay, vainB]
            | cons w r =>
              have : !wbd (-1) H w = true := by
                have e1 : qchk (-1) H [] (w :: r) = (!([] : List W).any (fun x => x.task == w.task) && !wbd (-1) H w && qchk (-1) H ([] ++ [w]) r) := rfl
                rw [e1] at hq
                simp at hq
                simp [hq.1]
              have h5 : w.op = 53 ∨ w.op = 55 := by
                unfold wbd at this
                by_cases h : w.op = 53
                · exact .inl h
                · right
                  simp [h] at this
                  exact this.1.1.1
              rcases h5 with h5 | h5 <;> simp [stay, vainB, h5]
    · rw [ho] at a1
      have hit : isTask own = true := by simpa using a1
      have hge : 0 ≤ own := by unfold isTask at hit; simp at hit; omega
      have hlt : ¬ own < 0 := by omega
      have hvn : vainB own H Q = false := by
        cases Q with
        | nil => rfl
        | cons w r => simp [vainB, hlt]
      have hst : stay own H Q = true := by
        cases Q with
        | nil => rfl
        | cons w r => simp [stay]; left; simpa using ho
      rw [hvn, hst]
      cases H with
      | nil => simp [vh, vh']
      | cons x l => simp [vh', hge]
  · have hA : flA own cnt time H B C cl val = true := by
      unfold flR at hF
      unfold flA
      simp only [Bool.or_eq_true, Bool.and_eq_true] at hF ⊢
      rcases hF with ((((((⟨a1, a1'⟩ | a2) | a3) | a4) | a5) | a6) | a7)
      · exact .inl (.inl (.inl (.inl (.inl (.inl ⟨a1, .inl a1'⟩)))))
      · exact .inl (.inl (.inl (.inl (.inl (.inr a2)))))
      · exact .inl (.inl (.inl (.inl (.inr a3))))
      · exact .inl (.inl (.inl (.inr a4)))
      · exact .inl (.inl (.inr a5))
      · exact .inl (.inr a6)
      · exact .inr a7
    rw [hA]
    simp
theorem ev_rCheck (nm : D) (k sz ot : Int) (own cnt time : Int) (hn : Bool) (H : List Int) (qn : Bool) (Q : List W) (bn : Bool) (B : List Int) (cn : Bool) (C : List (List D)) (cl : Bool) (val : Int)
    (h1 : H.length ≤ 1000) (h2 : Q.length ≤ 1000000) :
    ev P (.call nurseryref17_Check [.d (.ag [nm, I' k, I' sz, I' ot]), .d (.ag [I' own, I' cnt, I' time, hD hn H, qD qn Q, hD bn B, cD cn C, .b cl, I' val])] []) =
      some (.val (.d (I' (if mnew k sz ot = 0 then (if mvalid own cnt time H Q B C cl val then 0 else 1) else mnew k sz ot))) []) := by
  have hv := ev_rvalid own cnt time hn H qn Q bn B cn C cl val h1 h2
  have hV := ev_vain own (I' cnt) (I' time) (hD bn B) (cD cn C) (.b cl) (I' val) hn H qn Q
  rw [valid_eq]
  rw [ev_call P_nurseryref17_Check rfl]
  cases hm : mnew k sz ot == 0
  · have hm' : mnew k sz ot ≠ 0 := by simpa using hm
    have hm2 : (mnew k sz ot != 0) = true := by simpa using hm'
    simp [F_nurseryref17_Check, ev_rNew, hm', hm2, zrow]
  · have hm' : mnew k sz ot = 0 := by simpa using hm
    cases hr : rvalid own cnt time H Q B C cl val <;> rw [hr] at hv <;> cases hvn : vainB own H Q <;> rw [hvn] at hV <;>
      simp [F_nurseryref17_Check, ev_rNew, hm', frow, hv, callR, hV, reachC, cut, sub, setAll, back]
end Go.VS.R
namespace Go.VS.R
theorem take_snoc_map {α β : Type} {f : α → β} {l : List α} {x : β} : List.take (l.length + 1) (l.map f ++ [x]) = l.map f ++ [x] := List.take_of_length_le (by simp)
/-! the reference's lists of numbers -/
def withF (n : Int) : Bool → List Int → List Int
  | d, [] => if d = true then [] else [n]
  | d, x :: r => if (!d && decide (n < x)) = true then n :: x :: withF n true r else x :: withF n d r
theorem withF_true (n : Int) : ∀ l : List Int, withF n true l = l
  | [] => rfl
  | x :: r => by simp [withF, withF_true n r]
theorem loop_with (nl : Bool) (l : List Int) (n : Int) (hn : l.length ≤ 100000) : ∀ (suf pre acc : List Int) (d : Bool), l = pre ++ suf → acc.length ≤ pre.length + (if d = true then 1 else 0) →
    ∃ (acc' : List Int) (d' : Bool), (if d' = true then acc' else acc' ++ [n]) = acc ++ withF n d suf ∧ acc'.length ≤ l.length + 1 ∧
    ev P (.loop 0 [0, 1, 5, 6, 7] F_nurseryref17_with_L0 [(0, .d (hD nl l)), (1, .d (I' n)), (5, .asl 0 0 acc.length), (6, .d (.b d)), (7, .d (I' pre.length))] [.arrD 1 true (rows1 acc)]) =
      some (.out (.exit 0) [(1, .d (I' n)), (5, .asl 0 0 acc'.length), (6, .d (.b d'))] [.arrD 1 true (rows1 acc')]) := by
  intro suf
  induction suf with
  | nil =>
    intro pre acc d hl ha
    refine ⟨acc, d, ?_, ?_, ?_⟩
    · cases d <;> simp [withF]
    · have : l.length = pre.length := by simp [hl]
      cases d <;> simp at ha <;> omega
    have : l.length = pre.length := by simp [hl]
    rw [ev_loop]
    conv => lhs; arg 4; unfold F_nurseryref17_with_L0
    simp [this, reachC, cut]
  | cons x suf ih =>
    intro pre acc d hl ha
    have hg : l[pre.length]? = some x := by simp [hl]
    have hpl : pre.length < l.length := by simp [hl]
    have hlt : (pre.length : Int) < l.length := by omega
    have hnext : IntKind.i64.wrap ((pre.length : Int) + 1) = pre.length + 1 := wrap_i64 (by omega) (by omega)
    have hal : acc.length ≤ pre.length + 1 := by cases d <;> simp at ha <;> omega
    have r1 : acc.length + 1 ≤ room := by unfold room; omega
    have r2 : acc.length + 1 + 1 ≤ room := by unfold room; omega
    cases hd : (!d && decide (n < x))
    · obtain ⟨acc', d', k1, k2, k3⟩ := ih (pre ++ [x]) (acc ++ [x]) d (by simp [hl]) (by cases d <;> simp at ha ⊢ <;> omega)
      refine ⟨acc', d', ?_, k2, ?_⟩
      · rw [k1]; simp [withF, hd]
      · simp at k3
        rw [ev_loop]
        conv => lhs; arg 4; unfold F_nurseryref17_with_L0
        cases d
        · simp at hd
          have hd2 : ¬ n < x := by omega
          simp [hlt, hg, hd2, hnext, r1, reachC, cut, Nat.not_succ_le_self, take_map_len, take_snoc]
          exact k3
        · simp [hlt, hg, hnext, r1, reachC, cut, Nat.not_succ_le_self, take_map_len, take_snoc]
          exact k3
    · have hd0 : d = false := by cases d; rfl; simp at hd
      subst hd0
      have hlt2 : n < x := by simpa using hd
      simp at ha
      obtain ⟨acc', d', k1, k2, k3⟩ := ih (pre ++ [x]) (acc ++ [n, x]) true (by simp [hl]) (by simp; omega)
      refine ⟨acc', d', ?_, k2, ?_⟩
      · rw [k1]; simp [withF, hlt2]
      · simp at k3
        rw [ev_loop]
        conv => lhs; arg 4; unfold F_nurseryref17_with_L0
        simp [hlt, hg, hlt2, hnext, r1, r2, reachC, cut, Nat.not_succ_le_self, take_map_len, take_snoc_map]
        exact k3
theorem ev_with (nl : Bool) (l : List Int) (n : Int) (hn : l.length ≤ 100000) :
    ev P (.call nurseryref17_with [.d (hD nl l), .d (I' n)] []) = some (.val (.d (hD false (withF n false l))) []) := by
  obtain ⟨acc', d', k1, k2, k3⟩ := loop_with nl l n hn l [] [] false rfl (by simp)
  simp at k1 k3
  rw [← k1]
  have r1 : acc'.length + 1 ≤ room := by unfold room; omega
  rw [ev_call P_nurseryref17_with rfl]
  cases d'
  · simp [F_nurseryref17_with, mkRows, allDs, k3, reachC, cut, r1, Nat.not_succ_le_self, take_map_len, take_snoc_map]
  · simp [F_nurseryref17_with, mkRows, allDs, k3, reachC, cut, take_map_len]
theorem with_ins (n : Int) : ∀ {l : List Int}, Asc l → n ∉ l → withF n false l = insI n l
  | [], _, _ => by simp [withF, insI, bI]
  | x :: r, h, hm => by
    have h' := List.pairwise_cons.1 h
    have hne : n ≠ x := fun e => hm (by simp [e])
    by_cases hx : n < x
    · have e : bI n (x :: r) = 0 := by
        have : ¬ x < n := by omega
        simp [bI, List.takeWhile_cons, this]
      simp [withF, hx, withF_true, insI, e]
    · have hx2 : x < n := by omega
      have e : bI n (x :: r) = bI n r + 1 := by simp [bI, List.takeWhile_cons, hx2]
      have ih := with_ins n h'.2 (fun h => hm (by simp [h]))
      simp [withF, hx, ih, insI, e]
theorem loop_without (nl : Bool) (l : List Int) (n : Int) (hn : l.length ≤ 100000) : ∀ (suf pre : List Int), l = pre ++ suf →
    ev P (.loop 0 [0, 1, 5, 6] F_nurseryref17_without_L0 [(0, .d (hD nl l)), (1, .d (I' n)), (5, .asl 0 0 (pre.filter fun x => x != n).length), (6, .d (I' pre.length))] [.arrD 1 true (rows1 (pre.filter fun x => x != n))]) =
      some (.out (.exit 0) [(5, .asl 0 0 (l.filter fun x => x != n).length)] [.arrD 1 true (rows1 (l.filter fun x => x != n))]) := by
  intro suf
  induction suf with
  | nil =>
    intro pre hl
    have hlp : l = pre := by simp [hl]
    subst hlp
    rw [ev_loop]
    conv => lhs; arg 4; unfold F_nurseryref17_without_L0
    simp [reachC, cut]
  | cons x suf ih =>
    intro pre hl
    have hg : l[pre.length]? = some x := by simp [hl]
    have hpl : pre.length < l.length := by simp [hl]
    have hlt : (pre.length : Int) < l.length := by omega
    have hnext : IntKind.i64.wrap ((pre.length : Int) + 1) = pre.length + 1 := wrap_i64 (by omega) (by omega)
    have ih' := ih (pre ++ [x]) (by simp [hl])
    have hfl : (pre.filter fun x => x != n).length ≤ pre.length := List.length_filter_le _ _
    have r1 : (pre.filter fun x => x != n).length + 1 ≤ room := by unfold room; omega
    have happ : ((pre ++ [x]).filter fun x => x != n) = (pre.filter fun x => x != n) ++ (if x = n then [] else [x]) := by
      rw [List.filter_append]
      congr 1
      by_cases h : x = n <;> simp [h]
    rw [happ] at ih'
    generalize (pre.filter fun x => x != n) = fl at *
    rw [ev_loop]
    conv => lhs; arg 4; unfold F_nurseryref17_without_L0
    by_cases hx : x = n
    · simp [hx] at ih'
      simp [hlt, hg, hx, hnext, reachC, cut]
      exact ih'
    · have hx2 : (x != n) = true := by simpa using hx
      simp [hx] at ih'
      simp [hlt, hg, hx2, hnext, r1, reachC, cut, Nat.not_succ_le_self, take_map_len]
      exact ih'
theorem ev_without (nl : Bool) (l : List Int) (n : Int) (hn : l.length ≤ 100000) :
    ev P (.call nurseryref17_without [.d (hD nl l), .d (I' n)] []) = some (.val (.d (hD false (l.filter fun x => x != n))) []) := by
  have hl := loop_without nl l n hn l [] rfl
  simp at hl
  rw [ev_call P_nurseryref17_without rfl]
  simp [F_nurseryref17_without, mkRows, allDs, hl, reachC, cut, take_map_len]
theorem loop_rRemove (nl : Bool) (l : List W) (t : Int) (hn : l.length ≤ 1000000) : ∀ (suf pre : List W), l = pre ++ suf →
    ev P (.loop 0 [0, 1, 5, 6] F_nurseryref07_Remove_L0 [(0, .d (qD nl l)), (1, .d (I' t)), (5, .asl 0 0 (pre.filter fun w => w.task != t).length), (6, .d (I' pre.length))] [.arrD 5 true ((pre.filter fun w => w.task != t).map W.row)]) =
      some (.out (.exit 0) [(5, .asl 0 0 (l.filter fun w => w.task != t).length)] [.arrD 5 true ((l.filter fun w => w.task != t).map W.row)]) := by
  intro suf
  induction suf with
  | nil =>
    intro pre hl
    have hlp : l = pre := by simp [hl]
    subst hlp
    rw [ev_loop]
    conv => lhs; arg 4; unfold F_nurseryref07_Remove_L0
    simp [reachC, cut]
  | cons w suf ih =>
    intro pre hl
    have hg : l[pre.length]? = some w := by simp [hl]
    have hlt : (pre.length : Int) < l.length := by simp [hl]; omega
    have hnext : IntKind.i64.wrap ((pre.length : Int) + 1) = pre.length + 1 := wrap_i64 (by omega) (by omega)
    have ih' := ih (pre ++ [w]) (by simp [hl])
    have hrl : (pre.filter fun w => w.task != t).length < 1000000 := by
      have h1 : (pre.filter fun w => w.task != t).length ≤ pre.length := List.length_filter_le _ _
      have h2 : pre.length < l.length := by simp [hl]
      omega
    have hr : (pre.filter fun w => w.task != t).length + 1 ≤ room := by unfold room; omega
    generalize hf : (pre.filter fun w => w.task != t) = fl at *
    simp [hf] at ih'
    rw [ev_loop]
    conv => lhs; arg 4; unfold F_nurseryref07_Remove_L0
    by_cases hw : w.task = t
    · simp [hw] at ih'
      simp [hlt, hg, W.row, hw, hnext, reachC, cut]
      exact ih'
    · have hw2 : (w.task != t) = true := by simpa using hw
      simp [hw2] at ih'
      simp [hlt, hg, W.row, hw2, hnext, reachC, cut, hr, Nat.not_succ_le_self, overlay, take_map_len]
      exact ih'
theorem ev_rRemove (nl : Bool) (l : List W) (t : Int) (hn : l.length ≤ 1000000) :
    ev P (.call nurseryref07_Remove [.d (qD nl l), .d (I' t)] []) = some (.val (.d (qD false (l.filter fun w => w.task != t))) []) := by
  rw [ev_call P_nurseryref07_Remove rfl]
  have hl := loop_rRemove nl l t hn l [] rfl
  simp at hl
  simp [F_nurseryref07_Remove, mkRows, reachC, cut, hl, allDs, take_map_len]
end Go.VS.R
namespace Go.VS.R
theorem ev_vainR (own : Int) (c1 c2 c5 c6 c7 c8 : D) (hn : Bool) (H : List Int) (Q : List W) :
    ev P (.call nurseryref17_vain [.ag [.d (I' own), .d c1, .d c2, .d (hD hn H), .asl 0 0 Q.length, .d c5, .d c6, .d c7, .d c8]] [.arrD 5 true (Q.map W.row)]) = some (.val (.d (.b (vainB own H Q))) [.arrD 5 true (Q.map W.row)]) := by
  rw [ev_call P_nurseryref17_vain rfl]
  cases Q with
  | nil => simp [F_nurseryref17_vain, mkRows, allDs, vainB, endH, reachC, cut, rg2, rg3]
  | cons w r =>
    have z2 : ((r.length : Int) + 1 == 0) = false := by simp; omega
    by_cases h : w.op = 53
    · simp [F_nurseryref17_vain, mkRows, allDs, vainB, endH, reachC, cut, rg2, rg3, z2, h, W.row]
    · have h2 : (w.op == 53) = false := by simpa using h
      cases H with
      | nil => simp [F_nurseryref17_vain, mkRows, allDs, vainB, endH, reachC, cut, rg2, rg3, z2, h, h2, W.row]
      | cons a l =>
        have z3 : ((l.length : Int) + 1 == 0) = false := by simp; omega
        simp [F_nurseryref17_vain, mkRows, allDs, vainB, endH, reachC, cut, rg2, rg3, z2, z3, h, h2, W.row]
/-- what is left when those who can go on have gone on: the owner, the holders, the queue, those who are woken -/
def srv : Int → List Int → List W → Int × List Int × List W × List W
  | own, H, [] => (own, H, [], [])
  | own, H, w :: r =>
    if vainB own H (w :: r) = true then
      (if w.op = 53 then let x := srv own (withF w.task false H) r; (x.1, x.2.1, x.2.2.1, w :: x.2.2.2)
       else let x := srv w.task H r; (x.1, x.2.1, x.2.2.1, w :: x.2.2.2))
    else (own, H, w :: r, [])
/-- whether a list of numbers was made -/
def srvN : Bool → Int → List Int → List W → Bool
  | hn, _, _, [] => hn
  | hn, own, H, w :: r => if vainB own H (w :: r) = true then (if w.op = 53 then srvN false own (withF w.task false H) r else srvN hn w.task H r) else hn
def z13 : List D := [I' 0, I' 0, I' 0, hD true [], qD true [], hD true [], cD true [], .b false, I' 0, .b false, I' 0, .b false, .sl 5 true []]
def heapR (z : Z) (own : Int) (hn : Bool) (H : List Int) (Q : List W) (k : List (List D)) : List O :=
  [.arrV 9 [[.d (I' own), .d z.c1, .d z.c2, .d (hD hn H), .asl 3 0 Q.length, .d z.c5, .d z.c6, .d z.c7, .d z.c8]], .arrD 13 true [z13],
   .arrV 13 [[.d (I' 0), .d (I' 0), .d (I' 0), .d (.sl 1 true []), .d (.sl 5 true []), .d (.sl 1 true []), .d (.sl 2 true []), .d (.b false), .d (I' 0), .d (.b false), .d (I' 0), .d (.b false), .asl 4 0 k.length]],
   .arrD 5 true (Q.map W.row), .arrD 5 true k]
theorem withF_len (n : Int) : ∀ (d : Bool) (l : List Int), (withF n d l).length ≤ l.length + 1
  | d, [] => by cases d <;> simp [withF]
  | d, x :: r => by
    have h1 := withF_len n true r
    have h2 := withF_len n d r
    unfold withF
    split
    · rw [withF_true]; simp
    · simp; omega
theorem loop_rserve (z : Z) : ∀ (Q : List W) (own : Int) (hn : Bool) (H : List Int) (k : List (List D)), H.length + Q.length ≤ 10000 → k.length + Q.length ≤ 10000 → k ≠ [] →
    ev P (.loop 0 [1, 2, 3] F_nurseryref17_serve_L0 [(1, .loc 0 0 0), (2, .loc 1 0 0), (3, .loc 2 0 0)] (heapR z own hn H Q k)) =
      some (.out (.exit 0) [(1, .loc 0 0 0), (2, .loc 1 0 0), (3, .loc 2 0 0)] (heapR z (srv own H Q).1 (srvN hn own H Q) (srv own H Q).2.1 (srv own H Q).2.2.1 (k ++ (srv own H Q).2.2.2.map wk))) := by
  intro Q
  induction Q with
  | nil =>
    intro own hn H k h1 h2 h3
    have hV := ev_vainR own z.c1 z.c2 z.c5 z.c6 z.c7 z.c8 hn H []
    simp [vainB] at hV
    rw [ev_loop]
    conv => lhs; arg 4; unfold F_nurseryref17_serve_L0
    simp [heapR, z13, srv, srvN, callR, hV, reachC, cut, rg2, rg3, rg4, rg5, List.idxOf_cons, sub, setAll, back]
  | cons w r ih =>
    intro own hn H k h1 h2 h3
    have hV := ev_vainR own z.c1 z.c2 z.c5 z.c6 z.c7 z.c8 hn H (w :: r)
    have hkr : k.length + 1 ≤ room := by simp at h2; unfold room; omega
    have hrr : r.length ≤ room := by simp at h2; unfold room; omega
    cases hv : vainB own H (w :: r)
    · have e1 : srv own H (w :: r) = (own, H, w :: r, []) := by simp [srv, hv]
      have e2 : srvN hn own H (w :: r) = hn := by simp [srvN, hv]
      rw [e1, e2]
      rw [hv] at hV
      simp at hV
      rw [ev_loop]
      conv => lhs; arg 4; unfold F_nurseryref17_serve_L0
      simp [heapR, z13, callR, hV, reachC, cut, rg2, rg3, rg4, rg5, List.idxOf_cons, sub, setAll, back]
    · rw [hv] at hV
      by_cases h53 : w.op = 53
      · have e1 : srv own H (w :: r) = ((srv own (withF w.task false H) r).1, (srv own (withF w.task false H) r).2.1, (srv own (withF w.task false H) r).2.2.1, w :: (srv own (withF w.task false H) r).2.2.2) := by simp [srv, hv, h53]
        have e2 : srvN hn own H (w :: r) = srvN false own (withF w.task false H) r := by simp [srvN, hv, h53]
        rw [e1, e2]
        have hwl := withF_len w.task false H
        have ih' := ih own false (withF w.task false H) (k ++ [wk w]) (by simp at h1; omega) (by simp at h2 ⊢; omega) (by simp)
        have e3 : k ++ (w :: (srv own (withF w.task false H) r).2.2.2).map wk = k ++ [wk w] ++ (srv own (withF w.task false H) r).2.2.2.map wk := by simp
        have hWi := ev_with hn H w.task (by simp at h1; omega)
        generalize withF w.task false H = H2 at *
        simp only at *
        rw [e3]
        generalize some (Res.out (Ex.exit 0) [(1, V.loc 0 0 0), (2, V.loc 1 0 0), (3, V.loc 2 0 0)] (heapR z (srv own H2 r).1 (srvN false own H2 r) (srv own H2 r).2.1 (srv own H2 r).2.2.1 (k ++ [wk w] ++ (srv own H2 r).2.2.2.map wk))) = RR at *
        simp [heapR, z13, wk, h53] at ih'
        simp [W.row, h53] at hV
        cases r with
        | nil =>
          simp [W.row] at hV ih'
          rw [ev_loop]
          conv => lhs; arg 4; unfold F_nurseryref17_serve_L0
          simp [heapR, z13, callR, hV, h53, hWi, W.row, mkRows, allDs, hkr, Nat.not_succ_le_self, take_snoc, reachC, cut, rg2, rg3, rg4, rg5, List.idxOf_cons, sub, setAll, back, overlay]
          exact ih'
        | cons w2 r =>
          have q0 : (0 : Int) < r.length + 1 + 1 := by omega
          have q6 : 1 + (r.length + 1) ≤ r.length + 1 + 1 := by omega
          have q1 : (1 : Int) ≤ r.length + 1 + 1 := by omega
          have q2 : (1 : Int) < r.length + 1 + 1 := by omega
          have q4 : ((r.length : Int) + 1 + 1 - 1).toNat = r.length + 1 := by omega
          have q5 : r.length + 1 ≤ room := by simpa using hrr
          simp [W.row] at hV ih'
          rw [ev_loop]
          conv => lhs; arg 4; unfold F_nurseryref17_serve_L0
          simp [heapR, z13, callR, hV, h53, hWi, W.row, mkRows, allDs, hkr, q0, q6, q1, q2, q4, q5, Nat.not_succ_le_self, take_snoc, take_map_len, reachC, cut, rg2, rg3, rg4, rg5, List.idxOf_cons, sub, setAll, back, overlay]
          exact ih'
      · have e1 : srv own H (w :: r) = ((srv w.task H r).1, (srv w.task H r).2.1, (srv w.task H r).2.2.1, w :: (srv w.task H r).2.2.2) := by simp [srv, hv, h53]
        have e2 : srvN hn own H (w :: r) = srvN hn w.task H r := by simp [srvN, hv, h53]
        rw [e1, e2]
        have ih' := ih w.task hn H (k ++ [wk w]) (by simp at h1; omega) (by simp at h2 ⊢; omega) (by simp)
        have e3 : k ++ (w :: (srv w.task H r).2.2.2).map wk = k ++ [wk w] ++ (srv w.task H r).2.2.2.map wk := by simp
        have h532 : (w.op == 53) = false := by simpa using h53
        simp only at *
        rw [e3]
        generalize some (Res.out (Ex.exit 0) [(1, V.loc 0 0 0), (2, V.loc 1 0 0), (3, V.loc 2 0 0)] (heapR z (srv w.task H r).1 (srvN hn w.task H r) (srv w.task H r).2.1 (srv w.task H r).2.2.1 (k ++ [wk w] ++ (srv w.task H r).2.2.2.map wk))) = RR at *
        simp [heapR, z13, wk] at ih'
        simp [W.row] at hV
        cases r with
        | nil =>
          simp [W.row] at hV ih'
          rw [ev_loop]
          conv => lhs; arg 4; unfold F_nurseryref17_serve_L0
          simp [heapR, z13, callR, hV, h532, W.row, mkRows, allDs, hkr, Nat.not_succ_le_self, take_snoc, reachC, cut, rg2, rg3, rg4, rg5, List.idxOf_cons, sub, setAll, back, overlay]
          exact ih'
        | cons w2 r =>
          have q0 : (0 : Int) < r.length + 1 + 1 := by omega
          have q6 : 1 + (r.length + 1) ≤ r.length + 1 + 1 := by omega
          have q1 : (1 : Int) ≤ r.length + 1 + 1 := by omega
          have q2 : (1 : Int) < r.length + 1 + 1 := by omega
          have q4 : ((r.length : Int) + 1 + 1 - 1).toNat = r.length + 1 := by omega
          have q5 : r.length + 1 ≤ room := by simpa using hrr
          simp [W.row] at hV ih'
          rw [ev_loop]
          conv => lhs; arg 4; unfold F_nurseryref17_serve_L0
          simp [heapR, z13, callR, hV, h532, W.row, mkRows, allDs, hkr, q0, q6, q1, q2, q4, q5, Nat.not_succ_le_self, take_snoc, take_map_len, reachC, cut, rg2, rg3, rg4, rg5, List.idxOf_cons, sub, setAll, back, overlay]
          exact ih'
abbrev rpD (z : Z) (own : Int) (hn : Bool) (H : List Int) (qn : Bool) (Q : List W) (parked : Bool) (ok : Bool) (kn : Bool) (k : List (List D)) : D :=
  .ag [I' own, z.c1, z.c2, hD hn H, qD qn Q, z.c5, z.c6, z.c7, z.c8, .b parked, I' 0, .b ok, .sl 5 kn k]
theorem ev_rserve (z : Z) (own : Int) (hn : Bool) (H : List Int) (qn : Bool) (Q : List W) (h1 : H.length + Q.length ≤ 1000) :
    ∃ qn' kn', (qn' = true → qn = true) ∧ ev P (.call nurseryref17_serve [.d (.ag [I' own, z.c1, z.c2, hD hn H, qD qn Q, z.c5, z.c6, z.c7, z.c8])] []) =
      some (.val (.d (rpD z (srv own H Q).1 (srvN hn own H Q) (srv own H Q).2.1 qn' (srv own H Q).2.2.1 false false kn' ((srv own H Q).2.2.2.map wk))) []) := by
  have hV := ev_vain own z.c1 z.c2 z.c5 z.c6 z.c7 z.c8 hn H qn Q
  cases hv : vainB own H Q
  · refine ⟨qn, true, id, ?_⟩
    have e1 : srv own H Q = (own, H, Q, []) := by cases Q with
      | nil => rfl
      | cons w r => simp [srv, hv]
    have e2 : srvN hn own H Q = hn := by cases Q with
      | nil => rfl
      | cons w r => simp [srvN, hv]
    rw [e1, e2]
    rw [hv] at hV
    rw [ev_call P_nurseryref17_serve rfl]
    have hL : ev P (.loop 0 [1, 2, 3] F_nurseryref17_serve_L0 [(1, .loc 0 0 0), (2, .loc 1 0 0), (3, .loc 2 0 0)] [.arrD 9 true [[I' own, z.c1, z.c2, hD hn H, qD qn Q, z.c5, z.c6, z.c7, z.c8]], .arrD 13 true [[I' 0, I' 0, I' 0, .sl 1 true [], .sl 5 true [], .sl 1 true [], .sl 2 true [], .b false, I' 0, .b false, I' 0, .b false, .sl 5 true []]], .arrD 13 true [[I' 0, I' 0, I' 0, .sl 1 true [], .sl 5 true [], .sl 1 true [], .sl 2 true [], .b false, I' 0, .b false, I' 0, .b false, .sl 5 true []]]]) =
        some (.out (.exit 0) [(1, .loc 0 0 0), (2, .loc 1 0 0), (3, .loc 2 0 0)] [.arrD 9 true [[I' own, z.c1, z.c2, hD hn H, qD qn Q, z.c5, z.c6, z.c7, z.c8]], .arrD 13 true [[I' 0, I' 0, I' 0, .sl 1 true [], .sl 5 true [], .sl 1 true [], .sl 2 true [], .b false, I' 0, .b false, I' 0, .b false, .sl 5 true []]], .arrD 13 true [[I' 0, I' 0, I' 0, .sl 1 true [], .sl 5 true [], .sl 1 true [], .sl 2 true [], .b false, I' 0, .b false, I' 0, .b false, .sl 5 true []]]]) := by
      rw [ev_loop]
      conv => lhs; arg 4; unfold F_nurseryref17_serve_L0
      simp [callR, hV, reachC, cut, rg2, rg3, rg4, rg5, List.idxOf_cons, sub, setAll, back]
    simp [F_nurseryref17_serve, mkRows, allDs, hL, overlay, reachC, cut, rg2, rg3, rg4, rg5, List.idxOf_cons]
    done
  · cases Q with
    | nil => simp [vainB] at hv
    | cons w r =>
      have hrr : r.length ≤ room := by simp at h1; unfold room; omega
      have r1 : 1 ≤ room := by decide
      -- the first round
      obtain ⟨own2, hn2, H2, hH2, e1, e2, hL⟩ : ∃ (own2 : Int) (hn2 : Bool) (H2 : List Int), H2.length ≤ H.length + 1 ∧ srv own H (w :: r) = ((srv own2 H2 r).1, (srv own2 H2 r).2.1, (srv own2 H2 r).2.2.1, w :: (srv own2 H2 r).2.2.2) ∧ srvN hn own H (w :: r) = srvN hn2 own2 H2 r ∧
          ev P (.loop 0 [1, 2, 3] F_nurseryref17_serve_L0 [(1, .loc 0 0 0), (2, .loc 1 0 0), (3, .loc 2 0 0)] [.arrD 9 true [[I' own, z.c1, z.c2, hD hn H, qD qn (w :: r), z.c5, z.c6, z.c7, z.c8]], .arrD 13 true [[I' 0, I' 0, I' 0, .sl 1 true [], .sl 5 true [], .sl 1 true [], .sl 2 true [], .b false, I' 0, .b false, I' 0, .b false, .sl 5 true []]], .arrD 13 true [[I' 0, I' 0, I' 0, .sl 1 true [], .sl 5 true [], .sl 1 true [], .sl 2 true [], .b false, I' 0, .b false, I' 0, .b false, .sl 5 true []]]]) =
          ev P (.loop 0 [1, 2, 3] F_nurseryref17_serve_L0 [(1, .loc 0 0 0), (2, .loc 1 0 0), (3, .loc 2 0 0)] (heapR z own2 hn2 H2 r [wk w])) := by
        rw [hv] at hV
        by_cases h53 : w.op = 53
        · have hWi := ev_with hn H w.task (by simp at h1; omega)
          refine ⟨own, false, withF w.task false H, withF_len _ _ _, by simp [srv, hv, h53], by simp [srvN, hv, h53], ?_⟩
          conv => lhs; rw [ev_loop]
          conv => lhs; arg 4; unfold F_nurseryref17_serve_L0
          generalize withF w.task false H = H2 at *
          cases r with
          | nil =>
            simp [heapR, z13, callR, hV, h53, hWi, W.row, wk, mkRows, allDs, r1, Nat.not_succ_le_self, take_snoc, reachC, cut, rg2, rg3, rg4, rg5, List.idxOf_cons, sub, setAll, back, overlay]
            rfl
          | cons w2 r =>
            have q0 : (0 : Int) < r.length + 1 + 1 := by omega
            have q1 : (1 : Int) ≤ r.length + 1 + 1 := by omega
            have q5 : r.length + 1 ≤ room := by simpa using hrr
            have q7 : ((r.length : Int) + 1 + 1).toNat = r.length + 1 + 1 := by omega
            have q8 : (r.length : Int) + 1 ≤ (room : Int) := by omega
            simp [heapR, z13, callR, hV, h53, hWi, W.row, wk, mkRows, allDs, r1, q0, q1, q5, q7, q8, Nat.not_succ_le_self, take_snoc, take_map_len, reachC, cut, rg2, rg3, rg4, rg5, List.idxOf_cons, sub, setAll, back, overlay]
            rfl
        · have h532 : (w.op == 53) = false := by simpa using h53
          refine ⟨w.task, hn, H, by omega, by simp [srv, hv, h53], by simp [srvN, hv, h53], ?_⟩
          conv => lhs; rw [ev_loop]
          conv => lhs; arg 4; unfold F_nurseryref17_serve_L0
          cases r with
          | nil =>
            simp [heapR, z13, callR, hV, h532, W.row, wk, mkRows, allDs, r1, Nat.not_succ_le_self, take_snoc, reachC, cut, rg2, rg3, rg4, rg5, List.idxOf_cons, sub, setAll, back, overlay]
            rfl
          | cons w2 r =>
            have q0 : (0 : Int) < r.length + 1 + 1 := by omega
            have q1 : (1 : Int) ≤ r.length + 1 + 1 := by omega
            have q5 : r.length + 1 ≤ room := by simpa using hrr
            have q7 : ((r.length : Int) + 1 + 1).toNat = r.length + 1 + 1 := by omega
            have q8 : (r.length : Int) + 1 ≤ (room : Int) := by omega
            simp [heapR, z13, callR, hV, h532, W.row, wk, mkRows, allDs, r1, q0, q1, q5, q7, q8, Nat.not_succ_le_self, take_snoc, take_map_len, reachC, cut, rg2, rg3, rg4, rg5, List.idxOf_cons, sub, setAll, back, overlay]
            rfl
      refine ⟨false, false, by simp, ?_⟩
      rw [e1, e2]
      have hG := loop_rserve z r own2 hn2 H2 [wk w] (by simp at h1; omega) (by simp at h1 ⊢; omega) (by simp)
      rw [hG] at hL
      generalize (srv own2 H2 r).1 = o3 at *
      generalize (srv own2 H2 r).2.1 = H3 at *
      generalize (srv own2 H2 r).2.2.1 = Q3 at *
      generalize (srv own2 H2 r).2.2.2 = k3 at *
      generalize srvN hn2 own2 H2 r = n3 at *
      simp [heapR, z13] at hL
      rw [ev_call P_nurseryref17_serve rfl]
      simp [F_nurseryref17_serve, mkRows, allDs, hL, overlay, reachC, cut, rg2, rg3, rg4, rg5, List.idxOf_cons, take_map_len]
end Go.VS.R
