import Derived.Test.YtifnkfombicejaaV06
set_option linter.all false
namespace Go.VS.Tp
abbrev I' (n : Int) : D := .i .i64 n
structure W where
  task : Int
  op : Int
  value : Int
  prio : Int
  case : Int
  deriving DecidableEq
@[simp] theorem W.eta (w : W) : W.mk w.task w.op w.value w.prio w.case = w := rfl
def W.row (w : W) : List D := [I' w.task, I' w.op, I' w.value, I' w.prio, I' w.case]
def wbad (w : W) : Bool := (decide (w.task < 0) || decide (16 ≤ w.task) || decide (w.op < 1) || decide (99 < w.op) || decide (w.value < -1099511627776) || decide (1099511627776 < w.value))
def wvalid (w : W) : Bool := !wbad w && (decide (0 ≤ w.prio) && decide (w.prio ≤ 9) && decide (-1 ≤ w.case) && decide (w.case < 6))
theorem ev_wvalid (a b c d e : Int) : ev P (.call waitlist_valid [.d (.ag [I' a, I' b, I' c, I' d, I' e])] []) = some (.val (.d (.b (wvalid ⟨a, b, c, d, e⟩))) []) := by
  rw [ev_call P_waitlist_valid rfl]
  cases h : wbad ⟨a, b, c, d, e⟩ <;> simp only [wvalid, h] <;> unfold wbad at h <;> simp [F_waitlist_valid, W.row, h]
def wcheckFrom (d : Int) (prev : Option W) : List W → Int
  | [] => 0
  | w :: r => if wvalid w = false then 2 else if d = 2 ∧ (prev.any fun p => decide (p.prio < w.prio)) = true then 9 else wcheckFrom d (some w) r
theorem getElem?_snoc_prev {α : Type} {pre suf : List α} {w : α} : (pre ++ w :: suf)[pre.length]? = some w := by simp
theorem wrap1 : IntKind.i64.wrap 1 = 1 := by decide
theorem loop_wcheck (d : Int) (nl : Bool) (l : List W) (hn : l.length ≤ 96) : ∀ (suf pre : List W), l = pre ++ suf →
    ev P (.loop 0 [0, 1, 16, 17, 18] F_waitlist_Check_L0 [(0, .d (I' d)), (1, .d (.sl 5 nl (l.map W.row))), (16, .d (.sl 5 nl (l.map W.row))), (17, .d (I' l.length)), (18, .d (I' pre.length))] []) =
      if wcheckFrom d pre.getLast? suf = 0 then some (.out (.exit 0) [] []) else some (.out .ret [(4, .d (I' (wcheckFrom d pre.getLast? suf)))] []) := by
  intro suf
  induction suf with
  | nil =>
    intro pre hl
    have : l.length = pre.length := by simp [hl]
    rw [ev_loop]
    conv => lhs; arg 4; unfold F_waitlist_Check_L0
    simp [this, wcheckFrom]
  | cons w suf ih =>
    intro pre hl
    have hg : l[pre.length]? = some w := by simp [hl]
    have hlt : (pre.length : Int) < l.length := by simp [hl]; omega
    rw [ev_loop]
    conv => lhs; arg 4; unfold F_waitlist_Check_L0
    simp [hlt, hg, W.row, ev_wvalid]
    cases hv : wvalid w
    · simp [wcheckFrom, hv]
    · simp
      have hnext : IntKind.i64.wrap ((pre.length : Int) + 1) = pre.length + 1 := wrap_i64 (by omega) (by omega)
      have ih' := ih (pre ++ [w]) (by simp [hl])
      simp at ih'
      rcases List.eq_nil_or_concat pre with rfl | ⟨pre', p, rfl⟩
      · simp [wcheckFrom, hv, wrap1] at *
        exact ih'
      · have hgp : l[pre'.length]? = some p := by simp [hl]
        have hlen : ((pre'.length : Int) + 1 < l.length) := by simp [hl]; omega
        have hw : IntKind.i64.wrap ((pre'.length : Int) + 1 - 1) = pre'.length := by rw [wrap_i64 (by omega) (by omega)]; omega
        have h0 : (0 : Int) < pre'.length + 1 := by omega
        have hw2 : IntKind.i64.wrap (pre'.length : Int) = pre'.length := wrap_i64 (by omega) (by omega)
        have hw3 : IntKind.i64.wrap ((pre'.length : Int) + 1 + 1) = pre'.length + 1 + 1 := wrap_i64 (by omega) (by omega)
        simp at ih'
        by_cases hd : d = 2
        · by_cases hp : p.prio < w.prio
          · subst hd
            simp [wcheckFrom, hv, hp, hw2, hw3, hgp, W.row, h0]
          · subst hd
            simp [wcheckFrom, hv, hp, hw2, hw3, hgp, W.row, h0]
            exact ih'
        · have hd2 : (d == 2) = false := by simp [hd]
          simp [wcheckFrom, hv, hd, hd2, hw2, hw3, hgp, W.row, h0]
          exact ih'
def wchk (l : List W) : Int := if 96 < l.length then 4 else wcheckFrom 1 none l
theorem ev_wCheck (nl : Bool) (l : List W) : ev P (.call waitlist_Check [.d (I' 1), .d (.sl 5 nl (l.map W.row))] []) =
    some (.val (.d (I' (wchk l))) []) := by
  unfold wchk
  rw [ev_call P_waitlist_Check rfl]
  by_cases h : 96 < l.length
  · have h' : (96 : Int) < l.length := by omega
    simp [F_waitlist_Check, h, h']
  · have h' : ¬ (96 : Int) < l.length := by omega
    have hl := loop_wcheck 1 nl l (by omega) l [] rfl
    simp at hl
    simp [F_waitlist_Check, h, h', hl]
    by_cases hc : wcheckFrom 1 none l = 0 <;> simp [hc]
theorem allD_map' : ∀ (ds : List D), allD (ds.map V.d) = some ds
  | [] => rfl
  | d :: ds => by simp [allD_map' ds]
theorem allD_mid {a b : List D} {x : D} : allD (a.map V.d ++ .d x :: b.map V.d) = some (a ++ x :: b) := by
  have := allD_map' (a ++ x :: b)
  simpa using this
def idx {α : Type} (p : α → Bool) : Int → List α → Int
  | _, [] => -1
  | k, w :: r => if p w then k else idx p (k + 1) r
theorem loop_IndexFunc {f : Nat} {first caps : List D} {p : W → Bool} (nl : Bool) (l : List W) (hn : l.length ≤ 1000000)
    (hp : ∀ a b c d e, ev P (.call f (first.map V.d ++ [.d (.ag [I' a, I' b, I' c, I' d, I' e])] ++ caps.map V.d) []) = some (.val (.d (.b (p ⟨a, b, c, d, e⟩))) [])) :
    ∀ (suf pre : List W), l = pre ++ suf →
    ev P (.loop 0 [0, 1, 7, 8] F_slices_IndexFunc_api_Waiter_api_Waiter_L0 [(0, .d (.sl 5 nl (l.map W.row))), (1, .d (.fn f first caps)), (7, .d (I' l.length)), (8, .d (I' pre.length))] []) =
      if idx p pre.length suf = -1 then some (.out (.exit 0) [] []) else some (.out .ret [(4, .d (I' (idx p pre.length suf)))] []) := by
  intro suf
  induction suf with
  | nil =>
    intro pre hl
    have : l.length = pre.length := by simp [hl]
    rw [ev_loop]
    conv => lhs; arg 4; unfold F_slices_IndexFunc_api_Waiter_api_Waiter_L0
    simp [this, idx]
  | cons w suf ih =>
    intro pre hl
    have hg : l[pre.length]? = some w := by simp [hl]
    have hlt : (pre.length : Int) < l.length := by simp [hl]; omega
    have hnext : IntKind.i64.wrap ((pre.length : Int) + 1) = pre.length + 1 := wrap_i64 (by omega) (by omega)
    have ih' := ih (pre ++ [w]) (by simp [hl])
    simp at ih' hp
    rw [ev_loop]
    conv => lhs; arg 4; unfold F_slices_IndexFunc_api_Waiter_api_Waiter_L0
    simp [hlt, hg, W.row, hp, allD_mid]
    cases hw : p w
    · simp [idx, hw, hnext]
      exact ih'
    · have : ¬ (pre.length : Int) = -1 := by omega
      simp [idx, hw, this]
theorem ev_IndexFunc {f : Nat} {first caps : List D} {p : W → Bool} (nl : Bool) (l : List W) (hn : l.length ≤ 1000000)
    (hp : ∀ a b c d e, ev P (.call f (first.map V.d ++ [.d (.ag [I' a, I' b, I' c, I' d, I' e])] ++ caps.map V.d) []) = some (.val (.d (.b (p ⟨a, b, c, d, e⟩))) [])) :
    ev P (.call slices_IndexFunc_api_Waiter_api_Waiter [.d (.sl 5 nl (l.map W.row)), .d (.fn f first caps)] []) = some (.val (.d (I' (idx p 0 l))) []) := by
  rw [ev_call P_slices_IndexFunc_api_Waiter_api_Waiter rfl]
  have hl := loop_IndexFunc nl l hn hp l [] rfl
  simp at hl
  simp [F_slices_IndexFunc_api_Waiter_api_Waiter, hl]
  by_cases hc : idx p 0 l = -1 <;> simp [hc]
theorem idx_any {α : Type} {p : α → Bool} : ∀ {l : List α} {k : Int}, 0 ≤ k → (0 ≤ idx p k l ↔ l.any p = true)
  | [], k, _ => by simp [idx]
  | w :: r, k, hk => by
    by_cases hw : p w = true
    · simp [idx, hw, hk]
    · simp [idx, hw, idx_any (l := r) (k := k + 1) (by omega)]
theorem ev_ContainsFunc {f : Nat} {first caps : List D} {p : W → Bool} (nl : Bool) (l : List W) (hn : l.length ≤ 1000000)
    (hp : ∀ a b c d e, ev P (.call f (first.map V.d ++ [.d (.ag [I' a, I' b, I' c, I' d, I' e])] ++ caps.map V.d) []) = some (.val (.d (.b (p ⟨a, b, c, d, e⟩))) [])) :
    ev P (.call slices_ContainsFunc_api_Waiter_api_Waiter [.d (.sl 5 nl (l.map W.row)), .d (.fn f first caps)] []) = some (.val (.d (.b (l.any p))) []) := by
  rw [ev_call P_slices_ContainsFunc_api_Waiter_api_Waiter rfl]
  have hi := ev_IndexFunc nl l hn hp
  simp [F_slices_ContainsFunc_api_Waiter_api_Waiter, hi]
  have := idx_any (p := p) (l := l) (k := 0) (by omega)
  cases ha : l.any p
  · have hc : ¬ 0 ≤ idx p 0 l := fun h => by rw [this.1 h] at ha; cases ha
    simp [hc]
  · have hc : 0 ≤ idx p 0 l := this.2 ha
    simp [hc]
theorem ev_RemoveC1 (t a b c d e : Int) : ev P (.call waitlist_RemoveC1 [.d (.ag [I' a, I' b, I' c, I' d, I' e]), .d (.ref [I' t])] []) = some (.val (.d (.b (a != t))) []) := by
  rw [ev_call P_waitlist_RemoveC1 rfl]
  simp [F_waitlist_RemoveC1]
abbrev rows1 (l : List Int) : List (List D) := l.map fun x => [I' x]
abbrev hD (n : Bool) (l : List Int) : D := .sl 1 n (rows1 l)
abbrev qD (n : Bool) (l : List W) : D := .sl 5 n (l.map W.row)
def accV (es : Nat) (z : V) : List (List D) → V
  | [] => z
  | r :: rs => .asl 0 0 (r :: rs).length
def accH (es : Nat) : List (List D) → List O
  | [] => []
  | r :: rs => [.arrD es true (r :: rs)]
theorem take_map_len {α β : Type} {f : α → β} {r : List α} : List.take r.length (r.map f) = r.map f := List.take_of_length_le (by simp)
theorem drop_map_len {α β : Type} {f : α → β} {r : List α} : List.drop (r.length + 1) (r.map f) = [] := List.drop_eq_nil_of_le (by simp)
theorem loop_filter {f : Nat} {first caps : List D} {p : W → Bool} (nl : Bool) (l : List W) (hn : l.length ≤ 1000000)
    (hp : ∀ a b c d e, ev P (.call f (first.map V.d ++ [.d (.ag [I' a, I' b, I' c, I' d, I' e])] ++ caps.map V.d) []) = some (.val (.d (.b (p ⟨a, b, c, d, e⟩))) []))
    (R : Option Res) (hR : R = some (.out (.exit 0) [(5, accV 5 (.d (.sl 5 true [])) ((l.filter p).map W.row))] (accH 5 ((l.filter p).map W.row)))) :
    ∀ (suf pre : List W), l = pre ++ suf →
    ev P (.loop 0 [1, 5, 8, 9, 10] F_waitlist_filter_L0 [(1, .d (.fn f first caps)), (5, accV 5 (.d (.sl 5 true [])) ((pre.filter p).map W.row)), (8, .d (.sl 5 nl (l.map W.row))), (9, .d (I' l.length)), (10, .d (I' pre.length))] (accH 5 ((pre.filter p).map W.row))) = R := by
  intro suf
  induction suf with
  | nil =>
    intro pre hl
    have hlp : l = pre := by simp [hl]
    subst hlp
    rw [ev_loop, hR]
    conv => lhs; arg 4; unfold F_waitlist_filter_L0
    cases hf : l.filter p with
    | nil => simp [accV, accH]
    | cons a r => simp [accV, accH, reachC, cut, W.row]
  | cons w suf ih =>
    intro pre hl
    clear hR
    have hg : l[pre.length]? = some w := by simp [hl]
    have hlt : (pre.length : Int) < l.length := by simp [hl]; omega
    have hnext : IntKind.i64.wrap ((pre.length : Int) + 1) = pre.length + 1 := wrap_i64 (by omega) (by omega)
    have ih' := ih (pre ++ [w]) (by simp [hl])
    simp at ih' hp
    rw [ev_loop]
    conv => lhs; arg 4; unfold F_waitlist_filter_L0
    cases hf : pre.filter p with
    | nil =>
      simp [hlt, hg, W.row, hp, allD_mid, accV, accH]
      cases hw : p w
      · simp [hw, hnext, hf, accV, accH, reachC] at ih' ⊢
        exact ih'
      · have hr : 1 ≤ room := by decide
        simp [hw, hnext, hf, hr, accV, accH, reachC, W.row] at ih' ⊢
        exact ih'
    | cons a r =>
      have hrl : r.length < 1000000 := by
        have h1 : (pre.filter p).length ≤ pre.length := List.length_filter_le _ _
        have h2 : pre.length ≤ l.length := by simp [hl]
        rw [hf] at h1; simp at h1; omega
      have hr : r.length + 1 + 1 ≤ room := by unfold room; omega
      simp [hlt, hg, W.row, hp, allD_mid, accV, accH]
      cases hw : p w
      · simp [hw, hnext, hf, accV, accH, reachC, W.row] at ih' ⊢
        exact ih'
      · simp [hw, hnext, hf, hr, accV, accH, reachC, W.row, overlay, take_map_len, drop_map_len, Nat.not_succ_le_self] at ih' ⊢
        exact ih'
def fdS (q : List W) (t : Int) : Int × Bool := match q.findIdx? (fun w => w.task == t) with | some i => (i, true) | none => (0, false)
theorem loop_Find (nl : Bool) (l : List W) (t : Int) (hn : l.length ≤ 1000000) : ∀ (suf pre : List W), l = pre ++ suf →
    ev P (.loop 0 [1, 8, 9, 10] F_waitlist_Find_L0 [(1, .d (I' t)), (8, .d (qD nl l)), (9, .d (I' l.length)), (10, .d (I' pre.length))] []) =
      match suf.findIdx? (fun w => w.task == t) with
      | none => some (.out (.exit 0) [] [])
      | some k => some (.out .ret [(4, .d (I' ((pre.length + k : Nat) : Int))), (5, .d (.b true))] []) := by
  intro suf
  induction suf with
  | nil =>
    intro pre hl
    have : l.length = pre.length := by simp [hl]
    rw [ev_loop]
    conv => lhs; arg 4; unfold F_waitlist_Find_L0
    simp [this]
  | cons w suf ih =>
    intro pre hl
    have hg : l[pre.length]? = some w := by simp [hl]
    have hlt : (pre.length : Int) < l.length := by simp [hl]; omega
    have hnext : IntKind.i64.wrap ((pre.length : Int) + 1) = pre.length + 1 := wrap_i64 (by omega) (by omega)
    have ih' := ih (pre ++ [w]) (by simp [hl])
    simp at ih'
    rw [ev_loop]
    conv => lhs; arg 4; unfold F_waitlist_Find_L0
    rw [List.findIdx?_cons]
    cases hw : w.task == t
    · simp [hlt, hg, W.row, hw, hnext]
      rw [ih']
      cases suf.findIdx? (fun w => w.task == t) with
      | none => rfl
      | some k => simp; omega
    · simp [hlt, hg, W.row, hw]
theorem ev_wFind (nl : Bool) (l : List W) (t : Int) (hn : l.length ≤ 1000000) :
    ev P (.call waitlist_Find [.d (qD nl l), .d (I' t)] []) = some (.val (.tu [.d (I' (fdS l t).1), .d (.b (fdS l t).2)]) []) := by
  rw [ev_call P_waitlist_Find rfl]
  have hl := loop_Find nl l t hn l [] rfl
  simp at hl
  unfold fdS
  cases h : l.findIdx? (fun w => w.task == t) with
  | none => rw [h] at hl; simp [F_waitlist_Find, hl]
  | some k => rw [h] at hl; simp at hl; simp [F_waitlist_Find, hl]
theorem loop_rFind (nl : Bool) (l : List W) (t : Int) (hn : l.length ≤ 1000000) : ∀ (suf pre : List W), l = pre ++ suf →
    ev P (.loop 0 [0, 1, 6] F_nurseryref07_Find_L0 [(0, .d (qD nl l)), (1, .d (I' t)), (6, .d (I' pre.length))] []) =
      match suf.findIdx? (fun w => w.task == t) with
      | none => some (.out (.exit 0) [] [])
      | some k => some (.out .ret [(4, .d (I' ((pre.length + k : Nat) : Int))), (5, .d (.b true))] []) := by
  intro suf
  induction suf with
  | nil =>
    intro pre hl
    have : l.length = pre.length := by simp [hl]
    rw [ev_loop]
    conv => lhs; arg 4; unfold F_nurseryref07_Find_L0
    simp [this]
  | cons w suf ih =>
    intro pre hl
    have hg : l[pre.length]? = some w := by simp [hl]
    have hlt : (pre.length : Int) < l.length := by simp [hl]; omega
    have hnext : IntKind.i64.wrap ((pre.length : Int) + 1) = pre.length + 1 := wrap_i64 (by omega) (by omega)
    have ih' := ih (pre ++ [w]) (by simp [hl])
    simp at ih'
    rw [ev_loop]
    conv => lhs; arg 4; unfold F_nurseryref07_Find_L0
    rw [List.findIdx?_cons]
    cases hw : w.task == t
    · simp [hlt, hg, W.row, hw, hnext]
      rw [ih']
      cases suf.findIdx? (fun w => w.task == t) with
      | none => rfl
      | some k => simp; omega
    · simp [hlt, hg, W.row, hw]
theorem ev_rFind (nl : Bool) (l : List W) (t : Int) (hn : l.length ≤ 1000000) :
    ev P (.call nurseryref07_Find [.d (qD nl l), .d (I' t)] []) = some (.val (.tu [.d (I' (fdS l t).1), .d (.b (fdS l t).2)]) []) := by
  rw [ev_call P_nurseryref07_Find rfl]
  have hl := loop_rFind nl l t hn l [] rfl
  simp at hl
  unfold fdS
  cases h : l.findIdx? (fun w => w.task == t) with
  | none => rw [h] at hl; simp [F_nurseryref07_Find, hl]
  | some k => rw [h] at hl; simp at hl; simp [F_nurseryref07_Find, hl]
theorem fd_any {q : List W} {t : Int} : (fdS q t).2 = q.any fun w => w.task == t := by
  unfold fdS
  cases h : q.findIdx? (fun w => w.task == t) with
  | none =>
    rw [List.findIdx?_eq_none_iff] at h
    symm
    rw [List.any_eq_false]
    intro x hx
    rw [h x hx]; decide
  | some k =>
    symm
    obtain ⟨h1, h2⟩ := List.findIdx?_eq_some_iff_getElem.1 h
    exact List.any_eq_true.2 ⟨_, List.getElem_mem _, h2.1⟩
theorem ev_within (a b c : Int) : ev P (.call nurseryref07_within [.d (I' a), .d (I' b), .d (I' c)] []) = some (.val (.d (.b (decide (b ≤ a) && decide (a ≤ c)))) []) := by
  rw [ev_call P_nurseryref07_within rfl]
  simp [F_nurseryref07_within]
theorem ev_rValid (w : W) : ev P (.call nurseryref07_Valid [.d (.ag [I' w.task, I' w.op, I' w.value, I' w.prio, I' w.case])] []) = some (.val (.d (.b (wvalid w))) []) := by
  have e : wvalid w = (decide (0 ≤ w.task) && decide (w.task ≤ 15) && (decide (1 ≤ w.op) && decide (w.op ≤ 99)) && (decide (-1099511627776 ≤ w.value) && decide (w.value ≤ 1099511627776)) && (decide (0 ≤ w.prio) && decide (w.prio ≤ 9)) && (decide (-1 ≤ w.case) && decide (w.case ≤ 5))) := by
    rw [Bool.eq_iff_iff]
    unfold wvalid wbad
    simp
    omega
  rw [e]
  rw [ev_call P_nurseryref07_Valid rfl]
  simp [F_nurseryref07_Valid, ev_within]
def rchk (l : List W) : Int := if 96 < l.length then 4 else if l.all wvalid = true then 0 else 2
theorem loop_rchk (nl : Bool) (l : List W) (hn : l.length ≤ 1000000) : ∀ (suf pre : List W), l = pre ++ suf →
    ev P (.loop 0 [0, 1, 5] F_nurseryref07_Check_L0 [(0, .d (I' 1)), (1, .d (qD nl l)), (5, .d (I' pre.length))] []) =
      if suf.all wvalid = true then some (.out (.exit 0) [] []) else some (.out .ret [(4, .d (I' 2))] []) := by
  intro suf
  induction suf with
  | nil =>
    intro pre hl
    have : l.length = pre.length := by simp [hl]
    rw [ev_loop]
    conv => lhs; arg 4; unfold F_nurseryref07_Check_L0
    simp [this]
  | cons w suf ih =>
    intro pre hl
    have hg : l[pre.length]? = some w := by simp [hl]
    have hlt : (pre.length : Int) < l.length := by simp [hl]; omega
    have hnext : IntKind.i64.wrap ((pre.length : Int) + 1) = pre.length + 1 := wrap_i64 (by omega) (by omega)
    have ih' := ih (pre ++ [w]) (by simp [hl])
    have e1 : (w :: suf).all wvalid = (wvalid w && suf.all wvalid) := rfl
    rw [e1]
    generalize suf.all wvalid = dd at *
    simp at ih'
    rw [ev_loop]
    conv => lhs; arg 4; unfold F_nurseryref07_Check_L0
    cases hv : wvalid w
    · simp [hlt, hg, W.row, ev_rValid, hv]
    · simp [hlt, hg, W.row, ev_rValid, hv, hnext]
      exact ih'
theorem ev_rchk (nl : Bool) (l : List W) (hn : l.length ≤ 1000000) : ev P (.call nurseryref07_Check [.d (I' 1), .d (qD nl l)] []) = some (.val (.d (I' (rchk l))) []) := by
  have hl := loop_rchk nl l hn l [] rfl
  unfold rchk
  generalize l.all wvalid = dd at *
  simp at hl
  rw [ev_call P_nurseryref07_Check rfl]
  by_cases h : 96 < l.length
  · have h' : (96 : Int) < l.length := by omega
    simp [F_nurseryref07_Check, h, h']
  · have h' : ¬ (96 : Int) < l.length := by omega
    simp [F_nurseryref07_Check, h, h', hl]
    cases dd <;> simp
theorem rchk_eq (l : List W) : rchk l = wchk l := by
  have : ∀ (l : List W) (p : Option W), wcheckFrom 1 p l = if l.all wvalid = true then 0 else 2 := by
    intro l
    induction l with
    | nil => intro p; rfl
    | cons a r ih =>
      intro p
      unfold wcheckFrom
      cases hv : wvalid a
      · simp [hv]
      · simp [hv, ih]
  unfold rchk wchk
  rw [this]
theorem loop_rRemove (nl : Bool) (l : List W) (t : Int) (hn : l.length ≤ 1000000) : ∀ (suf pre : List W), l = pre ++ suf →
    ev P (.loop 0 [0, 1, 5, 6] F_nurseryref07_Remove_L0 [(0, .d (qD nl l)), (1, .d (I' t)), (5, .asl 0 0 (pre.filter fun w => w.task != t).length), (6, .d (I' pre.length))] [.arrD 5 true ((pre.filter fun w => w.task != t).map W.row)]) =
      some (.out (.exit 0) [(5, .asl 0 0 (l.filter fun w => w.task != t).length)] [.arrD 5 true ((l.filter fun w => w.task != t).map W.row)]) := by
  intro suf
  induction suf with
  | nil =>
    intro pre hl
    have hlp : l = pre := by simp [hl]
    subst hlp
    rw [ev_loop]
    conv => lhs; arg 4; unfold F_nurseryref07_Remove_L0
    simp [reachC, cut]
  | cons w suf ih =>
    intro pre hl
    have hg : l[pre.length]? = some w := by simp [hl]
    have hlt : (pre.length : Int) < l.length := by simp [hl]; omega
    have hnext : IntKind.i64.wrap ((pre.length : Int) + 1) = pre.length + 1 := wrap_i64 (by omega) (by omega)
    have ih' := ih (pre ++ [w]) (by simp [hl])
    have hrl : (pre.filter fun w => w.task != t).length < 1000000 := by
      have h1 : (pre.filter fun w => w.task != t).length ≤ pre.length := List.length_filter_le _ _
      have h2 : pre.length < l.length := by simp [hl]
      omega
    have hr : (pre.filter fun w => w.task != t).length + 1 ≤ room := by unfold room; omega
    generalize hf : (pre.filter fun w => w.task != t) = fl at *
    simp [hf] at ih'
    rw [ev_loop]
    conv => lhs; arg 4; unfold F_nurseryref07_Remove_L0
    by_cases hw : w.task = t
    · simp [hw] at ih'
      simp [hlt, hg, W.row, hw, hnext, reachC, cut]
      exact ih'
    · have hw2 : (w.task != t) = true := by simpa using hw
      simp [hw2] at ih'
      simp [hlt, hg, W.row, hw2, hnext, reachC, cut, hr, Nat.not_succ_le_self, overlay, take_map_len]
      exact ih'
theorem ev_rRemove (nl : Bool) (l : List W) (t : Int) (hn : l.length ≤ 1000000) :
    ev P (.call nurseryref07_Remove [.d (qD nl l), .d (I' t)] []) = some (.val (.d (qD false (l.filter fun w => w.task != t))) []) := by
  rw [ev_call P_nurseryref07_Remove rfl]
  have hl := loop_rRemove nl l t hn l [] rfl
  simp at hl
  simp [F_nurseryref07_Remove, mkRows, reachC, cut, hl, allDs, take_map_len]
theorem W.neq {w w' : W} (h : ¬ w = w') : (!w.task == w'.task || (!w.op == w'.op || (!w.value == w'.value || (!w.prio == w'.prio || !w.case == w'.case)))) = true := by
  cases hb : (!w.task == w'.task || (!w.op == w'.op || (!w.value == w'.value || (!w.prio == w'.prio || !w.case == w'.case))))
  · exfalso; apply h
    simp at hb
    cases w; cases w'; simp at hb ⊢; exact hb
  · rfl
theorem loop_SameWaiters (n1 n2 : Bool) (l m : List W) (hn : l.length ≤ 1000000) (hm : l.length = m.length) : ∀ (suf suf' pre : List W), l = pre ++ suf → m = pre ++ suf' →
    ev P (.loop 0 [0, 1, 5] F_nurseryref07_Same_L0 [(0, .d (qD n1 l)), (1, .d (qD n2 m)), (5, .d (I' pre.length))] []) =
      if suf = suf' then some (.out (.exit 0) [] []) else some (.out .ret [(4, .d (.b false))] []) := by
  intro suf
  induction suf with
  | nil =>
    intro suf' pre hl hl'
    have h1 : l.length = pre.length := by simp [hl]
    have : suf' = [] := by
      have h2 : m.length = pre.length + suf'.length := by simp [hl']
      exact List.length_eq_zero_iff.1 (by omega)
    subst this
    rw [ev_loop]
    conv => lhs; arg 4; unfold F_nurseryref07_Same_L0
    simp [h1]
  | cons w suf ih =>
    intro suf' pre hl hl'
    have hg : l[pre.length]? = some w := by simp [hl]
    have hlt : (pre.length : Int) < l.length := by simp [hl]; omega
    have hnext : IntKind.i64.wrap ((pre.length : Int) + 1) = pre.length + 1 := wrap_i64 (by omega) (by omega)
    cases suf' with
    | nil => exfalso; simp [hl, hl'] at hm
    | cons w' suf' =>
    have hg' : m[pre.length]? = some w' := by simp [hl']
    rw [ev_loop]
    conv => lhs; arg 4; unfold F_nurseryref07_Same_L0
    by_cases hw : w = w'
    · subst hw
      have ih' := ih suf' (pre ++ [w]) (by simp [hl]) (by simp [hl'])
      simp at ih'
      simp [hlt, hg, hg', hnext, W.row]
      exact ih'
    · have hw2 := W.neq hw
      simp [hlt, hg, hg', hw2, hw, W.row]
theorem ev_SameWaiters (n1 n2 : Bool) (l m : List W) (hn : l.length ≤ 1000000) :
    ev P (.call nurseryref07_Same [.d (qD n1 l), .d (qD n2 m)] []) = some (.val (.d (.b (l == m))) []) := by
  rw [ev_call P_nurseryref07_Same rfl]
  by_cases hlen : l.length = m.length
  · have hl := loop_SameWaiters n1 n2 l m hn hlen l m [] rfl rfl
    simp at hl
    have : ((l.length : Int) != m.length) = false := by simp [hlen]
    simp [F_nurseryref07_Same, this]
    simp [hl]
    by_cases h : l = m <;> simp [h]
  · have : ((l.length : Int) != m.length) = true := by simp; omega
    have h2 : ¬ l = m := fun h => hlen (by rw [h])
    simp [F_nurseryref07_Same, this, h2]
end Go.VS.Tp
namespace Go.VS.Tp
/-! subscribers, the checks of their list, who waits and who is full -/
structure K where
  task : Int
  nl : Bool
  log : List Int
  deriving DecidableEq
@[simp] theorem K.eta (w : K) : K.mk w.task w.nl w.log = w := rfl
def K.row (w : K) : List D := [I' w.task, hD w.nl w.log]
abbrev cD (n : Bool) (l : List K) : D := .sl 2 n (l.map K.row)
theorem loop_IndexK {f : Nat} {first caps : List D} {p : K → Bool} (nl : Bool) (l : List K) (hn : l.length ≤ 1000000)
    (hp : ∀ a b c, ev P (.call f (first.map V.d ++ [.d (.ag [I' a, hD b c])] ++ caps.map V.d) []) = some (.val (.d (.b (p ⟨a, b, c⟩))) [])) :
    ∀ (suf pre : List K), l = pre ++ suf →
    ev P (.loop 0 [0, 1, 7, 8] F_slices_IndexFunc_api_Cursor_api_Cursor_L0 [(0, .d (.sl 2 nl (l.map K.row))), (1, .d (.fn f first caps)), (7, .d (I' l.length)), (8, .d (I' pre.length))] []) =
      if idx p pre.length suf = -1 then some (.out (.exit 0) [] []) else some (.out .ret [(4, .d (I' (idx p pre.length suf)))] []) := by
  intro suf
  induction suf with
  | nil =>
    intro pre hl
    have : l.length = pre.length := by simp [hl]
    rw [ev_loop]
    conv => lhs; arg 4; unfold F_slices_IndexFunc_api_Cursor_api_Cursor_L0
    simp [this, idx]
  | cons w suf ih =>
    intro pre hl
    have hg : l[pre.length]? = some w := by simp [hl]
    have hlt : (pre.length : Int) < l.length := by simp [hl]; omega
    have hnext : IntKind.i64.wrap ((pre.length : Int) + 1) = pre.length + 1 := wrap_i64 (by omega) (by omega)
    have ih' := ih (pre ++ [w]) (by simp [hl])
    simp at ih'
    have hp' := hp w.task w.nl w.log
    simp at hp'
    rw [ev_loop]
    conv => lhs; arg 4; unfold F_slices_IndexFunc_api_Cursor_api_Cursor_L0
    simp [hlt, hg, K.row, hp', allD_mid]
    cases hw : p w
    · simp [idx, hw, hnext]
      exact ih'
    · have : ¬ (pre.length : Int) = -1 := by omega
      simp [idx, hw, this]
theorem ev_IndexK {f : Nat} {first caps : List D} {p : K → Bool} (nl : Bool) (l : List K) (hn : l.length ≤ 1000000)
    (hp : ∀ a b c, ev P (.call f (first.map V.d ++ [.d (.ag [I' a, hD b c])] ++ caps.map V.d) []) = some (.val (.d (.b (p ⟨a, b, c⟩))) [])) :
    ev P (.call slices_IndexFunc_api_Cursor_api_Cursor [.d (.sl 2 nl (l.map K.row)), .d (.fn f first caps)] []) = some (.val (.d (I' (idx p 0 l))) []) := by
  rw [ev_call P_slices_IndexFunc_api_Cursor_api_Cursor rfl]
  have hl := loop_IndexK nl l hn hp l [] rfl
  simp at hl
  simp [F_slices_IndexFunc_api_Cursor_api_Cursor, hl]
  by_cases hc : idx p 0 l = -1 <;> simp [hc]
theorem ev_ContainsK {f : Nat} {first caps : List D} {p : K → Bool} (nl : Bool) (l : List K) (hn : l.length ≤ 1000000)
    (hp : ∀ a b c, ev P (.call f (first.map V.d ++ [.d (.ag [I' a, hD b c])] ++ caps.map V.d) []) = some (.val (.d (.b (p ⟨a, b, c⟩))) [])) :
    ev P (.call slices_ContainsFunc_api_Cursor_api_Cursor [.d (.sl 2 nl (l.map K.row)), .d (.fn f first caps)] []) = some (.val (.d (.b (l.any p))) []) := by
  rw [ev_call P_slices_ContainsFunc_api_Cursor_api_Cursor rfl]
  have hi := ev_IndexK nl l hn hp
  simp [F_slices_ContainsFunc_api_Cursor_api_Cursor, hi]
  have := idx_any (p := p) (l := l) (k := 0) (by omega)
  cases ha : l.any p
  · have hc : ¬ 0 ≤ idx p 0 l := fun h => by rw [this.1 h] at ha; cases ha
    simp [hc]
  · have hc : 0 ≤ idx p 0 l := this.2 ha
    simp [hc]
def mnew (k sz ot : Int) : Int := if (k != 7) = true then 8 else if (decide (sz < 0) || decide (100 < sz) || ot != 0) = true then 2 else 0
def zrow : List D := [I' 0, I' 0, I' 0, .sl 1 true [], .sl 5 true [], .sl 1 true [], .sl 2 true [], .b false, I' 0]
def frow : List D := [I' (-1), I' 0, I' 0, .sl 1 true [], .sl 5 true [], .sl 1 true [], .sl 2 true [], .b false, I' 0]
theorem ev_mNew (nm : D) (k sz ot : Int) : ev P (.call topic_New [.d (.ag [nm, I' k, I' sz, I' ot])] []) =
    some (.val (.tu [.d (.ag (if mnew k sz ot = 0 then frow else zrow)), .d (I' (mnew k sz ot))]) []) := by
  rw [ev_call P_topic_New rfl]
  unfold mnew
  cases hk : k != 7
  · cases hb : (decide (sz < 0) || decide (100 < sz) || ot != 0) <;> simp [F_topic_New, hk, hb, frow, zrow]
  · simp [F_topic_New, hk, zrow]
theorem ev_w23 (a b c : Int) : ev P (.call nurseryref23_within [.d (I' a), .d (I' b), .d (I' c)] []) = some (.val (.d (.b (decide (b ≤ a) && decide (a ≤ c)))) []) := by
  rw [ev_call P_nurseryref23_within rfl]
  simp [F_nurseryref23_within]
theorem ev_rNew (nm : D) (k sz ot : Int) : ev P (.call nurseryref23_New [.d (.ag [nm, I' k, I' sz, I' ot])] []) =
    some (.val (.tu [.d (.ag (if mnew k sz ot = 0 then frow else zrow)), .d (I' (mnew k sz ot))]) []) := by
  rw [ev_call P_nurseryref23_New rfl]
  unfold mnew
  have e : (decide (sz < 0) || decide (100 < sz) || ot != 0) = (!decide (0 ≤ sz) || !decide (sz ≤ 100) || ot != 0) := by
    rw [Bool.eq_iff_iff]; simp
  rw [e]
  cases hk : k != 7
  · cases hb : (!decide (0 ≤ sz) || !decide (sz ≤ 100) || ot != 0) <;> simp [F_nurseryref23_New, ev_w23, hk, hb, frow, zrow]
  · simp [F_nurseryref23_New, hk, zrow]
def num (n : Int) : Bool := decide (-1099511627776 ≤ n) && decide (n ≤ 1099511627776)
theorem ev_number (n : Int) : ev P (.call topic_number [.d (I' n)] []) = some (.val (.d (.b (num n))) []) := by
  rw [ev_call P_topic_number rfl]
  unfold num
  simp [F_topic_number]
theorem ev_findC1 (t a : Int) (b : Bool) (c : List Int) : ev P (.call topic_findC1 [.d (.ag [I' a, hD b c]), .d (.ref [I' t])] []) = some (.val (.d (.b (a == t))) []) := by
  rw [ev_call P_topic_findC1 rfl]
  simp [F_topic_findC1]
def fnd (C : List K) (t : Int) : Int := idx (fun c => c.task == t) 0 C
theorem ev_find (d0 d1 d2 d3 d4 d5 d7 d8 : D) (cn : Bool) (C : List K) (t : Int) (hn : C.length ≤ 1000000) :
    ev P (.call topic_find [.d (.ag [d0, d1, d2, d3, d4, d5, cD cn C, d7, d8]), .d (I' t)] []) = some (.val (.d (I' (fnd C t))) []) := by
  have hI := ev_IndexK (f := topic_findC1) (first := []) (caps := [.ref [I' t]]) (p := fun c => c.task == t) cn C hn (by intro a b c; simp [ev_findC1])
  rw [ev_call P_topic_find rfl]
  unfold fnd
  generalize idx (fun c : K => c.task == t) 0 C = r at *
  try simp at hI
  simp [F_topic_find, allD, hI]
def wts (Q : List W) (t op : Int) : Bool := Q.any fun w => w.task == t && w.op == op
theorem ev_waitingC1 (t op a b c d e : Int) : ev P (.call topic_waitingC1 [.d (.ag [I' a, I' b, I' c, I' d, I' e]), .d (.ref [I' t]), .d (.ref [I' op])] []) = some (.val (.d (.b (a == t && b == op))) []) := by
  rw [ev_call P_topic_waitingC1 rfl]
  simp [F_topic_waitingC1]
theorem ev_waiting (d0 d1 d2 d3 d5 d6 d7 d8 : D) (qn : Bool) (Q : List W) (t op : Int) (hn : Q.length ≤ 1000000) :
    ev P (.call topic_waiting [.d (.ag [d0, d1, d2, d3, qD qn Q, d5, d6, d7, d8]), .d (I' t), .d (I' op)] []) = some (.val (.d (.b (wts Q t op))) []) := by
  have hI := ev_ContainsFunc (f := topic_waitingC1) (first := []) (caps := [.ref [I' t], .ref [I' op]]) (p := fun w => w.task == t && w.op == op) qn Q hn (by intro a b c d e; simp [ev_waitingC1])
  rw [ev_call P_topic_waiting rfl]
  unfold wts
  generalize (Q.any fun w => w.task == t && w.op == op) = r at *
  try simp at hI
  simp [F_topic_waiting, allD, hI]
def fl (sz : Int) (C : List K) (Q : List W) : Bool := C.any fun c => (c.log.length : Int) == sz && !wts Q c.task 70
theorem ev_fullC1 (sz a : Int) (b : Bool) (c : List Int) (d0 d1 d2 d3 d5 d6 d7 d8 : D) (qn : Bool) (Q : List W) (hn : Q.length ≤ 1000000) :
    ev P (.call topic_fullC1 [.d (.ag [I' a, hD b c]), .d (.ref [I' sz]), .d (.ref [d0, d1, d2, d3, qD qn Q, d5, d6, d7, d8])] []) = some (.val (.d (.b ((c.length : Int) == sz && !wts Q a 70))) []) := by
  have hw := ev_waiting d0 d1 d2 d3 d5 d6 d7 d8 qn Q a 70 hn
  rw [ev_call P_topic_fullC1 rfl]
  cases h : (c.length : Int) == sz <;> simp [F_topic_fullC1, h, hw]
theorem ev_full (sz : Int) (d0 d1 d2 d3 d5 d7 d8 : D) (qn : Bool) (Q : List W) (cn : Bool) (C : List K) (hn : Q.length ≤ 1000000) (hc : C.length ≤ 1000000) :
    ev P (.call topic_full [.d (I' sz), .d (.ag [d0, d1, d2, d3, qD qn Q, d5, cD cn C, d7, d8])] []) = some (.val (.d (.b (fl sz C Q))) []) := by
  have hI := ev_ContainsK (f := topic_fullC1) (first := []) (caps := [.ref [I' sz], .ref [d0, d1, d2, d3, qD qn Q, d5, cD cn C, d7, d8]]) (p := fun c => (c.log.length : Int) == sz && !wts Q c.task 70) cn C hc (by intro a b c; simp [ev_fullC1, hn])
  rw [ev_call P_topic_full rfl]
  unfold fl
  generalize (C.any fun c => (c.log.length : Int) == sz && !wts Q c.task 70) = r at *
  try simp at hI
  simp [F_topic_full, allD, hI]
def kbad (sz : Int) (prev : Option K) (c : K) : Bool := decide (c.task < 0) || decide (16 ≤ c.task) || prev.any (fun p => decide (c.task ≤ p.task)) || decide (sz < c.log.length)
def vc (sz : Int) : Option K → List K → Bool
  | _, [] => true
  | p, c :: r => !kbad sz p c && (c.log.all num && vc sz (some c) r)
theorem loop_cnum (sz : D) (cn : Bool) (C : List K) (k : Int) (bn : Bool) (l : List Int) (hn : l.length ≤ 1000000) : ∀ (suf pre : List Int), l = pre ++ suf →
    ev P (.loop 0 [0, 1, 9, 10, 11, 47, 48, 49] F_topic_cursors_L0 [(0, .d sz), (1, .d (cD cn C)), (9, .d (cD cn C)), (10, .d (I' C.length)), (11, .d (I' k)), (47, .d (hD bn l)), (48, .d (I' l.length)), (49, .d (I' pre.length))] []) =
      if suf.all num = true then some (.out (.exit 2) [(0, .d sz), (1, .d (cD cn C)), (9, .d (cD cn C)), (10, .d (I' C.length)), (11, .d (I' k))] []) else some (.out .ret [(4, .d (.b false))] []) := by
  intro suf
  induction suf with
  | nil =>
    intro pre hl
    have : l.length = pre.length := by simp [hl]
    rw [ev_loop]
    conv => lhs; arg 4; unfold F_topic_cursors_L0
    simp [this]
  | cons w suf ih =>
    intro pre hl
    have hg : l[pre.length]? = some w := by simp [hl]
    have hlt : (pre.length : Int) < l.length := by simp [hl]; omega
    have hnext : IntKind.i64.wrap ((pre.length : Int) + 1) = pre.length + 1 := wrap_i64 (by omega) (by omega)
    have ih' := ih (pre ++ [w]) (by simp [hl])
    rw [List.all_cons]
    generalize suf.all num = dd at *
    simp at ih'
    rw [ev_loop]
    conv => lhs; arg 4; unfold F_topic_cursors_L0
    cases hw : num w
    · simp [hlt, hg, ev_number, hw]
    · simp [hlt, hg, ev_number, hw, hnext]
      exact ih'
set_option maxHeartbeats 1000000 in
theorem loop_cursors (sz : Int) (cn : Bool) (C : List K) (hn : C.length ≤ 1000000) (hl1 : ∀ c ∈ C, c.log.length ≤ 1000000) : ∀ (suf pre : List K), C = pre ++ suf →
    ev P (.loop 0 [0, 1, 9, 10, 11] F_topic_cursors_L1 [(0, .d (I' sz)), (1, .d (cD cn C)), (9, .d (cD cn C)), (10, .d (I' C.length)), (11, .d (I' pre.length))] []) =
      if vc sz pre.getLast? suf = true then some (.out (.exit 0) [] []) else some (.out .ret [(4, .d (.b false))] []) := by
  intro suf
  induction suf with
  | nil =>
    intro pre hl
    have : C.length = pre.length := by simp [hl]
    rw [ev_loop]
    conv => lhs; arg 4; unfold F_topic_cursors_L1
    simp [this, vc]
  | cons c suf ih =>
    intro pre hl
    have hg : C[pre.length]? = some c := by simp [hl]
    have hlt : (pre.length : Int) < C.length := by simp [hl]; omega
    have ih' := ih (pre ++ [c]) (by simp [hl])
    have hN := loop_cnum (I' sz) cn C pre.length c.nl c.log (hl1 c (by simp [hl])) c.log [] rfl
    have e1 : vc sz pre.getLast? (c :: suf) = (!kbad sz pre.getLast? c && (c.log.all num && vc sz (some c) suf)) := rfl
    rw [e1]
    simp only [List.getLast?_append, List.getLast?_singleton, Option.some_or] at ih'
    generalize vc sz (some c) suf = dd at *
    generalize c.log.all num = da at *
    simp at ih' hN
    rw [ev_loop]
    conv => lhs; arg 4; unfold F_topic_cursors_L1
    have hnext : IntKind.i64.wrap ((pre.length : Int) + 1) = pre.length + 1 := wrap_i64 (by omega) (by omega)
    cases h1 : (decide (c.task < 0) || decide (16 ≤ c.task))
    · rcases List.eq_nil_or_concat pre with rfl | ⟨pre', p, rfl⟩
      · have hlt2 : 0 < C.length := by simp [hl]
        have hg0 : C[0] = c := by simp [hl]
        cases h2 : decide (sz < c.log.length)
        · have hk : kbad sz none c = false := by simp only [kbad, h1, h2, Option.any_none, Bool.or_false]
          simp [wrap1] at ih' hN
          cases da
          · simp at hN
            simp [hlt2, hg0, K.row, h1, h2, hk, hN]
          · simp at hN
            simp [hlt2, hg0, K.row, h1, h2, hk, hN, wrap1]
            exact ih'
        · have hk : kbad sz none c = true := by simp only [kbad, h1, h2, Option.any_none, Bool.or_false, Bool.or_true]
          simp [hlt2, hg0, K.row, h1, h2, hk]
      · have hgp : C[pre'.length]? = some p := by simp [hl]
        have hlen : ((pre'.length : Int) + 1 < C.length) := by simp [hl]; omega
        have hw : IntKind.i64.wrap ((pre'.length : Int) + 1 - 1) = pre'.length := by rw [wrap_i64 (by omega) (by omega)]; omega
        have h0 : (0 : Int) < pre'.length + 1 := by omega
        have h00 : (0 : Int) ≤ pre'.length + 1 := by omega
        have hw2 : IntKind.i64.wrap (pre'.length : Int) = pre'.length := wrap_i64 (by omega) (by omega)
        have hw3 : IntKind.i64.wrap ((pre'.length : Int) + 1 + 1) = pre'.length + 1 + 1 := wrap_i64 (by omega) (by omega)
        simp only [List.concat_eq_append, List.length_append, List.length_singleton] at hg
        simp at ih' hN
        cases h3 : decide (c.task ≤ p.task)
        · cases h2 : decide (sz < c.log.length)
          · have hk : kbad sz (some p) c = false := by simp only [kbad, h1, h2, h3, Option.any_some, Bool.or_false]
            cases da
            · simp at hN
              simp [hlen, hg, hgp, hw2, h0, h00, K.row, h1, h2, h3, hk, hN]
            · simp at hN
              simp [hlen, hg, hgp, hw2, h0, h00, K.row, h1, h2, h3, hk, hN, hw3]
              exact ih'
          · have hk : kbad sz (some p) c = true := by simp only [kbad, h1, h2, h3, Option.any_some, Bool.or_false, Bool.or_true]
            simp [hlen, hg, hgp, hw2, h0, h00, K.row, h1, h2, h3, hk]
        · have hk : kbad sz (some p) c = true := by simp only [kbad, h1, h3, Option.any_some, Bool.or_true, Bool.true_or]
          simp [hlen, hg, hgp, hw2, h0, h00, K.row, h1, h3, hk]
    · have hk : kbad sz pre.getLast? c = true := by simp [kbad, h1]
      simp [hlt, hg, K.row, h1, hk]
theorem ev_cursors (sz : Int) (cn : Bool) (C : List K) (hn : C.length ≤ 1000000) (hl1 : ∀ c ∈ C, c.log.length ≤ 1000000) :
    ev P (.call topic_cursors [.d (I' sz), .d (cD cn C)] []) = some (.val (.d (.b (vc sz none C))) []) := by
  have hL := loop_cursors sz cn C hn hl1 C [] rfl
  rw [ev_call P_topic_cursors rfl]
  generalize hv : vc sz none C = v at *
  simp [hv] at hL
  cases v <;> simp at hL <;> simp [F_topic_cursors, hL]
end Go.VS.Tp
namespace Go.VS.Tp
/-! the queue's check, Check -/
theorem fd_eq {pre : List W} {w : W} {r : List W} : ((fdS (pre ++ w :: r) w.task).1 == (pre.length : Int)) = !pre.any (fun x => x.task == w.task) := by
  unfold fdS
  rw [List.findIdx?_append]
  cases h : pre.findIdx? (fun x => x.task == w.task) with
  | none =>
    have : pre.any (fun x => x.task == w.task) = false := by
      rw [List.any_eq_false]
      rw [List.findIdx?_eq_none_iff] at h
      intro x hx
      rw [h x hx]; decide
    rw [this]
    simp [List.findIdx?_cons]
  | some k =>
    obtain ⟨h1, h2⟩ := List.findIdx?_eq_some_iff_getElem.1 h
    have : pre.any (fun x => x.task == w.task) = true := List.any_eq_true.2 ⟨_, List.getElem_mem _, h2.1⟩
    rw [this]
    simp
    omega
theorem wchk_zero {Q : List W} (h : wchk Q = 0) : Q.length ≤ 96 ∧ ∀ w, w ∈ Q → wvalid w = true := by
  unfold wchk at h
  by_cases h1 : 96 < Q.length
  · rw [if_pos h1] at h; cases h
  · rw [if_neg h1] at h
    refine ⟨by omega, ?_⟩
    have : ∀ (l : List W) (p : Option W), wcheckFrom 1 p l = 0 → ∀ w, w ∈ l → wvalid w = true := by
      intro l
      induction l with
      | nil => simp
      | cons a r ih =>
        intro p h w hw
        unfold wcheckFrom at h
        cases hv : wvalid a
        · rw [hv] at h; simp at h
        · rw [hv] at h
          simp at h
          rcases List.mem_cons.1 hw with e | hw
          · rw [e]; exact hv
          · exact ih _ h w hw
    exact this Q none h
theorem wvalid_task {w : W} (h : wvalid w = true) : 0 ≤ w.task ∧ w.task < 16 := by
  unfold wvalid wbad at h
  simp at h
  omega

theorem idx_spec {α : Type} {p : α → Bool} : ∀ (l : List α) (k : Nat), (idx p (k : Int) l = -1 ∧ l.find? p = none) ∨ ∃ (i : Nat) (c : α), idx p (k : Int) l = ((k + i : Nat) : Int) ∧ l[i]? = some c ∧ l.find? p = some c
  | [], k => .inl ⟨rfl, rfl⟩
  | a :: l, k => by
    by_cases ha : p a = true
    · right
      exact ⟨0, a, by simp [idx, ha], by simp, by simp [ha]⟩
    · have h := idx_spec (p := p) l (k + 1)
      have e : ((k + 1 : Nat) : Int) = (k : Int) + 1 := by omega
      rw [e] at h
      rcases h with ⟨h1, h2⟩ | ⟨i, c, h1, h2, h3⟩
      · left
        exact ⟨by simp [idx, ha, h1], by simp [ha, h2]⟩
      · right
        refine ⟨i + 1, c, ?_, by simpa using h2, by simp [ha, h3]⟩
        simp [idx, ha, h1]; omega
def kfd (C : List K) (t : Int) : Option K := C.find? fun c => c.task == t
theorem fnd_spec (C : List K) (t : Int) : (fnd C t = -1 ∧ kfd C t = none) ∨ ∃ (i : Nat) (c : K), fnd C t = (i : Int) ∧ C[i]? = some c ∧ kfd C t = some c := by
  have h := idx_spec (p := fun c : K => c.task == t) C 0
  simpa [fnd, kfd] using h
def n70 (C : List K) (w : W) : Bool := match kfd C w.task with | some c => !decide (0 < c.log.length) && w.value == 0 | none => false
def tqo (sz : Int) (C : List K) (Q : List W) (w : W) : Bool := if w.op = 70 then n70 C w else if w.op = 68 then fl sz C Q else false
def tq (sz : Int) (C : List K) (Q : List W) : List W → List W → Bool
  | _, [] => true
  | pre, w :: r => !pre.any (fun x => x.task == w.task) && (w.case == -1 && (tqo sz C Q w && tq sz C Q (pre ++ [w]) r))
theorem loop_queue (sz : Int) (d0 d1 d2 d3 d5 d7 d8 : D) (qn : Bool) (Q : List W) (cn : Bool) (C : List K) (hn : Q.length ≤ 1000000) (hc : C.length ≤ 1000000) : ∀ (suf pre : List W), Q = pre ++ suf →
    ev P (.loop 0 [0, 3, 15, 16, 17] F_topic_queue_L0 [(0, .d (I' sz)), (3, .d (.ref [d0, d1, d2, d3, qD qn Q, d5, cD cn C, d7, d8])), (15, .d (qD qn Q)), (16, .d (I' Q.length)), (17, .d (I' pre.length))] []) =
      if tq sz C Q pre suf = true then some (.out (.exit 0) [] []) else some (.out .ret [(4, .d (.b false))] []) := by
  intro suf
  induction suf with
  | nil =>
    intro pre hl
    have : Q.length = pre.length := by simp [hl]
    rw [ev_loop]
    conv => lhs; arg 4; unfold F_topic_queue_L0
    simp [this, tq]
  | cons w suf ih =>
    intro pre hl
    have hg : Q[pre.length]? = some w := by simp [hl]
    have hlt : (pre.length : Int) < Q.length := by simp [hl]; omega
    have hnext : IntKind.i64.wrap ((pre.length : Int) + 1) = pre.length + 1 := wrap_i64 (by omega) (by omega)
    have ih' := ih (pre ++ [w]) (by simp [hl])
    have hF := ev_wFind qn Q w.task hn
    have hfe : ((fdS Q w.task).1 == (pre.length : Int)) = !pre.any (fun x => x.task == w.task) := by rw [hl]; exact fd_eq
    have hfd := ev_find d0 d1 d2 d3 (qD qn Q) d5 d7 d8 cn C w.task hc
    have hfu := ev_full sz d0 d1 d2 d3 d5 d7 d8 qn Q cn C hn hc
    have e1 : tq sz C Q pre (w :: suf) = (!pre.any (fun x => x.task == w.task) && (w.case == -1 && (tqo sz C Q w && tq sz C Q (pre ++ [w]) suf))) := rfl
    rw [e1]
    generalize tq sz C Q (pre ++ [w]) suf = dd at *
    generalize (fdS Q w.task).1 = fi at *
    generalize (fdS Q w.task).2 = fb at *
    simp at ih'
    rw [ev_loop]
    conv => lhs; arg 4; unfold F_topic_queue_L0
    cases ha : pre.any (fun x => x.task == w.task)
    · rw [ha] at hfe
      have hfe2 : (fi != (pre.length : Int)) = false := by simp [bne, hfe]
      cases hk : w.case == -1
      · have hk2 : (w.case != -1) = true := by simp [bne, hk]
        simp [hlt, hg, W.row, hF, hfe2, hk2]
      · have hk2 : (w.case != -1) = false := by simp [bne, hk]
        by_cases h70 : w.op = 70
        · have h70b : (w.op == 70) = true := by simp [h70]
          have e2 : tqo sz C Q w = n70 C w := by simp [tqo, h70]
          rw [e2]
          rcases fnd_spec C w.task with ⟨f1, f2⟩ | ⟨i, c, f1, f2, f3⟩
          · have e3 : n70 C w = false := by simp [n70, f2]
            rw [f1] at hfd
            simp [hlt, hg, W.row, hF, hfe2, hk2, h70, hfd, e3]
          · have e3 : n70 C w = (!decide (0 < c.log.length) && w.value == 0) := by simp only [n70, f3]
            rw [f1] at hfd
            rw [e3]
            have n1 : ¬ ((i : Int) < 0) := by omega
            cases p1 : decide (0 < c.log.length)
            · cases p2 : w.value == 0
              · have p3 : (w.value != 0) = true := by simp [bne, p2]
                simp at p1
                simp [hlt, hg, W.row, hF, hfe2, hk2, h70, hfd, n1, f2, K.row, p1, p3]
              · have p3 : (w.value != 0) = false := by simp [bne, p2]
                simp at p1
                simp [hlt, hg, W.row, hF, hfe2, hk2, h70, hfd, n1, f2, K.row, p1, p3, hnext]
                exact ih'
            · simp at p1
              simp [hlt, hg, W.row, hF, hfe2, hk2, h70, hfd, n1, f2, K.row, p1]
        · have h70b : (w.op == 70) = false := by simp [h70]
          by_cases h68 : w.op = 68
          · have e2 : tqo sz C Q w = fl sz C Q := by simp [tqo, h68]
            rw [e2]
            cases hfl : fl sz C Q
            · rw [hfl] at hfu
              simp [hlt, hg, W.row, hF, hfe2, hk2, h68, hfu]
            · rw [hfl] at hfu
              simp [hlt, hg, W.row, hF, hfe2, hk2, h68, hfu, hnext]
              exact ih'
          · have h68b : (w.op == 68) = false := by simp [h68]
            have e2 : tqo sz C Q w = false := by simp [tqo, h70, h68]
            rw [e2]
            simp [hlt, hg, W.row, hF, hfe2, hk2, h70b, h68b]
    · rw [ha] at hfe
      have hfe2 : (fi != (pre.length : Int)) = true := by simp [bne, hfe]
      simp [hlt, hg, W.row, hF, hfe2]
theorem ev_queue (sz : Int) (d0 d1 d2 d3 d5 d7 d8 : D) (qn : Bool) (Q : List W) (cn : Bool) (C : List K) (hn : Q.length ≤ 1000000) (hc : C.length ≤ 1000000) :
    ev P (.call topic_queue [.d (I' sz), .d (.ag [d0, d1, d2, d3, qD qn Q, d5, cD cn C, d7, d8])] []) = some (.val (.d (.b (wchk Q == 0 && tq sz C Q [] Q))) []) := by
  have hL := loop_queue sz d0 d1 d2 d3 d5 d7 d8 qn Q cn C hn hc Q [] rfl
  have hW := ev_wCheck qn Q
  rw [ev_call P_topic_queue rfl]
  generalize tq sz C Q [] Q = v at *
  simp at hL
  cases hw : wchk Q == 0
  · have hw2 : (wchk Q != 0) = true := by simp [bne, hw]
    simp [F_topic_queue, hW, hw2]
  · have hw2 : (wchk Q != 0) = false := by simp [bne, hw]
    cases v <;> simp at hL <;> simp [F_topic_queue, hW, hw2, hL]
structure S where
  own : Int
  cnt : Int
  time : Int
  hn : Bool
  H : List Int
  qn : Bool
  Q : List W
  bn : Bool
  B : List Int
  cn : Bool
  C : List K
  cl : Bool
  val : Int
abbrev S.row (s : S) : List D := [I' s.own, I' s.cnt, I' s.time, hD s.hn s.H, qD s.qn s.Q, hD s.bn s.B, cD s.cn s.C, .b s.cl, I' s.val]
def S.fl0 (s : S) : Bool := s.cnt != 0 || s.time != 0 || decide (0 < s.H.length + s.B.length) || s.cl || s.val != 0
/-- lengths that the walk bears -/
structure S.sm (s : S) : Prop where
  h : s.H.length ≤ 1000000
  b : s.B.length ≤ 1000000
  q : s.Q.length ≤ 1000000
  c : s.C.length ≤ 1000000
  l : ∀ c ∈ s.C, c.log.length ≤ 1000000
def S.good (sz : Int) (s : S) : Bool := s.own == -1 && (vc sz none s.C && (wchk s.Q == 0 && tq sz s.C s.Q [] s.Q)) && !s.fl0
def ckd (k sz ot : Int) (s : S) : Int := if mnew k sz ot = 0 then (if s.good sz then 0 else 1) else mnew k sz ot
theorem ev_mCheck (nm : D) (k sz ot : Int) (s : S) (hs : s.sm) :
    ev P (.call topic_Check [.d (.ag [nm, I' k, I' sz, I' ot]), .d (.ag s.row)] []) = some (.val (.d (I' (ckd k sz ot s))) []) := by
  have hC := ev_cursors sz s.cn s.C hs.c hs.l
  have hQ := ev_queue sz (I' s.own) (I' s.cnt) (I' s.time) (hD s.hn s.H) (hD s.bn s.B) (.b s.cl) (I' s.val) s.qn s.Q s.cn s.C hs.q hs.c
  have hh := hs.h
  have hb := hs.b
  rw [ev_call P_topic_Check rfl]
  unfold ckd
  cases hm : mnew k sz ot == 0
  · have hm' : mnew k sz ot ≠ 0 := by simpa using hm
    have hm2 : (mnew k sz ot != 0) = true := by simpa using hm'
    simp [F_topic_Check, ev_mNew, hm', hm2, zrow]
  · have hm' : mnew k sz ot = 0 := by simpa using hm
    unfold S.good
    cases ho : s.own == -1
    · have ho2 : (s.own != -1) = true := by simp [bne, ho]
      simp [F_topic_Check, ev_mNew, hm', frow, ho2]
    · have ho2 : (s.own != -1) = false := by simp [bne, ho]
      cases hv : vc sz none s.C <;> rw [hv] at hC
      · simp [F_topic_Check, ev_mNew, hm', frow, ho2, hC]
      · cases hq : (wchk s.Q == 0 && tq sz s.C s.Q [] s.Q) <;> rw [hq] at hQ
        · simp [F_topic_Check, ev_mNew, hm', frow, ho2, hC, hQ]
        · have hw : IntKind.i64.wrap ((s.H.length : Int) + s.B.length) = s.H.length + s.B.length := wrap_i64 (by omega) (by omega)
          have hd : decide ((0 : Int) < (s.H.length : Int) + s.B.length) = decide (0 < s.H.length + s.B.length) := by
            rw [Bool.eq_iff_iff]; simp; omega
          simp [F_topic_Check, ev_mNew, hm', frow, ho2, hC, hQ, hw, hd]
          cases hz : (s.cnt != 0 || s.time != 0 || decide (0 < s.H.length + s.B.length) || s.cl || s.val != 0)
          · have hz2 : s.fl0 = false := hz
            simp [hz2]
          · have hz2 : s.fl0 = true := hz
            simp [hz2]
end Go.VS.Tp
namespace Go.VS.Tp
/-! the reference: cursor, waits, publisher, Full, its check; the two checks agree -/
theorem loop_cursor (d0 d1 d2 d3 d4 d5 d7 d8 : D) (cn : Bool) (C : List K) (t : Int) (hn : C.length ≤ 1000000) : ∀ (suf pre : List K), C = pre ++ suf →
    ev P (.loop 0 [1, 2, 5] F_nurseryref23_cursor_L0 [(1, .d (I' t)), (2, .d (.ref [d0, d1, d2, d3, d4, d5, cD cn C, d7, d8])), (5, .d (I' pre.length))] []) =
      if idx (fun c => c.task == t) pre.length suf = -1 then some (.out (.exit 0) [] []) else some (.out .ret [(4, .d (I' (idx (fun c => c.task == t) pre.length suf)))] []) := by
  intro suf
  induction suf with
  | nil =>
    intro pre hl
    have : C.length = pre.length := by simp [hl]
    rw [ev_loop]
    conv => lhs; arg 4; unfold F_nurseryref23_cursor_L0
    simp [this, idx]
  | cons c suf ih =>
    intro pre hl
    have hg : C[pre.length]? = some c := by simp [hl]
    have hlt : (pre.length : Int) < C.length := by simp [hl]; omega
    have hnext : IntKind.i64.wrap ((pre.length : Int) + 1) = pre.length + 1 := wrap_i64 (by omega) (by omega)
    have ih' := ih (pre ++ [c]) (by simp [hl])
    simp at ih'
    rw [ev_loop]
    conv => lhs; arg 4; unfold F_nurseryref23_cursor_L0
    cases hw : c.task == t
    · simp [hlt, hg, K.row, hw, hnext, idx]
      exact ih'
    · have : ¬ (pre.length : Int) = -1 := by omega
      simp [hlt, hg, K.row, hw, idx, this]
theorem ev_cursor (d0 d1 d2 d3 d4 d5 d7 d8 : D) (cn : Bool) (C : List K) (t : Int) (hn : C.length ≤ 1000000) :
    ev P (.call nurseryref23_cursor [.d (.ag [d0, d1, d2, d3, d4, d5, cD cn C, d7, d8]), .d (I' t)] []) = some (.val (.d (I' (fnd C t))) []) := by
  have hL := loop_cursor d0 d1 d2 d3 d4 d5 d7 d8 cn C t hn C [] rfl
  rw [ev_call P_nurseryref23_cursor rfl]
  unfold fnd
  simp at hL
  generalize idx (fun c : K => c.task == t) 0 C = r at *
  by_cases hr : r = -1 <;> simp [hr] at hL <;> simp [F_nurseryref23_cursor, hL, hr]
theorem loop_waits (d0 d1 d2 d3 d5 d6 d7 d8 : D) (qn : Bool) (Q : List W) (t op : Int) (hn : Q.length ≤ 1000000) : ∀ (suf pre : List W), Q = pre ++ suf →
    ev P (.loop 0 [1, 2, 3, 7] F_nurseryref23_waits_L0 [(1, .d (I' t)), (2, .d (I' op)), (3, .d (.ref [d0, d1, d2, d3, qD qn Q, d5, d6, d7, d8])), (7, .d (I' pre.length))] []) =
      if wts suf t op = true then some (.out .ret [(6, .d (.b true))] []) else some (.out (.exit 0) [] []) := by
  intro suf
  induction suf with
  | nil =>
    intro pre hl
    have : Q.length = pre.length := by simp [hl]
    rw [ev_loop]
    conv => lhs; arg 4; unfold F_nurseryref23_waits_L0
    simp [this, wts]
  | cons c suf ih =>
    intro pre hl
    have hg : Q[pre.length]? = some c := by simp [hl]
    have hlt : (pre.length : Int) < Q.length := by simp [hl]; omega
    have hnext : IntKind.i64.wrap ((pre.length : Int) + 1) = pre.length + 1 := wrap_i64 (by omega) (by omega)
    have ih' := ih (pre ++ [c]) (by simp [hl])
    have e1 : wts (c :: suf) t op = ((c.task == t && c.op == op) || wts suf t op) := rfl
    rw [e1]
    generalize wts suf t op = dd at *
    simp at ih'
    rw [ev_loop]
    conv => lhs; arg 4; unfold F_nurseryref23_waits_L0
    cases hw : c.task == t
    · simp [hlt, hg, W.row, hw, hnext]
      exact ih'
    · cases ho : c.op == op
      · simp [hlt, hg, W.row, hw, ho, hnext]
        exact ih'
      · simp [hlt, hg, W.row, hw, ho]
theorem ev_waits (d0 d1 d2 d3 d5 d6 d7 d8 : D) (qn : Bool) (Q : List W) (t op : Int) (hn : Q.length ≤ 1000000) :
    ev P (.call nurseryref23_waits [.d (.ag [d0, d1, d2, d3, qD qn Q, d5, d6, d7, d8]), .d (I' t), .d (I' op)] []) = some (.val (.d (.b (wts Q t op))) []) := by
  have hL := loop_waits d0 d1 d2 d3 d5 d6 d7 d8 qn Q t op hn Q [] rfl
  rw [ev_call P_nurseryref23_waits rfl]
  generalize wts Q t op = v at *
  simp at hL
  cases v <;> simp at hL <;> simp [F_nurseryref23_waits, hL]
def pub (Q : List W) : Int := idx (fun w => w.op == 68) 0 Q
theorem loop_publisher (d0 d1 d2 d3 d5 d6 d7 d8 : D) (qn : Bool) (Q : List W) (hn : Q.length ≤ 1000000) : ∀ (suf pre : List W), Q = pre ++ suf →
    ev P (.loop 0 [1, 3] F_nurseryref23_publisher_L0 [(1, .d (.ref [d0, d1, d2, d3, qD qn Q, d5, d6, d7, d8])), (3, .d (I' pre.length))] []) =
      if idx (fun w => w.op == 68) pre.length suf = -1 then some (.out (.exit 0) [] []) else some (.out .ret [(2, .d (I' (idx (fun w => w.op == 68) pre.length suf)))] []) := by
  intro suf
  induction suf with
  | nil =>
    intro pre hl
    have : Q.length = pre.length := by simp [hl]
    rw [ev_loop]
    conv => lhs; arg 4; unfold F_nurseryref23_publisher_L0
    simp [this, idx]
  | cons c suf ih =>
    intro pre hl
    have hg : Q[pre.length]? = some c := by simp [hl]
    have hlt : (pre.length : Int) < Q.length := by simp [hl]; omega
    have hnext : IntKind.i64.wrap ((pre.length : Int) + 1) = pre.length + 1 := wrap_i64 (by omega) (by omega)
    have ih' := ih (pre ++ [c]) (by simp [hl])
    simp at ih'
    rw [ev_loop]
    conv => lhs; arg 4; unfold F_nurseryref23_publisher_L0
    cases hw : c.op == 68
    · simp [hlt, hg, W.row, hw, hnext, idx]
      exact ih'
    · have : ¬ (pre.length : Int) = -1 := by omega
      simp [hlt, hg, W.row, hw, idx, this]
theorem ev_publisher (d0 d1 d2 d3 d5 d6 d7 d8 : D) (qn : Bool) (Q : List W) (hn : Q.length ≤ 1000000) :
    ev P (.call nurseryref23_publisher [.d (.ag [d0, d1, d2, d3, qD qn Q, d5, d6, d7, d8])] []) = some (.val (.d (I' (pub Q))) []) := by
  have hL := loop_publisher d0 d1 d2 d3 d5 d6 d7 d8 qn Q hn Q [] rfl
  rw [ev_call P_nurseryref23_publisher rfl]
  unfold pub
  simp at hL
  generalize idx (fun w : W => w.op == 68) 0 Q = r at *
  by_cases hr : r = -1 <;> simp [hr] at hL <;> simp [F_nurseryref23_publisher, hL, hr]
def rfl' (sz : Int) (C : List K) (Q : List W) : Bool := C.any fun c => decide (sz ≤ (c.log.length : Int)) && !wts Q c.task 70
theorem loop_rFull (sz : Int) (x0 x1 x3 d0 d1 d2 d3 d5 d7 d8 : D) (qn : Bool) (Q : List W) (cn : Bool) (C : List K) (hn : Q.length ≤ 1000000) (hc : C.length ≤ 1000000) : ∀ (suf pre : List K), C = pre ++ suf →
    ev P (.loop 0 [2, 3, 5] F_nurseryref23_Full_L0 [(2, .d (.ref [x0, x1, I' sz, x3])), (3, .d (.ref [d0, d1, d2, d3, qD qn Q, d5, cD cn C, d7, d8])), (5, .d (I' pre.length))] []) =
      if rfl' sz suf Q = true then some (.out .ret [(4, .d (.b true))] []) else some (.out (.exit 0) [] []) := by
  intro suf
  induction suf with
  | nil =>
    intro pre hl
    have : C.length = pre.length := by simp [hl]
    rw [ev_loop]
    conv => lhs; arg 4; unfold F_nurseryref23_Full_L0
    simp [this, rfl']
  | cons c suf ih =>
    intro pre hl
    have hg : C[pre.length]? = some c := by simp [hl]
    have hlt : (pre.length : Int) < C.length := by simp [hl]; omega
    have hnext : IntKind.i64.wrap ((pre.length : Int) + 1) = pre.length + 1 := wrap_i64 (by omega) (by omega)
    have ih' := ih (pre ++ [c]) (by simp [hl])
    have hw := ev_waits d0 d1 d2 d3 d5 (cD cn C) d7 d8 qn Q c.task 70 hn
    have e1 : rfl' sz (c :: suf) Q = ((decide (sz ≤ (c.log.length : Int)) && !wts Q c.task 70) || rfl' sz suf Q) := rfl
    rw [e1]
    generalize rfl' sz suf Q = dd at *
    generalize wts Q c.task 70 = ww at *
    simp at ih'
    rw [ev_loop]
    conv => lhs; arg 4; unfold F_nurseryref23_Full_L0
    cases h : decide (sz ≤ (c.log.length : Int))
    · simp at h
      have h' : ¬ (sz ≤ (c.log.length : Int)) := by omega
      simp [hlt, hg, K.row, h', hnext]
      exact ih'
    · simp at h
      cases ww
      · simp [hlt, hg, K.row, h, hw]
      · simp [hlt, hg, K.row, h, hw, hnext]
        exact ih'
theorem ev_rFull (sz : Int) (x0 x1 x3 d0 d1 d2 d3 d5 d7 d8 : D) (qn : Bool) (Q : List W) (cn : Bool) (C : List K) (hn : Q.length ≤ 1000000) (hc : C.length ≤ 1000000) :
    ev P (.call nurseryref23_Full [.d (.ag [x0, x1, I' sz, x3]), .d (.ag [d0, d1, d2, d3, qD qn Q, d5, cD cn C, d7, d8])] []) = some (.val (.d (.b (rfl' sz C Q))) []) := by
  have hL := loop_rFull sz x0 x1 x3 d0 d1 d2 d3 d5 d7 d8 qn Q cn C hn hc C [] rfl
  rw [ev_call P_nurseryref23_Full rfl]
  generalize rfl' sz C Q = v at *
  simp at hL
  cases v <;> simp at hL <;> simp [F_nurseryref23_Full, hL]
theorem loop_rnum (o ds : List D) (k : Int) (bn : Bool) (t : Int) (l : List Int) (hn : l.length ≤ 1000000) : ∀ (suf pre : List Int), l = pre ++ suf →
    ev P (.loop 0 [2, 3, 5, 6, 7] F_nurseryref23_checkCursors_L0 [(2, .d (.ref o)), (3, .d (.ref ds)), (5, .d (I' k)), (6, .d (.ref [I' t, hD bn l])), (7, .d (I' pre.length))] []) =
      if suf.all num = true then some (.out (.exit 2) [(2, .d (.ref o)), (3, .d (.ref ds)), (5, .d (I' k))] []) else some (.out .ret [(4, .d (.b false))] []) := by
  intro suf
  induction suf with
  | nil =>
    intro pre hl
    have : l.length = pre.length := by simp [hl]
    rw [ev_loop]
    conv => lhs; arg 4; unfold F_nurseryref23_checkCursors_L0
    simp [this]
  | cons w suf ih =>
    intro pre hl
    have hg : l[pre.length]? = some w := by simp [hl]
    have hlt : (pre.length : Int) < l.length := by simp [hl]; omega
    have hnext : IntKind.i64.wrap ((pre.length : Int) + 1) = pre.length + 1 := wrap_i64 (by omega) (by omega)
    have ih' := ih (pre ++ [w]) (by simp [hl])
    have e1 : (w :: suf).all num = (num w && suf.all num) := rfl
    have hw := ev_w23 w (-1099511627776) 1099511627776
    have e2 : (decide (-1099511627776 ≤ w) && decide (w ≤ 1099511627776)) = num w := rfl
    rw [e2] at hw
    rw [e1]
    generalize suf.all num = dd at *
    simp at ih'
    rw [ev_loop]
    conv => lhs; arg 4; unfold F_nurseryref23_checkCursors_L0
    cases hv : num w
    · rw [hv] at hw
      simp [hlt, hg, hw]
    · rw [hv] at hw
      simp [hlt, hg, hw, hnext]
      exact ih'
set_option maxHeartbeats 1000000 in
theorem loop_rcursors (sz : Int) (x0 x1 x3 d0 d1 d2 d3 d4 d5 d7 d8 : D) (cn : Bool) (C : List K) (hn : C.length ≤ 1000000) (hl1 : ∀ c ∈ C, c.log.length ≤ 1000000) : ∀ (suf pre : List K), C = pre ++ suf →
    ev P (.loop 0 [2, 3, 5] F_nurseryref23_checkCursors_L1 [(2, .d (.ref [x0, x1, I' sz, x3])), (3, .d (.ref [d0, d1, d2, d3, d4, d5, cD cn C, d7, d8])), (5, .d (I' pre.length))] []) =
      if vc sz pre.getLast? suf = true then some (.out (.exit 0) [] []) else some (.out .ret [(4, .d (.b false))] []) := by
  intro suf
  induction suf with
  | nil =>
    intro pre hl
    have : C.length = pre.length := by simp [hl]
    rw [ev_loop]
    conv => lhs; arg 4; unfold F_nurseryref23_checkCursors_L1
    simp [this, vc]
  | cons c suf ih =>
    intro pre hl
    have hg : C[pre.length]? = some c := by simp [hl]
    have hlt : (pre.length : Int) < C.length := by simp [hl]; omega
    have ih' := ih (pre ++ [c]) (by simp [hl])
    have hN := loop_rnum [x0, x1, I' sz, x3] [d0, d1, d2, d3, d4, d5, cD cn C, d7, d8] pre.length c.nl c.task c.log (hl1 c (by simp [hl])) c.log [] rfl
    have e1 : vc sz pre.getLast? (c :: suf) = (!kbad sz pre.getLast? c && (c.log.all num && vc sz (some c) suf)) := rfl
    have hw := ev_w23 c.task 0 15
    rw [e1]
    simp only [List.getLast?_append, List.getLast?_singleton, Option.some_or] at ih'
    generalize vc sz (some c) suf = dd at *
    generalize c.log.all num = da at *
    simp at ih' hN
    rw [ev_loop]
    conv => lhs; arg 4; unfold F_nurseryref23_checkCursors_L1
    have hnext : IntKind.i64.wrap ((pre.length : Int) + 1) = pre.length + 1 := wrap_i64 (by omega) (by omega)
    have ee : (decide (0 ≤ c.task) && decide (c.task ≤ 15)) = !(decide (c.task < 0) || decide (16 ≤ c.task)) := by
      rw [Bool.eq_iff_iff]; simp; omega
    rw [ee] at hw
    cases h1 : (decide (c.task < 0) || decide (16 ≤ c.task)) <;> rw [h1] at hw
    · rcases List.eq_nil_or_concat pre with rfl | ⟨pre', p, rfl⟩
      · have hlt2 : 0 < C.length := by simp [hl]
        have hg0 : C[0] = c := by simp [hl]
        cases h2 : decide (sz < c.log.length)
        · have hk : kbad sz none c = false := by simp only [kbad, h1, h2, Option.any_none, Bool.or_false]
          simp [wrap1] at ih' hN
          cases da
          · simp at hN
            simp [hlt2, hg0, K.row, hw, h2, hk, hN]
          · simp at hN
            simp [hlt2, hg0, K.row, hw, h2, hk, hN, wrap1]
            exact ih'
        · have hk : kbad sz none c = true := by simp only [kbad, h1, h2, Option.any_none, Bool.or_false, Bool.or_true]
          simp [hlt2, hg0, K.row, hw, h2, hk]
      · have hgp : C[pre'.length]? = some p := by simp [hl]
        have hlen : ((pre'.length : Int) + 1 < C.length) := by simp [hl]; omega
        have hw1 : IntKind.i64.wrap ((pre'.length : Int) + 1 - 1) = pre'.length := by rw [wrap_i64 (by omega) (by omega)]; omega
        have h0 : (0 : Int) < pre'.length + 1 := by omega
        have h00 : (0 : Int) ≤ pre'.length + 1 := by omega
        have hw2 : IntKind.i64.wrap (pre'.length : Int) = pre'.length := wrap_i64 (by omega) (by omega)
        have hw3 : IntKind.i64.wrap ((pre'.length : Int) + 1 + 1) = pre'.length + 1 + 1 := wrap_i64 (by omega) (by omega)
        simp only [List.concat_eq_append, List.length_append, List.length_singleton] at hg
        simp at ih' hN
        cases h3 : decide (c.task ≤ p.task)
        · cases h2 : decide (sz < c.log.length)
          · have hk : kbad sz (some p) c = false := by simp only [kbad, h1, h2, h3, Option.any_some, Bool.or_false]
            cases da
            · simp at hN
              simp [hlen, hg, hgp, hw2, h0, h00, K.row, hw, h2, h3, hk, hN]
            · simp at hN
              simp [hlen, hg, hgp, hw2, h0, h00, K.row, hw, h2, h3, hk, hN, hw3]
              exact ih'
          · have hk : kbad sz (some p) c = true := by simp only [kbad, h1, h2, h3, Option.any_some, Bool.or_false, Bool.or_true]
            simp [hlen, hg, hgp, hw2, h0, h00, K.row, hw, h2, h3, hk]
        · have hk : kbad sz (some p) c = true := by simp only [kbad, h1, h3, Option.any_some, Bool.or_true, Bool.true_or]
          simp [hlen, hg, hgp, hw2, h0, h00, K.row, hw, h3, hk]
    · have hk : kbad sz pre.getLast? c = true := by simp [kbad, h1]
      simp [hlt, hg, K.row, hw, hk]
theorem ev_rcursors (sz : Int) (x0 x1 x3 d0 d1 d2 d3 d4 d5 d7 d8 : D) (cn : Bool) (C : List K) (hn : C.length ≤ 1000000) (hl1 : ∀ c ∈ C, c.log.length ≤ 1000000) :
    ev P (.call nurseryref23_checkCursors [.d (.ag [x0, x1, I' sz, x3]), .d (.ag [d0, d1, d2, d3, d4, d5, cD cn C, d7, d8])] []) = some (.val (.d (.b (vc sz none C))) []) := by
  have hL := loop_rcursors sz x0 x1 x3 d0 d1 d2 d3 d4 d5 d7 d8 cn C hn hl1 C [] rfl
  rw [ev_call P_nurseryref23_checkCursors rfl]
  generalize hv : vc sz none C = v at *
  simp [hv] at hL
  cases v <;> simp at hL <;> simp [F_nurseryref23_checkCursors, hL]
end Go.VS.Tp
namespace Go.VS.Tp
/-! the reference's queue check and Check; they agree with the topic's -/
def rqo (C : List K) (w : W) : Bool := (w.op == 70 || w.op == 68) && (if w.op = 70 then n70 C w else true)
def rq (C : List K) : List W → List W → Bool
  | _, [] => true
  | pre, w :: r => !pre.any (fun x => x.task == w.task) && (w.case == -1 && (rqo C w && rq C (pre ++ [w]) r))
theorem loop_rqueue (o : List D) (d0 d1 d2 d3 d5 d7 d8 : D) (qn : Bool) (Q : List W) (cn : Bool) (C : List K) (hn : Q.length ≤ 1000000) (hc : C.length ≤ 1000000) : ∀ (suf pre : List W), Q = pre ++ suf →
    ev P (.loop 0 [2, 3, 5] F_nurseryref23_checkQueue_L0 [(2, .d (.ref o)), (3, .d (.ref [d0, d1, d2, d3, qD qn Q, d5, cD cn C, d7, d8])), (5, .d (I' pre.length))] []) =
      if rq C pre suf = true then some (.out (.exit 0) [(2, .d (.ref o)), (3, .d (.ref [d0, d1, d2, d3, qD qn Q, d5, cD cn C, d7, d8]))] []) else some (.out .ret [(4, .d (.b false))] []) := by
  intro suf
  induction suf with
  | nil =>
    intro pre hl
    have : Q.length = pre.length := by simp [hl]
    rw [ev_loop]
    conv => lhs; arg 4; unfold F_nurseryref23_checkQueue_L0
    simp [this, rq]
  | cons w suf ih =>
    intro pre hl
    have hg : Q[pre.length]? = some w := by simp [hl]
    have hlt : (pre.length : Int) < Q.length := by simp [hl]; omega
    have hnext : IntKind.i64.wrap ((pre.length : Int) + 1) = pre.length + 1 := wrap_i64 (by omega) (by omega)
    have ih' := ih (pre ++ [w]) (by simp [hl])
    have hF := ev_rFind qn Q w.task hn
    have hfe : ((fdS Q w.task).1 == (pre.length : Int)) = !pre.any (fun x => x.task == w.task) := by rw [hl]; exact fd_eq
    have hfd := ev_cursor d0 d1 d2 d3 (qD qn Q) d5 d7 d8 cn C w.task hc
    have e1 : rq C pre (w :: suf) = (!pre.any (fun x => x.task == w.task) && (w.case == -1 && (rqo C w && rq C (pre ++ [w]) suf))) := rfl
    rw [e1]
    generalize rq C (pre ++ [w]) suf = dd at *
    generalize (fdS Q w.task).1 = fi at *
    generalize (fdS Q w.task).2 = fb at *
    simp at ih'
    rw [ev_loop]
    conv => lhs; arg 4; unfold F_nurseryref23_checkQueue_L0
    cases hop : (w.op != 70 && w.op != 68)
    · cases hk : w.case == -1
      · have hk2 : (w.case != -1) = true := by simp [bne, hk]
        simp [hlt, hg, W.row, hF, hop, hk2]
      · have hk2 : (w.case != -1) = false := by simp [bne, hk]
        cases ha : pre.any (fun x => x.task == w.task)
        · rw [ha] at hfe
          have hfe2 : (fi != (pre.length : Int)) = false := by simp [bne, hfe]
          by_cases h70 : w.op = 70
          · have e2 : rqo C w = n70 C w := by simp [rqo, h70]
            rw [e2]
            rcases fnd_spec C w.task with ⟨f1, f2⟩ | ⟨i, c, f1, f2, f3⟩
            · have e3 : n70 C w = false := by simp [n70, f2]
              rw [f1] at hfd
              simp [hlt, hg, W.row, hF, hfe2, hk2, h70, hfd, e3]
            · have e3 : n70 C w = (!decide (0 < c.log.length) && w.value == 0) := by simp only [n70, f3]
              rw [f1] at hfd
              rw [e3]
              have n1 : ¬ ((i : Int) < 0) := by omega
              cases p1 : decide (0 < c.log.length)
              · cases p2 : w.value == 0
                · have p3 : (w.value != 0) = true := by simp [bne, p2]
                  simp at p1
                  simp [hlt, hg, W.row, hF, hfe2, hk2, h70, hfd, n1, f2, K.row, p1, p3]
                · have p3 : (w.value != 0) = false := by simp [bne, p2]
                  simp at p1
                  simp [hlt, hg, W.row, hF, hfe2, hk2, h70, hfd, n1, f2, K.row, p1, p3, hnext]
                  exact ih'
              · simp at p1
                simp [hlt, hg, W.row, hF, hfe2, hk2, h70, hfd, n1, f2, K.row, p1]
          · have h68 : w.op = 68 := by
              simp [h70] at hop; exact hop
            have e2 : rqo C w = true := by simp [rqo, h68]
            rw [e2]
            simp [hlt, hg, W.row, hF, hfe2, hk2, h68, hnext]
            exact ih'
        · rw [ha] at hfe
          have hfe2 : (fi != (pre.length : Int)) = true := by simp [bne, hfe]
          simp [hlt, hg, W.row, hF, hop, hk2, hfe2]
    · have e2 : rqo C w = false := by
        simp at hop
        simp [rqo, hop.1, hop.2]
      rw [e2]
      simp [hlt, hg, W.row, hF, hop]
theorem ev_rqueue (sz : Int) (x0 x1 x3 d0 d1 d2 d3 d5 d7 d8 : D) (qn : Bool) (Q : List W) (cn : Bool) (C : List K) (hn : Q.length ≤ 1000000) (hc : C.length ≤ 1000000) :
    ev P (.call nurseryref23_checkQueue [.d (.ag [x0, x1, I' sz, x3]), .d (.ag [d0, d1, d2, d3, qD qn Q, d5, cD cn C, d7, d8])] []) =
      some (.val (.d (.b (wchk Q == 0 && (rq C [] Q && (decide (pub Q < 0) || rfl' sz C Q))))) []) := by
  have hL := loop_rqueue [x0, x1, I' sz, x3] d0 d1 d2 d3 d5 d7 d8 qn Q cn C hn hc Q [] rfl
  have hW := ev_rchk qn Q hn
  rw [rchk_eq] at hW
  have hP := ev_publisher d0 d1 d2 d3 d5 (cD cn C) d7 d8 qn Q hn
  have hU := ev_rFull sz x0 x1 x3 d0 d1 d2 d3 d5 d7 d8 qn Q cn C hn hc
  rw [ev_call P_nurseryref23_checkQueue rfl]
  generalize rq C [] Q = v at *
  generalize rfl' sz C Q = u at *
  generalize pub Q = q at *
  simp at hL
  cases hw : wchk Q == 0
  · have hw2 : (wchk Q != 0) = true := by simp [bne, hw]
    simp [F_nurseryref23_checkQueue, hW, hw2]
  · have hw2 : (wchk Q != 0) = false := by simp [bne, hw]
    cases v <;> simp at hL
    · simp [F_nurseryref23_checkQueue, hW, hw2, hL]
    · by_cases hq : q < 0
      · simp [F_nurseryref23_checkQueue, hW, hw2, hL, hP, hq]
      · simp [F_nurseryref23_checkQueue, hW, hw2, hL, hP, hq, hU]
/-! the two checks agree -/
theorem rfl_eq {sz : Int} {C : List K} {Q : List W} (h : ∀ c ∈ C, (c.log.length : Int) ≤ sz) : rfl' sz C Q = fl sz C Q := by
  unfold rfl' fl
  rw [Bool.eq_iff_iff]
  simp only [List.any_eq_true]
  constructor
  · rintro ⟨c, hc, h1⟩
    refine ⟨c, hc, ?_⟩
    have := h c hc
    simp at h1 ⊢
    exact ⟨by omega, h1.2⟩
  · rintro ⟨c, hc, h1⟩
    refine ⟨c, hc, ?_⟩
    simp at h1 ⊢
    exact ⟨by omega, h1.2⟩
theorem vc_len {sz : Int} : ∀ {C : List K} {p : Option K}, vc sz p C = true → ∀ c ∈ C, (c.log.length : Int) ≤ sz
  | [], _, _, c, hc => by simp at hc
  | a :: C, p, h, c, hc => by
    have e1 : vc sz p (a :: C) = (!kbad sz p a && (a.log.all num && vc sz (some a) C)) := rfl
    rw [e1] at h
    simp only [Bool.and_eq_true] at h
    rcases List.mem_cons.1 hc with rfl | hc
    · have h1 := h.1
      unfold kbad at h1
      simp at h1
      omega
    · exact vc_len h.2.2 c hc
theorem pub_neg {Q : List W} : decide (pub Q < 0) = !Q.any fun w => w.op == 68 := by
  have := idx_any (p := fun w : W => w.op == 68) (l := Q) (k := 0) (by omega)
  unfold pub
  cases h : Q.any fun w => w.op == 68
  · rw [h] at this
    have h2 : ¬ 0 ≤ idx (fun w : W => w.op == 68) 0 Q := fun x => by simpa using this.1 x
    simp; omega
  · have := this.2 h
    simp; omega
theorem tq_rq {sz : Int} {C : List K} {Q : List W} : ∀ (suf pre : List W), tq sz C Q pre suf = (rq C pre suf && ((!suf.any fun w => w.op == 68) || fl sz C Q))
  | [], pre => by simp [tq, rq]
  | w :: suf, pre => by
    have e1 : tq sz C Q pre (w :: suf) = (!pre.any (fun x => x.task == w.task) && (w.case == -1 && (tqo sz C Q w && tq sz C Q (pre ++ [w]) suf))) := rfl
    have e2 : rq C pre (w :: suf) = (!pre.any (fun x => x.task == w.task) && (w.case == -1 && (rqo C w && rq C (pre ++ [w]) suf))) := rfl
    have e3 : (w :: suf).any (fun w => w.op == 68) = (w.op == 68 || suf.any (fun w => w.op == 68)) := rfl
    rw [e1, e2, e3, tq_rq suf (pre ++ [w])]
    have e4 : tqo sz C Q w = (rqo C w && (!(w.op == 68) || fl sz C Q)) := by
      unfold tqo rqo
      by_cases h70 : w.op = 70
      · simp [h70]
      · by_cases h68 : w.op = 68 <;> simp [h70, h68]
    rw [e4]
    generalize pre.any (fun x => x.task == w.task) = a1
    generalize rqo C w = a2
    generalize rq C (pre ++ [w]) suf = a3
    generalize suf.any (fun w => w.op == 68) = a4
    generalize fl sz C Q = a5
    generalize (w.op == 68) = a6
    generalize (w.case == -1) = a7
    revert a1 a2 a3 a4 a5 a6 a7
    decide
theorem ev_rCheck (nm : D) (k sz ot : Int) (s : S) (hs : s.sm) :
    ev P (.call nurseryref23_Check [.d (.ag [nm, I' k, I' sz, I' ot]), .d (.ag s.row)] []) = some (.val (.d (I' (ckd k sz ot s))) []) := by
  have hC := ev_rcursors sz nm (I' k) (I' ot) (I' s.own) (I' s.cnt) (I' s.time) (hD s.hn s.H) (qD s.qn s.Q) (hD s.bn s.B) (.b s.cl) (I' s.val) s.cn s.C hs.c hs.l
  have hQ := ev_rqueue sz nm (I' k) (I' ot) (I' s.own) (I' s.cnt) (I' s.time) (hD s.hn s.H) (hD s.bn s.B) (.b s.cl) (I' s.val) s.qn s.Q s.cn s.C hs.q hs.c
  have hh := hs.h
  have hb := hs.b
  rw [ev_call P_nurseryref23_Check rfl]
  unfold ckd
  cases hm : mnew k sz ot == 0
  · have hm' : mnew k sz ot ≠ 0 := by simpa using hm
    have hm2 : (mnew k sz ot != 0) = true := by simpa using hm'
    simp [F_nurseryref23_Check, ev_rNew, hm', hm2, zrow]
  · have hm' : mnew k sz ot = 0 := by simpa using hm
    have hw : IntKind.i64.wrap ((s.H.length : Int) + s.B.length) = s.H.length + s.B.length := wrap_i64 (by omega) (by omega)
    have hd : decide ((0 : Int) < (s.H.length : Int) + s.B.length) = decide (0 < s.H.length + s.B.length) := by
      rw [Bool.eq_iff_iff]; simp; omega
    unfold S.good
    cases ho : s.own == -1
    · have ho2 : (s.own != -1) = true := by simp [bne, ho]
      simp [F_nurseryref23_Check, ev_rNew, hm', frow, ho2]
    · have ho2 : (s.own != -1) = false := by simp [bne, ho]
      cases hz : (s.cnt != 0 || s.time != 0 || decide (0 < s.H.length + s.B.length) || s.cl || s.val != 0)
      · have hz2 : s.fl0 = false := hz
        rw [hz2]
        cases hv : vc sz none s.C <;> rw [hv] at hC
        · simp [F_nurseryref23_Check, ev_rNew, hm', frow, ho2, hC, hw, hd, hz]
        · rw [pub_neg, rfl_eq (vc_len hv)] at hQ
          rw [tq_rq]
          cases hq : (wchk s.Q == 0 && (rq s.C [] s.Q && ((!s.Q.any fun w => w.op == 68) || fl sz s.C s.Q))) <;> rw [hq] at hQ
          · simp [F_nurseryref23_Check, ev_rNew, hm', frow, ho2, hC, hQ, hw, hd, hz]
          · simp [F_nurseryref23_Check, ev_rNew, hm', frow, ho2, hC, hQ, hw, hd, hz]
      · have hz2 : s.fl0 = true := hz
        simp [F_nurseryref23_Check, ev_rNew, hm', frow, ho2, hw, hd, hz, hz2]
end Go.VS.Tp
namespace Go.VS.Tp
/-! call, the board in memory, begin, wake, wait -/
def cbad (task prio now : Int) : Bool := decide (task < 0) || decide (16 ≤ task) || decide (prio < 0) || decide (9 < prio) || decide (now < 0) || decide (1099511627776 < now)
def callE (s : S) (task op value prio now : Int) : Int :=
  if cbad task prio now = true then 2 else if (op == 68 || op == 69 || op == 70 || op == 71) = false then 8 else
  if (op == 68 && !num value) = true then 2 else if (s.Q.any fun w => w.task == task) = true then 17 else
  if (op == 69 && decide (0 ≤ fnd s.C task)) = true then 6 else if ((op == 71 || op == 70) && !decide (0 ≤ fnd s.C task)) = true then 20 else 0
theorem ev_call23 (s : S) (hs : s.sm) (task op value prio now : Int) :
    ev P (.call topic_call [.d (.ag s.row), .d (.ag [I' task, I' op, I' value, I' prio, I' now])] []) = some (.val (.d (I' (callE s task op value prio now))) []) := by
  have hF := ev_wFind s.qn s.Q task hs.q
  rw [fd_any] at hF
  have hfd := ev_find (I' s.own) (I' s.cnt) (I' s.time) (hD s.hn s.H) (qD s.qn s.Q) (hD s.bn s.B) (.b s.cl) (I' s.val) s.cn s.C task hs.c
  have hN := ev_number value
  unfold callE
  generalize (s.Q.any fun w => w.task == task) = a at *
  generalize (fdS s.Q task).1 = fi at *
  generalize fnd s.C task = fk at *
  generalize num value = nv at *
  rw [ev_call P_topic_call rfl]
  cases hb : (decide (task < 0) || decide (16 ≤ task) || decide (prio < 0) || decide (9 < prio) || decide (now < 0) || decide (1099511627776 < now))
  · have hb2 : cbad task prio now = false := hb
    rw [hb2]
    by_cases h68 : op = 68
    · subst h68
      cases nv <;> cases a <;> simp [F_topic_call, hb, hN, hF, hfd]
    · have h68b : (op == 68) = false := by simp [h68]
      by_cases h69 : op = 69
      · subst h69
        cases a
        · by_cases hk : 0 ≤ fk <;> simp [F_topic_call, hb, hF, hfd, hk]
        · simp [F_topic_call, hb, hF, hfd]
      · have h69b : (op == 69) = false := by simp [h69]
        by_cases h70 : op = 70
        · subst h70
          cases a
          · by_cases hk : 0 ≤ fk <;> simp [F_topic_call, hb, hF, hfd, hk]
          · simp [F_topic_call, hb, hF, hfd]
        · have h70b : (op == 70) = false := by simp [h70]
          by_cases h71 : op = 71
          · subst h71
            cases a
            · by_cases hk : 0 ≤ fk <;> simp [F_topic_call, hb, hF, hfd, hk]
            · simp [F_topic_call, hb, hF, hfd]
          · have h71b : (op == 71) = false := by simp [h71]
            simp [F_topic_call, hb, h68b, h69b, h70b, h71b]
  · have hb2 : cbad task prio now = true := hb
    simp [F_topic_call, hb, hb2]
/-- the cells of a board that never change -/
structure Z where
  o : D
  c : D
  t : D
  h : D
  b : D
  l : D
  v : D
structure Wk where
  task : Int
  op : Int
  value : Int
  deriving DecidableEq
def Wk.row (w : Wk) : List D := [I' w.task, I' w.op, I' w.value, .b true, I' (-1)]
/-- the list of those who are woken: nil, an array, an array behind a dead one -/
inductive Wo where
  | nil
  | a0 (l : List Wk)
  | a1 (l : List Wk)
def lkV (z : Z) (sz : Int) (q c w : V) : O := .arrV 11 [[.d (I' sz), .d z.o, .d z.c, .d z.t, .d z.h, q, .d z.b, c, .d z.l, .d z.v, w]]
def lkD (z : Z) (sz : Int) (q c w : D) : O := .arrD 11 true [[I' sz, z.o, z.c, z.t, z.h, q, z.b, c, z.l, z.v, w]]
/-- the subscribers: nil, or an array and what lies behind -/
def hB (z : Z) (sz : Int) (q : D) (C : List K) : Option (List (List D)) → Wo → List O
  | none, .nil => [lkD z sz q (.sl 2 true []) (.sl 5 true [])]
  | none, .a0 l => [lkV z sz (.d q) (.d (.sl 2 true [])) (.asl 1 0 l.length), .arrD 5 true (l.map Wk.row)]
  | none, .a1 l => [lkV z sz (.d q) (.d (.sl 2 true [])) (.asl 2 0 l.length), .dead, .arrD 5 true (l.map Wk.row)]
  | some T, .nil => [lkV z sz (.d q) (.asl 1 0 C.length) (.d (.sl 5 true [])), .arrD 2 true (C.map K.row ++ T)]
  | some T, .a0 l => [lkV z sz (.d q) (.asl 1 0 C.length) (.asl 2 0 l.length), .arrD 2 true (C.map K.row ++ T), .arrD 5 true (l.map Wk.row)]
  | some T, .a1 l => [lkV z sz (.d q) (.asl 1 0 C.length) (.asl 3 0 l.length), .arrD 2 true (C.map K.row ++ T), .dead, .arrD 5 true (l.map Wk.row)]
theorem rg2 : List.range 2 = [0, 1] := rfl
theorem rg3 : List.range 3 = [0, 1, 2] := rfl
theorem rg4 : List.range 4 = [0, 1, 2, 3] := rfl
theorem rg5 : List.range 5 = [0, 1, 2, 3, 4] := rfl
theorem ev_wake0 (z : Z) (sz : Int) (q : D) (C : List K) (cs) (t op v p k x : Int) :
    ev P (.call topic_board_wake [.loc 0 0 0, .d (.ag [I' t, I' op, I' v, I' p, I' k]), .d (I' x)] (hB z sz q C cs .nil)) = some (.val (.tu []) (hB z sz q C cs (.a0 [⟨t, op, x⟩]))) := by
  have hr : 1 ≤ room := by unfold room; omega
  rw [ev_call P_topic_board_wake rfl]
  rcases cs with _ | T <;> simp [F_topic_board_wake, hB, lkD, lkV, Wk.row, reachC, cut, rg2, rg3, rg4, List.idxOf_cons, endH, hr, V.same_self]
theorem ev_wake1 (z : Z) (sz : Int) (q : D) (C : List K) (cs) (l : List Wk) (t op v p k x : Int) (hl : l.length ≤ 1000000) :
    ev P (.call topic_board_wake [.loc 0 0 0, .d (.ag [I' t, I' op, I' v, I' p, I' k]), .d (I' x)] (hB z sz q C cs (.a0 l))) = some (.val (.tu []) (hB z sz q C cs (.a1 (l ++ [⟨t, op, x⟩])))) := by
  have hr : l.length + 1 ≤ room := by unfold room; omega
  rw [ev_call P_topic_board_wake rfl]
  rcases cs with _ | T <;> simp [F_topic_board_wake, hB, lkD, lkV, Wk.row, reachC, cut, rg2, rg3, rg4, rg5, List.idxOf_cons, endH, hr, V.same_self, take_map_len, Nat.not_succ_le_self]
end Go.VS.Tp
namespace Go.VS.Tp
/-! the board as begin makes it -/
theorem ev_Clone (nl : Bool) (q : List W) (hnl : nl = true → q = []) (hn : q.length ≤ 1000000) :
    ev P (.call slices_Clone_api_Waiter_api_Waiter [.d (qD nl q)] []) = if nl = true then some (.val (.d (.sl 5 true [])) []) else some (.val (.asl 0 0 q.length) [.arrD 5 true (q.map W.row)]) := by
  rw [ev_call P_slices_Clone_api_Waiter_api_Waiter rfl]
  cases nl
  · have hr : q.length ≤ room := by unfold room; omega
    cases q with
    | nil => simp [F_slices_Clone_api_Waiter_api_Waiter, mkRows, allDs, reachC, cut, endH]
    | cons a r =>
      simp at hr
      simp [F_slices_Clone_api_Waiter_api_Waiter, mkRows, allDs, reachC, cut, hr, endH]
  · simp [F_slices_Clone_api_Waiter_api_Waiter, endH]
theorem ev_CloneK (nl : Bool) (q : List K) (hnl : nl = true → q = []) (hn : q.length ≤ 1000000) :
    ev P (.call slices_Clone_api_Cursor_api_Cursor [.d (cD nl q)] []) = if nl = true then some (.val (.d (.sl 2 true [])) []) else some (.val (.asl 0 0 q.length) [.arrD 2 true (q.map K.row)]) := by
  rw [ev_call P_slices_Clone_api_Cursor_api_Cursor rfl]
  cases nl
  · have hr : q.length ≤ room := by unfold room; omega
    cases q with
    | nil => simp [F_slices_Clone_api_Cursor_api_Cursor, mkRows, allDs, reachC, cut, endH]
    | cons a r =>
      simp at hr
      simp [F_slices_Clone_api_Cursor_api_Cursor, mkRows, allDs, reachC, cut, hr, endH]
  · simp [F_slices_Clone_api_Cursor_api_Cursor, endH]

def gB (z : Z) (sz : Int) (qn : Bool) (Q : List W) (cn : Bool) (C : List K) : List O :=
  match qn, cn with
  | true, true => [lkD z sz (.sl 5 true []) (.sl 2 true []) (.sl 5 true [])]
  | true, false => [lkV z sz (.d (.sl 5 true [])) (.asl 1 0 C.length) (.d (.sl 5 true [])), .arrD 2 true (C.map K.row)]
  | false, true => [lkV z sz (.asl 1 0 Q.length) (.d (.sl 2 true [])) (.d (.sl 5 true [])), .arrD 5 true (Q.map W.row)]
  | false, false => [lkV z sz (.asl 1 0 Q.length) (.asl 2 0 C.length) (.d (.sl 5 true [])), .arrD 5 true (Q.map W.row), .arrD 2 true (C.map K.row)]
theorem ev_begin (z : Z) (x0 x1 x3 : D) (sz : Int) (qn : Bool) (Q : List W) (cn : Bool) (C : List K) (h1 : qn = true → Q = []) (h2 : cn = true → C = []) (h3 : Q.length ≤ 1000000) (h4 : C.length ≤ 1000000) :
    ev P (.call topic_begin [.d (.ag [x0, x1, I' sz, x3]), .d (.ag [z.o, z.c, z.t, z.h, qD qn Q, z.b, cD cn C, z.l, z.v])] []) = some (.val (.loc 0 0 0) (gB z sz qn Q cn C)) := by
  have hC := ev_CloneK cn C h2 h4
  have hD' := ev_Clone qn Q h1 h3
  rw [ev_call P_topic_begin rfl]
  cases qn <;> cases cn <;> simp at hC hD' <;>
    simp [F_topic_begin, hC, hD', callD, mkRows, allDs, V.same_self, gB, lkD, lkV, reachC, cut, rg2, rg3, rg4, rg5, List.idxOf_cons, endH, overlay]
end Go.VS.Tp
namespace Go.VS.Tp
/-! publish: what each subscriber gets -/
theorem ev_CloneI (nl : Bool) (q : List Int) (hnl : nl = true → q = []) (hn : q.length ≤ 1000000) :
    ev P (.call slices_Clone_int_int [.d (hD nl q)] []) = if nl = true then some (.val (.d (.sl 1 true [])) []) else some (.val (.asl 0 0 q.length) [.arrD 1 true (rows1 q)]) := by
  rw [ev_call P_slices_Clone_int_int rfl]
  cases nl
  · have hr : q.length ≤ room := by unfold room; omega
    cases q with
    | nil => simp [F_slices_Clone_int_int, mkRows, allDs, reachC, cut, endH]
    | cons a r =>
      simp at hr
      simp [F_slices_Clone_int_int, mkRows, allDs, reachC, cut, hr, endH]
  · simp [F_slices_Clone_int_int, endH]
theorem take_snoc {α β : Type} {f : α → β} {r : List α} {x : β} : List.take (r.length + 1) (r.map f ++ [x]) = r.map f ++ [x] := List.take_of_length_le (by simp)
theorem set_mid {α : Type} {A B : List α} {x y : α} {n : Nat} (h : A.length = n) : (A ++ x :: B).set n y = A ++ y :: B := by
  subst h; simp
theorem get_mid {α : Type} {A B : List α} {x : α} {n : Nat} (h : A.length = n) : (A ++ x :: B)[n]? = some x := by
  subst h; simp
/-- what else lies in memory while a value is published -/
inductive Hs where
  | b0
  | b1 (l : List Wk)
  | c (Q : List W)
def hX (z : Z) (sz : Int) (q : D) (n : Nat) (R : List (List D)) : Hs → List O
  | .b0 => [lkV z sz (.d q) (.asl 1 0 n) (.d (.sl 5 true [])), .arrD 2 true R]
  | .b1 l => [lkV z sz (.d q) (.asl 1 0 n) (.asl 2 0 l.length), .arrD 2 true R, .arrD 5 true (l.map Wk.row)]
  | .c Q => [lkV z sz (.d q) (.asl 2 0 n) (.d (.sl 5 true [])), .arrD 5 false (Q.map W.row), .arrD 2 true R]
def Hs.m : Hs → Nat
  | .b0 => 2
  | .b1 _ => 3
  | .c _ => 3
def pubK (Q : List W) (v : Int) (c : K) : K := if wts Q c.task 70 = true then c else ⟨c.task, false, c.log ++ [v]⟩
theorem loop_pub0 (z : Z) (sz : Int) (qn : Bool) (Q : List W) (v : Int) (n : Nat) (T : List (List D)) (sh : Hs) (hq : Q.length ≤ 1000000) (hn : n ≤ 1000000) : ∀ (suf : List K) (A : List (List D)), A.length + suf.length = n →
    (∀ c ∈ suf, (c.nl = true → c.log = []) ∧ c.log.length ≤ 100000) →
    ev P (.loop sh.m [0, 1, 14, 15] F_topic_board_publish_L0 [(0, .loc 0 0 0), (1, .d (I' v)), (14, .d (I' n)), (15, .d (I' A.length))] (hX z sz (qD qn Q) n (A ++ (suf.map K.row ++ T)) sh)) =
      some (.out (.exit 0) [(0, .loc 0 0 0), (1, .d (I' v))] (hX z sz (qD qn Q) n (A ++ ((suf.map (pubK Q v)).map K.row ++ T)) sh)) := by
  intro suf
  induction suf with
  | nil =>
    intro A hl _
    have : n = A.length := by simp at hl; exact hl.symm
    rw [ev_loop]
    conv => lhs; arg 4; unfold F_topic_board_publish_L0
    cases sh <;> simp [this, hX, Hs.m, lkV, reachC, cut, rg2, rg3, List.idxOf_cons]
  | cons c suf ih =>
    intro A hl hc
    have hlt : (A.length : Int) < n := by simp at hl; omega
    have hlt2 : A.length < n := by simp at hl; omega
    have hnext : IntKind.i64.wrap ((A.length : Int) + 1) = A.length + 1 := wrap_i64 (by omega) (by omega)
    have hC := ev_CloneI c.nl c.log (hc c (by simp)).1 (by have := (hc c (by simp)).2; omega)
    have hr : c.log.length + 1 ≤ room := by have := (hc c (by simp)).2; unfold room; omega
    have hrow : c.row = [I' c.task, hD c.nl c.log] := rfl
    have hw : ∀ d0 d1 d2 d3 d5 d6 d7 d8 : D, ev P (.call topic_waiting [.d (.ag [d0, d1, d2, d3, qD qn Q, d5, d6, d7, d8]), .d (I' c.task), .d (I' 70)] []) = some (.val (.d (.b (wts Q c.task 70))) []) := fun d0 d1 d2 d3 d5 d6 d7 d8 => ev_waiting d0 d1 d2 d3 d5 d6 d7 d8 qn Q c.task 70 hq
    have e0 : A ++ ((c :: suf).map K.row ++ T) = A ++ c.row :: (suf.map K.row ++ T) := by simp
    have e1 : A ++ (((c :: suf).map (pubK Q v)).map K.row ++ T) = A ++ [(pubK Q v c).row] ++ ((suf.map (pubK Q v)).map K.row ++ T) := by simp
    have ih' := ih (A ++ [(pubK Q v c).row]) (by simp at hl ⊢; omega) (fun x hx => hc x (by simp [hx]))
    rw [e0, e1, ← ih']
    have e2 : A ++ [(pubK Q v c).row] ++ (suf.map K.row ++ T) = A ++ (pubK Q v c).row :: (suf.map K.row ++ T) := by simp
    rw [e2]
    have hB : n ≤ A.length + ((suf.map K.row ++ T).length + 1) := by simp at hl ⊢; omega
    generalize suf.map K.row ++ T = B at *
    have hgm := get_mid (A := A) (B := B) (x := c.row) (n := A.length) rfl
    have hsm := fun y => set_mid (A := A) (B := B) (x := c.row) (y := y) (n := A.length) rfl
    simp only [List.length_append, List.length_singleton]
    generalize hR : ev P (.loop sh.m [0, 1, 14, 15] F_topic_board_publish_L0 [(0, .loc 0 0 0), (1, .d (I' v)), (14, .d (I' n)), (15, .d (I' (A.length + 1 : Nat)))] (hX z sz (qD qn Q) n (A ++ (pubK Q v c).row :: B) sh)) = R
    rw [ev_loop]
    conv => lhs; arg 4; unfold F_topic_board_publish_L0
    cases hwt : wts Q c.task 70
    · have hp : pubK Q v c = ⟨c.task, false, c.log ++ [v]⟩ := by simp [pubK, hwt]
      rw [hp] at hR
      have hrow2 : K.row ⟨c.task, false, c.log ++ [v]⟩ = [I' c.task, .sl 1 false (rows1 (c.log ++ [v]))] := rfl
      rw [hrow2] at hR
      have hw' := hw
      rw [hwt] at hw'
      cases hnl : c.nl
      · rw [hnl] at hC hrow
        rw [hrow] at hgm hsm
        simp at hR hC
        cases sh
        all_goals
          simp [hX, Hs.m, lkV] at hR
          simp [hlt, hlt2, hgm, hrow, hw', hX, Hs.m, lkV, reachC, cut, rg2, rg3, List.idxOf_cons, hnext, hB, hC, callD, hr, hsm, take_map_len, take_snoc, thaw, freezeAll, freeze1, Nat.not_succ_le_self, hR]
      · rw [hnl] at hC hrow
        have hlg := (hc c (by simp)).1 hnl
        rw [hlg] at hrow hC hR
        rw [hrow] at hgm hsm
        simp at hR hC
        have h1 : 1 ≤ room := by unfold room; omega
        cases sh
        all_goals
          simp [hX, Hs.m, lkV] at hR
          simp [hlt, hlt2, hgm, hrow, hw', hX, Hs.m, lkV, reachC, cut, rg2, rg3, List.idxOf_cons, hnext, hB, hC, callD, h1, hsm, take_map_len, take_snoc, thaw, freezeAll, freeze1, Nat.not_succ_le_self, hR]
    · have hp : pubK Q v c = c := by simp [pubK, hwt]
      rw [hp] at hR
      have hw' := hw
      rw [hwt] at hw'
      rw [hrow] at hgm hR
      simp at hR
      cases sh
      all_goals
        simp [hX, Hs.m, lkV] at hR
        simp [hlt, hlt2, hgm, hrow, hw', hX, Hs.m, lkV, reachC, cut, rg2, rg3, List.idxOf_cons, hnext, hB, hR]
end Go.VS.Tp
namespace Go.VS.Tp
/-! publish: the queue -/
/-- what lies in memory when publish begins: those who are woken, or the queue that was -/
inductive Hk where
  | w0
  | w1 (l : List Wk)
  | wc (Q : List W)
def bH (z : Z) (sz : Int) (q : D) (C : List K) (i : Nat) : Option (List (List D)) → Hk → List Wk → List O
  | none, .w0, [] => [lkD z sz q (.sl 2 true []) (.sl 5 true [])]
  | none, .w0, a :: l => [lkV z sz (.d q) (.d (.sl 2 true [])) (.asl (1 + i) 0 (a :: l).length)]
  | none, .w1 l, [] => [lkV z sz (.d q) (.d (.sl 2 true [])) (.asl 1 0 l.length), .arrD 5 true (l.map Wk.row)]
  | none, .w1 l, a :: r => [lkV z sz (.d q) (.d (.sl 2 true [])) (.asl (2 + i) 0 (l ++ a :: r).length), .dead]
  | none, .wc Q, [] => [lkD z sz q (.sl 2 true []) (.sl 5 true []), .arrD 5 false (Q.map W.row)]
  | none, .wc Q, a :: l => [lkV z sz (.d q) (.d (.sl 2 true [])) (.asl (2 + i) 0 (a :: l).length), .arrD 5 false (Q.map W.row)]
  | some T, .w0, [] => [lkV z sz (.d q) (.asl 1 0 C.length) (.d (.sl 5 true [])), .arrD 2 true (C.map K.row ++ T)]
  | some T, .w0, a :: l => [lkV z sz (.d q) (.asl 1 0 C.length) (.asl (2 + i) 0 (a :: l).length), .arrD 2 true (C.map K.row ++ T)]
  | some T, .w1 l, [] => [lkV z sz (.d q) (.asl 1 0 C.length) (.asl 2 0 l.length), .arrD 2 true (C.map K.row ++ T), .arrD 5 true (l.map Wk.row)]
  | some T, .w1 l, a :: r => [lkV z sz (.d q) (.asl 1 0 C.length) (.asl (3 + i) 0 (l ++ a :: r).length), .arrD 2 true (C.map K.row ++ T), .dead]
  | some T, .wc Q, [] => [lkV z sz (.d q) (.asl 2 0 C.length) (.d (.sl 5 true [])), .arrD 5 false (Q.map W.row), .arrD 2 true (C.map K.row ++ T)]
  | some T, .wc Q, a :: l => [lkV z sz (.d q) (.asl 2 0 C.length) (.asl (3 + i) 0 (a :: l).length), .arrD 5 false (Q.map W.row), .arrD 2 true (C.map K.row ++ T)]
/-- the list of those who are woken, where it is new -/
def fH : Hk → List Wk → List O
  | _, [] => []
  | .w1 l, a :: r => [.arrD 5 true ((l ++ a :: r).map Wk.row)]
  | _, a :: r => [.arrD 5 true ((a :: r).map Wk.row)]
def oV : List W → Nat → V
  | [], _ => .d (.sl 5 true [])
  | a :: l, i => .asl i 0 (a :: l).length
def oO : List W → List O
  | [] => []
  | a :: l => [.arrD 5 true ((a :: l).map W.row)]
def cH (z : Z) (sz : Int) (q : D) (C : List K) (cs : Option (List (List D))) (hk : Hk) (wn : List Wk) (ot : List W) : List O := bH z sz q C (oO ot).length cs hk wn ++ (oO ot ++ fH hk wn)
def mOf : Option (List (List D)) → Hk → Nat
  | none, .w0 => 1
  | none, _ => 2
  | some _, .w0 => 2
  | some _, _ => 3
def wkOf (v : Int) (w : W) : Wk := ⟨w.task, w.op, v⟩
/-- those who are woken, those who remain, of a queue from a place on -/
def pW (v : Int) (Q : List W) : List Wk := (Q.filter fun w => w.op == 70).map (wkOf v)
def pO (Q : List W) : List W := Q.filter fun w => !(w.op == 70)
def Hk.len : Hk → Nat
  | .w1 l => l.length
  | _ => 0
set_option maxHeartbeats 4000000 in
theorem loop_pub1 (z : Z) (sz : Int) (qd : D) (C : List K) (cs : Option (List (List D))) (hk : Hk) (qn : Bool) (Q : List W) (v : Int) (hq : Q.length ≤ 100000) (hh : hk.len ≤ 100000) : ∀ (suf pre : List W) (wn : List Wk) (ot : List W), Q = pre ++ suf → wn.length ≤ pre.length → ot.length ≤ pre.length →
    ev P (.loop (mOf cs hk) [0, 1, 6, 51, 52, 53] F_topic_board_publish_L1 [(0, .loc 0 0 0), (1, .d (I' v)), (6, oV ot (mOf cs hk)), (51, .d (qD qn Q)), (52, .d (I' Q.length)), (53, .d (I' pre.length))] (cH z sz qd C cs hk wn ot)) =
      some (.out (.exit 2) [(0, .loc 0 0 0), (6, oV (ot ++ pO suf) (mOf cs hk))] (cH z sz qd C cs hk (wn ++ pW v suf) (ot ++ pO suf))) := by
  intro suf
  induction suf with
  | nil =>
    intro pre wn ot hl _ _
    have : Q.length = pre.length := by simp [hl]
    rw [ev_loop]
    conv => lhs; arg 4; unfold F_topic_board_publish_L1
    rcases cs with _ | T <;> rcases hk with _ | l | Q0 <;> rcases wn with _ | ⟨a, wn⟩ <;> rcases ot with _ | ⟨b, ot⟩ <;>
      simp [this, pW, pO, cH, bH, fH, oV, oO, mOf, lkV, lkD, reachC, cut, rg2, rg3, List.idxOf_cons]
  | cons w suf ih =>
    intro pre wn ot hl h1 h2
    have hg : Q[pre.length]? = some w := by simp [hl]
    have hlt : (pre.length : Int) < Q.length := by simp [hl]; omega
    have hpl : pre.length < Q.length := by simp [hl]
    have hnext : IntKind.i64.wrap ((pre.length : Int) + 1) = pre.length + 1 := wrap_i64 (by omega) (by omega)
    cases ho : w.op == 70
    · have e1 : pW v (w :: suf) = pW v suf := by simp [pW, ho]
      have e2 : ot ++ pO (w :: suf) = ot ++ [w] ++ pO suf := by simp [pO, ho]
      have ih' := ih (pre ++ [w]) wn (ot ++ [w]) (by simp [hl]) (by simp; omega) (by simp; omega)
      rw [e1, e2, ← ih']
      generalize hR : ev P (.loop (mOf cs hk) [0, 1, 6, 51, 52, 53] F_topic_board_publish_L1 [(0, .loc 0 0 0), (1, .d (I' v)), (6, oV (ot ++ [w]) (mOf cs hk)), (51, .d (qD qn Q)), (52, .d (I' Q.length)), (53, .d (I' (pre ++ [w]).length))] (cH z sz qd C cs hk wn (ot ++ [w]))) = R
      rw [ev_loop]
      conv => lhs; arg 4; unfold F_topic_board_publish_L1
      rcases ot with _ | ⟨b, ot⟩
      · have hr : 1 ≤ room := by unfold room; omega
        rcases cs with _ | T <;> rcases hk with _ | l | Q0 <;> rcases wn with _ | ⟨a, wn⟩
        all_goals
          simp [cH, bH, fH, oV, oO, mOf, lkV, lkD, W.row] at hR
          simp [hlt, hg, W.row, ho, hnext, cH, bH, fH, oV, oO, mOf, lkV, lkD, reachC, cut, rg2, rg3, List.idxOf_cons, hr, hR]
      · have hr : ot.length + 1 + 1 ≤ room := by unfold room; simp at h2; omega
        rcases cs with _ | T <;> rcases hk with _ | l | Q0 <;> rcases wn with _ | ⟨a, wn⟩
        all_goals
          simp [cH, bH, fH, oV, oO, mOf, lkV, lkD, W.row] at hR
          simp [hlt, hg, W.row, ho, hnext, cH, bH, fH, oV, oO, mOf, lkV, lkD, reachC, cut, rg2, rg3, List.idxOf_cons, hr, take_map_len, Nat.not_succ_le_self, hR]
    · have e1 : wn ++ pW v (w :: suf) = wn ++ [⟨w.task, w.op, v⟩] ++ pW v suf := by simp [pW, ho, wkOf]
      have e2 : pO (w :: suf) = pO suf := by simp [pO, ho]
      have ih' := ih (pre ++ [w]) (wn ++ [⟨w.task, w.op, v⟩]) ot (by simp [hl]) (by simp; omega) (by simp; omega)
      rw [e1, e2, ← ih']
      generalize hR : ev P (.loop (mOf cs hk) [0, 1, 6, 51, 52, 53] F_topic_board_publish_L1 [(0, .loc 0 0 0), (1, .d (I' v)), (6, oV ot (mOf cs hk)), (51, .d (qD qn Q)), (52, .d (I' Q.length)), (53, .d (I' (pre ++ [w]).length))] (cH z sz qd C cs hk (wn ++ [⟨w.task, w.op, v⟩]) ot)) = R
      rw [ev_loop]
      conv => lhs; arg 4; unfold F_topic_board_publish_L1
      rcases wn with _ | ⟨a, wn⟩
      · rcases hk with _ | l | Q0
        · have hw := ev_wake0 z sz qd C cs w.task w.op w.value w.prio w.case v
          rcases cs with _ | T <;> rcases ot with _ | ⟨b, ot⟩
          all_goals
            simp [hB, lkV, lkD, Wk.row] at hw
            simp [cH, bH, fH, oV, oO, mOf, lkV, lkD, Wk.row, W.row] at hR
            simp [hlt, hg, W.row, ho, hnext, cH, bH, fH, oV, oO, mOf, lkV, lkD, reachC, cut, rg2, rg3, List.idxOf_cons, hw, callR, sub, setAll, back, hR]
        · have hw := ev_wake1 z sz qd C cs l w.task w.op w.value w.prio w.case v (by simp [Hk.len] at hh; omega)
          rcases cs with _ | T <;> rcases ot with _ | ⟨b, ot⟩
          all_goals
            simp [hB, lkV, lkD, Wk.row] at hw
            simp [cH, bH, fH, oV, oO, mOf, lkV, lkD, Wk.row, W.row] at hR
            simp [hlt, hg, W.row, ho, hnext, cH, bH, fH, oV, oO, mOf, lkV, lkD, reachC, cut, rg2, rg3, List.idxOf_cons, hw, callR, sub, setAll, back, hR]
        · have hw := ev_wake0 z sz qd C cs w.task w.op w.value w.prio w.case v
          rcases cs with _ | T <;> rcases ot with _ | ⟨b, ot⟩
          all_goals
            simp [hB, lkV, lkD, Wk.row] at hw
            simp [cH, bH, fH, oV, oO, mOf, lkV, lkD, Wk.row, W.row] at hR
            simp [hlt, hg, W.row, ho, hnext, cH, bH, fH, oV, oO, mOf, lkV, lkD, reachC, cut, rg2, rg3, List.idxOf_cons, hw, callR, sub, setAll, back, hR]
      · rcases hk with _ | l | Q0
        · have hw := ev_wake1 z sz qd C cs (a :: wn) w.task w.op w.value w.prio w.case v (by simp at h1 ⊢; omega)
          rcases cs with _ | T <;> rcases ot with _ | ⟨b, ot⟩
          all_goals
            simp [hB, lkV, lkD, Wk.row] at hw
            simp [cH, bH, fH, oV, oO, mOf, lkV, lkD, Wk.row, W.row] at hR
            simp [hlt, hg, W.row, ho, hnext, cH, bH, fH, oV, oO, mOf, lkV, lkD, Wk.row, reachC, cut, rg2, rg3, List.idxOf_cons, hw, callR, sub, setAll, back, hR]
        · have hw := ev_wake1 z sz qd C cs (l ++ a :: wn) w.task w.op w.value w.prio w.case v (by simp [Hk.len] at h1 hh ⊢; omega)
          rcases cs with _ | T <;> rcases ot with _ | ⟨b, ot⟩
          all_goals
            simp [hB, lkV, lkD, Wk.row] at hw
            simp [cH, bH, fH, oV, oO, mOf, lkV, lkD, Wk.row, W.row] at hR
            simp [hlt, hg, W.row, ho, hnext, cH, bH, fH, oV, oO, mOf, lkV, lkD, Wk.row, reachC, cut, rg2, rg3, List.idxOf_cons, hw, callR, sub, setAll, back, hR]
        · have hw := ev_wake1 z sz qd C cs (a :: wn) w.task w.op w.value w.prio w.case v (by simp at h1 ⊢; omega)
          rcases cs with _ | T <;> rcases ot with _ | ⟨b, ot⟩
          all_goals
            simp [hB, lkV, lkD, Wk.row] at hw
            simp [cH, bH, fH, oV, oO, mOf, lkV, lkD, Wk.row, W.row] at hR
            simp [hlt, hg, W.row, ho, hnext, cH, bH, fH, oV, oO, mOf, lkV, lkD, Wk.row, reachC, cut, rg2, rg3, List.idxOf_cons, hw, callR, sub, setAll, back, hR]
end Go.VS.Tp
namespace Go.VS.Tp
/-! publish -/
def pH (z : Z) (sz : Int) (qn : Bool) (Q : List W) (C : List K) : Option (List (List D)) → Hk → List O
  | cs, .w0 => hB z sz (qD qn Q) C cs .nil
  | cs, .w1 l => hB z sz (qD qn Q) C cs (.a0 l)
  | none, .wc _ => [lkV z sz (.asl 1 0 Q.length) (.d (.sl 2 true [])) (.d (.sl 5 true [])), .arrD 5 true (Q.map W.row)]
  | some T, .wc _ => [lkV z sz (.asl 1 0 Q.length) (.asl 2 0 C.length) (.d (.sl 5 true [])), .arrD 5 true (Q.map W.row), .arrD 2 true (C.map K.row ++ T)]
def Kok (C : List K) : Prop := ∀ c ∈ C, (c.nl = true → c.log = []) ∧ c.log.length ≤ 100000
def qO (Q : List W) : D := qD (decide (Q = [])) Q
def pR (z : Z) (sz : Int) (q : D) (C : List K) (cs : Option (List (List D))) (hk : Hk) (wn : List Wk) : List O := bH z sz q C 0 cs hk wn ++ fH hk wn
theorem pubL (z : Z) (sz : Int) (qn : Bool) (Q : List W) (v : Int) (C : List K) (cs : Option (List (List D))) (hk : Hk) (hq : Q.length ≤ 100000) (hh : hk.len ≤ 100000) :
    ev P (.loop (mOf cs hk) [0, 1, 6, 51, 52, 53] F_topic_board_publish_L1 [(0, .loc 0 0 0), (1, .d (I' v)), (6, .d (.sl 5 true [])), (51, .d (qD qn Q)), (52, .d (I' Q.length)), (53, .d (I' 0))] (bH z sz (qD qn Q) C 0 cs hk [])) =
      some (.out (.exit 2) [(0, .loc 0 0 0), (6, oV (pO Q) (mOf cs hk))] (cH z sz (qD qn Q) C cs hk (pW v Q) (pO Q))) := by
  have h := loop_pub1 z sz (qD qn Q) C cs hk qn Q v hq hh Q [] [] [] rfl (by simp) (by simp)
  have e1 : cH z sz (qD qn Q) C cs hk [] [] = bH z sz (qD qn Q) C 0 cs hk [] := by
    cases cs <;> cases hk <;> simp [cH, oO, bH, fH]
  rw [e1] at h
  have e2 : (([] : List W).length : Int) = 0 := rfl
  rw [e2, List.nil_append, List.nil_append] at h
  exact h
set_option maxHeartbeats 4000000 in
theorem ev_publish (z : Z) (sz : Int) (qn : Bool) (Q : List W) (v : Int) (C : List K) (cs : Option (List (List D))) (hk : Hk) (hC0 : cs = none → C = []) (hq : Q.length ≤ 100000) (hc : C.length ≤ 100000) (hC : Kok C) (hh : hk.len ≤ 100000) (hk0 : ∀ Q0, hk = .wc Q0 → Q0 = Q ∧ qn = false) :
    ev P (.call topic_board_publish [.loc 0 0 0, .d (I' v)] (pH z sz qn Q C cs hk)) = some (.val (.tu []) (pR z sz (qO (pO Q)) (C.map (pubK Q v)) cs hk (pW v Q))) := by
  have hL := pubL z sz qn Q v (C.map (pubK Q v)) cs hk hq hh
  generalize hwn : pW v Q = wn at *
  generalize hot : pO Q = ot at *
  rw [ev_call P_topic_board_publish rfl]
  rcases cs with _ | T
  · obtain rfl := hC0 rfl
    rcases hk with _ | l | Q0
    · rcases wn with _ | ⟨a, wn⟩ <;> rcases ot with _ | ⟨b, ot⟩
      all_goals
        simp [cH, bH, fH, oV, oO, mOf, lkV, lkD] at hL
        simp [F_topic_board_publish, F_topic_board_publish_L0, ev_loop, freezeAll, freeze1, thaw, pH, pR, qO, hB, cH, bH, fH, oV, oO, mOf, lkV, lkD, reachC, cut, rg2, rg3, List.idxOf_cons, take_map_len, hL, endH, W.row]
    · rcases wn with _ | ⟨a, wn⟩ <;> rcases ot with _ | ⟨b, ot⟩
      all_goals
        simp [cH, bH, fH, oV, oO, mOf, lkV, lkD] at hL
        simp [F_topic_board_publish, F_topic_board_publish_L0, ev_loop, freezeAll, freeze1, thaw, pH, pR, qO, hB, cH, bH, fH, oV, oO, mOf, lkV, lkD, reachC, cut, rg2, rg3, List.idxOf_cons, take_map_len, hL, endH, W.row]
    · obtain ⟨rfl, rfl⟩ := hk0 Q0 rfl
      rcases wn with _ | ⟨a, wn⟩ <;> rcases ot with _ | ⟨b, ot⟩
      all_goals
        simp [cH, bH, fH, oV, oO, mOf, lkV, lkD] at hL
        simp [F_topic_board_publish, F_topic_board_publish_L0, ev_loop, freezeAll, freeze1, thaw, pH, pR, qO, hB, cH, bH, fH, oV, oO, mOf, lkV, lkD, reachC, cut, rg2, rg3, List.idxOf_cons, take_map_len, hL, endH, W.row]
  · rcases hk with _ | l | Q0
    · have hM := loop_pub0 z sz qn Q v C.length T .b0 (by omega) (by omega) C [] (by simp) hC
      rcases wn with _ | ⟨a, wn⟩ <;> rcases ot with _ | ⟨b, ot⟩
      all_goals
        simp [cH, bH, fH, oV, oO, mOf, lkV, lkD, -List.map_map] at hL
        simp [hX, Hs.m, lkV, -List.map_map] at hM
        simp [F_topic_board_publish, freezeAll, freeze1, thaw, pH, pR, qO, hB, cH, bH, fH, oV, oO, mOf, lkV, lkD, reachC, cut, rg2, rg3, List.idxOf_cons, take_map_len, hM, hL, endH, W.row, -List.map_map]
    · have hM := loop_pub0 z sz qn Q v C.length T (.b1 l) (by omega) (by omega) C [] (by simp) hC
      rcases wn with _ | ⟨a, wn⟩ <;> rcases ot with _ | ⟨b, ot⟩
      all_goals
        simp [cH, bH, fH, oV, oO, mOf, lkV, lkD, -List.map_map] at hL
        simp [hX, Hs.m, lkV, -List.map_map] at hM
        simp [F_topic_board_publish, freezeAll, freeze1, thaw, pH, pR, qO, hB, cH, bH, fH, oV, oO, mOf, lkV, lkD, reachC, cut, rg2, rg3, List.idxOf_cons, take_map_len, hM, hL, endH, W.row, -List.map_map]
    · obtain ⟨rfl, rfl⟩ := hk0 Q0 rfl
      have hM := loop_pub0 z sz false Q0 v C.length T (.c Q0) (by omega) (by omega) C [] (by simp) hC
      rcases wn with _ | ⟨a, wn⟩ <;> rcases ot with _ | ⟨b, ot⟩
      all_goals
        simp [cH, bH, fH, oV, oO, mOf, lkV, lkD, -List.map_map] at hL
        simp [hX, Hs.m, lkV, -List.map_map] at hM
        simp [F_topic_board_publish, freezeAll, freeze1, thaw, pH, pR, qO, hB, cH, bH, fH, oV, oO, mOf, lkV, lkD, reachC, cut, rg2, rg3, List.idxOf_cons, take_map_len, hM, hL, endH, W.row, -List.map_map]
end Go.VS.Tp
namespace Go.VS.Tp
/-! advance -/
theorem endX {h : List O} {m : Nat} {vs : List V} : endH h m vs = (cut h m (V.locsL (vs.map V.wk))).map fun L => .val (tuple (V.renL (L.idxOf ·) (vs.map V.wk))) (sub h L) := rfl
def hk1 : List Wk → Hk
  | [] => .w0
  | a :: l => .w1 (a :: l)
set_option maxHeartbeats 4000000 in
theorem round_adv (z : Z) (sz : Int) (qn : Bool) (Q : List W) (C : List K) (cs : Option (List (List D))) (wn : List Wk) (w : W) (hC0 : cs = none → C = []) (hq : Q.length ≤ 100000) (hc : C.length ≤ 100000) (hC : Kok C) (hh : wn.length ≤ 99999) :
    ev P (.round [5] F_topic_board_advance_A0 F_topic_board_advance_B0 [.d (.ag [I' w.task, I' w.op, I' w.value, I' w.prio, I' w.case])] [(1, .rf [.loc 0 0 0])] (pH z sz qn Q C cs (hk1 wn))) =
      some (.out .normal [] (pR z sz (qO (pO Q)) (C.map (pubK Q w.value)) cs (hk1 wn) (⟨w.task, w.op, 0⟩ :: pW w.value Q))) := by
  have hP := ev_publish z sz qn Q w.value C cs (.w1 (wn ++ [⟨w.task, w.op, 0⟩])) hC0 hq hc hC (by simp [Hk.len]; omega) (by intro Q0 h; cases h)
  generalize hwo : pW w.value Q = wo at *
  generalize hot : pO Q = ot at *
  generalize hC' : C.map (pubK Q w.value) = C' at *
  have hl : C'.length = C.length := by simp [← hC']
  rw [ev_round]
  rcases wn with _ | ⟨a, wn⟩
  · have hw := ev_wake0 z sz (qD qn Q) C cs w.task w.op w.value w.prio w.case 0
    rcases cs with _ | T <;> rcases wo with _ | ⟨b, wo⟩
    all_goals
      simp [hB, lkV, lkD, Wk.row] at hw
      simp [pH, hB, pR, bH, fH, lkV, lkD, Wk.row, qO, hl] at hP
      simp [F_topic_board_advance_A0, F_topic_board_advance_B0, hk1, pH, pR, qO, hB, cH, bH, fH, oV, oO, mOf, lkV, lkD, reachC, cut, rg2, rg3, rg4, List.idxOf_cons, take_map_len, callR, sub, setAll, back, hw, hP, Wk.row, hl]
  · have hw := ev_wake1 z sz (qD qn Q) C cs (a :: wn) w.task w.op w.value w.prio w.case 0 (by simp at hh ⊢; omega)
    rcases cs with _ | T <;> rcases wo with _ | ⟨b, wo⟩
    all_goals
      simp [hB, lkV, lkD, Wk.row] at hw
      simp [pH, hB, pR, bH, fH, lkV, lkD, Wk.row, qO, hl] at hP
      simp [F_topic_board_advance_A0, F_topic_board_advance_B0, hk1, pH, pR, qO, hB, cH, bH, fH, oV, oO, mOf, lkV, lkD, reachC, cut, rg2, rg3, rg4, List.idxOf_cons, take_map_len, callR, sub, setAll, back, hw, hP, Wk.row, hl]
end Go.VS.Tp
namespace Go.VS.Tp
/-! Delete of one element -/
theorem ev_DeleteW (A B : List (List D)) (r : List D) (h : A.length + B.length ≤ 100000) :
    ev P (.call slices_Delete_api_Waiter_api_Waiter [.asl 0 0 (A.length + (B.length + 1)), .d (I' A.length), .d (I' (A.length + 1))] [.arrD 5 true (A ++ r :: B)]) =
      some (.val (.asl 0 0 (A.length + B.length)) [.arrD 5 true (A ++ (B ++ [[I' 0, I' 0, I' 0, I' 0, I' 0]]))]) := by
  have h1 : (A.length : Int) ≤ A.length + 1 := by omega
  have h2 : (A.length : Int) + 1 ≤ A.length + (B.length + 1) := by omega
  have h3 : (0 : Int) ≤ A.length + 1 := by omega
  have h4 : ((A.length : Int) == A.length + 1) = false := by simp; omega
  have h7 : (A.length : Int) ≤ A.length + (B.length + 1) := by omega
  have h5 : A.length + B.length ≤ A.length + (B.length + 1) := by omega
  have h6 : ¬ (A.length + (B.length + 1) < A.length + B.length) := by omega
  rw [ev_call P_slices_Delete_api_Waiter_api_Waiter rfl]
  have h11 : (A.length : Int) < A.length + 1 := by omega
  rcases B with _ | ⟨b, B⟩
  · have h9 : ¬ ((A.length : Int) + 1 = 0) := by omega
    simp at h2 h5 h6 h7
    simp [F_slices_Delete_api_Waiter_api_Waiter, reachC, cut, h1, h2, h3, h4, h5, h6, h7, h9, h11, endH]
  · have h8 : (1 : Int) < B.length + 1 + 1 := by omega
    have h9 : ¬ ((A.length : Int) + 1 = 0) := by omega
    have h12 : A.length + 1 + (B.length + 1) ≤ A.length + (B.length + 1 + 1) := by omega
    obtain ⟨x, hx⟩ : ∃ x, List.drop (B.length + 1) (r :: b :: B) = [x] := List.length_eq_one_iff.1 (by simp)
    have h13 : ¬ ((A.length : Int) + (B.length + 1) = 0) := by omega
    have h14 : (0 : Int) ≤ (A.length : Int) + (B.length + 1) := by omega
    have h15 : (B.length : Int) ≤ B.length + 1 := by omega
    have h16 : (B.length : Int) < B.length + 1 := by omega
    have h17 : ((A.length : Int) + (B.length + 1)).toNat = A.length + (B.length + 1) := by omega
    have h18 : ((A.length : Int) + (B.length + 1 + 1) - (A.length + (B.length + 1))).toNat = 1 := by omega
    have h20 : A.length + (B.length + 1) + 1 ≤ A.length + (B.length + 1 + 1) := by omega
    have h21 : List.take (A.length + (B.length + 1)) (A ++ b :: (B ++ [x])) = A ++ b :: B := by
      have : A ++ b :: (B ++ [x]) = (A ++ b :: B) ++ [x] := by simp
      rw [this]
      exact List.take_left' (by simp)
    have h22 : List.drop (A.length + (B.length + 1) + 1) (A ++ b :: (B ++ [x])) = [] := List.drop_eq_nil_of_le (by simp; omega)
    have h10 : ((A.length : Int) + (B.length + 1 + 1) - (A.length + 1)).toNat = B.length + 1 := by omega
    simp at h2 h5 h6 h7
    simp [F_slices_Delete_api_Waiter_api_Waiter, reachC, cut, h1, h2, h3, h4, h5, h6, h7, h8, h9, h10, h11, h12, h13, h14, h15, h16, h17, h18, h20, h21, h22, hx, endH]
theorem ev_DeleteK (A B : List (List D)) (r : List D) (h : A.length + B.length ≤ 100000) :
    ev P (.call slices_Delete_api_Cursor_api_Cursor [.asl 0 0 (A.length + (B.length + 1)), .d (I' A.length), .d (I' (A.length + 1))] [.arrD 2 true (A ++ r :: B)]) =
      some (.val (.asl 0 0 (A.length + B.length)) [.arrD 2 true (A ++ (B ++ [[I' 0, .sl 1 true []]]))]) := by
  have h1 : (A.length : Int) ≤ A.length + 1 := by omega
  have h2 : (A.length : Int) + 1 ≤ A.length + (B.length + 1) := by omega
  have h3 : (0 : Int) ≤ A.length + 1 := by omega
  have h4 : ((A.length : Int) == A.length + 1) = false := by simp; omega
  have h7 : (A.length : Int) ≤ A.length + (B.length + 1) := by omega
  have h5 : A.length + B.length ≤ A.length + (B.length + 1) := by omega
  have h6 : ¬ (A.length + (B.length + 1) < A.length + B.length) := by omega
  rw [ev_call P_slices_Delete_api_Cursor_api_Cursor rfl]
  have h11 : (A.length : Int) < A.length + 1 := by omega
  rcases B with _ | ⟨b, B⟩
  · have h9 : ¬ ((A.length : Int) + 1 = 0) := by omega
    simp at h2 h5 h6 h7
    simp [F_slices_Delete_api_Cursor_api_Cursor, reachC, cut, h1, h2, h3, h4, h5, h6, h7, h9, h11, endH]
  · have h8 : (1 : Int) < B.length + 1 + 1 := by omega
    have h9 : ¬ ((A.length : Int) + 1 = 0) := by omega
    have h12 : A.length + 1 + (B.length + 1) ≤ A.length + (B.length + 1 + 1) := by omega
    obtain ⟨x, hx⟩ : ∃ x, List.drop (B.length + 1) (r :: b :: B) = [x] := List.length_eq_one_iff.1 (by simp)
    have h13 : ¬ ((A.length : Int) + (B.length + 1) = 0) := by omega
    have h14 : (0 : Int) ≤ (A.length : Int) + (B.length + 1) := by omega
    have h15 : (B.length : Int) ≤ B.length + 1 := by omega
    have h16 : (B.length : Int) < B.length + 1 := by omega
    have h17 : ((A.length : Int) + (B.length + 1)).toNat = A.length + (B.length + 1) := by omega
    have h18 : ((A.length : Int) + (B.length + 1 + 1) - (A.length + (B.length + 1))).toNat = 1 := by omega
    have h20 : A.length + (B.length + 1) + 1 ≤ A.length + (B.length + 1 + 1) := by omega
    have h21 : List.take (A.length + (B.length + 1)) (A ++ b :: (B ++ [x])) = A ++ b :: B := by
      have : A ++ b :: (B ++ [x]) = (A ++ b :: B) ++ [x] := by simp
      rw [this]
      exact List.take_left' (by simp)
    have h22 : List.drop (A.length + (B.length + 1) + 1) (A ++ b :: (B ++ [x])) = [] := List.drop_eq_nil_of_le (by simp; omega)
    have h10 : ((A.length : Int) + (B.length + 1 + 1) - (A.length + 1)).toNat = B.length + 1 := by omega
    simp at h2 h5 h6 h7
    simp [F_slices_Delete_api_Cursor_api_Cursor, reachC, cut, h1, h2, h3, h4, h5, h6, h7, h8, h9, h10, h11, h12, h13, h14, h15, h16, h17, h18, h20, h21, h22, hx, endH]
theorem ev_DeleteWk (A B : List (List D)) (r : List D) (h : A.length + B.length ≤ 100000) :
    ev P (.call slices_Delete_api_Wake_api_Wake [.asl 0 0 (A.length + (B.length + 1)), .d (I' A.length), .d (I' (A.length + 1))] [.arrD 5 true (A ++ r :: B)]) =
      some (.val (.asl 0 0 (A.length + B.length)) [.arrD 5 true (A ++ (B ++ [[I' 0, I' 0, I' 0, .b false, I' 0]]))]) := by
  have h1 : (A.length : Int) ≤ A.length + 1 := by omega
  have h2 : (A.length : Int) + 1 ≤ A.length + (B.length + 1) := by omega
  have h3 : (0 : Int) ≤ A.length + 1 := by omega
  have h4 : ((A.length : Int) == A.length + 1) = false := by simp; omega
  have h7 : (A.length : Int) ≤ A.length + (B.length + 1) := by omega
  have h5 : A.length + B.length ≤ A.length + (B.length + 1) := by omega
  have h6 : ¬ (A.length + (B.length + 1) < A.length + B.length) := by omega
  rw [ev_call P_slices_Delete_api_Wake_api_Wake rfl]
  have h11 : (A.length : Int) < A.length + 1 := by omega
  rcases B with _ | ⟨b, B⟩
  · have h9 : ¬ ((A.length : Int) + 1 = 0) := by omega
    simp at h2 h5 h6 h7
    simp [F_slices_Delete_api_Wake_api_Wake, reachC, cut, h1, h2, h3, h4, h5, h6, h7, h9, h11, endH]
  · have h8 : (1 : Int) < B.length + 1 + 1 := by omega
    have h9 : ¬ ((A.length : Int) + 1 = 0) := by omega
    have h12 : A.length + 1 + (B.length + 1) ≤ A.length + (B.length + 1 + 1) := by omega
    obtain ⟨x, hx⟩ : ∃ x, List.drop (B.length + 1) (r :: b :: B) = [x] := List.length_eq_one_iff.1 (by simp)
    have h13 : ¬ ((A.length : Int) + (B.length + 1) = 0) := by omega
    have h14 : (0 : Int) ≤ (A.length : Int) + (B.length + 1) := by omega
    have h15 : (B.length : Int) ≤ B.length + 1 := by omega
    have h16 : (B.length : Int) < B.length + 1 := by omega
    have h17 : ((A.length : Int) + (B.length + 1)).toNat = A.length + (B.length + 1) := by omega
    have h18 : ((A.length : Int) + (B.length + 1 + 1) - (A.length + (B.length + 1))).toNat = 1 := by omega
    have h20 : A.length + (B.length + 1) + 1 ≤ A.length + (B.length + 1 + 1) := by omega
    have h21 : List.take (A.length + (B.length + 1)) (A ++ b :: (B ++ [x])) = A ++ b :: B := by
      have : A ++ b :: (B ++ [x]) = (A ++ b :: B) ++ [x] := by simp
      rw [this]
      exact List.take_left' (by simp)
    have h22 : List.drop (A.length + (B.length + 1) + 1) (A ++ b :: (B ++ [x])) = [] := List.drop_eq_nil_of_le (by simp; omega)
    have h10 : ((A.length : Int) + (B.length + 1 + 1) - (A.length + 1)).toNat = B.length + 1 := by omega
    simp at h2 h5 h6 h7
    simp [F_slices_Delete_api_Wake_api_Wake, reachC, cut, h1, h2, h3, h4, h5, h6, h7, h8, h9, h10, h11, h12, h13, h14, h15, h16, h17, h18, h20, h21, h22, hx, endH]
theorem ev_pC1C1 (a b c d e : Int) : ev P (.call topic_board_publishersC1C1 [.d (.ag [I' a, I' b, I' c, I' d, I' e])] []) = some (.val (.d (.b (b == 68))) []) := by
  rw [ev_call P_topic_board_publishersC1C1 rfl]
  simp [F_topic_board_publishersC1C1]
theorem ev_pub (nl : Bool) (l : List W) (hn : l.length ≤ 1000000) :
    ev P (.call slices_IndexFunc_api_Waiter_api_Waiter [.d (qD nl l), .d (.fn topic_board_publishersC1C1 [] [])] []) = some (.val (.d (I' (pub l))) []) := by
  have h := ev_IndexFunc (f := topic_board_publishersC1C1) (first := []) (caps := []) (p := fun w => w.op == 68) nl l hn (by intro a b c d e; simp [ev_pC1C1])
  exact h
theorem ev_publishers (z : Z) (sz : Int) (q : D) (C : List K) (cs : Option (List (List D))) :
    ev P (.call topic_board_publishers [.loc 0 0 0] (hB z sz q C cs .nil)) = some (.val (.fn topic_board_publishersC1 [] [.rf [.loc 0 0 0]]) (hB z sz q C cs .nil)) := by
  rw [ev_call P_topic_board_publishers rfl]
  rcases cs with _ | T <;> simp [F_topic_board_publishers, hB, lkV, lkD, reachC, cut, rg2, rg3, List.idxOf_cons, endH]
end Go.VS.Tp
namespace Go.VS.Tp
abbrev lpA : O := .lp [5] F_topic_board_advance_A0 F_topic_board_advance_B0 .normal [(1, .rf [.loc 1 0 0])]
/-- the board beside the loop's record -/
def aH (z : Z) (sz : Int) (q : D) (C : List K) : Option (List (List D)) → List Wk → List O
  | none, [] => [lpA, lkD z sz q (.sl 2 true []) (.sl 5 true [])]
  | none, a :: l => [lpA, lkV z sz (.d q) (.d (.sl 2 true [])) (.asl 2 0 (a :: l).length), .arrD 5 true ((a :: l).map Wk.row)]
  | some T, [] => [lpA, lkV z sz (.d q) (.asl 2 0 C.length) (.d (.sl 5 true [])), .arrD 2 true (C.map K.row ++ T)]
  | some T, a :: l => [lpA, lkV z sz (.d q) (.asl 2 0 C.length) (.asl 3 0 (a :: l).length), .arrD 2 true (C.map K.row ++ T), .arrD 5 true ((a :: l).map Wk.row)]
def mA : Option (List (List D)) → Nat
  | none => 2
  | some _ => 3
/-- one step of advance -/
def Q1 (Q : List W) : List W := Q.eraseIdx (pub Q).toNat
theorem pub_spec (Q : List W) : (pub Q = -1 ∧ Q.find? (fun w => w.op == 68) = none) ∨ ∃ (A B : List W) (w : W), Q = A ++ w :: B ∧ pub Q = (A.length : Int) ∧ w.op = 68 := by
  rcases idx_spec (p := fun w : W => w.op == 68) Q 0 with ⟨h1, h2⟩ | ⟨i, c, h1, h2, h3⟩
  · exact .inl ⟨h1, h2⟩
  · right
    have hc : c.op = 68 := by have := List.find?_some h3; simpa using this
    obtain ⟨hlt, he⟩ := List.getElem?_eq_some_iff.1 h2
    refine ⟨Q.take i, Q.drop (i + 1), c, ?_, ?_, hc⟩
    · rw [← he]; simp
    · have : (Q.take i).length = i := by simp; omega
      rw [this]
      simp at h1
      exact h1
structure Ad where
  qn : Bool
  Q : List W
  C : List K
  wn : List Wk
def Ad.step (a : Ad) (w : W) : Ad := ⟨decide (pO (Q1 a.Q) = []), pO (Q1 a.Q), a.C.map (pubK (Q1 a.Q) w.value), a.wn ++ ⟨w.task, w.op, 0⟩ :: pW w.value (Q1 a.Q)⟩
def advF (sz : Int) : Nat → Ad → Ad
  | 0, a => a
  | n + 1, a => if pub a.Q < 0 ∨ fl sz a.C a.Q = true then a else
    match a.Q[(pub a.Q).toNat]? with
    | none => a
    | some w => advF sz n (a.step w)
def Ad.ok (cs : Option (List (List D))) (a : Ad) : Prop :=
  (cs = none → a.C = []) ∧ a.C.length ≤ 100000 ∧ (∀ c ∈ a.C, (c.nl = true → c.log = []) ∧ c.log.length + a.Q.length ≤ 100000) ∧ a.Q.length + a.wn.length ≤ 90000 ∧ (a.qn = true → a.Q = [])
theorem Q1_eq {A B : List W} {w : W} (h : pub (A ++ w :: B) = (A.length : Int)) : Q1 (A ++ w :: B) = A ++ B := by
  unfold Q1
  rw [h]
  have e : ((A.length : Int)).toNat = A.length := by omega
  rw [e, List.eraseIdx_append_of_length_le (by omega)]
  simp
theorem pO_len (v : Int) (Q : List W) : (pO Q).length + (pW v Q).length = Q.length := by
  unfold pO pW
  rw [List.length_map]
  induction Q with
  | nil => rfl
  | cons w r ih => cases h : w.op == 70 <;> simp [h] <;> omega
theorem pO_le (Q : List W) : (pO Q).length ≤ Q.length := List.length_filter_le _ _
theorem Ad.ok_step {cs : Option (List (List D))} {a : Ad} {A B : List W} {w : W} (hQ : a.Q = A ++ w :: B) (h : pub a.Q = (A.length : Int)) (hok : a.ok cs) : (a.step w).ok cs := by
  obtain ⟨hC0, hc, hC, hw, hqn⟩ := hok
  have hq1 : Q1 a.Q = A ++ B := by rw [hQ]; exact Q1_eq (by rw [← hQ]; exact h)
  have hl := pO_le (A ++ B)
  have hl2 := pO_len w.value (A ++ B)
  have hQl : a.Q.length = A.length + (B.length + 1) := by rw [hQ]; simp
  simp only [List.length_append] at hl hl2
  refine ⟨?_, ?_, ?_, ?_, ?_⟩
  · intro e; simp [Ad.step, hC0 e]
  · simp [Ad.step]; exact hc
  · intro c hcm
    simp only [Ad.step] at hcm ⊢
    obtain ⟨c0, hc0, rfl⟩ := List.mem_map.1 hcm
    have := hC c0 hc0
    rw [hq1] at *
    unfold pubK
    split
    · exact ⟨this.1, by omega⟩
    · refine ⟨by simp, ?_⟩
      simp only [List.length_append, List.length_singleton]
      omega
  · simp only [Ad.step, List.length_append, List.length_cons]
    rw [hq1]
    omega
  · simp [Ad.step]
set_option maxHeartbeats 4000000 in
theorem loop_adv (z : Z) (sz : Int) (cs : Option (List (List D))) : ∀ (n : Nat) (a : Ad), a.Q.length < n → a.ok cs →
    ev P (.loop (mA cs) [0, 1] F_topic_board_publishersC1_L0 [(0, .yld 0), (1, .rf [.loc 1 0 0])] (aH z sz (qD a.qn a.Q) a.C cs a.wn)) =
      some (.out .ret [] (aH z sz (qD (advF sz n a).qn (advF sz n a).Q) (advF sz n a).C cs (advF sz n a).wn)) := by
  intro n
  induction n with
  | zero => intro a h; omega
  | succ n ih =>
    intro a hn hok
    obtain ⟨qn, Q, C, wn⟩ := a
    obtain ⟨hC0, hc, hC, hw, hqn⟩ := hok
    simp only at hC0 hc hC hw hqn hn ⊢
    have hI := ev_pub qn Q (by omega)
    rw [ev_loop]
    conv => lhs; arg 4; unfold F_topic_board_publishersC1_L0
    by_cases hp : pub Q < 0
    · have e : advF sz (n + 1) ⟨qn, Q, C, wn⟩ = ⟨qn, Q, C, wn⟩ := by simp [advF, hp]
      rw [e]
      rcases cs with _ | T <;> rcases wn with _ | ⟨x, wn⟩
      all_goals
        simp [aH, mA, lkV, lkD, hI, hp, reachC, cut, rg2, rg3, rg4, List.idxOf_cons]
    · cases hf : fl sz C Q
      · rcases pub_spec Q with ⟨h1, _⟩ | ⟨A, B, w, hQ, hpe, h68⟩
        · omega
        · have hst := Ad.ok_step (a := ⟨qn, Q, C, wn⟩) hQ hpe ⟨hC0, hc, hC, hw, hqn⟩
          have hq1 : Q1 Q = A ++ B := by rw [hQ]; exact Q1_eq (by rw [← hQ]; exact hpe)
          have hgm : Q[A.length]? = some w := by rw [hQ]; simp
          have hQl : Q.length = A.length + (B.length + 1) := by rw [hQ]; simp
          have hlt : A.length < Q.length := by omega
          have e : advF sz (n + 1) ⟨qn, Q, C, wn⟩ = advF sz n (Ad.step ⟨qn, Q, C, wn⟩ w) := by
            have n1 : ¬ ((A.length : Int) < 0) := by omega
            simp [advF, n1, hf, hpe, hgm]
          have hsl : (Ad.step ⟨qn, Q, C, wn⟩ w).Q.length < n := by
            have := pO_le (A ++ B)
            simp only [Ad.step, hq1]
            simp at this
            omega
          have ih' := ih _ hsl hst
          rw [e, ← ih']
          have hqf : qn = false := by
            cases qn
            · rfl
            · rw [hqn rfl] at hQl; simp at hQl
          subst hqf
          simp only [Ad.step, hq1]
          have hR := round_adv z sz false (A ++ B) C cs wn w hC0 (by simp; omega) hc (fun c hcm => ⟨(hC c hcm).1, by have := (hC c hcm).2; omega⟩) (by omega)
          have hD := ev_DeleteW (A.map W.row) (B.map W.row) w.row (by simp; omega)
          have hK := ev_Clone false Q (by simp) (by omega)
          have hwr : w.row = [I' w.task, I' w.op, I' w.value, I' w.prio, I' w.case] := rfl
          have hfu : ∀ (d0 d1 d2 d3 d5 d7 d8 : D) (cn : Bool), ev P (.call topic_full [.d (I' sz), .d (.ag [d0, d1, d2, d3, qD false Q, d5, .sl 2 cn (C.map K.row), d7, d8])] []) = some (.val (.d (.b false)) []) := by
            intro d0 d1 d2 d3 d5 d7 d8 cn
            have := ev_full sz d0 d1 d2 d3 d5 d7 d8 false Q cn C (by omega) (by omega)
            rw [hf] at this
            exact this
          have hw1 : IntKind.i64.wrap ((A.length : Int) + 1) = A.length + 1 := wrap_i64 (by omega) (by omega)
          rw [hpe] at hI
          have n1 : ¬ ((A.length : Int) < 0) := by omega
          rw [hQl] at hK
          have hlt2 : (A.length : Int) < A.length + (B.length + 1) := by omega
          have n2 : A.length < A.length + (B.length + 1) := by omega
          have htk : List.take (A.length + B.length) (A.map W.row ++ (B.map W.row ++ [[I' 0, I' 0, I' 0, I' 0, I' 0]])) = (A ++ B).map W.row := by
            have : A.map W.row ++ (B.map W.row ++ [[I' 0, I' 0, I' 0, I' 0, I' 0]]) = (A ++ B).map W.row ++ [[I' 0, I' 0, I' 0, I' 0, I' 0]] := by simp
            rw [this]
            exact List.take_left' (by simp)
          generalize hR2 : ev P (.loop (mA cs) [0, 1] F_topic_board_publishersC1_L0 [(0, .yld 0), (1, .rf [.loc 1 0 0])] (aH z sz (qD (decide (pO (A ++ B) = [])) (pO (A ++ B))) (C.map (pubK (A ++ B) w.value)) cs (wn ++ ⟨w.task, w.op, 0⟩ :: pW w.value (A ++ B)))) = R
          generalize hwo : pW w.value (A ++ B) = wo at *
          generalize hot : pO (A ++ B) = ot at *
          generalize hC' : C.map (pubK (A ++ B) w.value) = C' at *
          have hl : C'.length = C.length := by simp [← hC']
          rcases cs with _ | T <;> rcases wn with _ | ⟨x, wn⟩
          · obtain rfl := hC0 rfl
            simp [aH, mA, lkV, lkD, hl, qD, Wk.row] at hR2
            simp [hk1, pH, pR, hB, bH, fH, qO, lkV, lkD, hwr, qD, hl, Wk.row] at hR hD
            simp [hQ, hwr] at hK hI hfu
            simp [hQ, aH, mA, lkV, lkD, hI, n1, hwr, hlt2, n2, hfu, hK, hD, hw1, htk, hR, callD, callR, sub, setAll, back, callY, thaw, freezeAll, freeze1, V.same_self, reachC, cut, rg2, rg3, rg4, List.idxOf_cons, take_map_len, Wk.row, hR2, hl]
          · obtain rfl := hC0 rfl
            simp [aH, mA, lkV, lkD, hl, qD, Wk.row] at hR2
            simp [hk1, pH, pR, hB, bH, fH, qO, lkV, lkD, hwr, qD, hl, Wk.row] at hR hD
            simp [hQ, hwr] at hK hI hfu
            simp [hQ, aH, mA, lkV, lkD, hI, n1, hwr, hlt2, n2, hfu, hK, hD, hw1, htk, hR, callD, callR, sub, setAll, back, callY, thaw, freezeAll, freeze1, V.same_self, reachC, cut, rg2, rg3, rg4, List.idxOf_cons, take_map_len, Wk.row, hR2, hl]
          · simp [aH, mA, lkV, lkD, hl, qD, Wk.row] at hR2
            simp [hk1, pH, pR, hB, bH, fH, qO, lkV, lkD, hwr, qD, hl, Wk.row] at hR hD
            simp [hQ, hwr] at hK hI hfu
            simp [hQ, aH, mA, lkV, lkD, hI, n1, hwr, hlt2, n2, hfu, hK, hD, hw1, htk, hR, callD, callR, sub, setAll, back, callY, thaw, freezeAll, freeze1, V.same_self, reachC, cut, rg2, rg3, rg4, List.idxOf_cons, take_map_len, Wk.row, hR2, hl]
          · simp [aH, mA, lkV, lkD, hl, qD, Wk.row] at hR2
            simp [hk1, pH, pR, hB, bH, fH, qO, lkV, lkD, hwr, qD, hl, Wk.row] at hR hD
            simp [hQ, hwr] at hK hI hfu
            simp [hQ, aH, mA, lkV, lkD, hI, n1, hwr, hlt2, n2, hfu, hK, hD, hw1, htk, hR, callD, callR, sub, setAll, back, callY, thaw, freezeAll, freeze1, V.same_self, reachC, cut, rg2, rg3, rg4, List.idxOf_cons, take_map_len, Wk.row, hR2, hl]
      · have e : advF sz (n + 1) ⟨qn, Q, C, wn⟩ = ⟨qn, Q, C, wn⟩ := by simp [advF, hf]
        rw [e]
        have hfu : ∀ (d0 d1 d2 d3 d5 d7 d8 : D), ev P (.call topic_full [.d (I' sz), .d (.ag [d0, d1, d2, d3, qD qn Q, d5, .sl 2 false (C.map K.row), d7, d8])] []) = some (.val (.d (.b true)) []) := by
          intro d0 d1 d2 d3 d5 d7 d8
          have := ev_full sz d0 d1 d2 d3 d5 d7 d8 qn Q false C (by omega) (by omega)
          rw [hf] at this
          exact this
        rcases cs with _ | T <;> rcases wn with _ | ⟨x, wn⟩
        · obtain rfl := hC0 rfl
          simp [fl] at hf
        · obtain rfl := hC0 rfl
          simp [fl] at hf
        · simp [aH, mA, lkV, lkD, hI, hp, hfu, reachC, cut, rg2, rg3, rg4, List.idxOf_cons, take_map_len]
        · simp [aH, mA, lkV, lkD, hI, hp, hfu, reachC, cut, rg2, rg3, rg4, List.idxOf_cons, take_map_len]
end Go.VS.Tp
namespace Go.VS.Tp
def adv (sz : Int) (qn : Bool) (Q : List W) (C : List K) : Ad := advF sz (Q.length + 1) ⟨qn, Q, C, []⟩
theorem advF_len (sz : Int) : ∀ (n : Nat) (a : Ad), (advF sz n a).C.length = a.C.length
  | 0, a => rfl
  | n + 1, a => by
    unfold advF
    split
    · rfl
    · split
      · rfl
      · rw [advF_len sz n]; simp [Ad.step]
set_option maxHeartbeats 4000000 in
theorem ev_advance (z : Z) (sz : Int) (qn : Bool) (Q : List W) (C : List K) (cs : Option (List (List D))) (hk : Hk) (hok : Ad.ok cs ⟨qn, Q, C, []⟩) (hk0 : hk = .w0 ∨ (hk = .wc Q ∧ qn = false)) :
    ev P (.call topic_board_advance [.loc 0 0 0] (pH z sz qn Q C cs hk)) =
      some (.val (.tu []) (pR z sz (qD (adv sz qn Q C).qn (adv sz qn Q C).Q) (adv sz qn Q C).C cs hk (adv sz qn Q C).wn)) := by
  have hP := ev_publishers z sz (qD qn Q) C cs
  have hL := loop_adv z sz cs (Q.length + 1) ⟨qn, Q, C, []⟩ (by simp) hok
  have hl : (adv sz qn Q C).C.length = C.length := advF_len sz _ _
  have hC0' : cs = none → (adv sz qn Q C).C = [] := fun h => by
    have h3 : C = [] := hok.1 h
    have h2 : C.length = 0 := by rw [h3]; rfl
    exact List.length_eq_zero_iff.1 (hl.trans h2)
  change _ = some (Res.out .ret [] (aH z sz (qD (adv sz qn Q C).qn (adv sz qn Q C).Q) (adv sz qn Q C).C cs (adv sz qn Q C).wn)) at hL
  generalize adv sz qn Q C = a at *
  obtain ⟨qn', Q', C', wn'⟩ := a
  simp only at hL hl hC0' ⊢
  have hF : ev P (.call topic_board_publishersC1 [.yld 0, .rf [.loc 1 0 0]] (aH z sz (qD qn Q) C cs [])) = some (.val (.tu []) (aH z sz (qD qn' Q') C' cs wn')) := by
    rw [ev_call P_topic_board_publishersC1 rfl]
    rcases cs with _ | T <;> rcases wn' with _ | ⟨x, wn'⟩
    all_goals
      simp [aH, mA, lkV, lkD] at hL
      simp [F_topic_board_publishersC1, aH, mA, lkV, lkD, hL, endH, reachC, cut, rg2, rg3, rg4, List.idxOf_cons]
  rw [ev_call P_topic_board_advance rfl]
  rcases hk0 with rfl | ⟨rfl, rfl⟩
  · rcases cs with _ | T <;> rcases wn' with _ | ⟨x, wn'⟩
    · have hCC : C = [] := hok.1 rfl
      have hCC' : C' = [] := hC0' rfl
      subst hCC hCC'
      simp [hB, aH, mA, lkV, lkD, hl] at hF hP
      simp [F_topic_board_advance, pH, pR, hB, bH, fH, aH, mA, lkV, lkD, hP, hF, callR, sub, setAll, back, freezeAll, freeze1, reachC, cut, rg2, rg3, rg4, rg5, List.idxOf_cons, take_map_len, endH, hl, canonEnv]
    · have hCC : C = [] := hok.1 rfl
      have hCC' : C' = [] := hC0' rfl
      subst hCC hCC'
      simp [hB, aH, mA, lkV, lkD, hl] at hF hP
      simp [F_topic_board_advance, pH, pR, hB, bH, fH, aH, mA, lkV, lkD, hP, hF, callR, sub, setAll, back, freezeAll, freeze1, reachC, cut, rg2, rg3, rg4, rg5, List.idxOf_cons, take_map_len, endH, hl, canonEnv]
    · simp [hB, aH, mA, lkV, lkD, hl] at hF hP
      simp [F_topic_board_advance, pH, pR, hB, bH, fH, aH, mA, lkV, lkD, hP, hF, callR, sub, setAll, back, freezeAll, freeze1, reachC, cut, rg2, rg3, rg4, rg5, List.idxOf_cons, take_map_len, endH, hl, canonEnv]
    · simp [hB, aH, mA, lkV, lkD, hl] at hF hP
      simp [F_topic_board_advance, pH, pR, hB, bH, fH, aH, mA, lkV, lkD, hP, hF, callR, sub, setAll, back, freezeAll, freeze1, reachC, cut, rg2, rg3, rg4, rg5, List.idxOf_cons, take_map_len, endH, hl, canonEnv]
  · rcases cs with _ | T <;> rcases wn' with _ | ⟨x, wn'⟩
    · have hCC : C = [] := hok.1 rfl
      have hCC' : C' = [] := hC0' rfl
      subst hCC hCC'
      simp [hB, aH, mA, lkV, lkD, hl] at hF hP
      simp [F_topic_board_advance, pH, pR, hB, bH, fH, aH, mA, lkV, lkD, hP, hF, callR, sub, setAll, back, freezeAll, freeze1, reachC, cut, rg2, rg3, rg4, rg5, List.idxOf_cons, take_map_len, endH, hl, canonEnv]
    · have hCC : C = [] := hok.1 rfl
      have hCC' : C' = [] := hC0' rfl
      subst hCC hCC'
      simp [hB, aH, mA, lkV, lkD, hl] at hF hP
      simp [F_topic_board_advance, pH, pR, hB, bH, fH, aH, mA, lkV, lkD, hP, hF, callR, sub, setAll, back, freezeAll, freeze1, reachC, cut, rg2, rg3, rg4, rg5, List.idxOf_cons, take_map_len, endH, hl, canonEnv]
    · simp [hB, aH, mA, lkV, lkD, hl] at hF hP
      simp [F_topic_board_advance, pH, pR, hB, bH, fH, aH, mA, lkV, lkD, hP, hF, callR, sub, setAll, back, freezeAll, freeze1, reachC, cut, rg2, rg3, rg4, rg5, List.idxOf_cons, take_map_len, endH, hl, canonEnv]
    · simp [hB, aH, mA, lkV, lkD, hl] at hF hP
      simp [F_topic_board_advance, pH, pR, hB, bH, fH, aH, mA, lkV, lkD, hP, hF, callR, sub, setAll, back, freezeAll, freeze1, reachC, cut, rg2, rg3, rg4, rg5, List.idxOf_cons, take_map_len, endH, hl, canonEnv]
end Go.VS.Tp
namespace Go.VS.Tp
/-! Remove; replies; Withdraw -/
theorem ev_Remove (nl : Bool) (l : List W) (t : Int) (hn : l.length ≤ 1000000) :
    ev P (.call waitlist_Remove [.d (qD nl l), .d (I' t)] []) = some (.val (.d (qO (l.filter fun w => w.task != t))) []) := by
  have hf : ev P (.call waitlist_filter [.d (qD nl l), .d (.fn waitlist_RemoveC1 [] [.ref [I' t]])] []) = some (.val (.d (qO (l.filter fun w => w.task != t))) []) := by
    rw [ev_call P_waitlist_filter rfl]
    have hl := loop_filter (f := waitlist_RemoveC1) (first := []) (caps := [.ref [I' t]]) (p := fun w => w.task != t) nl l hn (by intro a b c d e; simp [ev_RemoveC1]) _ rfl l [] rfl
    cases hf : l.filter fun w => w.task != t with
    | nil => simp [hf, accV, accH] at hl; simp [F_waitlist_filter, hl, qO]
    | cons a r => simp [hf, accV, accH, W.row] at hl; simp [F_waitlist_filter, hl, qO, W.row, take_map_len]
  rw [ev_call P_waitlist_Remove rfl]
  simp [F_waitlist_Remove, hf]
structure Rp where
  st : S
  parked : Bool
  value : Int
  ok : Bool
  kn : Bool
  wn : List Wk
abbrev kD (n : Bool) (l : List Wk) : D := .sl 5 n (l.map Wk.row)
abbrev Rp.row (r : Rp) : List D := [I' r.st.own, I' r.st.cnt, I' r.st.time, hD r.st.hn r.st.H, qD r.st.qn r.st.Q, hD r.st.bn r.st.B, cD r.st.cn r.st.C, .b r.st.cl, I' r.st.val, .b r.parked, I' r.value, .b r.ok, kD r.kn r.wn]
def S0 : S := ⟨0, 0, 0, true, [], true, [], true, [], true, [], false, 0⟩
def Rp0 : Rp := ⟨S0, false, 0, false, true, []⟩
/-- what a state that comes in fulfils -/
structure S.wf (s : S) : Prop where
  h : s.H.length ≤ 1000
  b : s.B.length ≤ 1000
  q : s.Q.length ≤ 1000
  c : s.C.length ≤ 1000
  l : ∀ c ∈ s.C, (c.nl = true → c.log = []) ∧ c.log.length ≤ 1000
  qn : s.qn = true → s.Q = []
  cn : s.cn = true → s.C = []
theorem S.wf.sm {s : S} (h : s.wf) : s.sm := ⟨by have := h.h; omega, by have := h.b; omega, by have := h.q; omega, by have := h.c; omega, fun c hc => by have := (h.l c hc).2; omega⟩
abbrev S.z (s : S) : Z := ⟨I' s.own, I' s.cnt, I' s.time, hD s.hn s.H, hD s.bn s.B, .b s.cl, I' s.val⟩
def csOf (cn : Bool) : Option (List (List D)) := if cn = true then none else some []
abbrev S.put (s : S) (a : Ad) : S := { s with qn := a.qn, Q := a.Q, C := a.C }
def wd (k sz ot : Int) (s : S) (t : Int) : Rp × Int :=
  if ckd k sz ot s ≠ 0 then (Rp0, 1) else if (s.Q.any fun w => w.task == t) = false then (Rp0, 7) else
  let a := adv sz (decide ((s.Q.filter fun w => w.task != t) = [])) (s.Q.filter fun w => w.task != t) s.C
  (⟨s.put a, false, 0, false, decide (a.wn = []), a.wn⟩, 0)
set_option maxHeartbeats 4000000 in
theorem ev_withdraw (nm : D) (k sz ot : Int) (s : S) (hs : s.wf) (t : Int) :
    ev P (.call topic_Withdraw [.d (.ag [nm, I' k, I' sz, I' ot]), .d (.ag s.row), .d (I' t)] []) = some (.val (.tu [.d (.ag (wd k sz ot s t).1.row), .d (I' (wd k sz ot s t).2)]) []) := by
  have hC := ev_mCheck nm k sz ot s hs.sm
  have hF := ev_wFind s.qn s.Q t (by have := hs.q; omega)
  rw [fd_any] at hF
  have hBg := ev_begin s.z nm (I' k) (I' ot) sz s.qn s.Q s.cn s.C hs.qn hs.cn (by have := hs.q; omega) (by have := hs.c; omega)
  have hR := ev_Remove s.qn s.Q t (by have := hs.q; omega)
  have hle : (s.Q.filter fun w => w.task != t).length ≤ s.Q.length := List.length_filter_le _ _
  have hA := ev_advance s.z sz (decide ((s.Q.filter fun w => w.task != t) = [])) (s.Q.filter fun w => w.task != t) s.C (csOf s.cn) .w0
    ⟨by intro h; apply hs.cn; cases hc : s.cn <;> simp [csOf, hc] at h ⊢, by have := hs.c; simp only; omega, fun c hc => ⟨(hs.l c hc).1, by have := (hs.l c hc).2; have := hs.q; simp only; omega⟩, by have := hs.q; simp; omega, by simp⟩ (.inl rfl)
  have hl : (adv sz (decide ((s.Q.filter fun w => w.task != t) = [])) (s.Q.filter fun w => w.task != t) s.C).C.length = s.C.length := advF_len sz _ _
  have hqf : (s.Q.any fun w => w.task == t) = true → s.qn = false := by
    intro h
    cases h2 : s.qn
    · rfl
    · rw [hs.qn h2] at h; simp at h
  have hCn : s.cn = true → (adv sz (decide ((s.Q.filter fun w => w.task != t) = [])) (s.Q.filter fun w => w.task != t) s.C).C = [] := fun h => List.length_eq_zero_iff.1 (by rw [hl, hs.cn h]; rfl)
  unfold wd
  generalize (s.Q.filter fun w => w.task != t) = Q' at *
  generalize adv sz (decide (Q' = [])) Q' s.C = a at *
  obtain ⟨own, cnt, time, hn, H, qn, Q, bn, B, cn, C, cl, val⟩ := s
  obtain ⟨qn', Q'', C', wn⟩ := a
  simp only at hC hF hBg hR hA hl hs hqf hCn ⊢
  generalize (Q.any fun w => w.task == t) = an at *
  generalize (fdS Q t).1 = fi at *
  have htk : List.take C.length (C'.map K.row) = C'.map K.row := List.take_of_length_le (by simp [hl])
  rw [ev_call P_topic_Withdraw rfl]
  by_cases hc : ckd k sz ot ⟨own, cnt, time, hn, H, qn, Q, bn, B, cn, C, cl, val⟩ = 0
  · rw [hc] at hC ⊢
    cases an
    · simp [F_topic_Withdraw, hC, hF, Rp0, S0]
    · obtain rfl := hqf rfl
      cases cn <;> rcases wn with _ | ⟨x, wn⟩
      all_goals
        simp [gB, lkV, lkD, qO] at hBg hR
        simp [pH, pR, hB, bH, fH, csOf, lkV, lkD, hl] at hA
        simp [F_topic_Withdraw, hC, hF, hBg, hR, hA, callD, callR, sub, setAll, back, freezeAll, freeze1, reachC, cut, rg2, rg3, rg4, List.idxOf_cons, take_map_len, endH, hl, V.same_self, mkRows, allDs, Rp.row, S.put, toDs, toD, hCn, htk]
  · have hc2 : (ckd k sz ot ⟨own, cnt, time, hn, H, qn, Q, bn, B, cn, C, cl, val⟩ != 0) = true := by simpa using hc
    simp [F_topic_Withdraw, hC, hc, hc2, Rp0, S0]
end Go.VS.Tp
