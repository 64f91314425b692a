import Derived.Test.YtjjkiaahcoiihaaV06
set_option linter.all false
namespace Go.VS.M
abbrev I' (n : Int) : D := .i .i64 n
structure W where
  task : Int
  op : Int
  value : Int
  prio : Int
  case : Int
  deriving DecidableEq
@[simp] theorem W.eta (w : W) : W.mk w.task w.op w.value w.prio w.case = w := rfl
def W.row (w : W) : List D := [I' w.task, I' w.op, I' w.value, I' w.prio, I' w.case]
def isTask (n : Int) : Bool := decide (0 ≤ n) && decide (n < 16)
theorem ev_isTask (n : Int) : ev P (.call mutex_isTask [.d (I' n)] []) = some (.val (.d (.b (isTask n))) []) := by
  rw [ev_call P_mutex_isTask rfl]
  simp [F_mutex_isTask, isTask]
def wbad (w : W) : Bool := (decide (w.task < 0) || decide (16 ≤ w.task) || decide (w.op < 1) || decide (99 < w.op) || decide (w.value < -1099511627776) || decide (1099511627776 < w.value))
def wvalid (w : W) : Bool := !wbad w && (decide (0 ≤ w.prio) && decide (w.prio ≤ 9) && decide (-1 ≤ w.case) && decide (w.case < 6))
theorem ev_wvalid (a b c d e : Int) : ev P (.call waitlist_valid [.d (.ag [I' a, I' b, I' c, I' d, I' e])] []) = some (.val (.d (.b (wvalid ⟨a, b, c, d, e⟩))) []) := by
  rw [ev_call P_waitlist_valid rfl]
  cases h : wbad ⟨a, b, c, d, e⟩ <;> simp only [wvalid, h] <;> unfold wbad at h <;> simp [F_waitlist_valid, W.row, h]
def Ws (l : List W) (nl : Bool) : D := .sl 5 nl (l.map W.row)
/-- the check from a place on -/
def wcheckFrom (d : Int) (prev : Option W) : List W → Int
  | [] => 0
  | w :: r => if wvalid w = false then 2 else if d = 2 ∧ (prev.any fun p => decide (p.prio < w.prio)) = true then 9 else wcheckFrom d (some w) r
theorem getElem?_snoc_prev {α : Type} {pre suf : List α} {w : α} : (pre ++ w :: suf)[pre.length]? = some w := by simp
theorem wrap1 : IntKind.i64.wrap 1 = 1 := by decide
theorem loop_wcheck (d : Int) (nl : Bool) (l : List W) (hn : l.length ≤ 96) : ∀ (suf pre : List W), l = pre ++ suf →
    ev P (.loop 0 [0, 1, 16, 17, 18] F_waitlist_Check_L0 [(0, .d (I' d)), (1, .d (.sl 5 nl (l.map W.row))), (16, .d (.sl 5 nl (l.map W.row))), (17, .d (I' l.length)), (18, .d (I' pre.length))] []) =
      if wcheckFrom d pre.getLast? suf = 0 then some (.out (.exit 0) [] []) else some (.out .ret [(4, .d (I' (wcheckFrom d pre.getLast? suf)))] []) := by
  intro suf
  induction suf with
  | nil =>
    intro pre hl
    have : l.length = pre.length := by simp [hl]
    rw [ev_loop]
    conv => lhs; arg 4; unfold F_waitlist_Check_L0
    simp [this, wcheckFrom]
  | cons w suf ih =>
    intro pre hl
    have hg : l[pre.length]? = some w := by simp [hl]
    have hlt : (pre.length : Int) < l.length := by simp [hl]; omega
    rw [ev_loop]
    conv => lhs; arg 4; unfold F_waitlist_Check_L0
    simp [hlt, hg, W.row, ev_wvalid]
    cases hv : wvalid w
    · simp [wcheckFrom, hv]
    · simp
      have hnext : IntKind.i64.wrap ((pre.length : Int) + 1) = pre.length + 1 := wrap_i64 (by omega) (by omega)
      have ih' := ih (pre ++ [w]) (by simp [hl])
      simp at ih'
      rcases List.eq_nil_or_concat pre with rfl | ⟨pre', p, rfl⟩
      · simp [wcheckFrom, hv, wrap1] at *
        exact ih'
      · have hgp : l[pre'.length]? = some p := by simp [hl]
        have hlen : ((pre'.length : Int) + 1 < l.length) := by simp [hl]; omega
        have hw : IntKind.i64.wrap ((pre'.length : Int) + 1 - 1) = pre'.length := by rw [wrap_i64 (by omega) (by omega)]; omega
        have h0 : (0 : Int) < pre'.length + 1 := by omega
        have hw2 : IntKind.i64.wrap (pre'.length : Int) = pre'.length := wrap_i64 (by omega) (by omega)
        have hw3 : IntKind.i64.wrap ((pre'.length : Int) + 1 + 1) = pre'.length + 1 + 1 := wrap_i64 (by omega) (by omega)
        simp at ih'
        by_cases hd : d = 2
        · by_cases hp : p.prio < w.prio
          · subst hd
            simp [wcheckFrom, hv, hp, hw2, hw3, hgp, W.row, h0]
          · subst hd
            simp [wcheckFrom, hv, hp, hw2, hw3, hgp, W.row, h0]
            exact ih'
        · have hd2 : (d == 2) = false := by simp [hd]
          simp [wcheckFrom, hv, hd, hd2, hw2, hw3, hgp, W.row, h0]
          exact ih'
def wchk (l : List W) : Int := if 96 < l.length then 4 else wcheckFrom 2 none l
theorem ev_wCheck (nl : Bool) (l : List W) : ev P (.call waitlist_Check [.d (I' 2), .d (.sl 5 nl (l.map W.row))] []) =
    some (.val (.d (I' (wchk l))) []) := by
  unfold wchk
  rw [ev_call P_waitlist_Check rfl]
  by_cases h : 96 < l.length
  · have h' : (96 : Int) < l.length := by omega
    simp [F_waitlist_Check, h, h']
  · have h' : ¬ (96 : Int) < l.length := by omega
    have hl := loop_wcheck 2 nl l (by omega) l [] rfl
    simp at hl
    simp [F_waitlist_Check, h, h', hl]
    by_cases hc : wcheckFrom 2 none l = 0 <;> simp [hc]
theorem allD_map' : ∀ (ds : List D), allD (ds.map V.d) = some ds
  | [] => rfl
  | d :: ds => by simp [allD_map' ds]
theorem allD_mid {a b : List D} {x : D} : allD (a.map V.d ++ .d x :: b.map V.d) = some (a ++ x :: b) := by
  have := allD_map' (a ++ x :: b)
  simpa using this
/-- where a queue first has a waiter of a kind -/
def idx (p : W → Bool) : Int → List W → Int
  | _, [] => -1
  | k, w :: r => if p w then k else idx p (k + 1) r
theorem loop_IndexFunc {f : Nat} {first caps : List D} {p : W → Bool} (nl : Bool) (l : List W) (hn : l.length ≤ 1000000)
    (hp : ∀ a b c d e, ev P (.call f (first.map V.d ++ [.d (.ag [I' a, I' b, I' c, I' d, I' e])] ++ caps.map V.d) []) = some (.val (.d (.b (p ⟨a, b, c, d, e⟩))) [])) :
    ∀ (suf pre : List W), l = pre ++ suf →
    ev P (.loop 0 [0, 1, 7, 8] F_slices_IndexFunc_api_Waiter_api_Waiter_L0 [(0, .d (.sl 5 nl (l.map W.row))), (1, .d (.fn f first caps)), (7, .d (I' l.length)), (8, .d (I' pre.length))] []) =
      if idx p pre.length suf = -1 then some (.out (.exit 0) [] []) else some (.out .ret [(4, .d (I' (idx p pre.length suf)))] []) := by
  intro suf
  induction suf with
  | nil =>
    intro pre hl
    have : l.length = pre.length := by simp [hl]
    rw [ev_loop]
    conv => lhs; arg 4; unfold F_slices_IndexFunc_api_Waiter_api_Waiter_L0
    simp [this, idx]
  | cons w suf ih =>
    intro pre hl
    have hg : l[pre.length]? = some w := by simp [hl]
    have hlt : (pre.length : Int) < l.length := by simp [hl]; omega
    have hnext : IntKind.i64.wrap ((pre.length : Int) + 1) = pre.length + 1 := wrap_i64 (by omega) (by omega)
    have ih' := ih (pre ++ [w]) (by simp [hl])
    simp at ih' hp
    rw [ev_loop]
    conv => lhs; arg 4; unfold F_slices_IndexFunc_api_Waiter_api_Waiter_L0
    simp [hlt, hg, W.row, hp, allD_mid]
    cases hw : p w
    · simp [idx, hw, hnext]
      exact ih'
    · have : ¬ (pre.length : Int) = -1 := by omega
      simp [idx, hw, this]
theorem ev_IndexFunc {f : Nat} {first caps : List D} {p : W → Bool} (nl : Bool) (l : List W) (hn : l.length ≤ 1000000)
    (hp : ∀ a b c d e, ev P (.call f (first.map V.d ++ [.d (.ag [I' a, I' b, I' c, I' d, I' e])] ++ caps.map V.d) []) = some (.val (.d (.b (p ⟨a, b, c, d, e⟩))) [])) :
    ev P (.call slices_IndexFunc_api_Waiter_api_Waiter [.d (.sl 5 nl (l.map W.row)), .d (.fn f first caps)] []) = some (.val (.d (I' (idx p 0 l))) []) := by
  rw [ev_call P_slices_IndexFunc_api_Waiter_api_Waiter rfl]
  have hl := loop_IndexFunc nl l hn hp l [] rfl
  simp at hl
  simp [F_slices_IndexFunc_api_Waiter_api_Waiter, hl]
  by_cases hc : idx p 0 l = -1 <;> simp [hc]
theorem idx_any {p : W → Bool} : ∀ {l : List W} {k : Int}, 0 ≤ k → (0 ≤ idx p k l ↔ l.any p = true)
  | [], k, _ => by simp [idx]
  | w :: r, k, hk => by
    by_cases hw : p w = true
    · simp [idx, hw, hk]
    · simp [idx, hw, idx_any (l := r) (k := k + 1) (by omega)]
theorem ev_ContainsFunc {f : Nat} {first caps : List D} {p : W → Bool} (nl : Bool) (l : List W) (hn : l.length ≤ 1000000)
    (hp : ∀ a b c d e, ev P (.call f (first.map V.d ++ [.d (.ag [I' a, I' b, I' c, I' d, I' e])] ++ caps.map V.d) []) = some (.val (.d (.b (p ⟨a, b, c, d, e⟩))) [])) :
    ev P (.call slices_ContainsFunc_api_Waiter_api_Waiter [.d (.sl 5 nl (l.map W.row)), .d (.fn f first caps)] []) = some (.val (.d (.b (l.any p))) []) := by
  rw [ev_call P_slices_ContainsFunc_api_Waiter_api_Waiter rfl]
  have hi := ev_IndexFunc nl l hn hp
  simp [F_slices_ContainsFunc_api_Waiter_api_Waiter, hi]
  have := idx_any (p := p) (l := l) (k := 0) (by omega)
  cases ha : l.any p
  · have hc : ¬ 0 ≤ idx p 0 l := fun h => by rw [this.1 h] at ha; cases ha
    simp [hc]
  · have hc : 0 ≤ idx p 0 l := this.2 ha
    simp [hc]
theorem ev_waitsC1 (t a b c d e : Int) : ev P (.call mutex_waitsC1 [.d (.ag [I' a, I' b, I' c, I' d, I' e]), .d (.ref [I' t])] []) = some (.val (.d (.b (a == t))) []) := by
  rw [ev_call P_mutex_waitsC1 rfl]
  simp [F_mutex_waitsC1]
theorem ev_validC1 (a b c d e a' b' c' d' e' : Int) : ev P (.call mutex_validC1 [.d (.ag [I' a, I' b, I' c, I' d, I' e]), .d (.ref [I' a', I' b', I' c', I' d', I' e'])] []) = some (.val (.d (.b (a == a'))) []) := by
  rw [ev_call P_mutex_validC1 rfl]
  simp [F_mutex_validC1]
theorem ev_RemoveC1 (t a b c d e : Int) : ev P (.call waitlist_RemoveC1 [.d (.ag [I' a, I' b, I' c, I' d, I' e]), .d (.ref [I' t])] []) = some (.val (.d (.b (a != t))) []) := by
  rw [ev_call P_waitlist_RemoveC1 rfl]
  simp [F_waitlist_RemoveC1]
/-- the cells of a state -/
def srow (own cnt time : Int) (hn : Bool) (hs : List Int) (qn : Bool) (q : List W) (bn : Bool) (bs : List Int) (cn : Bool) (cs : List (List D)) (cl : Bool) (val : Int) : List D :=
  [I' own, I' cnt, I' time, .sl 1 hn (hs.map fun x => [I' x]), .sl 5 qn (q.map W.row), .sl 1 bn (bs.map fun x => [I' x]), .sl 2 cn cs, .b cl, I' val]
theorem ev_waits {own cnt time : Int} {h1 h2 h3 : D} {qn : Bool} {q : List W} {cl : Bool} {val : Int} (t : Int) (hn : q.length ≤ 1000000) :
    ev P (.call mutex_waits [.d (.ag [I' own, I' cnt, I' time, h1, .sl 5 qn (q.map W.row), h2, h3, .b cl, I' val]), .d (I' t)] []) = some (.val (.d (.b (q.any fun w => w.task == t))) []) := by
  rw [ev_call P_mutex_waits rfl]
  have := ev_ContainsFunc (f := mutex_waitsC1) (first := []) (caps := [.ref [I' t]]) (p := fun w => w.task == t) qn q hn (by intro a b c d e; simp [ev_waitsC1])
  simp [F_mutex_waits, this]
/-- the list that a loop makes, and the heap that it lies in -/
def accV (es : Nat) (z : V) : List (List D) → V
  | [] => z
  | r :: rs => .asl 0 0 (r :: rs).length
def accH (es : Nat) : List (List D) → List O
  | [] => []
  | r :: rs => [.arrD es true (r :: rs)]
theorem take_map_len {α β : Type} {f : α → β} {r : List α} : List.take r.length (r.map f) = r.map f := List.take_of_length_le (by simp)
theorem drop_map_len {α β : Type} {f : α → β} {r : List α} : List.drop (r.length + 1) (r.map f) = [] := List.drop_eq_nil_of_le (by simp)
theorem loop_filter {f : Nat} {first caps : List D} {p : W → Bool} (nl : Bool) (l : List W) (hn : l.length ≤ 1000000)
    (hp : ∀ a b c d e, ev P (.call f (first.map V.d ++ [.d (.ag [I' a, I' b, I' c, I' d, I' e])] ++ caps.map V.d) []) = some (.val (.d (.b (p ⟨a, b, c, d, e⟩))) []))
    (R : Option Res) (hR : R = some (.out (.exit 0) [(5, accV 5 (.d (.sl 5 true [])) ((l.filter p).map W.row))] (accH 5 ((l.filter p).map W.row)))) :
    ∀ (suf pre : List W), l = pre ++ suf →
    ev P (.loop 0 [1, 5, 8, 9, 10] F_waitlist_filter_L0 [(1, .d (.fn f first caps)), (5, accV 5 (.d (.sl 5 true [])) ((pre.filter p).map W.row)), (8, .d (.sl 5 nl (l.map W.row))), (9, .d (I' l.length)), (10, .d (I' pre.length))] (accH 5 ((pre.filter p).map W.row))) = R := by
  intro suf
  induction suf with
  | nil =>
    intro pre hl
    have hlp : l = pre := by simp [hl]
    subst hlp
    rw [ev_loop, hR]
    conv => lhs; arg 4; unfold F_waitlist_filter_L0
    cases hf : l.filter p with
    | nil => simp [accV, accH]
    | cons a r => simp [accV, accH, reachC, cut, W.row]
  | cons w suf ih =>
    intro pre hl
    clear hR
    have hg : l[pre.length]? = some w := by simp [hl]
    have hlt : (pre.length : Int) < l.length := by simp [hl]; omega
    have hnext : IntKind.i64.wrap ((pre.length : Int) + 1) = pre.length + 1 := wrap_i64 (by omega) (by omega)
    have ih' := ih (pre ++ [w]) (by simp [hl])
    simp at ih' hp
    rw [ev_loop]
    conv => lhs; arg 4; unfold F_waitlist_filter_L0
    cases hf : pre.filter p with
    | nil =>
      simp [hlt, hg, W.row, hp, allD_mid, accV, accH]
      cases hw : p w
      · simp [hw, hnext, hf, accV, accH, reachC] at ih' ⊢
        exact ih'
      · have hr : 1 ≤ room := by decide
        simp [hw, hnext, hf, hr, accV, accH, reachC, W.row] at ih' ⊢
        exact ih'
    | cons a r =>
      have hrl : r.length < 1000000 := by
        have h1 : (pre.filter p).length ≤ pre.length := List.length_filter_le _ _
        have h2 : pre.length ≤ l.length := by simp [hl]
        rw [hf] at h1; simp at h1; omega
      have hr : r.length + 1 + 1 ≤ room := by unfold room; omega
      simp [hlt, hg, W.row, hp, allD_mid, accV, accH]
      cases hw : p w
      · simp [hw, hnext, hf, accV, accH, reachC, W.row] at ih' ⊢
        exact ih'
      · simp [hw, hnext, hf, hr, accV, accH, reachC, W.row, overlay, take_map_len, drop_map_len, Nat.not_succ_le_self] at ih' ⊢
        exact ih'
theorem ev_Remove (nl : Bool) (l : List W) (t : Int) (hn : l.length ≤ 1000000) :
    ev P (.call waitlist_Remove [.d (.sl 5 nl (l.map W.row)), .d (I' t)] []) = some (.val (.d (.sl 5 (l.filter fun w => w.task != t).isEmpty ((l.filter fun w => w.task != t).map W.row))) []) := by
  have hf : ev P (.call waitlist_filter [.d (.sl 5 nl (l.map W.row)), .d (.fn waitlist_RemoveC1 [] [.ref [I' t]])] []) = some (.val (.d (.sl 5 (l.filter fun w => w.task != t).isEmpty ((l.filter fun w => w.task != t).map W.row))) []) := by
    rw [ev_call P_waitlist_filter rfl]
    have hl := loop_filter (f := waitlist_RemoveC1) (first := []) (caps := [.ref [I' t]]) (p := fun w => w.task != t) nl l hn (by intro a b c d e; simp [ev_RemoveC1]) _ rfl l [] rfl
    simp [accV, accH] at hl
    simp [F_waitlist_filter, hl]
    cases hf : l.filter fun w => w.task != t with
    | nil => simp
    | cons a r => simp [reachC, cut, W.row, take_map_len]
  rw [ev_call P_waitlist_Remove rfl]
  simp [F_waitlist_Remove, hf]
def qbad (own : Int) (w : W) : Bool := w.op != 50 || w.value != 0 || w.case != -1 || w.task == own
/-- the check of a queue, from a place on -/
def qcheck (own : Int) : List W → List W → Bool
  | _, [] => true
  | pre, w :: r => !qbad own w && !pre.any (fun x => x.task == w.task) && qcheck own (pre ++ [w]) r
theorem loop_valid {own cnt time : Int} {h1 h2 h3 : D} {cl : Bool} {val : Int} (nl : Bool) (l : List W) (hn : l.length ≤ 1000000) :
    ∀ (suf pre : List W), l = pre ++ suf →
    ev P (.loop 0 [1, 61, 62, 63] F_mutex_valid_L0 [(1, .d (.ref [I' own, I' cnt, I' time, h1, .sl 5 nl (l.map W.row), h2, h3, .b cl, I' val])), (61, .d (.sl 5 nl (l.map W.row))), (62, .d (I' l.length)), (63, .d (I' pre.length))] []) =
      if qcheck own pre suf = true then some (.out (.exit 0) [] []) else some (.out .ret [(2, .d (.b false))] []) := by
  intro suf
  induction suf with
  | nil =>
    intro pre hl
    have : l.length = pre.length := by simp [hl]
    rw [ev_loop]
    conv => lhs; arg 4; unfold F_mutex_valid_L0
    simp [this, qcheck]
  | cons w suf ih =>
    intro pre hl
    have hg : l[pre.length]? = some w := by simp [hl]
    have hlt : (pre.length : Int) < l.length := by simp [hl]; omega
    have hnext : IntKind.i64.wrap ((pre.length : Int) + 1) = pre.length + 1 := wrap_i64 (by omega) (by omega)
    have ih' := ih (pre ++ [w]) (by simp [hl])
    have hsub : (l.map W.row).take pre.length = pre.map W.row := by simp [hl]
    have hle : pre.length ≤ l.length := by simp [hl]
    have hc := ev_ContainsFunc (f := mutex_validC1) (first := []) (caps := [.ref w.row]) (p := fun x => x.task == w.task) nl pre (by have : pre.length ≤ l.length := by { simp [hl] }; omega) (by intro a b c d e; simp [W.row, ev_validC1])
    simp [W.row] at ih' hc
    rw [ev_loop]
    conv => lhs; arg 4; unfold F_mutex_valid_L0
    simp [hlt, hg, W.row, hsub]
    cases hq : (w.op != 50 || w.value != 0 || w.case != -1 || w.task == own)
    · simp [hg, hlt, W.row, hsub, hc, hle]
      have hq' : qbad own w = false := hq
      cases ha : pre.any fun x => x.task == w.task
      · simp only [ha, hq', qcheck, Bool.not_false, Bool.true_and]
        simp [hnext]
        exact ih'
      · simp only [ha, hq', qcheck, Bool.not_false, Bool.not_true, Bool.true_and, Bool.false_and]
        simp
    · have hq' : qbad own w = true := hq
      simp [hq', qcheck]
end Go.VS.M
namespace Go.VS.M
abbrev rows1 (l : List Int) : List (List D) := l.map fun x => [I' x]
abbrev hD (n : Bool) (l : List Int) : D := .sl 1 n (rows1 l)
abbrev qD (n : Bool) (l : List W) : D := .sl 5 n (l.map W.row)
abbrev cD (n : Bool) (l : List (List D)) : D := .sl 2 n l
/-- whether the check of a mutex's state passes -/
def mvalid (own cnt time : Int) (hs : List Int) (q : List W) (bs : List Int) (cs : List (List D)) (cl : Bool) (val : Int) : Bool :=
  !((own != -1 && !isTask own) || (own == -1 && decide (0 < q.length))) && !(cnt != 0 || time != 0 || val != 0 || cl || decide ((0 : Int) < hs.length + bs.length + cs.length)) && wchk q == 0 && qcheck own [] q
theorem ev_mvalid (own cnt time : Int) (hn : Bool) (hs : List Int) (qn : Bool) (q : List W) (bn : Bool) (bs : List Int) (cn : Bool) (cs : List (List D)) (cl : Bool) (val : Int)
    (h1 : hs.length ≤ 1000000) (h2 : q.length ≤ 1000000) (h3 : bs.length ≤ 1000000) (h4 : cs.length ≤ 1000000) :
    ev P (.call mutex_valid [.d (.ag [I' own, I' cnt, I' time, hD hn hs, qD qn q, hD bn bs, cD cn cs, .b cl, I' val])] []) = some (.val (.d (.b (mvalid own cnt time hs q bs cs cl val))) []) := by
  rw [ev_call P_mutex_valid rfl]
  have hl := loop_valid (own := own) (cnt := cnt) (time := time) (h1 := hD hn hs) (h2 := hD bn bs) (h3 := cD cn cs) (cl := cl) (val := val) qn q h2 q [] rfl
  simp at hl
  simp [F_mutex_valid, ev_isTask]
  cases hA : (own != -1 && !isTask own || own == -1 && decide (0 < q.length))
  · simp
    rw [wrap_i64 (x := (hs.length : Int) + bs.length) (by omega) (by omega), wrap_i64 (x := (hs.length : Int) + bs.length + cs.length) (by omega) (by omega)]
    cases hB : (cnt != 0 || time != 0 || val != 0 || cl || decide ((0 : Int) < hs.length + bs.length + cs.length))
    · simp [ev_wCheck]
      cases hC : wchk q == 0
      · have hC' : (wchk q != 0) = true := by simp [bne, hC]
        simp only [hC', mvalid, hA, hB, hC]
        simp
      · have hC' : (wchk q != 0) = false := by simp [bne, hC]
        simp only [hC', mvalid, hA, hB, hC]
        simp [hl]
        cases qcheck own [] q <;> simp
    · simp [mvalid, hA, hB]
  · simp [mvalid, hA]
/-- the kind and the numbers of an object: whether it is one of a mutex -/
def mnew (k sz ot : Int) : Int := if (k != 1) = true then 8 else if (sz != 0 || ot != 0) = true then 2 else 0
def zrow : List D := [I' 0, I' 0, I' 0, hD true [], qD true [], hD true [], cD true [], .b false, I' 0]
def frow : List D := [I' (-1), I' 0, I' 0, hD true [], qD true [], hD true [], cD true [], .b false, I' 0]
theorem ev_mNew (nm : D) (k sz ot : Int) : ev P (.call mutex_New [.d (.ag [nm, I' k, I' sz, I' ot])] []) =
    some (.val (.tu [.d (.ag (if mnew k sz ot = 0 then frow else zrow)), .d (I' (mnew k sz ot))]) []) := by
  rw [ev_call P_mutex_New rfl]
  cases h1 : k != 1 <;> simp only [mnew, h1]
  · cases h2 : sz != 0 || ot != 0 <;> simp [F_mutex_New, h1, h2, frow, zrow]
  · simp [F_mutex_New, h1, zrow]
theorem ev_rNew (nm : D) (k sz ot : Int) : ev P (.call nurseryref16_New [.d (.ag [nm, I' k, I' sz, I' ot])] []) =
    some (.val (.tu [.d (.ag (if mnew k sz ot = 0 then frow else zrow)), .d (I' (mnew k sz ot))]) []) := by
  rw [ev_call P_nurseryref16_New rfl]
  cases h1 : k != 1 <;> simp only [mnew, h1]
  · cases h2 : sz != 0 || ot != 0 <;> simp [F_nurseryref16_New, h1, h2, frow, zrow]
  · simp [F_nurseryref16_New, h1, zrow]
theorem ev_mCheck (nm : D) (k sz ot : Int) (own cnt time : Int) (hn : Bool) (hs : List Int) (qn : Bool) (q : List W) (bn : Bool) (bs : List Int) (cn : Bool) (cs : List (List D)) (cl : Bool) (val : Int)
    (h1 : hs.length ≤ 1000000) (h2 : q.length ≤ 1000000) (h3 : bs.length ≤ 1000000) (h4 : cs.length ≤ 1000000) :
    ev P (.call mutex_Check [.d (.ag [nm, I' k, I' sz, I' ot]), .d (.ag [I' own, I' cnt, I' time, hD hn hs, qD qn q, hD bn bs, cD cn cs, .b cl, I' val])] []) =
      some (.val (.d (I' (if mnew k sz ot = 0 then (if mvalid own cnt time hs q bs cs cl val then 0 else 1) else mnew k sz ot))) []) := by
  have hv := ev_mvalid own cnt time hn hs qn q bn bs cn cs cl val h1 h2 h3 h4
  rw [ev_call P_mutex_Check rfl]
  cases hm : mnew k sz ot == 0
  · have hm' : mnew k sz ot ≠ 0 := by simpa using hm
    have hm2 : (mnew k sz ot != 0) = true := by simpa using hm'
    simp [F_mutex_Check, ev_mNew, hm', hm2, zrow]
  · have hm' : mnew k sz ot = 0 := by simpa using hm
    simp [F_mutex_Check, ev_mNew, hm', frow, hv]
    cases mvalid own cnt time hs q bs cs cl val <;> simp
end Go.VS.M
namespace Go.VS.M
theorem cons_beq {α : Type} [DecidableEq α] {a b : α} {l m : List α} : ((a :: l) == (b :: m)) = (a == b && l == m) := rfl
theorem loop_SameInts (n1 n2 : Bool) (l m : List Int) (hn : l.length ≤ 1000000) (hm : l.length = m.length) : ∀ (suf suf' pre : List Int), l = pre ++ suf → m = pre ++ suf' →
    ev P (.loop 0 [0, 1, 5] F_nurseryref04_SameInts_L0 [(0, .d (hD n1 l)), (1, .d (hD n2 m)), (5, .d (I' pre.length))] []) =
      if suf = suf' then some (.out (.exit 0) [] []) else some (.out .ret [(4, .d (.b false))] []) := by
  intro suf
  induction suf with
  | nil =>
    intro suf' pre hl hl'
    have h1 : l.length = pre.length := by simp [hl]
    have : suf' = [] := by
      have h2 : m.length = pre.length + suf'.length := by simp [hl']
      exact List.length_eq_zero_iff.1 (by omega)
    subst this
    rw [ev_loop]
    conv => lhs; arg 4; unfold F_nurseryref04_SameInts_L0
    simp [h1]
  | cons w suf ih =>
    intro suf' pre hl hl'
    have hg : l[pre.length]? = some w := by simp [hl]
    have hlt : (pre.length : Int) < l.length := by simp [hl]; omega
    have hnext : IntKind.i64.wrap ((pre.length : Int) + 1) = pre.length + 1 := wrap_i64 (by omega) (by omega)
    cases suf' with
    | nil => exfalso; simp [hl, hl'] at hm
    | cons w' suf' =>
    have hg' : m[pre.length]? = some w' := by simp [hl']
    rw [ev_loop]
    conv => lhs; arg 4; unfold F_nurseryref04_SameInts_L0
    by_cases hw : w = w'
    · subst hw
      have ih' := ih suf' (pre ++ [w]) (by simp [hl]) (by simp [hl'])
      simp at ih'
      simp [hlt, hg, hg', hnext]
      exact ih'
    · have hw2 : (w != w') = true := by simpa using hw
      simp [hlt, hg, hg', hw2, hw]
theorem ev_SameInts (n1 n2 : Bool) (l m : List Int) (hn : l.length ≤ 1000000) :
    ev P (.call nurseryref04_SameInts [.d (hD n1 l), .d (hD n2 m)] []) = some (.val (.d (.b (l == m))) []) := by
  rw [ev_call P_nurseryref04_SameInts rfl]
  by_cases hlen : l.length = m.length
  · have hl := loop_SameInts n1 n2 l m hn hlen l m [] rfl rfl
    simp at hl
    have : ((l.length : Int) != m.length) = false := by simp [hlen]
    simp [F_nurseryref04_SameInts, this]
    simp [hl]
    by_cases h : l = m <;> simp [h]
  · have : ((l.length : Int) != m.length) = true := by simp; omega
    have h2 : ¬ l = m := fun h => hlen (by rw [h])
    simp [F_nurseryref04_SameInts, this, h2]
theorem W.neq {w w' : W} (h : ¬ w = w') : (!w.task == w'.task || (!w.op == w'.op || (!w.value == w'.value || (!w.prio == w'.prio || !w.case == w'.case)))) = true := by
  cases hb : (!w.task == w'.task || (!w.op == w'.op || (!w.value == w'.value || (!w.prio == w'.prio || !w.case == w'.case))))
  · exfalso; apply h
    simp at hb
    cases w; cases w'; simp at hb ⊢; exact hb
  · rfl
theorem loop_SameWaiters (n1 n2 : Bool) (l m : List W) (hn : l.length ≤ 1000000) (hm : l.length = m.length) : ∀ (suf suf' pre : List W), l = pre ++ suf → m = pre ++ suf' →
    ev P (.loop 0 [0, 1, 5] F_nurseryref16_SameWaiters_L0 [(0, .d (qD n1 l)), (1, .d (qD n2 m)), (5, .d (I' pre.length))] []) =
      if suf = suf' then some (.out (.exit 0) [] []) else some (.out .ret [(4, .d (.b false))] []) := by
  intro suf
  induction suf with
  | nil =>
    intro suf' pre hl hl'
    have h1 : l.length = pre.length := by simp [hl]
    have : suf' = [] := by
      have h2 : m.length = pre.length + suf'.length := by simp [hl']
      exact List.length_eq_zero_iff.1 (by omega)
    subst this
    rw [ev_loop]
    conv => lhs; arg 4; unfold F_nurseryref16_SameWaiters_L0
    simp [h1]
  | cons w suf ih =>
    intro suf' pre hl hl'
    have hg : l[pre.length]? = some w := by simp [hl]
    have hlt : (pre.length : Int) < l.length := by simp [hl]; omega
    have hnext : IntKind.i64.wrap ((pre.length : Int) + 1) = pre.length + 1 := wrap_i64 (by omega) (by omega)
    cases suf' with
    | nil => exfalso; simp [hl, hl'] at hm
    | cons w' suf' =>
    have hg' : m[pre.length]? = some w' := by simp [hl']
    rw [ev_loop]
    conv => lhs; arg 4; unfold F_nurseryref16_SameWaiters_L0
    by_cases hw : w = w'
    · subst hw
      have ih' := ih suf' (pre ++ [w]) (by simp [hl]) (by simp [hl'])
      simp at ih'
      simp [hlt, hg, hg', hnext, W.row]
      exact ih'
    · have hw2 := W.neq hw
      simp [hlt, hg, hg', hw2, hw, W.row]
theorem ev_SameWaiters (n1 n2 : Bool) (l m : List W) (hn : l.length ≤ 1000000) :
    ev P (.call nurseryref16_SameWaiters [.d (qD n1 l), .d (qD n2 m)] []) = some (.val (.d (.b (l == m))) []) := by
  rw [ev_call P_nurseryref16_SameWaiters rfl]
  by_cases hlen : l.length = m.length
  · have hl := loop_SameWaiters n1 n2 l m hn hlen l m [] rfl rfl
    simp at hl
    have : ((l.length : Int) != m.length) = false := by simp [hlen]
    simp [F_nurseryref16_SameWaiters, this]
    simp [hl]
    by_cases h : l = m <;> simp [h]
  · have : ((l.length : Int) != m.length) = true := by simp; omega
    have h2 : ¬ l = m := fun h => hlen (by rw [h])
    simp [F_nurseryref16_SameWaiters, this, h2]
theorem ev_sameCursors (n1 n2 : Bool) (l : List (List D)) :
    ev P (.call nurseryref16_sameCursors [.d (cD n1 l), .d (cD n2 [])] []) = some (.val (.d (.b l.isEmpty)) []) := by
  rw [ev_call P_nurseryref16_sameCursors rfl]
  cases l with
  | nil =>
    have hl : ev P (.loop 0 [0, 1, 5] F_nurseryref16_sameCursors_L0 [(0, .d (cD n1 [])), (1, .d (cD n2 [])), (5, .d (I' 0))] []) = some (.out (.exit 0) [] []) := by
      rw [ev_loop]
      conv => lhs; arg 4; unfold F_nurseryref16_sameCursors_L0
      simp
    simp [F_nurseryref16_sameCursors, hl]
  | cons a r =>
    have : (((r.length : Int) + 1) != 0) = true := by simp; omega
    simp [F_nurseryref16_sameCursors, this]
def sameB (own cnt time : Int) (hs : List Int) (q : List W) (bs : List Int) (cs : List (List D)) (cl : Bool) (val : Int)
    (own' cnt' time' : Int) (hs' : List Int) (q' : List W) (bs' : List Int) (cl' : Bool) (val' : Int) : Bool :=
  !(own != own' || cnt != cnt' || time != time' || !cl == cl' || val != val') && (hs == hs' && bs == bs' && q == q' && cs.isEmpty)
/-- whether two states are equal, of which the second has no cursors -/
theorem ev_Same (own cnt time : Int) (hn : Bool) (hs : List Int) (qn : Bool) (q : List W) (bn : Bool) (bs : List Int) (cn : Bool) (cs : List (List D)) (cl : Bool) (val : Int)
    (own' cnt' time' : Int) (hn' : Bool) (hs' : List Int) (qn' : Bool) (q' : List W) (bn' : Bool) (bs' : List Int) (cn' : Bool) (cl' : Bool) (val' : Int)
    (h1 : hs.length ≤ 1000000) (h2 : q.length ≤ 1000000) (h3 : bs.length ≤ 1000000) (h4 : cs.length ≤ 1000000) :
    ev P (.call nurseryref16_Same [.d (.ag [I' own, I' cnt, I' time, hD hn hs, qD qn q, hD bn bs, cD cn cs, .b cl, I' val]), .d (.ag [I' own', I' cnt', I' time', hD hn' hs', qD qn' q', hD bn' bs', cD cn' [], .b cl', I' val'])] []) =
      some (.val (.d (.b (sameB own cnt time hs q bs cs cl val own' cnt' time' hs' q' bs' cl' val'))) []) := by
  rw [ev_call P_nurseryref16_Same rfl]
  have e1 := ev_SameInts hn hn' hs hs' h1
  have e2 := ev_SameInts bn bn' bs bs' h3
  have e3 := ev_SameWaiters qn qn' q q' h2
  have e4 := ev_sameCursors cn cn' cs
  simp [F_nurseryref16_Same]
  cases hA : (own != own' || cnt != cnt' || time != time' || !cl == cl' || val != val')
  · have hS : sameB own cnt time hs q bs cs cl val own' cnt' time' hs' q' bs' cl' val' = (hs == hs' && bs == bs' && q == q' && cs.isEmpty) := by simp only [sameB, hA, Bool.not_false, Bool.true_and]
    rw [hS]
    simp [e1, e2, e3, e4]
  · have hS : sameB own cnt time hs q bs cs cl val own' cnt' time' hs' q' bs' cl' val' = false := by simp only [sameB, hA, Bool.not_true, Bool.false_and]
    rw [hS]
    simp
end Go.VS.M
namespace Go.VS.M
def cbig (c : List D) : Bool := match c with | [_, .sl _ _ r] => decide (120 < r.length) | _ => false
theorem loop_Great (row : List D) (cn : Bool) (cs : List (List D)) (hrow : row.length = 9) (h6 : row.drop 6 = cD cn cs :: row.drop 7) (hn : cs.length ≤ 1000000)
    (hcs : ∀ c, c ∈ cs → ∃ t nb r, c = [I' t, .sl 1 nb r]) : ∀ (suf pre : List (List D)), cs = pre ++ suf →
    ev P (.loop 0 [1, 3] F_nurseryref16_Great_L0 [(1, .d (.ref row)), (3, .d (I' pre.length))] []) =
      if suf.any cbig = true then some (.out .ret [(2, .d (.b true))] []) else some (.out (.exit 0) [] []) := by
  intro suf
  induction suf with
  | nil =>
    intro pre hl
    have : cs.length = pre.length := by simp [hl]
    rw [ev_loop]
    conv => lhs; arg 4; unfold F_nurseryref16_Great_L0
    simp [this, hrow, h6]
  | cons w suf ih =>
    intro pre hl
    have hg : cs[pre.length]? = some w := by simp [hl]
    have hlt : (pre.length : Int) < cs.length := by simp [hl]; omega
    have hnext : IntKind.i64.wrap ((pre.length : Int) + 1) = pre.length + 1 := wrap_i64 (by omega) (by omega)
    have ih' := ih (pre ++ [w]) (by simp [hl])
    simp at ih'
    obtain ⟨t, nb, r, rfl⟩ := hcs w (by simp [hl])
    rw [ev_loop]
    conv => lhs; arg 4; unfold F_nurseryref16_Great_L0
    simp [hlt, hg, hrow, h6]
    by_cases hb : 120 < r.length
    · have hb' : (120 : Int) < r.length := by omega
      simp [hb', cbig, hb]
    · have hb' : ¬ (120 : Int) < r.length := by omega
      simp [hb', cbig, hb, hnext]
      exact ih'
def greatB (hs : List Int) (q : List W) (bs : List Int) (cs : List (List D)) : Bool :=
  (decide ((40 : Int) < hs.length) || decide ((40 : Int) < q.length) || decide ((120 : Int) < bs.length) || decide ((40 : Int) < cs.length)) || cs.any cbig
theorem ev_Great (own cnt time : Int) (hn : Bool) (hs : List Int) (qn : Bool) (q : List W) (bn : Bool) (bs : List Int) (cn : Bool) (cs : List (List D)) (cl : Bool) (val : Int)
    (hcs : ∀ c, c ∈ cs → ∃ t nb r, c = [I' t, .sl 1 nb r]) :
    ev P (.call nurseryref16_Great [.d (.ag [I' own, I' cnt, I' time, hD hn hs, qD qn q, hD bn bs, cD cn cs, .b cl, I' val])] []) = some (.val (.d (.b (greatB hs q bs cs))) []) := by
  rw [ev_call P_nurseryref16_Great rfl]
  simp [F_nurseryref16_Great]
  cases hA : (decide ((40 : Int) < hs.length) || decide ((40 : Int) < q.length) || decide ((120 : Int) < bs.length) || decide ((40 : Int) < cs.length))
  · have hlen : ¬ (40 : Int) < cs.length := by simp at hA; omega
    have hl := loop_Great [I' own, I' cnt, I' time, hD hn hs, qD qn q, hD bn bs, cD cn cs, .b cl, I' val] cn cs rfl rfl (by omega) hcs cs [] rfl
    simp at hl
    have hS : greatB hs q bs cs = cs.any cbig := by simp only [greatB, hA, Bool.false_or]
    rw [hS]
    simp [hl]
    cases hB : cs.any cbig
    · have : ∀ x, x ∈ cs → cbig x = false := by simpa using hB
      rw [if_neg (by simpa using this)]
      simp
    · have : ∃ x, x ∈ cs ∧ cbig x = true := by simpa using hB
      simp [this]
  · have hS : greatB hs q bs cs = true := by simp only [greatB, hA, Bool.true_or]
    rw [hS]
    simp
theorem ev_rTask (n : Int) : ev P (.call nurseryref16_Task [.d (I' n)] []) = some (.val (.d (.b (isTask n))) []) := by
  rw [ev_call P_nurseryref16_Task rfl]
  simp [F_nurseryref16_Task, isTask]
theorem loop_Waits (nl : Bool) (l : List W) (t : Int) (hn : l.length ≤ 1000000) : ∀ (suf pre : List W), l = pre ++ suf →
    ev P (.loop 0 [0, 1, 5] F_nurseryref16_Waits_L0 [(0, .d (qD nl l)), (1, .d (I' t)), (5, .d (I' pre.length))] []) =
      if suf.any (fun w => w.task == t) = true then some (.out .ret [(4, .d (.b true))] []) else some (.out (.exit 0) [] []) := by
  intro suf
  induction suf with
  | nil =>
    intro pre hl
    have : l.length = pre.length := by simp [hl]
    rw [ev_loop]
    conv => lhs; arg 4; unfold F_nurseryref16_Waits_L0
    simp [this]
  | cons w suf ih =>
    intro pre hl
    have hg : l[pre.length]? = some w := by simp [hl]
    have hlt : (pre.length : Int) < l.length := by simp [hl]; omega
    have hnext : IntKind.i64.wrap ((pre.length : Int) + 1) = pre.length + 1 := wrap_i64 (by omega) (by omega)
    have ih' := ih (pre ++ [w]) (by simp [hl])
    simp at ih'
    rw [ev_loop]
    conv => lhs; arg 4; unfold F_nurseryref16_Waits_L0
    by_cases hw : w.task = t
    · simp [hlt, hg, W.row, hw]
    · have hw2 : (w.task == t) = false := by simp [hw]
      simp [hlt, hg, W.row, hw2, hw, hnext]
      exact ih'
theorem ev_Waits (nl : Bool) (l : List W) (t : Int) (hn : l.length ≤ 1000000) :
    ev P (.call nurseryref16_Waits [.d (qD nl l), .d (I' t)] []) = some (.val (.d (.b (l.any fun w => w.task == t))) []) := by
  rw [ev_call P_nurseryref16_Waits rfl]
  have hl := loop_Waits nl l t hn l [] rfl
  simp at hl
  simp [F_nurseryref16_Waits, hl]
  by_cases h : ∃ x, x ∈ l ∧ x.task = t
  · have : (l.any fun w => w.task == t) = true := by simpa using h
    rw [this]; simp [h]
  · have : (l.any fun w => w.task == t) = false := by simpa using h
    rw [this]; simp [h]
theorem loop_Without (nl : Bool) (l : List W) (t : Int) (hn : l.length ≤ 1000000) : ∀ (suf pre : List W), l = pre ++ suf →
    ev P (.loop 0 [0, 1, 5, 6] F_nurseryref16_Without_L0 [(0, .d (qD nl l)), (1, .d (I' t)), (5, .asl 0 0 (pre.filter fun w => w.task != t).length), (6, .d (I' pre.length))] [.arrD 5 true ((pre.filter fun w => w.task != t).map W.row)]) =
      some (.out (.exit 0) [(5, .asl 0 0 (l.filter fun w => w.task != t).length)] [.arrD 5 true ((l.filter fun w => w.task != t).map W.row)]) := by
  intro suf
  induction suf with
  | nil =>
    intro pre hl
    have hlp : l = pre := by simp [hl]
    subst hlp
    rw [ev_loop]
    conv => lhs; arg 4; unfold F_nurseryref16_Without_L0
    simp [reachC, cut]
  | cons w suf ih =>
    intro pre hl
    have hg : l[pre.length]? = some w := by simp [hl]
    have hlt : (pre.length : Int) < l.length := by simp [hl]; omega
    have hnext : IntKind.i64.wrap ((pre.length : Int) + 1) = pre.length + 1 := wrap_i64 (by omega) (by omega)
    have ih' := ih (pre ++ [w]) (by simp [hl])
    have hrl : (pre.filter fun w => w.task != t).length < 1000000 := by
      have h1 : (pre.filter fun w => w.task != t).length ≤ pre.length := List.length_filter_le _ _
      have h2 : pre.length < l.length := by simp [hl]
      omega
    have hr : (pre.filter fun w => w.task != t).length + 1 ≤ room := by unfold room; omega
    generalize hf : (pre.filter fun w => w.task != t) = fl at *
    simp [hf] at ih'
    rw [ev_loop]
    conv => lhs; arg 4; unfold F_nurseryref16_Without_L0
    by_cases hw : w.task = t
    · simp [hw] at ih'
      simp [hlt, hg, W.row, hw, hnext, reachC, cut]
      exact ih'
    · have hw2 : (w.task != t) = true := by simpa using hw
      simp [hw2] at ih'
      simp [hlt, hg, W.row, hw2, hnext, reachC, cut, hr, Nat.not_succ_le_self, overlay, take_map_len]
      exact ih'
theorem ev_Without (nl : Bool) (l : List W) (t : Int) (hn : l.length ≤ 1000000) :
    ev P (.call nurseryref16_Without [.d (qD nl l), .d (I' t)] []) = some (.val (.d (qD false (l.filter fun w => w.task != t))) []) := by
  rw [ev_call P_nurseryref16_Without rfl]
  have hl := loop_Without nl l t hn l [] rfl
  simp at hl
  simp [F_nurseryref16_Without, mkRows, reachC, cut, hl, allDs, take_map_len]
def rbad (own : Int) (pre : List W) (w : W) : Bool := !isTask w.task || w.task == own || pre.any (fun x => x.task == w.task) || w.op != 50 || w.value != 0 || decide (w.prio < 0) || decide (9 < w.prio) || w.case != -1
/-- the reference's check of a queue, from a place on -/
def rqueue (own : Int) : List W → List W → Bool
  | _, [] => true
  | pre, w :: r => !rbad own pre w && !(pre.getLast?.any fun p => decide (p.prio < w.prio)) && rqueue own (pre ++ [w]) r
theorem loop_queue (own : Int) (nl : Bool) (l : List W) (hn : l.length ≤ 1000000) : ∀ (suf pre : List W), l = pre ++ suf →
    ev P (.loop 0 [0, 1, 5] F_nurseryref16_queue_L0 [(0, .d (I' own)), (1, .d (qD nl l)), (5, .d (I' pre.length))] []) =
      if rqueue own pre suf = true then some (.out (.exit 0) [(0, .d (I' own)), (1, .d (qD nl l))] []) else some (.out .ret [(4, .d (.b false))] []) := by
  intro suf
  induction suf with
  | nil =>
    intro pre hl
    have : l.length = pre.length := by simp [hl]
    rw [ev_loop]
    conv => lhs; arg 4; unfold F_nurseryref16_queue_L0
    simp [this, rqueue]
  | cons w suf ih =>
    intro pre hl
    have hg : l[pre.length]? = some w := by simp [hl]
    have hlt : (pre.length : Int) < l.length := by simp [hl]; omega
    have hle : pre.length ≤ l.length := by simp [hl]
    have hnext : IntKind.i64.wrap ((pre.length : Int) + 1) = pre.length + 1 := wrap_i64 (by omega) (by omega)
    have hsub : (l.map W.row).take pre.length = pre.map W.row := by simp [hl]
    have hc := ev_Waits nl pre w.task (by omega)
    have ih' := ih (pre ++ [w]) (by simp [hl])
    simp at ih'
    rw [ev_loop]
    conv => lhs; arg 4; unfold F_nurseryref16_queue_L0
    simp [hlt, hg, W.row, hsub, hle, hc, ev_rTask]
    have hR : (!isTask w.task || w.task == own || pre.any (fun x => x.task == w.task) || w.op != 50 || w.value != 0 || decide (w.prio < 0) || decide (9 < w.prio) || w.case != -1) = rbad own pre w := rfl
    cases hb : (!isTask w.task || w.task == own || pre.any (fun x => x.task == w.task) || w.op != 50 || w.value != 0 || decide (w.prio < 0) || decide (9 < w.prio) || w.case != -1)
    · rw [hb] at hR
      rcases List.eq_nil_or_concat pre with rfl | ⟨pre', p, rfl⟩
      · have hq : rqueue own [] (w :: suf) = rqueue own [w] suf := by simp [rqueue, ← hR]
        rw [hq]
        simp [wrap1] at ih' ⊢
        exact ih'
      · have h0 : (0 : Int) < pre'.length + 1 := by omega
        simp at h0 hlt hle hnext ih'
        have hgp : l[pre'.length]? = some p := by simp [hl]
        have hw2 : IntKind.i64.wrap (pre'.length : Int) = pre'.length := wrap_i64 (by omega) (by omega)
        simp [hgp, hw2, h0, W.row, hlt]
        cases hp : decide (p.prio < w.prio)
        · have hq : rqueue own (pre' ++ [p]) (w :: suf) = rqueue own (pre' ++ [p] ++ [w]) suf := by
            have : rbad own (pre' ++ [p]) w = false := by simpa using hR.symm
            simp [rqueue, this]
            intro _
            simpa using hp
          rw [hq]
          simp [hnext]
          exact ih'
        · have hq : rqueue own (pre' ++ [p]) (w :: suf) = false := by
            simp [rqueue]
            intro _ h
            simp at hp; omega
          rw [hq]
          simp
    · rw [hb] at hR
      have hq : rqueue own pre (w :: suf) = false := by simp only [rqueue, ← hR, Bool.not_true, Bool.false_and]
      rw [hq]
      simp
def rqall (own : Int) (q : List W) : Bool := rqueue own [] q && ((q.length : Int) == 0 || own != -1)
theorem ev_queue (own : Int) (nl : Bool) (l : List W) (hn : l.length ≤ 1000000) :
    ev P (.call nurseryref16_queue [.d (I' own), .d (qD nl l)] []) = some (.val (.d (.b (rqall own l))) []) := by
  unfold rqall
  rw [ev_call P_nurseryref16_queue rfl]
  have hl := loop_queue own nl l hn l [] rfl
  simp at hl
  simp [F_nurseryref16_queue, hl]
  cases rqueue own [] l <;> simp
def rvalid (own cnt time : Int) (hs : List Int) (q : List W) (bs : List Int) (cs : List (List D)) (cl : Bool) (val : Int) : Bool :=
  !((own != -1 && !isTask own) || !rqall own q) && sameB own cnt time hs q bs cs cl val own 0 0 [] q [] false 0
theorem ev_rCheck (nm : D) (k sz ot : Int) (own cnt time : Int) (hn : Bool) (hs : List Int) (qn : Bool) (q : List W) (bn : Bool) (bs : List Int) (cn : Bool) (cs : List (List D)) (cl : Bool) (val : Int)
    (h1 : hs.length ≤ 1000000) (h2 : q.length ≤ 1000000) (h3 : bs.length ≤ 1000000) (h4 : cs.length ≤ 1000000) :
    ev P (.call nurseryref16_Check [.d (.ag [nm, I' k, I' sz, I' ot]), .d (.ag [I' own, I' cnt, I' time, hD hn hs, qD qn q, hD bn bs, cD cn cs, .b cl, I' val])] []) =
      some (.val (.d (I' (if mnew k sz ot = 0 then (if rvalid own cnt time hs q bs cs cl val then 0 else 1) else mnew k sz ot))) []) := by
  have hsm : ev P (.call nurseryref16_Same [.d (.ag [I' own, I' cnt, I' time, hD hn hs, qD qn q, hD bn bs, cD cn cs, .b cl, I' val]), .d (.ag [I' own, I' 0, I' 0, .sl 1 true [], qD qn q, .sl 1 true [], .sl 2 true [], .b false, I' 0])] []) =
      some (.val (.d (.b (sameB own cnt time hs q bs cs cl val own 0 0 [] q [] false 0))) []) := ev_Same own cnt time hn hs qn q bn bs cn cs cl val own 0 0 true [] qn q true [] true false 0 h1 h2 h3 h4
  have hq := ev_queue own qn q h2
  rw [ev_call P_nurseryref16_Check rfl]
  cases hm : mnew k sz ot == 0
  · have hm' : mnew k sz ot ≠ 0 := by simpa using hm
    have hm2 : (mnew k sz ot != 0) = true := by simpa using hm'
    simp [F_nurseryref16_Check, ev_rNew, hm', hm2, zrow]
  · have hm' : mnew k sz ot = 0 := by simpa using hm
    simp [F_nurseryref16_Check, ev_rNew, hm', frow, hq, ev_rTask]
    cases hA : (own != -1 && !isTask own || !rqall own q)
    · have hS : rvalid own cnt time hs q bs cs cl val = sameB own cnt time hs q bs cs cl val own 0 0 [] q [] false 0 := by simp only [rvalid, hA, Bool.not_false, Bool.true_and]
      rw [hS]
      simp [hsm]
      cases sameB own cnt time hs q bs cs cl val own 0 0 [] q [] false 0 <;> simp
    · have hS : rvalid own cnt time hs q bs cs cl val = false := by simp only [rvalid, hA, Bool.not_true, Bool.false_and]
      rw [hS]
      simp
end Go.VS.M
namespace Go.VS.M
def Desc (q : List W) : Prop := q.Pairwise fun a b => b.prio ≤ a.prio
/-- where a waiter of a priority is put -/
def bnd (p : Int) (q : List W) : Nat := (q.takeWhile fun w => decide (p ≤ w.prio)).length
theorem bnd_le (p : Int) : ∀ (q : List W), bnd p q ≤ q.length
  | [] => by simp [bnd]
  | w :: q => by
    have := bnd_le p q
    unfold bnd at *
    simp only [List.takeWhile_cons]
    split <;> simp; omega
theorem bnd_lt {p : Int} {w : W} : ∀ {q : List W} {k : Nat}, Desc q → q[k]? = some w → (k < bnd p q ↔ p ≤ w.prio)
  | [], k, _, h => by simp at h
  | a :: q, 0, _, h => by
    have : a = w := by simpa using h
    subst this
    by_cases hp : p ≤ a.prio <;> simp [bnd, List.takeWhile_cons, hp]
  | a :: q, k + 1, hd, h => by
    have hd' := List.pairwise_cons.1 hd
    have hq : q[k]? = some w := by simpa using h
    have hw : w ∈ q := List.mem_of_getElem? hq
    have h1 := hd'.1 w hw
    have ih := bnd_lt (p := p) (k := k) hd'.2 hq
    by_cases hp : p ≤ a.prio
    · have : bnd p (a :: q) = bnd p q + 1 := by simp [bnd, List.takeWhile_cons, hp]
      rw [this]; constructor <;> intro h3
      · exact ih.1 (by omega)
      · have := ih.2 h3; omega
    · have : bnd p (a :: q) = 0 := by simp [bnd, List.takeWhile_cons, hp]
      rw [this]; constructor <;> intro h3 <;> omega
theorem ev_isNaN (n : Int) : ev P (.call cmp_isNaN_int [.d (I' n)] []) = some (.val (.d (.b false)) []) := by
  rw [ev_call P_cmp_isNaN_int rfl]
  simp [F_cmp_isNaN_int]
theorem ev_lockC1 (a b c d e p : Int) : ev P (.call mutex_lockC1 [.d (.ag [I' a, I' b, I' c, I' d, I' e]), .d (I' p)] []) = some (.val (.d (I' (if p ≤ d then -1 else 1))) []) := by
  have hc : d < p → ev P (.call cmp_Compare_int [.d (I' p), .d (I' d)] []) = some (.val (.d (I' 1)) []) := by
    intro h
    have h1 : ¬ p < d := by omega
    rw [ev_call P_cmp_Compare_int rfl]
    simp [F_cmp_Compare_int, ev_isNaN, h1, h]
  rw [ev_call P_mutex_lockC1 rfl]
  by_cases h : p ≤ d
  · simp [F_mutex_lockC1, h]
  · simp [F_mutex_lockC1, h, hc (by omega)]
theorem mid_eq {i j : Nat} (h : i + j ≤ 4000000) : IntKind.i64.wrap ((IntKind.u64.wrap ((i : Int) + j)).fdiv (2 ^ min 1 IntKind.u64.bits)) = (((i + j) / 2 : Nat) : Int) := by
  have h1 : IntKind.u64.wrap ((i : Int) + j) = (i : Int) + j := by
    have e0 : IntKind.u64.bits = 64 := rfl
    simp only [IntKind.wrap, e0, IntKind.signed, Bool.false_and, Bool.false_eq_true, if_false]
    omega
  have h2 : (2 : Int) ^ min 1 IntKind.u64.bits = 2 := by decide
  rw [h1, h2, Int.fdiv_eq_ediv_of_nonneg _ (by omega), wrap_i64 (by omega) (by omega)]
  omega
theorem loop_BSF (nl : Bool) (q : List W) (p : Int) (hn : q.length ≤ 1000000) (hd : Desc q) : ∀ (n i j : Nat), j - i ≤ n → i ≤ bnd p q → bnd p q ≤ j → j ≤ q.length →
    ev P (.loop 0 [0, 1, 2, 8, 9, 10] F_slices_BinarySearchFunc_api_Waiter_api_Waiter_int_L0 [(0, .d (qD nl q)), (1, .d (I' p)), (2, .d (.fn mutex_lockC1 [] [])), (8, .d (I' q.length)), (9, .d (I' i)), (10, .d (I' j))] []) =
      some (.out (.exit 0) [(0, .d (qD nl q)), (1, .d (I' p)), (2, .d (.fn mutex_lockC1 [] [])), (8, .d (I' q.length)), (9, .d (I' (bnd p q)))] []) := by
  intro n
  induction n with
  | zero =>
    intro i j h1 h2 h3 h4
    have : i = bnd p q := by omega
    have : j = bnd p q := by omega
    subst i; subst j
    rw [ev_loop]
    conv => lhs; arg 4; unfold F_slices_BinarySearchFunc_api_Waiter_api_Waiter_int_L0
    simp
  | succ n ih =>
    intro i j h1 h2 h3 h4
    by_cases hij : i = j
    · have : i = bnd p q := by omega
      have : j = bnd p q := by omega
      subst i; subst j
      rw [ev_loop]
      conv => lhs; arg 4; unfold F_slices_BinarySearchFunc_api_Waiter_api_Waiter_int_L0
      simp
    · have hlt : i < j := by omega
      have hw1 : IntKind.i64.wrap ((i : Int) + j) = i + j := wrap_i64 (by omega) (by omega)
      rw [ev_loop]
      conv => lhs; arg 4; unfold F_slices_BinarySearchFunc_api_Waiter_api_Waiter_int_L0
      have hm := mid_eq (i := i) (j := j) (by omega)
      generalize hmm : (i + j) / 2 = m at hm
      have hm1 : i ≤ m := by omega
      have hm2 : m < j := by omega
      obtain ⟨w, hw⟩ : ∃ w, q[m]? = some w := ⟨q[m]'(by omega), by simp⟩
      have hb := bnd_lt (p := p) hd hw
      have hm3 : IntKind.i64.wrap ((m : Int) + 1) = m + 1 := wrap_i64 (by omega) (by omega)
      simp [hlt, hw1, hm, hw, W.row, ev_lockC1]
      by_cases hp : p ≤ w.prio
      · simp [hp, hm3]
        have := ih (m + 1) j (by omega) (by omega) (by omega) h4
        simpa using this
      · simp [hp]
        exact ih i m (by omega) (by omega) (by omega) (by omega)
theorem ev_BSF (nl : Bool) (q : List W) (p : Int) (hn : q.length ≤ 1000000) (hd : Desc q) :
    ev P (.call slices_BinarySearchFunc_api_Waiter_api_Waiter_int [.d (qD nl q), .d (I' p), .d (.fn mutex_lockC1 [] [])] []) = some (.val (.tu [.d (I' (bnd p q)), .d (.b false)]) []) := by
  rw [ev_call P_slices_BinarySearchFunc_api_Waiter_api_Waiter_int rfl]
  have hb := bnd_le p q
  have hl := loop_BSF nl q p hn hd q.length 0 q.length (by omega) (by omega) hb (by omega)
  simp at hl
  simp [F_slices_BinarySearchFunc_api_Waiter_api_Waiter_int, hl]
  by_cases h : bnd p q < q.length
  · obtain ⟨w, hw⟩ : ∃ w, q[bnd p q]? = some w := ⟨q[bnd p q], by simp⟩
    have hb2 := bnd_lt (p := p) hd hw
    have hp : ¬ p ≤ w.prio := fun h => by have := hb2.2 h; omega
    simp [h, hw, W.row, ev_lockC1, hp]
    split <;> decide
  · simp [h]
theorem ev_Clone (nl : Bool) (q : List W) (hnl : nl = true → q = []) (hn : q.length ≤ 1000000) :
    ev P (.call slices_Clone_api_Waiter_api_Waiter [.d (qD nl q)] []) = if nl = true then some (.val (.d (.sl 5 true [])) []) else some (.val (.asl 0 0 q.length) [.arrD 5 true (q.map W.row)]) := by
  rw [ev_call P_slices_Clone_api_Waiter_api_Waiter rfl]
  cases nl
  · have hr : q.length ≤ room := by unfold room; omega
    cases q with
    | nil => simp [F_slices_Clone_api_Waiter_api_Waiter, mkRows, allDs, reachC, cut, endH]
    | cons a r =>
      simp at hr
      simp [F_slices_Clone_api_Waiter_api_Waiter, mkRows, allDs, reachC, cut, hr, endH]
  · simp [F_slices_Clone_api_Waiter_api_Waiter, endH]
end Go.VS.M
namespace Go.VS.M
/-- a reply -/
structure Rp where
  own : Int
  q : List W
  parked : Bool
  ok : Bool
  wk : Option Int
  e : Int
  deriving DecidableEq
def zr (e : Int) : Rp := ⟨0, [], false, false, none, e⟩
def wrow (t : Int) : List D := [I' t, I' 50, I' 0, .b true, I' (-1)]
/-- who is woken -/
def wks : Option Int → List (List D)
  | none => []
  | some t => [wrow t]
@[simp] theorem wks_none : wks none = [] := rfl
@[simp] theorem wks_some (t : Int) : wks (some t) = [wrow t] := rfl
abbrev stL (hn qn bn cn : Bool) (own : Int) (q : List W) : List D := [I' own, I' 0, I' 0, hD hn [], qD qn q, hD bn [], cD cn [], .b false, I' 0]
abbrev rpL (hn qn bn cn wn : Bool) (r : Rp) : List D :=
  [I' r.own, I' 0, I' 0, hD hn [], qD qn r.q, hD bn [], cD cn [], .b false, I' 0, .b r.parked, I' 0, .b r.ok, .sl 5 wn (wks r.wk)]
/-- what an operation returns -/
def Rets (x : Option Res) (r : Rp) : Prop := ∃ hn qn bn cn wn, x = some (.val (.tu [.d (.ag (rpL hn qn bn cn wn r)), .d (I' r.e)]) []) ∧ (qn = true → r.q = [])
def lockS (own : Int) (q : List W) (t p : Int) : Rp :=
  if (own == -1) = true then ⟨t, q, false, true, none, 0⟩
  else if (own == t) = true then zr 17
  else ⟨own, q.take (bnd p q) ++ ⟨t, 50, 0, p, -1⟩ :: q.drop (bnd p q), true, false, none, 0⟩
def unlockS (own : Int) (q : List W) (t : Int) : Rp :=
  if (own != t) = true then zr 20
  else match q with
    | [] => ⟨-1, [], false, true, none, 0⟩
    | w :: r => ⟨w.task, r, false, true, some w.task, 0⟩
theorem ev_lock (hn qn bn cn : Bool) (own : Int) (q : List W) (t o v p n : Int) (hnl : qn = true → q = []) (hq : q.length ≤ 1000000) (hd : Desc q) :
    Rets (ev P (.call mutex_lock [.d (.ag (stL hn qn bn cn own q)), .d (.ag [I' t, I' o, I' v, I' p, I' n])] [])) (lockS own q t p) := by
  unfold lockS
  cases h1 : own == -1
  · cases h2 : own == t
    · refine ⟨hn, false, bn, cn, true, ?_, by simp⟩
      have hb := bnd_le p q
      have hB := ev_BSF qn q p hq hd
      have hC := ev_Clone qn q hnl hq
      rw [ev_call P_mutex_lock rfl]
      have hI := ev_prim P_slices_Insert_api_Waiter_api_Waiter (p := insP 5) rfl
      cases qn
      · have hr : q.length + 1 ≤ room := by unfold room; omega
        simp at hC
        have e1 : q.length + 1 ≤ bnd p q + (q.length - bnd p q + 1) := by omega
        have e2 : ∀ x : List D, List.take (q.length + 1) (List.take (bnd p q) (q.map W.row) ++ x :: List.drop (bnd p q) (q.map W.row)) = List.take (bnd p q) (q.map W.row) ++ x :: List.drop (bnd p q) (q.map W.row) :=
          fun x => List.take_of_length_le (by simp; omega)
        simp [F_mutex_lock, h1, h2, hB, hC, callD, callR, hI, insP, reachC, cut, insRows, hb, hr, sub, setAll, back, take_map_len, e1, e2, W.row]
      · have : q = [] := hnl rfl
        subst this
        simp at hC
        have e1 : bnd p [] = 0 := rfl
        have e2 : 1 ≤ room := by decide
        simp [F_mutex_lock, h1, h2, hB, hC, callD, callR, hI, insP, reachC, cut, insRows, e1, e2, back, setAll, W.row]
    · refine ⟨true, true, true, true, true, ?_, by simp [zr]⟩
      rw [ev_call P_mutex_lock rfl]
      simp [F_mutex_lock, h1, h2, zr]
  · refine ⟨hn, qn, bn, cn, true, ?_, by simpa using hnl⟩
    rw [ev_call P_mutex_lock rfl]
    simp [F_mutex_lock, h1]
theorem ev_unlock (hn qn bn cn : Bool) (own : Int) (q : List W) (t o v p n : Int) (hnl : qn = true → q = []) (hq : q.length ≤ 1000000) :
    Rets (ev P (.call mutex_unlock [.d (.ag (stL hn qn bn cn own q)), .d (.ag [I' t, I' o, I' v, I' p, I' n])] [])) (unlockS own q t) := by
  unfold unlockS
  cases h1 : own != t
  · cases q with
    | nil =>
      refine ⟨hn, qn, bn, cn, true, ?_, by simp⟩
      rw [ev_call P_mutex_unlock rfl]
      simp [F_mutex_unlock, h1]
    | cons w r =>
      have hqn : qn = false := by cases qn; rfl; simp at hnl
      subst hqn
      have hC := ev_Clone false r (by simp) (by simp at hq; omega)
      have hz : (((r.length : Int) + 1) == 0) = false := by simp; omega
      refine ⟨hn, false, bn, cn, false, ?_, by simp⟩
      simp at hC
      have e1 : (1 : Int) ≤ r.length + 1 := by omega
      rw [ev_call P_mutex_unlock rfl]
      simp [F_mutex_unlock, h1, hz, hC, callD, reachC, cut, W.row, take_map_len, wrow, e1]
  · refine ⟨true, true, true, true, true, ?_, by simp [zr]⟩
    rw [ev_call P_mutex_unlock rfl]
    simp [F_mutex_unlock, h1, zr]
def tryS (own : Int) (q : List W) (t p : Int) : Rp := if 0 ≤ own then ⟨own, q, false, false, none, 0⟩ else lockS own q t p
theorem ev_tryLock (hn qn bn cn : Bool) (own : Int) (q : List W) (t o v p n : Int) (hnl : qn = true → q = []) (hq : q.length ≤ 1000000) (hd : Desc q) :
    Rets (ev P (.call mutex_operationsC1 [.d (.ag (stL hn qn bn cn own q)), .d (.ag [I' t, I' o, I' v, I' p, I' n])] [])) (tryS own q t p) := by
  unfold tryS
  by_cases h1 : 0 ≤ own
  · refine ⟨hn, qn, bn, cn, true, ?_, by simpa [h1] using hnl⟩
    rw [ev_call P_mutex_operationsC1 rfl]
    simp [F_mutex_operationsC1, h1]
  · obtain ⟨hn', qn', bn', cn', wn', he, hq'⟩ := ev_lock hn qn bn cn own q t o v p n hnl hq hd
    rw [if_neg h1]
    refine ⟨hn', qn', bn', cn', wn', ?_, hq'⟩
    rw [ev_call P_mutex_operationsC1 rfl]
    simp [F_mutex_operationsC1, h1, he]
def opsM : O := .mp [(.i .i64 50, .d (.fn mutex_lock [] [])), (.i .i64 51, .d (.fn mutex_operationsC1 [] [])), (.i .i64 52, .d (.fn mutex_unlock [] []))]
theorem ev_operations : ev P (.call mutex_operations [] []) = some (.val (.mp 0) [opsM]) := by
  rw [ev_call P_mutex_operations rfl]
  simp [F_mutex_operations, endH, reachC, cut, opsM]
def applyS (own : Int) (q : List W) (op t p : Int) : Rp :=
  if op ≠ 50 ∧ op ≠ 51 ∧ op ≠ 52 then zr 8
  else if (!isTask t || decide (p < 0) || decide (9 < p)) = true then zr 2
  else if q.any (fun w => w.task == t) = true then zr 17
  else if op = 50 then lockS own q t p
  else if op = 51 then tryS own q t p
  else unlockS own q t
theorem ev_mApply1 (nm : D) (hn qn bn cn : Bool) (own : Int) (q : List W) (t o v p n : Int) (hnl : qn = true → q = []) (hq : q.length ≤ 1000000) (hd : Desc q)
    (hv : mvalid own 0 0 [] q [] [] false 0 = true) :
    Rets (ev P (.call mutex_Apply [.d (.ag [nm, I' 1, I' 0, I' 0]), .d (.ag (stL hn qn bn cn own q)), .d (.ag [I' t, I' o, I' v, I' p, I' n])] [])) (applyS own q o t p) := by
  have hC := ev_mCheck nm 1 0 0 own 0 0 hn [] qn q bn [] cn [] false 0 (by simp) hq (by simp) (by simp)
  have hm : mnew 1 0 0 = 0 := by decide
  simp [hv, hm] at hC
  have hw := ev_waits (own := own) (cnt := 0) (time := 0) (h1 := hD hn []) (h2 := hD bn []) (h3 := cD cn []) (qn := qn) (q := q) (cl := false) (val := 0) t hq
  unfold applyS
  by_cases h1 : o ≠ 50 ∧ o ≠ 51 ∧ o ≠ 52
  · rw [if_pos h1]
    obtain ⟨a1, a2, a3⟩ := h1
    refine ⟨true, true, true, true, true, ?_, by simp [zr]⟩
    rw [ev_call P_mutex_Apply rfl]
    simp [F_mutex_Apply, hC, callD, ev_operations, opsM, reachC, cut, a1, a2, a3, zr]
  · rw [if_neg h1]
    have h3 : o = 50 ∨ o = 51 ∨ o = 52 := by omega
    cases h2 : (!isTask t || decide (p < 0) || decide (9 < p))
    · rw [if_neg (by simp)]
      cases hW : q.any fun w => w.task == t
      · rw [if_neg (by simp)]
        rw [hW] at hw
        rcases h3 with rfl | rfl | rfl
        · obtain ⟨hn', qn', bn', cn', wn', he, hq'⟩ := ev_lock hn qn bn cn own q t 50 v p n hnl hq hd
          refine ⟨hn', qn', bn', cn', wn', ?_, hq'⟩
          rw [ev_call P_mutex_Apply rfl]
          simp [F_mutex_Apply, hC, callD, ev_operations, opsM, reachC, cut, ev_isTask, h2, hw, he]
        · obtain ⟨hn', qn', bn', cn', wn', he, hq'⟩ := ev_tryLock hn qn bn cn own q t 51 v p n hnl hq hd
          refine ⟨hn', qn', bn', cn', wn', ?_, hq'⟩
          rw [ev_call P_mutex_Apply rfl]
          simp [F_mutex_Apply, hC, callD, ev_operations, opsM, reachC, cut, ev_isTask, h2, hw, he]
        · obtain ⟨hn', qn', bn', cn', wn', he, hq'⟩ := ev_unlock hn qn bn cn own q t 52 v p n hnl hq
          refine ⟨hn', qn', bn', cn', wn', ?_, hq'⟩
          rw [ev_call P_mutex_Apply rfl]
          simp [F_mutex_Apply, hC, callD, ev_operations, opsM, reachC, cut, ev_isTask, h2, hw, he]
      · rw [if_pos rfl]
        rw [hW] at hw
        refine ⟨true, true, true, true, true, ?_, by simp [zr]⟩
        rcases h3 with rfl | rfl | rfl <;> rw [ev_call P_mutex_Apply rfl] <;>
        simp [F_mutex_Apply, hC, callD, ev_operations, opsM, reachC, cut, ev_isTask, h2, hw, zr]
    · rw [if_pos rfl]
      refine ⟨true, true, true, true, true, ?_, by simp [zr]⟩
      rcases h3 with rfl | rfl | rfl <;> rw [ev_call P_mutex_Apply rfl] <;>
      simp [F_mutex_Apply, hC, callD, ev_operations, opsM, reachC, cut, ev_isTask, h2, zr]
/-- the failure of a check -/
theorem ev_mApply0 (nm k sz ot s0 s1 s2 s3 s4 s5 s6 s7 s8 c0 c1 c2 c3 c4 : D) (e : Int) (he : e ≠ 0)
    (hC : ev P (.call mutex_Check [.d (.ag [nm, k, sz, ot]), .d (.ag [s0, s1, s2, s3, s4, s5, s6, s7, s8])] []) = some (.val (.d (I' e)) [])) :
    Rets (ev P (.call mutex_Apply [.d (.ag [nm, k, sz, ot]), .d (.ag [s0, s1, s2, s3, s4, s5, s6, s7, s8]), .d (.ag [c0, c1, c2, c3, c4])] [])) (zr e) := by
  have he' : (e != 0) = true := by simpa using he
  refine ⟨true, true, true, true, true, ?_, by simp [zr]⟩
  rw [ev_call P_mutex_Apply rfl]
  simp [F_mutex_Apply, hC, he', zr]
theorem ev_rApply0 (nm k sz ot s0 s1 s2 s3 s4 s5 s6 s7 s8 c0 c1 c2 c3 c4 : D) (e : Int) (he : e ≠ 0)
    (hC : ev P (.call nurseryref16_Check [.d (.ag [nm, k, sz, ot]), .d (.ag [s0, s1, s2, s3, s4, s5, s6, s7, s8])] []) = some (.val (.d (I' e)) [])) :
    Rets (ev P (.call nurseryref16_Apply [.d (.ag [nm, k, sz, ot]), .d (.ag [s0, s1, s2, s3, s4, s5, s6, s7, s8]), .d (.ag [c0, c1, c2, c3, c4])] [])) (zr e) := by
  have he' : (e != 0) = true := by simpa using he
  refine ⟨true, true, true, true, true, ?_, by simp [zr]⟩
  rw [ev_call P_nurseryref16_Apply rfl]
  simp [F_nurseryref16_Apply, hC, he', zr]
end Go.VS.M
namespace Go.VS.M
theorem loop_rlock (a0 a1 a2 a3 a5 a6 a7 a8 c0 c1 c2 c4 : D) (nl : Bool) (q : List W) (p : Int) (z : List D) (hn : q.length ≤ 1000000) :
    ∀ (suf pre : List W), q = pre ++ suf → bnd p q = pre.length + bnd p suf →
    ev P (.loop 0 [2, 3, 4, 6] F_nurseryref16_lock_L0 [(2, .loc 0 0 0), (3, .d (.ref [c0, c1, c2, I' p, c4])), (4, .loc 1 0 0), (6, .d (I' pre.length))] [.arrD 9 true [[a0, a1, a2, a3, qD nl q, a5, a6, a7, a8]], .arrD 13 true [z]]) =
      some (.out (.exit 0) [(2, .loc 0 0 0), (3, .d (.ref [c0, c1, c2, I' p, c4])), (4, .loc 1 0 0), (6, .d (I' (bnd p q)))] [.arrD 9 true [[a0, a1, a2, a3, qD nl q, a5, a6, a7, a8]], .arrD 13 true [z]]) := by
  intro suf
  induction suf with
  | nil =>
    intro pre hl hb
    have : q.length = pre.length := by simp [hl]
    have hb' : bnd p q = pre.length := by simpa [bnd] using hb
    rw [ev_loop]
    conv => lhs; arg 4; unfold F_nurseryref16_lock_L0
    simp [this, hb', reachC, cut, List.idxOf_cons]
  | cons w suf ih =>
    intro pre hl hb
    have hg : q[pre.length]? = some w := by simp [hl]
    have hlt : (pre.length : Int) < q.length := by simp [hl]; omega
    have hnext : IntKind.i64.wrap ((pre.length : Int) + 1) = pre.length + 1 := wrap_i64 (by omega) (by omega)
    rw [ev_loop]
    conv => lhs; arg 4; unfold F_nurseryref16_lock_L0
    by_cases hp : p ≤ w.prio
    · have ih' := ih (pre ++ [w]) (by simp [hl]) (by rw [hb]; simp [bnd, List.takeWhile_cons, hp]; omega)
      simp [hlt, hg, W.row, hp, hnext, reachC, cut, List.idxOf_cons]
      simp at ih'
      exact ih'
    · have hb' : bnd p q = pre.length := by rw [hb]; simp [bnd, List.takeWhile_cons, hp]
      simp [hlt, hg, W.row, hp, hb', reachC, cut, List.idxOf_cons]
theorem take_snoc {α : Type} {l : List α} {x : α} : List.take (l.length + 1) (l ++ [x]) = l ++ [x] := List.take_of_length_le (by simp)
theorem ev_rlock (hn qn bn cn : Bool) (own : Int) (q : List W) (t o v p n : Int) (hnl : qn = true → q = []) (hq : q.length ≤ 1000000) (ht : t ≠ -1) :
    Rets (ev P (.call nurseryref16_lock [.d (.ag (stL hn qn bn cn own q)), .d (.ag [I' t, I' o, I' v, I' p, I' n])] [])) (lockS own q t p) := by
  unfold lockS
  cases h1 : own == -1
  · cases h2 : own == t
    · refine ⟨hn, false, bn, cn, true, ?_, by simp⟩
      have hb := bnd_le p q
      have hl := loop_rlock (I' own) (I' 0) (I' 0) (hD hn []) (hD bn []) (cD cn []) (.b false) (I' 0) (I' t) (I' o) (I' v) (I' n) qn q p
        [I' 0, I' 0, I' 0, .sl 1 true [], .sl 5 true [], .sl 1 true [], .sl 2 true [], .b false, I' 0, .b false, I' 0, .b false, .sl 5 true []] hq q [] rfl (by simp)
      simp at hl
      rw [ev_call P_nurseryref16_lock rfl]
      obtain ⟨A, hA⟩ : ∃ A, List.take (bnd p q) (q.map W.row) = A := ⟨_, rfl⟩
      obtain ⟨B, hB⟩ : ∃ B, List.drop (bnd p q) (q.map W.row) = B := ⟨_, rfl⟩
      have lA : A.length + B.length = q.length := by rw [← hA, ← hB]; simp; omega
      have r1 : A.length ≤ room := by unfold room; omega
      have r2 : A.length + 1 ≤ room := by unfold room; omega
      have r3 : A.length + 1 + B.length ≤ room := by unfold room; omega
      have r4 : 1 + B.length ≤ room := by unfold room; omega
      have r5 : 1 ≤ room := by decide
      have lB : q.length - bnd p q = B.length := by rw [← hB]; simp
      have s1 : A.length + 1 + 1 ≤ room := by unfold room; omega
      cases A with
      | nil =>
        cases B with
        | nil =>
          simp at lB
          simp [F_nurseryref16_lock, h1, h2, reachC, cut, List.idxOf_cons, hl, hb, hA, hB, r5, take_map_len, lB, W.row]
        | cons b B =>
          simp at lB r1 r2 r3 r4
          have g1 : ¬ (1 + (B.length + 1) ≤ 1) := by omega
          have g2 : ∀ x : List D, List.take (1 + (B.length + 1)) (x :: b :: B) = x :: b :: B := fun x => List.take_of_length_le (by simp; omega)
          have g3 : 1 + (B.length + 1) ≤ B.length + 1 + 1 := by omega
          simp [F_nurseryref16_lock, h1, h2, reachC, cut, List.idxOf_cons, hl, hb, hA, hB, r5, take_map_len, lB, r4, W.row, g1, g2, g3]
      | cons a A =>
        cases B with
        | nil =>
          simp at lB r1 r2
          simp [F_nurseryref16_lock, h1, h2, reachC, cut, List.idxOf_cons, hl, hb, hA, hB, r5, take_map_len, lB, r1, r2, W.row, Nat.not_succ_le_self, take_snoc]
        | cons b B =>
          simp at lB r1 r2 r3 r4
          have g1 : ¬ (A.length + 1 + 1 + (B.length + 1) ≤ A.length + 1 + 1) := by omega
          have g2 : ∀ x : List D, List.take (A.length + 1 + 1 + (B.length + 1)) (a :: (A ++ x :: b :: B)) = a :: (A ++ x :: b :: B) := fun x => List.take_of_length_le (by simp; omega)
          have g3 : A.length + 1 + 1 + (B.length + 1) ≤ A.length + (B.length + 1 + 1) + 1 := by omega
          simp [F_nurseryref16_lock, h1, h2, reachC, cut, List.idxOf_cons, hl, hb, hA, hB, r5, take_map_len, lB, r1, r2, r3, W.row, Nat.not_succ_le_self, take_snoc, g1, g2, g3]
    · refine ⟨true, true, true, true, true, ?_, by simp [zr]⟩
      rw [ev_call P_nurseryref16_lock rfl]
      simp [F_nurseryref16_lock, h1, h2, zr]
  · have h2 : (own == t) = false := by simp at h1 ⊢; omega
    refine ⟨hn, qn, bn, cn, true, ?_, by simpa using hnl⟩
    rw [ev_call P_nurseryref16_lock rfl]
    simp [F_nurseryref16_lock, h1, h2]
theorem ev_rApply1 (nm : D) (hn qn bn cn : Bool) (own : Int) (q : List W) (t o v p n : Int) (hnl : qn = true → q = []) (hq : q.length ≤ 1000000)
    (hown : own = -1 ∨ 0 ≤ own) (hdis : ∀ w r, q = w :: r → r.filter (fun x => x.task != w.task) = r)
    (hv : rvalid own 0 0 [] q [] [] false 0 = true) :
    Rets (ev P (.call nurseryref16_Apply [.d (.ag [nm, I' 1, I' 0, I' 0]), .d (.ag (stL hn qn bn cn own q)), .d (.ag [I' t, I' o, I' v, I' p, I' n])] [])) (applyS own q o t p) := by
  have hC := ev_rCheck nm 1 0 0 own 0 0 hn [] qn q bn [] cn [] false 0 (by simp) hq (by simp) (by simp)
  have hm : mnew 1 0 0 = 0 := by decide
  simp [hv, hm] at hC
  have hw := ev_Waits qn q t hq
  unfold applyS
  by_cases h1 : o ≠ 50 ∧ o ≠ 51 ∧ o ≠ 52
  · rw [if_pos h1]
    obtain ⟨a1, a2, a3⟩ := h1
    refine ⟨true, true, true, true, true, ?_, by simp [zr]⟩
    rw [ev_call P_nurseryref16_Apply rfl]
    have b1 : (o != 50) = true := by simpa using a1
    have b2 : (o != 51) = true := by simpa using a2
    have b3 : (o != 52) = true := by simpa using a3
    simp [F_nurseryref16_Apply, hC, b1, b2, b3, zr]
  · rw [if_neg h1]
    have h3 : o = 50 ∨ o = 51 ∨ o = 52 := by omega
    cases h2 : (!isTask t || decide (p < 0) || decide (9 < p))
    · rw [if_neg (by simp)]
      have ht : t ≠ -1 := by simp [isTask] at h2; omega
      cases hW : q.any fun w => w.task == t
      · rw [if_neg (by simp)]
        rw [hW] at hw
        rcases h3 with rfl | rfl | rfl
        · obtain ⟨hn', qn', bn', cn', wn', he, hq'⟩ := ev_rlock hn qn bn cn own q t 50 v p n hnl hq ht
          refine ⟨hn', qn', bn', cn', wn', ?_, hq'⟩
          rw [ev_call P_nurseryref16_Apply rfl]
          simp [F_nurseryref16_Apply, hC, ev_rTask, h2, hw, he]
        · rw [if_neg (by decide), if_pos rfl]
          unfold tryS
          rcases hown with rfl | ho
          · refine ⟨hn, qn, bn, cn, true, ?_, by simpa [lockS] using hnl⟩
            rw [ev_call P_nurseryref16_Apply rfl]
            simp [F_nurseryref16_Apply, hC, ev_rTask, h2, hw, lockS]
          · have ho' : (own == -1) = false := by simp; omega
            refine ⟨hn, qn, bn, cn, true, ?_, by simpa [ho] using hnl⟩
            rw [ev_call P_nurseryref16_Apply rfl]
            simp [F_nurseryref16_Apply, hC, ev_rTask, h2, hw, ho', ho]
        · rw [if_neg (by decide), if_neg (by decide)]
          unfold unlockS
          cases h4 : own != t
          · cases q with
            | nil =>
              refine ⟨hn, qn, bn, cn, true, ?_, by simp⟩
              rw [ev_call P_nurseryref16_Apply rfl]
              simp [F_nurseryref16_Apply, hC, ev_rTask, h2, hw, h4]
            | cons w r =>
              have hqn : qn = false := by cases qn; rfl; simp at hnl
              subst hqn
              have hX := ev_Without false (w :: r) w.task hq
              have hd := hdis w r rfl
              simp [hd] at hX
              have hz : (((r.length : Int) + 1) == 0) = false := by simp; omega
              refine ⟨hn, false, bn, cn, false, ?_, by simp⟩
              rw [ev_call P_nurseryref16_Apply rfl]
              simp [F_nurseryref16_Apply, hC, ev_rTask, h2, hw, h4, hz, hX, W.row, wrow]
              done
          · refine ⟨true, true, true, true, true, ?_, by simp [zr]⟩
            rw [ev_call P_nurseryref16_Apply rfl]
            simp [F_nurseryref16_Apply, hC, ev_rTask, h2, hw, h4, zr]
      · rw [if_pos rfl]
        rw [hW] at hw
        refine ⟨true, true, true, true, true, ?_, by simp [zr]⟩
        rcases h3 with rfl | rfl | rfl <;> rw [ev_call P_nurseryref16_Apply rfl] <;>
        simp [F_nurseryref16_Apply, hC, ev_rTask, h2, hw, zr]
    · rw [if_pos rfl]
      refine ⟨true, true, true, true, true, ?_, by simp [zr]⟩
      rcases h3 with rfl | rfl | rfl <;> rw [ev_call P_nurseryref16_Apply rfl] <;>
      simp [F_nurseryref16_Apply, hC, ev_rTask, h2, zr]
end Go.VS.M
namespace Go.VS.M
theorem rqueue_eq (own : Int) : ∀ (suf pre : List W), rqueue own pre suf = (qcheck own pre suf && wcheckFrom 2 pre.getLast? suf == 0)
  | [], pre => by simp [rqueue, qcheck, wcheckFrom]
  | w :: r, pre => by
    have ih := rqueue_eq own r (pre ++ [w])
    simp only [List.getLast?_append, List.getLast?_singleton, Option.or_some] at ih
    simp only [rqueue, qcheck, wcheckFrom, ih]
    have key : (!rbad own pre w) = (!qbad own w && !pre.any (fun x => x.task == w.task) && wvalid w) := by
      rw [Bool.eq_iff_iff]
      simp [rbad, qbad, wvalid, wbad, isTask]
      constructor
      · rintro ⟨⟨⟨⟨⟨⟨⟨h1, h2⟩, h3⟩, h4⟩, h5⟩, h6⟩, h7⟩, h8⟩
        refine ⟨⟨⟨⟨⟨h4, h5⟩, h8⟩, h2⟩, h3⟩, ?_⟩
        omega
      · rintro ⟨⟨⟨⟨⟨h4, h5⟩, h8⟩, h2⟩, h3⟩, h⟩
        refine ⟨⟨⟨⟨⟨⟨⟨?_, h2⟩, h3⟩, h4⟩, h5⟩, ?_⟩, ?_⟩, h8⟩ <;> omega
    rw [key]
    cases hv : wvalid w
    · simp
    · cases hp : (pre.getLast?.any fun p => decide (p.prio < w.prio))
      · simp [Bool.and_assoc]
      · simp
theorem valid_eq {own cnt time : Int} {hs : List Int} {q : List W} {bs : List Int} {cs : List (List D)} {cl : Bool} {val : Int} (hq : q.length ≤ 96) :
    rvalid own cnt time hs q bs cs cl val = mvalid own cnt time hs q bs cs cl val := by
  have h96 : ¬ 96 < q.length := by omega
  have e : rqueue own [] q = (qcheck own [] q && wcheckFrom 2 none q == 0) := rqueue_eq own q []
  rw [Bool.eq_iff_iff]
  simp [rvalid, mvalid, rqall, sameB, wchk, h96, e]
  have el : ((hs.length : Int) + bs.length + cs.length ≤ 0) ↔ (hs = [] ∧ bs = []) ∧ cs = [] := by
    rw [← List.length_eq_zero_iff, ← List.length_eq_zero_iff, ← List.length_eq_zero_iff]; omega
  rw [el]
  constructor
  · rintro ⟨⟨a1, ⟨a2, a3⟩, a4⟩, ⟨⟨⟨b1, b2⟩, b3⟩, b4⟩, c⟩
    exact ⟨⟨⟨⟨a1, a4.symm⟩, ⟨⟨⟨b1, b2⟩, b4⟩, b3⟩, c⟩, a3⟩, a2⟩
  · rintro ⟨⟨⟨⟨a1, a4⟩, ⟨⟨⟨b1, b2⟩, b4⟩, b3⟩, c⟩, a3⟩, a2⟩
    exact ⟨⟨a1, ⟨a2, a3⟩, a4.symm⟩, ⟨⟨⟨b1, b2⟩, b3⟩, b4⟩, c⟩
/-- what a valid state is -/
structure MV (own : Int) (q : List W) : Prop where
  rng : own = -1 ∨ (0 ≤ own ∧ own < 16)
  free : own = -1 → q = []
  desc : Desc q
  dis : q.Pairwise fun a b => a.task ≠ b.task
  all : ∀ w, w ∈ q → w.op = 50 ∧ w.value = 0 ∧ w.case = -1 ∧ w.task ≠ own ∧ 0 ≤ w.task ∧ w.task < 16 ∧ 0 ≤ w.prio ∧ w.prio ≤ 9
theorem wcheck_iff (d : Int) (hd : d = 2) : ∀ (suf : List W) (prev : Option W), wcheckFrom d prev suf = 0 ↔ (∀ w, w ∈ suf → wvalid w = true) ∧ (prev.toList ++ suf).Pairwise (fun a b => b.prio ≤ a.prio)
  | [], prev => by cases prev <;> simp [wcheckFrom]
  | w :: r, prev => by
    have ih := wcheck_iff d hd r (some w)
    unfold wcheckFrom
    cases hv : wvalid w
    · simp [hv]
    · cases prev with
      | none =>
        simp [hv, hd] at ih ⊢
        rw [ih]
      | some p =>
        simp only [Option.toList, List.singleton_append] at ih ⊢
        by_cases hp : p.prio < w.prio
        · simp [hd, hp]
          omega
        · simp [hd, hp] at ih ⊢
          rw [ih]
          constructor
          · rintro ⟨h1, h2, h3⟩
            refine ⟨⟨hv, h1⟩, ⟨by omega, ?_⟩, h2, h3⟩
            intro a ha
            have := h2 a ha; omega
          · rintro ⟨⟨_, h1⟩, ⟨_, _⟩, h2, h3⟩
            exact ⟨h1, h2, h3⟩
theorem qcheck_iff (own : Int) : ∀ (suf pre : List W), qcheck own pre suf = true ↔ (∀ w, w ∈ suf → qbad own w = false) ∧ (∀ a, a ∈ pre → ∀ b, b ∈ suf → a.task ≠ b.task) ∧ suf.Pairwise (fun a b => a.task ≠ b.task)
  | [], pre => by simp [qcheck]
  | w :: r, pre => by
    have ih := qcheck_iff own r (pre ++ [w])
    simp [qcheck, ih]
    constructor
    · rintro ⟨⟨h1, h2⟩, h3, h4, h5⟩
      refine ⟨⟨h1, h3⟩, fun a ha => ⟨h2 a ha, fun b hb => h4 a (.inl ha) b hb⟩, fun b hb => h4 w (.inr rfl) b hb, h5⟩
    · rintro ⟨⟨h1, h3⟩, h2, h4, h5⟩
      refine ⟨⟨h1, fun a ha => (h2 a ha).1⟩, h3, ?_, h5⟩
      rintro a (ha | rfl) b hb
      · exact (h2 a ha).2 b hb
      · exact h4 b hb
theorem mvalid_iff {own cnt time : Int} {hs : List Int} {q : List W} {bs : List Int} {cs : List (List D)} {cl : Bool} {val : Int} :
    mvalid own cnt time hs q bs cs cl val = true ↔ (cnt = 0 ∧ time = 0 ∧ hs = [] ∧ bs = [] ∧ cs = [] ∧ cl = false ∧ val = 0) ∧ q.length ≤ 96 ∧ MV own q := by
  by_cases h96 : q.length ≤ 96
  · have h96' : ¬ 96 < q.length := by omega
    have e1 := wcheck_iff 2 rfl q none
    have e2 := qcheck_iff own q []
    simp at e1 e2
    have el : ((hs.length : Int) + bs.length + cs.length ≤ 0) ↔ (hs = [] ∧ bs = []) ∧ cs = [] := by
      rw [← List.length_eq_zero_iff, ← List.length_eq_zero_iff, ← List.length_eq_zero_iff]; omega
    simp [mvalid, wchk, h96, h96', e1, e2, el]
    constructor
    · rintro ⟨⟨⟨⟨a1, a4⟩, ⟨⟨⟨b1, b2⟩, b4⟩, b3⟩, ⟨c1, c2⟩, c3⟩, v, d⟩, qb, dis⟩
      refine ⟨⟨b1, b2, c1, c2, c3, b3, b4⟩, ?_, fun h => a4.resolve_left (by simp [h]), d, dis, ?_⟩
      · simpa [isTask] using a1
      · intro w hw
        have h1 := v w hw
        have h2 := qb w hw
        simp [wvalid, wbad] at h1
        simp [qbad] at h2
        omega
    · rintro ⟨⟨b1, b2, c1, c2, c3, b3, b4⟩, m⟩
      refine ⟨⟨⟨⟨?_, ?_⟩, ⟨⟨⟨b1, b2⟩, b4⟩, b3⟩, ⟨c1, c2⟩, c3⟩, ?_, m.desc⟩, ?_, m.dis⟩
      · simpa [isTask] using m.rng
      · by_cases h : own = -1
        · exact .inr (m.free h)
        · exact .inl h
      · intro w hw
        have := m.all w hw
        simp [wvalid, wbad]
        omega
      · intro w hw
        have := m.all w hw
        simp [qbad]
        omega
  · have h96' : 96 < q.length := by omega
    simp [mvalid, wchk, h96', h96]
end Go.VS.M
namespace Go.VS.M
theorem mnew_iff {k sz ot : Int} : mnew k sz ot = 0 ↔ k = 1 ∧ sz = 0 ∧ ot = 0 := by
  unfold mnew
  by_cases h1 : k = 1
  · by_cases h2 : sz = 0 ∧ ot = 0
    · obtain ⟨rfl, rfl⟩ := h2; simp [h1]
    · have : (sz != 0 || ot != 0) = true := by simp; omega
      simp [h1, this]; exact fun h => fun h' => h2 ⟨h, h'⟩
  · simp [h1]
def appT (k sz ot own cnt time : Int) (hs : List Int) (q : List W) (bs : List Int) (cs : List (List D)) (cl : Bool) (val : Int) (o t p : Int) : Rp :=
  if mnew k sz ot = 0 then (if mvalid own cnt time hs q bs cs cl val = true then applyS own q o t p else zr 1) else zr (mnew k sz ot)
theorem ev_mApply (nm : D) (k sz ot own cnt time : Int) (hn : Bool) (hs : List Int) (qn : Bool) (q : List W) (bn : Bool) (bs : List Int) (cn : Bool) (cs : List (List D)) (cl : Bool) (val : Int) (t o v p n : Int)
    (h1 : hs.length ≤ 1000000) (h2 : q.length ≤ 1000000) (h3 : bs.length ≤ 1000000) (h4 : cs.length ≤ 1000000) (hnl : qn = true → q = []) :
    Rets (ev P (.call mutex_Apply [.d (.ag [nm, I' k, I' sz, I' ot]), .d (.ag [I' own, I' cnt, I' time, hD hn hs, qD qn q, hD bn bs, cD cn cs, .b cl, I' val]), .d (.ag [I' t, I' o, I' v, I' p, I' n])] []))
      (appT k sz ot own cnt time hs q bs cs cl val o t p) := by
  have hC := ev_mCheck nm k sz ot own cnt time hn hs qn q bn bs cn cs cl val h1 h2 h3 h4
  unfold appT
  by_cases hm : mnew k sz ot = 0
  · rw [if_pos hm] at hC ⊢
    by_cases hv : mvalid own cnt time hs q bs cs cl val = true
    · rw [if_pos hv]
      obtain ⟨⟨rfl, rfl, rfl, rfl, rfl, rfl, rfl⟩, hl, m⟩ := mvalid_iff.1 hv
      obtain ⟨rfl, rfl, rfl⟩ := mnew_iff.1 hm
      exact ev_mApply1 nm hn qn bn cn own q t o v p n hnl h2 m.desc hv
    · rw [if_neg hv] at hC ⊢
      exact ev_mApply0 _ _ _ _ _ _ _ _ _ _ _ _ _ _ _ _ _ _ 1 (by decide) hC
  · rw [if_neg hm] at hC ⊢
    exact ev_mApply0 _ _ _ _ _ _ _ _ _ _ _ _ _ _ _ _ _ _ _ hm hC
theorem ev_rApply (nm : D) (k sz ot own cnt time : Int) (hn : Bool) (hs : List Int) (qn : Bool) (q : List W) (bn : Bool) (bs : List Int) (cn : Bool) (cs : List (List D)) (cl : Bool) (val : Int) (t o v p n : Int)
    (h1 : hs.length ≤ 1000000) (h2 : q.length ≤ 96) (h3 : bs.length ≤ 1000000) (h4 : cs.length ≤ 1000000) (hnl : qn = true → q = []) :
    Rets (ev P (.call nurseryref16_Apply [.d (.ag [nm, I' k, I' sz, I' ot]), .d (.ag [I' own, I' cnt, I' time, hD hn hs, qD qn q, hD bn bs, cD cn cs, .b cl, I' val]), .d (.ag [I' t, I' o, I' v, I' p, I' n])] []))
      (appT k sz ot own cnt time hs q bs cs cl val o t p) := by
  have hC := ev_rCheck nm k sz ot own cnt time hn hs qn q bn bs cn cs cl val h1 (by omega) h3 h4
  have hve := valid_eq (own := own) (cnt := cnt) (time := time) (hs := hs) (bs := bs) (cs := cs) (cl := cl) (val := val) h2
  rw [hve] at hC
  unfold appT
  by_cases hm : mnew k sz ot = 0
  · rw [if_pos hm] at hC ⊢
    by_cases hv : mvalid own cnt time hs q bs cs cl val = true
    · rw [if_pos hv]
      obtain ⟨⟨rfl, rfl, rfl, rfl, rfl, rfl, rfl⟩, hl, m⟩ := mvalid_iff.1 hv
      obtain ⟨rfl, rfl, rfl⟩ := mnew_iff.1 hm
      refine ev_rApply1 nm hn qn bn cn own q t o v p n hnl (by omega) (by rcases m.rng with h | h; exact .inl h; exact .inr h.1) ?_ (by rw [hve]; exact hv)
      intro w r hr
      have hd := m.dis
      rw [hr, List.pairwise_cons] at hd
      rw [List.filter_eq_self]
      intro a ha
      have := hd.1 a ha
      simp; omega
    · rw [if_neg hv] at hC ⊢
      exact ev_rApply0 _ _ _ _ _ _ _ _ _ _ _ _ _ _ _ _ _ _ 1 (by decide) hC
  · rw [if_neg hm] at hC ⊢
    exact ev_rApply0 _ _ _ _ _ _ _ _ _ _ _ _ _ _ _ _ _ _ _ hm hC
theorem ev_SameReply (hn qn bn cn wn hn' qn' bn' cn' wn' : Bool) (r : Rp) (hq : r.q.length ≤ 1000000) :
    ev P (.call nurseryref16_SameReply [.d (.ag (rpL hn qn bn cn wn r)), .d (.ag (rpL hn' qn' bn' cn' wn' r))] []) = some (.val (.d (.b true)) []) := by
  obtain ⟨own, q, pk, ok, wk, e⟩ := r
  have hS := ev_Same own 0 0 hn [] qn q bn [] cn [] false 0 own 0 0 hn' [] qn' q bn' [] cn' false 0 (by simp) hq (by simp) (by simp)
  simp [sameB] at hS
  have hl : ∀ a b : List D, a.length = 12 → b.length = 12 → ev P (.loop 0 [2, 3, 5] F_nurseryref16_SameReply_L0 [(2, .d (.ref (a ++ [.sl 5 wn (wks wk)]))), (3, .d (.ref (b ++ [.sl 5 wn' (wks wk)]))), (5, .d (I' 0))] []) = some (.out (.exit 0) [] []) := by
    intro a b ha hb
    rw [ev_loop]
    conv => lhs; arg 4; unfold F_nurseryref16_SameReply_L0
    cases wk with
    | none => simp [ha, hb]
    | some t =>
      have h1 : IntKind.i64.wrap 1 = 1 := by decide
      simp [ha, hb, wrow, h1]
      rw [ev_loop]
      conv => lhs; arg 4; unfold F_nurseryref16_SameReply_L0
      simp [ha, hb]
  have hl1 := hl [I' own, I' 0, I' 0, hD hn [], qD qn q, hD bn [], cD cn [], .b false, I' 0, .b pk, I' 0, .b ok] [I' own, I' 0, I' 0, hD hn' [], qD qn' q, hD bn' [], cD cn' [], .b false, I' 0, .b pk, I' 0, .b ok] rfl rfl
  simp at hl1
  rw [ev_call P_nurseryref16_SameReply rfl]
  simp [F_nurseryref16_SameReply, hS, hl1]
theorem ev_mReady {o s c : List D} {r : Rp} (ho : o.length = 4) (hs : s.length = 9) (hc : c.length = 5) (h : Rets (ev P (.call mutex_Apply [.d (.ag o), .d (.ag s), .d (.ag c)] [])) r) :
    ev P (.call mutex_Ready [.d (.ag o), .d (.ag s), .d (.ag c)] []) = some (.val (.d (.b (r.e == 0 && !r.parked))) []) := by
  obtain ⟨hn, qn, bn, cn, wn, he, _⟩ := h
  rw [ev_call P_mutex_Ready rfl]
  have t1 : List.take 4 o = o := List.take_of_length_le (by omega)
  have t2 : List.take 9 s = s := List.take_of_length_le (by omega)
  have t3 : List.take 5 c = c := List.take_of_length_le (by omega)
  simp [F_mutex_Ready, ho, hs, hc, he, allD_map', t1, t2, t3]
theorem ev_rReady {o s c : List D} {r : Rp} (ho : o.length = 4) (hs : s.length = 9) (hc : c.length = 5) (h : Rets (ev P (.call nurseryref16_Apply [.d (.ag o), .d (.ag s), .d (.ag c)] [])) r) :
    ev P (.call nurseryref16_Ready [.d (.ag o), .d (.ag s), .d (.ag c)] []) = some (.val (.d (.b (r.e == 0 && !r.parked))) []) := by
  obtain ⟨hn, qn, bn, cn, wn, he, _⟩ := h
  rw [ev_call P_nurseryref16_Ready rfl]
  have t1 : List.take 4 o = o := List.take_of_length_le (by omega)
  have t2 : List.take 9 s = s := List.take_of_length_le (by omega)
  have t3 : List.take 5 c = c := List.take_of_length_le (by omega)
  simp [F_nurseryref16_Ready, ho, hs, hc, he, allD_map', t1, t2, t3]
theorem ev_mHolder (own : Int) (s1 s2 s3 s4 s5 s6 s7 s8 : D) : ev P (.call mutex_Holder [.d (.ag [I' own, s1, s2, s3, s4, s5, s6, s7, s8])] []) = some (.val (.tu [.d (I' (if own < 0 then 0 else own)), .d (.b (decide (0 ≤ own)))]) []) := by
  rw [ev_call P_mutex_Holder rfl]
  by_cases h : own < 0
  · have h' : ¬ 0 ≤ own := by omega
    simp [F_mutex_Holder, h, h']
  · have h' : 0 ≤ own := by omega
    simp [F_mutex_Holder, h, h']
theorem ev_rHolder (own : Int) (s1 s2 s3 s4 s5 s6 s7 s8 : D) : ev P (.call nurseryref16_Holder [.d (.ag [I' own, s1, s2, s3, s4, s5, s6, s7, s8])] []) = some (.val (.tu [.d (I' (if own < 0 then 0 else own)), .d (.b (decide (0 ≤ own)))]) []) := by
  rw [ev_call P_nurseryref16_Holder rfl]
  by_cases h : own < 0
  · have h' : ¬ 0 ≤ own := by omega
    simp [F_nurseryref16_Holder, h, h']
  · have h' : 0 ≤ own := by omega
    simp [F_nurseryref16_Holder, h, h']
theorem ev_object : ev P (.call nurserylaw16_object [] []) = some (.val (.d (.ag [.s [109], I' 1, I' 0, I' 0])) []) := by
  rw [ev_call P_nurserylaw16_object rfl]
  simp [F_nurserylaw16_object]
theorem ev_lawlock (t p : Int) : ev P (.call nurserylaw16_lock [.d (I' t), .d (I' p)] []) = some (.val (.d (.ag [I' t, I' 50, I' 0, I' p, I' 0])) []) := by
  rw [ev_call P_nurserylaw16_lock rfl]
  simp [F_nurserylaw16_lock]
def ps : List (List D) := [[I' 0], [I' 0], [I' 5], [I' 5]]
theorem awake_step (i : Nat) (p : Int) (hi : i < 4) (hp : ps[i]? = some [I' p]) (hn qn bn cn : Bool) (own : Int) (q : List W) (r : Rp) (hnl : qn = true → q = []) (hq : q.length ≤ 1000000)
    (ha : appT 1 0 0 own 0 0 [] q [] [] false 0 50 i p = r) (he : r.e = 0) (hpk : r.parked = decide ((0 : Int) < i)) :
    ∃ hn' qn' bn' cn', (qn' = true → r.q = []) ∧
      ev P (.loop 0 [1, 3, 17, 18, 19] F_nurserylaw16_awake_L0 [(1, .loc 0 0 0), (3, .d (.b true)), (17, .d (.sl 1 false ps)), (18, .d (I' 4)), (19, .d (I' i))] [.arrD 9 true [stL hn qn bn cn own q]]) =
      ev P (.loop 0 [1, 3, 17, 18, 19] F_nurserylaw16_awake_L0 [(1, .loc 0 0 0), (3, .d (.b true)), (17, .d (.sl 1 false ps)), (18, .d (I' 4)), (19, .d (I' ((i + 1 : Nat) : Int)))] [.arrD 9 true [stL hn' qn' bn' cn' r.own r.q]]) := by
  have h := ev_mApply (.s [109]) 1 0 0 own 0 0 hn [] qn q bn [] cn [] false 0 i 50 0 p 0 (by simp) hq (by simp) (by simp) hnl
  rw [ha] at h
  obtain ⟨hn', qn', bn', cn', wn', hev, hq'⟩ := h
  refine ⟨hn', qn', bn', cn', hq', ?_⟩
  have hlt : (i : Int) < 4 := by omega
  have hnext : IntKind.i64.wrap ((i : Int) + 1) = i + 1 := wrap_i64 (by omega) (by omega)
  rw [ev_loop]
  conv => lhs; arg 4; unfold F_nurserylaw16_awake_L0
  simp [hlt, hp, ev_object, ev_lawlock, hev, he, hpk, hnext, reachC, cut, V.same_self, thaw, freezeAll, freeze1]
theorem ev_awake : ev P (.call nurserylaw16_awake [] []) = some (.val (.d (.b true)) []) := by
  have h0 := awake_step 0 0 (by decide) rfl true true true true (-1) [] ⟨0, [], false, true, none, 0⟩ (by simp) (by simp) (by decide) rfl (by decide)
  obtain ⟨f1, f2, f3, f4, g, h0⟩ := h0
  have h1 := awake_step 1 0 (by decide) rfl f1 f2 f3 f4 0 [] ⟨0, [⟨1, 50, 0, 0, -1⟩], true, false, none, 0⟩ g (by simp) (by decide) rfl (by decide)
  clear g
  obtain ⟨e1, e2, e3, e4, g, h1⟩ := h1
  rw [h1] at h0
  have h2 := awake_step 2 5 (by decide) rfl e1 e2 e3 e4 0 [⟨1, 50, 0, 0, -1⟩] ⟨0, [⟨2, 50, 0, 5, -1⟩, ⟨1, 50, 0, 0, -1⟩], true, false, none, 0⟩ g (by simp) (by decide) rfl (by decide)
  clear g h1
  obtain ⟨f1, f2, f3, f4, g, h2⟩ := h2
  rw [h2] at h0
  have h3 := awake_step 3 5 (by decide) rfl f1 f2 f3 f4 0 [⟨2, 50, 0, 5, -1⟩, ⟨1, 50, 0, 0, -1⟩] ⟨0, [⟨2, 50, 0, 5, -1⟩, ⟨3, 50, 0, 5, -1⟩, ⟨1, 50, 0, 0, -1⟩], true, false, none, 0⟩ g (by simp) (by decide) rfl (by decide)
  clear g h2
  obtain ⟨e1, e2, e3, e4, g, h3⟩ := h3
  rw [h3] at h0
  have hu := ev_mApply (.s [109]) 1 0 0 0 0 0 e1 [] e2 [⟨2, 50, 0, 5, -1⟩, ⟨3, 50, 0, 5, -1⟩, ⟨1, 50, 0, 0, -1⟩] e3 [] e4 [] false 0 0 52 0 0 0 (by simp) (by simp) (by simp) (by simp) g
  have ha : appT 1 0 0 0 0 0 [] [⟨2, 50, 0, 5, -1⟩, ⟨3, 50, 0, 5, -1⟩, ⟨1, 50, 0, 0, -1⟩] [] [] false 0 52 0 0 = ⟨2, [⟨3, 50, 0, 5, -1⟩, ⟨1, 50, 0, 0, -1⟩], false, true, some 2, 0⟩ := by decide
  rw [ha] at hu
  obtain ⟨f1, f2, f3, f4, f5, hu, _⟩ := hu
  have hf : ev P (.loop 0 [1, 3, 17, 18, 19] F_nurserylaw16_awake_L0 [(1, .loc 0 0 0), (3, .d (.b true)), (17, .d (.sl 1 false ps)), (18, .d (I' 4)), (19, .d (I' ((3 + 1 : Nat) : Int)))] [.arrD 9 true [stL e1 e2 e3 e4 0 [⟨2, 50, 0, 5, -1⟩, ⟨3, 50, 0, 5, -1⟩, ⟨1, 50, 0, 0, -1⟩]]]) =
      some (.out (.exit 0) [(1, .loc 0 0 0), (3, .d (.b true))] [.arrD 9 true [stL e1 e2 e3 e4 0 [⟨2, 50, 0, 5, -1⟩, ⟨3, 50, 0, 5, -1⟩, ⟨1, 50, 0, 0, -1⟩]]]) := by
    rw [ev_loop]
    conv => lhs; arg 4; unfold F_nurserylaw16_awake_L0
    simp [reachC, cut]
  rw [hf] at h0
  simp [ps] at h0
  rw [ev_call P_nurserylaw16_awake rfl]
  have hm : mnew 1 0 0 = 0 := by decide
  simp [F_nurserylaw16_awake, ev_object, ev_mNew, hm, frow, reachC, cut, h0]
  simp [W.row] at hu
  simp [W.row, hu, V.same_self, thaw, freezeAll, freeze1, wrow, ev_object]
  done
end Go.VS.M
namespace Go.VS.M
def wdS (own : Int) (q : List W) (t : Int) : Rp := if q.any (fun w => w.task == t) = true then ⟨own, q.filter (fun w => w.task != t), false, false, none, 0⟩ else zr 7
def wdT (k sz ot own cnt time : Int) (hs : List Int) (q : List W) (bs : List Int) (cs : List (List D)) (cl : Bool) (val : Int) (t : Int) : Rp :=
  if mnew k sz ot = 0 then (if mvalid own cnt time hs q bs cs cl val = true then wdS own q t else zr 1) else zr (mnew k sz ot)
theorem ev_mWithdraw0 (nm k sz ot s0 s1 s2 s3 s4 s5 s6 s7 s8 t : D) (e : Int) (he : e ≠ 0)
    (hC : ev P (.call mutex_Check [.d (.ag [nm, k, sz, ot]), .d (.ag [s0, s1, s2, s3, s4, s5, s6, s7, s8])] []) = some (.val (.d (I' e)) [])) :
    Rets (ev P (.call mutex_Withdraw [.d (.ag [nm, k, sz, ot]), .d (.ag [s0, s1, s2, s3, s4, s5, s6, s7, s8]), .d t] [])) (zr e) := by
  have he' : (e != 0) = true := by simpa using he
  refine ⟨true, true, true, true, true, ?_, by simp [zr]⟩
  rw [ev_call P_mutex_Withdraw rfl]
  simp [F_mutex_Withdraw, hC, he', zr]
theorem ev_rWithdraw0 (nm k sz ot s0 s1 s2 s3 s4 s5 s6 s7 s8 t : D) (e : Int) (he : e ≠ 0)
    (hC : ev P (.call nurseryref16_Check [.d (.ag [nm, k, sz, ot]), .d (.ag [s0, s1, s2, s3, s4, s5, s6, s7, s8])] []) = some (.val (.d (I' e)) [])) :
    Rets (ev P (.call nurseryref16_Withdraw [.d (.ag [nm, k, sz, ot]), .d (.ag [s0, s1, s2, s3, s4, s5, s6, s7, s8]), .d t] [])) (zr e) := by
  have he' : (e != 0) = true := by simpa using he
  refine ⟨true, true, true, true, true, ?_, by simp [zr]⟩
  rw [ev_call P_nurseryref16_Withdraw rfl]
  simp [F_nurseryref16_Withdraw, hC, he', zr]
theorem ev_mWithdraw (nm : D) (k sz ot own cnt time : Int) (hn : Bool) (hs : List Int) (qn : Bool) (q : List W) (bn : Bool) (bs : List Int) (cn : Bool) (cs : List (List D)) (cl : Bool) (val : Int) (t : Int)
    (h1 : hs.length ≤ 1000000) (h2 : q.length ≤ 1000000) (h3 : bs.length ≤ 1000000) (h4 : cs.length ≤ 1000000) :
    Rets (ev P (.call mutex_Withdraw [.d (.ag [nm, I' k, I' sz, I' ot]), .d (.ag [I' own, I' cnt, I' time, hD hn hs, qD qn q, hD bn bs, cD cn cs, .b cl, I' val]), .d (I' t)] []))
      (wdT k sz ot own cnt time hs q bs cs cl val t) := by
  have hC := ev_mCheck nm k sz ot own cnt time hn hs qn q bn bs cn cs cl val h1 h2 h3 h4
  unfold wdT
  by_cases hm : mnew k sz ot = 0
  · rw [if_pos hm] at hC ⊢
    by_cases hv : mvalid own cnt time hs q bs cs cl val = true
    · rw [if_pos hv] at hC ⊢
      obtain ⟨⟨rfl, rfl, rfl, rfl, rfl, rfl, rfl⟩, hl, m⟩ := mvalid_iff.1 hv
      have hw := ev_waits (own := own) (cnt := 0) (time := 0) (h1 := hD hn []) (h2 := hD bn []) (h3 := cD cn []) (qn := qn) (q := q) (cl := false) (val := 0) t h2
      unfold wdS
      cases hW : q.any fun w => w.task == t
      · rw [if_neg (by simp)]
        rw [hW] at hw
        refine ⟨true, true, true, true, true, ?_, by simp [zr]⟩
        rw [ev_call P_mutex_Withdraw rfl]
        simp [F_mutex_Withdraw, hC, hw, zr]
      · rw [if_pos rfl]
        rw [hW] at hw
        have hr := ev_Remove qn q t h2
        refine ⟨hn, (q.filter fun w => w.task != t).isEmpty, bn, cn, true, ?_, by simp⟩
        rw [ev_call P_mutex_Withdraw rfl]
        simp [F_mutex_Withdraw, hC, hw, hr]
    · rw [if_neg hv] at hC ⊢
      exact ev_mWithdraw0 _ _ _ _ _ _ _ _ _ _ _ _ _ _ 1 (by decide) hC
  · rw [if_neg hm] at hC ⊢
    exact ev_mWithdraw0 _ _ _ _ _ _ _ _ _ _ _ _ _ _ _ hm hC
theorem ev_rWithdraw (nm : D) (k sz ot own cnt time : Int) (hn : Bool) (hs : List Int) (qn : Bool) (q : List W) (bn : Bool) (bs : List Int) (cn : Bool) (cs : List (List D)) (cl : Bool) (val : Int) (t : Int)
    (h1 : hs.length ≤ 1000000) (h2 : q.length ≤ 96) (h3 : bs.length ≤ 1000000) (h4 : cs.length ≤ 1000000) :
    Rets (ev P (.call nurseryref16_Withdraw [.d (.ag [nm, I' k, I' sz, I' ot]), .d (.ag [I' own, I' cnt, I' time, hD hn hs, qD qn q, hD bn bs, cD cn cs, .b cl, I' val]), .d (I' t)] []))
      (wdT k sz ot own cnt time hs q bs cs cl val t) := by
  have hC := ev_rCheck nm k sz ot own cnt time hn hs qn q bn bs cn cs cl val h1 (by omega) h3 h4
  have hve := valid_eq (own := own) (cnt := cnt) (time := time) (hs := hs) (bs := bs) (cs := cs) (cl := cl) (val := val) h2
  rw [hve] at hC
  unfold wdT
  by_cases hm : mnew k sz ot = 0
  · rw [if_pos hm] at hC ⊢
    by_cases hv : mvalid own cnt time hs q bs cs cl val = true
    · rw [if_pos hv] at hC ⊢
      obtain ⟨⟨rfl, rfl, rfl, rfl, rfl, rfl, rfl⟩, hl, m⟩ := mvalid_iff.1 hv
      have hw := ev_Waits qn q t (by omega)
      unfold wdS
      cases hW : q.any fun w => w.task == t
      · rw [if_neg (by simp)]
        rw [hW] at hw
        refine ⟨true, true, true, true, true, ?_, by simp [zr]⟩
        rw [ev_call P_nurseryref16_Withdraw rfl]
        simp [F_nurseryref16_Withdraw, hC, hw, zr]
      · rw [if_pos rfl]
        rw [hW] at hw
        have hr := ev_Without qn q t (by omega)
        refine ⟨hn, false, bn, cn, true, ?_, by simp⟩
        rw [ev_call P_nurseryref16_Withdraw rfl]
        simp [F_nurseryref16_Withdraw, hC, hw, hr]
    · rw [if_neg hv] at hC ⊢
      exact ev_rWithdraw0 _ _ _ _ _ _ _ _ _ _ _ _ _ _ 1 (by decide) hC
  · rw [if_neg hm] at hC ⊢
    exact ev_rWithdraw0 _ _ _ _ _ _ _ _ _ _ _ _ _ _ _ hm hC
theorem great_q {hs : List Int} {q : List W} {bs : List Int} {cs : List (List D)} (h : greatB hs q bs cs = false) : hs.length ≤ 40 ∧ q.length ≤ 40 ∧ bs.length ≤ 120 ∧ cs.length ≤ 40 := by
  simp [greatB] at h
  omega
theorem lockS_len (own : Int) (q : List W) (t p : Int) : (lockS own q t p).q.length ≤ q.length + 1 := by
  unfold lockS
  have := bnd_le p q
  split
  · exact Nat.le_succ _
  · split
    · exact Nat.zero_le _
    · show (q.take (bnd p q) ++ ⟨t, 50, 0, p, -1⟩ :: q.drop (bnd p q)).length ≤ _
      rw [List.length_append, List.length_cons, List.length_take, List.length_drop]
      omega
theorem tryS_len (own : Int) (q : List W) (t p : Int) : (tryS own q t p).q.length ≤ q.length + 1 := by
  unfold tryS
  split
  · exact Nat.le_succ _
  · exact lockS_len ..
theorem unlockS_len (own : Int) (q : List W) (t : Int) : (unlockS own q t).q.length ≤ q.length + 1 := by
  unfold unlockS
  split
  · exact Nat.zero_le _
  · cases q with
    | nil => exact Nat.zero_le _
    | cons w r => show r.length ≤ r.length + 1 + 1; omega
theorem applyS_len (own : Int) (q : List W) (o t p : Int) : (applyS own q o t p).q.length ≤ q.length + 1 := by
  unfold applyS
  split
  · exact Nat.zero_le _
  split
  · exact Nat.zero_le _
  split
  · exact Nat.zero_le _
  split
  · exact lockS_len ..
  split
  · exact tryS_len ..
  · exact unlockS_len ..
theorem appT_len (k sz ot own cnt time : Int) (hs : List Int) (q : List W) (bs : List Int) (cs : List (List D)) (cl : Bool) (val : Int) (o t p : Int) :
    (appT k sz ot own cnt time hs q bs cs cl val o t p).q.length ≤ q.length + 1 := by
  unfold appT
  split
  · split
    · exact applyS_len ..
    · exact Nat.zero_le _
  · exact Nat.zero_le _
/-- the cells of a state as a law is given it -/
structure IsState (s : D) where
  own : Int
  cnt : Int
  time : Int
  hn : Bool
  hs : List Int
  qn : Bool
  q : List W
  bn : Bool
  bs : List Int
  cn : Bool
  cs : List (List D)
  cl : Bool
  val : Int
  eq : s = .ag [I' own, I' cnt, I' time, hD hn hs, qD qn q, hD bn bs, cD cn cs, .b cl, I' val]
  hcs : ∀ c, c ∈ cs → ∃ t nb r, c = [I' t, .sl 1 nb r]
  nl : qn = true → q = []
theorem law_Withdraw (nm : D) (k sz ot : Int) {s : D} (S : IsState s) (t : Int) :
    ev P (.call nurserylaw16_MutexWithdraw [.d (.ag [nm, I' k, I' sz, I' ot]), .d s, .d (I' t)] []) = some (.val (.d (.b true)) []) := by
  obtain ⟨own, cnt, time, hn, hs, qn, q, bn, bs, cn, cs, cl, val, rfl, hcs, nl⟩ := S
  have hG := ev_Great own cnt time hn hs qn q bn bs cn cs cl val hcs
  rw [ev_call P_nurserylaw16_MutexWithdraw rfl]
  cases hg : greatB hs q bs cs
  · obtain ⟨g1, g2, g3, g4⟩ := great_q hg
    rw [hg] at hG
    obtain ⟨a1, a2, a3, a4, a5, ha, _⟩ := ev_mWithdraw nm k sz ot own cnt time hn hs qn q bn bs cn cs cl val t (by omega) (by omega) (by omega) (by omega)
    obtain ⟨b1, b2, b3, b4, b5, hb, _⟩ := ev_rWithdraw nm k sz ot own cnt time hn hs qn q bn bs cn cs cl val t (by omega) (by omega) (by omega) (by omega)
    have hq : (wdT k sz ot own cnt time hs q bs cs cl val t).q.length ≤ 1000000 := by
      unfold wdT wdS
      have := List.length_filter_le (fun w : W => w.task != t) q
      repeat' split
      all_goals simp [zr] <;> omega
    have hS := ev_SameReply a1 a2 a3 a4 a5 b1 b2 b3 b4 b5 _ hq
    generalize wdT k sz ot own cnt time hs q bs cs cl val t = r at *
    simp [F_nurserylaw16_MutexWithdraw, hG, ha, hb, hS, ev_awake]
  · rw [hg] at hG
    simp [F_nurserylaw16_MutexWithdraw, hG, ev_awake]
theorem law_Apply (nm : D) (k sz ot : Int) {s : D} (S : IsState s) (t o v p n : Int) :
    ev P (.call nurserylaw16_MutexApply [.d (.ag [nm, I' k, I' sz, I' ot]), .d s, .d (.ag [I' t, I' o, I' v, I' p, I' n])] []) = some (.val (.d (.b true)) []) := by
  obtain ⟨own, cnt, time, hn, hs, qn, q, bn, bs, cn, cs, cl, val, rfl, hcs, nl⟩ := S
  have hG := ev_Great own cnt time hn hs qn q bn bs cn cs cl val hcs
  rw [ev_call P_nurserylaw16_MutexApply rfl]
  cases hg : greatB hs q bs cs
  · obtain ⟨g1, g2, g3, g4⟩ := great_q hg
    rw [hg] at hG
    have ea := ev_mApply nm k sz ot own cnt time hn hs qn q bn bs cn cs cl val t o v p n (by omega) (by omega) (by omega) (by omega) nl
    have eb := ev_rApply nm k sz ot own cnt time hn hs qn q bn bs cn cs cl val t o v p n (by omega) (by omega) (by omega) (by omega) nl
    have ra := ev_mReady rfl rfl rfl ea
    have rb := ev_rReady rfl rfl rfl eb
    obtain ⟨a1, a2, a3, a4, a5, ha, _⟩ := ea
    obtain ⟨b1, b2, b3, b4, b5, hb, _⟩ := eb
    have hq : (appT k sz ot own cnt time hs q bs cs cl val o t p).q.length ≤ 1000000 := Nat.le_trans (appT_len ..) (by omega)
    have hS := ev_SameReply a1 a2 a3 a4 a5 b1 b2 b3 b4 b5 _ hq
    generalize appT k sz ot own cnt time hs q bs cs cl val o t p = r at *
    simp [F_nurserylaw16_MutexApply, hG, ha, hb, hS, ra, rb, ev_awake]
  · rw [hg] at hG
    simp [F_nurserylaw16_MutexApply, hG, ev_awake]
theorem law_States (nm : D) (k sz ot : Int) {s : D} (S : IsState s) :
    ev P (.call nurserylaw16_MutexStates [.d (.ag [nm, I' k, I' sz, I' ot]), .d s] []) = some (.val (.d (.b true)) []) := by
  obtain ⟨own, cnt, time, hn, hs, qn, q, bn, bs, cn, cs, cl, val, rfl, hcs, nl⟩ := S
  have hG := ev_Great own cnt time hn hs qn q bn bs cn cs cl val hcs
  rw [ev_call P_nurserylaw16_MutexStates rfl]
  cases hg : greatB hs q bs cs
  · obtain ⟨g1, g2, g3, g4⟩ := great_q hg
    rw [hg] at hG
    have hC := ev_mCheck nm k sz ot own cnt time hn hs qn q bn bs cn cs cl val (by omega) (by omega) (by omega) (by omega)
    have hR := ev_rCheck nm k sz ot own cnt time hn hs qn q bn bs cn cs cl val (by omega) (by omega) (by omega) (by omega)
    have hve := valid_eq (own := own) (cnt := cnt) (time := time) (hs := hs) (q := q) (bs := bs) (cs := cs) (cl := cl) (val := val) (by omega)
    rw [hve] at hR
    have hz : ev P (.call nurseryref16_Same [.d (.ag zrow), .d (.ag zrow)] []) = some (.val (.d (.b true)) []) := ev_Same 0 0 0 true [] true [] true [] true [] false 0 0 0 0 true [] true [] true [] true false 0 (by simp) (by simp) (by simp) (by simp)
    have hf : ev P (.call nurseryref16_Same [.d (.ag frow), .d (.ag frow)] []) = some (.val (.d (.b true)) []) := ev_Same (-1) 0 0 true [] true [] true [] true [] false 0 (-1) 0 0 true [] true [] true [] true false 0 (by simp) (by simp) (by simp) (by simp)
    have h1 := ev_mNew nm k sz ot
    have h2 := ev_rNew nm k sz ot
    have h3 : ∃ x, x.length = 9 ∧ (if mnew k sz ot = 0 then frow else zrow) = x ∧ ev P (.call nurseryref16_Same [.d (.ag x), .d (.ag x)] []) = some (.val (.d (.b true)) []) := by
      split
      · exact ⟨frow, rfl, rfl, hf⟩
      · exact ⟨zrow, rfl, rfl, hz⟩
    obtain ⟨x, hx9, hx, hS⟩ := h3
    rw [hx] at h1 h2
    generalize (if mnew k sz ot = 0 then if mvalid own cnt time hs q bs cs cl val = true then (0 : Int) else 1 else mnew k sz ot) = c at hC hR
    have t2 : List.take 9 x = x := List.take_of_length_le (by omega)
    simp [F_nurserylaw16_MutexStates, hG, h1, h2, hS, hx9, t2, allD_map', ev_mHolder, ev_rHolder, hC, hR, ev_awake]
  · rw [hg] at hG
    simp [F_nurserylaw16_MutexStates, hG, ev_awake]
end Go.VS.M
namespace Go.VS.M
theorem loop_Hand (s0 s1 s2 s3 s5 s6 s7 s8 x : D) (nl : Bool) (q : List W) (w0 : W) (hn : q.length ≤ 1000000) (h0 : q[0]? = some w0) (hmax : ∀ w, w ∈ q → w.prio ≤ w0.prio) : ∀ (suf pre : List W), q = pre ++ suf →
    ev P (.loop 0 [1, 3, 5, 60, 61, 62] F_nurserylaw16_MutexHandover_L0 [(1, .d (.ref [s0, s1, s2, s3, qD nl q, s5, s6, s7, s8])), (3, .d x), (5, .d (I' 0)), (60, .d (qD nl q)), (61, .d (I' q.length)), (62, .d (I' pre.length))] []) =
      some (.out (.exit 0) [(1, .d (.ref [s0, s1, s2, s3, qD nl q, s5, s6, s7, s8])), (3, .d x), (5, .d (I' 0))] []) := by
  intro suf
  induction suf with
  | nil =>
    intro pre hl
    have : q.length = pre.length := by simp [hl]
    rw [ev_loop]
    conv => lhs; arg 4; unfold F_nurserylaw16_MutexHandover_L0
    simp [this]
  | cons w suf ih =>
    intro pre hl
    have hg : q[pre.length]? = some w := by simp [hl]
    have hlt : (pre.length : Int) < q.length := by simp [hl]; omega
    have hnext : IntKind.i64.wrap ((pre.length : Int) + 1) = pre.length + 1 := wrap_i64 (by omega) (by omega)
    have ih' := ih (pre ++ [w]) (by simp [hl])
    have hp : ¬ w0.prio < w.prio := by have := hmax w (by simp [hl]); omega
    simp at ih'
    rw [ev_loop]
    conv => lhs; arg 4; unfold F_nurserylaw16_MutexHandover_L0
    simp [hlt, hg, W.row, h0, hp, hnext]
    exact ih'
theorem applyS_unlock {own : Int} {q : List W} (m : MV own q) (ho : own ≠ -1) : applyS own q 52 own 0 = unlockS own q own := by
  have h1 : isTask own = true := by
    rcases m.rng with h | h
    · exact absurd h ho
    · simp [isTask]; omega
  have h2 : (q.any fun w => w.task == own) = false := by
    simp
    intro w hw
    exact (m.all w hw).2.2.2.1
  unfold applyS
  rw [if_neg (by decide), if_neg (by simp [h1]), if_neg (by simp [h2]), if_neg (by decide), if_neg (by decide)]
theorem law_Handover {s : D} (S : IsState s) : ev P (.call nurserylaw16_MutexHandover [.d s] []) = some (.val (.d (.b true)) []) := by
  obtain ⟨own, cnt, time, hn, hs, qn, q, bn, bs, cn, cs, cl, val, rfl, hcs, nl⟩ := S
  have hG := ev_Great own cnt time hn hs qn q bn bs cn cs cl val hcs
  rw [ev_call P_nurserylaw16_MutexHandover rfl]
  cases hg : greatB hs q bs cs
  · obtain ⟨g1, g2, g3, g4⟩ := great_q hg
    rw [hg] at hG
    have hC := ev_mCheck (.s [109]) 1 0 0 own cnt time hn hs qn q bn bs cn cs cl val (by omega) (by omega) (by omega) (by omega)
    have hm : mnew 1 0 0 = 0 := by decide
    simp [hm] at hC
    by_cases hv : mvalid own cnt time hs q bs cs cl val = true
    · rw [if_pos hv] at hC
      obtain ⟨⟨rfl, rfl, rfl, rfl, rfl, rfl, rfl⟩, hl, m⟩ := mvalid_iff.1 hv
      by_cases ho : own = -1
      · subst ho
        simp [F_nurserylaw16_MutexHandover, hG, hC, ev_object, ev_awake]
      · have ho2 : (own == -1) = false := by simp [ho]
        have ea := ev_mApply1 (.s [109]) hn qn bn cn own q own 52 0 0 0 nl (by omega) m.desc hv
        rw [applyS_unlock m ho] at ea
        cases q with
        | nil =>
          have hu : unlockS own [] own = ⟨-1, [], false, true, none, 0⟩ := by simp [unlockS]
          rw [hu] at ea
          obtain ⟨a1, a2, a3, a4, a5, ha, _⟩ := ea
          simp [F_nurserylaw16_MutexHandover, hG, hC, ho2, ev_object, ev_awake, ha, thaw, freezeAll, freeze1]
        | cons w r =>
          have hu : unlockS own (w :: r) own = ⟨w.task, r, false, true, some w.task, 0⟩ := by simp [unlockS]
          rw [hu] at ea
          obtain ⟨a1, a2, a3, a4, a5, ha, _⟩ := ea
          have hX := ev_Without qn (w :: r) w.task (by omega)
          have hdis := m.dis
          rw [List.pairwise_cons] at hdis
          have hfil : (w :: r).filter (fun x => x.task != w.task) = r := by
            have : r.filter (fun x => x.task != w.task) = r := by
              rw [List.filter_eq_self]
              intro a ha
              have := hdis.1 a ha
              simp; omega
            simp [this]
          rw [hfil] at hX
          have hmax : ∀ x, x ∈ w :: r → x.prio ≤ w.prio := by
            have hd := m.desc
            unfold Desc at hd
            rw [List.pairwise_cons] at hd
            intro x hx
            rcases List.mem_cons.1 hx with rfl | h
            · omega
            · exact hd.1 x h
          have hz : (((r.length : Int) + 1) == 0) = false := by simp; omega
          have hL := fun x => loop_Hand (I' own) (I' 0) (I' 0) (hD hn []) (hD bn []) (cD cn []) (.b false) (I' 0) x qn (w :: r) w (by omega) rfl hmax (w :: r) [] rfl
          have hSW := ev_SameWaiters a2 false r r (by simp at hl; omega)
          simp at hSW hL
          simp [F_nurserylaw16_MutexHandover, hG, hC, ho2, ev_object, ev_awake, ha, thaw, freezeAll, freeze1, hz, wrow, hL, W.row, hX, hSW]
    · rw [if_neg hv] at hC
      simp [F_nurserylaw16_MutexHandover, hG, hC, ev_object, ev_awake]
  · rw [hg] at hG
    simp [F_nurserylaw16_MutexHandover, hG, ev_awake]
end Go.VS.M
namespace Go.VS.M
theorem mem_take {q : List W} {b : Nat} {a : W} (h : a ∈ q.take b) : ∃ k, k < b ∧ q[k]? = some a := by
  obtain ⟨k, hk⟩ := List.mem_iff_getElem?.1 h
  rw [List.getElem?_take] at hk
  split at hk
  · exact ⟨k, by assumption, hk⟩
  · simp at hk
theorem mem_drop {q : List W} {b : Nat} {a : W} (h : a ∈ q.drop b) : ∃ k, b ≤ k ∧ q[k]? = some a := by
  obtain ⟨k, hk⟩ := List.mem_iff_getElem?.1 h
  rw [List.getElem?_drop] at hk
  exact ⟨b + k, by omega, hk⟩
theorem MV_lock {own : Int} {q : List W} {t p : Int} (m : MV own q) (ht : isTask t = true) (hp : 0 ≤ p ∧ p ≤ 9) (hw : (q.any fun w => w.task == t) = false) (he : (lockS own q t p).e = 0) :
    MV (lockS own q t p).own (lockS own q t p).q := by
  have ht' : 0 ≤ t ∧ t < 16 := by simpa [isTask] using ht
  unfold lockS at he ⊢
  split
  · rename_i h
    have ho : own = -1 := by simpa using h
    have hq := m.free ho
    subst hq
    exact ⟨.inr ht', fun h => rfl, by simp [Desc], by simp, by simp⟩
  · rename_i h
    rw [if_neg h] at he
    have ho : own ≠ -1 := by simpa using h
    split
    · rename_i h2
      rw [if_pos h2] at he
      simp [zr] at he
    · rename_i h2
      have ho2 : own ≠ t := by simpa using h2
      have hcat : q = q.take (bnd p q) ++ q.drop (bnd p q) := (List.take_append_drop ..).symm
      have h1 : ∀ a, a ∈ q.take (bnd p q) → p ≤ a.prio := fun a ha => by
        obtain ⟨k, hk, hka⟩ := mem_take ha
        exact (bnd_lt m.desc hka).1 hk
      have h3 : ∀ a, a ∈ q.drop (bnd p q) → a.prio ≤ p := fun a ha => by
        obtain ⟨k, hk, hka⟩ := mem_drop ha
        have := bnd_lt (p := p) m.desc hka
        omega
      have hne : ∀ a, a ∈ q → a.task ≠ t := by simpa using hw
      have hd := m.desc
      unfold Desc at hd
      rw [hcat, List.pairwise_append] at hd
      have hs := m.dis
      rw [hcat, List.pairwise_append] at hs
      refine ⟨m.rng, fun h => absurd h ho, ?_, ?_, ?_⟩
      · unfold Desc
        show List.Pairwise _ (q.take (bnd p q) ++ _ :: q.drop (bnd p q))
        rw [List.pairwise_append, List.pairwise_cons]
        refine ⟨hd.1, ⟨fun a ha => h3 a ha, hd.2.1⟩, fun a ha b hb => ?_⟩
        rcases List.mem_cons.1 hb with rfl | hb
        · exact h1 a ha
        · exact hd.2.2 a ha b hb
      · show List.Pairwise _ (q.take (bnd p q) ++ _ :: q.drop (bnd p q))
        rw [List.pairwise_append, List.pairwise_cons]
        refine ⟨hs.1, ⟨fun a ha => (hne a (List.mem_of_mem_drop ha)).symm, hs.2.1⟩, fun a ha b hb => ?_⟩
        rcases List.mem_cons.1 hb with rfl | hb
        · exact hne a (List.mem_of_mem_take ha)
        · exact hs.2.2 a ha b hb
      · intro w hw'
        rcases List.mem_append.1 hw' with h | h
        · exact m.all w (List.mem_of_mem_take h)
        · rcases List.mem_cons.1 h with rfl | h
          · refine ⟨rfl, rfl, rfl, fun h => ho2 h.symm, ?_, ?_, ?_, ?_⟩ <;> simp <;> omega
          · exact m.all w (List.mem_of_mem_drop h)
theorem MV_unlock {own : Int} {q : List W} {t : Int} (m : MV own q) (he : (unlockS own q t).e = 0) : MV (unlockS own q t).own (unlockS own q t).q := by
  unfold unlockS at he ⊢
  split
  · rename_i h
    rw [if_pos h] at he
    simp [zr] at he
  · cases q with
    | nil => exact ⟨.inl rfl, fun _ => rfl, by simp [Desc], by simp, by simp⟩
    | cons w r =>
      have hd := m.desc
      unfold Desc at hd
      rw [List.pairwise_cons] at hd
      have hs := m.dis
      rw [List.pairwise_cons] at hs
      have hw := m.all w (by simp)
      refine ⟨.inr ⟨hw.2.2.2.2.1, hw.2.2.2.2.2.1⟩, fun h => by have := hw.2.2.2.2.1; simp at h; omega, hd.2, hs.2, fun x hx => ?_⟩
      have := m.all x (by simp [hx])
      have h1 := hs.1 x hx
      exact ⟨this.1, this.2.1, this.2.2.1, fun h => h1 h.symm, this.2.2.2.2⟩
theorem MV_try {own : Int} {q : List W} {t p : Int} (m : MV own q) (ht : isTask t = true) (hp : 0 ≤ p ∧ p ≤ 9) (hw : (q.any fun w => w.task == t) = false) (he : (tryS own q t p).e = 0) :
    MV (tryS own q t p).own (tryS own q t p).q := by
  unfold tryS at he ⊢
  split
  · exact m
  · rename_i h
    rw [if_neg h] at he
    exact MV_lock m ht hp hw he
theorem MV_apply {own : Int} {q : List W} {o t p : Int} (m : MV own q) (he : (applyS own q o t p).e = 0) : MV (applyS own q o t p).own (applyS own q o t p).q := by
  unfold applyS at he ⊢
  split
  · rename_i h; rw [if_pos h] at he; simp [zr] at he
  rename_i h; rw [if_neg h] at he
  split
  · rename_i h; rw [if_pos h] at he; simp [zr] at he
  rename_i h2; rw [if_neg h2] at he
  have h2' : isTask t = true ∧ 0 ≤ p ∧ p ≤ 9 := by simp at h2; exact ⟨h2.1.1, h2.1.2, h2.2⟩
  split
  · rename_i h; rw [if_pos h] at he; simp [zr] at he
  rename_i h3; rw [if_neg h3] at he
  have hw : (q.any fun w => w.task == t) = false := by simpa using h3
  split
  · rename_i h; rw [if_pos h] at he
    exact MV_lock m h2'.1 h2'.2 hw he
  rename_i h; rw [if_neg h] at he
  split
  · rename_i h; rw [if_pos h] at he
    exact MV_try m h2'.1 h2'.2 hw he
  · rename_i h; rw [if_neg h] at he
    exact MV_unlock m he
theorem MV_filter {own : Int} {q : List W} (f : W → Bool) (m : MV own q) : MV own (q.filter f) :=
  ⟨m.rng, fun h => by rw [m.free h]; rfl, m.desc.filter f, m.dis.filter f, fun w hw => m.all w ((List.mem_filter.1 hw).1)⟩
theorem mvalid_of {own : Int} {q : List W} (m : MV own q) (h : q.length ≤ 96) : mvalid own 0 0 [] q [] [] false 0 = true := mvalid_iff.2 ⟨⟨rfl, rfl, rfl, rfl, rfl, rfl, rfl⟩, h, m⟩
/-- a reply's state is checked -/
theorem ev_chk (hn qn bn cn : Bool) (r : Rp) (hq : r.q.length ≤ 96) (h : r.e = 0 → MV r.own r.q) : ∃ c, ev P (.call mutex_Check [.d (.ag [.s [109], I' 1, I' 0, I' 0]), .d (.ag [I' r.own, I' 0, I' 0, hD hn [], qD qn r.q, hD bn [], cD cn [], .b false, I' 0])] []) = some (.val (.d (I' c)) []) ∧ (r.e = 0 → c = 0) := by
  have hC := ev_mCheck (.s [109]) 1 0 0 r.own 0 0 hn [] qn r.q bn [] cn [] false 0 (by simp) (by omega) (by simp) (by simp)
  have hm : mnew 1 0 0 = 0 := by decide
  rw [if_pos hm] at hC
  refine ⟨_, hC, fun he => ?_⟩
  rw [if_pos (mvalid_of (h he) hq)]
theorem law_Valid {s : D} (S : IsState s) (t o v p n task : Int) : ev P (.call nurserylaw16_MutexValid [.d s, .d (.ag [I' t, I' o, I' v, I' p, I' n]), .d (I' task)] []) = some (.val (.d (.b true)) []) := by
  obtain ⟨own, cnt, time, hn, hs, qn, q, bn, bs, cn, cs, cl, val, rfl, hcs, nl⟩ := S
  have hG := ev_Great own cnt time hn hs qn q bn bs cn cs cl val hcs
  rw [ev_call P_nurserylaw16_MutexValid rfl]
  cases hg : greatB hs q bs cs
  · obtain ⟨g1, g2, g3, g4⟩ := great_q hg
    rw [hg] at hG
    have hC := ev_mCheck (.s [109]) 1 0 0 own cnt time hn hs qn q bn bs cn cs cl val (by omega) (by omega) (by omega) (by omega)
    have hm : mnew 1 0 0 = 0 := by decide
    rw [if_pos hm] at hC
    have ea := ev_mApply (.s [109]) 1 0 0 own cnt time hn hs qn q bn bs cn cs cl val t o v p n (by omega) (by omega) (by omega) (by omega) nl
    have ra := ev_mReady rfl rfl rfl ea
    have eb := ev_mWithdraw (.s [109]) 1 0 0 own cnt time hn hs qn q bn bs cn cs cl val task (by omega) (by omega) (by omega) (by omega)
    have hf : ev P (.call mutex_Check [.d (.ag [.s [109], I' 1, I' 0, I' 0]), .d (.ag frow)] []) = some (.val (.d (I' 0)) []) :=
      ev_mCheck (.s [109]) 1 0 0 (-1) 0 0 true [] true [] true [] true [] false 0 (by simp) (by simp) (by simp) (by simp)
    have hN := ev_mNew (.s [109]) 1 0 0
    rw [if_pos hm, hm] at hN
    -- the reply of Apply
    have ka : (appT 1 0 0 own cnt time hs q bs cs cl val o t p).e = 0 → mvalid own cnt time hs q bs cs cl val = true ∧ MV (appT 1 0 0 own cnt time hs q bs cs cl val o t p).own (appT 1 0 0 own cnt time hs q bs cs cl val o t p).q := by
      unfold appT
      rw [if_pos hm]
      split
      · rename_i hv
        exact fun he => ⟨hv, MV_apply (mvalid_iff.1 hv).2.2 he⟩
      · exact fun he => by simp [zr] at he
    have kb : (wdT 1 0 0 own cnt time hs q bs cs cl val task).e = 0 → mvalid own cnt time hs q bs cs cl val = true ∧ MV (wdT 1 0 0 own cnt time hs q bs cs cl val task).own (wdT 1 0 0 own cnt time hs q bs cs cl val task).q := by
      unfold wdT
      rw [if_pos hm]
      split
      · rename_i hv
        unfold wdS
        split
        · exact fun he => ⟨hv, MV_filter _ (mvalid_iff.1 hv).2.2⟩
        · exact fun he => by simp [zr] at he
      · exact fun he => by simp [zr] at he
    have la : (appT 1 0 0 own cnt time hs q bs cs cl val o t p).q.length ≤ 96 := Nat.le_trans (appT_len ..) (by omega)
    have lb : (wdT 1 0 0 own cnt time hs q bs cs cl val task).q.length ≤ 96 := by
      unfold wdT wdS
      have := List.length_filter_le (fun w : W => w.task != task) q
      repeat' split
      all_goals simp [zr] <;> omega
    generalize appT 1 0 0 own cnt time hs q bs cs cl val o t p = a at *
    generalize wdT 1 0 0 own cnt time hs q bs cs cl val task = b at *
    obtain ⟨a1, a2, a3, a4, a5, ha, _⟩ := ea
    obtain ⟨b1, b2, b3, b4, b5, hb, _⟩ := eb
    obtain ⟨ca, hca, hca0⟩ := ev_chk a1 a2 a3 a4 a la fun h => (ka h).2
    obtain ⟨cb, hcb, hcb0⟩ := ev_chk b1 b2 b3 b4 b lb fun h => (kb h).2
    generalize mvalid own cnt time hs q bs cs cl val = mv at *
    simp [frow] at hf
    obtain ⟨cc, hcc, hc0⟩ : ∃ cc, (if mv = true then (0 : Int) else 1) = cc ∧ (mv = true → cc = 0) := ⟨_, rfl, fun h => by rw [h]; rfl⟩
    rw [hcc] at hC
    have k1 : (a.e == 0 && !(cc == 0)) = false := by
      cases h : a.e == 0
      · rfl
      · rw [hc0 (ka (by simpa using h)).1]; rfl
    have k2 : (b.e == 0 && !(cc == 0)) = false := by
      cases h : b.e == 0
      · rfl
      · rw [hc0 (kb (by simpa using h)).1]; rfl
    have k3 : (a.e == 0 && ca != 0) = false := by
      cases h : a.e == 0
      · rfl
      · rw [hca0 (by simpa using h)]; rfl
    have k4 : (b.e == 0 && cb != 0) = false := by
      cases h : b.e == 0
      · rfl
      · rw [hcb0 (by simpa using h)]; rfl
    simp [F_nurserylaw16_MutexValid, hG, ev_object, hN, frow, ha, hb, hC, hf, thaw, freezeAll, freeze1, hca, hcb, ra, ev_awake, k1, k2, k3, k4]
    done
  · rw [hg] at hG
    simp [F_nurserylaw16_MutexValid, hG, ev_awake]
end Go.VS.M
namespace Go.VS.M
/-- the list that was collected, or none yet -/
def GotV (n : Nat) : V := if n = 0 then .d (.sl 1 true []) else .asl 2 0 n
def GotH (l : List Int) : List O := if l = [] then [] else [.arrD 1 true (rows1 l)]
theorem loop_S1 (row : List D) (want got : List Int) (nw : Nat) (n k : Int) (a1 a2 a3 a4 a5 : Bool) (w0 : W) (r : List W) (nl : Bool) (l : List W) (last : Int) (hn : l.length ≤ 1000000) :
    ∀ (suf pre : List W), l = pre ++ suf → (∀ w, w ∈ suf → w.task ≠ w0.task) →
    ev P (.loop 0 [1, 3, 4, 7, 9, 41, 42, 63, 64, 65] F_nurserylaw16_MutexServes_L1 [(1, .loc 0 0 0), (3, .asl 1 0 nw), (4, GotV got.length), (7, .d (I' last)), (9, .d (.ref [I' w0.task, I' 0, I' 0, hD a1 [], qD a2 r, hD a3 [], cD a4 [], .b false, I' 0, .b false, I' 0, .b true, .sl 5 a5 [wrow w0.task]])), (41, .d (I' n)), (42, .d (I' k)), (63, .d (qD nl l)), (64, .d (I' l.length)), (65, .d (I' pre.length))] ([.arrD 9 true [row], .arrD 1 true (rows1 want)] ++ GotH got)) =
      some (.out (.exit 4) [(1, .loc 0 0 0), (3, .asl 1 0 nw), (4, GotV got.length), (7, .d (I' last)), (9, .d (.ref [I' w0.task, I' 0, I' 0, hD a1 [], qD a2 r, hD a3 [], cD a4 [], .b false, I' 0, .b false, I' 0, .b true, .sl 5 a5 [wrow w0.task]])), (41, .d (I' n)), (42, .d (I' k))] ([.arrD 9 true [row], .arrD 1 true (rows1 want)] ++ GotH got)) := by
  intro suf
  induction suf with
  | nil =>
    intro pre hl _
    have : l.length = pre.length := by simp [hl]
    rw [ev_loop]
    conv => lhs; arg 4; unfold F_nurserylaw16_MutexServes_L1
    cases got with
    | nil => simp [this, GotV, GotH, reachC, cut, List.idxOf_cons]
    | cons a b => simp [this, GotV, GotH, reachC, cut, List.idxOf_cons]
  | cons w suf ih =>
    intro pre hl hne
    have hg : l[pre.length]? = some w := by simp [hl]
    have hlt : (pre.length : Int) < l.length := by simp [hl]; omega
    have hnext : IntKind.i64.wrap ((pre.length : Int) + 1) = pre.length + 1 := wrap_i64 (by omega) (by omega)
    have ih' := ih (pre ++ [w]) (by simp [hl]) fun x hx => hne x (by simp [hx])
    have hw : (w.task == w0.task) = false := by simpa using hne w (by simp)
    rw [ev_loop]
    conv => lhs; arg 4; unfold F_nurserylaw16_MutexServes_L1
    cases got with
    | nil =>
      simp [GotV, GotH] at ih'
      simp [hlt, hg, W.row, wrow, hw, hnext, GotV, GotH, reachC, cut, List.idxOf_cons]
      exact ih'
    | cons a b =>
      simp [GotV, GotH] at ih'
      simp [hlt, hg, W.row, wrow, hw, hnext, GotV, GotH, reachC, cut, List.idxOf_cons]
      exact ih'
theorem loop_S1' (row : List D) (want got : List Int) (nw : Nat) (n k : Int) (a1 a2 a3 a4 a5 : Bool) (w0 : W) (r : List W) (nl : Bool) (last : Int) (hn : r.length ≤ 100000) (hne : ∀ w, w ∈ r → w.task ≠ w0.task) (hp : w0.prio ≤ last) :
    ev P (.loop 0 [1, 3, 4, 7, 9, 41, 42, 63, 64, 65] F_nurserylaw16_MutexServes_L1 [(1, .loc 0 0 0), (3, .asl 1 0 nw), (4, GotV got.length), (7, .d (I' last)), (9, .d (.ref [I' w0.task, I' 0, I' 0, hD a1 [], qD a2 r, hD a3 [], cD a4 [], .b false, I' 0, .b false, I' 0, .b true, .sl 5 a5 [wrow w0.task]])), (41, .d (I' n)), (42, .d (I' k)), (63, .d (qD nl (w0 :: r))), (64, .d (I' (r.length + 1))), (65, .d (I' 0))] ([.arrD 9 true [row], .arrD 1 true (rows1 want)] ++ GotH got)) =
      some (.out (.exit 4) [(1, .loc 0 0 0), (3, .asl 1 0 nw), (4, GotV got.length), (7, .d (I' w0.prio)), (9, .d (.ref [I' w0.task, I' 0, I' 0, hD a1 [], qD a2 r, hD a3 [], cD a4 [], .b false, I' 0, .b false, I' 0, .b true, .sl 5 a5 [wrow w0.task]])), (41, .d (I' n)), (42, .d (I' k))] ([.arrD 9 true [row], .arrD 1 true (rows1 want)] ++ GotH got)) := by
  have h := loop_S1 row want got nw n k a1 a2 a3 a4 a5 w0 r nl (w0 :: r) w0.prio (by simp; omega) r [w0] rfl hne
  have h0 : (0 : Int) < r.length + 1 := by omega
  have hp' : ¬ last < w0.prio := by omega
  rw [ev_loop]
  conv => lhs; arg 4; unfold F_nurserylaw16_MutexServes_L1
  cases got with
  | nil =>
    simp [GotV, GotH] at h
    simp [h0, W.row, wrow, hp', wrap1, GotV, GotH, reachC, cut, List.idxOf_cons]
    exact h
  | cons a b =>
    simp [GotV, GotH] at h
    simp [h0, W.row, wrow, hp', wrap1, GotV, GotH, reachC, cut, List.idxOf_cons]
    exact h
def WantV (n : Nat) : V := if n = 0 then .d (.sl 1 true []) else .asl 1 0 n
abbrev tks (l : List W) : List Int := l.map W.task
theorem loop_S0 (row : List D) (nl : Bool) (l : List W) (hn : l.length ≤ 1000000) : ∀ (suf pre : List W), l = pre ++ suf →
    ev P (.loop 0 [1, 3, 4, 27, 28, 29] F_nurserylaw16_MutexServes_L0 [(1, .loc 0 0 0), (3, WantV pre.length), (4, .d (.sl 1 true [])), (27, .d (qD nl l)), (28, .d (I' l.length)), (29, .d (I' pre.length))] ([.arrD 9 true [row]] ++ GotH (tks pre))) =
      some (.out (.exit 0) [(1, .loc 0 0 0), (3, WantV l.length), (4, .d (.sl 1 true []))] ([.arrD 9 true [row]] ++ GotH (tks l))) := by
  intro suf
  induction suf with
  | nil =>
    intro pre hl
    have hlp : l = pre := by simp [hl]
    subst hlp
    rw [ev_loop]
    conv => lhs; arg 4; unfold F_nurserylaw16_MutexServes_L0
    cases l with
    | nil => simp [WantV, GotH, reachC, cut, List.idxOf_cons]
    | cons a b => simp [WantV, GotH, reachC, cut, List.idxOf_cons]
  | cons w suf ih =>
    intro pre hl
    have hg : l[pre.length]? = some w := by simp [hl]
    have hlt : (pre.length : Int) < l.length := by simp [hl]; omega
    have hnext : IntKind.i64.wrap ((pre.length : Int) + 1) = pre.length + 1 := wrap_i64 (by omega) (by omega)
    have ih' := ih (pre ++ [w]) (by simp [hl])
    generalize hR : some (Res.out (.exit 0) [(1, V.loc 0 0 0), (3, WantV l.length), (4, V.d (.sl 1 true []))] ([O.arrD 9 true [row]] ++ GotH (tks l))) = R at ih' ⊢
    clear hR
    rw [ev_loop]
    conv => lhs; arg 4; unfold F_nurserylaw16_MutexServes_L0
    cases pre with
    | nil =>
      have hr : 1 ≤ room := by decide
      simp only [List.nil_append] at hl
      subst hl
      simp [WantV, GotH] at ih' hlt
      simp [hlt, W.row, wrap1, hr, WantV, GotH, reachC, cut, List.idxOf_cons]
      exact ih'
    | cons a b =>
      have hb : b.length + 1 ≤ l.length := by simp [hl]
      have h0 : (0 : Int) ≤ b.length + 1 := by omega
      have hr : b.length + 1 + 1 ≤ room := by unfold room; omega
      simp [WantV, GotH] at ih' hg hlt hnext
      simp [hlt, hg, h0, W.row, hnext, hr, WantV, GotH, reachC, cut, List.idxOf_cons, overlay, Nat.not_succ_le_self, take_map_len]
      exact ih'
theorem GotV_eq (l : List W) : GotV l.length = GotV (tks l).length := by simp
theorem loop_S2 (q : List W) (want : List Int) (hw : want ≠ []) (hn : q.length ≤ 40) : ∀ (suf pre : List W) (own last : Int) (hn qn bn cn : Bool), q = pre ++ suf → MV own suf → (∀ x, x ∈ suf → x.prio ≤ last) → (qn = true → suf = []) →
    ∃ own' hn' qn' bn' cn', (qn' = true → ([] : List W) = []) ∧ MV own' [] ∧
    ev P (.loop 0 [1, 3, 4, 7, 41, 42] F_nurserylaw16_MutexServes_L2 [(1, .loc 0 0 0), (3, .asl 1 0 want.length), (4, GotV pre.length), (7, .d (I' last)), (41, .d (I' q.length)), (42, .d (I' pre.length))] ([.arrD 9 true [stL hn qn bn cn own suf], .arrD 1 true (rows1 want)] ++ GotH (tks pre))) =
      some (.out (.exit 2) [(1, .loc 0 0 0), (3, .asl 1 0 want.length), (4, GotV q.length)] ([.arrD 9 true [stL hn' qn' bn' cn' own' []], .arrD 1 true (rows1 want)] ++ GotH (tks q))) := by
  intro suf
  induction suf with
  | nil =>
    intro pre own last hn qn bn cn hl m _ hnl
    have hlp : q = pre := by simp [hl]
    subst hlp
    refine ⟨own, hn, qn, bn, cn, fun _ => rfl, m, ?_⟩
    rw [ev_loop]
    conv => lhs; arg 4; unfold F_nurserylaw16_MutexServes_L2
    cases q with
    | nil => simp [GotV, GotH, reachC, cut, List.idxOf_cons]
    | cons a b => simp [GotV, GotH, reachC, cut, List.idxOf_cons]
  | cons w r ih =>
    intro pre own last hn qn bn cn hl m hp hnl
    have hq : qn = false := by cases qn; rfl; simp at hnl
    subst hq
    have hlq : pre.length + (r.length + 1) = q.length := by simp [hl]
    have hlt : (pre.length : Int) < q.length := by omega
    have hnext : IntKind.i64.wrap ((pre.length : Int) + 1) = pre.length + 1 := wrap_i64 (by omega) (by omega)
    have ho : own ≠ -1 := fun h => by have := m.free h; simp at this
    have ea := ev_mApply1 (.s [109]) hn false bn cn own (w :: r) own 52 0 0 0 (by simp) (by simp; omega) m.desc (mvalid_of m (by simp; omega))
    rw [applyS_unlock m ho] at ea
    have hu : unlockS own (w :: r) own = ⟨w.task, r, false, true, some w.task, 0⟩ := by simp [unlockS]
    have m' := MV_unlock (t := own) m (by rw [hu])
    rw [hu] at ea m'
    obtain ⟨a1, a2, a3, a4, a5, ha, ha2⟩ := ea
    have hd := m.desc
    unfold Desc at hd
    rw [List.pairwise_cons] at hd
    have hs := m.dis
    rw [List.pairwise_cons] at hs
    have hL := loop_S1' (stL hn false bn cn own (w :: r)) want (tks pre) want.length q.length pre.length a1 a2 a3 a4 a5 w r false last (by omega) (fun x hx => (hs.1 x hx).symm) (hp w (by simp))
    obtain ⟨own', hn', qn', bn', cn', k1, k2, k3⟩ := ih (pre ++ [w]) w.task w.prio a1 a2 a3 a4 (by simp [hl]) m' (fun x hx => hd.1 x hx) ha2
    refine ⟨own', hn', qn', bn', cn', k1, k2, ?_⟩
    generalize hR : some (Res.out (.exit 2) [(1, V.loc 0 0 0), (3, V.asl 1 0 want.length), (4, GotV q.length)] ([O.arrD 9 true [stL hn' qn' bn' cn' own' []], O.arrD 1 true (rows1 want)] ++ GotH (tks q))) = R at k3 ⊢
    clear hR
    rw [ev_loop]
    conv => lhs; arg 4; unfold F_nurserylaw16_MutexServes_L2
    cases pre with
    | nil =>
      have hr : 1 ≤ room := by decide
      simp [GotV, GotH, wrow] at k3 hL hlt
      simp [hlt, ev_object, ha, V.same_self, thaw, freezeAll, freeze1, wrow, hL, wrap1, hr, GotV, GotH, reachC, cut, List.idxOf_cons]
      exact k3
    | cons a b =>
      have hr : b.length + 1 + 1 ≤ room := by unfold room; simp at hlq; omega
      simp [GotV, GotH, wrow] at k3 hL hlt hnext
      simp [hlt, ev_object, ha, V.same_self, thaw, freezeAll, freeze1, wrow, hL, hnext, hr, GotV, GotH, reachC, cut, List.idxOf_cons, overlay, Nat.not_succ_le_self, take_map_len]
      exact k3
theorem law_Serves {s : D} (S : IsState s) : ev P (.call nurserylaw16_MutexServes [.d s] []) = some (.val (.d (.b true)) []) := by
  obtain ⟨own, cnt, time, hn, hs, qn, q, bn, bs, cn, cs, cl, val, rfl, hcs, nl⟩ := S
  have hG := ev_Great own cnt time hn hs qn q bn bs cn cs cl val hcs
  rw [ev_call P_nurserylaw16_MutexServes rfl]
  cases hg : greatB hs q bs cs
  · obtain ⟨g1, g2, g3, g4⟩ := great_q hg
    rw [hg] at hG
    have hC := ev_mCheck (.s [109]) 1 0 0 own cnt time hn hs qn q bn bs cn cs cl val (by omega) (by omega) (by omega) (by omega)
    have hm : mnew 1 0 0 = 0 := by decide
    simp [hm] at hC
    by_cases hv : mvalid own cnt time hs q bs cs cl val = true
    · rw [if_pos hv] at hC
      obtain ⟨⟨rfl, rfl, rfl, rfl, rfl, rfl, rfl⟩, hl, m⟩ := mvalid_iff.1 hv
      -- the end: the queue is empty
      have hend : ∀ (own' : Int) (hn' qn' bn' cn' : Bool), MV own' [] → own' ≠ -1 → Rets (ev P (.call mutex_Apply [.d (.ag [.s [109], I' 1, I' 0, I' 0]), .d (.ag (stL hn' qn' bn' cn' own' [])), .d (.ag [I' own', I' 52, I' 0, I' 0, I' 0])] [])) ⟨-1, [], false, true, none, 0⟩ := by
        intro own' hn' qn' bn' cn' m' ho
        have ea := ev_mApply1 (.s [109]) hn' qn' bn' cn' own' [] own' 52 0 0 0 (by simp) (by simp) m'.desc (mvalid_of m' (by simp))
        rw [applyS_unlock m' ho] at ea
        have hu : unlockS own' [] own' = ⟨-1, [], false, true, none, 0⟩ := by simp [unlockS]
        rwa [hu] at ea
      have hL0 := loop_S0 (stL hn qn bn cn own q) qn q (by omega) q [] rfl
      cases q with
      | nil =>
        have hS : ev P (.call nurseryref04_SameInts [.d (.sl 1 true []), .d (.sl 1 true [])] []) = some (.val (.d (.b true)) []) := ev_SameInts true true [] [] (by simp)
        have hL2 : ev P (.loop 0 [1, 3, 4, 7, 41, 42] F_nurserylaw16_MutexServes_L2 [(1, .loc 0 0 0), (3, .d (.sl 1 true [])), (4, .d (.sl 1 true [])), (7, .d (I' 9)), (41, .d (I' 0)), (42, .d (I' 0))] [.arrD 9 true [stL hn qn bn cn own []]]) =
            some (.out (.exit 2) [(1, .loc 0 0 0), (3, .d (.sl 1 true [])), (4, .d (.sl 1 true []))] [.arrD 9 true [stL hn qn bn cn own []]]) := by
          rw [ev_loop]
          conv => lhs; arg 4; unfold F_nurserylaw16_MutexServes_L2
          simp [reachC, cut, List.idxOf_cons]
        simp [WantV, GotH] at hL0
        by_cases ho : own = -1
        · subst ho
          simp [F_nurserylaw16_MutexServes, hG, hC, ev_object, ev_awake, hL0, hL2, reachC, cut, List.idxOf_cons, ev_mHolder, thaw, hS, freezeAll, freeze1, take_map_len]
        · obtain ⟨a1, a2, a3, a4, a5, ha, _⟩ := hend own hn qn bn cn m ho
          have ho2 : (own != -1) = true := by simpa using ho
          simp [F_nurserylaw16_MutexServes, hG, hC, ev_object, ev_awake, hL0, hL2, reachC, cut, List.idxOf_cons, ev_mHolder, thaw, hS, ho2, ha, V.same_self, freezeAll, freeze1, take_map_len]
      | cons w r =>
        obtain ⟨own', hn', qn', bn', cn', _, m', hL2⟩ := loop_S2 (w :: r) (tks (w :: r)) (by simp) (by omega) (w :: r) [] own 9 hn qn bn cn rfl m (fun x hx => (m.all x hx).2.2.2.2.2.2.2) nl
        have hS : ev P (.call nurseryref04_SameInts [.d (.sl 1 false ([I' w.task] :: List.map ((fun x => [I' x]) ∘ W.task) r)), .d (.sl 1 false ([I' w.task] :: List.map ((fun x => [I' x]) ∘ W.task) r))] []) = some (.val (.d (.b true)) []) := by
          have := ev_SameInts false false (tks (w :: r)) (tks (w :: r)) (by simp; simp at g2; omega)
          simpa [hD] using this
        simp [WantV, GotV, GotH] at hL0 hL2
        by_cases ho : own' = -1
        · subst ho
          simp [F_nurserylaw16_MutexServes, hG, hC, ev_object, ev_awake, hL0, hL2, reachC, cut, List.idxOf_cons, ev_mHolder, thaw, hS, freezeAll, freeze1, take_map_len]
        · obtain ⟨a1, a2, a3, a4, a5, ha, _⟩ := hend own' hn' qn' bn' cn' m' ho
          have ho2 : (own' != -1) = true := by simpa using ho
          simp [F_nurserylaw16_MutexServes, hG, hC, ev_object, ev_awake, hL0, hL2, reachC, cut, List.idxOf_cons, ev_mHolder, thaw, hS, ho2, ha, V.same_self, freezeAll, freeze1, take_map_len]
    · rw [if_neg hv] at hC
      simp [F_nurserylaw16_MutexServes, hG, hC, ev_object, ev_awake]
  · rw [hg] at hG
    simp [F_nurserylaw16_MutexServes, hG, ev_awake]
end Go.VS.M
