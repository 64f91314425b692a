import Derived.Test.YtjkgnelkochemaaV07
set_option linter.all false
namespace Go.VS.R
/-! the lock of a state without holders and waiters -/
theorem ev_writesD (z : Z) (own : Int) : ev P (.call rwlock_lock_writes [.loc 0 0 0] [lkD z own]) = some (.val (.d (.b (own != -1))) [lkD z own]) := by
  rw [ev_call P_rwlock_lock_writes rfl]
  simp [F_rwlock_lock_writes, lkD, reachC, cut, endH]
theorem ev_freeD (z : Z) (own : Int) : ev P (.call rwlock_lock_free [.loc 0 0 0] [lkD z own]) = some (.val (.d (.b (own == -1))) [lkD z own]) := by
  have hW := ev_writesD z own
  unfold lkD at *
  rw [ev_call P_rwlock_lock_free rfl]
  cases ho : own == -1
  · have ho2 : (own != -1) = true := by simp [bne, ho]
    rw [ho2] at hW
    simp [F_rwlock_lock_free, reachC, cut, endH, callR, sub, setAll, back, hW]
  · have ho2 : (own != -1) = false := by simp [bne, ho]
    rw [ho2] at hW
    simp [F_rwlock_lock_free, reachC, cut, endH, callR, sub, setAll, back, hW]
theorem ev_grantWD (z : Z) (own t : Int) : ev P (.call rwlock_lock_grant [.loc 0 0 0, .d (I' t), .d (I' 55)] [lkD z own]) = some (.val (.tu []) [lkD z t]) := by
  rw [ev_call P_rwlock_lock_grant rfl]
  simp [F_rwlock_lock_grant, lkD, reachC, cut, endH, overlay]
theorem ev_grant0D (z : Z) (own t o : Int) (ho : o ≠ 55) : ev P (.call rwlock_lock_grant [.loc 0 0 0, .d (I' t), .d (I' o)] [lkD z own]) = some (.val (.tu []) (heapG z own none (.inl true) none [[I' t]])) := by
  have hI := ev_prim P_slices_Insert_int_int (p := insP 1) rfl
  have ho2 : (o == 55) = false := by simpa using ho
  have r1 : 1 ≤ room := by decide
  rw [ev_call P_rwlock_lock_grant rfl]
  simp [F_rwlock_lock_grant, ho2, ev_BS0, hI, insP, insRows, r1, lkD, heapG, lk, hV, hO, hX, qV, qO, kV, kO, callR, sub, setAll, back, reachC, cut, rg2, rg3, rg4, rg5, List.idxOf_cons, endH, overlay]
theorem ev_serveD (z : Z) (own : Int) : ev P (.call rwlock_lock_serve [.loc 0 0 0] [lkD z own]) = some (.val (.tu []) [lkD z own]) := by
  have hL : ev P (.loop 1 [0] F_rwlock_lock_serve_L0 [(0, .loc 0 0 0)] [lkD z own]) = some (.out (.exit 0) [] [lkD z own]) := by
    rw [ev_loop]
    conv => lhs; arg 4; unfold F_rwlock_lock_serve_L0
    simp [lkD, reachC, cut]
  rw [ev_call P_rwlock_lock_serve rfl]
  simp [lkD] at hL
  simp [F_rwlock_lock_serve, hL, lkD, reachC, cut, endH]
/-! what operations return -/
structure Rp where
  own : Int
  H : List Int
  Q : List W
  parked : Bool
  ok : Bool
  k : List W
  e : Int
def zr (e : Int) : Rp := ⟨0, [], [], false, false, [], e⟩
def zZ (bn cn : Bool) : Z := ⟨I' 0, I' 0, hD bn [], cD cn [], .b false, I' 0⟩
def Rets (x : Option Res) (r : Rp) : Prop := ∃ bn cn hn qn kn, x = some (.val (.tu [.d (rpD (zZ bn cn) r.own hn r.H qn r.Q r.parked r.ok kn (r.k.map wk)), .d (I' r.e)]) []) ∧ (hn = true → r.H = []) ∧ (qn = true → r.Q = [])
/-- what 'serve' leaves -/
def srvM (own : Int) (H : List Int) : List W → Int × List Int × List W × List W
  | [] => (own, H, [], [])
  | w :: r =>
    if own ≠ -1 ∨ (w.op = 55 ∧ H ≠ []) then (own, H, w :: r, [])
    else if w.op = 55 then (w.task, H, r, [w])
    else (own, insA (insI w.task H) (r.takeWhile fun w => w.op != 55), r.dropWhile fun w => w.op != 55, w :: r.takeWhile fun w => w.op != 55)
def badC (t p n : Int) : Bool := !isTask t || decide (p < 0) || decide (9 < p) || decide (n < 0) || decide (1099511627776 < n)
def posB (own : Int) (H : List Int) (Q : List W) (o : Int) : Bool := if o = 53 then own == -1 && Q.isEmpty else own == -1 && H.isEmpty
/-- taking the lock, or waiting for it -/
def lockS (own : Int) (H : List Int) (Q : List W) (t o p : Int) : Rp :=
  if posB own H Q o = true then (if o = 55 then ⟨t, H, Q, false, true, [], 0⟩ else ⟨own, insI t H, Q, false, true, [], 0⟩) else ⟨own, H, Q ++ [⟨t, o, 0, p, -1⟩], true, false, [], 0⟩
/-- an operation on a valid state -/
def apV (own : Int) (H : List Int) (Q : List W) (t o p n : Int) : Rp :=
  if badC t p n = true then zr 2
  else if (decide (o < 53) || decide (56 < o)) = true then zr 8
  else if (Q.any fun w => w.task == t) = true then zr 17
  else if o = 53 ∨ o = 55 then
    if hld own H t ≠ 0 then zr 17
    else lockS own H Q t o p
  else if o = 54 then
    if hld own H t ≠ 1 then zr 20
    else let x := srvM own (H.filter fun x => x != t) Q; ⟨x.1, x.2.1, x.2.2.1, false, true, x.2.2.2, 0⟩
  else
    if hld own H t ≠ 2 then zr 20
    else let x := srvM (-1) H Q; ⟨x.1, x.2.1, x.2.2.1, false, true, x.2.2.2, 0⟩
abbrev stD (z : Z) (own : Int) (hn : Bool) (H : List Int) (qn : Bool) (Q : List W) : D := .ag [I' own, z.c1, z.c2, hD hn H, qD qn Q, z.c5, z.c6, z.c7, z.c8]
theorem zrD (e : Int) (bn cn : Bool) : ∃ hn qn kn, (.ag [I' 0, I' 0, I' 0, .sl 1 true [], .sl 5 true [], .sl 1 true [], .sl 2 true [], .b false, I' 0, .b false, I' 0, .b false, .sl 5 true []] : D) = rpD (zZ true true) (zr e).own hn (zr e).H qn (zr e).Q (zr e).parked (zr e).ok kn ((zr e).k.map wk) ∧ (hn = true → (zr e).H = []) ∧ (qn = true → (zr e).Q = []) :=
  ⟨true, true, true, rfl, fun _ => rfl, fun _ => rfl⟩
theorem Rets.zero {x : Option Res} {e : Int} (h : x = some (.val (.tu [.d (.ag [I' 0, I' 0, I' 0, .sl 1 true [], .sl 5 true [], .sl 1 true [], .sl 2 true [], .b false, I' 0, .b false, I' 0, .b false, .sl 5 true []]), .d (I' e)]) [])) : Rets x (zr e) :=
  ⟨true, true, true, true, true, h, fun _ => rfl, fun _ => rfl⟩
theorem ev_applyE (o2 : D) (bn cn : Bool) (own : Int) (hn : Bool) (H : List Int) (qn : Bool) (Q : List W) (t o v p n : Int) (h1 : hn = true → H = []) (h2 : qn = true → Q = []) (h3 : H.length ≤ 1000) (h4 : Q.length ≤ 1000)
    (hC : ev P (.call rwlock_Check [.d o2, .d (stD (zZ bn cn) own hn H qn Q)] []) = some (.val (.d (I' 0)) [])) (ho2 : ∃ a b c d, o2 = .ag [a, b, c, d]) :
    (badC t p n = true → Rets (ev P (.call rwlock_Apply [.d o2, .d (stD (zZ bn cn) own hn H qn Q), .d (.ag [I' t, I' o, I' v, I' p, I' n])] [])) (zr 2)) ∧
    (badC t p n = false → (decide (o < 53) || decide (56 < o)) = true → Rets (ev P (.call rwlock_Apply [.d o2, .d (stD (zZ bn cn) own hn H qn Q), .d (.ag [I' t, I' o, I' v, I' p, I' n])] [])) (zr 8)) ∧
    (badC t p n = false → (decide (o < 53) || decide (56 < o)) = false → (Q.any fun w => w.task == t) = true → Rets (ev P (.call rwlock_Apply [.d o2, .d (stD (zZ bn cn) own hn H qn Q), .d (.ag [I' t, I' o, I' v, I' p, I' n])] [])) (zr 17)) ∧
    (badC t p n = false → (decide (o < 53) || decide (56 < o)) = false → (Q.any fun w => w.task == t) = false → (o = 53 ∨ o = 55) → hld own H t ≠ 0 → Rets (ev P (.call rwlock_Apply [.d o2, .d (stD (zZ bn cn) own hn H qn Q), .d (.ag [I' t, I' o, I' v, I' p, I' n])] [])) (zr 17)) ∧
    (badC t p n = false → (decide (o < 53) || decide (56 < o)) = false → (Q.any fun w => w.task == t) = false → o = 54 → hld own H t ≠ 1 → Rets (ev P (.call rwlock_Apply [.d o2, .d (stD (zZ bn cn) own hn H qn Q), .d (.ag [I' t, I' o, I' v, I' p, I' n])] [])) (zr 20)) ∧
    (badC t p n = false → (decide (o < 53) || decide (56 < o)) = false → (Q.any fun w => w.task == t) = false → o = 56 → hld own H t ≠ 2 → Rets (ev P (.call rwlock_Apply [.d o2, .d (stD (zZ bn cn) own hn H qn Q), .d (.ag [I' t, I' o, I' v, I' p, I' n])] [])) (zr 20)) := by
  obtain ⟨a, b, c, d, rfl⟩ := ho2
  have hF := ev_wFind qn Q t (by omega)
  have hCh := ev_changed (zZ bn cn) own hn H qn Q h1 h2 (by omega) (by omega)
  have hH := ev_holds own (I' 0) (I' 0) (qD qn Q) (hD bn []) (cD cn []) (.b false) (I' 0) hn H t (by omega)
  rw [fd_any] at hF
  generalize (fdS Q t).1 = fi at *
  simp only [zZ] at *
  refine ⟨fun hb => Rets.zero ?_, fun hb hr => Rets.zero ?_, fun hb hr hq => Rets.zero ?_, fun hb hr hq ho hh => Rets.zero ?_, fun hb hr hq ho hh => Rets.zero ?_, fun hb hr hq ho hh => Rets.zero ?_⟩
  · rw [ev_call P_rwlock_Apply rfl]
    unfold badC at hb
    simp [F_rwlock_Apply, hC, ev_isTask, hb, overlay]
  · rw [ev_call P_rwlock_Apply rfl]
    unfold badC at hb
    simp [F_rwlock_Apply, hC, ev_isTask, hb, hr, overlay]
  · rw [ev_call P_rwlock_Apply rfl]
    unfold badC at hb
    rw [hq] at hF
    simp [F_rwlock_Apply, hC, ev_isTask, hb, hr, hF, overlay]
  · rw [ev_call P_rwlock_Apply rfl]
    unfold badC at hb
    rw [hq] at hF
    have hh2 : (hld own H t != 0) = true := by simpa using hh
    rcases ho with rfl | rfl
    · simp [F_rwlock_Apply, hC, ev_isTask, hb, hr, hF, callD, hCh, hH, hh2, overlay]
    · simp [F_rwlock_Apply, hC, ev_isTask, hb, hr, hF, callD, hCh, hH, hh2, overlay]
  · rw [ev_call P_rwlock_Apply rfl]
    unfold badC at hb
    rw [hq] at hF
    have hh2 : (hld own H t != 1) = true := by simpa using hh
    subst ho
    simp [F_rwlock_Apply, hC, ev_isTask, hb, hr, hF, callD, hCh, hH, hh2, overlay]
  · rw [ev_call P_rwlock_Apply rfl]
    unfold badC at hb
    rw [hq] at hF
    have hh2 : (hld own H t != 2) = true := by simpa using hh
    subst ho
    simp [F_rwlock_Apply, hC, ev_isTask, hb, hr, hF, callD, hCh, hH, hh2, overlay]
end Go.VS.R
namespace Go.VS.R
theorem ev_free0 (z : Z) (own : Int) (hn : Bool) (H : List Int) (qn : Bool) (Q : List W) (h1 : hn = true → H = []) (h2 : qn = true → Q = []) :
    ev P (.call rwlock_lock_free [.loc 0 0 0] (heap0 z own hn H qn Q)) = some (.val (.d (.b (own == -1 && (H.length : Int) == 0))) (heap0 z own hn H qn Q)) := by
  unfold heap0
  by_cases h : (hn && qn) = true
  · rw [if_pos h]
    have : H = [] := h1 (by simp at h; exact h.1)
    rw [this, ev_freeD]; simp
  · rw [if_neg h]
    rw [ev_free, hlen_hS h1]
theorem ev_writes0 (z : Z) (own : Int) (hn : Bool) (H : List Int) (qn : Bool) (Q : List W) :
    ev P (.call rwlock_lock_writes [.loc 0 0 0] (heap0 z own hn H qn Q)) = some (.val (.d (.b (own != -1))) (heap0 z own hn H qn Q)) := by
  unfold heap0
  by_cases h : (hn && qn) = true
  · rw [if_pos h, ev_writesD]
  · rw [if_neg h, ev_writes]
theorem ev_grantW0 (z : Z) (own t : Int) (hn : Bool) (H : List Int) (qn : Bool) (Q : List W) :
    ev P (.call rwlock_lock_grant [.loc 0 0 0, .d (I' t), .d (I' 55)] (heap0 z own hn H qn Q)) = some (.val (.tu []) (heap0 z t hn H qn Q)) := by
  unfold heap0
  by_cases h : (hn && qn) = true
  · rw [if_pos h, if_pos h, ev_grantWD]
  · rw [if_neg h, if_neg h, ev_grantW]
theorem ev_grantR0 (z : Z) (own t o : Int) (hn : Bool) (H : List Int) (qn : Bool) (Q : List W) (ho : o ≠ 55) (h1 : hn = true → H = []) (h2 : qn = true → Q = []) (h3 : H.length ≤ 1000000) (hA : Asc H) :
    ev P (.call rwlock_lock_grant [.loc 0 0 0, .d (I' t), .d (I' o)] (heap0 z own hn H qn Q)) = some (.val (.tu []) (heapG z own (hS hn H) (qS qn Q) none (rows1 (insI t H)))) := by
  unfold heap0
  cases hn
  · have e : hS false H = some (rows1 H, H.length) := rfl
    simp only [Bool.false_and, Bool.false_eq_true, if_false, e]
    exact ev_grant1 z own t o H (rows1 H) (qS qn Q) none ho h3 (by simp) (by simp [rows1, take_map_len]) hA
  · have : H = [] := h1 rfl
    subst this
    have e0 : rows1 (insI t []) = [[I' t]] := rfl
    rw [e0]
    cases qn
    · exact ev_grant0 z own t o (qS false Q) none ho
    · exact ev_grant0D z own t o ho
/-- taking the lock, or waiting for it -/
theorem ev_applyLr (o2 : D) (bn cn : Bool) (own : Int) (hn : Bool) (H : List Int) (qn : Bool) (Q : List W) (t o v p n : Int) (h1 : hn = true → H = []) (h2 : qn = true → Q = []) (h3 : H.length ≤ 1000) (h4 : Q.length ≤ 1000) (hA : Asc H)
    (hC : ev P (.call rwlock_Check [.d o2, .d (stD (zZ bn cn) own hn H qn Q)] []) = some (.val (.d (I' 0)) [])) (ho2 : ∃ a b c d, o2 = .ag [a, b, c, d])
    (hb : badC t p n = false) (hq : (Q.any fun w => w.task == t) = false) (ho : o = 53) (hh : hld own H t = 0) :
    Rets (ev P (.call rwlock_Apply [.d o2, .d (stD (zZ bn cn) own hn H qn Q), .d (.ag [I' t, I' o, I' v, I' p, I' n])] [])) (lockS own H Q t o p) := by
  obtain ⟨a, b, c, d, rfl⟩ := ho2
  have hF := ev_wFind qn Q t (by omega)
  have hCh := ev_changed (zZ bn cn) own hn H qn Q h1 h2 (by omega) (by omega)
  have hH := ev_holds own (I' 0) (I' 0) (qD qn Q) (hD bn []) (cD cn []) (.b false) (I' 0) hn H t (by omega)
  have hFr := ev_free0 (zZ bn cn) own hn H qn Q h1 h2
  have hWr := ev_writes0 (zZ bn cn) own hn H qn Q
  rw [fd_any, hq] at hF
  rw [hh] at hH
  generalize (fdS Q t).1 = fi at *
  unfold badC at hb
  have hQr : Q.length + 1 ≤ room := by unfold room; omega
  have r1 : 1 ≤ room := by decide
  subst ho
  by_cases hp : own = -1 ∧ Q = []
  · have hL : lockS own H Q t 53 p = ⟨own, insI t H, Q, false, true, [], 0⟩ := by simp [lockS, posB, hp]
    rw [hL]
    obtain ⟨rfl, rfl⟩ := hp
    have hG := ev_grantR0 (zZ bn cn) (-1) t 53 hn H qn [] (by decide) h1 h2 (by omega) hA
    refine ⟨bn, cn, false, qn, true, ?_, by simp, by simp⟩
    simp only [zZ] at *
    have hil := insI_len t H
    have hit : List.take (H.length + 1) (rows1 (insI t H)) = rows1 (insI t H) := by rw [← hil]; simp [rows1, take_map_len]
    rw [ev_call P_rwlock_Apply rfl]
    cases hn <;> cases qn <;> simp [heap0, lkD, heap3, heapG, lk, hS, qS, hV, hO, hX, qV, qO, kV, kO, hil] at hCh hFr hWr hG
    · simp [F_rwlock_Apply, hC, ev_isTask, hb, hF, callD, hCh, hH, callR, hFr, hWr, reachC, cut, rg2, rg3, rg4, rg5, List.idxOf_cons, sub, setAll, back, overlay, take_map_len, endH]
      rw [ev_call P_rwlock_lock_acquire rfl]
      simp [F_rwlock_lock_acquire, callR, hG, reachC, cut, rg2, rg3, rg4, rg5, List.idxOf_cons, sub, setAll, back, overlay, take_map_len, endH]
      rw [ev_call P_rwlock_lock_reply rfl]
      simp [F_rwlock_lock_reply, hil, hit, callR, reachC, cut, rg2, rg3, rg4, rg5, List.idxOf_cons, sub, setAll, back, overlay, take_map_len, endH]
    · simp [F_rwlock_Apply, hC, ev_isTask, hb, hF, callD, hCh, hH, callR, hFr, hWr, reachC, cut, rg2, rg3, rg4, rg5, List.idxOf_cons, sub, setAll, back, overlay, take_map_len, endH]
      rw [ev_call P_rwlock_lock_acquire rfl]
      simp [F_rwlock_lock_acquire, callR, hG, reachC, cut, rg2, rg3, rg4, rg5, List.idxOf_cons, sub, setAll, back, overlay, take_map_len, endH]
      rw [ev_call P_rwlock_lock_reply rfl]
      simp [F_rwlock_lock_reply, hil, hit, callR, reachC, cut, rg2, rg3, rg4, rg5, List.idxOf_cons, sub, setAll, back, overlay, take_map_len, endH]
    · simp [F_rwlock_Apply, hC, ev_isTask, hb, hF, callD, hCh, hH, callR, hFr, hWr, reachC, cut, rg2, rg3, rg4, rg5, List.idxOf_cons, sub, setAll, back, overlay, take_map_len, endH]
      rw [ev_call P_rwlock_lock_acquire rfl]
      simp [F_rwlock_lock_acquire, callR, hG, reachC, cut, rg2, rg3, rg4, rg5, List.idxOf_cons, sub, setAll, back, overlay, take_map_len, endH]
      rw [ev_call P_rwlock_lock_reply rfl]
      simp [F_rwlock_lock_reply, hil, hit, callR, reachC, cut, rg2, rg3, rg4, rg5, List.idxOf_cons, sub, setAll, back, overlay, take_map_len, endH]
    · simp [F_rwlock_Apply, hC, ev_isTask, hb, hF, callD, hCh, hH, callR, hFr, hWr, reachC, cut, rg2, rg3, rg4, rg5, List.idxOf_cons, sub, setAll, back, overlay, take_map_len, endH]
      rw [ev_call P_rwlock_lock_acquire rfl]
      simp [F_rwlock_lock_acquire, callR, hG, reachC, cut, rg2, rg3, rg4, rg5, List.idxOf_cons, sub, setAll, back, overlay, take_map_len, endH]
      rw [ev_call P_rwlock_lock_reply rfl]
      simp [F_rwlock_lock_reply, hil, hit, callR, reachC, cut, rg2, rg3, rg4, rg5, List.idxOf_cons, sub, setAll, back, overlay, take_map_len, endH]
  · have hL : lockS own H Q t 53 p = ⟨own, H, Q ++ [⟨t, 53, 0, p, -1⟩], true, false, [], 0⟩ := by
      have : posB own H Q 53 = false := by
        unfold posB
        cases h : (own == -1 && Q.isEmpty)
        · simp [h]
        · exact absurd (by simpa using h) hp
      simp [lockS, this]
    rw [hL]
    have hpb : (own != -1) = false → Q ≠ [] := by
      intro h1 h2
      exact hp ⟨by simpa using h1, h2⟩
    refine ⟨bn, cn, hn, false, true, ?_, h1, by simp⟩
    simp only [zZ] at *
    rw [ev_call P_rwlock_Apply rfl]
    cases hw : own != -1
    · have hQ0 := hpb hw
      have hQ1 : ((Q.length : Int) == 0) = false := by simpa using hQ0
      rw [hw] at hWr
      have hqn : qn = false := by cases qn; rfl; exact absurd (h2 rfl) hQ0
      subst hqn
      cases hn <;> simp [heap0, lkD, heap3, lk, hS, qS, hV, hO, qV, qO, kV, kO] at hCh hFr hWr
      · simp [F_rwlock_Apply, hC, ev_isTask, hb, hF, callD, hCh, hH, callR, hFr, hWr, hQ1, hQ0, reachC, cut, rg2, rg3, rg4, rg5, List.idxOf_cons, sub, setAll, back, overlay, take_map_len, endH]
        rw [ev_call P_rwlock_lock_acquire rfl]
        simp [F_rwlock_lock_acquire, callR, reachC, cut, rg2, rg3, rg4, rg5, List.idxOf_cons, sub, setAll, back, overlay, take_map_len, endH, hQr, r1, Nat.not_succ_le_self, W.row, take_snoc_map]
        all_goals exact h1 rfl
      · simp [F_rwlock_Apply, hC, ev_isTask, hb, hF, callD, hCh, hH, callR, hFr, hWr, hQ1, hQ0, reachC, cut, rg2, rg3, rg4, rg5, List.idxOf_cons, sub, setAll, back, overlay, take_map_len, endH]
        rw [ev_call P_rwlock_lock_acquire rfl]
        simp [F_rwlock_lock_acquire, callR, reachC, cut, rg2, rg3, rg4, rg5, List.idxOf_cons, sub, setAll, back, overlay, take_map_len, endH, hQr, r1, Nat.not_succ_le_self, W.row, take_snoc_map]
        all_goals exact h1 rfl
    · rw [hw] at hWr
      cases hn <;> cases qn <;> simp [heap0, lkD, heap3, lk, hS, qS, hV, hO, qV, qO, kV, kO] at hCh hFr hWr
      · simp [F_rwlock_Apply, hC, ev_isTask, hb, hF, callD, hCh, hH, callR, hFr, hWr, reachC, cut, rg2, rg3, rg4, rg5, List.idxOf_cons, sub, setAll, back, overlay, take_map_len, endH]
        rw [ev_call P_rwlock_lock_acquire rfl]
        simp [F_rwlock_lock_acquire, callR, reachC, cut, rg2, rg3, rg4, rg5, List.idxOf_cons, sub, setAll, back, overlay, take_map_len, endH, hQr, r1, Nat.not_succ_le_self, W.row, take_snoc_map]
        all_goals exact h1 rfl
      · obtain rfl := h2 rfl
        simp [F_rwlock_Apply, hC, ev_isTask, hb, hF, callD, hCh, hH, callR, hFr, hWr, reachC, cut, rg2, rg3, rg4, rg5, List.idxOf_cons, sub, setAll, back, overlay, take_map_len, endH]
        rw [ev_call P_rwlock_lock_acquire rfl]
        simp [F_rwlock_lock_acquire, callR, reachC, cut, rg2, rg3, rg4, rg5, List.idxOf_cons, sub, setAll, back, overlay, take_map_len, endH, hQr, r1, Nat.not_succ_le_self, W.row, take_snoc_map]
        all_goals exact h1 rfl
      · simp [F_rwlock_Apply, hC, ev_isTask, hb, hF, callD, hCh, hH, callR, hFr, hWr, reachC, cut, rg2, rg3, rg4, rg5, List.idxOf_cons, sub, setAll, back, overlay, take_map_len, endH]
        rw [ev_call P_rwlock_lock_acquire rfl]
        simp [F_rwlock_lock_acquire, callR, reachC, cut, rg2, rg3, rg4, rg5, List.idxOf_cons, sub, setAll, back, overlay, take_map_len, endH, hQr, r1, Nat.not_succ_le_self, W.row, take_snoc_map]
        all_goals exact h1 rfl
      · obtain rfl := h2 rfl
        simp [F_rwlock_Apply, hC, ev_isTask, hb, hF, callD, hCh, hH, callR, hFr, hWr, reachC, cut, rg2, rg3, rg4, rg5, List.idxOf_cons, sub, setAll, back, overlay, take_map_len, endH]
        rw [ev_call P_rwlock_lock_acquire rfl]
        simp [F_rwlock_lock_acquire, callR, reachC, cut, rg2, rg3, rg4, rg5, List.idxOf_cons, sub, setAll, back, overlay, take_map_len, endH, hQr, r1, Nat.not_succ_le_self, W.row, take_snoc_map]
        all_goals exact h1 rfl

/-- taking the lock, or waiting for it -/
theorem ev_applyLw (o2 : D) (bn cn : Bool) (own : Int) (hn : Bool) (H : List Int) (qn : Bool) (Q : List W) (t o v p n : Int) (h1 : hn = true → H = []) (h2 : qn = true → Q = []) (h3 : H.length ≤ 1000) (h4 : Q.length ≤ 1000) (hA : Asc H)
    (hC : ev P (.call rwlock_Check [.d o2, .d (stD (zZ bn cn) own hn H qn Q)] []) = some (.val (.d (I' 0)) [])) (ho2 : ∃ a b c d, o2 = .ag [a, b, c, d])
    (hb : badC t p n = false) (hq : (Q.any fun w => w.task == t) = false) (ho : o = 55) (hh : hld own H t = 0) :
    Rets (ev P (.call rwlock_Apply [.d o2, .d (stD (zZ bn cn) own hn H qn Q), .d (.ag [I' t, I' o, I' v, I' p, I' n])] [])) (lockS own H Q t o p) := by
  obtain ⟨a, b, c, d, rfl⟩ := ho2
  have hF := ev_wFind qn Q t (by omega)
  have hCh := ev_changed (zZ bn cn) own hn H qn Q h1 h2 (by omega) (by omega)
  have hH := ev_holds own (I' 0) (I' 0) (qD qn Q) (hD bn []) (cD cn []) (.b false) (I' 0) hn H t (by omega)
  have hFr := ev_free0 (zZ bn cn) own hn H qn Q h1 h2
  have hWr := ev_writes0 (zZ bn cn) own hn H qn Q
  rw [fd_any, hq] at hF
  rw [hh] at hH
  generalize (fdS Q t).1 = fi at *
  unfold badC at hb
  have hQr : Q.length + 1 ≤ room := by unfold room; omega
  have r1 : 1 ≤ room := by decide
  subst ho
  by_cases hp : own = -1 ∧ H = []
  · have hL : lockS own H Q t 55 p = ⟨t, H, Q, false, true, [], 0⟩ := by simp [lockS, posB, hp]
    rw [hL]
    obtain ⟨rfl, rfl⟩ := hp
    have hG := ev_grantW0 (zZ bn cn) (-1) t hn [] qn Q
    refine ⟨bn, cn, hn, qn, true, ?_, by simp, h2⟩
    simp only [zZ] at *
    rw [ev_call P_rwlock_Apply rfl]
    cases hn <;> cases qn <;> simp [heap0, lkD, heap3, heapG, lk, hS, qS, hV, hO, hX, qV, qO, kV, kO] at hCh hFr hWr hG
    · simp [F_rwlock_Apply, hC, ev_isTask, hb, hF, callD, hCh, hH, callR, hFr, hWr, reachC, cut, rg2, rg3, rg4, rg5, List.idxOf_cons, sub, setAll, back, overlay, take_map_len, endH]
      rw [ev_call P_rwlock_lock_acquire rfl]
      simp [F_rwlock_lock_acquire, callR, hG, reachC, cut, rg2, rg3, rg4, rg5, List.idxOf_cons, sub, setAll, back, overlay, take_map_len, endH]
      rw [ev_call P_rwlock_lock_reply rfl]
      simp [F_rwlock_lock_reply, callR, reachC, cut, rg2, rg3, rg4, rg5, List.idxOf_cons, sub, setAll, back, overlay, take_map_len, endH]
    · obtain rfl := h2 rfl
      simp [F_rwlock_Apply, hC, ev_isTask, hb, hF, callD, hCh, hH, callR, hFr, hWr, reachC, cut, rg2, rg3, rg4, rg5, List.idxOf_cons, sub, setAll, back, overlay, take_map_len, endH]
      rw [ev_call P_rwlock_lock_acquire rfl]
      simp [F_rwlock_lock_acquire, callR, hG, reachC, cut, rg2, rg3, rg4, rg5, List.idxOf_cons, sub, setAll, back, overlay, take_map_len, endH]
      rw [ev_call P_rwlock_lock_reply rfl]
      simp [F_rwlock_lock_reply, callR, reachC, cut, rg2, rg3, rg4, rg5, List.idxOf_cons, sub, setAll, back, overlay, take_map_len, endH]
    · simp [F_rwlock_Apply, hC, ev_isTask, hb, hF, callD, hCh, hH, callR, hFr, hWr, reachC, cut, rg2, rg3, rg4, rg5, List.idxOf_cons, sub, setAll, back, overlay, take_map_len, endH]
      rw [ev_call P_rwlock_lock_acquire rfl]
      simp [F_rwlock_lock_acquire, callR, hG, reachC, cut, rg2, rg3, rg4, rg5, List.idxOf_cons, sub, setAll, back, overlay, take_map_len, endH]
      rw [ev_call P_rwlock_lock_reply rfl]
      simp [F_rwlock_lock_reply, callR, reachC, cut, rg2, rg3, rg4, rg5, List.idxOf_cons, sub, setAll, back, overlay, take_map_len, endH]
    · obtain rfl := h2 rfl
      simp [F_rwlock_Apply, hC, ev_isTask, hb, hF, callD, hCh, hH, callR, hFr, hWr, reachC, cut, rg2, rg3, rg4, rg5, List.idxOf_cons, sub, setAll, back, overlay, take_map_len, endH]
      rw [ev_call P_rwlock_lock_acquire rfl]
      simp [F_rwlock_lock_acquire, callR, hG, reachC, cut, rg2, rg3, rg4, rg5, List.idxOf_cons, sub, setAll, back, overlay, take_map_len, endH]
      rw [ev_call P_rwlock_lock_reply rfl]
      simp [F_rwlock_lock_reply, callR, reachC, cut, rg2, rg3, rg4, rg5, List.idxOf_cons, sub, setAll, back, overlay, take_map_len, endH]
  · have hL : lockS own H Q t 55 p = ⟨own, H, Q ++ [⟨t, 55, 0, p, -1⟩], true, false, [], 0⟩ := by
      have : posB own H Q 55 = false := by
        unfold posB
        cases h : (own == -1 && H.isEmpty)
        · simp [h]
        · exact absurd (by simpa using h) hp
      simp [lockS, this]
    rw [hL]
    have hfb : (own == -1 && (H.length : Int) == 0) = false := by
      cases h : (own == -1 && (H.length : Int) == 0)
      · rfl
      · exact absurd (by simpa using h) hp
    refine ⟨bn, cn, hn, false, true, ?_, h1, by simp⟩
    simp only [zZ] at *
    rw [hfb] at hFr
    rw [ev_call P_rwlock_Apply rfl]
    cases hn <;> cases qn <;> simp [heap0, lkD, heap3, lk, hS, qS, hV, hO, qV, qO, kV, kO] at hCh hFr hWr
    · simp [F_rwlock_Apply, hC, ev_isTask, hb, hF, callD, hCh, hH, callR, hFr, hWr, reachC, cut, rg2, rg3, rg4, rg5, List.idxOf_cons, sub, setAll, back, overlay, take_map_len, endH]
      rw [ev_call P_rwlock_lock_acquire rfl]
      simp [F_rwlock_lock_acquire, callR, reachC, cut, rg2, rg3, rg4, rg5, List.idxOf_cons, sub, setAll, back, overlay, take_map_len, endH, hQr, r1, Nat.not_succ_le_self, W.row, take_snoc_map]
      all_goals exact h1 rfl
    · obtain rfl := h2 rfl
      simp [F_rwlock_Apply, hC, ev_isTask, hb, hF, callD, hCh, hH, callR, hFr, hWr, reachC, cut, rg2, rg3, rg4, rg5, List.idxOf_cons, sub, setAll, back, overlay, take_map_len, endH]
      rw [ev_call P_rwlock_lock_acquire rfl]
      simp [F_rwlock_lock_acquire, callR, reachC, cut, rg2, rg3, rg4, rg5, List.idxOf_cons, sub, setAll, back, overlay, take_map_len, endH, hQr, r1, Nat.not_succ_le_self, W.row, take_snoc_map]
      all_goals exact h1 rfl
    · simp [F_rwlock_Apply, hC, ev_isTask, hb, hF, callD, hCh, hH, callR, hFr, hWr, reachC, cut, rg2, rg3, rg4, rg5, List.idxOf_cons, sub, setAll, back, overlay, take_map_len, endH]
      rw [ev_call P_rwlock_lock_acquire rfl]
      simp [F_rwlock_lock_acquire, callR, reachC, cut, rg2, rg3, rg4, rg5, List.idxOf_cons, sub, setAll, back, overlay, take_map_len, endH, hQr, r1, Nat.not_succ_le_self, W.row, take_snoc_map]
      all_goals exact h1 rfl
    · obtain rfl := h2 rfl
      simp [F_rwlock_Apply, hC, ev_isTask, hb, hF, callD, hCh, hH, callR, hFr, hWr, reachC, cut, rg2, rg3, rg4, rg5, List.idxOf_cons, sub, setAll, back, overlay, take_map_len, endH]
      rw [ev_call P_rwlock_lock_acquire rfl]
      simp [F_rwlock_lock_acquire, callR, reachC, cut, rg2, rg3, rg4, rg5, List.idxOf_cons, sub, setAll, back, overlay, take_map_len, endH, hQr, r1, Nat.not_succ_le_self, W.row, take_snoc_map]
      all_goals exact h1 rfl

theorem ev_applyL (o2 : D) (bn cn : Bool) (own : Int) (hn : Bool) (H : List Int) (qn : Bool) (Q : List W) (t o v p n : Int) (h1 : hn = true → H = []) (h2 : qn = true → Q = []) (h3 : H.length ≤ 1000) (h4 : Q.length ≤ 1000) (hA : Asc H)
    (hC : ev P (.call rwlock_Check [.d o2, .d (stD (zZ bn cn) own hn H qn Q)] []) = some (.val (.d (I' 0)) [])) (ho2 : ∃ a b c d, o2 = .ag [a, b, c, d])
    (hb : badC t p n = false) (hq : (Q.any fun w => w.task == t) = false) (ho : o = 53 ∨ o = 55) (hh : hld own H t = 0) :
    Rets (ev P (.call rwlock_Apply [.d o2, .d (stD (zZ bn cn) own hn H qn Q), .d (.ag [I' t, I' o, I' v, I' p, I' n])] [])) (lockS own H Q t o p) := by
  rcases ho with ho | ho
  · exact ev_applyLr o2 bn cn own hn H qn Q t o v p n h1 h2 h3 h4 hA hC ho2 hb hq ho hh
  · exact ev_applyLw o2 bn cn own hn H qn Q t o v p n h1 h2 h3 h4 hA hC ho2 hb hq ho hh
end Go.VS.R
namespace Go.VS.R
theorem srvM_cons (own : Int) (H : List Int) (w : W) (r : List W) : srvM own H (w :: r) =
    if own ≠ -1 ∨ (w.op = 55 ∧ H ≠ []) then (own, H, w :: r, [])
    else if w.op = 55 then (w.task, H, r, [w])
    else (own, insA (insI w.task H) (r.takeWhile fun w => w.op != 55), r.dropWhile fun w => w.op != 55, w :: r.takeWhile fun w => w.op != 55) := rfl
theorem ev_serveM (z : Z) (own : Int) (Hs) (l : List Int) (Qs) (Q : List W) (hH : hL Hs l) (hQ : (∃ nl, Qs = .inl nl ∧ Q = []) ∨ Qs = .inr (Q.map W.row, 0, Q.length)) (hA : Asc l) (h1 : l.length ≤ 1000) (h2 : Q.length ≤ 1000) (ht : ∀ w, w ∈ Q → w.task ≠ -1) :
    (srvM own l Q = (own, l, Q, []) ∧ ev P (.call rwlock_lock_serve [.loc 0 0 0] (heap3 z own Hs Qs none)) = some (.val (.tu []) (heap3 z own Hs Qs none))) ∨
    (∃ w r, Q = w :: r ∧ Qs = .inr (Q.map W.row, 0, Q.length) ∧ own = -1 ∧ l = [] ∧ srvM own l Q = (w.task, l, r, [w]) ∧
      ev P (.call rwlock_lock_serve [.loc 0 0 0] (heap3 z own Hs Qs none)) = some (.val (.tu []) (heapW z w.task Hs ((w :: r).map W.row) r (wk w)))) ∨
    (∃ w r tk dk l', Q = w :: r ∧ Qs = .inr (Q.map W.row, 0, Q.length) ∧ own = -1 ∧ r = tk ++ dk ∧ srvM own l Q = (own, l', dk, w :: tk) ∧ l' ≠ [] ∧
      ev P (.call rwlock_lock_serve [.loc 0 0 0] (heap3 z own Hs Qs none)) = some (.val (.tu []) (heapL z (-1) (hX Hs) ((w :: r).map W.row) (1 + tk.length) dk l' (wk w :: tk.map wk)))) := by
  have hlen0 : hlen Hs = l.length := by
    rcases Hs with _ | ⟨R, n⟩
    · obtain rfl : l = [] := hH
      rfl
    · exact hH.1
  rcases hQ with ⟨nl, rfl, rfl⟩ | rfl
  · exact .inl ⟨rfl, ev_serve0 z own Hs nl⟩
  · cases Q with
    | nil => exact .inl ⟨rfl, ev_serve00 z own Hs []⟩
    | cons w r =>
      by_cases hs : own ≠ -1 ∨ (w.op = 55 ∧ hlen Hs ≠ 0)
      · refine .inl ⟨?_, ev_serve1 z own Hs w r hs⟩
        rw [srvM_cons]
        rw [if_pos]
        rcases hs with hs | ⟨hs1, hs2⟩
        · exact .inl hs
        · exact .inr ⟨hs1, fun h => by rw [hlen0, h] at hs2; exact hs2 rfl⟩
      · have ho : own = -1 := Classical.byContradiction fun h => hs (.inl h)
        subst ho
        have hs' : ¬ ((-1 : Int) ≠ -1 ∨ (w.op = 55 ∧ l ≠ [])) := by
          intro h
          rcases h with h | ⟨h1, h2⟩
          · exact h rfl
          · apply hs
            refine .inr ⟨h1, ?_⟩
            rw [hlen0]
            intro h
            exact h2 (List.length_eq_zero_iff.1 h)
        by_cases h55 : w.op = 55
        · have hh0 : hlen Hs = 0 := Classical.byContradiction fun h => hs (.inr ⟨h55, h⟩)
          have hl0 : l = [] := by rw [hlen0] at hh0; exact List.length_eq_zero_iff.1 hh0
          refine .inr (.inl ⟨w, r, rfl, rfl, rfl, hl0, ?_, ev_serve2 z Hs w r h55 hh0 (ht w (by simp))⟩)
          rw [srvM_cons]
          rw [if_neg hs', if_pos h55]
        · refine .inr (.inr ⟨w, r, r.takeWhile fun w => w.op != 55, r.dropWhile fun w => w.op != 55, insA (insI w.task l) (r.takeWhile fun w => w.op != 55), rfl, rfl, rfl, (List.takeWhile_append_dropWhile).symm, ?_, ?_, ev_serve3 z Hs l w r h55 hH hA h1 (by simp at h2; omega)⟩)
          · rw [srvM_cons]
            rw [if_neg hs', if_neg h55]
          · have : ∀ (q : List W) (m : List Int), m ≠ [] → insA m q ≠ [] := by
              intro q
              induction q with
              | nil => intro m hm; exact hm
              | cons a q ih =>
                intro m hm
                refine ih _ ?_
                intro h
                have h' : insI a.task m = [] := h
                have := insI_len a.task m
                rw [h'] at this
                simp at this
            refine this _ _ ?_
            intro h
            have := insI_len w.task l
            rw [h] at this
            simp at this
theorem le11 (k : Nat) : 1 + (k + 1) ≤ k + 1 + 1 := by omega
theorem getK {w : W} {tk dk : List W} : (((w :: (tk ++ dk)).map W.row).drop (1 + tk.length)).take dk.length = dk.map W.row ∧ 1 + tk.length + dk.length ≤ ((w :: (tk ++ dk)).map W.row).length := by
  have : (w :: (tk ++ dk)).map W.row = (w :: tk).map W.row ++ dk.map W.row := by simp
  rw [this]
  constructor
  · rw [List.drop_left' (by simp; omega)]
    exact List.take_of_length_le (by simp)
  · simp; omega
/-- a reader lets go -/
theorem ev_applyU (o2 : D) (bn cn : Bool) (own : Int) (H : List Int) (qn : Bool) (Q : List W) (t v p n : Int) (h2 : qn = true → Q = []) (h3 : H.length ≤ 1000) (h4 : Q.length ≤ 1000) (hA : Asc H) (ht : ∀ w, w ∈ Q → w.task ≠ -1)
    (hC : ev P (.call rwlock_Check [.d o2, .d (stD (zZ bn cn) own false H qn Q)] []) = some (.val (.d (I' 0)) [])) (ho2 : ∃ a b c d, o2 = .ag [a, b, c, d])
    (hb : badC t p n = false) (hq : (Q.any fun w => w.task == t) = false) (hh : hld own H t = 1) :
    Rets (ev P (.call rwlock_Apply [.d o2, .d (stD (zZ bn cn) own false H qn Q), .d (.ag [I' t, I' 54, I' v, I' p, I' n])] [])) (let x := srvM own (H.filter fun x => x != t) Q; ⟨x.1, x.2.1, x.2.2.1, false, true, x.2.2.2, 0⟩) := by
  obtain ⟨a, b, c, d, rfl⟩ := ho2
  have hF := ev_wFind qn Q t (by omega)
  have hCh := ev_changed (zZ bn cn) own false H qn Q (by simp) h2 (by omega) (by omega)
  have hH := ev_holds own (I' 0) (I' 0) (qD qn Q) (hD bn []) (cD cn []) (.b false) (I' 0) false H t (by omega)
  rw [fd_any, hq] at hF
  rw [hh] at hH
  generalize (fdS Q t).1 = fi at *
  unfold badC at hb
  obtain ⟨R', k1, k2, hDF⟩ := ev_DF (f := rwlock_ApplyC1) (first := []) (caps := [.ref [I' t, I' 54, I' v, I' p, I' n]]) (p := fun x => x == t) H (by omega) (fun x => ev_ApplyC1 t 54 v p n x)
  have hff : (H.filter fun w => !(w == t)) = H.filter fun x => x != t := rfl
  rw [hff] at k1 k2 hDF
  have hfl : (H.filter fun x => x != t).length ≤ H.length := List.length_filter_le _ _
  have hAf : Asc (H.filter fun x => x != t) := hA.sublist List.filter_sublist
  have hrr : H.map row1 = rows1 H := rfl
  rw [hrr] at hDF
  have hrr2 : (H.filter fun x => x != t).map row1 = rows1 (H.filter fun x => x != t) := rfl
  rw [hrr2] at k2
  generalize (H.filter fun x => x != t) = F at *
  have hSv := ev_serveM (zZ bn cn) own (some (R', F.length)) F (qS qn Q) Q ⟨rfl, k1, k2⟩ (by cases qn; exact .inr rfl; exact .inl ⟨true, rfl, h2 rfl⟩) hAf (by omega) h4 ht
  rcases hSv with ⟨e, hSv⟩ | ⟨w, r, rfl, hQs, rfl, rfl, e, hSv⟩ | ⟨w, r, tk, dk, l', rfl, hQs, rfl, rfl, e, hl0, hSv⟩
  · rw [e]
    refine ⟨bn, cn, false, qn, true, ?_, by simp, h2⟩
    simp only [zZ] at *
    rw [ev_call P_rwlock_Apply rfl]
    cases qn <;> simp [heap0, heap3, heapW, heapL, lk, hS, qS, hV, hO, hX, qV, qO, kV, kO, qcV] at hCh hSv
    · simp [F_rwlock_Apply, hC, ev_isTask, hb, hF, callD, hCh, hH, callR, hDF, hSv, reachC, cut, rg2, rg3, rg4, rg5, List.idxOf_cons, sub, setAll, back, overlay, take_map_len, endH]
      rw [ev_call P_rwlock_lock_reply rfl]
      simp [F_rwlock_lock_reply, callR, k1, k2, reachC, cut, rg2, rg3, rg4, rg5, List.idxOf_cons, sub, setAll, back, overlay, take_map_len, endH]
    · obtain rfl := h2 rfl
      simp [F_rwlock_Apply, hC, ev_isTask, hb, hF, callD, hCh, hH, callR, hDF, hSv, reachC, cut, rg2, rg3, rg4, rg5, List.idxOf_cons, sub, setAll, back, overlay, take_map_len, endH]
      rw [ev_call P_rwlock_lock_reply rfl]
      simp [F_rwlock_lock_reply, callR, k1, k2, reachC, cut, rg2, rg3, rg4, rg5, List.idxOf_cons, sub, setAll, back, overlay, take_map_len, endH]
  · rw [e]
    have hqn : qn = false := by cases qn; rfl; exact absurd (h2 rfl) (by simp)
    subst hqn
    refine ⟨bn, cn, false, false, false, ?_, by simp, by simp⟩
    simp only [zZ] at *
    rw [ev_call P_rwlock_Apply rfl]
    cases r <;> simp [heap0, heap3, heapW, heapL, lk, hS, qS, hV, hO, hX, qV, qO, kV, kO, qcV] at hCh hSv <;>
    · simp [F_rwlock_Apply, hC, ev_isTask, hb, hF, callD, hCh, hH, callR, hDF, hSv, reachC, cut, rg2, rg3, rg4, rg5, List.idxOf_cons, sub, setAll, back, overlay, take_map_len, endH]
      rw [ev_call P_rwlock_lock_reply rfl]
      simp [F_rwlock_lock_reply, callR, k1, k2, le11, reachC, cut, rg2, rg3, rg4, rg5, List.idxOf_cons, sub, setAll, back, overlay, take_map_len, endH]
  · rw [e]
    have hqn : qn = false := by cases qn; rfl; exact absurd (h2 rfl) (by simp)
    subst hqn
    obtain ⟨g1, g2⟩ := getK (w := w) (tk := tk) (dk := dk)
    refine ⟨bn, cn, false, false, false, ?_, by simp, by simp⟩
    simp only [zZ] at *
    rw [ev_call P_rwlock_Apply rfl]
    generalize hq0 : w :: (tk ++ dk) = QQ at *
    generalize hSS : QQ.map W.row = S at *
    cases dk <;> simp [heap0, heap3, heapW, heapL, lk, hS, qS, hV, hO, hX, qV, qO, kV, kO, qcV] at hCh hSv g1 g2 <;>
    · simp [F_rwlock_Apply, hC, ev_isTask, hb, hF, callD, hCh, hH, callR, hDF, hSv, reachC, cut, rg2, rg3, rg4, rg5, List.idxOf_cons, sub, setAll, back, overlay, take_map_len, endH]
      rw [ev_call P_rwlock_lock_reply rfl]
      simp [F_rwlock_lock_reply, callR, k1, k2, g1, g2, reachC, cut, rg2, rg3, rg4, rg5, List.idxOf_cons, sub, setAll, back, overlay, take_map_len, endH]
end Go.VS.R
namespace Go.VS.R
/-- the writer lets go -/
theorem ev_applyV (o2 : D) (bn cn : Bool) (own : Int) (hn : Bool) (qn : Bool) (Q : List W) (t v p n : Int) (h2 : qn = true → Q = []) (h4 : Q.length ≤ 1000) (ht : ∀ w, w ∈ Q → w.task ≠ -1)
    (hC : ev P (.call rwlock_Check [.d o2, .d (stD (zZ bn cn) own hn [] qn Q)] []) = some (.val (.d (I' 0)) [])) (ho2 : ∃ a b c d, o2 = .ag [a, b, c, d])
    (hb : badC t p n = false) (hq : (Q.any fun w => w.task == t) = false) (hh : hld own [] t = 2) :
    Rets (ev P (.call rwlock_Apply [.d o2, .d (stD (zZ bn cn) own hn [] qn Q), .d (.ag [I' t, I' 56, I' v, I' p, I' n])] [])) (let x := srvM (-1) [] Q; ⟨x.1, x.2.1, x.2.2.1, false, true, x.2.2.2, 0⟩) := by
  obtain ⟨a, b, c, d, rfl⟩ := ho2
  have hF := ev_wFind qn Q t (by omega)
  have hCh := ev_changed (zZ bn cn) own hn [] qn Q (by simp) h2 (by simp) (by omega)
  have hH := ev_holds own (I' 0) (I' 0) (qD qn Q) (hD bn []) (cD cn []) (.b false) (I' 0) hn [] t (by simp)
  rw [fd_any, hq] at hF
  rw [hh] at hH
  generalize (fdS Q t).1 = fi at *
  unfold badC at hb
  by_cases hnn : (hn && qn) = true
  · have e1 : hn = true := by simp at hnn; exact hnn.1
    have e2 : qn = true := by simp at hnn; exact hnn.2
    subst e1; subst e2
    obtain rfl := h2 rfl
    have hSv := ev_serveD (zZ bn cn) (-1)
    refine ⟨bn, cn, true, true, true, ?_, by simp [srvM], by simp [srvM]⟩
    simp only [zZ] at *
    rw [ev_call P_rwlock_Apply rfl]
    simp [heap0, lkD] at hCh hSv
    simp [F_rwlock_Apply, hC, ev_isTask, hb, hF, callD, hCh, hH, callR, hSv, reachC, cut, rg2, rg3, rg4, rg5, List.idxOf_cons, sub, setAll, back, overlay, take_map_len, endH]
    rw [ev_call P_rwlock_lock_reply rfl]
    simp [F_rwlock_lock_reply, callR, srvM, reachC, cut, rg2, rg3, rg4, rg5, List.idxOf_cons, sub, setAll, back, overlay, take_map_len, endH]
  · have hh0 : heap0 (zZ bn cn) own hn [] qn Q = heap3 (zZ bn cn) own (hS hn []) (qS qn Q) none := by unfold heap0; rw [if_neg hnn]
    rw [hh0] at hCh
    have hSv := ev_serveM (zZ bn cn) (-1) (hS hn []) [] (qS qn Q) Q (hL_hS (by simp)) (by cases qn; exact .inr rfl; exact .inl ⟨true, rfl, h2 rfl⟩) List.Pairwise.nil (by simp) h4 ht
    rcases hSv with ⟨e, hSv⟩ | ⟨w, r, rfl, hQs, _, _, e, hSv⟩ | ⟨w, r, tk, dk, l', rfl, hQs, _, rfl, e, hl0, hSv⟩
    · rw [e]
      refine ⟨bn, cn, hn, qn, true, ?_, by simp, h2⟩
      simp only [zZ] at *
      rw [ev_call P_rwlock_Apply rfl]
      cases hn <;> cases qn <;> simp [heap3, heapW, heapL, lk, hS, qS, hV, hO, hX, qV, qO, kV, kO, qcV] at hCh hSv
      · simp [F_rwlock_Apply, hC, ev_isTask, hb, hF, callD, hCh, hH, callR, hSv, reachC, cut, rg2, rg3, rg4, rg5, List.idxOf_cons, sub, setAll, back, overlay, take_map_len, endH]
        rw [ev_call P_rwlock_lock_reply rfl]
        simp [F_rwlock_lock_reply, callR, reachC, cut, rg2, rg3, rg4, rg5, List.idxOf_cons, sub, setAll, back, overlay, take_map_len, endH]
      · obtain rfl := h2 rfl
        simp [F_rwlock_Apply, hC, ev_isTask, hb, hF, callD, hCh, hH, callR, hSv, reachC, cut, rg2, rg3, rg4, rg5, List.idxOf_cons, sub, setAll, back, overlay, take_map_len, endH]
        rw [ev_call P_rwlock_lock_reply rfl]
        simp [F_rwlock_lock_reply, callR, reachC, cut, rg2, rg3, rg4, rg5, List.idxOf_cons, sub, setAll, back, overlay, take_map_len, endH]
      · simp [F_rwlock_Apply, hC, ev_isTask, hb, hF, callD, hCh, hH, callR, hSv, reachC, cut, rg2, rg3, rg4, rg5, List.idxOf_cons, sub, setAll, back, overlay, take_map_len, endH]
        rw [ev_call P_rwlock_lock_reply rfl]
        simp [F_rwlock_lock_reply, callR, reachC, cut, rg2, rg3, rg4, rg5, List.idxOf_cons, sub, setAll, back, overlay, take_map_len, endH]
      · simp at hnn
    · rw [e]
      have hqn : qn = false := by cases qn; rfl; exact absurd (h2 rfl) (by simp)
      subst hqn
      refine ⟨bn, cn, hn, false, false, ?_, by simp, by simp⟩
      simp only [zZ] at *
      rw [ev_call P_rwlock_Apply rfl]
      cases hn <;> cases r <;> simp [heap3, heapW, heapL, lk, hS, qS, hV, hO, hX, qV, qO, kV, kO, qcV] at hCh hSv <;>
      · simp [F_rwlock_Apply, hC, ev_isTask, hb, hF, callD, hCh, hH, callR, hSv, reachC, cut, rg2, rg3, rg4, rg5, List.idxOf_cons, sub, setAll, back, overlay, take_map_len, endH]
        rw [ev_call P_rwlock_lock_reply rfl]
        simp [F_rwlock_lock_reply, callR, le11, reachC, cut, rg2, rg3, rg4, rg5, List.idxOf_cons, sub, setAll, back, overlay, take_map_len, endH]
    · rw [e]
      have hqn : qn = false := by cases qn; rfl; exact absurd (h2 rfl) (by simp)
      subst hqn
      obtain ⟨g1, g2⟩ := getK (w := w) (tk := tk) (dk := dk)
      refine ⟨bn, cn, false, false, false, ?_, by simp, by simp⟩
      simp only [zZ] at *
      rw [ev_call P_rwlock_Apply rfl]
      generalize hq0 : w :: (tk ++ dk) = QQ at *
      generalize hSS : QQ.map W.row = S at *
      cases hn <;> cases dk <;> simp [heap3, heapW, heapL, lk, hS, qS, hV, hO, hX, qV, qO, kV, kO, qcV] at hCh hSv g1 g2 <;>
      · simp [F_rwlock_Apply, hC, ev_isTask, hb, hF, callD, hCh, hH, callR, hSv, reachC, cut, rg2, rg3, rg4, rg5, List.idxOf_cons, sub, setAll, back, overlay, take_map_len, endH]
        rw [ev_call P_rwlock_lock_reply rfl]
        simp [F_rwlock_lock_reply, callR, g1, g2, reachC, cut, rg2, rg3, rg4, rg5, List.idxOf_cons, sub, setAll, back, overlay, take_map_len, endH]
/-- one who waits goes away -/
def wdV (own : Int) (H : List Int) (Q : List W) (t : Int) : Rp :=
  if (Q.any fun w => w.task == t) = true then (let x := srvM own H (Q.filter fun w => w.task != t); ⟨x.1, x.2.1, x.2.2.1, false, false, x.2.2.2, 0⟩) else zr 7
theorem ev_withdraw0 (o2 : D) (bn cn : Bool) (own : Int) (hn : Bool) (H : List Int) (qn : Bool) (Q : List W) (t : Int) (h4 : Q.length ≤ 1000)
    (hC : ev P (.call rwlock_Check [.d o2, .d (stD (zZ bn cn) own hn H qn Q)] []) = some (.val (.d (I' 0)) [])) (ho2 : ∃ a b c d, o2 = .ag [a, b, c, d])
    (hq : (Q.any fun w => w.task == t) = false) :
    Rets (ev P (.call rwlock_Withdraw [.d o2, .d (stD (zZ bn cn) own hn H qn Q), .d (I' t)] [])) (wdV own H Q t) := by
  obtain ⟨a, b, c, d, rfl⟩ := ho2
  have hF := ev_wFind qn Q t (by omega)
  rw [fd_any, hq] at hF
  generalize (fdS Q t).1 = fi at *
  unfold wdV
  rw [hq, if_neg (by simp)]
  simp only [zZ] at *
  refine Rets.zero ?_
  rw [ev_call P_rwlock_Withdraw rfl]
  simp [F_rwlock_Withdraw, hC, hF, overlay]
theorem ev_withdraw1 (o2 : D) (bn cn : Bool) (own : Int) (hn : Bool) (H : List Int) (qn : Bool) (Q : List W) (t : Int) (h1 : hn = true → H = []) (h2 : qn = true → Q = []) (h3 : H.length ≤ 1000) (h4 : Q.length ≤ 1000) (hA : Asc H) (ht : ∀ w, w ∈ Q → w.task ≠ -1)
    (hC : ev P (.call rwlock_Check [.d o2, .d (stD (zZ bn cn) own hn H qn Q)] []) = some (.val (.d (I' 0)) [])) (ho2 : ∃ a b c d, o2 = .ag [a, b, c, d])
    (hq : (Q.any fun w => w.task == t) = true) :
    Rets (ev P (.call rwlock_Withdraw [.d o2, .d (stD (zZ bn cn) own hn H qn Q), .d (I' t)] [])) (wdV own H Q t) := by
  obtain ⟨a, b, c, d, rfl⟩ := ho2
  have hqn : qn = false := by cases qn; rfl; rw [h2 rfl] at hq; simp at hq
  subst hqn
  have hF := ev_wFind false Q t (by omega)
  have hCh := ev_changed (zZ bn cn) own hn H false Q h1 h2 (by omega) (by omega)
  have hRm := ev_RemoveR Q t (by omega)
  rw [fd_any, hq] at hF
  generalize (fdS Q t).1 = fi at *
  unfold wdV
  rw [hq, if_pos rfl]
  have hfl : (Q.filter fun w => w.task != t).length ≤ Q.length := List.length_filter_le _ _
  have htf : ∀ w, w ∈ (Q.filter fun w => w.task != t) → w.task ≠ -1 := fun w hw => ht w (List.mem_filter.1 hw).1
  generalize (Q.filter fun w => w.task != t) = F at *
  have hh0 : heap0 (zZ bn cn) own hn H false Q = heap3 (zZ bn cn) own (hS hn H) (qS false Q) none := by unfold heap0; rw [if_neg (by simp)]
  rw [hh0] at hCh
  cases F with
  | nil =>
    have hSv := ev_serve0 (zZ bn cn) own (hS hn H) true
    refine ⟨bn, cn, hn, true, true, ?_, by simp [srvM]; exact h1, by simp [srvM]⟩
    simp only [zZ] at *
    rw [ev_call P_rwlock_Withdraw rfl]
    cases hn <;> simp [heap3, heapW, heapL, lk, hS, qS, hV, hO, hX, qV, qO, kV, kO, qcV, bcV, bcH] at hCh hSv hRm
    · simp [F_rwlock_Withdraw, hC, hF, callD, hCh, callR, hRm, hSv, srvM, reachC, cut, rg2, rg3, rg4, rg5, List.idxOf_cons, sub, setAll, back, overlay, take_map_len, endH]
    · obtain rfl := h1 rfl
      simp [F_rwlock_Withdraw, hC, hF, callD, hCh, callR, hRm, hSv, srvM, reachC, cut, rg2, rg3, rg4, rg5, List.idxOf_cons, sub, setAll, back, overlay, take_map_len, endH]
  | cons f F' =>
    have hSv := ev_serveM (zZ bn cn) own (hS hn H) H (.inr ((f :: F').map W.row, 0, (f :: F').length)) (f :: F') (hL_hS h1) (.inr rfl) hA (by omega) (by omega) htf
    simp only [List.map_cons, bcV, bcH, List.length_cons, List.length_map] at hRm
    rcases hSv with ⟨e, hSv⟩ | ⟨w, r, hFF, hQs, rfl, rfl, e, hSv⟩ | ⟨w, r, tk, dk, l', hFF, hQs, rfl, rfl, e, hl0, hSv⟩
    · rw [e]
      refine ⟨bn, cn, hn, false, true, ?_, h1, by simp⟩
      simp only [zZ] at *
      rw [ev_call P_rwlock_Withdraw rfl]
      cases hn <;> simp [heap3, heapW, heapL, lk, hS, qS, hV, hO, hX, qV, qO, kV, kO, qcV] at hCh hSv
      · simp [F_rwlock_Withdraw, hC, hF, callD, hCh, callR, hRm, hSv, reachC, cut, rg2, rg3, rg4, rg5, List.idxOf_cons, sub, setAll, back, overlay, take_map_len, endH]
      · obtain rfl := h1 rfl
        simp [F_rwlock_Withdraw, hC, hF, callD, hCh, callR, hRm, hSv, reachC, cut, rg2, rg3, rg4, rg5, List.idxOf_cons, sub, setAll, back, overlay, take_map_len, endH]
    · rw [e]
      obtain ⟨rfl, rfl⟩ : f = w ∧ F' = r := by simpa using hFF
      refine ⟨bn, cn, hn, false, false, ?_, by simp, by simp⟩
      simp only [zZ] at *
      rw [ev_call P_rwlock_Withdraw rfl]
      cases hn <;> cases F' <;> simp [heap3, heapW, heapL, lk, hS, qS, hV, hO, hX, qV, qO, kV, kO, qcV] at hCh hSv hRm <;>
      simp [F_rwlock_Withdraw, hC, hF, callD, hCh, callR, hRm, hSv, le11, reachC, cut, rg2, rg3, rg4, rg5, List.idxOf_cons, sub, setAll, back, overlay, take_map_len, endH]
    · rw [e]
      obtain ⟨g1, g2⟩ := getK (w := w) (tk := tk) (dk := dk)
      rw [← hFF] at g1 g2 hSv
      refine ⟨bn, cn, false, false, false, ?_, by simp, by simp⟩
      simp only [zZ] at *
      rw [ev_call P_rwlock_Withdraw rfl]
      have hRow : W.row f :: F'.map W.row = (f :: F').map W.row := rfl
      have hLn : F'.length + 1 = (f :: F').length := rfl
      rw [hRow, hLn] at hRm
      generalize f :: F' = QQ at *
      generalize hSS : QQ.map W.row = S at *
      cases hn <;> cases dk <;> simp [heap3, heapW, heapL, lk, hS, qS, hV, hO, hX, qV, qO, kV, kO, qcV] at hCh hSv g1 g2 <;>
      simp [F_rwlock_Withdraw, hC, hF, callD, hCh, callR, hRm, hSv, g1, g2, reachC, cut, rg2, rg3, rg4, rg5, List.idxOf_cons, sub, setAll, back, overlay, take_map_len, endH]
theorem ev_withdraw (o2 : D) (bn cn : Bool) (own : Int) (hn : Bool) (H : List Int) (qn : Bool) (Q : List W) (t : Int) (h1 : hn = true → H = []) (h2 : qn = true → Q = []) (h3 : H.length ≤ 1000) (h4 : Q.length ≤ 1000) (hA : Asc H) (ht : ∀ w, w ∈ Q → w.task ≠ -1)
    (hC : ev P (.call rwlock_Check [.d o2, .d (stD (zZ bn cn) own hn H qn Q)] []) = some (.val (.d (I' 0)) [])) (ho2 : ∃ a b c d, o2 = .ag [a, b, c, d]) :
    Rets (ev P (.call rwlock_Withdraw [.d o2, .d (stD (zZ bn cn) own hn H qn Q), .d (I' t)] [])) (wdV own H Q t) := by
  cases hq : Q.any fun w => w.task == t
  · exact ev_withdraw0 o2 bn cn own hn H qn Q t h4 hC ho2 hq
  · exact ev_withdraw1 o2 bn cn own hn H qn Q t h1 h2 h3 h4 hA ht hC ho2 hq
end Go.VS.R
namespace Go.VS.R
/-! the plain law: the two ways to serve agree -/
theorem mem_insI {t x : Int} {l : List Int} : x ∈ insI t l ↔ x = t ∨ x ∈ l := by
  unfold insI
  rw [List.mem_append, List.mem_cons]
  have : x ∈ l ↔ x ∈ l.take (bI t l) ∨ x ∈ l.drop (bI t l) := by
    rw [← List.mem_append, List.take_append_drop]
  rw [this]
  constructor
  · rintro (h | h | h)
    · exact .inr (.inl h)
    · exact .inl h
    · exact .inr (.inr h)
  · rintro (h | h | h)
    · exact .inr (.inl h)
    · exact .inl h
    · exact .inr (.inr h)
/-- the queue of a valid state -/
structure QOK (own : Int) (H : List Int) (Q : List W) : Prop where
  op : ∀ w, w ∈ Q → w.op = 53 ∨ w.op = 55
  pos : ∀ w, w ∈ Q → 0 ≤ w.task
  nin : ∀ w, w ∈ Q → w.task ∉ H
  dis : Q.Pairwise fun a b => a.task ≠ b.task
theorem QOK.sub {own own' : Int} {H H' : List Int} {Q Q' : List W} (h : QOK own H Q) (hs : Q'.Sublist Q) (hH : ∀ x, x ∈ H' → x ∈ H) : QOK own' H' Q' :=
  ⟨fun w hw => h.op w (hs.mem hw), fun w hw => h.pos w (hs.mem hw), fun w hw hx => h.nin w (hs.mem hw) (hH _ hx), h.dis.sublist hs⟩
theorem QOK.tail {own : Int} {H : List Int} {w : W} {r : List W} (h : QOK own H (w :: r)) : QOK own H r := h.sub (List.sublist_cons_self _ _) fun _ h => h
theorem QOK.ins {own : Int} {H : List Int} {w : W} {r : List W} (h : QOK own H (w :: r)) : QOK own (insI w.task H) r :=
  ⟨h.tail.op, h.tail.pos, fun x hx hm => by
    rcases mem_insI.1 hm with e | hm
    · exact (List.pairwise_cons.1 h.dis).1 x hx e.symm
    · exact h.tail.nin x hx hm, h.tail.dis⟩
theorem srv_rd : ∀ {r : List W} {H : List Int}, Asc H → H ≠ [] → QOK (-1) H r → srv (-1) H r = (-1, insA H (r.takeWhile fun w => w.op != 55), r.dropWhile fun w => w.op != 55, r.takeWhile fun w => w.op != 55)
  | [], H, _, _, _ => rfl
  | w :: r, H, hA, hH, hq => by
    rcases hq.op w (by simp) with ho | ho
    · have hv : vainB (-1) H (w :: r) = true := by simp [vainB, ho]
      have e : srv (-1) H (w :: r) = ((srv (-1) (withF w.task false H) r).1, (srv (-1) (withF w.task false H) r).2.1, (srv (-1) (withF w.task false H) r).2.2.1, w :: (srv (-1) (withF w.task false H) r).2.2.2) := by simp [srv, hv, ho]
      have hne : insI w.task H ≠ [] := by
        intro h
        have := insI_len w.task H
        rw [h] at this; simp at this
      rw [e, with_ins w.task hA (hq.nin w (by simp)), srv_rd (asc_ins hA) hne hq.ins]
      simp [List.takeWhile_cons, List.dropWhile_cons, ho, insA]
    · have hv : vainB (-1) H (w :: r) = false := by
        simp [vainB, ho, hH]
      simp [srv, hv, List.takeWhile_cons, List.dropWhile_cons, ho, insA]
theorem srv_eq {own : Int} {H : List Int} {Q : List W} (hA : Asc H) (ho : own = -1 ∨ 0 ≤ own) (hq : QOK own H Q) : srvM own H Q = srv own H Q := by
  cases Q with
  | nil => rfl
  | cons w r =>
    rw [srvM_cons]
    rcases ho with rfl | ho
    · rcases hq.op w (by simp) with h53 | h55
      · have hv : vainB (-1) H (w :: r) = true := by simp [vainB, h53]
        have e : srv (-1) H (w :: r) = ((srv (-1) (withF w.task false H) r).1, (srv (-1) (withF w.task false H) r).2.1, (srv (-1) (withF w.task false H) r).2.2.1, w :: (srv (-1) (withF w.task false H) r).2.2.2) := by simp [srv, hv, h53]
        have hne : insI w.task H ≠ [] := by
          intro h
          have := insI_len w.task H
          rw [h] at this; simp at this
        have h55' : ¬ w.op = 55 := by omega
        rw [if_neg (by simp [h55']), if_neg h55', e, with_ins w.task hA (hq.nin w (by simp)), srv_rd (asc_ins hA) hne hq.ins]
      · by_cases hH : H = []
        · subst hH
          have hv : vainB (-1) [] (w :: r) = true := by simp [vainB, h55]
          have e2 : srv w.task [] r = (w.task, [], r, []) := by
            have := hq.pos w (by simp)
            cases r with
            | nil => rfl
            | cons w2 r =>
              have hv2 : vainB w.task [] (w2 :: r) = false := by
                have : ¬ w.task < 0 := by omega
                simp [vainB, this]
              simp [srv, hv2]
          have e : srv (-1) [] (w :: r) = ((srv w.task [] r).1, (srv w.task [] r).2.1, (srv w.task [] r).2.2.1, w :: (srv w.task [] r).2.2.2) := by simp [srv, hv, h55]
          rw [if_neg (by simp), if_pos h55, e, e2]
        · have hv : vainB (-1) H (w :: r) = false := by simp [vainB, h55, hH]
          rw [if_pos (.inr ⟨h55, hH⟩)]
          simp [srv, hv]
    · have hlt : ¬ own < 0 := by omega
      have hv : vainB own H (w :: r) = false := by simp [vainB, hlt]
      rw [if_pos (.inl (by omega))]
      simp [srv, hv]
/-- a valid state -/
structure MV (own : Int) (H : List Int) (Q : List W) : Prop where
  ow : own = -1 ∨ (isTask own = true ∧ H = [])
  vh : vh [] H = true
  wc : wchk Q = 0
  qc : qchk own H [] Q = true
  st : stay own H Q = true
theorem mvalid_iff {own cnt time : Int} {H : List Int} {Q : List W} {B : List Int} {C : List (List D)} {cl : Bool} {val : Int} :
    mvalid own cnt time H Q B C cl val = true ↔ MV own H Q ∧ cnt = 0 ∧ time = 0 ∧ B = [] ∧ C = [] ∧ cl = false ∧ val = 0 := by
  unfold mvalid flA
  constructor
  · intro h
    simp at h
    obtain ⟨⟨⟨⟨⟨⟨⟨a1, a2⟩, a3⟩, a4⟩, a5⟩, a6⟩, a7⟩, b1, b2, b3, b4⟩ := h
    refine ⟨⟨?_, b1, b2, b3, b4⟩, a2, a3, a4, a5, a6, a7⟩
    exact a1
  · rintro ⟨⟨h1, h2, h3, h4, h5⟩, rfl, rfl, rfl, rfl, rfl, rfl⟩
    simp [h2, h3, h4, h5]
    exact h1
theorem qchk_spec {own : Int} {H : List Int} : ∀ {suf pre : List W}, qchk own H pre suf = true ↔ (∀ w, w ∈ suf → wbd own H w = false) ∧ suf.Pairwise (fun a b => a.task ≠ b.task) ∧ (∀ a, a ∈ pre → ∀ b, b ∈ suf → a.task ≠ b.task)
  | [], pre => by simp [qchk]
  | w :: r, pre => by
    have e1 : qchk own H pre (w :: r) = (!pre.any (fun x => x.task == w.task) && !wbd own H w && qchk own H (pre ++ [w]) r) := rfl
    rw [e1]
    have ih := @qchk_spec own H r (pre ++ [w])
    have ha : (!pre.any (fun x => x.task == w.task)) = true ↔ ∀ a, a ∈ pre → a.task ≠ w.task := by
      simp
    rw [Bool.and_eq_true, Bool.and_eq_true, ih, ha]
    constructor
    · rintro ⟨⟨h1, h2⟩, h3, h4, h5⟩
      have h2 : wbd own H w = false := by simpa using h2
      refine ⟨?_, List.pairwise_cons.2 ⟨fun b hb => h5 w (by simp) b hb, h4⟩, ?_⟩
      · intro x hx
        rcases List.mem_cons.1 hx with e | hx
        · rw [e]; exact h2
        · exact h3 x hx
      · intro a ha b hb
        rcases List.mem_cons.1 hb with e | hb
        · rw [e]; exact h1 a ha
        · exact h5 a (by simp [ha]) b hb
    · rintro ⟨h1, h2, h3⟩
      rw [List.pairwise_cons] at h2
      refine ⟨⟨fun a ha => h3 a ha w (by simp), by simp [h1 w (by simp)]⟩, fun x hx => h1 x (by simp [hx]), h2.2, ?_⟩
      intro a ha b hb
      rcases List.mem_append.1 ha with ha | ha
      · exact h3 a ha b (by simp [hb])
      · simp at ha; rw [ha]; exact h2.1 b hb
theorem MV.asc {own : Int} {H : List Int} {Q : List W} (h : MV own H Q) : Asc H := vh_asc0 h.vh
theorem hld_zero {own : Int} {H : List Int} {t : Int} (ht : 0 ≤ t) : hld own H t = 0 ↔ t ≠ own ∧ t ∉ H := by
  unfold hld
  by_cases h1 : t = own
  · simp [ht, h1]; omega
  · by_cases h2 : t ∈ H <;> simp [h1, h2]
theorem MV.qok {own : Int} {H : List Int} {Q : List W} (h : MV own H Q) : QOK own H Q := by
  obtain ⟨h1, h2⟩ := wchk_zero h.wc
  obtain ⟨q1, q2, _⟩ := qchk_spec.1 h.qc
  refine ⟨fun w hw => ?_, fun w hw => (wvalid_task (h2 w hw)).1, fun w hw => ?_, q2⟩
  · have := q1 w hw
    unfold wbd at this
    by_cases h53 : w.op = 53
    · exact .inl h53
    · right
      simp [h53] at this
      exact this.1.1.1
  · have := q1 w hw
    unfold wbd at this
    simp at this
    exact ((hld_zero (wvalid_task (h2 w hw)).1).1 this.2).2
theorem MV.task {own : Int} {H : List Int} {Q : List W} (h : MV own H Q) : ∀ w, w ∈ Q → w.task ≠ -1 := fun w hw => by
  have := h.qok.pos w hw; omega
theorem MV.ownge {own : Int} {H : List Int} {Q : List W} (h : MV own H Q) : own = -1 ∨ 0 ≤ own := by
  rcases h.ow with h | ⟨h, _⟩
  · exact .inl h
  · unfold isTask at h; simp at h; omega
theorem MV.lenQ {own : Int} {H : List Int} {Q : List W} (h : MV own H Q) : Q.length ≤ 96 := (wchk_zero h.wc).1
theorem MV.free {H : List Int} {Q : List W} (h : MV (-1) H Q) (hH : H = []) : Q = [] := by
  cases Q with
  | nil => rfl
  | cons w r =>
    have := h.st
    simp [stay, hH] at this
/-- whether the check of an object and a state passes, and what the operations return -/
def ckd (k sz ot own cnt time : Int) (H : List Int) (Q : List W) (B : List Int) (C : List (List D)) (cl : Bool) (val : Int) : Int :=
  if mnew k sz ot = 0 then (if mvalid own cnt time H Q B C cl val then 0 else 1) else mnew k sz ot
theorem ckd_zero {k sz ot own cnt time : Int} {H : List Int} {Q : List W} {B : List Int} {C : List (List D)} {cl : Bool} {val : Int} (h : ckd k sz ot own cnt time H Q B C cl val = 0) :
    MV own H Q ∧ cnt = 0 ∧ time = 0 ∧ B = [] ∧ C = [] ∧ cl = false ∧ val = 0 := by
  unfold ckd at h
  by_cases hm : mnew k sz ot = 0
  · rw [if_pos hm] at h
    cases hv : mvalid own cnt time H Q B C cl val
    · rw [hv] at h; simp at h
    · exact mvalid_iff.1 hv
  · rw [if_neg hm] at h; exact absurd h hm
abbrev stF (own cnt time : Int) (hn : Bool) (H : List Int) (qn : Bool) (Q : List W) (bn : Bool) (B : List Int) (cn : Bool) (C : List (List D)) (cl : Bool) (val : Int) : D :=
  .ag [I' own, I' cnt, I' time, hD hn H, qD qn Q, hD bn B, cD cn C, .b cl, I' val]
theorem ev_mApply (nm : D) (k sz ot : Int) (own cnt time : Int) (hn : Bool) (H : List Int) (qn : Bool) (Q : List W) (bn : Bool) (B : List Int) (cn : Bool) (C : List (List D)) (cl : Bool) (val : Int) (t o v p n : Int)
    (hh : hn = true → H = []) (hq : qn = true → Q = []) (h1 : H.length ≤ 1000) (h2 : Q.length ≤ 1000) :
    Rets (ev P (.call rwlock_Apply [.d (.ag [nm, I' k, I' sz, I' ot]), .d (stF own cnt time hn H qn Q bn B cn C cl val), .d (.ag [I' t, I' o, I' v, I' p, I' n])] []))
      (if ckd k sz ot own cnt time H Q B C cl val = 0 then apV own H Q t o p n else zr 1) := by
  have hC := ev_mCheck nm k sz ot own cnt time hn H qn Q bn B cn C cl val hh hq h1 (by omega)
  by_cases hc : ckd k sz ot own cnt time H Q B C cl val = 0
  · obtain ⟨hM, rfl, rfl, rfl, rfl, rfl, rfl⟩ := ckd_zero hc
    have hC2 : ev P (.call rwlock_Check [.d (.ag [nm, I' k, I' sz, I' ot]), .d (stD (zZ bn cn) own hn H qn Q)] []) = some (.val (.d (I' 0)) []) := by
      have : ckd k sz ot own 0 0 H Q [] [] false 0 = (if mnew k sz ot = 0 then (if mvalid own 0 0 H Q [] [] false 0 then 0 else 1) else mnew k sz ot) := rfl
      rw [← this, hc] at hC
      exact hC
    rw [if_pos hc]
    have ho2 : ∃ a b c d, (.ag [nm, I' k, I' sz, I' ot] : D) = .ag [a, b, c, d] := ⟨_, _, _, _, rfl⟩
    obtain ⟨e1, e2, e3, e4, e5, e6⟩ := ev_applyE _ bn cn own hn H qn Q t o v p n hh hq h1 h2 hC2 ho2
    unfold apV
    cases hb : badC t p n
    · rw [if_neg (by simp)]
      cases hr : (decide (o < 53) || decide (56 < o))
      · rw [if_neg (by simp)]
        cases hw : Q.any fun w => w.task == t
        · rw [if_neg (by simp)]
          by_cases hl : o = 53 ∨ o = 55
          · rw [if_pos hl]
            by_cases hz : hld own H t = 0
            · rw [if_neg (by simp [hz])]
              exact ev_applyL _ bn cn own hn H qn Q t o v p n hh hq h1 h2 hM.asc hC2 ho2 hb hw hl hz
            · rw [if_pos hz]
              exact e4 hb hr hw hl hz
          · rw [if_neg hl]
            by_cases h54 : o = 54
            · rw [if_pos h54]
              by_cases hz : hld own H t = 1
              · rw [if_neg (by simp [hz])]
                subst h54
                have hn0 : hn = false := by
                  cases hn
                  · rfl
                  · rw [hh rfl] at hz
                    unfold hld at hz
                    split at hz
                    · exact absurd hz (by decide)
                    · simp at hz
                subst hn0
                exact ev_applyU _ bn cn own H qn Q t v p n hq h1 h2 hM.asc hM.task hC2 ho2 hb hw hz
              · rw [if_pos hz]
                exact e5 hb hr hw h54 hz
            · rw [if_neg h54]
              have h56 : o = 56 := by
                simp at hr
                omega
              by_cases hz : hld own H t = 2
              · rw [if_neg (by simp [hz])]
                subst h56
                have hH : H = [] := by
                  rcases hM.ow with ho | ⟨_, ho⟩
                  · unfold hld at hz
                    split at hz
                    · rename_i h
                      simp at h
                      omega
                    · split at hz <;> exact absurd hz (by decide)
                  · exact ho
                subst hH
                exact ev_applyV _ bn cn own hn qn Q t v p n hq h2 hM.task hC2 ho2 hb hw hz
              · rw [if_pos hz]
                exact e6 hb hr hw h56 hz
        · rw [if_pos rfl]
          exact e3 hb hr hw
      · rw [if_pos rfl]
        exact e2 hb hr
    · rw [if_pos rfl]
      exact e1 hb
  · rw [if_neg hc]
    have hc2 : (ckd k sz ot own cnt time H Q B C cl val != 0) = true := by simpa using hc
    have hC3 : ev P (.call rwlock_Check [.d (.ag [nm, I' k, I' sz, I' ot]), .d (.ag [I' own, I' cnt, I' time, hD hn H, qD qn Q, hD bn B, cD cn C, .b cl, I' val])] []) = some (.val (.d (I' (ckd k sz ot own cnt time H Q B C cl val))) []) := hC
    generalize ckd k sz ot own cnt time H Q B C cl val = ck at *
    refine Rets.zero ?_
    rw [ev_call P_rwlock_Apply rfl]
    simp [F_rwlock_Apply, hC3, hc2, overlay]
theorem ev_mWithdraw (nm : D) (k sz ot : Int) (own cnt time : Int) (hn : Bool) (H : List Int) (qn : Bool) (Q : List W) (bn : Bool) (B : List Int) (cn : Bool) (C : List (List D)) (cl : Bool) (val : Int) (t : Int)
    (hh : hn = true → H = []) (hq : qn = true → Q = []) (h1 : H.length ≤ 1000) (h2 : Q.length ≤ 1000) :
    Rets (ev P (.call rwlock_Withdraw [.d (.ag [nm, I' k, I' sz, I' ot]), .d (stF own cnt time hn H qn Q bn B cn C cl val), .d (I' t)] []))
      (if ckd k sz ot own cnt time H Q B C cl val = 0 then wdV own H Q t else zr 1) := by
  have hC := ev_mCheck nm k sz ot own cnt time hn H qn Q bn B cn C cl val hh hq h1 (by omega)
  by_cases hc : ckd k sz ot own cnt time H Q B C cl val = 0
  · obtain ⟨hM, rfl, rfl, rfl, rfl, rfl, rfl⟩ := ckd_zero hc
    have hC2 : ev P (.call rwlock_Check [.d (.ag [nm, I' k, I' sz, I' ot]), .d (stD (zZ bn cn) own hn H qn Q)] []) = some (.val (.d (I' 0)) []) := by
      have : ckd k sz ot own 0 0 H Q [] [] false 0 = (if mnew k sz ot = 0 then (if mvalid own 0 0 H Q [] [] false 0 then 0 else 1) else mnew k sz ot) := rfl
      rw [← this, hc] at hC
      exact hC
    rw [if_pos hc]
    exact ev_withdraw _ bn cn own hn H qn Q t hh hq h1 h2 hM.asc hM.task hC2 ⟨_, _, _, _, rfl⟩
  · rw [if_neg hc]
    have hc2 : (ckd k sz ot own cnt time H Q B C cl val != 0) = true := by simpa using hc
    have hC3 : ev P (.call rwlock_Check [.d (.ag [nm, I' k, I' sz, I' ot]), .d (.ag [I' own, I' cnt, I' time, hD hn H, qD qn Q, hD bn B, cD cn C, .b cl, I' val])] []) = some (.val (.d (I' (ckd k sz ot own cnt time H Q B C cl val))) []) := hC
    generalize ckd k sz ot own cnt time H Q B C cl val = ck at *
    refine Rets.zero ?_
    rw [ev_call P_rwlock_Withdraw rfl]
    simp [F_rwlock_Withdraw, hC3, hc2, overlay]
end Go.VS.R
namespace Go.VS.R
/-! the reference's comparisons -/
theorem loop_SameInts (n1 n2 : Bool) (l m : List Int) (hn : l.length ≤ 1000000) (hm : l.length = m.length) : ∀ (suf suf' pre : List Int), l = pre ++ suf → m = pre ++ suf' →
    ev P (.loop 0 [0, 1, 5] F_nurseryref01_Same_L0 [(0, .d (hD n1 l)), (1, .d (hD n2 m)), (5, .d (I' pre.length))] []) =
      if suf = suf' then some (.out (.exit 0) [] []) else some (.out .ret [(4, .d (.b false))] []) := by
  intro suf
  induction suf with
  | nil =>
    intro suf' pre hl hl'
    have h1 : l.length = pre.length := by simp [hl]
    have : suf' = [] := by
      have h2 : m.length = pre.length + suf'.length := by simp [hl']
      exact List.length_eq_zero_iff.1 (by omega)
    subst this
    rw [ev_loop]
    conv => lhs; arg 4; unfold F_nurseryref01_Same_L0
    simp [h1]
  | cons w suf ih =>
    intro suf' pre hl hl'
    have hg : l[pre.length]? = some w := by simp [hl]
    have hlt : (pre.length : Int) < l.length := by simp [hl]; omega
    have hnext : IntKind.i64.wrap ((pre.length : Int) + 1) = pre.length + 1 := wrap_i64 (by omega) (by omega)
    cases suf' with
    | nil => exfalso; simp [hl, hl'] at hm
    | cons w' suf' =>
    have hg' : m[pre.length]? = some w' := by simp [hl']
    rw [ev_loop]
    conv => lhs; arg 4; unfold F_nurseryref01_Same_L0
    by_cases hw : w = w'
    · subst hw
      have ih' := ih suf' (pre ++ [w]) (by simp [hl]) (by simp [hl'])
      simp at ih'
      simp [hlt, hg, hg', hnext]
      exact ih'
    · have hw2 : (w != w') = true := by simpa using hw
      simp [hlt, hg, hg', hw2, hw]
theorem ev_SameInts (n1 n2 : Bool) (l m : List Int) (hn : l.length ≤ 1000000) :
    ev P (.call nurseryref01_Same [.d (hD n1 l), .d (hD n2 m)] []) = some (.val (.d (.b (l == m))) []) := by
  rw [ev_call P_nurseryref01_Same rfl]
  by_cases hlen : l.length = m.length
  · have hl := loop_SameInts n1 n2 l m hn hlen l m [] rfl rfl
    simp at hl
    have : ((l.length : Int) != m.length) = false := by simp [hlen]
    simp [F_nurseryref01_Same, this]
    simp [hl]
    by_cases h : l = m <;> simp [h]
  · have : ((l.length : Int) != m.length) = true := by simp; omega
    have h2 : ¬ l = m := fun h => hlen (by rw [h])
    simp [F_nurseryref01_Same, this, h2]
theorem W.neq {w w' : W} (h : ¬ w = w') : (!w.task == w'.task || (!w.op == w'.op || (!w.value == w'.value || (!w.prio == w'.prio || !w.case == w'.case)))) = true := by
  cases hb : (!w.task == w'.task || (!w.op == w'.op || (!w.value == w'.value || (!w.prio == w'.prio || !w.case == w'.case))))
  · exfalso; apply h
    simp at hb
    cases w; cases w'; simp at hb ⊢; exact hb
  · rfl
theorem loop_SameWaiters (n1 n2 : Bool) (l m : List W) (hn : l.length ≤ 1000000) (hm : l.length = m.length) : ∀ (suf suf' pre : List W), l = pre ++ suf → m = pre ++ suf' →
    ev P (.loop 0 [0, 1, 5] F_nurseryref07_Same_L0 [(0, .d (qD n1 l)), (1, .d (qD n2 m)), (5, .d (I' pre.length))] []) =
      if suf = suf' then some (.out (.exit 0) [] []) else some (.out .ret [(4, .d (.b false))] []) := by
  intro suf
  induction suf with
  | nil =>
    intro suf' pre hl hl'
    have h1 : l.length = pre.length := by simp [hl]
    have : suf' = [] := by
      have h2 : m.length = pre.length + suf'.length := by simp [hl']
      exact List.length_eq_zero_iff.1 (by omega)
    subst this
    rw [ev_loop]
    conv => lhs; arg 4; unfold F_nurseryref07_Same_L0
    simp [h1]
  | cons w suf ih =>
    intro suf' pre hl hl'
    have hg : l[pre.length]? = some w := by simp [hl]
    have hlt : (pre.length : Int) < l.length := by simp [hl]; omega
    have hnext : IntKind.i64.wrap ((pre.length : Int) + 1) = pre.length + 1 := wrap_i64 (by omega) (by omega)
    cases suf' with
    | nil => exfalso; simp [hl, hl'] at hm
    | cons w' suf' =>
    have hg' : m[pre.length]? = some w' := by simp [hl']
    rw [ev_loop]
    conv => lhs; arg 4; unfold F_nurseryref07_Same_L0
    by_cases hw : w = w'
    · subst hw
      have ih' := ih suf' (pre ++ [w]) (by simp [hl]) (by simp [hl'])
      simp at ih'
      simp [hlt, hg, hg', hnext, W.row]
      exact ih'
    · have hw2 := W.neq hw
      simp [hlt, hg, hg', hw2, hw, W.row]
theorem ev_SameWaiters (n1 n2 : Bool) (l m : List W) (hn : l.length ≤ 1000000) :
    ev P (.call nurseryref07_Same [.d (qD n1 l), .d (qD n2 m)] []) = some (.val (.d (.b (l == m))) []) := by
  rw [ev_call P_nurseryref07_Same rfl]
  by_cases hlen : l.length = m.length
  · have hl := loop_SameWaiters n1 n2 l m hn hlen l m [] rfl rfl
    simp at hl
    have : ((l.length : Int) != m.length) = false := by simp [hlen]
    simp [F_nurseryref07_Same, this]
    simp [hl]
    by_cases h : l = m <;> simp [h]
  · have : ((l.length : Int) != m.length) = true := by simp; omega
    have h2 : ¬ l = m := fun h => hlen (by rw [h])
    simp [F_nurseryref07_Same, this, h2]
theorem ev_SameState (bn cn bn' cn' hn hn' qn qn' : Bool) (own cnt time val : Int) (cl : Bool) (H : List Int) (Q : List W) (B : List Int) (h1 : H.length ≤ 1000000) (h2 : Q.length ≤ 1000000) (h3 : B.length ≤ 1000000) :
    ev P (.call nurseryref17_SameState [.d (stF own cnt time hn H qn Q bn B cn [] cl val), .d (stF own cnt time hn' H qn' Q bn' B cn' [] cl val)] []) = some (.val (.d (.b true)) []) := by
  have e1 := ev_SameWaiters qn qn' Q Q h2
  have e2 := ev_SameInts hn hn' H H h1
  have e3 := ev_SameInts bn bn' B B h3
  simp at e1 e2 e3
  have hL : ev P (.loop 0 [2, 3, 5] F_nurseryref17_SameState_L0 [(2, .d (.ref [I' own, I' cnt, I' time, hD hn H, qD qn Q, hD bn B, cD cn [], .b cl, I' val])), (3, .d (.ref [I' own, I' cnt, I' time, hD hn' H, qD qn' Q, hD bn' B, cD cn' [], .b cl, I' val])), (5, .d (I' 0))] []) = some (.out (.exit 0) [] []) := by
    rw [ev_loop]
    conv => lhs; arg 4; unfold F_nurseryref17_SameState_L0
    simp
  rw [ev_call P_nurseryref17_SameState rfl]
  simp [F_nurseryref17_SameState, e1, e2, e3, hL]
def wkOk (r : List D) : Prop := ∃ a b c d e, r = [I' a, I' b, I' c, .b d, I' e]
theorem loop_SR (c c' : List D) (kn kn' : Bool) (k : List (List D)) (hc : c.length = 12) (hc' : c'.length = 12) (hn : k.length ≤ 1000000) (hk : ∀ r, r ∈ k → wkOk r) : ∀ (suf pre : List (List D)), k = pre ++ suf →
    ev P (.loop 0 [2, 3, 5] F_nurseryref17_SameReply_L0 [(2, .d (.ref (c ++ [.sl 5 kn k]))), (3, .d (.ref (c' ++ [.sl 5 kn' k]))), (5, .d (I' pre.length))] []) = some (.out (.exit 0) [(2, .d (.ref (c ++ [.sl 5 kn k]))), (3, .d (.ref (c' ++ [.sl 5 kn' k])))] []) := by
  have hd : (c ++ [D.sl 5 kn k]).drop 12 = [D.sl 5 kn k] := by rw [← hc]; simp
  have hd' : (c' ++ [D.sl 5 kn' k]).drop 12 = [D.sl 5 kn' k] := by rw [← hc']; simp
  have hl : (c ++ [D.sl 5 kn k]).length = 13 := by simp [hc]
  have hl' : (c' ++ [D.sl 5 kn' k]).length = 13 := by simp [hc']
  generalize c ++ [D.sl 5 kn k] = x at *
  generalize c' ++ [D.sl 5 kn' k] = x' at *
  intro suf
  induction suf with
  | nil =>
    intro pre hl0
    have : k.length = pre.length := by simp [hl0]
    rw [ev_loop]
    conv => lhs; arg 4; unfold F_nurseryref17_SameReply_L0
    simp [this, hd, hl]
  | cons w suf ih =>
    intro pre hl0
    have hg : k[pre.length]? = some w := by simp [hl0]
    have hlt : (pre.length : Int) < k.length := by simp [hl0]; omega
    have hnext : IntKind.i64.wrap ((pre.length : Int) + 1) = pre.length + 1 := wrap_i64 (by omega) (by omega)
    have ih' := ih (pre ++ [w]) (by simp [hl0])
    obtain ⟨a1, a2, a3, a4, a5, rfl⟩ := hk w (by simp [hl0])
    simp at ih'
    rw [ev_loop]
    conv => lhs; arg 4; unfold F_nurseryref17_SameReply_L0
    simp [hlt, hg, hd, hd', hl, hl', hnext]
    exact ih'
theorem wk_ok {q : List W} : ∀ r, r ∈ q.map wk → wkOk r := by
  intro r hr
  obtain ⟨w, _, rfl⟩ := List.mem_map.1 hr
  exact ⟨_, _, _, _, _, rfl⟩
theorem ev_SameReply (bn cn bn' cn' hn hn' qn qn' kn kn' : Bool) (own : Int) (H : List Int) (Q : List W) (p ok : Bool) (k : List W) (h1 : H.length ≤ 1000000) (h2 : Q.length ≤ 1000000) (h3 : k.length ≤ 1000000) :
    ev P (.call nurseryref17_SameReply [.d (rpD (zZ bn cn) own hn H qn Q p ok kn (k.map wk)), .d (rpD (zZ bn' cn') own hn' H qn' Q p ok kn' (k.map wk))] []) = some (.val (.d (.b true)) []) := by
  have hS := ev_SameState bn cn bn' cn' hn hn' qn qn' own 0 0 0 false H Q [] h1 h2 (by simp)
  have hL := loop_SR [I' own, I' 0, I' 0, hD hn H, qD qn Q, hD bn [], cD cn [], .b false, I' 0, .b p, I' 0, .b ok] [I' own, I' 0, I' 0, hD hn' H, qD qn' Q, hD bn' [], cD cn' [], .b false, I' 0, .b p, I' 0, .b ok] kn kn' (k.map wk) rfl rfl (by simpa using h3) wk_ok (k.map wk) [] rfl
  simp at hL
  rw [ev_call P_nurseryref17_SameReply rfl]
  simp [F_nurseryref17_SameReply, zZ, hL, hS]
/-! the reference's operations -/
theorem ev_Caller (t o v p n : Int) : ev P (.call nurseryref17_Caller [.d (.ag [I' t, I' o, I' v, I' p, I' n])] []) = some (.val (.d (.b (!badC t p n))) []) := by
  have e : (!badC t p n) = (isTask t && decide (0 ≤ p) && decide (p ≤ 9) && decide (0 ≤ n) && decide (n ≤ 1099511627776)) := by
    rw [Bool.eq_iff_iff]
    unfold badC
    simp
  rw [e]
  rw [ev_call P_nurseryref17_Caller rfl]
  simp [F_nurseryref17_Caller, ev_rTask]
/-- why an operation on a valid state is an error -/
def rErr (own : Int) (H : List Int) (Q : List W) (t o p n : Int) : Int :=
  if badC t p n = true then 2
  else if (decide (o < 53) || decide (56 < o)) = true then 8
  else if (Q.any (fun w => w.task == t) || (o == 53 || o == 55) && hld own H t != 0) = true then 17
  else if (o == 54 && hld own H t != 1 || o == 56 && hld own H t != 2) = true then 20
  else 0
theorem ev_rcheck (nm : D) (k sz ot : Int) (own cnt time : Int) (hn : Bool) (H : List Int) (qn : Bool) (Q : List W) (bn : Bool) (B : List Int) (cn : Bool) (C : List (List D)) (cl : Bool) (val : Int) (t o v p n : Int)
    (h1 : H.length ≤ 1000) (h2 : Q.length ≤ 1000) :
    ev P (.call nurseryref17_check [.d (.ag [nm, I' k, I' sz, I' ot]), .d (stF own cnt time hn H qn Q bn B cn C cl val), .d (.ag [I' t, I' o, I' v, I' p, I' n])] []) =
      some (.val (.d (I' (if ckd k sz ot own cnt time H Q B C cl val = 0 then rErr own H Q t o p n else 1))) []) := by
  have hC : ev P (.call nurseryref17_Check [.d (.ag [nm, I' k, I' sz, I' ot]), .d (.ag [I' own, I' cnt, I' time, hD hn H, qD qn Q, hD bn B, cD cn C, .b cl, I' val])] []) = some (.val (.d (I' (ckd k sz ot own cnt time H Q B C cl val))) []) := ev_rCheck nm k sz ot own cnt time hn H qn Q bn B cn C cl val h1 (by omega)
  have hF := ev_rFind qn Q t (by omega)
  have hH := ev_rHolds own (I' cnt) (I' time) (qD qn Q) (hD bn B) (cD cn C) (.b cl) (I' val) hn H t (by omega)
  have hCl := ev_Caller t o v p n
  rw [fd_any] at hF
  generalize (fdS Q t).1 = fi at *
  unfold rErr
  generalize (Q.any fun w => w.task == t) = qa at *
  generalize ckd k sz ot own cnt time H Q B C cl val = ck at *
  generalize hld own H t = hd at *
  generalize badC t p n = bc at *
  rw [ev_call P_nurseryref17_check rfl]
  by_cases hc : ck = 0
  · rw [if_pos hc]
    subst hc
    cases bc
    · simp at hCl
      cases hr : (decide (o < 53) || decide (56 < o))
      · cases hw : (qa || (o == 53 || o == 55) && hd != 0)
        · cases hv : (o == 54 && hd != 1 || o == 56 && hd != 2)
          · simp [F_nurseryref17_check, hC, hCl, hr, hF, hH, hw, hv]
          · simp [F_nurseryref17_check, hC, hCl, hr, hF, hH, hw, hv]
        · simp [F_nurseryref17_check, hC, hCl, hr, hF, hH, hw]
      · simp [F_nurseryref17_check, hC, hCl, hr]
    · simp at hCl
      simp [F_nurseryref17_check, hC, hCl]
  · rw [if_neg hc]
    have hc2 : (ck != 0) = true := by simpa using hc
    simp [F_nurseryref17_check, hC, hc2]
end Go.VS.R
namespace Go.VS.R
theorem ev_rApplyE (nm : D) (k sz ot : Int) (own cnt time : Int) (hn : Bool) (H : List Int) (qn : Bool) (Q : List W) (bn : Bool) (B : List Int) (cn : Bool) (C : List (List D)) (cl : Bool) (val : Int) (t o v p n e : Int)
    (he : e ≠ 0) (hK : ev P (.call nurseryref17_check [.d (.ag [nm, I' k, I' sz, I' ot]), .d (stF own cnt time hn H qn Q bn B cn C cl val), .d (.ag [I' t, I' o, I' v, I' p, I' n])] []) = some (.val (.d (I' e)) [])) :
    Rets (ev P (.call nurseryref17_Apply [.d (.ag [nm, I' k, I' sz, I' ot]), .d (stF own cnt time hn H qn Q bn B cn C cl val), .d (.ag [I' t, I' o, I' v, I' p, I' n])] [])) (zr e) := by
  have he2 : (e != 0) = true := by simpa using he
  refine Rets.zero ?_
  rw [ev_call P_nurseryref17_Apply rfl]
  simp [F_nurseryref17_Apply, hK, mkRows, allDs, he2, overlay]
/-- the reference's operation on a valid state, when it is no error -/
def rAp (own : Int) (H : List Int) (Q : List W) (t o p : Int) : Rp :=
  if o = 53 ∧ own < 0 ∧ Q = [] then ⟨own, withF t false H, Q, false, true, [], 0⟩
  else if o = 55 ∧ own < 0 ∧ Q = [] ∧ H = [] then ⟨t, H, Q, false, true, [], 0⟩
  else if o = 54 then let x := srv own (H.filter fun x => x != t) Q; ⟨x.1, x.2.1, x.2.2.1, false, true, x.2.2.2, 0⟩
  else if o = 56 then let x := srv (-1) H Q; ⟨x.1, x.2.1, x.2.2.1, false, true, x.2.2.2, 0⟩
  else ⟨own, H, Q ++ [⟨t, o, 0, p, -1⟩], true, false, [], 0⟩
theorem srvN_of {hn : Bool} : ∀ {Q : List W} {own : Int} {H : List Int}, (hn = true → H = []) → srvN hn own H Q = true → (srv own H Q).2.1 = []
  | [], own, H, h, hs => by simp [srvN] at hs; simp [srv]; exact h hs
  | w :: r, own, H, h, hs => by
    unfold srvN at hs
    cases hv : vainB own H (w :: r)
    · rw [hv] at hs; simp at hs; simp [srv, hv]; exact h hs
    · rw [hv] at hs; simp at hs
      by_cases h53 : w.op = 53
      · simp [h53] at hs
        have : ∀ (Q : List W) (own : Int) (H : List Int), srvN false own H Q = false := by
          intro Q
          induction Q with
          | nil => intro own H; rfl
          | cons a q ih =>
            intro own H
            unfold srvN
            rw [ih, ih]
            simp
        rw [this] at hs; cases hs
      · simp [h53] at hs
        simp [srv, hv, h53]
        exact srvN_of h hs
theorem ev_rApplyO (nm : D) (k sz ot : Int) (own : Int) (hn : Bool) (H : List Int) (qn : Bool) (Q : List W) (bn : Bool) (cn : Bool) (t o v p n : Int) (hh : hn = true → H = []) (hq : qn = true → Q = []) (h1 : H.length + Q.length ≤ 1000) (hop : 53 ≤ o ∧ o ≤ 56)
    (hK : ev P (.call nurseryref17_check [.d (.ag [nm, I' k, I' sz, I' ot]), .d (stF own 0 0 hn H qn Q bn [] cn [] false 0), .d (.ag [I' t, I' o, I' v, I' p, I' n])] []) = some (.val (.d (I' 0)) [])) :
    Rets (ev P (.call nurseryref17_Apply [.d (.ag [nm, I' k, I' sz, I' ot]), .d (stF own 0 0 hn H qn Q bn [] cn [] false 0), .d (.ag [I' t, I' o, I' v, I' p, I' n])] [])) (rAp own H Q t o p) := by
  have hlq : ((Q.length : Int) == 0) = Q.isEmpty := by cases Q <;> simp; omega
  have hlh : ((H.length : Int) == 0) = H.isEmpty := by cases H <;> simp; omega
  unfold rAp
  by_cases c1 : o = 53 ∧ own < 0 ∧ Q = []
  · rw [if_pos c1]
    obtain ⟨rfl, ho, rfl⟩ := c1
    have hW := ev_with hn H t (by simp at h1; omega)
    refine ⟨bn, cn, false, qn, true, ?_, by simp, by simp⟩
    generalize withF t false H = H2 at *
    rw [ev_call P_nurseryref17_Apply rfl]
    simp [F_nurseryref17_Apply, hK, mkRows, allDs, ho, hW, overlay, zZ]
  · rw [if_neg c1]
    have b1 : (o == 53 && (decide (own < 0) && Q.isEmpty)) = false := by
      cases h : (o == 53 && (decide (own < 0) && Q.isEmpty))
      · rfl
      · exact absurd (by simpa using h) c1
    by_cases c2 : o = 55 ∧ own < 0 ∧ Q = [] ∧ H = []
    · rw [if_pos c2]
      obtain ⟨rfl, ho, rfl, rfl⟩ := c2
      refine ⟨bn, cn, hn, qn, true, ?_, by simp, by simp⟩
      rw [ev_call P_nurseryref17_Apply rfl]
      simp [F_nurseryref17_Apply, hK, mkRows, allDs, ho, overlay, zZ]
    · rw [if_neg c2]
      have b2 : (o == 55 && (decide (own < 0) && (Q.isEmpty && H.isEmpty))) = false := by
        cases h : (o == 55 && (decide (own < 0) && (Q.isEmpty && H.isEmpty)))
        · rfl
        · exact absurd (by simpa using h) c2
      by_cases c3 : o = 54
      · rw [if_pos c3]
        subst c3
        show Rets _ (⟨(srv own (H.filter fun x => x != t) Q).1, (srv own (H.filter fun x => x != t) Q).2.1, (srv own (H.filter fun x => x != t) Q).2.2.1, false, true, (srv own (H.filter fun x => x != t) Q).2.2.2, 0⟩ : Rp)
        have hW := ev_without hn H t (by omega)
        have hfl : (H.filter fun x => x != t).length ≤ H.length := List.length_filter_le _ _
        obtain ⟨qn', kn', hqn, hS⟩ := ev_rserve (zZ bn cn) own false (H.filter fun x => x != t) qn Q (by omega)
        have hN := @srvN_of false Q own (H.filter fun x => x != t) (by simp)
        have hQe : qn' = true → (srv own (H.filter fun x => x != t) Q).2.2.1 = [] := by
          intro h
          have := hq (hqn h)
          rw [this]; rfl
        refine ⟨bn, cn, srvN false own (H.filter fun x => x != t) Q, qn', kn', ?_, hN, hQe⟩
        generalize (H.filter fun x => x != t) = F at *
        generalize (srv own F Q).1 = s1 at *
        generalize (srv own F Q).2.1 = s2 at *
        generalize (srv own F Q).2.2.1 = s3 at *
        generalize (srv own F Q).2.2.2 = s4 at *
        generalize srvN false own F Q = s5 at *
        simp [zZ] at hS
        rw [ev_call P_nurseryref17_Apply rfl]
        simp [F_nurseryref17_Apply, hK, mkRows, allDs, hW, hS, overlay, zZ]
      · rw [if_neg c3]
        have b3 : (o == 54) = false := by simpa using c3
        by_cases c4 : o = 56
        · rw [if_pos c4]
          subst c4
          show Rets _ (⟨(srv (-1) H Q).1, (srv (-1) H Q).2.1, (srv (-1) H Q).2.2.1, false, true, (srv (-1) H Q).2.2.2, 0⟩ : Rp)
          obtain ⟨qn', kn', hqn, hS⟩ := ev_rserve (zZ bn cn) (-1) hn H qn Q (by omega)
          have hN := @srvN_of hn Q (-1) H hh
          have hQe : qn' = true → (srv (-1) H Q).2.2.1 = [] := by
            intro h
            have := hq (hqn h)
            rw [this]; rfl
          refine ⟨bn, cn, srvN hn (-1) H Q, qn', kn', ?_, hN, hQe⟩
          generalize (srv (-1) H Q).1 = s1 at *
          generalize (srv (-1) H Q).2.1 = s2 at *
          generalize (srv (-1) H Q).2.2.1 = s3 at *
          generalize (srv (-1) H Q).2.2.2 = s4 at *
          generalize srvN hn (-1) H Q = s5 at *
          simp [zZ] at hS
          rw [ev_call P_nurseryref17_Apply rfl]
          simp [F_nurseryref17_Apply, hK, mkRows, allDs, hS, overlay, zZ]
        · rw [if_neg c4]
          have b4 : (o == 56) = false := by simpa using c4
          refine ⟨bn, cn, hn, false, true, ?_, hh, by simp⟩
          rw [ev_call P_nurseryref17_Apply rfl]
          have r1 : 1 ≤ room := by decide
          by_cases o53 : o = 53
          · subst o53
            have b1' : (decide (own < 0) && Q.isEmpty) = false := by simpa using b1
            cases Q with
            | nil =>
              have ho : ¬ own < 0 := by simpa using b1'
              simp [F_nurseryref17_Apply, hK, mkRows, allDs, ho, r1, overlay, zZ, V.same_self, W.row]
            | cons w r =>
              have z2 : ((r.length : Int) + 1 == 0) = false := by simp; omega
              have r2 : r.length + 1 ≤ room := by simp at h1; unfold room; omega
              have r3 : r.length + 1 + 1 ≤ room := by simp at h1; unfold room; omega
              by_cases ho : own < 0
              · simp [F_nurseryref17_Apply, hK, mkRows, allDs, ho, z2, r1, r2, r3, overlay, zZ, V.same_self, W.row, Nat.not_succ_le_self, take_map_len, take_snoc_map]
              · simp [F_nurseryref17_Apply, hK, mkRows, allDs, ho, z2, r1, r2, r3, overlay, zZ, V.same_self, W.row, Nat.not_succ_le_self, take_map_len, take_snoc_map]
          · have o55 : o = 55 := by omega
            subst o55
            have b2' : (decide (own < 0) && (Q.isEmpty && H.isEmpty)) = false := by simpa using b2
            cases Q with
            | nil =>
              by_cases ho : own < 0
              · cases H with
                | nil => simp [ho] at b2'
                | cons x l =>
                  have z3 : ((l.length : Int) + 1 == 0) = false := by simp; omega
                  simp [F_nurseryref17_Apply, hK, mkRows, allDs, ho, z3, r1, overlay, zZ, V.same_self, W.row, Nat.not_succ_le_self, take_map_len, take_snoc_map]
              · simp [F_nurseryref17_Apply, hK, mkRows, allDs, ho, r1, overlay, zZ, V.same_self, W.row, Nat.not_succ_le_self, take_map_len, take_snoc_map]
            | cons w r =>
              have z2 : ((r.length : Int) + 1 == 0) = false := by simp; omega
              have r2 : r.length + 1 ≤ room := by simp at h1; unfold room; omega
              have r3 : r.length + 1 + 1 ≤ room := by simp at h1; unfold room; omega
              by_cases ho : own < 0
              · simp [F_nurseryref17_Apply, hK, mkRows, allDs, ho, z2, r2, r3, r1, overlay, zZ, V.same_self, W.row, Nat.not_succ_le_self, take_map_len, take_snoc_map]
              · simp [F_nurseryref17_Apply, hK, mkRows, allDs, ho, z2, r2, r3, r1, overlay, zZ, V.same_self, W.row, Nat.not_succ_le_self, take_map_len, take_snoc_map]
end Go.VS.R
namespace Go.VS.R
theorem rap_eq {own : Int} {H : List Int} {Q : List W} {t o p n : Int} (hM : MV own H Q) :
    apV own H Q t o p n = if rErr own H Q t o p n = 0 then rAp own H Q t o p else zr (rErr own H Q t o p n) := by
  have hA := hM.asc
  have hge := hM.ownge
  have hqk := hM.qok
  unfold apV rErr
  cases hb : badC t p n
  · simp only [Bool.false_eq_true, if_false]
    cases hr : (decide (o < 53) || decide (56 < o))
    · simp only [Bool.false_eq_true, if_false]
      have hop : 53 ≤ o ∧ o ≤ 56 := by
        simp at hr; omega
      cases hw : Q.any fun w => w.task == t
      · simp only [Bool.false_eq_true, if_false, Bool.false_or]
        by_cases hl : o = 53 ∨ o = 55
        · rw [if_pos hl]
          have h54 : o ≠ 54 := by omega
          have h56 : o ≠ 56 := by omega
          have hb1 : (o == 53 || o == 55) = true := by simpa using hl
          have hb2 : (o == 54) = false := by simpa using h54
          have hb3 : (o == 56) = false := by simpa using h56
          rw [hb1, hb2, hb3]
          simp only [Bool.true_and, Bool.false_and, Bool.or_self, Bool.false_eq_true, if_false]
          by_cases hz : hld own H t = 0
          · have hz2 : (hld own H t != 0) = false := by simp [hz]
            rw [if_neg (by simp [hz]), hz2]
            simp only [Bool.false_eq_true, if_false, if_true]
            unfold lockS rAp posB
            rw [if_neg h54, if_neg h56]
            rcases hl with rfl | rfl
            · rw [if_pos (rfl : (53 : Int) = 53)]
              have h1 : ¬ ((53 : Int) = 55 ∧ own < 0 ∧ Q = [] ∧ H = []) := by rintro ⟨h, _⟩; exact absurd h (by decide)
              rw [if_neg h1]
              have hiff : (own == -1 && Q.isEmpty) = true ↔ (53 : Int) = 53 ∧ own < 0 ∧ Q = [] := by
                simp
                intro _
                rcases hge with h | h <;> constructor <;> intro h2 <;> omega
              by_cases hc : (own == -1 && Q.isEmpty) = true
              · rw [if_pos hc, if_pos (hiff.1 hc), if_neg (by decide)]
                have hti : t ∉ H := by
                  unfold badC isTask at hb
                  simp at hb
                  exact ((hld_zero hb.1.1.1.1.1).1 hz).2
                rw [with_ins t hA hti]
              · rw [if_neg hc, if_neg (fun h => hc (hiff.2 h))]
            · have h1 : ¬ ((55 : Int) = 53 ∧ own < 0 ∧ Q = []) := by rintro ⟨h, _⟩; exact absurd h (by decide)
              rw [if_neg h1, if_neg (by decide : ¬ (55 : Int) = 53)]
              have hiff : (own == -1 && H.isEmpty) = true ↔ (55 : Int) = 55 ∧ own < 0 ∧ Q = [] ∧ H = [] := by
                simp
                constructor
                · rintro ⟨rfl, h2⟩
                  exact ⟨by decide, hM.free h2, h2⟩
                · rintro ⟨h1, _, h2⟩
                  refine ⟨?_, h2⟩
                  rcases hge with h | h
                  · exact h
                  · omega
              by_cases hc : (own == -1 && H.isEmpty) = true
              · rw [if_pos hc, if_pos (hiff.1 hc), if_pos rfl]
              · rw [if_neg hc, if_neg (fun h => hc (hiff.2 h))]
          · have hz2 : (hld own H t != 0) = true := by simpa using hz
            rw [if_pos hz, hz2]
            simp
        · rw [if_neg hl]
          have hb1 : (o == 53 || o == 55) = false := by
            cases h : (o == 53 || o == 55)
            · rfl
            · exact absurd (by simpa using h) hl
          rw [hb1]
          simp only [Bool.false_and, Bool.false_eq_true, if_false]
          have hn53 : ¬ (o = 53 ∧ own < 0 ∧ Q = []) := fun h => hl (.inl h.1)
          have hn55 : ¬ (o = 55 ∧ own < 0 ∧ Q = [] ∧ H = []) := fun h => hl (.inr h.1)
          unfold rAp
          rw [if_neg hn53, if_neg hn55]
          by_cases h54 : o = 54
          · subst h54
            by_cases hz : hld own H t = 1
            · simp [hz]
              have hsub : ∀ x, x ∈ (H.filter fun x => x != t) → x ∈ H := fun x hx => (List.mem_filter.1 hx).1
              rw [srv_eq (hA.sublist List.filter_sublist) hge (hqk.sub (List.Sublist.refl _) hsub)]
              exact ⟨rfl, rfl, rfl, rfl⟩
            · have hz2 : (hld own H t != 1) = true := by simpa using hz
              simp [hz, hz2]
          · have h56 : o = 56 := by omega
            subst h56
            by_cases hz : hld own H t = 2
            · simp [hz]
              have hH : H = [] := by
                rcases hM.ow with ho | ⟨_, ho⟩
                · unfold hld at hz
                  split at hz
                  · rename_i h
                    simp at h
                    omega
                  · split at hz <;> exact absurd hz (by decide)
                · exact ho
              rw [srv_eq (own := -1) hA (.inl rfl) (hqk.sub (List.Sublist.refl _) fun _ h => h)]
              exact ⟨rfl, rfl, rfl, rfl⟩
            · have hz2 : (hld own H t != 2) = true := by simpa using hz
              simp [hz, hz2]
      · simp
    · simp
  · simp
theorem ev_rApply (nm : D) (k sz ot : Int) (own cnt time : Int) (hn : Bool) (H : List Int) (qn : Bool) (Q : List W) (bn : Bool) (B : List Int) (cn : Bool) (C : List (List D)) (cl : Bool) (val : Int) (t o v p n : Int)
    (hh : hn = true → H = []) (hq : qn = true → Q = []) (h1 : H.length ≤ 500) (h2 : Q.length ≤ 500) :
    Rets (ev P (.call nurseryref17_Apply [.d (.ag [nm, I' k, I' sz, I' ot]), .d (stF own cnt time hn H qn Q bn B cn C cl val), .d (.ag [I' t, I' o, I' v, I' p, I' n])] []))
      (if ckd k sz ot own cnt time H Q B C cl val = 0 then apV own H Q t o p n else zr 1) := by
  have hK := ev_rcheck nm k sz ot own cnt time hn H qn Q bn B cn C cl val t o v p n (by omega) (by omega)
  by_cases hc : ckd k sz ot own cnt time H Q B C cl val = 0
  · obtain ⟨hM, rfl, rfl, rfl, rfl, rfl, rfl⟩ := ckd_zero hc
    rw [if_pos hc] at hK ⊢
    rw [rap_eq hM]
    by_cases he : rErr own H Q t o p n = 0
    · rw [if_pos he]
      rw [he] at hK
      have hop : 53 ≤ o ∧ o ≤ 56 := by
        unfold rErr at he
        cases hb : badC t p n
        · rw [hb] at he
          simp only [Bool.false_eq_true, if_false] at he
          cases hr : (decide (o < 53) || decide (56 < o))
          · simp at hr; omega
          · rw [hr] at he; simp at he
        · rw [hb] at he; simp at he
      exact ev_rApplyO nm k sz ot own hn H qn Q bn cn t o v p n hh hq (by omega) hop hK
    · rw [if_neg he]
      exact ev_rApplyE nm k sz ot own 0 0 hn H qn Q bn [] cn [] false 0 t o v p n _ he hK
  · rw [if_neg hc] at hK ⊢
    exact ev_rApplyE nm k sz ot own cnt time hn H qn Q bn B cn C cl val t o v p n 1 (by decide) hK
theorem ev_rWithdraw (nm : D) (k sz ot : Int) (own cnt time : Int) (hn : Bool) (H : List Int) (qn : Bool) (Q : List W) (bn : Bool) (B : List Int) (cn : Bool) (C : List (List D)) (cl : Bool) (val : Int) (t : Int)
    (hh : hn = true → H = []) (hq : qn = true → Q = []) (h1 : H.length ≤ 500) (h2 : Q.length ≤ 500) :
    Rets (ev P (.call nurseryref17_Withdraw [.d (.ag [nm, I' k, I' sz, I' ot]), .d (stF own cnt time hn H qn Q bn B cn C cl val), .d (I' t)] []))
      (if ckd k sz ot own cnt time H Q B C cl val = 0 then wdV own H Q t else zr 1) := by
  have hC : ev P (.call nurseryref17_Check [.d (.ag [nm, I' k, I' sz, I' ot]), .d (.ag [I' own, I' cnt, I' time, hD hn H, qD qn Q, hD bn B, cD cn C, .b cl, I' val])] []) = some (.val (.d (I' (ckd k sz ot own cnt time H Q B C cl val))) []) := ev_rCheck nm k sz ot own cnt time hn H qn Q bn B cn C cl val (by omega) (by omega)
  by_cases hc : ckd k sz ot own cnt time H Q B C cl val = 0
  · obtain ⟨hM, rfl, rfl, rfl, rfl, rfl, rfl⟩ := ckd_zero hc
    rw [hc] at hC
    rw [if_pos hc]
    have hF := ev_rFind qn Q t (by omega)
    rw [fd_any] at hF
    generalize (fdS Q t).1 = fi at *
    unfold wdV
    cases hw : Q.any fun w => w.task == t
    · rw [hw] at hF
      rw [if_neg (by simp)]
      refine Rets.zero ?_
      rw [ev_call P_nurseryref17_Withdraw rfl]
      simp [F_nurseryref17_Withdraw, mkRows, allDs, hC, hF, overlay]
    · rw [hw] at hF
      rw [if_pos rfl]
      have hR := ev_rRemove qn Q t (by omega)
      have hfl : (Q.filter fun w => w.task != t).length ≤ Q.length := List.length_filter_le _ _
      rw [srv_eq hM.asc hM.ownge (hM.qok.sub List.filter_sublist fun _ h => h)]
      obtain ⟨qn', kn', hqn, hS⟩ := ev_rserve (zZ bn cn) own hn H false (Q.filter fun w => w.task != t) (by omega)
      have hN := @srvN_of hn (Q.filter fun w => w.task != t) own H hh
      generalize (Q.filter fun w => w.task != t) = F at *
      show Rets _ (⟨(srv own H F).1, (srv own H F).2.1, (srv own H F).2.2.1, false, false, (srv own H F).2.2.2, 0⟩ : Rp)
      refine ⟨bn, cn, srvN hn own H F, qn', kn', ?_, hN, fun h => absurd (hqn h) (by decide)⟩
      generalize (srv own H F).1 = s1 at *
      generalize (srv own H F).2.1 = s2 at *
      generalize (srv own H F).2.2.1 = s3 at *
      generalize (srv own H F).2.2.2 = s4 at *
      generalize srvN hn own H F = s5 at *
      simp [zZ] at hS
      rw [ev_call P_nurseryref17_Withdraw rfl]
      simp [F_nurseryref17_Withdraw, mkRows, allDs, hC, hF, hR, hS, overlay, zZ]
  · rw [if_neg hc]
    have hc2 : (ckd k sz ot own cnt time H Q B C cl val != 0) = true := by simpa using hc
    generalize ckd k sz ot own cnt time H Q B C cl val = ck at *
    refine Rets.zero ?_
    rw [ev_call P_nurseryref17_Withdraw rfl]
    simp [F_nurseryref17_Withdraw, mkRows, allDs, hC, hc2, overlay]
def apS (k sz ot own cnt time : Int) (H : List Int) (Q : List W) (B : List Int) (C : List (List D)) (cl : Bool) (val : Int) (t o p n : Int) : Rp :=
  if ckd k sz ot own cnt time H Q B C cl val = 0 then apV own H Q t o p n else zr 1
theorem ev_mReady (nm : D) (k sz ot : Int) (own cnt time : Int) (hn : Bool) (H : List Int) (qn : Bool) (Q : List W) (bn : Bool) (B : List Int) (cn : Bool) (C : List (List D)) (cl : Bool) (val : Int) (t o v p n : Int)
    (hh : hn = true → H = []) (hq : qn = true → Q = []) (h1 : H.length ≤ 500) (h2 : Q.length ≤ 500) :
    ev P (.call rwlock_Ready [.d (.ag [nm, I' k, I' sz, I' ot]), .d (stF own cnt time hn H qn Q bn B cn C cl val), .d (.ag [I' t, I' o, I' v, I' p, I' n])] []) = some (.val (.d (.b ((apS k sz ot own cnt time H Q B C cl val t o p n).e == 0 && !(apS k sz ot own cnt time H Q B C cl val t o p n).parked))) []) := by
  obtain ⟨b1, b2, b3, b4, b5, hA, _, _⟩ := ev_mApply nm k sz ot own cnt time hn H qn Q bn B cn C cl val t o v p n hh hq (by omega) (by omega)
  have e : (if ckd k sz ot own cnt time H Q B C cl val = 0 then apV own H Q t o p n else zr 1) = apS k sz ot own cnt time H Q B C cl val t o p n := rfl
  rw [e] at hA
  generalize apS k sz ot own cnt time H Q B C cl val t o p n = r at *
  rw [ev_call P_rwlock_Ready rfl]
  cases he : r.e == 0
  · simp [F_rwlock_Ready, hA, he]
  · simp [F_rwlock_Ready, hA, he]
theorem ev_rReady (nm : D) (k sz ot : Int) (own cnt time : Int) (hn : Bool) (H : List Int) (qn : Bool) (Q : List W) (bn : Bool) (B : List Int) (cn : Bool) (C : List (List D)) (cl : Bool) (val : Int) (t o v p n : Int)
    (hh : hn = true → H = []) (hq : qn = true → Q = []) (h1 : H.length ≤ 500) (h2 : Q.length ≤ 500) :
    ev P (.call nurseryref17_Ready [.d (.ag [nm, I' k, I' sz, I' ot]), .d (stF own cnt time hn H qn Q bn B cn C cl val), .d (.ag [I' t, I' o, I' v, I' p, I' n])] []) = some (.val (.d (.b ((apS k sz ot own cnt time H Q B C cl val t o p n).e == 0 && !(apS k sz ot own cnt time H Q B C cl val t o p n).parked))) []) := by
  obtain ⟨b1, b2, b3, b4, b5, hA, _, _⟩ := ev_rApply nm k sz ot own cnt time hn H qn Q bn B cn C cl val t o v p n hh hq (by omega) (by omega)
  have e : (if ckd k sz ot own cnt time H Q B C cl val = 0 then apV own H Q t o p n else zr 1) = apS k sz ot own cnt time H Q B C cl val t o p n := rfl
  rw [e] at hA
  generalize apS k sz ot own cnt time H Q B C cl val t o p n = r at *
  rw [ev_call P_nurseryref17_Ready rfl]
  cases he : r.e == 0
  · simp [F_nurseryref17_Ready, hA, he]
  · simp [F_nurseryref17_Ready, hA, he]
end Go.VS.R
namespace Go.VS.R
def cbig (c : List D) : Bool := match c with | [_, .sl _ _ r] => decide (17 < r.length) | _ => false
theorem loop_Great (row : List D) (cn : Bool) (cs : List (List D)) (hrow : row.length = 9) (h6 : row.drop 6 = cD cn cs :: row.drop 7) (hn : cs.length ≤ 1000000)
    (hcs : ∀ c, c ∈ cs → ∃ t nb r, c = [I' t, .sl 1 nb r]) : ∀ (suf pre : List (List D)), cs = pre ++ suf →
    ev P (.loop 0 [1, 3] F_nurseryref17_Great_L0 [(1, .d (.ref row)), (3, .d (I' pre.length))] []) =
      if suf.any cbig = true then some (.out .ret [(2, .d (.b true))] []) else some (.out (.exit 0) [] []) := by
  intro suf
  induction suf with
  | nil =>
    intro pre hl
    have : cs.length = pre.length := by simp [hl]
    rw [ev_loop]
    conv => lhs; arg 4; unfold F_nurseryref17_Great_L0
    simp [this, hrow, h6]
  | cons w suf ih =>
    intro pre hl
    have hg : cs[pre.length]? = some w := by simp [hl]
    have hlt : (pre.length : Int) < cs.length := by simp [hl]; omega
    have hnext : IntKind.i64.wrap ((pre.length : Int) + 1) = pre.length + 1 := wrap_i64 (by omega) (by omega)
    have ih' := ih (pre ++ [w]) (by simp [hl])
    simp at ih'
    obtain ⟨t, nb, r, rfl⟩ := hcs w (by simp [hl])
    rw [ev_loop]
    conv => lhs; arg 4; unfold F_nurseryref17_Great_L0
    simp [hlt, hg, hrow, h6]
    by_cases hb : 17 < r.length
    · have hb' : (17 : Int) < r.length := by omega
      simp [hb', cbig, hb]
    · have hb' : ¬ (17 : Int) < r.length := by omega
      simp [hb', cbig, hb, hnext]
      exact ih'
def greatB (H : List Int) (Q : List W) (B : List Int) (C : List (List D)) : Bool :=
  (decide ((17 : Int) < Q.length) || decide ((17 : Int) < H.length) || decide ((17 : Int) < B.length) || decide ((17 : Int) < C.length)) || C.any cbig
theorem ev_Great (own cnt time : Int) (hn : Bool) (H : List Int) (qn : Bool) (Q : List W) (bn : Bool) (B : List Int) (cn : Bool) (C : List (List D)) (cl : Bool) (val : Int)
    (hcs : ∀ c, c ∈ C → ∃ t nb r, c = [I' t, .sl 1 nb r]) :
    ev P (.call nurseryref17_Great [.d (stF own cnt time hn H qn Q bn B cn C cl val)] []) = some (.val (.d (.b (greatB H Q B C))) []) := by
  rw [ev_call P_nurseryref17_Great rfl]
  simp [F_nurseryref17_Great]
  cases hA : (decide ((17 : Int) < Q.length) || decide ((17 : Int) < H.length) || decide ((17 : Int) < B.length) || decide ((17 : Int) < C.length))
  · have hlen : ¬ (17 : Int) < C.length := by simp at hA; omega
    have hl := loop_Great [I' own, I' cnt, I' time, hD hn H, qD qn Q, hD bn B, cD cn C, .b cl, I' val] cn C rfl rfl (by omega) hcs C [] rfl
    simp at hl
    have hS : greatB H Q B C = C.any cbig := by simp only [greatB, hA, Bool.false_or]
    rw [hS]
    simp [hl]
    cases hB : C.any cbig
    · have : ∀ x, x ∈ C → cbig x = false := by simpa using hB
      rw [if_neg (by simpa using this)]
      simp
    · have : ∃ x, x ∈ C ∧ cbig x = true := by simpa using hB
      simp [this]
  · have hS : greatB H Q B C = true := by simp only [greatB, hA, Bool.true_or]
    rw [hS]
    simp
theorem great_len {H : List Int} {Q : List W} {B : List Int} {C : List (List D)} (h : greatB H Q B C = false) : H.length ≤ 17 ∧ Q.length ≤ 17 ∧ B.length ≤ 17 ∧ C.length ≤ 17 := by
  unfold greatB at h
  simp at h
  omega
theorem ev_lock : ev P (.call nurserylaw17_lock [] []) = some (.val (.d (.ag [.s [108], I' 2, I' 0, I' 0])) []) := by
  rw [ev_call P_nurserylaw17_lock rfl]
  simp [F_nurserylaw17_lock, overlay]
theorem ckd_lock {own cnt time : Int} {H : List Int} {Q : List W} {B : List Int} {C : List (List D)} {cl : Bool} {val : Int} : ckd 2 0 0 own cnt time H Q B C cl val = if mvalid own cnt time H Q B C cl val then 0 else 1 := by
  unfold ckd
  rw [if_pos (by decide)]
theorem ev_awake : ev P (.call nurserylaw17_awake [] []) = some (.val (.d (.b true)) []) := by
  have k0 : mnew 2 0 0 = 0 := by decide
  have hN := ev_mNew (.s [108]) 2 0 0
  rw [k0] at hN
  simp [frow] at hN
  obtain ⟨a1, a2, a3, a4, a5, hA, _, _⟩ := ev_mApply (.s [108]) 2 0 0 (-1) 0 0 true [] true [] true [] true [] false 0 1 53 0 0 0 (by simp) (by simp) (by simp) (by simp)
  have eA : (if ckd 2 0 0 (-1) 0 0 [] [] [] [] false 0 = 0 then apV (-1) [] [] 1 53 0 0 else zr 1) = ⟨-1, [1], [], false, true, [], 0⟩ := by rfl
  rw [eA] at hA
  obtain ⟨b1, b2, b3, b4, b5, hB, hb3, hb4⟩ := ev_mApply (.s [108]) 2 0 0 (-1) 0 0 a3 [1] a4 [] a1 [] a2 [] false 0 2 55 0 0 0 (by assumption) (by simp) (by simp) (by simp)
  have eB : (if ckd 2 0 0 (-1) 0 0 [1] [] [] [] false 0 = 0 then apV (-1) [1] [] 2 55 0 0 else zr 1) = ⟨-1, [1], [⟨2, 55, 0, 0, -1⟩], true, false, [], 0⟩ := by rfl
  rw [eB] at hB hb3 hb4
  obtain ⟨c1, c2, c3, c4, c5, hC, hc3, hc4⟩ := ev_mApply (.s [108]) 2 0 0 (-1) 0 0 b3 [1] b4 [⟨2, 55, 0, 0, -1⟩] b1 [] b2 [] false 0 3 53 0 0 0 hb3 hb4 (by simp) (by simp)
  have eC : (if ckd 2 0 0 (-1) 0 0 [1] [⟨2, 55, 0, 0, -1⟩] [] [] false 0 = 0 then apV (-1) [1] [⟨2, 55, 0, 0, -1⟩] 3 53 0 0 else zr 1) = ⟨-1, [1], [⟨2, 55, 0, 0, -1⟩, ⟨3, 53, 0, 0, -1⟩], true, false, [], 0⟩ := by rfl
  rw [eC] at hC hc3 hc4
  obtain ⟨d1, d2, d3, d4, d5, hD', hd3, hd4⟩ := ev_mApply (.s [108]) 2 0 0 (-1) 0 0 c3 [1] c4 [⟨2, 55, 0, 0, -1⟩, ⟨3, 53, 0, 0, -1⟩] c1 [] c2 [] false 0 1 54 0 0 0 hc3 hc4 (by simp) (by simp)
  have eD : (if ckd 2 0 0 (-1) 0 0 [1] [⟨2, 55, 0, 0, -1⟩, ⟨3, 53, 0, 0, -1⟩] [] [] false 0 = 0 then apV (-1) [1] [⟨2, 55, 0, 0, -1⟩, ⟨3, 53, 0, 0, -1⟩] 1 54 0 0 else zr 1) = ⟨2, [], [⟨3, 53, 0, 0, -1⟩], false, true, [⟨2, 55, 0, 0, -1⟩], 0⟩ := by rfl
  rw [eD] at hD'
  obtain ⟨e1, e2, e3, e4, e5, hE, he3, he4⟩ := ev_mWithdraw (.s [108]) 2 0 0 (-1) 0 0 c3 [1] c4 [⟨2, 55, 0, 0, -1⟩, ⟨3, 53, 0, 0, -1⟩] c1 [] c2 [] false 0 2 hc3 hc4 (by simp) (by simp)
  have eE : (if ckd 2 0 0 (-1) 0 0 [1] [⟨2, 55, 0, 0, -1⟩, ⟨3, 53, 0, 0, -1⟩] [] [] false 0 = 0 then wdV (-1) [1] [⟨2, 55, 0, 0, -1⟩, ⟨3, 53, 0, 0, -1⟩] 2 else zr 1) = ⟨-1, [1, 3], [], false, false, [⟨3, 53, 0, 0, -1⟩], 0⟩ := by rfl
  rw [eE] at hE
  have hA : ev P (.call rwlock_Apply [.d (.ag [.s [108], I' 2, I' 0, I' 0]), .d (.ag [I' (-1), I' 0, I' 0, .sl 1 true [], .sl 5 true [], .sl 1 true [], .sl 2 true [], .b false, I' 0]), .d (.ag [I' 1, I' 53, I' 0, I' 0, I' 0])] []) = _ := hA
  have hN : ev P (.call rwlock_New [.d (.ag [.s [108], I' 2, I' 0, I' 0])] []) = some (.val (.tu [.d (.ag [I' (-1), I' 0, I' 0, .sl 1 true [], .sl 5 true [], .sl 1 true [], .sl 2 true [], .b false, I' 0]), .d (I' 0)]) []) := hN
  simp only [zZ, rpD] at hA hB hC hD' hE
  rw [ev_call P_nurserylaw17_awake rfl]
  simp [F_nurserylaw17_awake, ev_lock, hN, hA, hB, hC, hD', hE, thaw, freezeAll, freeze1, wk]
  done
theorem insA_len : ∀ (q : List W) (l : List Int), (insA l q).length = l.length + q.length
  | [], l => by simp [insA]
  | a :: q, l => by
    have := insA_len q (insI a.task l)
    have h := insI_len a.task l
    have e : insA l (a :: q) = insA (insI a.task l) q := rfl
    rw [e, this, h]
    simp; omega
theorem srvM_len (own : Int) (H : List Int) (Q : List W) : (srvM own H Q).2.1.length ≤ H.length + Q.length ∧ (srvM own H Q).2.2.1.length ≤ Q.length ∧ (srvM own H Q).2.2.2.length ≤ Q.length := by
  cases Q with
  | nil => simp [srvM]
  | cons w r =>
    rw [srvM_cons]
    have h1 := insA_len (r.takeWhile fun w => w.op != 55) (insI w.task H)
    have h2 := insI_len w.task H
    have h3 : (r.takeWhile fun w => w.op != 55).length + (r.dropWhile fun w => w.op != 55).length = r.length := by
      rw [← List.length_append, List.takeWhile_append_dropWhile]
    split
    · simp
    · split
      · simp
      · refine ⟨?_, ?_, ?_⟩
        · show (insA (insI w.task H) (r.takeWhile fun w => w.op != 55)).length ≤ _
          simp; omega
        · show (r.dropWhile fun w => w.op != 55).length ≤ _
          simp; omega
        · show (w :: r.takeWhile fun w => w.op != 55).length ≤ _
          simp; omega
theorem zr_len (e : Int) (n : Nat) : (zr e).H.length ≤ n ∧ (zr e).Q.length ≤ n ∧ (zr e).k.length ≤ n := by simp [zr]
theorem lockS_len (own : Int) (H : List Int) (Q : List W) (t o p : Int) : (lockS own H Q t o p).H.length ≤ H.length + 1 ∧ (lockS own H Q t o p).Q.length ≤ Q.length + 1 ∧ (lockS own H Q t o p).k.length ≤ 0 := by
  have h := insI_len t H
  unfold lockS
  split
  · split
    · simp
    · simp; omega
  · simp
theorem apV_len (own : Int) (H : List Int) (Q : List W) (t o p n : Int) : (apV own H Q t o p n).H.length ≤ H.length + Q.length + 1 ∧ (apV own H Q t o p n).Q.length ≤ H.length + Q.length + 1 ∧ (apV own H Q t o p n).k.length ≤ H.length + Q.length + 1 := by
  have hz := fun e => zr_len e (H.length + Q.length + 1)
  have hl := lockS_len own H Q t o p
  have hf : (H.filter fun x => x != t).length ≤ H.length := List.length_filter_le _ _
  have h1 := srvM_len own (H.filter fun x => x != t) Q
  have h2 := srvM_len (-1) H Q
  unfold apV
  split
  · exact hz _
  · split
    · exact hz _
    · split
      · exact hz _
      · split
        · split
          · exact hz _
          · omega
        · split
          · split
            · exact hz _
            · dsimp only; omega
          · split
            · exact hz _
            · dsimp only; omega
theorem wdV_len (own : Int) (H : List Int) (Q : List W) (t : Int) : (wdV own H Q t).H.length ≤ H.length + Q.length + 1 ∧ (wdV own H Q t).Q.length ≤ H.length + Q.length + 1 ∧ (wdV own H Q t).k.length ≤ H.length + Q.length + 1 := by
  have hz := fun e => zr_len e (H.length + Q.length + 1)
  have hf : (Q.filter fun w => w.task != t).length ≤ Q.length := List.length_filter_le _ _
  have h1 := srvM_len own H (Q.filter fun w => w.task != t)
  unfold wdV
  split
  · dsimp only; omega
  · exact hz _
theorem apS_len (k sz ot own cnt time : Int) (H : List Int) (Q : List W) (B : List Int) (C : List (List D)) (cl : Bool) (val : Int) (t o p n : Int) : (apS k sz ot own cnt time H Q B C cl val t o p n).H.length ≤ H.length + Q.length + 1 ∧ (apS k sz ot own cnt time H Q B C cl val t o p n).Q.length ≤ H.length + Q.length + 1 ∧ (apS k sz ot own cnt time H Q B C cl val t o p n).k.length ≤ H.length + Q.length + 1 := by
  unfold apS
  split
  · exact apV_len own H Q t o p n
  · exact zr_len _ _
theorem law_Apply (nm : D) (k sz ot : Int) (own cnt time : Int) (hn : Bool) (H : List Int) (qn : Bool) (Q : List W) (bn : Bool) (B : List Int) (cn : Bool) (C : List (List D)) (cl : Bool) (val : Int) (t o v p n : Int)
    (hh : hn = true → H = []) (hq : qn = true → Q = []) (hcs : ∀ c, c ∈ C → ∃ t nb r, c = [I' t, .sl 1 nb r]) :
    ev P (.call nurserylaw17_RwlockApply [.d (.ag [nm, I' k, I' sz, I' ot]), .d (stF own cnt time hn H qn Q bn B cn C cl val), .d (.ag [I' t, I' o, I' v, I' p, I' n])] []) = some (.val (.d (.b true)) []) := by
  have hG := ev_Great own cnt time hn H qn Q bn B cn C cl val hcs
  rw [ev_call P_nurserylaw17_RwlockApply rfl]
  cases hg : greatB H Q B C
  · rw [hg] at hG
    obtain ⟨l1, l2, l3, l4⟩ := great_len hg
    have hN := ev_mNew nm k sz ot
    have hN' := ev_rNew nm k sz ot
    have hC := ev_mCheck nm k sz ot own cnt time hn H qn Q bn B cn C cl val hh hq (by omega) (by omega)
    have hC' := ev_rCheck nm k sz ot own cnt time hn H qn Q bn B cn C cl val (by omega) (by omega)
    have hR := ev_mReady nm k sz ot own cnt time hn H qn Q bn B cn C cl val t o v p n hh hq (by omega) (by omega)
    have hR' := ev_rReady nm k sz ot own cnt time hn H qn Q bn B cn C cl val t o v p n hh hq (by omega) (by omega)
    obtain ⟨a1, a2, a3, a4, a5, hA, _, _⟩ := ev_mApply nm k sz ot own cnt time hn H qn Q bn B cn C cl val t o v p n hh hq (by omega) (by omega)
    obtain ⟨b1, b2, b3, b4, b5, hB, _, _⟩ := ev_rApply nm k sz ot own cnt time hn H qn Q bn B cn C cl val t o v p n hh hq (by omega) (by omega)
    have hb := apS_len k sz ot own cnt time H Q B C cl val t o p n
    have e : (if ckd k sz ot own cnt time H Q B C cl val = 0 then apV own H Q t o p n else zr 1) = apS k sz ot own cnt time H Q B C cl val t o p n := rfl
    rw [e] at hA hB
    generalize apS k sz ot own cnt time H Q B C cl val t o p n = r at *
    have hS := ev_SameReply a1 a2 b1 b2 a3 b3 a4 b4 a5 b5 r.own r.H r.Q r.parked r.ok r.k (by omega) (by omega) (by omega)
    have e2 : (if mnew k sz ot = 0 then (if mvalid own cnt time H Q B C cl val then 0 else 1) else mnew k sz ot) = ckd k sz ot own cnt time H Q B C cl val := rfl
    rw [e2] at hC hC'
    generalize ckd k sz ot own cnt time H Q B C cl val = ck at *
    have hSt : ev P (.call nurseryref17_SameState [.d (.ag (if mnew k sz ot = 0 then frow else zrow)), .d (.ag (if mnew k sz ot = 0 then frow else zrow))] []) = some (.val (.d (.b true)) []) := by
      split
      · exact ev_SameState true true true true true true true true (-1) 0 0 0 false [] [] [] (by simp) (by simp) (by simp)
      · exact ev_SameState true true true true true true true true 0 0 0 0 false [] [] [] (by simp) (by simp) (by simp)
    have hfz : (if mnew k sz ot = 0 then frow else zrow).length = 9 := by split <;> rfl
    generalize (if mnew k sz ot = 0 then frow else zrow) = fz at *
    have hft : fz.take 9 = fz := List.take_of_length_le (by omega)
    simp [F_nurserylaw17_RwlockApply, allD_map', hft, hG, hN, hN', hC, hC', hR, hR', hA, hB, hS, hSt, hfz, ev_awake]
    done
  · rw [hg] at hG
    simp [F_nurserylaw17_RwlockApply, hG, ev_awake]
theorem law_Withdraw (nm : D) (k sz ot : Int) (own cnt time : Int) (hn : Bool) (H : List Int) (qn : Bool) (Q : List W) (bn : Bool) (B : List Int) (cn : Bool) (C : List (List D)) (cl : Bool) (val : Int) (t : Int)
    (hh : hn = true → H = []) (hq : qn = true → Q = []) (hcs : ∀ c, c ∈ C → ∃ t nb r, c = [I' t, .sl 1 nb r]) :
    ev P (.call nurserylaw17_RwlockWithdraw [.d (.ag [nm, I' k, I' sz, I' ot]), .d (stF own cnt time hn H qn Q bn B cn C cl val), .d (I' t)] []) = some (.val (.d (.b true)) []) := by
  have hG := ev_Great own cnt time hn H qn Q bn B cn C cl val hcs
  rw [ev_call P_nurserylaw17_RwlockWithdraw rfl]
  cases hg : greatB H Q B C
  · rw [hg] at hG
    obtain ⟨l1, l2, l3, l4⟩ := great_len hg
    obtain ⟨a1, a2, a3, a4, a5, hA, _, _⟩ := ev_mWithdraw nm k sz ot own cnt time hn H qn Q bn B cn C cl val t hh hq (by omega) (by omega)
    obtain ⟨b1, b2, b3, b4, b5, hB, _, _⟩ := ev_rWithdraw nm k sz ot own cnt time hn H qn Q bn B cn C cl val t hh hq (by omega) (by omega)
    have hb := wdV_len own H Q t
    have hz := zr_len 1 50
    have hb2 : (if ckd k sz ot own cnt time H Q B C cl val = 0 then wdV own H Q t else zr 1).H.length ≤ 100 ∧ (if ckd k sz ot own cnt time H Q B C cl val = 0 then wdV own H Q t else zr 1).Q.length ≤ 100 ∧ (if ckd k sz ot own cnt time H Q B C cl val = 0 then wdV own H Q t else zr 1).k.length ≤ 100 := by
      split <;> omega
    generalize (if ckd k sz ot own cnt time H Q B C cl val = 0 then wdV own H Q t else zr 1) = r at *
    have hS := ev_SameReply a1 a2 b1 b2 a3 b3 a4 b4 a5 b5 r.own r.H r.Q r.parked r.ok r.k (by omega) (by omega) (by omega)
    have hH := ev_Holds own (I' cnt) (I' time) (qD qn Q) (hD bn B) (cD cn C) (.b cl) (I' val) hn H t (by omega)
    have hH' := ev_rHolds own (I' cnt) (I' time) (qD qn Q) (hD bn B) (cD cn C) (.b cl) (I' val) hn H t (by omega)
    simp [F_nurserylaw17_RwlockWithdraw, hG, hA, hB, hS, hH, hH', ev_awake]
  · rw [hg] at hG
    simp [F_nurserylaw17_RwlockWithdraw, hG, ev_awake]
end Go.VS.R
