import Derived.Test.YtifnkfombicejaaV07
set_option linter.all false
namespace Go.VS.Tp
/-! wait, subscribe -/
def wB (z : Z) (sz : Int) (qn : Bool) (Q' : List W) (cn : Bool) (C : List K) : List O :=
  match qn, cn with
  | true, true => [lkD z sz (qD false Q') (.sl 2 true []) (.sl 5 true [])]
  | true, false => [lkV z sz (.d (qD false Q')) (.asl 1 0 C.length) (.d (.sl 5 true [])), .arrD 2 true (C.map K.row)]
  | false, true => [lkV z sz (.d (qD false Q')) (.d (.sl 2 true [])) (.d (.sl 5 true [])), .dead]
  | false, false => [lkV z sz (.d (qD false Q')) (.asl 2 0 C.length) (.d (.sl 5 true [])), .dead, .arrD 2 true (C.map K.row)]
theorem ev_wait (z : Z) (sz : Int) (qn : Bool) (Q : List W) (cn : Bool) (C : List K) (t op v p n x : Int) (h1 : qn = true → Q = []) (h3 : Q.length ≤ 1000000) :
    ev P (.call topic_board_wait [.loc 0 0 0, .d (.ag [I' t, I' op, I' v, I' p, I' n]), .d (I' x)] (gB z sz qn Q cn C)) = some (.val (.tu []) (wB z sz qn (Q ++ [⟨t, op, x, p, -1⟩]) cn C)) := by
  rw [ev_call P_topic_board_wait rfl]
  cases qn
  · have hr : Q.length + 1 ≤ room := by unfold room; omega
    cases cn <;> simp [F_topic_board_wait, gB, wB, lkD, lkV, W.row, reachC, cut, rg2, rg3, rg4, List.idxOf_cons, endH, hr, V.same_self, take_map_len, take_snoc, Nat.not_succ_le_self, thaw, freezeAll, freeze1]
  · have hr : 1 ≤ room := by unfold room; omega
    obtain rfl := h1 rfl
    cases cn <;> simp [F_topic_board_wait, gB, wB, lkD, lkV, W.row, reachC, cut, rg2, rg3, rg4, List.idxOf_cons, endH, hr, V.same_self, take_map_len, take_snoc, Nat.not_succ_le_self, thaw, freezeAll, freeze1]
def subN (C : List K) (t : Int) : Nat := (C.takeWhile fun c => decide (c.task < t)).length
def subC (C : List K) (t : Int) : List K := C.take (subN C t) ++ ⟨t, true, []⟩ :: C.drop (subN C t)
def sB (z : Z) (sz : Int) (qn : Bool) (Q : List W) (cn : Bool) (C' : List K) : List O :=
  match qn, cn with
  | true, true => [lkV z sz (.d (.sl 5 true [])) (.asl 1 0 C'.length) (.d (.sl 5 true [])), .arrD 2 true (C'.map K.row)]
  | true, false => [lkV z sz (.d (.sl 5 true [])) (.asl 2 0 C'.length) (.d (.sl 5 true [])), .dead, .arrD 2 true (C'.map K.row)]
  | false, true => [lkV z sz (.asl 1 0 Q.length) (.asl 2 0 C'.length) (.d (.sl 5 true [])), .arrD 5 true (Q.map W.row), .arrD 2 true (C'.map K.row)]
  | false, false => [lkV z sz (.asl 1 0 Q.length) (.asl 3 0 C'.length) (.d (.sl 5 true [])), .arrD 5 true (Q.map W.row), .dead, .arrD 2 true (C'.map K.row)]
theorem loop_sub (z : Z) (sz : Int) (qn : Bool) (Q : List W) (C : List K) (t : Int) (hn : C.length ≤ 1000000) : ∀ (suf pre : List K), C = pre ++ suf →
    ev P (.loop (if qn = true then 2 else 3) [0, 1, 4] F_topic_board_subscribe_L0 [(0, .loc 0 0 0), (1, .d (I' t)), (4, .d (I' pre.length))] (gB z sz qn Q false C)) =
      some (.out (.exit 0) [(0, .loc 0 0 0), (1, .d (I' t)), (4, .d (I' (pre.length + subN suf t : Nat)))] (gB z sz qn Q false C)) := by
  intro suf
  induction suf with
  | nil =>
    intro pre hl
    have : C.length = pre.length := by simp [hl]
    rw [ev_loop]
    conv => lhs; arg 4; unfold F_topic_board_subscribe_L0
    cases qn <;> simp [this, subN, gB, lkV, reachC, cut, rg2, rg3, List.idxOf_cons]
  | cons c suf ih =>
    intro pre hl
    have hg : C[pre.length]? = some c := by simp [hl]
    have hlt2 : pre.length < C.length := by simp [hl]
    have hgg : C[pre.length] = c := by simpa [List.getElem?_eq_getElem hlt2] using hg
    have hlt : (pre.length : Int) < C.length := by omega
    have hnext : IntKind.i64.wrap ((pre.length : Int) + 1) = pre.length + 1 := wrap_i64 (by omega) (by omega)
    have ih' := ih (pre ++ [c]) (by simp [hl])
    rw [ev_loop]
    conv => lhs; arg 4; unfold F_topic_board_subscribe_L0
    by_cases hc : c.task < t
    · have e : subN (c :: suf) t = subN suf t + 1 := by simp [subN, hc]
      rw [e]
      have e2 : pre.length + (subN suf t + 1) = (pre ++ [c]).length + subN suf t := by simp; omega
      rw [e2, ← ih']
      generalize hR : ev P (.loop (if qn = true then 2 else 3) [0, 1, 4] F_topic_board_subscribe_L0 [(0, .loc 0 0 0), (1, .d (I' t)), (4, .d (I' (pre ++ [c]).length))] (gB z sz qn Q false C)) = R
      cases qn
      all_goals
        simp [gB, lkV] at hR
        simp [hlt, hlt2, hgg, K.row, hc, hnext, gB, lkV, reachC, cut, rg2, rg3, List.idxOf_cons, hR]
    · have e : subN (c :: suf) t = 0 := by simp [subN, hc]
      rw [e]
      cases qn <;> simp [hlt, hlt2, hgg, K.row, hc, hnext, gB, lkV, reachC, cut, rg2, rg3, List.idxOf_cons]
theorem subN_le (C : List K) (t : Int) : subN C t ≤ C.length := (List.takeWhile_sublist _).length_le
theorem ev_subscribe (z : Z) (sz : Int) (qn : Bool) (Q : List W) (cn : Bool) (C : List K) (t : Int) (h2 : cn = true → C = []) (hn : C.length ≤ 100000) :
    ev P (.call topic_board_subscribe [.loc 0 0 0, .d (I' t)] (gB z sz qn Q cn C)) = some (.val (.tu []) (sB z sz qn Q cn (subC C t))) := by
  have hI := ev_prim P_slices_Insert_api_Cursor_api_Cursor (p := insP 2) rfl
  have hL := loop_sub z sz qn Q C t (by omega) C [] rfl
  have hb := subN_le C t
  have hlen : (subC C t).length = C.length + 1 := by simp [subC]; omega
  have hrow : (subC C t).map K.row = (C.map K.row).take (subN C t) ++ [I' t, .sl 1 true []] :: (C.map K.row).drop (subN C t) := by simp [subC, List.map_take, List.map_drop, K.row]
  have hlen2 : ((C.map K.row).take (subN C t) ++ [I' t, .sl 1 true []] :: (C.map K.row).drop (subN C t)).length = C.length + 1 := by simp; omega
  rw [ev_call P_topic_board_subscribe rfl]
  cases cn
  · have hr : C.length + 1 ≤ room := by unfold room; omega
    generalize subC C t = C' at *
    generalize subN C t = N at *
    simp only [List.length_nil, Nat.zero_add] at hL
    cases qn
    all_goals
      simp [gB, lkV] at hL
      simp [F_topic_board_subscribe, hL, hI, insP, insRows, hr, hb, gB, sB, lkV, lkD, callR, sub, setAll, back, reachC, cut, rg2, rg3, rg4, List.idxOf_cons, endH, take_map_len, hlen, hrow]
  · obtain rfl := h2 rfl
    have hr : 1 ≤ room := by unfold room; omega
    cases qn <;> simp [F_topic_board_subscribe, F_topic_board_subscribe_L0, ev_loop, hI, insP, insRows, hr, gB, sB, lkV, lkD, callR, sub, setAll, back, reachC, cut, rg2, rg3, rg4, List.idxOf_cons, endH, subC, subN, K.row]
end Go.VS.Tp
namespace Go.VS.Tp
/-! next -/
@[simp] theorem Wk.eta (w : Wk) : Wk.mk w.task w.op w.value = w := rfl
theorem loop_IndexWk {f : Nat} {first caps : List D} {p : Wk → Bool} (nl : Bool) (l : List Wk) (hn : l.length ≤ 1000000)
    (hp : ∀ a b c, ev P (.call f (first.map V.d ++ [.d (.ag [I' a, I' b, I' c, .b true, I' (-1)])] ++ caps.map V.d) []) = some (.val (.d (.b (p ⟨a, b, c⟩))) [])) :
    ∀ (suf pre : List Wk), l = pre ++ suf →
    ev P (.loop 0 [0, 1, 7, 8] F_slices_IndexFunc_api_Wake_api_Wake_L0 [(0, .d (.sl 5 nl (l.map Wk.row))), (1, .d (.fn f first caps)), (7, .d (I' l.length)), (8, .d (I' pre.length))] []) =
      if idx p pre.length suf = -1 then some (.out (.exit 0) [] []) else some (.out .ret [(4, .d (I' (idx p pre.length suf)))] []) := by
  intro suf
  induction suf with
  | nil =>
    intro pre hl
    have : l.length = pre.length := by simp [hl]
    rw [ev_loop]
    conv => lhs; arg 4; unfold F_slices_IndexFunc_api_Wake_api_Wake_L0
    simp [this, idx]
  | cons w suf ih =>
    intro pre hl
    have hg : l[pre.length]? = some w := by simp [hl]
    have hlt : (pre.length : Int) < l.length := by simp [hl]; omega
    have hnext : IntKind.i64.wrap ((pre.length : Int) + 1) = pre.length + 1 := wrap_i64 (by omega) (by omega)
    have ih' := ih (pre ++ [w]) (by simp [hl])
    simp at ih' hp
    rw [ev_loop]
    conv => lhs; arg 4; unfold F_slices_IndexFunc_api_Wake_api_Wake_L0
    simp [hlt, hg, Wk.row, hp, allD_mid]
    cases hw : p w
    · simp [idx, hw, hnext]
      exact ih'
    · have : ¬ (pre.length : Int) = -1 := by omega
      simp [idx, hw, this]
theorem ev_IndexWk {f : Nat} {first caps : List D} {p : Wk → Bool} (nl : Bool) (l : List Wk) (hn : l.length ≤ 1000000)
    (hp : ∀ a b c, ev P (.call f (first.map V.d ++ [.d (.ag [I' a, I' b, I' c, .b true, I' (-1)])] ++ caps.map V.d) []) = some (.val (.d (.b (p ⟨a, b, c⟩))) [])) :
    ev P (.call slices_IndexFunc_api_Wake_api_Wake [.d (.sl 5 nl (l.map Wk.row)), .d (.fn f first caps)] []) = some (.val (.d (I' (idx p 0 l))) []) := by
  rw [ev_call P_slices_IndexFunc_api_Wake_api_Wake rfl]
  have hl := loop_IndexWk nl l hn hp l [] rfl
  simp at hl
  simp [F_slices_IndexFunc_api_Wake_api_Wake, hl]
  by_cases hc : idx p 0 l = -1 <;> simp [hc]
theorem ev_nextC1 (t x1 x2 x3 x4 a b c : Int) : ev P (.call topic_board_nextC1 [.d (.ag [I' a, I' b, I' c, .b true, I' (-1)]), .d (.ref [I' t, I' x1, I' x2, I' x3, I' x4])] []) = some (.val (.d (.b (a == t))) []) := by
  rw [ev_call P_topic_board_nextC1 rfl]
  simp [F_topic_board_nextC1]
def fwk (l : List Wk) (t : Int) : Int := idx (fun w => w.task == t) 0 l
theorem ev_fwk (nl : Bool) (l : List Wk) (t x1 x2 x3 x4 : Int) (hn : l.length ≤ 1000000) :
    ev P (.call slices_IndexFunc_api_Wake_api_Wake [.d (kD nl l), .d (.fn topic_board_nextC1 [] [.ref [I' t, I' x1, I' x2, I' x3, I' x4]])] []) = some (.val (.d (I' (fwk l t))) []) := by
  have h := ev_IndexWk (f := topic_board_nextC1) (first := []) (caps := [.ref [I' t, I' x1, I' x2, I' x3, I' x4]]) (p := fun w => w.task == t) nl l hn (by intro a b c; simp [ev_nextC1])
  exact h
theorem ev_ClonepI (q : List Int) (hn : q.length ≤ 1000000) :
    ev P (.call slices_Clone_int_int_p [.d (hD false q)] []) = some (.val (.d (hD false q)) []) := by
  have hr : q.length ≤ room := by unfold room; omega
  rw [ev_call P_slices_Clone_int_int_p rfl]
  cases q with
  | nil => simp [F_slices_Clone_int_int_p, F_slices_Clone_int_int, mkRows, allDs, reachC, cut, endH]
  | cons a r =>
    simp at hr
    simp [F_slices_Clone_int_int_p, F_slices_Clone_int_int, mkRows, allDs, reachC, cut, hr, endH, take_map_len]
def z13 : List D := [I' 0, I' 0, I' 0, .sl 1 true [], .sl 5 true [], .sl 1 true [], .sl 2 true [], .b false, I' 0, .b false, I' 0, .b false, .sl 5 true []]
def r13 (p : Bool) (v : Int) (ok : Bool) : List D := [I' 0, I' 0, I' 0, .sl 1 true [], .sl 5 true [], .sl 1 true [], .sl 2 true [], .b false, I' 0, .b p, I' v, .b ok, .sl 5 true []]
def hkq (qn : Bool) (Q : List W) : Hk := if qn = true then .w0 else .wc Q
set_option maxHeartbeats 4000000 in
theorem ev_next1 (z : Z) (sz : Int) (qn : Bool) (Q : List W) (C A B : List K) (c : K) (t op v p n x : Int) (lg : List Int) (hC : C = A ++ c :: B) (hf : fnd C t = (A.length : Int)) (hlg : c.log = x :: lg)
    (h1 : qn = true → Q = []) (h3 : Q.length ≤ 1000) (h4 : C.length ≤ 1000) (h5 : ∀ c ∈ C, (c.nl = true → c.log = []) ∧ c.log.length ≤ 1000) :
    ev P (.call topic_board_next [.loc 0 0 0, .d (.ag [I' t, I' op, I' v, I' p, I' n])] (gB z sz qn Q false C)) =
      some (.val (.d (.ag (r13 false x true))) (pR z sz (qD (adv sz qn Q (A ++ ⟨c.task, false, lg⟩ :: B)).qn (adv sz qn Q (A ++ ⟨c.task, false, lg⟩ :: B)).Q) (adv sz qn Q (A ++ ⟨c.task, false, lg⟩ :: B)).C (some []) (hkq qn Q) (adv sz qn Q (A ++ ⟨c.task, false, lg⟩ :: B)).wn)) := by
  have hcm := h5 c (by simp [hC])
  have hlen : (A ++ ⟨c.task, false, lg⟩ :: B).length = C.length := by simp [hC]
  have hl2 : lg.length ≤ 1000 := by have := hcm.2; rw [hlg] at this; simp at this; omega
  have hnl : c.nl = false := by
    cases h : c.nl
    · rfl
    · have := hcm.1 h; rw [hlg] at this; cases this
  have hok : Ad.ok (some []) ⟨qn, Q, A ++ ⟨c.task, false, lg⟩ :: B, []⟩ := by
    refine ⟨?_, ?_, ?_, ?_, h1⟩
    · intro h; cases h
    · simp only; omega
    · intro d hd
      simp only at hd ⊢
      rw [List.mem_append, List.mem_cons] at hd
      rcases hd with hd | rfl | hd
      · have := h5 d (by rw [hC]; simp [hd])
        exact ⟨this.1, by omega⟩
      · exact ⟨by simp, by simp only; omega⟩
      · have := h5 d (by rw [hC]; simp [hd])
        exact ⟨this.1, by omega⟩
    · simp; omega
  have hA := ev_advance z sz qn Q (A ++ ⟨c.task, false, lg⟩ :: B) (some []) (hkq qn Q) hok (by
    cases qn
    · exact .inr ⟨rfl, rfl⟩
    · exact .inl rfl)
  have hl : (adv sz qn Q (A ++ ⟨c.task, false, lg⟩ :: B)).C.length = C.length := (advF_len sz _ _).trans hlen
  generalize adv sz qn Q (A ++ ⟨c.task, false, lg⟩ :: B) = a at *
  obtain ⟨qn', Q', C', wn⟩ := a
  simp only at hA hl ⊢
  have hfi : ∀ (d0 d1 d2 d3 d4 d5 d7 d8 : D), ev P (.call topic_find [.d (.ag [d0, d1, d2, d3, d4, d5, cD false C, d7, d8]), .d (I' t)] []) = some (.val (.d (I' A.length)) []) := by
    intro d0 d1 d2 d3 d4 d5 d7 d8
    have := ev_find d0 d1 d2 d3 d4 d5 d7 d8 false C t (by omega)
    rw [hf] at this
    exact this
  have hcl := ev_ClonepI lg (by omega)
  have hgr : C.map K.row = A.map K.row ++ [I' c.task, .sl 1 false (rows1 (x :: lg))] :: B.map K.row := by rw [hC]; simp [K.row, hnl, hlg]
  have hgm := get_mid (A := A.map K.row) (B := B.map K.row) (x := [I' c.task, .sl 1 false (rows1 (x :: lg))]) (n := A.length) (by simp)
  have hsm := fun y => set_mid (A := A.map K.row) (B := B.map K.row) (x := [I' c.task, .sl 1 false (rows1 (x :: lg))]) (y := y) (n := A.length) (by simp)
  have hCl : C.length = A.length + (B.length + 1) := by rw [hC]; simp
  have hlt : (A.length : Int) < A.length + (B.length + 1) := by omega
  have n2 : A.length < A.length + (B.length + 1) := by omega
  have htk : ∀ r : List D, List.take (A.length + (B.length + 1)) (A.map K.row ++ r :: B.map K.row) = A.map K.row ++ r :: B.map K.row := fun r => List.take_of_length_le (by simp)
  have h6 : (1 : Int) ≤ lg.length + 1 := by omega
  rw [ev_call P_topic_board_next rfl]
  simp only [rows1, List.map_cons] at hgm hsm hgr
  cases qn
  · rcases wn with _ | ⟨w, wn⟩
    all_goals
      simp [pH, pR, hB, bH, fH, hkq, lkV, lkD, hl, hCl, K.row] at hA
      have hfi2 := hfi
      simp only [cD, hgr] at hfi2
      simp [F_topic_board_next, gB, pR, bH, fH, hkq, r13, lkV, lkD, hfi2, hA, hgr, hgm, hsm, hCl, htk, hlt, n2, h6, hl, hcl, callR, sub, setAll, back, reachC, cut, rg2, rg3, rg4, List.idxOf_cons, take_map_len, endH, V.same_self]
  · obtain rfl := h1 rfl
    rcases wn with _ | ⟨w, wn⟩
    all_goals
      simp [pH, pR, hB, bH, fH, hkq, lkV, lkD, hl, hCl, K.row, qD] at hA
      have hfi2 := hfi
      simp only [cD, hgr] at hfi2
      simp [F_topic_board_next, qD, gB, pR, bH, fH, hkq, r13, lkV, lkD, hfi2, hA, hgr, hgm, hsm, hCl, htk, hlt, n2, h6, hl, hcl, callR, sub, setAll, back, reachC, cut, rg2, rg3, rg4, List.idxOf_cons, take_map_len, endH, V.same_self]
end Go.VS.Tp
namespace Go.VS.Tp
/-! next that waits -/
/-- those who are woken: data, or an array -/
inductive Wn where
  | d (n : Bool) (l : List Wk)
  | m (l : List Wk)
def nB (z : Z) (sz : Int) (qn : Bool) (q : D) (C : List K) : Wn → List O
  | .d n l => if qn = true then [lkV z sz (.d q) (.asl 1 0 C.length) (.d (kD n l)), .arrD 2 true (C.map K.row)] else [lkV z sz (.d q) (.asl 2 0 C.length) (.d (kD n l)), .dead, .arrD 2 true (C.map K.row)]
  | .m l => if qn = true then [lkV z sz (.d q) (.asl 1 0 C.length) (.asl 2 0 l.length), .arrD 2 true (C.map K.row), .arrD 5 true (l.map Wk.row)] else [lkV z sz (.d q) (.asl 2 0 C.length) (.asl 3 0 l.length), .dead, .arrD 2 true (C.map K.row), .arrD 5 true (l.map Wk.row)]
def mW : List Wk → Wn
  | [] => .d true []
  | a :: l => .m (a :: l)
/-- what a task that waits has got at once: the value, and those who are woken beside it -/
def got (l : List Wk) (t : Int) : Option (Int × List Wk) := if fwk l t < 0 then none else (l[(fwk l t).toNat]?).map fun w => (w.value, l.eraseIdx (fwk l t).toNat)
set_option maxHeartbeats 4000000 in
theorem ev_next2 (z : Z) (sz : Int) (qn : Bool) (Q : List W) (C A B : List K) (c : K) (t op v p n : Int) (hC : C = A ++ c :: B) (hf : fnd C t = (A.length : Int)) (hlg : c.log = [])
    (h1 : qn = true → Q = []) (h3 : Q.length ≤ 1000) (h4 : C.length ≤ 1000) (h5 : ∀ c ∈ C, (c.nl = true → c.log = []) ∧ c.log.length ≤ 1000) (hwl : (adv sz false (Q ++ [⟨t, op, 0, p, -1⟩]) C).wn.length ≤ 100000) :
    ev P (.call topic_board_next [.loc 0 0 0, .d (.ag [I' t, I' op, I' v, I' p, I' n])] (gB z sz qn Q false C)) =
      some (match got (adv sz false (Q ++ [⟨t, op, 0, p, -1⟩]) C).wn t with
        | none => .val (.d (.ag (r13 true 0 false))) (nB z sz qn (qD (adv sz false (Q ++ [⟨t, op, 0, p, -1⟩]) C).qn (adv sz false (Q ++ [⟨t, op, 0, p, -1⟩]) C).Q) (adv sz false (Q ++ [⟨t, op, 0, p, -1⟩]) C).C (mW (adv sz false (Q ++ [⟨t, op, 0, p, -1⟩]) C).wn))
        | some x => .val (.d (.ag (r13 false x.1 true))) (nB z sz qn (qD (adv sz false (Q ++ [⟨t, op, 0, p, -1⟩]) C).qn (adv sz false (Q ++ [⟨t, op, 0, p, -1⟩]) C).Q) (adv sz false (Q ++ [⟨t, op, 0, p, -1⟩]) C).C (.d false x.2))) := by
  have hw := ev_wait z sz qn Q false C t op v p n 0 h1 (by omega)
  have hok : Ad.ok (some []) ⟨false, Q ++ [⟨t, op, 0, p, -1⟩], C, []⟩ := by
    refine ⟨?_, ?_, ?_, ?_, ?_⟩
    · intro h; cases h
    · simp only; omega
    · intro d hd
      have := h5 d hd
      refine ⟨this.1, ?_⟩
      simp
      omega
    · simp; omega
    · intro h; cases h
  have hA := ev_advance z sz false (Q ++ [⟨t, op, 0, p, -1⟩]) C (some []) .w0 hok (.inl rfl)
  have hl : (adv sz false (Q ++ [⟨t, op, 0, p, -1⟩]) C).C.length = C.length := advF_len sz _ _
  generalize adv sz false (Q ++ [⟨t, op, 0, p, -1⟩]) C = a at *
  obtain ⟨qn', Q', C', wn⟩ := a
  simp only at hA hl hwl ⊢
  have hfi : ∀ (d0 d1 d2 d3 d4 d5 d7 d8 : D), ev P (.call topic_find [.d (.ag [d0, d1, d2, d3, d4, d5, cD false C, d7, d8]), .d (I' t)] []) = some (.val (.d (I' A.length)) []) := by
    intro d0 d1 d2 d3 d4 d5 d7 d8
    have := ev_find d0 d1 d2 d3 d4 d5 d7 d8 false C t (by omega)
    rw [hf] at this
    exact this
  have hgr : C.map K.row = A.map K.row ++ [I' c.task, .sl 1 c.nl []] :: B.map K.row := by rw [hC]; simp [K.row, hlg]
  have hgm := get_mid (A := A.map K.row) (B := B.map K.row) (x := [I' c.task, .sl 1 c.nl []]) (n := A.length) (by simp)
  have hCl : C.length = A.length + (B.length + 1) := by rw [hC]; simp
  have hlt : (A.length : Int) < A.length + (B.length + 1) := by omega
  have n2 : A.length < A.length + (B.length + 1) := by omega
  have htk : ∀ r : List D, List.take (A.length + (B.length + 1)) (A.map K.row ++ r :: B.map K.row) = A.map K.row ++ r :: B.map K.row := fun r => List.take_of_length_le (by simp)
  have hfi2 := hfi
  simp only [cD, hgr] at hfi2
  have hk := fun nl => ev_fwk nl wn t op v p n (by omega)
  rw [ev_call P_topic_board_next rfl]
  by_cases hg : fwk wn t < 0
  · have hgt : got wn t = none := by simp [got, hg]
    rw [hgt]
    cases qn
    all_goals
      rcases wn with _ | ⟨w, wn⟩
      all_goals
        simp [gB, wB, lkV, lkD, hCl, hgr] at hw
        simp [pH, pR, hB, bH, fH, lkV, lkD, hl, hCl, hgr] at hA
        have hk0 := hk false
        have hk1 := hk true
        simp only [kD, List.map_cons, List.map_nil] at hk0 hk1
        simp [F_topic_board_next, gB, nB, mW, r13, lkV, lkD, hfi2, hw, hA, hgr, hgm, hCl, htk, hlt, n2, hl, hk0, hk1, hg, callR, sub, setAll, back, reachC, cut, rg2, rg3, rg4, List.idxOf_cons, take_map_len, endH, V.same_self]
  · rcases idx_spec (p := fun w : Wk => w.task == t) wn 0 with ⟨g1, _⟩ | ⟨i, w, g1, g2, _⟩
    · exfalso
      have : fwk wn t = -1 := g1
      omega
    · have g1' : fwk wn t = (i : Int) := by simpa [fwk] using g1
      obtain ⟨W1, W2, hW, hWl⟩ : ∃ W1 W2, wn = W1 ++ w :: W2 ∧ W1.length = i := by
        obtain ⟨hlt, he⟩ := List.getElem?_eq_some_iff.1 g2
        refine ⟨wn.take i, wn.drop (i + 1), ?_, by simp; omega⟩
        rw [← he]; simp
      subst hWl
      have hgt : got wn t = some (w.value, W1 ++ W2) := by
        have e : ((W1.length : Int)).toNat = W1.length := by omega
        simp only [got, g1', e, g2, Option.map_some]
        rw [if_neg (by omega), hW, List.eraseIdx_append_of_length_le (by omega)]
        simp
      rw [hgt]
      rw [g1'] at hk
      have n3 : ¬ ((W1.length : Int) < 0) := by omega
      have hW0 : wn = W1 ++ w :: W2 := hW
      have hwn : ∃ x y, wn = x :: y := by
        cases W1 with
        | nil => exact ⟨w, W2, hW⟩
        | cons a r => exact ⟨a, r ++ w :: W2, hW⟩
      have hwr : w.row = [I' w.task, I' w.op, I' w.value, .b true, I' (-1)] := rfl
      have hmr : wn.map Wk.row = W1.map Wk.row ++ w.row :: W2.map Wk.row := by rw [hW]; simp
      have hD := ev_DeleteWk (W1.map Wk.row) (W2.map Wk.row) w.row (by rw [hW] at hwl; simp at hwl ⊢; omega)
      have hgm2 := get_mid (A := W1.map Wk.row) (B := W2.map Wk.row) (x := w.row) (n := W1.length) (by simp)
      have hwnl : wn.length = W1.length + (W2.length + 1) := by rw [hW]; simp
      have hw1 : IntKind.i64.wrap ((W1.length : Int) + 1) = W1.length + 1 := wrap_i64 (by omega) (by omega)
      have htk2 : ∀ r : List D, List.take (W1.length + (W2.length + 1)) (W1.map Wk.row ++ r :: W2.map Wk.row) = W1.map Wk.row ++ r :: W2.map Wk.row := fun r => List.take_of_length_le (by simp)
      have htk3 : ∀ r : List D, List.take (W1.length + W2.length) (W1.map Wk.row ++ (W2.map Wk.row ++ [r])) = W1.map Wk.row ++ W2.map Wk.row := fun r => by
        have : W1.map Wk.row ++ (W2.map Wk.row ++ [r]) = (W1.map Wk.row ++ W2.map Wk.row) ++ [r] := by simp
        rw [this]
        exact List.take_left' (by simp)
      have hlt3 : (W1.length : Int) < W1.length + (W2.length + 1) := by omega
      have n4 : W1.length < W1.length + (W2.length + 1) := by omega
      have hk0 := hk false
      simp only [kD, hmr] at hk0
      have hA' : ∀ (x : List O), bH z sz (qD qn' Q') C' 0 (some []) .w0 wn ++ fH .w0 wn = [lkV z sz (.d (qD qn' Q')) (.asl 1 0 C'.length) (.asl 2 0 wn.length), .arrD 2 true (C'.map K.row), .arrD 5 true (wn.map Wk.row)] := by
        intro _
        obtain ⟨x, y, hxy⟩ := hwn
        rw [hxy]
        simp [bH, fH]
      unfold pR at hA
      rw [hA' []] at hA
      rw [hmr, hwnl] at hA
      simp [hwr] at hD hgm2 hk0
      cases qn
      all_goals
        simp [gB, wB, lkV, lkD, hCl, hgr] at hw
        simp [pH, hB, lkV, lkD, hl, hCl, hgr, hwr] at hA
        simp [F_topic_board_next, gB, nB, r13, lkV, lkD, hfi2, hw, hA, hgr, hgm, hCl, htk, hlt, n2, hl, hk0, n3, hD, hgm2, hw1, htk2, htk3, hlt3, n4, hwr, callR, sub, setAll, back, thaw, freezeAll, freeze1, reachC, cut, rg2, rg3, rg4, List.idxOf_cons, take_map_len, endH, V.same_self]
end Go.VS.Tp
namespace Go.VS.Tp
/-! the operations that Apply performs -/
abbrev up (h : List O) : List O := h
theorem ev_C1 (z : Z) (sz : Int) (qn : Bool) (Q : List W) (cn : Bool) (C : List K) (t op v p n : Int) (h1 : qn = true → Q = []) (h2 : cn = true → C = []) (hn : C.length ≤ 100000) :
    ev P (.call topic_ApplyC1 [.rf [.loc 0 0 0], .d (.ref [I' t, I' op, I' v, I' p, I' n])] (up (gB z sz qn Q cn C))) = some (.val (.d (.ag (r13 false 0 true))) (up (sB z sz qn Q cn (subC C t)))) := by
  have hS := ev_subscribe z sz qn Q cn C t h2 hn
  rw [ev_call P_topic_ApplyC1 rfl]
  cases qn <;> cases cn
  all_goals
    simp [gB, sB, lkV, lkD] at hS
    simp [F_topic_ApplyC1, up, gB, sB, lkV, lkD, hS, r13, callR, sub, setAll, back, reachC, cut, rg2, rg3, rg4, rg5, List.idxOf_cons, take_map_len, endH]
set_option maxHeartbeats 4000000 in
theorem ev_C2 (z : Z) (sz : Int) (qn : Bool) (Q : List W) (C A B : List K) (c : K) (t op v p n : Int) (hC : C = A ++ c :: B) (hf : fnd C t = (A.length : Int))
    (h1 : qn = true → Q = []) (h3 : Q.length ≤ 1000) (h4 : C.length ≤ 1000) (h5 : ∀ c ∈ C, (c.nl = true → c.log = []) ∧ c.log.length ≤ 1000) :
    ev P (.call topic_ApplyC2 [.rf [.loc 0 0 0], .d (.ref [I' t, I' op, I' v, I' p, I' n])] (up (gB z sz qn Q false C))) =
      some (.val (.d (.ag (r13 false 0 true))) (up (pR z sz (qD (adv sz qn Q (A ++ B)).qn (adv sz qn Q (A ++ B)).Q) (adv sz qn Q (A ++ B)).C (some [[I' 0, .sl 1 true []]]) (hkq qn Q) (adv sz qn Q (A ++ B)).wn))) := by
  have hCl : C.length = A.length + (B.length + 1) := by rw [hC]; simp
  have hlen : (A ++ B).length = A.length + B.length := by simp
  have hok : Ad.ok (some [[I' 0, .sl 1 true []]]) ⟨qn, Q, A ++ B, []⟩ := by
    refine ⟨?_, ?_, ?_, ?_, h1⟩
    · intro h; cases h
    · simp only; omega
    · intro d hd
      simp only at hd ⊢
      have := h5 d (by rw [hC]; rw [List.mem_append] at hd; rcases hd with hd | hd <;> simp [hd])
      exact ⟨this.1, by omega⟩
    · simp; omega
  have hA := ev_advance z sz qn Q (A ++ B) (some [[I' 0, .sl 1 true []]]) (hkq qn Q) hok (by
    cases qn
    · exact .inr ⟨rfl, rfl⟩
    · exact .inl rfl)
  have hl : (adv sz qn Q (A ++ B)).C.length = A.length + B.length := (advF_len sz _ _).trans hlen
  generalize adv sz qn Q (A ++ B) = a at *
  obtain ⟨qn', Q', C', wn⟩ := a
  simp only at hA hl ⊢
  have hfi : ∀ (d0 d1 d2 d3 d4 d5 d7 d8 : D), ev P (.call topic_find [.d (.ag [d0, d1, d2, d3, d4, d5, cD false C, d7, d8]), .d (I' t)] []) = some (.val (.d (I' A.length)) []) := by
    intro d0 d1 d2 d3 d4 d5 d7 d8
    have := ev_find d0 d1 d2 d3 d4 d5 d7 d8 false C t (by omega)
    rw [hf] at this
    exact this
  have hgr : C.map K.row = A.map K.row ++ c.row :: B.map K.row := by rw [hC]; simp
  have hD := ev_DeleteK (A.map K.row) (B.map K.row) c.row (by simp; omega)
  have htk : ∀ r : List D, List.take (A.length + (B.length + 1)) (A.map K.row ++ r :: B.map K.row) = A.map K.row ++ r :: B.map K.row := fun r => List.take_of_length_le (by simp)
  have hw1 : IntKind.i64.wrap ((A.length : Int) + 1) = A.length + 1 := wrap_i64 (by omega) (by omega)
  have hfi2 := hfi
  simp only [cD, hgr] at hfi2
  rw [ev_call P_topic_ApplyC2 rfl]
  simp at hD
  cases qn
  · rcases wn with _ | ⟨w, wn⟩
    all_goals
      simp [pH, pR, hB, bH, fH, hkq, lkV, lkD, hl, qD] at hA
      simp [F_topic_ApplyC2, up, gB, pR, bH, fH, hkq, lkV, lkD, hfi2, hD, hA, hgr, hCl, htk, hw1, hl, r13, callR, sub, setAll, back, reachC, cut, rg2, rg3, rg4, rg5, List.idxOf_cons, take_map_len, endH, V.same_self, qD]
  · obtain rfl := h1 rfl
    rcases wn with _ | ⟨w, wn⟩
    all_goals
      simp [pH, pR, hB, bH, fH, hkq, lkV, lkD, hl, qD] at hA
      simp [F_topic_ApplyC2, up, gB, pR, bH, fH, hkq, lkV, lkD, hfi2, hD, hA, hgr, hCl, htk, hw1, hl, r13, callR, sub, setAll, back, reachC, cut, rg2, rg3, rg4, rg5, List.idxOf_cons, take_map_len, endH, V.same_self, qD]
theorem ev_C3C1 (a b c d e : Int) : ev P (.call topic_ApplyC3C1 [.d (.ag [I' a, I' b, I' c, I' d, I' e])] []) = some (.val (.d (.b (b == 68))) []) := by
  rw [ev_call P_topic_ApplyC3C1 rfl]
  simp [F_topic_ApplyC3C1]
def busy (Q : List W) : Bool := Q.any fun w => w.op == 68
theorem ev_busy (nl : Bool) (l : List W) (hn : l.length ≤ 1000000) :
    ev P (.call slices_ContainsFunc_api_Waiter_api_Waiter [.d (qD nl l), .d (.fn topic_ApplyC3C1 [] [])] []) = some (.val (.d (.b (busy l))) []) := by
  have h := ev_ContainsFunc (f := topic_ApplyC3C1) (first := []) (caps := []) (p := fun w => w.op == 68) nl l hn (by intro a b c d e; simp [ev_C3C1])
  exact h
set_option maxHeartbeats 4000000 in
theorem ev_C3 (z : Z) (sz : Int) (qn : Bool) (Q : List W) (cn : Bool) (C : List K) (t op v p n : Int)
    (h1 : qn = true → Q = []) (h2 : cn = true → C = []) (h3 : Q.length ≤ 1000) (h4 : C.length ≤ 1000) (h5 : ∀ c ∈ C, (c.nl = true → c.log = []) ∧ c.log.length ≤ 1000) :
    ev P (.call topic_ApplyC3 [.rf [.loc 0 0 0], .d (.ref [I' t, I' op, I' v, I' p, I' n])] (up (gB z sz qn Q cn C))) =
      some (if (busy Q || fl sz C Q) = true then .val (.d (.ag (r13 true 0 false))) (up (wB z sz qn (Q ++ [⟨t, op, v, p, -1⟩]) cn C))
        else .val (.d (.ag (r13 false 0 true))) (up (pR z sz (qO (pO Q)) (C.map (pubK Q v)) (csOf cn) (hkq qn Q) (pW v Q)))) := by
  have hw := ev_wait z sz qn Q cn C t op v p n v h1 (by omega)
  have hBu := ev_busy qn Q (by omega)
  have hFu : ∀ (d0 d1 d2 d3 d5 d7 d8 : D), ev P (.call topic_full [.d (I' sz), .d (.ag [d0, d1, d2, d3, qD qn Q, d5, cD cn C, d7, d8])] []) = some (.val (.d (.b (fl sz C Q))) []) := fun d0 d1 d2 d3 d5 d7 d8 => ev_full sz d0 d1 d2 d3 d5 d7 d8 qn Q cn C (by omega) (by omega)
  have hP := ev_publish z sz qn Q v C (csOf cn) (hkq qn Q) (by intro h; apply h2; cases cn <;> simp [csOf] at h ⊢) (by omega) (by omega) (fun c hc => ⟨(h5 c hc).1, by have := (h5 c hc).2; omega⟩) (by cases qn <;> simp [hkq, Hk.len])
    (by intro Q0 h; cases qn <;> simp [hkq] at h ⊢; exact h.symm)
  have hl : (C.map (pubK Q v)).length = C.length := by simp
  generalize C.map (pubK Q v) = C' at *
  generalize pW v Q = wn at *
  generalize pO Q = ot at *
  generalize busy Q = bq at *
  generalize fl sz C Q = fq at *
  rw [ev_call P_topic_ApplyC3 rfl]
  cases bq
  · cases fq
    · cases qn
      · cases cn
        · rcases wn with _ | ⟨w, wn⟩
          all_goals
            simp [pH, pR, hB, bH, fH, hkq, csOf, lkV, lkD, hl, qD] at hP
            simp [F_topic_ApplyC3, up, gB, pR, bH, fH, hkq, csOf, lkV, lkD, hBu, hFu, hP, hl, r13, callR, sub, setAll, back, reachC, cut, rg2, rg3, rg4, rg5, List.idxOf_cons, take_map_len, endH, V.same_self, qD]
        · obtain rfl := h2 rfl
          simp only [cD, List.map_nil] at hFu
          have hC' : C' = [] := List.length_eq_zero_iff.1 hl
          subst hC'
          rcases wn with _ | ⟨w, wn⟩
          all_goals
            simp [pH, pR, hB, bH, fH, hkq, csOf, lkV, lkD, hl, qD] at hP
            simp [F_topic_ApplyC3, up, gB, pR, bH, fH, hkq, csOf, lkV, lkD, hBu, hFu, hP, hl, r13, callR, sub, setAll, back, reachC, cut, rg2, rg3, rg4, rg5, List.idxOf_cons, take_map_len, endH, V.same_self, qD]
      · obtain rfl := h1 rfl
        simp only [qD, List.map_nil] at hBu hFu
        cases cn
        · rcases wn with _ | ⟨w, wn⟩
          all_goals
            simp [pH, pR, hB, bH, fH, hkq, csOf, lkV, lkD, hl, qD] at hP
            simp [F_topic_ApplyC3, up, gB, pR, bH, fH, hkq, csOf, lkV, lkD, hBu, hFu, hP, hl, r13, callR, sub, setAll, back, reachC, cut, rg2, rg3, rg4, rg5, List.idxOf_cons, take_map_len, endH, V.same_self, qD]
        · obtain rfl := h2 rfl
          simp only [cD, List.map_nil] at hFu
          have hC' : C' = [] := List.length_eq_zero_iff.1 hl
          subst hC'
          rcases wn with _ | ⟨w, wn⟩
          all_goals
            simp [pH, pR, hB, bH, fH, hkq, csOf, lkV, lkD, hl, qD] at hP
            simp [F_topic_ApplyC3, up, gB, pR, bH, fH, hkq, csOf, lkV, lkD, hBu, hFu, hP, hl, r13, callR, sub, setAll, back, reachC, cut, rg2, rg3, rg4, rg5, List.idxOf_cons, take_map_len, endH, V.same_self, qD]
    · cases qn
      · cases cn
        · skip
          simp [gB, wB, lkV, lkD] at hw
          simp [F_topic_ApplyC3, up, gB, wB, lkV, lkD, hBu, hFu, hw, r13, callR, sub, setAll, back, reachC, cut, rg2, rg3, rg4, rg5, List.idxOf_cons, take_map_len, endH, V.same_self]
        · obtain rfl := h2 rfl
          simp only [cD, List.map_nil] at hFu
          simp [gB, wB, lkV, lkD] at hw
          simp [F_topic_ApplyC3, up, gB, wB, lkV, lkD, hBu, hFu, hw, r13, callR, sub, setAll, back, reachC, cut, rg2, rg3, rg4, rg5, List.idxOf_cons, take_map_len, endH, V.same_self]
      · obtain rfl := h1 rfl
        simp only [qD, List.map_nil] at hBu hFu
        cases cn
        · skip
          simp [gB, wB, lkV, lkD] at hw
          simp [F_topic_ApplyC3, up, gB, wB, lkV, lkD, hBu, hFu, hw, r13, callR, sub, setAll, back, reachC, cut, rg2, rg3, rg4, rg5, List.idxOf_cons, take_map_len, endH, V.same_self]
        · obtain rfl := h2 rfl
          simp only [cD, List.map_nil] at hFu
          simp [gB, wB, lkV, lkD] at hw
          simp [F_topic_ApplyC3, up, gB, wB, lkV, lkD, hBu, hFu, hw, r13, callR, sub, setAll, back, reachC, cut, rg2, rg3, rg4, rg5, List.idxOf_cons, take_map_len, endH, V.same_self]
  · cases qn
    · cases cn
      all_goals
        simp [gB, wB, lkV, lkD] at hw
        simp [F_topic_ApplyC3, up, gB, wB, lkV, lkD, hBu, hFu, hw, r13, callR, sub, setAll, back, reachC, cut, rg2, rg3, rg4, rg5, List.idxOf_cons, take_map_len, endH, V.same_self]
    · obtain rfl := h1 rfl
      simp only [qD, List.map_nil] at hBu
      cases cn
      all_goals
        simp [gB, wB, lkV, lkD] at hw
        simp [F_topic_ApplyC3, up, gB, wB, lkV, lkD, hBu, hFu, hw, r13, callR, sub, setAll, back, reachC, cut, rg2, rg3, rg4, rg5, List.idxOf_cons, take_map_len, endH, V.same_self]
end Go.VS.Tp
namespace Go.VS.Tp
/-! OpNext as Apply performs it -/
theorem advF_ok (cs : Option (List (List D))) (sz : Int) : ∀ (n : Nat) (a : Ad), a.ok cs → (advF sz n a).ok cs
  | 0, a, h => h
  | n + 1, a, h => by
    unfold advF
    split
    · exact h
    · rename_i hn
      rcases pub_spec a.Q with ⟨h1, _⟩ | ⟨A, B, w, hQ, hp, _⟩
      · exfalso; apply hn; left; omega
      · have e : ((A.length : Int)).toNat = A.length := by omega
        have hg : a.Q[(pub a.Q).toNat]? = some w := by rw [hp, e, hQ]; simp
        rw [hg]
        exact advF_ok cs sz n _ (Ad.ok_step hQ hp h)
set_option maxHeartbeats 4000000 in
theorem ev_C4a (z : Z) (sz : Int) (qn : Bool) (Q : List W) (C A B : List K) (c : K) (t op v p n x : Int) (lg : List Int) (hC : C = A ++ c :: B) (hf : fnd C t = (A.length : Int)) (hlg : c.log = x :: lg)
    (h1 : qn = true → Q = []) (h3 : Q.length ≤ 1000) (h4 : C.length ≤ 1000) (h5 : ∀ c ∈ C, (c.nl = true → c.log = []) ∧ c.log.length ≤ 1000) :
    ev P (.call topic_ApplyC4 [.rf [.loc 0 0 0], .d (.ref [I' t, I' op, I' v, I' p, I' n])] (up (gB z sz qn Q false C))) =
      some (.val (.d (.ag (r13 false x true))) (up (pR z sz (qD (adv sz qn Q (A ++ ⟨c.task, false, lg⟩ :: B)).qn (adv sz qn Q (A ++ ⟨c.task, false, lg⟩ :: B)).Q) (adv sz qn Q (A ++ ⟨c.task, false, lg⟩ :: B)).C (some []) (hkq qn Q) (adv sz qn Q (A ++ ⟨c.task, false, lg⟩ :: B)).wn))) := by
  have hN := ev_next1 z sz qn Q C A B c t op v p n x lg hC hf hlg h1 h3 h4 h5
  generalize adv sz qn Q (A ++ ⟨c.task, false, lg⟩ :: B) = a at *
  obtain ⟨qn', Q', C', wn⟩ := a
  simp only at hN ⊢
  rw [ev_call P_topic_ApplyC4 rfl]
  cases qn <;> rcases wn with _ | ⟨w, wn⟩
  all_goals
    simp [gB, pR, bH, fH, hkq, lkV, lkD, r13] at hN
    simp [F_topic_ApplyC4, up, gB, pR, bH, fH, hkq, lkV, lkD, hN, r13, callR, sub, setAll, back, reachC, cut, rg2, rg3, rg4, rg5, List.idxOf_cons, take_map_len, endH, V.same_self]
set_option maxHeartbeats 4000000 in
theorem ev_C4b (z : Z) (sz : Int) (qn : Bool) (Q : List W) (C A B : List K) (c : K) (t op v p n : Int) (hC : C = A ++ c :: B) (hf : fnd C t = (A.length : Int)) (hlg : c.log = [])
    (h1 : qn = true → Q = []) (h3 : Q.length ≤ 1000) (h4 : C.length ≤ 1000) (h5 : ∀ c ∈ C, (c.nl = true → c.log = []) ∧ c.log.length ≤ 1000) (hwl : (adv sz false (Q ++ [⟨t, op, 0, p, -1⟩]) C).wn.length ≤ 100000) :
    ev P (.call topic_ApplyC4 [.rf [.loc 0 0 0], .d (.ref [I' t, I' op, I' v, I' p, I' n])] (up (gB z sz qn Q false C))) =
      some (match got (adv sz false (Q ++ [⟨t, op, 0, p, -1⟩]) C).wn t with
        | none => .val (.d (.ag (r13 true 0 false))) (up (nB z sz qn (qD (adv sz false (Q ++ [⟨t, op, 0, p, -1⟩]) C).qn (adv sz false (Q ++ [⟨t, op, 0, p, -1⟩]) C).Q) (adv sz false (Q ++ [⟨t, op, 0, p, -1⟩]) C).C (mW (adv sz false (Q ++ [⟨t, op, 0, p, -1⟩]) C).wn)))
        | some x => .val (.d (.ag (r13 false x.1 true))) (up (nB z sz qn (qD (adv sz false (Q ++ [⟨t, op, 0, p, -1⟩]) C).qn (adv sz false (Q ++ [⟨t, op, 0, p, -1⟩]) C).Q) (adv sz false (Q ++ [⟨t, op, 0, p, -1⟩]) C).C (.d false x.2)))) := by
  have hN := ev_next2 z sz qn Q C A B c t op v p n hC hf hlg h1 h3 h4 h5 hwl
  generalize adv sz false (Q ++ [⟨t, op, 0, p, -1⟩]) C = a at *
  obtain ⟨qn', Q', C', wn⟩ := a
  simp only at hN ⊢
  rw [ev_call P_topic_ApplyC4 rfl]
  cases hg : got wn t with
  | none =>
    rw [hg] at hN
    cases qn <;> rcases wn with _ | ⟨w, wn⟩
    all_goals
      simp [gB, nB, mW, lkV, lkD, r13] at hN
      simp [F_topic_ApplyC4, up, gB, nB, mW, lkV, lkD, hN, r13, callR, sub, setAll, back, reachC, cut, rg2, rg3, rg4, rg5, List.idxOf_cons, take_map_len, endH, V.same_self]
  | some x =>
    rw [hg] at hN
    cases qn
    all_goals
      simp [gB, nB, mW, lkV, lkD, r13] at hN
      simp [F_topic_ApplyC4, up, gB, nB, mW, lkV, lkD, hN, r13, callR, sub, setAll, back, reachC, cut, rg2, rg3, rg4, rg5, List.idxOf_cons, take_map_len, endH, V.same_self]
def del (C : List K) (t : Int) : List K := C.eraseIdx (fnd C t).toNat
def ap (k sz ot : Int) (s : S) (t op v p n : Int) : Rp × Int :=
  if ckd k sz ot s ≠ 0 then (Rp0, 1) else if callE s t op v p n ≠ 0 then (Rp0, callE s t op v p n) else
  if op = 69 then (⟨{ s with cn := false, C := subC s.C t }, false, 0, true, true, []⟩, 0) else
  if op = 71 then
    let a := adv sz s.qn s.Q (del s.C t)
    (⟨s.put a, false, 0, true, decide (a.wn = []), a.wn⟩, 0) else
  if op = 68 then
    if (busy s.Q || fl sz s.C s.Q) = true then (⟨{ s with qn := false, Q := s.Q ++ [⟨t, op, v, p, -1⟩] }, true, 0, false, true, []⟩, 0)
    else (⟨{ s with qn := decide (pO s.Q = []), Q := pO s.Q, C := s.C.map (pubK s.Q v) }, false, 0, true, decide (pW v s.Q = []), pW v s.Q⟩, 0)
  else
    match kfd s.C t with
    | none => (Rp0, 0)
    | some c =>
      match c.log with
      | x :: lg =>
        let a := adv sz s.qn s.Q (s.C.set (fnd s.C t).toNat ⟨c.task, false, lg⟩)
        (⟨s.put a, false, x, true, decide (a.wn = []), a.wn⟩, 0)
      | [] =>
        let a := adv sz false (s.Q ++ [⟨t, op, 0, p, -1⟩]) s.C
        match got a.wn t with
        | none => (⟨s.put a, true, 0, false, decide (a.wn = []), a.wn⟩, 0)
        | some x => (⟨s.put a, false, x.1, true, false, x.2⟩, 0)
theorem ev_applyE (nm : D) (k sz ot : Int) (s : S) (hs : s.wf) (t op v p n : Int) (h : ckd k sz ot s ≠ 0 ∨ callE s t op v p n ≠ 0) :
    ev P (.call topic_Apply [.d (.ag [nm, I' k, I' sz, I' ot]), .d (.ag s.row), .d (.ag [I' t, I' op, I' v, I' p, I' n])] []) = some (.val (.tu [.d (.ag (ap k sz ot s t op v p n).1.row), .d (I' (ap k sz ot s t op v p n).2)]) []) := by
  have hC := ev_mCheck nm k sz ot s hs.sm
  have hE := ev_call23 s hs.sm t op v p n
  unfold ap
  rw [ev_call P_topic_Apply rfl]
  by_cases hc : ckd k sz ot s = 0
  · have h2 : callE s t op v p n ≠ 0 := by
      rcases h with h | h
      · exact absurd hc h
      · exact h
    generalize callE s t op v p n = e at *
    have h3 : (e != 0) = true := by simpa using h2
    rw [hc] at hC ⊢
    simp [F_topic_Apply, hC, hE, h2, h3, Rp0, S0]
  · have hc2 : (ckd k sz ot s != 0) = true := by simpa using hc
    simp [F_topic_Apply, hC, hc, hc2, Rp0, S0]
set_option maxHeartbeats 4000000 in
theorem ev_apply1 (nm : D) (k sz ot : Int) (s : S) (hs : s.wf) (t v p n : Int) (hc : ckd k sz ot s = 0) (he : callE s t 69 v p n = 0) :
    ev P (.call topic_Apply [.d (.ag [nm, I' k, I' sz, I' ot]), .d (.ag s.row), .d (.ag [I' t, I' 69, I' v, I' p, I' n])] []) = some (.val (.tu [.d (.ag (ap k sz ot s t 69 v p n).1.row), .d (I' (ap k sz ot s t 69 v p n).2)]) []) := by
  have hC := ev_mCheck nm k sz ot s hs.sm
  have hE := ev_call23 s hs.sm t 69 v p n
  rw [hc] at hC
  rw [he] at hE
  have e : ap k sz ot s t 69 v p n = (⟨{ s with cn := false, C := subC s.C t }, false, 0, true, true, []⟩, 0) := by simp [ap, hc, he]
  rw [e]
  have hBg := ev_begin s.z nm (I' k) (I' ot) sz s.qn s.Q s.cn s.C hs.qn hs.cn (by have := hs.q; omega) (by have := hs.c; omega)
  have hO := ev_C1 s.z sz s.qn s.Q s.cn s.C t 69 v p n hs.qn hs.cn (by have := hs.c; omega)
  obtain ⟨own, cnt, time, hn, H, qn, Q, bn, B, cn, C, cl, val⟩ := s
  simp only at hC hE hBg hO hs ⊢
  generalize subC C t = C' at *
  rw [ev_call P_topic_Apply rfl]
  cases qn
  · cases cn
    all_goals
      simp [gB, lkV, lkD] at hBg
      simp [gB, sB, lkV, lkD, r13, up] at hO
      simp [F_topic_Apply, hC, hE, hBg, hO, callD, callR, sub, setAll, back, freezeAll, freeze1, reachC, cut, rg2, rg3, rg4, rg5, List.idxOf_cons, take_map_len, endH, V.same_self, mkRows, allDs, Rp.row, S.put, toDs, toD]
  · obtain rfl := hs.qn rfl
    cases cn
    all_goals
      simp [gB, lkV, lkD] at hBg
      simp [gB, sB, lkV, lkD, r13, up] at hO
      simp [F_topic_Apply, hC, hE, hBg, hO, callD, callR, sub, setAll, back, freezeAll, freeze1, reachC, cut, rg2, rg3, rg4, rg5, List.idxOf_cons, take_map_len, endH, V.same_self, mkRows, allDs, Rp.row, S.put, toDs, toD]
theorem find_split {C : List K} {t : Int} (h : 0 ≤ fnd C t) : ∃ A c B, C = A ++ c :: B ∧ fnd C t = (A.length : Int) ∧ kfd C t = some c := by
  rcases fnd_spec C t with ⟨h1, _⟩ | ⟨i, c, h1, h2, h3⟩
  · omega
  · obtain ⟨hlt, he⟩ := List.getElem?_eq_some_iff.1 h2
    have hl : (C.take i).length = i := by simp; omega
    exact ⟨C.take i, c, C.drop (i + 1), by rw [← he]; simp, by rw [hl]; exact h1, h3⟩
theorem callE_find {s : S} {t op v p n : Int} (h : callE s t op v p n = 0) (ho : op = 71 ∨ op = 70) : 0 ≤ fnd s.C t := by
  unfold callE at h
  split at h
  · cases h
  · split at h
    · cases h
    · split at h
      · cases h
      · split at h
        · cases h
        · split at h
          · cases h
          · split at h
            · cases h
            · rename_i h6
              rcases ho with rfl | rfl <;> simp at h6 <;> exact h6
theorem callE_op {s : S} {t op v p n : Int} (h : callE s t op v p n = 0) : op = 68 ∨ op = 69 ∨ op = 70 ∨ op = 71 := by
  unfold callE at h
  split at h
  · cases h
  · split at h
    · cases h
    · rename_i h2
      simp at h2
      omega
set_option maxHeartbeats 4000000 in
theorem ev_apply2 (nm : D) (k sz ot : Int) (s : S) (hs : s.wf) (t v p n : Int) (hc : ckd k sz ot s = 0) (he : callE s t 71 v p n = 0) :
    ev P (.call topic_Apply [.d (.ag [nm, I' k, I' sz, I' ot]), .d (.ag s.row), .d (.ag [I' t, I' 71, I' v, I' p, I' n])] []) = some (.val (.tu [.d (.ag (ap k sz ot s t 71 v p n).1.row), .d (I' (ap k sz ot s t 71 v p n).2)]) []) := by
  have hC := ev_mCheck nm k sz ot s hs.sm
  have hE := ev_call23 s hs.sm t 71 v p n
  rw [hc] at hC
  rw [he] at hE
  obtain ⟨A, c, B, hS, hf, _⟩ := find_split (callE_find he (.inl rfl))
  have hdel : del s.C t = A ++ B := by
    have e : ((A.length : Int)).toNat = A.length := by omega
    unfold del
    rw [hf, e, hS, List.eraseIdx_append_of_length_le (by omega)]
    simp
  have e : ap k sz ot s t 71 v p n = (⟨s.put (adv sz s.qn s.Q (A ++ B)), false, 0, true, decide ((adv sz s.qn s.Q (A ++ B)).wn = []), (adv sz s.qn s.Q (A ++ B)).wn⟩, 0) := by simp [ap, hc, he, hdel]
  rw [e]
  have hBg := ev_begin s.z nm (I' k) (I' ot) sz s.qn s.Q s.cn s.C hs.qn hs.cn (by have := hs.q; omega) (by have := hs.c; omega)
  have hO := ev_C2 s.z sz s.qn s.Q s.C A B c t 71 v p n hS hf hs.qn hs.q hs.c hs.l
  have hl : (adv sz s.qn s.Q (A ++ B)).C.length = A.length + B.length := (advF_len sz _ _).trans (by simp)
  have hcn : s.cn = false := by
    cases h : s.cn
    · rfl
    · have := hs.cn h; rw [hS] at this; simp at this
  generalize adv sz s.qn s.Q (A ++ B) = a at *
  obtain ⟨own, cnt, time, hn, H, qn, Q, bn, B', cn, C, cl, val⟩ := s
  obtain ⟨qn', Q', C', wn⟩ := a
  simp only at hC hE hBg hO hs hl hcn hS ⊢
  subst hcn
  have htk : ∀ r : List D, List.take (A.length + B.length) (C'.map K.row ++ [r]) = C'.map K.row := fun r => List.take_left' (by simp [hl])
  have hle1 : A.length + B.length ≤ C'.length + 1 := by omega
  rw [ev_call P_topic_Apply rfl]
  cases qn
  · rcases wn with _ | ⟨w, wn⟩
    all_goals
      simp [gB, lkV, lkD] at hBg
      simp [gB, pR, bH, fH, hkq, lkV, lkD, r13, hl, up] at hO
      simp [F_topic_Apply, hC, hE, hBg, hO, callD, callR, sub, setAll, back, freezeAll, freeze1, reachC, cut, rg2, rg3, rg4, rg5, List.idxOf_cons, take_map_len, endH, V.same_self, mkRows, allDs, Rp.row, S.put, toDs, toD, htk, hle1]
  · obtain rfl := hs.qn rfl
    rcases wn with _ | ⟨w, wn⟩
    all_goals
      simp [gB, lkV, lkD] at hBg
      simp [gB, pR, bH, fH, hkq, lkV, lkD, r13, hl, up] at hO
      simp [F_topic_Apply, hC, hE, hBg, hO, callD, callR, sub, setAll, back, freezeAll, freeze1, reachC, cut, rg2, rg3, rg4, rg5, List.idxOf_cons, take_map_len, endH, V.same_self, mkRows, allDs, Rp.row, S.put, toDs, toD, htk, hle1]
set_option maxHeartbeats 4000000 in
theorem ev_apply3 (nm : D) (k sz ot : Int) (s : S) (hs : s.wf) (t v p n : Int) (hc : ckd k sz ot s = 0) (he : callE s t 68 v p n = 0) :
    ev P (.call topic_Apply [.d (.ag [nm, I' k, I' sz, I' ot]), .d (.ag s.row), .d (.ag [I' t, I' 68, I' v, I' p, I' n])] []) = some (.val (.tu [.d (.ag (ap k sz ot s t 68 v p n).1.row), .d (I' (ap k sz ot s t 68 v p n).2)]) []) := by
  have hC := ev_mCheck nm k sz ot s hs.sm
  have hE := ev_call23 s hs.sm t 68 v p n
  rw [hc] at hC
  rw [he] at hE
  have e : ap k sz ot s t 68 v p n = if (busy s.Q || fl sz s.C s.Q) = true then (⟨{ s with qn := false, Q := s.Q ++ [⟨t, 68, v, p, -1⟩] }, true, 0, false, true, []⟩, 0)
    else (⟨{ s with qn := decide (pO s.Q = []), Q := pO s.Q, C := s.C.map (pubK s.Q v) }, false, 0, true, decide (pW v s.Q = []), pW v s.Q⟩, 0) := by simp [ap, hc, he]
  rw [e]
  have hBg := ev_begin s.z nm (I' k) (I' ot) sz s.qn s.Q s.cn s.C hs.qn hs.cn (by have := hs.q; omega) (by have := hs.c; omega)
  have hO := ev_C3 s.z sz s.qn s.Q s.cn s.C t 68 v p n hs.qn hs.cn hs.q hs.c hs.l
  have hl : (s.C.map (pubK s.Q v)).length = s.C.length := by simp
  have hCn : s.cn = true → s.C.map (pubK s.Q v) = [] := fun h => by rw [hs.cn h]; rfl
  generalize s.C.map (pubK s.Q v) = C' at *
  generalize pW v s.Q = wn at *
  generalize pO s.Q = ot' at *
  generalize (busy s.Q || fl sz s.C s.Q) = bf at *
  obtain ⟨own, cnt, time, hn, H, qn, Q, bn, B', cn, C, cl, val⟩ := s
  simp only at hC hE hBg hO hs hl hCn ⊢
  have hCC : cn = true → C = [] := hs.cn
  have htk : List.take C.length (C'.map K.row) = C'.map K.row := List.take_of_length_le (by simp [hl])
  have hle1 : C.length ≤ C'.length := by omega
  rw [ev_call P_topic_Apply rfl]
  cases bf
  · cases qn
    · cases cn <;> rcases wn with _ | ⟨w, wn⟩
      all_goals
        simp [gB, lkV, lkD] at hBg
        simp [gB, pR, bH, fH, hkq, csOf, lkV, lkD, r13, hl, qO, up] at hO
        simp [F_topic_Apply, hC, hE, hBg, hO, callD, callR, sub, setAll, back, freezeAll, freeze1, reachC, cut, rg2, rg3, rg4, rg5, List.idxOf_cons, take_map_len, endH, V.same_self, mkRows, allDs, Rp.row, S.put, toDs, toD, htk, hCn, hle1]
    · obtain rfl := hs.qn rfl
      cases cn <;> rcases wn with _ | ⟨w, wn⟩
      all_goals
        simp [gB, lkV, lkD] at hBg
        simp [gB, pR, bH, fH, hkq, csOf, lkV, lkD, r13, hl, qO, up] at hO
        simp [F_topic_Apply, hC, hE, hBg, hO, callD, callR, sub, setAll, back, freezeAll, freeze1, reachC, cut, rg2, rg3, rg4, rg5, List.idxOf_cons, take_map_len, endH, V.same_self, mkRows, allDs, Rp.row, S.put, toDs, toD, htk, hCn, hle1]
  · cases qn
    · cases cn
      · skip
        simp [gB, lkV, lkD] at hBg
        simp [gB, wB, lkV, lkD, r13, up] at hO
        simp [F_topic_Apply, hC, hE, hBg, hO, callD, callR, sub, setAll, back, freezeAll, freeze1, reachC, cut, rg2, rg3, rg4, rg5, List.idxOf_cons, take_map_len, endH, V.same_self, mkRows, allDs, Rp.row, S.put, toDs, toD]
      · obtain rfl := hCC rfl
        simp [gB, lkV, lkD] at hBg
        simp [gB, wB, lkV, lkD, r13, up] at hO
        simp [F_topic_Apply, hC, hE, hBg, hO, callD, callR, sub, setAll, back, freezeAll, freeze1, reachC, cut, rg2, rg3, rg4, rg5, List.idxOf_cons, take_map_len, endH, V.same_self, mkRows, allDs, Rp.row, S.put, toDs, toD]
    · obtain rfl := hs.qn rfl
      cases cn
      · skip
        simp [gB, lkV, lkD] at hBg
        simp [gB, wB, lkV, lkD, r13, up] at hO
        simp [F_topic_Apply, hC, hE, hBg, hO, callD, callR, sub, setAll, back, freezeAll, freeze1, reachC, cut, rg2, rg3, rg4, rg5, List.idxOf_cons, take_map_len, endH, V.same_self, mkRows, allDs, Rp.row, S.put, toDs, toD]
      · obtain rfl := hCC rfl
        simp [gB, lkV, lkD] at hBg
        simp [gB, wB, lkV, lkD, r13, up] at hO
        simp [F_topic_Apply, hC, hE, hBg, hO, callD, callR, sub, setAll, back, freezeAll, freeze1, reachC, cut, rg2, rg3, rg4, rg5, List.idxOf_cons, take_map_len, endH, V.same_self, mkRows, allDs, Rp.row, S.put, toDs, toD]
end Go.VS.Tp
namespace Go.VS.Tp
/-! Apply of OpNext, and of any call -/
theorem set_split {A B : List K} {c d : K} : (A ++ c :: B).set A.length d = A ++ d :: B := by simp
set_option maxHeartbeats 4000000 in
theorem ev_apply4 (nm : D) (k sz ot : Int) (s : S) (hs : s.wf) (t v p n : Int) (hc : ckd k sz ot s = 0) (he : callE s t 70 v p n = 0) :
    ev P (.call topic_Apply [.d (.ag [nm, I' k, I' sz, I' ot]), .d (.ag s.row), .d (.ag [I' t, I' 70, I' v, I' p, I' n])] []) = some (.val (.tu [.d (.ag (ap k sz ot s t 70 v p n).1.row), .d (I' (ap k sz ot s t 70 v p n).2)]) []) := by
  have hC := ev_mCheck nm k sz ot s hs.sm
  have hE := ev_call23 s hs.sm t 70 v p n
  rw [hc] at hC
  rw [he] at hE
  obtain ⟨A, c, B, hS, hf, hkf⟩ := find_split (callE_find he (.inr rfl))
  have hBg := ev_begin s.z nm (I' k) (I' ot) sz s.qn s.Q s.cn s.C hs.qn hs.cn (by have := hs.q; omega) (by have := hs.c; omega)
  have hcn : s.cn = false := by
    cases h : s.cn
    · rfl
    · have := hs.cn h; rw [hS] at this; simp at this
  have eN : ((A.length : Int)).toNat = A.length := by omega
  cases hlg : c.log with
  | cons x lg =>
    have e : ap k sz ot s t 70 v p n = (⟨s.put (adv sz s.qn s.Q (A ++ ⟨c.task, false, lg⟩ :: B)), false, x, true, decide ((adv sz s.qn s.Q (A ++ ⟨c.task, false, lg⟩ :: B)).wn = []), (adv sz s.qn s.Q (A ++ ⟨c.task, false, lg⟩ :: B)).wn⟩, 0) := by
      have e2 : s.C.set (fnd s.C t).toNat ⟨c.task, false, lg⟩ = A ++ ⟨c.task, false, lg⟩ :: B := by rw [hf, eN, hS]; exact set_split
      rw [← e2]
      simp [ap, hc, he, hkf, hlg]
    rw [e]
    have hO := ev_C4a s.z sz s.qn s.Q s.C A B c t 70 v p n x lg hS hf hlg hs.qn hs.q hs.c hs.l
    have hl : (adv sz s.qn s.Q (A ++ ⟨c.task, false, lg⟩ :: B)).C.length = A.length + (B.length + 1) := (advF_len sz _ _).trans (by simp)
    have hCl : s.C.length = A.length + (B.length + 1) := by rw [hS]; simp
    generalize adv sz s.qn s.Q (A ++ ⟨c.task, false, lg⟩ :: B) = a at *
    clear e
    obtain ⟨own, cnt, time, hn, H, qn, Q, bn, B', cn, C, cl, val⟩ := s
    obtain ⟨qn', Q', C', wn⟩ := a
    simp only at hC hE hBg hO hs hl hcn hS hCl ⊢
    subst hcn
    have htk : List.take C.length (C'.map K.row) = C'.map K.row := List.take_of_length_le (by simp; omega)
    have hle1 : C.length ≤ C'.length := by omega
    rw [← hCl] at hl
    rw [ev_call P_topic_Apply rfl]
    cases qn
    · rcases wn with _ | ⟨w, wn⟩
      all_goals
        simp [gB, lkV, lkD] at hBg
        simp [gB, pR, bH, fH, hkq, lkV, lkD, r13, hl, up] at hO
        simp [F_topic_Apply, hC, hE, hBg, hO, callD, callR, sub, setAll, back, freezeAll, freeze1, reachC, cut, rg2, rg3, rg4, rg5, List.idxOf_cons, take_map_len, endH, V.same_self, mkRows, allDs, Rp.row, S.put, toDs, toD, htk, hle1]
    · obtain rfl := hs.qn rfl
      rcases wn with _ | ⟨w, wn⟩
      all_goals
        simp [gB, lkV, lkD] at hBg
        simp [gB, pR, bH, fH, hkq, lkV, lkD, r13, hl, up] at hO
        simp [F_topic_Apply, hC, hE, hBg, hO, callD, callR, sub, setAll, back, freezeAll, freeze1, reachC, cut, rg2, rg3, rg4, rg5, List.idxOf_cons, take_map_len, endH, V.same_self, mkRows, allDs, Rp.row, S.put, toDs, toD, htk, hle1]
  | nil =>
    have hok : Ad.ok none ⟨false, s.Q ++ [W.mk t 70 0 p (-1)], [], []⟩ := by
      have := hs.q
      refine ⟨fun _ => rfl, by simp, by simp, by simp; omega, by simp⟩
    have hok2 : Ad.ok (some []) ⟨false, s.Q ++ [W.mk t 70 0 p (-1)], s.C, []⟩ := by
      have hq := hs.q
      have hc' := hs.c
      refine ⟨?_, ?_, ?_, ?_, ?_⟩
      · intro h; cases h
      · simp only; omega
      · intro d hd
        have := hs.l d hd
        refine ⟨this.1, ?_⟩
        simp
        omega
      · simp; omega
      · intro h; cases h
    have hwl : (adv sz false (s.Q ++ [W.mk t 70 0 p (-1)]) s.C).wn.length ≤ 100000 := by
      have := (advF_ok (some []) sz ((s.Q ++ [W.mk t 70 0 p (-1)]).length + 1) _ hok2).2.2.2.1
      unfold adv
      omega
    have hO := ev_C4b s.z sz s.qn s.Q s.C A B c t 70 v p n hS hf hlg hs.qn hs.q hs.c hs.l hwl
    have hl : (adv sz false (s.Q ++ [W.mk t 70 0 p (-1)]) s.C).C.length = s.C.length := advF_len sz _ _
    have e : ap k sz ot s t 70 v p n = match got (adv sz false (s.Q ++ [W.mk t 70 0 p (-1)]) s.C).wn t with
        | none => (⟨s.put (adv sz false (s.Q ++ [W.mk t 70 0 p (-1)]) s.C), true, 0, false, decide ((adv sz false (s.Q ++ [W.mk t 70 0 p (-1)]) s.C).wn = []), (adv sz false (s.Q ++ [W.mk t 70 0 p (-1)]) s.C).wn⟩, 0)
        | some x => (⟨s.put (adv sz false (s.Q ++ [W.mk t 70 0 p (-1)]) s.C), false, x.1, true, false, x.2⟩, 0) := by
      first
      | (simp [ap, hc, he, hkf, hlg]; done)
      | (simp [ap, hc, he, hkf, hlg]
         cases got (adv sz false (s.Q ++ [W.mk t 70 0 p (-1)]) s.C).wn t <;> rfl)
    rw [e]
    clear hwl hok hok2
    generalize adv sz false (s.Q ++ [W.mk t 70 0 p (-1)]) s.C = a at *
    clear e
    obtain ⟨own, cnt, time, hn, H, qn, Q, bn, B', cn, C, cl, val⟩ := s
    obtain ⟨qn', Q', C', wn⟩ := a
    simp only at hC hE hBg hO hs hl hcn hS ⊢
    subst hcn
    have htk : List.take C.length (C'.map K.row) = C'.map K.row := List.take_of_length_le (by simp; omega)
    have hle1 : C.length ≤ C'.length := by omega
    rw [ev_call P_topic_Apply rfl]
    cases hg : got wn t with
    | none =>
      rw [hg] at hO
      cases qn
      · rcases wn with _ | ⟨w, wn⟩
        all_goals
          simp [gB, lkV, lkD] at hBg
          simp [gB, nB, mW, lkV, lkD, r13, hl, up] at hO
          simp [F_topic_Apply, hC, hE, hBg, hO, callD, callR, sub, setAll, back, freezeAll, freeze1, reachC, cut, rg2, rg3, rg4, rg5, List.idxOf_cons, take_map_len, endH, V.same_self, mkRows, allDs, Rp.row, S.put, toDs, toD, htk, hle1]
      · obtain rfl := hs.qn rfl
        rcases wn with _ | ⟨w, wn⟩
        all_goals
          simp [gB, lkV, lkD] at hBg
          simp [gB, nB, mW, lkV, lkD, r13, hl, up] at hO
          simp [F_topic_Apply, hC, hE, hBg, hO, callD, callR, sub, setAll, back, freezeAll, freeze1, reachC, cut, rg2, rg3, rg4, rg5, List.idxOf_cons, take_map_len, endH, V.same_self, mkRows, allDs, Rp.row, S.put, toDs, toD, htk, hle1]
    | some x =>
      rw [hg] at hO
      cases qn
      · simp [gB, lkV, lkD] at hBg
        simp [gB, nB, mW, lkV, lkD, r13, hl, up] at hO
        simp [F_topic_Apply, hC, hE, hBg, hO, callD, callR, sub, setAll, back, freezeAll, freeze1, reachC, cut, rg2, rg3, rg4, rg5, List.idxOf_cons, take_map_len, endH, V.same_self, mkRows, allDs, Rp.row, S.put, toDs, toD, htk, hle1]
      · obtain rfl := hs.qn rfl
        simp [gB, lkV, lkD] at hBg
        simp [gB, nB, mW, lkV, lkD, r13, hl, up] at hO
        simp [F_topic_Apply, hC, hE, hBg, hO, callD, callR, sub, setAll, back, freezeAll, freeze1, reachC, cut, rg2, rg3, rg4, rg5, List.idxOf_cons, take_map_len, endH, V.same_self, mkRows, allDs, Rp.row, S.put, toDs, toD, htk, hle1]
theorem ev_apply (nm : D) (k sz ot : Int) (s : S) (hs : s.wf) (t op v p n : Int) :
    ev P (.call topic_Apply [.d (.ag [nm, I' k, I' sz, I' ot]), .d (.ag s.row), .d (.ag [I' t, I' op, I' v, I' p, I' n])] []) = some (.val (.tu [.d (.ag (ap k sz ot s t op v p n).1.row), .d (I' (ap k sz ot s t op v p n).2)]) []) := by
  by_cases hc : ckd k sz ot s = 0
  · by_cases he : callE s t op v p n = 0
    · rcases callE_op he with rfl | rfl | rfl | rfl
      · exact ev_apply3 nm k sz ot s hs t v p n hc he
      · exact ev_apply1 nm k sz ot s hs t v p n hc he
      · exact ev_apply4 nm k sz ot s hs t v p n hc he
      · exact ev_apply2 nm k sz ot s hs t v p n hc he
    · exact ev_applyE nm k sz ot s hs t op v p n (.inr he)
  · exact ev_applyE nm k sz ot s hs t op v p n (.inl hc)
end Go.VS.Tp
namespace Go.VS.Tp
/-! the reference: published, advance -/
theorem eqv {α : Type} {a b : α} (h : ∀ R, b = R → a = R) : a = b := h _ rfl
def zS : List D := [I' 0, I' 0, I' 0, .sl 1 true [], .sl 5 true [], .sl 1 true [], .sl 2 true [], .b false, I' 0]
/-- what a subscriber of the reference has after a value is published -/
theorem pub_row (Q : List W) (v : Int) (c : K) : (pubK Q v c).row = if wts Q c.task 70 = true then c.row else [I' c.task, hD false (c.log ++ [v])] := by
  unfold pubK
  split <;> rfl
theorem loop_p0 (d0 d1 d2 d3 d5 d7 d8 : D) (qn cn : Bool) (Q : List W) (C : List K) (v : Int) (hq : Q.length ≤ 1000000) (hc : C.length ≤ 1000000) (hC : ∀ c ∈ C, (c.nl = true → c.log = []) ∧ c.log.length ≤ 100000) : ∀ (suf pre : List K), C = pre ++ suf →
    ev P (.loop 0 [1, 2, 4, 6, 7, 8, 9] F_nurseryref23_published_L0 [(1, .d (I' v)), (2, .loc 0 0 0), (4, .loc 1 0 0), (6, .asl 2 0 0), (7, .asl 3 0 0), (8, .asl 4 0 (pre.map (pubK Q v)).length), (9, .d (I' pre.length))]
      [.arrD 9 true [[d0, d1, d2, d3, qD qn Q, d5, cD cn C, d7, d8]], .arrD 9 true [zS], .arrD 5 true [], .arrD 5 true [], .arrD 2 true ((pre.map (pubK Q v)).map K.row)]) =
      some (.out (.exit 0) [(1, .d (I' v)), (2, .loc 0 0 0), (4, .loc 1 0 0), (6, .asl 2 0 0), (7, .asl 3 0 0), (8, .asl 4 0 (C.map (pubK Q v)).length)]
        [.arrD 9 true [[d0, d1, d2, d3, qD qn Q, d5, cD cn C, d7, d8]], .arrD 9 true [zS], .arrD 5 true [], .arrD 5 true [], .arrD 2 true ((C.map (pubK Q v)).map K.row)]) := by
  intro suf
  induction suf with
  | nil =>
    intro pre hl
    have hlp : C = pre := by simp [hl]
    subst hlp
    rw [ev_loop]
    conv => lhs; arg 4; unfold F_nurseryref23_published_L0
    simp [reachC, cut, List.idxOf_cons, zS, -List.map_map]
  | cons c suf ih =>
    intro pre hl
    have hg : C[pre.length]? = some c := by simp [hl]
    have hlt : (pre.length : Int) < C.length := by simp [hl]; omega
    have hnext : IntKind.i64.wrap ((pre.length : Int) + 1) = pre.length + 1 := wrap_i64 (by omega) (by omega)
    have ih' := ih (pre ++ [c]) (by simp [hl])
    have hw := ev_waits d0 d1 d2 d3 d5 (cD cn C) d7 d8 qn Q c.task 70 hq
    have hpl : (pre.map (pubK Q v)).length = pre.length := by simp
    have hpl2 : pre.length < 1000000 := by have : C.length = pre.length + (suf.length + 1) := by simp [hl]
                                           omega
    have hr : pre.length + 1 ≤ room := by unfold room; omega
    have hcl := (hC c (by simp [hl])).2
    have hr2 : c.log.length + 1 ≤ room := by unfold room; omega
    have hr3 : c.log.length ≤ room := by unfold room; omega
    have hrow : c.row = [I' c.task, hD c.nl c.log] := rfl
    rw [← ih']
    have e1 : (pre ++ [c]).map (pubK Q v) = pre.map (pubK Q v) ++ [pubK Q v c] := by simp
    rw [e1]
    have e2 : (pre.map (pubK Q v) ++ [pubK Q v c]).length = pre.length + 1 := by simp
    have e3 : (pre ++ [c]).length = pre.length + 1 := by simp
    have e4 : (pre.map (pubK Q v) ++ [pubK Q v c]).map K.row = (pre.map (pubK Q v)).map K.row ++ [(pubK Q v c).row] := by simp
    rw [e2, e3, e4, hpl, pub_row]
    have hAl : ((pre.map (pubK Q v)).map K.row).length = pre.length := by simp
    generalize (pre.map (pubK Q v)).map K.row = A at *
    have htk : List.take pre.length A = A := List.take_of_length_le (by omega)
    have htk2 : ∀ x, List.take (pre.length + 1) (A ++ [x]) = A ++ [x] := fun x => List.take_of_length_le (by simp; omega)
    have hdr : ∀ n, pre.length ≤ n → List.drop n A = [] := fun n h => List.drop_eq_nil_of_le (by omega)
    cases hwt : wts Q c.task 70
    · rw [hwt] at hw
      refine eqv fun R hR => ?_
      rw [ev_loop]
      conv => lhs; arg 4; unfold F_nurseryref23_published_L0
      cases hlg : c.log with
      | nil =>
        have h1 : 1 ≤ room := by unfold room; omega
        simp [hlg, hD] at hR
        simp [hlt, hg, hrow, hlg, hw, hnext, reachC, cut, List.idxOf_cons, zS, hr, h1, htk, htk2, hAl, take_map_len, take_snoc, thaw, freezeAll, freeze1, Nat.not_succ_le_self, hdr] at hR ⊢
        exact hR
      | cons x lg =>
        rw [hlg] at hr2 hr3
        simp at hr2 hr3
        simp [hlg, hD] at hR
        simp [hlt, hg, hrow, hlg, hw, hnext, reachC, cut, List.idxOf_cons, zS, hr, hr2, hr3, htk, htk2, hAl, take_map_len, take_snoc, thaw, freezeAll, freeze1, Nat.not_succ_le_self, hdr] at hR ⊢
        exact hR
    · rw [hwt] at hw
      refine eqv fun R hR => ?_
      rw [ev_loop]
      conv => lhs; arg 4; unfold F_nurseryref23_published_L0
      simp at hR
      simp [hlt, hg, hrow, hw, hnext, reachC, cut, List.idxOf_cons, zS, hr, htk, htk2, hAl, take_map_len, take_snoc, thaw, freezeAll, freeze1, Nat.not_succ_le_self, hdr] at hR ⊢
      exact hR
theorem loop_p1 (d0 d1 d2 d3 d5 d6 d7 d8 : D) (qn : Bool) (Q : List W) (R8 : List (List D)) (v : Int) (hq : Q.length ≤ 1000000) : ∀ (suf pre : List W), Q = pre ++ suf →
    ev P (.loop 0 [1, 2, 4, 6, 7, 8, 11] F_nurseryref23_published_L1 [(1, .d (I' v)), (2, .loc 0 0 0), (4, .loc 1 0 0), (6, .asl 2 0 (pW v pre).length), (7, .asl 3 0 (pO pre).length), (8, .asl 4 0 R8.length), (11, .d (I' pre.length))]
      [.arrD 9 true [[d0, d1, d2, d3, qD qn Q, d5, d6, d7, d8]], .arrD 9 true [zS], .arrD 5 true ((pW v pre).map Wk.row), .arrD 5 true ((pO pre).map W.row), .arrD 2 true R8]) =
      some (.out (.exit 2) [(2, .loc 0 0 0), (4, .loc 1 0 0), (6, .asl 2 0 (pW v Q).length), (7, .asl 3 0 (pO Q).length), (8, .asl 4 0 R8.length)]
        [.arrD 9 true [[d0, d1, d2, d3, qD qn Q, d5, d6, d7, d8]], .arrD 9 true [zS], .arrD 5 true ((pW v Q).map Wk.row), .arrD 5 true ((pO Q).map W.row), .arrD 2 true R8]) := by
  intro suf
  induction suf with
  | nil =>
    intro pre hl
    have hlp : Q = pre := by simp [hl]
    subst hlp
    generalize (pW v Q) = wn
    generalize (pO Q) = ot
    rw [ev_loop]
    conv => lhs; arg 4; unfold F_nurseryref23_published_L1
    simp [reachC, cut, List.idxOf_cons, zS]
  | cons w suf ih =>
    intro pre hl
    have hg : Q[pre.length]? = some w := by simp [hl]
    have hlt : (pre.length : Int) < Q.length := by simp [hl]; omega
    have hnext : IntKind.i64.wrap ((pre.length : Int) + 1) = pre.length + 1 := wrap_i64 (by omega) (by omega)
    have ih' := ih (pre ++ [w]) (by simp [hl])
    have hpl2 : pre.length < 1000000 := by have : Q.length = pre.length + (suf.length + 1) := by simp [hl]
                                           omega
    have h1 := pO_len v pre
    have hrow : w.row = [I' w.task, I' w.op, I' w.value, I' w.prio, I' w.case] := rfl
    rw [← ih']
    have e3 : (pre ++ [w]).length = pre.length + 1 := by simp
    rw [e3]
    cases ho : w.op == 70
    · have e1 : pW v (pre ++ [w]) = pW v pre := by simp [pW, ho]
      have e2 : pO (pre ++ [w]) = pO pre ++ [w] := by simp [pO, ho]
      rw [e1, e2]
      generalize pW v pre = wn at *
      generalize pO pre = ot at *
      have hr : ot.length + 1 ≤ room := by unfold room; omega
      refine eqv fun R hR => ?_
      rw [ev_loop]
      conv => lhs; arg 4; unfold F_nurseryref23_published_L1
      simp [hlt, hg, hrow, ho, hnext, reachC, cut, List.idxOf_cons, zS, hr, take_map_len, take_snoc, Nat.not_succ_le_self] at hR ⊢
      exact hR
    · have ho2 : w.op = 70 := by simpa using ho
      have e1 : pW v (pre ++ [w]) = pW v pre ++ [⟨w.task, 70, v⟩] := by simp [pW, ho2, wkOf]
      have e2 : pO (pre ++ [w]) = pO pre := by simp [pO, ho]
      rw [e1, e2]
      generalize pW v pre = wn at *
      generalize pO pre = ot at *
      have hr : wn.length + 1 ≤ room := by unfold room; omega
      refine eqv fun R hR => ?_
      rw [ev_loop]
      conv => lhs; arg 4; unfold F_nurseryref23_published_L1
      simp [hlt, hg, hrow, ho, ho2, hnext, reachC, cut, List.idxOf_cons, zS, hr, take_map_len, take_snoc, Nat.not_succ_le_self, Wk.row] at hR ⊢
      exact hR
theorem ev_published (d0 d1 d2 d3 d5 d7 d8 : D) (qn cn : Bool) (Q : List W) (C : List K) (v : Int) (hq : Q.length ≤ 1000000) (hc : C.length ≤ 1000000) (hC : ∀ c ∈ C, (c.nl = true → c.log = []) ∧ c.log.length ≤ 100000) :
    ev P (.call nurseryref23_published [.d (.ag [d0, d1, d2, d3, qD qn Q, d5, cD cn C, d7, d8]), .d (I' v)] []) =
      some (.val (.tu [.d (.ag [d0, d1, d2, d3, qD false (pO Q), d5, cD false (C.map (pubK Q v)), d7, d8]), .d (kD false (pW v Q))]) []) := by
  have hL := loop_p0 d0 d1 d2 d3 d5 d7 d8 qn cn Q C v hq hc hC C [] rfl
  have hM := loop_p1 d0 d1 d2 d3 d5 (cD cn C) d7 d8 qn Q ((C.map (pubK Q v)).map K.row) v hq Q [] rfl
  have e0 : pW v [] = [] := rfl
  have e1 : pO [] = [] := rfl
  rw [e0, e1] at hM
  generalize pW v Q = wn at *
  generalize pO Q = ot at *
  generalize C.map (pubK Q v) = C' at *
  rw [ev_call P_nurseryref23_published rfl]
  simp [zS] at hL hM
  simp [F_nurseryref23_published, mkRows, allDs, hL, hM, reachC, cut, List.idxOf_cons, take_map_len, endH, toDs, toD]
end Go.VS.Tp
namespace Go.VS.Tp
/-! the reference: advance -/
structure Rd where
  qn : Bool
  Q : List W
  cn : Bool
  C : List K
  wn : List Wk
def Rd.step (a : Rd) (w : W) : Rd := ⟨false, pO (a.Q.filter fun x => x.task != w.task), false, a.C.map (pubK (a.Q.filter fun x => x.task != w.task) w.value), a.wn ++ ⟨w.task, w.op, 0⟩ :: pW w.value (a.Q.filter fun x => x.task != w.task)⟩
def radvF (sz : Int) : Nat → Rd → Rd
  | 0, a => a
  | n + 1, a => if pub a.Q < 0 ∨ rfl' sz a.C a.Q = true then a else
    match a.Q[(pub a.Q).toNat]? with
    | none => a
    | some w => radvF sz n (a.step w)
def Rd.ok (a : Rd) : Prop :=
  a.C.length ≤ 100000 ∧ (∀ c ∈ a.C, (c.nl = true → c.log = []) ∧ c.log.length + a.Q.length ≤ 100000) ∧ a.Q.length + a.wn.length ≤ 90000
theorem flt_lt {Q : List W} {A B : List W} {w : W} (hQ : Q = A ++ w :: B) : (Q.filter fun x => x.task != w.task).length < Q.length := by
  have h1 := List.length_filter_le (fun x : W => x.task != w.task) A
  have h2 := List.length_filter_le (fun x : W => x.task != w.task) B
  rw [hQ]
  simp [List.filter_append]
  omega
theorem Rd.ok_step {a : Rd} {A B : List W} {w : W} (hQ : a.Q = A ++ w :: B) (hok : a.ok) : (a.step w).ok := by
  obtain ⟨hc, hC, hw⟩ := hok
  have hlt := flt_lt hQ
  unfold Rd.step
  generalize (a.Q.filter fun x => x.task != w.task) = Q' at *
  have hl := pO_le Q'
  have hl2 := pO_len w.value Q'
  refine ⟨?_, ?_, ?_⟩
  · simp; exact hc
  · intro c hcm
    simp only at hcm ⊢
    obtain ⟨c0, hc0, rfl⟩ := List.mem_map.1 hcm
    have := hC c0 hc0
    unfold pubK
    split
    · exact ⟨this.1, by omega⟩
    · refine ⟨by simp, ?_⟩
      simp only [List.length_append, List.length_singleton]
      omega
  · simp only [List.length_append, List.length_cons]
    omega
set_option maxHeartbeats 2000000 in
theorem loop_radv (x0 x1 x3 d0 d1 d2 d3 d5 d7 d8 : D) (sz : Int) : ∀ (n : Nat) (a : Rd), a.Q.length < n → a.ok →
    ev P (.loop 0 [2, 3, 4, 6] F_nurseryref23_advance_L0 [(2, .d (.ref [x0, x1, I' sz, x3])), (3, .loc 0 0 0), (4, .loc 1 0 0), (6, .asl 2 0 a.wn.length)]
      [.arrD 9 true [[d0, d1, d2, d3, qD a.qn a.Q, d5, cD a.cn a.C, d7, d8]], .arrD 9 true [zS], .arrD 5 true (a.wn.map Wk.row)]) =
      some (.out (.exit 0) [(3, .loc 0 0 0), (4, .loc 1 0 0), (6, .asl 2 0 (radvF sz n a).wn.length)]
        [.arrD 9 true [[d0, d1, d2, d3, qD (radvF sz n a).qn (radvF sz n a).Q, d5, cD (radvF sz n a).cn (radvF sz n a).C, d7, d8]], .arrD 9 true [zS], .arrD 5 true ((radvF sz n a).wn.map Wk.row)]) := by
  intro n
  induction n with
  | zero => intro a h; omega
  | succ n ih =>
    intro a hn hok
    obtain ⟨qn, Q, cn, C, wn⟩ := a
    obtain ⟨hc, hC, hw⟩ := hok
    simp only at hc hC hw hn ⊢
    have hI := ev_publisher d0 d1 d2 d3 d5 (cD cn C) d7 d8 qn Q (by omega)
    have hFu := ev_rFull sz x0 x1 x3 d0 d1 d2 d3 d5 d7 d8 qn Q cn C (by omega) (by omega)
    rw [ev_loop]
    conv => lhs; arg 4; unfold F_nurseryref23_advance_L0
    by_cases hp : pub Q < 0
    · have e : radvF sz (n + 1) ⟨qn, Q, cn, C, wn⟩ = ⟨qn, Q, cn, C, wn⟩ := by simp [radvF, hp]
      rw [e]
      have hp2 : ¬ (0 ≤ pub Q) := by omega
      simp [hI, hp2, zS, reachC, cut, List.idxOf_cons]
    · have hp2 : 0 ≤ pub Q := by omega
      cases hf : rfl' sz C Q
      · rcases pub_spec Q with ⟨h1, _⟩ | ⟨A, B, w, hQ, hpe, h68⟩
        · omega
        · have hgm : Q[A.length]? = some w := by rw [hQ]; simp
          have hQl : Q.length = A.length + (B.length + 1) := by rw [hQ]; simp
          have hlt := flt_lt hQ
          have e : radvF sz (n + 1) ⟨qn, Q, cn, C, wn⟩ = radvF sz n (Rd.step ⟨qn, Q, cn, C, wn⟩ w) := by
            have n1 : ¬ ((A.length : Int) < 0) := by omega
            simp [radvF, n1, hf, hpe, hgm]
          have hst : (Rd.step ⟨qn, Q, cn, C, wn⟩ w).ok := Rd.ok_step hQ ⟨hc, hC, hw⟩
          have hsl : (Rd.step ⟨qn, Q, cn, C, wn⟩ w).Q.length < n := by
            have := pO_le (Q.filter fun x => x.task != w.task)
            simp only [Rd.step]
            omega
          have ih' := ih _ hsl hst
          rw [e, ← ih']
          have hRm := ev_rRemove qn Q w.task (by omega)
          have hPb := ev_published d0 d1 d2 d3 d5 d7 d8 false cn (Q.filter fun x => x.task != w.task) C w.value (by omega) (by omega) (fun c hcm => ⟨(hC c hcm).1, by have := (hC c hcm).2; omega⟩)
          have hwl : (pW w.value (Q.filter fun x => x.task != w.task)).length ≤ 100000 := by
            have := pO_len w.value (Q.filter fun x => x.task != w.task)
            omega
          simp only [Rd.step]
          generalize pW w.value (Q.filter fun x => x.task != w.task) = wo at *
          generalize pO (Q.filter fun x => x.task != w.task) = ot at *
          generalize C.map (pubK (Q.filter fun x => x.task != w.task) w.value) = C' at *
          generalize (Q.filter fun x => x.task != w.task) = Q' at *
          refine eqv fun R hR => ?_
          rw [hf] at hFu
          rw [hpe] at hI
          have hlt2 : (A.length : Int) < Q.length := by omega
          have hlt3 : A.length < Q.length := by omega
          have hrow : w.row = [I' w.task, I' w.op, I' w.value, I' w.prio, I' w.case] := rfl
          have hr : wn.length + 1 ≤ room := by unfold room; omega
          have hr2 : wn.length + 1 + wo.length ≤ room := by unfold room; omega
          have hr3 : wn.length + (wo.length + 1) ≤ room := by unfold room; omega
          simp [zS, Wk.row] at hR
          have hgg : Q[A.length] = w := by simpa [List.getElem?_eq_getElem hlt3] using hgm
          cases wo with
          | nil =>
            simp at hR
            simp [hI, hFu, hgg, hlt2, hlt3, hrow, hRm, hPb, zS, thaw, freezeAll, freeze1, reachC, cut, List.idxOf_cons, V.same_self, hr, take_map_len, take_snoc, Nat.not_succ_le_self, hR]
          | cons y wo =>
            simp at hR hr2
            have n5 : ¬ (wn.length + 1 + (wo.length + 1) ≤ wn.length + 1) := by omega
            have e9 : wn.length + (wo.length + 1 + 1) = wn.length + 1 + (wo.length + 1) := by omega
            rw [e9] at hR
            simp [hI, hFu, hgg, hlt2, hlt3, hrow, hRm, hPb, zS, thaw, freezeAll, freeze1, reachC, cut, List.idxOf_cons, V.same_self, hr, hr2, n5, take_map_len, take_snoc, Nat.not_succ_le_self, hR]
      · have e : radvF sz (n + 1) ⟨qn, Q, cn, C, wn⟩ = ⟨qn, Q, cn, C, wn⟩ := by simp [radvF, hf]
        rw [e]
        rw [hf] at hFu
        simp [hI, hp2, hFu, zS, reachC, cut, List.idxOf_cons]
def radv (sz : Int) (qn : Bool) (Q : List W) (cn : Bool) (C : List K) : Rd := radvF sz (Q.length + 1) ⟨qn, Q, cn, C, []⟩
theorem ev_radvance (x0 x1 x3 d0 d1 d2 d3 d5 d7 d8 : D) (sz : Int) (qn : Bool) (Q : List W) (cn : Bool) (C : List K) (hok : Rd.ok ⟨qn, Q, cn, C, []⟩) :
    ev P (.call nurseryref23_advance [.d (.ag [x0, x1, I' sz, x3]), .d (.ag [d0, d1, d2, d3, qD qn Q, d5, cD cn C, d7, d8])] []) =
      some (.val (.tu [.d (.ag [d0, d1, d2, d3, qD (radv sz qn Q cn C).qn (radv sz qn Q cn C).Q, d5, cD (radv sz qn Q cn C).cn (radv sz qn Q cn C).C, d7, d8]), .d (kD false (radv sz qn Q cn C).wn)]) []) := by
  have hL := loop_radv x0 x1 x3 d0 d1 d2 d3 d5 d7 d8 sz (Q.length + 1) ⟨qn, Q, cn, C, []⟩ (by simp) hok
  change _ = some (Res.out (.exit 0) [(3, .loc 0 0 0), (4, .loc 1 0 0), (6, .asl 2 0 (radv sz qn Q cn C).wn.length)] [.arrD 9 true [[d0, d1, d2, d3, qD (radv sz qn Q cn C).qn (radv sz qn Q cn C).Q, d5, cD (radv sz qn Q cn C).cn (radv sz qn Q cn C).C, d7, d8]], .arrD 9 true [zS], .arrD 5 true ((radv sz qn Q cn C).wn.map Wk.row)]) at hL
  generalize radv sz qn Q cn C = a at *
  obtain ⟨qn', Q', cn', C', wn⟩ := a
  simp [zS] at hL
  rw [ev_call P_nurseryref23_advance rfl]
  simp [F_nurseryref23_advance, mkRows, allDs, hL, reachC, cut, List.idxOf_cons, take_map_len, endH, toDs, toD]
end Go.VS.Tp
namespace Go.VS.Tp
/-! the reference: subscribe, without, Push, next -/
theorem loop_rsub (d0 d1 d2 d3 d4 d5 d7 d8 : D) (cn : Bool) (C : List K) (t : Int) (hn : C.length ≤ 1000000) : ∀ (suf pre : List K), C = pre ++ suf →
    ev P (.loop 0 [1, 2, 4, 5] F_nurseryref23_subscribe_L0 [(1, .d (I' t)), (2, .loc 0 0 0), (4, .loc 1 0 0), (5, .d (I' pre.length))] [.arrD 9 true [[d0, d1, d2, d3, d4, d5, cD cn C, d7, d8]], .arrD 9 true [zS]]) =
      some (.out (.exit 0) [(1, .d (I' t)), (2, .loc 0 0 0), (4, .loc 1 0 0), (5, .d (I' (pre.length + subN suf t : Nat)))] [.arrD 9 true [[d0, d1, d2, d3, d4, d5, cD cn C, d7, d8]], .arrD 9 true [zS]]) := by
  intro suf
  induction suf with
  | nil =>
    intro pre hl
    have : C.length = pre.length := by simp [hl]
    rw [ev_loop]
    conv => lhs; arg 4; unfold F_nurseryref23_subscribe_L0
    simp [this, subN, zS, reachC, cut, List.idxOf_cons]
  | cons c suf ih =>
    intro pre hl
    have hg : C[pre.length]? = some c := by simp [hl]
    have hlt2 : pre.length < C.length := by simp [hl]
    have hgg : C[pre.length] = c := by simpa [List.getElem?_eq_getElem hlt2] using hg
    have hlt : (pre.length : Int) < C.length := by omega
    have hnext : IntKind.i64.wrap ((pre.length : Int) + 1) = pre.length + 1 := wrap_i64 (by omega) (by omega)
    have ih' := ih (pre ++ [c]) (by simp [hl])
    by_cases hc : c.task < t
    · have e : subN (c :: suf) t = subN suf t + 1 := by simp [subN, hc]
      have e2 : pre.length + (subN suf t + 1) = (pre ++ [c]).length + subN suf t := by simp; omega
      rw [e, e2, ← ih']
      refine eqv fun R hR => ?_
      rw [ev_loop]
      conv => lhs; arg 4; unfold F_nurseryref23_subscribe_L0
      simp [zS] at hR
      simp [hlt, hlt2, hgg, K.row, hc, hnext, zS, reachC, cut, List.idxOf_cons, hR]
    · have e : subN (c :: suf) t = 0 := by simp [subN, hc]
      rw [e]
      rw [ev_loop]
      conv => lhs; arg 4; unfold F_nurseryref23_subscribe_L0
      simp [hlt, hlt2, hgg, K.row, hc, hnext, zS, reachC, cut, List.idxOf_cons]
theorem app_take {α : Type} (l : List α) (n : Nat) (h : n ≤ l.length) : (l.take n).length = n := by simp; omega
theorem n01 (n : Nat) : (0 : Int) ≤ n + 1 := by omega
theorem n02 (a b : Nat) : (a : Int) ≤ a + (b + 1) := by omega
theorem n03 (a b : Nat) : ¬ a + (b + 1) ≤ a := by omega
theorem n04 (n : Nat) : ((n : Int) + 1).toNat = n + 1 := by omega
theorem n05 (a b : Nat) : ((a : Int) + (b + 1) - a).toNat = b + 1 := by omega
theorem n06 (a b : Nat) : (a : Int) < a + (b + 1) := by omega
theorem n07 (n : Nat) : ¬ ((n : Int) + 1 = 0) := by omega
theorem n08 (n : Nat) : (0 : Int) < n + 1 := by omega
theorem n09 (n : Nat) : 1 + (n + 1) ≤ n + 1 + 1 := by omega
theorem n13 (a b : Nat) : a + 1 + 1 + (b + 1) ≤ a + (b + 1 + 1) + 1 := by omega
theorem n10 (a b : Nat) : ((a : Int) + (b + 1) + 1).toNat = a + 1 + (b + 1) := by omega
theorem n11 (a b : Nat) : a + (b + 1) - a = b + 1 := by omega
theorem n12 (a b : Nat) : ¬ a + 1 + (b + 1) ≤ a + 1 := by omega
theorem tk_all {α β : Type} {f : α → β} {A B : List α} {x y : β} : List.take (A.length + 1 + (B.length + 1)) (x :: (A.map f ++ y :: B.map f)) = x :: (A.map f ++ y :: B.map f) := List.take_of_length_le (by simp; omega)
theorem tk_all1 {α β : Type} {f : α → β} {B : List α} {x y : β} : List.take (1 + (B.length + 1)) (x :: y :: B.map f) = x :: y :: B.map f := List.take_of_length_le (by simp; omega)
theorem dr_all {α β : Type} {f : α → β} {A B : List α} {x y : β} : List.drop (A.length + 1) (x :: (A.map f ++ y :: B.map f)) = y :: B.map f := by
  rw [List.drop_succ_cons]
  exact List.drop_left' (by simp)
theorem tk_all2 {α β : Type} {f : α → β} {A B : List α} {x y z : β} : List.take (A.length + 1 + 1 + (B.length + 1)) (x :: (A.map f ++ y :: z :: B.map f)) = x :: (A.map f ++ y :: z :: B.map f) := List.take_of_length_le (by simp; omega)
theorem ev_rsubscribe (d0 d1 d2 d3 d4 d5 d7 d8 : D) (cn : Bool) (C : List K) (t : Int) (hn : C.length ≤ 100000) :
    ev P (.call nurseryref23_subscribe [.d (.ag [d0, d1, d2, d3, d4, d5, cD cn C, d7, d8]), .d (I' t)] []) = some (.val (.d (.ag [d0, d1, d2, d3, d4, d5, cD false (subC C t), d7, d8])) []) := by
  have hL := loop_rsub d0 d1 d2 d3 d4 d5 d7 d8 cn C t (by omega) C [] rfl
  have hb := subN_le C t
  obtain ⟨A, B, hC, hN, hS⟩ : ∃ A B, C = A ++ B ∧ subN C t = A.length ∧ subC C t = A ++ ⟨t, true, []⟩ :: B :=
    ⟨C.take (subN C t), C.drop (subN C t), (List.take_append_drop _ _).symm, by simp; omega, rfl⟩
  rw [hS]
  rw [hN] at hL
  simp [zS] at hL
  subst hC
  simp at hn
  have hr1 : A.length ≤ room := by unfold room; omega
  have hr2 : A.length + 1 ≤ room := by unfold room; omega
  have hr3 : A.length + 1 + B.length ≤ room := by unfold room; omega
  have hrow : K.row ⟨t, true, []⟩ = [I' t, .sl 1 true []] := rfl
  rw [ev_call P_nurseryref23_subscribe rfl]
  rcases A with _ | ⟨a, A⟩ <;> rcases B with _ | ⟨b, B⟩
  all_goals
    simp at hL hr1 hr2 hr3
    simp [F_nurseryref23_subscribe, mkRows, allDs, hL, reachC, cut, List.idxOf_cons, hrow, hr1, hr2, hr3, n01, n02, n03, n04, n05, n06, n07, n08, n09, n10, n11, n12, n13, tk_all, tk_all1, tk_all2, dr_all, take_map_len, take_snoc, Nat.not_succ_le_self]
end Go.VS.Tp
namespace Go.VS.Tp
/-! the reference: without, Push -/
theorem n14 (a b : Nat) : (a : Int) + 1 ≤ a + (b + 1) := by omega
theorem n15 (a b : Nat) : ((a : Int) + (b + 1)).toNat = a + (b + 1) := by omega
theorem n16 (n : Nat) : (0 : Int) ≤ n + 1 + 1 := by omega
theorem n17 (n : Nat) : (n : Int) ≤ n + 1 := by omega
theorem n18 (a b : Nat) : (a : Int) ≤ a + (b + 1 + 1) := by omega
theorem n19 (a b : Nat) : (a : Int) + 1 ≤ a + (b + 1 + 1) := by omega
theorem n20 (n : Nat) : (1 : Int) ≤ n + 1 + 1 := by omega
theorem n21 (n : Nat) : ((n : Int) + 1 + 1).toNat = n + 1 + 1 := by omega
theorem n22 (a b : Nat) : ((a : Int) + (b + 1 + 1) + 1).toNat = a + 1 + 1 + (b + 1) := by omega
theorem n23 (a b : Nat) : a + (b + 1 + 1) - (a + 1) = b + 1 := by omega
theorem n24 (a b : Nat) : ¬ a + (b + 1 + 1) ≤ a + 1 := by omega
theorem n26 (a b : Nat) : a + 1 + (b + 1) ≤ a + (b + 1) + 1 := by omega
theorem n25 (a b : Nat) : a + (b + 1 + 1) ≤ a + (b + 1) + 1 := by omega
theorem tk_all3 {α β : Type} {f : α → β} {A B : List α} {x y : β} : List.take (A.length + (B.length + 1 + 1)) (x :: (A.map f ++ y :: B.map f)) = x :: (A.map f ++ y :: B.map f) := List.take_of_length_le (by simp; omega)
theorem dr_all2 {α β : Type} {f : α → β} {A B : List α} {x y : β} : List.drop (A.length + 1) (A.map f ++ x :: y :: B.map f) = y :: B.map f := by
  have h : A.map f ++ x :: y :: B.map f = (A.map f ++ [x]) ++ y :: B.map f := by simp
  rw [h]
  exact List.drop_left' (by simp)
theorem ev_without (d0 d1 d2 d3 d4 d5 d7 d8 : D) (cn : Bool) (C A B : List K) (c : K) (t : Int) (hC : C = A ++ c :: B) (hf : fnd C t = (A.length : Int)) (hn : C.length ≤ 100000) :
    ev P (.call nurseryref23_without [.d (.ag [d0, d1, d2, d3, d4, d5, cD cn C, d7, d8]), .d (I' t)] []) = some (.val (.d (.ag [d0, d1, d2, d3, d4, d5, cD false (A ++ B), d7, d8])) []) := by
  have hI := ev_cursor d0 d1 d2 d3 d4 d5 d7 d8 cn C t (by omega)
  rw [hf] at hI
  subst hC
  simp at hn
  have hw1 : IntKind.i64.wrap ((A.length : Int) + 1) = A.length + 1 := wrap_i64 (by omega) (by omega)
  have hr1 : A.length ≤ room := by unfold room; omega
  have hr3 : A.length + B.length ≤ room := by unfold room; omega
  rw [ev_call P_nurseryref23_without rfl]
  rcases A with _ | ⟨a, A⟩ <;> rcases B with _ | ⟨b, B⟩
  all_goals
    have hr4 := hr3
    simp at hI hw1 hr1 hr3
    simp [Nat.add_assoc, Nat.add_comm 1] at hr4
    simp [F_nurseryref23_without, mkRows, allDs, hI, hw1, reachC, cut, List.idxOf_cons, hr1, hr3, n01, n02, n03, n04, n05, n06, n07, n08, n09, n10, n11, n12, n13, n14, n15, n16, n17, n18, n19, n20, n21, n22, n23, n24, n25, n26, hr4, tk_all3, dr_all2, V.same_self, tk_all, tk_all1, tk_all2, dr_all, take_map_len, take_snoc, Nat.not_succ_le_self]
    done
theorem ev_rPush (nl : Bool) (l : List W) (w : W) (h1 : wchk l = 0) (h2 : wvalid w = true) (h3 : l.length < 96) :
    ev P (.call nurseryref07_Push [.d (I' 1), .d (qD nl l), .d (.ag [I' w.task, I' w.op, I' w.value, I' w.prio, I' w.case])] []) = some (.val (.tu [.d (qD false (l ++ [w])), .d (I' 0)]) []) := by
  have hC := ev_rchk nl l (by omega)
  rw [rchk_eq, h1] at hC
  have hV := ev_rValid w
  rw [h2] at hV
  have h4 : ((l.length : Int) == 96) = false := by simp; omega
  have hr : l.length + 1 ≤ room := by unfold room; omega
  have hr0 : l.length ≤ room := by unfold room; omega
  have hrow : w.row = [I' w.task, I' w.op, I' w.value, I' w.prio, I' w.case] := rfl
  rw [ev_call P_nurseryref07_Push rfl]
  rcases l with _ | ⟨a, l⟩
  · simp at hr hr0 hC
    simp [F_nurseryref07_Push, V.same_self, mkRows, allDs, hC, hV, hr, hr0, hrow, reachC, cut, List.idxOf_cons, take_map_len, take_snoc, Nat.not_succ_le_self, n01, n04]
  · have h5 : ((l.length : Int) + 1 == 96) = false := by simp at h3 ⊢; omega
    simp at hr hr0 hC
    simp [F_nurseryref07_Push, V.same_self, mkRows, allDs, hC, hV, h5, hr, hr0, hrow, reachC, cut, List.idxOf_cons, take_map_len, take_snoc, Nat.not_succ_le_self, n01, n04]
end Go.VS.Tp
namespace Go.VS.Tp
/-! the reference: check, next -/
theorem ev_w19 (a b c : Int) : ev P (.call nurseryref19_within [.d (I' a), .d (I' b), .d (I' c)] []) = some (.val (.d (.b (decide (b ≤ a) && decide (a ≤ c)))) []) := by
  rw [ev_call P_nurseryref19_within rfl]
  simp [F_nurseryref19_within]
theorem ev_Caller (t op v p n : Int) : ev P (.call nurseryref19_Caller [.d (.ag [I' t, I' op, I' v, I' p, I' n])] []) = some (.val (.d (.b (!cbad t p n))) []) := by
  have e : (!cbad t p n) = ((decide (0 ≤ t) && decide (t ≤ 15)) && (decide (0 ≤ p) && decide (p ≤ 9)) && (decide (0 ≤ n) && decide (n ≤ 1099511627776))) := by
    unfold cbad
    rw [Bool.eq_iff_iff]
    simp
    omega
  have h1 := ev_w19 t 0 15
  have h2 := ev_w19 p 0 9
  have h3 := ev_w19 n 0 1099511627776
  rw [e]
  generalize (decide (0 ≤ t) && decide (t ≤ 15)) = a at *
  generalize (decide (0 ≤ p) && decide (p ≤ 9)) = b at *
  generalize (decide (0 ≤ n) && decide (n ≤ 1099511627776)) = c at *
  rw [ev_call P_nurseryref19_Caller rfl]
  cases a <;> cases b <;> simp [F_nurseryref19_Caller, h1, h2, h3]
def chkE (k sz ot : Int) (s : S) (t op v p n : Int) : Int := if ckd k sz ot s ≠ 0 then 1 else callE s t op v p n
theorem ev_rcheck (nm : D) (k sz ot : Int) (s : S) (hs : s.sm) (t op v p n : Int) :
    ev P (.call nurseryref23_check [.d (.ag [nm, I' k, I' sz, I' ot]), .d (.ag s.row), .d (.ag [I' t, I' op, I' v, I' p, I' n])] []) = some (.val (.d (I' (chkE k sz ot s t op v p n))) []) := by
  have hC := ev_rCheck nm k sz ot s hs
  have hK := ev_Caller t op v p n
  have hO := ev_w23 op 68 71
  have hV := ev_w23 v (-1099511627776) 1099511627776
  have hF := ev_rFind s.qn s.Q t hs.q
  rw [fd_any] at hF
  have hfd := ev_cursor (I' s.own) (I' s.cnt) (I' s.time) (hD s.hn s.H) (qD s.qn s.Q) (hD s.bn s.B) (.b s.cl) (I' s.val) s.cn s.C t hs.c
  have e2 : (decide (-1099511627776 ≤ v) && decide (v ≤ 1099511627776)) = num v := rfl
  have e3 : (decide (68 ≤ op) && decide (op ≤ 71)) = (op == 68 || op == 69 || op == 70 || op == 71) := by
    rw [Bool.eq_iff_iff]; simp; omega
  rw [e2] at hV
  rw [e3] at hO
  unfold chkE callE
  generalize (s.Q.any fun w => w.task == t) = a at *
  generalize (fdS s.Q t).1 = fi at *
  generalize fnd s.C t = fk at *
  generalize num v = nv at *
  rw [ev_call P_nurseryref23_check rfl]
  by_cases hc : ckd k sz ot s = 0
  · rw [hc] at hC ⊢
    cases hb : cbad t p n <;> rw [hb] at hK
    · by_cases h68 : op = 68
      · subst h68
        simp at hO
        cases nv <;> cases a <;> simp [F_nurseryref23_check, hC, hK, hO, hV, hF, hfd]
      · have h68b : (op == 68) = false := by simp [h68]
        by_cases h69 : op = 69
        · subst h69
          simp at hO
          cases a
          · by_cases hk : 0 ≤ fk
            · have hk2 : ¬ fk < 0 := by omega
              simp [F_nurseryref23_check, hC, hK, hO, hF, hfd, hk, hk2]
            · have hk2 : fk < 0 := by omega
              simp [F_nurseryref23_check, hC, hK, hO, hF, hfd, hk, hk2]
          · simp [F_nurseryref23_check, hC, hK, hO, hF, hfd]
        · have h69b : (op == 69) = false := by simp [h69]
          by_cases h70 : op = 70
          · subst h70
            simp at hO
            cases a
            · by_cases hk : 0 ≤ fk
              · have hk2 : ¬ fk < 0 := by omega
                simp [F_nurseryref23_check, hC, hK, hO, hF, hfd, hk, hk2]
              · have hk2 : fk < 0 := by omega
                simp [F_nurseryref23_check, hC, hK, hO, hF, hfd, hk, hk2]
            · simp [F_nurseryref23_check, hC, hK, hO, hF, hfd]
          · have h70b : (op == 70) = false := by simp [h70]
            by_cases h71 : op = 71
            · subst h71
              simp at hO
              cases a
              · by_cases hk : 0 ≤ fk
                · have hk2 : ¬ fk < 0 := by omega
                  simp [F_nurseryref23_check, hC, hK, hO, hF, hfd, hk, hk2]
                · have hk2 : fk < 0 := by omega
                  simp [F_nurseryref23_check, hC, hK, hO, hF, hfd, hk, hk2]
              · simp [F_nurseryref23_check, hC, hK, hO, hF, hfd]
            · have h71b : (op == 71) = false := by simp [h71]
              simp [h68b, h69b, h70b, h71b] at hO
              simp [F_nurseryref23_check, hC, hK, hO, h68b, h69b, h70b, h71b]
    · simp [F_nurseryref23_check, hC, hK, hb]
  · have hc2 : (ckd k sz ot s != 0) = true := by simpa using hc
    simp [F_nurseryref23_check, hC, hc, hc2]
/-- what the reference makes of those who are woken -/
def rgF (t : Int) : List Wk → Bool × Int × Bool × List Wk → Bool × Int × Bool × List Wk
  | [], r => r
  | w :: l, r => if w.task = t then rgF t l (false, w.value, true, r.2.2.2) else rgF t l (r.1, r.2.1, r.2.2.1, r.2.2.2 ++ [w])
def oK : List Wk → V
  | [] => .d (.sl 5 true [])
  | a :: l => .asl 2 0 (a :: l).length
def oKO : List Wk → List O
  | [] => []
  | a :: l => [.arrD 5 true ((a :: l).map Wk.row)]
def oB (c9 : List D) (p : Bool) (v : Int) (ok : Bool) (k : List Wk) : O :=
  match k with
  | [] => .arrD 13 true [c9 ++ [.b p, I' v, .b ok, .sl 5 true []]]
  | a :: l => .arrV 13 [(c9 ++ [.b p, I' v, .b ok]).map V.d ++ [.asl 2 0 (a :: l).length]]
set_option maxHeartbeats 2000000 in
theorem loop_rnext (c0 c1 c2 c3 c4 c5 c6 c7 c8 : D) (t x1 x2 x3 x4 : Int) (nl : Bool) (L : List Wk) (hn : L.length ≤ 100000) : ∀ (suf pre : List Wk) (p : Bool) (v : Int) (ok : Bool) (k : List Wk), L = pre ++ suf → k.length ≤ pre.length →
    ev P (.loop 0 [5, 6, 12, 13, 14] F_nurseryref23_next_L0 [(5, .d (.ref [I' t, I' x1, I' x2, I' x3, I' x4])), (6, .loc 0 0 0), (12, .d (kD nl L)), (13, .loc 1 0 0), (14, .d (I' pre.length))]
      ([.arrD 13 true [z13], oB [c0, c1, c2, c3, c4, c5, c6, c7, c8] p v ok k] ++ oKO k)) =
      some (.out (.exit 0) [(6, .loc 0 0 0), (13, .loc 1 0 0)] ([.arrD 13 true [z13], oB [c0, c1, c2, c3, c4, c5, c6, c7, c8] (rgF t suf (p, v, ok, k)).1 (rgF t suf (p, v, ok, k)).2.1 (rgF t suf (p, v, ok, k)).2.2.1 (rgF t suf (p, v, ok, k)).2.2.2] ++ oKO (rgF t suf (p, v, ok, k)).2.2.2)) := by
  intro suf
  induction suf with
  | nil =>
    intro pre p v ok k hl _
    have : L.length = pre.length := by simp [hl]
    rw [ev_loop]
    conv => lhs; arg 4; unfold F_nurseryref23_next_L0
    cases k <;> simp [this, rgF, oB, oKO, z13, reachC, cut, List.idxOf_cons, rg2]
  | cons w suf ih =>
    intro pre p v ok k hl hk
    have hg : L[pre.length]? = some w := by simp [hl]
    have hlt2 : pre.length < L.length := by simp [hl]
    have hgg : L[pre.length] = w := by simpa [List.getElem?_eq_getElem hlt2] using hg
    have hlt : (pre.length : Int) < L.length := by omega
    have hnext : IntKind.i64.wrap ((pre.length : Int) + 1) = pre.length + 1 := wrap_i64 (by omega) (by omega)
    have hrow : w.row = [I' w.task, I' w.op, I' w.value, .b true, I' (-1)] := rfl
    by_cases ht : w.task = t
    · have e : rgF t (w :: suf) (p, v, ok, k) = rgF t suf (false, w.value, true, k) := by simp [rgF, ht]
      rw [e, ← ih (pre ++ [w]) false w.value true k (by simp [hl]) (by simp; omega)]
      refine eqv fun R hR => ?_
      rw [ev_loop]
      conv => lhs; arg 4; unfold F_nurseryref23_next_L0
      cases k
      all_goals
        simp [oB, oKO, z13] at hR
        simp [hlt, hlt2, hgg, hrow, ht, hnext, oB, oKO, z13, reachC, cut, List.idxOf_cons, V.same_self, hR]
        done
    · have e : rgF t (w :: suf) (p, v, ok, k) = rgF t suf (p, v, ok, k ++ [w]) := by simp [rgF, ht]
      have ht2 : (w.task == t) = false := by simp [ht]
      rw [e, ← ih (pre ++ [w]) p v ok (k ++ [w]) (by simp [hl]) (by simp; omega)]
      refine eqv fun R hR => ?_
      rw [ev_loop]
      conv => lhs; arg 4; unfold F_nurseryref23_next_L0
      have hr1 : 1 ≤ room := by unfold room; omega
      cases k with
      | nil =>
        simp [oB, oKO, z13, hrow] at hR
        simp [hlt, hlt2, hgg, hrow, ht2, hnext, oB, oKO, z13, reachC, cut, List.idxOf_cons, V.same_self, hr1, hR]
        done
      | cons y k =>
        have hr : k.length + 1 + 1 ≤ room := by unfold room; simp at hk; omega
        simp [oB, oKO, z13, hrow] at hR
        simp [hlt, hlt2, hgg, hrow, ht2, hnext, oB, oKO, z13, reachC, cut, List.idxOf_cons, V.same_self, hr, take_map_len, take_snoc, Nat.not_succ_le_self, hR]
        done
end Go.VS.Tp
namespace Go.VS.Tp
/-! the reference: next, Apply, Withdraw -/
theorem n27 (n : Nat) : (0 : Int) < n + 1 + 1 := by omega
abbrev S.putR (s : S) (a : Rd) : S := { s with qn := a.qn, Q := a.Q, cn := a.cn, C := a.C }
def rnx (sz : Int) (s : S) (t op p : Int) : Rp :=
  match kfd s.C t with
  | none => Rp0
  | some c =>
    match c.log with
    | x :: lg => ⟨s.putR (radv sz s.qn s.Q false (s.C.set (fnd s.C t).toNat ⟨c.task, false, lg⟩)), false, x, true, false, (radv sz s.qn s.Q false (s.C.set (fnd s.C t).toNat ⟨c.task, false, lg⟩)).wn⟩
    | [] => ⟨s.putR (radv sz false (s.Q ++ [W.mk t op 0 p (-1)]) s.cn s.C), (rgF t (radv sz false (s.Q ++ [W.mk t op 0 p (-1)]) s.cn s.C).wn (true, 0, false, [])).1,
        (rgF t (radv sz false (s.Q ++ [W.mk t op 0 p (-1)]) s.cn s.C).wn (true, 0, false, [])).2.1, (rgF t (radv sz false (s.Q ++ [W.mk t op 0 p (-1)]) s.cn s.C).wn (true, 0, false, [])).2.2.1,
        decide ((rgF t (radv sz false (s.Q ++ [W.mk t op 0 p (-1)]) s.cn s.C).wn (true, 0, false, [])).2.2.2 = []), (rgF t (radv sz false (s.Q ++ [W.mk t op 0 p (-1)]) s.cn s.C).wn (true, 0, false, [])).2.2.2⟩
theorem radvF_ok (sz : Int) : ∀ (n : Nat) (a : Rd), a.ok → (radvF sz n a).ok
  | 0, a, h => h
  | n + 1, a, h => by
    unfold radvF
    split
    · exact h
    · rename_i hn
      rcases pub_spec a.Q with ⟨h1, _⟩ | ⟨A, B, w, hQ, hp, _⟩
      · exfalso; apply hn; left; omega
      · have e : ((A.length : Int)).toNat = A.length := by omega
        have hg : a.Q[(pub a.Q).toNat]? = some w := by rw [hp, e, hQ]; simp
        rw [hg]
        exact radvF_ok sz n _ (Rd.ok_step hQ h)
theorem S.wf.rok {s : S} (h : s.wf) (qn : Bool) (Q : List W) (cn : Bool) (C : List K) (h1 : Q.length ≤ 2000) (h2 : C.length ≤ 2000) (h3 : ∀ c ∈ C, (c.nl = true → c.log = []) ∧ c.log.length ≤ 2000) : Rd.ok ⟨qn, Q, cn, C, []⟩ := by
  refine ⟨by simp only; omega, ?_, by simp; omega⟩
  intro c hc
  have := h3 c hc
  exact ⟨this.1, by simp only; omega⟩
set_option maxHeartbeats 2000000 in
theorem ev_rnext (nm : D) (k sz ot : Int) (s : S) (hs : s.wf) (t op v p n : Int) (hf : 0 ≤ fnd s.C t) (h1 : wchk s.Q = 0) (h2 : wvalid ⟨t, op, 0, p, -1⟩ = true) (h3 : s.Q.length < 96) :
    ev P (.call nurseryref23_next [.d (.ag [nm, I' k, I' sz, I' ot]), .d (.ag s.row), .d (.ag [I' t, I' op, I' v, I' p, I' n])] []) = some (.val (.d (.ag (rnx sz s t op p).row)) []) := by
  obtain ⟨A, c, B, hS, hfe, hkf⟩ := find_split hf
  have hI := ev_cursor (I' s.own) (I' s.cnt) (I' s.time) (hD s.hn s.H) (qD s.qn s.Q) (hD s.bn s.B) (.b s.cl) (I' s.val) s.cn s.C t (by have := hs.c; omega)
  rw [hfe] at hI
  have eN : ((A.length : Int)).toNat = A.length := by omega
  have hgm : s.C[A.length]? = some c := by rw [hS]; simp
  have hCl : s.C.length = A.length + (B.length + 1) := by rw [hS]; simp
  have hlt2 : A.length < s.C.length := by omega
  have hlt : (A.length : Int) < s.C.length := by omega
  have hgg : s.C[A.length] = c := by simpa [List.getElem?_eq_getElem hlt2] using hgm
  have hcm := hs.l c (by rw [hS]; simp)
  have hrow : c.row = [I' c.task, hD c.nl c.log] := rfl
  rw [ev_call P_nurseryref23_next rfl]
  unfold rnx
  rw [hkf, hfe, eN]
  simp only
  cases hlg : c.log with
  | cons x lg =>
    simp only
    rw [hlg] at hcm hrow
    have e2 : s.C.set A.length ⟨c.task, false, lg⟩ = A ++ ⟨c.task, false, lg⟩ :: B := by rw [hS]; exact set_split
    rw [e2]
    have hR := ev_radvance nm (I' k) (I' ot) (I' s.own) (I' s.cnt) (I' s.time) (hD s.hn s.H) (hD s.bn s.B) (.b s.cl) (I' s.val) sz s.qn s.Q false (A ++ ⟨c.task, false, lg⟩ :: B)
      (hs.rok _ _ _ _ (by have := hs.q; omega) (by have := hs.c; simp; omega) (by
        intro d hd
        rw [List.mem_append, List.mem_cons] at hd
        rcases hd with hd | rfl | hd
        · have := hs.l d (by rw [hS]; simp [hd])
          exact ⟨this.1, by omega⟩
        · refine ⟨by simp, ?_⟩
          have := hcm.2
          simp at this ⊢
          omega
        · have := hs.l d (by rw [hS]; simp [hd])
          exact ⟨this.1, by omega⟩))
    generalize radv sz s.qn s.Q false (A ++ ⟨c.task, false, lg⟩ :: B) = a at *
    obtain ⟨own, cnt, time, hn, H, qn, Q, bn, B', cn, C, cl, val⟩ := s
    obtain ⟨qn', Q', cn', C', wn⟩ := a
    simp only at hI hR hS hCl hlt hlt2 hgg hgm hs ⊢
    have hsm := fun y => set_mid (A := A.map K.row) (B := B.map K.row) (x := c.row) (y := y) (n := A.length) (by simp)
    have hmr : C.map K.row = A.map K.row ++ c.row :: B.map K.row := by rw [hS]; simp
    have hnl : c.nl = false := by
      cases h : c.nl
      · rfl
      · have := hcm.1 h; cases this
    have hl2 : lg.length ≤ room := by have := hcm.2; simp at this; unfold room; omega
    have hCr : C.length ≤ room := by have := hs.c; simp only at this; unfold room; omega
    simp [hrow, hnl] at hsm hmr
    have hC0 : ¬ C = [] := by rw [hS]; simp
    have hCr2 : A.length + (B.length + 1) ≤ room := by rw [hCl] at hCr; exact hCr
    have hlt3 : (A.length : Int) < A.length + (B.length + 1) := by omega
    have hlt4 : A.length < A.length + (B.length + 1) := by omega
    have htk : ∀ r : List D, List.take (A.length + (B.length + 1)) (A.map K.row ++ r :: B.map K.row) = A.map K.row ++ r :: B.map K.row := fun r => List.take_of_length_le (by simp)
    have hgm2 := fun y => get_mid (A := A.map K.row) (B := B.map K.row) (x := y) (n := A.length) (by simp)
    cases lg with
    | nil =>
      simp only [cD, hD, rows1, List.map_append, List.map_cons, List.map_nil, K.row] at hR
      simp [F_nurseryref23_next, hI, hlt, hlt2, hgg, hrow, hnl, mkRows, allDs, reachC, cut, List.idxOf_cons, V.same_self, freezeAll, freeze1, thaw, hCr2, hlt3, hlt4, htk, hgm2, hC0, hCl, hmr, hsm, hR]
      done
    | cons y lg =>
      simp at hl2
      simp only [cD, hD, rows1, List.map_append, List.map_cons, List.map_nil, K.row] at hR
      simp [F_nurseryref23_next, hI, hlt, hlt2, hgg, hrow, hnl, mkRows, allDs, reachC, cut, List.idxOf_cons, V.same_self, freezeAll, freeze1, thaw, hCr2, hlt3, hlt4, htk, hgm2, hC0, hCl, hmr, hsm, hl2, take_map_len, n01, n16, n20, n27, n21, n04, hR]
      done
  | nil =>
    simp only
    rw [hlg] at hcm hrow
    have hP := ev_rPush s.qn s.Q ⟨t, op, 0, p, -1⟩ h1 h2 h3
    have hok : Rd.ok ⟨false, s.Q ++ [W.mk t op 0 p (-1)], s.cn, s.C, []⟩ :=
      hs.rok _ _ _ _ (by have := hs.q; simp; omega) (by have := hs.c; omega) (fun d hd => by have := hs.l d hd; exact ⟨this.1, by omega⟩)
    have hR := ev_radvance nm (I' k) (I' ot) (I' s.own) (I' s.cnt) (I' s.time) (hD s.hn s.H) (hD s.bn s.B) (.b s.cl) (I' s.val) sz false (s.Q ++ [W.mk t op 0 p (-1)]) s.cn s.C hok
    have hwl : (radv sz false (s.Q ++ [W.mk t op 0 p (-1)]) s.cn s.C).wn.length ≤ 100000 := by
      have := (radvF_ok sz ((s.Q ++ [W.mk t op 0 p (-1)]).length + 1) _ hok).2.2
      unfold radv
      omega
    generalize radv sz false (s.Q ++ [W.mk t op 0 p (-1)]) s.cn s.C = a at *
    obtain ⟨own, cnt, time, hn, H, qn, Q, bn, B', cn, C, cl, val⟩ := s
    obtain ⟨qn', Q', cn', C', wn⟩ := a
    simp only at hI hR hP hS hCl hlt hlt2 hgg hgm hs hwl ⊢
    have hL := loop_rnext (I' own) (I' cnt) (I' time) (hD hn H) (qD qn' Q') (hD bn B') (cD cn' C') (.b cl) (I' val) t op v p n false wn hwl wn [] true 0 false [] rfl (by simp)
    simp [oB, oKO, z13] at hL
    generalize hrg : rgF t wn (true, 0, false, []) = r at *
    obtain ⟨rp, rv, rk, rw'⟩ := r
    simp only at hL ⊢
    cases rw'
    all_goals
      simp [oB, oKO] at hL
      simp [F_nurseryref23_next, hI, hlt, hlt2, hgg, hrow, mkRows, allDs, reachC, cut, List.idxOf_cons, V.same_self, hP, hR, hL, take_map_len, toDs, toD, endH]
      done
end Go.VS.Tp
namespace Go.VS.Tp
/-! the reference: Apply, Withdraw; Ready, Lag -/
def rap (k sz ot : Int) (s : S) (t op v p n : Int) : Rp × Int :=
  if chkE k sz ot s t op v p n ≠ 0 then (Rp0, chkE k sz ot s t op v p n) else
  if op = 69 then (⟨{ s with cn := false, C := subC s.C t }, false, 0, true, true, []⟩, 0) else
  if op = 71 then (⟨s.putR (radv sz s.qn s.Q false (del s.C t)), false, 0, true, false, (radv sz s.qn s.Q false (del s.C t)).wn⟩, 0) else
  if op = 70 then (rnx sz s t op p, 0) else
  if (decide (pub s.Q < 0) && !rfl' sz s.C s.Q) = true then (⟨{ s with qn := false, Q := pO s.Q, cn := false, C := s.C.map (pubK s.Q v) }, false, 0, true, false, pW v s.Q⟩, 0)
  else (⟨{ s with qn := false, Q := s.Q ++ [W.mk t op v p (-1)] }, true, 0, false, true, []⟩, 0)
theorem wOK {t op v p n : Int} (hb : cbad t p n = false) (ho : 68 ≤ op ∧ op ≤ 71) (hv : num v = true) : wvalid ⟨t, op, v, p, -1⟩ = true := by
  unfold cbad at hb
  unfold num at hv
  simp at hb hv
  unfold wvalid wbad
  simp
  omega
theorem chk_zero {k sz ot : Int} {s : S} {t op v p n : Int} (h : chkE k sz ot s t op v p n = 0) : ckd k sz ot s = 0 ∧ callE s t op v p n = 0 := by
  unfold chkE at h
  split at h
  · cases h
  · rename_i h2
    exact ⟨by simpa using h2, h⟩
theorem callE_cbad {s : S} {t op v p n : Int} (h : callE s t op v p n = 0) : cbad t p n = false := by
  unfold callE at h
  split at h
  · cases h
  · rename_i h2; simpa using h2
theorem callE_num {s : S} {t v p n : Int} (h : callE s t 68 v p n = 0) : num v = true := by
  unfold callE at h
  split at h
  · cases h
  · split at h
    · cases h
    · split at h
      · cases h
      · rename_i h2
        simp at h2
        exact h2
theorem ckd_good {k sz ot : Int} {s : S} (h : ckd k sz ot s = 0) : mnew k sz ot = 0 ∧ s.good sz = true := by
  unfold ckd at h
  split at h
  · rename_i h1
    refine ⟨h1, ?_⟩
    cases hg : s.good sz
    · rw [hg] at h; simp at h
    · rfl
  · rename_i h1; exact absurd h h1
theorem good_w {sz : Int} {s : S} (h : s.good sz = true) : wchk s.Q = 0 := by
  unfold S.good at h
  simp at h
  exact h.1.2.2.1
set_option maxHeartbeats 2000000 in
theorem ev_rApply (nm : D) (k sz ot : Int) (s : S) (hs : s.wf) (hq : s.Q.length ≤ 90) (t op v p n : Int) :
    ev P (.call nurseryref23_Apply [.d (.ag [nm, I' k, I' sz, I' ot]), .d (.ag s.row), .d (.ag [I' t, I' op, I' v, I' p, I' n])] []) = some (.val (.tu [.d (.ag (rap k sz ot s t op v p n).1.row), .d (I' (rap k sz ot s t op v p n).2)]) []) := by
  have hE := ev_rcheck nm k sz ot s hs.sm t op v p n
  by_cases he : chkE k sz ot s t op v p n = 0
  · obtain ⟨hc, hce⟩ := chk_zero he
    rw [he] at hE
    have hw := good_w (ckd_good hc).2
    have hcb := callE_cbad hce
    rcases callE_op hce with rfl | rfl | rfl | rfl
    · have e : rap k sz ot s t 68 v p n = if (decide (pub s.Q < 0) && !rfl' sz s.C s.Q) = true then (⟨{ s with qn := false, Q := pO s.Q, cn := false, C := s.C.map (pubK s.Q v) }, false, 0, true, false, pW v s.Q⟩, 0)
          else (⟨{ s with qn := false, Q := s.Q ++ [W.mk t 68 v p (-1)] }, true, 0, false, true, []⟩, 0) := by simp [rap, he]
      rw [e]
      have hPb := ev_publisher (I' s.own) (I' s.cnt) (I' s.time) (hD s.hn s.H) (hD s.bn s.B) (cD s.cn s.C) (.b s.cl) (I' s.val) s.qn s.Q (by omega)
      have hFu := ev_rFull sz nm (I' k) (I' ot) (I' s.own) (I' s.cnt) (I' s.time) (hD s.hn s.H) (hD s.bn s.B) (.b s.cl) (I' s.val) s.qn s.Q s.cn s.C (by omega) (by have := hs.c; omega)
      have hPd := ev_published (I' s.own) (I' s.cnt) (I' s.time) (hD s.hn s.H) (hD s.bn s.B) (.b s.cl) (I' s.val) s.qn s.cn s.Q s.C v (by omega) (by have := hs.c; omega) (fun c hc => by have := hs.l c hc; exact ⟨this.1, by omega⟩)
      have hPu := ev_rPush s.qn s.Q ⟨t, 68, v, p, -1⟩ hw (wOK (n := n) hcb (by omega) (callE_num hce)) (by omega)
      generalize s.C.map (pubK s.Q v) = C' at *
      generalize pW v s.Q = wn at *
      generalize pO s.Q = ot' at *
      generalize pub s.Q = pq at *
      generalize rfl' sz s.C s.Q = rf at *
      clear e
      obtain ⟨own, cnt, time, hn, H, qn, Q, bn, B', cn, C, cl, val⟩ := s
      simp only at hE hPb hFu hPd hPu ⊢
      rw [ev_call P_nurseryref23_Apply rfl]
      by_cases hp : pq < 0
      · cases rf
        · simp [F_nurseryref23_Apply, hE, hPb, hp, hFu, hPd]
          done
        · simp [F_nurseryref23_Apply, hE, hPb, hp, hFu, hPu]
          done
      · simp [F_nurseryref23_Apply, hE, hPb, hp, hPu]
        done
    · have e : rap k sz ot s t 69 v p n = (⟨{ s with cn := false, C := subC s.C t }, false, 0, true, true, []⟩, 0) := by simp [rap, he]
      rw [e]
      have hS := ev_rsubscribe (I' s.own) (I' s.cnt) (I' s.time) (hD s.hn s.H) (qD s.qn s.Q) (hD s.bn s.B) (.b s.cl) (I' s.val) s.cn s.C t (by have := hs.c; omega)
      rw [ev_call P_nurseryref23_Apply rfl]
      simp [F_nurseryref23_Apply, hE, hS]
      done
    · have e : rap k sz ot s t 70 v p n = (rnx sz s t 70 p, 0) := by simp [rap, he]
      rw [e]
      have hN := ev_rnext nm k sz ot s hs t 70 v p n (callE_find hce (.inr rfl)) hw (wOK (n := n) hcb (by omega) rfl) (by omega)
      generalize rnx sz s t 70 p = r at *
      rw [ev_call P_nurseryref23_Apply rfl]
      simp [F_nurseryref23_Apply, hE, hN]
      done
    · obtain ⟨A, c, B, hS, hfe, hkf⟩ := find_split (callE_find hce (.inl rfl))
      have hdel : del s.C t = A ++ B := by
        have eN : ((A.length : Int)).toNat = A.length := by omega
        unfold del
        rw [hfe, eN, hS, List.eraseIdx_append_of_length_le (by omega)]
        simp
      have e : rap k sz ot s t 71 v p n = (⟨s.putR (radv sz s.qn s.Q false (A ++ B)), false, 0, true, false, (radv sz s.qn s.Q false (A ++ B)).wn⟩, 0) := by simp [rap, he, hdel]
      rw [e]
      have hWi := ev_without (I' s.own) (I' s.cnt) (I' s.time) (hD s.hn s.H) (qD s.qn s.Q) (hD s.bn s.B) (.b s.cl) (I' s.val) s.cn s.C A B c t hS hfe (by have := hs.c; omega)
      have hR := ev_radvance nm (I' k) (I' ot) (I' s.own) (I' s.cnt) (I' s.time) (hD s.hn s.H) (hD s.bn s.B) (.b s.cl) (I' s.val) sz s.qn s.Q false (A ++ B)
        (hs.rok _ _ _ _ (by omega) (by have := hs.c; rw [hS] at this; simp at this ⊢; omega) (by
          intro d hd
          have := hs.l d (by rw [hS]; rw [List.mem_append] at hd; rcases hd with hd | hd <;> simp [hd])
          exact ⟨this.1, by omega⟩))
      generalize radv sz s.qn s.Q false (A ++ B) = a at *
      clear e
      obtain ⟨own, cnt, time, hn, H, qn, Q, bn, B', cn, C, cl, val⟩ := s
      simp only at hE hWi hR ⊢
      rw [ev_call P_nurseryref23_Apply rfl]
      simp [F_nurseryref23_Apply, hE, hWi, hR, V.same_self, thaw, freezeAll, freeze1, reachC, cut, List.idxOf_cons]
      done
  · have e : rap k sz ot s t op v p n = (Rp0, chkE k sz ot s t op v p n) := by simp [rap, he]
    rw [e]
    generalize chkE k sz ot s t op v p n = x at *
    have he2 : (x != 0) = true := by simpa using he
    rw [ev_call P_nurseryref23_Apply rfl]
    simp [F_nurseryref23_Apply, hE, he2, Rp0, S0]
def rwd (k sz ot : Int) (s : S) (t : Int) : Rp × Int :=
  if ckd k sz ot s ≠ 0 then (Rp0, 1) else if (s.Q.any fun w => w.task == t) = false then (Rp0, 7) else
  (⟨s.putR (radv sz false (s.Q.filter fun w => w.task != t) s.cn s.C), false, 0, false, false, (radv sz false (s.Q.filter fun w => w.task != t) s.cn s.C).wn⟩, 0)
theorem ev_rWithdraw (nm : D) (k sz ot : Int) (s : S) (hs : s.wf) (t : Int) :
    ev P (.call nurseryref23_Withdraw [.d (.ag [nm, I' k, I' sz, I' ot]), .d (.ag s.row), .d (I' t)] []) = some (.val (.tu [.d (.ag (rwd k sz ot s t).1.row), .d (I' (rwd k sz ot s t).2)]) []) := by
  have hC := ev_rCheck nm k sz ot s hs.sm
  have hF := ev_rFind s.qn s.Q t (by have := hs.q; omega)
  rw [fd_any] at hF
  have hR := ev_rRemove s.qn s.Q t (by have := hs.q; omega)
  have hle : (s.Q.filter fun w => w.task != t).length ≤ s.Q.length := List.length_filter_le _ _
  have hA := ev_radvance nm (I' k) (I' ot) (I' s.own) (I' s.cnt) (I' s.time) (hD s.hn s.H) (hD s.bn s.B) (.b s.cl) (I' s.val) sz false (s.Q.filter fun w => w.task != t) s.cn s.C
    (hs.rok _ _ _ _ (by have := hs.q; omega) (by have := hs.c; omega) (fun d hd => by have := hs.l d hd; exact ⟨this.1, by omega⟩))
  unfold rwd
  generalize radv sz false (s.Q.filter fun w => w.task != t) s.cn s.C = a at *
  generalize (s.Q.filter fun w => w.task != t) = Q' at *
  generalize (s.Q.any fun w => w.task == t) = an at *
  generalize (fdS s.Q t).1 = fi at *
  rw [ev_call P_nurseryref23_Withdraw rfl]
  by_cases hc : ckd k sz ot s = 0
  · rw [hc] at hC ⊢
    cases an
    · simp [F_nurseryref23_Withdraw, hC, hF, Rp0, S0]
    · simp [F_nurseryref23_Withdraw, hC, hF, hR, hA]
  · have hc2 : (ckd k sz ot s != 0) = true := by simpa using hc
    simp [F_nurseryref23_Withdraw, hC, hc, hc2, Rp0, S0]
theorem ev_rReady (nm : D) (k sz ot : Int) (s : S) (hs : s.wf) (hq : s.Q.length ≤ 90) (t op v p n : Int) :
    ev P (.call nurseryref23_Ready [.d (.ag [nm, I' k, I' sz, I' ot]), .d (.ag s.row), .d (.ag [I' t, I' op, I' v, I' p, I' n])] []) = some (.val (.d (.b ((rap k sz ot s t op v p n).2 == 0 && !(rap k sz ot s t op v p n).1.parked))) []) := by
  have h := ev_rApply nm k sz ot s hs hq t op v p n
  generalize rap k sz ot s t op v p n = r at *
  rw [ev_call P_nurseryref23_Ready rfl]
  cases hz : r.2 == 0 <;> simp [F_nurseryref23_Ready, h, hz]
theorem ev_mReady (nm : D) (k sz ot : Int) (s : S) (hs : s.wf) (t op v p n : Int) :
    ev P (.call topic_Ready [.d (.ag [nm, I' k, I' sz, I' ot]), .d (.ag s.row), .d (.ag [I' t, I' op, I' v, I' p, I' n])] []) = some (.val (.d (.b ((ap k sz ot s t op v p n).2 == 0 && !(ap k sz ot s t op v p n).1.parked))) []) := by
  have h := ev_apply nm k sz ot s hs t op v p n
  generalize ap k sz ot s t op v p n = r at *
  rw [ev_call P_topic_Ready rfl]
  cases hz : r.2 == 0 <;> simp [F_topic_Ready, h, hz]
def lag (C : List K) (t : Int) : Int × Int := match kfd C t with | some c => (c.log.length, 0) | none => (0, 7)
theorem ev_mLag (d0 d1 d2 d3 d4 d5 d7 d8 : D) (cn : Bool) (C : List K) (t : Int) (hn : C.length ≤ 1000000) :
    ev P (.call topic_Lag [.d (.ag [d0, d1, d2, d3, d4, d5, cD cn C, d7, d8]), .d (I' t)] []) = some (.val (.tu [.d (I' (lag C t).1), .d (I' (lag C t).2)]) []) := by
  have hI := ev_find d0 d1 d2 d3 d4 d5 d7 d8 cn C t hn
  rw [ev_call P_topic_Lag rfl]
  rcases fnd_spec C t with ⟨f1, f2⟩ | ⟨i, c, f1, f2, f3⟩
  · rw [f1] at hI
    simp [F_topic_Lag, hI, lag, f2]
  · rw [f1] at hI
    have n1 : ¬ ((i : Int) < 0) := by omega
    obtain ⟨hlt, he⟩ := List.getElem?_eq_some_iff.1 f2
    have hlt2 : (i : Int) < C.length := by omega
    simp [F_topic_Lag, hI, lag, f2, f3, n1, hlt, hlt2, he, K.row]
theorem ev_rLag (d0 d1 d2 d3 d4 d5 d7 d8 : D) (cn : Bool) (C : List K) (t : Int) (hn : C.length ≤ 1000000) :
    ev P (.call nurseryref23_Lag [.d (.ag [d0, d1, d2, d3, d4, d5, cD cn C, d7, d8]), .d (I' t)] []) = some (.val (.tu [.d (I' (lag C t).1), .d (I' (lag C t).2)]) []) := by
  have hI := ev_cursor d0 d1 d2 d3 d4 d5 d7 d8 cn C t hn
  rw [ev_call P_nurseryref23_Lag rfl]
  rcases fnd_spec C t with ⟨f1, f2⟩ | ⟨i, c, f1, f2, f3⟩
  · rw [f1] at hI
    simp [F_nurseryref23_Lag, hI, lag, f2]
  · rw [f1] at hI
    have n1 : ¬ ((i : Int) < 0) := by omega
    obtain ⟨hlt, he⟩ := List.getElem?_eq_some_iff.1 f2
    have hlt2 : (i : Int) < C.length := by omega
    simp [F_nurseryref23_Lag, hI, lag, f2, f3, n1, hlt, hlt2, he, K.row]
end Go.VS.Tp
namespace Go.VS.Tp
/-! equal states and replies -/
theorem loop_SameInts (n1 n2 : Bool) (l m : List Int) (hn : l.length ≤ 1000000) (hm : l.length = m.length) : ∀ (suf suf' pre : List Int), l = pre ++ suf → m = pre ++ suf' →
    ev P (.loop 0 [0, 1, 5] F_nurseryref19_sameInts_L0 [(0, .d (hD n1 l)), (1, .d (hD n2 m)), (5, .d (I' pre.length))] []) =
      if suf = suf' then some (.out (.exit 0) [] []) else some (.out .ret [(4, .d (.b false))] []) := by
  intro suf
  induction suf with
  | nil =>
    intro suf' pre hl hl'
    have h1 : l.length = pre.length := by simp [hl]
    have : suf' = [] := by
      have h2 : m.length = pre.length + suf'.length := by simp [hl']
      exact List.length_eq_zero_iff.1 (by omega)
    subst this
    rw [ev_loop]
    conv => lhs; arg 4; unfold F_nurseryref19_sameInts_L0
    simp [h1]
  | cons w suf ih =>
    intro suf' pre hl hl'
    have hg : l[pre.length]? = some w := by simp [hl]
    have hlt : (pre.length : Int) < l.length := by simp [hl]; omega
    have hnext : IntKind.i64.wrap ((pre.length : Int) + 1) = pre.length + 1 := wrap_i64 (by omega) (by omega)
    cases suf' with
    | nil => exfalso; simp [hl, hl'] at hm
    | cons w' suf' =>
    have hg' : m[pre.length]? = some w' := by simp [hl']
    rw [ev_loop]
    conv => lhs; arg 4; unfold F_nurseryref19_sameInts_L0
    by_cases hw : w = w'
    · subst hw
      have ih' := ih suf' (pre ++ [w]) (by simp [hl]) (by simp [hl'])
      simp at ih'
      simp [hlt, hg, hg', hnext]
      exact ih'
    · have hw2 : (w != w') = true := by simpa using hw
      simp [hlt, hg, hg', hw2, hw]
theorem ev_SameInts (n1 n2 : Bool) (l m : List Int) (hn : l.length ≤ 1000000) :
    ev P (.call nurseryref19_sameInts [.d (hD n1 l), .d (hD n2 m)] []) = some (.val (.d (.b (l == m))) []) := by
  rw [ev_call P_nurseryref19_sameInts rfl]
  by_cases hlen : l.length = m.length
  · have hl := loop_SameInts n1 n2 l m hn hlen l m [] rfl rfl
    simp at hl
    have : ((l.length : Int) != m.length) = false := by simp [hlen]
    simp [F_nurseryref19_sameInts, this]
    simp [hl]
    by_cases h : l = m <;> simp [h]
  · have : ((l.length : Int) != m.length) = true := by simp; omega
    have h2 : ¬ l = m := fun h => hlen (by rw [h])
    simp [F_nurseryref19_sameInts, this, h2]
structure S.same (s s' : S) : Prop where
  own : s.own = s'.own
  cnt : s.cnt = s'.cnt
  time : s.time = s'.time
  H : s.H = s'.H
  Q : s.Q = s'.Q
  B : s.B = s'.B
  C : s.C = s'.C
  cl : s.cl = s'.cl
  val : s.val = s'.val
theorem S.same.refl (s : S) : s.same s := ⟨rfl, rfl, rfl, rfl, rfl, rfl, rfl, rfl, rfl⟩
theorem loop_SS (d0 d1 d2 d3 d4 d5 d7 d8 e0 e1 e2 e3 e4 e5 e7 e8 : D) (cn cn' : Bool) (C : List K) (hn : C.length ≤ 1000000) (hl1 : ∀ c ∈ C, c.log.length ≤ 1000000) : ∀ (suf pre : List K), C = pre ++ suf →
    ev P (.loop 0 [2, 3, 5] F_nurseryref19_SameState_L0 [(2, .d (.ref [d0, d1, d2, d3, d4, d5, cD cn C, d7, d8])), (3, .d (.ref [e0, e1, e2, e3, e4, e5, cD cn' C, e7, e8])), (5, .d (I' pre.length))] []) = some (.out (.exit 0) [] []) := by
  intro suf
  induction suf with
  | nil =>
    intro pre hl
    have : C.length = pre.length := by simp [hl]
    rw [ev_loop]
    conv => lhs; arg 4; unfold F_nurseryref19_SameState_L0
    simp [this]
  | cons c suf ih =>
    intro pre hl
    have hg : C[pre.length]? = some c := by simp [hl]
    have hlt2 : pre.length < C.length := by simp [hl]
    have hgg : C[pre.length] = c := by simpa [List.getElem?_eq_getElem hlt2] using hg
    have hlt : (pre.length : Int) < C.length := by omega
    have hnext : IntKind.i64.wrap ((pre.length : Int) + 1) = pre.length + 1 := wrap_i64 (by omega) (by omega)
    have ih' := ih (pre ++ [c]) (by simp [hl])
    have hI := ev_SameInts c.nl c.nl c.log c.log (hl1 c (by simp [hl]))
    simp at ih' hI
    rw [ev_loop]
    conv => lhs; arg 4; unfold F_nurseryref19_SameState_L0
    simp [hlt, hlt2, hgg, K.row, hI, hnext]
    exact ih'
theorem ev_SameState (s s' : S) (h : s.same s') (hs : s.sm) :
    ev P (.call nurseryref19_SameState [.d (.ag s.row), .d (.ag s'.row)] []) = some (.val (.d (.b true)) []) := by
  obtain ⟨own, cnt, time, hn, H, qn, Q, bn, B, cn, C, cl, val⟩ := s
  obtain ⟨own', cnt', time', hn', H', qn', Q', bn', B', cn', C', cl', val'⟩ := s'
  obtain ⟨h1, h2, h3, h4, h5, h6, h7, h8, h9⟩ := h
  simp only at h1 h2 h3 h4 h5 h6 h7 h8 h9
  subst h1 h2 h3 h4 h5 h6 h7 h8 h9
  have hL := loop_SS (I' own) (I' cnt) (I' time) (hD hn H) (qD qn Q) (hD bn B) (.b cl) (I' val) (I' own) (I' cnt) (I' time) (hD hn' H) (qD qn' Q) (hD bn' B) (.b cl) (I' val) cn cn' C hs.c hs.l C [] rfl
  have e1 := ev_SameWaiters qn qn' Q Q hs.q
  have e2 := ev_SameInts hn hn' H H hs.h
  have e3 := ev_SameInts bn bn' B B hs.b
  simp at hL e1 e2 e3
  rw [ev_call P_nurseryref19_SameState rfl]
  simp [F_nurseryref19_SameState, e1, e2, e3, hL]
def wkOk (r : List D) : Prop := ∃ a b c e f, r = [I' a, I' b, I' c, .b e, I' f]
theorem loop_SR (c c' : List D) (kn kn' : Bool) (k : List (List D)) (hc : c.length = 12) (hc' : c'.length = 12) (hn : k.length ≤ 1000000) (hk : ∀ r, r ∈ k → wkOk r) : ∀ (suf pre : List (List D)), k = pre ++ suf →
    ev P (.loop 0 [2, 3, 5] F_nurseryref19_SameReply_L0 [(2, .d (.ref (c ++ [.sl 5 kn k]))), (3, .d (.ref (c' ++ [.sl 5 kn' k]))), (5, .d (I' pre.length))] []) = some (.out (.exit 0) [(2, .d (.ref (c ++ [.sl 5 kn k]))), (3, .d (.ref (c' ++ [.sl 5 kn' k])))] []) := by
  have hd : (c ++ [D.sl 5 kn k]).drop 12 = [D.sl 5 kn k] := by rw [← hc]; simp
  have hd' : (c' ++ [D.sl 5 kn' k]).drop 12 = [D.sl 5 kn' k] := by rw [← hc']; simp
  have hl : (c ++ [D.sl 5 kn k]).length = 13 := by simp [hc]
  have hl' : (c' ++ [D.sl 5 kn' k]).length = 13 := by simp [hc']
  generalize c ++ [D.sl 5 kn k] = x at *
  generalize c' ++ [D.sl 5 kn' k] = x' at *
  intro suf
  induction suf with
  | nil =>
    intro pre hl0
    have : k.length = pre.length := by simp [hl0]
    rw [ev_loop]
    conv => lhs; arg 4; unfold F_nurseryref19_SameReply_L0
    simp [this, hd, hl]
  | cons w suf ih =>
    intro pre hl0
    have hg : k[pre.length]? = some w := by simp [hl0]
    have hlt : (pre.length : Int) < k.length := by simp [hl0]; omega
    have hnext : IntKind.i64.wrap ((pre.length : Int) + 1) = pre.length + 1 := wrap_i64 (by omega) (by omega)
    have ih' := ih (pre ++ [w]) (by simp [hl0])
    obtain ⟨a1, a2, a3, a4, a5, rfl⟩ := hk w (by simp [hl0])
    simp at ih'
    rw [ev_loop]
    conv => lhs; arg 4; unfold F_nurseryref19_SameReply_L0
    simp [hlt, hg, hd, hd', hl, hl', hnext]
    exact ih'
theorem wk_ok {q : List Wk} : ∀ r, r ∈ q.map Wk.row → wkOk r := by
  intro r hr
  obtain ⟨w, _, rfl⟩ := List.mem_map.1 hr
  exact ⟨_, _, _, _, _, rfl⟩
structure Rp.same (r r' : Rp) : Prop where
  st : r.st.same r'.st
  parked : r.parked = r'.parked
  value : r.value = r'.value
  ok : r.ok = r'.ok
  wn : r.wn = r'.wn
theorem ev_SameReply (r r' : Rp) (h : r.same r') (hs : r.st.sm) (hw : r.wn.length ≤ 1000000) :
    ev P (.call nurseryref19_SameReply [.d (.ag r.row), .d (.ag r'.row)] []) = some (.val (.d (.b true)) []) := by
  have hS := ev_SameState r.st r'.st h.st hs
  have hL := loop_SR [I' r.st.own, I' r.st.cnt, I' r.st.time, hD r.st.hn r.st.H, qD r.st.qn r.st.Q, hD r.st.bn r.st.B, cD r.st.cn r.st.C, .b r.st.cl, I' r.st.val, .b r.parked, I' r.value, .b r.ok]
    [I' r'.st.own, I' r'.st.cnt, I' r'.st.time, hD r'.st.hn r'.st.H, qD r'.st.qn r'.st.Q, hD r'.st.bn r'.st.B, cD r'.st.cn r'.st.C, .b r'.st.cl, I' r'.st.val, .b r'.parked, I' r'.value, .b r'.ok] r.kn r'.kn (r.wn.map Wk.row) rfl rfl (by simpa using hw) wk_ok (r.wn.map Wk.row) [] rfl
  have h1 := h.parked
  have h2 := h.value
  have h3 := h.ok
  have h4 := h.wn
  obtain ⟨st, p, v, ok, kn, wn⟩ := r
  obtain ⟨st', p', v', ok', kn', wn'⟩ := r'
  simp only at h1 h2 h3 h4 hS hL ⊢
  subst h1 h2 h3 h4
  simp at hL
  rw [ev_call P_nurseryref19_SameReply rfl]
  cases p <;> cases ok <;> simp [F_nurseryref19_SameReply, hL, hS]
def greatB (s : S) : Bool := decide (12 < s.Q.length) || decide (12 < s.H.length) || decide (12 < s.B.length) || decide (12 < s.C.length) || s.C.any fun c => decide (12 < c.log.length)
theorem loop_Great (d0 d1 d2 d3 d4 d5 d7 d8 : D) (cn : Bool) (C : List K) (hn : C.length ≤ 1000000) : ∀ (suf pre : List K), C = pre ++ suf →
    ev P (.loop 0 [1, 3] F_nurseryref19_Great_L0 [(1, .d (.ref [d0, d1, d2, d3, d4, d5, cD cn C, d7, d8])), (3, .d (I' pre.length))] []) =
      if (suf.any fun c => decide (12 < c.log.length)) = true then some (.out .ret [(2, .d (.b true))] []) else some (.out (.exit 0) [] []) := by
  intro suf
  induction suf with
  | nil =>
    intro pre hl
    have : C.length = pre.length := by simp [hl]
    rw [ev_loop]
    conv => lhs; arg 4; unfold F_nurseryref19_Great_L0
    simp [this]
  | cons c suf ih =>
    intro pre hl
    have hg : C[pre.length]? = some c := by simp [hl]
    have hlt2 : pre.length < C.length := by simp [hl]
    have hgg : C[pre.length] = c := by simpa [List.getElem?_eq_getElem hlt2] using hg
    have hlt : (pre.length : Int) < C.length := by omega
    have hnext : IntKind.i64.wrap ((pre.length : Int) + 1) = pre.length + 1 := wrap_i64 (by omega) (by omega)
    have ih' := ih (pre ++ [c]) (by simp [hl])
    rw [List.any_cons]
    generalize (suf.any fun c => decide (12 < c.log.length)) = dd at *
    simp at ih'
    rw [ev_loop]
    conv => lhs; arg 4; unfold F_nurseryref19_Great_L0
    by_cases hc : 12 < c.log.length
    · have hc2 : (12 : Int) < c.log.length := by omega
      simp [hlt, hlt2, hgg, K.row, hc, hc2]
    · have hc2 : ¬ (12 : Int) < c.log.length := by omega
      simp [hlt, hlt2, hgg, K.row, hc, hc2, hnext]
      exact ih'
theorem ev_Great (s : S) : ev P (.call nurseryref19_Great [.d (.ag s.row)] []) = some (.val (.d (.b (greatB s))) []) := by
  have hL := fun hs : s.C.length ≤ 1000000 => loop_Great (I' s.own) (I' s.cnt) (I' s.time) (hD s.hn s.H) (qD s.qn s.Q) (hD s.bn s.B) (.b s.cl) (I' s.val) s.cn s.C hs s.C [] rfl
  unfold greatB
  generalize (s.C.any fun c => decide (12 < c.log.length)) = dd at *
  rw [ev_call P_nurseryref19_Great rfl]
  by_cases h1 : 12 < s.Q.length
  · have h1' : (12 : Int) < s.Q.length := by omega
    simp [F_nurseryref19_Great, h1, h1']
  · have h1' : ¬ (12 : Int) < s.Q.length := by omega
    by_cases h2 : 12 < s.H.length
    · have h2' : (12 : Int) < s.H.length := by omega
      simp [F_nurseryref19_Great, h1, h1', h2, h2']
    · have h2' : ¬ (12 : Int) < s.H.length := by omega
      by_cases h3 : 12 < s.B.length
      · have h3' : (12 : Int) < s.B.length := by omega
        simp [F_nurseryref19_Great, h1, h1', h2, h2', h3, h3']
      · have h3' : ¬ (12 : Int) < s.B.length := by omega
        by_cases h4 : 12 < s.C.length
        · have h4' : (12 : Int) < s.C.length := by omega
          simp [F_nurseryref19_Great, h1, h1', h2, h2', h3, h3', h4, h4']
        · have h4' : ¬ (12 : Int) < s.C.length := by omega
          have hL := hL (by omega)
          simp at hL
          cases dd <;> simp at hL <;> simp [F_nurseryref19_Great, h1, h1', h2, h2', h3, h3', h4, h4', hL]
end Go.VS.Tp
namespace Go.VS.Tp
/-! the plain law: the two ways to advance agree -/
def tks (Q : List W) : List Int := Q.map (·.task)
theorem tq_nodup {sz : Int} {C : List K} {Q : List W} : ∀ (suf pre : List W), tq sz C Q pre suf = true → (tks pre).Nodup → (tks (pre ++ suf)).Nodup
  | [], pre, _, h => by simpa using h
  | w :: suf, pre, h, hp => by
    have e1 : tq sz C Q pre (w :: suf) = (!pre.any (fun x => x.task == w.task) && (w.case == -1 && (tqo sz C Q w && tq sz C Q (pre ++ [w]) suf))) := rfl
    rw [e1] at h
    simp only [Bool.and_eq_true] at h
    obtain ⟨h1, _, _, h4⟩ := h
    have hn : (tks (pre ++ [w])).Nodup := by
      unfold tks at hp ⊢
      rw [List.map_append, List.nodup_append]
      refine ⟨hp, by simp, ?_⟩
      intro a ha b hb
      simp at hb
      subst hb
      intro he
      subst he
      obtain ⟨x, hx, hxe⟩ := List.mem_map.1 ha
      have : pre.any (fun x => x.task == w.task) = true := List.any_eq_true.2 ⟨x, hx, by simpa using hxe⟩
      rw [this] at h1
      cases h1
    have := tq_nodup suf (pre ++ [w]) h4 hn
    simpa using this
theorem flt_erase {A B : List W} {w : W} (h : (tks (A ++ w :: B)).Nodup) : ((A ++ w :: B).filter fun x => x.task != w.task) = A ++ B := by
  unfold tks at h
  rw [List.map_append, List.map_cons, List.nodup_append] at h
  obtain ⟨_, h2, h3⟩ := h
  rw [List.nodup_cons] at h2
  have hA : (A.filter fun x => x.task != w.task) = A := by
    rw [List.filter_eq_self]
    intro x hx
    have := h3 x.task (List.mem_map.2 ⟨x, hx, rfl⟩) w.task (by simp)
    simpa using this
  have hB : (B.filter fun x => x.task != w.task) = B := by
    rw [List.filter_eq_self]
    intro x hx
    have : x.task ≠ w.task := fun e => h2.1 (by rw [← e]; exact List.mem_map.2 ⟨x, hx, rfl⟩)
    simpa using this
  rw [List.filter_append, List.filter_cons, hA, hB]
  simp
theorem tks_sub {A B : List W} {w : W} (h : (tks (A ++ w :: B)).Nodup) : (tks (A ++ B)).Nodup := by
  have : (A ++ B).Sublist (A ++ w :: B) := List.Sublist.append (List.Sublist.refl A) (List.sublist_cons_self w B)
  exact h.sublist (this.map _)
theorem tks_pO {Q : List W} (h : (tks Q).Nodup) : (tks (pO Q)).Nodup := h.sublist (List.filter_sublist.map _)
theorem wts_split {A B : List W} {w : W} {t : Int} (h : w.op = 68) : wts (A ++ w :: B) t 70 = wts (A ++ B) t 70 := by
  unfold wts
  simp [h]
/-- backlogs stay within the size -/
def fits (sz : Int) (C : List K) : Prop := ∀ c ∈ C, (c.log.length : Int) ≤ sz
theorem fits_step {sz : Int} {C : List K} {Q A B : List W} {w : W} (hQ : Q = A ++ w :: B) (h68 : w.op = 68) (hf : fl sz C Q = false) (h : fits sz C) : fits sz (C.map (pubK (A ++ B) w.value)) := by
  intro c hc
  obtain ⟨c0, hc0, rfl⟩ := List.mem_map.1 hc
  unfold pubK
  cases hw : wts (A ++ B) c0.task 70
  · have h1 := h c0 hc0
    have : ((c0.log.length : Int) == sz && !wts Q c0.task 70) = false := by
      unfold fl at hf
      rw [List.any_eq_false] at hf
      simpa using hf c0 hc0
    rw [hQ, wts_split h68, hw] at this
    simp at this
    simp
    omega
  · simp
    exact h c0 hc0
theorem adv_eqF (sz : Int) : ∀ (n : Nat) (qn qn' cn : Bool) (Q : List W) (C : List K) (wn : List Wk), (tks Q).Nodup → fits sz C →
    (radvF sz n ⟨qn', Q, cn, C, wn⟩).Q = (advF sz n ⟨qn, Q, C, wn⟩).Q ∧ (radvF sz n ⟨qn', Q, cn, C, wn⟩).C = (advF sz n ⟨qn, Q, C, wn⟩).C ∧ (radvF sz n ⟨qn', Q, cn, C, wn⟩).wn = (advF sz n ⟨qn, Q, C, wn⟩).wn
  | 0, _, _, _, _, _, _, _, _ => ⟨rfl, rfl, rfl⟩
  | n + 1, qn, qn', cn, Q, C, wn, hn, hfit => by
    unfold radvF advF
    simp only
    rw [rfl_eq hfit]
    by_cases hc : pub Q < 0 ∨ fl sz C Q = true
    · rw [if_pos hc, if_pos hc]
      exact ⟨rfl, rfl, rfl⟩
    · rw [if_neg hc, if_neg hc]
      rcases pub_spec Q with ⟨h1, _⟩ | ⟨A, B, w, hQ, hp, h68⟩
      · exact absurd (.inl (by omega)) hc
      · have e : ((A.length : Int)).toNat = A.length := by omega
        have hg : Q[(pub Q).toNat]? = some w := by rw [hp, e, hQ]; simp
        rw [hg]
        simp only [Rd.step, Ad.step]
        have hf : fl sz C Q = false := by
          cases h : fl sz C Q
          · rfl
          · exact absurd (.inr h) hc
        have e1 : Q1 Q = A ++ B := by rw [hQ]; exact Q1_eq (by rw [← hQ]; exact hp)
        have e2 : (Q.filter fun x => x.task != w.task) = A ++ B := by rw [hQ]; exact flt_erase (by rw [← hQ]; exact hn)
        rw [e1, e2]
        exact adv_eqF sz n _ _ _ _ _ _ (tks_pO (tks_sub (by rw [← hQ]; exact hn))) (fits_step hQ h68 hf hfit)
/-- tasks are woken once -/
theorem pW_tasks (v : Int) (Q : List W) : (pW v Q).map (·.task) = tks (Q.filter fun w => w.op == 70) := by
  unfold pW tks
  rw [List.map_map]
  rfl
theorem adv_nodup (sz : Int) : ∀ (n : Nat) (a : Ad), (a.wn.map (·.task) ++ tks a.Q).Nodup → ((advF sz n a).wn.map (·.task) ++ tks (advF sz n a).Q).Nodup
  | 0, a, h => h
  | n + 1, a, h => by
    unfold advF
    by_cases hc : pub a.Q < 0 ∨ fl sz a.C a.Q = true
    · rw [if_pos hc]; exact h
    · rw [if_neg hc]
      rcases pub_spec a.Q with ⟨h1, _⟩ | ⟨A, B, w, hQ, hp, h68⟩
      · exact absurd (.inl (by omega)) hc
      · have e : ((A.length : Int)).toNat = A.length := by omega
        have hg : a.Q[(pub a.Q).toNat]? = some w := by rw [hp, e, hQ]; simp
        rw [hg]
        simp only
        apply adv_nodup sz n
        simp only [Ad.step]
        have e1 : Q1 a.Q = A ++ B := by rw [hQ]; exact Q1_eq (by rw [← hQ]; exact hp)
        rw [e1]
        rw [List.map_append, List.map_cons, pW_tasks, List.append_assoc]
        rw [hQ] at h
        have hp2 : (tks ((A ++ B).filter fun w => w.op == 70) ++ tks (pO (A ++ B))).Perm (tks (A ++ B)) := by
          unfold tks pO
          rw [← List.map_append]
          exact (List.filter_append_perm (fun w : W => w.op == 70) (A ++ B)).map _
        have hp3 : (w.task :: tks ((A ++ B).filter fun w => w.op == 70) ++ tks (pO (A ++ B))).Perm (tks (A ++ w :: B)) := by
          have h1 : (w.task :: (tks ((A ++ B).filter fun w => w.op == 70) ++ tks (pO (A ++ B)))).Perm (w.task :: tks (A ++ B)) := hp2.cons _
          refine h1.trans ?_
          unfold tks
          rw [List.map_append, List.map_append, List.map_cons]
          exact List.perm_middle.symm
        exact ((List.Perm.append_left _ hp3).nodup_iff).2 h
theorem rgF_none {t : Int} : ∀ (l : List Wk) (r : Bool × Int × Bool × List Wk), (∀ w ∈ l, w.task ≠ t) → rgF t l r = (r.1, r.2.1, r.2.2.1, r.2.2.2 ++ l)
  | [], r, _ => by simp [rgF]
  | w :: l, r, h => by
    have hw : w.task ≠ t := h w (by simp)
    unfold rgF
    rw [if_neg hw, rgF_none l _ (fun x hx => h x (by simp [hx]))]
    simp
theorem rgF_app {t : Int} : ∀ (a b : List Wk) (r : Bool × Int × Bool × List Wk), rgF t (a ++ b) r = rgF t b (rgF t a r)
  | [], b, r => rfl
  | w :: a, b, r => by
    rw [List.cons_append]
    conv => lhs; unfold rgF
    conv => rhs; arg 3; unfold rgF
    split <;> exact rgF_app a b _
theorem rg_got {t : Int} {l : List Wk} (hn : (l.map (·.task)).Nodup) : rgF t l (true, 0, false, []) = match got l t with | none => (true, 0, false, l) | some x => (false, x.1, true, x.2) := by
  rcases idx_spec (p := fun w : Wk => w.task == t) l 0 with ⟨g1, g0⟩ | ⟨i, w, g1, g2, g3⟩
  · have : fwk l t = -1 := g1
    have hg : got l t = none := by simp [got, this]
    rw [hg]
    rw [List.find?_eq_none] at g0
    rw [rgF_none l _ (fun w hw => by simpa using g0 w hw)]
    simp
  · have g1' : fwk l t = (i : Int) := by simpa [fwk] using g1
    have hwt : w.task = t := by have := List.find?_some g3; simpa using this
    obtain ⟨W1, W2, hW, hWl⟩ : ∃ W1 W2, l = W1 ++ w :: W2 ∧ W1.length = i := by
      obtain ⟨hlt, he⟩ := List.getElem?_eq_some_iff.1 g2
      refine ⟨l.take i, l.drop (i + 1), ?_, by simp; omega⟩
      rw [← he]; simp
    subst hWl
    have hgt : got l t = some (w.value, W1 ++ W2) := by
      have e : ((W1.length : Int)).toNat = W1.length := by omega
      simp only [got, g1', e, g2, Option.map_some]
      rw [if_neg (by omega), hW, List.eraseIdx_append_of_length_le (by omega)]
      simp
    rw [hgt, hW]
    rw [hW, List.map_append, List.map_cons, List.nodup_append] at hn
    obtain ⟨_, n2, n3⟩ := hn
    rw [List.nodup_cons] at n2
    have k1 : ∀ x ∈ W1, x.task ≠ t := by
      intro x hx
      have := n3 x.task (List.mem_map.2 ⟨x, hx, rfl⟩) w.task (by simp)
      rw [hwt] at this
      exact this
    have k2 : ∀ x ∈ W2, x.task ≠ t := by
      intro x hx e
      apply n2.1
      rw [hwt, ← e]
      exact List.mem_map.2 ⟨x, hx, rfl⟩
    rw [rgF_app, rgF_none W1 _ k1]
    unfold rgF
    rw [if_pos hwt, rgF_none W2 _ k2]
    simp
end Go.VS.Tp
namespace Go.VS.Tp
/-! Apply and Withdraw answer as the reference does -/
theorem good_nodup {sz : Int} {s : S} (h : s.good sz = true) : (tks s.Q).Nodup ∧ fits sz s.C := by
  unfold S.good at h
  simp only [Bool.and_eq_true] at h
  obtain ⟨⟨_, h2, h3, h4⟩, _⟩ := h
  refine ⟨?_, vc_len h2⟩
  have := tq_nodup s.Q [] h4 (by simp [tks])
  simpa using this
theorem callE_free {s : S} {t op v p n : Int} (h : callE s t op v p n = 0) : ∀ w ∈ s.Q, w.task ≠ t := by
  unfold callE at h
  split at h
  · cases h
  · split at h
    · cases h
    · split at h
      · cases h
      · split at h
        · cases h
        · rename_i h4
          intro w hw e
          apply h4
          exact List.any_eq_true.2 ⟨w, hw, by simpa using e⟩
theorem nodup_snoc {Q : List W} {w : W} (h : (tks Q).Nodup) (hw : ∀ x ∈ Q, x.task ≠ w.task) : (tks (Q ++ [w])).Nodup := by
  unfold tks at *
  rw [List.map_append, List.nodup_append]
  refine ⟨h, by simp, ?_⟩
  intro a ha b hb
  simp at hb
  subst hb
  obtain ⟨x, hx, rfl⟩ := List.mem_map.1 ha
  exact hw x hx
theorem adv_eq (sz : Int) (qn qn' cn : Bool) (Q : List W) (C : List K) (h1 : (tks Q).Nodup) (h2 : fits sz C) :
    (radv sz qn' Q cn C).Q = (adv sz qn Q C).Q ∧ (radv sz qn' Q cn C).C = (adv sz qn Q C).C ∧ (radv sz qn' Q cn C).wn = (adv sz qn Q C).wn := adv_eqF sz _ _ _ _ _ _ _ h1 h2
theorem adv_wn_nodup (sz : Int) (qn : Bool) (Q : List W) (C : List K) (h : (tks Q).Nodup) : ((adv sz qn Q C).wn.map (·.task)).Nodup := by
  have := adv_nodup sz (Q.length + 1) ⟨qn, Q, C, []⟩ (by simpa using h)
  rw [List.nodup_append] at this
  exact this.1
theorem ap_same (k sz ot : Int) (s : S) (t op v p n : Int) : (ap k sz ot s t op v p n).2 = (rap k sz ot s t op v p n).2 ∧ (ap k sz ot s t op v p n).1.same (rap k sz ot s t op v p n).1 := by
  have hrefl : ∀ r : Rp, r.same r := fun r => ⟨S.same.refl _, rfl, rfl, rfl, rfl⟩
  unfold ap rap chkE
  by_cases hc : ckd k sz ot s = 0
  · by_cases he : callE s t op v p n = 0
    · obtain ⟨hn, hfit⟩ := good_nodup (ckd_good hc).2
      have hfr := callE_free he
      simp only [hc, he, ne_eq, not_true, if_false]
      by_cases h69 : op = 69
      · simp only [h69, if_true]
        exact ⟨trivial, ⟨rfl, rfl, rfl, rfl, rfl, rfl, rfl, rfl, rfl⟩, rfl, rfl, rfl, rfl⟩
      · simp only [h69, if_false]
        by_cases h71 : op = 71
        · simp only [h71, if_true]
          obtain ⟨e1, e2, e3⟩ := adv_eq sz s.qn s.qn false s.Q (del s.C t) hn (fun c hc => hfit c (List.mem_of_mem_eraseIdx hc))
          exact ⟨trivial, ⟨rfl, rfl, rfl, rfl, e1.symm, rfl, e2.symm, rfl, rfl⟩, rfl, rfl, rfl, e3.symm⟩
        · simp only [h71, if_false]
          by_cases h68 : op = 68
          · have h70 : ¬ op = 70 := by omega
            simp only [h68, if_true]
            have hb : (decide (pub s.Q < 0) && !rfl' sz s.C s.Q) = !(busy s.Q || fl sz s.C s.Q) := by
              rw [pub_neg, rfl_eq hfit]
              unfold busy
              cases (s.Q.any fun w => w.op == 68) <;> simp
            rw [hb]
            cases hbf : (busy s.Q || fl sz s.C s.Q)
            · simp
              exact ⟨⟨rfl, rfl, rfl, rfl, rfl, rfl, rfl, rfl, rfl⟩, rfl, rfl, rfl, rfl⟩
            · simp
              exact ⟨⟨rfl, rfl, rfl, rfl, rfl, rfl, rfl, rfl, rfl⟩, rfl, rfl, rfl, rfl⟩
          · have h70 : op = 70 := by have := callE_op he; omega
            subst h70
            simp only [if_true]
            unfold rnx
            cases hk : kfd s.C t with
            | none => exact ⟨rfl, hrefl _⟩
            | some c =>
              simp only
              have hcm : c ∈ s.C := List.mem_of_find?_eq_some hk
              cases hlg : c.log with
              | cons x lg =>
                simp only
                obtain ⟨e1, e2, e3⟩ := adv_eq sz s.qn s.qn false s.Q (s.C.set (fnd s.C t).toNat ⟨c.task, false, lg⟩) hn (by
                  intro d hd
                  rcases List.mem_or_eq_of_mem_set hd with hd | rfl
                  · exact hfit d hd
                  · have := hfit c hcm
                    rw [hlg] at this
                    simp at this ⊢
                    omega)
                exact ⟨rfl, ⟨rfl, rfl, rfl, rfl, e1.symm, rfl, e2.symm, rfl, rfl⟩, rfl, rfl, rfl, e3.symm⟩
              | nil =>
                simp only
                have hn2 : (tks (s.Q ++ [W.mk t 70 0 p (-1)])).Nodup := nodup_snoc hn hfr
                obtain ⟨e1, e2, e3⟩ := adv_eq sz false false s.cn (s.Q ++ [W.mk t 70 0 p (-1)]) s.C hn2 hfit
                have hg := rg_got (t := t) (adv_wn_nodup sz false _ s.C hn2)
                rw [e3, hg]
                cases got (adv sz false (s.Q ++ [W.mk t 70 0 p (-1)]) s.C).wn t with
                | none => exact ⟨rfl, ⟨rfl, rfl, rfl, rfl, e1.symm, rfl, e2.symm, rfl, rfl⟩, rfl, rfl, rfl, rfl⟩
                | some y => exact ⟨rfl, ⟨rfl, rfl, rfl, rfl, e1.symm, rfl, e2.symm, rfl, rfl⟩, rfl, rfl, rfl, rfl⟩
    · simp [hc, he]
      exact hrefl _
  · simp [hc]
    exact hrefl _
theorem wd_same (k sz ot : Int) (s : S) (t : Int) : (wd k sz ot s t).2 = (rwd k sz ot s t).2 ∧ (wd k sz ot s t).1.same (rwd k sz ot s t).1 := by
  have hrefl : ∀ r : Rp, r.same r := fun r => ⟨S.same.refl _, rfl, rfl, rfl, rfl⟩
  unfold wd rwd
  by_cases hc : ckd k sz ot s = 0
  · obtain ⟨hn, hfit⟩ := good_nodup (ckd_good hc).2
    simp only [hc, ne_eq, not_true, if_false]
    cases ha : (s.Q.any fun w => w.task == t)
    · simp
      exact hrefl _
    · simp only [Bool.true_eq_false, if_false]
      obtain ⟨e1, e2, e3⟩ := adv_eq sz (decide ((s.Q.filter fun w => w.task != t) = [])) false s.cn (s.Q.filter fun w => w.task != t) s.C (hn.sublist (List.filter_sublist.map _)) hfit
      exact ⟨trivial, ⟨rfl, rfl, rfl, rfl, e1.symm, rfl, e2.symm, rfl, rfl⟩, rfl, rfl, rfl, e3.symm⟩
  · simp [hc]
    exact hrefl _
end Go.VS.Tp
