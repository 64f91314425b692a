import Derived.Test.YtiiegkaonlkgjaaV06
set_option linter.all false
namespace Go.VS.Tm
theorem ev_indices (k : Int) : ev P (.call nurseryref06_indices [.d (I' k)] []) = some (.val (.d (I' (if k = 1 then 16 else if k = 2 then 32 else if k = 3 then 16 else 0))) []) := by
  rw [ev_call P_nurseryref06_indices rfl]
  by_cases h1 : k = 1
  · subst h1; simp [F_nurseryref06_indices]
  · have b1 : (k == 1) = false := by simpa using h1
    by_cases h2 : k = 2
    · subst h2; simp [F_nurseryref06_indices]
    · have b2 : (k == 2) = false := by simpa using h2
      by_cases h3 : k = 3
      · subst h3; simp [F_nurseryref06_indices]
      · have b3 : (k == 3) = false := by simpa using h3
        simp [F_nurseryref06_indices, b1, b2, b3, h1, h2, h3]
theorem ev_one (a b c : Int) : ev P (.call nurseryref06_one [.d (.ag [I' a, I' b, I' c])] []) = some (.val (.d (I' (chk1 ⟨a, b, c⟩))) []) := by
  rw [ev_call P_nurseryref06_one rfl]
  by_cases h1 : b = 1
  · subst h1
    cases h : tbad a c 16 <;> (unfold tbad at h; simp [F_nurseryref06_one, ev_indices, chk1, tbad, h])
  · by_cases h2 : b = 2
    · subst h2
      cases h : tbad a c 32 <;> (unfold tbad at h; simp [F_nurseryref06_one, ev_indices, chk1, tbad, h])
    · by_cases h3 : b = 3
      · subst h3
        cases h : tbad a c 16 <;> (unfold tbad at h; simp [F_nurseryref06_one, ev_indices, chk1, tbad, h])
      · simp [F_nurseryref06_one, ev_indices, chk1, h1, h2, h3]
theorem ev_Less (a b c a' b' c' : Int) : ev P (.call nurseryref06_Less [.d (.ag [I' a, I' b, I' c]), .d (.ag [I' a', I' b', I' c'])] []) = some (.val (.d (.b (decide (cmpT ⟨a, b, c⟩ ⟨a', b', c'⟩ < 0)))) []) := by
  rw [ev_call P_nurseryref06_Less rfl]
  by_cases h1 : a = a'
  · subst h1
    by_cases h2 : b = b'
    · subst h2
      have : decide (cmpT ⟨a, b, c⟩ ⟨a, b, c'⟩ < 0) = decide (c < c') := by
        rw [decide_eq_decide, cmpT_lt]; unfold tl; simp
      rw [this]
      simp [F_nurseryref06_Less]
    · have b2 : (b != b') = true := by simpa using h2
      have : decide (cmpT ⟨a, b, c⟩ ⟨a, b', c'⟩ < 0) = decide (b < b') := by
        rw [decide_eq_decide, cmpT_lt]; unfold tl; simp [h2]
      rw [this]
      simp [F_nurseryref06_Less, b2]
  · have b1 : (a != a') = true := by simpa using h1
    have : decide (cmpT ⟨a, b, c⟩ ⟨a', b', c'⟩ < 0) = decide (a < a') := by
      rw [decide_eq_decide, cmpT_lt]; unfold tl; simp [h1]
    rw [this]
    simp [F_nurseryref06_Less, b1]
theorem ev_same (a b c a' b' c' : Int) : ev P (.call nurseryref06_same [.d (.ag [I' a, I' b, I' c]), .d (.ag [I' a', I' b', I' c'])] []) = some (.val (.d (.b (b == b' && c == c'))) []) := by
  rw [ev_call P_nurseryref06_same rfl]
  simp [F_nurseryref06_same]
theorem T.neq {w w' : T} (h : ¬ w = w') : (!w.time == w'.time || (!w.kind == w'.kind || !w.index == w'.index)) = true := by
  cases hb : (!w.time == w'.time || (!w.kind == w'.kind || !w.index == w'.index))
  · exfalso; apply h
    simp at hb
    cases w; cases w'; simp at hb ⊢; exact hb
  · rfl
theorem loop_Same (n1 n2 : Bool) (l m : List T) (hn : l.length ≤ 1000000) (hm : l.length = m.length) : ∀ (suf suf' pre : List T), l = pre ++ suf → m = pre ++ suf' →
    ev P (.loop 0 [0, 1, 5] F_nurseryref06_Same_L0 [(0, .d (tD n1 l)), (1, .d (tD n2 m)), (5, .d (I' pre.length))] []) =
      if suf = suf' then some (.out (.exit 0) [] []) else some (.out .ret [(4, .d (.b false))] []) := by
  intro suf
  induction suf with
  | nil =>
    intro suf' pre hl hl'
    have h1 : l.length = pre.length := by simp [hl]
    have : suf' = [] := by
      have h2 : m.length = pre.length + suf'.length := by simp [hl']
      exact List.length_eq_zero_iff.1 (by omega)
    subst this
    rw [ev_loop]
    conv => lhs; arg 4; unfold F_nurseryref06_Same_L0
    simp [h1]
  | cons w suf ih =>
    intro suf' pre hl hl'
    have hg : l[pre.length]? = some w := by simp [hl]
    have hlt : (pre.length : Int) < l.length := by simp [hl]; omega
    have hnext : IntKind.i64.wrap ((pre.length : Int) + 1) = pre.length + 1 := wrap_i64 (by omega) (by omega)
    cases suf' with
    | nil => exfalso; simp [hl, hl'] at hm
    | cons w' suf' =>
    have hg' : m[pre.length]? = some w' := by simp [hl']
    rw [ev_loop]
    conv => lhs; arg 4; unfold F_nurseryref06_Same_L0
    by_cases hw : w = w'
    · subst hw
      have ih' := ih suf' (pre ++ [w]) (by simp [hl]) (by simp [hl'])
      simp at ih'
      simp [hlt, hg, hg', hnext, T.row]
      exact ih'
    · have hw2 := T.neq hw
      simp [hlt, hg, hg', hw2, hw, T.row]
theorem ev_Same (n1 n2 : Bool) (l m : List T) (hn : l.length ≤ 1000000) :
    ev P (.call nurseryref06_Same [.d (tD n1 l), .d (tD n2 m)] []) = some (.val (.d (.b (l == m))) []) := by
  rw [ev_call P_nurseryref06_Same rfl]
  by_cases hlen : l.length = m.length
  · have hl := loop_Same n1 n2 l m hn hlen l m [] rfl rfl
    simp at hl
    have : ((l.length : Int) != m.length) = false := by simp [hlen]
    simp [F_nurseryref06_Same, this]
    simp [hl]
    by_cases h : l = m <;> simp [h]
  · have : ((l.length : Int) != m.length) = true := by simp; omega
    have h2 : ¬ l = m := fun h => hlen (by rw [h])
    simp [F_nurseryref06_Same, this, h2]
theorem ev_Great (nl : Bool) (l : List T) : ev P (.call nurseryref06_Great [.d (tD nl l)] []) = some (.val (.d (.b (decide ((40 : Int) < l.length)))) []) := by
  rw [ev_call P_nurseryref06_Great rfl]
  simp [F_nurseryref06_Great]
theorem loop_rk (nl : Bool) (l : List T) (j : Nat) (w : T) (hn : l.length ≤ 1000000) (hj : l[j]? = some w) : ∀ (n k : Nat), k + n = j →
    ev P (.loop 0 [0, 3, 5] F_nurseryref06_Check_L0 [(0, .d (tD nl l)), (3, .d (I' j)), (5, .d (I' k))] []) =
      if w.key ∈ ((l.take j).drop k).map T.key then some (.out .ret [(2, .d (I' 6))] []) else some (.out (.exit 2) [(0, .d (tD nl l)), (3, .d (I' j))] []) := by
  intro n
  have hjl : j < l.length := (List.getElem?_eq_some_iff.1 hj).1
  induction n with
  | zero =>
    intro k hk
    have : k = j := by omega
    subst this
    rw [ev_loop]
    conv => lhs; arg 4; unfold F_nurseryref06_Check_L0
    simp
  | succ n ih =>
    intro k hk
    have hlt : (k : Int) < j := by omega
    obtain ⟨x, hx⟩ : ∃ x, l[k]? = some x := ⟨l[k]'(by omega), by simp⟩
    have ih' := ih (k + 1) (by omega)
    have hnext : IntKind.i64.wrap ((k : Int) + 1) = k + 1 := wrap_i64 (by omega) (by omega)
    have hd : (l.take j).drop k = x :: (l.take j).drop (k + 1) := by
      have hk2 : k < (l.take j).length := by simp; omega
      rw [List.drop_eq_getElem_cons hk2]
      congr 1
      rw [List.getElem_take]
      have := List.getElem?_eq_some_iff.1 hx
      exact this.2
    rw [hd]
    rw [ev_loop]
    conv => lhs; arg 4; unfold F_nurseryref06_Check_L0
    by_cases hkey : x.key = w.key
    · have hb : (x.kind == w.kind && x.index == w.index) = true := by simpa [T.key] using hkey
      simp [hlt, hx, hj, T.row, ev_same, hb, hkey]
    · have hb : (x.kind == w.kind && x.index == w.index) = false := by
        cases h : (x.kind == w.kind && x.index == w.index)
        · rfl
        · exact absurd (by simpa [T.key] using h) hkey
      have hkey2 : ¬ w.key = x.key := fun h => hkey h.symm
      simp at ih'
      simp [hlt, hx, hj, T.row, ev_same, hb, hkey2, hnext]
      exact ih'
theorem loop_rCheck (nl : Bool) (l : List T) (hn : l.length ≤ 1000000) : ∀ (suf pre : List T), l = pre ++ suf →
    ev P (.loop 0 [0, 3] F_nurseryref06_Check_L1 [(0, .d (tD nl l)), (3, .d (I' pre.length))] []) =
      if chkF pre suf = 0 then some (.out (.exit 0) [] []) else some (.out .ret [(2, .d (I' (chkF pre suf)))] []) := by
  intro suf
  induction suf with
  | nil =>
    intro pre hl
    have : l.length = pre.length := by simp [hl]
    rw [ev_loop]
    conv => lhs; arg 4; unfold F_nurseryref06_Check_L1
    simp [this, chkF]
  | cons w suf ih =>
    intro pre hl
    have hg : l[pre.length]? = some w := by simp [hl]
    have hlt : (pre.length : Int) < l.length := by simp [hl]; omega
    have hnext : IntKind.i64.wrap ((pre.length : Int) + 1) = pre.length + 1 := wrap_i64 (by omega) (by omega)
    have ih' := ih (pre ++ [w]) (by simp [hl])
    have hK := loop_rk nl l pre.length w hn hg pre.length 0 (by omega)
    have htk : (l.take pre.length).drop 0 = pre := by simp [hl]
    rw [htk] at hK
    generalize hR : (if chkF (pre ++ [w]) suf = 0 then some (Res.out (.exit 0) [] []) else some (.out .ret [(2, .d (I' (chkF (pre ++ [w]) suf)))] [])) = R at ih'
    rw [ev_loop]
    conv => lhs; arg 4; unfold F_nurseryref06_Check_L1
    by_cases hc : chk1 w = 0
    · rcases nil_or_snoc pre with rfl | ⟨pre', p, rfl⟩
      · have hcF : chkF [] (w :: suf) = chkF ([] ++ [w]) suf := by simp [chkF, hc]
        have h0 : 0 < l.length := by simp [hl]
        have hg0 : ∀ h : 0 < l.length, l[0] = w := fun h => by simpa [List.getElem?_eq_getElem h] using hg
        rw [hcF, hR]
        simp at ih' hK
        simp [h0, hg0, T.row, ev_one, hc, hK, wrap1]
        exact ih'
      · have hgp : l[pre'.length]? = some p := by simp [hl]
        have hlt2 : (pre'.length : Int) + 1 < l.length := by simpa using hlt
        have hw2 : IntKind.i64.wrap (pre'.length : Int) = pre'.length := wrap_i64 (by omega) (by omega)
        have h0 : (0 : Int) < pre'.length + 1 := by omega
        have h1 : (0 : Int) ≤ pre'.length + 1 := by omega
        have hn2 : IntKind.i64.wrap ((pre'.length : Int) + 1 + 1) = pre'.length + 1 + 1 := wrap_i64 (by omega) (by omega)
        simp only [List.length_append, List.length_singleton] at hg hK
        by_cases ho : 0 ≤ cmpT p w
        · have hcF : chkF (pre' ++ [p]) (w :: suf) = 9 := by simp [chkF, hc, ho]
          have ho2 : ¬ cmpT p w < 0 := by omega
          rw [hcF]
          simp [hlt2, hg, hgp, hw2, h0, h1, T.row, ev_one, hc, ev_Less, ho2]
        · have ho2 : cmpT p w < 0 := by omega
          by_cases hk : w.key ∈ (pre' ++ [p]).map T.key
          · have hcF : chkF (pre' ++ [p]) (w :: suf) = 6 := by
              unfold chkF
              rw [if_neg (by simp [hc]), if_neg (by simp; exact ho2), if_pos hk]
            rw [hcF]
            rw [if_pos hk] at hK
            simp at hK
            simp [hlt2, hg, hgp, hw2, h0, h1, T.row, ev_one, hc, ev_Less, ho2, hK]
          · have hcF : chkF (pre' ++ [p]) (w :: suf) = chkF (pre' ++ [p] ++ [w]) suf := by
              conv => lhs; unfold chkF
              rw [if_neg (by simp [hc]), if_neg (by simp; exact ho2), if_neg hk]
            rw [hcF, hR]
            rw [if_neg hk] at hK
            simp at hK ih'
            simp [hlt2, hg, hgp, hw2, h0, h1, T.row, ev_one, hc, ev_Less, ho2, hK, hn2]
            exact ih'
    · have hc2 : (chk1 w != 0) = true := by simpa using hc
      have hcF : chkF pre (w :: suf) = chk1 w := by unfold chkF; rw [if_pos hc]
      rw [hcF, if_neg hc]
      simp [hlt, hg, T.row, ev_one, hc2]
theorem ev_rCheck (nl : Bool) (l : List T) (hn : l.length ≤ 1000000) : ev P (.call nurseryref06_Check [.d (tD nl l)] []) = some (.val (.d (I' (chkF [] l))) []) := by
  have hl := loop_rCheck nl l hn l [] rfl
  simp at hl
  rw [ev_call P_nurseryref06_Check rfl]
  simp [F_nurseryref06_Check, hl]
  by_cases h : chkF [] l = 0 <;> simp [h]
end Go.VS.Tm
namespace Go.VS.Tm
theorem loop_rwithout (nl : Bool) (l : List T) (k i : Int) (hn : l.length ≤ 1000000) : ∀ (suf pre : List T), l = pre ++ suf →
    ev P (.loop 0 [0, 1, 2, 7, 8] F_nurseryref06_without_L0 [(0, .d (tD nl l)), (1, .d (I' k)), (2, .d (I' i)), (7, .asl 0 0 (wo k i pre).length), (8, .d (I' pre.length))] [.arrD 3 true ((wo k i pre).map T.row)]) =
      some (.out (.exit 0) [(7, .asl 0 0 (wo k i l).length)] [.arrD 3 true ((wo k i l).map T.row)]) := by
  intro suf
  induction suf with
  | nil =>
    intro pre hl
    have hlp : l = pre := by simp [hl]
    subst hlp
    rw [ev_loop]
    conv => lhs; arg 4; unfold F_nurseryref06_without_L0
    simp [reachC, cut]
  | cons w suf ih =>
    intro pre hl
    have hg : l[pre.length]? = some w := by simp [hl]
    have hlt : (pre.length : Int) < l.length := by simp [hl]; omega
    have hnext : IntKind.i64.wrap ((pre.length : Int) + 1) = pre.length + 1 := wrap_i64 (by omega) (by omega)
    have ih' := ih (pre ++ [w]) (by simp [hl])
    have hrl : (wo k i pre).length < 1000000 := by
      have h1 : (wo k i pre).length ≤ pre.length := List.length_filter_le _ _
      have h2 : pre.length < l.length := by simp [hl]
      omega
    have hr : (wo k i pre).length + 1 ≤ room := by unfold room; omega
    have happ : wo k i (pre ++ [w]) = wo k i pre ++ (if (w.kind == k && w.index == i) = true then [] else [w]) := by
      unfold wo
      rw [List.filter_append]
      congr 1
      cases h : (w.kind == k && w.index == i) <;> simp only [List.filter_cons, List.filter_nil, h] <;> rfl
    rw [happ] at ih'
    generalize wo k i pre = fl at *
    rw [ev_loop]
    conv => lhs; arg 4; unfold F_nurseryref06_without_L0
    cases hw : (w.kind == k && w.index == i)
    · have hw2 : (w.kind != k || w.index != i) = true := by
        cases h1 : w.kind == k <;> cases h2 : w.index == i <;> simp_all [bne]
      simp [hw] at ih'
      simp [hlt, hg, T.row, hw2, hnext, reachC, cut, hr, Nat.not_succ_le_self, overlay, take_map_len]
      exact ih'
    · have hw2 : (w.kind != k || w.index != i) = false := by
        cases h1 : w.kind == k <;> cases h2 : w.index == i <;> simp_all [bne]
      simp [hw] at ih'
      simp [hlt, hg, T.row, hw2, hnext, reachC, cut]
      exact ih'
theorem ev_rwithout (nl : Bool) (l : List T) (k i : Int) (hn : l.length ≤ 1000000) :
    ev P (.call nurseryref06_without [.d (tD nl l), .d (I' k), .d (I' i)] []) = some (.val (.d (tD false (wo k i l))) []) := by
  rw [ev_call P_nurseryref06_without rfl]
  have hl := loop_rwithout nl l k i hn l [] rfl
  have e0 : wo k i [] = [] := rfl
  simp [e0] at hl
  simp [F_nurseryref06_without, mkRows, reachC, cut, hl, allDs, take_map_len]
theorem loop_rAdd (nl : Bool) (q : List T) (a b c : Int) (hn : q.length ≤ 1000000) :
    ∀ (suf pre : List T), q = pre ++ suf → bnd ⟨a, b, c⟩ q = pre.length + bnd ⟨a, b, c⟩ suf →
    ev P (.loop 0 [0, 3, 7] F_nurseryref06_Add_L0 [(0, .d (tD nl q)), (3, .d (.ref [I' a, I' b, I' c])), (7, .d (I' pre.length))] []) =
      some (.out (.exit 0) [(0, .d (tD nl q)), (3, .d (.ref [I' a, I' b, I' c])), (7, .d (I' (bnd ⟨a, b, c⟩ q)))] []) := by
  intro suf
  induction suf with
  | nil =>
    intro pre hl hb
    have : q.length = pre.length := by simp [hl]
    have hb' : bnd ⟨a, b, c⟩ q = pre.length := by simpa [bnd] using hb
    rw [ev_loop]
    conv => lhs; arg 4; unfold F_nurseryref06_Add_L0
    simp [this, hb']
  | cons w suf ih =>
    intro pre hl hb
    have hg : q[pre.length]? = some w := by simp [hl]
    have hlt : (pre.length : Int) < q.length := by simp [hl]; omega
    have hnext : IntKind.i64.wrap ((pre.length : Int) + 1) = pre.length + 1 := wrap_i64 (by omega) (by omega)
    rw [ev_loop]
    conv => lhs; arg 4; unfold F_nurseryref06_Add_L0
    by_cases hp : cmpT w ⟨a, b, c⟩ < 0
    · have ih' := ih (pre ++ [w]) (by simp [hl]) (by rw [hb]; simp [bnd, List.takeWhile_cons, hp]; omega)
      simp [hlt, hg, T.row, ev_Less, hp, hnext]
      simp at ih'
      exact ih'
    · have hb' : bnd ⟨a, b, c⟩ q = pre.length := by rw [hb]; simp [bnd, List.takeWhile_cons, hp]
      simp [hlt, hg, T.row, ev_Less, hp, hb']
theorem take_snoc {α : Type} {l : List α} {x : α} : List.take (l.length + 1) (l ++ [x]) = l ++ [x] := List.take_of_length_le (by simp)
theorem ev_rAdd (nl : Bool) (l : List T) (a b c : Int) (hn : l.length ≤ 1000000) :
    ∃ nl', (nl' = true → addS l ⟨a, b, c⟩ = []) ∧ ev P (.call nurseryref06_Add [.d (tD nl l), .d (.ag [I' a, I' b, I' c])] []) = some (.val (.tu [.d (tD nl' (addS l ⟨a, b, c⟩)), .d (I' (addE l ⟨a, b, c⟩))]) []) := by
  have hC := ev_rCheck nl l hn
  by_cases h1 : chkF [] l = 0
  · by_cases h2 : chk1 ⟨a, b, c⟩ = 0
    · have hE : addE l ⟨a, b, c⟩ = 0 := by unfold addE; rw [if_neg (by simp [h1]), h2]
      have hA : addS l ⟨a, b, c⟩ = ins ⟨a, b, c⟩ (wo b c l) := by unfold addS; rw [if_pos hE]
      refine ⟨false, by simp, ?_⟩
      rw [hE, hA]
      have hW := ev_rwithout nl l b c hn
      have hwl : (wo b c l).length ≤ l.length := List.length_filter_le _ _
      have hb := bnd_le ⟨a, b, c⟩ (wo b c l)
      have hL := loop_rAdd false (wo b c l) a b c (by omega) (wo b c l) [] rfl (by simp)
      unfold ins
      generalize wo b c l = fl at *
      generalize bnd ⟨a, b, c⟩ fl = N at *
      simp at hL
      obtain ⟨A, hA'⟩ : ∃ A, List.take N (fl.map T.row) = A := ⟨_, rfl⟩
      obtain ⟨B, hB⟩ : ∃ B, List.drop N (fl.map T.row) = B := ⟨_, rfl⟩
      have lA : A.length + B.length = fl.length := by rw [← hA', ← hB]; simp; omega
      have lB : fl.length - N = B.length := by rw [← hB]; simp
      have r5 : 1 ≤ room := by decide
      have r1 : A.length + 1 + 1 + B.length ≤ room := by unfold room; omega
      rw [ev_call P_nurseryref06_Add rfl]
      cases A with
      | nil =>
        cases B with
        | nil =>
          simp at lB
          simp [F_nurseryref06_Add, hC, h1, ev_one, h2, hW, hL, reachC, cut, List.idxOf_cons, hb, hA', hB, r5, take_map_len, lB, T.row, V.same_self]
        | cons y B =>
          simp at lB r1
          have r4 : 1 + (B.length + 1) ≤ room := by omega
          have g1 : ¬ (1 + (B.length + 1) ≤ 1) := by omega
          have g2 : ∀ x : List D, List.take (1 + (B.length + 1)) (x :: y :: B) = x :: y :: B := fun x => List.take_of_length_le (by simp; omega)
          have g3 : 1 + (B.length + 1) ≤ B.length + 1 + 1 := by omega
          simp [F_nurseryref06_Add, hC, h1, ev_one, h2, hW, hL, reachC, cut, List.idxOf_cons, hb, hA', hB, r5, take_map_len, lB, T.row, V.same_self, r4, g1, g2, g3]
      | cons x A =>
        cases B with
        | nil =>
          simp at lB r1
          have r2 : A.length + 1 + 1 ≤ room := by omega
          have r3 : A.length + 1 ≤ room := by omega
          simp [F_nurseryref06_Add, hC, h1, ev_one, h2, hW, hL, reachC, cut, List.idxOf_cons, hb, hA', hB, r5, take_map_len, lB, T.row, V.same_self, r2, r3, Nat.not_succ_le_self, take_snoc]
        | cons y B =>
          simp at lB r1
          have r2 : A.length + 1 + 1 ≤ room := by omega
          have r3 : A.length + 1 ≤ room := by omega
          have r6 : A.length + 1 + 1 + (B.length + 1) ≤ room := by omega
          have g1 : ¬ (A.length + 1 + 1 + (B.length + 1) ≤ A.length + 1 + 1) := by omega
          have g2 : ∀ z : List D, List.take (A.length + 1 + 1 + (B.length + 1)) (x :: (A ++ z :: y :: B)) = x :: (A ++ z :: y :: B) := fun x => List.take_of_length_le (by simp; omega)
          have g3 : A.length + 1 + 1 + (B.length + 1) ≤ A.length + (B.length + 1 + 1) + 1 := by omega
          simp [F_nurseryref06_Add, hC, h1, ev_one, h2, hW, hL, reachC, cut, List.idxOf_cons, hb, hA', hB, r5, take_map_len, lB, T.row, V.same_self, r6, r2, r3, Nat.not_succ_le_self, take_snoc, g1, g2, g3]
    · have hE : addE l ⟨a, b, c⟩ = chk1 ⟨a, b, c⟩ := by unfold addE; rw [if_neg (by simp [h1])]
      have hA : addS l ⟨a, b, c⟩ = [] := by unfold addS; rw [if_neg (by rw [hE]; exact h2)]
      have h2' : (chk1 ⟨a, b, c⟩ != 0) = true := by simpa using h2
      refine ⟨false, fun _ => hA, ?_⟩
      rw [hE, hA]
      rw [ev_call P_nurseryref06_Add rfl]
      simp [F_nurseryref06_Add, hC, h1, ev_one, h2', mkRows, allDs]
  · have hE : addE l ⟨a, b, c⟩ = 1 := by unfold addE; rw [if_pos h1]
    have hA : addS l ⟨a, b, c⟩ = [] := by unfold addS; rw [if_neg (by rw [hE]; decide)]
    have h1' : (chkF [] l != 0) = true := by simpa using h1
    refine ⟨false, fun _ => hA, ?_⟩
    rw [hE, hA]
    rw [ev_call P_nurseryref06_Add rfl]
    simp [F_nurseryref06_Add, hC, h1', mkRows, allDs]
end Go.VS.Tm
namespace Go.VS.Tm
theorem wo_len (k i : Int) (l : List T) : (wo k i l).length ≤ l.length := List.length_filter_le _ _
theorem ins_len (t : T) (l : List T) : (ins t l).length = l.length + 1 := by
  have := bnd_le t l
  unfold ins
  simp; omega
theorem addS_len (l : List T) (t : T) : (addS l t).length ≤ l.length + 1 := by
  unfold addS
  split
  · rw [ins_len]; have := wo_len t.kind t.index l; omega
  · simp
/-- the queue of timers that are added -/
def added : List T → List T → Option (List T)
  | q, [] => some q
  | q, t :: r => if addE q t = 0 then added (addS q t) r else none
theorem sorted_of {l : List T} (h : chkF [] l = 0) : Sorted l := (QV_iff.1 h).srt
theorem loop_added (n1 : Bool) (l : List T) (hn : l.length ≤ 1000000) : ∀ (suf pre q : List T) (nl : Bool), l = pre ++ suf → q.length ≤ pre.length → (nl = true → q = []) →
    ∃ nl', (∀ q', added q suf = some q' → nl' = true → q' = []) ∧
    ev P (.loop 0 [4, 9, 10, 11] F_nurserylaw06_added_L0 [(4, .d (tD nl q)), (9, .d (tD n1 l)), (10, .d (I' l.length)), (11, .d (I' pre.length))] []) =
      match added q suf with
      | some q' => some (.out (.exit 0) [(4, .d (tD nl' q'))] [])
      | none => some (.out .ret [(2, .d (.sl 3 true [])), (3, .d (.b false))] []) := by
  intro suf
  induction suf with
  | nil =>
    intro pre q nl hl hq hnl
    refine ⟨nl, fun q' h => by simp [added] at h; rw [← h]; exact hnl, ?_⟩
    have : l.length = pre.length := by simp [hl]
    rw [ev_loop]
    conv => lhs; arg 4; unfold F_nurserylaw06_added_L0
    simp [this, added]
  | cons w suf ih =>
    intro pre q nl hl hq hnl
    have hg : l[pre.length]? = some w := by simp [hl]
    have hlt : (pre.length : Int) < l.length := by simp [hl]; omega
    have hple : pre.length < l.length := by simp [hl]
    have hnext : IntKind.i64.wrap ((pre.length : Int) + 1) = pre.length + 1 := wrap_i64 (by omega) (by omega)
    obtain ⟨n2, hn2, hA⟩ := ev_Add nl q w.time w.kind w.index hnl (by omega) sorted_of
    rw [T.eta] at hn2 hA
    by_cases he : addE q w = 0
    · obtain ⟨n3, hn3, h3⟩ := ih (pre ++ [w]) (addS q w) n2 (by simp [hl]) (by have := addS_len q w; simp; omega) hn2
      have ha : added q (w :: suf) = added (addS q w) suf := by simp [added, he]
      rw [ha]
      refine ⟨n3, hn3, ?_⟩
      rw [← h3]
      rw [ev_loop]
      conv => lhs; arg 4; unfold F_nurserylaw06_added_L0
      simp [hlt, hg, T.row, hA, he, hnext]
    · have ha : added q (w :: suf) = none := by simp [added, he]
      have he2 : (addE q w != 0) = true := by simpa using he
      rw [ha]
      refine ⟨true, (by intro q' h; cases h), ?_⟩
      rw [ev_loop]
      conv => lhs; arg 4; unfold F_nurserylaw06_added_L0
      simp [hlt, hg, T.row, hA, he2]
theorem ev_added (n1 : Bool) (l : List T) (hn : l.length ≤ 1000000) :
    ∃ nl', (∀ q', added [] l = some q' → nl' = true → q' = []) ∧
    ev P (.call nurserylaw06_added [.d (tD n1 l)] []) = some (.val (.tu [.d (tD nl' ((added [] l).getD [])), .d (.b (added [] l).isSome)]) []) := by
  obtain ⟨nl', h1, h2⟩ := loop_added n1 l hn l [] [] true rfl (by simp) (fun _ => rfl)
  have h2 : ev P (.loop 0 [4, 9, 10, 11] F_nurserylaw06_added_L0 [(4, .d (.sl 3 true [])), (9, .d (tD n1 l)), (10, .d (I' l.length)), (11, .d (I' 0))] []) =
      match added [] l with
      | some q' => some (.out (.exit 0) [(4, .d (tD nl' q'))] [])
      | none => some (.out .ret [(2, .d (.sl 3 true [])), (3, .d (.b false))] []) := h2
  cases ha : added [] l with
  | none =>
    rw [ha] at h2
    refine ⟨true, (by intro q' h; cases h), ?_⟩
    rw [ev_call P_nurserylaw06_added rfl]
    simp [F_nurserylaw06_added, h2]
  | some q' =>
    rw [ha] at h2 h1
    refine ⟨nl', h1, ?_⟩
    rw [ev_call P_nurserylaw06_added rfl]
    simp [F_nurserylaw06_added, h2]
theorem ev_sleep (t n : Int) : ev P (.call nurserylaw06_sleep [.d (I' t), .d (I' n)] []) = some (.val (.d (.ag [I' n, I' 1, I' t])) []) := by
  rw [ev_call P_nurserylaw06_sleep rfl]
  simp [F_nurserylaw06_sleep]
theorem ev_awake : ev P (.call nurserylaw06_awake [] []) = some (.val (.d (.b true)) []) := by
  obtain ⟨nl', h1, h2⟩ := ev_added false [⟨10, 2, 2⟩, ⟨10, 1, 3⟩, ⟨7, 1, 1⟩] (by simp)
  have ha : added [] [⟨10, 2, 2⟩, ⟨10, 1, 3⟩, ⟨7, 1, 1⟩] = some [⟨7, 1, 1⟩, ⟨10, 1, 3⟩, ⟨10, 2, 2⟩] := by decide
  rw [ha] at h1 h2
  obtain ⟨n2, h3, h4⟩ := ev_Add nl' [⟨7, 1, 1⟩, ⟨10, 1, 3⟩, ⟨10, 2, 2⟩] 12 1 1 (h1 _ rfl) (by simp) sorted_of
  have hb : addS [⟨7, 1, 1⟩, ⟨10, 1, 3⟩, ⟨10, 2, 2⟩] ⟨12, 1, 1⟩ = [⟨10, 1, 3⟩, ⟨10, 2, 2⟩, ⟨12, 1, 1⟩] := by decide
  have hc : addE [⟨7, 1, 1⟩, ⟨10, 1, 3⟩, ⟨10, 2, 2⟩] ⟨12, 1, 1⟩ = 0 := by decide
  rw [hb, hc] at h4
  have h2 : ev P (.call nurserylaw06_added [.d (.sl 3 false [[I' 10, I' 2, I' 2], [I' 10, I' 1, I' 3], [I' 7, I' 1, I' 1]])] []) = some (.val (.tu [.d (tD nl' [⟨7, 1, 1⟩, ⟨10, 1, 3⟩, ⟨10, 2, 2⟩]), .d (.b true)]) []) := h2
  rw [ev_call P_nurserylaw06_awake rfl]
  simp [F_nurserylaw06_awake, ev_sleep, h2, h4, T.row]
  done
end Go.VS.Tm
namespace Go.VS.Tm
theorem law_Add (nl : Bool) (l : List T) (a b c : Int) (hnl : nl = true → l = []) : ev P (.call nurserylaw06_TimersAdd [.d (tD nl l), .d (.ag [I' a, I' b, I' c])] []) = some (.val (.d (.b true)) []) := by
  have hG := ev_Great nl l
  rw [ev_call P_nurserylaw06_TimersAdd rfl]
  by_cases hg : 40 < l.length
  · have hg' : decide ((40 : Int) < l.length) = true := by simp; omega
    rw [hg'] at hG
    simp [F_nurserylaw06_TimersAdd, hG, ev_awake]
  · have hg' : decide ((40 : Int) < l.length) = false := by simp; omega
    rw [hg'] at hG
    obtain ⟨n1, _, hA⟩ := ev_Add nl l a b c hnl (by omega) sorted_of
    obtain ⟨n2, _, hB⟩ := ev_rAdd nl l a b c (by omega)
    have hC := ev_tCheck nl l (by omega)
    have hR := ev_rCheck nl l (by omega)
    have hlen := addS_len l ⟨a, b, c⟩
    have hS := ev_Same n1 n2 (addS l ⟨a, b, c⟩) (addS l ⟨a, b, c⟩) (by omega)
    generalize addS l ⟨a, b, c⟩ = s at *
    simp at hS
    simp [F_nurserylaw06_TimersAdd, hG, ev_awake, hA, hB, hC, hR, hS]
end Go.VS.Tm
