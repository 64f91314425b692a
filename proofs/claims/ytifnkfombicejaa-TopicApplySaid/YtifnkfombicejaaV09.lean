import Derived.Test.YtifnkfombicejaaV08
set_option linter.all false
namespace Go.VS.Tp
/-! sizes -/
def Ad.okN (L M : Nat) (a : Ad) : Prop := (∀ c ∈ a.C, (c.nl = true → c.log = []) ∧ c.log.length + a.Q.length ≤ L) ∧ a.Q.length + a.wn.length ≤ M ∧ (a.qn = true → a.Q = [])
theorem Ad.okN_step {L M : Nat} {a : Ad} {A B : List W} {w : W} (hQ : a.Q = A ++ w :: B) (h : pub a.Q = (A.length : Int)) (hok : a.okN L M) : (a.step w).okN L M := by
  obtain ⟨hC, hw, hqn⟩ := hok
  have hq1 : Q1 a.Q = A ++ B := by rw [hQ]; exact Q1_eq (by rw [← hQ]; exact h)
  have hl := pO_le (A ++ B)
  have hl2 := pO_len w.value (A ++ B)
  have hQl : a.Q.length = A.length + (B.length + 1) := by rw [hQ]; simp
  simp only [List.length_append] at hl hl2
  refine ⟨?_, ?_, ?_⟩
  · intro c hcm
    simp only [Ad.step] at hcm ⊢
    obtain ⟨c0, hc0, rfl⟩ := List.mem_map.1 hcm
    have := hC c0 hc0
    rw [hq1] at *
    unfold pubK
    split
    · exact ⟨this.1, by omega⟩
    · refine ⟨by simp, ?_⟩
      simp only [List.length_append, List.length_singleton]
      omega
  · simp only [Ad.step, List.length_append, List.length_cons]
    rw [hq1]
    omega
  · simp [Ad.step]
theorem advF_okN (L M : Nat) (sz : Int) : ∀ (n : Nat) (a : Ad), a.okN L M → (advF sz n a).okN L M
  | 0, a, h => h
  | n + 1, a, h => by
    unfold advF
    split
    · exact h
    · rename_i hn
      rcases pub_spec a.Q with ⟨h1, _⟩ | ⟨A, B, w, hQ, hp, _⟩
      · exfalso; apply hn; left; omega
      · have e : ((A.length : Int)).toNat = A.length := by omega
        have hg : a.Q[(pub a.Q).toNat]? = some w := by rw [hp, e, hQ]; simp
        rw [hg]
        exact advF_okN L M sz n _ (Ad.okN_step hQ hp h)
/-- a state within sizes -/
structure S.wfn (s : S) (q c l : Nat) : Prop where
  h : s.H.length ≤ 1000
  b : s.B.length ≤ 1000
  q : s.Q.length ≤ q
  c : s.C.length ≤ c
  l : ∀ c ∈ s.C, (c.nl = true → c.log = []) ∧ c.log.length ≤ l
  qn : s.qn = true → s.Q = []
  cn : s.cn = true → s.C = []
theorem S.wfn.wf {s : S} {q c l : Nat} (h : s.wfn q c l) (h1 : q ≤ 1000) (h2 : c ≤ 1000) (h3 : l ≤ 1000) : s.wf :=
  ⟨h.h, h.b, by have := h.q; omega, by have := h.c; omega, fun c hc => by have := h.l c hc; exact ⟨this.1, by omega⟩, h.qn, h.cn⟩
theorem S.wfn.mono {s : S} {q c l q' c' l' : Nat} (h : s.wfn q c l) (h1 : q ≤ q') (h2 : c ≤ c') (h3 : l ≤ l') : s.wfn q' c' l' :=
  ⟨h.h, h.b, by have := h.q; omega, by have := h.c; omega, fun c hc => by have := h.l c hc; exact ⟨this.1, by omega⟩, h.qn, h.cn⟩
theorem adv_wfn {s : S} (sz : Int) (qn : Bool) (Q : List W) (C : List K) {q c l : Nat} (h1 : s.H.length ≤ 1000) (h2 : s.B.length ≤ 1000) (hq : Q.length ≤ q) (hc : C.length ≤ c) (hl : ∀ c ∈ C, (c.nl = true → c.log = []) ∧ c.log.length ≤ l) (hqn : qn = true → Q = []) (hcn : s.cn = true → C = []) :
    (s.put (adv sz qn Q C)).wfn q c (l + q) ∧ (adv sz qn Q C).wn.length ≤ q := by
  obtain ⟨o1, o2, o3⟩ := advF_okN (l + q) q sz (Q.length + 1) ⟨qn, Q, C, []⟩ ⟨fun c hc => by have := hl c hc; exact ⟨this.1, by simp only; omega⟩, by simp; omega, hqn⟩
  have hlen : (adv sz qn Q C).C.length = C.length := advF_len sz _ _
  change ∀ c ∈ (adv sz qn Q C).C, (c.nl = true → c.log = []) ∧ c.log.length + (adv sz qn Q C).Q.length ≤ l + q at o1
  change (adv sz qn Q C).Q.length + (adv sz qn Q C).wn.length ≤ q at o2
  change (adv sz qn Q C).qn = true → (adv sz qn Q C).Q = [] at o3
  refine ⟨⟨h1, h2, by simp only; omega, by simp only; omega, fun c hc => ⟨(o1 c hc).1, by have := (o1 c hc).2; omega⟩, o3, ?_⟩, by omega⟩
  intro h
  have e := hcn h
  have : (adv sz qn Q C).C.length = 0 := by rw [hlen, e]; rfl
  exact List.length_eq_zero_iff.1 this
theorem got_len {l : List Wk} {t : Int} {x : Int × List Wk} (h : got l t = some x) : x.2.length ≤ l.length := by
  unfold got at h
  split at h
  · cases h
  · cases hg : l[(fwk l t).toNat]? with
    | none => rw [hg] at h; cases h
    | some w =>
      rw [hg] at h
      simp at h
      rw [← h]
      exact (List.eraseIdx_sublist l _).length_le
def Rp.wfn (r : Rp) (q c l : Nat) : Prop := r.st.wfn q c l ∧ r.wn.length ≤ q
theorem Rp0_wfn (q c l : Nat) : Rp0.wfn q c l := by
  refine ⟨⟨by simp [Rp0, S0], by simp [Rp0, S0], by simp [Rp0, S0], by simp [Rp0, S0], by simp [Rp0, S0], by simp [Rp0, S0], by simp [Rp0, S0]⟩, by simp [Rp0]⟩
theorem subC_mem {C : List K} {t : Int} {c : K} (h : c ∈ subC C t) : c = ⟨t, true, []⟩ ∨ c ∈ C := by
  unfold subC at h
  rw [List.mem_append, List.mem_cons] at h
  rcases h with h | h | h
  · exact .inr (List.mem_of_mem_take h)
  · exact .inl h
  · exact .inr (List.mem_of_mem_drop h)
theorem subC_len (C : List K) (t : Int) : (subC C t).length = C.length + 1 := by
  have := subN_le C t
  simp [subC]; omega
theorem kfd_mem {C : List K} {t : Int} {c : K} (h : kfd C t = some c) : c ∈ C := List.mem_of_find?_eq_some h
theorem ap_wfn {k sz ot : Int} {s : S} {t op v p n : Int} {q c l : Nat} (h : s.wfn q c l) : (ap k sz ot s t op v p n).1.wfn (q + 1) (c + 1) (l + q + 1) := by
  unfold ap
  by_cases hc : ckd k sz ot s = 0
  · by_cases he : callE s t op v p n = 0
    · simp only [hc, he, ne_eq, not_true, if_false]
      by_cases h69 : op = 69
      · simp only [h69, if_true]
        refine ⟨⟨h.h, h.b, by have := h.q; simp only; omega, by have := h.c; simp only [subC_len]; omega, ?_, h.qn, by simp⟩, by simp⟩
        intro d hd
        rcases subC_mem hd with rfl | hd
        · exact ⟨by simp, by simp⟩
        · have := h.l d hd; exact ⟨this.1, by omega⟩
      · simp only [h69, if_false]
        by_cases h71 : op = 71
        · simp only [h71, if_true]
          have hk := adv_wfn (s := s) sz s.qn s.Q (del s.C t) h.h h.b h.q (c := c) (l := l) (by have := h.c; have := (List.eraseIdx_sublist s.C (fnd s.C t).toNat).length_le; unfold del; omega)
            (fun d hd => h.l d (List.mem_of_mem_eraseIdx hd)) h.qn (fun e => by unfold del; rw [h.cn e]; rfl)
          exact ⟨hk.1.mono (by omega) (by omega) (by omega), by have := hk.2; simp only; omega⟩
        · simp only [h71, if_false]
          by_cases h68 : op = 68
          · simp only [h68, if_true]
            split
            · refine ⟨⟨h.h, h.b, by have := h.q; simp; omega, by have := h.c; simp only; omega, ?_, by simp, h.cn⟩, by simp⟩
              intro d hd
              have := h.l d hd; exact ⟨this.1, by omega⟩
            · have h1 := pO_len v s.Q
              refine ⟨⟨h.h, h.b, by have := h.q; simp only; omega, by have := h.c; simp; omega, ?_, by simp, fun e => by simp only; rw [h.cn e]; rfl⟩, by have := h.q; simp only; omega⟩
              intro d hd
              obtain ⟨c0, hc0, rfl⟩ := List.mem_map.1 hd
              have := h.l c0 hc0
              unfold pubK
              split
              · exact ⟨this.1, by omega⟩
              · refine ⟨by simp, ?_⟩
                simp only [List.length_append, List.length_singleton]
                omega
          · simp only [h68, if_false]
            cases hk : kfd s.C t with
            | none => exact Rp0_wfn _ _ _
            | some c0 =>
              simp only
              have hcm := kfd_mem hk
              cases hlg : c0.log with
              | cons x lg =>
                simp only
                have hk := adv_wfn (s := s) sz s.qn s.Q (s.C.set (fnd s.C t).toNat ⟨c0.task, false, lg⟩) h.h h.b h.q (c := c) (l := l) (by have := h.c; simp; omega) (by
                  intro d hd
                  rcases List.mem_or_eq_of_mem_set hd with hd | rfl
                  · exact h.l d hd
                  · refine ⟨by simp, ?_⟩
                    have := (h.l c0 hcm).2
                    rw [hlg] at this
                    simp at this ⊢
                    omega) h.qn (fun e => by have := h.cn e; rw [this] at hcm; cases hcm)
                exact ⟨hk.1.mono (by omega) (by omega) (by omega), by have := hk.2; simp only; omega⟩
              | nil =>
                simp only
                have hk := adv_wfn (s := s) sz false (s.Q ++ [W.mk t op 0 p (-1)]) s.C (q := q + 1) h.h h.b (by have := h.q; simp; omega) h.c h.l (by simp) h.cn
                cases hg : got (adv sz false (s.Q ++ [W.mk t op 0 p (-1)]) s.C).wn t with
                | none => exact ⟨hk.1.mono (by omega) (by omega) (by omega), hk.2⟩
                | some y => exact ⟨hk.1.mono (by omega) (by omega) (by omega), by have := got_len hg; have := hk.2; simp only; omega⟩
    · simp [hc, he]
      exact Rp0_wfn _ _ _
  · simp [hc]
    exact Rp0_wfn _ _ _
theorem wd_wfn {k sz ot : Int} {s : S} {t : Int} {q c l : Nat} (h : s.wfn q c l) : (wd k sz ot s t).1.wfn q c (l + q) := by
  unfold wd
  by_cases hc : ckd k sz ot s = 0
  · simp only [hc, ne_eq, not_true, if_false]
    cases ha : (s.Q.any fun w => w.task == t)
    · simp
      exact Rp0_wfn _ _ _
    · simp only [Bool.true_eq_false, if_false]
      have hle : (s.Q.filter fun w => w.task != t).length ≤ s.Q.length := List.length_filter_le _ _
      have hk := adv_wfn (s := s) sz (decide ((s.Q.filter fun w => w.task != t) = [])) (s.Q.filter fun w => w.task != t) s.C (q := q) h.h h.b (by have := h.q; omega) h.c h.l (by simp) h.cn
      exact ⟨hk.1, hk.2⟩
  · simp [hc]
    exact Rp0_wfn _ _ _
theorem great_wfn {s : S} (h : greatB s = false) (hl : ∀ c ∈ s.C, c.nl = true → c.log = []) (h1 : s.qn = true → s.Q = []) (h2 : s.cn = true → s.C = []) : s.wfn 12 12 12 := by
  unfold greatB at h
  simp at h
  obtain ⟨⟨⟨⟨a1, a2⟩, a3⟩, a4⟩, a5⟩ := h
  exact ⟨by omega, by omega, by omega, by omega, fun c hc => ⟨hl c hc, a5 c hc⟩, h1, h2⟩
end Go.VS.Tp
namespace Go.VS.Tp
/-! the example; the laws Apply and Withdraw -/
theorem ev_lcall (t op v : Int) : ev P (.call nurserylaw23_call [.d (I' t), .d (I' op), .d (I' v)] []) = some (.val (.d (.ag [I' t, I' op, I' v, I' 0, I' 0])) []) := by
  rw [ev_call P_nurserylaw23_call rfl]
  simp [F_nurserylaw23_call]
def s0 : S := ⟨-1, 0, 0, true, [], true, [], true, [], true, [], false, 0⟩
abbrev Cl := Int × Int × Int
def Cl.row (c : Cl) : List D := [I' c.1, I' c.2.1, I' c.2.2, I' 0, I' 0]
def cls : List Cl := [(1, 69, 0), (2, 69, 0), (2, 70, 0), (3, 68, 7), (3, 68, 8)]
/-- a run of calls that all succeed -/
def runs : List Cl → S → Rp → Option (S × Rp)
  | [], s, r => some (s, r)
  | c :: l, s, _ => if (ap 7 1 0 s c.1 c.2.1 c.2.2 0 0).2 = 0 then runs l (ap 7 1 0 s c.1 c.2.1 c.2.2 0 0).1.st (ap 7 1 0 s c.1 c.2.1 c.2.2 0 0).1 else none
theorem loop_awake (s' : S) (r' : Rp) : ∀ (suf pre : List Cl) (s : S) (r : Rp), cls = pre ++ suf → s.wfn (pre.length) (pre.length) (pre.length * 10) → runs suf s r = some (s', r') →
    ev P (.loop 0 [1, 2, 3, 4, 24, 25, 26] F_nurserylaw23_awake_L0 [(1, .d (.ref [.s [], I' 7, I' 1, I' 0])), (2, .loc 0 0 0), (3, .d (I' 0)), (4, .loc 1 0 0), (24, .d (.sl 5 false (cls.map Cl.row))), (25, .d (I' 5)), (26, .d (I' pre.length))] [.arrD 9 true [s.row], .arrD 13 true [r.row]]) =
      some (.out (.exit 0) [(1, .d (.ref [.s [], I' 7, I' 1, I' 0])), (2, .loc 0 0 0), (3, .d (I' 0)), (4, .loc 1 0 0)] [.arrD 9 true [s'.row], .arrD 13 true [r'.row]]) := by
  intro suf
  induction suf with
  | nil =>
    intro pre s r hl _ hr
    have : pre.length = 5 := by have : pre = cls := by simpa using hl.symm
                                rw [this]; rfl
    simp [runs] at hr
    obtain ⟨rfl, rfl⟩ := hr
    rw [ev_loop]
    conv => lhs; arg 4; unfold F_nurserylaw23_awake_L0
    simp [this, reachC, cut, List.idxOf_cons]
  | cons c suf ih =>
    intro pre s r hl hw hr
    have h5 : cls.length = 5 := rfl
    have hpl : pre.length < 5 := by rw [← h5, hl]; simp
    have hg : cls[pre.length]? = some c := by rw [hl]; simp
    have hgg : cls[pre.length]'(by omega) = c := by simpa [List.getElem?_eq_getElem (show pre.length < cls.length by omega)] using hg
    have hlt : (pre.length : Int) < 5 := by omega
    have hnext : IntKind.i64.wrap ((pre.length : Int) + 1) = pre.length + 1 := wrap_i64 (by omega) (by omega)
    unfold runs at hr
    split at hr
    · rename_i h0
      have hA := ev_apply (.s []) 7 1 0 s (hw.wf (by omega) (by omega) (by omega)) c.1 c.2.1 c.2.2 0 0
      rw [h0] at hA
      have hw2 := (ap_wfn (k := 7) (sz := 1) (ot := 0) (t := c.1) (op := c.2.1) (v := c.2.2) (p := 0) (n := 0) hw).1
      have ih' := ih (pre ++ [c]) _ _ (by simp [hl]) (hw2.mono (by simp) (by simp) (by simp; omega)) hr
      rw [← ih']
      refine eqv fun R hR => ?_
      generalize ap 7 1 0 s c.1 c.2.1 c.2.2 0 0 = x at *
      rw [ev_loop]
      conv => lhs; arg 4; unfold F_nurserylaw23_awake_L0
      simp at hR
      simp [hlt, hg, hgg, Cl.row, hA, hnext, reachC, cut, List.idxOf_cons, hR]
      done
    · cases hr
theorem ev_awake : ev P (.call nurserylaw23_awake [] []) = some (.val (.d (.b true)) []) := by
  have hN := ev_mNew (.s []) 7 1 0
  have k0 : mnew 7 1 0 = 0 := by decide
  rw [k0] at hN
  simp [frow] at hN
  obtain ⟨r', hr, hp⟩ : ∃ r', runs cls s0 Rp0 = some (⟨-1, 0, 0, true, [], false, [⟨3, 68, 8, 0, -1⟩], true, [], false, [⟨1, false, [7]⟩, ⟨2, true, []⟩], false, 0⟩, r') ∧ r'.parked = true := ⟨_, rfl, rfl⟩
  have hL := loop_awake _ r' cls [] s0 Rp0 rfl ⟨by simp [s0], by simp [s0], by simp [s0], by simp [s0], by simp [s0], by simp [s0], by simp [s0]⟩ hr
  have hA := ev_apply (.s []) 7 1 0 ⟨-1, 0, 0, true, [], false, [⟨3, 68, 8, 0, -1⟩], true, [], false, [⟨1, false, [7]⟩, ⟨2, true, []⟩], false, 0⟩ ⟨by simp, by simp, by simp, by simp, by simp, by simp, by simp⟩ 1 70 0 0 0
  obtain ⟨x, hx, h0, hv, hok, hwn, hl1, hl2, hcl⟩ : ∃ x, ap 7 1 0 ⟨-1, 0, 0, true, [], false, [⟨3, 68, 8, 0, -1⟩], true, [], false, [⟨1, false, [7]⟩, ⟨2, true, []⟩], false, 0⟩ 1 70 0 0 0 = x ∧ x.2 = 0 ∧ x.1.value = 7 ∧ x.1.ok = true ∧ x.1.wn = [⟨3, 68, 0⟩] ∧ lag x.1.st.C 1 = (1, 0) ∧ lag x.1.st.C 2 = (1, 0) ∧ x.1.st.C.length = 2 := ⟨_, rfl, rfl, rfl, rfl, rfl, rfl, rfl, rfl⟩
  rw [hx, h0] at hA
  have hg1 := ev_mLag (I' x.1.st.own) (I' x.1.st.cnt) (I' x.1.st.time) (hD x.1.st.hn x.1.st.H) (qD x.1.st.qn x.1.st.Q) (hD x.1.st.bn x.1.st.B) (.b x.1.st.cl) (I' x.1.st.val) x.1.st.cn x.1.st.C 1 (by omega)
  have hg2 := ev_mLag (I' x.1.st.own) (I' x.1.st.cnt) (I' x.1.st.time) (hD x.1.st.hn x.1.st.H) (qD x.1.st.qn x.1.st.Q) (hD x.1.st.bn x.1.st.B) (.b x.1.st.cl) (I' x.1.st.val) x.1.st.cn x.1.st.C 2 (by omega)
  rw [hl1] at hg1
  rw [hl2] at hg2
  clear hx hr
  obtain ⟨⟨xs, xp, xv, xo, xk, xw⟩, xe⟩ := x
  obtain ⟨rs, rp, rv, ro, rk, rw'⟩ := r'
  simp only at hp hv hok hwn hA hg1 hg2
  subst hp hv hok hwn
  simp [cls, Cl.row, s0, Rp0, S0, S.row, Rp.row, hD, qD, cD, kD, rows1, K.row, W.row] at hL
  simp only [S.row, Rp.row, hD, qD, cD, kD, rows1, List.map_cons, List.map_nil, K.row, W.row, Wk.row] at hA
  rw [ev_call P_nurserylaw23_awake rfl]
  simp [F_nurserylaw23_awake, ev_lcall, hN, hL, hA, hg1, hg2, thaw, freezeAll, freeze1, V.same_self, reachC, cut, List.idxOf_cons, mkRows, allDs, Wk.row]
  done
end Go.VS.Tp
namespace Go.VS.Tp
/-! the laws Apply and Withdraw -/
/-- a state that comes in -/
structure S.inp (s : S) : Prop where
  l : ∀ c ∈ s.C, c.nl = true → c.log = []
  qn : s.qn = true → s.Q = []
  cn : s.cn = true → s.C = []
theorem law_Apply (nm : D) (k sz ot : Int) (s : S) (hi : s.inp) (t op v p n : Int) :
    ev P (.call nurserylaw23_TopicApply [.d (.ag [nm, I' k, I' sz, I' ot]), .d (.ag s.row), .d (.ag [I' t, I' op, I' v, I' p, I' n])] []) = some (.val (.d (.b true)) []) := by
  have hG := ev_Great s
  rw [ev_call P_nurserylaw23_TopicApply rfl]
  cases hg : greatB s
  · rw [hg] at hG
    have hw := great_wfn hg hi.l hi.qn hi.cn
    have hwf := hw.wf (by omega) (by omega) (by omega)
    have hN := ev_mNew nm k sz ot
    have hN' := ev_rNew nm k sz ot
    have hC := ev_mCheck nm k sz ot s hwf.sm
    have hC' := ev_rCheck nm k sz ot s hwf.sm
    have hA := ev_apply nm k sz ot s hwf t op v p n
    have hB := ev_rApply nm k sz ot s hwf (by have := hw.q; omega) t op v p n
    obtain ⟨e1, e2⟩ := ap_same k sz ot s t op v p n
    have hz := ap_wfn (k := k) (sz := sz) (ot := ot) (t := t) (op := op) (v := v) (p := p) (n := n) hw
    have hS := ev_SameReply _ _ e2 (hz.1.wf (by omega) (by omega) (by omega)).sm (by have := hz.2; omega)
    rw [← e1] at hB
    generalize ckd k sz ot s = ck at *
    generalize (ap k sz ot s t op v p n).2 = ae at *
    generalize (ap k sz ot s t op v p n).1 = ar at *
    generalize (rap k sz ot s t op v p n).1 = br at *
    have hSt : ev P (.call nurseryref19_SameState [.d (.ag (if mnew k sz ot = 0 then frow else zrow)), .d (.ag (if mnew k sz ot = 0 then frow else zrow))] []) = some (.val (.d (.b true)) []) := by
      split
      · exact ev_SameState s0 s0 (S.same.refl _) ⟨by simp [s0], by simp [s0], by simp [s0], by simp [s0], by simp [s0]⟩
      · exact ev_SameState S0 S0 (S.same.refl _) ⟨by simp [S0], by simp [S0], by simp [S0], by simp [S0], by simp [S0]⟩
    have hfz : (if mnew k sz ot = 0 then frow else zrow).length = 9 := by split <;> rfl
    generalize (if mnew k sz ot = 0 then frow else zrow) = fz at *
    have hft : fz.take 9 = fz := List.take_of_length_le (by omega)
    simp [F_nurserylaw23_TopicApply, allD_map', hft, hG, hN, hN', hC, hC', hA, hB, hS, hSt, hfz, ev_awake]
    done
  · rw [hg] at hG
    simp [F_nurserylaw23_TopicApply, hG, ev_awake]
theorem law_Withdraw (nm : D) (k sz ot : Int) (s : S) (hi : s.inp) (t op v p n tk : Int) :
    ev P (.call nurserylaw23_TopicWithdraw [.d (.ag [nm, I' k, I' sz, I' ot]), .d (.ag s.row), .d (.ag [I' t, I' op, I' v, I' p, I' n]), .d (I' tk)] []) = some (.val (.d (.b true)) []) := by
  have hG := ev_Great s
  rw [ev_call P_nurserylaw23_TopicWithdraw rfl]
  cases hg : greatB s
  · rw [hg] at hG
    have hw := great_wfn hg hi.l hi.qn hi.cn
    have hwf := hw.wf (by omega) (by omega) (by omega)
    have hA := ev_withdraw nm k sz ot s hwf tk
    have hB := ev_rWithdraw nm k sz ot s hwf tk
    obtain ⟨e1, e2⟩ := wd_same k sz ot s tk
    obtain ⟨e3, e4⟩ := ap_same k sz ot s t op v p n
    have hz := wd_wfn (k := k) (sz := sz) (ot := ot) (t := tk) hw
    have hS := ev_SameReply _ _ e2 (hz.1.wf (by omega) (by omega) (by omega)).sm (by have := hz.2; omega)
    have hR := ev_mReady nm k sz ot s hwf t op v p n
    have hR' := ev_rReady nm k sz ot s hwf (by have := hw.q; omega) t op v p n
    rw [← e3, ← e4.parked] at hR'
    have hL := ev_mLag (I' s.own) (I' s.cnt) (I' s.time) (hD s.hn s.H) (qD s.qn s.Q) (hD s.bn s.B) (.b s.cl) (I' s.val) s.cn s.C tk (by have := hw.c; omega)
    have hL' := ev_rLag (I' s.own) (I' s.cnt) (I' s.time) (hD s.hn s.H) (qD s.qn s.Q) (hD s.bn s.B) (.b s.cl) (I' s.val) s.cn s.C tk (by have := hw.c; omega)
    rw [← e1] at hB
    generalize (wd k sz ot s tk).2 = ae at *
    generalize (wd k sz ot s tk).1 = ar at *
    generalize (rwd k sz ot s tk).1 = br at *
    generalize ((ap k sz ot s t op v p n).2 == 0 && !(ap k sz ot s t op v p n).1.parked) = rd at *
    cases rd
    all_goals
      simp [F_nurserylaw23_TopicWithdraw, hG, hA, hB, hS, hR, hR', hL, hL', ev_awake]
      done
  · rw [hg] at hG
    simp [F_nurserylaw23_TopicWithdraw, hG, ev_awake]
end Go.VS.Tp
