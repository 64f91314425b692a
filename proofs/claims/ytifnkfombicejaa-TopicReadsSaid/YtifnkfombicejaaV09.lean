import Derived.Test.YtifnkfombicejaaV08
set_option linter.all false
namespace Go.VS.Tp
/-! sizes -/
def Ad.okN (L M : Nat) (a : Ad) : Prop := (∀ c ∈ a.C, (c.nl = true → c.log = []) ∧ c.log.length + a.Q.length ≤ L) ∧ a.Q.length + a.wn.length ≤ M ∧ (a.qn = true → a.Q = [])
theorem Ad.okN_step {L M : Nat} {a : Ad} {A B : List W} {w : W} (hQ : a.Q = A ++ w :: B) (h : pub a.Q = (A.length : Int)) (hok : a.okN L M) : (a.step w).okN L M := by
  obtain ⟨hC, hw, hqn⟩ := hok
  have hq1 : Q1 a.Q = A ++ B := by rw [hQ]; exact Q1_eq (by rw [← hQ]; exact h)
  have hl := pO_le (A ++ B)
  have hl2 := pO_len w.value (A ++ B)
  have hQl : a.Q.length = A.length + (B.length + 1) := by rw [hQ]; simp
  simp only [List.length_append] at hl hl2
  refine ⟨?_, ?_, ?_⟩
  · intro c hcm
    simp only [Ad.step] at hcm ⊢
    obtain ⟨c0, hc0, rfl⟩ := List.mem_map.1 hcm
    have := hC c0 hc0
    rw [hq1] at *
    unfold pubK
    split
    · exact ⟨this.1, by omega⟩
    · refine ⟨by simp, ?_⟩
      simp only [List.length_append, List.length_singleton]
      omega
  · simp only [Ad.step, List.length_append, List.length_cons]
    rw [hq1]
    omega
  · simp [Ad.step]
theorem advF_okN (L M : Nat) (sz : Int) : ∀ (n : Nat) (a : Ad), a.okN L M → (advF sz n a).okN L M
  | 0, a, h => h
  | n + 1, a, h => by
    unfold advF
    split
    · exact h
    · rename_i hn
      rcases pub_spec a.Q with ⟨h1, _⟩ | ⟨A, B, w, hQ, hp, _⟩
      · exfalso; apply hn; left; omega
      · have e : ((A.length : Int)).toNat = A.length := by omega
        have hg : a.Q[(pub a.Q).toNat]? = some w := by rw [hp, e, hQ]; simp
        rw [hg]
        exact advF_okN L M sz n _ (Ad.okN_step hQ hp h)
/-- a state within sizes -/
structure S.wfn (s : S) (q c l : Nat) : Prop where
  h : s.H.length ≤ 1000
  b : s.B.length ≤ 1000
  q : s.Q.length ≤ q
  c : s.C.length ≤ c
  l : ∀ c ∈ s.C, (c.nl = true → c.log = []) ∧ c.log.length ≤ l
  qn : s.qn = true → s.Q = []
  cn : s.cn = true → s.C = []
theorem S.wfn.wf {s : S} {q c l : Nat} (h : s.wfn q c l) (h1 : q ≤ 1000) (h2 : c ≤ 1000) (h3 : l ≤ 1000) : s.wf :=
  ⟨h.h, h.b, by have := h.q; omega, by have := h.c; omega, fun c hc => by have := h.l c hc; exact ⟨this.1, by omega⟩, h.qn, h.cn⟩
theorem S.wfn.mono {s : S} {q c l q' c' l' : Nat} (h : s.wfn q c l) (h1 : q ≤ q') (h2 : c ≤ c') (h3 : l ≤ l') : s.wfn q' c' l' :=
  ⟨h.h, h.b, by have := h.q; omega, by have := h.c; omega, fun c hc => by have := h.l c hc; exact ⟨this.1, by omega⟩, h.qn, h.cn⟩
theorem adv_wfn {s : S} (sz : Int) (qn : Bool) (Q : List W) (C : List K) {q c l : Nat} (h1 : s.H.length ≤ 1000) (h2 : s.B.length ≤ 1000) (hq : Q.length ≤ q) (hc : C.length ≤ c) (hl : ∀ c ∈ C, (c.nl = true → c.log = []) ∧ c.log.length ≤ l) (hqn : qn = true → Q = []) (hcn : s.cn = true → C = []) :
    (s.put (adv sz qn Q C)).wfn q c (l + q) ∧ (adv sz qn Q C).wn.length ≤ q := by
  obtain ⟨o1, o2, o3⟩ := advF_okN (l + q) q sz (Q.length + 1) ⟨qn, Q, C, []⟩ ⟨fun c hc => by have := hl c hc; exact ⟨this.1, by simp only; omega⟩, by simp; omega, hqn⟩
  have hlen : (adv sz qn Q C).C.length = C.length := advF_len sz _ _
  change ∀ c ∈ (adv sz qn Q C).C, (c.nl = true → c.log = []) ∧ c.log.length + (adv sz qn Q C).Q.length ≤ l + q at o1
  change (adv sz qn Q C).Q.length + (adv sz qn Q C).wn.length ≤ q at o2
  change (adv sz qn Q C).qn = true → (adv sz qn Q C).Q = [] at o3
  refine ⟨⟨h1, h2, by simp only; omega, by simp only; omega, fun c hc => ⟨(o1 c hc).1, by have := (o1 c hc).2; omega⟩, o3, ?_⟩, by omega⟩
  intro h
  have e := hcn h
  have : (adv sz qn Q C).C.length = 0 := by rw [hlen, e]; rfl
  exact List.length_eq_zero_iff.1 this
theorem got_len {l : List Wk} {t : Int} {x : Int × List Wk} (h : got l t = some x) : x.2.length ≤ l.length := by
  unfold got at h
  split at h
  · cases h
  · cases hg : l[(fwk l t).toNat]? with
    | none => rw [hg] at h; cases h
    | some w =>
      rw [hg] at h
      simp at h
      rw [← h]
      exact (List.eraseIdx_sublist l _).length_le
def Rp.wfn (r : Rp) (q c l : Nat) : Prop := r.st.wfn q c l ∧ r.wn.length ≤ q
theorem Rp0_wfn (q c l : Nat) : Rp0.wfn q c l := by
  refine ⟨⟨by simp [Rp0, S0], by simp [Rp0, S0], by simp [Rp0, S0], by simp [Rp0, S0], by simp [Rp0, S0], by simp [Rp0, S0], by simp [Rp0, S0]⟩, by simp [Rp0]⟩
theorem subC_mem {C : List K} {t : Int} {c : K} (h : c ∈ subC C t) : c = ⟨t, true, []⟩ ∨ c ∈ C := by
  unfold subC at h
  rw [List.mem_append, List.mem_cons] at h
  rcases h with h | h | h
  · exact .inr (List.mem_of_mem_take h)
  · exact .inl h
  · exact .inr (List.mem_of_mem_drop h)
theorem subC_len (C : List K) (t : Int) : (subC C t).length = C.length + 1 := by
  have := subN_le C t
  simp [subC]; omega
theorem kfd_mem {C : List K} {t : Int} {c : K} (h : kfd C t = some c) : c ∈ C := List.mem_of_find?_eq_some h
theorem ap_wfn {k sz ot : Int} {s : S} {t op v p n : Int} {q c l : Nat} (h : s.wfn q c l) : (ap k sz ot s t op v p n).1.wfn (q + 1) (c + 1) (l + q + 1) := by
  unfold ap
  by_cases hc : ckd k sz ot s = 0
  · by_cases he : callE s t op v p n = 0
    · simp only [hc, he, ne_eq, not_true, if_false]
      by_cases h69 : op = 69
      · simp only [h69, if_true]
        refine ⟨⟨h.h, h.b, by have := h.q; simp only; omega, by have := h.c; simp only [subC_len]; omega, ?_, h.qn, by simp⟩, by simp⟩
        intro d hd
        rcases subC_mem hd with rfl | hd
        · exact ⟨by simp, by simp⟩
        · have := h.l d hd; exact ⟨this.1, by omega⟩
      · simp only [h69, if_false]
        by_cases h71 : op = 71
        · simp only [h71, if_true]
          have hk := adv_wfn (s := s) sz s.qn s.Q (del s.C t) h.h h.b h.q (c := c) (l := l) (by have := h.c; have := (List.eraseIdx_sublist s.C (fnd s.C t).toNat).length_le; unfold del; omega)
            (fun d hd => h.l d (List.mem_of_mem_eraseIdx hd)) h.qn (fun e => by unfold del; rw [h.cn e]; rfl)
          exact ⟨hk.1.mono (by omega) (by omega) (by omega), by have := hk.2; simp only; omega⟩
        · simp only [h71, if_false]
          by_cases h68 : op = 68
          · simp only [h68, if_true]
            split
            · refine ⟨⟨h.h, h.b, by have := h.q; simp; omega, by have := h.c; simp only; omega, ?_, by simp, h.cn⟩, by simp⟩
              intro d hd
              have := h.l d hd; exact ⟨this.1, by omega⟩
            · have h1 := pO_len v s.Q
              refine ⟨⟨h.h, h.b, by have := h.q; simp only; omega, by have := h.c; simp; omega, ?_, by simp, fun e => by simp only; rw [h.cn e]; rfl⟩, by have := h.q; simp only; omega⟩
              intro d hd
              obtain ⟨c0, hc0, rfl⟩ := List.mem_map.1 hd
              have := h.l c0 hc0
              unfold pubK
              split
              · exact ⟨this.1, by omega⟩
              · refine ⟨by simp, ?_⟩
                simp only [List.length_append, List.length_singleton]
                omega
          · simp only [h68, if_false]
            cases hk : kfd s.C t with
            | none => exact Rp0_wfn _ _ _
            | some c0 =>
              simp only
              have hcm := kfd_mem hk
              cases hlg : c0.log with
              | cons x lg =>
                simp only
                have hk := adv_wfn (s := s) sz s.qn s.Q (s.C.set (fnd s.C t).toNat ⟨c0.task, false, lg⟩) h.h h.b h.q (c := c) (l := l) (by have := h.c; simp; omega) (by
                  intro d hd
                  rcases List.mem_or_eq_of_mem_set hd with hd | rfl
                  · exact h.l d hd
                  · refine ⟨by simp, ?_⟩
                    have := (h.l c0 hcm).2
                    rw [hlg] at this
                    simp at this ⊢
                    omega) h.qn (fun e => by have := h.cn e; rw [this] at hcm; cases hcm)
                exact ⟨hk.1.mono (by omega) (by omega) (by omega), by have := hk.2; simp only; omega⟩
              | nil =>
                simp only
                have hk := adv_wfn (s := s) sz false (s.Q ++ [W.mk t op 0 p (-1)]) s.C (q := q + 1) h.h h.b (by have := h.q; simp; omega) h.c h.l (by simp) h.cn
                cases hg : got (adv sz false (s.Q ++ [W.mk t op 0 p (-1)]) s.C).wn t with
                | none => exact ⟨hk.1.mono (by omega) (by omega) (by omega), hk.2⟩
                | some y => exact ⟨hk.1.mono (by omega) (by omega) (by omega), by have := got_len hg; have := hk.2; simp only; omega⟩
    · simp [hc, he]
      exact Rp0_wfn _ _ _
  · simp [hc]
    exact Rp0_wfn _ _ _
theorem wd_wfn {k sz ot : Int} {s : S} {t : Int} {q c l : Nat} (h : s.wfn q c l) : (wd k sz ot s t).1.wfn q c (l + q) := by
  unfold wd
  by_cases hc : ckd k sz ot s = 0
  · simp only [hc, ne_eq, not_true, if_false]
    cases ha : (s.Q.any fun w => w.task == t)
    · simp
      exact Rp0_wfn _ _ _
    · simp only [Bool.true_eq_false, if_false]
      have hle : (s.Q.filter fun w => w.task != t).length ≤ s.Q.length := List.length_filter_le _ _
      have hk := adv_wfn (s := s) sz (decide ((s.Q.filter fun w => w.task != t) = [])) (s.Q.filter fun w => w.task != t) s.C (q := q) h.h h.b (by have := h.q; omega) h.c h.l (by simp) h.cn
      exact ⟨hk.1, hk.2⟩
  · simp [hc]
    exact Rp0_wfn _ _ _
theorem great_wfn {s : S} (h : greatB s = false) (hl : ∀ c ∈ s.C, c.nl = true → c.log = []) (h1 : s.qn = true → s.Q = []) (h2 : s.cn = true → s.C = []) : s.wfn 12 12 12 := by
  unfold greatB at h
  simp at h
  obtain ⟨⟨⟨⟨a1, a2⟩, a3⟩, a4⟩, a5⟩ := h
  exact ⟨by omega, by omega, by omega, by omega, fun c hc => ⟨hl c hc, a5 c hc⟩, h1, h2⟩
end Go.VS.Tp
namespace Go.VS.Tp
/-! the example; the laws Apply and Withdraw -/
theorem ev_lcall (t op v : Int) : ev P (.call nurserylaw23_call [.d (I' t), .d (I' op), .d (I' v)] []) = some (.val (.d (.ag [I' t, I' op, I' v, I' 0, I' 0])) []) := by
  rw [ev_call P_nurserylaw23_call rfl]
  simp [F_nurserylaw23_call]
def s0 : S := ⟨-1, 0, 0, true, [], true, [], true, [], true, [], false, 0⟩
abbrev Cl := Int × Int × Int
def Cl.row (c : Cl) : List D := [I' c.1, I' c.2.1, I' c.2.2, I' 0, I' 0]
def cls : List Cl := [(1, 69, 0), (2, 69, 0), (2, 70, 0), (3, 68, 7), (3, 68, 8)]
/-- a run of calls that all succeed -/
def runs : List Cl → S → Rp → Option (S × Rp)
  | [], s, r => some (s, r)
  | c :: l, s, _ => if (ap 7 1 0 s c.1 c.2.1 c.2.2 0 0).2 = 0 then runs l (ap 7 1 0 s c.1 c.2.1 c.2.2 0 0).1.st (ap 7 1 0 s c.1 c.2.1 c.2.2 0 0).1 else none
theorem loop_awake (s' : S) (r' : Rp) : ∀ (suf pre : List Cl) (s : S) (r : Rp), cls = pre ++ suf → s.wfn (pre.length) (pre.length) (pre.length * 10) → runs suf s r = some (s', r') →
    ev P (.loop 0 [1, 2, 3, 4, 24, 25, 26] F_nurserylaw23_awake_L0 [(1, .d (.ref [.s [], I' 7, I' 1, I' 0])), (2, .loc 0 0 0), (3, .d (I' 0)), (4, .loc 1 0 0), (24, .d (.sl 5 false (cls.map Cl.row))), (25, .d (I' 5)), (26, .d (I' pre.length))] [.arrD 9 true [s.row], .arrD 13 true [r.row]]) =
      some (.out (.exit 0) [(1, .d (.ref [.s [], I' 7, I' 1, I' 0])), (2, .loc 0 0 0), (3, .d (I' 0)), (4, .loc 1 0 0)] [.arrD 9 true [s'.row], .arrD 13 true [r'.row]]) := by
  intro suf
  induction suf with
  | nil =>
    intro pre s r hl _ hr
    have : pre.length = 5 := by have : pre = cls := by simpa using hl.symm
                                rw [this]; rfl
    simp [runs] at hr
    obtain ⟨rfl, rfl⟩ := hr
    rw [ev_loop]
    conv => lhs; arg 4; unfold F_nurserylaw23_awake_L0
    simp [this, reachC, cut, List.idxOf_cons]
  | cons c suf ih =>
    intro pre s r hl hw hr
    have h5 : cls.length = 5 := rfl
    have hpl : pre.length < 5 := by rw [← h5, hl]; simp
    have hg : cls[pre.length]? = some c := by rw [hl]; simp
    have hgg : cls[pre.length]'(by omega) = c := by simpa [List.getElem?_eq_getElem (show pre.length < cls.length by omega)] using hg
    have hlt : (pre.length : Int) < 5 := by omega
    have hnext : IntKind.i64.wrap ((pre.length : Int) + 1) = pre.length + 1 := wrap_i64 (by omega) (by omega)
    unfold runs at hr
    split at hr
    · rename_i h0
      have hA := ev_apply (.s []) 7 1 0 s (hw.wf (by omega) (by omega) (by omega)) c.1 c.2.1 c.2.2 0 0
      rw [h0] at hA
      have hw2 := (ap_wfn (k := 7) (sz := 1) (ot := 0) (t := c.1) (op := c.2.1) (v := c.2.2) (p := 0) (n := 0) hw).1
      have ih' := ih (pre ++ [c]) _ _ (by simp [hl]) (hw2.mono (by simp) (by simp) (by simp; omega)) hr
      rw [← ih']
      refine eqv fun R hR => ?_
      generalize ap 7 1 0 s c.1 c.2.1 c.2.2 0 0 = x at *
      rw [ev_loop]
      conv => lhs; arg 4; unfold F_nurserylaw23_awake_L0
      simp at hR
      simp [hlt, hg, hgg, Cl.row, hA, hnext, reachC, cut, List.idxOf_cons, hR]
      done
    · cases hr
theorem ev_awake : ev P (.call nurserylaw23_awake [] []) = some (.val (.d (.b true)) []) := by
  have hN := ev_mNew (.s []) 7 1 0
  have k0 : mnew 7 1 0 = 0 := by decide
  rw [k0] at hN
  simp [frow] at hN
  obtain ⟨r', hr, hp⟩ : ∃ r', runs cls s0 Rp0 = some (⟨-1, 0, 0, true, [], false, [⟨3, 68, 8, 0, -1⟩], true, [], false, [⟨1, false, [7]⟩, ⟨2, true, []⟩], false, 0⟩, r') ∧ r'.parked = true := ⟨_, rfl, rfl⟩
  have hL := loop_awake _ r' cls [] s0 Rp0 rfl ⟨by simp [s0], by simp [s0], by simp [s0], by simp [s0], by simp [s0], by simp [s0], by simp [s0]⟩ hr
  have hA := ev_apply (.s []) 7 1 0 ⟨-1, 0, 0, true, [], false, [⟨3, 68, 8, 0, -1⟩], true, [], false, [⟨1, false, [7]⟩, ⟨2, true, []⟩], false, 0⟩ ⟨by simp, by simp, by simp, by simp, by simp, by simp, by simp⟩ 1 70 0 0 0
  obtain ⟨x, hx, h0, hv, hok, hwn, hl1, hl2, hcl⟩ : ∃ x, ap 7 1 0 ⟨-1, 0, 0, true, [], false, [⟨3, 68, 8, 0, -1⟩], true, [], false, [⟨1, false, [7]⟩, ⟨2, true, []⟩], false, 0⟩ 1 70 0 0 0 = x ∧ x.2 = 0 ∧ x.1.value = 7 ∧ x.1.ok = true ∧ x.1.wn = [⟨3, 68, 0⟩] ∧ lag x.1.st.C 1 = (1, 0) ∧ lag x.1.st.C 2 = (1, 0) ∧ x.1.st.C.length = 2 := ⟨_, rfl, rfl, rfl, rfl, rfl, rfl, rfl, rfl⟩
  rw [hx, h0] at hA
  have hg1 := ev_mLag (I' x.1.st.own) (I' x.1.st.cnt) (I' x.1.st.time) (hD x.1.st.hn x.1.st.H) (qD x.1.st.qn x.1.st.Q) (hD x.1.st.bn x.1.st.B) (.b x.1.st.cl) (I' x.1.st.val) x.1.st.cn x.1.st.C 1 (by omega)
  have hg2 := ev_mLag (I' x.1.st.own) (I' x.1.st.cnt) (I' x.1.st.time) (hD x.1.st.hn x.1.st.H) (qD x.1.st.qn x.1.st.Q) (hD x.1.st.bn x.1.st.B) (.b x.1.st.cl) (I' x.1.st.val) x.1.st.cn x.1.st.C 2 (by omega)
  rw [hl1] at hg1
  rw [hl2] at hg2
  clear hx hr
  obtain ⟨⟨xs, xp, xv, xo, xk, xw⟩, xe⟩ := x
  obtain ⟨rs, rp, rv, ro, rk, rw'⟩ := r'
  simp only at hp hv hok hwn hA hg1 hg2
  subst hp hv hok hwn
  simp [cls, Cl.row, s0, Rp0, S0, S.row, Rp.row, hD, qD, cD, kD, rows1, K.row, W.row] at hL
  simp only [S.row, Rp.row, hD, qD, cD, kD, rows1, List.map_cons, List.map_nil, K.row, W.row, Wk.row] at hA
  rw [ev_call P_nurserylaw23_awake rfl]
  simp [F_nurserylaw23_awake, ev_lcall, hN, hL, hA, hg1, hg2, thaw, freezeAll, freeze1, V.same_self, reachC, cut, List.idxOf_cons, mkRows, allDs, Wk.row]
  done
end Go.VS.Tp
namespace Go.VS.Tp
/-! the laws Apply and Withdraw -/
/-- a state that comes in -/
structure S.inp (s : S) : Prop where
  l : ∀ c ∈ s.C, c.nl = true → c.log = []
  qn : s.qn = true → s.Q = []
  cn : s.cn = true → s.C = []
theorem law_Apply (nm : D) (k sz ot : Int) (s : S) (hi : s.inp) (t op v p n : Int) :
    ev P (.call nurserylaw23_TopicApply [.d (.ag [nm, I' k, I' sz, I' ot]), .d (.ag s.row), .d (.ag [I' t, I' op, I' v, I' p, I' n])] []) = some (.val (.d (.b true)) []) := by
  have hG := ev_Great s
  rw [ev_call P_nurserylaw23_TopicApply rfl]
  cases hg : greatB s
  · rw [hg] at hG
    have hw := great_wfn hg hi.l hi.qn hi.cn
    have hwf := hw.wf (by omega) (by omega) (by omega)
    have hN := ev_mNew nm k sz ot
    have hN' := ev_rNew nm k sz ot
    have hC := ev_mCheck nm k sz ot s hwf.sm
    have hC' := ev_rCheck nm k sz ot s hwf.sm
    have hA := ev_apply nm k sz ot s hwf t op v p n
    have hB := ev_rApply nm k sz ot s hwf (by have := hw.q; omega) t op v p n
    obtain ⟨e1, e2⟩ := ap_same k sz ot s t op v p n
    have hz := ap_wfn (k := k) (sz := sz) (ot := ot) (t := t) (op := op) (v := v) (p := p) (n := n) hw
    have hS := ev_SameReply _ _ e2 (hz.1.wf (by omega) (by omega) (by omega)).sm (by have := hz.2; omega)
    rw [← e1] at hB
    generalize ckd k sz ot s = ck at *
    generalize (ap k sz ot s t op v p n).2 = ae at *
    generalize (ap k sz ot s t op v p n).1 = ar at *
    generalize (rap k sz ot s t op v p n).1 = br at *
    have hSt : ev P (.call nurseryref19_SameState [.d (.ag (if mnew k sz ot = 0 then frow else zrow)), .d (.ag (if mnew k sz ot = 0 then frow else zrow))] []) = some (.val (.d (.b true)) []) := by
      split
      · exact ev_SameState s0 s0 (S.same.refl _) ⟨by simp [s0], by simp [s0], by simp [s0], by simp [s0], by simp [s0]⟩
      · exact ev_SameState S0 S0 (S.same.refl _) ⟨by simp [S0], by simp [S0], by simp [S0], by simp [S0], by simp [S0]⟩
    have hfz : (if mnew k sz ot = 0 then frow else zrow).length = 9 := by split <;> rfl
    generalize (if mnew k sz ot = 0 then frow else zrow) = fz at *
    have hft : fz.take 9 = fz := List.take_of_length_le (by omega)
    simp [F_nurserylaw23_TopicApply, allD_map', hft, hG, hN, hN', hC, hC', hA, hB, hS, hSt, hfz, ev_awake]
    done
  · rw [hg] at hG
    simp [F_nurserylaw23_TopicApply, hG, ev_awake]
theorem law_Withdraw (nm : D) (k sz ot : Int) (s : S) (hi : s.inp) (t op v p n tk : Int) :
    ev P (.call nurserylaw23_TopicWithdraw [.d (.ag [nm, I' k, I' sz, I' ot]), .d (.ag s.row), .d (.ag [I' t, I' op, I' v, I' p, I' n]), .d (I' tk)] []) = some (.val (.d (.b true)) []) := by
  have hG := ev_Great s
  rw [ev_call P_nurserylaw23_TopicWithdraw rfl]
  cases hg : greatB s
  · rw [hg] at hG
    have hw := great_wfn hg hi.l hi.qn hi.cn
    have hwf := hw.wf (by omega) (by omega) (by omega)
    have hA := ev_withdraw nm k sz ot s hwf tk
    have hB := ev_rWithdraw nm k sz ot s hwf tk
    obtain ⟨e1, e2⟩ := wd_same k sz ot s tk
    obtain ⟨e3, e4⟩ := ap_same k sz ot s t op v p n
    have hz := wd_wfn (k := k) (sz := sz) (ot := ot) (t := tk) hw
    have hS := ev_SameReply _ _ e2 (hz.1.wf (by omega) (by omega) (by omega)).sm (by have := hz.2; omega)
    have hR := ev_mReady nm k sz ot s hwf t op v p n
    have hR' := ev_rReady nm k sz ot s hwf (by have := hw.q; omega) t op v p n
    rw [← e3, ← e4.parked] at hR'
    have hL := ev_mLag (I' s.own) (I' s.cnt) (I' s.time) (hD s.hn s.H) (qD s.qn s.Q) (hD s.bn s.B) (.b s.cl) (I' s.val) s.cn s.C tk (by have := hw.c; omega)
    have hL' := ev_rLag (I' s.own) (I' s.cnt) (I' s.time) (hD s.hn s.H) (qD s.qn s.Q) (hD s.bn s.B) (.b s.cl) (I' s.val) s.cn s.C tk (by have := hw.c; omega)
    rw [← e1] at hB
    generalize (wd k sz ot s tk).2 = ae at *
    generalize (wd k sz ot s tk).1 = ar at *
    generalize (rwd k sz ot s tk).1 = br at *
    generalize ((ap k sz ot s t op v p n).2 == 0 && !(ap k sz ot s t op v p n).1.parked) = rd at *
    cases rd
    all_goals
      simp [F_nurserylaw23_TopicWithdraw, hG, hA, hB, hS, hR, hR', hL, hL', ev_awake]
      done
  · rw [hg] at hG
    simp [F_nurserylaw23_TopicWithdraw, hG, ev_awake]
end Go.VS.Tp
namespace Go.VS.Tp
/-! what Apply and Withdraw return is a state again -/
/-- sorted by task -/
def vcP (sz : Int) (p : Option K) (C : List K) : Prop := C.Pairwise (fun a b => a.task < b.task) ∧ (∀ c ∈ C, 0 ≤ c.task ∧ c.task < 16 ∧ (c.log.length : Int) ≤ sz ∧ c.log.all num = true) ∧ ∀ x ∈ p, ∀ c ∈ C, x.task < c.task
theorem vc_iff {sz : Int} : ∀ (C : List K) (p : Option K), vc sz p C = true ↔ vcP sz p C
  | [], p => by simp [vc, vcP]
  | c :: C, p => by
    have e1 : vc sz p (c :: C) = (!kbad sz p c && (c.log.all num && vc sz (some c) C)) := rfl
    have ek : kbad sz p c = false ↔ (0 ≤ c.task ∧ c.task < 16 ∧ (c.log.length : Int) ≤ sz ∧ ∀ x ∈ p, x.task < c.task) := by
      unfold kbad
      cases p with
      | none => simp; omega
      | some q => simp; omega
    rw [e1]
    simp only [Bool.and_eq_true, Bool.not_eq_true', ek, vc_iff C (some c)]
    unfold vcP
    simp only [List.pairwise_cons, List.mem_cons, forall_eq_or_imp, Option.mem_def, Option.some.injEq, forall_eq']
    constructor
    · rintro ⟨⟨a1, a2, a3, a4⟩, b, c1, c2, c3⟩
      exact ⟨⟨c3, c1⟩, ⟨⟨a1, a2, a3, b⟩, c2⟩, fun x hx => ⟨a4 x hx, fun d hd => by have := a4 x hx; have := c3 d hd; omega⟩⟩
    · rintro ⟨⟨c3, c1⟩, ⟨⟨a1, a2, a3, b⟩, c2⟩, h⟩
      exact ⟨⟨a1, a2, a3, fun x hx => (h x hx).1⟩, b, c1, c2, c3⟩
structure Srt (sz : Int) (C : List K) : Prop where
  pw : C.Pairwise (fun a b => a.task < b.task)
  el : ∀ c ∈ C, 0 ≤ c.task ∧ c.task < 16 ∧ (c.log.length : Int) ≤ sz ∧ c.log.all num = true
theorem srt_iff {sz : Int} {C : List K} : vc sz none C = true ↔ Srt sz C := by
  rw [vc_iff]
  exact ⟨fun h => ⟨h.1, h.2.1⟩, fun h => ⟨h.pw, h.el, by simp⟩⟩
/-- a valid state, but that a publisher may wait with nobody full -/
structure Gd0 (sz : Int) (Q : List W) (C : List K) : Prop where
  srt : Srt sz C
  val : ∀ w ∈ Q, wvalid w = true
  len : Q.length ≤ 96
  nd : (tks Q).Nodup
  cs : ∀ w ∈ Q, w.case = -1 ∧ (w.op = 70 ∧ n70 C w = true ∨ w.op = 68)
def Gd (sz : Int) (Q : List W) (C : List K) : Prop := Gd0 sz Q C ∧ ((∃ w ∈ Q, w.op = 68) → fl sz C Q = true)
theorem wcheck_all : ∀ (l : List W) (p : Option W), wcheckFrom 1 p l = 0 ↔ ∀ w ∈ l, wvalid w = true
  | [], p => by simp [wcheckFrom]
  | w :: l, p => by
    unfold wcheckFrom
    cases hv : wvalid w
    · simp [hv]
    · simp [hv, wcheck_all l]
theorem wchk_iff {Q : List W} : wchk Q = 0 ↔ Q.length ≤ 96 ∧ ∀ w ∈ Q, wvalid w = true := by
  unfold wchk
  by_cases h : 96 < Q.length
  · rw [if_pos h]
    constructor
    · intro h; cases h
    · intro h'; omega
  · rw [if_neg h, wcheck_all]
    constructor
    · intro h'; exact ⟨by omega, h'⟩
    · intro h'; exact h'.2
theorem tq_iff {sz : Int} {C : List K} {Q : List W} : ∀ (suf pre : List W), tq sz C Q pre suf = true ↔
    ((∀ x ∈ pre, ∀ w ∈ suf, x.task ≠ w.task) ∧ (tks suf).Nodup ∧ ∀ w ∈ suf, w.case = -1 ∧ tqo sz C Q w = true)
  | [], pre => by simp [tq, tks]
  | w :: suf, pre => by
    have e1 : tq sz C Q pre (w :: suf) = (!pre.any (fun x => x.task == w.task) && (w.case == -1 && (tqo sz C Q w && tq sz C Q (pre ++ [w]) suf))) := rfl
    have e2 : (!pre.any (fun x => x.task == w.task)) = true ↔ ∀ x ∈ pre, x.task ≠ w.task := by simp
    rw [e1]
    simp only [Bool.and_eq_true, e2, tq_iff suf (pre ++ [w]), beq_iff_eq]
    have e3 : (tks (w :: suf)).Nodup ↔ (∀ x ∈ suf, w.task ≠ x.task) ∧ (tks suf).Nodup := by
      unfold tks
      rw [List.map_cons, List.nodup_cons]
      simp only [List.mem_map, not_exists, not_and]
      constructor
      · rintro ⟨a, b⟩; exact ⟨fun x hx e => a x hx e.symm, b⟩
      · rintro ⟨a, b⟩; exact ⟨fun x hx e => a x hx e.symm, b⟩
    rw [e3]
    simp only [List.mem_append, List.mem_cons, List.not_mem_nil, or_false, forall_eq_or_imp]
    constructor
    · rintro ⟨a, b, c, d, e, f⟩
      exact ⟨fun x hx => ⟨a x hx, fun y hy => d x (.inl hx) y hy⟩, ⟨fun y hy => d w (.inr rfl) y hy, e⟩, ⟨b, c⟩, f⟩
    · rintro ⟨a, ⟨b, c⟩, ⟨d, e⟩, f⟩
      exact ⟨fun x hx => (a x hx).1, d, e, fun x hx y hy => by
        rcases hx with hx | rfl
        · exact (a x hx).2 y hy
        · exact b y hy, c, f⟩
theorem good_iff {sz : Int} {s : S} : s.good sz = true ↔ (s.own = -1 ∧ s.fl0 = false ∧ Gd sz s.Q s.C) := by
  unfold S.good Gd
  simp only [Bool.and_eq_true, beq_iff_eq, Bool.not_eq_true', srt_iff, wchk_iff, tq_iff]
  constructor
  · rintro ⟨⟨a, b, ⟨c, d⟩, _, e, f⟩, g⟩
    refine ⟨a, g, ⟨b, d, c, e, ?_⟩, ?_⟩
    · intro w hw
      obtain ⟨h1, h2⟩ := f w hw
      refine ⟨h1, ?_⟩
      unfold tqo at h2
      by_cases h70 : w.op = 70
      · rw [if_pos h70] at h2; exact .inl ⟨h70, h2⟩
      · rw [if_neg h70] at h2
        by_cases h68 : w.op = 68
        · exact .inr h68
        · rw [if_neg h68] at h2; cases h2
    · rintro ⟨w, hw, h68⟩
      obtain ⟨_, h2⟩ := f w hw
      simpa [tqo, h68] using h2
  · rintro ⟨a, g, ⟨b, d, c, e, f⟩, h⟩
    refine ⟨⟨a, b, ⟨c, d⟩, by simp, e, ?_⟩, g⟩
    intro w hw
    obtain ⟨h1, h2⟩ := f w hw
    refine ⟨h1, ?_⟩
    rcases h2 with ⟨h70, h2⟩ | h68
    · simp [tqo, h70, h2]
    · simp [tqo, h68, h ⟨w, hw, h68⟩]
end Go.VS.Tp
namespace Go.VS.Tp
/-! advance, Apply and Withdraw keep a state valid -/
theorem num_iff {n : Int} : num n = true ↔ -1099511627776 ≤ n ∧ n ≤ 1099511627776 := by
  unfold num; simp
theorem wvalid_num {w : W} (h : wvalid w = true) : num w.value = true := by
  unfold wvalid wbad at h
  simp at h
  rw [num_iff]
  omega
theorem pO_mem {Q : List W} {w : W} (h : w ∈ pO Q) : w ∈ Q ∧ w.op ≠ 70 := by
  unfold pO at h
  rw [List.mem_filter] at h
  simpa using h
theorem srt_map {sz : Int} {C : List K} {f : K → K} (h : Srt sz C) (ht : ∀ c, (f c).task = c.task) (hf : ∀ c ∈ C, ((f c).log.length : Int) ≤ sz ∧ (f c).log.all num = true) : Srt sz (C.map f) := by
  refine ⟨?_, ?_⟩
  · rw [List.pairwise_map]
    exact h.pw.imp (fun {a b} hab => by rw [ht, ht]; exact hab)
  · intro c hc
    obtain ⟨c0, hc0, rfl⟩ := List.mem_map.1 hc
    have := h.el c0 hc0
    rw [ht]
    exact ⟨this.1, this.2.1, hf c0 hc0⟩
theorem pubK_task (Q : List W) (v : Int) (c : K) : (pubK Q v c).task = c.task := by
  unfold pubK; split <;> rfl
theorem Gd0.step {sz : Int} {Q A B : List W} {C : List K} {w : W} (h : Gd0 sz Q C) (hQ : Q = A ++ w :: B) (h68 : w.op = 68) (hf : fl sz C Q = false) : Gd0 sz (pO (A ++ B)) (C.map (pubK (A ++ B) w.value)) := by
  have hfit : fits sz C := fun c hc => (h.srt.el c hc).2.2.1
  have hfs := fits_step hQ h68 hf hfit
  have hwv : num w.value = true := wvalid_num (h.val w (by rw [hQ]; simp))
  have hsub : ∀ x ∈ A ++ B, x ∈ Q := by
    intro x hx
    rw [hQ]
    rw [List.mem_append] at hx
    rcases hx with hx | hx <;> simp [hx]
  refine ⟨srt_map h.srt (pubK_task _ _) ?_, ?_, ?_, ?_, ?_⟩
  · intro c hc
    refine ⟨hfs _ (List.mem_map.2 ⟨c, hc, rfl⟩), ?_⟩
    have := (h.srt.el c hc).2.2.2
    unfold pubK
    split
    · exact this
    · simp only [List.all_append, this, List.all_cons, hwv, List.all_nil, Bool.and_self]
  · intro x hx
    exact h.val x (hsub x (pO_mem hx).1)
  · have h1 := pO_le (A ++ B)
    have h2 := h.len
    rw [hQ] at h2
    simp at h1 h2
    omega
  · exact tks_pO (tks_sub (by rw [← hQ]; exact h.nd))
  · intro x hx
    obtain ⟨hx1, hx2⟩ := pO_mem hx
    obtain ⟨a, b⟩ := h.cs x (hsub x hx1)
    refine ⟨a, ?_⟩
    rcases b with ⟨b, _⟩ | b
    · exact absurd b hx2
    · exact .inr b
theorem pub_none {Q : List W} (h : pub Q < 0) : ¬ ∃ w ∈ Q, w.op = 68 := by
  have := pub_neg (Q := Q)
  rw [decide_eq_true h] at this
  rintro ⟨w, hw, h68⟩
  have h2 : (Q.any fun w => w.op == 68) = true := List.any_eq_true.2 ⟨w, hw, by simpa using h68⟩
  rw [h2] at this
  cases this
theorem advF_gd (sz : Int) : ∀ (n : Nat) (a : Ad), a.Q.length < n → Gd0 sz a.Q a.C → Gd sz (advF sz n a).Q (advF sz n a).C
  | 0, a, hn, _ => by omega
  | n + 1, a, hn, h => by
    unfold advF
    by_cases hc : pub a.Q < 0 ∨ fl sz a.C a.Q = true
    · rw [if_pos hc]
      refine ⟨h, ?_⟩
      intro he
      rcases hc with hc | hc
      · exact absurd he (pub_none hc)
      · exact hc
    · rw [if_neg hc]
      rcases pub_spec a.Q with ⟨h1, _⟩ | ⟨A, B, w, hQ, hp, h68⟩
      · exact absurd (.inl (by omega)) hc
      · have e : ((A.length : Int)).toNat = A.length := by omega
        have hg : a.Q[(pub a.Q).toNat]? = some w := by rw [hp, e, hQ]; simp
        have e1 : Q1 a.Q = A ++ B := by rw [hQ]; exact Q1_eq (by rw [← hQ]; exact hp)
        have hf : fl sz a.C a.Q = false := by
          cases h : fl sz a.C a.Q
          · rfl
          · exact absurd (.inr h) hc
        rw [hg]
        simp only
        refine advF_gd sz n _ ?_ ?_
        · simp only [Ad.step, e1]
          have h1 := pO_le (A ++ B)
          have h2 : a.Q.length = A.length + (B.length + 1) := by rw [hQ]; simp
          simp at h1
          omega
        · simp only [Ad.step, e1]
          exact h.step hQ h68 hf
theorem adv_gd {sz : Int} {qn : Bool} {Q : List W} {C : List K} (h : Gd0 sz Q C) : Gd sz (adv sz qn Q C).Q (adv sz qn Q C).C := advF_gd sz _ _ (by simp) h
theorem wts_mem {Q : List W} {t op : Int} : wts Q t op = true ↔ ∃ w ∈ Q, w.task = t ∧ w.op = op := by
  unfold wts
  rw [List.any_eq_true]
  simp
theorem fl_mono {sz : Int} {C C' : List K} {Q Q' : List W} (h : fl sz C Q = true) (hC : ∀ c ∈ C, c ∈ C') (hQ : ∀ w ∈ Q', w.op = 70 → w ∈ Q ∨ ∀ c ∈ C, c.task ≠ w.task) : fl sz C' Q' = true := by
  unfold fl at *
  rw [List.any_eq_true] at *
  obtain ⟨c, hc, h1⟩ := h
  refine ⟨c, hC c hc, ?_⟩
  simp only [Bool.and_eq_true, Bool.not_eq_true'] at h1 ⊢
  refine ⟨h1.1, ?_⟩
  cases hw : wts Q' c.task 70
  · rfl
  · exfalso
    obtain ⟨w, hwm, ht, ho⟩ := wts_mem.1 hw
    rcases hQ w hwm ho with h2 | h2
    · have : wts Q c.task 70 = true := wts_mem.2 ⟨w, h2, ht, ho⟩
      rw [h1.2] at this
      cases this
    · exact h2 c hc ht.symm
theorem kfd_task {C : List K} {t : Int} {c : K} (h : kfd C t = some c) : c.task = t := by
  have := List.find?_some h
  simpa using this
theorem Srt.uniq {sz : Int} {C : List K} (h : Srt sz C) {a b : K} (ha : a ∈ C) (hb : b ∈ C) (e : a.task = b.task) : a = b := by
  have hp := h.pw
  induction C with
  | nil => cases ha
  | cons x C ih =>
    rw [List.pairwise_cons] at hp
    rcases List.mem_cons.1 ha with ha | ha
    · rcases List.mem_cons.1 hb with hb | hb
      · rw [ha, hb]
      · have := hp.1 b hb
        rw [ha] at e
        omega
    · rcases List.mem_cons.1 hb with hb | hb
      · have := hp.1 a ha
        rw [hb] at e
        omega
      · exact ih ⟨hp.2, fun c hc => h.el c (by simp [hc])⟩ ha hb hp.2
theorem Srt.kfd {sz : Int} {C : List K} (h : Srt sz C) {c : K} (hc : c ∈ C) : kfd C c.task = some c := by
  cases hk : Tp.kfd C c.task with
  | none =>
    unfold Tp.kfd at hk
    rw [List.find?_eq_none] at hk
    have := hk c hc
    simp at this
  | some d => rw [h.uniq (kfd_mem hk) hc (kfd_task hk)]
theorem kfd_some_iff {sz : Int} {C : List K} (h : Srt sz C) {t : Int} {c : K} : Tp.kfd C t = some c ↔ c ∈ C ∧ c.task = t := by
  constructor
  · intro hk; exact ⟨kfd_mem hk, kfd_task hk⟩
  · rintro ⟨h1, rfl⟩; exact h.kfd h1
theorem n70_iff {sz : Int} {C : List K} (h : Srt sz C) {w : W} : n70 C w = true ↔ (∃ c ∈ C, c.task = w.task ∧ c.log = []) ∧ w.value = 0 := by
  unfold n70
  cases hk : Tp.kfd C w.task with
  | none =>
    simp
    rintro c hc ht
    exfalso
    rw [← ht, h.kfd hc] at hk
    cases hk
  | some c =>
    have e : (!decide (0 < c.log.length) && w.value == 0) = true ↔ c.log = [] ∧ w.value = 0 := by simp
    simp only [e]
    constructor
    · rintro ⟨a, b⟩; exact ⟨⟨c, kfd_mem hk, kfd_task hk, a⟩, b⟩
    · rintro ⟨⟨d, hd, ht, hl⟩, b⟩
      refine ⟨?_, b⟩
      have : Tp.kfd C w.task = some d := (kfd_some_iff h).2 ⟨hd, ht⟩
      rw [hk] at this
      cases this
      exact hl
end Go.VS.Tp
namespace Go.VS.Tp
theorem ckd_iff {k sz ot : Int} {s : S} : ckd k sz ot s = 0 ↔ mnew k sz ot = 0 ∧ s.own = -1 ∧ s.fl0 = false ∧ Gd sz s.Q s.C := by
  constructor
  · intro h
    obtain ⟨a, b⟩ := ckd_good h
    exact ⟨a, good_iff.1 b⟩
  · rintro ⟨a, b⟩
    unfold ckd
    rw [if_pos a, if_pos (good_iff.2 b)]
/-- another queue, other subscribers -/
theorem ckd_put {k sz ot : Int} {s : S} {qn cn : Bool} {Q : List W} {C : List K} (h : ckd k sz ot s = 0) (hg : Gd sz Q C) : ckd k sz ot { s with qn := qn, Q := Q, cn := cn, C := C } = 0 := by
  rw [ckd_iff] at *
  exact ⟨h.1, h.2.1, h.2.2.1, hg⟩
theorem Gd0.flt {sz : Int} {Q : List W} {C : List K} (h : Gd0 sz Q C) (p : W → Bool) : Gd0 sz (Q.filter p) C :=
  ⟨h.srt, fun w hw => h.val w (List.mem_filter.1 hw).1, by have := List.length_filter_le p Q; have := h.len; omega, h.nd.sublist (List.filter_sublist.map _), fun w hw => h.cs w (List.mem_filter.1 hw).1⟩
theorem Gd0.snoc {sz : Int} {Q : List W} {C : List K} (h : Gd0 sz Q C) {w : W} (hv : wvalid w = true) (hl : Q.length ≤ 95) (ht : ∀ x ∈ Q, x.task ≠ w.task) (hc : w.case = -1 ∧ (w.op = 70 ∧ n70 C w = true ∨ w.op = 68)) : Gd0 sz (Q ++ [w]) C := by
  refine ⟨h.srt, ?_, by simp; omega, nodup_snoc h.nd ht, ?_⟩
  · intro x hx
    rw [List.mem_append, List.mem_singleton] at hx
    rcases hx with hx | rfl
    · exact h.val x hx
    · exact hv
  · intro x hx
    rw [List.mem_append, List.mem_singleton] at hx
    rcases hx with hx | rfl
    · exact h.cs x hx
    · exact hc
/-- other subscribers, where those who wait to read keep theirs -/
theorem Gd0.subs {sz : Int} {Q : List W} {C C' : List K} (h : Gd0 sz Q C) (hs : Srt sz C') (hm : ∀ w ∈ Q, ∀ c ∈ C, c.task = w.task → c ∈ C') : Gd0 sz Q C' := by
  refine ⟨hs, h.val, h.len, h.nd, ?_⟩
  intro w hw
  obtain ⟨a, b⟩ := h.cs w hw
  refine ⟨a, ?_⟩
  rcases b with ⟨b, hn⟩ | b
  · refine .inl ⟨b, ?_⟩
    obtain ⟨⟨c, hc, ht, hl⟩, hv⟩ := (n70_iff h.srt).1 hn
    exact (n70_iff hs).2 ⟨⟨c, hm w hw c hc ht, ht, hl⟩, hv⟩
  · exact .inr b
theorem srt_sub {sz : Int} {C C' : List K} (h : Srt sz C) (hs : C'.Sublist C) : Srt sz C' := ⟨h.pw.sublist hs, fun c hc => h.el c (hs.subset hc)⟩
theorem srt_set {sz : Int} {A B : List K} {c d : K} (h : Srt sz (A ++ c :: B)) (ht : d.task = c.task) (hd : (d.log.length : Int) ≤ sz ∧ d.log.all num = true) : Srt sz (A ++ d :: B) := by
  have hpw := h.pw
  rw [List.pairwise_append, List.pairwise_cons] at hpw
  refine ⟨?_, ?_⟩
  · rw [List.pairwise_append, List.pairwise_cons]
    refine ⟨hpw.1, ⟨fun x hx => by rw [ht]; exact hpw.2.1.1 x hx, hpw.2.1.2⟩, ?_⟩
    intro a ha b hb
    rcases List.mem_cons.1 hb with rfl | hb
    · rw [ht]; exact hpw.2.2 a ha c (by simp)
    · exact hpw.2.2 a ha b (by simp [hb])
  · intro x hx
    rw [List.mem_append, List.mem_cons] at hx
    rcases hx with hx | rfl | hx
    · exact h.el x (by simp [hx])
    · have := h.el c (by simp)
      rw [ht]
      exact ⟨this.1, this.2.1, hd⟩
    · exact h.el x (by simp [hx])
theorem fnd_neg {C : List K} {t : Int} (h : ¬ 0 ≤ fnd C t) : ∀ c ∈ C, c.task ≠ t := by
  rcases fnd_spec C t with ⟨_, h2⟩ | ⟨i, c, h1, _, _⟩
  · unfold kfd at h2
    rw [List.find?_eq_none] at h2
    intro c hc e
    exact h2 c hc (by simpa using e)
  · exact absurd (by omega) h
theorem srt_subC {sz : Int} {C : List K} {t : Int} (h : Srt sz C) (hz : 0 ≤ sz) (ht : 0 ≤ t ∧ t < 16) (hn : ∀ c ∈ C, c.task ≠ t) : Srt sz (subC C t) := by
  have hsp : C.take (subN C t) = C.takeWhile (fun c => decide (c.task < t)) ∧ C.drop (subN C t) = C.dropWhile (fun c => decide (c.task < t)) := by
    have e := List.takeWhile_append_dropWhile (p := fun c : K => decide (c.task < t)) (l := C)
    constructor
    · conv => lhs; arg 2; rw [← e]
      exact List.take_left' rfl
    · conv => lhs; arg 2; rw [← e]
      exact List.drop_left' rfl
  have hA : ∀ a ∈ C.take (subN C t), a.task < t := by
    rw [hsp.1]
    intro a ha
    have := List.all_eq_true.1 (List.all_takeWhile (p := fun c : K => decide (c.task < t)) (l := C)) a ha
    simpa using this
  have hB : ∀ b ∈ C.drop (subN C t), t < b.task := by
    rw [hsp.2]
    intro b hb
    cases hd : C.dropWhile (fun c => decide (c.task < t)) with
    | nil => rw [hd] at hb; cases hb
    | cons d D =>
      have hdt : ¬ d.task < t := by
        have := List.head?_dropWhile_not (fun c : K => decide (c.task < t)) C
        rw [hd] at this
        simpa using this
      have hpd : (d :: D).Pairwise (fun a b => a.task < b.task) := by
        rw [← hd]
        exact h.pw.sublist (List.dropWhile_sublist _)
      have hdm : d ∈ C := (List.dropWhile_sublist (fun c : K => decide (c.task < t))).subset (by rw [hd]; simp)
      have hdn := hn d hdm
      rw [hd] at hb
      rcases List.mem_cons.1 hb with rfl | hb
      · omega
      · rw [List.pairwise_cons] at hpd
        have := hpd.1 b hb
        omega
  unfold subC
  have hpw := h.pw
  rw [← List.take_append_drop (subN C t) C, List.pairwise_append] at hpw
  refine ⟨?_, ?_⟩
  · rw [List.pairwise_append, List.pairwise_cons]
    refine ⟨hpw.1, ⟨hB, hpw.2.1⟩, ?_⟩
    intro a ha b hb
    rcases List.mem_cons.1 hb with rfl | hb
    · exact hA a ha
    · exact hpw.2.2 a ha b hb
  · intro x hx
    rw [List.mem_append, List.mem_cons] at hx
    rcases hx with hx | rfl | hx
    · exact h.el x (List.mem_of_mem_take hx)
    · exact ⟨ht.1, ht.2, by simpa using hz, by simp⟩
    · exact h.el x (List.mem_of_mem_drop hx)
theorem subC_sup {C : List K} {t : Int} {c : K} (h : c ∈ C) : c ∈ subC C t := by
  unfold subC
  rw [← List.take_append_drop (subN C t) C, List.mem_append] at h
  rw [List.mem_append, List.mem_cons]
  rcases h with h | h
  · exact .inl h
  · exact .inr (.inr h)
theorem mnew_sz {k sz ot : Int} (h : mnew k sz ot = 0) : 0 ≤ sz ∧ sz ≤ 100 := by
  unfold mnew at h
  split at h
  · cases h
  · split at h
    · cases h
    · rename_i h2
      simp at h2
      omega
theorem cbad_task {t p n : Int} (h : cbad t p n = false) : 0 ≤ t ∧ t < 16 := by
  unfold cbad at h
  simp at h
  omega
theorem callE_sub {s : S} {t v p n : Int} (h : callE s t 69 v p n = 0) : ∀ c ∈ s.C, c.task ≠ t := by
  apply fnd_neg
  intro hk
  unfold callE at h
  split at h
  · cases h
  · split at h
    · cases h
    · split at h
      · cases h
      · split at h
        · cases h
        · split at h
          · cases h
          · rename_i h5
            simp at h5
            omega
/-- what Apply returns is a state -/
theorem ap_good {k sz ot : Int} {s : S} {t op v p n : Int} (hc : ckd k sz ot s = 0) (he : callE s t op v p n = 0) (hq : s.Q.length ≤ 90) : ckd k sz ot (ap k sz ot s t op v p n).1.st = 0 := by
  obtain ⟨hm, _, _, hg, hfu⟩ := ckd_iff.1 hc
  have hfr := callE_free he
  have hcb := callE_cbad he
  unfold ap
  simp only [hc, he, ne_eq, not_true, if_false]
  by_cases h69 : op = 69
  · subst h69
    simp only [if_true]
    have hnt := callE_sub he
    refine ckd_put hc ⟨hg.subs (srt_subC hg.srt (mnew_sz hm).1 (cbad_task hcb) hnt) (fun w _ c hc _ => subC_sup hc), ?_⟩
    intro h
    exact fl_mono (hfu h) (fun c hc => subC_sup hc) (fun w hw _ => .inl hw)
  · simp only [h69, if_false]
    by_cases h71 : op = 71
    · subst h71
      simp only [if_true]
      obtain ⟨A, c, B, hS, hfe, _⟩ := find_split (callE_find he (.inl rfl))
      have hdel : del s.C t = A ++ B := by
        have eN : ((A.length : Int)).toNat = A.length := by omega
        unfold del
        rw [hfe, eN, hS, List.eraseIdx_append_of_length_le (by omega)]
        simp
      have hct : c.task = t := by
        rename_i hk
        exact kfd_task hk
      rw [hdel]
      refine ckd_put hc (adv_gd (hg.subs (srt_sub hg.srt (by rw [hS]; exact List.Sublist.append (List.Sublist.refl A) (List.sublist_cons_self c B))) ?_))
      intro w hw d hd hdt
      rw [hS, List.mem_append, List.mem_cons] at hd
      rw [List.mem_append]
      rcases hd with hd | rfl | hd
      · exact .inl hd
      · exact absurd (hdt.symm.trans hct) (hfr w hw)
      · exact .inr hd
    · simp only [h71, if_false]
      by_cases h68 : op = 68
      · subst h68
        simp only [if_true]
        have hwv := wOK (v := v) (op := 68) hcb (by omega) (callE_num he)
        cases hbf : (busy s.Q || fl sz s.C s.Q)
        · simp only [Bool.false_eq_true, if_false]
          have hb : busy s.Q = false ∧ fl sz s.C s.Q = false := by simpa using hbf
          have hno : ∀ w ∈ s.Q, w.op = 70 := by
            intro w hw
            rcases (hg.cs w hw).2 with ⟨h, _⟩ | h
            · exact h
            · exfalso
              have : busy s.Q = true := List.any_eq_true.2 ⟨w, hw, by simpa using h⟩
              rw [hb.1] at this
              cases this
          have hpo : pO s.Q = [] := by
            unfold pO
            rw [List.filter_eq_nil_iff]
            intro w hw
            simp [hno w hw]
          rw [hpo]
          refine ckd_put hc ⟨⟨srt_map hg.srt (pubK_task _ _) ?_, by simp, by simp, by simp [tks], by simp⟩, by simp⟩
          intro c hcm
          have h1 := hg.srt.el c hcm
          unfold pubK
          cases hw : wts s.Q c.task 70
          · have h2 : ((c.log.length : Int) == sz && !wts s.Q c.task 70) = false := by
              have := hb.2
              unfold fl at this
              rw [List.any_eq_false] at this
              simpa using this c hcm
            rw [hw] at h2
            simp at h2
            simp only [Bool.false_eq_true, if_false, List.length_append, List.length_singleton, List.all_append, h1.2.2.2, List.all_cons, callE_num he, List.all_nil, Bool.and_self, and_true]
            omega
          · simp only [if_true]
            exact ⟨h1.2.2.1, h1.2.2.2⟩
        · simp only [if_true]
          refine ckd_put (cn := s.cn) (C := s.C) hc ⟨hg.snoc hwv (by omega) hfr ⟨rfl, .inr rfl⟩, ?_⟩
          intro _
          have hfl : fl sz s.C s.Q = true := by
            cases hf : fl sz s.C s.Q
            · rw [hf] at hbf
              simp at hbf
              have : busy s.Q = true := hbf
              unfold busy at this
              obtain ⟨w, hw, h68⟩ := List.any_eq_true.1 this
              have := hfu ⟨w, hw, by simpa using h68⟩
              rw [hf] at this
              exact this
            · rfl
          refine fl_mono hfl (fun c hc => hc) ?_
          intro w hw ho
          rw [List.mem_append, List.mem_singleton] at hw
          rcases hw with hw | rfl
          · exact .inl hw
          · cases ho
      · have h70 : op = 70 := by have := callE_op he; omega
        subst h70
        simp only [h68, if_false]
        obtain ⟨A, c, B, hS, hfe, hk⟩ := find_split (callE_find he (.inr rfl))
        have hct := kfd_task hk
        have eN : ((A.length : Int)).toNat = A.length := by omega
        have hcm : c ∈ s.C := kfd_mem hk
        rw [hk]
        simp only
        have h1 := hg.srt.el c hcm
        cases hlg : c.log with
        | cons x lg =>
          simp only
          have e2 : s.C.set (fnd s.C t).toNat ⟨c.task, false, lg⟩ = A ++ ⟨c.task, false, lg⟩ :: B := by rw [hfe, eN, hS]; exact set_split
          rw [e2]
          rw [hlg] at h1
          refine ckd_put hc (adv_gd (hg.subs (srt_set (c := c) (by rw [← hS]; exact hg.srt) rfl ?_) ?_))
          · have h2 := h1.2.2.1
            have h3 := h1.2.2.2
            simp at h2 h3 ⊢
            exact ⟨by omega, h3.2⟩
          · intro w hw d hd hdt
            rw [hS, List.mem_append, List.mem_cons] at hd
            rw [List.mem_append, List.mem_cons]
            rcases hd with hd | rfl | hd
            · exact .inl hd
            · exact absurd (hdt.symm.trans hct) (hfr w hw)
            · exact .inr (.inr hd)
        | nil =>
          simp only
          have hwv := wOK (v := 0) (op := 70) hcb (by omega) rfl
          have hn : n70 s.C (W.mk t 70 0 p (-1)) = true := (n70_iff hg.srt).2 ⟨⟨c, hcm, hct, hlg⟩, rfl⟩
          have hG := adv_gd (qn := false) (hg.snoc hwv (by omega) hfr ⟨rfl, .inl ⟨rfl, hn⟩⟩)
          cases got (adv sz false (s.Q ++ [W.mk t 70 0 p (-1)]) s.C).wn t with
          | none => exact ckd_put hc hG
          | some y => exact ckd_put hc hG
theorem wd_good {k sz ot : Int} {s : S} {t : Int} (hc : ckd k sz ot s = 0) (h0 : (wd k sz ot s t).2 = 0) : ckd k sz ot (wd k sz ot s t).1.st = 0 := by
  obtain ⟨hm, _, _, hg, hfu⟩ := ckd_iff.1 hc
  unfold wd at h0 ⊢
  simp only [hc, ne_eq, not_true, if_false] at h0 ⊢
  cases ha : (s.Q.any fun w => w.task == t)
  · rw [ha] at h0
    simp at h0
  · simp only [Bool.true_eq_false, if_false]
    exact ckd_put hc (adv_gd (hg.flt _))
end Go.VS.Tp
namespace Go.VS.Tp
/-! the law Valid -/
theorem ev_ValidC1 (a b c d e : Int) : ev P (.call nurserylaw23_TopicValidC1 [.d (.ag [I' a, I' b, I' c, I' d, I' e])] []) = some (.val (.d (.b (b == 68))) []) := by
  rw [ev_call P_nurserylaw23_TopicValidC1 rfl]
  simp [F_nurserylaw23_TopicValidC1]
theorem ev_busyV (nl : Bool) (l : List W) (hn : l.length ≤ 1000000) :
    ev P (.call slices_ContainsFunc_api_Waiter_api_Waiter [.d (qD nl l), .d (.fn nurserylaw23_TopicValidC1 [] [])] []) = some (.val (.d (.b (busy l))) []) := by
  have h := ev_ContainsFunc (f := nurserylaw23_TopicValidC1) (first := []) (caps := []) (p := fun w => w.op == 68) nl l hn (by intro a b c d e; simp [ev_ValidC1])
  exact h
theorem lag_of {sz : Int} {C : List K} (h : Srt sz C) {c : K} (hc : c ∈ C) : lag C c.task = ((c.log.length : Int), 0) := by
  unfold lag
  rw [h.kfd hc]
theorem loop_V0 (o : List D) (x0 x1 x3 : D) (sz : Int) (ho : o = [x0, x1, I' sz, x3]) (e f n i : Int) (rows : D) (r : Rp) (hs : Srt sz r.st.C) (hn : r.st.C.length ≤ 1000000) : ∀ (suf pre : List K), r.st.C = pre ++ suf →
    ev P (.loop 0 [4, 10, 12, 14, 39, 40, 41, 74, 75, 76] F_nurserylaw23_TopicValid_L0 [(4, .d (.ref o)), (10, .d (I' e)), (12, .d (I' f)), (14, .d (.ref r.row)), (39, .d rows), (40, .d (I' n)), (41, .d (I' i)), (74, .d (cD r.st.cn r.st.C)), (75, .d (I' r.st.C.length)), (76, .d (I' pre.length))] []) =
      some (.out (.exit 2) [(4, .d (.ref o)), (10, .d (I' e)), (12, .d (I' f)), (39, .d rows), (40, .d (I' n)), (41, .d (I' i))] []) := by
  intro suf
  induction suf with
  | nil =>
    intro pre hl
    have : r.st.C.length = pre.length := by simp [hl]
    rw [ev_loop]
    conv => lhs; arg 4; unfold F_nurserylaw23_TopicValid_L0
    simp [this]
  | cons c suf ih =>
    intro pre hl
    have hg : r.st.C[pre.length]? = some c := by simp [hl]
    have hlt2 : pre.length < r.st.C.length := by simp [hl]
    have hgg : r.st.C[pre.length] = c := by simpa [List.getElem?_eq_getElem hlt2] using hg
    have hlt : (pre.length : Int) < r.st.C.length := by omega
    have hnext : IntKind.i64.wrap ((pre.length : Int) + 1) = pre.length + 1 := wrap_i64 (by omega) (by omega)
    have ih' := ih (pre ++ [c]) (by simp [hl])
    have hcm : c ∈ r.st.C := by rw [hl]; simp
    have hL := ev_mLag (I' r.st.own) (I' r.st.cnt) (I' r.st.time) (hD r.st.hn r.st.H) (qD r.st.qn r.st.Q) (hD r.st.bn r.st.B) (.b r.st.cl) (I' r.st.val) r.st.cn r.st.C c.task hn
    rw [lag_of hs hcm] at hL
    have hle : ¬ (sz < (c.log.length : Int)) := by have := (hs.el c hcm).2.2.1; omega
    subst ho
    simp at ih'
    rw [ev_loop]
    conv => lhs; arg 4; unfold F_nurserylaw23_TopicValid_L0
    simp [hlt, hlt2, hgg, K.row, hL, hle, hnext]
    exact ih'
theorem V1_step (nm : D) (k sz ot : Int) (a b x : Rp) (e f y : Int) (i : Nat) (hi : i < 2) (hx : [a.row, b.row][i]? = some x.row) (hy : [[I' e], [I' f]][i]? = some [I' y])
    (hok : y = 0 → ckd k sz ot x.st = 0) (hw : x.st.sm) :
    ev P (.loop 0 [4, 10, 12, 39, 40, 41] F_nurserylaw23_TopicValid_L1 [(4, .d (.ref [nm, I' k, I' sz, I' ot])), (10, .d (I' e)), (12, .d (I' f)), (39, .d (.sl 13 false [a.row, b.row])), (40, .d (I' 2)), (41, .d (I' i))] []) =
      ev P (.loop 0 [4, 10, 12, 39, 40, 41] F_nurserylaw23_TopicValid_L1 [(4, .d (.ref [nm, I' k, I' sz, I' ot])), (10, .d (I' e)), (12, .d (I' f)), (39, .d (.sl 13 false [a.row, b.row])), (40, .d (I' 2)), (41, .d (I' (i + 1 : Nat)))] []) := by
  have hlt : (i : Int) < 2 := by omega
  have hnext : IntKind.i64.wrap ((i : Int) + 1) = i + 1 := wrap_i64 (by omega) (by omega)
  refine eqv fun R hR => ?_
  rw [ev_loop]
  conv => lhs; arg 4; unfold F_nurserylaw23_TopicValid_L1
  simp at hR
  have hlen : [a.row, b.row].length = 2 := rfl
  generalize [a.row, b.row] = rows at *
  generalize hes : [[I' e], [I' f]] = es at *
  have hel : es.length = 2 := by rw [← hes]; rfl
  have hxg : rows[i]'(by omega) = x.row := by simpa [List.getElem?_eq_getElem (show i < rows.length by omega)] using hx
  have hyg : es[i]'(by omega) = [I' y] := by simpa [List.getElem?_eq_getElem (show i < es.length by omega)] using hy
  by_cases h0 : y = 0
  · subst h0
    have hck := hok rfl
    obtain ⟨hm, _, _, hg, hfu⟩ := ckd_iff.1 hck
    have hC := ev_mCheck nm k sz ot x.st hw
    rw [hck] at hC
    have hB := ev_busyV x.st.qn x.st.Q hw.q
    have hF := ev_rFull sz nm (I' k) (I' ot) (I' x.st.own) (I' x.st.cnt) (I' x.st.time) (hD x.st.hn x.st.H) (hD x.st.bn x.st.B) (.b x.st.cl) (I' x.st.val) x.st.qn x.st.Q x.st.cn x.st.C hw.q hw.c
    have hL := loop_V0 [nm, I' k, I' sz, I' ot] nm (I' k) (I' ot) sz rfl e f 2 i (.sl 13 false rows) x hg.srt hw.c x.st.C [] rfl
    simp at hL
    rw [rfl_eq (fun c hc => (hg.srt.el c hc).2.2.1)] at hF
    cases hbu : busy x.st.Q
    · rw [hbu] at hB
      simp [hlt, hlen, hel, hxg, hyg, Rp.row, hes, hi, hB, hC, hL, hnext, hR]
      done
    · rw [hbu] at hB
      have hfl : fl sz x.st.C x.st.Q = true := by
        unfold busy at hbu
        obtain ⟨w, hwm, h68⟩ := List.any_eq_true.1 hbu
        exact hfu ⟨w, hwm, by simpa using h68⟩
      rw [hfl] at hF
      simp [hlt, hlen, hel, hxg, hyg, Rp.row, hes, hi, hB, hC, hF, hL, hnext, hR]
      done
  · have h1 : (y != 0) = true := by simpa using h0
    simp [hlt, hlen, hel, hxg, hyg, Rp.row, hes, hi, h1, hnext, hR]
    done
theorem law_Valid (nm : D) (k sz ot : Int) (s : S) (hi : s.inp) (t op v p n tk : Int) :
    ev P (.call nurserylaw23_TopicValid [.d (.ag [nm, I' k, I' sz, I' ot]), .d (.ag s.row), .d (.ag [I' t, I' op, I' v, I' p, I' n]), .d (I' tk)] []) = some (.val (.d (.b true)) []) := by
  have hG := ev_Great s
  rw [ev_call P_nurserylaw23_TopicValid rfl]
  cases hg : greatB s
  · rw [hg] at hG
    have hw := great_wfn hg hi.l hi.qn hi.cn
    have hwf := hw.wf (by omega) (by omega) (by omega)
    have hA := ev_apply nm k sz ot s hwf t op v p n
    have hB := ev_withdraw nm k sz ot s hwf tk
    have zA := (ap_wfn (k := k) (sz := sz) (ot := ot) (t := t) (op := op) (v := v) (p := p) (n := n) hw).1.wf (by omega) (by omega) (by omega)
    have zB := (wd_wfn (k := k) (sz := sz) (ot := ot) (t := tk) hw).1.wf (by omega) (by omega) (by omega)
    have okA : (ap k sz ot s t op v p n).2 = 0 → ckd k sz ot (ap k sz ot s t op v p n).1.st = 0 := by
      intro h
      have hc : ckd k sz ot s = 0 := by
        cases hd : decide (ckd k sz ot s = 0)
        · have hd2 : ckd k sz ot s ≠ 0 := by simpa using hd
          unfold ap at h
          rw [if_pos hd2] at h
          cases h
        · simpa using hd
      have he : callE s t op v p n = 0 := by
        cases hd : decide (callE s t op v p n = 0)
        · have hd2 : callE s t op v p n ≠ 0 := by simpa using hd
          unfold ap at h
          rw [if_neg (by simpa using hc), if_pos hd2] at h
          exact absurd h hd2
        · simpa using hd
      exact ap_good hc he (by have := hw.q; omega)
    have okB : (wd k sz ot s tk).2 = 0 → ckd k sz ot (wd k sz ot s tk).1.st = 0 := by
      intro h
      have hc : ckd k sz ot s = 0 := by
        cases hd : decide (ckd k sz ot s = 0)
        · have hd2 : ckd k sz ot s ≠ 0 := by simpa using hd
          unfold wd at h
          rw [if_pos hd2] at h
          cases h
        · simpa using hd
      exact wd_good hc h
    generalize (ap k sz ot s t op v p n).2 = ae at *
    generalize (ap k sz ot s t op v p n).1 = ar at *
    generalize (wd k sz ot s tk).2 = be at *
    generalize (wd k sz ot s tk).1 = br at *
    have s0 := V1_step nm k sz ot ar br ar ae be ae 0 (by omega) rfl rfl okA zA.sm
    have s1 := V1_step nm k sz ot ar br br ae be be 1 (by omega) rfl rfl okB zB.sm
    have s2 : ev P (.loop 0 [4, 10, 12, 39, 40, 41] F_nurserylaw23_TopicValid_L1 [(4, .d (.ref [nm, I' k, I' sz, I' ot])), (10, .d (I' ae)), (12, .d (I' be)), (39, .d (.sl 13 false [ar.row, br.row])), (40, .d (I' 2)), (41, .d (I' (2 : Nat)))] []) = some (.out (.exit 0) [] []) := by
      rw [ev_loop]
      conv => lhs; arg 4; unfold F_nurserylaw23_TopicValid_L1
      simp
    have hL := (s0.trans s1).trans s2
    simp [Rp.row] at hL
    simp [F_nurserylaw23_TopicValid, hG, hA, hB, hL, ev_awake]
    done
  · rw [hg] at hG
    simp [F_nurserylaw23_TopicValid, hG, ev_awake]
end Go.VS.Tp
namespace Go.VS.Tp
/-! the law Undo -/
theorem adv_noop {sz : Int} {qn : Bool} {Q : List W} {C : List K} (h : pub Q < 0 ∨ fl sz C Q = true) : adv sz qn Q C = ⟨qn, Q, C, []⟩ := by
  unfold adv advF
  simp only
  rw [if_pos h]
theorem pub_lt {Q : List W} (h : ¬ ∃ w ∈ Q, w.op = 68) : pub Q < 0 := by
  have := pub_neg (Q := Q)
  have h2 : (Q.any fun w => w.op == 68) = false := by
    rw [List.any_eq_false]
    intro w hw h68
    exact h ⟨w, hw, by simpa using h68⟩
  rw [h2] at this
  simpa using this
theorem Gd.stop {sz : Int} {Q : List W} {C : List K} (h : Gd sz Q C) : pub Q < 0 ∨ fl sz C Q = true := by
  by_cases he : ∃ w ∈ Q, w.op = 68
  · exact .inr (h.2 he)
  · exact .inl (pub_lt he)
theorem Gd.flt {sz : Int} {Q : List W} {C : List K} (h : Gd sz Q C) (p : W → Bool) : Gd sz (Q.filter p) C := by
  refine ⟨h.1.flt p, ?_⟩
  rintro ⟨w, hw, h68⟩
  exact fl_mono (h.2 ⟨w, (List.mem_filter.1 hw).1, h68⟩) (fun c hc => hc) (fun x hx _ => .inl (List.mem_filter.1 hx).1)
theorem advF_wn (sz : Int) : ∀ (n : Nat) (a : Ad), ∀ x ∈ a.wn, x ∈ (advF sz n a).wn
  | 0, _, _, h => h
  | n + 1, a, x, h => by
    unfold advF
    split
    · exact h
    · split
      · exact h
      · apply advF_wn sz n
        simp only [Ad.step, List.mem_append]
        exact .inl h
theorem got_none {l : List Wk} {t : Int} (h : got l t = none) : ∀ w ∈ l, w.task ≠ t := by
  rcases idx_spec (p := fun w : Wk => w.task == t) l 0 with ⟨_, g0⟩ | ⟨i, w, g1, g2, _⟩
  · rw [List.find?_eq_none] at g0
    intro w hw
    simpa using g0 w hw
  · exfalso
    have g1' : fwk l t = (i : Int) := by simpa [fwk] using g1
    have e : ((i : Int)).toNat = i := by omega
    unfold got at h
    rw [g1', if_neg (by omega), e, g2] at h
    cases h
/-- who waits to read, and is not woken, has changed nothing -/
theorem adv_wait {sz : Int} {Q : List W} {C : List K} {w : W} (hw : w ∈ Q) (h70 : w.op = 70) (h : got (adv sz false Q C).wn w.task = none) : adv sz false Q C = ⟨false, Q, C, []⟩ := by
  by_cases hc : pub Q < 0 ∨ fl sz C Q = true
  · exact adv_noop hc
  · exfalso
    rcases pub_spec Q with ⟨h1, _⟩ | ⟨A, B, x, hQ, hp, h68⟩
    · exact hc (.inl (by omega))
    · have e : ((A.length : Int)).toNat = A.length := by omega
      have hg : Q[(pub Q).toNat]? = some x := by rw [hp, e, hQ]; simp
      have e1 : Q1 Q = A ++ B := by rw [hQ]; exact Q1_eq (by rw [← hQ]; exact hp)
      have hwm : w ∈ A ++ B := by
        rw [hQ, List.mem_append, List.mem_cons] at hw
        rw [List.mem_append]
        rcases hw with hw | rfl | hw
        · exact .inl hw
        · rw [h70] at h68; cases h68
        · exact .inr hw
      have hin : (⟨w.task, 70, x.value⟩ : Wk) ∈ (adv sz false Q C).wn := by
        unfold adv advF
        simp only
        rw [if_neg hc, hg]
        simp only
        apply advF_wn
        simp only [Ad.step, e1, List.mem_append, List.mem_cons, List.nil_append]
        right
        unfold pW
        rw [List.mem_map]
        refine ⟨w, List.mem_filter.2 ⟨hwm, by simpa using h70⟩, ?_⟩
        simp [wkOf, h70]
      exact got_none h _ hin rfl
theorem ap_parked {k sz ot : Int} {s : S} {t op v p n : Int} (hc : ckd k sz ot s = 0) (he : callE s t op v p n = 0) (hp : (ap k sz ot s t op v p n).1.parked = true) :
    ∃ w : W, w.task = t ∧ (ap k sz ot s t op v p n).1.st = { s with qn := false, Q := s.Q ++ [w] } ∧ (ap k sz ot s t op v p n).1.wn = [] := by
  unfold ap at hp ⊢
  simp only [hc, he, ne_eq, not_true, if_false] at hp ⊢
  by_cases h69 : op = 69
  · simp [h69] at hp
  · simp only [h69, if_false] at hp ⊢
    by_cases h71 : op = 71
    · simp [h71] at hp
    · simp only [h71, if_false] at hp ⊢
      by_cases h68 : op = 68
      · simp only [h68, if_true] at hp ⊢
        cases hbf : (busy s.Q || fl sz s.C s.Q)
        · rw [hbf] at hp
          simp at hp
        · simp only [if_true]
          exact ⟨_, rfl, rfl, trivial⟩
      · have h70 : op = 70 := by have := callE_op he; omega
        subst h70
        simp only [h68, if_false] at hp ⊢
        cases hk : kfd s.C t with
        | none => rw [hk] at hp; simp [Rp0] at hp
        | some c =>
          rw [hk] at hp
          simp only at hp ⊢
          cases hlg : c.log with
          | cons x lg => rw [hlg] at hp; simp at hp
          | nil =>
            rw [hlg] at hp
            simp only at hp ⊢
            cases hg : got (adv sz false (s.Q ++ [W.mk t 70 0 p (-1)]) s.C).wn t with
            | some y => rw [hg] at hp; simp at hp
            | none =>
              simp only
              have := adv_wait (w := W.mk t 70 0 p (-1)) (by simp) rfl hg
              rw [this]
              exact ⟨_, rfl, rfl, rfl⟩
theorem wd_valid {k sz ot : Int} {s : S} {t : Int} (hc : ckd k sz ot s = 0) (ha : (s.Q.any fun w => w.task == t) = true) :
    wd k sz ot s t = (⟨{ s with qn := decide ((s.Q.filter fun w => w.task != t) = []), Q := s.Q.filter fun w => w.task != t }, false, 0, false, true, []⟩, 0) := by
  obtain ⟨_, _, _, hg⟩ := ckd_iff.1 hc
  unfold wd
  simp only [hc, ne_eq, not_true, if_false, ha, Bool.true_eq_false]
  rw [adv_noop (hg.flt _).stop]
  simp
theorem wd_zero {k sz ot : Int} {s : S} {t : Int} (h : (wd k sz ot s t).2 = 0) : ckd k sz ot s = 0 ∧ (s.Q.any fun w => w.task == t) = true := by
  unfold wd at h
  by_cases hc : ckd k sz ot s = 0
  · simp only [hc, ne_eq, not_true, if_false] at h
    cases ha : (s.Q.any fun w => w.task == t)
    · rw [ha] at h; simp at h
    · exact ⟨hc, rfl⟩
  · simp [hc] at h
theorem ap_zero {k sz ot : Int} {s : S} {t op v p n : Int} (h : (ap k sz ot s t op v p n).2 = 0) : ckd k sz ot s = 0 ∧ callE s t op v p n = 0 := by
  unfold ap at h
  by_cases hc : ckd k sz ot s = 0
  · by_cases he : callE s t op v p n = 0
    · exact ⟨hc, he⟩
    · simp [hc, he] at h
  · simp [hc] at h
theorem flt_one {Q : List W} {t : Int} (h : (tks Q).Nodup) (ha : (Q.any fun w => w.task == t) = true) : (Q.filter fun w => w.task != t).length + 1 = Q.length := by
  obtain ⟨w, hw, ht⟩ := List.any_eq_true.1 ha
  have ht2 : w.task = t := by simpa using ht
  obtain ⟨A, B, rfl⟩ := List.append_of_mem hw
  rw [← ht2, flt_erase h]
  simp
  omega
theorem flt_id {Q : List W} {t : Int} (h : ∀ w ∈ Q, w.task ≠ t) : (Q.filter fun w => w.task != t) = Q := by
  rw [List.filter_eq_self]
  intro w hw
  simpa using h w hw
theorem law_Undo (nm : D) (k sz ot : Int) (s : S) (hi : s.inp) (t op v p n tk : Int) :
    ev P (.call nurserylaw23_TopicUndo [.d (.ag [nm, I' k, I' sz, I' ot]), .d (.ag s.row), .d (.ag [I' t, I' op, I' v, I' p, I' n]), .d (I' tk)] []) = some (.val (.d (.b true)) []) := by
  have hG := ev_Great s
  rw [ev_call P_nurserylaw23_TopicUndo rfl]
  cases hg : greatB s
  · rw [hg] at hG
    have hw := great_wfn hg hi.l hi.qn hi.cn
    have hwf := hw.wf (by omega) (by omega) (by omega)
    have hA := ev_apply nm k sz ot s hwf t op v p n
    have hB := ev_withdraw nm k sz ot s hwf tk
    have zA := (ap_wfn (k := k) (sz := sz) (ot := ot) (t := t) (op := op) (v := v) (p := p) (n := n) hw).1.wf (by omega) (by omega) (by omega)
    have hql := hw.q
    -- the second half
    have hSec : (ap k sz ot s t op v p n).2 = 0 → (ap k sz ot s t op v p n).1.parked = true → (ap k sz ot s t op v p n).1.wn = [] ∧ (wd k sz ot (ap k sz ot s t op v p n).1.st t).2 = 0 ∧ (wd k sz ot (ap k sz ot s t op v p n).1.st t).1.st.same s := by
      intro h0 hp
      obtain ⟨hc, he⟩ := ap_zero h0
      obtain ⟨w, hwt, hst, hwn⟩ := ap_parked hc he hp
      have hgd := ap_good hc he (by omega)
      have hfr := callE_free he
      rw [hst] at hgd ⊢
      have hany : (({ s with qn := false, Q := s.Q ++ [w] } : S).Q.any fun w => w.task == t) = true := List.any_eq_true.2 ⟨w, by simp, by simpa using hwt⟩
      rw [wd_valid hgd hany]
      refine ⟨hwn, rfl, rfl, rfl, rfl, rfl, ?_, rfl, rfl, rfl, rfl⟩
      simp only
      rw [List.filter_append, flt_id hfr]
      simp [hwt]
    have hB2 := ev_withdraw nm k sz ot (ap k sz ot s t op v p n).1.st zA t
    have hS2 : (ap k sz ot s t op v p n).2 = 0 → (ap k sz ot s t op v p n).1.parked = true → ev P (.call nurseryref19_SameState [.d (.ag (wd k sz ot (ap k sz ot s t op v p n).1.st t).1.st.row), .d (.ag s.row)] []) = some (.val (.d (.b true)) []) := by
      intro h0 hp
      have h := (hSec h0 hp).2.2
      refine ev_SameState _ _ h ?_
      have := hwf.sm
      exact ⟨by rw [h.H]; exact this.h, by rw [h.B]; exact this.b, by rw [h.Q]; exact this.q, by rw [h.C]; exact this.c, by rw [h.C]; exact this.l⟩
    have hSec' := hSec
    clear hSec
    by_cases hb0 : (wd k sz ot s tk).2 = 0
    · obtain ⟨hc, ha⟩ := wd_zero hb0
      have hnd := (ckd_iff.1 hc).2.2.2.1.nd
      have hone := flt_one hnd ha
      have hwl : IntKind.i64.wrap ((s.Q.length : Int) - 1) = ((s.Q.filter fun w => w.task != tk).length : Int) := by rw [wrap_i64 (by omega) (by omega)]; omega
      rw [wd_valid hc ha] at hB
      have hZ := ev_SameState s s (S.same.refl s) hwf.sm
      generalize (s.Q.filter fun w => w.task != tk) = Q' at *
      generalize (ap k sz ot s t op v p n).2 = ae at *
      generalize (ap k sz ot s t op v p n).1 = ar at *
      generalize (wd k sz ot ar.st t).2 = be at *
      generalize (wd k sz ot ar.st t).1 = br at *
      by_cases h0 : ae = 0
      · cases hpk : ar.parked
        · simp [F_nurserylaw23_TopicUndo, hG, hA, hB, hZ, hwl, h0, hpk, Rp.row, ev_awake]
          done
        · obtain ⟨k1, k2, _⟩ := hSec' h0 hpk
          have hS2' := hS2 h0 hpk
          simp [F_nurserylaw23_TopicUndo, hG, hA, hB, hB2, hZ, hwl, h0, hpk, k1, k2, hS2', Rp.row, ev_awake]
          done
      · have h1 : (ae != 0) = true := by simpa using h0
        simp [F_nurserylaw23_TopicUndo, hG, hA, hB, hZ, hwl, h1, Rp.row, ev_awake]
        done
    · have hb1 : ((wd k sz ot s tk).2 == 0) = false := by simpa using hb0
      generalize (wd k sz ot s tk).2 = we at *
      generalize (wd k sz ot s tk).1 = wr at *
      generalize (ap k sz ot s t op v p n).2 = ae at *
      generalize (ap k sz ot s t op v p n).1 = ar at *
      generalize (wd k sz ot ar.st t).2 = be at *
      generalize (wd k sz ot ar.st t).1 = br at *
      by_cases h0 : ae = 0
      · cases hpk : ar.parked
        · simp [F_nurserylaw23_TopicUndo, hG, hA, hB, hb1, h0, hpk, Rp.row, ev_awake]
          done
        · obtain ⟨k1, k2, _⟩ := hSec' h0 hpk
          have hS2' := hS2 h0 hpk
          simp [F_nurserylaw23_TopicUndo, hG, hA, hB, hB2, hb1, h0, hpk, k1, k2, hS2', Rp.row, ev_awake]
          done
      · have h1 : (ae != 0) = true := by simpa using h0
        simp [F_nurserylaw23_TopicUndo, hG, hA, hB, hb1, h1, Rp.row, ev_awake]
        done
  · rw [hg] at hG
    simp [F_nurserylaw23_TopicUndo, hG, ev_awake]
end Go.VS.Tp
namespace Go.VS.Tp
/-! Leaves: the plain law -/
def no70 (Q : List W) : Prop := ∀ w ∈ Q, w.op ≠ 70
theorem pO_no70 (Q : List W) : no70 (pO Q) := fun _ hw => (pO_mem hw).2
theorem advF_no70 (sz : Int) : ∀ (n : Nat) (a : Ad), no70 a.Q → no70 (advF sz n a).Q
  | 0, _, h => h
  | n + 1, a, h => by
    unfold advF
    split
    · exact h
    · split
      · exact h
      · exact advF_no70 sz n _ (pO_no70 _)
theorem adv_or (sz : Int) (qn : Bool) (Q : List W) (C : List K) : adv sz qn Q C = ⟨qn, Q, C, []⟩ ∨ no70 (adv sz qn Q C).Q := by
  by_cases hc : pub Q < 0 ∨ fl sz C Q = true
  · exact .inl (adv_noop hc)
  · right
    unfold adv advF
    rw [if_neg hc]
    simp only
    split
    · rename_i hg
      rcases pub_spec Q with ⟨h1, _⟩ | ⟨A, B, x, hQ, hp, h68⟩
      · exact absurd (.inl (by omega)) hc
      · have e : ((A.length : Int)).toNat = A.length := by omega
        rw [hp, e, hQ] at hg
        simp at hg
    · exact advF_no70 sz _ _ (pO_no70 _)
theorem advF_tasks (sz : Int) : ∀ (n : Nat) (a : Ad), (advF sz n a).C.map (·.task) = a.C.map (·.task)
  | 0, _ => rfl
  | n + 1, a => by
    unfold advF
    split
    · rfl
    · split
      · rfl
      · rw [advF_tasks sz n]
        simp only [Ad.step, List.map_map]
        apply List.map_congr_left
        intro c _
        exact pubK_task _ _ c
theorem adv_tasks (sz : Int) (qn : Bool) (Q : List W) (C : List K) : (adv sz qn Q C).C.map (·.task) = C.map (·.task) := advF_tasks sz _ _
theorem advF_Qlen (sz : Int) : ∀ (n : Nat) (a : Ad), (advF sz n a).Q.length ≤ a.Q.length
  | 0, _ => Nat.le_refl _
  | n + 1, a => by
    unfold advF
    split
    · exact Nat.le_refl _
    · split
      · exact Nat.le_refl _
      · refine Nat.le_trans (advF_Qlen sz n _) ?_
        simp only [Ad.step]
        refine Nat.le_trans (pO_le _) ?_
        unfold Q1
        exact (List.eraseIdx_sublist _ _).length_le
/-- who does not wait leaves -/
def lvs (k sz ot : Int) (s : S) (x : Int) : S := if (ap k sz ot s x 71 0 0 0).2 = 0 then (ap k sz ot s x 71 0 0 0).1.st else s
def rnd (k sz ot : Int) : List Int → S → Option S
  | [], s => some s
  | x :: L, s => if wts s.Q x 68 = true then none else rnd k sz ot L (lvs k sz ot s x)
theorem ap71 {k sz ot : Int} {s : S} {x : Int} (hc : ckd k sz ot s = 0) (he : callE s x 71 0 0 0 = 0) : ap k sz ot s x 71 0 0 0 = (⟨s.put (adv sz s.qn s.Q (del s.C x)), false, 0, true, decide ((adv sz s.qn s.Q (del s.C x)).wn = []), (adv sz s.qn s.Q (del s.C x)).wn⟩, 0) := by
  simp [ap, hc, he]
theorem lvs_eq {k sz ot : Int} {s : S} {x : Int} (hc : ckd k sz ot s = 0) : lvs k sz ot s x = if callE s x 71 0 0 0 = 0 then s.put (adv sz s.qn s.Q (del s.C x)) else s := by
  unfold lvs
  by_cases he : callE s x 71 0 0 0 = 0
  · rw [ap71 hc he]
    simp [he]
  · rw [if_neg he, if_neg]
    intro h
    exact he (ap_zero h).2
theorem lvs_good {k sz ot : Int} {s : S} {x : Int} (hc : ckd k sz ot s = 0) (hq : s.Q.length ≤ 90) : ckd k sz ot (lvs k sz ot s x) = 0 ∧ (lvs k sz ot s x).Q.length ≤ 90 := by
  rw [lvs_eq hc]
  by_cases he : callE s x 71 0 0 0 = 0
  · rw [if_pos he]
    have h := ap_good hc he hq
    rw [ap71 hc he] at h
    exact ⟨h, Nat.le_trans (advF_Qlen sz _ _) hq⟩
  · rw [if_neg he]
    exact ⟨hc, hq⟩
/-- why a task cannot leave -/
theorem stay {s : S} {x : Int} (hx : 0 ≤ x ∧ x < 16) (he : callE s x 71 0 0 0 ≠ 0) : (∃ w ∈ s.Q, w.task = x) ∨ ∀ c ∈ s.C, c.task ≠ x := by
  by_cases ha : ∃ w ∈ s.Q, w.task = x
  · exact .inl ha
  · right
    apply fnd_neg
    intro hf
    apply he
    have hb : cbad x 0 0 = false := by unfold cbad; simp; omega
    have ha2 : (s.Q.any fun w => w.task == x) = false := by
      rw [List.any_eq_false]
      intro w hw e
      exact ha ⟨w, hw, by simpa using e⟩
    unfold callE
    simp [hb, ha2, hf]
theorem del_task {sz : Int} {C : List K} {x : Int} (h : Srt sz C) {c : K} (hc : c ∈ del C x) (hf : 0 ≤ fnd C x) : c ∈ C ∧ c.task ≠ x := by
  obtain ⟨A, d, B, hS, hfe, hk⟩ := find_split hf
  have eN : ((A.length : Int)).toNat = A.length := by omega
  have hdel : del C x = A ++ B := by
    unfold del
    rw [hfe, eN, hS, List.eraseIdx_append_of_length_le (by omega)]
    simp
  have hd := kfd_task hk
  rw [hdel] at hc
  have hpw := h.pw
  rw [hS, List.pairwise_append, List.pairwise_cons] at hpw
  rw [List.mem_append] at hc
  rcases hc with hc | hc
  · refine ⟨by rw [hS]; simp [hc], ?_⟩
    have := hpw.2.2 c hc d (by simp)
    omega
  · refine ⟨by rw [hS]; simp [hc], ?_⟩
    have := hpw.2.1.1 c hc
    omega
theorem mem_tasks {C C' : List K} (h : C'.map (·.task) = C.map (·.task)) {c : K} (hc : c ∈ C') : ∃ d ∈ C, d.task = c.task := by
  have : c.task ∈ C'.map (·.task) := List.mem_map.2 ⟨c, hc, rfl⟩
  rw [h] at this
  obtain ⟨d, hd, e⟩ := List.mem_map.1 this
  exact ⟨d, hd, e⟩
/-- one round -/
theorem rnd_inv {k sz ot : Int} {Q0 : List W} : ∀ (L : List Int) (s : S), ckd k sz ot s = 0 → s.Q.length ≤ 90 → (∀ x ∈ L, 0 ≤ x ∧ x < 16) →
    ((no70 s.Q ∧ ∀ c ∈ s.C, c.task ∈ L) ∨ no70 s.Q ∨ (s.Q = Q0 ∧ ∀ c ∈ s.C, c.task ∈ L ∨ wts Q0 c.task 70 = true)) →
    ∀ s', rnd k sz ot L s = some s' → ckd k sz ot s' = 0 ∧ s'.Q.length ≤ 90 ∧
      (((no70 s.Q ∧ ∀ c ∈ s.C, c.task ∈ L) → s'.C = [] ∧ no70 s'.Q) ∧ (no70 s'.Q ∨ (s'.Q = Q0 ∧ ∀ c ∈ s'.C, wts Q0 c.task 70 = true)))
  | [], s, hc, hq, _, hi, s', h => by
    simp [rnd] at h
    subst h
    refine ⟨hc, hq, ?_, ?_⟩
    · rintro ⟨h1, h2⟩
      refine ⟨?_, h1⟩
      cases hC : s.C with
      | nil => rfl
      | cons a l => have := h2 a (by rw [hC]; simp); cases this
    · rcases hi with ⟨h1, _⟩ | h1 | ⟨h1, h2⟩
      · exact .inl h1
      · exact .inl h1
      · exact .inr ⟨h1, fun c hcm => by rcases h2 c hcm with h | h; cases h; exact h⟩
  | x :: L, s, hc, hq, hL, hi, s', h => by
    unfold rnd at h
    cases hw : wts s.Q x 68
    · rw [hw] at h
      simp only [Bool.false_eq_true, if_false] at h
      obtain ⟨g1, g2⟩ := lvs_good (x := x) hc hq
      obtain ⟨_, _, _, hg, _⟩ := ckd_iff.1 hc
      have hx := hL x (by simp)
      have key : ∀ w ∈ s.Q, w.task = x → w.op = 70 := by
        intro w hwm ht
        rcases (hg.cs w hwm).2 with ⟨h70, _⟩ | h68
        · exact h70
        · have : wts s.Q x 68 = true := wts_mem.2 ⟨w, hwm, ht, h68⟩
          rw [hw] at this
          cases this
      -- the step
      have hA : (no70 s.Q ∧ ∀ c ∈ s.C, c.task ∈ x :: L) → (no70 (lvs k sz ot s x).Q ∧ ∀ c ∈ (lvs k sz ot s x).C, c.task ∈ L) := by
        rintro ⟨h1, h2⟩
        rw [lvs_eq hc]
        by_cases he : callE s x 71 0 0 0 = 0
        · rw [if_pos he]
          refine ⟨advF_no70 sz _ _ h1, ?_⟩
          intro c hcm
          obtain ⟨d, hd, e⟩ := mem_tasks (adv_tasks sz s.qn s.Q (del s.C x)) hcm
          obtain ⟨m1, m2⟩ := del_task hg.srt hd (callE_find he (.inl rfl))
          have := h2 d m1
          rw [← e]
          rcases List.mem_cons.1 this with h3 | h3
          · exact absurd h3 m2
          · exact h3
        · rw [if_neg he]
          refine ⟨h1, ?_⟩
          intro c hcm
          rcases List.mem_cons.1 (h2 c hcm) with h3 | h3
          · exfalso
            rcases stay hx he with ⟨w, hwm, ht⟩ | hn
            · exact h1 w hwm (key w hwm ht)
            · exact hn c hcm h3
          · exact h3
      have hB : no70 s.Q → no70 (lvs k sz ot s x).Q := by
        intro h1
        rw [lvs_eq hc]
        by_cases he : callE s x 71 0 0 0 = 0
        · rw [if_pos he]; exact advF_no70 sz _ _ h1
        · rw [if_neg he]; exact h1
      have hC : (s.Q = Q0 ∧ ∀ c ∈ s.C, c.task ∈ x :: L ∨ wts Q0 c.task 70 = true) → no70 (lvs k sz ot s x).Q ∨ ((lvs k sz ot s x).Q = Q0 ∧ ∀ c ∈ (lvs k sz ot s x).C, c.task ∈ L ∨ wts Q0 c.task 70 = true) := by
        rintro ⟨h1, h2⟩
        rw [lvs_eq hc]
        by_cases he : callE s x 71 0 0 0 = 0
        · rw [if_pos he]
          rcases adv_or sz s.qn s.Q (del s.C x) with e | h70
          · right
            rw [e]
            refine ⟨h1, ?_⟩
            intro c hcm
            obtain ⟨m1, m2⟩ := del_task hg.srt hcm (callE_find he (.inl rfl))
            rcases h2 c m1 with h3 | h3
            · rcases List.mem_cons.1 h3 with h4 | h4
              · exact absurd h4 m2
              · exact .inl h4
            · exact .inr h3
          · exact .inl h70
        · rw [if_neg he]
          right
          refine ⟨h1, ?_⟩
          intro c hcm
          rcases h2 c hcm with h3 | h3
          · rcases List.mem_cons.1 h3 with h4 | h4
            · right
              rcases stay hx he with ⟨w, hwm, ht⟩ | hn
              · rw [← h1]
                exact wts_mem.2 ⟨w, hwm, by rw [h4]; exact ht, key w hwm ht⟩
              · exact absurd h4 (hn c hcm)
            · exact .inl h4
          · exact .inr h3
      have hi' : (no70 (lvs k sz ot s x).Q ∧ ∀ c ∈ (lvs k sz ot s x).C, c.task ∈ L) ∨ no70 (lvs k sz ot s x).Q ∨ ((lvs k sz ot s x).Q = Q0 ∧ ∀ c ∈ (lvs k sz ot s x).C, c.task ∈ L ∨ wts Q0 c.task 70 = true) := by
        rcases hi with h1 | h1 | h1
        · exact .inl (hA h1)
        · exact .inr (.inl (hB h1))
        · exact .inr (hC h1)
      obtain ⟨r1, r2, r3, r4⟩ := rnd_inv L _ g1 g2 (fun y hy => hL y (by simp [hy])) hi' s' h
      exact ⟨r1, r2, fun h1 => r3 (hA h1), r4⟩
    · rw [hw] at h
      simp at h
end Go.VS.Tp
namespace Go.VS.Tp
/-! the law Leaves -/
theorem rnd_same {k sz ot : Int} : ∀ (L : List Int) (s s' : S), ckd k sz ot s = 0 → (∀ x ∈ L, ∃ w ∈ s.Q, w.task = x) → rnd k sz ot L s = some s' → s' = s
  | [], s, s', _, _, h => by simp [rnd] at h; exact h.symm
  | x :: L, s, s', hc, hL, h => by
    unfold rnd at h
    have he : callE s x 71 0 0 0 ≠ 0 := by
      intro he
      obtain ⟨w, hw, ht⟩ := hL x (by simp)
      exact callE_free he w hw ht
    rw [lvs_eq hc, if_neg he] at h
    split at h
    · cases h
    · exact rnd_same L s s' hc (fun y hy => hL y (by simp [hy])) h
def tC' (s : S) : List Int := s.C.map (·.task)
theorem busy_iff {Q : List W} : busy Q = true ↔ ∃ w ∈ Q, w.op = 68 := by
  unfold busy
  rw [List.any_eq_true]
  simp
theorem good_full {k sz ot : Int} {s : S} (hc : ckd k sz ot s = 0) (hf : fl sz s.C s.Q = false) : busy s.Q = false := by
  obtain ⟨_, _, _, _, hfu⟩ := ckd_iff.1 hc
  cases hb : busy s.Q
  · rfl
  · have := hfu (busy_iff.1 hb)
    rw [hf] at this
    cases this
theorem tasks_ok {k sz ot : Int} {s : S} (hc : ckd k sz ot s = 0) : ∀ x ∈ tC' s, 0 ≤ x ∧ x < 16 := by
  obtain ⟨_, _, _, hg, _⟩ := ckd_iff.1 hc
  intro x hx
  obtain ⟨c, hcm, rfl⟩ := List.mem_map.1 hx
  have := hg.srt.el c hcm
  exact ⟨this.1, this.2.1⟩
theorem leaves {k sz ot : Int} {s s1 s2 s3 : S} (hc : ckd k sz ot s = 0) (hq : s.Q.length ≤ 90) (h1 : rnd k sz ot (tC' s) s = some s1) (h2 : rnd k sz ot (tC' s1) s1 = some s2) (h3 : rnd k sz ot (tC' s2) s2 = some s3) : busy s3.Q = false := by
  obtain ⟨a1, a2, _, a4⟩ := rnd_inv (Q0 := s.Q) (tC' s) s hc hq (tasks_ok hc) (.inr (.inr ⟨rfl, fun c hcm => .inl (List.mem_map.2 ⟨c, hcm, rfl⟩)⟩)) s1 h1
  rcases a4 with h70 | ⟨e, hw⟩
  · obtain ⟨b1, b2, b3, _⟩ := rnd_inv (Q0 := s1.Q) (tC' s1) s1 a1 a2 (tasks_ok a1) (.inl ⟨h70, fun c hcm => List.mem_map.2 ⟨c, hcm, rfl⟩⟩) s2 h2
    obtain ⟨b4, _⟩ := b3 ⟨h70, fun c hcm => List.mem_map.2 ⟨c, hcm, rfl⟩⟩
    have e3 : s3 = s2 := by
      have : tC' s2 = [] := by unfold tC'; rw [b4]; rfl
      rw [this] at h3
      simp [rnd] at h3
      exact h3.symm
    rw [e3]
    exact good_full b1 (by rw [b4]; rfl)
  · have hall : ∀ x ∈ tC' s1, ∃ w ∈ s1.Q, w.task = x := by
      intro x hx
      obtain ⟨c, hcm, rfl⟩ := List.mem_map.1 hx
      obtain ⟨w, hwm, ht, _⟩ := wts_mem.1 (hw c hcm)
      exact ⟨w, by rw [e]; exact hwm, ht⟩
    have e2 : s2 = s1 := rnd_same _ _ _ a1 hall h2
    subst e2
    have e3 : s3 = s2 := rnd_same _ _ _ a1 hall h3
    subst e3
    refine good_full a1 ?_
    unfold fl
    rw [List.any_eq_false]
    intro c hcm
    have := hw c hcm
    rw [e]
    simp [this]
/-! the walk -/
theorem ev_LC1 (t : Int) (b : D) (a o v p c : Int) : ev P (.call nurserylaw23_TopicLeavesC1 [.d (.ag [I' a, I' o, I' v, I' p, I' c]), .d (.ref [I' t, b])] []) = some (.val (.d (.b (a == t && o == 68))) []) := by
  rw [ev_call P_nurserylaw23_TopicLeavesC1 rfl]
  simp [F_nurserylaw23_TopicLeavesC1]
theorem ev_LC2 (a o v p c : Int) : ev P (.call nurserylaw23_TopicLeavesC2 [.d (.ag [I' a, I' o, I' v, I' p, I' c])] []) = some (.val (.d (.b (o == 68))) []) := by
  rw [ev_call P_nurserylaw23_TopicLeavesC2 rfl]
  simp [F_nurserylaw23_TopicLeavesC2]
theorem ev_lw (nl : Bool) (l : List W) (t : Int) (b : D) (hn : l.length ≤ 1000000) :
    ev P (.call slices_ContainsFunc_api_Waiter_api_Waiter [.d (qD nl l), .d (.fn nurserylaw23_TopicLeavesC1 [] [.ref [I' t, b]])] []) = some (.val (.d (.b (wts l t 68))) []) :=
  ev_ContainsFunc (f := nurserylaw23_TopicLeavesC1) (first := []) (caps := [.ref [I' t, b]]) (p := fun w => w.task == t && w.op == 68) nl l hn (by intro a b c d e; simp [ev_LC1])
theorem ev_lb (nl : Bool) (l : List W) (hn : l.length ≤ 1000000) :
    ev P (.call slices_ContainsFunc_api_Waiter_api_Waiter [.d (qD nl l), .d (.fn nurserylaw23_TopicLeavesC2 [] [])] []) = some (.val (.d (.b (busy l))) []) :=
  ev_ContainsFunc (f := nurserylaw23_TopicLeavesC2) (first := []) (caps := []) (p := fun w => w.op == 68) nl l hn (by intro a b c d e; simp [ev_LC2])
/-- sizes that bear a whole run -/
theorem lvs_wfn {k sz ot : Int} {s : S} {x : Int} (hc : ckd k sz ot s = 0) (h : s.wfn 12 12 100) : (lvs k sz ot s x).wfn 12 12 100 := by
  rw [lvs_eq hc]
  by_cases he : callE s x 71 0 0 0 = 0
  · rw [if_pos he]
    have hd : (del s.C x).length ≤ s.C.length := (List.eraseIdx_sublist _ _).length_le
    have hk := (adv_wfn (s := s) sz s.qn s.Q (del s.C x) h.h h.b h.q (c := 12) (l := 100) (by have := h.c; omega)
      (fun d hd => h.l d (List.mem_of_mem_eraseIdx hd)) h.qn (fun e => by unfold del; rw [h.cn e]; rfl)).1
    have hg := ap_good hc he (by have := h.q; omega)
    rw [ap71 hc he] at hg
    obtain ⟨hm, _, _, hG, _⟩ := ckd_iff.1 hg
    refine ⟨hk.h, hk.b, hk.q, hk.c, ?_, hk.qn, hk.cn⟩
    intro c hcm
    refine ⟨(hk.l c hcm).1, ?_⟩
    have h1 := (hG.srt.el c hcm).2.2.1
    have h2 := (mnew_sz hm).2
    omega
  · rw [if_neg he]
    exact h
end Go.VS.Tp
namespace Go.VS.Tp
/-! the law Leaves: the loops -/
theorem loop_L0 (nm : D) (k sz ot : Int) (i : Int) (cn : Bool) (C0 : List K) (hn : C0.length ≤ 1000000) : ∀ (suf pre : List K) (s : S), C0 = pre ++ suf → ckd k sz ot s = 0 → s.wfn 12 12 100 →
    ev P (.loop 0 [2, 3, 18, 21, 22, 23] F_nurserylaw23_TopicLeaves_L0 [(2, .d (.ref [nm, I' k, I' sz, I' ot])), (3, .loc 0 0 0), (18, .d (I' i)), (21, .d (cD cn C0)), (22, .d (I' C0.length)), (23, .d (I' pre.length))] [.arrD 9 true [s.row]]) =
      match rnd k sz ot (suf.map (·.task)) s with
      | none => some (.out .ret [(4, .d (.b true))] [])
      | some s' => some (.out (.exit 2) [(2, .d (.ref [nm, I' k, I' sz, I' ot])), (3, .loc 0 0 0), (18, .d (I' i))] [.arrD 9 true [s'.row]]) := by
  intro suf
  induction suf with
  | nil =>
    intro pre s hl _ _
    have : C0.length = pre.length := by simp [hl]
    rw [ev_loop]
    conv => lhs; arg 4; unfold F_nurserylaw23_TopicLeaves_L0
    simp [this, rnd, reachC, cut, List.idxOf_cons]
  | cons c suf ih =>
    intro pre s hl hc hw
    have hg : C0[pre.length]? = some c := by simp [hl]
    have hlt2 : pre.length < C0.length := by simp [hl]
    have hgg : C0[pre.length] = c := by simpa [List.getElem?_eq_getElem hlt2] using hg
    have hlt : (pre.length : Int) < C0.length := by omega
    have hnext : IntKind.i64.wrap ((pre.length : Int) + 1) = pre.length + 1 := wrap_i64 (by omega) (by omega)
    have hwf := hw.wf (by omega) (by omega) (by omega)
    have hB := ev_lw s.qn s.Q c.task (hD c.nl c.log) (by have := hw.q; omega)
    have hA := ev_apply nm k sz ot s hwf c.task 71 0 0 0
    have e1 : rnd k sz ot ((c :: suf).map (·.task)) s = if wts s.Q c.task 68 = true then none else rnd k sz ot (suf.map (·.task)) (lvs k sz ot s c.task) := rfl
    rw [e1]
    cases hwt : wts s.Q c.task 68
    · rw [hwt] at hB
      simp only [Bool.false_eq_true, if_false]
      rw [← ih (pre ++ [c]) _ (by simp [hl]) (lvs_good hc (by have := hw.q; omega)).1 (lvs_wfn hc hw)]
      refine eqv fun R hR => ?_
      unfold lvs at hR
      generalize (ap k sz ot s c.task 71 0 0 0).2 = ae at *
      generalize (ap k sz ot s c.task 71 0 0 0).1 = ar at *
      rw [ev_loop]
      conv => lhs; arg 4; unfold F_nurserylaw23_TopicLeaves_L0
      by_cases h0 : ae = 0
      · rw [if_pos h0] at hR
        simp at hR
        simp [hlt, hlt2, hgg, K.row, hB, hA, h0, hnext, ev_lcall, thaw, freezeAll, freeze1, V.same_self, Rp.row, reachC, cut, List.idxOf_cons, hR]
        done
      · rw [if_neg h0] at hR
        have h1 : (ae == 0) = false := by simpa using h0
        simp at hR
        simp [hlt, hlt2, hgg, K.row, hB, hA, h1, hnext, ev_lcall, thaw, freezeAll, freeze1, V.same_self, Rp.row, reachC, cut, List.idxOf_cons, hR]
        done
    · rw [hwt] at hB
      rw [ev_loop]
      conv => lhs; arg 4; unfold F_nurserylaw23_TopicLeaves_L0
      simp [hlt, hlt2, hgg, K.row, hB, ev_awake, reachC, cut, List.idxOf_cons]
      done
theorem rnd_wfn {k sz ot : Int} : ∀ (L : List Int) (s s' : S), ckd k sz ot s = 0 → s.wfn 12 12 100 → rnd k sz ot L s = some s' → ckd k sz ot s' = 0 ∧ s'.wfn 12 12 100
  | [], s, s', hc, hw, h => by simp [rnd] at h; subst h; exact ⟨hc, hw⟩
  | x :: L, s, s', hc, hw, h => by
    unfold rnd at h
    split at h
    · cases h
    · exact rnd_wfn L _ _ (lvs_good hc (by have := hw.q; omega)).1 (lvs_wfn hc hw) h
theorem step_L1 (nm : D) (k sz ot : Int) (s : S) (i : Nat) (hi : i < 3) (hc : ckd k sz ot s = 0) (hw : s.wfn 12 12 100) :
    ev P (.loop 0 [2, 3, 18] F_nurserylaw23_TopicLeaves_L1 [(2, .d (.ref [nm, I' k, I' sz, I' ot])), (3, .loc 0 0 0), (18, .d (I' i))] [.arrD 9 true [s.row]]) =
      match rnd k sz ot (tC' s) s with
      | none => some (.out .ret [(4, .d (.b true))] [])
      | some s' => ev P (.loop 0 [2, 3, 18] F_nurserylaw23_TopicLeaves_L1 [(2, .d (.ref [nm, I' k, I' sz, I' ot])), (3, .loc 0 0 0), (18, .d (I' (i + 1 : Nat)))] [.arrD 9 true [s'.row]]) := by
  have hL := loop_L0 nm k sz ot i s.cn s.C (by have := hw.c; omega) s.C [] s rfl hc hw
  have hlt : (i : Int) < 3 := by omega
  have hnext : IntKind.i64.wrap ((i : Int) + 1) = i + 1 := wrap_i64 (by omega) (by omega)
  have ht : s.C.map (·.task) = tC' s := rfl
  rw [ht] at hL
  refine eqv fun R hR => ?_
  rw [ev_loop]
  conv => lhs; arg 4; unfold F_nurserylaw23_TopicLeaves_L1
  cases hr : rnd k sz ot (tC' s) s with
  | none =>
    rw [hr] at hL hR
    simp at hL
    simp [hlt, hL, reachC, cut, List.idxOf_cons]
    exact hR
  | some s' =>
    rw [hr] at hL hR
    simp at hL hR
    simp [hlt, hL, hnext, reachC, cut, List.idxOf_cons, hR]
theorem law_Leaves (nm : D) (k sz ot : Int) (s : S) (hi : s.inp) :
    ev P (.call nurserylaw23_TopicLeaves [.d (.ag [nm, I' k, I' sz, I' ot]), .d (.ag s.row)] []) = some (.val (.d (.b true)) []) := by
  have hG := ev_Great s
  rw [ev_call P_nurserylaw23_TopicLeaves rfl]
  cases hg : greatB s
  · rw [hg] at hG
    have hw0 := great_wfn hg hi.l hi.qn hi.cn
    have hw := hw0.mono (q' := 12) (c' := 12) (l' := 100) (by omega) (by omega) (by omega)
    have hwf := hw.wf (by omega) (by omega) (by omega)
    have hC := ev_mCheck nm k sz ot s hwf.sm
    by_cases hc : ckd k sz ot s = 0
    · rw [hc] at hC
      have t1 := step_L1 nm k sz ot s 0 (by omega) hc hw
      have hend : ∀ s' : S, ev P (.loop 0 [2, 3, 18] F_nurserylaw23_TopicLeaves_L1 [(2, .d (.ref [nm, I' k, I' sz, I' ot])), (3, .loc 0 0 0), (18, .d (I' (3 : Nat)))] [.arrD 9 true [s'.row]]) = some (.out (.exit 0) [(3, .loc 0 0 0)] [.arrD 9 true [s'.row]]) := by
        intro s'
        rw [ev_loop]
        conv => lhs; arg 4; unfold F_nurserylaw23_TopicLeaves_L1
        simp [reachC, cut, List.idxOf_cons]
      have hfin : ev P (.loop 0 [2, 3, 18] F_nurserylaw23_TopicLeaves_L1 [(2, .d (.ref [nm, I' k, I' sz, I' ot])), (3, .loc 0 0 0), (18, .d (I' (0 : Nat)))] [.arrD 9 true [s.row]]) = some (.out .ret [(4, .d (.b true))] []) ∨
          ∃ s3 : S, s3.wfn 12 12 100 ∧ busy s3.Q = false ∧ ev P (.loop 0 [2, 3, 18] F_nurserylaw23_TopicLeaves_L1 [(2, .d (.ref [nm, I' k, I' sz, I' ot])), (3, .loc 0 0 0), (18, .d (I' (0 : Nat)))] [.arrD 9 true [s.row]]) = some (.out (.exit 0) [(3, .loc 0 0 0)] [.arrD 9 true [s3.row]]) := by
        rw [t1]
        cases h1 : rnd k sz ot (tC' s) s with
        | none => exact .inl rfl
        | some s1 =>
          simp only
          obtain ⟨c1, w1⟩ := rnd_wfn _ _ _ hc hw h1
          rw [step_L1 nm k sz ot s1 1 (by omega) c1 w1]
          cases h2 : rnd k sz ot (tC' s1) s1 with
          | none => exact .inl rfl
          | some s2 =>
            simp only
            obtain ⟨c2, w2⟩ := rnd_wfn _ _ _ c1 w1 h2
            rw [step_L1 nm k sz ot s2 2 (by omega) c2 w2]
            cases h3 : rnd k sz ot (tC' s2) s2 with
            | none => exact .inl rfl
            | some s3 =>
              simp only
              obtain ⟨_, w3⟩ := rnd_wfn _ _ _ c2 w2 h3
              exact .inr ⟨s3, w3, leaves hc (by have := hw.q; omega) h1 h2 h3, hend s3⟩
      rcases hfin with h | ⟨s3, w3, hb, h⟩
      · simp at h
        simp [F_nurserylaw23_TopicLeaves, hG, hC, h, reachC, cut, List.idxOf_cons]
        done
      · have hB := ev_lb s3.qn s3.Q (by have := w3.q; omega)
        rw [hb] at hB
        simp at h
        simp [F_nurserylaw23_TopicLeaves, hG, hC, h, hB, ev_awake, reachC, cut, List.idxOf_cons]
        done
    · have hc2 : (ckd k sz ot s != 0) = true := by simpa using hc
      simp [F_nurserylaw23_TopicLeaves, hG, hC, hc2, ev_awake]
  · rw [hg] at hG
    simp [F_nurserylaw23_TopicLeaves, hG, ev_awake]
end Go.VS.Tp
namespace Go.VS.Tp
/-! Reads: the plain law -/
theorem pO_all {Q : List W} (h : ∀ w ∈ Q, w.op = 68) : pO Q = Q := by
  unfold pO
  rw [List.filter_eq_self]
  intro w hw
  simp [h w hw]
theorem pW_all {Q : List W} (v : Int) (h : ∀ w ∈ Q, w.op = 68) : pW v Q = [] := by
  unfold pW
  have : (Q.filter fun w => w.op == 70) = [] := by
    rw [List.filter_eq_nil_iff]
    intro w hw
    simp [h w hw]
  rw [this]; rfl
theorem wts_no {Q : List W} {t : Int} (h : ∀ w ∈ Q, w.op = 68) : wts Q t 70 = false := by
  cases hw : wts Q t 70
  · rfl
  · obtain ⟨w, hwm, _, ho⟩ := wts_mem.1 hw
    rw [h w hwm] at ho
    cases ho
theorem fl_one {sz : Int} {c : K} {Q : List W} (h : ∀ w ∈ Q, w.op = 68) : fl sz [c] Q = ((c.log.length : Int) == sz) := by
  unfold fl
  simp [wts_no h]
theorem pub_cons {w : W} {Q : List W} (h : w.op = 68) : pub (w :: Q) = 0 := by
  unfold pub idx
  simp [h]
theorem pub_nil : pub [] = -1 := rfl
theorem adv_read1 {sz : Int} {qn : Bool} {c : K} {w : W} {Q : List W} (h68 : w.op = 68) (h : ∀ x ∈ Q, x.op = 68) (hl : (c.log.length : Int) + 1 = sz) :
    (adv sz qn (w :: Q) [c]).Q = Q ∧ (adv sz qn (w :: Q) [c]).C = [⟨c.task, false, c.log ++ [w.value]⟩] := by
  have hall : ∀ x ∈ w :: Q, x.op = 68 := by
    intro x hx
    rcases List.mem_cons.1 hx with rfl | hx
    · exact h68
    · exact h x hx
  have h1 : ¬ (pub (w :: Q) < 0 ∨ fl sz [c] (w :: Q) = true) := by
    rw [pub_cons h68, fl_one hall]
    simp
    omega
  have e1 : Q1 (w :: Q) = Q := by unfold Q1; rw [pub_cons h68]; rfl
  have e2 : pubK Q w.value c = ⟨c.task, false, c.log ++ [w.value]⟩ := by unfold pubK; rw [wts_no h]; rfl
  have hst : Ad.step ⟨qn, w :: Q, [c], []⟩ w = ⟨decide (Q = []), Q, [⟨c.task, false, c.log ++ [w.value]⟩], [⟨w.task, w.op, 0⟩]⟩ := by
    simp [Ad.step, e1, pO_all h, pW_all _ h, e2]
  have hgo : adv sz qn (w :: Q) [c] = advF sz (Q.length + 1) (Ad.step ⟨qn, w :: Q, [c], []⟩ w) := by
    unfold adv
    rw [List.length_cons]
    conv => lhs; unfold advF
    rw [if_neg h1]
    simp [pub_cons h68]
  have h2 : pub Q < 0 ∨ fl sz [⟨c.task, false, c.log ++ [w.value]⟩] Q = true := by
    right
    rw [fl_one h]
    simp
    omega
  rw [hgo, hst]
  unfold advF
  rw [if_pos h2]
  exact ⟨rfl, rfl⟩
theorem adv_read0 {sz : Int} {c : K} {w n : W} {Q : List W} (h68 : w.op = 68) (h : ∀ x ∈ Q, x.op = 68) (hl : (c.log.length : Int) = sz) (hn : n.op = 70 ∧ n.task = c.task) :
    (adv sz false (w :: (Q ++ [n])) [c]).Q = Q ∧ (adv sz false (w :: (Q ++ [n])) [c]).C = [c] ∧ (adv sz false (w :: (Q ++ [n])) [c]).wn = [⟨w.task, 68, 0⟩, ⟨n.task, 70, w.value⟩] := by
  have hwt : ∀ l : List W, n ∈ l → wts l c.task 70 = true := fun l hl => wts_mem.2 ⟨n, hl, hn.2, hn.1⟩
  have h1 : ¬ (pub (w :: (Q ++ [n])) < 0 ∨ fl sz [c] (w :: (Q ++ [n])) = true) := by
    rw [pub_cons h68]
    unfold fl
    simp [hwt (w :: (Q ++ [n])) (by simp)]
  have e1 : Q1 (w :: (Q ++ [n])) = Q ++ [n] := by unfold Q1; rw [pub_cons h68]; rfl
  have e2 : pubK (Q ++ [n]) w.value c = c := by unfold pubK; rw [hwt _ (by simp)]; rfl
  have e3 : pO (Q ++ [n]) = Q := by
    have : pO (Q ++ [n]) = pO Q ++ pO [n] := by unfold pO; rw [List.filter_append]
    rw [this, pO_all h]
    simp [pO, hn.1]
  have e4 : pW w.value (Q ++ [n]) = [⟨n.task, 70, w.value⟩] := by
    have : pW w.value (Q ++ [n]) = pW w.value Q ++ pW w.value [n] := by unfold pW; rw [List.filter_append, List.map_append]
    rw [this, pW_all _ h]
    simp [pW, hn.1, wkOf]
  have hst : Ad.step ⟨false, w :: (Q ++ [n]), [c], []⟩ w = ⟨decide (Q = []), Q, [c], [⟨w.task, 68, 0⟩, ⟨n.task, 70, w.value⟩]⟩ := by
    simp [Ad.step, e1, e3, e4, e2, h68]
  have hgo : adv sz false (w :: (Q ++ [n])) [c] = advF sz ((Q ++ [n]).length + 1) (Ad.step ⟨false, w :: (Q ++ [n]), [c], []⟩ w) := by
    unfold adv
    rw [List.length_cons]
    conv => lhs; unfold advF
    rw [if_neg h1]
    simp [pub_cons h68]
  have h2 : pub Q < 0 ∨ fl sz [c] Q = true := by
    right
    rw [fl_one h]
    simp
    omega
  rw [hgo, hst]
  unfold advF
  rw [if_pos h2]
  exact ⟨rfl, rfl, rfl⟩
end Go.VS.Tp
namespace Go.VS.Tp
structure RS (k sz ot : Int) (x : Int) (s : S) (want : List Int) : Prop where
  ok : ckd k sz ot s = 0
  sz : s.wfn 24 1 100
  wl : want.length ≤ 24
  q : ∀ w ∈ s.Q, w.op = 68 ∧ w.task ≠ x
  c : ∃ c, s.C = [c] ∧ c.task = x ∧ want = c.log ++ s.Q.map (·.value)
theorem read_step {k sz ot x v : Int} {s : S} {rest : List Int} (h : RS k sz ot x s (v :: rest)) : (ap k sz ot s x 70 0 0 0).2 = 0 ∧ (ap k sz ot s x 70 0 0 0).1.parked = false ∧ (ap k sz ot s x 70 0 0 0).1.ok = true ∧ (ap k sz ot s x 70 0 0 0).1.value = v ∧ ckd k sz ot (ap k sz ot s x 70 0 0 0).1.st = 0 ∧
    (∀ w ∈ (ap k sz ot s x 70 0 0 0).1.st.Q, w.op = 68 ∧ w.task ≠ x) ∧ ∃ c, (ap k sz ot s x 70 0 0 0).1.st.C = [c] ∧ c.task = x ∧ rest = c.log ++ (ap k sz ot s x 70 0 0 0).1.st.Q.map (·.value) := by
  obtain ⟨c, hC, hct, hwant⟩ := h.c
  obtain ⟨hm, _, _, hg, hfu⟩ := ckd_iff.1 h.ok
  have hel := hg.srt.el c (by rw [hC]; simp)
  have hfnd : fnd s.C x = 0 := by rw [hC]; unfold fnd idx; simp [hct]
  have hkfd : kfd s.C x = some c := by rw [hC]; unfold kfd; simp [hct]
  have he : callE s x 70 0 0 0 = 0 := by
    have hb : cbad x 0 0 = false := by unfold cbad; simp; omega
    have ha : (s.Q.any fun w => w.task == x) = false := by
      rw [List.any_eq_false]
      intro w hw e
      exact (h.q w hw).2 (by simpa using e)
    unfold callE
    simp [hb, ha, hfnd]
  have hgood := ap_good h.ok he (by have := h.sz.q; omega)
  have h68 : ∀ w ∈ s.Q, w.op = 68 := fun w hw => (h.q w hw).1
  cases hlg : c.log with
  | cons y lg =>
    have e : ap k sz ot s x 70 0 0 0 = (⟨s.put (adv sz s.qn s.Q [⟨c.task, false, lg⟩]), false, y, true, decide ((adv sz s.qn s.Q [⟨c.task, false, lg⟩]).wn = []), (adv sz s.qn s.Q [⟨c.task, false, lg⟩]).wn⟩, 0) := by
      have e2 : s.C.set (fnd s.C x).toNat ⟨c.task, false, lg⟩ = [⟨c.task, false, lg⟩] := by rw [hfnd, hC]; rfl
      rw [← e2]
      simp [ap, h.ok, he, hkfd, hlg]
    rw [e] at hgood ⊢
    rw [hlg] at hwant
    simp at hwant
    obtain ⟨rfl, hrest⟩ := hwant
    refine ⟨rfl, rfl, rfl, rfl, hgood, ?_⟩
    simp only
    cases hQ : s.Q with
    | nil =>
      rw [adv_noop (.inl (by rw [pub_nil]; decide))]
      rw [hQ] at hrest
      exact ⟨by simp, _, rfl, hct, by simpa using hrest⟩
    | cons w Q2 =>
      rw [hQ] at h68
      have hf := hfu ⟨w, by rw [hQ]; simp, h68 w (by simp)⟩
      rw [hC, fl_one (by rw [hQ]; exact h68), hlg] at hf
      simp at hf
      obtain ⟨a1, a2⟩ := adv_read1 (sz := sz) (w := w) (Q := Q2) (qn := s.qn) (c := ⟨c.task, false, lg⟩) (h68 w (by simp)) (fun z hz => h68 z (by simp [hz])) (by simp; omega)
      rw [a1, a2]
      refine ⟨fun z hz => h.q z (by rw [hQ]; simp [hz]), _, rfl, hct, ?_⟩
      rw [hrest, hQ]
      simp
  | nil =>
    rw [hlg] at hwant
    simp at hwant
    cases hQ : s.Q with
    | nil => rw [hQ] at hwant; simp at hwant
    | cons w Q2 =>
      rw [hQ] at hwant h68
      simp at hwant
      obtain ⟨rfl, hrest⟩ := hwant
      have hf := hfu ⟨w, by rw [hQ]; simp, h68 w (by simp)⟩
      rw [hC, fl_one (by rw [hQ]; exact h68), hlg] at hf
      simp at hf
      obtain ⟨a1, a2, a3⟩ := adv_read0 (sz := sz) (w := w) (Q := Q2) (c := c) (n := W.mk x 70 0 0 (-1)) (h68 w (by simp)) (fun z hz => h68 z (by simp [hz])) (by rw [hlg]; simpa using hf) ⟨rfl, hct.symm⟩
      have hgt : got (adv sz false (s.Q ++ [W.mk x 70 0 0 (-1)]) s.C).wn x = some (w.value, [⟨w.task, 68, 0⟩]) := by
        have hwx : w.task ≠ x := (h.q w (by rw [hQ]; simp)).2
        rw [hC, hQ, List.cons_append, a3]
        have hk : fwk [⟨w.task, 68, 0⟩, ⟨x, 70, w.value⟩] x = 1 := by
          unfold fwk idx idx
          simp [hwx]
        unfold got
        simp [hk]
      have e : ap k sz ot s x 70 0 0 0 = (⟨s.put (adv sz false (s.Q ++ [W.mk x 70 0 0 (-1)]) s.C), false, w.value, true, false, [⟨w.task, 68, 0⟩]⟩, 0) := by
        simp [ap, h.ok, he, hkfd, hlg, hgt]
      rw [e] at hgood ⊢
      refine ⟨rfl, rfl, rfl, rfl, hgood, ?_⟩
      simp only
      rw [hC, hQ, List.cons_append, a1, a2]
      exact ⟨fun z hz => h.q z (by rw [hQ]; simp [hz]), c, rfl, hct, by rw [hlg, hrest]; simp⟩
theorem RS.next {k sz ot x v : Int} {s : S} {rest : List Int} (h : RS k sz ot x s (v :: rest)) : RS k sz ot x (ap k sz ot s x 70 0 0 0).1.st rest := by
  obtain ⟨_, _, _, _, k5, k6, c, k7, k8, k9⟩ := read_step h
  have hz := (ap_wfn (k := k) (sz := sz) (ot := ot) (t := x) (op := 70) (v := 0) (p := 0) (n := 0) h.sz).1
  obtain ⟨hm, _, _, hg, _⟩ := ckd_iff.1 k5
  have hwl := h.wl
  simp at hwl
  have hQ : (ap k sz ot s x 70 0 0 0).1.st.Q.length ≤ rest.length := by rw [k9]; simp
  refine ⟨k5, ⟨hz.h, hz.b, by omega, by rw [k7]; simp, ?_, hz.qn, hz.cn⟩, by omega, k6, c, k7, k8, k9⟩
  intro d hd
  refine ⟨(hz.l d hd).1, ?_⟩
  have h1 := (hg.srt.el d hd).2.2.1
  have h2 := (mnew_sz hm).2
  omega
end Go.VS.Tp
namespace Go.VS.Tp
/-! Reads: what a reader wants -/
def wtV : Bool → List Int → V
  | true, [] => .d (.sl 1 true [])
  | _, l => .asl 1 0 l.length
def wtO : Bool → List Int → List O
  | true, [] => []
  | _, l => [.arrD 1 true (rows1 l)]
theorem loop_want (o : List D) (s : S) (x : D) (t : Int) (nl : Bool) (qn : Bool) (Q : List W) (hq : Q.length ≤ 1000) : ∀ (suf pre : List W) (l : List Int), Q = pre ++ suf → l.length ≤ 1000 + pre.length →
    ev P (.loop 0 [2, 3, 5, 6, 43, 44, 45] F_nurserylaw23_TopicReads_L0 [(2, .d (.ref o)), (3, .loc 0 0 0), (5, .d (.ref [I' t, x])), (6, wtV nl l), (43, .d (qD qn Q)), (44, .d (I' Q.length)), (45, .d (I' pre.length))] (.arrD 9 true [s.row] :: wtO nl l)) =
      some (.out (.exit 0) [(2, .d (.ref o)), (3, .loc 0 0 0), (5, .d (.ref [I' t, x])), (6, wtV nl (l ++ suf.map (·.value)))] (.arrD 9 true [s.row] :: wtO nl (l ++ suf.map (·.value)))) := by
  intro suf
  induction suf with
  | nil =>
    intro pre l hl _
    have : Q.length = pre.length := by simp [hl]
    rw [ev_loop]
    conv => lhs; arg 4; unfold F_nurserylaw23_TopicReads_L0
    cases nl <;> cases l <;> simp [this, wtV, wtO, reachC, cut, List.idxOf_cons]
  | cons w suf ih =>
    intro pre l hl hlen
    have hg : Q[pre.length]? = some w := by simp [hl]
    have hlt2 : pre.length < Q.length := by simp [hl]
    have hgg : Q[pre.length] = w := by simpa [List.getElem?_eq_getElem hlt2] using hg
    have hlt : (pre.length : Int) < Q.length := by omega
    have hnext : IntKind.i64.wrap ((pre.length : Int) + 1) = pre.length + 1 := wrap_i64 (by omega) (by omega)
    have e : l ++ (w :: suf).map (·.value) = l ++ [w.value] ++ suf.map (·.value) := by simp
    rw [e, ← ih (pre ++ [w]) (l ++ [w.value]) (by simp [hl]) (by simp; omega)]
    refine eqv fun R hR => ?_
    rw [ev_loop]
    conv => lhs; arg 4; unfold F_nurserylaw23_TopicReads_L0
    have hr1 : 1 ≤ room := by unfold room; omega
    have hr : l.length + 1 ≤ room := by unfold room; omega
    have hrow : w.row = [I' w.task, I' w.op, I' w.value, I' w.prio, I' w.case] := rfl
    cases nl
    · cases l
      all_goals
        simp [wtV, wtO] at hR hr
        simp [hlt, hlt2, hgg, hrow, hnext, wtV, wtO, reachC, cut, List.idxOf_cons, hr1, hr, take_map_len, take_snoc, Nat.not_succ_le_self, hR]
        done
    · cases l
      all_goals
        simp [wtV, wtO] at hR hr
        simp [hlt, hlt2, hgg, hrow, hnext, wtV, wtO, reachC, cut, List.idxOf_cons, hr1, hr, take_map_len, take_snoc, Nat.not_succ_le_self, hR]
        done
end Go.VS.Tp
namespace Go.VS.Tp
/-! the law Reads -/
theorem loop_read (nm : D) (k sz ot : Int) (x : Int) (b : D) (nl : Bool) (W0 : List Int) (hn : W0.length ≤ 1000) : ∀ (suf pre : List Int) (s : S), W0 = pre ++ suf → RS k sz ot x s suf →
    ∃ s', RS k sz ot x s' [] ∧ ev P (.loop 0 [2, 3, 5, 55, 56, 57] F_nurserylaw23_TopicReads_L1 [(2, .d (.ref [nm, I' k, I' sz, I' ot])), (3, .loc 0 0 0), (5, .d (.ref [I' x, b])), (55, wtV nl W0), (56, .d (I' W0.length)), (57, .d (I' pre.length))] (.arrD 9 true [s.row] :: wtO nl W0)) =
      some (.out (.exit 2) [(3, .loc 0 0 0), (5, .d (.ref [I' x, b]))] [.arrD 9 true [s'.row]]) := by
  intro suf
  induction suf with
  | nil =>
    intro pre s hl h
    have : W0.length = pre.length := by simp [hl]
    refine ⟨s, h, ?_⟩
    rw [ev_loop]
    conv => lhs; arg 4; unfold F_nurserylaw23_TopicReads_L1
    cases nl <;> cases W0 <;> simp [this, wtV, wtO, reachC, cut, List.idxOf_cons] <;> (try simp at this) <;> simp [← this, wtV, wtO, reachC, cut, List.idxOf_cons]
  | cons v suf ih =>
    intro pre s hl h
    have hg : W0[pre.length]? = some v := by simp [hl]
    have hlt2 : pre.length < W0.length := by simp [hl]
    have hgg : W0[pre.length] = v := by simpa [List.getElem?_eq_getElem hlt2] using hg
    have hlt : (pre.length : Int) < W0.length := by omega
    have hnext : IntKind.i64.wrap ((pre.length : Int) + 1) = pre.length + 1 := wrap_i64 (by omega) (by omega)
    have hwf := h.sz.wf (by omega) (by omega) (by omega)
    have hA := ev_apply nm k sz ot s hwf x 70 0 0 0
    obtain ⟨k1, k2, k3, k4, _⟩ := read_step h
    obtain ⟨s', h', hL⟩ := ih (pre ++ [v]) _ (by simp [hl]) h.next
    refine ⟨s', h', ?_⟩
    rw [← hL]
    refine eqv fun R hR => ?_
    generalize (ap k sz ot s x 70 0 0 0).2 = ae at *
    generalize (ap k sz ot s x 70 0 0 0).1 = ar at *
    obtain ⟨ast, ap', av, ao, akn, awn⟩ := ar
    simp only at k2 k3 k4
    subst k1 k2 k3 k4
    rw [ev_loop]
    conv => lhs; arg 4; unfold F_nurserylaw23_TopicReads_L1
    have hne : W0 ≠ [] := by intro e; rw [e] at hlt2; simp at hlt2
    have hV : wtV nl W0 = .asl 1 0 W0.length := by cases nl <;> cases W0 <;> first | rfl | exact absurd rfl hne
    have hO : wtO nl W0 = [.arrD 1 true (rows1 W0)] := by cases nl <;> cases W0 <;> first | rfl | exact absurd rfl hne
    rw [hV, hO] at hR ⊢
    simp at hR
    simp [hlt, hlt2, hgg, hA, hnext, ev_lcall, thaw, freezeAll, freeze1, V.same_self, Rp.row, reachC, cut, List.idxOf_cons, hR]
    done
end Go.VS.Tp
namespace Go.VS.Tp
theorem ev_RC1 (t : Int) (b : D) (a o v p c : Int) : ev P (.call nurserylaw23_TopicReadsC1 [.d (.ag [I' a, I' o, I' v, I' p, I' c]), .d (.ref [I' t, b])] []) = some (.val (.d (.b (a == t))) []) := by
  rw [ev_call P_nurserylaw23_TopicReadsC1 rfl]
  simp [F_nurserylaw23_TopicReadsC1]
theorem ev_rw (nl : Bool) (l : List W) (t : Int) (b : D) (hn : l.length ≤ 1000000) :
    ev P (.call slices_ContainsFunc_api_Waiter_api_Waiter [.d (qD nl l), .d (.fn nurserylaw23_TopicReadsC1 [] [.ref [I' t, b]])] []) = some (.val (.d (.b (l.any fun w => w.task == t))) []) :=
  ev_ContainsFunc (f := nurserylaw23_TopicReadsC1) (first := []) (caps := [.ref [I' t, b]]) (p := fun w => w.task == t) nl l hn (by intro a b c d e; simp [ev_RC1])
theorem law_Reads (nm : D) (k sz ot : Int) (s : S) (hi : s.inp) :
    ev P (.call nurserylaw23_TopicReads [.d (.ag [nm, I' k, I' sz, I' ot]), .d (.ag s.row)] []) = some (.val (.d (.b true)) []) := by
  have hG := ev_Great s
  rw [ev_call P_nurserylaw23_TopicReads rfl]
  cases hg : greatB s
  · rw [hg] at hG
    have hw := great_wfn hg hi.l hi.qn hi.cn
    have hwf := hw.wf (by omega) (by omega) (by omega)
    have hC := ev_mCheck nm k sz ot s hwf.sm
    by_cases hc : ckd k sz ot s = 0
    · rw [hc] at hC
      obtain ⟨own, cnt, time, hn, H, qn, Q, bn, B, cn, C, cl, val⟩ := s
      rcases C with _ | ⟨c, _ | ⟨d, C⟩⟩
      · simp [F_nurserylaw23_TopicReads, hG, hC, ev_awake]
        done
      · have hB := ev_rw qn Q c.task (hD c.nl c.log) (by have := hw.q; simp only at this; omega)
        cases ha : (Q.any fun w => w.task == c.task)
        · rw [ha] at hB
          obtain ⟨_, _, _, hgd, _⟩ := ckd_iff.1 hc
          have hcl := hw.l c (by simp)
          have hfr : ∀ w ∈ Q, w.task ≠ c.task := by
            intro w hwm e
            rw [List.any_eq_false] at ha
            exact ha w hwm (by simpa using e)
          have hRS : RS k sz ot c.task ⟨own, cnt, time, hn, H, qn, Q, bn, B, cn, [c], cl, val⟩ (c.log ++ Q.map (·.value)) := by
            refine ⟨hc, ⟨hw.h, hw.b, by have := hw.q; omega, by simp, fun d hd => by have := hw.l d hd; exact ⟨this.1, by omega⟩, hw.qn, hw.cn⟩, by have h1 := hw.q; simp only at h1; simp; omega, ?_, c, rfl, rfl, rfl⟩
            intro w hwm
            refine ⟨?_, hfr w hwm⟩
            rcases (hgd.cs w hwm).2 with ⟨_, h70⟩ | h68
            · exfalso
              obtain ⟨⟨d, hd, hdt, _⟩, _⟩ := (n70_iff hgd.srt).1 h70
              simp at hd
              subst hd
              exact hfr w hwm hdt.symm
            · exact h68
          have hK := ev_CloneI c.nl c.log hcl.1 (by omega)
          have hW := loop_want [nm, I' k, I' sz, I' ot] ⟨own, cnt, time, hn, H, qn, Q, bn, B, cn, [c], cl, val⟩ (hD c.nl c.log) c.task c.nl qn Q (by have := hw.q; simp only at this; omega) Q [] c.log rfl (by simp; omega)
          obtain ⟨s', h', hL⟩ := loop_read nm k sz ot c.task (hD c.nl c.log) c.nl (c.log ++ Q.map (·.value)) (by have := hw.q; simp only at this; simp; omega) (c.log ++ Q.map (·.value)) [] ⟨own, cnt, time, hn, H, qn, Q, bn, B, cn, [c], cl, val⟩ rfl hRS
          obtain ⟨c', hC', hct', hwant⟩ := h'.c
          simp at hwant
          have hlag := ev_mLag (I' s'.own) (I' s'.cnt) (I' s'.time) (hD s'.hn s'.H) (qD s'.qn s'.Q) (hD s'.bn s'.B) (.b s'.cl) (I' s'.val) s'.cn s'.C c.task (by rw [hC']; simp)
          have hlg : lag s'.C c.task = (0, 0) := by
            unfold lag kfd
            rw [hC']
            simp [hct', hwant.1]
          rw [hlg] at hlag
          have hQ' : s'.Q = [] := hwant.2
          obtain ⟨own', cnt', time', hn', H', qn', Q'', bn', B', cn', C', cl', val'⟩ := s'
          simp only at hQ' hlag
          subst hQ'
          cases hnl : c.nl <;> rw [hnl] at hK hW hL hB
          · cases hll : (c.log ++ Q.map (·.value))
            all_goals
              rw [hll] at hL hW
              simp [wtV, wtO] at hK hW hL
              simp [F_nurserylaw23_TopicReads, hG, hC, K.row, hB, hnl, hK, hW, hL, hlag, callD, wtV, wtO, ev_awake, reachC, cut, List.idxOf_cons]
              done
          · have hl0 := hcl.1 hnl
            rw [hl0] at hW hL hB hK
            cases hll : Q.map (·.value)
            all_goals
              rw [hll] at hL hW
              simp [wtV, wtO] at hK hW hL
              simp [F_nurserylaw23_TopicReads, hG, hC, K.row, hB, hnl, hl0, hK, hW, hL, hlag, callD, wtV, wtO, ev_awake, reachC, cut, List.idxOf_cons]
              done
        · rw [ha] at hB
          simp [F_nurserylaw23_TopicReads, hG, hC, K.row, hB, ev_awake]
          done
      · have h1 : ((C.length : Int) + 1 + 1 != 1) = true := by simp; omega
        simp [F_nurserylaw23_TopicReads, hG, hC, h1, ev_awake]
        done
    · have hc2 : (ckd k sz ot s != 0) = true := by simpa using hc
      simp [F_nurserylaw23_TopicReads, hG, hC, hc2, ev_awake]
  · rw [hg] at hG
    simp [F_nurserylaw23_TopicReads, hG, ev_awake]
end Go.VS.Tp
