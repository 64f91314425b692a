import Derived.Test.YtjpdopldkeodgaaGreatV07
set_option linter.all false
namespace Go.VS.Sp
theorem ev_abs1 (nm : D) (sz ot : Int) (s : S) (hq : s.Q = []) (hs : s.sm) :
    ev P (.call spec_layer_abstract [.d (.ag [.fn mutex_New [] [], .fn mutex_Check [] []]), .d (.ag [nm, I' 1, I' sz, I' ot]), .d (.ag s.row)] []) = some (.val (.d (.b (absB 1 sz ot s))) []) := by
  have h := ev_ckM nm 1 sz ot s hq hs
  have e : absB 1 sz ot s = (ck (nwA 1 1 sz ot) (okM s) == 0) := by
    unfold absB
    rw [ck_zero]
    simp [newO, ckO, szO, vzO, hq, ck_zero]
  rw [e]
  simp only [S.row] at h
  rw [ev_call P_spec_layer_abstract rfl]
  simp [F_spec_layer_abstract, h, toD, allD]
theorem ev_abs2 (nm : D) (sz ot : Int) (s : S) (hq : s.Q = []) (hs : s.sm) :
    ev P (.call spec_layer_abstract [.d (.ag [.fn rwlock_New [] [], .fn rwlock_Check [] []]), .d (.ag [nm, I' 2, I' sz, I' ot]), .d (.ag s.row)] []) = some (.val (.d (.b (absB 2 sz ot s))) []) := by
  have h := ev_ckW nm 2 sz ot s hq hs
  have e : absB 2 sz ot s = (ck (nwA 2 2 sz ot) (okW s) == 0) := by
    unfold absB
    rw [ck_zero]
    simp [newO, ckO, szO, vzO, hq, ck_zero]
  rw [e]
  simp only [S.row] at h
  rw [ev_call P_spec_layer_abstract rfl]
  simp [F_spec_layer_abstract, h, toD, allD]
theorem ev_abs4 (nm : D) (sz ot : Int) (s : S) (hq : s.Q = []) (hs : s.sm) :
    ev P (.call spec_layer_abstract [.d (.ag [.fn semaphore_New [] [], .fn semaphore_Check [] []]), .d (.ag [nm, I' 4, I' sz, I' ot]), .d (.ag s.row)] []) = some (.val (.d (.b (absB 4 sz ot s))) []) := by
  have h := ev_ckS nm 4 sz ot s hq hs
  have e : absB 4 sz ot s = (ck (nwS 4 sz ot) (okS sz s) == 0) := by
    unfold absB
    rw [ck_zero]
    simp [newO, ckO, szO, vzO, hq, ck_zero]
  rw [e]
  simp only [S.row] at h
  rw [ev_call P_spec_layer_abstract rfl]
  simp [F_spec_layer_abstract, h, toD, allD]
theorem ev_abs8 (nm : D) (sz ot : Int) (s : S) (hq : s.Q = []) (hs : s.sm) :
    ev P (.call spec_layer_abstract [.d (.ag [.fn limiter_New [] [], .fn limiter_Check [] []]), .d (.ag [nm, I' 8, I' sz, I' ot]), .d (.ag s.row)] []) = some (.val (.d (.b (absB 8 sz ot s))) []) := by
  have h := ev_ckL nm 8 sz ot s hq hs
  have e : absB 8 sz ot s = (ck (nwL 8 sz ot) (okL sz s) == 0) := by
    unfold absB
    rw [ck_zero]
    simp [newO, ckO, szO, vzO, hq, ck_zero]
  rw [e]
  simp only [S.row] at h
  rw [ev_call P_spec_layer_abstract rfl]
  simp [F_spec_layer_abstract, h, toD, allD]
theorem ev_abs9 (nm : D) (sz ot : Int) (s : S) (hq : s.Q = []) (hs : s.sm) :
    ev P (.call spec_layer_abstract [.d (.ag [.fn future_New [] [], .fn future_Check [] []]), .d (.ag [nm, I' 9, I' sz, I' ot]), .d (.ag s.row)] []) = some (.val (.d (.b (absB 9 sz ot s))) []) := by
  have h := ev_ckF nm 9 sz ot s hq
  have e : absB 9 sz ot s = (ck (nwA 9 9 sz ot) (okF s) == 0) := by
    unfold absB
    rw [ck_zero]
    simp [newO, ckO, szO, vzO, hq, ck_zero]
  rw [e]
  simp only [S.row] at h
  rw [ev_call P_spec_layer_abstract rfl]
  simp [F_spec_layer_abstract, h, toD, allD]
theorem ev_abs5 (nm : D) (sz ot : Int) (s : S) (hq : s.Q = []) (hs : s.sm) :
    ev P (.call spec_barriers_abstract [.d (.ag [.fn barrier_New [] [], .fn barrier_Check [] []]), .d (.ag [nm, I' 5, I' sz, I' ot]), .d (.ag s.row)] []) = some (.val (.d (.b (absB 5 sz ot s))) []) := by
  have h := ev_ckB nm 5 sz ot { s with val := 0 } hq ⟨hs.h, hs.b, hs.q, hs.c, hs.l⟩
  have e : absB 5 sz ot s = (decide (0 ≤ s.val) && (decide (s.val < sz) && (ck (nwB 5 sz ot) (okB { s with val := 0 }) == 0))) := by
    unfold absB
    rw [ck_zero]
    have e1 : (decide (s.val < 0) || decide (sz ≤ s.val)) = !(decide (0 ≤ s.val) && decide (s.val < sz)) := by rw [Bool.eq_iff_iff]; simp
    rw [e1]
    simp [newO, ckO, szO, vzO, hq, ck_zero]
    cases (nwB 5 sz ot == 0) <;> cases decide (0 ≤ s.val) <;> cases decide (s.val < sz) <;> simp
  rw [e]
  simp only [S.row] at h
  generalize ck (nwB 5 sz ot) (okB { s with val := 0 }) = r at *
  rw [ev_call P_spec_barriers_abstract rfl]
  cases h1 : decide (0 ≤ s.val)
  · simp [F_spec_barriers_abstract, h1]
  · cases h2 : decide (s.val < sz)
    · simp [F_spec_barriers_abstract, h1, h2]
    · simp [F_spec_barriers_abstract, h1, h2, h, toD, allD]
theorem sm_bare (o c t : Int) (q : Bool) : (bare o c t q).sm := ⟨by simp [bare], by simp [bare], by simp [bare], by simp [bare], by simp [bare]⟩
theorem ev_abs6 (nm : D) (sz ot : Int) (s : S) (hq : s.Q = []) (hs : s.sm) :
    ev P (.call spec_channels_abstract [.d (.ag [.fn channel_New [] [], .fn channel_Check [] []]), .d (.ag [nm, I' 6, I' sz, I' ot]), .d (.ag s.row)] []) = some (.val (.d (.b (absB 6 sz ot s))) []) := by
  have h := ev_ckC nm 6 (rmz sz) ot s hq hs
  have h0 := ev_ckC nm 6 sz ot (bare (-1) 0 0 true) rfl (sm_bare _ _ _ _)
  have hR := ev_room nm 6 sz ot
  have e0 : (ck (nwC 6 sz ot) (okC sz (bare (-1) 0 0 true)) == 0) = (nwC 6 sz ot == 0) := by
    rw [ck_zero]
    cases hn : nwC 6 sz ot == 0
    · rfl
    · have : ¬ sz < 0 := by
        intro hlt
        have hn2 : nwC 6 sz ot = 0 := by simpa using hn
        unfold nwC at hn2
        simp [hlt] at hn2
      simp [okC, okCb, bare, this]
  have e : absB 6 sz ot s = ((nwC 6 sz ot == 0) && (ck (nwC 6 (rmz sz) ot) (okC (rmz sz) s) == 0)) := by
    unfold absB
    simp [newO, ckO, szO, vzO, hq]
  rw [e, ← e0]
  simp only [S.row] at h
  generalize ck (nwC 6 (rmz sz) ot) (okC (rmz sz) s) = r at *
  generalize ck (nwC 6 sz ot) (okC sz (bare (-1) 0 0 true)) = r0 at *
  have h0 : ev P (.call channel_Check [.d (.ag [nm, I' 6, I' sz, I' ot]), .d (.ag [I' (-1), I' 0, I' 0, .sl 1 true [], .sl 5 true [], .sl 1 true [], .sl 2 true [], .b false, I' 0])] []) = some (.val (.d (I' r0)) []) := h0
  rw [ev_call P_spec_channels_abstract rfl]
  cases h1 : r0 == 0
  · simp [F_spec_channels_abstract, h0, h1, toD, allD]
  · simp [F_spec_channels_abstract, h0, h1, hR, h, toD, allD]
theorem ev_abs7 (nm : D) (sz ot : Int) (s : S) (hq : s.Q = []) (hs : s.sm) :
    ev P (.call spec_topics_abstract [.d (.ag [.fn topic_New [] [], .fn topic_Check [] []]), .d (.ag [nm, I' 7, I' sz, I' ot]), .d (.ag s.row)] []) = some (.val (.d (.b (absB 7 sz ot s))) []) := by
  have h := ev_mCheck nm 7 (rmz sz) ot s hs
  have h0 := ev_mCheck nm 7 sz ot (bare (-1) 0 0 true) (sm_bare _ _ _ _)
  have hR := ev_room nm 7 sz ot
  have e0 : (ckd 7 sz ot (bare (-1) 0 0 true) == 0) = (mnew 7 sz ot == 0) := by
    unfold ckd
    by_cases hn : mnew 7 sz ot = 0
    · simp [hn, S.good, bare, vc, tq, wchk, wcheckFrom, S.fl0]
    · simp [hn]
  have e : absB 7 sz ot s = ((mnew 7 sz ot == 0) && (ckd 7 (rmz sz) ot s == 0)) := by
    unfold absB
    simp [newO, ckO, szO, vzO, hq]
  rw [e, ← e0]
  simp only [S.row] at h
  generalize ckd 7 (rmz sz) ot s = r at *
  generalize ckd 7 sz ot (bare (-1) 0 0 true) = r0 at *
  have h0 : ev P (.call topic_Check [.d (.ag [nm, I' 7, I' sz, I' ot]), .d (.ag [I' (-1), I' 0, I' 0, .sl 1 true [], .sl 5 true [], .sl 1 true [], .sl 2 true [], .b false, I' 0])] []) = some (.val (.d (I' r0)) []) := h0
  rw [ev_call P_spec_topics_abstract rfl]
  cases h1 : r0 == 0
  · simp [F_spec_topics_abstract, h0, h1, toD, allD]
  · simp [F_spec_topics_abstract, h0, h1, hR, h, toD, allD]
end Go.VS.Sp
namespace Go.VS.Sp
theorem abs_of {k sz ot : Int} {s : S} (h : absB k sz ot s = true) : newO k sz ot = 0 ∧ s.Q = [] ∧ (k = 5 → 0 ≤ s.val ∧ s.val < sz) ∧ ckO k (szO k sz) ot (vzO k s) = 0 := by
  unfold absB at h
  simp only [Bool.and_eq_true, beq_iff_eq, List.isEmpty_iff] at h
  obtain ⟨⟨⟨h1, h2⟩, h3⟩, h4⟩ := h
  refine ⟨h1, h2, fun h5 => ?_, h4⟩
  simp [h5] at h3
  omega
theorem ck_ok {n : Int} {b : Bool} (h : ck n b = 0) : b = true := by
  have : (ck n b == 0) = true := by simp [h]
  rw [ck_zero, Bool.and_eq_true] at this
  exact this.2
theorem ck_nw {n : Int} {b : Bool} (h : ck n b = 0) : n = 0 := by
  have : (ck n b == 0) = true := by simp [h]
  rw [ck_zero, Bool.and_eq_true] at this
  simpa using this.1
theorem abs1 {sz ot : Int} {s : S} (h : absB 1 sz ot s = true) : okM s = true := by
  obtain ⟨_, _, _, h⟩ := abs_of h
  exact ck_ok (by simpa [ckO, szO, vzO] using h)
theorem abs2 {sz ot : Int} {s : S} (h : absB 2 sz ot s = true) : okW s = true := by
  obtain ⟨_, _, _, h⟩ := abs_of h
  exact ck_ok (by simpa [ckO, szO, vzO] using h)
theorem abs4 {sz ot : Int} {s : S} (h : absB 4 sz ot s = true) : nwS 4 sz ot = 0 ∧ okS sz s = true := by
  obtain ⟨_, _, _, h⟩ := abs_of h
  have h : ck (nwS 4 sz ot) (okS sz s) = 0 := by simpa [ckO, szO, vzO] using h
  exact ⟨ck_nw h, ck_ok h⟩
theorem abs5 {sz ot : Int} {s : S} (h : absB 5 sz ot s = true) : nwB 5 sz ot = 0 ∧ okB { s with val := 0 } = true ∧ 0 ≤ s.val ∧ s.val < sz := by
  obtain ⟨_, _, h5, h⟩ := abs_of h
  have h : ck (nwB 5 sz ot) (okB { s with val := 0 }) = 0 := by simpa [ckO, szO, vzO] using h
  exact ⟨ck_nw h, ck_ok h, h5 rfl⟩
theorem abs6 {sz ot : Int} {s : S} (h : absB 6 sz ot s = true) : nwC 6 sz ot = 0 ∧ okC (rmz sz) s = true := by
  obtain ⟨h0, _, _, h⟩ := abs_of h
  have h : ck (nwC 6 (rmz sz) ot) (okC (rmz sz) s) = 0 := by simpa [ckO, szO, vzO] using h
  exact ⟨by simpa [newO] using h0, ck_ok h⟩
theorem abs7 {sz ot : Int} {s : S} (h : absB 7 sz ot s = true) : mnew 7 sz ot = 0 ∧ S.good (rmz sz) s = true := by
  obtain ⟨h0, _, _, h⟩ := abs_of h
  have h : ckd 7 (rmz sz) ot s = 0 := by simpa [ckO, szO, vzO] using h
  refine ⟨by simpa [newO] using h0, ?_⟩
  unfold ckd at h
  split at h
  · split at h
    · assumption
    · simp at h
  · rename_i h2; exact absurd h h2
theorem abs8 {sz ot : Int} {s : S} (h : absB 8 sz ot s = true) : nwL 8 sz ot = 0 ∧ okL sz s = true := by
  obtain ⟨_, _, _, h⟩ := abs_of h
  have h : ck (nwL 8 sz ot) (okL sz s) = 0 := by simpa [ckO, szO, vzO] using h
  exact ⟨ck_nw h, ck_ok h⟩
theorem okM_own {s : S} (h : okM s = true) : s.own = -1 ∨ isTask s.own = true := by
  unfold okM at h
  simp at h
  exact h.1
theorem isTask_bd {n : Int} (h : isTask n = true) : 0 ≤ n ∧ n < 16 := isTask_iff.1 h
theorem okW_facts {s : S} (h : okW s = true) : SAsc s.H ∧ (∀ x ∈ s.H, isTask x = true) ∧ (s.own = -1 ∨ (isTask s.own = true ∧ s.H = [])) := by
  unfold okW at h
  rw [Bool.and_eq_true] at h
  obtain ⟨h1, h2⟩ := h
  obtain ⟨_, h3, h4⟩ := (okH_iff s.H none).1 h2
  refine ⟨h3, h4, ?_⟩
  unfold okWb at h1
  rw [len1] at h1
  by_cases ho : s.own = -1
  · exact .inl ho
  · right
    simp [ho] at h1
    obtain ⟨⟨⟨⟨⟨⟨h5, _⟩, _⟩, _⟩, _⟩, _⟩, _⟩ := h1
    exact h5
theorem nwS_bd {sz ot : Int} (h : nwS 4 sz ot = 0) : 1 ≤ sz ∧ sz ≤ 100 := by
  unfold nwS at h
  simp at h
  omega
theorem nwB_bd {sz ot : Int} (h : nwB 5 sz ot = 0) : 1 ≤ sz ∧ sz ≤ 100 := by
  unfold nwB at h
  simp at h
  omega
theorem nwL_bd {sz ot : Int} (h : nwL 8 sz ot = 0) : 1 ≤ sz ∧ sz ≤ 100 ∧ 1 ≤ ot ∧ ot ≤ 1099511627776 := by
  unfold nwL at h
  simp at h
  omega
theorem okS_bd {sz : Int} {s : S} (h : okS sz s = true) : 0 ≤ s.cnt ∧ s.cnt ≤ sz := by
  unfold okS at h
  simp at h
  omega
theorem okB_bd {s : S} (h : okB s = true) : 0 ≤ s.cnt ∧ s.cnt ≤ 1099511627776 := by
  unfold okB at h
  simp at h
  omega
theorem okL_bd {sz : Int} {s : S} (h : okL sz s = true) : (0 ≤ s.cnt ∧ s.cnt ≤ sz) ∧ 0 ≤ s.time ∧ s.time ≤ 1099511627776 := by
  unfold okL at h
  simp at h
  omega
theorem good_vc {sz : Int} {s : S} (h : S.good sz s = true) : SAsc (tsk s) ∧ ∀ x ∈ s.C, isTask x.task = true ∧ ¬ sz < x.log.length ∧ x.log.all num = true := by
  unfold S.good at h
  simp only [Bool.and_eq_true] at h
  obtain ⟨_, h1, h2⟩ := (vc_iff sz s.C none).1 h.1.2.1
  exact ⟨h1, h2⟩
theorem cbad_bd {c : Cl} (h : cbad c = false) : isTask c.task = true ∧ 0 ≤ c.now ∧ c.now ≤ 1099511627776 := by
  unfold cbad at h
  simp at h
  refine ⟨isTask_iff.2 (by omega), by omega, by omega⟩
theorem effI1 (nm : D) (sz ot : Int) (s : S) (c : Cl) (hw : s.wf) (hz : s.sz) (ha : absB 1 sz ot s = true) (hc : cbad c = false) (hb : blg 1 c.op = true) (hf : fit 1 sz c = true) :
    Rel (ev P (.call spec_mutexes_effect [.d (.ag [.fn mutex_New [] [], .fn mutex_Check [] []]), .d (.ag [nm, I' 1, I' sz, I' ot]), .d (.ag s.row), .d (.ag c.row)] [])) (raw 1 sz ot s.pl c) := by
  have h1 := okM_own (abs1 ha)
  have h2 : s.own = -1 ∨ 0 ≤ s.own := by
    rcases h1 with h | h
    · exact .inl h
    · exact .inr (isTask_bd h).1
  have e : raw 1 sz ot s.pl c = eM s.pl c := rfl
  rw [e]
  exact ev_eM _ rfl _ _ s hw c h2
theorem effI2 (nm : D) (sz ot : Int) (s : S) (c : Cl) (hw : s.wf) (hz : s.sz) (ha : absB 2 sz ot s = true) (hc : cbad c = false) (hb : blg 2 c.op = true) (hf : fit 2 sz c = true) :
    Rel (ev P (.call spec_locks_effect [.d (.ag [.fn rwlock_New [] [], .fn rwlock_Check [] []]), .d (.ag [nm, I' 2, I' sz, I' ot]), .d (.ag s.row), .d (.ag c.row)] [])) (raw 2 sz ot s.pl c) := by
  obtain ⟨h1, h2, h3⟩ := okW_facts (abs2 ha)
  have h4 : s.own = -1 ∨ 0 ≤ s.own := by
    rcases h3 with h | h
    · exact .inl h
    · exact .inr (isTask_bd h.1).1
  have h5 : s.own = -1 ∨ s.H = [] := by
    rcases h3 with h | h
    · exact .inl h
    · exact .inr h.2
  have hl := hz.h
  have e : raw 2 sz ot s.pl c = eW s.pl c := rfl
  rw [e]
  exact ev_eW _ rfl _ _ s hw c h1 (by omega) h4
theorem effI4 (nm : D) (sz ot : Int) (s : S) (c : Cl) (hw : s.wf) (hz : s.sz) (ha : absB 4 sz ot s = true) (hc : cbad c = false) (hb : blg 4 c.op = true) (hf : fit 4 sz c = true) :
    Rel (ev P (.call spec_semaphores_effect [.d (.ag [.fn semaphore_New [] [], .fn semaphore_Check [] []]), .d (.ag [nm, I' 4, I' sz, I' ot]), .d (.ag s.row), .d (.ag c.row)] [])) (raw 4 sz ot s.pl c) := by
  obtain ⟨h1, h2⟩ := abs4 ha
  have h3 := nwS_bd h1
  have h4 := okS_bd h2
  have h5 : 1 ≤ c.value ∧ c.value ≤ sz := by simpa [fit] using hf
  have e : raw 4 sz ot s.pl c = eS sz s.pl c := rfl
  rw [e]
  exact ev_eS _ _ nm 4 sz ot s hw c h3.2 h4 h5
theorem effI5 (nm : D) (sz ot : Int) (s : S) (c : Cl) (hw : s.wf) (hz : s.sz) (ha : absB 5 sz ot s = true) (hc : cbad c = false) (hb : blg 5 c.op = true) (hf : fit 5 sz c = true) :
    Rel (ev P (.call spec_barriers_effect [.d (.ag [.fn barrier_New [] [], .fn barrier_Check [] []]), .d (.ag [nm, I' 5, I' sz, I' ot]), .d (.ag s.row), .d (.ag c.row)] [])) (raw 5 sz ot s.pl c) := by
  obtain ⟨h1, h2, h3, h4⟩ := abs5 ha
  have h5 := nwB_bd h1
  have h6 := okB_bd h2
  simp only at h6
  have e : raw 5 sz ot s.pl c = eB sz s.pl := rfl
  rw [e]
  exact ev_eB _ rfl _ _ nm 5 sz ot s hw h5.2 ⟨h3, h4⟩ h6
theorem effI6 (nm : D) (sz ot : Int) (s : S) (c : Cl) (hw : s.wf) (hz : s.sz) (ha : absB 6 sz ot s = true) (hc : cbad c = false) (hb : blg 6 c.op = true) (hf : fit 6 sz c = true) :
    Rel (ev P (.call spec_channels_effect [.d (.ag [.fn channel_New [] [], .fn channel_Check [] []]), .d (.ag [nm, I' 6, I' sz, I' ot]), .d (.ag s.row), .d (.ag c.row)] [])) (raw 6 sz ot s.pl c) := by
  have h1 : c.op = 64 ∨ c.op = 65 ∨ c.op = 66 := by
    simp [blg] at hb
    omega
  have hl := hz.b
  have e : raw 6 sz ot s.pl c = eC (rmz sz) s.pl c := rfl
  rw [e]
  exact ev_eC _ _ nm 6 sz ot s hw c h1 (by omega)
theorem effI7 (nm : D) (sz ot : Int) (s : S) (c : Cl) (hw : s.wf) (hz : s.sz) (ha : absB 7 sz ot s = true) (hc : cbad c = false) (hb : blg 7 c.op = true) (hf : fit 7 sz c = true) :
    Rel (ev P (.call spec_topics_effect [.d (.ag [.fn topic_New [] [], .fn topic_Check [] []]), .d (.ag [nm, I' 7, I' sz, I' ot]), .d (.ag s.row), .d (.ag c.row)] [])) (raw 7 sz ot s.pl c) := by
  obtain ⟨_, h1⟩ := abs7 ha
  obtain ⟨h2, h3⟩ := good_vc h1
  have hk : s.tk := ⟨h2, fun x hx => (h3 x hx).1, hz.c, fun x hx => by have := hz.l x hx; omega⟩
  have ht := (cbad_bd hc).1
  have h4 : c.op = 68 ∨ c.op = 69 ∨ c.op = 70 ∨ c.op = 71 := by
    simp [blg] at hb
    omega
  have e : raw 7 sz ot s.pl c = eT (rmz sz) s.pl c := rfl
  rw [e]
  rcases h4 with h | h | h | h
  · exact ev_eT4 _ _ nm 7 sz ot s hw c hk ht h
  · exact ev_eT1 _ _ nm 7 sz ot s hw c hk ht h
  · exact ev_eT3 _ _ nm 7 sz ot s hw c hk ht h
  · exact ev_eT2 _ _ nm 7 sz ot s hw c hk ht h
theorem effI8 (nm : D) (sz ot : Int) (s : S) (c : Cl) (hw : s.wf) (hz : s.sz) (ha : absB 8 sz ot s = true) (hc : cbad c = false) (hb : blg 8 c.op = true) (hf : fit 8 sz c = true) :
    Rel (ev P (.call spec_limiters_effect [.d (.ag [.fn limiter_New [] [], .fn limiter_Check [] []]), .d (.ag [nm, I' 8, I' sz, I' ot]), .d (.ag s.row), .d (.ag c.row)] [])) (raw 8 sz ot s.pl c) := by
  obtain ⟨h1, h2⟩ := abs8 ha
  have h3 := nwL_bd h1
  have h4 := okL_bd h2
  have h5 := (cbad_bd hc).2
  have h6 : c.op = 72 ∨ c.op = 75 := by simpa [blg] using hb
  have h7 : c.op = 72 → 1 ≤ c.value ∧ c.value ≤ sz := by
    intro h
    simpa [fit, h] using hf
  have e : raw 8 sz ot s.pl c = eL sz ot s.pl c := rfl
  rw [e]
  exact ev_eL _ _ nm 8 sz ot s hw c ⟨h3.1, h3.2.1⟩ h3.2.2 h4.1 h4.2 h5 h6 h7
theorem effI9 (nm : D) (sz ot : Int) (s : S) (c : Cl) (hw : s.wf) (hz : s.sz) (ha : absB 9 sz ot s = true) (hc : cbad c = false) (hb : blg 9 c.op = true) (hf : fit 9 sz c = true) :
    Rel (ev P (.call spec_futures_effect [.d (.ag [.fn future_New [] [], .fn future_Check [] []]), .d (.ag [nm, I' 9, I' sz, I' ot]), .d (.ag s.row), .d (.ag c.row)] [])) (raw 9 sz ot s.pl c) := by
  have h1 : c.op = 73 ∨ c.op = 74 := by simpa [blg] using hb
  have e : raw 9 sz ot s.pl c = eF s.pl c := rfl
  rw [e]
  exact ev_eF _ rfl _ _ s hw c h1
end Go.VS.Sp
namespace Go.VS.Sp
theorem vc_pl (sz : Int) : ∀ (C : List K) (p : Option K), vc sz (p.map K.pl) (C.map K.pl) = vc sz p C
  | [], _ => rfl
  | c :: C, p => by
    have ih := vc_pl sz C (some c)
    have e : kbad sz (p.map K.pl) (K.pl c) = kbad sz p c := by
      unfold kbad
      cases p <;> rfl
    show (!kbad sz (p.map K.pl) (K.pl c) && ((K.pl c).log.all num && vc sz ((some c).map K.pl) (C.map K.pl))) = (!kbad sz p c && (c.log.all num && vc sz (some c) C))
    rw [e, ih]
    rfl
theorem ckO_pl (k sz ot : Int) (s : S) (hq : s.Q = []) : ckO k sz ot s.pl = ckO k sz ot s := by
  have hl : s.pl.C.length = s.C.length := by simp [S.pl]
  have e1 : okM s.pl = okM s := by unfold okM; rw [hl]; first | done | rfl
  have e2 : okW s.pl = okW s := by unfold okW okWb; rw [hl]; first | done | rfl
  have e3 : okS sz s.pl = okS sz s := by unfold okS; rw [hl]; first | done | rfl
  have e4 : okB s.pl = okB s := by unfold okB; rw [hl]; first | done | rfl
  have e5 : okC sz s.pl = okC sz s := by unfold okC okCb; rw [hl]; first | done | rfl
  have e6 : ckd k sz ot s.pl = ckd k sz ot s := by
    have h1 : s.pl.Q = [] := hq
    have h2 := vc_pl sz s.C none
    simp only [Option.map_none] at h2
    unfold ckd S.good
    rw [h1, hq]
    have h3 : s.pl.C = s.C.map K.pl := rfl
    have h4 : s.pl.fl0 = s.fl0 := rfl
    have h5 : s.pl.own = s.own := rfl
    rw [h3, h2, h4, h5]
    rfl
  have e7 : okL sz s.pl = okL sz s := by unfold okL; rw [hl]; first | done | rfl
  have e8 : okF s.pl = okF s := by simp [okF, okFp, S.pl, List.isEmpty_iff]
  unfold ckO
  rw [e1, e2, e3, e4, e5, e6, e7, e8]
theorem absB_pl (k sz ot : Int) (s : S) : absB k sz ot s.pl = absB k sz ot s := by
  unfold absB
  have h1 : s.pl.Q = s.Q := rfl
  have h2 : s.pl.val = s.val := rfl
  have h3 : vzO k s.pl = (vzO k s).pl := by unfold vzO; split <;> rfl
  rw [h1, h2, h3]
  by_cases hq : s.Q = []
  · rw [ckO_pl _ _ _ _ (by unfold vzO; split <;> simp [hq])]
  · have : s.Q.isEmpty = false := by simpa [List.isEmpty_iff] using hq
    simp [this]
theorem known_of {k sz ot : Int} (h : newO k sz ot = 0) : k = 1 ∨ k = 2 ∨ k = 4 ∨ k = 5 ∨ k = 6 ∨ k = 7 ∨ k = 8 ∨ k = 9 := by
  by_cases h1 : k = 1
  · exact .inl h1
  by_cases h2 : k = 2
  · exact .inr (.inl h2)
  by_cases h4 : k = 4
  · exact .inr (.inr (.inl h4))
  by_cases h5 : k = 5
  · exact .inr (.inr (.inr (.inl h5)))
  by_cases h6 : k = 6
  · exact .inr (.inr (.inr (.inr (.inl h6))))
  by_cases h7 : k = 7
  · exact .inr (.inr (.inr (.inr (.inr (.inl h7)))))
  by_cases h8 : k = 8
  · exact .inr (.inr (.inr (.inr (.inr (.inr (.inl h8))))))
  by_cases h9 : k = 9
  · exact .inr (.inr (.inr (.inr (.inr (.inr (.inr h9))))))
  simp [newO, h1, h2, h4, h5, h6, h7, h8, h9] at h
theorem absB_known {k sz ot : Int} {s : S} (h : absB k sz ot s = true) : k = 1 ∨ k = 2 ∨ k = 4 ∨ k = 5 ∨ k = 6 ∨ k = 7 ∨ k = 8 ∨ k = 9 := known_of (abs_of h).1
theorem zN_wf : zN.wf := ⟨fun _ => rfl, fun _ => rfl, fun _ => rfl, by simp [zN]⟩
theorem Rel.fail {R : Option Res} (e : Int) (h : R = some (.val (.tu [.d (.ag zrow), .d (I' 0), .d (.b false), .d (I' e)]) [])) : Rel R (Sp.er zS e) := ⟨zN, h, rfl, zN_wf⟩
end Go.VS.Sp
namespace Go.VS.Sp
theorem ev_fail (e : Int) : ev P (.call spec_EffectC1 [.d (I' e)] []) = some (.val (.tu [.d (.ag zrow), .d (I' 0), .d (.b false), .d (I' e)]) []) := by
  rw [ev_call P_spec_EffectC1 rfl]
  simp [F_spec_EffectC1, zrow]
theorem ev_of1 : ev P (.call spec_of [.d (I' 1)] []) = some (.val (.tu [.d (.ifc 101 (.ag [.fn mutex_New [] [], .fn mutex_Check [] []])), .d (.b true)]) []) := by
  rw [ev_call P_spec_of rfl]
  simp [F_spec_of, mkiV]
theorem ev_of2 : ev P (.call spec_of [.d (I' 2)] []) = some (.val (.tu [.d (.ifc 102 (.ag [.fn rwlock_New [] [], .fn rwlock_Check [] []])), .d (.b true)]) []) := by
  rw [ev_call P_spec_of rfl]
  simp [F_spec_of, mkiV]
theorem ev_of4 : ev P (.call spec_of [.d (I' 4)] []) = some (.val (.tu [.d (.ifc 103 (.ag [.fn semaphore_New [] [], .fn semaphore_Check [] []])), .d (.b true)]) []) := by
  rw [ev_call P_spec_of rfl]
  simp [F_spec_of, mkiV]
theorem ev_of5 : ev P (.call spec_of [.d (I' 5)] []) = some (.val (.tu [.d (.ifc 104 (.ag [.fn barrier_New [] [], .fn barrier_Check [] []])), .d (.b true)]) []) := by
  rw [ev_call P_spec_of rfl]
  simp [F_spec_of, mkiV]
theorem ev_of6 : ev P (.call spec_of [.d (I' 6)] []) = some (.val (.tu [.d (.ifc 105 (.ag [.fn channel_New [] [], .fn channel_Check [] []])), .d (.b true)]) []) := by
  rw [ev_call P_spec_of rfl]
  simp [F_spec_of, mkiV]
theorem ev_of7 : ev P (.call spec_of [.d (I' 7)] []) = some (.val (.tu [.d (.ifc 106 (.ag [.fn topic_New [] [], .fn topic_Check [] []])), .d (.b true)]) []) := by
  rw [ev_call P_spec_of rfl]
  simp [F_spec_of, mkiV]
theorem ev_of8 : ev P (.call spec_of [.d (I' 8)] []) = some (.val (.tu [.d (.ifc 107 (.ag [.fn limiter_New [] [], .fn limiter_Check [] []])), .d (.b true)]) []) := by
  rw [ev_call P_spec_of rfl]
  simp [F_spec_of, mkiV]
theorem ev_of9 : ev P (.call spec_of [.d (I' 9)] []) = some (.val (.tu [.d (.ifc 108 (.ag [.fn future_New [] [], .fn future_Check [] []])), .d (.b true)]) []) := by
  rw [ev_call P_spec_of rfl]
  simp [F_spec_of, mkiV]
theorem ev_ofU {k : Int} (h : ¬ (k = 1 ∨ k = 2 ∨ k = 4 ∨ k = 5 ∨ k = 6 ∨ k = 7 ∨ k = 8 ∨ k = 9)) : ev P (.call spec_of [.d (I' k)] []) = some (.val (.tu [.d .nilifc, .d (.b false)]) []) := by
  have b1 : (k == 1) = false := by simp; omega
  have b2 : (k == 2) = false := by simp; omega
  have b4 : (k == 4) = false := by simp; omega
  have b5 : (k == 5) = false := by simp; omega
  have b6 : (k == 6) = false := by simp; omega
  have b7 : (k == 7) = false := by simp; omega
  have b8 : (k == 8) = false := by simp; omega
  have b9 : (k == 9) = false := by simp; omega
  rw [ev_call P_spec_of rfl]
  simp [F_spec_of, b1, b2, b4, b5, b6, b7, b8, b9]
theorem ev_ops1 : ev P (.call spec_operations [.d (I' 1)] []) = some (.val (.mp 0) [.mp [(I' 50, .d (I' 0)), (I' 51, .d (I' 0)), (I' 52, .d (I' 0))]]) := by
  rw [ev_call P_spec_operations rfl]
  simp [F_spec_operations, endH, reachC, cut, List.idxOf_cons]
theorem ev_ops2 : ev P (.call spec_operations [.d (I' 2)] []) = some (.val (.mp 0) [.mp [(I' 53, .d (I' 0)), (I' 54, .d (I' 0)), (I' 55, .d (I' 0)), (I' 56, .d (I' 0))]]) := by
  rw [ev_call P_spec_operations rfl]
  simp [F_spec_operations, endH, reachC, cut, List.idxOf_cons]
theorem ev_ops4 : ev P (.call spec_operations [.d (I' 4)] []) = some (.val (.mp 0) [.mp [(I' 60, .d (I' 1)), (I' 61, .d (I' 1)), (I' 62, .d (I' 1))]]) := by
  rw [ev_call P_spec_operations rfl]
  simp [F_spec_operations, endH, reachC, cut, List.idxOf_cons]
theorem ev_ops5 : ev P (.call spec_operations [.d (I' 5)] []) = some (.val (.mp 0) [.mp [(I' 63, .d (I' 0))]]) := by
  rw [ev_call P_spec_operations rfl]
  simp [F_spec_operations, endH, reachC, cut, List.idxOf_cons]
theorem ev_ops6 : ev P (.call spec_operations [.d (I' 6)] []) = some (.val (.mp 0) [.mp [(I' 64, .d (I' 2)), (I' 65, .d (I' 0)), (I' 66, .d (I' 0))]]) := by
  rw [ev_call P_spec_operations rfl]
  simp [F_spec_operations, endH, reachC, cut, List.idxOf_cons]
theorem ev_ops7 : ev P (.call spec_operations [.d (I' 7)] []) = some (.val (.mp 0) [.mp [(I' 68, .d (I' 2)), (I' 69, .d (I' 0)), (I' 70, .d (I' 0)), (I' 71, .d (I' 0))]]) := by
  rw [ev_call P_spec_operations rfl]
  simp [F_spec_operations, endH, reachC, cut, List.idxOf_cons]
theorem ev_ops8 : ev P (.call spec_operations [.d (I' 8)] []) = some (.val (.mp 0) [.mp [(I' 72, .d (I' 1)), (I' 75, .d (I' 0))]]) := by
  rw [ev_call P_spec_operations rfl]
  simp [F_spec_operations, endH, reachC, cut, List.idxOf_cons]
theorem ev_ops9 : ev P (.call spec_operations [.d (I' 9)] []) = some (.val (.mp 0) [.mp [(I' 73, .d (I' 2)), (I' 74, .d (I' 0))]]) := by
  rw [ev_call P_spec_operations rfl]
  simp [F_spec_operations, endH, reachC, cut, List.idxOf_cons]
end Go.VS.Sp
namespace Go.VS.Sp
set_option maxHeartbeats 4000000 in
theorem ev_Effect1 (nm : D) (sz ot : Int) (s : S) (c : Cl) (hw : s.wf) (hz : s.sz) :
    Rel (ev P (.call spec_Effect [.d (.ag [nm, I' 1, I' sz, I' ot]), .d (.ag s.row), .d (.ag c.row)] [])) (effF 1 sz ot s.pl c) := by
  unfold effF
  rw [absB_pl]
  rw [ev_call P_spec_Effect rfl]
  by_cases hq : s.Q = []
  · have hA := ev_abs1 nm sz ot s hq hz.sm
    simp only [S.row, hq] at hA
    cases ha : absB 1 sz ot s
    · rw [ha] at hA
      rw [if_pos rfl]
      exact Rel.fail 1 (by simp [F_spec_Effect, Cl.row, ev_of1, hq, hA, invV, ev_fail, zrow])
    · rw [ha] at hA
      rw [if_neg (by decide)]
      cases hc : cbad c
      · rw [if_neg (by decide)]
        have hc2 := hc
        have hE := fun hb hf => effI1 nm sz ot s c hw hz ha hc2 hb hf
        unfold cbad at hc
        obtain ⟨tk, op, va, pr, nw⟩ := c
        simp only at hc
        by_cases h50 : op = 50
        · subst h50
          have hb : blg 1 50 = true := by decide
          simp only [hb]
          rw [if_neg (by decide)]
          have hf : fit 1 sz ⟨tk, 50, va, pr, nw⟩ = true := by simp [fit]
          rw [hf, if_neg (by decide)]
          obtain ⟨s', h1, h2, h3⟩ := hE hb hf
          generalize raw 1 sz ot s.pl ⟨tk, 50, va, pr, nw⟩ = r at *
          simp only [S.row, Cl.row, hq] at h1
          cases he : r.2.2.2 == 0
          · have he1 : ¬ r.2.2.2 = 0 := by simpa using he
            have he2 : (r.2.2.2 != 0) = true := by simpa using he1
            rw [if_neg he1]
            exact Rel.fail _ (by simp [F_spec_Effect, Cl.row, ev_of1, hq, hA, hc, ev_ops1, invV, h1, he2, ev_fail, zrow, callD, reachC, cut, List.idxOf_cons])
          · have he1 : r.2.2.2 = 0 := by simpa using he
            rw [if_pos he1]
            refine ⟨s', ?_, h2, h3⟩
            simp [F_spec_Effect, Cl.row, ev_of1, hq, hA, hc, ev_ops1, invV, h1, he1, zrow, callD, reachC, cut, List.idxOf_cons]
        by_cases h51 : op = 51
        · subst h51
          have hb : blg 1 51 = true := by decide
          simp only [hb]
          rw [if_neg (by decide)]
          have hf : fit 1 sz ⟨tk, 51, va, pr, nw⟩ = true := by simp [fit]
          rw [hf, if_neg (by decide)]
          obtain ⟨s', h1, h2, h3⟩ := hE hb hf
          generalize raw 1 sz ot s.pl ⟨tk, 51, va, pr, nw⟩ = r at *
          simp only [S.row, Cl.row, hq] at h1
          cases he : r.2.2.2 == 0
          · have he1 : ¬ r.2.2.2 = 0 := by simpa using he
            have he2 : (r.2.2.2 != 0) = true := by simpa using he1
            rw [if_neg he1]
            exact Rel.fail _ (by simp [F_spec_Effect, Cl.row, ev_of1, hq, hA, hc, ev_ops1, invV, h1, he2, ev_fail, zrow, callD, reachC, cut, List.idxOf_cons])
          · have he1 : r.2.2.2 = 0 := by simpa using he
            rw [if_pos he1]
            refine ⟨s', ?_, h2, h3⟩
            simp [F_spec_Effect, Cl.row, ev_of1, hq, hA, hc, ev_ops1, invV, h1, he1, zrow, callD, reachC, cut, List.idxOf_cons]
        by_cases h52 : op = 52
        · subst h52
          have hb : blg 1 52 = true := by decide
          simp only [hb]
          rw [if_neg (by decide)]
          have hf : fit 1 sz ⟨tk, 52, va, pr, nw⟩ = true := by simp [fit]
          rw [hf, if_neg (by decide)]
          obtain ⟨s', h1, h2, h3⟩ := hE hb hf
          generalize raw 1 sz ot s.pl ⟨tk, 52, va, pr, nw⟩ = r at *
          simp only [S.row, Cl.row, hq] at h1
          cases he : r.2.2.2 == 0
          · have he1 : ¬ r.2.2.2 = 0 := by simpa using he
            have he2 : (r.2.2.2 != 0) = true := by simpa using he1
            rw [if_neg he1]
            exact Rel.fail _ (by simp [F_spec_Effect, Cl.row, ev_of1, hq, hA, hc, ev_ops1, invV, h1, he2, ev_fail, zrow, callD, reachC, cut, List.idxOf_cons])
          · have he1 : r.2.2.2 = 0 := by simpa using he
            rw [if_pos he1]
            refine ⟨s', ?_, h2, h3⟩
            simp [F_spec_Effect, Cl.row, ev_of1, hq, hA, hc, ev_ops1, invV, h1, he1, zrow, callD, reachC, cut, List.idxOf_cons]
        have hb : blg 1 op = false := by
          cases hh : blg 1 op
          · rfl
          · exfalso
            simp [blg] at hh
            omega
        simp only [hb]
        rw [if_pos trivial]
        exact Rel.fail 8 (by simp [F_spec_Effect, Cl.row, ev_of1, hq, hA, hc, ev_ops1, h50, h51, h52, invV, ev_fail, zrow, callD, reachC, cut, List.idxOf_cons])
      · rw [if_pos rfl]
        unfold cbad at hc
        exact Rel.fail 2 (by simp [F_spec_Effect, Cl.row, ev_of1, hq, hA, hc, invV, ev_fail, zrow])
  · have ha : absB 1 sz ot s = false := by
      cases hh : absB 1 sz ot s
      · rfl
      · exact absurd (abs_of hh).2.1 hq
    rw [ha, if_pos rfl]
    have hp : 0 < s.Q.length := List.length_pos_iff.2 hq
    exact Rel.fail 1 (by simp [F_spec_Effect, Cl.row, ev_of1, hp, ev_fail, zrow])
end Go.VS.Sp
namespace Go.VS.Sp
set_option maxHeartbeats 4000000 in
theorem ev_Effect2 (nm : D) (sz ot : Int) (s : S) (c : Cl) (hw : s.wf) (hz : s.sz) :
    Rel (ev P (.call spec_Effect [.d (.ag [nm, I' 2, I' sz, I' ot]), .d (.ag s.row), .d (.ag c.row)] [])) (effF 2 sz ot s.pl c) := by
  unfold effF
  rw [absB_pl]
  rw [ev_call P_spec_Effect rfl]
  by_cases hq : s.Q = []
  · have hA := ev_abs2 nm sz ot s hq hz.sm
    simp only [S.row, hq] at hA
    cases ha : absB 2 sz ot s
    · rw [ha] at hA
      rw [if_pos rfl]
      exact Rel.fail 1 (by simp [F_spec_Effect, Cl.row, ev_of2, hq, hA, invV, ev_fail, zrow])
    · rw [ha] at hA
      rw [if_neg (by decide)]
      cases hc : cbad c
      · rw [if_neg (by decide)]
        have hc2 := hc
        have hE := fun hb hf => effI2 nm sz ot s c hw hz ha hc2 hb hf
        unfold cbad at hc
        obtain ⟨tk, op, va, pr, nw⟩ := c
        simp only at hc
        by_cases h53 : op = 53
        · subst h53
          have hb : blg 2 53 = true := by decide
          simp only [hb]
          rw [if_neg (by decide)]
          have hf : fit 2 sz ⟨tk, 53, va, pr, nw⟩ = true := by simp [fit]
          rw [hf, if_neg (by decide)]
          obtain ⟨s', h1, h2, h3⟩ := hE hb hf
          generalize raw 2 sz ot s.pl ⟨tk, 53, va, pr, nw⟩ = r at *
          simp only [S.row, Cl.row, hq] at h1
          cases he : r.2.2.2 == 0
          · have he1 : ¬ r.2.2.2 = 0 := by simpa using he
            have he2 : (r.2.2.2 != 0) = true := by simpa using he1
            rw [if_neg he1]
            exact Rel.fail _ (by simp [F_spec_Effect, Cl.row, ev_of2, hq, hA, hc, ev_ops2, invV, h1, he2, ev_fail, zrow, callD, reachC, cut, List.idxOf_cons])
          · have he1 : r.2.2.2 = 0 := by simpa using he
            rw [if_pos he1]
            refine ⟨s', ?_, h2, h3⟩
            simp [F_spec_Effect, Cl.row, ev_of2, hq, hA, hc, ev_ops2, invV, h1, he1, zrow, callD, reachC, cut, List.idxOf_cons]
        by_cases h54 : op = 54
        · subst h54
          have hb : blg 2 54 = true := by decide
          simp only [hb]
          rw [if_neg (by decide)]
          have hf : fit 2 sz ⟨tk, 54, va, pr, nw⟩ = true := by simp [fit]
          rw [hf, if_neg (by decide)]
          obtain ⟨s', h1, h2, h3⟩ := hE hb hf
          generalize raw 2 sz ot s.pl ⟨tk, 54, va, pr, nw⟩ = r at *
          simp only [S.row, Cl.row, hq] at h1
          cases he : r.2.2.2 == 0
          · have he1 : ¬ r.2.2.2 = 0 := by simpa using he
            have he2 : (r.2.2.2 != 0) = true := by simpa using he1
            rw [if_neg he1]
            exact Rel.fail _ (by simp [F_spec_Effect, Cl.row, ev_of2, hq, hA, hc, ev_ops2, invV, h1, he2, ev_fail, zrow, callD, reachC, cut, List.idxOf_cons])
          · have he1 : r.2.2.2 = 0 := by simpa using he
            rw [if_pos he1]
            refine ⟨s', ?_, h2, h3⟩
            simp [F_spec_Effect, Cl.row, ev_of2, hq, hA, hc, ev_ops2, invV, h1, he1, zrow, callD, reachC, cut, List.idxOf_cons]
        by_cases h55 : op = 55
        · subst h55
          have hb : blg 2 55 = true := by decide
          simp only [hb]
          rw [if_neg (by decide)]
          have hf : fit 2 sz ⟨tk, 55, va, pr, nw⟩ = true := by simp [fit]
          rw [hf, if_neg (by decide)]
          obtain ⟨s', h1, h2, h3⟩ := hE hb hf
          generalize raw 2 sz ot s.pl ⟨tk, 55, va, pr, nw⟩ = r at *
          simp only [S.row, Cl.row, hq] at h1
          cases he : r.2.2.2 == 0
          · have he1 : ¬ r.2.2.2 = 0 := by simpa using he
            have he2 : (r.2.2.2 != 0) = true := by simpa using he1
            rw [if_neg he1]
            exact Rel.fail _ (by simp [F_spec_Effect, Cl.row, ev_of2, hq, hA, hc, ev_ops2, invV, h1, he2, ev_fail, zrow, callD, reachC, cut, List.idxOf_cons])
          · have he1 : r.2.2.2 = 0 := by simpa using he
            rw [if_pos he1]
            refine ⟨s', ?_, h2, h3⟩
            simp [F_spec_Effect, Cl.row, ev_of2, hq, hA, hc, ev_ops2, invV, h1, he1, zrow, callD, reachC, cut, List.idxOf_cons]
        by_cases h56 : op = 56
        · subst h56
          have hb : blg 2 56 = true := by decide
          simp only [hb]
          rw [if_neg (by decide)]
          have hf : fit 2 sz ⟨tk, 56, va, pr, nw⟩ = true := by simp [fit]
          rw [hf, if_neg (by decide)]
          obtain ⟨s', h1, h2, h3⟩ := hE hb hf
          generalize raw 2 sz ot s.pl ⟨tk, 56, va, pr, nw⟩ = r at *
          simp only [S.row, Cl.row, hq] at h1
          cases he : r.2.2.2 == 0
          · have he1 : ¬ r.2.2.2 = 0 := by simpa using he
            have he2 : (r.2.2.2 != 0) = true := by simpa using he1
            rw [if_neg he1]
            exact Rel.fail _ (by simp [F_spec_Effect, Cl.row, ev_of2, hq, hA, hc, ev_ops2, invV, h1, he2, ev_fail, zrow, callD, reachC, cut, List.idxOf_cons])
          · have he1 : r.2.2.2 = 0 := by simpa using he
            rw [if_pos he1]
            refine ⟨s', ?_, h2, h3⟩
            simp [F_spec_Effect, Cl.row, ev_of2, hq, hA, hc, ev_ops2, invV, h1, he1, zrow, callD, reachC, cut, List.idxOf_cons]
        have hb : blg 2 op = false := by
          cases hh : blg 2 op
          · rfl
          · exfalso
            simp [blg] at hh
            omega
        simp only [hb]
        rw [if_pos trivial]
        exact Rel.fail 8 (by simp [F_spec_Effect, Cl.row, ev_of2, hq, hA, hc, ev_ops2, h53, h54, h55, h56, invV, ev_fail, zrow, callD, reachC, cut, List.idxOf_cons])
      · rw [if_pos rfl]
        unfold cbad at hc
        exact Rel.fail 2 (by simp [F_spec_Effect, Cl.row, ev_of2, hq, hA, hc, invV, ev_fail, zrow])
  · have ha : absB 2 sz ot s = false := by
      cases hh : absB 2 sz ot s
      · rfl
      · exact absurd (abs_of hh).2.1 hq
    rw [ha, if_pos rfl]
    have hp : 0 < s.Q.length := List.length_pos_iff.2 hq
    exact Rel.fail 1 (by simp [F_spec_Effect, Cl.row, ev_of2, hp, ev_fail, zrow])
end Go.VS.Sp
namespace Go.VS.Sp
set_option maxHeartbeats 4000000 in
theorem ev_Effect4 (nm : D) (sz ot : Int) (s : S) (c : Cl) (hw : s.wf) (hz : s.sz) :
    Rel (ev P (.call spec_Effect [.d (.ag [nm, I' 4, I' sz, I' ot]), .d (.ag s.row), .d (.ag c.row)] [])) (effF 4 sz ot s.pl c) := by
  unfold effF
  rw [absB_pl]
  rw [ev_call P_spec_Effect rfl]
  by_cases hq : s.Q = []
  · have hA := ev_abs4 nm sz ot s hq hz.sm
    simp only [S.row, hq] at hA
    cases ha : absB 4 sz ot s
    · rw [ha] at hA
      rw [if_pos rfl]
      exact Rel.fail 1 (by simp [F_spec_Effect, Cl.row, ev_of4, hq, hA, invV, ev_fail, zrow])
    · rw [ha] at hA
      rw [if_neg (by decide)]
      cases hc : cbad c
      · rw [if_neg (by decide)]
        have hc2 := hc
        have hE := fun hb hf => effI4 nm sz ot s c hw hz ha hc2 hb hf
        unfold cbad at hc
        obtain ⟨tk, op, va, pr, nw⟩ := c
        simp only at hc
        by_cases h60 : op = 60
        · subst h60
          have hb : blg 4 60 = true := by decide
          simp only [hb]
          rw [if_neg (by decide)]
          cases hv : (decide (va < 1) || decide (sz < va))
          · have hf : fit 4 sz ⟨tk, 60, va, pr, nw⟩ = true := by
              simp at hv
              simp [fit, num]
              omega
            rw [hf, if_neg (by decide)]
            obtain ⟨s', h1, h2, h3⟩ := hE hb hf
            generalize raw 4 sz ot s.pl ⟨tk, 60, va, pr, nw⟩ = r at *
            simp only [S.row, Cl.row, hq] at h1
            cases he : r.2.2.2 == 0
            · have he1 : ¬ r.2.2.2 = 0 := by simpa using he
              have he2 : (r.2.2.2 != 0) = true := by simpa using he1
              rw [if_neg he1]
              exact Rel.fail _ (by simp [F_spec_Effect, Cl.row, ev_of4, hq, hA, hc, hv, ev_ops4, invV, h1, he2, ev_fail, zrow, callD, reachC, cut, List.idxOf_cons])
            · have he1 : r.2.2.2 = 0 := by simpa using he
              rw [if_pos he1]
              refine ⟨s', ?_, h2, h3⟩
              simp [F_spec_Effect, Cl.row, ev_of4, hq, hA, hc, hv, ev_ops4, invV, h1, he1, zrow, callD, reachC, cut, List.idxOf_cons]
          · have hf : fit 4 sz ⟨tk, 60, va, pr, nw⟩ = false := by
              cases hh : fit 4 sz ⟨tk, 60, va, pr, nw⟩
              · rfl
              · exfalso
                simp at hv
                simp [fit, num] at hh
                omega
            rw [hf, if_pos rfl]
            exact Rel.fail 2 (by simp [F_spec_Effect, Cl.row, ev_of4, hq, hA, hc, hv, ev_ops4, invV, ev_fail, zrow, callD, reachC, cut, List.idxOf_cons])
        by_cases h61 : op = 61
        · subst h61
          have hb : blg 4 61 = true := by decide
          simp only [hb]
          rw [if_neg (by decide)]
          cases hv : (decide (va < 1) || decide (sz < va))
          · have hf : fit 4 sz ⟨tk, 61, va, pr, nw⟩ = true := by
              simp at hv
              simp [fit, num]
              omega
            rw [hf, if_neg (by decide)]
            obtain ⟨s', h1, h2, h3⟩ := hE hb hf
            generalize raw 4 sz ot s.pl ⟨tk, 61, va, pr, nw⟩ = r at *
            simp only [S.row, Cl.row, hq] at h1
            cases he : r.2.2.2 == 0
            · have he1 : ¬ r.2.2.2 = 0 := by simpa using he
              have he2 : (r.2.2.2 != 0) = true := by simpa using he1
              rw [if_neg he1]
              exact Rel.fail _ (by simp [F_spec_Effect, Cl.row, ev_of4, hq, hA, hc, hv, ev_ops4, invV, h1, he2, ev_fail, zrow, callD, reachC, cut, List.idxOf_cons])
            · have he1 : r.2.2.2 = 0 := by simpa using he
              rw [if_pos he1]
              refine ⟨s', ?_, h2, h3⟩
              simp [F_spec_Effect, Cl.row, ev_of4, hq, hA, hc, hv, ev_ops4, invV, h1, he1, zrow, callD, reachC, cut, List.idxOf_cons]
          · have hf : fit 4 sz ⟨tk, 61, va, pr, nw⟩ = false := by
              cases hh : fit 4 sz ⟨tk, 61, va, pr, nw⟩
              · rfl
              · exfalso
                simp at hv
                simp [fit, num] at hh
                omega
            rw [hf, if_pos rfl]
            exact Rel.fail 2 (by simp [F_spec_Effect, Cl.row, ev_of4, hq, hA, hc, hv, ev_ops4, invV, ev_fail, zrow, callD, reachC, cut, List.idxOf_cons])
        by_cases h62 : op = 62
        · subst h62
          have hb : blg 4 62 = true := by decide
          simp only [hb]
          rw [if_neg (by decide)]
          cases hv : (decide (va < 1) || decide (sz < va))
          · have hf : fit 4 sz ⟨tk, 62, va, pr, nw⟩ = true := by
              simp at hv
              simp [fit, num]
              omega
            rw [hf, if_neg (by decide)]
            obtain ⟨s', h1, h2, h3⟩ := hE hb hf
            generalize raw 4 sz ot s.pl ⟨tk, 62, va, pr, nw⟩ = r at *
            simp only [S.row, Cl.row, hq] at h1
            cases he : r.2.2.2 == 0
            · have he1 : ¬ r.2.2.2 = 0 := by simpa using he
              have he2 : (r.2.2.2 != 0) = true := by simpa using he1
              rw [if_neg he1]
              exact Rel.fail _ (by simp [F_spec_Effect, Cl.row, ev_of4, hq, hA, hc, hv, ev_ops4, invV, h1, he2, ev_fail, zrow, callD, reachC, cut, List.idxOf_cons])
            · have he1 : r.2.2.2 = 0 := by simpa using he
              rw [if_pos he1]
              refine ⟨s', ?_, h2, h3⟩
              simp [F_spec_Effect, Cl.row, ev_of4, hq, hA, hc, hv, ev_ops4, invV, h1, he1, zrow, callD, reachC, cut, List.idxOf_cons]
          · have hf : fit 4 sz ⟨tk, 62, va, pr, nw⟩ = false := by
              cases hh : fit 4 sz ⟨tk, 62, va, pr, nw⟩
              · rfl
              · exfalso
                simp at hv
                simp [fit, num] at hh
                omega
            rw [hf, if_pos rfl]
            exact Rel.fail 2 (by simp [F_spec_Effect, Cl.row, ev_of4, hq, hA, hc, hv, ev_ops4, invV, ev_fail, zrow, callD, reachC, cut, List.idxOf_cons])
        have hb : blg 4 op = false := by
          cases hh : blg 4 op
          · rfl
          · exfalso
            simp [blg] at hh
            omega
        simp only [hb]
        rw [if_pos trivial]
        exact Rel.fail 8 (by simp [F_spec_Effect, Cl.row, ev_of4, hq, hA, hc, ev_ops4, h60, h61, h62, invV, ev_fail, zrow, callD, reachC, cut, List.idxOf_cons])
      · rw [if_pos rfl]
        unfold cbad at hc
        exact Rel.fail 2 (by simp [F_spec_Effect, Cl.row, ev_of4, hq, hA, hc, invV, ev_fail, zrow])
  · have ha : absB 4 sz ot s = false := by
      cases hh : absB 4 sz ot s
      · rfl
      · exact absurd (abs_of hh).2.1 hq
    rw [ha, if_pos rfl]
    have hp : 0 < s.Q.length := List.length_pos_iff.2 hq
    exact Rel.fail 1 (by simp [F_spec_Effect, Cl.row, ev_of4, hp, ev_fail, zrow])
end Go.VS.Sp
namespace Go.VS.Sp
set_option maxHeartbeats 4000000 in
theorem ev_Effect5 (nm : D) (sz ot : Int) (s : S) (c : Cl) (hw : s.wf) (hz : s.sz) :
    Rel (ev P (.call spec_Effect [.d (.ag [nm, I' 5, I' sz, I' ot]), .d (.ag s.row), .d (.ag c.row)] [])) (effF 5 sz ot s.pl c) := by
  unfold effF
  rw [absB_pl]
  rw [ev_call P_spec_Effect rfl]
  by_cases hq : s.Q = []
  · have hA := ev_abs5 nm sz ot s hq hz.sm
    simp only [S.row, hq] at hA
    cases ha : absB 5 sz ot s
    · rw [ha] at hA
      rw [if_pos rfl]
      exact Rel.fail 1 (by simp [F_spec_Effect, Cl.row, ev_of5, hq, hA, invV, ev_fail, zrow])
    · rw [ha] at hA
      rw [if_neg (by decide)]
      cases hc : cbad c
      · rw [if_neg (by decide)]
        have hc2 := hc
        have hE := fun hb hf => effI5 nm sz ot s c hw hz ha hc2 hb hf
        unfold cbad at hc
        obtain ⟨tk, op, va, pr, nw⟩ := c
        simp only at hc
        by_cases h63 : op = 63
        · subst h63
          have hb : blg 5 63 = true := by decide
          simp only [hb]
          rw [if_neg (by decide)]
          have hf : fit 5 sz ⟨tk, 63, va, pr, nw⟩ = true := by simp [fit]
          rw [hf, if_neg (by decide)]
          obtain ⟨s', h1, h2, h3⟩ := hE hb hf
          generalize raw 5 sz ot s.pl ⟨tk, 63, va, pr, nw⟩ = r at *
          simp only [S.row, Cl.row, hq] at h1
          cases he : r.2.2.2 == 0
          · have he1 : ¬ r.2.2.2 = 0 := by simpa using he
            have he2 : (r.2.2.2 != 0) = true := by simpa using he1
            rw [if_neg he1]
            exact Rel.fail _ (by simp [F_spec_Effect, Cl.row, ev_of5, hq, hA, hc, ev_ops5, invV, h1, he2, ev_fail, zrow, callD, reachC, cut, List.idxOf_cons])
          · have he1 : r.2.2.2 = 0 := by simpa using he
            rw [if_pos he1]
            refine ⟨s', ?_, h2, h3⟩
            simp [F_spec_Effect, Cl.row, ev_of5, hq, hA, hc, ev_ops5, invV, h1, he1, zrow, callD, reachC, cut, List.idxOf_cons]
        have hb : blg 5 op = false := by
          cases hh : blg 5 op
          · rfl
          · exfalso
            simp [blg] at hh
            omega
        simp only [hb]
        rw [if_pos trivial]
        exact Rel.fail 8 (by simp [F_spec_Effect, Cl.row, ev_of5, hq, hA, hc, ev_ops5, h63, invV, ev_fail, zrow, callD, reachC, cut, List.idxOf_cons])
      · rw [if_pos rfl]
        unfold cbad at hc
        exact Rel.fail 2 (by simp [F_spec_Effect, Cl.row, ev_of5, hq, hA, hc, invV, ev_fail, zrow])
  · have ha : absB 5 sz ot s = false := by
      cases hh : absB 5 sz ot s
      · rfl
      · exact absurd (abs_of hh).2.1 hq
    rw [ha, if_pos rfl]
    have hp : 0 < s.Q.length := List.length_pos_iff.2 hq
    exact Rel.fail 1 (by simp [F_spec_Effect, Cl.row, ev_of5, hp, ev_fail, zrow])
end Go.VS.Sp
namespace Go.VS.Sp
set_option maxHeartbeats 4000000 in
theorem ev_Effect6 (nm : D) (sz ot : Int) (s : S) (c : Cl) (hw : s.wf) (hz : s.sz) :
    Rel (ev P (.call spec_Effect [.d (.ag [nm, I' 6, I' sz, I' ot]), .d (.ag s.row), .d (.ag c.row)] [])) (effF 6 sz ot s.pl c) := by
  unfold effF
  rw [absB_pl]
  rw [ev_call P_spec_Effect rfl]
  by_cases hq : s.Q = []
  · have hA := ev_abs6 nm sz ot s hq hz.sm
    simp only [S.row, hq] at hA
    cases ha : absB 6 sz ot s
    · rw [ha] at hA
      rw [if_pos rfl]
      exact Rel.fail 1 (by simp [F_spec_Effect, Cl.row, ev_of6, hq, hA, invV, ev_fail, zrow])
    · rw [ha] at hA
      rw [if_neg (by decide)]
      cases hc : cbad c
      · rw [if_neg (by decide)]
        have hc2 := hc
        have hE := fun hb hf => effI6 nm sz ot s c hw hz ha hc2 hb hf
        unfold cbad at hc
        obtain ⟨tk, op, va, pr, nw⟩ := c
        simp only at hc
        by_cases h64 : op = 64
        · subst h64
          have hb : blg 6 64 = true := by decide
          simp only [hb]
          rw [if_neg (by decide)]
          cases hv : (decide (va < -1099511627776) || decide (1099511627776 < va))
          · have hf : fit 6 sz ⟨tk, 64, va, pr, nw⟩ = true := by
              simp at hv
              simp [fit, num]
              omega
            rw [hf, if_neg (by decide)]
            obtain ⟨s', h1, h2, h3⟩ := hE hb hf
            generalize raw 6 sz ot s.pl ⟨tk, 64, va, pr, nw⟩ = r at *
            simp only [S.row, Cl.row, hq] at h1
            cases he : r.2.2.2 == 0
            · have he1 : ¬ r.2.2.2 = 0 := by simpa using he
              have he2 : (r.2.2.2 != 0) = true := by simpa using he1
              rw [if_neg he1]
              exact Rel.fail _ (by simp [F_spec_Effect, Cl.row, ev_of6, hq, hA, hc, hv, ev_ops6, invV, h1, he2, ev_fail, zrow, callD, reachC, cut, List.idxOf_cons])
            · have he1 : r.2.2.2 = 0 := by simpa using he
              rw [if_pos he1]
              refine ⟨s', ?_, h2, h3⟩
              simp [F_spec_Effect, Cl.row, ev_of6, hq, hA, hc, hv, ev_ops6, invV, h1, he1, zrow, callD, reachC, cut, List.idxOf_cons]
          · have hf : fit 6 sz ⟨tk, 64, va, pr, nw⟩ = false := by
              cases hh : fit 6 sz ⟨tk, 64, va, pr, nw⟩
              · rfl
              · exfalso
                simp at hv
                simp [fit, num] at hh
                omega
            rw [hf, if_pos rfl]
            exact Rel.fail 2 (by simp [F_spec_Effect, Cl.row, ev_of6, hq, hA, hc, hv, ev_ops6, invV, ev_fail, zrow, callD, reachC, cut, List.idxOf_cons])
        by_cases h65 : op = 65
        · subst h65
          have hb : blg 6 65 = true := by decide
          simp only [hb]
          rw [if_neg (by decide)]
          have hf : fit 6 sz ⟨tk, 65, va, pr, nw⟩ = true := by simp [fit]
          rw [hf, if_neg (by decide)]
          obtain ⟨s', h1, h2, h3⟩ := hE hb hf
          generalize raw 6 sz ot s.pl ⟨tk, 65, va, pr, nw⟩ = r at *
          simp only [S.row, Cl.row, hq] at h1
          cases he : r.2.2.2 == 0
          · have he1 : ¬ r.2.2.2 = 0 := by simpa using he
            have he2 : (r.2.2.2 != 0) = true := by simpa using he1
            rw [if_neg he1]
            exact Rel.fail _ (by simp [F_spec_Effect, Cl.row, ev_of6, hq, hA, hc, ev_ops6, invV, h1, he2, ev_fail, zrow, callD, reachC, cut, List.idxOf_cons])
          · have he1 : r.2.2.2 = 0 := by simpa using he
            rw [if_pos he1]
            refine ⟨s', ?_, h2, h3⟩
            simp [F_spec_Effect, Cl.row, ev_of6, hq, hA, hc, ev_ops6, invV, h1, he1, zrow, callD, reachC, cut, List.idxOf_cons]
        by_cases h66 : op = 66
        · subst h66
          have hb : blg 6 66 = true := by decide
          simp only [hb]
          rw [if_neg (by decide)]
          have hf : fit 6 sz ⟨tk, 66, va, pr, nw⟩ = true := by simp [fit]
          rw [hf, if_neg (by decide)]
          obtain ⟨s', h1, h2, h3⟩ := hE hb hf
          generalize raw 6 sz ot s.pl ⟨tk, 66, va, pr, nw⟩ = r at *
          simp only [S.row, Cl.row, hq] at h1
          cases he : r.2.2.2 == 0
          · have he1 : ¬ r.2.2.2 = 0 := by simpa using he
            have he2 : (r.2.2.2 != 0) = true := by simpa using he1
            rw [if_neg he1]
            exact Rel.fail _ (by simp [F_spec_Effect, Cl.row, ev_of6, hq, hA, hc, ev_ops6, invV, h1, he2, ev_fail, zrow, callD, reachC, cut, List.idxOf_cons])
          · have he1 : r.2.2.2 = 0 := by simpa using he
            rw [if_pos he1]
            refine ⟨s', ?_, h2, h3⟩
            simp [F_spec_Effect, Cl.row, ev_of6, hq, hA, hc, ev_ops6, invV, h1, he1, zrow, callD, reachC, cut, List.idxOf_cons]
        have hb : blg 6 op = false := by
          cases hh : blg 6 op
          · rfl
          · exfalso
            simp [blg] at hh
            omega
        simp only [hb]
        rw [if_pos trivial]
        exact Rel.fail 8 (by simp [F_spec_Effect, Cl.row, ev_of6, hq, hA, hc, ev_ops6, h64, h65, h66, invV, ev_fail, zrow, callD, reachC, cut, List.idxOf_cons])
      · rw [if_pos rfl]
        unfold cbad at hc
        exact Rel.fail 2 (by simp [F_spec_Effect, Cl.row, ev_of6, hq, hA, hc, invV, ev_fail, zrow])
  · have ha : absB 6 sz ot s = false := by
      cases hh : absB 6 sz ot s
      · rfl
      · exact absurd (abs_of hh).2.1 hq
    rw [ha, if_pos rfl]
    have hp : 0 < s.Q.length := List.length_pos_iff.2 hq
    exact Rel.fail 1 (by simp [F_spec_Effect, Cl.row, ev_of6, hp, ev_fail, zrow])
end Go.VS.Sp
namespace Go.VS.Sp
set_option maxHeartbeats 4000000 in
theorem ev_Effect7 (nm : D) (sz ot : Int) (s : S) (c : Cl) (hw : s.wf) (hz : s.sz) :
    Rel (ev P (.call spec_Effect [.d (.ag [nm, I' 7, I' sz, I' ot]), .d (.ag s.row), .d (.ag c.row)] [])) (effF 7 sz ot s.pl c) := by
  unfold effF
  rw [absB_pl]
  rw [ev_call P_spec_Effect rfl]
  by_cases hq : s.Q = []
  · have hA := ev_abs7 nm sz ot s hq hz.sm
    simp only [S.row, hq] at hA
    cases ha : absB 7 sz ot s
    · rw [ha] at hA
      rw [if_pos rfl]
      exact Rel.fail 1 (by simp [F_spec_Effect, Cl.row, ev_of7, hq, hA, invV, ev_fail, zrow])
    · rw [ha] at hA
      rw [if_neg (by decide)]
      cases hc : cbad c
      · rw [if_neg (by decide)]
        have hc2 := hc
        have hE := fun hb hf => effI7 nm sz ot s c hw hz ha hc2 hb hf
        unfold cbad at hc
        obtain ⟨tk, op, va, pr, nw⟩ := c
        simp only at hc
        by_cases h68 : op = 68
        · subst h68
          have hb : blg 7 68 = true := by decide
          simp only [hb]
          rw [if_neg (by decide)]
          cases hv : (decide (va < -1099511627776) || decide (1099511627776 < va))
          · have hf : fit 7 sz ⟨tk, 68, va, pr, nw⟩ = true := by
              simp at hv
              simp [fit, num]
              omega
            rw [hf, if_neg (by decide)]
            obtain ⟨s', h1, h2, h3⟩ := hE hb hf
            generalize raw 7 sz ot s.pl ⟨tk, 68, va, pr, nw⟩ = r at *
            simp only [S.row, Cl.row, hq] at h1
            cases he : r.2.2.2 == 0
            · have he1 : ¬ r.2.2.2 = 0 := by simpa using he
              have he2 : (r.2.2.2 != 0) = true := by simpa using he1
              rw [if_neg he1]
              exact Rel.fail _ (by simp [F_spec_Effect, Cl.row, ev_of7, hq, hA, hc, hv, ev_ops7, invV, h1, he2, ev_fail, zrow, callD, reachC, cut, List.idxOf_cons])
            · have he1 : r.2.2.2 = 0 := by simpa using he
              rw [if_pos he1]
              refine ⟨s', ?_, h2, h3⟩
              simp [F_spec_Effect, Cl.row, ev_of7, hq, hA, hc, hv, ev_ops7, invV, h1, he1, zrow, callD, reachC, cut, List.idxOf_cons]
          · have hf : fit 7 sz ⟨tk, 68, va, pr, nw⟩ = false := by
              cases hh : fit 7 sz ⟨tk, 68, va, pr, nw⟩
              · rfl
              · exfalso
                simp at hv
                simp [fit, num] at hh
                omega
            rw [hf, if_pos rfl]
            exact Rel.fail 2 (by simp [F_spec_Effect, Cl.row, ev_of7, hq, hA, hc, hv, ev_ops7, invV, ev_fail, zrow, callD, reachC, cut, List.idxOf_cons])
        by_cases h69 : op = 69
        · subst h69
          have hb : blg 7 69 = true := by decide
          simp only [hb]
          rw [if_neg (by decide)]
          have hf : fit 7 sz ⟨tk, 69, va, pr, nw⟩ = true := by simp [fit]
          rw [hf, if_neg (by decide)]
          obtain ⟨s', h1, h2, h3⟩ := hE hb hf
          generalize raw 7 sz ot s.pl ⟨tk, 69, va, pr, nw⟩ = r at *
          simp only [S.row, Cl.row, hq] at h1
          cases he : r.2.2.2 == 0
          · have he1 : ¬ r.2.2.2 = 0 := by simpa using he
            have he2 : (r.2.2.2 != 0) = true := by simpa using he1
            rw [if_neg he1]
            exact Rel.fail _ (by simp [F_spec_Effect, Cl.row, ev_of7, hq, hA, hc, ev_ops7, invV, h1, he2, ev_fail, zrow, callD, reachC, cut, List.idxOf_cons])
          · have he1 : r.2.2.2 = 0 := by simpa using he
            rw [if_pos he1]
            refine ⟨s', ?_, h2, h3⟩
            simp [F_spec_Effect, Cl.row, ev_of7, hq, hA, hc, ev_ops7, invV, h1, he1, zrow, callD, reachC, cut, List.idxOf_cons]
        by_cases h70 : op = 70
        · subst h70
          have hb : blg 7 70 = true := by decide
          simp only [hb]
          rw [if_neg (by decide)]
          have hf : fit 7 sz ⟨tk, 70, va, pr, nw⟩ = true := by simp [fit]
          rw [hf, if_neg (by decide)]
          obtain ⟨s', h1, h2, h3⟩ := hE hb hf
          generalize raw 7 sz ot s.pl ⟨tk, 70, va, pr, nw⟩ = r at *
          simp only [S.row, Cl.row, hq] at h1
          cases he : r.2.2.2 == 0
          · have he1 : ¬ r.2.2.2 = 0 := by simpa using he
            have he2 : (r.2.2.2 != 0) = true := by simpa using he1
            rw [if_neg he1]
            exact Rel.fail _ (by simp [F_spec_Effect, Cl.row, ev_of7, hq, hA, hc, ev_ops7, invV, h1, he2, ev_fail, zrow, callD, reachC, cut, List.idxOf_cons])
          · have he1 : r.2.2.2 = 0 := by simpa using he
            rw [if_pos he1]
            refine ⟨s', ?_, h2, h3⟩
            simp [F_spec_Effect, Cl.row, ev_of7, hq, hA, hc, ev_ops7, invV, h1, he1, zrow, callD, reachC, cut, List.idxOf_cons]
        by_cases h71 : op = 71
        · subst h71
          have hb : blg 7 71 = true := by decide
          simp only [hb]
          rw [if_neg (by decide)]
          have hf : fit 7 sz ⟨tk, 71, va, pr, nw⟩ = true := by simp [fit]
          rw [hf, if_neg (by decide)]
          obtain ⟨s', h1, h2, h3⟩ := hE hb hf
          generalize raw 7 sz ot s.pl ⟨tk, 71, va, pr, nw⟩ = r at *
          simp only [S.row, Cl.row, hq] at h1
          cases he : r.2.2.2 == 0
          · have he1 : ¬ r.2.2.2 = 0 := by simpa using he
            have he2 : (r.2.2.2 != 0) = true := by simpa using he1
            rw [if_neg he1]
            exact Rel.fail _ (by simp [F_spec_Effect, Cl.row, ev_of7, hq, hA, hc, ev_ops7, invV, h1, he2, ev_fail, zrow, callD, reachC, cut, List.idxOf_cons])
          · have he1 : r.2.2.2 = 0 := by simpa using he
            rw [if_pos he1]
            refine ⟨s', ?_, h2, h3⟩
            simp [F_spec_Effect, Cl.row, ev_of7, hq, hA, hc, ev_ops7, invV, h1, he1, zrow, callD, reachC, cut, List.idxOf_cons]
        have hb : blg 7 op = false := by
          cases hh : blg 7 op
          · rfl
          · exfalso
            simp [blg] at hh
            omega
        simp only [hb]
        rw [if_pos trivial]
        exact Rel.fail 8 (by simp [F_spec_Effect, Cl.row, ev_of7, hq, hA, hc, ev_ops7, h68, h69, h70, h71, invV, ev_fail, zrow, callD, reachC, cut, List.idxOf_cons])
      · rw [if_pos rfl]
        unfold cbad at hc
        exact Rel.fail 2 (by simp [F_spec_Effect, Cl.row, ev_of7, hq, hA, hc, invV, ev_fail, zrow])
  · have ha : absB 7 sz ot s = false := by
      cases hh : absB 7 sz ot s
      · rfl
      · exact absurd (abs_of hh).2.1 hq
    rw [ha, if_pos rfl]
    have hp : 0 < s.Q.length := List.length_pos_iff.2 hq
    exact Rel.fail 1 (by simp [F_spec_Effect, Cl.row, ev_of7, hp, ev_fail, zrow])
end Go.VS.Sp
namespace Go.VS.Sp
set_option maxHeartbeats 4000000 in
theorem ev_Effect8 (nm : D) (sz ot : Int) (s : S) (c : Cl) (hw : s.wf) (hz : s.sz) :
    Rel (ev P (.call spec_Effect [.d (.ag [nm, I' 8, I' sz, I' ot]), .d (.ag s.row), .d (.ag c.row)] [])) (effF 8 sz ot s.pl c) := by
  unfold effF
  rw [absB_pl]
  rw [ev_call P_spec_Effect rfl]
  by_cases hq : s.Q = []
  · have hA := ev_abs8 nm sz ot s hq hz.sm
    simp only [S.row, hq] at hA
    cases ha : absB 8 sz ot s
    · rw [ha] at hA
      rw [if_pos rfl]
      exact Rel.fail 1 (by simp [F_spec_Effect, Cl.row, ev_of8, hq, hA, invV, ev_fail, zrow])
    · rw [ha] at hA
      rw [if_neg (by decide)]
      cases hc : cbad c
      · rw [if_neg (by decide)]
        have hc2 := hc
        have hE := fun hb hf => effI8 nm sz ot s c hw hz ha hc2 hb hf
        unfold cbad at hc
        obtain ⟨tk, op, va, pr, nw⟩ := c
        simp only at hc
        by_cases h72 : op = 72
        · subst h72
          have hb : blg 8 72 = true := by decide
          simp only [hb]
          rw [if_neg (by decide)]
          cases hv : (decide (va < 1) || decide (sz < va))
          · have hf : fit 8 sz ⟨tk, 72, va, pr, nw⟩ = true := by
              simp at hv
              simp [fit, num]
              omega
            rw [hf, if_neg (by decide)]
            obtain ⟨s', h1, h2, h3⟩ := hE hb hf
            generalize raw 8 sz ot s.pl ⟨tk, 72, va, pr, nw⟩ = r at *
            simp only [S.row, Cl.row, hq] at h1
            cases he : r.2.2.2 == 0
            · have he1 : ¬ r.2.2.2 = 0 := by simpa using he
              have he2 : (r.2.2.2 != 0) = true := by simpa using he1
              rw [if_neg he1]
              exact Rel.fail _ (by simp [F_spec_Effect, Cl.row, ev_of8, hq, hA, hc, hv, ev_ops8, invV, h1, he2, ev_fail, zrow, callD, reachC, cut, List.idxOf_cons])
            · have he1 : r.2.2.2 = 0 := by simpa using he
              rw [if_pos he1]
              refine ⟨s', ?_, h2, h3⟩
              simp [F_spec_Effect, Cl.row, ev_of8, hq, hA, hc, hv, ev_ops8, invV, h1, he1, zrow, callD, reachC, cut, List.idxOf_cons]
          · have hf : fit 8 sz ⟨tk, 72, va, pr, nw⟩ = false := by
              cases hh : fit 8 sz ⟨tk, 72, va, pr, nw⟩
              · rfl
              · exfalso
                simp at hv
                simp [fit, num] at hh
                omega
            rw [hf, if_pos rfl]
            exact Rel.fail 2 (by simp [F_spec_Effect, Cl.row, ev_of8, hq, hA, hc, hv, ev_ops8, invV, ev_fail, zrow, callD, reachC, cut, List.idxOf_cons])
        by_cases h75 : op = 75
        · subst h75
          have hb : blg 8 75 = true := by decide
          simp only [hb]
          rw [if_neg (by decide)]
          have hf : fit 8 sz ⟨tk, 75, va, pr, nw⟩ = true := by simp [fit]
          rw [hf, if_neg (by decide)]
          obtain ⟨s', h1, h2, h3⟩ := hE hb hf
          generalize raw 8 sz ot s.pl ⟨tk, 75, va, pr, nw⟩ = r at *
          simp only [S.row, Cl.row, hq] at h1
          cases he : r.2.2.2 == 0
          · have he1 : ¬ r.2.2.2 = 0 := by simpa using he
            have he2 : (r.2.2.2 != 0) = true := by simpa using he1
            rw [if_neg he1]
            exact Rel.fail _ (by simp [F_spec_Effect, Cl.row, ev_of8, hq, hA, hc, ev_ops8, invV, h1, he2, ev_fail, zrow, callD, reachC, cut, List.idxOf_cons])
          · have he1 : r.2.2.2 = 0 := by simpa using he
            rw [if_pos he1]
            refine ⟨s', ?_, h2, h3⟩
            simp [F_spec_Effect, Cl.row, ev_of8, hq, hA, hc, ev_ops8, invV, h1, he1, zrow, callD, reachC, cut, List.idxOf_cons]
        have hb : blg 8 op = false := by
          cases hh : blg 8 op
          · rfl
          · exfalso
            simp [blg] at hh
            omega
        simp only [hb]
        rw [if_pos trivial]
        exact Rel.fail 8 (by simp [F_spec_Effect, Cl.row, ev_of8, hq, hA, hc, ev_ops8, h72, h75, invV, ev_fail, zrow, callD, reachC, cut, List.idxOf_cons])
      · rw [if_pos rfl]
        unfold cbad at hc
        exact Rel.fail 2 (by simp [F_spec_Effect, Cl.row, ev_of8, hq, hA, hc, invV, ev_fail, zrow])
  · have ha : absB 8 sz ot s = false := by
      cases hh : absB 8 sz ot s
      · rfl
      · exact absurd (abs_of hh).2.1 hq
    rw [ha, if_pos rfl]
    have hp : 0 < s.Q.length := List.length_pos_iff.2 hq
    exact Rel.fail 1 (by simp [F_spec_Effect, Cl.row, ev_of8, hp, ev_fail, zrow])
end Go.VS.Sp
namespace Go.VS.Sp
set_option maxHeartbeats 4000000 in
theorem ev_Effect9 (nm : D) (sz ot : Int) (s : S) (c : Cl) (hw : s.wf) (hz : s.sz) :
    Rel (ev P (.call spec_Effect [.d (.ag [nm, I' 9, I' sz, I' ot]), .d (.ag s.row), .d (.ag c.row)] [])) (effF 9 sz ot s.pl c) := by
  unfold effF
  rw [absB_pl]
  rw [ev_call P_spec_Effect rfl]
  by_cases hq : s.Q = []
  · have hA := ev_abs9 nm sz ot s hq hz.sm
    simp only [S.row, hq] at hA
    cases ha : absB 9 sz ot s
    · rw [ha] at hA
      rw [if_pos rfl]
      exact Rel.fail 1 (by simp [F_spec_Effect, Cl.row, ev_of9, hq, hA, invV, ev_fail, zrow])
    · rw [ha] at hA
      rw [if_neg (by decide)]
      cases hc : cbad c
      · rw [if_neg (by decide)]
        have hc2 := hc
        have hE := fun hb hf => effI9 nm sz ot s c hw hz ha hc2 hb hf
        unfold cbad at hc
        obtain ⟨tk, op, va, pr, nw⟩ := c
        simp only at hc
        by_cases h73 : op = 73
        · subst h73
          have hb : blg 9 73 = true := by decide
          simp only [hb]
          rw [if_neg (by decide)]
          cases hv : (decide (va < -1099511627776) || decide (1099511627776 < va))
          · have hf : fit 9 sz ⟨tk, 73, va, pr, nw⟩ = true := by
              simp at hv
              simp [fit, num]
              omega
            rw [hf, if_neg (by decide)]
            obtain ⟨s', h1, h2, h3⟩ := hE hb hf
            generalize raw 9 sz ot s.pl ⟨tk, 73, va, pr, nw⟩ = r at *
            simp only [S.row, Cl.row, hq] at h1
            cases he : r.2.2.2 == 0
            · have he1 : ¬ r.2.2.2 = 0 := by simpa using he
              have he2 : (r.2.2.2 != 0) = true := by simpa using he1
              rw [if_neg he1]
              exact Rel.fail _ (by simp [F_spec_Effect, Cl.row, ev_of9, hq, hA, hc, hv, ev_ops9, invV, h1, he2, ev_fail, zrow, callD, reachC, cut, List.idxOf_cons])
            · have he1 : r.2.2.2 = 0 := by simpa using he
              rw [if_pos he1]
              refine ⟨s', ?_, h2, h3⟩
              simp [F_spec_Effect, Cl.row, ev_of9, hq, hA, hc, hv, ev_ops9, invV, h1, he1, zrow, callD, reachC, cut, List.idxOf_cons]
          · have hf : fit 9 sz ⟨tk, 73, va, pr, nw⟩ = false := by
              cases hh : fit 9 sz ⟨tk, 73, va, pr, nw⟩
              · rfl
              · exfalso
                simp at hv
                simp [fit, num] at hh
                omega
            rw [hf, if_pos rfl]
            exact Rel.fail 2 (by simp [F_spec_Effect, Cl.row, ev_of9, hq, hA, hc, hv, ev_ops9, invV, ev_fail, zrow, callD, reachC, cut, List.idxOf_cons])
        by_cases h74 : op = 74
        · subst h74
          have hb : blg 9 74 = true := by decide
          simp only [hb]
          rw [if_neg (by decide)]
          have hf : fit 9 sz ⟨tk, 74, va, pr, nw⟩ = true := by simp [fit]
          rw [hf, if_neg (by decide)]
          obtain ⟨s', h1, h2, h3⟩ := hE hb hf
          generalize raw 9 sz ot s.pl ⟨tk, 74, va, pr, nw⟩ = r at *
          simp only [S.row, Cl.row, hq] at h1
          cases he : r.2.2.2 == 0
          · have he1 : ¬ r.2.2.2 = 0 := by simpa using he
            have he2 : (r.2.2.2 != 0) = true := by simpa using he1
            rw [if_neg he1]
            exact Rel.fail _ (by simp [F_spec_Effect, Cl.row, ev_of9, hq, hA, hc, ev_ops9, invV, h1, he2, ev_fail, zrow, callD, reachC, cut, List.idxOf_cons])
          · have he1 : r.2.2.2 = 0 := by simpa using he
            rw [if_pos he1]
            refine ⟨s', ?_, h2, h3⟩
            simp [F_spec_Effect, Cl.row, ev_of9, hq, hA, hc, ev_ops9, invV, h1, he1, zrow, callD, reachC, cut, List.idxOf_cons]
        have hb : blg 9 op = false := by
          cases hh : blg 9 op
          · rfl
          · exfalso
            simp [blg] at hh
            omega
        simp only [hb]
        rw [if_pos trivial]
        exact Rel.fail 8 (by simp [F_spec_Effect, Cl.row, ev_of9, hq, hA, hc, ev_ops9, h73, h74, invV, ev_fail, zrow, callD, reachC, cut, List.idxOf_cons])
      · rw [if_pos rfl]
        unfold cbad at hc
        exact Rel.fail 2 (by simp [F_spec_Effect, Cl.row, ev_of9, hq, hA, hc, invV, ev_fail, zrow])
  · have ha : absB 9 sz ot s = false := by
      cases hh : absB 9 sz ot s
      · rfl
      · exact absurd (abs_of hh).2.1 hq
    rw [ha, if_pos rfl]
    have hp : 0 < s.Q.length := List.length_pos_iff.2 hq
    exact Rel.fail 1 (by simp [F_spec_Effect, Cl.row, ev_of9, hp, ev_fail, zrow])
end Go.VS.Sp
namespace Go.VS.Sp
theorem pres1 {s : S} {c : Cl} (h : okM s = true) (ht : isTask c.task = true) : okM (eM s c).1 = true := by
  have hm : ∀ x, (x = -1 ∨ isTask x = true) → okM { s with own := x } = true := by
    intro x hx
    unfold okM at h ⊢
    simp only at h ⊢
    rw [Bool.and_eq_true] at h ⊢
    refine ⟨?_, h.2⟩
    rcases hx with h1 | h1 <;> simp [h1]
  unfold eM
  repeat' split
  all_goals first | exact h | exact hm _ (.inl rfl) | exact hm _ (.inr ht)
def restW (s : S) : Prop := s.cnt = 0 ∧ s.time = 0 ∧ s.B = [] ∧ s.C = [] ∧ s.cl = false ∧ s.val = 0
theorem okW_iff {s : S} : okW s = true ↔ SAsc s.H ∧ (∀ x ∈ s.H, isTask x = true) ∧ (s.own = -1 ∨ (isTask s.own = true ∧ s.H = [])) ∧ restW s := by
  unfold okW restW
  rw [Bool.and_eq_true, okH_iff]
  have e : (!okWb s) = true ↔ (s.own = -1 ∨ (isTask s.own = true ∧ s.H = [])) ∧ s.cnt = 0 ∧ s.time = 0 ∧ s.B = [] ∧ s.C = [] ∧ s.cl = false ∧ s.val = 0 := by
    unfold okWb
    rw [len1, len1, len1]
    simp
    grind
  rw [e]
  simp
  grind
theorem pres2 {s : S} {c : Cl} (h : okW s = true) (ht : isTask c.task = true) (he : (eW s c).2.2.2 = 0) : okW (eW s c).1 = true := by
  obtain ⟨h1, h2, h3, h4⟩ := okW_iff.1 h
  unfold eW at he ⊢
  by_cases a1 : (c.op == 54) = true
  · rw [if_pos a1] at he ⊢
    by_cases a2 : decide (c.task ∈ s.H) = true
    · rw [if_pos a2] at he ⊢
      have a3 : c.task ∈ s.H := by simpa using a2
      refine okW_iff.2 ⟨List.Pairwise.sublist List.filter_sublist h1, fun x hx => h2 x (List.mem_filter.1 hx).1, ?_, h4⟩
      rcases h3 with h | h
      · exact .inl h
      · rw [h.2] at a3; simp at a3
    · rw [if_neg a2] at he; simp [er] at he
  · rw [if_neg a1] at he ⊢
    by_cases b1 : (c.op == 56) = true
    · rw [if_pos b1] at he ⊢
      by_cases b2 : (s.own == c.task) = true
      · rw [if_pos b2]
        exact okW_iff.2 ⟨h1, h2, .inl rfl, h4⟩
      · rw [if_neg b2] at he; simp [er] at he
    · rw [if_neg b1] at he ⊢
      by_cases b3 : (decide (c.task ∈ s.H) || s.own == c.task) = true
      · rw [if_pos b3] at he; simp [er] at he
      · rw [if_neg b3] at he ⊢
        by_cases b4 : (!(s.own == -1) || (c.op == 55 && decide (0 < s.H.length))) = true
        · rw [if_pos b4] at he; simp [er] at he
        · rw [if_neg b4] at he ⊢
          have c1 : s.own = -1 := by
            simp at b4
            exact b4.1
          have c2 : c.task ∉ s.H := by
            simp at b3
            exact b3.1
          by_cases b5 : (c.op == 55) = true
          · rw [if_pos b5]
            have c3 : s.H = [] := by
              rw [b5] at b4
              simp at b4
              exact b4.2
            exact okW_iff.2 ⟨h1, h2, .inr ⟨ht, c3⟩, h4⟩
          · rw [if_neg b5]
            refine okW_iff.2 ⟨ins_asc h1 c2, ?_, .inl c1, h4⟩
            intro x hx
            rcases mem_ins.1 hx with e | e
            · rw [e]; exact ht
            · exact h2 x e
theorem pres4 {sz : Int} {s : S} {c : Cl} (h : okS sz s = true) (hc : 1 ≤ c.value ∧ c.value ≤ sz) : okS sz (eS sz s c).1 = true := by
  have hb := okS_bd h
  have hm : ∀ x, 0 ≤ x → x ≤ sz → okS sz { s with cnt := x } = true := by
    intro x h1 h2
    unfold okS at h ⊢
    simp only at h ⊢
    rw [Bool.and_eq_true] at h ⊢
    refine ⟨?_, h.2⟩
    have := h.1
    simp at this ⊢
    omega
  unfold eS
  by_cases a1 : (c.op == 62) = true
  · rw [if_pos a1]
    by_cases a2 : decide (sz < s.cnt + c.value) = true
    · rw [if_pos a2]; exact h
    · rw [if_neg a2]
      simp at a2
      exact hm _ (by omega) (by omega)
  · rw [if_neg a1]
    by_cases a2 : decide (c.value ≤ s.cnt) = true
    · rw [if_pos a2]
      simp at a2
      exact hm _ (by omega) (by omega)
    · rw [if_neg a2]
      split <;> exact h
theorem pres5 {sz : Int} {s : S} (h : okB { s with val := 0 } = true) (hv : 0 ≤ s.val ∧ s.val < sz) (he : (eB sz s).2.2.2 = 0) : okB { (eB sz s).1 with val := 0 } = true ∧ 0 ≤ (eB sz s).1.val ∧ (eB sz s).1.val < sz := by
  unfold eB at he ⊢
  by_cases a1 : (s.val + 1 == sz) = true
  · rw [if_pos a1] at he ⊢
    by_cases a2 : (s.cnt == 1099511627776) = true
    · rw [if_pos a2] at he; simp [er] at he
    · rw [if_neg a2]
      refine ⟨?_, by simp, by simp; omega⟩
      unfold okB at h ⊢
      simp only at h ⊢
      rw [Bool.and_eq_true] at h ⊢
      refine ⟨?_, h.2⟩
      have := h.1
      simp at this a2 ⊢
      omega
  · rw [if_neg a1]
    simp at a1
    exact ⟨h, by simp; omega, by simp; omega⟩
theorem okC_iff {rm : Int} {s : S} : okC rm s = true ↔ (s.own = -1 ∧ s.cnt = 0 ∧ s.time = 0 ∧ s.val = 0 ∧ s.H = [] ∧ s.C = []) ∧ (s.B.length : Int) ≤ rm ∧ ∀ x ∈ s.B, num x = true := by
  unfold okC okCb
  rw [len2]
  simp
  grind
theorem pres6 {rm : Int} {s : S} {c : Cl} (h : okC rm s = true) (hc : c.op = 64 → num c.value = true) : okC rm (eC rm s c).1 = true := by
  obtain ⟨h1, h2, h3⟩ := okC_iff.1 h
  unfold eC
  by_cases a1 : (c.op == 64) = true
  · rw [if_pos a1]
    by_cases a2 : s.cl = true
    · rw [if_pos a2]; exact h
    · rw [if_neg a2]
      by_cases a3 : decide (rm ≤ s.B.length) = true
      · rw [if_pos a3]; exact h
      · rw [if_neg a3]
        simp at a1 a3
        refine okC_iff.2 ⟨h1, by simp [gd]; omega, ?_⟩
        intro x hx
        rcases List.mem_append.1 hx with e | e
        · exact h3 x e
        · rw [List.mem_singleton.1 e]; exact hc a1
  · rw [if_neg a1]
    by_cases a2 : (c.op == 65) = true
    · rw [if_pos a2]
      cases hB : s.B with
      | nil => simp only; split <;> exact h
      | cons b r =>
        rw [hB] at h2 h3
        refine okC_iff.2 ⟨h1, by simp at h2 ⊢; omega, fun x hx => h3 x (List.mem_cons_of_mem _ hx)⟩
    · rw [if_neg a2]
      split
      · exact h
      · exact okC_iff.2 ⟨h1, h2, h3⟩
theorem pres8 {sz ot : Int} {s : S} {c : Cl} (h : okL sz s = true) (hz : 1 ≤ sz) (ho : 1 ≤ ot) (hn : 0 ≤ c.now ∧ c.now ≤ 1099511627776) (hc : c.op = 72 → 1 ≤ c.value) : okL sz (eL sz ot s c).1 = true := by
  have hb := okL_bd h
  have hm : ∀ x y, 0 ≤ x → x ≤ sz → 0 ≤ y → y ≤ 1099511627776 → okL sz { s with cnt := x, time := y } = true := by
    intro x y h1 h2 h3 h4
    unfold okL at h ⊢
    simp only at h ⊢
    rw [Bool.and_eq_true] at h ⊢
    refine ⟨?_, h.2⟩
    have := h.1
    simp at this ⊢
    omega
  unfold eL
  by_cases a0 : decide (c.now < s.time) = true
  · rw [if_pos a0]; exact h
  · rw [if_neg a0]
    simp at a0
    obtain ⟨k0, k1, k2⟩ := div_bd (a := c.now - s.time) (b := ot) (by omega) ho
    have hq0 : 0 ≤ (c.now - s.time) / ot * ot := Int.mul_nonneg k0 (by omega)
    have hr : ∃ x y, rfS sz ot c.now s = { s with cnt := x, time := y } ∧ 0 ≤ x ∧ x ≤ sz ∧ 0 ≤ y ∧ y ≤ 1099511627776 := by
      unfold rfS
      by_cases a1 : decide (sz ≤ s.cnt + (c.now - s.time) / ot) = true
      · rw [if_pos a1]
        exact ⟨_, _, rfl, by omega, by omega, by omega, by omega⟩
      · rw [if_neg a1]
        simp at a1
        exact ⟨_, _, rfl, by omega, by omega, by omega, by omega⟩
    obtain ⟨x, y, hr, r1, r2, r3, r4⟩ := hr
    rw [hr]
    by_cases a1 : (c.op == 72) = true
    · rw [if_pos a1]
      have hv := hc (by simpa using a1)
      by_cases a2 : decide (x < c.value) = true
      · rw [if_pos a2]; exact hm x y r1 r2 r3 r4
      · rw [if_neg a2]
        simp at a2
        exact hm (x - c.value) y (by omega) (by omega) r3 r4
    · rw [if_neg a1]
      exact hm x y r1 r2 r3 r4
theorem pres9 {s : S} {c : Cl} (h : okF s = true) (hc : c.op ≠ 74 → num c.value = true) : okF (eF s c).1 = true := by
  unfold eF
  by_cases a1 : (c.op == 74) = true
  · rw [if_pos a1]
    split <;> exact h
  · rw [if_neg a1]
    split
    · exact h
    · simp at a1
      have hv := hc a1
      unfold okF okFp at h ⊢
      simp [gd] at h ⊢
      simp [h, hv]
theorem good_iff {rm : Int} {s : S} (hq : s.Q = []) : S.good rm s = true ↔ s.own = -1 ∧ vc rm none s.C = true ∧ s.fl0 = false := by
  unfold S.good
  rw [hq]
  have h1 : wchk [] = 0 := by decide
  rw [h1]
  simp [tq]
  grind
theorem vc_i {rm : Int} {C : List K} (h1 : SAsc (C.map K.task)) (h2 : ∀ x ∈ C, isTask x.task = true ∧ ¬ rm < x.log.length ∧ x.log.all num = true) : vc rm none C = true :=
  (vc_iff rm C none).2 ⟨by simp, h1, h2⟩
theorem pres7 {rm : Int} {s : S} {c : Cl} (hq : s.Q = []) (h : S.good rm s = true) (ht : isTask c.task = true) (hr : 1 ≤ rm) (hc : c.op ≠ 69 → c.op ≠ 71 → c.op ≠ 70 → num c.value = true) :
    S.good rm (eT rm s c).1 = true := by
  obtain ⟨g1, g2, g3⟩ := (good_iff hq).1 h
  obtain ⟨_, v1, v2⟩ := (vc_iff rm s.C none).1 g2
  have hm : ∀ C', SAsc (C'.map K.task) → (∀ x ∈ C', isTask x.task = true ∧ ¬ rm < x.log.length ∧ x.log.all num = true) → S.good rm { s with C := C' } = true :=
    fun C' k1 k2 => (good_iff (s := { s with C := C' }) hq).2 ⟨g1, vc_i k1 k2, g3⟩
  unfold eT
  by_cases a1 : (c.op == 69) = true
  · rw [if_pos a1]
    by_cases a2 : isK s c.task = true
    · rw [if_pos a2]; exact h
    · rw [if_neg a2]
      refine hm _ ?_ ?_
      · have e : (s.C.take (bK s c.task) ++ (⟨c.task, false, []⟩ : K) :: s.C.drop (bK s c.task)).map K.task = insI c.task (tsk s) := by
          unfold insI
          simp [tsk, bK, List.map_take, List.map_drop]
        rw [e]
        refine ins_asc v1 fun hin => a2 ?_
        unfold isK
        have := (mem_bI v1).2 hin
        unfold bK
        exact decide_eq_true this
      · intro x hx
        rcases List.mem_append.1 hx with hx | hx
        · exact v2 x (List.mem_of_mem_take hx)
        · rcases List.mem_cons.1 hx with hx | hx
          · rw [hx]
            refine ⟨ht, by simp; omega, by simp⟩
          · exact v2 x (List.mem_of_mem_drop hx)
  · rw [if_neg a1]
    by_cases a2 : (c.op == 71) = true
    · rw [if_pos a2]
      by_cases a3 : isK s c.task = true
      · rw [if_pos a3]
        obtain ⟨A, kk, B, f1, f2, f3⟩ := isK_split s c.task a3
        have e : s.C.take (bK s c.task) ++ s.C.drop (bK s c.task + 1) = A ++ B := by
          rw [f2, f1]
          have d1 : List.drop (A.length + 1) (A ++ kk :: B) = B := by
            have : A ++ kk :: B = (A ++ [kk]) ++ B := by simp
            rw [this]
            exact List.drop_left' (by simp)
          rw [d1, List.take_left]
        rw [e]
        refine hm _ ?_ ?_
        · refine List.Pairwise.sublist ?_ v1
          rw [f1]
          exact List.Sublist.map _ (List.Sublist.append (List.Sublist.refl A) (List.sublist_cons_self kk B))
        · intro x hx
          refine v2 x ?_
          rw [f1]
          rcases List.mem_append.1 hx with h | h
          · exact List.mem_append_left _ h
          · exact List.mem_append_right _ (List.mem_cons_of_mem _ h)
      · rw [if_neg a3]; exact h
    · rw [if_neg a2]
      by_cases a4 : (c.op == 70) = true
      · rw [if_pos a4]
        by_cases a3 : isK s c.task = true
        · rw [if_pos a3]
          obtain ⟨A, ⟨kt, kn, kl⟩, B, f1, f2, f3⟩ := isK_split s c.task a3
          simp only at f3
          have hg : s.C[bK s c.task]? = some ⟨kt, kn, kl⟩ := by rw [f2, f1]; simp
          rw [hg]
          cases kl with
          | nil => exact h
          | cons b r =>
            have e : s.C.set (bK s c.task) ⟨c.task, false, r⟩ = A ++ ⟨c.task, false, r⟩ :: B := by rw [f2, f1]; simp
            show S.good rm { s with C := s.C.set (bK s c.task) ⟨c.task, false, r⟩ } = true
            rw [e]
            have hk := v2 ⟨kt, kn, b :: r⟩ (by rw [f1]; simp)
            refine hm _ ?_ ?_
            · have e2 : (A ++ (⟨c.task, false, r⟩ : K) :: B).map K.task = s.C.map K.task := by rw [f1]; simp [f3]
              rw [e2]; exact v1
            · intro x hx
              rcases List.mem_append.1 hx with h | h
              · exact v2 x (by rw [f1]; exact List.mem_append_left _ h)
              · rcases List.mem_cons.1 h with h | h
                · rw [h]
                  obtain ⟨_, k2, k3⟩ := hk
                  simp only [List.length_cons, List.all_cons, Bool.and_eq_true] at k2 k3
                  exact ⟨ht, by simp only; omega, k3.2⟩
                · exact v2 x (by rw [f1]; exact List.mem_append_right _ (List.mem_cons_of_mem _ h))
        · rw [if_neg a3]; exact h
      · rw [if_neg a4]
        by_cases a5 : (s.C.any fun x => decide (rm ≤ x.log.length)) = true
        · rw [if_pos a5]; exact h
        · rw [if_neg a5]
          have hv := hc (by simpa using a1) (by simpa using a2) (by simpa using a4)
          refine hm _ ?_ ?_
          · have e2 : (s.C.map fun x => (⟨x.task, false, x.log ++ [c.value]⟩ : K)).map K.task = s.C.map K.task := by
              rw [List.map_map]; rfl
            rw [e2]; exact v1
          · intro x hx
            obtain ⟨w, hw, rfl⟩ := List.mem_map.1 hx
            obtain ⟨k1, k2, k3⟩ := v2 w hw
            have h5 : ¬ rm ≤ (w.log.length : Int) := by
              intro hh
              exact a5 (List.any_eq_true.2 ⟨w, hw, decide_eq_true hh⟩)
            refine ⟨k1, by simp; omega, ?_⟩
            simp [List.all_append, hv] at k3 ⊢
            exact k3
theorem ck_i {n : Int} {b : Bool} (h : n = 0) (hb : b = true) : ck n b = 0 := by unfold ck; rw [if_pos h, hb]; rfl
theorem raw_Q (k sz ot : Int) (s : S) (c : Cl) : (raw k sz ot s c).1.Q = s.Q := by
  unfold raw
  repeat' split
  · unfold eM; repeat' split
    all_goals rfl
  · unfold eW; repeat' split
    all_goals rfl
  · unfold eS; repeat' split
    all_goals rfl
  · unfold eB; repeat' split
    all_goals rfl
  · unfold eC; repeat' split
    all_goals rfl
  · unfold eT; repeat' split
    all_goals rfl
  · unfold eL rfS; repeat' split
    all_goals rfl
  · unfold eF; repeat' split
    all_goals rfl
theorem rmz_ge (sz : Int) : 1 ≤ rmz sz := by unfold rmz; split <;> omega
theorem abs_i {k sz ot : Int} {s : S} (h1 : newO k sz ot = 0) (h2 : s.Q = []) (h3 : k = 5 → 0 ≤ s.val ∧ s.val < sz) (h4 : ckO k (szO k sz) ot (vzO k s) = 0) : absB k sz ot s = true := by
  unfold absB
  rw [h1, h2, h4]
  by_cases h5 : k = 5
  · have := h3 h5
    simp [h5]
    omega
  · simp [h5]
theorem pres {k sz ot : Int} {s : S} {c : Cl} (ha : absB k sz ot s = true) (hc : cbad c = false) (hb : blg k c.op = true) (hf : fit k sz c = true) (he : (raw k sz ot s c).2.2.2 = 0) :
    absB k sz ot (raw k sz ot s c).1 = true := by
  obtain ⟨n1, n2, n3, n4⟩ := abs_of ha
  obtain ⟨ht, hn⟩ := cbad_bd hc
  have hQ := raw_Q k sz ot s c
  rw [n2] at hQ
  rcases absB_known ha with h | h | h | h | h | h | h | h <;> subst h
  · exact abs_i n1 hQ (by simp) (by
      have := pres1 (c := c) (abs1 ha) ht
      exact ck_i (ck_nw (by simpa [ckO, szO, vzO] using n4)) this)
  · exact abs_i n1 hQ (by simp) (by
      have := pres2 (c := c) (abs2 ha) ht he
      exact ck_i (ck_nw (by simpa [ckO, szO, vzO] using n4)) this)
  · exact abs_i n1 hQ (by simp) (by
      have h5 : 1 ≤ c.value ∧ c.value ≤ sz := by simpa [fit] using hf
      have := pres4 (c := c) (abs4 ha).2 h5
      exact ck_i (abs4 ha).1 this)
  · obtain ⟨h1, h2, h3, h4⟩ := abs5 ha
    have := pres5 h2 ⟨h3, h4⟩ he
    exact abs_i n1 hQ (fun _ => this.2) (by exact ck_i h1 this.1)
  · obtain ⟨h1, h2⟩ := abs6 ha
    have h3 : c.op = 64 → num c.value = true := by
      intro h
      simpa [fit, h] using hf
    have := pres6 h2 h3
    refine abs_i n1 hQ (by simp) ?_
    exact ck_i (ck_nw (b := okC (rmz sz) s) (by simpa [ckO, szO, vzO] using n4)) this
  · obtain ⟨h1, h2⟩ := abs7 ha
    have h4 : c.op = 68 ∨ c.op = 69 ∨ c.op = 70 ∨ c.op = 71 := by
      simp [blg] at hb
      omega
    have h3 : c.op ≠ 69 → c.op ≠ 71 → c.op ≠ 70 → num c.value = true := by
      intro a b d
      have h : c.op = 68 := by omega
      simpa [fit, h] using hf
    have := pres7 n2 h2 ht (rmz_ge sz) h3
    refine abs_i n1 hQ (by simp) ?_
    have n5 : ckd 7 (rmz sz) ot s = 0 := by simpa [ckO, szO, vzO] using n4
    have n6 : mnew 7 (rmz sz) ot = 0 := by
      unfold ckd at n5
      split at n5
      · assumption
      · exact n5
    show ckd 7 (rmz sz) ot (eT (rmz sz) s c).1 = 0
    unfold ckd
    rw [if_pos n6, this]
    rfl
  · obtain ⟨h1, h2⟩ := abs8 ha
    have h3 := nwL_bd h1
    have h7 : c.op = 72 → 1 ≤ c.value := by
      intro h
      have : 1 ≤ c.value ∧ c.value ≤ sz := by simpa [fit, h] using hf
      exact this.1
    have := pres8 h2 h3.1 h3.2.2.1 hn h7
    exact abs_i n1 hQ (by simp) (by exact ck_i h1 this)
  · have h1 : c.op = 73 ∨ c.op = 74 := by simpa [blg] using hb
    have h3 : c.op ≠ 74 → num c.value = true := by
      intro h
      have h : c.op = 73 := by omega
      simpa [fit, h] using hf
    have := pres9 (s := s) (c := c) (ck_ok (n := nwA 9 9 sz ot) (by simpa [ckO, szO, vzO] using n4)) h3
    exact abs_i n1 hQ (by simp) (by exact ck_i (ck_nw (by simpa [ckO, szO, vzO] using n4)) this)
theorem presF {k sz ot : Int} {s : S} {c : Cl} (he : (effF k sz ot s c).2.2.2 = 0) : absB k sz ot s = true ∧ absB k sz ot (effF k sz ot s c).1 = true := by
  unfold effF at he ⊢
  by_cases h1 : absB k sz ot s = false
  · rw [if_pos h1] at he; simp [er] at he
  · rw [if_neg h1] at he ⊢
    by_cases h2 : cbad c = true
    · rw [if_pos h2] at he; simp [er] at he
    · rw [if_neg h2] at he ⊢
      by_cases h3 : blg k c.op = false
      · rw [if_pos h3] at he; simp [er] at he
      · rw [if_neg h3] at he ⊢
        by_cases h4 : fit k sz c = false
        · rw [if_pos h4] at he; simp [er] at he
        · rw [if_neg h4] at he ⊢
          by_cases h5 : (raw k sz ot s c).2.2.2 = 0
          · rw [if_pos h5] at he ⊢
            have ha : absB k sz ot s = true := by simpa using h1
            exact ⟨ha, pres ha (by simpa using h2) (by simpa using h3) (by simpa using h4) h5⟩
          · rw [if_neg h5] at he; exact absurd he h5
end Go.VS.Sp
namespace Go.VS.Sp
theorem ev_Effect (nm : D) (k sz ot : Int) (s : S) (c : Cl) (hw : s.wf) (hz : s.sz) :
    Rel (ev P (.call spec_Effect [.d (.ag [nm, I' k, I' sz, I' ot]), .d (.ag s.row), .d (.ag c.row)] [])) (effF k sz ot s.pl c) := by
  by_cases hk : k = 1 ∨ k = 2 ∨ k = 4 ∨ k = 5 ∨ k = 6 ∨ k = 7 ∨ k = 8 ∨ k = 9
  · rcases hk with h | h | h | h | h | h | h | h <;> subst h
    · exact ev_Effect1 nm sz ot s c hw hz
    · exact ev_Effect2 nm sz ot s c hw hz
    · exact ev_Effect4 nm sz ot s c hw hz
    · exact ev_Effect5 nm sz ot s c hw hz
    · exact ev_Effect6 nm sz ot s c hw hz
    · exact ev_Effect7 nm sz ot s c hw hz
    · exact ev_Effect8 nm sz ot s c hw hz
    · exact ev_Effect9 nm sz ot s c hw hz
  · have ha : absB k sz ot s.pl = false := by
      cases hh : absB k sz ot s.pl
      · rfl
      · exact absurd (absB_known hh) hk
    unfold effF
    rw [ha, if_pos rfl]
    have hU := ev_ofU hk
    rw [ev_call P_spec_Effect rfl]
    exact Rel.fail 1 (by simp [F_spec_Effect, Cl.row, hU, ev_fail, zrow])
theorem ev_Enabled (nm : D) (k sz ot : Int) (s : S) (c : Cl) (hw : s.wf) (hz : s.sz) :
    ev P (.call spec_Enabled [.d (.ag [nm, I' k, I' sz, I' ot]), .d (.ag s.row), .d (.ag c.row)] []) = some (.val (.d (.b ((effF k sz ot s.pl c).2.2.2 == 0))) []) := by
  obtain ⟨s', h1, h2, h3⟩ := ev_Effect nm k sz ot s c hw hz
  generalize effF k sz ot s.pl c = r at *
  simp only [S.row, Cl.row] at h1
  rw [ev_call P_spec_Enabled rfl]
  simp [F_spec_Enabled, Cl.row, h1]
theorem ev_start (f g : Nat) (nm : D) (k sz ot e : Int) (r : List D) (hr : r.length = 9) (h : ev P (.call f [.d (.ag [nm, I' k, I' sz, I' ot])] []) = nwR e r) :
    ev P (.call spec_layer_start [.d (.ag [.fn f [] [], .fn g [] []]), .d (.ag [nm, I' k, I' sz, I' ot])] []) = nwR e r := by
  unfold nwR at h ⊢
  match r, hr with
  | [r0, r1, r2, r3, r4, r5, r6, r7, r8], _ =>
  rw [ev_call P_spec_layer_start rfl]
  by_cases he : e = 0
  · rw [if_pos he] at h ⊢
    simp [F_spec_layer_start, h, toD, allD]
  · rw [if_neg he] at h ⊢
    simp [F_spec_layer_start, h, toD, allD, zrow]
theorem ev_Initial (nm : D) (k sz ot : Int) : ev P (.call spec_Initial [.d (.ag [nm, I' k, I' sz, I' ot])] []) = nwR (newO k sz ot) (iniR k sz) := by
  rw [ev_call P_spec_Initial rfl]
  by_cases hk : k = 1 ∨ k = 2 ∨ k = 4 ∨ k = 5 ∨ k = 6 ∨ k = 7 ∨ k = 8 ∨ k = 9
  · rcases hk with h | h | h | h | h | h | h | h <;> subst h
    · have h := ev_start mutex_New mutex_Check nm 1 sz ot _ _ rfl (ev_nwM nm 1 sz ot)
      have e : newO 1 sz ot = nwA 1 1 sz ot := rfl
      rw [e]
      by_cases hm : nwA 1 1 sz ot = 0 <;> simp [F_spec_Initial, ev_of1, invV, h, hm, iniR, frow, zrow]
    · have h := ev_start rwlock_New rwlock_Check nm 2 sz ot _ _ rfl (ev_nwW nm 2 sz ot)
      have e : newO 2 sz ot = nwA 2 2 sz ot := rfl
      rw [e]
      by_cases hm : nwA 2 2 sz ot = 0 <;> simp [F_spec_Initial, ev_of2, invV, h, hm, iniR, frow, zrow]
    · have h := ev_start semaphore_New semaphore_Check nm 4 sz ot _ _ rfl (ev_nwS nm 4 sz ot)
      have e : newO 4 sz ot = nwS 4 sz ot := rfl
      rw [e]
      by_cases hm : nwS 4 sz ot = 0 <;> simp [F_spec_Initial, ev_of4, invV, h, hm, iniR, grow, zrow]
    · have h := ev_start barrier_New barrier_Check nm 5 sz ot _ _ rfl (ev_nwB nm 5 sz ot)
      have e : newO 5 sz ot = nwB 5 sz ot := rfl
      rw [e]
      by_cases hm : nwB 5 sz ot = 0 <;> simp [F_spec_Initial, ev_of5, invV, h, hm, iniR, frow, zrow]
    · have h := ev_start channel_New channel_Check nm 6 sz ot _ _ rfl (ev_nwC nm 6 sz ot)
      have e : newO 6 sz ot = nwC 6 sz ot := rfl
      rw [e]
      by_cases hm : nwC 6 sz ot = 0 <;> simp [F_spec_Initial, ev_of6, invV, h, hm, iniR, frow, zrow]
    · have h := ev_start topic_New topic_Check nm 7 sz ot _ _ rfl (ev_mNew nm 7 sz ot)
      have e : newO 7 sz ot = mnew 7 sz ot := rfl
      rw [e]
      by_cases hm : mnew 7 sz ot = 0 <;> simp [F_spec_Initial, ev_of7, invV, h, hm, iniR, frow, zrow]
    · have h := ev_start limiter_New limiter_Check nm 8 sz ot _ _ rfl (ev_nwL nm 8 sz ot)
      have e : newO 8 sz ot = nwL 8 sz ot := rfl
      rw [e]
      by_cases hm : nwL 8 sz ot = 0 <;> simp [F_spec_Initial, ev_of8, invV, h, hm, iniR, grow, zrow]
    · have h := ev_start future_New future_Check nm 9 sz ot _ _ rfl (ev_nwF nm 9 sz ot)
      have e : newO 9 sz ot = nwA 9 9 sz ot := rfl
      rw [e]
      by_cases hm : nwA 9 9 sz ot = 0 <;> simp [F_spec_Initial, ev_of9, invV, h, hm, iniR, frow, zrow]
  · have hU := ev_ofU hk
    have e : newO k sz ot = 8 := by
      unfold newO
      repeat' split
      all_goals first | rfl | (exfalso; apply hk; simp [*])
    rw [e]
    simp [F_spec_Initial, hU, zrow]
def ini (k sz : Int) : S := ⟨-1, if k = 4 ∨ k = 8 then sz else 0, 0, true, [], true, [], true, [], true, [], false, 0⟩
theorem ini_row (k sz : Int) : (ini k sz).row = iniR k sz := by
  unfold ini iniR
  by_cases h : k = 4 ∨ k = 8
  · rw [if_pos h, if_pos h]; rfl
  · rw [if_neg h, if_neg h]; rfl
theorem ini_wf (k sz : Int) : (ini k sz).wf := ⟨fun _ => rfl, fun _ => rfl, fun _ => rfl, by simp [ini]⟩
structure S.zn (n : Nat) (s : S) : Prop where
  h : s.H.length ≤ n
  b : s.B.length ≤ n
  q : s.Q.length ≤ n
  c : s.C.length ≤ n
  l : ∀ c ∈ s.C, c.log.length ≤ n
theorem S.zn.sz {n : Nat} {s : S} (h : s.zn n) (hn : n ≤ 1000) : s.sz := ⟨by have := h.h; omega, by have := h.b; omega, by have := h.q; omega, by have := h.c; omega, fun c hc => by have := h.l c hc; omega⟩
theorem zn_pl {n : Nat} {s : S} : s.pl.zn n ↔ s.zn n := by
  constructor
  · intro h
    refine ⟨h.h, h.b, h.q, by have := h.c; simpa [S.pl] using this, fun c hc => ?_⟩
    exact h.l (K.pl c) (List.mem_map_of_mem hc)
  · intro h
    refine ⟨h.h, h.b, h.q, by have := h.c; simpa [S.pl] using this, fun c hc => ?_⟩
    obtain ⟨d, hd, rfl⟩ := List.mem_map.1 hc
    exact h.l d hd
theorem S.zn.up {n : Nat} {s : S} (h : s.zn n) : s.zn (n + 1) := ⟨by have := h.h; omega, by have := h.b; omega, by have := h.q; omega, by have := h.c; omega, fun c hc => by have := h.l c hc; omega⟩
theorem zn_raw (k sz ot : Int) {n : Nat} {s : S} (c : Cl) (h : s.zn n) : (raw k sz ot s c).1.zn (n + 1) := by
  have hu := h.up
  have hs : ∀ o x t v b, S.zn (n + 1) { s with own := o, cnt := x, time := t, val := v, cl := b } := fun o x t v b => ⟨hu.h, hu.b, hu.q, hu.c, hu.l⟩
  unfold raw
  repeat' split
  · unfold eM; repeat' split
    all_goals exact hs _ _ _ _ _
  · unfold eW; repeat' split
    all_goals first
      | exact hs _ _ _ _ _
      | exact ⟨by have h1 := h.h; have h2 := List.length_filter_le (fun x => x != c.task) s.H; simp [gd]; omega, hu.b, hu.q, hu.c, hu.l⟩
      | exact ⟨by have h1 := h.h; have h2 := bI_le c.task s.H; simp [gd, insI]; omega, hu.b, hu.q, hu.c, hu.l⟩
  · unfold eS; repeat' split
    all_goals exact hs _ _ _ _ _
  · unfold eB; repeat' split
    all_goals exact hs _ _ _ _ _
  · unfold eC; repeat' split
    all_goals first
      | exact hs _ _ _ _ _
      | exact ⟨hu.h, by have h1 := h.b; simp [gd]; omega, hu.q, hu.c, hu.l⟩
      | exact ⟨hu.h, by have h1 := h.b; simp_all; omega, hu.q, hu.c, hu.l⟩
  · unfold eT; repeat' split
    all_goals first
      | exact hs _ _ _ _ _
      | (refine ⟨hu.h, hu.b, hu.q, ?_, ?_⟩
         · have h1 := h.c; simp [gd]; omega
         · intro x hx
           simp only [gd, List.mem_append, List.mem_cons] at hx
           rcases hx with h | h | h
           · exact hu.l x (List.mem_of_mem_take h)
           · rw [h]; simp
           · exact hu.l x (List.mem_of_mem_drop h))
      | (refine ⟨hu.h, hu.b, hu.q, ?_, ?_⟩
         · have h1 := h.c; simp [gd]; omega
         · intro x hx
           simp only [gd, List.mem_append] at hx
           rcases hx with h | h
           · exact hu.l x (List.mem_of_mem_take h)
           · exact hu.l x (List.mem_of_mem_drop h))
      | (rename_i b r hg
         refine ⟨hu.h, hu.b, hu.q, ?_, ?_⟩
         · have h1 := h.c; simp; omega
         · intro x hx
           rcases List.mem_or_eq_of_mem_set hx with h2 | h2
           · exact hu.l x h2
           · rw [h2]
             have h3 := h.l _ (List.mem_of_getElem? hg)
             simp at h3 ⊢
             omega)
      | (refine ⟨hu.h, hu.b, hu.q, ?_, ?_⟩
         · have h1 := h.c; simp [gd]; omega
         · intro x hx
           simp only [gd] at hx
           obtain ⟨w, hw, rfl⟩ := List.mem_map.1 hx
           have h3 := h.l w hw
           simp; omega)
  · unfold eL rfS; repeat' split
    all_goals exact hs _ _ _ _ _
  · unfold eF; repeat' split
    all_goals exact hs _ _ _ _ _
theorem zn_zS (n : Nat) : zS.zn n := ⟨by simp [zS, zN, S.pl], by simp [zS, zN, S.pl], by simp [zS, zN, S.pl], by simp [zS, zN, S.pl], by simp [zS, zN, S.pl]⟩
theorem zn_eff (k sz ot : Int) {n : Nat} {s : S} (c : Cl) (h : s.zn n) : (effF k sz ot s c).1.zn (n + 1) := by
  unfold effF
  repeat' split
  all_goals first | exact zn_zS _ | exact zn_raw k sz ot c h
end Go.VS.Sp
namespace Go.VS.Sp
structure Wk where
  task : Int
  op : Int
  value : Int
  ok : Bool
  case : Int
def Wk.row (w : Wk) : List D := [I' w.task, I' w.op, I' w.value, .b w.ok, I' w.case]
def acS (k sz ot : Int) (s : S) (c : Cl) (w : Wk) : Option S :=
  if ((effF k sz ot s c).2.2.2 != 0 || c.task != w.task || c.op != w.op) then none
  else if (w.value == (effF k sz ot s c).2.1 && w.ok == (effF k sz ot s c).2.2.1) then some (effF k sz ot s c).1
  else if (c.op == 61 && ot == 0 && (w.value == 0 && !w.ok)) then some s else none
def accF (k sz ot : Int) : S → List Cl → List Wk → Option S
  | s, c :: l, w :: r => (acS k sz ot s c w).bind fun t => accF k sz ot t l r
  | s, _, _ => some s
def b01 (b : Bool) : Int := if b then 1 else 0
theorem ev_result (v : Int) (b : Bool) : ev P (.call spec_result [.d (I' v), .d (.b b)] []) = some (.val (.d (.ag [I' v, I' (b01 b)])) []) := by
  rw [ev_call P_spec_result rfl]
  cases b <;> simp [F_spec_result, b01]
theorem b01_eq (a b : Bool) : (b01 a == b01 b) = (a == b) := by cases a <;> cases b <;> decide
theorem b01_0 (a : Bool) : (b01 a == 0) = !a := by cases a <;> decide
theorem loop_acc (nm : D) (k sz ot : Int) (ln rn : Bool) (l : List Cl) (r : List Wk) (hlr : l.length = r.length) (hn : l.length ≤ 1000) : ∀ (sl : List Cl) (sr : List Wk) (pl : List Cl) (pr : List Wk) (a : S), l = pl ++ sl → r = pr ++ sr → pr.length = pl.length → a.wf → a.zn pl.length →
    match accF k sz ot a.pl sl sr with
    | none => ev P (.loop 0 [2, 3, 7, 38, 39, 40] F_spec_Accepts_L0 [(2, .d (.sl 5 rn (r.map Wk.row))), (3, .d (.ref [nm, I' k, I' sz, I' ot])), (7, .loc 0 0 0), (38, .d (.sl 5 ln (l.map Cl.row))), (39, .d (I' l.length)), (40, .d (I' pl.length))] [.arrD 9 true [a.row]]) = some (.out .ret [(6, .d (.b false))] [])
    | some t => ∃ a' : S, a'.pl = t ∧ a'.wf ∧ a'.zn l.length ∧ ev P (.loop 0 [2, 3, 7, 38, 39, 40] F_spec_Accepts_L0 [(2, .d (.sl 5 rn (r.map Wk.row))), (3, .d (.ref [nm, I' k, I' sz, I' ot])), (7, .loc 0 0 0), (38, .d (.sl 5 ln (l.map Cl.row))), (39, .d (I' l.length)), (40, .d (I' pl.length))] [.arrD 9 true [a.row]]) =
        some (.out (.exit 0) [(3, .d (.ref [nm, I' k, I' sz, I' ot])), (7, .loc 0 0 0)] [.arrD 9 true [a'.row]]) := by
  intro sl
  induction sl with
  | nil =>
    intro sr pl pr a hl hr hp hw hz
    have h1 : l.length = pl.length := by simp [hl]
    simp only [accF]
    refine ⟨a, rfl, hw, by rw [h1]; exact hz, ?_⟩
    rw [ev_loop]
    conv => lhs; arg 4; unfold F_spec_Accepts_L0
    simp [h1, callD, callR, sub, setAll, back, reachC, cut, List.idxOf_cons, V.same_self, thaw, freezeAll, freeze1, overlay, rg2, rg3]
  | cons c sl ih =>
    intro sr pl pr a hl hr hp hw hz
    have hlt : (pl.length : Int) < l.length := by simp [hl]; omega
    have hnext : IntKind.i64.wrap ((pl.length : Int) + 1) = pl.length + 1 := wrap_i64 (by omega) (by omega)
    have hg : l[pl.length]? = some c := by simp [hl]
    cases sr with
    | nil => exfalso; simp [hl, hr] at hlr; omega
    | cons w sr =>
    have hg' : r[pl.length]? = some w := by rw [← hp]; simp [hr]
    obtain ⟨a', e1, e2, e3⟩ := ev_Effect nm k sz ot a c hw (hz.sz (by simp [hl] at hn; omega))
    have hz' : a'.zn (pl.length + 1) := by
      rw [← zn_pl, e2]
      exact zn_eff k sz ot c (zn_pl.2 hz)
    have ih1 := ih sr (pl ++ [c]) (pr ++ [w]) a' (by simp [hl]) (by simp [hr]) (by simp [hp]) e3 (by simpa using hz')
    have ih2 := ih sr (pl ++ [c]) (pr ++ [w]) a (by simp [hl]) (by simp [hr]) (by simp [hp]) hw (by simpa using hz.up)
    have hq0 := ev_result 0 false
    have hq1 := ev_result w.value w.ok
    unfold accF acS
    generalize effF k sz ot a.pl c = x at *
    obtain ⟨x1, x2, x3, x4⟩ := x
    simp only at e1 e2
    have hq2 := ev_result x2 x3
    rw [e2] at ih1
    simp only [S.row, Cl.row] at e1
    cases hB : (x4 != 0 || c.task != w.task || c.op != w.op)
    · rw [if_neg (by decide)]
      cases hM : (w.value == x2 && w.ok == x3)
      · rw [if_neg (by decide)]
        cases hI : (c.op == 61 && ot == 0 && (w.value == 0 && !w.ok))
        · rw [if_neg (by decide)]
          simp only [Option.bind_none]
          rw [ev_loop]
          conv => lhs; arg 4; unfold F_spec_Accepts_L0
          simp [hlt, hg, hg', Cl.row, Wk.row, e1, hnext, hq0, hq1, hq2, hB, hM, hI, b01_eq, b01_0, callD, callR, sub, setAll, back, reachC, cut, List.idxOf_cons, V.same_self, thaw, freezeAll, freeze1, overlay, rg2, rg3]
        · rw [if_pos rfl, Option.bind_some]
          have hs : ev P (.loop 0 [2, 3, 7, 38, 39, 40] F_spec_Accepts_L0 [(2, .d (.sl 5 rn (r.map Wk.row))), (3, .d (.ref [nm, I' k, I' sz, I' ot])), (7, .loc 0 0 0), (38, .d (.sl 5 ln (l.map Cl.row))), (39, .d (I' l.length)), (40, .d (I' pl.length))] [.arrD 9 true [a.row]]) =
              ev P (.loop 0 [2, 3, 7, 38, 39, 40] F_spec_Accepts_L0 [(2, .d (.sl 5 rn (r.map Wk.row))), (3, .d (.ref [nm, I' k, I' sz, I' ot])), (7, .loc 0 0 0), (38, .d (.sl 5 ln (l.map Cl.row))), (39, .d (I' l.length)), (40, .d (I' (pl ++ [c]).length))] [.arrD 9 true [a.row]]) := by
            generalize hR : ev P (.loop 0 [2, 3, 7, 38, 39, 40] F_spec_Accepts_L0 [(2, .d (.sl 5 rn (r.map Wk.row))), (3, .d (.ref [nm, I' k, I' sz, I' ot])), (7, .loc 0 0 0), (38, .d (.sl 5 ln (l.map Cl.row))), (39, .d (I' l.length)), (40, .d (I' (pl ++ [c]).length))] [.arrD 9 true [a.row]]) = R
            rw [ev_loop]
            conv => lhs; arg 4; unfold F_spec_Accepts_L0
            simp at hR
            simp [hlt, hg, hg', Cl.row, Wk.row, e1, hnext, hq0, hq1, hq2, hB, hM, hI, b01_eq, b01_0, callD, callR, sub, setAll, back, reachC, cut, List.idxOf_cons, V.same_self, thaw, freezeAll, freeze1, overlay, rg2, rg3]
            exact hR
          rw [hs]
          exact ih2
      · rw [if_pos rfl, Option.bind_some]
        have hs : ev P (.loop 0 [2, 3, 7, 38, 39, 40] F_spec_Accepts_L0 [(2, .d (.sl 5 rn (r.map Wk.row))), (3, .d (.ref [nm, I' k, I' sz, I' ot])), (7, .loc 0 0 0), (38, .d (.sl 5 ln (l.map Cl.row))), (39, .d (I' l.length)), (40, .d (I' pl.length))] [.arrD 9 true [a.row]]) =
            ev P (.loop 0 [2, 3, 7, 38, 39, 40] F_spec_Accepts_L0 [(2, .d (.sl 5 rn (r.map Wk.row))), (3, .d (.ref [nm, I' k, I' sz, I' ot])), (7, .loc 0 0 0), (38, .d (.sl 5 ln (l.map Cl.row))), (39, .d (I' l.length)), (40, .d (I' (pl ++ [c]).length))] [.arrD 9 true [a'.row]]) := by
          generalize hR : ev P (.loop 0 [2, 3, 7, 38, 39, 40] F_spec_Accepts_L0 [(2, .d (.sl 5 rn (r.map Wk.row))), (3, .d (.ref [nm, I' k, I' sz, I' ot])), (7, .loc 0 0 0), (38, .d (.sl 5 ln (l.map Cl.row))), (39, .d (I' l.length)), (40, .d (I' (pl ++ [c]).length))] [.arrD 9 true [a'.row]]) = R
          rw [ev_loop]
          conv => lhs; arg 4; unfold F_spec_Accepts_L0
          simp at hR
          simp [hlt, hg, hg', Cl.row, Wk.row, e1, hnext, hq0, hq1, hq2, hB, hM, b01_eq, b01_0, callD, callR, sub, setAll, back, reachC, cut, List.idxOf_cons, V.same_self, thaw, freezeAll, freeze1, overlay, rg2, rg3]
          exact hR
        rw [hs]
        exact ih1
    · rw [if_pos rfl]
      simp only [Option.bind_none]
      rw [ev_loop]
      conv => lhs; arg 4; unfold F_spec_Accepts_L0
      simp [hlt, hg, hg', Cl.row, Wk.row, e1, hnext, hq0, hq1, hq2, hB, callD, callR, sub, setAll, back, reachC, cut, List.idxOf_cons, V.same_self, thaw, freezeAll, freeze1, overlay, rg2, rg3]
theorem ev_lcheck (f g : Nat) (nm : D) (k sz ot e : Int) (s : S) (h : ev P (.call g [.d (.ag [nm, I' k, I' sz, I' ot]), .d (.ag s.row)] []) = some (.val (.d (I' e)) [])) :
    ev P (.call spec_layer_check [.d (.ag [.fn f [] [], .fn g [] []]), .d (.ag [nm, I' k, I' sz, I' ot]), .d (.ag s.row)] []) = some (.val (.d (I' e)) []) := by
  simp only [S.row] at h
  rw [ev_call P_spec_layer_check rfl]
  simp [F_spec_layer_check, h, toD, allD]
def accB (k sz ot : Int) (l : List Cl) (r : List Wk) : Bool :=
  if (newO k sz ot != 0 || (l.length : Int) != r.length || decide ((1000 : Int) < l.length)) then false
  else match accF k sz ot (ini k sz).pl l r with
    | none => false
    | some t => ckO k sz ot t == 0
theorem zn_ini (k sz : Int) (n : Nat) : (ini k sz).zn n := ⟨by simp [ini], by simp [ini], by simp [ini], by simp [ini], by simp [ini]⟩
theorem acS_Q {k sz ot : Int} {s t : S} {c : Cl} {w : Wk} (h : acS k sz ot s c w = some t) (hq : s.Q = []) : t.Q = [] := by
  unfold acS at h
  by_cases h1 : ((effF k sz ot s c).2.2.2 != 0 || c.task != w.task || c.op != w.op) = true
  · rw [if_pos h1] at h; cases h
  · rw [if_neg h1] at h
    by_cases h2 : (w.value == (effF k sz ot s c).2.1 && w.ok == (effF k sz ot s c).2.2.1) = true
    · rw [if_pos h2] at h
      cases h
      simp at h1
      exact (abs_of (presF (by simpa using h1.1.1)).2).2.1
    · rw [if_neg h2] at h
      split at h
      · cases h; exact hq
      · cases h
theorem accF_Q (k sz ot : Int) : ∀ (l : List Cl) (r : List Wk) (s t : S), accF k sz ot s l r = some t → s.Q = [] → t.Q = []
  | [], _, s, t, h, hq => by simp [accF] at h; rw [← h]; exact hq
  | _ :: _, [], s, t, h, hq => by simp [accF] at h; rw [← h]; exact hq
  | c :: l, w :: r, s, t, h, hq => by
    unfold accF at h
    cases hx : acS k sz ot s c w with
    | none => rw [hx] at h; cases h
    | some u =>
      rw [hx, Option.bind_some] at h
      exact accF_Q k sz ot l r u t h (acS_Q hx hq)
theorem ev_AccG (f g t : Nat) (ht : t = 101 ∨ t = 102 ∨ t = 103 ∨ t = 104 ∨ t = 105 ∨ t = 106 ∨ t = 107 ∨ t = 108) (nm : D) (k sz ot : Int) (hof : ev P (.call spec_of [.d (I' k)] []) = some (.val (.tu [.d (.ifc t (.ag [.fn f [] [], .fn g [] []])), .d (.b true)]) []))
    (hck : ∀ s : S, s.Q = [] → s.sm → ev P (.call g [.d (.ag [nm, I' k, I' sz, I' ot]), .d (.ag s.row)] []) = some (.val (.d (I' (ckO k sz ot s))) [])) (ln rn : Bool) (l : List Cl) (r : List Wk) (hl : l.length ≤ 100000) (hr : r.length ≤ 100000) :
    ev P (.call spec_Accepts [.d (.ag [nm, I' k, I' sz, I' ot]), .d (.sl 5 ln (l.map Cl.row)), .d (.sl 5 rn (r.map Wk.row))] []) = some (.val (.d (.b (accB k sz ot l r))) []) := by
  have hI := ev_Initial nm k sz ot
  rw [← ini_row] at hI
  unfold nwR at hI
  rw [ev_call P_spec_Accepts rfl]
  unfold accB
  cases hB : (newO k sz ot != 0 || (l.length : Int) != r.length || decide ((1000 : Int) < l.length))
  · rw [if_neg (by decide)]
    have hB2 := hB
    simp at hB2
    obtain ⟨⟨b1, b2⟩, b3⟩ := hB2
    have hL := loop_acc nm k sz ot ln rn l r (by omega) (by omega) l r [] [] (ini k sz) rfl rfl rfl (ini_wf _ _) (zn_ini _ _ _)
    rw [if_pos b1, b1] at hI
    simp only [S.row] at hI
    have hb : ((l.length : Int) != r.length || decide ((1000 : Int) < l.length)) = false := by rw [b1] at hB; simpa using hB
    cases hx : accF k sz ot (ini k sz).pl l r with
    | none =>
      rw [hx] at hL
      simp only [S.row] at hL
      simp at hL
      simp [F_spec_Accepts, hI, hb, hL, callD, callR, sub, setAll, back, reachC, cut, List.idxOf_cons, V.same_self, thaw, freezeAll, freeze1, overlay, rg2, rg3]
    | some t =>
      rw [hx] at hL
      obtain ⟨s, h1, h2, h3, hL⟩ := hL
      have hq : s.Q = [] := by
        have := accF_Q k sz ot l r _ _ hx rfl
        rw [← h1] at this
        exact this
      have hs := (h3.sz (by omega)).sm
      have hC := ev_lcheck f g nm k sz ot _ s (hck s hq hs)
      have e : ckO k sz ot t = ckO k sz ot s := by rw [← h1]; exact ckO_pl k sz ot s hq
      simp only [e]
      generalize ckO k sz ot s = q at *
      simp only [S.row] at hL hC
      simp at hL
      rcases ht with h | h | h | h | h | h | h | h <;> subst h <;> simp [F_spec_Accepts, hI, hb, hL, hof, invV, hC, callD, callR, sub, setAll, back, reachC, cut, List.idxOf_cons, V.same_self, thaw, freezeAll, freeze1, overlay, rg2, rg3]
  · rw [if_pos rfl]
    by_cases b1 : newO k sz ot = 0
    · rw [if_pos b1, b1] at hI
      rw [b1] at hB
      simp only [S.row] at hI
      have hb : ((l.length : Int) != r.length || decide ((1000 : Int) < l.length)) = true := by simpa using hB
      simp [F_spec_Accepts, hI, hb]
    · rw [if_neg b1] at hI
      have b2 : (newO k sz ot != 0) = true := by simpa using b1
      simp [F_spec_Accepts, hI, b2, zrow]
end Go.VS.Sp
namespace Go.VS.Sp
theorem ev_Acc (nm : D) (k sz ot : Int) (ln rn : Bool) (l : List Cl) (r : List Wk) (hl : l.length ≤ 100000) (hr : r.length ≤ 100000) :
    ev P (.call spec_Accepts [.d (.ag [nm, I' k, I' sz, I' ot]), .d (.sl 5 ln (l.map Cl.row)), .d (.sl 5 rn (r.map Wk.row))] []) = some (.val (.d (.b (accB k sz ot l r))) []) := by
  by_cases hk : k = 1 ∨ k = 2 ∨ k = 4 ∨ k = 5 ∨ k = 6 ∨ k = 7 ∨ k = 8 ∨ k = 9
  · rcases hk with h | h | h | h | h | h | h | h <;> subst h
    · exact ev_AccG mutex_New mutex_Check 101 (.inl rfl) nm 1 sz ot ev_of1 (fun s hq hs => ev_ckM nm 1 sz ot s hq hs) ln rn l r hl hr
    · exact ev_AccG rwlock_New rwlock_Check 102 (.inr (.inl rfl)) nm 2 sz ot ev_of2 (fun s hq hs => ev_ckW nm 2 sz ot s hq hs) ln rn l r hl hr
    · exact ev_AccG semaphore_New semaphore_Check 103 (.inr (.inr (.inl rfl))) nm 4 sz ot ev_of4 (fun s hq hs => ev_ckS nm 4 sz ot s hq hs) ln rn l r hl hr
    · exact ev_AccG barrier_New barrier_Check 104 (.inr (.inr (.inr (.inl rfl)))) nm 5 sz ot ev_of5 (fun s hq hs => ev_ckB nm 5 sz ot s hq hs) ln rn l r hl hr
    · exact ev_AccG channel_New channel_Check 105 (.inr (.inr (.inr (.inr (.inl rfl))))) nm 6 sz ot ev_of6 (fun s hq hs => ev_ckC nm 6 sz ot s hq hs) ln rn l r hl hr
    · exact ev_AccG topic_New topic_Check 106 (.inr (.inr (.inr (.inr (.inr (.inl rfl)))))) nm 7 sz ot ev_of7 (fun s hq hs => ev_mCheck nm 7 sz ot s hs) ln rn l r hl hr
    · exact ev_AccG limiter_New limiter_Check 107 (.inr (.inr (.inr (.inr (.inr (.inr (.inl rfl))))))) nm 8 sz ot ev_of8 (fun s hq hs => ev_ckL nm 8 sz ot s hq hs) ln rn l r hl hr
    · exact ev_AccG future_New future_Check 108 (.inr (.inr (.inr (.inr (.inr (.inr (.inr rfl))))))) nm 9 sz ot ev_of9 (fun s hq hs => ev_ckF nm 9 sz ot s hq) ln rn l r hl hr
  · have hI := ev_Initial nm k sz ot
    have b1 : ¬ newO k sz ot = 0 := fun h => hk (known_of h)
    have b2 : (newO k sz ot != 0) = true := by simpa using b1
    have e : accB k sz ot l r = false := by
      unfold accB
      rw [b2]
      simp
    rw [e]
    unfold nwR at hI
    rw [if_neg b1] at hI
    rw [ev_call P_spec_Accepts rfl]
    simp [F_spec_Accepts, hI, b2, zrow]
end Go.VS.Sp
namespace Go.VS.Sp
def cSend : Cl := ⟨1, 64, 5, 0, 0⟩
def cRecv : Cl := ⟨2, 65, 0, 0, 0⟩
def wSent : Wk := ⟨1, 64, 0, true, 0⟩
def wRecd : Wk := ⟨2, 65, 5, true, 0⟩
theorem aw1 : ((effF 6 0 0 (ini 6 0).pl cSend).2.2.2 == 0) = true := by decide
theorem aw2 : ((effF 6 0 0 (ini 6 0).pl cRecv).2.2.2 == 0) = false := by decide
theorem aw3 : accB 6 0 0 [cSend, cRecv] [wSent, wRecd] = true := by decide
theorem aw4 : accB 6 0 0 [cSend] [wSent] = false := by decide
theorem aw5 : accB 6 0 0 [cRecv, cSend] [wRecd, wSent] = false := by decide
theorem ev_object : ev P (.call nurserylaw26_object [] []) = some (.val (.d (.ag [.s [], I' 6, I' 0, I' 0])) []) := by
  rw [ev_call P_nurserylaw26_object rfl]
  simp [F_nurserylaw26_object]
theorem ev_awake : ev P (.call nurserylaw26_awake [] []) = some (.val (.d (.b true)) []) := by
  have hI := ev_Initial (.s []) 6 0 0
  have e0 : newO 6 0 0 = 0 := by decide
  unfold nwR at hI
  rw [if_pos e0, e0, ← ini_row] at hI
  have hz := (zn_ini 6 0 0).sz (by decide)
  have h1 := ev_Enabled (.s []) 6 0 0 (ini 6 0) cSend (ini_wf _ _) hz
  have h2 := ev_Enabled (.s []) 6 0 0 (ini 6 0) cRecv (ini_wf _ _) hz
  have h3 := ev_Acc (.s []) 6 0 0 false false [cSend, cRecv] [wSent, wRecd] (by decide) (by decide)
  have h4 := ev_Acc (.s []) 6 0 0 false false [cSend] [wSent] (by decide) (by decide)
  have h5 := ev_Acc (.s []) 6 0 0 false false [cRecv, cSend] [wRecd, wSent] (by decide) (by decide)
  rw [aw1] at h1
  rw [aw2] at h2
  rw [aw3] at h3
  rw [aw4] at h4
  rw [aw5] at h5
  simp only [S.row] at hI h1 h2
  simp only [List.map_cons, List.map_nil, Cl.row, Wk.row, cSend, cRecv, wSent, wRecd] at h1 h2 h3 h4 h5
  rw [ev_call P_nurserylaw26_awake rfl]
  simp [F_nurserylaw26_awake, ev_object, hI, h1, h2, h3, h4, h5, V.same_self]
end Go.VS.Sp
