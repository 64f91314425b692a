import Derived.Test.YtjjkiaahcoiihaaV01
import GoSem.Builtin.Copy
import GoSem.Builtin.Clear
set_option linter.all false
namespace Go.VS
section
variable {P : Program} {φ : Phi}
variable {nt m dB : Nat} {s : St} {g : Gh} {a : Act} {w : World} {K : Act → World → Prop} {Q : Exit → Act → World → Prop} {o : Oper}
theorem Turned.refl (w : World) (b : Nat) : Turned w w b := ⟨rfl, fun _ _ => rfl, rfl, rfl, rfl⟩
theorem hrel_reuse {h : List O} {B o' : Nat} {x : O} (hr : HRel φ h g w) (hB : ∀ k, (hget h k).live = true → g.β k ≠ B) (hx : objRel φ (h ++ [x]) (g.add h.length B o' g.I) w B o' x) :
    HRel φ (h ++ [x]) (g.add h.length B o' g.I) w where
  obj n := by
    rcases Nat.lt_trichotomy n h.length with hn | hn | hn
    · have hne : n ≠ h.length := by omega
      rw [hget_append_old hn]
      by_cases hl : (hget h n).live = true
      · have := objRel_move (hle_new (b := B) (o := o') x hr (Grew.refl w) (fun _ _ => rfl)) rfl rfl (hr.obj n)
        simpa [Gh.add, hne] using this
      · cases hq : hget h n <;> simp_all [O.live, objRel]
    · subst hn
      rw [hget_append_new]
      simpa [Gh.add] using hx
    · rw [hget_append_out hn]
      trivial
  inj n k hn hk he := by
    have key : ∀ n, (hget (h ++ [x]) n).live = true → n ≤ h.length := fun n hn => by
      rcases Nat.lt_or_ge h.length n with h1 | h1
      · rw [hget_append_out h1] at hn; simp [O.live] at hn
      · exact h1
    have kn := key n hn
    have kk := key k hk
    by_cases h1 : n = h.length <;> by_cases h2 : k = h.length
    · omega
    · have hlt : k < h.length := by omega
      rw [hget_append_old hlt] at hk
      have := hB k hk
      simp [Gh.add, h1, h2] at he
      exact absurd he.symm this
    · have hlt : n < h.length := by omega
      rw [hget_append_old hlt] at hn
      have := hB n hn
      simp [Gh.add, h1, h2] at he
      exact absurd he this
    · have hlt : n < h.length := by omega
      have hlt' : k < h.length := by omega
      rw [hget_append_old hlt] at hn
      rw [hget_append_old hlt'] at hk
      simp [Gh.add, h1, h2] at he
      exact hr.inj n k hn hk he
  new := hr.new
theorem objRel_rows {h' : List O} {g' : Gh} {w' : World} {b es : Nat} {T : TypeId} {C : List Value} {rest : List Value} {ys : List (List D)} {ex : Bool} (hb : w'.heap[b]? = some (.cells (C ++ rest).toArray T (0, 0)))
    (hl : ∀ r ∈ ys, r.length = es) (hr : relDs φ g'.I w' ys.flatten C) (h1 : ∀ v ∈ C, v.oneCell' = true) (hI : if ex then g'.I b ≤ 0 else g'.I b = 0 + es * ys.length) : objRel φ h' g' w' b 0 (.arrD es ex ys) := by
  have hlen := relDs_length hr
  rw [flatten_length hl] at hlen
  refine ⟨⟨_, T, hb, by simp; omega⟩, relRows_of_flat hl hr h1 fun j v hj => ?_, hI⟩
  simp only [World.cell?, hb, Nat.zero_add, List.getElem?_toArray]
  rw [List.getElem?_append_left]
  · simp [hj]
  · rcases Nat.lt_or_ge j C.length with h2 | h2
    · exact h2
    · simp [List.getElem?_eq_none h2] at hj
theorem grew_drew_alloc (w : World) (ob : Obj) : Grew w (w.drew.alloc ob) := (Grew.drew w).trans (Grew.alloc w.drew ob)
theorem one_zeroCells {C : Array Value} (h : ∀ v ∈ C.toList, v.oneCell' = true) (n : Nat) : ∀ v ∈ (Builtin.zeroCells C n).toList, v.oneCell' = true := by
  intro v hv
  simp only [Builtin.zeroCells, Array.toList_map, Array.toList_range, List.mem_map, List.mem_range] at hv
  obtain ⟨i, hi, rfl⟩ := hv
  have hp : 0 < C.size := by
    rcases Nat.eq_zero_or_pos C.size with h0 | h0
    · rw [h0] at hi; simp at hi
    · exact h0
  have hlt := Nat.mod_lt i hp
  rw [getElem!_pos C _ hlt]
  exact h _ (by simp)
theorem sim_newrowsG (hs : SRel φ nt m dB s g a w) {d : Nat} (hd : dstIs nt o d = true) {es cap : Nat} {T : TypeId} {C rest : List Value} {ys : List (List D)} {ex : Bool} {ok : Bool} {w1 : World} (hg1 : Grew w w1) (hz1 : w1.heap.size = w.heap.size)
    (hrun : (execOp a.eval o).run P w = .ok (.value (.slice (some ⟨w.heap.size, 0, none⟩) ys.length cap)) (w1.alloc (.cells (C ++ rest).toArray T)))
    (hl : ∀ r ∈ ys, r.length = es) (hr : relDs φ g.I w ys.flatten C) (h1 : ∀ v ∈ C, v.oneCell' = true) (hcap : ys.length ≤ cap) (hfit : cap * es ≤ C.length + rest.length) (hrest : ∀ v ∈ rest, v.oneCell' = true)
    (hK : ∀ g' v' w', SRel φ nt m dB ⟨(d, .asl s.heap.length 0 ys.length) :: s.env, s.heap ++ [.arrD es ex ys], ok⟩ g' (a.put o.dst v') w' → Frame m s.heap g w (s.heap ++ [.arrD es ex ys]) g' w' → K (a.put o.dst v') w') : o.wp P a w K Q := by
  have hnew := hs.heap.new
  have hnew1 : ∀ b, w1.heap.size ≤ b → g.I b = 0 := fun b hb => hnew b (by omega)
  have hg := hg1.trans (Grew.alloc w1 (.cells (C ++ rest).toArray T))
  have hb : (w1.alloc (.cells (C ++ rest).toArray T)).heap[w.heap.size]? = some (.cells (C ++ rest).toArray T) := by rw [← hz1]; exact heap_alloc_at w1 _
  have hI : ∀ b, b < w.heap.size → updI g.I w.heap.size (if ex then 0 else es * ys.length) b = g.I b := fun b hb => updI_lt hb
  have hE := ext_grew hg hI hnew
  refine sim_newobj hs hd (b := w.heap.size) (off := 0) (x := .arrD es ex ys) (I' := updI g.I w.heap.size (if ex then 0 else es * ys.length)) hrun hg hI (by rw [← hz1]; exact size_alloc_le (w := w1) hnew1 _) (Nat.le_refl _) ?_ ?_ hK
  · refine objRel_rows hb hl (relDs_ext hE hr) h1 ?_
    cases ex <;> simp [Gh.add, updI]
  · simp only [relV]
    refine ⟨by simp, rfl, fun es' he' => ?_⟩
    rw [hget_append_new] at he' ⊢
    simp [O.es?] at he'
    subst he'
    exact ⟨cap, by simp [Gh.add], hcap, by simp [O.len]; exact hcap, _, _, by simpa [Gh.add] using hb, by simp [Gh.add]; exact hfit, fun v hv => by simp at hv; exact hv.elim (h1 v) (hrest v)⟩
theorem sim_newrows (hs : SRel φ nt m dB s g a w) {d : Nat} (hd : dstIs nt o d = true) {es cap : Nat} {T : TypeId} {C rest : List Value} {ys : List (List D)} {ex : Bool} {ok : Bool}
    (hrun : (execOp a.eval o).run P w = .ok (.value (.slice (some ⟨w.heap.size, 0, none⟩) ys.length cap)) (w.drew.alloc (.cells (C ++ rest).toArray T)))
    (hl : ∀ r ∈ ys, r.length = es) (hr : relDs φ g.I w ys.flatten C) (h1 : ∀ v ∈ C, v.oneCell' = true) (hcap : ys.length ≤ cap) (hfit : cap * es ≤ C.length + rest.length) (hrest : ∀ v ∈ rest, v.oneCell' = true)
    (hK : ∀ g' v' w', SRel φ nt m dB ⟨(d, .asl s.heap.length 0 ys.length) :: s.env, s.heap ++ [.arrD es ex ys], ok⟩ g' (a.put o.dst v') w' → Frame m s.heap g w (s.heap ++ [.arrD es ex ys]) g' w' → K (a.put o.dst v') w') : o.wp P a w K Q :=
  sim_newrowsG hs hd (Grew.drew w) rfl hrun hl hr h1 hcap hfit hrest hK
theorem SRel.kill (hs : SRel φ nt m dB s g a w) {n : Nat} (hl : (hget s.heap n).live = true) (ok : Bool) : SRel φ nt m dB ⟨s.env, s.heap.set n .dead, ok⟩ g a w ∧ Frame m s.heap g w (s.heap.set n .dead) g w ∧ HLe s.heap g w (s.heap.set n .dead) g w := by
  have hle : HLe s.heap g w (s.heap.set n .dead) (g.setI g.I) w := hle_turn hs.heap hl (Turned.refl _ _) (Ext.refl _ _) (fun es he => by simp [O.es?] at he) (fun kv hk => by simp at hk)
  have hr : HRel φ (s.heap.set n .dead) (g.setI g.I) w := hrel_turn hs.heap hl (Turned.refl _ _) hle (fun _ _ => rfl) trivial
  exact ⟨hs.turn hl (Turned.refl _ _) hle hr, frame_turn .dead hl (Turned.refl _ _) (Ext.refl _ _) (fun _ _ => rfl) hle, hle⟩
theorem relDs_overlay {I : Nat → Nat} {cs ds : List D} {vs us : List Value} (h : relDs φ I w cs vs) (k : relDs φ I w ds us) (n : Nat) : relDs φ I w (overlay cs n ds) (overlay vs n us) := by
  unfold overlay
  rw [relDs_length k]
  exact relDs_append (relDs_append (relDs_take h n) k) (relDs_drop h _)
theorem overlay_flatten {α : Type} {es : Nat} {rows ys : List (List α)} (hl : ∀ r ∈ rows, r.length = es) (hy : ∀ r ∈ ys, r.length = es) (n : Nat) : (overlay rows n ys).flatten = overlay rows.flatten (n * es) ys.flatten := by
  have key : ∀ (rows : List (List α)) (n : Nat), (∀ r ∈ rows, r.length = es) → (rows.take n).flatten = rows.flatten.take (n * es) ∧ (rows.drop n).flatten = rows.flatten.drop (n * es) := by
    intro rows
    induction rows with
    | nil => intro n _; simp
    | cons r rs ih =>
      intro n h
      have hr : r.length = es := h r (by simp)
      cases n with
      | zero => simp
      | succ n =>
        obtain ⟨h1, h2⟩ := ih n (fun x hx => h x (by simp [hx]))
        simp only [List.take_succ_cons, List.flatten_cons, List.drop_succ_cons, h1, h2, List.take_append, List.drop_append, hr, Nat.succ_mul]
        have e1 : n * es + es - es = n * es := by omega
        have e2 : r.take (n * es + es) = r := List.take_of_length_le (by omega)
        have e3 : r.drop (n * es + es) = [] := List.drop_eq_nil_of_le (by omega)
        rw [e1, e2, e3]
        simp
  unfold overlay
  rw [List.flatten_append, List.flatten_append, (key rows n hl).1, (key rows _ hl).2, flatten_length hy]
  congr 2
  rw [Nat.add_mul, Nat.mul_comm ys.length]
theorem overlay_mem {α : Type} {cs ds : List α} {n : Nat} {x : α} (h : x ∈ overlay cs n ds) : x ∈ cs ∨ x ∈ ds := by
  simp only [overlay, List.mem_append] at h
  rcases h with (h | h) | h
  · exact .inl (List.mem_of_mem_take h)
  · exact .inr h
  · exact .inl (List.mem_of_mem_drop h)
theorem relRows_over {I I' : Nat → Nat} {w' : World} {b es off n : Nat} {rows ys : List (List D)} {news : List Value} (hr : relRows φ I w b es off rows) (hE : Ext I w I' w') (hy : relDs φ I w ys.flatten news) (h1 : ∀ v ∈ news, v.oneCell' = true)
    (hyl : ∀ r ∈ ys, r.length = es) (hn : n + ys.length ≤ rows.length) {cur : Array Value} {T : TypeId} (hg : w.heap[b]? = some (.cells cur T (0, 0))) (hfit : off + es * rows.length ≤ cur.size)
    (hg' : w'.heap[b]? = some (.cells (overlay cur.toList (off + n * es) news).toArray T (0, 0))) : relRows φ I' w' b es off (overlay rows n ys) := by
  have hrl : ∀ r ∈ rows, r.length = es := by
    intro r hmem
    obtain ⟨j, hj, he⟩ := List.getElem_of_mem hmem
    exact (relRows_get hr (r := j) (row := r) (by simp [hj, he])).1
  obtain ⟨vs, k1, k2, k3, k4⟩ := relRows_flat hr
  have hnl := relDs_length hy
  rw [flatten_length hyl] at hnl
  have hmul : n * es + es * ys.length ≤ es * rows.length := by
    have := Nat.mul_le_mul_left es hn
    rw [Nat.mul_add, Nat.mul_comm es n] at this
    exact this
  refine relRows_of_flat (vs := overlay vs (n * es) news) (fun r hr => (overlay_mem hr).elim (hrl r) (hyl r)) ?_ (fun v hv => (overlay_mem hv).elim (k2 v) (h1 v)) fun j v hj => ?_
  · rw [overlay_flatten hrl hyl]
    exact relDs_ext hE (relDs_overlay k1 hy _)
  · have hov := overlay_get (cs := cur.toList) (new := news) (o := off + n * es) (by simp; omega) (off + j)
    rw [overlay_get (by omega)] at hj
    have old : vs[j]? = some v → cur.toList[off + j]? = some v := fun h => by
      have := k4 j v h
      simpa [World.cell?, hg] using this
    simp only [World.cell?, hg', List.getElem?_toArray]
    rw [hov]
    by_cases c1 : j < n * es
    · rw [if_pos c1] at hj
      rw [if_pos (show off + j < off + n * es by omega)]
      exact old hj
    · rw [if_neg c1] at hj
      rw [if_neg (show ¬ off + j < off + n * es by omega)]
      by_cases c2 : j < n * es + news.length
      · rw [if_pos c2] at hj
        rw [if_pos (show off + j < off + n * es + news.length by omega)]
        have : off + j - (off + n * es) = j - n * es := by omega
        rw [this]
        exact hj
      · rw [if_neg c2] at hj
        rw [if_neg (show ¬ off + j < off + n * es + news.length by omega)]
        exact old hj
def mkSl (b : Bool) (n off len : Nat) : V := if b then .aslx n off len else .asl n off len
theorem app_over (bx : Bool) (hs : SRel φ nt m dB s g a w) {d n off len cap es : Nat} {x' : Operand} {rows ys : List (List D)} {news : List Value} {CS : Array Value} {T : TypeId} (hd : dstIs nt o d = true) (hn : hget s.heap n = .arrD es true rows)
    (hb : w.heap[g.β n]? = some (.cells CS T (0, 0))) (hfit : g.o n + (off + cap) * es ≤ CS.size) (hcs : OneC CS) (hfit' : g.o n + es * rows.length ≤ CS.size) (hm : if bx then rows.length = off + cap else rows.length ≤ off + cap) (he : a.eval x' = .slice (some ⟨g.β n, g.o n + off * es, none⟩) len cap)
    (hrr : relRows φ g.I w (g.β n) es (g.o n) rows) (hI : g.I (g.β n) ≤ g.o n) (hrd : relDs φ g.I w ys.flatten news) (hone : ∀ u ∈ news, u.oneCell' = true) (hrl : ∀ r ∈ ys, r.length = es) (hnl' : news.length = ys.length * es)
    (hin : off + len + ys.length ≤ rows.length)
    (hrun : len + ys.length ≤ cap → g.o n + off * es + len * es + news.length ≤ CS.size → (execOp a.eval o).run P w = .ok (.value (.slice (some ⟨g.β n, g.o n + off * es, none⟩) (len + ys.length) cap)) (w.setRow (g.β n) (overlay CS.toList (g.o n + off * es + len * es) news).toArray))
    (hK : After φ nt m dB s g w ⟨(d, mkSl bx n off (len + ys.length)) :: s.env, s.heap.set n (.arrD es true (overlay rows (off + len) ys)), s.ok⟩ o a K) : o.wp P a w K Q := by
  have hl : (hget s.heap n).live = true := by rw [hn]; rfl
  have hm' : rows.length ≤ off + cap := by cases bx <;> simp at hm <;> omega
  have hmul : (off + len + ys.length) * es ≤ rows.length * es := Nat.mul_le_mul_right es hin
  rw [Nat.add_mul, Nat.add_mul] at hmul
  have hc1 : es * rows.length = rows.length * es := Nat.mul_comm _ _
  have hfit2 : g.o n + off * es + len * es + news.length ≤ CS.size := by omega
  have hrun' := hrun (by omega) hfit2
  obtain ⟨ht, hw'⟩ := turned_setRow (cs := (overlay CS.toList (g.o n + off * es + len * es) news).toArray) hb
  have hE : Ext g.I w g.I (w.setRow (g.β n) (overlay CS.toList (g.o n + off * es + len * es) news).toArray) := ext_store ht hb hfit2 hw' (by omega) (fun _ => Nat.le_refl _)
  have hsize : (overlay CS.toList (g.o n + off * es + len * es) news).toArray.size = CS.size := by
    have := overlay_length (cs := CS.toList) (new := news) (o := g.o n + off * es + len * es) (by simpa using hfit2)
    simpa using this
  have hol : (overlay rows (off + len) ys).length = rows.length := overlay_length hin
  have hle := hle_turn (x := .arrD es true (overlay rows (off + len) ys)) hs.heap hl ht hE
    (fun es' he' => ⟨by rw [hn]; simpa [O.es?] using he', by rw [hn]; simp only [O.len, hol], fun CS' T' hc => by
      rw [hb] at hc
      simp at hc
      obtain ⟨rfl, rfl⟩ := hc
      exact ⟨_, _, hw', by rw [hsize]; exact Nat.le_refl _, fun h => h.over hone⟩⟩) (fun kv hk => by simp at hk)
  have e1 : g.o n + off * es + len * es = g.o n + (off + len) * es := by rw [Nat.add_mul]; omega
  have hH := hrel_turn (x := .arrD es true (overlay rows (off + len) ys)) hs.heap hl ht hle (fun _ _ => rfl)
    ⟨⟨_, T, hw', by rw [hsize, hol]; exact hfit'⟩, relRows_over hrr hE hrd hone hrl hin hb hfit' (by rw [← e1]; exact hw'), by simpa [Gh.setI] using hI⟩
  have hS := hs.turn (ok := s.ok) hl ht hle hH
  obtain ⟨h1, h2⟩ := dstIs_spec hd
  refine wp_val hrun' (hK _ _ _ ?_ (frame_turn _ hl ht hE (fun _ _ => rfl) hle))
  rw [h1]
  refine hS.putV h2 ?_
  cases bx with
  | false =>
    simp only [mkSl, Bool.false_eq_true, if_false, relV]
    refine ⟨by simpa using hget_lt hl, rfl, fun es' he' => ?_⟩
    rw [hget_set_same (hget_lt hl)] at he' ⊢
    simp [O.es?] at he'
    subst he'
    exact ⟨cap, rfl, by omega, by simp only [O.len, hol]; exact hm', _, _, hw', by rw [hsize]; exact hfit, hcs.over hone⟩
  | true =>
    simp only [if_true] at hm
    simp only [mkSl, if_true, relV]
    refine ⟨by simpa using hget_lt hl, rfl, fun es' he' => ?_⟩
    rw [hget_set_same (hget_lt hl)] at he' ⊢
    simp [O.es?] at he'
    subst he'
    exact ⟨cap, rfl, by omega, by simp only [O.len, hol]; exact hm, _, _, hw', by rw [hsize]; exact hfit, hcs.over hone⟩
theorem app_here (hs : SRel φ nt m dB s g a w) {d n off len cap es : Nat} {x' : Operand} {ex : Bool} {rows ys : List (List D)} {news : List Value} {CS : Array Value} {T : TypeId} (hd : dstIs nt o d = true) (hn : hget s.heap n = .arrD es ex rows)
    (hb : w.heap[g.β n]? = some (.cells CS T (0, 0))) (hfit : g.o n + (off + cap) * es ≤ CS.size) (hcs : OneC CS) (hfit' : g.o n + es * rows.length ≤ CS.size) (hm : rows.length ≤ off + cap) (hle0 : off + len ≤ rows.length) (he : a.eval x' = .slice (some ⟨g.β n, g.o n + off * es, none⟩) len cap)
    (hrr : relRows φ g.I w (g.β n) es (g.o n) rows) (hI : if ex then g.I (g.β n) ≤ g.o n else g.I (g.β n) = g.o n + es * rows.length) (hrd : relDs φ g.I w ys.flatten news) (hone : ∀ u ∈ news, u.oneCell' = true) (hrl : ∀ r ∈ ys, r.length = es) (hnl' : news.length = ys.length * es)
    (hcap : len + ys.length ≤ cap) (hex : ex = true ∨ off + len = rows.length)
    (hrun : g.o n + off * es + len * es + news.length ≤ CS.size → (execOp a.eval o).run P w = .ok (.value (.slice (some ⟨g.β n, g.o n + off * es, none⟩) (len + ys.length) cap)) (w.setRow (g.β n) (overlay CS.toList (g.o n + off * es + len * es) news).toArray))
    (hK : After φ nt m dB s g w ⟨(d, .asl s.heap.length 0 (len + ys.length)) :: s.env, s.heap.set n .dead ++ [.arrD es ex ((rows.drop off).take len ++ ys)], s.ok⟩ o a K) : o.wp P a w K Q := by
  have hl : (hget s.heap n).live = true := by rw [hn]; rfl
  have hmul : (len + ys.length) * es ≤ cap * es := Nat.mul_le_mul_right es hcap
  have hmul2 : (off + len) * es ≤ rows.length * es := Nat.mul_le_mul_right es hle0
  rw [Nat.add_mul] at hmul hmul2
  have hfit3 := hfit
  rw [Nat.add_mul] at hfit3
  have hc1 : es * rows.length = rows.length * es := Nat.mul_comm _ _
  have hc2 : es * len = len * es := Nat.mul_comm _ _
  have hc3 : es * ys.length = ys.length * es := Nat.mul_comm _ _
  have hfit2 : g.o n + off * es + len * es + news.length ≤ CS.size := by omega
  have hrun' := hrun hfit2
  obtain ⟨ht, hw'⟩ := turned_setRow (cs := (overlay CS.toList (g.o n + off * es + len * es) news).toArray) hb
  generalize hwg : w.setRow (g.β n) (overlay CS.toList (g.o n + off * es + len * es) news).toArray = w' at *
  have hlen : ((rows.drop off).take len).length = len := by simp; omega
  have hll : ((rows.drop off).take len ++ ys).length = len + ys.length := by simp; omega
  have hIp : g.I (g.β n) ≤ g.o n + off * es + len * es := by
    cases ex with
    | true => simp only [if_true] at hI; omega
    | false =>
      simp at hI hex
      have : rows.length * es = off * es + len * es := by rw [← hex, Nat.add_mul]
      omega
  have hE : Ext g.I w (if ex then g.I else updI g.I (g.β n) (g.o n + off * es + es * (len + ys.length))) w' := ext_store ht hb hfit2 hw' hIp (fun k => by
    cases ex with
    | true => simp
    | false =>
      simp only [Bool.false_eq_true, if_false, updI]
      split
      · rename_i hk; subst hk; rw [Nat.mul_add]; omega
      · exact Nat.le_refl _)
  generalize hIg : (if ex then g.I else updI g.I (g.β n) (g.o n + off * es + es * (len + ys.length))) = I' at hE
  have hI' : ∀ b, b ≠ g.β n → I' b = g.I b := by
    intro b hb
    rw [← hIg]
    cases ex <;> simp [updI, hb]
  have hsize : (overlay CS.toList (g.o n + off * es + len * es) news).toArray.size = CS.size := by
    have := overlay_length (cs := CS.toList) (new := news) (o := g.o n + off * es + len * es) (by simpa using hfit2)
    simpa using this
  have hle1 := hle_turn (x := .dead) hs.heap hl ht hE (fun es he => by simp [O.es?] at he) (fun kv hk => by simp at hk)
  have hH1 := hrel_turn (x := .dead) hs.heap hl ht hle1 hI' trivial
  have hS1 := hs.turn (ok := s.ok) hl ht hle1 hH1
  have hB : ∀ k, (hget (s.heap.set n .dead) k).live = true → (g.setI I').β k ≠ g.β n := by
    intro k hk hbk
    by_cases hkn : k = n
    · subst hkn; rw [hget_set_same (hget_lt hl)] at hk; simp [O.live] at hk
    · rw [hget_set_other hkn] at hk; exact hkn (hs.heap.inj k n hk hl hbk)
  have hle2 := hle_new (b := g.β n) (o := g.o n + off * es) (.arrD es ex ((rows.drop off).take len ++ ys)) hH1 (Grew.refl w') (I' := I') (fun _ _ => rfl)
  obtain ⟨olds, o1, o2, o3, o4⟩ := relRows_flat (relRows_take hrr hle0)
  rw [hlen] at o3
  have hrl2 : ∀ r ∈ (rows.drop off).take len ++ ys, r.length = es := by
    intro r hr
    rcases List.mem_append.1 hr with h1 | h1
    · obtain ⟨j, hj, hje⟩ := List.getElem_of_mem (List.mem_of_mem_drop (List.mem_of_mem_take h1))
      exact (relRows_get hrr (r := j) (row := r) (by simp [hj, hje])).1
    · exact hrl r h1
  have hrr2 : relRows φ I' w' (g.β n) es (g.o n + off * es) ((rows.drop off).take len ++ ys) := by
    refine relRows_of_flat (vs := olds ++ news) hrl2 (by rw [List.flatten_append]; exact relDs_ext hE (relDs_append o1 hrd)) (fun v hv => (List.mem_append.1 hv).elim (o2 v) (hone v)) fun j v hj => ?_
    have hov := overlay_get (cs := CS.toList) (new := news) (o := g.o n + off * es + len * es) (by simpa using hfit2) (g.o n + off * es + j)
    simp only [World.cell?, hw', List.getElem?_toArray]
    rw [hov]
    by_cases c1 : j < olds.length
    · rw [List.getElem?_append_left c1] at hj
      rw [if_pos (show g.o n + off * es + j < g.o n + off * es + len * es by omega)]
      have := o4 j v hj
      simpa [World.cell?, hb] using this
    · rw [List.getElem?_append_right (by omega)] at hj
      have hjl : j - olds.length < news.length := by
        rcases Nat.lt_or_ge (j - olds.length) news.length with h2 | h2
        · exact h2
        · simp [List.getElem?_eq_none h2] at hj
      rw [if_neg (show ¬ g.o n + off * es + j < g.o n + off * es + len * es by omega), if_pos (show g.o n + off * es + j < g.o n + off * es + len * es + news.length by omega)]
      have : g.o n + off * es + j - (g.o n + off * es + len * es) = j - olds.length := by omega
      rw [this]
      exact hj
  have hobj2 : objRel φ (s.heap.set n .dead ++ [.arrD es ex ((rows.drop off).take len ++ ys)]) ((g.setI I').add (s.heap.set n .dead).length (g.β n) (g.o n + off * es) I') w' (g.β n) (g.o n + off * es) (.arrD es ex ((rows.drop off).take len ++ ys)) := by
    refine ⟨⟨_, T, hw', by rw [hsize, hll, Nat.mul_add]; omega⟩, hrr2, ?_⟩
    rw [hll]
    show if ex = true then I' (g.β n) ≤ _ else I' (g.β n) = _
    rw [← hIg]
    cases ex with
    | true => simp at hI ⊢; omega
    | false => simp [updI]
  have hH2 := hrel_reuse hH1 hB hobj2
  have hS2 : SRel φ nt m dB ⟨s.env, s.heap.set n .dead ++ [.arrD es ex ((rows.drop off).take len ++ ys)], s.ok⟩ ((g.setI I').add (s.heap.set n .dead).length (g.β n) (g.o n + off * es) I') a w' :=
    ⟨fun k => relV_le hle2 (hS1.env k), hH2, hS1.size, hs.defers.reuse hl hS1.defers, by have := hs.len; simp; omega⟩
  have hlen1 : (s.heap.set n .dead).length = s.heap.length := by simp
  have hF1 := frame_turn (m := m) .dead hl ht hE hI' hle1
  obtain ⟨h1, h2⟩ := dstIs_spec hd
  refine wp_val hrun' (hK ((g.setI I').add (s.heap.set n .dead).length (g.β n) (g.o n + off * es) I') _ _ ?_ ⟨hE, hF1.size, hF1.os, hF1.tape, hF1.output, fun k hk => ?_, hF1.keep, fun k hk => ?_, fun k hk => ?_⟩)
  · rw [h1]
    refine hS2.putV h2 ?_
    simp only [relV]
    refine ⟨by simp, rfl, fun es' he' => ?_⟩
    rw [← hlen1, hget_append_new] at he' ⊢
    simp [O.es?] at he'
    subst he'
    refine ⟨cap, by simp [Gh.add], hcap, by simp only [O.len, hll]; omega, _, _, by simp only [Gh.add, if_true]; exact hw', ?_, hcs.over hone⟩
    simp only [Gh.add, if_true]
    rw [hsize, Nat.zero_add]
    omega
  · have hne : k ≠ s.heap.length := by have := hs.len; omega
    simp [Gh.add, hne, Gh.setI]
  · rcases Nat.lt_trichotomy k (s.heap.set n .dead).length with hk' | hk' | hk'
    · rw [hget_append_old hk'] at hk
      have hne : k ≠ s.heap.length := by omega
      have := hF1.lives k hk
      simpa [Gh.add, hne] using this
    · exact .inl ⟨n, hl, by simp [Gh.add, hk']⟩
    · rw [hget_append_out hk'] at hk; simp [O.live] at hk
  · have hk1 : k < s.heap.length := Nat.lt_of_lt_of_le hk hs.len
    exact (hle1.at hk1).trans (hle2.at (by rw [hlen1]; exact hk1)) rfl
theorem sim_app (hs : SRel φ nt m dB s g a w) {rec : Rec} {d es : Nat} {x y : A} (hc : chkI P φ nt o (.app d x y es) = true) (hok : (evI rec (.app d x y es) s).ok = true)
    (hK : After φ nt m dB s g w (evI rec (.app d x y es) s) o a K) : o.wp P a w K Q := by
  simp only [chkI, Bool.and_eq_true] at hc
  obtain ⟨hd, h⟩ := hc
  split at h
  · rename_i c ho
    split at h
    · rename_i x' y' t t' hcal hargs htys
      simp only [Bool.and_eq_true, decide_eq_true_eq] at h
      obtain ⟨⟨⟨hx, hy⟩, hpos⟩, ht⟩ := h
      obtain ⟨cal, args, tys⟩ := c
      simp only at hcal hargs htys
      have hargs' : args = #[x', y'] := by rw [← Array.toList_inj]; exact hargs
      have htys' : tys = #[t, t'] := by rw [← Array.toList_inj]; exact htys
      subst hcal; subst hargs'; subst htys'
      split at ht
      · rename_i e e' hu hu'
        split at ht
        · rename_i i hi
          simp only [Bool.and_eq_true, beq_iff_eq, decide_eq_true_eq] at ht
          obtain ⟨⟨hsz, hby⟩, hzz⟩ := ht
          split at hzz
          · rename_i z hz
            simp only [Bool.and_eq_true, beq_iff_eq, List.all_eq_true] at hzz
            obtain ⟨hzz, hz1⟩ := hzz
            subst hsz
            have rx := chkA_rel hs hx
            have ry := chkA_rel hs hy
            have fin : ∀ {u u' : Value} {r : Value} {w' : World}, a.eval x' = u → a.eval y' = u' → (Builtin.append_ #[t, t'] o.type #[u, u']).run P w = .ok r w' → (execOp a.eval o).run P w = .ok (.value r) w' := by
              intro u u' r w' h1 h2 h3
              simp [execOp, ho, resolve, invoke, builtin, h1, h2, h3]
            simp only [evI] at hok hK
            obtain ⟨v, hh, hv⟩ := putH_spec hok
            rw [hv] at hK
            simp only [St.putH] at hK
            have same : ∀ {v' : Value}, (execOp a.eval o).run P w = .ok (.value v') w → hh = s.heap → relV φ s.heap g w v v' → o.wp P a w K Q := by
              intro v' h1 h2 h3
              subst h2
              exact sim_pure hs hd h1 h3 hK
            unfold appV at hv
            cases hrows : rowsD s.heap i.size (s.get y) with
            | none => simp [hrows] at hv
            | some ys =>
              simp only [hrows] at hv
              obtain ⟨xa, xc, news, hey, hrl, hrd, hone, hnl, hbase⟩ := rowsD_rel hs.heap ry hrows
              have hnl' : news.length = ys.length * i.size := by rw [hnl, Nat.mul_comm]
              have hcells : news ≠ [] → ∃ b off, xa = some ⟨b, off, none⟩ ∧ ∀ (j : Nat) (u : Value), news[j]? = some u → w.cell? ⟨b, off + j, none⟩ = some u := by
                intro hne
                refine hbase fun h => hne ?_
                subst h
                exact List.eq_nil_of_length_eq_zero (by simpa using hnl)
              have zero : ys.length = 0 → ∀ {ad : Option Addr} {len cap : Nat}, len ≤ cap → a.eval x' = .slice ad len cap → (execOp a.eval o).run P w = .ok (.value (.slice ad len cap)) w := by
                intro h0 ad len cap hle he
                rw [h0] at hey
                exact fin he hey (run_append_zero hu hu' hi hle)
              have fresh : ∀ {ad : Option Addr}, a.eval x' = .slice ad 0 0 → ys.length ≠ 0 → ys.length ≤ room → v = .asl s.heap.length 0 ys.length → hh = s.heap ++ [.arrD i.size true ys] → o.wp P a w K Q := by
                intro ad he h0 hroom hv1 hv2
                subst hv1; subst hv2
                have hrun := run_append_new (P := P) (w := w) (ty := o.type) hu hu' hi hz (sLen := 0) (sCap := 0) (sc := 0) (base := ad) (olds := []) (by simp) (by simp) hnl' hcells (xc := xc) (by omega) (by omega) hby rfl
                simp only [Nat.zero_add, List.nil_append] at hrun
                have hgc := grownCap_ge w ys.length 0 e
                refine sim_newrows hs hd (es := i.size) (ex := true) (rest := (Builtin.zeroCells z.cells (grownCap w ys.length 0 e - ys.length)).toList) (fin he hey hrun) hrl hrd hone hgc ?_ (one_zeroCells hz1 _) hK
                rw [hnl']
                have hz2 : (Builtin.zeroCells z.cells (grownCap w ys.length 0 e - ys.length)).toList.length = (grownCap w ys.length 0 e - ys.length) * i.size := by simp [size_zeroCells, hzz]
                rw [hz2, ← Nat.add_mul]
                exact Nat.mul_le_mul_right _ (by omega)
              cases hxv : s.get x with
              | d xd =>
                cases xd with
                | sl e1 nl xs =>
                  rw [hxv] at hv rx
                  simp only at hv
                  split at hv
                  · rename_i hes
                    subst hes
                    simp only [relV, relD] at rx
                    obtain ⟨ad, cap, he, hlc, ht1, hf1⟩ := rx
                    split at hv
                    · rename_i h0
                      simp at hv
                      obtain ⟨rfl, rfl⟩ := hv
                      exact same (zero h0 hlc he) rfl (by simp only [relV, relD]; exact ⟨ad, cap, rfl, hlc, ht1, hf1⟩)
                    · rename_i h0
                      split at hv
                      · rename_i hnr
                        simp at hv
                        obtain ⟨rfl, rfl⟩ := ht1 hnr.1
                        have : xs.length = 0 := by omega
                        rw [this] at he
                        exact fresh he h0 hnr.2 hv.1.symm hv.2.symm
                      · simp at hv
                  · simp at hv
                | _ => rw [hxv] at hv; simp at hv
              | sl0 e1 =>
                rw [hxv] at hv rx
                simp only at hv
                simp only [relV] at rx
                obtain ⟨ad, he⟩ := rx
                split at hv
                · rename_i h0
                  simp at hv
                  obtain ⟨rfl, rfl⟩ := hv
                  exact same (zero h0 (Nat.le_refl _) he) rfl (by simp [relV, relD])
                · rename_i h0
                  split at hv
                  · rename_i hroom
                    simp at hv
                    exact fresh he h0 hroom hv.1.symm hv.2.symm
                  · simp at hv
              | asl n off len =>
                rw [hxv] at hv rx
                simp only at hv
                split at hv
                · rename_i e1 ex rows hn
                  split at hv
                  · rename_i hcond
                    obtain ⟨rfl, hle⟩ := hcond
                    have rx' := rx
                    simp only [relV] at rx
                    obtain ⟨cap, he, hlc, hm, CS, T, hb, hfit, hcs⟩ := rx.2.2 i.size (by rw [hn]; rfl)
                    rw [hn] at hm
                    simp only [O.len] at hm
                    have hl : (hget s.heap n).live = true := by rw [hn]; rfl
                    have hobj := hs.heap.obj n
                    rw [hn] at hobj
                    obtain ⟨⟨CS', T', hb', hfit'⟩, hrr, hI⟩ := hobj
                    rw [hb] at hb'
                    simp at hb'
                    obtain ⟨rfl, rfl⟩ := hb'
                    split at hv
                    · rename_i h0
                      simp at hv
                      obtain ⟨rfl, rfl⟩ := hv
                      exact same (zero h0 hlc he) rfl (by rw [he] at rx'; exact rx')
                    · rename_i h0
                      split at hv
                      · rename_i hin
                        split at hv
                        · rename_i hex
                          subst hex
                          simp at hv
                          obtain ⟨rfl, rfl⟩ := hv
                          simp only [if_true] at hI
                          exact app_over false hs hd hn hb hfit hcs hfit' (by simpa using hm) he hrr hI hrd hone hrl hnl' (by omega) (fun hle2 hfit2 => fin he hey (run_append_fit hu hu' hi hnl' hcells hle2 hb hfit2 hone)) hK
                        · simp at hv
                      · rename_i hin
                        split at hv
                        · rename_i hcond2
                          simp at hv
                          obtain ⟨rfl, rfl⟩ := hv
                          by_cases hcap : len + ys.length ≤ cap
                          · exact app_here hs hd hn hb hfit hcs hfit' hm hle he hrr hI hrd hone hrl hnl' hcap hcond2.1 (fun hfit2 => fin he hey (run_append_fit hu hu' hi hnl' hcells hcap hb hfit2 hone)) hK
                          · obtain ⟨k1, k2, k3⟩ := hs.kill hl s.ok
                            have hlen : ((rows.drop off).take len).length = len := by simp; omega
                            obtain ⟨olds, o1, o2, o3, o4⟩ := relRows_flat (relRows_take hrr hle)
                            rw [hlen] at o3
                            have hrun := run_append_new (P := P) (w := w) (ty := o.type) hu hu' hi hz (sLen := len) (sCap := cap) (sc := cap) (base := some ⟨g.β n, g.o n + off * i.size, none⟩) (olds := olds) (by rw [o3, Nat.mul_comm]) (fun _ => ⟨_, _, rfl, o4⟩) hnl' hcells (xc := xc) (by omega) hcond2.2 hby rfl
                            have hgc := grownCap_ge w (len + ys.length) cap e
                            have hll : ((rows.drop off).take len ++ ys).length = len + ys.length := by simp; omega
                            have hz2 : (Builtin.zeroCells z.cells (grownCap w (len + ys.length) cap e - (len + ys.length))).toList.length = (grownCap w (len + ys.length) cap e - (len + ys.length)) * i.size := by simp [size_zeroCells, hzz]
                            have hrl2 : ∀ r ∈ (rows.drop off).take len ++ ys, r.length = i.size := by
                              intro r hr
                              rcases List.mem_append.1 hr with h1 | h1
                              · obtain ⟨j, hj, hje⟩ := List.getElem_of_mem (List.mem_of_mem_drop (List.mem_of_mem_take h1))
                                exact (relRows_get hrr (r := j) (row := r) (by simp [hj, hje])).1
                              · exact hrl r h1
                            have hcl : (s.heap.set n .dead).length = s.heap.length := by simp
                            refine sim_newrows (s := ⟨s.env, s.heap.set n .dead, s.ok⟩) k1 hd (es := i.size) (ex := ex) (ys := (rows.drop off).take len ++ ys) (C := olds ++ news) (ok := s.ok)
                              (rest := (Builtin.zeroCells z.cells (grownCap w (len + ys.length) cap e - (len + ys.length))).toList) (by rw [hll]; exact fin he hey hrun) hrl2 (by rw [List.flatten_append]; exact relDs_append o1 hrd)
                              (fun v hv => (List.mem_append.1 hv).elim (o2 v) (hone v)) (by rw [hll]; exact hgc) ?_ (one_zeroCells hz1 _) fun g' v' w' h1 h2 => ?_
                            · rw [List.length_append, o3, hnl', hz2, Nat.mul_comm i.size, ← Nat.add_mul, ← Nat.add_mul]
                              exact Nat.mul_le_mul_right _ (by omega)
                            · simp only [hcl, hll] at h1 h2
                              exact hK g' v' w' h1 (k2.trans h2)
                        · simp at hv
                  · simp at hv
                · simp at hv
              | aslx n off len =>
                rw [hxv] at hv rx
                simp only at hv
                split at hv
                · rename_i e1 ex rows hn
                  split at hv
                  · rename_i hcond
                    obtain ⟨rfl, hle⟩ := hcond
                    have rx' := rx
                    simp only [relV] at rx
                    obtain ⟨cap, he, hlc, hm, CS, T, hb, hfit, hcs⟩ := rx.2.2 i.size (by rw [hn]; rfl)
                    rw [hn] at hm
                    simp only [O.len] at hm
                    have hl : (hget s.heap n).live = true := by rw [hn]; rfl
                    have hobj := hs.heap.obj n
                    rw [hn] at hobj
                    obtain ⟨⟨CS', T', hb', hfit'⟩, hrr, hI⟩ := hobj
                    rw [hb] at hb'
                    simp at hb'
                    obtain ⟨rfl, rfl⟩ := hb'
                    split at hv
                    · rename_i h0
                      simp at hv
                      obtain ⟨rfl, rfl⟩ := hv
                      exact same (zero h0 hlc he) rfl (by rw [he] at rx'; exact rx')
                    · rename_i h0
                      split at hv
                      · rename_i hin
                        split at hv
                        · rename_i hex
                          subst hex
                          simp at hv
                          obtain ⟨rfl, rfl⟩ := hv
                          simp only [if_true] at hI
                          exact app_over true hs hd hn hb hfit hcs hfit' (by simpa using hm) he hrr hI hrd hone hrl hnl' (by omega) (fun hle2 hfit2 => fin he hey (run_append_fit hu hu' hi hnl' hcells hle2 hb hfit2 hone)) hK
                        · simp at hv
                      · rename_i hin
                        split at hv
                        · rename_i hroom
                          simp at hv
                          obtain ⟨rfl, rfl⟩ := hv
                          have hlen : ((rows.drop off).take len).length = len := by simp; omega
                          obtain ⟨olds, o1, o2, o3, o4⟩ := relRows_flat (relRows_take hrr hle)
                          rw [hlen] at o3
                          have hrun := run_append_new (P := P) (w := w) (ty := o.type) hu hu' hi hz (sLen := len) (sCap := cap) (sc := cap) (base := some ⟨g.β n, g.o n + off * i.size, none⟩) (olds := olds) (by rw [o3, Nat.mul_comm]) (fun _ => ⟨_, _, rfl, o4⟩) hnl' hcells (xc := xc) (by omega) hroom hby rfl
                          have hgc := grownCap_ge w (len + ys.length) cap e
                          have hll : ((rows.drop off).take len ++ ys).length = len + ys.length := by simp; omega
                          have hz2 : (Builtin.zeroCells z.cells (grownCap w (len + ys.length) cap e - (len + ys.length))).toList.length = (grownCap w (len + ys.length) cap e - (len + ys.length)) * i.size := by simp [size_zeroCells, hzz]
                          have hrl2 : ∀ r ∈ (rows.drop off).take len ++ ys, r.length = i.size := by
                            intro r hr
                            rcases List.mem_append.1 hr with h1 | h1
                            · obtain ⟨j, hj, hje⟩ := List.getElem_of_mem (List.mem_of_mem_drop (List.mem_of_mem_take h1))
                              exact (relRows_get hrr (r := j) (row := r) (by simp [hj, hje])).1
                            · exact hrl r h1
                          refine sim_newrows hs hd (es := i.size) (ex := true) (ys := (rows.drop off).take len ++ ys) (C := olds ++ news) (ok := s.ok)
                            (rest := (Builtin.zeroCells z.cells (grownCap w (len + ys.length) cap e - (len + ys.length))).toList) (by rw [hll]; exact fin he hey hrun) hrl2 (by rw [List.flatten_append]; exact relDs_append o1 hrd)
                            (fun v hv => (List.mem_append.1 hv).elim (o2 v) (hone v)) (by rw [hll]; exact hgc) ?_ (one_zeroCells hz1 _) fun g' v' w' h1 h2 => ?_
                          · rw [List.length_append, o3, hnl', hz2, Nat.mul_comm i.size, ← Nat.add_mul, ← Nat.add_mul]
                            exact Nat.mul_le_mul_right _ (by omega)
                          · simp only [hll] at h1 h2
                            exact hK g' v' w' h1 h2
                        · simp at hv
                  · simp at hv
                · simp at hv
              | _ => rw [hxv] at hv; simp at hv
          · simp at hzz
        · simp at ht
      · simp at ht
    · simp at h
  · simp at h
end
end Go.VS
namespace Go.VS
section
variable {φ : Phi}
theorem cut_spec {h : List O} {m : Nat} {roots L : List Nat} (hc : cut h m roots = some L) : L.Nodup ∧ (∀ n ∈ roots, n ∈ L) ∧ (∀ n ∈ L, n < h.length ∧ ∀ k ∈ (hget h n).locs, k ∈ L) ∧ m ≤ L.length ∧ ∀ k, k < m → L[k]? = some k := by
  unfold cut at hc
  simp only at hc
  split at hc
  · rename_i hcond
    obtain ⟨h1, h2, h3⟩ := hcond
    simp only [Option.some.injEq] at hc
    rw [hc] at h1 h2 h3
    simp only [List.all_eq_true, decide_eq_true_eq, Bool.decide_and, Bool.and_eq_true] at h2 h3
    refine ⟨h1, h2, h3, ?_, fun k hk => ?_⟩
    · rw [← hc]; simp
    · rw [← hc, List.getElem?_append_left (by simpa using hk)]
      simp [hk]
  · simp at hc
def gcut (g : Gh) (L : List Nat) : Gh := ⟨fun k => g.β (L.getD k 0), fun k => g.o (L.getD k 0), g.I⟩
theorem sub_length {h : List O} {L : List Nat} : (sub h L).length = L.length := by simp [sub]
theorem sub_get {h : List O} {L : List Nat} {k n : Nat} (hk : L[k]? = some n) : hget (sub h L) k = (hget h n).ren (L.idxOf ·) := by
  simp [sub, hget, List.getD, hk]
theorem sub_out {h : List O} {L : List Nat} {k : Nat} (hk : L.length ≤ k) : hget (sub h L) k = .dead := by
  have : (sub h L).length ≤ k := by rw [sub_length]; exact hk
  simp [hget, List.getD, List.getElem?_eq_none this]
theorem ren_es {o : O} {f : Nat → Nat} : (o.ren f).es? = o.es? := by cases o <;> rfl
theorem ren_len {o : O} {f : Nat → Nat} : (o.ren f).len = o.len := by cases o <;> simp [O.ren, O.len]
theorem ren_live {o : O} {f : Nat → Nat} : (o.ren f).live = o.live := by cases o <;> rfl
theorem ren_lp {o : O} {f : Nat → Nat} : (o.ren f).isLp = o.isLp := by cases o <;> rfl
theorem env_locs {t : Nat} : ∀ {env : List (Nat × V)} {p : Nat × V}, p ∈ env → t ∈ p.2.locs → t ∈ envLocs env
  | [], _, h, _ => by simp at h
  | q :: r, p, h, ht => by
    simp only [envLocs, List.mem_append]
    rcases List.mem_cons.1 h with h1 | h1
    · subst h1; exact .inl ht
    · exact .inr (env_locs h1 ht)
theorem idx_get {L : List Nat} {n : Nat} (hn : n ∈ L) : L[L.idxOf n]? = some n := by
  have hlt := List.idxOf_lt_length_of_mem hn
  simp [List.getElem?_eq_getElem hlt]
mutual
theorem relV_ren {h : List O} {g : Gh} {w : World} {L : List Nat} : ∀ {x : V} {v : Value}, (∀ n ∈ x.locs, n ∈ L) → relV φ h g w x v → relV φ (sub h L) (gcut g L) w (x.ren (L.idxOf ·)) v
  | .u, v, _, _ => by simp [V.ren, relV]
  | .skp, v, _, hr => by simpa [V.ren, relV] using hr
  | .d x, v, _, hr => by simp only [V.ren, relV] at hr ⊢; exact hr
  | .loc n r c, v, hl, hr => by
    have hn := hl n (by simp [V.locs])
    have hg := idx_get hn
    simp only [V.ren, relV] at hr ⊢
    refine ⟨by rw [sub_length]; exact List.idxOf_lt_length_of_mem hn, hr.2.1, fun es he => ?_⟩
    rw [sub_get hg, ren_es] at he
    have := hr.2.2 es he
    simpa [gcut, List.getD, hg] using this
  | .asl n off len, v, hl, hr => by
    have hn := hl n (by simp [V.locs])
    have hg := idx_get hn
    simp only [V.ren, relV] at hr ⊢
    refine ⟨by rw [sub_length]; exact List.idxOf_lt_length_of_mem hn, hr.2.1, fun es he => ?_⟩
    rw [sub_get hg, ren_es] at he
    rw [sub_get hg, ren_len]
    have := hr.2.2 es he
    simpa [gcut, List.getD, hg] using this
  | .aslx n off len, v, hl, hr => by
    have hn := hl n (by simp [V.locs])
    have hg := idx_get hn
    simp only [V.ren, relV] at hr ⊢
    refine ⟨by rw [sub_length]; exact List.idxOf_lt_length_of_mem hn, hr.2.1, fun es he => ?_⟩
    rw [sub_get hg, ren_es] at he
    rw [sub_get hg, ren_len]
    have := hr.2.2 es he
    simpa [gcut, List.getD, hg] using this
  | .sl0 _, v, _, hr => by simpa only [V.ren, relV] using hr
  | .mp n, v, hl, hr => by
    have hn := hl n (by simp [V.locs])
    have hg := idx_get hn
    simp only [V.ren, relV] at hr ⊢
    refine ⟨by rw [sub_length]; exact List.idxOf_lt_length_of_mem hn, hr.2.1, fun kv he => ?_⟩
    rw [sub_get hg] at he
    have h2 : (gcut g L).β (L.idxOf n) = g.β n := by simp [gcut, List.getD, hg]
    rw [h2]
    cases ho : hget h n with
    | mp kv0 => exact hr.2.2 kv0 ho
    | _ => rw [ho] at he; simp [O.ren] at he
  | .rf cs, v, hl, hr => by
    simp only [V.ren, relV] at hr ⊢
    obtain ⟨b, off, us, h1, h2, h3, h4⟩ := hr
    refine ⟨b, off, us, h1, ?_, relVs_ren (fun n hn => hl n (by simpa [V.locs] using hn)) h3, h4⟩
    have hlen : ∀ {f : Nat → Nat} {xs : List V}, (V.renL f xs).length = xs.length := by
      intro f xs
      induction xs with
      | nil => rfl
      | cons x xs ih => simp [V.renL, ih]
    rw [hlen]; exact h2
  | .yld n, v, hl, hr => by
    have hn := hl n (by simp [V.locs])
    have hg := idx_get hn
    simp only [V.ren, relV] at hr ⊢
    refine ⟨by rw [sub_length]; exact List.idxOf_lt_length_of_mem hn, hr.2.1, fun he => ?_⟩
    rw [sub_get hg, ren_lp] at he
    have h2 : (gcut g L).β (L.idxOf n) = g.β n := by simp [gcut, List.getD, hg]
    rw [h2]
    exact hr.2.2 he
  | .fn f a b, v, hl, hr => by
    simp only [V.ren, relV] at hr ⊢
    obtain ⟨A, B, h1, h2, h3⟩ := hr
    exact ⟨A, B, h1, relVs_ren (fun n hn => hl n (by simp [V.locs, hn])) h2, relVs_ren (fun n hn => hl n (by simp [V.locs, hn])) h3⟩
  | .ag cs, v, hl, hr => by
    simp only [V.ren, relV] at hr ⊢
    obtain ⟨A, h1, h2, h3⟩ := hr
    exact ⟨A, h1, relVs_ren (fun n hn => hl n (by simpa [V.locs] using hn)) h2, h3⟩
  | .tu cs, v, hl, hr => by
    simp only [V.ren, relV] at hr ⊢
    obtain ⟨A, h1, h2⟩ := hr
    exact ⟨A, h1, relVs_ren (fun n hn => hl n (by simpa [V.locs] using hn)) h2⟩
theorem relVs_ren {h : List O} {g : Gh} {w : World} {L : List Nat} : ∀ {xs : List V} {vs : List Value}, (∀ n ∈ V.locsL xs, n ∈ L) → relVs φ h g w xs vs → relVs φ (sub h L) (gcut g L) w (V.renL (L.idxOf ·) xs) vs
  | [], [], _, _ => by simp [V.renL, relVs]
  | x :: xs, v :: vs, hl, hr => by
    simp only [V.renL, relVs] at hr ⊢
    exact ⟨relV_ren (fun n hn => hl n (by simp [V.locsL, hn])) hr.1, relVs_ren (fun n hn => hl n (by simp [V.locsL, hn])) hr.2⟩
  | [], _ :: _, _, hr => by simp [relVs] at hr
  | _ :: _, [], _, hr => by simp [relVs] at hr
end
theorem mem_locsL {xs : List V} {x : V} {n : Nat} (hx : x ∈ xs) (hn : n ∈ x.locs) : n ∈ V.locsL xs := by
  induction xs with
  | nil => simp at hx
  | cons y ys ih =>
    simp only [V.locsL, List.mem_append]
    rcases List.mem_cons.1 hx with h | h
    · subst h; exact .inl hn
    · exact .inr (ih h)
theorem renL_get {f : Nat → Nat} : ∀ {xs : List V} {j : Nat}, (V.renL f xs)[j]? = (xs[j]?).map (V.ren f)
  | [], j => by simp [V.renL]
  | x :: xs, 0 => by simp [V.renL]
  | x :: xs, j + 1 => by simpa [V.renL] using renL_get (xs := xs) (j := j)
theorem renL_length {f : Nat → Nat} : ∀ {xs : List V}, (V.renL f xs).length = xs.length
  | [] => rfl
  | x :: xs => by simp [V.renL, renL_length (xs := xs)]
theorem objRel_ren {h : List O} {g : Gh} {w : World} {L : List Nat} {b o : Nat} {x : O} (hl : ∀ n ∈ x.locs, n ∈ L) (hr : objRel φ h g w b o x) : objRel φ (sub h L) (gcut g L) w b o (x.ren (L.idxOf ·)) := by
  cases x with
  | dead => trivial
  | arrD es ex rows => exact hr
  | arrV es rows =>
    simp only [O.ren, objRel] at hr ⊢
    refine ⟨by simpa using hr.1, fun r row hrow => ?_, hr.2.2⟩
    rw [List.getElem?_map, Option.map_eq_some_iff] at hrow
    obtain ⟨row0, h0, rfl⟩ := hrow
    obtain ⟨h1, h2⟩ := hr.2.1 r row0 h0
    refine ⟨by rw [renL_length]; exact h1, fun j c hj => ?_⟩
    rw [renL_get, Option.map_eq_some_iff] at hj
    obtain ⟨c0, hc0, rfl⟩ := hj
    obtain ⟨v, h3, h4, h5⟩ := h2 j c0 hc0
    refine ⟨v, h3, h4, relV_ren (fun n hn => hl n ?_) h5⟩
    simp only [O.locs, List.mem_flatMap]
    exact ⟨row0, List.mem_of_getElem? h0, mem_locsL (List.mem_of_getElem? hc0) hn⟩
  | mp kv =>
    simp only [O.ren, objRel] at hr ⊢
    obtain ⟨ES, clk, h1, h2, h3⟩ := hr
    refine ⟨ES, clk, h1, ⟨by simpa using h2.1, fun i p e hp he => ?_⟩, h3⟩
    rw [List.getElem?_map, Option.map_eq_some_iff] at hp
    obtain ⟨p0, hp0, rfl⟩ := hp
    obtain ⟨h4, h5⟩ := h2.2 i p0 e hp0 he
    refine ⟨h4, relV_ren (fun n hn => hl n ?_) h5⟩
    simp only [O.locs, List.mem_flatMap]
    exact ⟨p0, List.mem_of_getElem? hp0, hn⟩
  | lp ps a c e env =>
    simp only [O.ren, objRel] at hr ⊢
    obtain ⟨r, nt, h1, h0, h2, h3, h4, h5⟩ := hr
    refine ⟨r, nt, h1, h0, h2, h3, fun p hp => ?_, h5⟩
    simp only [envRen, List.mem_map] at hp
    obtain ⟨q, hq, rfl⟩ := hp
    exact relV_ren (fun n hn => hl n (by simp only [O.locs]; exact env_locs hq hn)) (h4 q hq)
theorem hrel_cut {h : List O} {g : Gh} {w : World} {m : Nat} {roots L : List Nat} (hc : cut h m roots = some L) (hr : HRel φ h g w) : HRel φ (sub h L) (gcut g L) w := by
  obtain ⟨hnd, _, hcl, _, _⟩ := cut_spec hc
  have hout : ∀ k, ¬ k < L.length → hget (sub h L) k = .dead := fun k hk => sub_out (by omega)
  refine ⟨fun k => ?_, fun a b ha hb he => ?_, hr.new⟩
  · by_cases hk : k < L.length
    · have hg : L[k]? = some L[k] := by simp [hk]
      rw [sub_get hg]
      have := objRel_ren (L := L) (hcl L[k] (List.getElem_mem hk)).2 (hr.obj L[k])
      simpa [gcut, List.getD, hg] using this
    · rw [hout k hk]; trivial
  · have ka : a < L.length := by
      by_cases hk : a < L.length
      · exact hk
      · rw [hout a hk] at ha; simp [O.live] at ha
    have kb : b < L.length := by
      by_cases hk : b < L.length
      · exact hk
      · rw [hout b hk] at hb; simp [O.live] at hb
    have ga : L[a]? = some L[a] := by simp [ka]
    have gb : L[b]? = some L[b] := by simp [kb]
    rw [sub_get ga, ren_live] at ha
    rw [sub_get gb, ren_live] at hb
    have : L[a] = L[b] := hr.inj _ _ ha hb (by simpa [gcut, List.getD, ga, gb] using he)
    have i1 := List.Nodup.idxOf_getElem hnd a ka
    have i2 := List.Nodup.idxOf_getElem hnd b kb
    rw [this] at i1
    omega
theorem frame_cut {h : List O} {g : Gh} {w : World} {m : Nat} {roots L : List Nat} (hc : cut h m roots = some L) : Frame m h g w (sub h L) (gcut g L) w := by
  obtain ⟨hnd, _, hcl, hm, hpin⟩ := cut_spec hc
  refine ⟨Ext.refl _ _, Nat.le_refl _, rfl, rfl, rfl, fun n hn => ?_, fun b _ _ => ⟨rfl, rfl⟩, fun n hn => ?_, fun n hn => ⟨fun es he => ?_, fun kv hk => ?_, fun hk => ?_⟩⟩
  · simp [gcut, List.getD, hpin n hn]
  · by_cases hk : n < L.length
    · have hg : L[n]? = some L[n] := by simp [hk]
      rw [sub_get hg, ren_live] at hn
      exact .inl ⟨L[n], hn, by simp [gcut, List.getD, hg]⟩
    · rw [sub_out (by omega)] at hn; simp [O.live] at hn
  · rw [sub_get (hpin n hn), ren_es] at he
    rw [sub_get (hpin n hn), ren_len]
    refine ⟨he, rfl, ?_⟩
    have : (gcut g L).β n = g.β n := by simp [gcut, List.getD, hpin n hn]
    exact Stays.of_eq rfl
  · rw [sub_get (hpin n hn)] at hk
    cases ho : hget h n with
    | mp kv0 => exact ⟨kv0, rfl⟩
    | _ => rw [ho] at hk; simp [O.ren] at hk
  · rw [sub_get (hpin n hn), ren_lp] at hk
    exact hk
theorem canonEnv_get {live : List Nat} {e : List (Nat × V)} {t : Nat} : envGet (canonEnv live e) t = if t ∈ live then envGet e t else .u := by
  unfold canonEnv
  induction live with
  | nil => simp [envGet]
  | cons d ds ih =>
    simp only [List.map_cons, envGet, List.mem_cons, ih]
    by_cases h : d = t
    · simp [h]
    · have h' : ¬ t = d := fun e => h e.symm
      simp [h, h']
theorem envGet_ren {f : Nat → Nat} {t : Nat} : ∀ {e : List (Nat × V)}, envGet (e.map fun p => (p.1, p.2.ren f)) t = (envGet e t).ren f
  | [] => rfl
  | p :: e => by
    simp only [List.map_cons, envGet]
    split
    · rfl
    · exact envGet_ren
theorem envLocs_mem {t n : Nat} : ∀ {e : List (Nat × V)}, n ∈ (envGet e t).locs → n ∈ envLocs e
  | [], h => by simp [envGet, V.locs] at h
  | p :: e, h => by
    simp only [envLocs, List.mem_append]
    simp only [envGet] at h
    split at h
    · exact .inl h
    · exact .inr (envLocs_mem h)
theorem canon_rel {nt m dB : Nat} {s : St} {g : Gh} {a : Act} {w : World} (hs : SRel φ nt m dB s g a w) {live : List Nat} {p : List (Nat × V) × List O} (hc : canon m live s.env s.heap = some p) (ok : Bool) :
    ∃ g', SRel φ nt m dB ⟨p.1, p.2, ok⟩ g' a w ∧ Frame m s.heap g w p.2 g' w := by
  have key : ∀ {h : List O} {g : Gh} {t : Nat}, relV φ h g w (envGet s.env t) (a.tmps.getD t undef) → relV φ h g w (envGet (canonEnv live s.env) t) (a.tmps.getD t undef) := by
    intro h g t hr
    rw [canonEnv_get]
    split
    · exact hr
    · simp [relV]
  unfold canon at hc
  split at hc
  · rename_i hh
    simp only [Option.some.injEq] at hc
    subst hc
    rw [← hh]
    exact ⟨g, ⟨fun t => key (hs.env t), hs.heap, hs.size, hs.defers, hs.len⟩, Frame.refl _ _ _ _⟩
  · simp only [Option.map_eq_some_iff] at hc
    obtain ⟨L, hL, rfl⟩ := hc
    obtain ⟨_, hroots, _, hm, _⟩ := cut_spec hL
    refine ⟨gcut g L, ⟨fun t => ?_, hrel_cut hL hs.heap, hs.size, hs.defers.frame (frame_cut hL), by rw [sub_length]; exact hm⟩, frame_cut hL⟩
    rw [envGet_ren]
    exact relV_ren (fun n hn => hroots n (envLocs_mem hn)) (key (hs.env t))
end
end Go.VS
namespace Go.VS
section
variable {φ : Phi}
theorem freeze1_arr {h : List O} {n es : Nat} {ex : Bool} {rows : List (List D)} (hn : hget h n = .arrD es ex rows) : freeze1 h n = h.set n (.arrD es false rows) := by
  simp [freeze1, hn]
theorem freeze1_other {h : List O} {n : Nat} (hn : ∀ es ex rows, hget h n ≠ .arrD es ex rows) : freeze1 h n = h := by
  unfold freeze1
  split
  · rename_i es ex rows hh
    exact absurd hh (hn es ex rows)
  · rfl
theorem freeze1_get {h : List O} {n k : Nat} : (∃ es ex rows, k = n ∧ hget h k = .arrD es ex rows ∧ hget (freeze1 h n) k = .arrD es false rows) ∨ hget (freeze1 h n) k = hget h k ∧ (k = n → ∀ es ex rows, hget h k ≠ .arrD es ex rows) := by
  by_cases hx : ∃ es ex rows, hget h n = .arrD es ex rows
  · obtain ⟨es, ex, rows, hn⟩ := hx
    rw [freeze1_arr hn]
    by_cases hk : k = n
    · subst hk
      exact .inl ⟨es, ex, rows, rfl, hn, hget_set_same (hget_lt (by rw [hn]; rfl))⟩
    · exact .inr ⟨hget_set_other hk, fun h => absurd h hk⟩
  · have hne : ∀ es ex rows, hget h n ≠ .arrD es ex rows := fun es ex rows hh => hx ⟨es, ex, rows, hh⟩
    rw [freeze1_other hne]
    exact .inr ⟨rfl, fun h => by subst h; exact hne⟩
theorem freeze1_rel {h : List O} {g : Gh} {w : World} (m n : Nat) (hr : HRel φ h g w) : ∃ I', HRel φ (freeze1 h n) (g.setI I') w ∧ HLe h g w (freeze1 h n) (g.setI I') w ∧ Frame m h g w (freeze1 h n) (g.setI I') w := by
  by_cases hx : ∃ es ex rows, hget h n = .arrD es ex rows
  · obtain ⟨es, ex, rows, hn⟩ := hx
    rw [freeze1_arr hn]
    have hl : (hget h n).live = true := by rw [hn]; rfl
    have hobj := hr.obj n
    rw [hn] at hobj
    obtain ⟨⟨CS, T, hb, hfit⟩, hrr, hI⟩ := hobj
    have hIle : g.I (g.β n) ≤ g.o n + es * rows.length := by
      cases ex <;> simp at hI <;> omega
    have hE : Ext g.I w (updI g.I (g.β n) (g.o n + es * rows.length)) w := ⟨fun b => by simp only [updI]; split <;> simp_all, fun _ _ _ => rfl⟩
    have hI' : ∀ b, b ≠ g.β n → updI g.I (g.β n) (g.o n + es * rows.length) b = g.I b := fun b hb => by simp [updI, hb]
    have hle : HLe h g w (h.set n (.arrD es false rows)) (g.setI (updI g.I (g.β n) (g.o n + es * rows.length))) w := hle_turn hr hl (Turned.refl _ _) hE
      (fun es' he' => ⟨by rw [hn]; simpa [O.es?] using he', by rw [hn]; rfl, Stays.of_eq rfl⟩) (fun kv hk => by simp at hk)
    refine ⟨_, hrel_turn hr hl (Turned.refl _ _) hle hI' ⟨⟨CS, T, hb, hfit⟩, relRows_move hE (fun _ => rfl) hrr, by simp [Gh.setI, updI]⟩, hle, frame_turn _ hl (Turned.refl _ _) hE hI' hle⟩
  · have hne : ∀ es ex rows, hget h n ≠ .arrD es ex rows := fun es ex rows hh => hx ⟨es, ex, rows, hh⟩
    rw [freeze1_other hne]
    exact ⟨g.I, hr, HLe.refl h g w, Frame.refl m h g w⟩
theorem HLe.trans {h h' h'' : List O} {g g' g'' : Gh} {w w' w'' : World} (a : HLe h g w h' g' w') (b : HLe h' g' w' h'' g'' w'') : HLe h g w h'' g'' w'' where
  ext := a.ext.trans b.ext
  len := Nat.le_trans a.len b.len
  arr n es hn he := by
    obtain ⟨h1, h2, h3, h4, h5⟩ := b.arr n es (Nat.lt_of_lt_of_le hn a.len) he
    obtain ⟨k1, k2, k3, k4, k5⟩ := a.arr n es hn h1
    rw [k2] at h5
    exact ⟨k1, h2.trans k2, h3.trans k3, h4.trans k4, k5.trans h5⟩
  mp n kv hn hk := by
    obtain ⟨⟨kv', h1⟩, h2⟩ := b.mp n kv (Nat.lt_of_lt_of_le hn a.len) hk
    obtain ⟨k1, k2⟩ := a.mp n kv' hn h1
    exact ⟨k1, h2.trans k2⟩
  lp n hn hk := by
    obtain ⟨h1, h2⟩ := b.lp n (Nat.lt_of_lt_of_le hn a.len) hk
    obtain ⟨k1, k2⟩ := a.lp n hn h1
    exact ⟨k1, h2.trans k2⟩
theorem freezeAll_rel {w : World} (m : Nat) : ∀ (ns : List Nat) {h : List O} {g : Gh}, HRel φ h g w → ∃ I', HRel φ (freezeAll h ns) (g.setI I') w ∧ HLe h g w (freezeAll h ns) (g.setI I') w ∧ Frame m h g w (freezeAll h ns) (g.setI I') w
  | [], h, g, hr => ⟨g.I, hr, HLe.refl h g w, Frame.refl m h g w⟩
  | n :: ns, h, g, hr => by
    obtain ⟨I1, h1, h2, h3⟩ := freeze1_rel m n hr
    obtain ⟨I2, k1, k2, k3⟩ := freezeAll_rel m ns h1
    exact ⟨I2, k1, h2.trans k2, h3.trans k3⟩
theorem freezeAll_get : ∀ (ns : List Nat) {h : List O} {k : Nat}, hget (freezeAll h ns) k = hget h k ∧ (k ∈ ns → ∀ es rows, hget h k ≠ .arrD es true rows) ∨ ∃ es ex rows, hget h k = .arrD es ex rows ∧ hget (freezeAll h ns) k = .arrD es false rows
  | [], h, k => .inl ⟨rfl, by simp⟩
  | n :: ns, h, k => by
    simp only [freezeAll]
    rcases freezeAll_get ns (h := freeze1 h n) (k := k) with ⟨h1, h2⟩ | ⟨es, ex, rows, h1, h2⟩
    · rcases freeze1_get (h := h) (n := n) (k := k) with ⟨es, ex, rows, e1, e2, e3⟩ | ⟨e1, e2⟩
      · exact .inr ⟨es, ex, rows, e2, h1.trans e3⟩
      · refine .inl ⟨h1.trans e1, fun hk es rows => ?_⟩
        rcases List.mem_cons.1 hk with hk | hk
        · exact e2 hk es true rows
        · rw [← e1]; exact h2 hk es rows
    · rcases freeze1_get (h := h) (n := n) (k := k) with ⟨es', ex', rows', e1, e2, e3⟩ | ⟨e1, e2⟩
      · rw [e3] at h1
        simp only [O.arrD.injEq] at h1
        obtain ⟨rfl, _, rfl⟩ := h1
        exact .inr ⟨es', ex', rows', e2, h2⟩
      · exact .inr ⟨es, ex, rows, by rw [← e1]; exact h1, h2⟩
def Frozen (h : List O) (ns : List Nat) : Prop := ∀ n ∈ ns, ∀ es ex rows, hget h n = .arrD es ex rows → ex = false
mutual
theorem toD_rel {h : List O} {g : Gh} {w : World} (hr : HRel φ h g w) : ∀ {x : V} {v : Value} {d : D}, Frozen h x.locs → toD h x = some d → relV φ h g w x v → relD φ g.I w d v
  | .u, v, d, _, ht, _ => by simp [toD] at ht
  | .skp, v, d, _, ht, _ => by simp [toD] at ht
  | .d x, v, d, _, ht, hv => by simp [toD] at ht; subst ht; simpa only [relV] using hv
  | .loc n r c, v, d, hf, ht, hv => by
    simp only [toD] at ht
    split at ht
    · rename_i es ex rows hn
      have hex := hf n (by simp [V.locs]) es ex rows hn
      subst hex
      simp only [Option.bind_eq_some_iff] at ht
      obtain ⟨row, hrow, ht⟩ := ht
      split at ht
      · rename_i hc
        simp at ht
        subst ht
        have hobj := hr.obj n
        rw [hn] at hobj
        obtain ⟨_, hrr, hI⟩ := hobj
        simp at hI
        simp only [relV] at hv
        have hv' := hv.2.2 es (by rw [hn]; rfl)
        obtain ⟨h1, h2⟩ := relRows_get hrr hrow
        have hrlt : r < rows.length := by
          rcases Nat.lt_or_ge r rows.length with h3 | h3
          · exact h3
          · simp [List.getElem?_eq_none h3] at hrow
        have hin : (r + 1) * es ≤ es * rows.length := by rw [Nat.mul_comm es]; exact Nat.mul_le_mul_right es hrlt
        rw [Nat.succ_mul] at hin
        simp only [relD]
        refine ⟨_, _, hv', by simp; omega, relCells_of fun j x hj => ?_⟩
        rw [List.getElem?_drop] at hj
        have := relCells_get h2 hj
        rwa [← Nat.add_assoc] at this
      · simp at ht
    · simp at ht
  | .asl n off len, v, d, hf, ht, hv => by
    simp only [toD] at ht
    split at ht
    · rename_i es ex rows hn
      have hex := hf n (by simp [V.locs]) es ex rows hn
      subst hex
      split at ht
      · rename_i hc
        simp at ht
        subst ht
        have hobj := hr.obj n
        rw [hn] at hobj
        obtain ⟨_, hrr, hI⟩ := hobj
        simp at hI
        simp only [relV] at hv
        obtain ⟨cap, hv', hlc, _⟩ := hv.2.2 es (by rw [hn]; rfl)
        simp only [relD]
        have hlen : ((rows.drop off).take len).length = len := by simp; omega
        refine ⟨_, cap, by rw [hlen]; exact hv', by rw [hlen]; exact hlc, fun h => by simp at h, fun _ => ⟨_, rfl, fun _ => ⟨rfl, ?_, relRows_take hrr hc⟩⟩⟩
        rw [hlen, hI]
        have h1 : (off + len) * es ≤ es * rows.length := by rw [Nat.mul_comm es]; exact Nat.mul_le_mul_right es hc
        rw [Nat.add_mul] at h1
        have : es * len = len * es := Nat.mul_comm _ _
        simp only; omega
      · simp at ht
    · simp at ht
  | .sl0 es, v, d, _, ht, hv => by
    simp [toD] at ht
    subst ht
    simp only [relV] at hv
    obtain ⟨ad, rfl⟩ := hv
    simp only [relD]
    exact ⟨some ad, 0, rfl, by simp, by simp, fun _ => ⟨ad, rfl, by simp⟩⟩
  | .mp n, v, d, _, ht, _ => by simp [toD] at ht
  | .yld n, v, d, _, ht, _ => by simp [toD] at ht
  | .rf cs, v, d, hf, ht, hv => by
    simp only [toD, Option.map_eq_some_iff] at ht
    obtain ⟨x, hx, rfl⟩ := ht
    simp only [relV] at hv
    obtain ⟨b, off, us, h1, h2, h3, h4⟩ := hv
    have hd := toDs_rel hr (fun n hn => hf n (by simpa [V.locs] using hn)) hx h3
    have e1 := relVs_length h3
    have e2 := relDs_length hd
    simp only [relD]
    exact ⟨b, off, h1, by omega, relCells_of_vals hd (fun j u hj => (h4 j u hj).1) (fun u hu => let ⟨j, hj, he⟩ := List.getElem_of_mem hu; (h4 j u (by simp [hj, he])).2)⟩
  | .fn f a b, v, d, hf, ht, hv => by
    simp only [toD, Option.bind_eq_some_iff, Option.map_eq_some_iff] at ht
    obtain ⟨x, hx, y, hy, rfl⟩ := ht
    simp only [relV] at hv
    obtain ⟨A, B, h1, h2, h3⟩ := hv
    simp only [relD]
    exact ⟨A, B, h1, toDs_rel hr (fun n hn => hf n (by simp [V.locs, hn])) hx h2, toDs_rel hr (fun n hn => hf n (by simp [V.locs, hn])) hy h3⟩
  | .ag cs, v, d, hf, ht, hv => by
    simp only [toD, Option.map_eq_some_iff] at ht
    obtain ⟨x, hx, rfl⟩ := ht
    simp only [relV] at hv
    obtain ⟨A, h1, h2, h3⟩ := hv
    simp only [relD]
    exact ⟨A, h1, toDs_rel hr (fun n hn => hf n (by simpa [V.locs] using hn)) hx h2, h3⟩
  | .tu cs, v, d, _, ht, _ => by simp [toD] at ht
theorem toDs_rel {h : List O} {g : Gh} {w : World} (hr : HRel φ h g w) : ∀ {xs : List V} {vs : List Value} {ds : List D}, Frozen h (V.locsL xs) → toDs h xs = some ds → relVs φ h g w xs vs → relDs φ g.I w ds vs
  | [], [], ds, _, ht, _ => by simp [toDs] at ht; subst ht; simp [relDs]
  | x :: xs, v :: vs, ds, hf, ht, hv => by
    simp only [toDs, Option.bind_eq_some_iff, Option.map_eq_some_iff] at ht
    obtain ⟨y, hy, ys, hys, rfl⟩ := ht
    simp only [relVs] at hv
    simp only [relDs]
    exact ⟨toD_rel hr (fun n hn => hf n (by simp [V.locsL, hn])) hy hv.1, toDs_rel hr (fun n hn => hf n (by simp [V.locsL, hn])) hys hv.2⟩
  | [], _ :: _, _, _, _, hv => by simp [relVs] at hv
  | _ :: _, [], _, _, _, hv => by simp [relVs] at hv
end
def SameRows (h h' : List O) : Prop := ∀ k, hget h' k = hget h k ∨ ∃ es ex ex' rows, hget h k = .arrD es ex rows ∧ hget h' k = .arrD es ex' rows
mutual
theorem toD_same {h h' : List O} (hs : SameRows h h') : ∀ (x : V), toD h' x = toD h x
  | .u => by simp [toD]
  | .skp => by simp [toD]
  | .d x => by simp [toD]
  | .loc n r c => by
    simp only [toD]
    rcases hs n with h1 | ⟨es, ex, ex', rows, h1, h2⟩
    · rw [h1]
    · rw [h1, h2]
  | .asl n off len => by
    simp only [toD]
    rcases hs n with h1 | ⟨es, ex, ex', rows, h1, h2⟩
    · rw [h1]
    · rw [h1, h2]
  | .aslx n off len => by simp [toD]
  | .sl0 _ => by simp [toD]
  | .mp n => by simp [toD]
  | .yld n => by simp [toD]
  | .rf cs => by simp only [toD, toDs_same hs cs]
  | .fn f a b => by simp only [toD, toDs_same hs a, toDs_same hs b]
  | .ag cs => by simp only [toD, toDs_same hs cs]
  | .tu cs => by simp [toD]
theorem toDs_same {h h' : List O} (hs : SameRows h h') : ∀ (xs : List V), toDs h' xs = toDs h xs
  | [] => by simp [toDs]
  | x :: xs => by simp only [toDs, toD_same hs x, toDs_same hs xs]
end
theorem freezeAll_same (ns : List Nat) (h : List O) : SameRows h (freezeAll h ns) := fun k => by
  rcases freezeAll_get ns (h := h) (k := k) with ⟨h1, _⟩ | ⟨es, ex, rows, h1, h2⟩
  · exact .inl h1
  · exact .inr ⟨es, ex, false, rows, h1, h2⟩
theorem freezeAll_frozen (ns : List Nat) (h : List O) : Frozen (freezeAll h ns) ns := fun n hn es ex rows he => by
  rcases freezeAll_get ns (h := h) (k := n) with ⟨h1, h2⟩ | ⟨es', ex', rows', h1, h2⟩
  · cases ex with
    | false => rfl
    | true => rw [h1] at he; exact absurd he (h2 hn es rows)
  · rw [h2] at he
    simp at he
    exact he.2.1
theorem SRel.frozen {nt m dB : Nat} {s : St} {g : Gh} {a : Act} {w : World} (hs : SRel φ nt m dB s g a w) (ns : List Nat) (ok : Bool) : ∃ I', SRel φ nt m dB ⟨s.env, freezeAll s.heap ns, ok⟩ (g.setI I') a w ∧ HLe s.heap g w (freezeAll s.heap ns) (g.setI I') w ∧ Frame m s.heap g w (freezeAll s.heap ns) (g.setI I') w := by
  obtain ⟨I', h1, h2, h3⟩ := freezeAll_rel m ns hs.heap
  exact ⟨I', ⟨fun k => relV_le h2 (hs.env k), h1, hs.size, hs.defers.frame h3, Nat.le_trans hs.len h2.len⟩, h2, h3⟩
theorem thaw_rel {nt m dB : Nat} {s : St} {g : Gh} {a : Act} {w : World} (hs : SRel φ nt m dB s g a w) {xs : List V} {vs : List Value} {ds : List D} (ht : toDs s.heap xs = some ds) (hv : relVs φ s.heap g w xs vs) (ok : Bool) :
    ∃ I', SRel φ nt m dB ⟨s.env, freezeAll s.heap (V.locsL xs), ok⟩ (g.setI I') a w ∧ Frame m s.heap g w (freezeAll s.heap (V.locsL xs)) (g.setI I') w ∧ relDs φ I' w ds vs := by
  obtain ⟨I', h1, h2, h3⟩ := hs.frozen (V.locsL xs) ok
  exact ⟨I', h1, h3, toDs_rel h1.heap (freezeAll_frozen _ _) (by rw [toDs_same (freezeAll_same _ _)]; exact ht) (relVs_le h2 hv)⟩
theorem sim_thaw {nt m dB : Nat} {a : Act} {w : World} : ∀ (ds : List Nat) {s : St} {g : Gh}, SRel φ nt m dB s g a w → (thawSlots s ds).ok = true → ∃ g', SRel φ nt m dB (thawSlots s ds) g' a w ∧ Frame m s.heap g w (thawSlots s ds).heap g' w
  | [], s, g, hs, _ => ⟨g, hs, Frame.refl _ _ _ _⟩
  | d :: ds, s, g, hs, hok => by
    simp only [thawSlots] at hok ⊢
    have hok1 := thawSlots_ok ds hok
    obtain ⟨v, hh, hv⟩ := putH_spec hok1
    rw [hv] at hok ⊢
    simp only [Option.map_eq_some_iff, thaw, Prod.mk.injEq] at hv
    obtain ⟨p, ⟨x, hx, rfl⟩, rfl, rfl⟩ := hv
    simp only [St.putH] at hok ⊢
    have hr := hs.env d
    have hL : V.locsL [s.get (.t d)] = (s.get (.t d)).locs := by simp [V.locsL]
    obtain ⟨I', h1, h2, h3⟩ := thaw_rel hs (xs := [s.get (.t d)]) (vs := [a.tmps.getD d undef]) (ds := [x]) (by simp [toDs, hx]) (by simp only [relVs]; exact ⟨hr, trivial⟩) s.ok
    rw [hL] at h1 h2
    simp only [relDs] at h3
    have hs' : SRel φ nt m dB ⟨(d, .d x) :: s.env, freezeAll s.heap (s.get (.t d)).locs, s.ok⟩ (g.setI I') a w := by
      refine ⟨fun k => ?_, h1.heap, h1.size, h1.defers, h1.len⟩
      simp only [envGet]
      by_cases hk : d = k
      · subst hk; rw [if_pos rfl]; simp only [relV]; exact h3.1
      · rw [if_neg hk]; exact h1.env k
    obtain ⟨g', k1, k2⟩ := sim_thaw ds hs' hok
    exact ⟨g', k1, h2.trans k2⟩
end
end Go.VS
namespace Go.VS
section
variable {P : Program} {φ : Phi}
variable {nt m dB : Nat} {s : St} {g : Gh} {a : Act} {w : World} {K : Act → World → Prop} {Q : Exit → Act → World → Prop} {o : Oper}
theorem setAll_length : ∀ {L : List Nat} {os : List O} {h : List O}, (setAll h L os).length = h.length
  | [], _, _ => by simp [setAll]
  | n :: L, [], _ => by simp [setAll]
  | n :: L, o :: os, h => by simp [setAll, setAll_length (L := L)]
theorem setAll_other : ∀ {L : List Nat} {os : List O} {h : List O} {k : Nat}, k ∉ L → hget (setAll h L os) k = hget h k
  | [], _, _, _, _ => by simp [setAll]
  | n :: L, [], _, _, _ => by simp [setAll]
  | n :: L, o :: os, h, k, hk => by
    simp only [List.mem_cons, not_or] at hk
    rw [setAll, setAll_other hk.2, hget_set_other hk.1]
theorem setAll_at : ∀ {L : List Nat} {os : List O} {h : List O}, L.Nodup → (∀ n ∈ L, n < h.length) → L.length ≤ os.length → ∀ {i n : Nat}, L[i]? = some n → hget (setAll h L os) n = hget os i
  | [], _, _, _, _, _, _, _, hi => by simp at hi
  | n :: L, [], _, _, _, hl, _, _, _ => by simp at hl
  | n :: L, o :: os, h, hnd, hlt, hl, i, k, hi => by
    simp only [List.nodup_cons] at hnd
    simp only [List.length_cons] at hl
    cases i with
    | zero =>
      simp at hi
      subst hi
      rw [setAll, setAll_other hnd.1, hget_set_same (hlt n (by simp))]
      rfl
    | succ i =>
      rw [setAll, setAll_at hnd.2 (fun x hx => by simpa using hlt x (by simp [hx])) (by omega) (i := i) (by simpa using hi)]
      rfl
theorem hget_append_left {h h' : List O} {n : Nat} (hn : n < h.length) : hget (h ++ h') n = hget h n := by simp [hget, List.getD, List.getElem?_append_left hn]
theorem hget_append_right {h h' : List O} {n : Nat} (hn : h.length ≤ n) : hget (h ++ h') n = hget h' (n - h.length) := by simp [hget, List.getD, List.getElem?_append_right hn]
theorem hget_map {h : List O} {f : O → O} (hf : f .dead = .dead) {n : Nat} : hget (h.map f) n = f (hget h n) := by
  simp only [hget, List.getD, List.getElem?_map]
  cases h[n]? with
  | none => exact hf.symm
  | some o => rfl
theorem hget_drop {h : List O} {k n : Nat} : hget (h.drop k) n = hget h (k + n) := by simp [hget, List.getD]
def mergeH (h : List O) (L : List Nat) (h1 : List O) : List O := setAll h L (h1.map (O.ren (back L h.length))) ++ (h1.drop L.length).map (O.ren (back L h.length))
def mergeG (h : List O) (L : List Nat) (g g1 : Gh) : Gh := ⟨fun k => if k < h.length then g.β k else g1.β (k - h.length + L.length), fun k => if k < h.length then g.o k else g1.o (k - h.length + L.length), g1.I⟩
structure Merge (φ : Phi) (h : List O) (L : List Nat) (g : Gh) (w : World) (h1 : List O) (g1 : Gh) (w1 : World) : Prop where
  hr : HRel φ h g w
  nodup : L.Nodup
  lt : ∀ n ∈ L, n < h.length
  len : L.length ≤ h1.length
  hr1 : HRel φ h1 g1 w1
  fr : Frame L.length (sub h L) (gcut g L) w h1 g1 w1
section
variable {h h1 : List O} {L : List Nat} {g1 : Gh} {w1 : World}
theorem mergeH_length : (mergeH h L h1).length = h.length + (h1.length - L.length) := by simp [mergeH, setAll_length]
theorem Merge.old (_ : Merge φ h L g w h1 g1 w1) {k : Nat} (hk : k < h.length) (hL : k ∉ L) : hget (mergeH h L h1) k = hget h k := by
  rw [mergeH, hget_append_left (by rw [setAll_length]; exact hk), setAll_other hL]
theorem Merge.backlt (M : Merge φ h L g w h1 g1 w1) {i : Nat} (hi : i < h1.length) : back L h.length i < (mergeH h L h1).length := by
  rw [mergeH_length, back]
  split
  · rename_i hlt
    have : L.getD i 0 = L[i] := by simp [List.getD, hlt]
    rw [this]
    have := M.lt L[i] (List.getElem_mem hlt)
    omega
  · omega
theorem Merge.at (M : Merge φ h L g w h1 g1 w1) (i : Nat) : hget (mergeH h L h1) (back L h.length i) = (hget h1 i).ren (back L h.length) := by
  have hm : ∀ (hh : List O) (n : Nat), hget (hh.map (O.ren (back L h.length))) n = (hget hh n).ren (back L h.length) := fun hh n => hget_map rfl
  by_cases hi : i < L.length
  · have hg : L[i]? = some L[i] := by simp [hi]
    have hb : back L h.length i = L[i] := by simp [back, hi, List.getD]
    rw [hb, mergeH, hget_append_left (by rw [setAll_length]; exact M.lt _ (List.getElem_mem hi)), setAll_at M.nodup M.lt (by simpa using M.len) hg, hm]
  · have hb : back L h.length i = h.length + (i - L.length) := by simp [back, hi]
    rw [hb, mergeH, hget_append_right (by rw [setAll_length]; omega), setAll_length, Nat.add_sub_cancel_left, hm, hget_drop]
    congr 2
    omega
theorem Merge.gb (M : Merge φ h L g w h1 g1 w1) (i : Nat) : (mergeG h L g g1).β (back L h.length i) = g1.β i ∧ (mergeG h L g g1).o (back L h.length i) = g1.o i := by
  by_cases hi : i < L.length
  · have hg : L[i]? = some L[i] := by simp [hi]
    have hb : back L h.length i = L[i] := by simp [back, hi, List.getD]
    have hlt := M.lt _ (List.getElem_mem hi)
    have hp := M.fr.pin i hi
    simp only [gcut, List.getD, hg, Option.getD_some] at hp
    simp [mergeG, hb, hlt, hp]
  · have hb : back L h.length i = h.length + (i - L.length) := by simp [back, hi]
    have e : i - L.length + L.length = i := by omega
    have e2 : ¬ h.length + (i - L.length) < h.length := by omega
    simp [mergeG, hb, e, e2]
theorem Merge.split (M : Merge φ h L g w h1 g1 w1) (k : Nat) : (k < h.length ∧ k ∉ L) ∨ ∃ i, k = back L h.length i := by
  by_cases hk : k < h.length
  · by_cases hL : k ∈ L
    · refine .inr ⟨L.idxOf k, ?_⟩
      have h1 := List.idxOf_lt_length_of_mem hL
      simp [back, h1, List.getD]
    · exact .inl ⟨hk, hL⟩
  · refine .inr ⟨L.length + (k - h.length), ?_⟩
    rw [back, if_neg (by omega)]
    omega
theorem Merge.apart (M : Merge φ h L g w h1 g1 w1) {k : Nat} (hL : k ∉ L) (hl : (hget h k).live = true) : ∀ i, (hget (sub h L) i).live = true → (gcut g L).β i ≠ g.β k := by
  intro i hi hb
  by_cases hlt : i < L.length
  · have hg : L[i]? = some L[i] := by simp [hlt]
    rw [sub_get hg, ren_live] at hi
    simp only [gcut, List.getD, hg, Option.getD_some] at hb
    have := M.hr.inj _ _ hi hl hb
    exact hL (this ▸ List.getElem_mem hlt)
  · rw [sub_out (by omega)] at hi; simp [O.live] at hi
theorem Merge.hle (M : Merge φ h L g w h1 g1 w1) : HLe h g w (mergeH h L h1) (mergeG h L g g1) w1 where
  ext := M.fr.ext
  len := by rw [mergeH_length]; omega
  arr n es hn he := by
    refine ⟨?_, by simp [mergeG, hn], by simp [mergeG, hn], ?_⟩
    all_goals
      by_cases hL : n ∈ L
      · have hi := List.idxOf_lt_length_of_mem hL
        have hg := idx_get hL
        have hb : back L h.length (L.idxOf n) = n := by simp [back, hi, List.getD]
        have e1 := M.at (L.idxOf n)
        rw [hb] at e1
        rw [e1, ren_es] at he
        obtain ⟨k1, k2, k3⟩ := (M.fr.les _ hi).arr es he
        rw [sub_get hg] at k1 k2
        rw [ren_es] at k1
        rw [ren_len] at k2
        simp only [gcut, List.getD, hg, Option.getD_some] at k3
        first
          | exact k1
          | (rw [e1, ren_len]; exact ⟨k2, k3⟩)
      · rw [M.old hn hL] at he
        have hl := es_live he
        have hk := M.fr.keep (g.β n) (M.hr.block hl) (M.apart hL hl)
        first
          | exact he
          | (rw [M.old hn hL]; exact ⟨rfl, Stays.of_eq hk.1⟩)
  mp n kv hn hk := by
    refine ⟨?_, by simp [mergeG, hn]⟩
    by_cases hL : n ∈ L
    · have hi := List.idxOf_lt_length_of_mem hL
      have hg := idx_get hL
      have hb : back L h.length (L.idxOf n) = n := by simp [back, hi, List.getD]
      have e1 := M.at (L.idxOf n)
      rw [hb, hk] at e1
      cases ho : hget h1 (L.idxOf n) with
      | mp kv1 =>
        obtain ⟨kv2, h2⟩ := (M.fr.les _ hi).mp kv1 ho
        rw [sub_get hg] at h2
        cases hq : hget h n with
        | mp kv3 => exact ⟨kv3, rfl⟩
        | _ => rw [hq] at h2; simp [O.ren] at h2
      | _ => rw [ho] at e1; simp [O.ren] at e1
    · rw [M.old hn hL] at hk
      exact ⟨kv, hk⟩
  lp n hn hk := by
    refine ⟨?_, by simp [mergeG, hn]⟩
    by_cases hL : n ∈ L
    · have hi := List.idxOf_lt_length_of_mem hL
      have hg := idx_get hL
      have hb : back L h.length (L.idxOf n) = n := by simp [back, hi, List.getD]
      have e1 := M.at (L.idxOf n)
      rw [hb] at e1
      rw [e1, ren_lp] at hk
      have h2 := (M.fr.les _ hi).lp hk
      rwa [sub_get hg, ren_lp] at h2
    · rwa [M.old hn hL] at hk
mutual
theorem Merge.relV (M : Merge φ h L g w h1 g1 w1) : ∀ {x : V} {v : Value}, relV φ h1 g1 w1 x v → relV φ (mergeH h L h1) (mergeG h L g g1) w1 (x.ren (back L h.length)) v
  | .u, v, _ => by simp [V.ren, VS.relV]
  | .skp, v, hr => by simpa [V.ren, VS.relV] using hr
  | .d x, v, hr => by simp only [V.ren, VS.relV] at hr ⊢; exact hr
  | .loc n r c, v, hr => by
    simp only [V.ren, VS.relV] at hr ⊢
    refine ⟨M.backlt hr.1, hr.2.1, fun es he => ?_⟩
    rw [M.at, ren_es] at he
    rw [(M.gb n).1, (M.gb n).2]
    exact hr.2.2 es he
  | .asl n off len, v, hr => by
    simp only [V.ren, VS.relV] at hr ⊢
    refine ⟨M.backlt hr.1, hr.2.1, fun es he => ?_⟩
    rw [M.at, ren_es] at he
    rw [(M.gb n).1, (M.gb n).2, M.at, ren_len]
    exact hr.2.2 es he
  | .aslx n off len, v, hr => by
    simp only [V.ren, VS.relV] at hr ⊢
    refine ⟨M.backlt hr.1, hr.2.1, fun es he => ?_⟩
    rw [M.at, ren_es] at he
    rw [(M.gb n).1, (M.gb n).2, M.at, ren_len]
    exact hr.2.2 es he
  | .sl0 _, v, hr => by simpa only [V.ren, VS.relV] using hr
  | .mp n, v, hr => by
    simp only [V.ren, VS.relV] at hr ⊢
    refine ⟨M.backlt hr.1, hr.2.1, fun kv he => ?_⟩
    rw [M.at] at he
    rw [(M.gb n).1]
    cases ho : hget h1 n with
    | mp kv0 => exact hr.2.2 kv0 ho
    | _ => rw [ho] at he; simp [O.ren] at he
  | .rf cs, v, hr => by
    simp only [V.ren, VS.relV] at hr ⊢
    obtain ⟨b, off, us, h1, h2, h3, h4⟩ := hr
    exact ⟨b, off, us, h1, by rw [renL_length]; exact h2, M.relVs h3, h4⟩
  | .yld n, v, hr => by
    simp only [V.ren, VS.relV] at hr ⊢
    refine ⟨M.backlt hr.1, hr.2.1, fun he => ?_⟩
    rw [M.at, ren_lp] at he
    rw [(M.gb n).1]
    exact hr.2.2 he
  | .fn f a b, v, hr => by
    simp only [V.ren, VS.relV] at hr ⊢
    obtain ⟨A, B, h1, h2, h3⟩ := hr
    exact ⟨A, B, h1, M.relVs h2, M.relVs h3⟩
  | .ag cs, v, hr => by
    simp only [V.ren, VS.relV] at hr ⊢
    obtain ⟨A, h1, h2, h3⟩ := hr
    exact ⟨A, h1, M.relVs h2, h3⟩
  | .tu cs, v, hr => by
    simp only [V.ren, VS.relV] at hr ⊢
    obtain ⟨A, h1, h2⟩ := hr
    exact ⟨A, h1, M.relVs h2⟩
theorem Merge.relVs (M : Merge φ h L g w h1 g1 w1) : ∀ {xs : List V} {vs : List Value}, relVs φ h1 g1 w1 xs vs → relVs φ (mergeH h L h1) (mergeG h L g g1) w1 (V.renL (back L h.length) xs) vs
  | [], [], _ => by simp [V.renL, VS.relVs]
  | x :: xs, v :: vs, hr => by
    simp only [V.renL, VS.relVs] at hr ⊢
    exact ⟨M.relV hr.1, M.relVs hr.2⟩
  | [], _ :: _, hr => by simp [VS.relVs] at hr
  | _ :: _, [], hr => by simp [VS.relVs] at hr
end
theorem Merge.obj (M : Merge φ h L g w h1 g1 w1) {b o : Nat} {x : O} (hr : objRel φ h1 g1 w1 b o x) : objRel φ (mergeH h L h1) (mergeG h L g g1) w1 b o (x.ren (back L h.length)) := by
  cases x with
  | dead => trivial
  | arrD es ex rows => exact hr
  | arrV es rows =>
    simp only [O.ren, objRel] at hr ⊢
    refine ⟨by simpa using hr.1, fun r row hrow => ?_, hr.2.2⟩
    rw [List.getElem?_map, Option.map_eq_some_iff] at hrow
    obtain ⟨row0, h0, rfl⟩ := hrow
    obtain ⟨k1, k2⟩ := hr.2.1 r row0 h0
    refine ⟨by rw [renL_length]; exact k1, fun j c hj => ?_⟩
    rw [renL_get, Option.map_eq_some_iff] at hj
    obtain ⟨c0, hc0, rfl⟩ := hj
    obtain ⟨v, h3, h4, h5⟩ := k2 j c0 hc0
    exact ⟨v, h3, h4, M.relV h5⟩
  | mp kv =>
    simp only [O.ren, objRel] at hr ⊢
    obtain ⟨ES, clk, k1, k2, k3⟩ := hr
    refine ⟨ES, clk, k1, ⟨by simpa using k2.1, fun i p e hp he => ?_⟩, k3⟩
    rw [List.getElem?_map, Option.map_eq_some_iff] at hp
    obtain ⟨p0, hp0, rfl⟩ := hp
    obtain ⟨h4, h5⟩ := k2.2 i p0 e hp0 he
    exact ⟨h4, M.relV h5⟩
  | lp ps a c e env =>
    simp only [O.ren, objRel] at hr ⊢
    obtain ⟨r, nt, k1, k0, k2, k3, k4, k5⟩ := hr
    refine ⟨r, nt, k1, k0, k2, k3, fun p hp => ?_, k5⟩
    simp only [envRen, List.mem_map] at hp
    obtain ⟨q, hq, rfl⟩ := hp
    exact M.relV (k4 q hq)
theorem Merge.hrel (M : Merge φ h L g w h1 g1 w1) : HRel φ (mergeH h L h1) (mergeG h L g g1) w1 where
  obj k := by
    rcases M.split k with ⟨hk, hL⟩ | ⟨i, rfl⟩
    · rw [M.old hk hL]
      by_cases hl : (hget h k).live = true
      · have hkeep := M.fr.keep (g.β k) (M.hr.block hl) (M.apart hL hl)
        have := objRel_move M.hle hkeep.1 hkeep.2 (M.hr.obj k)
        simpa [mergeG, hk] using this
      · cases hx : hget h k <;> simp_all [O.live, objRel]
    · rw [M.at, (M.gb i).1, (M.gb i).2]
      exact M.obj (M.hr1.obj i)
  inj x y hx hy he := by
    have cross : ∀ {k i : Nat}, k < h.length → k ∉ L → (hget h k).live = true → (hget h1 i).live = true → g.β k ≠ g1.β i := by
      intro k i hk hL hl hi hb
      rcases M.fr.lives i hi with ⟨j, hj, hjb⟩ | hs
      · exact M.apart hL hl j hj (hjb.trans hb.symm)
      · have := M.hr.block hl; omega
    rcases M.split x with ⟨kx, Lx⟩ | ⟨i, rfl⟩ <;> rcases M.split y with ⟨ky, Ly⟩ | ⟨j, rfl⟩
    · rw [M.old kx Lx] at hx
      rw [M.old ky Ly] at hy
      exact M.hr.inj x y hx hy (by simpa [mergeG, kx, ky] using he)
    · rw [M.old kx Lx] at hx
      rw [M.at, ren_live] at hy
      rw [(M.gb j).1] at he
      exact absurd (by simpa [mergeG, kx] using he) (cross kx Lx hx hy)
    · rw [M.old ky Ly] at hy
      rw [M.at, ren_live] at hx
      rw [(M.gb i).1] at he
      exact absurd (by simpa [mergeG, ky] using he.symm) (cross ky Ly hy hx)
    · rw [M.at, ren_live] at hx hy
      rw [(M.gb i).1, (M.gb j).1] at he
      rw [M.hr1.inj i j hx hy he]
  new := M.hr1.new
theorem Merge.frame (M : Merge φ h L g w h1 g1 w1) {m : Nat} (hm : m ≤ h.length) : Frame m h g w (mergeH h L h1) (mergeG h L g g1) w1 where
  ext := M.fr.ext
  size := M.fr.size
  os := M.fr.os
  tape := M.fr.tape
  output := M.fr.output
  pin n hn := by have : n < h.length := by omega
                 simp [mergeG, this]
  keep b hb hn := M.fr.keep b hb fun i hi hbi => by
    by_cases hlt : i < L.length
    · have hg : L[i]? = some L[i] := by simp [hlt]
      rw [sub_get hg, ren_live] at hi
      simp only [gcut, List.getD, hg, Option.getD_some] at hbi
      exact hn _ hi hbi
    · rw [sub_out (by omega)] at hi; simp [O.live] at hi
  lives k hk := by
    rcases M.split k with ⟨kk, Lk⟩ | ⟨i, rfl⟩
    · rw [M.old kk Lk] at hk
      exact .inl ⟨k, hk, by simp [mergeG, kk]⟩
    · rw [M.at, ren_live] at hk
      rw [(M.gb i).1]
      rcases M.fr.lives i hk with ⟨j, hj, hjb⟩ | hs
      · by_cases hlt : j < L.length
        · have hg : L[j]? = some L[j] := by simp [hlt]
          rw [sub_get hg, ren_live] at hj
          simp only [gcut, List.getD, hg, Option.getD_some] at hjb
          exact .inl ⟨L[j], hj, hjb⟩
        · rw [sub_out (by omega)] at hj; simp [O.live] at hj
      · exact .inr hs
  les n hn := M.hle.at (by omega)
end
theorem callR_spec {rec : Rec} {h : List O} {f : Nat} {xs : List V} {v2 : V} {h2 : List O} (hc : callR rec h f xs = some (v2, h2)) : ∃ L v h1, cut h 0 (V.locsL xs) = some L ∧
    rec (.call f (V.renL (L.idxOf ·) xs) (sub h L)) = some (.val v h1) ∧ L.length ≤ h1.length ∧ v2 = v.ren (back L h.length) ∧ h2 = mergeH h L h1 := by
  unfold callR at hc
  split at hc
  · rename_i L hL
    split at hc
    · rename_i v h1 hr
      split at hc
      · rename_i hl
        simp only [Option.some.injEq, Prod.mk.injEq] at hc
        exact ⟨L, v, h1, hL, hr, hl, hc.1.symm, hc.2.symm⟩
      · simp at hc
    · simp at hc
  · simp at hc
theorem cut_nil (h : List O) : cut h 0 [] = some [] := by simp [cut, reach]
theorem locsL_D : ∀ {xs : List V} {ds : List D}, allD xs = some ds → V.locsL xs = [] := by
  intro xs ds hd
  rw [allD_eq hd]
  clear hd
  induction ds with
  | nil => rfl
  | cons d ds ih => simp [V.locsL, V.locs, ih]
theorem renL_D {f : Nat → Nat} : ∀ {xs : List V} {ds : List D}, allD xs = some ds → V.renL f xs = xs := by
  intro xs ds hd
  rw [allD_eq hd]
  clear hd
  induction ds with
  | nil => rfl
  | cons d ds ih => simp [V.renL, V.ren, ih]
theorem back_nil (m : Nat) : back [] m = (m + ·) := by
  funext i
  simp [back]
theorem sim_callR {rec : Rec} (hq : QuietCall P φ rec) (hs : SRel φ nt m dB s g a w) {d : Option Nat} (hd : dstMay nt o d = true) {f : Nat} {xs : List V} {args : Array Value} {v2 : V} {h2 : List O} (hov : callR rec s.heap f xs = some (v2, h2))
    (hr : relVs φ s.heap g w xs args.toList)
    (hrun : (execOp a.eval o).run P w = (callFunc (φ f) args).run P w) (hK : After φ nt m dB s g w (s.putHO d (some (v2, h2))) o a K) : o.wp P a w K Q := by
  obtain ⟨L, v, h1, hL, hrec, hlen, rfl, rfl⟩ := callR_spec hov
  obtain ⟨hnd, hroots, hcl, _, _⟩ := cut_spec hL
  obtain ⟨⟨fn, hf, hn, hb⟩, hcall⟩ := hq f _ _ v h1 hrec
  unfold Oper.wp
  rw [hrun, run_callFunc hf hn hb]
  simp only [Oper.upon]
  refine Calls.mono (hcall (gcut g L) w args (hrel_cut hL hs.heap) (relVs_ren hroots hr)) fun e w' h => ?_
  obtain ⟨v', g1, rfl, hH1, hrel, hfr⟩ := h
  rw [sub_length] at hfr
  have M : Merge φ s.heap L g w h1 g1 w' := ⟨hs.heap, hnd, fun n hn => (hcl n hn).1, hlen, hH1, hfr⟩
  obtain ⟨e1, e2⟩ := dstMay_spec hd
  have hs' : ∀ ok, SRel φ nt m dB ⟨s.env, mergeH s.heap L h1, ok⟩ (mergeG s.heap L g g1) a w' := fun ok =>
    ⟨fun k => relV_le M.hle (hs.env k), M.hrel, hs.size, hs.defers.frame (M.frame hs.len), Nat.le_trans hs.len M.hle.len⟩
  refine hK (mergeG s.heap L g g1) v' w' ?_ ?_
  · rw [e1]
    cases d with
    | none => exact hs' _
    | some d => exact (hs' s.ok).putV (e2 d rfl) (M.relV hrel)
  · cases d with
    | none => exact M.frame hs.len
    | some d => exact M.frame hs.len
theorem callD_R {rec : Rec} {h : List O} {f : Nat} {xs : List V} {r : V × List O} (hc : callD rec h f xs = some r) : callR rec h f xs = some r := by
  unfold callD at hc
  split at hc
  · rename_i ds hds
    unfold callR
    rw [locsL_D hds, cut_nil]
    simp only [renL_D hds]
    have hsub : sub h [] = [] := rfl
    rw [hsub]
    split at hc
    · rename_i v h1 hr
      simp only [Option.some.injEq] at hc
      simp only [hr, hc.symm]
      simp [back_nil, setAll]
    · simp at hc
  · simp at hc
theorem sim_callr (r : Bool) {rec : Rec} (hq : QuietCall P φ rec) (hs : SRel φ nt m dB s g a w) {d : Option Nat} {f : Nat} {xs : List A} (hc : chkI P φ nt o (if r then .callr d f xs else .callk d f xs) = true) (hok : (evI rec (if r then .callr d f xs else .callk d f xs) s).ok = true)
    (hK : After φ nt m dB s g w (evI rec (if r then .callr d f xs else .callk d f xs) s) o a K) : o.wp P a w K Q := by
  have hc' : (dstMay nt o d && (match o.op with
    | .call c => (match c.callee with | .value (.func g) => φ f == g && chkAs φ c.args.toList xs | _ => false)
    | _ => false)) = true := by cases r <;> exact hc
  simp only [Bool.and_eq_true] at hc'
  obtain ⟨hd, h⟩ := hc'
  split at h
  · rename_i c ho
    split at h
    · rename_i ff hcal
      simp only [Bool.and_eq_true, beq_iff_eq] at h
      obtain ⟨rfl, hx⟩ := h
      have hrun : (execOp a.eval o).run P w = (callFunc (φ f) (c.args.map a.eval)).run P w := by simp [execOp, ho, resolve, hcal, Act.eval, Deferred.ofValue, invoke]
      have hr : relVs φ s.heap g w (xs.map s.get) (c.args.map a.eval).toList := by simpa using chkAs_rel hs hx
      cases r with
      | true =>
        simp only [if_true, evI] at hok hK
        obtain ⟨⟨v2, h2⟩, hv⟩ := putHO_some hok
        rw [hv] at hK
        exact sim_callR hq hs hd hv hr hrun hK
      | false =>
        simp only [Bool.false_eq_true, if_false, evI] at hok hK
        obtain ⟨⟨v2, h2⟩, hv⟩ := putHO_some hok
        rw [hv] at hK
        exact sim_callR hq hs hd (callD_R hv) hr hrun hK
    · simp at h
  · simp at h
theorem sim_callvr {rec : Rec} (hq : QuietCall P φ rec) (hs : SRel φ nt m dB s g a w) {d : Option Nat} {x : A} {xs : List A} (hc : chkI P φ nt o (.callvr d x xs) = true) (hok : (evI rec (.callvr d x xs) s).ok = true)
    (hK : After φ nt m dB s g w (evI rec (.callvr d x xs) s) o a K) : o.wp P a w K Q := by
  simp only [chkI, Bool.and_eq_true] at hc
  obtain ⟨hd, h⟩ := hc
  split at h
  · rename_i c ho
    split at h
    · rename_i y hcal
      simp only [Bool.and_eq_true] at h
      obtain ⟨hx, hxs⟩ := h
      simp only [evI] at hok hK
      have rx := chkA_rel hs hx
      have rxs := chkAs_rel hs hxs
      obtain ⟨⟨v2, h2⟩, hv⟩ := putHO_some hok
      rw [hv] at hK
      have key : ∀ {f : Nat} {A B : Array Value} {zs : List V}, a.eval y = .func (.func (φ f)) A B → callR rec s.heap f zs = some (v2, h2) →
          relVs φ s.heap g w zs (A.toList ++ c.args.toList.map a.eval ++ B.toList) → o.wp P a w K Q := by
        intro f A B zs he hz hr
        refine sim_callR hq hs hd (f := f) (xs := zs) (args := A ++ c.args.map a.eval ++ B) hz (by simpa using hr) ?_ hK
        simp [execOp, ho, resolve, hcal, he, Deferred.ofValue, invoke]
      cases hxv : s.get x with
      | d z =>
        cases z with
        | fn f first caps =>
          rw [hxv] at rx hv
          simp only [relV, relD] at rx
          obtain ⟨A, B, he, hA, hB⟩ := rx
          exact key he hv (relVs_append (relVs_append (relVs_of_D hA) rxs) (relVs_of_D hB))
        | _ => rw [hxv] at hv; simp [callVal] at hv
      | fn f first caps =>
        rw [hxv] at rx hv
        simp only [relV] at rx
        obtain ⟨A, B, he, hA, hB⟩ := rx
        exact key he hv (relVs_append (relVs_append hA rxs) hB)
      | _ => rw [hxv] at hv; simp [callVal] at hv
    · simp at h
  · simp at h
end
end Go.VS
namespace Go.VS
section
variable {P : Program} {φ : Phi}
variable {nt m dB : Nat} {s : St} {g : Gh} {a : Act} {w : World} {K : Act → World → Prop} {Q : Exit → Act → World → Prop} {o : Oper}
theorem sim_lit0 (hs : SRel φ nt m dB s g a w) {rec : Rec} {d es : Nat} {z : List D} (hc : chkI P φ nt o (.lit0 d es z) = true)
    (hK : After φ nt m dB s g w (evI rec (.lit0 d es z) s) o a K) : o.wp P a w K Q := by
  simp only [chkI, Bool.and_eq_true] at hc
  obtain ⟨hd, h⟩ := hc
  split at h
  · rename_i t k qs ho
    simp only [Bool.and_eq_true, decide_eq_true_eq, beq_iff_eq] at h
    obtain ⟨⟨⟨rfl, hq⟩, hpos⟩, h⟩ := h
    split at h
    · rename_i e hu
      simp only [Bool.and_eq_true, beq_iff_eq] at h
      obtain ⟨hz, hzl⟩ := h
      obtain ⟨i, v, hi, hv, hzr, h1, hsz⟩ := zero_spec (g := g) (w := w) hz
      have hq' : qs = #[] := by simpa using hq
      subst hq'
      have hrun : (execOp a.eval o).run P w = .ok (.value (.slice (some ⟨w.heap.size, 0, none⟩) 0 0)) (w.alloc (.cells #[] e)) := by
        have e0 : (Array.map (fun _ => (default : Value)) (Array.range 0)) = #[] := by apply Array.eq_empty_of_size_eq_zero; simp
        simp [execOp, ho, Instr.buildSlice, run_underlying hu, sizeOf, typeInfo, hi, newRow, Instr.fill, pure]
        exact congrArg (fun x => w.alloc (Obj.cells x e)) e0
      have hg := Grew.alloc w (.cells #[] e)
      simp only [evI] at hK
      refine sim_grew hs hd (I' := g.I) hrun hg (fun b hb => rfl) (fun b hb => hs.heap.new b (Nat.le_trans hg.size hb)) ?_ hK
      simp only [relV]
      exact ⟨_, rfl⟩
    · simp at h
  · simp at h
theorem sim_appf (hs : SRel φ nt m dB s g a w) {rec : Rec} {d es : Nat} {x y : A} (hc : chkI P φ nt o (.appf d x y es) = true) (hok : (evI rec (.appf d x y es) s).ok = true)
    (hK : After φ nt m dB s g w (evI rec (.appf d x y es) s) o a K) : o.wp P a w K Q := by
  simp only [chkI, Bool.and_eq_true] at hc
  obtain ⟨hd, h⟩ := hc
  split at h
  · rename_i c ho
    split at h
    · rename_i x' y' t t' hcal hargs htys
      simp only [Bool.and_eq_true, decide_eq_true_eq] at h
      obtain ⟨⟨⟨hx, hy⟩, hpos⟩, ht⟩ := h
      obtain ⟨cal, args, tys⟩ := c
      simp only at hcal hargs htys
      have hargs' : args = #[x', y'] := by rw [← Array.toList_inj]; exact hargs
      have htys' : tys = #[t, t'] := by rw [← Array.toList_inj]; exact htys
      subst hcal; subst hargs'; subst htys'
      split at ht
      · rename_i e e' hu hu'
        split at ht
        · rename_i i hi
          simp only [Bool.and_eq_true, beq_iff_eq, decide_eq_true_eq] at ht
          obtain ⟨⟨hsz, hby⟩, hzz⟩ := ht
          split at hzz
          · rename_i z hz
            simp only [Bool.and_eq_true, beq_iff_eq, List.all_eq_true] at hzz
            obtain ⟨hzz, hz1⟩ := hzz
            subst hsz
            have rx := chkA_rel hs hx
            have ry := chkA_rel hs hy
            have fin : ∀ {u u' : Value} {r : Value} {w' : World}, a.eval x' = u → a.eval y' = u' → (Builtin.append_ #[t, t'] o.type #[u, u']).run P w = .ok r w' → (execOp a.eval o).run P w = .ok (.value r) w' := by
              intro u u' r w' h1 h2 h3
              simp [execOp, ho, resolve, invoke, builtin, h1, h2, h3]
            simp only [evI] at hok hK
            obtain ⟨v, hv⟩ := putO_spec hok
            rw [hv] at hK
            unfold appfV at hv
            split at hv
            · simp at hv
            · rename_i ys hys
              obtain ⟨xa, xc, news, hey, hrl, hrd, hone, hnl, hcells⟩ := rowsD_rel hs.heap ry hys
              have hnl' : news.length = ys.length * i.size := by rw [hnl, Nat.mul_comm]
              have hcells' : news ≠ [] → ∃ b off, xa = some ⟨b, off, none⟩ ∧ ∀ (j : Nat) (u : Value), news[j]? = some u → w.cell? ⟨b, off + j, none⟩ = some u := by
                intro hne
                refine hcells fun h0 => hne ?_
                subst h0
                simpa using hnl
              have main : ∀ {base : Option Addr} {b0 : Bool}, a.eval x' = .slice base 0 0 → ys.length ≤ room → (b0 = true → base = none ∧ ys.length = 0) → (ys.length = 0 → b0 = false → ∃ ad, base = some ad) → v = .d (.sl i.size b0 ys) → o.wp P a w K Q := by
                intro base b0 hex hroom hb0 hb1 hvv
                subst hvv
                by_cases h0 : ys.length = 0
                · have hrun : (execOp a.eval o).run P w = .ok (.value (.slice base 0 0)) w := by
                    rw [h0] at hey
                    exact fin hex hey (run_append_zero (P := P) (w := w) (ty := o.type) hu hu' hi (sLen := 0) (sCap := 0) (xc := xc) (base := base) (xa := xa) (Nat.le_refl _))
                  have hy0 : ys = [] := List.eq_nil_of_length_eq_zero h0
                  subst hy0
                  refine sim_pure hs hd hrun ?_ hK
                  simp only [relV, relD]
                  refine ⟨base, 0, rfl, by simp, fun hb => ⟨(hb0 hb).1, rfl⟩, fun hb => ?_⟩
                  obtain ⟨ad, rfl⟩ := hb1 rfl hb
                  exact ⟨ad, rfl, by simp⟩
                · have hb : b0 = false := by
                    cases b0 with
                    | false => rfl
                    | true => exact absurd (hb0 rfl).2 h0
                  subst hb
                  have hrun := run_append_new (P := P) (w := w) (ty := o.type) hu hu' hi hz (sLen := 0) (sCap := 0) (sc := 0) (base := base) (olds := []) (by simp) (by simp) hnl' hcells' (xc := xc) (by omega) (by omega) hby rfl
                  have hgc := grownCap_ge w (0 + ys.length) 0 e
                  have hrun' : (execOp a.eval o).run P w = .ok (.value (.slice (some ⟨w.heap.size, 0, none⟩) (0 + ys.length) (grownCap w (0 + ys.length) 0 e))) (w.drew.alloc (.cells (([] ++ news) ++ (Builtin.zeroCells z.cells (grownCap w (0 + ys.length) 0 e - (0 + ys.length))).toList).toArray e)) := by
                    exact fin hex hey hrun
                  generalize hrest : (Builtin.zeroCells z.cells (grownCap w (0 + ys.length) 0 e - (0 + ys.length))).toList = rest at hrun'
                  generalize grownCap w (0 + ys.length) 0 e = cap at hrun' hgc
                  have hnew := hs.heap.new
                  have hg := grew_drew_alloc w (.cells (([] ++ news) ++ rest).toArray e)
                  have hb : (w.drew.alloc (.cells (([] ++ news) ++ rest).toArray e)).heap[w.heap.size]? = some (.cells (([] ++ news) ++ rest).toArray e) := heap_alloc_at w.drew _
                  have hI : ∀ b, b < w.heap.size → updI g.I w.heap.size (i.size * ys.length) b = g.I b := fun b hb => updI_lt hb
                  have hE := ext_grew hg hI hnew
                  refine sim_grew hs hd (I' := updI g.I w.heap.size (i.size * ys.length)) hrun' hg hI (size_alloc_le (w := w.drew) hnew _) ?_ hK
                  simp only [relV, relD]
                  refine ⟨_, _, by rw [Nat.zero_add], by omega, by simp, fun _ => ⟨_, rfl, fun _ => ⟨rfl, by simp [Gh.setI, updI], ?_⟩⟩⟩
                  refine relRows_of_flat hrl (relDs_ext hE hrd) hone fun j u hj => ?_
                  rw [List.nil_append] at hb
                  simp only [World.cell?, hb, Nat.zero_add, List.getElem?_toArray, List.nil_append]
                  rw [List.getElem?_append_left (List.getElem?_eq_some_iff.1 hj).1]
                  simpa using hj
              split at hv
              · rename_i e1 nl heq
                split at hv
                · rename_i hcond
                  obtain ⟨rfl, rfl, hroom⟩ := hcond
                  simp at hv
                  rw [heq] at rx
                  simp only [relV, relD] at rx
                  obtain ⟨ad, cap, he, hlc, ht2, _⟩ := rx
                  obtain ⟨rfl, rfl⟩ := ht2 trivial
                  exact main (b0 := decide (ys.length = 0)) he hroom (fun hb => ⟨rfl, by simpa using hb⟩) (fun h1 h2 => by simp [h1] at h2) (by rw [← hv]; simp)
                · simp at hv
              · rename_i e1 heq
                split at hv
                · rename_i hroom
                  simp at hv
                  rw [heq] at rx
                  simp only [relV] at rx
                  obtain ⟨ad, he⟩ := rx
                  exact main (b0 := false) he hroom (by simp) (fun _ _ => ⟨ad, rfl⟩) hv.symm
                · simp at hv
              · simp at hv
          · simp at hzz
        · simp at ht
      · simp at ht
    · simp at h
  · simp at h
end
end Go.VS
namespace Go.VS
section
variable {P : Program} {φ : Phi}
variable {nt m dB : Nat} {s : St} {g : Gh} {a : Act} {w : World} {K : Act → World → Prop} {Q : Exit → Act → World → Prop} {o : Oper}
theorem after_thaw {d : Nat} {v : V} {h1 : List O} {x : D} {h2 : List O} (hd : dstIs nt o d = true) (ht : thaw h1 v = some (x, h2)) (hK : After φ nt m dB s g w ⟨(d, .d x) :: s.env, h2, s.ok⟩ o a K) :
    After φ nt m dB s g w ⟨(d, v) :: s.env, h1, s.ok⟩ o a K := by
  intro g' v' w' hs' hf'
  obtain ⟨e1, e2⟩ := dstIs_spec hd
  simp only [thaw, Option.map_eq_some_iff, Prod.mk.injEq] at ht
  obtain ⟨y, hy, rfl, rfl⟩ := ht
  have hL : V.locsL [v] = v.locs := by simp [V.locsL]
  have hrel := hs'.env d
  simp only [envGet, if_true] at hrel
  obtain ⟨I', k1, k2, k3⟩ := thaw_rel hs' (xs := [v]) (vs := [(a.put o.dst v').tmps.getD d undef]) (ds := [y]) (by simp [toDs, hy]) (by simp only [relVs]; exact ⟨hrel, trivial⟩) s.ok
  rw [hL] at k1 k2
  refine hK (g'.setI I') v' w' ⟨fun k => ?_, k1.heap, k1.size, k1.defers, k1.len⟩ (hf'.trans k2)
  have h0 := k1.env k
  simp only [envGet] at h0 ⊢
  by_cases hk : d = k
  · subst hk
    rw [if_pos rfl]
    simp only [relDs] at k3
    simpa only [relV, Gh.setI] using k3.1
  · rw [if_neg hk] at h0 ⊢
    exact h0
theorem thawV_spec {ov : Option (V × List O)} {r : V × List O} (h : thawV ov = some r) : ∃ v h1 x h2, ov = some (v, h1) ∧ thaw h1 v = some (x, h2) ∧ r = (.d x, h2) := by
  cases ov with
  | none => simp [thawV] at h
  | some p =>
    obtain ⟨v, h1⟩ := p
    simp only [thawV, Option.bind_some, Option.map_eq_some_iff] at h
    obtain ⟨q, hq, rfl⟩ := h
    exact ⟨v, h1, q.1, q.2, rfl, hq, rfl⟩
theorem sim_ldz (hs : SRel φ nt m dB s g a w) {rec : Rec} {d n : Nat} {ag : Bool} {x : A} (hc : chkI P φ nt o (.ldz d x n ag) = true) (hok : (evI rec (.ldz d x n ag) s).ok = true)
    (hK : After φ nt m dB s g w (evI rec (.ldz d x n ag) s) o a K) : o.wp P a w K Q := by
  simp only [evI] at hok hK
  have hd : dstIs nt o d = true := by simp only [chkI, Bool.and_eq_true] at hc; exact hc.1
  obtain ⟨v, hh, hv⟩ := putH_spec hok
  rw [hv] at hK
  obtain ⟨v1, h1, y, h2, k1, k2, k3⟩ := thawV_spec hv
  simp only [Prod.mk.injEq] at k3
  obtain ⟨rfl, rfl⟩ := k3
  simp only [Option.map_eq_some_iff, Prod.mk.injEq] at k1
  obtain ⟨v0, hl, rfl, rfl⟩ := k1
  have hc' : chkI P φ nt o (.ld d x n ag) = true := hc
  refine sim_ld (rec := rec) hs hc' ?_ ?_
  · simp only [hv, St.putH] at hok; simp only [evI, hl, St.putO, St.put]; exact hok
  · simp only [evI, hl]
    exact after_thaw hd k2 hK
theorem sim_apk (hs : SRel φ nt m dB s g a w) {rec : Rec} {d es : Nat} {x y : A} (hc : chkI P φ nt o (.apk d x y es) = true) (hok : (evI rec (.apk d x y es) s).ok = true)
    (hK : After φ nt m dB s g w (evI rec (.apk d x y es) s) o a K) : o.wp P a w K Q := by
  simp only [evI] at hok hK
  have hd : dstIs nt o d = true := by simp only [chkI, Bool.and_eq_true] at hc; exact hc.1
  obtain ⟨v, hh, hv⟩ := putH_spec hok
  rw [hv] at hK hok
  obtain ⟨v1, h1, z, h2, k1, k2, k3⟩ := thawV_spec hv
  simp only [Prod.mk.injEq] at k3
  obtain ⟨rfl, rfl⟩ := k3
  have hc' : chkI P φ nt o (.app d x y es) = true := hc
  refine sim_app (rec := rec) hs hc' ?_ ?_
  · simp only [evI, k1, St.putH]; exact hok
  · simp only [evI, k1]
    exact after_thaw hd k2 hK
theorem sim_callz {rec : Rec} (hq : QuietCall P φ rec) (hs : SRel φ nt m dB s g a w) {d : Nat} {f : Nat} {xs : List A} (hc : chkI P φ nt o (.callz d f xs) = true) (hok : (evI rec (.callz d f xs) s).ok = true)
    (hK : After φ nt m dB s g w (evI rec (.callz d f xs) s) o a K) : o.wp P a w K Q := by
  simp only [evI] at hok hK
  simp only [chkI, Bool.and_eq_true] at hc
  obtain ⟨hd, h⟩ := hc
  obtain ⟨e1, e2⟩ := dstIs_spec hd
  have hc' : chkI P φ nt o (if true then .callr (some d) f xs else .callk (some d) f xs) = true := by
    simp only [if_true, chkI, Bool.and_eq_true]
    exact ⟨by simp only [dstMay, Bool.and_eq_true, beq_iff_eq, e1, Option.all_some, decide_eq_true_eq]; exact ⟨trivial, e2⟩, h⟩
  obtain ⟨v, hh, hv⟩ := putH_spec hok
  rw [hv] at hK hok
  obtain ⟨v1, h1, z, h2, k1, k2, k3⟩ := thawV_spec hv
  simp only [Prod.mk.injEq] at k3
  obtain ⟨rfl, rfl⟩ := k3
  refine sim_callr (rec := rec) true hq hs hc' ?_ ?_
  · simp only [if_true, evI, k1, St.putHO]; exact hok
  · simp only [if_true, evI, k1]
    exact after_thaw hd k2 hK
theorem plainD_rel {I I' : Nat → Nat} {w' : World} {x : D} {v : Value} (hp : x.plain = true) (hr : relD φ I w x v) : relD φ I' w' x v := by
  cases x <;> simp [D.plain] at hp <;> simpa only [relD] using hr
theorem plainDs_rel {I I' : Nat → Nat} {w' : World} : ∀ {cs : List D} {vs : List Value}, cs.all D.plain = true → relDs φ I w cs vs → relDs φ I' w' cs vs
  | [], [], _, _ => by simp [relDs]
  | c :: cs, v :: vs, hp, hr => by
    simp only [List.all_cons, Bool.and_eq_true] at hp
    simp only [relDs] at hr ⊢
    exact ⟨plainD_rel hp.1 hr.1, plainDs_rel hp.2 hr.2⟩
  | [], _ :: _, _, hr => by simp [relDs] at hr
  | _ :: _, [], _, hr => by simp [relDs] at hr
theorem plain_rel {h : List O} {g' : Gh} {w' : World} {x : V} {v : Value} (hp : x.plain = true) (hr : relV φ [] g w x v) : relV φ h g' w' x v := by
  cases x with
  | d y =>
    cases y with
    | ag cs =>
      simp only [V.plain] at hp
      simp only [relV, relD] at hr ⊢
      obtain ⟨A, h1, h2, h3⟩ := hr
      exact ⟨A, h1, plainDs_rel hp h2, h3⟩
    | b x => simpa only [relV, relD] using hr
    | i k x => simpa only [relV, relD] using hr
    | s x => simpa only [relV, relD] using hr
    | _ => simp [V.plain, D.plain] at hp
  | tu vs =>
    simp only [V.plain] at hp
    simp only [relV] at hr ⊢
    obtain ⟨A, h1, h2⟩ := hr
    refine ⟨A, h1, ?_⟩
    have key : ∀ {vs : List V} {us : List Value}, vs.all (fun v => match v with | .d x => x.plain | _ => false) = true → relVs φ [] g w vs us → relVs φ h g' w' vs us := by
      intro vs
      induction vs with
      | nil => intro us _ hr; cases us <;> simp_all [relVs]
      | cons v vs ih =>
        intro us hp hr
        cases us with
        | nil => simp [relVs] at hr
        | cons u us =>
          simp only [List.all_cons, Bool.and_eq_true] at hp
          simp only [relVs] at hr ⊢
          refine ⟨?_, ih hp.2 hr.2⟩
          cases v with
          | d x => simp only [relV] at hr ⊢; exact plainD_rel hp.1 hr.1
          | _ => simp at hp
    exact key hp h2
  | _ => simp [V.plain] at hp
theorem callS_spec {rec : Rec} {h : List O} {f : Nat} {xs : List V} {v : V} (hc : callS rec h f xs = some v) : ∃ ds, toDs h xs = some ds ∧ rec (.call f (ds.map V.d) []) = some (.val v []) ∧ v.plain = true := by
  unfold callS at hc
  split at hc
  · rename_i ds hds
    split at hc
    · rename_i v' hr
      split at hc
      · rename_i hp
        simp at hc
        subst hc
        exact ⟨ds, hds, hr, hp⟩
      · simp at hc
    · simp at hc
  · simp at hc
theorem sim_calls {rec : Rec} (hq : QuietCall P φ rec) (hs : SRel φ nt m dB s g a w) {d : Option Nat} {f : Nat} {xs : List A} (hc : chkI P φ nt o (.calls d f xs) = true) (hok : (evI rec (.calls d f xs) s).ok = true)
    (hK : After φ nt m dB s g w (evI rec (.calls d f xs) s) o a K) : o.wp P a w K Q := by
  simp only [chkI, Bool.and_eq_true] at hc
  obtain ⟨hd, h⟩ := hc
  split at h
  · rename_i c ho
    split at h
    · rename_i ff hcal
      simp only [Bool.and_eq_true, beq_iff_eq] at h
      obtain ⟨rfl, hx⟩ := h
      simp only [evI] at hok hK
      obtain ⟨v, hv⟩ := putQ_some hok
      rw [hv] at hK
      obtain ⟨ds, hds, hrec, hp⟩ := callS_spec hv
      obtain ⟨⟨fn, hf, hn, hb⟩, hcall⟩ := hq f _ [] v [] hrec
      have hr : relVs φ s.heap g w (xs.map s.get) (c.args.map a.eval).toList := by simpa using chkAs_rel hs hx
      obtain ⟨I', k1, _, k3⟩ := thaw_rel hs hds hr s.ok
      have hrun : (execOp a.eval o).run P w = .ok (.enter (φ f) (c.args.map a.eval)) w := by
        rw [← run_callFunc (P := P) (w := w) (args := c.args.map a.eval) hf hn hb]
        simp [execOp, ho, resolve, hcal, Act.eval, Deferred.ofValue, invoke]
      unfold Oper.wp
      rw [hrun]
      simp only [Oper.upon]
      refine Calls.mono (hcall ⟨fun _ => 0, fun _ => 0, I'⟩ w (c.args.map a.eval) (hrel_nil k1.heap.new) (relDs_V (g := ⟨fun _ => 0, fun _ => 0, I'⟩) k3)) fun e w' hh => ?_
      obtain ⟨v', g1, rfl, hH1, hrel, hfr⟩ := hh
      obtain ⟨hg, _⟩ := frame_nil hfr
      have hI2 : ∀ b, b < w.heap.size → (fun b => if b < w.heap.size then g.I b else g1.I b) b = g.I b := fun b hb => by simp [hb]
      have hnew2 : ∀ b, w'.heap.size ≤ b → (fun b => if b < w.heap.size then g.I b else g1.I b) b = 0 := fun b hb => by
        have := hg.size
        have hnb : ¬ b < w.heap.size := by omega
        simp only [hnb, if_false]
        exact hH1.new b hb
      obtain ⟨h1, h2⟩ := dstMay_spec hd
      have hs' := hs.grew hg hI2 hnew2
      refine hK (g.setI fun b => if b < w.heap.size then g.I b else g1.I b) v' w' ?_ ?_
      · rw [h1]
        cases d with
        | none => exact hs'
        | some d => exact hs'.putV (h2 d rfl) (plain_rel hp hrel)
      · cases d with
        | none => exact frame_grew m hs.heap hg hI2
        | some d => exact frame_grew m hs.heap hg hI2
    · simp at h
  · simp at h
end
end Go.VS
namespace Go.VS
section
variable {P : Program} {φ : Phi}
variable {nt m dB : Nat} {s : St} {g : Gh} {a : Act} {w : World} {K : Act → World → Prop} {Q : Exit → Act → World → Prop} {o : Oper}
theorem sim_nck (hs : SRel φ nt m dB s g a w) {rec : Rec} {d : Nat} {x : A} (hc : chkI P φ nt o (.nck d x) = true) (hok : (evI rec (.nck d x) s).ok = true)
    (hK : After φ nt m dB s g w (evI rec (.nck d x) s) o a K) : o.wp P a w K Q := by
  simp only [chkI, Bool.and_eq_true] at hc
  obtain ⟨hd, h⟩ := hc
  split at h
  · rename_i y ho
    have rx := chkA_rel hs h
    simp only [evI] at hok hK
    split at hK
    · rename_i cs hv
      rw [hv] at rx
      have rx' := rx
      simp only [relV, relD] at rx'
      obtain ⟨b, off, he, _⟩ := rx'
      exact sim_pure hs hd (v' := a.eval y) (by simp [execOp, ho, he]) rx hK
    · rename_i cs hv
      rw [hv] at rx
      have rx' := rx
      simp only [relV] at rx'
      obtain ⟨b, off, us, he, _⟩ := rx'
      exact sim_pure hs hd (v' := a.eval y) (by simp [execOp, ho, he]) rx hK
    · rename_i n r c hv
      rw [hv] at rx
      have rx' := rx
      simp only [relV] at rx'
      obtain ⟨h1, h2, h3⟩ := rx'
      cases hv' : a.eval y with
      | pointer ad =>
        cases ad with
        | some ad => rw [hv'] at rx; exact sim_pure hs hd (v' := .pointer (some ad)) (by simp [execOp, ho, hv']) rx hK
        | none => rw [hv'] at h2; simp [isPtr] at h2
      | _ => rw [hv'] at h2; simp [isPtr] at h2
    · rename_i t v hv
      rw [hv] at rx
      have rx' := rx
      simp only [relV, relD] at rx'
      obtain ⟨y', he, _⟩ := rx'
      exact sim_pure hs hd (v' := a.eval y) (by simp [execOp, ho, he]) rx hK
    · rename_i h1 h2 h3
      exfalso
      revert hok
      split <;> simp_all [St.fail]
  · simp at h
theorem sim_mn (hs : SRel φ nt m dB s g a w) {rec : Rec} {d : Nat} {x y : A} (hc : chkI P φ nt o (.mn d x y) = true) (hok : (evI rec (.mn d x y) s).ok = true)
    (hK : After φ nt m dB s g w (evI rec (.mn d x y) s) o a K) : o.wp P a w K Q := by
  simp only [chkI, Bool.and_eq_true] at hc
  obtain ⟨hd, h⟩ := hc
  split at h
  · rename_i c ho
    split at h
    · rename_i x' y' hcal hargs
      simp only [Bool.and_eq_true] at h
      obtain ⟨hx, hy⟩ := h
      obtain ⟨cal, args, tys⟩ := c
      simp only at hcal hargs
      have hargs' : args = #[x', y'] := by rw [← Array.toList_inj]; exact hargs
      subst hcal; subst hargs'
      have rx := chkA_rel hs hx
      have ry := chkA_rel hs hy
      simp only [evI] at hok hK
      refine sim_putO hs hd hok (fun v hv => ?_) hK
      unfold mnV at hv
      split at hv
      · rename_i k p k' q h1 h2
        rw [h1] at rx
        rw [h2] at ry
        split at hv
        · rename_i hk
          subst hk
          simp only [Option.some.injEq] at hv
          subst hv
          have e1 := relD_int (by simpa only [relV] using rx)
          have e2 := relD_int (by simpa only [relV] using ry)
          exact ⟨_, by simp [execOp, ho, resolve, invoke, builtin, Builtin.min_, Builtin.min2, e1, e2]; rfl, by simp [relV, relD]⟩
        · simp at hv
      · simp at hv
    · simp at h
  · simp at h
theorem run_part {t : TypeId} {n off : Nat} {ag : Bool} (hag : aggIs P t ag = true) (hn : sizeIs P t n = true) {A : Array Value} {v' : Value}
    (hv : if ag then n ≤ (A.toList.drop off).length ∧ v' = .agg ((A.toList.drop off).take n).toArray else (A.toList.drop off).head? = some v') : (part t A off).run P w = .ok v' w := by
  have h1 := run_isAgg (P := P) (w := w) hag
  have h2 := run_size (P := P) (w := w) hn
  cases ag
  · simp only [Bool.false_eq_true, if_false, List.head?_drop] at hv
    have : A[off]? = some v' := by simpa using hv
    simp [part, h1, this]
  · simp only [if_true] at hv
    have he : A.extract off (off + n) = ((A.toList.drop off).take n).toArray := by
      rw [← Array.toList_inj]
      simp only [Array.toList_extract, List.extract_eq_take_drop]
      congr 1
      omega
    simp [part, h1, h2, he, hv.2]
theorem sim_fld (hs : SRel φ nt m dB s g a w) {rec : Rec} {d off n : Nat} {ag : Bool} {x : A} (hc : chkI P φ nt o (.fld d x off n ag) = true) (hok : (evI rec (.fld d x off n ag) s).ok = true)
    (hK : After φ nt m dB s g w (evI rec (.fld d x off n ag) s) o a K) : o.wp P a w K Q := by
  simp only [chkI, Bool.and_eq_true] at hc
  obtain ⟨hd, h⟩ := hc
  split at h
  · rename_i t y k ho
    simp only [Bool.and_eq_true] at h
    obtain ⟨hx, h⟩ := h
    split at h
    · rename_i fs hfs
      split at h
      · rename_i f hf
        simp only [Bool.and_eq_true, beq_iff_eq] at h
        obtain ⟨⟨rfl, hn⟩, hag⟩ := h
        have rx := chkA_rel hs hx
        simp only [evI] at hok hK
        refine sim_putO hs hd hok (fun v hv => ?_) hK
        have fin : ∀ {A : Array Value} {cs : List V}, a.eval y = .agg A → relVs φ s.heap g w cs A.toList → (∀ u ∈ A.toList, u.oneCell' = true) → pack n ag (cs.drop f.offset) = some v →
            ∃ v', (execOp a.eval o).run P w = .ok (.value v') w ∧ relV φ s.heap g w v v' := by
          intro A cs he hr h1 hp
          obtain ⟨v', h2, h3⟩ := pack_rel (relVs_drop hr f.offset) (fun u hu => h1 u (List.mem_of_mem_drop hu)) hp
          have := run_part (P := P) (w := w) (off := f.offset) (A := A) hag hn h2
          exact ⟨v', by simp [execOp, ho, Instr.field, run_underlying hfs, hf, he, asAgg, this], h3⟩
        unfold fldV at hv
        split at hv
        · rename_i cs hxv
          rw [hxv] at rx
          simp only [relV, relD] at rx
          obtain ⟨A, he, hr, h1⟩ := rx
          exact fin he (relDs_V hr) h1 hv
        · rename_i cs hxv
          rw [hxv] at rx
          simp only [relV] at rx
          obtain ⟨A, he, hr, h1⟩ := rx
          exact fin he hr h1 hv
        · simp at hv
      · simp at h
    · simp at h
  · simp at h
theorem sl3_bounds {cap len l h mx : Nat} {k1 k2 k3 : IntKind} (h1 : l ≤ h) (h2 : h ≤ mx) (h3 : mx ≤ cap) :
    (Instr.sliceBounds true len cap (some (.int k1 l)) (some (.int k2 h)) (some (.int k3 mx))).run P w = .ok (l, h, mx) w := by
  have a1 : ¬ ((mx : Int) < 0) := by omega
  have a2 : ¬ ((cap : Int) < mx) := by omega
  have a3 : ¬ ((h : Int) < 0) := by omega
  have a4 : ¬ ((mx : Int) < h) := by omega
  have a5 : ¬ ((l : Int) < 0) := by omega
  have a6 : ¬ ((h : Int) < l) := by omega
  simp [Instr.sliceBounds, Instr.sliceBound, asIntOf, h1, h2, h3]
theorem sim_sl3 (hs : SRel φ nt m dB s g a w) {rec : Rec} {d es : Nat} {x lo hi mx : A} (hc : chkI P φ nt o (.sl3 d x lo hi mx es) = true) (hok : (evI rec (.sl3 d x lo hi mx es) s).ok = true)
    (hK : After φ nt m dB s g w (evI rec (.sl3 d x lo hi mx es) s) o a K) : o.wp P a w K Q := by
  simp only [chkI, Bool.and_eq_true] at hc
  obtain ⟨hd, h⟩ := hc
  split at h
  · rename_i t y lo' hi' mx' ho
    simp only [Bool.and_eq_true] at h
    obtain ⟨⟨⟨⟨hx, hlo⟩, hhi⟩, hmx⟩, ht⟩ := h
    split at ht
    · rename_i e hu
      have rx := chkA_rel hs hx
      simp only [evI] at hok hK
      refine sim_putO hs hd hok (fun v hv => ?_) hK
      have num : ∀ {z : A} {z' : Operand} {n : Int}, chkA φ z' z = true → asInt (s.get z) = some n → ∃ k, a.eval z' = .int k n := by
        intro z z' n hz hn
        have hr := chkA_rel hs hz
        cases hv : s.get z with
        | d q =>
          rw [hv] at hn hr
          cases q with
          | i k q => simp [asInt] at hn; subst hn; exact ⟨k, relD_int (by simpa only [relV] using hr)⟩
          | _ => simp [asInt] at hn
        | _ => rw [hv] at hn; simp [asInt] at hn
      unfold sl3V at hv
      split at hv
      · rename_i l hh q hl hhv hq
        obtain ⟨k1, e1⟩ := num hlo hl
        obtain ⟨k2, e2⟩ := num hhi hhv
        obtain ⟨k3, e3⟩ := num hmx hq
        have fin : ∀ {ad : Option Addr} {len cap : Nat}, a.eval y = .slice ad len cap → 0 ≤ l → l ≤ hh → hh ≤ q → q ≤ cap → v = .u →
            ∃ v', (execOp a.eval o).run P w = .ok (.value v') w ∧ relV φ s.heap g w v v' := by
          intro ad len cap he h0 h1 h2 h3 hvu
          subst hvu
          have hb := sl3_bounds (P := P) (w := w) (cap := cap) (len := len) (l := l.toNat) (h := hh.toNat) (mx := q.toNat) (k1 := k1) (k2 := k2) (k3 := k3) (by omega) (by omega) (by omega)
          have i1 : (l.toNat : Int) = l := by omega
          have i2 : (hh.toNat : Int) = hh := by omega
          have i3 : (q.toNat : Int) = q := by omega
          rw [i1, i2, i3] at hb
          have hsz := run_size (P := P) (w := w) ht
          refine ⟨_, by simp [execOp, ho, he, e1, e2, e3, Instr.sliceAt, Instr.slice, run_underlying hu, hb, hsz]; rfl, by simp [relV]⟩
        split at hv
        · rename_i e' nl xs hp
          rw [hp] at rx
          simp only [relV, relD] at rx
          obtain ⟨ad, cap, he, hlc, _⟩ := rx
          split at hv
          · rename_i hcond
            simp only [Option.some.injEq] at hv
            exact fin he hcond.2.1 hcond.2.2.1 hcond.2.2.2.1 (by omega) hv.symm
          · simp at hv
        · rename_i n off len hp
          rw [hp] at rx
          simp only [relV] at rx
          split at hv
          · rename_i hcond
            simp only [Option.some.injEq] at hv
            obtain ⟨es', he'⟩ := es_of_arr hcond.1
            obtain ⟨cap, he, hlc, _⟩ := rx.2.2 es' he'
            exact fin he hcond.2.1 hcond.2.2.1 hcond.2.2.2.1 (by omega) hv.symm
          · simp at hv
        · rename_i e' hp
          rw [hp] at rx
          simp only [relV] at rx
          obtain ⟨ad, he⟩ := rx
          split at hv
          · rename_i hcond
            simp only [Option.some.injEq] at hv
            obtain ⟨_, rfl, rfl, rfl⟩ := hcond
            exact fin he (by omega) (by omega) (by omega) (by simp) hv.symm
          · simp at hv
        · simp at hv
      · simp at hv
    · simp at ht
  · simp at h
theorem over_rel (hs : SRel φ nt m dB s g a w) {n p es : Nat} {rows ys : List (List D)} {news : List Value} {CS : Array Value} {T : TypeId} {ok : Bool} (hn : hget s.heap n = .arrD es true rows)
    (hb : w.heap[g.β n]? = some (.cells CS T (0, 0))) (hfit' : g.o n + es * rows.length ≤ CS.size)
    (hrr : relRows φ g.I w (g.β n) es (g.o n) rows) (hI : g.I (g.β n) ≤ g.o n) (hrd : relDs φ g.I w ys.flatten news) (hone : ∀ u ∈ news, u.oneCell' = true) (hrl : ∀ r ∈ ys, r.length = es) (hnl' : news.length = ys.length * es)
    (hin : p + ys.length ≤ rows.length) :
    (storeCells ⟨g.β n, g.o n + p * es, none⟩ news).run P w = .ok () (w.setRow (g.β n) (overlay CS.toList (g.o n + p * es) news).toArray) ∧
    SRel φ nt m dB ⟨s.env, s.heap.set n (.arrD es true (overlay rows p ys)), ok⟩ g a (w.setRow (g.β n) (overlay CS.toList (g.o n + p * es) news).toArray) ∧
    Frame m s.heap g w (s.heap.set n (.arrD es true (overlay rows p ys))) g (w.setRow (g.β n) (overlay CS.toList (g.o n + p * es) news).toArray) := by
  have hl : (hget s.heap n).live = true := by rw [hn]; rfl
  have hmul : (p + ys.length) * es ≤ rows.length * es := Nat.mul_le_mul_right es hin
  rw [Nat.add_mul] at hmul
  have hc1 : es * rows.length = rows.length * es := Nat.mul_comm _ _
  have hfit2 : g.o n + p * es + news.length ≤ CS.size := by omega
  have hst := run_storeCells_at P (g.β n) (g.o n + p * es) T news 0 CS w hb (by simpa using hfit2) hone
  simp only [Nat.add_zero] at hst
  obtain ⟨ht, hw'⟩ := turned_setRow (cs := (overlay CS.toList (g.o n + p * es) news).toArray) hb
  have hE : Ext g.I w g.I (w.setRow (g.β n) (overlay CS.toList (g.o n + p * es) news).toArray) := ext_store ht hb hfit2 hw' (by omega) (fun _ => Nat.le_refl _)
  have hsize : (overlay CS.toList (g.o n + p * es) news).toArray.size = CS.size := by
    have := overlay_length (cs := CS.toList) (new := news) (o := g.o n + p * es) (by simpa using hfit2)
    simpa using this
  have hol : (overlay rows p ys).length = rows.length := overlay_length hin
  have hle := hle_turn (x := .arrD es true (overlay rows p ys)) hs.heap hl ht hE
    (fun es' he' => ⟨by rw [hn]; simpa [O.es?] using he', by rw [hn]; simp only [O.len, hol], fun CS' T' hc => by
      rw [hb] at hc
      simp at hc
      obtain ⟨rfl, rfl⟩ := hc
      exact ⟨_, _, hw', by rw [hsize]; exact Nat.le_refl _, fun h => h.over hone⟩⟩) (fun kv hk => by simp at hk)
  have hH := hrel_turn (x := .arrD es true (overlay rows p ys)) hs.heap hl ht hle (fun _ _ => rfl)
    ⟨⟨_, T, hw', by rw [hsize, hol]; exact hfit'⟩, relRows_over hrr hE hrd hone hrl hin hb hfit' hw', by simpa [Gh.setI] using hI⟩
  exact ⟨hst, hs.turn hl ht hle hH, frame_turn _ hl ht hE (fun _ _ => rfl) hle⟩
theorem wp_builtin {d : Option Nat} (hd : dstMay nt o d = true) {v : V} {v' : Value} {hh : List O} {w' : World} (hrun : (execOp a.eval o).run P w = .ok (.value v') w') (hS : SRel φ nt m dB ⟨s.env, hh, s.ok⟩ g a w') (hF : Frame m s.heap g w hh g w')
    (hv : relV φ hh g w' v v') (hK : After φ nt m dB s g w (s.putHO d (some (v, hh))) o a K) : o.wp P a w K Q := by
  obtain ⟨h1, h2⟩ := dstMay_spec hd
  refine wp_val hrun (hK g v' w' ?_ ?_)
  · rw [h1]
    cases d with
    | none => exact hS
    | some d => exact hS.putV (h2 d rfl) hv
  · cases d <;> exact hF
theorem relDs_replicate {I : Nat → Nat} {z : List D} {C : List Value} (hr : relDs φ I w z C) : ∀ n : Nat, relDs φ I w (List.replicate n z).flatten (List.replicate n C).flatten
  | 0 => by simp [relDs]
  | n + 1 => by
    simp only [List.replicate_succ, List.flatten_cons]
    exact relDs_append hr (relDs_replicate hr n)
theorem zeroCells_rel {I : Nat → Nat} {z : List D} {C : Array Value} (hr : relDs φ I w z C.toList) (h1 : ∀ v ∈ C.toList, v.oneCell' = true) (hp : 0 < z.length) (n : Nat) :
    relDs φ I w (List.replicate n z).flatten (Builtin.zeroCells C n).toList ∧ (∀ v ∈ (Builtin.zeroCells C n).toList, v.oneCell' = true) ∧ (Builtin.zeroCells C n).toList.length = n * z.length := by
  have hl := relDs_length hr
  have he : (Builtin.zeroCells C n).toList = (List.replicate n C.toList).flatten := by
    have hcs : C.size = z.length := by simpa using hl.symm
    unfold Builtin.zeroCells
    rw [show n * C.size = n * z.length by rw [hcs]]
    exact replicate_flatten n z.length C hcs hp
  rw [he]
  refine ⟨relDs_replicate hr n, fun v hv => ?_, by simp [hl]⟩
  simp only [List.mem_flatten, List.mem_replicate] at hv
  obtain ⟨l, ⟨_, rfl⟩, hv⟩ := hv
  exact h1 v hv
theorem firstCells_rel {es k n : Nat} {xa : Option Addr} {xc : Nat} {news : List Value} (hl : news.length = n * es) (hk : k ≤ n) (hc : news ≠ [] → ∃ b off, xa = some ⟨b, off, none⟩ ∧ ∀ (j : Nat) (u : Value), news[j]? = some u → w.cell? ⟨b, off + j, none⟩ = some u)
    : (Builtin.firstCells es k (.slice xa n xc)).run P w = .ok (news.take (k * es)).toArray w := by
  have hkl : (news.take (k * es)).length = k * es := by
    have := Nat.mul_le_mul_right es hk
    simp; omega
  by_cases hne : news.take (k * es) = []
  · rw [hne] at hkl ⊢
    have h0 : k * es = 0 := by simpa using hkl.symm
    cases xa with
    | none => simp [Builtin.firstCells]
    | some ad => exact run_firstCells_some w es k ad n xc [] (by simp [h0]) (by simp)
  · have hne2 : news ≠ [] := fun h => hne (by simp [h])
    obtain ⟨b, off, rfl, h⟩ := hc hne2
    refine run_firstCells_some w es k _ n xc _ hkl fun j v hj => ?_
    rw [addr_add]
    rw [List.getElem?_take] at hj
    split at hj
    · exact h j v hj
    · simp at hj
theorem take_flatten {α : Type} {es : Nat} : ∀ {rows : List (List α)} (_ : ∀ r ∈ rows, r.length = es) (n : Nat), (rows.take n).flatten = rows.flatten.take (n * es)
  | [], _, n => by simp
  | r :: rs, h, 0 => by simp
  | r :: rs, h, n + 1 => by
    have hr : r.length = es := h r (by simp)
    have ih := take_flatten (rows := rs) (fun x hx => h x (by simp [hx])) n
    have e1 : (n + 1) * es - es = n * es := by rw [Nat.succ_mul]; omega
    have e2 : r.take ((n + 1) * es) = r := List.take_of_length_le (by rw [Nat.succ_mul]; omega)
    simp only [List.take_succ_cons, List.flatten_cons, ih, List.take_append, hr, e1, e2]
theorem sim_clr (hs : SRel φ nt m dB s g a w) {rec : Rec} {d : Option Nat} {es : Nat} {x : A} {z : List D} (hc : chkI P φ nt o (.clr d x es z) = true) (hok : (evI rec (.clr d x es z) s).ok = true)
    (hK : After φ nt m dB s g w (evI rec (.clr d x es z) s) o a K) : o.wp P a w K Q := by
  simp only [chkI, Bool.and_eq_true] at hc
  obtain ⟨hd, h⟩ := hc
  split at h
  · rename_i c ho
    split at h
    · rename_i y t hcal hargs htys
      simp only [Bool.and_eq_true] at h
      obtain ⟨hx, h⟩ := h
      split at h
      · rename_i e hu
        simp only [Bool.and_eq_true, beq_iff_eq, decide_eq_true_eq] at h
        obtain ⟨⟨hz, rfl⟩, hpos⟩ := h
        obtain ⟨i, v, hi, hzv, hzr, hz1, hzs⟩ := zero_spec (g := g) (w := w) hz
        obtain ⟨cal, args, tys⟩ := c
        simp only at hcal hargs htys
        have hargs' : args = #[y] := by rw [← Array.toList_inj]; exact hargs
        have htys' : tys = #[t] := by rw [← Array.toList_inj]; exact htys
        subst hcal; subst hargs'; subst htys'
        have rx := chkA_rel hs hx
        simp only [evI] at hok hK
        obtain ⟨r, hr⟩ := putHO_some hok
        rw [hr] at hK
        simp only [Option.map_eq_some_iff] at hr
        obtain ⟨hh, hr, rfl⟩ := hr
        have fin : ∀ {w' : World}, (Builtin.clear_ #[t] o.type #[a.eval y]).run P w = .ok (.tuple #[]) w' → SRel φ nt m dB ⟨s.env, hh, s.ok⟩ g a w' → Frame m s.heap g w hh g w' → o.wp P a w K Q := by
          intro w' h1 h2 h3
          exact wp_builtin hd (v' := .tuple #[]) (by simp [execOp, ho, resolve, invoke, builtin, h1]) h2 h3 (by simp only [relV]; exact ⟨#[], rfl, by simp [relVs]⟩) hK
        unfold clrH at hr
        split at hr
        · rename_i e' nl hxv
          simp only [Option.some.injEq] at hr
          subst hr
          rw [hxv] at rx
          simp only [relV, relD] at rx
          obtain ⟨ad, cap, he, _⟩ := rx
          refine fin (w' := w) ?_ hs (Frame.refl _ _ _ _)
          cases ad <;> simp [Builtin.clear_, run_underlying hu, he]
        · rename_i n off len hxv
          rw [hxv] at rx
          simp only [relV] at rx
          have hobj := hs.heap.obj n
          split at hr
          · rename_i e' ex rows hn
            rw [hn] at rx hobj
            split at hr
            · rename_i hcond
              obtain ⟨rfl, _, hin⟩ := hcond
              obtain ⟨cap, he, hlc, _⟩ := rx.2.2 _ rfl
              split at hr
              · rename_i h0
                simp only [Option.some.injEq] at hr
                subst hr; subst h0
                refine fin (w' := w) ?_ hs (Frame.refl _ _ _ _)
                simp [Builtin.clear_, run_underlying hu, he]
              · rename_i h0
                split at hr
                · rename_i hex
                  subst hex
                  simp only [Option.some.injEq] at hr
                  subst hr
                  obtain ⟨⟨CS, T, hb, hfit⟩, hrr, hI⟩ := hobj
                  simp only [if_true] at hI
                  obtain ⟨z1, z2, z3⟩ := zeroCells_rel hzr hz1 hpos len
                  obtain ⟨k1, k2, k3⟩ := over_rel (P := P) hs (ok := s.ok) (p := off) (ys := List.replicate len z) hn hb hfit hrr hI z1 z2 (fun r hr => by rw [List.mem_replicate] at hr; rw [hr.2]) (by simpa using z3) (by simpa using hin)
                  refine fin ?_ k2 k3
                  obtain ⟨len, rfl⟩ : ∃ k, len = k + 1 := ⟨len - 1, by omega⟩
                  simp [Builtin.clear_, run_underlying hu, he, zeroValue, typeInfo, hi, hzv, k1]
                · simp at hr
            · simp at hr
          · simp at hr
        · simp at hr
      · simp at h
    · simp at h
  · simp at h
theorem sim_copy (hs : SRel φ nt m dB s g a w) {rec : Rec} {d : Option Nat} {es : Nat} {x y : A} (hc : chkI P φ nt o (.copy d x y es) = true) (hok : (evI rec (.copy d x y es) s).ok = true)
    (hK : After φ nt m dB s g w (evI rec (.copy d x y es) s) o a K) : o.wp P a w K Q := by
  simp only [chkI, Bool.and_eq_true] at hc
  obtain ⟨hd, h⟩ := hc
  split at h
  · rename_i c ho
    split at h
    · rename_i x' y' t t' hcal hargs htys
      simp only [Bool.and_eq_true, decide_eq_true_eq] at h
      obtain ⟨⟨⟨hx, hy⟩, hpos⟩, h⟩ := h
      split at h
      · rename_i e e' hu hu'
        obtain ⟨cal, args, tys⟩ := c
        simp only at hcal hargs htys
        have hargs' : args = #[x', y'] := by rw [← Array.toList_inj]; exact hargs
        have htys' : tys = #[t, t'] := by rw [← Array.toList_inj]; exact htys
        subst hcal; subst hargs'; subst htys'
        have rx := relV_wk (chkA_rel hs hx)
        have ry := chkA_rel hs hy
        have hsz := run_size (P := P) (w := w) h
        simp only [evI] at hok hK
        obtain ⟨r, hr⟩ := putHO_some hok
        rw [hr] at hK
        have fin : ∀ {k : Nat} {w' : World} {hh : List O}, r = (.d (.i .i64 (k : Int)), hh) → (Builtin.copy_ #[t, t'] o.type #[a.eval x', a.eval y']).run P w = .ok (goInt k) w' → SRel φ nt m dB ⟨s.env, hh, s.ok⟩ g a w' → Frame m s.heap g w hh g w' → o.wp P a w K Q := by
          intro k w' hh hrr h1 h2 h3
          subst hrr
          exact wp_builtin hd (v' := goInt k) (by simp [execOp, ho, resolve, invoke, builtin, h1]) h2 h3 (by simp [relV, relD, goInt]) hK
        unfold copyV at hr
        cases hrows : rowsD s.heap es (s.get y) with
        | none => simp [hrows] at hr
        | some ys =>
          simp only [hrows] at hr
          obtain ⟨xa, xc, news, hey, hrl, hrd, hone, hnl, hbase⟩ := rowsD_rel hs.heap ry hrows
          have hnl' : news.length = ys.length * es := by rw [hnl, Nat.mul_comm]
          split at hr
          · rename_i n off len hxv
            rw [hxv] at rx
            simp only [relV] at rx
            have hobj := hs.heap.obj n
            split at hr
            · rename_i e2 rows hn
              rw [hn] at rx hobj
              split at hr
              · rename_i hcond
                obtain ⟨rfl, hin⟩ := hcond
                simp only [Option.some.injEq] at hr
                obtain ⟨cap, he, hlc, _⟩ := rx.2.2 _ rfl
                obtain ⟨⟨CS, T, hb, hfit⟩, hrr, hI⟩ := hobj
                simp only [if_true] at hI
                have hk : (ys.take len).length = min ys.length len := by simp [Nat.min_comm]
                have hmul : min ys.length len * e2 ≤ ys.length * e2 := Nat.mul_le_mul_right _ (Nat.min_le_left _ _)
                have hfl : (ys.take len).flatten = ys.flatten.take (min ys.length len * e2) := by
                  rw [take_flatten hrl]
                  rcases Nat.le_total len ys.length with hle | hle
                  · rw [Nat.min_eq_right hle]
                  · rw [Nat.min_eq_left hle, List.take_of_length_le (by rw [flatten_length hrl, Nat.mul_comm e2]; exact Nat.mul_le_mul_right _ hle), List.take_of_length_le (by rw [flatten_length hrl, Nat.mul_comm e2]; exact Nat.le_refl _)]
                have hnt : (news.take (min ys.length len * e2)).length = min ys.length len * e2 := by simp; omega
                obtain ⟨k1, k2, k3⟩ := over_rel (P := P) hs (ok := s.ok) (p := off) (ys := ys.take len) (news := news.take (min ys.length len * e2)) hn hb hfit hrr hI
                  (by rw [hfl]; exact relDs_take hrd _) (fun u hu => hone u (List.mem_of_mem_take hu)) (fun r hr => hrl r (List.mem_of_mem_take hr)) (by rw [hnt, hk]) (by rw [hk]; omega)
                refine fin hr.symm ?_ k2 k3
                have hfc := firstCells_rel (P := P) (es := e2) (k := min ys.length len) (n := ys.length) (xc := xc) hnl' (Nat.min_le_left _ _) (fun hne => hbase fun h0 => hne (by subst h0; simpa using hnl'))
                simp [Builtin.copy_, run_underlying hu, he, hey, Builtin.lenOf, hsz, hfc, k1]
              · simp at hr
            · simp at hr
          · rename_i e2 nl hxv
            rw [hxv] at rx
            simp only [relV, relD] at rx
            obtain ⟨ad, cap, he, _⟩ := rx
            simp only [Option.some.injEq] at hr
            refine fin (k := 0) (w' := w) hr.symm ?_ hs (Frame.refl _ _ _ _)
            have hfc := firstCells_rel (P := P) (es := es) (k := 0) (n := ys.length) (xc := xc) hnl' (Nat.zero_le _) (fun hne => hbase fun h0 => hne (by subst h0; simpa using hnl'))
            cases ad <;> simp [Builtin.copy_, run_underlying hu, he, hey, Builtin.lenOf, hsz, hfc, storeCells]
          · simp at hr
      · simp at h
    · simp at h
  · simp at h
end
end Go.VS
namespace Go.VS
section
variable {P : Program} {φ : Phi}
variable {nt m dB : Nat} {s : St} {g : Gh} {a : Act} {w : World} {K : Act → World → Prop} {Q : Exit → Act → World → Prop} {o : Oper}
theorem sim_mx (hs : SRel φ nt m dB s g a w) {rec : Rec} {d : Nat} {x y : A} (hc : chkI P φ nt o (.mx d x y) = true) (hok : (evI rec (.mx d x y) s).ok = true)
    (hK : After φ nt m dB s g w (evI rec (.mx d x y) s) o a K) : o.wp P a w K Q := by
  simp only [chkI, Bool.and_eq_true] at hc
  obtain ⟨hd, h⟩ := hc
  split at h
  · rename_i c ho
    split at h
    · rename_i x' y' hcal hargs
      simp only [Bool.and_eq_true] at h
      obtain ⟨hx, hy⟩ := h
      obtain ⟨cal, args, tys⟩ := c
      simp only at hcal hargs
      have hargs' : args = #[x', y'] := by rw [← Array.toList_inj]; exact hargs
      subst hcal; subst hargs'
      have rx := chkA_rel hs hx
      have ry := chkA_rel hs hy
      simp only [evI] at hok hK
      refine sim_putO hs hd hok (fun v hv => ?_) hK
      unfold mxV at hv
      split at hv
      · rename_i k p k' q h1 h2
        rw [h1] at rx
        rw [h2] at ry
        split at hv
        · rename_i hk
          subst hk
          simp only [Option.some.injEq] at hv
          subst hv
          have e1 := relD_int (by simpa only [relV] using rx)
          have e2 := relD_int (by simpa only [relV] using ry)
          exact ⟨_, by simp [execOp, ho, resolve, invoke, builtin, Builtin.max_, Builtin.max2, e1, e2]; rfl, by simp [relV, relD]⟩
        · simp at hv
      · simp at hv
    · simp at h
  · simp at h
theorem sim_mki (hs : SRel φ nt m dB s g a w) {rec : Rec} {d t : Nat} {x : A} (hc : chkI P φ nt o (.mki d t x) = true) (hok : (evI rec (.mki d t x) s).ok = true)
    (hK : After φ nt m dB s g w (evI rec (.mki d t x) s) o a K) : o.wp P a w K Q := by
  simp only [chkI, Bool.and_eq_true] at hc
  obtain ⟨hd, h⟩ := hc
  split at h
  · rename_i t' y ho
    simp only [Bool.and_eq_true, beq_iff_eq] at h
    obtain ⟨⟨rfl, hx⟩, hu⟩ := h
    have rx := chkA_rel hs hx
    simp only [evI] at hok hK
    refine sim_putO hs hd hok (fun v hv => ?_) hK
    unfold mkiV at hv
    split at hv
    · rename_i u hxv
      rw [hxv] at rx
      simp only [Option.some.injEq] at hv
      subst hv
      refine ⟨.iface t' (a.eval y), ?_, by simp only [relV, relD]; exact ⟨_, rfl, by simpa only [relV] using rx⟩⟩
      split at hu
      · simp at hu
      · rename_i td hne htd
        simp only [execOp, ho, Instr.makeInterface, Sem.run_bind, run_underlying htd, Result.andThen_ok]
        rfl
      · simp at hu
    · simp at hv
  · simp at h
theorem follow_run {n : Nat} {A : Array Value} (hA : A.size = n) : ∀ {l : List FieldStep} {t : TypeId}, pathIs P n l t = true →
    ∃ xt td, (follow l t (.val (.agg A))).run P w = .ok (xt, .val (.agg A)) w ∧ P.underlying xt = some td ∧ ∀ e, td ≠ .pointer e
  | [], t, h => by
    simp only [pathIs] at h
    split at h
    · simp at h
    · rename_i td hne htd
      exact ⟨t, td, by simp [follow], htd, hne⟩
    · simp at h
  | s :: r, t, h => by
    simp only [pathIs] at h
    split at h
    · rename_i fs hfs
      split at h
      · rename_i f hf
        simp only [Bool.and_eq_true, Bool.not_eq_true', beq_iff_eq] at h
        obtain ⟨⟨⟨⟨h1, h2⟩, h3⟩, h4⟩, h5⟩ := h
        obtain ⟨xt, td, k1, k2, k3⟩ := follow_run hA h5
        have hp : (part f.type A f.offset).run P w = .ok (.agg A) w := by
          refine run_part (ag := true) h3 h4 ?_
          simp only [if_true, h2, List.drop_zero]
          refine ⟨by simp [hA], ?_⟩
          rw [List.take_of_length_le (by simp [hA])]
        refine ⟨xt, td, ?_, k2, k3⟩
        simp [follow, run_underlying hfs, hf, h1, hp, k1]
      · simp at h
    · simp at h
theorem method_run {nm : String} {t n f : Nat} (h : mthIs P φ nm t n f = true) {A : Array Value} (hA : A.size = n) (k : Nat) :
    (method (k + 1) t (.agg A) nm).run P w = .ok (φ f, .agg A) w := by
  unfold mthIs at h
  split at h
  · rename_i i hi
    split at h
    · rename_i mm hmm
      split at h
      · rename_i gg hgg
        simp only [Bool.and_eq_true, beq_iff_eq] at h
        obtain ⟨rfl, hp⟩ := h
        obtain ⟨xt, td, k1, k2, k3⟩ := follow_run (w := w) hA hp
        have hti : (typeInfo t).run P w = .ok i w := by simp [typeInfo, hi]
        simp only [method, Sem.run_bind, hti, Result.andThen_ok, hmm, k1, hgg]
        have hr : ∀ wr, (receiverAt xt (.val (.agg A)) false wr).run P w = .ok (.agg A) w := by
          intro wr
          simp only [receiverAt, Sem.run_bind, run_underlying k2, Result.andThen_ok]
          simp [Place.get]
        simp [hr]
      · simp at h
    · simp at h
  · simp at h
theorem sim_inv {rec : Rec} (hq : QuietCall P φ rec) (hs : SRel φ nt m dB s g a w) {d : Option Nat} {nm : String} {tbl : List (Nat × Nat × Nat)} {x : A} {xs : List A} (hc : chkI P φ nt o (.inv d nm tbl x xs) = true) (hok : (evI rec (.inv d nm tbl x xs) s).ok = true)
    (hK : After φ nt m dB s g w (evI rec (.inv d nm tbl x xs) s) o a K) : o.wp P a w K Q := by
  simp only [chkI, Bool.and_eq_true] at hc
  obtain ⟨hd, h⟩ := hc
  split at h
  · rename_i c ho
    split at h
    · rename_i y nm' hcal
      simp only [Bool.and_eq_true, beq_iff_eq, List.all_eq_true] at h
      obtain ⟨⟨⟨rfl, hx⟩, hxs⟩, htbl⟩ := h
      simp only [evI] at hok hK
      have rx := chkA_rel hs hx
      have rxs := chkAs_rel hs hxs
      obtain ⟨v, hv⟩ := putQ_some hok
      have hv' := hv
      unfold invV at hv'
      split at hv'
      · rename_i t ds hxv
        split at hv'
        · rename_i e he
          split at hv'
          · rename_i hlen
            have hmem := List.mem_of_find?_eq_some he
            have het : e.1 = t := by have := List.find?_some he; simpa using this
            have hm := htbl e hmem
            rw [hxv] at rx
            simp only [relV, relD] at rx
            obtain ⟨yv, hev, A, rfl, hA, h1⟩ := rx
            have hsz : A.size = e.2.1 := by rw [← hlen]; have := relDs_length hA; simpa using this.symm
            have hmr := method_run (P := P) (w := w) (φ := φ) hm hsz (P.types.size + 99)
            refine sim_quiet hq hs hd (f := e.2.2) (xs := .d (.ag ds) :: xs.map s.get) (args := #[.agg A] ++ c.args.map a.eval) (ov := invV (callQ rec) tbl (s.get x) (xs.map s.get)) (by rw [hv, hv']) hok ?_ ?_ hK
            · simp only [Array.toList_append, Array.toList_map, List.cons_append, List.nil_append, relVs]
              exact ⟨by simp only [relV, relD]; exact ⟨A, rfl, hA, h1⟩, rxs⟩
            · simp only [execOp, ho, resolve, hcal, Sem.run_bind, Sem.run_pure, Result.andThen_ok, invoke, hev]
              rw [het] at hmr
              have h0 : (#[Value.iface t (.agg A)] ++ Array.map a.eval c.args)[0]? = some (.iface t (.agg A)) := by simp [Array.getElem?_append]
              have h1 : (Array.map a.eval c.args).extract 0 c.args.size = Array.map a.eval c.args := by simp
              simp only [callMethod, Made.depth, h0] at *
              simp [hmr, h1]
          · simp at hv'
        · simp at hv'
      · simp at hv'
    · simp at h
  · simp at h
end
end Go.VS
