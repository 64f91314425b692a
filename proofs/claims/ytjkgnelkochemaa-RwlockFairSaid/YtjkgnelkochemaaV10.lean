import Derived.Test.YtjkgnelkochemaaV09
set_option linter.all false
namespace Go.VS.R
/-! who arrived, and who still counts -/
abbrev Arr := List (Int × Bool)
def ord (a : Arr) : List Int := (a.filter fun x => x.2).map fun x => x.1
def clr (t : Int) : Arr → Arr
  | [] => []
  | x :: r => if t ∈ ord r then x :: clr t r else if x.2 = true ∧ x.1 = t then (x.1, false) :: r else x :: r
def erL (t : Int) : List Int → List Int
  | [] => []
  | y :: r => if t ∈ r then y :: erL t r else if y = t then r else y :: r
theorem ord_cons (x : Int × Bool) (r : Arr) : ord (x :: r) = if x.2 = true then x.1 :: ord r else ord r := by
  unfold ord
  rw [List.filter_cons]
  split <;> simp
theorem ord_append (a b : Arr) : ord (a ++ b) = ord a ++ ord b := by
  unfold ord
  rw [List.filter_append, List.map_append]
theorem erL_nin {t : Int} : ∀ {l : List Int}, t ∉ l → erL t l = l
  | [], _ => rfl
  | y :: r, h => by
    have h1 : t ∉ r := fun h' => h (by simp [h'])
    have h2 : ¬ y = t := fun h' => h (by simp [h'])
    unfold erL
    rw [if_neg h1, if_neg h2]
theorem ord_clr (t : Int) : ∀ a : Arr, ord (clr t a) = erL t (ord a)
  | [] => rfl
  | x :: r => by
    unfold clr
    by_cases h : t ∈ ord r
    · rw [if_pos h, ord_cons, ord_cons, ord_clr t r]
      split
      · unfold erL; rw [if_pos h]
        cases hr : ord r with
        | nil => rw [hr] at h; cases h
        | cons _ _ => rfl
      · rfl
    · rw [if_neg h]
      split
      · rename_i hx
        rw [ord_cons, ord_cons, if_neg (by simp), if_pos hx.1]
        unfold erL
        rw [if_neg h, if_pos hx.2]
      · rename_i hx
        rw [ord_cons]
        split
        · rename_i h2
          have : ¬ x.1 = t := fun h' => hx ⟨h2, h'⟩
          unfold erL
          rw [if_neg h, if_neg this]
        · exact (erL_nin h).symm
theorem erL_append {t : Int} : ∀ {g q : List Int}, t ∈ q → erL t (g ++ q) = g ++ erL t q
  | [], q, _ => rfl
  | y :: g, q, h => by
    have e : y :: g ++ q = y :: (g ++ q) := rfl
    rw [e]
    unfold erL
    rw [if_pos (by simp [h]), erL_append h]
    cases q with
    | nil => cases h
    | cons _ _ => rfl
theorem erL_tasks {t : Int} : ∀ {Q : List W}, Q.Pairwise (fun a b => a.task ≠ b.task) → t ∈ Q.map W.task → erL t (Q.map W.task) = (Q.filter fun w => w.task != t).map W.task
  | [], _, h => by simp at h
  | w :: r, hd, h => by
    rw [List.pairwise_cons] at hd
    have e : (w :: r).map W.task = w.task :: r.map W.task := rfl
    rw [e]
    unfold erL
    by_cases hr : t ∈ r.map W.task
    · rw [if_pos hr]
      obtain ⟨v, hv, hvt⟩ := List.mem_map.1 hr
      have hne : w.task ≠ t := fun h' => hd.1 v hv (by rw [h', hvt])
      have ih := erL_tasks hd.2 hr
      rw [List.filter_cons, if_pos (by simpa using hne), List.map_cons, ← ih]
    · rw [if_neg hr]
      have hwt : w.task = t := by
        rw [e] at h
        rcases List.mem_cons.1 h with h | h
        · exact h.symm
        · exact absurd h hr
      rw [if_pos hwt, List.filter_cons, if_neg (by simp [hwt])]
      congr 1
      symm
      rw [List.filter_eq_self]
      intro v hv
      simp
      intro e
      exact hr (List.mem_map.2 ⟨v, hv, e⟩)
theorem clr_snoc_hit (t : Int) : ∀ p : Arr, clr t (p ++ [(t, true)]) = p ++ [(t, false)]
  | [] => by simp [clr, ord]
  | x :: r => by
    have e : x :: r ++ [(t, true)] = x :: (r ++ [(t, true)]) := rfl
    rw [e]
    unfold clr
    rw [if_pos (by rw [ord_append]; simp [ord]), clr_snoc_hit t r]
    cases r <;> rfl
theorem clr_snoc_miss (t : Int) (x : Int × Bool) (hx : ¬ (x.2 = true ∧ x.1 = t)) : ∀ p : Arr, clr t (p ++ [x]) = clr t p ++ [x]
  | [] => by
    unfold clr
    simp [ord]
    intro h1 h2
    exact absurd ⟨h1, h2⟩ hx
  | y :: r => by
    have e : y :: r ++ [x] = y :: (r ++ [x]) := rfl
    have hm : t ∈ ord (r ++ [x]) ↔ t ∈ ord r := by
      rw [ord_append, List.mem_append]
      constructor
      · rintro (h | h)
        · exact h
        · exfalso
          rw [ord_cons] at h
          split at h
          · rename_i h2
            simp [ord] at h
            exact hx ⟨h2, h.symm⟩
          · simp [ord] at h
      · exact .inl
    rw [e]
    unfold clr
    by_cases h : t ∈ ord r
    · rw [if_pos (hm.2 h), if_pos h, clr_snoc_miss t x hx r]
      cases r <;> rfl
    · rw [if_neg (fun h' => h (hm.1 h')), if_neg h]
      split <;> rfl
theorem srvM_parts (own : Int) (H : List Int) (Q : List W) : (srvM own H Q).2.2.2 ++ (srvM own H Q).2.2.1 = Q := by
  cases Q with
  | nil => rfl
  | cons w r =>
    rw [srvM_cons]
    split
    · rfl
    · split
      · rfl
      · show (w :: r.takeWhile fun w => w.op != 55) ++ (r.dropWhile fun w => w.op != 55) = w :: r
        rw [List.cons_append, List.takeWhile_append_dropWhile]
def c1B (s : PS) (t kd : Int) : Bool := decide (kd < 2) && !(s.Q.any fun w => w.task == t) && hld s.own s.H t == 0
def c2B (s : PS) (t kd : Int) : Bool := kd == 3 && (s.Q.any fun w => w.task == t) && !((stp s t kd).Q.any fun w => w.task == t)
def arrS (s : PS) (t kd : Int) (a : Arr) : Arr := if c1B s t kd = true then a ++ [(t, true)] else if c2B s t kd = true then clr t a else a
theorem fair_step {s : PS} {t kd : Int} {a : Arr} (hM : MV s.own s.H s.Q) (ht : 0 ≤ t ∧ t < 4) (hk : 0 ≤ kd ∧ kd < 4) (ho : ord a = s.got ++ s.Q.map W.task) :
    ord (arrS s t kd a) = (stp s t kd).got ++ (stp s t kd).Q.map W.task := by
  have htk : isTask t = true := by unfold isTask; simp; omega
  by_cases hk2 : kd < 2
  · have hc2 : c2B s t kd = false := by
      unfold c2B
      have : (kd == 3) = false := by simp; omega
      rw [this]; rfl
    have hop : opOf s.own s.H t kd = 53 ∨ opOf s.own s.H t kd = 55 := by
      unfold opOf
      by_cases h : kd = 0
      · rw [if_pos h]; exact .inl rfl
      · rw [if_neg h, if_pos (by omega)]; exact .inr rfl
    have hrp : rp s t kd = apV s.own s.H s.Q t (opOf s.own s.H t kd) 0 0 := by unfold rp; rw [if_neg (by omega)]
    have hL := apV_lock (own := s.own) (H := s.H) (Q := s.Q) (t := t) (o := opOf s.own s.H t kd) (p := 0) htk ⟨by omega, by omega⟩ hop
    rw [← hrp] at hL
    generalize opOf s.own s.H t kd = o at *
    by_cases hc : c1B s t kd = true
    · have hcc : (s.Q.any fun w => w.task == t) = false ∧ hld s.own s.H t = 0 := by
        unfold c1B at hc
        simp only [Bool.and_eq_true, Bool.not_eq_true', beq_iff_eq, decide_eq_true_eq] at hc
        exact ⟨hc.1.2, hc.2⟩
      rw [if_neg (by rw [hcc.1, hcc.2]; simp)] at hL
      have ea : arrS s t kd a = a ++ [(t, true)] := by unfold arrS; rw [if_pos hc]
      have eo : ord (a ++ [(t, true)]) = s.got ++ s.Q.map W.task ++ [t] := by rw [ord_append, ho]; simp [ord]
      rw [ea, eo]
      unfold lockS at hL
      by_cases hp : posB s.own s.H s.Q o = true
      · rw [if_pos hp] at hL
        have hQ : s.Q = [] := by
          unfold posB at hp
          by_cases h53 : o = 53
          · rw [if_pos h53] at hp
            simp at hp
            exact hp.2
          · rw [if_neg h53] at hp
            simp at hp
            have := hp.1
            rw [hp.1] at hM
            exact hM.free hp.2
        have hs : stp s t kd = ⟨(rp s t kd).own, (rp s t kd).H, [], s.got ++ ([t] ++ [])⟩ := by
          unfold stp
          have he : (rp s t kd).e = 0 := by rw [hL]; split <;> rfl
          have hpk : (rp s t kd).parked = false := by rw [hL]; split <;> rfl
          have hkk : (rp s t kd).k = [] := by rw [hL]; split <;> rfl
          have hqq : (rp s t kd).Q = [] := by rw [hL]; split <;> exact hQ
          rw [if_pos he, hpk, hkk, hqq, if_pos ⟨hk2, rfl⟩]
          rfl
        rw [hs, hQ]
        simp
      · rw [if_neg hp] at hL
        have hs : stp s t kd = ⟨(rp s t kd).own, (rp s t kd).H, s.Q ++ [⟨t, o, 0, 0, -1⟩], s.got ++ ([] ++ [])⟩ := by
          unfold stp
          have he : (rp s t kd).e = 0 := by rw [hL]
          have hpk : (rp s t kd).parked = true := by rw [hL]
          have hkk : (rp s t kd).k = [] := by rw [hL]
          have hqq : (rp s t kd).Q = s.Q ++ [⟨t, o, 0, 0, -1⟩] := by rw [hL]
          rw [if_pos he, hpk, hkk, hqq, if_neg (fun h => by simp at h)]
          rfl
        rw [hs]
        simp
    · have hcc : (s.Q.any fun w => w.task == t) = true ∨ hld s.own s.H t ≠ 0 := by
        unfold c1B at hc
        cases hq : (s.Q.any fun w => w.task == t)
        · right
          intro hz
          apply hc
          rw [hq, hz]
          simp [hk2]
        · exact .inl rfl
      rw [if_pos hcc] at hL
      have hs : stp s t kd = s := by
        unfold stp
        rw [if_neg (by rw [hL]; simp [zr])]
      have ea : arrS s t kd a = a := by unfold arrS; rw [if_neg hc, hc2, if_neg (by simp)]
      rw [ea, hs, ho]
  · have hc1 : c1B s t kd = false := by
      unfold c1B
      have : decide (kd < 2) = false := by simp; omega
      rw [this]; rfl
    by_cases hk3 : kd = 3
    · have hrp : rp s t kd = wdV s.own s.H s.Q t := by unfold rp; rw [if_pos hk3]
      cases hq : (s.Q.any fun w => w.task == t)
      · have hr : rp s t kd = zr 7 := by rw [hrp]; unfold wdV; rw [hq, if_neg (by simp)]
        have hs : stp s t kd = s := by
          unfold stp
          rw [if_neg (by rw [hr]; simp [zr])]
        have ea : arrS s t kd a = a := by
          unfold arrS
          rw [hc1, if_neg (by simp)]
          have : c2B s t kd = false := by unfold c2B; rw [hq]; simp
          rw [this, if_neg (by simp)]
        rw [ea, hs, ho]
      · have hr : rp s t kd = ⟨(srvM s.own s.H (s.Q.filter fun w => w.task != t)).1, (srvM s.own s.H (s.Q.filter fun w => w.task != t)).2.1, (srvM s.own s.H (s.Q.filter fun w => w.task != t)).2.2.1, false, false, (srvM s.own s.H (s.Q.filter fun w => w.task != t)).2.2.2, 0⟩ := by
          rw [hrp]; unfold wdV; rw [hq, if_pos rfl]
        have hpt := srvM_parts s.own s.H (s.Q.filter fun w => w.task != t)
        have hs : stp s t kd = ⟨(rp s t kd).own, (rp s t kd).H, (srvM s.own s.H (s.Q.filter fun w => w.task != t)).2.2.1, s.got ++ ([] ++ (srvM s.own s.H (s.Q.filter fun w => w.task != t)).2.2.2.map W.task)⟩ := by
          unfold stp
          have he : (rp s t kd).e = 0 := by rw [hr]
          have hkk : (rp s t kd).k = (srvM s.own s.H (s.Q.filter fun w => w.task != t)).2.2.2 := by rw [hr]
          have hqq : (rp s t kd).Q = (srvM s.own s.H (s.Q.filter fun w => w.task != t)).2.2.1 := by rw [hr]
          rw [if_pos he, hkk, hqq, if_neg (fun h => by omega)]
        have hwa : ((stp s t kd).Q.any fun w => w.task == t) = false := by
          rw [List.any_eq_false]
          intro w hw
          rw [hs] at hw
          have : w ∈ (s.Q.filter fun w => w.task != t) := by rw [← hpt]; exact List.mem_append_right _ hw
          have := (List.mem_filter.1 this).2
          simpa using this
        have ea : arrS s t kd a = clr t a := by
          unfold arrS
          rw [hc1, if_neg (by simp), if_pos]
          unfold c2B
          rw [hq, hwa, hk3]; rfl
        have hmem : t ∈ s.Q.map W.task := by
          obtain ⟨w, hw, hwt⟩ := List.any_eq_true.1 hq
          exact List.mem_map.2 ⟨w, hw, by simpa using hwt⟩
        rw [ea, ord_clr, ho, erL_append hmem, erL_tasks hM.qok.dis hmem, hs]
        show s.got ++ (s.Q.filter fun w => w.task != t).map W.task = s.got ++ ([] ++ (srvM s.own s.H (s.Q.filter fun w => w.task != t)).2.2.2.map W.task) ++ (srvM s.own s.H (s.Q.filter fun w => w.task != t)).2.2.1.map W.task
        rw [List.nil_append, List.append_assoc, ← List.map_append, hpt]
    · have hk22 : kd = 2 := by omega
      have hrp : rp s t kd = apV s.own s.H s.Q t (opOf s.own s.H t kd) 0 0 := by unfold rp; rw [if_neg hk3]
      have hop : opOf s.own s.H t kd = 54 ∨ opOf s.own s.H t kd = 56 := by
        unfold opOf
        rw [if_neg (by omega), if_neg (by omega)]
        split
        · exact .inr rfl
        · exact .inl rfl
      have hc2 : c2B s t kd = false := by
        unfold c2B
        have : (kd == 3) = false := by simpa using hk3
        rw [this]; rfl
      have ea : arrS s t kd a = a := by unfold arrS; rw [hc1, if_neg (by simp), hc2, if_neg (by simp)]
      rw [ea, ho]
      by_cases he : (rp s t kd).e = 0
      · have hpt : (rp s t kd).k ++ (rp s t kd).Q = s.Q := by
          rw [hrp] at he ⊢
          generalize opOf s.own s.H t kd = o at *
          unfold apV at he ⊢
          split
          · rename_i h; rw [if_pos h] at he; simp [zr] at he
          · rename_i h1
            rw [if_neg h1] at he
            split
            · rename_i h; rw [if_pos h] at he; simp [zr] at he
            · rename_i h2
              rw [if_neg h2] at he
              split
              · rename_i h; rw [if_pos h] at he; simp [zr] at he
              · rename_i h3
                rw [if_neg h3] at he
                rw [if_neg (by omega)] at he ⊢
                split
                · rename_i h4
                  rw [if_pos h4] at he
                  split
                  · rename_i h5; rw [if_pos h5] at he; simp [zr] at he
                  · exact srvM_parts _ _ _
                · rename_i h4
                  rw [if_neg h4] at he
                  split
                  · rename_i h5; rw [if_pos h5] at he; simp [zr] at he
                  · exact srvM_parts _ _ _
        have hs : stp s t kd = ⟨(rp s t kd).own, (rp s t kd).H, (rp s t kd).Q, s.got ++ ([] ++ (rp s t kd).k.map W.task)⟩ := by
          unfold stp
          rw [if_pos he, if_neg (fun h => by omega)]
        rw [hs]
        show s.got ++ s.Q.map W.task = s.got ++ ([] ++ (rp s t kd).k.map W.task) ++ (rp s t kd).Q.map W.task
        rw [List.nil_append, List.append_assoc, ← List.map_append, hpt]
      · have hs : stp s t kd = s := by unfold stp; rw [if_neg he]
        rw [hs]
end Go.VS.R
namespace Go.VS.R
/-! the map of who still counts -/
def mk (ks : List Int) : List (D × V) := ks.map fun t => (I' t, .d (.b true))
@[simp] theorem mk_length (ks : List Int) : (mk ks).length = ks.length := by simp [mk]
@[simp] theorem mk_locs (ks : List Int) : (mk ks).flatMap (fun p => p.2.locs) = [] := by simp [mk]
@[simp] theorem mk_ren (ks : List Int) (f : Nat → Nat) : (mk ks).map (fun p => (p.1, p.2.ren f)) = mk ks := by simp [mk]
theorem keyIs_i (t u : Int) (v : V) : keyIs [.i] (I' t) (I' u, v) = (t == u) := by simp [keyIs, keyEq, keyCells, flatEq, cellEq]
theorem keyOk_mk (t : Int) (ks : List Int) : keyOk [.i] (I' t) (mk ks) = true := by simp [keyOk, keyEq, keyCells, flatEq, cellEq, mk]
theorem mfind_mk (t : Int) : ∀ (ks : List Int), mfind [.i] (I' t) (mk ks) = if t ∈ ks then some (.d (.b true)) else none
  | [] => rfl
  | u :: r => by
    have ih := mfind_mk t r
    show (if keyIs [.i] (I' t) (I' u, .d (.b true)) then some (V.d (.b true)) else mfind [.i] (I' t) (mk r)) = _
    rw [keyIs_i, ih]
    by_cases h : t = u
    · simp [h]
    · simp [h]
theorem mset_mk (t : Int) : ∀ (ks : List Int), t ∉ ks → mset [.i] (I' t) (.d (.b true)) (mk ks) = mk (ks ++ [t])
  | [], _ => rfl
  | u :: r, h => by
    have ih := mset_mk t r (fun hh => h (by simp [hh]))
    have hu : (t == u) = false := by simp; exact fun hh => h (by simp [hh])
    show (if keyIs [.i] (I' t) (I' u, .d (.b true)) then (I' t, .d (.b true)) :: mk r else (I' u, .d (.b true)) :: mset [.i] (I' t) (.d (.b true)) (mk r)) = _
    rw [keyIs_i, hu, ih]
    rfl
theorem mdel_mk' (t : Int) : ∀ (ks : List Int), mdel [.i] (I' t) (mk ks) = mk (ks.erase t)
  | [] => rfl
  | u :: r => by
    have ih := mdel_mk' t r
    show (if keyIs [.i] (I' t) (I' u, .d (.b true)) then mk r else (I' u, .d (.b true)) :: mdel [.i] (I' t) (mk r)) = _
    rw [keyIs_i, ih]
    by_cases h : t = u
    · simp [h]
    · have h' : ¬ u = t := fun hh => h hh.symm
      have h2 : (t == u) = false := by simp [h]
      rw [h2, List.erase_cons_tail (by simp [h'])]
      rfl
theorem mget_mk (A : O) (H : List O) (ks : List Int) (t : Int) : mgetV [.i] (A :: .mp (mk ks) :: H) (.mp 1) (.d (I' t)) (.b false) false = some (.d (.b (decide (t ∈ ks)))) := by
  show mlook [.i] (I' t) (.b false) false (mk ks) = _
  unfold mlook
  rw [if_pos (keyOk_mk t ks), mfind_mk]
  by_cases h : t ∈ ks <;> simp [h]
theorem mput_mk (A : O) (H : List O) (ks : List Int) (t : Int) (ht : t ∉ ks) : mputH [.i] (A :: .mp (mk ks) :: H) (.mp 1) (.d (I' t)) (.d (.b true)) = some (A :: .mp (mk (ks ++ [t])) :: H) := by
  show (if keyOk [.i] (I' t) (mk ks) = true ∧ (V.d (.b true)).known = true then some ((A :: O.mp (mk ks) :: H).set 1 (.mp (mset [.i] (I' t) (.d (.b true)) (mk ks)))) else none) = _
  rw [if_pos ⟨keyOk_mk t ks, rfl⟩, mset_mk t ks ht]
  rfl
theorem mput_mk0 (H : List O) (t : Int) : mputH [.i] (.mp [] :: H) (.mp 0) (.d (I' t)) (.d (.b true)) = some (.mp (mk [t]) :: H) := by
  show (if keyOk [.i] (I' t) (mk []) = true ∧ (V.d (.b true)).known = true then some ((O.mp (mk []) :: H).set 0 (.mp (mset [.i] (I' t) (.d (.b true)) (mk [])))) else none) = _
  rw [if_pos ⟨keyOk_mk t [], rfl⟩, mset_mk t [] (by simp)]
  rfl
theorem mdel_mk (A : O) (H : List O) (ks : List Int) (t : Int) : mdelH [.i] (A :: .mp (mk ks) :: H) (.mp 1) (.d (I' t)) = some (A :: .mp (mk (ks.erase t)) :: H) := by
  show (if keyOk [.i] (I' t) (mk ks) = true then some ((A :: O.mp (mk ks) :: H).set 1 (.mp (mdel [.i] (I' t) (mk ks)))) else none) = _
  rw [if_pos (keyOk_mk t ks), mdel_mk']
  rfl
/-- the places that still count -/
def fx (j : Int) : Arr → List Int
  | [] => []
  | x :: r => if x.2 = true then j :: fx (j + 1) r else fx (j + 1) r
theorem fx_append : ∀ (a b : Arr) (j : Int), fx j (a ++ b) = fx j a ++ fx (j + a.length) b
  | [], b, j => by simp [fx]
  | x :: r, b, j => by
    have ih := fx_append r b (j + 1)
    have e : j + 1 + (r.length : Int) = j + ((r.length : Int) + 1) := by omega
    rw [e] at ih
    simp only [List.cons_append, fx, ih, List.length_cons]
    split <;> simp
theorem fx_mem : ∀ {a : Arr} {j x : Int}, x ∈ fx j a → j ≤ x ∧ x < j + a.length
  | [], j, x, h => by simp [fx] at h
  | y :: r, j, x, h => by
    unfold fx at h
    split at h
    · rcases List.mem_cons.1 h with h | h
      · simp; omega
      · have := fx_mem h; simp; omega
    · have := fx_mem h; simp; omega
theorem fx_at (p r : Arr) (x : Int × Bool) : decide ((p.length : Int) ∈ fx 0 (p ++ x :: r)) = x.2 := by
  rw [fx_append]
  have h1 : (p.length : Int) ∉ fx 0 p := fun h => by have := fx_mem h; omega
  have h2 : (p.length : Int) ∉ fx (0 + p.length + 1) r := fun h => by have := fx_mem h; omega
  cases hx : x.2
  · simp [fx, hx, h1]
    simpa using h2
  · simp [fx, hx]
theorem fx_new (a : Arr) : (a.length : Int) ∉ fx 0 a := fun h => by have := fx_mem h; omega
theorem fx_snoc (a : Arr) (t : Int) : fx 0 a ++ [(a.length : Int)] = fx 0 (a ++ [(t, true)]) := by
  rw [fx_append]; simp [fx]
theorem fx_erase (p r : Arr) (t : Int) : (fx 0 (p ++ (t, true) :: r)).erase p.length = fx 0 (p ++ (t, false) :: r) := by
  have h1 : (p.length : Int) ∉ fx 0 p := fun h => by have := fx_mem h; omega
  rw [fx_append, fx_append, List.erase_append_right _ h1]
  simp [fx]
theorem ev_C1C1 (t a b c d e : Int) : ev P (.call nurserylaw17_RwlockFairC1C1 [.d (.ag [I' a, I' b, I' c, I' d, I' e]), .d (.ref [I' t])] []) = some (.val (.d (.b (a == t))) []) := by
  rw [ev_call P_nurserylaw17_RwlockFairC1C1 rfl]
  simp [F_nurserylaw17_RwlockFairC1C1]
theorem ev_C1 (t : Int) (a b c d e f g h : D) (qn : Bool) (Q : List W) (hn : Q.length ≤ 1000) :
    ev P (.call nurserylaw17_RwlockFairC1 [.d (.ag [a, b, c, d, qD qn Q, e, f, g, h]), .d (.ref [I' t])] []) = some (.val (.d (.b (Q.any fun w => w.task == t))) []) := by
  have hc := ev_ContainsFunc (f := nurserylaw17_RwlockFairC1C1) (first := []) (caps := [.ref [I' t]]) (p := fun w => w.task == t) qn Q (by omega) (by intro a b c d e; simpa using ev_C1C1 t a b c d e)
  rw [ev_call P_nurserylaw17_RwlockFairC1 rfl]
  simp [F_nurserylaw17_RwlockFairC1, hc]
def aR (a : Arr) : List (List D) := rows1 (a.map fun x => x.1)
/-- taking an arrival back -/
theorem loop_F0 (t : Int) (st0 sl0 got n i : D) (stB : List D) (a : Arr) (hn : a.length ≤ 1000) : ∀ (m : Nat) (p suf : Arr), m = p.length → aR a = aR (p ++ suf) → a.length = (p ++ suf).length →
    ev P (.loop 0 [0, 3, 4, 7, 11, 12, 15, 24, 25, 26] F_nurserylaw17_RwlockFair_L0 [(0, .d sl0), (3, .asl 0 0 a.length), (4, .mp 1), (7, .d (.ref [I' t])), (11, .d (.ref stB)), (12, .d got), (15, .d (I' ((p.length : Int) - 1))), (24, .d st0), (25, .d n), (26, .d i)] [.arrD 1 true (aR a), .mp (mk (fx 0 (p ++ suf)))]) =
      some (.out (.exit 2) [(0, .d sl0), (3, .asl 0 0 a.length), (4, .mp 1), (11, .d (.ref stB)), (12, .d got), (24, .d st0), (25, .d n), (26, .d i)] [.arrD 1 true (aR a), .mp (mk (fx 0 (clr t p ++ suf)))]) := by
  intro m
  induction m with
  | zero =>
    intro p suf hm he hl
    obtain rfl : p = [] := List.length_eq_zero_iff.1 hm.symm
    rw [ev_loop]
    conv => lhs; arg 4; unfold F_nurserylaw17_RwlockFair_L0
    simp [clr, reachC, cut, rg2, rg3, List.idxOf_cons]
  | succ m ih =>
    intro p suf hm he hl
    have hp : p ≠ [] := fun h => by rw [h] at hm; simp at hm
    obtain ⟨p', x, rfl⟩ : ∃ p' x, p = p' ++ [x] := ⟨p.dropLast, p.getLast hp, (List.dropLast_concat_getLast hp).symm⟩
    have hm' : m = p'.length := by simp at hm; omega
    have ih' := ih p' (x :: suf) hm' (by simpa using he) (by simpa using hl)
    have hnext : IntKind.i64.wrap ((p'.length : Int) - 1) = p'.length - 1 := wrap_i64 (by omega) (by simp at hl; omega)
    have hge : (0 : Int) ≤ p'.length := by omega
    have hlt : p'.length < a.length := by simp at hl; omega
    have hgt : (aR a)[p'.length]? = some [I' x.1] := by rw [he]; simp [aR, rows1]
    have hat := fx_at p' suf x
    have hdel := fx_erase p' suf t
    have hcl : ¬ (x.2 = true ∧ x.1 = t) → clr t (p' ++ [x]) ++ suf = clr t p' ++ x :: suf := fun h => by rw [clr_snoc_miss t x h]; simp
    have hch : (x.2 = true ∧ x.1 = t) → clr t (p' ++ [x]) ++ suf = p' ++ (t, false) :: suf := fun h => by
      obtain ⟨x1, x2⟩ := x
      simp at h
      obtain ⟨rfl, rfl⟩ := h
      rw [clr_snoc_hit]; simp
    have hlen : (((p' ++ [x]).length : Int) - 1) = p'.length := by simp
    have e1 : p' ++ [x] ++ suf = p' ++ x :: suf := by simp
    rw [hlen, e1]
    obtain ⟨x1, x2⟩ := x
    simp only at hgt hat hcl hch
    rw [ev_loop]
    conv => lhs; arg 4; unfold F_nurserylaw17_RwlockFair_L0
    by_cases h1 : x1 = t
    · subst h1
      cases x2
      · rw [hcl (by simp)]
        simp [-mgetV, -mputH, -mdelH, mget_mk, hge, hlt, hgt, hat, hnext, reachC, cut, rg2, rg3, List.idxOf_cons]
        exact ih'
      · rw [hch (by simp)]
        simp [-mgetV, -mputH, -mdelH, mget_mk, mdel_mk, hge, hlt, hgt, hat, hdel, hnext, reachC, cut, rg2, rg3, List.idxOf_cons]
    · have h1' : (x1 == t) = false := by simpa using h1
      rw [hcl (by simp [h1])]
      simp [-mgetV, -mputH, -mdelH, mget_mk, hge, hlt, hgt, hat, h1', hnext, reachC, cut, rg2, rg3, List.idxOf_cons]
      exact ih'
def oV : List Int → V
  | [] => .d (.sl 1 true [])
  | g => .asl 2 0 g.length
/-- who is still to be served, in order -/
theorem loop_F1 (st0 sl0 got n i : D) (stB : List D) (a : Arr) (hn : a.length ≤ 1000) : ∀ (suf p : Arr), a = p ++ suf →
    ev P (.loop 0 [0, 3, 4, 11, 12, 16, 24, 25, 26, 118, 119, 120] F_nurserylaw17_RwlockFair_L1 [(0, .d sl0), (3, .asl 0 0 a.length), (4, .mp 1), (11, .d (.ref stB)), (12, .d got), (16, oV (ord p)), (24, .d st0), (25, .d n), (26, .d i), (118, .asl 0 0 a.length), (119, .d (I' a.length)), (120, .d (I' p.length))] (.arrD 1 true (aR a) :: .mp (mk (fx 0 a)) :: gO (ord p))) =
      some (.out (.exit 4) [(0, .d sl0), (3, .asl 0 0 a.length), (4, .mp 1), (11, .d (.ref stB)), (12, .d got), (16, oV (ord a)), (24, .d st0), (25, .d n), (26, .d i)] (.arrD 1 true (aR a) :: .mp (mk (fx 0 a)) :: gO (ord a))) := by
  intro suf
  induction suf with
  | nil =>
    intro p hl
    have : a.length = p.length := by simp [hl]
    have e : a = p := by simpa using hl
    rw [ev_loop]
    conv => lhs; arg 4; unfold F_nurserylaw17_RwlockFair_L1
    rw [e]
    cases ord p <;> simp [oV, gO, reachC, cut, rg2, rg3, List.idxOf_cons]
  | cons x suf ih =>
    intro p hl
    have hgt : (aR a)[p.length]? = some [I' x.1] := by rw [hl]; simp [aR, rows1]
    have hpl : p.length < a.length := by simp [hl]
    have hlt : (p.length : Int) < a.length := by omega
    have hnext : IntKind.i64.wrap ((p.length : Int) + 1) = p.length + 1 := wrap_i64 (by omega) (by omega)
    have r1 : 1 ≤ room := by decide
    have hat : decide ((p.length : Int) ∈ fx 0 a) = x.2 := by rw [hl]; exact fx_at p suf x
    have ih' := ih (p ++ [x]) (by simp [hl])
    have hop : ord (p ++ [x]) = if x.2 = true then ord p ++ [x.1] else ord p := by
      rw [ord_append, ord_cons]
      split <;> simp [ord]
    have hol : (ord p).length ≤ p.length := by unfold ord; rw [List.length_map]; exact List.length_filter_le _ _
    rw [hop] at ih'
    generalize some (Res.out (.exit 4) [(0, .d sl0), (3, .asl 0 0 a.length), (4, .mp 1), (11, .d (.ref stB)), (12, .d got), (16, oV (ord a)), (24, .d st0), (25, .d n), (26, .d i)] (.arrD 1 true (aR a) :: .mp (mk (fx 0 a)) :: gO (ord a))) = RR at *
    rw [ev_loop]
    conv => lhs; arg 4; unfold F_nurserylaw17_RwlockFair_L1
    generalize hO : ord p = O at *
    obtain ⟨x1, x2⟩ := x
    simp only at hgt hat ih'
    cases x2 with
    | false =>
      cases O with
      | nil =>
        simp [oV, gO] at ih'
        simp [-mgetV, mget_mk, hlt, hpl, hgt, hat, hnext, oV, gO, reachC, cut, rg2, rg3, List.idxOf_cons]
        exact ih'
      | cons y O =>
        simp [oV, gO] at ih'
        simp [-mgetV, mget_mk, hlt, hpl, hgt, hat, hnext, oV, gO, reachC, cut, rg2, rg3, List.idxOf_cons]
        exact ih'
    | true =>
      cases O with
      | nil =>
        simp [oV, gO] at ih'
        simp [-mgetV, mget_mk, hlt, hpl, hgt, hat, hnext, r1, oV, gO, Nat.not_succ_le_self, take_map_len, reachC, cut, rg2, rg3, List.idxOf_cons]
        exact ih'
      | cons y O =>
        have hr : O.length + 1 + 1 ≤ room := by simp at hol; unfold room; omega
        simp [oV, gO] at ih'
        simp [-mgetV, mget_mk, hlt, hpl, hgt, hat, hnext, hr, oV, gO, Nat.not_succ_le_self, take_map_len, reachC, cut, rg2, rg3, List.idxOf_cons]
        exact ih'
end Go.VS.R
namespace Go.VS.R
theorem playS_append : ∀ (l m : List (Int × Int)) (s : PS), playS s (l ++ m) = playS (playS s l) m
  | [], _, _ => rfl
  | x :: r, m, s => playS_append r m (stp s (x.1.tmod 4) (x.2.tmod 4))
def aV : Arr → V
  | [] => .d (.sl 1 true [])
  | a => .asl 0 0 a.length
def aM : Arr → V
  | [] => .mp 0
  | _ => .mp 1
def aO : Arr → List O
  | [] => [.mp []]
  | a => [.arrD 1 true (aR a), .mp (mk (fx 0 a))]
def fairQ (ln : Bool) (l : List (Int × Int)) (i : Int) (a : Arr) : Req :=
  .loop 0 [0, 3, 4, 24, 25, 26] F_nurserylaw17_RwlockFair_L2 [(0, .d (.sl 2 ln (l.map urow))), (3, aV a), (4, aM a), (24, .d (.sl 2 ln (l.map urow))), (25, .d (I' l.length)), (26, .d (I' i))] (aO a)
theorem loop_F1e (st0 sl0 got n i : D) (stB : List D) :
    ev P (.loop 0 [0, 3, 4, 11, 12, 16, 24, 25, 26, 118, 119, 120] F_nurserylaw17_RwlockFair_L1 [(0, .d sl0), (3, .d (.sl 1 true [])), (4, .mp 0), (11, .d (.ref stB)), (12, .d got), (16, .d (.sl 1 true [])), (24, .d st0), (25, .d n), (26, .d i), (118, .d (.sl 1 true [])), (119, .d (I' 0)), (120, .d (I' 0))] [.mp []]) =
      some (.out (.exit 4) [(0, .d sl0), (3, .d (.sl 1 true [])), (4, .mp 0), (11, .d (.ref stB)), (12, .d got), (16, .d (.sl 1 true [])), (24, .d st0), (25, .d n), (26, .d i)] [.mp []]) := by
  rw [ev_loop]
  conv => lhs; arg 4; unfold F_nurserylaw17_RwlockFair_L1
  simp [reachC, cut, rg2, rg3, List.idxOf_cons]
/-- what is known at a step -/
structure FS (ln : Bool) (l : List (Int × Int)) (i : Nat) (b kb t kd : Int) (s s' : PS) (a : Arr) (gn hf qf bf cf hf' qf' bf' cf' : Bool) : Prop where
  hn : l.length ≤ 24
  hb : 0 ≤ b ∧ b ≤ 255
  hkb : 0 ≤ kb ∧ kb ≤ 255
  hgt : l[i]? = some (b, kb)
  ht : b.tmod 4 = t
  hk : kb.tmod 4 = kd
  Q : s.Q.length ≤ 100
  Q' : s'.Q.length ≤ 100
  H : s.H.length ≤ 100
  al : a.length ≤ i
  g : s'.got.length ≤ 10000
  e1 : ∃ gg, ev P (.call nurserylaw17_play [.d (.sl 2 ln ((l.map urow).take i))] []) = some (.val (.tu [.d (.ag [I' s.own, I' 0, I' 0, hD hf s.H, qD qf s.Q, hD bf [], cD cf [], .b false, I' 0]), .d gg, .d (.b true)]) [])
  e2 : ev P (.call nurserylaw17_play [.d (.sl 2 ln ((l.map urow).take (i + 1)))] []) = some (.val (.tu [.d (.ag [I' s'.own, I' 0, I' 0, hD hf' s'.H, qD qf' s'.Q, hD bf' [], cD cf' [], .b false, I' 0]), .d (hD gn s'.got), .d (.b true)]) [])
theorem tk_rows (g O : List Int) : List.take g.length (rows1 O) = rows1 (O.take g.length) := by simp [rows1, List.map_take]
theorem fair_n1 {ln : Bool} {l : List (Int × Int)} {i : Nat} {b kb t kd : Int} {s s' : PS} {a : Arr} {gn hf qf bf cf hf' qf' bf' cf' : Bool} (h : FS ln l i b kb t kd s s' a gn hf qf bf cf hf' qf' bf' cf') (c1 : decide (kd < 2) = true) (c2 : (kd == 3) = false) (c3 : (s.Q.any fun w => w.task == t) = true)
    (ha : a = []) (ho : ord a = s'.got ++ s'.Q.map W.task) : ev P (fairQ ln l i a) = ev P (fairQ ln l (i + 1) a) := by
  obtain ⟨hn, hb, hkb, hgt, ht, hk, hQ, hQ', hH, hal, hg, ⟨gg, e1⟩, e2⟩ := h
  have hpl : i < l.length := (List.getElem?_eq_some_iff.1 hgt).1
  have hlt : (i : Int) < l.length := by omega
  have hple : i ≤ l.length := by omega
  have hi0 : (0 : Int) ≤ (i : Int) + 1 := by omega
  have hi1 : (i : Int) + 1 ≤ l.length := by omega
  have w0 : IntKind.i64.wrap 0 = 0 := rfl
  have hnext : IntKind.i64.wrap ((i : Int) + 1) = i + 1 := wrap_i64 (by omega) (by omega)
  have wb : IntKind.i64.wrap b = b := wrap_i64 (by omega) (by omega)
  have hC := ev_C1 t (I' s.own) (I' 0) (I' 0) (hD hf s.H) (hD bf []) (cD cf []) (.b false) (I' 0) qf s.Q (by omega)
  have hC' := ev_C1 t (I' s'.own) (I' 0) (I' 0) (hD hf' s'.H) (hD bf' []) (cD cf' []) (.b false) (I' 0) qf' s'.Q (by omega)
  have hHo := ev_Holds s.own (I' 0) (I' 0) (qD qf s.Q) (hD bf []) (cD cf []) (.b false) (I' 0) hf s.H t (by omega)
  have hgl : s'.got.length ≤ (ord a).length := by rw [ho]; simp
  have hlen : (ord a).length = s'.got.length + s'.Q.length := by rw [ho]; simp
  have hEt : (s'.got == (ord a).take s'.got.length) = true := by rw [ho]; simp
  generalize hh : hld s.own s.H t = hd at *
  generalize hw1 : (s.Q.any fun w => w.task == t) = w1 at *
  generalize hw2 : (s'.Q.any fun w => w.task == t) = w2 at *
  unfold fairQ
  conv => lhs; rw [ev_loop]
  generalize hR : ev P (.loop 0 [0, 3, 4, 24, 25, 26] F_nurserylaw17_RwlockFair_L2 [(0, .d (.sl 2 ln (l.map urow))), (3, aV a), (4, aM a), (24, .d (.sl 2 ln (l.map urow))), (25, .d (I' l.length)), (26, .d (I' (i + 1)))] (aO a)) = R at *
  conv => lhs; arg 4; unfold F_nurserylaw17_RwlockFair_L2
  subst ha
  have hO : ord ([] : Arr) = [] := rfl
  rw [hO] at hgl hlen
  have hg0 : s'.got = [] := by simpa using hgl
  have hq0 : s'.Q = [] := List.length_eq_zero_iff.1 (by simp [hg0] at hlen; omega)
  have hL := loop_F1e (.sl 2 ln (l.map urow)) (.sl 2 ln (l.map urow)) (hD gn s'.got) (I' l.length) (I' i) [I' s'.own, I' 0, I' 0, hD hf' s'.H, qD qf' s'.Q, hD bf' [], cD cf' [], .b false, I' 0]

  rw [hg0, hq0] at hL
  have hE : ev P (.call slices_Equal_int_int [.d (hD gn []), .d (.sl 1 true [])] []) = some (.val (.d (.b true)) []) := ev_Equal gn true [] [] (by simp)
  simp [c1, c2, c3, aV, aM, aO, hL, hE, hg0, hq0, hlt, hple, hi0, hi1, hgt, urow, wb, ht, hk, e1, e2, hC, hC', hHo, hh, hw1, hw2, hnext, w0, V.same_self, thaw, freezeAll, freeze1, reachC, cut, rg2, rg3, rg4, List.idxOf_cons]
  exact hR
theorem fair_n2 {ln : Bool} {l : List (Int × Int)} {i : Nat} {b kb t kd : Int} {s s' : PS} {a : Arr} {gn hf qf bf cf hf' qf' bf' cf' : Bool} (h : FS ln l i b kb t kd s s' a gn hf qf bf cf hf' qf' bf' cf') (c1 : decide (kd < 2) = true) (c2 : (kd == 3) = false) (c3 : (s.Q.any fun w => w.task == t) = false) (c4 : (hld s.own s.H t == 0) = false)
    (ha : a = []) (ho : ord a = s'.got ++ s'.Q.map W.task) : ev P (fairQ ln l i a) = ev P (fairQ ln l (i + 1) a) := by
  obtain ⟨hn, hb, hkb, hgt, ht, hk, hQ, hQ', hH, hal, hg, ⟨gg, e1⟩, e2⟩ := h
  have hpl : i < l.length := (List.getElem?_eq_some_iff.1 hgt).1
  have hlt : (i : Int) < l.length := by omega
  have hple : i ≤ l.length := by omega
  have hi0 : (0 : Int) ≤ (i : Int) + 1 := by omega
  have hi1 : (i : Int) + 1 ≤ l.length := by omega
  have w0 : IntKind.i64.wrap 0 = 0 := rfl
  have hnext : IntKind.i64.wrap ((i : Int) + 1) = i + 1 := wrap_i64 (by omega) (by omega)
  have wb : IntKind.i64.wrap b = b := wrap_i64 (by omega) (by omega)
  have hC := ev_C1 t (I' s.own) (I' 0) (I' 0) (hD hf s.H) (hD bf []) (cD cf []) (.b false) (I' 0) qf s.Q (by omega)
  have hC' := ev_C1 t (I' s'.own) (I' 0) (I' 0) (hD hf' s'.H) (hD bf' []) (cD cf' []) (.b false) (I' 0) qf' s'.Q (by omega)
  have hHo := ev_Holds s.own (I' 0) (I' 0) (qD qf s.Q) (hD bf []) (cD cf []) (.b false) (I' 0) hf s.H t (by omega)
  have hgl : s'.got.length ≤ (ord a).length := by rw [ho]; simp
  have hlen : (ord a).length = s'.got.length + s'.Q.length := by rw [ho]; simp
  have hEt : (s'.got == (ord a).take s'.got.length) = true := by rw [ho]; simp
  generalize hh : hld s.own s.H t = hd at *
  generalize hw1 : (s.Q.any fun w => w.task == t) = w1 at *
  generalize hw2 : (s'.Q.any fun w => w.task == t) = w2 at *
  unfold fairQ
  conv => lhs; rw [ev_loop]
  generalize hR : ev P (.loop 0 [0, 3, 4, 24, 25, 26] F_nurserylaw17_RwlockFair_L2 [(0, .d (.sl 2 ln (l.map urow))), (3, aV a), (4, aM a), (24, .d (.sl 2 ln (l.map urow))), (25, .d (I' l.length)), (26, .d (I' (i + 1)))] (aO a)) = R at *
  conv => lhs; arg 4; unfold F_nurserylaw17_RwlockFair_L2
  subst ha
  have hO : ord ([] : Arr) = [] := rfl
  rw [hO] at hgl hlen
  have hg0 : s'.got = [] := by simpa using hgl
  have hq0 : s'.Q = [] := List.length_eq_zero_iff.1 (by simp [hg0] at hlen; omega)
  have hL := loop_F1e (.sl 2 ln (l.map urow)) (.sl 2 ln (l.map urow)) (hD gn s'.got) (I' l.length) (I' i) [I' s'.own, I' 0, I' 0, hD hf' s'.H, qD qf' s'.Q, hD bf' [], cD cf' [], .b false, I' 0]

  rw [hg0, hq0] at hL
  have hE : ev P (.call slices_Equal_int_int [.d (hD gn []), .d (.sl 1 true [])] []) = some (.val (.d (.b true)) []) := ev_Equal gn true [] [] (by simp)
  simp [c1, c2, c3, c4, aV, aM, aO, hL, hE, hg0, hq0, hlt, hple, hi0, hi1, hgt, urow, wb, ht, hk, e1, e2, hC, hC', hHo, hh, hw1, hw2, hnext, w0, V.same_self, thaw, freezeAll, freeze1, reachC, cut, rg2, rg3, rg4, List.idxOf_cons]
  exact hR
theorem fair_n3 {ln : Bool} {l : List (Int × Int)} {i : Nat} {b kb t kd : Int} {s s' : PS} {a : Arr} {gn hf qf bf cf hf' qf' bf' cf' : Bool} (h : FS ln l i b kb t kd s s' a gn hf qf bf cf hf' qf' bf' cf') (c1 : decide (kd < 2) = false) (c2 : (kd == 3) = false)
    (ha : a = []) (ho : ord a = s'.got ++ s'.Q.map W.task) : ev P (fairQ ln l i a) = ev P (fairQ ln l (i + 1) a) := by
  obtain ⟨hn, hb, hkb, hgt, ht, hk, hQ, hQ', hH, hal, hg, ⟨gg, e1⟩, e2⟩ := h
  have hpl : i < l.length := (List.getElem?_eq_some_iff.1 hgt).1
  have hlt : (i : Int) < l.length := by omega
  have hple : i ≤ l.length := by omega
  have hi0 : (0 : Int) ≤ (i : Int) + 1 := by omega
  have hi1 : (i : Int) + 1 ≤ l.length := by omega
  have w0 : IntKind.i64.wrap 0 = 0 := rfl
  have hnext : IntKind.i64.wrap ((i : Int) + 1) = i + 1 := wrap_i64 (by omega) (by omega)
  have wb : IntKind.i64.wrap b = b := wrap_i64 (by omega) (by omega)
  have hC := ev_C1 t (I' s.own) (I' 0) (I' 0) (hD hf s.H) (hD bf []) (cD cf []) (.b false) (I' 0) qf s.Q (by omega)
  have hC' := ev_C1 t (I' s'.own) (I' 0) (I' 0) (hD hf' s'.H) (hD bf' []) (cD cf' []) (.b false) (I' 0) qf' s'.Q (by omega)
  have hHo := ev_Holds s.own (I' 0) (I' 0) (qD qf s.Q) (hD bf []) (cD cf []) (.b false) (I' 0) hf s.H t (by omega)
  have hgl : s'.got.length ≤ (ord a).length := by rw [ho]; simp
  have hlen : (ord a).length = s'.got.length + s'.Q.length := by rw [ho]; simp
  have hEt : (s'.got == (ord a).take s'.got.length) = true := by rw [ho]; simp
  generalize hh : hld s.own s.H t = hd at *
  generalize hw1 : (s.Q.any fun w => w.task == t) = w1 at *
  generalize hw2 : (s'.Q.any fun w => w.task == t) = w2 at *
  unfold fairQ
  conv => lhs; rw [ev_loop]
  generalize hR : ev P (.loop 0 [0, 3, 4, 24, 25, 26] F_nurserylaw17_RwlockFair_L2 [(0, .d (.sl 2 ln (l.map urow))), (3, aV a), (4, aM a), (24, .d (.sl 2 ln (l.map urow))), (25, .d (I' l.length)), (26, .d (I' (i + 1)))] (aO a)) = R at *
  conv => lhs; arg 4; unfold F_nurserylaw17_RwlockFair_L2
  subst ha
  have hO : ord ([] : Arr) = [] := rfl
  rw [hO] at hgl hlen
  have hg0 : s'.got = [] := by simpa using hgl
  have hq0 : s'.Q = [] := List.length_eq_zero_iff.1 (by simp [hg0] at hlen; omega)
  have hL := loop_F1e (.sl 2 ln (l.map urow)) (.sl 2 ln (l.map urow)) (hD gn s'.got) (I' l.length) (I' i) [I' s'.own, I' 0, I' 0, hD hf' s'.H, qD qf' s'.Q, hD bf' [], cD cf' [], .b false, I' 0]

  rw [hg0, hq0] at hL
  have hE : ev P (.call slices_Equal_int_int [.d (hD gn []), .d (.sl 1 true [])] []) = some (.val (.d (.b true)) []) := ev_Equal gn true [] [] (by simp)
  simp [c1, c2, aV, aM, aO, hL, hE, hg0, hq0, hlt, hple, hi0, hi1, hgt, urow, wb, ht, hk, e1, e2, hC, hC', hHo, hh, hw1, hw2, hnext, w0, V.same_self, thaw, freezeAll, freeze1, reachC, cut, rg2, rg3, rg4, List.idxOf_cons]
  exact hR
theorem fair_n4 {ln : Bool} {l : List (Int × Int)} {i : Nat} {b kb t kd : Int} {s s' : PS} {a : Arr} {gn hf qf bf cf hf' qf' bf' cf' : Bool} (h : FS ln l i b kb t kd s s' a gn hf qf bf cf hf' qf' bf' cf') (c1 : decide (kd < 2) = false) (c2 : (kd == 3) = true) (c3 : (s.Q.any fun w => w.task == t) = false)
    (ha : a = []) (ho : ord a = s'.got ++ s'.Q.map W.task) : ev P (fairQ ln l i a) = ev P (fairQ ln l (i + 1) a) := by
  obtain ⟨hn, hb, hkb, hgt, ht, hk, hQ, hQ', hH, hal, hg, ⟨gg, e1⟩, e2⟩ := h
  have hpl : i < l.length := (List.getElem?_eq_some_iff.1 hgt).1
  have hlt : (i : Int) < l.length := by omega
  have hple : i ≤ l.length := by omega
  have hi0 : (0 : Int) ≤ (i : Int) + 1 := by omega
  have hi1 : (i : Int) + 1 ≤ l.length := by omega
  have w0 : IntKind.i64.wrap 0 = 0 := rfl
  have hnext : IntKind.i64.wrap ((i : Int) + 1) = i + 1 := wrap_i64 (by omega) (by omega)
  have wb : IntKind.i64.wrap b = b := wrap_i64 (by omega) (by omega)
  have hC := ev_C1 t (I' s.own) (I' 0) (I' 0) (hD hf s.H) (hD bf []) (cD cf []) (.b false) (I' 0) qf s.Q (by omega)
  have hC' := ev_C1 t (I' s'.own) (I' 0) (I' 0) (hD hf' s'.H) (hD bf' []) (cD cf' []) (.b false) (I' 0) qf' s'.Q (by omega)
  have hHo := ev_Holds s.own (I' 0) (I' 0) (qD qf s.Q) (hD bf []) (cD cf []) (.b false) (I' 0) hf s.H t (by omega)
  have hgl : s'.got.length ≤ (ord a).length := by rw [ho]; simp
  have hlen : (ord a).length = s'.got.length + s'.Q.length := by rw [ho]; simp
  have hEt : (s'.got == (ord a).take s'.got.length) = true := by rw [ho]; simp
  generalize hh : hld s.own s.H t = hd at *
  generalize hw1 : (s.Q.any fun w => w.task == t) = w1 at *
  generalize hw2 : (s'.Q.any fun w => w.task == t) = w2 at *
  unfold fairQ
  conv => lhs; rw [ev_loop]
  generalize hR : ev P (.loop 0 [0, 3, 4, 24, 25, 26] F_nurserylaw17_RwlockFair_L2 [(0, .d (.sl 2 ln (l.map urow))), (3, aV a), (4, aM a), (24, .d (.sl 2 ln (l.map urow))), (25, .d (I' l.length)), (26, .d (I' (i + 1)))] (aO a)) = R at *
  conv => lhs; arg 4; unfold F_nurserylaw17_RwlockFair_L2
  subst ha
  have hO : ord ([] : Arr) = [] := rfl
  rw [hO] at hgl hlen
  have hg0 : s'.got = [] := by simpa using hgl
  have hq0 : s'.Q = [] := List.length_eq_zero_iff.1 (by simp [hg0] at hlen; omega)
  have hL := loop_F1e (.sl 2 ln (l.map urow)) (.sl 2 ln (l.map urow)) (hD gn s'.got) (I' l.length) (I' i) [I' s'.own, I' 0, I' 0, hD hf' s'.H, qD qf' s'.Q, hD bf' [], cD cf' [], .b false, I' 0]

  rw [hg0, hq0] at hL
  have hE : ev P (.call slices_Equal_int_int [.d (hD gn []), .d (.sl 1 true [])] []) = some (.val (.d (.b true)) []) := ev_Equal gn true [] [] (by simp)
  simp [c1, c2, c3, aV, aM, aO, hL, hE, hg0, hq0, hlt, hple, hi0, hi1, hgt, urow, wb, ht, hk, e1, e2, hC, hC', hHo, hh, hw1, hw2, hnext, w0, V.same_self, thaw, freezeAll, freeze1, reachC, cut, rg2, rg3, rg4, List.idxOf_cons]
  exact hR
theorem fair_n5 {ln : Bool} {l : List (Int × Int)} {i : Nat} {b kb t kd : Int} {s s' : PS} {a : Arr} {gn hf qf bf cf hf' qf' bf' cf' : Bool} (h : FS ln l i b kb t kd s s' a gn hf qf bf cf hf' qf' bf' cf') (c1 : decide (kd < 2) = false) (c2 : (kd == 3) = true) (c3 : (s.Q.any fun w => w.task == t) = true) (c4 : (s'.Q.any fun w => w.task == t) = true)
    (ha : a = []) (ho : ord a = s'.got ++ s'.Q.map W.task) : ev P (fairQ ln l i a) = ev P (fairQ ln l (i + 1) a) := by
  obtain ⟨hn, hb, hkb, hgt, ht, hk, hQ, hQ', hH, hal, hg, ⟨gg, e1⟩, e2⟩ := h
  have hpl : i < l.length := (List.getElem?_eq_some_iff.1 hgt).1
  have hlt : (i : Int) < l.length := by omega
  have hple : i ≤ l.length := by omega
  have hi0 : (0 : Int) ≤ (i : Int) + 1 := by omega
  have hi1 : (i : Int) + 1 ≤ l.length := by omega
  have w0 : IntKind.i64.wrap 0 = 0 := rfl
  have hnext : IntKind.i64.wrap ((i : Int) + 1) = i + 1 := wrap_i64 (by omega) (by omega)
  have wb : IntKind.i64.wrap b = b := wrap_i64 (by omega) (by omega)
  have hC := ev_C1 t (I' s.own) (I' 0) (I' 0) (hD hf s.H) (hD bf []) (cD cf []) (.b false) (I' 0) qf s.Q (by omega)
  have hC' := ev_C1 t (I' s'.own) (I' 0) (I' 0) (hD hf' s'.H) (hD bf' []) (cD cf' []) (.b false) (I' 0) qf' s'.Q (by omega)
  have hHo := ev_Holds s.own (I' 0) (I' 0) (qD qf s.Q) (hD bf []) (cD cf []) (.b false) (I' 0) hf s.H t (by omega)
  have hgl : s'.got.length ≤ (ord a).length := by rw [ho]; simp
  have hlen : (ord a).length = s'.got.length + s'.Q.length := by rw [ho]; simp
  have hEt : (s'.got == (ord a).take s'.got.length) = true := by rw [ho]; simp
  generalize hh : hld s.own s.H t = hd at *
  generalize hw1 : (s.Q.any fun w => w.task == t) = w1 at *
  generalize hw2 : (s'.Q.any fun w => w.task == t) = w2 at *
  unfold fairQ
  conv => lhs; rw [ev_loop]
  generalize hR : ev P (.loop 0 [0, 3, 4, 24, 25, 26] F_nurserylaw17_RwlockFair_L2 [(0, .d (.sl 2 ln (l.map urow))), (3, aV a), (4, aM a), (24, .d (.sl 2 ln (l.map urow))), (25, .d (I' l.length)), (26, .d (I' (i + 1)))] (aO a)) = R at *
  conv => lhs; arg 4; unfold F_nurserylaw17_RwlockFair_L2
  subst ha
  have hO : ord ([] : Arr) = [] := rfl
  rw [hO] at hgl hlen
  have hg0 : s'.got = [] := by simpa using hgl
  have hq0 : s'.Q = [] := List.length_eq_zero_iff.1 (by simp [hg0] at hlen; omega)
  have hL := loop_F1e (.sl 2 ln (l.map urow)) (.sl 2 ln (l.map urow)) (hD gn s'.got) (I' l.length) (I' i) [I' s'.own, I' 0, I' 0, hD hf' s'.H, qD qf' s'.Q, hD bf' [], cD cf' [], .b false, I' 0]
  exfalso; rw [hq0] at hw2; rw [← hw2] at c4; cases c4
theorem fair_c1 {ln : Bool} {l : List (Int × Int)} {i : Nat} {b kb t kd : Int} {s s' : PS} {a : Arr} {gn hf qf bf cf hf' qf' bf' cf' : Bool} {a0 : Int × Bool} {ar : Arr} (h : FS ln l i b kb t kd s s' a gn hf qf bf cf hf' qf' bf' cf') (c1 : decide (kd < 2) = true) (c2 : (kd == 3) = false) (c3 : (s.Q.any fun w => w.task == t) = true)
    (ha : a = a0 :: ar) (ho : ord a = s'.got ++ s'.Q.map W.task) : ev P (fairQ ln l i a) = ev P (fairQ ln l (i + 1) a) := by
  obtain ⟨hn, hb, hkb, hgt, ht, hk, hQ, hQ', hH, hal, hg, ⟨gg, e1⟩, e2⟩ := h
  have hpl : i < l.length := (List.getElem?_eq_some_iff.1 hgt).1
  have hlt : (i : Int) < l.length := by omega
  have hple : i ≤ l.length := by omega
  have hi0 : (0 : Int) ≤ (i : Int) + 1 := by omega
  have hi1 : (i : Int) + 1 ≤ l.length := by omega
  have w0 : IntKind.i64.wrap 0 = 0 := rfl
  have hnext : IntKind.i64.wrap ((i : Int) + 1) = i + 1 := wrap_i64 (by omega) (by omega)
  have wb : IntKind.i64.wrap b = b := wrap_i64 (by omega) (by omega)
  have hC := ev_C1 t (I' s.own) (I' 0) (I' 0) (hD hf s.H) (hD bf []) (cD cf []) (.b false) (I' 0) qf s.Q (by omega)
  have hC' := ev_C1 t (I' s'.own) (I' 0) (I' 0) (hD hf' s'.H) (hD bf' []) (cD cf' []) (.b false) (I' 0) qf' s'.Q (by omega)
  have hHo := ev_Holds s.own (I' 0) (I' 0) (qD qf s.Q) (hD bf []) (cD cf []) (.b false) (I' 0) hf s.H t (by omega)
  have hgl : s'.got.length ≤ (ord a).length := by rw [ho]; simp
  have hlen : (ord a).length = s'.got.length + s'.Q.length := by rw [ho]; simp
  have hEt : (s'.got == (ord a).take s'.got.length) = true := by rw [ho]; simp
  generalize hh : hld s.own s.H t = hd at *
  generalize hw1 : (s.Q.any fun w => w.task == t) = w1 at *
  generalize hw2 : (s'.Q.any fun w => w.task == t) = w2 at *
  unfold fairQ
  conv => lhs; rw [ev_loop]
  generalize hR : ev P (.loop 0 [0, 3, 4, 24, 25, 26] F_nurserylaw17_RwlockFair_L2 [(0, .d (.sl 2 ln (l.map urow))), (3, aV a), (4, aM a), (24, .d (.sl 2 ln (l.map urow))), (25, .d (I' l.length)), (26, .d (I' (i + 1)))] (aO a)) = R at *
  conv => lhs; arg 4; unfold F_nurserylaw17_RwlockFair_L2
  subst ha
  have hL := loop_F1 (.sl 2 ln (l.map urow)) (.sl 2 ln (l.map urow)) (hD gn s'.got) (I' l.length) (I' i) [I' s'.own, I' 0, I' 0, hD hf' s'.H, qD qf' s'.Q, hD bf' [], cD cf' [], .b false, I' 0] (a0 :: ar) (by simp at hal ⊢ <;> omega) (a0 :: ar) [] rfl
  have hO0 : ord ([] : Arr) = [] := rfl
  rw [hO0] at hL
  generalize ord (a0 :: ar) = OO at *
  cases OO with
  | nil =>
    have hg0 : s'.got = [] := by simpa using hgl
    have hq0 : s'.Q = [] := List.length_eq_zero_iff.1 (by simp [hg0] at hlen; omega)
    rw [hg0, hq0] at hL
    have hE1 : ev P (.call slices_Equal_int_int [.d (hD gn []), .d (.sl 1 true [])] []) = some (.val (.d (.b true)) []) := ev_Equal gn true [] [] (by simp)
    simp [oV, gO, aR] at hL
    simp [c1, c2, c3, aV, aM, aO, aR, hL, hE1, hg0, hq0, hlt, hple, hi0, hi1, hgt, urow, wb, ht, hk, e1, e2, hC, hC', hHo, hh, hw1, hw2, hnext, w0, V.same_self, thaw, freezeAll, freeze1, reachC, cut, rg2, rg3, rg4, List.idxOf_cons]
    simp [aV, aM, aO, aR] at hR
    exact hR
  | cons y OO =>
    have hE2 := ev_Equal gn false s'.got ((y :: OO).take s'.got.length) (by omega)
    rw [hEt] at hE2
    simp only [hD, rows1, List.map_take, List.map_cons] at hE2
    simp only [List.length_cons] at hgl hlen
    have hql : (s'.Q.length : Int) = (OO.length : Int) + 1 - s'.got.length := by omega
    have hngt : ¬ (OO.length : Int) + 1 < s'.got.length := by omega
    have hgle : (s'.got.length : Int) ≤ (OO.length : Int) + 1 := by omega
    have hwr : IntKind.i64.wrap ((OO.length : Int) + 1 - s'.got.length) = (OO.length : Int) + 1 - s'.got.length := wrap_i64 (by omega) (by omega)
    simp [oV, gO, aR] at hL
    simp [c1, c2, c3, aV, aM, aO, aR, hL, hE2, hql, hngt, hwr, hgle, take_map_len, hlt, hple, hi0, hi1, hgt, urow, wb, ht, hk, e1, e2, hC, hC', hHo, hh, hw1, hw2, hnext, w0, V.same_self, thaw, freezeAll, freeze1, reachC, cut, rg2, rg3, rg4, List.idxOf_cons]
    simp [aV, aM, aO, aR] at hR
    exact hR
theorem fair_c2 {ln : Bool} {l : List (Int × Int)} {i : Nat} {b kb t kd : Int} {s s' : PS} {a : Arr} {gn hf qf bf cf hf' qf' bf' cf' : Bool} {a0 : Int × Bool} {ar : Arr} (h : FS ln l i b kb t kd s s' a gn hf qf bf cf hf' qf' bf' cf') (c1 : decide (kd < 2) = true) (c2 : (kd == 3) = false) (c3 : (s.Q.any fun w => w.task == t) = false) (c4 : (hld s.own s.H t == 0) = false)
    (ha : a = a0 :: ar) (ho : ord a = s'.got ++ s'.Q.map W.task) : ev P (fairQ ln l i a) = ev P (fairQ ln l (i + 1) a) := by
  obtain ⟨hn, hb, hkb, hgt, ht, hk, hQ, hQ', hH, hal, hg, ⟨gg, e1⟩, e2⟩ := h
  have hpl : i < l.length := (List.getElem?_eq_some_iff.1 hgt).1
  have hlt : (i : Int) < l.length := by omega
  have hple : i ≤ l.length := by omega
  have hi0 : (0 : Int) ≤ (i : Int) + 1 := by omega
  have hi1 : (i : Int) + 1 ≤ l.length := by omega
  have w0 : IntKind.i64.wrap 0 = 0 := rfl
  have hnext : IntKind.i64.wrap ((i : Int) + 1) = i + 1 := wrap_i64 (by omega) (by omega)
  have wb : IntKind.i64.wrap b = b := wrap_i64 (by omega) (by omega)
  have hC := ev_C1 t (I' s.own) (I' 0) (I' 0) (hD hf s.H) (hD bf []) (cD cf []) (.b false) (I' 0) qf s.Q (by omega)
  have hC' := ev_C1 t (I' s'.own) (I' 0) (I' 0) (hD hf' s'.H) (hD bf' []) (cD cf' []) (.b false) (I' 0) qf' s'.Q (by omega)
  have hHo := ev_Holds s.own (I' 0) (I' 0) (qD qf s.Q) (hD bf []) (cD cf []) (.b false) (I' 0) hf s.H t (by omega)
  have hgl : s'.got.length ≤ (ord a).length := by rw [ho]; simp
  have hlen : (ord a).length = s'.got.length + s'.Q.length := by rw [ho]; simp
  have hEt : (s'.got == (ord a).take s'.got.length) = true := by rw [ho]; simp
  generalize hh : hld s.own s.H t = hd at *
  generalize hw1 : (s.Q.any fun w => w.task == t) = w1 at *
  generalize hw2 : (s'.Q.any fun w => w.task == t) = w2 at *
  unfold fairQ
  conv => lhs; rw [ev_loop]
  generalize hR : ev P (.loop 0 [0, 3, 4, 24, 25, 26] F_nurserylaw17_RwlockFair_L2 [(0, .d (.sl 2 ln (l.map urow))), (3, aV a), (4, aM a), (24, .d (.sl 2 ln (l.map urow))), (25, .d (I' l.length)), (26, .d (I' (i + 1)))] (aO a)) = R at *
  conv => lhs; arg 4; unfold F_nurserylaw17_RwlockFair_L2
  subst ha
  have hL := loop_F1 (.sl 2 ln (l.map urow)) (.sl 2 ln (l.map urow)) (hD gn s'.got) (I' l.length) (I' i) [I' s'.own, I' 0, I' 0, hD hf' s'.H, qD qf' s'.Q, hD bf' [], cD cf' [], .b false, I' 0] (a0 :: ar) (by simp at hal ⊢ <;> omega) (a0 :: ar) [] rfl
  have hO0 : ord ([] : Arr) = [] := rfl
  rw [hO0] at hL
  generalize ord (a0 :: ar) = OO at *
  cases OO with
  | nil =>
    have hg0 : s'.got = [] := by simpa using hgl
    have hq0 : s'.Q = [] := List.length_eq_zero_iff.1 (by simp [hg0] at hlen; omega)
    rw [hg0, hq0] at hL
    have hE1 : ev P (.call slices_Equal_int_int [.d (hD gn []), .d (.sl 1 true [])] []) = some (.val (.d (.b true)) []) := ev_Equal gn true [] [] (by simp)
    simp [oV, gO, aR] at hL
    simp [c1, c2, c3, c4, aV, aM, aO, aR, hL, hE1, hg0, hq0, hlt, hple, hi0, hi1, hgt, urow, wb, ht, hk, e1, e2, hC, hC', hHo, hh, hw1, hw2, hnext, w0, V.same_self, thaw, freezeAll, freeze1, reachC, cut, rg2, rg3, rg4, List.idxOf_cons]
    simp [aV, aM, aO, aR] at hR
    exact hR
  | cons y OO =>
    have hE2 := ev_Equal gn false s'.got ((y :: OO).take s'.got.length) (by omega)
    rw [hEt] at hE2
    simp only [hD, rows1, List.map_take, List.map_cons] at hE2
    simp only [List.length_cons] at hgl hlen
    have hql : (s'.Q.length : Int) = (OO.length : Int) + 1 - s'.got.length := by omega
    have hngt : ¬ (OO.length : Int) + 1 < s'.got.length := by omega
    have hgle : (s'.got.length : Int) ≤ (OO.length : Int) + 1 := by omega
    have hwr : IntKind.i64.wrap ((OO.length : Int) + 1 - s'.got.length) = (OO.length : Int) + 1 - s'.got.length := wrap_i64 (by omega) (by omega)
    simp [oV, gO, aR] at hL
    simp [c1, c2, c3, c4, aV, aM, aO, aR, hL, hE2, hql, hngt, hwr, hgle, take_map_len, hlt, hple, hi0, hi1, hgt, urow, wb, ht, hk, e1, e2, hC, hC', hHo, hh, hw1, hw2, hnext, w0, V.same_self, thaw, freezeAll, freeze1, reachC, cut, rg2, rg3, rg4, List.idxOf_cons]
    simp [aV, aM, aO, aR] at hR
    exact hR
theorem fair_c3 {ln : Bool} {l : List (Int × Int)} {i : Nat} {b kb t kd : Int} {s s' : PS} {a : Arr} {gn hf qf bf cf hf' qf' bf' cf' : Bool} {a0 : Int × Bool} {ar : Arr} (h : FS ln l i b kb t kd s s' a gn hf qf bf cf hf' qf' bf' cf') (c1 : decide (kd < 2) = false) (c2 : (kd == 3) = false)
    (ha : a = a0 :: ar) (ho : ord a = s'.got ++ s'.Q.map W.task) : ev P (fairQ ln l i a) = ev P (fairQ ln l (i + 1) a) := by
  obtain ⟨hn, hb, hkb, hgt, ht, hk, hQ, hQ', hH, hal, hg, ⟨gg, e1⟩, e2⟩ := h
  have hpl : i < l.length := (List.getElem?_eq_some_iff.1 hgt).1
  have hlt : (i : Int) < l.length := by omega
  have hple : i ≤ l.length := by omega
  have hi0 : (0 : Int) ≤ (i : Int) + 1 := by omega
  have hi1 : (i : Int) + 1 ≤ l.length := by omega
  have w0 : IntKind.i64.wrap 0 = 0 := rfl
  have hnext : IntKind.i64.wrap ((i : Int) + 1) = i + 1 := wrap_i64 (by omega) (by omega)
  have wb : IntKind.i64.wrap b = b := wrap_i64 (by omega) (by omega)
  have hC := ev_C1 t (I' s.own) (I' 0) (I' 0) (hD hf s.H) (hD bf []) (cD cf []) (.b false) (I' 0) qf s.Q (by omega)
  have hC' := ev_C1 t (I' s'.own) (I' 0) (I' 0) (hD hf' s'.H) (hD bf' []) (cD cf' []) (.b false) (I' 0) qf' s'.Q (by omega)
  have hHo := ev_Holds s.own (I' 0) (I' 0) (qD qf s.Q) (hD bf []) (cD cf []) (.b false) (I' 0) hf s.H t (by omega)
  have hgl : s'.got.length ≤ (ord a).length := by rw [ho]; simp
  have hlen : (ord a).length = s'.got.length + s'.Q.length := by rw [ho]; simp
  have hEt : (s'.got == (ord a).take s'.got.length) = true := by rw [ho]; simp
  generalize hh : hld s.own s.H t = hd at *
  generalize hw1 : (s.Q.any fun w => w.task == t) = w1 at *
  generalize hw2 : (s'.Q.any fun w => w.task == t) = w2 at *
  unfold fairQ
  conv => lhs; rw [ev_loop]
  generalize hR : ev P (.loop 0 [0, 3, 4, 24, 25, 26] F_nurserylaw17_RwlockFair_L2 [(0, .d (.sl 2 ln (l.map urow))), (3, aV a), (4, aM a), (24, .d (.sl 2 ln (l.map urow))), (25, .d (I' l.length)), (26, .d (I' (i + 1)))] (aO a)) = R at *
  conv => lhs; arg 4; unfold F_nurserylaw17_RwlockFair_L2
  subst ha
  have hL := loop_F1 (.sl 2 ln (l.map urow)) (.sl 2 ln (l.map urow)) (hD gn s'.got) (I' l.length) (I' i) [I' s'.own, I' 0, I' 0, hD hf' s'.H, qD qf' s'.Q, hD bf' [], cD cf' [], .b false, I' 0] (a0 :: ar) (by simp at hal ⊢ <;> omega) (a0 :: ar) [] rfl
  have hO0 : ord ([] : Arr) = [] := rfl
  rw [hO0] at hL
  generalize ord (a0 :: ar) = OO at *
  cases OO with
  | nil =>
    have hg0 : s'.got = [] := by simpa using hgl
    have hq0 : s'.Q = [] := List.length_eq_zero_iff.1 (by simp [hg0] at hlen; omega)
    rw [hg0, hq0] at hL
    have hE1 : ev P (.call slices_Equal_int_int [.d (hD gn []), .d (.sl 1 true [])] []) = some (.val (.d (.b true)) []) := ev_Equal gn true [] [] (by simp)
    simp [oV, gO, aR] at hL
    simp [c1, c2, aV, aM, aO, aR, hL, hE1, hg0, hq0, hlt, hple, hi0, hi1, hgt, urow, wb, ht, hk, e1, e2, hC, hC', hHo, hh, hw1, hw2, hnext, w0, V.same_self, thaw, freezeAll, freeze1, reachC, cut, rg2, rg3, rg4, List.idxOf_cons]
    simp [aV, aM, aO, aR] at hR
    exact hR
  | cons y OO =>
    have hE2 := ev_Equal gn false s'.got ((y :: OO).take s'.got.length) (by omega)
    rw [hEt] at hE2
    simp only [hD, rows1, List.map_take, List.map_cons] at hE2
    simp only [List.length_cons] at hgl hlen
    have hql : (s'.Q.length : Int) = (OO.length : Int) + 1 - s'.got.length := by omega
    have hngt : ¬ (OO.length : Int) + 1 < s'.got.length := by omega
    have hgle : (s'.got.length : Int) ≤ (OO.length : Int) + 1 := by omega
    have hwr : IntKind.i64.wrap ((OO.length : Int) + 1 - s'.got.length) = (OO.length : Int) + 1 - s'.got.length := wrap_i64 (by omega) (by omega)
    simp [oV, gO, aR] at hL
    simp [c1, c2, aV, aM, aO, aR, hL, hE2, hql, hngt, hwr, hgle, take_map_len, hlt, hple, hi0, hi1, hgt, urow, wb, ht, hk, e1, e2, hC, hC', hHo, hh, hw1, hw2, hnext, w0, V.same_self, thaw, freezeAll, freeze1, reachC, cut, rg2, rg3, rg4, List.idxOf_cons]
    simp [aV, aM, aO, aR] at hR
    exact hR
theorem fair_c4 {ln : Bool} {l : List (Int × Int)} {i : Nat} {b kb t kd : Int} {s s' : PS} {a : Arr} {gn hf qf bf cf hf' qf' bf' cf' : Bool} {a0 : Int × Bool} {ar : Arr} (h : FS ln l i b kb t kd s s' a gn hf qf bf cf hf' qf' bf' cf') (c1 : decide (kd < 2) = false) (c2 : (kd == 3) = true) (c3 : (s.Q.any fun w => w.task == t) = false)
    (ha : a = a0 :: ar) (ho : ord a = s'.got ++ s'.Q.map W.task) : ev P (fairQ ln l i a) = ev P (fairQ ln l (i + 1) a) := by
  obtain ⟨hn, hb, hkb, hgt, ht, hk, hQ, hQ', hH, hal, hg, ⟨gg, e1⟩, e2⟩ := h
  have hpl : i < l.length := (List.getElem?_eq_some_iff.1 hgt).1
  have hlt : (i : Int) < l.length := by omega
  have hple : i ≤ l.length := by omega
  have hi0 : (0 : Int) ≤ (i : Int) + 1 := by omega
  have hi1 : (i : Int) + 1 ≤ l.length := by omega
  have w0 : IntKind.i64.wrap 0 = 0 := rfl
  have hnext : IntKind.i64.wrap ((i : Int) + 1) = i + 1 := wrap_i64 (by omega) (by omega)
  have wb : IntKind.i64.wrap b = b := wrap_i64 (by omega) (by omega)
  have hC := ev_C1 t (I' s.own) (I' 0) (I' 0) (hD hf s.H) (hD bf []) (cD cf []) (.b false) (I' 0) qf s.Q (by omega)
  have hC' := ev_C1 t (I' s'.own) (I' 0) (I' 0) (hD hf' s'.H) (hD bf' []) (cD cf' []) (.b false) (I' 0) qf' s'.Q (by omega)
  have hHo := ev_Holds s.own (I' 0) (I' 0) (qD qf s.Q) (hD bf []) (cD cf []) (.b false) (I' 0) hf s.H t (by omega)
  have hgl : s'.got.length ≤ (ord a).length := by rw [ho]; simp
  have hlen : (ord a).length = s'.got.length + s'.Q.length := by rw [ho]; simp
  have hEt : (s'.got == (ord a).take s'.got.length) = true := by rw [ho]; simp
  generalize hh : hld s.own s.H t = hd at *
  generalize hw1 : (s.Q.any fun w => w.task == t) = w1 at *
  generalize hw2 : (s'.Q.any fun w => w.task == t) = w2 at *
  unfold fairQ
  conv => lhs; rw [ev_loop]
  generalize hR : ev P (.loop 0 [0, 3, 4, 24, 25, 26] F_nurserylaw17_RwlockFair_L2 [(0, .d (.sl 2 ln (l.map urow))), (3, aV a), (4, aM a), (24, .d (.sl 2 ln (l.map urow))), (25, .d (I' l.length)), (26, .d (I' (i + 1)))] (aO a)) = R at *
  conv => lhs; arg 4; unfold F_nurserylaw17_RwlockFair_L2
  subst ha
  have hL := loop_F1 (.sl 2 ln (l.map urow)) (.sl 2 ln (l.map urow)) (hD gn s'.got) (I' l.length) (I' i) [I' s'.own, I' 0, I' 0, hD hf' s'.H, qD qf' s'.Q, hD bf' [], cD cf' [], .b false, I' 0] (a0 :: ar) (by simp at hal ⊢ <;> omega) (a0 :: ar) [] rfl
  have hO0 : ord ([] : Arr) = [] := rfl
  rw [hO0] at hL
  generalize ord (a0 :: ar) = OO at *
  cases OO with
  | nil =>
    have hg0 : s'.got = [] := by simpa using hgl
    have hq0 : s'.Q = [] := List.length_eq_zero_iff.1 (by simp [hg0] at hlen; omega)
    rw [hg0, hq0] at hL
    have hE1 : ev P (.call slices_Equal_int_int [.d (hD gn []), .d (.sl 1 true [])] []) = some (.val (.d (.b true)) []) := ev_Equal gn true [] [] (by simp)
    simp [oV, gO, aR] at hL
    simp [c1, c2, c3, aV, aM, aO, aR, hL, hE1, hg0, hq0, hlt, hple, hi0, hi1, hgt, urow, wb, ht, hk, e1, e2, hC, hC', hHo, hh, hw1, hw2, hnext, w0, V.same_self, thaw, freezeAll, freeze1, reachC, cut, rg2, rg3, rg4, List.idxOf_cons]
    simp [aV, aM, aO, aR] at hR
    exact hR
  | cons y OO =>
    have hE2 := ev_Equal gn false s'.got ((y :: OO).take s'.got.length) (by omega)
    rw [hEt] at hE2
    simp only [hD, rows1, List.map_take, List.map_cons] at hE2
    simp only [List.length_cons] at hgl hlen
    have hql : (s'.Q.length : Int) = (OO.length : Int) + 1 - s'.got.length := by omega
    have hngt : ¬ (OO.length : Int) + 1 < s'.got.length := by omega
    have hgle : (s'.got.length : Int) ≤ (OO.length : Int) + 1 := by omega
    have hwr : IntKind.i64.wrap ((OO.length : Int) + 1 - s'.got.length) = (OO.length : Int) + 1 - s'.got.length := wrap_i64 (by omega) (by omega)
    simp [oV, gO, aR] at hL
    simp [c1, c2, c3, aV, aM, aO, aR, hL, hE2, hql, hngt, hwr, hgle, take_map_len, hlt, hple, hi0, hi1, hgt, urow, wb, ht, hk, e1, e2, hC, hC', hHo, hh, hw1, hw2, hnext, w0, V.same_self, thaw, freezeAll, freeze1, reachC, cut, rg2, rg3, rg4, List.idxOf_cons]
    simp [aV, aM, aO, aR] at hR
    exact hR
theorem fair_c5 {ln : Bool} {l : List (Int × Int)} {i : Nat} {b kb t kd : Int} {s s' : PS} {a : Arr} {gn hf qf bf cf hf' qf' bf' cf' : Bool} {a0 : Int × Bool} {ar : Arr} (h : FS ln l i b kb t kd s s' a gn hf qf bf cf hf' qf' bf' cf') (c1 : decide (kd < 2) = false) (c2 : (kd == 3) = true) (c3 : (s.Q.any fun w => w.task == t) = true) (c4 : (s'.Q.any fun w => w.task == t) = true)
    (ha : a = a0 :: ar) (ho : ord a = s'.got ++ s'.Q.map W.task) : ev P (fairQ ln l i a) = ev P (fairQ ln l (i + 1) a) := by
  obtain ⟨hn, hb, hkb, hgt, ht, hk, hQ, hQ', hH, hal, hg, ⟨gg, e1⟩, e2⟩ := h
  have hpl : i < l.length := (List.getElem?_eq_some_iff.1 hgt).1
  have hlt : (i : Int) < l.length := by omega
  have hple : i ≤ l.length := by omega
  have hi0 : (0 : Int) ≤ (i : Int) + 1 := by omega
  have hi1 : (i : Int) + 1 ≤ l.length := by omega
  have w0 : IntKind.i64.wrap 0 = 0 := rfl
  have hnext : IntKind.i64.wrap ((i : Int) + 1) = i + 1 := wrap_i64 (by omega) (by omega)
  have wb : IntKind.i64.wrap b = b := wrap_i64 (by omega) (by omega)
  have hC := ev_C1 t (I' s.own) (I' 0) (I' 0) (hD hf s.H) (hD bf []) (cD cf []) (.b false) (I' 0) qf s.Q (by omega)
  have hC' := ev_C1 t (I' s'.own) (I' 0) (I' 0) (hD hf' s'.H) (hD bf' []) (cD cf' []) (.b false) (I' 0) qf' s'.Q (by omega)
  have hHo := ev_Holds s.own (I' 0) (I' 0) (qD qf s.Q) (hD bf []) (cD cf []) (.b false) (I' 0) hf s.H t (by omega)
  have hgl : s'.got.length ≤ (ord a).length := by rw [ho]; simp
  have hlen : (ord a).length = s'.got.length + s'.Q.length := by rw [ho]; simp
  have hEt : (s'.got == (ord a).take s'.got.length) = true := by rw [ho]; simp
  generalize hh : hld s.own s.H t = hd at *
  generalize hw1 : (s.Q.any fun w => w.task == t) = w1 at *
  generalize hw2 : (s'.Q.any fun w => w.task == t) = w2 at *
  unfold fairQ
  conv => lhs; rw [ev_loop]
  generalize hR : ev P (.loop 0 [0, 3, 4, 24, 25, 26] F_nurserylaw17_RwlockFair_L2 [(0, .d (.sl 2 ln (l.map urow))), (3, aV a), (4, aM a), (24, .d (.sl 2 ln (l.map urow))), (25, .d (I' l.length)), (26, .d (I' (i + 1)))] (aO a)) = R at *
  conv => lhs; arg 4; unfold F_nurserylaw17_RwlockFair_L2
  subst ha
  have hL := loop_F1 (.sl 2 ln (l.map urow)) (.sl 2 ln (l.map urow)) (hD gn s'.got) (I' l.length) (I' i) [I' s'.own, I' 0, I' 0, hD hf' s'.H, qD qf' s'.Q, hD bf' [], cD cf' [], .b false, I' 0] (a0 :: ar) (by simp at hal ⊢ <;> omega) (a0 :: ar) [] rfl
  have hO0 : ord ([] : Arr) = [] := rfl
  rw [hO0] at hL
  generalize ord (a0 :: ar) = OO at *
  cases OO with
  | nil =>
    have hg0 : s'.got = [] := by simpa using hgl
    have hq0 : s'.Q = [] := List.length_eq_zero_iff.1 (by simp [hg0] at hlen; omega)
    exfalso; rw [hq0] at hw2; rw [← hw2] at c4; cases c4
  | cons y OO =>
    have hE2 := ev_Equal gn false s'.got ((y :: OO).take s'.got.length) (by omega)
    rw [hEt] at hE2
    simp only [hD, rows1, List.map_take, List.map_cons] at hE2
    simp only [List.length_cons] at hgl hlen
    have hql : (s'.Q.length : Int) = (OO.length : Int) + 1 - s'.got.length := by omega
    have hngt : ¬ (OO.length : Int) + 1 < s'.got.length := by omega
    have hgle : (s'.got.length : Int) ≤ (OO.length : Int) + 1 := by omega
    have hwr : IntKind.i64.wrap ((OO.length : Int) + 1 - s'.got.length) = (OO.length : Int) + 1 - s'.got.length := wrap_i64 (by omega) (by omega)
    simp [oV, gO, aR] at hL
    simp [c1, c2, c3, c4, aV, aM, aO, aR, hL, hE2, hql, hngt, hwr, hgle, take_map_len, hlt, hple, hi0, hi1, hgt, urow, wb, ht, hk, e1, e2, hC, hC', hHo, hh, hw1, hw2, hnext, w0, V.same_self, thaw, freezeAll, freeze1, reachC, cut, rg2, rg3, rg4, List.idxOf_cons]
    simp [aV, aM, aO, aR] at hR
    exact hR
set_option maxRecDepth 10000 in
theorem fair_h0 {ln : Bool} {l : List (Int × Int)} {i : Nat} {b kb t kd : Int} {s s' : PS} {a : Arr} {gn hf qf bf cf hf' qf' bf' cf' : Bool} {a0 : Int × Bool} {ar : Arr} (h : FS ln l i b kb t kd s s' a gn hf qf bf cf hf' qf' bf' cf') (c1 : decide (kd < 2) = true) (c2 : (kd == 3) = false) (c3 : (s.Q.any fun w => w.task == t) = false) (c4 : (hld s.own s.H t == 0) = true)
    (ha : a = []) (ho : ord ([(t, true)]) = s'.got ++ s'.Q.map W.task) : ev P (fairQ ln l i a) = ev P (fairQ ln l (i + 1) ([(t, true)])) := by
  obtain ⟨hn, hb, hkb, hgt, ht, hk, hQ, hQ', hH, hal, hg, ⟨gg, e1⟩, e2⟩ := h
  have hpl : i < l.length := (List.getElem?_eq_some_iff.1 hgt).1
  have hlt : (i : Int) < l.length := by omega
  have hple : i ≤ l.length := by omega
  have hi0 : (0 : Int) ≤ (i : Int) + 1 := by omega
  have hi1 : (i : Int) + 1 ≤ l.length := by omega
  have w0 : IntKind.i64.wrap 0 = 0 := rfl
  have hnext : IntKind.i64.wrap ((i : Int) + 1) = i + 1 := wrap_i64 (by omega) (by omega)
  have wb : IntKind.i64.wrap b = b := wrap_i64 (by omega) (by omega)
  have hC := ev_C1 t (I' s.own) (I' 0) (I' 0) (hD hf s.H) (hD bf []) (cD cf []) (.b false) (I' 0) qf s.Q (by omega)
  have hC' := ev_C1 t (I' s'.own) (I' 0) (I' 0) (hD hf' s'.H) (hD bf' []) (cD cf' []) (.b false) (I' 0) qf' s'.Q (by omega)
  have hHo := ev_Holds s.own (I' 0) (I' 0) (qD qf s.Q) (hD bf []) (cD cf []) (.b false) (I' 0) hf s.H t (by omega)
  have hgl : s'.got.length ≤ (ord ([(t, true)])).length := by rw [ho]; simp
  have hlen : (ord ([(t, true)])).length = s'.got.length + s'.Q.length := by rw [ho]; simp
  have hEt : (s'.got == (ord ([(t, true)])).take s'.got.length) = true := by rw [ho]; simp
  subst ha
  generalize hh : hld s.own s.H t = hd at *
  generalize hw1 : (s.Q.any fun w => w.task == t) = w1 at *
  generalize hw2 : (s'.Q.any fun w => w.task == t) = w2 at *
  unfold fairQ
  conv => lhs; rw [ev_loop]
  generalize hR : ev P (.loop 0 [0, 3, 4, 24, 25, 26] F_nurserylaw17_RwlockFair_L2 [(0, .d (.sl 2 ln (l.map urow))), (3, aV ([(t, true)])), (4, aM ([(t, true)])), (24, .d (.sl 2 ln (l.map urow))), (25, .d (I' l.length)), (26, .d (I' (i + 1)))] (aO ([(t, true)]))) = R at *
  conv => lhs; arg 4; unfold F_nurserylaw17_RwlockFair_L2
  have hL := loop_F1 (.sl 2 ln (l.map urow)) (.sl 2 ln (l.map urow)) (hD gn s'.got) (I' l.length) (I' i) [I' s'.own, I' 0, I' 0, hD hf' s'.H, qD qf' s'.Q, hD bf' [], cD cf' [], .b false, I' 0] ([(t, true)]) (by simp at hal ⊢ <;> omega) ([(t, true)]) [] rfl
  have hO0 : ord ([] : Arr) = [] := rfl
  rw [hO0] at hL
  have r1 : 1 ≤ room := by decide
  have hm : ∀ H, mputH [.i] (.mp [] :: H) (.mp 0) (.d (I' 0)) (.d (.b true)) = some (.mp (mk (fx 0 [(t, true)])) :: H) := fun H => mput_mk0 H 0
  generalize ord ([(t, true)]) = OO at *
  cases OO with
  | nil =>
    have hg0 : s'.got = [] := by simpa using hgl
    have hq0 : s'.Q = [] := List.length_eq_zero_iff.1 (by simp [hg0] at hlen; omega)
    rw [hg0, hq0] at hL
    have hE1 : ev P (.call slices_Equal_int_int [.d (hD gn []), .d (.sl 1 true [])] []) = some (.val (.d (.b true)) []) := ev_Equal gn true [] [] (by simp)
    simp [oV, gO, aR] at hL
    simp [c1, c2, c3, c4, -mputH, r1, hm, aV, aM, aO, aR, hL, hE1, hg0, hq0, hlt, hple, hi0, hi1, hgt, urow, wb, ht, hk, e1, e2, hC, hC', hHo, hh, hw1, hw2, hnext, w0, V.same_self, thaw, freezeAll, freeze1, reachC, cut, rg2, rg3, rg4, List.idxOf_cons]
    simp [aV, aM, aO, aR] at hR
    exact hR
  | cons y OO =>
    have hE2 := ev_Equal gn false s'.got ((y :: OO).take s'.got.length) (by omega)
    rw [hEt] at hE2
    simp only [hD, rows1, List.map_take, List.map_cons] at hE2
    simp only [List.length_cons] at hgl hlen
    have hql : (s'.Q.length : Int) = (OO.length : Int) + 1 - s'.got.length := by omega
    have hngt : ¬ (OO.length : Int) + 1 < s'.got.length := by omega
    have hgle : (s'.got.length : Int) ≤ (OO.length : Int) + 1 := by omega
    have hwr : IntKind.i64.wrap ((OO.length : Int) + 1 - s'.got.length) = (OO.length : Int) + 1 - s'.got.length := wrap_i64 (by omega) (by omega)
    simp [oV, gO, aR] at hL
    simp [c1, c2, c3, c4, -mputH, r1, hm, aV, aM, aO, aR, hL, hE2, hql, hngt, hwr, hgle, take_map_len, hlt, hple, hi0, hi1, hgt, urow, wb, ht, hk, e1, e2, hC, hC', hHo, hh, hw1, hw2, hnext, w0, V.same_self, thaw, freezeAll, freeze1, reachC, cut, rg2, rg3, rg4, List.idxOf_cons]
    simp [aV, aM, aO, aR] at hR
    exact hR
set_option maxRecDepth 10000 in
theorem fair_h1 {ln : Bool} {l : List (Int × Int)} {i : Nat} {b kb t kd : Int} {s s' : PS} {a : Arr} {gn hf qf bf cf hf' qf' bf' cf' : Bool} {a0 : Int × Bool} {ar : Arr} (h : FS ln l i b kb t kd s s' a gn hf qf bf cf hf' qf' bf' cf') (c1 : decide (kd < 2) = true) (c2 : (kd == 3) = false) (c3 : (s.Q.any fun w => w.task == t) = false) (c4 : (hld s.own s.H t == 0) = true)
    (ha : a = a0 :: ar) (ho : ord (a0 :: ar ++ [(t, true)]) = s'.got ++ s'.Q.map W.task) : ev P (fairQ ln l i a) = ev P (fairQ ln l (i + 1) (a0 :: ar ++ [(t, true)])) := by
  obtain ⟨hn, hb, hkb, hgt, ht, hk, hQ, hQ', hH, hal, hg, ⟨gg, e1⟩, e2⟩ := h
  have hpl : i < l.length := (List.getElem?_eq_some_iff.1 hgt).1
  have hlt : (i : Int) < l.length := by omega
  have hple : i ≤ l.length := by omega
  have hi0 : (0 : Int) ≤ (i : Int) + 1 := by omega
  have hi1 : (i : Int) + 1 ≤ l.length := by omega
  have w0 : IntKind.i64.wrap 0 = 0 := rfl
  have hnext : IntKind.i64.wrap ((i : Int) + 1) = i + 1 := wrap_i64 (by omega) (by omega)
  have wb : IntKind.i64.wrap b = b := wrap_i64 (by omega) (by omega)
  have hC := ev_C1 t (I' s.own) (I' 0) (I' 0) (hD hf s.H) (hD bf []) (cD cf []) (.b false) (I' 0) qf s.Q (by omega)
  have hC' := ev_C1 t (I' s'.own) (I' 0) (I' 0) (hD hf' s'.H) (hD bf' []) (cD cf' []) (.b false) (I' 0) qf' s'.Q (by omega)
  have hHo := ev_Holds s.own (I' 0) (I' 0) (qD qf s.Q) (hD bf []) (cD cf []) (.b false) (I' 0) hf s.H t (by omega)
  have hgl : s'.got.length ≤ (ord (a0 :: ar ++ [(t, true)])).length := by rw [ho]; simp
  have hlen : (ord (a0 :: ar ++ [(t, true)])).length = s'.got.length + s'.Q.length := by rw [ho]; simp
  have hEt : (s'.got == (ord (a0 :: ar ++ [(t, true)])).take s'.got.length) = true := by rw [ho]; simp
  subst ha
  generalize hh : hld s.own s.H t = hd at *
  generalize hw1 : (s.Q.any fun w => w.task == t) = w1 at *
  generalize hw2 : (s'.Q.any fun w => w.task == t) = w2 at *
  unfold fairQ
  conv => lhs; rw [ev_loop]
  generalize hR : ev P (.loop 0 [0, 3, 4, 24, 25, 26] F_nurserylaw17_RwlockFair_L2 [(0, .d (.sl 2 ln (l.map urow))), (3, aV (a0 :: ar ++ [(t, true)])), (4, aM (a0 :: ar ++ [(t, true)])), (24, .d (.sl 2 ln (l.map urow))), (25, .d (I' l.length)), (26, .d (I' (i + 1)))] (aO (a0 :: ar ++ [(t, true)]))) = R at *
  conv => lhs; arg 4; unfold F_nurserylaw17_RwlockFair_L2
  have hL := loop_F1 (.sl 2 ln (l.map urow)) (.sl 2 ln (l.map urow)) (hD gn s'.got) (I' l.length) (I' i) [I' s'.own, I' 0, I' 0, hD hf' s'.H, qD qf' s'.Q, hD bf' [], cD cf' [], .b false, I' 0] (a0 :: ar ++ [(t, true)]) (by simp at hal ⊢ <;> omega) (a0 :: ar ++ [(t, true)]) [] rfl
  have hO0 : ord ([] : Arr) = [] := rfl
  rw [hO0] at hL
  have hr : ar.length + 1 + 1 ≤ room := by simp at hal; unfold room; omega
  have hal2 : ar.length + 1 ≤ i := by simpa using hal
  have hwm : IntKind.i64.wrap ((ar.length : Int) + 1) = ar.length + 1 := wrap_i64 (by omega) (by omega)
  have hm : ∀ A H, mputH [.i] (A :: .mp (mk (fx 0 (a0 :: ar))) :: H) (.mp 1) (.d (I' ((ar.length : Int) + 1))) (.d (.b true)) = some (A :: .mp (mk (fx 0 (a0 :: (ar ++ [(t, true)])))) :: H) := by
    intro A H
    have h1 := fx_new (a0 :: ar)
    have h2 := fx_snoc (a0 :: ar) t
    simp only [List.length_cons, Int.natCast_add, Int.natCast_one] at h1 h2
    rw [mput_mk A H _ _ h1, h2]
    rfl
  generalize ord (a0 :: ar ++ [(t, true)]) = OO at *
  cases OO with
  | nil =>
    have hg0 : s'.got = [] := by simpa using hgl
    have hq0 : s'.Q = [] := List.length_eq_zero_iff.1 (by simp [hg0] at hlen; omega)
    rw [hg0, hq0] at hL
    have hE1 : ev P (.call slices_Equal_int_int [.d (hD gn []), .d (.sl 1 true [])] []) = some (.val (.d (.b true)) []) := ev_Equal gn true [] [] (by simp)
    simp [oV, gO, aR] at hL
    simp [c1, c2, c3, c4, -mputH, hr, hwm, hm, take_map_len, Nat.not_succ_le_self, aV, aM, aO, aR, hL, hE1, hg0, hq0, hlt, hple, hi0, hi1, hgt, urow, wb, ht, hk, e1, e2, hC, hC', hHo, hh, hw1, hw2, hnext, w0, V.same_self, thaw, freezeAll, freeze1, reachC, cut, rg2, rg3, rg4, List.idxOf_cons]
    simp [aV, aM, aO, aR] at hR
    exact hR
  | cons y OO =>
    have hE2 := ev_Equal gn false s'.got ((y :: OO).take s'.got.length) (by omega)
    rw [hEt] at hE2
    simp only [hD, rows1, List.map_take, List.map_cons] at hE2
    simp only [List.length_cons] at hgl hlen
    have hql : (s'.Q.length : Int) = (OO.length : Int) + 1 - s'.got.length := by omega
    have hngt : ¬ (OO.length : Int) + 1 < s'.got.length := by omega
    have hgle : (s'.got.length : Int) ≤ (OO.length : Int) + 1 := by omega
    have hwr : IntKind.i64.wrap ((OO.length : Int) + 1 - s'.got.length) = (OO.length : Int) + 1 - s'.got.length := wrap_i64 (by omega) (by omega)
    simp [oV, gO, aR] at hL
    simp [c1, c2, c3, c4, -mputH, hr, hwm, hm, take_map_len, Nat.not_succ_le_self, aV, aM, aO, aR, hL, hE2, hql, hngt, hwr, hgle, take_map_len, hlt, hple, hi0, hi1, hgt, urow, wb, ht, hk, e1, e2, hC, hC', hHo, hh, hw1, hw2, hnext, w0, V.same_self, thaw, freezeAll, freeze1, reachC, cut, rg2, rg3, rg4, List.idxOf_cons]
    simp [aV, aM, aO, aR] at hR
    exact hR
set_option maxRecDepth 10000 in
theorem fair_h2 {ln : Bool} {l : List (Int × Int)} {i : Nat} {b kb t kd : Int} {s s' : PS} {a : Arr} {gn hf qf bf cf hf' qf' bf' cf' : Bool} {a0 b0 : Int × Bool} {ar br : Arr} (h : FS ln l i b kb t kd s s' a gn hf qf bf cf hf' qf' bf' cf') (c1 : decide (kd < 2) = false) (c2 : (kd == 3) = true) (c3 : (s.Q.any fun w => w.task == t) = true) (c4 : (s'.Q.any fun w => w.task == t) = false)
    (ha : a = a0 :: ar) (hb0 : clr t (a0 :: ar) = b0 :: br) (haR : aR (b0 :: br) = aR (a0 :: ar)) (hbl : br.length = ar.length) (ho : ord (b0 :: br) = s'.got ++ s'.Q.map W.task) : ev P (fairQ ln l i a) = ev P (fairQ ln l (i + 1) (b0 :: br)) := by
  obtain ⟨hn, hb, hkb, hgt, ht, hk, hQ, hQ', hH, hal, hg, ⟨gg, e1⟩, e2⟩ := h
  have hpl : i < l.length := (List.getElem?_eq_some_iff.1 hgt).1
  have hlt : (i : Int) < l.length := by omega
  have hple : i ≤ l.length := by omega
  have hi0 : (0 : Int) ≤ (i : Int) + 1 := by omega
  have hi1 : (i : Int) + 1 ≤ l.length := by omega
  have w0 : IntKind.i64.wrap 0 = 0 := rfl
  have hnext : IntKind.i64.wrap ((i : Int) + 1) = i + 1 := wrap_i64 (by omega) (by omega)
  have wb : IntKind.i64.wrap b = b := wrap_i64 (by omega) (by omega)
  have hC := ev_C1 t (I' s.own) (I' 0) (I' 0) (hD hf s.H) (hD bf []) (cD cf []) (.b false) (I' 0) qf s.Q (by omega)
  have hC' := ev_C1 t (I' s'.own) (I' 0) (I' 0) (hD hf' s'.H) (hD bf' []) (cD cf' []) (.b false) (I' 0) qf' s'.Q (by omega)
  have hHo := ev_Holds s.own (I' 0) (I' 0) (qD qf s.Q) (hD bf []) (cD cf []) (.b false) (I' 0) hf s.H t (by omega)
  have hgl : s'.got.length ≤ (ord (b0 :: br)).length := by rw [ho]; simp
  have hlen : (ord (b0 :: br)).length = s'.got.length + s'.Q.length := by rw [ho]; simp
  have hEt : (s'.got == (ord (b0 :: br)).take s'.got.length) = true := by rw [ho]; simp
  subst ha
  generalize hh : hld s.own s.H t = hd at *
  generalize hw1 : (s.Q.any fun w => w.task == t) = w1 at *
  generalize hw2 : (s'.Q.any fun w => w.task == t) = w2 at *
  unfold fairQ
  conv => lhs; rw [ev_loop]
  generalize hR : ev P (.loop 0 [0, 3, 4, 24, 25, 26] F_nurserylaw17_RwlockFair_L2 [(0, .d (.sl 2 ln (l.map urow))), (3, aV (b0 :: br)), (4, aM (b0 :: br)), (24, .d (.sl 2 ln (l.map urow))), (25, .d (I' l.length)), (26, .d (I' (i + 1)))] (aO (b0 :: br))) = R at *
  conv => lhs; arg 4; unfold F_nurserylaw17_RwlockFair_L2
  have hL := loop_F1 (.sl 2 ln (l.map urow)) (.sl 2 ln (l.map urow)) (hD gn s'.got) (I' l.length) (I' i) [I' s'.own, I' 0, I' 0, hD hf' s'.H, qD qf' s'.Q, hD bf' [], cD cf' [], .b false, I' 0] (b0 :: br) (by simp at hal ⊢; omega) (b0 :: br) [] rfl
  have hO0 : ord ([] : Arr) = [] := rfl
  rw [hO0] at hL
  have hwm : IntKind.i64.wrap (ar.length : Int) = ar.length := wrap_i64 (by omega) (by simp at hal; omega)
  have hF := loop_F0 t (.sl 2 ln (l.map urow)) (.sl 2 ln (l.map urow)) (hD gn s'.got) (I' l.length) (I' i) [I' s'.own, I' 0, I' 0, hD hf' s'.H, qD qf' s'.Q, hD bf' [], cD cf' [], .b false, I' 0] (a0 :: ar) (by simp at hal ⊢; omega) _ (a0 :: ar) [] rfl (by simp) (by simp)
  rw [List.append_nil, List.append_nil, hb0] at hF
  rw [haR] at hL
  have hq' : (s.Q.length : Int) = s.Q.length := rfl
  generalize ord (b0 :: br) = OO at *
  cases OO with
  | nil =>
    have hg0 : s'.got = [] := by simpa using hgl
    have hq0 : s'.Q = [] := List.length_eq_zero_iff.1 (by simp [hg0] at hlen; omega)
    rw [hg0, hq0] at hL
    have hC0 := ev_C1 t (I' s'.own) (I' 0) (I' 0) (hD hf' s'.H) (hD bf' []) (cD cf' []) (.b false) (I' 0) qf' [] (by simp)
    rw [List.any_nil] at hC0
    have hE1 : ev P (.call slices_Equal_int_int [.d (hD gn []), .d (.sl 1 true [])] []) = some (.val (.d (.b true)) []) := ev_Equal gn true [] [] (by simp)
    simp [oV, gO, aR, hbl] at hL
    have hF' := hF
    simp [aR, hg0, hq0] at hF'
    simp [c1, c2, c3, c4, hwm, hF', hbl, aV, aM, aO, aR, hL, hE1, hC0, hg0, hq0, hlt, hple, hi0, hi1, hgt, urow, wb, ht, hk, e1, e2, hC, hC', hHo, hh, hw1, hw2, hnext, w0, V.same_self, thaw, freezeAll, freeze1, reachC, cut, rg2, rg3, rg4, List.idxOf_cons]
    simp only [aV, aM, aO, haR] at hR
    simp [aR, hbl] at hR
    exact hR
  | cons y OO =>
    have hE2 := ev_Equal gn false s'.got ((y :: OO).take s'.got.length) (by omega)
    rw [hEt] at hE2
    simp only [hD, rows1, List.map_take, List.map_cons] at hE2
    simp only [List.length_cons] at hgl hlen
    have hql : (s'.Q.length : Int) = (OO.length : Int) + 1 - s'.got.length := by omega
    have hngt : ¬ (OO.length : Int) + 1 < s'.got.length := by omega
    have hgle : (s'.got.length : Int) ≤ (OO.length : Int) + 1 := by omega
    have hwr : IntKind.i64.wrap ((OO.length : Int) + 1 - s'.got.length) = (OO.length : Int) + 1 - s'.got.length := wrap_i64 (by omega) (by omega)
    simp [oV, gO, aR, hbl] at hL
    have hF' := hF
    simp [aR] at hF'
    simp [c1, c2, c3, c4, hwm, hF', hbl, aV, aM, aO, aR, hL, hE2, hql, hngt, hwr, hgle, take_map_len, hlt, hple, hi0, hi1, hgt, urow, wb, ht, hk, e1, e2, hC, hC', hHo, hh, hw1, hw2, hnext, w0, V.same_self, thaw, freezeAll, freeze1, reachC, cut, rg2, rg3, rg4, List.idxOf_cons]
    simp only [aV, aM, aO, haR] at hR
    simp [aR, hbl] at hR
    exact hR
end Go.VS.R

namespace Go.VS.R
theorem clr_fst (t : Int) : ∀ a : Arr, (clr t a).map (fun x => x.1) = a.map fun x => x.1
  | [] => rfl
  | x :: r => by
    unfold clr
    have ih := clr_fst t r
    split
    · simp [ih]
    · split <;> rfl
theorem clr_len (t : Int) (a : Arr) : (clr t a).length = a.length := by
  have := congrArg List.length (clr_fst t a)
  simpa using this
theorem arrS_len (s : PS) (t kd : Int) (a : Arr) : (arrS s t kd a).length ≤ a.length + 1 := by
  unfold arrS
  split
  · simp
  · split
    · rw [clr_len]; omega
    · omega
theorem fair_go {ln : Bool} {l : List (Int × Int)} {i : Nat} {b kb t kd : Int} {s : PS} {a : Arr} {gn hf qf bf cf hf' qf' bf' cf' : Bool}
    (h : FS ln l i b kb t kd s (stp s t kd) a gn hf qf bf cf hf' qf' bf' cf') (hk : 0 ≤ kd ∧ kd < 4) (ho0 : ord a = s.got ++ s.Q.map W.task)
    (ho : ord (arrS s t kd a) = (stp s t kd).got ++ (stp s t kd).Q.map W.task) : ev P (fairQ ln l i a) = ev P (fairQ ln l (i + 1) (arrS s t kd a)) := by
  unfold arrS c1B c2B at *
  generalize stp s t kd = s' at *
  cases c1 : decide (kd < 2)
  · cases c2 : kd == 3
    · simp [c1, c2] at ho ⊢
      cases a with
      | nil => exact fair_n3 h c1 c2 rfl ho
      | cons a0 ar => exact fair_c3 h c1 c2 rfl ho
    · cases c3 : (s.Q.any fun w => w.task == t)
      · rw [c1, c2, c3] at ho
        simp at ho
        have e : (if (false && !false && hld s.own s.H t == 0) = true then a ++ [(t, true)] else if (true && false && !(s'.Q.any fun w => w.task == t)) = true then clr t a else a) = a := by simp
        rw [e]
        cases a with
        | nil => exact fair_n4 h c1 c2 c3 rfl ho
        | cons a0 ar => exact fair_c4 h c1 c2 c3 rfl ho
      · cases c4 : (s'.Q.any fun w => w.task == t)
        · rw [c1, c2, c3, c4] at ho
          have e : (if (false && !true && hld s.own s.H t == 0) = true then a ++ [(t, true)] else if (true && true && !false) = true then clr t a else a) = clr t a := by simp
          rw [e] at ho ⊢
          cases a with
          | nil =>
            exfalso
            have hz : s.Q = [] := by
              have := congrArg List.length ho0
              simp [ord] at this
              exact List.length_eq_zero_iff.1 (by omega)
            rw [hz] at c3
            cases c3
          | cons a0 ar =>
            have hl := clr_len t (a0 :: ar)
            cases hb : clr t (a0 :: ar) with
            | nil => rw [hb] at hl; simp at hl
            | cons b0 br =>
              have hf := clr_fst t (a0 :: ar)
              rw [hb] at hl hf ho
              simp at hl
              exact fair_h2 h c1 c2 c3 c4 rfl hb (by unfold aR; rw [hf]) hl ho
        · rw [c1, c2, c3, c4] at ho
          have e : (if (false && !true && hld s.own s.H t == 0) = true then a ++ [(t, true)] else if (true && true && !true) = true then clr t a else a) = a := by simp
          rw [e] at ho ⊢
          cases a with
          | nil => exact fair_n5 h c1 c2 c3 c4 rfl ho
          | cons a0 ar => exact fair_c5 h c1 c2 c3 c4 rfl ho
  · cases c2 : kd == 3
    rotate_left
    · exfalso; simp at c1 c2; omega
    cases c3 : (s.Q.any fun w => w.task == t)
    · cases c4 : hld s.own s.H t == 0
      · rw [c1, c2, c3, c4] at ho
        have e : (if (true && !false && false) = true then a ++ [(t, true)] else if (false && false && !(s'.Q.any fun w => w.task == t)) = true then clr t a else a) = a := by simp
        rw [e] at ho ⊢
        cases a with
        | nil => exact fair_n2 h c1 c2 c3 c4 rfl ho
        | cons a0 ar => exact fair_c2 h c1 c2 c3 c4 rfl ho
      · rw [c1, c2, c3, c4] at ho
        have e : (if (true && !false && true) = true then a ++ [(t, true)] else if (false && false && !(s'.Q.any fun w => w.task == t)) = true then clr t a else a) = a ++ [(t, true)] := by simp
        rw [e] at ho ⊢
        cases a with
        | nil => exact fair_h0 (a0 := (0, true)) (ar := []) h c1 c2 c3 c4 rfl ho
        | cons a0 ar => exact fair_h1 h c1 c2 c3 c4 rfl ho
    · rw [c1, c2, c3] at ho
      have e : (if (true && !true && hld s.own s.H t == 0) = true then a ++ [(t, true)] else if (false && true && !(s'.Q.any fun w => w.task == t)) = true then clr t a else a) = a := by simp
      rw [e] at ho ⊢
      cases a with
      | nil => exact fair_n1 h c1 c2 c3 rfl ho
      | cons a0 ar => exact fair_c1 h c1 c2 c3 rfl ho
theorem loop_F2 (ln : Bool) (l : List (Int × Int)) (hn : l.length ≤ 24) (hu : ∀ x, x ∈ l → U8 x) : ∀ (suf pre : List (Int × Int)) (a : Arr), l = pre ++ suf → ord a = (playS s0 pre).got ++ (playS s0 pre).Q.map W.task → a.length ≤ pre.length →
    ev P (fairQ ln l pre.length a) = some (.out (.exit 0) [] []) := by
  intro suf
  induction suf with
  | nil =>
    intro pre a hl ho ha
    have : l.length = pre.length := by simp [hl]
    unfold fairQ
    rw [ev_loop]
    conv => lhs; arg 4; unfold F_nurserylaw17_RwlockFair_L2
    cases a <;> simp [this, aV, aM, aO, reachC, cut, rg2, rg3, List.idxOf_cons]
  | cons x suf ih =>
    intro pre a hl ho ha
    obtain ⟨b, kb⟩ := x
    have hu1 : ∀ x, x ∈ pre → U8 x := fun x hx => hu x (by simp [hl, hx])
    have hu2 : ∀ x, x ∈ pre ++ [(b, kb)] → U8 x := fun x hx => hu x (by simp [hl] at hx ⊢; rcases hx with h | h; exact .inl h; exact .inr (.inl h))
    have hux := hu (b, kb) (by simp [hl])
    have hll : l.length = pre.length + suf.length + 1 := by simp [hl]; omega
    have I1 := PI_play (l := pre) PI0 (by omega)
    have I2 := PI_play (l := pre ++ [(b, kb)]) PI0 (by simp; omega)
    obtain ⟨hf, qf, bf, cf, gn0, _, _, E1⟩ := ev_play ln pre (by omega) hu1
    obtain ⟨hf', qf', bf', cf', gn, _, _, E2⟩ := ev_play ln (pre ++ [(b, kb)]) (by simp; omega) hu2
    have es : playS s0 (pre ++ [(b, kb)]) = stp (playS s0 pre) (b.tmod 4) (kb.tmod 4) := by rw [playS_append]; rfl
    have t1 : (l.map urow).take pre.length = pre.map urow := by rw [hl, ← List.map_take]; simp
    have t2 : (l.map urow).take (pre.length + 1) = (pre ++ [(b, kb)]).map urow := by
      have : l = (pre ++ [(b, kb)]) ++ suf := by simp [hl]
      rw [this, ← List.map_take, List.take_left' (by simp)]
    rw [es] at I2 E2
    have m1 := mod4 hux.1
    have m2 := mod4 hux.2
    have hH := I1.M.lenH
    have hq := I1.Q
    have hq2 := I2.Q
    have hg2 := I2.g
    have hstep := fair_step (s := playS s0 pre) (t := b.tmod 4) (kd := kb.tmod 4) I1.M m1 m2 ho
    have hF : FS ln l pre.length b kb (b.tmod 4) (kb.tmod 4) (playS s0 pre) (stp (playS s0 pre) (b.tmod 4) (kb.tmod 4)) a gn hf qf bf cf hf' qf' bf' cf' :=
      ⟨hn, hux.1, hux.2, by simp [hl], rfl, rfl, by omega, by simp at hq2; omega, by omega, ha, by simp at hg2; omega, ⟨_, by rw [t1]; exact E1⟩, by rw [t2]; exact E2⟩
    have hgo := fair_go hF m2 ho hstep
    rw [hgo]
    have ih' := ih (pre ++ [(b, kb)]) (arrS (playS s0 pre) (b.tmod 4) (kb.tmod 4) a) (by simp [hl]) (by rw [es]; exact hstep) (by have := arrS_len (playS s0 pre) (b.tmod 4) (kb.tmod 4) a; simp; omega)
    have e : ((pre ++ [(b, kb)]).length : Int) = (pre.length : Int) + 1 := by simp
    rw [e] at ih'
    exact ih'
theorem law_Fair (ln : Bool) (l : List (Int × Int)) (hu : ∀ x, x ∈ l → U8 x) : ev P (.call nurserylaw17_RwlockFair [.d (.sl 2 ln (l.map urow))] []) = some (.val (.d (.b true)) []) := by
  rw [ev_call P_nurserylaw17_RwlockFair rfl]
  by_cases h : 24 < l.length
  · have h' : (24 : Int) < l.length := by omega
    simp [F_nurserylaw17_RwlockFair, h', ev_awake]
  · have h' : ¬ (24 : Int) < l.length := by omega
    have hL := loop_F2 ln l (by omega) hu l [] [] rfl rfl (by simp)
    simp [fairQ, aV, aM, aO] at hL
    simp [F_nurserylaw17_RwlockFair, h', ev_awake, hL, reachC, cut, rg2, rg3, List.idxOf_cons]
end Go.VS.R
namespace Go.VS.R
theorem wt_u {cs : List D} (h : WT tU cs) : ∃ n, cs = [.i .u8 n] ∧ 0 ≤ n ∧ n ≤ 255 := by
  simp only [tU, WT] at h
  obtain ⟨n, rfl, h2⟩ := h
  exact ⟨n, rfl, h2⟩
def tStep : Ty := .st [tU, tU]
def tLP : Ty := .sl 2 tStep
theorem steps_of {rows : List (List D)} (h : ∀ r ∈ rows, WT tStep r) : ∃ l : List (Int × Int), rows = l.map urow ∧ ∀ x, x ∈ l → U8 x := by
  induction rows with
  | nil => exact ⟨[], rfl, by simp⟩
  | cons r rs ih =>
    have h1 := h r (by simp)
    simp only [tStep, WT, WTs] at h1
    obtain ⟨_, _, rfl, h1, _, _, rfl, h2, rfl⟩ := h1
    obtain ⟨a, rfl, ha⟩ := wt_u h1
    obtain ⟨b, rfl, hb⟩ := wt_u h2
    obtain ⟨q, rfl, hq⟩ := ih fun x hx => h x (by simp [hx])
    refine ⟨(a, b) :: q, rfl, ?_⟩
    intro x hx
    rcases List.mem_cons.1 hx with rfl | hx
    · exact ⟨ha, hb⟩
    · exact hq x hx
theorem l_Fair (xs : List D) (h : WVs [tLP] xs) : ev P (.call nurserylaw17_RwlockFair (xs.map V.d) []) = some (.val (.d (.b true)) []) := by
  simp only [WVs] at h
  obtain ⟨s, _, rfl, hs, rfl⟩ := h
  simp only [tLP, WV] at hs
  obtain ⟨nl, rows, hs1, _, hr⟩ := wt_sl hs
  obtain rfl : s = .sl 2 nl rows := by simpa using hs1
  obtain ⟨l, rfl, hl⟩ := steps_of hr
  exact law_Fair nl l hl
end Go.VS.R
