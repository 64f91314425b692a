import Derived.Test.YtjkgnelkochemaaV03
import Derived.WalkKit
import Derived.ProofKit
import Derived.OpenShut
import Derived.Carry
set_option linter.all false
/-
  VS, part 28: functions; all rounds; the theorem that is used.
-/
namespace Go.VS
section
variable {P : Program} {φ : Nat → Nat}
variable {nt m : Nat} {s : St} {g : Gh} {a : Act} {w : World}

/-! ### Results -/
theorem ld_rel {h : List O} {p : V} {v : Value} {n : Nat} {ag : Bool} {x : V} (hH : HRel φ h g w) (rx : relV φ h g w p v) (hv : ldV h n ag p = some x) :
    ∃ (b off : Nat) (vs : List Value) (v' : Value), v = .pointer (some ⟨b, off, none⟩) ∧ (∀ (j : Nat) (u : Value), vs[j]? = some u → w.cell? ⟨b, off + j, none⟩ = some u) ∧
      (if ag then n ≤ vs.length ∧ v' = .agg (vs.take n).toArray else vs.head? = some v') ∧ relV φ h g w x v' := by
  generalize hp : p = q at rx
  unfold ldV at hv
  split at hv
  · rename_i cs
    subst hp
    simp only [relV, relD] at rx
    obtain ⟨b, off, he, hI, hcs⟩ := rx
    obtain ⟨vs, hvs, hcells, h1⟩ := relCells_vals hcs
    obtain ⟨v', h2, h3⟩ := packD_rel (h := h) hvs h1 hv
    exact ⟨b, off, vs, v', he, hcells, h2, h3⟩
  · rename_i k r c
    subst hp
    simp only [relV] at rx
    obtain ⟨hlt, _, rx⟩ := rx
    have hobj := hH.obj k
    split at hv
    · rename_i es ex rows hk
      rw [hk] at hobj rx
      have he := rx es rfl
      cases hrow : rows[r]? with
      | none => simp [hrow] at hv
      | some row =>
        simp [hrow] at hv
        obtain ⟨_, h2, _⟩ := hobj
        obtain ⟨_, hcs⟩ := relRows_get h2 hrow
        obtain ⟨vs, hvs, hcells, h1⟩ := relCells_vals hcs
        obtain ⟨v', h2, h3⟩ := packD_rel (h := h) (relDs_drop hvs c) (fun v hv => h1 v (List.mem_of_mem_drop hv)) hv
        refine ⟨_, _, _, v', he, (fun j u hj => ?_), h2, h3⟩
        have := hcells (c + j) u (by simpa [List.getElem?_drop] using hj)
        rwa [← Nat.add_assoc] at this
    · rename_i es rows hk
      rw [hk] at hobj rx
      have he := rx es rfl
      cases hrow : rows[r]? with
      | none => simp [hrow] at hv
      | some row =>
        simp [hrow] at hv
        obtain ⟨_, h2, _⟩ := hobj
        obtain ⟨vs, hvs, hcells, h1⟩ := relRowsV_vals h2 hrow
        obtain ⟨v', h2, h3⟩ := pack_rel (relVs_drop hvs c) (fun v hv => h1 v (List.mem_of_mem_drop hv)) hv
        refine ⟨_, _, _, v', he, (fun j u hj => ?_), h2, h3⟩
        have := hcells (c + j) u (by simpa [List.getElem?_drop] using hj)
        rwa [← Nat.add_assoc] at this
    · simp at hv
  · simp at hv
theorem run_loadVar {t : TypeId} {n : Nat} {ag : Bool} (hag : aggIs P t ag = true) (hn : sizeIs P t n = true) {b off : Nat} {vs : List Value}
    (hc : ∀ (j : Nat) (v : Value), vs[j]? = some v → w.cell? ⟨b, off + j, none⟩ = some v) {v' : Value}
    (hv : if ag then n ≤ vs.length ∧ v' = .agg (vs.take n).toArray else vs.head? = some v') :
    (loadVar t ⟨b, off, none⟩).run P w = .ok v' w := by
  have h1 := run_isAgg (P := P) (w := w) hag
  have h2 := run_size (P := P) (w := w) hn
  cases ag
  · simp only [Bool.false_eq_true, if_false] at hv
    have := hc 0 v' (by simpa [List.head?_eq_getElem?] using hv)
    simp only [Nat.add_zero] at this
    simp [loadVar, h1, this]
  · simp only [if_true] at hv
    have hl := run_loadCells_list (P := P) w ⟨b, off, none⟩ (vs.take n) (fun j v hj => by
      rw [addr_add]
      exact hc j v (by rw [List.getElem?_take] at hj; split at hj <;> simp_all))
    have hlen : (vs.take n).length = n := by simp; omega
    rw [hlen] at hl
    simp [loadVar, h1, h2, hl, hv.2]
def chkR (P : Program) : List ResultVar → List RV → Bool
  | [], [] => true
  | .tmp t :: r, .t n :: r' => t == n && chkR P r r'
  | .cell t ty :: r, .c n k ag :: r' => t == n && aggIs P ty ag && sizeIs P ty k && chkR P r r'
  | _, _ => false
def resOne (tmps : Array Value) : ResultVar → Sem Value
  | .tmp t => pure (tmps.getD t undef)
  | .cell a t => do loadVar t (← asAddr (tmps.getD a undef))
theorem res_rel (hs : SRel φ nt m s g a w) : ∀ {rs : List ResultVar} {rv : List RV} {vs : List V}, chkR P rs rv = true → readRVs s rv = some vs →
    ∃ us : List Value, (rs.mapM (resOne a.tmps)).run P w = .ok us w ∧ relVs φ s.heap g w vs us
  | [], [], vs, _, hv => by
    simp [readRVs] at hv
    subst hv
    exact ⟨[], by simp, by simp [relVs]⟩
  | .tmp t :: r, .t n :: r', vs, hc, hv => by
    simp only [chkR, Bool.and_eq_true, beq_iff_eq] at hc
    obtain ⟨rfl, hc⟩ := hc
    simp only [readRVs, readRV, Option.bind_some, Option.map_eq_some_iff] at hv
    obtain ⟨ws, hws, rfl⟩ := hv
    obtain ⟨us, h1, h2⟩ := res_rel hs hc hws
    exact ⟨a.tmps.getD t undef :: us, by simp [resOne, h1], by simp only [relVs]; exact ⟨hs.env t, h2⟩⟩
  | .cell t ty :: r, .c n k ag :: r', vs, hc, hv => by
    simp only [chkR, Bool.and_eq_true, beq_iff_eq] at hc
    obtain ⟨⟨⟨rfl, hag⟩, hn⟩, hc⟩ := hc
    simp only [readRVs, readRV, Option.bind_eq_some_iff, Option.map_eq_some_iff] at hv
    obtain ⟨x, hx, ws, hws, rfl⟩ := hv
    obtain ⟨us, h1, h2⟩ := res_rel hs hc hws
    obtain ⟨b, off, zs, v', he, hcells, hv', hrel⟩ := ld_rel hs.heap (hs.env t) hx
    have hl := run_loadVar (P := P) (w := w) hag hn hcells hv'
    exact ⟨v' :: us, by simp [resOne, he, asAddr, hl, h1], by simp only [relVs]; exact ⟨hrel, h2⟩⟩
  | [], _ :: _, _, hc, _ => by simp [chkR] at hc
  | .tmp _ :: _, [], _, hc, _ => by simp [chkR] at hc
  | .cell _ _ :: _, [], _, hc, _ => by simp [chkR] at hc
  | .tmp _ :: _, .c _ _ _ :: _, _, hc, _ => by simp [chkR] at hc
  | .cell _ _ :: _, .t _ :: _, _, hc, _ => by simp [chkR] at hc
end
end Go.VS
/-
  VS, part 29: all rounds; the theorem that is used.
-/
namespace Go.VS
section
variable {P : Program} {φ : Nat → Nat}
variable {nt m : Nat} {s : St} {g : Gh} {a : Act} {w : World}

theorem results_eq (fn : Func) (tmps : Array Value) : results fn tmps = (do
    let vs ← fn.results.mapM (resOne tmps)
    pure (if h : vs.size = 1 then vs[0] else .tuple vs)) := rfl
def vtuple : List Value → Value
  | [v] => v
  | us => .tuple us.toArray
theorem run_results {fn : Func} {tmps : Array Value} {us : List Value} (h : (fn.results.toList.mapM (resOne tmps)).run P w = .ok us w) :
    (results fn tmps).run P w = .ok (vtuple us) w := by
  rw [results_eq]
  have he : fn.results.mapM (resOne tmps) = Functor.map List.toArray (fn.results.toList.mapM (resOne tmps)) := by
    conv => lhs; rw [← Array.toArray_toList (xs := fn.results)]
    rw [List.mapM_toArray]
  rw [he]
  simp only [map_eq_pure_bind, bind_assoc, pure_bind, Sem.run_bind, h, Result.andThen_ok, Sem.run_pure]
  match us with
  | [] => rfl
  | [v] => rfl
  | v :: u :: r => simp [vtuple]

/-! ### Loops -/
theorem least {J : Nat → Prop} (h : ∃ k, J k) : ∃ k, J k ∧ ∀ j, j < k → ¬ J j := by
  obtain ⟨k, hk⟩ := h
  induction k using Nat.strongRecOn with
  | _ k ih =>
    by_cases hx : ∃ j, j < k ∧ J j
    · obtain ⟨j, h1, h2⟩ := hx; exact ih j h1 h2
    · exact ⟨k, hk, fun j hj hJ => hx ⟨j, hj, hJ⟩⟩
open Classical in
noncomputable def leastOf (J : Nat → Prop) : Nat := if h : ∃ k, J k then Classical.choose (least h) else 0
theorem leastOf_spec {J : Nat → Prop} (h : ∃ k, J k) : J (leastOf J) ∧ ∀ j, J j → leastOf J ≤ j := by
  have hc := Classical.choose_spec (least h)
  have he : leastOf J = Classical.choose (least h) := by simp [leastOf, h]
  rw [he]
  exact ⟨hc.1, fun j hj => Nat.le_of_not_lt fun hlt => hc.2 j hlt hj⟩
theorem loop_ok (hm : P.follows .mixedOrders = true) {Pv : Prog} {n : Nat} (ih : ∀ k, k < n → QuietCall P φ (iter Pv k) ∧ LoopOk P φ (iter Pv k)) : LoopOk P φ (iter Pv n) := by
  intro nt m live x c env h e env' h' hc hrec g a w Q hs hQ
  let J : Act → World → Nat → Prop := fun a' w' k => k ≤ n ∧ ∃ env1 h1 g1, iter Pv k (.loop m live c env1 h1) = some (.out e env' h') ∧ SRel φ nt m ⟨env1, h1, true⟩ g1 a' w' ∧ Frame m h g w h1 g1 w'
  refine wp_loop (fun a' w' => ∃ k, J a' w' k) (fun a' w' => leastOf (J a' w')) ⟨n, Nat.le_refl _, env, h, g, hrec, hs, Frame.refl _ _ _ _⟩ fun a' w' hI => ?_
  obtain ⟨hJ, hmin⟩ := leastOf_spec hI
  generalize leastOf (J a' w') = k at *
  obtain ⟨hkn, env1, h1, g1, hr, hs1, hf1⟩ := hJ
  cases k with
  | zero => simp [iter] at hr
  | succ k =>
    obtain ⟨hq, hl⟩ := ih k (by omega)
    simp only [iter, stepR] at hr
    cases he : evC (iter Pv k) m c ⟨env1, h1, true⟩ with
    | mk ex s' =>
      rw [he] at hr
      have hok : s'.ok = true := by
        cases hs' : s'.ok with
        | true => rfl
        | false => cases ex <;> simp [hs'] at hr
      refine sim_C hm hq hl x c hc hs1 (by rw [he]; exact hok) fun g2 a2 w2 k1 k2 => ?_
      rw [he] at k1 k2 ⊢
      cases ex with
      | normal =>
        simp only [hok, if_true, Option.bind_eq_some_iff] at hr
        obtain ⟨p, hp, hr⟩ := hr
        obtain ⟨g3, k3, k4⟩ := canon_rel k1 hp true
        have hJ' : J a2 w2 k := ⟨by omega, p.1, p.2, g3, hr, k3, hf1.trans (k2.trans k4)⟩
        refine ⟨⟨k, hJ'⟩, ?_⟩
        have := (leastOf_spec ⟨k, hJ'⟩).2 k hJ'
        omega
      | exit id =>
        simp only [hok, if_true, Option.some.injEq, Res.out.injEq] at hr
        obtain ⟨rfl, rfl, rfl⟩ := hr
        exact hQ g2 a2 w2 ⟨k1.env, k1.heap, k1.size, k1.defers, k1.len⟩ (hf1.trans k2)
      | ret =>
        simp only [hok, if_true, Option.some.injEq, Res.out.injEq] at hr
        obtain ⟨rfl, rfl, rfl⟩ := hr
        exact hQ g2 a2 w2 ⟨k1.env, k1.heap, k1.size, k1.defers, k1.len⟩ (hf1.trans k2)

/-! ### Functions -/
def FnCode (P : Program) (φ : Nat → Nat) (f : Nat) (F : F) : Prop :=
  ∃ fn c, P.funcs[φ f]? = some fn ∧ (fn.name == "runtime.NumGoroutine") = false ∧ fn.body = some c ∧ chkC P φ fn.ntmps c F.code = true ∧ chkR P fn.results.toList F.res = true
/-- What a function comes to that is not told by code. -/
def PrimOk (P : Program) (φ : Nat → Nat) (f : Nat) (p : List V → List O → Option (V × List O)) : Prop :=
  ∀ (xs : List V) (h : List O) (v : V) (h1 : List O), p xs h = some (v, h1) →
    (∃ fn, P.funcs[φ f]? = some fn ∧ (fn.name == "runtime.NumGoroutine") = false ∧ fn.body.isNone = false) ∧
    ∀ (g : Gh) (w : World) (args : Array Value), HRel φ h g w → relVs φ h g w xs args.toList →
      Calls P (φ f) args w fun e w' => ∃ v' g', e = .returned v' ∧ HRel φ h1 g' w' ∧ relV φ h1 g' w' v v' ∧ Frame h.length h g w h1 g' w'
def FnOk (P : Program) (φ : Nat → Nat) (f : Nat) (F : F) : Prop := (F.prim = none ∧ FnCode P φ f F) ∨ ∃ p, F.prim = some p ∧ PrimOk P φ f p
theorem argEnv_get : ∀ {xs : List V} {k t : Nat}, envGet (argEnv k xs) t = if k ≤ t then (xs[t - k]?).getD .u else .u
  | [], k, t => by simp [argEnv, envGet]
  | x :: xs, k, t => by
    simp only [argEnv, envGet, argEnv_get (xs := xs)]
    by_cases h : k = t
    · subst h; simp
    · rw [if_neg h]
      by_cases h2 : k ≤ t
      · have h3 : k + 1 ≤ t := by omega
        rw [if_pos h2, if_pos h3]
        have : t - k = (t - (k + 1)) + 1 := by omega
        rw [this, List.getElem?_cons_succ]
      · rw [if_neg h2, if_neg (by omega)]
theorem start_rel {h : List O} {xs : List V} {args : Array Value} (hH : HRel φ h g w) (hr : relVs φ h g w xs args.toList) (nt : Nat) :
    SRel φ nt h.length ⟨argEnv 0 xs, h, true⟩ g { tmps := args ++ Array.replicate (nt - args.size) undef, defers := [] } w where
  env k := by
    rw [argEnv_get]
    simp only [Nat.zero_le, if_true, Nat.sub_zero]
    cases hx : xs[k]? with
    | none => simp [relV]
    | some x =>
      obtain ⟨v, hv, hrel⟩ := relVs_get hr hx
      have hk : k < args.size := by
        rcases Nat.lt_or_ge k args.size with h1 | h1
        · exact h1
        · simp [Array.getElem?_eq_none h1] at hv
      have : (args ++ Array.replicate (nt - args.size) undef).getD k undef = v := by
        rw [Array.getD_eq_getD_getElem?, Array.getElem?_append_left hk]
        simp at hv
        simp [hv]
      rw [this]
      exact hrel
  heap := hH
  size := by simp; omega
  defers := rfl
  len := Nat.le_refl _
theorem tuple_rel {h : List O} {zs : List V} {us : List Value} (hr : relVs φ h g w zs us) : relV φ h g w (tuple zs) (vtuple us) := by
  match zs, us, hr with
  | [], [], _ => simp only [tuple, relV]; exact ⟨#[], rfl, by simp [relVs]⟩
  | [z], [u], hr => simp only [relVs] at hr; exact hr.1
  | z :: z' :: zs, u :: u' :: us, hr => simp only [tuple, relV]; exact ⟨(u :: u' :: us).toArray, rfl, by simpa using hr⟩
  | [], _ :: _, hr => simp [relVs] at hr
  | _ :: _, [], hr => simp [relVs] at hr
  | [_], _ :: _ :: _, hr => simp [relVs] at hr
  | _ :: _ :: _, [_], hr => simp [relVs] at hr
theorem sub_nil {h : List O} {L : List Nat} (hs : sub h L = []) : L = [] := by
  cases L with
  | nil => rfl
  | cons n L => simp [sub] at hs
theorem quiet_ok (hm : P.follows .mixedOrders = true) {Pv : Prog} (hF : ∀ f F, Pv f = some F → FnOk P φ f F) {n : Nat} (ih : QuietCall P φ (iter Pv n) ∧ LoopOk P φ (iter Pv n)) : QuietCall P φ (iter Pv (n + 1)) := by
  intro f xs h v h1 hrec
  simp only [iter, stepR] at hrec
  cases hfn : Pv f with
  | none => rw [hfn] at hrec; simp at hrec
  | some F =>
    rw [hfn] at hrec
    rcases hF f F hfn with ⟨hpn, fn, c, k1, k2, k3, k4, k5⟩ | ⟨p, hp, hok⟩
    rotate_left
    · simp only at hrec
      simp only [hp, Option.map_eq_some_iff, Res.val.injEq] at hrec
      obtain ⟨⟨v', h'⟩, hr, rfl, rfl⟩ := hrec
      exact hok xs h v' h' hr
    simp only [hpn] at hrec
    refine ⟨⟨fn, k1, k2, by simp [k3]⟩, fun g w args hH hargs => ?_⟩
    cases he : evC (iter Pv n) h.length F.code ⟨argEnv 0 xs, h, true⟩ with
    | mk e s =>
      rw [he] at hrec
      have hfin : finish F.res F.keep h.length s = some (.val v h1) ∧ (e = .normal ∨ e = .ret) := by
        cases e with
        | normal => exact ⟨hrec, .inl rfl⟩
        | ret => exact ⟨hrec, .inr rfl⟩
        | exit id => simp at hrec
      obtain ⟨hfin, hee⟩ := hfin
      have hok := finish_ok hfin
      refine calls_of_wp k1 k3 (sim_C hm ih.1 ih.2 c F.code k4 (start_rel hH hargs fn.ntmps) (by rw [he]; exact hok) fun g' a' w' hs' hf' => ?_)
      rw [he] at hs' hf' ⊢
      have hpost : a'.defers = [] ∧ ∃ v', (results fn a'.tmps).run P w' = .ok v' w' ∧ ∃ v'' g'', Ending.returned v' = .returned v'' ∧ HRel φ h1 g'' w' ∧ relV φ h1 g'' w' v v'' ∧ Frame h.length h g w h1 g'' w' := by
        refine ⟨hs'.defers, ?_⟩
        simp only [finish, hok, if_true, Option.bind_eq_some_iff, Option.map_eq_some_iff] at hfin
        obtain ⟨vs', ⟨vs, hvs, rfl⟩, hfin⟩ := hfin
        obtain ⟨us, hus, hrel⟩ := res_rel hs' k5 hvs
        have hrel := relVs_wk hrel
        refine ⟨_, run_results hus, vtuple us, ?_⟩
        split at hfin
        · rename_i hm0
          simp only [Option.map_eq_some_iff, Res.val.injEq] at hfin
          obtain ⟨zs, hzs, rfl, rfl⟩ := hfin
          obtain ⟨I', k1, k2, k3⟩ := thaw_rel hs' hzs hrel true
          have hh : h = [] := List.eq_nil_of_length_eq_zero hm0.1
          subst hh
          have hfr := hf'.trans k2
          obtain ⟨q1, q2⟩ := frame_nil hfr
          refine ⟨⟨fun _ => 0, fun _ => 0, I'⟩, rfl, hrel_nil k1.heap.new, ?_, ?_⟩
          · exact tuple_rel (relVs_of_D k3)
          · exact ⟨hfr.ext, hfr.size, hfr.os, hfr.tape, hfr.output, fun n hn => by simp at hn, hfr.keep, fun n hn => by simp [hget, O.live] at hn, fun n hn => by simp at hn⟩
        · simp only [Option.map_eq_some_iff, Res.val.injEq] at hfin
          obtain ⟨L, hL, rfl, rfl⟩ := hfin
          have hcut := hrel_cut hL hs'.heap
          obtain ⟨_, hroots, _⟩ := cut_spec hL
          have hren := relVs_ren (L := L) hroots hrel
          exact ⟨gcut g' L, rfl, hcut, tuple_rel hren, hf'.trans (frame_cut hL)⟩
      rcases hee with rfl | rfl
      · exact hpost
      · exact hpost
theorem all_ok (hm : P.follows .mixedOrders = true) {Pv : Prog} (hF : ∀ f F, Pv f = some F → FnOk P φ f F) (n : Nat) : QuietCall P φ (iter Pv n) ∧ LoopOk P φ (iter Pv n) := by
  induction n using Nat.strongRecOn with
  | _ n ih =>
    refine ⟨?_, loop_ok hm ih⟩
    cases n with
    | zero => intro f xs hp v h1 h; simp [iter] at h
    | succ n => exact quiet_ok hm hF (ih n (by omega))
theorem all_ok_ev (hm : P.follows .mixedOrders = true) {Pv : Prog} (hF : ∀ f F, Pv f = some F → FnOk P φ f F) : QuietCall P φ (ev Pv) ∧ LoopOk P φ (ev Pv) :=
  ⟨fun f xs h v h1 he => let ⟨n, hn⟩ := ev_some.1 he; (all_ok hm hF n).1 f xs h v h1 hn,
   fun nt m live x c env h e env' h' hc he => let ⟨n, hn⟩ := ev_some.1 he; (all_ok hm hF n).2 nt m live x c env h e env' h' hc hn⟩
/-- What VS says of a call of pure values, the model does. -/
theorem calls_of_ev (hm : P.follows .mixedOrders = true) {Pv : Prog} (hF : ∀ f F, Pv f = some F → FnOk P φ f F) {f : Nat} {ds : List D} {v : V} (h : ev Pv (.call f (ds.map V.d) []) = some (.val v []))
    {I : Nat → Nat} {args : Array Value} (hI : ∀ b, w.heap.size ≤ b → I b = 0) (hr : relDs φ I w ds args.toList) :
    Calls P (φ f) args w fun e w' => ∃ v' I', e = .returned v' ∧ Grew w w' ∧ (∀ b, b < w.heap.size → I' b = I b) ∧ (∀ b, w'.heap.size ≤ b → I' b = 0) ∧ ∀ g : Gh, g.I = I' → relV φ [] g w' v v' := by
  obtain ⟨n, hn⟩ := ev_some.1 h
  refine Calls.mono (((all_ok hm hF n).1 f _ [] v [] hn).2 ⟨fun _ => 0, fun _ => 0, I⟩ w args (hrel_nil hI) (relDs_V hr)) fun e w' hh => ?_
  obtain ⟨v', g', rfl, hH, hrel, hfr⟩ := hh
  obtain ⟨q1, q2⟩ := frame_nil hfr
  exact ⟨v', g'.I, rfl, q1, q2, hH.new, fun gg hg => relV_gh hg hrel⟩
end
end Go.VS
/-
  VS, part 30: from the reading of a law's arguments to VS data; from VS's answer to what the row asks.
-/
namespace Go.VS
open Go.ChangeShapes Go.WideShapes Go.ChangeAt Go.RowKit

/-- Types of plain data. -/
inductive Ty where
  | b
  | i (k : IntKind)
  | s
  | sl (es : Nat) (e : Ty)
  | st (fs : List Ty)

mutual
def Ty.size : Ty → Nat
  | .st fs => Ty.sizes fs
  | _ => 1
def Ty.sizes : List Ty → Nat
  | [] => 0
  | t :: ts => t.size + Ty.sizes ts
end
/-- A number of a kind. -/
def InK (k : IntKind) (n : Int) : Prop := k.min ≤ n ∧ n ≤ k.max
mutual
/-- Cells of a type. -/
def WT : Ty → List D → Prop
  | .b, cs => ∃ x, cs = [.b x]
  | .i k, cs => ∃ n, cs = [.i k n] ∧ InK k n
  | .s, cs => ∃ x, cs = [.s x] ∧ x.length ≤ maxLen
  | .sl es e, cs => ∃ nl rows, cs = [.sl es nl rows] ∧ (nl = true → rows = []) ∧ rows.length ≤ maxLen ∧ ∀ r ∈ rows, WT e r
  | .st fs, cs => WTs fs cs
def WTs : List Ty → List D → Prop
  | [], cs => cs = []
  | t :: ts, cs => ∃ a b, cs = a ++ b ∧ WT t a ∧ WTs ts b
end
/-- A value of a type. -/
def WV : Ty → D → Prop
  | .st fs, x => ∃ cs, x = .ag cs ∧ WTs fs cs
  | t, x => WT t [x]
def WVs : List Ty → List D → Prop
  | [], xs => xs = []
  | t :: ts, xs => ∃ x r, xs = x :: r ∧ WV t x ∧ WVs ts r

section
variable (P : Program)
mutual
def chkTy : Ty → TypeId → Bool
  | .b, t => match P.underlying t with | some .bool => true | _ => false
  | .i k, t => match P.underlying t with | some (.int k') => k == k' | _ => false
  | .s, t => match P.underlying t with | some .string => true | _ => false
  | .sl es e, t => match P.underlying t with | some (.slice u) => P.cellsOf u == es && decide (0 < es) && e.size == es && chkTy e u | _ => false
  | .st fs, t => match P.underlying t with | some (.struct gs) => P.cellsOf t == Ty.sizes fs && chkTys fs gs.toList 0 | _ => false
def chkTys : List Ty → List Field → Nat → Bool
  | [], [], _ => true
  | t :: ts, g :: gs, o => g.offset == o && P.cellsOf g.type == t.size && chkTy t g.type && chkTys ts gs (o + t.size)
  | _, _, _ => false
end
end
mutual
theorem WT_length : ∀ {t : Ty} {cs : List D}, WT t cs → cs.length = t.size
  | .b, cs, h => by simp only [WT] at h; obtain ⟨x, rfl⟩ := h; rfl
  | .i k, cs, h => by simp only [WT] at h; obtain ⟨x, rfl, _⟩ := h; rfl
  | .s, cs, h => by simp only [WT] at h; obtain ⟨x, rfl, _⟩ := h; rfl
  | .sl es e, cs, h => by simp only [WT] at h; obtain ⟨x, r, rfl, _⟩ := h; rfl
  | .st fs, cs, h => by simp only [WT] at h; simpa [Ty.size] using WTs_length h
theorem WTs_length : ∀ {ts : List Ty} {cs : List D}, WTs ts cs → cs.length = Ty.sizes ts
  | [], cs, h => by simp only [WTs] at h; subst h; rfl
  | t :: ts, cs, h => by
    simp only [WTs] at h
    obtain ⟨a, b, rfl, h1, h2⟩ := h
    simp [Ty.sizes, WT_length h1, WTs_length h2]
end

/-- Nothing that was there when the call began ever changes. -/
def I0 (w : World) (b : Nat) : Nat := match w.heap[b]? with | some (.cells c _ _) => c.size | _ => 0
theorem I0_new (w : World) : ∀ b, w.heap.size ≤ b → I0 w b = 0 := by
  intro b hb
  simp [I0, Array.getElem?_eq_none hb]
theorem cell_I0 {w : World} {b i : Nat} {v : Value} (h : w.cell? ⟨b, i, none⟩ = some v) : i < I0 w b := by
  simp only [World.cell?] at h
  unfold I0
  split at h
  · rename_i c T f hb
    rw [hb]
    simp only [Option.isSome_none, Bool.false_eq_true, if_false] at h
    exact (Array.getElem?_eq_some_iff.1 h).1
  · simp at h
section
variable {H : Type} {enc : TypeId × Value → H} {P : Program} {w : World} {φ : Nat → Nat}

theorem cells_get {a : Addr} {n : Nat} {cs : List Value} (h : w.cells? 0 a n = some cs) : cs.length = n ∧ ∀ i, i < n → ∃ v, cs[i]? = some v ∧ w.cell? (a.add i) = some v := by
  simp only [World.cells?, Nat.zero_le, if_true] at h
  have h1 := mapM_some_length h
  simp only [List.length_range] at h1
  refine ⟨h1, fun i hi => ?_⟩
  have h2 := mapM_some_get h i i (by simp [hi])
  have hv : cs[i]? = some cs[i] := by simp
  exact ⟨_, hv, h2.trans hv⟩
theorem add_none (a : Addr) (n : Nat) (h : a.spot = none) : a.add n = ⟨a.block, a.off + n, none⟩ := by
  obtain ⟨b, o, s⟩ := a
  simp only at h
  subst h
  exact addr_add b o n
theorem cell_spot {a : Addr} {v : Value} (h : w.cell? a = some v) : a.spot = none := by
  simp only [World.cell?] at h
  split at h
  · cases hs : a.spot with
    | none => rfl
    | some x => simp [hs] at h
  · simp at h

theorem trod_rel (sp : Nat → Bool) : ∀ (fuel : Nat) {ty : Ty} {t : TypeId} {cs : List Value} {x : DataW H × List MemPlace}, chkTy P ty t = true → DataW.trod enc P w 0 sp true fuel t cs = some x →
    ∃ xs, WT ty xs ∧ relDs φ (I0 w) w xs cs ∧ ∀ v ∈ cs, v.oneCell' = true := by
  intro fuel
  induction fuel with
  | zero => intro ty t cs x _ h; simp [DataW.trod] at h
  | succ fuel ih =>
    intro ty t cs x hc h
    cases ty with
    | b =>
      simp only [chkTy] at hc
      split at hc
      · rename_i hu
        obtain ⟨b, rfl, _⟩ := DataW.trod_bool hu h
        exact ⟨[.b b], by simp only [WT]; exact ⟨b, rfl⟩, by simp [relDs, relD], by simp [Value.oneCell']⟩
      · simp at hc
    | i k =>
      simp only [chkTy] at hc
      split at hc
      · rename_i k' hu
        rw [beq_iff_eq] at hc
        subst hc
        obtain ⟨n, rfl, _, hw⟩ := DataW.trod_int hu h
        refine ⟨[.i k n], ?_, by simp [relDs, relD], by simp [Value.oneCell']⟩
        simp only [WT]
        exact ⟨n, rfl, by simpa [Lit.wf, InK] using hw⟩
      · simp at hc
    | s =>
      simp only [chkTy] at hc
      split at hc
      · rename_i hu
        obtain ⟨s, rfl, _, hs⟩ := DataW.trod_string hu h
        refine ⟨[.s s.toList], ?_, by simp [relDs, relD], by simp [Value.oneCell']⟩
        simp only [WT]
        refine ⟨s.toList, rfl, ?_⟩
        have : s.toList.length = s.size := by simp [ByteArray.toList_eq]
        omega
      · simp at hc
    | sl es e =>
      simp only [chkTy] at hc
      split at hc
      · rename_i u hu
        simp only [Bool.and_eq_true, beq_iff_eq, decide_eq_true_eq] at hc
        obtain ⟨⟨⟨hes, hpos⟩, hsz⟩, hce⟩ := hc
        rcases DataW.trod_slice hu h with ⟨rfl, _⟩ | ⟨a, len, cap, elems, rest, n, hn, rfl, _, _, hlc, hcm, hel, hcell, _, _⟩
        · refine ⟨[.sl es true []], ?_, by simp [relDs, relD], by simp [Value.oneCell']⟩
          simp only [WT]
          exact ⟨true, [], rfl, fun _ => rfl, by simp, by simp⟩
        · obtain rfl : fuel = n := by omega
          rw [hes] at hcell
          -- each element
          have hrow : ∀ i, i < len → ∃ row vs, WT e row ∧ relDs φ (I0 w) w row vs ∧ (∀ v ∈ vs, v.oneCell' = true) ∧ vs.length = es ∧ ∀ j v, vs[j]? = some v → w.cell? ((a.add (i * es)).add j) = some v := by
            intro i hi
            have hy := hcell i hi
            rw [show elems[i]? = some elems[i] by simp] at hy
            simp only [Option.bind_eq_some_iff] at hy
            obtain ⟨vs, hvs, ht⟩ := hy
            obtain ⟨row, k1, k2, k3⟩ := ih (ty := e) hce ht
            obtain ⟨l1, l2⟩ := cells_get hvs
            refine ⟨row, vs, k1, k2, k3, l1, fun j v hj => ?_⟩
            have hj' : j < es := by
              rw [← l1]
              exact (List.getElem?_eq_some_iff.1 hj).1
            obtain ⟨v', hv', hc'⟩ := l2 j hj'
            rw [hv'] at hj
            simp at hj
            subst hj
            exact hc'
          let row : Nat → List D := fun i => if h : i < len then Classical.choose (hrow i h) else []
          have hrow2 : ∀ i, i < len → ∃ vs, WT e (row i) ∧ relDs φ (I0 w) w (row i) vs ∧ (∀ v ∈ vs, v.oneCell' = true) ∧ vs.length = es ∧ ∀ j v, vs[j]? = some v → w.cell? ((a.add (i * es)).add j) = some v := by
            intro i hi
            have := Classical.choose_spec (hrow i hi)
            simpa only [row, hi, dite_true] using this
          clear_value row
          refine ⟨[.sl es false ((List.range len).map row)], ?_, ?_, by simp [Value.oneCell']⟩
          · simp only [WT]
            refine ⟨false, _, rfl, by simp, by simp; omega, fun r hr => ?_⟩
            simp only [List.mem_map, List.mem_range] at hr
            obtain ⟨i, hi, rfl⟩ := hr
            exact (hrow2 i hi).choose_spec.1
          · simp only [relDs, and_true, relD]
            refine ⟨some a, cap, by simp, by simpa using hlc, by simp, fun _ => ⟨a, rfl, fun hne => ?_⟩⟩
            have hl0 : 0 < len := by
              rcases Nat.eq_zero_or_pos len with h0 | h0
              · subst h0; simp at hne
              · exact h0
            have hspot : a.spot = none := by
              obtain ⟨vs, _, _, _, hl, hcell⟩ := hrow2 0 hl0
              have hv : vs[0]? = some vs[0] := by simp
              have := cell_spot (hcell 0 _ hv)
              simpa [Addr.add] using this
            have hcellAt : ∀ i, ∀ vs, (∀ j v, vs[j]? = some v → w.cell? ((a.add (i * es)).add j) = some v) → relDs φ (I0 w) w (row i) vs → (∀ v ∈ vs, v.oneCell' = true) → relCells φ (I0 w) w a.block (a.off + i * es) (row i) := by
              intro i vs hcell hr h1
              refine relCells_of_vals hr (fun j v hj => ?_) h1
              have := hcell j v hj
              rw [add_none _ _ hspot] at this
              rwa [addr_add] at this
            refine ⟨hspot, ?_, relRows_of fun r rw' hr => ?_⟩
            · obtain ⟨vs, _, _, _, hl, hcell⟩ := hrow2 (len - 1) (by omega)
              have hv : vs[es - 1]? = some vs[es - 1] := by simp
              have := hcell _ _ hv
              rw [add_none _ _ hspot, addr_add] at this
              have := cell_I0 this
              simp only [List.length_map, List.length_range]
              have e1 : es * len = (len - 1) * es + es := by
                obtain ⟨k, rfl⟩ : ∃ k, len = k + 1 := ⟨len - 1, by omega⟩
                simp [Nat.mul_succ, Nat.mul_comm]
              omega
            · simp only [List.getElem?_map, Option.map_eq_some_iff] at hr
              obtain ⟨i, hi, rfl⟩ := hr
              obtain ⟨hrl, hri⟩ := List.getElem?_eq_some_iff.1 hi
              simp only [List.getElem_range] at hri
              subst hri
              simp only [List.length_range] at hrl
              obtain ⟨vs, k1, k2, k3, k4, k5⟩ := hrow2 r hrl
              exact ⟨by rw [WT_length k1, hsz], hcellAt r vs k5 k2 k3⟩
      · simp at hc
    | st fs =>
      simp only [chkTy] at hc
      split at hc
      · rename_i gs hu
        simp only [Bool.and_eq_true, beq_iff_eq] at hc
        obtain ⟨hsz, hcs⟩ := hc
        obtain ⟨xs, n, hn, _, hl, hxl, hxs⟩ := DataW.trod_struct hu h
        obtain rfl : fuel = n := by omega
        rw [hsz] at hl
        -- fields, one after the other
        have key : ∀ (fs : List Ty) (gl : List Field) (o : Nat), chkTys P fs gl o = true → (∀ f ∈ gl, ∃ x, DataW.trod enc P w 0 sp true fuel f.type ((cs.drop f.offset).take (P.cellsOf f.type)) = some x) →
            o + Ty.sizes fs = cs.length → ∃ ys, WTs fs ys ∧ relDs φ (I0 w) w ys (cs.drop o) ∧ ∀ v ∈ cs.drop o, v.oneCell' = true := by
          intro fs
          induction fs with
          | nil =>
            intro gl o h1 _ h3
            simp only [Ty.sizes] at h3
            have : cs.drop o = [] := List.drop_eq_nil_of_le (by omega)
            rw [this]
            exact ⟨[], by simp [WTs], by simp [relDs], by simp⟩
          | cons ty fs ihf =>
            intro gl o h1 h2 h3
            cases gl with
            | nil => simp [chkTys] at h1
            | cons g gl =>
              simp only [chkTys, Bool.and_eq_true, beq_iff_eq] at h1
              obtain ⟨⟨⟨ho, hgs⟩, hgt⟩, hrest⟩ := h1
              obtain ⟨y, hy⟩ := h2 g (by simp)
              rw [ho, hgs] at hy
              obtain ⟨a, a1, a2, a3⟩ := ih (ty := ty) hgt hy
              simp only [Ty.sizes] at h3
              obtain ⟨b, b1, b2, b3⟩ := ihf gl (o + ty.size) hrest (fun f hf => h2 f (by simp [hf])) (by omega)
              have hsplit : cs.drop o = (cs.drop o).take ty.size ++ cs.drop (o + ty.size) := by
                rw [← List.drop_drop, List.take_append_drop]
              refine ⟨a ++ b, by simp only [WTs]; exact ⟨a, b, rfl, a1, b1⟩, ?_, fun v hv => ?_⟩
              · rw [hsplit]; exact relDs_append a2 b2
              · rw [hsplit] at hv
                exact (List.mem_append.1 hv).elim (a3 v) (b3 v)
        obtain ⟨ys, y1, y2, y3⟩ := key fs gs.toList 0 hcs (fun f hf => by
          obtain ⟨i, hi, rfl⟩ := List.getElem_of_mem hf
          have hi' : i < gs.size := by simpa using hi
          have := hxs i gs[i] (by simp)
          have hx : xs[i]? = some (xs[i]'(by omega)) := by simp
          exact ⟨_, by simpa using this.trans hx⟩) (by simpa using hl.symm)
        exact ⟨ys, by simpa only [WT] using y1, by simpa using y2, by simpa using y3⟩
      · simp at hc
/-- An argument. -/
theorem param_rel {sp : Nat → Bool} {ty : Ty} {t : TypeId} {v : Value} {d : DataW H} {ps : List MemPlace} {base : Nat} (hc : chkTy P ty t = true) (hok : Value.okWide P w .any base t v) (h : DataW.Trod enc P w 0 sp true t v d ps) :
    ∃ x, WV ty x ∧ relD φ (I0 w) w x v := by
  obtain ⟨fuel, h⟩ := h
  obtain ⟨xs, h1, h2, h3⟩ := trod_rel (φ := φ) sp fuel hc h
  have one : v.cells.toList = [v] → ∃ x, xs = [x] ∧ relD φ (I0 w) w x v := by
    intro he
    rw [he] at h2
    match xs, h2 with
    | [x], h2 => simp only [relDs, and_true] at h2; exact ⟨x, rfl, h2⟩
    | [], h2 => simp [relDs] at h2
    | _ :: _ :: _, h2 => simp [relDs] at h2
  cases ty with
  | st fs =>
    simp only [chkTy] at hc
    split at hc
    · rename_i gs hu
      obtain ⟨A, rfl, _⟩ := okWide_struct hu hok
      refine ⟨.ag xs, by simp only [WV]; exact ⟨xs, rfl, by simpa only [WT] using h1⟩, ?_⟩
      simp only [relD]
      exact ⟨A, rfl, h2, h3⟩
    · simp at hc
  | b =>
    simp only [chkTy] at hc
    split at hc
    · rename_i hu
      obtain ⟨b, rfl⟩ := okWide_bool hu hok
      obtain ⟨x, rfl, h⟩ := one rfl
      exact ⟨x, h1, h⟩
    · simp at hc
  | i k =>
    simp only [chkTy] at hc
    split at hc
    · rename_i k' hu
      obtain ⟨b, rfl⟩ := okWide_int hu hok
      obtain ⟨x, rfl, h⟩ := one rfl
      exact ⟨x, h1, h⟩
    · simp at hc
  | s =>
    simp only [chkTy] at hc
    split at hc
    · rename_i hu
      obtain ⟨b, rfl⟩ := okWide_string hu hok
      obtain ⟨x, rfl, h⟩ := one rfl
      exact ⟨x, h1, h⟩
    · simp at hc
  | sl es e =>
    simp only [chkTy] at hc
    split at hc
    · rename_i u hu
      obtain ⟨a, l, c, rfl⟩ := okWide_slice hu hok
      obtain ⟨x, rfl, h⟩ := one rfl
      exact ⟨x, h1, h⟩
    · simp at hc
def chkParams (P : Program) : List Ty → List TypeId → Bool
  | [], [] => true
  | ty :: tys, t :: ts => chkTy P ty t && P.readableRec t && decide (t < P.types.size) && chkParams P tys ts
  | _, _ => false
theorem params_rel {sp : Nat → Bool} {base : Nat} : ∀ {tys : List Ty} {ts : List TypeId} {vs : List Value} {ds : List (DataW H)} {ps : List MemPlace}, chkParams P tys ts = true →
    (∀ (j : Nat) t v, ts[j]? = some t → vs[j]? = some v → Value.okWide P w .any base t v) → DataW.TrodAll enc P w 0 sp true ts vs ds ps → ds.length = tys.length ∧ ∃ xs, WVs tys xs ∧ relDs φ (I0 w) w xs vs
  | [], [], [], [], ps, _, _, _ => ⟨rfl, [], by simp [WVs], by simp [relDs]⟩
  | ty :: tys, t :: ts, v :: vs, d :: ds, ps, hc, hok, h => by
    simp only [chkParams, Bool.and_eq_true] at hc
    simp only [DataW.TrodAll] at h
    obtain ⟨p, q, h1, h2, _⟩ := h
    obtain ⟨x, k1, k2⟩ := param_rel (φ := φ) hc.1.1.1 (hok 0 t v rfl rfl) h1
    obtain ⟨hl, xs, l1, l2⟩ := params_rel hc.2 (fun j t v ht hv => hok (j + 1) t v (by simpa using ht) (by simpa using hv)) h2
    exact ⟨by simp [hl], x :: xs, by simp only [WVs]; exact ⟨x, xs, rfl, k1, l1⟩, by simp only [relDs]; exact ⟨k2, l2⟩⟩
  | [], _ :: _, _, _, _, hc, _, _ => by simp [chkParams] at hc
  | _ :: _, [], _, _, _, hc, _, _ => by simp [chkParams] at hc
  | [], [], _ :: _, _, _, _, _, h => by simp [DataW.TrodAll] at h
  | [], [], [], _ :: _, _, _, _, h => by simp [DataW.TrodAll] at h
  | _ :: _, _ :: _, [], _, _, _, _, h => by simp [DataW.TrodAll] at h
  | _ :: _, _ :: _, _ :: _, [], _, _, _, h => by simp [DataW.TrodAll] at h
theorem params_stay (hl : laidOutB P = true) {W' : World} (hb : Below w.heap.size w W') : ∀ {tys : List Ty} {ts : List TypeId} {vs : List Value} {ds : List (DataW H)} {ps : List MemPlace}, chkParams P tys ts = true →
    DataW.TrodAll enc P w 0 (fun _ => true) true ts vs ds ps → (∀ x ∈ ps, x.block < w.heap.size) → DataW.TrodAll enc P W' 0 (fun b => decide (b < w.heap.size)) true ts vs ds ps
  | [], [], [], [], ps, _, h, _ => h
  | ty :: tys, t :: ts, v :: vs, d :: ds, ps, hc, h, hlt => by
    simp only [chkParams, Bool.and_eq_true, decide_eq_true_eq] at hc
    simp only [DataW.TrodAll] at h ⊢
    obtain ⟨p, q, h1, h2, rfl⟩ := h
    exact ⟨p, q, Below.trod hl hc.1.1.2 hc.1.2 h1 hb (fun x hx => hlt x (by simp [hx])), params_stay hl hb hc.2 h2 (fun x hx => hlt x (by simp [hx])), rfl⟩
  | [], _ :: _, _, _, _, hc, _, _ => by simp [chkParams] at hc
  | _ :: _, [], _, _, _, hc, _, _ => by simp [chkParams] at hc
  | [], [], _ :: _, _, _, _, h, _ => by simp [DataW.TrodAll] at h
  | [], [], [], _ :: _, _, _, h, _ => by simp [DataW.TrodAll] at h
  | _ :: _, _ :: _, [], _, _, _, h, _ => by simp [DataW.TrodAll] at h
  | _ :: _, _ :: _, _ :: _, [], _, _, h, _ => by simp [DataW.TrodAll] at h
end
/-- A law whose arguments are plain data, and of which VS says that it answers true: what the row asks. -/
theorem law_contract {P : Program} {φ : Nat → Nat} {Pv : Prog} {f : Nat} {fn : Func} {s : ChangeSpec} {tys : List Ty} {rt : TypeId} (hm : P.follows .mixedOrders = true) (hF : ∀ f F, Pv f = some F → FnOk P φ f F) (hl : laidOutB P = true)
    (hps : chkParams P tys fn.params.toList = true) (hrt : fn.resultTypes = #[rt]) (hu : P.underlying rt = some .bool) (hvars : s.vars = [])
    (hs : ∀ (H : Type) (ds : List (DataW H)), ds.length = tys.length → s.fn H ds = { results := [.lit (.bool true)], args := ds, vars := [] })
    (law : ∀ xs, WVs tys xs → ev Pv (.call f (xs.map V.d) []) = some (.val (.d (.b true)) []))
    {H : Type} {enc : TypeId × Value → H} {W : World} {base : Nat} {args : Array Value} {ds gs : List (DataW H)} {before : List MemPlace}
    (hval : ∀ (j : Nat) t v, fn.params[j]? = some t → args[j]? = some v → Value.okWide P W .any base t v)
    (hW : DataW.Whole enc P fn.params.toList s.vars false W args.toList ds gs before) :
    Calls P (φ f) args W fun e W' => ∃ v, e = .returned v ∧ s.post enc P fn false true false false W args v W' := by
  have hW' := hW
  obtain ⟨p, q, hA, hV, rfl, hfz, hnd⟩ := hW
  rw [hvars] at hV
  obtain ⟨rfl, rfl⟩ := trodVars_none hV
  obtain ⟨hdl, xs, h1, h2⟩ := params_rel (φ := φ) hps (fun j t v ht hv => hval j t v (by simpa using ht) (by simpa using hv)) hA
  refine (calls_of_ev hm hF (law xs h1) (I0_new W) h2).mono fun e W' h => ?_
  obtain ⟨v', I', rfl, hg, _, _, hr⟩ := h
  have hv := hr ⟨fun _ => 0, fun _ => 0, I'⟩ rfl
  have hv' := relD_bool (by simpa only [relV] using hv)
  subst hv'
  have hB : Below W.heap.size W W' := ⟨hg.os, hg.tape, hg.output, hg.size, hg.same⟩
  have hlt : ∀ x ∈ p, x.block < W.heap.size := fun x hx => by simpa using hW'.lt x (by simp [hx])
  have hspec := hs H ds hdl
  refine ⟨_, rfl, ds, [], p ++ [], [], p, [], hW', ?_, ?_, ?_, hB.frame _, fun h => by simp at h⟩
  · rw [List.append_nil, hspec, hrt]
    exact trodAll_mk1 (shut_bool hu true)
  · rw [List.append_nil, hspec]
    exact params_stay hl hB hps hA hlt
  · rw [hvars, List.append_nil, hspec]
    exact (rfl : ([] : List MemPlace) = [])
end Go.VS
