import Derived.Test.YtjjkiaahcoiihaaV02
import Derived.Laws.Externs
import Derived.KernelRfl
import Derived.Test.YtjjkiaahcoiihaaV01
import Derived.MapKept
import Derived.Laws.MakeOwn
import Derived.RangeFuncRecord
import Derived.OrdersIn
import Derived.TacticsIn
import Derived.Scope
import Derived.Test.YtjjkiaahcoiihaaV00
import Derived.Tactics
import Derived.Orders
set_option linter.all false
namespace Go.VS
section
variable {P : Program} {φ : Phi}
variable {nt m dB : Nat} {s : St} {g : Gh} {a : Act} {w : World} {K : Act → World → Prop} {Q : Exit → Act → World → Prop} {o : Oper}
theorem sim_cap (hs : SRel φ nt m dB s g a w) {rec : Rec} {d : Nat} {x : A} (hc : chkI P φ nt o (.cap d x) = true) (hok : (evI rec (.cap d x) s).ok = true)
    (hK : After φ nt m dB s g w (evI rec (.cap d x) s) o a K) : o.wp P a w K Q := by
  simp only [chkI, Bool.and_eq_true] at hc
  obtain ⟨hd, h⟩ := hc
  split at h
  · rename_i c ho
    split at h
    · rename_i y t hcal hargs htys
      simp only [Bool.and_eq_true] at h
      obtain ⟨hx, ht⟩ := h
      split at ht
      · rename_i e hu
        obtain ⟨cal, args, tys⟩ := c
        simp only at hcal hargs htys
        have hargs' : args = #[y] := by rw [← Array.toList_inj]; exact hargs
        have htys' : tys = #[t] := by rw [← Array.toList_inj]; exact htys
        subst hcal; subst hargs'; subst htys'
        have rx := chkA_rel hs hx
        simp only [evI] at hok hK
        refine sim_putO hs hd hok (fun v hv => ?_) hK
        have fin : ∀ {ad : Option Addr} {n cap : Nat}, a.eval y = .slice ad n cap → v = .d (.i .i64 cap) → ∃ v', (execOp a.eval o).run P w = .ok (.value v') w ∧ relV φ s.heap g w v v' := by
          intro ad n cap he hv
          subst hv
          exact ⟨.int .i64 cap, by simp [execOp, ho, resolve, invoke, builtin, he, Builtin.cap_, run_underlying hu, goInt], by simp [relV, relD]⟩
        unfold capV at hv
        split at hv
        · rename_i e' xs hp
          rw [hp] at rx
          simp only [relV, relD] at rx
          obtain ⟨ad, cap, he, _, h1, _⟩ := rx
          obtain ⟨_, rfl⟩ := h1 trivial
          simp at hv
          exact fin he (by rw [← hv]; rfl)
        · rename_i e' hp
          rw [hp] at rx
          simp only [relV] at rx
          obtain ⟨ad, he⟩ := rx
          simp at hv
          exact fin he (by rw [← hv]; rfl)
        · rename_i n off len hp
          rw [hp] at rx
          simp only [relV] at rx
          split at hv
          · rename_i e' ex rows hn
            split at hv
            · rename_i hle
              obtain ⟨cap, he, hlc, hm, _⟩ := rx.2.2 e' (by rw [hn]; rfl)
              rw [hn] at hm
              simp only [O.len] at hm
              simp at hv
              have : rows.length - off = cap := by omega
              exact fin he (by rw [← hv, this])
            · simp at hv
          · simp at hv
        · simp at hv
      · simp at ht
    · simp at h
  · simp at h
theorem run_appendz_new {t t' ty e : TypeId} {k' : IntKind} {i : TypeInfo} {z : Value} (ht : P.underlying t = some (.slice e)) (ht' : P.underlying t' = some (.int k')) (hi : P.info? e = some i) (hz : i.zero = some z) {sLen sCap n : Nat} {base : Option Addr} {olds : List Value} {q : IntKind}
    (hlo : olds.length = sLen * i.size) (hco : olds ≠ [] → ∃ b off, base = some ⟨b, off, none⟩ ∧ ∀ (j : Nat) (u : Value), olds[j]? = some u → w.cell? ⟨b, off + j, none⟩ = some u)
    (hgr : sCap < sLen + n) (hroom : sLen + n ≤ room) (hby : i.bytes ≤ 16384) (hpos : 0 < i.size) (hn0 : 0 < n) :
    (Builtin.append_ #[t, t'] ty #[.slice base sLen sCap, .int q n]).run P w =
      .ok (.slice (some ⟨w.heap.size, 0, none⟩) (sLen + n) (grownCap w (sLen + n) sCap e)) (w.drew.alloc (.cells (olds ++ (Builtin.zeroCells z.cells n).toList ++ (Builtin.zeroCells z.cells (grownCap w (sLen + n) sCap e - (sLen + n))).toList).toArray e)) := by
  have hn : ¬ (sLen + n ≤ sCap) := by omega
  have hroom' : sLen + n ≤ 4294967296 := hroom
  have h63' : ¬ (9223372036854775807 < ((sLen : Int) + (n : Int))) := by omega
  have hmul : (sLen + n) * i.bytes ≤ 4294967296 * 16384 := Nat.mul_le_mul hroom' hby
  have h48' : ¬ (281474976710656 < Builtin.nextslicecap (sLen + n) sCap * i.bytes) := by
    have := growslice_fits (bytes := i.bytes) hgr (by omega)
    omega
  have hfo := run_firstCells (P := P) (w := w.drew) (xa := base) (xc := sCap) hlo (fun h => by obtain ⟨b, off, h1, h2⟩ := hco h; exact ⟨b, off, h1, by simpa using h2⟩)
  have hwrap : IntKind.i64.wrap (n : Int) = n := by
    have h1 : (n : Int) ≤ 4294967296 := by omega
    have e1 : (n : Int) % (2 ^ (IntKind.i64.bits) : Int) = n := Int.emod_eq_of_lt (by omega) (Int.lt_of_le_of_lt h1 (by decide))
    have e2 : ¬ ((n : Int) ≥ (2 ^ (IntKind.i64.bits - 1) : Int)) := by
      have : ((2 : Int) ^ (IntKind.i64.bits - 1)) = 9223372036854775808 := by decide
      rw [this]; omega
    simp only [IntKind.wrap, e1, e2, decide_false, Bool.and_false, Bool.false_eq_true, if_false]
  have hneg : ¬ ((n : Int) < 0) := by omega
  have hmul2 : n * i.bytes ≤ 4294967296 * 16384 := Nat.mul_le_mul (by omega) hby
  have h48b : ¬ ((281474976710656 : Int) < (n : Int) * (i.bytes : Int)) := by
    rw [← Int.natCast_mul]
    omega
  have hns : ¬ (n * i.size = 0) := Nat.ne_of_gt (Nat.mul_pos hn0 hpos)
  simp [Builtin.append_, run_underlying ht, run_underlying ht', sizeOf, typeInfo, zeroValue, hi, hz, Go.asInt, asIntOf, hwrap, hneg, h48b, hn, h63', h48', hns, Question.forced, hfo, newRow, grownCap]
  congr 2
  apply Array.ext'
  simp [List.append_assoc]
theorem sim_appz (hs : SRel φ nt m dB s g a w) {rec : Rec} {d es : Nat} {x k : A} {z : List D} (hc : chkI P φ nt o (.appz d x k es z) = true) (hok : (evI rec (.appz d x k es z) s).ok = true)
    (hK : After φ nt m dB s g w (evI rec (.appz d x k es z) s) o a K) : o.wp P a w K Q := by
  simp only [chkI, Bool.and_eq_true] at hc
  obtain ⟨hd, h⟩ := hc
  split at h
  · rename_i c ho
    split at h
    · rename_i x' k' t t' hcal hargs htys
      simp only [Bool.and_eq_true, decide_eq_true_eq] at h
      obtain ⟨⟨⟨hx, hk⟩, hpos⟩, ht⟩ := h
      obtain ⟨cal, args, tys⟩ := c
      simp only at hcal hargs htys
      have hargs' : args = #[x', k'] := by rw [← Array.toList_inj]; exact hargs
      have htys' : tys = #[t, t'] := by rw [← Array.toList_inj]; exact htys
      subst hcal; subst hargs'; subst htys'
      split at ht
      · rename_i e q hu hu'
        simp only [Bool.and_eq_true] at ht
        obtain ⟨hz0, ht⟩ := ht
        obtain ⟨i, zv, hi, hz, hzr, hz1, hzs⟩ := zero_spec (g := g) (w := w) hz0
        rw [hi] at ht
        simp only [Bool.and_eq_true, beq_iff_eq, decide_eq_true_eq] at ht
        obtain ⟨hsz, hby⟩ := ht
        subst hsz
        have rx := chkA_rel hs hx
        have rk := chkA_rel hs hk
        simp only [evI] at hok hK
        obtain ⟨v, hh, hv⟩ := putH_spec hok
        rw [hv] at hK
        simp only [St.putH] at hK
        unfold appzV at hv
        cases hkv : asInt (s.get k) with
        | none => simp [hkv] at hv
        | some kn =>
          simp only [hkv] at hv
          have hkq : ∃ q2, a.eval k' = .int q2 kn := by
            cases hg : s.get k with
            | d z =>
              rw [hg] at hkv rk
              cases z with
              | i q2 n => simp [asInt] at hkv; subst hkv; exact ⟨q2, relD_int (by simpa only [relV] using rk)⟩
              | _ => simp [asInt] at hkv
            | _ => rw [hg] at hkv; simp [asInt] at hkv
          obtain ⟨q2, hke⟩ := hkq
          split at hv
          · rename_i hcond
            obtain ⟨hk0, hzl⟩ := hcond
            have hkn : (kn.toNat : Int) = kn := by omega
            have hzc : zv.cells.size = i.size := by
              have := relDs_length hzr
              rw [hzl] at this
              simpa using this.symm
            obtain ⟨z1, z2, z3⟩ := zeroCells_rel hzr hz1 (by rw [hzl]; exact hpos) kn.toNat
            have fresh : ∀ {base : Option Addr} {sLen sCap : Nat} {olds : List Value} {ys : List (List D)}, a.eval x' = .slice base sLen sCap → olds.length = sLen * i.size →
                (olds ≠ [] → ∃ b off, base = some ⟨b, off, none⟩ ∧ ∀ (j : Nat) (u : Value), olds[j]? = some u → w.cell? ⟨b, off + j, none⟩ = some u) → sCap < sLen + kn.toNat → sLen + kn.toNat ≤ room →
                (∀ r ∈ ys, r.length = i.size) → ys.length = sLen → relDs φ g.I w ys.flatten olds → (∀ u ∈ olds, u.oneCell' = true) → v = .asl s.heap.length 0 (sLen + kn.toNat) → hh = s.heap ++ [.arrD i.size true (ys ++ List.replicate kn.toNat z)] → o.wp P a w K Q := by
              intro base sLen sCap olds ys he h1 h2 h3 h4 h5 h6 h7 h8 h9 h10
              subst h9; subst h10
              have hrun := run_appendz_new (P := P) (w := w) (ty := o.type) (q := q2) hu hu' hi hz h1 h2 h3 h4 hby hpos (by omega)
              rw [hkn] at hrun
              have hgc := grownCap_ge w (sLen + kn.toNat) sCap e
              have hll : (ys ++ List.replicate kn.toNat z).length = sLen + kn.toNat := by simp [h6]
              have hz2 : (Builtin.zeroCells zv.cells (grownCap w (sLen + kn.toNat) sCap e - (sLen + kn.toNat))).toList.length = (grownCap w (sLen + kn.toNat) sCap e - (sLen + kn.toNat)) * i.size := by simp [size_zeroCells, hzc]
              have := sim_newrows (P := P) (K := K) (Q := Q) (o := o) (a := a) hs hd (es := i.size) (ex := true) (ys := ys ++ List.replicate kn.toNat z) (C := olds ++ (Builtin.zeroCells zv.cells kn.toNat).toList) (ok := s.ok)
                (rest := (Builtin.zeroCells zv.cells (grownCap w (sLen + kn.toNat) sCap e - (sLen + kn.toNat))).toList) (T := e) (cap := grownCap w (sLen + kn.toNat) sCap e)
                (by rw [hll]; simp [execOp, ho, resolve, invoke, builtin, he, hke, hrun])
                (fun r hr => (List.mem_append.1 hr).elim (h5 r) (fun h => by rw [List.mem_replicate] at h; rw [h.2, hzl]))
                (by rw [List.flatten_append]; exact relDs_append h7 z1) (fun u hu => (List.mem_append.1 hu).elim (h8 u) (z2 u)) (by rw [hll]; exact hgc) ?_ (one_zeroCells hz1 _)
              · refine this fun g' v' w' k1 k2 => ?_
                rw [hll] at k1
                exact hK g' v' w' k1 k2
              · rw [List.length_append, h1, hz2, z3, hzl, ← Nat.add_mul, ← Nat.add_mul]
                exact Nat.mul_le_mul_right _ (by omega)
            split at hv
            · rename_i e1 nl xs hxv
              rw [hxv] at rx
              simp only [relV, relD] at rx
              obtain ⟨ad, cap, he, hlc, ht1, _⟩ := rx
              split at hv
              · rename_i hc2
                obtain ⟨rfl, rfl, hroom⟩ := hc2
                obtain ⟨rfl, rfl⟩ := ht1 rfl
                have hx0 : xs.length = 0 := by omega
                rw [hx0] at he
                simp at hv
                exact fresh (olds := []) (ys := []) he (by simp) (by simp) (by omega) (by omega) (by simp) rfl (by simp [relDs]) (by simp) (by rw [Nat.zero_add]; exact hv.1.symm) (by simpa using hv.2.symm)
              · simp at hv
            · rename_i e1 hxv
              rw [hxv] at rx
              simp only [relV] at rx
              obtain ⟨ad, he⟩ := rx
              split at hv
              · rename_i hc2
                obtain ⟨rfl, hroom⟩ := hc2
                simp at hv
                exact fresh (olds := []) (ys := []) he (by simp) (by simp) (by omega) (by omega) (by simp) rfl (by simp [relDs]) (by simp) (by rw [Nat.zero_add]; exact hv.1.symm) (by simpa using hv.2.symm)
              · simp at hv
            · rename_i n off len hxv
              rw [hxv] at rx
              simp only [relV] at rx
              have hobj := hs.heap.obj n
              split at hv
              · rename_i e1 ex rows hn
                rw [hn] at rx hobj
                split at hv
                · rename_i hc2
                  obtain ⟨rfl, hle, hgr, hroom⟩ := hc2
                  obtain ⟨cap, he, hlc, hm, _⟩ := rx.2.2 _ rfl
                  simp only [O.len] at hm
                  simp at hv
                  have hlen : ((rows.drop off).take len).length = len := by simp; omega
                  obtain ⟨olds, o1, o2, o3, o4⟩ := relRows_flat (relRows_take hobj.2.1 hle)
                  rw [hlen] at o3
                  exact fresh (olds := olds) (ys := (rows.drop off).take len) he (by rw [o3, Nat.mul_comm]) (fun _ => ⟨_, _, rfl, o4⟩) (by omega) hroom
                    (fun r hr => by
                      obtain ⟨j, hj, hje⟩ := List.getElem_of_mem (List.mem_of_mem_drop (List.mem_of_mem_take hr))
                      exact (relRows_get hobj.2.1 (r := j) (row := r) (by simp [hj, hje])).1) hlen o1 o2 hv.1.symm hv.2.symm
                · simp at hv
              · simp at hv
            · simp at hv
          · simp at hv
      · simp at ht
    · simp at h
  · simp at h
theorem isOverlaps_find {fn : Func} (h : isOverlaps fn = true) : Extern.findNext fn = none ∧ Extern.find fn = some (Extern.SlicesOverlaps.overlaps fn.params fn.resultTypes) := by
  simp only [isOverlaps, Bool.and_eq_true, beq_iff_eq, Option.isNone_iff_eq_none] at h
  obtain ⟨⟨⟨⟨h0, h1⟩, h2⟩, h3⟩, h4⟩ := h
  have n1 : Extern.allGenericRows.lookup "slices.overlaps" = none := by kernel_rfl
  have n2 : Extern.allTypedRows.lookup "slices.overlaps" = some Extern.SlicesOverlaps.overlaps := by kernel_rfl
  have n3 : Extern.allNextRows.lookup "slices.overlaps" = none := by kernel_rfl
  refine ⟨?_, ?_⟩
  · simp [Extern.findNext, h4, h0, n3]
  · simp [Extern.find, h1, h2, h3, h0, n1, n2]
theorem run_overlaps (hP : True) {tS e : TypeId} {par res : Array TypeId} (hp : par[0]? = some tS) (ht : P.underlying tS = some (.slice e)) {size : Nat} (hz : (Go.sizeOf e).run P w = .ok size w)
    {a b : Addr} {la ca lb cb : Nat} {CA CB : Array Value} {TA TB : TypeId} {fa : Nat × Nat} (hA : w.heap[a.block]? = some (.cells CA TA fa)) (hB : w.heap[b.block]? = some (.cells CB TB (0, 0))) (hA0 : CA.size ≠ 0)
    (hdis : a.block = b.block → a.off + la * size ≤ b.off) :
    (Extern.SlicesOverlaps.overlaps par res #[.slice (some a) la ca, .slice (some b) lb cb]).run P w = .ok (.bool false) w := by
  rw [Extern.SlicesOverlaps.overlaps.eq_def, hp]
  change Sem.run P (α := Value) (underlying tS >>= _) w = _
  by_cases h0 : la = 0 ∨ lb = 0 ∨ size = 0
  · simp [hp, run_underlying ht, hz, h0]
  · have hsa : w.shape? a.block = some (TA, CA.size) := by simp [World.shape?, hA]
    have hsb : w.shape? b.block = some (TB, CB.size) := by simp [World.shape?, hB]
    have hfb : ∀ k sp, w.frozen? { block := b.block, off := k, spot := sp } = false := by intro k sp; simp [World.frozen?, hB]
    have hfb' : w.frozen? b = false := by simp [World.frozen?, hB]
    obtain ⟨n, hn⟩ : ∃ n, CA.size = n + 1 := ⟨CA.size - 1, by omega⟩
    rw [hn] at hsa
    by_cases hne : a.block = b.block
    · have h1 : (a.block != b.block) = false := by simpa using hne
      have h2 := hdis hne
      have h3 : ¬ (b.off < a.off + la * size) := by omega
      simp [hp, run_underlying ht, hz, h0, h1, frozen, Sem.run, h3]
    · have h1 : (a.block != b.block) = true := by simpa using hne
      have h2 : (a.block == b.block) = false := by simpa using hne
      cases hfa : w.frozen? a <;> cases hfe : w.frozen? { block := a.block, off := n + 1 } <;>
        simp [hp, run_underlying ht, hz, h0, h1, h2, frozen, noView, viewAt, mayBeOne, stringish, shape, Sem.run, hsa, hsb, hfb, hfb', hfa, hfe]
theorem run_overlaps_none {tS e : TypeId} {par res : Array TypeId} (hp : par[0]? = some tS) (ht : P.underlying tS = some (.slice e)) {size : Nat} (hz : (Go.sizeOf e).run P w = .ok size w)
    {b : Option Addr} {a : Option Addr} {la ca lb cb : Nat} (h0 : a = none ∨ la = 0) :
    (Extern.SlicesOverlaps.overlaps par res #[.slice a la ca, .slice b lb cb]).run P w = .ok (.bool false) w := by
  rw [Extern.SlicesOverlaps.overlaps.eq_def, hp]
  change Sem.run P (α := Value) (underlying tS >>= _) w = _
  rcases h0 with rfl | rfl
  · simp [hp, run_underlying ht, hz]
  · cases a <;> cases b <;> simp [hp, run_underlying ht, hz]
theorem sim_ovl (hs : SRel φ nt m dB s g a w) {rec : Rec} {d f es : Nat} {x y : A} (hc : chkI P φ nt o (.ovl d f x y es) = true) (hok : (evI rec (.ovl d f x y es) s).ok = true)
    (hK : After φ nt m dB s g w (evI rec (.ovl d f x y es) s) o a K) : o.wp P a w K Q := by
  simp only [chkI, Bool.and_eq_true] at hc
  obtain ⟨hd, h⟩ := hc
  split at h
  · rename_i c ho
    split at h
    · rename_i ff hcal
      simp only [Bool.and_eq_true, beq_iff_eq] at h
      obtain ⟨⟨rfl, hxy⟩, h⟩ := h
      split at h
      · rename_i fn hfn
        simp only [Bool.and_eq_true, Bool.not_eq_true'] at h
        obtain ⟨⟨⟨hname, hbody⟩, hov⟩, h⟩ := h
        split at h
        · rename_i t t2 hpar
          split at h
          · rename_i e hu
            simp only [Bool.and_eq_true, decide_eq_true_eq] at h
            obtain ⟨hpos, hinfo⟩ := h
            have hsz := run_size (P := P) (w := w) hinfo
            have hpar0 : fn.params[0]? = some t := by
              rw [← Array.getElem?_toList, hpar]; rfl
            obtain ⟨k1, k2⟩ := isOverlaps_find hov
            have rr := chkAs_rel hs hxy
            simp only [evI] at hok hK
            refine sim_putO hs hd hok (fun v hv => ?_) hK
            obtain ⟨x', y', hargs⟩ : ∃ x' y', c.args.toList = [x', y'] := by
              match hq : c.args.toList, hxy with
              | [x', y'], _ => exact ⟨x', y', rfl⟩
              | [], h => simp [chkAs] at h
              | [_], h => simp [chkAs] at h
              | _ :: _ :: _ :: _, h => simp [chkAs] at h
            rw [hargs] at rr
            simp only [List.map_cons, List.map_nil, relVs] at rr
            obtain ⟨rx, ry, _⟩ := rr
            have hargs' : c.args.map a.eval = #[a.eval x', a.eval y'] := by rw [← Array.toList_inj]; simp [hargs]
            have hrun0 : (execOp a.eval o).run P w = (callFunc (φ f) (c.args.map a.eval)).run P w := by simp [execOp, ho, resolve, hcal, Act.eval, Deferred.ofValue, invoke]
            have hrun : ∀ {u u' : Value}, a.eval x' = u → a.eval y' = u' → v = .d (.b false) → (Extern.SlicesOverlaps.overlaps fn.params fn.resultTypes #[u, u']).run P w = .ok (.bool false) w → ∃ v', (execOp a.eval o).run P w = .ok (.value v') w ∧ relV φ s.heap g w v v' := by
              intro u u' h1 h2 h3 h4
              subst h3
              refine ⟨.bool false, ?_, by simp [relV, relD]⟩
              rw [hrun0, hargs', h1, h2, run_callFunc_extern hfn hname hbody k1 k2, h4]
              rfl
            unfold ovlV at hv
            split at hv
            · rename_i e1 nl xs n off len hxv hyv
              have ry := relV_wk ry
              rw [hxv] at rx
              rw [hyv] at ry
              simp only [relV, relD] at rx ry
              obtain ⟨ad, cap, hex, hlc, h1, h2⟩ := rx
              have hobj := hs.heap.obj n
              split at hv
              · rename_i e2 rows hn
                rw [hn] at ry hobj
                split at hv
                · rename_i hee
                  subst hee
                  obtain ⟨cap2, hey, _, _, CS, T, hB, hfit, _⟩ := ry.2.2 e2 rfl
                  simp only [Option.some.injEq] at hv
                  refine hrun hex hey hv.symm ?_
                  cases nl with
                  | true => exact run_overlaps_none hpar0 hu hsz (.inl (h1 rfl).1)
                  | false =>
                    obtain ⟨ad', rfl, h3⟩ := h2 rfl
                    cases xs with
                    | nil => exact run_overlaps_none hpar0 hu hsz (.inr rfl)
                    | cons r rs =>
                      obtain ⟨hsp, hI, hrows⟩ := h3 (by simp)
                      obtain ⟨hrl, hrc⟩ := relRows_get hrows (r := 0) (row := r) rfl
                      have hr0 : r[0]? = some r[0] := by simp
                      obtain ⟨z, hz, _⟩ := relCells_get hrc hr0
                      simp only [World.cell?] at hz
                      split at hz
                      · rename_i CA TA fa hA
                        have hA0 : CA.size ≠ 0 := by
                          intro h0
                          have : CA = #[] := Array.eq_empty_of_size_eq_zero h0
                          subst this
                          simp at hz
                        refine run_overlaps trivial hpar0 hu hsz hA hB hA0 fun hbb => ?_
                        have hI2 := hobj.2.2
                        simp only [if_true] at hI2
                        simp only at hbb
                        rw [hbb] at hI
                        rw [Nat.mul_comm]
                        show ad'.off + e1 * (r :: rs).length ≤ g.o n + off * e2
                        omega
                      · simp at hz
                · simp at hv
              · simp at hv
            · simp at hv
          · simp at h
        · simp at h
      · simp at h
    · simp at h
  · simp at h
end
end Go.VS
namespace Go.VS
section
variable {P : Program} {φ : Phi}
variable {nt m dB : Nat} {s : St} {g : Gh} {a : Act} {w : World} {K : Act → World → Prop} {Q : Exit → Act → World → Prop} {o : Oper}
theorem keyCells_one {k : CK} {x : D} {a : List D} (h : keyCells [k] x = some a) : a = [x] ∧ ∀ cs, x ≠ .ag cs := by
  cases x <;> simp [keyCells] at h <;> exact ⟨h.symm, fun cs hh => by cases hh⟩
theorem keyCells_many {ks : List CK} {x : D} {a : List D} (hk : ∀ k, ks ≠ [k]) (h : keyCells ks x = some a) : x = .ag a := by
  match ks, hk, h with
  | [], _, h => cases x <;> simp [keyCells] at h <;> subst h <;> rfl
  | [k], hk, _ => exact absurd rfl (hk k)
  | _ :: _ :: _, _, h => cases x <;> simp [keyCells] at h <;> subst h <;> rfl
theorem key_run {I : Nat → Nat} {kt : TypeId} {ks : List CK} (hk : keyTy P kt ks = true) {x y : D} {b : Bool} (h : keyEq ks x y = some b) {u v : Value} (hu : relD φ I w x u) (hv : relD φ I w y v) : (Op.equal kt u v).run P w = .ok b w := by
  simp only [keyEq, Option.bind_eq_some_iff] at h
  obtain ⟨p, hp, q, hq, hf⟩ := h
  unfold keyTy at hk
  split at hk
  · rename_i k
    obtain ⟨rfl, _⟩ := keyCells_one hp
    obtain ⟨rfl, _⟩ := keyCells_one hq
    simp only [flatEq, Option.bind_eq_some_iff, Option.map_eq_some_iff, Option.some.injEq] at hf
    obtain ⟨b1, h1, b2, rfl, rfl⟩ := hf
    rw [Bool.and_true]
    exact cellEq_run hk h1 hu hv 9999
  · rename_i hne
    have hp' := keyCells_many (fun k hh => hne k hh) hp
    have hq' := keyCells_many (fun k hh => hne k hh) hq
    subst hp'; subst hq'
    simp only [relD] at hu hv
    obtain ⟨A, rfl, ra, _⟩ := hu
    obtain ⟨B, rfl, rb, _⟩ := hv
    unfold flatIs at hk
    split at hk
    · rename_i fs hfs
      simp only [Bool.and_eq_true, Bool.not_eq_true'] at hk
      obtain ⟨⟨ht1, ht2⟩, ht3⟩ := hk
      have hfo : P.fieldsOf kt = fs := by simp [Program.fieldsOf, hfs]
      have hst : P.underlying kt = some (.struct (P.fieldsOf kt)) := by rw [hfo]; exact hfs
      have hff := fields_run (P := P) (w := w) 9998 ht3 hf (by simpa using ra) (by simpa using rb)
      have he := run_equalIn_struct (P := P) w 9999 kt A B hst ht1
      rw [hfo, hff] at he
      exact he
    · simp at hk
theorem findAsking_rel {h : List O} {kt : TypeId} {ks : List CK} (hk : keyTy P kt ks = true) {k : D} {u : Value} (hu : relD φ g.I w k u) : ∀ {kv : List (D × V)} {es : List MapEntry} {i : Nat}, relKV φ h g w kv es → (kv.all fun p => (keyEq ks k p.1).isSome) = true →
    ∃ r, (Instr.findAsking kt u es i).run P w = .ok r w ∧
      match kv.findIdx? (keyIs ks k) with
      | some j => ∃ e, es[j]? = some e ∧ r = some (i + j, e.val)
      | none => r = none
  | [], [], i, _, _ => ⟨none, by simp [Instr.findAsking], by simp⟩
  | p :: kv, e :: es, i, hr, hall => by
    simp only [List.all_cons, Bool.and_eq_true] at hall
    obtain ⟨b, hb⟩ := Option.isSome_iff_exists.1 hall.1
    have hp := hr.2 0 p e rfl rfl
    have heq := key_run (P := P) (w := w) hk hb hu hp.1
    have htail : relKV φ h g w kv es := ⟨by have := hr.1; simpa using this, fun j q e' hq he => hr.2 (j + 1) q e' (by simpa using hq) (by simpa using he)⟩
    have hki : keyIs ks k p = b := by simp [keyIs, hb]
    cases b with
    | true =>
      refine ⟨some (i, e.val), by simp [Instr.findAsking, heq], ?_⟩
      rw [List.findIdx?_cons, hki]
      exact ⟨e, rfl, rfl⟩
    | false =>
      obtain ⟨r, h1, h2⟩ := findAsking_rel hk hu (i := i + 1) htail hall.2
      refine ⟨r, by simp [Instr.findAsking, heq, h1], ?_⟩
      rw [List.findIdx?_cons, hki]
      simp only [Bool.false_eq_true, if_false]
      cases hf : kv.findIdx? (keyIs ks k) with
      | none => rw [hf] at h2; simpa using h2
      | some j =>
        rw [hf] at h2
        obtain ⟨e', he', hr'⟩ := h2
        refine ⟨e', by simpa using he', ?_⟩
        rw [hr']
        show some (i + 1 + j, e'.val) = some (i + (j + 1), e'.val)
        have : i + 1 + j = i + (j + 1) := by omega
        rw [this]
  | [], _ :: _, _, hr, _ => by have := hr.1; simp at this
  | _ :: _, [], _, hr, _ => by have := hr.1; simp at this
theorem sameNow_rel {I : Nat → Nat} {ks : List CK} {kind : TypeDesc} {x y : D} {b c : Bool} (h : keyEq ks x y = some b) {u v : Value} (hu : relD φ I w x u) (hv : relD φ I w y v) (hs : Instr.sameNow kind u v = some c) : c = b := by
  simp only [keyEq, Option.bind_eq_some_iff] at h
  obtain ⟨p, hp, q, hq, hf⟩ := h
  by_cases hone : ∃ k, ks = [k]
  · obtain ⟨k, rfl⟩ := hone
    obtain ⟨rfl, _⟩ := keyCells_one hp
    obtain ⟨rfl, _⟩ := keyCells_one hq
    simp only [flatEq, Option.bind_eq_some_iff, Option.map_eq_some_iff, Option.some.injEq] at hf
    obtain ⟨b1, h1, b2, rfl, rfl⟩ := hf
    rw [Bool.and_true]
    unfold cellEq at h1
    split at h1 <;> simp only [Option.some.injEq, reduceCtorEq, Option.ite_none_right_eq_some] at h1
    · obtain ⟨rfl, rfl⟩ := h1
      have hu := relD_int hu; have hv := relD_int hv; subst hu; subst hv
      cases kind <;> simp [Instr.sameNow] at hs
      exact hs.symm
    · subst h1
      have hu := relD_bool hu; have hv := relD_bool hv; subst hu; subst hv
      cases kind <;> simp [Instr.sameNow] at hs
      exact hs.symm
    · subst h1
      simp only [relD] at hu hv
      obtain ⟨bs, rfl, hb⟩ := hu
      obtain ⟨cs, rfl, hc⟩ := hv
      cases kind <;> simp [Instr.sameNow] at hs
      subst hs
      subst hb; subst hc
      exact beq_toListBytes _ _
  · have hp' := keyCells_many (fun k hh => hone ⟨k, hh⟩) hp
    subst hp'
    simp only [relD] at hu
    obtain ⟨A, rfl, _⟩ := hu
    cases kind <;> simp [Instr.sameNow] at hs
theorem findNow_rel {h : List O} {kind : TypeDesc} {ks : List CK} {k : D} {u : Value} (hu : relD φ g.I w k u) : ∀ {kv : List (D × V)} {es : List MapEntry} {i : Nat} {r : Option (Nat × Value)}, relKV φ h g w kv es → (kv.all fun p => (keyEq ks k p.1).isSome) = true →
    Instr.findNow kind u es i = some r →
      match kv.findIdx? (keyIs ks k) with
      | some j => ∃ e, es[j]? = some e ∧ r = some (i + j, e.val)
      | none => r = none
  | [], [], i, r, _, _, hf => by simp [Instr.findNow] at hf; simp [hf]
  | p :: kv, e :: es, i, r, hr, hall, hf => by
    simp only [List.all_cons, Bool.and_eq_true] at hall
    obtain ⟨b, hb⟩ := Option.isSome_iff_exists.1 hall.1
    have hp := hr.2 0 p e rfl rfl
    have htail : relKV φ h g w kv es := ⟨by have := hr.1; simpa using this, fun j q e' hq he => hr.2 (j + 1) q e' (by simpa using hq) (by simpa using he)⟩
    have hki : keyIs ks k p = b := by simp [keyIs, hb]
    simp only [Instr.findNow] at hf
    split at hf
    · rename_i hs
      have := sameNow_rel hb hu hp.1 hs
      subst this
      rw [List.findIdx?_cons, hki]
      simp at hf
      exact ⟨e, rfl, hf.symm⟩
    · rename_i hs
      have := sameNow_rel hb hu hp.1 hs
      subst this
      have h2 := findNow_rel hu htail hall.2 hf
      rw [List.findIdx?_cons, hki]
      simp only [Bool.false_eq_true, if_false]
      cases hf : kv.findIdx? (keyIs ks k) with
      | none => rw [hf] at h2; simpa using h2
      | some j =>
        rw [hf] at h2
        obtain ⟨e', he', hr'⟩ := h2
        refine ⟨e', by simpa using he', ?_⟩
        rw [hr']
        show some (i + 1 + j, e'.val) = some (i + (j + 1), e'.val)
        have : i + 1 + j = i + (j + 1) := by omega
        rw [this]
    · simp at hf
  | [], _ :: _, _, _, hr, _, _ => by have := hr.1; simp at this
  | _ :: _, [], _, _, hr, _, _ => by have := hr.1; simp at this
theorem keyTy_under {kt : TypeId} {ks : List CK} (hk : keyTy P kt ks = true) : ∃ d, P.underlying kt = some d := by
  unfold keyTy ckIs flatIs at hk
  cases h : P.underlying kt with
  | some d => exact ⟨d, rfl⟩
  | none => split at hk <;> simp [h] at hk
theorem findKey_rel {h : List O} {kt : TypeId} {ks : List CK} (hk : keyTy P kt ks = true) {k : D} {u : Value} (hu : relD φ g.I w k u) {kv : List (D × V)} {es : List MapEntry} (hr : relKV φ h g w kv es) (hall : (kv.all fun p => (keyEq ks k p.1).isSome) = true) :
    ∃ r, (Instr.findKey kt u es).run P w = .ok r w ∧
      match kv.findIdx? (keyIs ks k) with
      | some j => ∃ e, es[j]? = some e ∧ r = some (j, e.val)
      | none => r = none := by
  obtain ⟨d, hd⟩ := keyTy_under hk
  cases hf : Instr.findNow d u es 0 with
  | some r =>
    refine ⟨r, by simp [Instr.findKey, run_underlying hd, hf], ?_⟩
    simpa only [Nat.zero_add] using findNow_rel hu hr hall hf
  | none =>
    obtain ⟨r, h1, h2⟩ := findAsking_rel hk hu (i := 0) hr hall
    refine ⟨r, by simp [Instr.findKey, run_underlying hd, hf, h1], ?_⟩
    simpa only [Nat.zero_add] using h2
end
end Go.VS
namespace Go.VS
section
variable {P : Program} {φ : Phi}
variable {nt m dB : Nat} {s : St} {g : Gh} {a : Act} {w : World} {K : Act → World → Prop} {Q : Exit → Act → World → Prop} {o : Oper}
theorem checkKey_basic {kt : TypeId} {k : CK} (hk : ckIs P kt k = true) (e : Bool) (n : Nat) (u : Value) : (Instr.checkKey e (n + 1) kt u).run P w = .ok () w := by
  unfold ckIs at hk
  split at hk <;> simp at hk <;> rename_i hu <;> simp [Instr.checkKey, run_underlying hu]
theorem checkKey_fields {I : Nat → Nat} (e : Bool) (n : Nat) {A : Array Value} : ∀ {fs : List Field} {ks : List CK} {off : Nat} {p q : List D} {b : Bool}, ckFields P off fs ks = true → flatEq ks p q = some b → relDs φ I w p (A.toList.drop off) →
    (forIn fs PUnit.unit (fun (f : Field) (_ : PUnit) => (do
      if f.name ≠ "_" then Instr.checkKey e (n + 1) f.type (← part f.type A f.offset)
      pure (ForInStep.yield PUnit.unit) : Sem (ForInStep PUnit)))).run P w = .ok PUnit.unit w
  | [], [], _, _, _, _, _, _, _ => by simp
  | f :: fs, k :: ks, off, p, q, b, hc, hf, hp => by
    simp only [ckFields, Bool.and_eq_true, beq_iff_eq, bne_iff_ne] at hc
    obtain ⟨⟨⟨hn, rfl⟩, hk⟩, hr⟩ := hc
    cases p with
    | nil => simp [flatEq] at hf
    | cons x p =>
      cases q with
      | nil => simp [flatEq] at hf
      | cons y q =>
        simp only [flatEq, Option.bind_eq_some_iff, Option.map_eq_some_iff] at hf
        obtain ⟨b1, h1, b2, h2, rfl⟩ := hf
        obtain ⟨u, hu, ru⟩ := relDs_get hp (j := 0) rfl
        have hu' : A[f.offset]? = some u := by simpa [List.getElem?_drop] using hu
        have hp' : relDs φ I w p (A.toList.drop (f.offset + 1)) := by
          have := relDs_drop hp 1; simpa [List.drop_drop, Nat.add_comm] using this
        have ih := checkKey_fields e n hr h2 hp'
        have e1 := part_cell (P := P) (w := w) hk hu'
        have e2 := checkKey_basic (P := P) (w := w) hk e n u
        simp only [List.forIn_cons, ne_eq, hn, not_false_eq_true, if_true, Sem.run_bind, e1, Result.andThen_ok, e2, Sem.run_pure]
        exact ih
  | [], _ :: _, _, _, _, _, hc, _, _ => by simp [ckFields] at hc
  | _ :: _, [], _, _, _, _, hc, _, _ => by simp [ckFields] at hc
theorem checkKey_run {I : Nat → Nat} {kt : TypeId} {ks : List CK} (hk : keyTy P kt ks = true) {k : D} (hself : (keyEq ks k k).isSome = true) {u : Value} (hu : relD φ I w k u) (e : Bool) : (Instr.checkKey e 10000 kt u).run P w = .ok () w := by
  obtain ⟨b, hb⟩ := Option.isSome_iff_exists.1 hself
  unfold keyTy at hk
  split at hk
  · exact checkKey_basic hk e 9999 u
  · rename_i hne
    simp only [keyEq, Option.bind_eq_some_iff] at hb
    obtain ⟨p, hp, q, hq, hf⟩ := hb
    have hp' := keyCells_many (fun k hh => hne k hh) hp
    subst hp'
    simp only [relD] at hu
    obtain ⟨A, rfl, ra, _⟩ := hu
    unfold flatIs at hk
    split at hk
    · rename_i fs hfs
      simp only [Bool.and_eq_true, Bool.not_eq_true'] at hk
      have := checkKey_fields (P := P) (w := w) e 9998 (A := A) hk.2 hf (by simpa using ra)
      rw [Instr.checkKey]
      simp only [Sem.run_bind, run_underlying hfs, Result.andThen_ok, ← Array.forIn_toList]
      have e2 : ∀ (x : PUnit), (forIn fs.toList x fun f _ => if f.name ≠ "_" then (do
              let __do_lift ← part f.type A f.offset
              Instr.checkKey e 9999 f.type __do_lift
              pure (ForInStep.yield PUnit.unit)) else (pure (ForInStep.yield PUnit.unit) : Sem (ForInStep PUnit))).run P w = .ok PUnit.unit w := fun _ => this
      rw [e2 PUnit.unit]
      rfl
    · simp at hk
theorem sim_mkm (hs : SRel φ nt m dB s g a w) {rec : Rec} {d : Nat} (hc : chkI P φ nt o (.mkm d) = true)
    (hK : After φ nt m dB s g w (evI rec (.mkm d) s) o a K) : o.wp P a w K Q := by
  simp only [chkI, Bool.and_eq_true] at hc
  obtain ⟨hd, h⟩ := hc
  split at h
  · rename_i t ho
    have hrun : (execOp a.eval o).run P w = .ok (.value (.map (some w.heap.size))) (w.alloc (.map #[] 0)) := by
      simp [execOp, ho, Instr.makeMap, newObj]
      rfl
    simp only [evI, St.putH] at hK
    have hg := Grew.alloc w (.map #[] 0)
    have hb := heap_alloc_at w (.map #[] 0)
    refine sim_newobj hs hd (b := w.heap.size) (off := 0) (I' := g.I) hrun hg (fun _ _ => rfl) (fun b hb => hs.heap.new b (by simp at hb; omega)) (Nat.le_refl _) ?_ ?_ hK
    · exact ⟨#[], 0, hb, ⟨by simp, fun i p e hp => by simp at hp⟩, hs.heap.new _ (Nat.le_refl _)⟩
    · simp only [relV]
      exact ⟨by simp, rfl, fun kv _ => by simp [Gh.add]⟩
  · simp at h
theorem keyEq_bits {I : Nat → Nat} {ks : List CK} {x y : D} (h : keyEq ks x y = some true) {u v : Value} (hu : relD φ I w x u) (hv : relD φ I w y v) : Instr.sameBits 10000 v u = true := by
  simp only [keyEq, Option.bind_eq_some_iff] at h
  obtain ⟨p, hp, q, hq, hf⟩ := h
  have cell : ∀ {k : CK} {x y : D} {u v : Value} (n : Nat), cellEq k x y = some true → relD φ I w x u → relD φ I w y v → Instr.sameBits n v u = true := by
    intro k x y u v n h1 hu hv
    unfold cellEq at h1
    split at h1 <;> simp only [Option.some.injEq, reduceCtorEq, Option.ite_none_right_eq_some] at h1
    · obtain ⟨rfl, h1⟩ := h1
      have hu := relD_int hu; have hv := relD_int hv; subst hu; subst hv
      have h1 := beq_iff_eq.1 h1; subst h1
      cases n <;> simp [Instr.sameBits]
    · have hu := relD_bool hu; have hv := relD_bool hv; subst hu; subst hv
      have h1 := beq_iff_eq.1 h1; subst h1
      cases n <;> simp [Instr.sameBits]
    · simp only [relD] at hu hv
      obtain ⟨bs, rfl, hb⟩ := hu
      obtain ⟨cs, rfl, hc⟩ := hv
      have h1 := beq_iff_eq.1 h1
      subst hb; subst hc
      have hb : (cs == bs) = true := by rw [beq_toListBytes]; exact beq_iff_eq.2 h1.symm
      cases n <;> simp only [Instr.sameBits] <;> exact hb
  by_cases hone : ∃ k, ks = [k]
  · obtain ⟨k, rfl⟩ := hone
    obtain ⟨rfl, _⟩ := keyCells_one hp
    obtain ⟨rfl, _⟩ := keyCells_one hq
    simp only [flatEq, Option.bind_eq_some_iff, Option.map_eq_some_iff, Option.some.injEq] at hf
    obtain ⟨b1, h1, b2, rfl, h2⟩ := hf
    rw [Bool.and_true] at h2
    subst h2
    exact cell _ h1 hu hv
  · have hp' := keyCells_many (fun k hh => hone ⟨k, hh⟩) hp
    have hq' := keyCells_many (fun k hh => hone ⟨k, hh⟩) hq
    subst hp'; subst hq'
    simp only [relD] at hu hv
    obtain ⟨A, rfl, ra, _⟩ := hu
    obtain ⟨B, rfl, rb, _⟩ := hv
    have hl : ∀ {ks : List CK} {p q : List D} {A B : List Value}, flatEq ks p q = some true → relDs φ I w p A → relDs φ I w q B → A.length = B.length ∧ ((B.zip A).all fun x => Instr.sameBits 9999 x.1 x.2) = true := by
      intro ks
      induction ks with
      | nil =>
        intro p q A B hf ra rb
        cases p <;> cases q <;> simp [flatEq] at hf
        cases A <;> cases B <;> simp_all [relDs]
      | cons k ks ih =>
        intro p q A B hf ra rb
        cases p with
        | nil => simp [flatEq] at hf
        | cons x p =>
          cases q with
          | nil => simp [flatEq] at hf
          | cons y q =>
            cases A with
            | nil => simp [relDs] at ra
            | cons a A =>
              cases B with
              | nil => simp [relDs] at rb
              | cons b B =>
                simp only [flatEq, Option.bind_eq_some_iff, Option.map_eq_some_iff] at hf
                obtain ⟨b1, h1, b2, h2, h3⟩ := hf
                simp only [Bool.and_eq_true] at h3
                obtain ⟨rfl, rfl⟩ := h3
                simp only [relDs] at ra rb
                obtain ⟨i1, i2⟩ := ih h2 ra.2 rb.2
                exact ⟨by simp [i1], by simp only [List.zip_cons_cons, List.all_cons, Bool.and_eq_true]; exact ⟨cell 9999 h1 ra.1 rb.1, i2⟩⟩
    obtain ⟨h1, h2⟩ := hl hf ra rb
    have h1' : B.size = A.size := by simpa using h1.symm
    simp only [Instr.sameBits, h1', beq_self_eq_true, Bool.true_and]
    exact h2
theorem mfind_eq {ks : List CK} {k : D} : ∀ {kv : List (D × V)}, mfind ks k kv = match kv.findIdx? (keyIs ks k) with | some j => (kv[j]?).map (·.2) | none => none
  | [] => rfl
  | p :: kv => by
    simp only [mfind, List.findIdx?_cons]
    split
    · simp
    · rw [mfind_eq (kv := kv)]
      cases kv.findIdx? (keyIs ks k) <;> simp
theorem mset_eq {ks : List CK} {k : D} {v : V} : ∀ {kv : List (D × V)}, mset ks k v kv = match kv.findIdx? (keyIs ks k) with | some j => kv.set j (k, v) | none => kv ++ [(k, v)]
  | [] => rfl
  | p :: kv => by
    simp only [mset, List.findIdx?_cons]
    split
    · simp
    · rw [mset_eq (kv := kv)]
      cases kv.findIdx? (keyIs ks k) <;> simp
theorem mdel_eq {ks : List CK} {k : D} : ∀ {kv : List (D × V)}, mdel ks k kv = match kv.findIdx? (keyIs ks k) with | some j => kv.eraseIdx j | none => kv
  | [] => rfl
  | p :: kv => by
    simp only [mdel, List.findIdx?_cons]
    split
    · simp
    · rw [mdel_eq (kv := kv)]
      cases kv.findIdx? (keyIs ks k) <;> simp
theorem findIdx_lt {ks : List CK} {k : D} {kv : List (D × V)} {j : Nat} (h : kv.findIdx? (keyIs ks k) = some j) : j < kv.length ∧ ∃ p, kv[j]? = some p ∧ keyIs ks k p = true := by
  obtain ⟨h1, h2, _⟩ := List.findIdx?_eq_some_iff_getElem.1 h
  exact ⟨h1, kv[j], by simp [h1], h2⟩
theorem keyIs_eq {ks : List CK} {k : D} {p : D × V} (h : keyIs ks k p = true) : keyEq ks k p.1 = some true := by
  unfold keyIs at h
  cases hq : keyEq ks k p.1 with
  | none => simp [hq] at h
  | some b => simp [hq] at h; rw [h]
theorem sim_map (hs : SRel φ nt m dB s g a w) {n : Nat} {kv kv' : List (D × V)} {ES ES' : Array MapEntry} {clk clk' : Nat} {ok : Bool} (hn : hget s.heap n = .mp kv) (hb : w.heap[g.β n]? = some (.map ES clk)) (hI : g.I (g.β n) = 0)
    (hnew : ∀ {h' : List O} {w' : World}, HLe s.heap g w h' g w' → relKV φ h' g w' kv' ES'.toList) :
    ∃ w', (setObj (g.β n) (.map ES' clk')).run P w = .ok () w' ∧ SRel φ nt m dB ⟨s.env, s.heap.set n (.mp kv'), ok⟩ g a w' ∧ Frame m s.heap g w (s.heap.set n (.mp kv')) g w' := by
  have hl : (hget s.heap n).live = true := by rw [hn]; rfl
  have hlt : g.β n < w.heap.size := hs.heap.block hl
  refine ⟨_, MapKept.run_setObj_map (P := P) _ hb, ?_⟩
  have ht : Turned w { w with heap := w.heap.setIfInBounds (g.β n) (.map ES' clk') } (g.β n) :=
    ⟨by simp, fun k hk => by simp [Array.getElem?_setIfInBounds_ne (Ne.symm hk)], rfl, rfl, rfl⟩
  have hE : Ext g.I w g.I { w with heap := w.heap.setIfInBounds (g.β n) (.map ES' clk') } := ⟨fun _ => Nat.le_refl _, fun b i hi => by
    by_cases hbn : b = g.β n
    · subst hbn; omega
    · exact cell_of_heap (ht.same b hbn) i⟩
  have hle := hle_turn (x := .mp kv') hs.heap hl ht hE (fun es he => by simp [O.es?] at he) (fun _ _ => ⟨kv, hn⟩)
  have hH := hrel_turn (x := .mp kv') hs.heap hl ht hle (fun _ _ => rfl) ⟨ES', clk', by simp [hlt], hnew hle, hI⟩
  exact ⟨hs.turn hl ht hle hH, frame_turn (.mp kv') hl ht hE (fun _ _ => rfl) hle⟩
theorem keyOk_spec {ks : List CK} {k : D} {kv : List (D × V)} (h : keyOk ks k kv = true) : (keyEq ks k k).isSome = true ∧ (kv.all fun p => (keyEq ks k p.1).isSome) = true := by
  simpa [keyOk] using h
theorem mp_rel {h : List O} (hH : HRel φ h g w) {n : Nat} {v : Value} {kv : List (D × V)} (hn : hget h n = .mp kv) (hr : relV φ h g w (.mp n) v) : v = .map (some (g.β n)) ∧ ∃ ES clk, w.heap[g.β n]? = some (.map ES clk) ∧ relKV φ h g w kv ES.toList ∧ g.I (g.β n) = 0 := by
  simp only [relV] at hr
  have := hH.obj n
  rw [hn] at this
  exact ⟨hr.2.2 kv hn, this⟩
theorem relD_of_V {h : List O} {k : D} {v : Value} (hr : relV φ h g w (.d k) v) : relD φ g.I w k v := by simpa only [relV] using hr
theorem sim_mput (hs : SRel φ nt m dB s g a w) {rec : Rec} {x k v : A} {ks : List CK} (hc : chkI P φ nt o (.mput x k v ks) = true) (hok : (evI rec (.mput x k v ks) s).ok = true)
    (hK : After φ nt m dB s g w (evI rec (.mput x k v ks) s) o a K) : o.wp P a w K Q := by
  simp only [chkI, Bool.and_eq_true, beq_iff_eq] at hc
  obtain ⟨hdst, hc⟩ := hc
  have key : ∀ {t : TypeId} {x' k' v' : Operand}, (execOp a.eval o).run P w = (do Instr.mapUpdate t (a.eval x') (a.eval k') (a.eval v'); pure .skip : Sem Next).run P w →
      (chkA φ x' x && chkA φ k' k && chkA φ v' v && (match P.underlying t with | some (.map kt _) => keyTy P kt ks | _ => false)) = true → o.wp P a w K Q := by
    intro t x' k' v' ho h
    simp only [Bool.and_eq_true] at h
    obtain ⟨⟨⟨hx, hk⟩, hv⟩, ht⟩ := h
    split at ht
    · rename_i kt et hty
      have rx := chkA_rel hs hx
      have rk := chkA_rel hs hk
      have rv := chkA_rel hs hv
      simp only [evI] at hok hK
      obtain ⟨hh, hst⟩ := setHeap_spec hok
      rw [hst] at hK
      unfold mputH at hst
      split at hst
      · rename_i n kd hxv hkv
        rw [hxv] at rx
        rw [hkv] at rk
        split at hst
        · rename_i kv hn
          split at hst
          · rename_i hcond
            obtain ⟨hko, hvk⟩ := hcond
            simp only [Option.some.injEq] at hst
            subst hst
            obtain ⟨hself, hall⟩ := keyOk_spec hko
            obtain ⟨ex, ES, clk, hb, hkvr, hI⟩ := mp_rel hs.heap hn rx
            have hkd := relD_of_V rk
            have e1 := checkKey_run (P := P) (w := w) ht hself hkd false
            obtain ⟨r, e2, e3⟩ := findKey_rel (P := P) ht hkd hkvr hall
            have fin : ∀ {kv' : List (D × V)} {ES' : Array MapEntry} {clk' : Nat}, mset ks kd (s.get v) kv = kv' → (Instr.mapUpdate t (a.eval x') (a.eval k') (a.eval v')).run P w = (setObj (g.β n) (.map ES' clk')).run P w →
                (∀ {h' : List O} {w' : World}, HLe s.heap g w h' g w' → relKV φ h' g w' kv' ES'.toList) → o.wp P a w K Q := by
              intro kv' ES' clk' hkv' hrun hnew
              obtain ⟨w', h1, h2, h3⟩ := sim_map (P := P) hs (ok := s.ok) (clk' := clk') hn hb hI hnew
              refine wp_skip' (w' := w') (by rw [ho]; simp [hrun, h1]) ?_
              have := hK g undef w'
              rw [hdst] at this ⊢
              subst hkv'
              exact this h2 h3
            cases hf : kv.findIdx? (keyIs ks kd) with
            | none =>
              rw [hf] at e3
              subst e3
              refine fin (kv' := kv ++ [(kd, s.get v)]) (ES' := ES.push { key := a.eval k', val := a.eval v', born := clk }) (clk' := clk + 1) (by rw [mset_eq, hf]) ?_ fun hle => ?_
              · simp [Instr.mapUpdate, run_underlying hty, ex, MapKept.run_getObj_map hb, e1, e2]
              · have hm := relKV_move hle hkvr
                refine ⟨by simpa using hm.1, fun i p e hp he => ?_⟩
                rw [Array.toList_push] at he
                have hlen := hm.1
                rcases Nat.lt_trichotomy i kv.length with hi | hi | hi
                · rw [List.getElem?_append_left hi] at hp
                  rw [List.getElem?_append_left (by omega)] at he
                  exact hm.2 i p e hp he
                · subst hi
                  rw [List.getElem?_append_right (Nat.le_refl _)] at hp
                  rw [List.getElem?_append_right (by omega)] at he
                  rw [hlen] at he
                  simp at hp he
                  subst hp; subst he
                  exact ⟨relD_ext hle.ext hkd, relV_le hle rv⟩
                · rw [List.getElem?_eq_none (by simp; omega)] at hp
                  simp at hp
            | some j =>
              rw [hf] at e3
              obtain ⟨e, he, rfl⟩ := e3
              obtain ⟨hj, p, hp, hpk⟩ := findIdx_lt hf
              have hb1 := keyEq_bits (w := w) (keyIs_eq hpk) hkd (hkvr.2 j p e hp he).1
              have he' : ES[j]? = some e := by simpa using he
              refine fin (kv' := kv.set j (kd, s.get v)) (ES' := ES.modify j fun e => { e with key := a.eval k', val := a.eval v' }) (clk' := clk) (by rw [mset_eq, hf]) ?_ fun hle => ?_
              · simp [Instr.mapUpdate, run_underlying hty, ex, MapKept.run_getObj_map hb, e1, e2, he', Instr.keyThatStays, hb1]
              · have hm := relKV_move hle hkvr
                refine ⟨by simpa using hm.1, fun i p' e' hp' he' => ?_⟩
                rw [Array.toList_modify, List.getElem?_modify] at he'
                rw [List.getElem?_set] at hp'
                split at hp'
                · rename_i hij
                  subst hij
                  simp [he] at he'
                  simp only [hj, if_true, Option.some.injEq] at hp'
                  subst hp'; subst he'
                  exact ⟨relD_ext hle.ext hkd, relV_le hle rv⟩
                · rename_i hij
                  simp [hij] at he'
                  exact hm.2 i p' e' hp' (by simpa using he')
          · simp at hst
        · simp at hst
      · simp at hst
    · simp at ht
  split at hc
  · rename_i t x' k' v' ho
    exact key (by simp [execOp, ho]) hc
  · rename_i t x' k' v' ho
    exact key (by simp [execOp, ho]) hc
  · simp at hc
theorem sim_mget (hs : SRel φ nt m dB s g a w) {rec : Rec} {d : Nat} {x k : A} {z : D} {c : Bool} {ks : List CK} (hc : chkI P φ nt o (.mget d x k z c ks) = true) (hok : (evI rec (.mget d x k z c ks) s).ok = true)
    (hK : After φ nt m dB s g w (evI rec (.mget d x k z c ks) s) o a K) : o.wp P a w K Q := by
  simp only [chkI, Bool.and_eq_true] at hc
  obtain ⟨hd, hc⟩ := hc
  split at hc
  · rename_i t x' k' c' ho
    simp only [Bool.and_eq_true, beq_iff_eq] at hc
    obtain ⟨⟨⟨hx, hk⟩, rfl⟩, ht⟩ := hc
    split at ht
    · rename_i kt et hty
      simp only [Bool.and_eq_true] at ht
      obtain ⟨ht, hz⟩ := ht
      split at hz
      · rename_i info hinfo
        split at hz
        · rename_i zv hzv
          have rx := chkA_rel hs hx
          have rk := chkA_rel hs hk
          simp only [evI] at hok hK
          refine sim_putO hs hd hok (fun v hv => ?_) hK
          have hzero : (zeroValue et).run P w = .ok zv w := by simp [zeroValue, typeInfo, hinfo, hzv]
          have fin : ∀ {kd : D} {kv : List (D × V)} {ES : List MapEntry} {es : Array MapEntry}, s.get k = .d kd → es.toList = ES → relKV φ s.heap g w kv ES → mlook ks kd z c' kv = some v →
              (a.eval x' = .map none ∧ es = #[] ∨ ∃ n clk, a.eval x' = .map (some n) ∧ w.heap[n]? = some (.map es clk)) →
              ∃ v', (execOp a.eval o).run P w = .ok (.value v') w ∧ relV φ s.heap g w v v' := by
            intro kd kv ES es hkd hes hkvr hl hrun
            rw [hkd] at rk
            have hkd := relD_of_V rk
            unfold mlook at hl
            split at hl
            · rename_i hko
              obtain ⟨hself, hall⟩ := keyOk_spec hko
              have e1 := checkKey_run (P := P) (w := w) ht hself hkd es.isEmpty
              obtain ⟨r, e2, e3⟩ := findKey_rel (P := P) ht hkd hkvr hall
              rw [mfind_eq] at hl
              cases hf : kv.findIdx? (keyIs ks kd) with
              | none =>
                rw [hf] at e3 hl
                subst e3
                simp only [Option.some.injEq] at hl
                subst hl
                refine ⟨if c' then .tuple #[zv, .bool false] else zv, ?_, ?_⟩
                · rcases hrun with ⟨ex, rfl⟩ | ⟨n, clk, ex, hb⟩
                  · simp at hes
                    subst hes
                    simp at e1 e2
                    simp [execOp, ho, Instr.lookup, ex, run_underlying hty, e1, e2, hzero]
                  · simp [execOp, ho, Instr.lookup, ex, run_underlying hty, MapKept.run_getObj_map hb, e1, hes, e2, hzero]
                · have := chkVal_rel (w := w) (I := g.I) hz
                  cases c' with
                  | true => simp only [if_true, relV]; exact ⟨_, rfl, by simp [relVs, relV, relD, this]⟩
                  | false => simp only [Bool.false_eq_true, if_false, relV]; exact this
              | some j =>
                rw [hf] at e3 hl
                obtain ⟨e, he, rfl⟩ := e3
                obtain ⟨hj, p, hp, hpk⟩ := findIdx_lt hf
                simp only [hp, Option.map_some, Option.some.injEq] at hl
                subst hl
                have hpe := (hkvr.2 j p e hp he).2
                refine ⟨if c' then .tuple #[e.val, .bool true] else e.val, ?_, ?_⟩
                · rcases hrun with ⟨ex, rfl⟩ | ⟨n, clk, ex, hb⟩
                  · simp at hes
                    subst hes
                    simp at he
                  · simp [execOp, ho, Instr.lookup, ex, run_underlying hty, MapKept.run_getObj_map hb, e1, hes, e2]
                · cases c' with
                  | true => simp only [if_true, relV]; exact ⟨_, rfl, by simp [relVs, relV, relD, hpe]⟩
                  | false => simpa only [Bool.false_eq_true, if_false] using hpe
            · simp at hl
          unfold mgetV at hv
          split at hv
          · rename_i kd hkd
            split at hv
            · rename_i n hxv
              rw [hxv] at rx
              split at hv
              · rename_i kv hn
                obtain ⟨ex, ES, clk, hb, hkvr, hI⟩ := mp_rel hs.heap hn rx
                exact fin (es := ES) hkd rfl hkvr hv (.inr ⟨_, _, ex, hb⟩)
              · simp at hv
            · rename_i hxv
              rw [hxv] at rx
              have ex : a.eval x' = .map none := by simpa [relV, relD] using rx
              exact fin (es := #[]) (kv := []) hkd rfl ⟨rfl, fun i p e hp => by simp at hp⟩ hv (.inl ⟨ex, rfl⟩)
            · simp at hv
          · simp at hv
        · simp at hz
      · simp at hz
    · simp at ht
  · simp at hc
theorem sim_mdel (hs : SRel φ nt m dB s g a w) {rec : Rec} {x k : A} {ks : List CK} (hc : chkI P φ nt o (.mdel x k ks) = true) (hok : (evI rec (.mdel x k ks) s).ok = true)
    (hK : After φ nt m dB s g w (evI rec (.mdel x k ks) s) o a K) : o.wp P a w K Q := by
  simp only [chkI, Bool.and_eq_true, beq_iff_eq] at hc
  obtain ⟨hdst, hc⟩ := hc
  split at hc
  · rename_i c ho
    split at hc
    · rename_i x' k' t t2 hcal hargs htys
      simp only [Bool.and_eq_true] at hc
      obtain ⟨⟨hx, hk⟩, ht⟩ := hc
      split at ht
      · rename_i kt et hty
        obtain ⟨cal, args, tys⟩ := c
        simp only at hcal hargs htys
        have hargs' : args = #[x', k'] := by rw [← Array.toList_inj]; exact hargs
        have htys' : tys = #[t, t2] := by rw [← Array.toList_inj]; exact htys
        subst hcal; subst hargs'; subst htys'
        have rx := chkA_rel hs hx
        have rk := chkA_rel hs hk
        simp only [evI] at hok hK
        obtain ⟨hh, hst⟩ := setHeap_spec hok
        rw [hst] at hK
        have fin : ∀ {w' : World}, (Builtin.delete_ #[t, t2] o.type #[a.eval x', a.eval k']).run P w = .ok (.tuple #[]) w' → SRel φ nt m dB ⟨s.env, hh, s.ok⟩ g a w' → Frame m s.heap g w hh g w' → o.wp P a w K Q := by
          intro w' h1 h2 h3
          refine wp_val (v' := .tuple #[]) (w' := w') (by simp [execOp, ho, resolve, invoke, builtin, h1]) ?_
          have := hK g (.tuple #[]) w'
          rw [hdst] at this ⊢
          exact this h2 h3
        unfold mdelH at hst
        split at hst
        · rename_i n kd hxv hkv
          rw [hxv] at rx
          rw [hkv] at rk
          have hkd := relD_of_V rk
          split at hst
          · rename_i kv hn
            split at hst
            · rename_i hko
              simp only [Option.some.injEq] at hst
              subst hst
              obtain ⟨hself, hall⟩ := keyOk_spec hko
              obtain ⟨ex, ES, clk, hb, hkvr, hI⟩ := mp_rel hs.heap hn rx
              have e1 := checkKey_run (P := P) (w := w) ht hself hkd ES.isEmpty
              obtain ⟨r, e2, e3⟩ := findKey_rel (P := P) ht hkd hkvr hall
              have go : ∀ {kv' : List (D × V)} {ES' : Array MapEntry}, mdel ks kd kv = kv' → (Builtin.delete_ #[t, t2] o.type #[a.eval x', a.eval k']).run P w = (do setObj (g.β n) (.map ES' clk); pure (.tuple #[]) : Sem Value).run P w →
                  (∀ {h' : List O} {w' : World}, HLe s.heap g w h' g w' → relKV φ h' g w' kv' ES'.toList) → o.wp P a w K Q := by
                intro kv' ES' hkv' hrun hnew
                obtain ⟨w', h1, h2, h3⟩ := sim_map (P := P) hs (ok := s.ok) (clk' := clk) hn hb hI hnew
                subst hkv'
                exact fin (by rw [hrun]; simp [h1]) h2 h3
              cases hf : kv.findIdx? (keyIs ks kd) with
              | none =>
                rw [hf] at e3
                subst e3
                refine go (kv' := kv) (ES' := ES) (by rw [mdel_eq, hf]) ?_ fun hle => relKV_move hle hkvr
                simp [Builtin.delete_, run_underlying hty, ex, MapKept.run_getObj_map hb, e1, e2]
              | some j =>
                rw [hf] at e3
                obtain ⟨e, he, rfl⟩ := e3
                refine go (kv' := kv.eraseIdx j) (ES' := ES.eraseIdxIfInBounds j) (by rw [mdel_eq, hf]) ?_ fun hle => ?_
                · simp [Builtin.delete_, run_underlying hty, ex, MapKept.run_getObj_map hb, e1, e2]
                · have hm := relKV_move hle hkvr
                  have het : (ES.eraseIdxIfInBounds j).toList = ES.toList.eraseIdx j := by simp
                  rw [het]
                  refine ⟨by rw [List.length_eraseIdx, List.length_eraseIdx, hm.1], fun i p e hp he => ?_⟩
                  rw [List.getElem?_eraseIdx] at hp he
                  split at hp
                  · rename_i hij; rw [if_pos hij] at he; exact hm.2 i p e hp he
                  · rename_i hij; rw [if_neg hij] at he; exact hm.2 (i + 1) p e hp he
            · simp at hst
          · simp at hst
        · rename_i kd hxv hkv
          rw [hxv] at rx
          rw [hkv] at rk
          have hkd := relD_of_V rk
          have ex : a.eval x' = .map none := by simpa [relV, relD] using rx
          split at hst
          · rename_i hko
            simp only [Option.some.injEq] at hst
            subst hst
            obtain ⟨hself, hall⟩ := keyOk_spec hko
            have e1 := checkKey_run (P := P) (w := w) ht hself hkd true
            refine fin (w' := w) ?_ hs (Frame.refl _ _ _ _)
            simp [Builtin.delete_, run_underlying hty, ex, e1]
          · simp at hst
        · simp at hst
      · simp at ht
    · simp at hc
  · simp at hc
end
end Go.VS
namespace Go.VS
section
variable {P : Program} {φ : Phi}
variable {nt m dB : Nat} {s : St} {g : Gh} {a : Act} {w : World} {K : Act → World → Prop} {Q : Exit → Act → World → Prop} {o : Oper}
theorem asInt_rel {V' : Value} {x : V} {n : Int} {h : List O} (hv : asInt x = some n) (hr : relV φ h g w x V') : ∃ k, V' = .int k n := by
  cases x with
  | d z =>
    cases z with
    | i q k => simp [asInt] at hv; subst hv; exact ⟨q, relD_int (by simpa only [relV] using hr)⟩
    | _ => simp [asInt] at hv
  | _ => simp [asInt] at hv
theorem sim_mks (hs : SRel φ nt m dB s g a w) {rec : Rec} {d es : Nat} {n k : A} {z : List D} (hc : chkI P φ nt o (.mks d es z n k) = true) (hok : (evI rec (.mks d es z n k) s).ok = true)
    (hK : After φ nt m dB s g w (evI rec (.mks d es z n k) s) o a K) : o.wp P a w K Q := by
  simp only [chkI, Bool.and_eq_true] at hc
  obtain ⟨hd, h⟩ := hc
  split at h
  · rename_i t n' k' ho
    simp only [Bool.and_eq_true, decide_eq_true_eq] at h
    obtain ⟨⟨⟨hn, hk⟩, hpos⟩, ht⟩ := h
    split at ht
    · rename_i e hu
      simp only [Bool.and_eq_true] at ht
      obtain ⟨hz0, ht⟩ := ht
      obtain ⟨i, zv, hi, hz, hzr, hz1, hzs⟩ := zero_spec (g := g) (w := w) hz0
      rw [hi] at ht
      simp only [Bool.and_eq_true, beq_iff_eq, decide_eq_true_eq] at ht
      obtain ⟨hsz, hby⟩ := ht
      subst hsz
      have rn := chkA_rel hs hn
      have rk := chkA_rel hs hk
      simp only [evI] at hok hK
      obtain ⟨v, hh, hv⟩ := putH_spec hok
      rw [hv] at hK
      simp only [St.putH] at hK
      unfold mksV at hv
      split at hv
      · rename_i nn kk hnv hkv
        split at hv
        · rename_i hcond
          obtain ⟨h0, hnk, hfit, hzl⟩ := hcond
          simp only [Option.some.injEq, Prod.mk.injEq] at hv
          obtain ⟨rfl, rfl⟩ := hv
          obtain ⟨kn, en⟩ := asInt_rel hnv rn
          obtain ⟨kq, ek⟩ := asInt_rel hkv rk
          have hzc : zv.cells.size = i.size := by
            have := relDs_length hzr
            rw [hzl] at this
            simpa using this.symm
          have hc24 : kk.toNat ≤ 16777216 := Nat.le_trans (Nat.le_mul_of_pos_right _ hpos) hfit
          have hbm : (i.bytes : Int) * kk ≤ 281474976710656 := by
            have h1 : i.bytes * kk.toNat ≤ 16777216 * 16777216 := Nat.mul_le_mul hby hc24
            have h2 : (kk.toNat : Int) = kk := by omega
            rw [← h2]
            have h3 : ((i.bytes * kk.toNat : Nat) : Int) ≤ ((16777216 * 16777216 : Nat) : Int) := Int.ofNat_le.2 h1
            rw [Int.natCast_mul] at h3
            exact h3
          have hrun := run_makeSlice (P := P) w t e i zv hu hi hz kn kq nn kk h0 hnk hfit hbm (by omega)
          obtain ⟨z1, z2, z3⟩ := zeroCells_rel hzr hz1 (by rw [hzl]; exact hpos) nn.toNat
          obtain ⟨y1, y2, y3⟩ := zeroCells_rel hzr hz1 (by rw [hzl]; exact hpos) (kk.toNat - nn.toNat)
          have hmade : madeCells zv.cells (kk.toNat * i.size) = ((Builtin.zeroCells zv.cells nn.toNat).toList ++ (Builtin.zeroCells zv.cells (kk.toNat - nn.toNat)).toList).toArray := by
            have e1 : ∀ q : Nat, (Builtin.zeroCells zv.cells q).toList = (List.replicate q zv.cells.toList).flatten := by
              intro q
              unfold Builtin.zeroCells
              rw [show q * zv.cells.size = q * i.size by rw [hzc]]
              exact replicate_flatten q i.size zv.cells hzc hpos
            apply Array.ext'
            rw [e1, e1]
            show (madeCells zv.cells (kk.toNat * i.size)).toList = _
            unfold madeCells
            rw [replicate_flatten kk.toNat i.size zv.cells hzc hpos, ← List.flatten_append, List.replicate_append_replicate]
            have : nn.toNat + (kk.toNat - nn.toNat) = kk.toNat := by omega
            rw [this]
          rw [hmade] at hrun
          have hll : (List.replicate nn.toNat z).length = nn.toNat := by simp
          have := sim_newrowsG (P := P) (K := K) (Q := Q) (o := o) (a := a) hs hd (es := i.size) (ex := true) (ys := List.replicate nn.toNat z) (C := (Builtin.zeroCells zv.cells nn.toNat).toList) (ok := s.ok) (Grew.refl w) rfl
            (rest := (Builtin.zeroCells zv.cells (kk.toNat - nn.toNat)).toList) (T := e) (cap := kk.toNat)
            (by rw [hll]; simp only [execOp, ho, en, ek]; simp [hrun]) (fun r hr => by rw [List.mem_replicate] at hr; rw [hr.2, hzl]) z1 z2 (by rw [hll]; omega) ?_ y2
          · refine this fun g' v' w' k1 k2 => ?_
            rw [hll] at k1
            exact hK g' v' w' k1 k2
          · rw [z3, y3, hzl, ← Nat.add_mul]
            exact Nat.mul_le_mul_right _ (by omega)
        · simp at hv
      · simp at hv
    · simp at ht
  · simp at h
theorem sim_ixa (hs : SRel φ nt m dB s g a w) {rec : Rec} {d len es : Nat} {x i : A} (hc : chkI P φ nt o (.ixa d x i len es) = true) (hok : (evI rec (.ixa d x i len es) s).ok = true)
    (hK : After φ nt m dB s g w (evI rec (.ixa d x i len es) s) o a K) : o.wp P a w K Q := by
  simp only [chkI, Bool.and_eq_true] at hc
  obtain ⟨hd, h⟩ := hc
  split at h
  · rename_i t y k ho
    simp only [Bool.and_eq_true] at h
    obtain ⟨⟨hx, hi⟩, ht⟩ := h
    have rx := chkA_rel hs hx
    have ri := chkA_rel hs hi
    refine sim_putO hs hd hok (fun v hv => ?_) hK
    split at ht
    · rename_i n e hu
      simp only [Bool.and_eq_true, decide_eq_true_eq, beq_iff_eq] at ht
      obtain ⟨⟨⟨rfl, h1⟩, hsz⟩, hpos⟩ := ht
      have hsz' := run_size (P := P) (w := w) hsz
      have run : ∀ {b o' : Nat} {q : IntKind} {j : Int}, a.eval y = .pointer (some ⟨b, o', none⟩) → a.eval k = .int q j → 0 ≤ j → j < n → (execOp a.eval o).run P w = .ok (.value (.pointer (some ⟨b, o' + j.toNat * es, none⟩))) w := by
        intro b o' q j he hk h0 hj
        simp [execOp, ho, he, hk, Instr.indexAt, underlying, hu, Instr.sureAddr, asIntOf, h0, hj, hsz', addr_add]
      unfold ixa at hv
      split at hv
      · rename_i cs kk j hp hq
        rw [hp] at rx; rw [hq] at ri
        have ei := relD_int (by simpa only [relV] using ri)
        simp only [relV, relD] at rx
        obtain ⟨b, o', he, hI, hcs⟩ := rx
        split at hv
        · rename_i hcond
          obtain ⟨h0, hj, hle⟩ := hcond
          simp only [Option.some.injEq] at hv
          subst hv
          refine ⟨_, run he ei h0 hj, ?_⟩
          simp only [relV, relD]
          refine ⟨b, o' + j.toNat * es, rfl, ?_, relCells_drop hcs _⟩
          have : j.toNat * es ≤ n * es := Nat.mul_le_mul_right _ (by omega)
          simp
          omega
        · simp at hv
      · rename_i q r c kk j hp hq
        rw [hp] at rx; rw [hq] at ri
        have ei := relD_int (by simpa only [relV] using ri)
        simp only [relV] at rx
        split at hv
        · rename_i hcond
          obtain ⟨h0, hj, ha⟩ := hcond
          simp only [Option.some.injEq] at hv
          subst hv
          obtain ⟨es', hes⟩ := es_of_arr ha
          refine ⟨_, run (rx.2.2 es' hes) ei h0 hj, ?_⟩
          simp only [relV]
          refine ⟨rx.1, rfl, fun es'' he' => ?_⟩
          rw [hes] at he'
          simp at he'
          subst he'
          simp [Nat.add_assoc]
        · simp at hv
      · simp at hv
    · simp at ht
  · simp at h
end
end Go.VS
namespace Go.VS
section
variable {P : Program} {φ : Phi}
variable {nt m dB : Nat} {s : St} {g : Gh} {a : Act} {w : World} {K : Act → World → Prop} {Q : Exit → Act → World → Prop} {o : Oper}
theorem sim_ldd (hs : SRel φ nt m dB s g a w) {rec : Rec} {d n : Nat} {ag : Bool} {x : A} (hc : chkI P φ nt o (.ldd d x n ag) = true) (hok : (evI rec (.ldd d x n ag) s).ok = true)
    (hK : After φ nt m dB s g w (evI rec (.ldd d x n ag) s) o a K) : o.wp P a w K Q := by
  simp only [evI] at hok hK
  obtain ⟨v, hv⟩ := putO_spec hok
  have he : ldV s.heap n ag (s.get x) = some v := by
    unfold lddV at hv
    split at hv
    · rename_i cs hx; rw [hx]; exact hv
    · rename_i cs hx; rw [hx]; exact hv
    · simp at hv
  refine sim_ld (rec := rec) hs hc ?_ ?_
  · simp only [evI, he]; rw [hv] at hok; exact hok
  · simp only [evI, he]; rw [hv] at hK; exact hK
theorem sim_fad (hs : SRel φ nt m dB s g a w) {rec : Rec} {d off n : Nat} {x : A} (hc : chkI P φ nt o (.fad d x off n) = true) (hok : (evI rec (.fad d x off n) s).ok = true)
    (hK : After φ nt m dB s g w (evI rec (.fad d x off n) s) o a K) : o.wp P a w K Q := by
  simp only [evI] at hok hK
  obtain ⟨v, hv⟩ := putO_spec hok
  have he : fa s.heap off n (s.get x) = some v := by
    unfold fadV at hv
    split at hv
    · rename_i cs hx; rw [hx]; exact hv
    · rename_i cs hx; rw [hx]; exact hv
    · simp at hv
  refine sim_fa (rec := rec) hs hc ?_ ?_
  · simp only [evI, he]; rw [hv] at hok; exact hok
  · simp only [evI, he]; rw [hv] at hK; exact hK
def I.isY : I → Bool
  | .cally .. => true
  | _ => false
theorem sim_I {rec : Rec} (hq : QuietCall P φ rec) (hs : SRel φ nt m dB s g a w) {i : I} (hc : chkI P φ nt o i = true) (hY : i.isY = false) (hok : (evI rec i s).ok = true)
    (hK : After φ nt m dB s g w (evI rec i s) o a K) : o.wp P a w K Q := by
  cases i with
  | mv d x => exact sim_mv hs hc hK
  | pick d c x y => exact sim_pick hs hc hok hK
  | box d x n fz => exact sim_box hs hc hok hK
  | new d z => exact sim_new hs hc hK
  | build d z ps => exact sim_build hs hc hok hK
  | buildSl d es n z ps fz => exact sim_buildSl hs hc hok hK
  | ld d x n ag => exact sim_ld hs hc hok hK
  | st x y n fz =>
    cases fz with
    | false => exact sim_st hs hc hok hK
    | true => exact sim_stfz hs hc hok hK
  | fa d x o n => exact sim_fa hs hc hok hK
  | ixs d x i es => exact sim_ixs hs hc hok hK
  | bin d op x y => exact sim_bin hs hc hok hK
  | eqv d neg x y ks => exact sim_eqv hs hc hok hK
  | eqb d neg x y => exact sim_eqb hs hc hok hK
  | isnil d neg x k => exact sim_isnil hs hc hok hK
  | un d op x => exact sim_un hs hc hok hK
  | cvi d k x => exact sim_cvi hs hc hok hK
  | len d x k => exact sim_len hs hc hok hK
  | ext d x i => exact sim_ext hs hc hok hK
  | sl d x lo hi es => exact sim_sl hs hc hok hK
  | cl0 d x es => exact sim_cl0 hs hc hok hK
  | app d x y es => exact sim_app hs hc hok hK
  | appf d x y es => exact sim_appf hs hc hok hK
  | lit0 d es z => exact sim_lit0 hs hc hK
  | ldz d x n ag => exact sim_ldz hs hc hok hK
  | apk d x y es => exact sim_apk hs hc hok hK
  | callz d f xs => exact sim_callz hq hs hc hok hK
  | calls d f xs => exact sim_calls hq hs hc hok hK
  | cally d x xs => simp [I.isY] at hY
  | mkf d f x y => exact sim_mkf hs hc hK
  | call d f xs => exact sim_call hq hs hc hok hK
  | callv d x xs => exact sim_callv hq hs hc hok hK
  | inv d nm tbl x xs => exact sim_inv hq hs hc hok hK
  | mki d t x => exact sim_mki hs hc hok hK
  | mx d x y => exact sim_mx hs hc hok hK
  | callk d f xs => exact sim_callr false hq hs hc hok hK
  | callr d f xs => exact sim_callr true hq hs hc hok hK
  | callvr d x xs => exact sim_callvr hq hs hc hok hK
  | nck d x => exact sim_nck hs hc hok hK
  | mn d x y => exact sim_mn hs hc hok hK
  | fld d x off n ag => exact sim_fld hs hc hok hK
  | sl3 d x lo hi mz es => exact sim_sl3 hs hc hok hK
  | clr d x es z => exact sim_clr hs hc hok hK
  | copy d x y es => exact sim_copy hs hc hok hK
  | cap d x => exact sim_cap hs hc hok hK
  | ixa d x j len es => exact sim_ixa hs hc hok hK
  | mks d es z n k => exact sim_mks hs hc hok hK
  | appz d x k es z => exact sim_appz hs hc hok hK
  | ovl d f x y es => exact sim_ovl hs hc hok hK
  | bad d => simp [evI, St.fail] at hok
  | ldd d x n ag => exact sim_ldd hs hc hok hK
  | fad d x o n => exact sim_fad hs hc hok hK
  | mkm d => exact sim_mkm hs hc hK
  | mput m k v ks => exact sim_mput hs hc hok hK
  | mget d m k z ok ks => exact sim_mget hs hc hok hK
  | mdel m k ks => exact sim_mdel hs hc hok hK
  | _ => simp [chkI] at hc
end
end Go.VS
namespace Go.VS
def Wd (r : Option Nat) : Fence := { Fence.wide with round := r }
section
variable {P : Program} {φ : Phi}
variable {nt m dB : Nat} {s : St} {g : Gh} {a : Act} {w : World} {K : Act → World → Prop} {Q : Exit → Act → World → Prop} {o : Oper}
variable {r : Option Nat} {n : Nat}
theorem callsIn_wd {f : FuncId} {args : Array Value} {R : Ending → World → Prop} (h : Calls P f args w R) : CallsIn (Wd r) n P f args w R := (callsIn_wide (n := n)).2 h
theorem rowsIn_wd {row : String} {args : Array Value} {R : Value → World → Prop} (h : Rows P row args w R) : RowsIn (Wd r) n P row args w R :=
  fun c cs _ => let ⟨v, w', r, s⟩ := h c cs; ⟨v, w', r, stepsIn_wide.2 s⟩
theorem wd_depth : (Wd r).depth.isSome = true → 1 ≤ n := fun h => by simp [Wd, Fence.wide] at h
theorem wpIn_of_wp (hd : ∀ c, o.op ≠ .defer c) (h : o.wp P a w K Q) : o.wpIn (Wd r) n P a w K Q := by
  refine ⟨fun _ _ => trivial, ?_⟩
  rw [Oper.semAt_eq _ _ _ hd]
  unfold Oper.wp at h
  generalize (execOp a.eval o).run P w = res at h ⊢
  cases res with
  | ok x w' =>
    cases x <;> simp only [Oper.upon, Oper.uponIn] at h ⊢
    case value => exact h
    case skip => exact h
    case defer => exact h
    case enter => exact ⟨wd_depth, callsIn_wd h⟩
    case row => exact ⟨wd_depth, rowsIn_wd h⟩
  | halt x w' =>
    cases x <;> simp only [Oper.upon, Oper.uponIn] at h ⊢ <;> exact h
theorem chkI_defer {i : I} (h : chkI P φ nt o i = true) (hb : ∀ d, i ≠ .bad d) : ∀ c, o.op ≠ .defer c := by
  intro c hc
  cases i <;> simp [chkI, hc] at h
  all_goals exact absurd rfl (hb _)
theorem wpIn_scope_straight {F : Fence} {c : Code} (h : c.wpIn F n P (Exit.noGoto Q) a w) : (Code.scope c).wpIn F n P Q a w := by
  intro b k cs hro hb hr
  have h0 : (lone (b.atR a (.code (.scope c) :: k)) cs w).fenced P F := fenced_calm hb hr rfl
  have s1 : step P (lone (b.atR a (.code (.scope c) :: k)) cs w) = .next (lone (b.atR a (.code c :: .inScope c :: k)) cs w) := step_lone_go (by simp [stepG, stepG.exec, Frame.atR])
  have s2 : ∀ {a : Act} {w : World}, step P (lone (b.atR a (.inScope c :: k)) cs w) = .next (lone (b.atR a k) cs w) := step_lone_go (by simp [stepG, stepG.exec, Frame.atR])
  obtain ⟨e, a₁, w₁, hq, harr⟩ := h b (.inScope c :: k) cs hro hb hr
  cases e with
  | normal => exact ⟨.normal, a₁, w₁, hq, .head h0 s1 (StepsIn.trans harr (.one (fenced_calm hb hr rfl) s2))⟩
  | exit id =>
    have hx : exitTo id (.inScope c :: k) = exitTo id k := by simp [exitTo]
    exact ⟨.exit id, a₁, w₁, hq, fun k' hk => .head h0 s1 (harr.1 k' (by rw [hx]; exact hk)),
      fun hr' hk => let ⟨k₁, h1, h2⟩ := harr.2 hr' (by rw [hx]; exact hk); ⟨k₁, h1, .head h0 s1 h2⟩⟩
  | goto l => exact hq.elim
  | ret => exact ⟨_, a₁, w₁, hq, .of_steps (.one h0 s1) harr⟩
  | panic ch => exact ⟨_, a₁, w₁, hq, .of_steps (.one h0 s1) harr⟩
  | outgrown => exact ⟨_, a₁, w₁, hq, .of_steps (.one h0 s1) harr⟩
def isC : Obj → Bool
  | .cells .. => true
  | _ => false
theorem cell_put_other {b D i : Nat} {x : Obj} (h : b ≠ D) : (w.putObj D x).cell? ⟨b, i, none⟩ = w.cell? ⟨b, i, none⟩ := cell_of_heap (World.putObj_heap_other h) i
theorem cell_none {D i : Nat} {x : Obj} (h : w.heap[D]? = some x) (hx : isC x = false) : w.cell? ⟨D, i, none⟩ = none := by
  simp only [World.cell?, h]
  cases x <;> simp [isC] at hx ⊢
theorem ext_put {I : Nat → Nat} {D : Nat} {x y : Obj} (h : w.heap[D]? = some x) (hx : isC x = false) (hy : isC y = false) : Ext I w I (w.putObj D y) :=
  ⟨fun _ => Nat.le_refl _, fun b i _ => by
    by_cases hb : b = D
    · subst hb
      rw [cell_none h hx, cell_none (World.putObj_heap_same (heap_lt h)) hy]
    · exact cell_put_other hb⟩
theorem hle_put {h : List O} {D : Nat} {x y : Obj} (hh : w.heap[D]? = some x) (hx : isC x = false) (hy : isC y = false) (hn : ∀ k, (hget h k).live = true → g.β k ≠ D) : HLe h g w h g (w.putObj D y) where
  ext := ext_put hh hx hy
  len := Nat.le_refl _
  arr n es _ he := ⟨he, rfl, rfl, rfl, Stays.of_eq (World.putObj_heap_other (hn n (es_live he)))⟩
  mp n kv _ hk := ⟨⟨kv, hk⟩, rfl⟩
  lp n _ hk := ⟨hk, rfl⟩
theorem hrel_put {h : List O} {D : Nat} {x y : Obj} (hr : HRel φ h g w) (hh : w.heap[D]? = some x) (hx : isC x = false) (hy : isC y = false) (hn : ∀ k, (hget h k).live = true → g.β k ≠ D) : HRel φ h g (w.putObj D y) where
  obj n := by
    by_cases hl : (hget h n).live = true
    · exact objRel_move (hle_put hh hx hy hn) (World.putObj_heap_other (hn n hl)) rfl (hr.obj n)
    · cases hq : hget h n <;> simp_all [O.live, objRel]
  inj := hr.inj
  new b hb := hr.new b (by simpa using hb)
theorem frame_put {h h' : List O} {g' : Gh} {w' : World} {D : Nat} {x y : Obj} (hf : Frame m h g w h' g' w') (hh : w.heap[D]? = some x) (hy : isC y = false)
    (hn : ∀ k, (hget h k).live = true → g.β k ≠ D) : Frame m h g (w.putObj D y) h' g' (w'.putObj D y) where
  ext := ⟨hf.ext.le, fun b i hi => by
    by_cases hb : b = D
    · subst hb
      have h1 := heap_lt hh
      rw [cell_none (World.putObj_heap_same h1) hy, cell_none (World.putObj_heap_same (Nat.lt_of_lt_of_le h1 hf.size)) hy]
    · rw [cell_put_other hb, cell_put_other hb]; exact hf.ext.cell b i hi⟩
  size := by simpa using hf.size
  os := hf.os
  tape := hf.tape
  output := hf.output
  pin := hf.pin
  keep b hb hl := by
    have h1 := hf.keep b (by simpa using hb) hl
    refine ⟨?_, h1.2⟩
    by_cases hbD : b = D
    · subst hbD
      have h2 := heap_lt hh
      rw [World.putObj_heap_same h2, World.putObj_heap_same (Nat.lt_of_lt_of_le h2 hf.size)]
    · rw [World.putObj_heap_other hbD, World.putObj_heap_other hbD]; exact h1.1
  lives k hk := by simpa using hf.lives k hk
  les k hk := by
    have h1 := hf.les k hk
    refine ⟨fun es he => ?_, h1.mp, h1.lp⟩
    obtain ⟨k1, k2, k3⟩ := h1.arr es he
    have hb := hn k (es_live k1)
    have hb' : g.β k ≠ D := hb
    refine ⟨k1, k2, ?_⟩
    rw [World.putObj_heap_other hb', World.putObj_heap_other hb']
    exact k3
theorem frame_put_new {h h' : List O} {g' : Gh} {w' : World} {D : Nat} {x y : Obj} (hf : Frame m h g w h' g' w') (hr : HRel φ h g w) (hD : w.heap.size ≤ D) (hh : w'.heap[D]? = some x) (hx : isC x = false) (hy : isC y = false) :
    Frame m h g w h' g' (w'.putObj D y) where
  ext := hf.ext.trans (ext_put hh hx hy)
  size := by simpa using hf.size
  os := hf.os
  tape := hf.tape
  output := hf.output
  pin := hf.pin
  keep b hb hl := by
    have h1 := hf.keep b hb hl
    exact ⟨by rw [World.putObj_heap_other (by omega)]; exact h1.1, h1.2⟩
  lives k hk := hf.lives k hk
  les k hk := by
    have h1 := hf.les k hk
    refine ⟨fun es he => ?_, h1.mp, h1.lp⟩
    obtain ⟨k1, k2, k3⟩ := h1.arr es he
    have hb := hr.block (es_live k1)
    refine ⟨k1, k2, ?_⟩
    rw [World.putObj_heap_other (by omega)]
    exact k3
theorem putObj_putObj {D : Nat} {x y : Obj} : (w.putObj D x).putObj D y = w.putObj D y := by
  simp [World.putObj]
theorem DefOk.put {h : List O} {ds : List Deferred} {D : Nat} {x y : Obj} (hd : DefOk dB h g ds w) (hh : w.heap[D]? = some x) (hx : ∀ l, x ≠ .deferred l) : DefOk dB h g ds (w.putObj D y) where
  at_ d hm := by
    obtain ⟨E, h1, h2, h3, h4⟩ := hd.at_ d hm
    refine ⟨E, h1, h2, ?_, h4⟩
    rw [World.putObj_heap_other]
    · exact h3
    · intro he
      subst he
      rw [hh] at h3
      simp at h3
      exact hx _ h3
  nodup := hd.nodup
  le := by simpa using hd.le
theorem SRel.putObj {D : Nat} {x y : Obj} (hs : SRel φ nt m dB s g a w) (hh : w.heap[D]? = some x) (hx : isC x = false) (hd : ∀ l, x ≠ .deferred l) (hy : isC y = false) (hn : ∀ k, (hget s.heap k).live = true → g.β k ≠ D) :
    SRel φ nt m dB s g a (w.putObj D y) where
  env k := relV_le (hle_put hh hx hy hn) (hs.env k)
  heap := hrel_put hs.heap hh hx hy hn
  size := hs.size
  defers := hs.defers.put hh hd
  len := hs.len
end
end Go.VS
namespace Go.VS
def finRec (rc : Loop) (e : Ex) : Loop := { rc with state := if e = .normal then .ready else .done, pending := exCode e }
def RoundOk (P : Program) (φ : Phi) (rec : Rec) : Prop :=
  ∀ (ps : List Nat) (A B : C) (xs : List V) (env : List (Nat × V)) (h : List O) (e : Ex) (env' : List (Nat × V)) (h1 : List O), rec (.round ps A B xs env h) = some (.out e env' h1) →
  ∀ (n : Nat) (r : Option Nat) (g : Gh) (w : World) (l : Nat) (rc : Loop) (nt : Nat) (args : List Value), φ.lk ps A B rc.assign rc.body nt → nt ≤ rc.tmps.size → rc.params = ps.toArray → HRel φ h g w →
    relVs φ h g w xs args → relEnv φ h g w env rc.tmps → xs.length = ps.length → w.heap[l]? = some (.loop rc) → rc.state = .ready → (∀ k, (hget h k).live = true → g.β k ≠ l) →
    RoundIn (Wd r) n P l rc.fn ((rc.params.zip args.toArray).foldl (fun tmps (t, a) => tmps.setIfInBounds t a) rc.tmps) rc.assign rc.body w fun e' w' =>
      ∃ g', e' = .returned (.bool (exCode e).isNone) ∧ HRel φ h1 g' w' ∧ Frame h.length h g (w.putObj l (.loop (finRec rc e))) h1 g' w'
section
variable {P : Program} {φ : Phi}
variable {nt m dB : Nat} {s : St} {g : Gh} {a : Act} {w : World} {K : Act → World → Prop} {Q : Exit → Act → World → Prop} {o : Oper}
variable {r : Option Nat} {n : Nat}
theorem callY_spec {rec : Rec} {h : List O} {x : V} {xs : List V} {v2 : V} {h2 : List O} (hc : callY rec h x xs = some (v2, h2)) : ∃ k ps A B env L e env' h1, x = .yld k ∧ hget h k = .lp ps A B .normal env ∧ xs.length = ps.length ∧
    cut (h.set k .dead) 0 (V.locsL xs ++ envLocs env) = some L ∧ k ∉ L ∧ rec (.round ps A B (V.renL (L.idxOf ·) xs) (envRen (L.idxOf ·) env) (sub (h.set k .dead) L)) = some (.out e env' h1) ∧ L.length ≤ h1.length ∧
    v2 = .d (.b (exCode e).isNone) ∧ h2 = mergeH (h.set k (.lp ps A B e env)) L h1 := by
  unfold callY at hc
  split at hc <;> try (simp at hc; done)
  rename_i k
  split at hc <;> try (simp at hc; done)
  rename_i ps A B env hk
  split at hc <;> try (simp at hc; done)
  rename_i hlen
  split at hc <;> try (simp at hc; done)
  rename_i L hL
  split at hc <;> try (simp at hc; done)
  rename_i hn
  split at hc <;> try (simp at hc; done)
  rename_i e env' h1 hr
  split at hc <;> try (simp at hc; done)
  rename_i hle
  simp only [Option.some.injEq, Prod.mk.injEq] at hc
  refine ⟨k, ps, A, B, env, L, e, env', h1, rfl, hk, hlen, hL, hn, hr, hle, ?_, ?_⟩
  · rw [← hc.1]; cases e <;> rfl
  · rw [← hc.2]; simp [mergeH]
theorem sub_congr {h h' : List O} {L : List Nat} (he : ∀ n ∈ L, hget h n = hget h' n) : sub h L = sub h' L := by
  unfold sub
  exact List.map_congr_left fun n hn => by rw [he n hn]
theorem turned_put {D : Nat} {y : Obj} : Turned w (w.putObj D y) D := ⟨by simp, fun _ hk => World.putObj_heap_other hk, rfl, rfl, rfl⟩
theorem relEnv_ren {h : List O} {L : List Nat} {env : List (Nat × V)} {tmps : Array Value} (hl : ∀ n ∈ envLocs env, n ∈ L) (hr : relEnv φ h g w env tmps) : relEnv φ (sub h L) (gcut g L) w (envRen (L.idxOf ·) env) tmps := by
  intro p hp
  simp only [envRen, List.mem_map] at hp
  obtain ⟨q, hq, rfl⟩ := hp
  exact relV_ren (fun n hn => hl n (env_locs hq hn)) (hr q hq)
theorem sub_apart {h : List O} {L : List Nat} {k : Nat} (hr : HRel φ h g w) (hk : k ∉ L) (hl : (hget h k).live = true) : ∀ j, (hget (sub (h.set k .dead) L) j).live = true → (gcut g L).β j ≠ g.β k := by
  intro j hj hb
  by_cases hlt : j < L.length
  · have hg : L[j]? = some L[j] := by simp [hlt]
    have hne : L[j] ≠ k := fun he => hk (he ▸ List.getElem_mem hlt)
    rw [sub_get hg, ren_live, hget_set_other hne] at hj
    simp only [gcut, List.getD, hg, Option.getD_some] at hb
    exact hne (hr.inj _ _ hj hl hb)
  · rw [sub_out (by omega)] at hj; simp [O.live] at hj
theorem sim_cally {rec : Rec} (hy : RoundOk P φ rec) (hs : SRel φ nt m dB s g a w) {d : Option Nat} {x : A} {xs : List A} (hc : chkI P φ nt o (.cally d x xs) = true) (hok : (evI rec (.cally d x xs) s).ok = true)
    (hK : After φ nt m dB s g w (evI rec (.cally d x xs) s) o a K) : o.wpIn (Wd r) n P a w K Q := by
  have hdf := chkI_defer hc (by simp)
  simp only [chkI, Bool.and_eq_true] at hc
  obtain ⟨hd, h⟩ := hc
  split at h
  · rename_i c ho
    split at h
    · rename_i y hcal
      simp only [Bool.and_eq_true] at h
      obtain ⟨hx, hxs⟩ := h
      simp only [evI] at hok hK
      have rx := chkA_rel hs hx
      have rxs := chkAs_rel hs hxs
      obtain ⟨⟨v2, h2⟩, hv⟩ := putHO_some hok
      rw [hv] at hK
      obtain ⟨k, ps, A, B, env, L, e, env', h1, hxk, hk, hlen, hL, hkL, hrec, hle, rfl, rfl⟩ := callY_spec hv
      rw [hxk] at rx
      simp only [relV] at rx
      have hey := rx.2.2 (by rw [hk]; rfl)
      have hl : (hget s.heap k).live = true := by rw [hk]; rfl
      have hobj := hs.heap.obj k
      rw [hk] at hobj
      obtain ⟨rc, nt', hb, hps, hlk, hnt, henv, hst, hpe, hI⟩ := hobj
      simp only [if_true] at hst
      have hal : (c.args.toList.map a.eval).length = ps.length := by
        rw [← relVs_length rxs]
        exact hlen
      refine ⟨fun _ _ => trivial, ?_⟩
      rw [Oper.semAt_eq _ _ _ hdf]
      have hyd := run_yield (P := P) hb (args := c.args.map a.eval) (by rw [hps]; simpa using hal)
      have hrun : (execOp a.eval o).run P w = .ok (.round (g.β k) rc.fn ((rc.params.zip (c.args.map a.eval)).foldl (fun tmps (t, a) => tmps.setIfInBounds t a) rc.tmps) rc.assign rc.body) w := by
        simp [execOp, ho, resolve, hcal, hey, Deferred.ofValue, invoke, hyd]
      rw [hrun, Oper.uponIn_round]
      refine ⟨wd_depth, ?_⟩
      obtain ⟨hnd, hroots, hcl, _, _⟩ := cut_spec hL
      obtain ⟨kS, kF, kle⟩ := hs.kill hl s.ok
      have hround := hy ps A B _ _ _ e env' h1 hrec (n - 1) r (gcut g L) w (g.β k) rc nt' (c.args.toList.map a.eval) hlk hnt hps (hrel_cut hL kS.heap)
        (relVs_ren (fun n hn => hroots n (List.mem_append_left _ hn)) (relVs_le kle rxs)) (relEnv_ren (fun n hn => hroots n (List.mem_append_right _ hn)) (relEnv_move kle henv))
        (by rw [renL_length]; exact hlen) hb hst (sub_apart hs.heap hkL hl)
      have hargs : (c.args.toList.map a.eval).toArray = c.args.map a.eval := by rw [← Array.toList_map]
      rw [hargs] at hround
      refine RoundIn.mono hround fun e' w' hh => ?_
      obtain ⟨g1, rfl, hH1, hfr⟩ := hh
      have ht : Turned w (w.putObj (g.β k) (.loop (finRec rc e))) (g.β k) := turned_put
      have hE : Ext g.I w g.I (w.putObj (g.β k) (.loop (finRec rc e))) := ext_put hb rfl rfl
      have hle1 : HLe s.heap g w (s.heap.set k (.lp ps A B e env)) (g.setI g.I) (w.putObj (g.β k) (.loop (finRec rc e))) :=
        hle_turn hs.heap hl ht hE (fun es he => by simp [O.es?] at he) (fun kv hk => by simp at hk) (fun _ => by rw [hk]; rfl)
      have hH : HRel φ (s.heap.set k (.lp ps A B e env)) (g.setI g.I) (w.putObj (g.β k) (.loop (finRec rc e))) :=
        hrel_turn hs.heap hl ht hle1 (fun _ _ => rfl) ⟨finRec rc e, nt', World.putObj_heap_same (heap_lt hb), hps, hlk, hnt, relEnv_move hle1 henv, rfl, rfl, hI⟩
      have hF1 := frame_turn (m := m) (.lp ps A B e env) hl ht hE (fun _ _ => rfl) hle1
      have hsub : sub (s.heap.set k .dead) L = sub (s.heap.set k (.lp ps A B e env)) L := sub_congr fun n hn => by
        have hne : n ≠ k := fun he => hkL (he ▸ hn)
        rw [hget_set_other hne, hget_set_other hne]
      rw [hsub, sub_length] at hfr
      have M : Merge φ (s.heap.set k (.lp ps A B e env)) L g (w.putObj (g.β k) (.loop (finRec rc e))) h1 g1 w' := ⟨hH, hnd, fun n hn => by simpa using (hcl n hn).1, hle, hH1, hfr⟩
      have hlen' : m ≤ (s.heap.set k (.lp ps A B e env)).length := by simpa using hs.len
      have hF := hF1.trans (M.frame hlen')
      have hS : ∀ ok, SRel φ nt m dB ⟨s.env, mergeH (s.heap.set k (.lp ps A B e env)) L h1, ok⟩ (mergeG (s.heap.set k (.lp ps A B e env)) L g g1) a w' := fun ok =>
        ⟨fun j => relV_le (hle1.trans M.hle) (hs.env j), M.hrel, hs.size, hs.defers.frame hF, Nat.le_trans hlen' M.hle.len⟩
      obtain ⟨e1, e2⟩ := dstMay_spec hd
      refine hK (mergeG (s.heap.set k (.lp ps A B e env)) L g g1) (.bool (exCode e).isNone) w' ?_ ?_
      · rw [e1]
        cases d with
        | none => exact hS _
        | some d => exact (hS s.ok).putV (e2 d rfl) (by simp [relV, relD])
      · cases d with
        | none => exact hF
        | some d => exact hF
    · simp at h
  · simp at h
theorem sim_In {rec : Rec} (hq : QuietCall P φ rec) (hy : RoundOk P φ rec) (hs : SRel φ nt m dB s g a w) {i : I} (hc : chkI P φ nt o i = true) (hok : (evI rec i s).ok = true)
    (hK : After φ nt m dB s g w (evI rec i s) o a K) : o.wpIn (Wd r) n P a w K Q := by
  by_cases hi : i.isY = true
  · cases i <;> simp [I.isY] at hi
    exact sim_cally hy hs hc hok hK
  · refine wpIn_of_wp (chkI_defer hc fun d he => ?_) (sim_I hq hs hc (by simpa using hi) hok hK)
    subst he
    simp [evI, St.fail] at hok
end
end Go.VS
namespace Go.VS
def I.reads : I → List A
  | .mv _ x => [x]
  | .pick _ c a b => [c, a, b]
  | .box _ x _ _ => [x]
  | .new .. => []
  | .build _ _ ps => ps.map fun p => p.2.2
  | .buildSl _ _ _ _ ps _ => ps.map fun p => p.2
  | .ld _ x _ _ => [x]
  | .st x y _ _ => [x, y]
  | .fa _ x _ _ => [x]
  | .ixs _ x i _ => [x, i]
  | .ixa _ x i _ _ => [x, i]
  | .fld _ x _ _ _ => [x]
  | .bin _ _ x y => [x, y]
  | .eqv _ _ x y _ => [x, y]
  | .eqb _ _ x y => [x, y]
  | .isnil _ _ x _ => [x]
  | .un _ _ x => [x]
  | .cvi _ _ x => [x]
  | .len _ x _ => [x]
  | .sl _ x lo hi _ => x :: (lo.toList ++ hi.toList)
  | .app _ x y _ => [x, y]
  | .clr _ x _ _ => [x]
  | .copy _ x y _ => [x, y]
  | .ext _ x _ => [x]
  | .mkf _ _ a b => a ++ b
  | .mkm _ => []
  | .mput m k v _ => [m, k, v]
  | .mget _ m k _ _ _ => [m, k]
  | .mdel m k _ => [m, k]
  | .call _ _ xs => xs
  | .callk _ _ xs => xs
  | .callr _ _ xs => xs
  | .callv _ x xs => x :: xs
  | .callvr _ x xs => x :: xs
  | .nck _ x => [x]
  | .newf .. => []
  | .cl0 _ x _ => [x]
  | .stf _ y _ _ => [y]
  | .sl3 _ x lo hi mz _ => [x, lo, hi, mz]
  | .mn _ x y => [x, y]
  | .cap _ x => [x]
  | .appz _ x k _ _ => [x, k]
  | .ovl _ _ x y _ => [x, y]
  | .bad _ => []
  | .ldd _ x _ _ => [x]
  | .fad _ x _ _ => [x]
  | .cally _ x xs => x :: xs
  | .appf _ x y _ => [x, y]
  | .lit0 .. => []
  | .ldz _ x _ _ => [x]
  | .apk _ x y _ => [x, y]
  | .callz _ _ xs => xs
  | .calls _ _ xs => xs
  | .mki _ _ x => [x]
  | .inv _ _ _ x xs => x :: xs
  | .mx _ x y => [x, y]
  | .mks _ _ _ n k => [n, k]
def I.quiet : I → Bool
  | .mv .. | .pick .. | .build .. | .ld .. | .fa .. | .ixs .. | .ixa .. | .fld .. | .bin .. | .eqv .. | .eqb .. | .isnil .. | .un .. | .cvi .. | .len .. | .sl .. | .ext .. | .mkf .. | .mget ..
  | .call .. | .callv .. | .nck .. | .newf .. | .cl0 .. | .sl3 .. | .mn .. | .cap .. | .ovl .. | .ldd .. | .fad .. | .appf .. | .lit0 .. | .calls .. | .mki .. | .inv .. | .mx .. => true
  | .box _ _ _ fz => fz
  | .buildSl _ _ _ _ _ fz => fz
  | _ => false
def I.blind : I → Bool
  | .mv .. | .pick .. | .build .. | .fld .. | .bin .. | .eqv .. | .eqb .. | .un .. | .cvi .. | .ext .. | .mkf .. | .call .. | .callv .. | .nck .. | .newf .. | .mn .. | .ldd .. | .fad .. | .lit0 .. | .mki .. | .inv .. | .mx .. => true
  | .box _ _ _ fz => fz
  | .buildSl _ _ _ _ _ fz => fz
  | _ => false
def W (d : Option Nat) (v : V) : List (Nat × V) :=
  match d with
  | some d => [(d, v)]
  | none => []
def Alike (q : Bool) (d : Option Nat) (s s' r r' : St) : Prop :=
  r.ok = true → s'.ok = true → r'.ok = true ∧ ∃ v, r.env = W d v ++ s.env ∧ r'.env = W d v ++ s'.env ∧ ((r.heap = s.heap ∧ r'.heap = s'.heap) ∨ (q = false ∧ r.heap = r'.heap))
section
variable {q : Bool} {s s' : St}
theorem Alike.put {d : Nat} {v : V} : Alike q (some d) s s' (s.put d v) (s'.put d v) := fun _ h' => ⟨h', v, rfl, rfl, .inl ⟨rfl, rfl⟩⟩
theorem Alike.putO {d : Nat} {o : Option V} : Alike q (some d) s s' (s.putO d o) (s'.putO d o) := by
  cases o with
  | none => intro h; simp [St.putO, St.fail] at h
  | some v => exact Alike.put
theorem Alike.fail {d : Option Nat} {r : St} : Alike q d s s' s.fail r := fun h => by simp [St.fail] at h
theorem Alike.skip {r : St} (hr : r = s') : Alike q none s s' s r := by subst hr; exact fun _ h' => ⟨h', .u, rfl, rfl, .inl ⟨rfl, rfl⟩⟩
theorem Alike.putH {d : Nat} {o : Option (V × List O)} : Alike false (some d) s s' (s.putH d o) (s'.putH d o) := by
  cases o with
  | none => intro h; simp [St.putH, St.fail] at h
  | some p => exact fun _ h' => ⟨h', p.1, rfl, rfl, .inr ⟨rfl, rfl⟩⟩
theorem Alike.putHO {d : Option Nat} {o : Option (V × List O)} : Alike false d s s' (s.putHO d o) (s'.putHO d o) := by
  cases o with
  | none => intro h; simp [St.putHO, St.fail] at h
  | some p =>
    cases d with
    | none => exact fun _ h' => ⟨h', .u, rfl, rfl, .inr ⟨rfl, rfl⟩⟩
    | some d => exact fun _ h' => ⟨h', p.1, rfl, rfl, .inr ⟨rfl, rfl⟩⟩
theorem Alike.putQ {d : Option Nat} {o : Option V} : Alike q d s s' (s.putQ d o) (s'.putQ d o) := by
  cases o with
  | none => intro h; simp [St.putQ, St.fail] at h
  | some v =>
    cases d with
    | none => exact fun _ h' => ⟨h', .u, rfl, rfl, .inl ⟨rfl, rfl⟩⟩
    | some d => exact fun _ h' => ⟨h', v, rfl, rfl, .inl ⟨rfl, rfl⟩⟩
theorem Alike.setHeap {o : Option (List O)} : Alike false none s s' (s.setHeap o) (s'.setHeap o) := by
  cases o with
  | none => intro h; simp [St.setHeap, St.fail] at h
  | some h => exact fun _ h' => ⟨h', .u, rfl, rfl, .inr ⟨rfl, rfl⟩⟩
end
theorem map_get {s s' : St} {xs : List A} (h : ∀ x ∈ xs, s.get x = s'.get x) : xs.map s'.get = xs.map s.get := List.map_congr_left fun x hx => (h x hx).symm
theorem intOr_get {s s' : St} {dflt : Int} {x : Option A} (h : ∀ a ∈ x.toList, s.get a = s'.get a) : intOr s' dflt x = intOr s dflt x := by
  cases x with
  | none => rfl
  | some a => simp [intOr, h a (by simp)]
theorem evI_alike {rec : Rec} {i : I} {s s' : St} (h : ∀ x ∈ i.reads, s.get x = s'.get x) (hh : s.heap = s'.heap ∨ i.blind = true) : Alike i.quiet i.wr s s' (evI rec i s) (evI rec i s') := by
  cases i with
  | box d x n fz =>
    have hx := h x (by simp [I.reads])
    simp only [evI, ← hx]
    split
    · cases fz with
      | true => exact Alike.put
      | false => simp [I.blind] at hh; simp only [← hh, I.quiet, Bool.false_eq_true, if_false]; exact Alike.putH
    · exact Alike.fail
  | stf d x n fz =>
    have hx := h x (by simp [I.reads])
    simp [I.blind] at hh
    simp only [evI, ← hx, I.quiet, I.wr]
    split
    · cases fz with
      | true => exact Alike.putO
      | false => simp only [← hh, Bool.false_eq_true, if_false]; exact Alike.putH
    · exact Alike.fail
  | buildSl d es n z ps fz =>
    have hx : (ps.map fun p => (p.1, s'.get p.2)) = ps.map fun p => (p.1, s.get p.2) := List.map_congr_left fun p hp => by rw [h p.2 (by simp only [I.reads]; exact List.mem_map.2 ⟨p, hp, rfl⟩)]
    simp only [evI, hx]
    cases fz with
    | true => exact Alike.putO
    | false => simp [I.blind] at hh; simp only [← hh, I.quiet, Bool.false_eq_true, if_false]; exact Alike.putH
  | build d z ps =>
    have hx : (ps.map fun p => (p.1, p.2.1, s'.get p.2.2)) = ps.map fun p => (p.1, p.2.1, s.get p.2.2) := List.map_congr_left fun p hp => by rw [h p.2.2 (by simp only [I.reads]; exact List.mem_map.2 ⟨p, hp, rfl⟩)]
    simp only [evI, hx]
    exact Alike.putO
  | st x y n fz =>
    have hx := h x (by simp [I.reads])
    have hy := h y (by simp [I.reads])
    simp [I.blind] at hh
    simp only [evI, ← hx, ← hy, ← hh, I.quiet]
    cases fz with
    | false =>
      have : (I.st x y n false).wr = none := by cases x <;> rfl
      rw [this]
      exact Alike.setHeap
    | true =>
      cases x with
      | k z => simp only [if_true]; exact Alike.fail
      | t d =>
        simp only [if_true, I.wr]
        generalize s.get (.t d) = v
        cases v with
        | loc m r c =>
          cases r with
          | succ r => exact Alike.fail
          | zero =>
            cases c with
            | succ c => exact Alike.fail
            | zero =>
              simp only
              split
              · split
                · exact Alike.putH
                · exact Alike.fail
              · exact Alike.fail
        | _ => exact Alike.fail
  | pick d c a b =>
    have hc := h c (by simp [I.reads]); have ha := h a (by simp [I.reads]); have hb := h b (by simp [I.reads])
    simp only [evI, ← hc, ← ha, ← hb]
    split
    · exact Alike.put
    · exact Alike.fail
  | nck d x =>
    have hx := h x (by simp [I.reads])
    simp only [evI, ← hx]
    split <;> first | exact Alike.put | exact Alike.fail
  | mkf d f a b =>
    have ha := map_get (xs := a) (fun x hx => h x (by simp [I.reads, hx]))
    have hb := map_get (xs := b) (fun x hx => h x (by simp [I.reads, hx]))
    simp only [evI, ha, hb]
    split <;> exact Alike.put
  | call d f xs =>
    simp only [evI, map_get (xs := xs) h]
    exact Alike.putQ
  | callv d x xs =>
    have hx := h x (by simp [I.reads])
    simp only [evI, ← hx, map_get (xs := xs) (fun y hy => h y (by simp [I.reads, hy]))]
    exact Alike.putQ
  | inv d nm tbl x xs =>
    have hx := h x (by simp [I.reads])
    simp only [evI, ← hx, map_get (xs := xs) (fun y hy => h y (by simp [I.reads, hy]))]
    exact Alike.putQ
  | mki d t x => have hx := h x (by simp [I.reads]); simp only [evI, ← hx]; exact Alike.putO
  | mx d x y => have hx := h x (by simp [I.reads]); have hy := h y (by simp [I.reads]); simp only [evI, ← hx, ← hy]; exact Alike.putO
  | callk d f xs =>
    simp [I.blind] at hh
    simp only [evI, map_get (xs := xs) h, ← hh]
    exact Alike.putHO
  | callr d f xs =>
    simp [I.blind] at hh
    simp only [evI, map_get (xs := xs) h, ← hh]
    exact Alike.putHO
  | callvr d x xs =>
    have hx := h x (by simp [I.reads])
    simp [I.blind] at hh
    simp only [evI, ← hx, map_get (xs := xs) (fun y hy => h y (by simp [I.reads, hy])), ← hh]
    exact Alike.putHO
  | ldz d x n ag => have hx := h x (by simp [I.reads]); simp [I.blind] at hh; simp only [evI, ← hx, ← hh]; exact Alike.putH
  | apk d x y es =>
    have hx := h x (by simp [I.reads]); have hy := h y (by simp [I.reads])
    simp [I.blind] at hh; simp only [evI, ← hx, ← hy, ← hh]; exact Alike.putH
  | callz d f xs =>
    simp [I.blind] at hh
    simp only [evI, map_get (xs := xs) h, ← hh]
    exact Alike.putH
  | calls d f xs =>
    simp [I.blind] at hh
    simp only [evI, map_get (xs := xs) h, ← hh]
    exact Alike.putQ
  | cally d x xs =>
    have hx := h x (by simp [I.reads])
    simp [I.blind] at hh
    simp only [evI, ← hx, map_get (xs := xs) (fun y hy => h y (by simp [I.reads, hy])), ← hh]
    exact Alike.putHO
  | lit0 d es z => exact Alike.put
  | appf d x y es =>
    have hx := h x (by simp [I.reads]); have hy := h y (by simp [I.reads])
    simp [I.blind] at hh; simp only [evI, ← hx, ← hy, ← hh]; exact Alike.putO
  | sl d x lo hi es =>
    have hx := h x (by simp [I.reads])
    simp [I.blind] at hh
    simp only [evI, ← hx, ← hh, intOr_get (s := s) (s' := s') (x := lo) (fun a ha => h a (by simp only [I.reads]; simp at ha; simp [ha])), intOr_get (s := s) (s' := s') (x := hi) (fun a ha => h a (by simp only [I.reads]; simp at ha; simp [ha]))]
    exact Alike.putO
  | newf d n => exact Alike.skip rfl
  | new d z => simp [I.blind] at hh; simp only [evI, ← hh]; exact Alike.putH
  | mkm d => simp [I.blind] at hh; simp only [evI, ← hh]; exact Alike.putH
  | app d x y es =>
    have hx := h x (by simp [I.reads]); have hy := h y (by simp [I.reads])
    simp [I.blind] at hh; simp only [evI, ← hx, ← hy, ← hh]; exact Alike.putH
  | copy d x y es =>
    have hx := h x (by simp [I.reads]); have hy := h y (by simp [I.reads])
    simp [I.blind] at hh; simp only [evI, ← hx, ← hy, ← hh]; exact Alike.putHO
  | clr d x es z =>
    have hx := h x (by simp [I.reads])
    simp [I.blind] at hh; simp only [evI, ← hx, ← hh]; exact Alike.putHO
  | mput a b c ks =>
    have ha := h a (by simp [I.reads]); have hb := h b (by simp [I.reads]); have hc := h c (by simp [I.reads])
    simp [I.blind] at hh; simp only [evI, ← ha, ← hb, ← hc, ← hh]; exact Alike.setHeap
  | mdel a b ks =>
    have ha := h a (by simp [I.reads]); have hb := h b (by simp [I.reads])
    simp [I.blind] at hh; simp only [evI, ← ha, ← hb, ← hh]; exact Alike.setHeap
  | mget d a b z ok ks =>
    have ha := h a (by simp [I.reads]); have hb := h b (by simp [I.reads])
    simp [I.blind] at hh; simp only [evI, ← ha, ← hb, ← hh]; exact Alike.putO
  | ixs d a b es =>
    have ha := h a (by simp [I.reads]); have hb := h b (by simp [I.reads])
    simp [I.blind] at hh; simp only [evI, ← ha, ← hb, ← hh]; exact Alike.putO
  | ixa d a b es =>
    have ha := h a (by simp [I.reads]); have hb := h b (by simp [I.reads])
    simp [I.blind] at hh; simp only [evI, ← ha, ← hb, ← hh]; exact Alike.putO
  | bin d op a b =>
    have ha := h a (by simp [I.reads]); have hb := h b (by simp [I.reads])
    simp only [evI, ← ha, ← hb]; exact Alike.putO
  | eqv d neg a b ks =>
    have ha := h a (by simp [I.reads]); have hb := h b (by simp [I.reads])
    simp only [evI, ← ha, ← hb]; exact Alike.putO
  | eqb d neg a b =>
    have ha := h a (by simp [I.reads]); have hb := h b (by simp [I.reads])
    simp only [evI, ← ha, ← hb]; exact Alike.putO
  | ld d x n ag => have hx := h x (by simp [I.reads]); simp [I.blind] at hh; simp only [evI, ← hx, ← hh]; exact Alike.putO
  | cl0 d x es => have hx := h x (by simp [I.reads]); simp [I.blind] at hh; simp only [evI, ← hx, ← hh]; exact Alike.putO
  | fa d x n ag => have hx := h x (by simp [I.reads]); simp [I.blind] at hh; simp only [evI, ← hx, ← hh]; exact Alike.putO
  | isnil d neg x k => have hx := h x (by simp [I.reads]); simp [I.blind] at hh; simp only [evI, ← hx, ← hh]; exact Alike.putO
  | len d x k => have hx := h x (by simp [I.reads]); simp [I.blind] at hh; simp only [evI, ← hx, ← hh]; exact Alike.putO
  | fld d x n k ag => have hx := h x (by simp [I.reads]); simp only [evI, ← hx]; exact Alike.putO
  | un d op x => have hx := h x (by simp [I.reads]); simp only [evI, ← hx]; exact Alike.putO
  | cvi d k x => have hx := h x (by simp [I.reads]); simp only [evI, ← hx]; exact Alike.putO
  | ext d x i => have hx := h x (by simp [I.reads]); simp only [evI, ← hx]; exact Alike.putO
  | sl3 d x lo hi mz es =>
    have hx := h x (by simp [I.reads]); have hl := h lo (by simp [I.reads]); have hi := h hi (by simp [I.reads]); have hm := h mz (by simp [I.reads])
    simp [I.blind] at hh; simp only [evI, ← hx, ← hl, ← hi, ← hm, ← hh]; exact Alike.putO
  | mn d x y => have hx := h x (by simp [I.reads]); have hy := h y (by simp [I.reads]); simp only [evI, ← hx, ← hy]; exact Alike.putO
  | cap d x => have hx := h x (by simp [I.reads]); simp [I.blind] at hh; simp only [evI, ← hx, ← hh]; exact Alike.putO
  | appz d x k es z =>
    have hx := h x (by simp [I.reads]); have hk := h k (by simp [I.reads])
    simp [I.blind] at hh; simp only [evI, ← hx, ← hk, ← hh]; exact Alike.putH
  | mks d es z n k =>
    have hx := h n (by simp [I.reads]); have hk := h k (by simp [I.reads])
    simp [I.blind] at hh; simp only [evI, ← hx, ← hk, ← hh]; exact Alike.putH
  | ovl d f x y es =>
    have hx := h x (by simp [I.reads]); have hy := h y (by simp [I.reads])
    simp [I.blind] at hh; simp only [evI, ← hx, ← hy, ← hh]; exact Alike.putO
  | bad d => exact Alike.fail
  | ldd d x n ag => have hx := h x (by simp [I.reads]); simp only [evI, ← hx]; exact Alike.putO
  | fad d x n ag => have hx := h x (by simp [I.reads]); simp only [evI, ← hx]; exact Alike.putO
  | mv d x => have hx := h x (by simp [I.reads]); simp only [evI, ← hx]; exact Alike.put
end Go.VS
namespace Go.VS
structure X where
  i : I
  g : Option (Nat × Bool)
mutual
def J.flat (g : Option (Nat × Bool)) : J → List X
  | .op i => [⟨i, g⟩]
  | .sc isOr d c body x => J.flatL (some (c, !isOr)) body ++ [⟨.pick d (.t c) (if isOr then .k (.b true) else x) (if isOr then x else .k (.b false)), g⟩]
  | .re _ => []
def J.flatL (g : Option (Nat × Bool)) : List J → List X
  | [] => []
  | j :: r => j.flat g ++ J.flatL g r
end
def skipX (i : I) (s : St) : St := ⟨W i.wr .skp ++ s.env, s.heap, s.ok⟩
def evX (rec : Rec) (x : X) (s : St) : St :=
  match x.g with
  | none => evI rec x.i s
  | some (c, want) =>
    match envGet s.env c with
    | .d (.b b) => if b = want then evI rec x.i s else skipX x.i s
    | .skp => skipX x.i s
    | _ => s.fail
def evXs (rec : Rec) : List X → St → St
  | [], s => s
  | x :: r, s => evXs rec r (evX rec x s)
theorem evXs_append {rec : Rec} : ∀ (xs ys : List X) (s : St), evXs rec (xs ++ ys) s = evXs rec ys (evXs rec xs s)
  | [], _, _ => rfl
  | x :: xs, ys, s => by simp only [List.cons_append, evXs]; exact evXs_append xs ys _
theorem evX_ok {rec : Rec} {x : X} {s : St} (h : (evX rec x s).ok = true) : s.ok = true := by
  unfold evX at h
  split at h
  · exact evI_ok h
  · split at h
    · split at h
      · exact evI_ok h
      · exact h
    · exact h
    · simp at h
theorem evXs_ok {rec : Rec} : ∀ {xs : List X} {s : St}, (evXs rec xs s).ok = true → s.ok = true
  | [], _, h => h
  | _ :: _, _, h => evX_ok (evXs_ok (by simpa only [evXs] using h))
theorem envGet_W_ne {d : Option Nat} {v : V} {e : List (Nat × V)} {t : Nat} (h : t ∉ d.toList) : envGet (W d v ++ e) t = envGet e t := by
  cases d with
  | none => rfl
  | some d =>
    have : d ≠ t := fun h1 => h (by simp [h1])
    simp [W, envGet, this]
theorem envGet_W_eq {d : Option Nat} {v : V} {e : List (Nat × V)} {t : Nat} (h : t ∈ d.toList) : envGet (W d v ++ e) t = v := by
  cases d with
  | none => simp at h
  | some d =>
    have : t = d := by simpa using h
    simp [W, envGet, this]
theorem envGet_forget {e : List (Nat × V)} {t : Nat} : ∀ {ds : List Nat}, envGet (forgetEnv ds e) t = if t ∈ ds then .u else envGet e t
  | [] => by simp [forgetEnv]
  | d :: ds => by
    simp only [forgetEnv, envGet, envGet_forget (ds := ds), List.mem_cons]
    by_cases h : d = t
    · simp [h]
    · have h' : ¬ t = d := fun e => h e.symm
      simp [h, h']
theorem evI_writes {rec : Rec} {i : I} {s : St} (h : (evI rec i s).ok = true) : ∃ v, (evI rec i s).env = W i.wr v ++ s.env ∧ (i.quiet = true → (evI rec i s).heap = s.heap) := by
  obtain ⟨_, v, he, _, hh⟩ := evI_alike (rec := rec) (i := i) (s := s) (s' := s) (fun _ _ => rfl) (.inl rfl) h (evI_ok h)
  refine ⟨v, he, fun hq => ?_⟩
  rcases hh with h1 | h1
  · exact h1.1
  · rw [hq] at h1; simp at h1
theorem evX_writes {rec : Rec} {x : X} {s : St} (h : (evX rec x s).ok = true) : ∃ v, (evX rec x s).env = W x.i.wr v ++ s.env ∧ (x.i.quiet = true → (evX rec x s).heap = s.heap) := by
  cases x with
  | mk i g =>
    cases g with
    | none => exact evI_writes h
    | some p =>
      obtain ⟨c, want⟩ := p
      simp only [evX] at h ⊢
      generalize envGet s.env c = v at *
      cases v with
      | d y =>
        cases y with
        | b b =>
          simp only at h ⊢
          split at h
          · rename_i hw; rw [if_pos hw]; exact evI_writes h
          · rename_i hw; rw [if_neg hw]; exact ⟨.skp, rfl, fun _ => rfl⟩
        | _ => simp at h
      | skp => exact ⟨.skp, rfl, fun _ => rfl⟩
      | _ => simp at h
def J.forg : J → List Nat
  | .sc _ _ _ body _ => J.dstsL body
  | _ => []
def J.forgL : List J → List Nat
  | [] => []
  | j :: r => J.forgL r ++ j.forg
def A.slots : A → List Nat
  | .t n => [n]
  | .k _ => []
def noneIn (xs T : List Nat) : Bool := xs.all fun x => !T.contains x
def I.slots (i : I) : List Nat := i.reads.flatMap A.slots
mutual
def J.fok (top : Bool) (T S : List Nat) : J → Bool
  | .op i => noneIn i.slots T && (top || (match i with | .st .. | .stf .. | .newf .. => false | _ => true))
  | .sc _ d c body x => !T.contains c && !(J.dstsL body).contains c && J.fokL false T [] body && noneIn x.slots (J.forgL body ++ T) && (top || S.contains c) && d != c
  | .re i => top && noneIn i.slots T && i.quiet && (match i.wr with | some d => !T.contains d | none => false)
def J.fokL (top : Bool) (T S : List Nat) : List J → Bool
  | [] => true
  | j :: r => J.fok top T S j && J.fokL top (j.forg ++ T) (S ++ j.dsts) r
end
structure Ag (T : List Nat) (s s' : St) : Prop where
  heap : s.heap = s'.heap
  ok : s'.ok = true
  env : ∀ t, t ∉ T → envGet s.env t = envGet s'.env t
  low : ∀ t, envGet s.env t = .u ∨ envGet s.env t = envGet s'.env t
theorem noneIn_spec {xs T : List Nat} (h : noneIn xs T = true) {x : Nat} (hx : x ∈ xs) : x ∉ T := by
  simp only [noneIn, List.all_eq_true] at h
  simpa using h x hx
theorem Ag.get {T : List Nat} {s s' : St} (h : Ag T s s') {x : A} (hx : noneIn x.slots T = true) : s.get x = s'.get x := by
  cases x with
  | k y => rfl
  | t n => exact h.env n (noneIn_spec hx (by simp [A.slots]))
theorem Ag.reads {T : List Nat} {s s' : St} (h : Ag T s s') {i : I} (hi : noneIn i.slots T = true) : ∀ x ∈ i.reads, s.get x = s'.get x := by
  intro x hx
  refine h.get ?_
  simp only [noneIn, List.all_eq_true] at hi ⊢
  intro n hn
  exact hi n (by simp only [I.slots]; exact List.mem_flatMap.2 ⟨x, hx, hn⟩)
theorem Ag.op {T : List Nat} {s s' : St} (h : Ag T s s') {rec : Rec} {i : I} (hi : noneIn i.slots T = true) (hok : (evI rec i s).ok = true) : Ag T (evI rec i s) (evI rec i s') := by
  obtain ⟨h1, v, h2, h3, h4⟩ := evI_alike (rec := rec) (h.reads hi) (.inl h.heap) hok h.ok
  refine ⟨?_, h1, fun t ht => ?_, fun t => ?_⟩
  · rcases h4 with h4 | h4
    · rw [h4.1, h4.2]; exact h.heap
    · exact h4.2
  · rw [h2, h3]
    by_cases hw : t ∈ i.wr.toList
    · rw [envGet_W_eq hw, envGet_W_eq hw]
    · rw [envGet_W_ne hw, envGet_W_ne hw]; exact h.env t ht
  · rw [h2, h3]
    by_cases hw : t ∈ i.wr.toList
    · rw [envGet_W_eq hw, envGet_W_eq hw]; exact .inr rfl
    · rw [envGet_W_ne hw, envGet_W_ne hw]; exact h.low t
def Active (g : Option (Nat × Bool)) (s : St) : Prop :=
  match g with
  | none => True
  | some (c, want) => envGet s.env c = .d (.b want)
def Off (g : Option (Nat × Bool)) (s : St) : Prop :=
  match g with
  | none => False
  | some (c, want) => envGet s.env c = .d (.b (!want)) ∨ envGet s.env c = .skp
theorem evX_active {rec : Rec} {i : I} {g : Option (Nat × Bool)} {s : St} (h : Active g s) : evX rec ⟨i, g⟩ s = evI rec i s := by
  unfold evX
  cases g with
  | none => rfl
  | some p =>
    obtain ⟨c, want⟩ := p
    simp only [Active] at h
    simp [h]
theorem evX_off {rec : Rec} {i : I} {g : Option (Nat × Bool)} {s : St} (h : Off g s) : evX rec ⟨i, g⟩ s = skipX i s := by
  unfold evX
  cases g with
  | none => exact h.elim
  | some p =>
    obtain ⟨c, want⟩ := p
    simp only [Off] at h
    rcases h with h | h <;> simp [h]
def gFree (g : Option (Nat × Bool)) (ds : List Nat) : Prop := ∀ c want, g = some (c, want) → c ∉ ds
mutual
theorem flat_writes {rec : Rec} : ∀ {j : J} {g : Option (Nat × Bool)} {s : St}, (evXs rec (j.flat g) s).ok = true → ∀ t, t ∉ j.dsts → envGet (evXs rec (j.flat g) s).env t = envGet s.env t
  | .op i, g, s, h, t, ht => by
    simp only [J.flat, evXs, J.dsts] at *
    obtain ⟨v, he, _⟩ := evX_writes h
    rw [he, envGet_W_ne ht]
  | .re i, g, s, h, t, ht => by simp [J.flat, evXs]
  | .sc isOr d c body x, g, s, h, t, ht => by
    simp only [J.flat, evXs_append, J.dsts, List.mem_cons, not_or] at *
    have h1 := evXs_ok h
    simp only [evXs] at h ⊢
    obtain ⟨v, he, _⟩ := evX_writes h
    rw [he, envGet_W_ne (by simp [I.wr, I.dst]; exact ht.1)]
    exact flatL_writes h1 t ht.2
theorem flatL_writes {rec : Rec} : ∀ {js : List J} {g : Option (Nat × Bool)} {s : St}, (evXs rec (J.flatL g js) s).ok = true → ∀ t, t ∉ J.dstsL js → envGet (evXs rec (J.flatL g js) s).env t = envGet s.env t
  | [], g, s, h, t, ht => by simp [J.flatL, evXs]
  | j :: r, g, s, h, t, ht => by
    simp only [J.flatL, evXs_append, J.dstsL, List.mem_append, not_or] at *
    rw [flatL_writes h t ht.2, flat_writes (evXs_ok h) t ht.1]
end
theorem Active.mono {g : Option (Nat × Bool)} {s s' : St} (h : Active g s) (he : ∀ c want, g = some (c, want) → envGet s'.env c = envGet s.env c) : Active g s' := by
  cases g with
  | none => trivial
  | some p => simp only [Active] at *; rw [he p.1 p.2 rfl]; exact h
theorem Off.mono {g : Option (Nat × Bool)} {s s' : St} (h : Off g s) (he : ∀ c want, g = some (c, want) → envGet s'.env c = envGet s.env c) : Off g s' := by
  cases g with
  | none => exact h
  | some p => simp only [Off] at *; rw [he p.1 p.2 rfl]; exact h
theorem skipX_env {i : I} {s : St} (t : Nat) : envGet (skipX i s).env t = if t ∈ i.wr.toList then .skp else envGet s.env t := by
  simp only [skipX]
  split
  · rename_i h; exact envGet_W_eq h
  · rename_i h; exact envGet_W_ne h
structure Passed (ds : List Nat) (s s' : St) : Prop where
  heap : s'.heap = s.heap
  ok : s'.ok = true
  env : ∀ t, envGet s'.env t = if t ∈ ds then .skp else envGet s.env t
mutual
theorem flat_off {rec : Rec} : ∀ {j : J} {T S : List Nat} {g : Option (Nat × Bool)} {s : St}, J.fok false T S j = true → (∀ t ∈ S, envGet s.env t = .skp) → s.ok = true → gFree g j.dsts → Off g s →
    Passed j.dsts s (evXs rec (j.flat g) s)
  | .op i, T, S, g, s, hf, hS, hok, hg, ho => by
    simp only [J.flat, evXs, J.dsts]
    rw [evX_off ho]
    exact ⟨rfl, hok, fun t => skipX_env t⟩
  | .re i, T, S, g, s, hf, hS, hok, hg, ho => by simp [J.fok] at hf
  | .sc isOr d c body x, T, S, g, s, hf, hS, hok, hg, ho => by
    simp only [J.fok, Bool.and_eq_true, Bool.false_or, Bool.not_eq_true', List.contains_eq_mem, decide_eq_true_eq, decide_eq_false_iff_not, bne_iff_ne] at hf
    obtain ⟨⟨⟨⟨⟨h1, h2⟩, h3⟩, h4⟩, h5⟩, h6⟩ := hf
    have hb := flatL_off (rec := rec) (g := some (c, !isOr)) (s := s) h3 (by simp) hok (fun c' w he => by simp at he; rw [← he.1]; exact h2) (by simp only [Off]; exact .inr (hS c h5))
    simp only [J.flat, evXs_append, J.dsts]
    have ho' : Off g (evXs rec (J.flatL (some (c, !isOr)) body) s) := ho.mono fun c' w he => by
      have := hg c' w he
      simp only [J.dsts, List.mem_cons, not_or] at this
      rw [hb.env, if_neg this.2]
    simp only [evXs]
    rw [evX_off ho']
    refine ⟨hb.heap, hb.ok, fun t => ?_⟩
    rw [skipX_env, hb.env]
    simp only [I.wr, I.dst, Option.mem_toList, Option.some.injEq, List.mem_cons]
    by_cases htd : d = t
    · simp [htd]
    · have : ¬ t = d := fun e => htd e.symm
      simp [htd, this]
theorem flatL_off {rec : Rec} : ∀ {js : List J} {T S : List Nat} {g : Option (Nat × Bool)} {s : St}, J.fokL false T S js = true → (∀ t ∈ S, envGet s.env t = .skp) → s.ok = true → gFree g (J.dstsL js) → Off g s →
    Passed (J.dstsL js) s (evXs rec (J.flatL g js) s)
  | [], T, S, g, s, hf, hS, hok, hg, ho => by simp only [J.flatL, evXs, J.dstsL]; exact ⟨rfl, hok, fun t => by simp⟩
  | j :: r, T, S, g, s, hf, hS, hok, hg, ho => by
    simp only [J.fokL, Bool.and_eq_true] at hf
    have hj := flat_off (rec := rec) hf.1 hS hok (fun c w he => by have := hg c w he; simp only [J.dstsL, List.mem_append, not_or] at this; exact this.1) ho
    have hr := flatL_off (rec := rec) (g := g) (s := evXs rec (j.flat g) s) hf.2 (fun t ht => by
        rw [hj.env]
        rcases List.mem_append.1 ht with h1 | h1
        · rw [hS t h1]; simp
        · rw [if_pos h1]) hj.ok (fun c w he => by have := hg c w he; simp only [J.dstsL, List.mem_append, not_or] at this; exact this.2)
      (ho.mono fun c w he => by have := hg c w he; simp only [J.dstsL, List.mem_append, not_or] at this; rw [hj.env, if_neg this.1])
    simp only [J.flatL, evXs_append, J.dstsL]
    refine ⟨hr.heap.trans hj.heap, hr.ok, fun t => ?_⟩
    rw [hr.env, hj.env]
    by_cases h1 : t ∈ J.dstsL r <;> by_cases h2 : t ∈ j.dsts <;> simp [h1, h2]
end
mutual
theorem flat_ag {rec : Rec} : ∀ {j : J} {top : Bool} {T S : List Nat} {g : Option (Nat × Bool)} {s s' : St}, J.fok top T S j = true → Ag T s s' → gFree g j.dsts → Active g s' → (evJ rec j s).ok = true →
    Ag (j.forg ++ T) (evJ rec j s) (evXs rec (j.flat g) s')
  | .op i, top, T, S, g, s, s', hf, ha, hg, hact, hok => by
    simp only [J.fok, Bool.and_eq_true] at hf
    simp only [J.flat, evXs, evJ, J.forg, List.nil_append] at *
    rw [evX_active hact]
    exact ha.op hf.1 hok
  | .re i, top, T, S, g, s, s', hf, ha, hg, hact, hok => by
    simp only [J.flat, evXs, evJ, J.forg, List.nil_append] at *
    unfold again at *
    split at hok
    · split at hok
      · rename_i h; rw [if_pos h]; exact ha
      · simp at hok
    · simp at hok
  | .sc isOr d c body x, top, T, S, g, s, s', hf, ha, hg, hact, hok => by
    simp only [J.fok, Bool.and_eq_true, Bool.not_eq_true', List.contains_eq_mem, decide_eq_true_eq, decide_eq_false_iff_not, bne_iff_ne] at hf
    obtain ⟨⟨⟨⟨⟨h1, h2⟩, h3⟩, h4⟩, h5⟩, h6⟩ := hf
    have hc : s.get (.t c) = envGet s'.env c := ha.env c h1
    have hgb : gFree (some (c, !isOr)) (J.dstsL body) := fun c' w he => by simp at he; rw [← he.1]; exact h2
    simp only [J.flat, evXs_append, evJ, J.forg] at *
    split at hok
    · rename_i gv hgv
      rw [hc] at hgv
      split at hok
      ·
        rename_i heq
        subst heq
        rw [if_pos rfl]
        have hb := flatL_off (rec := rec) (g := some (c, !gv)) (s := s') h3 (by simp) ha.ok hgb (by simp only [Off]; exact .inl (by simpa using hgv))
        have hact' : Active g (evXs rec (J.flatL (some (c, !gv)) body) s') := hact.mono fun c' w he => by
          have := hg c' w he
          simp only [J.dsts, List.mem_cons, not_or] at this
          rw [hb.env, if_neg this.2]
        have hcv : St.get (evXs rec (J.flatL (some (c, !gv)) body) s') (.t c) = .d (.b gv) := by
          show envGet _ c = _
          rw [hb.env, if_neg h2, hgv]
        simp only [evXs]
        rw [evX_active hact']
        have hp : evI rec (.pick d (.t c) (if gv then .k (.b true) else x) (if gv then x else .k (.b false))) (evXs rec (J.flatL (some (c, !gv)) body) s') =
            (evXs rec (J.flatL (some (c, !gv)) body) s').put d (.d (.b gv)) := by
          simp only [evI, hcv]
          cases gv <;> simp [St.get]
        rw [hp]
        refine ⟨by rw [St.put]; exact ha.heap.trans hb.heap.symm, hb.ok, fun t ht => ?_, fun t => ?_⟩
        · simp only [List.mem_append, not_or] at ht
          simp only [St.put, envGet]
          by_cases htd : d = t
          · simp [htd]
          · rw [if_neg htd, if_neg htd, envGet_forget, if_neg ht.1, hb.env, if_neg ht.1]
            exact ha.env t ht.2
        · simp only [St.put, envGet]
          by_cases htd : d = t
          · simp [htd]
          · rw [if_neg htd, if_neg htd, envGet_forget, hb.env]
            by_cases hm : t ∈ J.dstsL body
            · rw [if_pos hm]; exact .inl rfl
            · rw [if_neg hm, if_neg hm]; exact ha.low t
      ·
        rename_i hne
        rw [if_neg hne]
        have hne' : gv = !isOr := by cases gv <;> cases isOr <;> simp_all
        subst hne'
        split at hok
        · rename_i y hy
          have hb := flatL_ag (rec := rec) (g := some (c, !isOr)) (s := s) (s' := s') h3 ha hgb (by simp only [Active]; exact hgv) hok
          have hw := flatL_writes (rec := rec) hb.ok
          have hact' : Active g (evXs rec (J.flatL (some (c, !isOr)) body) s') := hact.mono fun c' w he => by
            have := hg c' w he
            simp only [J.dsts, List.mem_cons, not_or] at this
            rw [hw c' this.2]
          have hcv : St.get (evXs rec (J.flatL (some (c, !isOr)) body) s') (.t c) = .d (.b (!isOr)) := by
            show envGet _ c = _
            rw [hw c h2, hgv]
          have hxv : St.get (evXs rec (J.flatL (some (c, !isOr)) body) s') x = .d (.b y) := by rw [← hb.get h4]; exact hy
          simp only [evXs]
          rw [evX_active hact']
          have hp : evI rec (.pick d (.t c) (if isOr then .k (.b true) else x) (if isOr then x else .k (.b false))) (evXs rec (J.flatL (some (c, !isOr)) body) s') =
              (evXs rec (J.flatL (some (c, !isOr)) body) s').put d (.d (.b y)) := by
            have key : ∀ z : St, z.get (.t c) = .d (.b (!isOr)) → z.get x = .d (.b y) → evI rec (.pick d (.t c) (if isOr then .k (.b true) else x) (if isOr then x else .k (.b false))) z = z.put d (.d (.b y)) := by
              intro z h1 h2
              simp only [evI, h1]
              cases isOr <;> simp [h2]
            exact key _ hcv hxv
          rw [hp]
          refine ⟨hb.heap, hb.ok, fun t ht => ?_, fun t => ?_⟩
          · simp only [List.mem_append, not_or] at ht
            simp only [St.put, envGet]
            by_cases htd : d = t
            · simp [htd]
            · rw [if_neg htd, if_neg htd, envGet_forget, if_neg ht.1, hw t ht.1]
              exact ha.env t ht.2
          · simp only [St.put, envGet]
            by_cases htd : d = t
            · simp [htd]
            · rw [if_neg htd, if_neg htd, envGet_forget]
              by_cases hm : t ∈ J.dstsL body
              · rw [if_pos hm]; exact .inl rfl
              · rw [if_neg hm, hw t hm]; exact ha.low t
        · simp at hok
    · simp at hok
theorem flatL_ag {rec : Rec} : ∀ {js : List J} {top : Bool} {T S : List Nat} {g : Option (Nat × Bool)} {s s' : St}, J.fokL top T S js = true → Ag T s s' → gFree g (J.dstsL js) → Active g s' → (evJs rec js s).ok = true →
    Ag (J.forgL js ++ T) (evJs rec js s) (evXs rec (J.flatL g js) s')
  | [], top, T, S, g, s, s', hf, ha, hg, hact, hok => by simpa only [J.flatL, evXs, evJs, J.forgL, List.nil_append] using ha
  | j :: r, top, T, S, g, s, s', hf, ha, hg, hact, hok => by
    simp only [J.fokL, Bool.and_eq_true] at hf
    simp only [evJs] at hok
    have hj := flat_ag (rec := rec) hf.1 ha (fun c w he => by have := hg c w he; simp only [J.dstsL, List.mem_append, not_or] at this; exact this.1) hact (evJs_ok hok)
    have hr := flatL_ag (rec := rec) (g := g) hf.2 hj (fun c w he => by have := hg c w he; simp only [J.dstsL, List.mem_append, not_or] at this; exact this.2)
      (hact.mono fun c w he => by have := hg c w he; simp only [J.dstsL, List.mem_append, not_or] at this; exact flat_writes hj.ok c this.1) hok
    simp only [J.flatL, evXs_append, evJs, J.forgL, List.append_assoc]
    exact hr
end
end Go.VS
namespace Go.VS
section
variable {P : Program} {φ : Phi}
variable {nt m dB : Nat} {s : St} {g : Gh} {a : Act} {w : World} {K : Act → World → Prop} {Q : Exit → Act → World → Prop} {o : Oper} {ops : Array Oper} {r : Option Nat} {n : Nat}
theorem chkI_dst {i : I} (h : chkI P φ nt o i = true) : o.dst = i.dst ∧ ∀ d, i.dst = some d → d < nt := by
  have key : ∀ {d : Nat} {b : Bool}, (dstIs nt o d && b) = true → o.dst = some d ∧ ∀ k, some d = some k → k < nt := by
    intro d b h
    simp only [Bool.and_eq_true] at h
    obtain ⟨h1, h2⟩ := dstIs_spec h.1
    exact ⟨h1, fun k hk => by simp at hk; omega⟩
  have key2 : ∀ {d : Option Nat} {b : Bool}, (dstMay nt o d && b) = true → o.dst = d ∧ ∀ k, d = some k → k < nt := by
    intro d b h
    simp only [Bool.and_eq_true] at h
    exact dstMay_spec h.1
  cases i with
  | st x y n fz =>
    simp only [chkI] at h
    split at h
    · simp only [Bool.and_eq_true, beq_iff_eq] at h
      exact ⟨h.1.1.1.1.1, fun d hd => by simp [I.dst] at hd⟩
    · simp at h
  | call d f xs => exact key2 h
  | callv d x xs => exact key2 h
  | callk d f xs => exact key2 h
  | callr d f xs => exact key2 h
  | callvr d x xs => exact key2 h
  | inv d nm tbl x xs => exact key2 h
  | cally d x xs => exact key2 h
  | calls d f xs => exact key2 h
  | clr d x es z => exact key2 h
  | bad d => simp only [chkI] at h; exact dstMay_spec h
  | copy d x y es => exact key2 h
  | mput m k v ks =>
    simp only [chkI, Bool.and_eq_true, beq_iff_eq] at h
    exact ⟨h.1, fun d hd => by simp [I.dst] at hd⟩
  | mdel m k ks =>
    simp only [chkI, Bool.and_eq_true, beq_iff_eq] at h
    exact ⟨h.1, fun d hd => by simp [I.dst] at hd⟩
  | _ => first | exact key h | simp [chkI] at h
def gOk (ops : Array Oper) (o : Oper) (x : X) : Bool :=
  match x.g, o.guard with
  | none, none => true
  | some (c, want), some (j, w') => want == w' && ((ops[j]?).bind (·.dst)) == some c && (match x.i with | .st .. | .stf .. | .newf .. => false | _ => true)
  | _, _ => false
theorem skipX_rel (hs : SRel φ nt m dB s g a w) {i : I} (hwr : i.wr = i.dst) (hd : o.dst = i.dst) (hlt : ∀ d, i.dst = some d → d < nt) : SRel φ nt m dB (skipX i s) g (a.put o.dst undef) w := by
  rw [hd]
  unfold skipX
  rw [hwr]
  cases h : i.dst with
  | none => exact hs
  | some d => exact hs.putV (hlt d h) (by simp [relV])
theorem sim_guard (hs : SRel φ nt m dB s g a w) {x : X} {rec : Rec} (hg : gOk ops o x = true) (hd : o.dst = x.i.dst) (hlt : ∀ d, x.i.dst = some d → d < nt) (hok : (evX rec x s).ok = true)
    {X : Prop} (hop : (evX rec x s) = evI rec x.i s → (evI rec x.i s).ok = true → X)
    (hskip : evX rec x s = skipX x.i s → SRel φ nt m dB (skipX x.i s) g (a.put o.dst undef) w → K (a.put o.dst undef) w) :
    if Region.wanted o (yielded ops a.tmps) then X else K (a.put o.dst undef) w := by
  unfold gOk at hg
  unfold evX at hok hop hskip
  split at hg
  · rename_i h1 h2
    simp only [h1] at hok hop
    rw [if_pos (by simp [Region.wanted, h2])]
    exact hop trivial hok
  · rename_i c want j w' h1 h2
    simp only [Bool.and_eq_true, beq_iff_eq] at hg
    obtain ⟨⟨rfl, hj⟩, hk⟩ := hg
    have hwr : x.i.wr = x.i.dst := by
      cases hi : x.i <;> simp_all [I.wr]
    simp only [h1] at hok hop hskip
    have hc := hs.env c
    have hwant : Region.wanted o (yielded ops a.tmps) = (yielded ops a.tmps j == some want) := by simp [Region.wanted, h2]
    have hyield : yielded ops a.tmps j = match a.tmps[c]? with | some (.bool b) => some b | _ => none := by simp only [yielded, hj, Option.bind_some]; rfl
    rw [hwant, hyield]
    cases hv : envGet s.env c with
    | d y =>
      cases y with
      | b b =>
        rw [hv] at hc
        have hb := relD_bool (by simpa only [relV] using hc)
        have hsome : a.tmps[c]? = some (.bool b) := by
          cases hq : a.tmps[c]? with
          | none => simp [Array.getD_eq_getD_getElem?, hq, undef] at hb
          | some v => simp [Array.getD_eq_getD_getElem?, hq] at hb; rw [hb]
        simp only [hsome]
        simp only [hv] at hok hop hskip
        by_cases hbw : b = want
        · subst hbw
          simp only [if_true] at hok hop
          simp only [beq_self_eq_true, if_true]
          exact hop trivial hok
        · have : (some b == some want) = false := by simpa using hbw
          simp only [this, Bool.false_eq_true, if_false]
          simp only [hbw, if_false] at hskip
          exact hskip trivial (skipX_rel hs hwr hd hlt)
      | _ => simp [hv] at hok
    | skp =>
      rw [hv] at hc
      have hb : a.tmps.getD c undef = undef := by simpa only [relV] using hc
      have hnone : (match a.tmps[c]? with | some (.bool b) => some b | _ => none) = (none : Option Bool) := by
        cases hq : a.tmps[c]? with
        | none => rfl
        | some v =>
          simp [Array.getD_eq_getD_getElem?, hq] at hb
          rw [hb]; rfl
      simp only [hnone]
      simp only [hv] at hskip
      exact hskip trivial (skipX_rel hs hwr hd hlt)
    | _ => simp [hv] at hok
  · simp at hg
def chkXs (P : Program) (φ : Nat → Nat) (nt : Nat) (ops : Array Oper) : List Oper → List X → Bool
  | [], [] => true
  | o :: os, x :: xs => chkI P φ nt o x.i && gOk ops o x && chkXs P φ nt ops os xs
  | _, _ => false
theorem wpList_cons {o : Oper} {rest : List Oper} (h : if Region.wanted o (yielded ops a.tmps) then o.wpIn (Wd r) n P a w (wpListIn (Wd r) n P ops Q rest) Q else wpListIn (Wd r) n P ops Q rest (a.put o.dst undef) w) : wpListIn (Wd r) n P ops Q (o :: rest) a w := by
  unfold wpListIn
  split
  · rename_i hw; rw [if_pos hw] at h; exact h
  · rename_i hw; rw [if_neg hw] at h; exact ⟨fun _ _ => trivial, h⟩
theorem sim_list {rec : Rec} (hq : QuietCall P φ rec) (hy : RoundOk P φ rec) : ∀ {l : List Oper} {xs : List X} {s : St} {g : Gh} {a : Act} {w : World}, chkXs P φ nt ops l xs = true → SRel φ nt m dB s g a w → (evXs rec xs s).ok = true →
    (∀ g' a' w', SRel φ nt m dB (evXs rec xs s) g' a' w' → Frame m s.heap g w (evXs rec xs s).heap g' w' → Q .normal a' w') → wpListIn (Wd r) n P ops Q l a w
  | [], [], s, g, a, w, _, hs, _, hQ => wpListIn_nil (hQ g a w hs (Frame.refl _ _ _ _))
  | o :: l, x :: xs, s, g, a, w, hc, hs, hok, hQ => by
    simp only [chkXs, Bool.and_eq_true] at hc
    obtain ⟨⟨h1, h2⟩, h3⟩ := hc
    simp only [evXs] at hok hQ
    have hd := chkI_dst h1
    have next : ∀ g' a' w', SRel φ nt m dB (evX rec x s) g' a' w' → Frame m s.heap g w (evX rec x s).heap g' w' → wpListIn (Wd r) n P ops Q l a' w' := fun g' a' w' hs' hf =>
      sim_list hq hy h3 hs' hok fun g2 a2 w2 hs2 hf2 => hQ g2 a2 w2 hs2 (hf.trans hf2)
    refine wpList_cons (sim_guard hs h2 hd.1 hd.2 (evXs_ok hok) (fun he hok' => sim_In hq hy hs h1 hok' fun g' v' w' hs' hf => ?_) (fun he hs' => ?_))
    · exact next g' _ w' (by rw [he]; exact hs') (by rw [he]; exact hf)
    · exact next g _ w (by rw [he]; exact hs') (by rw [he]; exact Frame.refl _ _ _ _)
  | [], _ :: _, _, _, _, _, hc, _, _, _ => by simp [chkXs] at hc
  | _ :: _, [], _, _, _, _, hc, _, _, _ => by simp [chkXs] at hc
theorem SRel.low {s' : St} (hs : SRel φ nt m dB s' g a w) {T : List Nat} (h : Ag T s s') : SRel φ nt m dB s g a w where
  env k := by
    rcases h.low k with h1 | h1
    · rw [h1]; simp [relV]
    · rw [h1, h.heap]; exact hs.env k
  heap := by rw [h.heap]; exact hs.heap
  size := hs.size
  defers := by rw [h.heap]; exact hs.defers
  len := by rw [h.heap]; exact hs.len
theorem Ag.refl (h : s.ok = true) : Ag [] s s := ⟨rfl, h, fun _ _ => rfl, fun _ => .inr rfl⟩
def Post (φ : Phi) (nt m dB : Nat) (s : St) (g : Gh) (w : World) (s' : St) (R : Act → World → Prop) : Prop :=
  ∀ g' a' w', SRel φ nt m dB s' g' a' w' → Frame m s.heap g w s'.heap g' w' → R a' w'
theorem sim_reg {rec : Rec} (hq : QuietCall P φ rec) (hy : RoundOk P φ rec) {js : List J} (hs : SRel φ nt m dB s g a w) (hf : J.fokL true [] [] js = true) (hc : chkXs P φ nt ops ops.toList (J.flatL none js) = true)
    (hok : (evJs rec js s).ok = true) {id : Nat} (hQ : Post φ nt m dB s g w (evJs rec js s) (Q .normal)) : (Code.region id ops false).wpIn (Wd r) n P Q a w := by
  have hag := flatL_ag (rec := rec) (g := none) hf (Ag.refl (evJs_ok hok)) (fun _ _ h => by simp at h) trivial hok
  exact wpIn_region_list (sim_list hq hy hc hs hag.ok fun g' a' w' hs' hfr => hQ g' a' w' (hs'.low hag) (by rw [hag.heap]; exact hfr))
end
end Go.VS
namespace Go.VS
def maskOf (acc dp : List Nat) : Nat := dp.foldl (fun m r => m ||| (2 ^ r ||| acc.getD r 0)) 0
def masksGo : List Nat → List (List Nat) → List Nat
  | acc, [] => acc
  | acc, dp :: r => masksGo (acc ++ [if dp.all (· < acc.length) then maskOf acc dp else 0]) r
def masks (ds : List (List Nat)) : List Nat := masksGo [] ds
theorem foldl_mask {acc : List Nat} {q : Nat} : ∀ {dp : List Nat} {m : Nat}, (dp.foldl (fun m r => m ||| (2 ^ r ||| acc.getD r 0)) m).testBit q = true → m.testBit q = true ∨ ∃ r ∈ dp, q = r ∨ (acc.getD r 0).testBit q = true
  | [], m, h => .inl h
  | r :: dp, m, h => by
    rcases foldl_mask (dp := dp) h with h | ⟨r', h1, h2⟩
    · rw [Nat.testBit_or, Nat.testBit_or, Nat.testBit_two_pow] at h
      simp only [Bool.or_eq_true, decide_eq_true_eq] at h
      rcases h with h | h | h
      · exact .inl h
      · exact .inr ⟨r, by simp, .inl h.symm⟩
      · exact .inr ⟨r, by simp, .inr h⟩
    · exact .inr ⟨r', by simp [h1], h2⟩
def MaskOk (D : List (List Nat)) (acc : List Nat) : Prop :=
  ∀ p q, p < acc.length → (acc.getD p 0).testBit q = true → ∃ r ∈ D.getD p [], r < p ∧ (q = r ∨ (acc.getD r 0).testBit q = true)
theorem getD_append_lt {α : Type} {l : List α} {x d : α} {p : Nat} (h : p < l.length) : (l ++ [x]).getD p d = l.getD p d := by
  simp [List.getD, List.getElem?_append_left h]
theorem getD_append_eq {α : Type} {l : List α} {x d : α} : (l ++ [x]).getD l.length d = x := by
  simp [List.getD]
theorem masksGo_ok {D : List (List Nat)} : ∀ {ds : List (List Nat)} {acc : List Nat}, (∀ k, ds[k]? = D[acc.length + k]?) → MaskOk D acc → MaskOk D (masksGo acc ds) ∧ (masksGo acc ds).length = acc.length + ds.length
  | [], acc, _, h => ⟨h, by simp [masksGo]⟩
  | dp :: ds, acc, hd, h => by
    have h0 : D.getD acc.length [] = dp := by have := hd 0; simp at this; simp [List.getD, ← this]
    have key : MaskOk D (acc ++ [if dp.all (· < acc.length) then maskOf acc dp else 0]) := by
      intro p q hp hq
      by_cases hlt : p < acc.length
      · rw [getD_append_lt hlt] at hq
        obtain ⟨r, h1, h2, h3⟩ := h p q hlt hq
        exact ⟨r, h1, h2, by rw [getD_append_lt (by omega)]; exact h3⟩
      · have hp' : p = acc.length := by simp at hp; omega
        subst hp'
        rw [getD_append_eq] at hq
        split at hq
        · rename_i hall
          rcases foldl_mask hq with h1 | ⟨r, h1, h2⟩
          · simp at h1
          · have hr : r < acc.length := by simpa using List.all_eq_true.1 hall r h1
            exact ⟨r, by rw [h0]; exact h1, hr, by rw [getD_append_lt hr]; exact h2⟩
        · simp at hq
    have := masksGo_ok (ds := ds) (fun k => by have := hd (k + 1); simp at this ⊢; rw [this]; congr 1; omega) key
    refine ⟨this.1, ?_⟩
    rw [masksGo, this.2]
    simp
    omega
def bef (ms : List Nat) (p q : Nat) : Bool := (ms.getD q 0).testBit p
theorem masks_ok (D : List (List Nat)) : MaskOk D (masks D) := (masksGo_ok (D := D) (ds := D) (acc := []) (by simp) (fun p q hp => by simp at hp)).1
theorem bef_step {D : List (List Nat)} {p q : Nat} (h : bef (masks D) q p = true) : ∃ r ∈ D.getD p [], r < p ∧ (q = r ∨ bef (masks D) q r = true) := by
  by_cases hp : p < (masks D).length
  · exact masks_ok D p q hp h
  · have : (masks D).getD p 0 = 0 := by simp [List.getD, List.getElem?_eq_none (Nat.le_of_not_lt hp)]
    unfold bef at h
    rw [this] at h
    simp at h
theorem bef_lt {D : List (List Nat)} : ∀ {p q : Nat}, bef (masks D) q p = true → q < p := by
  intro p
  induction p using Nat.strongRecOn with
  | _ p ih =>
    intro q h
    obtain ⟨r, _, h2, h3⟩ := bef_step h
    rcases h3 with h3 | h3
    · omega
    · have := ih r h2 h3; omega
theorem bef_mem {D : List (List Nat)} {E : List Nat} (hE : ∀ p ∈ E, ∀ r ∈ D.getD p [], r ∈ E) : ∀ {p q : Nat}, (∀ r ∈ D.getD p [], r ∈ E) → bef (masks D) q p = true → q ∈ E := by
  intro p
  induction p using Nat.strongRecOn with
  | _ p ih =>
    intro q hp h
    obtain ⟨r, h1, h2, h3⟩ := bef_step h
    have hr := hp r h1
    rcases h3 with h3 | h3
    · rw [h3]; exact hr
    · exact ih r h2 (hE r hr) h3
section
variable (wr : Nat → Option Nat) (val : Nat → V) (e0 : List (Nat × V))
def envL (E : List Nat) : List (Nat × V) := E.flatMap (fun p => W (wr p) (val p)) ++ e0
variable {wr val e0}
theorem envL_none {t : Nat} : ∀ {E : List Nat}, (∀ p ∈ E, wr p ≠ some t) → envGet (envL wr val e0 E) t = envGet e0 t
  | [], _ => rfl
  | p :: E, h => by
    have hp : t ∉ (wr p).toList := by
      intro hm
      cases hw : wr p with
      | none => rw [hw] at hm; simp at hm
      | some d => rw [hw] at hm; simp at hm; exact h p (by simp) (by rw [hw, hm])
    have := envL_none (E := E) (fun q hq => h q (by simp [hq]))
    simp only [envL, List.flatMap_cons, List.append_assoc] at this ⊢
    rw [envGet_W_ne hp]
    exact this
theorem envL_some {t p : Nat} (hp : wr p = some t) : ∀ {E : List Nat}, p ∈ E → (∀ q ∈ E, wr q = some t → q = p) → envGet (envL wr val e0 E) t = val p
  | [], h, _ => by simp at h
  | q :: E, h, hu => by
    simp only [envL, List.flatMap_cons, List.append_assoc]
    by_cases hq : wr q = some t
    · have : q = p := hu q (by simp) hq
      subst this
      exact envGet_W_eq (by rw [hq]; simp)
    · have hq' : t ∉ (wr q).toList := by
        intro hm
        cases hw : wr q with
        | none => rw [hw] at hm; simp at hm
        | some d => rw [hw] at hm; simp at hm; exact hq (by rw [hw, hm])
      rw [envGet_W_ne hq']
      have hpE : p ∈ E := by
        rcases List.mem_cons.1 h with h1 | h1
        · subst h1; exact absurd hp hq
        · exact h1
      exact envL_some hp hpE (fun q hq => hu q (by simp [hq]))
theorem envL_agree {n t : Nat} {E E' : List Nat} (hu : ∀ p q, p < n → q < n → wr p = some t → wr q = some t → p = q) (hE : ∀ p ∈ E, p < n) (hE' : ∀ p ∈ E', p < n)
    (h : ∀ p, p < n → wr p = some t → (p ∈ E ↔ p ∈ E')) : envGet (envL wr val e0 E) t = envGet (envL wr val e0 E') t := by
  by_cases hex : ∃ p, p ∈ E ∧ wr p = some t
  · obtain ⟨p, hp, hw⟩ := hex
    have hp' := (h p (hE p hp) hw).1 hp
    rw [envL_some hw hp (fun q hq hwq => hu q p (hE q hq) (hE p hp) hwq hw), envL_some hw hp' (fun q hq hwq => hu q p (hE' q hq) (hE p hp) hwq hw)]
  · rw [envL_none (fun p hp hw => hex ⟨p, hp, hw⟩), envL_none (fun p hp hw => hex ⟨p, (h p (hE' p hp) hw).2 hp, hw⟩)]
end
def topE (ef : Nat → Bool) : List Nat → Nat
  | [] => 0
  | p :: E => if ef p then max (p + 1) (topE ef E) else topE ef E
theorem topE_le {ef : Nat → Bool} {k : Nat} : ∀ {E : List Nat}, (∀ p ∈ E, ef p = true → p < k) → topE ef E ≤ k
  | [], _ => by simp [topE]
  | p :: E, h => by
    have := topE_le (E := E) (fun q hq => h q (by simp [hq]))
    simp only [topE]
    split
    · rename_i hp; have := h p (by simp) hp; omega
    · exact this
theorem topE_ge {ef : Nat → Bool} {p : Nat} (he : ef p = true) : ∀ {E : List Nat}, p ∈ E → p + 1 ≤ topE ef E
  | [], h => by simp at h
  | q :: E, h => by
    simp only [topE]
    rcases List.mem_cons.1 h with h1 | h1
    · subst h1; rw [if_pos he]; omega
    · have := topE_ge he h1
      split <;> omega
theorem topE_cases {ef : Nat → Bool} : ∀ (E : List Nat), topE ef E = 0 ∨ ∃ p ∈ E, ef p = true ∧ topE ef E = p + 1
  | [] => .inl rfl
  | p :: E => by
    simp only [topE]
    have ih := topE_cases (ef := ef) E
    split
    · rename_i hp
      rcases ih with h | ⟨q, h1, h2, h3⟩
      · exact .inr ⟨p, by simp, hp, by omega⟩
      · by_cases hlt : q ≤ p
        · exact .inr ⟨p, by simp, hp, by omega⟩
        · exact .inr ⟨q, by simp [h1], h2, by omega⟩
    · rcases ih with h | ⟨q, h1, h2, h3⟩
      · exact .inl h
      · exact .inr ⟨q, by simp [h1], h2, h3⟩
end Go.VS
