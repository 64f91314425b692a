import Derived.Test.YtjkgnelkochemaaV01
import Derived.MapKept
import Derived.Test.YtjkgnelkochemaaV02
import Derived.Test.YtjkgnelkochemaaV00
import Derived.Tactics
import Derived.Orders
import Derived.Scope
set_option linter.all false
/-
  VS, part 17f: maps: keys.
-/
namespace Go.VS
section
variable {P : Program} {φ : Nat → Nat}
variable {nt m : Nat} {s : St} {g : Gh} {a : Act} {w : World} {K : Act → World → Prop} {Q : Exit → Act → World → Prop} {o : Oper}

theorem keyCells_one {k : CK} {x : D} {a : List D} (h : keyCells [k] x = some a) : a = [x] ∧ ∀ cs, x ≠ .ag cs := by
  cases x <;> simp [keyCells] at h <;> exact ⟨h.symm, fun cs hh => by cases hh⟩
theorem keyCells_many {ks : List CK} {x : D} {a : List D} (hk : ∀ k, ks ≠ [k]) (h : keyCells ks x = some a) : x = .ag a := by
  match ks, hk, h with
  | [], _, h => cases x <;> simp [keyCells] at h <;> subst h <;> rfl
  | [k], hk, _ => exact absurd rfl (hk k)
  | _ :: _ :: _, _, h => cases x <;> simp [keyCells] at h <;> subst h <;> rfl
/-- Keys that are compared. -/
theorem key_run {I : Nat → Nat} {kt : TypeId} {ks : List CK} (hk : keyTy P kt ks = true) {x y : D} {b : Bool} (h : keyEq ks x y = some b) {u v : Value} (hu : relD φ I w x u) (hv : relD φ I w y v) : (Op.equal kt u v).run P w = .ok b w := by
  simp only [keyEq, Option.bind_eq_some_iff] at h
  obtain ⟨p, hp, q, hq, hf⟩ := h
  unfold keyTy at hk
  split at hk
  · rename_i k
    obtain ⟨rfl, _⟩ := keyCells_one hp
    obtain ⟨rfl, _⟩ := keyCells_one hq
    simp only [flatEq, Option.bind_eq_some_iff, Option.map_eq_some_iff, Option.some.injEq] at hf
    obtain ⟨b1, h1, b2, rfl, rfl⟩ := hf
    rw [Bool.and_true]
    exact cellEq_run hk h1 hu hv 9999
  · rename_i hne
    have hp' := keyCells_many (fun k hh => hne k hh) hp
    have hq' := keyCells_many (fun k hh => hne k hh) hq
    subst hp'; subst hq'
    simp only [relD] at hu hv
    obtain ⟨A, rfl, ra, _⟩ := hu
    obtain ⟨B, rfl, rb, _⟩ := hv
    unfold flatIs at hk
    split at hk
    · rename_i fs hfs
      simp only [Bool.and_eq_true, Bool.not_eq_true'] at hk
      obtain ⟨⟨ht1, ht2⟩, ht3⟩ := hk
      have hfo : P.fieldsOf kt = fs := by simp [Program.fieldsOf, hfs]
      have hst : P.underlying kt = some (.struct (P.fieldsOf kt)) := by rw [hfo]; exact hfs
      have hff := fields_run (P := P) (w := w) 9998 ht3 hf (by simpa using ra) (by simpa using rb)
      have he := run_equalIn_struct (P := P) w 9999 kt A B hst ht1
      rw [hfo, hff] at he
      exact he
    · simp at hk
/-- What 'findAsking' finds. -/
theorem findAsking_rel {h : List O} {kt : TypeId} {ks : List CK} (hk : keyTy P kt ks = true) {k : D} {u : Value} (hu : relD φ g.I w k u) : ∀ {kv : List (D × V)} {es : List MapEntry} {i : Nat}, relKV φ h g w kv es → (kv.all fun p => (keyEq ks k p.1).isSome) = true →
    ∃ r, (Instr.findAsking kt u es i).run P w = .ok r w ∧
      match kv.findIdx? (keyIs ks k) with
      | some j => ∃ e, es[j]? = some e ∧ r = some (i + j, e.val)
      | none => r = none
  | [], [], i, _, _ => ⟨none, by simp [Instr.findAsking], by simp⟩
  | p :: kv, e :: es, i, hr, hall => by
    simp only [List.all_cons, Bool.and_eq_true] at hall
    obtain ⟨b, hb⟩ := Option.isSome_iff_exists.1 hall.1
    have hp := hr.2 0 p e rfl rfl
    have heq := key_run (P := P) (w := w) hk hb hu hp.1
    have htail : relKV φ h g w kv es := ⟨by have := hr.1; simpa using this, fun j q e' hq he => hr.2 (j + 1) q e' (by simpa using hq) (by simpa using he)⟩
    have hki : keyIs ks k p = b := by simp [keyIs, hb]
    cases b with
    | true =>
      refine ⟨some (i, e.val), by simp [Instr.findAsking, heq], ?_⟩
      rw [List.findIdx?_cons, hki]
      exact ⟨e, rfl, rfl⟩
    | false =>
      obtain ⟨r, h1, h2⟩ := findAsking_rel hk hu (i := i + 1) htail hall.2
      refine ⟨r, by simp [Instr.findAsking, heq, h1], ?_⟩
      rw [List.findIdx?_cons, hki]
      simp only [Bool.false_eq_true, if_false]
      cases hf : kv.findIdx? (keyIs ks k) with
      | none => rw [hf] at h2; simpa using h2
      | some j =>
        rw [hf] at h2
        obtain ⟨e', he', hr'⟩ := h2
        refine ⟨e', by simpa using he', ?_⟩
        rw [hr']
        show some (i + 1 + j, e'.val) = some (i + (j + 1), e'.val)
        have : i + 1 + j = i + (j + 1) := by omega
        rw [this]
  | [], _ :: _, _, hr, _ => by have := hr.1; simp at this
  | _ :: _, [], _, hr, _ => by have := hr.1; simp at this
/-- What is compared at once is compared aright. -/
theorem sameNow_rel {I : Nat → Nat} {ks : List CK} {kind : TypeDesc} {x y : D} {b c : Bool} (h : keyEq ks x y = some b) {u v : Value} (hu : relD φ I w x u) (hv : relD φ I w y v) (hs : Instr.sameNow kind u v = some c) : c = b := by
  simp only [keyEq, Option.bind_eq_some_iff] at h
  obtain ⟨p, hp, q, hq, hf⟩ := h
  by_cases hone : ∃ k, ks = [k]
  · obtain ⟨k, rfl⟩ := hone
    obtain ⟨rfl, _⟩ := keyCells_one hp
    obtain ⟨rfl, _⟩ := keyCells_one hq
    simp only [flatEq, Option.bind_eq_some_iff, Option.map_eq_some_iff, Option.some.injEq] at hf
    obtain ⟨b1, h1, b2, rfl, rfl⟩ := hf
    rw [Bool.and_true]
    unfold cellEq at h1
    split at h1 <;> simp only [Option.some.injEq, reduceCtorEq, Option.ite_none_right_eq_some] at h1
    · obtain ⟨rfl, rfl⟩ := h1
      have hu := relD_int hu; have hv := relD_int hv; subst hu; subst hv
      cases kind <;> simp [Instr.sameNow] at hs
      exact hs.symm
    · subst h1
      have hu := relD_bool hu; have hv := relD_bool hv; subst hu; subst hv
      cases kind <;> simp [Instr.sameNow] at hs
      exact hs.symm
    · subst h1
      simp only [relD] at hu hv
      obtain ⟨bs, rfl, hb⟩ := hu
      obtain ⟨cs, rfl, hc⟩ := hv
      cases kind <;> simp [Instr.sameNow] at hs
      subst hs
      subst hb; subst hc
      exact beq_toListBytes _ _
  · have hp' := keyCells_many (fun k hh => hone ⟨k, hh⟩) hp
    subst hp'
    simp only [relD] at hu
    obtain ⟨A, rfl, _⟩ := hu
    cases kind <;> simp [Instr.sameNow] at hs
theorem findNow_rel {h : List O} {kind : TypeDesc} {ks : List CK} {k : D} {u : Value} (hu : relD φ g.I w k u) : ∀ {kv : List (D × V)} {es : List MapEntry} {i : Nat} {r : Option (Nat × Value)}, relKV φ h g w kv es → (kv.all fun p => (keyEq ks k p.1).isSome) = true →
    Instr.findNow kind u es i = some r →
      match kv.findIdx? (keyIs ks k) with
      | some j => ∃ e, es[j]? = some e ∧ r = some (i + j, e.val)
      | none => r = none
  | [], [], i, r, _, _, hf => by simp [Instr.findNow] at hf; simp [hf]
  | p :: kv, e :: es, i, r, hr, hall, hf => by
    simp only [List.all_cons, Bool.and_eq_true] at hall
    obtain ⟨b, hb⟩ := Option.isSome_iff_exists.1 hall.1
    have hp := hr.2 0 p e rfl rfl
    have htail : relKV φ h g w kv es := ⟨by have := hr.1; simpa using this, fun j q e' hq he => hr.2 (j + 1) q e' (by simpa using hq) (by simpa using he)⟩
    have hki : keyIs ks k p = b := by simp [keyIs, hb]
    simp only [Instr.findNow] at hf
    split at hf
    · rename_i hs
      have := sameNow_rel hb hu hp.1 hs
      subst this
      rw [List.findIdx?_cons, hki]
      simp at hf
      exact ⟨e, rfl, hf.symm⟩
    · rename_i hs
      have := sameNow_rel hb hu hp.1 hs
      subst this
      have h2 := findNow_rel hu htail hall.2 hf
      rw [List.findIdx?_cons, hki]
      simp only [Bool.false_eq_true, if_false]
      cases hf : kv.findIdx? (keyIs ks k) with
      | none => rw [hf] at h2; simpa using h2
      | some j =>
        rw [hf] at h2
        obtain ⟨e', he', hr'⟩ := h2
        refine ⟨e', by simpa using he', ?_⟩
        rw [hr']
        show some (i + 1 + j, e'.val) = some (i + (j + 1), e'.val)
        have : i + 1 + j = i + (j + 1) := by omega
        rw [this]
    · simp at hf
  | [], _ :: _, _, _, hr, _, _ => by have := hr.1; simp at this
  | _ :: _, [], _, _, hr, _, _ => by have := hr.1; simp at this
theorem keyTy_under {kt : TypeId} {ks : List CK} (hk : keyTy P kt ks = true) : ∃ d, P.underlying kt = some d := by
  unfold keyTy ckIs flatIs at hk
  cases h : P.underlying kt with
  | some d => exact ⟨d, rfl⟩
  | none => split at hk <;> simp [h] at hk
theorem findKey_rel {h : List O} {kt : TypeId} {ks : List CK} (hk : keyTy P kt ks = true) {k : D} {u : Value} (hu : relD φ g.I w k u) {kv : List (D × V)} {es : List MapEntry} (hr : relKV φ h g w kv es) (hall : (kv.all fun p => (keyEq ks k p.1).isSome) = true) :
    ∃ r, (Instr.findKey kt u es).run P w = .ok r w ∧
      match kv.findIdx? (keyIs ks k) with
      | some j => ∃ e, es[j]? = some e ∧ r = some (j, e.val)
      | none => r = none := by
  obtain ⟨d, hd⟩ := keyTy_under hk
  cases hf : Instr.findNow d u es 0 with
  | some r =>
    refine ⟨r, by simp [Instr.findKey, run_underlying hd, hf], ?_⟩
    simpa only [Nat.zero_add] using findNow_rel hu hr hall hf
  | none =>
    obtain ⟨r, h1, h2⟩ := findAsking_rel hk hu (i := 0) hr hall
    refine ⟨r, by simp [Instr.findKey, run_underlying hd, hf, h1], ?_⟩
    simpa only [Nat.zero_add] using h2
end
end Go.VS
/-
  VS, part 17g: maps.
-/
namespace Go.VS
section
variable {P : Program} {φ : Nat → Nat}
variable {nt m : Nat} {s : St} {g : Gh} {a : Act} {w : World} {K : Act → World → Prop} {Q : Exit → Act → World → Prop} {o : Oper}

/-- Keys of these kinds can always be put into a map. -/
theorem checkKey_basic {kt : TypeId} {k : CK} (hk : ckIs P kt k = true) (e : Bool) (n : Nat) (u : Value) : (Instr.checkKey e (n + 1) kt u).run P w = .ok () w := by
  unfold ckIs at hk
  split at hk <;> simp at hk <;> rename_i hu <;> simp [Instr.checkKey, run_underlying hu]
theorem checkKey_fields {I : Nat → Nat} (e : Bool) (n : Nat) {A : Array Value} : ∀ {fs : List Field} {ks : List CK} {off : Nat} {p q : List D} {b : Bool}, ckFields P off fs ks = true → flatEq ks p q = some b → relDs φ I w p (A.toList.drop off) →
    (forIn fs PUnit.unit (fun (f : Field) (_ : PUnit) => (do
      if f.name ≠ "_" then Instr.checkKey e (n + 1) f.type (← part f.type A f.offset)
      pure (ForInStep.yield PUnit.unit) : Sem (ForInStep PUnit)))).run P w = .ok PUnit.unit w
  | [], [], _, _, _, _, _, _, _ => by simp
  | f :: fs, k :: ks, off, p, q, b, hc, hf, hp => by
    simp only [ckFields, Bool.and_eq_true, beq_iff_eq, bne_iff_ne] at hc
    obtain ⟨⟨⟨hn, rfl⟩, hk⟩, hr⟩ := hc
    cases p with
    | nil => simp [flatEq] at hf
    | cons x p =>
      cases q with
      | nil => simp [flatEq] at hf
      | cons y q =>
        simp only [flatEq, Option.bind_eq_some_iff, Option.map_eq_some_iff] at hf
        obtain ⟨b1, h1, b2, h2, rfl⟩ := hf
        obtain ⟨u, hu, ru⟩ := relDs_get hp (j := 0) rfl
        have hu' : A[f.offset]? = some u := by simpa [List.getElem?_drop] using hu
        have hp' : relDs φ I w p (A.toList.drop (f.offset + 1)) := by
          have := relDs_drop hp 1; simpa [List.drop_drop, Nat.add_comm] using this
        have ih := checkKey_fields e n hr h2 hp'
        have e1 := part_cell (P := P) (w := w) hk hu'
        have e2 := checkKey_basic (P := P) (w := w) hk e n u
        simp only [List.forIn_cons, ne_eq, hn, not_false_eq_true, if_true, Sem.run_bind, e1, Result.andThen_ok, e2, Sem.run_pure]
        exact ih
  | [], _ :: _, _, _, _, _, hc, _, _ => by simp [ckFields] at hc
  | _ :: _, [], _, _, _, _, hc, _, _ => by simp [ckFields] at hc
theorem checkKey_run {I : Nat → Nat} {kt : TypeId} {ks : List CK} (hk : keyTy P kt ks = true) {k : D} (hself : (keyEq ks k k).isSome = true) {u : Value} (hu : relD φ I w k u) (e : Bool) : (Instr.checkKey e 10000 kt u).run P w = .ok () w := by
  obtain ⟨b, hb⟩ := Option.isSome_iff_exists.1 hself
  unfold keyTy at hk
  split at hk
  · exact checkKey_basic hk e 9999 u
  · rename_i hne
    simp only [keyEq, Option.bind_eq_some_iff] at hb
    obtain ⟨p, hp, q, hq, hf⟩ := hb
    have hp' := keyCells_many (fun k hh => hne k hh) hp
    subst hp'
    simp only [relD] at hu
    obtain ⟨A, rfl, ra, _⟩ := hu
    unfold flatIs at hk
    split at hk
    · rename_i fs hfs
      simp only [Bool.and_eq_true, Bool.not_eq_true'] at hk
      have := checkKey_fields (P := P) (w := w) e 9998 (A := A) hk.2 hf (by simpa using ra)
      rw [Instr.checkKey]
      simp only [Sem.run_bind, run_underlying hfs, Result.andThen_ok, ← Array.forIn_toList]
      have e2 : ∀ (x : PUnit), (forIn fs.toList x fun f _ => if f.name ≠ "_" then (do
              let __do_lift ← part f.type A f.offset
              Instr.checkKey e 9999 f.type __do_lift
              pure (ForInStep.yield PUnit.unit)) else (pure (ForInStep.yield PUnit.unit) : Sem (ForInStep PUnit))).run P w = .ok PUnit.unit w := fun _ => this
      rw [e2 PUnit.unit]
      rfl
    · simp at hk
theorem sim_mkm (hs : SRel φ nt m s g a w) {rec : Rec} {d : Nat} (hc : chkI P φ nt o (.mkm d) = true)
    (hK : After φ nt m s g w (evI rec (.mkm d) s) o a K) : o.wp P a w K Q := by
  simp only [chkI, Bool.and_eq_true] at hc
  obtain ⟨hd, h⟩ := hc
  split at h
  · rename_i t ho
    have hrun : (execOp a.eval o).run P w = .ok (.value (.map (some w.heap.size))) (w.alloc (.map #[] 0)) := by
      simp [execOp, ho, Instr.makeMap, newObj]
      rfl
    simp only [evI, St.putH] at hK
    have hg := Grew.alloc w (.map #[] 0)
    have hb := heap_alloc_at w (.map #[] 0)
    refine sim_newobj hs hd (b := w.heap.size) (off := 0) (I' := g.I) hrun hg (fun _ _ => rfl) (fun b hb => hs.heap.new b (by simp at hb; omega)) (Nat.le_refl _) ?_ ?_ hK
    · exact ⟨#[], 0, hb, ⟨by simp, fun i p e hp => by simp at hp⟩, hs.heap.new _ (Nat.le_refl _)⟩
    · simp only [relV]
      exact ⟨by simp, rfl, fun kv _ => by simp [Gh.add]⟩
  · simp at h

theorem keyEq_bits {I : Nat → Nat} {ks : List CK} {x y : D} (h : keyEq ks x y = some true) {u v : Value} (hu : relD φ I w x u) (hv : relD φ I w y v) : Instr.sameBits 10000 v u = true := by
  simp only [keyEq, Option.bind_eq_some_iff] at h
  obtain ⟨p, hp, q, hq, hf⟩ := h
  have cell : ∀ {k : CK} {x y : D} {u v : Value} (n : Nat), cellEq k x y = some true → relD φ I w x u → relD φ I w y v → Instr.sameBits n v u = true := by
    intro k x y u v n h1 hu hv
    unfold cellEq at h1
    split at h1 <;> simp only [Option.some.injEq, reduceCtorEq, Option.ite_none_right_eq_some] at h1
    · obtain ⟨rfl, h1⟩ := h1
      have hu := relD_int hu; have hv := relD_int hv; subst hu; subst hv
      have h1 := beq_iff_eq.1 h1; subst h1
      cases n <;> simp [Instr.sameBits]
    · have hu := relD_bool hu; have hv := relD_bool hv; subst hu; subst hv
      have h1 := beq_iff_eq.1 h1; subst h1
      cases n <;> simp [Instr.sameBits]
    · simp only [relD] at hu hv
      obtain ⟨bs, rfl, hb⟩ := hu
      obtain ⟨cs, rfl, hc⟩ := hv
      have h1 := beq_iff_eq.1 h1
      subst hb; subst hc
      have hb : (cs == bs) = true := by rw [beq_toListBytes]; exact beq_iff_eq.2 h1.symm
      cases n <;> simp only [Instr.sameBits] <;> exact hb
  by_cases hone : ∃ k, ks = [k]
  · obtain ⟨k, rfl⟩ := hone
    obtain ⟨rfl, _⟩ := keyCells_one hp
    obtain ⟨rfl, _⟩ := keyCells_one hq
    simp only [flatEq, Option.bind_eq_some_iff, Option.map_eq_some_iff, Option.some.injEq] at hf
    obtain ⟨b1, h1, b2, rfl, h2⟩ := hf
    rw [Bool.and_true] at h2
    subst h2
    exact cell _ h1 hu hv
  · have hp' := keyCells_many (fun k hh => hone ⟨k, hh⟩) hp
    have hq' := keyCells_many (fun k hh => hone ⟨k, hh⟩) hq
    subst hp'; subst hq'
    simp only [relD] at hu hv
    obtain ⟨A, rfl, ra, _⟩ := hu
    obtain ⟨B, rfl, rb, _⟩ := hv
    have hl : ∀ {ks : List CK} {p q : List D} {A B : List Value}, flatEq ks p q = some true → relDs φ I w p A → relDs φ I w q B → A.length = B.length ∧ ((B.zip A).all fun x => Instr.sameBits 9999 x.1 x.2) = true := by
      intro ks
      induction ks with
      | nil =>
        intro p q A B hf ra rb
        cases p <;> cases q <;> simp [flatEq] at hf
        cases A <;> cases B <;> simp_all [relDs]
      | cons k ks ih =>
        intro p q A B hf ra rb
        cases p with
        | nil => simp [flatEq] at hf
        | cons x p =>
          cases q with
          | nil => simp [flatEq] at hf
          | cons y q =>
            cases A with
            | nil => simp [relDs] at ra
            | cons a A =>
              cases B with
              | nil => simp [relDs] at rb
              | cons b B =>
                simp only [flatEq, Option.bind_eq_some_iff, Option.map_eq_some_iff] at hf
                obtain ⟨b1, h1, b2, h2, h3⟩ := hf
                simp only [Bool.and_eq_true] at h3
                obtain ⟨rfl, rfl⟩ := h3
                simp only [relDs] at ra rb
                obtain ⟨i1, i2⟩ := ih h2 ra.2 rb.2
                exact ⟨by simp [i1], by simp only [List.zip_cons_cons, List.all_cons, Bool.and_eq_true]; exact ⟨cell 9999 h1 ra.1 rb.1, i2⟩⟩
    obtain ⟨h1, h2⟩ := hl hf ra rb
    have h1' : B.size = A.size := by simpa using h1.symm
    simp only [Instr.sameBits, h1', beq_self_eq_true, Bool.true_and]
    exact h2
theorem mfind_eq {ks : List CK} {k : D} : ∀ {kv : List (D × V)}, mfind ks k kv = match kv.findIdx? (keyIs ks k) with | some j => (kv[j]?).map (·.2) | none => none
  | [] => rfl
  | p :: kv => by
    simp only [mfind, List.findIdx?_cons]
    split
    · simp
    · rw [mfind_eq (kv := kv)]
      cases kv.findIdx? (keyIs ks k) <;> simp
theorem mset_eq {ks : List CK} {k : D} {v : V} : ∀ {kv : List (D × V)}, mset ks k v kv = match kv.findIdx? (keyIs ks k) with | some j => kv.set j (k, v) | none => kv ++ [(k, v)]
  | [] => rfl
  | p :: kv => by
    simp only [mset, List.findIdx?_cons]
    split
    · simp
    · rw [mset_eq (kv := kv)]
      cases kv.findIdx? (keyIs ks k) <;> simp
theorem mdel_eq {ks : List CK} {k : D} : ∀ {kv : List (D × V)}, mdel ks k kv = match kv.findIdx? (keyIs ks k) with | some j => kv.eraseIdx j | none => kv
  | [] => rfl
  | p :: kv => by
    simp only [mdel, List.findIdx?_cons]
    split
    · simp
    · rw [mdel_eq (kv := kv)]
      cases kv.findIdx? (keyIs ks k) <;> simp
theorem findIdx_lt {ks : List CK} {k : D} {kv : List (D × V)} {j : Nat} (h : kv.findIdx? (keyIs ks k) = some j) : j < kv.length ∧ ∃ p, kv[j]? = some p ∧ keyIs ks k p = true := by
  obtain ⟨h1, h2, _⟩ := List.findIdx?_eq_some_iff_getElem.1 h
  exact ⟨h1, kv[j], by simp [h1], h2⟩
theorem keyIs_eq {ks : List CK} {k : D} {p : D × V} (h : keyIs ks k p = true) : keyEq ks k p.1 = some true := by
  unfold keyIs at h
  cases hq : keyEq ks k p.1 with
  | none => simp [hq] at h
  | some b => simp [hq] at h; rw [h]
/-- The map of an object has changed. -/
theorem sim_map (hs : SRel φ nt m s g a w) {n : Nat} {kv kv' : List (D × V)} {ES ES' : Array MapEntry} {clk clk' : Nat} {ok : Bool} (hn : hget s.heap n = .mp kv) (hb : w.heap[g.β n]? = some (.map ES clk)) (hI : g.I (g.β n) = 0)
    (hnew : ∀ {h' : List O} {w' : World}, HLe s.heap g w h' g w' → relKV φ h' g w' kv' ES'.toList) :
    ∃ w', (setObj (g.β n) (.map ES' clk')).run P w = .ok () w' ∧ SRel φ nt m ⟨s.env, s.heap.set n (.mp kv'), ok⟩ g a w' ∧ Frame m s.heap g w (s.heap.set n (.mp kv')) g w' := by
  have hl : (hget s.heap n).live = true := by rw [hn]; rfl
  have hlt : g.β n < w.heap.size := hs.heap.block hl
  refine ⟨_, MapKept.run_setObj_map (P := P) _ hb, ?_⟩
  have ht : Turned w { w with heap := w.heap.setIfInBounds (g.β n) (.map ES' clk') } (g.β n) :=
    ⟨by simp, fun k hk => by simp [Array.getElem?_setIfInBounds_ne (Ne.symm hk)], rfl, rfl, rfl⟩
  have hE : Ext g.I w g.I { w with heap := w.heap.setIfInBounds (g.β n) (.map ES' clk') } := ⟨fun _ => Nat.le_refl _, fun b i hi => by
    by_cases hbn : b = g.β n
    · subst hbn; omega
    · exact cell_of_heap (ht.same b hbn) i⟩
  have hle := hle_turn (x := .mp kv') hs.heap hl ht hE (fun es he => by simp [O.es?] at he) (fun _ _ => ⟨kv, hn⟩)
  have hH := hrel_turn (x := .mp kv') hs.heap hl ht hle (fun _ _ => rfl) ⟨ES', clk', by simp [hlt], hnew hle, hI⟩
  exact ⟨hs.turn hle hH, frame_turn (.mp kv') hl ht hE (fun _ _ => rfl) hle⟩
theorem keyOk_spec {ks : List CK} {k : D} {kv : List (D × V)} (h : keyOk ks k kv = true) : (keyEq ks k k).isSome = true ∧ (kv.all fun p => (keyEq ks k p.1).isSome) = true := by
  simpa [keyOk] using h
theorem mp_rel {h : List O} (hH : HRel φ h g w) {n : Nat} {v : Value} {kv : List (D × V)} (hn : hget h n = .mp kv) (hr : relV φ h g w (.mp n) v) : v = .map (some (g.β n)) ∧ ∃ ES clk, w.heap[g.β n]? = some (.map ES clk) ∧ relKV φ h g w kv ES.toList ∧ g.I (g.β n) = 0 := by
  simp only [relV] at hr
  have := hH.obj n
  rw [hn] at this
  exact ⟨hr.2.2 kv hn, this⟩
theorem relD_of_V {h : List O} {k : D} {v : Value} (hr : relV φ h g w (.d k) v) : relD φ g.I w k v := by simpa only [relV] using hr
theorem sim_mput (hs : SRel φ nt m s g a w) {rec : Rec} {x k v : A} {ks : List CK} (hc : chkI P φ nt o (.mput x k v ks) = true) (hok : (evI rec (.mput x k v ks) s).ok = true)
    (hK : After φ nt m s g w (evI rec (.mput x k v ks) s) o a K) : o.wp P a w K Q := by
  simp only [chkI, Bool.and_eq_true, beq_iff_eq] at hc
  obtain ⟨hdst, hc⟩ := hc
  have key : ∀ {t : TypeId} {x' k' v' : Operand}, (execOp a.eval o).run P w = (do Instr.mapUpdate t (a.eval x') (a.eval k') (a.eval v'); pure .skip : Sem Next).run P w →
      (chkA φ x' x && chkA φ k' k && chkA φ v' v && (match P.underlying t with | some (.map kt _) => keyTy P kt ks | _ => false)) = true → o.wp P a w K Q := by
    intro t x' k' v' ho h
    simp only [Bool.and_eq_true] at h
    obtain ⟨⟨⟨hx, hk⟩, hv⟩, ht⟩ := h
    split at ht
    · rename_i kt et hty
      have rx := chkA_rel hs hx
      have rk := chkA_rel hs hk
      have rv := chkA_rel hs hv
      simp only [evI] at hok hK
      obtain ⟨hh, hst⟩ := setHeap_spec hok
      rw [hst] at hK
      unfold mputH at hst
      split at hst
      · rename_i n kd hxv hkv
        rw [hxv] at rx
        rw [hkv] at rk
        split at hst
        · rename_i kv hn
          split at hst
          · rename_i hcond
            obtain ⟨hko, hvk⟩ := hcond
            simp only [Option.some.injEq] at hst
            subst hst
            obtain ⟨hself, hall⟩ := keyOk_spec hko
            obtain ⟨ex, ES, clk, hb, hkvr, hI⟩ := mp_rel hs.heap hn rx
            have hkd := relD_of_V rk
            have e1 := checkKey_run (P := P) (w := w) ht hself hkd false
            obtain ⟨r, e2, e3⟩ := findKey_rel (P := P) ht hkd hkvr hall
            have fin : ∀ {kv' : List (D × V)} {ES' : Array MapEntry} {clk' : Nat}, mset ks kd (s.get v) kv = kv' → (Instr.mapUpdate t (a.eval x') (a.eval k') (a.eval v')).run P w = (setObj (g.β n) (.map ES' clk')).run P w →
                (∀ {h' : List O} {w' : World}, HLe s.heap g w h' g w' → relKV φ h' g w' kv' ES'.toList) → o.wp P a w K Q := by
              intro kv' ES' clk' hkv' hrun hnew
              obtain ⟨w', h1, h2, h3⟩ := sim_map (P := P) hs (ok := s.ok) (clk' := clk') hn hb hI hnew
              refine wp_skip' (w' := w') (by rw [ho]; simp [hrun, h1]) ?_
              have := hK g undef w'
              rw [hdst] at this ⊢
              subst hkv'
              exact this h2 h3
            cases hf : kv.findIdx? (keyIs ks kd) with
            | none =>
              rw [hf] at e3
              subst e3
              refine fin (kv' := kv ++ [(kd, s.get v)]) (ES' := ES.push { key := a.eval k', val := a.eval v', born := clk }) (clk' := clk + 1) (by rw [mset_eq, hf]) ?_ fun hle => ?_
              · simp [Instr.mapUpdate, run_underlying hty, ex, MapKept.run_getObj_map hb, e1, e2]
              · have hm := relKV_move hle hkvr
                refine ⟨by simpa using hm.1, fun i p e hp he => ?_⟩
                rw [Array.toList_push] at he
                have hlen := hm.1
                rcases Nat.lt_trichotomy i kv.length with hi | hi | hi
                · rw [List.getElem?_append_left hi] at hp
                  rw [List.getElem?_append_left (by omega)] at he
                  exact hm.2 i p e hp he
                · subst hi
                  rw [List.getElem?_append_right (Nat.le_refl _)] at hp
                  rw [List.getElem?_append_right (by omega)] at he
                  rw [hlen] at he
                  simp at hp he
                  subst hp; subst he
                  exact ⟨relD_ext hle.ext hkd, relV_le hle rv⟩
                · rw [List.getElem?_eq_none (by simp; omega)] at hp
                  simp at hp
            | some j =>
              rw [hf] at e3
              obtain ⟨e, he, rfl⟩ := e3
              obtain ⟨hj, p, hp, hpk⟩ := findIdx_lt hf
              have hb1 := keyEq_bits (w := w) (keyIs_eq hpk) hkd (hkvr.2 j p e hp he).1
              have he' : ES[j]? = some e := by simpa using he
              refine fin (kv' := kv.set j (kd, s.get v)) (ES' := ES.modify j fun e => { e with key := a.eval k', val := a.eval v' }) (clk' := clk) (by rw [mset_eq, hf]) ?_ fun hle => ?_
              · simp [Instr.mapUpdate, run_underlying hty, ex, MapKept.run_getObj_map hb, e1, e2, he', Instr.keyThatStays, hb1]
              · have hm := relKV_move hle hkvr
                refine ⟨by simpa using hm.1, fun i p' e' hp' he' => ?_⟩
                rw [Array.toList_modify, List.getElem?_modify] at he'
                rw [List.getElem?_set] at hp'
                split at hp'
                · rename_i hij
                  subst hij
                  simp [he] at he'
                  simp only [hj, if_true, Option.some.injEq] at hp'
                  subst hp'; subst he'
                  exact ⟨relD_ext hle.ext hkd, relV_le hle rv⟩
                · rename_i hij
                  simp [hij] at he'
                  exact hm.2 i p' e' hp' (by simpa using he')
          · simp at hst
        · simp at hst
      · simp at hst
    · simp at ht
  split at hc
  · rename_i t x' k' v' ho
    exact key (by simp [execOp, ho]) hc
  · rename_i t x' k' v' ho
    exact key (by simp [execOp, ho]) hc
  · simp at hc
theorem sim_mget (hs : SRel φ nt m s g a w) {rec : Rec} {d : Nat} {x k : A} {z : D} {c : Bool} {ks : List CK} (hc : chkI P φ nt o (.mget d x k z c ks) = true) (hok : (evI rec (.mget d x k z c ks) s).ok = true)
    (hK : After φ nt m s g w (evI rec (.mget d x k z c ks) s) o a K) : o.wp P a w K Q := by
  simp only [chkI, Bool.and_eq_true] at hc
  obtain ⟨hd, hc⟩ := hc
  split at hc
  · rename_i t x' k' c' ho
    simp only [Bool.and_eq_true, beq_iff_eq] at hc
    obtain ⟨⟨⟨hx, hk⟩, rfl⟩, ht⟩ := hc
    split at ht
    · rename_i kt et hty
      simp only [Bool.and_eq_true] at ht
      obtain ⟨ht, hz⟩ := ht
      split at hz
      · rename_i info hinfo
        split at hz
        · rename_i zv hzv
          have rx := chkA_rel hs hx
          have rk := chkA_rel hs hk
          simp only [evI] at hok hK
          refine sim_putO hs hd hok (fun v hv => ?_) hK
          have hzero : (zeroValue et).run P w = .ok zv w := by simp [zeroValue, typeInfo, hinfo, hzv]
          have fin : ∀ {kd : D} {kv : List (D × V)} {ES : List MapEntry} {es : Array MapEntry}, s.get k = .d kd → es.toList = ES → relKV φ s.heap g w kv ES → mlook ks kd z c' kv = some v →
              (a.eval x' = .map none ∧ es = #[] ∨ ∃ n clk, a.eval x' = .map (some n) ∧ w.heap[n]? = some (.map es clk)) →
              ∃ v', (execOp a.eval o).run P w = .ok (.value v') w ∧ relV φ s.heap g w v v' := by
            intro kd kv ES es hkd hes hkvr hl hrun
            rw [hkd] at rk
            have hkd := relD_of_V rk
            unfold mlook at hl
            split at hl
            · rename_i hko
              obtain ⟨hself, hall⟩ := keyOk_spec hko
              have e1 := checkKey_run (P := P) (w := w) ht hself hkd es.isEmpty
              obtain ⟨r, e2, e3⟩ := findKey_rel (P := P) ht hkd hkvr hall
              rw [mfind_eq] at hl
              cases hf : kv.findIdx? (keyIs ks kd) with
              | none =>
                rw [hf] at e3 hl
                subst e3
                simp only [Option.some.injEq] at hl
                subst hl
                refine ⟨if c' then .tuple #[zv, .bool false] else zv, ?_, ?_⟩
                · rcases hrun with ⟨ex, rfl⟩ | ⟨n, clk, ex, hb⟩
                  · simp at hes
                    subst hes
                    simp at e1 e2
                    simp [execOp, ho, Instr.lookup, ex, run_underlying hty, e1, e2, hzero]
                  · simp [execOp, ho, Instr.lookup, ex, run_underlying hty, MapKept.run_getObj_map hb, e1, hes, e2, hzero]
                · have := chkVal_rel (w := w) (I := g.I) hz
                  cases c' with
                  | true => simp only [if_true, relV]; exact ⟨_, rfl, by simp [relVs, relV, relD, this]⟩
                  | false => simp only [Bool.false_eq_true, if_false, relV]; exact this
              | some j =>
                rw [hf] at e3 hl
                obtain ⟨e, he, rfl⟩ := e3
                obtain ⟨hj, p, hp, hpk⟩ := findIdx_lt hf
                simp only [hp, Option.map_some, Option.some.injEq] at hl
                subst hl
                have hpe := (hkvr.2 j p e hp he).2
                refine ⟨if c' then .tuple #[e.val, .bool true] else e.val, ?_, ?_⟩
                · rcases hrun with ⟨ex, rfl⟩ | ⟨n, clk, ex, hb⟩
                  · simp at hes
                    subst hes
                    simp at he
                  · simp [execOp, ho, Instr.lookup, ex, run_underlying hty, MapKept.run_getObj_map hb, e1, hes, e2]
                · cases c' with
                  | true => simp only [if_true, relV]; exact ⟨_, rfl, by simp [relVs, relV, relD, hpe]⟩
                  | false => simpa only [Bool.false_eq_true, if_false] using hpe
            · simp at hl
          unfold mgetV at hv
          split at hv
          · rename_i kd hkd
            split at hv
            · rename_i n hxv
              rw [hxv] at rx
              split at hv
              · rename_i kv hn
                obtain ⟨ex, ES, clk, hb, hkvr, hI⟩ := mp_rel hs.heap hn rx
                exact fin (es := ES) hkd rfl hkvr hv (.inr ⟨_, _, ex, hb⟩)
              · simp at hv
            · rename_i hxv
              rw [hxv] at rx
              have ex : a.eval x' = .map none := by simpa [relV, relD] using rx
              exact fin (es := #[]) (kv := []) hkd rfl ⟨rfl, fun i p e hp => by simp at hp⟩ hv (.inl ⟨ex, rfl⟩)
            · simp at hv
          · simp at hv
        · simp at hz
      · simp at hz
    · simp at ht
  · simp at hc
theorem sim_mdel (hs : SRel φ nt m s g a w) {rec : Rec} {x k : A} {ks : List CK} (hc : chkI P φ nt o (.mdel x k ks) = true) (hok : (evI rec (.mdel x k ks) s).ok = true)
    (hK : After φ nt m s g w (evI rec (.mdel x k ks) s) o a K) : o.wp P a w K Q := by
  simp only [chkI, Bool.and_eq_true, beq_iff_eq] at hc
  obtain ⟨hdst, hc⟩ := hc
  split at hc
  · rename_i c ho
    split at hc
    · rename_i x' k' t t2 hcal hargs htys
      simp only [Bool.and_eq_true] at hc
      obtain ⟨⟨hx, hk⟩, ht⟩ := hc
      split at ht
      · rename_i kt et hty
        obtain ⟨cal, args, tys⟩ := c
        simp only at hcal hargs htys
        have hargs' : args = #[x', k'] := by rw [← Array.toList_inj]; exact hargs
        have htys' : tys = #[t, t2] := by rw [← Array.toList_inj]; exact htys
        subst hcal; subst hargs'; subst htys'
        have rx := chkA_rel hs hx
        have rk := chkA_rel hs hk
        simp only [evI] at hok hK
        obtain ⟨hh, hst⟩ := setHeap_spec hok
        rw [hst] at hK
        have fin : ∀ {w' : World}, (Builtin.delete_ #[t, t2] o.type #[a.eval x', a.eval k']).run P w = .ok (.tuple #[]) w' → SRel φ nt m ⟨s.env, hh, s.ok⟩ g a w' → Frame m s.heap g w hh g w' → o.wp P a w K Q := by
          intro w' h1 h2 h3
          refine wp_val (v' := .tuple #[]) (w' := w') (by simp [execOp, ho, resolve, invoke, builtin, h1]) ?_
          have := hK g (.tuple #[]) w'
          rw [hdst] at this ⊢
          exact this h2 h3
        unfold mdelH at hst
        split at hst
        · rename_i n kd hxv hkv
          rw [hxv] at rx
          rw [hkv] at rk
          have hkd := relD_of_V rk
          split at hst
          · rename_i kv hn
            split at hst
            · rename_i hko
              simp only [Option.some.injEq] at hst
              subst hst
              obtain ⟨hself, hall⟩ := keyOk_spec hko
              obtain ⟨ex, ES, clk, hb, hkvr, hI⟩ := mp_rel hs.heap hn rx
              have e1 := checkKey_run (P := P) (w := w) ht hself hkd ES.isEmpty
              obtain ⟨r, e2, e3⟩ := findKey_rel (P := P) ht hkd hkvr hall
              have go : ∀ {kv' : List (D × V)} {ES' : Array MapEntry}, mdel ks kd kv = kv' → (Builtin.delete_ #[t, t2] o.type #[a.eval x', a.eval k']).run P w = (do setObj (g.β n) (.map ES' clk); pure (.tuple #[]) : Sem Value).run P w →
                  (∀ {h' : List O} {w' : World}, HLe s.heap g w h' g w' → relKV φ h' g w' kv' ES'.toList) → o.wp P a w K Q := by
                intro kv' ES' hkv' hrun hnew
                obtain ⟨w', h1, h2, h3⟩ := sim_map (P := P) hs (ok := s.ok) (clk' := clk) hn hb hI hnew
                subst hkv'
                exact fin (by rw [hrun]; simp [h1]) h2 h3
              cases hf : kv.findIdx? (keyIs ks kd) with
              | none =>
                rw [hf] at e3
                subst e3
                refine go (kv' := kv) (ES' := ES) (by rw [mdel_eq, hf]) ?_ fun hle => relKV_move hle hkvr
                simp [Builtin.delete_, run_underlying hty, ex, MapKept.run_getObj_map hb, e1, e2]
              | some j =>
                rw [hf] at e3
                obtain ⟨e, he, rfl⟩ := e3
                refine go (kv' := kv.eraseIdx j) (ES' := ES.eraseIdxIfInBounds j) (by rw [mdel_eq, hf]) ?_ fun hle => ?_
                · simp [Builtin.delete_, run_underlying hty, ex, MapKept.run_getObj_map hb, e1, e2]
                · have hm := relKV_move hle hkvr
                  have het : (ES.eraseIdxIfInBounds j).toList = ES.toList.eraseIdx j := by simp
                  rw [het]
                  refine ⟨by rw [List.length_eraseIdx, List.length_eraseIdx, hm.1], fun i p e hp he => ?_⟩
                  rw [List.getElem?_eraseIdx] at hp he
                  split at hp
                  · rename_i hij; rw [if_pos hij] at he; exact hm.2 i p e hp he
                  · rename_i hij; rw [if_neg hij] at he; exact hm.2 (i + 1) p e hp he
            · simp at hst
          · simp at hst
        · rename_i kd hxv hkv
          rw [hxv] at rx
          rw [hkv] at rk
          have hkd := relD_of_V rk
          have ex : a.eval x' = .map none := by simpa [relV, relD] using rx
          split at hst
          · rename_i hko
            simp only [Option.some.injEq] at hst
            subst hst
            obtain ⟨hself, hall⟩ := keyOk_spec hko
            have e1 := checkKey_run (P := P) (w := w) ht hself hkd true
            refine fin (w' := w) ?_ hs (Frame.refl _ _ _ _)
            simp [Builtin.delete_, run_underlying hty, ex, e1]
          · simp at hst
        · simp at hst
      · simp at ht
    · simp at hc
  · simp at hc
end
end Go.VS
/-
  VS, part 18: each instruction that is checked does what the model's operation does.
-/
namespace Go.VS
section
variable {P : Program} {φ : Nat → Nat}
variable {nt m : Nat} {s : St} {g : Gh} {a : Act} {w : World} {K : Act → World → Prop} {Q : Exit → Act → World → Prop} {o : Oper}

theorem sim_ldd (hs : SRel φ nt m s g a w) {rec : Rec} {d n : Nat} {ag : Bool} {x : A} (hc : chkI P φ nt o (.ldd d x n ag) = true) (hok : (evI rec (.ldd d x n ag) s).ok = true)
    (hK : After φ nt m s g w (evI rec (.ldd d x n ag) s) o a K) : o.wp P a w K Q := by
  simp only [evI] at hok hK
  obtain ⟨v, hv⟩ := putO_spec hok
  have he : ldV s.heap n ag (s.get x) = some v := by
    unfold lddV at hv
    split at hv
    · rename_i cs hx; rw [hx]; exact hv
    · simp at hv
  refine sim_ld (rec := rec) hs hc ?_ ?_
  · simp only [evI, he]; rw [hv] at hok; exact hok
  · simp only [evI, he]; rw [hv] at hK; exact hK
theorem sim_fad (hs : SRel φ nt m s g a w) {rec : Rec} {d off n : Nat} {x : A} (hc : chkI P φ nt o (.fad d x off n) = true) (hok : (evI rec (.fad d x off n) s).ok = true)
    (hK : After φ nt m s g w (evI rec (.fad d x off n) s) o a K) : o.wp P a w K Q := by
  simp only [evI] at hok hK
  obtain ⟨v, hv⟩ := putO_spec hok
  have he : fa s.heap off n (s.get x) = some v := by
    unfold fadV at hv
    split at hv
    · rename_i cs hx; rw [hx]; exact hv
    · simp at hv
  refine sim_fa (rec := rec) hs hc ?_ ?_
  · simp only [evI, he]; rw [hv] at hok; exact hok
  · simp only [evI, he]; rw [hv] at hK; exact hK
theorem sim_I {rec : Rec} (hq : QuietCall P φ rec) (hs : SRel φ nt m s g a w) {i : I} (hc : chkI P φ nt o i = true) (hok : (evI rec i s).ok = true)
    (hK : After φ nt m s g w (evI rec i s) o a K) : o.wp P a w K Q := by
  cases i with
  | mv d x => exact sim_mv hs hc hK
  | pick d c x y => exact sim_pick hs hc hok hK
  | box d x n fz => exact sim_box hs hc hok hK
  | new d z => exact sim_new hs hc hK
  | build d z ps => exact sim_build hs hc hok hK
  | buildSl d es n z ps fz => exact sim_buildSl hs hc hok hK
  | ld d x n ag => exact sim_ld hs hc hok hK
  | st x y n fz =>
    cases fz with
    | false => exact sim_st hs hc hok hK
    | true => exact sim_stfz hs hc hok hK
  | fa d x o n => exact sim_fa hs hc hok hK
  | ixs d x i es => exact sim_ixs hs hc hok hK
  | bin d op x y => exact sim_bin hs hc hok hK
  | eqv d neg x y ks => exact sim_eqv hs hc hok hK
  | eqb d neg x y => exact sim_eqb hs hc hok hK
  | isnil d neg x k => exact sim_isnil hs hc hok hK
  | un d op x => exact sim_un hs hc hok hK
  | cvi d k x => exact sim_cvi hs hc hok hK
  | len d x k => exact sim_len hs hc hok hK
  | ext d x i => exact sim_ext hs hc hok hK
  | sl d x lo hi es => exact sim_sl hs hc hok hK
  | cl0 d x es => exact sim_cl0 hs hc hok hK
  | app d x y es => exact sim_app hs hc hok hK
  | mkf d f x y => exact sim_mkf hs hc hK
  | call d f xs => exact sim_call hq hs hc hok hK
  | callv d x xs => exact sim_callv hq hs hc hok hK
  | callk d f xs => exact sim_callr false hq hs hc hok hK
  | callr d f xs => exact sim_callr true hq hs hc hok hK
  | callvr d x xs => exact sim_callvr hq hs hc hok hK
  | nck d x => exact sim_nck hs hc hok hK
  | mn d x y => exact sim_mn hs hc hok hK
  | fld d x off n ag => exact sim_fld hs hc hok hK
  | sl3 d x lo hi mx es => exact sim_sl3 hs hc hok hK
  | clr d x es z => exact sim_clr hs hc hok hK
  | copy d x y es => exact sim_copy hs hc hok hK
  | cap d x => exact sim_cap hs hc hok hK
  | appz d x k es z => exact sim_appz hs hc hok hK
  | ovl d f x y es => exact sim_ovl hs hc hok hK
  | bad d => simp [evI, St.fail] at hok
  | ldd d x n ag => exact sim_ldd hs hc hok hK
  | fad d x o n => exact sim_fad hs hc hok hK
  | mkm d => exact sim_mkm hs hc hK
  | mput m k v ks => exact sim_mput hs hc hok hK
  | mget d m k z ok ks => exact sim_mget hs hc hok hK
  | mdel m k ks => exact sim_mdel hs hc hok hK
  | _ => simp [chkI] at hc
end
end Go.VS
/-
  VS, part 17: what an instruction reads and what it writes.
-/
namespace Go.VS

/-- The operands that an instruction reads. -/
def I.reads : I → List A
  | .mv _ x => [x]
  | .pick _ c a b => [c, a, b]
  | .box _ x _ _ => [x]
  | .new .. => []
  | .build _ _ ps => ps.map fun p => p.2.2
  | .buildSl _ _ _ _ ps _ => ps.map fun p => p.2
  | .ld _ x _ _ => [x]
  | .st x y _ _ => [x, y]
  | .fa _ x _ _ => [x]
  | .ixs _ x i _ => [x, i]
  | .ixa _ x i _ _ => [x, i]
  | .fld _ x _ _ _ => [x]
  | .bin _ _ x y => [x, y]
  | .eqv _ _ x y _ => [x, y]
  | .eqb _ _ x y => [x, y]
  | .isnil _ _ x _ => [x]
  | .un _ _ x => [x]
  | .cvi _ _ x => [x]
  | .len _ x _ => [x]
  | .sl _ x lo hi _ => x :: (lo.toList ++ hi.toList)
  | .app _ x y _ => [x, y]
  | .clr _ x _ _ => [x]
  | .copy _ x y _ => [x, y]
  | .ext _ x _ => [x]
  | .mkf _ _ a b => a ++ b
  | .mkm _ => []
  | .mput m k v _ => [m, k, v]
  | .mget _ m k _ _ _ => [m, k]
  | .mdel m k _ => [m, k]
  | .call _ _ xs => xs
  | .callk _ _ xs => xs
  | .callr _ _ xs => xs
  | .callv _ x xs => x :: xs
  | .callvr _ x xs => x :: xs
  | .nck _ x => [x]
  | .newf .. => []
  | .cl0 _ x _ => [x]
  | .stf _ y _ _ => [y]
  | .sl3 _ x lo hi mx _ => [x, lo, hi, mx]
  | .mn _ x y => [x, y]
  | .cap _ x => [x]
  | .appz _ x k _ _ => [x, k]
  | .ovl _ _ x y _ => [x, y]
  | .bad _ => []
  | .ldd _ x _ _ => [x]
  | .fad _ x _ _ => [x]
/-- Instructions that leave the heap as it is. -/
def I.quiet : I → Bool
  | .mv .. | .pick .. | .build .. | .ld .. | .fa .. | .ixs .. | .ixa .. | .fld .. | .bin .. | .eqv .. | .eqb .. | .isnil .. | .un .. | .cvi .. | .len .. | .sl .. | .ext .. | .mkf .. | .mget ..
  | .call .. | .callv .. | .nck .. | .newf .. | .cl0 .. | .sl3 .. | .mn .. | .cap .. | .ovl .. | .ldd .. | .fad .. => true
  | .box _ _ _ fz => fz
  | .buildSl _ _ _ _ _ fz => fz
  | _ => false
/-- Instructions that do not look at the heap. -/
def I.blind : I → Bool
  | .mv .. | .pick .. | .build .. | .fld .. | .bin .. | .eqv .. | .eqb .. | .un .. | .cvi .. | .ext .. | .mkf .. | .call .. | .callv .. | .nck .. | .newf .. | .mn .. | .ldd .. | .fad .. => true
  | .box _ _ _ fz => fz
  | .buildSl _ _ _ _ _ fz => fz
  | _ => false
def W (d : Option Nat) (v : V) : List (Nat × V) :=
  match d with
  | some d => [(d, v)]
  | none => []

/-- The same is written in both, and the heap changes alike. -/
def Alike (q : Bool) (d : Option Nat) (s s' r r' : St) : Prop :=
  r.ok = true → s'.ok = true → r'.ok = true ∧ ∃ v, r.env = W d v ++ s.env ∧ r'.env = W d v ++ s'.env ∧ ((r.heap = s.heap ∧ r'.heap = s'.heap) ∨ (q = false ∧ r.heap = r'.heap))
section
variable {q : Bool} {s s' : St}
theorem Alike.put {d : Nat} {v : V} : Alike q (some d) s s' (s.put d v) (s'.put d v) := fun _ h' => ⟨h', v, rfl, rfl, .inl ⟨rfl, rfl⟩⟩
theorem Alike.putO {d : Nat} {o : Option V} : Alike q (some d) s s' (s.putO d o) (s'.putO d o) := by
  cases o with
  | none => intro h; simp [St.putO, St.fail] at h
  | some v => exact Alike.put
theorem Alike.fail {d : Option Nat} {r : St} : Alike q d s s' s.fail r := fun h => by simp [St.fail] at h
theorem Alike.skip {r : St} (hr : r = s') : Alike q none s s' s r := by subst hr; exact fun _ h' => ⟨h', .u, rfl, rfl, .inl ⟨rfl, rfl⟩⟩
theorem Alike.putH {d : Nat} {o : Option (V × List O)} : Alike false (some d) s s' (s.putH d o) (s'.putH d o) := by
  cases o with
  | none => intro h; simp [St.putH, St.fail] at h
  | some p => exact fun _ h' => ⟨h', p.1, rfl, rfl, .inr ⟨rfl, rfl⟩⟩
theorem Alike.putHO {d : Option Nat} {o : Option (V × List O)} : Alike false d s s' (s.putHO d o) (s'.putHO d o) := by
  cases o with
  | none => intro h; simp [St.putHO, St.fail] at h
  | some p =>
    cases d with
    | none => exact fun _ h' => ⟨h', .u, rfl, rfl, .inr ⟨rfl, rfl⟩⟩
    | some d => exact fun _ h' => ⟨h', p.1, rfl, rfl, .inr ⟨rfl, rfl⟩⟩
theorem Alike.putQ {d : Option Nat} {o : Option V} : Alike q d s s' (s.putQ d o) (s'.putQ d o) := by
  cases o with
  | none => intro h; simp [St.putQ, St.fail] at h
  | some v =>
    cases d with
    | none => exact fun _ h' => ⟨h', .u, rfl, rfl, .inl ⟨rfl, rfl⟩⟩
    | some d => exact fun _ h' => ⟨h', v, rfl, rfl, .inl ⟨rfl, rfl⟩⟩
theorem Alike.setHeap {o : Option (List O)} : Alike false none s s' (s.setHeap o) (s'.setHeap o) := by
  cases o with
  | none => intro h; simp [St.setHeap, St.fail] at h
  | some h => exact fun _ h' => ⟨h', .u, rfl, rfl, .inr ⟨rfl, rfl⟩⟩
end

theorem map_get {s s' : St} {xs : List A} (h : ∀ x ∈ xs, s.get x = s'.get x) : xs.map s'.get = xs.map s.get := List.map_congr_left fun x hx => (h x hx).symm
theorem intOr_get {s s' : St} {dflt : Int} {x : Option A} (h : ∀ a ∈ x.toList, s.get a = s'.get a) : intOr s' dflt x = intOr s dflt x := by
  cases x with
  | none => rfl
  | some a => simp [intOr, h a (by simp)]
theorem evI_alike {rec : Rec} {i : I} {s s' : St} (h : ∀ x ∈ i.reads, s.get x = s'.get x) (hh : s.heap = s'.heap ∨ i.blind = true) : Alike i.quiet i.wr s s' (evI rec i s) (evI rec i s') := by
  cases i with
  | box d x n fz =>
    have hx := h x (by simp [I.reads])
    simp only [evI, ← hx]
    split
    · cases fz with
      | true => exact Alike.putO
      | false => simp [I.blind] at hh; simp only [← hh, I.quiet, Bool.false_eq_true, if_false]; exact Alike.putH
    · exact Alike.fail
  | stf d x n fz =>
    have hx := h x (by simp [I.reads])
    simp [I.blind] at hh
    simp only [evI, ← hx, I.quiet, I.wr]
    split
    · cases fz with
      | true => exact Alike.putO
      | false => simp only [← hh, Bool.false_eq_true, if_false]; exact Alike.putH
    · exact Alike.fail
  | buildSl d es n z ps fz =>
    have hx : (ps.map fun p => (p.1, s'.get p.2)) = ps.map fun p => (p.1, s.get p.2) := List.map_congr_left fun p hp => by rw [h p.2 (by simp only [I.reads]; exact List.mem_map.2 ⟨p, hp, rfl⟩)]
    simp only [evI, hx]
    cases fz with
    | true => exact Alike.putO
    | false => simp [I.blind] at hh; simp only [← hh, I.quiet, Bool.false_eq_true, if_false]; exact Alike.putH
  | build d z ps =>
    have hx : (ps.map fun p => (p.1, p.2.1, s'.get p.2.2)) = ps.map fun p => (p.1, p.2.1, s.get p.2.2) := List.map_congr_left fun p hp => by rw [h p.2.2 (by simp only [I.reads]; exact List.mem_map.2 ⟨p, hp, rfl⟩)]
    simp only [evI, hx]
    exact Alike.putO
  | st x y n fz =>
    have hx := h x (by simp [I.reads])
    have hy := h y (by simp [I.reads])
    simp [I.blind] at hh
    simp only [evI, ← hx, ← hy, ← hh, I.quiet]
    cases fz with
    | false =>
      have : (I.st x y n false).wr = none := by cases x <;> rfl
      rw [this]
      exact Alike.setHeap
    | true =>
      cases x with
      | k z => simp only [if_true]; exact Alike.fail
      | t d =>
        simp only [if_true, I.wr]
        generalize s.get (.t d) = v
        cases v with
        | loc m r c =>
          cases r with
          | succ r => exact Alike.fail
          | zero =>
            cases c with
            | succ c => exact Alike.fail
            | zero =>
              simp only
              split
              · split
                · exact Alike.putH
                · exact Alike.fail
              · exact Alike.fail
        | _ => exact Alike.fail
  | pick d c a b =>
    have hc := h c (by simp [I.reads]); have ha := h a (by simp [I.reads]); have hb := h b (by simp [I.reads])
    simp only [evI, ← hc, ← ha, ← hb]
    split
    · exact Alike.put
    · exact Alike.fail
  | nck d x =>
    have hx := h x (by simp [I.reads])
    simp only [evI, ← hx]
    split <;> first | exact Alike.put | exact Alike.fail
  | mkf d f a b =>
    have ha := map_get (xs := a) (fun x hx => h x (by simp [I.reads, hx]))
    have hb := map_get (xs := b) (fun x hx => h x (by simp [I.reads, hx]))
    simp only [evI, ha, hb]
    split <;> exact Alike.put
  | call d f xs =>
    simp only [evI, map_get (xs := xs) h]
    exact Alike.putQ
  | callv d x xs =>
    have hx := h x (by simp [I.reads])
    simp only [evI, ← hx, map_get (xs := xs) (fun y hy => h y (by simp [I.reads, hy]))]
    exact Alike.putQ
  | callk d f xs =>
    simp [I.blind] at hh
    simp only [evI, map_get (xs := xs) h, ← hh]
    exact Alike.putHO
  | callr d f xs =>
    simp [I.blind] at hh
    simp only [evI, map_get (xs := xs) h, ← hh]
    exact Alike.putHO
  | callvr d x xs =>
    have hx := h x (by simp [I.reads])
    simp [I.blind] at hh
    simp only [evI, ← hx, map_get (xs := xs) (fun y hy => h y (by simp [I.reads, hy])), ← hh]
    exact Alike.putHO
  | sl d x lo hi es =>
    have hx := h x (by simp [I.reads])
    simp [I.blind] at hh
    simp only [evI, ← hx, ← hh, intOr_get (s := s) (s' := s') (x := lo) (fun a ha => h a (by simp only [I.reads]; simp at ha; simp [ha])), intOr_get (s := s) (s' := s') (x := hi) (fun a ha => h a (by simp only [I.reads]; simp at ha; simp [ha]))]
    exact Alike.putO
  | newf d n => exact Alike.skip rfl
  | new d z => simp [I.blind] at hh; simp only [evI, ← hh]; exact Alike.putH
  | mkm d => simp [I.blind] at hh; simp only [evI, ← hh]; exact Alike.putH
  | app d x y es =>
    have hx := h x (by simp [I.reads]); have hy := h y (by simp [I.reads])
    simp [I.blind] at hh; simp only [evI, ← hx, ← hy, ← hh]; exact Alike.putH
  | copy d x y es =>
    have hx := h x (by simp [I.reads]); have hy := h y (by simp [I.reads])
    simp [I.blind] at hh; simp only [evI, ← hx, ← hy, ← hh]; exact Alike.putHO
  | clr d x es z =>
    have hx := h x (by simp [I.reads])
    simp [I.blind] at hh; simp only [evI, ← hx, ← hh]; exact Alike.putHO
  | mput a b c ks =>
    have ha := h a (by simp [I.reads]); have hb := h b (by simp [I.reads]); have hc := h c (by simp [I.reads])
    simp [I.blind] at hh; simp only [evI, ← ha, ← hb, ← hc, ← hh]; exact Alike.setHeap
  | mdel a b ks =>
    have ha := h a (by simp [I.reads]); have hb := h b (by simp [I.reads])
    simp [I.blind] at hh; simp only [evI, ← ha, ← hb, ← hh]; exact Alike.setHeap
  | mget d a b z ok ks =>
    have ha := h a (by simp [I.reads]); have hb := h b (by simp [I.reads])
    simp [I.blind] at hh; simp only [evI, ← ha, ← hb, ← hh]; exact Alike.putO
  | ixs d a b es =>
    have ha := h a (by simp [I.reads]); have hb := h b (by simp [I.reads])
    simp [I.blind] at hh; simp only [evI, ← ha, ← hb, ← hh]; exact Alike.putO
  | ixa d a b es =>
    have ha := h a (by simp [I.reads]); have hb := h b (by simp [I.reads])
    simp [I.blind] at hh; simp only [evI, ← ha, ← hb, ← hh]; exact Alike.putO
  | bin d op a b =>
    have ha := h a (by simp [I.reads]); have hb := h b (by simp [I.reads])
    simp only [evI, ← ha, ← hb]; exact Alike.putO
  | eqv d neg a b ks =>
    have ha := h a (by simp [I.reads]); have hb := h b (by simp [I.reads])
    simp only [evI, ← ha, ← hb]; exact Alike.putO
  | eqb d neg a b =>
    have ha := h a (by simp [I.reads]); have hb := h b (by simp [I.reads])
    simp only [evI, ← ha, ← hb]; exact Alike.putO
  | ld d x n ag => have hx := h x (by simp [I.reads]); simp [I.blind] at hh; simp only [evI, ← hx, ← hh]; exact Alike.putO
  | cl0 d x es => have hx := h x (by simp [I.reads]); simp [I.blind] at hh; simp only [evI, ← hx, ← hh]; exact Alike.putO
  | fa d x n ag => have hx := h x (by simp [I.reads]); simp [I.blind] at hh; simp only [evI, ← hx, ← hh]; exact Alike.putO
  | isnil d neg x k => have hx := h x (by simp [I.reads]); simp [I.blind] at hh; simp only [evI, ← hx, ← hh]; exact Alike.putO
  | len d x k => have hx := h x (by simp [I.reads]); simp [I.blind] at hh; simp only [evI, ← hx, ← hh]; exact Alike.putO
  | fld d x n k ag => have hx := h x (by simp [I.reads]); simp only [evI, ← hx]; exact Alike.putO
  | un d op x => have hx := h x (by simp [I.reads]); simp only [evI, ← hx]; exact Alike.putO
  | cvi d k x => have hx := h x (by simp [I.reads]); simp only [evI, ← hx]; exact Alike.putO
  | ext d x i => have hx := h x (by simp [I.reads]); simp only [evI, ← hx]; exact Alike.putO
  | sl3 d x lo hi mx es =>
    have hx := h x (by simp [I.reads]); have hl := h lo (by simp [I.reads]); have hi := h hi (by simp [I.reads]); have hm := h mx (by simp [I.reads])
    simp [I.blind] at hh; simp only [evI, ← hx, ← hl, ← hi, ← hm, ← hh]; exact Alike.putO
  | mn d x y => have hx := h x (by simp [I.reads]); have hy := h y (by simp [I.reads]); simp only [evI, ← hx, ← hy]; exact Alike.putO
  | cap d x => have hx := h x (by simp [I.reads]); simp [I.blind] at hh; simp only [evI, ← hx, ← hh]; exact Alike.putO
  | appz d x k es z =>
    have hx := h x (by simp [I.reads]); have hk := h k (by simp [I.reads])
    simp [I.blind] at hh; simp only [evI, ← hx, ← hk, ← hh]; exact Alike.putH
  | ovl d f x y es =>
    have hx := h x (by simp [I.reads]); have hy := h y (by simp [I.reads])
    simp [I.blind] at hh; simp only [evI, ← hx, ← hy, ← hh]; exact Alike.putO
  | bad d => exact Alike.fail
  | ldd d x n ag => have hx := h x (by simp [I.reads]); simp only [evI, ← hx]; exact Alike.putO
  | fad d x n ag => have hx := h x (by simp [I.reads]); simp only [evI, ← hx]; exact Alike.putO
  | mv d x => have hx := h x (by simp [I.reads]); simp only [evI, ← hx]; exact Alike.put
end Go.VS
/-
  VS, part 19: guarded groups laid out flat, as the model lays them.
-/
namespace Go.VS

structure X where
  i : I
  g : Option (Nat × Bool)
mutual
def J.flat (g : Option (Nat × Bool)) : J → List X
  | .op i => [⟨i, g⟩]
  | .sc isOr d c body x => J.flatL (some (c, !isOr)) body ++ [⟨.pick d (.t c) (if isOr then .k (.b true) else x) (if isOr then x else .k (.b false)), g⟩]
  | .re _ => []
def J.flatL (g : Option (Nat × Bool)) : List J → List X
  | [] => []
  | j :: r => j.flat g ++ J.flatL g r
end
def skipX (i : I) (s : St) : St := ⟨W i.wr .skp ++ s.env, s.heap, s.ok⟩
def evX (rec : Rec) (x : X) (s : St) : St :=
  match x.g with
  | none => evI rec x.i s
  | some (c, want) =>
    match envGet s.env c with
    | .d (.b b) => if b = want then evI rec x.i s else skipX x.i s
    | .skp => skipX x.i s
    | _ => s.fail
def evXs (rec : Rec) : List X → St → St
  | [], s => s
  | x :: r, s => evXs rec r (evX rec x s)
theorem evXs_append {rec : Rec} : ∀ (xs ys : List X) (s : St), evXs rec (xs ++ ys) s = evXs rec ys (evXs rec xs s)
  | [], _, _ => rfl
  | x :: xs, ys, s => by simp only [List.cons_append, evXs]; exact evXs_append xs ys _
theorem evX_ok {rec : Rec} {x : X} {s : St} (h : (evX rec x s).ok = true) : s.ok = true := by
  unfold evX at h
  split at h
  · exact evI_ok h
  · split at h
    · split at h
      · exact evI_ok h
      · exact h
    · exact h
    · simp at h
theorem evXs_ok {rec : Rec} : ∀ {xs : List X} {s : St}, (evXs rec xs s).ok = true → s.ok = true
  | [], _, h => h
  | _ :: _, _, h => evX_ok (evXs_ok (by simpa only [evXs] using h))

theorem envGet_W_ne {d : Option Nat} {v : V} {e : List (Nat × V)} {t : Nat} (h : t ∉ d.toList) : envGet (W d v ++ e) t = envGet e t := by
  cases d with
  | none => rfl
  | some d =>
    have : d ≠ t := fun h1 => h (by simp [h1])
    simp [W, envGet, this]
theorem envGet_W_eq {d : Option Nat} {v : V} {e : List (Nat × V)} {t : Nat} (h : t ∈ d.toList) : envGet (W d v ++ e) t = v := by
  cases d with
  | none => simp at h
  | some d =>
    have : t = d := by simpa using h
    simp [W, envGet, this]
theorem envGet_forget {e : List (Nat × V)} {t : Nat} : ∀ {ds : List Nat}, envGet (forgetEnv ds e) t = if t ∈ ds then .u else envGet e t
  | [] => by simp [forgetEnv]
  | d :: ds => by
    simp only [forgetEnv, envGet, envGet_forget (ds := ds), List.mem_cons]
    by_cases h : d = t
    · simp [h]
    · have h' : ¬ t = d := fun e => h e.symm
      simp [h, h']
/-- What an instruction writes. -/
theorem evI_writes {rec : Rec} {i : I} {s : St} (h : (evI rec i s).ok = true) : ∃ v, (evI rec i s).env = W i.wr v ++ s.env ∧ (i.quiet = true → (evI rec i s).heap = s.heap) := by
  obtain ⟨_, v, he, _, hh⟩ := evI_alike (rec := rec) (i := i) (s := s) (s' := s) (fun _ _ => rfl) (.inl rfl) h (evI_ok h)
  refine ⟨v, he, fun hq => ?_⟩
  rcases hh with h1 | h1
  · exact h1.1
  · rw [hq] at h1; simp at h1
theorem evX_writes {rec : Rec} {x : X} {s : St} (h : (evX rec x s).ok = true) : ∃ v, (evX rec x s).env = W x.i.wr v ++ s.env ∧ (x.i.quiet = true → (evX rec x s).heap = s.heap) := by
  cases x with
  | mk i g =>
    cases g with
    | none => exact evI_writes h
    | some p =>
      obtain ⟨c, want⟩ := p
      simp only [evX] at h ⊢
      generalize envGet s.env c = v at *
      cases v with
      | d y =>
        cases y with
        | b b =>
          simp only at h ⊢
          split at h
          · rename_i hw; rw [if_pos hw]; exact evI_writes h
          · rename_i hw; rw [if_neg hw]; exact ⟨.skp, rfl, fun _ => rfl⟩
        | _ => simp at h
      | skp => exact ⟨.skp, rfl, fun _ => rfl⟩
      | _ => simp at h

/-! ### Groups and what is laid flat agree -/
def J.forg : J → List Nat
  | .sc _ _ _ body _ => J.dstsL body
  | _ => []
def J.forgL : List J → List Nat
  | [] => []
  | j :: r => J.forgL r ++ j.forg
def A.slots : A → List Nat
  | .t n => [n]
  | .k _ => []
def noneIn (xs T : List Nat) : Bool := xs.all fun x => !T.contains x
def I.slots (i : I) : List Nat := i.reads.flatMap A.slots
mutual
/-- Nothing that a group forgets is read behind it, and guards stand. 'T': what has been forgotten; 'S': what has been written in this group; 'top': no guard. -/
def J.fok (top : Bool) (T S : List Nat) : J → Bool
  | .op i => noneIn i.slots T && (top || (match i with | .st .. | .stf .. | .newf .. => false | _ => true))
  | .sc _ d c body x => !T.contains c && !(J.dstsL body).contains c && J.fokL false T [] body && noneIn x.slots (J.forgL body ++ T) && (top || S.contains c) && d != c
  | .re i => top && noneIn i.slots T && i.quiet && (match i.wr with | some d => !T.contains d | none => false)
def J.fokL (top : Bool) (T S : List Nat) : List J → Bool
  | [] => true
  | j :: r => J.fok top T S j && J.fokL top (j.forg ++ T) (S ++ j.dsts) r
end

structure Ag (T : List Nat) (s s' : St) : Prop where
  heap : s.heap = s'.heap
  ok : s'.ok = true
  env : ∀ t, t ∉ T → envGet s.env t = envGet s'.env t
  low : ∀ t, envGet s.env t = .u ∨ envGet s.env t = envGet s'.env t
theorem noneIn_spec {xs T : List Nat} (h : noneIn xs T = true) {x : Nat} (hx : x ∈ xs) : x ∉ T := by
  simp only [noneIn, List.all_eq_true] at h
  simpa using h x hx
theorem Ag.get {T : List Nat} {s s' : St} (h : Ag T s s') {x : A} (hx : noneIn x.slots T = true) : s.get x = s'.get x := by
  cases x with
  | k y => rfl
  | t n => exact h.env n (noneIn_spec hx (by simp [A.slots]))
theorem Ag.reads {T : List Nat} {s s' : St} (h : Ag T s s') {i : I} (hi : noneIn i.slots T = true) : ∀ x ∈ i.reads, s.get x = s'.get x := by
  intro x hx
  refine h.get ?_
  simp only [noneIn, List.all_eq_true] at hi ⊢
  intro n hn
  exact hi n (by simp only [I.slots]; exact List.mem_flatMap.2 ⟨x, hx, hn⟩)
theorem Ag.op {T : List Nat} {s s' : St} (h : Ag T s s') {rec : Rec} {i : I} (hi : noneIn i.slots T = true) (hok : (evI rec i s).ok = true) : Ag T (evI rec i s) (evI rec i s') := by
  obtain ⟨h1, v, h2, h3, h4⟩ := evI_alike (rec := rec) (h.reads hi) (.inl h.heap) hok h.ok
  refine ⟨?_, h1, fun t ht => ?_, fun t => ?_⟩
  · rcases h4 with h4 | h4
    · rw [h4.1, h4.2]; exact h.heap
    · exact h4.2
  · rw [h2, h3]
    by_cases hw : t ∈ i.wr.toList
    · rw [envGet_W_eq hw, envGet_W_eq hw]
    · rw [envGet_W_ne hw, envGet_W_ne hw]; exact h.env t ht
  · rw [h2, h3]
    by_cases hw : t ∈ i.wr.toList
    · rw [envGet_W_eq hw, envGet_W_eq hw]; exact .inr rfl
    · rw [envGet_W_ne hw, envGet_W_ne hw]; exact h.low t

def Active (g : Option (Nat × Bool)) (s : St) : Prop :=
  match g with
  | none => True
  | some (c, want) => envGet s.env c = .d (.b want)
def Off (g : Option (Nat × Bool)) (s : St) : Prop :=
  match g with
  | none => False
  | some (c, want) => envGet s.env c = .d (.b (!want)) ∨ envGet s.env c = .skp
theorem evX_active {rec : Rec} {i : I} {g : Option (Nat × Bool)} {s : St} (h : Active g s) : evX rec ⟨i, g⟩ s = evI rec i s := by
  unfold evX
  cases g with
  | none => rfl
  | some p =>
    obtain ⟨c, want⟩ := p
    simp only [Active] at h
    simp [h]
theorem evX_off {rec : Rec} {i : I} {g : Option (Nat × Bool)} {s : St} (h : Off g s) : evX rec ⟨i, g⟩ s = skipX i s := by
  unfold evX
  cases g with
  | none => exact h.elim
  | some p =>
    obtain ⟨c, want⟩ := p
    simp only [Off] at h
    rcases h with h | h <;> simp [h]

/-- The slot of a guard is none of those. -/
def gFree (g : Option (Nat × Bool)) (ds : List Nat) : Prop := ∀ c want, g = some (c, want) → c ∉ ds
mutual
/-- What is laid flat writes its slots alone. -/
theorem flat_writes {rec : Rec} : ∀ {j : J} {g : Option (Nat × Bool)} {s : St}, (evXs rec (j.flat g) s).ok = true → ∀ t, t ∉ j.dsts → envGet (evXs rec (j.flat g) s).env t = envGet s.env t
  | .op i, g, s, h, t, ht => by
    simp only [J.flat, evXs, J.dsts] at *
    obtain ⟨v, he, _⟩ := evX_writes h
    rw [he, envGet_W_ne ht]
  | .re i, g, s, h, t, ht => by simp [J.flat, evXs]
  | .sc isOr d c body x, g, s, h, t, ht => by
    simp only [J.flat, evXs_append, J.dsts, List.mem_cons, not_or] at *
    have h1 := evXs_ok h
    simp only [evXs] at h ⊢
    obtain ⟨v, he, _⟩ := evX_writes h
    rw [he, envGet_W_ne (by simp [I.wr, I.dst]; exact ht.1)]
    exact flatL_writes h1 t ht.2
theorem flatL_writes {rec : Rec} : ∀ {js : List J} {g : Option (Nat × Bool)} {s : St}, (evXs rec (J.flatL g js) s).ok = true → ∀ t, t ∉ J.dstsL js → envGet (evXs rec (J.flatL g js) s).env t = envGet s.env t
  | [], g, s, h, t, ht => by simp [J.flatL, evXs]
  | j :: r, g, s, h, t, ht => by
    simp only [J.flatL, evXs_append, J.dstsL, List.mem_append, not_or] at *
    rw [flatL_writes h t ht.2, flat_writes (evXs_ok h) t ht.1]
end
theorem Active.mono {g : Option (Nat × Bool)} {s s' : St} (h : Active g s) (he : ∀ c want, g = some (c, want) → envGet s'.env c = envGet s.env c) : Active g s' := by
  cases g with
  | none => trivial
  | some p => simp only [Active] at *; rw [he p.1 p.2 rfl]; exact h
theorem Off.mono {g : Option (Nat × Bool)} {s s' : St} (h : Off g s) (he : ∀ c want, g = some (c, want) → envGet s'.env c = envGet s.env c) : Off g s' := by
  cases g with
  | none => exact h
  | some p => simp only [Off] at *; rw [he p.1 p.2 rfl]; exact h
theorem skipX_env {i : I} {s : St} (t : Nat) : envGet (skipX i s).env t = if t ∈ i.wr.toList then .skp else envGet s.env t := by
  simp only [skipX]
  split
  · rename_i h; exact envGet_W_eq h
  · rename_i h; exact envGet_W_ne h

/-- What has come to nothing: heap and state as before, its slots passed over. -/
structure Passed (ds : List Nat) (s s' : St) : Prop where
  heap : s'.heap = s.heap
  ok : s'.ok = true
  env : ∀ t, envGet s'.env t = if t ∈ ds then .skp else envGet s.env t
mutual
theorem flat_off {rec : Rec} : ∀ {j : J} {T S : List Nat} {g : Option (Nat × Bool)} {s : St}, J.fok false T S j = true → (∀ t ∈ S, envGet s.env t = .skp) → s.ok = true → gFree g j.dsts → Off g s →
    Passed j.dsts s (evXs rec (j.flat g) s)
  | .op i, T, S, g, s, hf, hS, hok, hg, ho => by
    simp only [J.flat, evXs, J.dsts]
    rw [evX_off ho]
    exact ⟨rfl, hok, fun t => skipX_env t⟩
  | .re i, T, S, g, s, hf, hS, hok, hg, ho => by simp [J.fok] at hf
  | .sc isOr d c body x, T, S, g, s, hf, hS, hok, hg, ho => by
    simp only [J.fok, Bool.and_eq_true, Bool.false_or, Bool.not_eq_true', List.contains_eq_mem, decide_eq_true_eq, decide_eq_false_iff_not, bne_iff_ne] at hf
    obtain ⟨⟨⟨⟨⟨h1, h2⟩, h3⟩, h4⟩, h5⟩, h6⟩ := hf
    have hb := flatL_off (rec := rec) (g := some (c, !isOr)) (s := s) h3 (by simp) hok (fun c' w he => by simp at he; rw [← he.1]; exact h2) (by simp only [Off]; exact .inr (hS c h5))
    simp only [J.flat, evXs_append, J.dsts]
    have ho' : Off g (evXs rec (J.flatL (some (c, !isOr)) body) s) := ho.mono fun c' w he => by
      have := hg c' w he
      simp only [J.dsts, List.mem_cons, not_or] at this
      rw [hb.env, if_neg this.2]
    simp only [evXs]
    rw [evX_off ho']
    refine ⟨hb.heap, hb.ok, fun t => ?_⟩
    rw [skipX_env, hb.env]
    simp only [I.wr, I.dst, Option.mem_toList, Option.some.injEq, List.mem_cons]
    by_cases htd : d = t
    · simp [htd]
    · have : ¬ t = d := fun e => htd e.symm
      simp [htd, this]
theorem flatL_off {rec : Rec} : ∀ {js : List J} {T S : List Nat} {g : Option (Nat × Bool)} {s : St}, J.fokL false T S js = true → (∀ t ∈ S, envGet s.env t = .skp) → s.ok = true → gFree g (J.dstsL js) → Off g s →
    Passed (J.dstsL js) s (evXs rec (J.flatL g js) s)
  | [], T, S, g, s, hf, hS, hok, hg, ho => by simp only [J.flatL, evXs, J.dstsL]; exact ⟨rfl, hok, fun t => by simp⟩
  | j :: r, T, S, g, s, hf, hS, hok, hg, ho => by
    simp only [J.fokL, Bool.and_eq_true] at hf
    have hj := flat_off (rec := rec) hf.1 hS hok (fun c w he => by have := hg c w he; simp only [J.dstsL, List.mem_append, not_or] at this; exact this.1) ho
    have hr := flatL_off (rec := rec) (g := g) (s := evXs rec (j.flat g) s) hf.2 (fun t ht => by
        rw [hj.env]
        rcases List.mem_append.1 ht with h1 | h1
        · rw [hS t h1]; simp
        · rw [if_pos h1]) hj.ok (fun c w he => by have := hg c w he; simp only [J.dstsL, List.mem_append, not_or] at this; exact this.2)
      (ho.mono fun c w he => by have := hg c w he; simp only [J.dstsL, List.mem_append, not_or] at this; rw [hj.env, if_neg this.1])
    simp only [J.flatL, evXs_append, J.dstsL]
    refine ⟨hr.heap.trans hj.heap, hr.ok, fun t => ?_⟩
    rw [hr.env, hj.env]
    by_cases h1 : t ∈ J.dstsL r <;> by_cases h2 : t ∈ j.dsts <;> simp [h1, h2]
end

mutual
theorem flat_ag {rec : Rec} : ∀ {j : J} {top : Bool} {T S : List Nat} {g : Option (Nat × Bool)} {s s' : St}, J.fok top T S j = true → Ag T s s' → gFree g j.dsts → Active g s' → (evJ rec j s).ok = true →
    Ag (j.forg ++ T) (evJ rec j s) (evXs rec (j.flat g) s')
  | .op i, top, T, S, g, s, s', hf, ha, hg, hact, hok => by
    simp only [J.fok, Bool.and_eq_true] at hf
    simp only [J.flat, evXs, evJ, J.forg, List.nil_append] at *
    rw [evX_active hact]
    exact ha.op hf.1 hok
  | .re i, top, T, S, g, s, s', hf, ha, hg, hact, hok => by
    simp only [J.flat, evXs, evJ, J.forg, List.nil_append] at *
    unfold again at *
    split at hok
    · split at hok
      · rename_i h; rw [if_pos h]; exact ha
      · simp at hok
    · simp at hok
  | .sc isOr d c body x, top, T, S, g, s, s', hf, ha, hg, hact, hok => by
    simp only [J.fok, Bool.and_eq_true, Bool.not_eq_true', List.contains_eq_mem, decide_eq_true_eq, decide_eq_false_iff_not, bne_iff_ne] at hf
    obtain ⟨⟨⟨⟨⟨h1, h2⟩, h3⟩, h4⟩, h5⟩, h6⟩ := hf
    have hc : s.get (.t c) = envGet s'.env c := ha.env c h1
    have hgb : gFree (some (c, !isOr)) (J.dstsL body) := fun c' w he => by simp at he; rw [← he.1]; exact h2
    simp only [J.flat, evXs_append, evJ, J.forg] at *
    split at hok
    · rename_i gv hgv
      rw [hc] at hgv
      split at hok
      · -- passed over
        rename_i heq
        subst heq
        rw [if_pos rfl]
        have hb := flatL_off (rec := rec) (g := some (c, !gv)) (s := s') h3 (by simp) ha.ok hgb (by simp only [Off]; exact .inl (by simpa using hgv))
        have hact' : Active g (evXs rec (J.flatL (some (c, !gv)) body) s') := hact.mono fun c' w he => by
          have := hg c' w he
          simp only [J.dsts, List.mem_cons, not_or] at this
          rw [hb.env, if_neg this.2]
        have hcv : St.get (evXs rec (J.flatL (some (c, !gv)) body) s') (.t c) = .d (.b gv) := by
          show envGet _ c = _
          rw [hb.env, if_neg h2, hgv]
        simp only [evXs]
        rw [evX_active hact']
        have hp : evI rec (.pick d (.t c) (if gv then .k (.b true) else x) (if gv then x else .k (.b false))) (evXs rec (J.flatL (some (c, !gv)) body) s') =
            (evXs rec (J.flatL (some (c, !gv)) body) s').put d (.d (.b gv)) := by
          simp only [evI, hcv]
          cases gv <;> simp [St.get]
        rw [hp]
        refine ⟨by rw [St.put]; exact ha.heap.trans hb.heap.symm, hb.ok, fun t ht => ?_, fun t => ?_⟩
        · simp only [List.mem_append, not_or] at ht
          simp only [St.put, envGet]
          by_cases htd : d = t
          · simp [htd]
          · rw [if_neg htd, if_neg htd, envGet_forget, if_neg ht.1, hb.env, if_neg ht.1]
            exact ha.env t ht.2
        · simp only [St.put, envGet]
          by_cases htd : d = t
          · simp [htd]
          · rw [if_neg htd, if_neg htd, envGet_forget, hb.env]
            by_cases hm : t ∈ J.dstsL body
            · rw [if_pos hm]; exact .inl rfl
            · rw [if_neg hm, if_neg hm]; exact ha.low t
      · -- carried out
        rename_i hne
        rw [if_neg hne]
        have hne' : gv = !isOr := by cases gv <;> cases isOr <;> simp_all
        subst hne'
        split at hok
        · rename_i y hy
          have hb := flatL_ag (rec := rec) (g := some (c, !isOr)) (s := s) (s' := s') h3 ha hgb (by simp only [Active]; exact hgv) hok
          have hw := flatL_writes (rec := rec) hb.ok
          have hact' : Active g (evXs rec (J.flatL (some (c, !isOr)) body) s') := hact.mono fun c' w he => by
            have := hg c' w he
            simp only [J.dsts, List.mem_cons, not_or] at this
            rw [hw c' this.2]
          have hcv : St.get (evXs rec (J.flatL (some (c, !isOr)) body) s') (.t c) = .d (.b (!isOr)) := by
            show envGet _ c = _
            rw [hw c h2, hgv]
          have hxv : St.get (evXs rec (J.flatL (some (c, !isOr)) body) s') x = .d (.b y) := by rw [← hb.get h4]; exact hy
          simp only [evXs]
          rw [evX_active hact']
          have hp : evI rec (.pick d (.t c) (if isOr then .k (.b true) else x) (if isOr then x else .k (.b false))) (evXs rec (J.flatL (some (c, !isOr)) body) s') =
              (evXs rec (J.flatL (some (c, !isOr)) body) s').put d (.d (.b y)) := by
            have key : ∀ z : St, z.get (.t c) = .d (.b (!isOr)) → z.get x = .d (.b y) → evI rec (.pick d (.t c) (if isOr then .k (.b true) else x) (if isOr then x else .k (.b false))) z = z.put d (.d (.b y)) := by
              intro z h1 h2
              simp only [evI, h1]
              cases isOr <;> simp [h2]
            exact key _ hcv hxv
          rw [hp]
          refine ⟨hb.heap, hb.ok, fun t ht => ?_, fun t => ?_⟩
          · simp only [List.mem_append, not_or] at ht
            simp only [St.put, envGet]
            by_cases htd : d = t
            · simp [htd]
            · rw [if_neg htd, if_neg htd, envGet_forget, if_neg ht.1, hw t ht.1]
              exact ha.env t ht.2
          · simp only [St.put, envGet]
            by_cases htd : d = t
            · simp [htd]
            · rw [if_neg htd, if_neg htd, envGet_forget]
              by_cases hm : t ∈ J.dstsL body
              · rw [if_pos hm]; exact .inl rfl
              · rw [if_neg hm, hw t hm]; exact ha.low t
        · simp at hok
    · simp at hok
theorem flatL_ag {rec : Rec} : ∀ {js : List J} {top : Bool} {T S : List Nat} {g : Option (Nat × Bool)} {s s' : St}, J.fokL top T S js = true → Ag T s s' → gFree g (J.dstsL js) → Active g s' → (evJs rec js s).ok = true →
    Ag (J.forgL js ++ T) (evJs rec js s) (evXs rec (J.flatL g js) s')
  | [], top, T, S, g, s, s', hf, ha, hg, hact, hok => by simpa only [J.flatL, evXs, evJs, J.forgL, List.nil_append] using ha
  | j :: r, top, T, S, g, s, s', hf, ha, hg, hact, hok => by
    simp only [J.fokL, Bool.and_eq_true] at hf
    simp only [evJs] at hok
    have hj := flat_ag (rec := rec) hf.1 ha (fun c w he => by have := hg c w he; simp only [J.dstsL, List.mem_append, not_or] at this; exact this.1) hact (evJs_ok hok)
    have hr := flatL_ag (rec := rec) (g := g) hf.2 hj (fun c w he => by have := hg c w he; simp only [J.dstsL, List.mem_append, not_or] at this; exact this.2)
      (hact.mono fun c w he => by have := hg c w he; simp only [J.dstsL, List.mem_append, not_or] at this; exact flat_writes hj.ok c this.1) hok
    simp only [J.flatL, evXs_append, evJs, J.forgL, List.append_assoc]
    exact hr
end
end Go.VS
/-
  VS, part 20: guarded operations; regions in the order of the text.
-/
namespace Go.VS
section
variable {P : Program} {φ : Nat → Nat}
variable {nt m : Nat} {s : St} {g : Gh} {a : Act} {w : World} {K : Act → World → Prop} {Q : Exit → Act → World → Prop} {o : Oper} {ops : Array Oper}

theorem chkI_dst {i : I} (h : chkI P φ nt o i = true) : o.dst = i.dst ∧ ∀ d, i.dst = some d → d < nt := by
  have key : ∀ {d : Nat} {b : Bool}, (dstIs nt o d && b) = true → o.dst = some d ∧ ∀ k, some d = some k → k < nt := by
    intro d b h
    simp only [Bool.and_eq_true] at h
    obtain ⟨h1, h2⟩ := dstIs_spec h.1
    exact ⟨h1, fun k hk => by simp at hk; omega⟩
  have key2 : ∀ {d : Option Nat} {b : Bool}, (dstMay nt o d && b) = true → o.dst = d ∧ ∀ k, d = some k → k < nt := by
    intro d b h
    simp only [Bool.and_eq_true] at h
    exact dstMay_spec h.1
  cases i with
  | st x y n fz =>
    simp only [chkI] at h
    split at h
    · simp only [Bool.and_eq_true, beq_iff_eq] at h
      exact ⟨h.1.1.1.1.1, fun d hd => by simp [I.dst] at hd⟩
    · simp at h
  | call d f xs => exact key2 h
  | callv d x xs => exact key2 h
  | callk d f xs => exact key2 h
  | callr d f xs => exact key2 h
  | callvr d x xs => exact key2 h
  | clr d x es z => exact key2 h
  | bad d => simp only [chkI] at h; exact dstMay_spec h
  | copy d x y es => exact key2 h
  | mput m k v ks =>
    simp only [chkI, Bool.and_eq_true, beq_iff_eq] at h
    exact ⟨h.1, fun d hd => by simp [I.dst] at hd⟩
  | mdel m k ks =>
    simp only [chkI, Bool.and_eq_true, beq_iff_eq] at h
    exact ⟨h.1, fun d hd => by simp [I.dst] at hd⟩
  | _ => first | exact key h | simp [chkI] at h

def gOk (ops : Array Oper) (o : Oper) (x : X) : Bool :=
  match x.g, o.guard with
  | none, none => true
  | some (c, want), some (j, w') => want == w' && ((ops[j]?).bind (·.dst)) == some c && (match x.i with | .st .. | .stf .. | .newf .. => false | _ => true)
  | _, _ => false
theorem skipX_rel (hs : SRel φ nt m s g a w) {i : I} (hwr : i.wr = i.dst) (hd : o.dst = i.dst) (hlt : ∀ d, i.dst = some d → d < nt) : SRel φ nt m (skipX i s) g (a.put o.dst undef) w := by
  rw [hd]
  unfold skipX
  rw [hwr]
  cases h : i.dst with
  | none => exact hs
  | some d => exact hs.putV (hlt d h) (by simp [relV])
theorem frame_refl (m : Nat) (h : List O) (g : Gh) (w : World) : Frame m h g w h g w := Frame.refl m h g w
/-- A guarded operation: what it comes to when it is wanted and when it is not. -/
theorem sim_guard (hs : SRel φ nt m s g a w) {x : X} {rec : Rec} (hg : gOk ops o x = true) (hd : o.dst = x.i.dst) (hlt : ∀ d, x.i.dst = some d → d < nt) (hok : (evX rec x s).ok = true)
    (hop : (evX rec x s) = evI rec x.i s → (evI rec x.i s).ok = true → o.wp P a w K Q)
    (hskip : evX rec x s = skipX x.i s → SRel φ nt m (skipX x.i s) g (a.put o.dst undef) w → K (a.put o.dst undef) w) :
    if Region.wanted o (yielded ops a.tmps) then o.wp P a w K Q else K (a.put o.dst undef) w := by
  unfold gOk at hg
  unfold evX at hok hop hskip
  split at hg
  · rename_i h1 h2
    simp only [h1] at hok hop
    rw [if_pos (by simp [Region.wanted, h2])]
    exact hop trivial hok
  · rename_i c want j w' h1 h2
    simp only [Bool.and_eq_true, beq_iff_eq] at hg
    obtain ⟨⟨rfl, hj⟩, hk⟩ := hg
    have hwr : x.i.wr = x.i.dst := by
      cases hi : x.i <;> simp_all [I.wr]
    simp only [h1] at hok hop hskip
    have hc := hs.env c
    have hwant : Region.wanted o (yielded ops a.tmps) = (yielded ops a.tmps j == some want) := by simp [Region.wanted, h2]
    have hyield : yielded ops a.tmps j = match a.tmps[c]? with | some (.bool b) => some b | _ => none := by simp only [yielded, hj, Option.bind_some]; rfl
    rw [hwant, hyield]
    cases hv : envGet s.env c with
    | d y =>
      cases y with
      | b b =>
        rw [hv] at hc
        have hb := relD_bool (by simpa only [relV] using hc)
        have hsome : a.tmps[c]? = some (.bool b) := by
          cases hq : a.tmps[c]? with
          | none => simp [Array.getD_eq_getD_getElem?, hq, undef] at hb
          | some v => simp [Array.getD_eq_getD_getElem?, hq] at hb; rw [hb]
        simp only [hsome]
        simp only [hv] at hok hop hskip
        by_cases hbw : b = want
        · subst hbw
          simp only [if_true] at hok hop
          simp only [beq_self_eq_true, if_true]
          exact hop trivial hok
        · have : (some b == some want) = false := by simpa using hbw
          simp only [this, Bool.false_eq_true, if_false]
          simp only [hbw, if_false] at hskip
          exact hskip trivial (skipX_rel hs hwr hd hlt)
      | _ => simp [hv] at hok
    | skp =>
      rw [hv] at hc
      have hb : a.tmps.getD c undef = undef := by simpa only [relV] using hc
      have hnone : (match a.tmps[c]? with | some (.bool b) => some b | _ => none) = (none : Option Bool) := by
        cases hq : a.tmps[c]? with
        | none => rfl
        | some v =>
          simp [Array.getD_eq_getD_getElem?, hq] at hb
          rw [hb]; rfl
      simp only [hnone]
      simp only [hv] at hskip
      exact hskip trivial (skipX_rel hs hwr hd hlt)
    | _ => simp [hv] at hok
  · simp at hg

/-! ### Regions in the order of the text -/
variable (P φ nt)
def chkXs (ops : Array Oper) : List Oper → List X → Bool
  | [], [] => true
  | o :: os, x :: xs => chkI P φ nt o x.i && gOk ops o x && chkXs ops os xs
  | _, _ => false
variable {P φ nt}
theorem wpList_cons {o : Oper} {rest : List Oper} (h : if Region.wanted o (yielded ops a.tmps) then o.wp P a w (wpList P ops Q rest) Q else wpList P ops Q rest (a.put o.dst undef) w) : wpList P ops Q (o :: rest) a w := by
  unfold wpList
  split
  · rename_i hw; rw [if_pos hw] at h; exact .inl h
  · rename_i hw; rw [if_neg hw] at h; exact h
theorem sim_list {rec : Rec} (hq : QuietCall P φ rec) : ∀ {l : List Oper} {xs : List X} {s : St} {g : Gh} {a : Act} {w : World}, chkXs P φ nt ops l xs = true → SRel φ nt m s g a w → (evXs rec xs s).ok = true →
    (∀ g' a' w', SRel φ nt m (evXs rec xs s) g' a' w' → Frame m s.heap g w (evXs rec xs s).heap g' w' → Q .normal a' w') → wpList P ops Q l a w
  | [], [], s, g, a, w, _, hs, _, hQ => wpList_nil (hQ g a w hs (Frame.refl _ _ _ _))
  | o :: l, x :: xs, s, g, a, w, hc, hs, hok, hQ => by
    simp only [chkXs, Bool.and_eq_true] at hc
    obtain ⟨⟨h1, h2⟩, h3⟩ := hc
    simp only [evXs] at hok hQ
    have hd := chkI_dst h1
    have next : ∀ g' a' w', SRel φ nt m (evX rec x s) g' a' w' → Frame m s.heap g w (evX rec x s).heap g' w' → wpList P ops Q l a' w' := fun g' a' w' hs' hf =>
      sim_list hq h3 hs' hok fun g2 a2 w2 hs2 hf2 => hQ g2 a2 w2 hs2 (hf.trans hf2)
    refine wpList_cons (sim_guard hs h2 hd.1 hd.2 (evXs_ok hok) (fun he hok' => sim_I hq hs h1 hok' fun g' v' w' hs' hf => ?_) (fun he hs' => ?_))
    · exact next g' _ w' (by rw [he]; exact hs') (by rw [he]; exact hf)
    · exact next g _ w (by rw [he]; exact hs') (by rw [he]; exact Frame.refl _ _ _ _)
  | [], _ :: _, _, _, _, _, hc, _, _, _ => by simp [chkXs] at hc
  | _ :: _, [], _, _, _, _, hc, _, _, _ => by simp [chkXs] at hc

/-- A state that knows less. -/
theorem SRel.low {s' : St} (hs : SRel φ nt m s' g a w) {T : List Nat} (h : Ag T s s') : SRel φ nt m s g a w where
  env k := by
    rcases h.low k with h1 | h1
    · rw [h1]; simp [relV]
    · rw [h1, h.heap]; exact hs.env k
  heap := by rw [h.heap]; exact hs.heap
  size := hs.size
  defers := hs.defers
  len := by rw [h.heap]; exact hs.len
theorem Ag.refl (h : s.ok = true) : Ag [] s s := ⟨rfl, h, fun _ _ => rfl, fun _ => .inr rfl⟩
/-- What is to be shown behind a piece of code. -/
def Post (φ : Nat → Nat) (nt m : Nat) (s : St) (g : Gh) (w : World) (s' : St) (R : Act → World → Prop) : Prop :=
  ∀ g' a' w', SRel φ nt m s' g' a' w' → Frame m s.heap g w s'.heap g' w' → R a' w'
theorem sim_reg {rec : Rec} (hq : QuietCall P φ rec) {js : List J} (hs : SRel φ nt m s g a w) (hf : J.fokL true [] [] js = true) (hc : chkXs P φ nt ops ops.toList (J.flatL none js) = true)
    (hok : (evJs rec js s).ok = true) {id : Nat} (hQ : Post φ nt m s g w (evJs rec js s) (Q .normal)) : (Code.region id ops false).wp P Q a w := by
  have hag := flatL_ag (rec := rec) (g := none) hf (Ag.refl (evJs_ok hok)) (fun _ _ h => by simp at h) trivial hok
  exact wp_region_list (sim_list hq hc hs hag.ok fun g' a' w' hs' hfr => hQ g' a' w' (hs'.low hag) (by rw [hag.heap]; exact hfr))
end
end Go.VS
/-
  VS, part 21: regions in any order. First: which operation stands before which; the state that a set of operations leaves.
-/
namespace Go.VS

/-! ### Before -/
def maskOf (acc dp : List Nat) : Nat := dp.foldl (fun m r => m ||| (2 ^ r ||| acc.getD r 0)) 0
def masksGo : List Nat → List (List Nat) → List Nat
  | acc, [] => acc
  | acc, dp :: r => masksGo (acc ++ [if dp.all (· < acc.length) then maskOf acc dp else 0]) r
def masks (ds : List (List Nat)) : List Nat := masksGo [] ds
theorem foldl_mask {acc : List Nat} {q : Nat} : ∀ {dp : List Nat} {m : Nat}, (dp.foldl (fun m r => m ||| (2 ^ r ||| acc.getD r 0)) m).testBit q = true → m.testBit q = true ∨ ∃ r ∈ dp, q = r ∨ (acc.getD r 0).testBit q = true
  | [], m, h => .inl h
  | r :: dp, m, h => by
    rcases foldl_mask (dp := dp) h with h | ⟨r', h1, h2⟩
    · rw [Nat.testBit_or, Nat.testBit_or, Nat.testBit_two_pow] at h
      simp only [Bool.or_eq_true, decide_eq_true_eq] at h
      rcases h with h | h | h
      · exact .inl h
      · exact .inr ⟨r, by simp, .inl h.symm⟩
      · exact .inr ⟨r, by simp, .inr h⟩
    · exact .inr ⟨r', by simp [h1], h2⟩
def MaskOk (D : List (List Nat)) (acc : List Nat) : Prop :=
  ∀ p q, p < acc.length → (acc.getD p 0).testBit q = true → ∃ r ∈ D.getD p [], r < p ∧ (q = r ∨ (acc.getD r 0).testBit q = true)
theorem getD_append_lt {α : Type} {l : List α} {x d : α} {p : Nat} (h : p < l.length) : (l ++ [x]).getD p d = l.getD p d := by
  simp [List.getD, List.getElem?_append_left h]
theorem getD_append_eq {α : Type} {l : List α} {x d : α} : (l ++ [x]).getD l.length d = x := by
  simp [List.getD]
theorem masksGo_ok {D : List (List Nat)} : ∀ {ds : List (List Nat)} {acc : List Nat}, (∀ k, ds[k]? = D[acc.length + k]?) → MaskOk D acc → MaskOk D (masksGo acc ds) ∧ (masksGo acc ds).length = acc.length + ds.length
  | [], acc, _, h => ⟨h, by simp [masksGo]⟩
  | dp :: ds, acc, hd, h => by
    have h0 : D.getD acc.length [] = dp := by have := hd 0; simp at this; simp [List.getD, ← this]
    have key : MaskOk D (acc ++ [if dp.all (· < acc.length) then maskOf acc dp else 0]) := by
      intro p q hp hq
      by_cases hlt : p < acc.length
      · rw [getD_append_lt hlt] at hq
        obtain ⟨r, h1, h2, h3⟩ := h p q hlt hq
        exact ⟨r, h1, h2, by rw [getD_append_lt (by omega)]; exact h3⟩
      · have hp' : p = acc.length := by simp at hp; omega
        subst hp'
        rw [getD_append_eq] at hq
        split at hq
        · rename_i hall
          rcases foldl_mask hq with h1 | ⟨r, h1, h2⟩
          · simp at h1
          · have hr : r < acc.length := by simpa using List.all_eq_true.1 hall r h1
            exact ⟨r, by rw [h0]; exact h1, hr, by rw [getD_append_lt hr]; exact h2⟩
        · simp at hq
    have := masksGo_ok (ds := ds) (fun k => by have := hd (k + 1); simp at this ⊢; rw [this]; congr 1; omega) key
    refine ⟨this.1, ?_⟩
    rw [masksGo, this.2]
    simp
    omega
/-- 'p' stands before 'q'. -/
def bef (ms : List Nat) (p q : Nat) : Bool := (ms.getD q 0).testBit p
theorem masks_ok (D : List (List Nat)) : MaskOk D (masks D) := (masksGo_ok (D := D) (ds := D) (acc := []) (by simp) (fun p q hp => by simp at hp)).1
theorem masks_length (D : List (List Nat)) : (masks D).length = D.length := by
  have := (masksGo_ok (D := D) (ds := D) (acc := []) (by simp) (fun p q hp => by simp at hp)).2
  simpa [masks] using this
theorem bef_step {D : List (List Nat)} {p q : Nat} (h : bef (masks D) q p = true) : ∃ r ∈ D.getD p [], r < p ∧ (q = r ∨ bef (masks D) q r = true) := by
  by_cases hp : p < (masks D).length
  · exact masks_ok D p q hp h
  · have : (masks D).getD p 0 = 0 := by simp [List.getD, List.getElem?_eq_none (Nat.le_of_not_lt hp)]
    unfold bef at h
    rw [this] at h
    simp at h
theorem bef_lt {D : List (List Nat)} : ∀ {p q : Nat}, bef (masks D) q p = true → q < p := by
  intro p
  induction p using Nat.strongRecOn with
  | _ p ih =>
    intro q h
    obtain ⟨r, _, h2, h3⟩ := bef_step h
    rcases h3 with h3 | h3
    · omega
    · have := ih r h2 h3; omega
/-- What stands before is in each set that is closed. -/
theorem bef_mem {D : List (List Nat)} {E : List Nat} (hE : ∀ p ∈ E, ∀ r ∈ D.getD p [], r ∈ E) : ∀ {p q : Nat}, (∀ r ∈ D.getD p [], r ∈ E) → bef (masks D) q p = true → q ∈ E := by
  intro p
  induction p using Nat.strongRecOn with
  | _ p ih =>
    intro q hp h
    obtain ⟨r, h1, h2, h3⟩ := bef_step h
    have hr := hp r h1
    rcases h3 with h3 | h3
    · rw [h3]; exact hr
    · exact ih r h2 (hE r hr) h3

/-! ### The slots that a set of operations leaves -/
section
variable (wr : Nat → Option Nat) (val : Nat → V) (e0 : List (Nat × V))
def envL (E : List Nat) : List (Nat × V) := E.flatMap (fun p => W (wr p) (val p)) ++ e0
variable {wr val e0}
theorem envL_none {t : Nat} : ∀ {E : List Nat}, (∀ p ∈ E, wr p ≠ some t) → envGet (envL wr val e0 E) t = envGet e0 t
  | [], _ => rfl
  | p :: E, h => by
    have hp : t ∉ (wr p).toList := by
      intro hm
      cases hw : wr p with
      | none => rw [hw] at hm; simp at hm
      | some d => rw [hw] at hm; simp at hm; exact h p (by simp) (by rw [hw, hm])
    have := envL_none (E := E) (fun q hq => h q (by simp [hq]))
    simp only [envL, List.flatMap_cons, List.append_assoc] at this ⊢
    rw [envGet_W_ne hp]
    exact this
theorem envL_some {t p : Nat} (hp : wr p = some t) : ∀ {E : List Nat}, p ∈ E → (∀ q ∈ E, wr q = some t → q = p) → envGet (envL wr val e0 E) t = val p
  | [], h, _ => by simp at h
  | q :: E, h, hu => by
    simp only [envL, List.flatMap_cons, List.append_assoc]
    by_cases hq : wr q = some t
    · have : q = p := hu q (by simp) hq
      subst this
      exact envGet_W_eq (by rw [hq]; simp)
    · have hq' : t ∉ (wr q).toList := by
        intro hm
        cases hw : wr q with
        | none => rw [hw] at hm; simp at hm
        | some d => rw [hw] at hm; simp at hm; exact hq (by rw [hw, hm])
      rw [envGet_W_ne hq']
      have hpE : p ∈ E := by
        rcases List.mem_cons.1 h with h1 | h1
        · subst h1; exact absurd hp hq
        · exact h1
      exact envL_some hp hpE (fun q hq => hu q (by simp [hq]))
/-- Two sets agree on a slot if they hold the same writers of it. -/
theorem envL_agree {n t : Nat} {E E' : List Nat} (hu : ∀ p q, p < n → q < n → wr p = some t → wr q = some t → p = q) (hE : ∀ p ∈ E, p < n) (hE' : ∀ p ∈ E', p < n)
    (h : ∀ p, p < n → wr p = some t → (p ∈ E ↔ p ∈ E')) : envGet (envL wr val e0 E) t = envGet (envL wr val e0 E') t := by
  by_cases hex : ∃ p, p ∈ E ∧ wr p = some t
  · obtain ⟨p, hp, hw⟩ := hex
    have hp' := (h p (hE p hp) hw).1 hp
    rw [envL_some hw hp (fun q hq hwq => hu q p (hE q hq) (hE p hp) hwq hw), envL_some hw hp' (fun q hq hwq => hu q p (hE' q hq) (hE p hp) hwq hw)]
  · rw [envL_none (fun p hp hw => hex ⟨p, hp, hw⟩), envL_none (fun p hp hw => hex ⟨p, (h p (hE' p hp) hw).2 hp, hw⟩)]
end

/-- The last change of the heap in a set. -/
def topE (ef : Nat → Bool) : List Nat → Nat
  | [] => 0
  | p :: E => if ef p then max (p + 1) (topE ef E) else topE ef E
theorem topE_le {ef : Nat → Bool} {k : Nat} : ∀ {E : List Nat}, (∀ p ∈ E, ef p = true → p < k) → topE ef E ≤ k
  | [], _ => by simp [topE]
  | p :: E, h => by
    have := topE_le (E := E) (fun q hq => h q (by simp [hq]))
    simp only [topE]
    split
    · rename_i hp; have := h p (by simp) hp; omega
    · exact this
theorem topE_ge {ef : Nat → Bool} {p : Nat} (he : ef p = true) : ∀ {E : List Nat}, p ∈ E → p + 1 ≤ topE ef E
  | [], h => by simp at h
  | q :: E, h => by
    simp only [topE]
    rcases List.mem_cons.1 h with h1 | h1
    · subst h1; rw [if_pos he]; omega
    · have := topE_ge he h1
      split <;> omega
theorem topE_cases {ef : Nat → Bool} : ∀ (E : List Nat), topE ef E = 0 ∨ ∃ p ∈ E, ef p = true ∧ topE ef E = p + 1
  | [] => .inl rfl
  | p :: E => by
    simp only [topE]
    have ih := topE_cases (ef := ef) E
    split
    · rename_i hp
      rcases ih with h | ⟨q, h1, h2, h3⟩
      · exact .inr ⟨p, by simp, hp, by omega⟩
      · by_cases hlt : q ≤ p
        · exact .inr ⟨p, by simp, hp, by omega⟩
        · exact .inr ⟨q, by simp [h1], h2, by omega⟩
    · rcases ih with h | ⟨q, h1, h2, h3⟩
      · exact .inl h
      · exact .inr ⟨q, by simp [h1], h2, h3⟩
end Go.VS
/-
  VS, part 22: the run in the order that is written down; what each operation finds when it comes in another order.
-/
namespace Go.VS

def X.slots (x : X) : List Nat := x.i.slots ++ (match x.g with | some (c, _) => [c] | none => [])
/-- The state before place 'p'. -/
def runTo (rec : Rec) (xs : List X) (s0 : St) (p : Nat) : St := evXs rec (xs.take p) s0
theorem runTo_succ {rec : Rec} {xs : List X} {s0 : St} {p : Nat} {x : X} (h : xs[p]? = some x) : runTo rec xs s0 (p + 1) = evX rec x (runTo rec xs s0 p) := by
  unfold runTo
  rw [List.take_add_one, h]
  simp [evXs_append, evXs]
theorem runTo_all {rec : Rec} {xs : List X} {s0 : St} : runTo rec xs s0 xs.length = evXs rec xs s0 := by simp [runTo]
theorem runTo_ok {rec : Rec} {xs : List X} {s0 : St} (h : (evXs rec xs s0).ok = true) (p : Nat) : (runTo rec xs s0 p).ok = true := by
  have : evXs rec xs s0 = evXs rec (xs.drop p) (evXs rec (xs.take p) s0) := by rw [← evXs_append, List.take_append_drop]
  rw [this] at h
  exact evXs_ok h

/-- The same for guarded operations. -/
theorem evX_alike {rec : Rec} {x : X} {s s' : St} (h : ∀ t ∈ x.slots, envGet s.env t = envGet s'.env t) (hh : s.heap = s'.heap ∨ x.i.blind = true) : Alike x.i.quiet x.i.wr s s' (evX rec x s) (evX rec x s') := by
  have hr : ∀ y ∈ x.i.reads, s.get y = s'.get y := by
    intro y hy
    cases y with
    | k z => rfl
    | t n => exact h n (by simp only [X.slots, I.slots]; exact List.mem_append_left _ (List.mem_flatMap.2 ⟨_, hy, by simp [A.slots]⟩))
  cases x with
  | mk i g =>
    cases g with
    | none => exact evI_alike hr hh
    | some p =>
      obtain ⟨c, want⟩ := p
      have hc := h c (by simp [X.slots])
      simp only [evX, ← hc]
      generalize envGet s.env c = v
      cases v with
      | d y =>
        cases y with
        | b b =>
          simp only
          split
          · exact evI_alike hr hh
          · intro h1 h2; exact ⟨h2, .skp, rfl, rfl, .inl ⟨rfl, rfl⟩⟩
        | _ => exact Alike.fail
      | skp => intro h1 h2; exact ⟨h2, .skp, rfl, rfl, .inl ⟨rfl, rfl⟩⟩
      | _ => exact Alike.fail

/-- What is to be found again at another place: the instruction writes the same there. -/
def Again (rec : Rec) (s : St) (i : I) : Prop := ∃ d, i.wr = some d ∧ (evI rec i s).ok = true ∧ envGet (evI rec i s).env d = envGet s.env d

section
variable {rec : Rec} {xs : List X} {s0 : St} {D : List (List Nat)} {R : List (Nat × I)}

/-- What a pair of operations must fulfil: 'p' is written down before 'q'. -/
structure PairOk (D : List (List Nat)) (R : List (Nat × I)) (n : Nat) (xs : List X) (p q : Nat) (x y : X) : Prop where
  uniq : ∀ t, x.i.wr = some t → y.i.wr ≠ some t
  rw : bef (masks D) p q = false → (∀ t, x.i.wr = some t → t ∉ y.slots) ∧ (∀ t, y.i.wr = some t → t ∉ x.slots)
  eff : bef (masks D) p q = false → x.i.quiet = true ∨ y.i.quiet = true
  left : bef (masks D) p q = false → x.i.quiet = false → y.i.blind = true
  right : bef (masks D) p q = false → y.i.quiet = false → x.i.blind = true ∨ (x.g = none ∧ (q + 1, x.i) ∈ R ∧
    ∀ r z t, xs[r]? = some z → z.i.wr = some t → t ∈ x.slots → bef (masks D) r p = true ∨ q < r)

noncomputable def valOf (rec : Rec) (xs : List X) (s0 : St) (p : Nat) : V :=
  match xs[p]? with
  | some x => match x.i.wr with
    | some d => envGet (runTo rec xs s0 (p + 1)).env d
    | none => .u
  | none => .u
def wrOf (xs : List X) (p : Nat) : Option Nat := (xs[p]?).bind (·.i.wr)
def effOf (xs : List X) (p : Nat) : Bool := ((xs[p]?).map (!·.i.quiet)).getD false
noncomputable def sigma (rec : Rec) (xs : List X) (s0 : St) (E : List Nat) : St := ⟨envL (wrOf xs) (valOf rec xs s0) s0.env E, (runTo rec xs s0 (topE (effOf xs) E)).heap, true⟩

theorem W_same {d : Option Nat} {v v' : V} (h : ∀ t, d = some t → v = v') : W d v = W d v' := by
  cases d with
  | none => rfl
  | some t => rw [h t rfl]
theorem runTo_env (hok : (evXs rec xs s0).ok = true) : ∀ p, p ≤ xs.length → (runTo rec xs s0 p).env = envL (wrOf xs) (valOf rec xs s0) s0.env (List.range p).reverse
  | 0, _ => by simp [runTo, evXs, envL]
  | p + 1, hp => by
    have hx : xs[p]? = some xs[p] := by simp
    have h1 := runTo_succ (rec := rec) (s0 := s0) hx
    have hok' := runTo_ok hok (p + 1)
    rw [h1] at hok'
    obtain ⟨v, hv, _⟩ := evX_writes hok'
    have hw : wrOf xs p = xs[p].i.wr := by simp only [wrOf, hx, Option.bind_some]
    have hval : ∀ t, xs[p].i.wr = some t → v = valOf rec xs s0 p := by
      intro t ht
      simp only [valOf, hx, ht, h1, hv]
      rw [envGet_W_eq (by simp)]
    rw [h1, hv, runTo_env hok p (by omega), List.range_succ, List.reverse_append]
    simp only [envL, List.reverse_singleton, List.flatMap_append, List.flatMap_cons, List.flatMap_nil, List.append_nil, List.append_assoc, hw]
    rw [W_same hval]
theorem runTo_heap (hok : (evXs rec xs s0).ok = true) {p : Nat} : ∀ {q : Nat}, p ≤ q → q ≤ xs.length → (∀ r, p ≤ r → r < q → effOf xs r = false) → (runTo rec xs s0 q).heap = (runTo rec xs s0 p).heap := by
  intro q hpq
  induction hpq with
  | refl => intro _ _; rfl
  | step h ih =>
    rename_i k
    intro hk hq
    have hx : xs[k]? = some xs[k] := by simp
    have h1 := runTo_succ (rec := rec) (s0 := s0) hx
    have hok' := runTo_ok hok (k + 1)
    rw [h1] at hok'
    obtain ⟨v, _, hh⟩ := evX_writes hok'
    have hkq : xs[k].i.quiet = true := by
      have := hq k h (Nat.lt_succ_self k)
      simpa only [effOf, hx, Option.map_some, Option.getD_some, Bool.not_eq_false'] using this
    rw [h1, hh hkq]
    exact ih (by omega) (fun r h1 h2 => hq r h1 (by omega))

/-- What an operation finds when all that stands before it has been carried out. -/
theorem find (hok : (evXs rec xs s0).ok = true) (hpair : ∀ p q x y, p < q → xs[p]? = some x → xs[q]? = some y → PairOk D R xs.length xs p q x y)
    (hR : ∀ k i, (k, i) ∈ R → Again rec (runTo rec xs s0 k) i)
    {E : List Nat} (hE : ∀ p ∈ E, p < xs.length) (hclosed : ∀ p ∈ E, ∀ r ∈ D.getD p [], r ∈ E) {j : Nat} {x : X} (hx : xs[j]? = some x) (hj : j ∉ E) (hready : ∀ r ∈ D.getD j [], r ∈ E) :
    evX rec x (sigma rec xs s0 E) = sigma rec xs s0 (j :: E) := by
  have hjlt : j < xs.length := by
    rcases Nat.lt_or_ge j xs.length with h | h
    · exact h
    · simp [List.getElem?_eq_none h] at hx
  have hget : ∀ (p : Nat) (hp : p < xs.length), xs[p]? = some xs[p] := fun p hp => by simp [hp]
  have before : ∀ p, bef (masks D) p j = true → p ∈ E := fun p h => bef_mem hclosed hready h
  have after : ∀ p, bef (masks D) j p = true → p ∉ E := fun p h hp => hj (bef_mem hclosed (hclosed p hp) h)
  have huniq : ∀ t p q, p < xs.length → q < xs.length → wrOf xs p = some t → wrOf xs q = some t → p = q := by
    intro t p q hp hq h1 h2
    simp only [wrOf, hget p hp, hget q hq, Option.bind_some] at h1 h2
    rcases Nat.lt_trichotomy p q with h | h | h
    · exact absurd h2 ((hpair p q _ _ h (hget p hp) (hget q hq)).uniq t h1)
    · exact h
    · exact absurd h1 ((hpair q p _ _ h (hget q hq) (hget p hp)).uniq t h2)
  -- the writers of a slot that is read
  have writers : ∀ t, t ∈ x.slots → ∀ p, p < xs.length → p ≠ j → wrOf xs p = some t → bef (masks D) p j = true ∨ bef (masks D) j p = true := by
    intro t ht p hp hpj hw
    simp only [wrOf, hget p hp, Option.bind_some] at hw
    rcases Nat.lt_trichotomy p j with h | h | h
    · cases hb : bef (masks D) p j
      · exact absurd ht (((hpair p j _ _ h (hget p hp) hx).rw hb).1 t hw)
      · exact .inl rfl
    · exact absurd h hpj
    · cases hb : bef (masks D) j p
      · exact absurd ht (((hpair j p _ _ h hx (hget p hp)).rw hb).2 t hw)
      · exact .inr rfl
  have mem_rev : ∀ {p k : Nat}, p ∈ (List.range k).reverse ↔ p < k := by simp
  have hlt_rev : ∀ k, k ≤ xs.length → ∀ p ∈ (List.range k).reverse, p < xs.length := fun k hk p hp => by have := mem_rev.1 hp; omega
  have agree : ∀ t, t ∈ x.slots → envGet (runTo rec xs s0 j).env t = envGet (sigma rec xs s0 E).env t := by
    intro t ht
    rw [runTo_env hok j (by omega)]
    refine envL_agree (n := xs.length) (fun p q hp hq h1 h2 => huniq t p q hp hq h1 h2) (hlt_rev j (by omega)) hE fun p hp hw => ?_
    by_cases hpj : p = j
    · subst hpj; exact ⟨fun h => absurd (mem_rev.1 h) (by omega), fun h => absurd h hj⟩
    · rcases writers t ht p hp hpj hw with h | h
      · exact ⟨fun _ => before p h, fun _ => mem_rev.2 (bef_lt h)⟩
      · have := bef_lt h
        exact ⟨fun h1 => absurd (mem_rev.1 h1) (by omega), fun h1 => absurd h1 (after p h)⟩
  have hstep := runTo_succ (rec := rec) (s0 := s0) hx
  have hokj := runTo_ok hok (j + 1)
  rw [hstep] at hokj
  have hwj : wrOf xs j = x.i.wr := by simp [wrOf, hx]
  have hej : effOf xs j = !x.i.quiet := by simp [effOf, hx]
  -- what is written is what the run wrote
  have finish : ∀ {r : St} {v : V}, r.ok = true → r.env = W x.i.wr v ++ (sigma rec xs s0 E).env → (∀ t, x.i.wr = some t → v = valOf rec xs s0 j) → r.heap = (runTo rec xs s0 (topE (effOf xs) (j :: E))).heap → r = sigma rec xs s0 (j :: E) := by
    intro r v h1 h2 h3 h4
    cases r with
    | mk e h o =>
      simp only at h1 h2 h4
      subst h1
      simp only [sigma, St.mk.injEq, and_true]
      refine ⟨?_, h4⟩
      rw [h2, W_same h3]
      simp [sigma, envL, hwj]
  have valv : ∀ {v : V}, (evX rec x (runTo rec xs s0 j)).env = W x.i.wr v ++ (runTo rec xs s0 j).env → ∀ t, x.i.wr = some t → v = valOf rec xs s0 j := by
    intro v hv t ht
    simp only [valOf, hx, ht, hstep, hv]
    rw [envGet_W_eq (by simp)]
  by_cases hq : x.i.quiet = true
  · -- it leaves the heap alone
    have htop : topE (effOf xs) (j :: E) = topE (effOf xs) E := by simp [topE, hej, hq]
    have direct : ((runTo rec xs s0 j).heap = (sigma rec xs s0 E).heap ∨ x.i.blind = true) → evX rec x (sigma rec xs s0 E) = sigma rec xs s0 (j :: E) := by
      intro hh
      obtain ⟨h1, v, h2, h3, h4⟩ := evX_alike (rec := rec) agree hh hokj rfl
      refine finish h1 h3 (valv h2) ?_
      rcases h4 with h4 | h4
      · rw [h4.2, htop]; rfl
      · rw [hq] at h4; simp at h4
    by_cases hb : x.i.blind = true
    · exact direct (.inr hb)
    · rcases topE_cases (ef := effOf xs) E with h0 | ⟨k, hk, hek, htk⟩
      · -- no change so far: then none before j
        refine direct (.inl ?_)
        simp only [sigma, h0]
        refine runTo_heap hok (Nat.zero_le _) (by omega) fun r _ hr => ?_
        cases her : effOf xs r with
        | false => rfl
        | true =>
          exfalso
          have hr' : r < xs.length := by omega
          have hqr : xs[r].i.quiet = false := by simpa only [effOf, hget r hr', Option.map_some, Option.getD_some, Bool.not_eq_true'] using her
          cases hbr : bef (masks D) r j with
          | true => have := topE_ge her (before r hbr); omega
          | false => exact hb ((hpair r j _ _ hr (hget r hr') hx).left hbr hqr)
      · by_cases hkj : k < j
        · refine direct (.inl ?_)
          simp only [sigma, htk]
          refine runTo_heap hok (by omega) (by omega) fun r hr1 hr2 => ?_
          cases her : effOf xs r with
          | false => rfl
          | true =>
            exfalso
            have hr' : r < xs.length := by omega
            have hqr : xs[r].i.quiet = false := by simpa only [effOf, hget r hr', Option.map_some, Option.getD_some, Bool.not_eq_true'] using her
            cases hbr : bef (masks D) r j with
            | true => have := topE_ge her (before r hbr); omega
            | false => exact hb ((hpair r j _ _ hr2 (hget r hr') hx).left hbr hqr)
        · have hjk : j < k := by
            have : k ≠ j := fun h => hj (h ▸ hk)
            omega
          have hklt := hE k hk
          have hqk : xs[k].i.quiet = false := by simpa only [effOf, hget k hklt, Option.map_some, Option.getD_some, Bool.not_eq_true'] using hek
          have hnb : bef (masks D) j k = false := by
            cases hbk : bef (masks D) j k with
            | false => rfl
            | true => exact absurd hk (after k hbk)
          rcases (hpair j k _ _ hjk hx (hget k hklt)).right hnb hqk with h | ⟨hg, hin, hops⟩
          · exact absurd h hb
          · obtain ⟨d, hd, hok', hsame⟩ := hR _ _ hin
            have hxi : ∀ s, evX rec x s = evI rec x.i s := fun s => by simp [evX, hg]
            have agree' : ∀ t, t ∈ x.slots → envGet (runTo rec xs s0 (k + 1)).env t = envGet (sigma rec xs s0 E).env t := by
              intro t ht
              rw [runTo_env hok (k + 1) (by omega)]
              refine envL_agree (n := xs.length) (fun p q hp hq h1 h2 => huniq t p q hp hq h1 h2) (hlt_rev (k + 1) (by omega)) hE fun p hp hw => ?_
              have hw' : xs[p].i.wr = some t := by simpa only [wrOf, hget p hp, Option.bind_some] using hw
              rcases hops p _ t (hget p hp) hw' ht with h | h
              · have := bef_lt h
                exact ⟨fun _ => before p h, fun _ => mem_rev.2 (by omega)⟩
              · refine ⟨fun h1 => absurd (mem_rev.1 h1) (by omega), fun h1 => ?_⟩
                rcases writers t ht p hp (by omega) hw with h2 | h2
                · have := bef_lt h2; omega
                · exact absurd h1 (after p h2)
            have hheap : (runTo rec xs s0 (k + 1)).heap = (sigma rec xs s0 E).heap := by simp only [sigma, htk]
            rw [← hxi] at hok'
            obtain ⟨h1, v, h2, h3, h4⟩ := evX_alike (rec := rec) agree' (.inl hheap) hok' rfl
            refine finish h1 h3 (fun t ht => ?_) ?_
            · rw [hd] at ht
              have : d = t := by simpa using ht
              subst this
              rw [← hxi, h2, envGet_W_eq (by rw [hd]; simp), runTo_env hok (k + 1) (by omega)] at hsame
              rw [hsame, envL_some (wr := wrOf xs) (p := j) (by rw [hwj, hd]) (mem_rev.2 (by omega)) (fun q hq hwq => huniq d q j (hlt_rev (k + 1) (by omega) q hq) hjlt hwq (by rw [hwj, hd]))]
            · rcases h4 with h4 | h4
              · rw [h4.2, htop]; rfl
              · rw [hq] at h4; simp at h4
  · -- it changes the heap: all changes before it have been made, and none behind it
    have hq' : x.i.quiet = false := by simpa using hq
    have heff : ∀ r, effOf xs r = true → r ≠ j → r < xs.length → (r ∈ E ↔ r < j) := by
      intro r her hrj hr'
      have hqr : xs[r].i.quiet = false := by simpa only [effOf, hget r hr', Option.map_some, Option.getD_some, Bool.not_eq_true'] using her
      rcases Nat.lt_trichotomy r j with h | h | h
      · refine ⟨fun _ => h, fun _ => ?_⟩
        cases hbr : bef (masks D) r j with
        | true => exact before r hbr
        | false =>
          rcases (hpair r j _ _ h (hget r hr') hx).eff hbr with h1 | h1
          · rw [hqr] at h1; simp at h1
          · rw [hq'] at h1; simp at h1
      · exact absurd h hrj
      · refine ⟨fun hm => ?_, fun hlt => by omega⟩
        cases hbr : bef (masks D) j r with
        | true => exact absurd hm (after r hbr)
        | false =>
          rcases (hpair j r _ _ h hx (hget r hr')).eff hbr with h1 | h1
          · rw [hq'] at h1; simp at h1
          · rw [hqr] at h1; simp at h1
    have htop : topE (effOf xs) E ≤ j := topE_le fun p hp hep => (heff p hep (fun h => hj (h ▸ hp)) (hE p hp)).1 hp
    have hheap : (runTo rec xs s0 j).heap = (sigma rec xs s0 E).heap := by
      simp only [sigma]
      refine runTo_heap hok htop (by omega) fun r hr1 hr2 => ?_
      cases her : effOf xs r with
      | false => rfl
      | true =>
        exfalso
        have := topE_ge her ((heff r her (by omega) (by omega)).2 hr2)
        omega
    obtain ⟨h1, v, h2, h3, h4⟩ := evX_alike (rec := rec) agree (.inl hheap) hokj rfl
    refine finish h1 h3 (valv h2) ?_
    have htop' : topE (effOf xs) (j :: E) = j + 1 := by simp only [topE, hej, hq']; simp; omega
    rw [htop', hstep]
    rcases h4 with h4 | h4
    · rw [h4.1, h4.2]; exact hheap.symm
    · exact h4.2.symm
end
end Go.VS
/-
  VS, part 23: regions in any order: the theorem.
-/
namespace Go.VS

/-! ### What is found again -/
def J.resL : List J → List (Nat × I)
  | [] => []
  | j :: r => (match j with | .re i => [(0, i)] | _ => []) ++ (J.resL r).map fun p => ((j.flat none).length + p.1, p.2)
theorem flatL_re {rec : Rec} : ∀ {js : List J} {T S : List Nat} {s s' : St}, J.fokL true T S js = true → Ag T s s' → (evJs rec js s).ok = true → ∀ k i, (k, i) ∈ J.resL js → Again rec (runTo rec (J.flatL none js) s' k) i
  | [], _, _, _, _, _, _, _, _, _, h => by simp [J.resL] at h
  | j :: r, T, S, s, s', hf, ha, hok, k, i, hin => by
    simp only [J.fokL, Bool.and_eq_true] at hf
    simp only [evJs] at hok
    simp only [J.resL, List.mem_append, List.mem_map] at hin
    rcases hin with hin | ⟨⟨k', i'⟩, hin, heq⟩
    · cases j with
      | re i' =>
        simp at hin
        obtain ⟨rfl, rfl⟩ := hin
        have hj := hf.1
        simp only [J.fok, Bool.and_eq_true, Bool.true_and] at hj
        obtain ⟨⟨h1, h2⟩, h3⟩ := hj
        have hokj := evJs_ok hok
        simp only [evJ, again] at hokj
        have hwd : i.wr = i.dst := by cases i <;> first | rfl | simp [I.quiet] at h2
        cases hd : i.dst with
        | none => simp [hd] at hokj
        | some d =>
          simp only [hd] at hokj
          split at hokj
          · rename_i hc
            simp only [Bool.and_eq_true] at hc
            have hag := ha.op (rec := rec) h1 hc.1
            rw [hwd, hd] at h3
            have hdT : d ∉ T := by simpa using h3
            refine ⟨d, by rw [hwd, hd], hag.ok, ?_⟩
            have e1 := V.same_spec hc.2
            rw [hag.env d hdT, ha.env d hdT] at e1
            simpa [runTo, evXs] using e1
          · simp at hokj
      | op _ => simp at hin
      | sc _ _ _ _ _ => simp at hin
    · simp only [Prod.mk.injEq] at heq
      obtain ⟨rfl, rfl⟩ := heq
      have hj := flat_ag (rec := rec) (g := none) hf.1 ha (fun _ _ h => by simp at h) trivial (evJs_ok hok)
      have ih := flatL_re hf.2 hj hok k' i' hin
      have : runTo rec (J.flatL none (j :: r)) s' ((j.flat none).length + k') = runTo rec (J.flatL none r) (evXs rec (j.flat none) s') k' := by
        simp only [runTo, J.flatL, List.take_length_add_append, evXs_append]
      rw [this]
      exact ih

/-! ### The check -/
def A.same : A → A → Bool
  | .t n, .t m => n == m
  | .k (.i q n), .k (.i q' n') => q == q' && n == n'
  | _, _ => false
theorem A.same_spec {a b : A} (h : A.same a b = true) : a = b := by
  unfold A.same at h
  split at h
  · simp at h; rw [h]
  · simp at h; rw [h.1, h.2]
  · simp at h
def A.sameO : Option A → Option A → Bool
  | none, none => true
  | some a, some b => A.same a b
  | _, _ => false
theorem A.sameO_spec {a b : Option A} (h : A.sameO a b = true) : a = b := by
  unfold A.sameO at h
  split at h
  · rfl
  · rw [A.same_spec h]
  · simp at h
def I.same : I → I → Bool
  | .sl d x l h es, .sl d' x' l' h' es' => d == d' && A.same x x' && A.sameO l l' && A.sameO h h' && es == es'
  | .ld d x n ag, .ld d' x' n' ag' => d == d' && A.same x x' && n == n' && ag == ag'
  | .fa d x n k, .fa d' x' n' k' => d == d' && A.same x x' && n == n' && k == k'
  | .ixs d x n k, .ixs d' x' n' k' => d == d' && A.same x x' && A.same n n' && k == k'
  | .len d x k, .len d' x' k' => d == d' && A.same x x' && k == k'
  | .isnil d n x k, .isnil d' n' x' k' => d == d' && n == n' && A.same x x' && k == k'
  | _, _ => false
theorem I.same_spec {a b : I} (h : I.same a b = true) : a = b := by
  unfold I.same at h
  split at h
  · simp only [Bool.and_eq_true, beq_iff_eq] at h; obtain ⟨⟨⟨⟨rfl, h2⟩, h3⟩, h4⟩, rfl⟩ := h; rw [A.same_spec h2, A.sameO_spec h3, A.sameO_spec h4]
  · simp only [Bool.and_eq_true, beq_iff_eq] at h; obtain ⟨⟨⟨rfl, h2⟩, rfl⟩, rfl⟩ := h; rw [A.same_spec h2]
  · simp only [Bool.and_eq_true, beq_iff_eq] at h; obtain ⟨⟨⟨rfl, h2⟩, rfl⟩, rfl⟩ := h; rw [A.same_spec h2]
  · simp only [Bool.and_eq_true, beq_iff_eq] at h; obtain ⟨⟨⟨rfl, h2⟩, h3⟩, rfl⟩ := h; rw [A.same_spec h2, A.same_spec h3]
  · simp only [Bool.and_eq_true, beq_iff_eq] at h; obtain ⟨⟨rfl, h2⟩, rfl⟩ := h; rw [A.same_spec h2]
  · simp only [Bool.and_eq_true, beq_iff_eq] at h; obtain ⟨⟨⟨rfl, rfl⟩, h2⟩, rfl⟩ := h; rw [A.same_spec h2]
  · simp at h

def opsOk (ms : List Nat) (p q : Nat) (x : X) : Nat → List X → Bool
  | _, [] => true
  | r, z :: zs => (noneIn z.i.wr.toList x.slots || bef ms r p || decide (q < r)) && opsOk ms p q x (r + 1) zs
def pairB (ms : List Nat) (R : List (Nat × I)) (xs : List X) (p q : Nat) (x y : X) : Bool :=
  noneIn x.i.wr.toList y.i.wr.toList &&
  (bef ms p q ||
    (noneIn x.i.wr.toList y.slots && noneIn y.i.wr.toList x.slots && (x.i.quiet || (y.i.quiet && y.i.blind)) &&
      (y.i.quiet || x.i.blind || (x.g.isNone && R.any (fun r => r.1 == q + 1 && I.same r.2 x.i) && opsOk ms p q x 0 xs))))
def pairsWith (ms : List Nat) (R : List (Nat × I)) (xs : List X) (p : Nat) (x : X) : Nat → List X → Bool
  | _, [] => true
  | q, y :: ys => pairB ms R xs p q x y && pairsWith ms R xs p x (q + 1) ys
def pairsB (ms : List Nat) (R : List (Nat × I)) (xs : List X) : Nat → List X → Bool
  | _, [] => true
  | p, x :: r => pairsWith ms R xs p x (p + 1) r && pairsB ms R xs (p + 1) r
theorem opsOk_spec {ms : List Nat} {p q : Nat} {x : X} : ∀ {zs : List X} {r : Nat}, opsOk ms p q x r zs = true → ∀ k z t, zs[k]? = some z → z.i.wr = some t → t ∈ x.slots → bef ms (r + k) p = true ∨ q < r + k
  | [], _, _, _, _, _, h, _, _ => by simp at h
  | z :: zs, r, h, k, z', t, hz, hw, ht => by
    simp only [opsOk, Bool.and_eq_true, Bool.or_eq_true, decide_eq_true_eq] at h
    cases k with
    | zero =>
      simp at hz
      subst hz
      rcases h.1 with (h1 | h1) | h1
      · exact absurd ht (noneIn_spec h1 (by rw [hw]; simp))
      · exact .inl h1
      · exact .inr h1
    | succ k =>
      have := opsOk_spec h.2 k z' t (by simpa using hz) hw ht
      rwa [Nat.add_assoc, Nat.add_comm 1 k] at this
theorem pairB_spec {D : List (List Nat)} {R : List (Nat × I)} {xs : List X} {p q : Nat} {x y : X} (h : pairB (masks D) R xs p q x y = true) : PairOk D R xs.length xs p q x y := by
  simp only [pairB, Bool.and_eq_true, Bool.or_eq_true] at h
  obtain ⟨h0, h⟩ := h
  refine ⟨fun t hx hy => absurd (show t ∈ y.i.wr.toList by rw [hy]; simp) (noneIn_spec h0 (by rw [hx]; simp)), fun hb => ?_, fun hb => ?_, fun hb => ?_, fun hb => ?_⟩ <;>
    rw [hb] at h <;> simp only [Bool.false_eq_true, false_or] at h <;> obtain ⟨⟨⟨h1, h2⟩, h3⟩, h4⟩ := h
  · exact ⟨fun t hx => noneIn_spec h1 (by rw [hx]; simp), fun t hy => noneIn_spec h2 (by rw [hy]; simp)⟩
  · exact h3.imp id (·.1)
  · intro hx
    rcases h3 with h3 | h3
    · rw [hx] at h3; simp at h3
    · exact h3.2
  · intro hy
    rcases h4 with (h4 | h4) | h4
    · rw [hy] at h4; simp at h4
    · exact .inl h4
    · refine .inr ⟨by simpa using h4.1.1, ?_, fun r z t hz hw ht => by simpa using opsOk_spec h4.2 r z t hz hw ht⟩
      have := h4.1.2
      simp only [List.any_eq_true, Bool.and_eq_true, beq_iff_eq] at this
      obtain ⟨⟨k, i⟩, hin, hk, hi⟩ := this
      simp only at hk hi
      rw [← I.same_spec hi, ← hk]
      exact hin
theorem pairsWith_spec {D : List (List Nat)} {R : List (Nat × I)} {xs : List X} {p : Nat} {x : X} : ∀ {ys : List X} {q : Nat}, pairsWith (masks D) R xs p x q ys = true → ∀ k y, ys[k]? = some y → PairOk D R xs.length xs p (q + k) x y
  | [], _, _, _, _, h => by simp at h
  | y :: ys, q, h, k, y', hy => by
    simp only [pairsWith, Bool.and_eq_true] at h
    cases k with
    | zero => simp at hy; subst hy; exact pairB_spec h.1
    | succ k =>
      have := pairsWith_spec h.2 k y' (by simpa using hy)
      rwa [Nat.add_assoc, Nat.add_comm 1 k] at this
theorem pairsB_spec {D : List (List Nat)} {R : List (Nat × I)} {xs : List X} : ∀ {ys : List X} {p : Nat}, pairsB (masks D) R xs p ys = true → ∀ i j x y, i < j → ys[i]? = some x → ys[j]? = some y → PairOk D R xs.length xs (p + i) (p + j) x y
  | [], _, _, _, _, _, _, _, h, _ => by simp at h
  | z :: ys, p, h, i, j, x, y, hij, hx, hy => by
    simp only [pairsB, Bool.and_eq_true] at h
    cases j with
    | zero => omega
    | succ j =>
      cases i with
      | zero =>
        simp at hx; subst hx
        have := pairsWith_spec h.1 j y (by simpa using hy)
        rwa [Nat.add_assoc, Nat.add_comm 1 j] at this
      | succ i =>
        have := pairsB_spec h.2 i j x y (by omega) (by simpa using hx) (by simpa using hy)
        rwa [Nat.add_assoc, Nat.add_comm 1 i, Nat.add_assoc, Nat.add_comm 1 j] at this

section
variable (P : Program) (φ : Nat → Nat) (nt : Nat)
def depsOf (ops : Array Oper) (perm : List Nat) (i : Nat) : List Nat :=
  match ops[i]? with
  | some o => (o.after.toList.filter fun e => Region.binds .any e).map fun e => perm.idxOf e.on
  | none => []
def placesOk (ops : Array Oper) (perm : List Nat) : Nat → List Nat → List X → Bool
  | _, [], [] => true
  | p, i :: is, x :: xs => (match ops[i]? with | some o => chkI P φ nt o x.i && gOk ops o x && o.after.all (fun e => decide (e.on < ops.size)) | none => false) && (depsOf ops perm i).all (· < p) && placesOk ops perm (p + 1) is xs
  | _, _, _ => false
def chkDrw (ops : Array Oper) (perm : List Nat) (js : List J) : Bool :=
  J.fokL true [] [] js && perm.length == ops.size && decide perm.Nodup && (List.range ops.size).all (perm.contains ·) && placesOk P φ nt ops perm 0 perm (J.flatL none js) &&
    pairsB (masks (perm.map (depsOf ops perm))) (J.resL js) (J.flatL none js) 0 (J.flatL none js)
variable {P φ nt}
theorem placesOk_spec {ops : Array Oper} {perm : List Nat} : ∀ {is : List Nat} {xs : List X} {p : Nat}, placesOk P φ nt ops perm p is xs = true → is.length = xs.length ∧
    ∀ k i x, is[k]? = some i → xs[k]? = some x → (∃ o, ops[i]? = some o ∧ chkI P φ nt o x.i = true ∧ gOk ops o x = true ∧ ∀ e ∈ o.after, e.on < ops.size) ∧ ∀ r ∈ depsOf ops perm i, r < p + k
  | [], [], p, _ => ⟨rfl, fun k i x h => by simp at h⟩
  | i :: is, x :: xs, p, h => by
    simp only [placesOk, Bool.and_eq_true] at h
    obtain ⟨⟨h1, h2⟩, h3⟩ := h
    obtain ⟨hl, ih⟩ := placesOk_spec h3
    refine ⟨by simp [hl], fun k i' x' hi hx => ?_⟩
    cases k with
    | zero =>
      simp at hi hx
      subst hi; subst hx
      refine ⟨?_, by simpa using h2⟩
      split at h1
      · rename_i o ho
        simp only [Bool.and_eq_true, Array.all_eq_true_iff_forall_mem, decide_eq_true_eq] at h1
        exact ⟨o, ho, h1.1.1, h1.1.2, h1.2⟩
      · simp at h1
    | succ k =>
      have := ih k i' x' (by simpa using hi) (by simpa using hx)
      rwa [Nat.add_assoc, Nat.add_comm 1 k] at this
  | [], _ :: _, _, h => by simp [placesOk] at h
  | _ :: _, [], _, h => by simp [placesOk] at h
end
end Go.VS
/-
  VS, part 24: regions in any order: the simulation.
-/
namespace Go.VS
section
variable {P : Program} {φ : Nat → Nat}
variable {nt m : Nat} {s : St} {g : Gh} {a : Act} {w : World} {K : Act → World → Prop} {Q : Exit → Act → World → Prop} {o : Oper} {ops : Array Oper}

theorem SRel.congr {s' : St} (hs : SRel φ nt m s' g a w) (he : ∀ t, envGet s.env t = envGet s'.env t) (hh : s.heap = s'.heap) : SRel φ nt m s g a w where
  env k := by rw [he, hh]; exact hs.env k
  heap := by rw [hh]; exact hs.heap
  size := hs.size
  defers := hs.defers
  len := by rw [hh]; exact hs.len
theorem SRel.forget (hs : SRel φ nt m s g a w) (fl : List Nat) (ok : Bool) : SRel φ nt m ⟨forgetEnv fl s.env, s.heap, ok⟩ g a w where
  env k := by
    simp only [envGet_forget]
    split
    · simp [relV]
    · exact hs.env k
  heap := hs.heap
  size := hs.size
  defers := hs.defers
  len := hs.len
theorem SRel.drew (hs : SRel φ nt m s g a w) : SRel φ nt m s g a w.drew ∧ Frame m s.heap g w s.heap g w.drew := by
  have hg := Grew.drew w
  refine ⟨?_, ?_⟩
  · have := hs.grew (I' := g.I) hg (fun _ _ => rfl) (fun b hb => hs.heap.new b hb)
    exact this
  · exact frame_grew m hs.heap hg (fun _ _ => rfl)

structure OrdOk (P : Program) (φ : Nat → Nat) (nt : Nat) (ops : Array Oper) (perm : List Nat) (xs : List X) : Prop where
  len : perm.length = ops.size
  nodup : perm.Nodup
  has : ∀ i, i < ops.size → i ∈ perm
  lenX : perm.length = xs.length
  place : ∀ k i x, perm[k]? = some i → xs[k]? = some x → (∃ o, ops[i]? = some o ∧ chkI P φ nt o x.i = true ∧ gOk ops o x = true ∧ ∀ e ∈ o.after, e.on < ops.size) ∧ ∀ r ∈ depsOf ops perm i, r < k
def depD (ops : Array Oper) (perm : List Nat) : List (List Nat) := perm.map (depsOf ops perm)
theorem depD_get {perm : List Nat} {p i : Nat} (h : perm[p]? = some i) : (depD ops perm).getD p [] = depsOf ops perm i := by
  simp [depD, List.getD, h]

/-- What holds when the operations of E have been carried out. -/
structure OInv (φ : Nat → Nat) (nt m : Nat) (ops : Array Oper) (perm : List Nat) (rec : Rec) (xs : List X) (s0 : St) (g0 : Gh) (w0 : World) (fuel : Nat) (listed : Array Bool) (a : Act) (w : World) (E Rm : List Nat) (g : Gh) : Prop where
  size : listed.size = ops.size
  lst : ∀ p i, perm[p]? = some i → (p ∈ E ↔ listed.getD i false = true)
  lt : ∀ p ∈ E, p < xs.length
  closed : ∀ p ∈ E, ∀ r ∈ (depD ops perm).getD p [], r ∈ E
  rest : ∀ p, p < xs.length → p ∉ E → p ∈ Rm
  fuel : Rm.length ≤ fuel
  rel : SRel φ nt m (sigma rec xs s0 E) g a w
  frame : Frame m s0.heap g0 w0 (sigma rec xs s0 E).heap g w

theorem idx_of {perm : List Nat} (h : perm.Nodup) {p i : Nat} (hp : perm[p]? = some i) : perm.idxOf i = p := by
  have hlt : p < perm.length := by
    rcases Nat.lt_or_ge p perm.length with h1 | h1
    · exact h1
    · simp [List.getElem?_eq_none h1] at hp
  have he : perm[p] = i := by simpa [List.getElem?_eq_getElem hlt] using hp
  rw [← he]
  exact List.Nodup.idxOf_getElem h p hlt
theorem wpAny_ord {rec : Rec} (hq : QuietCall P φ rec) {perm : List Nat} {xs : List X} {s0 : St} {g0 : Gh} {w0 : World} {R : List (Nat × I)} (hO : OrdOk P φ nt ops perm xs)
    (hok : (evXs rec xs s0).ok = true) (hpair : ∀ p q x y, p < q → xs[p]? = some x → xs[q]? = some y → PairOk (depD ops perm) R xs.length xs p q x y)
    (hR : ∀ k i, (k, i) ∈ R → Again rec (runTo rec xs s0 k) i) (hQ : Post φ nt m s0 g0 w0 (evXs rec xs s0) (Q .normal)) :
    ∀ (fuel : Nat) (listed : Array Bool) (a : Act) (w : World) (E Rm : List Nat) (g : Gh), OInv φ nt m ops perm rec xs s0 g0 w0 fuel listed a w E Rm g → wpAny P .any ops Q fuel listed a w := by
  have hposi : ∀ i, i < ops.size → ∃ p, perm[p]? = some i ∧ p < xs.length := by
    intro i hi
    obtain ⟨p, hp, he⟩ := List.getElem_of_mem (hO.has i hi)
    exact ⟨p, by simp [hp, he], by rw [← hO.lenX]; exact hp⟩
  have hget : ∀ (p : Nat) (hp : p < xs.length), xs[p]? = some xs[p] := fun p hp => by simp [hp]
  have hperm : ∀ (p : Nat), p < xs.length → ∃ i, perm[p]? = some i := fun p hp => by
    have : p < perm.length := by rw [hO.lenX]; exact hp
    exact ⟨perm[p], by simp [this]⟩
  -- an operation whose forerunners are listed
  have deps_in : ∀ {fuel : Nat} {listed : Array Bool} {a : Act} {w : World} {E Rm : List Nat} {g : Gh}, OInv φ nt m ops perm rec xs s0 g0 w0 fuel listed a w E Rm g → ∀ {p i : Nat} {o : Oper}, perm[p]? = some i → p < xs.length → ops[i]? = some o →
      ((∀ e ∈ o.after, Region.binds .any e = true → listed.getD e.on false = true) ↔ ∀ r ∈ (depD ops perm).getD p [], r ∈ E) := by
    intro fuel listed a w E Rm g inv p i o hp hpx ho
    rw [depD_get hp]
    simp only [depsOf, ho]
    have hon : ∀ e ∈ o.after, e.on < ops.size := by
      obtain ⟨⟨o', ho', _, _, h⟩, _⟩ := hO.place p i xs[p] hp (hget p hpx)
      rw [ho] at ho'
      simp at ho'
      subst ho'
      exact h
    constructor
    · intro h r hr
      simp only [List.mem_map, List.mem_filter, Array.mem_toList_iff] at hr
      obtain ⟨e, ⟨he, hb⟩, rfl⟩ := hr
      obtain ⟨q, hq1, hq2⟩ := hposi e.on (hon e he)
      rw [idx_of hO.nodup hq1]
      exact (inv.lst q e.on hq1).2 (h e he hb)
    · intro h e he hb
      obtain ⟨q, hq1, hq2⟩ := hposi e.on (hon e he)
      have := h q (by
        simp only [List.mem_map, List.mem_filter, Array.mem_toList_iff]
        exact ⟨e, ⟨he, hb⟩, idx_of hO.nodup hq1⟩)
      exact (inv.lst q e.on hq1).1 this
  -- all has been carried out
  have done : ∀ {fuel : Nat} {listed : Array Bool} {a : Act} {w : World} {E Rm : List Nat} {g : Gh}, OInv φ nt m ops perm rec xs s0 g0 w0 fuel listed a w E Rm g → (∀ p, p < xs.length → p ∈ E) → Q .normal a w := by
    intro fuel listed a w E Rm g inv hall
    have hmem : ∀ p, p < xs.length → (p ∈ (List.range xs.length).reverse ↔ p ∈ E) := fun p hp => ⟨fun _ => hall p hp, fun _ => by simpa using hp⟩
    have hu : ∀ t p q, p < xs.length → q < xs.length → wrOf xs p = some t → wrOf xs q = some t → p = q := by
      intro t p q hp hq h1 h2
      simp only [wrOf, hget p hp, hget q hq, Option.bind_some] at h1 h2
      rcases Nat.lt_trichotomy p q with h | h | h
      · exact absurd h2 ((hpair p q _ _ h (hget p hp) (hget q hq)).uniq t h1)
      · exact h
      · exact absurd h1 ((hpair q p _ _ h (hget q hq) (hget p hp)).uniq t h2)
    have hheap : (evXs rec xs s0).heap = (sigma rec xs s0 E).heap := by
      rw [← runTo_all (rec := rec) (xs := xs) (s0 := s0)]
      simp only [sigma]
      refine runTo_heap hok (topE_le fun p hp _ => inv.lt p hp) (Nat.le_refl _) fun r h1 h2 => ?_
      cases her : effOf xs r with
      | false => rfl
      | true => have := topE_ge her (hall r h2); omega
    refine hQ g a w (inv.rel.congr (fun t => ?_) hheap) (by rw [hheap]; exact inv.frame)
    rw [← runTo_all (rec := rec) (xs := xs) (s0 := s0), runTo_env hok _ (Nat.le_refl _)]
    exact envL_agree (n := xs.length) (fun p q hp hq => hu t p q hp hq) (fun p hp => by simpa using hp) inv.lt fun p hp _ => hmem p hp
  have empty : ∀ {fuel : Nat} {listed : Array Bool} {a : Act} {w : World} {E Rm : List Nat} {g : Gh}, OInv φ nt m ops perm rec xs s0 g0 w0 fuel listed a w E Rm g → Region.ready .any ops listed = [] → Q .normal a w := by
    intro fuel listed a w E Rm g inv hr
    refine done inv fun p => ?_
    induction p using Nat.strongRecOn with
    | _ p ih =>
      intro hp
      apply Classical.byContradiction
      intro hne
      obtain ⟨i, hi⟩ := hperm p hp
      obtain ⟨⟨o, ho, _⟩, hd⟩ := hO.place p i xs[p] hi (hget p hp)
      have hun : listed.getD i true = false := by
        have hsz : i < listed.size := by rw [inv.size]; exact (Array.getElem?_eq_some_iff.1 ho).1
        cases h1 : listed.getD i true with
        | false => rfl
        | true =>
          exfalso
          apply hne
          rw [inv.lst p i hi]
          simpa [hsz] using h1
      have : i ∈ Region.ready .any ops listed := mem_ready.2 ⟨hun, o, ho, (deps_in inv hi hp ho).2 fun r hr => by
        rw [depD_get hi] at hr
        have := hd r hr
        exact ih r this (by omega)⟩
      rw [hr] at this
      simp at this
  intro fuel
  induction fuel with
  | zero =>
    intro listed a w E Rm g inv
    have hall : ∀ p, p < xs.length → p ∈ E := by
      intro p hp
      apply Classical.byContradiction
      intro hne
      have h1 := inv.rest p hp hne
      have h2 := inv.fuel
      have : Rm = [] := by simpa using h2
      rw [this] at h1
      simp at h1
    refine ⟨?_, done inv hall⟩
    rw [List.eq_nil_iff_forall_not_mem]
    intro i hi
    obtain ⟨hun, o, ho, _⟩ := mem_ready.1 hi
    obtain ⟨p, hp, hpx⟩ := hposi i (Array.getElem?_eq_some_iff.1 ho).1
    have h1 := (inv.lst p i hp).1 (hall p hpx)
    have hsz : i < listed.size := by rw [inv.size]; exact (Array.getElem?_eq_some_iff.1 ho).1
    simp [hsz] at hun h1
    rw [hun] at h1
    simp at h1
  | succ fuel ih =>
    intro listed a w E Rm g inv
    refine ⟨empty inv, fun i hi => ?_⟩
    obtain ⟨hun, o, ho, hall⟩ := mem_ready.1 hi
    obtain ⟨j, hj, hjx⟩ := hposi i (Array.getElem?_eq_some_iff.1 ho).1
    obtain ⟨⟨o', ho', hchk, hgok, hon⟩, hd⟩ := hO.place j i xs[j] hj (hget j hjx)
    rw [ho] at ho'
    simp at ho'
    subst ho'
    have hsz : i < listed.size := by rw [inv.size]; exact (Array.getElem?_eq_some_iff.1 ho).1
    have hjE : j ∉ E := by
      intro h
      have := (inv.lst j i hj).1 h
      simp [hsz] at this hun
      rw [hun] at this
      simp at this
    have hready := (deps_in inv hj hjx ho).1 hall
    have hfind := find hok hpair hR inv.lt inv.closed (hget j hjx) hjE hready
    -- the next state
    have next : ∀ g' a' w', SRel φ nt m (evX rec xs[j] (sigma rec xs s0 E)) g' a' w' → Frame m (sigma rec xs s0 E).heap g w (evX rec xs[j] (sigma rec xs s0 E)).heap g' w' →
        wpAny P .any ops Q fuel (listed.setIfInBounds i true) a' w' := by
      intro g' a' w' hs' hf'
      rw [hfind] at hs' hf'
      refine ih _ a' w' (j :: E) (Rm.filter (· ≠ j)) g' ⟨by simp [inv.size], fun p i' hp => ?_, fun p hp => ?_, fun p hp r hr => ?_, fun p hp hpE => ?_, ?_, hs', inv.frame.trans hf'⟩
      · by_cases hpj : p = j
        · subst hpj
          have : i' = i := by rw [hj] at hp; simpa using hp.symm
          subst this
          simp [hsz]
        · have hne : i ≠ i' := by
            intro h
            subst h
            have h1 := idx_of hO.nodup hj
            have h2 := idx_of hO.nodup hp
            omega
          rw [getD_set_ne false hne, List.mem_cons, inv.lst p i' hp]
          simp [hpj]
      · rcases List.mem_cons.1 hp with h | h
        · subst h; exact hjx
        · exact inv.lt p h
      · rcases List.mem_cons.1 hp with h | h
        · subst h; exact List.mem_cons_of_mem _ (hready r hr)
        · exact List.mem_cons_of_mem _ (inv.closed p h r hr)
      · simp only [List.mem_cons, not_or] at hpE
        rw [List.mem_filter]
        exact ⟨inv.rest p hp hpE.2, by simpa using hpE.1⟩
      · have hlen : (Rm.filter (· ≠ j)).length < Rm.length := List.length_filter_lt_length_iff_exists.2 ⟨j, inv.rest j hjx hjE, by simp⟩
        have := inv.fuel
        omega
    have hok' : (evX rec xs[j] (sigma rec xs s0 E)).ok = true := by rw [hfind]; rfl
    have hdst := chkI_dst hchk
    unfold wpOp
    simp only [ho]
    have hG := sim_guard (P := P) (K := wpAny P .any ops Q fuel (listed.setIfInBounds i true)) (Q := Q) inv.rel hgok hdst.1 hdst.2 hok'
      (fun he hk => sim_I hq inv.rel hchk hk fun g' v' w' hs' hf => next g' _ w' (by rw [he]; exact hs') (by rw [he]; exact hf))
      (fun he hs' => next g _ w (by rw [he]; exact hs') (by rw [he]; exact Frame.refl _ _ _ _))
    split
    · rename_i hw; rw [if_pos hw] at hG; exact .inl hG
    · rename_i hw; rw [if_neg hw] at hG; exact hG

theorem chkDrw_spec {perm : List Nat} {js : List J} (h : chkDrw P φ nt ops perm js = true) : J.fokL true [] [] js = true ∧ OrdOk P φ nt ops perm (J.flatL none js) ∧
    ∀ p q x y, p < q → (J.flatL none js)[p]? = some x → (J.flatL none js)[q]? = some y → PairOk (depD ops perm) (J.resL js) (J.flatL none js).length (J.flatL none js) p q x y := by
  simp only [chkDrw, Bool.and_eq_true, decide_eq_true_eq, beq_iff_eq] at h
  obtain ⟨⟨⟨⟨⟨h1, h2⟩, h3⟩, h8⟩, h4⟩, h5⟩ := h
  obtain ⟨h6, h7⟩ := placesOk_spec h4
  refine ⟨h1, ⟨h2, h3, fun i hi => by simpa using List.all_eq_true.1 h8 i (List.mem_range.2 hi), h6, fun k i x hk hx => ?_⟩, fun p q x y hpq hx hy => ?_⟩
  · have := h7 k i x hk hx
    rwa [Nat.zero_add] at this
  · have := pairsB_spec h5 p q x y hpq hx hy
    rwa [Nat.zero_add, Nat.zero_add] at this
theorem sim_drw {rec : Rec} (hm : P.follows .mixedOrders = true) (hq : QuietCall P φ rec) {fl perm : List Nat} {js : List J} (hs : SRel φ nt m s g a w) (hc : chkDrw P φ nt ops perm js = true)
    (hok : (evJs rec js ⟨forgetEnv fl s.env, s.heap, s.ok⟩).ok = true) {id : Nat} (hQ : Post φ nt m s g w (evJs rec js ⟨forgetEnv fl s.env, s.heap, s.ok⟩) (Q .normal)) : (Code.region id ops true).wp P Q a w := by
  obtain ⟨hf, hO, hpair⟩ := chkDrw_spec hc
  have hs0 := (hs.forget fl s.ok).drew
  have hag := flatL_ag (rec := rec) (g := none) hf (Ag.refl (evJs_ok hok)) (fun _ _ h => by simp at h) trivial hok
  have hre := flatL_re (rec := rec) hf (Ag.refl (evJs_ok hok)) hok
  refine wp_region_any hm ?_
  refine wpAny_ord (m := m) (s0 := ⟨forgetEnv fl s.env, s.heap, s.ok⟩) (g0 := g) (w0 := w.drew) hq hO hag.ok hpair hre (fun g' a' w' hs' hfr => hQ g' a' w' (hs'.low hag) ?_)
    ops.size _ a w.drew [] (List.range ops.size) g ⟨by simp, fun p i hp => ?_, by simp, by simp, fun p hp _ => ?_, by simp, ?_, ?_⟩
  · rw [hag.heap]
    exact hs0.2.trans hfr
  · simp only [List.not_mem_nil, false_iff]
    rcases Nat.lt_or_ge i ops.size with h | h <;> simp [h]
  · rw [List.mem_range, ← hO.len, hO.lenX]; exact hp
  · exact hs0.1.congr (fun t => rfl) (by simp [sigma, topE, runTo, evXs])
  · have : (sigma rec (J.flatL none js) ⟨forgetEnv fl s.env, s.heap, s.ok⟩ []).heap = s.heap := by simp [sigma, topE, runTo, evXs]
    rw [this]
    exact Frame.refl _ _ _ _
end
end Go.VS
/-
  VS, part 27: code.
-/
namespace Go.VS
section
variable (P : Program) (φ : Nat → Nat) (nt : Nat)

/-- VS code for the model's code. What stands behind a jump is checked all the same. -/
def chkC : Code → C → Bool
  | .skip, .skip => true
  | .label _, .skip => true
  | .ret, .ret => true
  | .exit i, .exit j => i == j
  | .region _ ops draw, .reg js => !draw && J.fokL true [] [] js && chkXs P φ nt ops ops.toList (J.flatL none js)
  | .region _ ops draw, .drw _ perm js => draw && chkDrw P φ nt ops perm js
  | .seq x y, .seq a b => chkC x a && chkC y b
  | .cond c x y, .ite d a b => chkA φ c d && chkC x a && chkC y b
  | .block i x, .blk j a => i == j && chkC x a
  | .loop x, .loop _ a => chkC x a
  | .scope x, .seq .skip a => chkC x a
  | x, .seq a (.frz _) => chkC x a
  | x, .seq (.frz _) a => chkC x a
  | x, .seq (.keep _) a => chkC x a
  | _, _ => false
termination_by structural _ c => c
end
section
variable {P : Program} {φ : Nat → Nat}
variable {nt m : Nat} {s : St} {g : Gh} {a : Act} {w : World} {Q : Exit → Act → World → Prop}

def exOf : Ex → Exit
  | .normal => .normal
  | .exit id => .exit id
  | .ret => .ret
/-- Loops as 'rec' tells them. -/
def LoopOk (P : Program) (φ : Nat → Nat) (rec : Rec) : Prop :=
  ∀ (nt m : Nat) (live : List Nat) (x : Code) (c : C) (env : List (Nat × V)) (h : List O) (e : Ex) (env' : List (Nat × V)) (h' : List O), chkC P φ nt x c = true →
    rec (.loop m live c env h) = some (.out e env' h') → ∀ (g : Gh) (a : Act) (w : World) (Q : Exit → Act → World → Prop), SRel φ nt m ⟨env, h, true⟩ g a w →
      Post φ nt m ⟨env, h, true⟩ g w ⟨env', h', true⟩ (Q (exOf e)) → (Code.loop x).wp P Q a w

theorem Post.mono {s' : St} {R R' : Act → World → Prop} (h : Post φ nt m s g w s' R) (hr : ∀ a w, R a w → R' a w) : Post φ nt m s g w s' R' := fun g' a' w' h1 h2 => hr _ _ (h g' a' w' h1 h2)
theorem sim_C {rec : Rec} (hm : P.follows .mixedOrders = true) (hq : QuietCall P φ rec) (hl : LoopOk P φ rec) : ∀ (x : Code) (c : C) {s : St} {g : Gh} {a : Act} {w : World} {Q : Exit → Act → World → Prop}, chkC P φ nt x c = true →
    SRel φ nt m s g a w → (evC rec m c s).2.ok = true → Post φ nt m s g w (evC rec m c s).2 (Q (exOf (evC rec m c s).1)) → x.wp P Q a w := by
  intro x c
  -- freezing behind a piece of code
  have frzAfter : ∀ {x : Code} {b : C} {ds : List Nat} {s : St} {g : Gh} {a : Act} {w : World} {Q : Exit → Act → World → Prop},
      (∀ {Q : Exit → Act → World → Prop}, (evC rec m b s).2.ok = true → Post φ nt m s g w (evC rec m b s).2 (Q (exOf (evC rec m b s).1)) → x.wp P Q a w) →
      (evC rec m (.seq b (.frz ds)) s).2.ok = true → Post φ nt m s g w (evC rec m (.seq b (.frz ds)) s).2 (Q (exOf (evC rec m (.seq b (.frz ds)) s).1)) → x.wp P Q a w := by
    intro x b ds s g a w Q ih hok hQ
    simp only [evC] at hok hQ
    cases hb : evC rec m b s with
    | mk e s' =>
      rw [hb] at hok hQ ih
      cases e with
      | normal =>
        simp only at hok hQ
        refine ih (thawSlots_ok ds hok) fun g' a' w' h1 h2 => ?_
        obtain ⟨g2, k1, k2⟩ := sim_thaw ds h1 hok
        exact hQ g2 a' w' k1 (h2.trans k2)
      | exit id => exact ih hok hQ
      | ret => exact ih hok hQ
  have frzBefore : ∀ {x : Code} {b : C} {ds : List Nat} {s : St} {g : Gh} {a : Act} {w : World} {Q : Exit → Act → World → Prop}, SRel φ nt m s g a w →
      (∀ {s : St} {g : Gh} {Q : Exit → Act → World → Prop}, SRel φ nt m s g a w → (evC rec m b s).2.ok = true → Post φ nt m s g w (evC rec m b s).2 (Q (exOf (evC rec m b s).1)) → x.wp P Q a w) →
      (evC rec m (.seq (.frz ds) b) s).2.ok = true → Post φ nt m s g w (evC rec m (.seq (.frz ds) b) s).2 (Q (exOf (evC rec m (.seq (.frz ds) b) s).1)) → x.wp P Q a w := by
    intro x b ds s g a w Q hs ih hok hQ
    simp only [evC] at hok hQ
    obtain ⟨g2, k1, k2⟩ := sim_thaw ds hs (evC_ok hok)
    exact ih k1 hok fun g' a' w' h1 h2 => hQ g' a' w' h1 (k2.trans h2)
  fun_induction chkC P φ nt x c with
  | case1 => intro s g a w Q _ hs _ hQ; exact wp_skip (hQ g a w hs (Frame.refl _ _ _ _))
  | case2 => intro s g a w Q _ hs _ hQ; exact wp_label (hQ g a w hs (Frame.refl _ _ _ _))
  | case3 => intro s g a w Q _ hs _ hQ; exact wp_ret (hQ g a w hs (Frame.refl _ _ _ _))
  | case4 i j =>
    intro s g a w Q hc hs _ hQ
    simp at hc
    subst hc
    exact wp_exit (hQ g a w hs (Frame.refl _ _ _ _))
  | case5 id ops draw js =>
    intro s g a w Q hc hs hok hQ
    simp only [Bool.and_eq_true, Bool.not_eq_true'] at hc
    obtain ⟨⟨rfl, h2⟩, h3⟩ := hc
    exact sim_reg hq hs h2 h3 hok hQ
  | case6 id ops draw fl perm js =>
    intro s g a w Q hc hs hok hQ
    simp only [Bool.and_eq_true] at hc
    obtain ⟨rfl, h3⟩ := hc
    exact sim_drw hm hq hs h3 hok hQ
  | case7 x y b c ih1 ih2 =>
    intro s g a w Q hc hs hok hQ
    simp only [Bool.and_eq_true] at hc
    refine wp_seq (ih1 hc.1 hs ?_ fun g' a' w' h1 h2 => ?_)
    · simp only [evC] at hok
      split at hok
      · rename_i s' he; rw [he]; exact evC_ok hok
      · exact hok
    · simp only [evC] at hok hQ
      cases he : evC rec m b s with
      | mk e s' =>
        rw [he] at hok hQ h1 h2
        cases e with
        | normal => exact ih2 hc.2 h1 hok fun g2 a2 w2 k1 k2 => hQ g2 a2 w2 k1 (h2.trans k2)
        | exit id => exact hQ g' a' w' h1 h2
        | ret => exact hQ g' a' w' h1 h2
  | case8 c x y d b e ih1 ih2 =>
    intro s g a w Q hc hs hok hQ
    simp only [Bool.and_eq_true] at hc
    obtain ⟨⟨h1, h2⟩, h3⟩ := hc
    have rc := chkA_rel hs h1
    simp only [evC] at hok hQ
    split at hok
    · rename_i v hv
      rw [hv] at rc
      have hb := relD_bool (by simpa only [relV] using rc)
      simp only [hv] at hQ
      cases v with
      | true => exact wp_cond_true hb (ih1 h2 hs hok hQ)
      | false => exact wp_cond_false hb (ih2 h3 hs hok hQ)
    · simp at hok
  | case9 i x j b ih =>
    intro s g a w Q hc hs hok hQ
    simp only [Bool.and_eq_true, beq_iff_eq] at hc
    obtain ⟨rfl, h2⟩ := hc
    simp only [evC] at hok hQ
    cases he : evC rec m b s with
    | mk e s' =>
      rw [he] at hok hQ
      refine wp_block (ih h2 hs ?_ fun g' a' w' h3 h4 => ?_)
      · rw [he]
        cases e with
        | normal => exact hok
        | exit k => simp only at hok; split at hok <;> exact hok
        | ret => exact hok
      · rw [he] at h3 h4 ⊢
        cases e with
        | normal => exact hQ g' a' w' h3 h4
        | exit k =>
          simp only [exOf, Exit.inBlock] at *
          split
          · rename_i hk
            rw [if_pos hk] at hQ
            exact hQ g' a' w' h3 h4
          · rename_i hk
            rw [if_neg hk] at hQ
            exact hQ g' a' w' h3 h4
        | ret => exact hQ g' a' w' h3 h4
  | case10 x live b ih =>
    intro s g a w Q hc hs hok hQ
    simp only [evC] at hok hQ
    split at hok
    · rename_i p hp
      simp only [hp] at hQ
      split at hok
      · rename_i e env h hr
        simp only [hr] at hQ
        obtain ⟨g', k1, k2⟩ := canon_rel hs hp true
        refine hl nt m live x b p.1 p.2 e env h hc hr g' a w Q k1 fun g2 a2 w2 h1 h2 => hQ g2 a2 w2 ⟨h1.env, h1.heap, h1.size, h1.defers, h1.len⟩ (k2.trans h2)
      · simp at hok
    · simp at hok
  | case11 x b ih =>
    intro s g a w Q hc hs hok hQ
    simp only [evC] at hok hQ
    refine wp_scope_straight (ih hc hs hok fun g' a' w' h1 h2 => ?_)
    have := hQ g' a' w' h1 h2
    cases he : (evC rec m b s).1 <;> rw [he] at this <;> exact this
  | case12 x b ds _ _ ih =>
    intro s g a w Q hc hs hok hQ
    exact frzAfter (fun h1 h2 => ih hc hs h1 h2) hok hQ
  | case13 x ds b _ _ ih =>
    intro s g a w Q hc hs hok hQ
    exact frzBefore hs (fun h1 h2 h3 => ih hc h1 h2 h3) hok hQ
  | case14 x ds b _ _ ih =>
    intro s g a w Q hc hs hok hQ
    simp only [evC] at hok hQ
    cases hp : canon m ds s.env s.heap with
    | none =>
      rw [hp] at hok
      simp only at hok
      have := evC_ok hok
      simp at this
    | some p =>
      rw [hp] at hok hQ
      simp only at hok hQ
      obtain ⟨g2, k1, k2⟩ := canon_rel hs hp s.ok
      exact ih hc k1 hok fun g' a' w' h1 h2 => hQ g' a' w' h1 (k2.trans h2)
  | case15 => intro s g a w Q hc; simp at hc
end
end Go.VS
