import Derived.Test.YtjpdopldkeodgaaGreatV02
import Derived.RangeFuncRecord
import Derived.OrdersIn
import Derived.TacticsIn
import Derived.Scope
import Derived.Test.YtjpdopldkeodgaaGreatV00
import Derived.Tactics
import Derived.Orders
set_option linter.all false
namespace Go.VS
def Wd (r:Option Nat):Fence:={ Fence.wide with round:=r }
section
variable {P:Program} {φ:Phi}
variable {nt m dB:Nat} {s:St} {g:Gh} {a:Act} {w:World} {K:Act→World→Prop} {Q:Exit→Act→World→Prop} {o:Oper}
variable {r:Option Nat} {n:Nat}
theorem callsIn_wd {f:FuncId} {args:Array Value} {R:Ending→World→Prop} (h:Calls P f args w R):CallsIn (Wd r) n P f args w R:=(callsIn_wide (n:=n)).2 h
theorem rowsIn_wd {row:String} {args:Array Value} {R:Value→World→Prop} (h:Rows P row args w R):RowsIn (Wd r) n P row args w R :=
 fun c cs _=>let ⟨v,w',r,s⟩:=h c cs;⟨v,w',r,stepsIn_wide.2 s⟩
theorem wd_depth:(Wd r).depth.isSome=true→1≤n:=fun h=>by simp [Wd,Fence.wide] at h
theorem wpIn_of_wp (hd:∀c,o.op≠.defer c) (h:o.wp P a w K Q):o.wpIn (Wd r) n P a w K Q:=by
 refine ⟨fun _ _=>trivial,?_⟩
 rw [Oper.semAt_eq _ _ _ hd]
 unfold Oper.wp at h
 generalize (execOp a.eval o).run P w=res at h ⊢
 cases res with
 | ok x w' =>
  cases x<;>simp only [Oper.upon,Oper.uponIn] at h ⊢
  case value=>exact h
  case skip=>exact h
  case defer=>exact h
  case enter=>exact ⟨wd_depth,callsIn_wd h⟩
  case row=>exact ⟨wd_depth,rowsIn_wd h⟩
 | halt x w' =>
  cases x<;>simp only [Oper.upon,Oper.uponIn] at h ⊢<;>exact h
theorem chkI_defer {i:I} (h:chkI P φ nt o i=true) (hb:∀d,i≠.bad d):∀c,o.op≠.defer c:=by
 intro c hc
 cases i<;>simp [chkI,hc] at h
 all_goals exact absurd rfl (hb _)
theorem wpIn_scope_straight {F:Fence} {c:Code} (h:c.wpIn F n P (Exit.noGoto Q) a w):(Code.scope c).wpIn F n P Q a w:=by
 intro b k cs hro hb hr
 have h0:(lone (b.atR a (.code (.scope c)::k)) cs w).fenced P F:=fenced_calm hb hr rfl
 have s1:step P (lone (b.atR a (.code (.scope c)::k)) cs w) = .next (lone (b.atR a (.code c::.inScope c::k)) cs w):=step_lone_go (by simp [stepG,stepG.exec,Frame.atR])
 have s2:∀{a:Act} {w:World},step P (lone (b.atR a (.inScope c::k)) cs w) = .next (lone (b.atR a k) cs w):=step_lone_go (by simp [stepG,stepG.exec,Frame.atR])
 obtain ⟨e,a₁,w₁,hq,harr⟩:=h b (.inScope c::k) cs hro hb hr
 cases e with
 | normal=>exact ⟨.normal,a₁,w₁,hq,.head h0 s1 (StepsIn.trans harr (.one (fenced_calm hb hr rfl) s2))⟩
 | exit id =>
  have hx:exitTo id (.inScope c::k)=exitTo id k:=by simp [exitTo]
  exact ⟨.exit id,a₁,w₁,hq,fun k' hk=>.head h0 s1 (harr.1 k' (by rw [hx];exact hk)),
   fun hr' hk=>let ⟨k₁,h1,h2⟩:=harr.2 hr' (by rw [hx];exact hk);⟨k₁,h1,.head h0 s1 h2⟩⟩
 | goto l=>exact hq.elim
 | ret=>exact ⟨_,a₁,w₁,hq,.of_steps (.one h0 s1) harr⟩
 | panic ch=>exact ⟨_,a₁,w₁,hq,.of_steps (.one h0 s1) harr⟩
 | outgrown=>exact ⟨_,a₁,w₁,hq,.of_steps (.one h0 s1) harr⟩
def isC:Obj→Bool
 | .cells ..=>true
 | _=>false
theorem cell_put_other {b D i:Nat} {x:Obj} (h:b≠D):(w.putObj D x).cell? ⟨b,i,none⟩=w.cell? ⟨b,i,none⟩:=cell_of_heap (World.putObj_heap_other h) i
theorem cell_none {D i:Nat} {x:Obj} (h:w.heap[D]?=some x) (hx:isC x=false):w.cell? ⟨D,i,none⟩=none:=by
 simp only [World.cell?,h]
 cases x<;>simp [isC] at hx ⊢
theorem ext_put {I:Nat→Nat} {D:Nat} {x y:Obj} (h:w.heap[D]?=some x) (hx:isC x=false) (hy:isC y=false):Ext I w I (w.putObj D y) :=
 ⟨fun _=>Nat.le_refl _,fun b i _=>by
  by_cases hb:b=D
  ·subst hb
   rw [cell_none h hx,cell_none (World.putObj_heap_same (heap_lt h)) hy]
  ·exact cell_put_other hb⟩
theorem hle_put {h:List O} {D:Nat} {x y:Obj} (hh:w.heap[D]?=some x) (hx:isC x=false) (hy:isC y=false) (hn:∀k,(hget h k).live=true→g.β k≠D):HLe h g w h g (w.putObj D y) where
 ext:=ext_put hh hx hy
 len:=Nat.le_refl _
 arr n es _ he:=⟨he,rfl,rfl,rfl,Stays.of_eq (World.putObj_heap_other (hn n (es_live he)))⟩
 mp n kv _ hk:=⟨⟨kv,hk⟩,rfl⟩
 lp n _ hk:=⟨hk,rfl⟩
theorem hrel_put {h:List O} {D:Nat} {x y:Obj} (hr:HRel φ h g w) (hh:w.heap[D]?=some x) (hx:isC x=false) (hy:isC y=false) (hn:∀k,(hget h k).live=true→g.β k≠D):HRel φ h g (w.putObj D y) where
 obj n:=by
  by_cases hl:(hget h n).live=true
  ·exact objRel_move (hle_put hh hx hy hn) (World.putObj_heap_other (hn n hl)) rfl (hr.obj n)
  ·cases hq:hget h n<;>simp_all [O.live,objRel]
 inj:=hr.inj
 new b hb:=hr.new b (by simpa using hb)
theorem frame_put {h h':List O} {g':Gh} {w':World} {D:Nat} {x y:Obj} (hf:Frame m h g w h' g' w') (hh:w.heap[D]?=some x) (hy:isC y=false)
  (hn:∀k,(hget h k).live=true→g.β k≠D):Frame m h g (w.putObj D y) h' g' (w'.putObj D y) where
 ext:=⟨hf.ext.le,fun b i hi=>by
  by_cases hb:b=D
  ·subst hb
   have h1:=heap_lt hh
   rw [cell_none (World.putObj_heap_same h1) hy,cell_none (World.putObj_heap_same (Nat.lt_of_lt_of_le h1 hf.size)) hy]
  ·rw [cell_put_other hb,cell_put_other hb];exact hf.ext.cell b i hi⟩
 size:=by simpa using hf.size
 os:=hf.os
 tape:=hf.tape
 output:=hf.output
 pin:=hf.pin
 keep b hb hl:=by
  have h1:=hf.keep b (by simpa using hb) hl
  refine ⟨?_,h1.2⟩
  by_cases hbD:b=D
  ·subst hbD
   have h2:=heap_lt hh
   rw [World.putObj_heap_same h2,World.putObj_heap_same (Nat.lt_of_lt_of_le h2 hf.size)]
  ·rw [World.putObj_heap_other hbD,World.putObj_heap_other hbD];exact h1.1
 lives k hk:=by simpa using hf.lives k hk
 les k hk:=by
  have h1:=hf.les k hk
  refine ⟨fun es he=>?_,h1.mp,h1.lp⟩
  obtain ⟨k1,k2,k3⟩:=h1.arr es he
  have hb:=hn k (es_live k1)
  have hb':g.β k≠D:=hb
  refine ⟨k1,k2,?_⟩
  rw [World.putObj_heap_other hb',World.putObj_heap_other hb']
  exact k3
theorem frame_put_new {h h':List O} {g':Gh} {w':World} {D:Nat} {x y:Obj} (hf:Frame m h g w h' g' w') (hr:HRel φ h g w) (hD:w.heap.size≤D) (hh:w'.heap[D]?=some x) (hx:isC x=false) (hy:isC y=false) :
  Frame m h g w h' g' (w'.putObj D y) where
 ext:=hf.ext.trans (ext_put hh hx hy)
 size:=by simpa using hf.size
 os:=hf.os
 tape:=hf.tape
 output:=hf.output
 pin:=hf.pin
 keep b hb hl:=by
  have h1:=hf.keep b hb hl
  exact ⟨by rw [World.putObj_heap_other (by omega)];exact h1.1,h1.2⟩
 lives k hk:=hf.lives k hk
 les k hk:=by
  have h1:=hf.les k hk
  refine ⟨fun es he=>?_,h1.mp,h1.lp⟩
  obtain ⟨k1,k2,k3⟩:=h1.arr es he
  have hb:=hr.block (es_live k1)
  refine ⟨k1,k2,?_⟩
  rw [World.putObj_heap_other (by omega)]
  exact k3
theorem putObj_putObj {D:Nat} {x y:Obj}:(w.putObj D x).putObj D y=w.putObj D y:=by
 simp [World.putObj]
theorem DefOk.put {h:List O} {ds:List Deferred} {D:Nat} {x y:Obj} (hd:DefOk dB h g ds w) (hh:w.heap[D]?=some x) (hx:∀l,x≠.deferred l):DefOk dB h g ds (w.putObj D y) where
 at_ d hm:=by
  obtain ⟨E,h1,h2,h3,h4⟩:=hd.at_ d hm
  refine ⟨E,h1,h2,?_,h4⟩
  rw [World.putObj_heap_other]
  ·exact h3
  ·intro he
   subst he
   rw [hh] at h3
   simp at h3
   exact hx _ h3
 nodup:=hd.nodup
 le:=by simpa using hd.le
theorem SRel.putObj {D:Nat} {x y:Obj} (hs:SRel φ nt m dB s g a w) (hh:w.heap[D]?=some x) (hx:isC x=false) (hd:∀l,x≠.deferred l) (hy:isC y=false) (hn:∀k,(hget s.heap k).live=true→g.β k≠D) :
  SRel φ nt m dB s g a (w.putObj D y) where
 env k:=relV_le (hle_put hh hx hy hn) (hs.env k)
 heap:=hrel_put hs.heap hh hx hy hn
 size:=hs.size
 defers:=hs.defers.put hh hd
 len:=hs.len
end
end Go.VS
namespace Go.VS
def finRec (rc:Loop) (e:Ex):Loop:={ rc with state:=if e = .normal then .ready else .done,pending:=exCode e }
def RoundOk (P:Program) (φ:Phi) (rec:Rec):Prop :=
 ∀(ps:List Nat) (A B:C) (xs:List V) (env:List (Nat×V)) (h:List O) (e:Ex) (env':List (Nat×V)) (h1:List O),rec (.round ps A B xs env h)=some (.out e env' h1) →
 ∀(n:Nat) (r:Option Nat) (g:Gh) (w:World) (l:Nat) (rc:Loop) (nt:Nat) (args:List Value),φ.lk ps A B rc.assign rc.body nt→nt≤rc.tmps.size→rc.params=ps.toArray→HRel φ h g w →
  relVs φ h g w xs args→relEnv φ h g w env rc.tmps→xs.length=ps.length→w.heap[l]?=some (.loop rc)→rc.state = .ready→(∀k,(hget h k).live=true→g.β k≠l) →
  RoundIn (Wd r) n P l rc.fn ((rc.params.zip args.toArray).foldl (fun tmps (t,a)=>tmps.setIfInBounds t a) rc.tmps) rc.assign rc.body w fun e' w' =>
   ∃g',e' = .returned (.bool (exCode e).isNone)∧HRel φ h1 g' w'∧Frame h.length h g (w.putObj l (.loop (finRec rc e))) h1 g' w'
section
variable {P:Program} {φ:Phi}
variable {nt m dB:Nat} {s:St} {g:Gh} {a:Act} {w:World} {K:Act→World→Prop} {Q:Exit→Act→World→Prop} {o:Oper}
variable {r:Option Nat} {n:Nat}
theorem callY_spec {rec:Rec} {h:List O} {x:V} {xs:List V} {v2:V} {h2:List O} (hc:callY rec h x xs=some (v2,h2)):∃k ps A B env L e env' h1,x = .yld k∧hget h k = .lp ps A B .normal env∧xs.length=ps.length ∧
  cut (h.set k .dead) 0 (V.locsL xs++envLocs env)=some L∧k∉L∧rec (.round ps A B (V.renL (L.idxOf ·) xs) (envRen (L.idxOf ·) env) (sub (h.set k .dead) L))=some (.out e env' h1)∧L.length≤h1.length ∧
  v2 = .d (.b (exCode e).isNone)∧h2=mergeH (h.set k (.lp ps A B e env)) L h1:=by
 unfold callY at hc
 split at hc<;>try (simp at hc;done)
 rename_i k
 split at hc<;>try (simp at hc;done)
 rename_i ps A B env hk
 split at hc<;>try (simp at hc;done)
 rename_i hlen
 split at hc<;>try (simp at hc;done)
 rename_i L hL
 split at hc<;>try (simp at hc;done)
 rename_i hn
 split at hc<;>try (simp at hc;done)
 rename_i e env' h1 hr
 split at hc<;>try (simp at hc;done)
 rename_i hle
 simp only [Option.some.injEq,Prod.mk.injEq] at hc
 refine ⟨k,ps,A,B,env,L,e,env',h1,rfl,hk,hlen,hL,hn,hr,hle,?_,?_⟩
 ·rw [←hc.1];cases e<;>rfl
 ·rw [←hc.2];simp [mergeH]
theorem sub_congr {h h':List O} {L:List Nat} (he:∀n∈L,hget h n=hget h' n):sub h L=sub h' L:=by
 unfold sub
 exact List.map_congr_left fun n hn=>by rw [he n hn]
theorem turned_put {D:Nat} {y:Obj}:Turned w (w.putObj D y) D:=⟨by simp,fun _ hk=>World.putObj_heap_other hk,rfl,rfl,rfl⟩
theorem relEnv_ren {h:List O} {L:List Nat} {env:List (Nat×V)} {tmps:Array Value} (hl:∀n∈envLocs env,n∈L) (hr:relEnv φ h g w env tmps):relEnv φ (sub h L) (gcut g L) w (envRen (L.idxOf ·) env) tmps:=by
 intro p hp
 simp only [envRen,List.mem_map] at hp
 obtain ⟨q,hq,rfl⟩:=hp
 exact relV_ren (fun n hn=>hl n (env_locs hq hn)) (hr q hq)
theorem sub_apart {h:List O} {L:List Nat} {k:Nat} (hr:HRel φ h g w) (hk:k∉L) (hl:(hget h k).live=true):∀j,(hget (sub (h.set k .dead) L) j).live=true→(gcut g L).β j≠g.β k:=by
 intro j hj hb
 by_cases hlt:j<L.length
 ·have hg:L[j]?=some L[j]:=by simp [hlt]
  have hne:L[j]≠k:=fun he=>hk (he▸List.getElem_mem hlt)
  rw [sub_get hg,ren_live,hget_set_other hne] at hj
  simp only [gcut,List.getD,hg,Option.getD_some] at hb
  exact hne (hr.inj _ _ hj hl hb)
 ·rw [sub_out (by omega)] at hj;simp [O.live] at hj
theorem sim_cally {rec:Rec} (hy:RoundOk P φ rec) (hs:SRel φ nt m dB s g a w) {d:Option Nat} {x:A} {xs:List A} (hc:chkI P φ nt o (.cally d x xs)=true) (hok:(evI rec (.cally d x xs) s).ok=true)
  (hK:After φ nt m dB s g w (evI rec (.cally d x xs) s) o a K):o.wpIn (Wd r) n P a w K Q:=by
 have hdf:=chkI_defer hc (by simp)
 simp only [chkI,Bool.and_eq_true] at hc
 obtain ⟨hd,h⟩:=hc
 split at h
 ·rename_i c ho
  split at h
  ·rename_i y hcal
   simp only [Bool.and_eq_true] at h
   obtain ⟨hx,hxs⟩:=h
   simp only [evI] at hok hK
   have rx:=chkA_rel hs hx
   have rxs:=chkAs_rel hs hxs
   obtain ⟨⟨v2,h2⟩,hv⟩:=putHO_some hok
   rw [hv] at hK
   obtain ⟨k,ps,A,B,env,L,e,env',h1,hxk,hk,hlen,hL,hkL,hrec,hle,rfl,rfl⟩:=callY_spec hv
   rw [hxk] at rx
   simp only [relV] at rx
   have hey:=rx.2.2 (by rw [hk];rfl)
   have hl:(hget s.heap k).live=true:=by rw [hk];rfl
   have hobj:=hs.heap.obj k
   rw [hk] at hobj
   obtain ⟨rc,nt',hb,hps,hlk,hnt,henv,hst,hpe,hI⟩:=hobj
   simp only [if_true] at hst
   have hal:(c.args.toList.map a.eval).length=ps.length:=by
    rw [←relVs_length rxs]
    exact hlen
   refine ⟨fun _ _=>trivial,?_⟩
   rw [Oper.semAt_eq _ _ _ hdf]
   have hyd:=run_yield (P:=P) hb (args:=c.args.map a.eval) (by rw [hps];simpa using hal)
   have hrun:(execOp a.eval o).run P w = .ok (.round (g.β k) rc.fn ((rc.params.zip (c.args.map a.eval)).foldl (fun tmps (t,a)=>tmps.setIfInBounds t a) rc.tmps) rc.assign rc.body) w:=by
    simp [execOp,ho,resolve,hcal,hey,Deferred.ofValue,invoke,hyd]
   rw [hrun,Oper.uponIn_round]
   refine ⟨wd_depth,?_⟩
   obtain ⟨hnd,hroots,hcl,_,_⟩:=cut_spec hL
   obtain ⟨kS,kF,kle⟩:=hs.kill hl s.ok
   have hround:=hy ps A B _ _ _ e env' h1 hrec (n - 1) r (gcut g L) w (g.β k) rc nt' (c.args.toList.map a.eval) hlk hnt hps (hrel_cut hL kS.heap)
    (relVs_ren (fun n hn=>hroots n (List.mem_append_left _ hn)) (relVs_le kle rxs)) (relEnv_ren (fun n hn=>hroots n (List.mem_append_right _ hn)) (relEnv_move kle henv))
    (by rw [renL_length];exact hlen) hb hst (sub_apart hs.heap hkL hl)
   have hargs:(c.args.toList.map a.eval).toArray=c.args.map a.eval:=by rw [←Array.toList_map]
   rw [hargs] at hround
   refine RoundIn.mono hround fun e' w' hh=>?_
   obtain ⟨g1,rfl,hH1,hfr⟩:=hh
   have ht:Turned w (w.putObj (g.β k) (.loop (finRec rc e))) (g.β k):=turned_put
   have hE:Ext g.I w g.I (w.putObj (g.β k) (.loop (finRec rc e))):=ext_put hb rfl rfl
   have hle1:HLe s.heap g w (s.heap.set k (.lp ps A B e env)) (g.setI g.I) (w.putObj (g.β k) (.loop (finRec rc e))) :=
    hle_turn hs.heap hl ht hE (fun es he=>by simp [O.es?] at he) (fun kv hk=>by simp at hk) (fun _=>by rw [hk];rfl)
   have hH:HRel φ (s.heap.set k (.lp ps A B e env)) (g.setI g.I) (w.putObj (g.β k) (.loop (finRec rc e))) :=
    hrel_turn hs.heap hl ht hle1 (fun _ _=>rfl) ⟨finRec rc e,nt',World.putObj_heap_same (heap_lt hb),hps,hlk,hnt,relEnv_move hle1 henv,rfl,rfl,hI⟩
   have hF1:=frame_turn (m:=m) (.lp ps A B e env) hl ht hE (fun _ _=>rfl) hle1
   have hsub:sub (s.heap.set k .dead) L=sub (s.heap.set k (.lp ps A B e env)) L:=sub_congr fun n hn=>by
    have hne:n≠k:=fun he=>hkL (he▸hn)
    rw [hget_set_other hne,hget_set_other hne]
   rw [hsub,sub_length] at hfr
   have M:Merge φ (s.heap.set k (.lp ps A B e env)) L g (w.putObj (g.β k) (.loop (finRec rc e))) h1 g1 w':=⟨hH,hnd,fun n hn=>by simpa using (hcl n hn).1,hle,hH1,hfr⟩
   have hlen':m≤(s.heap.set k (.lp ps A B e env)).length:=by simpa using hs.len
   have hF:=hF1.trans (M.frame hlen')
   have hS:∀ok,SRel φ nt m dB ⟨s.env,mergeH (s.heap.set k (.lp ps A B e env)) L h1,ok⟩ (mergeG (s.heap.set k (.lp ps A B e env)) L g g1) a w':=fun ok =>
    ⟨fun j=>relV_le (hle1.trans M.hle) (hs.env j),M.hrel,hs.size,hs.defers.frame hF,Nat.le_trans hlen' M.hle.len⟩
   obtain ⟨e1,e2⟩:=dstMay_spec hd
   refine hK (mergeG (s.heap.set k (.lp ps A B e env)) L g g1) (.bool (exCode e).isNone) w' ?_ ?_
   ·rw [e1]
    cases d with
    | none=>exact hS _
    | some d=>exact (hS s.ok).putV (e2 d rfl) (by simp [relV,relD])
   ·cases d with
    | none=>exact hF
    | some d=>exact hF
  ·simp at h
 ·simp at h
theorem sim_In {rec:Rec} (hq:QuietCall P φ rec) (hy:RoundOk P φ rec) (hs:SRel φ nt m dB s g a w) {i:I} (hc:chkI P φ nt o i=true) (hok:(evI rec i s).ok=true)
  (hK:After φ nt m dB s g w (evI rec i s) o a K):o.wpIn (Wd r) n P a w K Q:=by
 by_cases hi:i.isY=true
 ·cases i<;>simp [I.isY] at hi
  exact sim_cally hy hs hc hok hK
 ·refine wpIn_of_wp (chkI_defer hc fun d he=>?_) (sim_I hq hs hc (by simpa using hi) hok hK)
  subst he
  simp [evI,St.fail] at hok
end
end Go.VS
namespace Go.VS
def I.reads:I→List A
 | .mv _ x=>[x]
 | .pick _ c a b=>[c,a,b]
 | .box _ x _ _=>[x]
 | .new ..=>[]
 | .build _ _ ps=>ps.map fun p=>p.2.2
 | .buildSl _ _ _ _ ps _=>ps.map fun p=>p.2
 | .ld _ x _ _=>[x]
 | .st x y _ _=>[x,y]
 | .fa _ x _ _=>[x]
 | .ixs _ x i _=>[x,i]
 | .ixa _ x i _ _=>[x,i]
 | .fld _ x _ _ _=>[x]
 | .bin _ _ x y=>[x,y]
 | .eqv _ _ x y _=>[x,y]
 | .eqb _ _ x y=>[x,y]
 | .isnil _ _ x _=>[x]
 | .un _ _ x=>[x]
 | .cvi _ _ x=>[x]
 | .len _ x _=>[x]
 | .sl _ x lo hi _=>x::(lo.toList++hi.toList)
 | .app _ x y _=>[x,y]
 | .clr _ x _ _=>[x]
 | .copy _ x y _=>[x,y]
 | .ext _ x _=>[x]
 | .mkf _ _ a b=>a++b
 | .mkm _=>[]
 | .mput m k v _=>[m,k,v]
 | .mget _ m k _ _ _=>[m,k]
 | .mdel m k _=>[m,k]
 | .call _ _ xs=>xs
 | .callk _ _ xs=>xs
 | .callr _ _ xs=>xs
 | .callv _ x xs=>x::xs
 | .callvr _ x xs=>x::xs
 | .nck _ x=>[x]
 | .newf ..=>[]
 | .cl0 _ x _=>[x]
 | .stf _ y _ _=>[y]
 | .sl3 _ x lo hi mz _=>[x,lo,hi,mz]
 | .mn _ x y=>[x,y]
 | .cap _ x=>[x]
 | .appz _ x k _ _=>[x,k]
 | .ovl _ _ x y _=>[x,y]
 | .bad _=>[]
 | .ldd _ x _ _=>[x]
 | .fad _ x _ _=>[x]
 | .cally _ x xs=>x::xs
 | .appf _ x y _=>[x,y]
 | .lit0 ..=>[]
 | .ldz _ x _ _=>[x]
 | .apk _ x y _=>[x,y]
 | .callz _ _ xs=>xs
 | .calls _ _ xs=>xs
 | .mki _ _ x=>[x]
 | .inv _ _ _ x xs=>x::xs
 | .mx _ x y=>[x,y]
 | .mks _ _ _ n k=>[n,k]
def I.quiet:I→Bool
 | .mv .. | .pick .. | .build .. | .ld .. | .fa .. | .ixs .. | .ixa .. | .fld .. | .bin .. | .eqv .. | .eqb .. | .isnil .. | .un .. | .cvi .. | .len .. | .sl .. | .ext .. | .mkf .. | .mget ..
 | .call .. | .callv .. | .nck .. | .newf .. | .cl0 .. | .sl3 .. | .mn .. | .cap .. | .ovl .. | .ldd .. | .fad .. | .appf .. | .lit0 .. | .calls .. | .mki .. | .inv .. | .mx ..=>true
 | .box _ _ _ fz=>fz
 | .buildSl _ _ _ _ _ fz=>fz
 | _=>false
def I.blind:I→Bool
 | .mv .. | .pick .. | .build .. | .fld .. | .bin .. | .eqv .. | .eqb .. | .un .. | .cvi .. | .ext .. | .mkf .. | .call .. | .callv .. | .nck .. | .newf .. | .mn .. | .ldd .. | .fad .. | .lit0 .. | .mki .. | .inv .. | .mx ..=>true
 | .box _ _ _ fz=>fz
 | .buildSl _ _ _ _ _ fz=>fz
 | _=>false
def W (d:Option Nat) (v:V):List (Nat×V) :=
 match d with
 | some d=>[(d,v)]
 | none=>[]
def Alike (q:Bool) (d:Option Nat) (s s' r r':St):Prop :=
 r.ok=true→s'.ok=true→r'.ok=true∧∃v,r.env=W d v++s.env∧r'.env=W d v++s'.env∧((r.heap=s.heap∧r'.heap=s'.heap)∨(q=false∧r.heap=r'.heap))
section
variable {q:Bool} {s s':St}
theorem Alike.put {d:Nat} {v:V}:Alike q (some d) s s' (s.put d v) (s'.put d v):=fun _ h'=>⟨h',v,rfl,rfl,.inl ⟨rfl,rfl⟩⟩
theorem Alike.putO {d:Nat} {o:Option V}:Alike q (some d) s s' (s.putO d o) (s'.putO d o):=by
 cases o with
 | none=>intro h;simp [St.putO,St.fail] at h
 | some v=>exact Alike.put
theorem Alike.fail {d:Option Nat} {r:St}:Alike q d s s' s.fail r:=fun h=>by simp [St.fail] at h
theorem Alike.skip {r:St} (hr:r=s'):Alike q none s s' s r:=by subst hr;exact fun _ h'=>⟨h',.u,rfl,rfl,.inl ⟨rfl,rfl⟩⟩
theorem Alike.putH {d:Nat} {o:Option (V×List O)}:Alike false (some d) s s' (s.putH d o) (s'.putH d o):=by
 cases o with
 | none=>intro h;simp [St.putH,St.fail] at h
 | some p=>exact fun _ h'=>⟨h',p.1,rfl,rfl,.inr ⟨rfl,rfl⟩⟩
theorem Alike.putHO {d:Option Nat} {o:Option (V×List O)}:Alike false d s s' (s.putHO d o) (s'.putHO d o):=by
 cases o with
 | none=>intro h;simp [St.putHO,St.fail] at h
 | some p =>
  cases d with
  | none=>exact fun _ h'=>⟨h',.u,rfl,rfl,.inr ⟨rfl,rfl⟩⟩
  | some d=>exact fun _ h'=>⟨h',p.1,rfl,rfl,.inr ⟨rfl,rfl⟩⟩
theorem Alike.putQ {d:Option Nat} {o:Option V}:Alike q d s s' (s.putQ d o) (s'.putQ d o):=by
 cases o with
 | none=>intro h;simp [St.putQ,St.fail] at h
 | some v =>
  cases d with
  | none=>exact fun _ h'=>⟨h',.u,rfl,rfl,.inl ⟨rfl,rfl⟩⟩
  | some d=>exact fun _ h'=>⟨h',v,rfl,rfl,.inl ⟨rfl,rfl⟩⟩
theorem Alike.setHeap {o:Option (List O)}:Alike false none s s' (s.setHeap o) (s'.setHeap o):=by
 cases o with
 | none=>intro h;simp [St.setHeap,St.fail] at h
 | some h=>exact fun _ h'=>⟨h',.u,rfl,rfl,.inr ⟨rfl,rfl⟩⟩
end
theorem map_get {s s':St} {xs:List A} (h:∀x∈xs,s.get x=s'.get x):xs.map s'.get=xs.map s.get:=List.map_congr_left fun x hx=>(h x hx).symm
theorem intOr_get {s s':St} {dflt:Int} {x:Option A} (h:∀a∈x.toList,s.get a=s'.get a):intOr s' dflt x=intOr s dflt x:=by
 cases x with
 | none=>rfl
 | some a=>simp [intOr,h a (by simp)]
theorem evI_alike {rec:Rec} {i:I} {s s':St} (h:∀x∈i.reads,s.get x=s'.get x) (hh:s.heap=s'.heap∨i.blind=true):Alike i.quiet i.wr s s' (evI rec i s) (evI rec i s'):=by
 cases i with
 | box d x n fz =>
  have hx:=h x (by simp [I.reads])
  simp only [evI,←hx]
  split
  ·cases fz with
   | true=>exact Alike.put
   | false=>simp [I.blind] at hh;simp only [←hh,I.quiet,Bool.false_eq_true,if_false];exact Alike.putH
  ·exact Alike.fail
 | stf d x n fz =>
  have hx:=h x (by simp [I.reads])
  simp [I.blind] at hh
  simp only [evI,←hx,I.quiet,I.wr]
  split
  ·cases fz with
   | true=>exact Alike.putO
   | false=>simp only [←hh,Bool.false_eq_true,if_false];exact Alike.putH
  ·exact Alike.fail
 | buildSl d es n z ps fz =>
  have hx:(ps.map fun p=>(p.1,s'.get p.2))=ps.map fun p=>(p.1,s.get p.2):=List.map_congr_left fun p hp=>by rw [h p.2 (by simp only [I.reads];exact List.mem_map.2 ⟨p,hp,rfl⟩)]
  simp only [evI,hx]
  cases fz with
  | true=>exact Alike.putO
  | false=>simp [I.blind] at hh;simp only [←hh,I.quiet,Bool.false_eq_true,if_false];exact Alike.putH
 | build d z ps =>
  have hx:(ps.map fun p=>(p.1,p.2.1,s'.get p.2.2))=ps.map fun p=>(p.1,p.2.1,s.get p.2.2):=List.map_congr_left fun p hp=>by rw [h p.2.2 (by simp only [I.reads];exact List.mem_map.2 ⟨p,hp,rfl⟩)]
  simp only [evI,hx]
  exact Alike.putO
 | st x y n fz =>
  have hx:=h x (by simp [I.reads])
  have hy:=h y (by simp [I.reads])
  simp [I.blind] at hh
  simp only [evI,←hx,←hy,←hh,I.quiet]
  cases fz with
  | false =>
   have:(I.st x y n false).wr=none:=by cases x<;>rfl
   rw [this]
   exact Alike.setHeap
  | true =>
   cases x with
   | k z=>simp only [if_true];exact Alike.fail
   | t d =>
    simp only [if_true,I.wr]
    generalize s.get (.t d)=v
    cases v with
    | loc m r c =>
     cases r with
     | succ r=>exact Alike.fail
     | zero =>
      cases c with
      | succ c=>exact Alike.fail
      | zero =>
       simp only
       split
       ·split
        ·exact Alike.putH
        ·exact Alike.fail
       ·exact Alike.fail
    | _=>exact Alike.fail
 | pick d c a b =>
  have hc:=h c (by simp [I.reads]);have ha:=h a (by simp [I.reads]);have hb:=h b (by simp [I.reads])
  simp only [evI,←hc,←ha,←hb]
  split
  ·exact Alike.put
  ·exact Alike.fail
 | nck d x =>
  have hx:=h x (by simp [I.reads])
  simp only [evI,←hx]
  split<;>first | exact Alike.put | exact Alike.fail
 | mkf d f a b =>
  have ha:=map_get (xs:=a) (fun x hx=>h x (by simp [I.reads,hx]))
  have hb:=map_get (xs:=b) (fun x hx=>h x (by simp [I.reads,hx]))
  simp only [evI,ha,hb]
  split<;>exact Alike.put
 | call d f xs =>
  simp only [evI,map_get (xs:=xs) h]
  exact Alike.putQ
 | callv d x xs =>
  have hx:=h x (by simp [I.reads])
  simp only [evI,←hx,map_get (xs:=xs) (fun y hy=>h y (by simp [I.reads,hy]))]
  exact Alike.putQ
 | inv d nm tbl x xs =>
  have hx:=h x (by simp [I.reads])
  simp only [evI,←hx,map_get (xs:=xs) (fun y hy=>h y (by simp [I.reads,hy]))]
  exact Alike.putQ
 | mki d t x=>have hx:=h x (by simp [I.reads]);simp only [evI,←hx];exact Alike.putO
 | mx d x y=>have hx:=h x (by simp [I.reads]);have hy:=h y (by simp [I.reads]);simp only [evI,←hx,←hy];exact Alike.putO
 | callk d f xs =>
  simp [I.blind] at hh
  simp only [evI,map_get (xs:=xs) h,←hh]
  exact Alike.putHO
 | callr d f xs =>
  simp [I.blind] at hh
  simp only [evI,map_get (xs:=xs) h,←hh]
  exact Alike.putHO
 | callvr d x xs =>
  have hx:=h x (by simp [I.reads])
  simp [I.blind] at hh
  simp only [evI,←hx,map_get (xs:=xs) (fun y hy=>h y (by simp [I.reads,hy])),←hh]
  exact Alike.putHO
 | ldz d x n ag=>have hx:=h x (by simp [I.reads]);simp [I.blind] at hh;simp only [evI,←hx,←hh];exact Alike.putH
 | apk d x y es =>
  have hx:=h x (by simp [I.reads]);have hy:=h y (by simp [I.reads])
  simp [I.blind] at hh;simp only [evI,←hx,←hy,←hh];exact Alike.putH
 | callz d f xs =>
  simp [I.blind] at hh
  simp only [evI,map_get (xs:=xs) h,←hh]
  exact Alike.putH
 | calls d f xs =>
  simp [I.blind] at hh
  simp only [evI,map_get (xs:=xs) h,←hh]
  exact Alike.putQ
 | cally d x xs =>
  have hx:=h x (by simp [I.reads])
  simp [I.blind] at hh
  simp only [evI,←hx,map_get (xs:=xs) (fun y hy=>h y (by simp [I.reads,hy])),←hh]
  exact Alike.putHO
 | lit0 d es z=>exact Alike.put
 | appf d x y es =>
  have hx:=h x (by simp [I.reads]);have hy:=h y (by simp [I.reads])
  simp [I.blind] at hh;simp only [evI,←hx,←hy,←hh];exact Alike.putO
 | sl d x lo hi es =>
  have hx:=h x (by simp [I.reads])
  simp [I.blind] at hh
  simp only [evI,←hx,←hh,intOr_get (s:=s) (s':=s') (x:=lo) (fun a ha=>h a (by simp only [I.reads];simp at ha;simp [ha])),intOr_get (s:=s) (s':=s') (x:=hi) (fun a ha=>h a (by simp only [I.reads];simp at ha;simp [ha]))]
  exact Alike.putO
 | newf d n=>exact Alike.skip rfl
 | new d z=>simp [I.blind] at hh;simp only [evI,←hh];exact Alike.putH
 | mkm d=>simp [I.blind] at hh;simp only [evI,←hh];exact Alike.putH
 | app d x y es =>
  have hx:=h x (by simp [I.reads]);have hy:=h y (by simp [I.reads])
  simp [I.blind] at hh;simp only [evI,←hx,←hy,←hh];exact Alike.putH
 | copy d x y es =>
  have hx:=h x (by simp [I.reads]);have hy:=h y (by simp [I.reads])
  simp [I.blind] at hh;simp only [evI,←hx,←hy,←hh];exact Alike.putHO
 | clr d x es z =>
  have hx:=h x (by simp [I.reads])
  simp [I.blind] at hh;simp only [evI,←hx,←hh];exact Alike.putHO
 | mput a b c ks =>
  have ha:=h a (by simp [I.reads]);have hb:=h b (by simp [I.reads]);have hc:=h c (by simp [I.reads])
  simp [I.blind] at hh;simp only [evI,←ha,←hb,←hc,←hh];exact Alike.setHeap
 | mdel a b ks =>
  have ha:=h a (by simp [I.reads]);have hb:=h b (by simp [I.reads])
  simp [I.blind] at hh;simp only [evI,←ha,←hb,←hh];exact Alike.setHeap
 | mget d a b z ok ks =>
  have ha:=h a (by simp [I.reads]);have hb:=h b (by simp [I.reads])
  simp [I.blind] at hh;simp only [evI,←ha,←hb,←hh];exact Alike.putO
 | ixs d a b es =>
  have ha:=h a (by simp [I.reads]);have hb:=h b (by simp [I.reads])
  simp [I.blind] at hh;simp only [evI,←ha,←hb,←hh];exact Alike.putO
 | ixa d a b es =>
  have ha:=h a (by simp [I.reads]);have hb:=h b (by simp [I.reads])
  simp [I.blind] at hh;simp only [evI,←ha,←hb,←hh];exact Alike.putO
 | bin d op a b =>
  have ha:=h a (by simp [I.reads]);have hb:=h b (by simp [I.reads])
  simp only [evI,←ha,←hb];exact Alike.putO
 | eqv d neg a b ks =>
  have ha:=h a (by simp [I.reads]);have hb:=h b (by simp [I.reads])
  simp only [evI,←ha,←hb];exact Alike.putO
 | eqb d neg a b =>
  have ha:=h a (by simp [I.reads]);have hb:=h b (by simp [I.reads])
  simp only [evI,←ha,←hb];exact Alike.putO
 | ld d x n ag=>have hx:=h x (by simp [I.reads]);simp [I.blind] at hh;simp only [evI,←hx,←hh];exact Alike.putO
 | cl0 d x es=>have hx:=h x (by simp [I.reads]);simp [I.blind] at hh;simp only [evI,←hx,←hh];exact Alike.putO
 | fa d x n ag=>have hx:=h x (by simp [I.reads]);simp [I.blind] at hh;simp only [evI,←hx,←hh];exact Alike.putO
 | isnil d neg x k=>have hx:=h x (by simp [I.reads]);simp [I.blind] at hh;simp only [evI,←hx,←hh];exact Alike.putO
 | len d x k=>have hx:=h x (by simp [I.reads]);simp [I.blind] at hh;simp only [evI,←hx,←hh];exact Alike.putO
 | fld d x n k ag=>have hx:=h x (by simp [I.reads]);simp only [evI,←hx];exact Alike.putO
 | un d op x=>have hx:=h x (by simp [I.reads]);simp only [evI,←hx];exact Alike.putO
 | cvi d k x=>have hx:=h x (by simp [I.reads]);simp only [evI,←hx];exact Alike.putO
 | ext d x i=>have hx:=h x (by simp [I.reads]);simp only [evI,←hx];exact Alike.putO
 | sl3 d x lo hi mz es =>
  have hx:=h x (by simp [I.reads]);have hl:=h lo (by simp [I.reads]);have hi:=h hi (by simp [I.reads]);have hm:=h mz (by simp [I.reads])
  simp [I.blind] at hh;simp only [evI,←hx,←hl,←hi,←hm,←hh];exact Alike.putO
 | mn d x y=>have hx:=h x (by simp [I.reads]);have hy:=h y (by simp [I.reads]);simp only [evI,←hx,←hy];exact Alike.putO
 | cap d x=>have hx:=h x (by simp [I.reads]);simp [I.blind] at hh;simp only [evI,←hx,←hh];exact Alike.putO
 | appz d x k es z =>
  have hx:=h x (by simp [I.reads]);have hk:=h k (by simp [I.reads])
  simp [I.blind] at hh;simp only [evI,←hx,←hk,←hh];exact Alike.putH
 | mks d es z n k =>
  have hx:=h n (by simp [I.reads]);have hk:=h k (by simp [I.reads])
  simp [I.blind] at hh;simp only [evI,←hx,←hk,←hh];exact Alike.putH
 | ovl d f x y es =>
  have hx:=h x (by simp [I.reads]);have hy:=h y (by simp [I.reads])
  simp [I.blind] at hh;simp only [evI,←hx,←hy,←hh];exact Alike.putO
 | bad d=>exact Alike.fail
 | ldd d x n ag=>have hx:=h x (by simp [I.reads]);simp only [evI,←hx];exact Alike.putO
 | fad d x n ag=>have hx:=h x (by simp [I.reads]);simp only [evI,←hx];exact Alike.putO
 | mv d x=>have hx:=h x (by simp [I.reads]);simp only [evI,←hx];exact Alike.put
end Go.VS
namespace Go.VS
structure X where
 i:I
 g:Option (Nat×Bool)
mutual
def J.flat (g:Option (Nat×Bool)):J→List X
 | .op i=>[⟨i,g⟩]
 | .sc isOr d c body x=>J.flatL (some (c,!isOr)) body++[⟨.pick d (.t c) (if isOr then .k (.b true) else x) (if isOr then x else .k (.b false)),g⟩]
 | .re _=>[]
def J.flatL (g:Option (Nat×Bool)):List J→List X
 | []=>[]
 | j::r=>j.flat g++J.flatL g r
end
def skipX (i:I) (s:St):St:=⟨W i.wr .skp++s.env,s.heap,s.ok⟩
def evX (rec:Rec) (x:X) (s:St):St :=
 match x.g with
 | none=>evI rec x.i s
 | some (c,want) =>
  match envGet s.env c with
  | .d (.b b)=>if b=want then evI rec x.i s else skipX x.i s
  | .skp=>skipX x.i s
  | _=>s.fail
def evXs (rec:Rec):List X→St→St
 | [],s=>s
 | x::r,s=>evXs rec r (evX rec x s)
theorem evXs_append {rec:Rec}:∀(xs ys:List X) (s:St),evXs rec (xs++ys) s=evXs rec ys (evXs rec xs s)
 | [],_,_=>rfl
 | x::xs,ys,s=>by simp only [List.cons_append,evXs];exact evXs_append xs ys _
theorem evX_ok {rec:Rec} {x:X} {s:St} (h:(evX rec x s).ok=true):s.ok=true:=by
 unfold evX at h
 split at h
 ·exact evI_ok h
 ·split at h
  ·split at h
   ·exact evI_ok h
   ·exact h
  ·exact h
  ·simp at h
theorem evXs_ok {rec:Rec}:∀{xs:List X} {s:St},(evXs rec xs s).ok=true→s.ok=true
 | [],_,h=>h
 | _::_,_,h=>evX_ok (evXs_ok (by simpa only [evXs] using h))
theorem envGet_W_ne {d:Option Nat} {v:V} {e:List (Nat×V)} {t:Nat} (h:t∉d.toList):envGet (W d v++e) t=envGet e t:=by
 cases d with
 | none=>rfl
 | some d =>
  have:d≠t:=fun h1=>h (by simp [h1])
  simp [W,envGet,this]
theorem envGet_W_eq {d:Option Nat} {v:V} {e:List (Nat×V)} {t:Nat} (h:t∈d.toList):envGet (W d v++e) t=v:=by
 cases d with
 | none=>simp at h
 | some d =>
  have:t=d:=by simpa using h
  simp [W,envGet,this]
theorem envGet_forget {e:List (Nat×V)} {t:Nat}:∀{ds:List Nat},envGet (forgetEnv ds e) t=if t∈ds then .u else envGet e t
 | []=>by simp [forgetEnv]
 | d::ds=>by
  simp only [forgetEnv,envGet,envGet_forget (ds:=ds),List.mem_cons]
  by_cases h:d=t
  ·simp [h]
  ·have h':¬t=d:=fun e=>h e.symm
   simp [h,h']
theorem evI_writes {rec:Rec} {i:I} {s:St} (h:(evI rec i s).ok=true):∃v,(evI rec i s).env=W i.wr v++s.env∧(i.quiet=true→(evI rec i s).heap=s.heap):=by
 obtain ⟨_,v,he,_,hh⟩:=evI_alike (rec:=rec) (i:=i) (s:=s) (s':=s) (fun _ _=>rfl) (.inl rfl) h (evI_ok h)
 refine ⟨v,he,fun hq=>?_⟩
 rcases hh with h1 | h1
 ·exact h1.1
 ·rw [hq] at h1;simp at h1
theorem evX_writes {rec:Rec} {x:X} {s:St} (h:(evX rec x s).ok=true):∃v,(evX rec x s).env=W x.i.wr v++s.env∧(x.i.quiet=true→(evX rec x s).heap=s.heap):=by
 cases x with
 | mk i g =>
  cases g with
  | none=>exact evI_writes h
  | some p =>
   obtain ⟨c,want⟩:=p
   simp only [evX] at h ⊢
   generalize envGet s.env c=v at *
   cases v with
   | d y =>
    cases y with
    | b b =>
     simp only at h ⊢
     split at h
     ·rename_i hw;rw [if_pos hw];exact evI_writes h
     ·rename_i hw;rw [if_neg hw];exact ⟨.skp,rfl,fun _=>rfl⟩
    | _=>simp at h
   | skp=>exact ⟨.skp,rfl,fun _=>rfl⟩
   | _=>simp at h
def J.forg:J→List Nat
 | .sc _ _ _ body _=>J.dstsL body
 | _=>[]
def J.forgL:List J→List Nat
 | []=>[]
 | j::r=>J.forgL r++j.forg
def A.slots:A→List Nat
 | .t n=>[n]
 | .k _=>[]
def noneIn (xs T:List Nat):Bool:=xs.all fun x=>!T.contains x
def I.slots (i:I):List Nat:=i.reads.flatMap A.slots
mutual
def J.fok (top:Bool) (T S:List Nat):J→Bool
 | .op i=>noneIn i.slots T&&(top||(match i with | .st .. | .stf .. | .newf ..=>false | _=>true))
 | .sc _ d c body x=>!T.contains c&&!(J.dstsL body).contains c&&J.fokL false T [] body&&noneIn x.slots (J.forgL body++T)&&(top||S.contains c)&&d != c
 | .re i=>top&&noneIn i.slots T&&i.quiet&&(match i.wr with | some d=>!T.contains d | none=>false)
def J.fokL (top:Bool) (T S:List Nat):List J→Bool
 | []=>true
 | j::r=>J.fok top T S j&&J.fokL top (j.forg++T) (S++j.dsts) r
end
structure Ag (T:List Nat) (s s':St):Prop where
 heap:s.heap=s'.heap
 ok:s'.ok=true
 env:∀t,t∉T→envGet s.env t=envGet s'.env t
 low:∀t,envGet s.env t = .u∨envGet s.env t=envGet s'.env t
theorem noneIn_spec {xs T:List Nat} (h:noneIn xs T=true) {x:Nat} (hx:x∈xs):x∉T:=by
 simp only [noneIn,List.all_eq_true] at h
 simpa using h x hx
theorem Ag.get {T:List Nat} {s s':St} (h:Ag T s s') {x:A} (hx:noneIn x.slots T=true):s.get x=s'.get x:=by
 cases x with
 | k y=>rfl
 | t n=>exact h.env n (noneIn_spec hx (by simp [A.slots]))
theorem Ag.reads {T:List Nat} {s s':St} (h:Ag T s s') {i:I} (hi:noneIn i.slots T=true):∀x∈i.reads,s.get x=s'.get x:=by
 intro x hx
 refine h.get ?_
 simp only [noneIn,List.all_eq_true] at hi ⊢
 intro n hn
 exact hi n (by simp only [I.slots];exact List.mem_flatMap.2 ⟨x,hx,hn⟩)
theorem Ag.op {T:List Nat} {s s':St} (h:Ag T s s') {rec:Rec} {i:I} (hi:noneIn i.slots T=true) (hok:(evI rec i s).ok=true):Ag T (evI rec i s) (evI rec i s'):=by
 obtain ⟨h1,v,h2,h3,h4⟩:=evI_alike (rec:=rec) (h.reads hi) (.inl h.heap) hok h.ok
 refine ⟨?_,h1,fun t ht=>?_,fun t=>?_⟩
 ·rcases h4 with h4 | h4
  ·rw [h4.1,h4.2];exact h.heap
  ·exact h4.2
 ·rw [h2,h3]
  by_cases hw:t∈i.wr.toList
  ·rw [envGet_W_eq hw,envGet_W_eq hw]
  ·rw [envGet_W_ne hw,envGet_W_ne hw];exact h.env t ht
 ·rw [h2,h3]
  by_cases hw:t∈i.wr.toList
  ·rw [envGet_W_eq hw,envGet_W_eq hw];exact .inr rfl
  ·rw [envGet_W_ne hw,envGet_W_ne hw];exact h.low t
def Active (g:Option (Nat×Bool)) (s:St):Prop :=
 match g with
 | none=>True
 | some (c,want)=>envGet s.env c = .d (.b want)
def Off (g:Option (Nat×Bool)) (s:St):Prop :=
 match g with
 | none=>False
 | some (c,want)=>envGet s.env c = .d (.b (!want))∨envGet s.env c = .skp
theorem evX_active {rec:Rec} {i:I} {g:Option (Nat×Bool)} {s:St} (h:Active g s):evX rec ⟨i,g⟩ s=evI rec i s:=by
 unfold evX
 cases g with
 | none=>rfl
 | some p =>
  obtain ⟨c,want⟩:=p
  simp only [Active] at h
  simp [h]
theorem evX_off {rec:Rec} {i:I} {g:Option (Nat×Bool)} {s:St} (h:Off g s):evX rec ⟨i,g⟩ s=skipX i s:=by
 unfold evX
 cases g with
 | none=>exact h.elim
 | some p =>
  obtain ⟨c,want⟩:=p
  simp only [Off] at h
  rcases h with h | h<;>simp [h]
def gFree (g:Option (Nat×Bool)) (ds:List Nat):Prop:=∀c want,g=some (c,want)→c∉ds
mutual
theorem flat_writes {rec:Rec}:∀{j:J} {g:Option (Nat×Bool)} {s:St},(evXs rec (j.flat g) s).ok=true→∀t,t∉j.dsts→envGet (evXs rec (j.flat g) s).env t=envGet s.env t
 | .op i,g,s,h,t,ht=>by
  simp only [J.flat,evXs,J.dsts] at *
  obtain ⟨v,he,_⟩:=evX_writes h
  rw [he,envGet_W_ne ht]
 | .re i,g,s,h,t,ht=>by simp [J.flat,evXs]
 | .sc isOr d c body x,g,s,h,t,ht=>by
  simp only [J.flat,evXs_append,J.dsts,List.mem_cons,not_or] at *
  have h1:=evXs_ok h
  simp only [evXs] at h ⊢
  obtain ⟨v,he,_⟩:=evX_writes h
  rw [he,envGet_W_ne (by simp [I.wr,I.dst];exact ht.1)]
  exact flatL_writes h1 t ht.2
theorem flatL_writes {rec:Rec}:∀{js:List J} {g:Option (Nat×Bool)} {s:St},(evXs rec (J.flatL g js) s).ok=true→∀t,t∉J.dstsL js→envGet (evXs rec (J.flatL g js) s).env t=envGet s.env t
 | [],g,s,h,t,ht=>by simp [J.flatL,evXs]
 | j::r,g,s,h,t,ht=>by
  simp only [J.flatL,evXs_append,J.dstsL,List.mem_append,not_or] at *
  rw [flatL_writes h t ht.2,flat_writes (evXs_ok h) t ht.1]
end
theorem Active.mono {g:Option (Nat×Bool)} {s s':St} (h:Active g s) (he:∀c want,g=some (c,want)→envGet s'.env c=envGet s.env c):Active g s':=by
 cases g with
 | none=>trivial
 | some p=>simp only [Active] at *;rw [he p.1 p.2 rfl];exact h
theorem Off.mono {g:Option (Nat×Bool)} {s s':St} (h:Off g s) (he:∀c want,g=some (c,want)→envGet s'.env c=envGet s.env c):Off g s':=by
 cases g with
 | none=>exact h
 | some p=>simp only [Off] at *;rw [he p.1 p.2 rfl];exact h
theorem skipX_env {i:I} {s:St} (t:Nat):envGet (skipX i s).env t=if t∈i.wr.toList then .skp else envGet s.env t:=by
 simp only [skipX]
 split
 ·rename_i h;exact envGet_W_eq h
 ·rename_i h;exact envGet_W_ne h
structure Passed (ds:List Nat) (s s':St):Prop where
 heap:s'.heap=s.heap
 ok:s'.ok=true
 env:∀t,envGet s'.env t=if t∈ds then .skp else envGet s.env t
mutual
theorem flat_off {rec:Rec}:∀{j:J} {T S:List Nat} {g:Option (Nat×Bool)} {s:St},J.fok false T S j=true→(∀t∈S,envGet s.env t = .skp)→s.ok=true→gFree g j.dsts→Off g s →
  Passed j.dsts s (evXs rec (j.flat g) s)
 | .op i,T,S,g,s,hf,hS,hok,hg,ho=>by
  simp only [J.flat,evXs,J.dsts]
  rw [evX_off ho]
  exact ⟨rfl,hok,fun t=>skipX_env t⟩
 | .re i,T,S,g,s,hf,hS,hok,hg,ho=>by simp [J.fok] at hf
 | .sc isOr d c body x,T,S,g,s,hf,hS,hok,hg,ho=>by
  simp only [J.fok,Bool.and_eq_true,Bool.false_or,Bool.not_eq_true',List.contains_eq_mem,decide_eq_true_eq,decide_eq_false_iff_not,bne_iff_ne] at hf
  obtain ⟨⟨⟨⟨⟨h1,h2⟩,h3⟩,h4⟩,h5⟩,h6⟩:=hf
  have hb:=flatL_off (rec:=rec) (g:=some (c,!isOr)) (s:=s) h3 (by simp) hok (fun c' w he=>by simp at he;rw [←he.1];exact h2) (by simp only [Off];exact .inr (hS c h5))
  simp only [J.flat,evXs_append,J.dsts]
  have ho':Off g (evXs rec (J.flatL (some (c,!isOr)) body) s):=ho.mono fun c' w he=>by
   have:=hg c' w he
   simp only [J.dsts,List.mem_cons,not_or] at this
   rw [hb.env,if_neg this.2]
  simp only [evXs]
  rw [evX_off ho']
  refine ⟨hb.heap,hb.ok,fun t=>?_⟩
  rw [skipX_env,hb.env]
  simp only [I.wr,I.dst,Option.mem_toList,Option.some.injEq,List.mem_cons]
  by_cases htd:d=t
  ·simp [htd]
  ·have:¬t=d:=fun e=>htd e.symm
   simp [htd,this]
theorem flatL_off {rec:Rec}:∀{js:List J} {T S:List Nat} {g:Option (Nat×Bool)} {s:St},J.fokL false T S js=true→(∀t∈S,envGet s.env t = .skp)→s.ok=true→gFree g (J.dstsL js)→Off g s →
  Passed (J.dstsL js) s (evXs rec (J.flatL g js) s)
 | [],T,S,g,s,hf,hS,hok,hg,ho=>by simp only [J.flatL,evXs,J.dstsL];exact ⟨rfl,hok,fun t=>by simp⟩
 | j::r,T,S,g,s,hf,hS,hok,hg,ho=>by
  simp only [J.fokL,Bool.and_eq_true] at hf
  have hj:=flat_off (rec:=rec) hf.1 hS hok (fun c w he=>by have:=hg c w he;simp only [J.dstsL,List.mem_append,not_or] at this;exact this.1) ho
  have hr:=flatL_off (rec:=rec) (g:=g) (s:=evXs rec (j.flat g) s) hf.2 (fun t ht=>by
    rw [hj.env]
    rcases List.mem_append.1 ht with h1 | h1
    ·rw [hS t h1];simp
    ·rw [if_pos h1]) hj.ok (fun c w he=>by have:=hg c w he;simp only [J.dstsL,List.mem_append,not_or] at this;exact this.2)
   (ho.mono fun c w he=>by have:=hg c w he;simp only [J.dstsL,List.mem_append,not_or] at this;rw [hj.env,if_neg this.1])
  simp only [J.flatL,evXs_append,J.dstsL]
  refine ⟨hr.heap.trans hj.heap,hr.ok,fun t=>?_⟩
  rw [hr.env,hj.env]
  by_cases h1:t∈J.dstsL r<;>by_cases h2:t∈j.dsts<;>simp [h1,h2]
end
mutual
theorem flat_ag {rec:Rec}:∀{j:J} {top:Bool} {T S:List Nat} {g:Option (Nat×Bool)} {s s':St},J.fok top T S j=true→Ag T s s'→gFree g j.dsts→Active g s'→(evJ rec j s).ok=true →
  Ag (j.forg++T) (evJ rec j s) (evXs rec (j.flat g) s')
 | .op i,top,T,S,g,s,s',hf,ha,hg,hact,hok=>by
  simp only [J.fok,Bool.and_eq_true] at hf
  simp only [J.flat,evXs,evJ,J.forg,List.nil_append] at *
  rw [evX_active hact]
  exact ha.op hf.1 hok
 | .re i,top,T,S,g,s,s',hf,ha,hg,hact,hok=>by
  simp only [J.flat,evXs,evJ,J.forg,List.nil_append] at *
  unfold again at *
  split at hok
  ·split at hok
   ·rename_i h;rw [if_pos h];exact ha
   ·simp at hok
  ·simp at hok
 | .sc isOr d c body x,top,T,S,g,s,s',hf,ha,hg,hact,hok=>by
  simp only [J.fok,Bool.and_eq_true,Bool.not_eq_true',List.contains_eq_mem,decide_eq_true_eq,decide_eq_false_iff_not,bne_iff_ne] at hf
  obtain ⟨⟨⟨⟨⟨h1,h2⟩,h3⟩,h4⟩,h5⟩,h6⟩:=hf
  have hc:s.get (.t c)=envGet s'.env c:=ha.env c h1
  have hgb:gFree (some (c,!isOr)) (J.dstsL body):=fun c' w he=>by simp at he;rw [←he.1];exact h2
  simp only [J.flat,evXs_append,evJ,J.forg] at *
  split at hok
  ·rename_i gv hgv
   rw [hc] at hgv
   split at hok
   ·
    rename_i heq
    subst heq
    rw [if_pos rfl]
    have hb:=flatL_off (rec:=rec) (g:=some (c,!gv)) (s:=s') h3 (by simp) ha.ok hgb (by simp only [Off];exact .inl (by simpa using hgv))
    have hact':Active g (evXs rec (J.flatL (some (c,!gv)) body) s'):=hact.mono fun c' w he=>by
     have:=hg c' w he
     simp only [J.dsts,List.mem_cons,not_or] at this
     rw [hb.env,if_neg this.2]
    have hcv:St.get (evXs rec (J.flatL (some (c,!gv)) body) s') (.t c) = .d (.b gv):=by
     show envGet _ c=_
     rw [hb.env,if_neg h2,hgv]
    simp only [evXs]
    rw [evX_active hact']
    have hp:evI rec (.pick d (.t c) (if gv then .k (.b true) else x) (if gv then x else .k (.b false))) (evXs rec (J.flatL (some (c,!gv)) body) s') =
      (evXs rec (J.flatL (some (c,!gv)) body) s').put d (.d (.b gv)):=by
     simp only [evI,hcv]
     cases gv<;>simp [St.get]
    rw [hp]
    refine ⟨by rw [St.put];exact ha.heap.trans hb.heap.symm,hb.ok,fun t ht=>?_,fun t=>?_⟩
    ·simp only [List.mem_append,not_or] at ht
     simp only [St.put,envGet]
     by_cases htd:d=t
     ·simp [htd]
     ·rw [if_neg htd,if_neg htd,envGet_forget,if_neg ht.1,hb.env,if_neg ht.1]
      exact ha.env t ht.2
    ·simp only [St.put,envGet]
     by_cases htd:d=t
     ·simp [htd]
     ·rw [if_neg htd,if_neg htd,envGet_forget,hb.env]
      by_cases hm:t∈J.dstsL body
      ·rw [if_pos hm];exact .inl rfl
      ·rw [if_neg hm,if_neg hm];exact ha.low t
   ·
    rename_i hne
    rw [if_neg hne]
    have hne':gv=!isOr:=by cases gv<;>cases isOr<;>simp_all
    subst hne'
    split at hok
    ·rename_i y hy
     have hb:=flatL_ag (rec:=rec) (g:=some (c,!isOr)) (s:=s) (s':=s') h3 ha hgb (by simp only [Active];exact hgv) hok
     have hw:=flatL_writes (rec:=rec) hb.ok
     have hact':Active g (evXs rec (J.flatL (some (c,!isOr)) body) s'):=hact.mono fun c' w he=>by
      have:=hg c' w he
      simp only [J.dsts,List.mem_cons,not_or] at this
      rw [hw c' this.2]
     have hcv:St.get (evXs rec (J.flatL (some (c,!isOr)) body) s') (.t c) = .d (.b (!isOr)):=by
      show envGet _ c=_
      rw [hw c h2,hgv]
     have hxv:St.get (evXs rec (J.flatL (some (c,!isOr)) body) s') x = .d (.b y):=by rw [←hb.get h4];exact hy
     simp only [evXs]
     rw [evX_active hact']
     have hp:evI rec (.pick d (.t c) (if isOr then .k (.b true) else x) (if isOr then x else .k (.b false))) (evXs rec (J.flatL (some (c,!isOr)) body) s') =
       (evXs rec (J.flatL (some (c,!isOr)) body) s').put d (.d (.b y)):=by
      have key:∀z:St,z.get (.t c) = .d (.b (!isOr))→z.get x = .d (.b y)→evI rec (.pick d (.t c) (if isOr then .k (.b true) else x) (if isOr then x else .k (.b false))) z=z.put d (.d (.b y)):=by
       intro z h1 h2
       simp only [evI,h1]
       cases isOr<;>simp [h2]
      exact key _ hcv hxv
     rw [hp]
     refine ⟨hb.heap,hb.ok,fun t ht=>?_,fun t=>?_⟩
     ·simp only [List.mem_append,not_or] at ht
      simp only [St.put,envGet]
      by_cases htd:d=t
      ·simp [htd]
      ·rw [if_neg htd,if_neg htd,envGet_forget,if_neg ht.1,hw t ht.1]
       exact ha.env t ht.2
     ·simp only [St.put,envGet]
      by_cases htd:d=t
      ·simp [htd]
      ·rw [if_neg htd,if_neg htd,envGet_forget]
       by_cases hm:t∈J.dstsL body
       ·rw [if_pos hm];exact .inl rfl
       ·rw [if_neg hm,hw t hm];exact ha.low t
    ·simp at hok
  ·simp at hok
theorem flatL_ag {rec:Rec}:∀{js:List J} {top:Bool} {T S:List Nat} {g:Option (Nat×Bool)} {s s':St},J.fokL top T S js=true→Ag T s s'→gFree g (J.dstsL js)→Active g s'→(evJs rec js s).ok=true →
  Ag (J.forgL js++T) (evJs rec js s) (evXs rec (J.flatL g js) s')
 | [],top,T,S,g,s,s',hf,ha,hg,hact,hok=>by simpa only [J.flatL,evXs,evJs,J.forgL,List.nil_append] using ha
 | j::r,top,T,S,g,s,s',hf,ha,hg,hact,hok=>by
  simp only [J.fokL,Bool.and_eq_true] at hf
  simp only [evJs] at hok
  have hj:=flat_ag (rec:=rec) hf.1 ha (fun c w he=>by have:=hg c w he;simp only [J.dstsL,List.mem_append,not_or] at this;exact this.1) hact (evJs_ok hok)
  have hr:=flatL_ag (rec:=rec) (g:=g) hf.2 hj (fun c w he=>by have:=hg c w he;simp only [J.dstsL,List.mem_append,not_or] at this;exact this.2)
   (hact.mono fun c w he=>by have:=hg c w he;simp only [J.dstsL,List.mem_append,not_or] at this;exact flat_writes hj.ok c this.1) hok
  simp only [J.flatL,evXs_append,evJs,J.forgL,List.append_assoc]
  exact hr
end
end Go.VS
namespace Go.VS
section
variable {P:Program} {φ:Phi}
variable {nt m dB:Nat} {s:St} {g:Gh} {a:Act} {w:World} {K:Act→World→Prop} {Q:Exit→Act→World→Prop} {o:Oper} {ops:Array Oper} {r:Option Nat} {n:Nat}
theorem chkI_dst {i:I} (h:chkI P φ nt o i=true):o.dst=i.dst∧∀d,i.dst=some d→d<nt:=by
 have key:∀{d:Nat} {b:Bool},(dstIs nt o d&&b)=true→o.dst=some d∧∀k,some d=some k→k<nt:=by
  intro d b h
  simp only [Bool.and_eq_true] at h
  obtain ⟨h1,h2⟩:=dstIs_spec h.1
  exact ⟨h1,fun k hk=>by simp at hk;omega⟩
 have key2:∀{d:Option Nat} {b:Bool},(dstMay nt o d&&b)=true→o.dst=d∧∀k,d=some k→k<nt:=by
  intro d b h
  simp only [Bool.and_eq_true] at h
  exact dstMay_spec h.1
 cases i with
 | st x y n fz =>
  simp only [chkI] at h
  split at h
  ·simp only [Bool.and_eq_true,beq_iff_eq] at h
   exact ⟨h.1.1.1.1.1,fun d hd=>by simp [I.dst] at hd⟩
  ·simp at h
 | call d f xs=>exact key2 h
 | callv d x xs=>exact key2 h
 | callk d f xs=>exact key2 h
 | callr d f xs=>exact key2 h
 | callvr d x xs=>exact key2 h
 | inv d nm tbl x xs=>exact key2 h
 | cally d x xs=>exact key2 h
 | calls d f xs=>exact key2 h
 | clr d x es z=>exact key2 h
 | bad d=>simp only [chkI] at h;exact dstMay_spec h
 | copy d x y es=>exact key2 h
 | mput m k v ks =>
  simp only [chkI,Bool.and_eq_true,beq_iff_eq] at h
  exact ⟨h.1,fun d hd=>by simp [I.dst] at hd⟩
 | mdel m k ks =>
  simp only [chkI,Bool.and_eq_true,beq_iff_eq] at h
  exact ⟨h.1,fun d hd=>by simp [I.dst] at hd⟩
 | _=>first | exact key h | simp [chkI] at h
def gOk (ops:Array Oper) (o:Oper) (x:X):Bool :=
 match x.g,o.guard with
 | none,none=>true
 | some (c,want),some (j,w')=>want==w'&&((ops[j]?).bind (·.dst))==some c&&(match x.i with | .st .. | .stf .. | .newf ..=>false | _=>true)
 | _,_=>false
theorem skipX_rel (hs:SRel φ nt m dB s g a w) {i:I} (hwr:i.wr=i.dst) (hd:o.dst=i.dst) (hlt:∀d,i.dst=some d→d<nt):SRel φ nt m dB (skipX i s) g (a.put o.dst undef) w:=by
 rw [hd]
 unfold skipX
 rw [hwr]
 cases h:i.dst with
 | none=>exact hs
 | some d=>exact hs.putV (hlt d h) (by simp [relV])
theorem sim_guard (hs:SRel φ nt m dB s g a w) {x:X} {rec:Rec} (hg:gOk ops o x=true) (hd:o.dst=x.i.dst) (hlt:∀d,x.i.dst=some d→d<nt) (hok:(evX rec x s).ok=true)
  {X:Prop} (hop:(evX rec x s)=evI rec x.i s→(evI rec x.i s).ok=true→X)
  (hskip:evX rec x s=skipX x.i s→SRel φ nt m dB (skipX x.i s) g (a.put o.dst undef) w→K (a.put o.dst undef) w) :
  if Region.wanted o (yielded ops a.tmps) then X else K (a.put o.dst undef) w:=by
 unfold gOk at hg
 unfold evX at hok hop hskip
 split at hg
 ·rename_i h1 h2
  simp only [h1] at hok hop
  rw [if_pos (by simp [Region.wanted,h2])]
  exact hop trivial hok
 ·rename_i c want j w' h1 h2
  simp only [Bool.and_eq_true,beq_iff_eq] at hg
  obtain ⟨⟨rfl,hj⟩,hk⟩:=hg
  have hwr:x.i.wr=x.i.dst:=by
   cases hi:x.i<;>simp_all [I.wr]
  simp only [h1] at hok hop hskip
  have hc:=hs.env c
  have hwant:Region.wanted o (yielded ops a.tmps)=(yielded ops a.tmps j==some want):=by simp [Region.wanted,h2]
  have hyield:yielded ops a.tmps j=match a.tmps[c]? with | some (.bool b)=>some b | _=>none:=by simp only [yielded,hj,Option.bind_some];rfl
  rw [hwant,hyield]
  cases hv:envGet s.env c with
  | d y =>
   cases y with
   | b b =>
    rw [hv] at hc
    have hb:=relD_bool (by simpa only [relV] using hc)
    have hsome:a.tmps[c]?=some (.bool b):=by
     cases hq:a.tmps[c]? with
     | none=>simp [Array.getD_eq_getD_getElem?,hq,undef] at hb
     | some v=>simp [Array.getD_eq_getD_getElem?,hq] at hb;rw [hb]
    simp only [hsome]
    simp only [hv] at hok hop hskip
    by_cases hbw:b=want
    ·subst hbw
     simp only [if_true] at hok hop
     simp only [beq_self_eq_true,if_true]
     exact hop trivial hok
    ·have:(some b==some want)=false:=by simpa using hbw
     simp only [this,Bool.false_eq_true,if_false]
     simp only [hbw,if_false] at hskip
     exact hskip trivial (skipX_rel hs hwr hd hlt)
   | _=>simp [hv] at hok
  | skp =>
   rw [hv] at hc
   have hb:a.tmps.getD c undef=undef:=by simpa only [relV] using hc
   have hnone:(match a.tmps[c]? with | some (.bool b)=>some b | _=>none)=(none:Option Bool):=by
    cases hq:a.tmps[c]? with
    | none=>rfl
    | some v =>
     simp [Array.getD_eq_getD_getElem?,hq] at hb
     rw [hb];rfl
   simp only [hnone]
   simp only [hv] at hskip
   exact hskip trivial (skipX_rel hs hwr hd hlt)
  | _=>simp [hv] at hok
 ·simp at hg
def chkXs (P:Program) (φ:Nat→Nat) (nt:Nat) (ops:Array Oper):List Oper→List X→Bool
 | [],[]=>true
 | o::os,x::xs=>chkI P φ nt o x.i&&gOk ops o x&&chkXs P φ nt ops os xs
 | _,_=>false
theorem wpList_cons {o:Oper} {rest:List Oper} (h:if Region.wanted o (yielded ops a.tmps) then o.wpIn (Wd r) n P a w (wpListIn (Wd r) n P ops Q rest) Q else wpListIn (Wd r) n P ops Q rest (a.put o.dst undef) w):wpListIn (Wd r) n P ops Q (o::rest) a w:=by
 unfold wpListIn
 split
 ·rename_i hw;rw [if_pos hw] at h;exact h
 ·rename_i hw;rw [if_neg hw] at h;exact ⟨fun _ _=>trivial,h⟩
theorem sim_list {rec:Rec} (hq:QuietCall P φ rec) (hy:RoundOk P φ rec):∀{l:List Oper} {xs:List X} {s:St} {g:Gh} {a:Act} {w:World},chkXs P φ nt ops l xs=true→SRel φ nt m dB s g a w→(evXs rec xs s).ok=true →
  (∀g' a' w',SRel φ nt m dB (evXs rec xs s) g' a' w'→Frame m s.heap g w (evXs rec xs s).heap g' w'→Q .normal a' w')→wpListIn (Wd r) n P ops Q l a w
 | [],[],s,g,a,w,_,hs,_,hQ=>wpListIn_nil (hQ g a w hs (Frame.refl _ _ _ _))
 | o::l,x::xs,s,g,a,w,hc,hs,hok,hQ=>by
  simp only [chkXs,Bool.and_eq_true] at hc
  obtain ⟨⟨h1,h2⟩,h3⟩:=hc
  simp only [evXs] at hok hQ
  have hd:=chkI_dst h1
  have next:∀g' a' w',SRel φ nt m dB (evX rec x s) g' a' w'→Frame m s.heap g w (evX rec x s).heap g' w'→wpListIn (Wd r) n P ops Q l a' w':=fun g' a' w' hs' hf =>
   sim_list hq hy h3 hs' hok fun g2 a2 w2 hs2 hf2=>hQ g2 a2 w2 hs2 (hf.trans hf2)
  refine wpList_cons (sim_guard hs h2 hd.1 hd.2 (evXs_ok hok) (fun he hok'=>sim_In hq hy hs h1 hok' fun g' v' w' hs' hf=>?_) (fun he hs'=>?_))
  ·exact next g' _ w' (by rw [he];exact hs') (by rw [he];exact hf)
  ·exact next g _ w (by rw [he];exact hs') (by rw [he];exact Frame.refl _ _ _ _)
 | [],_::_,_,_,_,_,hc,_,_,_=>by simp [chkXs] at hc
 | _::_,[],_,_,_,_,hc,_,_,_=>by simp [chkXs] at hc
theorem SRel.low {s':St} (hs:SRel φ nt m dB s' g a w) {T:List Nat} (h:Ag T s s'):SRel φ nt m dB s g a w where
 env k:=by
  rcases h.low k with h1 | h1
  ·rw [h1];simp [relV]
  ·rw [h1,h.heap];exact hs.env k
 heap:=by rw [h.heap];exact hs.heap
 size:=hs.size
 defers:=by rw [h.heap];exact hs.defers
 len:=by rw [h.heap];exact hs.len
theorem Ag.refl (h:s.ok=true):Ag [] s s:=⟨rfl,h,fun _ _=>rfl,fun _=>.inr rfl⟩
def Post (φ:Phi) (nt m dB:Nat) (s:St) (g:Gh) (w:World) (s':St) (R:Act→World→Prop):Prop :=
 ∀g' a' w',SRel φ nt m dB s' g' a' w'→Frame m s.heap g w s'.heap g' w'→R a' w'
theorem sim_reg {rec:Rec} (hq:QuietCall P φ rec) (hy:RoundOk P φ rec) {js:List J} (hs:SRel φ nt m dB s g a w) (hf:J.fokL true [] [] js=true) (hc:chkXs P φ nt ops ops.toList (J.flatL none js)=true)
  (hok:(evJs rec js s).ok=true) {id:Nat} (hQ:Post φ nt m dB s g w (evJs rec js s) (Q .normal)):(Code.region id ops false).wpIn (Wd r) n P Q a w:=by
 have hag:=flatL_ag (rec:=rec) (g:=none) hf (Ag.refl (evJs_ok hok)) (fun _ _ h=>by simp at h) trivial hok
 exact wpIn_region_list (sim_list hq hy hc hs hag.ok fun g' a' w' hs' hfr=>hQ g' a' w' (hs'.low hag) (by rw [hag.heap];exact hfr))
end
end Go.VS
namespace Go.VS
def maskOf (acc dp:List Nat):Nat:=dp.foldl (fun m r=>m ||| (2 ^ r ||| acc.getD r 0)) 0
def masksGo:List Nat→List (List Nat)→List Nat
 | acc,[]=>acc
 | acc,dp::r=>masksGo (acc++[if dp.all (·<acc.length) then maskOf acc dp else 0]) r
def masks (ds:List (List Nat)):List Nat:=masksGo [] ds
theorem foldl_mask {acc:List Nat} {q:Nat}:∀{dp:List Nat} {m:Nat},(dp.foldl (fun m r=>m ||| (2 ^ r ||| acc.getD r 0)) m).testBit q=true→m.testBit q=true∨∃r∈dp,q=r∨(acc.getD r 0).testBit q=true
 | [],m,h=>.inl h
 | r::dp,m,h=>by
  rcases foldl_mask (dp:=dp) h with h | ⟨r',h1,h2⟩
  ·rw [Nat.testBit_or,Nat.testBit_or,Nat.testBit_two_pow] at h
   simp only [Bool.or_eq_true,decide_eq_true_eq] at h
   rcases h with h | h | h
   ·exact .inl h
   ·exact .inr ⟨r,by simp,.inl h.symm⟩
   ·exact .inr ⟨r,by simp,.inr h⟩
  ·exact .inr ⟨r',by simp [h1],h2⟩
def MaskOk (D:List (List Nat)) (acc:List Nat):Prop :=
 ∀p q,p<acc.length→(acc.getD p 0).testBit q=true→∃r∈D.getD p [],r<p∧(q=r∨(acc.getD r 0).testBit q=true)
theorem getD_append_lt {α:Type} {l:List α} {x d:α} {p:Nat} (h:p<l.length):(l++[x]).getD p d=l.getD p d:=by
 simp [List.getD,List.getElem?_append_left h]
theorem getD_append_eq {α:Type} {l:List α} {x d:α}:(l++[x]).getD l.length d=x:=by
 simp [List.getD]
theorem masksGo_ok {D:List (List Nat)}:∀{ds:List (List Nat)} {acc:List Nat},(∀k,ds[k]?=D[acc.length+k]?)→MaskOk D acc→MaskOk D (masksGo acc ds)∧(masksGo acc ds).length=acc.length+ds.length
 | [],acc,_,h=>⟨h,by simp [masksGo]⟩
 | dp::ds,acc,hd,h=>by
  have h0:D.getD acc.length []=dp:=by have:=hd 0;simp at this;simp [List.getD,←this]
  have key:MaskOk D (acc++[if dp.all (·<acc.length) then maskOf acc dp else 0]):=by
   intro p q hp hq
   by_cases hlt:p<acc.length
   ·rw [getD_append_lt hlt] at hq
    obtain ⟨r,h1,h2,h3⟩:=h p q hlt hq
    exact ⟨r,h1,h2,by rw [getD_append_lt (by omega)];exact h3⟩
   ·have hp':p=acc.length:=by simp at hp;omega
    subst hp'
    rw [getD_append_eq] at hq
    split at hq
    ·rename_i hall
     rcases foldl_mask hq with h1 | ⟨r,h1,h2⟩
     ·simp at h1
     ·have hr:r<acc.length:=by simpa using List.all_eq_true.1 hall r h1
      exact ⟨r,by rw [h0];exact h1,hr,by rw [getD_append_lt hr];exact h2⟩
    ·simp at hq
  have:=masksGo_ok (ds:=ds) (fun k=>by have:=hd (k+1);simp at this ⊢;rw [this];congr 1;omega) key
  refine ⟨this.1,?_⟩
  rw [masksGo,this.2]
  simp
  omega
def bef (ms:List Nat) (p q:Nat):Bool:=(ms.getD q 0).testBit p
theorem masks_ok (D:List (List Nat)):MaskOk D (masks D):=(masksGo_ok (D:=D) (ds:=D) (acc:=[]) (by simp) (fun p q hp=>by simp at hp)).1
theorem bef_step {D:List (List Nat)} {p q:Nat} (h:bef (masks D) q p=true):∃r∈D.getD p [],r<p∧(q=r∨bef (masks D) q r=true):=by
 by_cases hp:p<(masks D).length
 ·exact masks_ok D p q hp h
 ·have:(masks D).getD p 0=0:=by simp [List.getD,List.getElem?_eq_none (Nat.le_of_not_lt hp)]
  unfold bef at h
  rw [this] at h
  simp at h
theorem bef_lt {D:List (List Nat)}:∀{p q:Nat},bef (masks D) q p=true→q<p:=by
 intro p
 induction p using Nat.strongRecOn with
 | _ p ih =>
  intro q h
  obtain ⟨r,_,h2,h3⟩:=bef_step h
  rcases h3 with h3 | h3
  ·omega
  ·have:=ih r h2 h3;omega
theorem bef_mem {D:List (List Nat)} {E:List Nat} (hE:∀p∈E,∀r∈D.getD p [],r∈E):∀{p q:Nat},(∀r∈D.getD p [],r∈E)→bef (masks D) q p=true→q∈E:=by
 intro p
 induction p using Nat.strongRecOn with
 | _ p ih =>
  intro q hp h
  obtain ⟨r,h1,h2,h3⟩:=bef_step h
  have hr:=hp r h1
  rcases h3 with h3 | h3
  ·rw [h3];exact hr
  ·exact ih r h2 (hE r hr) h3
section
variable (wr:Nat→Option Nat) (val:Nat→V) (e0:List (Nat×V))
def envL (E:List Nat):List (Nat×V):=E.flatMap (fun p=>W (wr p) (val p))++e0
variable {wr val e0}
theorem envL_none {t:Nat}:∀{E:List Nat},(∀p∈E,wr p≠some t)→envGet (envL wr val e0 E) t=envGet e0 t
 | [],_=>rfl
 | p::E,h=>by
  have hp:t∉(wr p).toList:=by
   intro hm
   cases hw:wr p with
   | none=>rw [hw] at hm;simp at hm
   | some d=>rw [hw] at hm;simp at hm;exact h p (by simp) (by rw [hw,hm])
  have:=envL_none (E:=E) (fun q hq=>h q (by simp [hq]))
  simp only [envL,List.flatMap_cons,List.append_assoc] at this ⊢
  rw [envGet_W_ne hp]
  exact this
theorem envL_some {t p:Nat} (hp:wr p=some t):∀{E:List Nat},p∈E→(∀q∈E,wr q=some t→q=p)→envGet (envL wr val e0 E) t=val p
 | [],h,_=>by simp at h
 | q::E,h,hu=>by
  simp only [envL,List.flatMap_cons,List.append_assoc]
  by_cases hq:wr q=some t
  ·have:q=p:=hu q (by simp) hq
   subst this
   exact envGet_W_eq (by rw [hq];simp)
  ·have hq':t∉(wr q).toList:=by
    intro hm
    cases hw:wr q with
    | none=>rw [hw] at hm;simp at hm
    | some d=>rw [hw] at hm;simp at hm;exact hq (by rw [hw,hm])
   rw [envGet_W_ne hq']
   have hpE:p∈E:=by
    rcases List.mem_cons.1 h with h1 | h1
    ·subst h1;exact absurd hp hq
    ·exact h1
   exact envL_some hp hpE (fun q hq=>hu q (by simp [hq]))
theorem envL_agree {n t:Nat} {E E':List Nat} (hu:∀p q,p<n→q<n→wr p=some t→wr q=some t→p=q) (hE:∀p∈E,p<n) (hE':∀p∈E',p<n)
  (h:∀p,p<n→wr p=some t→(p∈E↔p∈E')):envGet (envL wr val e0 E) t=envGet (envL wr val e0 E') t:=by
 by_cases hex:∃p,p∈E∧wr p=some t
 ·obtain ⟨p,hp,hw⟩:=hex
  have hp':=(h p (hE p hp) hw).1 hp
  rw [envL_some hw hp (fun q hq hwq=>hu q p (hE q hq) (hE p hp) hwq hw),envL_some hw hp' (fun q hq hwq=>hu q p (hE' q hq) (hE p hp) hwq hw)]
 ·rw [envL_none (fun p hp hw=>hex ⟨p,hp,hw⟩),envL_none (fun p hp hw=>hex ⟨p,(h p (hE' p hp) hw).2 hp,hw⟩)]
end
def topE (ef:Nat→Bool):List Nat→Nat
 | []=>0
 | p::E=>if ef p then max (p+1) (topE ef E) else topE ef E
theorem topE_le {ef:Nat→Bool} {k:Nat}:∀{E:List Nat},(∀p∈E,ef p=true→p<k)→topE ef E≤k
 | [],_=>by simp [topE]
 | p::E,h=>by
  have:=topE_le (E:=E) (fun q hq=>h q (by simp [hq]))
  simp only [topE]
  split
  ·rename_i hp;have:=h p (by simp) hp;omega
  ·exact this
theorem topE_ge {ef:Nat→Bool} {p:Nat} (he:ef p=true):∀{E:List Nat},p∈E→p+1≤topE ef E
 | [],h=>by simp at h
 | q::E,h=>by
  simp only [topE]
  rcases List.mem_cons.1 h with h1 | h1
  ·subst h1;rw [if_pos he];omega
  ·have:=topE_ge he h1
   split<;>omega
theorem topE_cases {ef:Nat→Bool}:∀(E:List Nat),topE ef E=0∨∃p∈E,ef p=true∧topE ef E=p+1
 | []=>.inl rfl
 | p::E=>by
  simp only [topE]
  have ih:=topE_cases (ef:=ef) E
  split
  ·rename_i hp
   rcases ih with h | ⟨q,h1,h2,h3⟩
   ·exact .inr ⟨p,by simp,hp,by omega⟩
   ·by_cases hlt:q≤p
    ·exact .inr ⟨p,by simp,hp,by omega⟩
    ·exact .inr ⟨q,by simp [h1],h2,by omega⟩
  ·rcases ih with h | ⟨q,h1,h2,h3⟩
   ·exact .inl h
   ·exact .inr ⟨q,by simp [h1],h2,h3⟩
end Go.VS
namespace Go.VS
def X.slots (x:X):List Nat:=x.i.slots++(match x.g with | some (c,_)=>[c] | none=>[])
def runTo (rec:Rec) (xs:List X) (s0:St) (p:Nat):St:=evXs rec (xs.take p) s0
theorem runTo_succ {rec:Rec} {xs:List X} {s0:St} {p:Nat} {x:X} (h:xs[p]?=some x):runTo rec xs s0 (p+1)=evX rec x (runTo rec xs s0 p):=by
 unfold runTo
 rw [List.take_add_one,h]
 simp [evXs_append,evXs]
theorem runTo_all {rec:Rec} {xs:List X} {s0:St}:runTo rec xs s0 xs.length=evXs rec xs s0:=by simp [runTo]
theorem runTo_ok {rec:Rec} {xs:List X} {s0:St} (h:(evXs rec xs s0).ok=true) (p:Nat):(runTo rec xs s0 p).ok=true:=by
 have:evXs rec xs s0=evXs rec (xs.drop p) (evXs rec (xs.take p) s0):=by rw [←evXs_append,List.take_append_drop]
 rw [this] at h
 exact evXs_ok h
theorem evX_alike {rec:Rec} {x:X} {s s':St} (h:∀t∈x.slots,envGet s.env t=envGet s'.env t) (hh:s.heap=s'.heap∨x.i.blind=true):Alike x.i.quiet x.i.wr s s' (evX rec x s) (evX rec x s'):=by
 have hr:∀y∈x.i.reads,s.get y=s'.get y:=by
  intro y hy
  cases y with
  | k z=>rfl
  | t n=>exact h n (by simp only [X.slots,I.slots];exact List.mem_append_left _ (List.mem_flatMap.2 ⟨_,hy,by simp [A.slots]⟩))
 cases x with
 | mk i g =>
  cases g with
  | none=>exact evI_alike hr hh
  | some p =>
   obtain ⟨c,want⟩:=p
   have hc:=h c (by simp [X.slots])
   simp only [evX,←hc]
   generalize envGet s.env c=v
   cases v with
   | d y =>
    cases y with
    | b b =>
     simp only
     split
     ·exact evI_alike hr hh
     ·intro h1 h2;exact ⟨h2,.skp,rfl,rfl,.inl ⟨rfl,rfl⟩⟩
    | _=>exact Alike.fail
   | skp=>intro h1 h2;exact ⟨h2,.skp,rfl,rfl,.inl ⟨rfl,rfl⟩⟩
   | _=>exact Alike.fail
def Again (rec:Rec) (s:St) (i:I):Prop:=∃d,i.wr=some d∧(evI rec i s).ok=true∧envGet (evI rec i s).env d=envGet s.env d
section
variable {rec:Rec} {xs:List X} {s0:St} {D:List (List Nat)} {R:List (Nat×I)}
structure PairOk (D:List (List Nat)) (R:List (Nat×I)) (n:Nat) (xs:List X) (p q:Nat) (x y:X):Prop where
 uniq:∀t,x.i.wr=some t→y.i.wr≠some t
 rw:bef (masks D) p q=false→(∀t,x.i.wr=some t→t∉y.slots)∧(∀t,y.i.wr=some t→t∉x.slots)
 eff:bef (masks D) p q=false→x.i.quiet=true∨y.i.quiet=true
 left:bef (masks D) p q=false→x.i.quiet=false→y.i.blind=true
 right:bef (masks D) p q=false→y.i.quiet=false→x.i.blind=true∨(x.g=none∧(q+1,x.i)∈R ∧
  ∀r z t,xs[r]?=some z→z.i.wr=some t→t∈x.slots→bef (masks D) r p=true∨q<r)
noncomputable def valOf (rec:Rec) (xs:List X) (s0:St) (p:Nat):V :=
 match xs[p]? with
 | some x=>match x.i.wr with
  | some d=>envGet (runTo rec xs s0 (p+1)).env d
  | none=>.u
 | none=>.u
def wrOf (xs:List X) (p:Nat):Option Nat:=(xs[p]?).bind (·.i.wr)
def effOf (xs:List X) (p:Nat):Bool:=((xs[p]?).map (!·.i.quiet)).getD false
noncomputable def sigma (rec:Rec) (xs:List X) (s0:St) (E:List Nat):St:=⟨envL (wrOf xs) (valOf rec xs s0) s0.env E,(runTo rec xs s0 (topE (effOf xs) E)).heap,true⟩
theorem W_same {d:Option Nat} {v v':V} (h:∀t,d=some t→v=v'):W d v=W d v':=by
 cases d with
 | none=>rfl
 | some t=>rw [h t rfl]
theorem runTo_env (hok:(evXs rec xs s0).ok=true):∀p,p≤xs.length→(runTo rec xs s0 p).env=envL (wrOf xs) (valOf rec xs s0) s0.env (List.range p).reverse
 | 0,_=>by simp [runTo,evXs,envL]
 | p+1,hp=>by
  have hx:xs[p]?=some xs[p]:=by simp
  have h1:=runTo_succ (rec:=rec) (s0:=s0) hx
  have hok':=runTo_ok hok (p+1)
  rw [h1] at hok'
  obtain ⟨v,hv,_⟩:=evX_writes hok'
  have hw:wrOf xs p=xs[p].i.wr:=by simp only [wrOf,hx,Option.bind_some]
  have hval:∀t,xs[p].i.wr=some t→v=valOf rec xs s0 p:=by
   intro t ht
   simp only [valOf,hx,ht,h1,hv]
   rw [envGet_W_eq (by simp)]
  rw [h1,hv,runTo_env hok p (by omega),List.range_succ,List.reverse_append]
  simp only [envL,List.reverse_singleton,List.flatMap_append,List.flatMap_cons,List.flatMap_nil,List.append_nil,List.append_assoc,hw]
  rw [W_same hval]
theorem runTo_heap (hok:(evXs rec xs s0).ok=true) {p:Nat}:∀{q:Nat},p≤q→q≤xs.length→(∀r,p≤r→r<q→effOf xs r=false)→(runTo rec xs s0 q).heap=(runTo rec xs s0 p).heap:=by
 intro q hpq
 induction hpq with
 | refl=>intro _ _;rfl
 | step h ih =>
  rename_i k
  intro hk hq
  have hx:xs[k]?=some xs[k]:=by simp
  have h1:=runTo_succ (rec:=rec) (s0:=s0) hx
  have hok':=runTo_ok hok (k+1)
  rw [h1] at hok'
  obtain ⟨v,_,hh⟩:=evX_writes hok'
  have hkq:xs[k].i.quiet=true:=by
   have:=hq k h (Nat.lt_succ_self k)
   simpa only [effOf,hx,Option.map_some,Option.getD_some,Bool.not_eq_false'] using this
  rw [h1,hh hkq]
  exact ih (by omega) (fun r h1 h2=>hq r h1 (by omega))
theorem find (hok:(evXs rec xs s0).ok=true) (hpair:∀p q x y,p<q→xs[p]?=some x→xs[q]?=some y→PairOk D R xs.length xs p q x y)
  (hR:∀k i,(k,i)∈R→Again rec (runTo rec xs s0 k) i)
  {E:List Nat} (hE:∀p∈E,p<xs.length) (hclosed:∀p∈E,∀r∈D.getD p [],r∈E) {j:Nat} {x:X} (hx:xs[j]?=some x) (hj:j∉E) (hready:∀r∈D.getD j [],r∈E) :
  evX rec x (sigma rec xs s0 E)=sigma rec xs s0 (j::E):=by
 have hjlt:j<xs.length:=by
  rcases Nat.lt_or_ge j xs.length with h | h
  ·exact h
  ·simp [List.getElem?_eq_none h] at hx
 have hget:∀(p:Nat) (hp:p<xs.length),xs[p]?=some xs[p]:=fun p hp=>by simp [hp]
 have before:∀p,bef (masks D) p j=true→p∈E:=fun p h=>bef_mem hclosed hready h
 have after:∀p,bef (masks D) j p=true→p∉E:=fun p h hp=>hj (bef_mem hclosed (hclosed p hp) h)
 have huniq:∀t p q,p<xs.length→q<xs.length→wrOf xs p=some t→wrOf xs q=some t→p=q:=by
  intro t p q hp hq h1 h2
  simp only [wrOf,hget p hp,hget q hq,Option.bind_some] at h1 h2
  rcases Nat.lt_trichotomy p q with h | h | h
  ·exact absurd h2 ((hpair p q _ _ h (hget p hp) (hget q hq)).uniq t h1)
  ·exact h
  ·exact absurd h1 ((hpair q p _ _ h (hget q hq) (hget p hp)).uniq t h2)
 have writers:∀t,t∈x.slots→∀p,p<xs.length→p≠j→wrOf xs p=some t→bef (masks D) p j=true∨bef (masks D) j p=true:=by
  intro t ht p hp hpj hw
  simp only [wrOf,hget p hp,Option.bind_some] at hw
  rcases Nat.lt_trichotomy p j with h | h | h
  ·cases hb:bef (masks D) p j
   ·exact absurd ht (((hpair p j _ _ h (hget p hp) hx).rw hb).1 t hw)
   ·exact .inl rfl
  ·exact absurd h hpj
  ·cases hb:bef (masks D) j p
   ·exact absurd ht (((hpair j p _ _ h hx (hget p hp)).rw hb).2 t hw)
   ·exact .inr rfl
 have mem_rev:∀{p k:Nat},p∈(List.range k).reverse↔p<k:=by simp
 have hlt_rev:∀k,k≤xs.length→∀p∈(List.range k).reverse,p<xs.length:=fun k hk p hp=>by have:=mem_rev.1 hp;omega
 have agree:∀t,t∈x.slots→envGet (runTo rec xs s0 j).env t=envGet (sigma rec xs s0 E).env t:=by
  intro t ht
  rw [runTo_env hok j (by omega)]
  refine envL_agree (n:=xs.length) (fun p q hp hq h1 h2=>huniq t p q hp hq h1 h2) (hlt_rev j (by omega)) hE fun p hp hw=>?_
  by_cases hpj:p=j
  ·subst hpj;exact ⟨fun h=>absurd (mem_rev.1 h) (by omega),fun h=>absurd h hj⟩
  ·rcases writers t ht p hp hpj hw with h | h
   ·exact ⟨fun _=>before p h,fun _=>mem_rev.2 (bef_lt h)⟩
   ·have:=bef_lt h
    exact ⟨fun h1=>absurd (mem_rev.1 h1) (by omega),fun h1=>absurd h1 (after p h)⟩
 have hstep:=runTo_succ (rec:=rec) (s0:=s0) hx
 have hokj:=runTo_ok hok (j+1)
 rw [hstep] at hokj
 have hwj:wrOf xs j=x.i.wr:=by simp [wrOf,hx]
 have hej:effOf xs j=!x.i.quiet:=by simp [effOf,hx]
 have finish:∀{r:St} {v:V},r.ok=true→r.env=W x.i.wr v++(sigma rec xs s0 E).env→(∀t,x.i.wr=some t→v=valOf rec xs s0 j)→r.heap=(runTo rec xs s0 (topE (effOf xs) (j::E))).heap→r=sigma rec xs s0 (j::E):=by
  intro r v h1 h2 h3 h4
  cases r with
  | mk e h o =>
   simp only at h1 h2 h4
   subst h1
   simp only [sigma,St.mk.injEq,and_true]
   refine ⟨?_,h4⟩
   rw [h2,W_same h3]
   simp [sigma,envL,hwj]
 have valv:∀{v:V},(evX rec x (runTo rec xs s0 j)).env=W x.i.wr v++(runTo rec xs s0 j).env→∀t,x.i.wr=some t→v=valOf rec xs s0 j:=by
  intro v hv t ht
  simp only [valOf,hx,ht,hstep,hv]
  rw [envGet_W_eq (by simp)]
 by_cases hq:x.i.quiet=true
 ·
  have htop:topE (effOf xs) (j::E)=topE (effOf xs) E:=by simp [topE,hej,hq]
  have direct:((runTo rec xs s0 j).heap=(sigma rec xs s0 E).heap∨x.i.blind=true)→evX rec x (sigma rec xs s0 E)=sigma rec xs s0 (j::E):=by
   intro hh
   obtain ⟨h1,v,h2,h3,h4⟩:=evX_alike (rec:=rec) agree hh hokj rfl
   refine finish h1 h3 (valv h2) ?_
   rcases h4 with h4 | h4
   ·rw [h4.2,htop];rfl
   ·rw [hq] at h4;simp at h4
  by_cases hb:x.i.blind=true
  ·exact direct (.inr hb)
  ·rcases topE_cases (ef:=effOf xs) E with h0 | ⟨k,hk,hek,htk⟩
   ·
    refine direct (.inl ?_)
    simp only [sigma,h0]
    refine runTo_heap hok (Nat.zero_le _) (by omega) fun r _ hr=>?_
    cases her:effOf xs r with
    | false=>rfl
    | true =>
     exfalso
     have hr':r<xs.length:=by omega
     have hqr:xs[r].i.quiet=false:=by simpa only [effOf,hget r hr',Option.map_some,Option.getD_some,Bool.not_eq_true'] using her
     cases hbr:bef (masks D) r j with
     | true=>have:=topE_ge her (before r hbr);omega
     | false=>exact hb ((hpair r j _ _ hr (hget r hr') hx).left hbr hqr)
   ·by_cases hkj:k<j
    ·refine direct (.inl ?_)
     simp only [sigma,htk]
     refine runTo_heap hok (by omega) (by omega) fun r hr1 hr2=>?_
     cases her:effOf xs r with
     | false=>rfl
     | true =>
      exfalso
      have hr':r<xs.length:=by omega
      have hqr:xs[r].i.quiet=false:=by simpa only [effOf,hget r hr',Option.map_some,Option.getD_some,Bool.not_eq_true'] using her
      cases hbr:bef (masks D) r j with
      | true=>have:=topE_ge her (before r hbr);omega
      | false=>exact hb ((hpair r j _ _ hr2 (hget r hr') hx).left hbr hqr)
    ·have hjk:j<k:=by
      have:k≠j:=fun h=>hj (h▸hk)
      omega
     have hklt:=hE k hk
     have hqk:xs[k].i.quiet=false:=by simpa only [effOf,hget k hklt,Option.map_some,Option.getD_some,Bool.not_eq_true'] using hek
     have hnb:bef (masks D) j k=false:=by
      cases hbk:bef (masks D) j k with
      | false=>rfl
      | true=>exact absurd hk (after k hbk)
     rcases (hpair j k _ _ hjk hx (hget k hklt)).right hnb hqk with h | ⟨hg,hin,hops⟩
     ·exact absurd h hb
     ·obtain ⟨d,hd,hok',hsame⟩:=hR _ _ hin
      have hxi:∀s,evX rec x s=evI rec x.i s:=fun s=>by simp [evX,hg]
      have agree':∀t,t∈x.slots→envGet (runTo rec xs s0 (k+1)).env t=envGet (sigma rec xs s0 E).env t:=by
       intro t ht
       rw [runTo_env hok (k+1) (by omega)]
       refine envL_agree (n:=xs.length) (fun p q hp hq h1 h2=>huniq t p q hp hq h1 h2) (hlt_rev (k+1) (by omega)) hE fun p hp hw=>?_
       have hw':xs[p].i.wr=some t:=by simpa only [wrOf,hget p hp,Option.bind_some] using hw
       rcases hops p _ t (hget p hp) hw' ht with h | h
       ·have:=bef_lt h
        exact ⟨fun _=>before p h,fun _=>mem_rev.2 (by omega)⟩
       ·refine ⟨fun h1=>absurd (mem_rev.1 h1) (by omega),fun h1=>?_⟩
        rcases writers t ht p hp (by omega) hw with h2 | h2
        ·have:=bef_lt h2;omega
        ·exact absurd h1 (after p h2)
      have hheap:(runTo rec xs s0 (k+1)).heap=(sigma rec xs s0 E).heap:=by simp only [sigma,htk]
      rw [←hxi] at hok'
      obtain ⟨h1,v,h2,h3,h4⟩:=evX_alike (rec:=rec) agree' (.inl hheap) hok' rfl
      refine finish h1 h3 (fun t ht=>?_) ?_
      ·rw [hd] at ht
       have:d=t:=by simpa using ht
       subst this
       rw [←hxi,h2,envGet_W_eq (by rw [hd];simp),runTo_env hok (k+1) (by omega)] at hsame
       rw [hsame,envL_some (wr:=wrOf xs) (p:=j) (by rw [hwj,hd]) (mem_rev.2 (by omega)) (fun q hq hwq=>huniq d q j (hlt_rev (k+1) (by omega) q hq) hjlt hwq (by rw [hwj,hd]))]
      ·rcases h4 with h4 | h4
       ·rw [h4.2,htop];rfl
       ·rw [hq] at h4;simp at h4
 ·
  have hq':x.i.quiet=false:=by simpa using hq
  have heff:∀r,effOf xs r=true→r≠j→r<xs.length→(r∈E↔r<j):=by
   intro r her hrj hr'
   have hqr:xs[r].i.quiet=false:=by simpa only [effOf,hget r hr',Option.map_some,Option.getD_some,Bool.not_eq_true'] using her
   rcases Nat.lt_trichotomy r j with h | h | h
   ·refine ⟨fun _=>h,fun _=>?_⟩
    cases hbr:bef (masks D) r j with
    | true=>exact before r hbr
    | false =>
     rcases (hpair r j _ _ h (hget r hr') hx).eff hbr with h1 | h1
     ·rw [hqr] at h1;simp at h1
     ·rw [hq'] at h1;simp at h1
   ·exact absurd h hrj
   ·refine ⟨fun hm=>?_,fun hlt=>by omega⟩
    cases hbr:bef (masks D) j r with
    | true=>exact absurd hm (after r hbr)
    | false =>
     rcases (hpair j r _ _ h hx (hget r hr')).eff hbr with h1 | h1
     ·rw [hq'] at h1;simp at h1
     ·rw [hqr] at h1;simp at h1
  have htop:topE (effOf xs) E≤j:=topE_le fun p hp hep=>(heff p hep (fun h=>hj (h▸hp)) (hE p hp)).1 hp
  have hheap:(runTo rec xs s0 j).heap=(sigma rec xs s0 E).heap:=by
   simp only [sigma]
   refine runTo_heap hok htop (by omega) fun r hr1 hr2=>?_
   cases her:effOf xs r with
   | false=>rfl
   | true =>
    exfalso
    have:=topE_ge her ((heff r her (by omega) (by omega)).2 hr2)
    omega
  obtain ⟨h1,v,h2,h3,h4⟩:=evX_alike (rec:=rec) agree (.inl hheap) hokj rfl
  refine finish h1 h3 (valv h2) ?_
  have htop':topE (effOf xs) (j::E)=j+1:=by simp only [topE,hej,hq'];simp;omega
  rw [htop',hstep]
  rcases h4 with h4 | h4
  ·rw [h4.1,h4.2];exact hheap.symm
  ·exact h4.2.symm
end
end Go.VS
namespace Go.VS
def J.resL:List J→List (Nat×I)
 | []=>[]
 | j::r=>(match j with | .re i=>[(0,i)] | _=>[])++(J.resL r).map fun p=>((j.flat none).length+p.1,p.2)
theorem flatL_re {rec:Rec}:∀{js:List J} {T S:List Nat} {s s':St},J.fokL true T S js=true→Ag T s s'→(evJs rec js s).ok=true→∀k i,(k,i)∈J.resL js→Again rec (runTo rec (J.flatL none js) s' k) i
 | [],_,_,_,_,_,_,_,_,_,h=>by simp [J.resL] at h
 | j::r,T,S,s,s',hf,ha,hok,k,i,hin=>by
  simp only [J.fokL,Bool.and_eq_true] at hf
  simp only [evJs] at hok
  simp only [J.resL,List.mem_append,List.mem_map] at hin
  rcases hin with hin | ⟨⟨k',i'⟩,hin,heq⟩
  ·cases j with
   | re i' =>
    simp at hin
    obtain ⟨rfl,rfl⟩:=hin
    have hj:=hf.1
    simp only [J.fok,Bool.and_eq_true,Bool.true_and] at hj
    obtain ⟨⟨h1,h2⟩,h3⟩:=hj
    have hokj:=evJs_ok hok
    simp only [evJ,again] at hokj
    have hwd:i.wr=i.dst:=by cases i<;>first | rfl | simp [I.quiet] at h2
    cases hd:i.dst with
    | none=>simp [hd] at hokj
    | some d =>
     simp only [hd] at hokj
     split at hokj
     ·rename_i hc
      simp only [Bool.and_eq_true] at hc
      have hag:=ha.op (rec:=rec) h1 hc.1
      rw [hwd,hd] at h3
      have hdT:d∉T:=by simpa using h3
      refine ⟨d,by rw [hwd,hd],hag.ok,?_⟩
      have e1:=V.same_spec hc.2
      rw [hag.env d hdT,ha.env d hdT] at e1
      simpa [runTo,evXs] using e1
     ·simp at hokj
   | op _=>simp at hin
   | sc _ _ _ _ _=>simp at hin
  ·simp only [Prod.mk.injEq] at heq
   obtain ⟨rfl,rfl⟩:=heq
   have hj:=flat_ag (rec:=rec) (g:=none) hf.1 ha (fun _ _ h=>by simp at h) trivial (evJs_ok hok)
   have ih:=flatL_re hf.2 hj hok k' i' hin
   have:runTo rec (J.flatL none (j::r)) s' ((j.flat none).length+k')=runTo rec (J.flatL none r) (evXs rec (j.flat none) s') k':=by
    simp only [runTo,J.flatL,List.take_length_add_append,evXs_append]
   rw [this]
   exact ih
def A.same:A→A→Bool
 | .t n,.t m=>n==m
 | .k (.i q n),.k (.i q' n')=>q==q'&&n==n'
 | _,_=>false
theorem A.same_spec {a b:A} (h:A.same a b=true):a=b:=by
 unfold A.same at h
 split at h
 ·simp at h;rw [h]
 ·simp at h;rw [h.1,h.2]
 ·simp at h
def A.sameO:Option A→Option A→Bool
 | none,none=>true
 | some a,some b=>A.same a b
 | _,_=>false
theorem A.sameO_spec {a b:Option A} (h:A.sameO a b=true):a=b:=by
 unfold A.sameO at h
 split at h
 ·rfl
 ·rw [A.same_spec h]
 ·simp at h
def I.same:I→I→Bool
 | .sl d x l h es,.sl d' x' l' h' es'=>d==d'&&A.same x x'&&A.sameO l l'&&A.sameO h h'&&es==es'
 | .ld d x n ag,.ld d' x' n' ag'=>d==d'&&A.same x x'&&n==n'&&ag==ag'
 | .fa d x n k,.fa d' x' n' k'=>d==d'&&A.same x x'&&n==n'&&k==k'
 | .ixs d x n k,.ixs d' x' n' k'=>d==d'&&A.same x x'&&A.same n n'&&k==k'
 | .len d x k,.len d' x' k'=>d==d'&&A.same x x'&&k==k'
 | .isnil d n x k,.isnil d' n' x' k'=>d==d'&&n==n'&&A.same x x'&&k==k'
 | _,_=>false
theorem I.same_spec {a b:I} (h:I.same a b=true):a=b:=by
 unfold I.same at h
 split at h
 ·simp only [Bool.and_eq_true,beq_iff_eq] at h;obtain ⟨⟨⟨⟨rfl,h2⟩,h3⟩,h4⟩,rfl⟩:=h;rw [A.same_spec h2,A.sameO_spec h3,A.sameO_spec h4]
 ·simp only [Bool.and_eq_true,beq_iff_eq] at h;obtain ⟨⟨⟨rfl,h2⟩,rfl⟩,rfl⟩:=h;rw [A.same_spec h2]
 ·simp only [Bool.and_eq_true,beq_iff_eq] at h;obtain ⟨⟨⟨rfl,h2⟩,rfl⟩,rfl⟩:=h;rw [A.same_spec h2]
 ·simp only [Bool.and_eq_true,beq_iff_eq] at h;obtain ⟨⟨⟨rfl,h2⟩,h3⟩,rfl⟩:=h;rw [A.same_spec h2,A.same_spec h3]
 ·simp only [Bool.and_eq_true,beq_iff_eq] at h;obtain ⟨⟨rfl,h2⟩,rfl⟩:=h;rw [A.same_spec h2]
 ·simp only [Bool.and_eq_true,beq_iff_eq] at h;obtain ⟨⟨⟨rfl,rfl⟩,h2⟩,rfl⟩:=h;rw [A.same_spec h2]
 ·simp at h
def opsOk (ms:List Nat) (p q:Nat) (x:X):Nat→List X→Bool
 | _,[]=>true
 | r,z::zs=>(noneIn z.i.wr.toList x.slots||bef ms r p||decide (q<r))&&opsOk ms p q x (r+1) zs
def pairB (ms:List Nat) (R:List (Nat×I)) (xs:List X) (p q:Nat) (x y:X):Bool :=
 noneIn x.i.wr.toList y.i.wr.toList &&
 (bef ms p q ||
  (noneIn x.i.wr.toList y.slots&&noneIn y.i.wr.toList x.slots&&(x.i.quiet||(y.i.quiet&&y.i.blind)) &&
   (y.i.quiet||x.i.blind||(x.g.isNone&&R.any (fun r=>r.1==q+1&&I.same r.2 x.i)&&opsOk ms p q x 0 xs))))
def pairsWith (ms:List Nat) (R:List (Nat×I)) (xs:List X) (p:Nat) (x:X):Nat→List X→Bool
 | _,[]=>true
 | q,y::ys=>pairB ms R xs p q x y&&pairsWith ms R xs p x (q+1) ys
def pairsB (ms:List Nat) (R:List (Nat×I)) (xs:List X):Nat→List X→Bool
 | _,[]=>true
 | p,x::r=>pairsWith ms R xs p x (p+1) r&&pairsB ms R xs (p+1) r
theorem opsOk_spec {ms:List Nat} {p q:Nat} {x:X}:∀{zs:List X} {r:Nat},opsOk ms p q x r zs=true→∀k z t,zs[k]?=some z→z.i.wr=some t→t∈x.slots→bef ms (r+k) p=true∨q<r+k
 | [],_,_,_,_,_,h,_,_=>by simp at h
 | z::zs,r,h,k,z',t,hz,hw,ht=>by
  simp only [opsOk,Bool.and_eq_true,Bool.or_eq_true,decide_eq_true_eq] at h
  cases k with
  | zero =>
   simp at hz
   subst hz
   rcases h.1 with (h1 | h1) | h1
   ·exact absurd ht (noneIn_spec h1 (by rw [hw];simp))
   ·exact .inl h1
   ·exact .inr h1
  | succ k =>
   have:=opsOk_spec h.2 k z' t (by simpa using hz) hw ht
   rwa [Nat.add_assoc,Nat.add_comm 1 k] at this
theorem pairB_spec {D:List (List Nat)} {R:List (Nat×I)} {xs:List X} {p q:Nat} {x y:X} (h:pairB (masks D) R xs p q x y=true):PairOk D R xs.length xs p q x y:=by
 simp only [pairB,Bool.and_eq_true,Bool.or_eq_true] at h
 obtain ⟨h0,h⟩:=h
 refine ⟨fun t hx hy=>absurd (show t∈y.i.wr.toList by rw [hy];simp) (noneIn_spec h0 (by rw [hx];simp)),fun hb=>?_,fun hb=>?_,fun hb=>?_,fun hb=>?_⟩ <;>
  rw [hb] at h<;>simp only [Bool.false_eq_true,false_or] at h<;>obtain ⟨⟨⟨h1,h2⟩,h3⟩,h4⟩:=h
 ·exact ⟨fun t hx=>noneIn_spec h1 (by rw [hx];simp),fun t hy=>noneIn_spec h2 (by rw [hy];simp)⟩
 ·exact h3.imp id (·.1)
 ·intro hx
  rcases h3 with h3 | h3
  ·rw [hx] at h3;simp at h3
  ·exact h3.2
 ·intro hy
  rcases h4 with (h4 | h4) | h4
  ·rw [hy] at h4;simp at h4
  ·exact .inl h4
  ·refine .inr ⟨by simpa using h4.1.1,?_,fun r z t hz hw ht=>by simpa using opsOk_spec h4.2 r z t hz hw ht⟩
   have:=h4.1.2
   simp only [List.any_eq_true,Bool.and_eq_true,beq_iff_eq] at this
   obtain ⟨⟨k,i⟩,hin,hk,hi⟩:=this
   simp only at hk hi
   rw [←I.same_spec hi,←hk]
   exact hin
theorem pairsWith_spec {D:List (List Nat)} {R:List (Nat×I)} {xs:List X} {p:Nat} {x:X}:∀{ys:List X} {q:Nat},pairsWith (masks D) R xs p x q ys=true→∀k y,ys[k]?=some y→PairOk D R xs.length xs p (q+k) x y
 | [],_,_,_,_,h=>by simp at h
 | y::ys,q,h,k,y',hy=>by
  simp only [pairsWith,Bool.and_eq_true] at h
  cases k with
  | zero=>simp at hy;subst hy;exact pairB_spec h.1
  | succ k =>
   have:=pairsWith_spec h.2 k y' (by simpa using hy)
   rwa [Nat.add_assoc,Nat.add_comm 1 k] at this
theorem pairsB_spec {D:List (List Nat)} {R:List (Nat×I)} {xs:List X}:∀{ys:List X} {p:Nat},pairsB (masks D) R xs p ys=true→∀i j x y,i<j→ys[i]?=some x→ys[j]?=some y→PairOk D R xs.length xs (p+i) (p+j) x y
 | [],_,_,_,_,_,_,_,h,_=>by simp at h
 | z::ys,p,h,i,j,x,y,hij,hx,hy=>by
  simp only [pairsB,Bool.and_eq_true] at h
  cases j with
  | zero=>omega
  | succ j =>
   cases i with
   | zero =>
    simp at hx;subst hx
    have:=pairsWith_spec h.1 j y (by simpa using hy)
    rwa [Nat.add_assoc,Nat.add_comm 1 j] at this
   | succ i =>
    have:=pairsB_spec h.2 i j x y (by omega) (by simpa using hx) (by simpa using hy)
    rwa [Nat.add_assoc,Nat.add_comm 1 i,Nat.add_assoc,Nat.add_comm 1 j] at this
section
variable (P:Program) (φ:Nat→Nat) (nt:Nat)
def depsOf (ops:Array Oper) (perm:List Nat) (i:Nat):List Nat :=
 match ops[i]? with
 | some o=>(o.after.toList.filter fun e=>Region.binds .any e).map fun e=>perm.idxOf e.on
 | none=>[]
def placesOk (ops:Array Oper) (perm:List Nat):Nat→List Nat→List X→Bool
 | _,[],[]=>true
 | p,i::is,x::xs=>(match ops[i]? with | some o=>chkI P φ nt o x.i&&gOk ops o x&&o.after.all (fun e=>decide (e.on<ops.size)) | none=>false)&&(depsOf ops perm i).all (·<p)&&placesOk ops perm (p+1) is xs
 | _,_,_=>false
def chkDrw (ops:Array Oper) (perm:List Nat) (js:List J):Bool :=
 J.fokL true [] [] js&&perm.length==ops.size&&decide perm.Nodup&&(List.range ops.size).all (perm.contains ·)&&placesOk P φ nt ops perm 0 perm (J.flatL none js) &&
  pairsB (masks (perm.map (depsOf ops perm))) (J.resL js) (J.flatL none js) 0 (J.flatL none js)
variable {P φ nt}
theorem placesOk_spec {ops:Array Oper} {perm:List Nat}:∀{is:List Nat} {xs:List X} {p:Nat},placesOk P φ nt ops perm p is xs=true→is.length=xs.length ∧
  ∀k i x,is[k]?=some i→xs[k]?=some x→(∃o,ops[i]?=some o∧chkI P φ nt o x.i=true∧gOk ops o x=true∧∀e∈o.after,e.on<ops.size)∧∀r∈depsOf ops perm i,r<p+k
 | [],[],p,_=>⟨rfl,fun k i x h=>by simp at h⟩
 | i::is,x::xs,p,h=>by
  simp only [placesOk,Bool.and_eq_true] at h
  obtain ⟨⟨h1,h2⟩,h3⟩:=h
  obtain ⟨hl,ih⟩:=placesOk_spec h3
  refine ⟨by simp [hl],fun k i' x' hi hx=>?_⟩
  cases k with
  | zero =>
   simp at hi hx
   subst hi;subst hx
   refine ⟨?_,by simpa using h2⟩
   split at h1
   ·rename_i o ho
    simp only [Bool.and_eq_true,Array.all_eq_true_iff_forall_mem,decide_eq_true_eq] at h1
    exact ⟨o,ho,h1.1.1,h1.1.2,h1.2⟩
   ·simp at h1
  | succ k =>
   have:=ih k i' x' (by simpa using hi) (by simpa using hx)
   rwa [Nat.add_assoc,Nat.add_comm 1 k] at this
 | [],_::_,_,h=>by simp [placesOk] at h
 | _::_,[],_,h=>by simp [placesOk] at h
end
end Go.VS
namespace Go.VS
section
variable {P:Program} {φ:Phi}
variable {nt m dB:Nat} {s:St} {g:Gh} {a:Act} {w:World} {K:Act→World→Prop} {Q:Exit→Act→World→Prop} {o:Oper} {ops:Array Oper} {r:Option Nat} {n:Nat}
theorem SRel.congr {s':St} (hs:SRel φ nt m dB s' g a w) (he:∀t,envGet s.env t=envGet s'.env t) (hh:s.heap=s'.heap):SRel φ nt m dB s g a w where
 env k:=by rw [he,hh];exact hs.env k
 heap:=by rw [hh];exact hs.heap
 size:=hs.size
 defers:=by rw [hh];exact hs.defers
 len:=by rw [hh];exact hs.len
theorem SRel.forget (hs:SRel φ nt m dB s g a w) (fl:List Nat) (ok:Bool):SRel φ nt m dB ⟨forgetEnv fl s.env,s.heap,ok⟩ g a w where
 env k:=by
  simp only [envGet_forget]
  split
  ·simp [relV]
  ·exact hs.env k
 heap:=hs.heap
 size:=hs.size
 defers:=hs.defers
 len:=hs.len
theorem SRel.drew (hs:SRel φ nt m dB s g a w):SRel φ nt m dB s g a w.drew∧Frame m s.heap g w s.heap g w.drew:=by
 have hg:=Grew.drew w
 refine ⟨?_,?_⟩
 ·have:=hs.grew (I':=g.I) hg (fun _ _=>rfl) (fun b hb=>hs.heap.new b hb)
  exact this
 ·exact frame_grew m hs.heap hg (fun _ _=>rfl)
structure OrdOk (P:Program) (φ:Phi) (nt:Nat) (ops:Array Oper) (perm:List Nat) (xs:List X):Prop where
 len:perm.length=ops.size
 nodup:perm.Nodup
 has:∀i,i<ops.size→i∈perm
 lenX:perm.length=xs.length
 place:∀k i x,perm[k]?=some i→xs[k]?=some x→(∃o,ops[i]?=some o∧chkI P φ nt o x.i=true∧gOk ops o x=true∧∀e∈o.after,e.on<ops.size)∧∀r∈depsOf ops perm i,r<k
def depD (ops:Array Oper) (perm:List Nat):List (List Nat):=perm.map (depsOf ops perm)
theorem depD_get {perm:List Nat} {p i:Nat} (h:perm[p]?=some i):(depD ops perm).getD p []=depsOf ops perm i:=by
 simp [depD,List.getD,h]
structure OInv (φ:Phi) (nt m dB:Nat) (ops:Array Oper) (perm:List Nat) (rec:Rec) (xs:List X) (s0:St) (g0:Gh) (w0:World) (fuel:Nat) (listed:Array Bool) (a:Act) (w:World) (E Rm:List Nat) (g:Gh):Prop where
 size:listed.size=ops.size
 lst:∀p i,perm[p]?=some i→(p∈E↔listed.getD i false=true)
 lt:∀p∈E,p<xs.length
 closed:∀p∈E,∀r∈(depD ops perm).getD p [],r∈E
 rest:∀p,p<xs.length→p∉E→p∈Rm
 fuel:Rm.length≤fuel
 rel:SRel φ nt m dB (sigma rec xs s0 E) g a w
 frame:Frame m s0.heap g0 w0 (sigma rec xs s0 E).heap g w
theorem idx_of {perm:List Nat} (h:perm.Nodup) {p i:Nat} (hp:perm[p]?=some i):perm.idxOf i=p:=by
 have hlt:p<perm.length:=by
  rcases Nat.lt_or_ge p perm.length with h1 | h1
  ·exact h1
  ·simp [List.getElem?_eq_none h1] at hp
 have he:perm[p]=i:=by simpa [List.getElem?_eq_getElem hlt] using hp
 rw [←he]
 exact List.Nodup.idxOf_getElem h p hlt
theorem wpAny_ord {rec:Rec} (hq:QuietCall P φ rec) (hy:RoundOk P φ rec) {perm:List Nat} {xs:List X} {s0:St} {g0:Gh} {w0:World} {R:List (Nat×I)} (hO:OrdOk P φ nt ops perm xs)
  (hok:(evXs rec xs s0).ok=true) (hpair:∀p q x y,p<q→xs[p]?=some x→xs[q]?=some y→PairOk (depD ops perm) R xs.length xs p q x y)
  (hR:∀k i,(k,i)∈R→Again rec (runTo rec xs s0 k) i) (hQ:Post φ nt m dB s0 g0 w0 (evXs rec xs s0) (Q .normal)) :
  ∀(fuel:Nat) (listed:Array Bool) (a:Act) (w:World) (E Rm:List Nat) (g:Gh),OInv φ nt m dB ops perm rec xs s0 g0 w0 fuel listed a w E Rm g→wpAnyIn (Wd r) n P .any ops Q fuel listed a w:=by
 have hposi:∀i,i<ops.size→∃p,perm[p]?=some i∧p<xs.length:=by
  intro i hi
  obtain ⟨p,hp,he⟩:=List.getElem_of_mem (hO.has i hi)
  exact ⟨p,by simp [hp,he],by rw [←hO.lenX];exact hp⟩
 have hget:∀(p:Nat) (hp:p<xs.length),xs[p]?=some xs[p]:=fun p hp=>by simp [hp]
 have hperm:∀(p:Nat),p<xs.length→∃i,perm[p]?=some i:=fun p hp=>by
  have:p<perm.length:=by rw [hO.lenX];exact hp
  exact ⟨perm[p],by simp [this]⟩
 have deps_in:∀{fuel:Nat} {listed:Array Bool} {a:Act} {w:World} {E Rm:List Nat} {g:Gh},OInv φ nt m dB ops perm rec xs s0 g0 w0 fuel listed a w E Rm g→∀{p i:Nat} {o:Oper},perm[p]?=some i→p<xs.length→ops[i]?=some o →
   ((∀e∈o.after,Region.binds .any e=true→listed.getD e.on false=true)↔∀r∈(depD ops perm).getD p [],r∈E):=by
  intro fuel listed a w E Rm g inv p i o hp hpx ho
  rw [depD_get hp]
  simp only [depsOf,ho]
  have hon:∀e∈o.after,e.on<ops.size:=by
   obtain ⟨⟨o',ho',_,_,h⟩,_⟩:=hO.place p i xs[p] hp (hget p hpx)
   rw [ho] at ho'
   simp at ho'
   subst ho'
   exact h
  constructor
  ·intro h r hr
   simp only [List.mem_map,List.mem_filter,Array.mem_toList_iff] at hr
   obtain ⟨e,⟨he,hb⟩,rfl⟩:=hr
   obtain ⟨q,hq1,hq2⟩:=hposi e.on (hon e he)
   rw [idx_of hO.nodup hq1]
   exact (inv.lst q e.on hq1).2 (h e he hb)
  ·intro h e he hb
   obtain ⟨q,hq1,hq2⟩:=hposi e.on (hon e he)
   have:=h q (by
    simp only [List.mem_map,List.mem_filter,Array.mem_toList_iff]
    exact ⟨e,⟨he,hb⟩,idx_of hO.nodup hq1⟩)
   exact (inv.lst q e.on hq1).1 this
 have done:∀{fuel:Nat} {listed:Array Bool} {a:Act} {w:World} {E Rm:List Nat} {g:Gh},OInv φ nt m dB ops perm rec xs s0 g0 w0 fuel listed a w E Rm g→(∀p,p<xs.length→p∈E)→Q .normal a w:=by
  intro fuel listed a w E Rm g inv hall
  have hmem:∀p,p<xs.length→(p∈(List.range xs.length).reverse↔p∈E):=fun p hp=>⟨fun _=>hall p hp,fun _=>by simpa using hp⟩
  have hu:∀t p q,p<xs.length→q<xs.length→wrOf xs p=some t→wrOf xs q=some t→p=q:=by
   intro t p q hp hq h1 h2
   simp only [wrOf,hget p hp,hget q hq,Option.bind_some] at h1 h2
   rcases Nat.lt_trichotomy p q with h | h | h
   ·exact absurd h2 ((hpair p q _ _ h (hget p hp) (hget q hq)).uniq t h1)
   ·exact h
   ·exact absurd h1 ((hpair q p _ _ h (hget q hq) (hget p hp)).uniq t h2)
  have hheap:(evXs rec xs s0).heap=(sigma rec xs s0 E).heap:=by
   rw [←runTo_all (rec:=rec) (xs:=xs) (s0:=s0)]
   simp only [sigma]
   refine runTo_heap hok (topE_le fun p hp _=>inv.lt p hp) (Nat.le_refl _) fun r h1 h2=>?_
   cases her:effOf xs r with
   | false=>rfl
   | true=>have:=topE_ge her (hall r h2);omega
  refine hQ g a w (inv.rel.congr (fun t=>?_) hheap) (by rw [hheap];exact inv.frame)
  rw [←runTo_all (rec:=rec) (xs:=xs) (s0:=s0),runTo_env hok _ (Nat.le_refl _)]
  exact envL_agree (n:=xs.length) (fun p q hp hq=>hu t p q hp hq) (fun p hp=>by simpa using hp) inv.lt fun p hp _=>hmem p hp
 have empty:∀{fuel:Nat} {listed:Array Bool} {a:Act} {w:World} {E Rm:List Nat} {g:Gh},OInv φ nt m dB ops perm rec xs s0 g0 w0 fuel listed a w E Rm g→Region.ready .any ops listed=[]→Q .normal a w:=by
  intro fuel listed a w E Rm g inv hr
  refine done inv fun p=>?_
  induction p using Nat.strongRecOn with
  | _ p ih =>
   intro hp
   apply Classical.byContradiction
   intro hne
   obtain ⟨i,hi⟩:=hperm p hp
   obtain ⟨⟨o,ho,_⟩,hd⟩:=hO.place p i xs[p] hi (hget p hp)
   have hun:listed.getD i true=false:=by
    have hsz:i<listed.size:=by rw [inv.size];exact (Array.getElem?_eq_some_iff.1 ho).1
    cases h1:listed.getD i true with
    | false=>rfl
    | true =>
     exfalso
     apply hne
     rw [inv.lst p i hi]
     simpa [hsz] using h1
   have:i∈Region.ready .any ops listed:=mem_ready.2 ⟨hun,o,ho,(deps_in inv hi hp ho).2 fun r hr=>by
    rw [depD_get hi] at hr
    have:=hd r hr
    exact ih r this (by omega)⟩
   rw [hr] at this
   simp at this
 intro fuel
 induction fuel with
 | zero =>
  intro listed a w E Rm g inv
  have hall:∀p,p<xs.length→p∈E:=by
   intro p hp
   apply Classical.byContradiction
   intro hne
   have h1:=inv.rest p hp hne
   have h2:=inv.fuel
   have:Rm=[]:=by simpa using h2
   rw [this] at h1
   simp at h1
  refine ⟨?_,done inv hall⟩
  rw [List.eq_nil_iff_forall_not_mem]
  intro i hi
  obtain ⟨hun,o,ho,_⟩:=mem_ready.1 hi
  obtain ⟨p,hp,hpx⟩:=hposi i (Array.getElem?_eq_some_iff.1 ho).1
  have h1:=(inv.lst p i hp).1 (hall p hpx)
  have hsz:i<listed.size:=by rw [inv.size];exact (Array.getElem?_eq_some_iff.1 ho).1
  simp [hsz] at hun h1
  rw [hun] at h1
  simp at h1
 | succ fuel ih =>
  intro listed a w E Rm g inv
  refine ⟨empty inv,fun i hi=>?_⟩
  obtain ⟨hun,o,ho,hall⟩:=mem_ready.1 hi
  obtain ⟨j,hj,hjx⟩:=hposi i (Array.getElem?_eq_some_iff.1 ho).1
  obtain ⟨⟨o',ho',hchk,hgok,hon⟩,hd⟩:=hO.place j i xs[j] hj (hget j hjx)
  rw [ho] at ho'
  simp at ho'
  subst ho'
  have hsz:i<listed.size:=by rw [inv.size];exact (Array.getElem?_eq_some_iff.1 ho).1
  have hjE:j∉E:=by
   intro h
   have:=(inv.lst j i hj).1 h
   simp [hsz] at this hun
   rw [hun] at this
   simp at this
  have hready:=(deps_in inv hj hjx ho).1 hall
  have hfind:=find hok hpair hR inv.lt inv.closed (hget j hjx) hjE hready
  have next:∀g' a' w',SRel φ nt m dB (evX rec xs[j] (sigma rec xs s0 E)) g' a' w'→Frame m (sigma rec xs s0 E).heap g w (evX rec xs[j] (sigma rec xs s0 E)).heap g' w' →
    wpAnyIn (Wd r) n P .any ops Q fuel (listed.setIfInBounds i true) a' w':=by
   intro g' a' w' hs' hf'
   rw [hfind] at hs' hf'
   refine ih _ a' w' (j::E) (Rm.filter (·≠j)) g' ⟨by simp [inv.size],fun p i' hp=>?_,fun p hp=>?_,fun p hp r hr=>?_,fun p hp hpE=>?_,?_,hs',inv.frame.trans hf'⟩
   ·by_cases hpj:p=j
    ·subst hpj
     have:i'=i:=by rw [hj] at hp;simpa using hp.symm
     subst this
     simp [hsz]
    ·have hne:i≠i':=by
      intro h
      subst h
      have h1:=idx_of hO.nodup hj
      have h2:=idx_of hO.nodup hp
      omega
     rw [getD_set_ne false hne,List.mem_cons,inv.lst p i' hp]
     simp [hpj]
   ·rcases List.mem_cons.1 hp with h | h
    ·subst h;exact hjx
    ·exact inv.lt p h
   ·rcases List.mem_cons.1 hp with h | h
    ·subst h;exact List.mem_cons_of_mem _ (hready r hr)
    ·exact List.mem_cons_of_mem _ (inv.closed p h r hr)
   ·simp only [List.mem_cons,not_or] at hpE
    rw [List.mem_filter]
    exact ⟨inv.rest p hp hpE.2,by simpa using hpE.1⟩
   ·have hlen:(Rm.filter (·≠j)).length<Rm.length:=List.length_filter_lt_length_iff_exists.2 ⟨j,inv.rest j hjx hjE,by simp⟩
    have:=inv.fuel
    omega
  have hok':(evX rec xs[j] (sigma rec xs s0 E)).ok=true:=by rw [hfind];rfl
  have hdst:=chkI_dst hchk
  unfold wpOpIn
  simp only [ho]
  have hG:=sim_guard (K:=wpAnyIn (Wd r) n P .any ops Q fuel (listed.setIfInBounds i true)) (X:=o.wpIn (Wd r) n P a w (wpAnyIn (Wd r) n P .any ops Q fuel (listed.setIfInBounds i true)) Q) inv.rel hgok hdst.1 hdst.2 hok'
   (fun he hk=>sim_In hq hy inv.rel hchk hk fun g' v' w' hs' hf=>next g' _ w' (by rw [he];exact hs') (by rw [he];exact hf))
   (fun he hs'=>next g _ w (by rw [he];exact hs') (by rw [he];exact Frame.refl _ _ _ _))
  split
  ·rename_i hw;rw [if_pos hw] at hG;exact hG
  ·rename_i hw;rw [if_neg hw] at hG;exact ⟨fun _ _=>trivial,hG⟩
theorem chkDrw_spec {perm:List Nat} {js:List J} (h:chkDrw P φ nt ops perm js=true):J.fokL true [] [] js=true∧OrdOk P φ nt ops perm (J.flatL none js) ∧
  ∀p q x y,p<q→(J.flatL none js)[p]?=some x→(J.flatL none js)[q]?=some y→PairOk (depD ops perm) (J.resL js) (J.flatL none js).length (J.flatL none js) p q x y:=by
 simp only [chkDrw,Bool.and_eq_true,decide_eq_true_eq,beq_iff_eq] at h
 obtain ⟨⟨⟨⟨⟨h1,h2⟩,h3⟩,h8⟩,h4⟩,h5⟩:=h
 obtain ⟨h6,h7⟩:=placesOk_spec h4
 refine ⟨h1,⟨h2,h3,fun i hi=>by simpa using List.all_eq_true.1 h8 i (List.mem_range.2 hi),h6,fun k i x hk hx=>?_⟩,fun p q x y hpq hx hy=>?_⟩
 ·have:=h7 k i x hk hx
  rwa [Nat.zero_add] at this
 ·have:=pairsB_spec h5 p q x y hpq hx hy
  rwa [Nat.zero_add,Nat.zero_add] at this
theorem sim_drw {rec:Rec} (hm:P.follows .mixedOrders=true) (hq:QuietCall P φ rec) (hy:RoundOk P φ rec) {fl perm:List Nat} {js:List J} (hs:SRel φ nt m dB s g a w) (hc:chkDrw P φ nt ops perm js=true)
  (hok:(evJs rec js ⟨forgetEnv fl s.env,s.heap,s.ok⟩).ok=true) {id:Nat} (hQ:Post φ nt m dB s g w (evJs rec js ⟨forgetEnv fl s.env,s.heap,s.ok⟩) (Q .normal)):(Code.region id ops true).wpIn (Wd r) n P Q a w:=by
 obtain ⟨hf,hO,hpair⟩:=chkDrw_spec hc
 have hs0:=(hs.forget fl s.ok).drew
 have hag:=flatL_ag (rec:=rec) (g:=none) hf (Ag.refl (evJs_ok hok)) (fun _ _ h=>by simp at h) trivial hok
 have hre:=flatL_re (rec:=rec) hf (Ag.refl (evJs_ok hok)) hok
 refine wpIn_region_any hm ?_
 refine wpAny_ord (m:=m) (s0:=⟨forgetEnv fl s.env,s.heap,s.ok⟩) (g0:=g) (w0:=w.drew) hq hy hO hag.ok hpair hre (fun g' a' w' hs' hfr=>hQ g' a' w' (hs'.low hag) ?_)
  ops.size _ a w.drew [] (List.range ops.size) g ⟨by simp,fun p i hp=>?_,by simp,by simp,fun p hp _=>?_,by simp,?_,?_⟩
 ·rw [hag.heap]
  exact hs0.2.trans hfr
 ·simp only [List.not_mem_nil,false_iff]
  rcases Nat.lt_or_ge i ops.size with h | h<;>simp [h]
 ·rw [List.mem_range,←hO.len,hO.lenX];exact hp
 ·exact hs0.1.congr (fun t=>rfl) (by simp [sigma,topE,runTo,evXs])
 ·have:(sigma rec (J.flatL none js) ⟨forgetEnv fl s.env,s.heap,s.ok⟩ []).heap=s.heap:=by simp [sigma,topE,runTo,evXs]
  rw [this]
  exact Frame.refl _ _ _ _
end
end Go.VS
namespace Go.VS
def C.noRng:C→Bool
 | .seq a b=>a.noRng&&b.noRng
 | .ite _ a b=>a.noRng&&b.noRng
 | .blk _ a=>a.noRng
 | .loop _ a=>a.noRng
 | .rng ..=>false
 | _=>true
section
variable (P:Program) (φ:Nat→Nat) (nt:Nat)
def chkC:Code→C→Bool
 | .skip,.skip=>true
 | .label _,.skip=>true
 | .ret,.ret=>true
 | .exit i,.exit j=>i==j
 | .region _ ops draw,.reg js=>!draw&&J.fokL true [] [] js&&chkXs P φ nt ops ops.toList (J.flatL none js)
 | .region _ ops draw,.drw _ perm js=>draw&&chkDrw P φ nt ops perm js
 | .seq x y,.seq a b=>chkC x a&&chkC y b
 | .cond c x y,.ite d a b=>chkA φ c d&&chkC x a&&chkC y b
 | .block i x,.blk j a=>i==j&&chkC x a
 | .loop x,.loop _ a=>chkC x a
 | .rangeFunc f ps x y,.rng g _ ps' a b=>chkA φ f g&&ps.toList==ps'&&(decide ps'.Nodup&&ps'.all (fun p=>decide (p<nt))&&a.noRng&&b.noRng&&chkC x a&&chkC y b)
 | .scope x,.seq .skip a=>chkC x a
 | x,.seq a (.frz _)=>chkC x a
 | x,.seq (.frz _) a=>chkC x a
 | x,.seq (.keep _) a=>chkC x a
 | x,.seq (.fzc _ _) a=>chkC x a
 | _,_=>false
termination_by structural _ c=>c
def lkB (ps:List Nat) (a b:C) (x y:Code) (nt:Nat):Bool:=decide ps.Nodup&&ps.all (fun p=>decide (p<nt))&&a.noRng&&b.noRng&&chkC P φ nt x a&&chkC P φ nt y b
end
section
variable {P:Program} {φ:Phi}
variable {nt m dB:Nat} {s:St} {g:Gh} {a:Act} {w:World} {Q:Exit→Act→World→Prop} {r:Option Nat} {n:Nat}
def exOf:Ex→Exit
 | .normal=>.normal
 | .exit id=>.exit id
 | .ret=>.ret
def LoopOk (P:Program) (φ:Phi) (rec:Rec):Prop :=
 ∀(nt m dB:Nat) (live:List Nat) (x:Code) (c:C) (env:List (Nat×V)) (h:List O) (e:Ex) (env':List (Nat×V)) (h':List O),chkC P φ nt x c=true →
  rec (.loop m live c env h)=some (.out e env' h')→∀(n:Nat) (r:Option Nat),(r=none∨c.noRng=true)→∀(g:Gh) (a:Act) (w:World) (Q:Exit→Act→World→Prop),SRel φ nt m dB ⟨env,h,true⟩ g a w →
   Post φ nt m dB ⟨env,h,true⟩ g w ⟨env',h',true⟩ (Q (exOf e))→(Code.loop x).wpIn (Wd r) n P Q a w
def LkOk (P:Program) (φ:Phi):Prop:=∀ps A B x y nt,φ.lk ps A B x y nt↔lkB P φ ps A B x y nt=true
theorem Post.mono {s':St} {R R':Act→World→Prop} (h:Post φ nt m dB s g w s' R) (hr:∀a w,R a w→R' a w):Post φ nt m dB s g w s' R':=fun g' a' w' h1 h2=>hr _ _ (h g' a' w' h1 h2)
theorem objRel_mkRows {h:List O} {b o es:Nat} {rows:List (List V)} (hr:objRel φ h g w b o (.arrV es rows)):objRel φ h g w b o (mkRows es rows):=by
 unfold mkRows
 split
 ·rename_i ds hds
  have he:=allDs_eq hds
  obtain ⟨h1,h2,h3⟩:=hr
  refine ⟨by rw [he] at h1;simpa using h1,relRows_of fun r row hrow=>?_,by simpa using h3⟩
  have hrow':rows[r]?=some (row.map V.d):=by rw [he];simp [hrow]
  obtain ⟨k1,k2⟩:=h2 r _ hrow'
  refine ⟨by simpa using k1,relCells_of fun j c hj=>?_⟩
  obtain ⟨x,hx,hx1,hx2⟩:=k2 j (.d c) (by simp [hj])
  exact ⟨x,hx,hx1,by simpa only [relV] using hx2⟩
 ·exact hr
theorem freezeAll_arrV:∀(ns:List Nat) {h:List O} {n es:Nat} {rows:List (List V)},hget h n = .arrV es rows→hget (freezeAll h ns) n = .arrV es rows:=by
 intro ns h n es rows hn
 rcases freezeAll_get ns (h:=h) (k:=n) with ⟨h1,_⟩ | ⟨es',ex,rows',h1,_⟩
 ·rw [h1];exact hn
 ·rw [hn] at h1;simp at h1
theorem fzc_rel (hs:SRel φ nt m dB s g a w) {k:Nat} {p:V} {v:Value} (hp:relV φ s.heap g w p v) {h1:List O} (hz:fzcH s.heap k p=some h1) :
  ∃g',SRel φ nt m dB ⟨s.env,h1,s.ok⟩ g' a w∧Frame m s.heap g w h1 g' w:=by
 unfold fzcH at hz
 split at hz
 ·rename_i n r c
  split at hz
  ·simp at hz;subst hz;exact ⟨g,⟨hs.env,hs.heap,hs.size,hs.defers,hs.len⟩,Frame.refl _ _ _ _⟩
  ·rename_i es rows hn
   split at hz
   ·rename_i row hrow
    split at hz
    ·rename_i cv hcv
     simp only [Option.map_eq_some_iff] at hz
     obtain ⟨x,hx,rfl⟩:=hz
     obtain ⟨I',k1,k2,k3⟩:=hs.frozen cv.locs s.ok
     have hn2:=freezeAll_arrV cv.locs hn
     have hl2:(hget (freezeAll s.heap cv.locs) n).live=true:=by rw [hn2];rfl
     have hobj:=k1.heap.obj n
     simp only [hn2] at hobj
     have hdx:∀{u:Value},relV φ (freezeAll s.heap cv.locs) (g.setI I') w cv u→relD φ I' w x u:=fun hu=>by
      exact toD_rel k1.heap (freezeAll_frozen _ _) (by rw [toD_same (freezeAll_same _ _)];exact hx) hu
     have hnew:objRel φ (freezeAll s.heap cv.locs) (g.setI I') w (g.β n) (g.o n) (.arrV es (rows.set r (row.set (c+k) (.d x)))):=by
      obtain ⟨q1,q2,q3⟩:=hobj
      refine ⟨by rw [List.length_set];exact q1,fun r2 row2 hr2=>?_,q3⟩
      rw [List.getElem?_set] at hr2
      split at hr2
      ·rename_i hrr
       subst hrr
       split at hr2
       ·simp at hr2
        subst hr2
        obtain ⟨p1,p2⟩:=q2 r row hrow
        refine ⟨by simpa using p1,fun j cc hj=>?_⟩
        rw [List.getElem?_set] at hj
        split at hj
        ·rename_i hjj
         split at hj
         ·simp at hj
          subst hj
          subst hjj
          obtain ⟨u,u1,u2,u3⟩:=p2 (c+k) cv hcv
          exact ⟨u,u1,u2,by simp only [relV];exact hdx u3⟩
         ·simp at hj
        ·exact p2 j cc hj
       ·simp at hr2
      ·exact q2 r2 row2 hr2
     have hes:(mkRows es (rows.set r (row.set (c+k) (.d x)))).es?=some es∧(mkRows es (rows.set r (row.set (c+k) (.d x)))).len=rows.length∧(∀kv,mkRows es (rows.set r (row.set (c+k) (.d x)))≠.mp kv)∧(mkRows es (rows.set r (row.set (c+k) (.d x)))).isLp=false:=by
      unfold mkRows
      split
      ·rename_i ds hds
       have:=congrArg List.length (allDs_eq hds)
       simp at this
       exact ⟨rfl,by simp [O.len,←this],by simp,rfl⟩
      ·exact ⟨rfl,by simp [O.len],by simp,rfl⟩
     generalize hmk:mkRows es (rows.set r (row.set (c+k) (.d x)))=mk at *
     have hle:=hle_turn (x:=mk) (w':=w) (I':=I') k1.heap hl2 (Turned.refl _ _) (Ext.refl _ _) (fun es' he'=>by
       rw [hes.1] at he'
       simp at he'
       subst he'
       exact ⟨by rw [hn2];rfl,by rw [hes.2.1,hn2];rfl,Stays.of_eq rfl⟩) (fun kv hk=>absurd hk (hes.2.2.1 kv)) (fun hh=>by rw [hes.2.2.2] at hh;simp at hh)
     have hobj2:objRel φ ((freezeAll s.heap cv.locs).set n mk) (g.setI I') w (g.β n) (g.o n) mk:=by
      have:=objRel_move hle (g':=g.setI I') rfl rfl hnew
      have h2:=objRel_mkRows this
      rw [hmk] at h2
      exact h2
     have hH:=hrel_turn (x:=mk) k1.heap hl2 (Turned.refl _ _) hle (fun _ _=>rfl) hobj2
     refine ⟨g.setI I',k1.turn hl2 (Turned.refl _ _) hle hH,k3.trans (frame_turn mk hl2 (Turned.refl _ _) (Ext.refl _ _) (fun _ _=>rfl) hle)⟩
    ·simp at hz
   ·simp at hz
  ·simp at hz
 ·simp at hz
theorem sim_rng {rec:Rec} (hq:QuietCall P φ rec) {ps:List Nat} {A B:C} {x y:Code} (hlk:φ.lk ps A B x y nt) {f:Operand} {gx:VS.A} (hf:chkA φ f gx=true) (hs:SRel φ nt m dB s g a w) {psA:Array Tmp} (hps:psA=ps.toArray)
  {live:List Nat} {v2:V} {h2:List O} (hcall:callVal (callR rec (s.heap++[.lp ps A B .normal (canonEnv live s.env)])) (s.get gx) [.yld s.heap.length]=some (v2,h2))
  {ps2:List Nat} {A2 B2:C} {e:Ex} {env2:List (Nat×V)} (hfin:hget h2 s.heap.length = .lp ps2 A2 B2 e env2)
  (hQ:Post φ nt m dB s g w ⟨s.env,h2.set s.heap.length .dead,s.ok⟩ (Q (exOf e))):(Code.rangeFunc f psA x y).wpIn (Wd none) n P Q a w:=by
 refine wpIn_rangeFunc fun fn _=>?_
 let rc0:Loop:={ state:=.ready,pending:=none,fn,tmps:=a.tmps,params:=psA,assign:=x,body:=y,defers:=w.heap.size }
 obtain ⟨w1,hw1⟩:∃w1,w1=(w.alloc (.deferred (some []))).alloc (.loop rc0):=⟨_,rfl⟩
 have hg:Grew w w1:=by rw [hw1];exact (Grew.alloc w _).trans (Grew.alloc _ _)
 have hsz:w1.heap.size=w.heap.size+2:=by rw [hw1];simp
 have hl1:w1.heap[w.heap.size+1]?=some (.loop rc0):=by
  rw [hw1];have:=World.alloc_heap_new (w.alloc (.deferred (some []))) (.loop rc0);rwa [World.size_alloc] at this
 have hD1:w1.heap[w.heap.size]?=some (.deferred (some [])):=by
  rw [hw1,(Grew.alloc (w.alloc (.deferred (some []))) (.loop rc0)).same _ (by simp)];exact World.alloc_heap_new w _
 have hent:(Instr.enterLoop fn a.tmps psA x y none).run P w = .ok (w.heap.size+1,[{ target:=.collected w.heap.size,args:=#[] }]) w1:=by
  rw [hw1];exact run_enterLoop_outer _ _ _ _ _
 obtain ⟨heap1,hheap1⟩:∃heap1,heap1=s.heap++[.lp ps A B .normal (canonEnv live s.env)]:=⟨_,rfl⟩
 obtain ⟨g1,hg1⟩:∃g1,g1=g.add s.heap.length (w.heap.size+1) 0 g.I:=⟨_,rfl⟩
 have hnew:∀b,w1.heap.size≤b→g.I b=0:=fun b hb=>hs.heap.new b (by omega)
 have hle1:HLe s.heap g w heap1 g1 w1:=by rw [hheap1,hg1];exact hle_new _ hs.heap hg (fun _ _=>rfl)
 have hH1:HRel φ heap1 g1 w1:=by
  have hobj:objRel φ heap1 g1 w1 (w.heap.size+1) 0 (.lp ps A B .normal (canonEnv live s.env)):=by
   refine ⟨rc0,nt,hl1,hps,hlk,hs.size,fun p hp=>?_,rfl,rfl,?_⟩
   ·simp only [canonEnv,List.mem_map] at hp
    obtain ⟨t,_,rfl⟩:=hp
    exact relV_le hle1 (hs.env t)
   ·rw [hg1];exact hs.heap.new _ (by omega)
  rw [hheap1,hg1] at hobj ⊢
  exact hrel_new hs.heap hg (fun _ _=>rfl) hnew (by omega) hobj
 have hF1:Frame m s.heap g w heap1 g1 w1:=by rw [hheap1,hg1];exact frame_new _ hs.heap hg (fun _ _=>rfl) (by omega) hs.len
 have hlen1:heap1.length=s.heap.length+1:=by rw [hheap1];simp
 have hlpk:hget heap1 s.heap.length = .lp ps A B .normal (canonEnv live s.env):=by rw [hheap1,hget_append_new]
 have hb1:g1.β s.heap.length=w.heap.size+1:=by rw [hg1];simp [Gh.add]
 have hbo:∀k,(hget heap1 k).live=true→g1.β k≠w.heap.size:=by
  intro k hk
  rcases Nat.lt_trichotomy k s.heap.length with hlt | rfl | hgt
  ·rw [hheap1,hget_append_old hlt] at hk
   have:=hs.heap.block hk
   rw [hg1]
   simp [Gh.add,Nat.ne_of_lt hlt]
   omega
  ·rw [hb1];omega
  ·rw [hheap1,hget_append_out hgt] at hk;simp [O.live] at hk
 obtain ⟨a',ha'⟩:∃a':Act,a'={ a with defers:=[{ target:=.collected w.heap.size,args:=#[] }]++a.defers }:=⟨_,rfl⟩
 have hD:DefOk dB heap1 g1 a'.defers w1:=by
  have h0:=hs.defers.frame hF1
  rw [ha']
  refine ⟨fun d hd=>?_,?_,h0.le⟩
  ·simp only [List.cons_append,List.nil_append,List.mem_cons] at hd
   rcases hd with rfl | hd
   ·exact ⟨_,rfl,hs.defers.le,hD1,hbo⟩
   ·exact h0.at_ d hd
  ·simp only [List.cons_append,List.nil_append,List.nodup_cons]
   refine ⟨fun hd=>?_,h0.nodup⟩
   obtain ⟨D,e1,_,e3,_⟩:=hs.defers.at_ _ hd
   have:=heap_lt e3
   simp at e1
   omega
 have hS1:SRel φ nt m dB ⟨s.env,heap1,s.ok⟩ g1 a' w1:=by
  have hm:m≤heap1.length:=by have:=hs.len;omega
  rw [ha'] at hD ⊢
  exact ⟨fun k=>relV_le hle1 (hs.env k),hH1,hs.size,hD,hm⟩
 have key:∀{F:Nat} {A' B':Array Value} {zs:List V},a.eval f = .func (.func (φ F)) A' B'→callR rec heap1 F zs=some (v2,h2) →
   relVs φ heap1 g1 w1 zs (A'.toList++[Value.func (.yield (w.heap.size+1)) #[] #[]]++B'.toList) →
   ∃(l:Nat) (mark:List Deferred) (w₁:World) (d:Deferred) (w₁':World) (f_1:FuncId) (args:Array Value) (w₂:World),
   (Instr.enterLoop fn a.tmps psA x y (Wd none).round).run P w = .ok (l,mark) w₁ ∧
   (resolve a.eval (rangeCall f l) 0).run P w₁ = .ok d w₁' ∧
   (∀f',Target.leads P w₁' d.target d.args=some f'→(Wd none).fn f') ∧
   (invoke d.target d.args).run P w₁' = .ok (.enter f_1 args) w₂ ∧
   ((Wd none).depth.isSome=true→1≤n) ∧
   CallsIn (Wd none) (n - 1) P f_1 args w₂ (rangePost (Wd none) n P l Q { a with defers:=mark++a.defers }):=by
  intro F A' B' zs he hcr hzs
  obtain ⟨L,v,h1',hL,hrec,hlen,rfl,rfl⟩:=callR_spec hcr
  obtain ⟨hnd,hroots,hcl,_,_⟩:=cut_spec hL
  obtain ⟨⟨fn',hfn,hn,hb⟩,hcl2⟩:=hq F _ _ v h1' hrec
  have hzs':relVs φ heap1 g1 w1 zs (A'++#[Value.func (.yield (w.heap.size+1)) #[] #[]]++B').toList:=by simpa using hzs
  refine ⟨w.heap.size+1,[{ target:=.collected w.heap.size,args:=#[] }],w1,{ target:=.fn (.func (φ F)) B',args:=A'++#[Value.func (.yield (w.heap.size+1)) #[] #[]] },w1,φ F,
   A'++#[Value.func (.yield (w.heap.size+1)) #[] #[]]++B',w1,hent,?_,fun _ _=>trivial,?_,wd_depth,callsIn_wd ?_⟩
  ·have ec:∀v,a.eval (.const v)=v:=fun _=>rfl
   simp [resolve,rangeCall,he,Deferred.ofValue,ec]
  ·simp only [invoke];exact run_callFunc hfn hn hb
  ·refine Calls.mono (hcl2 (gcut g1 L) w1 _ (hrel_cut hL hH1) (relVs_ren hroots hzs')) fun e' w' hh=>?_
   obtain ⟨v',g2,rfl,hH2,_,hfr⟩:=hh
   rw [sub_length] at hfr
   have M:Merge φ heap1 L g1 w1 h1' g2 w':=⟨hH1,hnd,fun n hn=>(hcl n hn).1,hlen,hH2,hfr⟩
   have hm:m≤heap1.length:=hS1.len
   have hMF:=M.frame hm
   have hS2:SRel φ nt m dB ⟨s.env,mergeH heap1 L h1',s.ok⟩ (mergeG heap1 L g1 g2) a' w':=⟨fun k=>relV_le M.hle (hS1.env k),M.hrel,hS1.size,hS1.defers.frame hMF,Nat.le_trans hm M.hle.len⟩
   have hbk:(mergeG heap1 L g1 g2).β s.heap.length=w.heap.size+1:=by
    have:s.heap.length<heap1.length:=by omega
    simp [mergeG,this,hb1]
   have hobj:=M.hrel.obj s.heap.length
   rw [hfin,hbk] at hobj
   obtain ⟨rc,nt2,k1,_,_,_,_,k5,k6,_⟩:=hobj
   have hbusy:rc.state≠.busy:=by rw [k5];split<;>simp
   have hend:=run_endLoop (P:=P) k1 hbusy
   have hlv:(hget (mergeH heap1 L h1') s.heap.length).live=true:=by rw [hfin];rfl
   obtain ⟨hS3,hF3,_⟩:=hS2.kill hlv s.ok
   have hun:∀k,(hget ((mergeH heap1 L h1').set s.heap.length .dead) k).live=true→(mergeG heap1 L g1 g2).β k≠w.heap.size+1:=by
    intro k hk hbe
    by_cases hkn:k=s.heap.length
    ·subst hkn;rw [hget_set_same (hget_lt hlv)] at hk;simp [O.live] at hk
    ·rw [hget_set_other hkn] at hk
     exact hkn (M.hrel.inj k _ hk hlv (by rw [hbe,hbk]))
   have hS4:=hS3.putObj (y:=.loop { rc with state:=.exhausted }) k1 rfl (by simp) rfl hun
   have hF4:=frame_put_new (y:=.loop { rc with state:=.exhausted }) ((hF1.trans hMF).trans hF3) hs.heap (D:=w.heap.size+1) (by omega) k1 rfl rfl
   have hfinal:=hQ _ a' _ hS4 hF4
   refine ⟨rc.pending,_,hend,?_⟩
   rw [k6] at hfinal ⊢
   rw [ha'] at hfinal
   cases e with
   | normal=>exact hfinal
   | exit id=>exact wpIn_exit hfinal
   | ret=>exact wpIn_ret hfinal
 have rx:=relV_le hle1 (chkA_rel hs hf)
 have ry:relVs φ heap1 g1 w1 [.yld s.heap.length] [Value.func (.yield (w.heap.size+1)) #[] #[]]:=by
  simp only [relVs,relV,and_true]
  exact ⟨by omega,rfl,fun _=>by rw [hb1]⟩
 rw [←hheap1] at hcall
 cases hxv:s.get gx with
 | d z =>
  cases z with
  | fn ff first caps =>
   rw [hxv] at rx hcall
   simp only [relV,relD] at rx
   obtain ⟨A',B',he,hA,hB⟩:=rx
   exact key he hcall (relVs_append (relVs_append (relVs_of_D hA) ry) (relVs_of_D hB))
  | _=>rw [hxv] at hcall;simp [callVal] at hcall
 | fn ff first caps =>
  rw [hxv] at rx hcall
  simp only [relV] at rx
  obtain ⟨A',B',he,hA,hB⟩:=rx
  exact key he hcall (relVs_append (relVs_append hA ry) hB)
 | _=>rw [hxv] at hcall;simp [callVal] at hcall
theorem sim_C {rec:Rec} (hm:P.follows .mixedOrders=true) (hk:LkOk P φ) (hq:QuietCall P φ rec) (hl:LoopOk P φ rec) (hy:RoundOk P φ rec):∀(x:Code) (c:C),(r=none∨c.noRng=true)→∀{s:St} {g:Gh} {a:Act} {w:World} {Q:Exit→Act→World→Prop},chkC P φ nt x c=true →
  SRel φ nt m dB s g a w→(evC rec m c s).2.ok=true→Post φ nt m dB s g w (evC rec m c s).2 (Q (exOf (evC rec m c s).1))→x.wpIn (Wd r) n P Q a w:=by
 intro x c hr
 have frzAfter:∀{x:Code} {b:C} {ds:List Nat} {s:St} {g:Gh} {a:Act} {w:World} {Q:Exit→Act→World→Prop},
   (∀{Q:Exit→Act→World→Prop},(evC rec m b s).2.ok=true→Post φ nt m dB s g w (evC rec m b s).2 (Q (exOf (evC rec m b s).1))→x.wpIn (Wd r) n P Q a w) →
   (evC rec m (.seq b (.frz ds)) s).2.ok=true→Post φ nt m dB s g w (evC rec m (.seq b (.frz ds)) s).2 (Q (exOf (evC rec m (.seq b (.frz ds)) s).1))→x.wpIn (Wd r) n P Q a w:=by
  intro x b ds s g a w Q ih hok hQ
  simp only [evC] at hok hQ
  cases hb:evC rec m b s with
  | mk e s' =>
   rw [hb] at hok hQ ih
   cases e with
   | normal =>
    simp only at hok hQ
    refine ih (thawSlots_ok ds hok) fun g' a' w' h1 h2=>?_
    obtain ⟨g2,k1,k2⟩:=sim_thaw ds h1 hok
    exact hQ g2 a' w' k1 (h2.trans k2)
   | exit id=>exact ih hok hQ
   | ret=>exact ih hok hQ
 have frzBefore:∀{x:Code} {b:C} {ds:List Nat} {s:St} {g:Gh} {a:Act} {w:World} {Q:Exit→Act→World→Prop},SRel φ nt m dB s g a w →
   (∀{s:St} {g:Gh} {Q:Exit→Act→World→Prop},SRel φ nt m dB s g a w→(evC rec m b s).2.ok=true→Post φ nt m dB s g w (evC rec m b s).2 (Q (exOf (evC rec m b s).1))→x.wpIn (Wd r) n P Q a w) →
   (evC rec m (.seq (.frz ds) b) s).2.ok=true→Post φ nt m dB s g w (evC rec m (.seq (.frz ds) b) s).2 (Q (exOf (evC rec m (.seq (.frz ds) b) s).1))→x.wpIn (Wd r) n P Q a w:=by
  intro x b ds s g a w Q hs ih hok hQ
  simp only [evC] at hok hQ
  obtain ⟨g2,k1,k2⟩:=sim_thaw ds hs (evC_ok hok)
  exact ih k1 hok fun g' a' w' h1 h2=>hQ g' a' w' h1 (k2.trans h2)
 fun_induction chkC P φ nt x c with
 | case1=>intro s g a w Q _ hs _ hQ;exact wpIn_skip (hQ g a w hs (Frame.refl _ _ _ _))
 | case2=>intro s g a w Q _ hs _ hQ;exact wpIn_label (hQ g a w hs (Frame.refl _ _ _ _))
 | case3=>intro s g a w Q _ hs _ hQ;exact wpIn_ret (hQ g a w hs (Frame.refl _ _ _ _))
 | case4 i j =>
  intro s g a w Q hc hs _ hQ
  simp at hc
  subst hc
  exact wpIn_exit (hQ g a w hs (Frame.refl _ _ _ _))
 | case5 id ops draw js =>
  intro s g a w Q hc hs hok hQ
  simp only [Bool.and_eq_true,Bool.not_eq_true'] at hc
  obtain ⟨⟨rfl,h2⟩,h3⟩:=hc
  exact sim_reg hq hy hs h2 h3 hok hQ
 | case6 id ops draw fl perm js =>
  intro s g a w Q hc hs hok hQ
  simp only [Bool.and_eq_true] at hc
  obtain ⟨rfl,h3⟩:=hc
  exact sim_drw hm hq hy hs h3 hok hQ
 | case7 x y b c ih1 ih2 =>
  intro s g a w Q hc hs hok hQ
  simp only [Bool.and_eq_true] at hc
  refine wpIn_seq (ih1 (hr.imp id fun h=>by simp [C.noRng] at h;exact h.1) hc.1 hs ?_ fun g' a' w' h1 h2=>?_)
  ·simp only [evC] at hok
   split at hok
   ·rename_i s' he;rw [he];exact evC_ok hok
   ·exact hok
  ·simp only [evC] at hok hQ
   cases he:evC rec m b s with
   | mk e s' =>
    rw [he] at hok hQ h1 h2
    cases e with
    | normal=>exact ih2 (hr.imp id fun h=>by simp [C.noRng] at h;exact h.2) hc.2 h1 hok fun g2 a2 w2 k1 k2=>hQ g2 a2 w2 k1 (h2.trans k2)
    | exit id=>exact hQ g' a' w' h1 h2
    | ret=>exact hQ g' a' w' h1 h2
 | case8 c x y d b e ih1 ih2 =>
  intro s g a w Q hc hs hok hQ
  simp only [Bool.and_eq_true] at hc
  obtain ⟨⟨h1,h2⟩,h3⟩:=hc
  have rc:=chkA_rel hs h1
  simp only [evC] at hok hQ
  split at hok
  ·rename_i v hv
   rw [hv] at rc
   have hb:=relD_bool (by simpa only [relV] using rc)
   simp only [hv] at hQ
   cases v with
   | true=>exact wpIn_cond_true hb (ih1 (hr.imp id fun h=>by simp [C.noRng] at h;exact h.1) h2 hs hok hQ)
   | false=>exact wpIn_cond_false hb (ih2 (hr.imp id fun h=>by simp [C.noRng] at h;exact h.2) h3 hs hok hQ)
  ·simp at hok
 | case9 i x j b ih =>
  intro s g a w Q hc hs hok hQ
  simp only [Bool.and_eq_true,beq_iff_eq] at hc
  obtain ⟨rfl,h2⟩:=hc
  simp only [evC] at hok hQ
  cases he:evC rec m b s with
  | mk e s' =>
   rw [he] at hok hQ
   refine wpIn_block (ih (hr.imp id fun h=>by simpa [C.noRng] using h) h2 hs ?_ fun g' a' w' h3 h4=>?_)
   ·rw [he]
    cases e with
    | normal=>exact hok
    | exit k=>simp only at hok;split at hok<;>exact hok
    | ret=>exact hok
   ·rw [he] at h3 h4 ⊢
    cases e with
    | normal=>exact hQ g' a' w' h3 h4
    | exit k =>
     simp only [exOf,Exit.inBlock] at *
     split
     ·rename_i hk
      rw [if_pos hk] at hQ
      exact hQ g' a' w' h3 h4
     ·rename_i hk
      rw [if_neg hk] at hQ
      exact hQ g' a' w' h3 h4
    | ret=>exact hQ g' a' w' h3 h4
 | case10 x live b ih =>
  intro s g a w Q hc hs hok hQ
  simp only [evC] at hok hQ
  split at hok
  ·rename_i p hp
   simp only [hp] at hQ
   split at hok
   ·rename_i e env h hrr
    simp only [hrr] at hQ
    obtain ⟨g',k1,k2⟩:=canon_rel hs hp true
    refine hl nt m dB live x b p.1 p.2 e env h hc hrr n r (hr.imp id (by simp [C.noRng])) g' a w Q k1 fun g2 a2 w2 h1 h2=>hQ g2 a2 w2 ⟨h1.env,h1.heap,h1.size,h1.defers,h1.len⟩ (k2.trans h2)
   ·simp at hok
  ·simp at hok
 | case11 f ps x y gx live ps' b c ih1 ih2 =>
  intro s g a w Q hc hs hok hQ
  simp only [Bool.and_eq_true,beq_iff_eq] at hc
  obtain ⟨⟨h1,h2⟩,h3⟩:=hc
  rcases hr with rfl | hr
  rotate_left
  ·simp [C.noRng] at hr
  have hlk:φ.lk ps' b c x y nt:=(hk ps' b c x y nt).2 (by simp only [lkB,Bool.and_eq_true];exact h3)
  simp only [evC] at hok hQ
  split at hok
  ·rename_i v2 hh2 hcall
   simp only [hcall] at hQ
   split at hok
   ·rename_i ps2 A2 B2 e env2 hfin
    simp only [hfin] at hQ
    exact sim_rng hq hlk h1 hs (by rw [←h2]) hcall hfin hQ
   ·simp at hok
  ·simp at hok
 | case12 x b ih =>
  intro s g a w Q hc hs hok hQ
  simp only [evC] at hok hQ
  refine wpIn_scope_straight (ih (hr.imp id fun h=>by simp [C.noRng] at h;exact h) hc hs hok fun g' a' w' h1 h2=>?_)
  have:=hQ g' a' w' h1 h2
  cases he:(evC rec m b s).1<;>rw [he] at this<;>exact this
 | case13 x b ds _ _ ih =>
  intro s g a w Q hc hs hok hQ
  exact frzAfter (fun h1 h2=>ih (hr.imp id fun h=>by simp [C.noRng] at h;exact h) hc hs h1 h2) hok hQ
 | case14 x ds b _ _ ih =>
  intro s g a w Q hc hs hok hQ
  exact frzBefore hs (fun h1 h2 h3=>ih (hr.imp id fun h=>by simp [C.noRng] at h;exact h) hc h1 h2 h3) hok hQ
 | case15 x ds b _ _ ih =>
  intro s g a w Q hc hs hok hQ
  simp only [evC] at hok hQ
  cases hp:canon m ds s.env s.heap with
  | none =>
   rw [hp] at hok
   simp only at hok
   have:=evC_ok hok
   simp at this
  | some p =>
   rw [hp] at hok hQ
   simp only at hok hQ
   obtain ⟨g2,k1,k2⟩:=canon_rel hs hp s.ok
   exact ih (hr.imp id fun h=>by simp [C.noRng] at h;exact h) hc k1 hok fun g' a' w' h1 h2=>hQ g' a' w' h1 (k2.trans h2)
 | case16 x d k b _ _ ih =>
  intro s g a w Q hc hs hok hQ
  simp only [evC] at hok hQ
  cases hp:fzcH s.heap k (s.get (.t d)) with
  | none =>
   rw [hp] at hok
   simp only at hok
   have:=evC_ok hok
   simp at this
  | some p =>
   rw [hp] at hok hQ
   simp only at hok hQ
   obtain ⟨g2,k1,k2⟩:=fzc_rel hs (hs.env d) hp
   exact ih (hr.imp id fun h=>by simp [C.noRng] at h;exact h) hc k1 hok fun g' a' w' h1 h2=>hQ g' a' w' h1 (k2.trans h2)
 | case17=>intro s g a w Q hc;simp at hc
end
end Go.VS
namespace Go.VS
section
variable {P:Program} {φ:Phi}
variable {nt m dB:Nat} {s:St} {g:Gh} {a:Act} {w:World}
theorem ld_rel {h:List O} {p:V} {v:Value} {n:Nat} {ag:Bool} {x:V} (hH:HRel φ h g w) (rx:relV φ h g w p v) (hv:ldV h n ag p=some x) :
  ∃(b off:Nat) (vs:List Value) (v':Value),v = .pointer (some ⟨b,off,none⟩)∧(∀(j:Nat) (u:Value),vs[j]?=some u→w.cell? ⟨b,off+j,none⟩=some u) ∧
   (if ag then n≤vs.length∧v' = .agg (vs.take n).toArray else vs.head?=some v')∧relV φ h g w x v':=by
 generalize hp:p=q at rx
 unfold ldV at hv
 split at hv
 ·rename_i cs
  subst hp
  simp only [relV,relD] at rx
  obtain ⟨b,off,he,hI,hcs⟩:=rx
  obtain ⟨vs,hvs,hcells,h1⟩:=relCells_vals hcs
  obtain ⟨v',h2,h3⟩:=packD_rel (h:=h) hvs h1 hv
  exact ⟨b,off,vs,v',he,hcells,h2,h3⟩
 ·rename_i cs
  subst hp
  simp only [relV] at rx
  obtain ⟨b,off,us,he,hI,hcs,hcells⟩:=rx
  obtain ⟨v',h2,h3⟩:=pack_rel hcs (fun v hv=>let ⟨j,hj,hh⟩:=List.getElem_of_mem hv;(hcells j v (by simp [hj,hh])).2) hv
  exact ⟨b,off,us,v',he,(fun j u hj=>(hcells j u hj).1),h2,h3⟩
 ·rename_i k r c
  subst hp
  simp only [relV] at rx
  obtain ⟨hlt,_,rx⟩:=rx
  have hobj:=hH.obj k
  split at hv
  ·rename_i es ex rows hk
   rw [hk] at hobj rx
   have he:=rx es rfl
   cases hrow:rows[r]? with
   | none=>simp [hrow] at hv
   | some row =>
    simp [hrow] at hv
    obtain ⟨_,h2,_⟩:=hobj
    obtain ⟨_,hcs⟩:=relRows_get h2 hrow
    obtain ⟨vs,hvs,hcells,h1⟩:=relCells_vals hcs
    obtain ⟨v',h2,h3⟩:=packD_rel (h:=h) (relDs_drop hvs c) (fun v hv=>h1 v (List.mem_of_mem_drop hv)) hv
    refine ⟨_,_,_,v',he,(fun j u hj=>?_),h2,h3⟩
    have:=hcells (c+j) u (by simpa [List.getElem?_drop] using hj)
    rwa [←Nat.add_assoc] at this
  ·rename_i es rows hk
   rw [hk] at hobj rx
   have he:=rx es rfl
   cases hrow:rows[r]? with
   | none=>simp [hrow] at hv
   | some row =>
    simp [hrow] at hv
    obtain ⟨_,h2,_⟩:=hobj
    obtain ⟨vs,hvs,hcells,h1⟩:=relRowsV_vals h2 hrow
    obtain ⟨v',h2,h3⟩:=pack_rel (relVs_drop hvs c) (fun v hv=>h1 v (List.mem_of_mem_drop hv)) hv
    refine ⟨_,_,_,v',he,(fun j u hj=>?_),h2,h3⟩
    have:=hcells (c+j) u (by simpa [List.getElem?_drop] using hj)
    rwa [←Nat.add_assoc] at this
  ·simp at hv
 ·simp at hv
theorem run_loadVar {t:TypeId} {n:Nat} {ag:Bool} (hag:aggIs P t ag=true) (hn:sizeIs P t n=true) {b off:Nat} {vs:List Value}
  (hc:∀(j:Nat) (v:Value),vs[j]?=some v→w.cell? ⟨b,off+j,none⟩=some v) {v':Value}
  (hv:if ag then n≤vs.length∧v' = .agg (vs.take n).toArray else vs.head?=some v') :
  (loadVar t ⟨b,off,none⟩).run P w = .ok v' w:=by
 have h1:=run_isAgg (P:=P) (w:=w) hag
 have h2:=run_size (P:=P) (w:=w) hn
 cases ag
 ·simp only [Bool.false_eq_true,if_false] at hv
  have:=hc 0 v' (by simpa [List.head?_eq_getElem?] using hv)
  simp only [Nat.add_zero] at this
  simp [loadVar,h1,this]
 ·simp only [if_true] at hv
  have hl:=run_loadCells_list (P:=P) w ⟨b,off,none⟩ (vs.take n) (fun j v hj=>by
   rw [addr_add]
   exact hc j v (by rw [List.getElem?_take] at hj;split at hj<;>simp_all))
  have hlen:(vs.take n).length=n:=by simp;omega
  rw [hlen] at hl
  simp [loadVar,h1,h2,hl,hv.2]
def chkR (P:Program):List ResultVar→List RV→Bool
 | [],[]=>true
 | .tmp t::r,.t n::r'=>t==n&&chkR P r r'
 | .cell t ty::r,.c n k ag::r'=>t==n&&aggIs P ty ag&&sizeIs P ty k&&chkR P r r'
 | _,_=>false
def resOne (tmps:Array Value):ResultVar→Sem Value
 | .tmp t=>pure (tmps.getD t undef)
 | .cell a t=>do loadVar t (←asAddr (tmps.getD a undef))
theorem res_rel (hs:SRel φ nt m dB s g a w):∀{rs:List ResultVar} {rv:List RV} {vs:List V},chkR P rs rv=true→readRVs s rv=some vs →
  ∃us:List Value,(rs.mapM (resOne a.tmps)).run P w = .ok us w∧relVs φ s.heap g w vs us
 | [],[],vs,_,hv=>by
  simp [readRVs] at hv
  subst hv
  exact ⟨[],by simp,by simp [relVs]⟩
 | .tmp t::r,.t n::r',vs,hc,hv=>by
  simp only [chkR,Bool.and_eq_true,beq_iff_eq] at hc
  obtain ⟨rfl,hc⟩:=hc
  simp only [readRVs,readRV,Option.bind_some,Option.map_eq_some_iff] at hv
  obtain ⟨ws,hws,rfl⟩:=hv
  obtain ⟨us,h1,h2⟩:=res_rel hs hc hws
  exact ⟨a.tmps.getD t undef::us,by simp [resOne,h1],by simp only [relVs];exact ⟨hs.env t,h2⟩⟩
 | .cell t ty::r,.c n k ag::r',vs,hc,hv=>by
  simp only [chkR,Bool.and_eq_true,beq_iff_eq] at hc
  obtain ⟨⟨⟨rfl,hag⟩,hn⟩,hc⟩:=hc
  simp only [readRVs,readRV,Option.bind_eq_some_iff,Option.map_eq_some_iff] at hv
  obtain ⟨x,hx,ws,hws,rfl⟩:=hv
  obtain ⟨us,h1,h2⟩:=res_rel hs hc hws
  obtain ⟨b,off,zs,v',he,hcells,hv',hrel⟩:=ld_rel hs.heap (hs.env t) hx
  have hl:=run_loadVar (P:=P) (w:=w) hag hn hcells hv'
  exact ⟨v'::us,by simp [resOne,he,asAddr,hl,h1],by simp only [relVs];exact ⟨hrel,h2⟩⟩
 | [],_::_,_,hc,_=>by simp [chkR] at hc
 | .tmp _::_,[],_,hc,_=>by simp [chkR] at hc
 | .cell _ _::_,[],_,hc,_=>by simp [chkR] at hc
 | .tmp _::_,.c _ _ _::_,_,hc,_=>by simp [chkR] at hc
 | .cell _ _::_,.t _::_,_,hc,_=>by simp [chkR] at hc
end
end Go.VS
namespace Go.VS
section
variable {P:Program} {φ:Phi}
variable {nt m dB:Nat} {s:St} {g:Gh} {a:Act} {w:World}
theorem results_eq (fn:Func) (tmps:Array Value):results fn tmps=(do
  let vs ←fn.results.mapM (resOne tmps)
  pure (if h:vs.size=1 then vs[0] else .tuple vs)):=rfl
def vtuple:List Value→Value
 | [v]=>v
 | us=>.tuple us.toArray
theorem run_results {fn:Func} {tmps:Array Value} {us:List Value} (h:(fn.results.toList.mapM (resOne tmps)).run P w = .ok us w) :
  (results fn tmps).run P w = .ok (vtuple us) w:=by
 rw [results_eq]
 have he:fn.results.mapM (resOne tmps)=Functor.map List.toArray (fn.results.toList.mapM (resOne tmps)):=by
  conv=>lhs;rw [←Array.toArray_toList (xs:=fn.results)]
  rw [List.mapM_toArray]
 rw [he]
 simp only [map_eq_pure_bind,bind_assoc,pure_bind,Sem.run_bind,h,Result.andThen_ok,Sem.run_pure]
 match us with
 | []=>rfl
 | [v]=>rfl
 | v::u::r=>simp [vtuple]
theorem least {J:Nat→Prop} (h:∃k,J k):∃k,J k∧∀j,j<k→¬J j:=by
 obtain ⟨k,hk⟩:=h
 induction k using Nat.strongRecOn with
 | _ k ih =>
  by_cases hx:∃j,j<k∧J j
  ·obtain ⟨j,h1,h2⟩:=hx;exact ih j h1 h2
  ·exact ⟨k,hk,fun j hj hJ=>hx ⟨j,hj,hJ⟩⟩
open Classical in
noncomputable def leastOf (J:Nat→Prop):Nat:=if h:∃k,J k then Classical.choose (least h) else 0
theorem leastOf_spec {J:Nat→Prop} (h:∃k,J k):J (leastOf J)∧∀j,J j→leastOf J≤j:=by
 have hc:=Classical.choose_spec (least h)
 have he:leastOf J=Classical.choose (least h):=by simp [leastOf,h]
 rw [he]
 exact ⟨hc.1,fun j hj=>Nat.le_of_not_lt fun hlt=>hc.2 j hlt hj⟩
theorem loop_ok (hm:P.follows .mixedOrders=true) (hk:LkOk P φ) {Pv:Prog} {n:Nat} (ih:∀k,k<n→QuietCall P φ (iter Pv k)∧LoopOk P φ (iter Pv k)∧RoundOk P φ (iter Pv k)):LoopOk P φ (iter Pv n):=by
 intro nt m dB live x c env h e env' h' hc hrec fuel r hr0 g a w Q hs hQ
 let J:Act→World→Nat→Prop:=fun a' w' k=>k≤n∧∃env1 h1 g1,iter Pv k (.loop m live c env1 h1)=some (.out e env' h')∧SRel φ nt m dB ⟨env1,h1,true⟩ g1 a' w'∧Frame m h g w h1 g1 w'
 refine wpIn_loop (fun a' w'=>∃k,J a' w' k) (fun a' w'=>leastOf (J a' w')) ⟨n,Nat.le_refl _,env,h,g,hrec,hs,Frame.refl _ _ _ _⟩ fun a' w' hI=>?_
 obtain ⟨hJ,hmin⟩:=leastOf_spec hI
 generalize leastOf (J a' w')=k at *
 obtain ⟨hkn,env1,h1,g1,hr,hs1,hf1⟩:=hJ
 cases k with
 | zero=>simp [iter] at hr
 | succ k =>
  obtain ⟨hq,hl,hy⟩:=ih k (by omega)
  simp only [iter,stepR] at hr
  cases he:evC (iter Pv k) m c ⟨env1,h1,true⟩ with
  | mk ex s' =>
   rw [he] at hr
   have hok:s'.ok=true:=by
    cases hs':s'.ok with
    | true=>rfl
    | false=>cases ex<;>simp [hs'] at hr
   refine sim_C hm hk hq hl hy x c hr0 hc hs1 (by rw [he];exact hok) fun g2 a2 w2 k1 k2=>?_
   rw [he] at k1 k2 ⊢
   cases ex with
   | normal =>
    simp only [hok,if_true,Option.bind_eq_some_iff] at hr
    obtain ⟨p,hp,hr⟩:=hr
    obtain ⟨g3,k3,k4⟩:=canon_rel k1 hp true
    have hJ':J a2 w2 k:=⟨by omega,p.1,p.2,g3,hr,k3,hf1.trans (k2.trans k4)⟩
    refine ⟨⟨k,hJ'⟩,?_⟩
    have:=(leastOf_spec ⟨k,hJ'⟩).2 k hJ'
    omega
   | exit id =>
    simp only [hok,if_true,Option.some.injEq,Res.out.injEq] at hr
    obtain ⟨rfl,rfl,rfl⟩:=hr
    exact hQ g2 a2 w2 ⟨k1.env,k1.heap,k1.size,k1.defers,k1.len⟩ (hf1.trans k2)
   | ret =>
    simp only [hok,if_true,Option.some.injEq,Res.out.injEq] at hr
    obtain ⟨rfl,rfl,rfl⟩:=hr
    exact hQ g2 a2 w2 ⟨k1.env,k1.heap,k1.size,k1.defers,k1.len⟩ (hf1.trans k2)
def FnCode (P:Program) (φ:Phi) (f:Nat) (F:F):Prop :=
 ∃ fn c, P.funcs[φ f]? = some fn ∧ (fn.name == "runtime.NumGoroutine") = false ∧ fn.body = some c ∧ chkC P φ fn.ntmps c F.code = true ∧ chkR P fn.results.toList F.res = true
def PrimOk (P:Program) (φ:Phi) (f:Nat) (p:List V→List O→Option (V×List O)):Prop :=
 ∀(xs:List V) (h:List O) (v:V) (h1:List O),p xs h=some (v,h1) →
  (∃ fn, P.funcs[φ f]? = some fn ∧ (fn.name == "runtime.NumGoroutine") = false ∧ fn.body.isNone = false) ∧
  ∀(g:Gh) (w:World) (args:Array Value),HRel φ h g w→relVs φ h g w xs args.toList →
   Calls P (φ f) args w fun e w'=>∃v' g',e = .returned v'∧HRel φ h1 g' w'∧relV φ h1 g' w' v v'∧Frame h.length h g w h1 g' w'
def FnOk (P:Program) (φ:Phi) (f:Nat) (F:F):Prop:=(F.prim=none∧FnCode P φ f F)∨∃p,F.prim=some p∧PrimOk P φ f p
theorem argEnv_get:∀{xs:List V} {k t:Nat},envGet (argEnv k xs) t=if k≤t then (xs[t - k]?).getD .u else .u
 | [],k,t=>by simp [argEnv,envGet]
 | x::xs,k,t=>by
  simp only [argEnv,envGet,argEnv_get (xs:=xs)]
  by_cases h:k=t
  ·subst h;simp
  ·rw [if_neg h]
   by_cases h2:k≤t
   ·have h3:k+1≤t:=by omega
    rw [if_pos h2,if_pos h3]
    have:t - k=(t - (k+1))+1:=by omega
    rw [this,List.getElem?_cons_succ]
   ·rw [if_neg h2,if_neg (by omega)]
theorem start_rel {h:List O} {xs:List V} {args:Array Value} (hdB:dB≤w.heap.size) (hH:HRel φ h g w) (hr:relVs φ h g w xs args.toList) (nt:Nat) :
  SRel φ nt h.length dB ⟨argEnv 0 xs,h,true⟩ g { tmps:=args++Array.replicate (nt - args.size) undef,defers:=[] } w where
 env k:=by
  rw [argEnv_get]
  simp only [Nat.zero_le,if_true,Nat.sub_zero]
  cases hx:xs[k]? with
  | none=>simp [relV]
  | some x =>
   obtain ⟨v,hv,hrel⟩:=relVs_get hr hx
   have hk:k<args.size:=by
    rcases Nat.lt_or_ge k args.size with h1 | h1
    ·exact h1
    ·simp [Array.getElem?_eq_none h1] at hv
   have:(args++Array.replicate (nt - args.size) undef).getD k undef=v:=by
    rw [Array.getD_eq_getD_getElem?,Array.getElem?_append_left hk]
    simp at hv
    simp [hv]
   rw [this]
   exact hrel
 heap:=hH
 size:=by simp;omega
 defers:=DefOk.nil hdB
 len:=Nat.le_refl _
theorem tuple_rel {h:List O} {zs:List V} {us:List Value} (hr:relVs φ h g w zs us):relV φ h g w (tuple zs) (vtuple us):=by
 match zs,us,hr with
 | [],[],_=>simp only [tuple,relV];exact ⟨#[],rfl,by simp [relVs]⟩
 | [z],[u],hr=>simp only [relVs] at hr;exact hr.1
 | z::z'::zs,u::u'::us,hr=>simp only [tuple,relV];exact ⟨(u::u'::us).toArray,rfl,by simpa using hr⟩
 | [],_::_,hr=>simp [relVs] at hr
 | _::_,[],hr=>simp [relVs] at hr
 | [_],_::_::_,hr=>simp [relVs] at hr
 | _::_::_,[_],hr=>simp [relVs] at hr
theorem leaves_marks {fn:Func} {tmps:Array Value} {R:Ending→World→Prop} {h:List O} {fuel:Nat} (Inv:World→Prop)
  (hstep:∀w D,Inv w→dB≤D→w.heap[D]?=some (.deferred (some []))→(∀k,(hget h k).live=true→g.β k≠D)→Inv (w.putObj D (.deferred none)))
  (hend:∀w,Inv w→LeavesIn (Wd none) fuel P fn tmps R [] .returning w):∀(ds:List Deferred) {w:World},Inv w→DefOk dB h g ds w→LeavesInM (Wd none) fuel P fn tmps R ds .returning w
 | [],w,hI,_=>hend w hI
 | d::ds,w,hI,hd=>by
  obtain ⟨D,rfl,h2,h3,h4⟩:=hd.at_ d (by simp)
  refine ⟨by simp,.inl ⟨D,_,rfl,run_takeDeferred h3,leaves_marks Inv hstep hend ds (hstep w D hI h2 h3 h4) ⟨fun d' hd'=>?_,?_,by simpa using hd.le⟩⟩⟩
  ·obtain ⟨E,e1,e2,e3,e4⟩:=hd.at_ d' (by simp [hd'])
   refine ⟨E,e1,e2,?_,e4⟩
   rw [World.putObj_heap_other]
   ·exact e3
   ·intro he
    subst he
    have:=hd.nodup
    simp only [List.nodup_cons] at this
    rw [e1] at hd'
    exact this.1 hd'
  ·have:=hd.nodup
   simp only [List.nodup_cons] at this
   exact this.2
theorem leaves_of {fn:Func} {R:Ending→World→Prop} {h:List O} {g':Gh} {a':Act} {w':World} (hH:HRel φ h g w) (hs':SRel φ nt m w.heap.size s g' a' w') (hf':Frame m h g w s.heap g' w')
  (hpost:∀w1,SRel φ nt m w.heap.size s g' { tmps:=a'.tmps,defers:=[] } w1→Frame m h g w s.heap g' w1→∃v',(results fn a'.tmps).run P w1 = .ok v' w1∧R (.returned v') w1) :
  LeavesInM (Wd none) 0 P fn a'.tmps R a'.defers .returning w':=by
 refine leaves_marks (h:=s.heap) (g:=g') (dB:=w.heap.size) (fun w'=>SRel φ nt m w.heap.size s g' { tmps:=a'.tmps,defers:=[] } w'∧Frame m h g w s.heap g' w') (fun w1 D hI hD h3 h4=>?_) (fun w1 hI=>?_) a'.defers
  ⟨⟨hs'.env,hs'.heap,hs'.size,DefOk.nil hs'.defers.le,hs'.len⟩,hf'⟩ hs'.defers
 ·obtain ⟨hS,hFr⟩:=hI
  have hle:=hle_put (y:=.deferred none) h3 rfl rfl h4
  exact ⟨⟨fun k=>relV_le hle (hS.env k),hrel_put hS.heap h3 rfl rfl h4,hS.size,DefOk.nil (by simpa using hS.defers.le),hS.len⟩,frame_put_new hFr hH hD h3 rfl rfl⟩
 ·obtain ⟨v',hr,hR⟩:=hpost w1 hI.1 hI.2
  exact ⟨v',hr,hR⟩
theorem quiet_ok (hm:P.follows .mixedOrders=true) (hk:LkOk P φ) {Pv:Prog} (hF:∀f F,Pv f=some F→FnOk P φ f F) {n:Nat} (ih:QuietCall P φ (iter Pv n)∧LoopOk P φ (iter Pv n)∧RoundOk P φ (iter Pv n)):QuietCall P φ (iter Pv (n+1)):=by
 intro f xs h v h1 hrec
 simp only [iter,stepR] at hrec
 cases hfn:Pv f with
 | none=>rw [hfn] at hrec;simp at hrec
 | some F =>
  rw [hfn] at hrec
  rcases hF f F hfn with ⟨hpn,fn,c,k1,k2,k3,k4,k5⟩ | ⟨p,hp,hok⟩
  rotate_left
  ·simp only at hrec
   simp only [hp,Option.map_eq_some_iff,Res.val.injEq] at hrec
   obtain ⟨⟨v',h'⟩,hr,rfl,rfl⟩:=hrec
   exact hok xs h v' h' hr
  simp only [hpn] at hrec
  refine ⟨⟨fn,k1,k2,by simp [k3]⟩,fun g w args hH hargs=>?_⟩
  cases he:evC (iter Pv n) h.length F.code ⟨argEnv 0 xs,h,true⟩ with
  | mk e s =>
   rw [he] at hrec
   have hfin:finish F.res F.keep h.length s=some (.val v h1)∧(e = .normal∨e = .ret):=by
    cases e with
    | normal=>exact ⟨hrec,.inl rfl⟩
    | ret=>exact ⟨hrec,.inr rfl⟩
    | exit id=>simp at hrec
   obtain ⟨hfin,hee⟩:=hfin
   have hok:=finish_ok hfin
   refine (callsIn_wide (n:=0)).1 (callsIn_of_wp_marks (F:=Wd none) k1 k3 trivial (sim_C hm hk ih.1 ih.2.1 ih.2.2 c F.code (.inl rfl) k4 (start_rel (Nat.le_refl _) hH hargs fn.ntmps) (by rw [he];exact hok) fun g' a' w' hs' hf'=>?_))
   rw [he] at hs' hf' ⊢
   have hpost:∀w',SRel φ fn.ntmps h.length w.heap.size s g' { tmps:=a'.tmps,defers:=[] } w'→Frame h.length h g w s.heap g' w'→∃v',(results fn a'.tmps).run P w' = .ok v' w'∧∃v'' g'',Ending.returned v' = .returned v''∧HRel φ h1 g'' w'∧relV φ h1 g'' w' v v''∧Frame h.length h g w h1 g'' w':=by
    intro w' hs' hf'
    simp only [finish,hok,if_true,Option.bind_eq_some_iff,Option.map_eq_some_iff] at hfin
    obtain ⟨vs',⟨vs,hvs,rfl⟩,hfin⟩:=hfin
    obtain ⟨us,hus,hrel⟩:=res_rel hs' k5 hvs
    have hrel:=relVs_wk hrel
    refine ⟨_,run_results hus,vtuple us,?_⟩
    split at hfin
    ·rename_i hm0
     simp only [Option.map_eq_some_iff,Res.val.injEq] at hfin
     obtain ⟨zs,hzs,rfl,rfl⟩:=hfin
     obtain ⟨I',k1,k2,k3⟩:=thaw_rel hs' hzs hrel true
     have hh:h=[]:=List.eq_nil_of_length_eq_zero hm0.1
     subst hh
     have hfr:=hf'.trans k2
     obtain ⟨q1,q2⟩:=frame_nil hfr
     refine ⟨⟨fun _=>0,fun _=>0,I'⟩,rfl,hrel_nil k1.heap.new,?_,?_⟩
     ·exact tuple_rel (relVs_of_D k3)
     ·exact ⟨hfr.ext,hfr.size,hfr.os,hfr.tape,hfr.output,fun n hn=>by simp at hn,hfr.keep,fun n hn=>by simp [hget,O.live] at hn,fun n hn=>by simp at hn⟩
    ·simp only [Option.map_eq_some_iff,Res.val.injEq] at hfin
     obtain ⟨L,hL,rfl,rfl⟩:=hfin
     have hcut:=hrel_cut hL hs'.heap
     obtain ⟨_,hroots,_⟩:=cut_spec hL
     have hren:=relVs_ren (L:=L) hroots hrel
     exact ⟨gcut g' L,rfl,hcut,tuple_rel hren,hf'.trans (frame_cut hL)⟩
   have hleave:LeavesInM (Wd none) 0 P fn a'.tmps (fun e w'=>∃v' g',e = .returned v'∧HRel φ h1 g' w'∧relV φ h1 g' w' v v'∧Frame h.length h g w h1 g' w') a'.defers .returning w':=by
    exact leaves_of hH hs' hf' fun w1 h1 h2=>let ⟨v',hr,hR⟩:=hpost w1 h1 h2;⟨v',hr,hR⟩
   rcases hee with rfl | rfl
   ·exact hleave
   ·exact hleave
theorem foldl_set_size:∀(l:List (Tmp×Value)) (t:Array Value),(l.foldl (fun tmps (t,a)=>tmps.setIfInBounds t a) t).size=t.size
 | [],_=>rfl
 | p::l,t=>by rw [List.foldl_cons,foldl_set_size l];simp
theorem foldl_set_other {k:Nat}:∀(l:List (Tmp×Value)) (t:Array Value),(∀p∈l,p.1≠k)→(l.foldl (fun tmps (t,a)=>tmps.setIfInBounds t a) t).getD k undef=t.getD k undef
 | [],_,_=>rfl
 | p::l,t,h=>by
  rw [List.foldl_cons,foldl_set_other l _ (fun q hq=>h q (by simp [hq]))]
  have:=h p (by simp)
  simp [Array.getD_eq_getD_getElem?,Array.getElem?_setIfInBounds_ne this]
theorem round_env {h:List O} {nt':Nat} {rc:List (Nat×V)}:∀(ps:List Nat) (xs:List V) (args:List Value) (t:Array Value),ps.Nodup→(∀p∈ps,p<t.size)→relVs φ h g w xs args →
  (∀k,relV φ h g w (envGet rc k) (t.getD k undef))→∀k,relV φ h g w (envGet (ps.zip xs++rc) k) (((ps.zip args).foldl (fun tmps (t,a)=>tmps.setIfInBounds t a) t).getD k undef)
 | [],_,_,_,_,_,_,hr,k=>by simpa using hr k
 | p::ps,[],[],_,_,_,_,hr,k=>by simpa using hr k
 | p::ps,x::xs,v::vs,t,hnd,hlt,hx,hr,k=>by
  simp only [relVs] at hx
  simp only [List.nodup_cons] at hnd
  simp only [List.zip_cons_cons,List.cons_append,envGet,List.foldl_cons]
  by_cases hk:p=k
  ·subst hk
   rw [if_pos rfl,foldl_set_other _ _ (fun q hq he=>hnd.1 (by obtain ⟨q1,q2⟩:=q;have:=(List.of_mem_zip hq).1;simp only at he;rwa [he] at this))]
   have:=hlt p (by simp)
   simpa [Array.getD_eq_getD_getElem?,this] using hx.1
  ·rw [if_neg hk]
   have ih:=round_env (nt':=nt') (rc:=rc) ps xs vs (t.setIfInBounds p v) hnd.2 (fun q hq=>by simpa using hlt q (by simp [hq])) hx.2
   by_cases hkr:k∈ps
   ·
    have ih2:=round_env (nt':=nt') (rc:=(p,.u)::rc) ps xs vs (t.setIfInBounds p v) hnd.2 (fun q hq=>by simpa using hlt q (by simp [hq])) hx.2 (fun j=>by
     simp only [envGet]
     by_cases hj:p=j
     ·rw [if_pos hj];simp [relV]
     ·rw [if_neg hj];simpa [Array.getD_eq_getD_getElem?,Array.getElem?_setIfInBounds_ne hj] using hr j) k
    have he:∀(ps:List Nat) (xs:List V),envGet (ps.zip xs++(p,V.u)::rc) k=envGet (ps.zip xs++rc) k:=by
     intro ps
     induction ps with
     | nil=>intro xs;simp [envGet,hk]
     | cons q qs ihq =>
      intro xs
      cases xs with
      | nil=>simp [envGet,hk]
      | cons z zs=>simp only [List.zip_cons_cons,List.cons_append,envGet,ihq]
    rw [he] at ih2
    exact ih2
   ·have ih2:=round_env (nt':=nt') (rc:=(p,.u)::rc) ps xs vs (t.setIfInBounds p v) hnd.2 (fun q hq=>by simpa using hlt q (by simp [hq])) hx.2 (fun j=>by
     simp only [envGet]
     by_cases hj:p=j
     ·rw [if_pos hj];simp [relV]
     ·rw [if_neg hj];simpa [Array.getD_eq_getD_getElem?,Array.getElem?_setIfInBounds_ne hj] using hr j) k
    have he:∀(ps:List Nat) (xs:List V),envGet (ps.zip xs++(p,V.u)::rc) k=envGet (ps.zip xs++rc) k:=by
     intro ps
     induction ps with
     | nil=>intro xs;simp [envGet,hk]
     | cons q qs ihq =>
      intro xs
      cases xs with
      | nil=>simp [envGet,hk]
      | cons z zs=>simp only [List.zip_cons_cons,List.cons_append,envGet,ihq]
    rw [he] at ih2
    exact ih2
 | _::_,[],_::_,_,_,_,hx,_,_=>by simp [relVs] at hx
 | _::_,_::_,[],_,_,_,hx,_,_=>by simp [relVs] at hx
theorem envGet_mem {k:Nat}:∀{env:List (Nat×V)},envGet env k = .u∨∃p∈env,p.1=k∧envGet env k=p.2
 | []=>.inl rfl
 | p::env=>by
  simp only [envGet]
  by_cases hk:p.1=k
  ·rw [if_pos hk];exact .inr ⟨p,by simp,hk,rfl⟩
  ·rw [if_neg hk]
   rcases envGet_mem (env:=env) (k:=k) with h | ⟨q,hq,h1,h2⟩
   ·exact .inl h
   ·exact .inr ⟨q,by simp [hq],h1,h2⟩
theorem lives_apart {h h':List O} {g':Gh} {w':World} {l:Nat} (hf:Frame m h g w h' g' w') (hl:l<w.heap.size) (hu:∀k,(hget h k).live=true→g.β k≠l):∀k,(hget h' k).live=true→g'.β k≠l:=by
 intro k hk he
 rcases hf.lives k hk with ⟨j,hj,hb⟩ | hs
 ·exact hu j hj (hb.trans he)
 ·omega
theorem round_ok (hm:P.follows .mixedOrders=true) (hk:LkOk P φ) {Pv:Prog} {n:Nat} (ih:QuietCall P φ (iter Pv n)∧LoopOk P φ (iter Pv n)∧RoundOk P φ (iter Pv n)):RoundOk P φ (iter Pv (n+1)):=by
 intro ps A B xs env h e env' h1 hrec fuel r g w l rc nt args hlk hnt hps hH hxs henv hlen hl hst hun
 simp only [iter,stepR] at hrec
 cases hA:evC (iter Pv n) h.length A ⟨ps.zip xs++env,h,true⟩ with
 | mk eA s1 =>
 rw [hA] at hrec
 cases eA<;>simp only at hrec<;>try (simp at hrec;done)
 cases hB:evC (iter Pv n) h.length B s1 with
 | mk eB s2 =>
 rw [hB] at hrec
 simp only at hrec
 split at hrec
 rotate_left
 ·simp at hrec
 rename_i hok2
 simp only [Option.map_eq_some_iff,Res.out.injEq] at hrec
 obtain ⟨L,hL,rfl,_,rfl⟩:=hrec
 have hok1:s1.ok=true:=evC_ok (rec:=iter Pv n) (m:=h.length) (c:=B) (by rw [hB];exact hok2)
 have hlt:=heap_lt hl
 have hlkb:=(hk ps A B rc.assign rc.body nt).1 hlk
 simp only [lkB,Bool.and_eq_true,decide_eq_true_eq,List.all_eq_true] at hlkb
 obtain ⟨⟨⟨⟨⟨q1,q2⟩,q3⟩,q4⟩,q5⟩,q6⟩:=hlkb
 have hzip:rc.params.zip args.toArray=(ps.zip args).toArray:=by rw [hps];simp
 rw [hzip]
 simp only [List.foldl_toArray']
 have hs0:SRel φ nt h.length 0 ⟨ps.zip xs++env,h,true⟩ g { tmps:=(ps.zip args).foldl (fun tmps (t,a)=>tmps.setIfInBounds t a) rc.tmps,defers:=[] } w:=by
  refine ⟨round_env (nt':=nt) ps xs args rc.tmps q1 (fun p hp=>Nat.lt_of_lt_of_le (q2 p hp) hnt) hxs (fun k=>?_),hH,by rw [foldl_set_size];exact hnt,DefOk.nil (Nat.zero_le _),Nat.le_refl _⟩
  rcases envGet_mem (env:=env) (k:=k) with h0 | ⟨p,hp,rfl,h2⟩
  ·rw [h0];simp [relV]
  ·rw [h2];exact henv p hp
 refine roundIn_of_wpIn trivial ?_
 refine sim_C (r:=some l) hm hk ih.1 ih.2.1 ih.2.2 rc.assign A (.inr q3) q5 hs0 (by rw [hA];exact hok1) fun g1 a1 w1 hS1 hF1=>?_
 rw [hA] at hS1 hF1 ⊢
 have hu1:=lives_apart hF1 hlt hun
 have hl1:w1.heap[l]?=some (.loop rc):=by rw [(hF1.keep l hlt hun).1];exact hl
 show ∃w₂,(Instr.beginRound l).run P w1 = .ok () w₂∧_
 refine ⟨_,run_beginRound hl1 hst,?_⟩
 have hS2:=hS1.putObj (y:=.loop { rc with state:=.busy }) hl1 rfl (by simp) rfl hu1
 refine sim_C (r:=some l) hm hk ih.1 ih.2.1 ih.2.2 rc.body B (.inr q4) q6 hS2 (by rw [hB];exact hok2) fun g2 a2 w2 hS3 hF2=>?_
 rw [hB] at hS3 hF2 ⊢
 have hlt1:l<(w1.putObj l (.loop { rc with state:=.busy })).heap.size:=by have:=hF1.size;simp;omega
 have hu2:=lives_apart hF2 hlt1 hu1
 have hl2:w2.heap[l]?=some (.loop { rc with state:=.busy }):=by rw [(hF2.keep l hlt1 hu1).1];exact World.putObj_heap_same (by simpa using hlt1)
 have hcut:=hrel_cut hL hS3.heap
 have hF3:=frame_cut hL (g:=g2) (w:=w2)
 have hu3:=lives_apart hF3 (by have:=heap_lt hl2;omega) hu2
 have fin:∃v w',(Instr.endRound l (exCode eB)).run P w2 = .ok v w'∧∃g',Ending.returned v = .returned (.bool (exCode eB).isNone)∧HRel φ (sub s2.heap L) g' w'∧Frame h.length h g (w.putObj l (.loop (finRec rc eB))) (sub s2.heap L) g' w':=by
  refine ⟨_,_,run_endRound (exCode eB) hl2,gcut g2 L,rfl,?_,?_⟩
  ·exact hrel_put hcut hl2 rfl rfl hu3
  ·have hfr:(.loop { ({ rc with state:=.busy }:Loop) with state:=if (exCode eB).isNone then .ready else .done,pending:=exCode eB }:Obj) = .loop (finRec rc eB):=by
    cases eB<;>simp [finRec,exCode]
   rw [hfr]
   have f1:=frame_put (y:=.loop (finRec rc eB)) hF1 hl rfl hun
   have f2:=frame_put (y:=.loop (finRec rc eB)) hF2 (World.putObj_heap_same (by simpa using hlt1)) rfl hu1
   have f3:=frame_put (y:=.loop (finRec rc eB)) hF3 hl2 rfl hu2
   rw [putObj_putObj] at f2
   exact (f1.trans f2).trans f3
 cases eB with
 | normal=>exact fin
 | exit id=>exact fin
 | ret=>exact fin
theorem all_ok (hm:P.follows .mixedOrders=true) (hk:LkOk P φ) {Pv:Prog} (hF:∀f F,Pv f=some F→FnOk P φ f F) (n:Nat):QuietCall P φ (iter Pv n)∧LoopOk P φ (iter Pv n)∧RoundOk P φ (iter Pv n):=by
 induction n using Nat.strongRecOn with
 | _ n ih =>
  refine ⟨?_,loop_ok hm hk ih,?_⟩
  ·cases n with
   | zero=>intro f xs hp v h1 h;simp [iter] at h
   | succ n=>exact quiet_ok hm hk hF (ih n (by omega))
  ·cases n with
   | zero=>intro ps A B xs env h e env' h1 h;simp [iter] at h
   | succ n=>exact round_ok hm hk (ih n (by omega))
theorem all_ok_ev (hm:P.follows .mixedOrders=true) (hk:LkOk P φ) {Pv:Prog} (hF:∀f F,Pv f=some F→FnOk P φ f F):QuietCall P φ (ev Pv)∧LoopOk P φ (ev Pv)∧RoundOk P φ (ev Pv) :=
 ⟨fun f xs h v h1 he=>let ⟨n,hn⟩:=ev_some.1 he;(all_ok hm hk hF n).1 f xs h v h1 hn,
  fun nt m dB live x c env h e env' h' hc he=>let ⟨n,hn⟩:=ev_some.1 he;(all_ok hm hk hF n).2.1 nt m dB live x c env h e env' h' hc hn,
  fun ps A B xs env h e env' h1 he=>let ⟨n,hn⟩:=ev_some.1 he;(all_ok hm hk hF n).2.2 ps A B xs env h e env' h1 hn⟩
theorem calls_of_ev (hm:P.follows .mixedOrders=true) (hk:LkOk P φ) {Pv:Prog} (hF:∀f F,Pv f=some F→FnOk P φ f F) {f:Nat} {ds:List D} {v:V} (h:ev Pv (.call f (ds.map V.d) [])=some (.val v []))
  {I:Nat→Nat} {args:Array Value} (hI:∀b,w.heap.size≤b→I b=0) (hr:relDs φ I w ds args.toList) :
  Calls P (φ f) args w fun e w'=>∃v' I',e = .returned v'∧Grew w w'∧(∀b,b<w.heap.size→I' b=I b)∧(∀b,w'.heap.size≤b→I' b=0)∧∀g:Gh,g.I=I'→relV φ [] g w' v v':=by
 obtain ⟨n,hn⟩:=ev_some.1 h
 refine Calls.mono (((all_ok hm hk hF n).1 f _ [] v [] hn).2 ⟨fun _=>0,fun _=>0,I⟩ w args (hrel_nil hI) (relDs_V hr)) fun e w' hh=>?_
 obtain ⟨v',g',rfl,hH,hrel,hfr⟩:=hh
 obtain ⟨q1,q2⟩:=frame_nil hfr
 exact ⟨v',g'.I,rfl,q1,q2,hH.new,fun gg hg=>relV_gh hg hrel⟩
end
end Go.VS
