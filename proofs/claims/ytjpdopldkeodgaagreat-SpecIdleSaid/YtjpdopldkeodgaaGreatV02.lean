import Derived.Test.YtjpdopldkeodgaaGreatV01
import Derived.RangeFuncRecord
import Derived.OrdersIn
import Derived.TacticsIn
import Derived.Scope
import Derived.Test.YtjpdopldkeodgaaGreatV00
import Derived.Tactics
import Derived.Orders
import Derived.WalkKit
import Derived.ProofKit
import Derived.OpenShut
import Derived.Carry
set_option linter.all false
set_option maxHeartbeats 1000000
namespace Go.VS
section
variable {P:Program}{φ:fD}
variable {nt m dB:Nat}{s:St}{g:Gh}{a:Act}{w:World}{K:Act->World->Prop}{Q:Exit->Act->World->Prop}{o:Oper}
theorem akk(hs:cj φ nt m dB s g a w){rec:Rec}{d n:Nat}{ag:Bool}{x:A}(hc:cO P φ nt o (.sI d x n ag)=true)(hok:(aU rec (.sI d x n ag) s).ok=true)
  (hK:eU φ nt m dB s g w (aU rec (.sI d x n ag) s) o a K):o.wp P a w K Q:=by
 simp only[aU]at hok hK;obtain⟨v,hv⟩:=N9 hok;have he:zl s.heap n ag (s.get x)=some v:=by
  unfold KU at hv;split at hv
  .rename_i cs hx;rw[hx];exact hv
  .rename_i cs hx;rw[hx];exact hv
  .simp at hv
 refine ahv (rec:=rec) hs hc ?_ ?_
 .simp only[aU,he];rw[hv]at hok;exact hok
 .simp only[aU,he];rw[hv]at hK;exact hK
theorem akl(hs:cj φ nt m dB s g a w){rec:Rec}{d off n:Nat}{x:A}(hc:cO P φ nt o (.p5 d x off n)=true)(hok:(aU rec (.p5 d x off n) s).ok=true)
  (hK:eU φ nt m dB s g w (aU rec (.p5 d x off n) s) o a K):o.wp P a w K Q:=by
 simp only[aU]at hok hK;obtain⟨v,hv⟩:=N9 hok;have he:fa s.heap off n (s.get x)=some v:=by
  unfold KV at hv;split at hv
  .rename_i cs hx;rw[hx];exact hv
  .rename_i cs hx;rw[hx];exact hv
  .simp at hv
 refine ahK (rec:=rec) hs hc ?_ ?_
 .simp only[aU,he];rw[hv]at hok;exact hok
 .simp only[aU,he];rw[hv]at hK;exact hK
def I.OB:I->Bool
 | .p6 ..=>true
 |_=>false
theorem akm{rec:Rec}(hq:mq P φ rec)(hs:cj φ nt m dB s g a w){i:I}(hc:cO P φ nt o i=true)(hY:i.OB=false)(hok:(aU rec i s).ok=true)
  (hK:eU φ nt m dB s g w (aU rec i s) o a K):o.wp P a w K Q:=by
 cases i with
 |mv d x=>exact ahk hs hc hK
 |pick d c x y=>exact ahl hs hc hok hK
 |box d x n fz=>exact ahT hs hc hok hK
 |new d z=>exact ahU hs hc hK
 |build d z ps=>exact ah1 hs hc hok hK
 |mZ d es n z ps fz=>exact ah4 hs hc hok hK
 |ld d x n ag=>exact ahv hs hc hok hK
 |st x y n fz =>
  cases fz with
  |false=>exact aif hs hc hok hK
  |true=>exact aih hs hc hok hK
 |fa d x o n=>exact ahK hs hc hok hK
 |jm d x i es=>exact ahN hs hc hok hK
 |bin d op x y=>exact aho hs hc hok hK
 |eqv d neg x y ks=>exact ahy hs hc hok hK
 |qH d neg x k=>exact ahH hs hc hok hK
 |un d op x=>exact ahp hs hc hok hK
 |kP d k x=>exact ahq hs hc hok hK
 |len d x k=>exact ahR hs hc hok hK
 |ext d x i=>exact ahr hs hc hok hK
 |sl d x lo hi es=>exact ait hs hc hok hK
 |sle d x lo hi es=>exact akj hs hc hok hK
 |app d x y es=>exact aiH hs hc hok hK
 |sJ d x y es=>exact aje hs hc hok hK
 |nH d f xs=>exact ajf hq hs hc hok hK
 |calls d f xs=>exact ajl hq hs hc hok hK
 |p6 d x xs=>simp[I.OB]at hY
 |gJ d f x y=>exact ahs hs hc hK
 |call d f xs=>exact aio hq hs hc hok hK
 |nG d x xs=>exact aip hq hs hc hok hK
 |inv d nm kg x xs=>exact ajC hq hs hc hok hK
 |nI d t x=>exact ajz hs hc hok hK
 |mx d x y=>exact ajy hs hc hok hK
 |nF d f xs=>exact UX false hq hs hc hok hK
 |jo d f xs=>exact UX true hq hs hc hok hK
 |pZ d x xs=>exact ajb hq hs hc hok hK
 |tD d x=>exact ajm hs hc hok hK
 |sG d x off n ag=>exact ajo hs hc hok hK
 |rN d x lo hi mz es=>exact ajq hs hc hok hK
 |qI d x es z=>exact ajw hs hc hok hK
 |copy d x y es=>exact ajx hs hc hok hK
 |cap d x=>exact ajE hs hc hok hK
 |oP d x j len es=>exact akf hs hc hok hK
 |vS d es z n k=>exact akc hs hc hok hK
 |sH d x k es z=>exact ajH hs hc hok hK
 |rO d f x y es=>exact ajN hs hc hok hK
 |bad d=>simp[aU,St.fail]at hok
 |sI d x n ag=>exact akk hs hc hok hK
 |p5 d x o n=>exact akl hs hc hok hK
 |mF d=>exact ajZ hs hc hK
 |fI m k v ks=>exact aj8 hs hc hok hK
 |pY d m k z ok ks=>exact aka hs hc hok hK
end
end Go.VS
namespace Go.VS
def Wd(r:Option Nat):Fence:={Fence.wide with round:=r}
section
variable {P:Program}{φ:fD}
variable {nt m dB:Nat}{s:St}{g:Gh}{a:Act}{w:World}{K:Act->World->Prop}{Q:Exit->Act->World->Prop}{o:Oper}
variable {r:Option Nat}{n:Nat}
theorem akn{f:FuncId}{args:Array Value}{R:Ending->World->Prop}(h:Calls P f args w R):CallsIn (Wd r) n P f args w R:=(callsIn_wide (n:=n)).2 h
theorem ako{row:String}{args:Array Value}{R:Value->World->Prop}(h:Rows P row args w R):RowsIn (Wd r) n P row args w R :=
 λc cs _=>let ⟨v,w',r,s⟩:=h c cs;⟨v,w',r,stepsIn_wide.2 s⟩
theorem OC:(Wd r).depth.isSome=true->1<=n:=λh=>by simp[Wd,Fence.wide]at h
theorem akp(hd:∀c,o.op≠.defer c)(h:o.wp P a w K Q):o.wpIn (Wd r) n P a w K Q:=by
 refine⟨λ_ _=>trivial,?_⟩
 rw[Oper.semAt_eq _ _ _ hd];unfold Oper.wp at h;generalize (execOp a.eval o).run P w=res at h⊢;cases res with
 |ok x w' =>
  cases x<;>simp only[Oper.upon,Oper.uponIn]at h⊢
  case value=>exact h
  case skip=>exact h
  case defer=>exact h
  case enter=>exact⟨OC,akn h⟩
  case row=>exact⟨OC,ako h⟩
 |halt x w' =>
  cases x<;>simp only[Oper.upon,Oper.uponIn]at h⊢<;>exact h
theorem akq{i:I}(h:cO P φ nt o i=true)(hb:∀d,i≠.bad d):∀c,o.op≠.defer c:=by
 intro c hc;cases i<;>simp[cO,hc]at h;all_goals exact absurd rfl (hb _)
theorem akr{F:Fence}{c:Code}(h:c.wpIn F n P (Exit.noGoto Q) a w):(Code.scope c).wpIn F n P Q a w:=by
 intro b k cs hro hb hr;have h0:(lone (b.atR a (.code (.scope c)::k)) cs w).fenced P F:=fenced_calm hb hr rfl;have s1:step P (lone (b.atR a (.code (.scope c)::k)) cs w) = .next (lone (b.atR a (.code c::.inScope c::k)) cs w):=step_lone_go (by simp[stepG,stepG.exec,Frame.atR])
 have s2:∀{a:Act}{w:World},step P (lone (b.atR a (.inScope c::k)) cs w) = .next (lone (b.atR a k) cs w):=step_lone_go (by simp[stepG,stepG.exec,Frame.atR])
 obtain⟨e,a₁,w₁,hq,F9⟩:=h b (.inScope c::k) cs hro hb hr;cases e with
 |normal=>exact⟨.normal,a₁,w₁,hq,.head h0 s1 (StepsIn.trans F9 (.one (fenced_calm hb hr rfl) s2))⟩
 |exit id =>
  have hx:exitTo id (.inScope c::k)=exitTo id k:=by simp[exitTo]
  exact⟨.exit id,a₁,w₁,hq,λk' hk=>.head h0 s1 (F9.1 k' (by rw[hx];exact hk)),
   λhr' hk=>let ⟨k₁,h1,h2⟩:=F9.2 hr' (by rw[hx];exact hk);⟨k₁,h1,.head h0 s1 h2⟩⟩
 |goto l=>exact hq.elim
 |ret=>exact⟨_,a₁,w₁,hq,.of_steps (.one h0 s1) F9⟩
 |panic ch=>exact⟨_,a₁,w₁,hq,.of_steps (.one h0 s1) F9⟩
 |outgrown=>exact⟨_,a₁,w₁,hq,.of_steps (.one h0 s1) F9⟩
def uc:Obj->Bool
 | .cells ..=>true
 |_=>false
theorem U6{b D i:Nat}{x:Obj}(h:b≠D):(w.putObj D x).cell? ⟨b,i,none⟩=w.cell? ⟨b,i,none⟩:=Ja (World.putObj_heap_other h) i
theorem OD{D i:Nat}{x:Obj}(h:w.heap[D]?=some x)(hx:uc x=false):w.cell? ⟨D,i,none⟩=none:=by
 simp only[World.cell?,h];cases x<;>simp[uc]at hx⊢
theorem U7{I:Nat->Nat}{D:Nat}{x y:Obj}(h:w.heap[D]?=some x)(hx:uc x=false)(hy:uc y=false):Ext I w I (w.putObj D y):=
 ⟨λ_=>gh _,λb i _=>by
  by_cases hb:b=D
  .subst hb
   rw[OD h hx,OD (World.putObj_heap_same (BF h)) hy]
  .exact U6 hb⟩
theorem U8{h:List O}{D:Nat}{x y:Obj}(hh:w.heap[D]?=some x)(hx:uc x=false)(hy:uc y=false)(hn:∀k,(aV h k).live=true->g.β k≠D):gT h g w h g (w.putObj D y) where
 ext:=U7 hh hx hy
 len:=gh _
 arr n es _ he:=⟨he,rfl,rfl,rfl,nP.of_eq (World.putObj_heap_other (hn n (BD he)))⟩
 mp n kv _ hk:=⟨⟨kv,hk⟩,rfl⟩
 lp n _ hk:=⟨hk,rfl⟩
theorem U9{h:List O}{D:Nat}{x y:Obj}(hr:fj φ h g w)(hh:w.heap[D]?=some x)(hx:uc x=false)(hy:uc y=false)(hn:∀k,(aV h k).live=true->g.β k≠D):fj φ h g (w.putObj D y) where
 obj n:=by
  by_cases hl:(aV h n).live=true
  .exact Dt (U8 hh hx hy hn) (World.putObj_heap_other (hn n hl)) rfl (hr.obj n)
  .cases hq:aV h n<;>simp_all[O.live,gC]
 inj:=hr.inj
 new b hb:=hr.new b (by simpa using hb)
theorem U'{h h':List O}{g':Gh}{w':World}{D:Nat}{x y:Obj}(hf:Frame m h g w h' g' w')(hh:w.heap[D]?=some x)(hy:uc y=false)
  (hn:∀k,(aV h k).live=true->g.β k≠D):Frame m h g (w.putObj D y) h' g' (w'.putObj D y) where
 ext:=⟨hf.ext.le,λb i hi=>by
  by_cases hb:b=D
  .subst hb
   have h1:=BF hh;rw[OD (World.putObj_heap_same h1) hy,OD (World.putObj_heap_same (pU h1 hf.size)) hy]
  .rw[U6 hb,U6 hb];exact hf.ext.cell b i hi⟩
 size:=by simpa using hf.size
 os:=hf.os
 tape:=hf.tape
 output:=hf.output
 pE:=hf.pE
 keep b hb hl:=by
  have h1:=hf.keep b (by simpa using hb) hl
  refine⟨?_,h1.2⟩;by_cases Va:b=D
  .subst Va
   have h2:=BF hh;rw[World.putObj_heap_same h2,World.putObj_heap_same (pU h2 hf.size)]
  .rw[World.putObj_heap_other Va,World.putObj_heap_other Va];exact h1.1
 mL k hk:=by simpa using hf.mL k hk
 pF k hk:=by
  have h1:=hf.pF k hk;refine⟨λes he=>?_,h1.mp,h1.lp⟩
  obtain⟨k1,k2,k3⟩:=h1.arr es he;have hb:=hn k (BD k1);have hb':g.β k≠D:=hb;refine⟨k1,k2,?_⟩;rw[World.putObj_heap_other hb',World.putObj_heap_other hb'];exact k3
theorem aks{h h':List O}{g':Gh}{w':World}{D:Nat}{x y:Obj}(hf:Frame m h g w h' g' w')(hr:fj φ h g w)(hD:w.heap.size<=D)(hh:w'.heap[D]?=some x)(hx:uc x=false)(hy:uc y=false):
  Frame m h g w h' g' (w'.putObj D y) where
 ext:=hf.ext.trans (U7 hh hx hy)
 size:=by simpa using hf.size
 os:=hf.os
 tape:=hf.tape
 output:=hf.output
 pE:=hf.pE
 keep b hb hl:=by
  have h1:=hf.keep b hb hl;exact⟨by rw[World.putObj_heap_other (by omega)];exact h1.1,h1.2⟩
 mL k hk:=hf.mL k hk
 pF k hk:=by
  have h1:=hf.pF k hk;refine⟨λes he=>?_,h1.mp,h1.lp⟩
  obtain⟨k1,k2,k3⟩:=h1.arr es he;have hb:=hr.block (BD k1);refine⟨k1,k2,?_⟩;rw[World.putObj_heap_other (by omega)]
  exact k3
theorem akt{D:Nat}{x y:Obj}:(w.putObj D x).putObj D y=w.putObj D y:=by
 simp[World.putObj]
theorem mM.put{h:List O}{ds:List Deferred}{D:Nat}{x y:Obj}(hd:mM dB h g ds w)(hh:w.heap[D]?=some x)(hx:∀l,x≠.deferred l):mM dB h g ds (w.putObj D y) where
 at_ d hm:=by
  obtain⟨E,h1,h2,h3,h4⟩:=hd.at_ d hm;refine⟨E,h1,h2,?_,h4⟩;rw[World.putObj_heap_other]
  .exact h3
  .intro he
   subst he;rw[hh]at h3;simp at h3;exact hx _ h3
 nodup:=hd.nodup
 le:=by simpa using hd.le
theorem cj.putObj{D:Nat}{x y:Obj}(hs:cj φ nt m dB s g a w)(hh:w.heap[D]?=some x)(hx:uc x=false)(hd:∀l,x≠.deferred l)(hy:uc y=false)(hn:∀k,(aV s.heap k).live=true->g.β k≠D):
  cj φ nt m dB s g a (w.putObj D y) where
 env k:=lU (U8 hh hx hy hn) (hs.env k)
 heap:=U9 hs.heap hh hx hy hn
 size:=hs.size
 defers:=hs.defers.put hh hd
 len:=hs.len
end
end Go.VS
namespace Go.VS
def ud(rc:Loop)(e:Ex):Loop:={rc with state:=if e = .normal then .ready else .done,pending:=wF e}
def ue(P:Program)(φ:fD)(rec:Rec):Prop :=
 ∀(ps:List Nat)(A B:C)(xs:List V)(env:List (Nat×V))(h:List O)(e:Ex)(env':List (Nat×V))(h1:List O),rec (.round ps A B xs env h)=some (.out e env' h1) ->
 ∀(n:Nat)(r:Option Nat)(g:Gh)(w:World)(l:Nat)(rc:Loop)(nt:Nat)(args:List Value),φ.lk ps A B rc.assign rc.body nt->nt<=rc.tmps.size->rc.params=ps.toArray->fj φ h g w ->
  bU φ h g w xs args->Dr φ h g w env rc.tmps->xs.length=ps.length->w.heap[l]?=some (.loop rc)->rc.state = .ready->(∀k,(aV h k).live=true->g.β k≠l) ->
  RoundIn (Wd r) n P l rc.fn ((rc.params.zip args.toArray).foldl (λtmps (t,a)=>tmps.setIfInBounds t a) rc.tmps) rc.assign rc.body w λe' w' =>
   ∃g',e' = .returned (.bool (wF e).isNone)/\fj φ h1 g' w'/\Frame h.length h g (w.putObj l (.loop (ud rc e))) h1 g' w'
section
variable {P:Program}{φ:fD}
variable {nt m dB:Nat}{s:St}{g:Gh}{a:Act}{w:World}{K:Act->World->Prop}{Q:Exit->Act->World->Prop}{o:Oper}
variable {r:Option Nat}{n:Nat}
theorem aku{rec:Rec}{h:List O}{x:V}{xs:List V}{v2:V}{h2:List O}(hc:oQ rec h x xs=some (v2,h2)):∃k ps A B env L e env' h1,x = .ju k/\aV h k = .lp ps A B .normal env/\xs.length=ps.length /\
  cut (h.set k .dead) 0 (V.gA xs++rP env)=some L/\k∉L/\rec (.round ps A B (V.iQ (L.idxOf ·) xs) (zk (L.idxOf ·) env) (sub (h.set k .dead) L))=some (.out e env' h1)/\L.length<=h1.length /\
  v2 = .d (.b (wF e).isNone)/\h2=mQ (h.set k (.lp ps A B e env)) L h1:=by
 unfold oQ at hc;split at hc<;>try (simp at hc;done)
 rename_i k;split at hc<;>try (simp at hc;done)
 rename_i ps A B env hk;split at hc<;>try (simp at hc;done)
 rename_i hlen;split at hc<;>try (simp at hc;done)
 rename_i L hL;split at hc<;>try (simp at hc;done)
 rename_i hn;split at hc<;>try (simp at hc;done)
 rename_i e env' h1 hr;split at hc<;>try (simp at hc;done)
 rename_i hle;simp only[gz,uC]at hc;refine⟨k,ps,A,B,env,L,e,env',h1,rfl,hk,hlen,hL,hn,hr,hle,?_,?_⟩
 .rw[<-hc.1];cases e<;>rfl
 .rw[<-hc.2];simp[mQ]
theorem sub_congr{h h':List O}{L:List Nat}(he:∀n∈L,aV h n=aV h' n):sub h L=sub h' L:=by
 unfold sub;exact vM λn hn=>by rw[he n hn]
theorem akv{D:Nat}{y:Obj}:jY w (w.putObj D y) D:=⟨by simp,λ_ hk=>World.putObj_heap_other hk,rfl,rfl,rfl⟩
theorem akw{h:List O}{L:List Nat}{env:List (Nat×V)}{tmps:Array Value}(hl:∀n∈rP env,n∈L)(hr:Dr φ h g w env tmps):Dr φ (sub h L) (iM g L) w (zk (L.idxOf ·) env) tmps:=by
 intro p hp;simp only[zk,gY]at hp;obtain⟨q,hq,rfl⟩:=hp;exact FZ (λn hn=>hl n (Oo hq hn)) (hr q hq)
theorem akx{h:List O}{L:List Nat}{k:Nat}(hr:fj φ h g w)(hk:k∉L)(hl:(aV h k).live=true):∀j,(aV (sub (h.set k .dead) L) j).live=true->(iM g L).β j≠g.β k:=by
 intro j hj hb;by_cases hlt:j<L.length
 .have hg:L[j]?=some L[j]:=by simp[hlt]
  have hne:L[j]≠k:=λhe=>hk (he▸vN hlt)
  rw[mP hg,wY,qp hne]at hj;simp only[iM,List.getD,hg,vQ]at hb;exact hne (hr.inj _ _ hj hl hb)
 .rw[FY (by omega)]at hj;simp[O.live]at hj
theorem aky{rec:Rec}(hy:ue P φ rec)(hs:cj φ nt m dB s g a w){d:Option Nat}{x:A}{xs:List A}(hc:cO P φ nt o (.p6 d x xs)=true)(hok:(aU rec (.p6 d x xs) s).ok=true)
  (hK:eU φ nt m dB s g w (aU rec (.p6 d x xs) s) o a K):o.wpIn (Wd r) n P a w K Q:=by
 have hdf:=akq hc (by simp)
 simp only[cO,bD]at hc;obtain⟨hd,h⟩:=hc;split at h
 .rename_i c ho
  split at h
  .rename_i y iz
   simp only[bD]at h;obtain⟨hx,hxs⟩:=h;simp only[aU]at hok hK;have rx:=fm hs hx;have yD:=wP hs hxs;obtain⟨⟨v2,h2⟩,hv⟩:=xV hok;rw[hv]at hK;obtain⟨k,ps,A,B,env,L,e,env',h1,hxk,hk,hlen,hL,hkL,gU,hle,rfl,rfl⟩:=aku hv;rw[hxk]at rx;simp only[aK]at rx;have sx:=rx.2.2 (by rw[hk];rfl)
   have hl:(aV s.heap k).live=true:=by rw[hk];rfl
   have dF:=hs.heap.obj k;rw[hk]at dF;obtain⟨rc,yI,hb,hps,hlk,hnt,OE,hst,BT,hI⟩:=dF;simp only[dH]at hst;have hal:(c.args.toList.map a.eval).length=ps.length:=by
    rw[<-pz yD];exact hlen
   refine⟨λ_ _=>trivial,?_⟩
   rw[Oper.semAt_eq _ _ _ hdf];have hyd:=run_yield (P:=P) hb (args:=c.args.map a.eval) (by rw[hps];simpa using hal)
   have hrun:(execOp a.eval o).run P w = .ok (.round (g.β k) rc.fn ((rc.params.zip (c.args.map a.eval)).foldl (λtmps (t,a)=>tmps.setIfInBounds t a) rc.tmps) rc.assign rc.body) w:=by
    simp[execOp,ho,resolve,iz,sx,Deferred.ofValue,invoke,hyd]
   rw[hrun,Oper.uponIn_round];refine⟨OC,?_⟩;obtain⟨hnd,yG,bR,_,_⟩:=DK hL;obtain⟨kS,kF,kle⟩:=hs.kill hl s.ok;have akz:=hy ps A B _ _ _ e env' h1 gU (n - 1) r (iM g L) w (g.β k) rc yI (c.args.toList.map a.eval) hlk hnt hps (F0 hL kS.heap)
    (yF (λn hn=>yG n (El _ hn)) (yy kle yD)) (akw (λn hn=>yG n (He _ hn)) (Ue kle OE))
    (by rw[Jp];exact hlen) hb hst (akx hs.heap hkL hl)
   have hargs:(c.args.toList.map a.eval).toArray=c.args.map a.eval:=by rw[<-Array.toList_map]
   rw[hargs]at akz;refine RoundIn.mono akz λe' w' hh=>?_
   obtain⟨g1,rfl,sw,hfr⟩:=hh;have ht:jY w (w.putObj (g.β k) (.loop (ud rc e))) (g.β k):=akv;have hE:Ext g.I w g.I (w.putObj (g.β k) (.loop (ud rc e))):=U7 hb rfl rfl;have jZ:gT s.heap g w (s.heap.set k (.lp ps A B e env)) (g.ez g.I) (w.putObj (g.β k) (.loop (ud rc e))):=
    wJ hs.heap hl ht hE (λes he=>by simp[O.gN]at he) (λkv hk=>by simp at hk) (λ_=>by rw[hk];rfl)
   have hH:fj φ (s.heap.set k (.lp ps A B e env)) (g.ez g.I) (w.putObj (g.β k) (.loop (ud rc e))):=
    wK hs.heap hl ht jZ (λ_ _=>rfl) ⟨ud rc e,yI,World.putObj_heap_same (BF hb),hps,hlk,hnt,Ue jZ OE,rfl,rfl,hI⟩
   have qw:=wL (m:=m) (.lp ps A B e env) hl ht hE (λ_ _=>rfl) jZ
   have hsub:sub (s.heap.set k .dead) L=sub (s.heap.set k (.lp ps A B e env)) L:=sub_congr λn hn=>by
    have hne:n≠k:=λhe=>hkL (he▸hn)
    rw[qp hne,qp hne]
   rw[hsub,yE]at hfr;have M:j0 φ (s.heap.set k (.lp ps A B e env)) L g (w.putObj (g.β k) (.loop (ud rc e))) h1 g1 w':=⟨hH,hnd,λn hn=>by simpa using(bR n hn).1,hle,sw,hfr⟩
   have hlen':m<=(s.heap.set k (.lp ps A B e env)).length:=by simpa using hs.len
   have hF:=qw.trans (M.frame hlen');have hS:∀ok,cj φ nt m dB ⟨s.env,mQ (s.heap.set k (.lp ps A B e env)) L h1,ok⟩ (jP (s.heap.set k (.lp ps A B e env)) L g g1) a w':=λok =>
    ⟨λj=>lU (jZ.trans M.hle) (hs.env j),M.fY,hs.size,hs.defers.frame hF,mE hlen' M.hle.len⟩
   obtain⟨e1,e2⟩:=DE hd;refine hK (jP (s.heap.set k (.lp ps A B e env)) L g g1) (.bool (wF e).isNone) w' ?_ ?_
   .rw[e1]
    cases d with
    |none=>exact hS _
    |some d=>exact(hS s.ok).wQ (e2 d rfl) (by simp[aK,bT])
   .cases d with
    |none=>exact hF
    |some d=>exact hF
  .simp at h
 .simp at h
theorem akA{rec:Rec}(hq:mq P φ rec)(hy:ue P φ rec)(hs:cj φ nt m dB s g a w){i:I}(hc:cO P φ nt o i=true)(hok:(aU rec i s).ok=true)
  (hK:eU φ nt m dB s g w (aU rec i s) o a K):o.wpIn (Wd r) n P a w K Q:=by
 by_cases hi:i.OB=true
 .cases i<;>simp[I.OB]at hi
  exact aky hy hs hc hok hK
 .refine akp (akq hc λd he=>?_) (akm hq hs hc (by simpa using hi) hok hK)
  subst he;simp[aU,St.fail]at hok
end
end Go.VS
namespace Go.VS
def I.reads:I->List A
 | .mv _ x=>[x]
 | .pick _ c a b=>[c,a,b]
 | .box _ x _ _=>[x]
 | .new ..=>[]
 | .build _ _ ps=>ps.map λp=>p.2.2
 | .mZ _ _ _ _ ps _=>ps.map λp=>p.2
 | .ld _ x _ _=>[x]
 | .st x y _ _=>[x,y]
 | .fa _ x _ _=>[x]
 | .jm _ x i _=>[x,i]
 | .oP _ x i _ _=>[x,i]
 | .sG _ x _ _ _=>[x]
 | .bin _ _ x y=>[x,y]
 | .eqv _ _ x y _=>[x,y]
 | .qH _ _ x _=>[x]
 | .un _ _ x=>[x]
 | .kP _ _ x=>[x]
 | .len _ x _=>[x]
 | .sl _ x lo hi _ | .sle _ x lo hi _=>x::(lo.toList++hi.toList)
 | .app _ x y _=>[x,y]
 | .qI _ x _ _=>[x]
 | .copy _ x y _=>[x,y]
 | .ext _ x _=>[x]
 | .gJ _ _ a b=>a++b
 | .mF _=>[]
 | .fI m k v _=>[m,k,v]
 | .pY _ m k _ _ _=>[m,k]
 | .call _ _ xs=>xs
 | .nF _ _ xs=>xs
 | .jo _ _ xs=>xs
 | .nG _ x xs=>x::xs
 | .pZ _ x xs=>x::xs
 | .tD _ x=>[x]
 | .rN _ x lo hi mz _=>[x,lo,hi,mz]
 | .cap _ x=>[x]
 | .sH _ x k _ _=>[x,k]
 | .rO _ _ x y _=>[x,y]
 | .bad _=>[]
 | .sI _ x _ _=>[x]
 | .p5 _ x _ _=>[x]
 | .p6 _ x xs=>x::xs
 | .sJ _ x y _=>[x,y]
 | .nH _ _ xs=>xs
 | .calls _ _ xs=>xs
 | .nI _ _ x=>[x]
 | .inv _ _ _ x xs=>x::xs
 | .mx _ x y=>[x,y]
 | .vS _ _ _ n k=>[n,k]
def I.quiet:I->Bool
 | .mv .. | .pick .. | .build .. | .ld .. | .fa .. | .jm .. | .oP .. | .sG .. | .bin .. | .eqv .. | .qH .. | .un .. | .kP .. | .len .. | .sl .. | .ext .. | .gJ .. | .pY ..
 | .call .. | .nG .. | .tD .. | .rN .. | .cap .. | .rO .. | .sI .. | .p5 .. | .calls .. | .nI .. | .inv .. | .mx ..=>true
 | .box _ _ _ fz=>fz
 | .mZ _ _ _ _ _ fz=>fz
 |_=>false
def I.blind:I->Bool
 | .mv .. | .pick .. | .build .. | .sG .. | .bin .. | .eqv .. | .un .. | .kP .. | .ext .. | .gJ .. | .call .. | .nG .. | .tD .. | .sI .. | .p5 .. | .nI .. | .inv .. | .mx ..=>true
 | .box _ _ _ fz=>fz
 | .mZ _ _ _ _ _ fz=>fz
 |_=>false
def W(d:Option Nat)(v:V):List (Nat×V):=
 match d with
 |some d=>[(d,v)]
 |none=>[]
def Alike(q:Bool)(d:Option Nat)(s s' r r':St):Prop :=
 r.ok=true->s'.ok=true->r'.ok=true/\∃v,r.env=W d v++s.env/\r'.env=W d v++s'.env/\((r.heap=s.heap/\r'.heap=s'.heap)\/(q=false/\r.heap=r'.heap))
section
variable {q:Bool}{s s':St}
theorem Alike.put{d:Nat}{v:V}:Alike q (some d) s s' (s.put d v) (s'.put d v):=λ_ h'=>⟨h',v,rfl,rfl,.inl ⟨rfl,rfl⟩⟩
theorem Alike.fu{d:Nat}{o:Option V}:Alike q (some d) s s' (s.fu d o) (s'.fu d o):=by
 cases o with
 |none=>intro h;simp[St.fu,St.fail]at h
 |some v=>exact Alike.put
theorem Alike.fail{d:Option Nat}{r:St}:Alike q d s s' s.fail r:=λh=>by simp[St.fail]at h
theorem Alike.skip{r:St}(hr:r=s'):Alike q none s s' s r:=by subst hr;exact λ_ h'=>⟨h',.u,rfl,rfl,.inl ⟨rfl,rfl⟩⟩
theorem Alike.gi{d:Nat}{o:Option (V×List O)}:Alike false (some d) s s' (s.gi d o) (s'.gi d o):=by
 cases o with
 |none=>intro h;simp[St.gi,St.fail]at h
 |some p=>exact λ_ h'=>⟨h',p.1,rfl,rfl,.inr ⟨rfl,rfl⟩⟩
theorem Alike.lH{d:Option Nat}{o:Option (V×List O)}:Alike false d s s' (s.lH d o) (s'.lH d o):=by
 cases o with
 |none=>intro h;simp[St.lH,St.fail]at h
 |some p =>
  cases d with
  |none=>exact λ_ h'=>⟨h',.u,rfl,rfl,.inr ⟨rfl,rfl⟩⟩
  |some d=>exact λ_ h'=>⟨h',p.1,rfl,rfl,.inr ⟨rfl,rfl⟩⟩
theorem Alike.m8{d:Option Nat}{o:Option V}:Alike q d s s' (s.m8 d o) (s'.m8 d o):=by
 cases o with
 |none=>intro h;simp[St.m8,St.fail]at h
 |some v =>
  cases d with
  |none=>exact λ_ h'=>⟨h',.u,rfl,rfl,.inl ⟨rfl,rfl⟩⟩
  |some d=>exact λ_ h'=>⟨h',v,rfl,rfl,.inl ⟨rfl,rfl⟩⟩
theorem Alike.sL{o:Option (List O)}:Alike false none s s' (s.sL o) (s'.sL o):=by
 cases o with
 |none=>intro h;simp[St.sL,St.fail]at h
 |some h=>exact λ_ h'=>⟨h',.u,rfl,rfl,.inr ⟨rfl,rfl⟩⟩
end
theorem w8{s s':St}{xs:List A}(h:∀x∈xs,s.get x=s'.get x):xs.map s'.get=xs.map s.get:=vM λx hx=>(h x hx).symm
theorem OF{s s':St}{dflt:Int}{x:Option A}(h:∀a∈x.toList,s.get a=s'.get a):uF s' dflt x=uF s dflt x:=by
 cases x with
 |none=>rfl
 |some a=>simp[uF,h a (by simp)]
theorem OG{rec:Rec}{i:I}{s s':St}(h:∀x∈i.reads,s.get x=s'.get x)(hh:s.heap=s'.heap\/i.blind=true):Alike i.quiet i.wr s s' (aU rec i s) (aU rec i s'):=by
 cases i with
 |box d x n fz =>
  have hx:=h x (by simp[I.reads])
  simp only[aU,<-hx];split
  .cases fz with
   |true=>exact Alike.put
   |false=>simp[I.blind]at hh;simp only[<-hh,I.quiet,fG,dK];exact Alike.gi
  .exact Alike.fail
 |mZ d es n z ps fz =>
  have hx:(ps.map λp=>(p.1,s'.get p.2))=ps.map λp=>(p.1,s.get p.2):=vM λp hp=>by rw[h p.2 (by simp only[I.reads];exact gY.2 ⟨p,hp,rfl⟩)]
  simp only[aU,hx];cases fz with
  |true=>exact Alike.fu
  |false=>simp[I.blind]at hh;simp only[<-hh,I.quiet,fG,dK];exact Alike.gi
 |build d z ps =>
  have hx:(ps.map λp=>(p.1,p.2.1,s'.get p.2.2))=ps.map λp=>(p.1,p.2.1,s.get p.2.2):=vM λp hp=>by rw[h p.2.2 (by simp only[I.reads];exact gY.2 ⟨p,hp,rfl⟩)]
  simp only[aU,hx];exact Alike.fu
 |st x y n fz =>
  have hx:=h x (by simp[I.reads])
  have hy:=h y (by simp[I.reads])
  simp[I.blind]at hh;simp only[aU,<-hx,<-hy,<-hh,I.quiet];cases fz with
  |false =>
   have:(I.st x y n false).wr=none:=by cases x<;>rfl
   rw[this];exact Alike.sL
  |true =>
   cases x with
   |k z=>simp only[dH];exact Alike.fail
   |t d =>
    simp only[dH,I.wr];generalize s.get (.t d)=v;cases v with
    |loc m r c =>
     cases r with
     |succ r=>exact Alike.fail
     |zero =>
      cases c with
      |succ c=>exact Alike.fail
      |zero =>
       simp only;split
       .split
        .exact Alike.gi
        .exact Alike.fail
       .exact Alike.fail
    |_=>exact Alike.fail
 |pick d c a b =>
  have hc:=h c (by simp[I.reads]);have ha:=h a (by simp[I.reads]);have hb:=h b (by simp[I.reads])
  simp only[aU,<-hc,<-ha,<-hb];split
  .exact Alike.put
  .exact Alike.fail
 |tD d x =>
  have hx:=h x (by simp[I.reads])
  simp only[aU,<-hx];split<;>first |exact Alike.put |exact Alike.fail
 |gJ d f a b =>
  have ha:=w8 (xs:=a) (λx hx=>h x (by simp[I.reads,hx]))
  have hb:=w8 (xs:=b) (λx hx=>h x (by simp[I.reads,hx]))
  simp only[aU,ha,hb];split<;>exact Alike.put
 |call d f xs =>
  simp only[aU,w8 (xs:=xs) h];exact Alike.m8
 |nG d x xs =>
  have hx:=h x (by simp[I.reads])
  simp only[aU,<-hx,w8 (xs:=xs) (λy hy=>h y (by simp[I.reads,hy]))]
  exact Alike.m8
 |inv d nm kg x xs =>
  have hx:=h x (by simp[I.reads])
  simp only[aU,<-hx,w8 (xs:=xs) (λy hy=>h y (by simp[I.reads,hy]))]
  exact Alike.m8
 |nI d t x=>have hx:=h x (by simp[I.reads]);simp only[aU,<-hx];exact Alike.fu
 |mx d x y=>have hx:=h x (by simp[I.reads]);have hy:=h y (by simp[I.reads]);simp only[aU,<-hx,<-hy];exact Alike.fu
 |nF d f xs =>
  simp[I.blind]at hh;simp only[aU,w8 (xs:=xs) h,<-hh];exact Alike.lH
 |jo d f xs =>
  simp[I.blind]at hh;simp only[aU,w8 (xs:=xs) h,<-hh];exact Alike.lH
 |pZ d x xs =>
  have hx:=h x (by simp[I.reads])
  simp[I.blind]at hh;simp only[aU,<-hx,w8 (xs:=xs) (λy hy=>h y (by simp[I.reads,hy])),<-hh]
  exact Alike.lH
 |sJ d x y es =>
  have hx:=h x (by simp[I.reads]);have hy:=h y (by simp[I.reads])
  simp[I.blind]at hh;simp only[aU,<-hx,<-hy,<-hh];exact Alike.gi
 |nH d f xs =>
  simp[I.blind]at hh;simp only[aU,w8 (xs:=xs) h,<-hh];exact Alike.gi
 |calls d f xs =>
  simp[I.blind]at hh;simp only[aU,w8 (xs:=xs) h,<-hh];exact Alike.m8
 |p6 d x xs =>
  have hx:=h x (by simp[I.reads])
  simp[I.blind]at hh;simp only[aU,<-hx,w8 (xs:=xs) (λy hy=>h y (by simp[I.reads,hy])),<-hh]
  exact Alike.lH
 |sl d x lo hi es =>
  have hx:=h x (by simp[I.reads])
  simp[I.blind]at hh;simp only[aU,<-hx,<-hh,OF (s:=s) (s':=s') (x:=lo) (λa ha=>h a (by simp only[I.reads];simp at ha;simp[ha])),OF (s:=s) (s':=s') (x:=hi) (λa ha=>h a (by simp only[I.reads];simp at ha;simp[ha]))]
  exact Alike.fu
 |sle d x lo hi es =>
  have hx:=h x (by simp[I.reads])
  simp[I.blind]at hh;simp only[aU,<-hx,<-hh,OF (s:=s) (s':=s') (x:=lo) (λa ha=>h a (by simp only[I.reads];simp at ha;simp[ha])),OF (s:=s) (s':=s') (x:=hi) (λa ha=>h a (by simp only[I.reads];simp at ha;simp[ha]))]
  exact Alike.gi
 |new d z=>simp[I.blind]at hh;simp only[aU,<-hh];exact Alike.gi
 |mF d=>simp[I.blind]at hh;simp only[aU,<-hh];exact Alike.gi
 |app d x y es =>
  have hx:=h x (by simp[I.reads]);have hy:=h y (by simp[I.reads])
  simp[I.blind]at hh;simp only[aU,<-hx,<-hy,<-hh];exact Alike.gi
 |copy d x y es =>
  have hx:=h x (by simp[I.reads]);have hy:=h y (by simp[I.reads])
  simp[I.blind]at hh;simp only[aU,<-hx,<-hy,<-hh];exact Alike.lH
 |qI d x es z =>
  have hx:=h x (by simp[I.reads])
  simp[I.blind]at hh;simp only[aU,<-hx,<-hh];exact Alike.lH
 |fI a b c ks =>
  have ha:=h a (by simp[I.reads]);have hb:=h b (by simp[I.reads]);have hc:=h c (by simp[I.reads])
  simp[I.blind]at hh;simp only[aU,<-ha,<-hb,<-hc,<-hh];exact Alike.sL
 |pY d a b z ok ks =>
  have ha:=h a (by simp[I.reads]);have hb:=h b (by simp[I.reads])
  simp[I.blind]at hh;simp only[aU,<-ha,<-hb,<-hh];exact Alike.fu
 |jm d a b es =>
  have ha:=h a (by simp[I.reads]);have hb:=h b (by simp[I.reads])
  simp[I.blind]at hh;simp only[aU,<-ha,<-hb,<-hh];exact Alike.fu
 |oP d a b es =>
  have ha:=h a (by simp[I.reads]);have hb:=h b (by simp[I.reads])
  simp[I.blind]at hh;simp only[aU,<-ha,<-hb,<-hh];exact Alike.fu
 |bin d op a b =>
  have ha:=h a (by simp[I.reads]);have hb:=h b (by simp[I.reads])
  simp only[aU,<-ha,<-hb];exact Alike.fu
 |eqv d neg a b ks =>
  have ha:=h a (by simp[I.reads]);have hb:=h b (by simp[I.reads])
  simp only[aU,<-ha,<-hb];exact Alike.fu
 |ld d x n ag=>have hx:=h x (by simp[I.reads]);simp[I.blind]at hh;simp only[aU,<-hx,<-hh];exact Alike.fu
 |fa d x n ag=>have hx:=h x (by simp[I.reads]);simp[I.blind]at hh;simp only[aU,<-hx,<-hh];exact Alike.fu
 |qH d neg x k=>have hx:=h x (by simp[I.reads]);simp[I.blind]at hh;simp only[aU,<-hx,<-hh];exact Alike.fu
 |len d x k=>have hx:=h x (by simp[I.reads]);simp[I.blind]at hh;simp only[aU,<-hx,<-hh];exact Alike.fu
 |sG d x n k ag=>have hx:=h x (by simp[I.reads]);simp only[aU,<-hx];exact Alike.fu
 |un d op x=>have hx:=h x (by simp[I.reads]);simp only[aU,<-hx];exact Alike.fu
 |kP d k x=>have hx:=h x (by simp[I.reads]);simp only[aU,<-hx];exact Alike.fu
 |ext d x i=>have hx:=h x (by simp[I.reads]);simp only[aU,<-hx];exact Alike.fu
 |rN d x lo hi mz es =>
  have hx:=h x (by simp[I.reads]);have hl:=h lo (by simp[I.reads]);have hi:=h hi (by simp[I.reads]);have hm:=h mz (by simp[I.reads])
  simp[I.blind]at hh;simp only[aU,<-hx,<-hl,<-hi,<-hm,<-hh];exact Alike.fu
 |cap d x=>have hx:=h x (by simp[I.reads]);simp[I.blind]at hh;simp only[aU,<-hx,<-hh];exact Alike.fu
 |sH d x k es z =>
  have hx:=h x (by simp[I.reads]);have hk:=h k (by simp[I.reads])
  simp[I.blind]at hh;simp only[aU,<-hx,<-hk,<-hh];exact Alike.gi
 |vS d es z n k =>
  have hx:=h n (by simp[I.reads]);have hk:=h k (by simp[I.reads])
  simp[I.blind]at hh;simp only[aU,<-hx,<-hk,<-hh];exact Alike.gi
 |rO d f x y es =>
  have hx:=h x (by simp[I.reads]);have hy:=h y (by simp[I.reads])
  simp[I.blind]at hh;simp only[aU,<-hx,<-hy,<-hh];exact Alike.fu
 |bad d=>exact Alike.fail
 |sI d x n ag=>have hx:=h x (by simp[I.reads]);simp only[aU,<-hx];exact Alike.fu
 |p5 d x n ag=>have hx:=h x (by simp[I.reads]);simp only[aU,<-hx];exact Alike.fu
 |mv d x=>have hx:=h x (by simp[I.reads]);simp only[aU,<-hx];exact Alike.put
end Go.VS
namespace Go.VS
structure X where
 i:I
 g:Option (Nat×Bool)
mutual
def J.flat(g:Option (Nat×Bool)):J->List X
 | .op i=>[⟨i,g⟩]
 | .sc fM d c body x=>J.iw (some (c,!fM)) body++[⟨.pick d (.t c) (if fM then .k (.b true)else x) (if fM then x else .k (.b false)),g⟩]
 | .re _=>[]
def J.iw(g:Option (Nat×Bool)):List J->List X
 | []=>[]
 |j::r=>j.flat g++J.iw g r
end
def At(i:I)(s:St):St:=⟨W i.wr .kN++s.env,s.heap,s.ok⟩
def jF(rec:Rec)(x:X)(s:St):St :=
 match x.g with
 |none=>aU rec x.i s
 |some (c,want) =>
  match cC s.env c with
  | .d (.b b)=>if b=want then aU rec x.i s else At x.i s
  | .kN=>At x.i s
  |_=>s.fail
def eX(rec:Rec):List X->St->St
 | [],s=>s
 |x::r,s=>eX rec r (jF rec x s)
theorem yJ{rec:Rec}:∀(xs ys:List X)(s:St),eX rec (xs++ys) s=eX rec ys (eX rec xs s)
 | [],_,_=>rfl
 |x::xs,ys,s=>by simp only[tB,eX];exact yJ xs ys _
theorem akB{rec:Rec}{x:X}{s:St}(h:(jF rec x s).ok=true):s.ok=true:=by
 unfold jF at h;split at h
 .exact La h
 .split at h
  .split at h
   .exact La h
   .exact h
  .exact h
  .simp at h
theorem Jw{rec:Rec}:∀{xs:List X}{s:St},(eX rec xs s).ok=true->s.ok=true
 | [],_,h=>h
 |_::_,_,h=>akB (Jw (by simpa only[eX]using h))
theorem Au{d:Option Nat}{v:V}{e:List (Nat×V)}{t:Nat}(h:t∉d.toList):cC (W d v++e) t=cC e t:=by
 cases d with
 |none=>rfl
 |some d =>
  have:d≠t:=λh1=>h (by simp[h1])
  simp[W,cC,this]
theorem Av{d:Option Nat}{v:V}{e:List (Nat×V)}{t:Nat}(h:t∈d.toList):cC (W d v++e) t=v:=by
 cases d with
 |none=>simp at h
 |some d =>
  have:t=d:=by simpa using h
  simp[W,cC,this]
theorem Ga{e:List (Nat×V)}{t:Nat}:∀{ds:List Nat},cC (p7 ds e) t=if t∈ds then .u else cC e t
 | []=>by simp[p7]
 |d::ds=>by
  simp only[p7,cC,Ga (ds:=ds),dD];by_cases h:d=t
  .simp[h]
  .have h':¬t=d:=λe=>h e.symm
   simp[h,h']
theorem akC{rec:Rec}{i:I}{s:St}(h:(aU rec i s).ok=true):∃v,(aU rec i s).env=W i.wr v++s.env/\(i.quiet=true->(aU rec i s).heap=s.heap):=by
 obtain⟨_,v,he,_,hh⟩:=OG (rec:=rec) (i:=i) (s:=s) (s':=s) (λ_ _=>rfl) (.inl rfl) h (La h)
 refine⟨v,he,λhq=>?_⟩
 rcases hh with h1 |h1
 .exact h1.1
 .rw[hq]at h1;simp at h1
theorem OH{rec:Rec}{x:X}{s:St}(h:(jF rec x s).ok=true):∃v,(jF rec x s).env=W x.i.wr v++s.env/\(x.i.quiet=true->(jF rec x s).heap=s.heap):=by
 cases x with
 |mk i g =>
  cases g with
  |none=>exact akC h
  |some p =>
   obtain⟨c,want⟩:=p;simp only[jF]at h⊢;generalize cC s.env c=v at *;cases v with
   |d y =>
    cases y with
    |b b =>
     simp only at h⊢;split at h
     .rename_i hw;rw[aN hw];exact akC h
     .rename_i hw;rw[aG hw];exact⟨.kN,rfl,λ_=>rfl⟩
    |_=>simp at h
   |kN=>exact⟨.kN,rfl,λ_=>rfl⟩
   |_=>simp at h
def J.Gb:J->List Nat
 | .sc _ _ _ body _=>J.kj body
 |_=>[]
def J.Jx:List J->List Nat
 | []=>[]
 |j::r=>J.Jx r++j.Gb
def A.slots:A->List Nat
 | .t n=>[n]
 | .k _=>[]
def uf(xs T:List Nat):Bool:=xs.all λx=>!T.contains x
def I.slots(i:I):List Nat:=i.reads.flatMap A.slots
mutual
def J.BU(top:Bool)(T S:List Nat):J->Bool
 | .op i=>uf i.slots T&&(top||(match i with | .st ..=>false |_=>true))
 | .sc _ d c body x=>!T.contains c&&!(J.kj body).contains c&&J.vq false T [] body&&uf x.slots (J.Jx body++T)&&(top||S.contains c)&&d != c
 | .re i=>top&&uf i.slots T&&i.quiet&&(match i.wr with |some d=>!T.contains d |none=>false)
def J.vq(top:Bool)(T S:List Nat):List J->Bool
 | []=>true
 |j::r=>J.BU top T S j&&J.vq top (j.Gb++T) (S++j.rR) r
end
structure Ag(T:List Nat)(s s':St):Prop where
 heap:s.heap=s'.heap
 ok:s'.ok=true
 env:∀t,t∉T->cC s.env t=cC s'.env t
 low:∀t,cC s.env t = .u\/cC s.env t=cC s'.env t
theorem Jy{xs T:List Nat}(h:uf xs T=true){x:Nat}(hx:x∈xs):x∉T:=by
 simp only[uf,zi]at h;simpa using h x hx
theorem Ag.get{T:List Nat}{s s':St}(h:Ag T s s'){x:A}(hx:uf x.slots T=true):s.get x=s'.get x:=by
 cases x with
 |k y=>rfl
 |t n=>exact h.env n (Jy hx (by simp[A.slots]))
theorem Ag.reads{T:List Nat}{s s':St}(h:Ag T s s'){i:I}(hi:uf i.slots T=true):∀x∈i.reads,s.get x=s'.get x:=by
 intro x hx;refine h.get ?_;simp only[uf,zi]at hi⊢;intro n hn;exact hi n (by simp only[I.slots];exact AR.2 ⟨x,hx,hn⟩)
theorem Ag.op{T:List Nat}{s s':St}(h:Ag T s s'){rec:Rec}{i:I}(hi:uf i.slots T=true)(hok:(aU rec i s).ok=true):Ag T (aU rec i s) (aU rec i s'):=by
 obtain⟨h1,v,h2,h3,h4⟩:=OG (rec:=rec) (h.reads hi) (.inl h.heap) hok h.ok;refine⟨?_,h1,λt ht=>?_,λt=>?_⟩
 .rcases h4 with h4 |h4
  .rw[h4.1,h4.2];exact h.heap
  .exact h4.2
 .rw[h2,h3]
  by_cases hw:t∈i.wr.toList
  .rw[Av hw,Av hw]
  .rw[Au hw,Au hw];exact h.env t ht
 .rw[h2,h3]
  by_cases hw:t∈i.wr.toList
  .rw[Av hw,Av hw];exact .inr rfl
  .rw[Au hw,Au hw];exact h.low t
def w9(g:Option (Nat×Bool))(s:St):Prop :=
 match g with
 |none=>True
 |some (c,want)=>cC s.env c = .d (.b want)
def xe(g:Option (Nat×Bool))(s:St):Prop :=
 match g with
 |none=>False
 |some (c,want)=>cC s.env c = .d (.b (!want))\/cC s.env c = .kN
theorem Vb{rec:Rec}{i:I}{g:Option (Nat×Bool)}{s:St}(h:w9 g s):jF rec ⟨i,g⟩ s=aU rec i s:=by
 unfold jF;cases g with
 |none=>rfl
 |some p =>
  obtain⟨c,want⟩:=p;simp only[w9]at h;simp[h]
theorem akD{rec:Rec}{i:I}{g:Option (Nat×Bool)}{s:St}(h:xe g s):jF rec ⟨i,g⟩ s=At i s:=by
 unfold jF;cases g with
 |none=>exact h.elim
 |some p =>
  obtain⟨c,want⟩:=p;simp only[xe]at h;rcases h with h |h<;>simp[h]
def Jz(g:Option (Nat×Bool))(ds:List Nat):Prop:=∀c want,g=some (c,want)->c∉ds
mutual
theorem akE{rec:Rec}:∀{j:J}{g:Option (Nat×Bool)}{s:St},(eX rec (j.flat g) s).ok=true->∀t,t∉j.rR->cC (eX rec (j.flat g) s).env t=cC s.env t
 | .op i,g,s,h,t,ht=>by
  simp only[J.flat,eX,J.rR]at *;obtain⟨v,he,_⟩:=OH h;rw[he,Au ht]
 | .re i,g,s,h,t,ht=>by simp[J.flat,eX]
 | .sc fM d c body x,g,s,h,t,ht=>by
  simp only[J.flat,yJ,J.rR,dD,nE]at *;have h1:=Jw h;simp only[eX]at h⊢;obtain⟨v,he,_⟩:=OH h;rw[he,Au (by simp[I.wr,I.dst];exact ht.1)]
  exact Vc h1 t ht.2
theorem Vc{rec:Rec}:∀{js:List J}{g:Option (Nat×Bool)}{s:St},(eX rec (J.iw g js) s).ok=true->∀t,t∉J.kj js->cC (eX rec (J.iw g js) s).env t=cC s.env t
 | [],g,s,h,t,ht=>by simp[J.iw,eX]
 |j::r,g,s,h,t,ht=>by
  simp only[J.iw,yJ,J.kj,dm,nE]at *;rw[Vc h t ht.2,akE (Jw h) t ht.1]
end
theorem w9.mono{g:Option (Nat×Bool)}{s s':St}(h:w9 g s)(he:∀c want,g=some (c,want)->cC s'.env c=cC s.env c):w9 g s':=by
 cases g with
 |none=>trivial
 |some p=>simp only[w9]at *;rw[he p.1 p.2 rfl];exact h
theorem xe.mono{g:Option (Nat×Bool)}{s s':St}(h:xe g s)(he:∀c want,g=some (c,want)->cC s'.env c=cC s.env c):xe g s':=by
 cases g with
 |none=>exact h
 |some p=>simp only[xe]at *;rw[he p.1 p.2 rfl];exact h
theorem akF{i:I}{s:St}(t:Nat):cC (At i s).env t=if t∈i.wr.toList then .kN else cC s.env t:=by
 simp only[At];split
 .rename_i h;exact Av h
 .rename_i h;exact Au h
structure akG(ds:List Nat)(s s':St):Prop where
 heap:s'.heap=s.heap
 ok:s'.ok=true
 env:∀t,cC s'.env t=if t∈ds then .kN else cC s.env t
mutual
theorem akH{rec:Rec}:∀{j:J}{T S:List Nat}{g:Option (Nat×Bool)}{s:St},J.BU false T S j=true->(∀t∈S,cC s.env t = .kN)->s.ok=true->Jz g j.rR->xe g s ->
  akG j.rR s (eX rec (j.flat g) s)
 | .op i,T,S,g,s,hf,hS,hok,hg,ho=>by
  simp only[J.flat,eX,J.rR];rw[akD ho];exact⟨rfl,hok,λt=>akF t⟩
 | .re i,T,S,g,s,hf,hS,hok,hg,ho=>by simp[J.BU]at hf
 | .sc fM d c body x,T,S,g,s,hf,hS,hok,hg,ho=>by
  simp only[J.BU,bD,Bool.false_or,iZ,XF,gf,kM,KD]at hf;obtain⟨⟨⟨⟨⟨h1,h2⟩,h3⟩,h4⟩,h5⟩,h6⟩:=hf;have hb:=Vd (rec:=rec) (g:=some (c,!fM)) (s:=s) h3 (by simp) hok (λc' w he=>by simp at he;rw[<-he.1];exact h2) (by simp only[xe];exact .inr (hS c h5))
  simp only[J.flat,yJ,J.rR];have ho':xe g (eX rec (J.iw (some (c,!fM)) body) s):=ho.mono λc' w he=>by
   have:=hg c' w he;simp only[J.rR,dD,nE]at this;rw[hb.env,aG this.2]
  simp only[eX];rw[akD ho'];refine⟨hb.heap,hb.ok,λt=>?_⟩
  rw[akF,hb.env];simp only[I.wr,I.dst,Option.mem_toList,gz,dD];by_cases mu:d=t
  .simp[mu]
  .have:¬t=d:=λe=>mu e.symm
   simp[mu,this]
theorem Vd{rec:Rec}:∀{js:List J}{T S:List Nat}{g:Option (Nat×Bool)}{s:St},J.vq false T S js=true->(∀t∈S,cC s.env t = .kN)->s.ok=true->Jz g (J.kj js)->xe g s ->
  akG (J.kj js) s (eX rec (J.iw g js) s)
 | [],T,S,g,s,hf,hS,hok,hg,ho=>by simp only[J.iw,eX,J.kj];exact⟨rfl,hok,λt=>by simp⟩
 |j::r,T,S,g,s,hf,hS,hok,hg,ho=>by
  simp only[J.vq,bD]at hf;have hj:=akH (rec:=rec) hf.1 hS hok (λc w he=>by have:=hg c w he;simp only[J.kj,dm,nE]at this;exact this.1) ho
  have hr:=Vd (rec:=rec) (g:=g) (s:=eX rec (j.flat g) s) hf.2 (λt ht=>by
    rw[hj.env];rcases dm.1 ht with h1 |h1
    .rw[hS t h1];simp
    .rw[aN h1]) hj.ok (λc w he=>by have:=hg c w he;simp only[J.kj,dm,nE]at this;exact this.2)
   (ho.mono λc w he=>by have:=hg c w he;simp only[J.kj,dm,nE]at this;rw[hj.env,aG this.1])
  simp only[J.iw,yJ,J.kj];refine⟨hr.heap.trans hj.heap,hr.ok,λt=>?_⟩
  rw[hr.env,hj.env];by_cases h1:t∈J.kj r<;>by_cases h2:t∈j.rR<;>simp[h1,h2]
end
mutual
theorem akI{rec:Rec}:∀{j:J}{top:Bool}{T S:List Nat}{g:Option (Nat×Bool)}{s s':St},J.BU top T S j=true->Ag T s s'->Jz g j.rR->w9 g s'->(jv rec j s).ok=true ->
  Ag (j.Gb++T) (jv rec j s) (eX rec (j.flat g) s')
 | .op i,top,T,S,g,s,s',hf,ha,hg,hact,hok=>by
  simp only[J.BU,bD]at hf;simp only[J.flat,eX,jv,J.Gb,mX]at *;rw[Vb hact];exact ha.op hf.1 hok
 | .re i,top,T,S,g,s,s',hf,ha,hg,hact,hok=>by
  simp only[J.flat,eX,jv,J.Gb,mX]at *;unfold again at *;split at hok
  .split at hok
   .rename_i h;rw[aN h];exact ha
   .simp at hok
  .simp at hok
 | .sc fM d c body x,top,T,S,g,s,s',hf,ha,hg,hact,hok=>by
  simp only[J.BU,bD,iZ,XF,gf,kM,KD]at hf;obtain⟨⟨⟨⟨⟨h1,h2⟩,h3⟩,h4⟩,h5⟩,h6⟩:=hf;have hc:s.get (.t c)=cC s'.env c:=ha.env c h1;have hgb:Jz (some (c,!fM)) (J.kj body):=λc' w he=>by simp at he;rw[<-he.1];exact h2
  simp only[J.flat,yJ,jv,J.Gb]at *;split at hok
  .rename_i gv JA
   rw[hc]at JA;split at hok
   ·
    rename_i heq;subst heq;rw[aN rfl];have hb:=Vd (rec:=rec) (g:=some (c,!gv)) (s:=s') h3 (by simp) ha.ok hgb (by simp only[xe];exact .inl (by simpa using JA))
    have Ve:w9 g (eX rec (J.iw (some (c,!gv)) body) s'):=hact.mono λc' w he=>by
     have:=hg c' w he;simp only[J.rR,dD,nE]at this;rw[hb.env,aG this.2]
    have wy:St.get (eX rec (J.iw (some (c,!gv)) body) s') (.t c) = .d (.b gv):=by
     show cC _ c=_
     rw[hb.env,aG h2,JA]
    simp only[eX];rw[Vb Ve];have hp:aU rec (.pick d (.t c) (if gv then .k (.b true)else x) (if gv then x else .k (.b false))) (eX rec (J.iw (some (c,!gv)) body) s') =
      (eX rec (J.iw (some (c,!gv)) body) s').put d (.d (.b gv)):=by
     simp only[aU,wy];cases gv<;>simp[St.get]
    rw[hp];refine⟨by rw[St.put];exact ha.heap.trans hb.heap.symm,hb.ok,λt ht=>?_,λt=>?_⟩
    .simp only[dm,nE]at ht
     simp only[St.put,cC];by_cases mu:d=t
     .simp[mu]
     .rw[aG mu,aG mu,Ga,aG ht.1,hb.env,aG ht.1]
      exact ha.env t ht.2
    .simp only[St.put,cC]
     by_cases mu:d=t
     .simp[mu]
     .rw[aG mu,aG mu,Ga,hb.env]
      by_cases hm:t∈J.kj body
      .rw[aN hm];exact .inl rfl
      .rw[aG hm,aG hm];exact ha.low t
   ·
    rename_i hne;rw[aG hne];have akJ:gv=!fM:=by cases gv<;>cases fM<;>simp_all
    subst akJ;split at hok
    .rename_i y hy
     have hb:=OI (rec:=rec) (g:=some (c,!fM)) (s:=s) (s':=s') h3 ha hgb (by simp only[w9];exact JA) hok
     have hw:=Vc (rec:=rec) hb.ok;have Ve:w9 g (eX rec (J.iw (some (c,!fM)) body) s'):=hact.mono λc' w he=>by
      have:=hg c' w he;simp only[J.rR,dD,nE]at this;rw[hw c' this.2]
     have wy:St.get (eX rec (J.iw (some (c,!fM)) body) s') (.t c) = .d (.b (!fM)):=by
      show cC _ c=_
      rw[hw c h2,JA]
     have fU:St.get (eX rec (J.iw (some (c,!fM)) body) s') x = .d (.b y):=by rw[<-hb.get h4];exact hy
     simp only[eX];rw[Vb Ve];have hp:aU rec (.pick d (.t c) (if fM then .k (.b true)else x) (if fM then x else .k (.b false))) (eX rec (J.iw (some (c,!fM)) body) s') =
       (eX rec (J.iw (some (c,!fM)) body) s').put d (.d (.b y)):=by
      have key:∀z:St,z.get (.t c) = .d (.b (!fM))->z.get x = .d (.b y)->aU rec (.pick d (.t c) (if fM then .k (.b true)else x) (if fM then x else .k (.b false))) z=z.put d (.d (.b y)):=by
       intro z h1 h2;simp only[aU,h1];cases fM<;>simp[h2]
      exact key _ wy fU
     rw[hp];refine⟨hb.heap,hb.ok,λt ht=>?_,λt=>?_⟩
     .simp only[dm,nE]at ht
      simp only[St.put,cC];by_cases mu:d=t
      .simp[mu]
      .rw[aG mu,aG mu,Ga,aG ht.1,hw t ht.1]
       exact ha.env t ht.2
     .simp only[St.put,cC]
      by_cases mu:d=t
      .simp[mu]
      .rw[aG mu,aG mu,Ga]
       by_cases hm:t∈J.kj body
       .rw[aN hm];exact .inl rfl
       .rw[aG hm,hw t hm];exact ha.low t
    .simp at hok
  .simp at hok
theorem OI{rec:Rec}:∀{js:List J}{top:Bool}{T S:List Nat}{g:Option (Nat×Bool)}{s s':St},J.vq top T S js=true->Ag T s s'->Jz g (J.kj js)->w9 g s'->(fX rec js s).ok=true ->
  Ag (J.Jx js++T) (fX rec js s) (eX rec (J.iw g js) s')
 | [],top,T,S,g,s,s',hf,ha,hg,hact,hok=>by simpa only[J.iw,eX,fX,J.Jx,mX]using ha
 |j::r,top,T,S,g,s,s',hf,ha,hg,hact,hok=>by
  simp only[J.vq,bD]at hf;simp only[fX]at hok;have hj:=akI (rec:=rec) hf.1 ha (λc w he=>by have:=hg c w he;simp only[J.kj,dm,nE]at this;exact this.1) hact (uI hok)
  have hr:=OI (rec:=rec) (g:=g) hf.2 hj (λc w he=>by have:=hg c w he;simp only[J.kj,dm,nE]at this;exact this.2)
   (hact.mono λc w he=>by have:=hg c w he;simp only[J.kj,dm,nE]at this;exact akE hj.ok c this.1) hok
  simp only[J.iw,yJ,fX,J.Jx,tw];exact hr
end
end Go.VS
namespace Go.VS
section
variable {P:Program}{φ:fD}
variable {nt m dB:Nat}{s:St}{g:Gh}{a:Act}{w:World}{K:Act->World->Prop}{Q:Exit->Act->World->Prop}{o:Oper}{ops:Array Oper}{r:Option Nat}{n:Nat}
theorem akK{i:I}(h:cO P φ nt o i=true):o.dst=i.dst/\∀d,i.dst=some d->d<nt:=by
 have key:∀{d:Nat}{b:Bool},(gr nt o d&&b)=true->o.dst=some d/\∀k,some d=some k->k<nt:=by
  intro d b h;simp only[bD]at h;obtain⟨h1,h2⟩:=BG h.1;exact⟨h1,λk hk=>by simp at hk;omega⟩
 have yK:∀{d:Option Nat}{b:Bool},(qt nt o d&&b)=true->o.dst=d/\∀k,d=some k->k<nt:=by
  intro d b h;simp only[bD]at h;exact DE h.1
 cases i with
 |st x y n fz =>
  simp only[cO]at h;split at h
  .simp only[bD,dO]at h
   exact⟨h.1.1.1.1.1,λd hd=>by simp[I.dst]at hd⟩
  .simp at h
 |call d f xs=>exact yK h
 |nG d x xs=>exact yK h
 |nF d f xs=>exact yK h
 |jo d f xs=>exact yK h
 |pZ d x xs=>exact yK h
 |inv d nm kg x xs=>exact yK h
 |p6 d x xs=>exact yK h
 |calls d f xs=>exact yK h
 |qI d x es z=>exact yK h
 |bad d=>simp only[cO]at h;exact DE h
 |copy d x y es=>exact yK h
 |fI m k v ks =>
  simp only[cO,bD,dO]at h;exact⟨h.1,λd hd=>by simp[I.dst]at hd⟩
 |_=>first |exact key h |simp[cO]at h
def Gc(ops:Array Oper)(o:Oper)(x:X):Bool :=
 match x.g,o.guard with
 |none,none=>true
 |some (c,want),some (j,w')=>want==w'&&((ops[j]?).bind (·.dst))==some c&&(match x.i with | .st ..=>false |_=>true)
 |_,_=>false
theorem akL(hs:cj φ nt m dB s g a w){i:I}(jx:i.wr=i.dst)(hd:o.dst=i.dst)(hlt:∀d,i.dst=some d->d<nt):cj φ nt m dB (At i s) g (a.put o.dst undef) w:=by
 rw[hd];unfold At;rw[jx];cases h:i.dst with
 |none=>exact hs
 |some d=>exact hs.wQ (hlt d h) (by simp[aK])
theorem akM(hs:cj φ nt m dB s g a w){x:X}{rec:Rec}(hg:Gc ops o x=true)(hd:o.dst=x.i.dst)(hlt:∀d,x.i.dst=some d->d<nt)(hok:(jF rec x s).ok=true)
  {X:Prop}(hop:(jF rec x s)=aU rec x.i s->(aU rec x.i s).ok=true->X)
  (DM:jF rec x s=At x.i s->cj φ nt m dB (At x.i s) g (a.put o.dst undef) w->K (a.put o.dst undef) w):
  if Region.wanted o (yielded ops a.tmps)then X else K (a.put o.dst undef) w:=by
 unfold Gc at hg;unfold jF at hok hop DM;split at hg
 .rename_i h1 h2
  simp only[h1]at hok hop;rw[aN (by simp[Region.wanted,h2])]
  exact hop trivial hok
 .rename_i c want j w' h1 h2
  simp only[bD,dO]at hg;obtain⟨⟨rfl,hj⟩,hk⟩:=hg;have jx:x.i.wr=x.i.dst:=by
   cases hi:x.i<;>simp_all[I.wr]
  simp only[h1]at hok hop DM;have hc:=hs.env c;have akN:Region.wanted o (yielded ops a.tmps)=(yielded ops a.tmps j==some want):=by simp[Region.wanted,h2]
  have akO:yielded ops a.tmps j=match a.tmps[c]? with |some (.bool b)=>some b |_=>none:=by simp only[yielded,hj,uB];rfl
  rw[akN,akO];cases hv:cC s.env c with
  |d y =>
   cases y with
   |b b =>
    rw[hv]at hc;have hb:=wR (by simpa only[aK]using hc)
    have hsome:a.tmps[c]?=some (.bool b):=by
     cases hq:a.tmps[c]? with
     |none=>simp[AS,hq,undef]at hb
     |some v=>simp[AS,hq]at hb;rw[hb]
    simp only[hsome];simp only[hv]at hok hop DM;by_cases Vf:b=want
    .subst Vf
     simp only[dH]at hok hop;simp only[KJ,dH];exact hop trivial hok
    .have:(some b==some want)=false:=by simpa using Vf
     simp only[this,fG,dK];simp only[Vf,dK]at DM;exact DM trivial (akL hs jx hd hlt)
   |_=>simp[hv]at hok
  |kN =>
   rw[hv]at hc;have hb:a.tmps.getD c undef=undef:=by simpa only[aK]using hc
   have hnone:(match a.tmps[c]? with |some (.bool b)=>some b |_=>none)=(none:Option Bool):=by
    cases hq:a.tmps[c]? with
    |none=>rfl
    |some v =>
     simp[AS,hq]at hb;rw[hb];rfl
   simp only[hnone];simp only[hv]at DM;exact DM trivial (akL hs jx hd hlt)
  |_=>simp[hv]at hok
 .simp at hg
def DN(P:Program)(φ:Nat->Nat)(nt:Nat)(ops:Array Oper):List Oper->List X->Bool
 | [],[]=>true
 |o::os,x::xs=>cO P φ nt o x.i&&Gc ops o x&&DN P φ nt ops os xs
 |_,_=>false
theorem akP{o:Oper}{rest:List Oper}(h:if Region.wanted o (yielded ops a.tmps)then o.wpIn (Wd r) n P a w (wpListIn (Wd r) n P ops Q rest) Q else wpListIn (Wd r) n P ops Q rest (a.put o.dst undef) w):wpListIn (Wd r) n P ops Q (o::rest) a w:=by
 unfold wpListIn;split
 .rename_i hw;rw[aN hw]at h;exact h
 .rename_i hw;rw[aG hw]at h;exact⟨λ_ _=>trivial,h⟩
theorem akQ{rec:Rec}(hq:mq P φ rec)(hy:ue P φ rec):∀{l:List Oper}{xs:List X}{s:St}{g:Gh}{a:Act}{w:World},DN P φ nt ops l xs=true->cj φ nt m dB s g a w->(eX rec xs s).ok=true ->
  (∀g' a' w',cj φ nt m dB (eX rec xs s) g' a' w'->Frame m s.heap g w (eX rec xs s).heap g' w'->Q .normal a' w')->wpListIn (Wd r) n P ops Q l a w
 | [],[],s,g,a,w,_,hs,_,hQ=>wpListIn_nil (hQ g a w hs (Frame.refl _ _ _ _))
 |o::l,x::xs,s,g,a,w,hc,hs,hok,hQ=>by
  simp only[DN,bD]at hc;obtain⟨⟨h1,h2⟩,h3⟩:=hc;simp only[eX]at hok hQ;have hd:=akK h1;have next:∀g' a' w',cj φ nt m dB (jF rec x s) g' a' w'->Frame m s.heap g w (jF rec x s).heap g' w'->wpListIn (Wd r) n P ops Q l a' w':=λg' a' w' hs' hf =>
   akQ hq hy h3 hs' hok λg2 a2 w2 xg wA=>hQ g2 a2 w2 xg (hf.trans wA)
  refine akP (akM hs h2 hd.1 hd.2 (Jw hok) (λhe vu=>akA hq hy hs h1 vu λg' v' w' hs' hf=>?_) (λhe hs'=>?_))
  .exact next g' _ w' (by rw[he];exact hs') (by rw[he];exact hf)
  .exact next g _ w (by rw[he];exact hs') (by rw[he];exact Frame.refl _ _ _ _)
 | [],_::_,_,_,_,_,hc,_,_,_=>by simp[DN]at hc
 |_::_,[],_,_,_,_,hc,_,_,_=>by simp[DN]at hc
theorem cj.low{s':St}(hs:cj φ nt m dB s' g a w){T:List Nat}(h:Ag T s s'):cj φ nt m dB s g a w where
 env k:=by
  rcases h.low k with h1 |h1
  .rw[h1];simp[aK]
  .rw[h1,h.heap];exact hs.env k
 heap:=by rw[h.heap];exact hs.heap
 size:=hs.size
 defers:=by rw[h.heap];exact hs.defers
 len:=by rw[h.heap];exact hs.len
theorem Ag.refl(h:s.ok=true):Ag [] s s:=⟨rfl,h,λ_ _=>rfl,λ_=>.inr rfl⟩
def Post(φ:fD)(nt m dB:Nat)(s:St)(g:Gh)(w:World)(s':St)(R:Act->World->Prop):Prop :=
 ∀g' a' w',cj φ nt m dB s' g' a' w'->Frame m s.heap g w s'.heap g' w'->R a' w'
theorem akR{rec:Rec}(hq:mq P φ rec)(hy:ue P φ rec){js:List J}(hs:cj φ nt m dB s g a w)(hf:J.vq true [] [] js=true)(hc:DN P φ nt ops ops.toList (J.iw none js)=true)
  (hok:(fX rec js s).ok=true){id:Nat}(hQ:Post φ nt m dB s g w (fX rec js s) (Q .normal)):(Code.region id ops false).wpIn (Wd r) n P Q a w:=by
 have lW:=OI (rec:=rec) (g:=none) hf (Ag.refl (uI hok)) (λ_ _ h=>by simp at h) trivial hok
 exact wpIn_region_list (akQ hq hy hc hs lW.ok λg' a' w' hs' hfr=>hQ g' a' w' (hs'.low lW) (by rw[lW.heap];exact hfr))
end
end Go.VS
namespace Go.VS
def akS(acc dp:List Nat):Nat:=dp.foldl (λm r=>m |||(2 ^ r |||acc.getD r 0)) 0
def Ge:List Nat->List (List Nat)->List Nat
 |acc,[]=>acc
 |acc,dp::r=>Ge (acc++[if dp.all (·<acc.length)then akS acc dp else 0]) r
def masks(ds:List (List Nat)):List Nat:=Ge [] ds
theorem akT{acc:List Nat}{q:Nat}:∀{dp:List Nat}{m:Nat},(dp.foldl (λm r=>m |||(2 ^ r |||acc.getD r 0)) m).testBit q=true->m.testBit q=true\/∃r∈dp,q=r\/(acc.getD r 0).testBit q=true
 | [],m,h=>.inl h
 |r::dp,m,h=>by
  rcases akT (dp:=dp) h with h |⟨r',h1,h2⟩
  .rw[Nat.testBit_or,Nat.testBit_or,Nat.testBit_two_pow]at h
   simp only[Cr,gf]at h;rcases h with h |h |h
   .exact .inl h
   .exact .inr ⟨r,by simp,.inl h.symm⟩
   .exact .inr ⟨r,by simp,.inr h⟩
  .exact .inr ⟨r',by simp[h1],h2⟩
def OJ(D:List (List Nat))(acc:List Nat):Prop :=
 ∀p q,p<acc.length->(acc.getD p 0).testBit q=true->∃r∈D.getD p [],r<p/\(q=r\/(acc.getD r 0).testBit q=true)
theorem Vg{α:Type}{l:List α}{x d:α}{p:Nat}(h:p<l.length):(l++[x]).getD p d=l.getD p d:=by
 simp[List.getD,th h]
theorem akU{α:Type}{l:List α}{x d:α}:(l++[x]).getD l.length d=x:=by
 simp[List.getD]
theorem akV{D:List (List Nat)}:∀{ds:List (List Nat)}{acc:List Nat},(∀k,ds[k]?=D[acc.length+k]?)->OJ D acc->OJ D (Ge acc ds)/\(Ge acc ds).length=acc.length+ds.length
 | [],acc,_,h=>⟨h,by simp[Ge]⟩
 |dp::ds,acc,hd,h=>by
  have h0:D.getD acc.length []=dp:=by have:=hd 0;simp at this;simp[List.getD,<-this]
  have key:OJ D (acc++[if dp.all (·<acc.length)then akS acc dp else 0]):=by
   intro p q hp hq;by_cases hlt:p<acc.length
   .rw[Vg hlt]at hq
    obtain⟨r,h1,h2,h3⟩:=h p q hlt hq;exact⟨r,h1,h2,by rw[Vg (by omega)];exact h3⟩
   .have iT:p=acc.length:=by simp at hp;omega
    subst iT;rw[akU]at hq;split at hq
    .rename_i hall
     rcases akT hq with h1 |⟨r,h1,h2⟩
     .simp at h1
     .have hr:r<acc.length:=by simpa using zi.1 hall r h1
      exact⟨r,by rw[h0];exact h1,hr,by rw[Vg hr];exact h2⟩
    .simp at hq
  have:=akV (ds:=ds) (λk=>by have:=hd (k+1);simp at this⊢;rw[this];congr 1;omega) key
  refine⟨this.1,?_⟩;rw[Ge,this.2];simp;omega
def k9(ms:List Nat)(p q:Nat):Bool:=(ms.getD q 0).testBit p
theorem akW(D:List (List Nat)):OJ D (masks D):=(akV (D:=D) (ds:=D) (acc:=[]) (by simp) (λp q hp=>by simp at hp)).1
theorem akX{D:List (List Nat)}{p q:Nat}(h:k9 (masks D) q p=true):∃r∈D.getD p [],r<p/\(q=r\/k9 (masks D) q r=true):=by
 by_cases hp:p<(masks D).length
 .exact akW D p q hp h
 .have:(masks D).getD p 0=0:=by simp[List.getD,oc (Nat.le_of_not_lt hp)]
  unfold k9 at h;rw[this]at h;simp at h
theorem OK{D:List (List Nat)}:∀{p q:Nat},k9 (masks D) q p=true->q<p:=by
 intro p;induction p using Nat.strongRecOn with
 |_ p ih =>
  intro q h;obtain⟨r,_,h2,h3⟩:=akX h;rcases h3 with h3 |h3
  .omega
  .have:=ih r h2 h3;omega
theorem akY{D:List (List Nat)}{E:List Nat}(hE:∀p∈E,∀r∈D.getD p [],r∈E):∀{p q:Nat},(∀r∈D.getD p [],r∈E)->k9 (masks D) q p=true->q∈E:=by
 intro p;induction p using Nat.strongRecOn with
 |_ p ih =>
  intro q hp h;obtain⟨r,h1,h2,h3⟩:=akX h;have hr:=hp r h1;rcases h3 with h3 |h3
  .rw[h3];exact hr
  .exact ih r h2 (hE r hr) h3
section
variable (wr:Nat->Option Nat)(val:Nat->V)(e0:List (Nat×V))
def xh(E:List Nat):List (Nat×V):=E.flatMap (λp=>W (wr p) (val p))++e0
variable {wr val e0}
theorem Vh{t:Nat}:∀{E:List Nat},(∀p∈E,wr p≠some t)->cC (xh wr val e0 E) t=cC e0 t
 | [],_=>rfl
 |p::E,h=>by
  have hp:t∉(wr p).toList:=by
   intro hm;cases hw:wr p with
   |none=>rw[hw]at hm;simp at hm
   |some d=>rw[hw]at hm;simp at hm;exact h p (by simp) (by rw[hw,hm])
  have:=Vh (E:=E) (λq hq=>h q (by simp[hq]))
  simp only[xh,Qu,tw]at this⊢;rw[Au hp];exact this
theorem OL{t p:Nat}(hp:wr p=some t):∀{E:List Nat},p∈E->(∀q∈E,wr q=some t->q=p)->cC (xh wr val e0 E) t=val p
 | [],h,_=>by simp at h
 |q::E,h,hu=>by
  simp only[xh,Qu,tw];by_cases hq:wr q=some t
  .have:q=p:=hu q (by simp) hq
   subst this;exact Av (by rw[hq];simp)
  .have kE:t∉(wr q).toList:=by
    intro hm;cases hw:wr q with
    |none=>rw[hw]at hm;simp at hm
    |some d=>rw[hw]at hm;simp at hm;exact hq (by rw[hw,hm])
   rw[Au kE];have JB:p∈E:=by
    rcases dD.1 h with h1 |h1
    .subst h1;exact absurd hp hq
    .exact h1
   exact OL hp JB (λq hq=>hu q (by simp[hq]))
theorem Vi{n t:Nat}{E E':List Nat}(hu:∀p q,p<n->q<n->wr p=some t->wr q=some t->p=q)(hE:∀p∈E,p<n)(hE':∀p∈E',p<n)
  (h:∀p,p<n->wr p=some t->(p∈E↔p∈E')):cC (xh wr val e0 E) t=cC (xh wr val e0 E') t:=by
 by_cases hex:∃p,p∈E/\wr p=some t
 .obtain⟨p,hp,hw⟩:=hex
  have iT:=(h p (hE p hp) hw).1 hp;rw[OL hw hp (λq hq JC=>hu q p (hE q hq) (hE p hp) JC hw),OL hw iT (λq hq JC=>hu q p (hE' q hq) (hE p hp) JC hw)]
 .rw[Vh (λp hp hw=>hex ⟨p,hp,hw⟩),Vh (λp hp hw=>hex ⟨p,(h p (hE' p hp) hw).2 hp,hw⟩)]
end
def nT(ef:Nat->Bool):List Nat->Nat
 | []=>0
 |p::E=>if ef p then max (p+1) (nT ef E)else nT ef E
theorem Vj{ef:Nat->Bool}{k:Nat}:∀{E:List Nat},(∀p∈E,ef p=true->p<k)->nT ef E<=k
 | [],_=>by simp[nT]
 |p::E,h=>by
  have:=Vj (E:=E) (λq hq=>h q (by simp[hq]))
  simp only[nT];split
  .rename_i hp;have:=h p (by simp) hp;omega
  .exact this
theorem JD{ef:Nat->Bool}{p:Nat}(he:ef p=true):∀{E:List Nat},p∈E->p+1<=nT ef E
 | [],h=>by simp at h
 |q::E,h=>by
  simp only[nT];rcases dD.1 h with h1 |h1
  .subst h1;rw[aN he];omega
  .have:=JD he h1
   split<;>omega
theorem akZ{ef:Nat->Bool}:∀(E:List Nat),nT ef E=0\/∃p∈E,ef p=true/\nT ef E=p+1
 | []=>.inl rfl
 |p::E=>by
  simp only[nT];have ih:=akZ (ef:=ef) E;split
  .rename_i hp
   rcases ih with h |⟨q,h1,h2,h3⟩
   .exact .inr ⟨p,by simp,hp,by omega⟩
   .by_cases hlt:q<=p
    .exact .inr ⟨p,by simp,hp,by omega⟩
    .exact .inr ⟨q,by simp[h1],h2,by omega⟩
  .rcases ih with h |⟨q,h1,h2,h3⟩
   .exact .inl h
   .exact .inr ⟨q,by simp[h1],h2,h3⟩
end Go.VS
namespace Go.VS
def X.slots(x:X):List Nat:=x.i.slots++(match x.g with |some (c,_)=>[c] |none=>[])
def jG(rec:Rec)(xs:List X)(s0:St)(p:Nat):St:=eX rec (xs.take p) s0
theorem Vk{rec:Rec}{xs:List X}{s0:St}{p:Nat}{x:X}(h:xs[p]?=some x):jG rec xs s0 (p+1)=jF rec x (jG rec xs s0 p):=by
 unfold jG;rw[List.take_add_one,h];simp[yJ,eX]
theorem ak0{rec:Rec}{xs:List X}{s0:St}:jG rec xs s0 xs.length=eX rec xs s0:=by simp[jG]
theorem Vl{rec:Rec}{xs:List X}{s0:St}(h:(eX rec xs s0).ok=true)(p:Nat):(jG rec xs s0 p).ok=true:=by
 have:eX rec xs s0=eX rec (xs.drop p) (eX rec (xs.take p) s0):=by rw[<-yJ,AO]
 rw[this]at h;exact Jw h
theorem Vm{rec:Rec}{x:X}{s s':St}(h:∀t∈x.slots,cC s.env t=cC s'.env t)(hh:s.heap=s'.heap\/x.i.blind=true):Alike x.i.quiet x.i.wr s s' (jF rec x s) (jF rec x s'):=by
 have hr:∀y∈x.i.reads,s.get y=s'.get y:=by
  intro y hy;cases y with
  |k z=>rfl
  |t n=>exact h n (by simp only[X.slots,I.slots];exact El _ (AR.2 ⟨_,hy,by simp[A.slots]⟩))
 cases x with
 |mk i g =>
  cases g with
  |none=>exact OG hr hh
  |some p =>
   obtain⟨c,want⟩:=p;have hc:=h c (by simp[X.slots])
   simp only[jF,<-hc];generalize cC s.env c=v;cases v with
   |d y =>
    cases y with
    |b b =>
     simp only;split
     .exact OG hr hh
     .intro h1 h2;exact⟨h2,.kN,rfl,rfl,.inl ⟨rfl,rfl⟩⟩
    |_=>exact Alike.fail
   |kN=>intro h1 h2;exact⟨h2,.kN,rfl,rfl,.inl ⟨rfl,rfl⟩⟩
   |_=>exact Alike.fail
def Vn(rec:Rec)(s:St)(i:I):Prop:=∃d,i.wr=some d/\(aU rec i s).ok=true/\cC (aU rec i s).env d=cC s.env d
section
variable {rec:Rec}{xs:List X}{s0:St}{D:List (List Nat)}{R:List (Nat×I)}
structure Gf(D:List (List Nat))(R:List (Nat×I))(n:Nat)(xs:List X)(p q:Nat)(x y:X):Prop where
 uniq:∀t,x.i.wr=some t->y.i.wr≠some t
 rw:k9 (masks D) p q=false->(∀t,x.i.wr=some t->t∉y.slots)/\(∀t,y.i.wr=some t->t∉x.slots)
 eff:k9 (masks D) p q=false->x.i.quiet=true\/y.i.quiet=true
 left:k9 (masks D) p q=false->x.i.quiet=false->y.i.blind=true
 right:k9 (masks D) p q=false->y.i.quiet=false->x.i.blind=true\/(x.g=none/\(q+1,x.i)∈R /\
  ∀r z t,xs[r]?=some z->z.i.wr=some t->t∈x.slots->k9 (masks D) r p=true\/q<r)
noncomputable def valOf (rec:Rec)(xs:List X)(s0:St)(p:Nat):V :=
 match xs[p]? with
 |some x=>match x.i.wr with
  |some d=>cC (jG rec xs s0 (p+1)).env d
  |none=>.u
 |none=>.u
def rC(xs:List X)(p:Nat):Option Nat:=(xs[p]?).bind (·.i.wr)
def nU(xs:List X)(p:Nat):Bool:=((xs[p]?).map (!·.i.quiet)).getD false
noncomputable def sigma (rec:Rec)(xs:List X)(s0:St)(E:List Nat):St:=⟨xh (rC xs) (valOf rec xs s0) s0.env E,(jG rec xs s0 (nT (nU xs) E)).heap,true⟩
theorem ak1{d:Option Nat}{v v':V}(h:∀t,d=some t->v=v'):W d v=W d v':=by
 cases d with
 |none=>rfl
 |some t=>rw[h t rfl]
theorem JE(hok:(eX rec xs s0).ok=true):∀p,p<=xs.length->(jG rec xs s0 p).env=xh (rC xs) (valOf rec xs s0) s0.env (List.range p).reverse
 | 0,_=>by simp[jG,eX,xh]
 |p+1,hp=>by
  have hx:xs[p]?=some xs[p]:=by simp
  have h1:=Vk (rec:=rec) (s0:=s0) hx;have vu:=Vl hok (p+1);rw[h1]at vu;obtain⟨v,hv,_⟩:=OH vu;have hw:rC xs p=xs[p].i.wr:=by simp only[rC,hx,uB]
  have hval:∀t,xs[p].i.wr=some t->v=valOf rec xs s0 p:=by
   intro t ht;simp only[valOf,hx,ht,h1,hv];rw[Av (by simp)]
  rw[h1,hv,JE hok p (by omega),bA,List.reverse_append]
  simp only[xh,List.reverse_singleton,List.flatMap_append,Qu,List.flatMap_nil,qG,tw,hw];rw[ak1 hval]
theorem OM(hok:(eX rec xs s0).ok=true){p:Nat}:∀{q:Nat},p<=q->q<=xs.length->(∀r,p<=r->r<q->nU xs r=false)->(jG rec xs s0 q).heap=(jG rec xs s0 p).heap:=by
 intro q hpq;induction hpq with
 |refl=>intro _ _;rfl
 |step h ih =>
  rename_i k;intro hk hq;have hx:xs[k]?=some xs[k]:=by simp
  have h1:=Vk (rec:=rec) (s0:=s0) hx;have vu:=Vl hok (k+1);rw[h1]at vu;obtain⟨v,_,hh⟩:=OH vu;have iu:xs[k].i.quiet=true:=by
   have:=hq k h (Nat.lt_succ_self k);simpa only[nU,hx,tA,vQ,Qf]using this
  rw[h1,hh iu];exact ih (by omega) (λr h1 h2=>hq r h1 (by omega))
theorem find(hok:(eX rec xs s0).ok=true)(sy:∀p q x y,p<q->xs[p]?=some x->xs[q]?=some y->Gf D R xs.length xs p q x y)
  (hR:∀k i,(k,i)∈R->Vn rec (jG rec xs s0 k) i)
  {E:List Nat}(hE:∀p∈E,p<xs.length)(hclosed:∀p∈E,∀r∈D.getD p [],r∈E){j:Nat}{x:X}(hx:xs[j]?=some x)(hj:j∉E)(ON:∀r∈D.getD j [],r∈E):
  jF rec x (sigma rec xs s0 E)=sigma rec xs s0 (j::E):=by
 have ak2:j<xs.length:=by
  rcases lG j xs.length with h |h
  .exact h
  .simp[oc h]at hx
 have aV:∀(p:Nat)(hp:p<xs.length),xs[p]?=some xs[p]:=λp hp=>by simp[hp]
 have before:∀p,k9 (masks D) p j=true->p∈E:=λp h=>akY hclosed ON h
 have after:∀p,k9 (masks D) j p=true->p∉E:=λp h hp=>hj (akY hclosed (hclosed p hp) h)
 have Vo:∀t p q,p<xs.length->q<xs.length->rC xs p=some t->rC xs q=some t->p=q:=by
  intro t p q hp hq h1 h2;simp only[rC,aV p hp,aV q hq,uB]at h1 h2;rcases tr p q with h |h |h
  .exact absurd h2 ((sy p q _ _ h (aV p hp) (aV q hq)).uniq t h1)
  .exact h
  .exact absurd h1 ((sy q p _ _ h (aV q hq) (aV p hp)).uniq t h2)
 have ak3:∀t,t∈x.slots->∀p,p<xs.length->p≠j->rC xs p=some t->k9 (masks D) p j=true\/k9 (masks D) j p=true:=by
  intro t ht p hp DO hw;simp only[rC,aV p hp,uB]at hw;rcases tr p j with h |h |h
  .cases hb:k9 (masks D) p j
   .exact absurd ht (((sy p j _ _ h (aV p hp) hx).rw hb).1 t hw)
   .exact .inl rfl
  .exact absurd h DO
  .cases hb:k9 (masks D) j p
   .exact absurd ht (((sy j p _ _ h hx (aV p hp)).rw hb).2 t hw)
   .exact .inr rfl
 have DP:∀{p k:Nat},p∈(List.range k).reverse↔p<k:=by simp
 have Vp:∀k,k<=xs.length->∀p∈(List.range k).reverse,p<xs.length:=λk hk p hp=>by have:=DP.1 hp;omega
 have ak4:∀t,t∈x.slots->cC (jG rec xs s0 j).env t=cC (sigma rec xs s0 E).env t:=by
  intro t ht;rw[JE hok j (by omega)]
  refine Vi (n:=xs.length) (λp q hp hq h1 h2=>Vo t p q hp hq h1 h2) (Vp j (by omega)) hE λp hp hw=>?_
  by_cases DO:p=j
  .subst DO;exact⟨λh=>absurd (DP.1 h) (by omega),λh=>absurd h hj⟩
  .rcases ak3 t ht p hp DO hw with h |h
   .exact⟨λ_=>before p h,λ_=>DP.2 (OK h)⟩
   .have:=OK h
    exact⟨λh1=>absurd (DP.1 h1) (by omega),λh1=>absurd h1 (after p h)⟩
 have hstep:=Vk (rec:=rec) (s0:=s0) hx;have Aw:=Vl hok (j+1);rw[hstep]at Aw;have Vq:rC xs j=x.i.wr:=by simp[rC,hx]
 have hej:nU xs j=!x.i.quiet:=by simp[nU,hx]
 have finish:∀{r:St}{v:V},r.ok=true->r.env=W x.i.wr v++(sigma rec xs s0 E).env->(∀t,x.i.wr=some t->v=valOf rec xs s0 j)->r.heap=(jG rec xs s0 (nT (nU xs) (j::E))).heap->r=sigma rec xs s0 (j::E):=by
  intro r v h1 h2 h3 h4;cases r with
  |mk e h o =>
   simp only at h1 h2 h4;subst h1;simp only[sigma,St.mk.injEq,xP];refine⟨?_,h4⟩;rw[h2,ak1 h3];simp[sigma,xh,Vq]
 have ak5:∀{v:V},(jF rec x (jG rec xs s0 j)).env=W x.i.wr v++(jG rec xs s0 j).env->∀t,x.i.wr=some t->v=valOf rec xs s0 j:=by
  intro v hv t ht;simp only[valOf,hx,ht,hstep,hv];rw[Av (by simp)]
 by_cases hq:x.i.quiet=true
 ·
  have OO:nT (nU xs) (j::E)=nT (nU xs) E:=by simp[nT,hej,hq]
  have direct:((jG rec xs s0 j).heap=(sigma rec xs s0 E).heap\/x.i.blind=true)->jF rec x (sigma rec xs s0 E)=sigma rec xs s0 (j::E):=by
   intro hh;obtain⟨h1,v,h2,h3,h4⟩:=Vm (rec:=rec) ak4 hh Aw rfl;refine finish h1 h3 (ak5 h2) ?_;rcases h4 with h4 |h4
   .rw[h4.2,OO];rfl
   .rw[hq]at h4;simp at h4
  by_cases hb:x.i.blind=true
  .exact direct (.inr hb)
  .rcases akZ (ef:=nU xs) E with h0 |⟨k,hk,hek,gV⟩
   ·
    refine direct (.inl ?_);simp only[sigma,h0];refine OM hok (Cq _) (by omega) λr _ hr=>?_
    cases vw:nU xs r with
    |false=>rfl
    |true =>
     exfalso;have hr':r<xs.length:=by omega
     have Gg:xs[r].i.quiet=false:=by simpa only[nU,aV r hr',tA,vQ,iZ]using vw
     cases xj:k9 (masks D) r j with
     |true=>have:=JD vw (before r xj);omega
     |false=>exact hb ((sy r j _ _ hr (aV r hr') hx).left xj Gg)
   .by_cases hkj:k<j
    .refine direct (.inl ?_)
     simp only[sigma,gV];refine OM hok (by omega) (by omega) λr jX lX=>?_
     cases vw:nU xs r with
     |false=>rfl
     |true =>
      exfalso;have hr':r<xs.length:=by omega
      have Gg:xs[r].i.quiet=false:=by simpa only[nU,aV r hr',tA,vQ,iZ]using vw
      cases xj:k9 (masks D) r j with
      |true=>have:=JD vw (before r xj);omega
      |false=>exact hb ((sy r j _ _ lX (aV r hr') hx).left xj Gg)
    .have hjk:j<k:=by
      have:k≠j:=λh=>hj (h▸hk)
      omega
     have ak6:=hE k hk;have hqk:xs[k].i.quiet=false:=by simpa only[nU,aV k ak6,tA,vQ,iZ]using hek
     have hnb:k9 (masks D) j k=false:=by
      cases BP:k9 (masks D) j k with
      |false=>rfl
      |true=>exact absurd hk (after k BP)
     rcases(sy j k _ _ hjk hx (aV k ak6)).right hnb hqk with h |⟨hg,hin,ak7⟩
     .exact absurd h hb
     .obtain⟨d,hd,vu,hsame⟩:=hR _ _ hin
      have hxi:∀s,jF rec x s=aU rec x.i s:=λs=>by simp[jF,hg]
      have ak8:∀t,t∈x.slots->cC (jG rec xs s0 (k+1)).env t=cC (sigma rec xs s0 E).env t:=by
       intro t ht;rw[JE hok (k+1) (by omega)]
       refine Vi (n:=xs.length) (λp q hp hq h1 h2=>Vo t p q hp hq h1 h2) (Vp (k+1) (by omega)) hE λp hp hw=>?_
       have hw':xs[p].i.wr=some t:=by simpa only[rC,aV p hp,uB]using hw
       rcases ak7 p _ t (aV p hp) hw' ht with h |h
       .have:=OK h
        exact⟨λ_=>before p h,λ_=>DP.2 (by omega)⟩
       .refine⟨λh1=>absurd (DP.1 h1) (by omega),λh1=>?_⟩
        rcases ak3 t ht p hp (by omega) hw with h2 |h2
        .have:=OK h2;omega
        .exact absurd h1 (after p h2)
      have xk:(jG rec xs s0 (k+1)).heap=(sigma rec xs s0 E).heap:=by simp only[sigma,gV]
      rw[<-hxi]at vu;obtain⟨h1,v,h2,h3,h4⟩:=Vm (rec:=rec) ak8 (.inl xk) vu rfl;refine finish h1 h3 (λt ht=>?_) ?_
      .rw[hd]at ht
       have:d=t:=by simpa using ht
       subst this;rw[<-hxi,h2,Av (by rw[hd];simp),JE hok (k+1) (by omega)]at hsame
       rw[hsame,OL (wr:=rC xs) (p:=j) (by rw[Vq,hd]) (DP.2 (by omega)) (λq hq JC=>Vo d q j (Vp (k+1) (by omega) q hq) ak2 JC (by rw[Vq,hd]))]
      .rcases h4 with h4 |h4
       .rw[h4.2,OO];rfl
       .rw[hq]at h4;simp at h4
 ·
  have kE:x.i.quiet=false:=by simpa using hq
  have ak9:∀r,nU xs r=true->r≠j->r<xs.length->(r∈E↔r<j):=by
   intro r vw hrj hr';have Gg:xs[r].i.quiet=false:=by simpa only[nU,aV r hr',tA,vQ,iZ]using vw
   rcases tr r j with h |h |h
   .refine⟨λ_=>h,λ_=>?_⟩
    cases xj:k9 (masks D) r j with
    |true=>exact before r xj
    |false =>
     rcases(sy r j _ _ h (aV r hr') hx).eff xj with h1 |h1
     .rw[Gg]at h1;simp at h1
     .rw[kE]at h1;simp at h1
   .exact absurd h hrj
   .refine⟨λhm=>?_,λhlt=>by omega⟩
    cases xj:k9 (masks D) j r with
    |true=>exact absurd hm (after r xj)
    |false =>
     rcases(sy j r _ _ h hx (aV r hr')).eff xj with h1 |h1
     .rw[kE]at h1;simp at h1
     .rw[Gg]at h1;simp at h1
  have OO:nT (nU xs) E<=j:=Vj λp hp hep=>(ak9 p hep (λh=>hj (h▸hp)) (hE p hp)).1 hp
  have xk:(jG rec xs s0 j).heap=(sigma rec xs s0 E).heap:=by
   simp only[sigma];refine OM hok OO (by omega) λr jX lX=>?_
   cases vw:nU xs r with
   |false=>rfl
   |true =>
    exfalso;have:=JD vw ((ak9 r vw (by omega) (by omega)).2 lX)
    omega
  obtain⟨h1,v,h2,h3,h4⟩:=Vm (rec:=rec) ak4 (.inl xk) Aw rfl;refine finish h1 h3 (ak5 h2) ?_;have ala:nT (nU xs) (j::E)=j+1:=by simp only[nT,hej,kE];simp;omega
  rw[ala,hstep];rcases h4 with h4 |h4
  .rw[h4.1,h4.2];exact xk.symm
  .exact h4.2.symm
end
end Go.VS
namespace Go.VS
def J.Gi:List J->List (Nat×I)
 | []=>[]
 |j::r=>(match j with | .re i=>[(0,i)] |_=>[])++(J.Gi r).map λp=>((j.flat none).length+p.1,p.2)
theorem alb{rec:Rec}:∀{js:List J}{T S:List Nat}{s s':St},J.vq true T S js=true->Ag T s s'->(fX rec js s).ok=true->∀k i,(k,i)∈J.Gi js->Vn rec (jG rec (J.iw none js) s' k) i
 | [],_,_,_,_,_,_,_,_,_,h=>by simp[J.Gi]at h
 |j::r,T,S,s,s',hf,ha,hok,k,i,hin=>by
  simp only[J.vq,bD]at hf;simp only[fX]at hok;simp only[J.Gi,dm,gY]at hin;rcases hin with hin |⟨⟨k',i'⟩,hin,heq⟩
  .cases j with
   |re i' =>
    simp at hin;obtain⟨rfl,rfl⟩:=hin;have hj:=hf.1;simp only[J.BU,bD,xI]at hj;obtain⟨⟨h1,h2⟩,h3⟩:=hj;have Aw:=uI hok;simp only[jv,again]at Aw;have hwd:i.wr=i.dst:=by cases i<;>first |rfl |simp[I.quiet]at h2
    cases hd:i.dst with
    |none=>simp[hd]at Aw
    |some d =>
     simp only[hd]at Aw;split at Aw
     .rename_i hc
      simp only[bD]at hc;have lW:=ha.op (rec:=rec) h1 hc.1;rw[hwd,hd]at h3;have hdT:d∉T:=by simpa using h3
      refine⟨d,by rw[hwd,hd],lW.ok,?_⟩
      have e1:=V.uH hc.2;rw[lW.env d hdT,ha.env d hdT]at e1;simpa[jG,eX]using e1
     .simp at Aw
   |op _=>simp at hin
   |sc _ _ _ _ _=>simp at hin
  .simp only[uC]at heq
   obtain⟨rfl,rfl⟩:=heq;have hj:=akI (rec:=rec) (g:=none) hf.1 ha (λ_ _ h=>by simp at h) trivial (uI hok)
   have ih:=alb hf.2 hj hok k' i' hin
   have:jG rec (J.iw none (j::r)) s' ((j.flat none).length+k')=jG rec (J.iw none r) (eX rec (j.flat none) s') k':=by
    simp only[jG,J.iw,List.take_length_add_append,yJ]
   rw[this];exact ih
def A.same:A->A->Bool
 | .t n,.t m=>n==m
 | .k (.i q n),.k (.i q' n')=>q==q'&&n==n'
 |_,_=>false
theorem A.uH{a b:A}(h:A.same a b=true):a=b:=by
 unfold A.same at h;split at h
 .simp at h;rw[h]
 .simp at h;rw[h.1,h.2]
 .simp at h
def A.OP:Option A->Option A->Bool
 |none,none=>true
 |some a,some b=>A.same a b
 |_,_=>false
theorem A.alc{a b:Option A}(h:A.OP a b=true):a=b:=by
 unfold A.OP at h;split at h
 .rfl
 .rw[A.uH h]
 .simp at h
def I.same:I->I->Bool
 | .sl d x l h es,.sl d' x' l' h' es'=>d==d'&&A.same x x'&&A.OP l l'&&A.OP h h'&&es==es'
 | .ld d x n ag,.ld d' x' n' ag'=>d==d'&&A.same x x'&&n==n'&&ag==ag'
 | .fa d x n k,.fa d' x' n' k'=>d==d'&&A.same x x'&&n==n'&&k==k'
 | .jm d x n k,.jm d' x' n' k'=>d==d'&&A.same x x'&&A.same n n'&&k==k'
 | .len d x k,.len d' x' k'=>d==d'&&A.same x x'&&k==k'
 | .qH d n x k,.qH d' n' x' k'=>d==d'&&n==n'&&A.same x x'&&k==k'
 |_,_=>false
theorem I.uH{a b:I}(h:I.same a b=true):a=b:=by
 unfold I.same at h;split at h
 .simp only[bD,dO]at h;obtain⟨⟨⟨⟨rfl,h2⟩,h3⟩,h4⟩,rfl⟩:=h;rw[A.uH h2,A.alc h3,A.alc h4]
 .simp only[bD,dO]at h;obtain⟨⟨⟨rfl,h2⟩,rfl⟩,rfl⟩:=h;rw[A.uH h2]
 .simp only[bD,dO]at h;obtain⟨⟨⟨rfl,h2⟩,rfl⟩,rfl⟩:=h;rw[A.uH h2]
 .simp only[bD,dO]at h;obtain⟨⟨⟨rfl,h2⟩,h3⟩,rfl⟩:=h;rw[A.uH h2,A.uH h3]
 .simp only[bD,dO]at h;obtain⟨⟨rfl,h2⟩,rfl⟩:=h;rw[A.uH h2]
 .simp only[bD,dO]at h;obtain⟨⟨⟨rfl,rfl⟩,h2⟩,rfl⟩:=h;rw[A.uH h2]
 .simp at h
def OQ(ms:List Nat)(p q:Nat)(x:X):Nat->List X->Bool
 |_,[]=>true
 |r,z::zs=>(uf z.i.wr.toList x.slots||k9 ms r p||decide (q<r))&&OQ ms p q x (r+1) zs
def Vr(ms:List Nat)(R:List (Nat×I))(xs:List X)(p q:Nat)(x y:X):Bool :=
 uf x.i.wr.toList y.i.wr.toList &&
 (k9 ms p q ||
  (uf x.i.wr.toList y.slots&&uf y.i.wr.toList x.slots&&(x.i.quiet||(y.i.quiet&&y.i.blind)) &&
   (y.i.quiet||x.i.blind||(x.g.isNone&&R.any (λr=>r.1==q+1&&I.same r.2 x.i)&&OQ ms p q x 0 xs))))
def OR(ms:List Nat)(R:List (Nat×I))(xs:List X)(p:Nat)(x:X):Nat->List X->Bool
 |_,[]=>true
 |q,y::ys=>Vr ms R xs p q x y&&OR ms R xs p x (q+1) ys
def OS(ms:List Nat)(R:List (Nat×I))(xs:List X):Nat->List X->Bool
 |_,[]=>true
 |p,x::r=>OR ms R xs p x (p+1) r&&OS ms R xs (p+1) r
theorem ald{ms:List Nat}{p q:Nat}{x:X}:∀{zs:List X}{r:Nat},OQ ms p q x r zs=true->∀k z t,zs[k]?=some z->z.i.wr=some t->t∈x.slots->k9 ms (r+k) p=true\/q<r+k
 | [],_,_,_,_,_,h,_,_=>by simp at h
 |z::zs,r,h,k,z',t,hz,hw,ht=>by
  simp only[OQ,bD,Cr,gf]at h;cases k with
  |zero =>
   simp at hz;subst hz;rcases h.1 with(h1 |h1) |h1
   .exact absurd ht (Jy h1 (by rw[hw];simp))
   .exact .inl h1
   .exact .inr h1
  |succ k =>
   have:=ald h.2 k z' t (by simpa using hz) hw ht
   rwa [qF,rL 1 k]at this
theorem ale{D:List (List Nat)}{R:List (Nat×I)}{xs:List X}{p q:Nat}{x y:X}(h:Vr (masks D) R xs p q x y=true):Gf D R xs.length xs p q x y:=by
 simp only[Vr,bD,Cr]at h;obtain⟨h0,h⟩:=h;refine⟨λt hx hy=>absurd (show t∈y.i.wr.toList by rw[hy];simp) (Jy h0 (by rw[hx];simp)),λhb=>?_,λhb=>?_,λhb=>?_,λhb=>?_⟩ <;>
  rw[hb]at h<;>simp only[fG,false_or]at h<;>obtain⟨⟨⟨h1,h2⟩,h3⟩,h4⟩:=h
 .exact⟨λt hx=>Jy h1 (by rw[hx];simp),λt hy=>Jy h2 (by rw[hy];simp)⟩
 .exact h3.imp id (·.1)
 .intro hx
  rcases h3 with h3 |h3
  .rw[hx]at h3;simp at h3
  .exact h3.2
 .intro hy
  rcases h4 with(h4 |h4) |h4
  .rw[hy]at h4;simp at h4
  .exact .inl h4
  .refine .inr ⟨by simpa using h4.1.1,?_,λr z t hz hw ht=>by simpa using ald h4.2 r z t hz hw ht⟩
   have:=h4.1.2;simp only[qC,bD,dO]at this;obtain⟨⟨k,i⟩,hin,hk,hi⟩:=this;simp only at hk hi;rw[<-I.uH hi,<-hk];exact hin
theorem alf{D:List (List Nat)}{R:List (Nat×I)}{xs:List X}{p:Nat}{x:X}:∀{ys:List X}{q:Nat},OR (masks D) R xs p x q ys=true->∀k y,ys[k]?=some y->Gf D R xs.length xs p (q+k) x y
 | [],_,_,_,_,h=>by simp at h
 |y::ys,q,h,k,y',hy=>by
  simp only[OR,bD]at h;cases k with
  |zero=>simp at hy;subst hy;exact ale h.1
  |succ k =>
   have:=alf h.2 k y' (by simpa using hy)
   rwa [qF,rL 1 k]at this
theorem alg{D:List (List Nat)}{R:List (Nat×I)}{xs:List X}:∀{ys:List X}{p:Nat},OS (masks D) R xs p ys=true->∀i j x y,i<j->ys[i]?=some x->ys[j]?=some y->Gf D R xs.length xs (p+i) (p+j) x y
 | [],_,_,_,_,_,_,_,h,_=>by simp at h
 |z::ys,p,h,i,j,x,y,hij,hx,hy=>by
  simp only[OS,bD]at h;cases j with
  |zero=>omega
  |succ j =>
   cases i with
   |zero =>
    simp at hx;subst hx;have:=alf h.1 j y (by simpa using hy)
    rwa [qF,rL 1 j]at this
   |succ i =>
    have:=alg h.2 i j x y (by omega) (by simpa using hx) (by simpa using hy)
    rwa [qF,rL 1 i,qF,rL 1 j]at this
section
variable (P:Program)(φ:Nat->Nat)(nt:Nat)
def DQ(ops:Array Oper)(perm:List Nat)(i:Nat):List Nat :=
 match ops[i]? with
 |some o=>(o.after.toList.filter λe=>Region.binds .any e).map λe=>perm.idxOf e.on
 |none=>[]
def Gj(ops:Array Oper)(perm:List Nat):Nat->List Nat->List X->Bool
 |_,[],[]=>true
 |p,i::is,x::xs=>(match ops[i]? with |some o=>cO P φ nt o x.i&&Gc ops o x&&o.after.all (λe=>decide (e.on<ops.size)) |none=>false)&&(DQ ops perm i).all (·<p)&&Gj ops perm (p+1) is xs
 |_,_,_=>false
def OT(ops:Array Oper)(perm:List Nat)(js:List J):Bool :=
 J.vq true [] [] js&&perm.length==ops.size&&decide perm.Nodup&&(List.range ops.size).all (perm.contains ·)&&Gj P φ nt ops perm 0 perm (J.iw none js) &&
  OS (masks (perm.map (DQ ops perm))) (J.Gi js) (J.iw none js) 0 (J.iw none js)
variable {P φ nt}
theorem alh{ops:Array Oper}{perm:List Nat}:∀{is:List Nat}{xs:List X}{p:Nat},Gj P φ nt ops perm p is xs=true->is.length=xs.length /\
  ∀k i x,is[k]?=some i->xs[k]?=some x->(∃o,ops[i]?=some o/\cO P φ nt o x.i=true/\Gc ops o x=true/\∀e∈o.after,e.on<ops.size)/\∀r∈DQ ops perm i,r<p+k
 | [],[],p,_=>⟨rfl,λk i x h=>by simp at h⟩
 |i::is,x::xs,p,h=>by
  simp only[Gj,bD]at h;obtain⟨⟨h1,h2⟩,h3⟩:=h;obtain⟨hl,ih⟩:=alh h3;refine⟨by simp[hl],λk i' x' hi hx=>?_⟩
  cases k with
  |zero =>
   simp at hi hx;subst hi;subst hx;refine⟨?_,by simpa using h2⟩
   split at h1
   .rename_i o ho
    simp only[bD,Array.all_eq_true_iff_forall_mem,gf]at h1;exact⟨o,ho,h1.1.1,h1.1.2,h1.2⟩
   .simp at h1
  |succ k =>
   have:=ih k i' x' (by simpa using hi) (by simpa using hx)
   rwa [qF,rL 1 k]at this
 | [],_::_,_,h=>by simp[Gj]at h
 |_::_,[],_,h=>by simp[Gj]at h
end
end Go.VS
namespace Go.VS
section
variable {P:Program}{φ:fD}
variable {nt m dB:Nat}{s:St}{g:Gh}{a:Act}{w:World}{K:Act->World->Prop}{Q:Exit->Act->World->Prop}{o:Oper}{ops:Array Oper}{r:Option Nat}{n:Nat}
theorem cj.congr{s':St}(hs:cj φ nt m dB s' g a w)(he:∀t,cC s.env t=cC s'.env t)(hh:s.heap=s'.heap):cj φ nt m dB s g a w where
 env k:=by rw[he,hh];exact hs.env k
 heap:=by rw[hh];exact hs.heap
 size:=hs.size
 defers:=by rw[hh];exact hs.defers
 len:=by rw[hh];exact hs.len
theorem cj.forget(hs:cj φ nt m dB s g a w)(fl:List Nat)(ok:Bool):cj φ nt m dB ⟨p7 fl s.env,s.heap,ok⟩ g a w where
 env k:=by
  simp only[Ga];split
  .simp[aK]
  .exact hs.env k
 heap:=hs.heap
 size:=hs.size
 defers:=hs.defers
 len:=hs.len
theorem cj.drew(hs:cj φ nt m dB s g a w):cj φ nt m dB s g a w.drew/\Frame m s.heap g w s.heap g w.drew:=by
 have hg:=gO.drew w;refine⟨?_,?_⟩
 .have:=hs.N8 (I':=g.I) hg (λ_ _=>rfl) (λb hb=>hs.heap.new b hb)
  exact this
 .exact Dv m hs.heap hg (λ_ _=>rfl)
structure ali(P:Program)(φ:fD)(nt:Nat)(ops:Array Oper)(perm:List Nat)(xs:List X):Prop where
 len:perm.length=ops.size
 nodup:perm.Nodup
 has:∀i,i<ops.size->i∈perm
 Vs:perm.length=xs.length
 place:∀k i x,perm[k]?=some i->xs[k]?=some x->(∃o,ops[i]?=some o/\cO P φ nt o x.i=true/\Gc ops o x=true/\∀e∈o.after,e.on<ops.size)/\∀r∈DQ ops perm i,r<k
def Gk(ops:Array Oper)(perm:List Nat):List (List Nat):=perm.map (DQ ops perm)
theorem alj{perm:List Nat}{p i:Nat}(h:perm[p]?=some i):(Gk ops perm).getD p []=DQ ops perm i:=by
 simp[Gk,List.getD,h]
structure OU(φ:fD)(nt m dB:Nat)(ops:Array Oper)(perm:List Nat)(rec:Rec)(xs:List X)(s0:St)(g0:Gh)(w0:World)(fuel:Nat)(listed:Array Bool)(a:Act)(w:World)(E Rm:List Nat)(g:Gh):Prop where
 size:listed.size=ops.size
 nr:∀p i,perm[p]?=some i->(p∈E↔listed.getD i false=true)
 lt:∀p∈E,p<xs.length
 closed:∀p∈E,∀r∈(Gk ops perm).getD p [],r∈E
 rest:∀p,p<xs.length->p∉E->p∈Rm
 fuel:Rm.length<=fuel
 rel:cj φ nt m dB (sigma rec xs s0 E) g a w
 frame:Frame m s0.heap g0 w0 (sigma rec xs s0 E).heap g w
theorem OV{perm:List Nat}(h:perm.Nodup){p i:Nat}(hp:perm[p]?=some i):perm.idxOf i=p:=by
 have hlt:p<perm.length:=by
  rcases lG p perm.length with h1 |h1
  .exact h1
  .simp[oc h1]at hp
 have he:perm[p]=i:=by simpa[qE hlt]using hp
 rw[<-he];exact Qp h p hlt
theorem alk{rec:Rec}(hq:mq P φ rec)(hy:ue P φ rec){perm:List Nat}{xs:List X}{s0:St}{g0:Gh}{w0:World}{R:List (Nat×I)}(hO:ali P φ nt ops perm xs)
  (hok:(eX rec xs s0).ok=true)(sy:∀p q x y,p<q->xs[p]?=some x->xs[q]?=some y->Gf (Gk ops perm) R xs.length xs p q x y)
  (hR:∀k i,(k,i)∈R->Vn rec (jG rec xs s0 k) i)(hQ:Post φ nt m dB s0 g0 w0 (eX rec xs s0) (Q .normal)):
  ∀(fuel:Nat)(listed:Array Bool)(a:Act)(w:World)(E Rm:List Nat)(g:Gh),OU φ nt m dB ops perm rec xs s0 g0 w0 fuel listed a w E Rm g->wpAnyIn (Wd r) n P .any ops Q fuel listed a w:=by
 have OW:∀i,i<ops.size->∃p,perm[p]?=some i/\p<xs.length:=by
  intro i hi;obtain⟨p,hp,he⟩:=tv (hO.has i hi);exact⟨p,by simp[hp,he],by rw[<-hO.Vs];exact hp⟩
 have aV:∀(p:Nat)(hp:p<xs.length),xs[p]?=some xs[p]:=λp hp=>by simp[hp]
 have alm:∀(p:Nat),p<xs.length->∃i,perm[p]?=some i:=λp hp=>by
  have:p<perm.length:=by rw[hO.Vs];exact hp
  exact⟨perm[p],by simp[this]⟩
 have aln:∀{fuel:Nat}{listed:Array Bool}{a:Act}{w:World}{E Rm:List Nat}{g:Gh},OU φ nt m dB ops perm rec xs s0 g0 w0 fuel listed a w E Rm g->∀{p i:Nat}{o:Oper},perm[p]?=some i->p<xs.length->ops[i]?=some o ->
   ((∀e∈o.after,Region.binds .any e=true->listed.getD e.on false=true)↔∀r∈(Gk ops perm).getD p [],r∈E):=by
  intro fuel listed a w E Rm g inv p i o hp hpx ho;rw[alj hp];simp only[DQ,ho];have Vt:∀e∈o.after,e.on<ops.size:=by
   obtain⟨⟨o',ho',_,_,h⟩,_⟩:=hO.place p i xs[p] hp (aV p hpx);rw[ho]at ho';simp at ho';subst ho';exact h
  constructor
  .intro h r hr
   simp only[gY,lF,XG]at hr;obtain⟨e,⟨he,hb⟩,rfl⟩:=hr;obtain⟨q,nj,By⟩:=OW e.on (Vt e he);rw[OV hO.nodup nj];exact(inv.nr q e.on nj).2 (h e he hb)
  .intro h e he hb
   obtain⟨q,nj,By⟩:=OW e.on (Vt e he);have:=h q (by
    simp only[gY,lF,XG];exact⟨e,⟨he,hb⟩,OV hO.nodup nj⟩)
   exact(inv.nr q e.on nj).1 this
 have done:∀{fuel:Nat}{listed:Array Bool}{a:Act}{w:World}{E Rm:List Nat}{g:Gh},OU φ nt m dB ops perm rec xs s0 g0 w0 fuel listed a w E Rm g->(∀p,p<xs.length->p∈E)->Q .normal a w:=by
  intro fuel listed a w E Rm g inv hall;have hmem:∀p,p<xs.length->(p∈(List.range xs.length).reverse↔p∈E):=λp hp=>⟨λ_=>hall p hp,λ_=>by simpa using hp⟩
  have hu:∀t p q,p<xs.length->q<xs.length->rC xs p=some t->rC xs q=some t->p=q:=by
   intro t p q hp hq h1 h2;simp only[rC,aV p hp,aV q hq,uB]at h1 h2;rcases tr p q with h |h |h
   .exact absurd h2 ((sy p q _ _ h (aV p hp) (aV q hq)).uniq t h1)
   .exact h
   .exact absurd h1 ((sy q p _ _ h (aV q hq) (aV p hp)).uniq t h2)
  have xk:(eX rec xs s0).heap=(sigma rec xs s0 E).heap:=by
   rw[<-ak0 (rec:=rec) (xs:=xs) (s0:=s0)];simp only[sigma];refine OM hok (Vj λp hp _=>inv.lt p hp) (gh _) λr h1 h2=>?_
   cases vw:nU xs r with
   |false=>rfl
   |true=>have:=JD vw (hall r h2);omega
  refine hQ g a w (inv.rel.congr (λt=>?_) xk) (by rw[xk];exact inv.frame)
  rw[<-ak0 (rec:=rec) (xs:=xs) (s0:=s0),JE hok _ (gh _)];exact Vi (n:=xs.length) (λp q hp hq=>hu t p q hp hq) (λp hp=>by simpa using hp) inv.lt λp hp _=>hmem p hp
 have empty:∀{fuel:Nat}{listed:Array Bool}{a:Act}{w:World}{E Rm:List Nat}{g:Gh},OU φ nt m dB ops perm rec xs s0 g0 w0 fuel listed a w E Rm g->Region.ready .any ops listed=[]->Q .normal a w:=by
  intro fuel listed a w E Rm g inv hr;refine done inv λp=>?_
  induction p using Nat.strongRecOn with
  |_ p ih =>
   intro hp;apply vR;intro hne;obtain⟨i,hi⟩:=alm p hp;obtain⟨⟨o,ho,_⟩,hd⟩:=hO.place p i xs[p] hi (aV p hp);have hun:listed.getD i true=false:=by
    have hsz:i<listed.size:=by rw[inv.size];exact(Er.1 ho).1
    cases h1:listed.getD i true with
    |false=>rfl
    |true =>
     exfalso;apply hne;rw[inv.nr p i hi];simpa[hsz]using h1
   have:i∈Region.ready .any ops listed:=mem_ready.2 ⟨hun,o,ho,(aln inv hi hp ho).2 λr hr=>by
    rw[alj hi]at hr;have:=hd r hr;exact ih r this (by omega)⟩
   rw[hr]at this;simp at this
 intro fuel;induction fuel with
 |zero =>
  intro listed a w E Rm g inv;have hall:∀p,p<xs.length->p∈E:=by
   intro p hp;apply vR;intro hne;have h1:=inv.rest p hp hne;have h2:=inv.fuel
   have:Rm=[]:=by simpa using h2
   rw[this]at h1;simp at h1
  refine⟨?_,done inv hall⟩;rw[List.eq_nil_iff_forall_not_mem];intro i hi;obtain⟨hun,o,ho,_⟩:=mem_ready.1 hi;obtain⟨p,hp,hpx⟩:=OW i (Er.1 ho).1;have h1:=(inv.nr p i hp).1 (hall p hpx);have hsz:i<listed.size:=by rw[inv.size];exact(Er.1 ho).1
  simp[hsz]at hun h1;rw[hun]at h1;simp at h1
 |succ fuel ih =>
  intro listed a w E Rm g inv;refine⟨empty inv,λi hi=>?_⟩
  obtain⟨hun,o,ho,hall⟩:=mem_ready.1 hi;obtain⟨j,hj,JF⟩:=OW i (Er.1 ho).1;obtain⟨⟨o',ho',alo,alp,Vt⟩,hd⟩:=hO.place j i xs[j] hj (aV j JF);rw[ho]at ho';simp at ho';subst ho';have hsz:i<listed.size:=by rw[inv.size];exact(Er.1 ho).1
  have hjE:j∉E:=by
   intro h;have:=(inv.nr j i hj).1 h;simp[hsz]at this hun;rw[hun]at this;simp at this
  have ON:=(aln inv hj JF ho).1 hall;have hfind:=find hok sy hR inv.lt inv.closed (aV j JF) hjE ON;have next:∀g' a' w',cj φ nt m dB (jF rec xs[j] (sigma rec xs s0 E)) g' a' w'->Frame m (sigma rec xs s0 E).heap g w (jF rec xs[j] (sigma rec xs s0 E)).heap g' w' ->
    wpAnyIn (Wd r) n P .any ops Q fuel (listed.setIfInBounds i true) a' w':=by
   intro g' a' w' hs' hf';rw[hfind]at hs' hf';refine ih _ a' w' (j::E) (Rm.filter (·≠j)) g' ⟨by simp[inv.size],λp i' hp=>?_,λp hp=>?_,λp hp r hr=>?_,λp hp JB=>?_,?_,hs',inv.frame.trans hf'⟩
   .by_cases DO:p=j
    .subst DO
     have:i'=i:=by rw[hj]at hp;simpa using hp.symm
     subst this;simp[hsz]
    .have hne:i≠i':=by
      intro h;subst h;have h1:=OV hO.nodup hj;have h2:=OV hO.nodup hp;omega
     rw[getD_set_ne false hne,dD,inv.nr p i' hp];simp[DO]
   .rcases dD.1 hp with h |h
    .subst h;exact JF
    .exact inv.lt p h
   .rcases dD.1 hp with h |h
    .subst h;exact zb _ (ON r hr)
    .exact zb _ (inv.closed p h r hr)
   .simp only[dD,nE]at JB
    rw[lF];exact⟨inv.rest p hp JB.2,by simpa using JB.1⟩
   .have hlen:(Rm.filter (·≠j)).length<Rm.length:=List.length_filter_lt_length_iff_exists.2 ⟨j,inv.rest j JF hjE,by simp⟩
    have:=inv.fuel;omega
  have vu:(jF rec xs[j] (sigma rec xs s0 E)).ok=true:=by rw[hfind];rfl
  have vp:=akK alo;unfold wpOpIn;simp only[ho];have hG:=akM (K:=wpAnyIn (Wd r) n P .any ops Q fuel (listed.setIfInBounds i true)) (X:=o.wpIn (Wd r) n P a w (wpAnyIn (Wd r) n P .any ops Q fuel (listed.setIfInBounds i true)) Q) inv.rel alp vp.1 vp.2 vu
   (λhe hk=>akA hq hy inv.rel alo hk λg' v' w' hs' hf=>next g' _ w' (by rw[he];exact hs') (by rw[he];exact hf))
   (λhe hs'=>next g _ w (by rw[he];exact hs') (by rw[he];exact Frame.refl _ _ _ _))
  split
  .rename_i hw;rw[aN hw]at hG;exact hG
  .rename_i hw;rw[aG hw]at hG;exact⟨λ_ _=>trivial,hG⟩
theorem alq{perm:List Nat}{js:List J}(h:OT P φ nt ops perm js=true):J.vq true [] [] js=true/\ali P φ nt ops perm (J.iw none js) /\
  ∀p q x y,p<q->(J.iw none js)[p]?=some x->(J.iw none js)[q]?=some y->Gf (Gk ops perm) (J.Gi js) (J.iw none js).length (J.iw none js) p q x y:=by
 simp only[OT,bD,gf,dO]at h;obtain⟨⟨⟨⟨⟨h1,h2⟩,h3⟩,h8⟩,h4⟩,h5⟩:=h;obtain⟨h6,h7⟩:=alh h4;refine⟨h1,⟨h2,h3,λi hi=>by simpa using zi.1 h8 i (KG.2 hi),h6,λk i x hk hx=>?_⟩,λp q x y hpq hx hy=>?_⟩
 .have:=h7 k i x hk hx
  rwa [oh]at this
 .have:=alg h5 p q x y hpq hx hy
  rwa [oh,oh]at this
theorem alr{rec:Rec}(hm:P.follows .mixedOrders=true)(hq:mq P φ rec)(hy:ue P φ rec){fl perm:List Nat}{js:List J}(hs:cj φ nt m dB s g a w)(hc:OT P φ nt ops perm js=true)
  (hok:(fX rec js ⟨p7 fl s.env,s.heap,s.ok⟩).ok=true){id:Nat}(hQ:Post φ nt m dB s g w (fX rec js ⟨p7 fl s.env,s.heap,s.ok⟩) (Q .normal)):(Code.region id ops true).wpIn (Wd r) n P Q a w:=by
 obtain⟨hf,hO,sy⟩:=alq hc;have hs0:=(hs.forget fl s.ok).drew;have lW:=OI (rec:=rec) (g:=none) hf (Ag.refl (uI hok)) (λ_ _ h=>by simp at h) trivial hok
 have hre:=alb (rec:=rec) hf (Ag.refl (uI hok)) hok;refine wpIn_region_any hm ?_;refine alk (m:=m) (s0:=⟨p7 fl s.env,s.heap,s.ok⟩) (g0:=g) (w0:=w.drew) hq hy hO lW.ok sy hre (λg' a' w' hs' hfr=>hQ g' a' w' (hs'.low lW) ?_)
  ops.size _ a w.drew [] (List.range ops.size) g ⟨by simp,λp i hp=>?_,by simp,by simp,λp hp _=>?_,by simp,?_,?_⟩
 .rw[lW.heap]
  exact hs0.2.trans hfr
 .simp only[List.not_mem_nil,false_iff]
  rcases lG i ops.size with h |h<;>simp[h]
 .rw[KG,<-hO.len,hO.Vs];exact hp
 .exact hs0.1.congr (λt=>rfl) (by simp[sigma,nT,jG,eX])
 .have:(sigma rec (J.iw none js) ⟨p7 fl s.env,s.heap,s.ok⟩ []).heap=s.heap:=by simp[sigma,nT,jG,eX]
  rw[this];exact Frame.refl _ _ _ _
end
end Go.VS
namespace Go.VS
def C.lY:C->Bool
 | .seq a b=>a.lY&&b.lY
 | .ite _ a b=>a.lY&&b.lY
 | .cr _ a=>a.lY
 | .loop _ a=>a.lY
 | .sK ..=>false
 |_=>true
section
variable (P:Program)(φ:Nat->Nat)(nt:Nat)
def nV:Code->C->Bool
 | .skip,.skip=>true
 | .label _,.skip=>true
 | .ret,.ret=>true
 | .exit i,.exit j=>i==j
 | .region _ ops draw,.cB js=>!draw&&J.vq true [] [] js&&DN P φ nt ops ops.toList (J.iw none js)
 | .region _ ops draw,.mG _ perm js=>draw&&OT P φ nt ops perm js
 | .seq x y,.seq a b=>nV x a&&nV y b
 | .cond c x y,.ite d a b=>dW φ c d&&nV x a&&nV y b
 | .block i x,.cr j a=>i==j&&nV x a
 | .loop x,.loop _ a=>nV x a
 | .rangeFunc f ps x y,.sK g _ ps' a b=>dW φ f g&&ps.toList==ps'&&(decide ps'.Nodup&&ps'.all (λp=>decide (p<nt))&&a.lY&&b.lY&&nV x a&&nV y b)
 | .scope x,.seq .skip a=>nV x a
 |x,.seq a (.qJ _)=>nV x a
 |x,.seq (.qJ _) a=>nV x a
 |x,.seq (.keep _) a=>nV x a
 |x,.seq (.xT _ _) a=>nV x a
 |_,_=>false
termination_by structural _ c=>c
def OX(ps:List Nat)(a b:C)(x y:Code)(nt:Nat):Bool:=decide ps.Nodup&&ps.all (λp=>decide (p<nt))&&a.lY&&b.lY&&nV P φ nt x a&&nV P φ nt y b
end
section
variable {P:Program}{φ:fD}
variable {nt m dB:Nat}{s:St}{g:Gh}{a:Act}{w:World}{Q:Exit->Act->World->Prop}{r:Option Nat}{n:Nat}
def BV:Ex->Exit
 | .normal=>.normal
 | .exit id=>.exit id
 | .ret=>.ret
def DR(P:Program)(φ:fD)(rec:Rec):Prop :=
 ∀(nt m dB:Nat)(live:List Nat)(x:Code)(c:C)(env:List (Nat×V))(h:List O)(e:Ex)(env':List (Nat×V))(h':List O),nV P φ nt x c=true ->
  rec (.loop m live c env h)=some (.out e env' h')->∀(n:Nat)(r:Option Nat),(r=none\/c.lY=true)->∀(g:Gh)(a:Act)(w:World)(Q:Exit->Act->World->Prop),cj φ nt m dB ⟨env,h,true⟩ g a w ->
   Post φ nt m dB ⟨env,h,true⟩ g w ⟨env',h',true⟩ (Q (BV e))->(Code.loop x).wpIn (Wd r) n P Q a w
def xl(P:Program)(φ:fD):Prop:=∀ps A B x y nt,φ.lk ps A B x y nt↔OX P φ ps A B x y nt=true
theorem Post.mono{s':St}{R R':Act->World->Prop}(h:Post φ nt m dB s g w s' R)(hr:∀a w,R a w->R' a w):Post φ nt m dB s g w s' R':=λg' a' w' h1 h2=>hr _ _ (h g' a' w' h1 h2)
theorem als{h:List O}{b o es:Nat}{rows:List (List V)}(hr:gC φ h g w b o (.gK es rows)):gC φ h g w b o (eP es rows):=by
 unfold eP;split
 .rename_i ds hds
  have he:=FO hds;obtain⟨h1,h2,h3⟩:=hr;refine⟨by rw[he]at h1;simpa using h1,vk λr row hrow=>?_,by simpa using h3⟩
  have pI:rows[r]?=some (row.map V.d):=by rw[he];simp[hrow]
  obtain⟨k1,k2⟩:=h2 r _ pI;refine⟨by simpa using k1,wD λj c hj=>?_⟩
  obtain⟨x,hx,hx1,mj⟩:=k2 j (.d c) (by simp[hj])
  exact⟨x,hx,hx1,by simpa only[aK]using mj⟩
 .exact hr
theorem alu:∀(ns:List Nat){h:List O}{n es:Nat}{rows:List (List V)},aV h n = .gK es rows->aV (aX h ns) n = .gK es rows:=by
 intro ns h n es rows hn;rcases Ou ns (h:=h) (k:=n)with⟨h1,_⟩ |⟨es',ex,iH,h1,_⟩
 .rw[h1];exact hn
 .rw[hn]at h1;simp at h1
theorem alv(hs:cj φ nt m dB s g a w){k:Nat}{p:V}{v:Value}(hp:aK φ s.heap g w p v){h1:List O}(hz:CF s.heap k p=some h1):
  ∃g',cj φ nt m dB ⟨s.env,h1,s.ok⟩ g' a w/\Frame m s.heap g w h1 g' w:=by
 unfold CF at hz;split at hz
 .rename_i n r c
  split at hz
  .simp at hz;subst hz;exact⟨g,⟨hs.env,hs.heap,hs.size,hs.defers,hs.len⟩,Frame.refl _ _ _ _⟩
  .rename_i es rows hn
   split at hz
   .rename_i row hrow
    split at hz
    .rename_i cv wy
     simp only[gI]at hz;obtain⟨x,hx,rfl⟩:=hz;obtain⟨I',k1,k2,k3⟩:=hs.frozen cv.dy s.ok;have hn2:=alu cv.dy hn;have k8:(aV (aX s.heap cv.dy) n).live=true:=by rw[hn2];rfl
     have dF:=k1.heap.obj n;simp only[hn2]at dF;have hdx:∀{u:Value},aK φ (aX s.heap cv.dy) (g.ez I') w cv u->bT φ I' w x u:=λhu=>by
      exact aiU k1.heap (aiX _ _) (by rw[aiV (aiW _ _)];exact hx) hu
     have hnew:gC φ (aX s.heap cv.dy) (g.ez I') w (g.β n) (g.o n) (.gK es (rows.set r (row.set (c+k) (.d x)))):=by
      obtain⟨q1,q2,q3⟩:=dF;refine⟨by rw[List.length_set];exact q1,λr2 alw lX=>?_,q3⟩
      rw[KK]at lX;split at lX
      .rename_i dZ
       subst dZ;split at lX
       .simp at lX
        subst lX;obtain⟨p1,p2⟩:=q2 r row hrow;refine⟨by simpa using p1,λj cc hj=>?_⟩
        rw[KK]at hj;split at hj
        .rename_i hjj
         split at hj
         .simp at hj
          subst hj;subst hjj;obtain⟨u,u1,u2,u3⟩:=p2 (c+k) cv wy;exact⟨u,u1,u2,by simp only[aK];exact hdx u3⟩
         .simp at hj
        .exact p2 j cc hj
       .simp at lX
      .exact q2 r2 alw lX
     have jN:(eP es (rows.set r (row.set (c+k) (.d x)))).gN=some es/\(eP es (rows.set r (row.set (c+k) (.d x)))).len=rows.length/\(∀kv,eP es (rows.set r (row.set (c+k) (.d x)))≠.mp kv)/\(eP es (rows.set r (row.set (c+k) (.d x)))).tY=false:=by
      unfold eP;split
      .rename_i ds hds
       have:=congrArg List.length (FO hds);simp at this;exact⟨rfl,by simp[O.len,<-this],by simp,rfl⟩
      .exact⟨rfl,by simp[O.len],by simp,rfl⟩
     generalize hmk:eP es (rows.set r (row.set (c+k) (.d x)))=mk at *;have hle:=wJ (x:=mk) (w':=w) (I':=I') k1.heap k8 (jY.refl _ _) (Ext.refl _ _) (λes' he'=>by
       rw[jN.1]at he';simp at he';subst he';exact⟨by rw[hn2];rfl,by rw[jN.2.1,hn2];rfl,nP.of_eq rfl⟩) (λkv hk=>absurd hk (jN.2.2.1 kv)) (λhh=>by rw[jN.2.2.2]at hh;simp at hh)
     have UK:gC φ ((aX s.heap cv.dy).set n mk) (g.ez I') w (g.β n) (g.o n) mk:=by
      have:=Dt hle (g':=g.ez I') rfl rfl hnew;have h2:=als this;rw[hmk]at h2;exact h2
     have hH:=wK (x:=mk) k1.heap k8 (jY.refl _ _) hle (λ_ _=>rfl) UK
     refine⟨g.ez I',k1.yA k8 (jY.refl _ _) hle hH,k3.trans (wL mk k8 (jY.refl _ _) (Ext.refl _ _) (λ_ _=>rfl) hle)⟩
    .simp at hz
   .simp at hz
  .simp at hz
 .simp at hz
theorem alx{rec:Rec}(hq:mq P φ rec){ps:List Nat}{A B:C}{x y:Code}(hlk:φ.lk ps A B x y nt){f:Operand}{gx:VS.A}(hf:dW φ f gx=true)(hs:cj φ nt m dB s g a w){JG:Array Tmp}(hps:JG=ps.toArray)
  {live:List Nat}{v2:V}{h2:List O}(pJ:l9 (aD rec (s.heap++[.lp ps A B .normal (jS live s.env)])) (s.get gx) [.ju s.heap.length]=some (v2,h2))
  {ps2:List Nat}{A2 B2:C}{e:Ex}{aly:List (Nat×V)}(iN:aV h2 s.heap.length = .lp ps2 A2 B2 e aly)
  (hQ:Post φ nt m dB s g w ⟨s.env,h2.set s.heap.length .dead,s.ok⟩ (Q (BV e))):(Code.rangeFunc f JG x y).wpIn (Wd none) n P Q a w:=by
 refine wpIn_rangeFunc λfn _=>?_
 let JH:Loop:={state:=.ready,pending:=none,fn,tmps:=a.tmps,params:=JG,assign:=x,body:=y,defers:=w.heap.size}
 obtain⟨w1,hw1⟩:∃w1,w1=(w.alloc (.deferred (some []))).alloc (.loop JH):=⟨_,rfl⟩;have hg:gO w w1:=by rw[hw1];exact(gO.alloc w _).trans (gO.alloc _ _)
 have hsz:w1.heap.size=w.heap.size+2:=by rw[hw1];simp
 have ql:w1.heap[w.heap.size+1]?=some (.loop JH):=by
  rw[hw1];have:=World.alloc_heap_new (w.alloc (.deferred (some []))) (.loop JH);rwa [World.size_alloc]at this
 have hD1:w1.heap[w.heap.size]?=some (.deferred (some [])):=by
  rw[hw1,(gO.alloc (w.alloc (.deferred (some []))) (.loop JH)).same _ (by simp)];exact World.alloc_heap_new w _
 have alz:(Instr.enterLoop fn a.tmps JG x y none).run P w = .ok (w.heap.size+1,[{target:=.collected w.heap.size,args:=#[]}]) w1:=by
  rw[hw1];exact run_enterLoop_outer _ _ _ _ _
 obtain⟨lf,BW⟩:∃lf,lf=s.heap++[.lp ps A B .normal (jS live s.env)]:=⟨_,rfl⟩;obtain⟨g1,BO⟩:∃g1,g1=g.add s.heap.length (w.heap.size+1) 0 g.I:=⟨_,rfl⟩;have hnew:∀b,w1.heap.size<=b->g.I b=0:=λb hb=>hs.heap.new b (by omega)
 have jZ:gT s.heap g w lf g1 w1:=by rw[BW,BO];exact Am _ hs.heap hg (λ_ _=>rfl)
 have sw:fj φ lf g1 w1:=by
  have dF:gC φ lf g1 w1 (w.heap.size+1) 0 (.lp ps A B .normal (jS live s.env)):=by
   refine⟨JH,nt,ql,hps,hlk,hs.size,λp hp=>?_,rfl,rfl,?_⟩
   .simp only[jS,gY]at hp
    obtain⟨t,_,rfl⟩:=hp;exact lU jZ (hs.env t)
   .rw[BO];exact hs.heap.new _ (by omega)
  rw[BW,BO]at dF⊢;exact Z6 hs.heap hg (λ_ _=>rfl) hnew (by omega) dF
 have qw:Frame m s.heap g w lf g1 w1:=by rw[BW,BO];exact Ug _ hs.heap hg (λ_ _=>rfl) (by omega) hs.len
 have UM:lf.length=s.heap.length+1:=by rw[BW];simp
 have alA:aV lf s.heap.length = .lp ps A B .normal (jS live s.env):=by rw[BW,Dw]
 have Jv:g1.β s.heap.length=w.heap.size+1:=by rw[BO];simp[Gh.add]
 have Ax:∀k,(aV lf k).live=true->g1.β k≠w.heap.size:=by
  intro k hk;rcases tr k s.heap.length with hlt |rfl |hgt
  .rw[BW,qo hlt]at hk
   have:=hs.heap.block hk;rw[BO];simp[Gh.add,Nat.ne_of_lt hlt];omega
  .rw[Jv];omega
  .rw[BW,vn hgt]at hk;simp[O.live]at hk
 obtain⟨a',ha'⟩:∃a':Act,a'={a with defers:=[{target:=.collected w.heap.size,args:=#[]}]++a.defers}:=⟨_,rfl⟩;have hD:mM dB lf g1 a'.defers w1:=by
  have h0:=hs.defers.frame qw;rw[ha'];refine⟨λd hd=>?_,?_,h0.le⟩
  .simp only[tB,mX,dD]at hd
   rcases hd with rfl |hd
   .exact⟨_,rfl,hs.defers.le,hD1,Ax⟩
   .exact h0.at_ d hd
  .simp only[tB,mX,Ep]
   refine⟨λhd=>?_,h0.nodup⟩
   obtain⟨D,e1,_,e3,_⟩:=hs.defers.at_ _ hd;have:=BF e3;simp at e1;omega
 have tZ:cj φ nt m dB ⟨s.env,lf,s.ok⟩ g1 a' w1:=by
  have hm:m<=lf.length:=by have:=hs.len;omega
  rw[ha']at hD⊢;exact⟨λk=>lU jZ (hs.env k),sw,hs.size,hD,hm⟩
 have key:∀{F:Nat}{A' B':Array Value}{zs:List V},a.eval f = .func (.func (φ F)) A' B'->aD rec lf F zs=some (v2,h2) ->
   bU φ lf g1 w1 zs (A'.toList++[Value.func (.yield (w.heap.size+1)) #[] #[]]++B'.toList) ->
   ∃(l:Nat)(mark:List Deferred)(w₁:World)(d:Deferred)(w₁':World)(f_1:FuncId)(args:Array Value)(w₂:World),
   (Instr.enterLoop fn a.tmps JG x y (Wd none).round).run P w = .ok (l,mark) w₁ /\
   (resolve a.eval (rangeCall f l) 0).run P w₁ = .ok d w₁' /\
   (∀f',Target.leads P w₁' d.target d.args=some f'->(Wd none).fn f') /\
   (invoke d.target d.args).run P w₁' = .ok (.enter f_1 args) w₂ /\
   ((Wd none).depth.isSome=true->1<=n) /\
   CallsIn (Wd none) (n - 1) P f_1 args w₂ (rangePost (Wd none) n P l Q {a with defers:=mark++a.defers}):=by
  intro F A' B' zs he hcr hzs;obtain⟨L,v,h1',hL,gU,hlen,rfl,rfl⟩:=ai5 hcr;obtain⟨hnd,yG,bR,_,_⟩:=DK hL;obtain⟨⟨fn',hfn,hn,hb⟩,alB⟩:=hq F _ _ v h1' gU;have alC:bU φ lf g1 w1 zs (A'++#[Value.func (.yield (w.heap.size+1)) #[] #[]]++B').toList:=by simpa using hzs
  refine⟨w.heap.size+1,[{target:=.collected w.heap.size,args:=#[]}],w1,{target:=.fn (.func (φ F)) B',args:=A'++#[Value.func (.yield (w.heap.size+1)) #[] #[]]},w1,φ F,
   A'++#[Value.func (.yield (w.heap.size+1)) #[] #[]]++B',w1,alz,?_,λ_ _=>trivial,?_,OC,akn ?_⟩
  .have ec:∀v,a.eval (.const v)=v:=λ_=>rfl
   simp[resolve,rangeCall,he,Deferred.ofValue,ec]
  .simp only[invoke];exact Oi hfn hn hb
  .refine Calls.mono (alB (iM g1 L) w1 _ (F0 hL sw) (yF yG alC)) λe' w' hh=>?_
   obtain⟨v',g2,rfl,UL,_,hfr⟩:=hh;rw[yE]at hfr;have M:j0 φ lf L g1 w1 h1' g2 w':=⟨sw,hnd,λn hn=>(bR n hn).1,hlen,UL,hfr⟩
   have hm:m<=lf.length:=tZ.len;have hMF:=M.frame hm;have Jm:cj φ nt m dB ⟨s.env,mQ lf L h1',s.ok⟩ (jP lf L g1 g2) a' w':=⟨λk=>lU M.hle (tZ.env k),M.fY,tZ.size,tZ.defers.frame hMF,mE hm M.hle.len⟩
   have BP:(jP lf L g1 g2).β s.heap.length=w.heap.size+1:=by
    have:s.heap.length<lf.length:=by omega
    simp[jP,this,Jv]
   have dF:=M.fY.obj s.heap.length;rw[iN,BP]at dF;obtain⟨rc,nt2,k1,_,_,_,_,k5,k6,_⟩:=dF;have alD:rc.state≠.busy:=by rw[k5];split<;>simp
   have hend:=run_endLoop (P:=P) k1 alD;have hlv:(aV (mQ lf L h1') s.heap.length).live=true:=by rw[iN];rfl
   obtain⟨OY,OZ,_⟩:=Jm.kill hlv s.ok;have hun:∀k,(aV ((mQ lf L h1').set s.heap.length .dead) k).live=true->(jP lf L g1 g2).β k≠w.heap.size+1:=by
    intro k hk hbe;by_cases hkn:k=s.heap.length
    .subst hkn;rw[wI (BC hlv)]at hk;simp[O.live]at hk
    .rw[qp hkn]at hk
     exact hkn (M.fY.inj k _ hk hlv (by rw[hbe,BP]))
   have hS4:=OY.putObj (y:=.loop {rc with state:=.exhausted}) k1 rfl (by simp) rfl hun
   have hF4:=aks (y:=.loop {rc with state:=.exhausted}) ((qw.trans hMF).trans OZ) hs.heap (D:=w.heap.size+1) (by omega) k1 rfl rfl
   have JI:=hQ _ a' _ hS4 hF4;refine⟨rc.pending,_,hend,?_⟩;rw[k6]at JI⊢;rw[ha']at JI;cases e with
   |normal=>exact JI
   |exit id=>exact wpIn_exit JI
   |ret=>exact wpIn_ret JI
 have rx:=lU jZ (fm hs hf);have ry:bU φ lf g1 w1 [.ju s.heap.length] [Value.func (.yield (w.heap.size+1)) #[] #[]]:=by
  simp only[bU,aK,xP];exact⟨by omega,rfl,λ_=>by rw[Jv]⟩
 rw[<-BW]at pJ;cases fU:s.get gx with
 |d z =>
  cases z with
  |fn ff first caps =>
   rw[fU]at rx pJ;simp only[aK,bT]at rx;obtain⟨A',B',he,hA,hB⟩:=rx;exact key he pJ (sn (sn (BN hA) ry) (BN hB))
  |_=>rw[fU]at pJ;simp[l9]at pJ
 |fn ff first caps =>
  rw[fU]at rx pJ;simp only[aK]at rx;obtain⟨A',B',he,hA,hB⟩:=rx;exact key he pJ (sn (sn hA ry) hB)
 |_=>rw[fU]at pJ;simp[l9]at pJ
theorem JJ{rec:Rec}(hm:P.follows .mixedOrders=true)(hk:xl P φ)(hq:mq P φ rec)(hl:DR P φ rec)(hy:ue P φ rec):∀(x:Code)(c:C),(r=none\/c.lY=true)->∀{s:St}{g:Gh}{a:Act}{w:World}{Q:Exit->Act->World->Prop},nV P φ nt x c=true ->
  cj φ nt m dB s g a w->(cS rec m c s).2.ok=true->Post φ nt m dB s g w (cS rec m c s).2 (Q (BV (cS rec m c s).1))->x.wpIn (Wd r) n P Q a w:=by
 intro x c hr;have alE:∀{x:Code}{b:C}{ds:List Nat}{s:St}{g:Gh}{a:Act}{w:World}{Q:Exit->Act->World->Prop},
   (∀{Q:Exit->Act->World->Prop},(cS rec m b s).2.ok=true->Post φ nt m dB s g w (cS rec m b s).2 (Q (BV (cS rec m b s).1))->x.wpIn (Wd r) n P Q a w) ->
   (cS rec m (.seq b (.qJ ds)) s).2.ok=true->Post φ nt m dB s g w (cS rec m (.seq b (.qJ ds)) s).2 (Q (BV (cS rec m (.seq b (.qJ ds)) s).1))->x.wpIn (Wd r) n P Q a w:=by
  intro x b ds s g a w Q ih hok hQ;simp only[cS]at hok hQ;cases hb:cS rec m b s with
  |mk e s' =>
   rw[hb]at hok hQ ih;cases e with
   |normal =>
    simp only at hok hQ;refine ih (Hw ds hok) λg' a' w' h1 h2=>?_
    obtain⟨g2,k1,k2⟩:=US ds h1 hok;exact hQ g2 a' w' k1 (h2.trans k2)
   |exit id=>exact ih hok hQ
   |ret=>exact ih hok hQ
 have alF:∀{x:Code}{b:C}{ds:List Nat}{s:St}{g:Gh}{a:Act}{w:World}{Q:Exit->Act->World->Prop},cj φ nt m dB s g a w ->
   (∀{s:St}{g:Gh}{Q:Exit->Act->World->Prop},cj φ nt m dB s g a w->(cS rec m b s).2.ok=true->Post φ nt m dB s g w (cS rec m b s).2 (Q (BV (cS rec m b s).1))->x.wpIn (Wd r) n P Q a w) ->
   (cS rec m (.seq (.qJ ds) b) s).2.ok=true->Post φ nt m dB s g w (cS rec m (.seq (.qJ ds) b) s).2 (Q (BV (cS rec m (.seq (.qJ ds) b) s).1))->x.wpIn (Wd r) n P Q a w:=by
  intro x b ds s g a w Q hs ih hok hQ;simp only[cS]at hok hQ;obtain⟨g2,k1,k2⟩:=US ds hs (zp hok);exact ih k1 hok λg' a' w' h1 h2=>hQ g' a' w' h1 (k2.trans h2)
 fun_induction nV P φ nt x c with
 |case1=>intro s g a w Q _ hs _ hQ;exact wpIn_skip (hQ g a w hs (Frame.refl _ _ _ _))
 |case2=>intro s g a w Q _ hs _ hQ;exact wpIn_label (hQ g a w hs (Frame.refl _ _ _ _))
 |case3=>intro s g a w Q _ hs _ hQ;exact wpIn_ret (hQ g a w hs (Frame.refl _ _ _ _))
 |case4 i j =>
  intro s g a w Q hc hs _ hQ;simp at hc;subst hc;exact wpIn_exit (hQ g a w hs (Frame.refl _ _ _ _))
 |case5 id ops draw js =>
  intro s g a w Q hc hs hok hQ;simp only[bD,iZ]at hc;obtain⟨⟨rfl,h2⟩,h3⟩:=hc;exact akR hq hy hs h2 h3 hok hQ
 |case6 id ops draw fl perm js =>
  intro s g a w Q hc hs hok hQ;simp only[bD]at hc;obtain⟨rfl,h3⟩:=hc;exact alr hm hq hy hs h3 hok hQ
 |case7 x y b c ih1 ih2 =>
  intro s g a w Q hc hs hok hQ;simp only[bD]at hc;refine wpIn_seq (ih1 (hr.imp id λh=>by simp[C.lY]at h;exact h.1) hc.1 hs ?_ λg' a' w' h1 h2=>?_)
  .simp only[cS]at hok
   split at hok
   .rename_i s' he;rw[he];exact zp hok
   .exact hok
  .simp only[cS]at hok hQ
   cases he:cS rec m b s with
   |mk e s' =>
    rw[he]at hok hQ h1 h2;cases e with
    |normal=>exact ih2 (hr.imp id λh=>by simp[C.lY]at h;exact h.2) hc.2 h1 hok λg2 a2 w2 k1 k2=>hQ g2 a2 w2 k1 (h2.trans k2)
    |exit id=>exact hQ g' a' w' h1 h2
    |ret=>exact hQ g' a' w' h1 h2
 |case8 c x y d b e ih1 ih2 =>
  intro s g a w Q hc hs hok hQ;simp only[bD]at hc;obtain⟨⟨h1,h2⟩,h3⟩:=hc;have rc:=fm hs h1;simp only[cS]at hok hQ;split at hok
  .rename_i v hv
   rw[hv]at rc;have hb:=wR (by simpa only[aK]using rc)
   simp only[hv]at hQ;cases v with
   |true=>exact wpIn_cond_true hb (ih1 (hr.imp id λh=>by simp[C.lY]at h;exact h.1) h2 hs hok hQ)
   |false=>exact wpIn_cond_false hb (ih2 (hr.imp id λh=>by simp[C.lY]at h;exact h.2) h3 hs hok hQ)
  .simp at hok
 |case9 i x j b ih =>
  intro s g a w Q hc hs hok hQ;simp only[bD,dO]at hc;obtain⟨rfl,h2⟩:=hc;simp only[cS]at hok hQ;cases he:cS rec m b s with
  |mk e s' =>
   rw[he]at hok hQ;refine wpIn_block (ih (hr.imp id λh=>by simpa[C.lY]using h) h2 hs ?_ λg' a' w' h3 h4=>?_)
   .rw[he]
    cases e with
    |normal=>exact hok
    |exit k=>simp only at hok;split at hok<;>exact hok
    |ret=>exact hok
   .rw[he]at h3 h4⊢
    cases e with
    |normal=>exact hQ g' a' w' h3 h4
    |exit k =>
     simp only[BV,Exit.inBlock]at *;split
     .rename_i hk
      rw[aN hk]at hQ;exact hQ g' a' w' h3 h4
     .rename_i hk
      rw[aG hk]at hQ;exact hQ g' a' w' h3 h4
    |ret=>exact hQ g' a' w' h3 h4
 |case10 x live b ih =>
  intro s g a w Q hc hs hok hQ;simp only[cS]at hok hQ;split at hok
  .rename_i p hp
   simp only[hp]at hQ;split at hok
   .rename_i e env h dZ
    simp only[dZ]at hQ;obtain⟨g',k1,k2⟩:=UP hs hp true;refine hl nt m dB live x b p.1 p.2 e env h hc dZ n r (hr.imp id (by simp[C.lY])) g' a w Q k1 λg2 a2 w2 h1 h2=>hQ g2 a2 w2 ⟨h1.env,h1.heap,h1.size,h1.defers,h1.len⟩ (k2.trans h2)
   .simp at hok
  .simp at hok
 |case11 f ps x y gx live ps' b c ih1 ih2 =>
  intro s g a w Q hc hs hok hQ;simp only[bD,dO]at hc;obtain⟨⟨h1,h2⟩,h3⟩:=hc;rcases hr with rfl |hr
  rotate_left
  .simp[C.lY]at hr
  have hlk:φ.lk ps' b c x y nt:=(hk ps' b c x y nt).2 (by simp only[OX,bD];exact h3)
  simp only[cS]at hok hQ;split at hok
  .rename_i v2 DS pJ
   simp only[pJ]at hQ;split at hok
   .rename_i ps2 A2 B2 e aly iN
    simp only[iN]at hQ;exact alx hq hlk h1 hs (by rw[<-h2]) pJ iN hQ
   .simp at hok
  .simp at hok
 |case12 x b ih =>
  intro s g a w Q hc hs hok hQ;simp only[cS]at hok hQ;refine akr (ih (hr.imp id λh=>by simp[C.lY]at h;exact h) hc hs hok λg' a' w' h1 h2=>?_)
  have:=hQ g' a' w' h1 h2;cases he:(cS rec m b s).1<;>rw[he]at this<;>exact this
 |case13 x b ds _ _ ih =>
  intro s g a w Q hc hs hok hQ;exact alE (λh1 h2=>ih (hr.imp id λh=>by simp[C.lY]at h;exact h) hc hs h1 h2) hok hQ
 |case14 x ds b _ _ ih =>
  intro s g a w Q hc hs hok hQ;exact alF hs (λh1 h2 h3=>ih (hr.imp id λh=>by simp[C.lY]at h;exact h) hc h1 h2 h3) hok hQ
 |case15 x ds b _ _ ih =>
  intro s g a w Q hc hs hok hQ;simp only[cS]at hok hQ;cases hp:canon m ds s.env s.heap with
  |none =>
   rw[hp]at hok;simp only at hok;have:=zp hok;simp at this
  |some p =>
   rw[hp]at hok hQ;simp only at hok hQ;obtain⟨g2,k1,k2⟩:=UP hs hp s.ok;exact ih (hr.imp id λh=>by simp[C.lY]at h;exact h) hc k1 hok λg' a' w' h1 h2=>hQ g' a' w' h1 (k2.trans h2)
 |case16 x d k b _ _ ih =>
  intro s g a w Q hc hs hok hQ;simp only[cS]at hok hQ;cases hp:CF s.heap k (s.get (.t d))with
  |none =>
   rw[hp]at hok;simp only at hok;have:=zp hok;simp at this
  |some p =>
   rw[hp]at hok hQ;simp only at hok hQ;obtain⟨g2,k1,k2⟩:=alv hs (hs.env d) hp;exact ih (hr.imp id λh=>by simp[C.lY]at h;exact h) hc k1 hok λg' a' w' h1 h2=>hQ g' a' w' h1 (k2.trans h2)
 |case17=>intro s g a w Q hc;simp at hc
end
end Go.VS
namespace Go.VS
section
variable {P:Program}{φ:fD}
variable {nt m dB:Nat}{s:St}{g:Gh}{a:Act}{w:World}
theorem alG{h:List O}{p:V}{v:Value}{n:Nat}{ag:Bool}{x:V}(hH:fj φ h g w)(rx:aK φ h g w p v)(hv:zl h n ag p=some x):
  ∃(b off:Nat)(vs:List Value)(v':Value),v = .pointer (some ⟨b,off,none⟩)/\(∀(j:Nat)(u:Value),vs[j]?=some u->w.cell? ⟨b,off+j,none⟩=some u) /\
   (if ag then n<=vs.length/\v' = .agg (vs.take n).toArray else vs.head?=some v')/\aK φ h g w x v':=by
 generalize hp:p=q at rx;unfold zl at hv;split at hv
 .rename_i cs
  subst hp;simp only[aK,bT]at rx;obtain⟨b,off,he,hI,hcs⟩:=rx;obtain⟨vs,hvs,jy,h1⟩:=I6 hcs;obtain⟨v',h2,h3⟩:=Ob (h:=h) hvs h1 hv;exact⟨b,off,vs,v',he,jy,h2,h3⟩
 .rename_i cs
  subst hp;simp only[aK]at rx;obtain⟨b,off,us,he,hI,hcs,jy⟩:=rx;obtain⟨v',h2,h3⟩:=Jc hcs (λv hv=>let ⟨j,hj,hh⟩:=tv hv;(jy j v (by simp[hj,hh])).2) hv
  exact⟨b,off,us,v',he,(λj u hj=>(jy j u hj).1),h2,h3⟩
 .rename_i k r c
  subst hp;simp only[aK]at rx;obtain⟨hlt,_,rx⟩:=rx;have dF:=hH.obj k;split at hv
  .rename_i es ex rows hk
   rw[hk]at dF rx;have he:=rx es rfl;cases hrow:rows[r]? with
   |none=>simp[hrow]at hv
   |some row =>
    simp[hrow]at hv;obtain⟨_,h2,_⟩:=dF;obtain⟨_,hcs⟩:=oB h2 hrow;obtain⟨vs,hvs,jy,h1⟩:=I6 hcs;obtain⟨v',h2,h3⟩:=Ob (h:=h) (BH hvs c) (λv hv=>h1 v (mV hv)) hv
    refine⟨_,_,_,v',he,(λj u hj=>?_),h2,h3⟩
    have:=jy (c+j) u (by simpa[pX]using hj)
    rwa [<-Nat.add_assoc]at this
  .rename_i es rows hk
   rw[hk]at dF rx;have he:=rx es rfl;cases hrow:rows[r]? with
   |none=>simp[hrow]at hv
   |some row =>
    simp[hrow]at hv;obtain⟨_,h2,_⟩:=dF;obtain⟨vs,hvs,jy,h1⟩:=ahu h2 hrow;obtain⟨v',h2,h3⟩:=Jc (I9 hvs c) (λv hv=>h1 v (mV hv)) hv
    refine⟨_,_,_,v',he,(λj u hj=>?_),h2,h3⟩
    have:=jy (c+j) u (by simpa[pX]using hj)
    rwa [<-Nat.add_assoc]at this
  .simp at hv
 .simp at hv
theorem alH{t:TypeId}{n:Nat}{ag:Bool}(lW:wM P t ag=true)(hn:jD P t n=true){b off:Nat}{vs:List Value}
  (hc:∀(j:Nat)(v:Value),vs[j]?=some v->w.cell? ⟨b,off+j,none⟩=some v){v':Value}
  (hv:if ag then n<=vs.length/\v' = .agg (vs.take n).toArray else vs.head?=some v'):
  (loadVar t ⟨b,off,none⟩).run P w = .ok v' w:=by
 have h1:=Oa (P:=P) (w:=w) lW;have h2:=wS (P:=P) (w:=w) hn;cases ag
 .simp only[fG,dK]at hv
  have:=hc 0 v' (by simpa[Xz]using hv)
  simp only[Hj]at this;simp[loadVar,h1,this]
 .simp only[dH]at hv
  have hl:=run_loadCells_list (P:=P) w ⟨b,off,none⟩ (vs.take n) (λj v hj=>by
   rw[rj];exact hc j v (by rw[zf]at hj;split at hj<;>simp_all))
  have hlen:(vs.take n).length=n:=by simp;omega
  rw[hlen]at hl;simp[loadVar,h1,h2,hl,hv.2]
def vA(P:Program):List ResultVar->List RV->Bool
 | [],[]=>true
 | .tmp t::r,.t n::r'=>t==n&&vA P r r'
 | .cell t ty::r,.c n k ag::r'=>t==n&&wM P ty ag&&jD P ty k&&vA P r r'
 |_,_=>false
def DT(tmps:Array Value):ResultVar->Sem Value
 | .tmp t=>pure (tmps.getD t undef)
 | .cell a t=>do loadVar t (<-asAddr (tmps.getD a undef))
theorem O0(hs:cj φ nt m dB s g a w):∀{rs:List ResultVar}{rv:List RV}{vs:List V},vA P rs rv=true->zo s rv=some vs ->
  ∃us:List Value,(rs.mapM (DT a.tmps)).run P w = .ok us w/\bU φ s.heap g w vs us
 | [],[],vs,_,hv=>by
  simp[zo]at hv;subst hv;exact⟨[],by simp,by simp[bU]⟩
 | .tmp t::r,.t n::r',vs,hc,hv=>by
  simp only[vA,bD,dO]at hc;obtain⟨rfl,hc⟩:=hc;simp only[zo,Hv,uB,gI]at hv;obtain⟨ws,Vu,rfl⟩:=hv;obtain⟨us,h1,h2⟩:=O0 hs hc Vu;exact⟨a.tmps.getD t undef::us,by simp[DT,h1],by simp only[bU];exact⟨hs.env t,h2⟩⟩
 | .cell t ty::r,.c n k ag::r',vs,hc,hv=>by
  simp only[vA,bD,dO]at hc;obtain⟨⟨⟨rfl,lW⟩,hn⟩,hc⟩:=hc;simp only[zo,Hv,og,gI]at hv;obtain⟨x,hx,ws,Vu,rfl⟩:=hv;obtain⟨us,h1,h2⟩:=O0 hs hc Vu;obtain⟨b,off,zs,v',he,jy,jE,fY⟩:=alG hs.heap (hs.env t) hx;have hl:=alH (P:=P) (w:=w) lW hn jy jE;exact⟨v'::us,by simp[DT,he,asAddr,hl,h1],by simp only[bU];exact⟨fY,h2⟩⟩
 | [],_::_,_,hc,_=>by simp[vA]at hc
 | .tmp _::_,[],_,hc,_=>by simp[vA]at hc
 | .cell _ _::_,[],_,hc,_=>by simp[vA]at hc
 | .tmp _::_,.c _ _ _::_,_,hc,_=>by simp[vA]at hc
 | .cell _ _::_,.t _::_,_,hc,_=>by simp[vA]at hc
end
end Go.VS
namespace Go.VS
section
variable {P:Program}{φ:fD}
variable {nt m dB:Nat}{s:St}{g:Gh}{a:Act}{w:World}
theorem results_eq(fn:Func)(tmps:Array Value):results fn tmps=(do
  let vs <-fn.results.mapM (DT tmps)
  pure (if h:vs.size=1 then vs[0]else .tuple vs)):=rfl
def O1:List Value->Value
 | [v]=>v
 |us=>.tuple us.toArray
theorem alI{fn:Func}{tmps:Array Value}{us:List Value}(h:(fn.results.toList.mapM (DT tmps)).run P w = .ok us w):
  (results fn tmps).run P w = .ok (O1 us) w:=by
 rw[results_eq];have he:fn.results.mapM (DT tmps)=Functor.map List.toArray (fn.results.toList.mapM (DT tmps)):=by
  conv=>lhs;rw[<-Array.toArray_toList (xs:=fn.results)]
  rw[List.mapM_toArray]
 rw[he];simp only[map_eq_pure_bind,bind_assoc,pure_bind,Sem.run_bind,h,Result.andThen_ok,Sem.run_pure]
 match us with
 | []=>rfl
 | [v]=>rfl
 |v::u::r=>simp[O1]
theorem least{J:Nat->Prop}(h:∃k,J k):∃k,J k/\∀j,j<k->¬J j:=by
 obtain⟨k,hk⟩:=h;induction k using Nat.strongRecOn with
 |_ k ih =>
  by_cases hx:∃j,j<k/\J j
  .obtain⟨j,h1,h2⟩:=hx;exact ih j h1 h2
  .exact⟨k,hk,λj hj hJ=>hx ⟨j,hj,hJ⟩⟩
open Classical in
noncomputable def Gl (J:Nat->Prop):Nat:=if h:∃k,J k then Classical.choose (least h)else 0
theorem alJ{J:Nat->Prop}(h:∃k,J k):J (Gl J)/\∀j,J j->Gl J<=j:=by
 have hc:=Cm (least h);have he:Gl J=Classical.choose (least h):=by simp[Gl,h]
 rw[he];exact⟨hc.1,λj hj=>Nat.le_of_not_lt λhlt=>hc.2 j hlt hj⟩
theorem alK(hm:P.follows .mixedOrders=true)(hk:xl P φ){Pv:Prog}{n:Nat}(ih:∀k,k<n->mq P φ (iter Pv k)/\DR P φ (iter Pv k)/\ue P φ (iter Pv k)):DR P φ (iter Pv n):=by
 intro nt m dB live x c env h e env' h' hc gU fuel r BS g a w Q hs hQ
 let J:Act->World->Nat->Prop:=λa' w' k=>k<=n/\∃O2 h1 g1,iter Pv k (.loop m live c O2 h1)=some (.out e env' h')/\cj φ nt m dB ⟨O2,h1,true⟩ g1 a' w'/\Frame m h g w h1 g1 w'
 refine wpIn_loop (λa' w'=>∃k,J a' w' k) (λa' w'=>Gl (J a' w')) ⟨n,gh _,env,h,g,gU,hs,Frame.refl _ _ _ _⟩ λa' w' hI=>?_
 obtain⟨hJ,hmin⟩:=alJ hI;generalize Gl (J a' w')=k at *;obtain⟨hkn,O2,h1,g1,hr,yL,DF⟩:=hJ;cases k with
 |zero=>simp[iter]at hr
 |succ k =>
  obtain⟨hq,hl,hy⟩:=ih k (by omega)
  simp only[iter,m9]at hr;cases he:cS (iter Pv k) m c ⟨O2,h1,true⟩with
  |mk ex s' =>
   rw[he]at hr;have hok:s'.ok=true:=by
    cases hs':s'.ok with
    |true=>rfl
    |false=>cases ex<;>simp[hs']at hr
   refine JJ hm hk hq hl hy x c BS hc yL (by rw[he];exact hok) λg2 a2 w2 k1 k2=>?_
   rw[he]at k1 k2⊢;cases ex with
   |normal =>
    simp only[hok,dH,og]at hr;obtain⟨p,hp,hr⟩:=hr;obtain⟨g3,k3,k4⟩:=UP k1 hp true;have Vv:J a2 w2 k:=⟨by omega,p.1,p.2,g3,hr,k3,DF.trans (k2.trans k4)⟩
    refine⟨⟨k,Vv⟩,?_⟩;have:=(alJ ⟨k,Vv⟩).2 k Vv;omega
   |exit id =>
    simp only[hok,dH,gz,dL.out.injEq]at hr;obtain⟨rfl,rfl,rfl⟩:=hr;exact hQ g2 a2 w2 ⟨k1.env,k1.heap,k1.size,k1.defers,k1.len⟩ (DF.trans k2)
   |ret =>
    simp only[hok,dH,gz,dL.out.injEq]at hr;obtain⟨rfl,rfl,rfl⟩:=hr;exact hQ g2 a2 w2 ⟨k1.env,k1.heap,k1.size,k1.defers,k1.len⟩ (DF.trans k2)
def O3(P:Program)(φ:fD)(f:Nat)(F:F):Prop :=
 ∃ fn c, P.funcs[φ f]? = some fn ∧ (fn.name == "runtime.NumGoroutine") = false ∧ fn.body = some c ∧ nV P φ fn.ntmps c F.code = true ∧ vA P fn.results.toList F.res = true
def alL(P:Program)(φ:fD)(f:Nat)(p:List V->List O->Option (V×List O)):Prop :=
 ∀(xs:List V)(h:List O)(v:V)(h1:List O),p xs h=some (v,h1) ->
  (∃ fn, P.funcs[φ f]? = some fn ∧ (fn.name == "runtime.NumGoroutine") = false ∧ fn.body.isNone = false) ∧
  ∀(g:Gh)(w:World)(args:Array Value),fj φ h g w->bU φ h g w xs args.toList ->
   Calls P (φ f) args w λe w'=>∃v' g',e = .returned v'/\fj φ h1 g' w'/\aK φ h1 g' w' v v'/\Frame h.length h g w h1 g' w'
def Gm(P:Program)(φ:fD)(f:Nat)(F:F):Prop:=(F.AW=none/\O3 P φ f F)\/∃p,F.AW=some p/\alL P φ f p
theorem alM:∀{xs:List V}{k t:Nat},cC (oR k xs) t=if k<=t then(xs[t - k]?).getD .u else .u
 | [],k,t=>by simp[oR,cC]
 |x::xs,k,t=>by
  simp only[oR,cC,alM (xs:=xs)];by_cases h:k=t
  .subst h;simp
  .rw[aG h]
   by_cases h2:k<=t
   .have h3:k+1<=t:=by omega
    rw[aN h2,aN h3]
    have:t - k=(t - (k+1))+1:=by omega
    rw[this,Xv]
   .rw[aG h2,aG (by omega)]
theorem alN{h:List O}{xs:List V}{args:Array Value}(hdB:dB<=w.heap.size)(hH:fj φ h g w)(hr:bU φ h g w xs args.toList)(nt:Nat):
  cj φ nt h.length dB ⟨oR 0 xs,h,true⟩ g {tmps:=args++Array.replicate (nt - args.size) undef,defers:=[]} w where
 env k:=by
  rw[alM];simp only[Cq,dH,Nat.sub_zero];cases hx:xs[k]? with
  |none=>simp[aK]
  |some x =>
   obtain⟨v,hv,fY⟩:=Ds hr hx;have hk:k<args.size:=by
    rcases lG k args.size with h1 |h1
    .exact h1
    .simp[KB h1]at hv
   have:(args++Array.replicate (nt - args.size) undef).getD k undef=v:=by
    rw[AS,Array.getElem?_append_left hk];simp at hv;simp[hv]
   rw[this];exact fY
 heap:=hH
 size:=by simp;omega
 defers:=mM.nil hdB
 len:=gh _
theorem alO{h:List O}{zs:List V}{us:List Value}(hr:bU φ h g w zs us):aK φ h g w (tuple zs) (O1 us):=by
 match zs,us,hr with
 | [],[],_=>simp only[tuple,aK];exact⟨#[],rfl,by simp[bU]⟩
 | [z],[u],hr=>simp only[bU]at hr;exact hr.1
 |z::z'::zs,u::u'::us,hr=>simp only[tuple,aK];exact⟨(u::u'::us).toArray,rfl,by simpa using hr⟩
 | [],_::_,hr=>simp[bU]at hr
 |_::_,[],hr=>simp[bU]at hr
 | [_],_::_::_,hr=>simp[bU]at hr
 |_::_::_,[_],hr=>simp[bU]at hr
theorem alP{fn:Func}{tmps:Array Value}{R:Ending->World->Prop}{h:List O}{fuel:Nat}(Inv:World->Prop)
  (hstep:∀w D,Inv w->dB<=D->w.heap[D]?=some (.deferred (some []))->(∀k,(aV h k).live=true->g.β k≠D)->Inv (w.putObj D (.deferred none)))
  (hend:∀w,Inv w->LeavesIn (Wd none) fuel P fn tmps R [] .returning w):∀(ds:List Deferred){w:World},Inv w->mM dB h g ds w->LeavesInM (Wd none) fuel P fn tmps R ds .returning w
 | [],w,hI,_=>hend w hI
 |d::ds,w,hI,hd=>by
  obtain⟨D,rfl,h2,h3,h4⟩:=hd.at_ d (by simp)
  refine⟨by simp,.inl ⟨D,_,rfl,run_takeDeferred h3,alP Inv hstep hend ds (hstep w D hI h2 h3 h4) ⟨λd' hd'=>?_,?_,by simpa using hd.le⟩⟩⟩
  .obtain⟨E,e1,e2,e3,e4⟩:=hd.at_ d' (by simp[hd'])
   refine⟨E,e1,e2,?_,e4⟩;rw[World.putObj_heap_other]
   .exact e3
   .intro he
    subst he;have:=hd.nodup;simp only[Ep]at this;rw[e1]at hd';exact this.1 hd'
  .have:=hd.nodup
   simp only[Ep]at this;exact this.2
theorem alQ{fn:Func}{R:Ending->World->Prop}{h:List O}{g':Gh}{a':Act}{w':World}(hH:fj φ h g w)(hs':cj φ nt m w.heap.size s g' a' w')(hf':Frame m h g w s.heap g' w')
  (hpost:∀w1,cj φ nt m w.heap.size s g' {tmps:=a'.tmps,defers:=[]} w1->Frame m h g w s.heap g' w1->∃v',(results fn a'.tmps).run P w1 = .ok v' w1/\R (.returned v') w1):
  LeavesInM (Wd none) 0 P fn a'.tmps R a'.defers .returning w':=by
 refine alP (h:=s.heap) (g:=g') (dB:=w.heap.size) (λw'=>cj φ nt m w.heap.size s g' {tmps:=a'.tmps,defers:=[]} w'/\Frame m h g w s.heap g' w') (λw1 D hI hD h3 h4=>?_) (λw1 hI=>?_) a'.defers
  ⟨⟨hs'.env,hs'.heap,hs'.size,mM.nil hs'.defers.le,hs'.len⟩,hf'⟩ hs'.defers
 .obtain⟨hS,j3⟩:=hI
  have hle:=U8 (y:=.deferred none) h3 rfl rfl h4;exact⟨⟨λk=>lU hle (hS.env k),U9 hS.heap h3 rfl rfl h4,hS.size,mM.nil (by simpa using hS.defers.le),hS.len⟩,aks j3 hH hD h3 rfl rfl⟩
 .obtain⟨v',hr,hR⟩:=hpost w1 hI.1 hI.2
  exact⟨v',hr,hR⟩
theorem alR(hm:P.follows .mixedOrders=true)(hk:xl P φ){Pv:Prog}(hF:∀f F,Pv f=some F->Gm P φ f F){n:Nat}(ih:mq P φ (iter Pv n)/\DR P φ (iter Pv n)/\ue P φ (iter Pv n)):mq P φ (iter Pv (n+1)):=by
 intro f xs h v h1 gU;simp only[iter,m9]at gU;cases hfn:Pv f with
 |none=>rw[hfn]at gU;simp at gU
 |some F =>
  rw[hfn]at gU;rcases hF f F hfn with⟨hpn,fn,c,k1,k2,k3,k4,k5⟩ |⟨p,hp,hok⟩
  rotate_left
  .simp only at gU
   simp only[hp,gI,dL.val.injEq]at gU;obtain⟨⟨v',h'⟩,hr,rfl,rfl⟩:=gU;exact hok xs h v' h' hr
  simp only[hpn]at gU;refine⟨⟨fn,k1,k2,by simp[k3]⟩,λg w args hH hargs=>?_⟩
  cases he:cS (iter Pv n) h.length F.code ⟨oR 0 xs,h,true⟩with
  |mk e s =>
   rw[he]at gU;have iN:finish F.res F.keep h.length s=some (.val v h1)/\(e = .normal\/e = .ret):=by
    cases e with
    |normal=>exact⟨gU,.inl rfl⟩
    |ret=>exact⟨gU,.inr rfl⟩
    |exit id=>simp at gU
   obtain⟨iN,hee⟩:=iN;have hok:=QI iN;refine(callsIn_wide (n:=0)).1 (callsIn_of_wp_marks (F:=Wd none) k1 k3 trivial (JJ hm hk ih.1 ih.2.1 ih.2.2 c F.code (.inl rfl) k4 (alN (gh _) hH hargs fn.ntmps) (by rw[he];exact hok) λg' a' w' hs' hf'=>?_))
   rw[he]at hs' hf'⊢;have hpost:∀w',cj φ fn.ntmps h.length w.heap.size s g' {tmps:=a'.tmps,defers:=[]} w'->Frame h.length h g w s.heap g' w'->∃v',(results fn a'.tmps).run P w' = .ok v' w'/\∃v'' g'',Ending.returned v' = .returned v''/\fj φ h1 g'' w'/\aK φ h1 g'' w' v v''/\Frame h.length h g w h1 g'' w':=by
    intro w' hs' hf';simp only[finish,hok,dH,og,gI]at iN;obtain⟨vs',⟨vs,hvs,rfl⟩,iN⟩:=iN;obtain⟨us,FT,fY⟩:=O0 hs' k5 hvs;have fY:=aha fY;refine⟨_,alI FT,O1 us,?_⟩;split at iN
    .rename_i hm0
     simp only[gI,dL.val.injEq]at iN;obtain⟨zs,hzs,rfl,rfl⟩:=iN;obtain⟨I',k1,k2,k3⟩:=Ov hs' hzs fY true;have hh:h=[]:=AQ hm0.1;subst hh;have hfr:=hf'.trans k2;obtain⟨q1,q2⟩:=Oh hfr;refine⟨⟨λ_=>0,λ_=>0,I'⟩,rfl,Og k1.heap.new,?_,?_⟩
     .exact alO (BN k3)
     .exact⟨hfr.ext,hfr.size,hfr.os,hfr.tape,hfr.output,λn hn=>by simp at hn,hfr.keep,λn hn=>by simp[aV,O.live]at hn,λn hn=>by simp at hn⟩
    .simp only[gI,dL.val.injEq]at iN
     obtain⟨L,hL,rfl,rfl⟩:=iN;have Vw:=F0 hL hs'.heap;obtain⟨_,yG,_⟩:=DK hL;have alS:=yF (L:=L) yG fY;exact⟨iM g' L,rfl,Vw,alO alS,hf'.trans (Ot hL)⟩
   have alT:LeavesInM (Wd none) 0 P fn a'.tmps (λe w'=>∃v' g',e = .returned v'/\fj φ h1 g' w'/\aK φ h1 g' w' v v'/\Frame h.length h g w h1 g' w') a'.defers .returning w':=by
    exact alQ hH hs' hf' λw1 h1 h2=>let ⟨v',hr,hR⟩:=hpost w1 h1 h2;⟨v',hr,hR⟩
   rcases hee with rfl |rfl
   .exact alT
   .exact alT
theorem alU:∀(l:List (Tmp×Value))(t:Array Value),(l.foldl (λtmps (t,a)=>tmps.setIfInBounds t a) t).size=t.size
 | [],_=>rfl
 |p::l,t=>by rw[KE,alU l];simp
theorem alV{k:Nat}:∀(l:List (Tmp×Value))(t:Array Value),(∀p∈l,p.1≠k)->(l.foldl (λtmps (t,a)=>tmps.setIfInBounds t a) t).getD k undef=t.getD k undef
 | [],_,_=>rfl
 |p::l,t,h=>by
  rw[KE,alV l _ (λq hq=>h q (by simp[hq]))]
  have:=h p (by simp)
  simp[AS,Hi this]
theorem O4{h:List O}{yI:Nat}{rc:List (Nat×V)}:∀(ps:List Nat)(xs:List V)(args:List Value)(t:Array Value),ps.Nodup->(∀p∈ps,p<t.size)->bU φ h g w xs args ->
  (∀k,aK φ h g w (cC rc k) (t.getD k undef))->∀k,aK φ h g w (cC (ps.zip xs++rc) k) (((ps.zip args).foldl (λtmps (t,a)=>tmps.setIfInBounds t a) t).getD k undef)
 | [],_,_,_,_,_,_,hr,k=>by simpa using hr k
 |p::ps,[],[],_,_,_,_,hr,k=>by simpa using hr k
 |p::ps,x::xs,v::vs,t,hnd,hlt,hx,hr,k=>by
  simp only[bU]at hx;simp only[Ep]at hnd;simp only[KI,tB,cC,KE];by_cases hk:p=k
  .subst hk
   rw[aN rfl,alV _ _ (λq hq he=>hnd.1 (by obtain⟨q1,q2⟩:=q;have:=(List.of_mem_zip hq).1;simp only at he;rwa [he]at this))]
   have:=hlt p (by simp)
   simpa[AS,this]using hx.1
  .rw[aG hk]
   have ih:=O4 (yI:=yI) (rc:=rc) ps xs vs (t.setIfInBounds p v) hnd.2 (λq hq=>by simpa using hlt q (by simp[hq])) hx.2
   by_cases DU:k∈ps
   ·
    have ih2:=O4 (yI:=yI) (rc:=(p,.u)::rc) ps xs vs (t.setIfInBounds p v) hnd.2 (λq hq=>by simpa using hlt q (by simp[hq])) hx.2 (λj=>by
     simp only[cC];by_cases hj:p=j
     .rw[aN hj];simp[aK]
     .rw[aG hj];simpa[AS,Hi hj]using hr j) k
    have he:∀(ps:List Nat)(xs:List V),cC (ps.zip xs++(p,V.u)::rc) k=cC (ps.zip xs++rc) k:=by
     intro ps;induction ps with
     |nil=>intro xs;simp[cC,hk]
     |cons q qs Vx =>
      intro xs;cases xs with
      |nil=>simp[cC,hk]
      |cons z zs=>simp only[KI,tB,cC,Vx]
    rw[he]at ih2;exact ih2
   .have ih2:=O4 (yI:=yI) (rc:=(p,.u)::rc) ps xs vs (t.setIfInBounds p v) hnd.2 (λq hq=>by simpa using hlt q (by simp[hq])) hx.2 (λj=>by
     simp only[cC];by_cases hj:p=j
     .rw[aN hj];simp[aK]
     .rw[aG hj];simpa[AS,Hi hj]using hr j) k
    have he:∀(ps:List Nat)(xs:List V),cC (ps.zip xs++(p,V.u)::rc) k=cC (ps.zip xs++rc) k:=by
     intro ps;induction ps with
     |nil=>intro xs;simp[cC,hk]
     |cons q qs Vx =>
      intro xs;cases xs with
      |nil=>simp[cC,hk]
      |cons z zs=>simp only[KI,tB,cC,Vx]
    rw[he]at ih2;exact ih2
 |_::_,[],_::_,_,_,_,hx,_,_=>by simp[bU]at hx
 |_::_,_::_,[],_,_,_,hx,_,_=>by simp[bU]at hx
theorem alW{k:Nat}:∀{env:List (Nat×V)},cC env k = .u\/∃p∈env,p.1=k/\cC env k=p.2
 | []=>.inl rfl
 |p::env=>by
  simp only[cC];by_cases hk:p.1=k
  .rw[aN hk];exact .inr ⟨p,by simp,hk,rfl⟩
  .rw[aG hk]
   rcases alW (env:=env) (k:=k)with h |⟨q,hq,h1,h2⟩
   .exact .inl h
   .exact .inr ⟨q,by simp[hq],h1,h2⟩
theorem Vy{h h':List O}{g':Gh}{w':World}{l:Nat}(hf:Frame m h g w h' g' w')(hl:l<w.heap.size)(hu:∀k,(aV h k).live=true->g.β k≠l):∀k,(aV h' k).live=true->g'.β k≠l:=by
 intro k hk he;rcases hf.mL k hk with⟨j,hj,hb⟩ |hs
 .exact hu j hj (hb.trans he)
 .omega
theorem alX(hm:P.follows .mixedOrders=true)(hk:xl P φ){Pv:Prog}{n:Nat}(ih:mq P φ (iter Pv n)/\DR P φ (iter Pv n)/\ue P φ (iter Pv n)):ue P φ (iter Pv (n+1)):=by
 intro ps A B xs env h e env' h1 gU fuel r g w l rc nt args hlk hnt hps hH hxs OE hlen hl hst hun;simp only[iter,m9]at gU;cases hA:cS (iter Pv n) h.length A ⟨ps.zip xs++env,h,true⟩with
 |mk eA s1 =>
 rw[hA]at gU;cases eA<;>simp only at gU<;>try (simp at gU;done)
 cases hB:cS (iter Pv n) h.length B s1 with
 |mk eB s2 =>
 rw[hB]at gU;simp only at gU;split at gU
 rotate_left
 .simp at gU
 rename_i A0;simp only[gI,dL.out.injEq]at gU;obtain⟨L,hL,rfl,_,rfl⟩:=gU;have UT:s1.ok=true:=zp (rec:=iter Pv n) (m:=h.length) (c:=B) (by rw[hB];exact A0)
 have hlt:=BF hl;have alY:=(hk ps A B rc.assign rc.body nt).1 hlk;simp only[OX,bD,gf,zi]at alY;obtain⟨⟨⟨⟨⟨q1,q2⟩,q3⟩,q4⟩,q5⟩,q6⟩:=alY;have alZ:rc.params.zip args.toArray=(ps.zip args).toArray:=by rw[hps];simp
 rw[alZ];simp only[List.foldl_toArray'];have hs0:cj φ nt h.length 0 ⟨ps.zip xs++env,h,true⟩ g {tmps:=(ps.zip args).foldl (λtmps (t,a)=>tmps.setIfInBounds t a) rc.tmps,defers:=[]} w:=by
  refine⟨O4 (yI:=nt) ps xs args rc.tmps q1 (λp hp=>pU (q2 p hp) hnt) hxs (λk=>?_),hH,by rw[alU];exact hnt,mM.nil (Cq _),gh _⟩
  rcases alW (env:=env) (k:=k)with h0 |⟨p,hp,rfl,h2⟩
  .rw[h0];simp[aK]
  .rw[h2];exact OE p hp
 refine roundIn_of_wpIn trivial ?_;refine JJ (r:=some l) hm hk ih.1 ih.2.1 ih.2.2 rc.assign A (.inr q3) q5 hs0 (by rw[hA];exact UT) λg1 a1 w1 tZ qw=>?_
 rw[hA]at tZ qw⊢;have O5:=Vy qw hlt hun;have ql:w1.heap[l]?=some (.loop rc):=by rw[(qw.keep l hlt hun).1];exact hl
 show ∃w₂,(Instr.beginRound l).run P w1 = .ok () w₂/\_
 refine⟨_,run_beginRound ql hst,?_⟩;have Jm:=tZ.putObj (y:=.loop {rc with state:=.busy}) ql rfl (by simp) rfl O5
 refine JJ (r:=some l) hm hk ih.1 ih.2.1 ih.2.2 rc.body B (.inr q4) q6 Jm (by rw[hB];exact A0) λg2 a2 w2 OY O6=>?_
 rw[hB]at OY O6⊢;have O7:l<(w1.putObj l (.loop {rc with state:=.busy})).heap.size:=by have:=qw.size;simp;omega
 have hu2:=Vy O6 O7 O5;have k8:w2.heap[l]?=some (.loop {rc with state:=.busy}):=by rw[(O6.keep l O7 O5).1];exact World.putObj_heap_same (by simpa using O7)
 have Vw:=F0 hL OY.heap;have OZ:=Ot hL (g:=g2) (w:=w2);have hu3:=Vy OZ (by have:=BF k8;omega) hu2
 have fin:∃v w',(Instr.endRound l (wF eB)).run P w2 = .ok v w'/\∃g',Ending.returned v = .returned (.bool (wF eB).isNone)/\fj φ (sub s2.heap L) g' w'/\Frame h.length h g (w.putObj l (.loop (ud rc eB))) (sub s2.heap L) g' w':=by
  refine⟨_,_,run_endRound (wF eB) k8,iM g2 L,rfl,?_,?_⟩
  .exact U9 Vw k8 rfl rfl hu3
  .have hfr:(.loop {({rc with state:=.busy}:Loop)with state:=if(wF eB).isNone then .ready else .done,pending:=wF eB}:Obj) = .loop (ud rc eB):=by
    cases eB<;>simp[ud,wF]
   rw[hfr];have f1:=U' (y:=.loop (ud rc eB)) qw hl rfl hun;have f2:=U' (y:=.loop (ud rc eB)) O6 (World.putObj_heap_same (by simpa using O7)) rfl O5
   have f3:=U' (y:=.loop (ud rc eB)) OZ k8 rfl hu2;rw[akt]at f2;exact(f1.trans f2).trans f3
 cases eB with
 |normal=>exact fin
 |exit id=>exact fin
 |ret=>exact fin
theorem O8(hm:P.follows .mixedOrders=true)(hk:xl P φ){Pv:Prog}(hF:∀f F,Pv f=some F->Gm P φ f F)(n:Nat):mq P φ (iter Pv n)/\DR P φ (iter Pv n)/\ue P φ (iter Pv n):=by
 induction n using Nat.strongRecOn with
 |_ n ih =>
  refine⟨?_,alK hm hk ih,?_⟩
  .cases n with
   |zero=>intro f xs hp v h1 h;simp[iter]at h
   |succ n=>exact alR hm hk hF (ih n (by omega))
  .cases n with
   |zero=>intro ps A B xs env h e env' h1 h;simp[iter]at h
   |succ n=>exact alX hm hk (ih n (by omega))
theorem al0(hm:P.follows .mixedOrders=true)(hk:xl P φ){Pv:Prog}(hF:∀f F,Pv f=some F->Gm P φ f F):mq P φ (ev Pv)/\DR P φ (ev Pv)/\ue P φ (ev Pv):=
 ⟨λf xs h v h1 he=>let ⟨n,hn⟩:=Ew.1 he;(O8 hm hk hF n).1 f xs h v h1 hn,
  λnt m dB live x c env h e env' h' hc he=>let ⟨n,hn⟩:=Ew.1 he;(O8 hm hk hF n).2.1 nt m dB live x c env h e env' h' hc hn,
  λps A B xs env h e env' h1 he=>let ⟨n,hn⟩:=Ew.1 he;(O8 hm hk hF n).2.2 ps A B xs env h e env' h1 hn⟩
theorem al1(hm:P.follows .mixedOrders=true)(hk:xl P φ){Pv:Prog}(hF:∀f F,Pv f=some F->Gm P φ f F){f:Nat}{ds:List D}{v:V}(h:ev Pv (.call f (ds.map V.d) [])=some (.val v []))
  {I:Nat->Nat}{args:Array Value}(hI:∀b,w.heap.size<=b->I b=0)(hr:cx φ I w ds args.toList):
  Calls P (φ f) args w λe w'=>∃v' I',e = .returned v'/\gO w w'/\(∀b,b<w.heap.size->I' b=I b)/\(∀b,w'.heap.size<=b->I' b=0)/\∀g:Gh,g.I=I'->aK φ [] g w' v v':=by
 obtain⟨n,hn⟩:=Ew.1 h;refine Calls.mono (((O8 hm hk hF n).1 f _ [] v [] hn).2 ⟨λ_=>0,λ_=>0,I⟩ w args (Og hI) (Ai hr)) λe w' hh=>?_
 obtain⟨v',g',rfl,hH,fY,hfr⟩:=hh;obtain⟨q1,q2⟩:=Oh hfr;exact⟨v',g'.I,rfl,q1,q2,hH.new,λgg hg=>ail hg fY⟩
end
end Go.VS
namespace Go.VS
open Go.ChangeShapes Go.WideShapes Go.ChangeAt Go.RowKit
inductive Ty where
 |b
 |i(k:IntKind)
 |s
 |sl(es:Nat)(e:Ty)
 |st(fs:List Ty)
mutual
def Ty.size:Ty->Nat
 | .st fs=>Ty.sizes fs
 |_=>1
def Ty.sizes:List Ty->Nat
 | []=>0
 |t::ts=>t.size+Ty.sizes ts
end
def InK(k:IntKind)(n:Int):Prop:=k.min<=n/\n<=k.max
mutual
def WT:Ty->List D->Prop
 | .b,cs=>∃x,cs=[.b x]
 | .i k,cs=>∃n,cs=[.i k n]/\InK k n
 | .s,cs=>∃x,cs=[.s x]/\x.length<=maxLen
 | .sl es e,cs=>∃nl rows,cs=[.sl es nl rows]/\(nl=true->rows=[])/\rows.length<=maxLen/\∀r∈rows,WT e r
 | .st fs,cs=>sY fs cs
def sY:List Ty->List D->Prop
 | [],cs=>cs=[]
 |t::ts,cs=>∃a b,cs=a++b/\WT t a/\sY ts b
end
def WV:Ty->D->Prop
 | .st fs,x=>∃cs,x = .ag cs/\sY fs cs
 |t,x=>WT t [x]
def DV:List Ty->List D->Prop
 | [],xs=>xs=[]
 |t::ts,xs=>∃x r,xs=x::r/\WV t x/\DV ts r
section
variable (P:Program)
mutual
def sA:Ty->TypeId->Bool
 | .b,t=>match P.underlying t with |some .bool=>true |_=>false
 | .i k,t=>match P.underlying t with |some (.int k')=>k==k' |_=>false
 | .s,t=>match P.underlying t with |some .string=>true |_=>false
 | .sl es e,t=>match P.underlying t with |some (.slice u)=>P.cellsOf u==es&&decide (0<es)&&e.size==es&&sA e u |_=>false
 | .st fs,t=>match P.underlying t with |some (.struct gs)=>P.cellsOf t==Ty.sizes fs&&JK fs gs.toList 0 |_=>false
def JK:List Ty->List Field->Nat->Bool
 | [],[],_=>true
 |t::ts,g::gs,o=>g.offset==o&&P.cellsOf g.type==t.size&&sA t g.type&&JK ts gs (o+t.size)
 |_,_,_=>false
end
end
mutual
theorem al2:∀{t:Ty}{cs:List D},WT t cs->cs.length=t.size
 | .b,cs,h=>by simp only[WT]at h;obtain⟨x,rfl⟩:=h;rfl
 | .i k,cs,h=>by simp only[WT]at h;obtain⟨x,rfl,_⟩:=h;rfl
 | .s,cs,h=>by simp only[WT]at h;obtain⟨x,rfl,_⟩:=h;rfl
 | .sl es e,cs,h=>by simp only[WT]at h;obtain⟨x,r,rfl,_⟩:=h;rfl
 | .st fs,cs,h=>by simp only[WT]at h;simpa[Ty.size]using al3 h
theorem al3:∀{ts:List Ty}{cs:List D},sY ts cs->cs.length=Ty.sizes ts
 | [],cs,h=>by simp only[sY]at h;subst h;rfl
 |t::ts,cs,h=>by
  simp only[sY]at h;obtain⟨a,b,rfl,h1,h2⟩:=h;simp[Ty.sizes,al2 h1,al3 h2]
end
def I0(w:World)(b:Nat):Nat:=match w.heap[b]? with |some (.cells c _ _)=>c.size |_=>0
theorem al4(w:World):∀b,w.heap.size<=b->I0 w b=0:=by
 intro b hb;simp[I0,KB hb]
theorem al5{w:World}{b i:Nat}{v:Value}(h:w.cell? ⟨b,i,none⟩=some v):i<I0 w b:=by
 simp only[World.cell?]at h;unfold I0;split at h
 .rename_i c T f hb
  rw[hb];simp only[AT,fG,dK]at h;exact(Er.1 h).1
 .simp at h
section
variable {H:Type}{enc:TypeId×Value->H}{P:Program}{w:World}{φ:fD}
theorem al6{a:Addr}{n:Nat}{cs:List Value}(h:w.cells? 0 a n=some cs):cs.length=n/\∀i,i<n->∃v,cs[i]?=some v/\w.cell? (a.add i)=some v:=by
 simp only[World.cells?,Cq,dH]at h;have h1:=mapM_some_length h;simp only[Qv]at h1;refine⟨h1,λi hi=>?_⟩
 have h2:=mapM_some_get h i i (by simp[hi])
 have hv:cs[i]?=some cs[i]:=by simp
 exact⟨_,hv,h2.trans hv⟩
theorem al7(a:Addr)(n:Nat)(h:a.spot=none):a.add n=⟨a.block,a.off+n,none⟩:=by
 obtain⟨b,o,s⟩:=a;simp only at h;subst h;exact rj b o n
theorem al8{a:Addr}{v:Value}(h:w.cell? a=some v):a.spot=none:=by
 simp only[World.cell?]at h;split at h
 .cases hs:a.spot with
  |none=>rfl
  |some x=>simp[hs]at h
 .simp at h
theorem al9(sp:Nat->Bool):∀(fuel:Nat){ty:Ty}{t:TypeId}{cs:List Value}{x:DataW H×List MemPlace},sA P ty t=true->DataW.trod enc P w 0 sp true fuel t cs=some x ->
  ∃xs,WT ty xs/\cx φ (I0 w) w xs cs/\∀v∈cs,v.oneCell'=true:=by
 intro fuel;induction fuel with
 |zero=>intro ty t cs x _ h;simp[DataW.trod]at h
 |succ fuel ih =>
  intro ty t cs x hc h;cases ty with
  |b =>
   simp only[sA]at hc;split at hc
   .rename_i hu
    obtain⟨b,rfl,_⟩:=DataW.trod_bool hu h;exact⟨[.b b],by simp only[WT];exact⟨b,rfl⟩,by simp[cx,bT],by simp[Value.oneCell']⟩
   .simp at hc
  |i k =>
   simp only[sA]at hc;split at hc
   .rename_i k' hu
    rw[dO]at hc;subst hc;obtain⟨n,rfl,_,hw⟩:=DataW.trod_int hu h;refine⟨[.i k n],?_,by simp[cx,bT],by simp[Value.oneCell']⟩
    simp only[WT];exact⟨n,rfl,by simpa[Lit.wf,InK]using hw⟩
   .simp at hc
  |s =>
   simp only[sA]at hc;split at hc
   .rename_i hu
    obtain⟨s,rfl,_,hs⟩:=DataW.trod_string hu h;refine⟨[.s s.toList],?_,by simp[cx,bT],by simp[Value.oneCell']⟩
    simp only[WT];refine⟨s.toList,rfl,?_⟩
    have:s.toList.length=s.size:=by simp[ByteArray.toList_eq]
    omega
   .simp at hc
  |sl es e =>
   simp only[sA]at hc;split at hc
   .rename_i u hu
    simp only[bD,dO,gf]at hc;obtain⟨⟨⟨jN,hpos⟩,hsz⟩,hce⟩:=hc;rcases DataW.trod_slice hu h with⟨rfl,_⟩ |⟨a,len,cap,elems,rest,n,hn,rfl,_,_,hlc,jH,hel,hcell,_,_⟩
    .refine⟨[.sl es true []],?_,by simp[cx,bT],by simp[Value.oneCell']⟩
     simp only[WT];exact⟨true,[],rfl,λ_=>rfl,by simp,by simp⟩
    .obtain rfl:fuel=n:=by omega
     rw[jN]at hcell;have hrow:∀i,i<len->∃row vs,WT e row/\cx φ (I0 w) w row vs/\(∀v∈vs,v.oneCell'=true)/\vs.length=es/\∀j v,vs[j]?=some v->w.cell? ((a.add (i*es)).add j)=some v:=by
      intro i hi;have hy:=hcell i hi;rw[show elems[i]?=some elems[i]by simp]at hy
      simp only[og]at hy;obtain⟨vs,hvs,ht⟩:=hy;obtain⟨row,k1,k2,k3⟩:=ih (ty:=e) hce ht;obtain⟨l1,l2⟩:=al6 hvs;refine⟨row,vs,k1,k2,k3,l1,λj v hj=>?_⟩
      have hj':j<es:=by
       rw[<-l1];exact(sF.1 hj).1
      obtain⟨v',jE,Ar⟩:=l2 j hj';rw[jE]at hj;simp at hj;subst hj;exact Ar
     let row:Nat->List D:=λi=>if h:i<len then Classical.choose (hrow i h)else[]
     have Gn:∀i,i<len->∃vs,WT e (row i)/\cx φ (I0 w) w (row i) vs/\(∀v∈vs,v.oneCell'=true)/\vs.length=es/\∀j v,vs[j]?=some v->w.cell? ((a.add (i*es)).add j)=some v:=by
      intro i hi;have:=Cm (hrow i hi);simpa only[row,hi,dite_true]using this
     clear_value row
     refine⟨[.sl es false ((List.range len).map row)],?_,?_,by simp[Value.oneCell']⟩
     .simp only[WT]
      refine⟨false,_,rfl,by simp,by simp;omega,λr hr=>?_⟩
      simp only[gY,KG]at hr;obtain⟨i,hi,rfl⟩:=hr;exact(Gn i hi).choose_spec.1
     .simp only[cx,xP,bT]
      refine⟨some a,cap,by simp,by simpa using hlc,by simp,λ_=>⟨a,rfl,λhne=>?_⟩⟩
      have vB:0<len:=by
       rcases XC len with h0 |h0
       .subst h0;simp at hne
       .exact h0
      have Vz:a.spot=none:=by
       obtain⟨vs,_,_,_,hl,hcell⟩:=Gn 0 vB;have hv:vs[0]?=some vs[0]:=by simp
       have:=al8 (hcell 0 _ hv);simpa[Addr.add]using this
      have ama:∀i,∀vs,(∀j v,vs[j]?=some v->w.cell? ((a.add (i*es)).add j)=some v)->cx φ (I0 w) w (row i) vs->(∀v∈vs,v.oneCell'=true)->nO φ (I0 w) w a.block (a.off+i*es) (row i):=by
       intro i vs hcell hr h1;refine N4 hr (λj v hj=>?_) h1
       have:=hcell j v hj;rw[al7 _ _ Vz]at this
       rwa [rj]at this
      refine⟨Vz,?_,vk λr rw' hr=>?_⟩
      .obtain⟨vs,_,_,_,hl,hcell⟩:=Gn (len - 1) (by omega)
       have hv:vs[es - 1]?=some vs[es - 1]:=by simp
       have:=hcell _ _ hv;rw[al7 _ _ Vz,rj]at this;have:=al5 this;simp only[xM,Qv];have e1:es*len=(len - 1)*es+es:=by
        obtain⟨k,rfl⟩:∃k,len=k+1:=⟨len - 1,by omega⟩
        simp[Ql,jt]
       omega
      .simp only[vP,gI]at hr
       obtain⟨i,hi,rfl⟩:=hr;obtain⟨hrl,hri⟩:=sF.1 hi;simp only[XA]at hri;subst hri;simp only[Qv]at hrl;obtain⟨vs,k1,k2,k3,k4,k5⟩:=Gn r hrl;exact⟨by rw[al2 k1,hsz],ama r vs k5 k2 k3⟩
   .simp at hc
  |st fs =>
   simp only[sA]at hc;split at hc
   .rename_i gs hu
    simp only[bD,dO]at hc;obtain⟨hsz,hcs⟩:=hc;obtain⟨xs,n,hn,_,hl,hxl,hxs⟩:=DataW.trod_struct hu h;obtain rfl:fuel=n:=by omega
    rw[hsz]at hl;have key:∀(fs:List Ty)(gl:List Field)(o:Nat),JK P fs gl o=true->(∀f∈gl,∃x,DataW.trod enc P w 0 sp true fuel f.type ((cs.drop f.offset).take (P.cellsOf f.type))=some x) ->
      o+Ty.sizes fs=cs.length->∃ys,sY fs ys/\cx φ (I0 w) w ys (cs.drop o)/\∀v∈cs.drop o,v.oneCell'=true:=by
     intro fs;induction fs with
     |nil =>
      intro gl o h1 _ h3;simp only[Ty.sizes]at h3
      have:cs.drop o=[]:=qB (by omega)
      rw[this];exact⟨[],by simp[sY],by simp[cx],by simp⟩
     |cons ty fs ihf =>
      intro gl o h1 h2 h3;cases gl with
      |nil=>simp[JK]at h1
      |cons g gl =>
       simp only[JK,bD,dO]at h1;obtain⟨⟨⟨ho,Gp⟩,hgt⟩,sj⟩:=h1;obtain⟨y,hy⟩:=h2 g (by simp)
       rw[ho,Gp]at hy;obtain⟨a,a1,a2,a3⟩:=ih (ty:=ty) hgt hy;simp only[Ty.sizes]at h3;obtain⟨b,b1,b2,b3⟩:=ihf gl (o+ty.size) sj (λf hf=>h2 f (by simp[hf])) (by omega)
       have hsplit:cs.drop o=(cs.drop o).take ty.size++cs.drop (o+ty.size):=by
        rw[<-List.drop_drop,AO]
       refine⟨a++b,by simp only[sY];exact⟨a,b,rfl,a1,b1⟩,?_,λv hv=>?_⟩
       .rw[hsplit];exact Ah a2 b2
       .rw[hsplit]at hv
        exact(dm.1 hv).elim (a3 v) (b3 v)
    obtain⟨ys,y1,y2,y3⟩:=key fs gs.toList 0 hcs (λf hf=>by
     obtain⟨i,hi,rfl⟩:=tv hf;have hi':i<gs.size:=by simpa using hi
     have:=hxs i gs[i] (by simp)
     have hx:xs[i]?=some (xs[i]'(by omega)):=by simp
     exact⟨_,by simpa using this.trans hx⟩) (by simpa using hl.symm)
    exact⟨ys,by simpa only[WT]using y1,by simpa using y2,by simpa using y3⟩
   .simp at hc
theorem amb{sp:Nat->Bool}{ty:Ty}{t:TypeId}{v:Value}{d:DataW H}{ps:List MemPlace}{base:Nat}(hc:sA P ty t=true)(hok:Value.okWide P w .any base t v)(h:DataW.Trod enc P w 0 sp true t v d ps):
  ∃x,WV ty x/\bT φ (I0 w) w x v:=by
 obtain⟨fuel,h⟩:=h;obtain⟨xs,h1,h2,h3⟩:=al9 (φ:=φ) sp fuel hc h;have one:v.cells.toList=[v]->∃x,xs=[x]/\bT φ (I0 w) w x v:=by
  intro he;rw[he]at h2
  match xs,h2 with
  | [x],h2=>simp only[cx,xP]at h2;exact⟨x,rfl,h2⟩
  | [],h2=>simp[cx]at h2
  |_::_::_,h2=>simp[cx]at h2
 cases ty with
 |st fs =>
  simp only[sA]at hc;split at hc
  .rename_i gs hu
   obtain⟨A,rfl,_⟩:=okWide_struct hu hok;refine⟨.ag xs,by simp only[WV];exact⟨xs,rfl,by simpa only[WT]using h1⟩,?_⟩
   simp only[bT];exact⟨A,rfl,h2,h3⟩
  .simp at hc
 |b =>
  simp only[sA]at hc;split at hc
  .rename_i hu
   obtain⟨b,rfl⟩:=okWide_bool hu hok;obtain⟨x,rfl,h⟩:=one rfl;exact⟨x,h1,h⟩
  .simp at hc
 |i k =>
  simp only[sA]at hc;split at hc
  .rename_i k' hu
   obtain⟨b,rfl⟩:=okWide_int hu hok;obtain⟨x,rfl,h⟩:=one rfl;exact⟨x,h1,h⟩
  .simp at hc
 |s =>
  simp only[sA]at hc;split at hc
  .rename_i hu
   obtain⟨b,rfl⟩:=okWide_string hu hok;obtain⟨x,rfl,h⟩:=one rfl;exact⟨x,h1,h⟩
  .simp at hc
 |sl es e =>
  simp only[sA]at hc;split at hc
  .rename_i u hu
   obtain⟨a,l,c,rfl⟩:=okWide_slice hu hok;obtain⟨x,rfl,h⟩:=one rfl;exact⟨x,h1,h⟩
  .simp at hc
def yM(P:Program):List Ty->List TypeId->Bool
 | [],[]=>true
 |ty::tys,t::ts=>sA P ty t&&P.readableRec t&&decide (t<P.types.size)&&yM P tys ts
 |_,_=>false
theorem amc{sp:Nat->Bool}{base:Nat}:∀{tys:List Ty}{ts:List TypeId}{vs:List Value}{ds:List (DataW H)}{ps:List MemPlace},yM P tys ts=true ->
  (∀(j:Nat) t v,ts[j]?=some t->vs[j]?=some v->Value.okWide P w .any base t v)->DataW.TrodAll enc P w 0 sp true ts vs ds ps->ds.length=tys.length/\∃xs,DV tys xs/\cx φ (I0 w) w xs vs
 | [],[],[],[],ps,_,_,_=>⟨rfl,[],by simp[DV],by simp[cx]⟩
 |ty::tys,t::ts,v::vs,d::ds,ps,hc,hok,h=>by
  simp only[yM,bD]at hc;simp only[DataW.TrodAll]at h;obtain⟨p,q,h1,h2,_⟩:=h;obtain⟨x,k1,k2⟩:=amb (φ:=φ) hc.1.1.1 (hok 0 t v rfl rfl) h1;obtain⟨hl,xs,l1,l2⟩:=amc hc.2 (λj t v ht hv=>hok (j+1) t v (by simpa using ht) (by simpa using hv)) h2
  exact⟨by simp[hl],x::xs,by simp only[DV];exact⟨x,xs,rfl,k1,l1⟩,by simp only[cx];exact⟨k2,l2⟩⟩
 | [],_::_,_,_,_,hc,_,_=>by simp[yM]at hc
 |_::_,[],_,_,_,hc,_,_=>by simp[yM]at hc
 | [],[],_::_,_,_,_,_,h=>by simp[DataW.TrodAll]at h
 | [],[],[],_::_,_,_,_,h=>by simp[DataW.TrodAll]at h
 |_::_,_::_,[],_,_,_,_,h=>by simp[DataW.TrodAll]at h
 |_::_,_::_,_::_,[],_,_,_,h=>by simp[DataW.TrodAll]at h
theorem amd(hl:laidOutB P=true){W':World}(hb:Below w.heap.size w W'):∀{tys:List Ty}{ts:List TypeId}{vs:List Value}{ds:List (DataW H)}{ps:List MemPlace},yM P tys ts=true ->
  DataW.TrodAll enc P w 0 (λ_=>true) true ts vs ds ps->(∀x∈ps,x.block<w.heap.size)->DataW.TrodAll enc P W' 0 (λb=>decide (b<w.heap.size)) true ts vs ds ps
 | [],[],[],[],ps,_,h,_=>h
 |ty::tys,t::ts,v::vs,d::ds,ps,hc,h,hlt=>by
  simp only[yM,bD,gf]at hc;simp only[DataW.TrodAll]at h⊢;obtain⟨p,q,h1,h2,rfl⟩:=h;exact⟨p,q,Below.trod hl hc.1.1.2 hc.1.2 h1 hb (λx hx=>hlt x (by simp[hx])),amd hl hb hc.2 h2 (λx hx=>hlt x (by simp[hx])),rfl⟩
 | [],_::_,_,_,_,hc,_,_=>by simp[yM]at hc
 |_::_,[],_,_,_,hc,_,_=>by simp[yM]at hc
 | [],[],_::_,_,_,_,h,_=>by simp[DataW.TrodAll]at h
 | [],[],[],_::_,_,_,h,_=>by simp[DataW.TrodAll]at h
 |_::_,_::_,[],_,_,_,h,_=>by simp[DataW.TrodAll]at h
 |_::_,_::_,_::_,[],_,_,h,_=>by simp[DataW.TrodAll]at h
end
theorem ame{P:Program}{φ:fD}{Pv:Prog}{f:Nat}{fn:Func}{s:ChangeSpec}{tys:List Ty}{rt:TypeId}(hm:P.follows .mixedOrders=true)(hk:xl P φ)(hF:∀f F,Pv f=some F->Gm P φ f F)(hl:laidOutB P=true)
  (hps:yM P tys fn.params.toList=true)(hrt:fn.resultTypes=#[rt])(hu:P.underlying rt=some .bool)(hvars:s.vars=[])
  (hs:∀(H:Type)(ds:List (DataW H)),ds.length=tys.length->s.fn H ds={results:=[.lit (.bool true)],args:=ds,vars:=[]})
  (law:∀xs,DV tys xs->ev Pv (.call f (xs.map V.d) [])=some (.val (.d (.b true)) []))
  {H:Type}{enc:TypeId×Value->H}{W:World}{base:Nat}{args:Array Value}{ds gs:List (DataW H)}{before:List MemPlace}
  (hval:∀(j:Nat) t v,fn.params[j]?=some t->args[j]?=some v->Value.okWide P W .any base t v)
  (hW:DataW.Whole enc P fn.params.toList s.vars false W args.toList ds gs before):
  Calls P (φ f) args W λe W'=>∃v,e = .returned v/\s.post enc P fn false true false false W args v W':=by
 have hW':=hW;obtain⟨p,q,hA,hV,rfl,hfz,hnd⟩:=hW;rw[hvars]at hV;obtain⟨rfl,rfl⟩:=trodVars_none hV;obtain⟨Ji,xs,h1,h2⟩:=amc (φ:=φ) hps (λj t v ht hv=>hval j t v (by simpa using ht) (by simpa using hv)) hA
 refine(al1 hm hk hF (law xs h1) (al4 W) h2).mono λe W' h=>?_
 obtain⟨v',I',rfl,hg,_,_,hr⟩:=h;have hv:=hr ⟨λ_=>0,λ_=>0,I'⟩ rfl
 have jE:=wR (by simpa only[aK]using hv)
 subst jE;have hB:Below W.heap.size W W':=⟨hg.os,hg.tape,hg.output,hg.size,hg.same⟩;have hlt:∀x∈p,x.block<W.heap.size:=λx hx=>by simpa using hW'.lt x (by simp[hx])
 have VA:=hs H ds Ji;refine⟨_,rfl,ds,[],p++[],[],p,[],hW',?_,?_,?_,hB.frame _,λh=>by simp at h⟩
 .rw[qG,VA,hrt]
  exact trodAll_mk1 (shut_bool hu true)
 .rw[qG,VA]
  exact amd hl hB hps hA hlt
 .rw[hvars,qG,VA]
  exact(rfl:([]:List MemPlace)=[])
end Go.VS
