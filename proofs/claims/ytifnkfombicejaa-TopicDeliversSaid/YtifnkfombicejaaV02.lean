import Derived.Test.YtifnkfombicejaaV01
import Derived.MapKept
import Derived.Test.YtifnkfombicejaaV00
import Derived.Laws.AppendOwn
set_option linter.all false
set_option maxHeartbeats 1000000
namespace Go.VS
section
variable {P:Program}{φ:bX}
variable {nt m dB:Nat}{s:St}{g:Gh}{a:Act}{w:World}{K:Act->World->Prop}{Q:Exit->Act->World->Prop}{o:Oper}
def gW(P:Program)(φ:bX)(rec:Rec):Prop :=
 ∀(f:Nat)(xs:List V)(h:List O)(v:V)(h1:List O),rec (.call f xs h)=some (.val v h1) ->
  (∃ fn, P.funcs[φ f]? = some fn ∧ (fn.name == "runtime.NumGoroutine") = false ∧ fn.body.isNone = false) ∧
  ∀(g:Gh)(w:World)(args:Array Value),bT φ h g w->aB φ h g w xs args.toList ->
   Calls P (φ f) args w λe w'=>∃v' g',e = .returned v'/\bT φ h1 g' w'/\ah φ h1 g' w' v v'/\Frame h.length h g w h1 g' w'
theorem By{I:Nat->Nat}{w:World}(h0:∀b,w.heap.size<=b->I b=0):bT φ [] ⟨λ_=>0,λ_=>0,I⟩ w where
 obj n:=by simp[af,cP]
 inj n k hn:=by simp[af,O.live]at hn
 new:=h0
theorem Kb{g':Gh}{w:World}(hg:g'.I=g.I){x:V}{v:Value}(hr:ah φ [] g w x v):ah φ [] g' w x v :=
 fF (h:=[]) (h':=[]) ⟨by rw[hg];exact Ext.refl _ _,bZ _,λn es hn=>by simp at hn,λn hn=>by simp at hn,λn hn=>by simp at hn⟩ hr
theorem Bz{m:Nat}{g0 g2:Gh}{w w':World}{h2:List O}(hfr:Frame m [] g0 w h2 g2 w'):cU w w'/\∀b,b<w.heap.size->g2.I b=g0.I b:=by
 have hk:=λb hb=>hfr.keep b hb (λn hn=>by simp[af,O.live]at hn)
 exact⟨⟨hfr.size,λb hb=>(hk b hb).1,hfr.os,hfr.tape,hfr.output⟩,λb hb=>(hk b hb).2⟩
mutual
theorem Kc{h:List O}{g:Gh}{w:World}:∀{x:V}{v:Value},ah φ [] g w x v->ah φ h g w x v
 | .u,v,_=>by simp[ah]
 | .fB,v,hr=>by simpa[ah]using hr
 | .d x,v,hr=>by simpa only[ah]using hr
 | .loc n r c,v,hr=>by simp[ah]at hr
 | .aJ n off len,v,hr=>by simp[ah]at hr
 | .dX n off len,v,hr=>by simp[ah]at hr
 | .dS _,v,hr=>by simpa only[ah]using hr
 | .mp n,v,hr=>by simp[ah]at hr
 | .fC n,v,hr=>by simp[ah]at hr
 | .rf cs,v,hr=>by
  simp only[ah]at hr⊢;obtain⟨b,off,us,h1,h2,h3,h4⟩:=hr;exact⟨b,off,us,h1,h2,wA h3,h4⟩
 | .fn f a b,v,hr=>by
  simp only[ah]at hr⊢;obtain⟨A,B,h1,h2,h3⟩:=hr;exact⟨A,B,h1,wA h2,wA h3⟩
 | .ag cs,v,hr=>by
  simp only[ah]at hr⊢;obtain⟨A,h1,h2,h3⟩:=hr;exact⟨A,h1,wA h2,h3⟩
 | .tu cs,v,hr=>by
  simp only[ah]at hr⊢;obtain⟨A,h1,h2⟩:=hr;exact⟨A,h1,wA h2⟩
theorem wA{h:List O}{g:Gh}{w:World}:∀{xs:List V}{vs:List Value},aB φ [] g w xs vs->aB φ h g w xs vs
 | [],[],_=>by simp[aB]
 |_::_,_::_,hr=>by
  simp only[aB]at hr⊢;exact⟨Kc hr.1,wA hr.2⟩
 | [],_::_,hr=>by simp[aB]at hr
 |_::_,[],hr=>by simp[aB]at hr
end
theorem Pz{rec:Rec}{f:Nat}{xs:List V}{v:V}(h:iD rec f xs=some v):∃ds,dY xs=some ds/\rec (.call f xs [])=some (.val v []):=by
 unfold iD at h;split at h
 .rename_i ds hds
  refine⟨ds,hds,?_⟩;split at h
  .rename_i v' hv
   simp at h;subst h;exact hv
  .simp at h
 .simp at h
theorem uC{d:Option Nat}(h:j6 nt o d=true):o.dst=d/\∀k,d=some k->k<nt:=by
 simp only[j6,aA,bN]at h;refine⟨h.1,λk hk=>?_⟩
 subst hk;simpa using h.2
theorem BA{f : Nat}{fn : Func}{args : Array Value}(hf : P.funcs[f]? = some fn)(hn : (fn.name == "runtime.NumGoroutine") = false)(hb : fn.body.isNone = false):
  (callFunc f args).run P w = .ok (.enter f args) w:=by
 have hn' : fn.name ≠ "runtime.NumGoroutine" := by simpa using hn
 have hb':fn.body≠none:=by intro h;simp[h]at hb
 simp[callFunc,hf,hn',hb']
theorem Kd{rec:Rec}(hq:gW P φ rec)(hs:aI φ nt m dB s g a w){d:Option Nat}(hd:j6 nt o d=true){f:Nat}{xs:List V}{args:Array Value}{ov:Option V}(iI:ov=iD rec f xs)
  (hok:(s.iU d ov).ok=true)(hr:aB φ s.heap g w xs args.toList)
  (hrun:(execOp a.eval o).run P w=(callFunc (φ f) args).run P w)(hK:bY φ nt m dB s g w (s.iU d ov) o a K):o.wp P a w K Q:=by
 obtain⟨v,hv⟩:=ym hok;obtain⟨ds,hds,dH⟩:=Pz (by rw[<-iI];exact hv)
 obtain⟨⟨fn,hf,hn,hb⟩,jv⟩:=hq f xs [] v [] dH;unfold Oper.wp;rw[hrun,BA hf hn hb];simp only[Oper.upon];have hxs:aB φ [] ⟨λ_=>0,λ_=>0,g.I⟩ w xs args.toList:=by
  rw[vY hds];exact sv (g:=⟨λ_=>0,λ_=>0,g.I⟩) (show aM φ g.I w ds args.toList from qS hds hr)
 refine Calls.mono (jv ⟨λ_=>0,λ_=>0,g.I⟩ w args (By hs.heap.new) hxs) λe w' h=>?_
 obtain⟨v',g1,rfl,iJ,cM,hfr⟩:=h;obtain⟨hg,hI⟩:=Bz hfr;have hnew:=iJ.new;obtain⟨I',pV⟩:∃I',g1.I=I':=⟨_,rfl⟩;rw[pV]at hI hnew;obtain⟨h1,h2⟩:=uC hd;have hs':=hs.Bo (I':=I') hg hI hnew;have PA:ah φ s.heap (g.bM I') w' v v':=Kc (Kb (g':=g.bM I') pV.symm cM);refine hK (g.bM I') v' w' ?_ ?_
 .rw[h1,hv]
  cases d with
  |none=>exact hs'
  |some d=>exact hs'.lT (h2 d rfl) PA
 .rw[hv]
  cases d with
  |none=>exact qV m hs.heap hg hI
  |some d=>exact qV m hs.heap hg hI
theorem PB{rec:Rec}(hq:gW P φ rec)(hs:aI φ nt m dB s g a w){d:Option Nat}{f:Nat}{xs:List A}(hc:aR P φ nt o (.call d f xs)=true)(hok:(aj rec (.call d f xs) s).ok=true)
  (hK:bY φ nt m dB s g w (aj rec (.call d f xs) s) o a K):o.wp P a w K Q:=by
 simp only[aR,aA]at hc;obtain⟨hd,h⟩:=hc;split at h
 .rename_i c ho
  split at h
  .rename_i ff dZ
   simp only[aA,bN]at h;obtain⟨rfl,hx⟩:=h;simp only[aj]at hok hK;refine Kd hq hs hd (f:=f) (xs:=xs.map s.get) (args:=c.args.map a.eval) rfl hok (by simpa using pP hs hx) ?_ hK
   simp[execOp,ho,resolve,dZ,Act.eval,Deferred.ofValue,invoke]
  .simp at h
 .simp at h
theorem sH{h:List O}{g:Gh}:∀{ds:List D}{vs:List Value},aM φ g.I w ds vs->aB φ h g w (ds.map V.d) vs
 | [],[],_=>by simp[aB]
 |_::_,_::_,hr=>by
  simp only[aM]at hr;simp only[cR,aB,ah];exact⟨hr.1,sH hr.2⟩
 | [],_::_,hr=>by simp[aM]at hr
 |_::_,[],hr=>by simp[aM]at hr
theorem PC{rec:Rec}(hq:gW P φ rec)(hs:aI φ nt m dB s g a w){d:Option Nat}{x:A}{xs:List A}(hc:aR P φ nt o (.j0 d x xs)=true)(hok:(aj rec (.j0 d x xs) s).ok=true)
  (hK:bY φ nt m dB s g w (aj rec (.j0 d x xs) s) o a K):o.wp P a w K Q:=by
 simp only[aR,aA]at hc;obtain⟨hd,h⟩:=hc;split at h
 .rename_i c ho
  split at h
  .rename_i y dZ
   simp only[aA]at h;obtain⟨hx,hxs⟩:=h;simp only[aj]at hok hK;have rx:=b7 hs hx;have sI:=pP hs hxs;have key:∀{f:Nat}{A B:Array Value}{zs:List V},a.eval y = .func (.func (φ f)) A B->gM (iD rec) (s.get x) (xs.map s.get)=iD rec f zs ->
     aB φ s.heap g w zs (A.toList++c.args.toList.map a.eval++B.toList)->o.wp P a w K Q:=by
    intro f A B zs he hz hr;refine Kd hq hs hd (f:=f) (xs:=zs) (args:=A++c.args.map a.eval++B) hz hok (by simpa using hr) ?_ hK
    simp[execOp,ho,resolve,dZ,he,Deferred.ofValue,invoke]
   cases hv:s.get x with
   |d z =>
    cases z with
    |fn f first caps =>
     rw[hv]at rx;simp only[ah,aC]at rx;obtain⟨A,B,he,hA,hB⟩:=rx;exact key he (by rw[hv];rfl) (kP (kP (sH hA) sI) (sH hB))
    |_=>rw[hv]at hok;simp[gM,St.iU,St.fail]at hok
   |fn f first caps =>
    rw[hv]at rx;simp only[ah]at rx;obtain⟨A,B,he,hA,hB⟩:=rx;exact key he (by rw[hv];rfl) (kP (kP hA sI) hB)
   |_=>rw[hv]at hok;simp[gM,St.iU,St.fail]at hok
  .simp at h
 .simp at h
end
end Go.VS
namespace Go.VS
section
variable {P:Program}{φ:bX}
variable {nt m dB:Nat}{s:St}{g:Gh}{a:Act}{w:World}{K:Act->World->Prop}{Q:Exit->Act->World->Prop}{o:Oper}
theorem wC{k:CK}{x:D}{a:List D}(h:mG [k] x=some a):a=[x]/\∀cs,x≠.ag cs:=by
 cases x<;>simp[mG]at h<;>exact⟨h.symm,λcs hh=>by cases hh⟩
theorem wD{ks:List CK}{x:D}{a:List D}(hk:∀k,ks≠[k])(h:mG ks x=some a):x = .ag a:=by
 match ks,hk,h with
 | [],_,h=>cases x<;>simp[mG]at h<;>subst h<;>rfl
 | [k],hk,_=>exact absurd rfl (hk k)
 |_::_::_,_,h=>cases x<;>simp[mG]at h<;>subst h<;>rfl
theorem PD{I:Nat->Nat}{kt:TypeId}{ks:List CK}(hk:lS P kt ks=true){x y:D}{b:Bool}(h:gD ks x y=some b){u v:Value}(hu:aC φ I w x u)(hv:aC φ I w y v):(Op.equal kt u v).run P w = .ok b w:=by
 simp only[gD,ij]at h;obtain⟨p,hp,q,hq,hf⟩:=h;unfold lS at hk;split at hk
 .rename_i k
  obtain⟨rfl,_⟩:=wC hp;obtain⟨rfl,_⟩:=wC hq;simp only[fV,ij,cX,bF]at hf;obtain⟨b1,h1,b2,rfl,rfl⟩:=hf;rw[AN];exact JU hk h1 hu hv 9999
 .rename_i hne
  have dh:=wD (λk hh=>hne k hh) hp
  have mK:=wD (λk hh=>hne k hh) hq
  subst dh;subst mK;simp only[aC]at hu hv;obtain⟨A,rfl,ra,_⟩:=hu;obtain⟨B,rfl,rb,_⟩:=hv;unfold Bm at hk;split at hk
  .rename_i fs hfs
   simp only[aA,lF]at hk;obtain⟨⟨sJ,WZ⟩,PE⟩:=hk;have hfo:P.fieldsOf kt=fs:=by simp[Program.fieldsOf,hfs]
   have hst:P.underlying kt=some (.struct (P.fieldsOf kt)):=by rw[hfo];exact hfs
   have PF:=JV (P:=P) (w:=w) 9998 PE hf (by simpa using ra) (by simpa using rb)
   have he:=run_equalIn_struct (P:=P) w 9999 kt A B hst sJ;rw[hfo,PF]at he;exact he
  .simp at hk
theorem Ke{h:List O}{kt:TypeId}{ks:List CK}(hk:lS P kt ks=true){k:D}{u:Value}(hu:aC φ g.I w k u):∀{kv:List (D×V)}{es:List MapEntry}{i:Nat},kO φ h g w kv es->(kv.all λp=>(gD ks k p.1).isSome)=true ->
  ∃r,(Instr.findAsking kt u es i).run P w = .ok r w /\
   match kv.findIdx? (dD ks k)with
   |some j=>∃e,es[j]?=some e/\r=some (i+j,e.val)
   |none=>r=none
 | [],[],i,_,_=>⟨none,by simp[Instr.findAsking],by simp⟩
 |p::kv,e::es,i,hr,hall=>by
  simp only[qF,aA]at hall;obtain⟨b,hb⟩:=Eg.1 hall.1;have hp:=hr.2 0 p e rfl rfl;have heq:=PD (P:=P) (w:=w) hk hb hu hp.1;have Fb:kO φ h g w kv es:=⟨by have:=hr.1;simpa using this,λj q e' hq he=>hr.2 (j+1) q e' (by simpa using hq) (by simpa using he)⟩
  have hki:dD ks k p=b:=by simp[dD,hb]
  cases b with
  |true =>
   refine⟨some (i,e.val),by simp[Instr.findAsking,heq],?_⟩
   rw[n6,hki];exact⟨e,rfl,rfl⟩
  |false =>
   obtain⟨r,h1,h2⟩:=Ke hk hu (i:=i+1) Fb hall.2;refine⟨r,by simp[Instr.findAsking,heq,h1],?_⟩
   rw[n6,hki];simp only[eD,cB];cases hf:kv.findIdx? (dD ks k)with
   |none=>rw[hf]at h2;simpa using h2
   |some j =>
    rw[hf]at h2;obtain⟨e',he',hr'⟩:=h2;refine⟨e',by simpa using he',?_⟩
    rw[hr'];show some (i+1+j,e'.val)=some (i+(j+1),e'.val)
    have:i+1+j=i+(j+1):=by omega
    rw[this]
 | [],_::_,_,hr,_=>by have:=hr.1;simp at this
 |_::_,[],_,hr,_=>by have:=hr.1;simp at this
theorem Kf{I:Nat->Nat}{ks:List CK}{kind:TypeDesc}{x y:D}{b c:Bool}(h:gD ks x y=some b){u v:Value}(hu:aC φ I w x u)(hv:aC φ I w y v)(hs:Instr.sameNow kind u v=some c):c=b:=by
 simp only[gD,ij]at h;obtain⟨p,hp,q,hq,hf⟩:=h;by_cases hone:∃k,ks=[k]
 .obtain⟨k,rfl⟩:=hone
  obtain⟨rfl,_⟩:=wC hp;obtain⟨rfl,_⟩:=wC hq;simp only[fV,ij,cX,bF]at hf;obtain⟨b1,h1,b2,rfl,rfl⟩:=hf;rw[AN];unfold nk at h1;split at h1<;>simp only[bF,reduceCtorEq,x9]at h1
  .obtain⟨rfl,rfl⟩:=h1
   have hu:=lU hu;have hv:=lU hv;subst hu;subst hv;cases kind<;>simp[Instr.sameNow]at hs;exact hs.symm
  .subst h1
   have hu:=oz hu;have hv:=oz hv;subst hu;subst hv;cases kind<;>simp[Instr.sameNow]at hs;exact hs.symm
  .subst h1
   simp only[aC]at hu hv;obtain⟨bs,rfl,hb⟩:=hu;obtain⟨cs,rfl,hc⟩:=hv;cases kind<;>simp[Instr.sameNow]at hs;subst hs;subst hb;subst hc;exact beq_toListBytes _ _
 .have dh:=wD (λk hh=>hone ⟨k,hh⟩) hp
  subst dh;simp only[aC]at hu;obtain⟨A,rfl,_⟩:=hu;cases kind<;>simp[Instr.sameNow]at hs
theorem Kg{h:List O}{kind:TypeDesc}{ks:List CK}{k:D}{u:Value}(hu:aC φ g.I w k u):∀{kv:List (D×V)}{es:List MapEntry}{i:Nat}{r:Option (Nat×Value)},kO φ h g w kv es->(kv.all λp=>(gD ks k p.1).isSome)=true ->
  Instr.findNow kind u es i=some r ->
   match kv.findIdx? (dD ks k)with
   |some j=>∃e,es[j]?=some e/\r=some (i+j,e.val)
   |none=>r=none
 | [],[],i,r,_,_,hf=>by simp[Instr.findNow]at hf;simp[hf]
 |p::kv,e::es,i,r,hr,hall,hf=>by
  simp only[qF,aA]at hall;obtain⟨b,hb⟩:=Eg.1 hall.1;have hp:=hr.2 0 p e rfl rfl;have Fb:kO φ h g w kv es:=⟨by have:=hr.1;simpa using this,λj q e' hq he=>hr.2 (j+1) q e' (by simpa using hq) (by simpa using he)⟩
  have hki:dD ks k p=b:=by simp[dD,hb]
  simp only[Instr.findNow]at hf;split at hf
  .rename_i hs
   have:=Kf hb hu hp.1 hs;subst this;rw[n6,hki];simp at hf;exact⟨e,rfl,hf.symm⟩
  .rename_i hs
   have:=Kf hb hu hp.1 hs;subst this;have h2:=Kg hu Fb hall.2 hf;rw[n6,hki];simp only[eD,cB];cases hf:kv.findIdx? (dD ks k)with
   |none=>rw[hf]at h2;simpa using h2
   |some j =>
    rw[hf]at h2;obtain⟨e',he',hr'⟩:=h2;refine⟨e',by simpa using he',?_⟩
    rw[hr'];show some (i+1+j,e'.val)=some (i+(j+1),e'.val)
    have:i+1+j=i+(j+1):=by omega
    rw[this]
  .simp at hf
 | [],_::_,_,_,hr,_,_=>by have:=hr.1;simp at this
 |_::_,[],_,_,hr,_,_=>by have:=hr.1;simp at this
theorem PG{kt:TypeId}{ks:List CK}(hk:lS P kt ks=true):∃d,P.underlying kt=some d:=by
 unfold lS qX Bm at hk;cases h:P.underlying kt with
 |some d=>exact⟨d,rfl⟩
 |none=>split at hk<;>simp[h]at hk
theorem BC{h:List O}{kt:TypeId}{ks:List CK}(hk:lS P kt ks=true){k:D}{u:Value}(hu:aC φ g.I w k u){kv:List (D×V)}{es:List MapEntry}(hr:kO φ h g w kv es)(hall:(kv.all λp=>(gD ks k p.1).isSome)=true):
  ∃r,(Instr.findKey kt u es).run P w = .ok r w /\
   match kv.findIdx? (dD ks k)with
   |some j=>∃e,es[j]?=some e/\r=some (j,e.val)
   |none=>r=none:=by
 obtain⟨d,hd⟩:=PG hk;cases hf:Instr.findNow d u es 0 with
 |some r =>
  refine⟨r,by simp[Instr.findKey,run_underlying hd,hf],?_⟩
  simpa only[iR]using Kg hu hr hall hf
 |none =>
  obtain⟨r,h1,h2⟩:=Ke hk hu (i:=0) hr hall;refine⟨r,by simp[Instr.findKey,run_underlying hd,hf,h1],?_⟩
  simpa only[iR]using h2
end
end Go.VS
namespace Go.VS
section
variable {P:Program}{φ:bX}
variable {nt m dB:Nat}{s:St}{g:Gh}{a:Act}{w:World}{K:Act->World->Prop}{Q:Exit->Act->World->Prop}{o:Oper}
theorem Kh{kt:TypeId}{k:CK}(hk:qX P kt k=true)(e:Bool)(n:Nat)(u:Value):(Instr.checkKey e (n+1) kt u).run P w = .ok () w:=by
 unfold qX at hk;split at hk<;>simp at hk<;>rename_i hu<;>simp[Instr.checkKey,run_underlying hu]
theorem Ki{I:Nat->Nat}(e:Bool)(n:Nat){A:Array Value}:∀{fs:List Field}{ks:List CK}{off:Nat}{p q:List D}{b:Bool},pM P off fs ks=true->fV ks p q=some b->aM φ I w p (A.toList.drop off) ->
  (forIn fs PUnit.unit (fun(f:Field)(_:PUnit)=>(do
   if f.name ≠ "_" then Instr.checkKey e (n + 1) f.type (← part f.type A f.offset)
   pure (ForInStep.yield PUnit.unit):Sem (ForInStep PUnit)))).run P w = .ok PUnit.unit w
 | [],[],_,_,_,_,_,_,_=>by simp
 |f::fs,k::ks,off,p,q,b,hc,hf,hp=>by
  simp only[pM,aA,bN,AJ]at hc;obtain⟨⟨⟨hn,rfl⟩,hk⟩,hr⟩:=hc;cases p with
  |nil=>simp[fV]at hf
  |cons x p =>
   cases q with
   |nil=>simp[fV]at hf
   |cons y q =>
    simp only[fV,ij,cX]at hf;obtain⟨b1,h1,b2,h2,rfl⟩:=hf;obtain⟨u,hu,ru⟩:=vW hp (j:=0) rfl;have ir:A[f.offset]?=some u:=by simpa[jI]using hu
    have dh:aM φ I w p (A.toList.drop (f.offset+1)):=by
     have:=v9 hp 1;simpa[AK,mm]using this
    have ih:=Ki e n hr h2 dh;have e1:=E0 (P:=P) (w:=w) hk ir;have e2:=Kh (P:=P) (w:=w) hk e n u;simp only[List.forIn_cons,ne_eq,hn,not_false_eq_true,aU,Sem.run_bind,e1,Result.andThen_ok,e2,Sem.run_pure];exact ih
 | [],_::_,_,_,_,_,hc,_,_=>by simp[pM]at hc
 |_::_,[],_,_,_,_,hc,_,_=>by simp[pM]at hc
theorem yE{I:Nat->Nat}{kt:TypeId}{ks:List CK}(hk:lS P kt ks=true){k:D}(mM:(gD ks k k).isSome=true){u:Value}(hu:aC φ I w k u)(e:Bool):(Instr.checkKey e 10000 kt u).run P w = .ok () w:=by
 obtain⟨b,hb⟩:=Eg.1 mM;unfold lS at hk;split at hk
 .exact Kh hk e 9999 u
 .rename_i hne
  simp only[gD,ij]at hb;obtain⟨p,hp,q,hq,hf⟩:=hb;have dh:=wD (λk hh=>hne k hh) hp
  subst dh;simp only[aC]at hu;obtain⟨A,rfl,ra,_⟩:=hu;unfold Bm at hk;split at hk
  .rename_i fs hfs
   simp only[aA,lF]at hk;have:=Ki (P:=P) (w:=w) e 9998 (A:=A) hk.2 hf (by simpa using ra)
   rw[Instr.checkKey];simp only[Sem.run_bind,run_underlying hfs,Result.andThen_ok,<-Array.forIn_toList];have e2 : ∀ (x : PUnit), (forIn fs.toList x fun f _ => if f.name ≠ "_" then(do
       let __do_lift <-part f.type A f.offset
       Instr.checkKey e 9999 f.type __do_lift
       pure (ForInStep.yield PUnit.unit))else(pure (ForInStep.yield PUnit.unit):Sem (ForInStep PUnit))).run P w = .ok PUnit.unit w:=λ_=>this
   rw[e2 PUnit.unit];rfl
  .simp at hk
theorem PI(hs:aI φ nt m dB s g a w){rec:Rec}{d:Nat}(hc:aR P φ nt o (.mq d)=true)
  (hK:bY φ nt m dB s g w (aj rec (.mq d) s) o a K):o.wp P a w K Q:=by
 simp only[aR,aA]at hc;obtain⟨hd,h⟩:=hc;split at h
 .rename_i t ho
  have hrun:(execOp a.eval o).run P w = .ok (.value (.map (some w.heap.size))) (w.alloc (.map #[] 0)):=by
   simp[execOp,ho,Instr.makeMap,newObj];rfl
  simp only[aj,St.ct]at hK;have hg:=cU.alloc w (.map #[] 0);have hb:=pT w (.map #[] 0);refine wj hs hd (b:=w.heap.size) (off:=0) (I':=g.I) hrun hg (λ_ _=>rfl) (λb hb=>hs.heap.new b (by simp at hb;omega)) (bZ _) ?_ ?_ hK
  .exact⟨#[],hb,⟨by simp,λi p e hp=>by simp at hp⟩,rfl,hs.heap.new _ (bZ _)⟩
  .simp only[ah]
   exact⟨by simp,rfl,λ_=>by simp[Gh.add]⟩
 .simp at h
theorem Kj{I:Nat->Nat}{ks:List CK}{x y:D}(h:gD ks x y=some true){u v:Value}(hu:aC φ I w x u)(hv:aC φ I w y v):Instr.sameBits 10000 v u=true:=by
 simp only[gD,ij]at h;obtain⟨p,hp,q,hq,hf⟩:=h;have cell:∀{k:CK}{x y:D}{u v:Value}(n:Nat),nk k x y=some true->aC φ I w x u->aC φ I w y v->Instr.sameBits n v u=true:=by
  intro k x y u v n h1 hu hv;unfold nk at h1;split at h1<;>simp only[bF,reduceCtorEq,x9]at h1
  .obtain⟨rfl,h1⟩:=h1
   have hu:=lU hu;have hv:=lU hv;subst hu;subst hv;have h1:=bN.1 h1;subst h1;cases n<;>simp[Instr.sameBits]
  .have hu:=oz hu;have hv:=oz hv;subst hu;subst hv
   have h1:=bN.1 h1;subst h1;cases n<;>simp[Instr.sameBits]
  .simp only[aC]at hu hv
   obtain⟨bs,rfl,hb⟩:=hu;obtain⟨cs,rfl,hc⟩:=hv;have h1:=bN.1 h1;subst hb;subst hc;have hb:(cs==bs)=true:=by rw[beq_toListBytes];exact bN.2 h1.symm
   cases n<;>simp only[Instr.sameBits]<;>exact hb
 by_cases hone:∃k,ks=[k]
 .obtain⟨k,rfl⟩:=hone
  obtain⟨rfl,_⟩:=wC hp;obtain⟨rfl,_⟩:=wC hq;simp only[fV,ij,cX,bF]at hf;obtain⟨b1,h1,b2,rfl,h2⟩:=hf;rw[AN]at h2;subst h2;exact cell _ h1 hu hv
 .have dh:=wD (λk hh=>hone ⟨k,hh⟩) hp
  have mK:=wD (λk hh=>hone ⟨k,hh⟩) hq
  subst dh;subst mK;simp only[aC]at hu hv;obtain⟨A,rfl,ra,_⟩:=hu;obtain⟨B,rfl,rb,_⟩:=hv;have hl:∀{ks:List CK}{p q:List D}{A B:List Value},fV ks p q=some true->aM φ I w p A->aM φ I w q B->A.length=B.length/\((B.zip A).all λx=>Instr.sameBits 9999 x.1 x.2)=true:=by
   intro ks;induction ks with
   |nil =>
    intro p q A B hf ra rb;cases p<;>cases q<;>simp[fV]at hf;cases A<;>cases B<;>simp_all[aM]
   |cons k ks ih =>
    intro p q A B hf ra rb;cases p with
    |nil=>simp[fV]at hf
    |cons x p =>
     cases q with
     |nil=>simp[fV]at hf
     |cons y q =>
      cases A with
      |nil=>simp[aM]at ra
      |cons a A =>
       cases B with
       |nil=>simp[aM]at rb
       |cons b B =>
        simp only[fV,ij,cX]at hf;obtain⟨b1,h1,b2,h2,h3⟩:=hf;simp only[aA]at h3;obtain⟨rfl,rfl⟩:=h3;simp only[aM]at ra rb;obtain⟨i1,i2⟩:=ih h2 ra.2 rb.2;exact⟨by simp[i1],by simp only[AO,qF,aA];exact⟨cell 9999 h1 ra.1 rb.1,i2⟩⟩
  obtain⟨h1,h2⟩:=hl hf ra rb;have h1':B.size=A.size:=by simpa using h1.symm
  simp only[Instr.sameBits,h1',beq_self_eq_true,AP];exact h2
theorem sK{ks:List CK}{k:D}:∀{kv:List (D×V)},vR ks k kv=match kv.findIdx? (dD ks k)with |some j=>(kv[j]?).map (·.2) |none=>none
 | []=>rfl
 |p::kv=>by
  simp only[vR,n6];split
  .simp
  .rw[sK (kv:=kv)]
   cases kv.findIdx? (dD ks k)<;>simp
theorem Kk{ks:List CK}{k:D}{v:V}:∀{kv:List (D×V)},vS ks k v kv=match kv.findIdx? (dD ks k)with |some j=>kv.set j (k,v) |none=>kv++[(k,v)]
 | []=>rfl
 |p::kv=>by
  simp only[vS,n6];split
  .simp
  .rw[Kk (kv:=kv)]
   cases kv.findIdx? (dD ks k)<;>simp
theorem yF{ks:List CK}{k:D}:∀{kv:List (D×V)},iC ks k kv=match kv.findIdx? (dD ks k)with |some j=>kv.eraseIdx j |none=>kv
 | []=>rfl
 |p::kv=>by
  simp only[iC,n6];split
  .simp
  .rw[yF (kv:=kv)]
   cases kv.findIdx? (dD ks k)<;>simp
theorem BD{ks:List CK}{k:D}{kv:List (D×V)}{j:Nat}(h:kv.findIdx? (dD ks k)=some j):j<kv.length/\∃p,kv[j]?=some p/\dD ks k p=true:=by
 obtain⟨h1,h2,_⟩:=tP.1 h;exact⟨h1,kv[j],by simp[h1],h2⟩
theorem Kl{ks:List CK}{k:D}{p:D×V}(h:dD ks k p=true):gD ks k p.1=some true:=by
 unfold dD at h;cases hq:gD ks k p.1 with
 |none=>simp[hq]at h
 |some b=>simp[hq]at h;rw[h]
theorem yG{ks:List CK}{k:D}{v:V}{kv:List (D×V)}{ck:Nat}{bs:List Nat}:yh ks k v kv ck bs=match kv.findIdx? (dD ks k)with |some j=>.mp (kv.set j (k,v)) ck bs |none=>.mp (kv++[(k,v)]) (ck+1) (bs++[ck]):=by
 unfold yh;rw[Kk,sK];cases h:kv.findIdx? (dD ks k)with
 |none=>simp
 |some j =>
  obtain⟨_,p,hp,_⟩:=BD h;simp[hp]
theorem yH{ks:List CK}{k:D}:∀{kv:List (D×V)}{bs:List Nat},kv.length=bs.length->vT ks k kv bs=match kv.findIdx? (dD ks k)with |some j=>bs.eraseIdx j |none=>bs
 | [],[],_=>rfl
 |p::kv,b::bs,h=>by
  simp only[vT,n6];split
  .simp
  .rw[yH (kv:=kv) (by simpa using h)]
   cases kv.findIdx? (dD ks k)<;>simp
 | [],_::_,h=>by simp at h
 |_::_,[],h=>by simp at h
theorem BE(hs:aI φ nt m dB s g a w){n:Nat}{kv kv':List (D×V)}{ES fI:Array MapEntry}{cz gp:Nat}{bs bs':List Nat}{ok:Bool}(hn:af s.heap n = .mp kv cz bs)(hb:w.heap[g.β n]?=some (.map ES cz))(hI:g.I (g.β n)=0)
  (hnew:∀{h':List O}{w':World},cT s.heap g w h' g w'->kO φ h' g w' kv' fI.toList)(gX:fI.toList.map (·.born)=bs'):
  ∃w',(setObj (g.β n) (.map fI gp)).run P w = .ok () w'/\aI φ nt m dB ⟨s.env,s.heap.set n (.mp kv' gp bs'),ok⟩ g a w'/\Frame m s.heap g w (s.heap.set n (.mp kv' gp bs')) g w'/\cT s.heap g w (s.heap.set n (.mp kv' gp bs')) g w':=by
 have hl:(af s.heap n).live=true:=by rw[hn];rfl
 have hlt:g.β n<w.heap.size:=hs.heap.block hl;refine⟨_,MapKept.run_setObj_map (P:=P) _ hb,?_⟩;have ht:fG w {w with heap:=w.heap.setIfInBounds (g.β n) (.map fI gp)} (g.β n):=
  ⟨by simp,λk hk=>by simp[vE (tL hk)],rfl,rfl,rfl⟩
 have hE:Ext g.I w g.I {w with heap:=w.heap.setIfInBounds (g.β n) (.map fI gp)}:=⟨λ_=>bZ _,λb i hi=>by
  by_cases yI:b=g.β n
  .subst yI;omega
  .exact v5 (ht.same b yI) i⟩
 have hle:=nF (x:=.mp kv' gp bs') hs.heap hl ht hE (λes he=>by simp[O.dg]at he) (λ_=>by rw[hn];rfl)
 have hH:=nG (x:=.mp kv' gp bs') hs.heap hl ht hle (λ_ _=>rfl) ⟨fI,by simp[hlt],hnew hle,gX,hI⟩
 exact⟨hs.oy hl ht hle hH,nH (.mp kv' gp bs') hl ht hE (λ_ _=>rfl) hle,hle⟩
theorem yJ{ks:List CK}{k:D}{kv:List (D×V)}(h:nu ks k kv=true):(gD ks k k).isSome=true/\(kv.all λp=>(gD ks k p.1).isSome)=true:=by
 simpa[nu]using h
theorem wE{h:List O}(hH:bT φ h g w){n:Nat}{v:Value}{kv:List (D×V)}{cz:Nat}{bs:List Nat}(hn:af h n = .mp kv cz bs)(hr:ah φ h g w (.mp n) v):v = .map (some (g.β n))/\∃ES,w.heap[g.β n]?=some (.map ES cz)/\kO φ h g w kv ES.toList/\ES.toList.map (·.born)=bs/\g.I (g.β n)=0:=by
 simp only[ah]at hr;have:=hH.obj n;rw[hn]at this;exact⟨hr.2.2 (by rw[hn];rfl),this⟩
theorem yK{h:List O}{k:D}{v:Value}(hr:ah φ h g w (.d k) v):aC φ g.I w k v:=by simpa only[ah]using hr
theorem Fc{f:MapEntry->MapEntry}{j:Nat}{l:List MapEntry}(hf:∀e,(f e).born=e.born:=by intro e;rfl):(l.modify j f).map (·.born)=l.map (·.born):=by
 refine qE λi=>?_
 rw[jg,jg,AQ];cases l[i]? with
 |none=>rfl
 |some e=>by_cases h:j=i<;>simp[h,hf]
theorem PJ{j:Nat}{l:List MapEntry}:(l.eraseIdx j).map (·.born)=(l.map (·.born)).eraseIdx j:=by
 refine qE λi=>?_
 rw[jg,Eh,Eh];split<;>simp
theorem PK(hs:aI φ nt m dB s g a w){rec:Rec}{x k v:A}{ks:List CK}(hc:aR P φ nt o (.ji x k v ks)=true)(hok:(aj rec (.ji x k v ks) s).ok=true)
  (hK:bY φ nt m dB s g w (aj rec (.ji x k v ks) s) o a K):o.wp P a w K Q:=by
 simp only[aR,aA,bN]at hc;obtain⟨j9,hc⟩:=hc;have key:∀{t:TypeId}{x' k' v':Operand},(execOp a.eval o).run P w=(do Instr.mapUpdate t (a.eval x') (a.eval k') (a.eval v');pure .skip:Sem Next).run P w ->
   (bE φ x' x&&bE φ k' k&&bE φ v' v&&(match P.underlying t with |some (.map kt _)=>lS P kt ks |_=>false))=true->o.wp P a w K Q:=by
  intro t x' k' v' ho h;simp only[aA]at h;obtain⟨⟨⟨hx,hk⟩,hv⟩,ht⟩:=h;split at ht
  .rename_i kt et kU
   have rx:=b7 hs hx;have rk:=b7 hs hk;have rv:=b7 hs hv;simp only[aj]at hok hK;obtain⟨hh,hst⟩:=Bw hok;rw[hst]at hK;unfold kJ at hst;split at hst
   .rename_i n kd cj hkv
    rw[cj]at rx;rw[hkv]at rk;split at hst
    .rename_i kv cz bs hn
     split at hst
     .rename_i bP
      obtain⟨iL,PL⟩:=bP;simp only[bF]at hst;subst hst;obtain⟨mM,hall⟩:=yJ iL;obtain⟨ex,ES,hb,gO,gX,hI⟩:=wE hs.heap hn rx;have eT:=yK rk;have e1:=yE (P:=P) (w:=w) ht mM eT false;obtain⟨r,e2,e3⟩:=BC (P:=P) ht eT gO hall;have fin:∀{kv':List (D×V)}{fI:Array MapEntry}{gp:Nat}{bs':List Nat},yh ks kd (s.get v) kv cz bs = .mp kv' gp bs'->fI.toList.map (·.born)=bs'->(Instr.mapUpdate t (a.eval x') (a.eval k') (a.eval v')).run P w=(setObj (g.β n) (.map fI gp)).run P w ->
        (∀{h':List O}{w':World},cT s.heap g w h' g w'->kO φ h' g w' kv' fI.toList)->o.wp P a w K Q:=by
       intro kv' fI gp bs' Fe yL hrun hnew;obtain⟨w',h1,h2,h3,_⟩:=BE (P:=P) hs (ok:=s.ok) (gp:=gp) hn hb hI hnew yL;refine EV (w':=w') (by rw[ho];simp[hrun,h1]) ?_
       have:=hK g undef w';rw[j9]at this⊢;rw[Fe]at this;exact this h2 h3
      cases hf:kv.findIdx? (dD ks kd)with
      |none =>
       rw[hf]at e3;subst e3;refine fin (kv':=kv++[(kd,s.get v)]) (fI:=ES.push {key:=a.eval k',val:=a.eval v',born:=cz}) (gp:=cz+1) (bs':=bs++[cz]) (by rw[yG,hf]) (by simp[gX]) ?_ λhle=>?_
       .simp[Instr.mapUpdate,run_underlying kU,ex,MapKept.run_getObj_map hb,e1,e2]
       .have hm:=sC hle gO
        refine⟨by simpa using hm.1,λi p e hp he=>?_⟩
        rw[Array.toList_push]at he;have hlen:=hm.1;rcases lB i kv.length with hi |hi |hi
        .rw[jH hi]at hp
         rw[jH (by omega)]at he
         exact hm.2 i p e hp he
        .subst hi
         rw[n5 (bZ _)]at hp;rw[n5 (by omega)]at he
         rw[hlen]at he;simp at hp he;subst hp;subst he;exact⟨nA hle.ext eT,fF hle rv⟩
        .rw[dL (by simp;omega)]at hp
         simp at hp
      |some j =>
       rw[hf]at e3;obtain⟨e,he,rfl⟩:=e3;obtain⟨hj,p,hp,hpk⟩:=BD hf;have uD:=Kj (w:=w) (Kl hpk) eT (gO.2 j p e hp he).1;have he':ES[j]?=some e:=by simpa using he
       refine fin (kv':=kv.set j (kd,s.get v)) (fI:=ES.modify j λe=>{e with key:=a.eval k',val:=a.eval v'}) (gp:=cz) (bs':=bs) (by rw[yG,hf]) (by rw[<-gX,vF];exact Fc) ?_ λhle=>?_
       .simp[Instr.mapUpdate,run_underlying kU,ex,MapKept.run_getObj_map hb,e1,e2,he',Instr.keyThatStays,uD]
       .have hm:=sC hle gO
        refine⟨by simpa using hm.1,λi p' e' dh he'=>?_⟩
        rw[vF,AQ]at he';rw[vG]at dh;split at dh
        .rename_i hij
         subst hij;simp[he]at he';simp only[hj,aU,bF]at dh;subst dh;subst he';exact⟨nA hle.ext eT,fF hle rv⟩
        .rename_i hij
         simp[hij]at he';exact hm.2 i p' e' dh (by simpa using he')
     .simp at hst
    .simp at hst
   .simp at hst
  .simp at ht
 split at hc
 .rename_i t x' k' v' ho
  exact key (by simp[execOp,ho]) hc
 .rename_i t x' k' v' ho
  exact key (by simp[execOp,ho]) hc
 .simp at hc
theorem Km(hs:aI φ nt m dB s g a w){rec:Rec}{d:Nat}{x k:A}{z:D}{c:Bool}{ks:List CK}(hc:aR P φ nt o (.jj d x k z c ks)=true)(hok:(aj rec (.jj d x k z c ks) s).ok=true)
  (hK:bY φ nt m dB s g w (aj rec (.jj d x k z c ks) s) o a K):o.wp P a w K Q:=by
 simp only[aR,aA]at hc;obtain⟨hd,hc⟩:=hc;split at hc
 .rename_i t x' k' c' ho
  simp only[aA,bN]at hc;obtain⟨⟨⟨hx,hk⟩,rfl⟩,ht⟩:=hc;split at ht
  .rename_i kt et kU
   simp only[aA]at ht;obtain⟨ht,hz⟩:=ht;split at hz
   .rename_i info uA
    split at hz
    .rename_i zv yM
     have rx:=b7 hs hx;have rk:=b7 hs hk;simp only[aj]at hok hK;refine j7 hs hd hok (λv hv=>?_) hK
     have hzero:(zeroValue et).run P w = .ok zv w:=by simp[zeroValue,typeInfo,uA,yM]
     have fin:∀{kd:D}{kv:List (D×V)}{ES:List MapEntry}{es:Array MapEntry},s.get k = .d kd->es.toList=ES->kO φ s.heap g w kv ES->pF ks kd z c' kv=some v ->
       (a.eval x' = .map none/\es=#[]\/∃n cz,a.eval x' = .map (some n)/\w.heap[n]?=some (.map es cz)) ->
       ∃v',(execOp a.eval o).run P w = .ok (.value v') w/\ah φ s.heap g w v v':=by
      intro kd kv ES es eT gn gO hl hrun;rw[eT]at rk;have eT:=yK rk;unfold pF at hl;split at hl
      .rename_i iL
       obtain⟨mM,hall⟩:=yJ iL;have e1:=yE (P:=P) (w:=w) ht mM eT es.isEmpty;obtain⟨r,e2,e3⟩:=BC (P:=P) ht eT gO hall;rw[sK]at hl;cases hf:kv.findIdx? (dD ks kd)with
       |none =>
        rw[hf]at e3 hl;subst e3;simp only[bF]at hl;subst hl;refine⟨if c' then .tuple #[zv,.bool false]else zv,?_,?_⟩
        .rcases hrun with⟨ex,rfl⟩ |⟨n,cz,ex,hb⟩
         .simp at gn
          subst gn;simp at e1 e2;simp[execOp,ho,Instr.lookup,ex,run_underlying kU,e1,e2,hzero]
         .simp[execOp,ho,Instr.lookup,ex,run_underlying kU,MapKept.run_getObj_map hb,e1,gn,e2,hzero]
        .have:=Bn (w:=w) (I:=g.I) hz
         cases c' with
         |true=>simp only[aU,ah];exact⟨_,rfl,by simp[aB,ah,aC,this]⟩
         |false=>simp only[eD,cB,ah];exact this
       |some j =>
        rw[hf]at e3 hl;obtain⟨e,he,rfl⟩:=e3;obtain⟨hj,p,hp,hpk⟩:=BD hf;simp only[hp,fy,bF]at hl;subst hl;have jO:=(gO.2 j p e hp he).2;refine⟨if c' then .tuple #[e.val,.bool true]else e.val,?_,?_⟩
        .rcases hrun with⟨ex,rfl⟩ |⟨n,cz,ex,hb⟩
         .simp at gn
          subst gn;simp at he
         .simp[execOp,ho,Instr.lookup,ex,run_underlying kU,MapKept.run_getObj_map hb,e1,gn,e2]
        .cases c' with
         |true=>simp only[aU,ah];exact⟨_,rfl,by simp[aB,ah,aC,jO]⟩
         |false=>simpa only[eD,cB]using jO
      .simp at hl
     unfold eS at hv;split at hv
     .rename_i kd eT
      split at hv
      .rename_i n cj
       rw[cj]at rx;split at hv
       .rename_i kv cz bs hn
        obtain⟨ex,ES,hb,gO,_,hI⟩:=wE hs.heap hn rx;exact fin (es:=ES) eT rfl gO hv (.inr ⟨_,_,ex,hb⟩)
       .simp at hv
      .rename_i cj
       rw[cj]at rx;have ex:a.eval x' = .map none:=by simpa[ah,aC]using rx
       exact fin (es:=#[]) (kv:=[]) eT rfl ⟨rfl,λi p e hp=>by simp at hp⟩ hv (.inl ⟨ex,rfl⟩)
      .simp at hv
     .simp at hv
    .simp at hz
   .simp at hz
  .simp at ht
 .simp at hc
theorem PM(hs:aI φ nt m dB s g a w){rec:Rec}{x k:A}{ks:List CK}(hc:aR P φ nt o (.iC x k ks)=true)(hok:(aj rec (.iC x k ks) s).ok=true)
  (hK:bY φ nt m dB s g w (aj rec (.iC x k ks) s) o a K):o.wp P a w K Q:=by
 simp only[aR,aA,bN]at hc;obtain⟨j9,hc⟩:=hc;split at hc
 .rename_i c ho
  split at hc
  .rename_i x' k' t t2 dZ hargs iH
   simp only[aA]at hc;obtain⟨⟨hx,hk⟩,ht⟩:=hc;split at ht
   .rename_i kt et kU
    obtain⟨we,args,tys⟩:=c;simp only at dZ hargs iH;have kR:args=#[x',k']:=by rw[<-Array.toList_inj];exact hargs
    have mL:tys=#[t,t2]:=by rw[<-Array.toList_inj];exact iH
    subst dZ;subst kR;subst mL;have rx:=b7 hs hx;have rk:=b7 hs hk;simp only[aj]at hok hK;obtain⟨hh,hst⟩:=Bw hok;rw[hst]at hK;have fin:∀{w':World},(Builtin.delete_ #[t,t2] o.type #[a.eval x',a.eval k']).run P w = .ok (.tuple #[]) w'->aI φ nt m dB ⟨s.env,hh,s.ok⟩ g a w'->Frame m s.heap g w hh g w'->o.wp P a w K Q:=by
     intro w' h1 h2 h3;refine pN (v':=.tuple #[]) (w':=w') (by simp[execOp,ho,resolve,invoke,builtin,h1]) ?_
     have:=hK g (.tuple #[]) w';rw[j9]at this⊢;exact this h2 h3
    unfold pI at hst;split at hst
    .rename_i n kd cj hkv
     rw[cj]at rx;rw[hkv]at rk;have eT:=yK rk;split at hst
     .rename_i kv cz bs hn
      split at hst
      .rename_i iL
       simp only[bF]at hst;subst hst;obtain⟨mM,hall⟩:=yJ iL;obtain⟨ex,ES,hb,gO,gX,hI⟩:=wE hs.heap hn rx;have Kn:kv.length=bs.length:=by rw[<-gX,qG];exact gO.1
       have e1:=yE (P:=P) (w:=w) ht mM eT ES.isEmpty;obtain⟨r,e2,e3⟩:=BC (P:=P) ht eT gO hall;have go:∀{kv':List (D×V)}{fI:Array MapEntry}{bs':List Nat},iC ks kd kv=kv'->vT ks kd kv bs=bs'->fI.toList.map (·.born)=bs'->(Builtin.delete_ #[t,t2] o.type #[a.eval x',a.eval k']).run P w=(do setObj (g.β n) (.map fI cz);pure (.tuple #[]):Sem Value).run P w ->
         (∀{h':List O}{w':World},cT s.heap g w h' g w'->kO φ h' g w' kv' fI.toList)->o.wp P a w K Q:=by
        intro kv' fI bs' Fe PN yL hrun hnew;obtain⟨w',h1,h2,h3,_⟩:=BE (P:=P) hs (ok:=s.ok) (gp:=cz) hn hb hI hnew yL;subst Fe;subst PN;exact fin (by rw[hrun];simp[h1]) h2 h3
       cases hf:kv.findIdx? (dD ks kd)with
       |none =>
        rw[hf]at e3;subst e3;refine go (kv':=kv) (fI:=ES) (bs':=bs) (by rw[yF,hf]) (by rw[yH Kn,hf]) gX ?_ λhle=>sC hle gO
        simp[Builtin.delete_,run_underlying kU,ex,MapKept.run_getObj_map hb,e1,e2]
       |some j =>
        rw[hf]at e3;obtain⟨e,he,rfl⟩:=e3;refine go (kv':=kv.eraseIdx j) (fI:=ES.eraseIdxIfInBounds j) (bs':=bs.eraseIdx j) (by rw[yF,hf]) (by rw[yH Kn,hf]) (by rw[<-gX,Array.toList_eraseIdxIfInBounds];exact PJ) ?_ λhle=>?_
        .simp[Builtin.delete_,run_underlying kU,ex,MapKept.run_getObj_map hb,e1,e2]
        .have hm:=sC hle gO
         have het:(ES.eraseIdxIfInBounds j).toList=ES.toList.eraseIdx j:=by simp
         rw[het];refine⟨by rw[AR,AR,hm.1],λi p e hp he=>?_⟩
         rw[Eh]at hp he;split at hp
         .rename_i hij;rw[aN hij]at he;exact hm.2 i p e hp he
         .rename_i hij;rw[aF hij]at he;exact hm.2 (i+1) p e hp he
      .simp at hst
     .simp at hst
    .rename_i kd cj hkv
     rw[cj]at rx;rw[hkv]at rk;have eT:=yK rk;have ex:a.eval x' = .map none:=by simpa[ah,aC]using rx
     split at hst
     .rename_i iL
      simp only[bF]at hst;subst hst;obtain⟨mM,hall⟩:=yJ iL;have e1:=yE (P:=P) (w:=w) ht mM eT true;refine fin (w':=w) ?_ hs (Frame.refl _ _ _ _);simp[Builtin.delete_,run_underlying kU,ex,e1]
     .simp at hst
    .simp at hst
   .simp at ht
  .simp at hc
 .simp at hc
theorem PO(hs:aI φ nt m dB s g a w){rec:Rec}{d:Nat}{x k:A}{z:D}{ks:List CK}(hc:aR P φ nt o (.mu d x k z ks)=true)(hok:(aj rec (.mu d x k z ks) s).ok=true)
  (hK:bY φ nt m dB s g w (aj rec (.mu d x k z ks) s) o a K):o.wp P a w K Q:=by
 simp only[aR,aA]at hc;obtain⟨hd,hc⟩:=hc;obtain⟨uE,hd2⟩:=pQ hd;split at hc
 .rename_i t x' k' ho
  simp only[aA]at hc;obtain⟨⟨hx,hk⟩,ht⟩:=hc;split at ht
  .rename_i kt et kU
   simp only[aA]at ht;obtain⟨ht,hz⟩:=ht;split at hz
   .rename_i info uA
    split at hz
    .rename_i zv yM
     have rx:=b7 hs hx;have rk:=b7 hs hk;simp only[aj]at hok hK;obtain⟨vv,hh,hst⟩:=pU hok;rw[hst]at hK;simp only[St.ct]at hK;have hzero:(zeroValue et).run P w = .ok zv w:=by simp[zeroValue,typeInfo,uA,yM]
     unfold pG at hst;split at hst
     .rename_i n kd cj hkv
      rw[cj]at rx;rw[hkv]at rk;split at hst
      .rename_i kv cz bs hn
       split at hst
       .rename_i iL
        obtain⟨mM,hall⟩:=yJ iL;obtain⟨ex,ES,hb,gO,gX,hI⟩:=wE hs.heap hn rx;have eT:=yK rk;have e1:=yE (P:=P) (w:=w) ht mM eT false;obtain⟨r,e2,e3⟩:=BC (P:=P) ht eT gO hall;have fin:∀{kv':List (D×V)}{fI:Array MapEntry}{gp:Nat}{bs':List Nat}{uF:Value},hh=s.heap.set n (.mp kv' gp bs')->fI.toList.map (·.born)=bs' ->
          (Instr.mapEntry t (a.eval x') (a.eval k')).run P w=(do setObj (g.β n) (.map fI gp);pure uF:Sem Value).run P w ->
          (∀{h':List O}{w':World},cT s.heap g w h' g w'->kO φ h' g w' kv' fI.toList)->(∀{h':List O}{w':World},cT s.heap g w h' g w'->ah φ h' g w' vv uF)->o.wp P a w K Q:=by
         intro kv' fI gp bs' uF PR yL hrun hnew hv;obtain⟨w',h1,h2,h3,h4⟩:=BE (P:=P) hs (ok:=s.ok) (gp:=gp) hn hb hI hnew yL;rw[PR]at hK;refine pN (v':=uF) (w':=w') (by simp[execOp,ho,hrun,h1]) (hK g uF w' ?_ h3)
         rw[uE];exact h2.lT hd2 (hv h4)
        cases hf:kv.findIdx? (dD ks kd)with
        |none =>
         rw[hf]at e3 hst;subst e3;simp only[bF,gS]at hst;obtain⟨rfl,rfl⟩:=hst;refine fin (fI:=ES.push {key:=a.eval k',val:=zv,born:=cz}) (uF:=.tuple #[zv,goInt cz]) rfl (by simp[gX]) ?_ (λhle=>?_) (λhle=>?_)
         .simp[Instr.mapEntry,run_underlying kU,ex,MapKept.run_getObj_map hb,e1,e2,hzero]
         .have hm:=sC hle gO
          refine⟨by simpa using hm.1,λi p e hp he=>?_⟩
          rw[Array.toList_push]at he;have hlen:=hm.1;rcases lB i kv.length with hi |hi |hi
          .rw[jH hi]at hp
           rw[jH (by omega)]at he
           exact hm.2 i p e hp he
          .subst hi
           rw[n5 (bZ _)]at hp;rw[n5 (by omega)]at he
           rw[hlen]at he;simp at hp he;subst hp;subst he;exact⟨nA hle.ext eT,by simp only[ah];exact Bn hz⟩
          .rw[dL (by simp;omega)]at hp
           simp at hp
         .simp only[ah]
          exact⟨_,rfl,by simp only[aB,ah,aC,jd];exact⟨Bn hz,rfl⟩⟩
        |some j =>
         rw[hf]at e3 hst;obtain⟨e,he,rfl⟩:=e3;obtain⟨hj,p,hp,hpk⟩:=BD hf;have uD:=Kj (w:=w) (Kl hpk) eT (gO.2 j p e hp he).1;have he':ES[j]?=some e:=by simpa using he
         have yN:bs[j]?=some e.born:=by rw[<-gX,jg,he];rfl
         simp only[yN,hp,eG,fy,bF,gS]at hst;obtain⟨rfl,rfl⟩:=hst;have jO:=(gO.2 j p e hp he).2;refine fin (fI:=ES.modify j λe=>{e with key:=a.eval k'}) (uF:=.tuple #[e.val,goInt e.born]) rfl (by rw[<-gX,vF];exact Fc) ?_ (λhle=>?_) (λhle=>?_)
         .simp[Instr.mapEntry,run_underlying kU,ex,MapKept.run_getObj_map hb,e1,e2,he',Instr.keyThatStays,uD]
         .have hm:=sC hle gO
          refine⟨by simpa using hm.1,λi p' e' dh he'=>?_⟩
          rw[vF,AQ]at he';rw[vG]at dh;split at dh
          .rename_i hij
           subst hij;simp[he]at he';simp only[hj,aU,bF]at dh;subst dh;subst he';exact⟨nA hle.ext eT,fF hle jO⟩
          .rename_i hij
           simp[hij]at he';exact hm.2 i p' e' dh (by simpa using he')
         .simp only[ah]
          exact⟨_,rfl,by simp only[aB,ah,aC,jd];exact⟨fF hle jO,rfl⟩⟩
       .simp at hst
      .simp at hst
     .simp at hst
    .simp at hz
   .simp at hz
  .simp at ht
 .simp at hc
theorem PS(hs:aI φ nt m dB s g a w){rec:Rec}{x st v:A}(hc:aR P φ nt o (.lJ x st v)=true)(hok:(aj rec (.lJ x st v) s).ok=true)
  (hK:bY φ nt m dB s g w (aj rec (.lJ x st v) s) o a K):o.wp P a w K Q:=by
 simp only[aR,aA,bN]at hc;obtain⟨j9,hc⟩:=hc;split at hc
 .rename_i t x' s' v' ho
  simp only[aA]at hc;obtain⟨⟨hx,PT⟩,hv⟩:=hc;have rx:=b7 hs hx;have Ko:=b7 hs PT;have rv:=b7 hs hv;simp only[aj]at hok hK;obtain⟨hh,hst⟩:=Bw hok;rw[hst]at hK;unfold qM at hst;split at hst
  .rename_i n b cj hkv
   rw[cj]at rx;rw[hkv]at Ko;have PU:a.eval s' = .int .i64 b:=by simpa[ah,aC]using Ko
   split at hst
   .rename_i kv cz bs hn
    split at hst
    .rename_i PL
     obtain⟨ex,ES,hb,gO,gX,hI⟩:=wE hs.heap hn rx;split at hst
     .rename_i j hj
      simp only[cX]at hst;obtain⟨p,hp,rfl⟩:=hst;have nJ:ES.findIdx? (λe=>(e.born:Int)==b)=some j:=by
       have e:ES=ES.toList.toArray:=by simp
       rw[e,List.findIdx?_toArray];rw[<-gX,List.findIdx?_map]at hj;exact hj
      have hjl:j<ES.size:=by
       have:=(dW.1 hp).1;have h2:=gO.1;simp at h2;omega
      have he:ES.toList[j]?=some ES[j]:=by simp[hjl]
      obtain⟨w',h1,h2,h3,_⟩:=BE (P:=P) hs (ok:=s.ok) (kv':=kv.set j (p.1,s.get v)) (fI:=ES.modify j λe=>{e with val:=a.eval v'}) (gp:=cz) (bs':=bs) hn hb hI (λhle=>by
       have hm:=sC hle gO;refine⟨by simpa using hm.1,λi p' e' dh he'=>?_⟩
       rw[vF,AQ]at he';rw[vG]at dh;split at dh
       .rename_i hij
        subst hij;have gG:=(dW.1 hp).1;simp[he]at he';simp only[gG,aU,bF]at dh;subst dh;subst he';exact⟨(hm.2 j p _ hp he).1,fF hle rv⟩
       .rename_i hij
        simp[hij]at he';exact hm.2 i p' e' dh (by simpa using he')) (by rw[<-gX,vF];exact Fc)
      refine EV (w':=w') (by simp[execOp,ho,Instr.entryStore,ex,MapKept.run_getObj_map hb,PU,Go.asInt,asIntOf,nJ,h1]) ?_
      have:=hK g undef w';rw[j9]at this⊢;exact this h2 h3
     .simp at hst
    .simp at hst
   .simp at hst
  .simp at hst
 .simp at hc
end
end Go.VS
namespace Go.VS
abbrev iK(n:Int):D:=.i .i64 n
section
variable {α:Type}
def bB:List (Int×α)->Int->Option α
 | [],_=>none
 |p::r,t=>if p.1=t then some p.2 else bB r t
def dw(t:Int)(x:α):List (Int×α)->List (Int×α)
 | []=>[(t,x)]
 |p::r=>if p.1=t then(t,x)::r else p::dw t x r
def dI(t:Int):List (Int×α)->List (Int×α)
 | []=>[]
 |p::r=>if p.1=t then r else p::dI t r
def cE(R:V->α->Prop):List (D×V)->List (Int×α)->Prop
 | [],[]=>True
 |p::kv,q::l=>p.1=iK q.1/\R p.2 q.2/\cE R kv l
 |_,_=>False
variable {R R':V->α->Prop}{t:Int}
theorem cE.len:∀{kv:List (D×V)}{l:List (Int×α)},cE R kv l->kv.length=l.length
 | [],[],_=>rfl
 |_::_,_::_,h=>by simp[cE.len h.2.2]
 | [],_::_,h=>h.elim
 |_::_,[],h=>h.elim
theorem cE.mono:∀{kv:List (D×V)}{l:List (Int×α)},cE R kv l->(∀p∈kv,∀x,R p.2 x->R' p.2 x)->cE R' kv l
 | [],[],_,_=>trivial
 |p::_,_::_,h,hm=>⟨h.1,hm p (by simp) _ h.2.1,cE.mono h.2.2 λq hq=>hm q (by simp[hq])⟩
 | [],_::_,h,_=>h.elim
 |_::_,[],h,_=>h.elim
theorem Ff{p:D×V}{u:Int}(h:p.1=iK u):dD [.i] (iK t) p=decide (t=u):=by
 simp only[dD,h,gD,mG,fV,nk,eG,aU,fy,jY,AN];rfl
theorem cE.ok:∀{kv:List (D×V)}{l:List (Int×α)},cE R kv l->nu [.i] (iK t) kv=true:=by
 intro kv l h;unfold nu;rw[aA];refine⟨by simp[gD,mG,fV,nk],?_⟩
 induction kv generalizing l with
 |nil=>rfl
 |cons p kv ih =>
  cases l with
  |nil=>exact h.elim
  |cons q l =>
   rw[qF,aA];exact⟨by rw[h.1];simp[gD,mG,fV,nk],ih h.2.2⟩
theorem cE.idx:∀{kv:List (D×V)}{l:List (Int×α)},cE R kv l ->
  (kv.findIdx? (dD [.i] (iK t))=none/\bB l t=none/\∀(R2:V->α->Prop) v y,(∀p∈kv,∀x,R p.2 x->R2 p.2 x)->R2 v y->cE R2 (kv++[(iK t,v)]) (dw t y l)) \/
  ∃(j:Nat)(v:V)(x:α),kv.findIdx? (dD [.i] (iK t))=some j/\kv[j]?=some (iK t,v)/\bB l t=some x/\R v x /\
   (∀(R2:V->α->Prop) v' y,(∀i p,i≠j->kv[i]?=some p->∀x,R p.2 x->R2 p.2 x)->R2 v' y->cE R2 (kv.set j (iK t,v')) (dw t y l)) /\
   ∀(R2:V->α->Prop),(∀i p,i≠j->kv[i]?=some p->∀x,R p.2 x->R2 p.2 x)->cE R2 (kv.eraseIdx j) (dI t l)
 | [],[],_=>.inl ⟨rfl,rfl,λ_ v y _ h=>⟨rfl,h,trivial⟩⟩
 |p::kv,q::l,h=>by
  have hk:=Ff (t:=t) h.1;rw[n6,hk];by_cases e:t=q.1
  .right
   have e1:bB (q::l) t=some q.2:=by simp only[bB,aN e.symm]
   have e2:∀y,dw t y (q::l)=(t,y)::l:=λy=>by simp only[dw,aN e.symm]
   have e3:dI t (q::l)=l:=by simp only[dI,aN e.symm]
   have rest:∀(R2:V->α->Prop),(∀i p',i≠0->(p::kv)[i]?=some p'->∀x,R p'.2 x->R2 p'.2 x)->cE R2 kv l:=λR2 hR=>h.2.2.mono λp' hp x hx=>by
    obtain⟨i,hi,hh⟩:=jf hp;exact hR (i+1) p' (by omega) (by simp[hi,hh]) x hx
   refine⟨0,p.2,q.2,by simp[e],?_,e1,h.2.1,λR2 v' y hR hy=>by rw[e2];exact⟨rfl,hy,rest R2 hR⟩,λR2 hR=>by rw[e3];exact rest R2 hR⟩
   rw[e,<-h.1];rfl
  .have e':¬q.1=t:=λh=>e h.symm
   have e1:bB (q::l) t=bB l t:=by simp only[bB,aF e']
   have e2:∀y,dw t y (q::l)=q::dw t y l:=λy=>by simp only[dw,aF e']
   have e3:dI t (q::l)=q::dI t l:=by simp only[dI,aF e']
   simp only[e,decide_false,eD,cB];rw[e1,e3];rcases cE.idx h.2.2 with⟨h1,h2,h3⟩ |⟨j,v,x,h1,h2,h3,h4,h5,h6⟩
   .left
    exact⟨by rw[h1];rfl,h2,λR2 v y hR hv=>by rw[e2];exact⟨h.1,hR p (by simp) _ h.2.1,h3 R2 v y (λp' hp=>hR p' (by simp[hp])) hv⟩⟩
   .right
    have down:∀(R2:V->α->Prop),(∀i p',i≠j+1->(p::kv)[i]?=some p'->∀x,R p'.2 x->R2 p'.2 x)->∀i p',i≠j->kv[i]?=some p'->∀x,R p'.2 x->R2 p'.2 x:=λR2 hR i p' hi hp x hx=>hR (i+1) p' (by omega) (by simpa using hp) x hx
    exact⟨j+1,v,x,by rw[h1];rfl,h2,h3,h4,λR2 v' y hR hy=>by rw[e2];exact⟨h.1,hR 0 p (by omega) rfl _ h.2.1,h5 R2 v' y (down R2 hR) hy⟩,λR2 hR=>⟨h.1,hR 0 p (by omega) rfl _ h.2.1,h6 R2 (down R2 hR)⟩⟩
 | [],_::_,h=>h.elim
 |_::_,[],h=>h.elim
end
def own(kv:List (D×V)):List Nat:=kv.flatMap λp=>p.2.ak
structure gr(kv:List (D×V))(ck:Nat)(bs:List Nat):Prop where
 len:bs.length=kv.length
 nd:bs.Nodup
 lt:∀b∈bs,b<ck
theorem gr.set{kv:List (D×V)}{ck:Nat}{bs:List Nat}(h:gr kv ck bs)(j:Nat)(p:D×V):gr (kv.set j p) ck bs:=⟨by simpa using h.len,h.nd,h.lt⟩
theorem gr.push{kv:List (D×V)}{ck:Nat}{bs:List Nat}(h:gr kv ck bs)(p:D×V):gr (kv++[p]) (ck+1) (bs++[ck]):=by
 refine⟨by simp[h.len],?_,λb hb=>?_⟩
 .rw[fA]
  refine⟨h.nd,by simp,λa ha c hc=>?_⟩
  simp at hc;subst hc;have:=h.lt a ha;omega
 .rcases aL.1 hb with hb |hb
  .have:=h.lt b hb;omega
  .simp at hb;omega
theorem gr.idx{kv:List (D×V)}{ck:Nat}{bs:List Nat}(h:gr kv ck bs){j:Nat}{b:Nat}(hj:bs[j]?=some b):bs.findIdx? (fun(x:Nat)=>((x:Nat):Int)==(b:Int))=some j:=by
 obtain⟨hl,he⟩:=dW.1 hj;rw[tP];refine⟨hl,by simp[he],λk hk=>?_⟩
 have:=AS.1 h.nd k j (by omega) hl hk
 rw[he]at this;simpa using λh=>this (by omega)
def cF(h:List O)(v:V)(l:List Int):Prop :=
 (v = .d (.sl 1 true [])/\l=[])\/∃n off ex rows,v = .aJ n off l.length/\af h n = .an 1 ex rows/\off+l.length=rows.length/\rows.drop off=l.map λx=>[iK x]
theorem cF.frame{h h':List O}{v:V}{l:List Int}(hs:cF h v l)(hf:∀n∈v.ak,af h' n=af h n):cF h' v l:=by
 rcases hs with h1 |⟨n,off,ex,rows,rfl,h2,h3,h4⟩
 .exact .inl h1
 .exact .inr ⟨n,off,ex,rows,rfl,by rw[hf n (by simp[V.ak])];exact h2,h3,h4⟩
theorem cF.nd{h:List O}{v:V}{l:List Int}(hs:cF h v l):v.ak.Nodup/\v.known=true:=by
 rcases hs with⟨rfl,_⟩ |⟨n,off,ex,rows,rfl,_⟩
 .exact⟨by simp[V.ak],rfl⟩
 .exact⟨by simp[V.ak],rfl⟩
theorem ke{h g:List O}{n:Nat}(hn:n<h.length):af (h++g) n=af h n:=by simp[af,List.getD,jH hn]
theorem q9{h:List O}{x:O}:af (h++[x]) h.length=x:=by simp[af,List.getD]
theorem iu{h:List O}{x:O}{n:Nat}(hn:n<h.length):af (h.set n x) n=x:=by simp[af,List.getD,hn]
theorem eo{h:List O}{x:O}{n k:Nat}(hk:k≠n):af (h.set n x) k=af h k:=by simp[af,List.getD,tL hk]
theorem cF.app{h:List O}{v:V}{l:List Int}(hs:cF h v l)(hl:∀n∈v.ak,n<h.length)(hr:l.length<=1000000)(x:Int):∃v' h',fW h 1 v (.d (.sl 1 false [[iK x]]))=some (v',h')/\cF h' v' (l++[x]) /\
  h'.length=h.length+1/\v'.ak=[h.length]/\∀k,k<h.length->k∉v.ak->af h' k=af h k:=by
 have EI:l.length+1<=room:=by unfold room;omega
 rcases hs with⟨rfl,rfl⟩ |⟨n,off,ex,rows,rfl,h2,h3,h4⟩
 .refine⟨.aJ h.length 0 1,h++[.an 1 true [[iK x]]],?_,.inr ⟨h.length,0,true,[[iK x]],rfl,q9,rfl,rfl⟩,by simp,rfl,λk hk _=>ke hk⟩
  simp only[fW,kI,aU,fT,lE];rw[aF (by decide),aN ⟨trivial,by decide⟩]
 .have hn:=hl n (by simp[V.ak])
  refine⟨.aJ h.length 0 (l.length+1),h.set n .dead++[.an 1 ex (rows.drop off++[[iK x]])],?_,.inr ⟨h.length,0,ex,rows.drop off++[[iK x]],by simp,?_,?_,?_⟩,by simp,rfl,λk hk hne=>?_⟩
  .have ht:(rows.drop off).take l.length=rows.drop off:=fU (by simp;omega)
   simp only[fW,kI,aU,h2,fT,lE];rw[aN ⟨trivial,by omega⟩,aF (by decide),aF (by omega),aN ⟨.inr h3,by simpa using EI⟩,ht]
  .have:(h.set n .dead).length=h.length:=by simp
   rw[<-this];exact q9
  .simp;omega
  .simp[h4]
  .simp[V.ak]at hne
   rw[ke (by simpa using hk),eo hne]
theorem pX{a b:List (D×V)}:own (a++b)=own a++own b:=by simp[own]
theorem lW{p:D×V}{b:List (D×V)}:own (p::b)=p.2.ak++own b:=by simp[own]
theorem Fg{α:Type}{l:List α}{j:Nat}{p:α}(h:l[j]?=some p):l=l.take j++p::l.drop (j+1)/\∀q,l.set j q=l.take j++q::l.drop (j+1):=by
 obtain⟨hl,he⟩:=dW.1 h;refine⟨?_,λq=>?_⟩
 .rw[<-he];simp
 .rw[List.set_eq_take_append_cons_drop,aN hl]
theorem Kp{kv:List (D×V)}(hd:(own kv).Nodup){i j:Nat}{p q:D×V}(hij:i≠j)(hi:kv[i]?=some p)(hj:kv[j]?=some q){k:Nat}(hk:k∈p.2.ak):k∉q.2.ak:=by
 have key:∀{i j:Nat}{p q:D×V},i<j->kv[i]?=some p->kv[j]?=some q->∀k,k∈p.2.ak->k∉q.2.ak:=by
  intro i j p q hij hi hj k hk hq;obtain⟨h1,_⟩:=Fg hi;rw[h1,pX,lW,fA]at hd;have h2:=(fA.1 hd.2.1).2.2;have hm:q∈kv.drop (i+1):=by
   rw[List.mem_iff_getElem?];exact⟨j - (i+1),by rw[jI];rw[show i+1+(j - (i+1))=j by omega];exact hj⟩
  exact h2 k hk k (dG.2 ⟨q,hm,hq⟩) rfl
 rcases eH i j with h |h
 .exact key h hi hj k hk
 .exact λhq=>key (by omega) hj hi k hq hk
theorem PV{h:List O}{n ck:Nat}{kv:List (D×V)}{bs:List Nat}{l:List (Int×List Int)}{t v:Int}(hm:af h n = .mp kv ck bs)(hn:n<h.length)(hr:cE (cF h) kv l)(hs:gr kv ck bs)
  (hnd:(n::own kv).Nodup)(hlt:∀k∈own kv,k<h.length)(hsz:∀q∈l,q.2.length<=1000000):
  ∃(old:V)(v':V)(h2:List O)(kv':List (D×V))(uG:Nat)(bs':List Nat),
   eS [.i] h (.mp n) (.d (iK t)) (.sl 1 true []) false=some old/\fW h 1 old (.d (.sl 1 false [[iK v]]))=some (v',h2)/\af h2 n = .mp kv ck bs /\
   kJ [.i] h2 (.mp n) (.d (iK t)) v'=some (h2.set n (.mp kv' uG bs')) /\
   cE (cF (h2.set n (.mp kv' uG bs'))) kv' (dw t ((bB l t).getD []++[v]) l)/\gr kv' uG bs'/\h2.length=h.length+1 /\
   (n::own kv').Nodup/\(∀k∈own kv',k∈own kv\/k=h.length)/\∀k,k<h.length->k≠n->k∉own kv->af (h2.set n (.mp kv' uG bs')) k=af h k:=by
 rw[cy]at hnd;obtain⟨hno,hnd⟩:=hnd;rcases cE.idx (t:=t) hr with⟨h1,h2,h3⟩ |⟨j,v0,x,h1,h2,h3,h4,h5,_⟩
 .obtain⟨v',H2,a1,a2,a3,a4,a5⟩:=cF.app (h:=h) (v:=.d (.sl 1 true [])) (l:=[]) (.inl ⟨rfl,rfl⟩) (by simp[V.ak]) (by simp) v
  have hn2:af H2 n = .mp kv ck bs:=by rw[a5 n hn (by simp[V.ak]),hm]
  have fM:n<H2.length:=by rw[a3];omega
  have hst:=gr.push hs (iK t,v');have hkeep:∀k,k<h.length->k≠n->∀o,af (H2.set n o) k=af h k:=λk hk hkn o=>by
   rw[eo hkn,a5 k hk (by simp[V.ak])]
  refine⟨.d (.sl 1 true []),v',H2,kv++[(iK t,v')],ck+1,bs++[ck],?_,a1,hn2,?_,?_,hst,a3,?_,λk hk=>?_,λk hk hkn _=>hkeep k hk hkn _⟩
  .simp[eS,hm,pF,hr.ok,sK,h1]
  .simp only[kJ,hn2,hr.ok,a2.nd.2,vH,aU,yG,h1]
  .rw[h2]
   refine h3 _ v' _ (λp hp x hx=>hx.frame λk hk=>?_) (a2.frame λk hk=>?_)
   .have iL:k∈own kv:=dG.2 ⟨p,hp,hk⟩
    exact hkeep k (hlt k iL) (λe=>hno (e▸iL)) _
   .rw[a4]at hk
    simp at hk;subst hk;rw[eo (by omega)]
  .rw[pX,lW,a4,cy,fA]
   simp only[own,Ei,o9];refine⟨?_,hnd,by simp,λa ha b hb=>?_⟩
   .intro hh
    rcases aL.1 hh with hh |hh
    .exact hno hh
    .simp at hh;omega
   .simp at hb
    have:=hlt a ha;omega
  .rw[pX,lW,a4]at hk
   simpa[own]using hk
 .obtain⟨hj,nK⟩:=dW.1 h2
  have BF:∀k∈v0.ak,k∈own kv:=λk hk=>dG.2 ⟨_,dV h2,hk⟩
  have Bu:x.length<=1000000:=by
   have:∀{l:List (Int×List Int)},bB l t=some x->∃q∈l,q.2=x:=by
    intro l;induction l with
    |nil=>intro h;simp[bB]at h
    |cons q l ih =>
     intro h;simp only[bB]at h;split at h
     .exact⟨q,by simp,by simpa using h⟩
     .obtain⟨q',hq,he⟩:=ih h
      exact⟨q',by simp[hq],he⟩
   obtain⟨q,hq,rfl⟩:=this h3;exact hsz q hq
  obtain⟨v',H2,a1,a2,a3,a4,a5⟩:=h4.app (λk hk=>hlt k (BF k hk)) Bu v
  have hn2:af H2 n = .mp kv ck bs:=by rw[a5 n hn (λhk=>hno (BF n hk)),hm]
  have hkeep:∀k,k<h.length->k≠n->k∉v0.ak->∀o,af (H2.set n o) k=af h k:=λk hk hkn hkv o=>by
   rw[eo hkn,a5 k hk hkv]
  obtain⟨s1,s2⟩:=Fg h2;refine⟨v0,v',H2,kv.set j (iK t,v'),ck,bs,?_,a1,hn2,?_,?_,hs.set j _,a3,?_,λk hk=>?_,λk hk hkn iL=>hkeep k hk hkn (λhh=>iL (BF k hh)) _⟩
  .simp[eS,hm,pF,hr.ok,sK,h1,h2]
  .simp only[kJ,hn2,hr.ok,a2.nd.2,vH,aU,yG,h1]
  .rw[h3]
   refine h5 _ v' _ (λi p hij hp x hx=>hx.frame λk hk=>?_) (a2.frame λk hk=>?_)
   .have iL:k∈own kv:=dG.2 ⟨p,dV hp,hk⟩
    exact hkeep k (hlt k iL) (λe=>hno (e▸iL)) (Kp hnd hij hp h2 hk) _
   .rw[a4]at hk
    simp at hk;subst hk;rw[eo (by omega)]
  .rw[s2,pX,lW,a4]
   rw[s1,pX,lW]at hnd hno hlt;simp only[aL,dc]at hno;rw[fA]at hnd;obtain⟨d1,d2,d3⟩:=hnd;rw[fA]at d2;rw[cy,fA];refine⟨?_,d1,?_,λa ha c hc=>?_⟩
   .simp only[aL,lG,dc]
    exact⟨hno.1,by omega,hno.2.2⟩
   .rw[I5,cy]
    exact⟨λhh=>by have:=hlt h.length (by simp[hh]);omega,d2.2.1⟩
   .simp only[I5,aY]at hc
    rcases hc with rfl |hc
    .have:=hlt a (by simp[ha])
     omega
    .exact d3 a ha c (by simp[hc])
  .rw[s2,pX,lW,a4]at hk
   rw[s1,pX,lW];simp only[aL,lG]at hk⊢;rcases hk with hk |hk |hk
   .exact .inl (.inl hk)
   .exact .inr hk
   .exact .inl (.inr (.inr hk))
theorem PW{a b:List (D×V)}(h:a.Sublist b):(own a).Sublist (own b):=by
 unfold own;induction h with
 |slnil=>exact pe _
 |cons x _ ih=>rw[rX];exact ih.trans (I6 _ _)
 |cons_cons x _ ih=>rw[rX,rX];exact yc (pe _) ih
theorem PX{kv:List (D×V)}{j:Nat}{p q:D×V}(hj:kv[j]?=some p)(hq:q.2.ak=[]):(own (kv.set j q)).Sublist (own kv):=by
 obtain⟨s1,s2⟩:=Fg hj;rw[s2]
 conv=>rhs;rw[s1]
 rw[pX,pX,lW,lW,hq,jW];exact yc (pe _) (I6 _ _)
theorem BG{α:Type}{R R2:V->α->Prop}{h:List O}{n ck:Nat}{kv:List (D×V)}{bs:List Nat}{l:List (Int×α)}{t:Int}(hm:af h n = .mp kv ck bs)(hr:cE R kv l)(hs:gr kv ck bs)(hk:∀p∈kv,∀x,R p.2 x->R2 p.2 x)(uH:bB l t=none->dI t l=l):
  ∃(kv':List (D×V))(bs':List Nat),pI [.i] h (.mp n) (.d (iK t))=some (h.set n (.mp kv' ck bs'))/\cE R2 kv' (dI t l)/\gr kv' ck bs'/\(own kv').Sublist (own kv):=by
 rcases cE.idx (t:=t) hr with⟨h1,h2,_⟩ |⟨j,v0,x,h1,h2,_,_,_,h6⟩
 .refine⟨kv,bs,?_,?_,hs,pe _⟩
  .simp only[pI,hm,hr.ok,aU,yF,yH hs.len.symm,h1]
  .rw[uH h2];exact hr.mono hk
 .refine⟨kv.eraseIdx j,bs.eraseIdx j,?_,h6 R2 λi p _ hp x hx=>hk p (dV hp) x hx,⟨?_,hs.nd.sublist (vI _ _),λb hb=>hs.lt b ((vI _ _).subset hb)⟩,?_⟩
  .simp only[pI,hm,hr.ok,aU,yF,yH hs.len.symm,h1]
  .rw[AR,AR,hs.len]
  .exact PW (vI _ _)
theorem Fh{α:Type}{R:V->α->Prop}{h:List O}{n ck:Nat}{kv:List (D×V)}{bs:List Nat}{l:List (Int×α)}{t:Int}{z:D}(hm:af h n = .mp kv ck bs)(hr:cE R kv l):
  (bB l t=none/\eS [.i] h (.mp n) (.d (iK t)) z true=some (.tu [.d z,.d (.b false)])/\eS [.i] h (.mp n) (.d (iK t)) z false=some (.d z)) \/
  ∃v x,bB l t=some x/\R v x/\(∀k∈v.ak,k∈own kv)/\eS [.i] h (.mp n) (.d (iK t)) z true=some (.tu [v,.d (.b true)])/\eS [.i] h (.mp n) (.d (iK t)) z false=some v:=by
 rcases cE.idx (t:=t) hr with⟨h1,h2,_⟩ |⟨j,v0,x,h1,h2,h3,h4,_⟩
 .left
  refine⟨h2,?_,?_⟩<;>simp[eS,hm,pF,hr.ok,sK,h1]
 .right
  refine⟨v0,x,h3,h4,λk hk=>dG.2 ⟨_,dV h2,hk⟩,?_,?_⟩<;>simp[eS,hm,pF,hr.ok,sK,h1,h2]
end Go.VS
namespace Go.VS
section
variable {P:Program}{φ:bX}
variable {nt m dB:Nat}{s:St}{g:Gh}{a:Act}{w:World}{K:Act->World->Prop}{Q:Exit->Act->World->Prop}{o:Oper}
def wF(x:Option Value)(dflt n:Int):Prop :=
 match x with
 |none=>n=dflt
 |some v=>∃k,v = .int k n
def BH(cap len:Nat):Option Value->Sem Nat
 |some v=>Instr.sliceBound v cap .sliceAcap
 |none=>pure len
def BJ(h:Nat):Option Value->Sem Nat
 |some v=>Instr.sliceBound v h .sliceB
 |none=>pure 0
theorem PY(cap len:Nat)(lo hi:Option Value):Instr.sliceBounds true len cap lo hi none=(do
  let hv <-BH cap len hi
  let lv <-BJ hv lo
  pure (lv,hv,cap)):=by
 cases lo<;>cases hi<;>rfl
theorem Kq{t e:TypeId}{es:Nat}(ht:P.underlying t=some (.slice e))(gn:gN P e es=true){ad:Option Addr}{len cap:Nat}{lo hi:Option Value}{l h:Int}
  (hl:wF lo 0 l)(hh:wF hi len h)(h0:0<=l)(h1:l<=h)(h2:h<=cap):
  (Instr.sliceAt t (.slice ad len cap) lo hi none).run P w = .ok (.slice (if cap=l.toNat then ad else ad.map (·.add (l.toNat*es))) (h.toNat - l.toNat) (cap - l.toNat)) w:=by
 have hsz:=qY (P:=P) (w:=w) gn;have PZ:0<=h:=by omega
 have eh:(BH cap len hi).run P w = .ok h.toNat w:=by
  cases hi with
  |none=>simp only[wF]at hh;subst hh;simp[BH]
  |some v =>
   obtain⟨k,rfl⟩:=hh;simp[BH,Instr.sliceBound,asIntOf,PZ,h2]
 have el:(BJ h.toNat lo).run P w = .ok l.toNat w:=by
  cases lo with
  |none=>simp only[wF]at hl;subst hl;simp[BJ]
  |some v =>
   obtain⟨k,rfl⟩:=hl
   have:¬max h 0<l:=by omega
   simp[BJ,Instr.sliceBound,asIntOf,h0,this]
 have eb:(Instr.sliceBounds true len cap lo hi none).run P w = .ok (l.toNat,h.toNat,cap) w:=by
  rw[PY];simp only[Sem.run_bind,eh,Result.andThen_ok,el,Sem.run_pure]
 simp[Instr.sliceAt,Instr.slice,underlying,ht,eb,hsz]
theorem BK(hs:aI φ nt m dB s g a w){x:Option Operand}{y:Option A}(hc:Bl φ x y=true){dflt n:Int}(hn:nr s dflt y=some n):wF (x.map a.eval) dflt n:=by
 unfold Bl at hc;split at hc
 .simp[nr]at hn;simp[wF,hn]
 .rename_i ox ay
  have hr:=b7 hs hc;simp only[nr]at hn;cases hv:s.get ay with
  |d z =>
   rw[hv]at hn hr;cases z with
   |i k z=>simp[asInt]at hn;subst hn;exact⟨k,lU (by simpa only[ah]using hr)⟩
   |_=>simp[asInt]at hn
  |_=>rw[hv]at hn;simp[asInt]at hn
 .simp at hc
theorem P0{α:Type}{xs:List α}{l h r:Nat}{y:α}(hy:((xs.take h).drop l)[r]?=some y):xs[l+r]?=some y:=by
 rw[jI,tM]at hy;split at hy
 .exact hy
 .simp at hy
theorem P1(hs:aI φ nt m dB s g a w){rec:Rec}{d es:Nat}{x:A}{lo hi:Option A}(hc:aR P φ nt o (.sl d x lo hi es)=true)(hok:(aj rec (.sl d x lo hi es) s).ok=true)
  (hK:bY φ nt m dB s g w (aj rec (.sl d x lo hi es) s) o a K):o.wp P a w K Q:=by
 simp only[aR,aA]at hc;obtain⟨hd,h⟩:=hc;split at h
 .rename_i t y lo' hi' ho
  simp only[aA]at h;obtain⟨⟨⟨hx,hlo⟩,hhi⟩,ht⟩:=h;split at ht
  .rename_i e hu
   have rx:=b7 hs hx;refine j7 hs hd hok (λv hv=>?_) hK
   unfold A7 at hv;split at hv
   .rename_i l hh hl yO
    have bl:=BK hs hlo hl;have bh:=BK hs hhi yO;have fin:∀{ad:Option Addr}{len cap:Nat},a.eval y = .slice ad len cap->mF (s.get x)=len->0<=l->l<=hh->hh<=cap ->
      (execOp a.eval o).run P w = .ok (.value (.slice (if cap=l.toNat then ad else ad.map (·.add (l.toNat*es))) (hh.toNat - l.toNat) (cap - l.toNat))) w:=by
     intro ad len cap he hlen h0 h1 h2;rw[hlen]at bh;have:=Kq (P:=P) (w:=w) hu ht bl bh (ad:=ad) (len:=len) (cap:=cap) h0 h1 h2;simp[execOp,ho,he,this]
    split at hv
    .rename_i e' nl xs hp
     rw[hp]at rx fin;simp only[ah,aC]at rx;obtain⟨ad,cap,he,hlc,sJ,mN⟩:=rx;split at hv
     .rename_i bP
      obtain⟨rfl,h0,h1,h2⟩:=bP;simp at hv;subst hv;refine⟨_,fin he rfl h0 h1 (by omega),?_⟩
      simp only[ah,aC];have hlen:((xs.take hh.toNat).drop l.toNat).length=hh.toNat - l.toNat:=by simp;omega
      rw[hlen];refine⟨_,_,rfl,by omega,λhn=>?_,λhn=>?_⟩
      .obtain⟨rfl,rfl⟩:=sJ hn
       simp
      .obtain⟨wG,rfl,hx'⟩:=mN hn
       by_cases dO:cap=l.toNat
       .rw[aN dO]
        refine⟨wG,rfl,λhne=>?_⟩
        exfalso;apply hne;apply AT;rw[hlen];omega
       .rw[aF dO]
        refine⟨_,rfl,λhne=>?_⟩
        have hxs:xs≠[]:=by
         rintro rfl;simp at hne
        obtain⟨hsp,hI,bJ⟩:=hx' hxs;obtain⟨b,off,sp⟩:=wG;simp only at hsp hI bJ;subst hsp;simp only[kQ];refine⟨trivial,?_,nD λr row hrow=>?_⟩
        .have h3:(hh.toNat - l.toNat)+l.toNat<=xs.length:=by omega
         have h4:e'*((hh.toNat - l.toNat)+l.toNat)<=e'*xs.length:=Ej _ h3;rw[x7,eI e' l.toNat]at h4;omega
        .obtain⟨q1,q2⟩:=iV bJ (P0 hrow)
         refine⟨q1,?_⟩;rw[iA,<-Nat.add_assoc]at q2;exact q2
     .simp at hv
    .rename_i n off len hp
     rw[hp]at rx fin;simp only[ah]at rx;split at hv
     .rename_i e' ex rows hn
      split at hv
      .rename_i bP
       obtain⟨rfl,h0,h1,h2⟩:=bP;obtain⟨cap,he,hlc,hm,CS,T,hb,hsz⟩:=rx.2.2 e' (by rw[hn];rfl)
       rw[hn]at hm;simp only[O.len]at hm;have hrun:=fin he rfl h0 h1 (by omega)
       refine⟨_,hrun,?_⟩;split at hv
       .rename_i gH
        simp at hv;subst hv;simp only[ah];refine⟨rx.1,rfl,λes' he'=>?_⟩
        rw[hn]at he';simp[O.dg]at he';subst he';have hlen:(hh - l).toNat=hh.toNat - l.toNat:=by omega
        rw[hlen];refine⟨cap - l.toNat,?_,by omega,by rw[hn];simp only[O.len];omega,CS,T,hb,?_⟩
        .have bP:(if cap=l.toNat then(some ⟨g.β n,g.o n+off*e',none⟩:Option Addr)else(some ⟨g.β n,g.o n+off*e',none⟩:Option Addr).map (·.add (l.toNat*e')))=some ⟨g.β n,g.o n+(off+l.toNat)*e',none⟩:=by
          split
          .rename_i dO
           have:l.toNat=0:=by omega
           rw[this];simp
          .simp only[fy,kQ]
           rw[iA,<-Nat.add_assoc]
         rw[bP]
        .have:off+l.toNat+(cap - l.toNat)=off+cap:=by omega
         rw[this];exact hsz
       .rename_i gH
        simp at hv;subst hv;simp only[ah,aC];have hz:hh.toNat - l.toNat=0:=by omega
        rw[hz];refine⟨_,_,rfl,by simp,by simp,λ_=>?_⟩
        split
        .exact⟨_,rfl,by simp⟩
        .exact⟨_,rfl,by simp⟩
      .simp at hv
     .simp at hv
    .rename_i n off len hp
     rw[hp]at rx fin;simp only[ah]at rx;split at hv
     .rename_i e' ex rows hn
      split at hv
      .rename_i bP
       obtain⟨rfl,h0,h1,h2⟩:=bP;obtain⟨cap,he,hlc,hm,CS,T,hb,hsz⟩:=rx.2.2 e' (by rw[hn];rfl)
       rw[hn]at hm;simp only[O.len]at hm;have hrun:=fin he rfl h0 h1 (by omega)
       refine⟨_,hrun,?_⟩;split at hv
       .rename_i gH
        simp at hv;subst hv;simp only[ah];refine⟨rx.1,rfl,λes' he'=>?_⟩
        rw[hn]at he';simp[O.dg]at he';subst he';have hlen:(hh - l).toNat=hh.toNat - l.toNat:=by omega
        rw[hlen];refine⟨cap - l.toNat,?_,by omega,by rw[hn];simp only[O.len];omega,CS,T,hb,?_⟩
        .have bP:(if cap=l.toNat then(some ⟨g.β n,g.o n+off*e',none⟩:Option Addr)else(some ⟨g.β n,g.o n+off*e',none⟩:Option Addr).map (·.add (l.toNat*e')))=some ⟨g.β n,g.o n+(off+l.toNat)*e',none⟩:=by
          split
          .rename_i dO
           have:l.toNat=0:=by omega
           rw[this];simp
          .simp only[fy,kQ]
           rw[iA,<-Nat.add_assoc]
         rw[bP]
        .have:off+l.toNat+(cap - l.toNat)=off+cap:=by omega
         rw[this];exact hsz
       .rename_i gH
        simp at hv;subst hv;simp only[ah,aC];have hz:hh.toNat - l.toNat=0:=by omega
        rw[hz];refine⟨_,_,rfl,by simp,by simp,λ_=>?_⟩
        split
        .exact⟨_,rfl,by simp⟩
        .exact⟨_,rfl,by simp⟩
      .simp at hv
     .simp at hv
    .rename_i e' hp
     rw[hp]at rx fin;simp only[ah]at rx;obtain⟨ad,he⟩:=rx;split at hv
     .rename_i bP
      obtain⟨rfl,rfl,rfl⟩:=bP;simp at hv;subst hv;have hrun:=fin he (by simp[mF]) (by omega) (by omega) (by omega)
      exact⟨_,hrun,by simp only[ah];exact⟨ad,by simp⟩⟩
     .simp at hv
    .simp at hv
   .simp at hv
  .simp at ht
 .simp at h
end
end Go.VS
namespace Go.VS
section
variable {P:Program}{φ:bX}
variable {nt m dB:Nat}{s:St}{g:Gh}{a:Act}{w:World}{K:Act->World->Prop}{Q:Exit->Act->World->Prop}{o:Oper}
end
end Go.VS
namespace Go.VS
section
variable {P:Program}{φ:bX}
variable {nt m dB:Nat}{s:St}{g:Gh}{a:Act}{w:World}{K:Act->World->Prop}{Q:Exit->Act->World->Prop}{o:Oper}
theorem rj{I:Nat->Nat}{b es:Nat}:∀{off:Nat}{xs:List (List D)},fE φ I w b es off xs->∃vs:List Value,aM φ I w xs.flatten vs/\(∀v∈vs,v.oneCell'=true)/\vs.length=es*xs.length /\
  ∀(j:Nat)(v:Value),vs[j]?=some v->w.cell? ⟨b,off+j,none⟩=some v
 |off,[],_=>⟨[],by simp[aM],by simp,by simp,by simp⟩
 |off,x::xs,hr=>by
  simp only[fE]at hr;obtain⟨hl,hc,hr⟩:=hr;obtain⟨us,h1,h2,h3⟩:=yx hc;obtain⟨vs,k1,k2,k3,k4⟩:=rj hr;have E9:=nC h1;refine⟨us++vs,by rw[qC];exact qR h1 k1,λv hv=>(aL.1 hv).elim (h3 v) (k2 v),by rw[eC,k3,<-E9,hl,fT,Ee];omega,λj v hj=>?_⟩
  by_cases hlt:j<us.length
  .rw[jH hlt]at hj
   exact h2 j v hj
  .rw[n5 (by omega)]at hj
   have:=k4 (j - us.length) v hj;have he:off+es+(j - us.length)=off+j:=by omega
   rwa [he]at this
theorem Fi{I:Nat->Nat}{b es:Nat}:∀{off:Nat}{xs:List (List D)}{vs:List Value},(∀r∈xs,r.length=es)->aM φ I w xs.flatten vs->(∀v∈vs,v.oneCell'=true) ->
  (∀(j:Nat)(v:Value),vs[j]?=some v->w.cell? ⟨b,off+j,none⟩=some v)->fE φ I w b es off xs:=by
 intro off xs vs hl hr h1 hc;refine nD λr row hrow=>⟨hl row (dV hrow),om λj c hj=>?_⟩
 obtain⟨v,hv,hd⟩:=vW hr (wg hl hrow hj);exact⟨v,by rw[kB];exact hc _ v hv,h1 v (dV hv),hd⟩
theorem uI{I:Nat->Nat}{b es o off len:Nat}{rows:List (List D)}(hr:fE φ I w b es o rows)(hle:off+len<=rows.length):fE φ I w b es (o+off*es) ((rows.drop off).take len):=by
 refine nD λr row hrow=>?_
 have hlt:r<len:=by
  rcases eH r len with h |h
  .exact h
  .simp[tM,Nat.not_lt.2 h]at hrow
 rw[List.getElem?_take_of_lt hlt,jI]at hrow;obtain⟨h1,h2⟩:=iV hr hrow;refine⟨h1,?_⟩
 have:o+off*es+r*es=o+(off+r)*es:=by rw[iA];omega
 rw[this];exact h2
theorem Kr{h:List O}{es:Nat}{y:V}{v:Value}{ys:List (List D)}(hH:bT φ h g w)(hr:ah φ h g w y v)(hy:kI h es y=some ys):
  ∃(xa:Option Addr)(xc:Nat)(news:List Value),v = .slice xa ys.length xc/\(∀r∈ys,r.length=es)/\aM φ g.I w ys.flatten news/\(∀u∈news,u.oneCell'=true)/\news.length=es*ys.length /\
   (ys≠[]->∃b off,xa=some ⟨b,off,none⟩/\∀(j:Nat)(u:Value),news[j]?=some u->w.cell? ⟨b,off+j,none⟩=some u):=by
 have lens:∀{b off:Nat}{xs:List (List D)},fE φ g.I w b es off xs->∀r∈xs,r.length=es:=by
  intro b off xs bJ r hmem;obtain⟨j,hj,he⟩:=jf hmem;exact(iV bJ (r:=j) (row:=r) (by simp[hj,he])).1
 unfold kI at hy;split at hy
 .rename_i e nl xs
  split at hy
  .rename_i he
   subst he;simp at hy;subst hy;simp only[ah,aC]at hr;obtain⟨ad,cap,rfl,hlc,ht,hf⟩:=hr;by_cases hx:xs=[]
   .subst hx
    exact⟨ad,cap,[],rfl,by simp,by simp[aM],by simp,by simp,by simp⟩
   .cases nl with
    |true =>
     obtain⟨_,rfl⟩:=ht rfl
     have:xs.length=0:=by omega
     exact absurd (AT this) hx
    |false =>
     obtain⟨wG,rfl,hx'⟩:=hf rfl;obtain⟨hsp,_,bJ⟩:=hx' hx;obtain⟨b,off,sp⟩:=wG;simp only at hsp bJ;subst hsp;obtain⟨vs,h1,h2,h3,h4⟩:=rj bJ;exact⟨_,cap,vs,rfl,lens bJ,h1,h2,h3,λ_=>⟨b,off,rfl,h4⟩⟩
  .simp at hy
 .rename_i e
  simp at hy;subst hy;simp only[ah]at hr;obtain⟨ad,rfl⟩:=hr;exact⟨some ad,0,[],rfl,by simp,by simp[aM],by simp,by simp,by simp⟩
 .rename_i n off len
  split at hy
  .rename_i e ex rows hn
   split at hy
   .rename_i bP
    obtain⟨rfl,hle⟩:=bP;simp at hy;subst hy;simp only[ah]at hr;obtain⟨cap,rfl,hlc,_⟩:=hr.2.2 e (by rw[hn];rfl)
    have bA:=hH.obj n;rw[hn]at bA;have bJ:=uI bA.2.1 hle;have hlen:((rows.drop off).take len).length=len:=by simp;omega
    obtain⟨vs,h1,h2,h3,h4⟩:=rj bJ;exact⟨_,cap,vs,by rw[hlen],lens bJ,h1,h2,h3,λ_=>⟨_,_,rfl,h4⟩⟩
   .simp at hy
  .simp at hy
 .rename_i n off len
  split at hy
  .rename_i e ex rows hn
   split at hy
   .rename_i bP
    obtain⟨rfl,hle⟩:=bP;simp at hy;subst hy;simp only[ah]at hr;obtain⟨cap,rfl,hlc,_⟩:=hr.2.2 e (by rw[hn];rfl)
    have bA:=hH.obj n;rw[hn]at bA;have bJ:=uI bA.2.1 hle;have hlen:((rows.drop off).take len).length=len:=by simp;omega
    obtain⟨vs,h1,h2,h3,h4⟩:=rj bJ;exact⟨_,cap,vs,by rw[hlen],lens bJ,h1,h2,h3,λ_=>⟨_,_,rfl,h4⟩⟩
   .simp at hy
  .simp at hy
 .simp at hy
theorem yP{es n:Nat}{xa:Option Addr}{xc:Nat}{news:List Value}(hl:news.length=n*es)(hc:news≠[]->∃b off,xa=some ⟨b,off,none⟩/\∀(j:Nat)(u:Value),news[j]?=some u->w.cell? ⟨b,off+j,none⟩=some u)
  : (Builtin.firstCells es n (.slice xa n xc)).run P w = .ok news.toArray w:=by
 by_cases hne:news=[]
 .subst hne
  cases xa with
  |none=>simp[Builtin.firstCells]
  |some ad=>exact run_firstCells_some w es n ad n xc [] hl (by simp)
 .obtain⟨b,off,rfl,h⟩:=hc hne
  exact run_firstCells_some w es n _ n xc news hl λj v hj=>by rw[kQ];exact h j v hj
theorem Fj{t t' ty e e':TypeId}{i:TypeInfo}(ht:P.underlying t=some (.slice e))(ht':P.underlying t'=some (.slice e'))(hi:P.info? e=some i){b off sLen sCap n xc:Nat}{xa:Option Addr}{news:List Value}
  (hl:news.length=n*i.size)(hc:news≠[]->∃b off,xa=some ⟨b,off,none⟩/\∀(j:Nat)(u:Value),news[j]?=some u->w.cell? ⟨b,off+j,none⟩=some u)
  (hle:sLen+n<=sCap){cur:Array Value}{T:TypeId}(hg:w.heap[b]?=some (.cells cur T (0,0)))(hfit:off+sLen*i.size+news.length<=cur.size)(h1:∀u∈news,u.oneCell'=true):
  (Builtin.append_ #[t,t'] ty #[.slice (some ⟨b,off,none⟩) sLen sCap,.slice xa n xc]).run P w = .ok (.slice (some ⟨b,off,none⟩) (sLen+n) sCap) (w.setRow b (aS cur.toList (off+sLen*i.size) news).toArray):=by
 have hf:=yP (P:=P) (w:=w) hl hc (xc:=xc);have hst:=run_storeCells_at P b (off+sLen*i.size) T news 0 cur w hg (by simpa using hfit) h1
 simp only[x8]at hst;simp[Builtin.append_,run_underlying ht,run_underlying ht',sizeOf,typeInfo,hi,Builtin.lenOf,hle,hf,kQ,hst,aS]
theorem P2{t t' ty e e':TypeId}{i:TypeInfo}(ht:P.underlying t=some (.slice e))(ht':P.underlying t'=some (.slice e'))(hi:P.info? e=some i){sLen sCap xc:Nat}{base xa:Option Addr}(hle:sLen<=sCap):
  (Builtin.append_ #[t,t'] ty #[.slice base sLen sCap,.slice xa 0 xc]).run P w = .ok (.slice base sLen sCap) w:=by
 have hf:=yP (P:=P) (w:=w) (es:=i.size) (n:=0) (xa:=xa) (xc:=xc) (news:=[]) (by simp) (by simp)
 cases base with
 |none=>simp[Builtin.append_,run_underlying ht,run_underlying ht',sizeOf,typeInfo,hi,Builtin.lenOf,hle,hf]
 |some ad=>simp[Builtin.append_,run_underlying ht,run_underlying ht',sizeOf,typeInfo,hi,Builtin.lenOf,hle,hf,storeCells]
theorem Fk{t t' ty e e':TypeId}{i:TypeInfo}{z:Value}(ht:P.underlying t=some (.slice e))(ht':P.underlying t'=some (.slice e'))(hi:P.info? e=some i)(hz:i.zero=some z){sLen sCap n sc xc:Nat}{base xa:Option Addr}{olds news:List Value}
  (hlo:olds.length=sLen*i.size)(Fl:olds≠[]->∃b off,base=some ⟨b,off,none⟩/\∀(j:Nat)(u:Value),olds[j]?=some u->w.cell? ⟨b,off+j,none⟩=some u)
  (hl:news.length=n*i.size)(hc:news≠[]->∃b off,xa=some ⟨b,off,none⟩/\∀(j:Nat)(u:Value),news[j]?=some u->w.cell? ⟨b,off+j,none⟩=some u)
  (gY:sCap<sLen+n)(hroom:sLen+n<=room)(hby:i.bytes<=16384)(hsc:sc=sCap):
  (Builtin.append_ #[t,t'] ty #[.slice base sLen sc,.slice xa n xc]).run P w =
   .ok (.slice (some ⟨w.heap.size,0,none⟩) (sLen+n) (grownCap w (sLen+n) sCap e)) (w.drew.alloc (.cells (olds++news++(Builtin.zeroCells z.cells (grownCap w (sLen+n) sCap e - (sLen+n))).toList).toArray e)):=by
 subst hsc;have hn:¬(sLen+n<=sc):=by omega
 have Fm:sLen+n<=4294967296:=hroom;have h63':¬(9223372036854775807<((sLen:Int)+(n:Int))):=by omega
 have hmul:(sLen+n)*i.bytes<=4294967296*16384:=Ek Fm hby;have Fo:¬(281474976710656<Builtin.nextslicecap (sLen+n) sc*i.bytes):=by
  have:=growslice_fits (bytes:=i.bytes) gY (by omega)
  omega
 have hf:=yP (P:=P) (w:=w.drew) (xa:=xa) (xc:=xc) hl (λh=>by obtain⟨b,off,h1,h2⟩:=hc h;exact⟨b,off,h1,by simpa using h2⟩)
 have hfo:=yP (P:=P) (w:=w.drew) (xa:=base) (xc:=sc) hlo (λh=>by obtain⟨b,off,h1,h2⟩:=Fl h;exact⟨b,off,h1,by simpa using h2⟩)
 simp[Builtin.append_,run_underlying ht,run_underlying ht',sizeOf,typeInfo,zeroValue,hi,hz,Builtin.lenOf,hn,h63',Fo,Question.forced,hf,hfo,newRow,grownCap];congr 2;apply Array.ext';simp[jX]
end
end Go.VS
namespace Go.VS
section
variable {P:Program}{φ:bX}
variable {nt m dB:Nat}{s:St}{g:Gh}{a:Act}{w:World}{K:Act->World->Prop}{Q:Exit->Act->World->Prop}{o:Oper}
theorem fG.refl(w:World)(b:Nat):fG w w b:=⟨rfl,λ_ _=>rfl,rfl,rfl,rfl⟩
theorem Ks{h:List O}{B o':Nat}{x:O}(hr:bT φ h g w)(hB:∀k,(af h k).live=true->g.β k≠B)(hx:cP φ (h++[x]) (g.add h.length B o' g.I) w B o' x):
  bT φ (h++[x]) (g.add h.length B o' g.I) w where
 obj n:=by
  rcases lB n h.length with hn |hn |hn
  .have hne:n≠h.length:=by omega
   rw[jM hn];by_cases hl:(af h n).live=true
   .have:=ur (qW (b:=B) (o:=o') x hr (cU.refl w) (λ_ _=>rfl)) rfl rfl (hr.obj n)
    simpa[Gh.add,hne]using this
   .cases hq:af h n<;>simp_all[O.live,cP]
  .subst hn
   rw[uw];simpa[Gh.add]using hx
  .rw[nE hn]
   trivial
 inj n k hn hk he:=by
  have key:∀n,(af (h++[x]) n).live=true->n<=h.length:=λn hn=>by
   rcases eH h.length n with h1 |h1
   .rw[nE h1]at hn;simp[O.live]at hn
   .exact h1
  have kn:=key n hn;have kk:=key k hk;by_cases h1:n=h.length<;>by_cases h2:k=h.length
  .omega
  .have hlt:k<h.length:=by omega
   rw[jM hlt]at hk;have:=hB k hk;simp[Gh.add,h1,h2]at he;exact absurd he.symm this
  .have hlt:n<h.length:=by omega
   rw[jM hlt]at hn;have:=hB n hn;simp[Gh.add,h1,h2]at he;exact absurd he this
  .have hlt:n<h.length:=by omega
   have hlt':k<h.length:=by omega
   rw[jM hlt]at hn;rw[jM hlt']at hk;simp[Gh.add,h1,h2]at he;exact hr.inj n k hn hk he
 new:=hr.new
theorem P3{h':List O}{g':Gh}{w':World}{b es:Nat}{T:TypeId}{C:List Value}{rest:List Value}{ys:List (List D)}{ex:Bool}(hb:w'.heap[b]?=some (.cells (C++rest).toArray T (0,0)))
  (hl:∀r∈ys,r.length=es)(hr:aM φ g'.I w' ys.flatten C)(h1:∀v∈C,v.oneCell'=true)(hI:if ex then g'.I b<=0 else g'.I b=0+es*ys.length):cP φ h' g' w' b 0 (.an es ex ys):=by
 have hlen:=nC hr;rw[pS hl]at hlen;refine⟨⟨_,T,hb,by simp;omega⟩,Fi hl hr h1 λj v hj=>?_,hI⟩
 simp only[World.cell?,hb,iR,tN];rw[jH]
 .simp[hj]
 .rcases eH j C.length with h2 |h2
  .exact h2
  .simp[dL h2]at hj
theorem BL{C:Array Value}(h:∀v∈C.toList,v.oneCell'=true)(n:Nat):∀v∈(Builtin.zeroCells C n).toList,v.oneCell'=true:=by
 intro v hv;simp only[Builtin.zeroCells,ya,Array.toList_range,dz,o8]at hv;obtain⟨i,hi,rfl⟩:=hv;have hp:0<C.size:=by
  rcases I7 C.size with h0 |h0
  .rw[h0]at hi;simp at hi
  .exact h0
 have hlt:=Nat.mod_lt i hp;rw[getElem!_pos C _ hlt];exact h _ (by simp)
theorem P4(hs:aI φ nt m dB s g a w){d:Nat}(hd:cQ nt o d=true){es cap:Nat}{T:TypeId}{C rest:List Value}{ys:List (List D)}{ex:Bool}{ok:Bool}{w1:World}(iW:cU w w1)(iw:w1.heap.size=w.heap.size)
  (hrun:(execOp a.eval o).run P w = .ok (.value (.slice (some ⟨w.heap.size,0,none⟩) ys.length cap)) (w1.alloc (.cells (C++rest).toArray T)))
  (hl:∀r∈ys,r.length=es)(hr:aM φ g.I w ys.flatten C)(h1:∀v∈C,v.oneCell'=true)(hcap:ys.length<=cap)(hfit:cap*es<=C.length+rest.length)(mI:∀v∈rest,v.oneCell'=true)
  (hK:∀g' v' w',aI φ nt m dB ⟨(d,.aJ s.heap.length 0 ys.length)::s.env,s.heap++[.an es ex ys],ok⟩ g' (a.put o.dst v') w'->Frame m s.heap g w (s.heap++[.an es ex ys]) g' w'->K (a.put o.dst v') w'):o.wp P a w K Q:=by
 have hnew:=hs.heap.new;have hnew1:∀b,w1.heap.size<=b->g.I b=0:=λb hb=>hnew b (by omega)
 have hg:=iW.trans (cU.alloc w1 (.cells (C++rest).toArray T));have hb:(w1.alloc (.cells (C++rest).toArray T)).heap[w.heap.size]?=some (.cells (C++rest).toArray T):=by rw[<-iw];exact pT w1 _
 have hI:∀b,b<w.heap.size->eu g.I w.heap.size (if ex then 0 else es*ys.length) b=g.I b:=λb hb=>wm hb
 have hE:=uu hg hI hnew;refine wj hs hd (b:=w.heap.size) (off:=0) (x:=.an es ex ys) (I':=eu g.I w.heap.size (if ex then 0 else es*ys.length)) hrun hg hI (by rw[<-iw];exact E3 (w:=w1) hnew1 _) (bZ _) ?_ ?_ hK
 .refine P3 hb hl (qQ hE hr) h1 ?_
  cases ex<;>simp[Gh.add,eu]
 .simp only[ah]
  refine⟨by simp,rfl,λes' he'=>?_⟩
  rw[uw]at he'⊢;simp[O.dg]at he';subst he';exact⟨cap,by simp[Gh.add],hcap,by simp[O.len];exact hcap,_,_,by simpa[Gh.add]using hb,by simp[Gh.add];exact hfit,λv hv=>by simp at hv;exact hv.elim (h1 v) (mI v)⟩
theorem BM(hs:aI φ nt m dB s g a w){d:Nat}(hd:cQ nt o d=true){es cap:Nat}{T:TypeId}{C rest:List Value}{ys:List (List D)}{ex:Bool}{ok:Bool}
  (hrun:(execOp a.eval o).run P w = .ok (.value (.slice (some ⟨w.heap.size,0,none⟩) ys.length cap)) (w.drew.alloc (.cells (C++rest).toArray T)))
  (hl:∀r∈ys,r.length=es)(hr:aM φ g.I w ys.flatten C)(h1:∀v∈C,v.oneCell'=true)(hcap:ys.length<=cap)(hfit:cap*es<=C.length+rest.length)(mI:∀v∈rest,v.oneCell'=true)
  (hK:∀g' v' w',aI φ nt m dB ⟨(d,.aJ s.heap.length 0 ys.length)::s.env,s.heap++[.an es ex ys],ok⟩ g' (a.put o.dst v') w'->Frame m s.heap g w (s.heap++[.an es ex ys]) g' w'->K (a.put o.dst v') w'):o.wp P a w K Q :=
 P4 hs hd (cU.drew w) rfl hrun hl hr h1 hcap hfit mI hK
theorem aI.kill(hs:aI φ nt m dB s g a w){n:Nat}(hl:(af s.heap n).live=true)(ok:Bool):aI φ nt m dB ⟨s.env,s.heap.set n .dead,ok⟩ g a w/\Frame m s.heap g w (s.heap.set n .dead) g w/\cT s.heap g w (s.heap.set n .dead) g w:=by
 have hle:cT s.heap g w (s.heap.set n .dead) (g.bM g.I) w:=nF hs.heap hl (fG.refl _ _) (Ext.refl _ _) (λes he=>by simp[O.dg]at he) (λhk=>by simp[O.fL]at hk)
 have hr:bT φ (s.heap.set n .dead) (g.bM g.I) w:=nG hs.heap hl (fG.refl _ _) hle (λ_ _=>rfl) trivial
 exact⟨hs.oy hl (fG.refl _ _) hle hr,nH .dead hl (fG.refl _ _) (Ext.refl _ _) (λ_ _=>rfl) hle,hle⟩
theorem P5{I:Nat->Nat}{cs ds:List D}{vs us:List Value}(h:aM φ I w cs vs)(k:aM φ I w ds us)(n:Nat):aM φ I w (aS cs n ds) (aS vs n us):=by
 unfold aS;rw[nC k];exact qR (qR (EZ h n) k) (v9 h _)
theorem P6{α:Type}{es:Nat}{rows ys:List (List α)}(hl:∀r∈rows,r.length=es)(hy:∀r∈ys,r.length=es)(n:Nat):(aS rows n ys).flatten=aS rows.flatten (n*es) ys.flatten:=by
 have key:∀(rows:List (List α))(n:Nat),(∀r∈rows,r.length=es)->(rows.take n).flatten=rows.flatten.take (n*es)/\(rows.drop n).flatten=rows.flatten.drop (n*es):=by
  intro rows;induction rows with
  |nil=>intro n _;simp
  |cons r rs ih =>
   intro n h;have hr:r.length=es:=h r (by simp)
   cases n with
   |zero=>simp
   |succ n =>
    obtain⟨h1,h2⟩:=ih n (λx hx=>h x (by simp[hx]))
    simp only[I8,qC,List.drop_succ_cons,h1,h2,Ef,List.drop_append,hr,kC];have e1:n*es+es - es=n*es:=by omega
    have e2:r.take (n*es+es)=r:=fU (by omega)
    have e3:r.drop (n*es+es)=[]:=qH (by omega)
    rw[e1,e2,e3];simp
 unfold aS;rw[vJ,vJ,(key rows n hl).1,(key rows _ hl).2,pS hy];congr 2;rw[iA,eI ys.length]
theorem Kt{α:Type}{cs ds:List α}{n:Nat}{x:α}(h:x∈aS cs n ds):x∈cs\/x∈ds:=by
 simp only[aS,aL]at h;rcases h with(h |h) |h
 .exact .inl (lC h)
 .exact .inr h
 .exact .inl (lD h)
theorem Ku{I I':Nat->Nat}{w':World}{b es off n:Nat}{rows ys:List (List D)}{news:List Value}(hr:fE φ I w b es off rows)(hE:Ext I w I' w')(hy:aM φ I w ys.flatten news)(h1:∀v∈news,v.oneCell'=true)
  (Fp:∀r∈ys,r.length=es)(hn:n+ys.length<=rows.length){cur:Array Value}{T:TypeId}(hg:w.heap[b]?=some (.cells cur T (0,0)))(hfit:off+es*rows.length<=cur.size)
  (hg':w'.heap[b]?=some (.cells (aS cur.toList (off+n*es) news).toArray T (0,0))):fE φ I' w' b es off (aS rows n ys):=by
 have hrl:∀r∈rows,r.length=es:=by
  intro r hmem;obtain⟨j,hj,he⟩:=jf hmem;exact(iV hr (r:=j) (row:=r) (by simp[hj,he])).1
 obtain⟨vs,k1,k2,k3,k4⟩:=rj hr;have gF:=nC hy;rw[pS Fp]at gF;have hmul:n*es+es*ys.length<=es*rows.length:=by
  have:=Ej es hn;rw[x7,eI es n]at this;exact this
 refine Fi (vs:=aS vs (n*es) news) (λr hr=>(Kt hr).elim (hrl r) (Fp r)) ?_ (λv hv=>(Kt hv).elim (k2 v) (h1 v)) λj v hj=>?_
 .rw[P6 hrl Fp]
  exact qQ hE (P5 k1 hy _)
 .have iI:=uB (cs:=cur.toList) (new:=news) (o:=off+n*es) (by simp;omega) (off+j)
  rw[uB (by omega)]at hj
  have old:vs[j]?=some v->cur.toList[off+j]?=some v:=λh=>by
   have:=k4 j v h;simpa[World.cell?,hg]using this
  simp only[World.cell?,hg',tN];rw[iI];by_cases c1:j<n*es
  .rw[aN c1]at hj
   rw[aN (show off+j<off+n*es by omega)]
   exact old hj
  .rw[aF c1]at hj
   rw[aF (show ¬off+j<off+n*es by omega)]
   by_cases c2:j<n*es+news.length
   .rw[aN c2]at hj
    rw[aN (show off+j<off+n*es+news.length by omega)]
    have:off+j - (off+n*es)=j - n*es:=by omega
    rw[this];exact hj
   .rw[aF c2]at hj
    rw[aF (show ¬off+j<off+n*es+news.length by omega)]
    exact old hj
def Fq(b:Bool)(n off len:Nat):V:=if b then .dX n off len else .aJ n off len
theorem Kv(bx:Bool)(hs:aI φ nt m dB s g a w){d n off len cap es:Nat}{x':Operand}{rows ys:List (List D)}{news:List Value}{CS:Array Value}{T:TypeId}(hd:cQ nt o d=true)(hn:af s.heap n = .an es true rows)
  (hb:w.heap[g.β n]?=some (.cells CS T (0,0)))(hfit:g.o n+(off+cap)*es<=CS.size)(hcs:pK CS)(jw:g.o n+es*rows.length<=CS.size)(hm:if bx then rows.length=off+cap else rows.length<=off+cap)(he:a.eval x' = .slice (some ⟨g.β n,g.o n+off*es,none⟩) len cap)
  (bJ:fE φ g.I w (g.β n) es (g.o n) rows)(hI:g.I (g.β n)<=g.o n)(hrd:aM φ g.I w ys.flatten news)(hone:∀u∈news,u.oneCell'=true)(hrl:∀r∈ys,r.length=es)(iM:news.length=ys.length*es)
  (hin:off+len+ys.length<=rows.length)
  (hrun:len+ys.length<=cap->g.o n+off*es+len*es+news.length<=CS.size->(execOp a.eval o).run P w = .ok (.value (.slice (some ⟨g.β n,g.o n+off*es,none⟩) (len+ys.length) cap)) (w.setRow (g.β n) (aS CS.toList (g.o n+off*es+len*es) news).toArray))
  (hK:bY φ nt m dB s g w ⟨(d,Fq bx n off (len+ys.length))::s.env,s.heap.set n (.an es true (aS rows (off+len) ys)),s.ok⟩ o a K):o.wp P a w K Q:=by
 have hl:(af s.heap n).live=true:=by rw[hn];rfl
 have hm':rows.length<=off+cap:=by cases bx<;>simp at hm<;>omega
 have hmul:(off+len+ys.length)*es<=rows.length*es:=iq es hin;rw[iA,iA]at hmul;have uJ:es*rows.length=rows.length*es:=eI _ _;have jx:g.o n+off*es+len*es+news.length<=CS.size:=by omega
 have Ft:=hrun (by omega) jx
 obtain⟨ht,hw'⟩:=Bt (cs:=(aS CS.toList (g.o n+off*es+len*es) news).toArray) hb;have hE:Ext g.I w g.I (w.setRow (g.β n) (aS CS.toList (g.o n+off*es+len*es) news).toArray):=yB ht hb jx hw' (by omega) (λ_=>bZ _)
 have hsize:(aS CS.toList (g.o n+off*es+len*es) news).toArray.size=CS.size:=by
  have:=sF (cs:=CS.toList) (new:=news) (o:=g.o n+off*es+len*es) (by simpa using jx)
  simpa using this
 have uK:(aS rows (off+len) ys).length=rows.length:=sF hin;have hle:=nF (x:=.an es true (aS rows (off+len) ys)) hs.heap hl ht hE
  (λes' he'=>⟨by rw[hn];simpa[O.dg]using he',by rw[hn];simp only[O.len,uK],λkN T' hc=>by
   rw[hb]at hc;simp at hc;obtain⟨rfl,rfl⟩:=hc;exact⟨_,_,hw',by rw[hsize];exact bZ _,λh=>h.sG hone⟩⟩) (λhk=>by simp[O.fL]at hk)
 have e1:g.o n+off*es+len*es=g.o n+(off+len)*es:=by rw[iA];omega
 have hH:=nG (x:=.an es true (aS rows (off+len) ys)) hs.heap hl ht hle (λ_ _=>rfl)
  ⟨⟨_,T,hw',by rw[hsize,uK];exact jw⟩,Ku bJ hE hrd hone hrl hin hb jw (by rw[<-e1];exact hw'),by simpa[Gh.bM]using hI⟩
 have hS:=hs.oy (ok:=s.ok) hl ht hle hH;obtain⟨h1,h2⟩:=pQ hd;refine pN Ft (hK _ _ _ ?_ (nH _ hl ht hE (λ_ _=>rfl) hle))
 rw[h1];refine hS.lT h2 ?_;cases bx with
 |false =>
  simp only[Fq,eD,cB,ah];refine⟨by simpa using sy hl,rfl,λes' he'=>?_⟩
  rw[ow (sy hl)]at he'⊢;simp[O.dg]at he';subst he';exact⟨cap,rfl,by omega,by simp only[O.len,uK];exact hm',_,_,hw',by rw[hsize];exact hfit,hcs.sG hone⟩
 |true =>
  simp only[aU]at hm;simp only[Fq,aU,ah];refine⟨by simpa using sy hl,rfl,λes' he'=>?_⟩
  rw[ow (sy hl)]at he'⊢;simp[O.dg]at he';subst he';exact⟨cap,rfl,by omega,by simp only[O.len,uK];exact hm,_,_,hw',by rw[hsize];exact hfit,hcs.sG hone⟩
theorem Fu(hs:aI φ nt m dB s g a w){d n off len cap es:Nat}{ex:Bool}{rows ys:List (List D)}{news:List Value}{CS:Array Value}{T:TypeId}(hd:cQ nt o d=true)(hn:af s.heap n = .an es ex rows)
  (hb:w.heap[g.β n]?=some (.cells CS T (0,0)))(hfit:g.o n+(off+cap)*es<=CS.size)(hcs:pK CS)(jw:g.o n+es*rows.length<=CS.size)(Kw:off+len<=rows.length)
  (bJ:fE φ g.I w (g.β n) es (g.o n) rows)(hI:if ex then g.I (g.β n)<=g.o n else g.I (g.β n)=g.o n+es*rows.length)(hrd:aM φ g.I w ys.flatten news)(hone:∀u∈news,u.oneCell'=true)(hrl:∀r∈ys,r.length=es)(iM:news.length=ys.length*es)
  (hcap:len+ys.length<=cap)(hex:ex=true\/off+len=rows.length)
  (hrun:g.o n+off*es+len*es+news.length<=CS.size->(execOp a.eval o).run P w = .ok (.value (.slice (some ⟨g.β n,g.o n+off*es,none⟩) (len+ys.length) cap)) (w.setRow (g.β n) (aS CS.toList (g.o n+off*es+len*es) news).toArray))
  (hK:bY φ nt m dB s g w ⟨(d,.aJ s.heap.length 0 (len+ys.length))::s.env,s.heap.set n .dead++[.an es ex ((rows.drop off).take len++ys)],s.ok⟩ o a K):o.wp P a w K Q:=by
 have hl:(af s.heap n).live=true:=by rw[hn];rfl
 have hmul:(len+ys.length)*es<=cap*es:=iq es hcap;have Kx:(off+len)*es<=rows.length*es:=iq es Kw;rw[iA]at hmul Kx;have P7:=hfit;rw[iA]at P7;have uJ:es*rows.length=rows.length*es:=eI _ _;have gE:es*len=len*es:=eI _ _;have oC:es*ys.length=ys.length*es:=eI _ _;have jx:g.o n+off*es+len*es+news.length<=CS.size:=by omega
 have Ft:=hrun jx;obtain⟨ht,hw'⟩:=Bt (cs:=(aS CS.toList (g.o n+off*es+len*es) news).toArray) hb;generalize W0:w.setRow (g.β n) (aS CS.toList (g.o n+off*es+len*es) news).toArray=w' at *;have hlen:((rows.drop off).take len).length=len:=by simp;omega
 have gH:((rows.drop off).take len++ys).length=len+ys.length:=by simp;omega
 have P8:g.I (g.β n)<=g.o n+off*es+len*es:=by
  cases ex with
  |true=>simp only[aU]at hI;omega
  |false =>
   simp at hI hex
   have:rows.length*es=off*es+len*es:=by rw[<-hex,iA]
   omega
 have hE:Ext g.I w (if ex then g.I else eu g.I (g.β n) (g.o n+off*es+es*(len+ys.length))) w':=yB ht hb jx hw' P8 (λk=>by
  cases ex with
  |true=>simp
  |false =>
   simp only[eD,cB,eu];split
   .rename_i hk;subst hk;rw[x7];omega
   .exact bZ _)
 generalize Ky:(if ex then g.I else eu g.I (g.β n) (g.o n+off*es+es*(len+ys.length)))=I' at hE
 have pV:∀b,b≠g.β n->I' b=g.I b:=by
  intro b hb;rw[<-Ky];cases ex<;>simp[eu,hb]
 have hsize:(aS CS.toList (g.o n+off*es+len*es) news).toArray.size=CS.size:=by
  have:=sF (cs:=CS.toList) (new:=news) (o:=g.o n+off*es+len*es) (by simpa using jx)
  simpa using this
 have fN:=nF (x:=.dead) hs.heap hl ht hE (λes he=>by simp[O.dg]at he) (λhk=>by simp[O.fL]at hk)
 have iJ:=nG (x:=.dead) hs.heap hl ht fN pV trivial;have oD:=hs.oy (ok:=s.ok) hl ht fN iJ;have hB:∀k,(af (s.heap.set n .dead) k).live=true->(g.bM I').β k≠g.β n:=by
  intro k hk sL;by_cases hkn:k=n
  .subst hkn;rw[ow (sy hl)]at hk;simp[O.live]at hk
  .rw[jN hkn]at hk;exact hkn (hs.heap.inj k n hk hl sL)
 have wH:=qW (b:=g.β n) (o:=g.o n+off*es) (.an es ex ((rows.drop off).take len++ys)) iJ (cU.refl w') (I':=I') (λ_ _=>rfl)
 obtain⟨olds,o1,o2,o3,o4⟩:=rj (uI bJ Kw);rw[hlen]at o3;have yQ:∀r∈(rows.drop off).take len++ys,r.length=es:=by
  intro r hr;rcases aL.1 hr with h1 |h1
  .obtain⟨j,hj,nK⟩:=jf (lD (lC h1))
   exact(iV bJ (r:=j) (row:=r) (by simp[hj,nK])).1
  .exact hrl r h1
 have P9:fE φ I' w' (g.β n) es (g.o n+off*es) ((rows.drop off).take len++ys):=by
  refine Fi (vs:=olds++news) yQ (by rw[vJ];exact qQ hE (qR o1 hrd)) (λv hv=>(aL.1 hv).elim (o2 v) (hone v)) λj v hj=>?_
  have iI:=uB (cs:=CS.toList) (new:=news) (o:=g.o n+off*es+len*es) (by simpa using jx) (g.o n+off*es+j)
  simp only[World.cell?,hw',tN];rw[iI];by_cases c1:j<olds.length
  .rw[jH c1]at hj
   rw[aN (show g.o n+off*es+j<g.o n+off*es+len*es by omega)]
   have:=o4 j v hj;simpa[World.cell?,hb]using this
  .rw[n5 (by omega)]at hj
   have hjl:j - olds.length<news.length:=by
    rcases eH (j - olds.length) news.length with h2 |h2
    .exact h2
    .simp[dL h2]at hj
   rw[aF (show ¬g.o n+off*es+j<g.o n+off*es+len*es by omega),aN (show g.o n+off*es+j<g.o n+off*es+len*es+news.length by omega)]
   have:g.o n+off*es+j - (g.o n+off*es+len*es)=j - olds.length:=by omega
   rw[this];exact hj
 have Fv:cP φ (s.heap.set n .dead++[.an es ex ((rows.drop off).take len++ys)]) ((g.bM I').add (s.heap.set n .dead).length (g.β n) (g.o n+off*es) I') w' (g.β n) (g.o n+off*es) (.an es ex ((rows.drop off).take len++ys)):=by
  refine⟨⟨_,T,hw',by rw[hsize,gH,x7];omega⟩,P9,?_⟩
  rw[gH];show if ex=true then I' (g.β n)<=_ else I' (g.β n)=_
  rw[<-Ky];cases ex with
  |true=>simp at hI⊢;omega
  |false=>simp[eu]
 have Fw:=Ks iJ hB Fv;have yR:aI φ nt m dB ⟨s.env,s.heap.set n .dead++[.an es ex ((rows.drop off).take len++ys)],s.ok⟩ ((g.bM I').add (s.heap.set n .dead).length (g.β n) (g.o n+off*es) I') a w' :=
  ⟨λk=>fF wH (oD.env k),Fw,oD.size,hs.defers.reuse hl oD.defers,by have:=hs.len;simp;omega⟩
 have Fx:(s.heap.set n .dead).length=s.heap.length:=by simp
 have iX:=nH (m:=m) .dead hl ht hE pV fN;obtain⟨h1,h2⟩:=pQ hd;refine pN Ft (hK ((g.bM I').add (s.heap.set n .dead).length (g.β n) (g.o n+off*es) I') _ _ ?_ ⟨hE,iX.size,iX.os,iX.tape,iX.output,λk hk=>?_,iX.keep,λk hk=>?_,λk hk=>?_⟩)
 .rw[h1]
  refine yR.lT h2 ?_;simp only[ah];refine⟨by simp,rfl,λes' he'=>?_⟩
  rw[<-Fx,uw]at he'⊢;simp[O.dg]at he';subst he';refine⟨cap,by simp[Gh.add],hcap,by simp only[O.len,gH];omega,_,_,by simp only[Gh.add,aU];exact hw',?_,hcs.sG hone⟩
  simp only[Gh.add,aU];rw[hsize,iR];omega
 .have hne:k≠s.heap.length:=by have:=hs.len;omega
  simp[Gh.add,hne,Gh.bM]
 .rcases lB k (s.heap.set n .dead).length with hk' |hk' |hk'
  .rw[jM hk']at hk
   have hne:k≠s.heap.length:=by omega
   have:=iX.gT k hk;simpa[Gh.add,hne]using this
  .exact .inl ⟨n,hl,by simp[Gh.add,hk']⟩
  .rw[nE hk']at hk;simp[O.live]at hk
 .have hk1:k<s.heap.length:=je hk hs.len
  exact(fN.at hk1).trans (wH.at (by rw[Fx];exact hk1)) rfl
theorem Kz(hs:aI φ nt m dB s g a w){rec:Rec}{d es:Nat}{x y:A}(hc:aR P φ nt o (.app d x y es)=true)(hok:(aj rec (.app d x y es) s).ok=true)
  (hK:bY φ nt m dB s g w (aj rec (.app d x y es) s) o a K):o.wp P a w K Q:=by
 simp only[aR,aA]at hc;obtain⟨hd,h⟩:=hc;split at h
 .rename_i c ho
  split at h
  .rename_i x' y' t t' dZ hargs iH
   simp only[aA,fu]at h;obtain⟨⟨⟨hx,hy⟩,hpos⟩,ht⟩:=h;obtain⟨we,args,tys⟩:=c;simp only at dZ hargs iH;have kR:args=#[x',y']:=by rw[<-Array.toList_inj];exact hargs
   have mL:tys=#[t,t']:=by rw[<-Array.toList_inj];exact iH
   subst dZ;subst kR;subst mL;split at ht
   .rename_i e e' hu ir
    split at ht
    .rename_i i hi
     simp only[aA,bN,fu]at ht;obtain⟨⟨hsz,hby⟩,pY⟩:=ht;split at pY
     .rename_i z hz
      simp only[aA,bN,jG]at pY;obtain⟨pY,iw⟩:=pY;subst hsz;have rx:=b7 hs hx;have ry:=b7 hs hy;have fin:∀{u u':Value}{r:Value}{w':World},a.eval x'=u->a.eval y'=u'->(Builtin.append_ #[t,t'] o.type #[u,u']).run P w = .ok r w'->(execOp a.eval o).run P w = .ok (.value r) w':=by
       intro u u' r w' h1 h2 h3;simp[execOp,ho,resolve,invoke,builtin,h1,h2,h3]
      simp only[aj]at hok hK;obtain⟨v,hh,hv⟩:=pU hok;rw[hv]at hK;simp only[St.ct]at hK;have same:∀{v':Value},(execOp a.eval o).run P w = .ok (.value v') w->hh=s.heap->ah φ s.heap g w v v'->o.wp P a w K Q:=by
       intro v' h1 h2 h3;subst h2;exact nI hs hd h1 h3 hK
      unfold fW at hv;cases kT:kI s.heap i.size (s.get y)with
      |none=>simp[kT]at hv
      |some ys =>
       simp only[kT]at hv;obtain⟨xa,xc,news,kV,hrl,hrd,hone,gF,hbase⟩:=Kr hs.heap ry kT;have iM:news.length=ys.length*i.size:=by rw[gF,eI]
       have eK:news≠[]->∃b off,xa=some ⟨b,off,none⟩/\∀(j:Nat)(u:Value),news[j]?=some u->w.cell? ⟨b,off+j,none⟩=some u:=by
        intro hne;refine hbase λh=>hne ?_
        subst h;exact AT (by simpa using gF)
       have zero:ys.length=0->∀{ad:Option Addr}{len cap:Nat},len<=cap->a.eval x' = .slice ad len cap->(execOp a.eval o).run P w = .ok (.value (.slice ad len cap)) w:=by
        intro h0 ad len cap hle he;rw[h0]at kV;exact fin he kV (P2 hu ir hi hle)
       have fresh:∀{ad:Option Addr},a.eval x' = .slice ad 0 0->ys.length≠0->ys.length<=room->v = .aJ s.heap.length 0 ys.length->hh=s.heap++[.an i.size true ys]->o.wp P a w K Q:=by
        intro ad he h0 hroom Fy Qa;subst Fy;subst Qa;have hrun:=Fk (P:=P) (w:=w) (ty:=o.type) hu ir hi hz (sLen:=0) (sCap:=0) (sc:=0) (base:=ad) (olds:=[]) (by simp) (by simp) iM eK (xc:=xc) (by omega) (by omega) hby rfl
        simp only[iR,jW]at hrun;have uL:=grownCap_ge w ys.length 0 e;refine BM hs hd (es:=i.size) (ex:=true) (rest:=(Builtin.zeroCells z.cells (grownCap w ys.length 0 e - ys.length)).toList) (fin he kV hrun) hrl hrd hone uL ?_ (BL iw _) hK;rw[iM];have fO:(Builtin.zeroCells z.cells (grownCap w ys.length 0 e - ys.length)).toList.length=(grownCap w ys.length 0 e - ys.length)*i.size:=by simp[size_zeroCells,pY]
        rw[fO,<-Nat.add_mul];exact iq _ (by omega)
       cases cj:s.get x with
       |d xd =>
        cases xd with
        |sl e1 nl xs =>
         rw[cj]at hv rx;simp only at hv;split at hv
         .rename_i gn
          subst gn;simp only[ah,aC]at rx;obtain⟨ad,cap,he,hlc,sJ,mN⟩:=rx;split at hv
          .rename_i h0
           simp at hv;obtain⟨rfl,rfl⟩:=hv;exact same (zero h0 hlc he) rfl (by simp only[ah,aC];exact⟨ad,cap,rfl,hlc,sJ,mN⟩)
          .rename_i h0
           split at hv
           .rename_i KA
            simp at hv;obtain⟨rfl,rfl⟩:=sJ KA.1
            have:xs.length=0:=by omega
            rw[this]at he;exact fresh he h0 KA.2 hv.1.symm hv.2.symm
           .simp at hv
         .simp at hv
        |_=>rw[cj]at hv;simp at hv
       |dS e1 =>
        rw[cj]at hv rx;simp only at hv;simp only[ah]at rx;obtain⟨ad,he⟩:=rx;split at hv
        .rename_i h0
         simp at hv;obtain⟨rfl,rfl⟩:=hv;exact same (zero h0 (bZ _) he) rfl (by simp[ah,aC])
        .rename_i h0
         split at hv
         .rename_i hroom
          simp at hv;exact fresh he h0 hroom hv.1.symm hv.2.symm
         .simp at hv
       |aJ n off len =>
        rw[cj]at hv rx;simp only at hv;split at hv
        .rename_i e1 ex rows hn
         split at hv
         .rename_i bP
          obtain⟨rfl,hle⟩:=bP;have rx':=rx;simp only[ah]at rx;obtain⟨cap,he,hlc,hm,CS,T,hb,hfit,hcs⟩:=rx.2.2 i.size (by rw[hn];rfl)
          rw[hn]at hm;simp only[O.len]at hm;have hl:(af s.heap n).live=true:=by rw[hn];rfl
          have bA:=hs.heap.obj n;rw[hn]at bA;obtain⟨⟨kN,T',hb',jw⟩,bJ,hI⟩:=bA;rw[hb]at hb';simp at hb';obtain⟨rfl,rfl⟩:=hb';split at hv
          .rename_i h0
           simp at hv;obtain⟨rfl,rfl⟩:=hv;exact same (zero h0 hlc he) rfl (by rw[he]at rx';exact rx')
          .rename_i h0
           split at hv
           .rename_i hin
            split at hv
            .rename_i hex
             subst hex;simp at hv;obtain⟨rfl,rfl⟩:=hv;simp only[aU]at hI;exact Kv false hs hd hn hb hfit hcs jw (by simpa using hm) he bJ hI hrd hone hrl iM (by omega) (λwH jx=>fin he kV (Fj hu ir hi iM eK wH hb jx hone)) hK
            .simp at hv
           .rename_i hin
            split at hv
            .rename_i KB
             simp at hv;obtain⟨rfl,rfl⟩:=hv;by_cases hcap:len+ys.length<=cap
             .exact Fu hs hd hn hb hfit hcs jw hle bJ hI hrd hone hrl iM hcap KB.1 (λjx=>fin he kV (Fj hu ir hi iM eK hcap hb jx hone)) hK
             .obtain⟨k1,k2,k3⟩:=hs.kill hl s.ok
              have hlen:((rows.drop off).take len).length=len:=by simp;omega
              obtain⟨olds,o1,o2,o3,o4⟩:=rj (uI bJ hle);rw[hlen]at o3;have hrun:=Fk (P:=P) (w:=w) (ty:=o.type) hu ir hi hz (sLen:=len) (sCap:=cap) (sc:=cap) (base:=some ⟨g.β n,g.o n+off*i.size,none⟩) (olds:=olds) (by rw[o3,eI]) (λ_=>⟨_,_,rfl,o4⟩) iM eK (xc:=xc) (by omega) KB.2 hby rfl
              have uL:=grownCap_ge w (len+ys.length) cap e;have gH:((rows.drop off).take len++ys).length=len+ys.length:=by simp;omega
              have fO:(Builtin.zeroCells z.cells (grownCap w (len+ys.length) cap e - (len+ys.length))).toList.length=(grownCap w (len+ys.length) cap e - (len+ys.length))*i.size:=by simp[size_zeroCells,pY]
              have yQ:∀r∈(rows.drop off).take len++ys,r.length=i.size:=by
               intro r hr;rcases aL.1 hr with h1 |h1
               .obtain⟨j,hj,nK⟩:=jf (lD (lC h1))
                exact(iV bJ (r:=j) (row:=r) (by simp[hj,nK])).1
               .exact hrl r h1
              have dO:(s.heap.set n .dead).length=s.heap.length:=by simp
              refine BM (s:=⟨s.env,s.heap.set n .dead,s.ok⟩) k1 hd (es:=i.size) (ex:=ex) (ys:=(rows.drop off).take len++ys) (C:=olds++news) (ok:=s.ok)
               (rest:=(Builtin.zeroCells z.cells (grownCap w (len+ys.length) cap e - (len+ys.length))).toList) (by rw[gH];exact fin he kV hrun) yQ (by rw[vJ];exact qR o1 hrd)
               (λv hv=>(aL.1 hv).elim (o2 v) (hone v)) (by rw[gH];exact uL) ?_ (BL iw _) λg' v' w' h1 h2=>?_
              .rw[eC,o3,iM,fO,eI i.size,<-Nat.add_mul,<-Nat.add_mul]
               exact iq _ (by omega)
              .simp only[dO,gH]at h1 h2
               exact hK g' v' w' h1 (k2.trans h2)
            .simp at hv
         .simp at hv
        .simp at hv
       |dX n off len =>
        rw[cj]at hv rx;simp only at hv;split at hv
        .rename_i e1 ex rows hn
         split at hv
         .rename_i bP
          obtain⟨rfl,hle⟩:=bP;have rx':=rx;simp only[ah]at rx;obtain⟨cap,he,hlc,hm,CS,T,hb,hfit,hcs⟩:=rx.2.2 i.size (by rw[hn];rfl)
          rw[hn]at hm;simp only[O.len]at hm;have hl:(af s.heap n).live=true:=by rw[hn];rfl
          have bA:=hs.heap.obj n;rw[hn]at bA;obtain⟨⟨kN,T',hb',jw⟩,bJ,hI⟩:=bA;rw[hb]at hb';simp at hb';obtain⟨rfl,rfl⟩:=hb';split at hv
          .rename_i h0
           simp at hv;obtain⟨rfl,rfl⟩:=hv;exact same (zero h0 hlc he) rfl (by rw[he]at rx';exact rx')
          .rename_i h0
           split at hv
           .rename_i hin
            split at hv
            .rename_i hex
             subst hex;simp at hv;obtain⟨rfl,rfl⟩:=hv;simp only[aU]at hI;exact Kv true hs hd hn hb hfit hcs jw (by simpa using hm) he bJ hI hrd hone hrl iM (by omega) (λwH jx=>fin he kV (Fj hu ir hi iM eK wH hb jx hone)) hK
            .simp at hv
           .rename_i hin
            split at hv
            .rename_i hroom
             simp at hv;obtain⟨rfl,rfl⟩:=hv;have hlen:((rows.drop off).take len).length=len:=by simp;omega
             obtain⟨olds,o1,o2,o3,o4⟩:=rj (uI bJ hle);rw[hlen]at o3;have hrun:=Fk (P:=P) (w:=w) (ty:=o.type) hu ir hi hz (sLen:=len) (sCap:=cap) (sc:=cap) (base:=some ⟨g.β n,g.o n+off*i.size,none⟩) (olds:=olds) (by rw[o3,eI]) (λ_=>⟨_,_,rfl,o4⟩) iM eK (xc:=xc) (by omega) hroom hby rfl
             have uL:=grownCap_ge w (len+ys.length) cap e;have gH:((rows.drop off).take len++ys).length=len+ys.length:=by simp;omega
             have fO:(Builtin.zeroCells z.cells (grownCap w (len+ys.length) cap e - (len+ys.length))).toList.length=(grownCap w (len+ys.length) cap e - (len+ys.length))*i.size:=by simp[size_zeroCells,pY]
             have yQ:∀r∈(rows.drop off).take len++ys,r.length=i.size:=by
              intro r hr;rcases aL.1 hr with h1 |h1
              .obtain⟨j,hj,nK⟩:=jf (lD (lC h1))
               exact(iV bJ (r:=j) (row:=r) (by simp[hj,nK])).1
              .exact hrl r h1
             refine BM hs hd (es:=i.size) (ex:=true) (ys:=(rows.drop off).take len++ys) (C:=olds++news) (ok:=s.ok)
              (rest:=(Builtin.zeroCells z.cells (grownCap w (len+ys.length) cap e - (len+ys.length))).toList) (by rw[gH];exact fin he kV hrun) yQ (by rw[vJ];exact qR o1 hrd)
              (λv hv=>(aL.1 hv).elim (o2 v) (hone v)) (by rw[gH];exact uL) ?_ (BL iw _) λg' v' w' h1 h2=>?_
             .rw[eC,o3,iM,fO,eI i.size,<-Nat.add_mul,<-Nat.add_mul]
              exact iq _ (by omega)
             .simp only[gH]at h1 h2
              exact hK g' v' w' h1 h2
            .simp at hv
         .simp at hv
        .simp at hv
       |_=>rw[cj]at hv;simp at hv
     .simp at pY
    .simp at ht
   .simp at ht
  .simp at h
 .simp at h
end
end Go.VS
