import Derived.Test.YtifnkfombicejaaV06
import Derived.Test.YtifnkfombicejaaV05
set_option linter.all false
set_option maxHeartbeats 1000000
namespace Go.VS
section
variable {P:Program}{φ:bX}
mutual
theorem D8{h:List O}{g:Gh}{w:World}:∀{x:V}{v:Value},ah φ h g w x v->∀n∈x.ak,n<h.length
 | .u,_,_,n,hn=>by simp[V.ak]at hn
 | .fB,_,_,n,hn=>by simp[V.ak]at hn
 | .d x,_,_,n,hn=>by simp[V.ak]at hn
 | .loc k r c,_,hr,n,hn=>by simp only[V.ak,lG]at hn;simp only[ah]at hr;rw[hn];exact hr.1
 | .aJ k r c,_,hr,n,hn=>by simp only[V.ak,lG]at hn;simp only[ah]at hr;rw[hn];exact hr.1
 | .dX k r c,_,hr,n,hn=>by simp only[V.ak,lG]at hn;simp only[ah]at hr;rw[hn];exact hr.1
 | .dS _,_,_,n,hn=>by simp[V.ak]at hn
 | .mp k,_,hr,n,hn=>by simp only[V.ak,lG]at hn;simp only[ah]at hr;rw[hn];exact hr.1
 | .fC k,_,hr,n,hn=>by simp only[V.ak,lG]at hn;simp only[ah]at hr;rw[hn];exact hr.1
 | .rf cs,_,hr,n,hn=>by
  simp only[ah]at hr;obtain⟨b,off,us,_,_,h1,_⟩:=hr;exact xX h1 n (by simpa only[V.ak]using hn)
 | .fn f a b,_,hr,n,hn=>by
  simp only[ah]at hr;obtain⟨A,B,_,h1,h2⟩:=hr;simp only[V.ak,aL]at hn;exact hn.elim (xX h1 n) (xX h2 n)
 | .ag cs,_,hr,n,hn=>by
  simp only[ah]at hr;obtain⟨A,_,h1,_⟩:=hr;exact xX h1 n (by simpa only[V.ak]using hn)
 | .tu cs,_,hr,n,hn=>by
  simp only[ah]at hr;obtain⟨A,_,h1⟩:=hr;exact xX h1 n (by simpa only[V.ak]using hn)
theorem xX{h:List O}{g:Gh}{w:World}:∀{xs:List V}{vs:List Value},aB φ h g w xs vs->∀n∈V.bW xs,n<h.length
 | [],_,_,n,hn=>by simp[V.bW]at hn
 |x::xs,v::vs,hr,n,hn=>by
  simp only[aB]at hr;simp only[V.bW,aL]at hn;exact hn.elim (D8 hr.1 n) (xX hr.2 n)
 |_::_,[],hr,_,_=>by simp[aB]at hr
end
theorem Wu{h:List O}{g:Gh}{w:World}{b o:Nat}{x:O}(hr:cP φ h g w b o x):∀n∈x.ak,n<h.length:=by
 intro n hn;cases x with
 |cS es rows =>
  simp only[O.ak,dG]at hn;obtain⟨row,hrow,hn⟩:=hn;obtain⟨r,oR,gd⟩:=jf hrow;have hg:rows[r]?=some row:=by simp[oR,gd]
  obtain⟨_,h2⟩:=hr.2.1 r row hg
  have:∀(row:List V),(∀(j:Nat)(c:V),row[j]?=some c->∃v,ah φ h g w c v)->n∈V.bW row->n<h.length:=by
   intro row;induction row with
   |nil=>intro _ hn;simp[V.bW]at hn
   |cons c row ih =>
    intro hc hn;simp only[V.bW,aL]at hn;rcases hn with hn |hn
    .obtain⟨v,hv⟩:=hc 0 c rfl
     exact D8 hv n hn
    .exact ih (λj c hj=>hc (j+1) c (by simpa using hj)) hn
  exact this row (λj c hj=>let ⟨v,_,_,h3⟩:=h2 j c hj;⟨v,h3⟩) hn
 |mp kv ck bs =>
  simp only[O.ak,dG]at hn;obtain⟨p,hp,hn⟩:=hn;obtain⟨ES,_,⟨hl,h2⟩,_⟩:=hr;obtain⟨r,oR,gd⟩:=jf hp;have Zr:r<ES.toList.length:=by omega
  obtain⟨_,h3⟩:=h2 r p ES.toList[r] (by simp[oR,gd]) (by simp)
  exact D8 h3 n hn
 |it k since seen =>
  simp only[O.ak,lG]at hn;obtain⟨r,_,h2,_⟩:=hr;rw[hn];exact h2
 |lp ps a c e env =>
  simp only[O.ak]at hn;obtain⟨rc,nt,_,_,_,_,h4,_⟩:=hr
  have:∀(env:List (Nat×V)),uo φ h g w env rc.tmps->n∈bC env->n<h.length:=by
   intro env;induction env with
   |nil=>intro _ hn;simp[bC]at hn
   |cons p r ih =>
    intro hr hn;simp only[bC,aL]at hn;rcases hn with hn |hn
    .exact D8 (hr p (by simp)) n hn
    .exact ih (λq hq=>hr q (by simp[hq])) hn
  exact this env h4 hn
 |_=>simp[O.ak]at hn
structure IM(K:List O)(g:Gh)(K':List O)(g':Gh)(n:Nat):Prop where
 lt:n<K'.length
 ob:af K' n=af K n
 β:g'.β n=g.β n
 o:g'.o n=g.o n
mutual
theorem D9{K K':List O}{g g':Gh}{w:World}(hI:g'.I=g.I):∀{x:V}{v:Value},(∀n∈x.ak,IM K g K' g' n)->ah φ K g w x v->ah φ K' g' w x v
 | .u,_,_,_=>by simp[ah]
 | .fB,_,_,hr=>by simpa[ah]using hr
 | .d x,_,_,hr=>by simp only[ah]at hr⊢;rw[hI];exact hr
 | .loc n r c,_,hs,hr=>by
  have S:=hs n (by simp[V.ak])
  simp only[ah]at hr⊢;rw[S.ob,S.β,S.o];exact⟨S.lt,hr.2⟩
 | .aJ n r c,_,hs,hr=>by
  have S:=hs n (by simp[V.ak])
  simp only[ah]at hr⊢;rw[S.ob,S.β,S.o];exact⟨S.lt,hr.2⟩
 | .dX n r c,_,hs,hr=>by
  have S:=hs n (by simp[V.ak])
  simp only[ah]at hr⊢;rw[S.ob,S.β,S.o];exact⟨S.lt,hr.2⟩
 | .dS _,_,_,hr=>by simpa only[ah]using hr
 | .mp n,_,hs,hr=>by
  have S:=hs n (by simp[V.ak])
  simp only[ah]at hr⊢;rw[S.ob,S.β];exact⟨S.lt,hr.2⟩
 | .fC n,_,hs,hr=>by
  have S:=hs n (by simp[V.ak])
  simp only[ah]at hr⊢;rw[S.ob,S.β];exact⟨S.lt,hr.2⟩
 | .rf cs,_,hs,hr=>by
  simp only[ah]at hr⊢;obtain⟨b,off,us,h0,h1,h2,h3⟩:=hr;exact⟨b,off,us,h0,by rw[hI];exact h1,xY hI (λn hn=>hs n (by simpa only[V.ak]using hn)) h2,h3⟩
 | .fn f a b,_,hs,hr=>by
  simp only[ah]at hr⊢;obtain⟨A,B,h0,h1,h2⟩:=hr;exact⟨A,B,h0,xY hI (λn hn=>hs n (by simp[V.ak,hn])) h1,xY hI (λn hn=>hs n (by simp[V.ak,hn])) h2⟩
 | .ag cs,_,hs,hr=>by
  simp only[ah]at hr⊢;obtain⟨A,h0,h1,h2⟩:=hr;exact⟨A,h0,xY hI (λn hn=>hs n (by simpa only[V.ak]using hn)) h1,h2⟩
 | .tu cs,_,hs,hr=>by
  simp only[ah]at hr⊢;obtain⟨A,h0,h1⟩:=hr;exact⟨A,h0,xY hI (λn hn=>hs n (by simpa only[V.ak]using hn)) h1⟩
theorem xY{K K':List O}{g g':Gh}{w:World}(hI:g'.I=g.I):∀{xs:List V}{vs:List Value},(∀n∈V.bW xs,IM K g K' g' n)->aB φ K g w xs vs->aB φ K' g' w xs vs
 | [],[],_,_=>by simp[aB]
 |x::xs,v::vs,hs,hr=>by
  simp only[aB]at hr⊢;exact⟨D9 hI (λn hn=>hs n (by simp[V.bW,hn])) hr.1,xY hI (λn hn=>hs n (by simp[V.bW,hn])) hr.2⟩
 | [],_::_,_,hr=>by simp[aB]at hr
 |_::_,[],_,hr=>by simp[aB]at hr
end
theorem Wv{K K':List O}{g g':Gh}{w:World}{b o:Nat}{x:O}(hI:g'.I=g.I)(hs:∀n∈x.ak,IM K g K' g' n)(hr:cP φ K g w b o x):cP φ K' g' w b o x:=by
 cases x with
 |dead=>trivial
 |an es ex rows=>simp only[cP]at hr⊢;rw[hI];exact hr
 |cS es rows =>
  simp only[cP]at hr⊢;rw[hI];refine⟨hr.1,λr row hrow=>?_,hr.2.2⟩
  obtain⟨h1,h2⟩:=hr.2.1 r row hrow;refine⟨h1,λj c hj=>?_⟩
  obtain⟨v,h3,h4,h5⟩:=h2 j c hj;refine⟨v,h3,h4,D9 hI (λn hn=>hs n ?_) h5⟩
  simp only[O.ak,dG];exact⟨row,dV hrow,KC (dV hj) hn⟩
 |mp kv ck bs =>
  simp only[cP]at hr⊢;rw[hI];obtain⟨ES,h1,⟨h2,h3⟩,h7,h4⟩:=hr;refine⟨ES,h1,⟨h2,λi p e hp he=>?_⟩,h7,h4⟩
  obtain⟨h5,h6⟩:=h3 i p e hp he;refine⟨by rw[hI];exact h5,D9 hI (λn hn=>hs n ?_) h6⟩
  simp only[O.ak,dG];exact⟨p,dV hp,hn⟩
 |it k since seen =>
  simp only[cP]at hr⊢;rw[hI];obtain⟨r,h1,h2,h3,h4⟩:=hr;have S:=hs k (by simp[O.ak])
  exact⟨r,h1,S.lt,λhm=>by rw[S.ob]at hm;rw[S.β];exact h3 hm,h4⟩
 |lp ps a c e env =>
  simp only[cP]at hr⊢;rw[hI];obtain⟨rc,nt,h1,h0,h2,h3,h4,h5⟩:=hr;exact⟨rc,nt,h1,h0,h2,h3,λp hp=>D9 hI (λn hn=>hs n (by simp only[O.ak];exact BN hp hn)) (h4 p hp),h5⟩
theorem Ww{H0 K:List O}{g:Gh}{w:World}{j es p:Nat}{Z:List (List D)}(hr:bT φ K g w)(h0:∀k,k<H0.length->af K k=af H0 k)(yX:∀k,∀n∈(af H0 k).ak,n<H0.length)
  (hj:H0.length<=j)(hZ:af K j = .an es true Z):bT φ (H0++[.an es true (Z.take p)]) (g.add H0.length (g.β j) (g.o j) g.I) w:=by
 have xZ:∀k,k<H0.length->af (H0++[.an es true (Z.take p)]) k=af K k:=λk hk=>by rw[nO hk,h0 k hk]
 have hl:(af K j).live=true:=by rw[hZ];rfl
 refine⟨λk=>?_,λa b ha hb he=>?_,hr.new⟩
 .rcases lB k H0.length with hk |hk |hk
  .have hne:k≠H0.length:=by omega
   rw[xZ k hk];simp only[Gh.add,aF hne];refine Wv (K:=K) (g:=g) rfl (λn hn=>?_) (hr.obj k)
   rw[h0 k hk]at hn;have hlt:=yX k n hn;have Dy:n≠H0.length:=by omega
   exact⟨by simp;omega,xZ n hlt,by simp[Gh.add,Dy],by simp[Gh.add,Dy]⟩
  .subst hk
   rw[uR];have:=hr.obj j;rw[hZ]at this;obtain⟨⟨CS,T,hb,hfit⟩,bJ,hI⟩:=this;simp only[Gh.add,aU];have hmul:es*(Z.take p).length<=es*Z.length:=Ej es (by simp[Nat.min_le_right])
   refine⟨⟨CS,T,hb,by omega⟩,nD λr row hrow=>?_,hI⟩
   rw[tM]at hrow;split at hrow
   .exact iV bJ hrow
   .simp at hrow
  .rw[nE hk];trivial
 .have key:∀k,(af (H0++[.an es true (Z.take p)]) k).live=true->k<=H0.length:=λk hk=>by
   rcases eH H0.length k with h1 |h1
   .rw[nE h1]at hk;simp[O.live]at hk
   .exact h1
  have ka:=key a ha;have kb:=key b hb;by_cases h1:a=H0.length<;>by_cases h2:b=H0.length
  .omega
  .have hlt:b<H0.length:=by omega
   rw[xZ b hlt]at hb;simp only[Gh.add,h1,h2,aU,cB]at he;have:=hr.inj _ _ hl hb he;omega
  .have hlt:a<H0.length:=by omega
   rw[xZ a hlt]at ha;simp only[Gh.add,h1,h2,aU,cB]at he;have:=hr.inj _ _ ha hl he;omega
  .have hlt:a<H0.length:=by omega
   have hlt':b<H0.length:=by omega
   rw[xZ a hlt]at ha;rw[xZ b hlt']at hb;simp only[Gh.add,h1,h2,cB]at he;exact hr.inj _ _ ha hb he
theorem Wx{H0 K h:List O}{g0 g:Gh}{w0 w:World}{m j es p:Nat}{Z:List (List D)}(hf:Frame m h g0 w0 K g w)(h0:∀k,k<H0.length->af K k=af H0 k)(hm:m<=H0.length)
  (hj:H0.length<=j)(hZ:af K j = .an es true Z):Frame m h g0 w0 (H0++[.an es true (Z.take p)]) (g.add H0.length (g.β j) (g.o j) g.I) w where
 ext:=hf.ext
 size:=hf.size
 os:=hf.os
 tape:=hf.tape
 output:=hf.output
 eU n hn:=by
  have hne:n≠H0.length:=by omega
  simp only[Gh.add,aF hne];exact hf.eU n hn
 keep:=hf.keep
 gT n hn:=by
  rcases lB n H0.length with hk |hk |hk
  .have hne:n≠H0.length:=by omega
   rw[nO hk,<-h0 n hk]at hn;simp only[Gh.add,aF hne];exact hf.gT n hn
  .simp only[Gh.add,hk,aU]
   exact hf.gT j (by rw[hZ];rfl)
  .rw[nE hk]at hn;simp[O.live]at hn
 jq n hn:=by
  have hlt:n<H0.length:=by omega
  have:=hf.jq n hn;have he:af (H0++[.an es true (Z.take p)]) n=af K n:=by rw[nO hlt,h0 n hlt]
  exact⟨λes he'=>by rw[he]at he'⊢;exact this.arr es he',λhk=>this.mp (by rw[<-he];exact hk),λhk=>this.lp (by rw[<-he];exact hk)⟩
theorem Wy{h:List O}{g:Gh}{w:World}(hr:bT φ h g w){n:Nat}(hl:(af h n).live=true)(m:Nat):bT φ (h.set n .dead) g w/\Frame m h g w (h.set n .dead) g w:=by
 have hle:cT h g w (h.set n .dead) (g.bM g.I) w:=nF hr hl (fG.refl _ _) (Ext.refl _ _) (λes he=>by simp[O.dg]at he) (λhk=>by simp[O.fL]at hk)
 exact⟨nG hr hl (fG.refl _ _) hle (λ_ _=>rfl) trivial,nH .dead hl (fG.refl _ _) (Ext.refl _ _) (λ_ _=>rfl) hle⟩
theorem IN(hm:P.follows .mixedOrders=true)(hk:oY P φ){f:Nat}{F:F}(hF:D4 P φ f F){es fo fr:Nat}{z:List D}(AB:F.code=nY es z fo fr)(hres:F.res=[.t 6])
  {h:List O}{g:Gh}{w:World}{xs:List V}{args:Array Value}{v:V}{h1:List O}{Q:Ending->World->Prop}(hH:bT φ h g w)(ha:aB φ h g w xs args.toList)
  (hrun:run (λ_=>none) h.length jE [.c (nY es z fo fr)] (jm 0 xs) h=some (.val v h1))
  (hQ:∀v' g' w',bT φ h1 g' w'->ah φ h1 g' w' v v'->Frame h.length h g w h1 g' w'->Q (.returned v') w'):Calls P (φ f) args w Q:=by
 obtain⟨fn,c,k1,k2,k3,k4,k5⟩:=hF;obtain⟨s',N3,hok,h6,oX⟩:=Wr hrun;have hall:=V6 (φ:=φ) hm hk (Pv:=λ_=>none) (λf F hf=>by simp at hf)
 rw[AB]at k4;refine(callsIn_wide (n:=0)).1 (callsIn_of_wp_marks (F:=Wd none) k1 k3 trivial (xV hm hk hall.1 hall.2.1 hall.2.2 c _ (.inl rfl) k4 (NH (bZ _) hH ha fn.ntmps) (by rw[N3];exact hok) λg' a' w' hs' hf'=>?_))
 rw[N3]at hs' hf'⊢;simp only at hs' hf';refine NL hH hs' hf' λw' hs' hf'=>?_
 rw[hres]at k5;obtain⟨us,wy,cM⟩:=D1 hs' k5 (vs:=[aK s'.env 6]) (by simp[qN,yj,St.get])
 refine⟨_,ND wy,?_⟩;rw[h6,oX]at cM;rw[oX]at hf'
 match us,cM with
 | [u],cM =>
  simp only[aB,jd]at cM;exact hQ u g' w' (by rw[<-oX];exact hs'.heap) cM hf'
 | [],cM=>simp[aB]at cM
 |_::_::_,cM=>simp[aB]at cM
theorem Wz(hm:P.follows .mixedOrders=true)(hk:oY P φ){f:Nat}{F:F}(hF:D4 P φ f F){es fo fr:Nat}{z:List D}(AB:F.code=nY es z fo fr)(hres:F.res=[.t 6])(hz:z.length=es)(gn:0<es):
  NF P φ f (wV es):=by
 intro xs h v h1 hp;have WA:=hF;obtain⟨fn,c,k1,k2,k3,_,_⟩:=WA;refine⟨⟨fn,k1,k2,by simp[k3]⟩,λg w args hH ha=>?_⟩
 unfold wV at hp;split at hp
 .rename_i x i e vs
  split at hp
  .rename_i bP
   obtain⟨rfl,hv,hrl⟩:=bP;split at hp
   ·
    rename_i e';split at hp
    .rename_i gE
     obtain⟨rfl,rfl,hroom⟩:=gE;simp only[bF,gS]at hp;obtain⟨rfl,rfl⟩:=hp;exact IN hm hk hF AB hres hH ha (Wp hv hroom) λv' g' w' q1 q2 q3=>⟨v',g',rfl,q1,q2,q3⟩
    .simp at hp
   .rename_i e'
    split at hp
    .rename_i gE
     obtain⟨rfl,rfl,hroom⟩:=gE;simp only[bF,gS]at hp;obtain⟨rfl,rfl⟩:=hp;exact IN hm hk hF AB hres hH ha (Wq hv hroom) λv' g' w' q1 q2 q3=>⟨v',g',rfl,q1,q2,q3⟩
    .simp at hp
   .rename_i n off len
    split at hp
    .rename_i e' rows hn
     split at hp
     .rename_i gE
      obtain⟨rfl,hle,jP,wL,hroom⟩:=gE;simp only[bF,gS]at hp;obtain⟨rfl,rfl⟩:=hp;have hl:(af h n).live=true:=by rw[hn];rfl
      obtain⟨kH,kF⟩:=Wy hH hl h.length;have bA:=hH.obj n;rw[hn]at bA;obtain⟨⟨CS,T,hb,hfit⟩,bJ,hI⟩:=bA;simp only[aU]at hI
      match hargs:args.toList,ha with
      | [u0,u1,u2],ha=>?_
      simp only[aB,jd]at ha;obtain⟨r0,r1,r2⟩:=ha;simp only[ah]at r0;obtain⟨gF,_,tD⟩:=r0;rw[hn]at tD;obtain⟨cap,rfl,hlc,H6,kN,T',hb',jw,hone⟩:=tD e' rfl;rw[hb]at hb';simp only[bF,Obj.cells.injEq,jd]at hb';obtain⟨rfl,rfl⟩:=hb';simp only[O.len]at H6;obtain⟨H0,IP⟩:∃H0,h.set n .dead=H0:=⟨_,rfl⟩;rw[IP]at kH kF⊢;have N4:H0.length=h.length:=by rw[<-IP];simp
      obtain⟨dN,IQ⟩:∃dN,rows.drop off++List.replicate (cap - (rows.length - off)) (List.replicate e' D.tY)=dN:=⟨_,rfl⟩;have E8:dN.length=cap:=by rw[<-IQ];simp;omega
      have Ea:dN.take len=(rows.drop off).take len:=by rw[<-IQ,vP (by simp;omega)]
      have Bx:cP φ (H0++[.an e' true dN]) (g.add H0.length (g.β n) (g.o n+off*e') g.I) w (g.β n) (g.o n+off*e') (.an e' true dN):=by
       refine⟨⟨CS,T,hb,by rw[E8];rw[iA]at jw;have:=eI e' cap;omega⟩,nD λr row hr=>?_,by simp only[aU,Gh.add];omega⟩
       rw[<-IQ,List.getElem?_append]at hr;split at hr
       .rw[jI]at hr
        obtain⟨q1,q2⟩:=iV bJ hr;rw[iA,<-Nat.add_assoc]at q2;exact⟨q1,q2⟩
       .rename_i hge
        obtain⟨oR,gd⟩:=dW.1 hr;simp only[Jr,AU]at oR hge;simp only[Js]at gd;subst gd;refine⟨by simp,om λj c hj=>?_⟩
        obtain⟨uP,hj2⟩:=dW.1 hj;simp only[Js]at hj2;simp only[Jr]at uP;subst hj2;have WB:r+1<=cap:=by omega
        have hmul:(r+1)*e'<=cap*e':=iq _ WB;rw[iA]at jw hmul;have hlt:g.o n+off*e'+r*e'+j<CS.size:=by omega
        exact⟨CS[g.o n+off*e'+r*e'+j],by simp[World.cell?,hb,hlt],hone _ (by simp),by simp[aC]⟩
      have hB:∀k,(af H0 k).live=true->g.β k≠g.β n:=by
       intro k hk sL;rw[<-IP]at hk;by_cases hkn:k=n
       .subst hkn;rw[ow gF]at hk;simp[O.live]at hk
       .rw[jN hkn]at hk;exact hkn (hH.inj k n hk hl sL)
      have WC:=Ks kH hB Bx;have hn':af (H0++[.an e' true dN]) H0.length = .an e' true dN:=uR;have WD:Frame h.length h g w (H0++[.an e' true dN]) (g.add H0.length (g.β n) (g.o n+off*e') g.I) w:=by
       refine⟨kF.ext,kF.size,kF.os,kF.tape,kF.output,λk hk=>?_,kF.keep,λk hk=>?_,λk hk=>?_⟩
       .have hne:k≠H0.length:=by omega
        simp[Gh.add,hne]
       .rcases lB k H0.length with h1 |h1 |h1
        .have hne:k≠H0.length:=by omega
         rw[nO h1]at hk;simp only[Gh.add,aF hne];exact kF.gT k hk
        .exact .inl ⟨n,hl,by simp[Gh.add,h1]⟩
        .rw[nE h1]at hk;simp[O.live]at hk
       .have he:af (H0++[.an e' true dN]) k=af H0 k:=nO (by omega)
        have:=kF.jq k hk;exact⟨λes he'=>by rw[he]at he'⊢;exact this.arr es he',λhk=>this.mp (by rw[<-he];exact hk),λhk=>this.lp (by rw[<-he];exact hk)⟩
      have yX:∀k,∀n∈(af H0 k).ak,n<H0.length:=λk=>Wu (kH.obj k)
      have WE:aB φ (H0++[.an e' true dN]) (g.add H0.length (g.β n) (g.o n+off*e') g.I) w [.dX H0.length 0 len,.d (.i .i64 i),.d (.sl e' false vs)] args.toList:=by
       rw[hargs];simp only[aB,jd];refine⟨?_,by simpa only[ah,Gh.add]using r1,by simpa only[ah,Gh.add]using r2⟩
       simp only[ah];refine⟨by simp,rfl,λes he=>?_⟩
       rw[hn']at he⊢;simp only[O.dg,bF]at he;subst he;refine⟨cap,by simp[Gh.add],hlc,by simp only[O.len];omega,CS,T,by simpa only[Gh.add,aU]using hb,?_,hone⟩
       simp only[Gh.add,aU,iR];rw[iA]at jw;omega
      have hin:(i.toNat:Int)=i:=by omega
      have E5:(H0++[O.an e' true dN]).length=h.length+1:=by simp[N4]
      have fin:∀{v1:V}{K:List O}{j:Nat}{Z:List (List D)},run (λ_=>none) (H0++[O.an e' true dN]).length jE [.c (nY e' z fo fr)] (jm 0 [.dX H0.length 0 len,.d (.i .i64 i),.d (.sl e' false vs)]) (H0++[.an e' true dN])=some (.val v1 K) ->
        (v1 = .aJ j 0 (len+vs.length)\/v1 = .dX j 0 (len+vs.length))->(∀k,k<H0.length->af K k=af H0 k)->H0.length<=j->af K j = .an e' true Z->Z.take (len+vs.length)=jz i vs ((rows.drop off).take len)->len+vs.length<=Z.length ->
        Calls P (φ f) args w λe w'=>∃v' g',e = .returned v'/\bT φ (H0++[O.an e' true (jz i vs ((rows.drop off).take len))]) g' w' /\
         ah φ (H0++[O.an e' true (jz i vs ((rows.drop off).take len))]) g' w' (.aJ h.length 0 (len+vs.length)) v'/\Frame h.length h g w (H0++[O.an e' true (jz i vs ((rows.drop off).take len))]) g' w':=by
       intro v1 K j Z hrun Fy h0 hj hZ N5 Zs;refine IN hm hk hF AB hres WC WE hrun λv' g' w' q1 q2 q3=>?_
       have q4:Frame h.length h g w K g' w':=by
        have q5:Frame h.length (H0++[.an e' true dN]) (g.add H0.length (g.β n) (g.o n+off*e') g.I) w K g' w' :=
         ⟨q3.ext,q3.size,q3.os,q3.tape,q3.output,λk hk=>q3.eU k (by omega),q3.keep,q3.gT,λk hk=>q3.jq k (by omega)⟩
        exact WD.trans q5
       have q6:=Ww (p:=len+vs.length) q1 h0 yX hj hZ;have q7:=Wx (p:=len+vs.length) q4 h0 (by omega) hj hZ
       rw[N5]at q6 q7;refine⟨v',_,rfl,q6,?_,q7⟩;have q8:ah φ K g' w' (.aJ j 0 (len+vs.length)) v':=by
        rcases Fy with rfl |rfl
        .exact q2
        .exact yz q2
       simp only[ah]at q8⊢;obtain⟨_,p1,p2⟩:=q8;refine⟨by simp;omega,p1,λes he=>?_⟩
       rw[<-N4,uR]at he⊢;simp only[O.dg,bF]at he;subst he;obtain⟨MJ,c1,c2,c3,EL,T2,c4,c5⟩:=p2 e' (by rw[hZ];rfl)
       refine⟨MJ,by simpa[Gh.add]using c1,c2,?_,EL,T2,by simpa[Gh.add]using c4,by simpa[Gh.add]using c5⟩
       simp only[O.len];rw[<-N5];simp;omega
      by_cases Bs:i=len
      .subst Bs
       have hrun:=Wl (Pv:=λ_=>none) (q:=(H0++[O.an e' true dN]).length) (fo:=fo) (fr:=fr) (z:=z) hn' (by omega) hv hroom
       by_cases oC:len+vs.length<=dN.length
       .rw[aN oC]at hrun
        refine fin hrun (.inr rfl) (λk hk=>?_) (bZ _) (Z:=aS dN len vs) ?_ ?_ ?_
        .rw[jN (by omega),nO hk]
        .rw[KX,uR]
        .rw[<-Ea];exact Ws (by omega)
        .rw[sF oC];exact oC
       .rw[aF oC]at hrun
        refine fin hrun (.inl rfl) (λk hk=>?_) (by simp) (Z:=dN.take len++vs) ?_ ?_ ?_
        .rw[nO (by simp;omega),nO hk]
        .exact uR
        .rw[<-Ea];exact Wt (by omega)
        .simp;omega
      .obtain⟨i',rfl⟩:∃i':Nat,i=i':=⟨i.toNat,by omega⟩
       have hi':i'<len:=by omega
       have hrun:=Wm (Pv:=λ_=>none) (q:=(H0++[O.an e' true dN]).length) (fo:=fo) (fr:=fr) (z:=z) hn' (by omega) (by simp) hv hroom hi' hz
       by_cases oC:len+vs.length<=dN.length
       .rw[aN oC]at hrun
        refine fin hrun (.inr rfl) (λk hk=>?_) (bZ _) (Z:=aS (aS dN (i'+vs.length) ((dN.drop i').take (len - i'))) i' vs) ?_ ?_ ?_
        .rw[jN (by omega),nO hk]
        .rw[KX,uR]
        .rw[<-Ea];exact(N2 oC hi').1
        .rw[(N2 oC hi').2];exact oC
       .rw[aF oC]at hrun
        refine fin hrun (.inl rfl) (λk hk=>?_) (by simp) (Z:=jz i' vs (dN.take len)) ?_ ?_ ?_
        .rw[nO (by simp;omega),nO hk]
        .exact uR
        .rw[<-Ea,fU (by rw[N0 (by simp;omega)];simp;omega)]
        .rw[N0 (by simp;omega)];simp;omega
     .simp at hp
    .simp at hp
   .simp at hp
  .simp at hp
 .simp at hp
end
end Go.VS
