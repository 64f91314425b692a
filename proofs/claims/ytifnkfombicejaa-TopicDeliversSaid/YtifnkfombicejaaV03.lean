import Derived.Test.YtifnkfombicejaaV02
import GoSem.Builtin.Copy
import GoSem.Builtin.Clear
set_option linter.all false
set_option maxHeartbeats 1000000
namespace Go.VS
section
variable {φ:bX}
theorem uM{h:List O}{m:Nat}{roots L:List Nat}(hc:cut h m roots=some L):L.Nodup/\(∀n∈roots,n∈L)/\(∀n∈L,n<h.length/\∀k∈(af h n).ak,k∈L)/\m<=L.length/\∀k,k<m->L[k]?=some k:=by
 unfold cut at hc;simp only at hc;split at hc
 .rename_i bP
  obtain⟨h1,h2,h3⟩:=bP;simp only[bF]at hc;rw[hc]at h1 h2 h3;simp only[jG,fu,Bool.decide_and,aA]at h2 h3;refine⟨h1,h2,h3,?_,λk hk=>?_⟩
  .rw[<-hc];simp
  .rw[<-hc,jH (by simpa using hk)]
   simp[hk]
 .simp at hc
def dP(g:Gh)(L:List Nat):Gh:=⟨λk=>g.β (L.getD k 0),λk=>g.o (L.getD k 0),g.I⟩
theorem iy{h:List O}{L:List Nat}:(sub h L).length=L.length:=by simp[sub]
theorem fP{h:List O}{L:List Nat}{k n:Nat}(hk:L[k]?=some n):af (sub h L) k=(af h n).av (L.idxOf ·):=by
 simp[sub,af,List.getD,hk]
theorem rm{h:List O}{L:List Nat}{k:Nat}(hk:L.length<=k):af (sub h L) k = .dead:=by
 have:(sub h L).length<=k:=by rw[iy];exact hk
 simp[af,List.getD,dL this]
theorem rq{o:O}{f:Nat->Nat}:(o.av f).dg=o.dg:=by cases o<;>rfl
theorem uN{o:O}{f:Nat->Nat}:(o.av f).len=o.len:=by cases o<;>simp[O.av,O.len]
theorem oE{o:O}{f:Nat->Nat}:(o.av f).live=o.live:=by cases o<;>rfl
theorem yS{o:O}{f:Nat->Nat}:(o.av f).mJ=o.mJ:=by cases o<;>rfl
theorem BN{t:Nat}:∀{env:List (Nat×V)}{p:Nat×V},p∈env->t∈p.2.ak->t∈bC env
 | [],_,h,_=>by simp at h
 |q::r,p,h,ht=>by
  simp only[bC,aL];rcases aY.1 h with h1 |h1
  .subst h1;exact .inl ht
  .exact .inr (BN h1 ht)
theorem rz{L:List Nat}{n:Nat}(hn:n∈L):L[L.idxOf n]?=some n:=by
 have hlt:=gA hn;simp[lH hlt]
mutual
theorem wI{h:List O}{g:Gh}{w:World}{L:List Nat}:∀{x:V}{v:Value},(∀n∈x.ak,n∈L)->ah φ h g w x v->ah φ (sub h L) (dP g L) w (x.av (L.idxOf ·)) v
 | .u,v,_,_=>by simp[V.av,ah]
 | .fB,v,_,hr=>by simpa[V.av,ah]using hr
 | .d x,v,_,hr=>by simp only[V.av,ah]at hr⊢;exact hr
 | .loc n r c,v,hl,hr=>by
  have hn:=hl n (by simp[V.ak])
  have hg:=rz hn;simp only[V.av,ah]at hr⊢;refine⟨by rw[iy];exact gA hn,hr.2.1,λes he=>?_⟩
  rw[fP hg,rq]at he;have:=hr.2.2 es he;simpa[dP,List.getD,hg]using this
 | .aJ n off len,v,hl,hr=>by
  have hn:=hl n (by simp[V.ak])
  have hg:=rz hn;simp only[V.av,ah]at hr⊢;refine⟨by rw[iy];exact gA hn,hr.2.1,λes he=>?_⟩
  rw[fP hg,rq]at he;rw[fP hg,uN];have:=hr.2.2 es he;simpa[dP,List.getD,hg]using this
 | .dX n off len,v,hl,hr=>by
  have hn:=hl n (by simp[V.ak])
  have hg:=rz hn;simp only[V.av,ah]at hr⊢;refine⟨by rw[iy];exact gA hn,hr.2.1,λes he=>?_⟩
  rw[fP hg,rq]at he;rw[fP hg,uN];have:=hr.2.2 es he;simpa[dP,List.getD,hg]using this
 | .dS _,v,_,hr=>by simpa only[V.av,ah]using hr
 | .mp n,v,hl,hr=>by
  have hn:=hl n (by simp[V.ak])
  have hg:=rz hn;simp only[V.av,ah]at hr⊢;refine⟨by rw[iy];exact gA hn,hr.2.1,λhe=>?_⟩
  rw[fP hg]at he;have h2:(dP g L).β (L.idxOf n)=g.β n:=by simp[dP,List.getD,hg]
  rw[h2];cases ho:af h n with
  |mp Qb ck bs=>exact hr.2.2 (by rw[ho];rfl)
  |_=>rw[ho]at he;simp[O.av,O.fL]at he
 | .rf cs,v,hl,hr=>by
  simp only[V.av,ah]at hr⊢;obtain⟨b,off,us,h1,h2,h3,h4⟩:=hr;refine⟨b,off,us,h1,?_,pZ (λn hn=>hl n (by simpa[V.ak]using hn)) h3,h4⟩
  have hlen:∀{f:Nat->Nat}{xs:List V},(V.cu f xs).length=xs.length:=by
   intro f xs;induction xs with
   |nil=>rfl
   |cons x xs ih=>simp[V.cu,ih]
  rw[hlen];exact h2
 | .fC n,v,hl,hr=>by
  have hn:=hl n (by simp[V.ak])
  have hg:=rz hn;simp only[V.av,ah]at hr⊢;refine⟨by rw[iy];exact gA hn,hr.2.1,λhe=>?_⟩
  rw[fP hg,yS]at he;have h2:(dP g L).β (L.idxOf n)=g.β n:=by simp[dP,List.getD,hg]
  rw[h2];exact hr.2.2 he
 | .fn f a b,v,hl,hr=>by
  simp only[V.av,ah]at hr⊢;obtain⟨A,B,h1,h2,h3⟩:=hr;exact⟨A,B,h1,pZ (λn hn=>hl n (by simp[V.ak,hn])) h2,pZ (λn hn=>hl n (by simp[V.ak,hn])) h3⟩
 | .ag cs,v,hl,hr=>by
  simp only[V.av,ah]at hr⊢;obtain⟨A,h1,h2,h3⟩:=hr;exact⟨A,h1,pZ (λn hn=>hl n (by simpa[V.ak]using hn)) h2,h3⟩
 | .tu cs,v,hl,hr=>by
  simp only[V.av,ah]at hr⊢;obtain⟨A,h1,h2⟩:=hr;exact⟨A,h1,pZ (λn hn=>hl n (by simpa[V.ak]using hn)) h2⟩
theorem pZ{h:List O}{g:Gh}{w:World}{L:List Nat}:∀{xs:List V}{vs:List Value},(∀n∈V.bW xs,n∈L)->aB φ h g w xs vs->aB φ (sub h L) (dP g L) w (V.cu (L.idxOf ·) xs) vs
 | [],[],_,_=>by simp[V.cu,aB]
 |x::xs,v::vs,hl,hr=>by
  simp only[V.cu,aB]at hr⊢;exact⟨wI (λn hn=>hl n (by simp[V.bW,hn])) hr.1,pZ (λn hn=>hl n (by simp[V.bW,hn])) hr.2⟩
 | [],_::_,_,hr=>by simp[aB]at hr
 |_::_,[],_,hr=>by simp[aB]at hr
end
theorem KC{xs:List V}{x:V}{n:Nat}(hx:x∈xs)(hn:n∈x.ak):n∈V.bW xs:=by
 induction xs with
 |nil=>simp at hx
 |cons y ys ih =>
  simp only[V.bW,aL];rcases aY.1 hx with h |h
  .subst h;exact .inl hn
  .exact .inr (ih h)
theorem Fz{f:Nat->Nat}:∀{xs:List V}{j:Nat},(V.cu f xs)[j]?=(xs[j]?).map (V.av f)
 | [],j=>by simp[V.cu]
 |x::xs,0=>by simp[V.cu]
 |x::xs,j+1=>by simpa[V.cu]using Fz (xs:=xs) (j:=j)
theorem yT{f:Nat->Nat}:∀{xs:List V},(V.cu f xs).length=xs.length
 | []=>rfl
 |x::xs=>by simp[V.cu,yT (xs:=xs)]
theorem Qc{h:List O}{g:Gh}{w:World}{L:List Nat}{b o:Nat}{x:O}(hl:∀n∈x.ak,n∈L)(hr:cP φ h g w b o x):cP φ (sub h L) (dP g L) w b o (x.av (L.idxOf ·)):=by
 cases x with
 |dead=>trivial
 |an es ex rows=>exact hr
 |cS es rows =>
  simp only[O.av,cP]at hr⊢;refine⟨by simpa using hr.1,λr row hrow=>?_,hr.2.2⟩
  rw[jg,cX]at hrow;obtain⟨BO,h0,rfl⟩:=hrow;obtain⟨h1,h2⟩:=hr.2.1 r BO h0;refine⟨by rw[yT];exact h1,λj c hj=>?_⟩
  rw[Fz,cX]at hj;obtain⟨c0,hc0,rfl⟩:=hj;obtain⟨v,h3,h4,h5⟩:=h2 j c0 hc0;refine⟨v,h3,h4,wI (λn hn=>hl n ?_) h5⟩
  simp only[O.ak,dG];exact⟨BO,dV h0,KC (dV hc0) hn⟩
 |mp kv ck bs =>
  simp only[O.av,cP]at hr⊢;obtain⟨ES,h1,h2,h4,h3⟩:=hr;refine⟨ES,h1,⟨by simpa using h2.1,λi p e hp he=>?_⟩,h4,h3⟩
  rw[jg,cX]at hp;obtain⟨p0,BP,rfl⟩:=hp;obtain⟨h4,h5⟩:=h2.2 i p0 e BP he;refine⟨h4,wI (λn hn=>hl n ?_) h5⟩
  simp only[O.ak,dG];exact⟨p0,dV BP,hn⟩
 |it k since seen =>
  simp only[O.av,cP]at hr⊢;obtain⟨r,h1,h2,h3,h4⟩:=hr;have hk:=hl k (by simp[O.ak])
  have hg:=rz hk;refine⟨r,h1,by rw[iy];exact gA hk,λhm=>?_,h4⟩
  rw[fP hg]at hm;have h5:(dP g L).β (L.idxOf k)=g.β k:=by simp[dP,List.getD,hg]
  rw[h5];exact h3 (by cases ho:af h k<;>rw[ho]at hm<;>simp[O.av,O.fL]at hm⊢)
 |lp ps a c e env =>
  simp only[O.av,cP]at hr⊢;obtain⟨r,nt,h1,h0,h2,h3,h4,h5⟩:=hr;refine⟨r,nt,h1,h0,h2,h3,λp hp=>?_,h5⟩
  simp only[eE,dz]at hp;obtain⟨q,hq,rfl⟩:=hp;exact wI (λn hn=>hl n (by simp only[O.ak];exact BN hq hn)) (h4 q hq)
theorem wJ{h:List O}{g:Gh}{w:World}{m:Nat}{roots L:List Nat}(hc:cut h m roots=some L)(hr:bT φ h g w):bT φ (sub h L) (dP g L) w:=by
 obtain⟨hnd,_,dO,_,_⟩:=uM hc;have hout:∀k,¬k<L.length->af (sub h L) k = .dead:=λk hk=>rm (by omega)
 refine⟨λk=>?_,λa b ha hb he=>?_,hr.new⟩
 .by_cases hk:k<L.length
  .have hg:L[k]?=some L[k]:=by simp[hk]
   rw[fP hg];have:=Qc (L:=L) (dO L[k] (m9 hk)).2 (hr.obj L[k]);simpa[dP,List.getD,hg]using this
  .rw[hout k hk];trivial
 .have ka:a<L.length:=by
   by_cases hk:a<L.length
   .exact hk
   .rw[hout a hk]at ha;simp[O.live]at ha
  have kb:b<L.length:=by
   by_cases hk:b<L.length
   .exact hk
   .rw[hout b hk]at hb;simp[O.live]at hb
  have ga:L[a]?=some L[a]:=by simp[ka]
  have gb:L[b]?=some L[b]:=by simp[kb]
  rw[fP ga,oE]at ha;rw[fP gb,oE]at hb
  have:L[a]=L[b]:=hr.inj _ _ ha hb (by simpa[dP,List.getD,ga,gb]using he)
  have i1:=n7 hnd a ka;have i2:=n7 hnd b kb;rw[this]at i1;omega
theorem BQ{h:List O}{g:Gh}{w:World}{m:Nat}{roots L:List Nat}(hc:cut h m roots=some L):Frame m h g w (sub h L) (dP g L) w:=by
 obtain⟨hnd,_,dO,hm,sM⟩:=uM hc;refine⟨Ext.refl _ _,bZ _,rfl,rfl,rfl,λn hn=>?_,λb _ _=>⟨rfl,rfl⟩,λn hn=>?_,λn hn=>⟨λes he=>?_,λhk=>?_,λhk=>?_⟩⟩
 .simp[dP,List.getD,sM n hn]
 .by_cases hk:n<L.length
  .have hg:L[n]?=some L[n]:=by simp[hk]
   rw[fP hg,oE]at hn;exact .inl ⟨L[n],hn,by simp[dP,List.getD,hg]⟩
  .rw[rm (by omega)]at hn;simp[O.live]at hn
 .rw[fP (sM n hn),rq]at he
  rw[fP (sM n hn),uN];refine⟨he,rfl,?_⟩
  have:(dP g L).β n=g.β n:=by simp[dP,List.getD,sM n hn]
  exact iF.of_eq rfl
 .rw[fP (sM n hn)]at hk
  cases ho:af h n<;>rw[ho]at hk<;>simp[O.av,O.fL]at hk⊢
 .rw[fP (sM n hn),yS]at hk
  exact hk
theorem Qd{live:List Nat}{e:List (Nat×V)}{t:Nat}:aK (cO live e) t=if t∈live then aK e t else .u:=by
 unfold cO;induction live with
 |nil=>simp[aK]
 |cons d ds ih =>
  simp only[cR,aK,aY,ih];by_cases h:d=t
  .simp[h]
  .have h':¬t=d:=λe=>h e.symm
   simp[h,h']
theorem KD{f:Nat->Nat}{t:Nat}:∀{e:List (Nat×V)},aK (e.map λp=>(p.1,p.2.av f)) t=(aK e t).av f
 | []=>rfl
 |p::e=>by
  simp only[cR,aK];split
  .rfl
  .exact KD
theorem KE{t n:Nat}:∀{e:List (Nat×V)},n∈(aK e t).ak->n∈bC e
 | [],h=>by simp[aK,V.ak]at h
 |p::e,h=>by
  simp only[bC,aL];simp only[aK]at h;split at h
  .exact .inl h
  .exact .inr (KE h)
theorem yU{nt m dB:Nat}{s:St}{g:Gh}{a:Act}{w:World}(hs:aI φ nt m dB s g a w){live:List Nat}{p:List (Nat×V)×List O}(hc:canon m live s.env s.heap=some p)(ok:Bool):
  ∃g',aI φ nt m dB ⟨p.1,p.2,ok⟩ g' a w/\Frame m s.heap g w p.2 g' w:=by
 have key:∀{h:List O}{g:Gh}{t:Nat},ah φ h g w (aK s.env t) (a.tmps.getD t undef)->ah φ h g w (aK (cO live s.env) t) (a.tmps.getD t undef):=by
  intro h g t hr;rw[Qd];split
  .exact hr
  .simp[ah]
 unfold canon at hc;split at hc
 .rename_i hh
  simp only[bF]at hc;subst hc;rw[<-hh];exact⟨g,⟨λt=>key (hs.env t),hs.heap,hs.size,hs.defers,hs.len⟩,Frame.refl _ _ _ _⟩
 .simp only[cX]at hc
  obtain⟨L,hL,rfl⟩:=hc;obtain⟨_,p6,_,hm,_⟩:=uM hL;refine⟨dP g L,⟨λt=>?_,wJ hL hs.heap,hs.size,hs.defers.frame (BQ hL),by rw[iy];exact hm⟩,BQ hL⟩
  rw[KD];exact wI (λn hn=>p6 n (KE hn)) (key (hs.env t))
end
end Go.VS
namespace Go.VS
structure BI where
 n1:Nat
 n2:Nat
 n3:Nat
 wv:V
 kd:List (D×V)
 cd:Nat
 bd:List Nat
 kg:List (D×V)
 cg:Nat
 bg:List Nat
 kw:List (D×V)
 cw:Nat
 bw:List Nat
structure BB where
 due:List (Int×List Int)
 got:List (Int×List Int)
 dF:List (Int×Int)
 waiting:List Int
def BI.all(x:BI)(i:Nat):List Nat:=i::x.n1::x.n2::x.n3::(x.wv.ak++own x.kd++own x.kg)
def BR(v:V)(n:Int):Prop:=v = .d (iK n)
structure aE(h:List O)(i:Nat)(x:BI)(B:BB):Prop where
 st:af h i = .cS 4 [[.mp x.n1,.mp x.n2,.mp x.n3,x.wv]]
 md:af h x.n1 = .mp x.kd x.cd x.bd
 mg:af h x.n2 = .mp x.kg x.cg x.bg
 mw:af h x.n3 = .mp x.kw x.cw x.bw
 rd:cE (cF h) x.kd B.due
 rg:cE (cF h) x.kg B.got
 rw:cE BR x.kw B.dF
 sw:cF h x.wv B.waiting
 sx:∀n∈x.wv.ak,∃rows,af h n = .an 1 true rows
 nd:(x.all i).Nodup
 lt:∀n∈x.all i,n<h.length
 sd:gr x.kd x.cd x.bd
 sg:gr x.kg x.cg x.bg
 s3:gr x.kw x.cw x.bw
def Lf(h:List O)(sp:List Nat):Prop:=∀n,n∉sp->(af h n).ak=[]
def sN(f:Nat->Nat)(kv:List (D×V)):List (D×V):=kv.map λp=>(p.1,p.2.av f)
def BI.av(f:Nat->Nat)(x:BI):BI:=⟨f x.n1,f x.n2,f x.n3,x.wv.av f,sN f x.kd,x.cd,x.bd,sN f x.kg,x.cg,x.bg,sN f x.kw,x.cw,x.bw⟩
theorem Qe(f:Nat->Nat)(kv:List (D×V)):own (sN f kv)=(own kv).map f:=by
 unfold own sN;rw[AD,Ed];exact Bg λp _=>V.mH f p.2
theorem BI.FA(f:Nat->Nat)(x:BI)(i:Nat):(x.av f).all (f i)=(x.all i).map f:=by
 simp[BI.all,BI.av,Qe,V.mH]
theorem cE.av{α:Type}{R R2:V->α->Prop}{f:Nat->Nat}:∀{kv:List (D×V)}{l:List (Int×α)},cE R kv l->(∀p∈kv,∀x,R p.2 x->R2 (p.2.av f) x)->cE R2 (sN f kv) l
 | [],[],_,_=>trivial
 |p::_,_::_,h,hm=>⟨h.1,hm p (by simp) _ h.2.1,cE.av h.2.2 λq hq=>hm q (by simp[hq])⟩
 | [],_::_,h,_=>h.elim
 |_::_,[],h,_=>h.elim
theorem cF.av{h h2:List O}{f:Nat->Nat}{v:V}{l:List Int}(hs:cF h v l)(hf:∀n∈v.ak,af h2 (f n)=(af h n).av f):cF h2 (v.av f) l:=by
 rcases hs with⟨rfl,rfl⟩ |⟨n,off,ex,rows,rfl,h2',h3,h4⟩
 .exact .inl ⟨rfl,rfl⟩
 .exact .inr ⟨f n,off,ex,rows,rfl,by rw[hf n (by simp[V.ak]),h2'];rfl,h3,h4⟩
theorem FB{f:Nat->Nat}{kv:List (D×V)}{ck:Nat}{bs:List Nat}(h:gr kv ck bs):gr (sN f kv) ck bs:=⟨by simpa[sN]using h.len,h.nd,h.lt⟩
theorem aE.av{h h2:List O}{i:Nat}{x:BI}{B:BB}(b:aE h i x B){f:Nat->Nat}(hf:∀n∈x.all i,af h2 (f n)=(af h n).av f)(hl:∀n∈x.all i,f n<h2.length)(hi:∀n∈x.all i,∀k∈x.all i,f n=f k->n=k):aE h2 (f i) (x.av f) B where
 st:=by rw[hf i (by simp[BI.all]),b.st];rfl
 md:=by show af h2 (f x.n1)=_;rw[hf x.n1 (by simp[BI.all]),b.md];rfl
 mg:=by show af h2 (f x.n2)=_;rw[hf x.n2 (by simp[BI.all]),b.mg];rfl
 mw:=by show af h2 (f x.n3)=_;rw[hf x.n3 (by simp[BI.all]),b.mw];rfl
 rd:=b.rd.av λp hp y hy=>hy.av λn hn=>hf n (by
  have:n∈own x.kd:=dG.2 ⟨p,hp,hn⟩
  simp[BI.all,this])
 rg:=b.rg.av λp hp y hy=>hy.av λn hn=>hf n (by
  have:n∈own x.kg:=dG.2 ⟨p,hp,hn⟩
  simp[BI.all,this])
 rw:=b.rw.av λp hp y hy=>by unfold BR at *;rw[hy];rfl
 sw:=b.sw.av λn hn=>hf n (by simp[BI.all,hn])
 sx n hn:=by
  have hn:n∈(x.wv.av f).ak:=hn;rw[V.mH]at hn;obtain⟨k,hk,rfl⟩:=dz.1 hn;obtain⟨rows,hr⟩:=b.sx k hk;exact⟨rows,by rw[hf k (by simp[BI.all,hk]),hr];rfl⟩
 nd:=by
  rw[BI.FA];exact(JC λa ha c hc=>hi a ha c hc).2 b.nd
 lt n hn:=by
  rw[BI.FA]at hn;obtain⟨k,hk,rfl⟩:=dz.1 hn;exact hl k hk
 sd:=FB b.sd
 sg:=FB b.sg
 s3:=FB b.s3
theorem BS{h:List O}:∀{l:List Nat},l.Nodup->∀{S:List Nat},(∀n∈l,n∉S->(af h n).ak=[])->oh h [] l<=(S.map λn=>(af h n).ak.length).sum
 | [],_,S,_=>by simp[oh]
 |n::l,hd,S,hS=>by
  rw[cy]at hd;rw[yw];simp only[List.contains_nil,eD,cB];by_cases hn:n∈S
  .have h1:=BS hd.2 (S:=S.erase n) λk hk yV=>hS k (by simp[hk]) λhh=>by
    have:k≠n:=λe=>hd.1 (e▸hk)
    exact yV ((List.mem_erase_of_ne this).2 hh)
   have h2:=((List.perm_cons_erase hn).map λn=>(af h n).ak.length).sum_nat
   simp only[cR,El]at h2;omega
  .rw[hS n (by simp) hn]
   have:=BS hd.2 (S:=S) λk hk yV=>hS k (by simp[hk]) yV
   simpa using this
theorem cE.wK{h:List O}:∀{kv:List (D×V)}{l:List (Int×List Int)},cE (cF h) kv l->(own kv).length<=l.length
 | [],[],_=>by simp[own]
 |p::kv,q::l,hr=>by
  have ih:=cE.wK hr.2.2;rw[lW]
  have:p.2.ak.length<=1:=by
   rcases hr.2.1 with⟨e,_⟩ |⟨n,off,ex,rows,e,_⟩<;>rw[e]<;>simp[V.ak]
  simp;omega
 | [],_::_,hr=>hr.elim
 |_::_,[],hr=>hr.elim
theorem aE.ak{h:List O}{i:Nat}{x:BI}{B:BB}(b:aE h i x B):(af h i).ak=x.n1::x.n2::x.n3::x.wv.ak/\(af h x.n1).ak=own x.kd/\(af h x.n2).ak=own x.kg :=
 ⟨by rw[b.st];simp[O.ak,V.bW,V.ak],by rw[b.md];rfl,by rw[b.mg];rfl⟩
theorem aE.cut{h:List O}{i:Nat}{x:BI}{B:BB}(b:aE h i x B){ex:List Nat}(lf:Lf h (i::x.n1::x.n2::ex))(hex:∀n∈ex,(af h n).ak.length<=1/\∀k∈(af h n).ak,k<h.length)(Bu:ex.length<=10)
  (hsz:B.due.length<=300/\B.got.length<=300){m:Nat}(hm:m<=h.length){roots:List Nat}(hr:∀n∈roots,n<h.length)(hi:i∈roots\/i<m)(hc:m+roots.length<=300):
  ∃L,VS.cut h m roots=some L/\L.Nodup/\(∀k,k<m->L[k]?=some k)/\(∀n∈roots,n∈L)/\(∀n∈L,n<h.length)/\(∀n∈L,∀k∈(af h n).ak,k∈L)/\(∀n∈x.all i,n∈L)/\aE (sub h L) (L.idxOf i) (x.av (L.idxOf ·)) B /\
   (∀n∈L,af (sub h L) (L.idxOf n)=(af h n).av (L.idxOf ·))/\Lf (sub h L) (L.idxOf i::L.idxOf x.n1::L.idxOf x.n2::ex.map (L.idxOf ·)):=by
 obtain⟨l1,l2,l3⟩:=b.ak;have hw:∀n,n<h.length->∀k∈(af h n).ak,k<h.length:=λn _ k hk=>by
  by_cases e1:n=i
  .subst e1
   rw[l1]at hk;exact b.lt k (by simp only[BI.all,aY,aL]at hk⊢;rcases hk with h |h |h |h<;>simp[h])
  .by_cases e2:n=x.n1
   .subst e2
    rw[l2]at hk;exact b.lt k (by simp[BI.all,hk])
   .by_cases e3:n=x.n2
    .subst e3
     rw[l3]at hk;exact b.lt k (by simp[BI.all,hk])
    .by_cases e4:n∈ex
     .exact(hex n e4).2 k hk
     .rw[lf n (by simp[e1,e2,e3,e4])]at hk
      simp at hk
 have kW:x.wv.ak.length<=1:=by
  rcases b.sw with⟨e,_⟩ |⟨n,off,ex,rows,e,_⟩<;>rw[e]<;>simp[V.ak]
 have FC:=BS (AG (n:=h.length)) (S:=i::x.n1::x.n2::ex) (λn _ hn=>lf n hn)
 have W3:(ex.map λn=>(af h n).ak.length).sum<=ex.length:=by
  have:∀l:List Nat,(∀n∈l,(af h n).ak.length<=1)->(l.map λn=>(af h n).ak.length).sum<=l.length:=by
   intro l;induction l with
   |nil=>simp
   |cons a l ih =>
    intro hl;have h1:=hl a (by simp)
    have h2:=ih λn hn=>hl n (by simp[hn])
    simp;omega
  exact this ex λn hn=>(hex n hn).1
 simp only[cR,El,l1,l2,l3,fT]at FC;have o1:=b.rd.wK;have o2:=b.rg.wK;obtain⟨L,c1,c2,c3,c4,c5,c6⟩:=JF (m:=m) (roots:=roots) hw hm hr (by omega)
 have BT:i∈L:=by
  rcases hi with h |h
  .exact c4 i h
  .exact dV (c3 i h)
 have hall:∀n∈x.all i,n∈L:=λn hn=>by
  have h1:∀k∈(af h i).ak,k∈L:=c6 i BT;rw[l1]at h1;have h2:=c6 x.n1 (h1 _ (by simp))
  rw[l2]at h2;have h3:=c6 x.n2 (h1 _ (by simp))
  rw[l3]at h3;simp only[BI.all,aY,aL]at hn;rcases hn with rfl |rfl |rfl |rfl |(hn |hn) |hn
  .exact BT
  .exact h1 _ (by simp)
  .exact h1 _ (by simp)
  .exact h1 _ (by simp)
  .exact h1 _ (by simp[hn])
  .exact h2 n hn
  .exact h3 n hn
 have sO:∀n∈L,af (sub h L) (L.idxOf n)=(af h n).av (L.idxOf ·):=λn hn=>by
  have hlt:=gA hn;exact fP (by rw[lH hlt,tQ])
 refine⟨L,c1,c2,c3,c4,c5,c6,hall,b.av (λn hn=>sO n (hall n hn)) (λn hn=>by rw[iy];exact gA (hall n hn)) (λn hn k hk e=>?_),sO,λn hn=>?_⟩
 .have a1:=tQ (gA (hall n hn))
  have a2:=tQ (gA (hall k hk));simp only[e]at a1;exact a1.symm.trans a2
 .by_cases hl:n<L.length
  .have hg:L[n]?=some L[n]:=by simp[hl]
   rw[fP hg,O.mH];have hid:L.idxOf L[n]=n:=n7 c2 n hl;rw[lf L[n] λhm=>hn (by
    simp only[aY]at hm⊢;rcases hm with h |h |h |h
    .exact .inl (by rw[<-h,hid])
    .exact .inr (.inl (by rw[<-h,hid]))
    .exact .inr (.inr (.inl (by rw[<-h,hid])))
    .exact .inr (.inr (.inr (dz.2 ⟨_,h,hid⟩))))]
   rfl
  .rw[rm (by omega)]
   rfl
theorem rA:∀{L:List Nat}{os h:List O},(bz h L os).length=h.length
 | [],os,h=>by cases os<;>rfl
 |n::L,[],h=>rfl
 |n::L,o::os,h=>by simp only[bz];rw[rA];simp
theorem FD{k:Nat}:∀{L:List Nat}{os h:List O},k∉L->af (bz h L os) k=af h k
 | [],os,h,_=>by cases os<;>rfl
 |n::L,[],h,_=>rfl
 |n::L,o::os,h,hk=>by
  simp at hk;simp only[bz];rw[FD hk.2,eo hk.1]
theorem KF:∀{L:List Nat}{os h:List O}{j:Nat}(hj:j<L.length)(ho:j<os.length),L.Nodup->(∀n∈L,n<h.length)->af (bz h L os) L[j]=os[j]
 | [],_,_,_,hj,_,_,_=>by simp at hj
 |n::L,[],_,_,_,ho,_,_=>by simp at ho
 |n::L,o::os,h,0,_,_,hd,hl=>by
  rw[cy]at hd;simp only[bz,List.getElem_cons_zero];rw[FD hd.1,iu (hl n (by simp))]
 |n::L,o::os,h,j+1,hj,ho,hd,hl=>by
  rw[cy]at hd;simp only[bz,List.getElem_cons_succ];exact KF (by simpa using hj) (by simpa using ho) hd.2 λk hk=>by simpa using hl k (by simp[hk])
def oF(h:List O)(L:List Nat)(h1:List O):List O:=bz h L (h1.map (O.av (back L h.length)))++(h1.drop L.length).map (O.av (back L h.length))
theorem FE{h h1:List O}{L:List Nat}(hd:L.Nodup)(hl:∀n∈L,n<h.length){j:Nat}(hj:j<h1.length):af (oF h L h1) (back L h.length j)=(af h1 j).av (back L h.length)/\back L h.length j<(oF h L h1).length:=by
 have e1:af h1 j=h1[j]:=by simp[af,List.getD,hj]
 unfold oF;by_cases hL:j<L.length
 .have hb:back L h.length j=L[j]:=by simp[back,hL,List.getD]
  have hlt:=hl L[j] (m9 hL);rw[hb];refine⟨?_,by rw[eC,rA];omega⟩
  rw[ke (by rw[rA];exact hlt),KF hL (by simpa using hj) hd hl,e1]
  simp
 .have hb:back L h.length j=h.length+(j - L.length):=by simp[back,hL]
  rw[hb];refine⟨?_,by rw[eC,rA,qG,AU];omega⟩
  rw[e1];unfold af;rw[tR,n5 (by rw[rA];omega),rA]
  have:h.length+(j - L.length) - h.length=j - L.length:=by omega
  rw[this,jg,jI];have e2:L.length+(j - L.length)=j:=by omega
  rw[e2,lH hj];rfl
theorem KG{h h1:List O}{L:List Nat}{k:Nat}(hk:k<h.length)(hn:k∉L):af (oF h L h1) k=af h k:=by
 unfold oF;rw[ke (by rw[rA];exact hk),FD hn]
theorem Qf{L:List Nat}{m:Nat}(hd:L.Nodup)(hl:∀n∈L,n<m){a b:Nat}(h:back L m a=back L m b):a=b:=by
 unfold back at h;by_cases ha:a<L.length<;>by_cases hb:b<L.length
 .rw[aN ha,aN hb]at h
  simp only[tR,lH ha,lH hb,jY]at h;have h1:=n7 hd a ha;have h2:=n7 hd b hb;rw[h]at h1;omega
 .rw[aN ha,aF hb]at h
  simp only[tR,lH ha,jY]at h;have:=hl L[a] (m9 ha);omega
 .rw[aF ha,aN hb]at h
  simp only[tR,lH hb,jY]at h;have:=hl L[b] (m9 hb);omega
 .rw[aF ha,aF hb]at h
  omega
theorem BU{h:List O}{Pr:Nat->Prop}(hc:∀n,Pr n->∀k∈(af h n).ak,Pr k):∀(f:Nat)(t acc:List Nat),(∀n∈t,Pr n)->(∀n∈acc,Pr n)->∀n∈VS.reach h f t acc,Pr n
 | 0,t,acc,_,ha=>ha
 |f+1,[],acc,_,ha=>ha
 |f+1,n::t,acc,ht,ha=>by
  simp only[VS.reach];split
  .exact BU hc f t acc (λk hk=>ht k (by simp[hk])) ha
  .refine BU hc f _ _ (λk hk=>?_) λk hk=>?_
   .rcases aL.1 hk with hk |hk
    .exact ht k (by simp[hk])
    .exact hc n (ht n (by simp)) k hk
   .rcases aL.1 hk with hk |hk
    .exact ha k hk
    .simp at hk;subst hk;exact ht _ (by simp)
theorem Qg{h:List O}{Pr:Nat->Prop}(hc:∀n,Pr n->∀k∈(af h n).ak,Pr k){roots L:List Nat}(hr:∀n∈roots,Pr n)(hL:VS.cut h 0 roots=some L):∀n∈L,Pr n:=by
 unfold VS.cut at hL;simp only[List.range_zero,jW]at hL;have hL:=(x9.1 hL).2;simp only[bF]at hL;subst hL;intro n hn;exact BU hc 1000 roots [] hr (by simp) n (lA.1 hn).1
theorem yW{rec:Rec}{f:Nat}{h:List O}{i:Nat}{x:BI}{B B':BB}{as:List D}{r:V}(hr:∀f,r.av f=r)(b:aE h i x B)(lf:Lf h [i,x.n1,x.n2])(hsz:B.due.length<=300/\B.got.length<=300)
  (hc:∀h0 i0 x0,aE h0 i0 x0 B->Lf h0 [i0,x0.n1,x0.n2]->h0.length=(x0.all i0).length->∃h1 x1,rec (.call f (.loc i0 0 0::as.map V.d) h0)=some (.val r h1)/\aE h1 i0 x1 B'/\Lf h1 [i0,x1.n1,x1.n2]/\h0.length<=h1.length):
  ∃h' x',aW rec h f (.loc i 0 0::as.map V.d)=some (r,h')/\aE h' i x' B'/\Lf h' [i,x'.n1,x'.n2]/\h.length<=h'.length/\∀k,k<h.length->k∉x.all i->af h' k=af h k:=by
 have yX:V.bW (.loc i 0 0::as.map V.d)=[i]:=by
  have:∀l:List D,V.bW (l.map V.d)=[]:=λl=>by
   induction l with
   |nil=>rfl
   |cons a l ih=>simp[V.bW,V.ak,ih]
  simp[V.bW,V.ak,this]
 have wL:=b.lt i (by simp[BI.all])
 obtain⟨L,c1,c2,_,c4,c5,c6,c7,c8,c9,kX⟩:=b.cut (ex:=[]) lf (by simp) (by simp) hsz (m:=0) (by omega) (roots:=[i]) (by simpa using wL) (.inl (by simp)) (by simp)
 have BV:∀n∈L,n∈x.all i:=Qg (λn hn k hk=>by
  obtain⟨l1,l2,l3⟩:=b.ak;by_cases e1:n=i
  .subst e1
   rw[l1]at hk;simp only[BI.all,aY,aL]at hk⊢;rcases hk with h |h |h |h<;>simp[h]
  .by_cases e2:n=x.n1
   .subst e2;rw[l2]at hk;simp[BI.all,hk]
   .by_cases e3:n=x.n2
    .subst e3;rw[l3]at hk;simp[BI.all,hk]
    .rw[lf n (by simp[e1,e2,e3])]at hk
     simp at hk) (by simp[BI.all]) c1
 have hlen:L.length=(x.all i).length:=by
  have h1:=c2.length_le_of_subset BV;have h2:=b.nd.length_le_of_subset c7;omega
 obtain⟨h1,x1,r1,r2,r3,r4⟩:=hc (sub h L) (L.idxOf i) (x.av (L.idxOf ·)) c8 (by simpa[BI.av]using kX) (by rw[iy,BI.FA,qG];exact hlen)
 rw[iy]at r4;have BT:=c4 i (by simp)
 have yY:back L h.length (L.idxOf i)=i:=by
  have hlt:=gA BT;simp[back,hlt,List.getD]
 have FF:V.cu (L.idxOf ·) (.loc i 0 0::as.map V.d) = .loc (L.idxOf i) 0 0::as.map V.d:=by
  have:∀l:List D,V.cu (L.idxOf ·) (l.map V.d)=l.map V.d:=λl=>by
   induction l with
   |nil=>rfl
   |cons a l ih=>simp[V.cu,V.av,ih]
  simp[V.cu,V.av,this]
 refine⟨oF h L h1,x1.av (back L h.length),?_,?_,λn hn=>?_,?_,λk hk hkn=>KG hk λBW=>hkn (BV k BW)⟩
 .unfold aW
  rw[yX,c1];simp only;rw[FF,r1];simp only;rw[aN r4,hr];rfl
 .have:=r2.av (h2:=oF h L h1) (f:=back L h.length) (λn hn=>(FE c2 c5 (r2.lt n hn)).1) (λn hn=>(FE c2 c5 (r2.lt n hn)).2) (λn _ k _ e=>Qf c2 c5 e)
  rwa [yY]at this
 .have key:∀j,n=back L h.length j->(af (oF h L h1) n).ak=[]:=λj hj=>by
   by_cases hjl:j<h1.length
   .rw[hj,(FE c2 c5 hjl).1,O.mH,r3 j λhm=>hn (by
     rw[hj];simp only[aY,rY,tT]at hm⊢;rcases hm with h |h |h
     .exact .inl (by rw[h,yY])
     .exact .inr (.inl (by rw[h];rfl))
     .exact .inr (.inr (by rw[h];rfl)))]
    rfl
   .have hout:(oF h L h1).length<=n:=by
     unfold oF;rw[eC,rA,qG,AU,hj];unfold back;rw[aF (by omega)]
     omega
    simp only[af,tR,dL hout,Em];rfl
  by_cases yZ:n∈L
  .refine key (L.idxOf n) ?_
   have hlt:=gA yZ;simp[back,hlt,List.getD]
  .by_cases gF:n<h.length
   .rw[KG gF yZ]
    refine lf n λhm=>yZ (c7 n ?_)
    simp only[aY,rY,tT]at hm;rcases hm with h |h |h<;>simp[BI.all,h]
   .refine key (L.length+(n - h.length)) ?_
    unfold back;rw[aF (by omega)]
    omega
 .unfold oF
  rw[eC,rA];omega
theorem wM{L:List Nat}{m:Nat}(hd:L.Nodup)(hp:∀k,k<m->L[k]?=some k){k:Nat}(hk:k<m):L.idxOf k=k:=by
 obtain⟨hl,he⟩:=dW.1 (hp k hk);have:=n7 hd k hl
 rwa [he]at this
theorem y4{L:List Nat}{m:Nat}(hp:∀k,k<m->L[k]?=some k):m<=L.length:=by
 rcases eH L.length m with h |h
 .have:=hp L.length h
  simp at this
 .exact h
def p7:V->Nat
 | .aJ _ _ len=>len
 |_=>0
def sP(h0:List O)(v:Int)(p:D×V):O :=
 match p.2 with
 | .aJ n off _=>match af h0 n with
  | .an _ ex rows=>.an 1 ex (rows.drop off++[[iK v]])
  |_=>.dead
 |_=>.an 1 true [[iK v]]
def eM(seen al:List Nat)(kd:List (D×V))(bd:List Nat):List (D×V):=
 kd.mapIdx λj p=>if bd.getD j 0∈seen then(p.1,.aJ (al.getD j 0) 0 (p7 p.2+1))else p
def dead(seen:List Nat)(kd:List (D×V))(bd:List Nat)(k:Nat):Prop:=∃j p,kd[j]?=some p/\bd.getD j 0∈seen/\k∈p.2.ak
structure gP(h0:List O)(x:BI)(v:Int)(seen:List Nat)(q:Nat)(al:List Nat)(H:List O):Prop where
 uO:h0.length<=H.length
 BX:h0.length<=q
 y5:q<H.length
 it:af H q = .it x.n1 x.cd seen
 mp:af H x.n1 = .mp (eM seen al x.kd x.bd) x.cd x.bd
 old:∀k,k<h0.length->k≠x.n1->¬dead seen x.kd x.bd k->af H k=af h0 k
 gone:∀k,dead seen x.kd x.bd k->af H k = .dead
 all:al.length=x.kd.length
 new:∀j p,x.kd[j]?=some p->x.bd.getD j 0∈seen->h0.length<=al.getD j 0/\al.getD j 0<H.length/\al.getD j 0≠q/\af H (al.getD j 0)=sP h0 v p
 inj:∀j k,j<x.kd.length->k<x.kd.length->x.bd.getD j 0∈seen->x.bd.getD k 0∈seen->al.getD j 0=al.getD k 0->j=k
section
variable {h0:List O}{i:Nat}{x:BI}{B:BB}{v:Int}{seen:List Nat}{q:Nat}{al:List Nat}{H:List O}
theorem lX{j:Nat}{p:D×V}(hj:x.kd[j]?=some p):(eM seen al x.kd x.bd)[j]?=some (if x.bd.getD j 0∈seen then(p.1,.aJ (al.getD j 0) 0 (p7 p.2+1))else p):=by
 unfold eM;rw[I9,hj];rfl
theorem kf:(eM seen al x.kd x.bd).length=x.kd.length:=by simp[eM]
theorem KH{p':D×V}(h:p'∈eM seen al x.kd x.bd):∃j p,x.kd[j]?=some p/\p'=if x.bd.getD j 0∈seen then(p.1,.aJ (al.getD j 0) 0 (p7 p.2+1))else p:=by
 obtain⟨j,hj,he⟩:=jf h;rw[kf]at hj;refine⟨j,x.kd[j],by simp[hj],?_⟩
 have:=lX (seen:=seen) (al:=al) (x:=x) (j:=j) (p:=x.kd[j]) (by simp[hj])
 rw[lH (by rw[kf];exact hj),he]at this
 simpa using this
theorem KI{k:Nat}(h:k∈own (eM seen al x.kd x.bd)):(∃j p,x.kd[j]?=some p/\x.bd.getD j 0∈seen/\k=al.getD j 0)\/(k∈own x.kd/\∃j p,x.kd[j]?=some p/\x.bd.getD j 0∉seen/\k∈p.2.ak):=by
 obtain⟨p',hp,hk⟩:=dG.1 h;obtain⟨j,p,hj,rfl⟩:=KH hp;by_cases hs:x.bd.getD j 0∈seen
 .rw[aN hs]at hk
  simp[V.ak]at hk;exact .inl ⟨j,p,hj,hs,by simpa using hk⟩
 .rw[aF hs]at hk
  exact .inr ⟨dG.2 ⟨p,dV hj,hk⟩,j,p,hj,hs,hk⟩
theorem Qh{j:Nat}{p:D×V}(hj:x.kd[j]?=some p)(hs:x.bd.getD j 0∈seen):al.getD j 0∈own (eM seen al x.kd x.bd):=by
 refine dG.2 ⟨_,dV (lX hj),?_⟩;rw[aN hs];simp[V.ak]
theorem V.nL:∀{f:Nat->Nat}(v:V),(∀n∈v.ak,f n=n)->v.av f=v:=by
 intro f v h;have e:∀v:V,v.av (λn=>n)=v:=by
  intro v;have hv:∀(vs:List V),(∀w∈vs,w.av (λn=>n)=w)->V.cu (λn=>n) vs=vs:=by
   intro vs;induction vs with
   |nil=>intro _;rfl
   |cons a r ih=>intro h;simp only[V.cu];rw[h a (by simp),ih λw hw=>h w (by simp[hw])]
  exact V.rec (motive_1:=λv=>v.av (λn=>n)=v) (motive_2:=λvs=>V.cu (λn=>n) vs=vs)
   rfl rfl (λ_=>rfl) (λ_ _ _=>rfl) (λ_ _ _=>rfl) (λ_ _ _=>rfl) (λ_=>rfl) (λ_=>rfl)
   (λ_ _ _ h1 h2=>by simp only[V.av];rw[h1,h2]) (λ_ h1=>by simp only[V.av];rw[h1]) (λ_ h1=>by simp only[V.av];rw[h1]) (λ_=>rfl) (λ_ h1=>by simp only[V.av];rw[h1])
   rfl (λ_ _ h1 h2=>by simp only[V.cu];rw[h1,h2]) v
 rw[V.vV v h];exact e v
theorem O.nL{f:Nat->Nat}{o:O}(h:∀n∈o.ak,f n=n):o.av f=o:=by
 cases o with
 |cS es rows =>
  simp only[O.av,O.cS.injEq,qB];refine(mj λr hr=>?_).trans (AE _)
  have:∀(vs:List V),(∀n∈V.bW vs,f n=n)->V.cu f vs=vs:=by
   intro vs;induction vs with
   |nil=>intro _;rfl
   |cons a r ih=>intro h;simp only[V.cu];rw[V.nL a λn hn=>h n (by simp[V.bW,hn]),ih λn hn=>h n (by simp[V.bW,hn])]
  exact this r λn hn=>h n (by simp only[O.ak,dG];exact⟨r,hr,hn⟩)
 |mp kv ck bs =>
  simp only[O.av,O.mp.injEq,jd];refine(mj λp hp=>?_).trans (AE _)
  rw[V.nL p.2 λn hn=>h n (by simp only[O.ak,dG];exact⟨p,hp,hn⟩)]
  rfl
 |lp ps a b e env =>
  simp only[O.av,O.lp.injEq,qB];unfold eE;refine(mj λp hp=>?_).trans (AE _)
  have hin:∀(e:List (Nat×V)),p∈e->∀n∈p.2.ak,n∈bC e:=by
   intro e;induction e with
   |nil=>intro h;simp at h
   |cons a r ih =>
    intro h n hn;simp only[bC,aL];rcases aY.1 h with rfl |h
    .exact .inl hn
    .exact .inr (ih h n hn)
  rw[V.nL p.2 λn hn=>h n (hin env hp n hn)]
  rfl
 |it m c l=>simp[O.av,h m (by simp[O.ak])]
 |_=>rfl
theorem BY{p:D×V}:(sP h0 v p).ak=[]:=by
 unfold sP;split
 .split<;>rfl
 .rfl
theorem y6(b:aE h0 i x B)(lf:Lf h0 [i,x.n1,x.n2]){k:Nat}(hk:k≠x.n1):∀n∈(af h0 k).ak,n<h0.length:=by
 obtain⟨l1,_,l3⟩:=b.ak;intro n hn;by_cases e1:k=i
 .subst e1
  rw[l1]at hn;exact b.lt n (by simp only[BI.all,aY,aL]at hn⊢;rcases hn with h |h |h |h<;>simp[h])
 .by_cases e3:k=x.n2
  .subst e3
   rw[l3]at hn;exact b.lt n (by simp[BI.all,hn])
  .rw[lf k (by simp[e1,hk,e3])]at hn
   simp at hn
theorem KJ{k:Nat}(h:dead seen x.kd x.bd k):k∈own x.kd:=by
 obtain⟨j,p,hj,_,hk⟩:=h;exact dG.2 ⟨p,dV hj,hk⟩
theorem gP.final(b:aE h0 i x B)(lf:Lf h0 [i,x.n1,x.n2]){s1 s2:List Nat}{q1 q2:Nat}{rB BZ:List Nat}{H1 H2:List O}(p1:gP h0 x v s1 q1 rB H1)(p2:gP h0 x v s2 q2 BZ H2)
  (f1:∀j,j<x.kd.length->x.bd.getD j 0∈s1)(f2:∀j,j<x.kd.length->x.bd.getD j 0∈s2){live:List Nat}{e1 e2:List (Nat×V)}(he:cO live e2=cO live e1)(hl:∀n∈bC (cO live e1),n<h0.length):
  canon h0.length live e2 H2=canon h0.length live e1 H1:=by
 obtain⟨π,KK⟩:∃π:Nat->Nat,π=λk=>if k<h0.length then k else BZ.getD (rB.idxOf k) 0:=⟨_,rfl⟩
 have kj:∀k,k<h0.length->π k=k:=λk hk=>by rw[KK];simp[hk]
 have Qi:rB.Nodup:=by
  rw[Ja,AS];intro a c ha hc hac e;rw[p1.all]at ha hc;have:=p1.inj a c ha hc (f1 a ha) (f1 c hc) (by simp[List.getD,p1.all,ha,hc,e])
  omega
 have mO:∀j,j<x.kd.length->π (rB.getD j 0)=BZ.getD j 0:=λj hj=>by
  have h1:=(p1.new j x.kd[j] (by simp[hj]) (f1 j hj)).1
  have uP:j<rB.length:=by rw[p1.all];exact hj
  have hid:=n7 Qi j uP;have e:rB.getD j 0=rB[j]:=by simp[List.getD,uP]
  rw[KK];simp only;rw[aF (by omega),e,hid]
 let dom:Nat->Prop:=λk=>k<h0.length\/∃j,j<x.kd.length/\k=rB.getD j 0
 have I:kM dom π H1 H2:=by
  refine⟨λa c ha hc e=>?_,λn hn k hk=>?_,λn hn=>?_,λn hn=>?_⟩
  .rcases ha with ha |⟨j,hj,rfl⟩<;>rcases hc with hc |⟨k,hk,rfl⟩
   .rw[kj a ha,kj c hc]at e;exact e
   .rw[kj a ha,mO k hk]at e
    have:=(p2.new k x.kd[k] (by simp[hk]) (f2 k hk)).1
    omega
   .rw[kj c hc,mO j hj]at e
    have:=(p2.new j x.kd[j] (by simp[hj]) (f2 j hj)).1
    omega
   .rw[mO j hj,mO k hk]at e
    rw[p2.inj j k hj hk (f2 j hj) (f2 k hk) e]
  .rcases hn with hn |⟨j,hj,rfl⟩
   .by_cases e1:n=x.n1
    .subst e1
     rw[p1.mp]at hk;rcases KI hk with⟨j,p,hj,_,rfl⟩ |⟨_,j,p,hj,FG,_⟩
     .exact .inr ⟨j,(dW.1 hj).1,rfl⟩
     .exact absurd (f1 j (dW.1 hj).1) FG
    .by_cases hd:dead s1 x.kd x.bd n
     .rw[p1.gone n hd]at hk;simp[O.ak]at hk
     .rw[p1.old n hn e1 hd]at hk
      exact .inl (y6 b lf e1 k hk)
   .rw[(p1.new j x.kd[j] (by simp[hj]) (f1 j hj)).2.2.2,BY]at hk
    simp at hk
  .rcases hn with hn |⟨j,hj,rfl⟩
   .rw[kj n hn]
    by_cases e1:n=x.n1
    .subst e1
     rw[p1.mp,p2.mp];simp only[O.av,O.mp.injEq,jd];refine qE λj=>?_
     rw[jg];by_cases hj:j<x.kd.length
     .have hj':x.kd[j]?=some x.kd[j]:=by simp[hj]
      rw[lX hj',lX hj',aN (f1 j hj),aN (f2 j hj)];simp only[fy,V.av];rw[mO j hj]
     .rw[dL (by rw[kf];omega),dL (by rw[kf];omega)]
      rfl
    .by_cases hd:dead s1 x.kd x.bd n
     .have hd2:dead s2 x.kd x.bd n:=by
       obtain⟨j,p,hj,_,hk⟩:=hd;exact⟨j,p,hj,f2 j (dW.1 hj).1,hk⟩
      rw[p1.gone n hd,p2.gone n hd2];rfl
     .have hd2:¬dead s2 x.kd x.bd n:=fun⟨j,p,hj,_,hk⟩=>hd ⟨j,p,hj,f1 j (dW.1 hj).1,hk⟩
      rw[p1.old n hn e1 hd,p2.old n hn e1 hd2];exact(O.nL λk hk=>kj k (y6 b lf e1 k hk)).symm
   .rw[mO j hj,(p1.new j x.kd[j] (by simp[hj]) (f1 j hj)).2.2.2,(p2.new j x.kd[j] (by simp[hj]) (f2 j hj)).2.2.2]
    exact(O.nL λk hk=>by rw[BY]at hk;simp at hk).symm
  .rcases hn with hn |⟨j,hj,rfl⟩
   .rw[kj n hn]
    have:=p1.uO;have:=p2.uO;exact⟨λ_=>by omega,λ_=>by omega⟩
   .rw[mO j hj]
    exact⟨λ_=>(p1.new j x.kd[j] (by simp[hj]) (f1 j hj)).2.1,λ_=>(p2.new j x.kd[j] (by simp[hj]) (f2 j hj)).2.1⟩
 have hne:∀{H:List O} {s q al},gP h0 x v s q al H->H≠[]:=λhp e=>by
  have:=hp.y5;rw[e]at this;simp at this
 refine I.canon (λk hk=>⟨.inl hk,kj k hk⟩) ?_ (λn hn=>.inl (hl n hn)) (hne p1) (hne p2)
 rw[he]
 have:∀e:List (Nat×V),(∀n∈bC e,n<h0.length)->eE π e=e:=by
  intro e;induction e with
  |nil=>intro _;rfl
  |cons p e ih =>
   intro h;have ih:=ih λn hn=>h n (by simp[bC,hn])
   simp only[eE,cR]at ih⊢;rw[ih,V.nL p.2 λn hn=>kj n (h n (by simp[bC,hn]))]
 exact(this _ hl).symm
theorem getD_map{al:List Nat}{f:Nat->Nat}{j:Nat}(hj:j<al.length):(al.map f).getD j 0=f (al.getD j 0):=by simp[List.getD,hj]
theorem rC{k:Nat}(b:aE h0 i x B)(hk:k=i\/k=x.n1\/k=x.n2\/k=x.n3\/k∈x.wv.ak\/k∈own x.kg):¬dead seen x.kd x.bd k:=λh=>by
 have hd:=KJ h;have hnd:=b.nd;unfold BI.all at hnd;simp only[cy,aY,aL,dc,fA]at hnd;obtain⟨⟨a1,a2,a3,a4,a5⟩,⟨b1,b2,b3⟩,⟨c1,c2⟩,d1,⟨e1,e2,e3⟩,f1,f2⟩:=hnd;rcases hk with rfl |rfl |rfl |rfl |hk |hk
 .exact a4.2 hd
 .exact b3.1.2 hd
 .exact c2.1.2 hd
 .exact d1.1.2 hd
 .exact e3 k hk k hd rfl
 .exact f2 k (.inr hd) k hk rfl
theorem KL{h:List O}{w:V}{l:List Int}(hs:cF h w l):w.ak.length<=1:=by
 rcases hs with⟨e,_⟩ |⟨n,off,ex,rows,e,_⟩<;>rw[e]<;>simp[V.ak]
theorem y7{α:Type}{R:V->α->Prop}:∀{kv:List (D×V)}{l:List (Int×α)},cE R kv l->∀{j:Nat}{p:D×V},kv[j]?=some p->∃q,l[j]?=some q/\p.1=iK q.1/\R p.2 q.2
 | [],[],_,j,p,h=>by simp at h
 |p0::kv,q0::l,hr,0,p,h=>by simp at h;subst h;exact⟨q0,rfl,hr.1,hr.2.1⟩
 |p0::kv,q0::l,hr,j+1,p,h=>by
  obtain⟨q,h1,h2⟩:=y7 hr.2.2 (j:=j) (by simpa using h)
  exact⟨q,by simpa using h1,h2⟩
 | [],_::_,hr,_,_,_=>hr.elim
 |_::_,[],hr,_,_,_=>hr.elim
theorem Qj(b:aE h0 i x B):(own (eM seen al x.kd x.bd)).length<=x.kd.length:=by
 have:∀l:List (D×V),(∀p∈l,p.2.ak.length<=1)->(own l).length<=l.length:=by
  intro l;induction l with
  |nil=>intro _;simp[own]
  |cons a r ih =>
   intro h;rw[lW];have h1:=h a (by simp)
   have h2:=ih λp hp=>h p (by simp[hp])
   simp;omega
 have h2:=this (eM seen al x.kd x.bd) λp' hp=>by
  obtain⟨j,p,hj,rfl⟩:=KH hp;split
  .simp[V.ak]
  .obtain⟨q,_,_,hq⟩:=y7 b.rd hj
   exact KL hq
 rwa [kf]at h2
theorem gP.cut(b:aE h0 i x B)(lf:Lf h0 [i,x.n1,x.n2])(hP:gP h0 x v seen q al H)(hlf:Lf H [i,x.n1,x.n2,q])(hsz:B.due.length<=300/\B.got.length<=300)(hm:h0.length<=250){roots:List Nat}(hr:∀n∈roots,n<H.length)(hq:q∈roots)(hrl:roots.length<=10):
  ∃L,VS.cut H h0.length roots=some L/\(∀k,k<h0.length->L.idxOf k=k)/\gP h0 x v seen (L.idxOf q) (al.map (L.idxOf ·)) (sub H L)/\Lf (sub H L) [i,x.n1,x.n2,L.idxOf q]:=by
 obtain⟨l1,l2,l3⟩:=b.ak;have jP:i<h0.length:=b.lt i (by simp[BI.all])
 have hn1:x.n1<h0.length:=b.lt x.n1 (by simp[BI.all])
 have hn2:x.n2<h0.length:=b.lt x.n2 (by simp[BI.all])
 have hnd:=b.nd;have hne:i≠x.n1/\x.n2≠x.n1:=by
  unfold BI.all at hnd;simp only[cy,aY,dc]at hnd;exact⟨hnd.1.1,λe=>hnd.2.1.1 e.symm⟩
 have gi:=hP.old i jP hne.1 (rC b (.inl rfl));have g2:=hP.old x.n2 hn2 hne.2 (rC b (.inr (.inr (.inl rfl))));have k1:(af H x.n1).ak=own (eM seen al x.kd x.bd):=by rw[hP.mp];rfl
 have kq:(af H q).ak=[x.n1]:=by rw[hP.it];rfl
 have hml:=hP.uO;have hown:∀k∈own (eM seen al x.kd x.bd),k<H.length:=λk hk=>by
  rcases KI hk with⟨j,p,hj,hs,rfl⟩ |⟨hk,_⟩
  .exact(hP.new j p hj hs).2.1
  .have:=b.lt k (by simp[BI.all,hk])
   omega
 have hw:∀n,n<H.length->∀k∈(af H n).ak,k<H.length:=λn _ k hk=>by
  by_cases e1:n=x.n1
  .subst e1;rw[k1]at hk;exact hown k hk
  .by_cases e2:n=q
   .subst e2;rw[kq]at hk;simp at hk;omega
   .by_cases e3:n=i
    .subst e3;rw[gi]at hk;have:=y6 b lf hne.1 k hk;omega
    .by_cases e4:n=x.n2
     .subst e4;rw[g2]at hk;have:=y6 b lf hne.2 k hk;omega
     .rw[hlf n (by simp[e1,e2,e3,e4])]at hk;simp at hk
 have FC:=BS (AG (n:=H.length)) (S:=[i,x.n1,x.n2,q]) (λn _ hn=>hlf n hn)
 simp only[cR,jF,El,List.sum_nil,gi,g2,k1,kq,l1,l3,fT,lE]at FC;have o1:=Qj (seen:=seen) (al:=al) b;have o2:=b.rg.wK;have o3:=b.rd.len;have o4:=KL b.sw;obtain⟨L,c1,c2,c3,c4,c5,c6⟩:=JF (m:=h0.length) (roots:=roots) hw hml hr (by omega)
 have eU:∀k,k<h0.length->L.idxOf k=k:=λk hk=>wM c2 c3 hk
 have B0:∀k,k<h0.length->k∈L:=λk hk=>dV (c3 k hk)
 have wN:=c4 q hq;have sO:∀n∈L,af (sub H L) (L.idxOf n)=(af H n).av (L.idxOf ·):=λn hn=>by
  have hlt:=gA hn;exact fP (by rw[lH hlt,tQ])
 have hge:∀n∈L,h0.length<=n->h0.length<=L.idxOf n:=λn hn hge=>by
  rcases eH (L.idxOf n) h0.length with h |h
  .have a1:=c3 _ h
   have a2:=tQ (gA hn);rw[lH (gA hn),a2]at a1;simp at a1;omega
  .exact h
 have hin:∀a∈L,∀c∈L,L.idxOf a=L.idxOf c->a=c:=λa ha c hc e=>by
  have a1:=tQ (gA ha);have a2:=tQ (gA hc);simp only[e]at a1;exact a1.symm.trans a2
 have hnew:∀j p,x.kd[j]?=some p->x.bd.getD j 0∈seen->al.getD j 0∈L:=λj p hj hs=>c6 x.n1 (B0 _ hn1) _ (by rw[k1];exact Qh hj hs)
 have hjl:∀j p,x.kd[j]?=some p->j<al.length:=λj p hj=>by rw[hP.all];exact(dW.1 hj).1
 refine⟨L,c1,eU,⟨?_,hge q wN hP.BX,?_,?_,?_,λk hk hkn hd=>?_,λk hd=>?_,by simpa using hP.all,λj p hj hs=>?_,λj k hj hk hs kY e=>?_⟩,λn hn=>?_⟩
 .rw[iy];exact y4 c3
 .rw[iy];exact gA wN
 .rw[sO q wN,hP.it]
  simp only[O.av];rw[eU _ hn1]
 .have h1:=sO x.n1 (B0 _ hn1)
  rw[eU _ hn1,hP.mp]at h1;rw[h1];simp only[O.av,O.mp.injEq,jd];refine qE λj=>?_
  rw[jg];by_cases hj:j<x.kd.length
  .have hj':x.kd[j]?=some x.kd[j]:=by simp[hj]
   rw[lX hj',lX hj'];simp only[fy,bF];by_cases hs:x.bd.getD j 0∈seen
   .rw[aN hs,aN hs]
    simp only[V.av];rw[getD_map (hjl j _ hj')]
   .rw[aF hs,aF hs,V.nL _ λn hn=>eU n (b.lt n (by
     have:n∈own x.kd:=dG.2 ⟨_,dV hj',hn⟩
     simp[BI.all,this]))]
  .rw[dL (by rw[kf];omega),dL (by rw[kf];omega)]
   rfl
 .have h1:=sO k (B0 k hk)
  rw[eU k hk,hP.old k hk hkn hd]at h1;rw[h1];exact O.nL λn hn=>eU n (y6 b lf hkn n hn)
 .have hk:=b.lt k (by have:=KJ hd;simp[BI.all,this])
  have h1:=sO k (B0 k hk);rw[eU k hk,hP.gone k hd]at h1;exact h1
 .obtain⟨n1,n2,n3,n4⟩:=hP.new j p hj hs
  have hm:=hnew j p hj hs;rw[getD_map (hjl j p hj)];refine⟨hge _ hm n1,by rw[iy];exact gA hm,λe=>n3 (hin _ hm _ wN e),?_⟩
  rw[sO _ hm,n4];exact O.nL λn hn=>by rw[BY]at hn;simp at hn
 .have hj':x.kd[j]?=some x.kd[j]:=by simp[hj]
  have hk':x.kd[k]?=some x.kd[k]:=by simp[hk]
  rw[getD_map (hjl j _ hj'),getD_map (hjl k _ hk')]at e;exact hP.inj j k hj hk hs kY (hin _ (hnew j _ hj' hs) _ (hnew k _ hk' kY) e)
 .by_cases hl:n<L.length
  .have hg:L[n]?=some L[n]:=by simp[hl]
   rw[fP hg,O.mH];have hid:L.idxOf L[n]=n:=n7 c2 n hl;rw[hlf L[n] λhm=>hn (by
    simp only[aY,rY,tT]at hm⊢;rcases hm with h |h |h |h
    .exact .inl (by rw[<-hid,h,eU i jP])
    .exact .inr (.inl (by rw[<-hid,h,eU _ hn1]))
    .exact .inr (.inr (.inl (by rw[<-hid,h,eU _ hn2])))
    .exact .inr (.inr (.inr (by rw[<-hid,h]))))]
   rfl
  .rw[rm (by omega)]
   rfl
theorem FH{l:List Nat}{j:Nat}(h:j<l.length):l[j]?=some (l.getD j 0):=by simp[List.getD,h]
theorem B3{l:List Nat}{j n:Nat}(h:j<l.length):(l.set j n).getD j 0=n:=by simp[List.getD,h]
theorem wO{l:List Nat}{j k n:Nat}(h:j≠k):(l.set j n).getD k 0=l.getD k 0:=by simp[List.getD,vG,h]
theorem gP.step(b:aE h0 i x B)(lf:Lf h0 [i,x.n1,x.n2])(hP:gP h0 x v seen q al H)(hlf:Lf H [i,x.n1,x.n2,q])(hkeys:(B.due.map (·.1)).Nodup)(hsz:∀e∈B.due,e.2.length<=1000000){j:Nat}{p:D×V}(hj:x.kd[j]?=some p)(hs:x.bd.getD j 0∉seen):
  ∃(t:Int)(H1 H2 H3:List O)(w:V),H1=H.set q (.it x.n1 x.cd (seen++[x.bd.getD j 0]))/\uf H1 (.loc q 0 0)=some (.tu [.d (iK t),p.2]) /\
   eS [.i] H1 (.mp x.n1) (.d (iK t)) (.sl 1 true []) false=some p.2/\fW H1 1 p.2 (.d (.sl 1 false [[iK v]]))=some (w,H2) /\
   af H2 i=af h0 i/\kJ [.i] H2 (.mp x.n1) (.d (iK t)) w=some H3/\gP h0 x v (seen++[x.bd.getD j 0]) q (al.set j H.length) H3/\Lf H3 [i,x.n1,x.n2,q]/\(af H1 i=af h0 i/\i<H1.length):=by
 obtain⟨e,he,hpk,yD⟩:=y7 b.rd hj;have hjl:=(dW.1 hj).1;have sQ:j<x.bd.length:=by rw[b.sd.len];exact hjl
 have yN:=FH sQ;have wP:j<al.length:=by rw[hP.all];exact hjl
 have hn1:x.n1<h0.length:=b.lt x.n1 (by simp[BI.all])
 have jP:i<h0.length:=b.lt i (by simp[BI.all])
 have hml:=hP.uO;have KM:=hP.BX;have FI:=hP.y5;have hnd:=b.nd;have KN:i≠x.n1:=by
  unfold BI.all at hnd;simp only[cy,aY,dc]at hnd;exact hnd.1.1
 have hown:(own x.kd).Nodup/\x.n1∉own x.kd:=by
  unfold BI.all at hnd;simp only[cy,aY,aL,dc,fA]at hnd;exact⟨hnd.2.2.2.2.1.2.1,hnd.2.1.2.2.1.2⟩
 have Qk:i∉own x.kd:=λh=>by
  unfold BI.all at hnd;simp only[cy,aY,aL,dc,h]at hnd;simp at hnd
 obtain⟨bj,rD⟩:∃bj,bj=x.bd.getD j 0:=⟨_,rfl⟩;rw[<-rD]at hs yN⊢;have y8:∀k,x.bd.getD k 0=bj->k<x.kd.length->k=j:=λk hk gG=>by
  have h1:=FH (l:=x.bd) (j:=k) (by rw[b.sd.len];exact gG)
  rw[hk]at h1;obtain⟨a1,a2⟩:=dW.1 h1;obtain⟨c1,c2⟩:=dW.1 yN;have d1:=n7 b.sd.nd k a1;have d2:=n7 b.sd.nd j c1;rw[a2]at d1;rw[c2]at d2;omega
 have hk':(eM seen al x.kd x.bd)[j]?=some p:=by rw[lX hj,aF (by rw[<-rD];exact hs)]
 have wQ:∀k∈p.2.ak,k∈own x.kd/\k<h0.length/\¬dead seen x.kd x.bd k/\k≠x.n1/\k≠q:=λk hk=>by
  have h1:k∈own x.kd:=dG.2 ⟨p,dV hj,hk⟩;have h2:=b.lt k (by simp[BI.all,h1])
  refine⟨h1,h2,fun⟨j2,p2,hj2,kY,hk2⟩=>?_,λe=>hown.2 (e▸h1),by omega⟩
  by_cases e:j2=j
  .subst e;rw[<-rD]at kY;exact hs kY
  .exact Kp hown.1 e hj2 hj hk2 hk
 obtain⟨H1,iJ⟩:∃H1,H1=H.set q (.it x.n1 x.cd (seen++[bj])):=⟨_,rfl⟩;have gV:H1.length=H.length:=by rw[iJ];simp
 have g1:∀k,k≠q->af H1 k=af H k:=λk hk=>by rw[iJ,eo hk]
 have gq:af H1 q = .it x.n1 x.cd (seen++[bj]):=by rw[iJ,iu FI]
 have gm:af H1 x.n1 = .mp (eM seen al x.kd x.bd) x.cd x.bd:=by rw[g1 _ (by omega),hP.mp]
 have nJ:x.bd.findIdx? (·==bj)=some j:=by
  obtain⟨c1,c2⟩:=dW.1 yN;rw[tP];refine⟨c1,by simp[c2],λk hk=>?_⟩
  have gG:k<x.bd.length:=by omega
  have:=y8 k;simp only[bN];intro e;have h2:=this (by simp[List.getD,gG,e]) (by rw[<-b.sd.len];exact gG)
  omega
 have hkey:∀(k:Nat)(q':D×V),(eM seen al x.kd x.bd)[k]?=some q'->∃u:Int×List Int,B.due[k]?=some u/\q'.1=iK u.1:=λk q' hk=>by
  have gG:k<x.kd.length:=by
   have:=(dW.1 hk).1
   rwa [kf]at this
  have hk2:x.kd[k]?=some x.kd[k]:=by simp[gG]
  obtain⟨u,h1,h2,_⟩:=y7 b.rd hk2;refine⟨u,h1,?_⟩;rw[lX hk2]at hk;simp only[bF]at hk;subst hk;split<;>exact h2
 have hok:nu [.i] (iK e.1) (eM seen al x.kd x.bd)=true:=by
  unfold nu;rw[aA,jG];refine⟨by simp[gD,mG,fV,nk],λq' mK=>?_⟩
  obtain⟨k,hk,FJ⟩:=jf mK;obtain⟨u,_,hu⟩:=hkey k q' (by simp[hk,FJ])
  rw[hu];simp[gD,mG,fV,nk]
 have hidx:(eM seen al x.kd x.bd).findIdx? (dD [.i] (iK e.1))=some j:=by
  rw[tP];obtain⟨c1,c2⟩:=dW.1 hk';refine⟨c1,?_,λk hk=>?_⟩
  .rw[c2,Ff hpk];simp
  .have gG:k<(eM seen al x.kd x.bd).length:=by omega
   obtain⟨u,h1,h2⟩:=hkey k _ (lH gG);rw[Ff h2];simp only[fu];intro eq;obtain⟨a1,a2⟩:=dW.1 h1;obtain⟨b1,b2⟩:=dW.1 he;have:=AS.1 hkeys k j (by simpa using a1) (by simpa using b1) hk
   simp only[List.getElem_map,a2,b2]at this;exact this eq.symm
 have hx:p=(iK e.1,p.2):=by rw[<-hpk]
 have r1:uf H1 (.loc q 0 0)=some (.tu [.d (iK e.1),p.2]):=by
  simp only[uf,gq,gm,b.sd.nd,vH,aU,Jb,Jc,eG];refine(congrArg (λo=>Option.bind o _) nJ).trans ?_
  simp only[eG,hk',fy,hpk]
 have r2:eS [.i] H1 (.mp x.n1) (.d (iK e.1)) (.sl 1 true []) false=some p.2:=by
  simp[eS,gm,pF,hok,sK,hidx,hk']
 have key:∃w H2,fW H1 1 p.2 (.d (.sl 1 false [[iK v]]))=some (w,H2)/\w = .aJ H.length 0 (p7 p.2+1)/\H2.length=H.length+1/\af H2 H.length=sP h0 v p/\(∀k∈p.2.ak,af H2 k = .dead)/\∀k,k<H.length->k∉p.2.ak->af H2 k=af H1 k:=by
  rcases yD with⟨hv,KO⟩ |⟨n,off,ex,rows,hv,h2,h3,h4⟩
  .rw[hv]
   refine⟨.aJ H1.length 0 1,H1++[.an 1 true [[iK v]]],?_,by rw[gV];rfl,by simp[gV],?_,by simp[V.ak],λk hk _=>ke (by omega)⟩
   .simp only[fW,kI,aU,fT,lE]
    rw[aF (by decide),aN ⟨trivial,by decide⟩]
   .rw[<-gV,q9]
    simp[sP,hv]
  .obtain⟨_,k2,k3,k4,k5⟩:=wQ n (by rw[hv];simp[V.ak])
   have hn:af H1 n = .an 1 ex rows:=by rw[g1 n k5,hP.old n k2 k4 k3,h2]
   have hel:=hsz e (dV he);have ht:(rows.drop off).take e.2.length=rows.drop off:=fU (by simp;omega)
   rw[hv];refine⟨.aJ H1.length 0 (e.2.length+1),H1.set n .dead++[.an 1 ex (rows.drop off++[[iK v]])],?_,by rw[gV];rfl,by simp[gV],?_,λk hk=>?_,λk hk hne=>?_⟩
   .simp only[fW,kI,aU,hn,fT,lE]
    rw[aN ⟨trivial,by omega⟩,aF (by decide),aF (by omega),aN ⟨.inr h3,by unfold room;omega⟩,ht]
   .have:(H1.set n .dead).length=H.length:=by simp[gV]
    rw[<-this,q9];simp[sP,hv,h2]
   .simp[V.ak]at hk
    subst hk;rw[ke (by simp;omega),iu (by omega)]
   .simp[V.ak]at hne
    rw[ke (by simp;omega),eo hne]
 obtain⟨w,H2,a1,rfl,a3,a4,a5,a6⟩:=key;have Ql:x.n1∉p.2.ak:=λhk=>(wQ _ hk).2.2.2.1 rfl
 have Qm:af H2 x.n1 = .mp (eM seen al x.kd x.bd) x.cd x.bd:=by rw[a6 x.n1 (by omega) Ql,gm]
 have yV:(eM seen al x.kd x.bd).set j (p.1,.aJ H.length 0 (p7 p.2+1))=eM (seen++[bj]) (al.set j H.length) x.kd x.bd:=by
  refine qE λk=>?_
  by_cases gG:k<x.kd.length
  .have hk2:x.kd[k]?=some x.kd[k]:=by simp[gG]
   by_cases ek:j=k
   .subst ek
    have e1:x.kd[j]=p:=by rw[hk2]at hj;simpa using hj
    rw[IZ (by rw[kf];exact gG),lX hk2,aN (by rw[<-rD];simp),B3 wP,e1]
   .rw[I3 ek,lX hk2,lX hk2,wO ek]
    have:(x.bd.getD k 0∈seen++[bj])↔x.bd.getD k 0∈seen:=by
     simp only[aL,lG];exact⟨λh=>h.elim id λe=>absurd (y8 k e gG).symm ek,.inl⟩
    simp only[this]
  .rw[dL (by rw[nh,kf];omega),dL (by rw[kf];omega)]
 refine⟨e.1,H1,H2,H2.set x.n1 (.mp (eM (seen++[bj]) (al.set j H.length) x.kd x.bd) x.cd x.bd),.aJ H.length 0 (p7 p.2+1),iJ,r1,r2,a1,?_,?_,?_,?_,?_,by omega⟩
 .rw[a6 i (by omega) (λh=>(wQ _ h).2.2.1 |> λ_=>by have:=(wQ _ h).1;exact Qk this),g1 i (by omega)];exact hP.old i jP KN (rC b (.inl rfl))
 .simp only[kJ,Qm,hok,V.known,vH,aU,yG,hidx]
  rw[<-yV,hpk]
 .have hkeep:∀k,k≠x.n1->k<H.length->k∉p.2.ak->k≠q->af (H2.set x.n1 (.mp (eM (seen++[bj]) (al.set j H.length) x.kd x.bd) x.cd x.bd)) k=af H k:=λk h1 h2 h3 h4=>by
   rw[eo h1,a6 k h2 h3,g1 k h4]
  refine⟨by rw[nh];omega,KM,by rw[nh];omega,?_,iu (by omega),λk hk hkn hd=>?_,λk hd=>?_,by simpa using hP.all,λj2 p2 hj2 kY=>?_,λj2 k2 hj2 hk2 kY Qn e2=>?_⟩
  .rw[eo (by omega),a6 q FI (λhk=>(wQ q hk).2.2.2.2 rfl),gq]
  .have uE:¬dead seen x.kd x.bd k:=fun⟨a,c,h1,h2,h3⟩=>hd ⟨a,c,h1,aL.2 (.inl h2),h3⟩
   have hkp:k∉p.2.ak:=λh=>hd ⟨j,p,hj,by rw[<-rD];simp,h⟩
   rw[hkeep k hkn (by omega) hkp (by omega),hP.old k hk hkn uE]
  .obtain⟨j2,p2,hj2,kY,hk2⟩:=hd
   have iL:k∈own x.kd:=dG.2 ⟨p2,dV hj2,hk2⟩;have j8:=b.lt k (by simp[BI.all,iL])
   have hkn:k≠x.n1:=λe=>hown.2 (e▸iL)
   by_cases hkp:k∈p.2.ak
   .rw[eo hkn,a5 k hkp]
   .have uE:dead seen x.kd x.bd k:=by
     refine⟨j2,p2,hj2,?_,hk2⟩;rcases aL.1 kY with h |h
     .exact h
     .simp at h
      have:=y8 j2 h (dW.1 hj2).1;subst this;rw[hj]at hj2;simp at hj2;subst hj2;exact absurd hk2 hkp
    rw[hkeep k hkn (by omega) hkp (by omega),hP.gone k uE]
  .by_cases ej:j=j2
   .subst ej
    rw[hj]at hj2;simp at hj2;subst hj2;rw[B3 wP,nh];exact⟨hml,by omega,by omega,by rw[eo (by omega),a4]⟩
   .have oG:x.bd.getD j2 0∈seen:=by
     rcases aL.1 kY with h |h
     .exact h
     .simp at h
      exact absurd (y8 j2 h (dW.1 hj2).1).symm ej
    obtain⟨n1,n2,n3,n4⟩:=hP.new j2 p2 hj2 oG;rw[wO ej,nh];refine⟨n1,by omega,n3,?_⟩
    rw[hkeep _ (by omega) n2 (λh=>by have:=(wQ _ h).2.1;omega) n3,n4]
  .have hm:∀k,k<x.kd.length->x.bd.getD k 0∈seen++[bj]->k=j\/x.bd.getD k 0∈seen:=λk hk h=>by
    rcases aL.1 h with h |h
    .exact .inr h
    .simp at h;exact .inl (y8 k h hk)
   rcases hm j2 hj2 kY with h1 |h1<;>rcases hm k2 hk2 Qn with h2 |h2
   .rw[h1,h2]
   .by_cases e3:j=k2
    .rw[h1,e3]
    .subst h1
     rw[B3 wP,wO e3]at e2;have:=(hP.new k2 x.kd[k2] (by simp[hk2]) h2).2.1
     omega
   .by_cases e3:j=j2
    .rw[h2,e3]
    .subst h2
     rw[B3 wP,wO e3]at e2;have:=(hP.new j2 x.kd[j2] (by simp[hj2]) h1).2.1
     omega
   .by_cases e3:j=j2
    .subst e3;rw[<-rD]at h1;exact absurd h1 hs
    .by_cases e4:j=k2
     .subst e4;rw[<-rD]at h2;exact absurd h2 hs
     .rw[wO e3,wO e4]at e2
      exact hP.inj j2 k2 hj2 hk2 h1 h2 e2
 .intro n hn
  simp only[aY,rY,tT,dc]at hn;rw[eo hn.2.1];by_cases h1:n=H.length
  .subst h1;rw[a4];exact BY
  .by_cases h2:n<H.length
   .by_cases h3:n∈p.2.ak
    .rw[a5 n h3];rfl
    .rw[a6 n h2 h3,g1 n hn.2.2.2]
     exact hlf n (by simp[hn])
   .have:H2.length<=n:=by omega
    simp only[af,tR,dL this,Em];rfl
 .rw[g1 i (by omega),hP.old i jP KN (rC b (.inl rfl))]
end
end Go.VS
namespace Go.VS
section
variable {φ:bX}
theorem Mm{h:List O}{n es:Nat}{ex:Bool}{rows:List (List D)}(hn:af h n = .an es ex rows):bS h n=h.set n (.an es false rows):=by
 simp[bS,hn]
theorem Mn{h:List O}{n:Nat}(hn:∀es ex rows,af h n≠.an es ex rows):bS h n=h:=by
 unfold bS;split
 .rename_i es ex rows hh
  exact absurd hh (hn es ex rows)
 .rfl
theorem Mo{h:List O}{n k:Nat}:(∃es ex rows,k=n/\af h k = .an es ex rows/\af (bS h n) k = .an es false rows)\/af (bS h n) k=af h k/\(k=n->∀es ex rows,af h k≠.an es ex rows):=by
 by_cases hx:∃es ex rows,af h n = .an es ex rows
 .obtain⟨es,ex,rows,hn⟩:=hx
  rw[Mm hn];by_cases hk:k=n
  .subst hk
   exact .inl ⟨es,ex,rows,rfl,hn,ow (sy (by rw[hn];rfl))⟩
  .exact .inr ⟨jN hk,λh=>absurd h hk⟩
 .have hne:∀es ex rows,af h n≠.an es ex rows:=λes ex rows hh=>hx ⟨es,ex,rows,hh⟩
  rw[Mn hne];exact .inr ⟨rfl,λh=>by subst h;exact hne⟩
theorem Ui{h:List O}{g:Gh}{w:World}(m n:Nat)(hr:bT φ h g w):∃I',bT φ (bS h n) (g.bM I') w/\cT h g w (bS h n) (g.bM I') w/\Frame m h g w (bS h n) (g.bM I') w:=by
 by_cases hx:∃es ex rows,af h n = .an es ex rows
 .obtain⟨es,ex,rows,hn⟩:=hx
  rw[Mm hn];have hl:(af h n).live=true:=by rw[hn];rfl
  have bA:=hr.obj n;rw[hn]at bA;obtain⟨⟨CS,T,hb,hfit⟩,bJ,hI⟩:=bA;have Zl:g.I (g.β n)<=g.o n+es*rows.length:=by
   cases ex<;>simp at hI<;>omega
  have hE:Ext g.I w (eu g.I (g.β n) (g.o n+es*rows.length)) w:=⟨λb=>by simp only[eu];split<;>simp_all,λ_ _ _=>rfl⟩
  have pV:∀b,b≠g.β n->eu g.I (g.β n) (g.o n+es*rows.length) b=g.I b:=λb hb=>by simp[eu,hb]
  have hle:cT h g w (h.set n (.an es false rows)) (g.bM (eu g.I (g.β n) (g.o n+es*rows.length))) w:=nF hr hl (fG.refl _ _) hE
   (λes' he'=>⟨by rw[hn];simpa[O.dg]using he',by rw[hn];rfl,iF.of_eq rfl⟩) (λhk=>by simp[O.fL]at hk)
  refine⟨_,nG hr hl (fG.refl _ _) hle pV ⟨⟨CS,T,hb,hfit⟩,JK hE (λ_=>rfl) bJ,by simp[Gh.bM,eu]⟩,hle,nH _ hl (fG.refl _ _) hE pV hle⟩
 .have hne:∀es ex rows,af h n≠.an es ex rows:=λes ex rows hh=>hx ⟨es,ex,rows,hh⟩
  rw[Mn hne];exact⟨g.I,hr,cT.refl h g w,Frame.refl m h g w⟩
theorem cT.trans{h h' h'':List O}{g g' g'':Gh}{w w' w'':World}(a:cT h g w h' g' w')(b:cT h' g' w' h'' g'' w''):cT h g w h'' g'' w'' where
 ext:=a.ext.trans b.ext
 len:=ig a.len b.len
 arr n es hn he:=by
  obtain⟨h1,h2,h3,h4,h5⟩:=b.arr n es (je hn a.len) he;obtain⟨k1,k2,k3,k4,k5⟩:=a.arr n es hn h1;rw[k2]at h5;exact⟨k1,h2.trans k2,h3.trans k3,h4.trans k4,k5.trans h5⟩
 mp n hn hk:=by
  obtain⟨h1,h2⟩:=b.mp n (je hn a.len) hk;obtain⟨k1,k2⟩:=a.mp n hn h1;exact⟨k1,h2.trans k2⟩
 lp n hn hk:=by
  obtain⟨h1,h2⟩:=b.lp n (je hn a.len) hk;obtain⟨k1,k2⟩:=a.lp n hn h1;exact⟨k1,h2.trans k2⟩
theorem Mp{w:World}(m:Nat):∀(ns:List Nat){h:List O}{g:Gh},bT φ h g w->∃I',bT φ (bO h ns) (g.bM I') w/\cT h g w (bO h ns) (g.bM I') w/\Frame m h g w (bO h ns) (g.bM I') w
 | [],h,g,hr=>⟨g.I,hr,cT.refl h g w,Frame.refl m h g w⟩
 |n::ns,h,g,hr=>by
  obtain⟨I1,h1,h2,h3⟩:=Ui m n hr;obtain⟨I2,k1,k2,k3⟩:=Mp m ns h1;exact⟨I2,k1,h2.trans k2,h3.trans k3⟩
theorem Dw:∀(ns:List Nat){h:List O}{k:Nat},af (bO h ns) k=af h k/\(k∈ns->∀es rows,af h k≠.an es true rows)\/∃es ex rows,af h k = .an es ex rows/\af (bO h ns) k = .an es false rows
 | [],h,k=>.inl ⟨rfl,by simp⟩
 |n::ns,h,k=>by
  simp only[bO];rcases Dw ns (h:=bS h n) (k:=k)with⟨h1,h2⟩ |⟨es,ex,rows,h1,h2⟩
  .rcases Mo (h:=h) (n:=n) (k:=k)with⟨es,ex,rows,e1,e2,e3⟩ |⟨e1,e2⟩
   .exact .inr ⟨es,ex,rows,e2,h1.trans e3⟩
   .refine .inl ⟨h1.trans e1,λhk es rows=>?_⟩
    rcases aY.1 hk with hk |hk
    .exact e2 hk es true rows
    .rw[<-e1];exact h2 hk es rows
  .rcases Mo (h:=h) (n:=n) (k:=k)with⟨es',ex',dN,e1,e2,e3⟩ |⟨e1,e2⟩
   .rw[e3]at h1
    simp only[O.an.injEq]at h1;obtain⟨rfl,_,rfl⟩:=h1;exact .inr ⟨es',ex',dN,e2,h2⟩
   .exact .inr ⟨es,ex,rows,by rw[<-e1];exact h1,h2⟩
def HR(h:List O)(ns:List Nat):Prop:=∀n∈ns,∀es ex rows,af h n = .an es ex rows->ex=false
mutual
theorem Mq{h:List O}{g:Gh}{w:World}(hr:bT φ h g w):∀{x:V}{v:Value}{d:D},HR h x.ak->b9 h x=some d->ah φ h g w x v->aC φ g.I w d v
 | .u,v,d,_,ht,_=>by simp[b9]at ht
 | .fB,v,d,_,ht,_=>by simp[b9]at ht
 | .d x,v,d,_,ht,hv=>by simp[b9]at ht;subst ht;simpa only[ah]using hv
 | .loc n r c,v,d,hf,ht,hv=>by
  simp only[b9]at ht;split at ht
  .rename_i es ex rows hn
   have hex:=hf n (by simp[V.ak]) es ex rows hn
   subst hex;simp only[ij]at ht;obtain⟨row,hrow,ht⟩:=ht;split at ht
   .rename_i hc
    simp at ht;subst ht;have bA:=hr.obj n;rw[hn]at bA;obtain⟨_,bJ,hI⟩:=bA;simp at hI;simp only[ah]at hv;have jt:=hv.2.2 es (by rw[hn];rfl)
    obtain⟨h1,h2⟩:=iV bJ hrow;have wx:r<rows.length:=by
     rcases eH r rows.length with h3 |h3
     .exact h3
     .simp[dL h3]at hrow
    have hin:(r+1)*es<=es*rows.length:=by rw[eI es];exact iq es wx
    rw[kC]at hin;simp only[aC];refine⟨_,_,jt,by simp;omega,om λj x hj=>?_⟩
    rw[jI]at hj;have:=vX h2 hj
    rwa [<-Nat.add_assoc]at this
   .simp at ht
  .simp at ht
 | .aJ n off len,v,d,hf,ht,hv=>by
  simp only[b9]at ht;split at ht
  .rename_i es ex rows hn
   have hex:=hf n (by simp[V.ak]) es ex rows hn
   subst hex;split at ht
   .rename_i hc
    simp at ht;subst ht;have bA:=hr.obj n;rw[hn]at bA;obtain⟨_,bJ,hI⟩:=bA;simp at hI;simp only[ah]at hv;obtain⟨cap,jt,hlc,_⟩:=hv.2.2 es (by rw[hn];rfl)
    simp only[aC];have hlen:((rows.drop off).take len).length=len:=by simp;omega
    refine⟨_,cap,by rw[hlen];exact jt,by rw[hlen];exact hlc,λh=>by simp at h,λ_=>⟨_,rfl,λ_=>⟨rfl,?_,uI bJ hc⟩⟩⟩
    rw[hlen,hI];have h1:(off+len)*es<=es*rows.length:=by rw[eI es];exact iq es hc
    rw[iA]at h1
    have:es*len=len*es:=eI _ _
    simp only;omega
   .simp at ht
  .simp at ht
 | .dS es,v,d,_,ht,hv=>by
  simp[b9]at ht;subst ht;simp only[ah]at hv;obtain⟨ad,rfl⟩:=hv;simp only[aC];exact⟨some ad,0,rfl,by simp,by simp,λ_=>⟨ad,rfl,by simp⟩⟩
 | .mp n,v,d,_,ht,_=>by simp[b9]at ht
 | .fC n,v,d,_,ht,_=>by simp[b9]at ht
 | .rf cs,v,d,hf,ht,hv=>by
  simp only[b9,cX]at ht;obtain⟨x,hx,rfl⟩:=ht;simp only[ah]at hv;obtain⟨b,off,us,h1,h2,h3,h4⟩:=hv;have hd:=xF hr (λn hn=>hf n (by simpa[V.ak]using hn)) hx h3
  have e1:=jo h3;have e2:=nC hd;simp only[aC];exact⟨b,off,h1,by omega,Bh hd (λj u hj=>(h4 j u hj).1) (λu hu=>let ⟨j,hj,he⟩:=jf hu;(h4 j u (by simp[hj,he])).2)⟩
 | .fn f a b,v,d,hf,ht,hv=>by
  simp only[b9,ij,cX]at ht;obtain⟨x,hx,y,hy,rfl⟩:=ht;simp only[ah]at hv;obtain⟨A,B,h1,h2,h3⟩:=hv;simp only[aC];exact⟨A,B,h1,xF hr (λn hn=>hf n (by simp[V.ak,hn])) hx h2,xF hr (λn hn=>hf n (by simp[V.ak,hn])) hy h3⟩
 | .ag cs,v,d,hf,ht,hv=>by
  simp only[b9,cX]at ht;obtain⟨x,hx,rfl⟩:=ht;simp only[ah]at hv;obtain⟨A,h1,h2,h3⟩:=hv;simp only[aC];exact⟨A,h1,xF hr (λn hn=>hf n (by simpa[V.ak]using hn)) hx h2,h3⟩
 | .tu cs,v,d,_,ht,_=>by simp[b9]at ht
theorem xF{h:List O}{g:Gh}{w:World}(hr:bT φ h g w):∀{xs:List V}{vs:List Value}{ds:List D},HR h (V.bW xs)->dr h xs=some ds->aB φ h g w xs vs->aM φ g.I w ds vs
 | [],[],ds,_,ht,_=>by simp[dr]at ht;subst ht;simp[aM]
 |x::xs,v::vs,ds,hf,ht,hv=>by
  simp only[dr,ij,cX]at ht;obtain⟨y,hy,ys,hys,rfl⟩:=ht;simp only[aB]at hv;simp only[aM];exact⟨Mq hr (λn hn=>hf n (by simp[V.bW,hn])) hy hv.1,xF hr (λn hn=>hf n (by simp[V.bW,hn])) hys hv.2⟩
 | [],_::_,_,_,_,hv=>by simp[aB]at hv
 |_::_,[],_,_,_,hv=>by simp[aB]at hv
end
def HS(h h':List O):Prop:=∀k,af h' k=af h k\/∃es ex ex' rows,af h k = .an es ex rows/\af h' k = .an es ex' rows
mutual
theorem Mr{h h':List O}(hs:HS h h'):∀(x:V),b9 h' x=b9 h x
 | .u=>by simp[b9]
 | .fB=>by simp[b9]
 | .d x=>by simp[b9]
 | .loc n r c=>by
  simp only[b9];rcases hs n with h1 |⟨es,ex,ex',rows,h1,h2⟩
  .rw[h1]
  .rw[h1,h2]
 | .aJ n off len=>by
  simp only[b9];rcases hs n with h1 |⟨es,ex,ex',rows,h1,h2⟩
  .rw[h1]
  .rw[h1,h2]
 | .dX n off len=>by simp[b9]
 | .dS _=>by simp[b9]
 | .mp n=>by simp[b9]
 | .fC n=>by simp[b9]
 | .rf cs=>by simp only[b9,xG hs cs]
 | .fn f a b=>by simp only[b9,xG hs a,xG hs b]
 | .ag cs=>by simp only[b9,xG hs cs]
 | .tu cs=>by simp[b9]
theorem xG{h h':List O}(hs:HS h h'):∀(xs:List V),dr h' xs=dr h xs
 | []=>by simp[dr]
 |x::xs=>by simp only[dr,Mr hs x,xG hs xs]
end
theorem Ms(ns:List Nat)(h:List O):HS h (bO h ns):=λk=>by
 rcases Dw ns (h:=h) (k:=k)with⟨h1,_⟩ |⟨es,ex,rows,h1,h2⟩
 .exact .inl h1
 .exact .inr ⟨es,ex,false,rows,h1,h2⟩
theorem Mt(ns:List Nat)(h:List O):HR (bO h ns) ns:=λn hn es ex rows he=>by
 rcases Dw ns (h:=h) (k:=n)with⟨h1,h2⟩ |⟨es',ex',dN,h1,h2⟩
 .cases ex with
  |false=>rfl
  |true=>rw[h1]at he;exact absurd he (h2 hn es rows)
 .rw[h2]at he
  simp at he;exact he.2.1
theorem aI.frozen{nt m dB:Nat}{s:St}{g:Gh}{a:Act}{w:World}(hs:aI φ nt m dB s g a w)(ns:List Nat)(ok:Bool):∃I',aI φ nt m dB ⟨s.env,bO s.heap ns,ok⟩ (g.bM I') a w/\cT s.heap g w (bO s.heap ns) (g.bM I') w/\Frame m s.heap g w (bO s.heap ns) (g.bM I') w:=by
 obtain⟨I',h1,h2,h3⟩:=Mp m ns hs.heap;exact⟨I',⟨λk=>fF h2 (hs.env k),h1,hs.size,hs.defers.frame h3,ig hs.len h2.len⟩,h2,h3⟩
theorem Dx{nt m dB:Nat}{s:St}{g:Gh}{a:Act}{w:World}(hs:aI φ nt m dB s g a w){xs:List V}{vs:List Value}{ds:List D}(ht:dr s.heap xs=some ds)(hv:aB φ s.heap g w xs vs)(ok:Bool):
  ∃I',aI φ nt m dB ⟨s.env,bO s.heap (V.bW xs),ok⟩ (g.bM I') a w/\Frame m s.heap g w (bO s.heap (V.bW xs)) (g.bM I') w/\aM φ I' w ds vs:=by
 obtain⟨I',h1,h2,h3⟩:=hs.frozen (V.bW xs) ok;exact⟨I',h1,h3,xF h1.heap (Mt _ _) (by rw[xG (Ms _ _)];exact ht) (pL h2 hv)⟩
theorem HT{nt m dB:Nat}{a:Act}{w:World}:∀(ds:List Nat){s:St}{g:Gh},aI φ nt m dB s g a w->(oc s ds).ok=true->∃g',aI φ nt m dB (oc s ds) g' a w/\Frame m s.heap g w (oc s ds).heap g' w
 | [],s,g,hs,_=>⟨g,hs,Frame.refl _ _ _ _⟩
 |d::ds,s,g,hs,hok=>by
  simp only[oc]at hok⊢;have HU:=yl ds hok;obtain⟨v,hh,hv⟩:=pU HU;rw[hv]at hok⊢;simp only[cX,gk,gS]at hv;obtain⟨p,⟨x,hx,rfl⟩,rfl,rfl⟩:=hv;simp only[St.ct]at hok⊢;have hr:=hs.env d;have hL:V.bW [s.get (.t d)]=(s.get (.t d)).ak:=by simp[V.bW]
  obtain⟨I',h1,h2,h3⟩:=Dx hs (xs:=[s.get (.t d)]) (vs:=[a.tmps.getD d undef]) (ds:=[x]) (by simp[dr,hx]) (by simp only[aB];exact⟨hr,trivial⟩) s.ok
  rw[hL]at h1 h2;simp only[aM]at h3;have hs':aI φ nt m dB ⟨(d,.d x)::s.env,bO s.heap (s.get (.t d)).ak,s.ok⟩ (g.bM I') a w:=by
   refine⟨λk=>?_,h1.heap,h1.size,h1.defers,h1.len⟩
   simp only[aK];by_cases hk:d=k
   .subst hk;rw[aN rfl];simp only[ah];exact h3.1
   .rw[aF hk];exact h1.env k
  obtain⟨g',k1,k2⟩:=HT ds hs' hok;exact⟨g',k1,h2.trans k2⟩
end
end Go.VS
namespace Go.VS
section
variable {P:Program}{φ:bX}
variable {nt m dB:Nat}{s:St}{g:Gh}{a:Act}{w:World}{K:Act->World->Prop}{Q:Exit->Act->World->Prop}{o:Oper}
theorem xH:∀{L:List Nat}{os:List O}{h:List O},(bz h L os).length=h.length
 | [],_,_=>by simp[bz]
 |n::L,[],_=>by simp[bz]
 |n::L,o::os,h=>by simp[bz,xH (L:=L)]
theorem HV:∀{L:List Nat}{os:List O}{h:List O}{k:Nat},k∉L->af (bz h L os) k=af h k
 | [],_,_,_,_=>by simp[bz]
 |n::L,[],_,_,_=>by simp[bz]
 |n::L,o::os,h,k,hk=>by
  simp only[aY,dc]at hk;rw[bz,HV hk.2,jN hk.1]
theorem Mu:∀{L:List Nat}{os:List O}{h:List O},L.Nodup->(∀n∈L,n<h.length)->L.length<=os.length->∀{i n:Nat},L[i]?=some n->af (bz h L os) n=af os i
 | [],_,_,_,_,_,_,_,hi=>by simp at hi
 |n::L,[],_,_,_,hl,_,_,_=>by simp at hl
 |n::L,o::os,h,hnd,hlt,hl,i,k,hi=>by
  simp only[cy]at hnd;simp only[fT]at hl;cases i with
  |zero =>
   simp at hi;subst hi;rw[bz,HV hnd.1,ow (hlt n (by simp))]
   rfl
  |succ i =>
   rw[bz,Mu hnd.2 (λx hx=>by simpa using hlt x (by simp[hx])) (by omega) (i:=i) (by simpa using hi)]
   rfl
theorem Mv{h h':List O}{n:Nat}(hn:n<h.length):af (h++h') n=af h n:=by simp[af,List.getD,jH hn]
theorem Uj{h h':List O}{n:Nat}(hn:h.length<=n):af (h++h') n=af h' (n - h.length):=by simp[af,List.getD,n5 hn]
theorem Uk{h:List O}{f:O->O}(hf:f .dead = .dead){n:Nat}:af (h.map f) n=f (af h n):=by
 simp only[af,List.getD,jg];cases h[n]? with
 |none=>exact hf.symm
 |some o=>rfl
theorem Ul{h:List O}{k n:Nat}:af (h.drop k) n=af h (k+n):=by simp[af,List.getD]
def hU(h:List O)(L:List Nat)(h1:List O):List O:=bz h L (h1.map (O.av (back L h.length)))++(h1.drop L.length).map (O.av (back L h.length))
def fK(h:List O)(L:List Nat)(g g1:Gh):Gh:=⟨λk=>if k<h.length then g.β k else g1.β (k - h.length+L.length),λk=>if k<h.length then g.o k else g1.o (k - h.length+L.length),g1.I⟩
structure fR(φ:bX)(h:List O)(L:List Nat)(g:Gh)(w:World)(h1:List O)(g1:Gh)(w1:World):Prop where
 hr:bT φ h g w
 nodup:L.Nodup
 lt:∀n∈L,n<h.length
 len:L.length<=h1.length
 oR:bT φ h1 g1 w1
 fr:Frame L.length (sub h L) (dP g L) w h1 g1 w1
section
variable {h h1:List O}{L:List Nat}{g1:Gh}{w1:World}
theorem Mw:(hU h L h1).length=h.length+(h1.length - L.length):=by simp[hU,xH]
theorem fR.old(_:fR φ h L g w h1 g1 w1){k:Nat}(hk:k<h.length)(hL:k∉L):af (hU h L h1) k=af h k:=by
 rw[hU,Mv (by rw[xH];exact hk),HV hL]
theorem fR.xI(M:fR φ h L g w h1 g1 w1){i:Nat}(hi:i<h1.length):back L h.length i<(hU h L h1).length:=by
 rw[Mw,back];split
 .rename_i hlt
  have:L.getD i 0=L[i]:=by simp[List.getD,hlt]
  rw[this];have:=M.lt L[i] (m9 hlt);omega
 .omega
theorem fR.at(M:fR φ h L g w h1 g1 w1)(i:Nat):af (hU h L h1) (back L h.length i)=(af h1 i).av (back L h.length):=by
 have hm:∀(hh:List O)(n:Nat),af (hh.map (O.av (back L h.length))) n=(af hh n).av (back L h.length):=λhh n=>Uk rfl
 by_cases hi:i<L.length
 .have hg:L[i]?=some L[i]:=by simp[hi]
  have hb:back L h.length i=L[i]:=by simp[back,hi,List.getD]
  rw[hb,hU,Mv (by rw[xH];exact M.lt _ (m9 hi)),Mu M.nodup M.lt (by simpa using M.len) hg,hm]
 .have hb:back L h.length i=h.length+(i - L.length):=by simp[back,hi]
  rw[hb,hU,Uj (by rw[xH];omega),xH,I4,hm,Ul]
  congr 2;omega
theorem fR.gb(M:fR φ h L g w h1 g1 w1)(i:Nat):(fK h L g g1).β (back L h.length i)=g1.β i/\(fK h L g g1).o (back L h.length i)=g1.o i:=by
 by_cases hi:i<L.length
 .have hg:L[i]?=some L[i]:=by simp[hi]
  have hb:back L h.length i=L[i]:=by simp[back,hi,List.getD]
  have hlt:=M.lt _ (m9 hi);have hp:=M.fr.eU i hi;simp only[dP,List.getD,hg,jY]at hp;simp[fK,hb,hlt,hp]
 .have hb:back L h.length i=h.length+(i - L.length):=by simp[back,hi]
  have e:i - L.length+L.length=i:=by omega
  have e2:¬h.length+(i - L.length)<h.length:=by omega
  simp[fK,hb,e,e2]
theorem fR.split(M:fR φ h L g w h1 g1 w1)(k:Nat):(k<h.length/\k∉L)\/∃i,k=back L h.length i:=by
 by_cases hk:k<h.length
 .by_cases hL:k∈L
  .refine .inr ⟨L.idxOf k,?_⟩
   have h1:=gA hL;simp[back,h1,List.getD]
  .exact .inl ⟨hk,hL⟩
 .refine .inr ⟨L.length+(k - h.length),?_⟩
  rw[back,aF (by omega)]
  omega
theorem fR.apart(M:fR φ h L g w h1 g1 w1){k:Nat}(hL:k∉L)(hl:(af h k).live=true):∀i,(af (sub h L) i).live=true->(dP g L).β i≠g.β k:=by
 intro i hi hb;by_cases hlt:i<L.length
 .have hg:L[i]?=some L[i]:=by simp[hlt]
  rw[fP hg,oE]at hi;simp only[dP,List.getD,hg,jY]at hb;have:=M.hr.inj _ _ hi hl hb;exact hL (this▸m9 hlt)
 .rw[rm (by omega)]at hi;simp[O.live]at hi
theorem fR.hle(M:fR φ h L g w h1 g1 w1):cT h g w (hU h L h1) (fK h L g g1) w1 where
 ext:=M.fr.ext
 len:=by rw[Mw];omega
 arr n es hn he:=by
  refine⟨?_,by simp[fK,hn],by simp[fK,hn],?_⟩
  all_goals
   by_cases hL:n∈L
   .have hi:=gA hL
    have hg:=rz hL;have hb:back L h.length (L.idxOf n)=n:=by simp[back,hi,List.getD]
    have e1:=M.at (L.idxOf n);rw[hb]at e1;rw[e1,rq]at he;obtain⟨k1,k2,k3⟩:=(M.fr.jq _ hi).arr es he;rw[fP hg]at k1 k2;rw[rq]at k1;rw[uN]at k2;simp only[dP,List.getD,hg,jY]at k3
    first
     |exact k1
     |(rw[e1,uN];exact⟨k2,k3⟩)
   .rw[M.old hn hL]at he
    have hl:=sA he;have hk:=M.fr.keep (g.β n) (M.hr.block hl) (M.apart hL hl)
    first
     |exact he
     |(rw[M.old hn hL];exact⟨rfl,iF.of_eq hk.1⟩)
 mp n hn hk:=by
  refine⟨?_,by simp[fK,hn]⟩
  by_cases hL:n∈L
  .have hi:=gA hL
   have hg:=rz hL;have hb:back L h.length (L.idxOf n)=n:=by simp[back,hi,List.getD]
   have e1:=M.at (L.idxOf n);rw[hb]at e1;rw[e1]at hk;have h2:=(M.fr.jq _ hi).mp (by cases ho:af h1 (L.idxOf n)<;>rw[ho]at hk<;>simp[O.av,O.fL]at hk⊢)
   rw[fP hg]at h2;cases hq:af h n<;>rw[hq]at h2<;>simp[O.av,O.fL]at h2⊢
  .rw[M.old hn hL]at hk
   exact hk
 lp n hn hk:=by
  refine⟨?_,by simp[fK,hn]⟩
  by_cases hL:n∈L
  .have hi:=gA hL
   have hg:=rz hL;have hb:back L h.length (L.idxOf n)=n:=by simp[back,hi,List.getD]
   have e1:=M.at (L.idxOf n);rw[hb]at e1;rw[e1,yS]at hk;have h2:=(M.fr.jq _ hi).lp hk
   rwa [fP hg,yS]at h2
  .rwa [M.old hn hL]at hk
mutual
theorem fR.ah(M:fR φ h L g w h1 g1 w1):∀{x:V}{v:Value},ah φ h1 g1 w1 x v->ah φ (hU h L h1) (fK h L g g1) w1 (x.av (back L h.length)) v
 | .u,v,_=>by simp[V.av,VS.ah]
 | .fB,v,hr=>by simpa[V.av,VS.ah]using hr
 | .d x,v,hr=>by simp only[V.av,VS.ah]at hr⊢;exact hr
 | .loc n r c,v,hr=>by
  simp only[V.av,VS.ah]at hr⊢;refine⟨M.xI hr.1,hr.2.1,λes he=>?_⟩
  rw[M.at,rq]at he;rw[(M.gb n).1,(M.gb n).2];exact hr.2.2 es he
 | .aJ n off len,v,hr=>by
  simp only[V.av,VS.ah]at hr⊢;refine⟨M.xI hr.1,hr.2.1,λes he=>?_⟩
  rw[M.at,rq]at he;rw[(M.gb n).1,(M.gb n).2,M.at,uN];exact hr.2.2 es he
 | .dX n off len,v,hr=>by
  simp only[V.av,VS.ah]at hr⊢;refine⟨M.xI hr.1,hr.2.1,λes he=>?_⟩
  rw[M.at,rq]at he;rw[(M.gb n).1,(M.gb n).2,M.at,uN];exact hr.2.2 es he
 | .dS _,v,hr=>by simpa only[V.av,VS.ah]using hr
 | .mp n,v,hr=>by
  simp only[V.av,VS.ah]at hr⊢;refine⟨M.xI hr.1,hr.2.1,λhe=>?_⟩
  rw[M.at]at he;rw[(M.gb n).1];cases ho:af h1 n with
  |mp Qb ck bs=>exact hr.2.2 (by rw[ho];rfl)
  |_=>rw[ho]at he;simp[O.av,O.fL]at he
 | .rf cs,v,hr=>by
  simp only[V.av,VS.ah]at hr⊢;obtain⟨b,off,us,h1,h2,h3,h4⟩:=hr;exact⟨b,off,us,h1,by rw[yT];exact h2,M.aB h3,h4⟩
 | .fC n,v,hr=>by
  simp only[V.av,VS.ah]at hr⊢;refine⟨M.xI hr.1,hr.2.1,λhe=>?_⟩
  rw[M.at,yS]at he;rw[(M.gb n).1];exact hr.2.2 he
 | .fn f a b,v,hr=>by
  simp only[V.av,VS.ah]at hr⊢;obtain⟨A,B,h1,h2,h3⟩:=hr;exact⟨A,B,h1,M.aB h2,M.aB h3⟩
 | .ag cs,v,hr=>by
  simp only[V.av,VS.ah]at hr⊢;obtain⟨A,h1,h2,h3⟩:=hr;exact⟨A,h1,M.aB h2,h3⟩
 | .tu cs,v,hr=>by
  simp only[V.av,VS.ah]at hr⊢;obtain⟨A,h1,h2⟩:=hr;exact⟨A,h1,M.aB h2⟩
theorem fR.aB(M:fR φ h L g w h1 g1 w1):∀{xs:List V}{vs:List Value},aB φ h1 g1 w1 xs vs->aB φ (hU h L h1) (fK h L g g1) w1 (V.cu (back L h.length) xs) vs
 | [],[],_=>by simp[V.cu,VS.aB]
 |x::xs,v::vs,hr=>by
  simp only[V.cu,VS.aB]at hr⊢;exact⟨M.ah hr.1,M.aB hr.2⟩
 | [],_::_,hr=>by simp[VS.aB]at hr
 |_::_,[],hr=>by simp[VS.aB]at hr
end
theorem fR.obj(M:fR φ h L g w h1 g1 w1){b o:Nat}{x:O}(hr:cP φ h1 g1 w1 b o x):cP φ (hU h L h1) (fK h L g g1) w1 b o (x.av (back L h.length)):=by
 cases x with
 |dead=>trivial
 |an es ex rows=>exact hr
 |cS es rows =>
  simp only[O.av,cP]at hr⊢;refine⟨by simpa using hr.1,λr row hrow=>?_,hr.2.2⟩
  rw[jg,cX]at hrow;obtain⟨BO,h0,rfl⟩:=hrow;obtain⟨k1,k2⟩:=hr.2.1 r BO h0;refine⟨by rw[yT];exact k1,λj c hj=>?_⟩
  rw[Fz,cX]at hj;obtain⟨c0,hc0,rfl⟩:=hj;obtain⟨v,h3,h4,h5⟩:=k2 j c0 hc0;exact⟨v,h3,h4,M.ah h5⟩
 |mp kv ck bs =>
  simp only[O.av,cP]at hr⊢;obtain⟨ES,k1,k2,k4,k3⟩:=hr;refine⟨ES,k1,⟨by simpa using k2.1,λi p e hp he=>?_⟩,k4,k3⟩
  rw[jg,cX]at hp;obtain⟨p0,BP,rfl⟩:=hp;obtain⟨h4,h5⟩:=k2.2 i p0 e BP he;exact⟨h4,M.ah h5⟩
 |it k since seen =>
  simp only[O.av,cP]at hr⊢;obtain⟨r,k1,k2,k3,k4⟩:=hr;refine⟨r,k1,M.xI k2,λhm=>?_,k4⟩
  rw[M.at]at hm;rw[(M.gb k).1];exact k3 (by cases ho:af h1 k<;>rw[ho]at hm<;>simp[O.av,O.fL]at hm⊢)
 |lp ps a c e env =>
  simp only[O.av,cP]at hr⊢;obtain⟨r,nt,k1,k0,k2,k3,k4,k5⟩:=hr;refine⟨r,nt,k1,k0,k2,k3,λp hp=>?_,k5⟩
  simp only[eE,dz]at hp;obtain⟨q,hq,rfl⟩:=hp;exact M.ah (k4 q hq)
theorem fR.cM(M:fR φ h L g w h1 g1 w1):bT φ (hU h L h1) (fK h L g g1) w1 where
 obj k:=by
  rcases M.split k with⟨hk,hL⟩ |⟨i,rfl⟩
  .rw[M.old hk hL]
   by_cases hl:(af h k).live=true
   .have hkeep:=M.fr.keep (g.β k) (M.hr.block hl) (M.apart hL hl)
    have:=ur M.hle hkeep.1 hkeep.2 (M.hr.obj k);simpa[fK,hk]using this
   .cases hx:af h k<;>simp_all[O.live,cP]
  .rw[M.at,(M.gb i).1,(M.gb i).2]
   exact M.obj (M.oR.obj i)
 inj x y hx hy he:=by
  have Mx:∀{k i:Nat},k<h.length->k∉L->(af h k).live=true->(af h1 i).live=true->g.β k≠g1.β i:=by
   intro k i hk hL hl hi hb;rcases M.fr.gT i hi with⟨j,hj,sQ⟩ |hs
   .exact M.apart hL hl j hj (sQ.trans hb.symm)
   .have:=M.hr.block hl;omega
  rcases M.split x with⟨kx,Lx⟩ |⟨i,rfl⟩<;>rcases M.split y with⟨ky,Ly⟩ |⟨j,rfl⟩
  .rw[M.old kx Lx]at hx
   rw[M.old ky Ly]at hy;exact M.hr.inj x y hx hy (by simpa[fK,kx,ky]using he)
  .rw[M.old kx Lx]at hx
   rw[M.at,oE]at hy;rw[(M.gb j).1]at he;exact absurd (by simpa[fK,kx]using he) (Mx kx Lx hx hy)
  .rw[M.old ky Ly]at hy
   rw[M.at,oE]at hx;rw[(M.gb i).1]at he;exact absurd (by simpa[fK,ky]using he.symm) (Mx ky Ly hy hx)
  .rw[M.at,oE]at hx hy
   rw[(M.gb i).1,(M.gb j).1]at he;rw[M.oR.inj i j hx hy he]
 new:=M.oR.new
theorem fR.frame(M:fR φ h L g w h1 g1 w1){m:Nat}(hm:m<=h.length):Frame m h g w (hU h L h1) (fK h L g g1) w1 where
 ext:=M.fr.ext
 size:=M.fr.size
 os:=M.fr.os
 tape:=M.fr.tape
 output:=M.fr.output
 eU n hn:=by
  have:n<h.length:=by omega
  simp[fK,this]
 keep b hb hn:=M.fr.keep b hb λi hi yY=>by
  by_cases hlt:i<L.length
  .have hg:L[i]?=some L[i]:=by simp[hlt]
   rw[fP hg,oE]at hi;simp only[dP,List.getD,hg,jY]at yY;exact hn _ hi yY
  .rw[rm (by omega)]at hi;simp[O.live]at hi
 gT k hk:=by
  rcases M.split k with⟨kk,Lk⟩ |⟨i,rfl⟩
  .rw[M.old kk Lk]at hk
   exact .inl ⟨k,hk,by simp[fK,kk]⟩
  .rw[M.at,oE]at hk
   rw[(M.gb i).1];rcases M.fr.gT i hk with⟨j,hj,sQ⟩ |hs
   .by_cases hlt:j<L.length
    .have hg:L[j]?=some L[j]:=by simp[hlt]
     rw[fP hg,oE]at hj;simp only[dP,List.getD,hg,jY]at sQ;exact .inl ⟨L[j],hj,sQ⟩
    .rw[rm (by omega)]at hj;simp[O.live]at hj
   .exact .inr hs
 jq n hn:=M.hle.at (by omega)
end
theorem My{rec:Rec}{h:List O}{f:Nat}{xs:List V}{v2:V}{h2:List O}(hc:aW rec h f xs=some (v2,h2)):∃L v h1,cut h 0 (V.bW xs)=some L /\
  rec (.call f (V.cu (L.idxOf ·) xs) (sub h L))=some (.val v h1)/\L.length<=h1.length/\v2=v.av (back L h.length)/\h2=hU h L h1:=by
 unfold aW at hc;split at hc
 .rename_i L hL
  split at hc
  .rename_i v h1 hr
   split at hc
   .rename_i hl
    simp only[bF,gS]at hc;exact⟨L,v,h1,hL,hr,hl,hc.1.symm,hc.2.symm⟩
   .simp at hc
  .simp at hc
 .simp at hc
theorem Um(h:List O):cut h 0 []=some []:=by simp[cut,reach]
theorem Un:∀{xs:List V}{ds:List D},dY xs=some ds->V.bW xs=[]:=by
 intro xs ds hd;rw[vY hd];clear hd;induction ds with
 |nil=>rfl
 |cons d ds ih=>simp[V.bW,V.ak,ih]
theorem Uo{f:Nat->Nat}:∀{xs:List V}{ds:List D},dY xs=some ds->V.cu f xs=xs:=by
 intro xs ds hd;rw[vY hd];clear hd;induction ds with
 |nil=>rfl
 |cons d ds ih=>simp[V.cu,V.av,ih]
theorem Up(m:Nat):back [] m=(m+·):=by
 funext i;simp[back]
theorem HW{rec:Rec}(hq:gW P φ rec)(hs:aI φ nt m dB s g a w){d:Option Nat}(hd:j6 nt o d=true){f:Nat}{xs:List V}{args:Array Value}{v2:V}{h2:List O}(iI:aW rec s.heap f xs=some (v2,h2))
  (hr:aB φ s.heap g w xs args.toList)
  (hrun:(execOp a.eval o).run P w=(callFunc (φ f) args).run P w)(hK:bY φ nt m dB s g w (s.gC d (some (v2,h2))) o a K):o.wp P a w K Q:=by
 obtain⟨L,v,h1,hL,dH,hlen,rfl,rfl⟩:=My iI;obtain⟨hnd,p6,dO,_,_⟩:=uM hL;obtain⟨⟨fn,hf,hn,hb⟩,jv⟩:=hq f _ _ v h1 dH;unfold Oper.wp;rw[hrun,BA hf hn hb];simp only[Oper.upon];refine Calls.mono (jv (dP g L) w args (wJ hL hs.heap) (pZ p6 hr)) λe w' h=>?_
 obtain⟨v',g1,rfl,iJ,cM,hfr⟩:=h;rw[iy]at hfr;have M:fR φ s.heap L g w h1 g1 w':=⟨hs.heap,hnd,λn hn=>(dO n hn).1,hlen,iJ,hfr⟩
 obtain⟨e1,e2⟩:=uC hd;have hs':∀ok,aI φ nt m dB ⟨s.env,hU s.heap L h1,ok⟩ (fK s.heap L g g1) a w':=λok =>
  ⟨λk=>fF M.hle (hs.env k),M.cM,hs.size,hs.defers.frame (M.frame hs.len),ig hs.len M.hle.len⟩
 refine hK (fK s.heap L g g1) v' w' ?_ ?_
 .rw[e1]
  cases d with
  |none=>exact hs' _
  |some d=>exact(hs' s.ok).lT (e2 d rfl) (M.ah cM)
 .cases d with
  |none=>exact M.frame hs.len
  |some d=>exact M.frame hs.len
theorem Uq{rec:Rec}{h:List O}{f:Nat}{xs:List V}{r:V×List O}(hc:dU rec h f xs=some r):aW rec h f xs=some r:=by
 unfold dU at hc;split at hc
 .rename_i ds hds
  unfold aW;rw[Un hds,Um];simp only[Uo hds];have hsub:sub h []=[]:=rfl;rw[hsub];split at hc
  .rename_i v h1 hr
   simp only[bF]at hc;simp only[hr,hc.symm];simp[Up,bz]
  .simp at hc
 .simp at hc
theorem HX(r:Bool){rec:Rec}(hq:gW P φ rec)(hs:aI φ nt m dB s g a w){d:Option Nat}{f:Nat}{xs:List A}(hc:aR P φ nt o (if r then .iS d f xs else .jJ d f xs)=true)(hok:(aj rec (if r then .iS d f xs else .jJ d f xs) s).ok=true)
  (hK:bY φ nt m dB s g w (aj rec (if r then .iS d f xs else .jJ d f xs) s) o a K):o.wp P a w K Q:=by
 have mY:(j6 nt o d&&(match o.op with
  | .call c=>(match c.callee with | .value (.func g)=>φ f==g&&jr φ c.args.toList xs |_=>false)
  |_=>false))=true:=by cases r<;>exact hc
 simp only[aA]at mY;obtain⟨hd,h⟩:=mY;split at h
 .rename_i c ho
  split at h
  .rename_i ff dZ
   simp only[aA,bN]at h;obtain⟨rfl,hx⟩:=h;have hrun:(execOp a.eval o).run P w=(callFunc (φ f) (c.args.map a.eval)).run P w:=by simp[execOp,ho,resolve,dZ,Act.eval,Deferred.ofValue,invoke]
   have hr:aB φ s.heap g w (xs.map s.get) (c.args.map a.eval).toList:=by simpa using pP hs hx
   cases r with
   |true =>
    simp only[aU,aj]at hok hK;obtain⟨⟨v2,h2⟩,hv⟩:=pJ hok;rw[hv]at hK;exact HW hq hs hd hv hr hrun hK
   |false =>
    simp only[eD,cB,aj]at hok hK;obtain⟨⟨v2,h2⟩,hv⟩:=pJ hok;rw[hv]at hK;exact HW hq hs hd (Uq hv) hr hrun hK
  .simp at h
 .simp at h
theorem Ur{rec:Rec}(hq:gW P φ rec)(hs:aI φ nt m dB s g a w){d:Option Nat}{x:A}{xs:List A}(hc:aR P φ nt o (.lK d x xs)=true)(hok:(aj rec (.lK d x xs) s).ok=true)
  (hK:bY φ nt m dB s g w (aj rec (.lK d x xs) s) o a K):o.wp P a w K Q:=by
 simp only[aR,aA]at hc;obtain⟨hd,h⟩:=hc;split at h
 .rename_i c ho
  split at h
  .rename_i y dZ
   simp only[aA]at h;obtain⟨hx,hxs⟩:=h;simp only[aj]at hok hK;have rx:=b7 hs hx;have sI:=pP hs hxs;obtain⟨⟨v2,h2⟩,hv⟩:=pJ hok;rw[hv]at hK;have key:∀{f:Nat}{A B:Array Value}{zs:List V},a.eval y = .func (.func (φ f)) A B->aW rec s.heap f zs=some (v2,h2) ->
     aB φ s.heap g w zs (A.toList++c.args.toList.map a.eval++B.toList)->o.wp P a w K Q:=by
    intro f A B zs he hz hr;refine HW hq hs hd (f:=f) (xs:=zs) (args:=A++c.args.map a.eval++B) hz (by simpa using hr) ?_ hK
    simp[execOp,ho,resolve,dZ,he,Deferred.ofValue,invoke]
   cases cj:s.get x with
   |d z =>
    cases z with
    |fn f first caps =>
     rw[cj]at rx hv;simp only[ah,aC]at rx;obtain⟨A,B,he,hA,hB⟩:=rx;exact key he hv (kP (kP (sH hA) sI) (sH hB))
    |_=>rw[cj]at hv;simp[gM]at hv
   |fn f first caps =>
    rw[cj]at rx hv;simp only[ah]at rx;obtain⟨A,B,he,hA,hB⟩:=rx;exact key he hv (kP (kP hA sI) hB)
   |_=>rw[cj]at hv;simp[gM]at hv
  .simp at h
 .simp at h
end
end Go.VS
namespace Go.VS
section
variable {P:Program}{φ:bX}
variable {nt m dB:Nat}{s:St}{g:Gh}{a:Act}{w:World}{K:Act->World->Prop}{Q:Exit->Act->World->Prop}{o:Oper}
end
end Go.VS
namespace Go.VS
section
variable {P:Program}{φ:bX}
variable {nt m dB:Nat}{s:St}{g:Gh}{a:Act}{w:World}{K:Act->World->Prop}{Q:Exit->Act->World->Prop}{o:Oper}
theorem HY{d:Nat}{v:V}{h1:List O}{x:D}{h2:List O}(hd:cQ nt o d=true)(ht:gk h1 v=some (x,h2))(hK:bY φ nt m dB s g w ⟨(d,.d x)::s.env,h2,s.ok⟩ o a K):
  bY φ nt m dB s g w ⟨(d,v)::s.env,h1,s.ok⟩ o a K:=by
 intro g' v' w' hs' hf';obtain⟨e1,e2⟩:=pQ hd;simp only[gk,cX,gS]at ht;obtain⟨y,hy,rfl,rfl⟩:=ht;have hL:V.bW [v]=v.ak:=by simp[V.bW]
 have cM:=hs'.env d;simp only[aK,aU]at cM;obtain⟨I',k1,k2,k3⟩:=Dx hs' (xs:=[v]) (vs:=[(a.put o.dst v').tmps.getD d undef]) (ds:=[y]) (by simp[dr,hy]) (by simp only[aB];exact⟨cM,trivial⟩) s.ok
 rw[hL]at k1 k2;refine hK (g'.bM I') v' w' ⟨λk=>?_,k1.heap,k1.size,k1.defers,k1.len⟩ (hf'.trans k2)
 have h0:=k1.env k;simp only[aK]at h0⊢;by_cases hk:d=k
 .subst hk
  rw[aN rfl];simp only[aM]at k3;simpa only[ah,Gh.bM]using k3.1
 .rw[aF hk]at h0⊢
  exact h0
theorem HZ{ov:Option (V×List O)}{r:V×List O}(h:kK ov=some r):∃v h1 x h2,ov=some (v,h1)/\gk h1 v=some (x,h2)/\r=(.d x,h2):=by
 cases ov with
 |none=>simp[kK]at h
 |some p =>
  obtain⟨v,h1⟩:=p;simp only[kK,eG,cX]at h;obtain⟨q,hq,rfl⟩:=h;exact⟨v,h1,q.1,q.2,rfl,hq,rfl⟩
theorem Us(hs:aI φ nt m dB s g a w){rec:Rec}{d:Nat}{x k:A}{z:D}{ks:List CK}(hc:aR P φ nt o (.oa d x k z ks)=true)(hok:(aj rec (.oa d x k z ks) s).ok=true)
  (hK:bY φ nt m dB s g w (aj rec (.oa d x k z ks) s) o a K):o.wp P a w K Q:=by
 simp only[aj]at hok hK;have hd:cQ nt o d=true:=by simp only[aR,aA]at hc;exact hc.1
 obtain⟨v,hh,hv⟩:=pU hok;rw[hv]at hK;obtain⟨v1,h1,y,h2,k1,k2,k3⟩:=HZ hv;simp only[gS]at k3;obtain⟨rfl,rfl⟩:=k3;simp only[cX,gS]at k1;obtain⟨v0,hl,rfl,rfl⟩:=k1;have mY:aR P φ nt o (.jj d x k z false ks)=true:=hc;refine Km (rec:=rec) hs mY ?_ ?_
 .simp only[hv,St.ct]at hok;simp only[aj,hl,St.cr,St.put];exact hok
 .simp only[aj,hl]
  exact HY hd k2 hK
theorem Ut(hs:aI φ nt m dB s g a w){rec:Rec}{d es:Nat}{x y:A}(hc:aR P φ nt o (.nj d x y es)=true)(hok:(aj rec (.nj d x y es) s).ok=true)
  (hK:bY φ nt m dB s g w (aj rec (.nj d x y es) s) o a K):o.wp P a w K Q:=by
 simp only[aj]at hok hK;have hd:cQ nt o d=true:=by simp only[aR,aA]at hc;exact hc.1
 obtain⟨v,hh,hv⟩:=pU hok;rw[hv]at hK hok;obtain⟨v1,h1,z,h2,k1,k2,k3⟩:=HZ hv;simp only[gS]at k3;obtain⟨rfl,rfl⟩:=k3;have mY:aR P φ nt o (.app d x y es)=true:=hc;refine Kz (rec:=rec) hs mY ?_ ?_
 .simp only[aj,k1,St.ct];exact hok
 .simp only[aj,k1]
  exact HY hd k2 hK
theorem Uu{rec:Rec}(hq:gW P φ rec)(hs:aI φ nt m dB s g a w){d:Nat}{f:Nat}{xs:List A}(hc:aR P φ nt o (.lO d f xs)=true)(hok:(aj rec (.lO d f xs) s).ok=true)
  (hK:bY φ nt m dB s g w (aj rec (.lO d f xs) s) o a K):o.wp P a w K Q:=by
 simp only[aj]at hok hK;simp only[aR,aA]at hc;obtain⟨hd,h⟩:=hc;obtain⟨e1,e2⟩:=pQ hd;have mY:aR P φ nt o (if true then .iS (some d) f xs else .jJ (some d) f xs)=true:=by
  simp only[aU,aR,aA];exact⟨by simp only[j6,aA,bN,e1,Option.all_some,fu];exact⟨trivial,e2⟩,h⟩
 obtain⟨v,hh,hv⟩:=pU hok;rw[hv]at hK hok;obtain⟨v1,h1,z,h2,k1,k2,k3⟩:=HZ hv;simp only[gS]at k3;obtain⟨rfl,rfl⟩:=k3;refine HX (rec:=rec) true hq hs mY ?_ ?_
 .simp only[aU,aj,k1,St.gC];exact hok
 .simp only[aU,aj,k1]
  exact HY hd k2 hK
theorem Uv{I I':Nat->Nat}{w':World}{x:D}{v:Value}(hp:x.plain=true)(hr:aC φ I w x v):aC φ I' w' x v:=by
 cases x<;>simp[D.plain]at hp<;>simpa only[aC]using hr
theorem Mz{I I':Nat->Nat}{w':World}:∀{cs:List D}{vs:List Value},cs.all D.plain=true->aM φ I w cs vs->aM φ I' w' cs vs
 | [],[],_,_=>by simp[aM]
 |c::cs,v::vs,hp,hr=>by
  simp only[qF,aA]at hp;simp only[aM]at hr⊢;exact⟨Uv hp.1 hr.1,Mz hp.2 hr.2⟩
 | [],_::_,_,hr=>by simp[aM]at hr
 |_::_,[],_,hr=>by simp[aM]at hr
theorem MA{I I':Nat->Nat}{w':World}{y:D}{v:Value}(hp:y.so=true)(hr:aC φ I w y v):aC φ I' w' y v:=by
 cases y with
 |ag cs =>
  simp only[D.so]at hp;simp only[aC]at hr⊢;obtain⟨A,h1,h2,h3⟩:=hr;exact⟨A,h1,Mz hp h2,h3⟩
 |b x=>simpa only[aC]using hr
 |i k x=>simpa only[aC]using hr
 |s x=>simpa only[aC]using hr
 |_=>simp[D.so,D.plain]at hp
theorem Uw{h:List O}{g':Gh}{w':World}{x:V}{v:Value}(hp:x.plain=true)(hr:ah φ [] g w x v):ah φ h g' w' x v:=by
 cases x with
 |d y =>
  simp only[V.plain]at hp;simp only[ah]at hr⊢;exact MA hp hr
 |tu vs =>
  simp only[V.plain]at hp;simp only[ah]at hr⊢;obtain⟨A,h1,h2⟩:=hr;refine⟨A,h1,?_⟩;have key:∀{vs:List V}{us:List Value},vs.all (λv=>match v with | .d x=>x.so |_=>false)=true->aB φ [] g w vs us->aB φ h g' w' vs us:=by
   intro vs;induction vs with
   |nil=>intro us _ hr;cases us<;>simp_all[aB]
   |cons v vs ih =>
    intro us hp hr;cases us with
    |nil=>simp[aB]at hr
    |cons u us =>
     simp only[qF,aA]at hp;simp only[aB]at hr⊢;refine⟨?_,ih hp.2 hr.2⟩;cases v with
     |d x=>simp only[ah]at hr⊢;exact MA hp.1 hr.1
     |_=>simp at hp
  exact key hp h2
 |_=>simp[V.plain]at hp
theorem Ux{rec:Rec}{h:List O}{f:Nat}{xs:List V}{v:V}(hc:lR rec h f xs=some v):∃ds,dr h xs=some ds/\rec (.call f (ds.map V.d) [])=some (.val v [])/\v.plain=true:=by
 unfold lR at hc;split at hc
 .rename_i ds hds
  split at hc
  .rename_i v' hr
   split at hc
   .rename_i hp
    simp at hc;subst hc;exact⟨ds,hds,hr,hp⟩
   .simp at hc
  .simp at hc
 .simp at hc
theorem Uy{rec:Rec}(hq:gW P φ rec)(hs:aI φ nt m dB s g a w){d:Option Nat}{f:Nat}{xs:List A}(hc:aR P φ nt o (.calls d f xs)=true)(hok:(aj rec (.calls d f xs) s).ok=true)
  (hK:bY φ nt m dB s g w (aj rec (.calls d f xs) s) o a K):o.wp P a w K Q:=by
 simp only[aR,aA]at hc;obtain⟨hd,h⟩:=hc;split at h
 .rename_i c ho
  split at h
  .rename_i ff dZ
   simp only[aA,bN]at h;obtain⟨rfl,hx⟩:=h;simp only[aj]at hok hK;obtain⟨v,hv⟩:=ym hok;rw[hv]at hK;obtain⟨ds,hds,dH,hp⟩:=Ux hv;obtain⟨⟨fn,hf,hn,hb⟩,jv⟩:=hq f _ [] v [] dH;have hr:aB φ s.heap g w (xs.map s.get) (c.args.map a.eval).toList:=by simpa using pP hs hx
   obtain⟨I',k1,_,k3⟩:=Dx hs hds hr s.ok;have hrun:(execOp a.eval o).run P w = .ok (.enter (φ f) (c.args.map a.eval)) w:=by
    rw[<-BA (P:=P) (w:=w) (args:=c.args.map a.eval) hf hn hb];simp[execOp,ho,resolve,dZ,Act.eval,Deferred.ofValue,invoke]
   unfold Oper.wp;rw[hrun];simp only[Oper.upon];refine Calls.mono (jv ⟨λ_=>0,λ_=>0,I'⟩ w (c.args.map a.eval) (By k1.heap.new) (sv (g:=⟨λ_=>0,λ_=>0,I'⟩) k3)) λe w' hh=>?_
   obtain⟨v',g1,rfl,iJ,cM,hfr⟩:=hh;obtain⟨hg,_⟩:=Bz hfr;have Aj:∀b,b<w.heap.size->(λb=>if b<w.heap.size then g.I b else g1.I b) b=g.I b:=λb hb=>by simp[hb]
   have hnew2:∀b,w'.heap.size<=b->(λb=>if b<w.heap.size then g.I b else g1.I b) b=0:=λb hb=>by
    have:=hg.size;have hnb:¬b<w.heap.size:=by omega
    simp only[hnb,cB];exact iJ.new b hb
   obtain⟨h1,h2⟩:=uC hd;have hs':=hs.Bo hg Aj hnew2;refine hK (g.bM λb=>if b<w.heap.size then g.I b else g1.I b) v' w' ?_ ?_
   .rw[h1]
    cases d with
    |none=>exact hs'
    |some d=>exact hs'.lT (h2 d rfl) (Uw hp cM)
   .cases d with
    |none=>exact qV m hs.heap hg Aj
    |some d=>exact qV m hs.heap hg Aj
  .simp at h
 .simp at h
end
end Go.VS
namespace Go.VS
section
variable {P:Program}{φ:bX}
variable {nt m dB:Nat}{s:St}{g:Gh}{a:Act}{w:World}{K:Act->World->Prop}{Q:Exit->Act->World->Prop}{o:Oper}
theorem Uz(hs:aI φ nt m dB s g a w){rec:Rec}{d:Nat}{x:A}(hc:aR P φ nt o (.mB d x)=true)(hok:(aj rec (.mB d x) s).ok=true)
  (hK:bY φ nt m dB s g w (aj rec (.mB d x) s) o a K):o.wp P a w K Q:=by
 simp only[aR,aA]at hc;obtain⟨hd,h⟩:=hc;split at h
 .rename_i y ho
  have rx:=b7 hs h;simp only[aj]at hok hK;split at hK
  .rename_i cs hv
   rw[hv]at rx;have rx':=rx;simp only[ah,aC]at rx';obtain⟨b,off,he,_⟩:=rx';exact nI hs hd (v':=a.eval y) (by simp[execOp,ho,he]) rx hK
  .rename_i cs hv
   rw[hv]at rx;have rx':=rx;simp only[ah]at rx';obtain⟨b,off,us,he,_⟩:=rx';exact nI hs hd (v':=a.eval y) (by simp[execOp,ho,he]) rx hK
  .rename_i n r c hv
   rw[hv]at rx;have rx':=rx;simp only[ah]at rx';obtain⟨h1,h2,h3⟩:=rx';cases jt:a.eval y with
   |pointer ad =>
    cases ad with
    |some ad=>rw[jt]at rx;exact nI hs hd (v':=.pointer (some ad)) (by simp[execOp,ho,jt]) rx hK
    |none=>rw[jt]at h2;simp[yy]at h2
   |_=>rw[jt]at h2;simp[yy]at h2
  .rename_i t v hv
   rw[hv]at rx;have rx':=rx;simp only[ah,aC]at rx';obtain⟨y',he,_⟩:=rx';exact nI hs hd (v':=a.eval y) (by simp[execOp,ho,he]) rx hK
  .rename_i h1 h2 h3
   exfalso;revert hok;split<;>simp_all[St.fail]
 .simp at h
theorem UA{cap len l h mx:Nat}{k1 k2 k3:IntKind}(h1:l<=h)(h2:h<=mx)(h3:mx<=cap):
  (Instr.sliceBounds true len cap (some (.int k1 l)) (some (.int k2 h)) (some (.int k3 mx))).run P w = .ok (l,h,mx) w:=by
 have a1:¬((mx:Int)<0):=by omega
 have a2:¬((cap:Int)<mx):=by omega
 have a3:¬((h:Int)<0):=by omega
 have a4:¬((mx:Int)<h):=by omega
 have a5:¬((l:Int)<0):=by omega
 have a6:¬((h:Int)<l):=by omega
 simp[Instr.sliceBounds,Instr.sliceBound,asIntOf,h1,h2,h3]
theorem UB(hs:aI φ nt m dB s g a w){rec:Rec}{d es:Nat}{x lo hi mx:A}(hc:aR P φ nt o (.lM d x lo hi mx es)=true)(hok:(aj rec (.lM d x lo hi mx es) s).ok=true)
  (hK:bY φ nt m dB s g w (aj rec (.lM d x lo hi mx es) s) o a K):o.wp P a w K Q:=by
 simp only[aR,aA]at hc;obtain⟨hd,h⟩:=hc;split at h
 .rename_i t y lo' hi' JN ho
  simp only[aA]at h;obtain⟨⟨⟨⟨hx,hlo⟩,hhi⟩,H6⟩,ht⟩:=h;split at ht
  .rename_i e hu
   have rx:=b7 hs hx;simp only[aj]at hok hK;refine j7 hs hd hok (λv hv=>?_) hK
   have num:∀{z:A}{z':Operand}{n:Int},bE φ z' z=true->asInt (s.get z)=some n->∃k,a.eval z' = .int k n:=by
    intro z z' n hz hn;have hr:=b7 hs hz;cases hv:s.get z with
    |d q =>
     rw[hv]at hn hr;cases q with
     |i k q=>simp[asInt]at hn;subst hn;exact⟨k,lU (by simpa only[ah]using hr)⟩
     |_=>simp[asInt]at hn
    |_=>rw[hv]at hn;simp[asInt]at hn
   unfold A8 at hv;split at hv
   .rename_i l hh q hl yO hq
    obtain⟨k1,e1⟩:=num hlo hl;obtain⟨k2,e2⟩:=num hhi yO;obtain⟨k3,e3⟩:=num H6 hq;have fin:∀{ad:Option Addr}{len cap:Nat},a.eval y = .slice ad len cap->0<=l->l<=hh->hh<=q->q<=cap->v = .u ->
      ∃v',(execOp a.eval o).run P w = .ok (.value v') w/\ah φ s.heap g w v v':=by
     intro ad len cap he h0 h1 h2 h3 UC;subst UC;have hb:=UA (P:=P) (w:=w) (cap:=cap) (len:=len) (l:=l.toNat) (h:=hh.toNat) (mx:=q.toNat) (k1:=k1) (k2:=k2) (k3:=k3) (by omega) (by omega) (by omega)
     have i1:(l.toNat:Int)=l:=by omega
     have i2:(hh.toNat:Int)=hh:=by omega
     have i3:(q.toNat:Int)=q:=by omega
     rw[i1,i2,i3]at hb;have hsz:=qY (P:=P) (w:=w) ht;refine⟨_,by simp[execOp,ho,he,e1,e2,e3,Instr.sliceAt,Instr.slice,run_underlying hu,hb,hsz];rfl,by simp[ah]⟩
    split at hv
    .rename_i e' nl xs hp
     rw[hp]at rx;simp only[ah,aC]at rx;obtain⟨ad,cap,he,hlc,_⟩:=rx;split at hv
     .rename_i bP
      simp only[bF]at hv;exact fin he bP.2.1 bP.2.2.1 bP.2.2.2.1 (by omega) hv.symm
     .simp at hv
    .rename_i n off len hp
     rw[hp]at rx;simp only[ah]at rx;split at hv
     .rename_i bP
      simp only[bF]at hv;obtain⟨es',he'⟩:=yA bP.1;obtain⟨cap,he,hlc,_⟩:=rx.2.2 es' he';exact fin he bP.2.1 bP.2.2.1 bP.2.2.2.1 (by omega) hv.symm
     .simp at hv
    .rename_i e' hp
     rw[hp]at rx;simp only[ah]at rx;obtain⟨ad,he⟩:=rx;split at hv
     .rename_i bP
      simp only[bF]at hv;obtain⟨_,rfl,rfl,rfl⟩:=bP;exact fin he (by omega) (by omega) (by omega) (by simp) hv.symm
     .simp at hv
    .simp at hv
   .simp at hv
  .simp at ht
 .simp at h
theorem MB(hs:aI φ nt m dB s g a w){n p es:Nat}{rows ys:List (List D)}{news:List Value}{CS:Array Value}{T:TypeId}{ok:Bool}(hn:af s.heap n = .an es true rows)
  (hb:w.heap[g.β n]?=some (.cells CS T (0,0)))(jw:g.o n+es*rows.length<=CS.size)
  (bJ:fE φ g.I w (g.β n) es (g.o n) rows)(hI:g.I (g.β n)<=g.o n)(hrd:aM φ g.I w ys.flatten news)(hone:∀u∈news,u.oneCell'=true)(hrl:∀r∈ys,r.length=es)(iM:news.length=ys.length*es)
  (hin:p+ys.length<=rows.length):
  (storeCells ⟨g.β n,g.o n+p*es,none⟩ news).run P w = .ok () (w.setRow (g.β n) (aS CS.toList (g.o n+p*es) news).toArray) /\
  aI φ nt m dB ⟨s.env,s.heap.set n (.an es true (aS rows p ys)),ok⟩ g a (w.setRow (g.β n) (aS CS.toList (g.o n+p*es) news).toArray) /\
  Frame m s.heap g w (s.heap.set n (.an es true (aS rows p ys))) g (w.setRow (g.β n) (aS CS.toList (g.o n+p*es) news).toArray):=by
 have hl:(af s.heap n).live=true:=by rw[hn];rfl
 have hmul:(p+ys.length)*es<=rows.length*es:=iq es hin;rw[iA]at hmul;have uJ:es*rows.length=rows.length*es:=eI _ _;have jx:g.o n+p*es+news.length<=CS.size:=by omega
 have hst:=run_storeCells_at P (g.β n) (g.o n+p*es) T news 0 CS w hb (by simpa using jx) hone
 simp only[x8]at hst;obtain⟨ht,hw'⟩:=Bt (cs:=(aS CS.toList (g.o n+p*es) news).toArray) hb;have hE:Ext g.I w g.I (w.setRow (g.β n) (aS CS.toList (g.o n+p*es) news).toArray):=yB ht hb jx hw' (by omega) (λ_=>bZ _)
 have hsize:(aS CS.toList (g.o n+p*es) news).toArray.size=CS.size:=by
  have:=sF (cs:=CS.toList) (new:=news) (o:=g.o n+p*es) (by simpa using jx)
  simpa using this
 have uK:(aS rows p ys).length=rows.length:=sF hin;have hle:=nF (x:=.an es true (aS rows p ys)) hs.heap hl ht hE
  (λes' he'=>⟨by rw[hn];simpa[O.dg]using he',by rw[hn];simp only[O.len,uK],λkN T' hc=>by
   rw[hb]at hc;simp at hc;obtain⟨rfl,rfl⟩:=hc;exact⟨_,_,hw',by rw[hsize];exact bZ _,λh=>h.sG hone⟩⟩) (λhk=>by simp[O.fL]at hk)
 have hH:=nG (x:=.an es true (aS rows p ys)) hs.heap hl ht hle (λ_ _=>rfl)
  ⟨⟨_,T,hw',by rw[hsize,uK];exact jw⟩,Ku bJ hE hrd hone hrl hin hb jw hw',by simpa[Gh.bM]using hI⟩
 exact⟨hst,hs.oy hl ht hle hH,nH _ hl ht hE (λ_ _=>rfl) hle⟩
theorem MC{d:Option Nat}(hd:j6 nt o d=true){v:V}{v':Value}{hh:List O}{w':World}(hrun:(execOp a.eval o).run P w = .ok (.value v') w')(hS:aI φ nt m dB ⟨s.env,hh,s.ok⟩ g a w')(hF:Frame m s.heap g w hh g w')
  (hv:ah φ hh g w' v v')(hK:bY φ nt m dB s g w (s.gC d (some (v,hh))) o a K):o.wp P a w K Q:=by
 obtain⟨h1,h2⟩:=uC hd;refine pN hrun (hK g v' w' ?_ ?_)
 .rw[h1]
  cases d with
  |none=>exact hS
  |some d=>exact hS.lT (h2 d rfl) hv
 .cases d<;>exact hF
theorem MD{I:Nat->Nat}{z:List D}{C:List Value}(hr:aM φ I w z C):∀n:Nat,aM φ I w (List.replicate n z).flatten (List.replicate n C).flatten
 | 0=>by simp[aM]
 |n+1=>by
  simp only[IY,qC];exact qR hr (MD hr n)
theorem ME{I:Nat->Nat}{z:List D}{C:Array Value}(hr:aM φ I w z C.toList)(h1:∀v∈C.toList,v.oneCell'=true)(hp:0<z.length)(n:Nat):
  aM φ I w (List.replicate n z).flatten (Builtin.zeroCells C n).toList/\(∀v∈(Builtin.zeroCells C n).toList,v.oneCell'=true)/\(Builtin.zeroCells C n).toList.length=n*z.length:=by
 have hl:=nC hr;have he:(Builtin.zeroCells C n).toList=(List.replicate n C.toList).flatten:=by
  have hcs:C.size=z.length:=by simpa using hl.symm
  unfold Builtin.zeroCells;rw[show n*C.size=n*z.length by rw[hcs]]
  exact E6 n z.length C hcs hp
 rw[he];refine⟨MD hr n,λv hv=>?_,by simp[hl]⟩
 simp only[List.mem_flatten,AM]at hv;obtain⟨l,⟨_,rfl⟩,hv⟩:=hv;exact h1 v hv
theorem MF{es k n:Nat}{xa:Option Addr}{xc:Nat}{news:List Value}(hl:news.length=n*es)(hk:k<=n)(hc:news≠[]->∃b off,xa=some ⟨b,off,none⟩/\∀(j:Nat)(u:Value),news[j]?=some u->w.cell? ⟨b,off+j,none⟩=some u)
  : (Builtin.firstCells es k (.slice xa n xc)).run P w = .ok (news.take (k*es)).toArray w:=by
 have gG:(news.take (k*es)).length=k*es:=by
  have:=iq es hk;simp;omega
 by_cases hne:news.take (k*es)=[]
 .rw[hne]at gG⊢
  have h0:k*es=0:=by simpa using gG.symm
  cases xa with
  |none=>simp[Builtin.firstCells]
  |some ad=>exact run_firstCells_some w es k ad n xc [] (by simp[h0]) (by simp)
 .have Dy:news≠[]:=λh=>hne (by simp[h])
  obtain⟨b,off,rfl,h⟩:=hc Dy;refine run_firstCells_some w es k _ n xc _ gG λj v hj=>?_
  rw[kQ];rw[tM]at hj;split at hj
  .exact h j v hj
  .simp at hj
theorem MG{α:Type}{es:Nat}:∀{rows:List (List α)}(_:∀r∈rows,r.length=es)(n:Nat),(rows.take n).flatten=rows.flatten.take (n*es)
 | [],_,n=>by simp
 |r::rs,h,0=>by simp
 |r::rs,h,n+1=>by
  have hr:r.length=es:=h r (by simp)
  have ih:=MG (rows:=rs) (λx hx=>h x (by simp[hx])) n
  have e1:(n+1)*es - es=n*es:=by rw[kC];omega
  have e2:r.take ((n+1)*es)=r:=fU (by rw[kC];omega)
  simp only[I8,qC,ih,Ef,hr,e1,e2]
theorem UD(hs:aI φ nt m dB s g a w){rec:Rec}{d:Option Nat}{es:Nat}{x:A}{z:List D}(hc:aR P φ nt o (.lI d x es z)=true)(hok:(aj rec (.lI d x es z) s).ok=true)
  (hK:bY φ nt m dB s g w (aj rec (.lI d x es z) s) o a K):o.wp P a w K Q:=by
 simp only[aR,aA]at hc;obtain⟨hd,h⟩:=hc;split at h
 .rename_i c ho
  split at h
  .rename_i y t dZ hargs iH
   simp only[aA]at h;obtain⟨hx,h⟩:=h;split at h
   .rename_i e hu
    simp only[aA,bN,fu]at h;obtain⟨⟨hz,rfl⟩,hpos⟩:=h;obtain⟨i,v,hi,yM,oB,iw,hzs⟩:=wq (g:=g) (w:=w) hz;obtain⟨we,args,tys⟩:=c;simp only at dZ hargs iH;have kR:args=#[y]:=by rw[<-Array.toList_inj];exact hargs
    have mL:tys=#[t]:=by rw[<-Array.toList_inj];exact iH
    subst dZ;subst kR;subst mL;have rx:=b7 hs hx;simp only[aj]at hok hK;obtain⟨r,hr⟩:=pJ hok;rw[hr]at hK;simp only[cX]at hr;obtain⟨hh,hr,rfl⟩:=hr;have fin:∀{w':World},(Builtin.clear_ #[t] o.type #[a.eval y]).run P w = .ok (.tuple #[]) w'->aI φ nt m dB ⟨s.env,hh,s.ok⟩ g a w'->Frame m s.heap g w hh g w'->o.wp P a w K Q:=by
     intro w' h1 h2 h3;exact MC hd (v':=.tuple #[]) (by simp[execOp,ho,resolve,invoke,builtin,h1]) h2 h3 (by simp only[ah];exact⟨#[],rfl,by simp[aB]⟩) hK
    unfold A9 at hr;split at hr
    .rename_i e' nl cj
     simp only[bF]at hr;subst hr;rw[cj]at rx;simp only[ah,aC]at rx;obtain⟨ad,cap,he,_⟩:=rx;refine fin (w':=w) ?_ hs (Frame.refl _ _ _ _);cases ad<;>simp[Builtin.clear_,run_underlying hu,he]
    .rename_i n off len cj
     rw[cj]at rx;simp only[ah]at rx;have bA:=hs.heap.obj n;split at hr
     .rename_i e' ex rows hn
      rw[hn]at rx bA;split at hr
      .rename_i bP
       obtain⟨rfl,_,hin⟩:=bP;obtain⟨cap,he,hlc,_⟩:=rx.2.2 _ rfl;split at hr
       .rename_i h0
        simp only[bF]at hr;subst hr;subst h0;refine fin (w':=w) ?_ hs (Frame.refl _ _ _ _);simp[Builtin.clear_,run_underlying hu,he]
       .rename_i h0
        split at hr
        .rename_i hex
         subst hex;simp only[bF]at hr;subst hr;obtain⟨⟨CS,T,hb,hfit⟩,bJ,hI⟩:=bA;simp only[aU]at hI;obtain⟨z1,z2,z3⟩:=ME oB iw hpos len;obtain⟨k1,k2,k3⟩:=MB (P:=P) hs (ok:=s.ok) (p:=off) (ys:=List.replicate len z) hn hb hfit bJ hI z1 z2 (λr hr=>by rw[AM]at hr;rw[hr.2]) (by simpa using z3) (by simpa using hin)
         refine fin ?_ k2 k3;obtain⟨len,rfl⟩:∃k,len=k+1:=⟨len - 1,by omega⟩
         simp[Builtin.clear_,run_underlying hu,he,zeroValue,typeInfo,hi,yM,k1]
        .simp at hr
      .simp at hr
     .simp at hr
    .simp at hr
   .simp at h
  .simp at h
 .simp at h
theorem UE(hs:aI φ nt m dB s g a w){rec:Rec}{d:Option Nat}{es:Nat}{x y:A}(hc:aR P φ nt o (.copy d x y es)=true)(hok:(aj rec (.copy d x y es) s).ok=true)
  (hK:bY φ nt m dB s g w (aj rec (.copy d x y es) s) o a K):o.wp P a w K Q:=by
 simp only[aR,aA]at hc;obtain⟨hd,h⟩:=hc;split at h
 .rename_i c ho
  split at h
  .rename_i x' y' t t' dZ hargs iH
   simp only[aA,fu]at h;obtain⟨⟨⟨hx,hy⟩,hpos⟩,h⟩:=h;split at h
   .rename_i e e' hu ir
    obtain⟨we,args,tys⟩:=c;simp only at dZ hargs iH;have kR:args=#[x',y']:=by rw[<-Array.toList_inj];exact hargs
    have mL:tys=#[t,t']:=by rw[<-Array.toList_inj];exact iH
    subst dZ;subst kR;subst mL;have rx:=yz (b7 hs hx);have ry:=b7 hs hy;have hsz:=qY (P:=P) (w:=w) h;simp only[aj]at hok hK;obtain⟨r,hr⟩:=pJ hok;rw[hr]at hK;have fin:∀{k:Nat}{w':World}{hh:List O},r=(.d (.i .i64 (k:Int)),hh)->(Builtin.copy_ #[t,t'] o.type #[a.eval x',a.eval y']).run P w = .ok (goInt k) w'->aI φ nt m dB ⟨s.env,hh,s.ok⟩ g a w'->Frame m s.heap g w hh g w'->o.wp P a w K Q:=by
     intro k w' hh bJ h1 h2 h3;subst bJ;exact MC hd (v':=goInt k) (by simp[execOp,ho,resolve,invoke,builtin,h1]) h2 h3 (by simp[ah,aC,goInt]) hK
    unfold copyV at hr;cases kT:kI s.heap es (s.get y)with
    |none=>simp[kT]at hr
    |some ys =>
     simp only[kT]at hr;obtain⟨xa,xc,news,kV,hrl,hrd,hone,gF,hbase⟩:=Kr hs.heap ry kT;have iM:news.length=ys.length*es:=by rw[gF,eI]
     split at hr
     .rename_i n off len cj
      rw[cj]at rx;simp only[ah]at rx;have bA:=hs.heap.obj n;split at hr
      .rename_i e2 rows hn
       rw[hn]at rx bA;split at hr
       .rename_i bP
        obtain⟨rfl,hin⟩:=bP;simp only[bF]at hr;obtain⟨cap,he,hlc,_⟩:=rx.2.2 _ rfl;obtain⟨⟨CS,T,hb,hfit⟩,bJ,hI⟩:=bA;simp only[aU]at hI;have hk:(ys.take len).length=min ys.length len:=by simp[Nat.min_comm]
        have hmul:min ys.length len*e2<=ys.length*e2:=iq _ (Nat.min_le_left _ _);have hfl:(ys.take len).flatten=ys.flatten.take (min ys.length len*e2):=by
         rw[MG hrl];rcases Nat.le_total len ys.length with hle |hle
         .rw[Nat.min_eq_right hle]
         .rw[AY hle,fU (by rw[pS hrl,eI e2];exact iq _ hle),fU (by rw[pS hrl,eI e2];exact bZ _)]
        have hnt:(news.take (min ys.length len*e2)).length=min ys.length len*e2:=by simp;omega
        obtain⟨k1,k2,k3⟩:=MB (P:=P) hs (ok:=s.ok) (p:=off) (ys:=ys.take len) (news:=news.take (min ys.length len*e2)) hn hb hfit bJ hI
         (by rw[hfl];exact EZ hrd _) (λu hu=>hone u (lC hu)) (λr hr=>hrl r (lC hr)) (by rw[hnt,hk]) (by rw[hk];omega)
        refine fin hr.symm ?_ k2 k3;have H7:=MF (P:=P) (es:=e2) (k:=min ys.length len) (n:=ys.length) (xc:=xc) iM (Nat.min_le_left _ _) (λhne=>hbase λh0=>hne (by subst h0;simpa using iM))
        simp[Builtin.copy_,run_underlying hu,he,kV,Builtin.lenOf,hsz,H7,k1]
       .simp at hr
      .simp at hr
     .rename_i e2 nl cj
      rw[cj]at rx;simp only[ah,aC]at rx;obtain⟨ad,cap,he,_⟩:=rx;simp only[bF]at hr;refine fin (k:=0) (w':=w) hr.symm ?_ hs (Frame.refl _ _ _ _);have H7:=MF (P:=P) (es:=es) (k:=0) (n:=ys.length) (xc:=xc) iM (tK _) (λhne=>hbase λh0=>hne (by subst h0;simpa using iM))
      cases ad<;>simp[Builtin.copy_,run_underlying hu,he,kV,Builtin.lenOf,hsz,H7,storeCells]
     .simp at hr
   .simp at h
  .simp at h
 .simp at h
end
end Go.VS
namespace Go.VS
section
variable {P:Program}{φ:bX}
variable {nt m dB:Nat}{s:St}{g:Gh}{a:Act}{w:World}{K:Act->World->Prop}{Q:Exit->Act->World->Prop}{o:Oper}
end
end Go.VS
