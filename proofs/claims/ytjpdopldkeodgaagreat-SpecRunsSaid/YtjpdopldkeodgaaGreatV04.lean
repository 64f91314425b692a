import Derived.Test.YtjpdopldkeodgaaGreatV03
import Derived.Tactics
import Derived.Orders
import Derived.Test.YtjpdopldkeodgaaGreatV02
import Derived.Scope
set_option linter.all false
set_option maxHeartbeats 1000000
namespace Go.VS
structure X where
 i:I
 g:Option (Nat×Bool)
mutual
def J.flat(g:Option (Nat×Bool)):J->List X
 | .op i=>[⟨i,g⟩]
 | .sc fG d c body x=>J.iy (some (c,!fG)) body++[⟨.pick d (.t c) (if fG then .k (.b true)else x) (if fG then x else .k (.b false)),g⟩]
 | .re _=>[]
def J.iy(g:Option (Nat×Bool)):List J->List X
 | []=>[]
 |j::r=>j.flat g++J.iy g r
end
def zL(i:I)(s:St):St:=⟨W i.wr .kC++s.env,s.heap,s.ok⟩
def jy(rec:Rec)(x:X)(s:St):St :=
 match x.g with
 |none=>aR rec x.i s
 |some (c,want) =>
  match cA s.env c with
  | .d (.b b)=>if b=want then aR rec x.i s else zL x.i s
  | .kC=>zL x.i s
  |_=>s.fail
def eP(rec:Rec):List X->St->St
 | [],s=>s
 |x::r,s=>eP rec r (jy rec x s)
theorem yu{rec:Rec}:∀(xs ys:List X)(s:St),eP rec (xs++ys) s=eP rec ys (eP rec xs s)
 | [],_,_=>rfl
 |x::xs,ys,s=>by simp only[rZ,eP];exact yu xs ys _
theorem ajy{rec:Rec}{x:X}{s:St}(h:(jy rec x s).ok=true):s.ok=true:=by
 unfold jy at h;split at h
 .exact Kz h
 .split at h
  .split at h
   .exact Kz h
   .exact h
  .exact h
  .simp at h
theorem IW{rec:Rec}:∀{xs:List X}{s:St},(eP rec xs s).ok=true->s.ok=true
 | [],_,h=>h
 |_::_,_,h=>ajy (IW (by simpa only[eP]using h))
theorem zM{d:Option Nat}{v:V}{e:List (Nat×V)}{t:Nat}(h:t∉d.toList):cA (W d v++e) t=cA e t:=by
 cases d with
 |none=>rfl
 |some d =>
  have:d≠t:=λh1=>h (by simp[h1])
  simp[W,cA,this]
theorem zO{d:Option Nat}{v:V}{e:List (Nat×V)}{t:Nat}(h:t∈d.toList):cA (W d v++e) t=v:=by
 cases d with
 |none=>simp at h
 |some d =>
  have:t=d:=by simpa using h
  simp[W,cA,this]
theorem FU{e:List (Nat×V)}{t:Nat}:∀{ds:List Nat},cA (pI ds e) t=if t∈ds then .u else cA e t
 | []=>by simp[pI]
 |d::ds=>by
  simp only[pI,cA,FU (ds:=ds),dA];by_cases h:d=t
  .simp[h]
  .have h':¬t=d:=λe=>h e.symm
   simp[h,h']
theorem ajz{rec:Rec}{i:I}{s:St}(h:(aR rec i s).ok=true):∃v,(aR rec i s).env=W i.wr v++s.env/\(i.quiet=true->(aR rec i s).heap=s.heap):=by
 obtain⟨_,v,he,_,hh⟩:=NY (rec:=rec) (i:=i) (s:=s) (s':=s) (λ_ _=>rfl) (.inl rfl) h (Kz h)
 refine⟨v,he,λhq=>?_⟩
 rcases hh with h1 |h1
 .exact h1.1
 .rw[hq]at h1;simp at h1
theorem NZ{rec:Rec}{x:X}{s:St}(h:(jy rec x s).ok=true):∃v,(jy rec x s).env=W x.i.wr v++s.env/\(x.i.quiet=true->(jy rec x s).heap=s.heap):=by
 cases x with
 |mk i g =>
  cases g with
  |none=>exact ajz h
  |some p =>
   obtain⟨c,want⟩:=p;simp only[jy]at h⊢;generalize cA s.env c=v at *;cases v with
   |d y =>
    cases y with
    |b b =>
     simp only at h⊢;split at h
     .rename_i hw;rw[aK hw];exact ajz h
     .rename_i hw;rw[aE hw];exact⟨.kC,rfl,λ_=>rfl⟩
    |_=>simp at h
   |kC=>exact⟨.kC,rfl,λ_=>rfl⟩
   |_=>simp at h
def J.FV:J->List Nat
 | .sc _ _ _ body _=>J.j7 body
 |_=>[]
def J.IX:List J->List Nat
 | []=>[]
 |j::r=>J.IX r++j.FV
def A.slots:A->List Nat
 | .t n=>[n]
 | .k _=>[]
def tJ(xs T:List Nat):Bool:=xs.all λx=>!T.contains x
def I.slots(i:I):List Nat:=i.reads.flatMap A.slots
mutual
def J.BA(top:Bool)(T S:List Nat):J->Bool
 | .op i=>tJ i.slots T&&(top||(match i with | .st ..=>false |_=>true))
 | .sc _ d c body x=>!T.contains c&&!(J.j7 body).contains c&&J.uY false T [] body&&tJ x.slots (J.IX body++T)&&(top||S.contains c)&&d != c
 | .re i=>top&&tJ i.slots T&&i.quiet&&(match i.wr with |some d=>!T.contains d |none=>false)
def J.uY(top:Bool)(T S:List Nat):List J->Bool
 | []=>true
 |j::r=>J.BA top T S j&&J.uY top (j.FV++T) (S++j.qY) r
end
structure Ag(T:List Nat)(s s':St):Prop where
 heap:s.heap=s'.heap
 ok:s'.ok=true
 env:∀t,t∉T->cA s.env t=cA s'.env t
 low:∀t,cA s.env t = .u\/cA s.env t=cA s'.env t
theorem IY{xs T:List Nat}(h:tJ xs T=true){x:Nat}(hx:x∈xs):x∉T:=by
 simp only[tJ,yO]at h;simpa using h x hx
theorem Ag.get{T:List Nat}{s s':St}(h:Ag T s s'){x:A}(hx:tJ x.slots T=true):s.get x=s'.get x:=by
 cases x with
 |k y=>rfl
 |t n=>exact h.env n (IY hx (by simp[A.slots]))
theorem Ag.reads{T:List Nat}{s s':St}(h:Ag T s s'){i:I}(hi:tJ i.slots T=true):∀x∈i.reads,s.get x=s'.get x:=by
 intro x hx;refine h.get ?_;simp only[tJ,yO]at hi⊢;intro n hn;exact hi n (by simp only[I.slots];exact Au.2 ⟨x,hx,hn⟩)
theorem Ag.op{T:List Nat}{s s':St}(h:Ag T s s'){rec:Rec}{i:I}(hi:tJ i.slots T=true)(hok:(aR rec i s).ok=true):Ag T (aR rec i s) (aR rec i s'):=by
 obtain⟨h1,v,h2,h3,h4⟩:=NY (rec:=rec) (h.reads hi) (.inl h.heap) hok h.ok;refine⟨?_,h1,λt ht=>?_,λt=>?_⟩
 .rcases h4 with h4 |h4
  .rw[h4.1,h4.2];exact h.heap
  .exact h4.2
 .rw[h2,h3]
  by_cases hw:t∈i.wr.toList
  .rw[zO hw,zO hw]
  .rw[zM hw,zM hw];exact h.env t ht
 .rw[h2,h3]
  by_cases hw:t∈i.wr.toList
  .rw[zO hw,zO hw];exact .inr rfl
  .rw[zM hw,zM hw];exact h.low t
def wT(g:Option (Nat×Bool))(s:St):Prop :=
 match g with
 |none=>True
 |some (c,want)=>cA s.env c = .d (.b want)
def wU(g:Option (Nat×Bool))(s:St):Prop :=
 match g with
 |none=>False
 |some (c,want)=>cA s.env c = .d (.b (!want))\/cA s.env c = .kC
theorem Uq{rec:Rec}{i:I}{g:Option (Nat×Bool)}{s:St}(h:wT g s):jy rec ⟨i,g⟩ s=aR rec i s:=by
 unfold jy;cases g with
 |none=>rfl
 |some p =>
  obtain⟨c,want⟩:=p;simp only[wT]at h;simp[h]
theorem ajA{rec:Rec}{i:I}{g:Option (Nat×Bool)}{s:St}(h:wU g s):jy rec ⟨i,g⟩ s=zL i s:=by
 unfold jy;cases g with
 |none=>exact h.elim
 |some p =>
  obtain⟨c,want⟩:=p;simp only[wU]at h;rcases h with h |h<;>simp[h]
def IZ(g:Option (Nat×Bool))(ds:List Nat):Prop:=∀c want,g=some (c,want)->c∉ds
mutual
theorem ajB{rec:Rec}:∀{j:J}{g:Option (Nat×Bool)}{s:St},(eP rec (j.flat g) s).ok=true->∀t,t∉j.qY->cA (eP rec (j.flat g) s).env t=cA s.env t
 | .op i,g,s,h,t,ht=>by
  simp only[J.flat,eP,J.qY]at *;obtain⟨v,he,_⟩:=NZ h;rw[he,zM ht]
 | .re i,g,s,h,t,ht=>by simp[J.flat,eP]
 | .sc fG d c body x,g,s,h,t,ht=>by
  simp only[J.flat,yu,J.qY,dA,nQ]at *;have h1:=IW h;simp only[eP]at h⊢;obtain⟨v,he,_⟩:=NZ h;rw[he,zM (by simp[I.wr,I.dst];exact ht.1)]
  exact Ur h1 t ht.2
theorem Ur{rec:Rec}:∀{js:List J}{g:Option (Nat×Bool)}{s:St},(eP rec (J.iy g js) s).ok=true->∀t,t∉J.j7 js->cA (eP rec (J.iy g js) s).env t=cA s.env t
 | [],g,s,h,t,ht=>by simp[J.iy,eP]
 |j::r,g,s,h,t,ht=>by
  simp only[J.iy,yu,J.j7,dc,nQ]at *;rw[Ur h t ht.2,ajB (IW h) t ht.1]
end
theorem wT.mono{g:Option (Nat×Bool)}{s s':St}(h:wT g s)(he:∀c want,g=some (c,want)->cA s'.env c=cA s.env c):wT g s':=by
 cases g with
 |none=>trivial
 |some p=>simp only[wT]at *;rw[he p.1 p.2 rfl];exact h
theorem wU.mono{g:Option (Nat×Bool)}{s s':St}(h:wU g s)(he:∀c want,g=some (c,want)->cA s'.env c=cA s.env c):wU g s':=by
 cases g with
 |none=>exact h
 |some p=>simp only[wU]at *;rw[he p.1 p.2 rfl];exact h
theorem ajC{i:I}{s:St}(t:Nat):cA (zL i s).env t=if t∈i.wr.toList then .kC else cA s.env t:=by
 simp only[zL];split
 .rename_i h;exact zO h
 .rename_i h;exact zM h
structure ajD(ds:List Nat)(s s':St):Prop where
 heap:s'.heap=s.heap
 ok:s'.ok=true
 env:∀t,cA s'.env t=if t∈ds then .kC else cA s.env t
mutual
theorem ajE{rec:Rec}:∀{j:J}{T S:List Nat}{g:Option (Nat×Bool)}{s:St},J.BA false T S j=true->(∀t∈S,cA s.env t = .kC)->s.ok=true->IZ g j.qY->wU g s ->
  ajD j.qY s (eP rec (j.flat g) s)
 | .op i,T,S,g,s,hf,hS,hok,hg,ho=>by
  simp only[J.flat,eP,J.qY];rw[ajA ho];exact⟨rfl,hok,λt=>ajC t⟩
 | .re i,T,S,g,s,hf,hS,hok,hg,ho=>by simp[J.BA]at hf
 | .sc fG d c body x,T,S,g,s,hf,hS,hok,hg,ho=>by
  simp only[J.BA,bE,Bool.false_or,kZ,Wx,gi,kA,J4]at hf;obtain⟨⟨⟨⟨⟨h1,h2⟩,h3⟩,h4⟩,h5⟩,h6⟩:=hf;have hb:=Us (rec:=rec) (g:=some (c,!fG)) (s:=s) h3 (by simp) hok (λc' w he=>by simp at he;rw[<-he.1];exact h2) (by simp only[wU];exact .inr (hS c h5))
  simp only[J.flat,yu,J.qY];have ho':wU g (eP rec (J.iy (some (c,!fG)) body) s):=ho.mono λc' w he=>by
   have:=hg c' w he;simp only[J.qY,dA,nQ]at this;rw[hb.env,aE this.2]
  simp only[eP];rw[ajA ho'];refine⟨hb.heap,hb.ok,λt=>?_⟩
  rw[ajC,hb.env];simp only[I.wr,I.dst,Option.mem_toList,gz,dA];by_cases l8:d=t
  .simp[l8]
  .have:¬t=d:=λe=>l8 e.symm
   simp[l8,this]
theorem Us{rec:Rec}:∀{js:List J}{T S:List Nat}{g:Option (Nat×Bool)}{s:St},J.uY false T S js=true->(∀t∈S,cA s.env t = .kC)->s.ok=true->IZ g (J.j7 js)->wU g s ->
  ajD (J.j7 js) s (eP rec (J.iy g js) s)
 | [],T,S,g,s,hf,hS,hok,hg,ho=>by simp only[J.iy,eP,J.j7];exact⟨rfl,hok,λt=>by simp⟩
 |j::r,T,S,g,s,hf,hS,hok,hg,ho=>by
  simp only[J.uY,bE]at hf;have hj:=ajE (rec:=rec) hf.1 hS hok (λc w he=>by have:=hg c w he;simp only[J.j7,dc,nQ]at this;exact this.1) ho
  have hr:=Us (rec:=rec) (g:=g) (s:=eP rec (j.flat g) s) hf.2 (λt ht=>by
    rw[hj.env];rcases dc.1 ht with h1 |h1
    .rw[hS t h1];simp
    .rw[aK h1]) hj.ok (λc w he=>by have:=hg c w he;simp only[J.j7,dc,nQ]at this;exact this.2)
   (ho.mono λc w he=>by have:=hg c w he;simp only[J.j7,dc,nQ]at this;rw[hj.env,aE this.1])
  simp only[J.iy,yu,J.j7];refine⟨hr.heap.trans hj.heap,hr.ok,λt=>?_⟩
  rw[hr.env,hj.env];by_cases h1:t∈J.j7 r<;>by_cases h2:t∈j.qY<;>simp[h1,h2]
end
mutual
theorem ajF{rec:Rec}:∀{j:J}{top:Bool}{T S:List Nat}{g:Option (Nat×Bool)}{s s':St},J.BA top T S j=true->Ag T s s'->IZ g j.qY->wT g s'->(jl rec j s).ok=true ->
  Ag (j.FV++T) (jl rec j s) (eP rec (j.flat g) s')
 | .op i,top,T,S,g,s,s',hf,ha,hg,hact,hok=>by
  simp only[J.BA,bE]at hf;simp only[J.flat,eP,jl,J.FV,mu]at *;rw[Uq hact];exact ha.op hf.1 hok
 | .re i,top,T,S,g,s,s',hf,ha,hg,hact,hok=>by
  simp only[J.flat,eP,jl,J.FV,mu]at *;unfold again at *;split at hok
  .split at hok
   .rename_i h;rw[aK h];exact ha
   .simp at hok
  .simp at hok
 | .sc fG d c body x,top,T,S,g,s,s',hf,ha,hg,hact,hok=>by
  simp only[J.BA,bE,kZ,Wx,gi,kA,J4]at hf;obtain⟨⟨⟨⟨⟨h1,h2⟩,h3⟩,h4⟩,h5⟩,h6⟩:=hf;have hc:s.get (.t c)=cA s'.env c:=ha.env c h1;have hgb:IZ (some (c,!fG)) (J.j7 body):=λc' w he=>by simp at he;rw[<-he.1];exact h2
  simp only[J.flat,yu,jl,J.FV]at *;split at hok
  .rename_i gv I3
   rw[hc]at I3;split at hok
   ·
    rename_i heq;subst heq;rw[aK rfl];have hb:=Us (rec:=rec) (g:=some (c,!gv)) (s:=s') h3 (by simp) ha.ok hgb (by simp only[wU];exact .inl (by simpa using I3))
    have Ut:wT g (eP rec (J.iy (some (c,!gv)) body) s'):=hact.mono λc' w he=>by
     have:=hg c' w he;simp only[J.qY,dA,nQ]at this;rw[hb.env,aE this.2]
    have v8:St.get (eP rec (J.iy (some (c,!gv)) body) s') (.t c) = .d (.b gv):=by
     show cA _ c=_
     rw[hb.env,aE h2,I3]
    simp only[eP];rw[Uq Ut];have hp:aR rec (.pick d (.t c) (if gv then .k (.b true)else x) (if gv then x else .k (.b false))) (eP rec (J.iy (some (c,!gv)) body) s') =
      (eP rec (J.iy (some (c,!gv)) body) s').put d (.d (.b gv)):=by
     simp only[aR,v8];cases gv<;>simp[St.get]
    rw[hp];refine⟨by rw[St.put];exact ha.heap.trans hb.heap.symm,hb.ok,λt ht=>?_,λt=>?_⟩
    .simp only[dc,nQ]at ht
     simp only[St.put,cA];by_cases l8:d=t
     .simp[l8]
     .rw[aE l8,aE l8,FU,aE ht.1,hb.env,aE ht.1]
      exact ha.env t ht.2
    .simp only[St.put,cA]
     by_cases l8:d=t
     .simp[l8]
     .rw[aE l8,aE l8,FU,hb.env]
      by_cases hm:t∈J.j7 body
      .rw[aK hm];exact .inl rfl
      .rw[aE hm,aE hm];exact ha.low t
   ·
    rename_i hne;rw[aE hne];have ajG:gv=!fG:=by cases gv<;>cases fG<;>simp_all
    subst ajG;split at hok
    .rename_i y hy
     have hb:=N0 (rec:=rec) (g:=some (c,!fG)) (s:=s) (s':=s') h3 ha hgb (by simp only[wT];exact I3) hok
     have hw:=Ur (rec:=rec) hb.ok;have Ut:wT g (eP rec (J.iy (some (c,!fG)) body) s'):=hact.mono λc' w he=>by
      have:=hg c' w he;simp only[J.qY,dA,nQ]at this;rw[hw c' this.2]
     have v8:St.get (eP rec (J.iy (some (c,!fG)) body) s') (.t c) = .d (.b (!fG)):=by
      show cA _ c=_
      rw[hw c h2,I3]
     have fX:St.get (eP rec (J.iy (some (c,!fG)) body) s') x = .d (.b y):=by rw[<-hb.get h4];exact hy
     simp only[eP];rw[Uq Ut];have hp:aR rec (.pick d (.t c) (if fG then .k (.b true)else x) (if fG then x else .k (.b false))) (eP rec (J.iy (some (c,!fG)) body) s') =
       (eP rec (J.iy (some (c,!fG)) body) s').put d (.d (.b y)):=by
      have key:∀z:St,z.get (.t c) = .d (.b (!fG))->z.get x = .d (.b y)->aR rec (.pick d (.t c) (if fG then .k (.b true)else x) (if fG then x else .k (.b false))) z=z.put d (.d (.b y)):=by
       intro z h1 h2;simp only[aR,h1];cases fG<;>simp[h2]
      exact key _ v8 fX
     rw[hp];refine⟨hb.heap,hb.ok,λt ht=>?_,λt=>?_⟩
     .simp only[dc,nQ]at ht
      simp only[St.put,cA];by_cases l8:d=t
      .simp[l8]
      .rw[aE l8,aE l8,FU,aE ht.1,hw t ht.1]
       exact ha.env t ht.2
     .simp only[St.put,cA]
      by_cases l8:d=t
      .simp[l8]
      .rw[aE l8,aE l8,FU]
       by_cases hm:t∈J.j7 body
       .rw[aK hm];exact .inl rfl
       .rw[aE hm,hw t hm];exact ha.low t
    .simp at hok
  .simp at hok
theorem N0{rec:Rec}:∀{js:List J}{top:Bool}{T S:List Nat}{g:Option (Nat×Bool)}{s s':St},J.uY top T S js=true->Ag T s s'->IZ g (J.j7 js)->wT g s'->(fY rec js s).ok=true ->
  Ag (J.IX js++T) (fY rec js s) (eP rec (J.iy g js) s')
 | [],top,T,S,g,s,s',hf,ha,hg,hact,hok=>by simpa only[J.iy,eP,fY,J.IX,mu]using ha
 |j::r,top,T,S,g,s,s',hf,ha,hg,hact,hok=>by
  simp only[J.uY,bE]at hf;simp only[fY]at hok;have hj:=ajF (rec:=rec) hf.1 ha (λc w he=>by have:=hg c w he;simp only[J.j7,dc,nQ]at this;exact this.1) hact (uj hok)
  have hr:=N0 (rec:=rec) (g:=g) hf.2 hj (λc w he=>by have:=hg c w he;simp only[J.j7,dc,nQ]at this;exact this.2)
   (hact.mono λc w he=>by have:=hg c w he;simp only[J.j7,dc,nQ]at this;exact ajB hj.ok c this.1) hok
  simp only[J.iy,yu,fY,J.IX,sS];exact hr
end
end Go.VS
namespace Go.VS
section
variable {P:Program}{φ:fy}
variable {nt m dB:Nat}{s:St}{g:Gh}{a:Act}{w:World}{K:Act->World->Prop}{Q:Exit->Act->World->Prop}{o:Oper}{ops:Array Oper}{r:Option Nat}{n:Nat}
theorem ajH{i:I}(h:cN P φ nt o i=true):o.dst=i.dst/\∀d,i.dst=some d->d<nt:=by
 have key:∀{d:Nat}{b:Bool},(gp nt o d&&b)=true->o.dst=some d/\∀k,some d=some k->k<nt:=by
  intro d b h;simp only[bE]at h;obtain⟨h1,h2⟩:=Bm h.1;exact⟨h1,λk hk=>by simp at hk;omega⟩
 have yw:∀{d:Option Nat}{b:Bool},(pT nt o d&&b)=true->o.dst=d/\∀k,d=some k->k<nt:=by
  intro d b h;simp only[bE]at h;exact Dk h.1
 cases i with
 |st x y n fz =>
  simp only[cN]at h;split at h
  .simp only[bE,dM]at h
   exact⟨h.1.1.1.1.1,λd hd=>by simp[I.dst]at hd⟩
  .simp at h
 |call d f xs=>exact yw h
 |nR d x xs=>exact yw h
 |mO d f xs=>exact yw h
 |jf d f xs=>exact yw h
 |pF d x xs=>exact yw h
 |inv d nm j6 x xs=>exact yw h
 |pG d x xs=>exact yw h
 |calls d f xs=>exact yw h
 |qg d x es z=>exact yw h
 |bad d=>simp only[cN]at h;exact Dk h
 |copy d x y es=>exact yw h
 |fE m k v ks =>
  simp only[cN,bE,dM]at h;exact⟨h.1,λd hd=>by simp[I.dst]at hd⟩
 |_=>first |exact key h |simp[cN]at h
def FW(ops:Array Oper)(o:Oper)(x:X):Bool :=
 match x.g,o.guard with
 |none,none=>true
 |some (c,want),some (j,w')=>want==w'&&((ops[j]?).bind (·.dst))==some c&&(match x.i with | .st ..=>false |_=>true)
 |_,_=>false
theorem ajI(hs:cm φ nt m dB s g a w){i:I}(jq:i.wr=i.dst)(hd:o.dst=i.dst)(hlt:∀d,i.dst=some d->d<nt):cm φ nt m dB (zL i s) g (a.put o.dst undef) w:=by
 rw[hd];unfold zL;rw[jq];cases h:i.dst with
 |none=>exact hs
 |some d=>exact hs.wF (hlt d h) (by simp[aJ])
theorem ajJ(hs:cm φ nt m dB s g a w){x:X}{rec:Rec}(hg:FW ops o x=true)(hd:o.dst=x.i.dst)(hlt:∀d,x.i.dst=some d->d<nt)(hok:(jy rec x s).ok=true)
  {X:Prop}(hop:(jy rec x s)=aR rec x.i s->(aR rec x.i s).ok=true->X)
  (Ds:jy rec x s=zL x.i s->cm φ nt m dB (zL x.i s) g (a.put o.dst undef) w->K (a.put o.dst undef) w):
  if Region.wanted o (yielded ops a.tmps)then X else K (a.put o.dst undef) w:=by
 unfold FW at hg;unfold jy at hok hop Ds;split at hg
 .rename_i h1 h2
  simp only[h1]at hok hop;rw[aK (by simp[Region.wanted,h2])]
  exact hop trivial hok
 .rename_i c want j w' h1 h2
  simp only[bE,dM]at hg;obtain⟨⟨rfl,hj⟩,hk⟩:=hg;have jq:x.i.wr=x.i.dst:=by
   cases hi:x.i<;>simp_all[I.wr]
  simp only[h1]at hok hop Ds;have hc:=hs.env c;have ajK:Region.wanted o (yielded ops a.tmps)=(yielded ops a.tmps j==some want):=by simp[Region.wanted,h2]
  have ajL:yielded ops a.tmps j=match a.tmps[c]? with |some (.bool b)=>some b |_=>none:=by simp only[yielded,hj,rY];rfl
  rw[ajK,ajL];cases hv:cA s.env c with
  |d y =>
   cases y with
   |b b =>
    rw[hv]at hc;have hb:=wI (by simpa only[aJ]using hc)
    have hsome:a.tmps[c]?=some (.bool b):=by
     cases hq:a.tmps[c]? with
     |none=>simp[Av,hq,undef]at hb
     |some v=>simp[Av,hq]at hb;rw[hb]
    simp only[hsome];simp only[hv]at hok hop Ds;by_cases Uu:b=want
    .subst Uu
     simp only[dH]at hok hop;simp only[PE,dH];exact hop trivial hok
    .have:(some b==some want)=false:=by simpa using Uu
     simp only[this,eR,dG];simp only[Uu,dG]at Ds;exact Ds trivial (ajI hs jq hd hlt)
   |_=>simp[hv]at hok
  |kC =>
   rw[hv]at hc;have hb:a.tmps.getD c undef=undef:=by simpa only[aJ]using hc
   have hnone:(match a.tmps[c]? with |some (.bool b)=>some b |_=>none)=(none:Option Bool):=by
    cases hq:a.tmps[c]? with
    |none=>rfl
    |some v =>
     simp[Av,hq]at hb;rw[hb];rfl
   simp only[hnone];simp only[hv]at Ds;exact Ds trivial (ajI hs jq hd hlt)
  |_=>simp[hv]at hok
 .simp at hg
def Dt(P:Program)(φ:Nat->Nat)(nt:Nat)(ops:Array Oper):List Oper->List X->Bool
 | [],[]=>true
 |o::os,x::xs=>cN P φ nt o x.i&&FW ops o x&&Dt P φ nt ops os xs
 |_,_=>false
theorem ajM{o:Oper}{rest:List Oper}(h:if Region.wanted o (yielded ops a.tmps)then o.wpIn (Wd r) n P a w (wpListIn (Wd r) n P ops Q rest) Q else wpListIn (Wd r) n P ops Q rest (a.put o.dst undef) w):wpListIn (Wd r) n P ops Q (o::rest) a w:=by
 unfold wpListIn;split
 .rename_i hw;rw[aK hw]at h;exact h
 .rename_i hw;rw[aE hw]at h;exact⟨λ_ _=>trivial,h⟩
theorem ajN{rec:Rec}(hq:l7 P φ rec)(hy:tH P φ rec):∀{l:List Oper}{xs:List X}{s:St}{g:Gh}{a:Act}{w:World},Dt P φ nt ops l xs=true->cm φ nt m dB s g a w->(eP rec xs s).ok=true ->
  (∀g' a' w',cm φ nt m dB (eP rec xs s) g' a' w'->Frame m s.heap g w (eP rec xs s).heap g' w'->Q .normal a' w')->wpListIn (Wd r) n P ops Q l a w
 | [],[],s,g,a,w,_,hs,_,hQ=>wpListIn_nil (hQ g a w hs (Frame.refl _ _ _ _))
 |o::l,x::xs,s,g,a,w,hc,hs,hok,hQ=>by
  simp only[Dt,bE]at hc;obtain⟨⟨h1,h2⟩,h3⟩:=hc;simp only[eP]at hok hQ;have hd:=ajH h1;have next:∀g' a' w',cm φ nt m dB (jy rec x s) g' a' w'->Frame m s.heap g w (jy rec x s).heap g' w'->wpListIn (Wd r) n P ops Q l a' w':=λg' a' w' hs' hf =>
   ajN hq hy h3 hs' hok λg2 a2 w2 wW v9=>hQ g2 a2 w2 wW (hf.trans v9)
  refine ajM (ajJ hs h2 hd.1 hd.2 (IW hok) (λhe uZ=>ajx hq hy hs h1 uZ λg' v' w' hs' hf=>?_) (λhe hs'=>?_))
  .exact next g' _ w' (by rw[he];exact hs') (by rw[he];exact hf)
  .exact next g _ w (by rw[he];exact hs') (by rw[he];exact Frame.refl _ _ _ _)
 | [],_::_,_,_,_,_,hc,_,_,_=>by simp[Dt]at hc
 |_::_,[],_,_,_,_,hc,_,_,_=>by simp[Dt]at hc
theorem cm.low{s':St}(hs:cm φ nt m dB s' g a w){T:List Nat}(h:Ag T s s'):cm φ nt m dB s g a w where
 env k:=by
  rcases h.low k with h1 |h1
  .rw[h1];simp[aJ]
  .rw[h1,h.heap];exact hs.env k
 heap:=by rw[h.heap];exact hs.heap
 size:=hs.size
 defers:=by rw[h.heap];exact hs.defers
 len:=by rw[h.heap];exact hs.len
theorem Ag.refl(h:s.ok=true):Ag [] s s:=⟨rfl,h,λ_ _=>rfl,λ_=>.inr rfl⟩
def Post(φ:fy)(nt m dB:Nat)(s:St)(g:Gh)(w:World)(s':St)(R:Act->World->Prop):Prop :=
 ∀g' a' w',cm φ nt m dB s' g' a' w'->Frame m s.heap g w s'.heap g' w'->R a' w'
theorem ajO{rec:Rec}(hq:l7 P φ rec)(hy:tH P φ rec){js:List J}(hs:cm φ nt m dB s g a w)(hf:J.uY true [] [] js=true)(hc:Dt P φ nt ops ops.toList (J.iy none js)=true)
  (hok:(fY rec js s).ok=true){id:Nat}(hQ:Post φ nt m dB s g w (fY rec js s) (Q .normal)):(Code.region id ops false).wpIn (Wd r) n P Q a w:=by
 have lJ:=N0 (rec:=rec) (g:=none) hf (Ag.refl (uj hok)) (λ_ _ h=>by simp at h) trivial hok
 exact wpIn_region_list (ajN hq hy hc hs lJ.ok λg' a' w' hs' hfr=>hQ g' a' w' (hs'.low lJ) (by rw[lJ.heap];exact hfr))
end
end Go.VS
namespace Go.VS
def ajP(acc dp:List Nat):Nat:=dp.foldl (λm r=>m |||(2 ^ r |||acc.getD r 0)) 0
def FX:List Nat->List (List Nat)->List Nat
 |acc,[]=>acc
 |acc,dp::r=>FX (acc++[if dp.all (·<acc.length)then ajP acc dp else 0]) r
def masks(ds:List (List Nat)):List Nat:=FX [] ds
theorem ajQ{acc:List Nat}{q:Nat}:∀{dp:List Nat}{m:Nat},(dp.foldl (λm r=>m |||(2 ^ r |||acc.getD r 0)) m).testBit q=true->m.testBit q=true\/∃r∈dp,q=r\/(acc.getD r 0).testBit q=true
 | [],m,h=>.inl h
 |r::dp,m,h=>by
  rcases ajQ (dp:=dp) h with h |⟨r',h1,h2⟩
  .rw[Nat.testBit_or,Nat.testBit_or,Nat.testBit_two_pow]at h
   simp only[B8,gi]at h;rcases h with h |h |h
   .exact .inl h
   .exact .inr ⟨r,by simp,.inl h.symm⟩
   .exact .inr ⟨r,by simp,.inr h⟩
  .exact .inr ⟨r',by simp[h1],h2⟩
def N1(D:List (List Nat))(acc:List Nat):Prop :=
 ∀p q,p<acc.length->(acc.getD p 0).testBit q=true->∃r∈D.getD p [],r<p/\(q=r\/(acc.getD r 0).testBit q=true)
theorem Uv{α:Type}{l:List α}{x d:α}{p:Nat}(h:p<l.length):(l++[x]).getD p d=l.getD p d:=by
 simp[List.getD,sP h]
theorem ajR{α:Type}{l:List α}{x d:α}:(l++[x]).getD l.length d=x:=by
 simp[List.getD]
theorem ajS{D:List (List Nat)}:∀{ds:List (List Nat)}{acc:List Nat},(∀k,ds[k]?=D[acc.length+k]?)->N1 D acc->N1 D (FX acc ds)/\(FX acc ds).length=acc.length+ds.length
 | [],acc,_,h=>⟨h,by simp[FX]⟩
 |dp::ds,acc,hd,h=>by
  have h0:D.getD acc.length []=dp:=by have:=hd 0;simp at this;simp[List.getD,<-this]
  have key:N1 D (acc++[if dp.all (·<acc.length)then ajP acc dp else 0]):=by
   intro p q hp hq;by_cases hlt:p<acc.length
   .rw[Uv hlt]at hq
    obtain⟨r,h1,h2,h3⟩:=h p q hlt hq;exact⟨r,h1,h2,by rw[Uv (by omega)];exact h3⟩
   .have iO:p=acc.length:=by simp at hp;omega
    subst iO;rw[ajR]at hq;split at hq
    .rename_i hall
     rcases ajQ hq with h1 |⟨r,h1,h2⟩
     .simp at h1
     .have hr:r<acc.length:=by simpa using yO.1 hall r h1
      exact⟨r,by rw[h0];exact h1,hr,by rw[Uv hr];exact h2⟩
    .simp at hq
  have:=ajS (ds:=ds) (λk=>by have:=hd (k+1);simp at this⊢;rw[this];congr 1;omega) key
  refine⟨this.1,?_⟩;rw[FX,this.2];simp;omega
def kP(ms:List Nat)(p q:Nat):Bool:=(ms.getD q 0).testBit p
theorem ajT(D:List (List Nat)):N1 D (masks D):=(ajS (D:=D) (ds:=D) (acc:=[]) (by simp) (λp q hp=>by simp at hp)).1
theorem ajU{D:List (List Nat)}{p q:Nat}(h:kP (masks D) q p=true):∃r∈D.getD p [],r<p/\(q=r\/kP (masks D) q r=true):=by
 by_cases hp:p<(masks D).length
 .exact ajT D p q hp h
 .have:(masks D).getD p 0=0:=by simp[List.getD,nN (Nat.le_of_not_lt hp)]
  unfold kP at h;rw[this]at h;simp at h
theorem N2{D:List (List Nat)}:∀{p q:Nat},kP (masks D) q p=true->q<p:=by
 intro p;induction p using Nat.strongRecOn with
 |_ p ih =>
  intro q h;obtain⟨r,_,h2,h3⟩:=ajU h;rcases h3 with h3 |h3
  .omega
  .have:=ih r h2 h3;omega
theorem ajV{D:List (List Nat)}{E:List Nat}(hE:∀p∈E,∀r∈D.getD p [],r∈E):∀{p q:Nat},(∀r∈D.getD p [],r∈E)->kP (masks D) q p=true->q∈E:=by
 intro p;induction p using Nat.strongRecOn with
 |_ p ih =>
  intro q hp h;obtain⟨r,h1,h2,h3⟩:=ajU h;have hr:=hp r h1;rcases h3 with h3 |h3
  .rw[h3];exact hr
  .exact ih r h2 (hE r hr) h3
section
variable (wr:Nat->Option Nat)(val:Nat->V)(e0:List (Nat×V))
def wX(E:List Nat):List (Nat×V):=E.flatMap (λp=>W (wr p) (val p))++e0
variable {wr val e0}
theorem Uw{t:Nat}:∀{E:List Nat},(∀p∈E,wr p≠some t)->cA (wX wr val e0 E) t=cA e0 t
 | [],_=>rfl
 |p::E,h=>by
  have hp:t∉(wr p).toList:=by
   intro hm;cases hw:wr p with
   |none=>rw[hw]at hm;simp at hm
   |some d=>rw[hw]at hm;simp at hm;exact h p (by simp) (by rw[hw,hm])
  have:=Uw (E:=E) (λq hq=>h q (by simp[hq]))
  simp only[wX,PF,sS]at this⊢;rw[zM hp];exact this
theorem N3{t p:Nat}(hp:wr p=some t):∀{E:List Nat},p∈E->(∀q∈E,wr q=some t->q=p)->cA (wX wr val e0 E) t=val p
 | [],h,_=>by simp at h
 |q::E,h,hu=>by
  simp only[wX,PF,sS];by_cases hq:wr q=some t
  .have:q=p:=hu q (by simp) hq
   subst this;exact zO (by rw[hq];simp)
  .have kg:t∉(wr q).toList:=by
    intro hm;cases hw:wr q with
    |none=>rw[hw]at hm;simp at hm
    |some d=>rw[hw]at hm;simp at hm;exact hq (by rw[hw,hm])
   rw[zM kg];have I4:p∈E:=by
    rcases dA.1 h with h1 |h1
    .subst h1;exact absurd hp hq
    .exact h1
   exact N3 hp I4 (λq hq=>hu q (by simp[hq]))
theorem Ux{n t:Nat}{E E':List Nat}(hu:∀p q,p<n->q<n->wr p=some t->wr q=some t->p=q)(hE:∀p∈E,p<n)(hE':∀p∈E',p<n)
  (h:∀p,p<n->wr p=some t->(p∈E↔p∈E')):cA (wX wr val e0 E) t=cA (wX wr val e0 E') t:=by
 by_cases hex:∃p,p∈E/\wr p=some t
 .obtain⟨p,hp,hw⟩:=hex
  have iO:=(h p (hE p hp) hw).1 hp;rw[N3 hw hp (λq hq I5=>hu q p (hE q hq) (hE p hp) I5 hw),N3 hw iO (λq hq I5=>hu q p (hE' q hq) (hE p hp) I5 hw)]
 .rw[Uw (λp hp hw=>hex ⟨p,hp,hw⟩),Uw (λp hp hw=>hex ⟨p,(h p (hE' p hp) hw).2 hp,hw⟩)]
end
def nH(ef:Nat->Bool):List Nat->Nat
 | []=>0
 |p::E=>if ef p then max (p+1) (nH ef E)else nH ef E
theorem Uy{ef:Nat->Bool}{k:Nat}:∀{E:List Nat},(∀p∈E,ef p=true->p<k)->nH ef E<=k
 | [],_=>by simp[nH]
 |p::E,h=>by
  have:=Uy (E:=E) (λq hq=>h q (by simp[hq]))
  simp only[nH];split
  .rename_i hp;have:=h p (by simp) hp;omega
  .exact this
theorem I6{ef:Nat->Bool}{p:Nat}(he:ef p=true):∀{E:List Nat},p∈E->p+1<=nH ef E
 | [],h=>by simp at h
 |q::E,h=>by
  simp only[nH];rcases dA.1 h with h1 |h1
  .subst h1;rw[aK he];omega
  .have:=I6 he h1
   split<;>omega
theorem ajW{ef:Nat->Bool}:∀(E:List Nat),nH ef E=0\/∃p∈E,ef p=true/\nH ef E=p+1
 | []=>.inl rfl
 |p::E=>by
  simp only[nH];have ih:=ajW (ef:=ef) E;split
  .rename_i hp
   rcases ih with h |⟨q,h1,h2,h3⟩
   .exact .inr ⟨p,by simp,hp,by omega⟩
   .by_cases hlt:q<=p
    .exact .inr ⟨p,by simp,hp,by omega⟩
    .exact .inr ⟨q,by simp[h1],h2,by omega⟩
  .rcases ih with h |⟨q,h1,h2,h3⟩
   .exact .inl h
   .exact .inr ⟨q,by simp[h1],h2,h3⟩
end Go.VS
namespace Go.VS
def X.slots(x:X):List Nat:=x.i.slots++(match x.g with |some (c,_)=>[c] |none=>[])
def jz(rec:Rec)(xs:List X)(s0:St)(p:Nat):St:=eP rec (xs.take p) s0
theorem Uz{rec:Rec}{xs:List X}{s0:St}{p:Nat}{x:X}(h:xs[p]?=some x):jz rec xs s0 (p+1)=jy rec x (jz rec xs s0 p):=by
 unfold jz;rw[List.take_add_one,h];simp[yu,eP]
theorem ajX{rec:Rec}{xs:List X}{s0:St}:jz rec xs s0 xs.length=eP rec xs s0:=by simp[jz]
theorem UA{rec:Rec}{xs:List X}{s0:St}(h:(eP rec xs s0).ok=true)(p:Nat):(jz rec xs s0 p).ok=true:=by
 have:eP rec xs s0=eP rec (xs.drop p) (eP rec (xs.take p) s0):=by rw[<-yu,Ar]
 rw[this]at h;exact IW h
theorem UB{rec:Rec}{x:X}{s s':St}(h:∀t∈x.slots,cA s.env t=cA s'.env t)(hh:s.heap=s'.heap\/x.i.blind=true):Alike x.i.quiet x.i.wr s s' (jy rec x s) (jy rec x s'):=by
 have hr:∀y∈x.i.reads,s.get y=s'.get y:=by
  intro y hy;cases y with
  |k z=>rfl
  |t n=>exact h n (by simp only[X.slots,I.slots];exact D7 _ (Au.2 ⟨_,hy,by simp[A.slots]⟩))
 cases x with
 |mk i g =>
  cases g with
  |none=>exact NY hr hh
  |some p =>
   obtain⟨c,want⟩:=p;have hc:=h c (by simp[X.slots])
   simp only[jy,<-hc];generalize cA s.env c=v;cases v with
   |d y =>
    cases y with
    |b b =>
     simp only;split
     .exact NY hr hh
     .intro h1 h2;exact⟨h2,.kC,rfl,rfl,.inl ⟨rfl,rfl⟩⟩
    |_=>exact Alike.fail
   |kC=>intro h1 h2;exact⟨h2,.kC,rfl,rfl,.inl ⟨rfl,rfl⟩⟩
   |_=>exact Alike.fail
def UC(rec:Rec)(s:St)(i:I):Prop:=∃d,i.wr=some d/\(aR rec i s).ok=true/\cA (aR rec i s).env d=cA s.env d
section
variable {rec:Rec}{xs:List X}{s0:St}{D:List (List Nat)}{R:List (Nat×I)}
structure FY(D:List (List Nat))(R:List (Nat×I))(n:Nat)(xs:List X)(p q:Nat)(x y:X):Prop where
 uniq:∀t,x.i.wr=some t->y.i.wr≠some t
 rw:kP (masks D) p q=false->(∀t,x.i.wr=some t->t∉y.slots)/\(∀t,y.i.wr=some t->t∉x.slots)
 eff:kP (masks D) p q=false->x.i.quiet=true\/y.i.quiet=true
 left:kP (masks D) p q=false->x.i.quiet=false->y.i.blind=true
 right:kP (masks D) p q=false->y.i.quiet=false->x.i.blind=true\/(x.g=none/\(q+1,x.i)∈R /\
  ∀r z t,xs[r]?=some z->z.i.wr=some t->t∈x.slots->kP (masks D) r p=true\/q<r)
noncomputable def valOf (rec:Rec)(xs:List X)(s0:St)(p:Nat):V :=
 match xs[p]? with
 |some x=>match x.i.wr with
  |some d=>cA (jz rec xs s0 (p+1)).env d
  |none=>.u
 |none=>.u
def qC(xs:List X)(p:Nat):Option Nat:=(xs[p]?).bind (·.i.wr)
def nI(xs:List X)(p:Nat):Bool:=((xs[p]?).map (!·.i.quiet)).getD false
noncomputable def sigma (rec:Rec)(xs:List X)(s0:St)(E:List Nat):St:=⟨wX (qC xs) (valOf rec xs s0) s0.env E,(jz rec xs s0 (nH (nI xs) E)).heap,true⟩
theorem ajY{d:Option Nat}{v v':V}(h:∀t,d=some t->v=v'):W d v=W d v':=by
 cases d with
 |none=>rfl
 |some t=>rw[h t rfl]
theorem I7(hok:(eP rec xs s0).ok=true):∀p,p<=xs.length->(jz rec xs s0 p).env=wX (qC xs) (valOf rec xs s0) s0.env (List.range p).reverse
 | 0,_=>by simp[jz,eP,wX]
 |p+1,hp=>by
  have hx:xs[p]?=some xs[p]:=by simp
  have h1:=Uz (rec:=rec) (s0:=s0) hx;have uZ:=UA hok (p+1);rw[h1]at uZ;obtain⟨v,hv,_⟩:=NZ uZ;have hw:qC xs p=xs[p].i.wr:=by simp only[qC,hx,rY]
  have hval:∀t,xs[p].i.wr=some t->v=valOf rec xs s0 p:=by
   intro t ht;simp only[valOf,hx,ht,h1,hv];rw[zO (by simp)]
  rw[h1,hv,I7 hok p (by omega),bt,List.reverse_append]
  simp only[wX,List.reverse_singleton,List.flatMap_append,PF,List.flatMap_nil,ni,sS,hw];rw[ajY hval]
theorem N4(hok:(eP rec xs s0).ok=true){p:Nat}:∀{q:Nat},p<=q->q<=xs.length->(∀r,p<=r->r<q->nI xs r=false)->(jz rec xs s0 q).heap=(jz rec xs s0 p).heap:=by
 intro q hpq;induction hpq with
 |refl=>intro _ _;rfl
 |step h ih =>
  rename_i k;intro hk hq;have hx:xs[k]?=some xs[k]:=by simp
  have h1:=Uz (rec:=rec) (s0:=s0) hx;have uZ:=UA hok (k+1);rw[h1]at uZ;obtain⟨v,_,hh⟩:=NZ uZ;have iw:xs[k].i.quiet=true:=by
   have:=hq k h (Nat.lt_succ_self k);simpa only[nI,hx,sU,vD,Wm]using this
  rw[h1,hh iw];exact ih (by omega) (λr h1 h2=>hq r h1 (by omega))
theorem find(hok:(eP rec xs s0).ok=true)(rQ:∀p q x y,p<q->xs[p]?=some x->xs[q]?=some y->FY D R xs.length xs p q x y)
  (hR:∀k i,(k,i)∈R->UC rec (jz rec xs s0 k) i)
  {E:List Nat}(hE:∀p∈E,p<xs.length)(hclosed:∀p∈E,∀r∈D.getD p [],r∈E){j:Nat}{x:X}(hx:xs[j]?=some x)(hj:j∉E)(N5:∀r∈D.getD j [],r∈E):
  jy rec x (sigma rec xs s0 E)=sigma rec xs s0 (j::E):=by
 have ajZ:j<xs.length:=by
  rcases k9 j xs.length with h |h
  .exact h
  .simp[nN h]at hx
 have aU:∀(p:Nat)(hp:p<xs.length),xs[p]?=some xs[p]:=λp hp=>by simp[hp]
 have before:∀p,kP (masks D) p j=true->p∈E:=λp h=>ajV hclosed N5 h
 have after:∀p,kP (masks D) j p=true->p∉E:=λp h hp=>hj (ajV hclosed (hclosed p hp) h)
 have UD:∀t p q,p<xs.length->q<xs.length->qC xs p=some t->qC xs q=some t->p=q:=by
  intro t p q hp hq h1 h2;simp only[qC,aU p hp,aU q hq,rY]at h1 h2;rcases sQ p q with h |h |h
  .exact absurd h2 ((rQ p q _ _ h (aU p hp) (aU q hq)).uniq t h1)
  .exact h
  .exact absurd h1 ((rQ q p _ _ h (aU q hq) (aU p hp)).uniq t h2)
 have aj0:∀t,t∈x.slots->∀p,p<xs.length->p≠j->qC xs p=some t->kP (masks D) p j=true\/kP (masks D) j p=true:=by
  intro t ht p hp Du hw;simp only[qC,aU p hp,rY]at hw;rcases sQ p j with h |h |h
  .cases hb:kP (masks D) p j
   .exact absurd ht (((rQ p j _ _ h (aU p hp) hx).rw hb).1 t hw)
   .exact .inl rfl
  .exact absurd h Du
  .cases hb:kP (masks D) j p
   .exact absurd ht (((rQ j p _ _ h hx (aU p hp)).rw hb).2 t hw)
   .exact .inr rfl
 have Dv:∀{p k:Nat},p∈(List.range k).reverse↔p<k:=by simp
 have UE:∀k,k<=xs.length->∀p∈(List.range k).reverse,p<xs.length:=λk hk p hp=>by have:=Dv.1 hp;omega
 have aj1:∀t,t∈x.slots->cA (jz rec xs s0 j).env t=cA (sigma rec xs s0 E).env t:=by
  intro t ht;rw[I7 hok j (by omega)]
  refine Ux (n:=xs.length) (λp q hp hq h1 h2=>UD t p q hp hq h1 h2) (UE j (by omega)) hE λp hp hw=>?_
  by_cases Du:p=j
  .subst Du;exact⟨λh=>absurd (Dv.1 h) (by omega),λh=>absurd h hj⟩
  .rcases aj0 t ht p hp Du hw with h |h
   .exact⟨λ_=>before p h,λ_=>Dv.2 (N2 h)⟩
   .have:=N2 h
    exact⟨λh1=>absurd (Dv.1 h1) (by omega),λh1=>absurd h1 (after p h)⟩
 have hstep:=Uz (rec:=rec) (s0:=s0) hx;have zP:=UA hok (j+1);rw[hstep]at zP;have UF:qC xs j=x.i.wr:=by simp[qC,hx]
 have hej:nI xs j=!x.i.quiet:=by simp[nI,hx]
 have finish:∀{r:St}{v:V},r.ok=true->r.env=W x.i.wr v++(sigma rec xs s0 E).env->(∀t,x.i.wr=some t->v=valOf rec xs s0 j)->r.heap=(jz rec xs s0 (nH (nI xs) (j::E))).heap->r=sigma rec xs s0 (j::E):=by
  intro r v h1 h2 h3 h4;cases r with
  |mk e h o =>
   simp only at h1 h2 h4;subst h1;simp only[sigma,St.mk.injEq,xD];refine⟨?_,h4⟩;rw[h2,ajY h3];simp[sigma,wX,UF]
 have aj2:∀{v:V},(jy rec x (jz rec xs s0 j)).env=W x.i.wr v++(jz rec xs s0 j).env->∀t,x.i.wr=some t->v=valOf rec xs s0 j:=by
  intro v hv t ht;simp only[valOf,hx,ht,hstep,hv];rw[zO (by simp)]
 by_cases hq:x.i.quiet=true
 ·
  have N6:nH (nI xs) (j::E)=nH (nI xs) E:=by simp[nH,hej,hq]
  have direct:((jz rec xs s0 j).heap=(sigma rec xs s0 E).heap\/x.i.blind=true)->jy rec x (sigma rec xs s0 E)=sigma rec xs s0 (j::E):=by
   intro hh;obtain⟨h1,v,h2,h3,h4⟩:=UB (rec:=rec) aj1 hh zP rfl;refine finish h1 h3 (aj2 h2) ?_;rcases h4 with h4 |h4
   .rw[h4.2,N6];rfl
   .rw[hq]at h4;simp at h4
  by_cases hb:x.i.blind=true
  .exact direct (.inr hb)
  .rcases ajW (ef:=nI xs) E with h0 |⟨k,hk,hek,iz⟩
   ·
    refine direct (.inl ?_);simp only[sigma,h0];refine N4 hok (B6 _) (by omega) λr _ hr=>?_
    cases u5:nI xs r with
    |false=>rfl
    |true =>
     exfalso;have hr':r<xs.length:=by omega
     have FZ:xs[r].i.quiet=false:=by simpa only[nI,aU r hr',sU,vD,kZ]using u5
     cases wY:kP (masks D) r j with
     |true=>have:=I6 u5 (before r wY);omega
     |false=>exact hb ((rQ r j _ _ hr (aU r hr') hx).left wY FZ)
   .by_cases hkj:k<j
    .refine direct (.inl ?_)
     simp only[sigma,iz];refine N4 hok (by omega) (by omega) λr iH lM=>?_
     cases u5:nI xs r with
     |false=>rfl
     |true =>
      exfalso;have hr':r<xs.length:=by omega
      have FZ:xs[r].i.quiet=false:=by simpa only[nI,aU r hr',sU,vD,kZ]using u5
      cases wY:kP (masks D) r j with
      |true=>have:=I6 u5 (before r wY);omega
      |false=>exact hb ((rQ r j _ _ lM (aU r hr') hx).left wY FZ)
    .have hjk:j<k:=by
      have:k≠j:=λh=>hj (h▸hk)
      omega
     have aj3:=hE k hk;have hqk:xs[k].i.quiet=false:=by simpa only[nI,aU k aj3,sU,vD,kZ]using hek
     have hnb:kP (masks D) j k=false:=by
      cases Bv:kP (masks D) j k with
      |false=>rfl
      |true=>exact absurd hk (after k Bv)
     rcases(rQ j k _ _ hjk hx (aU k aj3)).right hnb hqk with h |⟨hg,hin,aj4⟩
     .exact absurd h hb
     .obtain⟨d,hd,uZ,hsame⟩:=hR _ _ hin
      have hxi:∀s,jy rec x s=aR rec x.i s:=λs=>by simp[jy,hg]
      have aj5:∀t,t∈x.slots->cA (jz rec xs s0 (k+1)).env t=cA (sigma rec xs s0 E).env t:=by
       intro t ht;rw[I7 hok (k+1) (by omega)]
       refine Ux (n:=xs.length) (λp q hp hq h1 h2=>UD t p q hp hq h1 h2) (UE (k+1) (by omega)) hE λp hp hw=>?_
       have hw':xs[p].i.wr=some t:=by simpa only[qC,aU p hp,rY]using hw
       rcases aj4 p _ t (aU p hp) hw' ht with h |h
       .have:=N2 h
        exact⟨λ_=>before p h,λ_=>Dv.2 (by omega)⟩
       .refine⟨λh1=>absurd (Dv.1 h1) (by omega),λh1=>?_⟩
        rcases aj0 t ht p hp (by omega) hw with h2 |h2
        .have:=N2 h2;omega
        .exact absurd h1 (after p h2)
      have wZ:(jz rec xs s0 (k+1)).heap=(sigma rec xs s0 E).heap:=by simp only[sigma,iz]
      rw[<-hxi]at uZ;obtain⟨h1,v,h2,h3,h4⟩:=UB (rec:=rec) aj5 (.inl wZ) uZ rfl;refine finish h1 h3 (λt ht=>?_) ?_
      .rw[hd]at ht
       have:d=t:=by simpa using ht
       subst this;rw[<-hxi,h2,zO (by rw[hd];simp),I7 hok (k+1) (by omega)]at hsame
       rw[hsame,N3 (wr:=qC xs) (p:=j) (by rw[UF,hd]) (Dv.2 (by omega)) (λq hq I5=>UD d q j (UE (k+1) (by omega) q hq) ajZ I5 (by rw[UF,hd]))]
      .rcases h4 with h4 |h4
       .rw[h4.2,N6];rfl
       .rw[hq]at h4;simp at h4
 ·
  have kg:x.i.quiet=false:=by simpa using hq
  have aj6:∀r,nI xs r=true->r≠j->r<xs.length->(r∈E↔r<j):=by
   intro r u5 hrj hr';have FZ:xs[r].i.quiet=false:=by simpa only[nI,aU r hr',sU,vD,kZ]using u5
   rcases sQ r j with h |h |h
   .refine⟨λ_=>h,λ_=>?_⟩
    cases wY:kP (masks D) r j with
    |true=>exact before r wY
    |false =>
     rcases(rQ r j _ _ h (aU r hr') hx).eff wY with h1 |h1
     .rw[FZ]at h1;simp at h1
     .rw[kg]at h1;simp at h1
   .exact absurd h hrj
   .refine⟨λhm=>?_,λhlt=>by omega⟩
    cases wY:kP (masks D) j r with
    |true=>exact absurd hm (after r wY)
    |false =>
     rcases(rQ j r _ _ h hx (aU r hr')).eff wY with h1 |h1
     .rw[kg]at h1;simp at h1
     .rw[FZ]at h1;simp at h1
  have N6:nH (nI xs) E<=j:=Uy λp hp hep=>(aj6 p hep (λh=>hj (h▸hp)) (hE p hp)).1 hp
  have wZ:(jz rec xs s0 j).heap=(sigma rec xs s0 E).heap:=by
   simp only[sigma];refine N4 hok N6 (by omega) λr iH lM=>?_
   cases u5:nI xs r with
   |false=>rfl
   |true =>
    exfalso;have:=I6 u5 ((aj6 r u5 (by omega) (by omega)).2 lM)
    omega
  obtain⟨h1,v,h2,h3,h4⟩:=UB (rec:=rec) aj1 (.inl wZ) zP rfl;refine finish h1 h3 (aj2 h2) ?_;have aj7:nH (nI xs) (j::E)=j+1:=by simp only[nH,hej,kg];simp;omega
  rw[aj7,hstep];rcases h4 with h4 |h4
  .rw[h4.1,h4.2];exact wZ.symm
  .exact h4.2.symm
end
end Go.VS
namespace Go.VS
def J.F0:List J->List (Nat×I)
 | []=>[]
 |j::r=>(match j with | .re i=>[(0,i)] |_=>[])++(J.F0 r).map λp=>((j.flat none).length+p.1,p.2)
theorem aj8{rec:Rec}:∀{js:List J}{T S:List Nat}{s s':St},J.uY true T S js=true->Ag T s s'->(fY rec js s).ok=true->∀k i,(k,i)∈J.F0 js->UC rec (jz rec (J.iy none js) s' k) i
 | [],_,_,_,_,_,_,_,_,_,h=>by simp[J.F0]at h
 |j::r,T,S,s,s',hf,ha,hok,k,i,hin=>by
  simp only[J.uY,bE]at hf;simp only[fY]at hok;simp only[J.F0,dc,gF]at hin;rcases hin with hin |⟨⟨k',i'⟩,hin,heq⟩
  .cases j with
   |re i' =>
    simp at hin;obtain⟨rfl,rfl⟩:=hin;have hj:=hf.1;simp only[J.BA,bE,Ao]at hj;obtain⟨⟨h1,h2⟩,h3⟩:=hj;have zP:=uj hok;simp only[jl,again]at zP;have hwd:i.wr=i.dst:=by cases i<;>first |rfl |simp[I.quiet]at h2
    cases hd:i.dst with
    |none=>simp[hd]at zP
    |some d =>
     simp only[hd]at zP;split at zP
     .rename_i hc
      simp only[bE]at hc;have lJ:=ha.op (rec:=rec) h1 hc.1;rw[hwd,hd]at h3;have hdT:d∉T:=by simpa using h3
      refine⟨d,by rw[hwd,hd],lJ.ok,?_⟩
      have e1:=V.uh hc.2;rw[lJ.env d hdT,ha.env d hdT]at e1;simpa[jz,eP]using e1
     .simp at zP
   |op _=>simp at hin
   |sc _ _ _ _ _=>simp at hin
  .simp only[ud]at heq
   obtain⟨rfl,rfl⟩:=heq;have hj:=ajF (rec:=rec) (g:=none) hf.1 ha (λ_ _ h=>by simp at h) trivial (uj hok)
   have ih:=aj8 hf.2 hj hok k' i' hin
   have:jz rec (J.iy none (j::r)) s' ((j.flat none).length+k')=jz rec (J.iy none r) (eP rec (j.flat none) s') k':=by
    simp only[jz,J.iy,List.take_length_add_append,yu]
   rw[this];exact ih
def A.same:A->A->Bool
 | .t n,.t m=>n==m
 | .k (.i q n),.k (.i q' n')=>q==q'&&n==n'
 |_,_=>false
theorem A.uh{a b:A}(h:A.same a b=true):a=b:=by
 unfold A.same at h;split at h
 .simp at h;rw[h]
 .simp at h;rw[h.1,h.2]
 .simp at h
def A.N7:Option A->Option A->Bool
 |none,none=>true
 |some a,some b=>A.same a b
 |_,_=>false
theorem A.aj9{a b:Option A}(h:A.N7 a b=true):a=b:=by
 unfold A.N7 at h;split at h
 .rfl
 .rw[A.uh h]
 .simp at h
def I.same:I->I->Bool
 | .sl d x l h es,.sl d' x' l' h' es'=>d==d'&&A.same x x'&&A.N7 l l'&&A.N7 h h'&&es==es'
 | .ld d x n ag,.ld d' x' n' ag'=>d==d'&&A.same x x'&&n==n'&&ag==ag'
 | .fa d x n k,.fa d' x' n' k'=>d==d'&&A.same x x'&&n==n'&&k==k'
 | .jk d x n k,.jk d' x' n' k'=>d==d'&&A.same x x'&&A.same n n'&&k==k'
 | .len d x k,.len d' x' k'=>d==d'&&A.same x x'&&k==k'
 | .p9 d n x k,.p9 d' n' x' k'=>d==d'&&n==n'&&A.same x x'&&k==k'
 |_,_=>false
theorem I.uh{a b:I}(h:I.same a b=true):a=b:=by
 unfold I.same at h;split at h
 .simp only[bE,dM]at h;obtain⟨⟨⟨⟨rfl,h2⟩,h3⟩,h4⟩,rfl⟩:=h;rw[A.uh h2,A.aj9 h3,A.aj9 h4]
 .simp only[bE,dM]at h;obtain⟨⟨⟨rfl,h2⟩,rfl⟩,rfl⟩:=h;rw[A.uh h2]
 .simp only[bE,dM]at h;obtain⟨⟨⟨rfl,h2⟩,rfl⟩,rfl⟩:=h;rw[A.uh h2]
 .simp only[bE,dM]at h;obtain⟨⟨⟨rfl,h2⟩,h3⟩,rfl⟩:=h;rw[A.uh h2,A.uh h3]
 .simp only[bE,dM]at h;obtain⟨⟨rfl,h2⟩,rfl⟩:=h;rw[A.uh h2]
 .simp only[bE,dM]at h;obtain⟨⟨⟨rfl,rfl⟩,h2⟩,rfl⟩:=h;rw[A.uh h2]
 .simp at h
def N8(ms:List Nat)(p q:Nat)(x:X):Nat->List X->Bool
 |_,[]=>true
 |r,z::zs=>(tJ z.i.wr.toList x.slots||kP ms r p||decide (q<r))&&N8 ms p q x (r+1) zs
def UG(ms:List Nat)(R:List (Nat×I))(xs:List X)(p q:Nat)(x y:X):Bool :=
 tJ x.i.wr.toList y.i.wr.toList &&
 (kP ms p q ||
  (tJ x.i.wr.toList y.slots&&tJ y.i.wr.toList x.slots&&(x.i.quiet||(y.i.quiet&&y.i.blind)) &&
   (y.i.quiet||x.i.blind||(x.g.isNone&&R.any (λr=>r.1==q+1&&I.same r.2 x.i)&&N8 ms p q x 0 xs))))
def N9(ms:List Nat)(R:List (Nat×I))(xs:List X)(p:Nat)(x:X):Nat->List X->Bool
 |_,[]=>true
 |q,y::ys=>UG ms R xs p q x y&&N9 ms R xs p x (q+1) ys
def Oa(ms:List Nat)(R:List (Nat×I))(xs:List X):Nat->List X->Bool
 |_,[]=>true
 |p,x::r=>N9 ms R xs p x (p+1) r&&Oa ms R xs (p+1) r
theorem aka{ms:List Nat}{p q:Nat}{x:X}:∀{zs:List X}{r:Nat},N8 ms p q x r zs=true->∀k z t,zs[k]?=some z->z.i.wr=some t->t∈x.slots->kP ms (r+k) p=true\/q<r+k
 | [],_,_,_,_,_,h,_,_=>by simp at h
 |z::zs,r,h,k,z',t,hz,hw,ht=>by
  simp only[N8,bE,B8,gi]at h;cases k with
  |zero =>
   simp at hz;subst hz;rcases h.1 with(h1 |h1) |h1
   .exact absurd ht (IY h1 (by rw[hw];simp))
   .exact .inl h1
   .exact .inr h1
  |succ k =>
   have:=aka h.2 k z' t (by simpa using hz) hw ht
   rwa [p8,qN 1 k]at this
theorem akb{D:List (List Nat)}{R:List (Nat×I)}{xs:List X}{p q:Nat}{x y:X}(h:UG (masks D) R xs p q x y=true):FY D R xs.length xs p q x y:=by
 simp only[UG,bE,B8]at h;obtain⟨h0,h⟩:=h;refine⟨λt hx hy=>absurd (show t∈y.i.wr.toList by rw[hy];simp) (IY h0 (by rw[hx];simp)),λhb=>?_,λhb=>?_,λhb=>?_,λhb=>?_⟩ <;>
  rw[hb]at h<;>simp only[eR,false_or]at h<;>obtain⟨⟨⟨h1,h2⟩,h3⟩,h4⟩:=h
 .exact⟨λt hx=>IY h1 (by rw[hx];simp),λt hy=>IY h2 (by rw[hy];simp)⟩
 .exact h3.imp id (·.1)
 .intro hx
  rcases h3 with h3 |h3
  .rw[hx]at h3;simp at h3
  .exact h3.2
 .intro hy
  rcases h4 with(h4 |h4) |h4
  .rw[hy]at h4;simp at h4
  .exact .inl h4
  .refine .inr ⟨by simpa using h4.1.1,?_,λr z t hz hw ht=>by simpa using aka h4.2 r z t hz hw ht⟩
   have:=h4.1.2;simp only[rV,bE,dM]at this;obtain⟨⟨k,i⟩,hin,hk,hi⟩:=this;simp only at hk hi;rw[<-I.uh hi,<-hk];exact hin
theorem akc{D:List (List Nat)}{R:List (Nat×I)}{xs:List X}{p:Nat}{x:X}:∀{ys:List X}{q:Nat},N9 (masks D) R xs p x q ys=true->∀k y,ys[k]?=some y->FY D R xs.length xs p (q+k) x y
 | [],_,_,_,_,h=>by simp at h
 |y::ys,q,h,k,y',hy=>by
  simp only[N9,bE]at h;cases k with
  |zero=>simp at hy;subst hy;exact akb h.1
  |succ k =>
   have:=akc h.2 k y' (by simpa using hy)
   rwa [p8,qN 1 k]at this
theorem akd{D:List (List Nat)}{R:List (Nat×I)}{xs:List X}:∀{ys:List X}{p:Nat},Oa (masks D) R xs p ys=true->∀i j x y,i<j->ys[i]?=some x->ys[j]?=some y->FY D R xs.length xs (p+i) (p+j) x y
 | [],_,_,_,_,_,_,_,h,_=>by simp at h
 |z::ys,p,h,i,j,x,y,hij,hx,hy=>by
  simp only[Oa,bE]at h;cases j with
  |zero=>omega
  |succ j =>
   cases i with
   |zero =>
    simp at hx;subst hx;have:=akc h.1 j y (by simpa using hy)
    rwa [p8,qN 1 j]at this
   |succ i =>
    have:=akd h.2 i j x y (by omega) (by simpa using hx) (by simpa using hy)
    rwa [p8,qN 1 i,p8,qN 1 j]at this
section
variable (P:Program)(φ:Nat->Nat)(nt:Nat)
def Dw(ops:Array Oper)(perm:List Nat)(i:Nat):List Nat :=
 match ops[i]? with
 |some o=>(o.after.toList.filter λe=>Region.binds .any e).map λe=>perm.idxOf e.on
 |none=>[]
def F1(ops:Array Oper)(perm:List Nat):Nat->List Nat->List X->Bool
 |_,[],[]=>true
 |p,i::is,x::xs=>(match ops[i]? with |some o=>cN P φ nt o x.i&&FW ops o x&&o.after.all (λe=>decide (e.on<ops.size)) |none=>false)&&(Dw ops perm i).all (·<p)&&F1 ops perm (p+1) is xs
 |_,_,_=>false
def Ob(ops:Array Oper)(perm:List Nat)(js:List J):Bool :=
 J.uY true [] [] js&&perm.length==ops.size&&decide perm.Nodup&&(List.range ops.size).all (perm.contains ·)&&F1 P φ nt ops perm 0 perm (J.iy none js) &&
  Oa (masks (perm.map (Dw ops perm))) (J.F0 js) (J.iy none js) 0 (J.iy none js)
variable {P φ nt}
theorem ake{ops:Array Oper}{perm:List Nat}:∀{is:List Nat}{xs:List X}{p:Nat},F1 P φ nt ops perm p is xs=true->is.length=xs.length /\
  ∀k i x,is[k]?=some i->xs[k]?=some x->(∃o,ops[i]?=some o/\cN P φ nt o x.i=true/\FW ops o x=true/\∀e∈o.after,e.on<ops.size)/\∀r∈Dw ops perm i,r<p+k
 | [],[],p,_=>⟨rfl,λk i x h=>by simp at h⟩
 |i::is,x::xs,p,h=>by
  simp only[F1,bE]at h;obtain⟨⟨h1,h2⟩,h3⟩:=h;obtain⟨hl,ih⟩:=ake h3;refine⟨by simp[hl],λk i' x' hi hx=>?_⟩
  cases k with
  |zero =>
   simp at hi hx;subst hi;subst hx;refine⟨?_,by simpa using h2⟩
   split at h1
   .rename_i o ho
    simp only[bE,Array.all_eq_true_iff_forall_mem,gi]at h1;exact⟨o,ho,h1.1.1,h1.1.2,h1.2⟩
   .simp at h1
  |succ k =>
   have:=ih k i' x' (by simpa using hi) (by simpa using hx)
   rwa [p8,qN 1 k]at this
 | [],_::_,_,h=>by simp[F1]at h
 |_::_,[],_,h=>by simp[F1]at h
end
end Go.VS
namespace Go.VS
section
variable {P:Program}{φ:fy}
variable {nt m dB:Nat}{s:St}{g:Gh}{a:Act}{w:World}{K:Act->World->Prop}{Q:Exit->Act->World->Prop}{o:Oper}{ops:Array Oper}{r:Option Nat}{n:Nat}
theorem cm.congr{s':St}(hs:cm φ nt m dB s' g a w)(he:∀t,cA s.env t=cA s'.env t)(hh:s.heap=s'.heap):cm φ nt m dB s g a w where
 env k:=by rw[he,hh];exact hs.env k
 heap:=by rw[hh];exact hs.heap
 size:=hs.size
 defers:=by rw[hh];exact hs.defers
 len:=by rw[hh];exact hs.len
theorem cm.forget(hs:cm φ nt m dB s g a w)(fl:List Nat)(ok:Bool):cm φ nt m dB ⟨pI fl s.env,s.heap,ok⟩ g a w where
 env k:=by
  simp only[FU];split
  .simp[aJ]
  .exact hs.env k
 heap:=hs.heap
 size:=hs.size
 defers:=hs.defers
 len:=hs.len
theorem cm.drew(hs:cm φ nt m dB s g a w):cm φ nt m dB s g a w.drew/\Frame m s.heap g w s.heap g w.drew:=by
 have hg:=gM.drew w;refine⟨?_,?_⟩
 .have:=hs.Ns (I':=g.I) hg (λ_ _=>rfl) (λb hb=>hs.heap.new b hb)
  exact this
 .exact Dc m hs.heap hg (λ_ _=>rfl)
structure akf(P:Program)(φ:fy)(nt:Nat)(ops:Array Oper)(perm:List Nat)(xs:List X):Prop where
 len:perm.length=ops.size
 nodup:perm.Nodup
 has:∀i,i<ops.size->i∈perm
 UH:perm.length=xs.length
 place:∀k i x,perm[k]?=some i->xs[k]?=some x->(∃o,ops[i]?=some o/\cN P φ nt o x.i=true/\FW ops o x=true/\∀e∈o.after,e.on<ops.size)/\∀r∈Dw ops perm i,r<k
def F2(ops:Array Oper)(perm:List Nat):List (List Nat):=perm.map (Dw ops perm)
theorem akg{perm:List Nat}{p i:Nat}(h:perm[p]?=some i):(F2 ops perm).getD p []=Dw ops perm i:=by
 simp[F2,List.getD,h]
structure Oc(φ:fy)(nt m dB:Nat)(ops:Array Oper)(perm:List Nat)(rec:Rec)(xs:List X)(s0:St)(g0:Gh)(w0:World)(fuel:Nat)(listed:Array Bool)(a:Act)(w:World)(E Rm:List Nat)(g:Gh):Prop where
 size:listed.size=ops.size
 nJ:∀p i,perm[p]?=some i->(p∈E↔listed.getD i false=true)
 lt:∀p∈E,p<xs.length
 closed:∀p∈E,∀r∈(F2 ops perm).getD p [],r∈E
 rest:∀p,p<xs.length->p∉E->p∈Rm
 fuel:Rm.length<=fuel
 rel:cm φ nt m dB (sigma rec xs s0 E) g a w
 frame:Frame m s0.heap g0 w0 (sigma rec xs s0 E).heap g w
theorem Od{perm:List Nat}(h:perm.Nodup){p i:Nat}(hp:perm[p]?=some i):perm.idxOf i=p:=by
 have hlt:p<perm.length:=by
  rcases k9 p perm.length with h1 |h1
  .exact h1
  .simp[nN h1]at hp
 have he:perm[p]=i:=by simpa[qM hlt]using hp
 rw[<-he];exact PA h p hlt
theorem akh{rec:Rec}(hq:l7 P φ rec)(hy:tH P φ rec){perm:List Nat}{xs:List X}{s0:St}{g0:Gh}{w0:World}{R:List (Nat×I)}(hO:akf P φ nt ops perm xs)
  (hok:(eP rec xs s0).ok=true)(rQ:∀p q x y,p<q->xs[p]?=some x->xs[q]?=some y->FY (F2 ops perm) R xs.length xs p q x y)
  (hR:∀k i,(k,i)∈R->UC rec (jz rec xs s0 k) i)(hQ:Post φ nt m dB s0 g0 w0 (eP rec xs s0) (Q .normal)):
  ∀(fuel:Nat)(listed:Array Bool)(a:Act)(w:World)(E Rm:List Nat)(g:Gh),Oc φ nt m dB ops perm rec xs s0 g0 w0 fuel listed a w E Rm g->wpAnyIn (Wd r) n P .any ops Q fuel listed a w:=by
 have Oe:∀i,i<ops.size->∃p,perm[p]?=some i/\p<xs.length:=by
  intro i hi;obtain⟨p,hp,he⟩:=sR (hO.has i hi);exact⟨p,by simp[hp,he],by rw[<-hO.UH];exact hp⟩
 have aU:∀(p:Nat)(hp:p<xs.length),xs[p]?=some xs[p]:=λp hp=>by simp[hp]
 have aki:∀(p:Nat),p<xs.length->∃i,perm[p]?=some i:=λp hp=>by
  have:p<perm.length:=by rw[hO.UH];exact hp
  exact⟨perm[p],by simp[this]⟩
 have akj:∀{fuel:Nat}{listed:Array Bool}{a:Act}{w:World}{E Rm:List Nat}{g:Gh},Oc φ nt m dB ops perm rec xs s0 g0 w0 fuel listed a w E Rm g->∀{p i:Nat}{o:Oper},perm[p]?=some i->p<xs.length->ops[i]?=some o ->
   ((∀e∈o.after,Region.binds .any e=true->listed.getD e.on false=true)↔∀r∈(F2 ops perm).getD p [],r∈E):=by
  intro fuel listed a w E Rm g inv p i o hp hpx ho;rw[akg hp];simp only[Dw,ho];have UI:∀e∈o.after,e.on<ops.size:=by
   obtain⟨⟨o',ho',_,_,h⟩,_⟩:=hO.place p i xs[p] hp (aU p hpx);rw[ho]at ho';simp at ho';subst ho';exact h
  constructor
  .intro h r hr
   simp only[gF,pe,Wy]at hr;obtain⟨e,⟨he,hb⟩,rfl⟩:=hr;obtain⟨q,mV,Bf⟩:=Oe e.on (UI e he);rw[Od hO.nodup mV];exact(inv.nJ q e.on mV).2 (h e he hb)
  .intro h e he hb
   obtain⟨q,mV,Bf⟩:=Oe e.on (UI e he);have:=h q (by
    simp only[gF,pe,Wy];exact⟨e,⟨he,hb⟩,Od hO.nodup mV⟩)
   exact(inv.nJ q e.on mV).1 this
 have done:∀{fuel:Nat}{listed:Array Bool}{a:Act}{w:World}{E Rm:List Nat}{g:Gh},Oc φ nt m dB ops perm rec xs s0 g0 w0 fuel listed a w E Rm g->(∀p,p<xs.length->p∈E)->Q .normal a w:=by
  intro fuel listed a w E Rm g inv hall;have hmem:∀p,p<xs.length->(p∈(List.range xs.length).reverse↔p∈E):=λp hp=>⟨λ_=>hall p hp,λ_=>by simpa using hp⟩
  have hu:∀t p q,p<xs.length->q<xs.length->qC xs p=some t->qC xs q=some t->p=q:=by
   intro t p q hp hq h1 h2;simp only[qC,aU p hp,aU q hq,rY]at h1 h2;rcases sQ p q with h |h |h
   .exact absurd h2 ((rQ p q _ _ h (aU p hp) (aU q hq)).uniq t h1)
   .exact h
   .exact absurd h1 ((rQ q p _ _ h (aU q hq) (aU p hp)).uniq t h2)
  have wZ:(eP rec xs s0).heap=(sigma rec xs s0 E).heap:=by
   rw[<-ajX (rec:=rec) (xs:=xs) (s0:=s0)];simp only[sigma];refine N4 hok (Uy λp hp _=>inv.lt p hp) (gj _) λr h1 h2=>?_
   cases u5:nI xs r with
   |false=>rfl
   |true=>have:=I6 u5 (hall r h2);omega
  refine hQ g a w (inv.rel.congr (λt=>?_) wZ) (by rw[wZ];exact inv.frame)
  rw[<-ajX (rec:=rec) (xs:=xs) (s0:=s0),I7 hok _ (gj _)];exact Ux (n:=xs.length) (λp q hp hq=>hu t p q hp hq) (λp hp=>by simpa using hp) inv.lt λp hp _=>hmem p hp
 have empty:∀{fuel:Nat}{listed:Array Bool}{a:Act}{w:World}{E Rm:List Nat}{g:Gh},Oc φ nt m dB ops perm rec xs s0 g0 w0 fuel listed a w E Rm g->Region.ready .any ops listed=[]->Q .normal a w:=by
  intro fuel listed a w E Rm g inv hr;refine done inv λp=>?_
  induction p using Nat.strongRecOn with
  |_ p ih =>
   intro hp;apply vE;intro hne;obtain⟨i,hi⟩:=aki p hp;obtain⟨⟨o,ho,_⟩,hd⟩:=hO.place p i xs[p] hi (aU p hp);have hun:listed.getD i true=false:=by
    have hsz:i<listed.size:=by rw[inv.size];exact(Ec.1 ho).1
    cases h1:listed.getD i true with
    |false=>rfl
    |true =>
     exfalso;apply hne;rw[inv.nJ p i hi];simpa[hsz]using h1
   have:i∈Region.ready .any ops listed:=mem_ready.2 ⟨hun,o,ho,(akj inv hi hp ho).2 λr hr=>by
    rw[akg hi]at hr;have:=hd r hr;exact ih r this (by omega)⟩
   rw[hr]at this;simp at this
 intro fuel;induction fuel with
 |zero =>
  intro listed a w E Rm g inv;have hall:∀p,p<xs.length->p∈E:=by
   intro p hp;apply vE;intro hne;have h1:=inv.rest p hp hne;have h2:=inv.fuel
   have:Rm=[]:=by simpa using h2
   rw[this]at h1;simp at h1
  refine⟨?_,done inv hall⟩;rw[List.eq_nil_iff_forall_not_mem];intro i hi;obtain⟨hun,o,ho,_⟩:=mem_ready.1 hi;obtain⟨p,hp,hpx⟩:=Oe i (Ec.1 ho).1;have h1:=(inv.nJ p i hp).1 (hall p hpx);have hsz:i<listed.size:=by rw[inv.size];exact(Ec.1 ho).1
  simp[hsz]at hun h1;rw[hun]at h1;simp at h1
 |succ fuel ih =>
  intro listed a w E Rm g inv;refine⟨empty inv,λi hi=>?_⟩
  obtain⟨hun,o,ho,hall⟩:=mem_ready.1 hi;obtain⟨j,hj,I8⟩:=Oe i (Ec.1 ho).1;obtain⟨⟨o',ho',akk,akl,UI⟩,hd⟩:=hO.place j i xs[j] hj (aU j I8);rw[ho]at ho';simp at ho';subst ho';have hsz:i<listed.size:=by rw[inv.size];exact(Ec.1 ho).1
  have hjE:j∉E:=by
   intro h;have:=(inv.nJ j i hj).1 h;simp[hsz]at this hun;rw[hun]at this;simp at this
  have N5:=(akj inv hj I8 ho).1 hall;have hfind:=find hok rQ hR inv.lt inv.closed (aU j I8) hjE N5;have next:∀g' a' w',cm φ nt m dB (jy rec xs[j] (sigma rec xs s0 E)) g' a' w'->Frame m (sigma rec xs s0 E).heap g w (jy rec xs[j] (sigma rec xs s0 E)).heap g' w' ->
    wpAnyIn (Wd r) n P .any ops Q fuel (listed.setIfInBounds i true) a' w':=by
   intro g' a' w' hs' hf';rw[hfind]at hs' hf';refine ih _ a' w' (j::E) (Rm.filter (·≠j)) g' ⟨by simp[inv.size],λp i' hp=>?_,λp hp=>?_,λp hp r hr=>?_,λp hp I4=>?_,?_,hs',inv.frame.trans hf'⟩
   .by_cases Du:p=j
    .subst Du
     have:i'=i:=by rw[hj]at hp;simpa using hp.symm
     subst this;simp[hsz]
    .have hne:i≠i':=by
      intro h;subst h;have h1:=Od hO.nodup hj;have h2:=Od hO.nodup hp;omega
     rw[getD_set_ne false hne,dA,inv.nJ p i' hp];simp[Du]
   .rcases dA.1 hp with h |h
    .subst h;exact I8
    .exact inv.lt p h
   .rcases dA.1 hp with h |h
    .subst h;exact vA _ (N5 r hr)
    .exact vA _ (inv.closed p h r hr)
   .simp only[dA,nQ]at I4
    rw[pe];exact⟨inv.rest p hp I4.2,by simpa using I4.1⟩
   .have hlen:(Rm.filter (·≠j)).length<Rm.length:=List.length_filter_lt_length_iff_exists.2 ⟨j,inv.rest j I8 hjE,by simp⟩
    have:=inv.fuel;omega
  have uZ:(jy rec xs[j] (sigma rec xs s0 E)).ok=true:=by rw[hfind];rfl
  have uX:=ajH akk;unfold wpOpIn;simp only[ho];have hG:=ajJ (K:=wpAnyIn (Wd r) n P .any ops Q fuel (listed.setIfInBounds i true)) (X:=o.wpIn (Wd r) n P a w (wpAnyIn (Wd r) n P .any ops Q fuel (listed.setIfInBounds i true)) Q) inv.rel akl uX.1 uX.2 uZ
   (λhe hk=>ajx hq hy inv.rel akk hk λg' v' w' hs' hf=>next g' _ w' (by rw[he];exact hs') (by rw[he];exact hf))
   (λhe hs'=>next g _ w (by rw[he];exact hs') (by rw[he];exact Frame.refl _ _ _ _))
  split
  .rename_i hw;rw[aK hw]at hG;exact hG
  .rename_i hw;rw[aE hw]at hG;exact⟨λ_ _=>trivial,hG⟩
theorem akm{perm:List Nat}{js:List J}(h:Ob P φ nt ops perm js=true):J.uY true [] [] js=true/\akf P φ nt ops perm (J.iy none js) /\
  ∀p q x y,p<q->(J.iy none js)[p]?=some x->(J.iy none js)[q]?=some y->FY (F2 ops perm) (J.F0 js) (J.iy none js).length (J.iy none js) p q x y:=by
 simp only[Ob,bE,gi,dM]at h;obtain⟨⟨⟨⟨⟨h1,h2⟩,h3⟩,h8⟩,h4⟩,h5⟩:=h;obtain⟨h6,h7⟩:=ake h4;refine⟨h1,⟨h2,h3,λi hi=>by simpa using yO.1 h8 i (J7.2 hi),h6,λk i x hk hx=>?_⟩,λp q x y hpq hx hy=>?_⟩
 .have:=h7 k i x hk hx
  rwa [nP]at this
 .have:=akd h5 p q x y hpq hx hy
  rwa [nP,nP]at this
theorem akn{rec:Rec}(hm:P.follows .mixedOrders=true)(hq:l7 P φ rec)(hy:tH P φ rec){fl perm:List Nat}{js:List J}(hs:cm φ nt m dB s g a w)(hc:Ob P φ nt ops perm js=true)
  (hok:(fY rec js ⟨pI fl s.env,s.heap,s.ok⟩).ok=true){id:Nat}(hQ:Post φ nt m dB s g w (fY rec js ⟨pI fl s.env,s.heap,s.ok⟩) (Q .normal)):(Code.region id ops true).wpIn (Wd r) n P Q a w:=by
 obtain⟨hf,hO,rQ⟩:=akm hc;have hs0:=(hs.forget fl s.ok).drew;have lJ:=N0 (rec:=rec) (g:=none) hf (Ag.refl (uj hok)) (λ_ _ h=>by simp at h) trivial hok
 have hre:=aj8 (rec:=rec) hf (Ag.refl (uj hok)) hok;refine wpIn_region_any hm ?_;refine akh (m:=m) (s0:=⟨pI fl s.env,s.heap,s.ok⟩) (g0:=g) (w0:=w.drew) hq hy hO lJ.ok rQ hre (λg' a' w' hs' hfr=>hQ g' a' w' (hs'.low lJ) ?_)
  ops.size _ a w.drew [] (List.range ops.size) g ⟨by simp,λp i hp=>?_,by simp,by simp,λp hp _=>?_,by simp,?_,?_⟩
 .rw[lJ.heap]
  exact hs0.2.trans hfr
 .simp only[PG,false_iff]
  rcases k9 i ops.size with h |h<;>simp[h]
 .rw[J7,<-hO.len,hO.UH];exact hp
 .exact hs0.1.congr (λt=>rfl) (by simp[sigma,nH,jz,eP])
 .have:(sigma rec (J.iy none js) ⟨pI fl s.env,s.heap,s.ok⟩ []).heap=s.heap:=by simp[sigma,nH,jz,eP]
  rw[this];exact Frame.refl _ _ _ _
end
end Go.VS
namespace Go.VS
def C.lQ:C->Bool
 | .seq a b=>a.lQ&&b.lQ
 | .ite _ a b=>a.lQ&&b.lQ
 | .bY _ a=>a.lQ
 | .loop _ a=>a.lQ
 | .qU ..=>false
 |_=>true
section
variable (P:Program)(φ:Nat->Nat)(nt:Nat)
def nK:Code->C->Bool
 | .skip,.skip=>true
 | .label _,.skip=>true
 | .ret,.ret=>true
 | .exit i,.exit j=>i==j
 | .region _ ops draw,.cq js=>!draw&&J.uY true [] [] js&&Dt P φ nt ops ops.toList (J.iy none js)
 | .region _ ops draw,.lu _ perm js=>draw&&Ob P φ nt ops perm js
 | .seq x y,.seq a b=>nK x a&&nK y b
 | .cond c x y,.ite d a b=>dP φ c d&&nK x a&&nK y b
 | .block i x,.bY j a=>i==j&&nK x a
 | .loop x,.loop _ a=>nK x a
 | .rangeFunc f ps x y,.qU g _ ps' a b=>dP φ f g&&ps.toList==ps'&&(decide ps'.Nodup&&ps'.all (λp=>decide (p<nt))&&a.lQ&&b.lQ&&nK x a&&nK y b)
 | .scope x,.seq .skip a=>nK x a
 |x,.seq a (.oD _)=>nK x a
 |x,.seq (.oD _) a=>nK x a
 |x,.seq (.keep _) a=>nK x a
 |x,.seq (.xE _ _) a=>nK x a
 |_,_=>false
termination_by structural _ c=>c
def Of(ps:List Nat)(a b:C)(x y:Code)(nt:Nat):Bool:=decide ps.Nodup&&ps.all (λp=>decide (p<nt))&&a.lQ&&b.lQ&&nK P φ nt x a&&nK P φ nt y b
end
section
variable {P:Program}{φ:fy}
variable {nt m dB:Nat}{s:St}{g:Gh}{a:Act}{w:World}{Q:Exit->Act->World->Prop}{r:Option Nat}{n:Nat}
def BB:Ex->Exit
 | .normal=>.normal
 | .exit id=>.exit id
 | .ret=>.ret
def Dx(P:Program)(φ:fy)(rec:Rec):Prop :=
 ∀(nt m dB:Nat)(live:List Nat)(x:Code)(c:C)(env:List (Nat×V))(h:List O)(e:Ex)(env':List (Nat×V))(h':List O),nK P φ nt x c=true ->
  rec (.loop m live c env h)=some (.out e env' h')->∀(n:Nat)(r:Option Nat),(r=none\/c.lQ=true)->∀(g:Gh)(a:Act)(w:World)(Q:Exit->Act->World->Prop),cm φ nt m dB ⟨env,h,true⟩ g a w ->
   Post φ nt m dB ⟨env,h,true⟩ g w ⟨env',h',true⟩ (Q (BB e))->(Code.loop x).wpIn (Wd r) n P Q a w
def w7(P:Program)(φ:fy):Prop:=∀ps A B x y nt,φ.lk ps A B x y nt↔Of P φ ps A B x y nt=true
theorem Post.mono{s':St}{R R':Act->World->Prop}(h:Post φ nt m dB s g w s' R)(hr:∀a w,R a w->R' a w):Post φ nt m dB s g w s' R':=λg' a' w' h1 h2=>hr _ _ (h g' a' w' h1 h2)
theorem ako{h:List O}{b o es:Nat}{rows:List (List V)}(hr:gC φ h g w b o (.gK es rows)):gC φ h g w b o (eK es rows):=by
 unfold eK;split
 .rename_i ds hds
  have he:=Fy hds;obtain⟨h1,h2,h3⟩:=hr;refine⟨by rw[he]at h1;simpa using h1,uT λr row hrow=>?_,by simpa using h3⟩
  have oS:rows[r]?=some (row.map V.d):=by rw[he];simp[hrow]
  obtain⟨k1,k2⟩:=h2 r _ oS;refine⟨by simpa using k1,wj λj c hj=>?_⟩
  obtain⟨x,hx,hx1,mE⟩:=k2 j (.d c) (by simp[hj])
  exact⟨x,hx,hx1,by simpa only[aJ]using mE⟩
 .exact hr
theorem akp:∀(ns:List Nat){h:List O}{n es:Nat}{rows:List (List V)},aU h n = .gK es rows->aU (aX h ns) n = .gK es rows:=by
 intro ns h n es rows hn;rcases NN ns (h:=h) (k:=n)with⟨h1,_⟩ |⟨es',ex,iE,h1,_⟩
 .rw[h1];exact hn
 .rw[hn]at h1;simp at h1
theorem akq(hs:cm φ nt m dB s g a w){k:Nat}{p:V}{v:Value}(hp:aJ φ s.heap g w p v){h1:List O}(hz:Ck s.heap k p=some h1):
  ∃g',cm φ nt m dB ⟨s.env,h1,s.ok⟩ g' a w/\Frame m s.heap g w h1 g' w:=by
 unfold Ck at hz;split at hz
 .rename_i n r c
  split at hz
  .simp at hz;subst hz;exact⟨g,⟨hs.env,hs.heap,hs.size,hs.defers,hs.len⟩,Frame.refl _ _ _ _⟩
  .rename_i es rows hn
   split at hz
   .rename_i row hrow
    split at hz
    .rename_i cv v8
     simp only[gJ]at hz;obtain⟨x,hx,rfl⟩:=hz;obtain⟨I',k1,k2,k3⟩:=hs.frozen cv.dn s.ok;have hn2:=akp cv.dn hn;have kN:(aU (aX s.heap cv.dn) n).live=true:=by rw[hn2];rfl
     have dF:=k1.heap.obj n;simp only[hn2]at dF;have hdx:∀{u:Value},aJ φ (aX s.heap cv.dn) (g.eo I') w cv u->bQ φ I' w x u:=λhu=>by
      exact ZG k1.heap (ZJ _ _) (by rw[ZH (ZI _ _)];exact hx) hu
     have hnew:gC φ (aX s.heap cv.dn) (g.eo I') w (g.β n) (g.o n) (.gK es (rows.set r (row.set (c+k) (.d x)))):=by
      obtain⟨q1,q2,q3⟩:=dF;refine⟨by rw[List.length_set];exact q1,λr2 akr lM=>?_,q3⟩
      rw[J']at lM;split at lM
      .rename_i dV
       subst dV;split at lM
       .simp at lM
        subst lM;obtain⟨p1,p2⟩:=q2 r row hrow;refine⟨by simpa using p1,λj cc hj=>?_⟩
        rw[J']at hj;split at hj
        .rename_i hjj
         split at hj
         .simp at hj
          subst hj;subst hjj;obtain⟨u,u1,u2,u3⟩:=p2 (c+k) cv v8;exact⟨u,u1,u2,by simp only[aJ];exact hdx u3⟩
         .simp at hj
        .exact p2 j cc hj
       .simp at lM
      .exact q2 r2 akr lM
     have jH:(eK es (rows.set r (row.set (c+k) (.d x)))).gL=some es/\(eK es (rows.set r (row.set (c+k) (.d x)))).len=rows.length/\(∀kv,eK es (rows.set r (row.set (c+k) (.d x)))≠.mp kv)/\(eK es (rows.set r (row.set (c+k) (.d x)))).tB=false:=by
      unfold eK;split
      .rename_i ds hds
       have:=congrArg List.length (Fy hds);simp at this;exact⟨rfl,by simp[O.len,<-this],by simp,rfl⟩
      .exact⟨rfl,by simp[O.len],by simp,rfl⟩
     generalize hmk:eK es (rows.set r (row.set (c+k) (.d x)))=mk at *;have hle:=wv (x:=mk) (w':=w) (I':=I') k1.heap kN (jU.refl _ _) (Ext.refl _ _) (λes' he'=>by
       rw[jH.1]at he';simp at he';subst he';exact⟨by rw[hn2];rfl,by rw[jH.2.1,hn2];rfl,nC.of_eq rfl⟩) (λkv hk=>absurd hk (jH.2.2.1 kv)) (λhh=>by rw[jH.2.2.2]at hh;simp at hh)
     have TX:gC φ ((aX s.heap cv.dn).set n mk) (g.eo I') w (g.β n) (g.o n) mk:=by
      have:=Da hle (g':=g.eo I') rfl rfl hnew;have h2:=ako this;rw[hmk]at h2;exact h2
     have hH:=wx (x:=mk) k1.heap kN (jU.refl _ _) hle (λ_ _=>rfl) TX
     refine⟨g.eo I',k1.yd kN (jU.refl _ _) hle hH,k3.trans (wy mk kN (jU.refl _ _) (Ext.refl _ _) (λ_ _=>rfl) hle)⟩
    .simp at hz
   .simp at hz
  .simp at hz
 .simp at hz
theorem aks{rec:Rec}(hq:l7 P φ rec){ps:List Nat}{A B:C}{x y:Code}(hlk:φ.lk ps A B x y nt){f:Operand}{gx:VS.A}(hf:dP φ f gx=true)(hs:cm φ nt m dB s g a w){I9:Array Tmp}(hps:I9=ps.toArray)
  {live:List Nat}{v2:V}{h2:List O}(oT:lX (az rec (s.heap++[.lp ps A B .normal (jP live s.env)])) (s.get gx) [.jj s.heap.length]=some (v2,h2))
  {ps2:List Nat}{A2 B2:C}{e:Ex}{akt:List (Nat×V)}(iJ:aU h2 s.heap.length = .lp ps2 A2 B2 e akt)
  (hQ:Post φ nt m dB s g w ⟨s.env,h2.set s.heap.length .dead,s.ok⟩ (Q (BB e))):(Code.rangeFunc f I9 x y).wpIn (Wd none) n P Q a w:=by
 refine wpIn_rangeFunc λfn _=>?_
 let Ja:Loop:={state:=.ready,pending:=none,fn,tmps:=a.tmps,params:=I9,assign:=x,body:=y,defers:=w.heap.size}
 obtain⟨w1,hw1⟩:∃w1,w1=(w.alloc (.deferred (some []))).alloc (.loop Ja):=⟨_,rfl⟩;have hg:gM w w1:=by rw[hw1];exact(gM.alloc w _).trans (gM.alloc _ _)
 have hsz:w1.heap.size=w.heap.size+2:=by rw[hw1];simp
 have pN:w1.heap[w.heap.size+1]?=some (.loop Ja):=by
  rw[hw1];have:=World.alloc_heap_new (w.alloc (.deferred (some []))) (.loop Ja);rwa [World.size_alloc]at this
 have hD1:w1.heap[w.heap.size]?=some (.deferred (some [])):=by
  rw[hw1,(gM.alloc (w.alloc (.deferred (some []))) (.loop Ja)).same _ (by simp)];exact World.alloc_heap_new w _
 have aku:(Instr.enterLoop fn a.tmps I9 x y none).run P w = .ok (w.heap.size+1,[{target:=.collected w.heap.size,args:=#[]}]) w1:=by
  rw[hw1];exact run_enterLoop_outer _ _ _ _ _
 obtain⟨kQ,BC⟩:∃kQ,kQ=s.heap++[.lp ps A B .normal (jP live s.env)]:=⟨_,rfl⟩;obtain⟨g1,Bu⟩:∃g1,g1=g.add s.heap.length (w.heap.size+1) 0 g.I:=⟨_,rfl⟩;have hnew:∀b,w1.heap.size<=b->g.I b=0:=λb hb=>hs.heap.new b (by omega)
 have jV:gU s.heap g w kQ g1 w1:=by rw[BC,Bu];exact zE _ hs.heap hg (λ_ _=>rfl)
 have rO:eX φ kQ g1 w1:=by
  have dF:gC φ kQ g1 w1 (w.heap.size+1) 0 (.lp ps A B .normal (jP live s.env)):=by
   refine⟨Ja,nt,pN,hps,hlk,hs.size,λp hp=>?_,rfl,rfl,?_⟩
   .simp only[jP,gF]at hp
    obtain⟨t,_,rfl⟩:=hp;exact lI jV (hs.env t)
   .rw[Bu];exact hs.heap.new _ (by omega)
  rw[BC,Bu]at dF⊢;exact YR hs.heap hg (λ_ _=>rfl) hnew (by omega) dF
 have pY:Frame m s.heap g w kQ g1 w1:=by rw[BC,Bu];exact Tp _ hs.heap hg (λ_ _=>rfl) (by omega) hs.len
 have TZ:kQ.length=s.heap.length+1:=by rw[BC];simp
 have akv:aU kQ s.heap.length = .lp ps A B .normal (jP live s.env):=by rw[BC,Dd]
 have IV:g1.β s.heap.length=w.heap.size+1:=by rw[Bu];simp[Gh.add]
 have zT:∀k,(aU kQ k).live=true->g1.β k≠w.heap.size:=by
  intro k hk;rcases sQ k s.heap.length with hlt |rfl |hgt
  .rw[BC,pQ hlt]at hk
   have:=hs.heap.block hk;rw[Bu];simp[Gh.add,Nat.ne_of_lt hlt];omega
  .rw[IV];omega
  .rw[BC,uV hgt]at hk;simp[O.live]at hk
 obtain⟨a',ha'⟩:∃a':Act,a'={a with defers:=[{target:=.collected w.heap.size,args:=#[]}]++a.defers}:=⟨_,rfl⟩;have hD:mH dB kQ g1 a'.defers w1:=by
  have h0:=hs.defers.frame pY;rw[ha'];refine⟨λd hd=>?_,?_,h0.le⟩
  .simp only[rZ,mu,dA]at hd
   rcases hd with rfl |hd
   .exact⟨_,rfl,hs.defers.le,hD1,zT⟩
   .exact h0.at_ d hd
  .simp only[rZ,mu,Eb]
   refine⟨λhd=>?_,h0.nodup⟩
   obtain⟨D,e1,_,e3,_⟩:=hs.defers.at_ _ hd;have:=Bl e3;simp at e1;omega
 have tD:cm φ nt m dB ⟨s.env,kQ,s.ok⟩ g1 a' w1:=by
  have hm:m<=kQ.length:=by have:=hs.len;omega
  rw[ha']at hD⊢;exact⟨λk=>lI jV (hs.env k),rO,hs.size,hD,hm⟩
 have key:∀{F:Nat}{A' B':Array Value}{zs:List V},a.eval f = .func (.func (φ F)) A' B'->az rec kQ F zs=some (v2,h2) ->
   bR φ kQ g1 w1 zs (A'.toList++[Value.func (.yield (w.heap.size+1)) #[] #[]]++B'.toList) ->
   ∃(l:Nat)(mark:List Deferred)(w₁:World)(d:Deferred)(w₁':World)(f_1:FuncId)(args:Array Value)(w₂:World),
   (Instr.enterLoop fn a.tmps I9 x y (Wd none).round).run P w = .ok (l,mark) w₁ /\
   (resolve a.eval (rangeCall f l) 0).run P w₁ = .ok d w₁' /\
   (∀f',Target.leads P w₁' d.target d.args=some f'->(Wd none).fn f') /\
   (invoke d.target d.args).run P w₁' = .ok (.enter f_1 args) w₂ /\
   ((Wd none).depth.isSome=true->1<=n) /\
   CallsIn (Wd none) (n - 1) P f_1 args w₂ (rangePost (Wd none) n P l Q {a with defers:=mark++a.defers}):=by
  intro F A' B' zs he Jb hzs;obtain⟨L,v,h1',hL,gV,hlen,rfl,rfl⟩:=ZP Jb;obtain⟨hnd,yp,bN,_,_⟩:=Dq hL;obtain⟨⟨fn',hfn,hn,hb⟩,akw⟩:=hq F _ _ v h1' gV;have akx:bR φ kQ g1 w1 zs (A'++#[Value.func (.yield (w.heap.size+1)) #[] #[]]++B').toList:=by simpa using hzs
  refine⟨w.heap.size+1,[{target:=.collected w.heap.size,args:=#[]}],w1,{target:=.fn (.func (φ F)) B',args:=A'++#[Value.func (.yield (w.heap.size+1)) #[] #[]]},w1,φ F,
   A'++#[Value.func (.yield (w.heap.size+1)) #[] #[]]++B',w1,aku,?_,λ_ _=>trivial,?_,NU,ajk ?_⟩
  .have ec:∀v,a.eval (.const v)=v:=λ_=>rfl
   simp[resolve,rangeCall,he,Deferred.ofValue,ec]
  .simp only[invoke];exact NC hfn hn hb
  .refine Calls.mono (akw (iI g1 L) w1 _ (FJ hL rO) (ym yp akx)) λe' w' hh=>?_
   obtain⟨v',g2,rfl,TY,_,hfr⟩:=hh;rw[yl]at hfr;have M:jW φ kQ L g1 w1 h1' g2 w':=⟨rO,hnd,λn hn=>(bN n hn).1,hlen,TY,hfr⟩
   have hm:m<=kQ.length:=tD.len;have hMF:=M.frame hm;have IL:cm φ nt m dB ⟨s.env,mK kQ L h1',s.ok⟩ (jJ kQ L g1 g2) a' w':=⟨λk=>lI M.hle (tD.env k),M.gf,tD.size,tD.defers.frame hMF,ng hm M.hle.len⟩
   have Bv:(jJ kQ L g1 g2).β s.heap.length=w.heap.size+1:=by
    have:s.heap.length<kQ.length:=by omega
    simp[jJ,this,IV]
   have dF:=M.gf.obj s.heap.length;rw[iJ,Bv]at dF;obtain⟨rc,nt2,k1,_,_,_,_,k5,k6,_⟩:=dF;have aky:rc.state≠.busy:=by rw[k5];split<;>simp
   have hend:=run_endLoop (P:=P) k1 aky;have hlv:(aU (mK kQ L h1') s.heap.length).live=true:=by rw[iJ];rfl
   obtain⟨Og,Oh,_⟩:=IL.kill hlv s.ok;have hun:∀k,(aU ((mK kQ L h1').set s.heap.length .dead) k).live=true->(jJ kQ L g1 g2).β k≠w.heap.size+1:=by
    intro k hk hbe;by_cases hkn:k=s.heap.length
    .subst hkn;rw[wu (Bi hlv)]at hk;simp[O.live]at hk
    .rw[pS hkn]at hk
     exact hkn (M.gf.inj k _ hk hlv (by rw[hbe,Bv]))
   have hS4:=Og.putObj (y:=.loop {rc with state:=.exhausted}) k1 rfl (by simp) rfl hun
   have hF4:=ajp (y:=.loop {rc with state:=.exhausted}) ((pY.trans hMF).trans Oh) hs.heap (D:=w.heap.size+1) (by omega) k1 rfl rfl
   have Jc:=hQ _ a' _ hS4 hF4;refine⟨rc.pending,_,hend,?_⟩;rw[k6]at Jc⊢;rw[ha']at Jc;cases e with
   |normal=>exact Jc
   |exit id=>exact wpIn_exit Jc
   |ret=>exact wpIn_ret Jc
 have rx:=lI jV (eY hs hf);have ry:bR φ kQ g1 w1 [.jj s.heap.length] [Value.func (.yield (w.heap.size+1)) #[] #[]]:=by
  simp only[bR,aJ,xD];exact⟨by omega,rfl,λ_=>by rw[IV]⟩
 rw[<-BC]at oT;cases fX:s.get gx with
 |d z =>
  cases z with
  |fn ff first caps =>
   rw[fX]at rx oT;simp only[aJ,bQ]at rx;obtain⟨A',B',he,hA,hB⟩:=rx;exact key he oT (rJ (rJ (Bt hA) ry) (Bt hB))
  |_=>rw[fX]at oT;simp[lX]at oT
 |fn ff first caps =>
  rw[fX]at rx oT;simp only[aJ]at rx;obtain⟨A',B',he,hA,hB⟩:=rx;exact key he oT (rJ (rJ hA ry) hB)
 |_=>rw[fX]at oT;simp[lX]at oT
theorem Jd{rec:Rec}(hm:P.follows .mixedOrders=true)(hk:w7 P φ)(hq:l7 P φ rec)(hl:Dx P φ rec)(hy:tH P φ rec):∀(x:Code)(c:C),(r=none\/c.lQ=true)->∀{s:St}{g:Gh}{a:Act}{w:World}{Q:Exit->Act->World->Prop},nK P φ nt x c=true ->
  cm φ nt m dB s g a w->(cP rec m c s).2.ok=true->Post φ nt m dB s g w (cP rec m c s).2 (Q (BB (cP rec m c s).1))->x.wpIn (Wd r) n P Q a w:=by
 intro x c hr;have akz:∀{x:Code}{b:C}{ds:List Nat}{s:St}{g:Gh}{a:Act}{w:World}{Q:Exit->Act->World->Prop},
   (∀{Q:Exit->Act->World->Prop},(cP rec m b s).2.ok=true->Post φ nt m dB s g w (cP rec m b s).2 (Q (BB (cP rec m b s).1))->x.wpIn (Wd r) n P Q a w) ->
   (cP rec m (.seq b (.oD ds)) s).2.ok=true->Post φ nt m dB s g w (cP rec m (.seq b (.oD ds)) s).2 (Q (BB (cP rec m (.seq b (.oD ds)) s).1))->x.wpIn (Wd r) n P Q a w:=by
  intro x b ds s g a w Q ih hok hQ;simp only[cP]at hok hQ;cases hb:cP rec m b s with
  |mk e s' =>
   rw[hb]at hok hQ ih;cases e with
   |normal =>
    simp only at hok hQ;refine ih (G1 ds hok) λg' a' w' h1 h2=>?_
    obtain⟨g2,k1,k2⟩:=T6 ds h1 hok;exact hQ g2 a' w' k1 (h2.trans k2)
   |exit id=>exact ih hok hQ
   |ret=>exact ih hok hQ
 have akA:∀{x:Code}{b:C}{ds:List Nat}{s:St}{g:Gh}{a:Act}{w:World}{Q:Exit->Act->World->Prop},cm φ nt m dB s g a w ->
   (∀{s:St}{g:Gh}{Q:Exit->Act->World->Prop},cm φ nt m dB s g a w->(cP rec m b s).2.ok=true->Post φ nt m dB s g w (cP rec m b s).2 (Q (BB (cP rec m b s).1))->x.wpIn (Wd r) n P Q a w) ->
   (cP rec m (.seq (.oD ds) b) s).2.ok=true->Post φ nt m dB s g w (cP rec m (.seq (.oD ds) b) s).2 (Q (BB (cP rec m (.seq (.oD ds) b) s).1))->x.wpIn (Wd r) n P Q a w:=by
  intro x b ds s g a w Q hs ih hok hQ;simp only[cP]at hok hQ;obtain⟨g2,k1,k2⟩:=T6 ds hs (yU hok);exact ih k1 hok λg' a' w' h1 h2=>hQ g' a' w' h1 (k2.trans h2)
 fun_induction nK P φ nt x c with
 |case1=>intro s g a w Q _ hs _ hQ;exact wpIn_skip (hQ g a w hs (Frame.refl _ _ _ _))
 |case2=>intro s g a w Q _ hs _ hQ;exact wpIn_label (hQ g a w hs (Frame.refl _ _ _ _))
 |case3=>intro s g a w Q _ hs _ hQ;exact wpIn_ret (hQ g a w hs (Frame.refl _ _ _ _))
 |case4 i j =>
  intro s g a w Q hc hs _ hQ;simp at hc;subst hc;exact wpIn_exit (hQ g a w hs (Frame.refl _ _ _ _))
 |case5 id ops draw js =>
  intro s g a w Q hc hs hok hQ;simp only[bE,kZ]at hc;obtain⟨⟨rfl,h2⟩,h3⟩:=hc;exact ajO hq hy hs h2 h3 hok hQ
 |case6 id ops draw fl perm js =>
  intro s g a w Q hc hs hok hQ;simp only[bE]at hc;obtain⟨rfl,h3⟩:=hc;exact akn hm hq hy hs h3 hok hQ
 |case7 x y b c ih1 ih2 =>
  intro s g a w Q hc hs hok hQ;simp only[bE]at hc;refine wpIn_seq (ih1 (hr.imp id λh=>by simp[C.lQ]at h;exact h.1) hc.1 hs ?_ λg' a' w' h1 h2=>?_)
  .simp only[cP]at hok
   split at hok
   .rename_i s' he;rw[he];exact yU hok
   .exact hok
  .simp only[cP]at hok hQ
   cases he:cP rec m b s with
   |mk e s' =>
    rw[he]at hok hQ h1 h2;cases e with
    |normal=>exact ih2 (hr.imp id λh=>by simp[C.lQ]at h;exact h.2) hc.2 h1 hok λg2 a2 w2 k1 k2=>hQ g2 a2 w2 k1 (h2.trans k2)
    |exit id=>exact hQ g' a' w' h1 h2
    |ret=>exact hQ g' a' w' h1 h2
 |case8 c x y d b e ih1 ih2 =>
  intro s g a w Q hc hs hok hQ;simp only[bE]at hc;obtain⟨⟨h1,h2⟩,h3⟩:=hc;have rc:=eY hs h1;simp only[cP]at hok hQ;split at hok
  .rename_i v hv
   rw[hv]at rc;have hb:=wI (by simpa only[aJ]using rc)
   simp only[hv]at hQ;cases v with
   |true=>exact wpIn_cond_true hb (ih1 (hr.imp id λh=>by simp[C.lQ]at h;exact h.1) h2 hs hok hQ)
   |false=>exact wpIn_cond_false hb (ih2 (hr.imp id λh=>by simp[C.lQ]at h;exact h.2) h3 hs hok hQ)
  .simp at hok
 |case9 i x j b ih =>
  intro s g a w Q hc hs hok hQ;simp only[bE,dM]at hc;obtain⟨rfl,h2⟩:=hc;simp only[cP]at hok hQ;cases he:cP rec m b s with
  |mk e s' =>
   rw[he]at hok hQ;refine wpIn_block (ih (hr.imp id λh=>by simpa[C.lQ]using h) h2 hs ?_ λg' a' w' h3 h4=>?_)
   .rw[he]
    cases e with
    |normal=>exact hok
    |exit k=>simp only at hok;split at hok<;>exact hok
    |ret=>exact hok
   .rw[he]at h3 h4⊢
    cases e with
    |normal=>exact hQ g' a' w' h3 h4
    |exit k =>
     simp only[BB,Exit.inBlock]at *;split
     .rename_i hk
      rw[aK hk]at hQ;exact hQ g' a' w' h3 h4
     .rename_i hk
      rw[aE hk]at hQ;exact hQ g' a' w' h3 h4
    |ret=>exact hQ g' a' w' h3 h4
 |case10 x live b ih =>
  intro s g a w Q hc hs hok hQ;simp only[cP]at hok hQ;split at hok
  .rename_i p hp
   simp only[hp]at hQ;split at hok
   .rename_i e env h dV
    simp only[dV]at hQ;obtain⟨g',k1,k2⟩:=T3 hs hp true;refine hl nt m dB live x b p.1 p.2 e env h hc dV n r (hr.imp id (by simp[C.lQ])) g' a w Q k1 λg2 a2 w2 h1 h2=>hQ g2 a2 w2 ⟨h1.env,h1.heap,h1.size,h1.defers,h1.len⟩ (k2.trans h2)
   .simp at hok
  .simp at hok
 |case11 f ps x y gx live ps' b c ih1 ih2 =>
  intro s g a w Q hc hs hok hQ;simp only[bE,dM]at hc;obtain⟨⟨h1,h2⟩,h3⟩:=hc;rcases hr with rfl |hr
  rotate_left
  .simp[C.lQ]at hr
  have hlk:φ.lk ps' b c x y nt:=(hk ps' b c x y nt).2 (by simp only[Of,bE];exact h3)
  simp only[cP]at hok hQ;split at hok
  .rename_i v2 Dy oT
   simp only[oT]at hQ;split at hok
   .rename_i ps2 A2 B2 e akt iJ
    simp only[iJ]at hQ;exact aks hq hlk h1 hs (by rw[<-h2]) oT iJ hQ
   .simp at hok
  .simp at hok
 |case12 x b ih =>
  intro s g a w Q hc hs hok hQ;simp only[cP]at hok hQ;refine ajo (ih (hr.imp id λh=>by simp[C.lQ]at h;exact h) hc hs hok λg' a' w' h1 h2=>?_)
  have:=hQ g' a' w' h1 h2;cases he:(cP rec m b s).1<;>rw[he]at this<;>exact this
 |case13 x b ds _ _ ih =>
  intro s g a w Q hc hs hok hQ;exact akz (λh1 h2=>ih (hr.imp id λh=>by simp[C.lQ]at h;exact h) hc hs h1 h2) hok hQ
 |case14 x ds b _ _ ih =>
  intro s g a w Q hc hs hok hQ;exact akA hs (λh1 h2 h3=>ih (hr.imp id λh=>by simp[C.lQ]at h;exact h) hc h1 h2 h3) hok hQ
 |case15 x ds b _ _ ih =>
  intro s g a w Q hc hs hok hQ;simp only[cP]at hok hQ;cases hp:canon m ds s.env s.heap with
  |none =>
   rw[hp]at hok;simp only at hok;have:=yU hok;simp at this
  |some p =>
   rw[hp]at hok hQ;simp only at hok hQ;obtain⟨g2,k1,k2⟩:=T3 hs hp s.ok;exact ih (hr.imp id λh=>by simp[C.lQ]at h;exact h) hc k1 hok λg' a' w' h1 h2=>hQ g' a' w' h1 (k2.trans h2)
 |case16 x d k b _ _ ih =>
  intro s g a w Q hc hs hok hQ;simp only[cP]at hok hQ;cases hp:Ck s.heap k (s.get (.t d))with
  |none =>
   rw[hp]at hok;simp only at hok;have:=yU hok;simp at this
  |some p =>
   rw[hp]at hok hQ;simp only at hok hQ;obtain⟨g2,k1,k2⟩:=akq hs (hs.env d) hp;exact ih (hr.imp id λh=>by simp[C.lQ]at h;exact h) hc k1 hok λg' a' w' h1 h2=>hQ g' a' w' h1 (k2.trans h2)
 |case17=>intro s g a w Q hc;simp at hc
end
end Go.VS
namespace Go.VS
section
variable {P:Program}{φ:fy}
variable {nt m dB:Nat}{s:St}{g:Gh}{a:Act}{w:World}
theorem akB{h:List O}{p:V}{v:Value}{n:Nat}{ag:Bool}{x:V}(hH:eX φ h g w)(rx:aJ φ h g w p v)(hv:yR h n ag p=some x):
  ∃(b off:Nat)(vs:List Value)(v':Value),v = .pointer (some ⟨b,off,none⟩)/\(∀(j:Nat)(u:Value),vs[j]?=some u->w.cell? ⟨b,off+j,none⟩=some u) /\
   (if ag then n<=vs.length/\v' = .agg (vs.take n).toArray else vs.head?=some v')/\aJ φ h g w x v':=by
 generalize hp:p=q at rx;unfold yR at hv;split at hv
 .rename_i cs
  subst hp;simp only[aJ,bQ]at rx;obtain⟨b,off,he,hI,hcs⟩:=rx;obtain⟨vs,hvs,jr,h1⟩:=It hcs;obtain⟨v',h2,h3⟩:=Nv (h:=h) hvs h1 hv;exact⟨b,off,vs,v',he,jr,h2,h3⟩
 .rename_i cs
  subst hp;simp only[aJ]at rx;obtain⟨b,off,us,he,hI,hcs,jr⟩:=rx;obtain⟨v',h2,h3⟩:=IA hcs (λv hv=>let ⟨j,hj,hh⟩:=sR hv;(jr j v (by simp[hj,hh])).2) hv
  exact⟨b,off,us,v',he,(λj u hj=>(jr j u hj).1),h2,h3⟩
 .rename_i k r c
  subst hp;simp only[aJ]at rx;obtain⟨hlt,_,rx⟩:=rx;have dF:=hH.obj k;split at hv
  .rename_i es ex rows hk
   rw[hk]at dF rx;have he:=rx es rfl;cases hrow:rows[r]? with
   |none=>simp[hrow]at hv
   |some row =>
    simp[hrow]at hv;obtain⟨_,h2,_⟩:=dF;obtain⟨_,hcs⟩:=n7 h2 hrow;obtain⟨vs,hvs,jr,h1⟩:=It hcs;obtain⟨v',h2,h3⟩:=Nv (h:=h) (Bn hvs c) (λv hv=>h1 v (mN hv)) hv
    refine⟨_,_,_,v',he,(λj u hj=>?_),h2,h3⟩
    have:=jr (c+j) u (by simpa[pz]using hj)
    rwa [<-Nat.add_assoc]at this
  .rename_i es rows hk
   rw[hk]at dF rx;have he:=rx es rfl;cases hrow:rows[r]? with
   |none=>simp[hrow]at hv
   |some row =>
    simp[hrow]at hv;obtain⟨_,h2,_⟩:=dF;obtain⟨vs,hvs,jr,h1⟩:=YY h2 hrow;obtain⟨v',h2,h3⟩:=IA (Iw hvs c) (λv hv=>h1 v (mN hv)) hv
    refine⟨_,_,_,v',he,(λj u hj=>?_),h2,h3⟩
    have:=jr (c+j) u (by simpa[pz]using hj)
    rwa [<-Nat.add_assoc]at this
  .simp at hv
 .simp at hv
theorem akC{t:TypeId}{n:Nat}{ag:Bool}(lJ:wA P t ag=true)(hn:jw P t n=true){b off:Nat}{vs:List Value}
  (hc:∀(j:Nat)(v:Value),vs[j]?=some v->w.cell? ⟨b,off+j,none⟩=some v){v':Value}
  (hv:if ag then n<=vs.length/\v' = .agg (vs.take n).toArray else vs.head?=some v'):
  (loadVar t ⟨b,off,none⟩).run P w = .ok v' w:=by
 have h1:=Nu (P:=P) (w:=w) lJ;have h2:=wJ (P:=P) (w:=w) hn;cases ag
 .simp only[eR,dG]at hv
  have:=hc 0 v' (by simpa[Ws]using hv)
  simp only[GQ]at this;simp[loadVar,h1,this]
 .simp only[dH]at hv
  have hl:=run_loadCells_list (P:=P) w ⟨b,off,none⟩ (vs.take n) (λj v hj=>by
   rw[qA];exact hc j v (by rw[yM]at hj;split at hj<;>simp_all))
  have hlen:(vs.take n).length=n:=by simp;omega
  rw[hlen]at hl;simp[loadVar,h1,h2,hl,hv.2]
def u6(P:Program):List ResultVar->List RV->Bool
 | [],[]=>true
 | .tmp t::r,.t n::r'=>t==n&&u6 P r r'
 | .cell t ty::r,.c n k ag::r'=>t==n&&wA P ty ag&&jw P ty k&&u6 P r r'
 |_,_=>false
def Dz(tmps:Array Value):ResultVar->Sem Value
 | .tmp t=>pure (tmps.getD t undef)
 | .cell a t=>do loadVar t (<-asAddr (tmps.getD a undef))
theorem Oi(hs:cm φ nt m dB s g a w):∀{rs:List ResultVar}{rv:List RV}{vs:List V},u6 P rs rv=true->yT s rv=some vs ->
  ∃us:List Value,(rs.mapM (Dz a.tmps)).run P w = .ok us w/\bR φ s.heap g w vs us
 | [],[],vs,_,hv=>by
  simp[yT]at hv;subst hv;exact⟨[],by simp,by simp[bR]⟩
 | .tmp t::r,.t n::r',vs,hc,hv=>by
  simp only[u6,bE,dM]at hc;obtain⟨rfl,hc⟩:=hc;simp only[yT,G0,rY,gJ]at hv;obtain⟨ws,UJ,rfl⟩:=hv;obtain⟨us,h1,h2⟩:=Oi hs hc UJ;exact⟨a.tmps.getD t undef::us,by simp[Dz,h1],by simp only[bR];exact⟨hs.env t,h2⟩⟩
 | .cell t ty::r,.c n k ag::r',vs,hc,hv=>by
  simp only[u6,bE,dM]at hc;obtain⟨⟨⟨rfl,lJ⟩,hn⟩,hc⟩:=hc;simp only[yT,G0,nO,gJ]at hv;obtain⟨x,hx,ws,UJ,rfl⟩:=hv;obtain⟨us,h1,h2⟩:=Oi hs hc UJ;obtain⟨b,off,zs,v',he,jr,jx,gf⟩:=akB hs.heap (hs.env t) hx;have hl:=akC (P:=P) (w:=w) lJ hn jr jx;exact⟨v'::us,by simp[Dz,he,asAddr,hl,h1],by simp only[bR];exact⟨gf,h2⟩⟩
 | [],_::_,_,hc,_=>by simp[u6]at hc
 | .tmp _::_,[],_,hc,_=>by simp[u6]at hc
 | .cell _ _::_,[],_,hc,_=>by simp[u6]at hc
 | .tmp _::_,.c _ _ _::_,_,hc,_=>by simp[u6]at hc
 | .cell _ _::_,.t _::_,_,hc,_=>by simp[u6]at hc
end
end Go.VS
namespace Go.VS
section
variable {P:Program}{φ:fy}
variable {nt m dB:Nat}{s:St}{g:Gh}{a:Act}{w:World}
theorem results_eq(fn:Func)(tmps:Array Value):results fn tmps=(do
  let vs <-fn.results.mapM (Dz tmps)
  pure (if h:vs.size=1 then vs[0]else .tuple vs)):=rfl
def Oj:List Value->Value
 | [v]=>v
 |us=>.tuple us.toArray
theorem akD{fn:Func}{tmps:Array Value}{us:List Value}(h:(fn.results.toList.mapM (Dz tmps)).run P w = .ok us w):
  (results fn tmps).run P w = .ok (Oj us) w:=by
 rw[results_eq];have he:fn.results.mapM (Dz tmps)=Functor.map List.toArray (fn.results.toList.mapM (Dz tmps)):=by
  conv=>lhs;rw[<-Array.toArray_toList (xs:=fn.results)]
  rw[List.mapM_toArray]
 rw[he];simp only[map_eq_pure_bind,bind_assoc,pure_bind,Sem.run_bind,h,Result.andThen_ok,Sem.run_pure]
 match us with
 | []=>rfl
 | [v]=>rfl
 |v::u::r=>simp[Oj]
theorem least{J:Nat->Prop}(h:∃k,J k):∃k,J k/\∀j,j<k->¬J j:=by
 obtain⟨k,hk⟩:=h;induction k using Nat.strongRecOn with
 |_ k ih =>
  by_cases hx:∃j,j<k/\J j
  .obtain⟨j,h1,h2⟩:=hx;exact ih j h1 h2
  .exact⟨k,hk,λj hj hJ=>hx ⟨j,hj,hJ⟩⟩
open Classical in
noncomputable def F3 (J:Nat->Prop):Nat:=if h:∃k,J k then Classical.choose (least h)else 0
theorem akE{J:Nat->Prop}(h:∃k,J k):J (F3 J)/\∀j,J j->F3 J<=j:=by
 have hc:=B0 (least h);have he:F3 J=Classical.choose (least h):=by simp[F3,h]
 rw[he];exact⟨hc.1,λj hj=>Nat.le_of_not_lt λhlt=>hc.2 j hlt hj⟩
theorem akF(hm:P.follows .mixedOrders=true)(hk:w7 P φ){Pv:Prog}{n:Nat}(ih:∀k,k<n->l7 P φ (iter Pv k)/\Dx P φ (iter Pv k)/\tH P φ (iter Pv k)):Dx P φ (iter Pv n):=by
 intro nt m dB live x c env h e env' h' hc gV fuel r By g a w Q hs hQ
 let J:Act->World->Nat->Prop:=λa' w' k=>k<=n/\∃Ok h1 g1,iter Pv k (.loop m live c Ok h1)=some (.out e env' h')/\cm φ nt m dB ⟨Ok,h1,true⟩ g1 a' w'/\Frame m h g w h1 g1 w'
 refine wpIn_loop (λa' w'=>∃k,J a' w' k) (λa' w'=>F3 (J a' w')) ⟨n,gj _,env,h,g,gV,hs,Frame.refl _ _ _ _⟩ λa' w' hI=>?_
 obtain⟨hJ,hmin⟩:=akE hI;generalize F3 (J a' w')=k at *;obtain⟨hkn,Ok,h1,g1,hr,yx,Dl⟩:=hJ;cases k with
 |zero=>simp[iter]at hr
 |succ k =>
  obtain⟨hq,hl,hy⟩:=ih k (by omega)
  simp only[iter,mQ]at hr;cases he:cP (iter Pv k) m c ⟨Ok,h1,true⟩with
  |mk ex s' =>
   rw[he]at hr;have hok:s'.ok=true:=by
    cases hs':s'.ok with
    |true=>rfl
    |false=>cases ex<;>simp[hs']at hr
   refine Jd hm hk hq hl hy x c By hc yx (by rw[he];exact hok) λg2 a2 w2 k1 k2=>?_
   rw[he]at k1 k2⊢;cases ex with
   |normal =>
    simp only[hok,dH,nO]at hr;obtain⟨p,hp,hr⟩:=hr;obtain⟨g3,k3,k4⟩:=T3 k1 hp true;have UK:J a2 w2 k:=⟨by omega,p.1,p.2,g3,hr,k3,Dl.trans (k2.trans k4)⟩
    refine⟨⟨k,UK⟩,?_⟩;have:=(akE ⟨k,UK⟩).2 k UK;omega
   |exit id =>
    simp only[hok,dH,gz,dN.out.injEq]at hr;obtain⟨rfl,rfl,rfl⟩:=hr;exact hQ g2 a2 w2 ⟨k1.env,k1.heap,k1.size,k1.defers,k1.len⟩ (Dl.trans k2)
   |ret =>
    simp only[hok,dH,gz,dN.out.injEq]at hr;obtain⟨rfl,rfl,rfl⟩:=hr;exact hQ g2 a2 w2 ⟨k1.env,k1.heap,k1.size,k1.defers,k1.len⟩ (Dl.trans k2)
def Ol(P:Program)(φ:fy)(f:Nat)(F:F):Prop :=
 ∃ fn c, P.funcs[φ f]? = some fn ∧ (fn.name == "runtime.NumGoroutine") = false ∧ fn.body = some c ∧ nK P φ fn.ntmps c F.code = true ∧ u6 P fn.results.toList F.res = true
def akG(P:Program)(φ:fy)(f:Nat)(p:List V->List O->Option (V×List O)):Prop :=
 ∀(xs:List V)(h:List O)(v:V)(h1:List O),p xs h=some (v,h1) ->
  (∃ fn, P.funcs[φ f]? = some fn ∧ (fn.name == "runtime.NumGoroutine") = false ∧ fn.body.isNone = false) ∧
  ∀(g:Gh)(w:World)(args:Array Value),eX φ h g w->bR φ h g w xs args.toList ->
   Calls P (φ f) args w λe w'=>∃v' g',e = .returned v'/\eX φ h1 g' w'/\aJ φ h1 g' w' v v'/\Frame h.length h g w h1 g' w'
def F4(P:Program)(φ:fy)(f:Nat)(F:F):Prop:=(F.Ay=none/\Ol P φ f F)\/∃p,F.Ay=some p/\akG P φ f p
theorem akH:∀{xs:List V}{k t:Nat},cA (oF k xs) t=if k<=t then(xs[t - k]?).getD .u else .u
 | [],k,t=>by simp[oF,cA]
 |x::xs,k,t=>by
  simp only[oF,cA,akH (xs:=xs)];by_cases h:k=t
  .subst h;simp
  .rw[aE h]
   by_cases h2:k<=t
   .have h3:k+1<=t:=by omega
    rw[aK h2,aK h3]
    have:t - k=(t - (k+1))+1:=by omega
    rw[this,Wl]
   .rw[aE h2,aE (by omega)]
theorem akI{h:List O}{xs:List V}{args:Array Value}(hdB:dB<=w.heap.size)(hH:eX φ h g w)(hr:bR φ h g w xs args.toList)(nt:Nat):
  cm φ nt h.length dB ⟨oF 0 xs,h,true⟩ g {tmps:=args++Array.replicate (nt - args.size) undef,defers:=[]} w where
 env k:=by
  rw[akH];simp only[B6,dH,Nat.sub_zero];cases hx:xs[k]? with
  |none=>simp[aJ]
  |some x =>
   obtain⟨v,hv,gf⟩:=C9 hr hx;have hk:k<args.size:=by
    rcases k9 k args.size with h1 |h1
    .exact h1
    .simp[J2 h1]at hv
   have:(args++Array.replicate (nt - args.size) undef).getD k undef=v:=by
    rw[Av,Array.getElem?_append_left hk];simp at hv;simp[hv]
   rw[this];exact gf
 heap:=hH
 size:=by simp;omega
 defers:=mH.nil hdB
 len:=gj _
theorem akJ{h:List O}{zs:List V}{us:List Value}(hr:bR φ h g w zs us):aJ φ h g w (tuple zs) (Oj us):=by
 match zs,us,hr with
 | [],[],_=>simp only[tuple,aJ];exact⟨#[],rfl,by simp[bR]⟩
 | [z],[u],hr=>simp only[bR]at hr;exact hr.1
 |z::z'::zs,u::u'::us,hr=>simp only[tuple,aJ];exact⟨(u::u'::us).toArray,rfl,by simpa using hr⟩
 | [],_::_,hr=>simp[bR]at hr
 |_::_,[],hr=>simp[bR]at hr
 | [_],_::_::_,hr=>simp[bR]at hr
 |_::_::_,[_],hr=>simp[bR]at hr
theorem akK{fn:Func}{tmps:Array Value}{R:Ending->World->Prop}{h:List O}{fuel:Nat}(Inv:World->Prop)
  (hstep:∀w D,Inv w->dB<=D->w.heap[D]?=some (.deferred (some []))->(∀k,(aU h k).live=true->g.β k≠D)->Inv (w.putObj D (.deferred none)))
  (hend:∀w,Inv w->LeavesIn (Wd none) fuel P fn tmps R [] .returning w):∀(ds:List Deferred){w:World},Inv w->mH dB h g ds w->LeavesInM (Wd none) fuel P fn tmps R ds .returning w
 | [],w,hI,_=>hend w hI
 |d::ds,w,hI,hd=>by
  obtain⟨D,rfl,h2,h3,h4⟩:=hd.at_ d (by simp)
  refine⟨by simp,.inl ⟨D,_,rfl,run_takeDeferred h3,akK Inv hstep hend ds (hstep w D hI h2 h3 h4) ⟨λd' hd'=>?_,?_,by simpa using hd.le⟩⟩⟩
  .obtain⟨E,e1,e2,e3,e4⟩:=hd.at_ d' (by simp[hd'])
   refine⟨E,e1,e2,?_,e4⟩;rw[World.putObj_heap_other]
   .exact e3
   .intro he
    subst he;have:=hd.nodup;simp only[Eb]at this;rw[e1]at hd';exact this.1 hd'
  .have:=hd.nodup
   simp only[Eb]at this;exact this.2
theorem akL{fn:Func}{R:Ending->World->Prop}{h:List O}{g':Gh}{a':Act}{w':World}(hH:eX φ h g w)(hs':cm φ nt m w.heap.size s g' a' w')(hf':Frame m h g w s.heap g' w')
  (hpost:∀w1,cm φ nt m w.heap.size s g' {tmps:=a'.tmps,defers:=[]} w1->Frame m h g w s.heap g' w1->∃v',(results fn a'.tmps).run P w1 = .ok v' w1/\R (.returned v') w1):
  LeavesInM (Wd none) 0 P fn a'.tmps R a'.defers .returning w':=by
 refine akK (h:=s.heap) (g:=g') (dB:=w.heap.size) (λw'=>cm φ nt m w.heap.size s g' {tmps:=a'.tmps,defers:=[]} w'/\Frame m h g w s.heap g' w') (λw1 D hI hD h3 h4=>?_) (λw1 hI=>?_) a'.defers
  ⟨⟨hs'.env,hs'.heap,hs'.size,mH.nil hs'.defers.le,hs'.len⟩,hf'⟩ hs'.defers
 .obtain⟨hS,jX⟩:=hI
  have hle:=Um (y:=.deferred none) h3 rfl rfl h4;exact⟨⟨λk=>lI hle (hS.env k),Un hS.heap h3 rfl rfl h4,hS.size,mH.nil (by simpa using hS.defers.le),hS.len⟩,ajp jX hH hD h3 rfl rfl⟩
 .obtain⟨v',hr,hR⟩:=hpost w1 hI.1 hI.2
  exact⟨v',hr,hR⟩
theorem akM(hm:P.follows .mixedOrders=true)(hk:w7 P φ){Pv:Prog}(hF:∀f F,Pv f=some F->F4 P φ f F){n:Nat}(ih:l7 P φ (iter Pv n)/\Dx P φ (iter Pv n)/\tH P φ (iter Pv n)):l7 P φ (iter Pv (n+1)):=by
 intro f xs h v h1 gV;simp only[iter,mQ]at gV;cases hfn:Pv f with
 |none=>rw[hfn]at gV;simp at gV
 |some F =>
  rw[hfn]at gV;rcases hF f F hfn with⟨hpn,fn,c,k1,k2,k3,k4,k5⟩ |⟨p,hp,hok⟩
  rotate_left
  .simp only at gV
   simp only[hp,gJ,dN.val.injEq]at gV;obtain⟨⟨v',h'⟩,hr,rfl,rfl⟩:=gV;exact hok xs h v' h' hr
  simp only[hpn]at gV;refine⟨⟨fn,k1,k2,by simp[k3]⟩,λg w args hH hargs=>?_⟩
  cases he:cP (iter Pv n) h.length F.code ⟨oF 0 xs,h,true⟩with
  |mk e s =>
   rw[he]at gV;have iJ:finish F.res F.keep h.length s=some (.val v h1)/\(e = .normal\/e = .ret):=by
    cases e with
    |normal=>exact⟨gV,.inl rfl⟩
    |ret=>exact⟨gV,.inr rfl⟩
    |exit id=>simp at gV
   obtain⟨iJ,hee⟩:=iJ;have hok:=PX iJ;refine(callsIn_wide (n:=0)).1 (callsIn_of_wp_marks (F:=Wd none) k1 k3 trivial (Jd hm hk ih.1 ih.2.1 ih.2.2 c F.code (.inl rfl) k4 (akI (gj _) hH hargs fn.ntmps) (by rw[he];exact hok) λg' a' w' hs' hf'=>?_))
   rw[he]at hs' hf'⊢;have hpost:∀w',cm φ fn.ntmps h.length w.heap.size s g' {tmps:=a'.tmps,defers:=[]} w'->Frame h.length h g w s.heap g' w'->∃v',(results fn a'.tmps).run P w' = .ok v' w'/\∃v'' g'',Ending.returned v' = .returned v''/\eX φ h1 g'' w'/\aJ φ h1 g'' w' v v''/\Frame h.length h g w h1 g'' w':=by
    intro w' hs' hf';simp only[finish,hok,dH,nO,gJ]at iJ;obtain⟨vs',⟨vs,hvs,rfl⟩,iJ⟩:=iJ;obtain⟨us,FC,gf⟩:=Oi hs' k5 hvs;have gf:=ahf gf;refine⟨_,akD FC,Oj us,?_⟩;split at iJ
    .rename_i hm0
     simp only[gJ,dN.val.injEq]at iJ;obtain⟨zs,hzs,rfl,rfl⟩:=iJ;obtain⟨I',k1,k2,k3⟩:=NO hs' hzs gf true;have hh:h=[]:=vC hm0.1;subst hh;have hfr:=hf'.trans k2;obtain⟨q1,q2⟩:=NB hfr;refine⟨⟨λ_=>0,λ_=>0,I'⟩,rfl,NA k1.heap.new,?_,?_⟩
     .exact akJ (Bt k3)
     .exact⟨hfr.ext,hfr.size,hfr.os,hfr.tape,hfr.output,λn hn=>by simp at hn,hfr.keep,λn hn=>by simp[aU,O.live]at hn,λn hn=>by simp at hn⟩
    .simp only[gJ,dN.val.injEq]at iJ
     obtain⟨L,hL,rfl,rfl⟩:=iJ;have UL:=FJ hL hs'.heap;obtain⟨_,yp,_⟩:=Dq hL;have akN:=ym (L:=L) yp gf;exact⟨iI g' L,rfl,UL,akJ akN,hf'.trans (NM hL)⟩
   have akO:LeavesInM (Wd none) 0 P fn a'.tmps (λe w'=>∃v' g',e = .returned v'/\eX φ h1 g' w'/\aJ φ h1 g' w' v v'/\Frame h.length h g w h1 g' w') a'.defers .returning w':=by
    exact akL hH hs' hf' λw1 h1 h2=>let ⟨v',hr,hR⟩:=hpost w1 h1 h2;⟨v',hr,hR⟩
   rcases hee with rfl |rfl
   .exact akO
   .exact akO
theorem akP:∀(l:List (Tmp×Value))(t:Array Value),(l.foldl (λtmps (t,a)=>tmps.setIfInBounds t a) t).size=t.size
 | [],_=>rfl
 |p::l,t=>by rw[J5,akP l];simp
theorem akQ{k:Nat}:∀(l:List (Tmp×Value))(t:Array Value),(∀p∈l,p.1≠k)->(l.foldl (λtmps (t,a)=>tmps.setIfInBounds t a) t).getD k undef=t.getD k undef
 | [],_,_=>rfl
 |p::l,t,h=>by
  rw[J5,akQ l _ (λq hq=>h q (by simp[hq]))]
  have:=h p (by simp)
  simp[Av,GP this]
theorem Om{h:List O}{yt:Nat}{rc:List (Nat×V)}:∀(ps:List Nat)(xs:List V)(args:List Value)(t:Array Value),ps.Nodup->(∀p∈ps,p<t.size)->bR φ h g w xs args ->
  (∀k,aJ φ h g w (cA rc k) (t.getD k undef))->∀k,aJ φ h g w (cA (ps.zip xs++rc) k) (((ps.zip args).foldl (λtmps (t,a)=>tmps.setIfInBounds t a) t).getD k undef)
 | [],_,_,_,_,_,_,hr,k=>by simpa using hr k
 |p::ps,[],[],_,_,_,_,hr,k=>by simpa using hr k
 |p::ps,x::xs,v::vs,t,hnd,hlt,hx,hr,k=>by
  simp only[bR]at hx;simp only[Eb]at hnd;simp only[J9,rZ,cA,J5];by_cases hk:p=k
  .subst hk
   rw[aK rfl,akQ _ _ (λq hq he=>hnd.1 (by obtain⟨q1,q2⟩:=q;have:=(List.of_mem_zip hq).1;simp only at he;rwa [he]at this))]
   have:=hlt p (by simp)
   simpa[Av,this]using hx.1
  .rw[aE hk]
   have ih:=Om (yt:=yt) (rc:=rc) ps xs vs (t.setIfInBounds p v) hnd.2 (λq hq=>by simpa using hlt q (by simp[hq])) hx.2
   by_cases DA:k∈ps
   ·
    have ih2:=Om (yt:=yt) (rc:=(p,.u)::rc) ps xs vs (t.setIfInBounds p v) hnd.2 (λq hq=>by simpa using hlt q (by simp[hq])) hx.2 (λj=>by
     simp only[cA];by_cases hj:p=j
     .rw[aK hj];simp[aJ]
     .rw[aE hj];simpa[Av,GP hj]using hr j) k
    have he:∀(ps:List Nat)(xs:List V),cA (ps.zip xs++(p,V.u)::rc) k=cA (ps.zip xs++rc) k:=by
     intro ps;induction ps with
     |nil=>intro xs;simp[cA,hk]
     |cons q qs UM =>
      intro xs;cases xs with
      |nil=>simp[cA,hk]
      |cons z zs=>simp only[J9,rZ,cA,UM]
    rw[he]at ih2;exact ih2
   .have ih2:=Om (yt:=yt) (rc:=(p,.u)::rc) ps xs vs (t.setIfInBounds p v) hnd.2 (λq hq=>by simpa using hlt q (by simp[hq])) hx.2 (λj=>by
     simp only[cA];by_cases hj:p=j
     .rw[aK hj];simp[aJ]
     .rw[aE hj];simpa[Av,GP hj]using hr j) k
    have he:∀(ps:List Nat)(xs:List V),cA (ps.zip xs++(p,V.u)::rc) k=cA (ps.zip xs++rc) k:=by
     intro ps;induction ps with
     |nil=>intro xs;simp[cA,hk]
     |cons q qs UM =>
      intro xs;cases xs with
      |nil=>simp[cA,hk]
      |cons z zs=>simp only[J9,rZ,cA,UM]
    rw[he]at ih2;exact ih2
 |_::_,[],_::_,_,_,_,hx,_,_=>by simp[bR]at hx
 |_::_,_::_,[],_,_,_,hx,_,_=>by simp[bR]at hx
theorem akR{k:Nat}:∀{env:List (Nat×V)},cA env k = .u\/∃p∈env,p.1=k/\cA env k=p.2
 | []=>.inl rfl
 |p::env=>by
  simp only[cA];by_cases hk:p.1=k
  .rw[aK hk];exact .inr ⟨p,by simp,hk,rfl⟩
  .rw[aE hk]
   rcases akR (env:=env) (k:=k)with h |⟨q,hq,h1,h2⟩
   .exact .inl h
   .exact .inr ⟨q,by simp[hq],h1,h2⟩
theorem UN{h h':List O}{g':Gh}{w':World}{l:Nat}(hf:Frame m h g w h' g' w')(hl:l<w.heap.size)(hu:∀k,(aU h k).live=true->g.β k≠l):∀k,(aU h' k).live=true->g'.β k≠l:=by
 intro k hk he;rcases hf.mG k hk with⟨j,hj,hb⟩ |hs
 .exact hu j hj (hb.trans he)
 .omega
theorem akS(hm:P.follows .mixedOrders=true)(hk:w7 P φ){Pv:Prog}{n:Nat}(ih:l7 P φ (iter Pv n)/\Dx P φ (iter Pv n)/\tH P φ (iter Pv n)):tH P φ (iter Pv (n+1)):=by
 intro ps A B xs env h e env' h1 gV fuel r g w l rc nt args hlk hnt hps hH hxs NW hlen hl hst hun;simp only[iter,mQ]at gV;cases hA:cP (iter Pv n) h.length A ⟨ps.zip xs++env,h,true⟩with
 |mk eA s1 =>
 rw[hA]at gV;cases eA<;>simp only at gV<;>try (simp at gV;done)
 cases hB:cP (iter Pv n) h.length B s1 with
 |mk eB s2 =>
 rw[hB]at gV;simp only at gV;split at gV
 rotate_left
 .simp at gV
 rename_i AD;simp only[gJ,dN.out.injEq]at gV;obtain⟨L,hL,rfl,_,rfl⟩:=gV;have T7:s1.ok=true:=yU (rec:=iter Pv n) (m:=h.length) (c:=B) (by rw[hB];exact AD)
 have hlt:=Bl hl;have akT:=(hk ps A B rc.assign rc.body nt).1 hlk;simp only[Of,bE,gi,yO]at akT;obtain⟨⟨⟨⟨⟨q1,q2⟩,q3⟩,q4⟩,q5⟩,q6⟩:=akT;have akU:rc.params.zip args.toArray=(ps.zip args).toArray:=by rw[hps];simp
 rw[akU];simp only[List.foldl_toArray'];have hs0:cm φ nt h.length 0 ⟨ps.zip xs++env,h,true⟩ g {tmps:=(ps.zip args).foldl (λtmps (t,a)=>tmps.setIfInBounds t a) rc.tmps,defers:=[]} w:=by
  refine⟨Om (yt:=nt) ps xs args rc.tmps q1 (λp hp=>pg (q2 p hp) hnt) hxs (λk=>?_),hH,by rw[akP];exact hnt,mH.nil (B6 _),gj _⟩
  rcases akR (env:=env) (k:=k)with h0 |⟨p,hp,rfl,h2⟩
  .rw[h0];simp[aJ]
  .rw[h2];exact NW p hp
 refine roundIn_of_wpIn trivial ?_;refine Jd (r:=some l) hm hk ih.1 ih.2.1 ih.2.2 rc.assign A (.inr q3) q5 hs0 (by rw[hA];exact T7) λg1 a1 w1 tD pY=>?_
 rw[hA]at tD pY⊢;have On:=UN pY hlt hun;have pN:w1.heap[l]?=some (.loop rc):=by rw[(pY.keep l hlt hun).1];exact hl
 show ∃w₂,(Instr.beginRound l).run P w1 = .ok () w₂/\_
 refine⟨_,run_beginRound pN hst,?_⟩;have IL:=tD.putObj (y:=.loop {rc with state:=.busy}) pN rfl (by simp) rfl On
 refine Jd (r:=some l) hm hk ih.1 ih.2.1 ih.2.2 rc.body B (.inr q4) q6 IL (by rw[hB];exact AD) λg2 a2 w2 Og Oo=>?_
 rw[hB]at Og Oo⊢;have Oq:l<(w1.putObj l (.loop {rc with state:=.busy})).heap.size:=by have:=pY.size;simp;omega
 have hu2:=UN Oo Oq On;have kN:w2.heap[l]?=some (.loop {rc with state:=.busy}):=by rw[(Oo.keep l Oq On).1];exact World.putObj_heap_same (by simpa using Oq)
 have UL:=FJ hL Og.heap;have Oh:=NM hL (g:=g2) (w:=w2);have hu3:=UN Oh (by have:=Bl kN;omega) hu2
 have fin:∃v w',(Instr.endRound l (wq eB)).run P w2 = .ok v w'/\∃g',Ending.returned v = .returned (.bool (wq eB).isNone)/\eX φ (sub s2.heap L) g' w'/\Frame h.length h g (w.putObj l (.loop (tG rc eB))) (sub s2.heap L) g' w':=by
  refine⟨_,_,run_endRound (wq eB) kN,iI g2 L,rfl,?_,?_⟩
  .exact Un UL kN rfl rfl hu3
  .have hfr:(.loop {({rc with state:=.busy}:Loop)with state:=if(wq eB).isNone then .ready else .done,pending:=wq eB}:Obj) = .loop (tG rc eB):=by
    cases eB<;>simp[tG,wq]
   rw[hfr];have f1:=Uo (y:=.loop (tG rc eB)) pY hl rfl hun;have f2:=Uo (y:=.loop (tG rc eB)) Oo (World.putObj_heap_same (by simpa using Oq)) rfl On
   have f3:=Uo (y:=.loop (tG rc eB)) Oh kN rfl hu2;rw[ajq]at f2;exact(f1.trans f2).trans f3
 cases eB with
 |normal=>exact fin
 |exit id=>exact fin
 |ret=>exact fin
theorem Ot(hm:P.follows .mixedOrders=true)(hk:w7 P φ){Pv:Prog}(hF:∀f F,Pv f=some F->F4 P φ f F)(n:Nat):l7 P φ (iter Pv n)/\Dx P φ (iter Pv n)/\tH P φ (iter Pv n):=by
 induction n using Nat.strongRecOn with
 |_ n ih =>
  refine⟨?_,akF hm hk ih,?_⟩
  .cases n with
   |zero=>intro f xs hp v h1 h;simp[iter]at h
   |succ n=>exact akM hm hk hF (ih n (by omega))
  .cases n with
   |zero=>intro ps A B xs env h e env' h1 h;simp[iter]at h
   |succ n=>exact akS hm hk (ih n (by omega))
theorem akV(hm:P.follows .mixedOrders=true)(hk:w7 P φ){Pv:Prog}(hF:∀f F,Pv f=some F->F4 P φ f F):l7 P φ (ev Pv)/\Dx P φ (ev Pv)/\tH P φ (ev Pv):=
 ⟨λf xs h v h1 he=>let ⟨n,hn⟩:=Eh.1 he;(Ot hm hk hF n).1 f xs h v h1 hn,
  λnt m dB live x c env h e env' h' hc he=>let ⟨n,hn⟩:=Eh.1 he;(Ot hm hk hF n).2.1 nt m dB live x c env h e env' h' hc hn,
  λps A B xs env h e env' h1 he=>let ⟨n,hn⟩:=Eh.1 he;(Ot hm hk hF n).2.2 ps A B xs env h e env' h1 hn⟩
theorem akW(hm:P.follows .mixedOrders=true)(hk:w7 P φ){Pv:Prog}(hF:∀f F,Pv f=some F->F4 P φ f F){f:Nat}{ds:List D}{v:V}(h:ev Pv (.call f (ds.map V.d) [])=some (.val v []))
  {I:Nat->Nat}{args:Array Value}(hI:∀b,w.heap.size<=b->I b=0)(hr:cy φ I w ds args.toList):
  Calls P (φ f) args w λe w'=>∃v' I',e = .returned v'/\gM w w'/\(∀b,b<w.heap.size->I' b=I b)/\(∀b,w'.heap.size<=b->I' b=0)/\∀g:Gh,g.I=I'->aJ φ [] g w' v v':=by
 obtain⟨n,hn⟩:=Eh.1 h;refine Calls.mono (((Ot hm hk hF n).1 f _ [] v [] hn).2 ⟨λ_=>0,λ_=>0,I⟩ w args (NA hI) (zA hr)) λe w' hh=>?_
 obtain⟨v',g',rfl,hH,gf,hfr⟩:=hh;obtain⟨q1,q2⟩:=NB hfr;exact⟨v',g'.I,rfl,q1,q2,hH.new,λgg hg=>Zj hg gf⟩
end
end Go.VS
