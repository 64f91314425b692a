import Derived.Test.YtjpdopldkeodgaaGreatV03
import Derived.Tactics
import Derived.Orders
import Derived.Test.YtjpdopldkeodgaaGreatV02
import Derived.Scope
set_option linter.all false
set_option maxHeartbeats 1000000
namespace Go.VS
structure X where
 i:I
 g:Option (Nat×Bool)
mutual
def J.flat(g:Option (Nat×Bool)):J->List X
 | .op i=>[⟨i,g⟩]
 | .sc fE d c body x=>J.ig (some (c,!fE)) body++[⟨.pick d (.t c) (if fE then .k (.b true)else x) (if fE then x else .k (.b false)),g⟩]
 | .re _=>[]
def J.ig(g:Option (Nat×Bool)):List J->List X
 | []=>[]
 |j::r=>j.flat g++J.ig g r
end
def zJ(i:I)(s:St):St:=⟨W i.wr .kA++s.env,s.heap,s.ok⟩
def jy(rec:Rec)(x:X)(s:St):St :=
 match x.g with
 |none=>aU rec x.i s
 |some (c,want) =>
  match cA s.env c with
  | .d (.b b)=>if b=want then aU rec x.i s else zJ x.i s
  | .kA=>zJ x.i s
  |_=>s.fail
def eP(rec:Rec):List X->St->St
 | [],s=>s
 |x::r,s=>eP rec r (jy rec x s)
theorem ym{rec:Rec}:∀(xs ys:List X)(s:St),eP rec (xs++ys) s=eP rec ys (eP rec xs s)
 | [],_,_=>rfl
 |x::xs,ys,s=>by simp only[sW,eP];exact ym xs ys _
theorem ajY{rec:Rec}{x:X}{s:St}(h:(jy rec x s).ok=true):s.ok=true:=by
 unfold jy at h;split at h
 .exact Kp h
 .split at h
  .split at h
   .exact Kp h
   .exact h
  .exact h
  .simp at h
theorem IL{rec:Rec}:∀{xs:List X}{s:St},(eP rec xs s).ok=true->s.ok=true
 | [],_,h=>h
 |_::_,_,h=>ajY (IL (by simpa only[eP]using h))
theorem zK{d:Option Nat}{v:V}{e:List (Nat×V)}{t:Nat}(h:t∉d.toList):cA (W d v++e) t=cA e t:=by
 cases d with
 |none=>rfl
 |some d =>
  have:d≠t:=λh1=>h (by simp[h1])
  simp[W,cA,this]
theorem zL{d:Option Nat}{v:V}{e:List (Nat×V)}{t:Nat}(h:t∈d.toList):cA (W d v++e) t=v:=by
 cases d with
 |none=>simp at h
 |some d =>
  have:t=d:=by simpa using h
  simp[W,cA,this]
theorem FI{e:List (Nat×V)}{t:Nat}:∀{ds:List Nat},cA (pL ds e) t=if t∈ds then .u else cA e t
 | []=>by simp[pL]
 |d::ds=>by
  simp only[pL,cA,FI (ds:=ds),dA];by_cases h:d=t
  .simp[h]
  .have h':¬t=d:=λe=>h e.symm
   simp[h,h']
theorem ajZ{rec:Rec}{i:I}{s:St}(h:(aU rec i s).ok=true):∃v,(aU rec i s).env=W i.wr v++s.env/\(i.quiet=true->(aU rec i s).heap=s.heap):=by
 obtain⟨_,v,he,_,hh⟩:=NT (rec:=rec) (i:=i) (s:=s) (s':=s) (λ_ _=>rfl) (.inl rfl) h (Kp h)
 refine⟨v,he,λhq=>?_⟩
 rcases hh with h1 |h1
 .exact h1.1
 .rw[hq]at h1;simp at h1
theorem NU{rec:Rec}{x:X}{s:St}(h:(jy rec x s).ok=true):∃v,(jy rec x s).env=W x.i.wr v++s.env/\(x.i.quiet=true->(jy rec x s).heap=s.heap):=by
 cases x with
 |mk i g =>
  cases g with
  |none=>exact ajZ h
  |some p =>
   obtain⟨c,want⟩:=p;simp only[jy]at h⊢;generalize cA s.env c=v at *;cases v with
   |d y =>
    cases y with
    |b b =>
     simp only at h⊢;split at h
     .rename_i hw;rw[aK hw];exact ajZ h
     .rename_i hw;rw[aD hw];exact⟨.kA,rfl,λ_=>rfl⟩
    |_=>simp at h
   |kA=>exact⟨.kA,rfl,λ_=>rfl⟩
   |_=>simp at h
def J.FJ:J->List Nat
 | .sc _ _ _ body _=>J.j5 body
 |_=>[]
def J.IM:List J->List Nat
 | []=>[]
 |j::r=>J.IM r++j.FJ
def A.slots:A->List Nat
 | .t n=>[n]
 | .k _=>[]
def tU(xs T:List Nat):Bool:=xs.all λx=>!T.contains x
def I.slots(i:I):List Nat:=i.reads.flatMap A.slots
mutual
def J.Br(top:Bool)(T S:List Nat):J->Bool
 | .op i=>tU i.slots T&&(top||(match i with | .st ..=>false |_=>true))
 | .sc _ d c body x=>!T.contains c&&!(J.j5 body).contains c&&J.uZ false T [] body&&tU x.slots (J.IM body++T)&&(top||S.contains c)&&d != c
 | .re i=>top&&tU i.slots T&&i.quiet&&(match i.wr with |some d=>!T.contains d |none=>false)
def J.uZ(top:Bool)(T S:List Nat):List J->Bool
 | []=>true
 |j::r=>J.Br top T S j&&J.uZ top (j.FJ++T) (S++j.rj) r
end
structure Ag(T:List Nat)(s s':St):Prop where
 heap:s.heap=s'.heap
 ok:s'.ok=true
 env:∀t,t∉T->cA s.env t=cA s'.env t
 low:∀t,cA s.env t = .u\/cA s.env t=cA s'.env t
theorem IN{xs T:List Nat}(h:tU xs T=true){x:Nat}(hx:x∈xs):x∉T:=by
 simp only[tU,yM]at h;simpa using h x hx
theorem Ag.get{T:List Nat}{s s':St}(h:Ag T s s'){x:A}(hx:tU x.slots T=true):s.get x=s'.get x:=by
 cases x with
 |k y=>rfl
 |t n=>exact h.env n (IN hx (by simp[A.slots]))
theorem Ag.reads{T:List Nat}{s s':St}(h:Ag T s s'){i:I}(hi:tU i.slots T=true):∀x∈i.reads,s.get x=s'.get x:=by
 intro x hx;refine h.get ?_;simp only[tU,yM]at hi⊢;intro n hn;exact hi n (by simp only[I.slots];exact Ao.2 ⟨x,hx,hn⟩)
theorem Ag.op{T:List Nat}{s s':St}(h:Ag T s s'){rec:Rec}{i:I}(hi:tU i.slots T=true)(hok:(aU rec i s).ok=true):Ag T (aU rec i s) (aU rec i s'):=by
 obtain⟨h1,v,h2,h3,h4⟩:=NT (rec:=rec) (h.reads hi) (.inl h.heap) hok h.ok;refine⟨?_,h1,λt ht=>?_,λt=>?_⟩
 .rcases h4 with h4 |h4
  .rw[h4.1,h4.2];exact h.heap
  .exact h4.2
 .rw[h2,h3]
  by_cases hw:t∈i.wr.toList
  .rw[zL hw,zL hw]
  .rw[zK hw,zK hw];exact h.env t ht
 .rw[h2,h3]
  by_cases hw:t∈i.wr.toList
  .rw[zL hw,zL hw];exact .inr rfl
  .rw[zK hw,zK hw];exact h.low t
def wR(g:Option (Nat×Bool))(s:St):Prop :=
 match g with
 |none=>True
 |some (c,want)=>cA s.env c = .d (.b want)
def wS(g:Option (Nat×Bool))(s:St):Prop :=
 match g with
 |none=>False
 |some (c,want)=>cA s.env c = .d (.b (!want))\/cA s.env c = .kA
theorem Um{rec:Rec}{i:I}{g:Option (Nat×Bool)}{s:St}(h:wR g s):jy rec ⟨i,g⟩ s=aU rec i s:=by
 unfold jy;cases g with
 |none=>rfl
 |some p =>
  obtain⟨c,want⟩:=p;simp only[wR]at h;simp[h]
theorem aj0{rec:Rec}{i:I}{g:Option (Nat×Bool)}{s:St}(h:wS g s):jy rec ⟨i,g⟩ s=zJ i s:=by
 unfold jy;cases g with
 |none=>exact h.elim
 |some p =>
  obtain⟨c,want⟩:=p;simp only[wS]at h;rcases h with h |h<;>simp[h]
def IP(g:Option (Nat×Bool))(ds:List Nat):Prop:=∀c want,g=some (c,want)->c∉ds
mutual
theorem aj1{rec:Rec}:∀{j:J}{g:Option (Nat×Bool)}{s:St},(eP rec (j.flat g) s).ok=true->∀t,t∉j.rj->cA (eP rec (j.flat g) s).env t=cA s.env t
 | .op i,g,s,h,t,ht=>by
  simp only[J.flat,eP,J.rj]at *;obtain⟨v,he,_⟩:=NU h;rw[he,zK ht]
 | .re i,g,s,h,t,ht=>by simp[J.flat,eP]
 | .sc fE d c body x,g,s,h,t,ht=>by
  simp only[J.flat,ym,J.rj,dA,nj]at *;have h1:=IL h;simp only[eP]at h⊢;obtain⟨v,he,_⟩:=NU h;rw[he,zK (by simp[I.wr,I.dst];exact ht.1)]
  exact Un h1 t ht.2
theorem Un{rec:Rec}:∀{js:List J}{g:Option (Nat×Bool)}{s:St},(eP rec (J.ig g js) s).ok=true->∀t,t∉J.j5 js->cA (eP rec (J.ig g js) s).env t=cA s.env t
 | [],g,s,h,t,ht=>by simp[J.ig,eP]
 |j::r,g,s,h,t,ht=>by
  simp only[J.ig,ym,J.j5,dj,nj]at *;rw[Un h t ht.2,aj1 (IL h) t ht.1]
end
theorem wR.mono{g:Option (Nat×Bool)}{s s':St}(h:wR g s)(he:∀c want,g=some (c,want)->cA s'.env c=cA s.env c):wR g s':=by
 cases g with
 |none=>trivial
 |some p=>simp only[wR]at *;rw[he p.1 p.2 rfl];exact h
theorem wS.mono{g:Option (Nat×Bool)}{s s':St}(h:wS g s)(he:∀c want,g=some (c,want)->cA s'.env c=cA s.env c):wS g s':=by
 cases g with
 |none=>exact h
 |some p=>simp only[wS]at *;rw[he p.1 p.2 rfl];exact h
theorem aj2{i:I}{s:St}(t:Nat):cA (zJ i s).env t=if t∈i.wr.toList then .kA else cA s.env t:=by
 simp only[zJ];split
 .rename_i h;exact zL h
 .rename_i h;exact zK h
structure aj3(ds:List Nat)(s s':St):Prop where
 heap:s'.heap=s.heap
 ok:s'.ok=true
 env:∀t,cA s'.env t=if t∈ds then .kA else cA s.env t
mutual
theorem aj4{rec:Rec}:∀{j:J}{T S:List Nat}{g:Option (Nat×Bool)}{s:St},J.Br false T S j=true->(∀t∈S,cA s.env t = .kA)->s.ok=true->IP g j.rj->wS g s ->
  aj3 j.rj s (eP rec (j.flat g) s)
 | .op i,T,S,g,s,hf,hS,hok,hg,ho=>by
  simp only[J.flat,eP,J.rj];rw[aj0 ho];exact⟨rfl,hok,λt=>aj2 t⟩
 | .re i,T,S,g,s,hf,hS,hok,hg,ho=>by simp[J.Br]at hf
 | .sc fE d c body x,T,S,g,s,hf,hS,hok,hg,ho=>by
  simp only[J.Br,bJ,Bool.false_or,kX,WD,fZ,ku,JT]at hf;obtain⟨⟨⟨⟨⟨h1,h2⟩,h3⟩,h4⟩,h5⟩,h6⟩:=hf;have hb:=Uo (rec:=rec) (g:=some (c,!fE)) (s:=s) h3 (by simp) hok (λc' w he=>by simp at he;rw[<-he.1];exact h2) (by simp only[wS];exact .inr (hS c h5))
  simp only[J.flat,ym,J.rj];have ho':wS g (eP rec (J.ig (some (c,!fE)) body) s):=ho.mono λc' w he=>by
   have:=hg c' w he;simp only[J.rj,dA,nj]at this;rw[hb.env,aD this.2]
  simp only[eP];rw[aj0 ho'];refine⟨hb.heap,hb.ok,λt=>?_⟩
  rw[aj2,hb.env];simp only[I.wr,I.dst,Option.mem_toList,gw,dA];by_cases l8:d=t
  .simp[l8]
  .have:¬t=d:=λe=>l8 e.symm
   simp[l8,this]
theorem Uo{rec:Rec}:∀{js:List J}{T S:List Nat}{g:Option (Nat×Bool)}{s:St},J.uZ false T S js=true->(∀t∈S,cA s.env t = .kA)->s.ok=true->IP g (J.j5 js)->wS g s ->
  aj3 (J.j5 js) s (eP rec (J.ig g js) s)
 | [],T,S,g,s,hf,hS,hok,hg,ho=>by simp only[J.ig,eP,J.j5];exact⟨rfl,hok,λt=>by simp⟩
 |j::r,T,S,g,s,hf,hS,hok,hg,ho=>by
  simp only[J.uZ,bJ]at hf;have hj:=aj4 (rec:=rec) hf.1 hS hok (λc w he=>by have:=hg c w he;simp only[J.j5,dj,nj]at this;exact this.1) ho
  have hr:=Uo (rec:=rec) (g:=g) (s:=eP rec (j.flat g) s) hf.2 (λt ht=>by
    rw[hj.env];rcases dj.1 ht with h1 |h1
    .rw[hS t h1];simp
    .rw[aK h1]) hj.ok (λc w he=>by have:=hg c w he;simp only[J.j5,dj,nj]at this;exact this.2)
   (ho.mono λc w he=>by have:=hg c w he;simp only[J.j5,dj,nj]at this;rw[hj.env,aD this.1])
  simp only[J.ig,ym,J.j5];refine⟨hr.heap.trans hj.heap,hr.ok,λt=>?_⟩
  rw[hr.env,hj.env];by_cases h1:t∈J.j5 r<;>by_cases h2:t∈j.rj<;>simp[h1,h2]
end
mutual
theorem aj5{rec:Rec}:∀{j:J}{top:Bool}{T S:List Nat}{g:Option (Nat×Bool)}{s s':St},J.Br top T S j=true->Ag T s s'->IP g j.rj->wR g s'->(jj rec j s).ok=true ->
  Ag (j.FJ++T) (jj rec j s) (eP rec (j.flat g) s')
 | .op i,top,T,S,g,s,s',hf,ha,hg,hact,hok=>by
  simp only[J.Br,bJ]at hf;simp only[J.flat,eP,jj,J.FJ,mu]at *;rw[Um hact];exact ha.op hf.1 hok
 | .re i,top,T,S,g,s,s',hf,ha,hg,hact,hok=>by
  simp only[J.flat,eP,jj,J.FJ,mu]at *;unfold again at *;split at hok
  .split at hok
   .rename_i h;rw[aK h];exact ha
   .simp at hok
  .simp at hok
 | .sc fE d c body x,top,T,S,g,s,s',hf,ha,hg,hact,hok=>by
  simp only[J.Br,bJ,kX,WD,fZ,ku,JT]at hf;obtain⟨⟨⟨⟨⟨h1,h2⟩,h3⟩,h4⟩,h5⟩,h6⟩:=hf;have hc:s.get (.t c)=cA s'.env c:=ha.env c h1;have hgb:IP (some (c,!fE)) (J.j5 body):=λc' w he=>by simp at he;rw[<-he.1];exact h2
  simp only[J.flat,ym,jj,J.FJ]at *;split at hok
  .rename_i gv IQ
   rw[hc]at IQ;split at hok
   ·
    rename_i heq;subst heq;rw[aK rfl];have hb:=Uo (rec:=rec) (g:=some (c,!gv)) (s:=s') h3 (by simp) ha.ok hgb (by simp only[wS];exact .inl (by simpa using IQ))
    have Up:wR g (eP rec (J.ig (some (c,!gv)) body) s'):=hact.mono λc' w he=>by
     have:=hg c' w he;simp only[J.rj,dA,nj]at this;rw[hb.env,aD this.2]
    have v9:St.get (eP rec (J.ig (some (c,!gv)) body) s') (.t c) = .d (.b gv):=by
     show cA _ c=_
     rw[hb.env,aD h2,IQ]
    simp only[eP];rw[Um Up];have hp:aU rec (.pick d (.t c) (if gv then .k (.b true)else x) (if gv then x else .k (.b false))) (eP rec (J.ig (some (c,!gv)) body) s') =
      (eP rec (J.ig (some (c,!gv)) body) s').put d (.d (.b gv)):=by
     simp only[aU,v9];cases gv<;>simp[St.get]
    rw[hp];refine⟨by rw[St.put];exact ha.heap.trans hb.heap.symm,hb.ok,λt ht=>?_,λt=>?_⟩
    .simp only[dj,nj]at ht
     simp only[St.put,cA];by_cases l8:d=t
     .simp[l8]
     .rw[aD l8,aD l8,FI,aD ht.1,hb.env,aD ht.1]
      exact ha.env t ht.2
    .simp only[St.put,cA]
     by_cases l8:d=t
     .simp[l8]
     .rw[aD l8,aD l8,FI,hb.env]
      by_cases hm:t∈J.j5 body
      .rw[aK hm];exact .inl rfl
      .rw[aD hm,aD hm];exact ha.low t
   ·
    rename_i hne;rw[aD hne];have aj6:gv=!fE:=by cases gv<;>cases fE<;>simp_all
    subst aj6;split at hok
    .rename_i y hy
     have hb:=NV (rec:=rec) (g:=some (c,!fE)) (s:=s) (s':=s') h3 ha hgb (by simp only[wR];exact IQ) hok
     have hw:=Un (rec:=rec) hb.ok;have Up:wR g (eP rec (J.ig (some (c,!fE)) body) s'):=hact.mono λc' w he=>by
      have:=hg c' w he;simp only[J.rj,dA,nj]at this;rw[hw c' this.2]
     have v9:St.get (eP rec (J.ig (some (c,!fE)) body) s') (.t c) = .d (.b (!fE)):=by
      show cA _ c=_
      rw[hw c h2,IQ]
     have fT:St.get (eP rec (J.ig (some (c,!fE)) body) s') x = .d (.b y):=by rw[<-hb.get h4];exact hy
     simp only[eP];rw[Um Up];have hp:aU rec (.pick d (.t c) (if fE then .k (.b true)else x) (if fE then x else .k (.b false))) (eP rec (J.ig (some (c,!fE)) body) s') =
       (eP rec (J.ig (some (c,!fE)) body) s').put d (.d (.b y)):=by
      have key:∀z:St,z.get (.t c) = .d (.b (!fE))->z.get x = .d (.b y)->aU rec (.pick d (.t c) (if fE then .k (.b true)else x) (if fE then x else .k (.b false))) z=z.put d (.d (.b y)):=by
       intro z h1 h2;simp only[aU,h1];cases fE<;>simp[h2]
      exact key _ v9 fT
     rw[hp];refine⟨hb.heap,hb.ok,λt ht=>?_,λt=>?_⟩
     .simp only[dj,nj]at ht
      simp only[St.put,cA];by_cases l8:d=t
      .simp[l8]
      .rw[aD l8,aD l8,FI,aD ht.1,hw t ht.1]
       exact ha.env t ht.2
     .simp only[St.put,cA]
      by_cases l8:d=t
      .simp[l8]
      .rw[aD l8,aD l8,FI]
       by_cases hm:t∈J.j5 body
       .rw[aK hm];exact .inl rfl
       .rw[aD hm,hw t hm];exact ha.low t
    .simp at hok
  .simp at hok
theorem NV{rec:Rec}:∀{js:List J}{top:Bool}{T S:List Nat}{g:Option (Nat×Bool)}{s s':St},J.uZ top T S js=true->Ag T s s'->IP g (J.j5 js)->wR g s'->(fU rec js s).ok=true ->
  Ag (J.IM js++T) (fU rec js s) (eP rec (J.ig g js) s')
 | [],top,T,S,g,s,s',hf,ha,hg,hact,hok=>by simpa only[J.ig,eP,fU,J.IM,mu]using ha
 |j::r,top,T,S,g,s,s',hf,ha,hg,hact,hok=>by
  simp only[J.uZ,bJ]at hf;simp only[fU]at hok;have hj:=aj5 (rec:=rec) hf.1 ha (λc w he=>by have:=hg c w he;simp only[J.j5,dj,nj]at this;exact this.1) hact (uz hok)
  have hr:=NV (rec:=rec) (g:=g) hf.2 hj (λc w he=>by have:=hg c w he;simp only[J.j5,dj,nj]at this;exact this.2)
   (hact.mono λc w he=>by have:=hg c w he;simp only[J.j5,dj,nj]at this;exact aj1 hj.ok c this.1) hok
  simp only[J.ig,ym,fU,J.IM,sU];exact hr
end
end Go.VS
namespace Go.VS
section
variable {P:Program}{φ:fj}
variable {nt m dB:Nat}{s:St}{g:Gh}{a:Act}{w:World}{K:Act->World->Prop}{Q:Exit->Act->World->Prop}{o:Oper}{ops:Array Oper}{r:Option Nat}{n:Nat}
theorem aj7{i:I}(h:cL P φ nt o i=true):o.dst=i.dst/\∀d,i.dst=some d->d<nt:=by
 have key:∀{d:Nat}{b:Bool},(gj nt o d&&b)=true->o.dst=some d/\∀k,some d=some k->k<nt:=by
  intro d b h;simp only[bJ]at h;obtain⟨h1,h2⟩:=Bd h.1;exact⟨h1,λk hk=>by simp at hk;omega⟩
 have yp:∀{d:Option Nat}{b:Bool},(p5 nt o d&&b)=true->o.dst=d/\∀k,d=some k->k<nt:=by
  intro d b h;simp only[bJ]at h;exact De h.1
 cases i with
 |st x y n fz =>
  simp only[cL]at h;split at h
  .simp only[bJ,dN]at h
   exact⟨h.1.1.1.1.1,λd hd=>by simp[I.dst]at hd⟩
  .simp at h
 |call d f xs=>exact yp h
 |nR d x xs=>exact yp h
 |mP d f xs=>exact yp h
 |jd d f xs=>exact yp h
 |pI d x xs=>exact yp h
 |inv d nm j4 x xs=>exact yp h
 |pK d x xs=>exact yp h
 |calls d f xs=>exact yp h
 |qp d x es z=>exact yp h
 |bad d=>simp only[cL]at h;exact De h
 |copy d x y es=>exact yp h
 |fA m k v ks =>
  simp only[cL,bJ,dN]at h;exact⟨h.1,λd hd=>by simp[I.dst]at hd⟩
 |_=>first |exact key h |simp[cL]at h
def FK(ops:Array Oper)(o:Oper)(x:X):Bool :=
 match x.g,o.guard with
 |none,none=>true
 |some (c,want),some (j,w')=>want==w'&&((ops[j]?).bind (·.dst))==some c&&(match x.i with | .st ..=>false |_=>true)
 |_,_=>false
theorem aj8(hs:cm φ nt m dB s g a w){i:I}(jm:i.wr=i.dst)(hd:o.dst=i.dst)(hlt:∀d,i.dst=some d->d<nt):cm φ nt m dB (zJ i s) g (a.put o.dst undef) w:=by
 rw[hd];unfold zJ;rw[jm];cases h:i.dst with
 |none=>exact hs
 |some d=>exact hs.wF (hlt d h) (by simp[aI])
theorem aj9(hs:cm φ nt m dB s g a w){x:X}{rec:Rec}(hg:FK ops o x=true)(hd:o.dst=x.i.dst)(hlt:∀d,x.i.dst=some d->d<nt)(hok:(jy rec x s).ok=true)
  {X:Prop}(hop:(jy rec x s)=aU rec x.i s->(aU rec x.i s).ok=true->X)
  (Dl:jy rec x s=zJ x.i s->cm φ nt m dB (zJ x.i s) g (a.put o.dst undef) w->K (a.put o.dst undef) w):
  if Region.wanted o (yielded ops a.tmps)then X else K (a.put o.dst undef) w:=by
 unfold FK at hg;unfold jy at hok hop Dl;split at hg
 .rename_i h1 h2
  simp only[h1]at hok hop;rw[aK (by simp[Region.wanted,h2])]
  exact hop trivial hok
 .rename_i c want j w' h1 h2
  simp only[bJ,dN]at hg;obtain⟨⟨rfl,hj⟩,hk⟩:=hg;have jm:x.i.wr=x.i.dst:=by
   cases hi:x.i<;>simp_all[I.wr]
  simp only[h1]at hok hop Dl;have hc:=hs.env c;have aka:Region.wanted o (yielded ops a.tmps)=(yielded ops a.tmps j==some want):=by simp[Region.wanted,h2]
  have akb:yielded ops a.tmps j=match a.tmps[c]? with |some (.bool b)=>some b |_=>none:=by simp only[yielded,hj,uq];rfl
  rw[aka,akb];cases hv:cA s.env c with
  |d y =>
   cases y with
   |b b =>
    rw[hv]at hc;have hb:=tM (by simpa only[aI]using hc)
    have hsome:a.tmps[c]?=some (.bool b):=by
     cases hq:a.tmps[c]? with
     |none=>simp[Ap,hq,undef]at hb
     |some v=>simp[Ap,hq]at hb;rw[hb]
    simp only[hsome];simp only[hv]at hok hop Dl;by_cases Uq:b=want
    .subst Uq
     simp only[dF]at hok hop;simp only[Py,dF];exact hop trivial hok
    .have:(some b==some want)=false:=by simpa using Uq
     simp only[this,eI,dI];simp only[Uq,dI]at Dl;exact Dl trivial (aj8 hs jm hd hlt)
   |_=>simp[hv]at hok
  |kA =>
   rw[hv]at hc;have hb:a.tmps.getD c undef=undef:=by simpa only[aI]using hc
   have hnone:(match a.tmps[c]? with |some (.bool b)=>some b |_=>none)=(none:Option Bool):=by
    cases hq:a.tmps[c]? with
    |none=>rfl
    |some v =>
     simp[Ap,hq]at hb;rw[hb];rfl
   simp only[hnone];simp only[hv]at Dl;exact Dl trivial (aj8 hs jm hd hlt)
  |_=>simp[hv]at hok
 .simp at hg
def Dm(P:Program)(φ:Nat->Nat)(nt:Nat)(ops:Array Oper):List Oper->List X->Bool
 | [],[]=>true
 |o::os,x::xs=>cL P φ nt o x.i&&FK ops o x&&Dm P φ nt ops os xs
 |_,_=>false
theorem akc{o:Oper}{rest:List Oper}(h:if Region.wanted o (yielded ops a.tmps)then o.wpIn (Wd r) n P a w (wpListIn (Wd r) n P ops Q rest) Q else wpListIn (Wd r) n P ops Q rest (a.put o.dst undef) w):wpListIn (Wd r) n P ops Q (o::rest) a w:=by
 unfold wpListIn;split
 .rename_i hw;rw[aK hw]at h;exact h
 .rename_i hw;rw[aD hw]at h;exact⟨λ_ _=>trivial,h⟩
theorem akd{rec:Rec}(hq:l7 P φ rec)(hy:tT P φ rec):∀{l:List Oper}{xs:List X}{s:St}{g:Gh}{a:Act}{w:World},Dm P φ nt ops l xs=true->cm φ nt m dB s g a w->(eP rec xs s).ok=true ->
  (∀g' a' w',cm φ nt m dB (eP rec xs s) g' a' w'->Frame m s.heap g w (eP rec xs s).heap g' w'->Q .normal a' w')->wpListIn (Wd r) n P ops Q l a w
 | [],[],s,g,a,w,_,hs,_,hQ=>wpListIn_nil (hQ g a w hs (Frame.refl _ _ _ _))
 |o::l,x::xs,s,g,a,w,hc,hs,hok,hQ=>by
  simp only[Dm,bJ]at hc;obtain⟨⟨h1,h2⟩,h3⟩:=hc;simp only[eP]at hok hQ;have hd:=aj7 h1;have next:∀g' a' w',cm φ nt m dB (jy rec x s) g' a' w'->Frame m s.heap g w (jy rec x s).heap g' w'->wpListIn (Wd r) n P ops Q l a' w':=λg' a' w' hs' hf =>
   akd hq hy h3 hs' hok λg2 a2 w2 wT tJ=>hQ g2 a2 w2 wT (hf.trans tJ)
  refine akc (aj9 hs h2 hd.1 hd.2 (IL hok) (λhe u5=>ajX hq hy hs h1 u5 λg' v' w' hs' hf=>?_) (λhe hs'=>?_))
  .exact next g' _ w' (by rw[he];exact hs') (by rw[he];exact hf)
  .exact next g _ w (by rw[he];exact hs') (by rw[he];exact Frame.refl _ _ _ _)
 | [],_::_,_,_,_,_,hc,_,_,_=>by simp[Dm]at hc
 |_::_,[],_,_,_,_,hc,_,_,_=>by simp[Dm]at hc
theorem cm.low{s':St}(hs:cm φ nt m dB s' g a w){T:List Nat}(h:Ag T s s'):cm φ nt m dB s g a w where
 env k:=by
  rcases h.low k with h1 |h1
  .rw[h1];simp[aI]
  .rw[h1,h.heap];exact hs.env k
 heap:=by rw[h.heap];exact hs.heap
 size:=hs.size
 defers:=by rw[h.heap];exact hs.defers
 len:=by rw[h.heap];exact hs.len
theorem Ag.refl(h:s.ok=true):Ag [] s s:=⟨rfl,h,λ_ _=>rfl,λ_=>.inr rfl⟩
def Post(φ:fj)(nt m dB:Nat)(s:St)(g:Gh)(w:World)(s':St)(R:Act->World->Prop):Prop :=
 ∀g' a' w',cm φ nt m dB s' g' a' w'->Frame m s.heap g w s'.heap g' w'->R a' w'
theorem ake{rec:Rec}(hq:l7 P φ rec)(hy:tT P φ rec){js:List J}(hs:cm φ nt m dB s g a w)(hf:J.uZ true [] [] js=true)(hc:Dm P φ nt ops ops.toList (J.ig none js)=true)
  (hok:(fU rec js s).ok=true){id:Nat}(hQ:Post φ nt m dB s g w (fU rec js s) (Q .normal)):(Code.region id ops false).wpIn (Wd r) n P Q a w:=by
 have lJ:=NV (rec:=rec) (g:=none) hf (Ag.refl (uz hok)) (λ_ _ h=>by simp at h) trivial hok
 exact wpIn_region_list (akd hq hy hc hs lJ.ok λg' a' w' hs' hfr=>hQ g' a' w' (hs'.low lJ) (by rw[lJ.heap];exact hfr))
end
end Go.VS
namespace Go.VS
def akf(acc dp:List Nat):Nat:=dp.foldl (λm r=>m |||(2 ^ r |||acc.getD r 0)) 0
def FL:List Nat->List (List Nat)->List Nat
 |acc,[]=>acc
 |acc,dp::r=>FL (acc++[if dp.all (·<acc.length)then akf acc dp else 0]) r
def masks(ds:List (List Nat)):List Nat:=FL [] ds
theorem akg{acc:List Nat}{q:Nat}:∀{dp:List Nat}{m:Nat},(dp.foldl (λm r=>m |||(2 ^ r |||acc.getD r 0)) m).testBit q=true->m.testBit q=true\/∃r∈dp,q=r\/(acc.getD r 0).testBit q=true
 | [],m,h=>.inl h
 |r::dp,m,h=>by
  rcases akg (dp:=dp) h with h |⟨r',h1,h2⟩
  .rw[Nat.testBit_or,Nat.testBit_or,Nat.testBit_two_pow]at h
   simp only[BY,fZ]at h;rcases h with h |h |h
   .exact .inl h
   .exact .inr ⟨r,by simp,.inl h.symm⟩
   .exact .inr ⟨r,by simp,.inr h⟩
  .exact .inr ⟨r',by simp[h1],h2⟩
def NW(D:List (List Nat))(acc:List Nat):Prop :=
 ∀p q,p<acc.length->(acc.getD p 0).testBit q=true->∃r∈D.getD p [],r<p/\(q=r\/(acc.getD r 0).testBit q=true)
theorem Ur{α:Type}{l:List α}{x d:α}{p:Nat}(h:p<l.length):(l++[x]).getD p d=l.getD p d:=by
 simp[List.getD,sQ h]
theorem akh{α:Type}{l:List α}{x d:α}:(l++[x]).getD l.length d=x:=by
 simp[List.getD]
theorem aki{D:List (List Nat)}:∀{ds:List (List Nat)}{acc:List Nat},(∀k,ds[k]?=D[acc.length+k]?)->NW D acc->NW D (FL acc ds)/\(FL acc ds).length=acc.length+ds.length
 | [],acc,_,h=>⟨h,by simp[FL]⟩
 |dp::ds,acc,hd,h=>by
  have h0:D.getD acc.length []=dp:=by have:=hd 0;simp at this;simp[List.getD,<-this]
  have key:NW D (acc++[if dp.all (·<acc.length)then akf acc dp else 0]):=by
   intro p q hp hq;by_cases hlt:p<acc.length
   .rw[Ur hlt]at hq
    obtain⟨r,h1,h2,h3⟩:=h p q hlt hq;exact⟨r,h1,h2,by rw[Ur (by omega)];exact h3⟩
   .have iJ:p=acc.length:=by simp at hp;omega
    subst iJ;rw[akh]at hq;split at hq
    .rename_i hall
     rcases akg hq with h1 |⟨r,h1,h2⟩
     .simp at h1
     .have hr:r<acc.length:=by simpa using yM.1 hall r h1
      exact⟨r,by rw[h0];exact h1,hr,by rw[Ur hr];exact h2⟩
    .simp at hq
  have:=aki (ds:=ds) (λk=>by have:=hd (k+1);simp at this⊢;rw[this];congr 1;omega) key
  refine⟨this.1,?_⟩;rw[FL,this.2];simp;omega
def kM(ms:List Nat)(p q:Nat):Bool:=(ms.getD q 0).testBit p
theorem akj(D:List (List Nat)):NW D (masks D):=(aki (D:=D) (ds:=D) (acc:=[]) (by simp) (λp q hp=>by simp at hp)).1
theorem akk{D:List (List Nat)}{p q:Nat}(h:kM (masks D) q p=true):∃r∈D.getD p [],r<p/\(q=r\/kM (masks D) q r=true):=by
 by_cases hp:p<(masks D).length
 .exact akj D p q hp h
 .have:(masks D).getD p 0=0:=by simp[List.getD,nO (Nat.le_of_not_lt hp)]
  unfold kM at h;rw[this]at h;simp at h
theorem NX{D:List (List Nat)}:∀{p q:Nat},kM (masks D) q p=true->q<p:=by
 intro p;induction p using Nat.strongRecOn with
 |_ p ih =>
  intro q h;obtain⟨r,_,h2,h3⟩:=akk h;rcases h3 with h3 |h3
  .omega
  .have:=ih r h2 h3;omega
theorem akl{D:List (List Nat)}{E:List Nat}(hE:∀p∈E,∀r∈D.getD p [],r∈E):∀{p q:Nat},(∀r∈D.getD p [],r∈E)->kM (masks D) q p=true->q∈E:=by
 intro p;induction p using Nat.strongRecOn with
 |_ p ih =>
  intro q hp h;obtain⟨r,h1,h2,h3⟩:=akk h;have hr:=hp r h1;rcases h3 with h3 |h3
  .rw[h3];exact hr
  .exact ih r h2 (hE r hr) h3
section
variable (wr:Nat->Option Nat)(val:Nat->V)(e0:List (Nat×V))
def wU(E:List Nat):List (Nat×V):=E.flatMap (λp=>W (wr p) (val p))++e0
variable {wr val e0}
theorem Us{t:Nat}:∀{E:List Nat},(∀p∈E,wr p≠some t)->cA (wU wr val e0 E) t=cA e0 t
 | [],_=>rfl
 |p::E,h=>by
  have hp:t∉(wr p).toList:=by
   intro hm;cases hw:wr p with
   |none=>rw[hw]at hm;simp at hm
   |some d=>rw[hw]at hm;simp at hm;exact h p (by simp) (by rw[hw,hm])
  have:=Us (E:=E) (λq hq=>h q (by simp[hq]))
  simp only[wU,Pz,sU]at this⊢;rw[zK hp];exact this
theorem NY{t p:Nat}(hp:wr p=some t):∀{E:List Nat},p∈E->(∀q∈E,wr q=some t->q=p)->cA (wU wr val e0 E) t=val p
 | [],h,_=>by simp at h
 |q::E,h,hu=>by
  simp only[wU,Pz,sU];by_cases hq:wr q=some t
  .have:q=p:=hu q (by simp) hq
   subst this;exact zL (by rw[hq];simp)
  .have ke:t∉(wr q).toList:=by
    intro hm;cases hw:wr q with
    |none=>rw[hw]at hm;simp at hm
    |some d=>rw[hw]at hm;simp at hm;exact hq (by rw[hw,hm])
   rw[zK ke];have IS:p∈E:=by
    rcases dA.1 h with h1 |h1
    .subst h1;exact absurd hp hq
    .exact h1
   exact NY hp IS (λq hq=>hu q (by simp[hq]))
theorem Ut{n t:Nat}{E E':List Nat}(hu:∀p q,p<n->q<n->wr p=some t->wr q=some t->p=q)(hE:∀p∈E,p<n)(hE':∀p∈E',p<n)
  (h:∀p,p<n->wr p=some t->(p∈E↔p∈E')):cA (wU wr val e0 E) t=cA (wU wr val e0 E') t:=by
 by_cases hex:∃p,p∈E/\wr p=some t
 .obtain⟨p,hp,hw⟩:=hex
  have iJ:=(h p (hE p hp) hw).1 hp;rw[NY hw hp (λq hq IT=>hu q p (hE q hq) (hE p hp) IT hw),NY hw iJ (λq hq IT=>hu q p (hE' q hq) (hE p hp) IT hw)]
 .rw[Us (λp hp hw=>hex ⟨p,hp,hw⟩),Us (λp hp hw=>hex ⟨p,(h p (hE' p hp) hw).2 hp,hw⟩)]
end
def nI(ef:Nat->Bool):List Nat->Nat
 | []=>0
 |p::E=>if ef p then max (p+1) (nI ef E)else nI ef E
theorem Uu{ef:Nat->Bool}{k:Nat}:∀{E:List Nat},(∀p∈E,ef p=true->p<k)->nI ef E<=k
 | [],_=>by simp[nI]
 |p::E,h=>by
  have:=Uu (E:=E) (λq hq=>h q (by simp[hq]))
  simp only[nI];split
  .rename_i hp;have:=h p (by simp) hp;omega
  .exact this
theorem IU{ef:Nat->Bool}{p:Nat}(he:ef p=true):∀{E:List Nat},p∈E->p+1<=nI ef E
 | [],h=>by simp at h
 |q::E,h=>by
  simp only[nI];rcases dA.1 h with h1 |h1
  .subst h1;rw[aK he];omega
  .have:=IU he h1
   split<;>omega
theorem akm{ef:Nat->Bool}:∀(E:List Nat),nI ef E=0\/∃p∈E,ef p=true/\nI ef E=p+1
 | []=>.inl rfl
 |p::E=>by
  simp only[nI];have ih:=akm (ef:=ef) E;split
  .rename_i hp
   rcases ih with h |⟨q,h1,h2,h3⟩
   .exact .inr ⟨p,by simp,hp,by omega⟩
   .by_cases hlt:q<=p
    .exact .inr ⟨p,by simp,hp,by omega⟩
    .exact .inr ⟨q,by simp[h1],h2,by omega⟩
  .rcases ih with h |⟨q,h1,h2,h3⟩
   .exact .inl h
   .exact .inr ⟨q,by simp[h1],h2,h3⟩
end Go.VS
namespace Go.VS
def X.slots(x:X):List Nat:=x.i.slots++(match x.g with |some (c,_)=>[c] |none=>[])
def jz(rec:Rec)(xs:List X)(s0:St)(p:Nat):St:=eP rec (xs.take p) s0
theorem Uv{rec:Rec}{xs:List X}{s0:St}{p:Nat}{x:X}(h:xs[p]?=some x):jz rec xs s0 (p+1)=jy rec x (jz rec xs s0 p):=by
 unfold jz;rw[List.take_add_one,h];simp[ym,eP]
theorem akn{rec:Rec}{xs:List X}{s0:St}:jz rec xs s0 xs.length=eP rec xs s0:=by simp[jz]
theorem Uw{rec:Rec}{xs:List X}{s0:St}(h:(eP rec xs s0).ok=true)(p:Nat):(jz rec xs s0 p).ok=true:=by
 have:eP rec xs s0=eP rec (xs.drop p) (eP rec (xs.take p) s0):=by rw[<-ym,Al]
 rw[this]at h;exact IL h
theorem Ux{rec:Rec}{x:X}{s s':St}(h:∀t∈x.slots,cA s.env t=cA s'.env t)(hh:s.heap=s'.heap\/x.i.blind=true):Alike x.i.quiet x.i.wr s s' (jy rec x s) (jy rec x s'):=by
 have hr:∀y∈x.i.reads,s.get y=s'.get y:=by
  intro y hy;cases y with
  |k z=>rfl
  |t n=>exact h n (by simp only[X.slots,I.slots];exact DZ _ (Ao.2 ⟨_,hy,by simp[A.slots]⟩))
 cases x with
 |mk i g =>
  cases g with
  |none=>exact NT hr hh
  |some p =>
   obtain⟨c,want⟩:=p;have hc:=h c (by simp[X.slots])
   simp only[jy,<-hc];generalize cA s.env c=v;cases v with
   |d y =>
    cases y with
    |b b =>
     simp only;split
     .exact NT hr hh
     .intro h1 h2;exact⟨h2,.kA,rfl,rfl,.inl ⟨rfl,rfl⟩⟩
    |_=>exact Alike.fail
   |kA=>intro h1 h2;exact⟨h2,.kA,rfl,rfl,.inl ⟨rfl,rfl⟩⟩
   |_=>exact Alike.fail
def Uy(rec:Rec)(s:St)(i:I):Prop:=∃d,i.wr=some d/\(aU rec i s).ok=true/\cA (aU rec i s).env d=cA s.env d
section
variable {rec:Rec}{xs:List X}{s0:St}{D:List (List Nat)}{R:List (Nat×I)}
structure FM(D:List (List Nat))(R:List (Nat×I))(n:Nat)(xs:List X)(p q:Nat)(x y:X):Prop where
 uniq:∀t,x.i.wr=some t->y.i.wr≠some t
 rw:kM (masks D) p q=false->(∀t,x.i.wr=some t->t∉y.slots)/\(∀t,y.i.wr=some t->t∉x.slots)
 eff:kM (masks D) p q=false->x.i.quiet=true\/y.i.quiet=true
 left:kM (masks D) p q=false->x.i.quiet=false->y.i.blind=true
 right:kM (masks D) p q=false->y.i.quiet=false->x.i.blind=true\/(x.g=none/\(q+1,x.i)∈R /\
  ∀r z t,xs[r]?=some z->z.i.wr=some t->t∈x.slots->kM (masks D) r p=true\/q<r)
noncomputable def valOf (rec:Rec)(xs:List X)(s0:St)(p:Nat):V :=
 match xs[p]? with
 |some x=>match x.i.wr with
  |some d=>cA (jz rec xs s0 (p+1)).env d
  |none=>.u
 |none=>.u
def qI(xs:List X)(p:Nat):Option Nat:=(xs[p]?).bind (·.i.wr)
def nJ(xs:List X)(p:Nat):Bool:=((xs[p]?).map (!·.i.quiet)).getD false
noncomputable def sigma (rec:Rec)(xs:List X)(s0:St)(E:List Nat):St:=⟨wU (qI xs) (valOf rec xs s0) s0.env E,(jz rec xs s0 (nI (nJ xs) E)).heap,true⟩
theorem ako{d:Option Nat}{v v':V}(h:∀t,d=some t->v=v'):W d v=W d v':=by
 cases d with
 |none=>rfl
 |some t=>rw[h t rfl]
theorem IV(hok:(eP rec xs s0).ok=true):∀p,p<=xs.length->(jz rec xs s0 p).env=wU (qI xs) (valOf rec xs s0) s0.env (List.range p).reverse
 | 0,_=>by simp[jz,eP,wU]
 |p+1,hp=>by
  have hx:xs[p]?=some xs[p]:=by simp
  have h1:=Uv (rec:=rec) (s0:=s0) hx;have u5:=Uw hok (p+1);rw[h1]at u5;obtain⟨v,hv,_⟩:=NU u5;have hw:qI xs p=xs[p].i.wr:=by simp only[qI,hx,uq]
  have hval:∀t,xs[p].i.wr=some t->v=valOf rec xs s0 p:=by
   intro t ht;simp only[valOf,hx,ht,h1,hv];rw[zL (by simp)]
  rw[h1,hv,IV hok p (by omega),bt,List.reverse_append]
  simp only[wU,List.reverse_singleton,List.flatMap_append,Pz,List.flatMap_nil,nk,sU,hw];rw[ako hval]
theorem NZ(hok:(eP rec xs s0).ok=true){p:Nat}:∀{q:Nat},p<=q->q<=xs.length->(∀r,p<=r->r<q->nJ xs r=false)->(jz rec xs s0 q).heap=(jz rec xs s0 p).heap:=by
 intro q hpq;induction hpq with
 |refl=>intro _ _;rfl
 |step h ih =>
  rename_i k;intro hk hq;have hx:xs[k]?=some xs[k]:=by simp
  have h1:=Uv (rec:=rec) (s0:=s0) hx;have u5:=Uw hok (k+1);rw[h1]at u5;obtain⟨v,_,hh⟩:=NU u5;have ia:xs[k].i.quiet=true:=by
   have:=hq k h (Nat.lt_succ_self k);simpa only[nJ,hx,sV,vB,Wu]using this
  rw[h1,hh ia];exact ih (by omega) (λr h1 h2=>hq r h1 (by omega))
theorem find(hok:(eP rec xs s0).ok=true)(rP:∀p q x y,p<q->xs[p]?=some x->xs[q]?=some y->FM D R xs.length xs p q x y)
  (hR:∀k i,(k,i)∈R->Uy rec (jz rec xs s0 k) i)
  {E:List Nat}(hE:∀p∈E,p<xs.length)(hclosed:∀p∈E,∀r∈D.getD p [],r∈E){j:Nat}{x:X}(hx:xs[j]?=some x)(hj:j∉E)(N0:∀r∈D.getD j [],r∈E):
  jy rec x (sigma rec xs s0 E)=sigma rec xs s0 (j::E):=by
 have akp:j<xs.length:=by
  rcases kZ j xs.length with h |h
  .exact h
  .simp[nO h]at hx
 have aV:∀(p:Nat)(hp:p<xs.length),xs[p]?=some xs[p]:=λp hp=>by simp[hp]
 have before:∀p,kM (masks D) p j=true->p∈E:=λp h=>akl hclosed N0 h
 have after:∀p,kM (masks D) j p=true->p∉E:=λp h hp=>hj (akl hclosed (hclosed p hp) h)
 have Uz:∀t p q,p<xs.length->q<xs.length->qI xs p=some t->qI xs q=some t->p=q:=by
  intro t p q hp hq h1 h2;simp only[qI,aV p hp,aV q hq,uq]at h1 h2;rcases sR p q with h |h |h
  .exact absurd h2 ((rP p q _ _ h (aV p hp) (aV q hq)).uniq t h1)
  .exact h
  .exact absurd h1 ((rP q p _ _ h (aV q hq) (aV p hp)).uniq t h2)
 have akq:∀t,t∈x.slots->∀p,p<xs.length->p≠j->qI xs p=some t->kM (masks D) p j=true\/kM (masks D) j p=true:=by
  intro t ht p hp Dn hw;simp only[qI,aV p hp,uq]at hw;rcases sR p j with h |h |h
  .cases hb:kM (masks D) p j
   .exact absurd ht (((rP p j _ _ h (aV p hp) hx).rw hb).1 t hw)
   .exact .inl rfl
  .exact absurd h Dn
  .cases hb:kM (masks D) j p
   .exact absurd ht (((rP j p _ _ h hx (aV p hp)).rw hb).2 t hw)
   .exact .inr rfl
 have Dp:∀{p k:Nat},p∈(List.range k).reverse↔p<k:=by simp
 have UA:∀k,k<=xs.length->∀p∈(List.range k).reverse,p<xs.length:=λk hk p hp=>by have:=Dp.1 hp;omega
 have akr:∀t,t∈x.slots->cA (jz rec xs s0 j).env t=cA (sigma rec xs s0 E).env t:=by
  intro t ht;rw[IV hok j (by omega)]
  refine Ut (n:=xs.length) (λp q hp hq h1 h2=>Uz t p q hp hq h1 h2) (UA j (by omega)) hE λp hp hw=>?_
  by_cases Dn:p=j
  .subst Dn;exact⟨λh=>absurd (Dp.1 h) (by omega),λh=>absurd h hj⟩
  .rcases akq t ht p hp Dn hw with h |h
   .exact⟨λ_=>before p h,λ_=>Dp.2 (NX h)⟩
   .have:=NX h
    exact⟨λh1=>absurd (Dp.1 h1) (by omega),λh1=>absurd h1 (after p h)⟩
 have hstep:=Uv (rec:=rec) (s0:=s0) hx;have zM:=Uw hok (j+1);rw[hstep]at zM;have UB:qI xs j=x.i.wr:=by simp[qI,hx]
 have hej:nJ xs j=!x.i.quiet:=by simp[nJ,hx]
 have finish:∀{r:St}{v:V},r.ok=true->r.env=W x.i.wr v++(sigma rec xs s0 E).env->(∀t,x.i.wr=some t->v=valOf rec xs s0 j)->r.heap=(jz rec xs s0 (nI (nJ xs) (j::E))).heap->r=sigma rec xs s0 (j::E):=by
  intro r v h1 h2 h3 h4;cases r with
  |mk e h o =>
   simp only at h1 h2 h4;subst h1;simp only[sigma,St.mk.injEq,yN];refine⟨?_,h4⟩;rw[h2,ako h3];simp[sigma,wU,UB]
 have aks:∀{v:V},(jy rec x (jz rec xs s0 j)).env=W x.i.wr v++(jz rec xs s0 j).env->∀t,x.i.wr=some t->v=valOf rec xs s0 j:=by
  intro v hv t ht;simp only[valOf,hx,ht,hstep,hv];rw[zL (by simp)]
 by_cases hq:x.i.quiet=true
 ·
  have N1:nI (nJ xs) (j::E)=nI (nJ xs) E:=by simp[nI,hej,hq]
  have direct:((jz rec xs s0 j).heap=(sigma rec xs s0 E).heap\/x.i.blind=true)->jy rec x (sigma rec xs s0 E)=sigma rec xs s0 (j::E):=by
   intro hh;obtain⟨h1,v,h2,h3,h4⟩:=Ux (rec:=rec) akr hh zM rfl;refine finish h1 h3 (aks h2) ?_;rcases h4 with h4 |h4
   .rw[h4.2,N1];rfl
   .rw[hq]at h4;simp at h4
  by_cases hb:x.i.blind=true
  .exact direct (.inr hb)
  .rcases akm (ef:=nJ xs) E with h0 |⟨k,hk,hek,ij⟩
   ·
    refine direct (.inl ?_);simp only[sigma,h0];refine NZ hok (BX _) (by omega) λr _ hr=>?_
    cases u6:nJ xs r with
    |false=>rfl
    |true =>
     exfalso;have hr':r<xs.length:=by omega
     have FN:xs[r].i.quiet=false:=by simpa only[nJ,aV r hr',sV,vB,kX]using u6
     cases wW:kM (masks D) r j with
     |true=>have:=IU u6 (before r wW);omega
     |false=>exact hb ((rP r j _ _ hr (aV r hr') hx).left wW FN)
   .by_cases hkj:k<j
    .refine direct (.inl ?_)
     simp only[sigma,ij];refine NZ hok (by omega) (by omega) λr jo lM=>?_
     cases u6:nJ xs r with
     |false=>rfl
     |true =>
      exfalso;have hr':r<xs.length:=by omega
      have FN:xs[r].i.quiet=false:=by simpa only[nJ,aV r hr',sV,vB,kX]using u6
      cases wW:kM (masks D) r j with
      |true=>have:=IU u6 (before r wW);omega
      |false=>exact hb ((rP r j _ _ lM (aV r hr') hx).left wW FN)
    .have hjk:j<k:=by
      have:k≠j:=λh=>hj (h▸hk)
      omega
     have akt:=hE k hk;have hqk:xs[k].i.quiet=false:=by simpa only[nJ,aV k akt,sV,vB,kX]using hek
     have hnb:kM (masks D) j k=false:=by
      cases Bm:kM (masks D) j k with
      |false=>rfl
      |true=>exact absurd hk (after k Bm)
     rcases(rP j k _ _ hjk hx (aV k akt)).right hnb hqk with h |⟨hg,hin,aku⟩
     .exact absurd h hb
     .obtain⟨d,hd,u5,hsame⟩:=hR _ _ hin
      have hxi:∀s,jy rec x s=aU rec x.i s:=λs=>by simp[jy,hg]
      have akv:∀t,t∈x.slots->cA (jz rec xs s0 (k+1)).env t=cA (sigma rec xs s0 E).env t:=by
       intro t ht;rw[IV hok (k+1) (by omega)]
       refine Ut (n:=xs.length) (λp q hp hq h1 h2=>Uz t p q hp hq h1 h2) (UA (k+1) (by omega)) hE λp hp hw=>?_
       have hw':xs[p].i.wr=some t:=by simpa only[qI,aV p hp,uq]using hw
       rcases aku p _ t (aV p hp) hw' ht with h |h
       .have:=NX h
        exact⟨λ_=>before p h,λ_=>Dp.2 (by omega)⟩
       .refine⟨λh1=>absurd (Dp.1 h1) (by omega),λh1=>?_⟩
        rcases akq t ht p hp (by omega) hw with h2 |h2
        .have:=NX h2;omega
        .exact absurd h1 (after p h2)
      have wX:(jz rec xs s0 (k+1)).heap=(sigma rec xs s0 E).heap:=by simp only[sigma,ij]
      rw[<-hxi]at u5;obtain⟨h1,v,h2,h3,h4⟩:=Ux (rec:=rec) akv (.inl wX) u5 rfl;refine finish h1 h3 (λt ht=>?_) ?_
      .rw[hd]at ht
       have:d=t:=by simpa using ht
       subst this;rw[<-hxi,h2,zL (by rw[hd];simp),IV hok (k+1) (by omega)]at hsame
       rw[hsame,NY (wr:=qI xs) (p:=j) (by rw[UB,hd]) (Dp.2 (by omega)) (λq hq IT=>Uz d q j (UA (k+1) (by omega) q hq) akp IT (by rw[UB,hd]))]
      .rcases h4 with h4 |h4
       .rw[h4.2,N1];rfl
       .rw[hq]at h4;simp at h4
 ·
  have ke:x.i.quiet=false:=by simpa using hq
  have akw:∀r,nJ xs r=true->r≠j->r<xs.length->(r∈E↔r<j):=by
   intro r u6 hrj hr';have FN:xs[r].i.quiet=false:=by simpa only[nJ,aV r hr',sV,vB,kX]using u6
   rcases sR r j with h |h |h
   .refine⟨λ_=>h,λ_=>?_⟩
    cases wW:kM (masks D) r j with
    |true=>exact before r wW
    |false =>
     rcases(rP r j _ _ h (aV r hr') hx).eff wW with h1 |h1
     .rw[FN]at h1;simp at h1
     .rw[ke]at h1;simp at h1
   .exact absurd h hrj
   .refine⟨λhm=>?_,λhlt=>by omega⟩
    cases wW:kM (masks D) j r with
    |true=>exact absurd hm (after r wW)
    |false =>
     rcases(rP j r _ _ h hx (aV r hr')).eff wW with h1 |h1
     .rw[ke]at h1;simp at h1
     .rw[FN]at h1;simp at h1
  have N1:nI (nJ xs) E<=j:=Uu λp hp hep=>(akw p hep (λh=>hj (h▸hp)) (hE p hp)).1 hp
  have wX:(jz rec xs s0 j).heap=(sigma rec xs s0 E).heap:=by
   simp only[sigma];refine NZ hok N1 (by omega) λr jo lM=>?_
   cases u6:nJ xs r with
   |false=>rfl
   |true =>
    exfalso;have:=IU u6 ((akw r u6 (by omega) (by omega)).2 lM)
    omega
  obtain⟨h1,v,h2,h3,h4⟩:=Ux (rec:=rec) akr (.inl wX) zM rfl;refine finish h1 h3 (aks h2) ?_;have akx:nI (nJ xs) (j::E)=j+1:=by simp only[nI,hej,ke];simp;omega
  rw[akx,hstep];rcases h4 with h4 |h4
  .rw[h4.1,h4.2];exact wX.symm
  .exact h4.2.symm
end
end Go.VS
namespace Go.VS
def J.FO:List J->List (Nat×I)
 | []=>[]
 |j::r=>(match j with | .re i=>[(0,i)] |_=>[])++(J.FO r).map λp=>((j.flat none).length+p.1,p.2)
theorem aky{rec:Rec}:∀{js:List J}{T S:List Nat}{s s':St},J.uZ true T S js=true->Ag T s s'->(fU rec js s).ok=true->∀k i,(k,i)∈J.FO js->Uy rec (jz rec (J.ig none js) s' k) i
 | [],_,_,_,_,_,_,_,_,_,h=>by simp[J.FO]at h
 |j::r,T,S,s,s',hf,ha,hok,k,i,hin=>by
  simp only[J.uZ,bJ]at hf;simp only[fU]at hok;simp only[J.FO,dj,gV]at hin;rcases hin with hin |⟨⟨k',i'⟩,hin,heq⟩
  .cases j with
   |re i' =>
    simp at hin;obtain⟨rfl,rfl⟩:=hin;have hj:=hf.1;simp only[J.Br,bJ,Ai]at hj;obtain⟨⟨h1,h2⟩,h3⟩:=hj;have zM:=uz hok;simp only[jj,again]at zM;have hwd:i.wr=i.dst:=by cases i<;>first |rfl |simp[I.quiet]at h2
    cases hd:i.dst with
    |none=>simp[hd]at zM
    |some d =>
     simp only[hd]at zM;split at zM
     .rename_i hc
      simp only[bJ]at hc;have lJ:=ha.op (rec:=rec) h1 hc.1;rw[hwd,hd]at h3;have hdT:d∉T:=by simpa using h3
      refine⟨d,by rw[hwd,hd],lJ.ok,?_⟩
      have e1:=V.uy hc.2;rw[lJ.env d hdT,ha.env d hdT]at e1;simpa[jz,eP]using e1
     .simp at zM
   |op _=>simp at hin
   |sc _ _ _ _ _=>simp at hin
  .simp only[ur]at heq
   obtain⟨rfl,rfl⟩:=heq;have hj:=aj5 (rec:=rec) (g:=none) hf.1 ha (λ_ _ h=>by simp at h) trivial (uz hok)
   have ih:=aky hf.2 hj hok k' i' hin
   have:jz rec (J.ig none (j::r)) s' ((j.flat none).length+k')=jz rec (J.ig none r) (eP rec (j.flat none) s') k':=by
    simp only[jz,J.ig,List.take_length_add_append,ym]
   rw[this];exact ih
def A.same:A->A->Bool
 | .t n,.t m=>n==m
 | .k (.i q n),.k (.i q' n')=>q==q'&&n==n'
 |_,_=>false
theorem A.uy{a b:A}(h:A.same a b=true):a=b:=by
 unfold A.same at h;split at h
 .simp at h;rw[h]
 .simp at h;rw[h.1,h.2]
 .simp at h
def A.N2:Option A->Option A->Bool
 |none,none=>true
 |some a,some b=>A.same a b
 |_,_=>false
theorem A.akz{a b:Option A}(h:A.N2 a b=true):a=b:=by
 unfold A.N2 at h;split at h
 .rfl
 .rw[A.uy h]
 .simp at h
def I.same:I->I->Bool
 | .sl d x l h es,.sl d' x' l' h' es'=>d==d'&&A.same x x'&&A.N2 l l'&&A.N2 h h'&&es==es'
 | .ld d x n ag,.ld d' x' n' ag'=>d==d'&&A.same x x'&&n==n'&&ag==ag'
 | .fa d x n k,.fa d' x' n' k'=>d==d'&&A.same x x'&&n==n'&&k==k'
 | .ji d x n k,.ji d' x' n' k'=>d==d'&&A.same x x'&&A.same n n'&&k==k'
 | .len d x k,.len d' x' k'=>d==d'&&A.same x x'&&k==k'
 | .qo d n x k,.qo d' n' x' k'=>d==d'&&n==n'&&A.same x x'&&k==k'
 |_,_=>false
theorem I.uy{a b:I}(h:I.same a b=true):a=b:=by
 unfold I.same at h;split at h
 .simp only[bJ,dN]at h;obtain⟨⟨⟨⟨rfl,h2⟩,h3⟩,h4⟩,rfl⟩:=h;rw[A.uy h2,A.akz h3,A.akz h4]
 .simp only[bJ,dN]at h;obtain⟨⟨⟨rfl,h2⟩,rfl⟩,rfl⟩:=h;rw[A.uy h2]
 .simp only[bJ,dN]at h;obtain⟨⟨⟨rfl,h2⟩,rfl⟩,rfl⟩:=h;rw[A.uy h2]
 .simp only[bJ,dN]at h;obtain⟨⟨⟨rfl,h2⟩,h3⟩,rfl⟩:=h;rw[A.uy h2,A.uy h3]
 .simp only[bJ,dN]at h;obtain⟨⟨rfl,h2⟩,rfl⟩:=h;rw[A.uy h2]
 .simp only[bJ,dN]at h;obtain⟨⟨⟨rfl,rfl⟩,h2⟩,rfl⟩:=h;rw[A.uy h2]
 .simp at h
def N3(ms:List Nat)(p q:Nat)(x:X):Nat->List X->Bool
 |_,[]=>true
 |r,z::zs=>(tU z.i.wr.toList x.slots||kM ms r p||decide (q<r))&&N3 ms p q x (r+1) zs
def UC(ms:List Nat)(R:List (Nat×I))(xs:List X)(p q:Nat)(x y:X):Bool :=
 tU x.i.wr.toList y.i.wr.toList &&
 (kM ms p q ||
  (tU x.i.wr.toList y.slots&&tU y.i.wr.toList x.slots&&(x.i.quiet||(y.i.quiet&&y.i.blind)) &&
   (y.i.quiet||x.i.blind||(x.g.isNone&&R.any (λr=>r.1==q+1&&I.same r.2 x.i)&&N3 ms p q x 0 xs))))
def N4(ms:List Nat)(R:List (Nat×I))(xs:List X)(p:Nat)(x:X):Nat->List X->Bool
 |_,[]=>true
 |q,y::ys=>UC ms R xs p q x y&&N4 ms R xs p x (q+1) ys
def N5(ms:List Nat)(R:List (Nat×I))(xs:List X):Nat->List X->Bool
 |_,[]=>true
 |p,x::r=>N4 ms R xs p x (p+1) r&&N5 ms R xs (p+1) r
theorem akA{ms:List Nat}{p q:Nat}{x:X}:∀{zs:List X}{r:Nat},N3 ms p q x r zs=true->∀k z t,zs[k]?=some z->z.i.wr=some t->t∈x.slots->kM ms (r+k) p=true\/q<r+k
 | [],_,_,_,_,_,h,_,_=>by simp at h
 |z::zs,r,h,k,z',t,hz,hw,ht=>by
  simp only[N3,bJ,BY,fZ]at h;cases k with
  |zero =>
   simp at hz;subst hz;rcases h.1 with(h1 |h1) |h1
   .exact absurd ht (IN h1 (by rw[hw];simp))
   .exact .inl h1
   .exact .inr h1
  |succ k =>
   have:=akA h.2 k z' t (by simpa using hz) hw ht
   rwa [pE,qT 1 k]at this
theorem akB{D:List (List Nat)}{R:List (Nat×I)}{xs:List X}{p q:Nat}{x y:X}(h:UC (masks D) R xs p q x y=true):FM D R xs.length xs p q x y:=by
 simp only[UC,bJ,BY]at h;obtain⟨h0,h⟩:=h;refine⟨λt hx hy=>absurd (show t∈y.i.wr.toList by rw[hy];simp) (IN h0 (by rw[hx];simp)),λhb=>?_,λhb=>?_,λhb=>?_,λhb=>?_⟩ <;>
  rw[hb]at h<;>simp only[eI,false_or]at h<;>obtain⟨⟨⟨h1,h2⟩,h3⟩,h4⟩:=h
 .exact⟨λt hx=>IN h1 (by rw[hx];simp),λt hy=>IN h2 (by rw[hy];simp)⟩
 .exact h3.imp id (·.1)
 .intro hx
  rcases h3 with h3 |h3
  .rw[hx]at h3;simp at h3
  .exact h3.2
 .intro hy
  rcases h4 with(h4 |h4) |h4
  .rw[hy]at h4;simp at h4
  .exact .inl h4
  .refine .inr ⟨by simpa using h4.1.1,?_,λr z t hz hw ht=>by simpa using akA h4.2 r z t hz hw ht⟩
   have:=h4.1.2;simp only[rV,bJ,dN]at this;obtain⟨⟨k,i⟩,hin,hk,hi⟩:=this;simp only at hk hi;rw[<-I.uy hi,<-hk];exact hin
theorem akC{D:List (List Nat)}{R:List (Nat×I)}{xs:List X}{p:Nat}{x:X}:∀{ys:List X}{q:Nat},N4 (masks D) R xs p x q ys=true->∀k y,ys[k]?=some y->FM D R xs.length xs p (q+k) x y
 | [],_,_,_,_,h=>by simp at h
 |y::ys,q,h,k,y',hy=>by
  simp only[N4,bJ]at h;cases k with
  |zero=>simp at hy;subst hy;exact akB h.1
  |succ k =>
   have:=akC h.2 k y' (by simpa using hy)
   rwa [pE,qT 1 k]at this
theorem akD{D:List (List Nat)}{R:List (Nat×I)}{xs:List X}:∀{ys:List X}{p:Nat},N5 (masks D) R xs p ys=true->∀i j x y,i<j->ys[i]?=some x->ys[j]?=some y->FM D R xs.length xs (p+i) (p+j) x y
 | [],_,_,_,_,_,_,_,h,_=>by simp at h
 |z::ys,p,h,i,j,x,y,hij,hx,hy=>by
  simp only[N5,bJ]at h;cases j with
  |zero=>omega
  |succ j =>
   cases i with
   |zero =>
    simp at hx;subst hx;have:=akC h.1 j y (by simpa using hy)
    rwa [pE,qT 1 j]at this
   |succ i =>
    have:=akD h.2 i j x y (by omega) (by simpa using hx) (by simpa using hy)
    rwa [pE,qT 1 i,pE,qT 1 j]at this
section
variable (P:Program)(φ:Nat->Nat)(nt:Nat)
def Dq(ops:Array Oper)(perm:List Nat)(i:Nat):List Nat :=
 match ops[i]? with
 |some o=>(o.after.toList.filter λe=>Region.binds .any e).map λe=>perm.idxOf e.on
 |none=>[]
def FP(ops:Array Oper)(perm:List Nat):Nat->List Nat->List X->Bool
 |_,[],[]=>true
 |p,i::is,x::xs=>(match ops[i]? with |some o=>cL P φ nt o x.i&&FK ops o x&&o.after.all (λe=>decide (e.on<ops.size)) |none=>false)&&(Dq ops perm i).all (·<p)&&FP ops perm (p+1) is xs
 |_,_,_=>false
def N6(ops:Array Oper)(perm:List Nat)(js:List J):Bool :=
 J.uZ true [] [] js&&perm.length==ops.size&&decide perm.Nodup&&(List.range ops.size).all (perm.contains ·)&&FP P φ nt ops perm 0 perm (J.ig none js) &&
  N5 (masks (perm.map (Dq ops perm))) (J.FO js) (J.ig none js) 0 (J.ig none js)
variable {P φ nt}
theorem akE{ops:Array Oper}{perm:List Nat}:∀{is:List Nat}{xs:List X}{p:Nat},FP P φ nt ops perm p is xs=true->is.length=xs.length /\
  ∀k i x,is[k]?=some i->xs[k]?=some x->(∃o,ops[i]?=some o/\cL P φ nt o x.i=true/\FK ops o x=true/\∀e∈o.after,e.on<ops.size)/\∀r∈Dq ops perm i,r<p+k
 | [],[],p,_=>⟨rfl,λk i x h=>by simp at h⟩
 |i::is,x::xs,p,h=>by
  simp only[FP,bJ]at h;obtain⟨⟨h1,h2⟩,h3⟩:=h;obtain⟨hl,ih⟩:=akE h3;refine⟨by simp[hl],λk i' x' hi hx=>?_⟩
  cases k with
  |zero =>
   simp at hi hx;subst hi;subst hx;refine⟨?_,by simpa using h2⟩
   split at h1
   .rename_i o ho
    simp only[bJ,Array.all_eq_true_iff_forall_mem,fZ]at h1;exact⟨o,ho,h1.1.1,h1.1.2,h1.2⟩
   .simp at h1
  |succ k =>
   have:=ih k i' x' (by simpa using hi) (by simpa using hx)
   rwa [pE,qT 1 k]at this
 | [],_::_,_,h=>by simp[FP]at h
 |_::_,[],_,h=>by simp[FP]at h
end
end Go.VS
namespace Go.VS
section
variable {P:Program}{φ:fj}
variable {nt m dB:Nat}{s:St}{g:Gh}{a:Act}{w:World}{K:Act->World->Prop}{Q:Exit->Act->World->Prop}{o:Oper}{ops:Array Oper}{r:Option Nat}{n:Nat}
theorem cm.congr{s':St}(hs:cm φ nt m dB s' g a w)(he:∀t,cA s.env t=cA s'.env t)(hh:s.heap=s'.heap):cm φ nt m dB s g a w where
 env k:=by rw[he,hh];exact hs.env k
 heap:=by rw[hh];exact hs.heap
 size:=hs.size
 defers:=by rw[hh];exact hs.defers
 len:=by rw[hh];exact hs.len
theorem cm.forget(hs:cm φ nt m dB s g a w)(fl:List Nat)(ok:Bool):cm φ nt m dB ⟨pL fl s.env,s.heap,ok⟩ g a w where
 env k:=by
  simp only[FI];split
  .simp[aI]
  .exact hs.env k
 heap:=hs.heap
 size:=hs.size
 defers:=hs.defers
 len:=hs.len
theorem cm.drew(hs:cm φ nt m dB s g a w):cm φ nt m dB s g a w.drew/\Frame m s.heap g w s.heap g w.drew:=by
 have hg:=gN.drew w;refine⟨?_,?_⟩
 .have:=hs.Nm (I':=g.I) hg (λ_ _=>rfl) (λb hb=>hs.heap.new b hb)
  exact this
 .exact C6 m hs.heap hg (λ_ _=>rfl)
structure akF(P:Program)(φ:fj)(nt:Nat)(ops:Array Oper)(perm:List Nat)(xs:List X):Prop where
 len:perm.length=ops.size
 nodup:perm.Nodup
 has:∀i,i<ops.size->i∈perm
 UD:perm.length=xs.length
 place:∀k i x,perm[k]?=some i->xs[k]?=some x->(∃o,ops[i]?=some o/\cL P φ nt o x.i=true/\FK ops o x=true/\∀e∈o.after,e.on<ops.size)/\∀r∈Dq ops perm i,r<k
def FQ(ops:Array Oper)(perm:List Nat):List (List Nat):=perm.map (Dq ops perm)
theorem akG{perm:List Nat}{p i:Nat}(h:perm[p]?=some i):(FQ ops perm).getD p []=Dq ops perm i:=by
 simp[FQ,List.getD,h]
structure N7(φ:fj)(nt m dB:Nat)(ops:Array Oper)(perm:List Nat)(rec:Rec)(xs:List X)(s0:St)(g0:Gh)(w0:World)(fuel:Nat)(listed:Array Bool)(a:Act)(w:World)(E Rm:List Nat)(g:Gh):Prop where
 size:listed.size=ops.size
 nK:∀p i,perm[p]?=some i->(p∈E↔listed.getD i false=true)
 lt:∀p∈E,p<xs.length
 closed:∀p∈E,∀r∈(FQ ops perm).getD p [],r∈E
 rest:∀p,p<xs.length->p∉E->p∈Rm
 fuel:Rm.length<=fuel
 rel:cm φ nt m dB (sigma rec xs s0 E) g a w
 frame:Frame m s0.heap g0 w0 (sigma rec xs s0 E).heap g w
theorem N8{perm:List Nat}(h:perm.Nodup){p i:Nat}(hp:perm[p]?=some i):perm.idxOf i=p:=by
 have hlt:p<perm.length:=by
  rcases kZ p perm.length with h1 |h1
  .exact h1
  .simp[nO h1]at hp
 have he:perm[p]=i:=by simpa[qR hlt]using hp
 rw[<-he];exact Pt h p hlt
theorem akH{rec:Rec}(hq:l7 P φ rec)(hy:tT P φ rec){perm:List Nat}{xs:List X}{s0:St}{g0:Gh}{w0:World}{R:List (Nat×I)}(hO:akF P φ nt ops perm xs)
  (hok:(eP rec xs s0).ok=true)(rP:∀p q x y,p<q->xs[p]?=some x->xs[q]?=some y->FM (FQ ops perm) R xs.length xs p q x y)
  (hR:∀k i,(k,i)∈R->Uy rec (jz rec xs s0 k) i)(hQ:Post φ nt m dB s0 g0 w0 (eP rec xs s0) (Q .normal)):
  ∀(fuel:Nat)(listed:Array Bool)(a:Act)(w:World)(E Rm:List Nat)(g:Gh),N7 φ nt m dB ops perm rec xs s0 g0 w0 fuel listed a w E Rm g->wpAnyIn (Wd r) n P .any ops Q fuel listed a w:=by
 have N9:∀i,i<ops.size->∃p,perm[p]?=some i/\p<xs.length:=by
  intro i hi;obtain⟨p,hp,he⟩:=sS (hO.has i hi);exact⟨p,by simp[hp,he],by rw[<-hO.UD];exact hp⟩
 have aV:∀(p:Nat)(hp:p<xs.length),xs[p]?=some xs[p]:=λp hp=>by simp[hp]
 have akI:∀(p:Nat),p<xs.length->∃i,perm[p]?=some i:=λp hp=>by
  have:p<perm.length:=by rw[hO.UD];exact hp
  exact⟨perm[p],by simp[this]⟩
 have akJ:∀{fuel:Nat}{listed:Array Bool}{a:Act}{w:World}{E Rm:List Nat}{g:Gh},N7 φ nt m dB ops perm rec xs s0 g0 w0 fuel listed a w E Rm g->∀{p i:Nat}{o:Oper},perm[p]?=some i->p<xs.length->ops[i]?=some o ->
   ((∀e∈o.after,Region.binds .any e=true->listed.getD e.on false=true)↔∀r∈(FQ ops perm).getD p [],r∈E):=by
  intro fuel listed a w E Rm g inv p i o hp hpx ho;rw[akG hp];simp only[Dq,ho];have UE:∀e∈o.after,e.on<ops.size:=by
   obtain⟨⟨o',ho',_,_,h⟩,_⟩:=hO.place p i xs[p] hp (aV p hpx);rw[ho]at ho';simp at ho';subst ho';exact h
  constructor
  .intro h r hr
   simp only[gV,pg,WE]at hr;obtain⟨e,⟨he,hb⟩,rfl⟩:=hr;obtain⟨q,mX,A5⟩:=N9 e.on (UE e he);rw[N8 hO.nodup mX];exact(inv.nK q e.on mX).2 (h e he hb)
  .intro h e he hb
   obtain⟨q,mX,A5⟩:=N9 e.on (UE e he);have:=h q (by
    simp only[gV,pg,WE];exact⟨e,⟨he,hb⟩,N8 hO.nodup mX⟩)
   exact(inv.nK q e.on mX).1 this
 have done:∀{fuel:Nat}{listed:Array Bool}{a:Act}{w:World}{E Rm:List Nat}{g:Gh},N7 φ nt m dB ops perm rec xs s0 g0 w0 fuel listed a w E Rm g->(∀p,p<xs.length->p∈E)->Q .normal a w:=by
  intro fuel listed a w E Rm g inv hall;have hmem:∀p,p<xs.length->(p∈(List.range xs.length).reverse↔p∈E):=λp hp=>⟨λ_=>hall p hp,λ_=>by simpa using hp⟩
  have hu:∀t p q,p<xs.length->q<xs.length->qI xs p=some t->qI xs q=some t->p=q:=by
   intro t p q hp hq h1 h2;simp only[qI,aV p hp,aV q hq,uq]at h1 h2;rcases sR p q with h |h |h
   .exact absurd h2 ((rP p q _ _ h (aV p hp) (aV q hq)).uniq t h1)
   .exact h
   .exact absurd h1 ((rP q p _ _ h (aV q hq) (aV p hp)).uniq t h2)
  have wX:(eP rec xs s0).heap=(sigma rec xs s0 E).heap:=by
   rw[<-akn (rec:=rec) (xs:=xs) (s0:=s0)];simp only[sigma];refine NZ hok (Uu λp hp _=>inv.lt p hp) (gf _) λr h1 h2=>?_
   cases u6:nJ xs r with
   |false=>rfl
   |true=>have:=IU u6 (hall r h2);omega
  refine hQ g a w (inv.rel.congr (λt=>?_) wX) (by rw[wX];exact inv.frame)
  rw[<-akn (rec:=rec) (xs:=xs) (s0:=s0),IV hok _ (gf _)];exact Ut (n:=xs.length) (λp q hp hq=>hu t p q hp hq) (λp hp=>by simpa using hp) inv.lt λp hp _=>hmem p hp
 have empty:∀{fuel:Nat}{listed:Array Bool}{a:Act}{w:World}{E Rm:List Nat}{g:Gh},N7 φ nt m dB ops perm rec xs s0 g0 w0 fuel listed a w E Rm g->Region.ready .any ops listed=[]->Q .normal a w:=by
  intro fuel listed a w E Rm g inv hr;refine done inv λp=>?_
  induction p using Nat.strongRecOn with
  |_ p ih =>
   intro hp;apply vC;intro hne;obtain⟨i,hi⟩:=akI p hp;obtain⟨⟨o,ho,_⟩,hd⟩:=hO.place p i xs[p] hi (aV p hp);have hun:listed.getD i true=false:=by
    have hsz:i<listed.size:=by rw[inv.size];exact(D4.1 ho).1
    cases h1:listed.getD i true with
    |false=>rfl
    |true =>
     exfalso;apply hne;rw[inv.nK p i hi];simpa[hsz]using h1
   have:i∈Region.ready .any ops listed:=mem_ready.2 ⟨hun,o,ho,(akJ inv hi hp ho).2 λr hr=>by
    rw[akG hi]at hr;have:=hd r hr;exact ih r this (by omega)⟩
   rw[hr]at this;simp at this
 intro fuel;induction fuel with
 |zero =>
  intro listed a w E Rm g inv;have hall:∀p,p<xs.length->p∈E:=by
   intro p hp;apply vC;intro hne;have h1:=inv.rest p hp hne;have h2:=inv.fuel
   have:Rm=[]:=by simpa using h2
   rw[this]at h1;simp at h1
  refine⟨?_,done inv hall⟩;rw[List.eq_nil_iff_forall_not_mem];intro i hi;obtain⟨hun,o,ho,_⟩:=mem_ready.1 hi;obtain⟨p,hp,hpx⟩:=N9 i (D4.1 ho).1;have h1:=(inv.nK p i hp).1 (hall p hpx);have hsz:i<listed.size:=by rw[inv.size];exact(D4.1 ho).1
  simp[hsz]at hun h1;rw[hun]at h1;simp at h1
 |succ fuel ih =>
  intro listed a w E Rm g inv;refine⟨empty inv,λi hi=>?_⟩
  obtain⟨hun,o,ho,hall⟩:=mem_ready.1 hi;obtain⟨j,hj,IW⟩:=N9 i (D4.1 ho).1;obtain⟨⟨o',ho',akK,akL,UE⟩,hd⟩:=hO.place j i xs[j] hj (aV j IW);rw[ho]at ho';simp at ho';subst ho';have hsz:i<listed.size:=by rw[inv.size];exact(D4.1 ho).1
  have hjE:j∉E:=by
   intro h;have:=(inv.nK j i hj).1 h;simp[hsz]at this hun;rw[hun]at this;simp at this
  have N0:=(akJ inv hj IW ho).1 hall;have hfind:=find hok rP hR inv.lt inv.closed (aV j IW) hjE N0;have next:∀g' a' w',cm φ nt m dB (jy rec xs[j] (sigma rec xs s0 E)) g' a' w'->Frame m (sigma rec xs s0 E).heap g w (jy rec xs[j] (sigma rec xs s0 E)).heap g' w' ->
    wpAnyIn (Wd r) n P .any ops Q fuel (listed.setIfInBounds i true) a' w':=by
   intro g' a' w' hs' hf';rw[hfind]at hs' hf';refine ih _ a' w' (j::E) (Rm.filter (·≠j)) g' ⟨by simp[inv.size],λp i' hp=>?_,λp hp=>?_,λp hp r hr=>?_,λp hp IS=>?_,?_,hs',inv.frame.trans hf'⟩
   .by_cases Dn:p=j
    .subst Dn
     have:i'=i:=by rw[hj]at hp;simpa using hp.symm
     subst this;simp[hsz]
    .have hne:i≠i':=by
      intro h;subst h;have h1:=N8 hO.nodup hj;have h2:=N8 hO.nodup hp;omega
     rw[getD_set_ne false hne,dA,inv.nK p i' hp];simp[Dn]
   .rcases dA.1 hp with h |h
    .subst h;exact IW
    .exact inv.lt p h
   .rcases dA.1 hp with h |h
    .subst h;exact yH _ (N0 r hr)
    .exact yH _ (inv.closed p h r hr)
   .simp only[dA,nj]at IS
    rw[pg];exact⟨inv.rest p hp IS.2,by simpa using IS.1⟩
   .have hlen:(Rm.filter (·≠j)).length<Rm.length:=List.length_filter_lt_length_iff_exists.2 ⟨j,inv.rest j IW hjE,by simp⟩
    have:=inv.fuel;omega
  have u5:(jy rec xs[j] (sigma rec xs s0 E)).ok=true:=by rw[hfind];rfl
  have uY:=aj7 akK;unfold wpOpIn;simp only[ho];have hG:=aj9 (K:=wpAnyIn (Wd r) n P .any ops Q fuel (listed.setIfInBounds i true)) (X:=o.wpIn (Wd r) n P a w (wpAnyIn (Wd r) n P .any ops Q fuel (listed.setIfInBounds i true)) Q) inv.rel akL uY.1 uY.2 u5
   (λhe hk=>ajX hq hy inv.rel akK hk λg' v' w' hs' hf=>next g' _ w' (by rw[he];exact hs') (by rw[he];exact hf))
   (λhe hs'=>next g _ w (by rw[he];exact hs') (by rw[he];exact Frame.refl _ _ _ _))
  split
  .rename_i hw;rw[aK hw]at hG;exact hG
  .rename_i hw;rw[aD hw]at hG;exact⟨λ_ _=>trivial,hG⟩
theorem akM{perm:List Nat}{js:List J}(h:N6 P φ nt ops perm js=true):J.uZ true [] [] js=true/\akF P φ nt ops perm (J.ig none js) /\
  ∀p q x y,p<q->(J.ig none js)[p]?=some x->(J.ig none js)[q]?=some y->FM (FQ ops perm) (J.FO js) (J.ig none js).length (J.ig none js) p q x y:=by
 simp only[N6,bJ,fZ,dN]at h;obtain⟨⟨⟨⟨⟨h1,h2⟩,h3⟩,h8⟩,h4⟩,h5⟩:=h;obtain⟨h6,h7⟩:=akE h4;refine⟨h1,⟨h2,h3,λi hi=>by simpa using yM.1 h8 i (JW.2 hi),h6,λk i x hk hx=>?_⟩,λp q x y hpq hx hy=>?_⟩
 .have:=h7 k i x hk hx
  rwa [nQ]at this
 .have:=akD h5 p q x y hpq hx hy
  rwa [nQ,nQ]at this
theorem akN{rec:Rec}(hm:P.follows .mixedOrders=true)(hq:l7 P φ rec)(hy:tT P φ rec){fl perm:List Nat}{js:List J}(hs:cm φ nt m dB s g a w)(hc:N6 P φ nt ops perm js=true)
  (hok:(fU rec js ⟨pL fl s.env,s.heap,s.ok⟩).ok=true){id:Nat}(hQ:Post φ nt m dB s g w (fU rec js ⟨pL fl s.env,s.heap,s.ok⟩) (Q .normal)):(Code.region id ops true).wpIn (Wd r) n P Q a w:=by
 obtain⟨hf,hO,rP⟩:=akM hc;have hs0:=(hs.forget fl s.ok).drew;have lJ:=NV (rec:=rec) (g:=none) hf (Ag.refl (uz hok)) (λ_ _ h=>by simp at h) trivial hok
 have hre:=aky (rec:=rec) hf (Ag.refl (uz hok)) hok;refine wpIn_region_any hm ?_;refine akH (m:=m) (s0:=⟨pL fl s.env,s.heap,s.ok⟩) (g0:=g) (w0:=w.drew) hq hy hO lJ.ok rP hre (λg' a' w' hs' hfr=>hQ g' a' w' (hs'.low lJ) ?_)
  ops.size _ a w.drew [] (List.range ops.size) g ⟨by simp,λp i hp=>?_,by simp,by simp,λp hp _=>?_,by simp,?_,?_⟩
 .rw[lJ.heap]
  exact hs0.2.trans hfr
 .simp only[List.not_mem_nil,false_iff]
  rcases kZ i ops.size with h |h<;>simp[h]
 .rw[JW,<-hO.len,hO.UD];exact hp
 .exact hs0.1.congr (λt=>rfl) (by simp[sigma,nI,jz,eP])
 .have:(sigma rec (J.ig none js) ⟨pL fl s.env,s.heap,s.ok⟩ []).heap=s.heap:=by simp[sigma,nI,jz,eP]
  rw[this];exact Frame.refl _ _ _ _
end
end Go.VS
namespace Go.VS
def C.lQ:C->Bool
 | .seq a b=>a.lQ&&b.lQ
 | .ite _ a b=>a.lQ&&b.lQ
 | .bV _ a=>a.lQ
 | .loop _ a=>a.lQ
 | .sn ..=>false
 |_=>true
section
variable (P:Program)(φ:Nat->Nat)(nt:Nat)
def nL:Code->C->Bool
 | .skip,.skip=>true
 | .label _,.skip=>true
 | .ret,.ret=>true
 | .exit i,.exit j=>i==j
 | .region _ ops draw,.cr js=>!draw&&J.uZ true [] [] js&&Dm P φ nt ops ops.toList (J.ig none js)
 | .region _ ops draw,.lX _ perm js=>draw&&N6 P φ nt ops perm js
 | .seq x y,.seq a b=>nL x a&&nL y b
 | .cond c x y,.ite d a b=>dM φ c d&&nL x a&&nL y b
 | .block i x,.bV j a=>i==j&&nL x a
 | .loop x,.loop _ a=>nL x a
 | .rangeFunc f ps x y,.sn g _ ps' a b=>dM φ f g&&ps.toList==ps'&&(decide ps'.Nodup&&ps'.all (λp=>decide (p<nt))&&a.lQ&&b.lQ&&nL x a&&nL y b)
 | .scope x,.seq .skip a=>nL x a
 |x,.seq a (.oC _)=>nL x a
 |x,.seq (.oC _) a=>nL x a
 |x,.seq (.keep _) a=>nL x a
 |x,.seq (.xA _ _) a=>nL x a
 |_,_=>false
termination_by structural _ c=>c
def Oa(ps:List Nat)(a b:C)(x y:Code)(nt:Nat):Bool:=decide ps.Nodup&&ps.all (λp=>decide (p<nt))&&a.lQ&&b.lQ&&nL P φ nt x a&&nL P φ nt y b
end
section
variable {P:Program}{φ:fj}
variable {nt m dB:Nat}{s:St}{g:Gh}{a:Act}{w:World}{Q:Exit->Act->World->Prop}{r:Option Nat}{n:Nat}
def Bs:Ex->Exit
 | .normal=>.normal
 | .exit id=>.exit id
 | .ret=>.ret
def Dr(P:Program)(φ:fj)(rec:Rec):Prop :=
 ∀(nt m dB:Nat)(live:List Nat)(x:Code)(c:C)(env:List (Nat×V))(h:List O)(e:Ex)(env':List (Nat×V))(h':List O),nL P φ nt x c=true ->
  rec (.loop m live c env h)=some (.out e env' h')->∀(n:Nat)(r:Option Nat),(r=none\/c.lQ=true)->∀(g:Gh)(a:Act)(w:World)(Q:Exit->Act->World->Prop),cm φ nt m dB ⟨env,h,true⟩ g a w ->
   Post φ nt m dB ⟨env,h,true⟩ g w ⟨env',h',true⟩ (Q (Bs e))->(Code.loop x).wpIn (Wd r) n P Q a w
def wY(P:Program)(φ:fj):Prop:=∀ps A B x y nt,φ.lk ps A B x y nt↔Oa P φ ps A B x y nt=true
theorem Post.mono{s':St}{R R':Act->World->Prop}(h:Post φ nt m dB s g w s' R)(hr:∀a w,R a w->R' a w):Post φ nt m dB s g w s' R':=λg' a' w' h1 h2=>hr _ _ (h g' a' w' h1 h2)
theorem akO{h:List O}{b o es:Nat}{rows:List (List V)}(hr:gz φ h g w b o (.gJ es rows)):gz φ h g w b o (eK es rows):=by
 unfold eK;split
 .rename_i ds hds
  have he:=Fk hds;obtain⟨h1,h2,h3⟩:=hr;refine⟨by rw[he]at h1;simpa using h1,uU λr row hrow=>?_,by simpa using h3⟩
  have oT:rows[r]?=some (row.map V.d):=by rw[he];simp[hrow]
  obtain⟨k1,k2⟩:=h2 r _ oT;refine⟨by simpa using k1,wh λj c hj=>?_⟩
  obtain⟨x,hx,hx1,mE⟩:=k2 j (.d c) (by simp[hj])
  exact⟨x,hx,hx1,by simpa only[aI]using mE⟩
 .exact hr
theorem akP:∀(ns:List Nat){h:List O}{n es:Nat}{rows:List (List V)},aV h n = .gJ es rows->aV (aY h ns) n = .gJ es rows:=by
 intro ns h n es rows hn;rcases NG ns (h:=h) (k:=n)with⟨h1,_⟩ |⟨es',ex,iB,h1,_⟩
 .rw[h1];exact hn
 .rw[hn]at h1;simp at h1
theorem akQ(hs:cm φ nt m dB s g a w){k:Nat}{p:V}{v:Value}(hp:aI φ s.heap g w p v){h1:List O}(hz:Cb s.heap k p=some h1):
  ∃g',cm φ nt m dB ⟨s.env,h1,s.ok⟩ g' a w/\Frame m s.heap g w h1 g' w:=by
 unfold Cb at hz;split at hz
 .rename_i n r c
  split at hz
  .simp at hz;subst hz;exact⟨g,⟨hs.env,hs.heap,hs.size,hs.defers,hs.len⟩,Frame.refl _ _ _ _⟩
  .rename_i es rows hn
   split at hz
   .rename_i row hrow
    split at hz
    .rename_i cv v9
     simp only[gI]at hz;obtain⟨x,hx,rfl⟩:=hz;obtain⟨I',k1,k2,k3⟩:=hs.frozen cv.dw s.ok;have hn2:=akP cv.dw hn;have kL:(aV (aY s.heap cv.dw) n).live=true:=by rw[hn2];rfl
     have dD:=k1.heap.obj n;simp only[hn2]at dD;have hdx:∀{u:Value},aI φ (aY s.heap cv.dw) (g.dZ I') w cv u->bR φ I' w x u:=λhu=>by
      exact ZQ k1.heap (ZT _ _) (by rw[ZR (ZS _ _)];exact hx) hu
     have hnew:gz φ (aY s.heap cv.dw) (g.dZ I') w (g.β n) (g.o n) (.gJ es (rows.set r (row.set (c+k) (.d x)))):=by
      obtain⟨q1,q2,q3⟩:=dD;refine⟨by rw[List.length_set];exact q1,λr2 akR lM=>?_,q3⟩
      rw[JZ]at lM;split at lM
      .rename_i dS
       subst dS;split at lM
       .simp at lM
        subst lM;obtain⟨p1,p2⟩:=q2 r row hrow;refine⟨by simpa using p1,λj cc hj=>?_⟩
        rw[JZ]at hj;split at hj
        .rename_i hjj
         split at hj
         .simp at hj
          subst hj;subst hjj;obtain⟨u,u1,u2,u3⟩:=p2 (c+k) cv v9;exact⟨u,u1,u2,by simp only[aI];exact hdx u3⟩
         .simp at hj
        .exact p2 j cc hj
       .simp at lM
      .exact q2 r2 akR lM
     have jF:(eK es (rows.set r (row.set (c+k) (.d x)))).gM=some es/\(eK es (rows.set r (row.set (c+k) (.d x)))).len=rows.length/\(∀kv,eK es (rows.set r (row.set (c+k) (.d x)))≠.mp kv)/\(eK es (rows.set r (row.set (c+k) (.d x)))).tL=false:=by
      unfold eK;split
      .rename_i ds hds
       have:=congrArg List.length (Fk hds);simp at this;exact⟨rfl,by simp[O.len,<-this],by simp,rfl⟩
      .exact⟨rfl,by simp[O.len],by simp,rfl⟩
     generalize hmk:eK es (rows.set r (row.set (c+k) (.d x)))=mk at *;have hle:=wu (x:=mk) (w':=w) (I':=I') k1.heap kL (jS.refl _ _) (Ext.refl _ _) (λes' he'=>by
       rw[jF.1]at he';simp at he';subst he';exact⟨by rw[hn2];rfl,by rw[jF.2.1,hn2];rfl,nD.of_eq rfl⟩) (λkv hk=>absurd hk (jF.2.2.1 kv)) (λhh=>by rw[jF.2.2.2]at hh;simp at hh)
     have TT:gz φ ((aY s.heap cv.dw).set n mk) (g.dZ I') w (g.β n) (g.o n) mk:=by
      have:=C4 hle (g':=g.dZ I') rfl rfl hnew;have h2:=akO this;rw[hmk]at h2;exact h2
     have hH:=wx (x:=mk) k1.heap kL (jS.refl _ _) hle (λ_ _=>rfl) TT
     refine⟨g.dZ I',k1.x8 kL (jS.refl _ _) hle hH,k3.trans (wy mk kL (jS.refl _ _) (Ext.refl _ _) (λ_ _=>rfl) hle)⟩
    .simp at hz
   .simp at hz
  .simp at hz
 .simp at hz
theorem akS{rec:Rec}(hq:l7 P φ rec){ps:List Nat}{A B:C}{x y:Code}(hlk:φ.lk ps A B x y nt){f:Operand}{gx:VS.A}(hf:dM φ f gx=true)(hs:cm φ nt m dB s g a w){IX:Array Tmp}(hps:IX=ps.toArray)
  {live:List Nat}{v2:V}{h2:List O}(oU:lZ (aA rec (s.heap++[.lp ps A B .normal (jM live s.env)])) (s.get gx) [.jh s.heap.length]=some (v2,h2))
  {ps2:List Nat}{A2 B2:C}{e:Ex}{akT:List (Nat×V)}(iG:aV h2 s.heap.length = .lp ps2 A2 B2 e akT)
  (hQ:Post φ nt m dB s g w ⟨s.env,h2.set s.heap.length .dead,s.ok⟩ (Q (Bs e))):(Code.rangeFunc f IX x y).wpIn (Wd none) n P Q a w:=by
 refine wpIn_rangeFunc λfn _=>?_
 let IY:Loop:={state:=.ready,pending:=none,fn,tmps:=a.tmps,params:=IX,assign:=x,body:=y,defers:=w.heap.size}
 obtain⟨w1,hw1⟩:∃w1,w1=(w.alloc (.deferred (some []))).alloc (.loop IY):=⟨_,rfl⟩;have hg:gN w w1:=by rw[hw1];exact(gN.alloc w _).trans (gN.alloc _ _)
 have hsz:w1.heap.size=w.heap.size+2:=by rw[hw1];simp
 have pT:w1.heap[w.heap.size+1]?=some (.loop IY):=by
  rw[hw1];have:=World.alloc_heap_new (w.alloc (.deferred (some []))) (.loop IY);rwa [World.size_alloc]at this
 have hD1:w1.heap[w.heap.size]?=some (.deferred (some [])):=by
  rw[hw1,(gN.alloc (w.alloc (.deferred (some []))) (.loop IY)).same _ (by simp)];exact World.alloc_heap_new w _
 have akU:(Instr.enterLoop fn a.tmps IX x y none).run P w = .ok (w.heap.size+1,[{target:=.collected w.heap.size,args:=#[]}]) w1:=by
  rw[hw1];exact run_enterLoop_outer _ _ _ _ _
 obtain⟨kN,Bt⟩:∃kN,kN=s.heap++[.lp ps A B .normal (jM live s.env)]:=⟨_,rfl⟩;obtain⟨g1,Bl⟩:∃g1,g1=g.add s.heap.length (w.heap.size+1) 0 g.I:=⟨_,rfl⟩;have hnew:∀b,w1.heap.size<=b->g.I b=0:=λb hb=>hs.heap.new b (by omega)
 have jT:gS s.heap g w kN g1 w1:=by rw[Bt,Bl];exact zC _ hs.heap hg (λ_ _=>rfl)
 have rN:eU φ kN g1 w1:=by
  have dD:gz φ kN g1 w1 (w.heap.size+1) 0 (.lp ps A B .normal (jM live s.env)):=by
   refine⟨IY,nt,pT,hps,hlk,hs.size,λp hp=>?_,rfl,rfl,?_⟩
   .simp only[jM,gV]at hp
    obtain⟨t,_,rfl⟩:=hp;exact lI jT (hs.env t)
   .rw[Bl];exact hs.heap.new _ (by omega)
  rw[Bt,Bl]at dD⊢;exact Y3 hs.heap hg (λ_ _=>rfl) hnew (by omega) dD
 have p8:Frame m s.heap g w kN g1 w1:=by rw[Bt,Bl];exact Tk _ hs.heap hg (λ_ _=>rfl) (by omega) hs.len
 have TV:kN.length=s.heap.length+1:=by rw[Bt];simp
 have akV:aV kN s.heap.length = .lp ps A B .normal (jM live s.env):=by rw[Bt,C7]
 have IK:g1.β s.heap.length=w.heap.size+1:=by rw[Bl];simp[Gh.add]
 have zO:∀k,(aV kN k).live=true->g1.β k≠w.heap.size:=by
  intro k hk;rcases sR k s.heap.length with hlt |rfl |hgt
  .rw[Bt,pY hlt]at hk
   have:=hs.heap.block hk;rw[Bl];simp[Gh.add,Nat.ne_of_lt hlt];omega
  .rw[IK];omega
  .rw[Bt,uW hgt]at hk;simp[O.live]at hk
 obtain⟨a',ha'⟩:∃a':Act,a'={a with defers:=[{target:=.collected w.heap.size,args:=#[]}]++a.defers}:=⟨_,rfl⟩;have hD:mH dB kN g1 a'.defers w1:=by
  have h0:=hs.defers.frame p8;rw[ha'];refine⟨λd hd=>?_,?_,h0.le⟩
  .simp only[sW,mu,dA]at hd
   rcases hd with rfl |hd
   .exact⟨_,rfl,hs.defers.le,hD1,zO⟩
   .exact h0.at_ d hd
  .simp only[sW,mu,D3]
   refine⟨λhd=>?_,h0.nodup⟩
   obtain⟨D,e1,_,e3,_⟩:=hs.defers.at_ _ hd;have:=Bc e3;simp at e1;omega
 have tN:cm φ nt m dB ⟨s.env,kN,s.ok⟩ g1 a' w1:=by
  have hm:m<=kN.length:=by have:=hs.len;omega
  rw[ha']at hD⊢;exact⟨λk=>lI jT (hs.env k),rN,hs.size,hD,hm⟩
 have key:∀{F:Nat}{A' B':Array Value}{zs:List V},a.eval f = .func (.func (φ F)) A' B'->aA rec kN F zs=some (v2,h2) ->
   bT φ kN g1 w1 zs (A'.toList++[Value.func (.yield (w.heap.size+1)) #[] #[]]++B'.toList) ->
   ∃(l:Nat)(mark:List Deferred)(w₁:World)(d:Deferred)(w₁':World)(f_1:FuncId)(args:Array Value)(w₂:World),
   (Instr.enterLoop fn a.tmps IX x y (Wd none).round).run P w = .ok (l,mark) w₁ /\
   (resolve a.eval (rangeCall f l) 0).run P w₁ = .ok d w₁' /\
   (∀f',Target.leads P w₁' d.target d.args=some f'->(Wd none).fn f') /\
   (invoke d.target d.args).run P w₁' = .ok (.enter f_1 args) w₂ /\
   ((Wd none).depth.isSome=true->1<=n) /\
   CallsIn (Wd none) (n - 1) P f_1 args w₂ (rangePost (Wd none) n P l Q {a with defers:=mark++a.defers}):=by
  intro F A' B' zs he Ob hzs;obtain⟨L,v,h1',hL,gT,hlen,rfl,rfl⟩:=ZZ Ob;obtain⟨hnd,yh,bN,_,_⟩:=Dj hL;obtain⟨⟨fn',hfn,hn,hb⟩,akW⟩:=hq F _ _ v h1' gT;have akX:bT φ kN g1 w1 zs (A'++#[Value.func (.yield (w.heap.size+1)) #[] #[]]++B').toList:=by simpa using hzs
  refine⟨w.heap.size+1,[{target:=.collected w.heap.size,args:=#[]}],w1,{target:=.fn (.func (φ F)) B',args:=A'++#[Value.func (.yield (w.heap.size+1)) #[] #[]]},w1,φ F,
   A'++#[Value.func (.yield (w.heap.size+1)) #[] #[]]++B',w1,akU,?_,λ_ _=>trivial,?_,NP,ajK ?_⟩
  .have ec:∀v,a.eval (.const v)=v:=λ_=>rfl
   simp[resolve,rangeCall,he,Deferred.ofValue,ec]
  .simp only[invoke];exact Nw hfn hn hb
  .refine Calls.mono (akW (iF g1 L) w1 _ (Fy hL rN) (yg yh akX)) λe' w' hh=>?_
   obtain⟨v',g2,rfl,TU,_,hfr⟩:=hh;rw[yf]at hfr;have M:jU φ kN L g1 w1 h1' g2 w':=⟨rN,hnd,λn hn=>(bN n hn).1,hlen,TU,hfr⟩
   have hm:m<=kN.length:=tN.len;have hMF:=M.frame hm;have IB:cm φ nt m dB ⟨s.env,mL kN L h1',s.ok⟩ (jH kN L g1 g2) a' w':=⟨λk=>lI M.hle (tN.env k),M.fX,tN.size,tN.defers.frame hMF,nh hm M.hle.len⟩
   have Bm:(jH kN L g1 g2).β s.heap.length=w.heap.size+1:=by
    have:s.heap.length<kN.length:=by omega
    simp[jH,this,IK]
   have dD:=M.fX.obj s.heap.length;rw[iG,Bm]at dD;obtain⟨rc,nt2,k1,_,_,_,_,k5,k6,_⟩:=dD;have akY:rc.state≠.busy:=by rw[k5];split<;>simp
   have hend:=run_endLoop (P:=P) k1 akY;have hlv:(aV (mL kN L h1') s.heap.length).live=true:=by rw[iG];rfl
   obtain⟨Oc,Od,_⟩:=IB.kill hlv s.ok;have hun:∀k,(aV ((mL kN L h1').set s.heap.length .dead) k).live=true->(jH kN L g1 g2).β k≠w.heap.size+1:=by
    intro k hk hbe;by_cases hkn:k=s.heap.length
    .subst hkn;rw[wq (A9 hlv)]at hk;simp[O.live]at hk
    .rw[pZ hkn]at hk
     exact hkn (M.fX.inj k _ hk hlv (by rw[hbe,Bm]))
   have hS4:=Oc.putObj (y:=.loop {rc with state:=.exhausted}) k1 rfl (by simp) rfl hun
   have hF4:=ajP (y:=.loop {rc with state:=.exhausted}) ((p8.trans hMF).trans Od) hs.heap (D:=w.heap.size+1) (by omega) k1 rfl rfl
   have IZ:=hQ _ a' _ hS4 hF4;refine⟨rc.pending,_,hend,?_⟩;rw[k6]at IZ⊢;rw[ha']at IZ;cases e with
   |normal=>exact IZ
   |exit id=>exact wpIn_exit IZ
   |ret=>exact wpIn_ret IZ
 have rx:=lI jT (eE hs hf);have ry:bT φ kN g1 w1 [.jh s.heap.length] [Value.func (.yield (w.heap.size+1)) #[] #[]]:=by
  simp only[bT,aI,yN];exact⟨by omega,rfl,λ_=>by rw[IK]⟩
 rw[<-Bt]at oU;cases fT:s.get gx with
 |d z =>
  cases z with
  |fn ff first caps =>
   rw[fT]at rx oU;simp only[aI,bR]at rx;obtain⟨A',B',he,hA,hB⟩:=rx;exact key he oU (rI (rI (Bk hA) ry) (Bk hB))
  |_=>rw[fT]at oU;simp[lZ]at oU
 |fn ff first caps =>
  rw[fT]at rx oU;simp only[aI]at rx;obtain⟨A',B',he,hA,hB⟩:=rx;exact key he oU (rI (rI hA ry) hB)
 |_=>rw[fT]at oU;simp[lZ]at oU
theorem I3{rec:Rec}(hm:P.follows .mixedOrders=true)(hk:wY P φ)(hq:l7 P φ rec)(hl:Dr P φ rec)(hy:tT P φ rec):∀(x:Code)(c:C),(r=none\/c.lQ=true)->∀{s:St}{g:Gh}{a:Act}{w:World}{Q:Exit->Act->World->Prop},nL P φ nt x c=true ->
  cm φ nt m dB s g a w->(cQ rec m c s).2.ok=true->Post φ nt m dB s g w (cQ rec m c s).2 (Q (Bs (cQ rec m c s).1))->x.wpIn (Wd r) n P Q a w:=by
 intro x c hr;have akZ:∀{x:Code}{b:C}{ds:List Nat}{s:St}{g:Gh}{a:Act}{w:World}{Q:Exit->Act->World->Prop},
   (∀{Q:Exit->Act->World->Prop},(cQ rec m b s).2.ok=true->Post φ nt m dB s g w (cQ rec m b s).2 (Q (Bs (cQ rec m b s).1))->x.wpIn (Wd r) n P Q a w) ->
   (cQ rec m (.seq b (.oC ds)) s).2.ok=true->Post φ nt m dB s g w (cQ rec m (.seq b (.oC ds)) s).2 (Q (Bs (cQ rec m (.seq b (.oC ds)) s).1))->x.wpIn (Wd r) n P Q a w:=by
  intro x b ds s g a w Q ih hok hQ;simp only[cQ]at hok hQ;cases hb:cQ rec m b s with
  |mk e s' =>
   rw[hb]at hok hQ ih;cases e with
   |normal =>
    simp only at hok hQ;refine ih (GL ds hok) λg' a' w' h1 h2=>?_
    obtain⟨g2,k1,k2⟩:=T1 ds h1 hok;exact hQ g2 a' w' k1 (h2.trans k2)
   |exit id=>exact ih hok hQ
   |ret=>exact ih hok hQ
 have ak0:∀{x:Code}{b:C}{ds:List Nat}{s:St}{g:Gh}{a:Act}{w:World}{Q:Exit->Act->World->Prop},cm φ nt m dB s g a w ->
   (∀{s:St}{g:Gh}{Q:Exit->Act->World->Prop},cm φ nt m dB s g a w->(cQ rec m b s).2.ok=true->Post φ nt m dB s g w (cQ rec m b s).2 (Q (Bs (cQ rec m b s).1))->x.wpIn (Wd r) n P Q a w) ->
   (cQ rec m (.seq (.oC ds) b) s).2.ok=true->Post φ nt m dB s g w (cQ rec m (.seq (.oC ds) b) s).2 (Q (Bs (cQ rec m (.seq (.oC ds) b) s).1))->x.wpIn (Wd r) n P Q a w:=by
  intro x b ds s g a w Q hs ih hok hQ;simp only[cQ]at hok hQ;obtain⟨g2,k1,k2⟩:=T1 ds hs (yT hok);exact ih k1 hok λg' a' w' h1 h2=>hQ g' a' w' h1 (k2.trans h2)
 fun_induction nL P φ nt x c with
 |case1=>intro s g a w Q _ hs _ hQ;exact wpIn_skip (hQ g a w hs (Frame.refl _ _ _ _))
 |case2=>intro s g a w Q _ hs _ hQ;exact wpIn_label (hQ g a w hs (Frame.refl _ _ _ _))
 |case3=>intro s g a w Q _ hs _ hQ;exact wpIn_ret (hQ g a w hs (Frame.refl _ _ _ _))
 |case4 i j =>
  intro s g a w Q hc hs _ hQ;simp at hc;subst hc;exact wpIn_exit (hQ g a w hs (Frame.refl _ _ _ _))
 |case5 id ops draw js =>
  intro s g a w Q hc hs hok hQ;simp only[bJ,kX]at hc;obtain⟨⟨rfl,h2⟩,h3⟩:=hc;exact ake hq hy hs h2 h3 hok hQ
 |case6 id ops draw fl perm js =>
  intro s g a w Q hc hs hok hQ;simp only[bJ]at hc;obtain⟨rfl,h3⟩:=hc;exact akN hm hq hy hs h3 hok hQ
 |case7 x y b c ih1 ih2 =>
  intro s g a w Q hc hs hok hQ;simp only[bJ]at hc;refine wpIn_seq (ih1 (hr.imp id λh=>by simp[C.lQ]at h;exact h.1) hc.1 hs ?_ λg' a' w' h1 h2=>?_)
  .simp only[cQ]at hok
   split at hok
   .rename_i s' he;rw[he];exact yT hok
   .exact hok
  .simp only[cQ]at hok hQ
   cases he:cQ rec m b s with
   |mk e s' =>
    rw[he]at hok hQ h1 h2;cases e with
    |normal=>exact ih2 (hr.imp id λh=>by simp[C.lQ]at h;exact h.2) hc.2 h1 hok λg2 a2 w2 k1 k2=>hQ g2 a2 w2 k1 (h2.trans k2)
    |exit id=>exact hQ g' a' w' h1 h2
    |ret=>exact hQ g' a' w' h1 h2
 |case8 c x y d b e ih1 ih2 =>
  intro s g a w Q hc hs hok hQ;simp only[bJ]at hc;obtain⟨⟨h1,h2⟩,h3⟩:=hc;have rc:=eE hs h1;simp only[cQ]at hok hQ;split at hok
  .rename_i v hv
   rw[hv]at rc;have hb:=tM (by simpa only[aI]using rc)
   simp only[hv]at hQ;cases v with
   |true=>exact wpIn_cond_true hb (ih1 (hr.imp id λh=>by simp[C.lQ]at h;exact h.1) h2 hs hok hQ)
   |false=>exact wpIn_cond_false hb (ih2 (hr.imp id λh=>by simp[C.lQ]at h;exact h.2) h3 hs hok hQ)
  .simp at hok
 |case9 i x j b ih =>
  intro s g a w Q hc hs hok hQ;simp only[bJ,dN]at hc;obtain⟨rfl,h2⟩:=hc;simp only[cQ]at hok hQ;cases he:cQ rec m b s with
  |mk e s' =>
   rw[he]at hok hQ;refine wpIn_block (ih (hr.imp id λh=>by simpa[C.lQ]using h) h2 hs ?_ λg' a' w' h3 h4=>?_)
   .rw[he]
    cases e with
    |normal=>exact hok
    |exit k=>simp only at hok;split at hok<;>exact hok
    |ret=>exact hok
   .rw[he]at h3 h4⊢
    cases e with
    |normal=>exact hQ g' a' w' h3 h4
    |exit k =>
     simp only[Bs,Exit.inBlock]at *;split
     .rename_i hk
      rw[aK hk]at hQ;exact hQ g' a' w' h3 h4
     .rename_i hk
      rw[aD hk]at hQ;exact hQ g' a' w' h3 h4
    |ret=>exact hQ g' a' w' h3 h4
 |case10 x live b ih =>
  intro s g a w Q hc hs hok hQ;simp only[cQ]at hok hQ;split at hok
  .rename_i p hp
   simp only[hp]at hQ;split at hok
   .rename_i e env h dS
    simp only[dS]at hQ;obtain⟨g',k1,k2⟩:=TY hs hp true;refine hl nt m dB live x b p.1 p.2 e env h hc dS n r (hr.imp id (by simp[C.lQ])) g' a w Q k1 λg2 a2 w2 h1 h2=>hQ g2 a2 w2 ⟨h1.env,h1.heap,h1.size,h1.defers,h1.len⟩ (k2.trans h2)
   .simp at hok
  .simp at hok
 |case11 f ps x y gx live ps' b c ih1 ih2 =>
  intro s g a w Q hc hs hok hQ;simp only[bJ,dN]at hc;obtain⟨⟨h1,h2⟩,h3⟩:=hc;rcases hr with rfl |hr
  rotate_left
  .simp[C.lQ]at hr
  have hlk:φ.lk ps' b c x y nt:=(hk ps' b c x y nt).2 (by simp only[Oa,bJ];exact h3)
  simp only[cQ]at hok hQ;split at hok
  .rename_i v2 Ds oU
   simp only[oU]at hQ;split at hok
   .rename_i ps2 A2 B2 e akT iG
    simp only[iG]at hQ;exact akS hq hlk h1 hs (by rw[<-h2]) oU iG hQ
   .simp at hok
  .simp at hok
 |case12 x b ih =>
  intro s g a w Q hc hs hok hQ;simp only[cQ]at hok hQ;refine ajO (ih (hr.imp id λh=>by simp[C.lQ]at h;exact h) hc hs hok λg' a' w' h1 h2=>?_)
  have:=hQ g' a' w' h1 h2;cases he:(cQ rec m b s).1<;>rw[he]at this<;>exact this
 |case13 x b ds _ _ ih =>
  intro s g a w Q hc hs hok hQ;exact akZ (λh1 h2=>ih (hr.imp id λh=>by simp[C.lQ]at h;exact h) hc hs h1 h2) hok hQ
 |case14 x ds b _ _ ih =>
  intro s g a w Q hc hs hok hQ;exact ak0 hs (λh1 h2 h3=>ih (hr.imp id λh=>by simp[C.lQ]at h;exact h) hc h1 h2 h3) hok hQ
 |case15 x ds b _ _ ih =>
  intro s g a w Q hc hs hok hQ;simp only[cQ]at hok hQ;cases hp:canon m ds s.env s.heap with
  |none =>
   rw[hp]at hok;simp only at hok;have:=yT hok;simp at this
  |some p =>
   rw[hp]at hok hQ;simp only at hok hQ;obtain⟨g2,k1,k2⟩:=TY hs hp s.ok;exact ih (hr.imp id λh=>by simp[C.lQ]at h;exact h) hc k1 hok λg' a' w' h1 h2=>hQ g' a' w' h1 (k2.trans h2)
 |case16 x d k b _ _ ih =>
  intro s g a w Q hc hs hok hQ;simp only[cQ]at hok hQ;cases hp:Cb s.heap k (s.get (.t d))with
  |none =>
   rw[hp]at hok;simp only at hok;have:=yT hok;simp at this
  |some p =>
   rw[hp]at hok hQ;simp only at hok hQ;obtain⟨g2,k1,k2⟩:=akQ hs (hs.env d) hp;exact ih (hr.imp id λh=>by simp[C.lQ]at h;exact h) hc k1 hok λg' a' w' h1 h2=>hQ g' a' w' h1 (k2.trans h2)
 |case17=>intro s g a w Q hc;simp at hc
end
end Go.VS
namespace Go.VS
section
variable {P:Program}{φ:fj}
variable {nt m dB:Nat}{s:St}{g:Gh}{a:Act}{w:World}
theorem ak1{h:List O}{p:V}{v:Value}{n:Nat}{ag:Bool}{x:V}(hH:eU φ h g w)(rx:aI φ h g w p v)(hv:yQ h n ag p=some x):
  ∃(b off:Nat)(vs:List Value)(v':Value),v = .pointer (some ⟨b,off,none⟩)/\(∀(j:Nat)(u:Value),vs[j]?=some u->w.cell? ⟨b,off+j,none⟩=some u) /\
   (if ag then n<=vs.length/\v' = .agg (vs.take n).toArray else vs.head?=some v')/\aI φ h g w x v':=by
 generalize hp:p=q at rx;unfold yQ at hv;split at hv
 .rename_i cs
  subst hp;simp only[aI,bR]at rx;obtain⟨b,off,he,hI,hcs⟩:=rx;obtain⟨vs,hvs,jq,h1⟩:=Ii hcs;obtain⟨v',h2,h3⟩:=Np (h:=h) hvs h1 hv;exact⟨b,off,vs,v',he,jq,h2,h3⟩
 .rename_i cs
  subst hp;simp only[aI]at rx;obtain⟨b,off,us,he,hI,hcs,jq⟩:=rx;obtain⟨v',h2,h3⟩:=Iq hcs (λv hv=>let ⟨j,hj,hh⟩:=sS hv;(jq j v (by simp[hj,hh])).2) hv
  exact⟨b,off,us,v',he,(λj u hj=>(jq j u hj).1),h2,h3⟩
 .rename_i k r c
  subst hp;simp only[aI]at rx;obtain⟨hlt,_,rx⟩:=rx;have dD:=hH.obj k;split at hv
  .rename_i es ex rows hk
   rw[hk]at dD rx;have he:=rx es rfl;cases hrow:rows[r]? with
   |none=>simp[hrow]at hv
   |some row =>
    simp[hrow]at hv;obtain⟨_,h2,_⟩:=dD;obtain⟨_,hcs⟩:=nY h2 hrow;obtain⟨vs,hvs,jq,h1⟩:=Ii hcs;obtain⟨v',h2,h3⟩:=Np (h:=h) (Be hvs c) (λv hv=>h1 v (mO hv)) hv
    refine⟨_,_,_,v',he,(λj u hj=>?_),h2,h3⟩
    have:=jq (c+j) u (by simpa[pF]using hj)
    rwa [<-Nat.add_assoc]at this
  .rename_i es rows hk
   rw[hk]at dD rx;have he:=rx es rfl;cases hrow:rows[r]? with
   |none=>simp[hrow]at hv
   |some row =>
    simp[hrow]at hv;obtain⟨_,h2,_⟩:=dD;obtain⟨vs,hvs,jq,h1⟩:=Y9 h2 hrow;obtain⟨v',h2,h3⟩:=Iq (Il hvs c) (λv hv=>h1 v (mO hv)) hv
    refine⟨_,_,_,v',he,(λj u hj=>?_),h2,h3⟩
    have:=jq (c+j) u (by simpa[pF]using hj)
    rwa [<-Nat.add_assoc]at this
  .simp at hv
 .simp at hv
theorem ak2{t:TypeId}{n:Nat}{ag:Bool}(lJ:wA P t ag=true)(hn:jw P t n=true){b off:Nat}{vs:List Value}
  (hc:∀(j:Nat)(v:Value),vs[j]?=some v->w.cell? ⟨b,off+j,none⟩=some v){v':Value}
  (hv:if ag then n<=vs.length/\v' = .agg (vs.take n).toArray else vs.head?=some v'):
  (loadVar t ⟨b,off,none⟩).run P w = .ok v' w:=by
 have h1:=No (P:=P) (w:=w) lJ;have h2:=wI (P:=P) (w:=w) hn;cases ag
 .simp only[eI,dI]at hv
  have:=hc 0 v' (by simpa[Wy]using hv)
  simp only[GB]at this;simp[loadVar,h1,this]
 .simp only[dF]at hv
  have hl:=run_loadCells_list (P:=P) w ⟨b,off,none⟩ (vs.take n) (λj v hj=>by
   rw[qG];exact hc j v (by rw[yK]at hj;split at hj<;>simp_all))
  have hlen:(vs.take n).length=n:=by simp;omega
  rw[hlen]at hl;simp[loadVar,h1,h2,hl,hv.2]
def u7(P:Program):List ResultVar->List RV->Bool
 | [],[]=>true
 | .tmp t::r,.t n::r'=>t==n&&u7 P r r'
 | .cell t ty::r,.c n k ag::r'=>t==n&&wA P ty ag&&jw P ty k&&u7 P r r'
 |_,_=>false
def Dt(tmps:Array Value):ResultVar->Sem Value
 | .tmp t=>pure (tmps.getD t undef)
 | .cell a t=>do loadVar t (<-asAddr (tmps.getD a undef))
theorem Oe(hs:cm φ nt m dB s g a w):∀{rs:List ResultVar}{rv:List RV}{vs:List V},u7 P rs rv=true->yS s rv=some vs ->
  ∃us:List Value,(rs.mapM (Dt a.tmps)).run P w = .ok us w/\bT φ s.heap g w vs us
 | [],[],vs,_,hv=>by
  simp[yS]at hv;subst hv;exact⟨[],by simp,by simp[bT]⟩
 | .tmp t::r,.t n::r',vs,hc,hv=>by
  simp only[u7,bJ,dN]at hc;obtain⟨rfl,hc⟩:=hc;simp only[yS,GK,uq,gI]at hv;obtain⟨ws,UF,rfl⟩:=hv;obtain⟨us,h1,h2⟩:=Oe hs hc UF;exact⟨a.tmps.getD t undef::us,by simp[Dt,h1],by simp only[bT];exact⟨hs.env t,h2⟩⟩
 | .cell t ty::r,.c n k ag::r',vs,hc,hv=>by
  simp only[u7,bJ,dN]at hc;obtain⟨⟨⟨rfl,lJ⟩,hn⟩,hc⟩:=hc;simp only[yS,GK,nP,gI]at hv;obtain⟨x,hx,ws,UF,rfl⟩:=hv;obtain⟨us,h1,h2⟩:=Oe hs hc UF;obtain⟨b,off,zs,v',he,jq,jx,fX⟩:=ak1 hs.heap (hs.env t) hx;have hl:=ak2 (P:=P) (w:=w) lJ hn jq jx;exact⟨v'::us,by simp[Dt,he,asAddr,hl,h1],by simp only[bT];exact⟨fX,h2⟩⟩
 | [],_::_,_,hc,_=>by simp[u7]at hc
 | .tmp _::_,[],_,hc,_=>by simp[u7]at hc
 | .cell _ _::_,[],_,hc,_=>by simp[u7]at hc
 | .tmp _::_,.c _ _ _::_,_,hc,_=>by simp[u7]at hc
 | .cell _ _::_,.t _::_,_,hc,_=>by simp[u7]at hc
end
end Go.VS
namespace Go.VS
section
variable {P:Program}{φ:fj}
variable {nt m dB:Nat}{s:St}{g:Gh}{a:Act}{w:World}
theorem results_eq(fn:Func)(tmps:Array Value):results fn tmps=(do
  let vs <-fn.results.mapM (Dt tmps)
  pure (if h:vs.size=1 then vs[0]else .tuple vs)):=rfl
def Of:List Value->Value
 | [v]=>v
 |us=>.tuple us.toArray
theorem ak3{fn:Func}{tmps:Array Value}{us:List Value}(h:(fn.results.toList.mapM (Dt tmps)).run P w = .ok us w):
  (results fn tmps).run P w = .ok (Of us) w:=by
 rw[results_eq];have he:fn.results.mapM (Dt tmps)=Functor.map List.toArray (fn.results.toList.mapM (Dt tmps)):=by
  conv=>lhs;rw[<-Array.toArray_toList (xs:=fn.results)]
  rw[List.mapM_toArray]
 rw[he];simp only[map_eq_pure_bind,bind_assoc,pure_bind,Sem.run_bind,h,Result.andThen_ok,Sem.run_pure]
 match us with
 | []=>rfl
 | [v]=>rfl
 |v::u::r=>simp[Of]
theorem least{J:Nat->Prop}(h:∃k,J k):∃k,J k/\∀j,j<k->¬J j:=by
 obtain⟨k,hk⟩:=h;induction k using Nat.strongRecOn with
 |_ k ih =>
  by_cases hx:∃j,j<k/\J j
  .obtain⟨j,h1,h2⟩:=hx;exact ih j h1 h2
  .exact⟨k,hk,λj hj hJ=>hx ⟨j,hj,hJ⟩⟩
open Classical in
noncomputable def FR (J:Nat->Prop):Nat:=if h:∃k,J k then Classical.choose (least h)else 0
theorem ak4{J:Nat->Prop}(h:∃k,J k):J (FR J)/\∀j,J j->FR J<=j:=by
 have hc:=BS (least h);have he:FR J=Classical.choose (least h):=by simp[FR,h]
 rw[he];exact⟨hc.1,λj hj=>Nat.le_of_not_lt λhlt=>hc.2 j hlt hj⟩
theorem ak5(hm:P.follows .mixedOrders=true)(hk:wY P φ){Pv:Prog}{n:Nat}(ih:∀k,k<n->l7 P φ (iter Pv k)/\Dr P φ (iter Pv k)/\tT P φ (iter Pv k)):Dr P φ (iter Pv n):=by
 intro nt m dB live x c env h e env' h' hc gT fuel r Bp g a w Q hs hQ
 let J:Act->World->Nat->Prop:=λa' w' k=>k<=n/\∃Og h1 g1,iter Pv k (.loop m live c Og h1)=some (.out e env' h')/\cm φ nt m dB ⟨Og,h1,true⟩ g1 a' w'/\Frame m h g w h1 g1 w'
 refine wpIn_loop (λa' w'=>∃k,J a' w' k) (λa' w'=>FR (J a' w')) ⟨n,gf _,env,h,g,gT,hs,Frame.refl _ _ _ _⟩ λa' w' hI=>?_
 obtain⟨hJ,hmin⟩:=ak4 hI;generalize FR (J a' w')=k at *;obtain⟨hkn,Og,h1,g1,hr,yq,Df⟩:=hJ;cases k with
 |zero=>simp[iter]at hr
 |succ k =>
  obtain⟨hq,hl,hy⟩:=ih k (by omega)
  simp only[iter,mR]at hr;cases he:cQ (iter Pv k) m c ⟨Og,h1,true⟩with
  |mk ex s' =>
   rw[he]at hr;have hok:s'.ok=true:=by
    cases hs':s'.ok with
    |true=>rfl
    |false=>cases ex<;>simp[hs']at hr
   refine I3 hm hk hq hl hy x c Bp hc yq (by rw[he];exact hok) λg2 a2 w2 k1 k2=>?_
   rw[he]at k1 k2⊢;cases ex with
   |normal =>
    simp only[hok,dF,nP]at hr;obtain⟨p,hp,hr⟩:=hr;obtain⟨g3,k3,k4⟩:=TY k1 hp true;have UG:J a2 w2 k:=⟨by omega,p.1,p.2,g3,hr,k3,Df.trans (k2.trans k4)⟩
    refine⟨⟨k,UG⟩,?_⟩;have:=(ak4 ⟨k,UG⟩).2 k UG;omega
   |exit id =>
    simp only[hok,dF,gw,ej.out.injEq]at hr;obtain⟨rfl,rfl,rfl⟩:=hr;exact hQ g2 a2 w2 ⟨k1.env,k1.heap,k1.size,k1.defers,k1.len⟩ (Df.trans k2)
   |ret =>
    simp only[hok,dF,gw,ej.out.injEq]at hr;obtain⟨rfl,rfl,rfl⟩:=hr;exact hQ g2 a2 w2 ⟨k1.env,k1.heap,k1.size,k1.defers,k1.len⟩ (Df.trans k2)
def Oh(P:Program)(φ:fj)(f:Nat)(F:F):Prop :=
 ∃ fn c, P.funcs[φ f]? = some fn ∧ (fn.name == "runtime.NumGoroutine") = false ∧ fn.body = some c ∧ nL P φ fn.ntmps c F.code = true ∧ u7 P fn.results.toList F.res = true
def ak6(P:Program)(φ:fj)(f:Nat)(p:List V->List O->Option (V×List O)):Prop :=
 ∀(xs:List V)(h:List O)(v:V)(h1:List O),p xs h=some (v,h1) ->
  (∃ fn, P.funcs[φ f]? = some fn ∧ (fn.name == "runtime.NumGoroutine") = false ∧ fn.body.isNone = false) ∧
  ∀(g:Gh)(w:World)(args:Array Value),eU φ h g w->bT φ h g w xs args.toList ->
   Calls P (φ f) args w λe w'=>∃v' g',e = .returned v'/\eU φ h1 g' w'/\aI φ h1 g' w' v v'/\Frame h.length h g w h1 g' w'
def FT(P:Program)(φ:fj)(f:Nat)(F:F):Prop:=(F.As=none/\Oh P φ f F)\/∃p,F.As=some p/\ak6 P φ f p
theorem ak7:∀{xs:List V}{k t:Nat},cA (oE k xs) t=if k<=t then(xs[t - k]?).getD .u else .u
 | [],k,t=>by simp[oE,cA]
 |x::xs,k,t=>by
  simp only[oE,cA,ak7 (xs:=xs)];by_cases h:k=t
  .subst h;simp
  .rw[aD h]
   by_cases h2:k<=t
   .have h3:k+1<=t:=by omega
    rw[aK h2,aK h3]
    have:t - k=(t - (k+1))+1:=by omega
    rw[this,Wt]
   .rw[aD h2,aD (by omega)]
theorem ak8{h:List O}{xs:List V}{args:Array Value}(hdB:dB<=w.heap.size)(hH:eU φ h g w)(hr:bT φ h g w xs args.toList)(nt:Nat):
  cm φ nt h.length dB ⟨oE 0 xs,h,true⟩ g {tmps:=args++Array.replicate (nt - args.size) undef,defers:=[]} w where
 env k:=by
  rw[ak7];simp only[BX,dF,Nat.sub_zero];cases hx:xs[k]? with
  |none=>simp[aI]
  |some x =>
   obtain⟨v,hv,fX⟩:=C3 hr hx;have hk:k<args.size:=by
    rcases kZ k args.size with h1 |h1
    .exact h1
    .simp[JR h1]at hv
   have:(args++Array.replicate (nt - args.size) undef).getD k undef=v:=by
    rw[Ap,Array.getElem?_append_left hk];simp at hv;simp[hv]
   rw[this];exact fX
 heap:=hH
 size:=by simp;omega
 defers:=mH.nil hdB
 len:=gf _
theorem ak9{h:List O}{zs:List V}{us:List Value}(hr:bT φ h g w zs us):aI φ h g w (tuple zs) (Of us):=by
 match zs,us,hr with
 | [],[],_=>simp only[tuple,aI];exact⟨#[],rfl,by simp[bT]⟩
 | [z],[u],hr=>simp only[bT]at hr;exact hr.1
 |z::z'::zs,u::u'::us,hr=>simp only[tuple,aI];exact⟨(u::u'::us).toArray,rfl,by simpa using hr⟩
 | [],_::_,hr=>simp[bT]at hr
 |_::_,[],hr=>simp[bT]at hr
 | [_],_::_::_,hr=>simp[bT]at hr
 |_::_::_,[_],hr=>simp[bT]at hr
theorem ala{fn:Func}{tmps:Array Value}{R:Ending->World->Prop}{h:List O}{fuel:Nat}(Inv:World->Prop)
  (hstep:∀w D,Inv w->dB<=D->w.heap[D]?=some (.deferred (some []))->(∀k,(aV h k).live=true->g.β k≠D)->Inv (w.putObj D (.deferred none)))
  (hend:∀w,Inv w->LeavesIn (Wd none) fuel P fn tmps R [] .returning w):∀(ds:List Deferred){w:World},Inv w->mH dB h g ds w->LeavesInM (Wd none) fuel P fn tmps R ds .returning w
 | [],w,hI,_=>hend w hI
 |d::ds,w,hI,hd=>by
  obtain⟨D,rfl,h2,h3,h4⟩:=hd.at_ d (by simp)
  refine⟨by simp,.inl ⟨D,_,rfl,run_takeDeferred h3,ala Inv hstep hend ds (hstep w D hI h2 h3 h4) ⟨λd' hd'=>?_,?_,by simpa using hd.le⟩⟩⟩
  .obtain⟨E,e1,e2,e3,e4⟩:=hd.at_ d' (by simp[hd'])
   refine⟨E,e1,e2,?_,e4⟩;rw[World.putObj_heap_other]
   .exact e3
   .intro he
    subst he;have:=hd.nodup;simp only[D3]at this;rw[e1]at hd';exact this.1 hd'
  .have:=hd.nodup
   simp only[D3]at this;exact this.2
theorem alb{fn:Func}{R:Ending->World->Prop}{h:List O}{g':Gh}{a':Act}{w':World}(hH:eU φ h g w)(hs':cm φ nt m w.heap.size s g' a' w')(hf':Frame m h g w s.heap g' w')
  (hpost:∀w1,cm φ nt m w.heap.size s g' {tmps:=a'.tmps,defers:=[]} w1->Frame m h g w s.heap g' w1->∃v',(results fn a'.tmps).run P w1 = .ok v' w1/\R (.returned v') w1):
  LeavesInM (Wd none) 0 P fn a'.tmps R a'.defers .returning w':=by
 refine ala (h:=s.heap) (g:=g') (dB:=w.heap.size) (λw'=>cm φ nt m w.heap.size s g' {tmps:=a'.tmps,defers:=[]} w'/\Frame m h g w s.heap g' w') (λw1 D hI hD h3 h4=>?_) (λw1 hI=>?_) a'.defers
  ⟨⟨hs'.env,hs'.heap,hs'.size,mH.nil hs'.defers.le,hs'.len⟩,hf'⟩ hs'.defers
 .obtain⟨hS,jV⟩:=hI
  have hle:=Ui (y:=.deferred none) h3 rfl rfl h4;exact⟨⟨λk=>lI hle (hS.env k),Uj hS.heap h3 rfl rfl h4,hS.size,mH.nil (by simpa using hS.defers.le),hS.len⟩,ajP jV hH hD h3 rfl rfl⟩
 .obtain⟨v',hr,hR⟩:=hpost w1 hI.1 hI.2
  exact⟨v',hr,hR⟩
theorem alc(hm:P.follows .mixedOrders=true)(hk:wY P φ){Pv:Prog}(hF:∀f F,Pv f=some F->FT P φ f F){n:Nat}(ih:l7 P φ (iter Pv n)/\Dr P φ (iter Pv n)/\tT P φ (iter Pv n)):l7 P φ (iter Pv (n+1)):=by
 intro f xs h v h1 gT;simp only[iter,mR]at gT;cases hfn:Pv f with
 |none=>rw[hfn]at gT;simp at gT
 |some F =>
  rw[hfn]at gT;rcases hF f F hfn with⟨hpn,fn,c,k1,k2,k3,k4,k5⟩ |⟨p,hp,hok⟩
  rotate_left
  .simp only at gT
   simp only[hp,gI,ej.val.injEq]at gT;obtain⟨⟨v',h'⟩,hr,rfl,rfl⟩:=gT;exact hok xs h v' h' hr
  simp only[hpn]at gT;refine⟨⟨fn,k1,k2,by simp[k3]⟩,λg w args hH hargs=>?_⟩
  cases he:cQ (iter Pv n) h.length F.code ⟨oE 0 xs,h,true⟩with
  |mk e s =>
   rw[he]at gT;have iG:finish F.res F.keep h.length s=some (.val v h1)/\(e = .normal\/e = .ret):=by
    cases e with
    |normal=>exact⟨gT,.inl rfl⟩
    |ret=>exact⟨gT,.inr rfl⟩
    |exit id=>simp at gT
   obtain⟨iG,hee⟩:=iG;have hok:=PO iG;refine(callsIn_wide (n:=0)).1 (callsIn_of_wp_marks (F:=Wd none) k1 k3 trivial (I3 hm hk ih.1 ih.2.1 ih.2.2 c F.code (.inl rfl) k4 (ak8 (gf _) hH hargs fn.ntmps) (by rw[he];exact hok) λg' a' w' hs' hf'=>?_))
   rw[he]at hs' hf'⊢;have hpost:∀w',cm φ fn.ntmps h.length w.heap.size s g' {tmps:=a'.tmps,defers:=[]} w'->Frame h.length h g w s.heap g' w'->∃v',(results fn a'.tmps).run P w' = .ok v' w'/\∃v'' g'',Ending.returned v' = .returned v''/\eU φ h1 g'' w'/\aI φ h1 g'' w' v v''/\Frame h.length h g w h1 g'' w':=by
    intro w' hs' hf';simp only[finish,hok,dF,nP,gI]at iG;obtain⟨vs',⟨vs,hvs,rfl⟩,iG⟩:=iG;obtain⟨us,Fp,fX⟩:=Oe hs' k5 hvs;have fX:=ahv fX;refine⟨_,ak3 Fp,Of us,?_⟩;split at iG
    .rename_i hm0
     simp only[gI,ej.val.injEq]at iG;obtain⟨zs,hzs,rfl,rfl⟩:=iG;obtain⟨I',k1,k2,k3⟩:=NH hs' hzs fX true;have hh:h=[]:=vA hm0.1;subst hh;have hfr:=hf'.trans k2;obtain⟨q1,q2⟩:=Nv hfr;refine⟨⟨λ_=>0,λ_=>0,I'⟩,rfl,Nu k1.heap.new,?_,?_⟩
     .exact ak9 (Bk k3)
     .exact⟨hfr.ext,hfr.size,hfr.os,hfr.tape,hfr.output,λn hn=>by simp at hn,hfr.keep,λn hn=>by simp[aV,O.live]at hn,λn hn=>by simp at hn⟩
    .simp only[gI,ej.val.injEq]at iG
     obtain⟨L,hL,rfl,rfl⟩:=iG;have UH:=Fy hL hs'.heap;obtain⟨_,yh,_⟩:=Dj hL;have ald:=yg (L:=L) yh fX;exact⟨iF g' L,rfl,UH,ak9 ald,hf'.trans (NF hL)⟩
   have ale:LeavesInM (Wd none) 0 P fn a'.tmps (λe w'=>∃v' g',e = .returned v'/\eU φ h1 g' w'/\aI φ h1 g' w' v v'/\Frame h.length h g w h1 g' w') a'.defers .returning w':=by
    exact alb hH hs' hf' λw1 h1 h2=>let ⟨v',hr,hR⟩:=hpost w1 h1 h2;⟨v',hr,hR⟩
   rcases hee with rfl |rfl
   .exact ale
   .exact ale
theorem alf:∀(l:List (Tmp×Value))(t:Array Value),(l.foldl (λtmps (t,a)=>tmps.setIfInBounds t a) t).size=t.size
 | [],_=>rfl
 |p::l,t=>by rw[JU,alf l];simp
theorem alg{k:Nat}:∀(l:List (Tmp×Value))(t:Array Value),(∀p∈l,p.1≠k)->(l.foldl (λtmps (t,a)=>tmps.setIfInBounds t a) t).getD k undef=t.getD k undef
 | [],_,_=>rfl
 |p::l,t,h=>by
  rw[JU,alg l _ (λq hq=>h q (by simp[hq]))]
  have:=h p (by simp)
  simp[Ap,GA this]
theorem Oi{h:List O}{yl:Nat}{rc:List (Nat×V)}:∀(ps:List Nat)(xs:List V)(args:List Value)(t:Array Value),ps.Nodup->(∀p∈ps,p<t.size)->bT φ h g w xs args ->
  (∀k,aI φ h g w (cA rc k) (t.getD k undef))->∀k,aI φ h g w (cA (ps.zip xs++rc) k) (((ps.zip args).foldl (λtmps (t,a)=>tmps.setIfInBounds t a) t).getD k undef)
 | [],_,_,_,_,_,_,hr,k=>by simpa using hr k
 |p::ps,[],[],_,_,_,_,hr,k=>by simpa using hr k
 |p::ps,x::xs,v::vs,t,hnd,hlt,hx,hr,k=>by
  simp only[bT]at hx;simp only[D3]at hnd;simp only[JY,sW,cA,JU];by_cases hk:p=k
  .subst hk
   rw[aK rfl,alg _ _ (λq hq he=>hnd.1 (by obtain⟨q1,q2⟩:=q;have:=(List.of_mem_zip hq).1;simp only at he;rwa [he]at this))]
   have:=hlt p (by simp)
   simpa[Ap,this]using hx.1
  .rw[aD hk]
   have ih:=Oi (yl:=yl) (rc:=rc) ps xs vs (t.setIfInBounds p v) hnd.2 (λq hq=>by simpa using hlt q (by simp[hq])) hx.2
   by_cases Du:k∈ps
   ·
    have ih2:=Oi (yl:=yl) (rc:=(p,.u)::rc) ps xs vs (t.setIfInBounds p v) hnd.2 (λq hq=>by simpa using hlt q (by simp[hq])) hx.2 (λj=>by
     simp only[cA];by_cases hj:p=j
     .rw[aK hj];simp[aI]
     .rw[aD hj];simpa[Ap,GA hj]using hr j) k
    have he:∀(ps:List Nat)(xs:List V),cA (ps.zip xs++(p,V.u)::rc) k=cA (ps.zip xs++rc) k:=by
     intro ps;induction ps with
     |nil=>intro xs;simp[cA,hk]
     |cons q qs UI =>
      intro xs;cases xs with
      |nil=>simp[cA,hk]
      |cons z zs=>simp only[JY,sW,cA,UI]
    rw[he]at ih2;exact ih2
   .have ih2:=Oi (yl:=yl) (rc:=(p,.u)::rc) ps xs vs (t.setIfInBounds p v) hnd.2 (λq hq=>by simpa using hlt q (by simp[hq])) hx.2 (λj=>by
     simp only[cA];by_cases hj:p=j
     .rw[aK hj];simp[aI]
     .rw[aD hj];simpa[Ap,GA hj]using hr j) k
    have he:∀(ps:List Nat)(xs:List V),cA (ps.zip xs++(p,V.u)::rc) k=cA (ps.zip xs++rc) k:=by
     intro ps;induction ps with
     |nil=>intro xs;simp[cA,hk]
     |cons q qs UI =>
      intro xs;cases xs with
      |nil=>simp[cA,hk]
      |cons z zs=>simp only[JY,sW,cA,UI]
    rw[he]at ih2;exact ih2
 |_::_,[],_::_,_,_,_,hx,_,_=>by simp[bT]at hx
 |_::_,_::_,[],_,_,_,hx,_,_=>by simp[bT]at hx
theorem alh{k:Nat}:∀{env:List (Nat×V)},cA env k = .u\/∃p∈env,p.1=k/\cA env k=p.2
 | []=>.inl rfl
 |p::env=>by
  simp only[cA];by_cases hk:p.1=k
  .rw[aK hk];exact .inr ⟨p,by simp,hk,rfl⟩
  .rw[aD hk]
   rcases alh (env:=env) (k:=k)with h |⟨q,hq,h1,h2⟩
   .exact .inl h
   .exact .inr ⟨q,by simp[hq],h1,h2⟩
theorem UJ{h h':List O}{g':Gh}{w':World}{l:Nat}(hf:Frame m h g w h' g' w')(hl:l<w.heap.size)(hu:∀k,(aV h k).live=true->g.β k≠l):∀k,(aV h' k).live=true->g'.β k≠l:=by
 intro k hk he;rcases hf.mG k hk with⟨j,hj,hb⟩ |hs
 .exact hu j hj (hb.trans he)
 .omega
theorem ali(hm:P.follows .mixedOrders=true)(hk:wY P φ){Pv:Prog}{n:Nat}(ih:l7 P φ (iter Pv n)/\Dr P φ (iter Pv n)/\tT P φ (iter Pv n)):tT P φ (iter Pv (n+1)):=by
 intro ps A B xs env h e env' h1 gT fuel r g w l rc nt args hlk hnt hps hH hxs NR hlen hl hst hun;simp only[iter,mR]at gT;cases hA:cQ (iter Pv n) h.length A ⟨ps.zip xs++env,h,true⟩with
 |mk eA s1 =>
 rw[hA]at gT;cases eA<;>simp only at gT<;>try (simp at gT;done)
 cases hB:cQ (iter Pv n) h.length B s1 with
 |mk eB s2 =>
 rw[hB]at gT;simp only at gT;split at gT
 rotate_left
 .simp at gT
 rename_i Aw;simp only[gI,ej.out.injEq]at gT;obtain⟨L,hL,rfl,_,rfl⟩:=gT;have T3:s1.ok=true:=yT (rec:=iter Pv n) (m:=h.length) (c:=B) (by rw[hB];exact Aw)
 have hlt:=Bc hl;have alj:=(hk ps A B rc.assign rc.body nt).1 hlk;simp only[Oa,bJ,fZ,yM]at alj;obtain⟨⟨⟨⟨⟨q1,q2⟩,q3⟩,q4⟩,q5⟩,q6⟩:=alj;have alk:rc.params.zip args.toArray=(ps.zip args).toArray:=by rw[hps];simp
 rw[alk];simp only[List.foldl_toArray'];have hs0:cm φ nt h.length 0 ⟨ps.zip xs++env,h,true⟩ g {tmps:=(ps.zip args).foldl (λtmps (t,a)=>tmps.setIfInBounds t a) rc.tmps,defers:=[]} w:=by
  refine⟨Oi (yl:=nt) ps xs args rc.tmps q1 (λp hp=>pz (q2 p hp) hnt) hxs (λk=>?_),hH,by rw[alf];exact hnt,mH.nil (BX _),gf _⟩
  rcases alh (env:=env) (k:=k)with h0 |⟨p,hp,rfl,h2⟩
  .rw[h0];simp[aI]
  .rw[h2];exact NR p hp
 refine roundIn_of_wpIn trivial ?_;refine I3 (r:=some l) hm hk ih.1 ih.2.1 ih.2.2 rc.assign A (.inr q3) q5 hs0 (by rw[hA];exact T3) λg1 a1 w1 tN p8=>?_
 rw[hA]at tN p8⊢;have Oj:=UJ p8 hlt hun;have pT:w1.heap[l]?=some (.loop rc):=by rw[(p8.keep l hlt hun).1];exact hl
 show ∃w₂,(Instr.beginRound l).run P w1 = .ok () w₂/\_
 refine⟨_,run_beginRound pT hst,?_⟩;have IB:=tN.putObj (y:=.loop {rc with state:=.busy}) pT rfl (by simp) rfl Oj
 refine I3 (r:=some l) hm hk ih.1 ih.2.1 ih.2.2 rc.body B (.inr q4) q6 IB (by rw[hB];exact Aw) λg2 a2 w2 Oc Ok=>?_
 rw[hB]at Oc Ok⊢;have Ol:l<(w1.putObj l (.loop {rc with state:=.busy})).heap.size:=by have:=p8.size;simp;omega
 have hu2:=UJ Ok Ol Oj;have kL:w2.heap[l]?=some (.loop {rc with state:=.busy}):=by rw[(Ok.keep l Ol Oj).1];exact World.putObj_heap_same (by simpa using Ol)
 have UH:=Fy hL Oc.heap;have Od:=NF hL (g:=g2) (w:=w2);have hu3:=UJ Od (by have:=Bc kL;omega) hu2
 have fin:∃v w',(Instr.endRound l (wm eB)).run P w2 = .ok v w'/\∃g',Ending.returned v = .returned (.bool (wm eB).isNone)/\eU φ (sub s2.heap L) g' w'/\Frame h.length h g (w.putObj l (.loop (tR rc eB))) (sub s2.heap L) g' w':=by
  refine⟨_,_,run_endRound (wm eB) kL,iF g2 L,rfl,?_,?_⟩
  .exact Uj UH kL rfl rfl hu3
  .have hfr:(.loop {({rc with state:=.busy}:Loop)with state:=if(wm eB).isNone then .ready else .done,pending:=wm eB}:Obj) = .loop (tR rc eB):=by
    cases eB<;>simp[tR,wm]
   rw[hfr];have f1:=Uk (y:=.loop (tR rc eB)) p8 hl rfl hun;have f2:=Uk (y:=.loop (tR rc eB)) Ok (World.putObj_heap_same (by simpa using Ol)) rfl Oj
   have f3:=Uk (y:=.loop (tR rc eB)) Od kL rfl hu2;rw[ajQ]at f2;exact(f1.trans f2).trans f3
 cases eB with
 |normal=>exact fin
 |exit id=>exact fin
 |ret=>exact fin
theorem Om(hm:P.follows .mixedOrders=true)(hk:wY P φ){Pv:Prog}(hF:∀f F,Pv f=some F->FT P φ f F)(n:Nat):l7 P φ (iter Pv n)/\Dr P φ (iter Pv n)/\tT P φ (iter Pv n):=by
 induction n using Nat.strongRecOn with
 |_ n ih =>
  refine⟨?_,ak5 hm hk ih,?_⟩
  .cases n with
   |zero=>intro f xs hp v h1 h;simp[iter]at h
   |succ n=>exact alc hm hk hF (ih n (by omega))
  .cases n with
   |zero=>intro ps A B xs env h e env' h1 h;simp[iter]at h
   |succ n=>exact ali hm hk (ih n (by omega))
theorem alm(hm:P.follows .mixedOrders=true)(hk:wY P φ){Pv:Prog}(hF:∀f F,Pv f=some F->FT P φ f F):l7 P φ (ev Pv)/\Dr P φ (ev Pv)/\tT P φ (ev Pv):=
 ⟨λf xs h v h1 he=>let ⟨n,hn⟩:=D8.1 he;(Om hm hk hF n).1 f xs h v h1 hn,
  λnt m dB live x c env h e env' h' hc he=>let ⟨n,hn⟩:=D8.1 he;(Om hm hk hF n).2.1 nt m dB live x c env h e env' h' hc hn,
  λps A B xs env h e env' h1 he=>let ⟨n,hn⟩:=D8.1 he;(Om hm hk hF n).2.2 ps A B xs env h e env' h1 hn⟩
theorem aln(hm:P.follows .mixedOrders=true)(hk:wY P φ){Pv:Prog}(hF:∀f F,Pv f=some F->FT P φ f F){f:Nat}{ds:List D}{v:V}(h:ev Pv (.call f (ds.map V.d) [])=some (.val v []))
  {I:Nat->Nat}{args:Array Value}(hI:∀b,w.heap.size<=b->I b=0)(hr:cy φ I w ds args.toList):
  Calls P (φ f) args w λe w'=>∃v' I',e = .returned v'/\gN w w'/\(∀b,b<w.heap.size->I' b=I b)/\(∀b,w'.heap.size<=b->I' b=0)/\∀g:Gh,g.I=I'->aI φ [] g w' v v':=by
 obtain⟨n,hn⟩:=D8.1 h;refine Calls.mono (((Om hm hk hF n).1 f _ [] v [] hn).2 ⟨λ_=>0,λ_=>0,I⟩ w args (Nu hI) (zx hr)) λe w' hh=>?_
 obtain⟨v',g',rfl,hH,fX,hfr⟩:=hh;obtain⟨q1,q2⟩:=Nv hfr;exact⟨v',g'.I,rfl,q1,q2,hH.new,λgg hg=>Zu hg fX⟩
end
end Go.VS
