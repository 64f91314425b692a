import Derived.Test.YtjpdopldkeodgaaGreatV08
import Derived.Test.YtjpdopldkeodgaaGreatV06
import Derived.Test.YtjpdopldkeodgaaGreatV05
set_option linter.all false
set_option maxHeartbeats 1000000
namespace Go.VS.Sp
theorem atj(nm:D)(k sz ot:Int)(s:S)(c:Cl)(hn:s.Q.length<=1000000)(bQ:ev P (.call gn [.d (.ag [nm,I' k,I' sz,I' ot]),.d (.ag s.row)] [])=some (.val (.d (I' 0)) []))(he:Eh s c≠0):
  ev P (.call iR [.d (.ag [nm,I' k,I' sz,I' ot]),.d (.ag s.row),.d (.ag c.row)] [])=some (.val (.tu [.d (.ag ny),.d (I' (Eh s c))]) []):=by
 obtain⟨fi,dr⟩:=mR s c.task hn;have hop:=lz;have hcb:=lD c;rw[au kA rfl];unfold Eh at *;generalize fK s c.task=q at *;obtain⟨own,cnt,time,hn',H,qn,Q,bn,B,cn,C,cl,val⟩:=s;simp only[S.row,Cl.row]at *;cases h1:cM c
 .rw[h1,aG (by simp)]at he
  rw[aG (by simp)]
  rw[h1]at hcb;cases h2:(c.op != 64&&c.op != 65&&c.op != 66)
  .rw[h2,aG (by simp)]at he
   rw[aG (by simp)]
   have atk:c.op=64\/c.op=65\/c.op=66:=by simp at h2;omega
   rcases atk with ho |ho |ho;all_goals
    rw[ho]at he⊢;cases h4:num c.value<;>cases q<;>cases cl<;>rw[h4]at he<;>simp at he⊢<;>simp[jw,j5,j6,lC,bQ,dr,hop,hcb,ho,h4,aJ,aD,sub,aE,back,az,av,ak,cut,bA,aq,V.aY,bt,aX,bg,aO,aP]
  .rw[aN rfl]
   simp at h2;simp[jw,j5,j6,bQ,dr,hop,hcb,h2,aJ,aD,sub,aE,back,az,av,ak,cut,bA,aq,V.aY,bt,aX,bg,aO,aP]
 .rw[aN rfl]
  rw[h1]at hcb;simp[jw,j5,j6,bQ,hcb,aJ,aD,sub,aE,back,az,av,ak,cut,bA,aq,V.aY,bt,aX,bg,aO,aP]
def j9(s:S)(w:W):List W:=s.Q.filter λx=>x.task != w.task
def Xd(sz:Int)(s:S)(c:Cl):Ry :=
 if c.op=64 then
  match fW 65 s.Q with
  |some w=>⟨{s with qn:=decide (j9 s w=[]),Q:=j9 s w},false,0,true,false,[⟨w.task,w.op,c.value,true,w.case⟩]⟩
  |none=>if(s.B.length:Int)<sz then⟨{s with bn:=false,B:=s.B++[c.value]},false,0,true,true,[]⟩else⟨{s with qn:=false,Q:=s.Q++[kW c]},true,0,false,true,[]⟩
 else if c.op=65 then
  match s.B with
  |x::B=>(match fW 64 s.Q with
   |some w=>⟨{s with B:=B++[w.value],qn:=decide (j9 s w=[]),Q:=j9 s w},false,x,true,false,[⟨w.task,w.op,0,true,w.case⟩]⟩
   |none=>⟨{s with B:=B},false,x,true,true,[]⟩)
  | []=>match fW 64 s.Q with
   |some w=>⟨{s with qn:=decide (j9 s w=[]),Q:=j9 s w},false,w.value,true,false,[⟨w.task,w.op,0,true,w.case⟩]⟩
   |none=>if s.cl=true then⟨s,false,0,false,true,[]⟩else⟨{s with qn:=false,Q:=s.Q++[kW c]},true,0,false,true,[]⟩
 else match s.Q with
  |w::T=>⟨{s with cl:=true,qn:=true,Q:=[]},false,0,true,false,kL (T.length+1) (w::T)⟩
  | []=>⟨{s with cl:=true},false,0,true,true,[]⟩
theorem atl(nm:D)(k sz ot:Int)(s:S)(c:Cl)(hf:s.fP)(bQ:ev P (.call gn [.d (.ag [nm,I' k,I' sz,I' ot]),.d (.ag s.row)] [])=some (.val (.d (I' 0)) [])):
  pQ (ev P (.call iR [.d (.ag [nm,I' k,I' sz,I' ot]),.d (.ag s.row),.d (.ag c.row)] [])) (Eh s c) (Xd sz s c):=by
 have GQ:=hf.q;have kG:=hf.b;by_cases he:Eh s c=0
 .refine .inl ⟨he,?_⟩
  unfold Eh at he;obtain⟨hb,he⟩:=iJ (by decide) he
  obtain⟨h2,he⟩:=iJ (by decide) he
  obtain⟨h3,he⟩:=iJ (by decide) he
  obtain⟨ht,he⟩:=iJ (by decide) he
  obtain⟨h5,he⟩:=iJ (by decide) he
  obtain⟨h6,_⟩:=iJ (b:=(s.cl&&c.op==66)) (a:=17) (r:=0) (by decide) he
  simp at h2 h3 h5 h6;have hop:c.op=64\/c.op=65\/c.op=66:=by omega
  have hn:s.Q.length<=250:=by omega
  have hm:s.B.length<=250:=by omega
  unfold Xd;cases hq:s.qn
  .rcases hop with ho |ho |ho
   .have mU:num c.value=true:=h3 ho
    have bR:s.cl=false:=by cases h:s.cl;rfl;exact absurd ho (h5 h)
    rw[aN ho];cases hw:fW 65 s.Q with
    |some w=>have h:=asQ nm k sz ot s c hf.wf hq hn hm bQ hb ht ho mU bR w hw;first |exact h |(simp only[hq]at h;exact h)
    |none =>
     simp only;by_cases hl:(s.B.length:Int)<sz
     .rw[aN hl];have h:=asR nm k sz ot s c hf.wf hq hn hm bQ hb ht ho mU bR hw hl;first |exact h |(simp only[hq]at h;exact h)
     .rw[aG hl];have h:=asS nm k sz ot s c hf.wf hq hn hm bQ hb ht ho mU bR hw hl;first |exact h |(simp only[hq]at h;exact h)
   .rw[aG (by omega),aN ho]
    cases hB:s.B with
    |nil =>
     simp only;cases hw:fW 64 s.Q with
     |some w=>have h:=asX nm k sz ot s c hf.wf hq hn hm bQ hb ht ho w hB hw;first |exact h |(simp only[hq,hB]at h;exact h)
     |none =>
      simp only;cases bR:s.cl
      .rw[aG (by simp)];have h:=asZ nm k sz ot s c hf.wf hq hn hm bQ hb ht ho hB hw bR;first |exact h |(simp only[hq,hB,bR]at h;exact h)
      .rw[aN rfl];have h:=asY nm k sz ot s c hf.wf hq hn hm bQ hb ht ho hB hw bR;first |exact h |(simp only[hq,hB,bR]at h;exact h)
    |cons x B =>
     simp only;cases hw:fW 64 s.Q with
     |some w =>
      cases B with
      |nil=>have h:=asW nm k sz ot s c hf.wf hq hn hm bQ hb ht ho x w hB hw;first |exact h |(simp only[hq,hB]at h;exact h)
      |cons y B=>have h:=asV nm k sz ot s c hf.wf hq hn hm bQ hb ht ho x y B w hB hw;first |exact h |(simp only[hq,hB]at h;exact h)
     |none =>
      cases B with
      |nil=>have h:=asU nm k sz ot s c hf.wf hq hn hm bQ hb ht ho x hB hw;first |exact h |(simp only[hq,hB]at h;exact h)
      |cons y B=>have h:=asT nm k sz ot s c hf.wf hq hn hm bQ hb ht ho x y B hB hw;first |exact h |(simp only[hq,hB]at h;exact h)
   .have bR:s.cl=false:=by cases h:s.cl;rfl;exact absurd ho (h6 h)
    rw[aG (by omega),aG (by omega)]
    cases AK:s.Q with
    |nil=>have h:=as1 nm k sz ot s c hf.wf hq hn hm bQ hb ht ho bR AK;first |exact h |(simp only[hq,AK]at h;exact h)
    |cons w T=>have h:=as0 nm k sz ot s c hf.wf hq hn hm bQ hb ht ho bR w T AK;first |exact h |(simp only[hq,AK]at h;exact h)
  .have oF:=hf.qn hq
   have hab:s.ab true=s:=by
    unfold S.ab;rw[<-hq,<-oF]
   have vL:ev P (.call gn [.d (.ag [nm,I' k,I' sz,I' ot]),.d (.ag (s.ab true).row)] [])=some (.val (.d (I' 0)) []):=by rw[hab];exact bQ
   have hw:∀op,fW op s.Q=none:=λop=>by rw[oF];rfl
   have hpk:s.Q++[kW c]=[kW c]:=by rw[oF];rfl
   rw[hw,hw,hpk];rcases hop with ho |ho |ho
   .have mU:num c.value=true:=h3 ho
    have bR:s.cl=false:=by cases h:s.cl;rfl;exact absurd ho (h5 h)
    rw[aN ho];simp only;cases cJ:s.bn
    .by_cases hl:(s.B.length:Int)<sz
     .rw[aN hl];have h:=as2 nm k sz ot s c hm vL hb ho mU bR cJ hl;rw[hab]at h;first |exact h |(simp only[cJ,hq,oF]at h⊢;exact h)
     .rw[aG hl];have h:=as3 nm k sz ot s c hm vL hb ho mU bR cJ hl;rw[hab]at h;first |exact h |(simp only[cJ,hq,oF]at h⊢;exact h)
    .have hB:=hf.wf.b cJ
     by_cases hl:(s.B.length:Int)<sz
     .rw[aN hl];have h:=as9 nm k sz ot s c hm vL hb ho mU bR cJ hB (by rw[hB]at hl;simpa using hl);rw[hab]at h;first |exact h |(simp only[hq,cJ]at h⊢;exact h)
     .rw[aG hl];have h:=ata nm k sz ot s c hm vL hb ho mU bR cJ hB (by rw[hB]at hl;simpa using hl);rw[hab]at h;first |exact h |(simp only[hq,cJ]at h⊢;exact h)
   .rw[aG (by omega),aN ho]
    cases hB:s.B with
    |nil =>
     simp only;cases cJ:s.bn
     .cases bR:s.cl
      .rw[aG (by simp)];have h:=as7 nm k sz ot s c hm vL hb ho cJ hB bR;rw[hab]at h;first |exact h |(simp only[hB,bR,cJ,hq,oF]at h⊢;exact h)
      .rw[aN rfl];have h:=as6 nm k sz ot s c hm vL hb ho cJ hB bR;rw[hab]at h;first |exact h |(simp only[hB,bR,cJ,hq,oF]at h⊢;exact h)
     .cases bR:s.cl
      .rw[aG (by simp)];have h:=atc nm k sz ot s c hm vL hb ho cJ hB bR;rw[hab]at h;first |exact h |(simp only[hB,bR,cJ,hq,oF]at h⊢;exact h)
      .rw[aN rfl];have h:=atb nm k sz ot s c hm vL hb ho cJ hB bR;rw[hab]at h;first |exact h |(simp only[hB,bR,cJ,hq,oF]at h⊢;exact h)
    |cons x B =>
     simp only;have cJ:s.bn=false:=by
      cases h:s.bn
      .rfl
      .have:=hf.wf.b h;rw[hB]at this;cases this
     cases B with
     |nil=>have h:=as5 nm k sz ot s c hm vL hb ho cJ x hB;rw[hab]at h;first |exact h |(simp only[hB,hq,oF]at h⊢;exact h)
     |cons y B=>have h:=as4 nm k sz ot s c hm vL hb ho cJ x y B hB;rw[hab]at h;first |exact h |(simp only[hB,hq,oF]at h⊢;exact h)
   .have bR:s.cl=false:=by cases h:s.cl;rfl;exact absurd ho (h6 h)
    rw[aG (by omega),aG (by omega)]
    simp only[oF];cases cJ:s.bn
    .have h:=as8 nm k sz ot s c hm vL hb ho bR cJ;rw[hab]at h;first |exact h |(simp only[cJ,hq,oF]at h⊢;exact h)
    .have h:=atd nm k sz ot s c hm vL hb ho bR cJ (hf.wf.b cJ);rw[hab]at h;first |exact h |(simp only[cJ,hq,oF]at h⊢;exact h)
 .exact .inr ⟨he,_,_,_,_,_,_,_,_,_,_,_,_,_,atj nm k sz ot s c (by omega) bQ he⟩
theorem Xe{sz:Int}{s:S}(hs:Ch sz s)(w:W){B:List Int}{qn bn:Bool}(hB:B.length=s.B.length)(hb:∀n∈B,num n=true):Ch sz {s with qn:=qn,Q:=j9 s w,bn:=bn,B:=B}:=by
 have hsub:(j9 s w).Sublist s.Q:=xN;refine⟨hs.own,hs.cnt,hs.tm,hs.val,hs.h,hs.c,by simp only;rw[hB];exact hs.bl,hb,mE hsub.length_le hs.len,λx hx=>hs.w x (hsub.subset hx),hs.nc.sublist hsub,λh=>?_,λx hx ho=>?_,λx hx ho=>?_⟩
 .have:=hs.cl h
  unfold j9;simp[this]
 .obtain⟨h1,h2⟩:=hs.vs x (hsub.subset hx) ho
  exact⟨by simp only;rw[hB];exact h1,λy hy=>h2 y (hsub.subset hy)⟩
 .obtain⟨h1,h2⟩:=hs.vr x (hsub.subset hx) ho
  refine⟨?_,λy hy=>h2 y (hsub.subset hy)⟩
  rw[h1]at hB;exact AQ hB
theorem PY{sz:Int}{s:S}(hs:Ch sz s){B:List Int}{qn bn cl:Bool}(hB:(B.length:Int)<=sz)(hb:∀n∈B,num n=true):Ch sz {s with qn:=qn,Q:=[],bn:=bn,B:=B,cl:=cl}:=
 ⟨hs.own,hs.cnt,hs.tm,hs.val,hs.h,hs.c,hB,hb,by simp,by simp,List.Pairwise.nil,λ_=>rfl,by simp,by simp⟩
theorem atm{sz:Int}{s:S}{c:Cl}(hs:Ch sz s)(iP:s.Q.length<=40)(hb:cM c=false)(ht:fK s c.task=false)(bR:s.cl=false)(hv:c.op=64->num c.value=true)
  (h:c.op=64/\(s.B.length:Int)=sz/\(∀x∈s.Q,x.op≠65)\/c.op=65/\s.B=[]/\∀x∈s.Q,x.op≠64):Ch sz {s with qn:=false,Q:=s.Q++[kW c]}:=by
 have hbd:=xF hb;have hnt:∀x∈s.Q,x.task≠c.task:=by
  unfold fK at ht;rw[oK]at ht;intro x hx;simpa using ht x hx
 have hw:dU (kW c)=true/\((kW c).op=64\/(kW c).op=65/\(kW c).value=0):=by
  unfold dU kR kW;rcases h with⟨h,_⟩ |⟨h,_⟩
  .have:=apS.1 (hv h)
   simp[h];omega
  .simp[h]
   omega
 refine⟨hs.own,hs.cnt,hs.tm,hs.val,hs.h,hs.c,hs.bl,hs.nb,by simp;omega,λx hx=>?_,?_,λh=>by simp[bR]at h,λx hx ho=>?_,λx hx ho=>?_⟩
 .rcases dm.1 hx with hx |hx
  .exact hs.w x hx
  .simp at hx;rw[hx];exact hw
 .rw[oN]
  refine⟨hs.nc,by simp,λa ha b hb=>?_⟩
  simp at hb;subst hb;have:=hnt a ha;unfold tc kW;simp[this]
 .have hB:(s.B.length:Int)=sz/\∀y∈s.Q,y.op≠65:=by
   rcases h with⟨_,h1,h2⟩ |⟨h0,_,h2⟩
   .exact⟨h1,h2⟩
   .exfalso
    rcases dm.1 hx with hx |hx
    .exact h2 x hx ho
    .simp at hx;rw[hx]at ho;have:c.op=64:=ho;omega
  refine⟨hB.1,λy hy Dl=>?_⟩
  rcases dm.1 hy with hy |hy
  .exact absurd Dl (hB.2 y hy)
  .simp at hy
   rw[hy]at Dl;have Dl:c.op=65:=Dl;rcases h with⟨h0,_⟩ |⟨_,_,h2⟩
   .omega
   .rcases dm.1 hx with hx |hx
    .exact absurd ho (h2 x hx)
    .simp at hx;rw[hx]at ho;have:c.op=64:=ho;omega
 .have hB:s.B=[]/\∀y∈s.Q,y.op≠64:=by
   rcases h with⟨h0,_,h2⟩ |⟨_,h1,h2⟩
   .exfalso
    rcases dm.1 hx with hx |hx
    .exact h2 x hx ho
    .simp at hx;rw[hx]at ho;have:c.op=65:=ho;omega
   .exact⟨h1,h2⟩
  refine⟨hB.1,λy hy vi=>?_⟩
  rcases dm.1 hy with hy |hy
  .exact absurd vi (hB.2 y hy)
  .simp at hy
   rw[hy]at vi;have vi:c.op=64:=vi;rcases h with⟨_,_,h2⟩ |⟨h0,_⟩
   .rcases dm.1 hx with hx |hx
    .exact absurd ho (h2 x hx)
    .simp at hx;rw[hx]at ho;have:c.op=65:=ho;omega
   .omega
theorem atn:∀(n:Nat)(Q:List W),∃L:List W,(∀w∈L,w∈Q)/\kL n Q=L.map xG/\L.length<=n
 | 0,Q=>⟨[],by simp,by simp[kL],by simp⟩
 |n+1,[]=>⟨[],by simp,by simp[kL],by simp⟩
 |n+1,w::T=>by
  obtain⟨L,h1,h2,h3⟩:=atn n ((w::T).filter λx=>x.task != w.task)
  refine⟨w::L,λx hx=>?_,by rw[show kL (n+1) (w::T)=xG w::kL n ((w::T).filter λx=>x.task != w.task)from rfl,h2];rfl,by simp;omega⟩
  rcases dD.1 hx with rfl |hx
  .simp
  .exact(lF.1 (h1 x hx)).1
theorem ato{sz ot now:Int}{B:List Int}(hn:gM 6 sz ot=0)(h:(B.length:Int)<=dc sz)(hb:∀n∈B,num n=true)(hw0:0<=now/\now<=1099511627776):∀(L:List W),(∀w∈L,dU w=true/\(w.op=64\/w.op=65/\B=[]))->∀a:S,a.pl=aC B true ->
  (dz 6 sz ot a (L.map λw=>xH now w 0 false)).2=true/\(dz 6 sz ot a (L.map λw=>xH now w 0 false)).1.pl=aC B true
 | [],_,a,ha=>by simp[dz,ha]
 |w::r,hw,a,ha=>by
  obtain⟨h1,h2⟩:=hw w (by simp)
  have hE:eC (dc sz) (aC B true) ⟨w.task,w.op,w.value,w.prio,now⟩=(aC B true,0,false,0):=by
   unfold eC;rcases h2 with h2 |⟨h2,h3⟩
   .simp[h2,aC,er]
   .subst h3;simp[h2,aC,er]
  have he:=Xa (c:=⟨w.task,w.op,w.value,w.prio,now⟩) hn h hb (ux h1 hw0) (by simp only;omega) (λ_=>Ea h1) (by rw[hE])
  rw[hE,<-ha]at he;rw[gm,nC (x:=xH now w 0 false) he rfl rfl (.inl (by unfold xH;simp only;omega)),ha]
  exact ato hn h hb hw0 r (λx hx=>hw x (by simp[hx])) _ rfl
theorem atp(sz:Int):1<=dc sz/\sz<=dc sz:=by
 unfold dc;split<;>omega
theorem atq(nm:D)(sz ot:Int)(s:S)(c:Cl)(hf:s.fP)(iP:s.Q.length<=40):
  mS (ev P (.call iR [.d (.ag [nm,I' 6,I' sz,I' ot]),.d (.ag s.row),.d (.ag c.row)] [])) 6 sz ot s c:=by
 have bQ:ev P (.call gn [.d (.ag [nm,I' 6,I' sz,I' ot]),.d (.ag s.row)] [])=some (.val (.d (I' (dg 6 sz ot s))) []):=VM nm 6 sz ot s hf.sm;by_cases hc:dg 6 sz ot s=0
 .obtain⟨hn,hs⟩:=PW.1 hc
  rw[hc]at bQ;refine mS.of (atl nm 6 sz ot s c hf bQ) λhe=>?_
  unfold Eh at he;obtain⟨hb,he⟩:=iJ (by decide) he
  have hbd:=xF hb;obtain⟨h2,he⟩:=iJ (by decide) he
  obtain⟨h3,he⟩:=iJ (by decide) he
  obtain⟨ht,he⟩:=iJ (by decide) he
  obtain⟨h5,he⟩:=iJ (by decide) he
  obtain⟨h6,_⟩:=iJ (b:=(s.cl&&c.op==66)) (a:=17) (r:=0) (by decide) he
  simp at h2 h3 h5 h6;have hop:c.op=64\/c.op=65\/c.op=66:=by omega
  have hv:c.op=64->num c.value=true:=h3;have kG:=hf.b;have PR:=hs.bl;have hsz:0<=sz/\sz<=100:=by
   unfold gM at hn;simp at hn;omega
  obtain⟨jX,lX⟩:=atp sz;have fN:∀(qn bn:Bool)(Q:List W)(B:List Int)(cl:Bool),(({s with qn:=qn,Q:=Q,bn:=bn,B:=B,cl:=cl}:S).ab true).pl=aC B cl:=λqn bn Q B cl=>by
   unfold S.ab S.pl aC;simp[hs.own,hs.cnt,hs.tm,hs.val,hs.h,hs.c]
  have nq:(s.ab true).pl=aC s.B s.cl:=fN s.qn s.bn s.Q s.B s.cl;have iN:∀(qn bn:Bool)(Q:List W)(B:List Int)(cl:Bool),(qn=true->Q=[])->(bn=true->B=[])->Q.length<=41->B.length<=121->({s with qn:=qn,Q:=Q,bn:=bn,B:=B,cl:=cl}:S).fP:=λqn bn Q B cl h1 h2 h3 h4 =>
   ⟨⟨hf.wf.h,h2,hf.wf.c,hf.wf.k⟩,h1,hf.h,h3,h4,hf.c,hf.l⟩
  have AL:∀s':S,Ch sz s'->dg 6 sz ot s'=0:=λs' h=>PW.2 ⟨hn,h⟩
  have hfl:∀w,(j9 s w).length<=41:=λw=>by
   have:(j9 s w).length<=s.Q.length:=oM _ _
   omega
  have Xf:∀w,decide (j9 s w=[])=true->j9 s w=[]:=λw h=>by simpa using h
  have own:∀(B:List Int)(cl:Bool)(B':List Int)(Ei:Bool)(v:Int)(ok:Bool)(R:List Cp)(a:S),(B.length:Int)<=dc sz->(∀n∈B,num n=true)->eC (dc sz) (aC B cl) c=(aC B' Ei,v,ok,0)->a.pl=aC B cl ->
    dz 6 sz ot a (gB c v ok::R)=dz 6 sz ot (aC B' Ei) R:=λB cl B' Ei v ok R a h1 h2 hE ha=>by
   have he:=Xa (c:=c) hn h1 h2 hb hop hv (by rw[hE])
   rw[hE,<-ha]at he;exact nC (x:=gB c v ok) he rfl rfl (.inl (by unfold gB;simp only;omega))
  have Xg:∀(B:List Int)(cl:Bool)(B':List Int)(Ei:Bool)(w:W)(v:Int)(ok:Bool)(R:List Cp)(a:S),w∈s.Q->(B.length:Int)<=dc sz->(∀n∈B,num n=true)->eC (dc sz) (aC B cl) ⟨w.task,w.op,w.value,w.prio,c.now⟩=(aC B' Ei,v,ok,0)->a.pl=aC B cl ->
    dz 6 sz ot a (xH c.now w v ok::R)=dz 6 sz ot (aC B' Ei) R:=λB cl B' Ei w v ok R a hw h1 h2 hE ha=>by
   obtain⟨g1,g2⟩:=hs.w w hw;have he:=Xa (c:=⟨w.task,w.op,w.value,w.prio,c.now⟩) hn h1 h2 (ux g1 (by omega)) (by simp only;omega) (λ_=>Ea g1) (by rw[hE])
   rw[hE,<-ha]at he;exact nC (x:=xH c.now w v ok) he rfl rfl (.inl (by unfold xH;simp only;omega))
  have vI:∀(w:W)(v:Int)(ok:Bool),w∈s.Q->iC s.Q c.now ⟨w.task,w.op,v,ok,w.case⟩=xH c.now w v ok:=λw v ok hw=>ati c.now v ok hs.nc hw
  have DC:mD s c=(c.op==65&&s.B.isEmpty):=by
   unfold mD;rcases hop with h |h |h<;>simp[h]
  unfold Xd;rcases hop with ho |ho |ho
  .have bR:s.cl=false:=by cases h:s.cl;rfl;exact absurd ho (h5 h)
   have hl:mD s c=false:=by rw[DC];simp[ho]
   rw[Cf (by decide) hl,aN ho]
   rw[bR]at nq;have hsend:∀B:List Int,(B.length:Int)<dc sz->eC (dc sz) (aC B false) c=(aC (B++[c.value]) false,0,true,0):=λB h=>by
    unfold eC
    have:¬dc sz<=(B.length:Int):=by omega
    simp[ho,aC,gd,this]
   cases hw:fW 65 s.Q with
   |some w =>
    obtain⟨g1,g2⟩:=Xb hw;obtain⟨hB,_⟩:=hs.vr w g1 g2;refine⟨iN _ _ _ _ _ (Xf w) hf.wf.b (hfl w) kG,hc,AL _ (Xe hs w rfl hs.nb),by simp,?_⟩
    simp only[iY,fG,dK,xR,gm,gQ];rw[vI w _ _ g1];unfold jL;rw[show(⟨c,⟨c.task,c.op,0,true,-1⟩⟩:Cp)=gB c 0 true from rfl]
    rw[hB]at nq;rw[own [] false [c.value] false 0 true _ _ (by simp;omega) (by simp) (hsend [] (by simp;omega)) nq]
    rw[Xg [c.value] false [] false w c.value true _ _ g1 (by simp;omega) (by simp[hv ho]) (by unfold eC;simp[g2,aC]) rfl]
    refine⟨rfl,?_⟩;have:=fN (decide (j9 s w=[])) s.bn (j9 s w) s.B s.cl;rw[hB,bR]at this;have e:({s with qn:=decide (j9 s w=[]),Q:=j9 s w}:S)={s with qn:=decide (j9 s w=[]),Q:=j9 s w,bn:=s.bn,B:=[],cl:=false}:=by rw[<-hB,<-bR]
    rw[e,this];rfl
   |none =>
    simp only;have hno:=Xc hw;by_cases hlt:(s.B.length:Int)<sz
    .rw[aN hlt]
     have hQ:s.Q=[]:=by
      cases hq:s.Q with
      |nil=>rfl
      |cons x T =>
       have hx:x∈s.Q:=by rw[hq];simp
       rcases(hs.w x hx).2 with h |⟨h,_⟩
       .have:=(hs.vs x hx h).1;omega
       .exact absurd h (hno x hx)
     have hnb:∀n∈s.B++[c.value],num n=true:=λn hm=>by
      rcases dm.1 hm with hm |hm
      .exact hs.nb n hm
      .simp at hm;rw[hm];exact hv ho
     refine⟨iN _ _ _ _ _ hf.qn (by simp) (by omega) (by simp;omega),hc,AL _ ?_,by simp,?_⟩
     .have:=PY hs (B:=s.B++[c.value]) (qn:=s.qn) (bn:=false) (cl:=s.cl) (by simp;omega) hnb
      rw[<-hQ]at this;exact this
     .simp only[iY,fG,dK,gQ,qG]
      unfold jL;rw[show(⟨c,⟨c.task,c.op,0,true,-1⟩⟩:Cp)=gB c 0 true from rfl,own s.B false (s.B++[c.value]) false 0 true _ _ (by omega) hs.nb (hsend s.B (by omega)) nq]
      refine⟨rfl,?_⟩;have:=fN s.qn false s.Q (s.B++[c.value]) s.cl;rw[this,bR];rfl
    .rw[aG hlt]
     refine⟨iN _ _ _ _ _ (by simp) hf.wf.b (by simp;omega) kG,hc,AL _ (atm hs iP hb ht bR hv (.inl ⟨ho,by omega,hno⟩)),by simp,?_⟩
     simp[iY,jL,dz];rfl
  .rw[aG (by omega),aN ho]
   have gU:∀(x:Int)(B:List Int)(cl:Bool),eC (dc sz) (aC (x::B) cl) c=(aC B cl,x,true,0):=λx B cl=>by
    unfold eC;simp[ho,aC]
   cases hB:s.B with
   |cons x B =>
    have hl:mD s c=false:=by rw[DC,hB];simp
    rw[Cf (by decide) hl]
    rw[hB]at nq PR kG;simp only[ir]at PR kG;have hnb:∀n∈x::B,num n=true:=by rw[<-hB];exact hs.nb
    have Xh:∀n∈B,num n=true:=λn h=>hnb n (by simp[h])
    have cJ:s.bn=true->B=[]:=λh=>by have:=hf.wf.b h;rw[hB]at this;cases this
    simp only;cases hw:fW 64 s.Q with
    |some w =>
     obtain⟨g1,g2⟩:=Xb hw;have atr:∀n∈B++[w.value],num n=true:=λn hm=>by
      rcases dm.1 hm with hm |hm
      .exact Xh n hm
      .simp at hm;rw[hm];exact Ea (hs.w w g1).1
     refine⟨iN _ _ _ _ _ (Xf w) (λh=>by have:=hf.wf.b h;rw[hB]at this;cases this) (hfl w) (by simp;omega),hc,AL _ (Xe hs w (by rw[hB];simp) atr),by simp,?_⟩
     simp only[iY,fG,dK,xR,gm,gQ];rw[vI w _ _ g1];unfold jL;rw[show(⟨c,⟨c.task,c.op,x,true,-1⟩⟩:Cp)=gB c x true from rfl,own (x::B) s.cl B s.cl x true _ _ (by simp only[ir];omega) hnb (gU x B s.cl) nq]
     have bR:s.cl=false:=by
      cases h:s.cl
      .rfl
      .have:=hs.cl h;rw[this]at g1;simp at g1
     rw[bR,Xg B false (B++[w.value]) false w 0 true _ _ g1 (by omega) Xh (by
      unfold eC
      have:¬dc sz<=(B.length:Int):=by omega
      simp[g2,aC,gd,this]) rfl]
     refine⟨rfl,?_⟩;have:=fN (decide (j9 s w=[])) s.bn (j9 s w) (B++[w.value]) false;simp only[dz];rw[this];rfl
    |none =>
     simp only;have hno:=Xc hw;have hQ:s.Q=[]:=by
      cases hq:s.Q with
      |nil=>rfl
      |cons y T =>
       have hx:y∈s.Q:=by rw[hq];simp
       rcases(hs.w y hx).2 with h |⟨h,_⟩
       .exact absurd h (hno y hx)
       .have:=(hs.vr y hx h).1;rw[hB]at this;cases this
     refine⟨iN _ _ _ _ _ hf.qn cJ (by omega) (by omega),hc,AL _ ?_,by simp,?_⟩
     .have:=PY hs (B:=B) (qn:=s.qn) (bn:=s.bn) (cl:=s.cl) (by omega) Xh
      rw[<-hQ]at this;exact this
     .simp only[iY,fG,dK,gQ,qG]
      unfold jL;rw[show(⟨c,⟨c.task,c.op,x,true,-1⟩⟩:Cp)=gB c x true from rfl,own (x::B) s.cl B s.cl x true _ _ (by simp only[ir];omega) hnb (gU x B s.cl) nq]
      refine⟨rfl,?_⟩;have:=fN s.qn s.bn s.Q B s.cl;simp only[dz];rw[this];rfl
   |nil =>
    have hl:mD s c=true:=by rw[DC,hB];simp[ho]
    rw[W4 (by decide) hl]
    rw[hB]at nq;simp only;rw[<-hB];cases hw:fW 64 s.Q with
    |some w =>
     obtain⟨g1,g2⟩:=Xb hw;have bR:s.cl=false:=by
      cases h:s.cl
      .rfl
      .have:=hs.cl h;rw[this]at g1;simp at g1
     rw[bR]at nq;refine⟨iN _ _ _ _ _ (Xf w) hf.wf.b (hfl w) kG,hc,AL _ (Xe hs w rfl hs.nb),by simp,?_⟩
     simp only[iY,fG,dK,xR,gm,gQ];rw[vI w _ _ g1];unfold jL;rw[Xg [] false [w.value] false w 0 true _ _ g1 (by simp;omega) (by simp) (by
      unfold eC
      have:¬dc sz<=0:=by omega
      simp[g2,aC,gd,this]) nq]
     rw[show(⟨c,⟨c.task,c.op,w.value,true,-1⟩⟩:Cp)=gB c w.value true from rfl,own [w.value] false [] false w.value true _ _ (by simp;omega) (by simp[Ea (hs.w w g1).1]) (gU w.value [] false) rfl]
     refine⟨rfl,?_⟩;have:=fN (decide (j9 s w=[])) s.bn (j9 s w) s.B s.cl;rw[hB,bR]at this;have e:({s with qn:=decide (j9 s w=[]),Q:=j9 s w}:S)={s with qn:=decide (j9 s w=[]),Q:=j9 s w,bn:=s.bn,B:=[],cl:=false}:=by rw[<-hB,<-bR]
     rw[e,this];rfl
    |none =>
     simp only;have hno:=Xc hw;by_cases bR:s.cl=true
     .rw[aN bR]
      rw[bR]at nq;refine⟨hf,hc,hc,by simp,?_⟩
      simp only[iY,fG,dK,gQ,mX];unfold jL;rw[show(⟨c,⟨c.task,c.op,0,false,-1⟩⟩:Cp)=gB c 0 false from rfl,own [] true [] true 0 false _ _ (by simp;omega) (by simp) (by unfold eC;simp[ho,aC,er]) nq]
      exact⟨rfl,nq.symm⟩
     .have bR:s.cl=false:=by simpa using bR
      rw[aG (by simp[bR])]
      refine⟨iN _ _ _ _ _ (by simp) hf.wf.b (by simp;omega) kG,hc,AL _ (atm hs iP hb ht bR hv (.inr ⟨ho,hB,hno⟩)),by simp,?_⟩
      simp[iY,jL,dz];rfl
  .rw[aG (by omega),aG (by omega)]
   have bR:s.cl=false:=by cases h:s.cl;rfl;exact absurd ho (h6 h)
   have hl:mD s c=false:=by rw[DC];simp[ho]
   rw[Cf (by decide) hl]
   rw[bR]at nq;have hE:eC (dc sz) (aC s.B false) c=(aC s.B true,0,true,0):=by
    unfold eC;simp[ho,aC,gd]
   have Xi:(s.B.length:Int)<=dc sz:=by omega
   cases hq:s.Q with
   |nil =>
    simp only;rw[<-hq];refine⟨iN _ _ _ _ _ hf.qn hf.wf.b (by omega) kG,hc,AL _ ?_,by simp,?_⟩
    .have:=PY hs (B:=s.B) (qn:=s.qn) (bn:=s.bn) (cl:=true) hs.bl hs.nb
     rw[<-hq]at this;exact this
    .simp only[iY,fG,dK,gQ,qG]
     unfold jL;rw[show(⟨c,⟨c.task,c.op,0,true,-1⟩⟩:Cp)=gB c 0 true from rfl,own s.B false s.B true 0 true _ _ Xi hs.nb hE nq]
     refine⟨rfl,?_⟩;have:=fN s.qn s.bn s.Q s.B true;simp only[dz];rw[this];rfl
   |cons w T =>
    simp only;obtain⟨L,l1,l2,l3⟩:=atn (T.length+1) (w::T);rw[<-hq]at l1;have hlen:T.length+1<=40:=by rw[hq]at iP;simpa using iP
    refine⟨iN _ _ _ _ _ (by simp) hf.wf.b (by simp) kG,hc,AL _ (PY hs hs.bl hs.nb),by rw[l2];simp;omega,?_⟩
    simp only[iY,fG,dK,xR];have hmap:(kL (T.length+1) (w::T)).map (iC (w::T) c.now)=L.map λw=>xH c.now w 0 false:=by
     rw[l2,ke,<-hq];exact vM λx hx=>vI x 0 false (l1 x hx)
    rw[hmap];unfold jL;rw[show(⟨c,⟨c.task,c.op,0,true,-1⟩⟩:Cp)=gB c 0 true from rfl,own s.B false s.B true 0 true _ _ Xi hs.nb hE nq]
    obtain⟨p1,p2⟩:=ato (now:=c.now) hn Xi hs.nb (by omega) L (λx hx=>⟨(hs.w x (l1 x hx)).1,by
     rcases(hs.w x (l1 x hx)).2 with h |⟨h,_⟩
     .exact .inl h
     .exact .inr ⟨h,(hs.vr x (l1 x hx) h).1⟩⟩) (aC s.B true) rfl
    refine⟨p1,p2.trans ?_⟩;have:=fN true s.bn [] s.B true;rw[this]
 .have he:(dg 6 sz ot s != 0)=true:=by simpa using hc
  have hx:ev P (.call iR [.d (.ag [nm,I' 6,I' sz,I' ot]),.d (.ag s.row),.d (.ag c.row)] [])=some (.val (.tu [.d (.ag ny),.d (I' 1)]) []):=by
   rw[au kA rfl];simp only[S.row,Cl.row]at *;simp[jw,bQ,he,az,av]
  exact mS.er (by decide) hx
theorem PZ{sz ot:Int}{s:S}:dg 1 sz ot s=0↔dM 1 1 sz ot=0/\(s.cnt=0/\s.time=0/\s.H=[]/\s.B=[]/\s.C=[]/\s.cl=false/\s.val=0)/\s.Q.length<=96/\M.MV s.own s.Q:=by
 have e:dg 1 sz ot s=ck (dM 1 1 sz ot) (vF s):=rfl;have e2:vF s=M.iX s.own s.cnt s.time s.H s.Q s.B (s.C.map K.row) s.cl s.val:=rfl;rw[e,AF,e2,M.AB,Cu]
def Xj:Option Int->List Wk
 |none=>[]
 |some t=>[⟨t,50,0,true,-1⟩]
theorem att{own:Int}{H:List Int}{t:Int}(ht:0<=t)(h:R.ij own H t=2):own=t:=by
 unfold R.ij at h;split at h
 .rename_i h2
  simp at h2;exact h2.2.symm
 .split at h<;>cases h
theorem atu{own:Int}{H:List Int}{t:Int}(ht:0<=t)(h:R.ij own H t=1):t∈H/\own≠t:=by
 unfold R.ij at h;split at h
 .cases h
 .rename_i h2
  split at h
  .rename_i h3
   exact⟨h3,λe=>h2 (by rw[e];simpa using ht)⟩
  .cases h
theorem atv{sz ot own:Int}{H:List Int}{c:Cl}(hn:dM 2 2 sz ot=0)(ho:own = -1\/(cZ own=true/\H=[]))(h1:∀x∈H,cZ x=true)(h2:R.gH H)(hb:cM c=false)(hop:53<=c.op/\c.op<=56)(he:(eW (aW own H) c).2.2.2=0):eE 2 sz ot (aW own H) c=eW (aW own H) c :=
 vH (WO hn ho h1 h2) hb (by unfold dJ;simp;omega) (by
  unfold fit;have h3:¬(c.op=72):=by omega
  have h4:¬(c.op=64\/c.op=68\/c.op=73):=by omega
  simp only[h3,h4];simp) he
theorem atw(nm:D)(sz ot:Int)(s:S)(c:Cl)(hf:s.fP)(iP:s.Q.length<=40):
  mS (ev P (.call oT [.d (.ag [nm,I' 2,I' sz,I' ot]),.d (.ag s.row),.d (.ag c.row)] [])) 2 sz ot s c:=by
 have hs:=hf.sm;have WN:=hf.h;obtain⟨bn,cn,hn,qn,wn,h,GX,iB⟩:=R.Wa nm 2 sz ot s.own s.cnt s.time s.hn s.H s.qn s.Q s.bn s.B s.cn (s.C.map K.row) s.cl s.val c.task c.op c.value c.prio c.now hf.wf.1 hf.qn (by omega) (by omega)
 by_cases hc:R.dX 2 sz ot s.own s.cnt s.time s.H s.Q s.B (s.C.map K.row) s.cl s.val=0
 .rw[aN hc]at h GX iB
  have hc0:dg 2 sz ot s=0:=hc;obtain⟨y4,hM,g1,g2,g3,g4,g5,g6⟩:=PL.1 hc0;by_cases he:(R.nu s.own s.H s.Q c.task c.op c.prio c.now).e=0
  .have hb:cM c=false:=by
    cases hb:cM c
    .rfl
    .have kX:R.j4 c.task c.prio c.now=true:=by
      unfold cM at hb;unfold R.j4 R.cZ;simp at hb⊢;omega
     unfold R.nu at he;rw[aN kX]at he;simp[R.zr]at he
   have P0:=R.aoc hM (by omega) he
   have hbd:=xF hb;obtain⟨m1,m2,m3,m4,m5,m6,m7⟩:=R.vE.1 hM;have fN:(s.ab true).pl=aW s.own s.H:=by
    unfold S.ab S.pl aW;simp[g1,g2,g3,g4,g5,g6]
   have atx:=aq4 P0;have GY:0<=c.now/\c.now<=1099511627776:=by omega
   have hcs:∀w∈s.Q,w.case = -1:=λw hw=>(m5 w hw).cs
   have one:∀(oG:Int)(H':List Int)(R:List Cp),53<=c.op/\c.op<=56->eW (aW s.own s.H) c=(aW oG H',0,true,0)->dz 2 sz ot (s.ab true) (gB c 0 true::R)=dz 2 sz ot (aW oG H') R:=λoG H' R ho hE=>by
    have he:=atv (c:=c) y4 m1 m2 m3 hb ho (by rw[hE])
    rw[hE,<-fN]at he;exact nC (x:=gB c 0 true) he rfl rfl (.inr (.inl rfl))
   have rD:∀(oG:Int)(H':List Int),(∀x∈H',x∈s.H)->R.gH H'->(oG=s.own\/oG = -1)->53<=c.op/\c.op<=56->eW (aW s.own s.H) c=(aW oG H',0,true,0) ->
     (R.gW oG H' s.Q).2.2.1.length<=s.Q.length/\(R.gW oG H' s.Q).2.2.2.length<=s.Q.length /\
     (dz 2 sz ot (s.ab true) (gB c 0 true::((R.gW oG H' s.Q).2.2.2.map tg).map (iC s.Q c.now))).2=true /\
     (dz 2 sz ot (s.ab true) (gB c 0 true::((R.gW oG H' s.Q).2.2.2.map tg).map (iC s.Q c.now))).1.pl=aW (R.gW oG H' s.Q).1 (R.gW oG H' s.Q).2.1:=λoG H' hsub hsa hown ho hE=>by
    have GW:∀w∈s.Q,R.D2 oG H' w:=λw hw=>by
     have h5:=m5 w hw;refine⟨h5.v,h5.op,h5.val,h5.cs,?_,λh=>h5.yT (hsub _ h)⟩
     rcases hown with rfl |rfl
     .exact h5.no
     .have:=(sR h5.v).1
      omega
    obtain⟨p1,p2,p3⟩:=aq3 (sz:=sz) (ot:=ot) GY y4 (λx hx=>m2 x (hsub x hx)) hsa GW m6
    rw[Kf c.now m6 p1 hcs,one oG H' _ ho hE];obtain⟨q1,q2⟩:=p3 (aW oG H') rfl;exact⟨p2,p1.length_le,q1,q2⟩
   have key:(R.nu s.own s.H s.Q c.task c.op c.prio c.now).Q.length<=41/\(R.nu s.own s.H s.Q c.task c.op c.prio c.now).k.length<=40/\mD s c=false /\
     (dz 2 sz ot (s.ab true) ((if(R.nu s.own s.H s.Q c.task c.op c.prio c.now).parked=true then[]else[gB c 0 (R.nu s.own s.H s.Q c.task c.op c.prio c.now).ok])++((R.nu s.own s.H s.Q c.task c.op c.prio c.now).k.map tg).map (iC s.Q c.now))).2=true /\
     (dz 2 sz ot (s.ab true) ((if(R.nu s.own s.H s.Q c.task c.op c.prio c.now).parked=true then[]else[gB c 0 (R.nu s.own s.H s.Q c.task c.op c.prio c.now).ok])++((R.nu s.own s.H s.Q c.task c.op c.prio c.now).k.map tg).map (iC s.Q c.now))).1.pl=aW (R.nu s.own s.H s.Q c.task c.op c.prio c.now).own (R.nu s.own s.H s.Q c.task c.op c.prio c.now).H:=by
    unfold R.nu at he⊢;split at he
    .simp[R.zr]at he
    .rename_i e1
     rw[aG e1];split at he
     .simp[R.zr]at he
     .rename_i e2
      rw[aG e2];have hop:53<=c.op/\c.op<=56:=by simp at e2;omega
      have hl:mD s c=false:=by
       unfold mD;have h1:¬c.op=70:=by omega
       have h2:¬c.op=63:=by omega
       have h3:¬c.op=65:=by omega
       simp[h1,h2,h3]
      split at he
      .simp[R.zr]at he
      .rename_i e3
       rw[aG e3];split at he
       .rename_i e4
        rw[aN e4];split at he
        .simp[R.zr]at he
        .rename_i e5
         rw[aG e5];have e5:R.ij s.own s.H c.task=0:=by omega
         obtain⟨f1,f2⟩:=(R.J4 hbd.1).1 e5;unfold R.lq;by_cases e6:R.vD s.own s.H s.Q c.op=true
         .rw[aN e6]
          unfold R.vD at e6;by_cases e7:c.op=55
          .rw[aN e7]
           rw[aG (by omega)]at e6
           simp at e6;obtain⟨e8,e9⟩:=e6;refine⟨by simp only;omega,by simp,hl,?_⟩
           have hE:eW (aW s.own s.H) c=(aW c.task s.H,0,true,0):=by
            unfold eW
            have:¬(-1=c.task):=by omega
            simp[e7,e8,e9,aW,gd,this]
           simp only[fG,dK,gQ,qG];rw[one _ _ [] hop hE];exact⟨rfl,rfl⟩
          .rw[aG e7]
           have e7':c.op=53:=by omega
           rw[aN e7']at e6;simp at e6;obtain⟨e8,e9⟩:=e6;refine⟨by simp only;omega,by simp,hl,?_⟩
           have hE:eW (aW s.own s.H) c=(aW s.own (R.eZ c.task s.H),0,true,0):=by
            unfold eW
            have:¬(-1=c.task):=by omega
            simp[e7',e8,f2,aW,gd,this];rfl
           simp only[fG,dK,gQ,qG];rw[one _ _ [] hop hE];exact⟨rfl,rfl⟩
         .rw[aG e6]
          refine⟨by simp;omega,by simp,hl,?_⟩
          simp[dz,fN]
       .rename_i e4
        rw[aG e4];split at he
        .rename_i e5
         rw[aN e5];split at he
         .simp[R.zr]at he
         .rename_i e6
          rw[aG e6];have e6:R.ij s.own s.H c.task=1:=by omega
          obtain⟨f1,f2⟩:=atu hbd.1 e6;have hE:eW (aW s.own s.H) c=(aW s.own (s.H.filter λx=>x != c.task),0,true,0):=by
           unfold eW;simp[e5,f1,aW,gd]
          obtain⟨k1,k2,k3,k4⟩:=rD s.own (s.H.filter λx=>x != c.task) (λx hx=>(lF.1 hx).1) (m3.sublist xN) (.inl rfl) hop hE
          refine⟨by simp only;omega,by simp only;omega,hl,?_⟩
          simp only[fG,dK,xR];exact⟨k3,k4⟩
        .rename_i e5
         rw[aG e5];split at he
         .simp[R.zr]at he
         .rename_i e6
          rw[aG e6];have e6:R.ij s.own s.H c.task=2:=by omega
          have f1:=att hbd.1 e6;have hE:eW (aW s.own s.H) c=(aW (-1) s.H,0,true,0):=by
           unfold eW
           have:c.op=56:=by omega
           simp[this,f1,aW,gd]
          obtain⟨k1,k2,k3,k4⟩:=rD (-1) s.H (λx hx=>hx) m3 (.inr rfl) hop hE
          refine⟨by simp only;omega,by simp only;omega,hl,?_⟩
          simp only[fG,dK,xR];exact⟨k3,k4⟩
   rw[he]at h;generalize R.nu s.own s.H s.Q c.task c.op c.prio c.now=r at *;obtain⟨r1,r2,r3,r4,r5,r6,r7⟩:=r;simp only at *;obtain⟨k1,k2,k3,k4,k5⟩:=key;refine .inr ⟨⟨⟨r1,0,0,hn,r2,qn,r3,bn,[],cn,[],false,0⟩,r4,0,r5,wn,r6.map tg⟩,?_,?_,hc0,?_,by simp;omega,?_⟩
   .refine h.trans ?_
    unfold Ry.row;rw[ke];rfl
   .exact⟨⟨GX,λ_=>rfl,λ_=>rfl,by simp⟩,iB,by simp only;omega,k1,by simp,by simp,by simp⟩
   .exact PL.2 ⟨y4,P0,rfl,rfl,rfl,rfl,rfl,rfl⟩
   .rw[Cf (by decide) k3]
    exact⟨k4,k5⟩
  .exact .inl ⟨_,he,_,_,_,_,_,_,_,_,_,_,_,_,_,h⟩
 .rw[aG hc]at h
  exact .inl ⟨1,by decide,_,_,_,_,_,_,_,_,_,_,_,_,_,h⟩
def aT(C:List K):S:=⟨-1,0,0,false,[],false,[],false,[],false,C.map K.pl,false,0⟩
theorem Xk{sz:Int}(h:0<=sz):sz<=dc sz/\1<=dc sz:=by unfold dc;split<;>omega
theorem aty{a b:Int}{C:List K}(h:iO a C)(hab:a<=b):iO b C:=⟨h.pw,λc hc=>by have:=h.el c hc;exact⟨this.1,this.2.1,by omega,this.2.2.2⟩⟩
theorem atz{rm:Int}{C:List K}(h:iO rm C):iO rm (C.map K.pl):=PB h (λ_=>rfl) (λc hc=>(h.el c hc).2.2)
theorem atA{sz ot:Int}(h:dN 7 sz ot=0):dN 7 (dc sz) ot=0:=by
 have hz:=GU h;have hr:0<=dc sz/\dc sz<=100:=by unfold dc;split<;>omega
 unfold dN at *;simp at h⊢;exact⟨hr,h.2⟩
theorem atB{sz ot:Int}{C:List K}(hn:dN 7 sz ot=0)(h:iO (dc sz) C):cY 7 sz ot (aT C)=true:=by
 have e2:gS 7 (jq 7 sz) ot (iG 7 (aT C))=0:=by
  have:dX 7 (dc sz) ot (aT C)=0:=AG.2 ⟨atA hn,rfl,rfl,⟨atz h,by simp[aT],by simp[aT],by simp[aT,tks],by simp[aT]⟩,by simp[aT]⟩
  exact this
 have e1:gq 7 sz ot=0:=hn;unfold cY;rw[e1,e2];rfl
theorem atC{A B:List K}{k:K}{m:Int}(h:iO m (A++k::B)):bI k.task ((A++k::B).map K.task)=A.length:=by
 have hp:=h.pw;rw[oN]at hp;unfold bI;rw[xQ,List.takeWhile_append_of_pos]
 .simp
 .intro t ht
  obtain⟨a,ha,rfl⟩:=gY.1 ht;simpa using hp.2.2 a ha k (by simp)
theorem Xl{A B:List K}{k:K}{m:Int}(h:iO m (A++k::B)):bK (aT (A++k::B)) k.task=A.length/\mJ (aT (A++k::B)) k.task=true:=by
 have e:qW (aT (A++k::B))=(A++k::B).map K.task:=by
  unfold qW aT;rw[ke];rfl
 have hb:bK (aT (A++k::B)) k.task=A.length:=by
  unfold bK;rw[e];exact atC h
 refine⟨hb,?_⟩;unfold mJ;rw[hb,e];simp
theorem atD{C:List K}{t m:Int}(h:iO m C)(hn:∀c∈C,c.task≠t):bK (aT C) t=j7 C t/\mJ (aT C) t=false:=by
 have e:qW (aT C)=C.map K.task:=by
  unfold qW aT;rw[ke];rfl
 have hb:bK (aT C) t=j7 C t:=by
  unfold bK j7 bI;rw[e,List.takeWhile_map,xM];rfl
 refine⟨hb,?_⟩;have hsa:gH (C.map K.task):=by
  unfold gH;rw[Hq];exact h.pw
 unfold mJ bK;rw[e]
 have:¬((C.map K.task)[bI t (C.map K.task)]?=some t):=by
  rw[IV hsa];intro hm;obtain⟨c,hc,e⟩:=gY.1 hm;exact hn c hc e
 simpa using this
theorem P4{sz ot:Int}{C:List K}{c:Cl}(hn:dN 7 sz ot=0)(hS:iO (dc sz) C)(hb:cM c=false)(ho:68<=c.op/\c.op<=71)(hv:c.op=68->num c.value=true)(he:(eT (dc sz) (aT C) c).2.2.2=0):eE 7 sz ot (aT C) c=eT (dc sz) (aT C) c :=
 vH (atB hn hS) hb (by unfold dJ;simp;omega) (by
  unfold fit;have h1:¬((7:Int)=4\/c.op=72):=by omega
  rw[aG h1];by_cases h:c.op=68
  .rw[aN (by omega)];exact hv h
  .rw[aG (by omega)]) he
theorem atE{sz ot:Int}{C:List K}{c:Cl}(hn:dN 7 sz ot=0)(hS:iO (dc sz) C)(hb:cM c=false)(ho:c.op=68)(hv:num c.value=true)(hf:∀x∈C,(x.log.length:Int)<dc sz):
  eE 7 sz ot (aT C) c=(aT (C.map λx=>⟨x.task,false,x.log++[c.value]⟩),0,true,0):=by
 have h:eT (dc sz) (aT C) c=(aT (C.map λx=>⟨x.task,false,x.log++[c.value]⟩),0,true,0):=by
  have PF:((aT C).C.any λx=>decide (dc sz<=x.log.length))=false:=by
   rw[oK];intro x hx;obtain⟨y,hy,rfl⟩:=gY.1 hx;have:=hf y hy;have e:y.pl.log=y.log:=rfl;rw[e];simpa using this
  unfold eT;rw[PF];simp only[ho];simp only[gd,aT,ke];rfl
 rw[P4 hn hS hb (by omega) (λ_=>hv) (by rw[h]),h]
theorem atF{sz ot x:Int}{A B:List K}{k:K}{lg:List Int}{c:Cl}(hn:dN 7 sz ot=0)(hS:iO (dc sz) (A++k::B))(hb:cM c=false)(ho:c.op=70)(ht:k.task=c.task)(hl:k.log=x::lg):
  eE 7 sz ot (aT (A++k::B)) c=(aT (A++⟨c.task,false,lg⟩::B),x,true,0):=by
 obtain⟨h1,h2⟩:=Xl hS;rw[ht]at h1 h2;have hg:(aT (A++k::B)).C[A.length]?=some ⟨c.task,false,x::lg⟩:=by
  unfold aT;simp[K.pl,ht,hl]
 have h:eT (dc sz) (aT (A++k::B)) c=(aT (A++⟨c.task,false,lg⟩::B),x,true,0):=by
  unfold eT;rw[h1,h2,hg];simp only[ho];simp[aT,K.pl]
 rw[P4 hn hS hb (by omega) (λh=>by omega) (by rw[h]),h]
theorem atG{sz ot:Int}{C:List K}{c:Cl}(hn:dN 7 sz ot=0)(hS:iO (dc sz) C)(hb:cM c=false)(ho:c.op=69)(hno:∀k∈C,k.task≠c.task):
  eE 7 sz ot (aT C) c=(aT (mC C c.task),0,true,0):=by
 obtain⟨h1,h2⟩:=atD hS hno;have h:eT (dc sz) (aT C) c=(aT (mC C c.task),0,true,0):=by
  unfold eT;rw[h1,h2];simp only[ho];simp[gd,aT,mC,K.pl,Cn,Co]
 rw[P4 hn hS hb (by omega) (λh=>by omega) (by rw[h]),h]
theorem atH{sz ot:Int}{A B:List K}{k:K}{c:Cl}(hn:dN 7 sz ot=0)(hS:iO (dc sz) (A++k::B))(hb:cM c=false)(ho:c.op=71)(ht:k.task=c.task):
  eE 7 sz ot (aT (A++k::B)) c=(aT (A++B),0,true,0):=by
 obtain⟨h1,h2⟩:=Xl hS;rw[ht]at h1 h2;have h:eT (dc sz) (aT (A++k::B)) c=(aT (A++B),0,true,0):=by
  unfold eT;rw[h1,h2];simp only[ho];have e1:(List.map K.pl (A++k::B)).take A.length=List.map K.pl A:=by
   rw[xQ];exact uA (by simp)
  have e2:(List.map K.pl (A++k::B)).drop (A.length+1)=List.map K.pl B:=by
   rw[xQ,gm,<-List.drop_drop,Ek (by simp)]
   rfl
  simp only[aT,gd];rw[e1,e2,<-List.map_append];rfl
 rw[P4 hn hS hb (by omega) (λh=>by omega) (by rw[h]),h]
def jR(v:Int)(T:List Int)(x:K):K:=if x.task∈T then⟨x.task,false,[]⟩else⟨x.task,false,x.log++[v]⟩
theorem atI(v:Int)(T:List Int)(x:K):(jR v T x).task=x.task:=by unfold jR;split<;>rfl
theorem atJ{rm v:Int}{C:List K}{T:List Int}(h:iO rm C)(hr:0<=rm)(hv:num v=true)(hf:∀x∈C,x.task∉T->(x.log.length:Int)<rm):iO rm (C.map (jR v T)):=
 PB h (atI v T) λc hc=>by
  unfold jR;split
  .exact⟨by simpa using hr,rfl⟩
  .rename_i hn
   have:=hf c hc hn;refine⟨by simp;omega,?_⟩
   simp only[Kz,(h.el c hc).2.2.2,xK,hv,QB,QC]
theorem G3{α β:Type}{f g:α->β}{l:List α}(h:∀x∈l,f x=g x):l.map f=l.map g:=vM h
theorem atK{sz ot v:Int}{C:List K}(hn:dN 7 sz ot=0)(hS:iO (dc sz) C)(hv:num v=true):∀(rs:List Cp)(T:List Int)(b:S),b.pl=aT (C.map (jR v T)) ->
  (∀x∈C,x.task∉T->(x.log.length:Int)<dc sz) ->
  (∀x∈rs,x.c.op=70/\x.w.value=v/\x.w.ok=true/\cM x.c=false/\x.c.task∉T/\∃k∈C,k.task=x.c.task/\k.log=[]) ->
  rs.Pairwise (λa b=>a.c.task≠b.c.task) ->
  ∃b':S,b'.pl=aT (C.map (jR v (rs.map (·.c.task)++T)))/\∀R,dz 7 sz ot b (rs++R)=dz 7 sz ot b' R
 | [],T,b,hb,_,_,_=>⟨b,by simpa using hb,λR=>rfl⟩
 |x::rs,T,b,hb,hf,hx,hp=>by
  rw[gE]at hp;obtain⟨h1,h2,h3,h4,h5,k,hk,mN,rB⟩:=hx x (by simp)
  obtain⟨A,B,rfl⟩:=Et hk;have hz:=Xk (GU hn).1;have hSr:=atJ (T:=T) hS (by omega) hv hf
  have DU:jR v T k=⟨k.task,false,[v]⟩:=by
   unfold jR;rw[aG (by rw[mN];exact h5),rB]
   rfl
  have qA:=hS.pw;rw[oN,gE]at qA;rw[xQ,gm,DU]at hSr hb;have hE:=atF (x:=v) (lg:=[]) hn hSr h4 h1 mN rfl;rw[<-hb]at hE;have hnew:A.map (jR v T)++⟨x.c.task,false,[]⟩::B.map (jR v T)=(A++k::B).map (jR v (x.c.task::T)):=by
   rw[xQ,gm];have e1:A.map (jR v T)=A.map (jR v (x.c.task::T)):=G3 λa ha=>by
    have:a.task≠x.c.task:=by have:=qA.2.2 a ha k (by simp);omega
    unfold jR;simp[this]
   have e2:B.map (jR v T)=B.map (jR v (x.c.task::T)):=G3 λa ha=>by
    have:a.task≠x.c.task:=by have:=qA.2.1.1 a ha;omega
    unfold jR;simp[this]
   have e3:jR v (x.c.task::T) k=⟨x.c.task,false,[]⟩:=by
    unfold jR;simp[mN]
   rw[e1,e2,e3]
  rw[hnew]at hE;have fN:(aT ((A++k::B).map (jR v (x.c.task::T)))).pl=aT ((A++k::B).map (jR v (x.c.task::T))):=by
   unfold aT S.pl;simp only[ke];rfl
  obtain⟨b',g1,g2⟩:=atK hn hS hv rs (x.c.task::T) (aT ((A++k::B).map (jR v (x.c.task::T)))) fN (λy hy hyt=>hf y hy λh=>hyt (by simp[h])) (λy hy=>by
   obtain⟨k1,k2,k3,k4,k5,k6⟩:=hx y (by simp[hy])
   refine⟨k1,k2,k3,k4,?_,k6⟩;have:=hp.1 y hy;simp only[dD,nE];exact⟨λe=>this e.symm,k5⟩) hp.2
  refine⟨b',?_,λR=>?_⟩
  .rw[g1]
   congr 1;refine G3 λy hy=>?_
   unfold jR
   have:(y.task∈rs.map (·.c.task)++x.c.task::T)=(y.task∈(x::rs).map (·.c.task)++T):=by
    simp only[gm,dm,dD,eq_iff_iff,or_assoc];constructor
    .rintro(h |h |h)
     .exact .inr (.inl h)
     .exact .inl h
     .exact .inr (.inr h)
    .rintro(h |h |h)
     .exact .inr (.inl h)
     .exact .inl h
     .exact .inr (.inr h)
   simp only[this]
  .rw[<-g2 R,tB]
   exact nC (x:=x) hE h2 h3 (.inl (by omega))
theorem Xm{sz ot:Int}{C:List K}{Q:List W}{p:Cp}{rs:List Cp}{b:S}(hn:dN 7 sz ot=0)(hg:j8 sz Q C)(hf:fl sz C Q=false)(hb:b.pl=aT C)
  (h1:p.c.op=68)(h2:num p.c.value=true)(h3:cM p.c=false)(h4:p.w.value=0)(h5:p.w.ok=true)
  (hr:∀x∈rs,x.c.op=70/\x.w.value=p.c.value/\x.w.ok=true/\cM x.c=false)(ht:rs.map (·.c.task)=tks (Q.filter λw=>w.op==70)):
  ∃b':S,b'.pl=aT (C.map (gw Q p.c.value))/\∀R,dz 7 sz ot b (p::(rs++R))=dz 7 sz ot b' R:=by
 have hz:=Xk (GU hn).1;have hS:=aty hg.jJ hz.1;have B3:∀x∈C,iE Q x.task 70=true->x.log=[]:=λx hx hw=>by
  obtain⟨w,Ca,e1,e2⟩:=B9.1 hw;rcases(hg.cs w Ca).2 with⟨_,h⟩ |h
  .obtain⟨⟨k,hk,mN,rB⟩,_⟩:=(Eb hg.jJ).1 h
   rw[hg.jJ.uniq hx hk (by rw[mN,e1])]
   exact rB
  .omega
 have hlt:∀x∈C,(x.log.length:Int)<dc sz:=λx hx=>by
  cases hw:iE Q x.task 70
  .have h1:=(hg.jJ.el x hx).2.2.1
   unfold fl at hf;rw[oK]at hf;have h2:=hf x hx;rw[hw]at h2;simp at h2;omega
  .rw[B3 x hx hw]
   simp only[mY];omega
 have hE:=atE hn hS h3 h1 h2 hlt;have e0:(C.map λx=>(⟨x.task,false,x.log++[p.c.value]⟩:K))=C.map (jR p.c.value []):=G3 λx _=>by unfold jR;simp
 rw[e0,<-hb]at hE;have fN:(aT (C.map (jR p.c.value []))).pl=aT (C.map (jR p.c.value [])):=by
  unfold aT S.pl;simp only[ke];rfl
 have hnd:(rs.map (·.c.task)).Nodup:=by
  rw[ht];exact hg.nd.sublist (xN.map _)
 obtain⟨b',g1,g2⟩:=atK hn hS h2 rs [] _ fN (λx hx _=>hlt x hx) (λx hx=>by
  obtain⟨k1,k2,k3,k4⟩:=hr x hx;refine⟨k1,k2,k3,k4,by simp,?_⟩
  have hm:x.c.task∈rs.map (·.c.task):=Qg hx
  rw[ht]at hm;obtain⟨w,hw,e⟩:=gY.1 hm;obtain⟨hw1,dV⟩:=lF.1 hw;rcases(hg.cs w hw1).2 with⟨_,h⟩ |h
  .obtain⟨⟨k,hk,mN,rB⟩,_⟩:=(Eb hg.jJ).1 h
   exact⟨k,hk,by rw[mN,e],rB⟩
  .simp[h]at dV) (by
  unfold List.Nodup at hnd;rw[Hq]at hnd;exact hnd)
 refine⟨b',?_,λR=>?_⟩
 .rw[g1,ht]
  unfold aT;simp only[ke];congr 1;refine G3 λx hx=>?_
  have hmem:x.task∈tks (Q.filter λw=>w.op==70)++[]↔iE Q x.task 70=true:=by
   rw[B9,qG];unfold tks;rw[gY];constructor
   .rintro⟨w,hw,e⟩
    obtain⟨a,b⟩:=lF.1 hw;exact⟨w,a,e,by simpa using b⟩
   .rintro⟨w,a,e,b⟩
    exact⟨w,lF.2 ⟨a,by simpa using b⟩,e⟩
  simp only[Function.comp];unfold jR gw;cases hw:iE Q x.task 70
  .rw[aG (by rw[hmem,hw];simp),aG (by simp)]
  .rw[aN (hmem.2 hw),aN rfl]
   unfold K.pl;rw[B3 x hx hw]
 .rw[<-g2 R]
  exact nC (x:=p) hE h4 h5 (.inl (by omega))
def oJ(w:cE):Wk:=⟨w.task,w.op,w.value,true,-1⟩
theorem j8.sublist{sz:Int}{Q Q':List W}{C:List K}(h:j8 sz Q C)(hs:Q'.Sublist Q):j8 sz Q' C :=
 ⟨h.jJ,λw hw=>h.val w (hs.subset hw),mE hs.length_le h.len,h.nd.sublist (hs.map _),λw hw=>h.cs w (hs.subset hw)⟩
theorem atL{Q:List W}:(tks Q).Nodup↔Q.Pairwise λa b=>a.task≠b.task:=by
 unfold tks List.Nodup;rw[Hq]
theorem Ej{A B:List W}{w:W}:(A++B).Sublist (A++w::B):=Hf (tj A) (Hg w B)
theorem Xn(now v:Int){Q0 Q:List W}(hd:Q0.Pairwise λa b=>a.task≠b.task)(hc:∀w∈Q0,w.case = -1)(hs:∀w∈Q,w∈Q0):
  (pW v Q).map (λw=>iC Q0 now (oJ w))=(Q.filter λw=>w.op==70).map λw=>⟨⟨w.task,w.op,w.value,w.prio,now⟩,⟨w.task,w.op,v,true,-1⟩⟩:=by
 unfold pW;rw[ke];refine G3 λw hw=>?_
 have hm:=hs w (lF.1 hw).1;exact GP now v true hd hm (hc w hm)
theorem atM{sz ot now:Int}(hn:dN 7 sz ot=0)(hw0:0<=now/\now<=1099511627776){Q0 A B:List W}{w:W}{C:List K}{b:S}(hd:Q0.Pairwise λa b=>a.task≠b.task)(hc:∀w∈Q0,w.case = -1)
  (hs:∀x∈A++w::B,x∈Q0)(hg:j8 sz (A++w::B) C)(eR:w.op=68)(hf:fl sz C (A++w::B)=false)(hb:b.pl=aT C):
  ∃b':S,b'.pl=aT (C.map (gw (A++B) w.value))/\∀R,dz 7 sz ot b ((((⟨w.task,w.op,0⟩:cE)::pW w.value (A++B)).map λw=>iC Q0 now (oJ w))++R)=dz 7 sz ot b' R:=by
 have hsub:∀x∈A++B,x∈Q0:=λx hx=>hs x (Ej.subset hx)
 have Ca:=hs w (by simp)
 have uw:=hg.val w (by simp)
 rw[gm,Xn now w.value hd hc hsub];have hp:iC Q0 now (oJ ⟨w.task,w.op,0⟩)=⟨⟨w.task,w.op,w.value,w.prio,now⟩,⟨w.task,w.op,0,true,-1⟩⟩:=GP now 0 true hd Ca (hc w Ca);rw[hp];have wA:fl sz C (A++B)=false:=by
  unfold fl at *;simpa only[Ww eR]using hf
 exact Xm (p:=⟨⟨w.task,w.op,w.value,w.prio,now⟩,⟨w.task,w.op,0,true,-1⟩⟩) hn (hg.sublist Ej) wA hb eR (Ea uw) (ux uw hw0) rfl rfl (λx hx=>by
  obtain⟨y,hy,rfl⟩:=gY.1 hx;obtain⟨hy1,Kt⟩:=lF.1 hy;exact⟨by simpa using Kt,rfl,rfl,ux (hg.val y (Ej.subset hy1)) hw0⟩) (by
  unfold tks;rw[ke];rfl)
theorem atN{sz ot now:Int}(hn:dN 7 sz ot=0)(hw0:0<=now/\now<=1099511627776){Q0:List W}(hd:Q0.Pairwise λa b=>a.task≠b.task)(hc:∀w∈Q0,w.case = -1):∀(n:Nat)(a:Ad),j8 sz a.Q a.C->(∀x∈a.Q,x∈Q0) ->
  ∃L,(gX sz n a).wn=a.wn++L/\L.length<=a.Q.length/\∀b:S,b.pl=aT a.C ->
   (dz 7 sz ot b (L.map λw=>iC Q0 now (oJ w))).2=true/\(dz 7 sz ot b (L.map λw=>iC Q0 now (oJ w))).1.pl=aT (gX sz n a).C
 | 0,a,_,_=>⟨[],by simp[gX],by simp,λb hb=>by simp[dz,gX,hb]⟩
 |n+1,a,hg,hs=>by
  have stay:(gX sz (n+1) a)=a->∃L,(gX sz (n+1) a).wn=a.wn++L/\L.length<=a.Q.length/\∀b:S,b.pl=aT a.C ->
   (dz 7 sz ot b (L.map λw=>iC Q0 now (oJ w))).2=true/\(dz 7 sz ot b (L.map λw=>iC Q0 now (oJ w))).1.pl=aT (gX sz (n+1) a).C:=λe=>by
   rw[e];exact⟨[],by simp,by simp,λb hb=>by simp[dz,hb]⟩
  by_cases hcs:kB a.Q<0\/fl sz a.C a.Q=true
  .exact stay (by unfold gX;rw[aN hcs])
  .rcases D5 a.Q with⟨h1,_⟩ |⟨A,B,w,hQ,hp,eR⟩
   .exact absurd (.inl (by omega)) hcs
   .have e:((A.length:Int)).toNat=A.length:=by omega
    have hgt:a.Q[(kB a.Q).toNat]?=some w:=by rw[hp,e,hQ];simp
    have e1:Q1 a.Q=A++B:=by rw[hQ];exact D6 (by rw[<-hQ];exact hp)
    have hf:fl sz a.C a.Q=false:=by
     cases h:fl sz a.C a.Q
     .rfl
     .exact absurd (.inr h) hcs
    have hst:gX sz (n+1) a=gX sz n (a.step w):=by
     conv=>lhs;unfold gX
     rw[aG hcs,hgt]
    have Gp:j8 sz (a.step w).Q (a.step w).C:=by
     simp only[Ad.step,e1];exact hg.step hQ eR hf
    obtain⟨L,g1,g2,g3⟩:=atN hn hw0 hd hc n (a.step w) Gp (λx hx=>by
     simp only[Ad.step,e1]at hx;exact hs x (by rw[hQ];exact Ej.subset (PA hx).1))
    rw[hst,g1];refine⟨⟨w.task,w.op,0⟩::pW w.value (A++B)++L,?_,?_,λb hb=>?_⟩
    .simp only[Ad.step,e1,tw,tB]
    .simp only[Ad.step,e1]at g2
     have:=D7 w.value (A++B);rw[hQ];simp at this⊢;omega
    .obtain⟨b',k1,k2⟩:=atM (ot:=ot) hn hw0 hd hc (by rw[<-hQ];exact hs) (by rw[<-hQ];exact hg) eR (by rw[<-hQ];exact hf) hb
     rw[xQ,k2];refine g3 b' ?_;rw[k1];simp only[Ad.step,e1]
theorem atO{sz:Int}{C:List K}(h:iO sz C):C.length<=16:=by
 have h2:gH (C.map K.task):=by
  unfold gH;rw[Hq];exact h.pw
 have:=WR 0 (λx hx=>by
  obtain⟨c,hc,rfl⟩:=gY.1 hx;have:=h.el c hc;exact⟨this.1,this.2.1⟩) h2
 simp at this;omega
theorem atP{s:S}:s.uY=false↔s.cnt=0/\s.time=0/\s.H=[]/\s.B=[]/\s.cl=false/\s.val=0:=by
 unfold S.uY;simp;constructor
 .rintro⟨⟨⟨⟨h1,h2⟩,h3,h4⟩,h5⟩,h6⟩
  exact⟨h1,h2,h3,h4,h5,h6⟩
 .rintro⟨h1,h2,h3,h4,h5,h6⟩
  exact⟨⟨⟨⟨h1,h2⟩,h3,h4⟩,h5⟩,h6⟩
theorem Xo{s:S}(ho:s.own = -1)(hz:s.uY=false):(s.ab true).pl=aT s.C:=by
 obtain⟨h1,h2,h3,h4,h5,h6⟩:=atP.1 hz;unfold S.ab S.pl aT;simp[ho,h1,h2,h3,h4,h5,h6]
theorem atQ{k sz ot:Int}{a:S}{c:Cl}(h:(raw k sz ot a c).2.2.2≠0):(eE k sz ot a c).2.2.2≠0:=by
 unfold eE;split
 .simp[er]
 .split
  .simp[er]
  .split
   .simp[er]
   .split
    .simp[er]
    .simpa[er]using h
theorem Ci{k sz ot:Int}{s:S}{w:W}(h:(raw k sz ot (s.ab true).pl (s.jz w)).2.2.2≠0):oH k sz ot s w=false:=by
 unfold oH;simpa using atQ h
theorem Cj{k sz ot:Int}{s:S}(h0:dg k sz ot s=0)(h:∀w∈s.Q,gu k sz ot s w=false):nX k sz ot s=true:=by
 unfold nX;rw[h0];simp only[KJ,xI,iZ];rw[oK];intro w hw;simp[h w hw]
theorem P5{k sz ot:Int}{s:S}{w:W}(hd:s.Q.Pairwise λa b=>a.task≠b.task)(hw:w∈s.Q)(h:∀B,s.Q=w::B->oH k sz ot s w=false):uk k sz ot s w=false:=by
 unfold uk;cases hQ:s.Q with
 |nil=>rw[hQ]at hw;simp at hw
 |cons q r =>
  simp only;cases ht:q.task==w.task
  .rfl
  .have ht:q.task=w.task:=by simpa using ht
   rw[hQ]at hw hd;rcases dD.1 hw with rfl |hm
   .rw[h r hQ];simp
   .rw[gE]at hd
    exact absurd ht (hd.1 w hm)
theorem P6{k sz ot:Int}{s:S}{w:W}(h:k=1\/k=2\/k=8\/(k=4/\ot=0)):gu k sz ot s w=uk k sz ot s w:=by
 unfold gu;rw[aN h]
theorem atS{sz ot:Int}{s:S}(h0:dg 1 sz ot s=0):nX 1 sz ot s=true:=by
 obtain⟨_,_,_,hM⟩:=PZ.1 h0;refine Cj h0 λw hw=>?_
 rw[P6 (.inl rfl)];refine P5 hM.AA hw λB _=>Ci ?_
 have ho:=(hM.all w hw).1;have hne:¬s.own = -1:=λe=>by rw[hM.free e]at hw;simp at hw
 have e:raw 1 sz ot (s.ab true).pl (s.jz w)=eM (s.ab true).pl (s.jz w):=rfl;rw[e];unfold eM S.jz S.ab S.pl;simp[ho,hne,er];split<;>simp
theorem atT{sz ot:Int}{s:S}(h0:dg 2 sz ot s=0):nX 2 sz ot s=true:=by
 obtain⟨_,hM,_⟩:=PL.1 h0;obtain⟨m1,m2,m3,m4,m5,m6,m7⟩:=R.vE.1 hM;refine Cj h0 λw hw=>?_
 rw[P6 (.inr (.inl rfl))];refine P5 m6 hw λB hB=>Ci ?_
 have h5:=m5 w hw;have hop:=h5.op;have hno:=h5.no;have Kh:=h5.yT;rw[hB]at m7;unfold R.stay at m7;have e:raw 2 sz ot (s.ab true).pl (s.jz w)=eW (s.ab true).pl (s.jz w):=rfl;rw[e];unfold eW S.jz S.ab S.pl;simp at m7;have Xp:¬s.own=w.task:=λe=>hno e.symm
 rcases hop with ho |ho
 .rcases m7 with h |h
  .simp[ho,h,Xp,Kh,er]
  .omega
 .rcases m7 with h |h
  .simp[ho,h,Xp,Kh,er]
  .have h3:0<s.H.length:=rK.2 h.2
   simp[ho,h3,Xp,Kh,er]
theorem atU{sz ot:Int}{s:S}(h0:dg 4 sz ot s=0):nX 4 sz ot s=true:=by
 obtain⟨hn,hs⟩:=Ec.1 h0;have kT:=(PE hn).2.2;refine Cj h0 λw hw=>?_
 have key:s.cnt<w.value->oH 4 sz ot s w=false:=λh=>Ci (by
  have e:raw 4 sz ot (s.ab true).pl (s.jz w)=eS sz (s.ab true).pl (s.jz w):=rfl;have ho:=(hs.w w hw).op
  have:¬w.value<=s.cnt:=by omega
  rw[e];unfold eS S.jz S.ab S.pl;simp[ho,this,er])
 by_cases h:ot=0
 .rw[P6 (.inr (.inr (.inr ⟨rfl,h⟩)))]
  refine P5 hs.tk hw λB hB=>key ?_
  rcases hs.st [] w B hB with h |h
  .exact absurd rfl h.1
  .exact h
 .have e:gu 4 sz ot s w=oH 4 sz ot s w:=by
   unfold gu;simp[h]
  rw[e];obtain⟨A,B,P7⟩:=Et hw;refine key ?_;rcases hs.st A w B P7 with h2 |h2
  .omega
  .exact h2
theorem atV{sz ot:Int}{s:S}(h0:dg 5 sz ot s=0):nX 5 sz ot s=true:=by
 obtain⟨_,hs⟩:=G0.1 h0;refine Cj h0 λw hw=>?_
 have e:gu 5 sz ot s w=decide (sz<=s.Q.length):=rfl;rw[e];have:=hs.len;simp;omega
theorem atW{sz ot:Int}{s:S}(h0:dg 6 sz ot s=0):nX 6 sz ot s=true:=by
 obtain⟨hn,hs⟩:=PW.1 h0;refine Cj h0 λw hw=>?_
 have bR:s.cl=false:=by
  cases h:s.cl
  .rfl
  .rw[hs.cl h]at hw;simp at hw
 have e:raw 6 sz ot (s.ab true).pl (s.jz w)=eC (dc sz) (s.ab true).pl (s.jz w):=rfl;rcases(hs.w w hw).2 with ho |⟨ho,_⟩
 .obtain⟨h1,h2⟩:=hs.vs w hw ho
  by_cases hz:sz=0
  .have e:gu 6 sz ot s w=uh s.Q 65 w.task:=by
    unfold gu;simp[hz,ho]
   rw[e];exact PV.2 h2
  .have e2:gu 6 sz ot s w=oH 6 sz ot s w:=by
    unfold gu;simp[hz]
   rw[e2];refine Ci ?_;rw[e];have hr:dc sz<=s.B.length:=by unfold dc;split<;>omega
   unfold eC S.jz S.ab S.pl;simp[ho,bR,hr,er]
 .obtain⟨h1,_⟩:=hs.vr w hw ho
  have e2:gu 6 sz ot s w=oH 6 sz ot s w:=by
   unfold gu;simp[ho]
  rw[e2];refine Ci ?_;rw[e];unfold eC S.jz S.ab S.pl;simp[ho,bR,h1,er]
theorem atX{sz ot:Int}{s:S}(h0:dg 7 sz ot s=0):nX 7 sz ot s=true:=by
 obtain⟨hmn,hown,hfl,hg,P8⟩:=AG.1 (show dX 7 sz ot s=0 from h0)
 refine Cj h0 λw hw=>?_
 rcases(hg.cs w hw).2 with⟨ho,gL⟩ |ho
 .have e:gu 7 sz ot s w=oH 7 sz ot s w:=by
   unfold gu;simp[ho]
  rw[e];refine Ci ?_;obtain⟨⟨k,hk,mN,rB⟩,_⟩:=(Eb hg.jJ).1 gL;obtain⟨A,B,P7⟩:=Et hk;have hS:=hg.jJ;rw[P7]at hS;obtain⟨b1,b2⟩:=Xl hS;have hgt:(aT (A++k::B)).C[A.length]?=some ⟨k.task,false,[]⟩:=by
   unfold aT;simp[K.pl,rB]
  have e2:raw 7 sz ot (s.ab true).pl (s.jz w)=eT (dc sz) (aT (A++k::B)) (s.jz w):=by
   rw[Xo hown hfl,P7];rfl
  rw[e2];unfold eT;rw[show(s.jz w).task=k.task from mN.symm,b1,b2,hgt]
  simp[S.jz,ho,er]
 .have e:gu 7 sz ot s w=J5 sz s:=by
   unfold gu;simp[ho]
  rw[e];have hf:=P8 ⟨w,hw,ho⟩;unfold fl at hf;obtain⟨c,hc,h⟩:=qC.1 hf;simp at h;unfold J5;simp only[Qf];rw[qC];exact⟨c,hc,by simp[h.2];omega⟩
theorem atY{sz ot:Int}{s:S}(h0:dg 9 sz ot s=0):nX 9 sz ot s=true:=by
 obtain⟨hn,hs⟩:=Kp.1 h0;refine Cj h0 λw hw=>?_
 have bR:s.cl=false:=by
  cases h:s.cl
  .rfl
  .rw[hs.cl h]at hw;simp at hw
 have e2:gu 9 sz ot s w=oH 9 sz ot s w:=by simp[gu]
 rw[e2];refine Ci ?_;have e:raw 9 sz ot (s.ab true).pl (s.jz w)=eF (s.ab true).pl (s.jz w):=rfl;rw[e];have ho:=(hs.q.w w hw).2.1;unfold eF S.jz S.ab S.pl;simp[ho,bR,er]
theorem atZ{sz ot:Int}{s:S}(h0:dg 8 sz ot s=0)(h:∀w B,s.Q=w::B->s.cnt<w.value):nX 8 sz ot s=true:=by
 obtain⟨hn,hs⟩:=G1.1 h0;refine Cj h0 λw hw=>?_
 rw[P6 (.inr (.inr (.inl rfl)))];refine P5 hs.q.tk hw λB hB=>Ci ?_
 have hv:=h w B hB;obtain⟨_,ho,_,h1,h2⟩:=hs.q.w w hw;have e:raw 8 sz ot (s.ab true).pl (s.jz w)=eL sz ot (s.ab true).pl (s.jz w):=rfl;rw[e];have hlt:¬sz<=s.cnt:=by omega
 have e2:(mK sz ot s.time (s.ab true).pl).cnt=s.cnt:=by
  unfold mK S.ab S.pl;simp[hlt]
 unfold eL;have e3:(s.jz w).now=s.time:=rfl;have e4:(s.jz w).op=72:=ho;have e5:(s.jz w).value=w.value:=rfl;have e6:(s.ab true).pl.time=s.time:=rfl;rw[e3,e4,e5,e6,e2];simp[hv,er]
def TR(sz ot:Int)(s:S)(c:Cl)(r:Rp):Prop :=
 r.wn.length<=41/\jL 7 sz ot s (vJ 7 s c ⟨r.st,r.parked,r.value,r.ok,r.kn,r.wn.map oJ⟩) r.st
theorem at0{s:S}{c:Cl}{k:K}(ho:c.op=70)(hk:mI s.C c.task=some k):mD s c=k.log.isEmpty:=by
 unfold mD;rw[aN ho,hk]
theorem Xq{s:S}{c:Cl}(ho:c.op=68\/c.op=69\/c.op=71):mD s c=false:=by
 unfold mD;rw[aG (by omega)]
 rcases ho with h |h |h<;>simp[h]
theorem Xr{sz ot v:Int}{s:S}{c:Cl}{r:Rp}{C':List K}(hl:mD s c=false)(hp:r.parked=false)(hv:r.value=v)(hk:r.ok=true)(fN:(s.ab true).pl=aT s.C)
  (he:eE 7 sz ot (aT s.C) c=(aT C',v,true,0))(k8:r.wn.length<=41)(N1:c.op≠61)
  (h:(dz 7 sz ot (aT C') (r.wn.map λw=>iC s.Q c.now (oJ w))).2=true/\(dz 7 sz ot (aT C') (r.wn.map λw=>iC s.Q c.now (oJ w))).1.pl=(r.st.ab true).pl):TR sz ot s c r:=by
 refine⟨k8,?_⟩;rw[Cf (by decide) hl]
 have e:iY c ⟨r.st,r.parked,r.value,r.ok,r.kn,r.wn.map oJ⟩=[gB c v true]:=by
  unfold iY;simp only[hp,hv,hk,fG,dK];rfl
 rw[e,ke];rw[<-fN]at he;unfold jL;rw[xR,nC (x:=gB c v true) he rfl rfl (.inl N1)];exact h
theorem at1{sz ot:Int}{s:S}{c:Cl}{r:Rp}(hp:r.parked=true)(hw:r.wn=[])(h:(s.ab true).pl=(r.st.ab true).pl):TR sz ot s c r:=by
 refine⟨by rw[hw];simp,?_⟩
 have e:vJ 7 s c ⟨r.st,r.parked,r.value,r.ok,r.kn,r.wn.map oJ⟩=[]:=by
  unfold vJ iY;simp only[hp,hw];simp
 rw[e];exact⟨rfl,h⟩
theorem at2(C:List K):(aT C).pl=aT C:=by
 unfold aT S.pl;simp only[ke];rfl
theorem at3{l:List cE}{t:Int}{x:Int×List cE}(h:got l t=some x):∃A w B,l=A++w::B/\w.task=t/\x=(w.value,A++B):=by
 rcases Db (p:=λw:cE=>w.task==t) l 0 with⟨g1,_⟩ |⟨i,w,g1,g2,g3⟩
 .have B7:rF l t = -1:=by simpa[rF]using g1
  unfold got at h;rw[B7,aN (by omega)]at h
  cases h
 .have B7:rF l t=(i:Int):=by simpa[rF]using g1
  have e:((i:Int)).toNat=i:=by omega
  unfold got at h;rw[B7,aG (by omega),e,g2]at h
  obtain⟨hlt,he⟩:=sF.1 g2;have hl:(l.take i).length=i:=by simp;omega
  have hsp:l=l.take i++w::l.drop (i+1):=by rw[<-he];simp
  refine⟨l.take i,w,l.drop (i+1),hsp,?_,?_⟩
  .have:=Hp g3
   simpa using this
  .simp only[tA,gz]at h
   rw[<-h];congr 1
   conv=>lhs;arg 1;rw[hsp]
   rw[Es (by omega),hl]
   simp
theorem at4{sz ot:Int}{s:S}{c:Cl}{k:K}{x:Int×List cE}(hn:dN 7 sz ot=0)(hg:Gd sz s.Q s.C)(hl:s.Q.length<=40)(hb:cM c=false)(gL:c.op=70)(hk:mI s.C c.task=some k)(rB:k.log=[])(hfr:∀w∈s.Q,w.task≠c.task)
  (hx:got (cP sz false (s.Q++[⟨c.task,70,0,c.prio,-1⟩]) s.C).wn c.task=some x):x.2.length<=41/\∀b:S,b.pl=aT s.C ->
   (dz 7 sz ot b (x.2.map (λw=>iC s.Q c.now (oJ w))++[gB c x.1 true])).2=true/\(dz 7 sz ot b (x.2.map (λw=>iC s.Q c.now (oJ w))++[gB c x.1 true])).1.pl=aT (cP sz false (s.Q++[⟨c.task,70,0,c.prio,-1⟩]) s.C).C:=by
 obtain⟨ow,how⟩:∃w:W,w=⟨c.task,70,0,c.prio,-1⟩:=⟨_,rfl⟩;have kT:ow.task=c.task:=by rw[how]
 have P9:ow.op=70:=by rw[how]
 rw[<-how]at hx⊢;have hbd:=xF hb;have jH:k∈s.C:=D9 hk;have mN:=Cb hk;have Gp:j8 sz (s.Q++[ow]) s.C:=by
  refine hg.1.snoc ?_ (by omega) (λw hw=>by rw[kT];exact hfr w hw) (by rw[how];exact⟨rfl,.inl ⟨rfl,(Eb hg.1.jJ).2 ⟨⟨k,jH,mN,rB⟩,rfl⟩⟩⟩)
  rw[how];unfold dU kR;simp;omega
 by_cases hcs:kB (s.Q++[ow])<0\/fl sz s.C (s.Q++[ow])=true
 .rw[WL hcs]at hx
  simp[got,rF,idx]at hx
 .rcases D5 (s.Q++[ow])with⟨h1,_⟩ |⟨A,B,w,hQ,hp,eR⟩
  .exact absurd (.inl (by omega)) hcs
  .have e:((A.length:Int)).toNat=A.length:=by omega
   have hgt:(s.Q++[ow])[(kB (s.Q++[ow])).toNat]?=some w:=by rw[hp,e,hQ];simp
   have e1:Q1 (s.Q++[ow])=A++B:=by rw[hQ];exact D6 (by rw[<-hQ];exact hp)
   have hf:fl sz s.C (s.Q++[ow])=false:=by
    cases h:fl sz s.C (s.Q++[ow])
    .rfl
    .exact absurd (.inr h) hcs
   obtain⟨B',hB,AK⟩:∃B',B=B'++[ow]/\s.Q=A++w::B':=by
    rcases AN B with rfl |⟨B',b,rfl⟩
    .obtain⟨h1,h2⟩:=KP hQ rfl
     simp at h2;rw[<-h2,P9]at eR;cases eR
    .rw[G7,<-List.cons_append,<-List.append_assoc]at hQ
     obtain⟨h1,h2⟩:=KP hQ rfl;simp at h2;exact⟨B',by rw[G7,h2],h1⟩
   have Ku:w∈s.Q:=by rw[AK];simp
   have hsz:sz=0:=by
    have hfl:=hg.2 ⟨w,Ku,eR⟩;unfold fl at hfl hf;obtain⟨y,hy,h2⟩:=qC.1 hfl;rw[oK]at hf;have h3:=hf y hy;simp only[bD,iZ,dO]at h2 h3;have h4:iE (s.Q++[ow]) y.task 70=true:=by
     cases h:iE (s.Q++[ow]) y.task 70
     .exact absurd ⟨h2.1,h⟩ h3
     .rfl
    obtain⟨z,hz,e1,e2⟩:=B9.1 h4;rcases dm.1 hz with hz |hz
    .have:iE s.Q y.task 70=true:=B9.2 ⟨z,hz,e1,e2⟩
     rw[h2.2]at this;cases this
    .simp at hz
     have:y=k:=hg.1.jJ.uniq hy jH (by rw[<-e1,hz,kT,mN])
     rw[this,rB]at h2;have:=h2.1;simp at this;exact this.symm
   have hone:cP sz false (s.Q++[ow]) s.C=(⟨false,s.Q++[ow],s.C,[]⟩:Ad).step w:=by
    unfold cP
    conv=>lhs;unfold gX
    simp only;rw[aG hcs,hgt];simp only;have hlen:(s.Q++[ow]).length=s.Q.length+1:=by simp
    rw[hlen]
    conv=>lhs;unfold gX
    rw[aN];right;simp only[Ad.step,e1];unfold fl;rw[qC];refine⟨k,gY.2 ⟨k,jH,?_⟩,?_⟩
    .unfold gw
     have:iE (A++B) k.task 70=true:=B9.2 ⟨ow,by rw[hB];simp,by rw[kT,mN],P9⟩
     rw[this,aN rfl]
    .have:iE (pO (A++B)) k.task 70=false:=by
      cases h:iE (pO (A++B)) k.task 70
      .rfl
      .obtain⟨z,hz,_,e2⟩:=B9.1 h
       exact absurd e2 (PA hz).2
     rw[this,rB,hsz];rfl
   rw[hone]at hx⊢;simp only[Ad.step,e1,mX]at hx⊢;have qA:pW w.value (A++B)=pW w.value (A++B')++[⟨ow.task,ow.op,w.value⟩]:=by
    rw[hB];unfold pW;simp[<-List.append_assoc,P9,Pw]
   have at5:(tks s.Q).Nodup:=hg.1.nd;have mj:x=(w.value,⟨w.task,w.op,0⟩::pW w.value (A++B')):=by
    obtain⟨P1,y,P2,f1,f2,f3⟩:=at3 hx;rw[qA]at f1;rcases arK (Q:=(⟨w.task,w.op,0⟩:cE)::pW w.value (A++B')) (x:=⟨ow.task,ow.op,w.value⟩) (A:=P1) (w:=y) (B:=P2) (by simpa using f1)with⟨rfl,rfl⟩ |⟨P3,f4⟩
    .have:P2=[]:=by simpa using f1
     rw[f3,this];simp
    .exfalso
     have hy:y∈(⟨w.task,w.op,0⟩:cE)::pW w.value (A++B'):=by rw[f4];simp
     rcases dD.1 hy with hy |hy
     .rw[hy]at f2
      exact hfr w Ku f2
     .unfold pW at hy
      obtain⟨z,hz,rfl⟩:=gY.1 hy;exact hfr z (by rw[AK];exact Ej.subset (lF.1 hz).1) f2
   rw[mj];refine⟨?_,λb hb0=>?_⟩
   .have h1:=D7 w.value (A++B')
    have h2:s.Q.length=A.length+(B'.length+1):=by rw[AK];simp
    simp at h1⊢;omega
   .have wA:fl sz s.C (A++B)=false:=by
     rw[hQ]at hf;unfold fl at *;simpa only[Ww eR]using hf
    have at6:j8 sz (A++B) s.C:=by
     rw[hQ]at Gp;exact Gp.sublist Ej
    have uw:=hg.1.val w Ku;have hsub:∀x∈A++B',x∈s.Q:=λx hx=>by rw[AK];exact Ej.subset hx
    have at7:∀w∈s.Q,w.case = -1:=λw hw=>(hg.1.cs w hw).1
    have hd:=atL.1 at5;have Pq:iC s.Q c.now (oJ ⟨w.task,w.op,0⟩)=⟨⟨w.task,w.op,w.value,w.prio,c.now⟩,⟨w.task,w.op,0,true,-1⟩⟩:=GP c.now 0 true hd Ku (at7 w Ku);rw[gm,Xn c.now w.value hd at7 hsub,Pq,tB];obtain⟨b',k1,k2⟩:=Xm (ot:=ot) (p:=⟨⟨w.task,w.op,w.value,w.prio,c.now⟩,⟨w.task,w.op,0,true,-1⟩⟩)
     (rs:=((A++B').filter λw=>w.op==70).map (λr=>(⟨⟨r.task,r.op,r.value,r.prio,c.now⟩,⟨r.task,r.op,w.value,true,-1⟩⟩:Cp))++[gB c w.value true]) hn at6 wA hb0 eR (Ea uw) (ux uw (by omega)) rfl rfl (λx hx=>by
      rcases dm.1 hx with hx |hx
      .obtain⟨y,hy,rfl⟩:=gY.1 hx
       obtain⟨hy1,Kt⟩:=lF.1 hy;exact⟨by simpa using Kt,rfl,rfl,ux (hg.1.val y (hsub y hy1)) (by omega)⟩
      .simp at hx
       subst hx;exact⟨gL,rfl,rfl,hb⟩) (by
      rw[hB];unfold tks;simp[<-List.append_assoc,P9,gB,kT];rfl)
    have k3:=k2 [];rw[qG]at k3;rw[k3];exact⟨rfl,k1⟩
theorem at8{sz ot:Int}{s:S}{c:Cl}(iP:s.Q.length<=40)(hb:cM c=false)(h1:dX 7 sz ot s=0)(h2:jI s c.task c.op c.value c.prio c.now=0):TR sz ot s c (ap 7 sz ot s c.task c.op c.value c.prio c.now).1:=by
 obtain⟨hmn,hown,hfl,hg,P8⟩:=AG.1 h1;have hGd:Gd sz s.Q s.C:=⟨hg,P8⟩;have hz:=Xk (GU hmn).1;have hS:=aty hg.jJ hz.1;have hbd:=xF hb;have fN:=Xo hown hfl;have hfr:=apF h2;have hd:=atL.1 hg.nd;have hcs:∀w∈s.Q,w.case = -1:=λw hw=>(hg.cs w hw).1
 have GY:0<=c.now/\c.now<=1099511627776:=by omega
 have hab:∀(qn:Bool)(Q:List W)(cn:Bool)(C:List K),(({s with qn:=qn,Q:=Q,cn:=cn,C:=C}:S).ab true).pl=aT C:=λqn Q cn C=>Xo (s:={s with qn:=qn,Q:=Q,cn:=cn,C:=C}) hown hfl
 have at9:∀(qn:Bool)(C:List K),j8 sz s.Q C->(cP sz qn s.Q C).wn.length<=41/\(dz 7 sz ot (aT C) ((cP sz qn s.Q C).wn.map λw=>iC s.Q c.now (oJ w))).2=true/\(dz 7 sz ot (aT C) ((cP sz qn s.Q C).wn.map λw=>iC s.Q c.now (oJ w))).1.pl=aT (cP sz qn s.Q C).C:=λqn C Kv=>by
  obtain⟨L,g1,g2,g3⟩:=atN (ot:=ot) hmn GY hd hcs (s.Q.length+1) ⟨qn,s.Q,C,[]⟩ Kv (λx hx=>hx)
  have e:(cP sz qn s.Q C).wn=L:=g1;have g2:L.length<=s.Q.length:=g2;rw[e];exact⟨by omega,g3 (aT C) (at2 C)⟩
 unfold ap;simp only[h1,h2,zg,Cv,dK];by_cases kY:c.op=69
 .rw[aN kY]
  rw[kY]at h2;exact Xr (Xq (.inr (.inl kY))) rfl rfl rfl fN (atG hmn hS hb kY (aqL h2)) (by simp) (by omega) ⟨rfl,(at2 _).trans (hab s.qn s.Q false (mC s.C c.task)).symm⟩
 .rw[aG kY]
  by_cases mo:c.op=71
  .rw[aN mo]
   obtain⟨A,k,B,hC,oz,hk⟩:=GL (GM h2 (.inl mo));have mN:=Cb hk;have Kc:del s.C c.task=A++B:=by
    have eN:((A.length:Int)).toNat=A.length:=by omega
    unfold del;rw[oz,eN,hC,Es (by omega)]
    simp
   rw[Kc];have Kv:j8 sz s.Q (A++B):=hg.Kg (aqF hg.jJ (by rw[hC];exact Hf (tj A) (Hg k B))) (λw hw d hd hdt=>by
    rw[hC,dm,dD]at hd;rw[dm];rcases hd with hd |rfl |hd
    .exact .inl hd
    .exact absurd (hdt.symm.trans mN) (hfr w hw)
    .exact .inr hd)
   obtain⟨a1,a2,a3⟩:=at9 s.qn (A++B) Kv;rw[hC]at hS;have hE:=atH hmn hS hb mo mN;rw[<-hC]at hE;exact Xr (Xq (.inr (.inr mo))) rfl rfl rfl fN hE a1 (by omega) ⟨a2,a3.trans (hab _ _ s.cn _).symm⟩
  .rw[aG mo]
   by_cases eR:c.op=68
   .rw[aN eR]
    have U5:num c.value=true:=by rw[eR]at h2;exact Wv h2
    cases GV:(busy s.Q||fl sz s.C s.Q)
    .rw[aG (by simp)]
     have kX:busy s.Q=false/\fl sz s.C s.Q=false:=by simpa using GV
     have hlen:=D7 c.value s.Q;have e:vJ 7 s c ⟨{s with qn:=decide (pO s.Q=[]),Q:=pO s.Q,C:=s.C.map (gw s.Q c.value)},false,0,true,decide (pW c.value s.Q=[]),(pW c.value s.Q).map oJ⟩=gB c 0 true::((s.Q.filter λw=>w.op==70).map λw=>⟨⟨w.task,w.op,w.value,w.prio,c.now⟩,⟨w.task,w.op,c.value,true,-1⟩⟩):=by
      rw[Cf (by decide) (Xq (.inl eR)),ke]
      have:=Xn c.now c.value hd hcs (Q:=s.Q) (λx hx=>hx)
      simp only[Function.comp_def];rw[this];rfl
     refine⟨by simp only;omega,?_⟩
     simp only;rw[e];obtain⟨b',k1,k2⟩:=Xm (ot:=ot) (p:=gB c 0 true) (rs:=(s.Q.filter λw=>w.op==70).map λw=>⟨⟨w.task,w.op,w.value,w.prio,c.now⟩,⟨w.task,w.op,c.value,true,-1⟩⟩) hmn hg kX.2 fN eR U5 hb rfl rfl (λx hx=>by
      obtain⟨y,hy,rfl⟩:=gY.1 hx;obtain⟨hy1,Kt⟩:=lF.1 hy;exact⟨by simpa using Kt,rfl,rfl,ux (hg.val y hy1) GY⟩) (by
      unfold tks;rw[ke];rfl)
     have k3:=k2 [];rw[qG]at k3;unfold jL;rw[k3];exact⟨rfl,k1.trans (hab _ _ s.cn _).symm⟩
    .rw[aN rfl]
     exact at1 rfl rfl (fN.trans (hab false _ s.cn s.C).symm)
   .rw[aG eR]
    have gL:c.op=70:=by have:=Ws h2;omega
    obtain⟨A,k,B,hC,oz,hk⟩:=GL (GM h2 (.inr gL));have mN:=Cb hk;have hl:=at0 gL hk;rw[hk];simp only;have eN:((A.length:Int)).toNat=A.length:=by omega
    cases ji:k.log with
    |cons x lg =>
     simp only;have e2:s.C.set (lQ s.C c.task).toNat ⟨k.task,false,lg⟩=A++⟨k.task,false,lg⟩::B:=by rw[oz,eN,hC];exact Wt
     rw[e2];have hel:=hg.jJ.el k (D9 hk);rw[ji]at hel;have Kv:j8 sz s.Q (A++⟨k.task,false,lg⟩::B):=hg.Kg (aqG (c:=k) (by rw[<-hC];exact hg.jJ) rfl (by
       have g2:=hel.2.2.1;have g3:=hel.2.2.2;simp at g2 g3⊢;exact⟨by omega,g3.2⟩)) (λw hw d hd hdt=>by
      rw[hC,dm,dD]at hd;rw[dm,dD];rcases hd with hd |rfl |hd
      .exact .inl hd
      .exact absurd (hdt.symm.trans mN) (hfr w hw)
      .exact .inr (.inr hd))
     obtain⟨a1,a2,a3⟩:=at9 s.qn _ Kv;rw[hC]at hS;have hE:=atF hmn hS hb gL mN ji;rw[<-hC,<-mN]at hE;exact Xr (by rw[hl,ji];rfl) rfl rfl rfl fN hE a1 (by omega) ⟨a2,a3.trans (hab _ _ s.cn _).symm⟩
    |nil =>
     simp only;rw[gL];cases hgt:got (cP sz false (s.Q++[⟨c.task,70,0,c.prio,-1⟩]) s.C).wn c.task with
     |none =>
      have hw:=aqR (w:=W.mk c.task 70 0 c.prio (-1)) (by simp) rfl hgt
      rw[hw];exact at1 rfl rfl (fN.trans (hab false _ s.cn s.C).symm)
     |some x =>
      obtain⟨g1,g2⟩:=at4 (ot:=ot) hmn hGd iP hb gL hk ji hfr hgt;refine⟨g1,?_⟩;rw[W4 (by decide) (by rw[hl,ji];rfl),ke]
      have:=g2 (s.ab true) fN;exact⟨this.1,this.2.trans (hab _ _ s.cn _).symm⟩
theorem aua(nm:D)(sz ot:Int)(s:S)(c:Cl)(hf:s.fP)(iP:s.Q.length<=40):
  mS (ev P (.call uN [.d (.ag [nm,I' 7,I' sz,I' ot]),.d (.ag s.row),.d (.ag c.row)] [])) 7 sz ot s c:=by
 have h:=apy nm 7 sz ot s (aqX hf) c.task c.op c.value c.prio c.now;by_cases he:(ap 7 sz ot s c.task c.op c.value c.prio c.now).2=0
 .obtain⟨h1,h2⟩:=aqU he
  have hb:cM c=false:=apA h2;have hgd:=aqM h1 h2 (by omega)
  obtain⟨t1,t2⟩:=at8 iP hb h1 h2;have WN:=hf.h;have kG:=hf.b;obtain⟨hwf,_⟩:=apM (k:=7) (sz:=sz) (ot:=ot) (s:=s) (t:=c.task) (op:=c.op) (v:=c.value) (p:=c.prio) (n:=c.now) (q:=40) (c:=41) (l:=121) ⟨by omega,by omega,iP,hf.c,λc hc=>⟨hf.wf.k c hc,hf.l c hc⟩,hf.qn,hf.wf.c⟩
  rw[he]at h;generalize (ap 7 sz ot s c.task c.op c.value c.prio c.now).1=r at *;obtain⟨hmn,hown,hfl,hg,P8⟩:=AG.1 hgd;have hz:=GU hmn;obtain⟨f1,f2,f3,f4,f5,f6⟩:=atP.1 hfl;refine .inr ⟨⟨r.st,r.parked,r.value,r.ok,r.kn,r.wn.map oJ⟩,?_,?_,h1,hgd,by simp;omega,t2⟩
  .refine h.trans ?_
   unfold Ry.row;rw[ke];rfl
  .have o9:=atO hg.jJ
   exact⟨⟨λ_=>f3,λ_=>f4,hwf.cn,λc hc=>(hwf.l c hc).1⟩,hwf.qn,by rw[f3];simp,hwf.q,by rw[f4];simp,by simp only;omega,λc hc=>by have:=(hg.jJ.el c hc).2.2.1;omega⟩
 .exact .inl ⟨_,he,_,_,_,_,_,_,_,_,_,_,_,_,_,h⟩
def uz(x:Option dL)(k sz ot:Int):Prop :=
 (∃e,e≠0/\∃r1 r2 r3 r4 r5 r6 r7 r8 r9 nY nZ n8 dR:D,x=some (.val (.tu [.d (.ag [r1,r2,r3,r4,r5,r6,r7,r8,r9,nY,nZ,n8,dR]),.d (I' e)]) [])) \/
 ∃r:Ry,x=some (.val (.tu [.d (.ag r.row),.d (I' 0)]) [])/\r.st.fP/\nX k sz ot r.st=true
theorem G4{x:Option dL}{k sz ot:Int}{s:S}{c:Cl}(h:mS x k sz ot s c)(hi:∀t:S,dg k sz ot t=0->nX k sz ot t=true):uz x k sz ot:=by
 rcases h with h |⟨r,h1,h2,_,h4,_⟩
 .exact .inl h
 .exact .inr ⟨r,h1,h2,hi _ h4⟩
theorem aub{x:Option dL}{e k sz ot:Int}{r:Ry}(h:pQ x e r)(he:e≠0):uz x k sz ot:=by
 rcases h with⟨h0,_⟩ |⟨_,h⟩
 .exact absurd h0 he
 .exact .inl ⟨e,he,h⟩
theorem auc{x y:Option dL}{r:Ry}(hx:pQ x 0 r)(hy:pQ y 0 r):x=y:=by
 rcases hx with⟨_,h1⟩ |⟨h1,_⟩
 .rcases hy with⟨_,h2⟩ |⟨h2,_⟩
  .rw[h1,h2]
  .exact absurd rfl h2
 .exact absurd rfl h1
theorem aud(nm:D)(sz ot:Int)(s:S)(c:Cl)(hf:s.fP)(iP:s.Q.length<=40):uz (ev P (.call A7 [.d (.ag [nm,I' 5,I' sz,I' ot]),.d (.ag s.row),.d (.ag c.row)] [])) 5 sz ot:=by
 by_cases hc:dg 5 sz ot s=0
 .have bQ:ev P (.call nJ [.d (.ag [nm,I' 5,I' sz,I' ot]),.d (.ag s.row)] [])=some (.val (.d (I' (dg 5 sz ot s))) []):=JQ nm 5 sz ot s hf.sm
  obtain⟨hn,hs⟩:=G0.1 hc;have hsz:1<=sz/\sz<=100:=by
   unfold iF at hn;simp at hn;omega
  rw[hc]at bQ;have hA:=λc=>arx nm 5 sz ot s c hsz ⟨hs.lo,hs.hi⟩ hf.qn (by omega) bQ
  by_cases he:Ee sz s c=0
  .have h1:=hA c
   have h2:=hA {c with now:=0};have e1:Ee sz s {c with now:=0}=0:=he;have e2:GZ sz s {c with now:=0}=GZ sz s c:=rfl;rw[he]at h1;rw[e1,e2]at h2;rw[auc h1 h2];refine G4 (ar0 nm sz ot s {c with now:=0} hf iP ?_) λ_=>atV
   have bV:xE s c=0:=by
    unfold Ee at he;by_cases h:xE s c=0
    .exact h
    .rw[aN h]at he;exact absurd he h
   unfold xE at bV;split at bV
   .cases bV
   .unfold Kl at bV
    split at bV
    .cases bV
    .rename_i h3
     unfold Kk at bV;split at bV
     .cases bV
     .rename_i h4
      simp at h3 h4;unfold cM;simp;omega
  .exact aub (hA c) he
 .exact .inl ⟨_,hc,_,_,_,_,_,_,_,_,_,_,_,_,_,arZ nm sz ot s c hf hc⟩
theorem aue{r r':Ry}(h:r.row=r'.row):r.st.cnt=r'.st.cnt/\r.st.Q=r'.st.Q:=by
 unfold Ry.row at h;simp only[List.cons.injEq,D.i.injEq,KQ,D.sl.injEq]at h;refine⟨h.2.1,?_⟩;have hq:=h.2.2.2.2.1;have hinj:∀(a b:W),a.row=b.row->a=b:=λa b e=>by
  obtain⟨a1,a2,a3,a4,a5⟩:=a;obtain⟨b1,b2,b3,b4,b5⟩:=b;unfold W.row at e;simp at e;simp[e]
 exact List.map_inj_right (λa b=>hinj a b) |>.1 hq.2
theorem auf{sz ot:Int}{s:S}{c:Cl}:∀w B,(AJ sz ot s c).st.Q=w::B->c.op=72\/c.op=75->(AJ sz ot s c).st.cnt<w.value:=by
 have key:∀(Q:List W)(n:Int)(w:W)(B:List W),(eu Q n).1=w::B->(eu Q n).2.1<w.value:=by
  intro Q;induction Q with
  |nil=>intro n w B h;simp[eu]at h
  |cons q r ih =>
   intro n w B h;unfold eu at h⊢;split
   .rename_i hq
    rw[aN hq]at h;exact ih _ w B h
   .rename_i hq
    rw[aG hq]at h;simp at h;rw[<-h.1];simp only;omega
 intro w B h ho;have hk:=key (nA sz ot c.now s).Q (nA sz ot c.now s).cnt;unfold AJ Kn at h⊢;unfold nr S.lt at h⊢;rcases ho with ho |ho
 .rw[aG (by omega)]at h⊢
  simp only at h⊢;by_cases hq:(eu (nA sz ot c.now s).Q (nA sz ot c.now s).cnt).1=[]/\c.value<=(eu (nA sz ot c.now s).Q (nA sz ot c.now s).cnt).2.1
  .rw[aN hq]at h
   rw[hq.1]at h;simp at h
  .rw[aG hq]at h⊢
   simp only at h⊢;cases hl:(eu (nA sz ot c.now s).Q (nA sz ot c.now s).cnt).1 with
   |nil =>
    rw[hl]at h hq;simp at h hq;rw[<-h.1];exact hq
   |cons a r =>
    rw[hl]at h;simp at h;rw[<-h.1];exact hk a r hl
 .rw[aN ho]at h⊢
  simp only at h⊢;exact hk w B h
theorem aug(nm:D)(sz ot:Int)(s:S)(c:Cl)(hf:s.fP)(iP:s.Q.length<=40):uz (ev P (.call zw [.d (.ag [nm,I' 8,I' sz,I' ot]),.d (.ag s.row),.d (.ag c.row)] [])) 8 sz ot:=by
 by_cases hc:dg 8 sz ot s=0
 .have bQ:ev P (.call ng [.d (.ag [nm,I' 8,I' sz,I' ot]),.d (.ag s.row)] [])=some (.val (.d (I' (dg 8 sz ot s))) []):=JT nm 8 sz ot s hf.sm
  obtain⟨hn,hs⟩:=G1.1 hc;have hsz:1<=sz/\sz<=100/\1<=ot/\ot<=1099511627776:=by
   unfold jh at hn;simp at hn;omega
  rw[hc]at bQ;have hlo:=hs.lo;have hhi:=hs.hi;have Zq:=hs.t0;have hA:=λc=>arH nm 8 sz ot s c (by omega) (by omega) hs.t0 hf.qn (by omega) (λw hw=>by have:=(hs.q.w w hw).2.2.2;omega) bQ
  have good:∀c:Cl,cM c=false->uy sz s c=0->uz (ev P (.call zw [.d (.ag [nm,I' 8,I' sz,I' ot]),.d (.ag s.row),.d (.ag c.row)] [])) 8 sz ot:=λc hb he=>by
   have h1:=hA c;rw[he]at h1;have hop:c.op=72\/c.op=75:=by
    unfold uy at he;obtain⟨h1,_⟩:=iJ (by decide) he
    simp at h1;omega
   rcases h1 with⟨_,h1⟩ |⟨h1,_⟩
   .rcases ar9 nm sz ot s c hf iP hb with h |⟨r,h2,h3,_,h4,_⟩
    .exact .inl h
    .refine .inr ⟨r,h2,h3,atZ h4 λw B hw=>?_⟩
     rw[h1]at h2;simp only[gz,dL.val.injEq,V.tu.injEq,List.cons.injEq,V.d.injEq,D.ag.injEq,xP]at h2;obtain⟨g1,g2⟩:=aue h2;rw[<-g1];rw[<-g2]at hw;exact auf w B hw hop
   .exact absurd rfl h1
  by_cases he:uy sz s c=0
  .cases hb:cM c
   .exact good c hb he
   .have Qa:=he
    unfold uy at he;obtain⟨h1,he⟩:=iJ (by decide) he
    obtain⟨h2,he⟩:=iJ (by decide) he
    simp at h1 h2;by_cases ho:c.op=75
    .have h1:=hA c
     have h2':=hA {c with task:=0,prio:=0};have e1:uy sz s {c with task:=0,prio:=0}=0:=by
      unfold uy at Qa⊢;simp only[ho]at Qa⊢;simpa using Qa
     have e2:AJ sz ot s {c with task:=0,prio:=0}=AJ sz ot s c:=by
      unfold AJ Kn;simp only[ho,dH]
     rw[Qa]at h1;rw[e1,e2]at h2';rw[auc h1 h2'];refine good _ ?_ e1;unfold cM;simp;omega
    .exfalso
     rw[aG (by simpa using ho)]at he
     obtain⟨h5,_⟩:=iJ (by decide) he
     unfold y7 at h5;unfold cM at hb;simp at h5 hb;omega
  .exact aub (hA c) he
 .exact .inl ⟨_,hc,_,_,_,_,_,_,_,_,_,_,_,_,_,ar8 nm sz ot s c hf hc⟩
theorem auh{own:Int}{q:List W}{o t p:Int}:(M.qx own q o t p).q.length<=q.length+1:=by
 have lk:(M.lq own q t p).q.length<=q.length+1:=by
  unfold M.lq;split
  .simp
  .split
   .simp[M.zr]
   .simp only[l6,List.length_take,ir,Qw]
    omega
 unfold M.qx;split
 .simp[M.zr]
 .split
  .simp[M.zr]
  .split
   .simp[M.zr]
   .split
    .exact lk
    .split
     .unfold M.B0
      split
      .simp
      .exact lk
     .unfold M.BZ
      split
      .simp[M.zr]
      .cases q<;>simp
       omega
theorem aui(nm:D)(sz ot:Int)(s:S)(c:Cl)(hf:s.fP)(iP:s.Q.length<=40):uz (ev P (.call A5 [.d (.ag [nm,I' 1,I' sz,I' ot]),.d (.ag s.row),.d (.ag c.row)] [])) 1 sz ot:=by
 have hs:=hf.sm;obtain⟨hn,qn,bn,cn,wn,h,iB⟩:=M.Wa nm 1 sz ot s.own s.cnt s.time s.hn s.H s.qn s.Q s.bn s.B s.cn (s.C.map K.row) s.cl s.val c.task c.op c.value c.prio c.now hs.h hs.q hs.b (by simpa using hs.c) hf.qn
 by_cases he:(M.J7 1 sz ot s.own s.cnt s.time s.H s.Q s.B (s.C.map K.row) s.cl s.val c.op c.task c.prio).e=0
 .have hv:dg 1 sz ot s=0/\M.J7 1 sz ot s.own s.cnt s.time s.H s.Q s.B (s.C.map K.row) s.cl s.val c.op c.task c.prio=M.qx s.own s.Q c.op c.task c.prio:=by
   have e:M.dN 1 sz ot=dM 1 1 sz ot:=rfl;unfold M.J7 at he⊢;rw[e]at he⊢;by_cases h1:dM 1 1 sz ot=0
   .rw[aN h1]at he⊢
    have ev:vF s=M.iX s.own s.cnt s.time s.H s.Q s.B (s.C.map K.row) s.cl s.val:=rfl;rw[<-ev]at he⊢;by_cases h2:vF s=true
    .rw[aN h2]
     exact⟨AF.2 ⟨h1,h2⟩,rfl⟩
    .rw[aG h2]at he
     simp[M.zr]at he
   .rw[aG h1]at he
    simp only[M.zr]at he;exact absurd he h1
  obtain⟨hc,hw⟩:=hv;rw[hw]at h iB he;obtain⟨y4,_,g8,g9⟩:=PZ.1 hc;have P0:=M.aqC g9 he;have hl:=auh (own:=s.own) (q:=s.Q) (o:=c.op) (t:=c.task) (p:=c.prio);rw[he]at h;have hwk:∃l:List Wk,l=Xj (M.qx s.own s.Q c.op c.task c.prio).wk:=⟨_,rfl⟩;refine .inr ⟨⟨⟨(M.qx s.own s.Q c.op c.task c.prio).own,0,0,hn,[],qn,(M.qx s.own s.Q c.op c.task c.prio).q,bn,[],cn,[],false,0⟩,(M.qx s.own s.Q c.op c.task c.prio).parked,0,(M.qx s.own s.Q c.op c.task c.prio).ok,wn,Xj (M.qx s.own s.Q c.op c.task c.prio).wk⟩,?_,?_,?_⟩
  .refine h.trans ?_
   unfold M.rpL Ry.row Xj;cases(M.qx s.own s.Q c.op c.task c.prio).wk<;>rfl
  .exact⟨⟨λ_=>rfl,λ_=>rfl,λ_=>rfl,by simp⟩,iB,by simp,by simp only;omega,by simp,by simp,by simp⟩
  .exact atS (PZ.2 ⟨y4,⟨rfl,rfl,rfl,rfl,rfl,rfl,rfl⟩,by simp only;omega,P0⟩)
 .exact .inl ⟨_,he,_,_,_,_,_,_,_,_,_,_,_,_,_,h⟩
def IdX(x:Option dL)(k sz ot:Int)(b:Bool):Prop :=
 (∃e,e≠0/\∃r1 r2 r3 r4 r5 r6 r7 r8 r9 nY nZ n8 dR:D,x=some (.val (.tu [.d (.ag [r1,r2,r3,r4,r5,r6,r7,r8,r9,nY,nZ,n8,dR]),.d (I' e)]) [])) \/
 ∃(s':S)(d1 d2 d3 d4:D),x=some (.val (.tu [.d (.ag [I' s'.own,I' s'.cnt,I' s'.time,hD s'.hn s'.H,qD s'.qn s'.Q,hD s'.bn s'.B,cD s'.cn s'.C,.b s'.cl,I' s'.val,d1,d2,d3,d4]),.d (I' 0)]) []) /\
  s'.fP/\(b=true->nX k sz ot s'=true)
theorem auj{x:Option dL}{k sz ot:Int}(h:uz x k sz ot):IdX x k sz ot true:=by
 rcases h with h |⟨r,h1,h2,h3⟩
 .exact .inl h
 .exact .inr ⟨r.st,_,_,_,_,h1,h2,λ_=>h3⟩
theorem auk{x:Option dL}{k sz ot:Int}{s:S}(h:Cc x k sz ot s)(hi:k≠8->∀t:S,dg k sz ot t=0->nX k sz ot t=true):IdX x k sz ot (k != 8):=by
 rcases h with h |⟨t,_,_,_,_,_,h1,h2,_,h4,_⟩
 .exact .inl h
 .exact .inr ⟨t,_,_,_,_,h1,h2,λhk=>hi (by simpa using hk) _ h4⟩
theorem aul{k:Int}{f g a w r:Nat}(hk:GI k f g a w r)(nm:D)(sz ot:Int):ev P (.call f [.d (.ag [nm,I' k,I' sz,I' ot])] [])=qQ (gq k sz ot) (ew k sz).row:=by
 rw[T4];rcases hk with h |h |h |h |h |h |h |h<;>obtain⟨rfl,rfl,_⟩:=h
 .exact NO nm 1 sz ot
 .exact NP nm 2 sz ot
 .exact uZ nm 4 sz ot
 .exact u5 nm 5 sz ot
 .exact FA nm 6 sz ot
 .exact tR nm 7 sz ot
 .exact u6 nm 8 sz ot
 .exact Fz nm 9 sz ot
theorem aum(k sz:Int):(ew k sz).fP:=⟨N3 k sz,by simp[ew],by simp[ew],by simp[ew],by simp[ew],by simp[ew],by simp[ew]⟩
theorem aun{k sz ot:Int}{f g a w r:Nat}(hk:GI k f g a w r)(h:gq k sz ot=0):dg k sz ot (ew k sz)=0:=by
 rcases hk with h1 |h1 |h1 |h1 |h1 |h1 |h1 |h1<;>obtain⟨rfl,_⟩:=h1
 .exact PZ.2 ⟨h,⟨rfl,rfl,rfl,rfl,rfl,rfl,rfl⟩,by simp[ew],⟨.inl rfl,λ_=>rfl,by simp[ew,M.uj],by simp[ew],by simp[ew]⟩⟩
 .exact PL.2 ⟨h,⟨.inl rfl,rfl,rfl,rfl,rfl⟩,rfl,rfl,rfl,rfl,rfl,rfl⟩
 .obtain⟨h1,h2⟩:=ZB h
  exact Ec.2 ⟨h,rfl,by simp[ew];omega,by simp[ew],rfl,rfl,rfl,rfl,rfl,rfl,by simp[ew],by simp[ew],by simp[ew],by simp[ew]⟩
 .obtain⟨h1,h2⟩:=ZC h
  exact G0.2 ⟨h,rfl,by simp[ew],by simp[ew],by simp[ew];omega,rfl,rfl,rfl,rfl,rfl,rfl,WQ.nil⟩
 .have h1:0<=sz:=by
   have h:gM 6 sz ot=0:=h;unfold gM at h;simp at h;omega
  exact PW.2 ⟨h,rfl,rfl,rfl,rfl,rfl,rfl,by simpa[ew]using h1,by simp[ew],by simp[ew],by simp[ew],by simp[ew],by simp[ew],by simp[ew],by simp[ew]⟩
 .exact AG.2 ⟨h,rfl,rfl,⟨⟨⟨by simp[ew],by simp[ew]⟩,by simp[ew],by simp[ew],by simp[ew,tks],by simp[ew]⟩,by simp[ew]⟩⟩
 .obtain⟨h1,h2⟩:=TY h
  exact G1.2 ⟨h,rfl,by simp[ew];omega,by simp[ew],by simp[ew],by simp[ew],rfl,rfl,rfl,rfl,rfl,WQ.nil⟩
 .exact Kp.2 ⟨h,rfl,rfl,rfl,rfl,rfl,rfl,by simp[ew,num],WQ.nil,λ_=>rfl,λ_=>rfl⟩
theorem auo{k sz ot:Int}{f g a w r:Nat}(hk:GI k f g a w r)(h:gq k sz ot=0):nX k sz ot (ew k sz)=true:=by
 unfold nX;rw[aun hk h];simp[ew]
theorem aup(nm:D)(sz ot:Int)(s:S)(c:Cl)(hf:s.fP)(iP:s.Q.length<=40):uz (ev P (.call zu [.d (.ag [nm,I' 4,I' sz,I' ot]),.d (.ag s.row),.d (.ag c.row)] [])) 4 sz ot :=
 G4 (arL nm sz ot s c hf iP) λ_=>atU
theorem auq(nm:D)(sz ot:Int)(s:S)(c:Cl)(hf:s.fP)(iP:s.Q.length<=40):uz (ev P (.call A8 [.d (.ag [nm,I' 9,I' sz,I' ot]),.d (.ag s.row),.d (.ag c.row)] [])) 9 sz ot :=
 G4 (arT nm sz ot s c hf iP) λ_=>atY
theorem aur(nm:D)(sz ot:Int)(s:S)(c:Cl)(hf:s.fP)(iP:s.Q.length<=40):uz (ev P (.call iR [.d (.ag [nm,I' 6,I' sz,I' ot]),.d (.ag s.row),.d (.ag c.row)] [])) 6 sz ot :=
 G4 (atq nm sz ot s c hf iP) λ_=>atW
theorem aus(nm:D)(sz ot:Int)(s:S)(c:Cl)(hf:s.fP)(iP:s.Q.length<=40):uz (ev P (.call oT [.d (.ag [nm,I' 2,I' sz,I' ot]),.d (.ag s.row),.d (.ag c.row)] [])) 2 sz ot :=
 G4 (atw nm sz ot s c hf iP) λ_=>atT
theorem aut(nm:D)(sz ot:Int)(s:S)(c:Cl)(hf:s.fP)(iP:s.Q.length<=40):uz (ev P (.call uN [.d (.ag [nm,I' 7,I' sz,I' ot]),.d (.ag s.row),.d (.ag c.row)] [])) 7 sz ot :=
 G4 (aua nm sz ot s c hf iP) λ_=>atX
theorem Ck(nm:D)(k sz ot:Int)(s:S)(c:Cl)(t:Int){f g a w r:Nat}(hk:GI k f g a w r)(hw:s.wf)(hq:s.qn=true->s.Q=[])
  (hA:s.fP->s.Q.length<=40->uz (ev P (.call a [.d (.ag [nm,I' k,I' sz,I' ot]),.d (.ag s.row),.d (.ag c.row)] [])) k sz ot)
  (hW:s.fP->Cc (ev P (.call w [.d (.ag [nm,I' k,I' sz,I' ot]),.d (.ag s.row),.d (I' t)] [])) k sz ot s)
  (hI:k≠8->∀t:S,dg k sz ot t=0->nX k sz ot t=true):
  ev P (.call EC [.d (.ag [nm,I' k,I' sz,I' ot]),.d (.ag s.row),.d (.ag c.row),.d (I' t)] [])=some (.val (.d (.b true)) []):=by
 have Ac:=aoL hk;have hG:=Ze s;rw[au Yn rfl];cases hg:s.yl
 .rw[hg]at hG
  have hf:s.fP:=aoe hw hq hg;have iP:s.Q.length<=40:=by
   unfold S.yl at hg;simp at hg;omega
  have hA:=auj (hA hf iP);have hW:=auk (hW hf) hI;have hN:=aul hk nm sz ot;have Kw:=Wh nm k sz ot (ew k sz) (aum k sz);have hni:gq k sz ot=0->nX k sz ot (ew k sz)=true:=auo hk;generalize ew k sz=n at *;generalize gq k sz ot=en at *;unfold qQ at hN;have hN:∃x:Option Bool,(∃e,(x=some true/\e=0\/x=none/\e≠0)/\∃z1 z2 z3 z4 z5 z6 z7 z8 z9:D,ev P (.call f [.d (.ag [nm,I' k,I' sz,I' ot])] [])=some (.val (.tu [.d (.ag [z1,z2,z3,z4,z5,z6,z7,z8,z9]),.d (I' e)]) [])/\(e=0->ev P (.call x7 [.d (.ag [nm,I' k,I' sz,I' ot]),.d (.ag [z1,z2,z3,z4,z5,z6,z7,z8,z9])] [])=some (.val (.d (.b true)) []))):=by
   by_cases h0:en=0
   .rw[aN h0]at hN
    rw[hni h0]at Kw;exact⟨some true,en,.inl ⟨rfl,h0⟩,_,_,_,_,_,_,_,_,_,hN,λ_=>Kw⟩
   .rw[aG h0]at hN
    exact⟨none,en,.inr ⟨rfl,h0⟩,_,_,_,_,_,_,_,_,_,hN,λh=>absurd h h0⟩
  obtain⟨_,e0,_,z1,z2,z3,z4,z5,z6,z7,z8,z9,hN,Kw⟩:=hN;have hA:∃e,∃r1 r2 r3 r4 r5 r6 r7 r8 r9 nY nZ n8 dR:D,ev P (.call a [.d (.ag [nm,I' k,I' sz,I' ot]),.d (.ag s.row),.d (.ag c.row)] [])=some (.val (.tu [.d (.ag [r1,r2,r3,r4,r5,r6,r7,r8,r9,nY,nZ,n8,dR]),.d (I' e)]) [])/\(e=0->ev P (.call x7 [.d (.ag [nm,I' k,I' sz,I' ot]),.d (.ag [r1,r2,r3,r4,r5,r6,r7,r8,r9])] [])=some (.val (.d (.b true)) [])):=by
   rcases hA with⟨e,he,r1,r2,r3,r4,r5,r6,r7,r8,r9,nY,nZ,n8,dR,h⟩ |⟨s',d1,d2,d3,d4,h,h2,h3⟩
   .exact⟨e,_,_,_,_,_,_,_,_,_,_,_,_,_,h,λh=>absurd h he⟩
   .have h4:=Wh nm k sz ot s' h2
    rw[h3 rfl]at h4;exact⟨0,_,_,_,_,_,_,_,_,_,_,_,_,_,h,λ_=>h4⟩
  have hW:∃e,∃r1 r2 r3 r4 r5 r6 r7 r8 r9 nY nZ n8 dR:D,ev P (.call w [.d (.ag [nm,I' k,I' sz,I' ot]),.d (.ag s.row),.d (I' t)] [])=some (.val (.tu [.d (.ag [r1,r2,r3,r4,r5,r6,r7,r8,r9,nY,nZ,n8,dR]),.d (I' e)]) [])/\((e != 0)=false->(k==8)=false->ev P (.call x7 [.d (.ag [nm,I' k,I' sz,I' ot]),.d (.ag [r1,r2,r3,r4,r5,r6,r7,r8,r9])] [])=some (.val (.d (.b true)) [])):=by
   rcases hW with⟨e,he,r1,r2,r3,r4,r5,r6,r7,r8,r9,nY,nZ,n8,dR,h⟩ |⟨s',d1,d2,d3,d4,h,h2,h3⟩
   .exact⟨e,_,_,_,_,_,_,_,_,_,_,_,_,_,h,λh=>absurd (by simpa using h) he⟩
   .have h4:=Wh nm k sz ot s' h2
    refine⟨0,_,_,_,_,_,_,_,_,_,_,_,_,_,h,λ_ hk=>?_⟩
    rw[h3 (by simpa[bne]using hk)]at h4
    exact h4
  obtain⟨e1,r1,r2,r3,r4,r5,r6,r7,r8,r9,nY,nZ,n8,dR,hA,hAi⟩:=hA;obtain⟨e2,q1,q2,q3,q4,q5,q6,q7,q8,q9,q10,q11,q12,q13,hW,hWi⟩:=hW;have hN':(e0==0)=false\/((e0==0)=true/\e0=0):=by
   cases h:e0==0
   .exact .inl rfl
   .exact .inr ⟨rfl,by simpa using h⟩
  have J1:(e1==0)=false\/((e1==0)=true/\e1=0):=by
   cases h:e1==0
   .exact .inl rfl
   .exact .inr ⟨rfl,by simpa using h⟩
  have hWc:((e2 != 0)=true)\/((e2 != 0)=false/\(k==8)=true)\/((e2 != 0)=false/\(k==8)=false):=by
   cases e2 != 0<;>cases k==8<;>simp
  simp only[S.row,Cl.row]at hG hA hW⊢;rcases hN' with h1 |⟨h1,h1'⟩<;>rcases J1 with h2 |⟨h2,h2'⟩;all_goals
   try have Kw:=Kw h1'
   try have hAi:=hAi h2'
   rcases hWc with h3 |⟨h3,h4⟩ |⟨h3,h4⟩
  all_goals
   try have hWi:=hWi h3 h4
  all_goals
   simp[HY,Ac,hG,hN,hA,hW,h1,h2,h3, *,T9,az,av,bt,aX,bg,ak,cut,bA,aq,V.aY]
 .rw[hg]at hG
  simp only[S.row,Cl.row]at hG⊢;simp[HY,Ac,hG,T9,az,av]
theorem auu(nm:D)(k sz ot:Int)(s:S)(c:Cl)(t:Int)(hk:¬(k=1\/k=2\/k=4\/k=5\/k=6\/k=7\/k=8\/k=9)):
  ev P (.call EC [.d (.ag [nm,I' k,I' sz,I' ot]),.d (.ag s.row),.d (.ag c.row),.d (I' t)] [])=some (.val (.d (.b true)) []):=by
 have Ac:=aoM hk;have hG:=Ze s;have hI:ev P (.call x7 [.d (.ag [nm,I' k,I' sz,I' ot]),.d (.ag s.row)] [])=some (.val (.d (.b false)) []):=by
  rw[au Yp rfl];have hU:=N0 hk;simp only[S.row];simp[ER,hU]
 rw[au Yn rfl];simp only[S.row,Cl.row]at hG hI⊢;cases hg:s.yl<;>rw[hg]at hG<;>simp[HY,Ac,hG,hI,T9,az,av]
theorem auv(nm:D)(k sz ot:Int)(s:S)(c:Cl)(t:Int)(hw:s.wf)(hq:s.qn=true->s.Q=[]):
  ev P (.call EC [.d (.ag [nm,I' k,I' sz,I' ot]),.d (.ag s.row),.d (.ag c.row),.d (I' t)] [])=some (.val (.d (.b true)) []):=by
 by_cases hk:k=1\/k=2\/k=4\/k=5\/k=6\/k=7\/k=8\/k=9
 .rcases hk with rfl |rfl |rfl |rfl |rfl |rfl |rfl |rfl
  .exact Ck nm 1 sz ot s c t (.inl ⟨rfl,rfl,rfl,rfl,rfl,rfl⟩) hw hq (aui nm sz ot s c) (aqW nm sz ot s t) λ_ _=>atS
  .exact Ck nm 2 sz ot s c t (.inr (.inl ⟨rfl,rfl,rfl,rfl,rfl,rfl⟩)) hw hq (aus nm sz ot s c) (aq5 nm sz ot s t) λ_ _=>atT
  .exact Ck nm 4 sz ot s c t (.inr (.inr (.inl ⟨rfl,rfl,rfl,rfl,rfl,rfl⟩))) hw hq (aup nm sz ot s c) (aqu nm sz ot s t) λ_ _=>atU
  .exact Ck nm 5 sz ot s c t (.inr (.inr (.inr (.inl ⟨rfl,rfl,rfl,rfl,rfl,rfl⟩)))) hw hq (aud nm sz ot s c) (λhf =>
    PM (t:=t) (by omega) hf rfl (ap0 nm 5 sz ot s t (by have:=hf.q;omega) (JQ nm 5 sz ot s hf.sm))) λ_ _=>atV
  .exact Ck nm 6 sz ot s c t (.inr (.inr (.inr (.inr (.inl ⟨rfl,rfl,rfl,rfl,rfl,rfl⟩))))) hw hq (aur nm sz ot s c) (λhf =>
    PM (t:=t) (by omega) hf rfl (apY nm 6 sz ot s t (by have:=hf.q;omega) (VM nm 6 sz ot s hf.sm))) λ_ _=>atW
  .exact Ck nm 7 sz ot s c t (.inr (.inr (.inr (.inr (.inr (.inl ⟨rfl,rfl,rfl,rfl,rfl,rfl⟩)))))) hw hq (aut nm sz ot s c) (aqY nm sz ot s t) λ_ _=>atX
  .exact Ck nm 8 sz ot s c t (.inr (.inr (.inr (.inr (.inr (.inr (.inl ⟨rfl,rfl,rfl,rfl,rfl,rfl⟩))))))) hw hq (aug nm sz ot s c) (λhf =>
    PM (t:=t) (by omega) hf rfl (apZ nm 8 sz ot s t (by have:=hf.q;omega) (JT nm 8 sz ot s hf.sm))) λh=>absurd rfl h
  .exact Ck nm 9 sz ot s c t (.inr (.inr (.inr (.inr (.inr (.inr (.inr ⟨rfl,rfl,rfl,rfl,rfl,rfl⟩))))))) hw hq (auq nm sz ot s c) (λhf =>
    PM (t:=t) (by omega) hf rfl (ap1 nm 9 sz ot s t (by have:=hf.q;omega) (VN nm 9 sz ot s hf.sm))) λ_ _=>atY
 .exact auu nm k sz ot s c t hk
end Go.VS.Sp
