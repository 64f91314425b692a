import Derived.Test.YtjpdopldkeodgaaGreatV14
import Derived.Test.YtjpdopldkeodgaaGreatV13
import Derived.Test.YtjpdopldkeodgaaGreatV11
import Derived.Test.YtjpdopldkeodgaaGreatV09
import Derived.Test.YtjpdopldkeodgaaGreatV12
set_option linter.all false
set_option maxHeartbeats 1000000
namespace Go.VS.Sp
theorem asf{own:Int}{H:List Int}{t:Int}(ht:0<=t)(h:R.ia own H t=2):own=t:=by
 unfold R.ia at h;split at h
 .rename_i h2
  simp at h2;exact h2.2.symm
 .split at h<;>cases h
theorem asg{own:Int}{H:List Int}{t:Int}(ht:0<=t)(h:R.ia own H t=1):t∈H/\own≠t:=by
 unfold R.ia at h;split at h
 .cases h
 .rename_i h2
  split at h
  .rename_i h3
   exact⟨h3,λe=>h2 (by rw[e];simpa using ht)⟩
  .cases h
theorem ash{sz ot own:Int}{H:List Int}{c:Cl}(hn:dR 2 2 sz ot=0)(ho:own = -1\/(cW own=true/\H=[]))(h1:∀x∈H,cW x=true)(h2:R.gH H)(hb:cC c=false)(hop:53<=c.op/\c.op<=56)(he:(eW (aW own H) c).2.2.2=0):dU 2 sz ot (aW own H) c=eW (aW own H) c :=
 tV (VH hn ho h1 h2) hb (by unfold dD;simp;omega) (by
  unfold fit;have h3:¬(c.op=72):=by omega
  have h4:¬(c.op=64\/c.op=68\/c.op=73):=by omega
  simp only[h3,h4];simp) he
theorem asi(nm:D)(sz ot:Int)(s:S)(c:Cl)(hf:s.gN)(gR:s.Q.length<=40):
  mq (ev P (.call pJ [.d (.ag [nm,I' 2,I' sz,I' ot]),.d (.ag s.row),.d (.ag c.row)] [])) 2 sz ot s c:=by
 have hs:=hf.sm;have hfh:=hf.h;obtain⟨bn,cn,hn,qn,wn,h,hhn,jY⟩:=R.OI nm 2 sz ot s.own s.cnt s.time s.hn s.H s.qn s.Q s.bn s.B s.cn (s.C.map K.row) s.cl s.val c.task c.op c.value c.prio c.now hf.wf.1 hf.qn (by omega) (by omega)
 by_cases hc:R.fN 2 sz ot s.own s.cnt s.time s.H s.Q s.B (s.C.map K.row) s.cl s.val=0
 .rw[aK hc]at h hhn jY
  have hc0:dW 2 sz ot s=0:=hc;obtain⟨D3,hM,g1,g2,g3,g4,g5,g6⟩:=GA.1 hc0;by_cases he:(R.mZ s.own s.H s.Q c.task c.op c.prio c.now).e=0
  .have hb:cC c=false:=by
    cases hb:cC c
    .rfl
    .have kK:R.jZ c.task c.prio c.now=true:=by
      unfold cC at hb;unfold R.jZ R.cW;simp at hb⊢;omega
     unfold R.mZ at he;rw[aK kK]at he;simp[R.zr]at he
   have Pc:=R.am9 hM (by omega) he
   have hbd:=vn hb;obtain⟨m1,m2,m3,m4,m5,m6,m7⟩:=R.z9.1 hM;have eH:(s.ab true).pl=aW s.own s.H:=by
    unfold S.ab S.pl aW;simp[g1,g2,g3,g4,g5,g6]
   have asj:=apP Pc;have Pd:0<=c.now/\c.now<=1099511627776:=by omega
   have hcs:∀w∈s.Q,w.case = -1:=λw hw=>(m5 w hw).cs
   have one:∀(mh:Int)(H':List Int)(R:List Cp),53<=c.op/\c.op<=56->eW (aW s.own s.H) c=(aW mh H',0,true,0)->c9 2 sz ot (s.ab true) (fR c 0 true::R)=c9 2 sz ot (aW mh H') R:=λmh H' R ho hE=>by
    have he:=ash (c:=c) D3 m1 m2 m3 hb ho (by rw[hE])
    rw[hE,<-eH]at he;exact mo (x:=fR c 0 true) he rfl rfl (.inr (.inl rfl))
   have rT:∀(mh:Int)(H':List Int),(∀x∈H',x∈s.H)->R.gH H'->(mh=s.own\/mh = -1)->53<=c.op/\c.op<=56->eW (aW s.own s.H) c=(aW mh H',0,true,0) ->
     (R.jA mh H' s.Q).2.2.1.length<=s.Q.length/\(R.jA mh H' s.Q).2.2.2.length<=s.Q.length /\
     (c9 2 sz ot (s.ab true) (fR c 0 true::((R.jA mh H' s.Q).2.2.2.map vf).map (fJ s.Q c.now))).2=true /\
     (c9 2 sz ot (s.ab true) (fR c 0 true::((R.jA mh H' s.Q).2.2.2.map vf).map (fJ s.Q c.now))).1.pl=aW (R.jA mh H' s.Q).1 (R.jA mh H' s.Q).2.1:=λmh H' hsub hsa hown ho hE=>by
    have OW:∀w∈s.Q,R.Gp mh H' w:=λw hw=>by
     have h5:=m5 w hw;refine⟨h5.v,h5.op,h5.val,h5.cs,?_,λh=>h5.zY (hsub _ h)⟩
     rcases hown with rfl |rfl
     .exact h5.no
     .have:=(nx h5.v).1
      omega
    obtain⟨p1,p2,p3⟩:=apO (sz:=sz) (ot:=ot) Pd D3 (λx hx=>m2 x (hsub x hx)) hsa OW m6
    rw[VF c.now m6 p1 hcs,one mh H' _ ho hE];obtain⟨q1,q2⟩:=p3 (aW mh H') rfl;exact⟨p2,p1.length_le,q1,q2⟩
   have key:(R.mZ s.own s.H s.Q c.task c.op c.prio c.now).Q.length<=41/\(R.mZ s.own s.H s.Q c.task c.op c.prio c.now).k.length<=40/\iS s c=false /\
     (c9 2 sz ot (s.ab true) ((if(R.mZ s.own s.H s.Q c.task c.op c.prio c.now).parked=true then[]else[fR c 0 (R.mZ s.own s.H s.Q c.task c.op c.prio c.now).ok])++((R.mZ s.own s.H s.Q c.task c.op c.prio c.now).k.map vf).map (fJ s.Q c.now))).2=true /\
     (c9 2 sz ot (s.ab true) ((if(R.mZ s.own s.H s.Q c.task c.op c.prio c.now).parked=true then[]else[fR c 0 (R.mZ s.own s.H s.Q c.task c.op c.prio c.now).ok])++((R.mZ s.own s.H s.Q c.task c.op c.prio c.now).k.map vf).map (fJ s.Q c.now))).1.pl=aW (R.mZ s.own s.H s.Q c.task c.op c.prio c.now).own (R.mZ s.own s.H s.Q c.task c.op c.prio c.now).H:=by
    unfold R.mZ at he⊢;split at he
    .simp[R.zr]at he
    .rename_i e1
     rw[aE e1];split at he
     .simp[R.zr]at he
     .rename_i e2
      rw[aE e2];have hop:53<=c.op/\c.op<=56:=by simp at e2;omega
      have hl:iS s c=false:=by
       unfold iS;have h1:¬c.op=70:=by omega
       have h2:¬c.op=63:=by omega
       have h3:¬c.op=65:=by omega
       simp[h1,h2,h3]
      split at he
      .simp[R.zr]at he
      .rename_i e3
       rw[aE e3];split at he
       .rename_i e4
        rw[aK e4];split at he
        .simp[R.zr]at he
        .rename_i e5
         rw[aE e5];have e5:R.ia s.own s.H c.task=0:=by omega
         obtain⟨f1,f2⟩:=(R.Jy hbd.1).1 e5;unfold R.jc;by_cases e6:R.ve s.own s.H s.Q c.op=true
         .rw[aK e6]
          unfold R.ve at e6;by_cases e7:c.op=55
          .rw[aK e7]
           rw[aE (by omega)]at e6
           simp at e6;obtain⟨e8,e9⟩:=e6;refine⟨by simp only;omega,by simp,hl,?_⟩
           have hE:eW (aW s.own s.H) c=(aW c.task s.H,0,true,0):=by
            unfold eW
            have:¬(-1=c.task):=by omega
            simp[e7,e8,e9,aW,gd,this]
           simp only[eR,dG,gq,ni];rw[one _ _ [] hop hE];exact⟨rfl,rfl⟩
          .rw[aE e7]
           have e7':c.op=53:=by omega
           rw[aK e7']at e6;simp at e6;obtain⟨e8,e9⟩:=e6;refine⟨by simp only;omega,by simp,hl,?_⟩
           have hE:eW (aW s.own s.H) c=(aW s.own (R.eV c.task s.H),0,true,0):=by
            unfold eW
            have:¬(-1=c.task):=by omega
            simp[e7',e8,f2,aW,gd,this];rfl
           simp only[eR,dG,gq,ni];rw[one _ _ [] hop hE];exact⟨rfl,rfl⟩
         .rw[aE e6]
          refine⟨by simp;omega,by simp,hl,?_⟩
          simp[c9,eH]
       .rename_i e4
        rw[aE e4];split at he
        .rename_i e5
         rw[aK e5];split at he
         .simp[R.zr]at he
         .rename_i e6
          rw[aE e6];have e6:R.ia s.own s.H c.task=1:=by omega
          obtain⟨f1,f2⟩:=asg hbd.1 e6;have hE:eW (aW s.own s.H) c=(aW s.own (s.H.filter λx=>x != c.task),0,true,0):=by
           unfold eW;simp[e5,f1,aW,gd]
          obtain⟨k1,k2,k3,k4⟩:=rT s.own (s.H.filter λx=>x != c.task) (λx hx=>(pe.1 hx).1) (m3.sublist B5) (.inl rfl) hop hE
          refine⟨by simp only;omega,by simp only;omega,hl,?_⟩
          simp only[eR,dG,vG];exact⟨k3,k4⟩
        .rename_i e5
         rw[aE e5];split at he
         .simp[R.zr]at he
         .rename_i e6
          rw[aE e6];have e6:R.ia s.own s.H c.task=2:=by omega
          have f1:=asf hbd.1 e6;have hE:eW (aW s.own s.H) c=(aW (-1) s.H,0,true,0):=by
           unfold eW
           have:c.op=56:=by omega
           simp[this,f1,aW,gd]
          obtain⟨k1,k2,k3,k4⟩:=rT (-1) s.H (λx hx=>hx) m3 (.inr rfl) hop hE
          refine⟨by simp only;omega,by simp only;omega,hl,?_⟩
          simp only[eR,dG,vG];exact⟨k3,k4⟩
   rw[he]at h;generalize R.mZ s.own s.H s.Q c.task c.op c.prio c.now=r at *;obtain⟨r1,r2,r3,r4,r5,r6,r7⟩:=r;simp only at *;obtain⟨k1,k2,k3,k4,k5⟩:=key;refine .inr ⟨⟨⟨r1,0,0,hn,r2,qn,r3,bn,[],cn,[],false,0⟩,r4,0,r5,wn,r6.map vf⟩,?_,?_,hc0,?_,by simp;omega,?_⟩
   .refine h.trans ?_
    unfold Ry.row;rw[kB];rfl
   .exact⟨⟨hhn,λ_=>rfl,λ_=>rfl,by simp⟩,jY,by simp only;omega,k1,by simp,by simp,by simp⟩
   .exact GA.2 ⟨D3,Pc,rfl,rfl,rfl,rfl,rfl,rfl⟩
   .rw[Aj (by decide) k3]
    exact⟨k4,k5⟩
  .exact .inl ⟨_,he,_,_,_,_,_,_,_,_,_,_,_,_,_,h⟩
 .rw[aE hc]at h
  exact .inl ⟨1,by decide,_,_,_,_,_,_,_,_,_,_,_,_,_,h⟩
end Go.VS.Sp
namespace Go.VS.Sp
def aT(C:List K):S:=⟨-1,0,0,false,[],false,[],false,[],false,C.map K.pl,false,0⟩
theorem V9{sz:Int}(h:0<=sz):sz<=dm sz/\1<=dm sz:=by unfold dm;split<;>omega
theorem asn{a b:Int}{C:List K}(h:iK a C)(hab:a<=b):iK b C:=⟨h.pw,λc hc=>by have:=h.el c hc;exact⟨this.1,this.2.1,by omega,this.2.2.2⟩⟩
theorem aso{rm:Int}{C:List K}(h:iK rm C):iK rm (C.map K.pl):=OT h (λ_=>rfl) (λc hc=>(h.el c hc).2.2)
theorem asp{sz ot:Int}(h:dQ 7 sz ot=0):dQ 7 (dm sz) ot=0:=by
 have hz:=Gy h;have hr:0<=dm sz/\dm sz<=100:=by unfold dm;split<;>omega
 unfold dQ at *;simp at h⊢;exact⟨hr,h.2⟩
theorem asq{sz ot:Int}{C:List K}(hn:dQ 7 sz ot=0)(h:iK (dm sz) C):cU 7 sz ot (aT C)=true:=by
 have e2:gB 7 (iY 7 sz) ot (iC 7 (aT C))=0:=by
  have:fN 7 (dm sz) ot (aT C)=0:=Ae.2 ⟨asp hn,rfl,rfl,⟨aso h,by simp[aT],by simp[aT],by simp[aT,tks],by simp[aT]⟩,by simp[aT]⟩
  exact this
 have e1:fZ 7 sz ot=0:=hn;unfold cU;rw[e1,e2];rfl
theorem asr{A B:List K}{k:K}{m:Int}(h:iK m (A++k::B)):bI k.task ((A++k::B).map K.task)=A.length:=by
 have hp:=h.pw;rw[oA]at hp;unfold bI;rw[vF,List.takeWhile_append_of_pos]
 .simp
 .intro t ht
  obtain⟨a,ha,rfl⟩:=gF.1 ht;simpa using hp.2.2 a ha k (by simp)
theorem ast{A B:List K}{k:K}{m:Int}(h:iK m (A++k::B)):bK (aT (A++k::B)) k.task=A.length/\mF (aT (A++k::B)) k.task=true:=by
 have e:qy (aT (A++k::B))=(A++k::B).map K.task:=by
  unfold qy aT;rw[kB];rfl
 have hb:bK (aT (A++k::B)) k.task=A.length:=by
  unfold bK;rw[e];exact asr h
 refine⟨hb,?_⟩;unfold mF;rw[hb,e];simp
theorem asu{C:List K}{t m:Int}(h:iK m C)(hn:∀c∈C,c.task≠t):bK (aT C) t=j4 C t/\mF (aT C) t=false:=by
 have e:qy (aT C)=C.map K.task:=by
  unfold qy aT;rw[kB];rfl
 have hb:bK (aT C) t=j4 C t:=by
  unfold bK j4 bI;rw[e,List.takeWhile_map,yK];rfl
 refine⟨hb,?_⟩;have hsa:gH (C.map K.task):=by
  unfold gH;rw[Ee];exact h.pw
 unfold mF bK;rw[e]
 have:¬((C.map K.task)[bI t (C.map K.task)]?=some t):=by
  rw[Ij hsa];intro hm;obtain⟨c,hc,e⟩:=gF.1 hm;exact hn c hc e
 simpa using this
theorem Pe{sz ot:Int}{C:List K}{c:Cl}(hn:dQ 7 sz ot=0)(hS:iK (dm sz) C)(hb:cC c=false)(ho:68<=c.op/\c.op<=71)(hv:c.op=68->num c.value=true)(he:(eT (dm sz) (aT C) c).2.2.2=0):dU 7 sz ot (aT C) c=eT (dm sz) (aT C) c :=
 tV (asq hn hS) hb (by unfold dD;simp;omega) (by
  unfold fit;have h1:¬((7:Int)=4\/c.op=72):=by omega
  rw[aE h1];by_cases h:c.op=68
  .rw[aK (by omega)];exact hv h
  .rw[aE (by omega)]) he
theorem asv{sz ot:Int}{C:List K}{c:Cl}(hn:dQ 7 sz ot=0)(hS:iK (dm sz) C)(hb:cC c=false)(ho:c.op=68)(hv:num c.value=true)(hf:∀x∈C,(x.log.length:Int)<dm sz):
  dU 7 sz ot (aT C) c=(aT (C.map λx=>⟨x.task,false,x.log++[c.value]⟩),0,true,0):=by
 have h:eT (dm sz) (aT C) c=(aT (C.map λx=>⟨x.task,false,x.log++[c.value]⟩),0,true,0):=by
  have OU:((aT C).C.any λx=>decide (dm sz<=x.log.length))=false:=by
   rw[qL];intro x hx;obtain⟨y,hy,rfl⟩:=gF.1 hx;have:=hf y hy;have e:y.pl.log=y.log:=rfl;rw[e];simpa using this
  unfold eT;rw[OU];simp only[ho];simp only[gd,aT,kB];rfl
 rw[Pe hn hS hb (by omega) (λ_=>hv) (by rw[h]),h]
theorem asw{sz ot x:Int}{A B:List K}{k:K}{lg:List Int}{c:Cl}(hn:dQ 7 sz ot=0)(hS:iK (dm sz) (A++k::B))(hb:cC c=false)(ho:c.op=70)(ht:k.task=c.task)(hl:k.log=x::lg):
  dU 7 sz ot (aT (A++k::B)) c=(aT (A++⟨c.task,false,lg⟩::B),x,true,0):=by
 obtain⟨h1,h2⟩:=ast hS;rw[ht]at h1 h2;have hg:(aT (A++k::B)).C[A.length]?=some ⟨c.task,false,x::lg⟩:=by
  unfold aT;simp[K.pl,ht,hl]
 have h:eT (dm sz) (aT (A++k::B)) c=(aT (A++⟨c.task,false,lg⟩::B),x,true,0):=by
  unfold eT;rw[h1,h2,hg];simp only[ho];simp[aT,K.pl]
 rw[Pe hn hS hb (by omega) (λh=>by omega) (by rw[h]),h]
theorem asx{sz ot:Int}{C:List K}{c:Cl}(hn:dQ 7 sz ot=0)(hS:iK (dm sz) C)(hb:cC c=false)(ho:c.op=69)(hno:∀k∈C,k.task≠c.task):
  dU 7 sz ot (aT C) c=(aT (mj C c.task),0,true,0):=by
 obtain⟨h1,h2⟩:=asu hS hno;have h:eT (dm sz) (aT C) c=(aT (mj C c.task),0,true,0):=by
  unfold eT;rw[h1,h2];simp only[ho];simp[gd,aT,mj,K.pl,B3,B4]
 rw[Pe hn hS hb (by omega) (λh=>by omega) (by rw[h]),h]
theorem asy{sz ot:Int}{A B:List K}{k:K}{c:Cl}(hn:dQ 7 sz ot=0)(hS:iK (dm sz) (A++k::B))(hb:cC c=false)(ho:c.op=71)(ht:k.task=c.task):
  dU 7 sz ot (aT (A++k::B)) c=(aT (A++B),0,true,0):=by
 obtain⟨h1,h2⟩:=ast hS;rw[ht]at h1 h2;have h:eT (dm sz) (aT (A++k::B)) c=(aT (A++B),0,true,0):=by
  unfold eT;rw[h1,h2];simp only[ho];have e1:(List.map K.pl (A++k::B)).take A.length=List.map K.pl A:=by
   rw[vF];exact tZ (by simp)
  have e2:(List.map K.pl (A++k::B)).drop (A.length+1)=List.map K.pl B:=by
   rw[vF,fT,<-List.drop_drop,D6 (by simp)]
   rfl
  simp only[aT,gd];rw[e1,e2,<-List.map_append];rfl
 rw[Pe hn hS hb (by omega) (λh=>by omega) (by rw[h]),h]
end Go.VS.Sp
namespace Go.VS.Sp
def jO(v:Int)(T:List Int)(x:K):K:=if x.task∈T then⟨x.task,false,[]⟩else⟨x.task,false,x.log++[v]⟩
theorem asz(v:Int)(T:List Int)(x:K):(jO v T x).task=x.task:=by unfold jO;split<;>rfl
theorem asA{rm v:Int}{C:List K}{T:List Int}(h:iK rm C)(hr:0<=rm)(hv:num v=true)(hf:∀x∈C,x.task∉T->(x.log.length:Int)<rm):iK rm (C.map (jO v T)):=
 OT h (asz v T) λc hc=>by
  unfold jO;split
  .exact⟨by simpa using hr,rfl⟩
  .rename_i hn
   have:=hf c hc hn;refine⟨by simp;omega,?_⟩
   simp only[J0,(h.el c hc).2.2.2,xA,hv,PO,PR]
theorem GD{α β:Type}{f g:α->β}{l:List α}(h:∀x∈l,f x=g x):l.map f=l.map g:=vu h
theorem asB{sz ot v:Int}{C:List K}(hn:dQ 7 sz ot=0)(hS:iK (dm sz) C)(hv:num v=true):∀(rs:List Cp)(T:List Int)(b:S),b.pl=aT (C.map (jO v T)) ->
  (∀x∈C,x.task∉T->(x.log.length:Int)<dm sz) ->
  (∀x∈rs,x.c.op=70/\x.w.value=v/\x.w.ok=true/\cC x.c=false/\x.c.task∉T/\∃k∈C,k.task=x.c.task/\k.log=[]) ->
  rs.Pairwise (λa b=>a.c.task≠b.c.task) ->
  ∃b':S,b'.pl=aT (C.map (jO v (rs.map (·.c.task)++T)))/\∀R,c9 7 sz ot b (rs++R)=c9 7 sz ot b' R
 | [],T,b,hb,_,_,_=>⟨b,by simpa using hb,λR=>rfl⟩
 |x::rs,T,b,hb,hf,hx,hp=>by
  rw[gI]at hp;obtain⟨h1,h2,h3,h4,h5,k,hk,nE,sI⟩:=hx x (by simp)
  obtain⟨A,B,rfl⟩:=Kc hk;have hz:=V9 (Gy hn).1;have hSr:=asA (T:=T) hS (by omega) hv hf
  have DA:jO v T k=⟨k.task,false,[v]⟩:=by
   unfold jO;rw[aE (by rw[nE];exact h5),sI]
   rfl
  have p7:=hS.pw;rw[oA,gI]at p7;rw[vF,fT,DA]at hSr hb;have hE:=asw (x:=v) (lg:=[]) hn hSr h4 h1 nE rfl;rw[<-hb]at hE;have hnew:A.map (jO v T)++⟨x.c.task,false,[]⟩::B.map (jO v T)=(A++k::B).map (jO v (x.c.task::T)):=by
   rw[vF,fT];have e1:A.map (jO v T)=A.map (jO v (x.c.task::T)):=GD λa ha=>by
    have:a.task≠x.c.task:=by have:=p7.2.2 a ha k (by simp);omega
    unfold jO;simp[this]
   have e2:B.map (jO v T)=B.map (jO v (x.c.task::T)):=GD λa ha=>by
    have:a.task≠x.c.task:=by have:=p7.2.1.1 a ha;omega
    unfold jO;simp[this]
   have e3:jO v (x.c.task::T) k=⟨x.c.task,false,[]⟩:=by
    unfold jO;simp[nE]
   rw[e1,e2,e3]
  rw[hnew]at hE;have eH:(aT ((A++k::B).map (jO v (x.c.task::T)))).pl=aT ((A++k::B).map (jO v (x.c.task::T))):=by
   unfold aT S.pl;simp only[kB];rfl
  obtain⟨b',g1,g2⟩:=asB hn hS hv rs (x.c.task::T) (aT ((A++k::B).map (jO v (x.c.task::T)))) eH (λy hy hyt=>hf y hy λh=>hyt (by simp[h])) (λy hy=>by
   obtain⟨k1,k2,k3,k4,k5,k6⟩:=hx y (by simp[hy])
   refine⟨k1,k2,k3,k4,?_,k6⟩;have:=hp.1 y hy;simp only[dA,nQ];exact⟨λe=>this e.symm,k5⟩) hp.2
  refine⟨b',?_,λR=>?_⟩
  .rw[g1]
   congr 1;refine GD λy hy=>?_
   unfold jO
   have:(y.task∈rs.map (·.c.task)++x.c.task::T)=(y.task∈(x::rs).map (·.c.task)++T):=by
    simp only[fT,dc,dA,eq_iff_iff,or_assoc];constructor
    .rintro(h |h |h)
     .exact .inr (.inl h)
     .exact .inl h
     .exact .inr (.inr h)
    .rintro(h |h |h)
     .exact .inr (.inl h)
     .exact .inl h
     .exact .inr (.inr h)
   simp only[this]
  .rw[<-g2 R,rZ]
   exact mo (x:=x) hE h2 h3 (.inl (by omega))
theorem Wa{sz ot:Int}{C:List K}{Q:List W}{p:Cp}{rs:List Cp}{b:S}(hn:dQ 7 sz ot=0)(hg:lR sz Q C)(hf:fl sz C Q=false)(hb:b.pl=aT C)
  (h1:p.c.op=68)(h2:num p.c.value=true)(h3:cC p.c=false)(h4:p.w.value=0)(h5:p.w.ok=true)
  (hr:∀x∈rs,x.c.op=70/\x.w.value=p.c.value/\x.w.ok=true/\cC x.c=false)(ht:rs.map (·.c.task)=tks (Q.filter λw=>w.op==70)):
  ∃b':S,b'.pl=aT (C.map (gw Q p.c.value))/\∀R,c9 7 sz ot b (p::(rs++R))=c9 7 sz ot b' R:=by
 have hz:=V9 (Gy hn).1;have hS:=asn hg.j5 hz.1;have BI:∀x∈C,jo Q x.task 70=true->x.log=[]:=λx hx hw=>by
  obtain⟨w,xp,e1,e2⟩:=BO.1 hw;rcases(hg.cs w xp).2 with⟨_,h⟩ |h
  .obtain⟨⟨k,hk,nE,sI⟩,_⟩:=(Gx hg.j5).1 h
   rw[hg.j5.uniq hx hk (by rw[nE,e1])]
   exact sI
  .omega
 have hlt:∀x∈C,(x.log.length:Int)<dm sz:=λx hx=>by
  cases hw:jo Q x.task 70
  .have h1:=(hg.j5.el x hx).2.2.1
   unfold fl at hf;rw[qL]at hf;have h2:=hf x hx;rw[hw]at h2;simp at h2;omega
  .rw[BI x hx hw]
   simp only[lf];omega
 have hE:=asv hn hS h3 h1 h2 hlt;have e0:(C.map λx=>(⟨x.task,false,x.log++[p.c.value]⟩:K))=C.map (jO p.c.value []):=GD λx _=>by unfold jO;simp
 rw[e0,<-hb]at hE;have eH:(aT (C.map (jO p.c.value []))).pl=aT (C.map (jO p.c.value [])):=by
  unfold aT S.pl;simp only[kB];rfl
 have hnd:(rs.map (·.c.task)).Nodup:=by
  rw[ht];exact hg.nd.sublist (B5.map _)
 obtain⟨b',g1,g2⟩:=asB hn hS h2 rs [] _ eH (λx hx _=>hlt x hx) (λx hx=>by
  obtain⟨k1,k2,k3,k4⟩:=hr x hx;refine⟨k1,k2,k3,k4,by simp,?_⟩
  have hm:x.c.task∈rs.map (·.c.task):=Pn hx
  rw[ht]at hm;obtain⟨w,hw,e⟩:=gF.1 hm;obtain⟨hw1,dO⟩:=pe.1 hw;rcases(hg.cs w hw1).2 with⟨_,h⟩ |h
  .obtain⟨⟨k,hk,nE,sI⟩,_⟩:=(Gx hg.j5).1 h
   exact⟨k,hk,by rw[nE,e],sI⟩
  .simp[h]at dO) (by
  unfold List.Nodup at hnd;rw[Ee]at hnd;exact hnd)
 refine⟨b',?_,λR=>?_⟩
 .rw[g1,ht]
  unfold aT;simp only[kB];congr 1;refine GD λx hx=>?_
  have hmem:x.task∈tks (Q.filter λw=>w.op==70)++[]↔jo Q x.task 70=true:=by
   rw[BO,ni];unfold tks;rw[gF];constructor
   .rintro⟨w,hw,e⟩
    obtain⟨a,b⟩:=pe.1 hw;exact⟨w,a,e,by simpa using b⟩
   .rintro⟨w,a,e,b⟩
    exact⟨w,pe.2 ⟨a,by simpa using b⟩,e⟩
  simp only[Function.comp];unfold jO gw;cases hw:jo Q x.task 70
  .rw[aE (by rw[hmem,hw];simp),aE (by simp)]
  .rw[aK (hmem.2 hw),aK rfl]
   unfold K.pl;rw[BI x hx hw]
 .rw[<-g2 R]
  exact mo (x:=p) hE h4 h5 (.inl (by omega))
end Go.VS.Sp
namespace Go.VS.Sp
def oy(w:cE):Wk:=⟨w.task,w.op,w.value,true,-1⟩
theorem lR.sublist{sz:Int}{Q Q':List W}{C:List K}(h:lR sz Q C)(hs:Q'.Sublist Q):lR sz Q' C :=
 ⟨h.j5,λw hw=>h.val w (hs.subset hw),ng hs.length_le h.len,h.nd.sublist (hs.map _),λw hw=>h.cs w (hs.subset hw)⟩
theorem asC{Q:List W}:(tks Q).Nodup↔Q.Pairwise λa b=>a.task≠b.task:=by
 unfold tks List.Nodup;rw[Ee]
theorem D4{A B:List W}{w:W}:(A++B).Sublist (A++w::B):=GM (As A) (GN w B)
theorem Wb(now v:Int){Q0 Q:List W}(hd:Q0.Pairwise λa b=>a.task≠b.task)(hc:∀w∈Q0,w.case = -1)(hs:∀w∈Q,w∈Q0):
  (pW v Q).map (λw=>fJ Q0 now (oy w))=(Q.filter λw=>w.op==70).map λw=>⟨⟨w.task,w.op,w.value,w.prio,now⟩,⟨w.task,w.op,v,true,-1⟩⟩:=by
 unfold pW;rw[kB];refine GD λw hw=>?_
 have hm:=hs w (pe.1 hw).1;exact DT now v true hd hm (hc w hm)
theorem asD{sz ot now:Int}(hn:dQ 7 sz ot=0)(hw0:0<=now/\now<=1099511627776){Q0 A B:List W}{w:W}{C:List K}{b:S}(hd:Q0.Pairwise λa b=>a.task≠b.task)(hc:∀w∈Q0,w.case = -1)
  (hs:∀x∈A++w::B,x∈Q0)(hg:lR sz (A++w::B) C)(fu:w.op=68)(hf:fl sz C (A++w::B)=false)(hb:b.pl=aT C):
  ∃b':S,b'.pl=aT (C.map (gw (A++B) w.value))/\∀R,c9 7 sz ot b ((((⟨w.task,w.op,0⟩:cE)::pW w.value (A++B)).map λw=>fJ Q0 now (oy w))++R)=c9 7 sz ot b' R:=by
 have hsub:∀x∈A++B,x∈Q0:=λx hx=>hs x (D4.subset hx)
 have xp:=hs w (by simp)
 have tU:=hg.val w (by simp)
 rw[fT,Wb now w.value hd hc hsub];have hp:fJ Q0 now (oy ⟨w.task,w.op,0⟩)=⟨⟨w.task,w.op,w.value,w.prio,now⟩,⟨w.task,w.op,0,true,-1⟩⟩:=DT now 0 true hd xp (hc w xp);rw[hp];have v9:fl sz C (A++B)=false:=by
  unfold fl at *;simpa only[Vt fu]using hf
 exact Wa (p:=⟨⟨w.task,w.op,w.value,w.prio,now⟩,⟨w.task,w.op,0,true,-1⟩⟩) hn (hg.sublist D4) v9 hb fu (DQ tU) (tX tU hw0) rfl rfl (λx hx=>by
  obtain⟨y,hy,rfl⟩:=gF.1 hx;obtain⟨hy1,JV⟩:=pe.1 hy;exact⟨by simpa using JV,rfl,rfl,tX (hg.val y (D4.subset hy1)) hw0⟩) (by
  unfold tks;rw[kB];rfl)
theorem asE{sz ot now:Int}(hn:dQ 7 sz ot=0)(hw0:0<=now/\now<=1099511627776){Q0:List W}(hd:Q0.Pairwise λa b=>a.task≠b.task)(hc:∀w∈Q0,w.case = -1):∀(n:Nat)(a:Ad),lR sz a.Q a.C->(∀x∈a.Q,x∈Q0) ->
  ∃L,(gW sz n a).wn=a.wn++L/\L.length<=a.Q.length/\∀b:S,b.pl=aT a.C ->
   (c9 7 sz ot b (L.map λw=>fJ Q0 now (oy w))).2=true/\(c9 7 sz ot b (L.map λw=>fJ Q0 now (oy w))).1.pl=aT (gW sz n a).C
 | 0,a,_,_=>⟨[],by simp[gW],by simp,λb hb=>by simp[c9,gW,hb]⟩
 |n+1,a,hg,hs=>by
  have stay:(gW sz (n+1) a)=a->∃L,(gW sz (n+1) a).wn=a.wn++L/\L.length<=a.Q.length/\∀b:S,b.pl=aT a.C ->
   (c9 7 sz ot b (L.map λw=>fJ Q0 now (oy w))).2=true/\(c9 7 sz ot b (L.map λw=>fJ Q0 now (oy w))).1.pl=aT (gW sz (n+1) a).C:=λe=>by
   rw[e];exact⟨[],by simp,by simp,λb hb=>by simp[c9,hb]⟩
  by_cases hcs:lF a.Q<0\/fl sz a.C a.Q=true
  .exact stay (by unfold gW;rw[aK hcs])
  .rcases DL a.Q with⟨h1,_⟩ |⟨A,B,w,hQ,hp,fu⟩
   .exact absurd (.inl (by omega)) hcs
   .have e:((A.length:Int)).toNat=A.length:=by omega
    have hgt:a.Q[(lF a.Q).toNat]?=some w:=by rw[hp,e,hQ];simp
    have e1:Q1 a.Q=A++B:=by rw[hQ];exact DM (by rw[<-hQ];exact hp)
    have hf:fl sz a.C a.Q=false:=by
     cases h:fl sz a.C a.Q
     .rfl
     .exact absurd (.inr h) hcs
    have hst:gW sz (n+1) a=gW sz n (a.step w):=by
     conv=>lhs;unfold gW
     rw[aE hcs,hgt]
    have F6:lR sz (a.step w).Q (a.step w).C:=by
     simp only[Ad.step,e1];exact hg.step hQ fu hf
    obtain⟨L,g1,g2,g3⟩:=asE hn hw0 hd hc n (a.step w) F6 (λx hx=>by
     simp only[Ad.step,e1]at hx;exact hs x (by rw[hQ];exact D4.subset (OS hx).1))
    rw[hst,g1];refine⟨⟨w.task,w.op,0⟩::pW w.value (A++B)++L,?_,?_,λb hb=>?_⟩
    .simp only[Ad.step,e1,sS,rZ]
    .simp only[Ad.step,e1]at g2
     have:=DN w.value (A++B);rw[hQ];simp at this⊢;omega
    .obtain⟨b',k1,k2⟩:=asD (ot:=ot) hn hw0 hd hc (by rw[<-hQ];exact hs) (by rw[<-hQ];exact hg) fu (by rw[<-hQ];exact hf) hb
     rw[vF,k2];refine g3 b' ?_;rw[k1];simp only[Ad.step,e1]
theorem asF{sz:Int}{C:List K}(h:iK sz C):C.length<=16:=by
 have h2:gH (C.map K.task):=by
  unfold gH;rw[Ee];exact h.pw
 have:=VI 0 (λx hx=>by
  obtain⟨c,hc,rfl⟩:=gF.1 hx;have:=h.el c hc;exact⟨this.1,this.2.1⟩) h2
 simp at this;omega
theorem asG{s:S}:s.uL=false↔s.cnt=0/\s.time=0/\s.H=[]/\s.B=[]/\s.cl=false/\s.val=0:=by
 unfold S.uL;simp;constructor
 .rintro⟨⟨⟨⟨h1,h2⟩,h3,h4⟩,h5⟩,h6⟩
  exact⟨h1,h2,h3,h4,h5,h6⟩
 .rintro⟨h1,h2,h3,h4,h5,h6⟩
  exact⟨⟨⟨⟨h1,h2⟩,h3,h4⟩,h5⟩,h6⟩
theorem asH{s:S}(ho:s.own = -1)(hz:s.uL=false):(s.ab true).pl=aT s.C:=by
 obtain⟨h1,h2,h3,h4,h5,h6⟩:=asG.1 hz;unfold S.ab S.pl aT;simp[ho,h1,h2,h3,h4,h5,h6]
end Go.VS.Sp
namespace Go.VS.Sp
end Go.VS.Sp
namespace Go.VS.Sp
def TR(sz ot:Int)(s:S)(c:Cl)(r:Rp):Prop :=
 r.wn.length<=41/\ig 7 sz ot s (jD 7 s c ⟨r.st,r.parked,r.value,r.ok,r.kn,r.wn.map oy⟩) r.st
theorem asI{s:S}{c:Cl}{k:K}(ho:c.op=70)(hk:mD s.C c.task=some k):iS s c=k.log.isEmpty:=by
 unfold iS;rw[aK ho,hk]
theorem Wc{s:S}{c:Cl}(ho:c.op=68\/c.op=69\/c.op=71):iS s c=false:=by
 unfold iS;rw[aE (by omega)]
 rcases ho with h |h |h<;>simp[h]
theorem We{sz ot v:Int}{s:S}{c:Cl}{r:Rp}{C':List K}(hl:iS s c=false)(hp:r.parked=false)(hv:r.value=v)(hk:r.ok=true)(eH:(s.ab true).pl=aT s.C)
  (he:dU 7 sz ot (aT s.C) c=(aT C',v,true,0))(kN:r.wn.length<=41)(Fl:c.op≠61)
  (h:(c9 7 sz ot (aT C') (r.wn.map λw=>fJ s.Q c.now (oy w))).2=true/\(c9 7 sz ot (aT C') (r.wn.map λw=>fJ s.Q c.now (oy w))).1.pl=(r.st.ab true).pl):TR sz ot s c r:=by
 refine⟨kN,?_⟩;rw[Aj (by decide) hl]
 have e:gy c ⟨r.st,r.parked,r.value,r.ok,r.kn,r.wn.map oy⟩=[fR c v true]:=by
  unfold gy;simp only[hp,hv,hk,eR,dG];rfl
 rw[e,kB];rw[<-eH]at he;unfold ig;rw[vG,mo (x:=fR c v true) he rfl rfl (.inl Fl)];exact h
theorem asJ{sz ot:Int}{s:S}{c:Cl}{r:Rp}(hp:r.parked=true)(hw:r.wn=[])(h:(s.ab true).pl=(r.st.ab true).pl):TR sz ot s c r:=by
 refine⟨by rw[hw];simp,?_⟩
 have e:jD 7 s c ⟨r.st,r.parked,r.value,r.ok,r.kn,r.wn.map oy⟩=[]:=by
  unfold jD gy;simp only[hp,hw];simp
 rw[e];exact⟨rfl,h⟩
theorem asK(C:List K):(aT C).pl=aT C:=by
 unfold aT S.pl;simp only[kB];rfl
theorem asL{l:List cE}{t:Int}{x:Int×List cE}(h:got l t=some x):∃A w B,l=A++w::B/\w.task=t/\x=(w.value,A++B):=by
 rcases CT (p:=λw:cE=>w.task==t) l 0 with⟨g1,_⟩ |⟨i,w,g1,g2,g3⟩
 .have BM:qE l t = -1:=by simpa[qE]using g1
  unfold got at h;rw[BM,aK (by omega)]at h
  cases h
 .have BM:qE l t=(i:Int):=by simpa[qE]using g1
  have e:((i:Int)).toNat=i:=by omega
  unfold got at h;rw[BM,aE (by omega),e,g2]at h
  obtain⟨hlt,he⟩:=rW.1 g2;have hl:(l.take i).length=i:=by simp;omega
  have hsp:l=l.take i++w::l.drop (i+1):=by rw[<-he];simp
  refine⟨l.take i,w,l.drop (i+1),hsp,?_,?_⟩
  .have:=GV g3
   simpa using this
  .simp only[sU,gz]at h
   rw[<-h];congr 1
   conv=>lhs;arg 1;rw[hsp]
   rw[Ed (by omega),hl]
   simp
theorem asM{sz ot:Int}{s:S}{c:Cl}{k:K}{x:Int×List cE}(hn:dQ 7 sz ot=0)(hg:Gd sz s.Q s.C)(hl:s.Q.length<=40)(hb:cC c=false)(fI:c.op=70)(hk:mD s.C c.task=some k)(sI:k.log=[])(hfr:∀w∈s.Q,w.task≠c.task)
  (hx:got (cR sz false (s.Q++[⟨c.task,70,0,c.prio,-1⟩]) s.C).wn c.task=some x):x.2.length<=41/\∀b:S,b.pl=aT s.C ->
   (c9 7 sz ot b (x.2.map (λw=>fJ s.Q c.now (oy w))++[fR c x.1 true])).2=true/\(c9 7 sz ot b (x.2.map (λw=>fJ s.Q c.now (oy w))++[fR c x.1 true])).1.pl=aT (cR sz false (s.Q++[⟨c.task,70,0,c.prio,-1⟩]) s.C).C:=by
 obtain⟨ow,how⟩:∃w:W,w=⟨c.task,70,0,c.prio,-1⟩:=⟨_,rfl⟩;have lG:ow.task=c.task:=by rw[how]
 have Pf:ow.op=70:=by rw[how]
 rw[<-how]at hx⊢;have hbd:=vn hb;have iF:k∈s.C:=DP hk;have nE:=BP hk;have F6:lR sz (s.Q++[ow]) s.C:=by
  refine hg.1.snoc ?_ (by omega) (λw hw=>by rw[lG];exact hfr w hw) (by rw[how];exact⟨rfl,.inl ⟨rfl,(Gx hg.1.j5).2 ⟨⟨k,iF,nE,sI⟩,rfl⟩⟩⟩)
  rw[how];unfold dL kI;simp;omega
 by_cases hcs:lF (s.Q++[ow])<0\/fl sz s.C (s.Q++[ow])=true
 .rw[apD hcs]at hx
  simp[got,qE,idx]at hx
 .rcases DL (s.Q++[ow])with⟨h1,_⟩ |⟨A,B,w,hQ,hp,fu⟩
  .exact absurd (.inl (by omega)) hcs
  .have e:((A.length:Int)).toNat=A.length:=by omega
   have hgt:(s.Q++[ow])[(lF (s.Q++[ow])).toNat]?=some w:=by rw[hp,e,hQ];simp
   have e1:Q1 (s.Q++[ow])=A++B:=by rw[hQ];exact DM (by rw[<-hQ];exact hp)
   have hf:fl sz s.C (s.Q++[ow])=false:=by
    cases h:fl sz s.C (s.Q++[ow])
    .rfl
    .exact absurd (.inr h) hcs
   obtain⟨B',hB,Al⟩:∃B',B=B'++[ow]/\s.Q=A++w::B':=by
    rcases Aq B with rfl |⟨B',b,rfl⟩
    .obtain⟨h1,h2⟩:=Ke hQ rfl
     simp at h2;rw[<-h2,Pf]at fu;cases fu
    .rw[GI,<-List.cons_append,<-List.append_assoc]at hQ
     obtain⟨h1,h2⟩:=Ke hQ rfl;simp at h2;exact⟨B',by rw[GI,h2],h1⟩
   have JW:w∈s.Q:=by rw[Al];simp
   have hsz:sz=0:=by
    have hfl:=hg.2 ⟨w,JW,fu⟩;unfold fl at hfl hf;obtain⟨y,hy,h2⟩:=rV.1 hfl;rw[qL]at hf;have h3:=hf y hy;simp only[bE,kZ,dM]at h2 h3;have h4:jo (s.Q++[ow]) y.task 70=true:=by
     cases h:jo (s.Q++[ow]) y.task 70
     .exact absurd ⟨h2.1,h⟩ h3
     .rfl
    obtain⟨z,hz,e1,e2⟩:=BO.1 h4;rcases dc.1 hz with hz |hz
    .have:jo s.Q y.task 70=true:=BO.2 ⟨z,hz,e1,e2⟩
     rw[h2.2]at this;cases this
    .simp at hz
     have:y=k:=hg.1.j5.uniq hy iF (by rw[<-e1,hz,lG,nE])
     rw[this,sI]at h2;have:=h2.1;simp at this;exact this.symm
   have hone:cR sz false (s.Q++[ow]) s.C=(⟨false,s.Q++[ow],s.C,[]⟩:Ad).step w:=by
    unfold cR
    conv=>lhs;unfold gW
    simp only;rw[aE hcs,hgt];simp only;have hlen:(s.Q++[ow]).length=s.Q.length+1:=by simp
    rw[hlen]
    conv=>lhs;unfold gW
    rw[aK];right;simp only[Ad.step,e1];unfold fl;rw[rV];refine⟨k,gF.2 ⟨k,iF,?_⟩,?_⟩
    .unfold gw
     have:jo (A++B) k.task 70=true:=BO.2 ⟨ow,by rw[hB];simp,by rw[lG,nE],Pf⟩
     rw[this,aK rfl]
    .have:jo (pO (A++B)) k.task 70=false:=by
      cases h:jo (pO (A++B)) k.task 70
      .rfl
      .obtain⟨z,hz,_,e2⟩:=BO.1 h
       exact absurd e2 (OS hz).2
     rw[this,sI,hsz];rfl
   rw[hone]at hx⊢;simp only[Ad.step,e1,mu]at hx⊢;have p7:pW w.value (A++B)=pW w.value (A++B')++[⟨ow.task,ow.op,w.value⟩]:=by
    rw[hB];unfold pW;simp[<-List.append_assoc,Pf,OP]
   have asN:(tks s.Q).Nodup:=hg.1.nd;have mE:x=(w.value,⟨w.task,w.op,0⟩::pW w.value (A++B')):=by
    obtain⟨P1,y,P2,f1,f2,f3⟩:=asL hx;rw[p7]at f1;rcases aqu (Q:=(⟨w.task,w.op,0⟩:cE)::pW w.value (A++B')) (x:=⟨ow.task,ow.op,w.value⟩) (A:=P1) (w:=y) (B:=P2) (by simpa using f1)with⟨rfl,rfl⟩ |⟨P3,f4⟩
    .have:P2=[]:=by simpa using f1
     rw[f3,this];simp
    .exfalso
     have hy:y∈(⟨w.task,w.op,0⟩:cE)::pW w.value (A++B'):=by rw[f4];simp
     rcases dA.1 hy with hy |hy
     .rw[hy]at f2
      exact hfr w JW f2
     .unfold pW at hy
      obtain⟨z,hz,rfl⟩:=gF.1 hy;exact hfr z (by rw[Al];exact D4.subset (pe.1 hz).1) f2
   rw[mE];refine⟨?_,λb hb0=>?_⟩
   .have h1:=DN w.value (A++B')
    have h2:s.Q.length=A.length+(B'.length+1):=by rw[Al];simp
    simp at h1⊢;omega
   .have v9:fl sz s.C (A++B)=false:=by
     rw[hQ]at hf;unfold fl at *;simpa only[Vt fu]using hf
    have asO:lR sz (A++B) s.C:=by
     rw[hQ]at F6;exact F6.sublist D4
    have tU:=hg.1.val w JW;have hsub:∀x∈A++B',x∈s.Q:=λx hx=>by rw[Al];exact D4.subset hx
    have asP:∀w∈s.Q,w.case = -1:=λw hw=>(hg.1.cs w hw).1
    have hd:=asC.1 asN;have hp1:fJ s.Q c.now (oy ⟨w.task,w.op,0⟩)=⟨⟨w.task,w.op,w.value,w.prio,c.now⟩,⟨w.task,w.op,0,true,-1⟩⟩:=DT c.now 0 true hd JW (asP w JW);rw[fT,Wb c.now w.value hd asP hsub,hp1,rZ];obtain⟨b',k1,k2⟩:=Wa (ot:=ot) (p:=⟨⟨w.task,w.op,w.value,w.prio,c.now⟩,⟨w.task,w.op,0,true,-1⟩⟩)
     (rs:=((A++B').filter λw=>w.op==70).map (λr=>(⟨⟨r.task,r.op,r.value,r.prio,c.now⟩,⟨r.task,r.op,w.value,true,-1⟩⟩:Cp))++[fR c w.value true]) hn asO v9 hb0 fu (DQ tU) (tX tU (by omega)) rfl rfl (λx hx=>by
      rcases dc.1 hx with hx |hx
      .obtain⟨y,hy,rfl⟩:=gF.1 hx
       obtain⟨hy1,JV⟩:=pe.1 hy;exact⟨by simpa using JV,rfl,rfl,tX (hg.1.val y (hsub y hy1)) (by omega)⟩
      .simp at hx
       subst hx;exact⟨fI,rfl,rfl,hb⟩) (by
      rw[hB];unfold tks;simp[<-List.append_assoc,Pf,fR,lG];rfl)
    have k3:=k2 [];rw[ni]at k3;rw[k3];exact⟨rfl,k1⟩
end Go.VS.Sp
namespace Go.VS.Sp
theorem asQ{sz ot:Int}{s:S}{c:Cl}(gR:s.Q.length<=40)(hb:cC c=false)(h1:fN 7 sz ot s=0)(h2:jB s c.task c.op c.value c.prio c.now=0):TR sz ot s c (ap 7 sz ot s c.task c.op c.value c.prio c.now).1:=by
 obtain⟨hmn,hown,hfl,hg,hgf⟩:=Ae.1 h1;have hGd:Gd sz s.Q s.C:=⟨hg,hgf⟩;have hz:=V9 (Gy hmn).1;have hS:=asn hg.j5 hz.1;have hbd:=vn hb;have eH:=asH hown hfl;have hfr:=aow h2;have hd:=asC.1 hg.nd;have hcs:∀w∈s.Q,w.case = -1:=λw hw=>(hg.cs w hw).1
 have Pd:0<=c.now/\c.now<=1099511627776:=by omega
 have hab:∀(qn:Bool)(Q:List W)(cn:Bool)(C:List K),(({s with qn:=qn,Q:=Q,cn:=cn,C:=C}:S).ab true).pl=aT C:=λqn Q cn C=>asH (s:={s with qn:=qn,Q:=Q,cn:=cn,C:=C}) hown hfl
 have asR:∀(qn:Bool)(C:List K),lR sz s.Q C->(cR sz qn s.Q C).wn.length<=41/\(c9 7 sz ot (aT C) ((cR sz qn s.Q C).wn.map λw=>fJ s.Q c.now (oy w))).2=true/\(c9 7 sz ot (aT C) ((cR sz qn s.Q C).wn.map λw=>fJ s.Q c.now (oy w))).1.pl=aT (cR sz qn s.Q C).C:=λqn C JX=>by
  obtain⟨L,g1,g2,g3⟩:=asE (ot:=ot) hmn Pd hd hcs (s.Q.length+1) ⟨qn,s.Q,C,[]⟩ JX (λx hx=>hx)
  have e:(cR sz qn s.Q C).wn=L:=g1;have g2:L.length<=s.Q.length:=g2;rw[e];exact⟨by omega,g3 (aT C) (asK C)⟩
 unfold ap;simp only[h1,h2,B7,GW,dG];by_cases kL:c.op=69
 .rw[aK kL]
  rw[kL]at h2;exact We (Wc (.inr (.inl kL))) rfl rfl rfl eH (asx hmn hS hb kL (apB h2)) (by simp) (by omega) ⟨rfl,(asK _).trans (hab s.qn s.Q false (mj s.C c.task)).symm⟩
 .rw[aE kL]
  by_cases l6:c.op=71
  .rw[aK l6]
   obtain⟨A,k,B,hC,nX,hk⟩:=Gv (Gw h2 (.inl l6));have nE:=BP hk;have JF:del s.C c.task=A++B:=by
    have eN:((A.length:Int)).toNat=A.length:=by omega
    unfold del;rw[nX,eN,hC,Ed (by omega)]
    simp
   rw[JF];have JX:lR sz s.Q (A++B):=hg.JJ (apv hg.j5 (by rw[hC];exact GM (As A) (GN k B))) (λw hw d hd hdt=>by
    rw[hC,dc,dA]at hd;rw[dc];rcases hd with hd |rfl |hd
    .exact .inl hd
    .exact absurd (hdt.symm.trans nE) (hfr w hw)
    .exact .inr hd)
   obtain⟨a1,a2,a3⟩:=asR s.qn (A++B) JX;rw[hC]at hS;have hE:=asy hmn hS hb l6 nE;rw[<-hC]at hE;exact We (Wc (.inr (.inr l6))) rfl rfl rfl eH hE a1 (by omega) ⟨a2,a3.trans (hab _ _ s.cn _).symm⟩
  .rw[aE l6]
   by_cases fu:c.op=68
   .rw[aK fu]
    have Uj:num c.value=true:=by rw[fu]at h2;exact Vs h2
    cases Gz:(busy s.Q||fl sz s.C s.Q)
    .rw[aE (by simp)]
     have kK:busy s.Q=false/\fl sz s.C s.Q=false:=by simpa using Gz
     have hlen:=DN c.value s.Q;have e:jD 7 s c ⟨{s with qn:=decide (pO s.Q=[]),Q:=pO s.Q,C:=s.C.map (gw s.Q c.value)},false,0,true,decide (pW c.value s.Q=[]),(pW c.value s.Q).map oy⟩=fR c 0 true::((s.Q.filter λw=>w.op==70).map λw=>⟨⟨w.task,w.op,w.value,w.prio,c.now⟩,⟨w.task,w.op,c.value,true,-1⟩⟩):=by
      rw[Aj (by decide) (Wc (.inl fu)),kB]
      have:=Wb c.now c.value hd hcs (Q:=s.Q) (λx hx=>hx)
      simp only[Function.comp_def];rw[this];rfl
     refine⟨by simp only;omega,?_⟩
     simp only;rw[e];obtain⟨b',k1,k2⟩:=Wa (ot:=ot) (p:=fR c 0 true) (rs:=(s.Q.filter λw=>w.op==70).map λw=>⟨⟨w.task,w.op,w.value,w.prio,c.now⟩,⟨w.task,w.op,c.value,true,-1⟩⟩) hmn hg kK.2 eH fu Uj hb rfl rfl (λx hx=>by
      obtain⟨y,hy,rfl⟩:=gF.1 hx;obtain⟨hy1,JV⟩:=pe.1 hy;exact⟨by simpa using JV,rfl,rfl,tX (hg.val y hy1) Pd⟩) (by
      unfold tks;rw[kB];rfl)
     have k3:=k2 [];rw[ni]at k3;unfold ig;rw[k3];exact⟨rfl,k1.trans (hab _ _ s.cn _).symm⟩
    .rw[aK rfl]
     exact asJ rfl rfl (eH.trans (hab false _ s.cn s.C).symm)
   .rw[aE fu]
    have fI:c.op=70:=by have:=Vo h2;omega
    obtain⟨A,k,B,hC,nX,hk⟩:=Gv (Gw h2 (.inr fI));have nE:=BP hk;have hl:=asI fI hk;rw[hk];simp only;have eN:((A.length:Int)).toNat=A.length:=by omega
    cases iZ:k.log with
    |cons x lg =>
     simp only;have e2:s.C.set (jT s.C c.task).toNat ⟨k.task,false,lg⟩=A++⟨k.task,false,lg⟩::B:=by rw[nX,eN,hC];exact Vq
     rw[e2];have hel:=hg.j5.el k (DP hk);rw[iZ]at hel;have JX:lR sz s.Q (A++⟨k.task,false,lg⟩::B):=hg.JJ (apw (c:=k) (by rw[<-hC];exact hg.j5) rfl (by
       have g2:=hel.2.2.1;have g3:=hel.2.2.2;simp at g2 g3⊢;exact⟨by omega,g3.2⟩)) (λw hw d hd hdt=>by
      rw[hC,dc,dA]at hd;rw[dc,dA];rcases hd with hd |rfl |hd
      .exact .inl hd
      .exact absurd (hdt.symm.trans nE) (hfr w hw)
      .exact .inr (.inr hd))
     obtain⟨a1,a2,a3⟩:=asR s.qn _ JX;rw[hC]at hS;have hE:=asw hmn hS hb fI nE iZ;rw[<-hC,<-nE]at hE;exact We (by rw[hl,iZ];rfl) rfl rfl rfl eH hE a1 (by omega) ⟨a2,a3.trans (hab _ _ s.cn _).symm⟩
    |nil =>
     simp only;rw[fI];cases hgt:got (cR sz false (s.Q++[⟨c.task,70,0,c.prio,-1⟩]) s.C).wn c.task with
     |none =>
      have hw:=apG (w:=W.mk c.task 70 0 c.prio (-1)) (by simp) rfl hgt
      rw[hw];exact asJ rfl rfl (eH.trans (hab false _ s.cn s.C).symm)
     |some x =>
      obtain⟨g1,g2⟩:=asM (ot:=ot) hmn hGd gR hb fI hk iZ hfr hgt;refine⟨g1,?_⟩;rw[VV (by decide) (by rw[hl,iZ];rfl),kB]
      have:=g2 (s.ab true) eH;exact⟨this.1,this.2.trans (hab _ _ s.cn _).symm⟩
theorem asS(nm:D)(sz ot:Int)(s:S)(c:Cl)(hf:s.gN)(gR:s.Q.length<=40):
  mq (ev P (.call vL [.d (.ag [nm,I' 7,I' sz,I' ot]),.d (.ag s.row),.d (.ag c.row)] [])) 7 sz ot s c:=by
 have h:=aop nm 7 sz ot s (apI hf) c.task c.op c.value c.prio c.now;by_cases he:(ap 7 sz ot s c.task c.op c.value c.prio c.now).2=0
 .obtain⟨h1,h2⟩:=apH he
  have hb:cC c=false:=aor h2;have hgd:=apC h1 h2 (by omega)
  obtain⟨t1,t2⟩:=asQ gR hb h1 h2;have hfh:=hf.h;have lK:=hf.b;obtain⟨hwf,_⟩:=aoD (k:=7) (sz:=sz) (ot:=ot) (s:=s) (t:=c.task) (op:=c.op) (v:=c.value) (p:=c.prio) (n:=c.now) (q:=40) (c:=41) (l:=121) ⟨by omega,by omega,gR,hf.c,λc hc=>⟨hf.wf.k c hc,hf.l c hc⟩,hf.qn,hf.wf.c⟩
  rw[he]at h;generalize (ap 7 sz ot s c.task c.op c.value c.prio c.now).1=r at *;obtain⟨hmn,hown,hfl,hg,hgf⟩:=Ae.1 hgd;have hz:=Gy hmn;obtain⟨f1,f2,f3,f4,f5,f6⟩:=asG.1 hfl;refine .inr ⟨⟨r.st,r.parked,r.value,r.ok,r.kn,r.wn.map oy⟩,?_,?_,h1,hgd,by simp;omega,t2⟩
  .refine h.trans ?_
   unfold Ry.row;rw[kB];rfl
  .have oL:=asF hg.j5
   exact⟨⟨λ_=>f3,λ_=>f4,hwf.cn,λc hc=>(hwf.l c hc).1⟩,hwf.qn,by rw[f3];simp,hwf.q,by rw[f4];simp,by simp only;omega,λc hc=>by have:=(hg.j5.el c hc).2.2.1;omega⟩
 .exact .inl ⟨_,he,_,_,_,_,_,_,_,_,_,_,_,_,_,h⟩
end Go.VS.Sp
namespace Go.VS.Sp
theorem asT{r r':Ry}(h:r.row=r'.row):r.st.cnt=r'.st.cnt/\r.st.Q=r'.st.Q:=by
 unfold Ry.row at h;simp only[List.cons.injEq,D.i.injEq,Kf,D.sl.injEq]at h;refine⟨h.2.1,?_⟩;have hq:=h.2.2.2.2.1;have hinj:∀(a b:W),a.row=b.row->a=b:=λa b e=>by
  obtain⟨a1,a2,a3,a4,a5⟩:=a;obtain⟨b1,b2,b3,b4,b5⟩:=b;unfold W.row at e;simp at e;simp[e]
 exact List.map_inj_right (λa b=>hinj a b) |>.1 hq.2
end Go.VS.Sp
namespace Go.VS.Sp
theorem asU{k:Int}{f g a w r:Nat}(hk:tN k f g a w r)(nm:D)(sz ot:Int):ev P (.call f [.d (.ag [nm,I' k,I' sz,I' ot])] [])=qv (fZ k sz ot) (eu k sz).row:=by
 rw[Te];rcases hk with h |h |h |h |h |h |h |h<;>obtain⟨rfl,rfl,_⟩:=h
 .exact M4 nm 1 sz ot
 .exact M5 nm 2 sz ot
 .exact uM nm 4 sz ot
 .exact uN nm 5 sz ot
 .exact Ff nm 6 sz ot
 .exact tj nm 7 sz ot
 .exact uO nm 8 sz ot
 .exact Fe nm 9 sz ot
theorem asV(k sz:Int):(eu k sz).gN:=⟨Nm k sz,by simp[eu],by simp[eu],by simp[eu],by simp[eu],by simp[eu],by simp[eu]⟩
theorem asW{k sz ot:Int}{f g a w r:Nat}(hk:tN k f g a w r)(h:fZ k sz ot=0):dW k sz ot (eu k sz)=0:=by
 rcases hk with h1 |h1 |h1 |h1 |h1 |h1 |h1 |h1<;>obtain⟨rfl,_⟩:=h1
 .exact GC.2 ⟨h,⟨rfl,rfl,rfl,rfl,rfl,rfl,rfl⟩,by simp[eu],⟨.inl rfl,λ_=>rfl,by simp[eu,M.sM],by simp[eu],by simp[eu]⟩⟩
 .exact GA.2 ⟨h,⟨.inl rfl,rfl,rfl,rfl,rfl⟩,rfl,rfl,rfl,rfl,rfl,rfl⟩
 .obtain⟨h1,h2⟩:=Ys h
  exact BR.2 ⟨h,rfl,by simp[eu];omega,by simp[eu],rfl,rfl,rfl,rfl,rfl,rfl,by simp[eu],by simp[eu],by simp[eu],by simp[eu]⟩
 .obtain⟨h1,h2⟩:=Ni h
  exact BU.2 ⟨h,rfl,by simp[eu],by simp[eu],by simp[eu];omega,rfl,rfl,rfl,rfl,rfl,rfl,WQ.nil⟩
 .have h1:0<=sz:=by
   have h:gZ 6 sz ot=0:=h;unfold gZ at h;simp at h;omega
  exact JS.2 ⟨h,rfl,rfl,rfl,rfl,rfl,rfl,by simpa[eu]using h1,by simp[eu],by simp[eu],by simp[eu],by simp[eu],by simp[eu],by simp[eu],by simp[eu]⟩
 .exact Ae.2 ⟨h,rfl,rfl,⟨⟨⟨by simp[eu],by simp[eu]⟩,by simp[eu],by simp[eu],by simp[eu,tks],by simp[eu]⟩,by simp[eu]⟩⟩
 .obtain⟨h1,h2⟩:=Nj h
  exact BV.2 ⟨h,rfl,by simp[eu];omega,by simp[eu],by simp[eu],by simp[eu],rfl,rfl,rfl,rfl,rfl,WQ.nil⟩
 .exact DY.2 ⟨h,rfl,rfl,rfl,rfl,rfl,rfl,by simp[eu,num],WQ.nil,λ_=>rfl,λ_=>rfl⟩
end Go.VS.Sp
namespace Go.VS.Sp
theorem Wf{k sz ot:Int}:∀(l:List Cp)(a:S)(m:Nat),a.wf->a.zn m->m+l.length<=1000->(∀x∈l,x.c.task=x.w.task/\x.c.op=x.w.op)->(c9 k sz ot a l).2=true ->
  nZ k sz ot a.pl (l.map Cp.c) (l.map Cp.w)=some (c9 k sz ot a l).1.pl
 | [],a,_,_,_,_,_,_=>rfl
 |x::r,a,m,hw,hz,hn,hc,hp=>by
  simp only[gX]at hn;obtain⟨a',_,e2,e3⟩:=Tc (.s []) k sz ot a x.c hw (hz.sz (by omega))
  have Ti:a'.zn (m+1):=by
   rw[<-Nn,e2];exact YI k sz ot x.c (Nn.2 hz)
  have i1:=Wf (k:=k) (sz:=sz) (ot:=ot) r a (m+1) hw hz.up (by omega) (λy hy=>hc y (vA _ hy))
  have i2:=Wf (k:=k) (sz:=sz) (ot:=ot) r a' (m+1) e3 Ti (by omega) (λy hy=>hc y (vA _ hy))
  obtain⟨c1,c2⟩:=hc x (by simp)
  have hs:=@ahc k sz ot a.pl x.c;have eH:=aoY k sz ot r (dU k sz ot a.pl x.c).1 a' (by rw[<-e2,Vz])
  unfold c9 at hp⊢;simp only[fT];unfold nZ Be;generalize dU k sz ot a.pl x.c=e at *;obtain⟨e1,OX,e3',e4⟩:=e;simp only at *;by_cases h4:e4=0
  .subst h4
   simp only[B7,GW,dG,c1,c2]at hp⊢;rw[aE (by simp)]
   by_cases ht:(x.w.op==61&&ot==0&&!x.w.ok&&x.w.value==0)=true
   .rw[aK ht]at hp⊢
    have ht':=ht;simp at ht';obtain⟨⟨⟨t1,t2⟩,t3⟩,t4⟩:=ht';by_cases hv:(x.w.value==OX&&x.w.ok==e3')=true
    .rw[aK hv]
     simp at hv;rw[hs (by rw[c2];exact t1) rfl (by rw[<-hv.2];exact t3)]
     exact i1 hp
    .rw[aE hv,aK (by simp[t1,t2,t3,t4])]
     exact i1 hp
   .rw[aE ht]at hp⊢
    by_cases hv:(OX != x.w.value||e3' != x.w.ok)=true
    .rw[aK hv]at hp
     simp at hp
    .rw[aE hv]at hp⊢
     simp at hv;rw[aK (by simp[hv])]
     simp only[rY];rw[eH.1,<-e2];exact i2 (by rw[<-eH.2];exact hp)
  .rw[aK (by simpa using h4)]at hp
   simp at hp
theorem asX{k sz ot:Int}:∀(l1:List Cp)(l2:List Cp)(s t:S),nZ k sz ot s (l1.map Cp.c) (l1.map Cp.w)=some t ->
  nZ k sz ot s ((l1++l2).map Cp.c) ((l1++l2).map Cp.w)=nZ k sz ot t (l2.map Cp.c) (l2.map Cp.w)
 | [],l2,s,t,h=>by
  simp[nZ]at h;rw[h];rfl
 |x::r,l2,s,t,h=>by
  simp only[fT,rZ]at h⊢;have e:∀l1 l2,nZ k sz ot s (x.c::l1) (x.w::l2)=(Be k sz ot s x.c x.w).bind λt=>nZ k sz ot t l1 l2:=λ_ _=>rfl
  rw[e]at h⊢;cases ha:Be k sz ot s x.c x.w with
  |none=>rw[ha]at h;simp at h
  |some u =>
   rw[ha]at h;simp only[rY]at h⊢;exact asX r l2 u t h
theorem asY{k:Int}{s:S}{c:Cl}{r:Ry}:∀x∈jD k s c r,x.c.task=x.w.task/\x.c.op=x.w.op:=by
 have h1:∀x∈r.wl.map (fJ s.Q c.now),x.c.task=x.w.task/\x.c.op=x.w.op:=λx hx=>by
  obtain⟨w,_,rfl⟩:=gF.1 hx;exact⟨rfl,rfl⟩
 have h2:∀x∈gy c r,x.c.task=x.w.task/\x.c.op=x.w.op:=λx hx=>by
  unfold gy at hx;split at hx
  .simp at hx
  .simp at hx
   subst hx;exact⟨rfl,rfl⟩
 intro x hx;unfold jD at hx;split at hx
 .rcases dA.1 hx with rfl |hx
  .exact⟨rfl,rfl⟩
  .rcases dc.1 hx with hx |hx
   .exact h1 x hx
   .split at hx
    .simp at hx
    .exact h2 x hx
 .split at hx
  all_goals
   rcases dc.1 hx with hx |hx;all_goals first |exact h1 x hx |exact h2 x hx
theorem asZ{s:S}(hf:s.gN):(s.ab true).gN:=⟨⟨hf.wf.h,hf.wf.b,hf.wf.c,hf.wf.k⟩,λ_=>rfl,hf.h,by simp[S.ab],hf.b,hf.c,hf.l⟩
theorem as0{k sz ot:Int}{s:S}{f g a w r:Nat}(hk:tN k f g a w r)(h:dW k sz ot s=0):dW k sz ot (s.ab true)=0:=by
 rcases hk with h1 |h1 |h1 |h1 |h1 |h1 |h1 |h1<;>obtain⟨rfl,_⟩:=h1
 .obtain⟨a,b,c,d⟩:=GC.1 h
  exact GC.2 ⟨a,b,by simp[S.ab],⟨d.qU,λ_=>rfl,by simp[S.ab,M.sM],by simp[S.ab],by simp[S.ab]⟩⟩
 .obtain⟨a,b,c⟩:=GA.1 h
  exact GA.2 ⟨a,⟨b.ow,b.vh,rfl,rfl,rfl⟩,c⟩
 .obtain⟨a,b⟩:=BR.1 h
  exact BR.2 ⟨a,b.own,b.lo,b.hi,b.tm,b.h,b.b,b.c,b.cl,b.val,by simp[S.ab],by simp[S.ab],by simp[S.ab],by simp[S.ab]⟩
 .obtain⟨a,b⟩:=BU.1 h
  obtain⟨h1,h2⟩:=Ni a;exact BU.2 ⟨a,b.own,b.lo,b.hi,by simp[S.ab];omega,b.tm,b.val,b.cl,b.h,b.b,b.c,WQ.nil⟩
 .obtain⟨a,b⟩:=JS.1 h
  exact JS.2 ⟨a,b.own,b.cnt,b.tm,b.val,b.h,b.c,b.bl,b.nb,by simp[S.ab],by simp[S.ab],by simp[S.ab],λ_=>rfl,by simp[S.ab],by simp[S.ab]⟩
 .obtain⟨a,b,c,d,_⟩:=Ae.1 h
  exact Ae.2 ⟨a,b,c,⟨d.j5,by simp[S.ab],by simp[S.ab],by simp[S.ab,tks],by simp[S.ab]⟩,by simp[S.ab]⟩
 .obtain⟨a,b⟩:=BV.1 h
  exact BV.2 ⟨a,b.own,b.lo,b.hi,b.t0,b.t1,b.val,b.cl,b.h,b.b,b.c,WQ.nil⟩
 .obtain⟨a,b⟩:=DY.1 h
  exact DY.2 ⟨a,b.own,b.cnt,b.tm,b.h,b.b,b.c,b.nv,WQ.nil,λ_=>rfl,b.op⟩
theorem as1{k sz ot:Int}{s:S}{f g a w r:Nat}(hk:tN k f g a w r)(hf:s.gN)(hQ:s.Q=[]):gB k sz ot s=dW k sz ot s:=by
 obtain⟨t,hkk⟩:=anB hk;have h1:=anc hkk (.s []) sz ot s hf;have hs:=hf.sm;rcases hk with h |h |h |h |h |h |h |h<;>obtain⟨rfl,rfl,rfl,_⟩:=h
 .have h2:=SQ (.s []) 1 sz ot s hQ hs
  rw[h1]at h2;simp at h2;exact h2.symm
 .have h2:=SU (.s []) 2 sz ot s hQ hs
  rw[h1]at h2;simp at h2;exact h2.symm
 .have h2:=SR (.s []) 4 sz ot s hQ hs
  rw[h1]at h2;simp at h2;exact h2.symm
 .have h2:=SS (.s []) 5 sz ot s hQ hs
  rw[h1]at h2;simp at h2;exact h2.symm
 .have h2:=M8 (.s []) 6 sz ot s hQ hs
  rw[h1]at h2;simp at h2;exact h2.symm
 .rfl
 .have h2:=SV (.s []) 8 sz ot s hQ hs
  rw[h1]at h2;simp at h2;exact h2.symm
 .have h2:=SX (.s []) 9 sz ot s hQ
  rw[h1]at h2;simp at h2;exact h2.symm
theorem as2{k sz ot:Int}{s:S}{f g a w r:Nat}(hk:tN k f g a w r)(hf:s.gN)(h:dW k sz ot s=0):gB k sz ot (s.ab true).pl=0:=by
 rw[S9 _ _ _ _ rfl,as1 hk (asZ hf) rfl,as0 hk h]
end Go.VS.Sp
namespace Go.VS.Sp
theorem q16{l:List Int}(hd:l.Nodup)(h:∀x∈l,0<=x/\x<16):l.length<=16:=by
 have:=hd.length_le_of_subset (l₂:=[0,1,2,3,4,5,6,7,8,9,10,11,12,13,14,15]) λx hx=>by
  have:=h x hx;simp only[dA,PG,or_false];omega
 simpa using this
theorem GF{Q:List W}(hd:Q.Pairwise λa b=>a.task≠b.task)(h:∀w∈Q,0<=w.task/\w.task<16):Q.length<=16:=by
 have:=q16 (l:=Q.map W.task) (by unfold List.Nodup;rw[Ee];exact hd) λx hx=>by
  obtain⟨w,hw,rfl⟩:=gF.1 hx;exact h w hw
 simpa using this
theorem as3{k sz ot:Int}{s:S}{f g a w r:Nat}(hk:tN k f g a w r)(h6:k≠6)(h:dW k sz ot s=0):s.Q.length<=16:=by
 rcases hk with h1 |h1 |h1 |h1 |h1 |h1 |h1 |h1<;>obtain⟨rfl,_⟩:=h1
 .obtain⟨_,_,_,d⟩:=GC.1 h
  exact GF d.zV λw hw=>by have:=d.all w hw;omega
 .obtain⟨_,b,_⟩:=GA.1 h
  obtain⟨_,b2,_⟩:=R.Jx.1 b.qc;exact GF b2 λw hw=>R.nx ((R.xk.1 b.wc).2 w hw)
 .obtain⟨_,b⟩:=BR.1 h
  exact GF b.tk λw hw=>nx (b.w w hw).v
 .obtain⟨_,b⟩:=BU.1 h
  exact GF b.q.tk λw hw=>nx (b.q.w w hw).1
 .exact absurd rfl h6
 .obtain⟨_,_,_,d,_⟩:=Ae.1 h
  have:=q16 d.nd λx hx=>by
   obtain⟨w,hw,rfl⟩:=gF.1 hx;exact nx (d.val w hw)
  simpa[tks]using this
 .obtain⟨_,b⟩:=BV.1 h
  exact GF b.q.tk λw hw=>nx (b.q.w w hw).1
 .obtain⟨_,b⟩:=DY.1 h
  exact GF b.q.tk λw hw=>nx (b.q.w w hw).1
theorem as4{sz:Int}{s:S}{c:Cl}:(JT sz s c).st.Q.length<=s.Q.length+1:=by
 have hf:∀w,(jN s w).length<=s.Q.length+1:=λw=>Nat.le_succ_of_le (uc _ _)
 unfold JT;split
 .split
  .exact hf _
  .split<;>simp
 .split
  .split
   .split
    .exact hf _
    .simp
   .split
    .exact hf _
    .split<;>simp
  .split<;>simp
def An(x:Option dN)(k sz ot:Int)(s:S)(c:Cl):Prop :=
 (∃e,(e≠0\/cC c=true)/\∃r1 r2 r3 r4 r5 r6 r7 r8 r9 vg vi vk ez:D,x=some (.val (.tu [.d (.ag [r1,r2,r3,r4,r5,r6,r7,r8,r9,vg,vi,vk,ez]),.d (I' e)]) [])) \/
 cC c=false/\∃r:Ry,x=some (.val (.tu [.d (.ag r.row),.d (I' 0)]) [])/\r.st.gN/\dW k sz ot r.st=0/\r.wl.length<=45/\ig k sz ot s (jD k s c r) r.st/\(k=6->r.st.Q.length<=s.Q.length+1)
theorem BY{x:Option dN}{k sz ot:Int}{s:S}{c:Cl}(h:mq x k sz ot s c)(h6:k=6->∀r:Ry,x=some (.val (.tu [.d (.ag r.row),.d (I' 0)]) [])->r.st.Q.length<=s.Q.length+1):An x k sz ot s c:=by
 rcases h with⟨e,he,h⟩ |⟨r,h1,h2,_,h4,h5,JU⟩
 .exact .inl ⟨e,.inl he,h⟩
 .cases hb:cC c
  .exact .inr ⟨hb,r,h1,h2,h4,h5,JU,λh=>h6 h r h1⟩
  .exact .inl ⟨0,.inr hb,_,_,_,_,_,_,_,_,_,_,_,_,_,h1⟩
theorem as5{x:Option dN}{k sz ot e:Int}{s:S}{c:Cl}{r:Ry}(h:qI x e r)(hb:cC c=true):An x k sz ot s c:=by
 rcases h with⟨_,h⟩ |⟨_,h⟩
 .exact .inl ⟨0,.inr hb,_,_,_,_,_,_,_,_,_,_,_,_,_,h⟩
 .obtain⟨r1,r2,r3,r4,r5,r6,r7,r8,r9,vg,vi,vk,ez,h⟩:=h
  exact .inl ⟨e,.inr hb,_,_,_,_,_,_,_,_,_,_,_,_,_,h⟩
theorem as6(nm:D)(sz ot:Int)(s:S)(c:Cl)(hf:s.gN)(gR:s.Q.length<=40)(hc:dW 6 sz ot s=0):An (ev P (.call iM [.d (.ag [nm,I' 6,I' sz,I' ot]),.d (.ag s.row),.d (.ag c.row)] [])) 6 sz ot s c:=by
 refine BY (ar8 nm sz ot s c hf gR) λ_ r h=>?_
 have bS:ev P (.call gr [.d (.ag [nm,I' 6,I' sz,I' ot]),.d (.ag s.row)] [])=some (.val (.d (I' (dW 6 sz ot s))) []):=UZ nm 6 sz ot s hf.sm;rw[hc]at bS;rcases ar3 nm 6 sz ot s c hf bS with⟨_,h1⟩ |⟨h0,e1⟩
 .rw[h1]at h
  simp only[gz,dN.val.injEq,V.tu.injEq,List.cons.injEq,V.d.injEq,D.ag.injEq,xD]at h;rw[<-(asT h).2];exact as4
 .obtain⟨r1,r2,r3,r4,r5,r6,r7,r8,r9,vg,vi,vk,ez,e1⟩:=e1
  rw[e1]at h;simp at h;exact absurd h.2 h0
end Go.VS.Sp
namespace Go.VS.Sp
def rA(n:Nat):List Cp->V
 | []=>.d (.sl 5 true [])
 |L=>.aQ n 0 L.length
def rH(rw:List D):List Cp->List O
 | []=>[.aG 9 true [rw]]
 |L=>[.aG 9 true [rw],.aG 5 true (L.map λx=>x.c.row),.aG 5 true (L.map λx=>x.w.row)]
theorem as7(d2 d5 d13 d41 d42 d43:D)(bX:Bool)(X:List Cp)(rw':List D)(hX:X.length<=100):∀(suf pre M:List Cp),X=pre++suf->M.length+suf.length<=5000 ->
  ev P (.loop 0 [2,5,7,9,10,13,41,42,43,69,70,71] LN [(2,.d d2),(5,.d d5),(7,.loc 0 0 0),(9,rA 1 M),(10,rA 2 M),(13,.d d13),(41,.d d41),(42,.d d42),(43,.d d43),(69,.d (.sl 10 bX (X.map Cp.row))),(70,.d (I' X.length)),(71,.d (I' pre.length))] (rH rw' M)) =
   some (.out (.exit 2) [(2,.d d2),(5,.d d5),(7,.loc 0 0 0),(9,rA 1 (M++suf)),(10,rA 2 (M++suf)),(13,.d d13),(41,.d d41),(42,.d d42),(43,.d d43)] (rH rw' (M++suf))):=by
 intro suf;induction suf with
 |nil =>
  intro pre M h hn;have e:X=pre:=by simpa using h
  subst e;rw[bT]
  conv=>lhs;arg 4;unfold LN
  cases M<;>simp[rA,rH,ak,cut,bt,an,V.aV,aq]
 |cons x suf ih =>
  intro pre M h hn;simp only[gX]at hn;have ih:=ih (pre++[x]) (M++[x]) (by simp[h]) (by simp;omega)
  have hlt:(pre.length:Int)<X.length:=by simp[h];omega
  have hg:X[pre.length]?=some x:=by simp[h]
  have eH:pre.length<100:=by
   have:X.length=pre.length+(suf.length+1):=by simp[h]
   omega
  have hnext:IntKind.i64.wrap ((pre.length:Int)+1)=pre.length+1:=wrap_i64 (by omega) (by omega)
  have e:M++x::suf=(M++[x])++suf:=by simp
  rw[e];generalize hR:(some (dN.out (.exit 2) [(2,V.d d2),(5,V.d d5),(7,V.loc 0 0 0),(9,rA 1 ((M++[x])++suf)),(10,rA 2 ((M++[x])++suf)),(13,V.d d13),(41,V.d d41),(42,V.d d42),(43,V.d d43)] (rH rw' ((M++[x])++suf))):Option dN)=R at *;clear hR;rw[bT]
  conv=>lhs;arg 4;unfold LN
  cases M with
  |nil =>
   have iH:1<=room:=by decide
   simp[rA,rH,Cl.row,Wk.row]at ih;simp[rA,rH,iH,hlt,hg,hnext,Cp.row,Cl.row,Wk.row,aI,az,sub,aD,back,av,aq,ak,cut,bt,an,V.aV,bp,aX,aZ,aM,aN];exact ih
  |cons y M =>
   simp only[gX]at hn;have iH:M.length+1+1<=room:=by unfold room;omega
   simp[rA,rH,Cl.row,Wk.row]at ih;simp[rA,rH,iH,hlt,hg,hnext,Cp.row,Cl.row,Wk.row,aI,az,sub,aD,back,av,aq,ak,cut,bt,an,V.aV,bp,aX,aZ,aM,aN,bk,cG,cz];exact ih
end Go.VS.Sp
namespace Go.VS.Sp
def rG:List Cp->List O
 | []=>[]
 |L=>[.aG 5 true (L.map λx=>x.c.row),.aG 5 true (L.map λx=>x.w.row)]
structure D5(k sz ot:Int)(n:Nat)(s:S)(L:List Cp):Prop where
 f:s.gN
 ck:dW k sz ot s=0
 q:k=6->s.Q.length<=n
 len:L.length<=100*n
 acc:nZ k sz ot (eu k sz).pl (L.map Cp.c) (L.map Cp.w)=some (s.ab true).pl
theorem D5.step{k sz ot:Int}{n:Nat}{s:S}{L:List Cp}(h:D5 k sz ot n s L){c:Cl}{r:Ry}(h1:r.st.gN)(h2:dW k sz ot r.st=0)(h3:(jD k s c r).length<=100)(h4:ig k sz ot s (jD k s c r) r.st)(h5:k=6->r.st.Q.length<=s.Q.length+1):D5 k sz ot (n+1) r.st (L++jD k s c r):=by
 refine⟨h1,h2,λh6=>by have:=h5 h6;have:=h.q h6;omega,by have:=h.len;simp;omega,?_⟩
 rw[asX _ _ _ _ h.acc];have hf:=asZ h.f;have hza:(s.ab true).zn 200:=⟨by have:=hf.h;omega,by have:=hf.b;omega,by have:=hf.q;omega,by have:=hf.c;omega,λc hc=>by have:=hf.l c hc;omega⟩
 rw[Wf (jD k s c r) (s.ab true) 200 hf.wf hza (by omega) asY h4.1,h4.2]
theorem as8(nm:D)(k sz ot:Int)(b:Bool)(l:List Cl){f g a w r':Nat}(hk:tN k f g a w r')(hl:l.length<=30)
  (hA:∀(s:S)(c:Cl),s.gN->s.Q.length<=40->dW k sz ot s=0->An (ev P (.call a [.d (.ag [nm,I' k,I' sz,I' ot]),.d (.ag s.row),.d (.ag c.row)] [])) k sz ot s c):∀(suf pre:List Cl)(s:S)(L:List Cp),l=pre++suf->D5 k sz ot pre.length s L ->
  ∃(s':S)(L':List Cp),D5 k sz ot l.length s' L' /\
  ev P (.loop 0 [2,5,7,9,10,41,42,43] Hy [(2,.d (.ref [nm,I' k,I' sz,I' ot])),(5,.d (.ref [.fn f [] [],.fn g [] [],.fn a [] [],.fn w [] [],.fn r' [] []])),(7,.loc 0 0 0),(9,rA 1 L),(10,rA 2 L),(41,.d (.sl 5 b (l.map Cl.row))),(42,.d (I' l.length)),(43,.d (I' pre.length))] (rH s.row L)) =
   some (.out (.exit 0) [(2,.d (.ref [nm,I' k,I' sz,I' ot])),(9,rA 0 L'),(10,rA 1 L')] (rG L')):=by
 intro suf;induction suf with
 |nil =>
  intro pre s L h hR;have e:l=pre:=by simpa using h
  subst e;refine⟨s,L,hR,?_⟩;rw[bT]
  conv=>lhs;arg 4;unfold Hy
  cases L<;>simp[rA,rH,rG,ak,cut,bt,an,V.aV,aq]
 |cons c suf ih =>
  intro pre s L h hR;have hlt:(pre.length:Int)<l.length:=by simp[h];omega
  have hg:l[pre.length]?=some c:=by simp[h]
  have eH:pre.length<30:=by
   have:l.length=pre.length+(suf.length+1):=by simp[h]
   omega
  have hnext:IntKind.i64.wrap ((pre.length:Int)+1)=pre.length+1:=wrap_i64 (by omega) (by omega)
  have gR:s.Q.length<=40:=by
   by_cases h6:k=6
   .have:=hR.q h6
    omega
   .have:=as3 hk h6 hR.ck
    omega
  have hX:=hA s c.rf hR.f gR hR.ck;have hn:=anw c;have Ak:=anx c;unfold An at hX;rw[anC]at hX;rcases hX with⟨e,he,r1,r2,r3,r4,r5,r6,r7,r8,r9,vg,vi,vk,ez,hX⟩ |⟨hb,r,hX,h1,h2,h3,h4,h5⟩
  .obtain⟨s',L',p1,p2⟩:=ih (pre++[c]) s L (by simp[h]) ⟨hR.f,hR.ck,λh6=>by have:=hR.q h6;simp;omega,by have:=hR.len;simp;omega,hR.acc⟩
   refine⟨s',L',p1,oB ?_ p2⟩;clear p2 ih;refine eqv λR hR=>?_
   rw[bT]
   conv=>lhs;arg 4;unfold Hy
   have Jb:c.rf.row=[I' c.rf.task,I' c.rf.op,I' c.rf.value,I' c.rf.prio,I' c.rf.now]:=rfl;rw[Jb]at hX Ak;simp only[S.row,Cl.row]at hX hn Ak hR⊢;cases Pg:e != 0
   .have hb:cC c=true:=by
     rcases he with he |he
     .simp at Pg;exact absurd Pg he
     .exact he
    rw[hb]at hn;cases L<;>simp[rA,rH]at hR<;>simp[rA,rH,Cl.row,hlt,hg,hnext,hn,Ak,hX,Pg,aI,az,sub,aD,back,av,aq,ak,cut,bt,an,V.aV,bp,aX,aZ,aM,aN]<;>exact hR
   .cases L<;>simp[rA,rH]at hR<;>simp[rA,rH,Cl.row,hlt,hg,hnext,Ak,hX,Pg,aI,az,sub,aD,back,av,aq,ak,cut,bt,an,V.aV,bp,aX,aZ,aM,aN]<;>exact hR
  .have bN:(jD k s c.rf r).length<=100:=by
    unfold jD gy;split<;>split<;>(try split)<;>(try split)<;>simp<;>omega
   have iF:=aqs nm k sz ot s c.rf r (by omega) (by have:=hR.f.c;omega) (by omega)
   obtain⟨s',L',p1,p2⟩:=ih (pre++[c]) r.st (L++jD k s c.rf r) (by simp[h]) (by simpa using hR.step h1 h2 bN h4 h5)
   refine⟨s',L',p1,oB ?_ p2⟩;clear p2 ih;have hLl:=hR.len;have h0:=as7 (.ref [nm,I' k,I' sz,I' ot]) (.ref [.fn f [] [],.fn g [] [],.fn a [] [],.fn w [] [],.fn r' [] []]) (.ref r.row) (.sl 5 b (l.map Cl.row)) (I' l.length) (I' pre.length) (decide (jD k s c.rf r=[])) (jD k s c.rf r) s.row bN (jD k s c.rf r) [] L rfl (by omega)
   simp only[m9]at iF;generalize jD k s c.rf r=X at *;obtain⟨M,hM⟩:∃M,M=L++X:=⟨_,rfl⟩;rw[<-hM]at h0⊢;generalize decide (X=[])=bx at *;obtain⟨XR,Wg⟩:∃XR,XR=X.map Cp.row:=⟨_,rfl⟩;have hXl:X.length=XR.length:=by rw[Wg];simp
   rw[<-Wg]at h0 iF;rw[hXl]at h0;clear Wg hXl hM;have Jb:c.rf.row=[I' c.rf.task,I' c.rf.op,I' c.rf.value,I' c.rf.prio,I' c.rf.now]:=rfl;rw[Jb]at hX Ak iF;rw[hb]at hn;refine eqv λR hR=>?_
   rw[bT]
   conv=>lhs;arg 4;unfold Hy
   simp only[S.row,Cl.row,Ry.row]at hX hn Ak hR iF h0⊢;cases L<;>simp[rA,rH,Cl.row,Wk.row]at h0<;>cases M<;>simp[rA,rH,Cl.row,Wk.row]at h0 hR<;>simp[rA,rH,Cl.row,Wk.row,hlt,hg,hnext,hn,Ak,hX,iF,h0,aI,az,sub,aD,back,av,aq,ak,cut,bt,an,V.aV,bp,aX,aZ,aM,aN]<;>exact hR
end Go.VS.Sp
namespace Go.VS.Sp
theorem as9(nm:D)(sz ot:Int)(s:S)(c:Cl)(hf:s.gN)(gR:s.Q.length<=40)(hc:dW 5 sz ot s=0):An (ev P (.call AI [.d (.ag [nm,I' 5,I' sz,I' ot]),.d (.ag s.row),.d (.ag c.row)] [])) 5 sz ot s c:=by
 cases hb:cC c
 .exact BY (aqK nm sz ot s c hf gR hb) λh=>absurd h (by decide)
 .have bS:ev P (.call oG [.d (.ag [nm,I' 5,I' sz,I' ot]),.d (.ag s.row)] [])=some (.val (.d (I' (dW 5 sz ot s))) []):=OB nm 5 sz ot s hf.sm
  obtain⟨hn,hs⟩:=BU.1 hc;rw[hc]at bS;exact as5 (aqf nm 5 sz ot s c (Ni hn) ⟨hs.lo,hs.hi⟩ hf.qn (by omega) bS) hb
theorem ata(nm:D)(sz ot:Int)(s:S)(c:Cl)(hf:s.gN)(gR:s.Q.length<=40)(hc:dW 8 sz ot s=0):An (ev P (.call AJ [.d (.ag [nm,I' 8,I' sz,I' ot]),.d (.ag s.row),.d (.ag c.row)] [])) 8 sz ot s c:=by
 cases hb:cC c
 .exact BY (aqT nm sz ot s c hf gR hb) λh=>absurd h (by decide)
 .have bS:ev P (.call nU [.d (.ag [nm,I' 8,I' sz,I' ot]),.d (.ag s.row)] [])=some (.val (.d (I' (dW 8 sz ot s))) []):=OC nm 8 sz ot s hf.sm
  obtain⟨hn,hs⟩:=BV.1 hc;obtain⟨h1,h2,h3,h4⟩:=Nj hn;rw[hc]at bS;have hlo:=hs.lo;have hhi:=hs.hi;have Yh:=hs.t0;have oa:=hs.t1;exact as5 (aqp nm 8 sz ot s c (by omega) (by omega) hs.t0 hf.qn (by omega) (λw hw=>by have:=(hs.q.w w hw).2.2.2;omega) bS) hb
theorem atb(nm:D)(sz ot:Int)(s:S)(c:Cl)(hf:s.gN)(gR:s.Q.length<=40):An (ev P (.call yW [.d (.ag [nm,I' 1,I' sz,I' ot]),.d (.ag s.row),.d (.ag c.row)] [])) 1 sz ot s c:=by
 cases hb:cC c
 .exact BY (asd nm sz ot s c hf gR hb) λh=>absurd h (by decide)
 .have hs:=hf.sm
  obtain⟨hn,qn,bn,cn,wn,h,_⟩:=M.OI nm 1 sz ot s.own s.cnt s.time s.hn s.H s.qn s.Q s.bn s.B s.cn (s.C.map K.row) s.cl s.val c.task c.op c.value c.prio c.now hs.h hs.q hs.b (by simpa using hs.c) hf.qn
  exact .inl ⟨_,.inr hb,_,_,_,_,_,_,_,_,_,_,_,_,_,h⟩
theorem D5.atc{k sz ot:Int}{n:Nat}{s:S}{L:List Cp}{f g a w r:Nat}(hk:tN k f g a w r)(hn:fZ k sz ot=0)(h:D5 k sz ot n s L)(hl:¬(1000:Int)<L.length):x7 k sz ot (L.map Cp.c) (L.map Cp.w)=true:=by
 unfold x7;rw[h.acc];simp[hn,as2 hk h.f h.ck];omega
theorem BZ(nm:D)(k sz ot:Int)(b:Bool)(l:List Cl){f g a w r:Nat}(hk:tN k f g a w r)
  (hA:∀(s:S)(c:Cl),s.gN->s.Q.length<=40->dW k sz ot s=0->An (ev P (.call a [.d (.ag [nm,I' k,I' sz,I' ot]),.d (.ag s.row),.d (.ag c.row)] [])) k sz ot s c):
  ev P (.call Em [.d (.ag [nm,I' k,I' sz,I' ot]),.d (.sl 5 b (l.map Cl.row))] [])=some (.val (.d (.b true)) []):=by
 have zu:=anz hk;have hN:=asU hk nm sz ot;rw[au Xu rfl];cases hl:decide ((30:Int)<l.length)
 .unfold qv at hN
  cases hn:fZ k sz ot != 0
  .have hn0:fZ k sz ot=0:=by simpa using hn
   rw[aK hn0]at hN;obtain⟨s',L',hR,wP⟩:=as8 nm k sz ot b l hk (by simp at hl;omega) hA l [] (eu k sz) [] rfl ⟨asV k sz,asW hk hn0,λ_=>by simp[eu],by simp,rfl⟩
   have hok:=hR.atc hk hn0;have hL5:=hR.len;generalize eu k sz=n at *;simp only[S.row,rA,rH,lf]at hN wP;cases L' with
   |nil =>
    have hacc:=Ir nm k sz ot true true [] [] (by simp) (by simp)
    have hok:=hok (by simp)
    simp only[gq]at hok hacc;rw[hok]at hacc;simp[rA,rG]at wP;simp[AP,zu,hN,hn,hn0,hl,wP,hacc,Fm,av,aq,bp,aX,aZ,ak,cut,bt,an,V.aV,aI,az,sub,aD,back,aM,aN]
   |cons y M =>
    have hacc:=Ir nm k sz ot false false ((y::M).map Cp.c) ((y::M).map Cp.w) (by simp at hL5⊢;simp at hl;omega) (by simp at hL5⊢;simp at hl;omega)
    simp[rA,rG]at wP;cases hg:decide ((1000:Int)<(y::M).length)
    .rw[hok (by simpa using hg)]at hacc
     simp only[kB,fT,Function.comp_def]at hacc;have hg:decide ((1000:Int)<(M.length:Int)+1)=false:=by simpa using hg
     simp[AP,zu,hN,hn,hn0,hl,wP,hacc,hg,Fm,av,aq,bp,aX,aZ,ak,cut,bt,an,V.aV,aI,az,sub,aD,back,aM,aN,bk,cG]
    .simp at hg
     simp[AP,zu,hN,hn,hn0,hl,wP,hg,Fm,av,aq,bp,aX,aZ,ak,cut,bt,an,V.aV,aI,az,sub,aD,back,aM,aN,bk,cG]
  .have hn0:¬fZ k sz ot=0:=by simpa using hn
   rw[aE hn0]at hN;simp[AP,ct,zu,hN,hn,hl,Fm,av,aq,bp,aX,aZ,ak,cut,bt,an,V.aV,aI,az,sub,aD,back,aM,aN]
 .simp[AP,zu,hl,Fm,av,aq,bp,aX,aZ,ak,cut,bt,an,V.aV,aI,az,sub,aD,back,aM,aN]
theorem atd(nm:D)(k sz ot:Int)(b:Bool)(l:List Cl)(hk:¬(k=1\/k=2\/k=4\/k=5\/k=6\/k=7\/k=8\/k=9)):
  ev P (.call Em [.d (.ag [nm,I' k,I' sz,I' ot]),.d (.sl 5 b (l.map Cl.row))] [])=some (.val (.d (.b true)) []):=by
 have zu:=anA hk;rw[au Xu rfl];simp[AP,zu,Fm,av,aq]
theorem ate(nm:D)(k sz ot:Int)(b:Bool)(l:List Cl):
  ev P (.call Em [.d (.ag [nm,I' k,I' sz,I' ot]),.d (.sl 5 b (l.map Cl.row))] [])=some (.val (.d (.b true)) []):=by
 by_cases hk:k=1\/k=2\/k=4\/k=5\/k=6\/k=7\/k=8\/k=9
 .rcases hk with rfl |rfl |rfl |rfl |rfl |rfl |rfl |rfl
  .exact BZ nm 1 sz ot b l (.inl ⟨rfl,rfl,rfl,rfl,rfl,rfl⟩) λs c hf gR _=>atb nm sz ot s c hf gR
  .exact BZ nm 2 sz ot b l (.inr (.inl ⟨rfl,rfl,rfl,rfl,rfl,rfl⟩)) λs c hf gR _=>BY (asi nm sz ot s c hf gR) λh=>absurd h (by decide)
  .exact BZ nm 4 sz ot b l (.inr (.inr (.inl ⟨rfl,rfl,rfl,rfl,rfl,rfl⟩))) λs c hf gR _=>BY (aqv nm sz ot s c hf gR) λh=>absurd h (by decide)
  .exact BZ nm 5 sz ot b l (.inr (.inr (.inr (.inl ⟨rfl,rfl,rfl,rfl,rfl,rfl⟩)))) (as9 nm sz ot)
  .exact BZ nm 6 sz ot b l (.inr (.inr (.inr (.inr (.inl ⟨rfl,rfl,rfl,rfl,rfl,rfl⟩))))) (as6 nm sz ot)
  .exact BZ nm 7 sz ot b l (.inr (.inr (.inr (.inr (.inr (.inl ⟨rfl,rfl,rfl,rfl,rfl,rfl⟩)))))) λs c hf gR _=>BY (asS nm sz ot s c hf gR) λh=>absurd h (by decide)
  .exact BZ nm 8 sz ot b l (.inr (.inr (.inr (.inr (.inr (.inr (.inl ⟨rfl,rfl,rfl,rfl,rfl,rfl⟩))))))) (ata nm sz ot)
  .exact BZ nm 9 sz ot b l (.inr (.inr (.inr (.inr (.inr (.inr (.inr ⟨rfl,rfl,rfl,rfl,rfl,rfl⟩))))))) λs c hf gR _=>BY (aqD nm sz ot s c hf gR) λh=>absurd h (by decide)
 .exact atd nm k sz ot b l hk
end Go.VS.Sp
