import Derived.Test.YtjpdopldkeodgaaGreatV12
import Derived.Test.YtjpdopldkeodgaaGreatV11
set_option linter.all false
set_option maxHeartbeats 1000000
namespace Go.VS.M
open Go.VS.Sp
theorem apn{q:List Sp.W}{b:Nat}{a:Sp.W}(h:a∈q.take b):∃k,k<b/\q[k]?=some a:=by
 obtain⟨k,hk⟩:=WJ.1 h;rw[yM]at hk;split at hk
 .exact⟨k,by assumption,hk⟩
 .simp at hk
theorem apo{q:List Sp.W}{b:Nat}{a:Sp.W}(h:a∈q.drop b):∃k,b<=k/\q[k]?=some a:=by
 obtain⟨k,hk⟩:=WJ.1 h;rw[pz]at hk;exact⟨b+k,by omega,hk⟩
theorem apq{own:Int}{q:List Sp.W}{t p:Int}(m:MV own q)(ht:cW t=true)(hp:0<=p/\p<=9)(hw:(q.any λw=>w.task==t)=false)(he:(jc own q t p).e=0):
  MV (jc own q t p).own (jc own q t p).q:=by
 have ht':0<=t/\t<16:=by simpa[cW]using ht
 unfold jc at he⊢;split
 .rename_i h
  have ho:own = -1:=by simpa using h
  have hq:=m.free ho;subst hq;exact⟨.inr ht',λh=>rfl,by simp[sM],by simp,by simp⟩
 .rename_i h
  rw[aE h]at he;have ho:own≠-1:=by simpa using h
  split
  .rename_i h2
   rw[aK h2]at he;simp[zr]at he
  .rename_i h2
   have fM:own≠t:=by simpa using h2
   have apr:q=q.take (gD p q)++q.drop (gD p q):=(Ar ..).symm;have h1:∀a,a∈q.take (gD p q)->p<=a.prio:=λa ha=>by
    obtain⟨k,hk,hka⟩:=apn ha;exact(Jp m.desc hka).1 hk
   have h3:∀a,a∈q.drop (gD p q)->a.prio<=p:=λa ha=>by
    obtain⟨k,hk,hka⟩:=apo ha;have:=Jp (p:=p) m.desc hka;omega
   have hne:∀a,a∈q->a.task≠t:=by simpa using hw
   have hd:=m.desc;unfold sM at hd;rw[apr,oA]at hd;have hs:=m.zV;rw[apr,oA]at hs;refine⟨m.qU,λh=>absurd h ho,?_,?_,?_⟩
   .unfold sM
    show List.Pairwise _ (q.take (gD p q)++_::q.drop (gD p q))
    rw[oA,gI];refine⟨hd.1,⟨λa ha=>h3 a ha,hd.2.1⟩,λa ha b hb=>?_⟩
    rcases dA.1 hb with rfl |hb
    .exact h1 a ha
    .exact hd.2.2 a ha b hb
   .show List.Pairwise _ (q.take (gD p q)++_::q.drop (gD p q))
    rw[oA,gI];refine⟨hs.1,⟨λa ha=>(hne a (mN ha)).symm,hs.2.1⟩,λa ha b hb=>?_⟩
    rcases dA.1 hb with rfl |hb
    .exact hne a (nM ha)
    .exact hs.2.2 a ha b hb
   .intro w hw'
    rcases dc.1 hw' with h |h
    .exact m.all w (nM h)
    .rcases dA.1 h with rfl |h
     .refine⟨rfl,rfl,rfl,λh=>fM h.symm,?_,?_,?_,?_⟩<;>simp<;>omega
     .exact m.all w (mN h)
theorem aps{own:Int}{q:List Sp.W}{t:Int}(m:MV own q)(he:(BF own q t).e=0):MV (BF own q t).own (BF own q t).q:=by
 unfold BF at he⊢;split
 .rename_i h
  rw[aK h]at he;simp[zr]at he
 .cases q with
  |nil=>exact⟨.inl rfl,λ_=>rfl,by simp[sM],by simp,by simp⟩
  |cons w r =>
   have hd:=m.desc;unfold sM at hd;rw[gI]at hd;have hs:=m.zV;rw[gI]at hs;have hw:=m.all w (by simp)
   refine⟨.inr ⟨hw.2.2.2.2.1,hw.2.2.2.2.2.1⟩,λh=>by have:=hw.2.2.2.2.1;simp at h;omega,hd.2,hs.2,λx hx=>?_⟩
   have:=m.all x (by simp[hx])
   have h1:=hs.1 x hx;exact⟨this.1,this.2.1,this.2.2.1,λh=>h1 h.symm,this.2.2.2.2⟩
theorem apt{own:Int}{q:List Sp.W}{t p:Int}(m:MV own q)(ht:cW t=true)(hp:0<=p/\p<=9)(hw:(q.any λw=>w.task==t)=false)(he:(BG own q t p).e=0):
  MV (BG own q t p).own (BG own q t p).q:=by
 unfold BG at he⊢;split
 .exact m
 .rename_i h
  rw[aE h]at he;exact apq m ht hp hw he
theorem apu{own:Int}{q:List Sp.W}{o t p:Int}(m:MV own q)(he:(l9 own q o t p).e=0):MV (l9 own q o t p).own (l9 own q o t p).q:=by
 unfold l9 at he⊢;split
 .rename_i h;rw[aK h]at he;simp[zr]at he
 rename_i h;rw[aE h]at he;split
 .rename_i h;rw[aK h]at he;simp[zr]at he
 rename_i h2;rw[aE h2]at he;have h2':cW t=true/\0<=p/\p<=9:=by simp at h2;exact⟨h2.1.1,h2.1.2,h2.2⟩
 split
 .rename_i h;rw[aK h]at he;simp[zr]at he
 rename_i h3;rw[aE h3]at he;have hw:(q.any λw=>w.task==t)=false:=by simpa using h3
 split
 .rename_i h;rw[aK h]at he
  exact apq m h2'.1 h2'.2 hw he
 rename_i h;rw[aE h]at he;split
 .rename_i h;rw[aK h]at he
  exact apt m h2'.1 h2'.2 hw he
 .rename_i h;rw[aE h]at he
  exact aps m he
end Go.VS.M
namespace Go.VS.Sp
theorem Ae{k sz ot:Int}{s:S}:fN k sz ot s=0↔dQ k sz ot=0/\s.own = -1/\s.uL=false/\Gd sz s.Q s.C:=by
 constructor
 .intro h
  obtain⟨a,b⟩:=aos h;exact⟨a,aoI.1 b⟩
 .rintro⟨a,b⟩
  unfold fN;rw[aK a,aK (aoI.2 b)]
theorem DU{k sz ot:Int}{s:S}{qn cn:Bool}{Q:List W}{C:List K}(h:fN k sz ot s=0)(hg:Gd sz Q C):fN k sz ot {s with qn:=qn,Q:=Q,cn:=cn,C:=C}=0:=by
 rw[Ae]at *;exact⟨h.1,h.2.1,h.2.2.1,hg⟩
theorem lR.snoc{sz:Int}{Q:List W}{C:List K}(h:lR sz Q C){w:W}(hv:dL w=true)(hl:Q.length<=95)(ht:∀x∈Q,x.task≠w.task)(hc:w.case = -1/\(w.op=70/\vZ C w=true\/w.op=68)):lR sz (Q++[w]) C:=by
 refine⟨h.j5,?_,by simp;omega,aox h.nd ht,?_⟩
 .intro x hx
  rw[dc,yL]at hx;rcases hx with hx |rfl
  .exact h.val x hx
  .exact hv
 .intro x hx
  rw[dc,yL]at hx;rcases hx with hx |rfl
  .exact h.cs x hx
  .exact hc
theorem lR.JJ{sz:Int}{Q:List W}{C C':List K}(h:lR sz Q C)(hs:iK sz C')(hm:∀w∈Q,∀c∈C,c.task=w.task->c∈C'):lR sz Q C':=by
 refine⟨hs,h.val,h.len,h.nd,?_⟩;intro w hw;obtain⟨a,b⟩:=h.cs w hw;refine⟨a,?_⟩;rcases b with⟨b,hn⟩ |b
 .refine .inl ⟨b,?_⟩
  obtain⟨⟨c,hc,ht,hl⟩,hv⟩:=(Gx h.j5).1 hn;exact(Gx hs).2 ⟨⟨c,hm w hw c hc ht,ht,hl⟩,hv⟩
 .exact .inr b
theorem apv{sz:Int}{C C':List K}(h:iK sz C)(hs:C'.Sublist C):iK sz C':=⟨h.pw.sublist hs,λc hc=>h.el c (hs.subset hc)⟩
theorem apw{sz:Int}{A B:List K}{c d:K}(h:iK sz (A++c::B))(ht:d.task=c.task)(hd:(d.log.length:Int)<=sz/\d.log.all num=true):iK sz (A++d::B):=by
 have p7:=h.pw;rw[oA,gI]at p7;refine⟨?_,?_⟩
 .rw[oA,gI]
  refine⟨p7.1,⟨λx hx=>by rw[ht];exact p7.2.1.1 x hx,p7.2.1.2⟩,?_⟩
  intro a ha b hb;rcases dA.1 hb with rfl |hb
  .rw[ht];exact p7.2.2 a ha c (by simp)
  .exact p7.2.2 a ha b (by simp[hb])
 .intro x hx
  rw[dc,dA]at hx;rcases hx with hx |rfl |hx
  .exact h.el x (by simp[hx])
  .have:=h.el c (by simp)
   rw[ht];exact⟨this.1,this.2.1,hd⟩
  .exact h.el x (by simp[hx])
theorem apx{C:List K}{t:Int}(h:¬0<=jT C t):∀c∈C,c.task≠t:=by
 rcases M1 C t with⟨_,h2⟩ |⟨i,c,h1,_,_⟩
 .unfold mD at h2
  rw[Kb]at h2;intro c hc e;exact h2 c hc (by simpa using e)
 .exact absurd (by omega) h
theorem apy{sz:Int}{C:List K}{t:Int}(h:iK sz C)(hz:0<=sz)(ht:0<=t/\t<16)(hn:∀c∈C,c.task≠t):iK sz (mj C t):=by
 have hsp:C.take (j4 C t)=C.takeWhile (λc=>decide (c.task<t))/\C.drop (j4 C t)=C.dropWhile (λc=>decide (c.task<t)):=by
  have e:=PN (p:=λc:K=>decide (c.task<t)) (l:=C)
  constructor
  .conv=>lhs;arg 2;rw[<-e]
   exact tZ rfl
  .conv=>lhs;arg 2;rw[<-e]
   exact D6 rfl
 have hA:∀a∈C.take (j4 C t),a.task<t:=by
  rw[hsp.1];intro a ha;have:=yO.1 (List.all_takeWhile (p:=λc:K=>decide (c.task<t)) (l:=C)) a ha
  simpa using this
 have hB:∀b∈C.drop (j4 C t),t<b.task:=by
  rw[hsp.2];intro b hb;cases hd:C.dropWhile (λc=>decide (c.task<t))with
  |nil=>rw[hd]at hb;cases hb
  |cons d D =>
   have hdt:¬d.task<t:=by
    have:=WE (λc:K=>decide (c.task<t)) C
    rw[hd]at this;simpa using this
   have hpd:(d::D).Pairwise (λa b=>a.task<b.task):=by
    rw[<-hd];exact h.pw.sublist (PS _)
   have hdm:d∈C:=(PS (λc:K=>decide (c.task<t))).subset (by rw[hd];simp)
   have hdn:=hn d hdm;rw[hd]at hb;rcases dA.1 hb with rfl |hb
   .omega
   .rw[gI]at hpd
    have:=hpd.1 b hb;omega
 unfold mj;have p7:=h.pw;rw[<-List.take_append_drop (j4 C t) C,oA]at p7;refine⟨?_,?_⟩
 .rw[oA,gI]
  refine⟨p7.1,⟨hB,p7.2.1⟩,?_⟩;intro a ha b hb;rcases dA.1 hb with rfl |hb
  .exact hA a ha
  .exact p7.2.2 a ha b hb
 .intro x hx
  rw[dc,dA]at hx;rcases hx with hx |rfl |hx
  .exact h.el x (nM hx)
  .exact⟨ht.1,ht.2,by simpa using hz,by simp⟩
  .exact h.el x (mN hx)
theorem apz{C:List K}{t:Int}{c:K}(h:c∈C):c∈mj C t:=by
 unfold mj;rw[<-List.take_append_drop (j4 C t) C,dc]at h;rw[dc,dA];rcases h with h |h
 .exact .inl h
 .exact .inr (.inr h)
theorem Gy{k sz ot:Int}(h:dQ k sz ot=0):0<=sz/\sz<=100:=by
 unfold dQ at h;split at h
 .cases h
 .split at h
  .cases h
  .rename_i h2
   simp at h2;omega
theorem apA{t p n:Int}(h:BJ t p n=false):0<=t/\t<16:=by
 unfold BJ at h;simp at h;omega
theorem apB{s:S}{t v p n:Int}(h:jB s t 69 v p n=0):∀c∈s.C,c.task≠t:=by
 apply apx;intro hk;unfold jB at h;split at h
 .cases h
 .split at h
  .cases h
  .split at h
   .cases h
   .split at h
    .cases h
    .split at h
     .cases h
     .rename_i h5
      simp at h5;omega
theorem apC{k sz ot:Int}{s:S}{t op v p n:Int}(hc:fN k sz ot s=0)(he:jB s t op v p n=0)(hq:s.Q.length<=90):fN k sz ot (ap k sz ot s t op v p n).1.st=0:=by
 obtain⟨hm,_,_,hg,nY⟩:=Ae.1 hc;have hfr:=aow he;have hcb:=aor he;unfold ap;simp only[hc,he,B7,GW,dG];by_cases kL:op=69
 .subst kL
  simp only[dH];have hnt:=apB he;refine DU hc ⟨hg.JJ (apy hg.j5 (Gy hm).1 (apA hcb) hnt) (λw _ c hc _=>apz hc),?_⟩
  intro h;exact aoN (nY h) (λc hc=>apz hc) (λw hw _=>.inl hw)
 .simp only[kL,dG]
  by_cases l6:op=71
  .subst l6
   simp only[dH];obtain⟨A,c,B,hS,nX,_⟩:=Gv (Gw he (.inl rfl));have JF:del s.C t=A++B:=by
    have eN:((A.length:Int)).toNat=A.length:=by omega
    unfold del;rw[nX,eN,hS,Ed (by omega)]
    simp
   have OV:c.task=t:=by
    rename_i hk;exact BP hk
   rw[JF];refine DU hc (Vx (hg.JJ (apv hg.j5 (by rw[hS];exact GM (As A) (GN c B))) ?_))
   intro w hw d hd hdt;rw[hS,dc,dA]at hd;rw[dc];rcases hd with hd |rfl |hd
   .exact .inl hd
   .exact absurd (hdt.symm.trans OV) (hfr w hw)
   .exact .inr hd
  .simp only[l6,dG]
   by_cases fu:op=68
   .subst fu
    simp only[dH];have tU:=wOK (v:=v) (op:=68) hcb (by omega) (Vs he)
    cases Gz:(busy s.Q||fl sz s.C s.Q)
    .simp only[eR,dG]
     have hb:busy s.Q=false/\fl sz s.C s.Q=false:=by simpa using Gz
     have hno:∀w∈s.Q,w.op=70:=by
      intro w hw;rcases(hg.cs w hw).2 with⟨h,_⟩ |h
      .exact h
      .exfalso
       have:busy s.Q=true:=rV.2 ⟨w,hw,by simpa using h⟩
       rw[hb.1]at this;cases this
     have hpo:pO s.Q=[]:=by
      unfold pO;rw[List.filter_eq_nil_iff];intro w hw;simp[hno w hw]
     rw[hpo];refine DU hc ⟨⟨OT hg.j5 (aoK _ _) ?_,by simp,by simp,by simp[tks],by simp⟩,by simp⟩
     intro c iF;have h1:=hg.j5.el c iF;unfold gw;cases hw:jo s.Q c.task 70
     .have h2:((c.log.length:Int)==sz&&!jo s.Q c.task 70)=false:=by
       have:=hb.2;unfold fl at this;rw[qL]at this;simpa using this c iF
      rw[hw]at h2;simp at h2;simp only[eR,dG,lT,tY,J0,h1.2.2.2,xA,Vs he,PO,PR,xD];omega
     .simp only[dH]
      exact⟨h1.2.2.1,h1.2.2.2⟩
    .simp only[dH]
     refine DU (cn:=s.cn) (C:=s.C) hc ⟨hg.snoc tU (by omega) hfr ⟨rfl,.inr rfl⟩,?_⟩
     intro _;have hfl:fl sz s.C s.Q=true:=by
      cases hf:fl sz s.C s.Q
      .rw[hf]at Gz
       simp at Gz
       have:busy s.Q=true:=Gz
       unfold busy at this;obtain⟨w,hw,fu⟩:=rV.1 this;have:=nY ⟨w,hw,by simpa using fu⟩
       rw[hf]at this;exact this
      .rfl
     refine aoN hfl (λc hc=>hc) ?_
     intro w hw ho;rw[dc,yL]at hw;rcases hw with hw |rfl
     .exact .inl hw
     .cases ho
   .have fI:op=70:=by have:=Vo he;omega
    subst fI;simp only[fu,dG];obtain⟨A,c,B,hS,nX,hk⟩:=Gv (Gw he (.inr rfl));have OV:=BP hk;have eN:((A.length:Int)).toNat=A.length:=by omega
    have iF:c∈s.C:=DP hk;rw[hk];simp only;have h1:=hg.j5.el c iF;cases iZ:c.log with
    |cons x lg =>
     simp only;have e2:s.C.set (jT s.C t).toNat ⟨c.task,false,lg⟩=A++⟨c.task,false,lg⟩::B:=by rw[nX,eN,hS];exact Vq
     rw[e2];rw[iZ]at h1;refine DU hc (Vx (hg.JJ (apw (c:=c) (by rw[<-hS];exact hg.j5) rfl ?_) ?_))
     .have h2:=h1.2.2.1
      have h3:=h1.2.2.2;simp at h2 h3⊢;exact⟨by omega,h3.2⟩
     .intro w hw d hd hdt
      rw[hS,dc,dA]at hd;rw[dc,dA];rcases hd with hd |rfl |hd
      .exact .inl hd
      .exact absurd (hdt.symm.trans OV) (hfr w hw)
      .exact .inr (.inr hd)
    |nil =>
     simp only;have tU:=wOK (v:=0) (op:=70) hcb (by omega) rfl
     have hn:vZ s.C (W.mk t 70 0 p (-1))=true:=(Gx hg.j5).2 ⟨⟨c,iF,OV,iZ⟩,rfl⟩;have hG:=Vx (qn:=false) (hg.snoc tU (by omega) hfr ⟨rfl,.inl ⟨rfl,hn⟩⟩)
     cases got (cR sz false (s.Q++[W.mk t 70 0 p (-1)]) s.C).wn t with
     |none=>exact DU hc hG
     |some y=>exact DU hc hG
end Go.VS.Sp
namespace Go.VS.Sp
end Go.VS.Sp
namespace Go.VS.Sp
theorem apD{sz:Int}{qn:Bool}{Q:List W}{C:List K}(h:lF Q<0\/fl sz C Q=true):cR sz qn Q C=⟨qn,Q,C,[]⟩:=by
 unfold cR gW;simp only;rw[aK h]
theorem apE(sz:Int):∀(n:Nat)(a:Ad),∀x∈a.wn,x∈(gW sz n a).wn
 | 0,_,_,h=>h
 |n+1,a,x,h=>by
  unfold gW;split
  .exact h
  .split
   .exact h
   .apply apE sz n
    simp only[Ad.step,dc];exact .inl h
theorem apF{l:List cE}{t:Int}(h:got l t=none):∀w∈l,w.task≠t:=by
 rcases CT (p:=λw:cE=>w.task==t) l 0 with⟨_,g0⟩ |⟨i,w,g1,g2,_⟩
 .rw[Kb]at g0
  intro w hw;simpa using g0 w hw
 .exfalso
  have BM:qE l t=(i:Int):=by simpa[qE]using g1
  have e:((i:Int)).toNat=i:=by omega
  unfold got at h;rw[BM,aE (by omega),e,g2]at h
  cases h
theorem apG{sz:Int}{Q:List W}{C:List K}{w:W}(hw:w∈Q)(fI:w.op=70)(h:got (cR sz false Q C).wn w.task=none):cR sz false Q C=⟨false,Q,C,[]⟩:=by
 by_cases hc:lF Q<0\/fl sz C Q=true
 .exact apD hc
 .exfalso
  rcases DL Q with⟨h1,_⟩ |⟨A,B,x,hQ,hp,fu⟩
  .exact hc (.inl (by omega))
  .have e:((A.length:Int)).toNat=A.length:=by omega
   have hg:Q[(lF Q).toNat]?=some x:=by rw[hp,e,hQ];simp
   have e1:Q1 Q=A++B:=by rw[hQ];exact DM (by rw[<-hQ];exact hp)
   have xp:w∈A++B:=by
    rw[hQ,dc,dA]at hw;rw[dc];rcases hw with hw |rfl |hw
    .exact .inl hw
    .rw[fI]at fu;cases fu
    .exact .inr hw
   have hin:(⟨w.task,70,x.value⟩:cE)∈(cR sz false Q C).wn:=by
    unfold cR gW;simp only;rw[aE hc,hg];simp only;apply apE;simp only[Ad.step,e1,dc,dA,mu];right;unfold pW;rw[gF];refine⟨w,pe.2 ⟨xp,by simpa using fI⟩,?_⟩
    simp[OP,fI]
   exact apF h _ hin rfl
theorem apH{k sz ot:Int}{s:S}{t op v p n:Int}(h:(ap k sz ot s t op v p n).2=0):fN k sz ot s=0/\jB s t op v p n=0:=by
 unfold ap at h;by_cases hc:fN k sz ot s=0
 .by_cases he:jB s t op v p n=0
  .exact⟨hc,he⟩
  .simp[hc,he]at h
 .simp[hc]at h
end Go.VS.Sp
namespace Go.VS.Sp
theorem apI{s:S}(h:s.gN):s.wz:=by
 have h1:=h.h;have h2:=h.b;have h3:=h.q;have h4:=h.c;exact⟨by omega,by omega,by omega,by omega,λc hc=>⟨h.wf.k c hc,by have:=h.l c hc;omega⟩,h.qn,h.wf.c⟩
end Go.VS.Sp
namespace Go.VS.Sp
def aW(own:Int)(H:List Int):S:=⟨own,0,0,false,H,false,[],false,[],false,[],false,0⟩
theorem apJ{p:W->Bool}{x:W}:∀{l:List W},x∈l.takeWhile p->p x=true
 | [],h=>by simp at h
 |a::l,h=>by
  rw[oz]at h;split at h
  .rename_i ha
   rcases dA.1 h with rfl |h
   .exact ha
   .exact apJ h
  .simp at h
theorem VH{sz ot own:Int}{H:List Int}(hn:dR 2 2 sz ot=0)(ho:own = -1\/(cW own=true/\H=[]))(h1:∀x∈H,cW x=true)(h2:R.gH H):cU 2 sz ot (aW own H)=true:=by
 have hH:tr none H=true:=(M9 H none).2 ⟨by simp,h2,h1⟩
 unfold cU gB fZ iY iC okW CV aW;rcases ho with rfl |⟨ho,rfl⟩
 .simp[hn,ck,hH]
 .simp[hn,ck,hH,ho]
theorem apK{sz ot now:Int}(hw0:0<=now/\now<=1099511627776){H:List Int}{w:W}(hn:dR 2 2 sz ot=0)(h1:∀x∈H,cW x=true)(h2:R.gH H)(hv:dL w=true)(hop:w.op=53)(apL:w.task∉H):
  dU 2 sz ot (aW (-1) H) ⟨w.task,w.op,w.value,w.prio,now⟩=(aW (-1) (eV w.task H),0,true,0):=by
 have ht:=(nx hv).1;have hr:raw 2 sz ot (aW (-1) H) ⟨w.task,w.op,w.value,w.prio,now⟩=(aW (-1) (eV w.task H),0,true,0):=by
  have e:¬(-1=w.task):=by omega
  unfold raw eW;simp[hop,aW,gd,apL,e]
 rw[tV (VH hn (.inl rfl) h1 h2) (tX hv hw0) (by unfold dD;simp[hop]) (by unfold fit;simp[hop])]
 .exact hr
 .rw[hr]
theorem apM{sz ot now:Int}(hw0:0<=now/\now<=1099511627776){w:W}(hn:dR 2 2 sz ot=0)(hv:dL w=true)(hop:w.op=55):
  dU 2 sz ot (aW (-1) []) ⟨w.task,w.op,w.value,w.prio,now⟩=(aW w.task [],0,true,0):=by
 have ht:=(nx hv).1;have hr:raw 2 sz ot (aW (-1) []) ⟨w.task,w.op,w.value,w.prio,now⟩=(aW w.task [],0,true,0):=by
  have e:¬(-1=w.task):=by omega
  unfold raw eW;simp[hop,aW,gd,e]
 rw[tV (VH hn (.inl rfl) (by simp) List.Pairwise.nil) (tX hv hw0) (by unfold dD;simp[hop]) (by unfold fit;simp[hop])]
 .exact hr
 .rw[hr]
theorem apN{sz ot now:Int}(hw0:0<=now/\now<=1099511627776)(hn:dR 2 2 sz ot=0):∀(L:List W)(H:List Int),(∀w∈L,dL w=true/\w.op=53/\w.task∉H)->L.Pairwise (λa b=>a.task≠b.task)->(∀x∈H,cW x=true)->R.gH H ->
  ∀a:S,a.pl=aW (-1) H->(c9 2 sz ot a (L.map (ou now))).2=true/\(c9 2 sz ot a (L.map (ou now))).1.pl=aW (-1) (R.jd H L)
 | [],H,_,_,_,_,a,ha=>by simp[c9,ha,R.jd]
 |w::r,H,hw,hd,h1,h2,a,ha=>by
  rw[gI]at hd;obtain⟨g1,g2,g3⟩:=hw w (by simp)
  have he:=apK hw0 hn h1 h2 g1 g2 g3;rw[<-ha]at he;rw[fT,mo (x:=ou now w) he rfl rfl (.inl (by simp[ou,g2]))]
  have e:R.jd H (w::r)=R.jd (eV w.task H) r:=rfl;rw[e];have hm:∀x,x∈eV w.task H↔x=w.task\/x∈H:=λx=>R.Gn
  refine apN hw0 hn r (eV w.task H) (λx hx=>?_) hd.2 (λx hx=>?_) (R.OJ h2 g3) _ rfl
  .obtain⟨q1,q2,q3⟩:=hw x (by simp[hx])
   refine⟨q1,q2,λhin=>?_⟩
   rcases(hm _).1 hin with e |e
   .exact hd.1 x hx e.symm
   .exact q3 e
  .rcases(hm _).1 hx with e |e
   .have:=nx g1
    rw[e];unfold cW;simp;omega
   .exact h1 x e
theorem VI:∀{l:List Int}(k:Int),(∀x∈l,k<=x/\x<16)->l.Pairwise (·<·)->l.length<=(16 - k).toNat
 | [],_,_,_=>by simp
 |a::r,k,h,hp=>by
  rw[gI]at hp;have h1:=h a (by simp)
  have:=VI (a+1) (λx hx=>⟨hp.1 x hx,(h x (by simp[hx])).2⟩) hp.2
  simp only[gX];omega
theorem apO{sz ot now:Int}(hw0:0<=now/\now<=1099511627776)(hn:dR 2 2 sz ot=0){own:Int}{H:List Int}{L:List W}(m2:∀x∈H,cW x=true)(m3:R.gH H)(OW:∀w∈L,R.Gp own H w)(hp6:L.Pairwise λa b=>a.task≠b.task):
  (R.jA own H L).2.2.2.Sublist L/\(R.jA own H L).2.2.1.length<=L.length/\∀a:S,a.pl=aW own H->(c9 2 sz ot a ((R.jA own H L).2.2.2.map (ou now))).2=true/\(c9 2 sz ot a ((R.jA own H L).2.2.2.map (ou now))).1.pl=aW (R.jA own H L).1 (R.jA own H L).2.1:=by
 cases L with
 |nil=>exact⟨by simp[R.jA],by simp[R.jA],λa ha=>by simp[c9,R.jA,ha]⟩
 |cons w r =>
  rw[R.Jw];have hw:=OW w (by simp)
  rw[gI]at hp6;split
  .exact⟨by simp,by simp,λa ha=>by simp[c9,ha]⟩
  .rename_i yx
   have ho:own = -1:=vE λh=>yx (.inl h)
   split
   .rename_i lH
    have hH:H=[]:=vE λh=>yx (.inr ⟨lH,h⟩)
    refine⟨by simp,by simp,λa ha=>?_⟩
    have he:=apM (sz:=sz) (ot:=ot) hw0 hn hw.v lH;rw[hH,ho]at ha;rw[<-ha]at he;simp only[WI];rw[mo (x:=ou now w) he rfl rfl (.inl (by simp[ou,lH]))]
    simp[c9,hH];rfl
   .rename_i lH
    have C3:w.op=53:=hw.op.resolve_right lH;have hsub:(w::r.takeWhile λw=>w.op != 55).Sublist (w::r):=(WG _).cons_cons _
    refine⟨hsub,?_,λa ha=>?_⟩
    .have:=(PS (λw:W=>w.op != 55) (l:=r)).length_le
     simp only[gX];omega
    .rw[ho]at ha⊢
     refine apN hw0 hn _ H (λx hx=>?_) ((gI.2 hp6).sublist hsub) m2 m3 _ ha
     have mE:=OW x (hsub.subset hx);refine⟨mE.v,?_,mE.zY⟩;rcases dA.1 hx with rfl |hx
     .exact C3
     .have:=apJ hx
      exact mE.op.resolve_right (by simpa using this)
theorem apP{own:Int}{H:List Int}{Q:List W}(h:R.MV own H Q):H.length<=16:=by
 obtain⟨v1,v2⟩:=R.Ve.1 h.vh;have:=VI 0 (λx hx=>by have:=v1 x hx;unfold R.cW at this;simpa using this) v2
 omega
theorem GA{sz ot:Int}{s:S}:dW 2 sz ot s=0↔dR 2 2 sz ot=0/\R.MV s.own s.H s.Q/\s.cnt=0/\s.time=0/\s.B=[]/\s.C=[]/\s.cl=false/\s.val=0:=by
 have e:dW 2 sz ot s=ck (dR 2 2 sz ot) (OK s):=rfl;have e2:OK s=R.jK s.own s.cnt s.time s.H s.Q s.B (s.C.map K.row) s.cl s.val:=rfl;rw[e,BQ,e2,R.Jq,WK]
end Go.VS.Sp
namespace Go.VS.Sp
end Go.VS.Sp
namespace Go.VS.Sp
structure Ry where
 st:S
 pk:Bool
 v:Int
 ok:Bool
 bw:Bool
 wl:List Wk
def Ry.row(r:Ry):List D:=[I' r.st.own,I' r.st.cnt,I' r.st.time,hD r.st.hn r.st.H,qD r.st.qn r.st.Q,hD r.st.bn r.st.B,cD r.st.cn r.st.C,.b r.st.cl,I' r.st.val,.b r.pk,I' r.v,.b r.ok,.sl 5 r.bw (r.wl.map Wk.row)]
def qI(x:Option dN)(e:Int)(r:Ry):Prop :=
 (e=0/\x=some (.val (.tu [.d (.ag r.row),.d (I' 0)]) []))\/(e≠0/\∃r1 r2 r3 r4 r5 r6 r7 r8 r9 vg vi vk ez:D,x=some (.val (.tu [.d (.ag [r1,r2,r3,r4,r5,r6,r7,r8,r9,vg,vi,vk,ez]),.d (I' e)]) []))
theorem qI.er{x:Option dN}{e:Int}{r:Ry}{r1 r2 r3 r4 r5 r6 r7 r8 r9 vg vi vk ez:D}(he:e≠0)(h:x=some (.val (.tu [.d (.ag [r1,r2,r3,r4,r5,r6,r7,r8,r9,vg,vi,vk,ez]),.d (I' e)]) [])):qI x e r :=
 .inr ⟨he,_,_,_,_,_,_,_,_,_,_,_,_,_,h⟩
theorem apQ(nl:Bool)(Q:List W)(w:W)(h0:ej Q=0)(h1:dL w=true)(h2:Q.length<96):
  ev P (.call Qw [.d (I' 1),.d (qD nl Q),.d (.ag w.row)] [])=some (.val (.tu [.d (qD false (Q++[w])),.d (I' 0)]) []):=by
 have hC:=uI nl Q;rw[h0]at hC;have hv:=Fb w.task w.op w.value w.prio w.case
 rw[W.eta,h1]at hv;have hC:ev P (.call qo [.d (I' 1),.d (qD nl Q)] [])=some (.val (.d (I' 0)) []):=hC;have hL:ev P (.loop 0 [0,1,5,9] RD [(0,.d (I' 1)),(1,.d (qD nl Q)),(5,.d (.ref [I' w.task,I' w.op,I' w.value,I' w.prio,I' w.case])),(9,.d (I' Q.length))] [])=some (.out (.exit 0) [(1,.d (qD nl Q)),(5,.d (.ref [I' w.task,I' w.op,I' w.value,I' w.prio,I' w.case])),(9,.d (I' Q.length))] []):=by
  rw[bT]
  conv=>lhs;arg 4;unfold RD
  simp
 rw[au ad9 rfl];cases Q with
 |nil =>
  have hr:1<=room:=by decide
  simp at hL;simp[L9,W.row,hC,hv,hL,vY,hr]
 |cons a r =>
  simp at h2;have hw:IntKind.i64.wrap ((r.length:Int)+1+1)=r.length+1+1:=wrap_i64 (by omega) (by omega)
  have hr:r.length+1+1<=room:=by unfold room;omega
  have h5:((r.length:Int)+1==96)=false:=by simp;omega
  have h6:(0:Int)<=(r.length:Int)+1+1:=by omega
  have h7:((r.length:Int)+1+1).toNat=r.length+1+1:=by omega
  simp at hL;have h8:(r.length+1+1)*5<=16777216:=by omega
  have h9:(0:Int)<=(r.length:Int)+1:=by omega
  have By:r.length+1<=room:=by omega
  have iz:List.take (r.length+1) (r.map W.row++[[I' w.task,I' w.op,I' w.value,I' w.prio,I' w.case]])=r.map W.row++[[I' w.task,I' w.op,I' w.value,I' w.prio,I' w.case]]:=gE (by simp)
  simp[L9,W.row,hC,hv,hL,hw,hr,By,h8,h9,iz,h5,h6,h7,eK,fO,ak,cut,bt,an,bk,cG,cz,V.aV]
def nL(cnt n:Int)(any:Bool)(Q:List W):Bool:=decide (n<=cnt)&&(any||Q.isEmpty)
theorem apR(s:S)(cnt:Int)(nl:Bool)(Q:List W)(any:Bool)(n:Int)(h0:0<=n/\n<=1000)(hc:0<=cnt/\cnt<=1000):
  ev P (.call KU [.loc 0 0 0,.d (I' n)] [.aG 10 true [kR s cnt (qD nl Q) any]])=some (.val (.d (.b (nL cnt n any Q))) [.aG 10 true [kR s (if nL cnt n any Q=true then cnt - n else cnt) (qD nl Q) any]]):=by
 have hw:IntKind.i64.wrap (cnt - n)=cnt - n:=wrap_i64 (by omega) (by omega)
 rw[au ad8 rfl];unfold nL;by_cases h:n<=cnt
 .have h':¬cnt<n:=by omega
  cases any
  .cases Q with
   |nil=>simp[ER,kR,h,h',hw,aq,av,sub,ak,cut,bt,an]
   |cons a r =>
    have h3:(0:Int)<(r.length:Int)+1:=by omega
    simp[ER,kR,h,h',h3,hw,aq,av,sub,ak,cut,bt,an]
  .simp[ER,kR,h,h',hw,aq,av,sub,ak,cut,bt,an]
 .have h':cnt<n:=by omega
  simp[ER,kR,h,h',av,sub,ak,cut,bt,an]
def cw(c:Cl):W:=⟨c.task,c.op,c.value,c.prio,-1⟩
theorem apS(s:S)(cnt:Int)(nl:Bool)(Q:List W)(any:Bool)(c:Cl)(h0:0<=c.value/\c.value<=1000)(hc:0<=cnt/\cnt<=1000)(hq:ej Q=0)(hl:Q.length<96)(hw:dL (cw c)=true):
  ev P (.call Qv [.rf [.loc 0 0 0],.d (.ref c.row)] [.aG 10 true [kR s cnt (qD nl Q) any]]) =
   if nL cnt c.value any Q=true then some (.val (.d (Gk false true (.sl 5 true []))) [.aG 10 true [kR s (cnt - c.value) (qD nl Q) any]])
   else some (.val (.d (Gk true false (.sl 5 true []))) [.aG 10 true [kR s cnt (qD false (Q++[cw c])) any]]):=by
 have hT:=apR s cnt nl Q any c.value h0 hc;have hP:=apQ nl Q _ hq hw hl;obtain⟨b1,q1,e1⟩:∃b r,qD nl Q = .sl 5 b r:=⟨_,_,rfl⟩;obtain⟨b2,q2,e2⟩:∃b r,qD false (Q++[cw c]) = .sl 5 b r:=⟨_,_,rfl⟩;rw[e1]at hT hP⊢;rw[e2]at hP⊢;simp only[W.row,cw]at hP;unfold kR at hT⊢;rw[au ad7 rfl];generalize nL cnt c.value any Q=b at *;cases b
 .rw[aE (by simp)]at hT⊢
  simp[L8,Cl.row,az,sub,aD,back,hT,hP,av,aq,ak,cut,bt,an,V.aV]
 .rw[aK rfl]at hT⊢
  simp[L8,Cl.row,az,sub,aD,back,hT,av,aq,ak,cut,bt,an,V.aV]
theorem apT(s:S)(cnt:Int)(nl:Bool)(Q:List W)(any:Bool)(c:Cl)(h0:0<=c.value/\c.value<=1000)(hc:0<=cnt/\cnt<=1000):
  ev P (.call Qx [.rf [.loc 0 0 0],.d (.ref c.row)] [.aG 10 true [kR s cnt (qD nl Q) any]]) =
   some (.val (.d (Gk false (nL cnt c.value any Q) (.sl 5 true []))) [.aG 10 true [kR s (if nL cnt c.value any Q=true then cnt - c.value else cnt) (qD nl Q) any]]):=by
 have hT:=apR s cnt nl Q any c.value h0 hc;obtain⟨b1,q1,e1⟩:∃b r,qD nl Q = .sl 5 b r:=⟨_,_,rfl⟩;rw[e1]at hT⊢;unfold kR at hT⊢;rw[au aea rfl];generalize nL cnt c.value any Q=b at *;generalize (if b=true then cnt - c.value else cnt)=n at *
 simp[RE,Cl.row,az,sub,aD,back,hT,av,aq,ak,cut,bt,an,V.aV]
def JK:List W->V
 | []=>.d (Gk false true (.sl 5 true []))
 |_::r=>.ag [.d (I' 0),.d (I' 0),.d (I' 0),.d (.sl 1 true []),.d (.sl 5 true []),.d (.sl 1 true []),.d (.sl 2 true []),.d (.b false),.d (I' 0),.d (.b false),.d (I' 0),.d (.b true),.aQ 1 0 (r.length+1)]
theorem apU(s:S)(cnt:Int)(nl:Bool)(Q:List W)(any:Bool)(c:Cl)(h0:0<=c.value/\c.value<=1000)(hc:0<=cnt/\cnt<=1000)(hq:Q.length<=500):
  ev P (.call Qy [.rf [.loc 0 0 0],.d (.ref c.row)] [.aG 10 true [kR s cnt (qD nl Q) any]]) =
   some (.val (JK (dZ any ⟨false,cnt+c.value,[],[]⟩ Q).G) (.aG 10 true [kR s (dZ any ⟨false,cnt+c.value,[],[]⟩ Q).left (qO (dZ any ⟨false,cnt+c.value,[],[]⟩ Q).O) any]::wH (dZ any ⟨false,cnt+c.value,[],[]⟩ Q).G)):=by
 have hS:=aoW s (cnt+c.value) nl Q any hq (by omega)
 have hw:IntKind.i64.wrap (cnt+c.value)=cnt+c.value:=wrap_i64 (by omega) (by omega)
 generalize dZ any ⟨false,cnt+c.value,[],[]⟩ Q=g at *;obtain⟨st,left,O,G⟩:=g;obtain⟨b1,q1,e1⟩:∃b r,qD nl Q = .sl 5 b r:=⟨_,_,rfl⟩;obtain⟨b2,q2,e2⟩:∃b r,qO O = .sl 5 b r:=⟨_,_,rfl⟩;simp only at hS⊢;rw[e1,e2]at hS;rw[e1,e2];unfold kR at hS⊢;rw[au aeb rfl];cases G with
 |nil =>
  simp[wV,wH]at hS;simp[Ma,Cl.row,JK,wV,wH,hw,hS,aI,az,sub,aD,back,av,aq,ak,cut,bt,an,V.aV,bp,aX,aZ,aM,aN,bk,cG,cz]
 |cons a r =>
  simp[wV,wH,Ab]at hS;simp[Ma,Cl.row,JK,wV,wH,hw,hS,Ab,aI,az,sub,aD,back,av,aq,ak,cut,bt,an,V.aV,bp,aX,aZ,aM,aN,bk,cG,cz]
end Go.VS.Sp
namespace Go.VS.Sp
def DV(sz:Int)(s:S)(c:Cl):Int:=if cC c then 2 else if(c.op != 60&&c.op != 61&&c.op != 62)then 8 else if(decide (c.value<1)||decide (sz<c.value))then 2 else if(gQ s c.task||(c.op==62&&decide (sz<s.cnt+c.value)))then 17 else 0
theorem apW(nm:D)(k sz ot:Int)(s:S)(c:Cl)(hz:sz<=100)(hc:0<=s.cnt/\s.cnt<=sz)(hn:s.Q.length<=1000000):
  ev P (.call Qu [.d (.ag [nm,I' k,I' sz,I' ot]),.d (.ag s.row),.d (.ag c.row)] [])=some (.val (.d (I' (DV sz s c))) []):=by
 obtain⟨i,hF⟩:=p5 s c.task hn;rw[au ad6 rfl];unfold DV;simp only[S.row]at *;cases h1:cC c
 .unfold cC at h1
  cases h2:(c.op != 60&&c.op != 61&&c.op != 62)
  .cases h3:(decide (c.value<1)||decide (sz<c.value))
   .have h3':=h3
    simp at h3';have hw:IntKind.i64.wrap (s.cnt+c.value)=s.cnt+c.value:=wrap_i64 (by omega) (by omega)
    cases h5:gQ s c.task
    .rw[h5]at hF
     cases h4:(c.op==62&&decide (sz<s.cnt+c.value))
     .simp[AS,Cl.row,h1,h2,h3,hF,hw,h4]
     .simp[AS,Cl.row,h1,h2,h3,hF,hw,h4]
    .rw[h5]at hF
     simp[AS,Cl.row,h1,h2,h3,hF]
   .simp[AS,Cl.row,h1,h2,h3]
  .simp[AS,Cl.row,h1,h2]
 .unfold cC at h1
  simp[AS,Cl.row,h1]
def VJ(ot:Int)(s:S)(c:Cl):Ry :=
 if c.op=60 then(if nL s.cnt c.value (ot==1) s.Q=true then⟨{s with cnt:=s.cnt - c.value},false,0,true,true,[]⟩else⟨{s with qn:=false,Q:=s.Q++[cw c]},true,0,false,true,[]⟩)
 else if c.op=61 then⟨{s with cnt:=if nL s.cnt c.value (ot==1) s.Q=true then s.cnt - c.value else s.cnt},false,0,nL s.cnt c.value (ot==1) s.Q,true,[]⟩
 else⟨s.rT (qH ot (s.cnt+c.value) s.Q).left (qH ot (s.cnt+c.value) s.Q).O,false,0,true,decide ((qH ot (s.cnt+c.value) s.Q).G=[]),(qH ot (s.cnt+c.value) s.Q).G.map vf⟩
theorem jh{b:Bool}{a r:Int}(ha:a≠0)(h:(if b=true then a else r)=0):b=false/\r=0:=by
 cases b
 .exact⟨rfl,by simpa using h⟩
 .exact absurd (by simpa using h) ha
set_option maxHeartbeats 4000000 in
theorem apX(nm:D)(k sz ot:Int)(s:S)(c:Cl)(hz:sz<=100)(hc:0<=s.cnt/\s.cnt<=sz)(hq:ej s.Q=0)(hl:s.Q.length<96)(bS:ev P (.call qZ [.d (.ag [nm,I' k,I' sz,I' ot]),.d (.ag s.row)] [])=some (.val (.d (I' 0)) [])):
  qI (ev P (.call AH [.d (.ag [nm,I' k,I' sz,I' ot]),.d (.ag s.row),.d (.ag c.row)] [])) (DV sz s c) (VJ ot s c):=by
 have bN:=apW nm k sz ot s c hz hc (by omega)
 by_cases he:DV sz s c=0
 .refine .inl ⟨he,?_⟩
  rw[he]at bN;unfold DV at he;obtain⟨h1,he⟩:=jh (by decide) he
  obtain⟨h2,he⟩:=jh (by decide) he
  obtain⟨h3,_⟩:=jh (by decide) he
  simp at h3;have hv:0<=c.value/\c.value<=1000:=by omega
  have JL:0<=s.cnt/\s.cnt<=1000:=by omega
  have hop:c.op=60\/c.op=61\/c.op=62:=by simp at h2;omega
  rw[au Sz rfl];unfold VJ;rcases hop with ho |ho |ho
  .have tU:dL (cw c)=true:=by
    unfold cC at h1;simp at h1;unfold dL kI cw;simp;omega
   have a1:=apS s s.cnt s.qn s.Q (ot==1) c hv JL hq hl tU;rw[aK ho];obtain⟨b1,q1,e1⟩:∃b r,qD s.qn s.Q = .sl 5 b r:=⟨_,_,rfl⟩;obtain⟨b2,q2,e2⟩:∃b r,qD false (s.Q++[cw c]) = .sl 5 b r:=⟨_,_,rfl⟩;rw[e1]at a1;rw[e2]at a1;unfold kR at a1;simp only[S.row,e1]at bS bN⊢;generalize nL s.cnt c.value (ot==1) s.Q=b at *;simp only[Cl.row,ho]at *;cases b
   .rw[aE (by simp)]at a1⊢
    simp only[Ry.row,e2];cases hb:ot==1<;>rw[hb]at a1 <;>
    simp[y5,bS,bN,hb,a1,aI,az,sub,aD,back,av,aq,ak,cut,bt,an,V.aV]
   .rw[aK rfl]at a1⊢
    simp only[Ry.row,e1];cases hb:ot==1<;>rw[hb]at a1 <;>
    simp[y5,bS,bN,hb,a1,aI,az,sub,aD,back,av,aq,ak,cut,bt,an,V.aV]
  .have a1:=apT s s.cnt s.qn s.Q (ot==1) c hv JL
   rw[aE (by omega),aK ho]
   obtain⟨b1,q1,e1⟩:∃b r,qD s.qn s.Q = .sl 5 b r:=⟨_,_,rfl⟩;rw[e1]at a1;unfold kR at a1;simp only[S.row,e1]at bS bN⊢;generalize nL s.cnt c.value (ot==1) s.Q=b at *;generalize (if b=true then s.cnt - c.value else s.cnt)=n at *
   simp only[Cl.row,ho,Ry.row,e1]at *;cases hb:ot==1<;>rw[hb]at a1 <;>
   simp[y5,bS,bN,hb,a1,aI,az,sub,aD,back,av,aq,ak,cut,bt,an,V.aV]
  .have a1:=apU s s.cnt s.qn s.Q (ot==1) c hv JL (by omega)
   have eg:dZ (ot==1) ⟨false,s.cnt+c.value,[],[]⟩ s.Q=qH ot (s.cnt+c.value) s.Q:=rfl;rw[eg]at a1;rw[aE (by omega),aE (by omega)]
   generalize qH ot (s.cnt+c.value) s.Q=g at *;obtain⟨st,left,O,G⟩:=g;simp only[S.rT]at *;obtain⟨b1,q1,e1⟩:∃b r,qD s.qn s.Q = .sl 5 b r:=⟨_,_,rfl⟩;obtain⟨b2,q2,e2⟩:∃b r,qD (decide (O=[])) O = .sl 5 b r:=⟨_,_,rfl⟩;have OX:qO O = .sl 5 b2 q2:=e2;rw[e1,OX]at a1;unfold kR at a1;simp only[S.row,e1]at bS bN⊢;simp only[Cl.row,ho,Ry.row,e2]at *;cases hb:ot==1<;>rw[hb]at a1;all_goals
    cases G with
    |nil =>
     simp only[JK,wH]at a1;simp[y5,bS,bN,hb,a1,aI,az,sub,aD,back,av,aq,ak,cut,bt,an,V.aV]
    |cons a r =>
     simp[JK,wH,Ab]at a1;simp[y5,bS,bN,hb,a1,vf,Ab,Wk.row,aI,az,sub,aD,back,av,aq,ak,cut,bt,an,V.aV,bp,aX,aZ,bk,cG,cz]
 .refine .inr ⟨he,?_⟩
  generalize DV sz s c=e at *;have he':(e != 0)=true:=by simpa using he
  have:ev P (.call AH [.d (.ag [nm,I' k,I' sz,I' ot]),.d (.ag s.row),.d (.ag c.row)] [])=some (.val (.tu [.d (.ag oq),.d (I' e)]) []):=by
   rw[au Sz rfl];simp only[S.row,Cl.row]at *;simp[y5,bS,bN,he',av,aq]
  exact⟨_,_,_,_,_,_,_,_,_,_,_,_,_,this⟩
end Go.VS.Sp
namespace Go.VS.Sp
theorem o8{α β:Type}{f:α->β}{Q:List α}{x:β}:List.take (Q.length+1) (Q.map f++[x])=Q.map f++[x]:=gE (by simp)
def Af(v:Int)(w:W):Wk:=⟨w.task,w.op,v,true,-1⟩
def fV:List W->V
 | []=>.d (.sl 5 true [])
 |_::r=>.aQ 2 0 (r.length+1)
def BS(v:Int):List W->List O
 | []=>[]
 |a::r=>[.aG 5 true ((a::r).map λw=>(Af v w).row)]
theorem apY(c z:List D)(v:Int)(Q:List W)(b:Bool)(hQ:Q.length<=500):∀(suf pre:List W),Q=pre++suf ->
  ev P (.loop 0 [1,2,4,5,10,11,12] Mn [(1,.d (I' v)),(2,.loc 0 0 0),(4,.loc 1 0 0),(5,fV pre),(10,.d (qD b Q)),(11,.d (I' Q.length)),(12,.d (I' pre.length))] (.aG 9 true [c]::.aG 13 true [z]::BS v pre)) =
   some (.out (.exit 0) [(1,.d (I' v)),(2,.loc 0 0 0),(4,.loc 1 0 0),(5,fV Q)] (.aG 9 true [c]::.aG 13 true [z]::BS v Q)):=by
 intro suf;induction suf with
 |nil =>
  intro pre hl;have hlen:Q.length=pre.length:=by simp[hl]
  have e:pre=Q:=by simpa using hl.symm
  subst e;rw[bT]
  conv=>lhs;arg 4;unfold Mn
  cases pre<;>simp[fV,BS,aI,az,sub,aD,back,av,aq,ak,cut,bt,an,V.aV,bp,aX,aZ,aM,aN,bk,cG,cz]
 |cons w suf ih =>
  intro pre hl;have hg:Q[pre.length]?=some w:=by simp[hl]
  have hlt:(pre.length:Int)<Q.length:=by simp[hl];omega
  have eH:pre.length<=500:=by omega
  have hnext:IntKind.i64.wrap ((pre.length:Int)+1)=pre.length+1:=wrap_i64 (by omega) (by omega)
  have iH:1<=room:=by decide
  have bD:=ih (pre++[w]) (by simp[hl])
  obtain⟨i,hi⟩:∃i,i=pre.length:=⟨_,rfl⟩;rw[show(pre++[w]).length=i+1 by simp[hi]]at bD
  rw[<-hi]at hg hlt hnext eH⊢;refine oB ?_ bD;clear bD;rw[bT]
  conv=>lhs;arg 4;unfold Mn
  cases pre with
  |nil=>simp[fV,BS,Af,Wk.row,hlt,hg,W.row,hnext,iH,aI,az,sub,aD,back,av,aq,ak,cut,bt,an,V.aV,bp,aX,aZ,aM,aN,bk,cG,cz]
  |cons a r =>
   have h1:r.length+1+1<=room:=by simp at hi;unfold room;omega
   clear hi;simp[fV,BS,Af,Wk.row,hlt,hg,W.row,hnext,iH,h1,aI,az,sub,aD,back,av,aq,ak,cut,bt,an,V.aV,bp,aX,aZ,aM,aN,bk,cG,cz]
theorem apZ(s:S)(v:Int)(hQ:s.Q.length<=500):ev P (.call QO [.d (.ag s.row),.d (I' v)] []) =
  some (.val (.d (.ag (Ry.row ⟨{s with cl:=true,val:=v,qn:=true,Q:=[]},false,0,true,decide (s.Q=[]),s.Q.map (Af v)⟩))) []):=by
 have hL:=apY s.row oq v s.Q s.qn hQ s.Q [] rfl;rw[au aeF rfl];simp only[S.row,fV,BS,lf]at *;generalize hq:s.Q=Q at *;cases Q with
 |nil =>
  simp[fV,BS]at hL;simp[Mo,Ry.row,hL,aI,az,sub,aD,back,av,aq,ak,cut,bt,an,V.aV,bp,aX,aZ,aM,aN]
 |cons a r =>
  simp[fV,BS,Af,Wk.row]at hL;simp[Mo,Ry.row,Af,Wk.row,hL,aI,az,sub,aD,back,av,aq,ak,cut,bt,an,V.aV,bp,aX,aZ,aM,aN,bk,cG,cz]
theorem ap0(s:S)(c:Cl)(hq:s.qn=true->s.Q=[])(hQ:s.Q.length<=500):ev P (.call QS [.d (.ag s.row),.d (.ag c.row)] []) =
  some (.val (.d (.ag (Ry.row (if s.cl=true then⟨s,false,s.val,true,true,[]⟩else⟨{s with qn:=false,Q:=s.Q++[⟨c.task,74,0,c.prio,-1⟩]},true,0,false,true,[]⟩)))) []):=by
 have h0:=w9 s.qn s.Q hq (by omega)
 have hr:1<=room:=by decide
 have lM:s.Q.length+1<=room:=by unfold room;omega
 rw[au aeG rfl];obtain⟨own,cnt,time,hn',H,qn,Q,bn,B,cn,C,cl,val⟩:=s;simp only[S.row,Cl.row]at *;cases cl
 .rw[aE (by simp)]
  cases qn
  .rw[aE (by simp)]at h0
   simp[HL,Ry.row,W.row,h0,hr,lM,o8,aI,az,sub,aD,back,av,aq,ak,cut,bt,an,V.aV,bp,aX,aZ,aM,aN,bk,cG,cz]
  .rw[aK rfl]at h0
   obtain rfl:=hq rfl;simp[HL,Ry.row,W.row,h0,hr,aI,az,sub,aD,back,av,aq,ak,cut,bt,an,V.aV,bp,aX,aZ,aM,aN]
 .rw[aK rfl]
  simp[HL,Ry.row,h0,hr,aI,az,sub,aD,back,av,aq,ak,cut,bt,an,V.aV,bp,aX,aZ,aM,aN]
def VK(s:S)(c:Cl):Int:=if cC c then 2 else if(!(c.op==73)&&c.op != 74)then 8 else if(c.op==73&&!num c.value)then 2 else if(gQ s c.task||(c.op==73&&s.cl))then 17 else 0
def VL(s:S)(c:Cl):Ry :=
 if c.op=73 then⟨{s with cl:=true,val:=c.value,qn:=true,Q:=[]},false,0,true,decide (s.Q=[]),s.Q.map (Af c.value)⟩
 else if s.cl=true then⟨s,false,s.val,true,true,[]⟩else⟨{s with qn:=false,Q:=s.Q++[⟨c.task,74,0,c.prio,-1⟩]},true,0,false,true,[]⟩
theorem ap1(s:S)(t:Int)(hn:s.Q.length<=1000000):ev P (.call K7 [.d (.ag s.row),.d (I' t)] [])=some (.val (.d (.b (gQ s t))) []):=by
 obtain⟨i,hF⟩:=p5 s t hn;rw[au aeE rfl];simp only[S.row]at *;simp[RW,hF]
theorem ap2(nm:D)(k sz ot:Int)(s:S)(c:Cl)(hq:s.qn=true->s.Q=[])(hQ:s.Q.length<=500)(bS:ev P (.call qm [.d (.ag [nm,I' k,I' sz,I' ot]),.d (.ag s.row)] [])=some (.val (.d (I' 0)) [])):
  qI (ev P (.call Cu [.d (.ag [nm,I' k,I' sz,I' ot]),.d (.ag s.row),.d (.ag c.row)] [])) (VK s c) (VL s c):=by
 have hw:=ap1 s c.task (by omega)
 have hc:=apZ s c.value hQ;have ha:=ap0 s c hq hQ;rw[au XI rfl];unfold VK VL;generalize JL:(⟨{s with cl:=true,val:=c.value,qn:=true,Q:=[]},false,0,true,decide (s.Q=[]),s.Q.map (Af c.value)⟩:Ry)=rc at *;generalize hra:(if s.cl=true then(⟨s,false,s.val,true,true,[]⟩:Ry)else⟨{s with qn:=false,Q:=s.Q++[⟨c.task,74,0,c.prio,-1⟩]},true,0,false,true,[]⟩)=ra at *
 clear JL hra;generalize gQ s c.task=b at *;simp only[S.row,Cl.row,Ry.row]at *;generalize bN:s.cl=cl at *;cases h1:cC c
 .rw[aE (by simp)]
  unfold cC at h1;cases h2:(!(c.op==73)&&c.op != 74)
  .rw[aE (by simp)]
   have ho:c.op=73\/c.op=74:=by simp at h2;omega
   rcases ho with ho |ho
   .rw[aK ho]
    cases h4:num c.value<;>cases b<;>cases cl<;>simp[CG,CW,bS,hw,hc,h1,ho,h4,aI,az,sub,aD,back,av,aq,ak,cut,bt,an,V.aV,bp,aX,aZ,aM,aN]<;>first |exact .inl ⟨rfl,rfl⟩ |exact qI.er (by decide) rfl
   .rw[aE (show ¬c.op=73 by omega)]
    rw[ho]at ha;cases b<;>cases cl<;>simp[CG,CW,bS,hw,h1,ho,ha,aI,az,sub,aD,back,av,aq,ak,cut,bt,an,V.aV,bp,aX,aZ,aM,aN]<;>first |exact .inl ⟨rfl,rfl⟩ |exact qI.er (by decide) rfl
  .rw[aK rfl]
   simp[CG,bS,h1,h2,aI,az,sub,aD,back,av,aq,ak,cut,bt,an,V.aV,bp,aX,aZ,aM,aN];exact qI.er (by decide) rfl
 .rw[aK rfl]
  unfold cC at h1;simp[CG,bS,h1,aI,az,sub,aD,back,av,aq,ak,cut,bt,an,V.aV,bp,aX,aZ,aM,aN];exact qI.er (by decide) rfl
end Go.VS.Sp
namespace Go.VS.Sp
theorem ap3(s:S)(t:Int)(hn:s.Q.length<=1000000):ev P (.call KW [.d (.ag s.row),.d (I' t)] [])=some (.val (.d (.b (gQ s t))) []):=by
 obtain⟨i,hF⟩:=p5 s t hn;rw[au aeh rfl];simp only[S.row]at *;simp[RH,hF]
theorem ap4(s:S)(c:Cl):ev P (.call Lf [.d (.ag s.row),.d (.ag c.row)] [])=some (.val (.d (.b (c.op==63))) []):=by
 rw[au aeR rfl];simp[R6,S.row,Cl.row]
theorem ap5(s:S)(c:Cl):ev P (.call Lg [.d (.ag s.row),.d (.ag c.row)] [])=some (.val (.d (.b (decide (0<=c.task)&&decide (c.task<16)))) []):=by
 rw[au aeS rfl];simp[R7,S.row,Cl.row]
theorem ap6(s:S)(c:Cl):ev P (.call Lh [.d (.ag s.row),.d (.ag c.row)] [])=some (.val (.d (.b (decide (0<=c.prio)&&decide (c.prio<=9)))) []):=by
 rw[au aeT rfl];simp[R8,S.row,Cl.row]
theorem ap7(s:S)(c:Cl)(hn:s.Q.length<=1000000):ev P (.call Li [.d (.ag s.row),.d (.ag c.row)] [])=some (.val (.d (.b (!gQ s c.task))) []):=by
 have h:=ap3 s c.task hn;rw[au aeU rfl];simp only[S.row,Cl.row]at *;simp[R9,h]
abbrev bRL:D:=.sl 2 false [[.fn Lf [] [],I' 8],[.fn Lg [] [],I' 2],[.fn Lh [] [],I' 2],[.fn Li [] [],I' 17]]
theorem ap8:ev P (.call Qz [] [])=some (.val (.d bRL) []):=by
 rw[au aee rfl];simp[RF,av]
abbrev Ah(o:List D)(c:Cl)(i:Int):Env:=[(3,.d (.ref o)),(4,.loc 0 0 0),(5,.d (.ref c.row)),(6,.loc 1 0 0),(21,.d bRL),(22,.d (I' 4)),(23,.d (I' i))]
abbrev yF(s:S):List O:=[.aG 9 true [s.row],.aG 13 true [oq]]
def xu(o:List D)(s:S)(c:Cl)(e:Int):Option dN :=
 if e=0 then some (.out (.exit 0) [(3,.d (.ref o)),(4,.loc 0 0 0),(5,.d (.ref c.row)),(6,.loc 1 0 0)] (yF s))else some (.out .ret [(6,.loc 0 0 0),(7,.d (I' e))] [.aG 13 true [oq]])
def OY(s:S)(c:Cl):Int:=if gQ s c.task then 17 else 0
def OZ(s:S)(c:Cl):Int:=if(decide (0<=c.prio)&&decide (c.prio<=9))=false then 2 else OY s c
def O0(s:S)(c:Cl):Int:=if(decide (0<=c.task)&&decide (c.task<16))=false then 2 else OZ s c
def BT(s:S)(c:Cl):Int:=if(c.op==63)=false then 8 else O0 s c
theorem ap9(o:List D)(s:S)(c:Cl)(hn:s.Q.length<=1000000):ev P (.loop 0 [3,4,5,6,21,22,23] q9 (Ah o c 0) (yF s))=xu o s c (BT s c):=by
 have h1:=ap4 s c;have h2:=ap5 s c;have h3:=ap6 s c;have h4:=ap7 s c hn;have w1:IntKind.i64.wrap 1=1:=by decide
 have w2:IntKind.i64.wrap 2=2:=by decide
 have w3:IntKind.i64.wrap 3=3:=by decide
 have w4:IntKind.i64.wrap 4=4:=by decide
 simp only[S.row,Cl.row]at h1 h2 h3 h4;have g4:ev P (.loop 0 [3,4,5,6,21,22,23] q9 (Ah o c 4) (yF s))=xu o s c 0:=by
  unfold xu;rw[aK rfl,bT]
  conv=>lhs;arg 4;unfold q9
  simp[ak,cut,bt,an]
 have g3:ev P (.loop 0 [3,4,5,6,21,22,23] q9 (Ah o c 3) (yF s))=xu o s c (OY s c):=by
  unfold OY;cases hq:gQ s c.task
  .rw[hq]at h4
   rw[aE (by simp)]
   refine oB ?_ g4;rw[bT]
   conv=>lhs;arg 4;unfold q9
   simp[S.row,Cl.row,h4,w4,aI,az,sub,aD,back,av,aq,ak,cut,bt,an];rfl
  .rw[hq]at h4
   rw[aK rfl,bT]
   conv=>lhs;arg 4;unfold q9
   simp[xu,S.row,Cl.row,h4,aI,az,sub,aD,back,av,aq,ak,cut,bt,an]
 have g2:ev P (.loop 0 [3,4,5,6,21,22,23] q9 (Ah o c 2) (yF s))=xu o s c (OZ s c):=by
  unfold OZ;cases hq:(decide (0<=c.prio)&&decide (c.prio<=9))
  .rw[hq]at h3
   rw[aK rfl,bT]
   conv=>lhs;arg 4;unfold q9
   simp[xu,S.row,Cl.row,h3,aI,az,sub,aD,back,av,aq,ak,cut,bt,an]
  .rw[hq]at h3
   rw[aE (by simp)]
   refine oB ?_ g3;rw[bT]
   conv=>lhs;arg 4;unfold q9
   simp[S.row,Cl.row,h3,w3,aI,az,sub,aD,back,av,aq,ak,cut,bt,an];rfl
 have g1:ev P (.loop 0 [3,4,5,6,21,22,23] q9 (Ah o c 1) (yF s))=xu o s c (O0 s c):=by
  unfold O0;cases hq:(decide (0<=c.task)&&decide (c.task<16))
  .rw[hq]at h2
   rw[aK rfl,bT]
   conv=>lhs;arg 4;unfold q9
   simp[xu,S.row,Cl.row,h2,aI,az,sub,aD,back,av,aq,ak,cut,bt,an]
  .rw[hq]at h2
   rw[aE (by simp)]
   refine oB ?_ g2;rw[bT]
   conv=>lhs;arg 4;unfold q9
   simp[S.row,Cl.row,h2,w2,aI,az,sub,aD,back,av,aq,ak,cut,bt,an];rfl
 unfold BT;cases hq:c.op==63
 .rw[hq]at h1
  rw[aK rfl,bT]
  conv=>lhs;arg 4;unfold q9
  simp[xu,S.row,Cl.row,h1,aI,az,sub,aD,back,av,aq,ak,cut,bt,an]
 .rw[hq]at h1
  rw[aE (by simp)]
  refine oB ?_ g1;rw[bT]
  conv=>lhs;arg 4;unfold q9
  simp[S.row,Cl.row,h1,w1,aI,az,sub,aD,back,av,aq,ak,cut,bt,an];rfl
end Go.VS.Sp
namespace Go.VS.Sp
def yG(i:Int)(w:W):Wk:=⟨w.task,63,i,true,-1⟩
abbrev VM(v:Int):O:=.aG 13 true [[I' 0,I' 0,I' 0,.sl 1 true [],.sl 5 true [],.sl 1 true [],.sl 2 true [],.b false,I' 0,.b false,I' v,.b true,.sl 5 true []]]
abbrev O1(v:Int)(i n:Nat):O:=.gK 13 [[.d (I' 0),.d (I' 0),.d (I' 0),.d (.sl 1 true []),.d (.sl 5 true []),.d (.sl 1 true []),.d (.sl 2 true []),.d (.b false),.d (I' 0),.d (.b false),.d (I' v),.d (.b true),.aQ i 0 n]]
def bO(v:Int):List Wk->List O
 | []=>[VM v]
 |a::r=>[O1 v 1 (r.length+1),.aG 5 true ((a::r).map Wk.row)]
abbrev VN:O:=.lp [70,71] HB HC .normal [(11,.loc 1 0 0)]
def bL(v:Int):List Wk->List O
 | []=>[VN,VM v]
 |a::r=>[VN,O1 v 2 (r.length+1),.aG 5 true ((a::r).map Wk.row)]
def bP(v:Int)(x:Wk):List Wk->List O
 | []=>[O1 v 1 1,.aG 5 true [x.row]]
 |a::r=>[O1 v 2 (r.length+1+1),.dead,.aG 5 true ((a::r).map Wk.row++[x.row])]
theorem aqa(v i:Int)(w:W)(wn:List Wk)(hn:wn.length<=1000):
  ev P (.round [70,71] HB HC [.d (I' i),.d (.ag w.row)] [(11,.loc 0 0 0)] (bO v wn))=some (.out .normal [] (bP v (yG i w) wn)):=by
 have hr:1<=room:=by decide
 rw[Qc];cases wn with
 |nil=>simp[HB,HC,Cq,Co,bO,bP,yG,W.row,Wk.row,hr,aI,az,sub,aD,back,av,aq,ak,cut,bt,an,V.aV,bp,aX,aZ,aM,aN,bk,cG,cz]
 |cons a r =>
  have h1:r.length+1+1<=room:=by simp at hn;unfold room;omega
  simp[HB,HC,Cq,Co,bO,bP,yG,W.row,Wk.row,hr,h1,aI,az,sub,aD,back,av,aq,ak,cut,bt,an,V.aV,bp,aX,aZ,aM,aN,bk,cG,cz]
end Go.VS.Sp
namespace Go.VS.Sp
def bws(k:Int):List W->List Wk
 | []=>[]
 |w::r=>yG k w::bws (k+1) r
theorem VO:∀(l:List W)(k:Int),(bws k l).length=l.length
 | [],_=>rfl
 |_::r,k=>by simp[bws,VO r]
theorem aqb(w:W):∀(l:List W)(k:Int),bws k (l++[w])=bws k l++[yG (k+l.length) w]
 | [],k=>by simp[bws]
 |a::r,k=>by
  simp only[rZ,bws,aqb w r,gX]
  have:k+1+(r.length:Int)=k+((r.length+1:Nat):Int):=by omega
  rw[this]
theorem aqc(v:Int)(Q:List W)(b:Bool)(hQ:Q.length<=500):∀(suf pre:List W),Q=pre++suf ->
  ev P (.loop 2 [0,5,6,7] HO [(0,.jj 0),(5,.d (qD b Q)),(6,.d (I' Q.length)),(7,.d (I' pre.length))] (bL v (bws 0 pre)))=some (.out (.exit 0) [] (bL v (bws 0 Q))):=by
 intro suf;induction suf with
 |nil =>
  intro pre hl;have hlen:Q.length=pre.length:=by simp[hl]
  have e:pre=Q:=by simpa using hl.symm
  subst e;rw[bT]
  conv=>lhs;arg 4;unfold HO
  cases bws 0 pre<;>simp[bL,aI,az,sub,aD,back,av,aq,ak,cut,bt,an,V.aV,bp,aX,aZ,aM,aN,bk,cG,cz]
 |cons w suf ih =>
  intro pre hl;have hg:Q[pre.length]?=some w:=by simp[hl]
  have hlt:(pre.length:Int)<Q.length:=by simp[hl];omega
  have eH:pre.length<=500:=by omega
  have hnext:IntKind.i64.wrap ((pre.length:Int)+1)=pre.length+1:=wrap_i64 (by omega) (by omega)
  have bD:=ih (pre++[w]) (by simp[hl])
  rw[aqb,Int.zero_add]at bD;have O2:=VO pre 0;have hr:=aqa v pre.length w (bws 0 pre) (by omega)
  obtain⟨i,hi⟩:∃i,i=pre.length:=⟨_,rfl⟩;rw[show(pre++[w]).length=i+1 by simp[hi]]at bD
  rw[<-hi]at hg hlt hnext eH hr bD⊢;refine oB ?_ bD;clear bD ih;rw[bT]
  conv=>lhs;arg 4;unfold HO
  cases hwn:bws 0 pre with
  |nil =>
   rw[hwn]at hr;simp[bO,bP,yG,W.row,Wk.row]at hr;simp[bL,hlt,hg,hr,yG,W.row,Wk.row,hnext,oE,aI,az,sub,aD,back,av,aq,ak,cut,bt,an,V.aV,bp,aX,aZ,aM,aN,bk,cG,cz]
  |cons a r =>
   rw[hwn]at hr;simp[bO,bP,yG,W.row,Wk.row]at hr;simp[bL,hlt,hg,hr,yG,W.row,Wk.row,hnext,oE,aI,az,sub,aD,back,av,aq,ak,cut,bt,an,V.aV,bp,aX,aZ,aM,aN,bk,cG,cz]
theorem aqd(v:Int)(Q:List W)(b:Bool)(hQ:Q.length<=500):
  ev P (.call Lj [.jj 0,.d (.ref [qD b Q])] (bL v []))=some (.val (.tu []) (bL v (bws 0 Q))):=by
 have hL:=aqc v Q b hQ Q [] rfl;rw[au aeV rfl];have hL:ev P (.loop 2 [0,5,6,7] HO [(0,.jj 0),(5,.d (qD b Q)),(6,.d (I' Q.length)),(7,.d (I' 0))] [VN,VM v])=some (.out (.exit 0) [] (bL v (bws 0 Q))):=hL;cases hwn:bws 0 Q with
 |nil =>
  rw[hwn]at hL;simp only[bL]at hL;simp[Mw,bL,hL,aI,az,sub,aD,back,av,aq,ak,cut,bt,an,V.aV,bp,aX,aZ,aM,aN]
 |cons a r =>
  rw[hwn]at hL;simp only[bL]at hL;simp[Mw,bL,hL,aI,az,sub,aD,back,av,aq,ak,cut,bt,an,V.aV,bp,aX,aZ,aM,aN]
theorem aqe(b:Bool)(Q:List W):ev P (.call QB [.d (qD b Q)] [])=some (.val (.d (.fn Lj [] [.ref [qD b Q]])) []):=by
 rw[au aeg rfl];simp[RG,av,ak,cut,bt,an]
def O3(sz:Int)(s:S)(c:Cl):Int:=if BT s c≠0 then BT s c else if ¬((s.Q.length:Int)+1<sz)/\s.cnt=1099511627776 then 4 else 0
def O4(sz:Int)(s:S)(c:Cl):Ry :=
 if(s.Q.length:Int)+1<sz then⟨{s with qn:=false,Q:=s.Q++[⟨c.task,c.op,0,c.prio,-1⟩]},true,0,false,true,[]⟩
 else⟨{s with qn:=true,Q:=[],cnt:=s.cnt+1},false,sz - 1,true,decide (s.Q=[]),bws 0 s.Q⟩
theorem aqf(nm:D)(k sz ot:Int)(s:S)(c:Cl)(hz:1<=sz/\sz<=100)(hc:0<=s.cnt/\s.cnt<=1099511627776)(hq:s.qn=true->s.Q=[])(hQ:s.Q.length<=500)(bS:ev P (.call oG [.d (.ag [nm,I' k,I' sz,I' ot]),.d (.ag s.row)] [])=some (.val (.d (I' 0)) [])):
  qI (ev P (.call AI [.d (.ag [nm,I' k,I' sz,I' ot]),.d (.ag s.row),.d (.ag c.row)] [])) (O3 sz s c) (O4 sz s c):=by
 have hR:=ap8;have hL:=ap9 [nm,I' k,I' sz,I' ot] s c (by omega)
 unfold xu at hL;have hw:IntKind.i64.wrap ((s.Q.length:Int)+1)=s.Q.length+1:=wrap_i64 (by omega) (by omega)
 rw[au XD rfl];unfold O3;by_cases he:BT s c=0
 .rw[aE (by simpa using he)]
  rw[aK he]at hL;by_cases hlt:(s.Q.length:Int)+1<sz
  .rw[aE (λh=>h.1 hlt)]
   refine .inl ⟨rfl,?_⟩;unfold O4;rw[aK hlt];have h0:=w9 s.qn s.Q hq (by omega)
   have hr:1<=room:=by decide
   have lM:s.Q.length+1<=room:=by unfold room;omega
   obtain⟨own,cnt,time,hn',H,qn,Q,bn,B,cn,C,cl,val⟩:=s;simp only[yF,Ah,S.row,Cl.row,Ry.row]at *;cases qn
   .rw[aE (by simp)]at h0
    simp only[qD]at *;simp[y6,bS,hR,hL,hw,hlt,h0,hr,lM,o8,W.row,aI,az,sub,aD,back,av,aq,ak,cut,bt,an,V.aV,bp,aX,aZ,aM,aN,bk,cG,cz]
   .rw[aK rfl]at h0
    obtain rfl:=hq rfl;simp only[qD,gq]at *;simp at hlt;have w11:IntKind.i64.wrap 1=1:=by decide
    simp[y6,bS,hR,hL,w11,hlt,h0,hr,lM,o8,W.row,aI,az,sub,aD,back,av,aq,ak,cut,bt,an,V.aV,bp,aX,aZ,aM,aN,bk,cG,cz]
  .by_cases yq:s.cnt=1099511627776
   .rw[aK ⟨hlt,yq⟩]
    simp only[yF,Ah,S.row,Cl.row]at *;have O5:(s.cnt==1099511627776)=true:=by simpa using yq
    simp[y6,bS,hR,hL,hw,hlt,O5,aI,az,sub,aD,back,av,aq,ak,cut,bt,an,V.aV,bp,aX,aZ,aM,aN];exact qI.er (by decide) rfl
   .rw[aE (λh=>yq h.2)]
    refine .inl ⟨rfl,?_⟩;unfold O4;rw[aE hlt];have hN:=aqd (sz - 1) s.Q s.qn hQ;have hd:=aqe s.qn s.Q;have O5:(s.cnt==1099511627776)=false:=by simpa using yq
    have w1:IntKind.i64.wrap (sz - 1)=sz - 1:=wrap_i64 (by omega) (by omega)
    have w2:IntKind.i64.wrap (s.cnt+1)=s.cnt+1:=wrap_i64 (by omega) (by omega)
    have IG:decide (s.Q=[])=decide (bws 0 s.Q=[]):=by cases s.Q<;>simp[bws]
    rw[IG];simp only[yF,Ah,S.row,Cl.row,Ry.row]at *;generalize bws 0 s.Q=wn at *;cases wn with
    |nil =>
     simp only[bL]at hN;simp[y6,bS,hR,hL,hw,hlt,O5,hN,hd,w1,w2,aI,az,sub,aD,back,av,aq,ak,cut,bt,an,V.aV,bp,aX,aZ,aM,aN]
    |cons a r =>
     simp only[bL]at hN;simp[y6,bS,hR,hL,hw,hlt,O5,hN,hd,w1,w2,aI,az,sub,aD,back,av,aq,ak,cut,bt,an,V.aV,bp,aX,aZ,aM,aN,bk,cG,cz]
 .rw[aK he]
  rw[aE he]at hL;simp only[yF,Ah,S.row,Cl.row]at *;simp[y6,bS,hR,hL,aI,az,sub,aD,back,av,aq,ak,cut,bt,an,V.aV,bp,aX,aZ,aM,aN];exact qI.er he rfl
end Go.VS.Sp
namespace Go.VS.Sp
theorem aqg(q:List W)(hn:q.length<=1000000):
  ev P (.call QA [.d (.sl 5 false (q.map W.row))] [])=some (.val (.d (.sl 5 false (q.map W.row))) []):=by
 have hr:q.length<=room:=by unfold room;omega
 rw[au aef rfl];cases q with
 |nil=>simp[Md,qp,eK,fO,ak,cut,av]
 |cons a r =>
  simp at hr;simp[Md,qp,eK,fO,ak,cut,hr,av,bk]
def o9(w:W):Wk:=⟨w.task,72,0,true,-1⟩
def fj:List W->Int->List W×Int×List W
 | [],n=>([],n,[])
 |w::r,n=>if w.value<=n then((fj r (n - w.value)).1,(fj r (n - w.value)).2.1,w::(fj r (n - w.value)).2.2)else(w::r,n,[])
abbrev lpL:O:=.lp [32,33] HD HE .normal [(4,.loc 2 0 0),(10,.loc 3 0 0)]
abbrev O6(i n:Nat):O:=.gK 13 [[.d (I' 0),.d (I' 0),.d (I' 0),.d (.sl 1 true []),.d (.sl 5 true []),.d (.sl 1 true []),.d (.sl 2 true []),.d (.b false),.d (I' 0),.d (.b false),.d (I' 0),.d (.b false),.aQ i 0 n]]
def lO(u:List D):List Wk->List O
 | []=>[.aG 9 true [u],.aG 13 true [oq]]
 |a::r=>[.aG 9 true [u],O6 2 (r.length+1),.aG 5 true ((a::r).map Wk.row)]
def lL(t u:List D):List Wk->List O
 | []=>[lpL,.aG 9 true [t],.aG 9 true [u],.aG 13 true [oq]]
 |a::r=>[lpL,.aG 9 true [t],.aG 9 true [u],O6 4 (r.length+1),.aG 5 true ((a::r).map Wk.row)]
def lP(u:List D)(x:Wk):List Wk->List O
 | []=>[.aG 9 true [u],O6 2 1,.aG 5 true [x.row]]
 |a::r=>[.aG 9 true [u],O6 3 (r.length+1+1),.dead,.aG 5 true ((a::r).map Wk.row++[x.row])]
theorem aqh(w:W)(t u:S)(wn:List Wk)(hn:wn.length<=1000):
  ev P (.round [32,33] HD HE [.d (.ag w.row),.d (.ag t.row)] [(4,.loc 0 0 0),(10,.loc 1 0 0)] (lO u.row wn))=some (.out .normal [] (lP t.row (o9 w) wn)):=by
 have hr:1<=room:=by decide
 rw[Qc];cases wn with
 |nil=>simp[HD,HE,Cq,Co,lO,lP,o9,S.row,W.row,Wk.row,hr,aI,az,sub,aD,back,av,aq,ak,cut,bt,an,V.aV,bp,aX,aZ,aM,aN,bk,cG,cz]
 |cons a r =>
  have h1:r.length+1+1<=room:=by simp at hn;unfold room;omega
  simp[HD,HE,Cq,Co,lO,lP,o9,S.row,W.row,Wk.row,hr,h1,aI,az,sub,aD,back,av,aq,ak,cut,bt,an,V.aV,bp,aX,aZ,aM,aN,bk,cG,cz]
def S.lt(t:S)(Q:List W)(n:Int):S:={t with Q:=Q,cnt:=n}
theorem aqi(t:S):∀(Q:List W)(n:Int)(wn:List Wk),(t.qn=true->Q=[])->0<=n/\n<=1000->(∀w∈Q,0<=w.value/\w.value<=1000)->wn.length+Q.length<=500 ->
  ev P (.loop 4 [0,1] HP [(0,.jj 0),(1,.loc 1 0 0)] (lL (t.lt Q n).row (t.lt Q n).row wn)) =
   some (.out (.exit 0) [] (lL (t.lt (fj Q n).1 (fj Q n).2.1).row (t.lt (fj Q n).1 (fj Q n).2.1).row (wn++(fj Q n).2.2.map o9)))
 | [],n,wn,_,_,_,_=>by
  rw[bT]
  conv=>lhs;arg 4;unfold HP
  cases wn<;>simp[fj,lL,S.lt,S.row,aI,az,sub,aD,back,av,aq,ak,cut,bt,an,V.aV,bp,aX,aZ,aM,aN]
 |w::r,n,wn,hq,hn,hv,hl=>by
  have yC:t.qn=false:=by
   cases h:t.qn
   .rfl
   .have:=hq h;simp at this
  have hlen:(0:Int)<(r.length:Int)+1:=by omega
  have sC:(1:Int)<=(r.length:Int)+1:=by omega
  have hw:=hv w (by simp)
  unfold fj;by_cases hle:w.value<=n
  .have bD:=aqi t r (n - w.value) (wn++[o9 w]) (λh=>by rw[yC]at h;cases h) (by omega) (λx hx=>hv x (by simp[hx])) (by simp at hl⊢;omega)
   rw[aK hle];simp only[fT];rw[show wn++o9 w::(fj r (n - w.value)).2.2.map o9=(wn++[o9 w])++(fj r (n - w.value)).2.2.map o9 by simp]
   refine oB ?_ bD;clear bD;have hc:=aqg r (by simp at hl;omega)
   have jq:IntKind.i64.wrap (n - w.value)=n - w.value:=wrap_i64 (by omega) (by omega)
   have hR:=aqh w (t.lt r (n - w.value)) (t.lt (w::r) n) wn (by omega)
   rw[bT]
   conv=>lhs;arg 4;unfold HP
   cases wn with
   |nil =>
    simp[lO,lP,o9,S.lt,S.row,W.row,Wk.row,yC]at hR;simp[lL,o9,S.lt,S.row,W.row,Wk.row,yC,hR,hc,hle,hlen,sC,jq,oE,aI,az,sub,aD,back,av,aq,ak,cut,bt,an,V.aV,bp,aX,aZ,aM,aN,bk,cG,cz]
   |cons a wn =>
    simp[lO,lP,o9,S.lt,S.row,W.row,Wk.row,yC]at hR;simp[lL,o9,S.lt,S.row,W.row,Wk.row,yC,hR,hc,hle,hlen,sC,jq,oE,aI,az,sub,aD,back,av,aq,ak,cut,bt,an,V.aV,bp,aX,aZ,aM,aN,bk,cG,cz]
  .rw[aE hle]
   rw[bT]
   conv=>lhs;arg 4;unfold HP
   cases wn<;>simp[lL,S.lt,S.row,W.row,yC,hle,hlen,aI,az,sub,aD,back,av,aq,ak,cut,bt,an,V.aV,bp,aX,aZ,aM,aN]
end Go.VS.Sp
namespace Go.VS.Sp
theorem aqj(s:S)(t:Int)(hn:s.Q.length<=1000000):ev P (.call K4 [.d (.ag s.row),.d (I' t)] [])=some (.val (.d (.b (gQ s t))) []):=by
 obtain⟨i,hF⟩:=p5 s t hn;rw[au aeC rfl];simp only[S.row]at *;simp[RT,hF]
def Ai(sz:Int)(c:Cl):Bool:=decide (c.task<0)||decide (16<=c.task)||decide (c.prio<0)||decide (9<c.prio)||decide (c.value<1)||decide (sz<c.value)
def DW(sz:Int)(s:S)(c:Cl):Int:=if(c.op != 72&&c.op != 75)then 8 else if(decide (c.now<s.time)||decide (1099511627776<c.now))then 2 else if c.op==75 then 0 else if Ai sz c then 2 else if gQ s c.task then 17 else 0
theorem aqk(nm:D)(k sz ot:Int)(s:S)(c:Cl)(hn:s.Q.length<=1000000)(bS:ev P (.call nU [.d (.ag [nm,I' k,I' sz,I' ot]),.d (.ag s.row)] [])=some (.val (.d (I' 0)) [])):
  ev P (.call K3 [.d (.ag [nm,I' k,I' sz,I' ot]),.d (.ag s.row),.d (.ag c.row)] [])=some (.val (.d (I' (DW sz s c))) []):=by
 have hw:=aqj s c.task hn;rw[au XW rfl];unfold DW;simp only[S.row,Cl.row]at *;cases h1:(c.op != 72&&c.op != 75)
 .rw[aE (by simp)]
  cases h2:(decide (c.now<s.time)||decide (1099511627776<c.now))
  .rw[aE (by simp)]
   have ho:c.op=72\/c.op=75:=by simp at h1;omega
   rcases ho with ho |ho
   .cases h3:Ai sz c<;>unfold Ai at h3
    .cases h4:gQ s c.task<;>rw[h4]at hw<;>simp[AW,bS,h1,h2,ho,h3,hw]
    .simp[AW,bS,h1,h2,ho,h3]
   .simp[AW,bS,h2,ho]
  .rw[aK rfl]
   simp[AW,bS,h1,h2]
 .rw[aK rfl]
  simp[AW,bS,h1]
theorem aql(nm:D)(k sz ot now:Int)(s:S)(h1:0<=s.time/\s.time<=now/\now<=1099511627776)(h2:1<=ot/\ot<=1099511627776)(h3:0<=s.cnt/\s.cnt<=sz/\sz<=100):
  ev P (.call QM [.d (.ag (nm::I' k::I' sz::I' ot::s.row)),.d (I' now)] [])=some (.val (.d (.ag (tM sz ot now s).row)) []):=by
 rw[au aeA rfl];obtain⟨k0,k1,k2⟩:=Ik (a:=now - s.time) (b:=ot) (by omega) h2.1
 have lG:¬ot=0:=by omega
 have w0:IntKind.i64.wrap (now - s.time)=now - s.time:=wrap_i64 (by omega) (by omega)
 have ht:(now - s.time).tdiv ot=(now - s.time) / ot:=Wp (by omega)
 unfold tM;generalize hkk:(now - s.time) / ot=q at *;have w1:IntKind.i64.wrap q=q:=wrap_i64 (by omega) (by omega)
 have w3:IntKind.i64.wrap (s.cnt+q)=s.cnt+q:=wrap_i64 (by omega) (by omega)
 have h0q:0<=q*ot:=GJ k0 (by omega)
 have w4:IntKind.i64.wrap (q*ot)=q*ot:=wrap_i64 (by omega) (by omega)
 have w5:IntKind.i64.wrap (s.time+q*ot)=s.time+q*ot:=wrap_i64 (by omega) (by omega)
 by_cases h:sz<=s.cnt+q
 .rw[aK h]
  simp only[S.row]at *;simp[Mm,lG,w0,ht,w1,w3,w4,w5,h,aI,az,sub,aD,back,av,aq,ak,cut,bt,an,V.aV,bp,aX,aZ,aM,aN]
 .rw[aE h]
  simp only[S.row]at *;simp[Mm,lG,w0,ht,w1,w3,w4,w5,h,aI,az,sub,aD,back,av,aq,ak,cut,bt,an,V.aV,bp,aX,aZ,aM,aN]
theorem aqm(s:S):
  ev P (.call QN [.d (.ag s.row)] [])=some (.val (.fn Lq [] [.loc 0 0 0]) [.aG 9 true [s.row]]):=by
 rw[au aeB rfl];simp only[S.row]at *;simp[RS,aI,az,sub,aD,back,av,aq,ak,cut,bt,an,V.aV,bp,aX,aZ,aM,aN]
theorem aqn(t:S)(hq:t.qn=true->t.Q=[])(hn:0<=t.cnt/\t.cnt<=1000)(hv:∀w∈t.Q,0<=w.value/\w.value<=1000)(hl:t.Q.length<=500):
  ev P (.call Lq [.jj 0,.loc 1 0 0] (lL t.row t.row []))=some (.val (.tu []) (lL (t.lt (fj t.Q t.cnt).1 (fj t.Q t.cnt).2.1).row (t.lt (fj t.Q t.cnt).1 (fj t.Q t.cnt).2.1).row ((fj t.Q t.cnt).2.2.map o9))):=by
 have hL:=aqi t t.Q t.cnt [] hq hn hv (by simpa using hl)
 have e:t.lt t.Q t.cnt=t:=rfl;rw[e]at hL;rw[au ae8 rfl];simp only[mu]at hL;generalize (fj t.Q t.cnt).2.2.map o9=wn at *;generalize t.lt (fj t.Q t.cnt).1 (fj t.Q t.cnt).2.1=u at *;cases wn<;>simp only[lL,S.row]at hL<;>simp[Sj,lL,S.row,hL,aI,az,sub,aD,back,av,aq,ak,cut,bt,an,V.aV,bp,aX,aZ,aM,aN]
def nJ(t:S):S:=t.lt (fj t.Q t.cnt).1 (fj t.Q t.cnt).2.1
def JM(t:S):List Wk:=(fj t.Q t.cnt).2.2.map o9
def VP(t:S)(wn:List Wk)(c:Cl):Ry :=
 if c.op=75 then⟨t,false,0,true,decide (wn=[]),wn⟩
 else if t.Q=[]/\c.value<=t.cnt then⟨{t with cnt:=t.cnt - c.value},false,0,true,decide (wn=[]),wn⟩
 else⟨{t with qn:=false,Q:=t.Q++[⟨c.task,72,c.value,c.prio,-1⟩]},true,0,false,decide (wn=[]),wn⟩
def VQ(sz ot:Int)(s:S)(c:Cl):Ry:=VP (nJ (tM sz ot c.now s)) (JM (tM sz ot c.now s)) c
theorem aqo:∀(Q:List W)(n:Int),0<=n->(∀w∈Q,0<=w.value)->0<=(fj Q n).2.1/\(fj Q n).2.1<=n/\(fj Q n).1.length<=Q.length
 | [],n,h,_=>by simp[fj];omega
 |w::r,n,h,hv=>by
  unfold fj;have:=hv w (by simp)
  split
  .have:=aqo r (n - w.value) (by omega) λx hx=>hv x (by simp[hx])
   simp only[gX];omega
  .simp only;omega
theorem aqp(nm:D)(k sz ot:Int)(s:S)(c:Cl)(h2:1<=ot/\ot<=1099511627776)(h3:0<=s.cnt/\s.cnt<=sz/\sz<=100)(h1:0<=s.time)(hq:s.qn=true->s.Q=[])(hQ:s.Q.length<=500)(hv:∀w∈s.Q,0<=w.value/\w.value<=1000)
  (bS:ev P (.call nU [.d (.ag [nm,I' k,I' sz,I' ot]),.d (.ag s.row)] [])=some (.val (.d (I' 0)) [])):
  qI (ev P (.call AJ [.d (.ag [nm,I' k,I' sz,I' ot]),.d (.ag s.row),.d (.ag c.row)] [])) (DW sz s c) (VQ sz ot s c):=by
 have hc:=aqk nm k sz ot s c (by omega) bS
 rw[au XG rfl];by_cases he:DW sz s c=0
 .refine .inl ⟨he,?_⟩
  rw[he]at hc;unfold DW at he;obtain⟨e1,he⟩:=jh (by decide) he
  obtain⟨e2,he⟩:=jh (by decide) he
  simp at e1 e2;have hr:=aql nm k sz ot c.now s ⟨h1,by omega,by omega⟩ h2 h3
  unfold VQ;have ht:(tM sz ot c.now s).Q=s.Q/\(tM sz ot c.now s).qn=s.qn/\0<=(tM sz ot c.now s).cnt/\(tM sz ot c.now s).cnt<=sz:=by
   obtain⟨k0,-,-⟩:=Ik (a:=c.now - s.time) (b:=ot) (by omega) h2.1
   unfold tM;split
   .exact⟨rfl,rfl,by simp only;omega⟩
   .exact⟨rfl,rfl,by simp only;omega⟩
  generalize tM sz ot c.now s=t at *;obtain⟨t1,t2,t3⟩:=ht;have hs:=aqm t;have hy:=aqn t (by rw[t1,t2];exact hq) (by omega) (by rw[t1];exact hv) (by rw[t1];omega)
  have hb:=aqo t.Q t.cnt (by omega) (by rw[t1];exact λw hw=>(hv w hw).1)
  have hu:(nJ t).Q.length<=500/\0<=(nJ t).cnt/\(nJ t).cnt<=sz/\((nJ t).qn=true->(nJ t).Q=[]):=by
   rw[t1]at hb;refine⟨?_,?_,?_,λh=>?_⟩
   .unfold nJ S.lt;simp only;rw[t1];omega
   .unfold nJ S.lt;simp only;rw[t1];omega
   .unfold nJ S.lt;simp only;rw[t1];omega
   .have:t.Q=[]:=by rw[t1];exact hq (by rw[<-t2];exact h)
    unfold nJ S.lt;simp[this,fj]
  have e3:t.lt (fj t.Q t.cnt).1 (fj t.Q t.cnt).2.1=nJ t:=rfl;have e4:(fj t.Q t.cnt).2.2.map o9=JM t:=rfl;rw[e3,e4]at hy;obtain⟨u1,u2,u3,u4⟩:=hu;generalize nJ t=u at *;generalize JM t=wn at *;have h0:=w9 u.qn u.Q u4 (by omega)
  have Il:1<=room:=by decide
  have VR:u.Q.length+1<=room:=by unfold room;omega
  unfold VP;rcases(show c.op=72\/c.op=75 by omega)with ho |ho
  .have jq:IntKind.i64.wrap (u.cnt - c.value)=u.cnt - c.value:=by
    unfold Ai at he;rw[ho]at he;simp at he;obtain⟨e5,_⟩:=jh (b:=Ai sz c) (a:=2) (by decide) (by unfold Ai;simpa using he)
    unfold Ai at e5;simp at e5;exact wrap_i64 (by omega) (by omega)
   rw[aE (by omega)]
   obtain⟨own,cnt,time,hn',H,qn,Q,bn,B,cn,C,cl,val⟩:=u;simp only[S.row,Cl.row,Ry.row,ho]at *;by_cases hle:c.value<=cnt
   .cases Q with
    |nil =>
     rw[aK ⟨rfl,hle⟩];cases wn<;>simp only[lL]at hy<;>simp[y7,hc,hr,hs,hy,hle,jq,aI,az,sub,aD,back,av,aq,ak,cut,bt,an,V.aV,bp,aX,aZ,aM,aN,bk,cG,cz]
    |cons a r =>
     rw[aE (by simp)]
     have yC:qn=false:=by
      cases qn
      .rfl
      .have:=u4 rfl;simp at this
     subst yC;rw[aE (by simp)]at h0
     have hne:((r.length:Int)+1==0)=false:=by simp;omega
     simp only[qD]at *;simp[W.row]at h0;have aqq:r.length+1+1<=room:=by simpa using VR
     cases wn<;>simp only[lL]at hy<;>simp[y7,hc,hr,hs,hy,hle,hne,h0,Il,aqq,o8,W.row,aI,az,sub,aD,back,av,aq,ak,cut,bt,an,V.aV,bp,aX,aZ,aM,aN,bk,cG,cz]
   .rw[aE (λh=>hle h.2)]
    cases qn
    .rw[aE (by simp)]at h0
     simp only[qD]at *;cases hz:((Q.length:Int)==0)<;>cases wn<;>simp only[lL]at hy<;>simp[y7,hc,hr,hs,hy,hle,hz,h0,Il,VR,o8,W.row,aI,az,sub,aD,back,av,aq,ak,cut,bt,an,V.aV,bp,aX,aZ,aM,aN,bk,cG,cz]
    .rw[aK rfl]at h0
     obtain rfl:=u4 rfl;simp only[qD,gq]at *;cases wn<;>simp only[lL]at hy<;>simp[y7,hc,hr,hs,hy,hle,h0,Il,VR,o8,W.row,aI,az,sub,aD,back,av,aq,ak,cut,bt,an,V.aV,bp,aX,aZ,aM,aN,bk,cG,cz]
  .rw[aK ho]
   simp only[S.row,Cl.row,Ry.row,ho]at *;cases wn<;>simp only[lL]at hy<;>simp[y7,hc,hr,hs,hy,aI,az,sub,aD,back,av,aq,ak,cut,bt,an,V.aV,bp,aX,aZ,aM,aN,bk,cG,cz]
 .generalize DW sz s c=e at *
  have he':(e != 0)=true:=by simpa using he
  simp only[S.row,Cl.row]at *;simp[y7,hc,he',aI,az,sub,aD,back,av,aq,ak,cut,bt,an,V.aV,bp,aX,aZ,aM,aN];exact qI.er he rfl
end Go.VS.Sp
namespace Go.VS.Sp
theorem aqr(t a:Int)(b:Bool)(l:List Int)(c2 c3 c4 c5:D):ev P (.call G9 [.d (.ag [I' a,hD b l]),.d (.ref [I' t,c2,c3,c4,c5])] [])=some (.val (.d (.b (a==t))) []):=by
 rw[au adW rfl];simp[Rw]
def iS(s:S)(c:Cl):Bool :=
 if c.op=70 then(match mD s.C c.task with |some x=>x.log.isEmpty |none=>true)else c.op==63||(c.op==65&&s.B.isEmpty)
def gy(c:Cl)(r:Ry):List Cp:=if r.pk=true then[]else[⟨c,⟨c.task,c.op,r.v,r.ok,-1⟩⟩]
def jD(k:Int)(s:S)(c:Cl)(r:Ry):List Cp :=
 if k=8 then⟨{c with op:=75},⟨c.task,75,0,true,-1⟩⟩::(r.wl.map (fJ s.Q c.now)++(if c.op=75 then[]else gy c r))
 else if iS s c=true then r.wl.map (fJ s.Q c.now)++gy c r else gy c r++r.wl.map (fJ s.Q c.now)
theorem O7{α:Type}(l:List α):((l.length:Int)==0)=l.isEmpty:=by cases l<;>simp;omega
set_option maxHeartbeats 4000000 in
theorem aqs(nm:D)(k sz ot:Int)(s:S)(c:Cl)(r:Ry)(hQ:s.Q.length<=500)(hC:s.C.length<=500)(hl:r.wl.length<=500):
  ev P (.call Qn [.d (.ag [nm,I' k,I' sz,I' ot]),.d (.ag s.row),.d (.ag c.row),.d (.ag r.row)] [])=some (.val (.d (m9 (decide (jD k s c r=[])) (jD k s c r))) []):=by
 have xl:=ao1 s c.now r.bw r.wl hQ hl;have JN:∀(b1 b2:Bool)(A B:List Cp),A.length+B.length<=600->ev P (.call Cv [.d (.sl 1 false [[m9 b1 A],[m9 b2 B]])] [])=some (.val (.d (m9 (decide (A++B=[])) (A++B))) []):=λb1 b2 A B h=>by
  have:=ao8 [(b1,A),(b2,B)] (by simp[tot];omega)
  simpa[cat,DS]using this
 have VT:∀(b1 b2 b3:Bool)(A B C:List Cp),A.length+B.length+C.length<=600->ev P (.call Cv [.d (.sl 1 false [[m9 b1 A],[m9 b2 B],[m9 b3 C]])] [])=some (.val (.d (m9 (decide (A++(B++C)=[])) (A++(B++C)))) []):=λb1 b2 b3 A B C h=>by
  have:=ao8 [(b1,A),(b2,B),(b3,C)] (by simp[tot];omega)
  simpa[cat,DS]using this
 have hI:=SM (f:=G9) (first:=[]) (caps:=[.ref c.row]) (p:=λx=>x.task==c.task) s.cn s.C (by omega) (by intro a b l;simp[Cl.row,aqr])
 have hI:ev P (.call En [.d (cD s.cn s.C),.d (.fn G9 [] [.ref c.row])] [])=some (.val (.d (I' (jT s.C c.task))) []):=hI;have yj:(r.wl.map (fJ s.Q c.now)).length<=500:=by simpa using hl
 rw[au adK rfl];unfold jD;generalize r.wl.map (fJ s.Q c.now)=yH at *;have wM:c.op=70->(jT s.C c.task<0/\iS s c=true)\/∃(i:Nat)(x:K),jT s.C c.task=(i:Int)/\s.C[i]?=some x/\iS s c=x.log.isEmpty:=by
  intro ho;unfold iS;rw[aK ho];rcases M1 s.C c.task with⟨h1,h2⟩ |⟨i,x,h1,h2,h3⟩
  .left;rw[h2];exact⟨by omega,rfl⟩
  .right;rw[h3];exact⟨i,x,h1,h2,rfl⟩
 have c1:=JN (decide (r.wl=[])) true yH [] (by simp;omega)
 have c2:=JN true (decide (r.wl=[])) [] yH (by simp;omega)
 have c3:=λx=>JN (decide (r.wl=[])) false yH [x] (by simp;omega)
 have c4:=λx=>JN false (decide (r.wl=[])) [x] yH (by simp;omega)
 have c5:=λx=>VT false (decide (r.wl=[])) true [x] yH [] (by simp;omega)
 have c6:=λx y=>VT false (decide (r.wl=[])) false [x] yH [y] (by simp;omega)
 clear JN VT;generalize decide (r.wl=[])=bw at *;have c3:=c3 ⟨c,⟨c.task,c.op,r.v,r.ok,-1⟩⟩;have c4:=c4 ⟨c,⟨c.task,c.op,r.v,r.ok,-1⟩⟩;have c5:=c5 ⟨{c with op:=75},⟨c.task,75,0,true,-1⟩⟩;have c6:=c6 ⟨{c with op:=75},⟨c.task,75,0,true,-1⟩⟩ ⟨c,⟨c.task,c.op,r.v,r.ok,-1⟩⟩;simp[m9,Cp.row,Cl.row,Wk.row]at c1 c2 c3 c4 c5 c6;unfold gy;simp only[S.row,Cl.row,Ry.row]at *;obtain⟨last,hla⟩:∃l,iS s c=l:=⟨_,rfl⟩;rw[hla]at wM⊢;cases h8:k==8
 .have VU:¬k=8:=by simpa using h8
  rw[aE VU];by_cases fI:c.op=70
  .have h63:(c.op==63)=false:=by simp[fI]
   have sE:(c.op==65)=false:=by simp[fI]
   have vm:(c.op==70)=true:=by simpa using fI
   rcases wM fI with⟨h1,h2⟩ |⟨i,x,h1,h2,h3⟩
   .subst h2
    rw[aK rfl];cases hp:r.pk<;>simp[vO,h8,h63,sE,vm,xl,hI,h1,hp,c1,c3,m9,Cp.row,Cl.row,Wk.row,av,aq,ak,cut,bt,an]
   .have hi:¬((i:Int)<0):=by omega
    rw[h1]at hI;have hle:=O7 x.log;rw[<-h3]at hle;cases last
    .rw[aE (by simp)]
     cases hp:r.pk<;>simp[vO,h8,h63,sE,vm,xl,hI,hi,h2,hp,hle,K.row,c2,c4,m9,Cp.row,Cl.row,Wk.row,av,aq,ak,cut,bt,an]
    .rw[aK rfl]
     cases hp:r.pk<;>simp[vO,h8,h63,sE,vm,xl,hI,hi,h2,hp,hle,K.row,c1,c3,m9,Cp.row,Cl.row,Wk.row,av,aq,ak,cut,bt,an]
  .have vm:(c.op==70)=false:=by simpa using fI
   unfold iS at hla;rw[aE fI,<-O7]at hla;cases last
   .rw[aE (by simp)]
    cases hp:r.pk<;>simp[vO,h8,hla,vm,xl,hp,c2,c4,m9,Cp.row,Cl.row,Wk.row,av,aq,ak,cut,bt,an]
   .rw[aK rfl]
    cases hp:r.pk<;>simp[vO,h8,hla,vm,xl,hp,c1,c3,m9,Cp.row,Cl.row,Wk.row,av,aq,ak,cut,bt,an]
 .have VU:k=8:=by simpa using h8
  rw[aK VU];by_cases fI:c.op=70
  .have h63:(c.op==63)=false:=by simp[fI]
   have sE:(c.op==65)=false:=by simp[fI]
   have zq:(c.op==75)=false:=by simp[fI]
   have DX:¬c.op=75:=by omega
   have vm:(c.op==70)=true:=by simpa using fI
   rcases wM fI with⟨h1,h2⟩ |⟨i,x,h1,h2,h3⟩
   .cases hp:r.pk<;>simp[vO,h8,h63,sE,zq,DX,vm,xl,hI,h1,hp,c5,c6,m9,Cp.row,Cl.row,Wk.row,av,aq,ak,cut,bt,an]
   .have hi:¬((i:Int)<0):=by omega
    rw[h1]at hI;have hle:=O7 x.log;rw[<-h3]at hle;cases hp:r.pk<;>simp[vO,h8,h63,sE,zq,DX,vm,xl,hI,hi,h2,hp,hle,K.row,c5,c6,m9,Cp.row,Cl.row,Wk.row,av,aq,ak,cut,bt,an]
  .have vm:(c.op==70)=false:=by simpa using fI
   unfold iS at hla;rw[aE fI,<-O7]at hla;by_cases DX:c.op=75
   .have zq:(c.op==75)=true:=by simpa using DX
    rw[aK DX];cases hp:r.pk<;>simp[vO,h8,hla,vm,zq,xl,hp,c5,m9,Cp.row,Cl.row,Wk.row,av,aq,ak,cut,bt,an]
   .have zq:(c.op==75)=false:=by simpa using DX
    rw[aE DX];cases hp:r.pk<;>simp[vO,h8,hla,vm,zq,xl,hp,c5,c6,m9,Cp.row,Cl.row,Wk.row,av,aq,ak,cut,bt,an]
end Go.VS.Sp
namespace Go.VS.Sp
def ig(k sz ot:Int)(s:S)(L:List Cp)(s':S):Prop:=(c9 k sz ot (s.ab true) L).2=true/\(c9 k sz ot (s.ab true) L).1.pl=(s'.ab true).pl
def mq(x:Option dN)(k sz ot:Int)(s:S)(c:Cl):Prop :=
 (∃e,e≠0/\∃r1 r2 r3 r4 r5 r6 r7 r8 r9 vg vi vk ez:D,x=some (.val (.tu [.d (.ag [r1,r2,r3,r4,r5,r6,r7,r8,r9,vg,vi,vk,ez]),.d (I' e)]) [])) \/
 ∃r:Ry,x=some (.val (.tu [.d (.ag r.row),.d (I' 0)]) [])/\r.st.gN/\dW k sz ot s=0/\dW k sz ot r.st=0/\r.wl.length<=45/\ig k sz ot s (jD k s c r) r.st
theorem mq.of{x:Option dN}{k sz ot e:Int}{s:S}{c:Cl}{r:Ry}(h:qI x e r)(h0:e=0->r.st.gN/\dW k sz ot s=0/\dW k sz ot r.st=0/\r.wl.length<=45/\ig k sz ot s (jD k s c r) r.st):mq x k sz ot s c:=by
 rcases h with⟨he,hx⟩ |⟨he,hx⟩
 .exact .inr ⟨r,hx,h0 he⟩
 .exact .inl ⟨e,he,hx⟩
theorem mq.er{x:Option dN}{k sz ot e:Int}{s:S}{c:Cl}{r1 r2 r3 r4 r5 r6 r7 r8 r9 vg vi vk ez:D}(he:e≠0)(h:x=some (.val (.tu [.d (.ag [r1,r2,r3,r4,r5,r6,r7,r8,r9,vg,vi,vk,ez]),.d (I' e)]) [])):mq x k sz ot s c :=
 .inl ⟨e,he,_,_,_,_,_,_,_,_,_,_,_,_,_,h⟩
theorem Aj{k:Int}{s:S}{c:Cl}{r:Ry}(hk:k≠8)(hl:iS s c=false):jD k s c r=gy c r++r.wl.map (fJ s.Q c.now):=by
 unfold jD;rw[aE hk,hl,aE (by simp)]
theorem VV{k:Int}{s:S}{c:Cl}{r:Ry}(hk:k≠8)(hl:iS s c=true):jD k s c r=r.wl.map (fJ s.Q c.now)++gy c r:=by
 unfold jD;rw[aE hk,hl,aK rfl]
theorem vn{c:Cl}(h:cC c=false):0<=c.task/\c.task<16/\0<=c.prio/\c.prio<=9/\0<=c.now/\c.now<=1099511627776:=by
 unfold cC at h;simp at h;omega
theorem aqt{Q:List W}{w:W}(hd:Q.Pairwise λa b=>a.task≠b.task)(h:(Q.any λx=>x.task==w.task)=false):(Q++[w]).Pairwise λa b=>a.task≠b.task:=by
 rw[oA];refine⟨hd,by simp,λa ha b hb=>?_⟩
 simp at hb;subst hb;rw[qL]at h;simpa using h a ha
theorem aqu{α:Type}{Q A B:List α}{x w:α}(e:Q++[x]=A++w::B):(A=Q/\w=x)\/∃B',Q=A++w::B':=by
 rcases Aq B with rfl |⟨B',b,rfl⟩
 .obtain⟨h1,h2⟩:=Ke e rfl
  simp at h2;exact .inl ⟨h1.symm,h2.symm⟩
 .rw[GI,<-List.cons_append,<-List.append_assoc]at e
  obtain⟨h1,_⟩:=Ke e rfl;exact .inr ⟨B',h1⟩
def fR(c:Cl)(v:Int)(ok:Bool):Cp:=⟨c,⟨c.task,c.op,v,ok,-1⟩⟩
theorem VW{sz ot n:Int}{c:Cl}(hn:iV 4 sz ot=0)(hb:cC c=false)(h:0<=n/\n<=sz)(hv:1<=c.value/\c.value<=sz)(ho:c.op=60\/c.op=61\/c.op=62)(he:(eS sz (aS n) c).2.2.2=0):dU 4 sz ot (aS n) c=eS sz (aS n) c :=
 tV (apf hn h) hb (by unfold dD;rcases ho with h |h |h<;>simp[h]) (by unfold fit;simp[hv]) he
theorem aqv(nm:D)(sz ot:Int)(s:S)(c:Cl)(hf:s.gN)(gR:s.Q.length<=40):
  mq (ev P (.call AH [.d (.ag [nm,I' 4,I' sz,I' ot]),.d (.ag s.row),.d (.ag c.row)] [])) 4 sz ot s c:=by
 have bS:=alF nm 4 sz ot s hf.sm;have hG:dW 4 sz ot s=ck (iV 4 sz ot) (DC sz ot s):=rfl;rw[<-hG]at bS;by_cases hc:dW 4 sz ot s=0
 .obtain⟨hn,hs⟩:=BR.1 hc
  obtain⟨aqw,hsz,lG⟩:=aph hn;have hlo:=hs.lo;have hhi:=hs.hi;have hfq:=hf.q;rw[hc]at bS;refine mq.of (apX nm 4 sz ot s c hsz ⟨hlo,hhi⟩ (xk.2 ⟨hs.len,λw hw=>(hs.w w hw).v⟩) (by omega) bS) λhe=>?_
  unfold DV at he;obtain⟨hb,he⟩:=jh (by decide) he
  obtain⟨h2,he⟩:=jh (by decide) he
  obtain⟨h3,he⟩:=jh (by decide) he
  obtain⟨h4,_⟩:=jh (b:=(gQ s c.task||(c.op==62&&decide (sz<s.cnt+c.value)))) (a:=17) (r:=0) (by decide) he
  simp at h2 h3 h4;obtain⟨h4,h5⟩:=h4;have hop:c.op=60\/c.op=61\/c.op=62:=by omega
  have hv:1<=c.value/\c.value<=sz:=by omega
  have hbd:=vn hb;have hl:iS s c=false:=by
   unfold iS;rcases hop with h |h |h<;>simp[h]
  have eH:=apl hs;rw[Aj (by decide) hl]
  have aqx:∀m:Int,dW 4 sz ot {s with cnt:=m}=0↔JI sz ot {s with cnt:=m}:=λm=>by rw[BR];exact⟨λh=>h.2,λh=>⟨hn,h⟩⟩
  have iJ:∀m:Int,({s with cnt:=m}:S).gN:=λm=>⟨⟨hf.wf.h,hf.wf.b,hf.wf.c,hf.wf.k⟩,hf.qn,hf.h,hf.q,hf.b,hf.c,hf.l⟩
  have JO:∀m:Int,(({s with cnt:=m}:S).ab true).pl=aS m:=λm=>by
   unfold S.ab S.pl aS;simp[hs.own,hs.tm,hs.h,hs.b,hs.c,hs.cl,hs.val]
  have take:nL s.cnt c.value (ot==1) s.Q=true->(c.op=60\/c.op=61)->dW 4 sz ot {s with cnt:=s.cnt - c.value}=0/\ig 4 sz ot s [fR c 0 true] {s with cnt:=s.cnt - c.value}:=by
   intro ht ho;unfold nL at ht;simp at ht;obtain⟨hle,han⟩:=ht;refine⟨(aqx _).2 ⟨hs.own,by simp only;omega,by simp only;omega,hs.tm,hs.h,hs.b,hs.c,hs.cl,hs.val,hs.len,hs.w,hs.tk,λA w B e=>?_⟩,?_⟩
   .have:=hs.st A w B e
    rcases this with h |h
    .exact .inl h
    .exact .inr (by simp only;omega)
   .have hE:eS sz (aS s.cnt) c=(aS (s.cnt - c.value),0,true,0):=by
     unfold eS;rcases ho with h |h<;>simp[h,aS,gd,hle]
    have he:=VW hn hb ⟨hlo,hhi⟩ hv (by omega) (by rw[hE])
    rw[hE,<-eH]at he;unfold ig;rw[mo (x:=fR c 0 true) he rfl rfl (.inr (.inl rfl)),JO];simp[c9];rfl
  unfold VJ;rcases hop with ho |ho |ho
  .rw[aK ho]
   by_cases ht:nL s.cnt c.value (ot==1) s.Q=true
   .rw[aK ht]
    obtain⟨t1,t2⟩:=take ht (.inl ho);exact⟨iJ _,hc,t1,by simp,by simpa[gy,fR]using t2⟩
   .rw[aE ht]
    have hw:SW sz (cw c):=by
     refine⟨?_,ho,hv.1,hv.2,rfl⟩;unfold dL kI cw;simp;omega
    have iz:=aqt (w:=cw c) hs.tk (by unfold gQ at h4;exact h4)
    have hlen:(s.Q++[cw c]).length=s.Q.length+1:=by simp
    have rF:dW 4 sz ot {s with qn:=false,Q:=s.Q++[cw c]}=0:=by
     refine BR.2 ⟨hn,hs.own,hlo,hhi,hs.tm,hs.h,hs.b,hs.c,hs.cl,hs.val,by simp only;omega,λw hm=>?_,iz,λA w B e=>?_⟩
     .rcases dc.1 hm with hm |hm
      .exact hs.w w hm
      .simp at hm;rw[hm];exact hw
     .rcases aqu e with⟨rfl,rfl⟩ |⟨B',e⟩
      .unfold nL at ht
       simp at ht;by_cases hle:c.value<=s.cnt
       .have:=ht hle
        exact .inl ⟨this.2,by omega⟩
       .exact .inr (by unfold cw;simp only;omega)
      .exact hs.st A w B' e
    refine⟨⟨⟨hf.wf.h,hf.wf.b,hf.wf.c,hf.wf.k⟩,by simp,hf.h,(show(s.Q++[cw c]).length<=41 by omega),hf.b,hf.c,hf.l⟩,hc,rF,by simp,?_⟩
    simp[gy,ig,c9];rfl
  .rw[aE (by omega),aK ho]
   by_cases ht:nL s.cnt c.value (ot==1) s.Q=true
   .simp only[ht,dH]
    obtain⟨t1,t2⟩:=take ht (.inr ho);exact⟨iJ _,hc,t1,by simp,by simpa[gy,fR]using t2⟩
   .have ht':nL s.cnt c.value (ot==1) s.Q=false:=by simpa using ht
    rw[aE ht,ht'];refine⟨iJ _,hc,hc,by simp,?_⟩
    have e:gy c ⟨{s with cnt:=s.cnt},false,0,false,true,[]⟩++List.map (fJ s.Q c.now) []=[fR c 0 false]:=by simp[gy,fR]
    show ig 4 sz ot s (gy c ⟨{s with cnt:=s.cnt},false,0,false,true,[]⟩++List.map (fJ s.Q c.now) []) s
    rw[e];have hE:∃r3:Bool,∃a3:S,dU 4 sz ot (s.ab true).pl c=(a3,0,r3,0)/\(ot≠0->r3=false/\a3=(s.ab true).pl):=by
     have hE:(eS sz (aS s.cnt) c)=if c.value<=s.cnt then(aS (s.cnt - c.value),0,true,0)else(aS s.cnt,0,false,0):=by
      unfold eS;by_cases h:c.value<=s.cnt<;>simp[ho,h,aS,gd,er]
     have he:=VW (ot:=ot) hn hb ⟨hlo,hhi⟩ hv (.inr (.inl ho)) (by rw[hE];split<;>rfl)
     rw[eH,he,hE];by_cases h:c.value<=s.cnt
     .rw[aK h]
      refine⟨_,_,rfl,λh1=>?_⟩
      exfalso;unfold nL at ht'
      have:ot=1:=by omega
      simp[h,this]at ht'
     .rw[aE h]
      exact⟨_,_,rfl,λ_=>⟨rfl,rfl⟩⟩
    obtain⟨r3,a3,hE,O8⟩:=hE;by_cases h0:ot=0
    .have e2:c9 4 sz ot (s.ab true) [fR c 0 false]=(s.ab true,true):=by
      show(let e:=dU 4 sz ot (s.ab true).pl c
       if e.2.2.2≠0 then(s.ab true,false)
       else if(c.op==61&&ot==0&&!false&&(0:Int)==0)=true then c9 4 sz ot (s.ab true) []
       else if(e.2.1 != 0||e.2.2.1 != false)=true then(s.ab true,false)else c9 4 sz ot e.1 [])=_
      rw[hE];simp[ho,h0,c9]
     unfold ig;rw[e2];exact⟨rfl,rfl⟩
    .obtain⟨rfl,rfl⟩:=O8 h0
     unfold ig;rw[mo (x:=fR c 0 false) hE rfl rfl (.inr (.inr h0))];simp only[c9,Kf];exact Vz _
  .rw[aE (by omega),aE (by omega)]
   have h6:s.cnt+c.value<=sz:=by
    have:=h5 ho;omega
   obtain⟨g1,g2,g3,g4⟩:=api (n:=s.cnt+c.value) (now:=c.now) hn (by omega) hs (As _) (by omega)
   have hlen:=g1.length_le;have sC:=g2.length_le;have xq:=VF c.now hs.tk g1 λw hw=>(hs.w w hw).cs
   refine⟨apm hf (by omega),hc,g3,by simp;omega,?_⟩
   have hE:eS sz (aS s.cnt) c=(aS (s.cnt+c.value),0,true,0):=by
    unfold eS
    have:¬sz<s.cnt+c.value:=by omega
    simp[ho,aS,gd,this]
   have he:=VW (ot:=ot) hn hb ⟨hlo,hhi⟩ hv (.inr (.inr ho)) (by rw[hE])
   rw[hE,<-eH]at he;simp only[gy,eR,dG,vG];rw[xq];unfold ig;rw[show(⟨c,⟨c.task,c.op,0,true,-1⟩⟩:Cp)=fR c 0 true from rfl,mo (x:=fR c 0 true) he rfl rfl (.inr (.inl rfl))]
   exact g4 _ rfl
 .have he:(dW 4 sz ot s != 0)=true:=by simpa using hc
  have hx:ev P (.call AH [.d (.ag [nm,I' 4,I' sz,I' ot]),.d (.ag s.row),.d (.ag c.row)] [])=some (.val (.tu [.d (.ag oq),.d (I' 1)]) []):=by
   rw[au Sz rfl];simp only[S.row,Cl.row]at *;simp[y5,bS,he,av,aq]
  exact mq.er (by decide) hx
end Go.VS.Sp
namespace Go.VS.Sp
theorem VX{f:List W->W->Bool}{g:W->Bool}(hf:∀pre w,f pre w=(g w&&!pre.any (λx=>x.task==w.task))){Q:List W}:eI f [] Q=true↔(∀w∈Q,g w=true)/\Q.Pairwise λa b=>a.task≠b.task:=by
 rw[VD,VE];have e:∀(A:List W)(w:W),(!A.any (λx:W=>x.task==w.task))=true↔∀x∈A,x.task≠w.task:=λA w=>by simp
 constructor
 .intro h
  refine⟨λw hw=>?_,λA w B eq=>?_⟩
  .obtain⟨A,B,eq⟩:=Kc hw
   have:=h A w B eq;rw[hf,bE]at this;exact this.1
  .have:=h A w B eq
   rw[hf,bE]at this;exact(e _ _).1 (by simpa using this.2)
 .rintro⟨h1,h2⟩ A w B eq
  rw[hf,bE];exact⟨h1 w (by rw[eq];simp),by simpa using(e A w).2 (h2 A w B eq)⟩
structure WQ(op:Int)(p:W->Prop)(Q:List W):Prop where
 len:Q.length<=96
 w:∀w∈Q,dL w=true/\w.op=op/\w.case = -1/\p w
 tk:Q.Pairwise λa b=>a.task≠b.task
theorem WQ.sub{op:Int}{p:W->Prop}{Q R:List W}(h:WQ op p Q)(hs:R.Sublist Q):WQ op p R :=
 ⟨ng hs.length_le h.len,λw hw=>h.w w (hs.subset hw),h.tk.sublist hs⟩
theorem WQ.snoc{op:Int}{p:W->Prop}{Q:List W}{w:W}(h:WQ op p Q)(hl:Q.length<=40)(hw:dL w=true/\w.op=op/\w.case = -1/\p w)(ht:(Q.any λx=>x.task==w.task)=false):WQ op p (Q++[w]):=
 ⟨by simp;omega,λx hx=>by rcases dc.1 hx with hx |hx;exact h.w x hx;simp at hx;rw[hx];exact hw,aqt h.tk ht⟩
theorem WQ.nil{op:Int}{p:W->Prop}:WQ op p []:=⟨by simp,by simp,List.Pairwise.nil⟩
structure FOK(s:S):Prop where
 own:s.own = -1
 cnt:s.cnt=0
 tm:s.time=0
 h:s.H=[]
 b:s.B=[]
 c:s.C=[]
 nv:num s.val=true
 q:WQ 74 (λw=>w.value=0) s.Q
 cl:s.cl=true->s.Q=[]
 op:s.cl=false->s.val=0
theorem DY{sz ot:Int}{s:S}:dW 9 sz ot s=0↔dR 9 9 sz ot=0/\FOK s:=by
 have e:dW 9 sz ot s=ck (dR 9 9 sz ot) (DG s):=rfl;rw[e,BQ];refine Kg Iff.rfl ?_;unfold DG uP;have hq:=VX (f:=fF) (g:=λw=>w.op==74&&(w.value==0&&w.case == -1)) (λpre w=>by
  unfold fF;rw[xB];simp;constructor
  .rintro⟨⟨⟨h1,h2⟩,h3⟩,h4⟩;exact⟨⟨h2,h3,h4⟩,h1⟩
  .rintro⟨⟨h2,h3,h4⟩,h1⟩;exact⟨⟨⟨h1,h2⟩,h3⟩,h4⟩) (Q:=s.Q)
 simp only[bE,dM,xk,hq,JZ];constructor
 .rintro⟨⟨⟨⟨⟨⟨h1,h2⟩,h3⟩,h4⟩,h5⟩,h6⟩,h7,⟨⟨h8,h9⟩,iP,jg⟩,h12⟩
  refine⟨h1,h2,h3,h4,h5,h6,h7,⟨iP,λw hw=>⟨jg w hw,(h8 w hw).1,(h8 w hw).2.2,(h8 w hw).2.1⟩,h9⟩,λh=>?_,λh=>?_⟩
  .rw[h]at h12
   simp at h12
   have:s.Q.length=0:=by rw[h12];rfl
   exact vC (by omega)
  .rw[h]at h12
   simpa using h12
 .rintro⟨h1,h2,h3,h4,h5,h6,h7,⟨iP,h8,h9⟩,h12,kJ⟩
  refine⟨⟨⟨⟨⟨⟨h1,h2⟩,h3⟩,h4⟩,h5⟩,h6⟩,h7,⟨⟨λw hw=>⟨(h8 w hw).2.1,(h8 w hw).2.2.2,(h8 w hw).2.2.1⟩,h9⟩,iP,λw hw=>(h8 w hw).1⟩,?_⟩
  cases hc:s.cl
  .simpa using kJ hc
  .simp[h12 hc]
def aF(cl:Bool)(val:Int):S:=⟨-1,0,0,false,[],false,[],false,[],false,[],cl,val⟩
theorem aqy{sz ot val:Int}{cl:Bool}(hn:dR 9 9 sz ot=0)(h:num val=true)(hc:cl=true\/val=0):cU 9 sz ot (aF cl val)=true:=by
 unfold cU gB fZ iY iC okF uP aF;rcases hc with rfl |rfl<;>simp[hn,ck,h]
theorem aqz{sz ot:Int}{c:Cl}(hn:dR 9 9 sz ot=0)(hb:cC c=false)(ho:c.op=73)(hv:num c.value=true):dU 9 sz ot (aF false 0) c=(aF true c.value,0,true,0):=by
 have hr:raw 9 sz ot (aF false 0) c=(aF true c.value,0,true,0):=by
  unfold raw eF;simp[ho,aF,gd]
 rw[tV (aqy hn (by decide) (.inr rfl)) hb (by unfold dD;simp[ho]) (by unfold fit;simp[ho,hv]) (by rw[hr]),hr]
theorem aqA{sz ot v:Int}{c:Cl}(hn:dR 9 9 sz ot=0)(hb:cC c=false)(ho:c.op=74)(hv:num v=true):dU 9 sz ot (aF true v) c=(aF true v,v,true,0):=by
 have hr:raw 9 sz ot (aF true v) c=(aF true v,v,true,0):=by
  unfold raw eF;simp[ho,aF]
 rw[tV (aqy hn hv (.inl rfl)) hb (by unfold dD;simp[ho]) (by unfold fit;simp[ho]) (by rw[hr]),hr]
theorem aqB{sz ot now v:Int}(hn:dR 9 9 sz ot=0)(hw0:0<=now/\now<=1099511627776)(hv:num v=true):∀(L:List W),(∀w∈L,dL w=true/\w.op=74)->∀a:S,a.pl=aF true v ->
  (c9 9 sz ot a (L.map λw=>⟨⟨w.task,w.op,w.value,w.prio,now⟩,⟨w.task,w.op,v,true,-1⟩⟩)).2=true/\(c9 9 sz ot a (L.map λw=>⟨⟨w.task,w.op,w.value,w.prio,now⟩,⟨w.task,w.op,v,true,-1⟩⟩)).1.pl=aF true v
 | [],_,a,ha=>by simp[c9,ha]
 |w::r,hw,a,ha=>by
  have hw1:=hw w (by simp)
  have he:=aqA (c:=⟨w.task,w.op,w.value,w.prio,now⟩) (v:=v) hn (tX hw1.1 hw0) hw1.2 hv;rw[<-ha]at he;rw[fT,mo (x:=⟨⟨w.task,w.op,w.value,w.prio,now⟩,⟨w.task,w.op,v,true,-1⟩⟩) he rfl rfl (.inr (.inl rfl))];rw[ha];exact aqB hn hw0 hv r (λx hx=>hw x (by simp[hx])) _ rfl
theorem aqC{Q G:List W}(now v:Int)(hd:Q.Pairwise λa b=>a.task≠b.task)(hG:G.Sublist Q)(hc:∀w∈Q,w.case = -1):
  (G.map (Af v)).map (fJ Q now)=G.map λw=>⟨⟨w.task,w.op,w.value,w.prio,now⟩,⟨w.task,w.op,v,true,-1⟩⟩:=by
 rw[kB];refine vu λw hw=>?_
 have hm:=hG.subset hw;exact DT now v true hd hm (hc w hm)
theorem aqD(nm:D)(sz ot:Int)(s:S)(c:Cl)(hf:s.gN)(gR:s.Q.length<=40):
  mq (ev P (.call Cu [.d (.ag [nm,I' 9,I' sz,I' ot]),.d (.ag s.row),.d (.ag c.row)] [])) 9 sz ot s c:=by
 have bS:ev P (.call qm [.d (.ag [nm,I' 9,I' sz,I' ot]),.d (.ag s.row)] [])=some (.val (.d (I' (dW 9 sz ot s))) []):=al2 nm 9 sz ot s hf.sm;by_cases hc:dW 9 sz ot s=0
 .obtain⟨hn,hs⟩:=DY.1 hc
  rw[hc]at bS;refine mq.of (ap2 nm 9 sz ot s c hf.qn (by omega) bS) λhe=>?_
  unfold VK at he;obtain⟨hb,he⟩:=jh (by decide) he
  obtain⟨h2,he⟩:=jh (by decide) he
  obtain⟨h3,he⟩:=jh (by decide) he
  obtain⟨h4,_⟩:=jh (b:=(gQ s c.task||(c.op==73&&s.cl))) (a:=17) (r:=0) (by decide) he
  simp at h2 h3 h4;obtain⟨h4,h5⟩:=h4;have hbd:=vn hb;have hop:c.op=73\/c.op=74:=by omega
  have hl:iS s c=false:=by
   unfold iS;rcases hop with h |h<;>simp[h]
  have eH:(s.ab true).pl=aF s.cl s.val:=by
   unfold S.ab S.pl aF;simp[hs.own,hs.cnt,hs.tm,hs.h,hs.b,hs.c]
  rw[Aj (by decide) hl]
  unfold VL;rcases hop with ho |ho
  .rw[aK ho]
   have bN:=h5 ho;have hv:num c.value=true:=by have:=h3;simp[ho]at this;exact this
   refine⟨⟨⟨hf.wf.h,hf.wf.b,hf.wf.c,hf.wf.k⟩,by simp,hf.h,by simp,hf.b,hf.c,hf.l⟩,hc,DY.2 ⟨hn,hs.own,hs.cnt,hs.tm,hs.h,hs.b,hs.c,hv,WQ.nil,by simp,by simp⟩,by simp;omega,?_⟩
   have he:=aqz hn hb ho hv;have VY:(s.ab true).pl=aF false 0:=by rw[eH,bN,hs.op bN]
   rw[<-VY]at he;simp only[gy,eR,dG,vG];rw[aqC c.now c.value hs.q.tk (As _) λw hw=>(hs.q.w w hw).2.2.1]
   unfold ig;rw[show(⟨c,⟨c.task,c.op,0,true,-1⟩⟩:Cp)=fR c 0 true from rfl,mo (x:=fR c 0 true) he rfl rfl (.inr (.inl rfl))]
   obtain⟨p1,p2⟩:=aqB (now:=c.now) hn (by omega) hv s.Q (λw hw=>⟨(hs.q.w w hw).1,(hs.q.w w hw).2.1⟩) (aF true c.value) rfl
   refine⟨p1,p2.trans ?_⟩;unfold S.ab S.pl aF;simp[hs.own,hs.cnt,hs.tm,hs.h,hs.b,hs.c]
  .rw[aE (by omega)]
   cases bN:s.cl
   .rw[aE (by simp)]
    refine⟨⟨⟨hf.wf.h,hf.wf.b,hf.wf.c,hf.wf.k⟩,by simp,hf.h,by simp;omega,hf.b,hf.c,hf.l⟩,hc,DY.2 ⟨hn,hs.own,hs.cnt,hs.tm,hs.h,hs.b,hs.c,hs.nv,hs.q.snoc gR ⟨?_,rfl,rfl,rfl⟩ (by unfold gQ at h4;exact h4),λh=>by simp[bN]at h,λ_=>hs.op bN⟩,by simp,?_⟩
    .unfold dL kI
     simp;omega
    .simp[gy,ig,c9]
     unfold S.ab S.pl;simp[bN]
   .rw[aK rfl]
    refine⟨hf,hc,hc,by simp,?_⟩
    have he:=aqA (v:=s.val) hn hb ho hs.nv;have VY:(s.ab true).pl=aF true s.val:=by rw[eH,bN]
    rw[<-VY]at he;simp only[gy,eR,dG,gq,ni];unfold ig;rw[show(⟨c,⟨c.task,c.op,s.val,true,-1⟩⟩:Cp)=fR c s.val true from rfl,mo (x:=fR c s.val true) he rfl rfl (.inr (.inl rfl))]
    exact⟨rfl,Vz _⟩
 .have he:(dW 9 sz ot s != 0)=true:=by simpa using hc
  have hx:ev P (.call Cu [.d (.ag [nm,I' 9,I' sz,I' ot]),.d (.ag s.row),.d (.ag c.row)] [])=some (.val (.tu [.d (.ag oq),.d (I' 1)]) []):=by
   rw[au XI rfl];simp only[S.row,Cl.row]at *;simp[CG,bS,he,av,aq]
  exact mq.er (by decide) hx
end Go.VS.Sp
namespace Go.VS.Sp
structure BOK(sz:Int)(s:S):Prop where
 own:s.own = -1
 lo:0<=s.cnt
 hi:s.cnt<=1099511627776
 len:(s.Q.length:Int)<sz
 tm:s.time=0
 val:s.val=0
 cl:s.cl=false
 h:s.H=[]
 b:s.B=[]
 c:s.C=[]
 q:WQ 63 (λw=>w.value=0) s.Q
theorem aqE{α β γ:Type}{a:List α}{b:List β}{c:List γ}:decide ((0:Int)<(a.length:Int)+b.length+c.length)=false↔a=[]/\b=[]/\c=[]:=by
 cases a<;>cases b<;>cases c<;>simp<;>omega
theorem BU{sz ot:Int}{s:S}:dW 5 sz ot s=0↔iW 5 sz ot=0/\BOK sz s:=by
 have e:dW 5 sz ot s=ck (iW 5 sz ot) (Jl sz s):=rfl;rw[e,BQ];refine Kg Iff.rfl ?_;unfold Jl Jj Jk;have hq:=VX (f:=fB) (g:=λw=>!DD w) (λpre w=>rfl) (Q:=s.Q)
 simp only[bE,kZ,B1,Kd,kA,dM,xk,hq];rw[<-decide_eq_false_iff_not (p:=(0:Int)<_),aqE];have lK:∀w:W,DD w=false↔w.op=63/\w.value=0/\w.case = -1:=λw=>by unfold DD;simp;exact⟨fun⟨⟨h1,h2⟩,h3⟩=>⟨h1,h2,h3⟩,fun⟨h1,h2,h3⟩=>⟨⟨h1,h2⟩,h3⟩⟩
 constructor
 .rintro⟨⟨⟨⟨h1,h2⟩,h3⟩,h4⟩,⟨⟨⟨h5,h6⟩,h7⟩,h8,h9,iP⟩,⟨jg,h12⟩,kJ,kf⟩
  exact⟨h1,by omega,by omega,by omega,h5,h6,h7,h8,h9,iP,⟨jg,λw hw=>⟨h12 w hw,((lK w).1 (kJ w hw)).1,((lK w).1 (kJ w hw)).2.2,((lK w).1 (kJ w hw)).2.1⟩,kf⟩⟩
 .rintro⟨h1,h2,h3,h4,h5,h6,h7,h8,h9,iP,⟨jg,h12,kf⟩⟩
  exact⟨⟨⟨⟨h1,by omega⟩,by omega⟩,by omega⟩,⟨⟨⟨h5,h6⟩,h7⟩,h8,h9,iP⟩,⟨jg,λw hw=>(h12 w hw).1⟩,λw hw=>(lK w).2 ⟨(h12 w hw).2.1,(h12 w hw).2.2.2,(h12 w hw).2.2.1⟩,kf⟩
def aB(cnt val:Int):S:=⟨-1,cnt,0,false,[],false,[],false,[],false,[],false,val⟩
theorem aqF{sz ot cnt val:Int}(hn:iW 5 sz ot=0)(h:0<=cnt/\cnt<=1099511627776)(hv:0<=val/\val<sz):cU 5 sz ot (aB cnt val)=true:=by
 unfold cU gB fZ iY iC okB aB;simp[hn,ck];omega
theorem aqG{sz ot cnt val:Int}{c:Cl}(hn:iW 5 sz ot=0)(h:0<=cnt/\cnt<=1099511627776)(hv:0<=val/\val<sz)(hb:cC c=false)(ho:c.op=63)(hm:val+1=sz->cnt≠1099511627776):
  dU 5 sz ot (aB cnt val) c=(if val+1=sz then aB (cnt+1) 0 else aB cnt (val+1),val,true,0):=by
 have hr:raw 5 sz ot (aB cnt val) c=(if val+1=sz then aB (cnt+1) 0 else aB cnt (val+1),val,true,0):=by
  unfold raw eB;by_cases h:val+1=sz
  .have:=hm h
   simp[aB,h,this]
  .simp[aB,h]
 rw[tV (aqF hn h hv) hb (by unfold dD;simp[ho]) (by unfold fit;simp[ho]) (by rw[hr]),hr]
def O9(now:Int):Int->List W->List Cp
 |_,[]=>[]
 |k,w::r=>⟨⟨w.task,w.op,w.value,w.prio,now⟩,⟨w.task,w.op,k,true,-1⟩⟩::O9 now (k+1) r
theorem aqH{Q:List W}(now:Int)(hd:Q.Pairwise λa b=>a.task≠b.task)(hc:∀w∈Q,w.case = -1/\w.op=63):∀(G:List W)(k:Int),(∀w∈G,w∈Q)->(bws k G).map (fJ Q now)=O9 now k G
 | [],_,_=>rfl
 |w::r,k,h=>by
  have hm:=h w (by simp)
  have h1:=DT now k true hd hm (hc w hm).1;rw[bws,fT,O9,aqH now hd hc r (k+1) λx hx=>h x (by simp[hx])]
  congr 1;unfold yG;rw[<-(hc w hm).2];exact h1
theorem aqI{sz ot cnt now:Int}(hn:iW 5 sz ot=0)(h:0<=cnt/\cnt<=1099511627776)(hw0:0<=now/\now<=1099511627776):∀(L:List W)(k:Int)(R:List Cp),0<=k->k+L.length<sz->(∀w∈L,dL w=true/\w.op=63)->∀a:S,a.pl=aB cnt k ->
  ∃b:S,b.pl=aB cnt (k+L.length)/\c9 5 sz ot a (O9 now k L++R)=c9 5 sz ot b R
 | [],k,R,_,_,_,a,ha=>⟨a,by simpa using ha,rfl⟩
 |w::r,k,R,h0,hl,hw,a,ha=>by
  have hw1:=hw w (by simp)
  simp only[gX]at hl;have hne:¬k+1=sz:=by omega
  have he:=aqG (c:=⟨w.task,w.op,w.value,w.prio,now⟩) hn h (val:=k) (by omega) (tX hw1.1 hw0) hw1.2 (λh=>absurd h hne)
  rw[aE hne,<-ha]at he;obtain⟨b,b1,b2⟩:=aqI hn h hw0 r (k+1) R (by omega) (by omega) (λx hx=>hw x (by simp[hx])) (aB cnt (k+1)) rfl
  refine⟨b,?_,?_⟩
  .rw[b1]
   congr 1;simp only[gX];omega
  .rw[<-b2]
   exact mo (x:=⟨⟨w.task,w.op,w.value,w.prio,now⟩,⟨w.task,w.op,k,true,-1⟩⟩) he rfl rfl (.inr (.inl rfl))
theorem aqJ(nm:D)(sz ot:Int)(s:S)(c:Cl)(hf:s.gN)(hc:¬dW 5 sz ot s=0):ev P (.call AI [.d (.ag [nm,I' 5,I' sz,I' ot]),.d (.ag s.row),.d (.ag c.row)] [])=some (.val (.tu [.d (.ag oq),.d (I' (dW 5 sz ot s))]) []):=by
 have bS:ev P (.call oG [.d (.ag [nm,I' 5,I' sz,I' ot]),.d (.ag s.row)] [])=some (.val (.d (I' (dW 5 sz ot s))) []):=OB nm 5 sz ot s hf.sm;have he:(dW 5 sz ot s != 0)=true:=by simpa using hc
 rw[au XD rfl];simp only[S.row,Cl.row]at *;simp[y6,bS,he,av,aq]
theorem aqK(nm:D)(sz ot:Int)(s:S)(c:Cl)(hf:s.gN)(gR:s.Q.length<=40)(hb:cC c=false):
  mq (ev P (.call AI [.d (.ag [nm,I' 5,I' sz,I' ot]),.d (.ag s.row),.d (.ag c.row)] [])) 5 sz ot s c:=by
 have bS:ev P (.call oG [.d (.ag [nm,I' 5,I' sz,I' ot]),.d (.ag s.row)] [])=some (.val (.d (I' (dW 5 sz ot s))) []):=OB nm 5 sz ot s hf.sm;by_cases hc:dW 5 sz ot s=0
 .obtain⟨hn,hs⟩:=BU.1 hc
  have hsz:1<=sz/\sz<=100:=by
   unfold iW at hn;simp at hn;omega
  rw[hc]at bS;refine mq.of (aqf nm 5 sz ot s c hsz ⟨hs.lo,hs.hi⟩ hf.qn (by omega) bS) λhe=>?_
  have hbd:=vn hb;have bZ:BT s c=0:=by
   unfold O3 at he;by_cases h:BT s c=0
   .exact h
   .rw[aK h]at he;exact absurd he h
  have hop:c.op=63/\gQ s c.task=false:=by
   unfold BT at bZ;cases h1:c.op==63
   .rw[h1]at bZ;simp at bZ
   .rw[h1,aE (by simp)]at bZ
    unfold O0 at bZ;split at bZ
    .cases bZ
    .unfold OZ at bZ
     split at bZ
     .cases bZ
     .unfold OY at bZ
      refine⟨by simpa using h1,?_⟩
      cases hq:gQ s c.task
      .rfl
      .rw[hq]at bZ;simp at bZ
  obtain⟨ho,h4⟩:=hop;have hl:iS s c=true:=by unfold iS;simp[ho]
  have eH:(s.ab true).pl=aB s.cnt 0:=by
   unfold S.ab S.pl aB;simp[hs.own,hs.tm,hs.h,hs.b,hs.c,hs.cl,hs.val]
  rw[VV (by decide) hl]
  unfold O3 at he;rw[bZ]at he;simp only[B7,GW,dG]at he;unfold O4;by_cases hlt:(s.Q.length:Int)+1<sz
  .rw[aK hlt]
   refine⟨⟨⟨hf.wf.h,hf.wf.b,hf.wf.c,hf.wf.k⟩,by simp,hf.h,by simp;omega,hf.b,hf.c,hf.l⟩,hc,BU.2 ⟨hn,hs.own,hs.lo,hs.hi,by simp;omega,hs.tm,hs.val,hs.cl,hs.h,hs.b,hs.c,hs.q.snoc gR ⟨?_,ho,rfl,rfl⟩ (by unfold gQ at h4;exact h4)⟩,by simp,?_⟩
   .unfold dL kI
    simp;omega
   .simp[gy,ig,c9]
    rfl
  .rw[aE hlt]
   have yq:s.cnt≠1099511627776:=λh=>by rw[aK ⟨hlt,h⟩]at he;cases he
   have hlen:=hs.len;have hlo:=hs.lo;have hhi:=hs.hi;have O2:=VO s.Q 0;refine⟨⟨⟨hf.wf.h,hf.wf.b,hf.wf.c,hf.wf.k⟩,by simp,hf.h,by simp,hf.b,hf.c,hf.l⟩,hc,BU.2 ⟨hn,hs.own,by simp only;omega,by simp only;omega,by simp;omega,hs.tm,hs.val,hs.cl,hs.h,hs.b,hs.c,WQ.nil⟩,by simp only;omega,?_⟩
   simp only[gy,eR,dG];rw[aqH c.now hs.q.tk (λw hw=>⟨(hs.q.w w hw).2.2.1,(hs.q.w w hw).2.1⟩) s.Q 0 λw hw=>hw]
   obtain⟨b,b1,b2⟩:=aqI (sz:=sz) (ot:=ot) hn ⟨hlo,hhi⟩ (now:=c.now) (by omega) s.Q 0 [⟨c,⟨c.task,c.op,sz - 1,true,-1⟩⟩] (by omega) (by omega) (λw hw=>⟨(hs.q.w w hw).1,(hs.q.w w hw).2.1⟩) (s.ab true) eH
   have hk:(0:Int)+s.Q.length=sz - 1:=by omega
   rw[hk]at b1;have he:=aqG hn ⟨hlo,hhi⟩ (val:=sz - 1) (by omega) hb ho (λ_=>yq)
   rw[aK (by omega),<-b1]at he
   unfold ig;rw[b2,show(⟨c,⟨c.task,c.op,sz - 1,true,-1⟩⟩:Cp)=fR c (sz - 1) true from rfl,mo (x:=fR c (sz - 1) true) he rfl rfl (.inr (.inl rfl))]
   refine⟨rfl,?_⟩;unfold S.ab S.pl aB;simp[c9,hs.own,hs.tm,hs.h,hs.b,hs.c,hs.cl,hs.val]
 .exact mq.er hc (aqJ nm sz ot s c hf hc)
end Go.VS.Sp
namespace Go.VS.Sp
structure LOK(sz:Int)(s:S):Prop where
 own:s.own = -1
 lo:0<=s.cnt
 hi:s.cnt<=sz
 t0:0<=s.time
 t1:s.time<=1099511627776
 val:s.val=0
 cl:s.cl=false
 h:s.H=[]
 b:s.B=[]
 c:s.C=[]
 q:WQ 72 (λw=>1<=w.value/\w.value<=sz) s.Q
theorem BV{sz ot:Int}{s:S}:dW 8 sz ot s=0↔jv 8 sz ot=0/\LOK sz s:=by
 have e:dW 8 sz ot s=ck (jv 8 sz ot) (Jo sz s):=rfl;rw[e,BQ];refine Kg Iff.rfl ?_;unfold Jo Jm Jn;have hq:=VX (f:=fL sz) (g:=λw=>!DE sz w) (λpre w=>rfl) (Q:=s.Q)
 simp only[bE,kZ,B1,Kd,kA,dM,xk,hq];rw[<-decide_eq_false_iff_not (p:=(0:Int)<_),aqE];have lK:∀w:W,DE sz w=false↔w.op=72/\(1<=w.value/\w.value<=sz)/\w.case = -1:=λw=>by
  unfold DE;simp;constructor
  .rintro⟨⟨⟨h1,h2⟩,h3⟩,h4⟩;exact⟨h1,⟨by omega,h3⟩,h4⟩
  .rintro⟨h1,⟨h2,h3⟩,h4⟩;exact⟨⟨⟨h1,by omega⟩,h3⟩,h4⟩
 constructor
 .rintro⟨⟨⟨⟨⟨h1,h2⟩,h3⟩,h4⟩,h5⟩,⟨⟨h6,h7⟩,h8,h9,iP⟩,⟨jg,h12⟩,kJ,kf⟩
  exact⟨h1,by omega,by omega,by omega,by omega,h6,h7,h8,h9,iP,⟨jg,λw hw=>⟨h12 w hw,((lK w).1 (kJ w hw)).1,((lK w).1 (kJ w hw)).2.2,((lK w).1 (kJ w hw)).2.1⟩,kf⟩⟩
 .rintro⟨h1,h2,h3,h4,h5,h6,h7,h8,h9,iP,⟨jg,h12,kf⟩⟩
  exact⟨⟨⟨⟨⟨h1,by omega⟩,by omega⟩,by omega⟩,by omega⟩,⟨⟨h6,h7⟩,h8,h9,iP⟩,⟨jg,λw hw=>(h12 w hw).1⟩,λw hw=>(lK w).2 ⟨(h12 w hw).2.1,(h12 w hw).2.2.2,(h12 w hw).2.2.1⟩,kf⟩
def aL(cnt time:Int):S:=⟨-1,cnt,time,false,[],false,[],false,[],false,[],false,0⟩
theorem aqL{sz ot cnt time:Int}(hn:jv 8 sz ot=0)(h:0<=cnt/\cnt<=sz)(ht:0<=time/\time<=1099511627776):cU 8 sz ot (aL cnt time)=true:=by
 unfold cU gB fZ iY iC qx aL;simp[hn,ck];omega
def DZ(sz ot now n tm:Int):Prop:=(now - tm) / ot=0/\(n<sz\/n=sz/\tm=now)
theorem aqM{sz ot now n tm:Int}(h:DZ sz ot now n tm):ny sz ot now (aL n tm)=aL n tm:=by
 obtain⟨h1,h2⟩:=h;unfold ny aL;simp only[h1];rcases h2 with h2 |⟨rfl,rfl⟩
 .have:¬sz<=n:=by omega
  simp[this]
 .simp
theorem aqN{sz ot now n tm:Int}(h2:1<=ot)(h3:0<=n/\n<=sz)(h1:0<=tm/\tm<=now):∃n' mL,ny sz ot now (aL n tm)=aL n' mL/\DZ sz ot now n' mL/\0<=n'/\n'<=sz/\0<=mL/\mL<=now /\
  ∀s:S,s.cnt=n->s.time=tm->tM sz ot now s={s with cnt:=n',time:=mL}:=by
 obtain⟨k0,k1,k2⟩:=Ik (a:=now - tm) (b:=ot) (by omega) h2
 have hm:(now - tm) % ot=now - tm - (now - tm) / ot*ot:=by have:=Int.emod_def (now - tm) ot;rw[this,Int.mul_comm]
 have hm0:=Int.emod_nonneg (now - tm) (show ot≠0 by omega)
 have hm1:=Int.emod_lt_of_pos (now - tm) (show 0<ot by omega)
 by_cases h:sz<=n+(now - tm) / ot
 .refine⟨sz,now,?_,⟨by simp,.inr ⟨rfl,rfl⟩⟩,by omega,by omega,by omega,by omega,λs e1 e2=>?_⟩
  .unfold ny aL;simp[h]
  .unfold tM;rw[e1,e2,aK h]
 .have hq:0<=(now - tm) / ot*ot:=GJ k0 (by omega)
  refine⟨n+(now - tm) / ot,tm+(now - tm) / ot*ot,?_,⟨?_,.inl (by omega)⟩,by omega,by omega,by omega,by omega,λs e1 e2=>?_⟩
  .unfold ny aL;simp[h]
  .rw[show now - (tm+(now - tm) / ot*ot)=(now - tm) % ot by omega]
   exact Int.ediv_eq_zero_of_lt hm0 hm1
  .unfold tM;rw[e1,e2,aE h]
theorem aqO{sz ot n tm n' mL:Int}{c:Cl}(hn:jv 8 sz ot=0)(h3:0<=n/\n<=sz)(h1:0<=tm/\tm<=c.now)(hb:cC c=false)(ho:c.op=75)(hr:ny sz ot c.now (aL n tm)=aL n' mL):dU 8 sz ot (aL n tm) c=(aL n' mL,0,true,0):=by
 have hbd:=vn hb;have e:raw 8 sz ot (aL n tm) c=(aL n' mL,0,true,0):=by
  unfold raw eL
  have:¬c.now<(aL n tm).time:=by unfold aL;simp only;omega
  simp[this,ho,hr,gd]
 rw[tV (aqL hn h3 (by omega)) hb (by unfold dD;simp[ho]) (by unfold fit;simp[ho]) (by rw[e]),e]
theorem aqP{sz ot n tm:Int}{c:Cl}(hn:jv 8 sz ot=0)(h3:0<=n/\n<=sz)(h1:0<=tm/\tm<=c.now)(hb:cC c=false)(ho:c.op=72)(hv:1<=c.value/\c.value<=sz)(hs:DZ sz ot c.now n tm)(hle:c.value<=n):dU 8 sz ot (aL n tm) c=(aL (n - c.value) tm,0,true,0):=by
 have hbd:=vn hb;have e:raw 8 sz ot (aL n tm) c=(aL (n - c.value) tm,0,true,0):=by
  unfold raw eL;have h1:¬c.now<(aL n tm).time:=by unfold aL;simp only;omega
  have h2:¬(aL n tm).cnt<c.value:=by unfold aL;simp only;omega
  simp[h1,ho,aqM hs,gd];rw[aE h2];rfl
 rw[tV (aqL hn h3 (by omega)) hb (by unfold dD;simp[ho]) (by unfold fit;simp[ho,hv]) (by rw[e]),e]
theorem aqQ:∀(Q:List W)(n:Int),(fj Q n).1.Sublist Q/\(fj Q n).2.2.Sublist Q
 | [],n=>by simp[fj]
 |w::r,n=>by
  unfold fj;obtain⟨h1,h2⟩:=aqQ r (n - w.value);split
  .exact⟨h1.cons _,h2.cons_cons _⟩
  .exact⟨As _,by simp⟩
theorem aqR{sz ot now tm:Int}(hn:jv 8 sz ot=0)(hw0:0<=now/\now<=1099511627776)(h1:0<=tm/\tm<=now):∀(Q:List W)(n:Int)(R:List Cp),0<=n/\n<=sz->DZ sz ot now n tm->(∀w∈Q,dL w=true/\w.op=72/\1<=w.value/\w.value<=sz)->∀a:S,a.pl=aL n tm ->
  ∃b:S,b.pl=aL (fj Q n).2.1 tm/\DZ sz ot now (fj Q n).2.1 tm/\0<=(fj Q n).2.1/\(fj Q n).2.1<=n/\c9 8 sz ot a ((fj Q n).2.2.map (ou now)++R)=c9 8 sz ot b R
 | [],n,R,h3,hs,_,a,ha=>⟨a,ha,hs,h3.1,Int.le_refl _,rfl⟩
 |w::r,n,R,h3,hs,hw,a,ha=>by
  have hw1:=hw w (by simp)
  unfold fj;by_cases hle:w.value<=n
  .simp only[hle,dH]
   have he:=aqP (c:=⟨w.task,w.op,w.value,w.prio,now⟩) hn h3 h1 (tX hw1.1 hw0) hw1.2.1 hw1.2.2 hs hle;rw[<-ha]at he;have wW:DZ sz ot now (n - w.value) tm:=⟨hs.1,.inl (by omega)⟩
   obtain⟨b,b1,b2,b3,b4,b5⟩:=aqR hn hw0 h1 r (n - w.value) R (by omega) wW (λx hx=>hw x (by simp[hx])) (aL (n - w.value) tm) rfl
   refine⟨b,b1,b2,b3,by omega,?_⟩
   rw[<-b5];exact mo (x:=ou now w) he rfl rfl (.inr (.inl rfl))
  .simp only[hle,dG]
   exact⟨a,ha,hs,h3.1,Int.le_refl _,rfl⟩
theorem aqS(nm:D)(sz ot:Int)(s:S)(c:Cl)(hf:s.gN)(hc:¬dW 8 sz ot s=0):ev P (.call AJ [.d (.ag [nm,I' 8,I' sz,I' ot]),.d (.ag s.row),.d (.ag c.row)] [])=some (.val (.tu [.d (.ag oq),.d (I' (dW 8 sz ot s))]) []):=by
 have bS:ev P (.call nU [.d (.ag [nm,I' 8,I' sz,I' ot]),.d (.ag s.row)] [])=some (.val (.d (I' (dW 8 sz ot s))) []):=OC nm 8 sz ot s hf.sm;have he:(dW 8 sz ot s != 0)=true:=by simpa using hc
 have hlc:ev P (.call K3 [.d (.ag [nm,I' 8,I' sz,I' ot]),.d (.ag s.row),.d (.ag c.row)] [])=some (.val (.d (I' (dW 8 sz ot s))) []):=by
  rw[au XW rfl];simp only[S.row,Cl.row]at *;simp[AW,bS,he]
 rw[au XG rfl];simp only[S.row,Cl.row]at *;simp[y7,hlc,he,av,aq]
theorem aqT(nm:D)(sz ot:Int)(s:S)(c:Cl)(hf:s.gN)(gR:s.Q.length<=40)(hb:cC c=false):
  mq (ev P (.call AJ [.d (.ag [nm,I' 8,I' sz,I' ot]),.d (.ag s.row),.d (.ag c.row)] [])) 8 sz ot s c:=by
 have bS:ev P (.call nU [.d (.ag [nm,I' 8,I' sz,I' ot]),.d (.ag s.row)] [])=some (.val (.d (I' (dW 8 sz ot s))) []):=OC nm 8 sz ot s hf.sm;by_cases hc:dW 8 sz ot s=0
 .obtain⟨hn,hs⟩:=BV.1 hc
  have hsz:1<=sz/\sz<=100/\1<=ot/\ot<=1099511627776:=by
   unfold jv at hn;simp at hn;omega
  rw[hc]at bS;have hlo:=hs.lo;have hhi:=hs.hi;have Yh:=hs.t0;refine mq.of (aqp nm 8 sz ot s c (by omega) (by omega) hs.t0 hf.qn (by omega) (λw hw=>by have:=(hs.q.w w hw).2.2.2;omega) bS) λhe=>?_
  have hbd:=vn hb;unfold DW at he;obtain⟨h1,he⟩:=jh (by decide) he
  obtain⟨h2,he⟩:=jh (by decide) he
  simp at h1 h2;have hop:c.op=72\/c.op=75:=by omega
  obtain⟨n',mL,hr,hst,hn0,hn1,oa,wK,Ak⟩:=aqN (sz:=sz) (ot:=ot) (now:=c.now) (n:=s.cnt) (tm:=s.time) hsz.2.2.1 ⟨hlo,hhi⟩ (by omega)
  have eH:(s.ab true).pl=aL s.cnt s.time:=by
   unfold S.ab S.pl aL;simp[hs.own,hs.val,hs.h,hs.b,hs.c,hs.cl]
  have hcb:cC {c with op:=75}=false:=hb;have bZ:=aqO (c:={c with op:=75}) hn ⟨hlo,hhi⟩ (by simp only;omega) hcb rfl hr
  rw[<-eH]at bZ;obtain⟨q1,q2⟩:=aqQ s.Q n';have aqU:=λR=>aqR (sz:=sz) (ot:=ot) (now:=c.now) (tm:=mL) hn (by omega) ⟨oa,wK⟩ s.Q n' R ⟨hn0,hn1⟩ hst (λw hw=>⟨(hs.q.w w hw).1,(hs.q.w w hw).2.1,(hs.q.w w hw).2.2.2⟩) (aL n' mL) rfl
  unfold VQ;rw[Ak s rfl rfl];have yE:JM {s with cnt:=n',time:=mL}=(fj s.Q n').2.2.map vf:=by
   unfold JM;refine vu λw hw=>?_
   unfold o9 vf;rw[(hs.q.w w (q2.subset hw)).2.1]
  have hls:nJ {s with cnt:=n',time:=mL}={s with cnt:=(fj s.Q n').2.1,time:=mL,Q:=(fj s.Q n').1}:=rfl;rw[yE,hls];have hlen:=q1.length_le;have sC:=q2.length_le;have iJ:∀m:Int,({s with cnt:=m,time:=mL,Q:=(fj s.Q n').1}:S).gN:=λm=>⟨⟨hf.wf.h,hf.wf.b,hf.wf.c,hf.wf.k⟩,λh=>by have:=hf.qn h;simp[this,fj],hf.h,by simp only;omega,hf.b,hf.c,hf.l⟩
  obtain⟨_,_,_,hb3,hb4,_⟩:=aqU [];have aqV:∀m:Int,0<=m->m<=sz->dW 8 sz ot {s with cnt:=m,time:=mL,Q:=(fj s.Q n').1}=0:=λm m0 m1 =>
   BV.2 ⟨hn,hs.own,m0,m1,oa,by simp only;omega,hs.val,hs.cl,hs.h,hs.b,hs.c,hs.q.sub q1⟩
  have JO:∀(m:Int)(b:S),b.pl=aL m mL->b.pl=(({s with cnt:=m,time:=mL,Q:=(fj s.Q n').1}:S).ab true).pl:=λm b hb=>by
   rw[hb];unfold S.ab S.pl aL;simp[hs.own,hs.val,hs.h,hs.b,hs.c,hs.cl]
  have VZ:∀r:Ry,r.wl=(fj s.Q n').2.2.map vf->jD 8 s c r=⟨{c with op:=75},⟨c.task,75,0,true,-1⟩⟩::((fj s.Q n').2.2.map (ou c.now)++if c.op=75 then[]else gy c r):=λr h=>by
   unfold jD;rw[aK rfl,h,VF c.now hs.q.tk q2 λw hw=>(hs.q.w w hw).2.2.1]
  have V0:∀(R:List Cp)(m:Int)(s':S),(∀b:S,b.pl=aL (fj s.Q n').2.1 mL->DZ sz ot c.now (fj s.Q n').2.1 mL->(c9 8 sz ot b R).2=true/\(c9 8 sz ot b R).1.pl=(s'.ab true).pl) ->
    ig 8 sz ot s (⟨{c with op:=75},⟨c.task,75,0,true,-1⟩⟩::((fj s.Q n').2.2.map (ou c.now)++R)) s':=λR m s' h=>by
   obtain⟨b,b1,b2,_,_,b5⟩:=aqU R;unfold ig;rw[mo (x:=⟨{c with op:=75},⟨c.task,75,0,true,-1⟩⟩) bZ rfl rfl (.inr (.inl rfl)),b5];exact h b b1 b2
  unfold VP;rcases hop with ho |ho
  .rw[aE (by omega)]
   obtain⟨h3,he⟩:=jh (b:=c.op==75) (a:=1) (r:=if Ai sz c=true then 2 else if gQ s c.task=true then 17 else 0) (by decide) (by rw[ho]at he⊢;simpa using he)
   obtain⟨h5,he⟩:=jh (by decide) he
   obtain⟨h4,_⟩:=jh (b:=gQ s c.task) (a:=17) (r:=0) (by decide) he
   unfold Ai at h5;simp at h5;by_cases hq:(fj s.Q n').1=[]/\c.value<=(fj s.Q n').2.1
   .rw[aK hq]
    refine⟨iJ _,hc,aqV ((fj s.Q n').2.1 - c.value) (by omega) (by omega),by simp;omega,?_⟩
    rw[VZ _ rfl,aE (by omega)]
    refine V0 _ 0 _ λb b1 b2=>?_
    have fQ:=aqP hn (n:=(fj s.Q n').2.1) ⟨by omega,by omega⟩ (tm:=mL) ⟨oa,wK⟩ hb ho (by omega) b2 hq.2
    rw[<-b1]at fQ;simp only[gy,eR,dG];rw[show(⟨c,⟨c.task,c.op,0,true,-1⟩⟩:Cp)=fR c 0 true from rfl,mo (x:=fR c 0 true) fQ rfl rfl (.inr (.inl rfl))]
    exact⟨rfl,JO _ _ rfl⟩
   .rw[aE hq]
    refine⟨⟨⟨hf.wf.h,hf.wf.b,hf.wf.c,hf.wf.k⟩,by simp,hf.h,by simp;omega,hf.b,hf.c,hf.l⟩,hc,?_,by simp;omega,?_⟩
    .refine BV.2 ⟨hn,hs.own,hb3,by simp only;omega,oa,by simp only;omega,hs.val,hs.cl,hs.h,hs.b,hs.c,(hs.q.sub q1).snoc (by omega) ⟨?_,rfl,rfl,by simp only;omega⟩ ?_⟩
     .unfold dL kI
      simp;omega
     .unfold gQ at h4
      exact aoX q1 h4
    .rw[VZ _ rfl,aE (by omega)]
     refine V0 _ 0 _ λb b1 b2=>?_
     simp only[gy,dH,c9,Kf];rw[JO _ b b1];rfl
  .rw[aK ho]
   refine⟨iJ _,hc,aqV _ hb3 (by omega),by simp;omega,?_⟩
   rw[VZ _ rfl,aK ho];refine V0 _ 0 _ λb b1 b2=>?_
   simp only[c9,Kf];exact JO _ b b1
 .exact mq.er hc (aqS nm sz ot s c hf hc)
end Go.VS.Sp
