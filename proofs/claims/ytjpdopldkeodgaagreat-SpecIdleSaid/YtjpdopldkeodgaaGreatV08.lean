import Derived.Test.YtjpdopldkeodgaaGreatV07
import Derived.Test.YtjpdopldkeodgaaGreatV06
set_option linter.all false
set_option maxHeartbeats 1000000
namespace Go.VS.Sp
theorem AG{k sz ot:Int}{s:S}:dX k sz ot s=0↔dN k sz ot=0/\s.own = -1/\s.uY=false/\Gd sz s.Q s.C:=by
 constructor
 .intro h
  obtain⟨a,b⟩:=apB h;exact⟨a,apR.1 b⟩
 .rintro⟨a,b⟩
  unfold dX;rw[aN a,aN (apR.2 b)]
theorem Cd{k sz ot:Int}{s:S}{qn cn:Bool}{Q:List W}{C:List K}(h:dX k sz ot s=0)(hg:Gd sz Q C):dX k sz ot {s with qn:=qn,Q:=Q,cn:=cn,C:=C}=0:=by
 rw[AG]at *;exact⟨h.1,h.2.1,h.2.2.1,hg⟩
theorem j8.PG{sz:Int}{Q:List W}{C:List K}(h:j8 sz Q C)(p:W->Bool):j8 sz (Q.filter p) C :=
 ⟨h.jJ,λw hw=>h.val w (lF.1 hw).1,by have:=oM p Q;have:=h.len;omega,h.nd.sublist (xN.map _),λw hw=>h.cs w (lF.1 hw).1⟩
theorem j8.snoc{sz:Int}{Q:List W}{C:List K}(h:j8 sz Q C){w:W}(hv:dU w=true)(hl:Q.length<=95)(ht:∀x∈Q,x.task≠w.task)(hc:w.case = -1/\(w.op=70/\uX C w=true\/w.op=68)):j8 sz (Q++[w]) C:=by
 refine⟨h.jJ,?_,by simp;omega,apG h.nd ht,?_⟩
 .intro x hx
  rw[dm,ze]at hx;rcases hx with hx |rfl
  .exact h.val x hx
  .exact hv
 .intro x hx
  rw[dm,ze]at hx;rcases hx with hx |rfl
  .exact h.cs x hx
  .exact hc
theorem j8.Kg{sz:Int}{Q:List W}{C C':List K}(h:j8 sz Q C)(hs:iO sz C')(hm:∀w∈Q,∀c∈C,c.task=w.task->c∈C'):j8 sz Q C':=by
 refine⟨hs,h.val,h.len,h.nd,?_⟩;intro w hw;obtain⟨a,b⟩:=h.cs w hw;refine⟨a,?_⟩;rcases b with⟨b,hn⟩ |b
 .refine .inl ⟨b,?_⟩
  obtain⟨⟨c,hc,ht,hl⟩,hv⟩:=(Eb h.jJ).1 hn;exact(Eb hs).2 ⟨⟨c,hm w hw c hc ht,ht,hl⟩,hv⟩
 .exact .inr b
theorem aqF{sz:Int}{C C':List K}(h:iO sz C)(hs:C'.Sublist C):iO sz C':=⟨h.pw.sublist hs,λc hc=>h.el c (hs.subset hc)⟩
theorem aqG{sz:Int}{A B:List K}{c d:K}(h:iO sz (A++c::B))(ht:d.task=c.task)(hd:(d.log.length:Int)<=sz/\d.log.all num=true):iO sz (A++d::B):=by
 have qA:=h.pw;rw[oN,gE]at qA;refine⟨?_,?_⟩
 .rw[oN,gE]
  refine⟨qA.1,⟨λx hx=>by rw[ht];exact qA.2.1.1 x hx,qA.2.1.2⟩,?_⟩
  intro a ha b hb;rcases dD.1 hb with rfl |hb
  .rw[ht];exact qA.2.2 a ha c (by simp)
  .exact qA.2.2 a ha b (by simp[hb])
 .intro x hx
  rw[dm,dD]at hx;rcases hx with hx |rfl |hx
  .exact h.el x (by simp[hx])
  .have:=h.el c (by simp)
   rw[ht];exact⟨this.1,this.2.1,hd⟩
  .exact h.el x (by simp[hx])
theorem aqH{C:List K}{t:Int}(h:¬0<=lQ C t):∀c∈C,c.task≠t:=by
 rcases TK C t with⟨_,h2⟩ |⟨i,c,h1,_,_⟩
 .unfold mI at h2
  rw[KM]at h2;intro c hc e;exact h2 c hc (by simpa using e)
 .exact absurd (by omega) h
theorem aqI{sz:Int}{C:List K}{t:Int}(h:iO sz C)(hz:0<=sz)(ht:0<=t/\t<16)(hn:∀c∈C,c.task≠t):iO sz (mC C t):=by
 have hsp:C.take (j7 C t)=C.takeWhile (λc=>decide (c.task<t))/\C.drop (j7 C t)=C.dropWhile (λc=>decide (c.task<t)):=by
  have e:=QA (p:=λc:K=>decide (c.task<t)) (l:=C)
  constructor
  .conv=>lhs;arg 2;rw[<-e]
   exact uA rfl
  .conv=>lhs;arg 2;rw[<-e]
   exact Ek rfl
 have hA:∀a∈C.take (j7 C t),a.task<t:=by
  rw[hsp.1];intro a ha;have:=zi.1 (List.all_takeWhile (p:=λc:K=>decide (c.task<t)) (l:=C)) a ha
  simpa using this
 have hB:∀b∈C.drop (j7 C t),t<b.task:=by
  rw[hsp.2];intro b hb;cases hd:C.dropWhile (λc=>decide (c.task<t))with
  |nil=>rw[hd]at hb;cases hb
  |cons d D =>
   have hdt:¬d.task<t:=by
    have:=XM (λc:K=>decide (c.task<t)) C
    rw[hd]at this;simpa using this
   have hpd:(d::D).Pairwise (λa b=>a.task<b.task):=by
    rw[<-hd];exact h.pw.sublist (QD _)
   have hdm:d∈C:=(QD (λc:K=>decide (c.task<t))).subset (by rw[hd];simp)
   have hdn:=hn d hdm;rw[hd]at hb;rcases dD.1 hb with rfl |hb
   .omega
   .rw[gE]at hpd
    have:=hpd.1 b hb;omega
 unfold mC;have qA:=h.pw;rw[<-List.take_append_drop (j7 C t) C,oN]at qA;refine⟨?_,?_⟩
 .rw[oN,gE]
  refine⟨qA.1,⟨hB,qA.2.1⟩,?_⟩;intro a ha b hb;rcases dD.1 hb with rfl |hb
  .exact hA a ha
  .exact qA.2.2 a ha b hb
 .intro x hx
  rw[dm,dD]at hx;rcases hx with hx |rfl |hx
  .exact h.el x (oa hx)
  .exact⟨ht.1,ht.2,by simpa using hz,by simp⟩
  .exact h.el x (mV hx)
theorem aqJ{C:List K}{t:Int}{c:K}(h:c∈C):c∈mC C t:=by
 unfold mC;rw[<-List.take_append_drop (j7 C t) C,dm]at h;rw[dm,dD];rcases h with h |h
 .exact .inl h
 .exact .inr (.inr h)
theorem GU{k sz ot:Int}(h:dN k sz ot=0):0<=sz/\sz<=100:=by
 unfold dN at h;split at h
 .cases h
 .split at h
  .cases h
  .rename_i h2
   simp at h2;omega
theorem aqK{t p n:Int}(h:B4 t p n=false):0<=t/\t<16:=by
 unfold B4 at h;simp at h;omega
theorem aqL{s:S}{t v p n:Int}(h:jI s t 69 v p n=0):∀c∈s.C,c.task≠t:=by
 apply aqH;intro hk;unfold jI at h;split at h
 .cases h
 .split at h
  .cases h
  .split at h
   .cases h
   .split at h
    .cases h
    .split at h
     .cases h
     .rename_i h5
      simp at h5;omega
theorem aqM{k sz ot:Int}{s:S}{t op v p n:Int}(hc:dX k sz ot s=0)(he:jI s t op v p n=0)(hq:s.Q.length<=90):dX k sz ot (ap k sz ot s t op v p n).1.st=0:=by
 obtain⟨hm,_,_,hg,nN⟩:=AG.1 hc;have hfr:=apF he;have hcb:=apA he;unfold ap;simp only[hc,he,zg,Cv,dK];by_cases kY:op=69
 .subst kY
  simp only[dH];have hnt:=aqL he;refine Cd hc ⟨hg.Kg (aqI hg.jJ (GU hm).1 (aqK hcb) hnt) (λw _ c hc _=>aqJ hc),?_⟩
  intro h;exact WA (nN h) (λc hc=>aqJ hc) (λw hw _=>.inl hw)
 .simp only[kY,dK]
  by_cases mo:op=71
  .subst mo
   simp only[dH];obtain⟨A,c,B,hS,oz,_⟩:=GL (GM he (.inl rfl));have Kc:del s.C t=A++B:=by
    have eN:((A.length:Int)).toNat=A.length:=by omega
    unfold del;rw[oz,eN,hS,Es (by omega)]
    simp
   have PI:c.task=t:=by
    rename_i hk;exact Cb hk
   rw[Kc];refine Cd hc (PC (hg.Kg (aqF hg.jJ (by rw[hS];exact Hf (tj A) (Hg c B))) ?_))
   intro w hw d hd hdt;rw[hS,dm,dD]at hd;rw[dm];rcases hd with hd |rfl |hd
   .exact .inl hd
   .exact absurd (hdt.symm.trans PI) (hfr w hw)
   .exact .inr hd
  .simp only[mo,dK]
   by_cases eR:op=68
   .subst eR
    simp only[dH];have uw:=wOK (v:=v) (op:=68) hcb (by omega) (Wv he)
    cases GV:(busy s.Q||fl sz s.C s.Q)
    .simp only[fG,dK]
     have hb:busy s.Q=false/\fl sz s.C s.Q=false:=by simpa using GV
     have hno:∀w∈s.Q,w.op=70:=by
      intro w hw;rcases(hg.cs w hw).2 with⟨h,_⟩ |h
      .exact h
      .exfalso
       have:busy s.Q=true:=qC.2 ⟨w,hw,by simpa using h⟩
       rw[hb.1]at this;cases this
     have hpo:pO s.Q=[]:=by
      unfold pO;rw[List.filter_eq_nil_iff];intro w hw;simp[hno w hw]
     rw[hpo];refine Cd hc ⟨⟨PB hg.jJ (apT _ _) ?_,by simp,by simp,by simp[tks],by simp⟩,by simp⟩
     intro c jH;have h1:=hg.jJ.el c jH;unfold gw;cases hw:iE s.Q c.task 70
     .have h2:((c.log.length:Int)==sz&&!iE s.Q c.task 70)=false:=by
       have:=hb.2;unfold fl at this;rw[oK]at this;simpa using this c jH
      rw[hw]at h2;simp at h2;simp only[fG,dK,l6,vO,Kz,h1.2.2.2,xK,Wv he,QB,QC,xP];omega
     .simp only[dH]
      exact⟨h1.2.2.1,h1.2.2.2⟩
    .simp only[dH]
     refine Cd (cn:=s.cn) (C:=s.C) hc ⟨hg.snoc uw (by omega) hfr ⟨rfl,.inr rfl⟩,?_⟩
     intro _;have hfl:fl sz s.C s.Q=true:=by
      cases hf:fl sz s.C s.Q
      .rw[hf]at GV
       simp at GV
       have:busy s.Q=true:=GV
       unfold busy at this;obtain⟨w,hw,eR⟩:=qC.1 this;have:=nN ⟨w,hw,by simpa using eR⟩
       rw[hf]at this;exact this
      .rfl
     refine WA hfl (λc hc=>hc) ?_
     intro w hw ho;rw[dm,ze]at hw;rcases hw with hw |rfl
     .exact .inl hw
     .cases ho
   .have gL:op=70:=by have:=Ws he;omega
    subst gL;simp only[eR,dK];obtain⟨A,c,B,hS,oz,hk⟩:=GL (GM he (.inr rfl));have PI:=Cb hk;have eN:((A.length:Int)).toNat=A.length:=by omega
    have jH:c∈s.C:=D9 hk;rw[hk];simp only;have h1:=hg.jJ.el c jH;cases ji:c.log with
    |cons x lg =>
     simp only;have e2:s.C.set (lQ s.C t).toNat ⟨c.task,false,lg⟩=A++⟨c.task,false,lg⟩::B:=by rw[oz,eN,hS];exact Wt
     rw[e2];rw[ji]at h1;refine Cd hc (PC (hg.Kg (aqG (c:=c) (by rw[<-hS];exact hg.jJ) rfl ?_) ?_))
     .have h2:=h1.2.2.1
      have h3:=h1.2.2.2;simp at h2 h3⊢;exact⟨by omega,h3.2⟩
     .intro w hw d hd hdt
      rw[hS,dm,dD]at hd;rw[dm,dD];rcases hd with hd |rfl |hd
      .exact .inl hd
      .exact absurd (hdt.symm.trans PI) (hfr w hw)
      .exact .inr (.inr hd)
    |nil =>
     simp only;have uw:=wOK (v:=0) (op:=70) hcb (by omega) rfl
     have hn:uX s.C (W.mk t 70 0 p (-1))=true:=(Eb hg.jJ).2 ⟨⟨c,jH,PI,ji⟩,rfl⟩;have hG:=PC (qn:=false) (hg.snoc uw (by omega) hfr ⟨rfl,.inl ⟨rfl,hn⟩⟩)
     cases got (cP sz false (s.Q++[W.mk t 70 0 p (-1)]) s.C).wn t with
     |none=>exact Cd hc hG
     |some y=>exact Cd hc hG
theorem aqN{k sz ot:Int}{s:S}{t:Int}(hc:dX k sz ot s=0)(h0:(wd k sz ot s t).2=0):dX k sz ot (wd k sz ot s t).1.st=0:=by
 obtain⟨hm,_,_,hg,nN⟩:=AG.1 hc;unfold wd at h0⊢;simp only[hc,zg,Cv,dK]at h0⊢;cases ha:(s.Q.any λw=>w.task==t)
 .rw[ha]at h0
  simp at h0
 .simp only[XR,dK]
  exact Cd hc (PC (hg.PG _))
theorem WL{sz:Int}{qn:Bool}{Q:List W}{C:List K}(h:kB Q<0\/fl sz C Q=true):cP sz qn Q C=⟨qn,Q,C,[]⟩:=by
 unfold cP gX;simp only;rw[aN h]
theorem aqO{Q:List W}(h:¬∃w∈Q,w.op=68):kB Q<0:=by
 have:=Zd (Q:=Q);have h2:(Q.any λw=>w.op==68)=false:=by
  rw[oK];intro w hw eR;exact h ⟨w,hw,by simpa using eR⟩
 rw[h2]at this;simpa using this
theorem Gd.stop{sz:Int}{Q:List W}{C:List K}(h:Gd sz Q C):kB Q<0\/fl sz C Q=true:=by
 by_cases he:∃w∈Q,w.op=68
 .exact .inr (h.2 he)
 .exact .inl (aqO he)
theorem Gd.PG{sz:Int}{Q:List W}{C:List K}(h:Gd sz Q C)(p:W->Bool):Gd sz (Q.filter p) C:=by
 refine⟨h.1.PG p,?_⟩;rintro⟨w,hw,eR⟩;exact WA (h.2 ⟨w,(lF.1 hw).1,eR⟩) (λc hc=>hc) (λx hx _=>.inl (lF.1 hx).1)
theorem aqP(sz:Int):∀(n:Nat)(a:Ad),∀x∈a.wn,x∈(gX sz n a).wn
 | 0,_,_,h=>h
 |n+1,a,x,h=>by
  unfold gX;split
  .exact h
  .split
   .exact h
   .apply aqP sz n
    simp only[Ad.step,dm];exact .inl h
theorem aqQ{l:List cE}{t:Int}(h:got l t=none):∀w∈l,w.task≠t:=by
 rcases Db (p:=λw:cE=>w.task==t) l 0 with⟨_,g0⟩ |⟨i,w,g1,g2,_⟩
 .rw[KM]at g0
  intro w hw;simpa using g0 w hw
 .exfalso
  have B7:rF l t=(i:Int):=by simpa[rF]using g1
  have e:((i:Int)).toNat=i:=by omega
  unfold got at h;rw[B7,aG (by omega),e,g2]at h
  cases h
theorem aqR{sz:Int}{Q:List W}{C:List K}{w:W}(hw:w∈Q)(gL:w.op=70)(h:got (cP sz false Q C).wn w.task=none):cP sz false Q C=⟨false,Q,C,[]⟩:=by
 by_cases hc:kB Q<0\/fl sz C Q=true
 .exact WL hc
 .exfalso
  rcases D5 Q with⟨h1,_⟩ |⟨A,B,x,hQ,hp,eR⟩
  .exact hc (.inl (by omega))
  .have e:((A.length:Int)).toNat=A.length:=by omega
   have hg:Q[(kB Q).toNat]?=some x:=by rw[hp,e,hQ];simp
   have e1:Q1 Q=A++B:=by rw[hQ];exact D6 (by rw[<-hQ];exact hp)
   have Ca:w∈A++B:=by
    rw[hQ,dm,dD]at hw;rw[dm];rcases hw with hw |rfl |hw
    .exact .inl hw
    .rw[gL]at eR;cases eR
    .exact .inr hw
   have hin:(⟨w.task,70,x.value⟩:cE)∈(cP sz false Q C).wn:=by
    unfold cP gX;simp only;rw[aG hc,hg];simp only;apply aqP;simp only[Ad.step,e1,dm,dD,mX];right;unfold pW;rw[gY];refine⟨w,lF.2 ⟨Ca,by simpa using gL⟩,?_⟩
    simp[Pw,gL]
   exact aqQ h _ hin rfl
theorem aqS{k sz ot:Int}{s:S}{t:Int}(hc:dX k sz ot s=0)(ha:(s.Q.any λw=>w.task==t)=true):
  wd k sz ot s t=(⟨{s with qn:=decide ((s.Q.filter λw=>w.task != t)=[]),Q:=s.Q.filter λw=>w.task != t},false,0,false,true,[]⟩,0):=by
 obtain⟨_,_,_,hg⟩:=AG.1 hc;unfold wd;simp only[hc,zg,Cv,dK,ha,XR];rw[WL (hg.PG _).stop];simp
theorem aqT{k sz ot:Int}{s:S}{t:Int}(h:(wd k sz ot s t).2=0):dX k sz ot s=0/\(s.Q.any λw=>w.task==t)=true:=by
 unfold wd at h;by_cases hc:dX k sz ot s=0
 .simp only[hc,zg,Cv,dK]at h
  cases ha:(s.Q.any λw=>w.task==t)
  .rw[ha]at h;simp at h
  .exact⟨hc,rfl⟩
 .simp[hc]at h
theorem aqU{k sz ot:Int}{s:S}{t op v p n:Int}(h:(ap k sz ot s t op v p n).2=0):dX k sz ot s=0/\jI s t op v p n=0:=by
 unfold ap at h;by_cases hc:dX k sz ot s=0
 .by_cases he:jI s t op v p n=0
  .exact⟨hc,he⟩
  .simp[hc,he]at h
 .simp[hc]at h
theorem aqV{n:Int}{b:Bool}(h:ck n b=0):n=0/\b=true:=AF.1 h
theorem PJ(s:S)(t:Int):(rm s t).length<=s.Q.length:=(yY s t).length_le
theorem WM{x:Option dL}{k sz ot:Int}{s s':S}{d1 d2 d3:D}{bw:Bool}(hx:x=some (.val (.tu [.d (.ag [I' s'.own,I' s'.cnt,I' s'.time,hD s'.hn s'.H,qD s'.qn s'.Q,hD s'.bn s'.B,cD s'.cn s'.C,.b s'.cl,I' s'.val,d1,d2,d3,.sl 5 bw []]),.d (I' 0)]) []))
  (hf:s'.fP)(h1:dg k sz ot s=0)(h2:dg k sz ot s'=0)(hp:(s.ab true).pl=(s'.ab true).pl):Cc x k sz ot s :=
 .inr ⟨s',d1,d2,d3,bw,[],hx,hf,h1,h2,by simp,by simp[dz],by simpa[dz]using hp⟩
theorem aqW(nm:D)(sz ot:Int)(s:S)(t:Int)(hf:s.fP):
  Cc (ev P (.call EF [.d (.ag [nm,I' 1,I' sz,I' ot]),.d (.ag s.row),.d (I' t)] [])) 1 sz ot s:=by
 have hs:=hf.sm;have WN:=hf.h;have GQ:=hf.q;have kG:=hf.b;have Js:=hf.c;obtain⟨hn,qn,bn,cn,wn,h,iB⟩:=M.Wc nm 1 sz ot s.own s.cnt s.time s.hn s.H s.qn s.Q s.bn s.B s.cn (s.C.map K.row) s.cl s.val t hs.h hs.q hs.b (by simpa using hs.c)
 have hG:dg 1 sz ot s=ck (dM 1 1 sz ot) (vF s):=rfl;have he:(M.GR 1 sz ot s.own s.cnt s.time s.H s.Q s.B (s.C.map K.row) s.cl s.val t).e=0\/(M.GR 1 sz ot s.own s.cnt s.time s.H s.Q s.B (s.C.map K.row) s.cl s.val t).e≠0:=by omega
 rcases he with he |he
 .have hv:dg 1 sz ot s=0/\vF s=true/\dM 1 1 sz ot=0/\M.GR 1 sz ot s.own s.cnt s.time s.H s.Q s.B (s.C.map K.row) s.cl s.val t=⟨s.own,rm s t,false,false,none,0⟩:=by
   have e:M.dN 1 sz ot=dM 1 1 sz ot:=rfl;unfold M.GR at he⊢;rw[e]at he⊢;by_cases h1:dM 1 1 sz ot=0
   .rw[aN h1]at he⊢
    have ev:vF s=M.iX s.own s.cnt s.time s.H s.Q s.B (s.C.map K.row) s.cl s.val:=rfl;rw[<-ev]at he⊢;by_cases h2:vF s=true
    .rw[aN h2]at he⊢
     unfold M.WK at he⊢;by_cases h3:(s.Q.any λw=>w.task==t)=true
     .rw[aN h3]
      exact⟨by rw[hG,h1,h2];rfl,h2,h1,rfl⟩
     .rw[aG h3]at he
      simp[M.zr]at he
    .rw[aG h2]at he
     simp[M.zr]at he
   .rw[aG h1]at he
    simp only[M.zr]at he;exact absurd he h1
  obtain⟨hv,hok,y4,hw⟩:=hv;rw[hw]at h iB;obtain⟨⟨g1,g2,g3,g4,g5,g6,g7⟩,g8,g9⟩:=M.AB.1 hok;have hC:s.C=[]:=by simpa using g5
  have hl:=PJ s t;refine WM (s':=⟨s.own,0,0,hn,[],qn,rm s t,bn,[],cn,[],false,0⟩) h ?_ hv ?_ ?_
  .exact⟨⟨λ_=>rfl,λ_=>rfl,λ_=>rfl,by simp⟩,iB,by simp,by simp only;omega,by simp,by simp,by simp⟩
  .have hm:vF ⟨s.own,0,0,hn,[],qn,rm s t,bn,[],cn,[],false,0⟩=true:=M.aqE (M.aqD _ g9) (show(rm s t).length<=96 by omega)
   have:dg 1 sz ot ⟨s.own,0,0,hn,[],qn,rm s t,bn,[],cn,[],false,0⟩=ck (dM 1 1 sz ot) (vF ⟨s.own,0,0,hn,[],qn,rm s t,bn,[],cn,[],false,0⟩):=rfl
   rw[this,y4,hm];rfl
  .unfold S.ab S.pl
   simp[g1,g2,g3,g4,hC,g6,g7]
 .exact .inl ⟨_,he,_,_,_,_,_,_,_,_,_,_,_,_,_,h⟩
theorem aqX{s:S}(h:s.fP):s.wz:=by
 have h1:=h.h;have h2:=h.b;have h3:=h.q;have h4:=h.c;exact⟨by omega,by omega,by omega,by omega,λc hc=>⟨h.wf.k c hc,by have:=h.l c hc;omega⟩,h.qn,h.wf.c⟩
theorem aqY(nm:D)(sz ot:Int)(s:S)(t:Int)(hf:s.fP):
  Cc (ev P (.call HE [.d (.ag [nm,I' 7,I' sz,I' ot]),.d (.ag s.row),.d (I' t)] [])) 7 sz ot s:=by
 have h:=V8 nm 7 sz ot s (aqX hf) t;have hG:dg 7 sz ot s=dX 7 sz ot s:=rfl;have hl:=PJ s t;have GQ:=hf.q;by_cases he:(wd 7 sz ot s t).2=0
 .obtain⟨h1,h2⟩:=aqT he
  have hv:=aqS h1 h2;have hg:=aqN h1 he;rw[hv]at h hg;refine WM (s':=s.rI t) h ?_ (by rw[hG];exact h1) hg ?_
  .exact⟨⟨hf.wf.h,hf.wf.b,hf.wf.c,hf.wf.k⟩,λh=>by unfold S.rI at *;simpa using h,hf.h,by unfold S.rI;simp only;omega,hf.b,hf.c,hf.l⟩
  .rfl
 .exact .inl ⟨_,he,_,_,_,_,_,_,_,_,_,_,_,_,_,h⟩
def aW(own:Int)(H:List Int):S:=⟨own,0,0,false,H,false,[],false,[],false,[],false,0⟩
theorem aqZ{p:W->Bool}{x:W}:∀{l:List W},x∈l.takeWhile p->p x=true
 | [],h=>by simp at h
 |a::l,h=>by
  rw[oL]at h;split at h
  .rename_i ha
   rcases dD.1 h with rfl |h
   .exact ha
   .exact aqZ h
  .simp at h
theorem WO{sz ot own:Int}{H:List Int}(hn:dM 2 2 sz ot=0)(ho:own = -1\/(cZ own=true/\H=[]))(h1:∀x∈H,cZ x=true)(h2:R.gH H):cY 2 sz ot (aW own H)=true:=by
 have hH:tT none H=true:=(NS H none).2 ⟨by simp,h2,h1⟩
 unfold cY gS gq jq iG okW Dd aW;rcases ho with rfl |⟨ho,rfl⟩
 .simp[hn,ck,hH]
 .simp[hn,ck,hH,ho]
theorem aq0{sz ot now:Int}(hw0:0<=now/\now<=1099511627776){H:List Int}{w:W}(hn:dM 2 2 sz ot=0)(h1:∀x∈H,cZ x=true)(h2:R.gH H)(hv:dU w=true)(hop:w.op=53)(Kh:w.task∉H):
  eE 2 sz ot (aW (-1) H) ⟨w.task,w.op,w.value,w.prio,now⟩=(aW (-1) (eZ w.task H),0,true,0):=by
 have ht:=(sR hv).1;have hr:raw 2 sz ot (aW (-1) H) ⟨w.task,w.op,w.value,w.prio,now⟩=(aW (-1) (eZ w.task H),0,true,0):=by
  have e:¬(-1=w.task):=by omega
  unfold raw eW;simp[hop,aW,gd,Kh,e]
 rw[vH (WO hn (.inl rfl) h1 h2) (ux hv hw0) (by unfold dJ;simp[hop]) (by unfold fit;simp[hop])]
 .exact hr
 .rw[hr]
theorem aq1{sz ot now:Int}(hw0:0<=now/\now<=1099511627776){w:W}(hn:dM 2 2 sz ot=0)(hv:dU w=true)(hop:w.op=55):
  eE 2 sz ot (aW (-1) []) ⟨w.task,w.op,w.value,w.prio,now⟩=(aW w.task [],0,true,0):=by
 have ht:=(sR hv).1;have hr:raw 2 sz ot (aW (-1) []) ⟨w.task,w.op,w.value,w.prio,now⟩=(aW w.task [],0,true,0):=by
  have e:¬(-1=w.task):=by omega
  unfold raw eW;simp[hop,aW,gd,e]
 rw[vH (WO hn (.inl rfl) (by simp) List.Pairwise.nil) (ux hv hw0) (by unfold dJ;simp[hop]) (by unfold fit;simp[hop])]
 .exact hr
 .rw[hr]
theorem aq2{sz ot now:Int}(hw0:0<=now/\now<=1099511627776)(hn:dM 2 2 sz ot=0):∀(L:List W)(H:List Int),(∀w∈L,dU w=true/\w.op=53/\w.task∉H)->L.Pairwise (λa b=>a.task≠b.task)->(∀x∈H,cZ x=true)->R.gH H ->
  ∀a:S,a.pl=aW (-1) H->(dz 2 sz ot a (L.map (oI now))).2=true/\(dz 2 sz ot a (L.map (oI now))).1.pl=aW (-1) (R.jj H L)
 | [],H,_,_,_,_,a,ha=>by simp[dz,ha,R.jj]
 |w::r,H,hw,hd,h1,h2,a,ha=>by
  rw[gE]at hd;obtain⟨g1,g2,g3⟩:=hw w (by simp)
  have he:=aq0 hw0 hn h1 h2 g1 g2 g3;rw[<-ha]at he;rw[gm,nC (x:=oI now w) he rfl rfl (.inl (by simp[oI,g2]))]
  have e:R.jj H (w::r)=R.jj (eZ w.task H) r:=rfl;rw[e];have hm:∀x,x∈eZ w.task H↔x=w.task\/x∈H:=λx=>R.GD
  refine aq2 hw0 hn r (eZ w.task H) (λx hx=>?_) hd.2 (λx hx=>?_) (R.Pp h2 g3) _ rfl
  .obtain⟨q1,q2,q3⟩:=hw x (by simp[hx])
   refine⟨q1,q2,λhin=>?_⟩
   rcases(hm _).1 hin with e |e
   .exact hd.1 x hx e.symm
   .exact q3 e
  .rcases(hm _).1 hx with e |e
   .have:=sR g1
    rw[e];unfold cZ;simp;omega
   .exact h1 x e
theorem WR:∀{l:List Int}(k:Int),(∀x∈l,k<=x/\x<16)->l.Pairwise (·<·)->l.length<=(16 - k).toNat
 | [],_,_,_=>by simp
 |a::r,k,h,hp=>by
  rw[gE]at hp;have h1:=h a (by simp)
  have:=WR (a+1) (λx hx=>⟨hp.1 x hx,(h x (by simp[hx])).2⟩) hp.2
  simp only[ir];omega
theorem aq3{sz ot now:Int}(hw0:0<=now/\now<=1099511627776)(hn:dM 2 2 sz ot=0){own:Int}{H:List Int}{L:List W}(m2:∀x∈H,cZ x=true)(m3:R.gH H)(GW:∀w∈L,R.D2 own H w)(PK:L.Pairwise λa b=>a.task≠b.task):
  (R.gW own H L).2.2.2.Sublist L/\(R.gW own H L).2.2.1.length<=L.length/\∀a:S,a.pl=aW own H->(dz 2 sz ot a ((R.gW own H L).2.2.2.map (oI now))).2=true/\(dz 2 sz ot a ((R.gW own H L).2.2.2.map (oI now))).1.pl=aW (R.gW own H L).1 (R.gW own H L).2.1:=by
 cases L with
 |nil=>exact⟨by simp[R.gW],by simp[R.gW],λa ha=>by simp[dz,R.gW,ha]⟩
 |cons w r =>
  rw[R.J2];have hw:=GW w (by simp)
  rw[gE]at PK;split
  .exact⟨by simp,by simp,λa ha=>by simp[dz,ha]⟩
  .rename_i yL
   have ho:own = -1:=vR λh=>yL (.inl h)
   split
   .rename_i lT
    have hH:H=[]:=vR λh=>yL (.inr ⟨lT,h⟩)
    refine⟨by simp,by simp,λa ha=>?_⟩
    have he:=aq1 (sz:=sz) (ot:=ot) hw0 hn hw.v lT;rw[hH,ho]at ha;rw[<-ha]at he;simp only[List.map_singleton];rw[nC (x:=oI now w) he rfl rfl (.inl (by simp[oI,lT]))]
    simp[dz,hH];rfl
   .rename_i lT
    have Dk:w.op=53:=hw.op.resolve_right lT;have hsub:(w::r.takeWhile λw=>w.op != 55).Sublist (w::r):=(XN _).cons_cons _
    refine⟨hsub,?_,λa ha=>?_⟩
    .have:=(QD (λw:W=>w.op != 55) (l:=r)).length_le
     simp only[ir];omega
    .rw[ho]at ha⊢
     refine aq2 hw0 hn _ H (λx hx=>?_) ((gE.2 PK).sublist hsub) m2 m3 _ ha
     have mj:=GW x (hsub.subset hx);refine⟨mj.v,?_,mj.yT⟩;rcases dD.1 hx with rfl |hx
     .exact Dk
     .have:=aqZ hx
      exact mj.op.resolve_right (by simpa using this)
theorem aq4{own:Int}{H:List Int}{Q:List W}(h:R.MV own H Q):H.length<=16:=by
 obtain⟨v1,v2⟩:=R.We.1 h.vh;have:=WR 0 (λx hx=>by have:=v1 x hx;unfold R.cZ at this;simpa using this) v2
 omega
theorem PL{sz ot:Int}{s:S}:dg 2 sz ot s=0↔dM 2 2 sz ot=0/\R.MV s.own s.H s.Q/\s.cnt=0/\s.time=0/\s.B=[]/\s.C=[]/\s.cl=false/\s.val=0:=by
 have e:dg 2 sz ot s=ck (dM 2 2 sz ot) (D3 s):=rfl;have e2:D3 s=R.iX s.own s.cnt s.time s.H s.Q s.B (s.C.map K.row) s.cl s.val:=rfl;rw[e,AF,e2,R.AB,Cu]
theorem aq5(nm:D)(sz ot:Int)(s:S)(t:Int)(hf:s.fP):
  Cc (ev P (.call A6 [.d (.ag [nm,I' 2,I' sz,I' ot]),.d (.ag s.row),.d (I' t)] [])) 2 sz ot s:=by
 have hs:=hf.sm;have WN:=hf.h;have GQ:=hf.q;have kG:=hf.b;have Js:=hf.c;obtain⟨bn,cn,hn,qn,wn,h,GX,iB⟩:=R.Wc nm 2 sz ot s.own s.cnt s.time s.hn s.H s.qn s.Q s.bn s.B s.cn (s.C.map K.row) s.cl s.val t hf.wf.1 hf.qn (by omega) (by omega)
 have hG:dg 2 sz ot s=ck (dM 2 2 sz ot) (D3 s):=rfl;by_cases hc:R.dX 2 sz ot s.own s.cnt s.time s.H s.Q s.B (s.C.map K.row) s.cl s.val=0
 .rw[aN hc]at h GX iB
  have hc0:dg 2 sz ot s=0:=hc;obtain⟨y4,hok⟩:=aqV (hG▸hc0);obtain⟨hM,g1,g2,g3,g4,g5,g6⟩:=R.V9 hc;have hC:s.C=[]:=by simpa using g4
  cases hq:fK s t
  .have e:R.sD s.own s.H s.Q t=R.zr 7:=by
    unfold R.sD;rw[aG (by unfold fK at hq;rw[hq];simp)]
   rw[e]at h;exact .inl ⟨7,by decide,_,_,_,_,_,_,_,_,_,_,_,_,_,h⟩
  .have e:R.sD s.own s.H s.Q t=⟨(R.gW s.own s.H (rm s t)).1,(R.gW s.own s.H (rm s t)).2.1,(R.gW s.own s.H (rm s t)).2.2.1,false,false,(R.gW s.own s.H (rm s t)).2.2.2,0⟩:=by
    unfold R.sD;rw[aN (by unfold fK at hq;exact hq)]
    rfl
   have WS:=R.aod (t:=t) hM (by rw[e])
   rw[e]at h GX iB WS;obtain⟨m1,m2,m3,m4,m5,m6,m7⟩:=R.vE.1 hM;have zX:=yY s t;have GW:∀w∈rm s t,R.D2 s.own s.H w:=λw hw=>m5 w (zX.subset hw)
   have PK:=m6.sublist zX;have hl:=PJ s t;have fN:(s.ab true).pl=aW s.own s.H:=by
    unfold S.ab S.pl aW;simp[g1,g2,g3,hC,g5,g6]
   have GY:0<=s.time/\s.time<=1099511627776:=by rw[g2];decide
   obtain⟨hsub,hlq,hpp⟩:=aq3 GY y4 m2 m3 GW PK;obtain⟨Pq,FD⟩:=hpp (s.ab true) fN;generalize R.gW s.own s.H (rm s t)=x at *;obtain⟨x1,x2,x3,L⟩:=x;simp only at *;have hLl:=hsub.length_le;have vI:=Kf s.time m6 (hsub.trans zX) λw hw=>(m5 w hw).cs
   have mj:=aq4 WS;refine .inr ⟨⟨x1,0,0,hn,x2,qn,x3,bn,[],cn,[],false,0⟩,.b false,I' 0,.b false,wn,L.map tg,?_,?_,hc0,?_,by simp;omega,?_,?_⟩
   .rw[h,ke]
    rfl
   .exact⟨⟨GX,λ_=>rfl,λ_=>rfl,by simp⟩,iB,by simp only;omega,by simp only;omega,by simp,by simp,by simp⟩
   .have hm:D3 ⟨x1,0,0,hn,x2,qn,x3,bn,[],cn,[],false,0⟩=true:=R.AB.2 ⟨WS,rfl,rfl,rfl,rfl,rfl,rfl⟩
    have:dg 2 sz ot ⟨x1,0,0,hn,x2,qn,x3,bn,[],cn,[],false,0⟩=ck (dM 2 2 sz ot) (D3 ⟨x1,0,0,hn,x2,qn,x3,bn,[],cn,[],false,0⟩):=rfl
    rw[this,y4,hm];rfl
   .rw[vI];exact Pq
   .rw[vI,FD]
    rfl
 .rw[aG hc]at h
  exact .inl ⟨1,by decide,_,_,_,_,_,_,_,_,_,_,_,_,_,h⟩
theorem PM{x:Option dL}{k sz ot t:Int}{s:S}(hk2:k=5\/k=6\/k=8\/k=9)(hf:s.fP){c:Int}(hc0:dg k sz ot s=c)(hW:Wd x s c t):Cc x k sz ot s:=by
 subst hc0;unfold Wd at hW;have hl:=PJ s t;have GQ:=hf.q;by_cases hc:dg k sz ot s=0/\fK s t=true
 .rw[aN hc]at hW
  refine WM (s':=s.rI t) hW ?_ hc.1 (aqg t hk2 hc.1) rfl;exact⟨⟨hf.wf.h,hf.wf.b,hf.wf.c,hf.wf.k⟩,λh=>by unfold S.rI at *;simpa using h,hf.h,by unfold S.rI;simp only;omega,hf.b,hf.c,hf.l⟩
 .rw[aG hc]at hW
  obtain⟨e,he,hW⟩:=hW;exact .inl ⟨e,he,_,_,_,_,_,_,_,_,_,_,_,_,_,hW⟩
structure Ry where
 st:S
 pk:Bool
 v:Int
 ok:Bool
 bw:Bool
 wl:List Wk
def Ry.row(r:Ry):List D:=[I' r.st.own,I' r.st.cnt,I' r.st.time,hD r.st.hn r.st.H,qD r.st.qn r.st.Q,hD r.st.bn r.st.B,cD r.st.cn r.st.C,.b r.st.cl,I' r.st.val,.b r.pk,I' r.v,.b r.ok,.sl 5 r.bw (r.wl.map Wk.row)]
def pQ(x:Option dL)(e:Int)(r:Ry):Prop :=
 (e=0/\x=some (.val (.tu [.d (.ag r.row),.d (I' 0)]) []))\/(e≠0/\∃r1 r2 r3 r4 r5 r6 r7 r8 r9 nY nZ n8 dR:D,x=some (.val (.tu [.d (.ag [r1,r2,r3,r4,r5,r6,r7,r8,r9,nY,nZ,n8,dR]),.d (I' e)]) []))
theorem pQ.er{x:Option dL}{e:Int}{r:Ry}{r1 r2 r3 r4 r5 r6 r7 r8 r9 nY nZ n8 dR:D}(he:e≠0)(h:x=some (.val (.tu [.d (.ag [r1,r2,r3,r4,r5,r6,r7,r8,r9,nY,nZ,n8,dR]),.d (I' e)]) [])):pQ x e r :=
 .inr ⟨he,_,_,_,_,_,_,_,_,_,_,_,_,_,h⟩
theorem aq6(nl:Bool)(Q:List W)(w:W)(h0:dY Q=0)(h1:dU w=true)(h2:Q.length<96):
  ev P (.call Ri [.d (I' 1),.d (qD nl Q),.d (.ag w.row)] [])=some (.val (.tu [.d (qD false (Q++[w])),.d (I' 0)]) []):=by
 have hC:=uW nl Q;rw[h0]at hC;have hv:=Fx w.task w.op w.value w.prio w.case
 rw[W.eta,h1]at hv;have hC:ev P (.call qM [.d (I' 1),.d (qD nl Q)] [])=some (.val (.d (I' 0)) []):=hC;have hL:ev P (.loop 0 [0,1,5,9] Sr [(0,.d (I' 1)),(1,.d (qD nl Q)),(5,.d (.ref [I' w.task,I' w.op,I' w.value,I' w.prio,I' w.case])),(9,.d (I' Q.length))] [])=some (.out (.exit 0) [(1,.d (qD nl Q)),(5,.d (.ref [I' w.task,I' w.op,I' w.value,I' w.prio,I' w.case])),(9,.d (I' Q.length))] []):=by
  rw[bY]
  conv=>lhs;arg 4;unfold Sr
  simp
 rw[au adX rfl];cases Q with
 |nil =>
  have hr:1<=room:=by decide
  simp at hL;simp[MM,W.row,hC,hv,hL,wm,hr]
 |cons a r =>
  simp at h2;have hw:IntKind.i64.wrap ((r.length:Int)+1+1)=r.length+1+1:=wrap_i64 (by omega) (by omega)
  have hr:r.length+1+1<=room:=by unfold room;omega
  have h5:((r.length:Int)+1==96)=false:=by simp;omega
  have h6:(0:Int)<=(r.length:Int)+1+1:=by omega
  have h7:((r.length:Int)+1+1).toNat=r.length+1+1:=by omega
  simp at hL;have h8:(r.length+1+1)*5<=16777216:=by omega
  have h9:(0:Int)<=(r.length:Int)+1:=by omega
  have BS:r.length+1<=room:=by omega
  have gV:List.take (r.length+1) (r.map W.row++[[I' w.task,I' w.op,I' w.value,I' w.prio,I' w.case]])=r.map W.row++[[I' w.task,I' w.op,I' w.value,I' w.prio,I' w.case]]:=gD (by simp)
  simp[MM,W.row,hC,hv,hL,hw,hr,BS,h8,h9,gV,h5,h6,h7,eP,fQ,ak,cut,bA,aq,aZ,cG,cy,V.aY]
def n9(cnt n:Int)(any:Bool)(Q:List W):Bool:=decide (n<=cnt)&&(any||Q.isEmpty)
theorem aq7(s:S)(cnt:Int)(nl:Bool)(Q:List W)(any:Bool)(n:Int)(h0:0<=n/\n<=1000)(hc:0<=cnt/\cnt<=1000):
  ev P (.call LD [.loc 0 0 0,.d (I' n)] [.aI 10 true [kJ s cnt (qD nl Q) any]])=some (.val (.d (.b (n9 cnt n any Q))) [.aI 10 true [kJ s (if n9 cnt n any Q=true then cnt - n else cnt) (qD nl Q) any]]):=by
 have hw:IntKind.i64.wrap (cnt - n)=cnt - n:=wrap_i64 (by omega) (by omega)
 rw[au adW rfl];unfold n9;by_cases h:n<=cnt
 .have h':¬cnt<n:=by omega
  cases any
  .cases Q with
   |nil=>simp[E9,kJ,h,h',hw,av,az,sub,ak,cut,bA,aq]
   |cons a r =>
    have h3:(0:Int)<(r.length:Int)+1:=by omega
    simp[E9,kJ,h,h',h3,hw,av,az,sub,ak,cut,bA,aq]
  .simp[E9,kJ,h,h',hw,av,az,sub,ak,cut,bA,aq]
 .have h':cnt<n:=by omega
  simp[E9,kJ,h,h',az,sub,ak,cut,bA,aq]
def cw(c:Cl):W:=⟨c.task,c.op,c.value,c.prio,-1⟩
theorem aq8(s:S)(cnt:Int)(nl:Bool)(Q:List W)(any:Bool)(c:Cl)(h0:0<=c.value/\c.value<=1000)(hc:0<=cnt/\cnt<=1000)(hq:dY Q=0)(hl:Q.length<96)(hw:dU (cw c)=true):
  ev P (.call Rh [.rf [.loc 0 0 0],.d (.ref c.row)] [.aI 10 true [kJ s cnt (qD nl Q) any]]) =
   if n9 cnt c.value any Q=true then some (.val (.d (GA false true (.sl 5 true []))) [.aI 10 true [kJ s (cnt - c.value) (qD nl Q) any]])
   else some (.val (.d (GA true false (.sl 5 true []))) [.aI 10 true [kJ s cnt (qD false (Q++[cw c])) any]]):=by
 have hT:=aq7 s cnt nl Q any c.value h0 hc;have hP:=aq6 nl Q _ hq hw hl;obtain⟨b1,q1,e1⟩:∃b r,qD nl Q = .sl 5 b r:=⟨_,_,rfl⟩;obtain⟨b2,q2,e2⟩:∃b r,qD false (Q++[cw c]) = .sl 5 b r:=⟨_,_,rfl⟩;rw[e1]at hT hP⊢;rw[e2]at hP⊢;simp only[W.row,cw]at hP;unfold kJ at hT⊢;rw[au adV rfl];generalize n9 cnt c.value any Q=b at *;cases b
 .rw[aG (by simp)]at hT⊢
  simp[ML,Cl.row,aD,sub,aE,back,hT,hP,az,av,ak,cut,bA,aq,V.aY]
 .rw[aN rfl]at hT⊢
  simp[ML,Cl.row,aD,sub,aE,back,hT,az,av,ak,cut,bA,aq,V.aY]
theorem aq9(s:S)(cnt:Int)(nl:Bool)(Q:List W)(any:Bool)(c:Cl)(h0:0<=c.value/\c.value<=1000)(hc:0<=cnt/\cnt<=1000):
  ev P (.call Rj [.rf [.loc 0 0 0],.d (.ref c.row)] [.aI 10 true [kJ s cnt (qD nl Q) any]]) =
   some (.val (.d (GA false (n9 cnt c.value any Q) (.sl 5 true []))) [.aI 10 true [kJ s (if n9 cnt c.value any Q=true then cnt - c.value else cnt) (qD nl Q) any]]):=by
 have hT:=aq7 s cnt nl Q any c.value h0 hc;obtain⟨b1,q1,e1⟩:∃b r,qD nl Q = .sl 5 b r:=⟨_,_,rfl⟩;rw[e1]at hT⊢;unfold kJ at hT⊢;rw[au adY rfl];generalize n9 cnt c.value any Q=b at *;generalize (if b=true then cnt - c.value else cnt)=n at *
 simp[Ss,Cl.row,aD,sub,aE,back,hT,az,av,ak,cut,bA,aq,V.aY]
def Ki:List W->V
 | []=>.d (GA false true (.sl 5 true []))
 |_::r=>.ag [.d (I' 0),.d (I' 0),.d (I' 0),.d (.sl 1 true []),.d (.sl 5 true []),.d (.sl 1 true []),.d (.sl 2 true []),.d (.b false),.d (I' 0),.d (.b false),.d (I' 0),.d (.b true),.aR 1 0 (r.length+1)]
theorem ara(s:S)(cnt:Int)(nl:Bool)(Q:List W)(any:Bool)(c:Cl)(h0:0<=c.value/\c.value<=1000)(hc:0<=cnt/\cnt<=1000)(hq:Q.length<=500):
  ev P (.call Rk [.rf [.loc 0 0 0],.d (.ref c.row)] [.aI 10 true [kJ s cnt (qD nl Q) any]]) =
   some (.val (Ki (ej any ⟨false,cnt+c.value,[],[]⟩ Q).G) (.aI 10 true [kJ s (ej any ⟨false,cnt+c.value,[],[]⟩ Q).left (qO (ej any ⟨false,cnt+c.value,[],[]⟩ Q).O) any]::wH (ej any ⟨false,cnt+c.value,[],[]⟩ Q).G)):=by
 have hS:=ap9 s (cnt+c.value) nl Q any hq (by omega)
 have hw:IntKind.i64.wrap (cnt+c.value)=cnt+c.value:=wrap_i64 (by omega) (by omega)
 generalize ej any ⟨false,cnt+c.value,[],[]⟩ Q=g at *;obtain⟨st,left,O,G⟩:=g;obtain⟨b1,q1,e1⟩:∃b r,qD nl Q = .sl 5 b r:=⟨_,_,rfl⟩;obtain⟨b2,q2,e2⟩:∃b r,qO O = .sl 5 b r:=⟨_,_,rfl⟩;simp only at hS⊢;rw[e1,e2]at hS;rw[e1,e2];unfold kJ at hS⊢;rw[au adZ rfl];cases G with
 |nil =>
  simp[wV,wH]at hS;simp[MN,Cl.row,Ki,wV,wH,hw,hS,aJ,aD,sub,aE,back,az,av,ak,cut,bA,aq,V.aY,bt,aX,bg,aO,aP,aZ,cG,cy]
 |cons a r =>
  simp[wV,wH,vG]at hS;simp[MN,Cl.row,Ki,wV,wH,hw,hS,vG,aJ,aD,sub,aE,back,az,av,ak,cut,bA,aq,V.aY,bt,aX,bg,aO,aP,aZ,cG,cy]
def Ed(sz:Int)(s:S)(c:Cl):Int:=if cM c then 2 else if(c.op != 60&&c.op != 61&&c.op != 62)then 8 else if(decide (c.value<1)||decide (sz<c.value))then 2 else if(fK s c.task||(c.op==62&&decide (sz<s.cnt+c.value)))then 17 else 0
theorem arb(nm:D)(k sz ot:Int)(s:S)(c:Cl)(hz:sz<=100)(hc:0<=s.cnt/\s.cnt<=sz)(hn:s.Q.length<=1000000):
  ev P (.call Rg [.d (.ag [nm,I' k,I' sz,I' ot]),.d (.ag s.row),.d (.ag c.row)] [])=some (.val (.d (I' (Ed sz s c))) []):=by
 obtain⟨i,hF⟩:=mR s c.task hn;rw[au adU rfl];unfold Ed;simp only[S.row]at *;cases h1:cM c
 .unfold cM at h1
  cases h2:(c.op != 60&&c.op != 61&&c.op != 62)
  .cases h3:(decide (c.value<1)||decide (sz<c.value))
   .have h3':=h3
    simp at h3';have hw:IntKind.i64.wrap (s.cnt+c.value)=s.cnt+c.value:=wrap_i64 (by omega) (by omega)
    cases h5:fK s c.task
    .rw[h5]at hF
     cases h4:(c.op==62&&decide (sz<s.cnt+c.value))
     .simp[Bg,Cl.row,h1,h2,h3,hF,hw,h4]
     .simp[Bg,Cl.row,h1,h2,h3,hF,hw,h4]
    .rw[h5]at hF
     simp[Bg,Cl.row,h1,h2,h3,hF]
   .simp[Bg,Cl.row,h1,h2,h3]
  .simp[Bg,Cl.row,h1,h2]
 .unfold cM at h1
  simp[Bg,Cl.row,h1]
def WU(ot:Int)(s:S)(c:Cl):Ry :=
 if c.op=60 then(if n9 s.cnt c.value (ot==1) s.Q=true then⟨{s with cnt:=s.cnt - c.value},false,0,true,true,[]⟩else⟨{s with qn:=false,Q:=s.Q++[cw c]},true,0,false,true,[]⟩)
 else if c.op=61 then⟨{s with cnt:=if n9 s.cnt c.value (ot==1) s.Q=true then s.cnt - c.value else s.cnt},false,0,n9 s.cnt c.value (ot==1) s.Q,true,[]⟩
 else⟨s.rD (kK ot (s.cnt+c.value) s.Q).left (kK ot (s.cnt+c.value) s.Q).O,false,0,true,decide ((kK ot (s.cnt+c.value) s.Q).G=[]),(kK ot (s.cnt+c.value) s.Q).G.map tg⟩
theorem iJ{b:Bool}{a r:Int}(ha:a≠0)(h:(if b=true then a else r)=0):b=false/\r=0:=by
 cases b
 .exact⟨rfl,by simpa using h⟩
 .exact absurd (by simpa using h) ha
set_option maxHeartbeats 4000000 in
theorem arc(nm:D)(k sz ot:Int)(s:S)(c:Cl)(hz:sz<=100)(hc:0<=s.cnt/\s.cnt<=sz)(hq:dY s.Q=0)(hl:s.Q.length<96)(bQ:ev P (.call p8 [.d (.ag [nm,I' k,I' sz,I' ot]),.d (.ag s.row)] [])=some (.val (.d (I' 0)) [])):
  pQ (ev P (.call zu [.d (.ag [nm,I' k,I' sz,I' ot]),.d (.ag s.row),.d (.ag c.row)] [])) (Ed sz s c) (WU ot s c):=by
 have bR:=arb nm k sz ot s c hz hc (by omega)
 by_cases he:Ed sz s c=0
 .refine .inl ⟨he,?_⟩
  rw[he]at bR;unfold Ed at he;obtain⟨h1,he⟩:=iJ (by decide) he
  obtain⟨h2,he⟩:=iJ (by decide) he
  obtain⟨h3,_⟩:=iJ (by decide) he
  simp at h3;have hv:0<=c.value/\c.value<=1000:=by omega
  have Kj:0<=s.cnt/\s.cnt<=1000:=by omega
  have hop:c.op=60\/c.op=61\/c.op=62:=by simp at h2;omega
  rw[au Ts rfl];unfold WU;rcases hop with ho |ho |ho
  .have uw:dU (cw c)=true:=by
    unfold cM at h1;simp at h1;unfold dU kR cw;simp;omega
   have a1:=aq8 s s.cnt s.qn s.Q (ot==1) c hv Kj hq hl uw;rw[aN ho];obtain⟨b1,q1,e1⟩:∃b r,qD s.qn s.Q = .sl 5 b r:=⟨_,_,rfl⟩;obtain⟨b2,q2,e2⟩:∃b r,qD false (s.Q++[cw c]) = .sl 5 b r:=⟨_,_,rfl⟩;rw[e1]at a1;rw[e2]at a1;unfold kJ at a1;simp only[S.row,e1]at bQ bR⊢;generalize n9 s.cnt c.value (ot==1) s.Q=b at *;simp only[Cl.row,ho]at *;cases b
   .rw[aG (by simp)]at a1⊢
    simp only[Ry.row,e2];cases hb:ot==1<;>rw[hb]at a1 <;>
    simp[zD,bQ,bR,hb,a1,aJ,aD,sub,aE,back,az,av,ak,cut,bA,aq,V.aY]
   .rw[aN rfl]at a1⊢
    simp only[Ry.row,e1];cases hb:ot==1<;>rw[hb]at a1 <;>
    simp[zD,bQ,bR,hb,a1,aJ,aD,sub,aE,back,az,av,ak,cut,bA,aq,V.aY]
  .have a1:=aq9 s s.cnt s.qn s.Q (ot==1) c hv Kj
   rw[aG (by omega),aN ho]
   obtain⟨b1,q1,e1⟩:∃b r,qD s.qn s.Q = .sl 5 b r:=⟨_,_,rfl⟩;rw[e1]at a1;unfold kJ at a1;simp only[S.row,e1]at bQ bR⊢;generalize n9 s.cnt c.value (ot==1) s.Q=b at *;generalize (if b=true then s.cnt - c.value else s.cnt)=n at *
   simp only[Cl.row,ho,Ry.row,e1]at *;cases hb:ot==1<;>rw[hb]at a1 <;>
   simp[zD,bQ,bR,hb,a1,aJ,aD,sub,aE,back,az,av,ak,cut,bA,aq,V.aY]
  .have a1:=ara s s.cnt s.qn s.Q (ot==1) c hv Kj (by omega)
   have eg:ej (ot==1) ⟨false,s.cnt+c.value,[],[]⟩ s.Q=kK ot (s.cnt+c.value) s.Q:=rfl;rw[eg]at a1;rw[aG (by omega),aG (by omega)]
   generalize kK ot (s.cnt+c.value) s.Q=g at *;obtain⟨st,left,O,G⟩:=g;simp only[S.rD]at *;obtain⟨b1,q1,e1⟩:∃b r,qD s.qn s.Q = .sl 5 b r:=⟨_,_,rfl⟩;obtain⟨b2,q2,e2⟩:∃b r,qD (decide (O=[])) O = .sl 5 b r:=⟨_,_,rfl⟩;have e2':qO O = .sl 5 b2 q2:=e2;rw[e1,e2']at a1;unfold kJ at a1;simp only[S.row,e1]at bQ bR⊢;simp only[Cl.row,ho,Ry.row,e2]at *;cases hb:ot==1<;>rw[hb]at a1;all_goals
    cases G with
    |nil =>
     simp only[Ki,wH]at a1;simp[zD,bQ,bR,hb,a1,aJ,aD,sub,aE,back,az,av,ak,cut,bA,aq,V.aY]
    |cons a r =>
     simp[Ki,wH,vG]at a1;simp[zD,bQ,bR,hb,a1,tg,vG,Wk.row,aJ,aD,sub,aE,back,az,av,ak,cut,bA,aq,V.aY,bt,aX,bg,aZ,cG,cy]
 .refine .inr ⟨he,?_⟩
  generalize Ed sz s c=e at *;have he':(e != 0)=true:=by simpa using he
  have:ev P (.call zu [.d (.ag [nm,I' k,I' sz,I' ot]),.d (.ag s.row),.d (.ag c.row)] [])=some (.val (.tu [.d (.ag ny),.d (I' e)]) []):=by
   rw[au Ts rfl];simp only[S.row,Cl.row]at *;simp[zD,bQ,bR,he',az,av]
  exact⟨_,_,_,_,_,_,_,_,_,_,_,_,_,this⟩
theorem pS{α β:Type}{f:α->β}{Q:List α}{x:β}:List.take (Q.length+1) (Q.map f++[x])=Q.map f++[x]:=gD (by simp)
def AH(v:Int)(w:W):Wk:=⟨w.task,w.op,v,true,-1⟩
def fV:List W->V
 | []=>.d (.sl 5 true [])
 |_::r=>.aR 2 0 (r.length+1)
def Ce(v:Int):List W->List O
 | []=>[]
 |a::r=>[.aI 5 true ((a::r).map λw=>(AH v w).row)]
theorem ard(c z:List D)(v:Int)(Q:List W)(b:Bool)(hQ:Q.length<=500):∀(suf pre:List W),Q=pre++suf ->
  ev P (.loop 0 [1,2,4,5,10,11,12] M5 [(1,.d (I' v)),(2,.loc 0 0 0),(4,.loc 1 0 0),(5,fV pre),(10,.d (qD b Q)),(11,.d (I' Q.length)),(12,.d (I' pre.length))] (.aI 9 true [c]::.aI 13 true [z]::Ce v pre)) =
   some (.out (.exit 0) [(1,.d (I' v)),(2,.loc 0 0 0),(4,.loc 1 0 0),(5,fV Q)] (.aI 9 true [c]::.aI 13 true [z]::Ce v Q)):=by
 intro suf;induction suf with
 |nil =>
  intro pre hl;have hlen:Q.length=pre.length:=by simp[hl]
  have e:pre=Q:=by simpa using hl.symm
  subst e;rw[bY]
  conv=>lhs;arg 4;unfold M5
  cases pre<;>simp[fV,Ce,aJ,aD,sub,aE,back,az,av,ak,cut,bA,aq,V.aY,bt,aX,bg,aO,aP,aZ,cG,cy]
 |cons w suf ih =>
  intro pre hl;have hg:Q[pre.length]?=some w:=by simp[hl]
  have hlt:(pre.length:Int)<Q.length:=by simp[hl];omega
  have fN:pre.length<=500:=by omega
  have hnext:IntKind.i64.wrap ((pre.length:Int)+1)=pre.length+1:=wrap_i64 (by omega) (by omega)
  have jX:1<=room:=by decide
  have bE:=ih (pre++[w]) (by simp[hl])
  obtain⟨i,hi⟩:∃i,i=pre.length:=⟨_,rfl⟩;rw[show(pre++[w]).length=i+1 by simp[hi]]at bE
  rw[<-hi]at hg hlt hnext fN⊢;refine uD ?_ bE;clear bE;rw[bY]
  conv=>lhs;arg 4;unfold M5
  cases pre with
  |nil=>simp[fV,Ce,AH,Wk.row,hlt,hg,W.row,hnext,jX,aJ,aD,sub,aE,back,az,av,ak,cut,bA,aq,V.aY,bt,aX,bg,aO,aP,aZ,cG,cy]
  |cons a r =>
   have h1:r.length+1+1<=room:=by simp at hi;unfold room;omega
   clear hi;simp[fV,Ce,AH,Wk.row,hlt,hg,W.row,hnext,jX,h1,aJ,aD,sub,aE,back,az,av,ak,cut,bA,aq,V.aY,bt,aX,bg,aO,aP,aZ,cG,cy]
theorem are(s:S)(v:Int)(hQ:s.Q.length<=500):ev P (.call RD [.d (.ag s.row),.d (I' v)] []) =
  some (.val (.d (.ag (Ry.row ⟨{s with cl:=true,val:=v,qn:=true,Q:=[]},false,0,true,decide (s.Q=[]),s.Q.map (AH v)⟩))) []):=by
 have hL:=ard s.row ny v s.Q s.qn hQ s.Q [] rfl;rw[au aep rfl];simp only[S.row,fV,Ce,mY]at *;generalize hq:s.Q=Q at *;cases Q with
 |nil =>
  simp[fV,Ce]at hL;simp[M6,Ry.row,hL,aJ,aD,sub,aE,back,az,av,ak,cut,bA,aq,V.aY,bt,aX,bg,aO,aP]
 |cons a r =>
  simp[fV,Ce,AH,Wk.row]at hL;simp[M6,Ry.row,AH,Wk.row,hL,aJ,aD,sub,aE,back,az,av,ak,cut,bA,aq,V.aY,bt,aX,bg,aO,aP,aZ,cG,cy]
theorem arf(s:S)(c:Cl)(hq:s.qn=true->s.Q=[])(hQ:s.Q.length<=500):ev P (.call RE [.d (.ag s.row),.d (.ag c.row)] []) =
  some (.val (.d (.ag (Ry.row (if s.cl=true then⟨s,false,s.val,true,true,[]⟩else⟨{s with qn:=false,Q:=s.Q++[⟨c.task,74,0,c.prio,-1⟩]},true,0,false,true,[]⟩)))) []):=by
 have h0:=xu s.qn s.Q hq (by omega)
 have hr:1<=room:=by decide
 have lX:s.Q.length+1<=room:=by unfold room;omega
 rw[au aer rfl];obtain⟨own,cnt,time,hn',H,qn,Q,bn,B,cn,C,cl,val⟩:=s;simp only[S.row,Cl.row]at *;cases cl
 .rw[aG (by simp)]
  cases qn
  .rw[aG (by simp)]at h0
   simp[Ip,Ry.row,W.row,h0,hr,lX,pS,aJ,aD,sub,aE,back,az,av,ak,cut,bA,aq,V.aY,bt,aX,bg,aO,aP,aZ,cG,cy]
  .rw[aN rfl]at h0
   obtain rfl:=hq rfl;simp[Ip,Ry.row,W.row,h0,hr,aJ,aD,sub,aE,back,az,av,ak,cut,bA,aq,V.aY,bt,aX,bg,aO,aP]
 .rw[aN rfl]
  simp[Ip,Ry.row,h0,hr,aJ,aD,sub,aE,back,az,av,ak,cut,bA,aq,V.aY,bt,aX,bg,aO,aP]
def WW(s:S)(c:Cl):Int:=if cM c then 2 else if(!(c.op==73)&&c.op != 74)then 8 else if(c.op==73&&!num c.value)then 2 else if(fK s c.task||(c.op==73&&s.cl))then 17 else 0
def WX(s:S)(c:Cl):Ry :=
 if c.op=73 then⟨{s with cl:=true,val:=c.value,qn:=true,Q:=[]},false,0,true,decide (s.Q=[]),s.Q.map (AH c.value)⟩
 else if s.cl=true then⟨s,false,s.val,true,true,[]⟩else⟨{s with qn:=false,Q:=s.Q++[⟨c.task,74,0,c.prio,-1⟩]},true,0,false,true,[]⟩
theorem arh(s:S)(t:Int)(hn:s.Q.length<=1000000):ev P (.call HO [.d (.ag s.row),.d (I' t)] [])=some (.val (.d (.b (fK s t))) []):=by
 obtain⟨i,hF⟩:=mR s t hn;rw[au YV rfl];simp only[S.row]at *;simp[M4,hF]
theorem ari(nm:D)(k sz ot:Int)(s:S)(c:Cl)(hq:s.qn=true->s.Q=[])(hQ:s.Q.length<=500)(bQ:ev P (.call oU [.d (.ag [nm,I' k,I' sz,I' ot]),.d (.ag s.row)] [])=some (.val (.d (I' 0)) [])):
  pQ (ev P (.call A8 [.d (.ag [nm,I' k,I' sz,I' ot]),.d (.ag s.row),.d (.ag c.row)] [])) (WW s c) (WX s c):=by
 have hw:=arh s c.task (by omega)
 have hc:=are s c.value hQ;have ha:=arf s c hq hQ;rw[au YD rfl];unfold WW WX;generalize Kj:(⟨{s with cl:=true,val:=c.value,qn:=true,Q:=[]},false,0,true,decide (s.Q=[]),s.Q.map (AH c.value)⟩:Ry)=rc at *;generalize hra:(if s.cl=true then(⟨s,false,s.val,true,true,[]⟩:Ry)else⟨{s with qn:=false,Q:=s.Q++[⟨c.task,74,0,c.prio,-1⟩]},true,0,false,true,[]⟩)=ra at *
 clear Kj hra;generalize fK s c.task=b at *;simp only[S.row,Cl.row,Ry.row]at *;generalize bR:s.cl=cl at *;cases h1:cM c
 .rw[aG (by simp)]
  unfold cM at h1;cases h2:(!(c.op==73)&&c.op != 74)
  .rw[aG (by simp)]
   have ho:c.op=73\/c.op=74:=by simp at h2;omega
   rcases ho with ho |ho
   .rw[aN ho]
    cases h4:num c.value<;>cases b<;>cases cl<;>simp[CZ,De,bQ,hw,hc,h1,ho,h4,aJ,aD,sub,aE,back,az,av,ak,cut,bA,aq,V.aY,bt,aX,bg,aO,aP]<;>first |exact .inl ⟨rfl,rfl⟩ |exact pQ.er (by decide) rfl
   .rw[aG (show ¬c.op=73 by omega)]
    rw[ho]at ha;cases b<;>cases cl<;>simp[CZ,De,bQ,hw,h1,ho,ha,aJ,aD,sub,aE,back,az,av,ak,cut,bA,aq,V.aY,bt,aX,bg,aO,aP]<;>first |exact .inl ⟨rfl,rfl⟩ |exact pQ.er (by decide) rfl
  .rw[aN rfl]
   simp[CZ,bQ,h1,h2,aJ,aD,sub,aE,back,az,av,ak,cut,bA,aq,V.aY,bt,aX,bg,aO,aP];exact pQ.er (by decide) rfl
 .rw[aN rfl]
  unfold cM at h1;simp[CZ,bQ,h1,aJ,aD,sub,aE,back,az,av,ak,cut,bA,aq,V.aY,bt,aX,bg,aO,aP];exact pQ.er (by decide) rfl
theorem arj(s:S)(t:Int)(hn:s.Q.length<=1000000):ev P (.call HI [.d (.ag s.row),.d (I' t)] [])=some (.val (.d (.b (fK s t))) []):=by
 obtain⟨i,hF⟩:=mR s t hn;rw[au YM rfl];simp only[S.row]at *;simp[MR,hF]
theorem ark(s:S)(c:Cl):ev P (.call LX [.d (.ag s.row),.d (.ag c.row)] [])=some (.val (.d (.b (c.op==63))) []):=by
 rw[au aeB rfl];simp[SO,S.row,Cl.row]
theorem arl(s:S)(c:Cl):ev P (.call LY [.d (.ag s.row),.d (.ag c.row)] [])=some (.val (.d (.b (decide (0<=c.task)&&decide (c.task<16)))) []):=by
 rw[au aeC rfl];simp[SP,S.row,Cl.row]
theorem arn(s:S)(c:Cl):ev P (.call LZ [.d (.ag s.row),.d (.ag c.row)] [])=some (.val (.d (.b (decide (0<=c.prio)&&decide (c.prio<=9)))) []):=by
 rw[au aeD rfl];simp[SQ,S.row,Cl.row]
theorem aro(s:S)(c:Cl)(hn:s.Q.length<=1000000):ev P (.call L0 [.d (.ag s.row),.d (.ag c.row)] [])=some (.val (.d (.b (!fK s c.task))) []):=by
 have h:=arj s c.task hn;rw[au aeE rfl];simp only[S.row,Cl.row]at *;simp[SR,h]
abbrev bRL:D:=.sl 2 false [[.fn LX [] [],I' 8],[.fn LY [] [],I' 2],[.fn LZ [] [],I' 2],[.fn L0 [] [],I' 17]]
theorem arp:ev P (.call Rl [] [])=some (.val (.d bRL) []):=by
 rw[au ad2 rfl];simp[Su,az]
abbrev AI(o:List D)(c:Cl)(i:Int):Env:=[(3,.d (.ref o)),(4,.loc 0 0 0),(5,.d (.ref c.row)),(6,.loc 1 0 0),(21,.d bRL),(22,.d (I' 4)),(23,.d (I' i))]
abbrev y5(s:S):List O:=[.aI 9 true [s.row],.aI 13 true [ny]]
def xD(o:List D)(s:S)(c:Cl)(e:Int):Option dL :=
 if e=0 then some (.out (.exit 0) [(3,.d (.ref o)),(4,.loc 0 0 0),(5,.d (.ref c.row)),(6,.loc 1 0 0)] (y5 s))else some (.out .ret [(6,.loc 0 0 0),(7,.d (I' e))] [.aI 13 true [ny]])
def PN(s:S)(c:Cl):Int:=if fK s c.task then 17 else 0
def Kk(s:S)(c:Cl):Int:=if(decide (0<=c.prio)&&decide (c.prio<=9))=false then 2 else PN s c
def Kl(s:S)(c:Cl):Int:=if(decide (0<=c.task)&&decide (c.task<16))=false then 2 else Kk s c
def xE(s:S)(c:Cl):Int:=if(c.op==63)=false then 8 else Kl s c
theorem arq(o:List D)(s:S)(c:Cl)(hn:s.Q.length<=1000000):ev P (.loop 0 [3,4,5,6,21,22,23] rT (AI o c 0) (y5 s))=xD o s c (xE s c):=by
 have h1:=ark s c;have h2:=arl s c;have h3:=arn s c;have h4:=aro s c hn;have w1:IntKind.i64.wrap 1=1:=by decide
 have w2:IntKind.i64.wrap 2=2:=by decide
 have w3:IntKind.i64.wrap 3=3:=by decide
 have w4:IntKind.i64.wrap 4=4:=by decide
 simp only[S.row,Cl.row]at h1 h2 h3 h4;have g4:ev P (.loop 0 [3,4,5,6,21,22,23] rT (AI o c 4) (y5 s))=xD o s c 0:=by
  unfold xD;rw[aN rfl,bY]
  conv=>lhs;arg 4;unfold rT
  simp[ak,cut,bA,aq]
 have g3:ev P (.loop 0 [3,4,5,6,21,22,23] rT (AI o c 3) (y5 s))=xD o s c (PN s c):=by
  unfold PN;cases hq:fK s c.task
  .rw[hq]at h4
   rw[aG (by simp)]
   refine uD ?_ g4;rw[bY]
   conv=>lhs;arg 4;unfold rT
   simp[S.row,Cl.row,h4,w4,aJ,aD,sub,aE,back,az,av,ak,cut,bA,aq];rfl
  .rw[hq]at h4
   rw[aN rfl,bY]
   conv=>lhs;arg 4;unfold rT
   simp[xD,S.row,Cl.row,h4,aJ,aD,sub,aE,back,az,av,ak,cut,bA,aq]
 have g2:ev P (.loop 0 [3,4,5,6,21,22,23] rT (AI o c 2) (y5 s))=xD o s c (Kk s c):=by
  unfold Kk;cases hq:(decide (0<=c.prio)&&decide (c.prio<=9))
  .rw[hq]at h3
   rw[aN rfl,bY]
   conv=>lhs;arg 4;unfold rT
   simp[xD,S.row,Cl.row,h3,aJ,aD,sub,aE,back,az,av,ak,cut,bA,aq]
  .rw[hq]at h3
   rw[aG (by simp)]
   refine uD ?_ g3;rw[bY]
   conv=>lhs;arg 4;unfold rT
   simp[S.row,Cl.row,h3,w3,aJ,aD,sub,aE,back,az,av,ak,cut,bA,aq];rfl
 have g1:ev P (.loop 0 [3,4,5,6,21,22,23] rT (AI o c 1) (y5 s))=xD o s c (Kl s c):=by
  unfold Kl;cases hq:(decide (0<=c.task)&&decide (c.task<16))
  .rw[hq]at h2
   rw[aN rfl,bY]
   conv=>lhs;arg 4;unfold rT
   simp[xD,S.row,Cl.row,h2,aJ,aD,sub,aE,back,az,av,ak,cut,bA,aq]
  .rw[hq]at h2
   rw[aG (by simp)]
   refine uD ?_ g2;rw[bY]
   conv=>lhs;arg 4;unfold rT
   simp[S.row,Cl.row,h2,w2,aJ,aD,sub,aE,back,az,av,ak,cut,bA,aq];rfl
 unfold xE;cases hq:c.op==63
 .rw[hq]at h1
  rw[aN rfl,bY]
  conv=>lhs;arg 4;unfold rT
  simp[xD,S.row,Cl.row,h1,aJ,aD,sub,aE,back,az,av,ak,cut,bA,aq]
 .rw[hq]at h1
  rw[aG (by simp)]
  refine uD ?_ g1;rw[bY]
  conv=>lhs;arg 4;unfold rT
  simp[S.row,Cl.row,h1,w1,aJ,aD,sub,aE,back,az,av,ak,cut,bA,aq];rfl
def y6(i:Int)(w:W):Wk:=⟨w.task,63,i,true,-1⟩
abbrev WY(v:Int):O:=.aI 13 true [[I' 0,I' 0,I' 0,.sl 1 true [],.sl 5 true [],.sl 1 true [],.sl 2 true [],.b false,I' 0,.b false,I' v,.b true,.sl 5 true []]]
abbrev PO(v:Int)(i n:Nat):O:=.gK 13 [[.d (I' 0),.d (I' 0),.d (I' 0),.d (.sl 1 true []),.d (.sl 5 true []),.d (.sl 1 true []),.d (.sl 2 true []),.d (.b false),.d (I' 0),.d (.b false),.d (I' v),.d (.b true),.aR i 0 n]]
def bO(v:Int):List Wk->List O
 | []=>[WY v]
 |a::r=>[PO v 1 (r.length+1),.aI 5 true ((a::r).map Wk.row)]
abbrev WZ:O:=.lp [70,71] H7 H8 .normal [(11,.loc 1 0 0)]
def bL(v:Int):List Wk->List O
 | []=>[WZ,WY v]
 |a::r=>[WZ,PO v 2 (r.length+1),.aI 5 true ((a::r).map Wk.row)]
def bP(v:Int)(x:Wk):List Wk->List O
 | []=>[PO v 1 1,.aI 5 true [x.row]]
 |a::r=>[PO v 2 (r.length+1+1),.dead,.aI 5 true ((a::r).map Wk.row++[x.row])]
theorem ars(v i:Int)(w:W)(wn:List Wk)(hn:wn.length<=1000):
  ev P (.round [70,71] H7 H8 [.d (I' i),.d (.ag w.row)] [(11,.loc 0 0 0)] (bO v wn))=some (.out .normal [] (bP v (y6 i w) wn)):=by
 have hr:1<=room:=by decide
 rw[QX];cases wn with
 |nil=>simp[H7,H8,CJ,CI,bO,bP,y6,W.row,Wk.row,hr,aJ,aD,sub,aE,back,az,av,ak,cut,bA,aq,V.aY,bt,aX,bg,aO,aP,aZ,cG,cy]
 |cons a r =>
  have h1:r.length+1+1<=room:=by simp at hn;unfold room;omega
  simp[H7,H8,CJ,CI,bO,bP,y6,W.row,Wk.row,hr,h1,aJ,aD,sub,aE,back,az,av,ak,cut,bA,aq,V.aY,bt,aX,bg,aO,aP,aZ,cG,cy]
def bws(k:Int):List W->List Wk
 | []=>[]
 |w::r=>y6 k w::bws (k+1) r
theorem W0:∀(l:List W)(k:Int),(bws k l).length=l.length
 | [],_=>rfl
 |_::r,k=>by simp[bws,W0 r]
theorem art(w:W):∀(l:List W)(k:Int),bws k (l++[w])=bws k l++[y6 (k+l.length) w]
 | [],k=>by simp[bws]
 |a::r,k=>by
  simp only[tB,bws,art w r,ir]
  have:k+1+(r.length:Int)=k+((r.length+1:Nat):Int):=by omega
  rw[this]
theorem aru(v:Int)(Q:List W)(b:Bool)(hQ:Q.length<=500):∀(suf pre:List W),Q=pre++suf ->
  ev P (.loop 2 [0,5,6,7] Iu [(0,.ju 0),(5,.d (qD b Q)),(6,.d (I' Q.length)),(7,.d (I' pre.length))] (bL v (bws 0 pre)))=some (.out (.exit 0) [] (bL v (bws 0 Q))):=by
 intro suf;induction suf with
 |nil =>
  intro pre hl;have hlen:Q.length=pre.length:=by simp[hl]
  have e:pre=Q:=by simpa using hl.symm
  subst e;rw[bY]
  conv=>lhs;arg 4;unfold Iu
  cases bws 0 pre<;>simp[bL,aJ,aD,sub,aE,back,az,av,ak,cut,bA,aq,V.aY,bt,aX,bg,aO,aP,aZ,cG,cy]
 |cons w suf ih =>
  intro pre hl;have hg:Q[pre.length]?=some w:=by simp[hl]
  have hlt:(pre.length:Int)<Q.length:=by simp[hl];omega
  have fN:pre.length<=500:=by omega
  have hnext:IntKind.i64.wrap ((pre.length:Int)+1)=pre.length+1:=wrap_i64 (by omega) (by omega)
  have bE:=ih (pre++[w]) (by simp[hl])
  rw[art,Int.zero_add]at bE;have PR:=W0 pre 0;have hr:=ars v pre.length w (bws 0 pre) (by omega)
  obtain⟨i,hi⟩:∃i,i=pre.length:=⟨_,rfl⟩;rw[show(pre++[w]).length=i+1 by simp[hi]]at bE
  rw[<-hi]at hg hlt hnext fN hr bE⊢;refine uD ?_ bE;clear bE ih;rw[bY]
  conv=>lhs;arg 4;unfold Iu
  cases hwn:bws 0 pre with
  |nil =>
   rw[hwn]at hr;simp[bO,bP,y6,W.row,Wk.row]at hr;simp[bL,hlt,hg,hr,y6,W.row,Wk.row,hnext,oQ,aJ,aD,sub,aE,back,az,av,ak,cut,bA,aq,V.aY,bt,aX,bg,aO,aP,aZ,cG,cy]
  |cons a r =>
   rw[hwn]at hr;simp[bO,bP,y6,W.row,Wk.row]at hr;simp[bL,hlt,hg,hr,y6,W.row,Wk.row,hnext,oQ,aJ,aD,sub,aE,back,az,av,ak,cut,bA,aq,V.aY,bt,aX,bg,aO,aP,aZ,cG,cy]
theorem arv(v:Int)(Q:List W)(b:Bool)(hQ:Q.length<=500):
  ev P (.call L1 [.ju 0,.d (.ref [qD b Q])] (bL v []))=some (.val (.tu []) (bL v (bws 0 Q))):=by
 have hL:=aru v Q b hQ Q [] rfl;rw[au aeF rfl];have hL:ev P (.loop 2 [0,5,6,7] Iu [(0,.ju 0),(5,.d (qD b Q)),(6,.d (I' Q.length)),(7,.d (I' 0))] [WZ,WY v])=some (.out (.exit 0) [] (bL v (bws 0 Q))):=hL;cases hwn:bws 0 Q with
 |nil =>
  rw[hwn]at hL;simp only[bL]at hL;simp[Nd,bL,hL,aJ,aD,sub,aE,back,az,av,ak,cut,bA,aq,V.aY,bt,aX,bg,aO,aP]
 |cons a r =>
  rw[hwn]at hL;simp only[bL]at hL;simp[Nd,bL,hL,aJ,aD,sub,aE,back,az,av,ak,cut,bA,aq,V.aY,bt,aX,bg,aO,aP]
theorem arw(b:Bool)(Q:List W):ev P (.call Ro [.d (qD b Q)] [])=some (.val (.d (.fn L1 [] [.ref [qD b Q]])) []):=by
 rw[au ad4 rfl];simp[Sv,az,ak,cut,bA,aq]
def Ee(sz:Int)(s:S)(c:Cl):Int:=if xE s c≠0 then xE s c else if ¬((s.Q.length:Int)+1<sz)/\s.cnt=1099511627776 then 4 else 0
def GZ(sz:Int)(s:S)(c:Cl):Ry :=
 if(s.Q.length:Int)+1<sz then⟨{s with qn:=false,Q:=s.Q++[⟨c.task,c.op,0,c.prio,-1⟩]},true,0,false,true,[]⟩
 else⟨{s with qn:=true,Q:=[],cnt:=s.cnt+1},false,sz - 1,true,decide (s.Q=[]),bws 0 s.Q⟩
theorem arx(nm:D)(k sz ot:Int)(s:S)(c:Cl)(hz:1<=sz/\sz<=100)(hc:0<=s.cnt/\s.cnt<=1099511627776)(hq:s.qn=true->s.Q=[])(hQ:s.Q.length<=500)(bQ:ev P (.call nJ [.d (.ag [nm,I' k,I' sz,I' ot]),.d (.ag s.row)] [])=some (.val (.d (I' 0)) [])):
  pQ (ev P (.call A7 [.d (.ag [nm,I' k,I' sz,I' ot]),.d (.ag s.row),.d (.ag c.row)] [])) (Ee sz s c) (GZ sz s c):=by
 have hR:=arp;have hL:=arq [nm,I' k,I' sz,I' ot] s c (by omega)
 unfold xD at hL;have hw:IntKind.i64.wrap ((s.Q.length:Int)+1)=s.Q.length+1:=wrap_i64 (by omega) (by omega)
 rw[au Yy rfl];unfold Ee;by_cases he:xE s c=0
 .rw[aG (by simpa using he)]
  rw[aN he]at hL;by_cases hlt:(s.Q.length:Int)+1<sz
  .rw[aG (λh=>h.1 hlt)]
   refine .inl ⟨rfl,?_⟩;unfold GZ;rw[aN hlt];have h0:=xu s.qn s.Q hq (by omega)
   have hr:1<=room:=by decide
   have lX:s.Q.length+1<=room:=by unfold room;omega
   obtain⟨own,cnt,time,hn',H,qn,Q,bn,B,cn,C,cl,val⟩:=s;simp only[y5,AI,S.row,Cl.row,Ry.row]at *;cases qn
   .rw[aG (by simp)]at h0
    simp only[qD]at *;simp[zE,bQ,hR,hL,hw,hlt,h0,hr,lX,pS,W.row,aJ,aD,sub,aE,back,az,av,ak,cut,bA,aq,V.aY,bt,aX,bg,aO,aP,aZ,cG,cy]
   .rw[aN rfl]at h0
    obtain rfl:=hq rfl;simp only[qD,gQ]at *;simp at hlt;have w11:IntKind.i64.wrap 1=1:=by decide
    simp[zE,bQ,hR,hL,w11,hlt,h0,hr,lX,pS,W.row,aJ,aD,sub,aE,back,az,av,ak,cut,bA,aq,V.aY,bt,aX,bg,aO,aP,aZ,cG,cy]
  .by_cases yH:s.cnt=1099511627776
   .rw[aN ⟨hlt,yH⟩]
    simp only[y5,AI,S.row,Cl.row]at *;have PS:(s.cnt==1099511627776)=true:=by simpa using yH
    simp[zE,bQ,hR,hL,hw,hlt,PS,aJ,aD,sub,aE,back,az,av,ak,cut,bA,aq,V.aY,bt,aX,bg,aO,aP];exact pQ.er (by decide) rfl
   .rw[aG (λh=>yH h.2)]
    refine .inl ⟨rfl,?_⟩;unfold GZ;rw[aG hlt];have hN:=arv (sz - 1) s.Q s.qn hQ;have hd:=arw s.qn s.Q;have PS:(s.cnt==1099511627776)=false:=by simpa using yH
    have w1:IntKind.i64.wrap (sz - 1)=sz - 1:=wrap_i64 (by omega) (by omega)
    have w2:IntKind.i64.wrap (s.cnt+1)=s.cnt+1:=wrap_i64 (by omega) (by omega)
    have Ji:decide (s.Q=[])=decide (bws 0 s.Q=[]):=by cases s.Q<;>simp[bws]
    rw[Ji];simp only[y5,AI,S.row,Cl.row,Ry.row]at *;generalize bws 0 s.Q=wn at *;cases wn with
    |nil =>
     simp only[bL]at hN;simp[zE,bQ,hR,hL,hw,hlt,PS,hN,hd,w1,w2,aJ,aD,sub,aE,back,az,av,ak,cut,bA,aq,V.aY,bt,aX,bg,aO,aP]
    |cons a r =>
     simp only[bL]at hN;simp[zE,bQ,hR,hL,hw,hlt,PS,hN,hd,w1,w2,aJ,aD,sub,aE,back,az,av,ak,cut,bA,aq,V.aY,bt,aX,bg,aO,aP,aZ,cG,cy]
 .rw[aN he]
  rw[aG he]at hL;simp only[y5,AI,S.row,Cl.row]at *;simp[zE,bQ,hR,hL,aJ,aD,sub,aE,back,az,av,ak,cut,bA,aq,V.aY,bt,aX,bg,aO,aP];exact pQ.er he rfl
theorem ary(q:List W)(hn:q.length<=1000000):
  ev P (.call Rn [.d (.sl 5 false (q.map W.row))] [])=some (.val (.d (.sl 5 false (q.map W.row))) []):=by
 have hr:q.length<=room:=by unfold room;omega
 rw[au ad3 rfl];cases q with
 |nil=>simp[MQ,qN,eP,fQ,ak,cut,az]
 |cons a r =>
  simp at hr;simp[MQ,qN,eP,fQ,ak,cut,hr,az,aZ]
def pT(w:W):Wk:=⟨w.task,72,0,true,-1⟩
def eu:List W->Int->List W×Int×List W
 | [],n=>([],n,[])
 |w::r,n=>if w.value<=n then((eu r (n - w.value)).1,(eu r (n - w.value)).2.1,w::(eu r (n - w.value)).2.2)else(w::r,n,[])
abbrev lpL:O:=.lp [32,33] Ic Ie .normal [(4,.loc 2 0 0),(10,.loc 3 0 0)]
abbrev PT(i n:Nat):O:=.gK 13 [[.d (I' 0),.d (I' 0),.d (I' 0),.d (.sl 1 true []),.d (.sl 5 true []),.d (.sl 1 true []),.d (.sl 2 true []),.d (.b false),.d (I' 0),.d (.b false),.d (I' 0),.d (.b false),.aR i 0 n]]
def lO(u:List D):List Wk->List O
 | []=>[.aI 9 true [u],.aI 13 true [ny]]
 |a::r=>[.aI 9 true [u],PT 2 (r.length+1),.aI 5 true ((a::r).map Wk.row)]
def lL(t u:List D):List Wk->List O
 | []=>[lpL,.aI 9 true [t],.aI 9 true [u],.aI 13 true [ny]]
 |a::r=>[lpL,.aI 9 true [t],.aI 9 true [u],PT 4 (r.length+1),.aI 5 true ((a::r).map Wk.row)]
def lP(u:List D)(x:Wk):List Wk->List O
 | []=>[.aI 9 true [u],PT 2 1,.aI 5 true [x.row]]
 |a::r=>[.aI 9 true [u],PT 3 (r.length+1+1),.dead,.aI 5 true ((a::r).map Wk.row++[x.row])]
theorem arz(w:W)(t u:S)(wn:List Wk)(hn:wn.length<=1000):
  ev P (.round [32,33] Ic Ie [.d (.ag w.row),.d (.ag t.row)] [(4,.loc 0 0 0),(10,.loc 1 0 0)] (lO u.row wn))=some (.out .normal [] (lP t.row (pT w) wn)):=by
 have hr:1<=room:=by decide
 rw[QX];cases wn with
 |nil=>simp[Ic,Ie,CJ,CI,lO,lP,pT,S.row,W.row,Wk.row,hr,aJ,aD,sub,aE,back,az,av,ak,cut,bA,aq,V.aY,bt,aX,bg,aO,aP,aZ,cG,cy]
 |cons a r =>
  have h1:r.length+1+1<=room:=by simp at hn;unfold room;omega
  simp[Ic,Ie,CJ,CI,lO,lP,pT,S.row,W.row,Wk.row,hr,h1,aJ,aD,sub,aE,back,az,av,ak,cut,bA,aq,V.aY,bt,aX,bg,aO,aP,aZ,cG,cy]
def S.lt(t:S)(Q:List W)(n:Int):S:={t with Q:=Q,cnt:=n}
theorem arA(t:S):∀(Q:List W)(n:Int)(wn:List Wk),(t.qn=true->Q=[])->0<=n/\n<=1000->(∀w∈Q,0<=w.value/\w.value<=1000)->wn.length+Q.length<=500 ->
  ev P (.loop 4 [0,1] Iv [(0,.ju 0),(1,.loc 1 0 0)] (lL (t.lt Q n).row (t.lt Q n).row wn)) =
   some (.out (.exit 0) [] (lL (t.lt (eu Q n).1 (eu Q n).2.1).row (t.lt (eu Q n).1 (eu Q n).2.1).row (wn++(eu Q n).2.2.map pT)))
 | [],n,wn,_,_,_,_=>by
  rw[bY]
  conv=>lhs;arg 4;unfold Iv
  cases wn<;>simp[eu,lL,S.lt,S.row,aJ,aD,sub,aE,back,az,av,ak,cut,bA,aq,V.aY,bt,aX,bg,aO,aP]
 |w::r,n,wn,hq,hn,hv,hl=>by
  have uq:t.qn=false:=by
   cases h:t.qn
   .rfl
   .have:=hq h;simp at this
  have hlen:(0:Int)<(r.length:Int)+1:=by omega
  have rY:(1:Int)<=(r.length:Int)+1:=by omega
  have hw:=hv w (by simp)
  unfold eu;by_cases hle:w.value<=n
  .have bE:=arA t r (n - w.value) (wn++[pT w]) (λh=>by rw[uq]at h;cases h) (by omega) (λx hx=>hv x (by simp[hx])) (by simp at hl⊢;omega)
   rw[aN hle];simp only[gm];rw[show wn++pT w::(eu r (n - w.value)).2.2.map pT=(wn++[pT w])++(eu r (n - w.value)).2.2.map pT by simp]
   refine uD ?_ bE;clear bE;have hc:=ary r (by simp at hl;omega)
   have jx:IntKind.i64.wrap (n - w.value)=n - w.value:=wrap_i64 (by omega) (by omega)
   have hR:=arz w (t.lt r (n - w.value)) (t.lt (w::r) n) wn (by omega)
   rw[bY]
   conv=>lhs;arg 4;unfold Iv
   cases wn with
   |nil =>
    simp[lO,lP,pT,S.lt,S.row,W.row,Wk.row,uq]at hR;simp[lL,pT,S.lt,S.row,W.row,Wk.row,uq,hR,hc,hle,hlen,rY,jx,oQ,aJ,aD,sub,aE,back,az,av,ak,cut,bA,aq,V.aY,bt,aX,bg,aO,aP,aZ,cG,cy]
   |cons a wn =>
    simp[lO,lP,pT,S.lt,S.row,W.row,Wk.row,uq]at hR;simp[lL,pT,S.lt,S.row,W.row,Wk.row,uq,hR,hc,hle,hlen,rY,jx,oQ,aJ,aD,sub,aE,back,az,av,ak,cut,bA,aq,V.aY,bt,aX,bg,aO,aP,aZ,cG,cy]
  .rw[aG hle]
   rw[bY]
   conv=>lhs;arg 4;unfold Iv
   cases wn<;>simp[lL,S.lt,S.row,W.row,uq,hle,hlen,aJ,aD,sub,aE,back,az,av,ak,cut,bA,aq,V.aY,bt,aX,bg,aO,aP]
theorem arB(s:S)(t:Int)(hn:s.Q.length<=1000000):ev P (.call HN [.d (.ag s.row),.d (I' t)] [])=some (.val (.d (.b (fK s t))) []):=by
 obtain⟨i,hF⟩:=mR s t hn;rw[au YT rfl];simp only[S.row]at *;simp[M3,hF]
def y7(sz:Int)(c:Cl):Bool:=decide (c.task<0)||decide (16<=c.task)||decide (c.prio<0)||decide (9<c.prio)||decide (c.value<1)||decide (sz<c.value)
def uy(sz:Int)(s:S)(c:Cl):Int:=if(c.op != 72&&c.op != 75)then 8 else if(decide (c.now<s.time)||decide (1099511627776<c.now))then 2 else if c.op==75 then 0 else if y7 sz c then 2 else if fK s c.task then 17 else 0
theorem arC(nm:D)(k sz ot:Int)(s:S)(c:Cl)(hn:s.Q.length<=1000000)(bQ:ev P (.call ng [.d (.ag [nm,I' k,I' sz,I' ot]),.d (.ag s.row)] [])=some (.val (.d (I' 0)) [])):
  ev P (.call LN [.d (.ag [nm,I' k,I' sz,I' ot]),.d (.ag s.row),.d (.ag c.row)] [])=some (.val (.d (I' (uy sz s c))) []):=by
 have hw:=arB s c.task hn;rw[au YS rfl];unfold uy;simp only[S.row,Cl.row]at *;cases h1:(c.op != 72&&c.op != 75)
 .rw[aG (by simp)]
  cases h2:(decide (c.now<s.time)||decide (1099511627776<c.now))
  .rw[aG (by simp)]
   have ho:c.op=72\/c.op=75:=by simp at h1;omega
   rcases ho with ho |ho
   .cases h3:y7 sz c<;>unfold y7 at h3
    .cases h4:fK s c.task<;>rw[h4]at hw<;>simp[Bk,bQ,h1,h2,ho,h3,hw]
    .simp[Bk,bQ,h1,h2,ho,h3]
   .simp[Bk,bQ,h2,ho]
  .rw[aN rfl]
   simp[Bk,bQ,h1,h2]
 .rw[aN rfl]
  simp[Bk,bQ,h1]
theorem arD(nm:D)(k sz ot now:Int)(s:S)(h1:0<=s.time/\s.time<=now/\now<=1099511627776)(h2:1<=ot/\ot<=1099511627776)(h3:0<=s.cnt/\s.cnt<=sz/\sz<=100):
  ev P (.call RB [.d (.ag (nm::I' k::I' sz::I' ot::s.row)),.d (I' now)] [])=some (.val (.d (.ag (nA sz ot now s).row)) []):=by
 rw[au aem rfl];obtain⟨k0,k1,k2⟩:=IW (a:=now - s.time) (b:=ot) (by omega) h2.1
 have kT:¬ot=0:=by omega
 have w0:IntKind.i64.wrap (now - s.time)=now - s.time:=wrap_i64 (by omega) (by omega)
 have ht:(now - s.time).tdiv ot=(now - s.time) / ot:=Xw (by omega)
 unfold nA;generalize hkk:(now - s.time) / ot=q at *;have w1:IntKind.i64.wrap q=q:=wrap_i64 (by omega) (by omega)
 have w3:IntKind.i64.wrap (s.cnt+q)=s.cnt+q:=wrap_i64 (by omega) (by omega)
 have h0q:0<=q*ot:=G8 k0 (by omega)
 have w4:IntKind.i64.wrap (q*ot)=q*ot:=wrap_i64 (by omega) (by omega)
 have w5:IntKind.i64.wrap (s.time+q*ot)=s.time+q*ot:=wrap_i64 (by omega) (by omega)
 by_cases h:sz<=s.cnt+q
 .rw[aN h]
  simp only[S.row]at *;simp[M1,kT,w0,ht,w1,w3,w4,w5,h,aJ,aD,sub,aE,back,az,av,ak,cut,bA,aq,V.aY,bt,aX,bg,aO,aP]
 .rw[aG h]
  simp only[S.row]at *;simp[M1,kT,w0,ht,w1,w3,w4,w5,h,aJ,aD,sub,aE,back,az,av,ak,cut,bA,aq,V.aY,bt,aX,bg,aO,aP]
theorem arE(s:S):
  ev P (.call RC [.d (.ag s.row)] [])=some (.val (.fn L8 [] [.loc 0 0 0]) [.aI 9 true [s.row]]):=by
 rw[au aen rfl];simp only[S.row]at *;simp[SF,aJ,aD,sub,aE,back,az,av,ak,cut,bA,aq,V.aY,bt,aX,bg,aO,aP]
theorem arF(t:S)(hq:t.qn=true->t.Q=[])(hn:0<=t.cnt/\t.cnt<=1000)(hv:∀w∈t.Q,0<=w.value/\w.value<=1000)(hl:t.Q.length<=500):
  ev P (.call L8 [.ju 0,.loc 1 0 0] (lL t.row t.row []))=some (.val (.tu []) (lL (t.lt (eu t.Q t.cnt).1 (eu t.Q t.cnt).2.1).row (t.lt (eu t.Q t.cnt).1 (eu t.Q t.cnt).2.1).row ((eu t.Q t.cnt).2.2.map pT))):=by
 have hL:=arA t t.Q t.cnt [] hq hn hv (by simpa using hl)
 have e:t.lt t.Q t.cnt=t:=rfl;rw[e]at hL;rw[au aeS rfl];simp only[mX]at hL;generalize (eu t.Q t.cnt).2.2.map pT=wn at *;generalize t.lt (eu t.Q t.cnt).1 (eu t.Q t.cnt).2.1=u at *;cases wn<;>simp only[lL,S.row]at hL<;>simp[S4,lL,S.row,hL,aJ,aD,sub,aE,back,az,av,ak,cut,bA,aq,V.aY,bt,aX,bg,aO,aP]
def nr(t:S):S:=t.lt (eu t.Q t.cnt).1 (eu t.Q t.cnt).2.1
def Km(t:S):List Wk:=(eu t.Q t.cnt).2.2.map pT
def Kn(t:S)(wn:List Wk)(c:Cl):Ry :=
 if c.op=75 then⟨t,false,0,true,decide (wn=[]),wn⟩
 else if t.Q=[]/\c.value<=t.cnt then⟨{t with cnt:=t.cnt - c.value},false,0,true,decide (wn=[]),wn⟩
 else⟨{t with qn:=false,Q:=t.Q++[⟨c.task,72,c.value,c.prio,-1⟩]},true,0,false,decide (wn=[]),wn⟩
def AJ(sz ot:Int)(s:S)(c:Cl):Ry:=Kn (nr (nA sz ot c.now s)) (Km (nA sz ot c.now s)) c
theorem arG:∀(Q:List W)(n:Int),0<=n->(∀w∈Q,0<=w.value)->0<=(eu Q n).2.1/\(eu Q n).2.1<=n/\(eu Q n).1.length<=Q.length
 | [],n,h,_=>by simp[eu];omega
 |w::r,n,h,hv=>by
  unfold eu;have:=hv w (by simp)
  split
  .have:=arG r (n - w.value) (by omega) λx hx=>hv x (by simp[hx])
   simp only[ir];omega
  .simp only;omega
theorem arH(nm:D)(k sz ot:Int)(s:S)(c:Cl)(h2:1<=ot/\ot<=1099511627776)(h3:0<=s.cnt/\s.cnt<=sz/\sz<=100)(h1:0<=s.time)(hq:s.qn=true->s.Q=[])(hQ:s.Q.length<=500)(hv:∀w∈s.Q,0<=w.value/\w.value<=1000)
  (bQ:ev P (.call ng [.d (.ag [nm,I' k,I' sz,I' ot]),.d (.ag s.row)] [])=some (.val (.d (I' 0)) [])):
  pQ (ev P (.call zw [.d (.ag [nm,I' k,I' sz,I' ot]),.d (.ag s.row),.d (.ag c.row)] [])) (uy sz s c) (AJ sz ot s c):=by
 have hc:=arC nm k sz ot s c (by omega) bQ
 rw[au YB rfl];by_cases he:uy sz s c=0
 .refine .inl ⟨he,?_⟩
  rw[he]at hc;unfold uy at he;obtain⟨e1,he⟩:=iJ (by decide) he
  obtain⟨e2,he⟩:=iJ (by decide) he
  simp at e1 e2;have hr:=arD nm k sz ot c.now s ⟨h1,by omega,by omega⟩ h2 h3
  unfold AJ;have ht:(nA sz ot c.now s).Q=s.Q/\(nA sz ot c.now s).qn=s.qn/\0<=(nA sz ot c.now s).cnt/\(nA sz ot c.now s).cnt<=sz:=by
   obtain⟨k0,-,-⟩:=IW (a:=c.now - s.time) (b:=ot) (by omega) h2.1
   unfold nA;split
   .exact⟨rfl,rfl,by simp only;omega⟩
   .exact⟨rfl,rfl,by simp only;omega⟩
  generalize nA sz ot c.now s=t at *;obtain⟨t1,t2,t3⟩:=ht;have hs:=arE t;have hy:=arF t (by rw[t1,t2];exact hq) (by omega) (by rw[t1];exact hv) (by rw[t1];omega)
  have hb:=arG t.Q t.cnt (by omega) (by rw[t1];exact λw hw=>(hv w hw).1)
  have hu:(nr t).Q.length<=500/\0<=(nr t).cnt/\(nr t).cnt<=sz/\((nr t).qn=true->(nr t).Q=[]):=by
   rw[t1]at hb;refine⟨?_,?_,?_,λh=>?_⟩
   .unfold nr S.lt;simp only;rw[t1];omega
   .unfold nr S.lt;simp only;rw[t1];omega
   .unfold nr S.lt;simp only;rw[t1];omega
   .have:t.Q=[]:=by rw[t1];exact hq (by rw[<-t2];exact h)
    unfold nr S.lt;simp[this,eu]
  have e3:t.lt (eu t.Q t.cnt).1 (eu t.Q t.cnt).2.1=nr t:=rfl;have e4:(eu t.Q t.cnt).2.2.map pT=Km t:=rfl;rw[e3,e4]at hy;obtain⟨u1,u2,u3,u4⟩:=hu;generalize nr t=u at *;generalize Km t=wn at *;have h0:=xu u.qn u.Q u4 (by omega)
  have zX:1<=room:=by decide
  have W3:u.Q.length+1<=room:=by unfold room;omega
  unfold Kn;rcases(show c.op=72\/c.op=75 by omega)with ho |ho
  .have jx:IntKind.i64.wrap (u.cnt - c.value)=u.cnt - c.value:=by
    unfold y7 at he;rw[ho]at he;simp at he;obtain⟨e5,_⟩:=iJ (b:=y7 sz c) (a:=2) (by decide) (by unfold y7;simpa using he)
    unfold y7 at e5;simp at e5;exact wrap_i64 (by omega) (by omega)
   rw[aG (by omega)]
   obtain⟨own,cnt,time,hn',H,qn,Q,bn,B,cn,C,cl,val⟩:=u;simp only[S.row,Cl.row,Ry.row,ho]at *;by_cases hle:c.value<=cnt
   .cases Q with
    |nil =>
     rw[aN ⟨rfl,hle⟩];cases wn<;>simp only[lL]at hy<;>simp[zF,hc,hr,hs,hy,hle,jx,aJ,aD,sub,aE,back,az,av,ak,cut,bA,aq,V.aY,bt,aX,bg,aO,aP,aZ,cG,cy]
    |cons a r =>
     rw[aG (by simp)]
     have uq:qn=false:=by
      cases qn
      .rfl
      .have:=u4 rfl;simp at this
     subst uq;rw[aG (by simp)]at h0
     have hne:((r.length:Int)+1==0)=false:=by simp;omega
     simp only[qD]at *;simp[W.row]at h0;have arI:r.length+1+1<=room:=by simpa using W3
     cases wn<;>simp only[lL]at hy<;>simp[zF,hc,hr,hs,hy,hle,hne,h0,zX,arI,pS,W.row,aJ,aD,sub,aE,back,az,av,ak,cut,bA,aq,V.aY,bt,aX,bg,aO,aP,aZ,cG,cy]
   .rw[aG (λh=>hle h.2)]
    cases qn
    .rw[aG (by simp)]at h0
     simp only[qD]at *;cases hz:((Q.length:Int)==0)<;>cases wn<;>simp only[lL]at hy<;>simp[zF,hc,hr,hs,hy,hle,hz,h0,zX,W3,pS,W.row,aJ,aD,sub,aE,back,az,av,ak,cut,bA,aq,V.aY,bt,aX,bg,aO,aP,aZ,cG,cy]
    .rw[aN rfl]at h0
     obtain rfl:=u4 rfl;simp only[qD,gQ]at *;cases wn<;>simp only[lL]at hy<;>simp[zF,hc,hr,hs,hy,hle,h0,zX,W3,pS,W.row,aJ,aD,sub,aE,back,az,av,ak,cut,bA,aq,V.aY,bt,aX,bg,aO,aP,aZ,cG,cy]
  .rw[aN ho]
   simp only[S.row,Cl.row,Ry.row,ho]at *;cases wn<;>simp only[lL]at hy<;>simp[zF,hc,hr,hs,hy,aJ,aD,sub,aE,back,az,av,ak,cut,bA,aq,V.aY,bt,aX,bg,aO,aP,aZ,cG,cy]
 .generalize uy sz s c=e at *
  have he':(e != 0)=true:=by simpa using he
  simp only[S.row,Cl.row]at *;simp[zF,hc,he',aJ,aD,sub,aE,back,az,av,ak,cut,bA,aq,V.aY,bt,aX,bg,aO,aP];exact pQ.er he rfl
def mD(s:S)(c:Cl):Bool :=
 if c.op=70 then(match mI s.C c.task with |some x=>x.log.isEmpty |none=>true)else c.op==63||(c.op==65&&s.B.isEmpty)
def iY(c:Cl)(r:Ry):List Cp:=if r.pk=true then[]else[⟨c,⟨c.task,c.op,r.v,r.ok,-1⟩⟩]
def vJ(k:Int)(s:S)(c:Cl)(r:Ry):List Cp :=
 if k=8 then⟨{c with op:=75},⟨c.task,75,0,true,-1⟩⟩::(r.wl.map (iC s.Q c.now)++(if c.op=75 then[]else iY c r))
 else if mD s c=true then r.wl.map (iC s.Q c.now)++iY c r else iY c r++r.wl.map (iC s.Q c.now)
def jL(k sz ot:Int)(s:S)(L:List Cp)(s':S):Prop:=(dz k sz ot (s.ab true) L).2=true/\(dz k sz ot (s.ab true) L).1.pl=(s'.ab true).pl
def mS(x:Option dL)(k sz ot:Int)(s:S)(c:Cl):Prop :=
 (∃e,e≠0/\∃r1 r2 r3 r4 r5 r6 r7 r8 r9 nY nZ n8 dR:D,x=some (.val (.tu [.d (.ag [r1,r2,r3,r4,r5,r6,r7,r8,r9,nY,nZ,n8,dR]),.d (I' e)]) [])) \/
 ∃r:Ry,x=some (.val (.tu [.d (.ag r.row),.d (I' 0)]) [])/\r.st.fP/\dg k sz ot s=0/\dg k sz ot r.st=0/\r.wl.length<=45/\jL k sz ot s (vJ k s c r) r.st
theorem mS.of{x:Option dL}{k sz ot e:Int}{s:S}{c:Cl}{r:Ry}(h:pQ x e r)(h0:e=0->r.st.fP/\dg k sz ot s=0/\dg k sz ot r.st=0/\r.wl.length<=45/\jL k sz ot s (vJ k s c r) r.st):mS x k sz ot s c:=by
 rcases h with⟨he,hx⟩ |⟨he,hx⟩
 .exact .inr ⟨r,hx,h0 he⟩
 .exact .inl ⟨e,he,hx⟩
theorem mS.er{x:Option dL}{k sz ot e:Int}{s:S}{c:Cl}{r1 r2 r3 r4 r5 r6 r7 r8 r9 nY nZ n8 dR:D}(he:e≠0)(h:x=some (.val (.tu [.d (.ag [r1,r2,r3,r4,r5,r6,r7,r8,r9,nY,nZ,n8,dR]),.d (I' e)]) [])):mS x k sz ot s c :=
 .inl ⟨e,he,_,_,_,_,_,_,_,_,_,_,_,_,_,h⟩
theorem Cf{k:Int}{s:S}{c:Cl}{r:Ry}(hk:k≠8)(hl:mD s c=false):vJ k s c r=iY c r++r.wl.map (iC s.Q c.now):=by
 unfold vJ;rw[aG hk,hl,aG (by simp)]
theorem W4{k:Int}{s:S}{c:Cl}{r:Ry}(hk:k≠8)(hl:mD s c=true):vJ k s c r=r.wl.map (iC s.Q c.now)++iY c r:=by
 unfold vJ;rw[aG hk,hl,aN rfl]
theorem xF{c:Cl}(h:cM c=false):0<=c.task/\c.task<16/\0<=c.prio/\c.prio<=9/\0<=c.now/\c.now<=1099511627776:=by
 unfold cM at h;simp at h;omega
theorem arJ{Q:List W}{w:W}(hd:Q.Pairwise λa b=>a.task≠b.task)(h:(Q.any λx=>x.task==w.task)=false):(Q++[w]).Pairwise λa b=>a.task≠b.task:=by
 rw[oN];refine⟨hd,by simp,λa ha b hb=>?_⟩
 simp at hb;subst hb;rw[oK]at h;simpa using h a ha
theorem arK{α:Type}{Q A B:List α}{x w:α}(e:Q++[x]=A++w::B):(A=Q/\w=x)\/∃B',Q=A++w::B':=by
 rcases AN B with rfl |⟨B',b,rfl⟩
 .obtain⟨h1,h2⟩:=KP e rfl
  simp at h2;exact .inl ⟨h1.symm,h2.symm⟩
 .rw[G7,<-List.cons_append,<-List.append_assoc]at e
  obtain⟨h1,_⟩:=KP e rfl;exact .inr ⟨B',h1⟩
def gB(c:Cl)(v:Int)(ok:Bool):Cp:=⟨c,⟨c.task,c.op,v,ok,-1⟩⟩
theorem W5{sz ot n:Int}{c:Cl}(hn:iU 4 sz ot=0)(hb:cM c=false)(h:0<=n/\n<=sz)(hv:1<=c.value/\c.value<=sz)(ho:c.op=60\/c.op=61\/c.op=62)(he:(eS sz (aS n) c).2.2.2=0):eE 4 sz ot (aS n) c=eS sz (aS n) c :=
 vH (aqo hn h) hb (by unfold dJ;rcases ho with h |h |h<;>simp[h]) (by unfold fit;simp[hv]) he
theorem arL(nm:D)(sz ot:Int)(s:S)(c:Cl)(hf:s.fP)(iP:s.Q.length<=40):
  mS (ev P (.call zu [.d (.ag [nm,I' 4,I' sz,I' ot]),.d (.ag s.row),.d (.ag c.row)] [])) 4 sz ot s c:=by
 have bQ:=VJ nm 4 sz ot s hf.sm;have hG:dg 4 sz ot s=ck (iU 4 sz ot) (BX sz ot s):=rfl;rw[<-hG]at bQ;by_cases hc:dg 4 sz ot s=0
 .obtain⟨hn,hs⟩:=Ec.1 hc
  obtain⟨arM,hsz,kT⟩:=PE hn;have hlo:=hs.lo;have hhi:=hs.hi;have GQ:=hf.q;rw[hc]at bQ;refine mS.of (arc nm 4 sz ot s c hsz ⟨hlo,hhi⟩ (xA.2 ⟨hs.len,λw hw=>(hs.w w hw).v⟩) (by omega) bQ) λhe=>?_
  unfold Ed at he;obtain⟨hb,he⟩:=iJ (by decide) he
  obtain⟨h2,he⟩:=iJ (by decide) he
  obtain⟨h3,he⟩:=iJ (by decide) he
  obtain⟨h4,_⟩:=iJ (b:=(fK s c.task||(c.op==62&&decide (sz<s.cnt+c.value)))) (a:=17) (r:=0) (by decide) he
  simp at h2 h3 h4;obtain⟨h4,h5⟩:=h4;have hop:c.op=60\/c.op=61\/c.op=62:=by omega
  have hv:1<=c.value/\c.value<=sz:=by omega
  have hbd:=xF hb;have hl:mD s c=false:=by
   unfold mD;rcases hop with h |h |h<;>simp[h]
  have fN:=aqs hs;rw[Cf (by decide) hl]
  have arN:∀m:Int,dg 4 sz ot {s with cnt:=m}=0↔Ke sz ot {s with cnt:=m}:=λm=>by rw[Ec];exact⟨λh=>h.2,λh=>⟨hn,h⟩⟩
  have iN:∀m:Int,({s with cnt:=m}:S).fP:=λm=>⟨⟨hf.wf.h,hf.wf.b,hf.wf.c,hf.wf.k⟩,hf.qn,hf.h,hf.q,hf.b,hf.c,hf.l⟩
  have Ko:∀m:Int,(({s with cnt:=m}:S).ab true).pl=aS m:=λm=>by
   unfold S.ab S.pl aS;simp[hs.own,hs.tm,hs.h,hs.b,hs.c,hs.cl,hs.val]
  have take:n9 s.cnt c.value (ot==1) s.Q=true->(c.op=60\/c.op=61)->dg 4 sz ot {s with cnt:=s.cnt - c.value}=0/\jL 4 sz ot s [gB c 0 true] {s with cnt:=s.cnt - c.value}:=by
   intro ht ho;unfold n9 at ht;simp at ht;obtain⟨hle,han⟩:=ht;refine⟨(arN _).2 ⟨hs.own,by simp only;omega,by simp only;omega,hs.tm,hs.h,hs.b,hs.c,hs.cl,hs.val,hs.len,hs.w,hs.tk,λA w B e=>?_⟩,?_⟩
   .have:=hs.st A w B e
    rcases this with h |h
    .exact .inl h
    .exact .inr (by simp only;omega)
   .have hE:eS sz (aS s.cnt) c=(aS (s.cnt - c.value),0,true,0):=by
     unfold eS;rcases ho with h |h<;>simp[h,aS,gd,hle]
    have he:=W5 hn hb ⟨hlo,hhi⟩ hv (by omega) (by rw[hE])
    rw[hE,<-fN]at he;unfold jL;rw[nC (x:=gB c 0 true) he rfl rfl (.inr (.inl rfl)),Ko];simp[dz];rfl
  unfold WU;rcases hop with ho |ho |ho
  .rw[aN ho]
   by_cases ht:n9 s.cnt c.value (ot==1) s.Q=true
   .rw[aN ht]
    obtain⟨t1,t2⟩:=take ht (.inl ho);exact⟨iN _,hc,t1,by simp,by simpa[iY,gB]using t2⟩
   .rw[aG ht]
    have hw:SW sz (cw c):=by
     refine⟨?_,ho,hv.1,hv.2,rfl⟩;unfold dU kR cw;simp;omega
    have gV:=arJ (w:=cw c) hs.tk (by unfold fK at h4;exact h4)
    have hlen:(s.Q++[cw c]).length=s.Q.length+1:=by simp
    have sj:dg 4 sz ot {s with qn:=false,Q:=s.Q++[cw c]}=0:=by
     refine Ec.2 ⟨hn,hs.own,hlo,hhi,hs.tm,hs.h,hs.b,hs.c,hs.cl,hs.val,by simp only;omega,λw hm=>?_,gV,λA w B e=>?_⟩
     .rcases dm.1 hm with hm |hm
      .exact hs.w w hm
      .simp at hm;rw[hm];exact hw
     .rcases arK e with⟨rfl,rfl⟩ |⟨B',e⟩
      .unfold n9 at ht
       simp at ht;by_cases hle:c.value<=s.cnt
       .have:=ht hle
        exact .inl ⟨this.2,by omega⟩
       .exact .inr (by unfold cw;simp only;omega)
      .exact hs.st A w B' e
    refine⟨⟨⟨hf.wf.h,hf.wf.b,hf.wf.c,hf.wf.k⟩,by simp,hf.h,(show(s.Q++[cw c]).length<=41 by omega),hf.b,hf.c,hf.l⟩,hc,sj,by simp,?_⟩
    simp[iY,jL,dz];rfl
  .rw[aG (by omega),aN ho]
   by_cases ht:n9 s.cnt c.value (ot==1) s.Q=true
   .simp only[ht,dH]
    obtain⟨t1,t2⟩:=take ht (.inr ho);exact⟨iN _,hc,t1,by simp,by simpa[iY,gB]using t2⟩
   .have ht':n9 s.cnt c.value (ot==1) s.Q=false:=by simpa using ht
    rw[aG ht,ht'];refine⟨iN _,hc,hc,by simp,?_⟩
    have e:iY c ⟨{s with cnt:=s.cnt},false,0,false,true,[]⟩++List.map (iC s.Q c.now) []=[gB c 0 false]:=by simp[iY,gB]
    show jL 4 sz ot s (iY c ⟨{s with cnt:=s.cnt},false,0,false,true,[]⟩++List.map (iC s.Q c.now) []) s
    rw[e];have hE:∃r3:Bool,∃a3:S,eE 4 sz ot (s.ab true).pl c=(a3,0,r3,0)/\(ot≠0->r3=false/\a3=(s.ab true).pl):=by
     have hE:(eS sz (aS s.cnt) c)=if c.value<=s.cnt then(aS (s.cnt - c.value),0,true,0)else(aS s.cnt,0,false,0):=by
      unfold eS;by_cases h:c.value<=s.cnt<;>simp[ho,h,aS,gd,er]
     have he:=W5 (ot:=ot) hn hb ⟨hlo,hhi⟩ hv (.inr (.inl ho)) (by rw[hE];split<;>rfl)
     rw[fN,he,hE];by_cases h:c.value<=s.cnt
     .rw[aN h]
      refine⟨_,_,rfl,λh1=>?_⟩
      exfalso;unfold n9 at ht'
      have:ot=1:=by omega
      simp[h,this]at ht'
     .rw[aG h]
      exact⟨_,_,rfl,λ_=>⟨rfl,rfl⟩⟩
    obtain⟨r3,a3,hE,hE2⟩:=hE;by_cases h0:ot=0
    .have e2:dz 4 sz ot (s.ab true) [gB c 0 false]=(s.ab true,true):=by
      show(let e:=eE 4 sz ot (s.ab true).pl c
       if e.2.2.2≠0 then(s.ab true,false)
       else if(c.op==61&&ot==0&&!false&&(0:Int)==0)=true then dz 4 sz ot (s.ab true) []
       else if(e.2.1 != 0||e.2.2.1 != false)=true then(s.ab true,false)else dz 4 sz ot e.1 [])=_
      rw[hE];simp[ho,h0,dz]
     unfold jL;rw[e2];exact⟨rfl,rfl⟩
    .obtain⟨rfl,rfl⟩:=hE2 h0
     unfold jL;rw[nC (x:=gB c 0 false) hE rfl rfl (.inr (.inr h0))];simp only[dz,KQ];exact aqh _
  .rw[aG (by omega),aG (by omega)]
   have h6:s.cnt+c.value<=sz:=by
    have:=h5 ho;omega
   obtain⟨g1,g2,g3,g4⟩:=aqq (n:=s.cnt+c.value) (now:=c.now) hn (by omega) hs (tj _) (by omega)
   have hlen:=g1.length_le;have rY:=g2.length_le;have vI:=Kf c.now hs.tk g1 λw hw=>(hs.w w hw).cs
   refine⟨aqt hf (by omega),hc,g3,by simp;omega,?_⟩
   have hE:eS sz (aS s.cnt) c=(aS (s.cnt+c.value),0,true,0):=by
    unfold eS
    have:¬sz<s.cnt+c.value:=by omega
    simp[ho,aS,gd,this]
   have he:=W5 (ot:=ot) hn hb ⟨hlo,hhi⟩ hv (.inr (.inr ho)) (by rw[hE])
   rw[hE,<-fN]at he;simp only[iY,fG,dK,xR];rw[vI];unfold jL;rw[show(⟨c,⟨c.task,c.op,0,true,-1⟩⟩:Cp)=gB c 0 true from rfl,nC (x:=gB c 0 true) he rfl rfl (.inr (.inl rfl))]
   exact g4 _ rfl
 .have he:(dg 4 sz ot s != 0)=true:=by simpa using hc
  have hx:ev P (.call zu [.d (.ag [nm,I' 4,I' sz,I' ot]),.d (.ag s.row),.d (.ag c.row)] [])=some (.val (.tu [.d (.ag ny),.d (I' 1)]) []):=by
   rw[au Ts rfl];simp only[S.row,Cl.row]at *;simp[zD,bQ,he,az,av]
  exact mS.er (by decide) hx
theorem W6{f:List W->W->Bool}{g:W->Bool}(hf:∀pre w,f pre w=(g w&&!pre.any (λx=>x.task==w.task))){Q:List W}:ep f [] Q=true↔(∀w∈Q,g w=true)/\Q.Pairwise λa b=>a.task≠b.task:=by
 rw[WH,WI];have e:∀(A:List W)(w:W),(!A.any (λx:W=>x.task==w.task))=true↔∀x∈A,x.task≠w.task:=λA w=>by simp
 constructor
 .intro h
  refine⟨λw hw=>?_,λA w B eq=>?_⟩
  .obtain⟨A,B,eq⟩:=Et hw
   have:=h A w B eq;rw[hf,bD]at this;exact this.1
  .have:=h A w B eq
   rw[hf,bD]at this;exact(e _ _).1 (by simpa using this.2)
 .rintro⟨h1,h2⟩ A w B eq
  rw[hf,bD];exact⟨h1 w (by rw[eq];simp),by simpa using(e A w).2 (h2 A w B eq)⟩
structure WQ(op:Int)(p:W->Prop)(Q:List W):Prop where
 len:Q.length<=96
 w:∀w∈Q,dU w=true/\w.op=op/\w.case = -1/\p w
 tk:Q.Pairwise λa b=>a.task≠b.task
theorem WQ.sub{op:Int}{p:W->Prop}{Q R:List W}(h:WQ op p Q)(hs:R.Sublist Q):WQ op p R :=
 ⟨mE hs.length_le h.len,λw hw=>h.w w (hs.subset hw),h.tk.sublist hs⟩
theorem WQ.snoc{op:Int}{p:W->Prop}{Q:List W}{w:W}(h:WQ op p Q)(hl:Q.length<=40)(hw:dU w=true/\w.op=op/\w.case = -1/\p w)(ht:(Q.any λx=>x.task==w.task)=false):WQ op p (Q++[w]):=
 ⟨by simp;omega,λx hx=>by rcases dm.1 hx with hx |hx;exact h.w x hx;simp at hx;rw[hx];exact hw,arJ h.tk ht⟩
theorem WQ.nil{op:Int}{p:W->Prop}:WQ op p []:=⟨by simp,by simp,List.Pairwise.nil⟩
structure FOK(s:S):Prop where
 own:s.own = -1
 cnt:s.cnt=0
 tm:s.time=0
 h:s.H=[]
 b:s.B=[]
 c:s.C=[]
 nv:num s.val=true
 q:WQ 74 (λw=>w.value=0) s.Q
 cl:s.cl=true->s.Q=[]
 op:s.cl=false->s.val=0
theorem Kp{sz ot:Int}{s:S}:dg 9 sz ot s=0↔dM 9 9 sz ot=0/\FOK s:=by
 have e:dg 9 sz ot s=ck (dM 9 9 sz ot) (xp s):=rfl;rw[e,AF];refine KR Iff.rfl ?_;unfold xp u7;have hq:=W6 (f:=fF) (g:=λw=>w.op==74&&(w.value==0&&w.case == -1)) (λpre w=>by
  unfold fF;rw[y9];simp;constructor
  .rintro⟨⟨⟨h1,h2⟩,h3⟩,h4⟩;exact⟨⟨h2,h3,h4⟩,h1⟩
  .rintro⟨⟨h2,h3,h4⟩,h1⟩;exact⟨⟨⟨h1,h2⟩,h3⟩,h4⟩) (Q:=s.Q)
 simp only[bD,dO,xA,hq,Ky];constructor
 .rintro⟨⟨⟨⟨⟨⟨h1,h2⟩,h3⟩,h4⟩,h5⟩,h6⟩,h7,⟨⟨h8,h9⟩,iV,jr⟩,h12⟩
  refine⟨h1,h2,h3,h4,h5,h6,h7,⟨iV,λw hw=>⟨jr w hw,(h8 w hw).1,(h8 w hw).2.2,(h8 w hw).2.1⟩,h9⟩,λh=>?_,λh=>?_⟩
  .rw[h]at h12
   simp at h12
   have:s.Q.length=0:=by rw[h12];rfl
   exact AQ (by omega)
  .rw[h]at h12
   simpa using h12
 .rintro⟨h1,h2,h3,h4,h5,h6,h7,⟨iV,h8,h9⟩,h12,kU⟩
  refine⟨⟨⟨⟨⟨⟨h1,h2⟩,h3⟩,h4⟩,h5⟩,h6⟩,h7,⟨⟨λw hw=>⟨(h8 w hw).2.1,(h8 w hw).2.2.2,(h8 w hw).2.2.1⟩,h9⟩,iV,λw hw=>(h8 w hw).1⟩,?_⟩
  cases hc:s.cl
  .simpa using kU hc
  .simp[h12 hc]
def aF(cl:Bool)(val:Int):S:=⟨-1,0,0,false,[],false,[],false,[],false,[],cl,val⟩
theorem arO{sz ot val:Int}{cl:Bool}(hn:dM 9 9 sz ot=0)(h:num val=true)(hc:cl=true\/val=0):cY 9 sz ot (aF cl val)=true:=by
 unfold cY gS gq jq iG okF u7 aF;rcases hc with rfl |rfl<;>simp[hn,ck,h]
theorem arP{sz ot:Int}{c:Cl}(hn:dM 9 9 sz ot=0)(hb:cM c=false)(ho:c.op=73)(hv:num c.value=true):eE 9 sz ot (aF false 0) c=(aF true c.value,0,true,0):=by
 have hr:raw 9 sz ot (aF false 0) c=(aF true c.value,0,true,0):=by
  unfold raw eF;simp[ho,aF,gd]
 rw[vH (arO hn (by decide) (.inr rfl)) hb (by unfold dJ;simp[ho]) (by unfold fit;simp[ho,hv]) (by rw[hr]),hr]
theorem arQ{sz ot v:Int}{c:Cl}(hn:dM 9 9 sz ot=0)(hb:cM c=false)(ho:c.op=74)(hv:num v=true):eE 9 sz ot (aF true v) c=(aF true v,v,true,0):=by
 have hr:raw 9 sz ot (aF true v) c=(aF true v,v,true,0):=by
  unfold raw eF;simp[ho,aF]
 rw[vH (arO hn hv (.inl rfl)) hb (by unfold dJ;simp[ho]) (by unfold fit;simp[ho]) (by rw[hr]),hr]
theorem arR{sz ot now v:Int}(hn:dM 9 9 sz ot=0)(hw0:0<=now/\now<=1099511627776)(hv:num v=true):∀(L:List W),(∀w∈L,dU w=true/\w.op=74)->∀a:S,a.pl=aF true v ->
  (dz 9 sz ot a (L.map λw=>⟨⟨w.task,w.op,w.value,w.prio,now⟩,⟨w.task,w.op,v,true,-1⟩⟩)).2=true/\(dz 9 sz ot a (L.map λw=>⟨⟨w.task,w.op,w.value,w.prio,now⟩,⟨w.task,w.op,v,true,-1⟩⟩)).1.pl=aF true v
 | [],_,a,ha=>by simp[dz,ha]
 |w::r,hw,a,ha=>by
  have hw1:=hw w (by simp)
  have he:=arQ (c:=⟨w.task,w.op,w.value,w.prio,now⟩) (v:=v) hn (ux hw1.1 hw0) hw1.2 hv;rw[<-ha]at he;rw[gm,nC (x:=⟨⟨w.task,w.op,w.value,w.prio,now⟩,⟨w.task,w.op,v,true,-1⟩⟩) he rfl rfl (.inr (.inl rfl))];rw[ha];exact arR hn hw0 hv r (λx hx=>hw x (by simp[hx])) _ rfl
theorem arS{Q G:List W}(now v:Int)(hd:Q.Pairwise λa b=>a.task≠b.task)(hG:G.Sublist Q)(hc:∀w∈Q,w.case = -1):
  (G.map (AH v)).map (iC Q now)=G.map λw=>⟨⟨w.task,w.op,w.value,w.prio,now⟩,⟨w.task,w.op,v,true,-1⟩⟩:=by
 rw[ke];refine vM λw hw=>?_
 have hm:=hG.subset hw;exact GP now v true hd hm (hc w hm)
theorem arT(nm:D)(sz ot:Int)(s:S)(c:Cl)(hf:s.fP)(iP:s.Q.length<=40):
  mS (ev P (.call A8 [.d (.ag [nm,I' 9,I' sz,I' ot]),.d (.ag s.row),.d (.ag c.row)] [])) 9 sz ot s c:=by
 have bQ:ev P (.call oU [.d (.ag [nm,I' 9,I' sz,I' ot]),.d (.ag s.row)] [])=some (.val (.d (I' (dg 9 sz ot s))) []):=VN nm 9 sz ot s hf.sm;by_cases hc:dg 9 sz ot s=0
 .obtain⟨hn,hs⟩:=Kp.1 hc
  rw[hc]at bQ;refine mS.of (ari nm 9 sz ot s c hf.qn (by omega) bQ) λhe=>?_
  unfold WW at he;obtain⟨hb,he⟩:=iJ (by decide) he
  obtain⟨h2,he⟩:=iJ (by decide) he
  obtain⟨h3,he⟩:=iJ (by decide) he
  obtain⟨h4,_⟩:=iJ (b:=(fK s c.task||(c.op==73&&s.cl))) (a:=17) (r:=0) (by decide) he
  simp at h2 h3 h4;obtain⟨h4,h5⟩:=h4;have hbd:=xF hb;have hop:c.op=73\/c.op=74:=by omega
  have hl:mD s c=false:=by
   unfold mD;rcases hop with h |h<;>simp[h]
  have fN:(s.ab true).pl=aF s.cl s.val:=by
   unfold S.ab S.pl aF;simp[hs.own,hs.cnt,hs.tm,hs.h,hs.b,hs.c]
  rw[Cf (by decide) hl]
  unfold WX;rcases hop with ho |ho
  .rw[aN ho]
   have bR:=h5 ho;have hv:num c.value=true:=by have:=h3;simp[ho]at this;exact this
   refine⟨⟨⟨hf.wf.h,hf.wf.b,hf.wf.c,hf.wf.k⟩,by simp,hf.h,by simp,hf.b,hf.c,hf.l⟩,hc,Kp.2 ⟨hn,hs.own,hs.cnt,hs.tm,hs.h,hs.b,hs.c,hv,WQ.nil,by simp,by simp⟩,by simp;omega,?_⟩
   have he:=arP hn hb ho hv;have W7:(s.ab true).pl=aF false 0:=by rw[fN,bR,hs.op bR]
   rw[<-W7]at he;simp only[iY,fG,dK,xR];rw[arS c.now c.value hs.q.tk (tj _) λw hw=>(hs.q.w w hw).2.2.1]
   unfold jL;rw[show(⟨c,⟨c.task,c.op,0,true,-1⟩⟩:Cp)=gB c 0 true from rfl,nC (x:=gB c 0 true) he rfl rfl (.inr (.inl rfl))]
   obtain⟨p1,p2⟩:=arR (now:=c.now) hn (by omega) hv s.Q (λw hw=>⟨(hs.q.w w hw).1,(hs.q.w w hw).2.1⟩) (aF true c.value) rfl
   refine⟨p1,p2.trans ?_⟩;unfold S.ab S.pl aF;simp[hs.own,hs.cnt,hs.tm,hs.h,hs.b,hs.c]
  .rw[aG (by omega)]
   cases bR:s.cl
   .rw[aG (by simp)]
    refine⟨⟨⟨hf.wf.h,hf.wf.b,hf.wf.c,hf.wf.k⟩,by simp,hf.h,by simp;omega,hf.b,hf.c,hf.l⟩,hc,Kp.2 ⟨hn,hs.own,hs.cnt,hs.tm,hs.h,hs.b,hs.c,hs.nv,hs.q.snoc iP ⟨?_,rfl,rfl,rfl⟩ (by unfold fK at h4;exact h4),λh=>by simp[bR]at h,λ_=>hs.op bR⟩,by simp,?_⟩
    .unfold dU kR
     simp;omega
    .simp[iY,jL,dz]
     unfold S.ab S.pl;simp[bR]
   .rw[aN rfl]
    refine⟨hf,hc,hc,by simp,?_⟩
    have he:=arQ (v:=s.val) hn hb ho hs.nv;have W7:(s.ab true).pl=aF true s.val:=by rw[fN,bR]
    rw[<-W7]at he;simp only[iY,fG,dK,gQ,qG];unfold jL;rw[show(⟨c,⟨c.task,c.op,s.val,true,-1⟩⟩:Cp)=gB c s.val true from rfl,nC (x:=gB c s.val true) he rfl rfl (.inr (.inl rfl))]
    exact⟨rfl,aqh _⟩
 .have he:(dg 9 sz ot s != 0)=true:=by simpa using hc
  have hx:ev P (.call A8 [.d (.ag [nm,I' 9,I' sz,I' ot]),.d (.ag s.row),.d (.ag c.row)] [])=some (.val (.tu [.d (.ag ny),.d (I' 1)]) []):=by
   rw[au YD rfl];simp only[S.row,Cl.row]at *;simp[CZ,bQ,he,az,av]
  exact mS.er (by decide) hx
structure BOK(sz:Int)(s:S):Prop where
 own:s.own = -1
 lo:0<=s.cnt
 hi:s.cnt<=1099511627776
 len:(s.Q.length:Int)<sz
 tm:s.time=0
 val:s.val=0
 cl:s.cl=false
 h:s.H=[]
 b:s.B=[]
 c:s.C=[]
 q:WQ 63 (λw=>w.value=0) s.Q
theorem arU{α β γ:Type}{a:List α}{b:List β}{c:List γ}:decide ((0:Int)<(a.length:Int)+b.length+c.length)=false↔a=[]/\b=[]/\c=[]:=by
 cases a<;>cases b<;>cases c<;>simp<;>omega
theorem G0{sz ot:Int}{s:S}:dg 5 sz ot s=0↔iF 5 sz ot=0/\BOK sz s:=by
 have e:dg 5 sz ot s=ck (iF 5 sz ot) (Ay sz s):=rfl;rw[e,AF];refine KR Iff.rfl ?_;unfold Ay Gv JP;have hq:=W6 (f:=fB) (g:=λw=>!DW w) (λpre w=>rfl) (Q:=s.Q)
 simp only[bD,iZ,xL,KO,kM,dO,xA,hq];rw[<-decide_eq_false_iff_not (p:=(0:Int)<_),arU];have kG:∀w:W,DW w=false↔w.op=63/\w.value=0/\w.case = -1:=λw=>by unfold DW;simp;exact⟨fun⟨⟨h1,h2⟩,h3⟩=>⟨h1,h2,h3⟩,fun⟨h1,h2,h3⟩=>⟨⟨h1,h2⟩,h3⟩⟩
 constructor
 .rintro⟨⟨⟨⟨h1,h2⟩,h3⟩,h4⟩,⟨⟨⟨h5,h6⟩,h7⟩,h8,h9,iV⟩,⟨jr,h12⟩,kU,kC⟩
  exact⟨h1,by omega,by omega,by omega,h5,h6,h7,h8,h9,iV,⟨jr,λw hw=>⟨h12 w hw,((kG w).1 (kU w hw)).1,((kG w).1 (kU w hw)).2.2,((kG w).1 (kU w hw)).2.1⟩,kC⟩⟩
 .rintro⟨h1,h2,h3,h4,h5,h6,h7,h8,h9,iV,⟨jr,h12,kC⟩⟩
  exact⟨⟨⟨⟨h1,by omega⟩,by omega⟩,by omega⟩,⟨⟨⟨h5,h6⟩,h7⟩,h8,h9,iV⟩,⟨jr,λw hw=>(h12 w hw).1⟩,λw hw=>(kG w).2 ⟨(h12 w hw).2.1,(h12 w hw).2.2.2,(h12 w hw).2.2.1⟩,kC⟩
def aB(cnt val:Int):S:=⟨-1,cnt,0,false,[],false,[],false,[],false,[],false,val⟩
theorem arV{sz ot cnt val:Int}(hn:iF 5 sz ot=0)(h:0<=cnt/\cnt<=1099511627776)(hv:0<=val/\val<sz):cY 5 sz ot (aB cnt val)=true:=by
 unfold cY gS gq jq iG okB aB;simp[hn,ck];omega
theorem arW{sz ot cnt val:Int}{c:Cl}(hn:iF 5 sz ot=0)(h:0<=cnt/\cnt<=1099511627776)(hv:0<=val/\val<sz)(hb:cM c=false)(ho:c.op=63)(hm:val+1=sz->cnt≠1099511627776):
  eE 5 sz ot (aB cnt val) c=(if val+1=sz then aB (cnt+1) 0 else aB cnt (val+1),val,true,0):=by
 have hr:raw 5 sz ot (aB cnt val) c=(if val+1=sz then aB (cnt+1) 0 else aB cnt (val+1),val,true,0):=by
  unfold raw eB;by_cases h:val+1=sz
  .have:=hm h
   simp[aB,h,this]
  .simp[aB,h]
 rw[vH (arV hn h hv) hb (by unfold dJ;simp[ho]) (by unfold fit;simp[ho]) (by rw[hr]),hr]
def PU(now:Int):Int->List W->List Cp
 |_,[]=>[]
 |k,w::r=>⟨⟨w.task,w.op,w.value,w.prio,now⟩,⟨w.task,w.op,k,true,-1⟩⟩::PU now (k+1) r
theorem arX{Q:List W}(now:Int)(hd:Q.Pairwise λa b=>a.task≠b.task)(hc:∀w∈Q,w.case = -1/\w.op=63):∀(G:List W)(k:Int),(∀w∈G,w∈Q)->(bws k G).map (iC Q now)=PU now k G
 | [],_,_=>rfl
 |w::r,k,h=>by
  have hm:=h w (by simp)
  have h1:=GP now k true hd hm (hc w hm).1;rw[bws,gm,PU,arX now hd hc r (k+1) λx hx=>h x (by simp[hx])]
  congr 1;unfold y6;rw[<-(hc w hm).2];exact h1
theorem arY{sz ot cnt now:Int}(hn:iF 5 sz ot=0)(h:0<=cnt/\cnt<=1099511627776)(hw0:0<=now/\now<=1099511627776):∀(L:List W)(k:Int)(R:List Cp),0<=k->k+L.length<sz->(∀w∈L,dU w=true/\w.op=63)->∀a:S,a.pl=aB cnt k ->
  ∃b:S,b.pl=aB cnt (k+L.length)/\dz 5 sz ot a (PU now k L++R)=dz 5 sz ot b R
 | [],k,R,_,_,_,a,ha=>⟨a,by simpa using ha,rfl⟩
 |w::r,k,R,h0,hl,hw,a,ha=>by
  have hw1:=hw w (by simp)
  simp only[ir]at hl;have hne:¬k+1=sz:=by omega
  have he:=arW (c:=⟨w.task,w.op,w.value,w.prio,now⟩) hn h (val:=k) (by omega) (ux hw1.1 hw0) hw1.2 (λh=>absurd h hne)
  rw[aG hne,<-ha]at he;obtain⟨b,b1,b2⟩:=arY hn h hw0 r (k+1) R (by omega) (by omega) (λx hx=>hw x (by simp[hx])) (aB cnt (k+1)) rfl
  refine⟨b,?_,?_⟩
  .rw[b1]
   congr 1;simp only[ir];omega
  .rw[<-b2]
   exact nC (x:=⟨⟨w.task,w.op,w.value,w.prio,now⟩,⟨w.task,w.op,k,true,-1⟩⟩) he rfl rfl (.inr (.inl rfl))
theorem arZ(nm:D)(sz ot:Int)(s:S)(c:Cl)(hf:s.fP)(hc:¬dg 5 sz ot s=0):ev P (.call A7 [.d (.ag [nm,I' 5,I' sz,I' ot]),.d (.ag s.row),.d (.ag c.row)] [])=some (.val (.tu [.d (.ag ny),.d (I' (dg 5 sz ot s))]) []):=by
 have bQ:ev P (.call nJ [.d (.ag [nm,I' 5,I' sz,I' ot]),.d (.ag s.row)] [])=some (.val (.d (I' (dg 5 sz ot s))) []):=JQ nm 5 sz ot s hf.sm;have he:(dg 5 sz ot s != 0)=true:=by simpa using hc
 rw[au Yy rfl];simp only[S.row,Cl.row]at *;simp[zE,bQ,he,az,av]
theorem ar0(nm:D)(sz ot:Int)(s:S)(c:Cl)(hf:s.fP)(iP:s.Q.length<=40)(hb:cM c=false):
  mS (ev P (.call A7 [.d (.ag [nm,I' 5,I' sz,I' ot]),.d (.ag s.row),.d (.ag c.row)] [])) 5 sz ot s c:=by
 have bQ:ev P (.call nJ [.d (.ag [nm,I' 5,I' sz,I' ot]),.d (.ag s.row)] [])=some (.val (.d (I' (dg 5 sz ot s))) []):=JQ nm 5 sz ot s hf.sm;by_cases hc:dg 5 sz ot s=0
 .obtain⟨hn,hs⟩:=G0.1 hc
  have hsz:1<=sz/\sz<=100:=by
   unfold iF at hn;simp at hn;omega
  rw[hc]at bQ;refine mS.of (arx nm 5 sz ot s c hsz ⟨hs.lo,hs.hi⟩ hf.qn (by omega) bQ) λhe=>?_
  have hbd:=xF hb;have bV:xE s c=0:=by
   unfold Ee at he;by_cases h:xE s c=0
   .exact h
   .rw[aN h]at he;exact absurd he h
  have hop:c.op=63/\fK s c.task=false:=by
   unfold xE at bV;cases h1:c.op==63
   .rw[h1]at bV;simp at bV
   .rw[h1,aG (by simp)]at bV
    unfold Kl at bV;split at bV
    .cases bV
    .unfold Kk at bV
     split at bV
     .cases bV
     .unfold PN at bV
      refine⟨by simpa using h1,?_⟩
      cases hq:fK s c.task
      .rfl
      .rw[hq]at bV;simp at bV
  obtain⟨ho,h4⟩:=hop;have hl:mD s c=true:=by unfold mD;simp[ho]
  have fN:(s.ab true).pl=aB s.cnt 0:=by
   unfold S.ab S.pl aB;simp[hs.own,hs.tm,hs.h,hs.b,hs.c,hs.cl,hs.val]
  rw[W4 (by decide) hl]
  unfold Ee at he;rw[bV]at he;simp only[zg,Cv,dK]at he;unfold GZ;by_cases hlt:(s.Q.length:Int)+1<sz
  .rw[aN hlt]
   refine⟨⟨⟨hf.wf.h,hf.wf.b,hf.wf.c,hf.wf.k⟩,by simp,hf.h,by simp;omega,hf.b,hf.c,hf.l⟩,hc,G0.2 ⟨hn,hs.own,hs.lo,hs.hi,by simp;omega,hs.tm,hs.val,hs.cl,hs.h,hs.b,hs.c,hs.q.snoc iP ⟨?_,ho,rfl,rfl⟩ (by unfold fK at h4;exact h4)⟩,by simp,?_⟩
   .unfold dU kR
    simp;omega
   .simp[iY,jL,dz]
    rfl
  .rw[aG hlt]
   have yH:s.cnt≠1099511627776:=λh=>by rw[aN ⟨hlt,h⟩]at he;cases he
   have hlen:=hs.len;have hlo:=hs.lo;have hhi:=hs.hi;have PR:=W0 s.Q 0;refine⟨⟨⟨hf.wf.h,hf.wf.b,hf.wf.c,hf.wf.k⟩,by simp,hf.h,by simp,hf.b,hf.c,hf.l⟩,hc,G0.2 ⟨hn,hs.own,by simp only;omega,by simp only;omega,by simp;omega,hs.tm,hs.val,hs.cl,hs.h,hs.b,hs.c,WQ.nil⟩,by simp only;omega,?_⟩
   simp only[iY,fG,dK];rw[arX c.now hs.q.tk (λw hw=>⟨(hs.q.w w hw).2.2.1,(hs.q.w w hw).2.1⟩) s.Q 0 λw hw=>hw]
   obtain⟨b,b1,b2⟩:=arY (sz:=sz) (ot:=ot) hn ⟨hlo,hhi⟩ (now:=c.now) (by omega) s.Q 0 [⟨c,⟨c.task,c.op,sz - 1,true,-1⟩⟩] (by omega) (by omega) (λw hw=>⟨(hs.q.w w hw).1,(hs.q.w w hw).2.1⟩) (s.ab true) fN
   have hk:(0:Int)+s.Q.length=sz - 1:=by omega
   rw[hk]at b1;have he:=arW hn ⟨hlo,hhi⟩ (val:=sz - 1) (by omega) hb ho (λ_=>yH)
   rw[aN (by omega),<-b1]at he
   unfold jL;rw[b2,show(⟨c,⟨c.task,c.op,sz - 1,true,-1⟩⟩:Cp)=gB c (sz - 1) true from rfl,nC (x:=gB c (sz - 1) true) he rfl rfl (.inr (.inl rfl))]
   refine⟨rfl,?_⟩;unfold S.ab S.pl aB;simp[dz,hs.own,hs.tm,hs.h,hs.b,hs.c,hs.cl,hs.val]
 .exact mS.er hc (arZ nm sz ot s c hf hc)
structure LOK(sz:Int)(s:S):Prop where
 own:s.own = -1
 lo:0<=s.cnt
 hi:s.cnt<=sz
 t0:0<=s.time
 t1:s.time<=1099511627776
 val:s.val=0
 cl:s.cl=false
 h:s.H=[]
 b:s.B=[]
 c:s.C=[]
 q:WQ 72 (λw=>1<=w.value/\w.value<=sz) s.Q
theorem G1{sz ot:Int}{s:S}:dg 8 sz ot s=0↔jh 8 sz ot=0/\LOK sz s:=by
 have e:dg 8 sz ot s=ck (jh 8 sz ot) (Az sz s):=rfl;rw[e,AF];refine KR Iff.rfl ?_;unfold Az JR JS;have hq:=W6 (f:=fL sz) (g:=λw=>!DX sz w) (λpre w=>rfl) (Q:=s.Q)
 simp only[bD,iZ,xL,KO,kM,dO,xA,hq];rw[<-decide_eq_false_iff_not (p:=(0:Int)<_),arU];have kG:∀w:W,DX sz w=false↔w.op=72/\(1<=w.value/\w.value<=sz)/\w.case = -1:=λw=>by
  unfold DX;simp;constructor
  .rintro⟨⟨⟨h1,h2⟩,h3⟩,h4⟩;exact⟨h1,⟨by omega,h3⟩,h4⟩
  .rintro⟨h1,⟨h2,h3⟩,h4⟩;exact⟨⟨⟨h1,by omega⟩,h3⟩,h4⟩
 constructor
 .rintro⟨⟨⟨⟨⟨h1,h2⟩,h3⟩,h4⟩,h5⟩,⟨⟨h6,h7⟩,h8,h9,iV⟩,⟨jr,h12⟩,kU,kC⟩
  exact⟨h1,by omega,by omega,by omega,by omega,h6,h7,h8,h9,iV,⟨jr,λw hw=>⟨h12 w hw,((kG w).1 (kU w hw)).1,((kG w).1 (kU w hw)).2.2,((kG w).1 (kU w hw)).2.1⟩,kC⟩⟩
 .rintro⟨h1,h2,h3,h4,h5,h6,h7,h8,h9,iV,⟨jr,h12,kC⟩⟩
  exact⟨⟨⟨⟨⟨h1,by omega⟩,by omega⟩,by omega⟩,by omega⟩,⟨⟨h6,h7⟩,h8,h9,iV⟩,⟨jr,λw hw=>(h12 w hw).1⟩,λw hw=>(kG w).2 ⟨(h12 w hw).2.1,(h12 w hw).2.2.2,(h12 w hw).2.2.1⟩,kC⟩
def aL(cnt time:Int):S:=⟨-1,cnt,time,false,[],false,[],false,[],false,[],false,0⟩
theorem ar1{sz ot cnt time:Int}(hn:jh 8 sz ot=0)(h:0<=cnt/\cnt<=sz)(ht:0<=time/\time<=1099511627776):cY 8 sz ot (aL cnt time)=true:=by
 unfold cY gS gq jq iG qU aL;simp[hn,ck];omega
def Ef(sz ot now n tm:Int):Prop:=(now - tm) / ot=0/\(n<sz\/n=sz/\tm=now)
theorem ar2{sz ot now n tm:Int}(h:Ef sz ot now n tm):mK sz ot now (aL n tm)=aL n tm:=by
 obtain⟨h1,h2⟩:=h;unfold mK aL;simp only[h1];rcases h2 with h2 |⟨rfl,rfl⟩
 .have:¬sz<=n:=by omega
  simp[this]
 .simp
theorem ar3{sz ot now n tm:Int}(h2:1<=ot)(h3:0<=n/\n<=sz)(h1:0<=tm/\tm<=now):∃n' mT,mK sz ot now (aL n tm)=aL n' mT/\Ef sz ot now n' mT/\0<=n'/\n'<=sz/\0<=mT/\mT<=now /\
  ∀s:S,s.cnt=n->s.time=tm->nA sz ot now s={s with cnt:=n',time:=mT}:=by
 obtain⟨k0,k1,k2⟩:=IW (a:=now - tm) (b:=ot) (by omega) h2
 have hm:(now - tm) % ot=now - tm - (now - tm) / ot*ot:=by have:=Int.emod_def (now - tm) ot;rw[this,Int.mul_comm]
 have hm0:=Int.emod_nonneg (now - tm) (show ot≠0 by omega)
 have hm1:=Int.emod_lt_of_pos (now - tm) (show 0<ot by omega)
 by_cases h:sz<=n+(now - tm) / ot
 .refine⟨sz,now,?_,⟨by simp,.inr ⟨rfl,rfl⟩⟩,by omega,by omega,by omega,by omega,λs e1 e2=>?_⟩
  .unfold mK aL;simp[h]
  .unfold nA;rw[e1,e2,aN h]
 .have hq:0<=(now - tm) / ot*ot:=G8 k0 (by omega)
  refine⟨n+(now - tm) / ot,tm+(now - tm) / ot*ot,?_,⟨?_,.inl (by omega)⟩,by omega,by omega,by omega,by omega,λs e1 e2=>?_⟩
  .unfold mK aL;simp[h]
  .rw[show now - (tm+(now - tm) / ot*ot)=(now - tm) % ot by omega]
   exact Int.ediv_eq_zero_of_lt hm0 hm1
  .unfold nA;rw[e1,e2,aG h]
theorem ar4{sz ot n tm n' mT:Int}{c:Cl}(hn:jh 8 sz ot=0)(h3:0<=n/\n<=sz)(h1:0<=tm/\tm<=c.now)(hb:cM c=false)(ho:c.op=75)(hr:mK sz ot c.now (aL n tm)=aL n' mT):eE 8 sz ot (aL n tm) c=(aL n' mT,0,true,0):=by
 have hbd:=xF hb;have e:raw 8 sz ot (aL n tm) c=(aL n' mT,0,true,0):=by
  unfold raw eL
  have:¬c.now<(aL n tm).time:=by unfold aL;simp only;omega
  simp[this,ho,hr,gd]
 rw[vH (ar1 hn h3 (by omega)) hb (by unfold dJ;simp[ho]) (by unfold fit;simp[ho]) (by rw[e]),e]
theorem ar5{sz ot n tm:Int}{c:Cl}(hn:jh 8 sz ot=0)(h3:0<=n/\n<=sz)(h1:0<=tm/\tm<=c.now)(hb:cM c=false)(ho:c.op=72)(hv:1<=c.value/\c.value<=sz)(hs:Ef sz ot c.now n tm)(hle:c.value<=n):eE 8 sz ot (aL n tm) c=(aL (n - c.value) tm,0,true,0):=by
 have hbd:=xF hb;have e:raw 8 sz ot (aL n tm) c=(aL (n - c.value) tm,0,true,0):=by
  unfold raw eL;have h1:¬c.now<(aL n tm).time:=by unfold aL;simp only;omega
  have h2:¬(aL n tm).cnt<c.value:=by unfold aL;simp only;omega
  simp[h1,ho,ar2 hs,gd];rw[aG h2];rfl
 rw[vH (ar1 hn h3 (by omega)) hb (by unfold dJ;simp[ho]) (by unfold fit;simp[ho,hv]) (by rw[e]),e]
theorem ar6:∀(Q:List W)(n:Int),(eu Q n).1.Sublist Q/\(eu Q n).2.2.Sublist Q
 | [],n=>by simp[eu]
 |w::r,n=>by
  unfold eu;obtain⟨h1,h2⟩:=ar6 r (n - w.value);split
  .exact⟨h1.cons _,h2.cons_cons _⟩
  .exact⟨tj _,by simp⟩
theorem ar7{sz ot now tm:Int}(hn:jh 8 sz ot=0)(hw0:0<=now/\now<=1099511627776)(h1:0<=tm/\tm<=now):∀(Q:List W)(n:Int)(R:List Cp),0<=n/\n<=sz->Ef sz ot now n tm->(∀w∈Q,dU w=true/\w.op=72/\1<=w.value/\w.value<=sz)->∀a:S,a.pl=aL n tm ->
  ∃b:S,b.pl=aL (eu Q n).2.1 tm/\Ef sz ot now (eu Q n).2.1 tm/\0<=(eu Q n).2.1/\(eu Q n).2.1<=n/\dz 8 sz ot a ((eu Q n).2.2.map (oI now)++R)=dz 8 sz ot b R
 | [],n,R,h3,hs,_,a,ha=>⟨a,ha,hs,h3.1,Int.le_refl _,rfl⟩
 |w::r,n,R,h3,hs,hw,a,ha=>by
  have hw1:=hw w (by simp)
  unfold eu;by_cases hle:w.value<=n
  .simp only[hle,dH]
   have he:=ar5 (c:=⟨w.task,w.op,w.value,w.prio,now⟩) hn h3 h1 (ux hw1.1 hw0) hw1.2.1 hw1.2.2 hs hle;rw[<-ha]at he;have xg:Ef sz ot now (n - w.value) tm:=⟨hs.1,.inl (by omega)⟩
   obtain⟨b,b1,b2,b3,b4,b5⟩:=ar7 hn hw0 h1 r (n - w.value) R (by omega) xg (λx hx=>hw x (by simp[hx])) (aL (n - w.value) tm) rfl
   refine⟨b,b1,b2,b3,by omega,?_⟩
   rw[<-b5];exact nC (x:=oI now w) he rfl rfl (.inr (.inl rfl))
  .simp only[hle,dK]
   exact⟨a,ha,hs,h3.1,Int.le_refl _,rfl⟩
theorem ar8(nm:D)(sz ot:Int)(s:S)(c:Cl)(hf:s.fP)(hc:¬dg 8 sz ot s=0):ev P (.call zw [.d (.ag [nm,I' 8,I' sz,I' ot]),.d (.ag s.row),.d (.ag c.row)] [])=some (.val (.tu [.d (.ag ny),.d (I' (dg 8 sz ot s))]) []):=by
 have bQ:ev P (.call ng [.d (.ag [nm,I' 8,I' sz,I' ot]),.d (.ag s.row)] [])=some (.val (.d (I' (dg 8 sz ot s))) []):=JT nm 8 sz ot s hf.sm;have he:(dg 8 sz ot s != 0)=true:=by simpa using hc
 have hlc:ev P (.call LN [.d (.ag [nm,I' 8,I' sz,I' ot]),.d (.ag s.row),.d (.ag c.row)] [])=some (.val (.d (I' (dg 8 sz ot s))) []):=by
  rw[au YS rfl];simp only[S.row,Cl.row]at *;simp[Bk,bQ,he]
 rw[au YB rfl];simp only[S.row,Cl.row]at *;simp[zF,hlc,he,az,av]
theorem ar9(nm:D)(sz ot:Int)(s:S)(c:Cl)(hf:s.fP)(iP:s.Q.length<=40)(hb:cM c=false):
  mS (ev P (.call zw [.d (.ag [nm,I' 8,I' sz,I' ot]),.d (.ag s.row),.d (.ag c.row)] [])) 8 sz ot s c:=by
 have bQ:ev P (.call ng [.d (.ag [nm,I' 8,I' sz,I' ot]),.d (.ag s.row)] [])=some (.val (.d (I' (dg 8 sz ot s))) []):=JT nm 8 sz ot s hf.sm;by_cases hc:dg 8 sz ot s=0
 .obtain⟨hn,hs⟩:=G1.1 hc
  have hsz:1<=sz/\sz<=100/\1<=ot/\ot<=1099511627776:=by
   unfold jh at hn;simp at hn;omega
  rw[hc]at bQ;have hlo:=hs.lo;have hhi:=hs.hi;have Zq:=hs.t0;refine mS.of (arH nm 8 sz ot s c (by omega) (by omega) hs.t0 hf.qn (by omega) (λw hw=>by have:=(hs.q.w w hw).2.2.2;omega) bQ) λhe=>?_
  have hbd:=xF hb;unfold uy at he;obtain⟨h1,he⟩:=iJ (by decide) he
  obtain⟨h2,he⟩:=iJ (by decide) he
  simp at h1 h2;have hop:c.op=72\/c.op=75:=by omega
  obtain⟨n',mT,hr,hst,hn0,hn1,pG,wT,hrf⟩:=ar3 (sz:=sz) (ot:=ot) (now:=c.now) (n:=s.cnt) (tm:=s.time) hsz.2.2.1 ⟨hlo,hhi⟩ (by omega)
  have fN:(s.ab true).pl=aL s.cnt s.time:=by
   unfold S.ab S.pl aL;simp[hs.own,hs.val,hs.h,hs.b,hs.c,hs.cl]
  have hcb:cM {c with op:=75}=false:=hb;have bV:=ar4 (c:={c with op:=75}) hn ⟨hlo,hhi⟩ (by simp only;omega) hcb rfl hr
  rw[<-fN]at bV;obtain⟨q1,q2⟩:=ar6 s.Q n';have asa:=λR=>ar7 (sz:=sz) (ot:=ot) (now:=c.now) (tm:=mT) hn (by omega) ⟨pG,wT⟩ s.Q n' R ⟨hn0,hn1⟩ hst (λw hw=>⟨(hs.q.w w hw).1,(hs.q.w w hw).2.1,(hs.q.w w hw).2.2.2⟩) (aL n' mT) rfl
  unfold AJ;rw[hrf s rfl rfl];have yW:Km {s with cnt:=n',time:=mT}=(eu s.Q n').2.2.map tg:=by
   unfold Km;refine vM λw hw=>?_
   unfold pT tg;rw[(hs.q.w w (q2.subset hw)).2.1]
  have hls:nr {s with cnt:=n',time:=mT}={s with cnt:=(eu s.Q n').2.1,time:=mT,Q:=(eu s.Q n').1}:=rfl;rw[yW,hls];have hlen:=q1.length_le;have rY:=q2.length_le;have iN:∀m:Int,({s with cnt:=m,time:=mT,Q:=(eu s.Q n').1}:S).fP:=λm=>⟨⟨hf.wf.h,hf.wf.b,hf.wf.c,hf.wf.k⟩,λh=>by have:=hf.qn h;simp[this,eu],hf.h,by simp only;omega,hf.b,hf.c,hf.l⟩
  obtain⟨_,_,_,hb3,hb4,_⟩:=asa [];have asb:∀m:Int,0<=m->m<=sz->dg 8 sz ot {s with cnt:=m,time:=mT,Q:=(eu s.Q n').1}=0:=λm m0 m1 =>
   G1.2 ⟨hn,hs.own,m0,m1,pG,by simp only;omega,hs.val,hs.cl,hs.h,hs.b,hs.c,hs.q.sub q1⟩
  have Ko:∀(m:Int)(b:S),b.pl=aL m mT->b.pl=(({s with cnt:=m,time:=mT,Q:=(eu s.Q n').1}:S).ab true).pl:=λm b hb=>by
   rw[hb];unfold S.ab S.pl aL;simp[hs.own,hs.val,hs.h,hs.b,hs.c,hs.cl]
  have W8:∀r:Ry,r.wl=(eu s.Q n').2.2.map tg->vJ 8 s c r=⟨{c with op:=75},⟨c.task,75,0,true,-1⟩⟩::((eu s.Q n').2.2.map (oI c.now)++if c.op=75 then[]else iY c r):=λr h=>by
   unfold vJ;rw[aN rfl,h,Kf c.now hs.q.tk q2 λw hw=>(hs.q.w w hw).2.2.1]
  have W9:∀(R:List Cp)(m:Int)(s':S),(∀b:S,b.pl=aL (eu s.Q n').2.1 mT->Ef sz ot c.now (eu s.Q n').2.1 mT->(dz 8 sz ot b R).2=true/\(dz 8 sz ot b R).1.pl=(s'.ab true).pl) ->
    jL 8 sz ot s (⟨{c with op:=75},⟨c.task,75,0,true,-1⟩⟩::((eu s.Q n').2.2.map (oI c.now)++R)) s':=λR m s' h=>by
   obtain⟨b,b1,b2,_,_,b5⟩:=asa R;unfold jL;rw[nC (x:=⟨{c with op:=75},⟨c.task,75,0,true,-1⟩⟩) bV rfl rfl (.inr (.inl rfl)),b5];exact h b b1 b2
  unfold Kn;rcases hop with ho |ho
  .rw[aG (by omega)]
   obtain⟨h3,he⟩:=iJ (b:=c.op==75) (a:=1) (r:=if y7 sz c=true then 2 else if fK s c.task=true then 17 else 0) (by decide) (by rw[ho]at he⊢;simpa using he)
   obtain⟨h5,he⟩:=iJ (by decide) he
   obtain⟨h4,_⟩:=iJ (b:=fK s c.task) (a:=17) (r:=0) (by decide) he
   unfold y7 at h5;simp at h5;by_cases hq:(eu s.Q n').1=[]/\c.value<=(eu s.Q n').2.1
   .rw[aN hq]
    refine⟨iN _,hc,asb ((eu s.Q n').2.1 - c.value) (by omega) (by omega),by simp;omega,?_⟩
    rw[W8 _ rfl,aG (by omega)]
    refine W9 _ 0 _ λb b1 b2=>?_
    have gk:=ar5 hn (n:=(eu s.Q n').2.1) ⟨by omega,by omega⟩ (tm:=mT) ⟨pG,wT⟩ hb ho (by omega) b2 hq.2
    rw[<-b1]at gk;simp only[iY,fG,dK];rw[show(⟨c,⟨c.task,c.op,0,true,-1⟩⟩:Cp)=gB c 0 true from rfl,nC (x:=gB c 0 true) gk rfl rfl (.inr (.inl rfl))]
    exact⟨rfl,Ko _ _ rfl⟩
   .rw[aG hq]
    refine⟨⟨⟨hf.wf.h,hf.wf.b,hf.wf.c,hf.wf.k⟩,by simp,hf.h,by simp;omega,hf.b,hf.c,hf.l⟩,hc,?_,by simp;omega,?_⟩
    .refine G1.2 ⟨hn,hs.own,hb3,by simp only;omega,pG,by simp only;omega,hs.val,hs.cl,hs.h,hs.b,hs.c,(hs.q.sub q1).snoc (by omega) ⟨?_,rfl,rfl,by simp only;omega⟩ ?_⟩
     .unfold dU kR
      simp;omega
     .unfold fK at h4
      exact GO q1 h4
    .rw[W8 _ rfl,aG (by omega)]
     refine W9 _ 0 _ λb b1 b2=>?_
     simp only[iY,dH,dz,KQ];rw[Ko _ b b1];rfl
  .rw[aN ho]
   refine⟨iN _,hc,asb _ hb3 (by omega),by simp;omega,?_⟩
   rw[W8 _ rfl,aN ho];refine W9 _ 0 _ λb b1 b2=>?_
   simp only[dz,KQ];exact Ko _ b b1
 .exact mS.er hc (ar8 nm sz ot s c hf hc)
abbrev lS(sz:Int)(s:S)(qc bc wc:V):O:=.gK 11 [[.d (I' sz),.d (I' s.own),.d (I' s.cnt),.d (I' s.time),.d (hD s.hn s.H),qc,bc,.d (cD s.cn s.C),.d (.b s.cl),.d (I' s.val),wc]]
def bC(i:Nat):Option (List Int)->V
 |none=>.d (.sl 1 true [])
 |some l=>.aR i 0 l.length
def cK:Option (List Int)->List O
 |none=>[]
 |some l=>[.aI 1 true (bW l)]
def hQ(sz:Int)(s:S)(Q:List W)(b:Option (List Int)):List O:=lS sz s (.aR 1 0 Q.length) (bC 2 b) (.d (.sl 5 true []))::.aI 5 true (Q.map W.row)::cK b
def jA(s:S):Option (List Int):=if s.bn=true then none else some s.B
theorem vK(nm:D)(k sz ot:Int)(s:S)(hw:s.wf)(hq:s.qn=false)(hn:s.Q.length<=500)(hm:s.B.length<=500):
  ev P (.call HK [.d (.ag [nm,I' k,I' sz,I' ot]),.d (.ag s.row)] [])=some (.val (.loc 0 0 0) (hQ sz s s.Q (jA s))):=by
 have h0:=xu s.qn s.Q (by simp[hq]) (by omega)
 rw[hq,aG (by simp)]at h0
 rw[au Tt rfl];unfold hQ jA;cases hb:s.bn
 .have hc:=tV false s.B (by simp) (by omega)
  simp at hc;simp only[S.row,hq,qD]at *;simp[Fb,bC,cK,hb,hc,h0,aJ,aD,sub,aE,back,az,av,ak,cut,bA,aq,V.aY,bt,aX,bg,aO,aP,aZ,cG]
 .have hc:=tV true [] (by simp) (by simp)
  simp at hc;have hB:=hw.b hb;simp only[S.row,hq,qD]at *;simp[Fb,bC,cK,hB,hb,hc,h0,aJ,aD,sub,aE,back,az,av,ak,cut,bA,aq,V.aY,bt,aX,bg,aO,aP,aZ,cG]
theorem asd(op a b c d e:Int):ev P (.call EM [.d (.ag [I' a,I' b,I' c,I' d,I' e]),.d (.ref [I' op])] [])=some (.val (.d (.b (b==op))) []):=by
 rw[au ae5 rfl];simp[Td]
def fW(op:Int)(Q:List W):Option W:=Q.find? λw=>w.op==op
def rJ:Option W->List D
 |none=>[I' 0,I' 0,I' 0,I' 0,I' 0]
 |some w=>w.row
theorem ase(nl:Bool)(Q:List W)(op:Int)(hn:Q.length<=1000000):ev P (.call Mi [.d (qD nl Q),.d (.fn EM [] [.ref [I' op]])] [])=some (.val (.tu [.d (.ag (rJ (fW op Q))),.d (.b (fW op Q).isSome)]) []):=by
 have h:=IP (f:=EM) (first:=[]) (caps:=[.ref [I' op]]) (p:=λw=>w.op==op) nl Q hn (by intro a b c d e;simp[asd])
 have h:ev P (.call x9 [.d (qD nl Q),.d (.fn EM [] [.ref [I' op]])] [])=some (.val (.d (I' (idx (λw:W=>w.op==op) 0 Q))) []):=h
 rw[au Y7 rfl];unfold fW;rcases Db (p:=λw:W=>w.op==op) Q 0 with⟨h1,h2⟩ |⟨i,c,h1,h2,h3⟩
 .have h1:idx (λw:W=>w.op==op) 0 Q = -1:=h1
  rw[h1]at h;rw[h2];simp[IC,h,rJ,aJ,aD,sub,aE,back,az,av,ak,cut,bA,aq,V.aY]
 .have h1:idx (λw:W=>w.op==op) 0 Q=(i:Int):=by have:=h1;simpa using this
  rw[h1]at h;rw[h3];have h4:¬((i:Int)<0):=by omega
  simp[IC,h,h2,h4,rJ,W.row,aJ,aD,sub,aE,back,az,av,ak,cut,bA,aq,V.aY]
theorem y8(sz op:Int)(s:S)(Q:List W)(b:Option (List Int))(hn:Q.length<=1000000):
  ev P (.call EL [.loc 0 0 0,.d (I' op)] (hQ sz s Q b))=some (.val (.tu [.d (.ag (rJ (fW op Q))),.d (.b (fW op Q).isSome)]) (hQ sz s Q b)):=by
 have hf:=ase false Q op hn;rw[au TE rfl];simp only[qD]at hf;unfold hQ;generalize fW op Q=f at *;cases f with
 |none =>
  simp only[rJ,AT]at hf⊢;cases b<;>simp[Fp,bC,cK,hf,aJ,aD,sub,aE,back,az,av,ak,cut,bA,aq,V.aY,bt,aX,bg,aO,aP,aZ,cG]
 |some w =>
  simp only[rJ,Hr,W.row]at hf⊢;cases b<;>simp[Fp,bC,cK,hf,aJ,aD,sub,aE,back,az,av,ak,cut,bA,aq,V.aY,bt,aX,bg,aO,aP,aZ,cG]
def hF(sz:Int)(s:S)(q:D)(Q0:List W)(b:Option (List Int))(l:List Wk):List O :=
 match b with
 |none=>[lS sz s (.d q) (.d (.sl 1 true [])) (.aR 2 0 l.length),.aI 5 false (Q0.map W.row),.aI 5 true (l.map Wk.row)]
 |some B=>[lS sz s (.d q) (.aR 2 0 B.length) (.aR 3 0 l.length),.aI 5 false (Q0.map W.row),.aI 1 true (bW B),.aI 5 true (l.map Wk.row)]
theorem Kq(sz v:Int)(ok:Bool)(w:W)(s:S)(Q:List W)(b:Option (List Int))(hn:Q.length<=1000000):
  ev P (.call CQ [.loc 0 0 0,.d (.ag w.row),.d (I' v),.d (.b ok)] (hQ sz s Q b))=some (.val (.tu []) (hF sz s (qO (Q.filter λx=>x.task != w.task)) Q b [⟨w.task,w.op,v,ok,w.case⟩])):=by
 have hR:=yP false Q w.task hn;have hr:1<=room:=by decide
 rw[au Y4 rfl];unfold hQ;obtain⟨b1,r1,e1⟩:∃b r,qO (Q.filter λx=>x.task != w.task) = .sl 5 b r:=⟨_,_,rfl⟩
 rw[e1]at hR⊢;simp only[qD]at hR;cases b<;>simp[No,hF,W.row,Wk.row,bC,cK,hR,hr,aJ,aD,sub,aE,back,az,av,ak,cut,bA,aq,V.aY,bt,aX,bg,aO,aP,aZ,cG]
def hG(sz:Int)(s:S)(q:D)(b:Option (Nat×List (List D)×Nat))(l:List Wk):List O :=
 match b with
 |none=>[lS sz s (.d q) (.d (.sl 1 true [])) (.aR 1 0 l.length),.aI 5 true (l.map Wk.row)]
 |some (o,R,n)=>[lS sz s (.d q) (.aR 1 o n) (.aR 2 0 l.length),.aI 1 true R,.aI 5 true (l.map Wk.row)]
def cI(s:S)(q b:V)(pk:Bool)(n:Int)(ok:Bool)(w:V):V :=
 .ag [.d (I' s.own),.d (I' s.cnt),.d (I' s.time),.d (hD s.hn s.H),q,b,.d (cD s.cn s.C),.d (.b s.cl),.d (I' s.val),.d (.b pk),.d (I' n),.d (.b ok),w]
def bG:Option (Nat×List (List D)×Nat)->V
 |none=>.d (.sl 1 true [])
 |some (o,_,n)=>.aR 1 o n
def wG(k:Nat):Option (Nat×List (List D)×Nat)->V
 |none=>.aR 1 0 k
 |some _=>.aR 2 0 k
theorem Kr(sz n':Int)(ok:Bool)(s:S)(q:D)(b:Option (Nat×List (List D)×Nat))(a:Wk)(l:List Wk):
  ev P (.call uP [.loc 0 0 0,.d (I' n'),.d (.b ok)] (hG sz s q b (a::l)))=some (.val (cI s (.d q) (bG b) false n' ok (wG (l.length+1) b)) (hG sz s q b (a::l))):=by
 rw[au IL rfl];rcases b with _ |⟨o,R,n⟩<;>simp[C4,hG,cI,bG,wG,aJ,aD,sub,aE,back,az,av,ak,cut,bA,aq,V.aY,bt,aX,bg,aO,aP]
def bF:Option (List Int)->Option (Nat×List (List D)×Nat)
 |none=>none
 |some B=>some (0,bW B,B.length)
def eK(s:S)(q:D)(b:Option (List Int))(pk:Bool)(n:Int)(ok:Bool)(k:Nat):V :=
 cI s (.d q) (bC 2 b) pk n ok (.aR (match b with |none=>2 |some _=>3) 0 k)
theorem asf(sz:Int)(s:S)(c:Cl)(Q:List W)(b:Option (List Int))(w:W)(hn:Q.length<=500)(hf:fW 65 Q=some w):
  ev P (.call zy [.loc 0 0 0,.d (.ag c.row)] (hQ sz s Q b))=some (.val (eK s (qO (Q.filter λx=>x.task != w.task)) b false 0 true 1) (hF sz s (qO (Q.filter λx=>x.task != w.task)) Q b [⟨w.task,w.op,c.value,true,w.case⟩])):=by
 have hw:=y8 sz 65 s Q b (by omega)
 have hc:=Kq sz c.value true w s Q b (by omega)
 have hd:=Kr sz 0 true s (qO (Q.filter λx=>x.task != w.task)) (bF b) ⟨w.task,w.op,c.value,true,w.case⟩ []
 rw[hf]at hw;obtain⟨b1,r1,e1⟩:∃b r,qO (Q.filter λx=>x.task != w.task) = .sl 5 b r:=⟨_,_,rfl⟩
 rw[e1]at hc hd⊢;simp only[Cl.row,rJ,W.row,Hr]at *;rw[au IK rfl];cases b with
 |none =>
  simp[hQ,hF,hG,cI,bG,wG,bF,bC,cK,Wk.row]at hw hc hd;simp[uV,hQ,hF,eK,cI,bC,cK,Wk.row,hw,hc,hd,aJ,aD,sub,aE,back,az,av,ak,cut,bA,aq,V.aY,bt,aX,bg,aO,aP]
 |some B =>
  simp[hQ,hF,hG,cI,bG,wG,bF,bC,cK,Wk.row]at hw hc hd;simp[uV,hQ,hF,eK,cI,bC,cK,Wk.row,hw,hc,hd,aJ,aD,sub,aE,back,az,av,ak,cut,bA,aq,V.aY,bt,aX,bg,aO,aP]
def pB(v:Int)(Q:List W)(sz:Int)(s:S):Option (List Int)->List O
 |none=>[lS sz s (.aR 1 0 Q.length) (.aR 2 0 1) (.d (.sl 5 true [])),.aI 5 true (Q.map W.row),.aI 1 true [[I' v]]]
 |some B=>[lS sz s (.aR 1 0 Q.length) (.aR 3 0 (B.length+1)) (.d (.sl 5 true [])),.aI 5 true (Q.map W.row),.dead,.aI 1 true (bW B++[[I' v]])]
def pV(b:Option (List Int)):V :=
 match b with
 |none=>.aR 2 0 1
 |some B=>.aR 3 0 (B.length+1)
theorem asg(sz v:Int)(s:S)(Q:List W)(b:Option (List Int))(hb:∀B,b=some B->B.length<=500):
  ev P (.call CR [.loc 0 0 0,.d (I' v)] (hQ sz s Q b))=some (.val (.tu []) (pB v Q sz s b)):=by
 have hr:1<=room:=by decide
 rw[au NJ rfl];cases b with
 |none=>simp[C5,hQ,bC,cK,pB,hr,aJ,aD,sub,aE,back,az,av,ak,cut,bA,aq,V.aY,bt,aX,bg,aO,aP]
 |some B =>
  have h2:B.length<=(bW B).length:=by simp[bW]
  have h3:B.length+1<=room:=by have:=hb B rfl;unfold room;omega
  have h4:(bW B).take B.length=bW B:=gD (by simp[bW])
  have h5:¬B.length+1<=(bW B).length:=by simp[bW]
  simp[C5,hQ,bC,cK,pB,hr,h2,h3,h4,h5,aJ,aD,sub,aE,back,az,av,ak,cut,bA,aq,V.aY,bt,aX,bg,aO,aP,cy]
def kW(c:Cl):W:=⟨c.task,c.op,if c.op=64 then c.value else 0,c.prio,-1⟩
def kH(sz:Int)(s:S)(c:Cl)(Q:List W):Option (List Int)->List O
 |none=>[lS sz s (.aR 2 0 (Q.length+1)) (.d (.sl 1 true [])) (.d (.sl 5 true [])),.dead,.aI 5 true (Q.map W.row++[(kW c).row])]
 |some B=>[lS sz s (.aR 3 0 (Q.length+1)) (.aR 2 0 B.length) (.d (.sl 5 true [])),.dead,.aI 1 true (bW B),.aI 5 true (Q.map W.row++[(kW c).row])]
def kV(n:Nat):Option (List Int)->V
 |none=>.aR 2 0 (n+1)
 |some _=>.aR 3 0 (n+1)
theorem ash(sz:Int)(s:S)(c:Cl)(Q:List W)(b:Option (List Int))(hn:Q.length<=500):
  ev P (.call yc [.loc 0 0 0,.d (.ag c.row)] (hQ sz s Q b))=some (.val (cI s (kV Q.length b) (bC 2 b) true 0 false (.d (.sl 5 true []))) (kH sz s c Q b)):=by
 have h3:Q.length+1<=room:=by unfold room;omega
 rw[au TF rfl];cases h:c.op==64
 .have h':=h
  simp at h';cases b<;>simp[Bn,hQ,bC,cK,kV,kH,kW,cI,W.row,Cl.row,h,h',h3,aJ,aD,sub,aE,back,az,av,ak,cut,bA,aq,V.aY,bt,aX,bg,aO,aP,aZ,cy]
 .have h':=h
  simp at h';cases b<;>simp[Bn,hQ,bC,cK,kV,kH,kW,cI,W.row,Cl.row,h',h3,aJ,aD,sub,aE,back,az,av,ak,cut,bA,aq,V.aY,bt,aX,bg,aO,aP,aZ,cy]
theorem asi(sz n':Int)(ok:Bool)(s:S)(Q:List W)(d:D):
  ev P (.call uP [.loc 0 0 0,.d (I' n'),.d (.b ok)] [lS sz s (.aR 1 0 Q.length) (.d d) (.d (.sl 5 true [])),.aI 5 true (Q.map W.row)])=some (.val (cI s (.aR 1 0 Q.length) (.d d) false n' ok (.d (.sl 5 true []))) [lS sz s (.aR 1 0 Q.length) (.d d) (.d (.sl 5 true [])),.aI 5 true (Q.map W.row)]):=by
 rw[au IL rfl];simp[C4,cI,aJ,aD,sub,aE,back,az,av,ak,cut,bA,aq,V.aY,bt,aX,bg,aO,aP]
theorem G2(sz n':Int)(ok:Bool)(s:S)(Q:List W)(o n:Nat)(R:List (List D)):
  ev P (.call uP [.loc 0 0 0,.d (I' n'),.d (.b ok)] [lS sz s (.aR 1 0 Q.length) (.aR 2 o n) (.d (.sl 5 true [])),.aI 5 true (Q.map W.row),.aI 1 true R])=some (.val (cI s (.aR 1 0 Q.length) (.aR 2 o n) false n' ok (.d (.sl 5 true []))) [lS sz s (.aR 1 0 Q.length) (.aR 2 o n) (.d (.sl 5 true [])),.aI 5 true (Q.map W.row),.aI 1 true R]):=by
 rw[au IL rfl];simp[C4,cI,aJ,aD,sub,aE,back,az,av,ak,cut,bA,aq,V.aY,bt,aX,bg,aO,aP]
theorem asj(sz:Int)(s:S)(c:Cl)(Q:List W)(b:Option (List Int))(hn:Q.length<=500)(hb:∀B,b=some B->B.length<=500)(hf:fW 65 Q=none)(hl:((b.getD []).length:Int)<sz):
  ev P (.call zy [.loc 0 0 0,.d (.ag c.row)] (hQ sz s Q b))=some (.val (cI s (.aR 1 0 Q.length) (pV b) false 0 true (.d (.sl 5 true []))) (pB c.value Q sz s b)):=by
 have hw:=y8 sz 65 s Q b (by omega)
 have hp:=asg sz c.value s Q b hb;rw[hf]at hw;rw[au IK rfl];simp only[Cl.row,rJ,AT]at *;cases b with
 |none =>
  have hd:=G2 sz 0 true s Q 0 1 [[I' c.value]];simp[hQ,pB,bC,cK,cI]at hw hp hd hl;simp[uV,hQ,pB,pV,cI,bC,cK,hw,hp,hd,hl,aJ,aD,sub,aE,back,az,av,ak,cut,bA,aq,V.aY,bt,aX,bg,aO,aP]
 |some B =>
  have hd:=G2 sz 0 true s Q 0 (B.length+1) (bW B++[[I' c.value]]);simp[hQ,pB,bC,cK,cI]at hw hp hd hl;simp[uV,hQ,pB,pV,cI,bC,cK,hw,hp,hd,hl,aJ,aD,sub,aE,back,az,av,ak,cut,bA,aq,V.aY,bt,aX,bg,aO,aP]
theorem asn(sz:Int)(s:S)(c:Cl)(Q:List W)(b:Option (List Int))(hn:Q.length<=500)(hf:fW 65 Q=none)(hl:¬((b.getD []).length:Int)<sz):
  ev P (.call zy [.loc 0 0 0,.d (.ag c.row)] (hQ sz s Q b))=some (.val (cI s (kV Q.length b) (bC 2 b) true 0 false (.d (.sl 5 true []))) (kH sz s c Q b)):=by
 have hw:=y8 sz 65 s Q b (by omega)
 have hp:=ash sz s c Q b hn;rw[hf]at hw;rw[au IK rfl];simp only[Cl.row,rJ,AT]at *;generalize (kW c).row=kr at *;cases b with
 |none =>
  simp[hQ,kH,kV,bC,cK,cI]at hw hp;have hl:¬(0:Int)<sz:=hl;simp[uV,hQ,kH,kV,cI,bC,cK,hw,hp,hl,aJ,aD,sub,aE,back,az,av,ak,cut,bA,aq,V.aY,bt,aX,bg,aO,aP]
 |some B =>
  simp[hQ,kH,kV,bC,cK,cI]at hw hp;have hl:¬(B.length:Int)<sz:=hl;simp[uV,hQ,kH,kV,cI,bC,cK,hw,hp,hl,aJ,aD,sub,aE,back,az,av,ak,cut,bA,aq,V.aY,bt,aX,bg,aO,aP]
theorem aso(sz:Int)(s:S)(c:Cl)(Q:List W)(x y:Int)(B:List Int)(hn:Q.length<=500)(hm:B.length<=500)(hf:fW 64 Q=none):
  ev P (.call p9 [.loc 0 0 0,.d (.ag c.row)] (hQ sz s Q (some (x::y::B))))=some (.val (cI s (.aR 1 0 Q.length) (.aR 2 1 (B.length+1)) false x true (.d (.sl 5 true []))) [lS sz s (.aR 1 0 Q.length) (.aR 2 1 (B.length+1)) (.d (.sl 5 true [])),.aI 5 true (Q.map W.row),.aI 1 true (bW (x::y::B))]):=by
 have hw:=y8 sz 64 s Q (some (x::y::B)) (by omega)
 have hd:=G2 sz x true s Q 1 (B.length+1) (bW (x::y::B));rw[hf]at hw;rw[au wj rfl];simp only[Cl.row,rJ,AT]at *;have h1:(0:Int)<(B.length:Int)+1+1:=by omega
 have h2:(1:Int)<=(B.length:Int)+1+1:=by omega
 have h3:(1:Int)<(B.length:Int)+1+1:=by omega
 have h5:(B.length:Int)+1+1<=(B.length:Int)+1+1:=by omega
 have h6:((B.length:Int)+1+1).toNat - 1=B.length+1:=by omega
 simp[hQ,bC,cK,cI,bW]at hw hd;simp[oY,hQ,bC,cK,cI,bW,hw,hd,h1,h2,h3,h5,h6,aJ,aD,sub,aE,back,az,av,ak,cut,bA,aq,V.aY,bt,aX,bg,aO,aP]
theorem asp(sz:Int)(s:S)(c:Cl)(Q:List W)(x:Int)(hn:Q.length<=500)(hf:fW 64 Q=none):
  ev P (.call p9 [.loc 0 0 0,.d (.ag c.row)] (hQ sz s Q (some [x])))=some (.val (cI s (.aR 1 0 Q.length) (.aR 3 0 0) false x true (.d (.sl 5 true []))) [lS sz s (.aR 1 0 Q.length) (.aR 3 0 0) (.d (.sl 5 true [])),.aI 5 true (Q.map W.row),.dead,.aI 1 true []]):=by
 have hw:=y8 sz 64 s Q (some [x]) (by omega)
 have hd:=G2 sz x true s Q 0 0 [];rw[hf]at hw;rw[au wj rfl];simp only[Cl.row,rJ,AT]at *;simp[hQ,bC,cK,cI,bW]at hw hd;simp[oY,hQ,bC,cK,cI,bW,hw,hd,aJ,aD,sub,aE,back,az,av,ak,cut,bA,aq,V.aY,bt,aX,bg,aO,aP]
theorem asq(sz v:Int)(s:S)(Q:List W)(x:List D)(R:List (List D))(n:Nat)(hR:R.length=n)(hn:n<=500):
  ev P (.call CR [.loc 0 0 0,.d (I' v)] [lS sz s (.aR 1 0 Q.length) (.aR 2 1 n) (.d (.sl 5 true [])),.aI 5 true (Q.map W.row),.aI 1 true (x::R)]) =
   some (.val (.tu []) [lS sz s (.aR 1 0 Q.length) (.aR 3 0 (n+1)) (.d (.sl 5 true [])),.aI 5 true (Q.map W.row),.dead,.aI 1 true (R++[[I' v]])]):=by
 have h2:1+n<=R.length+1:=by omega
 have h3:n+1<=room:=by unfold room;omega
 have h4:R.take n=R:=gD (by omega)
 have h5:¬1+n+1<=R.length+1:=by omega
 have h6:¬1+(n+1)<=R.length+1:=by omega
 refine eqv λX hX=>?_
 rw[au NJ rfl];simp[C5,h2,h3,h4,h5,h6,aJ,aD,sub,aE,back,az,av,ak,cut,bA,aq,V.aY,bt,aX,bg,aO,aP,cy];rw[<-hX]
theorem asr(sz:Int)(s:S)(c:Cl)(Q:List W)(x y:Int)(B:List Int)(w:W)(hn:Q.length<=500)(hm:B.length<=400)(hf:fW 64 Q=some w):
  ev P (.call p9 [.loc 0 0 0,.d (.ag c.row)] (hQ sz s Q (some (x::y::B))))=some (.val (cI s (.d (qO (Q.filter λx=>x.task != w.task))) (.aR 3 0 (B.length+2)) false x true (.aR 4 0 1)) [lS sz s (.d (qO (Q.filter λx=>x.task != w.task))) (.aR 3 0 (B.length+2)) (.aR 4 0 1),.aI 5 false (Q.map W.row),.dead,.aI 1 true (bW (y::B++[w.value])),.aI 5 true [Wk.row ⟨w.task,w.op,0,true,w.case⟩]]):=by
 have hw:=y8 sz 64 s Q (some (x::y::B)) (by omega)
 have hp:=asq sz w.value s Q [I' x] (bW (y::B)) (B.length+1) (by simp[bW]) (by omega)
 have hc:=Kq sz 0 true w s Q (some (y::B++[w.value])) (by omega)
 have hd:=Kr sz x true s (qO (Q.filter λx=>x.task != w.task)) (some (0,bW (y::B++[w.value]),B.length+2)) ⟨w.task,w.op,0,true,w.case⟩ []
 rw[hf]at hw;obtain⟨b1,r1,e1⟩:∃b r,qO (Q.filter λx=>x.task != w.task) = .sl 5 b r:=⟨_,_,rfl⟩
 rw[e1]at hc hd⊢;refine eqv λX hX=>?_
 rw[au wj rfl];simp only[Cl.row,rJ,W.row,Hr]at *;have h1:(0:Int)<(B.length:Int)+1+1:=by omega
 have h2:(1:Int)<=(B.length:Int)+1+1:=by omega
 have h3:(1:Int)<(B.length:Int)+1+1:=by omega
 have h6:((B.length:Int)+1+1).toNat - 1=B.length+1:=by omega
 simp[hQ,hF,hG,bC,cK,cI,bG,wG,bW,Wk.row]at hw hp hc hd;simp[oY,hQ,hF,bC,cK,cI,eK,bW,Wk.row,hw,hp,hc,hd,h1,h2,h3,h6,aJ,aD,sub,aE,back,az,av,ak,cut,bA,aq,V.aY,bt,aX,bg,aO,aP];rw[<-hX];simp[cI,bW,Wk.row]
theorem ast(sz:Int)(s:S)(c:Cl)(Q:List W)(x:Int)(w:W)(hn:Q.length<=500)(hf:fW 64 Q=some w):
  ev P (.call p9 [.loc 0 0 0,.d (.ag c.row)] (hQ sz s Q (some [x])))=some (.val (cI s (.d (qO (Q.filter λx=>x.task != w.task))) (.aR 3 0 1) false x true (.aR 4 0 1)) [lS sz s (.d (qO (Q.filter λx=>x.task != w.task))) (.aR 3 0 1) (.aR 4 0 1),.aI 5 false (Q.map W.row),.dead,.aI 1 true [[I' w.value]],.aI 5 true [Wk.row ⟨w.task,w.op,0,true,w.case⟩]]):=by
 have hw:=y8 sz 64 s Q (some [x]) (by omega)
 have hp:=asg sz w.value s Q (some []) (λB h=>by simp at h;subst h;simp)
 have hc:=Kq sz 0 true w s Q (some [w.value]) (by omega)
 have hd:=Kr sz x true s (qO (Q.filter λx=>x.task != w.task)) (some (0,bW [w.value],1)) ⟨w.task,w.op,0,true,w.case⟩ []
 rw[hf]at hw;obtain⟨b1,r1,e1⟩:∃b r,qO (Q.filter λx=>x.task != w.task) = .sl 5 b r:=⟨_,_,rfl⟩
 rw[e1]at hc hd⊢;refine eqv λX hX=>?_
 rw[au wj rfl];simp only[Cl.row,rJ,W.row,Hr]at *;simp[hQ,hF,hG,bC,cK,pB,cI,bG,wG,bW,Wk.row]at hw hp hc hd;simp[oY,hQ,hF,bC,cK,cI,eK,bW,Wk.row,hw,hp,hc,hd,aJ,aD,sub,aE,back,az,av,ak,cut,bA,aq,V.aY,bt,aX,bg,aO,aP];rw[<-hX];simp[cI,bW,Wk.row]
theorem asu(sz:Int)(s:S)(c:Cl)(Q:List W)(b:Option (List Int))(w:W)(hn:Q.length<=500)(hb:b.getD []=[])(hf:fW 64 Q=some w):
  ev P (.call p9 [.loc 0 0 0,.d (.ag c.row)] (hQ sz s Q b))=some (.val (eK s (qO (Q.filter λx=>x.task != w.task)) b false w.value true 1) (hF sz s (qO (Q.filter λx=>x.task != w.task)) Q b [⟨w.task,w.op,0,true,w.case⟩])):=by
 have hw:=y8 sz 64 s Q b (by omega)
 have hc:=Kq sz 0 true w s Q b (by omega)
 have hd:=Kr sz w.value true s (qO (Q.filter λx=>x.task != w.task)) (bF b) ⟨w.task,w.op,0,true,w.case⟩ []
 rw[hf]at hw;obtain⟨b1,r1,e1⟩:∃b r,qO (Q.filter λx=>x.task != w.task) = .sl 5 b r:=⟨_,_,rfl⟩
 rw[e1]at hc hd⊢;rw[au wj rfl];simp only[Cl.row,rJ,W.row,Hr]at *;cases b with
 |none =>
  simp[hQ,hF,hG,bC,cK,cI,bG,wG,bF,bW,Wk.row]at hw hc hd;simp[oY,hQ,hF,bC,cK,cI,eK,bW,Wk.row,hw,hc,hd,aJ,aD,sub,aE,back,az,av,ak,cut,bA,aq,V.aY,bt,aX,bg,aO,aP]
 |some B =>
  obtain rfl:B=[]:=hb;simp[hQ,hF,hG,bC,cK,cI,bG,wG,bF,bW,Wk.row]at hw hc hd;simp[oY,hQ,hF,bC,cK,cI,eK,bW,Wk.row,hw,hc,hd,aJ,aD,sub,aE,back,az,av,ak,cut,bA,aq,V.aY,bt,aX,bg,aO,aP]
theorem asv(sz:Int)(s:S)(c:Cl)(Q:List W)(b:Option (List Int))(hn:Q.length<=500)(hb:b.getD []=[])(hf:fW 64 Q=none)(bR:s.cl=true):
  ev P (.call p9 [.loc 0 0 0,.d (.ag c.row)] (hQ sz s Q b))=some (.val (cI s (.aR 1 0 Q.length) (bC 2 b) false 0 false (.d (.sl 5 true []))) (hQ sz s Q b)):=by
 have hw:=y8 sz 64 s Q b (by omega)
 rw[hf]at hw;rw[au wj rfl];simp only[Cl.row,rJ,AT,hQ]at *;cases b with
 |none =>
  have hd:=asi sz 0 false s Q (.sl 1 true []);simp[bC,cK,cI,lS,bR]at hw hd;simp[oY,bC,cK,cI,bR,hw,hd,aJ,aD,sub,aE,back,az,av,ak,cut,bA,aq,V.aY,bt,aX,bg,aO,aP]
 |some B =>
  obtain rfl:B=[]:=hb;have hd:=G2 sz 0 false s Q 0 0 [];simp[bC,cK,cI,lS,bR]at hw hd;simp[oY,bC,cK,cI,bR,hw,hd,aJ,aD,sub,aE,back,az,av,ak,cut,bA,aq,V.aY,bt,aX,bg,aO,aP]
theorem asw(sz:Int)(s:S)(c:Cl)(Q:List W)(b:Option (List Int))(hn:Q.length<=500)(hb:b.getD []=[])(hf:fW 64 Q=none)(bR:s.cl=false):
  ev P (.call p9 [.loc 0 0 0,.d (.ag c.row)] (hQ sz s Q b))=some (.val (cI s (kV Q.length b) (bC 2 b) true 0 false (.d (.sl 5 true []))) (kH sz s c Q b)):=by
 have hw:=y8 sz 64 s Q b (by omega)
 have hp:=ash sz s c Q b hn;rw[hf]at hw;rw[au wj rfl];generalize (kW c).row=kr at *;simp only[Cl.row,rJ,AT,hQ]at *;cases b with
 |none =>
  simp[kH,kV,bC,cK,cI,lS,bR]at hw hp;simp[oY,kH,kV,bC,cK,cI,bR,hw,hp,aJ,aD,sub,aE,back,az,av,ak,cut,bA,aq,V.aY,bt,aX,bg,aO,aP]
 |some B =>
  obtain rfl:B=[]:=hb;simp[kH,kV,bC,cK,cI,lS,bR]at hw hp;simp[oY,kH,kV,bC,cK,cI,bR,hw,hp,aJ,aD,sub,aE,back,az,av,ak,cut,bA,aq,V.aY,bt,aX,bg,aO,aP]
def hK(sz:Int)(s:S)(q:D)(b:Option (List Int))(l:List Wk):List O :=
 match b with
 |none=>[lS sz s (.d q) (.d (.sl 1 true [])) (.aR 2 0 l.length),.dead,.aI 5 true (l.map Wk.row)]
 |some B=>[lS sz s (.d q) (.aR 1 0 B.length) (.aR 3 0 l.length),.aI 1 true (bW B),.dead,.aI 5 true (l.map Wk.row)]
theorem asx(sz v:Int)(ok:Bool)(w:W)(s:S)(nl:Bool)(Q:List W)(b:Option (List Int))(a:Wk)(l:List Wk)(hn:Q.length<=1000000)(hl:l.length<=500):
  ev P (.call CQ [.loc 0 0 0,.d (.ag w.row),.d (I' v),.d (.b ok)] (hG sz s (qD nl Q) (bF b) (a::l)))=some (.val (.tu []) (hK sz s (qO (Q.filter λx=>x.task != w.task)) b ((a::l)++[⟨w.task,w.op,v,ok,w.case⟩]))):=by
 have hR:=yP nl Q w.task hn;have hr:l.length+1+1<=room:=by unfold room;omega
 rw[au Y4 rfl];obtain⟨b1,r1,e1⟩:∃b r,qO (Q.filter λx=>x.task != w.task) = .sl 5 b r:=⟨_,_,rfl⟩
 rw[e1]at hR⊢;refine eqv λX hX=>?_
 simp only[qD]at hR;cases b<;>simp[hK,Wk.row]at hX<;>simp[No,hG,bF,W.row,Wk.row,hR,hr,aJ,aD,sub,aE,back,az,av,ak,cut,bA,aq,V.aY,bt,aX,bg,aO,aP,aZ,cG,cy]<;>exact hX
def hZ(sz:Int)(s:S)(q:D)(Q0:List W)(b:Option (List Int))(l:List Wk):List O :=
 match b with
 |none=>[lS sz s (.d q) (.d (.sl 1 true [])) (.aR 3 0 l.length),.aI 5 false (Q0.map W.row),.aI 13 true [ny],.aI 5 true (l.map Wk.row)]
 |some B=>[lS sz s (.d q) (.aR 2 0 B.length) (.aR 4 0 l.length),.aI 5 false (Q0.map W.row),.aI 1 true (bW B),.aI 13 true [ny],.aI 5 true (l.map Wk.row)]
def xG(w:W):Wk:=⟨w.task,w.op,0,false,w.case⟩
def kL:Nat->List W->List Wk
 |n+1,w::T=>xG w::kL n ((w::T).filter λx=>x.task != w.task)
 |_,_=>[]
theorem asy(w:W)(T:List W):((w::T).filter λx=>x.task != w.task).length<=T.length:=by
 rw[XP (by simp)]
 exact oM _ _
abbrev Eg(b:Option (List Int)):Env:=[(0,.loc 0 0 0),(4,.loc (2+(cK b).length) 0 0)]
theorem asz(sz:Int)(s:S)(Q0:List W)(b:Option (List Int)):∀(n:Nat)(Q:List W)(a:Wk)(l:List Wk),Q.length<=n->Q.length+l.length<=400 ->
  ev P (.loop (2+(cK b).length) [0,4] rW (Eg b) (hZ sz s (qO Q) Q0 b (a::l)))=some (.out (.exit 0) (Eg b) (hZ sz s (qO []) Q0 b ((a::l)++kL n Q))):=by
 intro n;induction n with
 |zero =>
  intro Q a l h1 h2;obtain rfl:Q=[]:=AQ (by omega)
  rw[bY]
  conv=>lhs;arg 4;unfold rW
  cases b<;>simp[hZ,kL,qO,cK,aJ,aD,sub,aE,back,az,av,ak,cut,bA,aq,V.aY,bt,aX,bg,aO,aP]
 |succ n ih =>
  intro Q a l h1 h2;cases Q with
  |nil =>
   rw[bY]
   conv=>lhs;arg 4;unfold rW
   cases b<;>simp[hZ,kL,qO,cK,aJ,aD,sub,aE,back,az,av,ak,cut,bA,aq,V.aY,bt,aX,bg,aO,aP]
  |cons w T =>
   have hfl:=asy w T;simp only[ir]at h1 h2;have bE:=ih ((w::T).filter λx=>x.task != w.task) a (l++[xG w]) (by omega) (by rw[l6,vO];omega)
   have e:(a::l)++kL (n+1) (w::T)=(a::(l++[xG w]))++kL n ((w::T).filter λx=>x.task != w.task):=by simp[kL]
   rw[e];refine uD ?_ bE;clear bE ih e;have hc:=asx sz 0 false w s false (w::T) b a l (by simp;omega) (by omega)
   obtain⟨b1,r1,e1⟩:∃b r,qO ((w::T).filter λx=>x.task != w.task) = .sl 5 b r:=⟨_,_,rfl⟩
   rw[e1]at hc⊢;have hq:qO (w::T)=qD false (w::T):=rfl;rw[hq];have hlt:(0:Int)<(T.length:Int)+1:=by omega
   cases b with
   |none =>
    simp[hG,hK,bF,W.row,Wk.row]at hc;rw[bY]
    conv=>lhs;arg 4;unfold rW
    simp[hZ,cK,xG,W.row,Wk.row,hc,hlt,aJ,aD,sub,aE,back,az,av,ak,cut,bA,aq,V.aY,bt,aX,bg,aO,aP];rfl
   |some B =>
    simp[hG,hK,bF,W.row,Wk.row]at hc;rw[bY]
    conv=>lhs;arg 4;unfold rW
    simp[hZ,cK,xG,W.row,Wk.row,hc,hlt,aJ,aD,sub,aE,back,az,av,ak,cut,bA,aq,V.aY,bt,aX,bg,aO,aP];rfl
theorem asA(sz:Int)(s:S)(w:W)(T:List W)(b:Option (List Int))(hn:(w::T).length<=300):
  ev P (.loop (2+(cK b).length) [0,4] rW [(0,.loc 0 0 0),(4,.loc (2+(cK b).length) 0 0)] (hQ sz s (w::T) b++[.aI 13 true [ny]]))=some (.out (.exit 0) (Eg b) (hZ sz s (qO []) (w::T) b (kL (T.length+1) (w::T)))):=by
 have hfl:=asy w T;simp only[ir]at hn;have h1:=asz sz s (w::T) b T.length ((w::T).filter λx=>x.task != w.task) (xG w) [] hfl (by rw[mY];omega)
 have e:[xG w]++kL T.length ((w::T).filter λx=>x.task != w.task)=kL (T.length+1) (w::T):=by simp[kL]
 rw[e]at h1;refine uD ?_ h1;clear h1 e;have hc:=Kq sz 0 false w s (w::T) b (by simp;omega)
 obtain⟨b1,r1,e1⟩:∃b r,qO ((w::T).filter λx=>x.task != w.task) = .sl 5 b r:=⟨_,_,rfl⟩
 rw[e1]at hc⊢;have hlt:(0:Int)<(T.length:Int)+1:=by omega
 cases b with
 |none =>
  simp[hQ,hF,bC,cK,W.row,Wk.row]at hc;rw[bY]
  conv=>lhs;arg 4;unfold rW
  simp[hQ,hZ,bC,cK,xG,W.row,Wk.row,hc,hlt,aJ,aD,sub,aE,back,az,av,ak,cut,bA,aq,V.aY,bt,aX,bg,aO,aP];rfl
 |some B =>
  simp[hQ,hF,bC,cK,W.row,Wk.row]at hc;rw[bY]
  conv=>lhs;arg 4;unfold rW
  simp[hQ,hZ,bC,cK,xG,W.row,Wk.row,hc,hlt,aJ,aD,sub,aE,back,az,av,ak,cut,bA,aq,V.aY,bt,aX,bg,aO,aP];rfl
theorem asB(sz:Int)(s:S)(c:Cl)(w:W)(T:List W)(b:Option (List Int))(hn:(w::T).length<=300):
  ev P (.call Bb [.loc 0 0 0,.d (.ag c.row)] (hQ sz s (w::T) b)) =
   some (.val (eK {s with cl:=true} (qO []) b false 0 true (kL (T.length+1) (w::T)).length) (hF sz {s with cl:=true} (qO []) (w::T) b (kL (T.length+1) (w::T)))):=by
 have hL:=asA sz {s with cl:=true} w T b (by omega)
 have e:∃a l,kL (T.length+1) (w::T)=a::l:=⟨_,_,rfl⟩;obtain⟨a,l,e⟩:=e;rw[e]at hL⊢;have hd:=Kr sz 0 true {s with cl:=true} (qO []) (bF b) a l;refine eqv λX hX=>?_
 rw[au NH rfl];cases b with
 |none =>
  simp[hQ,hZ,bC,cK,qO,hG,bF,bG,wG,cI,W.row,Wk.row]at hL hd;simp[hF,eK,cI,bC,qO,W.row,Wk.row]at hX;simp[Bl,hQ,bC,cK,Cl.row,W.row,hL,hd,aJ,aD,sub,aE,back,az,av,ak,cut,bA,aq,V.aY,bt,aX,bg,aO,aP];exact hX
 |some B =>
  simp[hQ,hZ,bC,cK,qO,hG,bF,bG,wG,cI,W.row,Wk.row]at hL hd;simp[hF,eK,cI,bC,qO,W.row,Wk.row]at hX;simp[Bl,hQ,bC,cK,Cl.row,W.row,hL,hd,aJ,aD,sub,aE,back,az,av,ak,cut,bA,aq,V.aY,bt,aX,bg,aO,aP];exact hX
theorem asC(sz:Int)(s:S)(c:Cl)(b:Option (List Int)):
  ev P (.call Bb [.loc 0 0 0,.d (.ag c.row)] (hQ sz s [] b))=some (.val (cI {s with cl:=true} (.aR 1 0 0) (bC 2 b) false 0 true (.d (.sl 5 true []))) (hQ sz {s with cl:=true} [] b)):=by
 have hL:∀H:List O,H=hQ sz {s with cl:=true} [] b++[.aI 13 true [ny]]->ev P (.loop (2+(cK b).length) [0,4] rW (Eg b) H)=some (.out (.exit 0) (Eg b) H):=by
  intro H hH;subst hH;rw[bY]
  conv=>lhs;arg 4;unfold rW
  cases b<;>simp[hQ,bC,cK,aJ,aD,sub,aE,back,az,av,ak,cut,bA,aq,V.aY,bt,aX,bg,aO,aP]
 have hL:=hL _ rfl;refine eqv λX hX=>?_
 rw[au NH rfl];cases b with
 |none =>
  have hd:=asi sz 0 true {s with cl:=true} [] (.sl 1 true []);simp[hQ,bC,cK,cI,Eg]at hL hd hX;simp[Bl,hQ,bC,cK,Cl.row,hL,hd,aJ,aD,sub,aE,back,az,av,ak,cut,bA,aq,V.aY,bt,aX,bg,aO,aP];exact hX
 |some B =>
  have hd:=G2 sz 0 true {s with cl:=true} [] 0 B.length (bW B);simp[hQ,bC,cK,cI,Eg]at hL hd hX;simp[Bl,hQ,bC,cK,Cl.row,hL,hd,aJ,aD,sub,aE,back,az,av,ak,cut,bA,aq,V.aY,bt,aX,bg,aO,aP];exact hX
theorem asD(sz:Int)(s:S)(c:Cl)(Q:List W)(b:Option (List Int))(w:W)(hn:Q.length<=500)(hf:fW 65 Q=some w):
  ev P (.call Ba [.loc 0 0 0,.d (.ag c.row)] (hQ sz s Q b))=some (.val (eK s (qO (Q.filter λx=>x.task != w.task)) b false 0 true 1) (hF sz s (qO (Q.filter λx=>x.task != w.task)) Q b [⟨w.task,w.op,c.value,true,w.case⟩])):=by
 have hS:=asf sz s c Q b w hn hf;obtain⟨b1,r1,e1⟩:∃b r,qO (Q.filter λx=>x.task != w.task) = .sl 5 b r:=⟨_,_,rfl⟩
 rw[e1]at hS⊢;refine eqv λX hX=>?_
 rw[au IJ rfl];simp only[Cl.row]at *;cases b;all_goals
  simp[hQ,hF,eK,cI,pB,pV,kH,kV,bC,cK,bW,Wk.row]at hS hX;simp[zI,hQ,hF,eK,cI,pB,pV,kH,kV,bC,cK,bW,Wk.row,hS,aJ,aD,sub,aE,back,az,av,ak,cut,bA,aq,V.aY,bt,aX,bg,aO,aP,aZ,cG,cy];exact hX
theorem asE(sz:Int)(s:S)(c:Cl)(Q:List W)(b:Option (List Int))(hn:Q.length<=500)(hb:∀B,b=some B->B.length<=500)(hf:fW 65 Q=none)(hl:((b.getD []).length:Int)<sz):
  ev P (.call Ba [.loc 0 0 0,.d (.ag c.row)] (hQ sz s Q b))=some (.val (cI s (.aR 1 0 Q.length) (pV b) false 0 true (.d (.sl 5 true []))) (pB c.value Q sz s b)):=by
 have hS:=asj sz s c Q b hn hb hf hl;refine eqv λX hX=>?_
 rw[au IJ rfl];simp only[Cl.row]at *;cases b;all_goals
  simp[hQ,hF,eK,cI,pB,pV,kH,kV,bC,cK,bW,Wk.row]at hS hX;simp[zI,hQ,hF,eK,cI,pB,pV,kH,kV,bC,cK,bW,Wk.row,hS,aJ,aD,sub,aE,back,az,av,ak,cut,bA,aq,V.aY,bt,aX,bg,aO,aP,aZ,cG,cy];exact hX
theorem asF(sz:Int)(s:S)(c:Cl)(Q:List W)(b:Option (List Int))(hn:Q.length<=500)(hf:fW 65 Q=none)(hl:¬((b.getD []).length:Int)<sz):
  ev P (.call Ba [.loc 0 0 0,.d (.ag c.row)] (hQ sz s Q b))=some (.val (cI s (kV Q.length b) (bC 2 b) true 0 false (.d (.sl 5 true []))) (kH sz s c Q b)):=by
 have hS:=asn sz s c Q b hn hf hl;refine eqv λX hX=>?_
 rw[au IJ rfl];unfold kH at hS hX;generalize (kW c).row=kr at *;simp only[Cl.row]at *;cases b;all_goals
  simp[hQ,hF,eK,cI,pB,pV,kH,kV,bC,cK,bW,Wk.row]at hS hX;simp[zI,hQ,hF,eK,cI,pB,pV,kH,kV,bC,cK,bW,Wk.row,hS,aJ,aD,sub,aE,back,az,av,ak,cut,bA,aq,V.aY,bt,aX,bg,aO,aP,aZ,cG,cy];exact hX
theorem asG(sz:Int)(s:S)(c:Cl)(Q:List W)(x y:Int)(B:List Int)(hn:Q.length<=500)(hm:B.length<=500)(hf:fW 64 Q=none):
  ev P (.call sP [.loc 0 0 0,.d (.ag c.row)] (hQ sz s Q (some (x::y::B))))=some (.val (cI s (.aR 1 0 Q.length) (.aR 2 1 (B.length+1)) false x true (.d (.sl 5 true []))) ([lS sz s (.aR 1 0 Q.length) (.aR 2 1 (B.length+1)) (.d (.sl 5 true [])),.aI 5 true (Q.map W.row),.aI 1 true (bW (x::y::B))])):=by
 have hS:=aso sz s c Q x y B hn hm hf;refine eqv λX hX=>?_
 rw[au wh rfl];simp only[Cl.row]at *
 skip
 all_goals
  simp[hQ,hF,eK,cI,pB,pV,kH,kV,bC,cK,bW,Wk.row]at hS hX;simp[rV,hQ,hF,eK,cI,pB,pV,kH,kV,bC,cK,bW,Wk.row,hS,aJ,aD,sub,aE,back,az,av,ak,cut,bA,aq,V.aY,bt,aX,bg,aO,aP,aZ,cG,cy];exact hX
theorem asH(sz:Int)(s:S)(c:Cl)(Q:List W)(x:Int)(hn:Q.length<=500)(hf:fW 64 Q=none):
  ev P (.call sP [.loc 0 0 0,.d (.ag c.row)] (hQ sz s Q (some [x])))=some (.val (cI s (.aR 1 0 Q.length) (.aR 3 0 0) false x true (.d (.sl 5 true []))) ([lS sz s (.aR 1 0 Q.length) (.aR 3 0 0) (.d (.sl 5 true [])),.aI 5 true (Q.map W.row),.dead,.aI 1 true []])):=by
 have hS:=asp sz s c Q x hn hf;refine eqv λX hX=>?_
 rw[au wh rfl];simp only[Cl.row]at *
 skip
 all_goals
  simp[hQ,hF,eK,cI,pB,pV,kH,kV,bC,cK,bW,Wk.row]at hS hX;simp[rV,hQ,hF,eK,cI,pB,pV,kH,kV,bC,cK,bW,Wk.row,hS,aJ,aD,sub,aE,back,az,av,ak,cut,bA,aq,V.aY,bt,aX,bg,aO,aP,aZ,cG,cy];exact hX
theorem asI(sz:Int)(s:S)(c:Cl)(Q:List W)(x y:Int)(B:List Int)(w:W)(hn:Q.length<=500)(hm:B.length<=400)(hf:fW 64 Q=some w):
  ev P (.call sP [.loc 0 0 0,.d (.ag c.row)] (hQ sz s Q (some (x::y::B))))=some (.val (cI s (.d (qO (Q.filter λx=>x.task != w.task))) (.aR 3 0 (B.length+2)) false x true (.aR 4 0 1)) ([lS sz s (.d (qO (Q.filter λx=>x.task != w.task))) (.aR 3 0 (B.length+2)) (.aR 4 0 1),.aI 5 false (Q.map W.row),.dead,.aI 1 true (bW (y::B++[w.value])),.aI 5 true [Wk.row ⟨w.task,w.op,0,true,w.case⟩]])):=by
 have hS:=asr sz s c Q x y B w hn hm hf;obtain⟨b1,r1,e1⟩:∃b r,qO (Q.filter λx=>x.task != w.task) = .sl 5 b r:=⟨_,_,rfl⟩
 rw[e1]at hS⊢;refine eqv λX hX=>?_
 rw[au wh rfl];simp only[Cl.row]at *
 skip
 all_goals
  simp[hQ,hF,eK,cI,pB,pV,kH,kV,bC,cK,bW,Wk.row]at hS hX;simp[rV,hQ,hF,eK,cI,pB,pV,kH,kV,bC,cK,bW,Wk.row,hS,aJ,aD,sub,aE,back,az,av,ak,cut,bA,aq,V.aY,bt,aX,bg,aO,aP,aZ,cG,cy];exact hX
theorem asJ(sz:Int)(s:S)(c:Cl)(Q:List W)(x:Int)(w:W)(hn:Q.length<=500)(hf:fW 64 Q=some w):
  ev P (.call sP [.loc 0 0 0,.d (.ag c.row)] (hQ sz s Q (some [x])))=some (.val (cI s (.d (qO (Q.filter λx=>x.task != w.task))) (.aR 3 0 1) false x true (.aR 4 0 1)) ([lS sz s (.d (qO (Q.filter λx=>x.task != w.task))) (.aR 3 0 1) (.aR 4 0 1),.aI 5 false (Q.map W.row),.dead,.aI 1 true [[I' w.value]],.aI 5 true [Wk.row ⟨w.task,w.op,0,true,w.case⟩]])):=by
 have hS:=ast sz s c Q x w hn hf;obtain⟨b1,r1,e1⟩:∃b r,qO (Q.filter λx=>x.task != w.task) = .sl 5 b r:=⟨_,_,rfl⟩
 rw[e1]at hS⊢;refine eqv λX hX=>?_
 rw[au wh rfl];simp only[Cl.row]at *
 skip
 all_goals
  simp[hQ,hF,eK,cI,pB,pV,kH,kV,bC,cK,bW,Wk.row]at hS hX;simp[rV,hQ,hF,eK,cI,pB,pV,kH,kV,bC,cK,bW,Wk.row,hS,aJ,aD,sub,aE,back,az,av,ak,cut,bA,aq,V.aY,bt,aX,bg,aO,aP,aZ,cG,cy];exact hX
theorem asK(sz:Int)(s:S)(c:Cl)(Q:List W)(b:Option (List Int))(w:W)(hn:Q.length<=500)(hb:b.getD []=[])(hf:fW 64 Q=some w):
  ev P (.call sP [.loc 0 0 0,.d (.ag c.row)] (hQ sz s Q b))=some (.val (eK s (qO (Q.filter λx=>x.task != w.task)) b false w.value true 1) (hF sz s (qO (Q.filter λx=>x.task != w.task)) Q b [⟨w.task,w.op,0,true,w.case⟩])):=by
 have hS:=asu sz s c Q b w hn hb hf;obtain⟨b1,r1,e1⟩:∃b r,qO (Q.filter λx=>x.task != w.task) = .sl 5 b r:=⟨_,_,rfl⟩
 rw[e1]at hS⊢;refine eqv λX hX=>?_
 rw[au wh rfl];simp only[Cl.row]at *;cases b;all_goals
  simp[hQ,hF,eK,cI,pB,pV,kH,kV,bC,cK,bW,Wk.row]at hS hX;simp[rV,hQ,hF,eK,cI,pB,pV,kH,kV,bC,cK,bW,Wk.row,hS,aJ,aD,sub,aE,back,az,av,ak,cut,bA,aq,V.aY,bt,aX,bg,aO,aP,aZ,cG,cy];exact hX
theorem asL(sz:Int)(s:S)(c:Cl)(Q:List W)(b:Option (List Int))(hn:Q.length<=500)(hb:b.getD []=[])(hf:fW 64 Q=none)(bR:s.cl=true):
  ev P (.call sP [.loc 0 0 0,.d (.ag c.row)] (hQ sz s Q b))=some (.val (cI s (.aR 1 0 Q.length) (bC 2 b) false 0 false (.d (.sl 5 true []))) (hQ sz s Q b)):=by
 have hS:=asv sz s c Q b hn hb hf bR;refine eqv λX hX=>?_
 rw[au wh rfl];simp only[Cl.row]at *;cases b;all_goals
  simp[hQ,hF,eK,cI,pB,pV,kH,kV,bC,cK,bW,Wk.row]at hS hX;simp[rV,hQ,hF,eK,cI,pB,pV,kH,kV,bC,cK,bW,Wk.row,hS,aJ,aD,sub,aE,back,az,av,ak,cut,bA,aq,V.aY,bt,aX,bg,aO,aP,aZ,cG,cy];exact hX
theorem asM(sz:Int)(s:S)(c:Cl)(Q:List W)(b:Option (List Int))(hn:Q.length<=500)(hb:b.getD []=[])(hf:fW 64 Q=none)(bR:s.cl=false):
  ev P (.call sP [.loc 0 0 0,.d (.ag c.row)] (hQ sz s Q b))=some (.val (cI s (kV Q.length b) (bC 2 b) true 0 false (.d (.sl 5 true []))) (kH sz s c Q b)):=by
 have hS:=asw sz s c Q b hn hb hf bR;refine eqv λX hX=>?_
 rw[au wh rfl];unfold kH at hS hX;generalize (kW c).row=kr at *;simp only[Cl.row]at *;cases b;all_goals
  simp[hQ,hF,eK,cI,pB,pV,kH,kV,bC,cK,bW,Wk.row]at hS hX;simp[rV,hQ,hF,eK,cI,pB,pV,kH,kV,bC,cK,bW,Wk.row,hS,aJ,aD,sub,aE,back,az,av,ak,cut,bA,aq,V.aY,bt,aX,bg,aO,aP,aZ,cG,cy];exact hX
theorem asN(sz:Int)(s:S)(c:Cl)(w:W)(T:List W)(b:Option (List Int))(hn:(w::T).length<=300):
  ev P (.call CP [.loc 0 0 0,.d (.ag c.row)] (hQ sz s (w::T) b))=some (.val (eK {s with cl:=true} (qO []) b false 0 true (kL (T.length+1) (w::T)).length) (hF sz {s with cl:=true} (qO []) (w::T) b (kL (T.length+1) (w::T)))):=by
 have hS:=asB sz s c w T b hn;have hne:∃a l,kL (T.length+1) (w::T)=a::l:=⟨_,_,rfl⟩;obtain⟨a,l,hne⟩:=hne;rw[hne]at hS⊢;refine eqv λX hX=>?_
 rw[au NG rfl];simp only[Cl.row]at *;cases b;all_goals
  simp[hQ,hF,qO,W.row,eK,cI,pB,pV,kH,kV,bC,cK,bW,Wk.row]at hS hX;simp[Fj,hQ,hF,qO,W.row,eK,cI,pB,pV,kH,kV,bC,cK,bW,Wk.row,hS,aJ,aD,sub,aE,back,az,av,ak,cut,bA,aq,V.aY,bt,aX,bg,aO,aP,aZ,cG,cy];exact hX
theorem asO(sz:Int)(s:S)(c:Cl)(b:Option (List Int)):
  ev P (.call CP [.loc 0 0 0,.d (.ag c.row)] (hQ sz s [] b))=some (.val (cI {s with cl:=true} (.aR 1 0 0) (bC 2 b) false 0 true (.d (.sl 5 true []))) (hQ sz {s with cl:=true} [] b)):=by
 have hS:=asC sz s c b;refine eqv λX hX=>?_
 rw[au NG rfl];simp only[Cl.row]at *;cases b;all_goals
  simp[hQ,hF,eK,cI,pB,pV,kH,kV,bC,cK,bW,Wk.row,lS]at hS hX;simp[Fj,hQ,hF,eK,cI,pB,pV,kH,kV,bC,cK,bW,Wk.row,hS,aJ,aD,sub,aE,back,az,av,ak,cut,bA,aq,V.aY,bt,aX,bg,aO,aP,aZ,cG,cy];exact hX
theorem Ks{s:S}(hw:s.wf):(jA s).getD []=s.B:=by
 unfold jA;cases h:s.bn
 .rfl
 .rw[aN rfl,hw.b h];rfl
theorem asP{s:S}(hm:s.B.length<=250):∀B,jA s=some B->B.length<=500:=by
 intro B h;unfold jA at h;split at h
 .cases h
 .simp at h;rw[<-h];omega
set_option maxHeartbeats 4000000 in
theorem asQ(nm:D)(k sz ot:Int)(s:S)(c:Cl)(hw:s.wf)(hq:s.qn=false)(hn:s.Q.length<=250)(hm:s.B.length<=250)(bQ:ev P (.call gn [.d (.ag [nm,I' k,I' sz,I' ot]),.d (.ag s.row)] [])=some (.val (.d (I' 0)) []))(hb:cM c=false)(ht:fK s c.task=false)(ho:c.op=64)(mU:num c.value=true)(bR:s.cl=false)(w:W)(hf:fW 65 s.Q=some w):
  ev P (.call iR [.d (.ag [nm,I' k,I' sz,I' ot]),.d (.ag s.row),.d (.ag c.row)] [])=some (.val (.tu [.d (.ag (Ry.row ⟨{s with qn:=decide ((s.Q.filter λx=>x.task != w.task)=[]),Q:=(s.Q.filter λx=>x.task != w.task)},false,0,true,false,[⟨w.task,w.op,c.value,true,w.case⟩]⟩)),.d (I' 0)]) []):=by
 obtain⟨fi,dr⟩:=mR s c.task (by omega)
 rw[ht]at dr;have hop:=lz;have hcb:=lD c;rw[hb]at hcb;have cR:=vK nm k sz ot s hw hq (by omega) (by omega)
 have o:=asD sz s c s.Q (jA s) w (by omega) hf
 obtain⟨b1,r1,e1⟩:∃b r,qO (s.Q.filter λx=>x.task != w.task) = .sl 5 b r:=⟨_,_,rfl⟩
 have e2:qD (decide ((s.Q.filter λx=>x.task != w.task)=[])) (s.Q.filter λx=>x.task != w.task) = .sl 5 b1 r1:=e1
 rw[e1]at o;simp only[Ry.row,e2];rw[au kA rfl];simp only[S.row,Cl.row,Ry.row,hq,bR,ho]at bQ dr hcb cR o⊢;unfold jA at cR o;cases cJ:s.bn;all_goals
  rw[cJ]at cR o;simp only[cJ]at bQ⊢;simp[hQ,hF,eK,cI,pB,pV,kH,kV,bC,cK,bW,Wk.row,W.row,lS,bR,ho]at cR o;simp[jw, j5,j6,lC,hQ,hF,eK,cI,pB,pV,kH,kV,bC,cK,bW,Wk.row,W.row,lS,bR,mU,bQ,dr,hop,hcb,cR,o,aJ,aD,sub,aE,back,az,av,ak,cut,bA,aq,V.aY,bt,aX,bg,aO,aP,aZ,cG,cy,pS];try exact hw.b cJ
set_option maxHeartbeats 4000000 in
theorem asR(nm:D)(k sz ot:Int)(s:S)(c:Cl)(hw:s.wf)(hq:s.qn=false)(hn:s.Q.length<=250)(hm:s.B.length<=250)(bQ:ev P (.call gn [.d (.ag [nm,I' k,I' sz,I' ot]),.d (.ag s.row)] [])=some (.val (.d (I' 0)) []))(hb:cM c=false)(ht:fK s c.task=false)(ho:c.op=64)(mU:num c.value=true)(bR:s.cl=false)(hf:fW 65 s.Q=none)(hl:(s.B.length:Int)<sz):
  ev P (.call iR [.d (.ag [nm,I' k,I' sz,I' ot]),.d (.ag s.row),.d (.ag c.row)] [])=some (.val (.tu [.d (.ag (Ry.row ⟨{s with bn:=false,B:=s.B++[c.value]},false,0,true,true,[]⟩)),.d (I' 0)]) []):=by
 obtain⟨fi,dr⟩:=mR s c.task (by omega)
 rw[ht]at dr;have hop:=lz;have hcb:=lD c;rw[hb]at hcb;have cR:=vK nm k sz ot s hw hq (by omega) (by omega)
 have o:=asE sz s c s.Q (jA s) (by omega) (asP hm) hf (by rw[Ks hw];exact hl)
 rw[au kA rfl];simp only[S.row,Cl.row,Ry.row,hq,bR,ho]at bQ dr hcb cR o⊢;unfold jA at cR o;cases cJ:s.bn;all_goals
  rw[cJ]at cR o;simp only[cJ]at bQ⊢;simp[hQ,hF,eK,cI,pB,pV,kH,kV,bC,cK,bW,Wk.row,W.row,lS,bR,ho]at cR o;simp[jw, j5,j6,lC,hQ,hF,eK,cI,pB,pV,kH,kV,bC,cK,bW,Wk.row,W.row,lS,bR,mU,bQ,dr,hop,hcb,cR,o,aJ,aD,sub,aE,back,az,av,ak,cut,bA,aq,V.aY,bt,aX,bg,aO,aP,aZ,cG,cy,pS];try exact hw.b cJ
set_option maxHeartbeats 4000000 in
theorem asS(nm:D)(k sz ot:Int)(s:S)(c:Cl)(hw:s.wf)(hq:s.qn=false)(hn:s.Q.length<=250)(hm:s.B.length<=250)(bQ:ev P (.call gn [.d (.ag [nm,I' k,I' sz,I' ot]),.d (.ag s.row)] [])=some (.val (.d (I' 0)) []))(hb:cM c=false)(ht:fK s c.task=false)(ho:c.op=64)(mU:num c.value=true)(bR:s.cl=false)(hf:fW 65 s.Q=none)(hl:¬(s.B.length:Int)<sz):
  ev P (.call iR [.d (.ag [nm,I' k,I' sz,I' ot]),.d (.ag s.row),.d (.ag c.row)] [])=some (.val (.tu [.d (.ag (Ry.row ⟨{s with qn:=false,Q:=s.Q++[kW c]},true,0,false,true,[]⟩)),.d (I' 0)]) []):=by
 obtain⟨fi,dr⟩:=mR s c.task (by omega)
 rw[ht]at dr;have hop:=lz;have hcb:=lD c;rw[hb]at hcb;have cR:=vK nm k sz ot s hw hq (by omega) (by omega)
 have o:=asF sz s c s.Q (jA s) (by omega) hf (by rw[Ks hw];exact hl)
 rw[au kA rfl];unfold kH at o;have hk:(kW c).row=[I' c.task,I' c.op,I' (if c.op=64 then c.value else 0),I' c.prio,I' (-1)]:=rfl
 rw[hk]at o;simp only[S.row,Cl.row,Ry.row,hq,bR,ho]at bQ dr hcb cR o⊢;unfold jA at cR o;cases cJ:s.bn;all_goals
  rw[cJ]at cR o;simp only[cJ]at bQ⊢;simp[hQ,hF,eK,cI,pB,pV,kH,kV,bC,cK,bW,Wk.row,W.row,lS,kW,bR,ho]at cR o;simp[jw, j5,j6,lC,hQ,hF,eK,cI,pB,pV,kH,kV,bC,cK,bW,Wk.row,W.row,lS,kW,bR,mU,bQ,dr,hop,hcb,cR,o,aJ,aD,sub,aE,back,az,av,ak,cut,bA,aq,V.aY,bt,aX,bg,aO,aP,aZ,cG,cy,pS];try exact hw.b cJ
  try simp[ho]
  try exact hw.b cJ
set_option maxHeartbeats 4000000 in
theorem asT(nm:D)(k sz ot:Int)(s:S)(c:Cl)(hw:s.wf)(hq:s.qn=false)(hn:s.Q.length<=250)(hm:s.B.length<=250)(bQ:ev P (.call gn [.d (.ag [nm,I' k,I' sz,I' ot]),.d (.ag s.row)] [])=some (.val (.d (I' 0)) []))(hb:cM c=false)(ht:fK s c.task=false)(ho:c.op=65)(x y:Int)(B:List Int)(hB:s.B=x::y::B)(hf:fW 64 s.Q=none):
  ev P (.call iR [.d (.ag [nm,I' k,I' sz,I' ot]),.d (.ag s.row),.d (.ag c.row)] [])=some (.val (.tu [.d (.ag (Ry.row ⟨{s with B:=y::B},false,x,true,true,[]⟩)),.d (I' 0)]) []):=by
 obtain⟨fi,dr⟩:=mR s c.task (by omega)
 rw[ht]at dr;have hop:=lz;have hcb:=lD c;rw[hb]at hcb;have cR:=vK nm k sz ot s hw hq (by omega) (by omega)
 have o:=asG sz s c s.Q x y B (by omega) (by rw[hB]at hm;simp at hm;omega) hf
 have cJ:s.bn=false:=by
  cases h:s.bn
  .rfl
  .have:=hw.b h;rw[hB]at this;simp at this
 have Ax:jA s=some s.B:=by unfold jA;rw[cJ,aG (by simp)]
 rw[Ax]at cR;rw[au kA rfl];simp only[S.row,Cl.row,Ry.row,hq,hB,cJ,ho]at bQ dr hcb cR o⊢;simp[hQ,hF,eK,cI,pB,pV,kH,kV,bC,cK,bW,Wk.row,W.row,lS,hB,ho]at cR o;have h9:1+(B.length+1)<=B.length+1+1:=by omega
 simp[jw,h9, j5,j6,lC,hQ,hF,eK,cI,pB,pV,kH,kV,bC,cK,bW,Wk.row,W.row,lS,hB,bQ,dr,hop,hcb,cR,o,aJ,aD,sub,aE,back,az,av,ak,cut,bA,aq,V.aY,bt,aX,bg,aO,aP,aZ,cG,cy,pS]
set_option maxHeartbeats 4000000 in
theorem asU(nm:D)(k sz ot:Int)(s:S)(c:Cl)(hw:s.wf)(hq:s.qn=false)(hn:s.Q.length<=250)(hm:s.B.length<=250)(bQ:ev P (.call gn [.d (.ag [nm,I' k,I' sz,I' ot]),.d (.ag s.row)] [])=some (.val (.d (I' 0)) []))(hb:cM c=false)(ht:fK s c.task=false)(ho:c.op=65)(x:Int)(hB:s.B=[x])(hf:fW 64 s.Q=none):
  ev P (.call iR [.d (.ag [nm,I' k,I' sz,I' ot]),.d (.ag s.row),.d (.ag c.row)] [])=some (.val (.tu [.d (.ag (Ry.row ⟨{s with B:=[]},false,x,true,true,[]⟩)),.d (I' 0)]) []):=by
 obtain⟨fi,dr⟩:=mR s c.task (by omega)
 rw[ht]at dr;have hop:=lz;have hcb:=lD c;rw[hb]at hcb;have cR:=vK nm k sz ot s hw hq (by omega) (by omega)
 have o:=asH sz s c s.Q x (by omega) hf
 have cJ:s.bn=false:=by
  cases h:s.bn
  .rfl
  .have:=hw.b h;rw[hB]at this;simp at this
 have Ax:jA s=some s.B:=by unfold jA;rw[cJ,aG (by simp)]
 rw[Ax]at cR;rw[au kA rfl];simp only[S.row,Cl.row,Ry.row,hq,hB,cJ,ho]at bQ dr hcb cR o⊢;simp[hQ,hF,eK,cI,pB,pV,kH,kV,bC,cK,bW,Wk.row,W.row,lS,hB,ho]at cR o;simp[jw, j5,j6,lC,hQ,hF,eK,cI,pB,pV,kH,kV,bC,cK,bW,Wk.row,W.row,lS,hB,bQ,dr,hop,hcb,cR,o,aJ,aD,sub,aE,back,az,av,ak,cut,bA,aq,V.aY,bt,aX,bg,aO,aP,aZ,cG,cy,pS]
set_option maxHeartbeats 4000000 in
theorem asV(nm:D)(k sz ot:Int)(s:S)(c:Cl)(hw:s.wf)(hq:s.qn=false)(hn:s.Q.length<=250)(hm:s.B.length<=250)(bQ:ev P (.call gn [.d (.ag [nm,I' k,I' sz,I' ot]),.d (.ag s.row)] [])=some (.val (.d (I' 0)) []))(hb:cM c=false)(ht:fK s c.task=false)(ho:c.op=65)(x y:Int)(B:List Int)(w:W)(hB:s.B=x::y::B)(hf:fW 64 s.Q=some w):
  ev P (.call iR [.d (.ag [nm,I' k,I' sz,I' ot]),.d (.ag s.row),.d (.ag c.row)] [])=some (.val (.tu [.d (.ag (Ry.row ⟨{s with B:=y::B++[w.value],qn:=decide ((s.Q.filter λx=>x.task != w.task)=[]),Q:=(s.Q.filter λx=>x.task != w.task)},false,x,true,false,[⟨w.task,w.op,0,true,w.case⟩]⟩)),.d (I' 0)]) []):=by
 obtain⟨fi,dr⟩:=mR s c.task (by omega)
 rw[ht]at dr;have hop:=lz;have hcb:=lD c;rw[hb]at hcb;have cR:=vK nm k sz ot s hw hq (by omega) (by omega)
 have o:=asI sz s c s.Q x y B w (by omega) (by rw[hB]at hm;simp at hm;omega) hf
 have cJ:s.bn=false:=by
  cases h:s.bn
  .rfl
  .have:=hw.b h;rw[hB]at this;simp at this
 have Ax:jA s=some s.B:=by unfold jA;rw[cJ,aG (by simp)]
 rw[Ax]at cR;obtain⟨b1,r1,e1⟩:∃b r,qO (s.Q.filter λx=>x.task != w.task) = .sl 5 b r:=⟨_,_,rfl⟩
 have e2:qD (decide ((s.Q.filter λx=>x.task != w.task)=[])) (s.Q.filter λx=>x.task != w.task) = .sl 5 b1 r1:=e1
 rw[e1]at o;simp only[Ry.row,e2];rw[au kA rfl];simp only[S.row,Cl.row,Ry.row,hq,hB,cJ,ho]at bQ dr hcb cR o⊢;simp[hQ,hF,eK,cI,pB,pV,kH,kV,bC,cK,bW,Wk.row,W.row,lS,hB,ho]at cR o;simp[jw, j5,j6,lC,hQ,hF,eK,cI,pB,pV,kH,kV,bC,cK,bW,Wk.row,W.row,lS,hB,bQ,dr,hop,hcb,cR,o,aJ,aD,sub,aE,back,az,av,ak,cut,bA,aq,V.aY,bt,aX,bg,aO,aP,aZ,cG,cy,pS]
set_option maxHeartbeats 4000000 in
theorem asW(nm:D)(k sz ot:Int)(s:S)(c:Cl)(hw:s.wf)(hq:s.qn=false)(hn:s.Q.length<=250)(hm:s.B.length<=250)(bQ:ev P (.call gn [.d (.ag [nm,I' k,I' sz,I' ot]),.d (.ag s.row)] [])=some (.val (.d (I' 0)) []))(hb:cM c=false)(ht:fK s c.task=false)(ho:c.op=65)(x:Int)(w:W)(hB:s.B=[x])(hf:fW 64 s.Q=some w):
  ev P (.call iR [.d (.ag [nm,I' k,I' sz,I' ot]),.d (.ag s.row),.d (.ag c.row)] [])=some (.val (.tu [.d (.ag (Ry.row ⟨{s with B:=[w.value],qn:=decide ((s.Q.filter λx=>x.task != w.task)=[]),Q:=(s.Q.filter λx=>x.task != w.task)},false,x,true,false,[⟨w.task,w.op,0,true,w.case⟩]⟩)),.d (I' 0)]) []):=by
 obtain⟨fi,dr⟩:=mR s c.task (by omega)
 rw[ht]at dr;have hop:=lz;have hcb:=lD c;rw[hb]at hcb;have cR:=vK nm k sz ot s hw hq (by omega) (by omega)
 have o:=asJ sz s c s.Q x w (by omega) hf
 have cJ:s.bn=false:=by
  cases h:s.bn
  .rfl
  .have:=hw.b h;rw[hB]at this;simp at this
 have Ax:jA s=some s.B:=by unfold jA;rw[cJ,aG (by simp)]
 rw[Ax]at cR;obtain⟨b1,r1,e1⟩:∃b r,qO (s.Q.filter λx=>x.task != w.task) = .sl 5 b r:=⟨_,_,rfl⟩
 have e2:qD (decide ((s.Q.filter λx=>x.task != w.task)=[])) (s.Q.filter λx=>x.task != w.task) = .sl 5 b1 r1:=e1
 rw[e1]at o;simp only[Ry.row,e2];rw[au kA rfl];simp only[S.row,Cl.row,Ry.row,hq,hB,cJ,ho]at bQ dr hcb cR o⊢;simp[hQ,hF,eK,cI,pB,pV,kH,kV,bC,cK,bW,Wk.row,W.row,lS,hB,ho]at cR o;simp[jw, j5,j6,lC,hQ,hF,eK,cI,pB,pV,kH,kV,bC,cK,bW,Wk.row,W.row,lS,hB,bQ,dr,hop,hcb,cR,o,aJ,aD,sub,aE,back,az,av,ak,cut,bA,aq,V.aY,bt,aX,bg,aO,aP,aZ,cG,cy,pS]
set_option maxHeartbeats 4000000 in
theorem asX(nm:D)(k sz ot:Int)(s:S)(c:Cl)(hw:s.wf)(hq:s.qn=false)(hn:s.Q.length<=250)(hm:s.B.length<=250)(bQ:ev P (.call gn [.d (.ag [nm,I' k,I' sz,I' ot]),.d (.ag s.row)] [])=some (.val (.d (I' 0)) []))(hb:cM c=false)(ht:fK s c.task=false)(ho:c.op=65)(w:W)(hB:s.B=[])(hf:fW 64 s.Q=some w):
  ev P (.call iR [.d (.ag [nm,I' k,I' sz,I' ot]),.d (.ag s.row),.d (.ag c.row)] [])=some (.val (.tu [.d (.ag (Ry.row ⟨{s with qn:=decide ((s.Q.filter λx=>x.task != w.task)=[]),Q:=(s.Q.filter λx=>x.task != w.task)},false,w.value,true,false,[⟨w.task,w.op,0,true,w.case⟩]⟩)),.d (I' 0)]) []):=by
 obtain⟨fi,dr⟩:=mR s c.task (by omega)
 rw[ht]at dr;have hop:=lz;have hcb:=lD c;rw[hb]at hcb;have cR:=vK nm k sz ot s hw hq (by omega) (by omega)
 have o:=asK sz s c s.Q (jA s) w (by omega) (by rw[Ks hw];exact hB) hf
 obtain⟨b1,r1,e1⟩:∃b r,qO (s.Q.filter λx=>x.task != w.task) = .sl 5 b r:=⟨_,_,rfl⟩
 have e2:qD (decide ((s.Q.filter λx=>x.task != w.task)=[])) (s.Q.filter λx=>x.task != w.task) = .sl 5 b1 r1:=e1
 rw[e1]at o;simp only[Ry.row,e2];rw[au kA rfl];simp only[S.row,Cl.row,Ry.row,hq,hB,ho]at bQ dr hcb cR o⊢;unfold jA at cR o;cases cJ:s.bn;all_goals
  rw[cJ]at cR o;simp only[cJ]at bQ⊢;simp[hQ,hF,eK,cI,pB,pV,kH,kV,bC,cK,bW,Wk.row,W.row,lS,hB,ho]at cR o;simp[jw, j5,j6,lC,hQ,hF,eK,cI,pB,pV,kH,kV,bC,cK,bW,Wk.row,W.row,lS,hB,bQ,dr,hop,hcb,cR,o,aJ,aD,sub,aE,back,az,av,ak,cut,bA,aq,V.aY,bt,aX,bg,aO,aP,aZ,cG,cy,pS];try exact hw.b cJ
set_option maxHeartbeats 4000000 in
theorem asY(nm:D)(k sz ot:Int)(s:S)(c:Cl)(hw:s.wf)(hq:s.qn=false)(hn:s.Q.length<=250)(hm:s.B.length<=250)(bQ:ev P (.call gn [.d (.ag [nm,I' k,I' sz,I' ot]),.d (.ag s.row)] [])=some (.val (.d (I' 0)) []))(hb:cM c=false)(ht:fK s c.task=false)(ho:c.op=65)(hB:s.B=[])(hf:fW 64 s.Q=none)(bR:s.cl=true):
  ev P (.call iR [.d (.ag [nm,I' k,I' sz,I' ot]),.d (.ag s.row),.d (.ag c.row)] [])=some (.val (.tu [.d (.ag (Ry.row ⟨s,false,0,false,true,[]⟩)),.d (I' 0)]) []):=by
 obtain⟨fi,dr⟩:=mR s c.task (by omega)
 rw[ht]at dr;have hop:=lz;have hcb:=lD c;rw[hb]at hcb;have cR:=vK nm k sz ot s hw hq (by omega) (by omega)
 have o:=asL sz s c s.Q (jA s) (by omega) (by rw[Ks hw];exact hB) hf bR
 rw[au kA rfl];simp only[S.row,Cl.row,Ry.row,hq,hB,bR,ho]at bQ dr hcb cR o⊢;unfold jA at cR o;cases cJ:s.bn;all_goals
  rw[cJ]at cR o;simp only[cJ]at bQ⊢;simp[hQ,hF,eK,cI,pB,pV,kH,kV,bC,cK,bW,Wk.row,W.row,lS,hB,bR,ho]at cR o;simp[jw, j5,j6,lC,hQ,hF,eK,cI,pB,pV,kH,kV,bC,cK,bW,Wk.row,W.row,lS,hB,bR,bQ,dr,hop,hcb,cR,o,aJ,aD,sub,aE,back,az,av,ak,cut,bA,aq,V.aY,bt,aX,bg,aO,aP,aZ,cG,cy,pS];try exact hw.b cJ
set_option maxHeartbeats 4000000 in
theorem asZ(nm:D)(k sz ot:Int)(s:S)(c:Cl)(hw:s.wf)(hq:s.qn=false)(hn:s.Q.length<=250)(hm:s.B.length<=250)(bQ:ev P (.call gn [.d (.ag [nm,I' k,I' sz,I' ot]),.d (.ag s.row)] [])=some (.val (.d (I' 0)) []))(hb:cM c=false)(ht:fK s c.task=false)(ho:c.op=65)(hB:s.B=[])(hf:fW 64 s.Q=none)(bR:s.cl=false):
  ev P (.call iR [.d (.ag [nm,I' k,I' sz,I' ot]),.d (.ag s.row),.d (.ag c.row)] [])=some (.val (.tu [.d (.ag (Ry.row ⟨{s with qn:=false,Q:=s.Q++[kW c]},true,0,false,true,[]⟩)),.d (I' 0)]) []):=by
 obtain⟨fi,dr⟩:=mR s c.task (by omega)
 rw[ht]at dr;have hop:=lz;have hcb:=lD c;rw[hb]at hcb;have cR:=vK nm k sz ot s hw hq (by omega) (by omega)
 have o:=asM sz s c s.Q (jA s) (by omega) (by rw[Ks hw];exact hB) hf bR
 rw[au kA rfl];unfold kH at o;have hk:(kW c).row=[I' c.task,I' c.op,I' (if c.op=64 then c.value else 0),I' c.prio,I' (-1)]:=rfl
 rw[hk]at o;simp only[S.row,Cl.row,Ry.row,hq,hB,bR,ho]at bQ dr hcb cR o⊢;unfold jA at cR o;cases cJ:s.bn;all_goals
  rw[cJ]at cR o;simp only[cJ]at bQ⊢;simp[hQ,hF,eK,cI,pB,pV,kH,kV,bC,cK,bW,Wk.row,W.row,lS,kW,hB,bR,ho]at cR o;simp[jw, j5,j6,lC,hQ,hF,eK,cI,pB,pV,kH,kV,bC,cK,bW,Wk.row,W.row,lS,kW,hB,bR,bQ,dr,hop,hcb,cR,o,aJ,aD,sub,aE,back,az,av,ak,cut,bA,aq,V.aY,bt,aX,bg,aO,aP,aZ,cG,cy,pS];try exact hw.b cJ
  try simp[ho]
  try exact hw.b cJ
set_option maxHeartbeats 4000000 in
theorem as0(nm:D)(k sz ot:Int)(s:S)(c:Cl)(hw:s.wf)(hq:s.qn=false)(hn:s.Q.length<=250)(hm:s.B.length<=250)(bQ:ev P (.call gn [.d (.ag [nm,I' k,I' sz,I' ot]),.d (.ag s.row)] [])=some (.val (.d (I' 0)) []))(hb:cM c=false)(ht:fK s c.task=false)(ho:c.op=66)(bR:s.cl=false)(w:W)(T:List W)(Cg:s.Q=w::T):
  ev P (.call iR [.d (.ag [nm,I' k,I' sz,I' ot]),.d (.ag s.row),.d (.ag c.row)] [])=some (.val (.tu [.d (.ag (Ry.row ⟨{s with cl:=true,qn:=true,Q:=[]},false,0,true,false,kL (T.length+1) (w::T)⟩)),.d (I' 0)]) []):=by
 obtain⟨fi,dr⟩:=mR s c.task (by omega)
 rw[ht]at dr;have hop:=lz;have hcb:=lD c;rw[hb]at hcb;have cR:=vK nm k sz ot s hw hq (by omega) (by omega)
 have o:=asN sz s c w T (jA s) (by rw[Cg]at hn;simp at hn⊢;omega)
 have hne:∃a l,kL (T.length+1) (w::T)=a::l:=⟨_,_,rfl⟩;obtain⟨a,l,hne⟩:=hne;rw[hne]at o⊢;rw[au kA rfl];simp only[S.row,Cl.row,Ry.row,hq,Cg,bR,ho]at bQ dr hcb cR o⊢;unfold jA at cR o;cases cJ:s.bn;all_goals
  rw[cJ]at cR o;simp only[cJ]at bQ⊢;simp[hQ,hF,eK,cI,pB,pV,kH,kV,bC,cK,bW,Wk.row,W.row,lS,qO,Cg,bR,ho]at cR o;simp[jw, j5,j6,lC,hQ,hF,eK,cI,pB,pV,kH,kV,bC,cK,bW,Wk.row,W.row,lS,qO,Cg,bR,bQ,dr,hop,hcb,cR,o,aJ,aD,sub,aE,back,az,av,ak,cut,bA,aq,V.aY,bt,aX,bg,aO,aP,aZ,cG,cy,pS];try exact hw.b cJ
set_option maxHeartbeats 4000000 in
theorem as1(nm:D)(k sz ot:Int)(s:S)(c:Cl)(hw:s.wf)(hq:s.qn=false)(hn:s.Q.length<=250)(hm:s.B.length<=250)(bQ:ev P (.call gn [.d (.ag [nm,I' k,I' sz,I' ot]),.d (.ag s.row)] [])=some (.val (.d (I' 0)) []))(hb:cM c=false)(ht:fK s c.task=false)(ho:c.op=66)(bR:s.cl=false)(Cg:s.Q=[]):
  ev P (.call iR [.d (.ag [nm,I' k,I' sz,I' ot]),.d (.ag s.row),.d (.ag c.row)] [])=some (.val (.tu [.d (.ag (Ry.row ⟨{s with cl:=true},false,0,true,true,[]⟩)),.d (I' 0)]) []):=by
 obtain⟨fi,dr⟩:=mR s c.task (by omega)
 rw[ht]at dr;have hop:=lz;have hcb:=lD c;rw[hb]at hcb;have cR:=vK nm k sz ot s hw hq (by omega) (by omega)
 have o:=asO sz s c (jA s);rw[au kA rfl];simp only[S.row,Cl.row,Ry.row,hq,Cg,bR,ho]at bQ dr hcb cR o⊢;unfold jA at cR o;cases cJ:s.bn;all_goals
  rw[cJ]at cR o;simp only[cJ]at bQ⊢;simp[hQ,hF,eK,cI,pB,pV,kH,kV,bC,cK,bW,Wk.row,W.row,lS,Cg,bR,ho]at cR o;simp[jw, j5,j6,lC,hQ,hF,eK,cI,pB,pV,kH,kV,bC,cK,bW,Wk.row,W.row,lS,Cg,bR,bQ,dr,hop,hcb,cR,o,aJ,aD,sub,aE,back,az,av,ak,cut,bA,aq,V.aY,bt,aX,bg,aO,aP,aZ,cG,cy,pS];try exact hw.b cJ
set_option maxHeartbeats 4000000 in
theorem as2(nm:D)(k sz ot:Int)(s:S)(c:Cl)(hm:s.B.length<=250)(bQ:ev P (.call gn [.d (.ag [nm,I' k,I' sz,I' ot]),.d (.ag (s.ab true).row)] [])=some (.val (.d (I' 0)) []))(hb:cM c=false)(ho:c.op=64)(mU:num c.value=true)(bR:s.cl=false)(cJ:s.bn=false)(hl:(s.B.length:Int)<sz):
  ev P (.call iR [.d (.ag [nm,I' k,I' sz,I' ot]),.d (.ag (s.ab true).row),.d (.ag c.row)] [])=some (.val (.tu [.d (.ag (Ry.row ⟨{s.ab true with bn:=false,B:=s.B++[c.value]},false,0,true,true,[]⟩)),.d (I' 0)]) []):=by
 have dr:ev P (.call jd [.d (qD true []),.d (I' c.task)] [])=some (.val (.tu [.d (I' 0),.d (.b false)]) []):=jW true [] c.task (by simp)
 have hop:=lz;have hcb:=lD c;rw[hb]at hcb;have cR:=D4 nm k sz ot s cJ (by omega)
 have o:=aoD sz s c s.B.length (bW s.B) (by simp) (by omega)
 rw[Wi sz s c s.B.length (bW s.B) (by simp) (by omega),aN hl]at o
 rw[au kA rfl];simp only[lA,lN,lB,lV,nx,um,S.ab,S.row,Cl.row,Ry.row,qD,gQ,gm,mY,ir,bR,cJ,ho]at bQ dr hcb cR o⊢;simp[jw,j5,j6,lC,bR,mU,bQ,dr,hop,hcb,cR,o,aJ,aD,sub,aE,back,az,av,ak,cut,bA,aq,V.aY,bt,aX,bg,aO,aP,aZ,cG,cy];exact gD (by simp[bW])
set_option maxHeartbeats 4000000 in
theorem as3(nm:D)(k sz ot:Int)(s:S)(c:Cl)(hm:s.B.length<=250)(bQ:ev P (.call gn [.d (.ag [nm,I' k,I' sz,I' ot]),.d (.ag (s.ab true).row)] [])=some (.val (.d (I' 0)) []))(hb:cM c=false)(ho:c.op=64)(mU:num c.value=true)(bR:s.cl=false)(cJ:s.bn=false)(hl:¬(s.B.length:Int)<sz):
  ev P (.call iR [.d (.ag [nm,I' k,I' sz,I' ot]),.d (.ag (s.ab true).row),.d (.ag c.row)] [])=some (.val (.tu [.d (.ag (Ry.row ⟨{s.ab true with qn:=false,Q:=[kW c]},true,0,false,true,[]⟩)),.d (I' 0)]) []):=by
 have dr:ev P (.call jd [.d (qD true []),.d (I' c.task)] [])=some (.val (.tu [.d (I' 0),.d (.b false)]) []):=jW true [] c.task (by simp)
 have hop:=lz;have hcb:=lD c;rw[hb]at hcb;have cR:=D4 nm k sz ot s cJ (by omega)
 have o:=aoD sz s c s.B.length (bW s.B) (by simp) (by omega)
 rw[Wi sz s c s.B.length (bW s.B) (by simp) (by omega),aG hl,GG]at o
 have hk:(kW c).row=[I' c.task,I' c.op,I' (if c.op=64 then c.value else 0),I' c.prio,I' (-1)]:=rfl
 rw[au kA rfl];simp only[lA,lN,lB,lV,nx,um,S.ab,S.row,Cl.row,Ry.row,qD,gQ,gm,mY,ir,hk,bR,cJ,ho]at bQ dr hcb cR o⊢;simp[jw,j5,j6,lC,bR,mU,bQ,dr,hop,hcb,cR,o,aJ,aD,sub,aE,back,az,av,ak,cut,bA,aq,V.aY,bt,aX,bg,aO,aP,aZ,cG,cy]
set_option maxHeartbeats 4000000 in
theorem as4(nm:D)(k sz ot:Int)(s:S)(c:Cl)(hm:s.B.length<=250)(bQ:ev P (.call gn [.d (.ag [nm,I' k,I' sz,I' ot]),.d (.ag (s.ab true).row)] [])=some (.val (.d (I' 0)) []))(hb:cM c=false)(ho:c.op=65)(cJ:s.bn=false)(x y:Int)(B:List Int)(hB:s.B=x::y::B):
  ev P (.call iR [.d (.ag [nm,I' k,I' sz,I' ot]),.d (.ag (s.ab true).row),.d (.ag c.row)] [])=some (.val (.tu [.d (.ag (Ry.row ⟨{s.ab true with B:=y::B},false,x,true,true,[]⟩)),.d (I' 0)]) []):=by
 have dr:ev P (.call jd [.d (qD true []),.d (I' c.task)] [])=some (.val (.tu [.d (I' 0),.d (.b false)]) []):=jW true [] c.task (by simp)
 have hop:=lz;have hcb:=lD c;rw[hb]at hcb;have cR:=D4 nm k sz ot s cJ (by omega)
 have o:=aoF sz s c B.length x (bW (y::B)) (by simp)
 rw[aoz _ _ _ _ _ _ (by simp)]at o
 rw[au kA rfl];simp only[lA,lN,lB,lV,nx,um,S.ab,S.row,Cl.row,Ry.row,qD,gQ,gm,mY,ir,hB,cJ,ho]at bQ dr hcb cR o⊢;have h9:1+(B.length+1)<=B.length+1+1:=by omega
 simp[jw,h9,j5,j6,lC,hB,bQ,dr,hop,hcb,cR,o,aJ,aD,sub,aE,back,az,av,ak,cut,bA,aq,V.aY,bt,aX,bg,aO,aP,aZ,cG,cy]
set_option maxHeartbeats 4000000 in
theorem as5(nm:D)(k sz ot:Int)(s:S)(c:Cl)(hm:s.B.length<=250)(bQ:ev P (.call gn [.d (.ag [nm,I' k,I' sz,I' ot]),.d (.ag (s.ab true).row)] [])=some (.val (.d (I' 0)) []))(hb:cM c=false)(ho:c.op=65)(cJ:s.bn=false)(x:Int)(hB:s.B=[x]):
  ev P (.call iR [.d (.ag [nm,I' k,I' sz,I' ot]),.d (.ag (s.ab true).row),.d (.ag c.row)] [])=some (.val (.tu [.d (.ag (Ry.row ⟨{s.ab true with B:=[]},false,x,true,true,[]⟩)),.d (I' 0)]) []):=by
 have dr:ev P (.call jd [.d (qD true []),.d (I' c.task)] [])=some (.val (.tu [.d (I' 0),.d (.b false)]) []):=jW true [] c.task (by simp)
 have hop:=lz;have hcb:=lD c;rw[hb]at hcb;have cR:=D4 nm k sz ot s cJ (by omega)
 have o:=aoG sz s c x;rw[aoA]at o;rw[au kA rfl];simp only[lA,lN,lB,lV,nx,um,S.ab,S.row,Cl.row,Ry.row,qD,gQ,gm,mY,ir,hB,cJ,ho]at bQ dr hcb cR o⊢;simp[jw,j5,j6,lC,hB,bQ,dr,hop,hcb,cR,o,aJ,aD,sub,aE,back,az,av,ak,cut,bA,aq,V.aY,bt,aX,bg,aO,aP,aZ,cG,cy]
set_option maxHeartbeats 4000000 in
theorem as6(nm:D)(k sz ot:Int)(s:S)(c:Cl)(hm:s.B.length<=250)(bQ:ev P (.call gn [.d (.ag [nm,I' k,I' sz,I' ot]),.d (.ag (s.ab true).row)] [])=some (.val (.d (I' 0)) []))(hb:cM c=false)(ho:c.op=65)(cJ:s.bn=false)(hB:s.B=[])(bR:s.cl=true):
  ev P (.call iR [.d (.ag [nm,I' k,I' sz,I' ot]),.d (.ag (s.ab true).row),.d (.ag c.row)] [])=some (.val (.tu [.d (.ag (Ry.row ⟨s.ab true,false,0,false,true,[]⟩)),.d (I' 0)]) []):=by
 have dr:ev P (.call jd [.d (qD true []),.d (I' c.task)] [])=some (.val (.tu [.d (I' 0),.d (.b false)]) []):=jW true [] c.task (by simp)
 have hop:=lz;have hcb:=lD c;rw[hb]at hcb;have cR:=D4 nm k sz ot s cJ (by omega)
 have o:=aoH sz s c;rw[Wl,aN bR]at o;rw[au kA rfl];simp only[lA,lN,lB,lV,nx,um,S.ab,S.row,Cl.row,Ry.row,qD,gQ,gm,mY,ir,hB,bR,cJ,ho]at bQ dr hcb cR o⊢;simp[jw,j5,j6,lC,hB,bR,bQ,dr,hop,hcb,cR,o,aJ,aD,sub,aE,back,az,av,ak,cut,bA,aq,V.aY,bt,aX,bg,aO,aP,aZ,cG,cy]
set_option maxHeartbeats 4000000 in
theorem as7(nm:D)(k sz ot:Int)(s:S)(c:Cl)(hm:s.B.length<=250)(bQ:ev P (.call gn [.d (.ag [nm,I' k,I' sz,I' ot]),.d (.ag (s.ab true).row)] [])=some (.val (.d (I' 0)) []))(hb:cM c=false)(ho:c.op=65)(cJ:s.bn=false)(hB:s.B=[])(bR:s.cl=false):
  ev P (.call iR [.d (.ag [nm,I' k,I' sz,I' ot]),.d (.ag (s.ab true).row),.d (.ag c.row)] [])=some (.val (.tu [.d (.ag (Ry.row ⟨{s.ab true with qn:=false,Q:=[kW c]},true,0,false,true,[]⟩)),.d (I' 0)]) []):=by
 have dr:ev P (.call jd [.d (qD true []),.d (I' c.task)] [])=some (.val (.tu [.d (I' 0),.d (.b false)]) []):=jW true [] c.task (by simp)
 have hop:=lz;have hcb:=lD c;rw[hb]at hcb;have cR:=D4 nm k sz ot s cJ (by omega)
 have o:=aoH sz s c;rw[Wl,aG (by rw[bR];simp),GG]at o
 have hk:(kW c).row=[I' c.task,I' c.op,I' (if c.op=64 then c.value else 0),I' c.prio,I' (-1)]:=rfl
 rw[au kA rfl];simp only[lA,lN,lB,lV,nx,um,S.ab,S.row,Cl.row,Ry.row,qD,gQ,gm,mY,ir,hk,hB,bR,cJ,ho]at bQ dr hcb cR o⊢;simp[jw,j5,j6,lC,hB,bR,bQ,dr,hop,hcb,cR,o,aJ,aD,sub,aE,back,az,av,ak,cut,bA,aq,V.aY,bt,aX,bg,aO,aP,aZ,cG,cy]
set_option maxHeartbeats 4000000 in
theorem as8(nm:D)(k sz ot:Int)(s:S)(c:Cl)(hm:s.B.length<=250)(bQ:ev P (.call gn [.d (.ag [nm,I' k,I' sz,I' ot]),.d (.ag (s.ab true).row)] [])=some (.val (.d (I' 0)) []))(hb:cM c=false)(ho:c.op=66)(bR:s.cl=false)(cJ:s.bn=false):
  ev P (.call iR [.d (.ag [nm,I' k,I' sz,I' ot]),.d (.ag (s.ab true).row),.d (.ag c.row)] [])=some (.val (.tu [.d (.ag (Ry.row ⟨{s.ab true with cl:=true},false,0,true,true,[]⟩)),.d (I' 0)]) []):=by
 have dr:ev P (.call jd [.d (qD true []),.d (I' c.task)] [])=some (.val (.tu [.d (I' 0),.d (.b false)]) []):=jW true [] c.task (by simp)
 have hop:=lz;have hcb:=lD c;rw[hb]at hcb;have cR:=D4 nm k sz ot s cJ (by omega)
 have o:=aoJ sz s c s.B.length (bW s.B);rw[aoB]at o;rw[au kA rfl];simp only[lA,lN,lB,lV,nx,um,S.ab,S.row,Cl.row,Ry.row,qD,gQ,gm,mY,ir,bR,cJ,ho]at bQ dr hcb cR o⊢;simp[jw,j5,j6,lC,bR,bQ,dr,hop,hcb,cR,o,aJ,aD,sub,aE,back,az,av,ak,cut,bA,aq,V.aY,bt,aX,bg,aO,aP,aZ,cG,cy]
set_option maxHeartbeats 4000000 in
theorem as9(nm:D)(k sz ot:Int)(s:S)(c:Cl)(hm:s.B.length<=250)(bQ:ev P (.call gn [.d (.ag [nm,I' k,I' sz,I' ot]),.d (.ag (s.ab true).row)] [])=some (.val (.d (I' 0)) []))(hb:cM c=false)(ho:c.op=64)(mU:num c.value=true)(bR:s.cl=false)(cJ:s.bn=true)(hB:s.B=[])(hl:0<sz):
  ev P (.call iR [.d (.ag [nm,I' k,I' sz,I' ot]),.d (.ag (s.ab true).row),.d (.ag c.row)] [])=some (.val (.tu [.d (.ag (Ry.row ⟨{s.ab true with bn:=false,B:=s.B++[c.value]},false,0,true,true,[]⟩)),.d (I' 0)]) []):=by
 have dr:ev P (.call jd [.d (qD true []),.d (I' c.task)] [])=some (.val (.tu [.d (I' 0),.d (.b false)]) []):=jW true [] c.task (by simp)
 have hop:=lz;have hcb:=lD c;rw[hb]at hcb;have cR:=J6 nm k sz ot s cJ;have o:=aoE sz s c;rw[Wj,aN hl]at o;rw[au kA rfl];simp only[lA,lN,lB,lV,nx,um,S.ab,S.row,Cl.row,Ry.row,qD,gQ,gm,mY,ir,hB,bR,cJ,ho]at bQ dr hcb cR o⊢;simp[jw,j5,j6,lC,hB,bR,mU,bQ,dr,hop,hcb,cR,o,aJ,aD,sub,aE,back,az,av,ak,cut,bA,aq,V.aY,bt,aX,bg,aO,aP,aZ,cG,cy]
set_option maxHeartbeats 4000000 in
theorem ata(nm:D)(k sz ot:Int)(s:S)(c:Cl)(hm:s.B.length<=250)(bQ:ev P (.call gn [.d (.ag [nm,I' k,I' sz,I' ot]),.d (.ag (s.ab true).row)] [])=some (.val (.d (I' 0)) []))(hb:cM c=false)(ho:c.op=64)(mU:num c.value=true)(bR:s.cl=false)(cJ:s.bn=true)(hB:s.B=[])(hl:¬0<sz):
  ev P (.call iR [.d (.ag [nm,I' k,I' sz,I' ot]),.d (.ag (s.ab true).row),.d (.ag c.row)] [])=some (.val (.tu [.d (.ag (Ry.row ⟨{s.ab true with qn:=false,Q:=[kW c]},true,0,false,true,[]⟩)),.d (I' 0)]) []):=by
 have dr:ev P (.call jd [.d (qD true []),.d (I' c.task)] [])=some (.val (.tu [.d (I' 0),.d (.b false)]) []):=jW true [] c.task (by simp)
 have hop:=lz;have hcb:=lD c;rw[hb]at hcb;have cR:=J6 nm k sz ot s cJ;have o:=aoE sz s c;rw[Wj,aG hl,GH]at o;have hk:(kW c).row=[I' c.task,I' c.op,I' (if c.op=64 then c.value else 0),I' c.prio,I' (-1)]:=rfl
 rw[au kA rfl];simp only[lA,lN,lB,lV,nx,um,S.ab,S.row,Cl.row,Ry.row,qD,gQ,gm,mY,ir,hk,hB,bR,cJ,ho]at bQ dr hcb cR o⊢;simp[jw,j5,j6,lC,hB,bR,mU,bQ,dr,hop,hcb,cR,o,aJ,aD,sub,aE,back,az,av,ak,cut,bA,aq,V.aY,bt,aX,bg,aO,aP,aZ,cG,cy]
set_option maxHeartbeats 4000000 in
theorem atb(nm:D)(k sz ot:Int)(s:S)(c:Cl)(hm:s.B.length<=250)(bQ:ev P (.call gn [.d (.ag [nm,I' k,I' sz,I' ot]),.d (.ag (s.ab true).row)] [])=some (.val (.d (I' 0)) []))(hb:cM c=false)(ho:c.op=65)(cJ:s.bn=true)(hB:s.B=[])(bR:s.cl=true):
  ev P (.call iR [.d (.ag [nm,I' k,I' sz,I' ot]),.d (.ag (s.ab true).row),.d (.ag c.row)] [])=some (.val (.tu [.d (.ag (Ry.row ⟨s.ab true,false,0,false,true,[]⟩)),.d (I' 0)]) []):=by
 have dr:ev P (.call jd [.d (qD true []),.d (I' c.task)] [])=some (.val (.tu [.d (I' 0),.d (.b false)]) []):=jW true [] c.task (by simp)
 have hop:=lz;have hcb:=lD c;rw[hb]at hcb;have cR:=J6 nm k sz ot s cJ;have o:=aoI sz s c;rw[Wm,aN bR]at o;rw[au kA rfl];simp only[lA,lN,lB,lV,nx,um,S.ab,S.row,Cl.row,Ry.row,qD,gQ,gm,mY,ir,hB,bR,cJ,ho]at bQ dr hcb cR o⊢;simp[jw,j5,j6,lC,hB,bR,bQ,dr,hop,hcb,cR,o,aJ,aD,sub,aE,back,az,av,ak,cut,bA,aq,V.aY,bt,aX,bg,aO,aP,aZ,cG,cy]
set_option maxHeartbeats 4000000 in
theorem atc(nm:D)(k sz ot:Int)(s:S)(c:Cl)(hm:s.B.length<=250)(bQ:ev P (.call gn [.d (.ag [nm,I' k,I' sz,I' ot]),.d (.ag (s.ab true).row)] [])=some (.val (.d (I' 0)) []))(hb:cM c=false)(ho:c.op=65)(cJ:s.bn=true)(hB:s.B=[])(bR:s.cl=false):
  ev P (.call iR [.d (.ag [nm,I' k,I' sz,I' ot]),.d (.ag (s.ab true).row),.d (.ag c.row)] [])=some (.val (.tu [.d (.ag (Ry.row ⟨{s.ab true with qn:=false,Q:=[kW c]},true,0,false,true,[]⟩)),.d (I' 0)]) []):=by
 have dr:ev P (.call jd [.d (qD true []),.d (I' c.task)] [])=some (.val (.tu [.d (I' 0),.d (.b false)]) []):=jW true [] c.task (by simp)
 have hop:=lz;have hcb:=lD c;rw[hb]at hcb;have cR:=J6 nm k sz ot s cJ;have o:=aoI sz s c;rw[Wm,aG (by rw[bR];simp),GH]at o
 have hk:(kW c).row=[I' c.task,I' c.op,I' (if c.op=64 then c.value else 0),I' c.prio,I' (-1)]:=rfl
 rw[au kA rfl];simp only[lA,lN,lB,lV,nx,um,S.ab,S.row,Cl.row,Ry.row,qD,gQ,gm,mY,ir,hk,hB,bR,cJ,ho]at bQ dr hcb cR o⊢;simp[jw,j5,j6,lC,hB,bR,bQ,dr,hop,hcb,cR,o,aJ,aD,sub,aE,back,az,av,ak,cut,bA,aq,V.aY,bt,aX,bg,aO,aP,aZ,cG,cy]
set_option maxHeartbeats 4000000 in
theorem atd(nm:D)(k sz ot:Int)(s:S)(c:Cl)(hm:s.B.length<=250)(bQ:ev P (.call gn [.d (.ag [nm,I' k,I' sz,I' ot]),.d (.ag (s.ab true).row)] [])=some (.val (.d (I' 0)) []))(hb:cM c=false)(ho:c.op=66)(bR:s.cl=false)(cJ:s.bn=true)(hB:s.B=[]):
  ev P (.call iR [.d (.ag [nm,I' k,I' sz,I' ot]),.d (.ag (s.ab true).row),.d (.ag c.row)] [])=some (.val (.tu [.d (.ag (Ry.row ⟨{s.ab true with cl:=true},false,0,true,true,[]⟩)),.d (I' 0)]) []):=by
 have dr:ev P (.call jd [.d (qD true []),.d (I' c.task)] [])=some (.val (.tu [.d (I' 0),.d (.b false)]) []):=jW true [] c.task (by simp)
 have hop:=lz;have hcb:=lD c;rw[hb]at hcb;have cR:=J6 nm k sz ot s cJ;have o:=aoK sz s c;rw[aoC]at o;rw[au kA rfl];simp only[lA,lN,lB,lV,nx,um,S.ab,S.row,Cl.row,Ry.row,qD,gQ,gm,mY,ir,hB,bR,cJ,ho]at bQ dr hcb cR o⊢;simp[jw,j5,j6,lC,hB,bR,bQ,dr,hop,hcb,cR,o,aJ,aD,sub,aE,back,az,av,ak,cut,bA,aq,V.aY,bt,aX,bg,aO,aP,aZ,cG,cy]
structure Ch(sz:Int)(s:S):Prop where
 own:s.own = -1
 cnt:s.cnt=0
 tm:s.time=0
 val:s.val=0
 h:s.H=[]
 c:s.C=[]
 bl:(s.B.length:Int)<=sz
 nb:∀n∈s.B,num n=true
 len:s.Q.length<=96
 w:∀w∈s.Q,dU w=true/\(w.op=64\/w.op=65/\w.value=0)
 nc:s.Q.Pairwise λa b=>tc b a=false
 cl:s.cl=true->s.Q=[]
 vs:∀w∈s.Q,w.op=64->(s.B.length:Int)=sz/\∀x∈s.Q,x.op=65->x.task=w.task
 vr:∀w∈s.Q,w.op=65->s.B=[]/\∀x∈s.Q,x.op=64->x.task=w.task
theorem ate:∀(l pre:List W),ep fC pre l=true↔(∀w∈l,BY w=false)/\(∀x∈pre,∀w∈l,tc w x=false)/\l.Pairwise λa b=>tc b a=false
 | [],pre=>by simp[ep]
 |a::r,pre=>by
  unfold ep;rw[bD,ate r (pre++[a]),gE];have e:fC pre a=true↔BY a=false/\∀x∈pre,tc a x=false:=by unfold fC;simp
  rw[e];constructor
  .rintro⟨⟨h1,h2⟩,h3,h4,h5⟩
   refine⟨λw hw=>?_,λx hx w hw=>?_,λb hb=>h4 a (by simp) b hb,h5⟩
   .rcases dD.1 hw with rfl |hw;exact h1;exact h3 w hw
   .rcases dD.1 hw with rfl |hw;exact h2 x hx;exact h4 x (by simp[hx]) w hw
  .rintro⟨h1,h2,h3,h4⟩
   refine⟨⟨h1 a (by simp),λx hx=>h2 x hx a (by simp)⟩,λw hw=>h1 w (by simp[hw]),λx hx w hw=>?_,h4⟩
   rcases dm.1 hx with hx |hx
   .exact h2 x hx w (by simp[hw])
   .simp at hx;rw[hx];exact h3 w hw
theorem PV{Q:List W}{op t:Int}:uh Q op t=false↔∀x∈Q,x.op=op->x.task=t:=by
 unfold uh;rw[oK];simp
theorem atf{α β:Type}{a:List α}{b:List β}:decide ((0:Int)<(a.length:Int)+b.length)=false↔a=[]/\b=[]:=by
 cases a<;>cases b<;>simp<;>omega
theorem PW{sz ot:Int}{s:S}:dg 6 sz ot s=0↔gM 6 sz ot=0/\Ch sz s:=by
 have e:dg 6 sz ot s=ck (gM 6 sz ot) (xm sz s):=rfl;rw[e,AF];refine KR Iff.rfl ?_;unfold xm wx;simp only[bD,iZ,xL,Cr,KO,kM,dO,xA,ate,oK];rw[<-decide_eq_false_iff_not (p:=(0:Int)<_),atf];have PX:∀w:W,BY w=false↔w.op=64\/w.op=65/\w.value=0:=λw=>by
  unfold BY;simp;constructor
  .intro h;by_cases vi:w.op=64;exact .inl vi;exact .inr (h vi)
  .rintro(h |h) h2;exact absurd h h2;exact h
 have wy:∀w:W,(w.op=64\/w.op=65/\w.value=0)->(¬yO sz s.B.length s.Q w=true↔(w.op=64->(s.B.length:Int)=sz/\∀x∈s.Q,x.op=65->x.task=w.task)/\(w.op=65->s.B=[]/\∀x∈s.Q,x.op=64->x.task=w.task)):=by
  intro w hw;unfold yO;rcases hw with h |⟨h,_⟩
  .simp only[h,KJ,dH,Cr,nE,KN,PV]
   simp
  .have vi:(w.op==64)=false:=by simp[h]
   simp only[vi,h,fG,dK,Cr,nE,KN,PV];simp;exact λ_=>PV
 have vB:((s.Q.length:Int)=0)↔s.Q=[]:=by
  constructor
  .intro h;exact AQ (by omega)
  .intro h;rw[h];rfl
 constructor
 .rintro⟨⟨⟨⟨⟨⟨h1,h2⟩,h3⟩,h4⟩,h5,h6⟩,h7⟩,h8,⟨h9,iV⟩,⟨jr,_,kU⟩,kC,sU⟩
  refine⟨h1,h2,h3,h4,h5,h6,by omega,λn hn=>by simpa using h8 n hn,h9,λw hw=>⟨iV w hw,(PX w).1 (jr w hw)⟩,kU,λh=>?_,λw hw=>?_,λw hw=>?_⟩
  .rcases kC with kC |kC
   .rw[h]at kC;cases kC
   .exact vB.1 kC
  .exact((wy w ((PX w).1 (jr w hw))).1 (sU w hw)).1
  .exact((wy w ((PX w).1 (jr w hw))).1 (sU w hw)).2
 .rintro⟨h1,h2,h3,h4,h5,h6,h7,h8,h9,iV,kU,kC,sU,o9⟩
  refine⟨⟨⟨⟨⟨⟨h1,h2⟩,h3⟩,h4⟩,h5,h6⟩,by omega⟩,λn hn=>by simpa using h8 n hn,⟨h9,λw hw=>(iV w hw).1⟩,⟨λw hw=>(PX w).2 (iV w hw).2,by simp,kU⟩,?_,λw hw=>(wy w (iV w hw).2).2 ⟨sU w hw,o9 w hw⟩⟩
  cases hc:s.cl
  .exact .inl rfl
  .exact .inr (vB.2 (kC hc))
def aC(B:List Int)(cl:Bool):S:=⟨-1,0,0,false,[],false,[],false,B,false,[],cl,0⟩
theorem atg{sz ot:Int}{B:List Int}{cl:Bool}(hn:gM 6 sz ot=0)(h:(B.length:Int)<=dc sz)(hb:∀n∈B,num n=true):cY 6 sz ot (aC B cl)=true:=by
 have hz:gM 6 (dc sz) ot=0:=by
  unfold gM dc at *;simp at hn⊢;split<;>omega
 unfold cY gS gq jq iG ni wx aC;simp[hn,ck,hz];exact⟨by omega,hb⟩
theorem Xa{sz ot:Int}{B:List Int}{cl:Bool}{c:Cl}(hn:gM 6 sz ot=0)(h:(B.length:Int)<=dc sz)(hb:∀n∈B,num n=true)(hc:cM c=false)(ho:c.op=64\/c.op=65\/c.op=66)(hv:c.op=64->num c.value=true)(he:(eC (dc sz) (aC B cl) c).2.2.2=0):eE 6 sz ot (aC B cl) c=eC (dc sz) (aC B cl) c :=
 vH (atg hn h hb) hc (by unfold dJ;rcases ho with h |h |h<;>simp[h]) (by unfold fit;rcases ho with h |h |h<;>simp[h];exact hv h) he
def xH(now:Int)(w:W)(v:Int)(ok:Bool):Cp:=⟨⟨w.task,w.op,w.value,w.prio,now⟩,⟨w.task,w.op,v,ok,w.case⟩⟩
theorem ath{k:Wk}{w:W}:∀{Q:List W}{p:Int×Int},Q.Pairwise (λa b=>tc b a=false)->w∈Q->k.task=w.task->k.op=w.op->k.case=w.case->xC k Q p=(w.value,w.prio)
 | [],_,_,h,_,_,_=>by simp at h
 |x::r,p,hd,h,h1,h2,h3=>by
  rw[gE]at hd;unfold xC;by_cases hr:w∈r
  .exact ath hd.2 hr h1 h2 h3
  .rcases dD.1 h with rfl |h
   .have hm:yZ k w=true:=by unfold yZ;simp[h1,h2,h3]
    rw[hm,aN rfl]
    have:∀(l:List W)(p:Int×Int),(∀y∈l,tc y w=false)->xC k l p=p:=by
     intro l;induction l with
     |nil=>intro p _;rfl
     |cons y l ih =>
      intro p hy;unfold xC;have h0:=hy y (by simp)
      have hm:yZ k y=false:=by
       cases hm:yZ k y
       .rfl
       .unfold yZ at hm
        simp at hm;unfold tc at h0;rw[hm.1.1,hm.2]at h0;simp[h1,h3]at h0
      rw[hm,aG (by simp)]
      exact ih p λz hz=>hy z (by simp[hz])
    exact this r _ hd.1
   .exact absurd h hr
theorem ati{Q:List W}{w:W}(now v:Int)(ok:Bool)(hd:Q.Pairwise λa b=>tc b a=false)(h:w∈Q):iC Q now ⟨w.task,w.op,v,ok,w.case⟩=xH now w v ok:=by
 unfold iC xH;rw[ath (k:=⟨w.task,w.op,v,ok,w.case⟩) hd h rfl rfl rfl]
theorem Xb{op:Int}{Q:List W}{w:W}(h:fW op Q=some w):w∈Q/\w.op=op:=by
 unfold fW at h;exact⟨Qq h,by simpa using Hp h⟩
theorem Xc{op:Int}{Q:List W}(h:fW op Q=none):∀w∈Q,w.op≠op:=by
 unfold fW at h;rw[KM]at h;intro w hw;simpa using h w hw
def Eh(s:S)(c:Cl):Int:=if cM c then 2 else if(c.op != 64&&c.op != 65&&c.op != 66)then 8 else if(c.op==64&&!num c.value)then 2 else if fK s c.task then 17 else if(s.cl&&c.op==64)then 19 else if(s.cl&&c.op==66)then 17 else 0
end Go.VS.Sp
